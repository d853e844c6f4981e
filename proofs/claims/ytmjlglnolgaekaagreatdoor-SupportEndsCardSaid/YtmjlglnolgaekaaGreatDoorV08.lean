/- The machine's code is the program's. -/
import Derived.Test.YtmjlglnolgaekaaGreatDoorV06
import Derived.Test.YtmjlglnolgaekaaGreatDoorV05
import Derived.Test.YtmjlglnolgaekaaGreatDoorProg
set_option linter.unusedSimpArgs false
set_option linter.unusedVariables false
set_option maxRecDepth 100000
namespace Go.Vm
open Go.Proofs
theorem ok194 : chkFun Tryz.prog T0 194 v194 = true := by decide +kernel
theorem ok195 : chkFun Tryz.prog T0 195 v195 = true := by decide +kernel
theorem ok196 : chkFun Tryz.prog T0 196 v196 = true := by decide +kernel
theorem ok197 : chkFun Tryz.prog T0 197 v197 = true := by decide +kernel
theorem ok198 : chkFun Tryz.prog T0 198 v198 = true := by decide +kernel
theorem ok199 : chkFun Tryz.prog T0 199 v199 = true := by decide +kernel
theorem ok203 : chkFun Tryz.prog T0 203 v203 = true := by decide +kernel
theorem ok204 : chkFun Tryz.prog T0 204 v204 = true := by decide +kernel
theorem ok205 : chkFun Tryz.prog T0 205 v205 = true := by decide +kernel
theorem ok206 : chkFun Tryz.prog T0 206 v206 = true := by decide +kernel
theorem ok207 : chkFun Tryz.prog T0 207 v207 = true := by decide +kernel
theorem ok208 : chkFun Tryz.prog T0 208 v208 = true := by decide +kernel
theorem ok209 : chkFun Tryz.prog T0 209 v209 = true := by decide +kernel
theorem ok210 : chkFun Tryz.prog T0 210 v210 = true := by decide +kernel
theorem ok212 : chkFun Tryz.prog T0 212 v212 = true := by decide +kernel
theorem ok213 : chkFun Tryz.prog T0 213 v213 = true := by decide +kernel
theorem ok214 : chkFun Tryz.prog T0 214 v214 = true := by decide +kernel
theorem ok215 : chkFun Tryz.prog T0 215 v215 = true := by decide +kernel
theorem ok216 : chkFun Tryz.prog T0 216 v216 = true := by decide +kernel
theorem ok217 : chkFun Tryz.prog T0 217 v217 = true := by decide +kernel
theorem ok218 : chkFun Tryz.prog T0 218 v218 = true := by decide +kernel
theorem ok219 : chkFun Tryz.prog T0 219 v219 = true := by decide +kernel
theorem ok221 : chkFun Tryz.prog T0 221 v221 = true := by decide +kernel
theorem ok222 : chkFun Tryz.prog T0 222 v222 = true := by decide +kernel
theorem ok223 : chkFun Tryz.prog T0 223 v223 = true := by decide +kernel
theorem ok224 : chkFun Tryz.prog T0 224 v224 = true := by decide +kernel
theorem ok225 : chkFun Tryz.prog T0 225 v225 = true := by decide +kernel
theorem ok226 : chkFun Tryz.prog T0 226 v226 = true := by decide +kernel
theorem ok227 : chkFun Tryz.prog T0 227 v227 = true := by decide +kernel
theorem ok228 : chkFun Tryz.prog T0 228 v228 = true := by decide +kernel
theorem ok229 : chkFun Tryz.prog T0 229 v229 = true := by decide +kernel
theorem ok230 : chkFun Tryz.prog T0 230 v230 = true := by decide +kernel
theorem ok231 : chkFun Tryz.prog T0 231 v231 = true := by decide +kernel
theorem ok232 : chkFun Tryz.prog T0 232 v232 = true := by decide +kernel
theorem ok235 : chkFun Tryz.prog T0 235 v235 = true := by decide +kernel
theorem ok236 : chkFun Tryz.prog T0 236 v236 = true := by decide +kernel
theorem ok237 : chkFun Tryz.prog T0 237 v237 = true := by decide +kernel
theorem ok238 : chkFun Tryz.prog T0 238 v238 = true := by decide +kernel
theorem ok239 : chkFun Tryz.prog T0 239 v239 = true := by decide +kernel
theorem ok240 : chkFun Tryz.prog T0 240 v240 = true := by decide +kernel
theorem ok241 : chkFun Tryz.prog T0 241 v241 = true := by decide +kernel
theorem ok243 : chkFun Tryz.prog T0 243 v243 = true := by decide +kernel
theorem ok244 : chkFun Tryz.prog T0 244 v244 = true := by decide +kernel
theorem ok245 : chkFun Tryz.prog T0 245 v245 = true := by decide +kernel
theorem ok246 : chkFun Tryz.prog T0 246 v246 = true := by decide +kernel
theorem ok247 : chkFun Tryz.prog T0 247 v247 = true := by decide +kernel
theorem ok248 : chkFun Tryz.prog T0 248 v248 = true := by decide +kernel
theorem ok249 : chkFun Tryz.prog T0 249 v249 = true := by decide +kernel
theorem ok250 : chkFun Tryz.prog T0 250 v250 = true := by decide +kernel
theorem ok251 : chkFun Tryz.prog T0 251 v251 = true := by decide +kernel
theorem ok252 : chkFun Tryz.prog T0 252 v252 = true := by decide +kernel
theorem ok253 : chkFun Tryz.prog T0 253 v253 = true := by decide +kernel
theorem ok254 : chkFun Tryz.prog T0 254 v254 = true := by decide +kernel
theorem ok255 : chkFun Tryz.prog T0 255 v255 = true := by decide +kernel
theorem ok256 : chkFun Tryz.prog T0 256 v256 = true := by decide +kernel
theorem ok257 : chkFun Tryz.prog T0 257 v257 = true := by decide +kernel
theorem ok258 : chkFun Tryz.prog T0 258 v258 = true := by decide +kernel
theorem ok259 : chkFun Tryz.prog T0 259 v259 = true := by decide +kernel
theorem ok260 : chkFun Tryz.prog T0 260 v260 = true := by decide +kernel
theorem ok261 : chkFun Tryz.prog T0 261 v261 = true := by decide +kernel
theorem ok262 : chkFun Tryz.prog T0 262 v262 = true := by decide +kernel
theorem ok263 : chkFun Tryz.prog T0 263 v263 = true := by decide +kernel
theorem ok264 : chkFun Tryz.prog T0 264 v264 = true := by decide +kernel
theorem ok265 : chkFun Tryz.prog T0 265 v265 = true := by decide +kernel
theorem ok266 : chkFun Tryz.prog T0 266 v266 = true := by decide +kernel
theorem ok267 : chkFun Tryz.prog T0 267 v267 = true := by decide +kernel
theorem ok268 : chkFun Tryz.prog T0 268 v268 = true := by decide +kernel
theorem gen251 : chkGen Tryz.prog 251 = true := by decide +kernel
end Go.Vm
