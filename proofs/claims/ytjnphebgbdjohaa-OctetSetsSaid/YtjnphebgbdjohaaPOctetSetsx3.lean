-- Written by a program of this session (wip/tools/myprint.sh)
import Derived.Test.YtjnphebgbdjohaaPOctetSetsx0
import Derived.Test.YtjnphebgbdjohaaPOctetSetsx1
import Derived.Test.YtjnphebgbdjohaaPOctetSetsx2
namespace Go.Proofs.Ytjnphebgbdjohaa.POctetSets
open Go.RowKit Go.Proofs.YtjnphebgbdjohaaW.PrintWords Go.Proofs.YtjnphebgbdjohaaW.PrintLast Go.Proofs.YtjnphebgbdjohaaW.PrintMore
attribute [local go_sem] max2_int min2_int max_two min_two max_three min_three max_four min_four   -- for this text's walks alone
set_option linter.unusedVariables false
set_option linter.unusedSimpArgs false

/-! ### parallaxlaw1_OctetSets: function 5 -/
def parallaxlaw1_OctetSets.f (k : Nat) (a0 : Int) : Option (Bool) := (parallaxlaw1_known.f k).bind fun t135 => (if t135 = true then ((octet_Hex.f a0).bind fun bt136 => ((octet_Digit.f a0).bind fun t138 => (if t138 = true then ((octet_Token.f a0).bind fun t139 => (if t139 = true then (if bt136.2 = true then ((octet_Token.f a0).bind fun t140 => (if t140 = true then ((octet_Visible.f a0).bind fun t141 => (if t141 = true then ((octet_Visible.f a0).bind fun t142 => (if t142 = true then ((octet_Text.f a0).bind fun t143 => (if t143 = true then ((octet_Blank.f a0).bind fun t144 => (if t144 = true then ((octet_Text.f a0).bind fun t145 => (if t145 = true then ((octet_Visible.f a0).bind fun t146 => (if t146 = true then ((octet_Control.f a0).bind fun t147 => (if t147 = true then (some false) else ((octet_Blank.f a0).bind fun t148 => (if a0 = 9 then (if (t148 == true) = true then ((octet_Text.f a0).bind fun t149 => ((octet_Control.f a0).bind fun t150 => (if t150 = true then (if (t149 == (a0 == 9)) = true then ((octet_Token.f a0).bind fun t151 => (some t151)) else (some false)) else (if (t149 == true) = true then ((octet_Token.f a0).bind fun t152 => (some t152)) else (some false))))) else (some false)) else (if (t148 == (a0 == 32)) = true then ((octet_Text.f a0).bind fun t153 => ((octet_Control.f a0).bind fun t154 => (if t154 = true then (if (t153 == (a0 == 9)) = true then ((octet_Token.f a0).bind fun t155 => (some t155)) else (some false)) else (if (t153 == true) = true then ((octet_Token.f a0).bind fun t156 => (some t156)) else (some false))))) else (some false)))))) else ((octet_Blank.f a0).bind fun t157 => (if a0 = 9 then (if (t157 == true) = true then ((octet_Text.f a0).bind fun t158 => ((octet_Control.f a0).bind fun t159 => (if t159 = true then (if (t158 == (a0 == 9)) = true then ((octet_Token.f a0).bind fun t160 => (some t160)) else (some false)) else (if (t158 == true) = true then ((octet_Token.f a0).bind fun t161 => (some t161)) else (some false))))) else (some false)) else (if (t157 == (a0 == 32)) = true then ((octet_Text.f a0).bind fun t162 => ((octet_Control.f a0).bind fun t163 => (if t163 = true then (if (t162 == (a0 == 9)) = true then ((octet_Token.f a0).bind fun t164 => (some t164)) else (some false)) else (if (t162 == true) = true then ((octet_Token.f a0).bind fun t165 => (some t165)) else (some false))))) else (some false)))))) else (some false))) else ((octet_Visible.f a0).bind fun t166 => (if t166 = true then ((octet_Control.f a0).bind fun t167 => (if t167 = true then (some false) else ((octet_Blank.f a0).bind fun t168 => (if a0 = 9 then (if (t168 == true) = true then ((octet_Text.f a0).bind fun t169 => ((octet_Control.f a0).bind fun t170 => (if t170 = true then (if (t169 == (a0 == 9)) = true then ((octet_Token.f a0).bind fun t171 => (some t171)) else (some false)) else (if (t169 == true) = true then ((octet_Token.f a0).bind fun t172 => (some t172)) else (some false))))) else (some false)) else (if (t168 == (a0 == 32)) = true then ((octet_Text.f a0).bind fun t173 => ((octet_Control.f a0).bind fun t174 => (if t174 = true then (if (t173 == (a0 == 9)) = true then ((octet_Token.f a0).bind fun t175 => (some t175)) else (some false)) else (if (t173 == true) = true then ((octet_Token.f a0).bind fun t176 => (some t176)) else (some false))))) else (some false)))))) else ((octet_Blank.f a0).bind fun t177 => (if a0 = 9 then (if (t177 == true) = true then ((octet_Text.f a0).bind fun t178 => ((octet_Control.f a0).bind fun t179 => (if t179 = true then (if (t178 == (a0 == 9)) = true then ((octet_Token.f a0).bind fun t180 => (some t180)) else (some false)) else (if (t178 == true) = true then ((octet_Token.f a0).bind fun t181 => (some t181)) else (some false))))) else (some false)) else (if (t177 == (a0 == 32)) = true then ((octet_Text.f a0).bind fun t182 => ((octet_Control.f a0).bind fun t183 => (if t183 = true then (if (t182 == (a0 == 9)) = true then ((octet_Token.f a0).bind fun t184 => (some t184)) else (some false)) else (if (t182 == true) = true then ((octet_Token.f a0).bind fun t185 => (some t185)) else (some false))))) else (some false)))))))) else (some false))) else ((octet_Blank.f a0).bind fun t186 => (if t186 = true then ((octet_Text.f a0).bind fun t187 => (if t187 = true then ((octet_Visible.f a0).bind fun t188 => (if t188 = true then ((octet_Control.f a0).bind fun t189 => (if t189 = true then (some false) else ((octet_Blank.f a0).bind fun t190 => (if a0 = 9 then (if (t190 == true) = true then ((octet_Text.f a0).bind fun t191 => ((octet_Control.f a0).bind fun t192 => (if t192 = true then (if (t191 == (a0 == 9)) = true then ((octet_Token.f a0).bind fun t193 => (some t193)) else (some false)) else (if (t191 == true) = true then ((octet_Token.f a0).bind fun t194 => (some t194)) else (some false))))) else (some false)) else (if (t190 == (a0 == 32)) = true then ((octet_Text.f a0).bind fun t195 => ((octet_Control.f a0).bind fun t196 => (if t196 = true then (if (t195 == (a0 == 9)) = true then ((octet_Token.f a0).bind fun t197 => (some t197)) else (some false)) else (if (t195 == true) = true then ((octet_Token.f a0).bind fun t198 => (some t198)) else (some false))))) else (some false)))))) else ((octet_Blank.f a0).bind fun t199 => (if a0 = 9 then (if (t199 == true) = true then ((octet_Text.f a0).bind fun t200 => ((octet_Control.f a0).bind fun t201 => (if t201 = true then (if (t200 == (a0 == 9)) = true then ((octet_Token.f a0).bind fun t202 => (some t202)) else (some false)) else (if (t200 == true) = true then ((octet_Token.f a0).bind fun t203 => (some t203)) else (some false))))) else (some false)) else (if (t199 == (a0 == 32)) = true then ((octet_Text.f a0).bind fun t204 => ((octet_Control.f a0).bind fun t205 => (if t205 = true then (if (t204 == (a0 == 9)) = true then ((octet_Token.f a0).bind fun t206 => (some t206)) else (some false)) else (if (t204 == true) = true then ((octet_Token.f a0).bind fun t207 => (some t207)) else (some false))))) else (some false)))))) else (some false))) else ((octet_Visible.f a0).bind fun t208 => (if t208 = true then ((octet_Control.f a0).bind fun t209 => (if t209 = true then (some false) else ((octet_Blank.f a0).bind fun t210 => (if a0 = 9 then (if (t210 == true) = true then ((octet_Text.f a0).bind fun t211 => ((octet_Control.f a0).bind fun t212 => (if t212 = true then (if (t211 == (a0 == 9)) = true then ((octet_Token.f a0).bind fun t213 => (some t213)) else (some false)) else (if (t211 == true) = true then ((octet_Token.f a0).bind fun t214 => (some t214)) else (some false))))) else (some false)) else (if (t210 == (a0 == 32)) = true then ((octet_Text.f a0).bind fun t215 => ((octet_Control.f a0).bind fun t216 => (if t216 = true then (if (t215 == (a0 == 9)) = true then ((octet_Token.f a0).bind fun t217 => (some t217)) else (some false)) else (if (t215 == true) = true then ((octet_Token.f a0).bind fun t218 => (some t218)) else (some false))))) else (some false)))))) else ((octet_Blank.f a0).bind fun t219 => (if a0 = 9 then (if (t219 == true) = true then ((octet_Text.f a0).bind fun t220 => ((octet_Control.f a0).bind fun t221 => (if t221 = true then (if (t220 == (a0 == 9)) = true then ((octet_Token.f a0).bind fun t222 => (some t222)) else (some false)) else (if (t220 == true) = true then ((octet_Token.f a0).bind fun t223 => (some t223)) else (some false))))) else (some false)) else (if (t219 == (a0 == 32)) = true then ((octet_Text.f a0).bind fun t224 => ((octet_Control.f a0).bind fun t225 => (if t225 = true then (if (t224 == (a0 == 9)) = true then ((octet_Token.f a0).bind fun t226 => (some t226)) else (some false)) else (if (t224 == true) = true then ((octet_Token.f a0).bind fun t227 => (some t227)) else (some false))))) else (some false)))))))))) else (some false))) else ((octet_Visible.f a0).bind fun t228 => (if t228 = true then ((octet_Text.f a0).bind fun t229 => (if t229 = true then ((octet_Blank.f a0).bind fun t230 => (if t230 = true then ((octet_Text.f a0).bind fun t231 => (if t231 = true then ((octet_Visible.f a0).bind fun t232 => (if t232 = true then ((octet_Control.f a0).bind fun t233 => (if t233 = true then (some false) else ((octet_Blank.f a0).bind fun t234 => (if a0 = 9 then (if (t234 == true) = true then ((octet_Text.f a0).bind fun t235 => ((octet_Control.f a0).bind fun t236 => (if t236 = true then (if (t235 == (a0 == 9)) = true then ((octet_Token.f a0).bind fun t237 => (some t237)) else (some false)) else (if (t235 == true) = true then ((octet_Token.f a0).bind fun t238 => (some t238)) else (some false))))) else (some false)) else (if (t234 == (a0 == 32)) = true then ((octet_Text.f a0).bind fun t239 => ((octet_Control.f a0).bind fun t240 => (if t240 = true then (if (t239 == (a0 == 9)) = true then ((octet_Token.f a0).bind fun t241 => (some t241)) else (some false)) else (if (t239 == true) = true then ((octet_Token.f a0).bind fun t242 => (some t242)) else (some false))))) else (some false)))))) else ((octet_Blank.f a0).bind fun t243 => (if a0 = 9 then (if (t243 == true) = true then ((octet_Text.f a0).bind fun t244 => ((octet_Control.f a0).bind fun t245 => (if t245 = true then (if (t244 == (a0 == 9)) = true then ((octet_Token.f a0).bind fun t246 => (some t246)) else (some false)) else (if (t244 == true) = true then ((octet_Token.f a0).bind fun t247 => (some t247)) else (some false))))) else (some false)) else (if (t243 == (a0 == 32)) = true then ((octet_Text.f a0).bind fun t248 => ((octet_Control.f a0).bind fun t249 => (if t249 = true then (if (t248 == (a0 == 9)) = true then ((octet_Token.f a0).bind fun t250 => (some t250)) else (some false)) else (if (t248 == true) = true then ((octet_Token.f a0).bind fun t251 => (some t251)) else (some false))))) else (some false)))))) else (some false))) else ((octet_Visible.f a0).bind fun t252 => (if t252 = true then ((octet_Control.f a0).bind fun t253 => (if t253 = true then (some false) else ((octet_Blank.f a0).bind fun t254 => (if a0 = 9 then (if (t254 == true) = true then ((octet_Text.f a0).bind fun t255 => ((octet_Control.f a0).bind fun t256 => (if t256 = true then (if (t255 == (a0 == 9)) = true then ((octet_Token.f a0).bind fun t257 => (some t257)) else (some false)) else (if (t255 == true) = true then ((octet_Token.f a0).bind fun t258 => (some t258)) else (some false))))) else (some false)) else (if (t254 == (a0 == 32)) = true then ((octet_Text.f a0).bind fun t259 => ((octet_Control.f a0).bind fun t260 => (if t260 = true then (if (t259 == (a0 == 9)) = true then ((octet_Token.f a0).bind fun t261 => (some t261)) else (some false)) else (if (t259 == true) = true then ((octet_Token.f a0).bind fun t262 => (some t262)) else (some false))))) else (some false)))))) else ((octet_Blank.f a0).bind fun t263 => (if a0 = 9 then (if (t263 == true) = true then ((octet_Text.f a0).bind fun t264 => ((octet_Control.f a0).bind fun t265 => (if t265 = true then (if (t264 == (a0 == 9)) = true then ((octet_Token.f a0).bind fun t266 => (some t266)) else (some false)) else (if (t264 == true) = true then ((octet_Token.f a0).bind fun t267 => (some t267)) else (some false))))) else (some false)) else (if (t263 == (a0 == 32)) = true then ((octet_Text.f a0).bind fun t268 => ((octet_Control.f a0).bind fun t269 => (if t269 = true then (if (t268 == (a0 == 9)) = true then ((octet_Token.f a0).bind fun t270 => (some t270)) else (some false)) else (if (t268 == true) = true then ((octet_Token.f a0).bind fun t271 => (some t271)) else (some false))))) else (some false)))))))) else (some false))) else ((octet_Blank.f a0).bind fun t272 => (if t272 = true then ((octet_Text.f a0).bind fun t273 => (if t273 = true then ((octet_Visible.f a0).bind fun t274 => (if t274 = true then ((octet_Control.f a0).bind fun t275 => (if t275 = true then (some false) else ((octet_Blank.f a0).bind fun t276 => (if a0 = 9 then (if (t276 == true) = true then ((octet_Text.f a0).bind fun t277 => ((octet_Control.f a0).bind fun t278 => (if t278 = true then (if (t277 == (a0 == 9)) = true then ((octet_Token.f a0).bind fun t279 => (some t279)) else (some false)) else (if (t277 == true) = true then ((octet_Token.f a0).bind fun t280 => (some t280)) else (some false))))) else (some false)) else (if (t276 == (a0 == 32)) = true then ((octet_Text.f a0).bind fun t281 => ((octet_Control.f a0).bind fun t282 => (if t282 = true then (if (t281 == (a0 == 9)) = true then ((octet_Token.f a0).bind fun t283 => (some t283)) else (some false)) else (if (t281 == true) = true then ((octet_Token.f a0).bind fun t284 => (some t284)) else (some false))))) else (some false)))))) else ((octet_Blank.f a0).bind fun t285 => (if a0 = 9 then (if (t285 == true) = true then ((octet_Text.f a0).bind fun t286 => ((octet_Control.f a0).bind fun t287 => (if t287 = true then (if (t286 == (a0 == 9)) = true then ((octet_Token.f a0).bind fun t288 => (some t288)) else (some false)) else (if (t286 == true) = true then ((octet_Token.f a0).bind fun t289 => (some t289)) else (some false))))) else (some false)) else (if (t285 == (a0 == 32)) = true then ((octet_Text.f a0).bind fun t290 => ((octet_Control.f a0).bind fun t291 => (if t291 = true then (if (t290 == (a0 == 9)) = true then ((octet_Token.f a0).bind fun t292 => (some t292)) else (some false)) else (if (t290 == true) = true then ((octet_Token.f a0).bind fun t293 => (some t293)) else (some false))))) else (some false)))))) else (some false))) else ((octet_Visible.f a0).bind fun t294 => (if t294 = true then ((octet_Control.f a0).bind fun t295 => (if t295 = true then (some false) else ((octet_Blank.f a0).bind fun t296 => (if a0 = 9 then (if (t296 == true) = true then ((octet_Text.f a0).bind fun t297 => ((octet_Control.f a0).bind fun t298 => (if t298 = true then (if (t297 == (a0 == 9)) = true then ((octet_Token.f a0).bind fun t299 => (some t299)) else (some false)) else (if (t297 == true) = true then ((octet_Token.f a0).bind fun t300 => (some t300)) else (some false))))) else (some false)) else (if (t296 == (a0 == 32)) = true then ((octet_Text.f a0).bind fun t301 => ((octet_Control.f a0).bind fun t302 => (if t302 = true then (if (t301 == (a0 == 9)) = true then ((octet_Token.f a0).bind fun t303 => (some t303)) else (some false)) else (if (t301 == true) = true then ((octet_Token.f a0).bind fun t304 => (some t304)) else (some false))))) else (some false)))))) else ((octet_Blank.f a0).bind fun t305 => (if a0 = 9 then (if (t305 == true) = true then ((octet_Text.f a0).bind fun t306 => ((octet_Control.f a0).bind fun t307 => (if t307 = true then (if (t306 == (a0 == 9)) = true then ((octet_Token.f a0).bind fun t308 => (some t308)) else (some false)) else (if (t306 == true) = true then ((octet_Token.f a0).bind fun t309 => (some t309)) else (some false))))) else (some false)) else (if (t305 == (a0 == 32)) = true then ((octet_Text.f a0).bind fun t310 => ((octet_Control.f a0).bind fun t311 => (if t311 = true then (if (t310 == (a0 == 9)) = true then ((octet_Token.f a0).bind fun t312 => (some t312)) else (some false)) else (if (t310 == true) = true then ((octet_Token.f a0).bind fun t313 => (some t313)) else (some false))))) else (some false)))))))))))) else (some false)) else (some false))) else ((octet_Token.f a0).bind fun t314 => (if t314 = true then ((octet_Visible.f a0).bind fun t315 => (if t315 = true then ((octet_Visible.f a0).bind fun t316 => (if t316 = true then ((octet_Text.f a0).bind fun t317 => (if t317 = true then ((octet_Blank.f a0).bind fun t318 => (if t318 = true then ((octet_Text.f a0).bind fun t319 => (if t319 = true then ((octet_Visible.f a0).bind fun t320 => (if t320 = true then ((octet_Control.f a0).bind fun t321 => (if t321 = true then (some false) else ((octet_Blank.f a0).bind fun t322 => (if a0 = 9 then (if (t322 == true) = true then ((octet_Text.f a0).bind fun t323 => ((octet_Control.f a0).bind fun t324 => (if t324 = true then (if (t323 == (a0 == 9)) = true then (if bt136.2 = true then ((octet_Token.f a0).bind fun t325 => (some t325)) else (some true)) else (some false)) else (if (t323 == true) = true then (if bt136.2 = true then ((octet_Token.f a0).bind fun t326 => (some t326)) else (some true)) else (some false))))) else (some false)) else (if (t322 == (a0 == 32)) = true then ((octet_Text.f a0).bind fun t327 => ((octet_Control.f a0).bind fun t328 => (if t328 = true then (if (t327 == (a0 == 9)) = true then (if bt136.2 = true then ((octet_Token.f a0).bind fun t329 => (some t329)) else (some true)) else (some false)) else (if (t327 == true) = true then (if bt136.2 = true then ((octet_Token.f a0).bind fun t330 => (some t330)) else (some true)) else (some false))))) else (some false)))))) else ((octet_Blank.f a0).bind fun t331 => (if a0 = 9 then (if (t331 == true) = true then ((octet_Text.f a0).bind fun t332 => ((octet_Control.f a0).bind fun t333 => (if t333 = true then (if (t332 == (a0 == 9)) = true then (if bt136.2 = true then ((octet_Token.f a0).bind fun t334 => (some t334)) else (some true)) else (some false)) else (if (t332 == true) = true then (if bt136.2 = true then ((octet_Token.f a0).bind fun t335 => (some t335)) else (some true)) else (some false))))) else (some false)) else (if (t331 == (a0 == 32)) = true then ((octet_Text.f a0).bind fun t336 => ((octet_Control.f a0).bind fun t337 => (if t337 = true then (if (t336 == (a0 == 9)) = true then (if bt136.2 = true then ((octet_Token.f a0).bind fun t338 => (some t338)) else (some true)) else (some false)) else (if (t336 == true) = true then (if bt136.2 = true then ((octet_Token.f a0).bind fun t339 => (some t339)) else (some true)) else (some false))))) else (some false)))))) else (some false))) else ((octet_Visible.f a0).bind fun t340 => (if t340 = true then ((octet_Control.f a0).bind fun t341 => (if t341 = true then (some false) else ((octet_Blank.f a0).bind fun t342 => (if a0 = 9 then (if (t342 == true) = true then ((octet_Text.f a0).bind fun t343 => ((octet_Control.f a0).bind fun t344 => (if t344 = true then (if (t343 == (a0 == 9)) = true then (if bt136.2 = true then ((octet_Token.f a0).bind fun t345 => (some t345)) else (some true)) else (some false)) else (if (t343 == true) = true then (if bt136.2 = true then ((octet_Token.f a0).bind fun t346 => (some t346)) else (some true)) else (some false))))) else (some false)) else (if (t342 == (a0 == 32)) = true then ((octet_Text.f a0).bind fun t347 => ((octet_Control.f a0).bind fun t348 => (if t348 = true then (if (t347 == (a0 == 9)) = true then (if bt136.2 = true then ((octet_Token.f a0).bind fun t349 => (some t349)) else (some true)) else (some false)) else (if (t347 == true) = true then (if bt136.2 = true then ((octet_Token.f a0).bind fun t350 => (some t350)) else (some true)) else (some false))))) else (some false)))))) else ((octet_Blank.f a0).bind fun t351 => (if a0 = 9 then (if (t351 == true) = true then ((octet_Text.f a0).bind fun t352 => ((octet_Control.f a0).bind fun t353 => (if t353 = true then (if (t352 == (a0 == 9)) = true then (if bt136.2 = true then ((octet_Token.f a0).bind fun t354 => (some t354)) else (some true)) else (some false)) else (if (t352 == true) = true then (if bt136.2 = true then ((octet_Token.f a0).bind fun t355 => (some t355)) else (some true)) else (some false))))) else (some false)) else (if (t351 == (a0 == 32)) = true then ((octet_Text.f a0).bind fun t356 => ((octet_Control.f a0).bind fun t357 => (if t357 = true then (if (t356 == (a0 == 9)) = true then (if bt136.2 = true then ((octet_Token.f a0).bind fun t358 => (some t358)) else (some true)) else (some false)) else (if (t356 == true) = true then (if bt136.2 = true then ((octet_Token.f a0).bind fun t359 => (some t359)) else (some true)) else (some false))))) else (some false)))))))) else (some false))) else ((octet_Blank.f a0).bind fun t360 => (if t360 = true then ((octet_Text.f a0).bind fun t361 => (if t361 = true then ((octet_Visible.f a0).bind fun t362 => (if t362 = true then ((octet_Control.f a0).bind fun t363 => (if t363 = true then (some false) else ((octet_Blank.f a0).bind fun t364 => (if a0 = 9 then (if (t364 == true) = true then ((octet_Text.f a0).bind fun t365 => ((octet_Control.f a0).bind fun t366 => (if t366 = true then (if (t365 == (a0 == 9)) = true then (if bt136.2 = true then ((octet_Token.f a0).bind fun t367 => (some t367)) else (some true)) else (some false)) else (if (t365 == true) = true then (if bt136.2 = true then ((octet_Token.f a0).bind fun t368 => (some t368)) else (some true)) else (some false))))) else (some false)) else (if (t364 == (a0 == 32)) = true then ((octet_Text.f a0).bind fun t369 => ((octet_Control.f a0).bind fun t370 => (if t370 = true then (if (t369 == (a0 == 9)) = true then (if bt136.2 = true then ((octet_Token.f a0).bind fun t371 => (some t371)) else (some true)) else (some false)) else (if (t369 == true) = true then (if bt136.2 = true then ((octet_Token.f a0).bind fun t372 => (some t372)) else (some true)) else (some false))))) else (some false)))))) else ((octet_Blank.f a0).bind fun t373 => (if a0 = 9 then (if (t373 == true) = true then ((octet_Text.f a0).bind fun t374 => ((octet_Control.f a0).bind fun t375 => (if t375 = true then (if (t374 == (a0 == 9)) = true then (if bt136.2 = true then ((octet_Token.f a0).bind fun t376 => (some t376)) else (some true)) else (some false)) else (if (t374 == true) = true then (if bt136.2 = true then ((octet_Token.f a0).bind fun t377 => (some t377)) else (some true)) else (some false))))) else (some false)) else (if (t373 == (a0 == 32)) = true then ((octet_Text.f a0).bind fun t378 => ((octet_Control.f a0).bind fun t379 => (if t379 = true then (if (t378 == (a0 == 9)) = true then (if bt136.2 = true then ((octet_Token.f a0).bind fun t380 => (some t380)) else (some true)) else (some false)) else (if (t378 == true) = true then (if bt136.2 = true then ((octet_Token.f a0).bind fun t381 => (some t381)) else (some true)) else (some false))))) else (some false)))))) else (some false))) else ((octet_Visible.f a0).bind fun t382 => (if t382 = true then ((octet_Control.f a0).bind fun t383 => (if t383 = true then (some false) else ((octet_Blank.f a0).bind fun t384 => (if a0 = 9 then (if (t384 == true) = true then ((octet_Text.f a0).bind fun t385 => ((octet_Control.f a0).bind fun t386 => (if t386 = true then (if (t385 == (a0 == 9)) = true then (if bt136.2 = true then ((octet_Token.f a0).bind fun t387 => (some t387)) else (some true)) else (some false)) else (if (t385 == true) = true then (if bt136.2 = true then ((octet_Token.f a0).bind fun t388 => (some t388)) else (some true)) else (some false))))) else (some false)) else (if (t384 == (a0 == 32)) = true then ((octet_Text.f a0).bind fun t389 => ((octet_Control.f a0).bind fun t390 => (if t390 = true then (if (t389 == (a0 == 9)) = true then (if bt136.2 = true then ((octet_Token.f a0).bind fun t391 => (some t391)) else (some true)) else (some false)) else (if (t389 == true) = true then (if bt136.2 = true then ((octet_Token.f a0).bind fun t392 => (some t392)) else (some true)) else (some false))))) else (some false)))))) else ((octet_Blank.f a0).bind fun t393 => (if a0 = 9 then (if (t393 == true) = true then ((octet_Text.f a0).bind fun t394 => ((octet_Control.f a0).bind fun t395 => (if t395 = true then (if (t394 == (a0 == 9)) = true then (if bt136.2 = true then ((octet_Token.f a0).bind fun t396 => (some t396)) else (some true)) else (some false)) else (if (t394 == true) = true then (if bt136.2 = true then ((octet_Token.f a0).bind fun t397 => (some t397)) else (some true)) else (some false))))) else (some false)) else (if (t393 == (a0 == 32)) = true then ((octet_Text.f a0).bind fun t398 => ((octet_Control.f a0).bind fun t399 => (if t399 = true then (if (t398 == (a0 == 9)) = true then (if bt136.2 = true then ((octet_Token.f a0).bind fun t400 => (some t400)) else (some true)) else (some false)) else (if (t398 == true) = true then (if bt136.2 = true then ((octet_Token.f a0).bind fun t401 => (some t401)) else (some true)) else (some false))))) else (some false)))))))))) else (some false))) else ((octet_Visible.f a0).bind fun t402 => (if t402 = true then ((octet_Text.f a0).bind fun t403 => (if t403 = true then ((octet_Blank.f a0).bind fun t404 => (if t404 = true then ((octet_Text.f a0).bind fun t405 => (if t405 = true then ((octet_Visible.f a0).bind fun t406 => (if t406 = true then ((octet_Control.f a0).bind fun t407 => (if t407 = true then (some false) else ((octet_Blank.f a0).bind fun t408 => (if a0 = 9 then (if (t408 == true) = true then ((octet_Text.f a0).bind fun t409 => ((octet_Control.f a0).bind fun t410 => (if t410 = true then (if (t409 == (a0 == 9)) = true then (if bt136.2 = true then ((octet_Token.f a0).bind fun t411 => (some t411)) else (some true)) else (some false)) else (if (t409 == true) = true then (if bt136.2 = true then ((octet_Token.f a0).bind fun t412 => (some t412)) else (some true)) else (some false))))) else (some false)) else (if (t408 == (a0 == 32)) = true then ((octet_Text.f a0).bind fun t413 => ((octet_Control.f a0).bind fun t414 => (if t414 = true then (if (t413 == (a0 == 9)) = true then (if bt136.2 = true then ((octet_Token.f a0).bind fun t415 => (some t415)) else (some true)) else (some false)) else (if (t413 == true) = true then (if bt136.2 = true then ((octet_Token.f a0).bind fun t416 => (some t416)) else (some true)) else (some false))))) else (some false)))))) else ((octet_Blank.f a0).bind fun t417 => (if a0 = 9 then (if (t417 == true) = true then ((octet_Text.f a0).bind fun t418 => ((octet_Control.f a0).bind fun t419 => (if t419 = true then (if (t418 == (a0 == 9)) = true then (if bt136.2 = true then ((octet_Token.f a0).bind fun t420 => (some t420)) else (some true)) else (some false)) else (if (t418 == true) = true then (if bt136.2 = true then ((octet_Token.f a0).bind fun t421 => (some t421)) else (some true)) else (some false))))) else (some false)) else (if (t417 == (a0 == 32)) = true then ((octet_Text.f a0).bind fun t422 => ((octet_Control.f a0).bind fun t423 => (if t423 = true then (if (t422 == (a0 == 9)) = true then (if bt136.2 = true then ((octet_Token.f a0).bind fun t424 => (some t424)) else (some true)) else (some false)) else (if (t422 == true) = true then (if bt136.2 = true then ((octet_Token.f a0).bind fun t425 => (some t425)) else (some true)) else (some false))))) else (some false)))))) else (some false))) else ((octet_Visible.f a0).bind fun t426 => (if t426 = true then ((octet_Control.f a0).bind fun t427 => (if t427 = true then (some false) else ((octet_Blank.f a0).bind fun t428 => (if a0 = 9 then (if (t428 == true) = true then ((octet_Text.f a0).bind fun t429 => ((octet_Control.f a0).bind fun t430 => (if t430 = true then (if (t429 == (a0 == 9)) = true then (if bt136.2 = true then ((octet_Token.f a0).bind fun t431 => (some t431)) else (some true)) else (some false)) else (if (t429 == true) = true then (if bt136.2 = true then ((octet_Token.f a0).bind fun t432 => (some t432)) else (some true)) else (some false))))) else (some false)) else (if (t428 == (a0 == 32)) = true then ((octet_Text.f a0).bind fun t433 => ((octet_Control.f a0).bind fun t434 => (if t434 = true then (if (t433 == (a0 == 9)) = true then (if bt136.2 = true then ((octet_Token.f a0).bind fun t435 => (some t435)) else (some true)) else (some false)) else (if (t433 == true) = true then (if bt136.2 = true then ((octet_Token.f a0).bind fun t436 => (some t436)) else (some true)) else (some false))))) else (some false)))))) else ((octet_Blank.f a0).bind fun t437 => (if a0 = 9 then (if (t437 == true) = true then ((octet_Text.f a0).bind fun t438 => ((octet_Control.f a0).bind fun t439 => (if t439 = true then (if (t438 == (a0 == 9)) = true then (if bt136.2 = true then ((octet_Token.f a0).bind fun t440 => (some t440)) else (some true)) else (some false)) else (if (t438 == true) = true then (if bt136.2 = true then ((octet_Token.f a0).bind fun t441 => (some t441)) else (some true)) else (some false))))) else (some false)) else (if (t437 == (a0 == 32)) = true then ((octet_Text.f a0).bind fun t442 => ((octet_Control.f a0).bind fun t443 => (if t443 = true then (if (t442 == (a0 == 9)) = true then (if bt136.2 = true then ((octet_Token.f a0).bind fun t444 => (some t444)) else (some true)) else (some false)) else (if (t442 == true) = true then (if bt136.2 = true then ((octet_Token.f a0).bind fun t445 => (some t445)) else (some true)) else (some false))))) else (some false)))))))) else (some false))) else ((octet_Blank.f a0).bind fun t446 => (if t446 = true then ((octet_Text.f a0).bind fun t447 => (if t447 = true then ((octet_Visible.f a0).bind fun t448 => (if t448 = true then ((octet_Control.f a0).bind fun t449 => (if t449 = true then (some false) else ((octet_Blank.f a0).bind fun t450 => (if a0 = 9 then (if (t450 == true) = true then ((octet_Text.f a0).bind fun t451 => ((octet_Control.f a0).bind fun t452 => (if t452 = true then (if (t451 == (a0 == 9)) = true then (if bt136.2 = true then ((octet_Token.f a0).bind fun t453 => (some t453)) else (some true)) else (some false)) else (if (t451 == true) = true then (if bt136.2 = true then ((octet_Token.f a0).bind fun t454 => (some t454)) else (some true)) else (some false))))) else (some false)) else (if (t450 == (a0 == 32)) = true then ((octet_Text.f a0).bind fun t455 => ((octet_Control.f a0).bind fun t456 => (if t456 = true then (if (t455 == (a0 == 9)) = true then (if bt136.2 = true then ((octet_Token.f a0).bind fun t457 => (some t457)) else (some true)) else (some false)) else (if (t455 == true) = true then (if bt136.2 = true then ((octet_Token.f a0).bind fun t458 => (some t458)) else (some true)) else (some false))))) else (some false)))))) else ((octet_Blank.f a0).bind fun t459 => (if a0 = 9 then (if (t459 == true) = true then ((octet_Text.f a0).bind fun t460 => ((octet_Control.f a0).bind fun t461 => (if t461 = true then (if (t460 == (a0 == 9)) = true then (if bt136.2 = true then ((octet_Token.f a0).bind fun t462 => (some t462)) else (some true)) else (some false)) else (if (t460 == true) = true then (if bt136.2 = true then ((octet_Token.f a0).bind fun t463 => (some t463)) else (some true)) else (some false))))) else (some false)) else (if (t459 == (a0 == 32)) = true then ((octet_Text.f a0).bind fun t464 => ((octet_Control.f a0).bind fun t465 => (if t465 = true then (if (t464 == (a0 == 9)) = true then (if bt136.2 = true then ((octet_Token.f a0).bind fun t466 => (some t466)) else (some true)) else (some false)) else (if (t464 == true) = true then (if bt136.2 = true then ((octet_Token.f a0).bind fun t467 => (some t467)) else (some true)) else (some false))))) else (some false)))))) else (some false))) else ((octet_Visible.f a0).bind fun t468 => (if t468 = true then ((octet_Control.f a0).bind fun t469 => (if t469 = true then (some false) else ((octet_Blank.f a0).bind fun t470 => (if a0 = 9 then (if (t470 == true) = true then ((octet_Text.f a0).bind fun t471 => ((octet_Control.f a0).bind fun t472 => (if t472 = true then (if (t471 == (a0 == 9)) = true then (if bt136.2 = true then ((octet_Token.f a0).bind fun t473 => (some t473)) else (some true)) else (some false)) else (if (t471 == true) = true then (if bt136.2 = true then ((octet_Token.f a0).bind fun t474 => (some t474)) else (some true)) else (some false))))) else (some false)) else (if (t470 == (a0 == 32)) = true then ((octet_Text.f a0).bind fun t475 => ((octet_Control.f a0).bind fun t476 => (if t476 = true then (if (t475 == (a0 == 9)) = true then (if bt136.2 = true then ((octet_Token.f a0).bind fun t477 => (some t477)) else (some true)) else (some false)) else (if (t475 == true) = true then (if bt136.2 = true then ((octet_Token.f a0).bind fun t478 => (some t478)) else (some true)) else (some false))))) else (some false)))))) else ((octet_Blank.f a0).bind fun t479 => (if a0 = 9 then (if (t479 == true) = true then ((octet_Text.f a0).bind fun t480 => ((octet_Control.f a0).bind fun t481 => (if t481 = true then (if (t480 == (a0 == 9)) = true then (if bt136.2 = true then ((octet_Token.f a0).bind fun t482 => (some t482)) else (some true)) else (some false)) else (if (t480 == true) = true then (if bt136.2 = true then ((octet_Token.f a0).bind fun t483 => (some t483)) else (some true)) else (some false))))) else (some false)) else (if (t479 == (a0 == 32)) = true then ((octet_Text.f a0).bind fun t484 => ((octet_Control.f a0).bind fun t485 => (if t485 = true then (if (t484 == (a0 == 9)) = true then (if bt136.2 = true then ((octet_Token.f a0).bind fun t486 => (some t486)) else (some true)) else (some false)) else (if (t484 == true) = true then (if bt136.2 = true then ((octet_Token.f a0).bind fun t487 => (some t487)) else (some true)) else (some false))))) else (some false))))))))))))))) else (some false))
theorem parallaxlaw1_OctetSets.mono : ∀ a0 k, LeO (parallaxlaw1_OctetSets.f k a0) (parallaxlaw1_OctetSets.f (k + 1) a0) := by
  intro a0 k
  unfold parallaxlaw1_OctetSets.f
  repeat' first
      | (with_reducible exact parallaxlaw1_known.mono _)
      | (with_reducible exact LeO.refl _)
      | (with_reducible exact LeO.none _)
      | (with_reducible refine LeO.ite ?_ ?_)
      | (with_reducible refine LeO.bind ?_ (fun _ => ?_))
      | exact parallaxlaw1_known.mono _
      | exact LeO.none _
      | refine LeO.ite ?_ ?_
      | refine LeO.bind ?_ (fun _ => ?_)
set_option maxHeartbeats 8000000 in
set_option maxRecDepth 100000 in
theorem parallaxlaw1_OctetSets.calls (k : Nat) (a0 : Int) (r : Bool) (w : World) (hq0 : (Lit.int .u8 a0).wf = true) (hT : r = true) (h : parallaxlaw1_OctetSets.f k a0 = some r) :
    Calls Try.prog 5 #[.int .u8 a0] w fun e w' => e = .returned (.bool r) ∧ Below w.heap.size w w' := by
  have HQ0 := Aside0.mk hq0
  clear hq0
  have HT := Aside0.mk hT
  clear hT
  have HB := Aside0.mk (Below.refl w.heap.size w)
  have H : ((parallaxlaw1_known.f k).bind fun t135 => (if t135 = true then ((octet_Hex.f a0).bind fun bt136 => ((octet_Digit.f a0).bind fun t138 => (if t138 = true then ((octet_Token.f a0).bind fun t139 => (if t139 = true then (if bt136.2 = true then ((octet_Token.f a0).bind fun t140 => (if t140 = true then ((octet_Visible.f a0).bind fun t141 => (if t141 = true then ((octet_Visible.f a0).bind fun t142 => (if t142 = true then ((octet_Text.f a0).bind fun t143 => (if t143 = true then ((octet_Blank.f a0).bind fun t144 => (if t144 = true then ((octet_Text.f a0).bind fun t145 => (if t145 = true then ((octet_Visible.f a0).bind fun t146 => (if t146 = true then ((octet_Control.f a0).bind fun t147 => (if t147 = true then (some false) else ((octet_Blank.f a0).bind fun t148 => (if a0 = 9 then (if (t148 == true) = true then ((octet_Text.f a0).bind fun t149 => ((octet_Control.f a0).bind fun t150 => (if t150 = true then (if (t149 == (a0 == 9)) = true then ((octet_Token.f a0).bind fun t151 => (some t151)) else (some false)) else (if (t149 == true) = true then ((octet_Token.f a0).bind fun t152 => (some t152)) else (some false))))) else (some false)) else (if (t148 == (a0 == 32)) = true then ((octet_Text.f a0).bind fun t153 => ((octet_Control.f a0).bind fun t154 => (if t154 = true then (if (t153 == (a0 == 9)) = true then ((octet_Token.f a0).bind fun t155 => (some t155)) else (some false)) else (if (t153 == true) = true then ((octet_Token.f a0).bind fun t156 => (some t156)) else (some false))))) else (some false)))))) else ((octet_Blank.f a0).bind fun t157 => (if a0 = 9 then (if (t157 == true) = true then ((octet_Text.f a0).bind fun t158 => ((octet_Control.f a0).bind fun t159 => (if t159 = true then (if (t158 == (a0 == 9)) = true then ((octet_Token.f a0).bind fun t160 => (some t160)) else (some false)) else (if (t158 == true) = true then ((octet_Token.f a0).bind fun t161 => (some t161)) else (some false))))) else (some false)) else (if (t157 == (a0 == 32)) = true then ((octet_Text.f a0).bind fun t162 => ((octet_Control.f a0).bind fun t163 => (if t163 = true then (if (t162 == (a0 == 9)) = true then ((octet_Token.f a0).bind fun t164 => (some t164)) else (some false)) else (if (t162 == true) = true then ((octet_Token.f a0).bind fun t165 => (some t165)) else (some false))))) else (some false)))))) else (some false))) else ((octet_Visible.f a0).bind fun t166 => (if t166 = true then ((octet_Control.f a0).bind fun t167 => (if t167 = true then (some false) else ((octet_Blank.f a0).bind fun t168 => (if a0 = 9 then (if (t168 == true) = true then ((octet_Text.f a0).bind fun t169 => ((octet_Control.f a0).bind fun t170 => (if t170 = true then (if (t169 == (a0 == 9)) = true then ((octet_Token.f a0).bind fun t171 => (some t171)) else (some false)) else (if (t169 == true) = true then ((octet_Token.f a0).bind fun t172 => (some t172)) else (some false))))) else (some false)) else (if (t168 == (a0 == 32)) = true then ((octet_Text.f a0).bind fun t173 => ((octet_Control.f a0).bind fun t174 => (if t174 = true then (if (t173 == (a0 == 9)) = true then ((octet_Token.f a0).bind fun t175 => (some t175)) else (some false)) else (if (t173 == true) = true then ((octet_Token.f a0).bind fun t176 => (some t176)) else (some false))))) else (some false)))))) else ((octet_Blank.f a0).bind fun t177 => (if a0 = 9 then (if (t177 == true) = true then ((octet_Text.f a0).bind fun t178 => ((octet_Control.f a0).bind fun t179 => (if t179 = true then (if (t178 == (a0 == 9)) = true then ((octet_Token.f a0).bind fun t180 => (some t180)) else (some false)) else (if (t178 == true) = true then ((octet_Token.f a0).bind fun t181 => (some t181)) else (some false))))) else (some false)) else (if (t177 == (a0 == 32)) = true then ((octet_Text.f a0).bind fun t182 => ((octet_Control.f a0).bind fun t183 => (if t183 = true then (if (t182 == (a0 == 9)) = true then ((octet_Token.f a0).bind fun t184 => (some t184)) else (some false)) else (if (t182 == true) = true then ((octet_Token.f a0).bind fun t185 => (some t185)) else (some false))))) else (some false)))))))) else (some false))) else ((octet_Blank.f a0).bind fun t186 => (if t186 = true then ((octet_Text.f a0).bind fun t187 => (if t187 = true then ((octet_Visible.f a0).bind fun t188 => (if t188 = true then ((octet_Control.f a0).bind fun t189 => (if t189 = true then (some false) else ((octet_Blank.f a0).bind fun t190 => (if a0 = 9 then (if (t190 == true) = true then ((octet_Text.f a0).bind fun t191 => ((octet_Control.f a0).bind fun t192 => (if t192 = true then (if (t191 == (a0 == 9)) = true then ((octet_Token.f a0).bind fun t193 => (some t193)) else (some false)) else (if (t191 == true) = true then ((octet_Token.f a0).bind fun t194 => (some t194)) else (some false))))) else (some false)) else (if (t190 == (a0 == 32)) = true then ((octet_Text.f a0).bind fun t195 => ((octet_Control.f a0).bind fun t196 => (if t196 = true then (if (t195 == (a0 == 9)) = true then ((octet_Token.f a0).bind fun t197 => (some t197)) else (some false)) else (if (t195 == true) = true then ((octet_Token.f a0).bind fun t198 => (some t198)) else (some false))))) else (some false)))))) else ((octet_Blank.f a0).bind fun t199 => (if a0 = 9 then (if (t199 == true) = true then ((octet_Text.f a0).bind fun t200 => ((octet_Control.f a0).bind fun t201 => (if t201 = true then (if (t200 == (a0 == 9)) = true then ((octet_Token.f a0).bind fun t202 => (some t202)) else (some false)) else (if (t200 == true) = true then ((octet_Token.f a0).bind fun t203 => (some t203)) else (some false))))) else (some false)) else (if (t199 == (a0 == 32)) = true then ((octet_Text.f a0).bind fun t204 => ((octet_Control.f a0).bind fun t205 => (if t205 = true then (if (t204 == (a0 == 9)) = true then ((octet_Token.f a0).bind fun t206 => (some t206)) else (some false)) else (if (t204 == true) = true then ((octet_Token.f a0).bind fun t207 => (some t207)) else (some false))))) else (some false)))))) else (some false))) else ((octet_Visible.f a0).bind fun t208 => (if t208 = true then ((octet_Control.f a0).bind fun t209 => (if t209 = true then (some false) else ((octet_Blank.f a0).bind fun t210 => (if a0 = 9 then (if (t210 == true) = true then ((octet_Text.f a0).bind fun t211 => ((octet_Control.f a0).bind fun t212 => (if t212 = true then (if (t211 == (a0 == 9)) = true then ((octet_Token.f a0).bind fun t213 => (some t213)) else (some false)) else (if (t211 == true) = true then ((octet_Token.f a0).bind fun t214 => (some t214)) else (some false))))) else (some false)) else (if (t210 == (a0 == 32)) = true then ((octet_Text.f a0).bind fun t215 => ((octet_Control.f a0).bind fun t216 => (if t216 = true then (if (t215 == (a0 == 9)) = true then ((octet_Token.f a0).bind fun t217 => (some t217)) else (some false)) else (if (t215 == true) = true then ((octet_Token.f a0).bind fun t218 => (some t218)) else (some false))))) else (some false)))))) else ((octet_Blank.f a0).bind fun t219 => (if a0 = 9 then (if (t219 == true) = true then ((octet_Text.f a0).bind fun t220 => ((octet_Control.f a0).bind fun t221 => (if t221 = true then (if (t220 == (a0 == 9)) = true then ((octet_Token.f a0).bind fun t222 => (some t222)) else (some false)) else (if (t220 == true) = true then ((octet_Token.f a0).bind fun t223 => (some t223)) else (some false))))) else (some false)) else (if (t219 == (a0 == 32)) = true then ((octet_Text.f a0).bind fun t224 => ((octet_Control.f a0).bind fun t225 => (if t225 = true then (if (t224 == (a0 == 9)) = true then ((octet_Token.f a0).bind fun t226 => (some t226)) else (some false)) else (if (t224 == true) = true then ((octet_Token.f a0).bind fun t227 => (some t227)) else (some false))))) else (some false)))))))))) else (some false))) else ((octet_Visible.f a0).bind fun t228 => (if t228 = true then ((octet_Text.f a0).bind fun t229 => (if t229 = true then ((octet_Blank.f a0).bind fun t230 => (if t230 = true then ((octet_Text.f a0).bind fun t231 => (if t231 = true then ((octet_Visible.f a0).bind fun t232 => (if t232 = true then ((octet_Control.f a0).bind fun t233 => (if t233 = true then (some false) else ((octet_Blank.f a0).bind fun t234 => (if a0 = 9 then (if (t234 == true) = true then ((octet_Text.f a0).bind fun t235 => ((octet_Control.f a0).bind fun t236 => (if t236 = true then (if (t235 == (a0 == 9)) = true then ((octet_Token.f a0).bind fun t237 => (some t237)) else (some false)) else (if (t235 == true) = true then ((octet_Token.f a0).bind fun t238 => (some t238)) else (some false))))) else (some false)) else (if (t234 == (a0 == 32)) = true then ((octet_Text.f a0).bind fun t239 => ((octet_Control.f a0).bind fun t240 => (if t240 = true then (if (t239 == (a0 == 9)) = true then ((octet_Token.f a0).bind fun t241 => (some t241)) else (some false)) else (if (t239 == true) = true then ((octet_Token.f a0).bind fun t242 => (some t242)) else (some false))))) else (some false)))))) else ((octet_Blank.f a0).bind fun t243 => (if a0 = 9 then (if (t243 == true) = true then ((octet_Text.f a0).bind fun t244 => ((octet_Control.f a0).bind fun t245 => (if t245 = true then (if (t244 == (a0 == 9)) = true then ((octet_Token.f a0).bind fun t246 => (some t246)) else (some false)) else (if (t244 == true) = true then ((octet_Token.f a0).bind fun t247 => (some t247)) else (some false))))) else (some false)) else (if (t243 == (a0 == 32)) = true then ((octet_Text.f a0).bind fun t248 => ((octet_Control.f a0).bind fun t249 => (if t249 = true then (if (t248 == (a0 == 9)) = true then ((octet_Token.f a0).bind fun t250 => (some t250)) else (some false)) else (if (t248 == true) = true then ((octet_Token.f a0).bind fun t251 => (some t251)) else (some false))))) else (some false)))))) else (some false))) else ((octet_Visible.f a0).bind fun t252 => (if t252 = true then ((octet_Control.f a0).bind fun t253 => (if t253 = true then (some false) else ((octet_Blank.f a0).bind fun t254 => (if a0 = 9 then (if (t254 == true) = true then ((octet_Text.f a0).bind fun t255 => ((octet_Control.f a0).bind fun t256 => (if t256 = true then (if (t255 == (a0 == 9)) = true then ((octet_Token.f a0).bind fun t257 => (some t257)) else (some false)) else (if (t255 == true) = true then ((octet_Token.f a0).bind fun t258 => (some t258)) else (some false))))) else (some false)) else (if (t254 == (a0 == 32)) = true then ((octet_Text.f a0).bind fun t259 => ((octet_Control.f a0).bind fun t260 => (if t260 = true then (if (t259 == (a0 == 9)) = true then ((octet_Token.f a0).bind fun t261 => (some t261)) else (some false)) else (if (t259 == true) = true then ((octet_Token.f a0).bind fun t262 => (some t262)) else (some false))))) else (some false)))))) else ((octet_Blank.f a0).bind fun t263 => (if a0 = 9 then (if (t263 == true) = true then ((octet_Text.f a0).bind fun t264 => ((octet_Control.f a0).bind fun t265 => (if t265 = true then (if (t264 == (a0 == 9)) = true then ((octet_Token.f a0).bind fun t266 => (some t266)) else (some false)) else (if (t264 == true) = true then ((octet_Token.f a0).bind fun t267 => (some t267)) else (some false))))) else (some false)) else (if (t263 == (a0 == 32)) = true then ((octet_Text.f a0).bind fun t268 => ((octet_Control.f a0).bind fun t269 => (if t269 = true then (if (t268 == (a0 == 9)) = true then ((octet_Token.f a0).bind fun t270 => (some t270)) else (some false)) else (if (t268 == true) = true then ((octet_Token.f a0).bind fun t271 => (some t271)) else (some false))))) else (some false)))))))) else (some false))) else ((octet_Blank.f a0).bind fun t272 => (if t272 = true then ((octet_Text.f a0).bind fun t273 => (if t273 = true then ((octet_Visible.f a0).bind fun t274 => (if t274 = true then ((octet_Control.f a0).bind fun t275 => (if t275 = true then (some false) else ((octet_Blank.f a0).bind fun t276 => (if a0 = 9 then (if (t276 == true) = true then ((octet_Text.f a0).bind fun t277 => ((octet_Control.f a0).bind fun t278 => (if t278 = true then (if (t277 == (a0 == 9)) = true then ((octet_Token.f a0).bind fun t279 => (some t279)) else (some false)) else (if (t277 == true) = true then ((octet_Token.f a0).bind fun t280 => (some t280)) else (some false))))) else (some false)) else (if (t276 == (a0 == 32)) = true then ((octet_Text.f a0).bind fun t281 => ((octet_Control.f a0).bind fun t282 => (if t282 = true then (if (t281 == (a0 == 9)) = true then ((octet_Token.f a0).bind fun t283 => (some t283)) else (some false)) else (if (t281 == true) = true then ((octet_Token.f a0).bind fun t284 => (some t284)) else (some false))))) else (some false)))))) else ((octet_Blank.f a0).bind fun t285 => (if a0 = 9 then (if (t285 == true) = true then ((octet_Text.f a0).bind fun t286 => ((octet_Control.f a0).bind fun t287 => (if t287 = true then (if (t286 == (a0 == 9)) = true then ((octet_Token.f a0).bind fun t288 => (some t288)) else (some false)) else (if (t286 == true) = true then ((octet_Token.f a0).bind fun t289 => (some t289)) else (some false))))) else (some false)) else (if (t285 == (a0 == 32)) = true then ((octet_Text.f a0).bind fun t290 => ((octet_Control.f a0).bind fun t291 => (if t291 = true then (if (t290 == (a0 == 9)) = true then ((octet_Token.f a0).bind fun t292 => (some t292)) else (some false)) else (if (t290 == true) = true then ((octet_Token.f a0).bind fun t293 => (some t293)) else (some false))))) else (some false)))))) else (some false))) else ((octet_Visible.f a0).bind fun t294 => (if t294 = true then ((octet_Control.f a0).bind fun t295 => (if t295 = true then (some false) else ((octet_Blank.f a0).bind fun t296 => (if a0 = 9 then (if (t296 == true) = true then ((octet_Text.f a0).bind fun t297 => ((octet_Control.f a0).bind fun t298 => (if t298 = true then (if (t297 == (a0 == 9)) = true then ((octet_Token.f a0).bind fun t299 => (some t299)) else (some false)) else (if (t297 == true) = true then ((octet_Token.f a0).bind fun t300 => (some t300)) else (some false))))) else (some false)) else (if (t296 == (a0 == 32)) = true then ((octet_Text.f a0).bind fun t301 => ((octet_Control.f a0).bind fun t302 => (if t302 = true then (if (t301 == (a0 == 9)) = true then ((octet_Token.f a0).bind fun t303 => (some t303)) else (some false)) else (if (t301 == true) = true then ((octet_Token.f a0).bind fun t304 => (some t304)) else (some false))))) else (some false)))))) else ((octet_Blank.f a0).bind fun t305 => (if a0 = 9 then (if (t305 == true) = true then ((octet_Text.f a0).bind fun t306 => ((octet_Control.f a0).bind fun t307 => (if t307 = true then (if (t306 == (a0 == 9)) = true then ((octet_Token.f a0).bind fun t308 => (some t308)) else (some false)) else (if (t306 == true) = true then ((octet_Token.f a0).bind fun t309 => (some t309)) else (some false))))) else (some false)) else (if (t305 == (a0 == 32)) = true then ((octet_Text.f a0).bind fun t310 => ((octet_Control.f a0).bind fun t311 => (if t311 = true then (if (t310 == (a0 == 9)) = true then ((octet_Token.f a0).bind fun t312 => (some t312)) else (some false)) else (if (t310 == true) = true then ((octet_Token.f a0).bind fun t313 => (some t313)) else (some false))))) else (some false)))))))))))) else (some false)) else (some false))) else ((octet_Token.f a0).bind fun t314 => (if t314 = true then ((octet_Visible.f a0).bind fun t315 => (if t315 = true then ((octet_Visible.f a0).bind fun t316 => (if t316 = true then ((octet_Text.f a0).bind fun t317 => (if t317 = true then ((octet_Blank.f a0).bind fun t318 => (if t318 = true then ((octet_Text.f a0).bind fun t319 => (if t319 = true then ((octet_Visible.f a0).bind fun t320 => (if t320 = true then ((octet_Control.f a0).bind fun t321 => (if t321 = true then (some false) else ((octet_Blank.f a0).bind fun t322 => (if a0 = 9 then (if (t322 == true) = true then ((octet_Text.f a0).bind fun t323 => ((octet_Control.f a0).bind fun t324 => (if t324 = true then (if (t323 == (a0 == 9)) = true then (if bt136.2 = true then ((octet_Token.f a0).bind fun t325 => (some t325)) else (some true)) else (some false)) else (if (t323 == true) = true then (if bt136.2 = true then ((octet_Token.f a0).bind fun t326 => (some t326)) else (some true)) else (some false))))) else (some false)) else (if (t322 == (a0 == 32)) = true then ((octet_Text.f a0).bind fun t327 => ((octet_Control.f a0).bind fun t328 => (if t328 = true then (if (t327 == (a0 == 9)) = true then (if bt136.2 = true then ((octet_Token.f a0).bind fun t329 => (some t329)) else (some true)) else (some false)) else (if (t327 == true) = true then (if bt136.2 = true then ((octet_Token.f a0).bind fun t330 => (some t330)) else (some true)) else (some false))))) else (some false)))))) else ((octet_Blank.f a0).bind fun t331 => (if a0 = 9 then (if (t331 == true) = true then ((octet_Text.f a0).bind fun t332 => ((octet_Control.f a0).bind fun t333 => (if t333 = true then (if (t332 == (a0 == 9)) = true then (if bt136.2 = true then ((octet_Token.f a0).bind fun t334 => (some t334)) else (some true)) else (some false)) else (if (t332 == true) = true then (if bt136.2 = true then ((octet_Token.f a0).bind fun t335 => (some t335)) else (some true)) else (some false))))) else (some false)) else (if (t331 == (a0 == 32)) = true then ((octet_Text.f a0).bind fun t336 => ((octet_Control.f a0).bind fun t337 => (if t337 = true then (if (t336 == (a0 == 9)) = true then (if bt136.2 = true then ((octet_Token.f a0).bind fun t338 => (some t338)) else (some true)) else (some false)) else (if (t336 == true) = true then (if bt136.2 = true then ((octet_Token.f a0).bind fun t339 => (some t339)) else (some true)) else (some false))))) else (some false)))))) else (some false))) else ((octet_Visible.f a0).bind fun t340 => (if t340 = true then ((octet_Control.f a0).bind fun t341 => (if t341 = true then (some false) else ((octet_Blank.f a0).bind fun t342 => (if a0 = 9 then (if (t342 == true) = true then ((octet_Text.f a0).bind fun t343 => ((octet_Control.f a0).bind fun t344 => (if t344 = true then (if (t343 == (a0 == 9)) = true then (if bt136.2 = true then ((octet_Token.f a0).bind fun t345 => (some t345)) else (some true)) else (some false)) else (if (t343 == true) = true then (if bt136.2 = true then ((octet_Token.f a0).bind fun t346 => (some t346)) else (some true)) else (some false))))) else (some false)) else (if (t342 == (a0 == 32)) = true then ((octet_Text.f a0).bind fun t347 => ((octet_Control.f a0).bind fun t348 => (if t348 = true then (if (t347 == (a0 == 9)) = true then (if bt136.2 = true then ((octet_Token.f a0).bind fun t349 => (some t349)) else (some true)) else (some false)) else (if (t347 == true) = true then (if bt136.2 = true then ((octet_Token.f a0).bind fun t350 => (some t350)) else (some true)) else (some false))))) else (some false)))))) else ((octet_Blank.f a0).bind fun t351 => (if a0 = 9 then (if (t351 == true) = true then ((octet_Text.f a0).bind fun t352 => ((octet_Control.f a0).bind fun t353 => (if t353 = true then (if (t352 == (a0 == 9)) = true then (if bt136.2 = true then ((octet_Token.f a0).bind fun t354 => (some t354)) else (some true)) else (some false)) else (if (t352 == true) = true then (if bt136.2 = true then ((octet_Token.f a0).bind fun t355 => (some t355)) else (some true)) else (some false))))) else (some false)) else (if (t351 == (a0 == 32)) = true then ((octet_Text.f a0).bind fun t356 => ((octet_Control.f a0).bind fun t357 => (if t357 = true then (if (t356 == (a0 == 9)) = true then (if bt136.2 = true then ((octet_Token.f a0).bind fun t358 => (some t358)) else (some true)) else (some false)) else (if (t356 == true) = true then (if bt136.2 = true then ((octet_Token.f a0).bind fun t359 => (some t359)) else (some true)) else (some false))))) else (some false)))))))) else (some false))) else ((octet_Blank.f a0).bind fun t360 => (if t360 = true then ((octet_Text.f a0).bind fun t361 => (if t361 = true then ((octet_Visible.f a0).bind fun t362 => (if t362 = true then ((octet_Control.f a0).bind fun t363 => (if t363 = true then (some false) else ((octet_Blank.f a0).bind fun t364 => (if a0 = 9 then (if (t364 == true) = true then ((octet_Text.f a0).bind fun t365 => ((octet_Control.f a0).bind fun t366 => (if t366 = true then (if (t365 == (a0 == 9)) = true then (if bt136.2 = true then ((octet_Token.f a0).bind fun t367 => (some t367)) else (some true)) else (some false)) else (if (t365 == true) = true then (if bt136.2 = true then ((octet_Token.f a0).bind fun t368 => (some t368)) else (some true)) else (some false))))) else (some false)) else (if (t364 == (a0 == 32)) = true then ((octet_Text.f a0).bind fun t369 => ((octet_Control.f a0).bind fun t370 => (if t370 = true then (if (t369 == (a0 == 9)) = true then (if bt136.2 = true then ((octet_Token.f a0).bind fun t371 => (some t371)) else (some true)) else (some false)) else (if (t369 == true) = true then (if bt136.2 = true then ((octet_Token.f a0).bind fun t372 => (some t372)) else (some true)) else (some false))))) else (some false)))))) else ((octet_Blank.f a0).bind fun t373 => (if a0 = 9 then (if (t373 == true) = true then ((octet_Text.f a0).bind fun t374 => ((octet_Control.f a0).bind fun t375 => (if t375 = true then (if (t374 == (a0 == 9)) = true then (if bt136.2 = true then ((octet_Token.f a0).bind fun t376 => (some t376)) else (some true)) else (some false)) else (if (t374 == true) = true then (if bt136.2 = true then ((octet_Token.f a0).bind fun t377 => (some t377)) else (some true)) else (some false))))) else (some false)) else (if (t373 == (a0 == 32)) = true then ((octet_Text.f a0).bind fun t378 => ((octet_Control.f a0).bind fun t379 => (if t379 = true then (if (t378 == (a0 == 9)) = true then (if bt136.2 = true then ((octet_Token.f a0).bind fun t380 => (some t380)) else (some true)) else (some false)) else (if (t378 == true) = true then (if bt136.2 = true then ((octet_Token.f a0).bind fun t381 => (some t381)) else (some true)) else (some false))))) else (some false)))))) else (some false))) else ((octet_Visible.f a0).bind fun t382 => (if t382 = true then ((octet_Control.f a0).bind fun t383 => (if t383 = true then (some false) else ((octet_Blank.f a0).bind fun t384 => (if a0 = 9 then (if (t384 == true) = true then ((octet_Text.f a0).bind fun t385 => ((octet_Control.f a0).bind fun t386 => (if t386 = true then (if (t385 == (a0 == 9)) = true then (if bt136.2 = true then ((octet_Token.f a0).bind fun t387 => (some t387)) else (some true)) else (some false)) else (if (t385 == true) = true then (if bt136.2 = true then ((octet_Token.f a0).bind fun t388 => (some t388)) else (some true)) else (some false))))) else (some false)) else (if (t384 == (a0 == 32)) = true then ((octet_Text.f a0).bind fun t389 => ((octet_Control.f a0).bind fun t390 => (if t390 = true then (if (t389 == (a0 == 9)) = true then (if bt136.2 = true then ((octet_Token.f a0).bind fun t391 => (some t391)) else (some true)) else (some false)) else (if (t389 == true) = true then (if bt136.2 = true then ((octet_Token.f a0).bind fun t392 => (some t392)) else (some true)) else (some false))))) else (some false)))))) else ((octet_Blank.f a0).bind fun t393 => (if a0 = 9 then (if (t393 == true) = true then ((octet_Text.f a0).bind fun t394 => ((octet_Control.f a0).bind fun t395 => (if t395 = true then (if (t394 == (a0 == 9)) = true then (if bt136.2 = true then ((octet_Token.f a0).bind fun t396 => (some t396)) else (some true)) else (some false)) else (if (t394 == true) = true then (if bt136.2 = true then ((octet_Token.f a0).bind fun t397 => (some t397)) else (some true)) else (some false))))) else (some false)) else (if (t393 == (a0 == 32)) = true then ((octet_Text.f a0).bind fun t398 => ((octet_Control.f a0).bind fun t399 => (if t399 = true then (if (t398 == (a0 == 9)) = true then (if bt136.2 = true then ((octet_Token.f a0).bind fun t400 => (some t400)) else (some true)) else (some false)) else (if (t398 == true) = true then (if bt136.2 = true then ((octet_Token.f a0).bind fun t401 => (some t401)) else (some true)) else (some false))))) else (some false)))))))))) else (some false))) else ((octet_Visible.f a0).bind fun t402 => (if t402 = true then ((octet_Text.f a0).bind fun t403 => (if t403 = true then ((octet_Blank.f a0).bind fun t404 => (if t404 = true then ((octet_Text.f a0).bind fun t405 => (if t405 = true then ((octet_Visible.f a0).bind fun t406 => (if t406 = true then ((octet_Control.f a0).bind fun t407 => (if t407 = true then (some false) else ((octet_Blank.f a0).bind fun t408 => (if a0 = 9 then (if (t408 == true) = true then ((octet_Text.f a0).bind fun t409 => ((octet_Control.f a0).bind fun t410 => (if t410 = true then (if (t409 == (a0 == 9)) = true then (if bt136.2 = true then ((octet_Token.f a0).bind fun t411 => (some t411)) else (some true)) else (some false)) else (if (t409 == true) = true then (if bt136.2 = true then ((octet_Token.f a0).bind fun t412 => (some t412)) else (some true)) else (some false))))) else (some false)) else (if (t408 == (a0 == 32)) = true then ((octet_Text.f a0).bind fun t413 => ((octet_Control.f a0).bind fun t414 => (if t414 = true then (if (t413 == (a0 == 9)) = true then (if bt136.2 = true then ((octet_Token.f a0).bind fun t415 => (some t415)) else (some true)) else (some false)) else (if (t413 == true) = true then (if bt136.2 = true then ((octet_Token.f a0).bind fun t416 => (some t416)) else (some true)) else (some false))))) else (some false)))))) else ((octet_Blank.f a0).bind fun t417 => (if a0 = 9 then (if (t417 == true) = true then ((octet_Text.f a0).bind fun t418 => ((octet_Control.f a0).bind fun t419 => (if t419 = true then (if (t418 == (a0 == 9)) = true then (if bt136.2 = true then ((octet_Token.f a0).bind fun t420 => (some t420)) else (some true)) else (some false)) else (if (t418 == true) = true then (if bt136.2 = true then ((octet_Token.f a0).bind fun t421 => (some t421)) else (some true)) else (some false))))) else (some false)) else (if (t417 == (a0 == 32)) = true then ((octet_Text.f a0).bind fun t422 => ((octet_Control.f a0).bind fun t423 => (if t423 = true then (if (t422 == (a0 == 9)) = true then (if bt136.2 = true then ((octet_Token.f a0).bind fun t424 => (some t424)) else (some true)) else (some false)) else (if (t422 == true) = true then (if bt136.2 = true then ((octet_Token.f a0).bind fun t425 => (some t425)) else (some true)) else (some false))))) else (some false)))))) else (some false))) else ((octet_Visible.f a0).bind fun t426 => (if t426 = true then ((octet_Control.f a0).bind fun t427 => (if t427 = true then (some false) else ((octet_Blank.f a0).bind fun t428 => (if a0 = 9 then (if (t428 == true) = true then ((octet_Text.f a0).bind fun t429 => ((octet_Control.f a0).bind fun t430 => (if t430 = true then (if (t429 == (a0 == 9)) = true then (if bt136.2 = true then ((octet_Token.f a0).bind fun t431 => (some t431)) else (some true)) else (some false)) else (if (t429 == true) = true then (if bt136.2 = true then ((octet_Token.f a0).bind fun t432 => (some t432)) else (some true)) else (some false))))) else (some false)) else (if (t428 == (a0 == 32)) = true then ((octet_Text.f a0).bind fun t433 => ((octet_Control.f a0).bind fun t434 => (if t434 = true then (if (t433 == (a0 == 9)) = true then (if bt136.2 = true then ((octet_Token.f a0).bind fun t435 => (some t435)) else (some true)) else (some false)) else (if (t433 == true) = true then (if bt136.2 = true then ((octet_Token.f a0).bind fun t436 => (some t436)) else (some true)) else (some false))))) else (some false)))))) else ((octet_Blank.f a0).bind fun t437 => (if a0 = 9 then (if (t437 == true) = true then ((octet_Text.f a0).bind fun t438 => ((octet_Control.f a0).bind fun t439 => (if t439 = true then (if (t438 == (a0 == 9)) = true then (if bt136.2 = true then ((octet_Token.f a0).bind fun t440 => (some t440)) else (some true)) else (some false)) else (if (t438 == true) = true then (if bt136.2 = true then ((octet_Token.f a0).bind fun t441 => (some t441)) else (some true)) else (some false))))) else (some false)) else (if (t437 == (a0 == 32)) = true then ((octet_Text.f a0).bind fun t442 => ((octet_Control.f a0).bind fun t443 => (if t443 = true then (if (t442 == (a0 == 9)) = true then (if bt136.2 = true then ((octet_Token.f a0).bind fun t444 => (some t444)) else (some true)) else (some false)) else (if (t442 == true) = true then (if bt136.2 = true then ((octet_Token.f a0).bind fun t445 => (some t445)) else (some true)) else (some false))))) else (some false)))))))) else (some false))) else ((octet_Blank.f a0).bind fun t446 => (if t446 = true then ((octet_Text.f a0).bind fun t447 => (if t447 = true then ((octet_Visible.f a0).bind fun t448 => (if t448 = true then ((octet_Control.f a0).bind fun t449 => (if t449 = true then (some false) else ((octet_Blank.f a0).bind fun t450 => (if a0 = 9 then (if (t450 == true) = true then ((octet_Text.f a0).bind fun t451 => ((octet_Control.f a0).bind fun t452 => (if t452 = true then (if (t451 == (a0 == 9)) = true then (if bt136.2 = true then ((octet_Token.f a0).bind fun t453 => (some t453)) else (some true)) else (some false)) else (if (t451 == true) = true then (if bt136.2 = true then ((octet_Token.f a0).bind fun t454 => (some t454)) else (some true)) else (some false))))) else (some false)) else (if (t450 == (a0 == 32)) = true then ((octet_Text.f a0).bind fun t455 => ((octet_Control.f a0).bind fun t456 => (if t456 = true then (if (t455 == (a0 == 9)) = true then (if bt136.2 = true then ((octet_Token.f a0).bind fun t457 => (some t457)) else (some true)) else (some false)) else (if (t455 == true) = true then (if bt136.2 = true then ((octet_Token.f a0).bind fun t458 => (some t458)) else (some true)) else (some false))))) else (some false)))))) else ((octet_Blank.f a0).bind fun t459 => (if a0 = 9 then (if (t459 == true) = true then ((octet_Text.f a0).bind fun t460 => ((octet_Control.f a0).bind fun t461 => (if t461 = true then (if (t460 == (a0 == 9)) = true then (if bt136.2 = true then ((octet_Token.f a0).bind fun t462 => (some t462)) else (some true)) else (some false)) else (if (t460 == true) = true then (if bt136.2 = true then ((octet_Token.f a0).bind fun t463 => (some t463)) else (some true)) else (some false))))) else (some false)) else (if (t459 == (a0 == 32)) = true then ((octet_Text.f a0).bind fun t464 => ((octet_Control.f a0).bind fun t465 => (if t465 = true then (if (t464 == (a0 == 9)) = true then (if bt136.2 = true then ((octet_Token.f a0).bind fun t466 => (some t466)) else (some true)) else (some false)) else (if (t464 == true) = true then (if bt136.2 = true then ((octet_Token.f a0).bind fun t467 => (some t467)) else (some true)) else (some false))))) else (some false)))))) else (some false))) else ((octet_Visible.f a0).bind fun t468 => (if t468 = true then ((octet_Control.f a0).bind fun t469 => (if t469 = true then (some false) else ((octet_Blank.f a0).bind fun t470 => (if a0 = 9 then (if (t470 == true) = true then ((octet_Text.f a0).bind fun t471 => ((octet_Control.f a0).bind fun t472 => (if t472 = true then (if (t471 == (a0 == 9)) = true then (if bt136.2 = true then ((octet_Token.f a0).bind fun t473 => (some t473)) else (some true)) else (some false)) else (if (t471 == true) = true then (if bt136.2 = true then ((octet_Token.f a0).bind fun t474 => (some t474)) else (some true)) else (some false))))) else (some false)) else (if (t470 == (a0 == 32)) = true then ((octet_Text.f a0).bind fun t475 => ((octet_Control.f a0).bind fun t476 => (if t476 = true then (if (t475 == (a0 == 9)) = true then (if bt136.2 = true then ((octet_Token.f a0).bind fun t477 => (some t477)) else (some true)) else (some false)) else (if (t475 == true) = true then (if bt136.2 = true then ((octet_Token.f a0).bind fun t478 => (some t478)) else (some true)) else (some false))))) else (some false)))))) else ((octet_Blank.f a0).bind fun t479 => (if a0 = 9 then (if (t479 == true) = true then ((octet_Text.f a0).bind fun t480 => ((octet_Control.f a0).bind fun t481 => (if t481 = true then (if (t480 == (a0 == 9)) = true then (if bt136.2 = true then ((octet_Token.f a0).bind fun t482 => (some t482)) else (some true)) else (some false)) else (if (t480 == true) = true then (if bt136.2 = true then ((octet_Token.f a0).bind fun t483 => (some t483)) else (some true)) else (some false))))) else (some false)) else (if (t479 == (a0 == 32)) = true then ((octet_Text.f a0).bind fun t484 => ((octet_Control.f a0).bind fun t485 => (if t485 = true then (if (t484 == (a0 == 9)) = true then (if bt136.2 = true then ((octet_Token.f a0).bind fun t486 => (some t486)) else (some true)) else (some false)) else (if (t484 == true) = true then (if bt136.2 = true then ((octet_Token.f a0).bind fun t487 => (some t487)) else (some true)) else (some false))))) else (some false))))))))))))))) else (some false))) = some r := h
  clear h
  replace H := Option.bind_eq_some_iff.mp H
  obtain ⟨t135, A20, H⟩ := H
  (try dsimp only at H)
  have A2 := Aside0.mk A20
  clear A20
  by_cases c3 : t135 = true
  · subst c3
    rw [if_pos rfl] at H
    replace H := Option.bind_eq_some_iff.mp H
    obtain ⟨⟨t136, t137⟩, A40, H⟩ := H
    (try dsimp only at H)
    have A4 := Aside0.mk A40
    clear A40
    replace H := Option.bind_eq_some_iff.mp H
    obtain ⟨t138, A50, H⟩ := H
    (try dsimp only at H)
    have A5 := Aside0.mk A50
    clear A50
    by_cases c6 : t138 = true
    · subst c6
      rw [if_pos rfl] at H
      replace H := Option.bind_eq_some_iff.mp H
      obtain ⟨t139, A70, H⟩ := H
      (try dsimp only at H)
      have A7 := Aside0.mk A70
      clear A70
      by_cases c8 : t139 = true
      · subst c8
        rw [if_pos rfl] at H
        by_cases c9 : t137 = true
        · subst c9
          rw [if_pos rfl] at H
          replace H := Option.bind_eq_some_iff.mp H
          obtain ⟨t140, A100, H⟩ := H
          have E_ : true = t140 := Option.some.inj (A7.out.symm.trans A100)
          subst E_
          (try dsimp only at H)
          have A10 := Aside0.mk A100
          clear A100
          rw [if_pos (show true = true by rfl)] at H
          replace H := Option.bind_eq_some_iff.mp H
          obtain ⟨t141, A110, H⟩ := H
          (try dsimp only at H)
          have A11 := Aside0.mk A110
          clear A110
          by_cases c12 : t141 = true
          · subst c12
            rw [if_pos rfl] at H
            replace H := Option.bind_eq_some_iff.mp H
            obtain ⟨t142, A130, H⟩ := H
            have E_ : true = t142 := Option.some.inj (A11.out.symm.trans A130)
            subst E_
            (try dsimp only at H)
            have A13 := Aside0.mk A130
            clear A130
            rw [if_pos (show true = true by rfl)] at H
            replace H := Option.bind_eq_some_iff.mp H
            obtain ⟨t143, A140, H⟩ := H
            (try dsimp only at H)
            have A14 := Aside0.mk A140
            clear A140
            by_cases c15 : t143 = true
            · subst c15
              rw [if_pos rfl] at H
              replace H := Option.bind_eq_some_iff.mp H
              obtain ⟨t144, A160, H⟩ := H
              (try dsimp only at H)
              have A16 := Aside0.mk A160
              clear A160
              by_cases c17 : t144 = true
              · subst c17
                rw [if_pos rfl] at H
                replace H := Option.bind_eq_some_iff.mp H
                obtain ⟨t145, A180, H⟩ := H
                have E_ : true = t145 := Option.some.inj (A14.out.symm.trans A180)
                subst E_
                (try dsimp only at H)
                have A18 := Aside0.mk A180
                clear A180
                rw [if_pos (show true = true by rfl)] at H
                replace H := Option.bind_eq_some_iff.mp H
                obtain ⟨t146, A190, H⟩ := H
                have E_ : true = t146 := Option.some.inj (A11.out.symm.trans A190)
                subst E_
                (try dsimp only at H)
                have A19 := Aside0.mk A190
                clear A190
                rw [if_pos (show true = true by rfl)] at H
                replace H := Option.bind_eq_some_iff.mp H
                obtain ⟨t147, A200, H⟩ := H
                (try dsimp only at H)
                have A20 := Aside0.mk A200
                clear A200
                by_cases c21 : t147 = true
                · subst c21
                  rw [if_pos rfl] at H
                  exact absurd ((Option.some.inj H).trans HT.out) (by decide)
                · replace c21 := Bool.eq_false_iff.mpr c21
                  subst c21
                  rw [if_neg (show ¬ (false = true) by decide)] at H
                  replace H := Option.bind_eq_some_iff.mp H
                  obtain ⟨t148, A220, H⟩ := H
                  have E_ : true = t148 := Option.some.inj (A16.out.symm.trans A220)
                  subst E_
                  (try dsimp only at H)
                  have A22 := Aside0.mk A220
                  clear A220
                  by_cases c23 : a0 = 9
                  · rw [if_pos c23] at H
                    have c23b0 : (a0 == 9) = true := beq_iff_eq.mpr c23
                    have c23b1 : (a0 != 9) = false := bne_eq_false_iff_eq.mpr c23
                    clear c23
                    exact absurd (⟨A20.out, c23b0⟩) (dead_byte (p := fun a0 => octet_Control.f a0 = some false ∧ (a0 == 9) = true) (by decide +kernel) HQ0.out)
                  · rw [if_neg c23] at H
                    have c23b0 : (a0 == 9) = false := beq_eq_false_iff_ne.mpr c23
                    have c23b1 : (a0 != 9) = true := bne_iff_ne.mpr c23
                    exact absurd (⟨A19.out, A22.out⟩) (dead_byte (p := fun a0 => octet_Visible.f a0 = some true ∧ octet_Blank.f a0 = some true) (by decide +kernel) HQ0.out)
              · replace c17 := Bool.eq_false_iff.mpr c17
                subst c17
                rw [if_neg (show ¬ (false = true) by decide)] at H
                replace H := Option.bind_eq_some_iff.mp H
                obtain ⟨t166, A240, H⟩ := H
                have E_ : true = t166 := Option.some.inj (A11.out.symm.trans A240)
                subst E_
                (try dsimp only at H)
                have A24 := Aside0.mk A240
                clear A240
                rw [if_pos (show true = true by rfl)] at H
                replace H := Option.bind_eq_some_iff.mp H
                obtain ⟨t167, A250, H⟩ := H
                (try dsimp only at H)
                have A25 := Aside0.mk A250
                clear A250
                by_cases c26 : t167 = true
                · subst c26
                  rw [if_pos rfl] at H
                  exact absurd ((Option.some.inj H).trans HT.out) (by decide)
                · replace c26 := Bool.eq_false_iff.mpr c26
                  subst c26
                  rw [if_neg (show ¬ (false = true) by decide)] at H
                  replace H := Option.bind_eq_some_iff.mp H
                  obtain ⟨t168, A270, H⟩ := H
                  have E_ : false = t168 := Option.some.inj (A16.out.symm.trans A270)
                  subst E_
                  (try dsimp only at H)
                  have A27 := Aside0.mk A270
                  clear A270
                  by_cases c28 : a0 = 9
                  · rw [if_pos c28] at H
                    have c28b0 : (a0 == 9) = true := beq_iff_eq.mpr c28
                    have c28b1 : (a0 != 9) = false := bne_eq_false_iff_eq.mpr c28
                    clear c28
                    exact absurd (⟨A27.out, c28b0⟩) (dead_byte (p := fun a0 => octet_Blank.f a0 = some false ∧ (a0 == 9) = true) (by decide +kernel) HQ0.out)
                  · rw [if_neg c28] at H
                    have c28b0 : (a0 == 9) = false := beq_eq_false_iff_ne.mpr c28
                    have c28b1 : (a0 != 9) = true := bne_iff_ne.mpr c28
                    rw [c28b0] at H
                    by_cases c29 : (a0 == 32) = true
                    · skip
                      rw [c29] at H
                      have c29q : a0 = 32 := by simpa using c29
                      have c29b0 : (a0 == 32) = true := beq_iff_eq.mpr c29q
                      have c29b1 : (a0 != 32) = false := bne_eq_false_iff_eq.mpr c29q
                      clear c29q
                      have H2_ := H
                      clear H
                      have H := H2_
                      clear H2_
                      rw [if_neg (show ¬ ((false == true) = true) by decide)] at H
                      exact absurd ((Option.some.inj H).trans HT.out) (by decide)
                    · skip
                      replace c29 := Bool.eq_false_iff.mpr c29
                      rw [c29] at H
                      have c29q : ¬ (a0 = 32) := by simpa using c29
                      have c29b0 : (a0 == 32) = false := beq_eq_false_iff_ne.mpr c29q
                      have c29b1 : (a0 != 32) = true := bne_iff_ne.mpr c29q
                      have H2_ := H
                      clear H
                      have H := H2_
                      clear H2_
                      rw [if_pos (show (false == false) = true by rfl)] at H
                      replace H := Option.bind_eq_some_iff.mp H
                      obtain ⟨t173, A300, H⟩ := H
                      have E_ : true = t173 := Option.some.inj (A14.out.symm.trans A300)
                      subst E_
                      (try dsimp only at H)
                      have A30 := Aside0.mk A300
                      clear A300
                      replace H := Option.bind_eq_some_iff.mp H
                      obtain ⟨t174, A310, H⟩ := H
                      have E_ : false = t174 := Option.some.inj (A25.out.symm.trans A310)
                      subst E_
                      (try dsimp only at H)
                      have A31 := Aside0.mk A310
                      clear A310
                      rw [if_neg (show ¬ (false = true) by decide)] at H
                      rw [if_pos (show (true == true) = true by rfl)] at H
                      replace H := Option.bind_eq_some_iff.mp H
                      obtain ⟨t176, A320, H⟩ := H
                      have E_ : true = t176 := Option.some.inj (A7.out.symm.trans A320)
                      subst E_
                      (try dsimp only at H)
                      have A32 := Aside0.mk A320
                      clear A320
                      obtain rfl := Option.some.inj H
                      go_enter Try.func5, Try.ntmps5
                      go_wp2_with (first | ((with_reducible refine gate_callee (f := 7) rfl ?_); refine goesL_ (some 5) rfl rfl Try.func7 (by kernel_rfl) rfl #[] rfl (by (try simp only [List.map_toArray, List.map_cons, List.map_nil]); first | done | rfl | (simp only [List.length_drop, List.length_take]; rfl)) ?_; (with_reducible refine (parallaxlaw1_known.calls k  true _ A2.out).mono ?_); rintro e w33 ⟨rfl, hb⟩; refine ⟨_, rfl, ?_⟩; have n0_ := Aside0.mk (below_step (by repeat (first | (with_reducible first | exact HB.out | apply below_alloc | apply pw_below_drewN | apply below_drew1) | exact HB.out)) hb); clear HB; have HB := n0_; clear n0_; (try clear hb); (try clear hb2); (try clear hk); (try clear hi)) | ((with_reducible refine gate_callee (f := 8) rfl ?_); refine goesL_ (some 9) rfl rfl Try.func8 (by kernel_rfl) rfl #[.int .u8 a0] rfl (by (try simp only [List.map_toArray, List.map_cons, List.map_nil]); first | done | rfl | (simp only [List.length_drop, List.length_take]; rfl)) ?_; (with_reducible refine (octet_Hex.calls a0 t136 true _ A4.out).mono ?_); rintro e w' ⟨rfl, ⟨nd, rfl⟩⟩; refine ⟨_, rfl, ?_⟩) | ((with_reducible refine gate_callee (f := 18) rfl ?_); refine goesL_ (some 13) rfl rfl Try.func18 (by kernel_rfl) rfl #[.int .u8 a0] rfl (by (try simp only [List.map_toArray, List.map_cons, List.map_nil]); first | done | rfl | (simp only [List.length_drop, List.length_take]; rfl)) ?_; (with_reducible refine (octet_Digit.calls a0 true _ A5.out).mono ?_); rintro e w' ⟨rfl, ⟨nd, rfl⟩⟩; refine ⟨_, rfl, ?_⟩) | (go_at_call 10; (with_reducible refine (octet_Token.calls a0 true _ A7.out).mono ?_); rintro e w' ⟨rfl, ⟨nd, rfl⟩⟩) | (go_at_call 10; (with_reducible refine (octet_Token.calls a0 true _ A10.out).mono ?_); rintro e w' ⟨rfl, ⟨nd, rfl⟩⟩) | (go_at_call 12; (with_reducible refine (octet_Visible.calls a0 true _ A11.out).mono ?_); rintro e w' ⟨rfl, ⟨nd, rfl⟩⟩) | (go_at_call 12; (with_reducible refine (octet_Visible.calls a0 true _ A13.out).mono ?_); rintro e w' ⟨rfl, ⟨nd, rfl⟩⟩) | (go_at_call 20; (with_reducible refine (octet_Text.calls a0 true _ A14.out).mono ?_); rintro e w' ⟨rfl, ⟨nd, rfl⟩⟩) | (go_at_call 14; (with_reducible refine (octet_Blank.calls a0 false _ A16.out).mono ?_); rintro e w' ⟨rfl, ⟨nd, rfl⟩⟩) | (go_at_call 12; (with_reducible refine (octet_Visible.calls a0 true _ A24.out).mono ?_); rintro e w' ⟨rfl, ⟨nd, rfl⟩⟩) | (go_at_call 16; (with_reducible refine (octet_Control.calls a0 false _ A25.out).mono ?_); rintro e w' ⟨rfl, ⟨nd, rfl⟩⟩) | (go_at_call 14; (with_reducible refine (octet_Blank.calls a0 false _ A27.out).mono ?_); rintro e w' ⟨rfl, ⟨nd, rfl⟩⟩) | (go_at_call 20; (with_reducible refine (octet_Text.calls a0 true _ A30.out).mono ?_); rintro e w' ⟨rfl, ⟨nd, rfl⟩⟩) | (go_at_call 16; (with_reducible refine (octet_Control.calls a0 false _ A31.out).mono ?_); rintro e w' ⟨rfl, ⟨nd, rfl⟩⟩) | (go_at_call 10; (with_reducible refine (octet_Token.calls a0 true _ A32.out).mono ?_); rintro e w' ⟨rfl, ⟨nd, rfl⟩⟩) | (go_at_call 7; (with_reducible refine (parallaxlaw1_known.calls k  true _ A2.out).mono ?_); rintro e w33 ⟨rfl, hb⟩; have n0_ := Aside0.mk (below_step (by repeat (first | (with_reducible first | exact HB.out | apply below_alloc | apply pw_below_drewN | apply below_drew1) | exact HB.out)) hb); clear HB; have HB := n0_; clear n0_; (try clear hb); (try clear hb2); (try clear hk); (try clear hi)) | (go_at_call 8; (with_reducible refine (octet_Hex.calls a0 t136 true _ A4.out).mono ?_); rintro e w' ⟨rfl, ⟨nd, rfl⟩⟩) | (go_at_call 18; (with_reducible refine (octet_Digit.calls a0 true _ A5.out).mono ?_); rintro e w' ⟨rfl, ⟨nd, rfl⟩⟩))
                      (try any_goals (exfalso; have h_ := ‹some undef = some (Value.bool _)›; revert h_; simp [undef]; done))
                      go_ret
                      exact ⟨by first | rfl | (simp [errW_none, errW_some] <;> rfl) | (simp [*, errW_none, errW_some] <;> rfl), by repeat (first | (with_reducible first | exact HB.out | apply below_alloc | apply pw_below_drewN | apply below_drew1) | exact HB.out)⟩
            · replace c15 := Bool.eq_false_iff.mpr c15
              subst c15
              rw [if_neg (show ¬ (false = true) by decide)] at H
              exact absurd ((Option.some.inj H).trans HT.out) (by decide)
          · replace c12 := Bool.eq_false_iff.mpr c12
            subst c12
            rw [if_neg (show ¬ (false = true) by decide)] at H
            exact absurd ((Option.some.inj H).trans HT.out) (by decide)
        · replace c9 := Bool.eq_false_iff.mpr c9
          subst c9
          rw [if_neg (show ¬ (false = true) by decide)] at H
          exact absurd ((Option.some.inj H).trans HT.out) (by decide)
      · replace c8 := Bool.eq_false_iff.mpr c8
        subst c8
        rw [if_neg (show ¬ (false = true) by decide)] at H
        exact absurd ((Option.some.inj H).trans HT.out) (by decide)
    · replace c6 := Bool.eq_false_iff.mpr c6
      subst c6
      rw [if_neg (show ¬ (false = true) by decide)] at H
      replace H := Option.bind_eq_some_iff.mp H
      obtain ⟨t314, A340, H⟩ := H
      (try dsimp only at H)
      have A34 := Aside0.mk A340
      clear A340
      by_cases c35 : t314 = true
      · subst c35
        rw [if_pos rfl] at H
        replace H := Option.bind_eq_some_iff.mp H
        obtain ⟨t315, A360, H⟩ := H
        (try dsimp only at H)
        have A36 := Aside0.mk A360
        clear A360
        by_cases c37 : t315 = true
        · subst c37
          rw [if_pos rfl] at H
          replace H := Option.bind_eq_some_iff.mp H
          obtain ⟨t316, A380, H⟩ := H
          have E_ : true = t316 := Option.some.inj (A36.out.symm.trans A380)
          subst E_
          (try dsimp only at H)
          have A38 := Aside0.mk A380
          clear A380
          rw [if_pos (show true = true by rfl)] at H
          replace H := Option.bind_eq_some_iff.mp H
          obtain ⟨t317, A390, H⟩ := H
          (try dsimp only at H)
          have A39 := Aside0.mk A390
          clear A390
          by_cases c40 : t317 = true
          · subst c40
            rw [if_pos rfl] at H
            replace H := Option.bind_eq_some_iff.mp H
            obtain ⟨t318, A410, H⟩ := H
            (try dsimp only at H)
            have A41 := Aside0.mk A410
            clear A410
            by_cases c42 : t318 = true
            · subst c42
              rw [if_pos rfl] at H
              replace H := Option.bind_eq_some_iff.mp H
              obtain ⟨t319, A430, H⟩ := H
              have E_ : true = t319 := Option.some.inj (A39.out.symm.trans A430)
              subst E_
              (try dsimp only at H)
              have A43 := Aside0.mk A430
              clear A430
              rw [if_pos (show true = true by rfl)] at H
              replace H := Option.bind_eq_some_iff.mp H
              obtain ⟨t320, A440, H⟩ := H
              have E_ : true = t320 := Option.some.inj (A36.out.symm.trans A440)
              subst E_
              (try dsimp only at H)
              have A44 := Aside0.mk A440
              clear A440
              rw [if_pos (show true = true by rfl)] at H
              replace H := Option.bind_eq_some_iff.mp H
              obtain ⟨t321, A450, H⟩ := H
              (try dsimp only at H)
              have A45 := Aside0.mk A450
              clear A450
              by_cases c46 : t321 = true
              · subst c46
                rw [if_pos rfl] at H
                exact absurd ((Option.some.inj H).trans HT.out) (by decide)
              · replace c46 := Bool.eq_false_iff.mpr c46
                subst c46
                rw [if_neg (show ¬ (false = true) by decide)] at H
                replace H := Option.bind_eq_some_iff.mp H
                obtain ⟨t322, A470, H⟩ := H
                have E_ : true = t322 := Option.some.inj (A41.out.symm.trans A470)
                subst E_
                (try dsimp only at H)
                have A47 := Aside0.mk A470
                clear A470
                by_cases c48 : a0 = 9
                · rw [if_pos c48] at H
                  have c48b0 : (a0 == 9) = true := beq_iff_eq.mpr c48
                  have c48b1 : (a0 != 9) = false := bne_eq_false_iff_eq.mpr c48
                  clear c48
                  exact absurd (⟨A45.out, c48b0⟩) (dead_byte (p := fun a0 => octet_Control.f a0 = some false ∧ (a0 == 9) = true) (by decide +kernel) HQ0.out)
                · rw [if_neg c48] at H
                  have c48b0 : (a0 == 9) = false := beq_eq_false_iff_ne.mpr c48
                  have c48b1 : (a0 != 9) = true := bne_iff_ne.mpr c48
                  exact absurd (⟨A44.out, A47.out⟩) (dead_byte (p := fun a0 => octet_Visible.f a0 = some true ∧ octet_Blank.f a0 = some true) (by decide +kernel) HQ0.out)
            · replace c42 := Bool.eq_false_iff.mpr c42
              subst c42
              rw [if_neg (show ¬ (false = true) by decide)] at H
              replace H := Option.bind_eq_some_iff.mp H
              obtain ⟨t340, A490, H⟩ := H
              have E_ : true = t340 := Option.some.inj (A36.out.symm.trans A490)
              subst E_
              (try dsimp only at H)
              have A49 := Aside0.mk A490
              clear A490
              rw [if_pos (show true = true by rfl)] at H
              replace H := Option.bind_eq_some_iff.mp H
              obtain ⟨t341, A500, H⟩ := H
              (try dsimp only at H)
              have A50 := Aside0.mk A500
              clear A500
              by_cases c51 : t341 = true
              · subst c51
                rw [if_pos rfl] at H
                exact absurd ((Option.some.inj H).trans HT.out) (by decide)
              · replace c51 := Bool.eq_false_iff.mpr c51
                subst c51
                rw [if_neg (show ¬ (false = true) by decide)] at H
                replace H := Option.bind_eq_some_iff.mp H
                obtain ⟨t342, A520, H⟩ := H
                have E_ : false = t342 := Option.some.inj (A41.out.symm.trans A520)
                subst E_
                (try dsimp only at H)
                have A52 := Aside0.mk A520
                clear A520
                by_cases c53 : a0 = 9
                · rw [if_pos c53] at H
                  have c53b0 : (a0 == 9) = true := beq_iff_eq.mpr c53
                  have c53b1 : (a0 != 9) = false := bne_eq_false_iff_eq.mpr c53
                  clear c53
                  exact absurd (⟨A52.out, c53b0⟩) (dead_byte (p := fun a0 => octet_Blank.f a0 = some false ∧ (a0 == 9) = true) (by decide +kernel) HQ0.out)
                · rw [if_neg c53] at H
                  have c53b0 : (a0 == 9) = false := beq_eq_false_iff_ne.mpr c53
                  have c53b1 : (a0 != 9) = true := bne_iff_ne.mpr c53
                  rw [c53b0] at H
                  by_cases c54 : (a0 == 32) = true
                  · skip
                    rw [c54] at H
                    have c54q : a0 = 32 := by simpa using c54
                    have c54b0 : (a0 == 32) = true := beq_iff_eq.mpr c54q
                    have c54b1 : (a0 != 32) = false := bne_eq_false_iff_eq.mpr c54q
                    clear c54q
                    have H2_ := H
                    clear H
                    have H := H2_
                    clear H2_
                    rw [if_neg (show ¬ ((false == true) = true) by decide)] at H
                    exact absurd ((Option.some.inj H).trans HT.out) (by decide)
                  · skip
                    replace c54 := Bool.eq_false_iff.mpr c54
                    rw [c54] at H
                    have c54q : ¬ (a0 = 32) := by simpa using c54
                    have c54b0 : (a0 == 32) = false := beq_eq_false_iff_ne.mpr c54q
                    have c54b1 : (a0 != 32) = true := bne_iff_ne.mpr c54q
                    have H2_ := H
                    clear H
                    have H := H2_
                    clear H2_
                    rw [if_pos (show (false == false) = true by rfl)] at H
                    replace H := Option.bind_eq_some_iff.mp H
                    obtain ⟨t347, A550, H⟩ := H
                    have E_ : true = t347 := Option.some.inj (A39.out.symm.trans A550)
                    subst E_
                    (try dsimp only at H)
                    have A55 := Aside0.mk A550
                    clear A550
                    replace H := Option.bind_eq_some_iff.mp H
                    obtain ⟨t348, A560, H⟩ := H
                    have E_ : false = t348 := Option.some.inj (A50.out.symm.trans A560)
                    subst E_
                    (try dsimp only at H)
                    have A56 := Aside0.mk A560
                    clear A560
                    rw [if_neg (show ¬ (false = true) by decide)] at H
                    rw [if_pos (show (true == true) = true by rfl)] at H
                    by_cases c57 : t137 = true
                    · subst c57
                      rw [if_pos rfl] at H
                      replace H := Option.bind_eq_some_iff.mp H
                      obtain ⟨t350, A580, H⟩ := H
                      have E_ : true = t350 := Option.some.inj (A34.out.symm.trans A580)
                      subst E_
                      (try dsimp only at H)
                      have A58 := Aside0.mk A580
                      clear A580
                      obtain rfl := Option.some.inj H
                      go_enter Try.func5, Try.ntmps5
                      go_wp2_with (first | ((with_reducible refine gate_callee (f := 7) rfl ?_); refine goesL_ (some 5) rfl rfl Try.func7 (by kernel_rfl) rfl #[] rfl (by (try simp only [List.map_toArray, List.map_cons, List.map_nil]); first | done | rfl | (simp only [List.length_drop, List.length_take]; rfl)) ?_; (with_reducible refine (parallaxlaw1_known.calls k  true _ A2.out).mono ?_); rintro e w59 ⟨rfl, hb⟩; refine ⟨_, rfl, ?_⟩; have n0_ := Aside0.mk (below_step (by repeat (first | (with_reducible first | exact HB.out | apply below_alloc | apply pw_below_drewN | apply below_drew1) | exact HB.out)) hb); clear HB; have HB := n0_; clear n0_; (try clear hb); (try clear hb2); (try clear hk); (try clear hi)) | ((with_reducible refine gate_callee (f := 8) rfl ?_); refine goesL_ (some 9) rfl rfl Try.func8 (by kernel_rfl) rfl #[.int .u8 a0] rfl (by (try simp only [List.map_toArray, List.map_cons, List.map_nil]); first | done | rfl | (simp only [List.length_drop, List.length_take]; rfl)) ?_; (with_reducible refine (octet_Hex.calls a0 t136 true _ A4.out).mono ?_); rintro e w' ⟨rfl, ⟨nd, rfl⟩⟩; refine ⟨_, rfl, ?_⟩) | ((with_reducible refine gate_callee (f := 18) rfl ?_); refine goesL_ (some 13) rfl rfl Try.func18 (by kernel_rfl) rfl #[.int .u8 a0] rfl (by (try simp only [List.map_toArray, List.map_cons, List.map_nil]); first | done | rfl | (simp only [List.length_drop, List.length_take]; rfl)) ?_; (with_reducible refine (octet_Digit.calls a0 false _ A5.out).mono ?_); rintro e w' ⟨rfl, ⟨nd, rfl⟩⟩; refine ⟨_, rfl, ?_⟩) | (go_at_call 10; (with_reducible refine (octet_Token.calls a0 true _ A34.out).mono ?_); rintro e w' ⟨rfl, ⟨nd, rfl⟩⟩) | (go_at_call 12; (with_reducible refine (octet_Visible.calls a0 true _ A36.out).mono ?_); rintro e w' ⟨rfl, ⟨nd, rfl⟩⟩) | (go_at_call 12; (with_reducible refine (octet_Visible.calls a0 true _ A38.out).mono ?_); rintro e w' ⟨rfl, ⟨nd, rfl⟩⟩) | (go_at_call 20; (with_reducible refine (octet_Text.calls a0 true _ A39.out).mono ?_); rintro e w' ⟨rfl, ⟨nd, rfl⟩⟩) | (go_at_call 14; (with_reducible refine (octet_Blank.calls a0 false _ A41.out).mono ?_); rintro e w' ⟨rfl, ⟨nd, rfl⟩⟩) | (go_at_call 12; (with_reducible refine (octet_Visible.calls a0 true _ A49.out).mono ?_); rintro e w' ⟨rfl, ⟨nd, rfl⟩⟩) | (go_at_call 16; (with_reducible refine (octet_Control.calls a0 false _ A50.out).mono ?_); rintro e w' ⟨rfl, ⟨nd, rfl⟩⟩) | (go_at_call 14; (with_reducible refine (octet_Blank.calls a0 false _ A52.out).mono ?_); rintro e w' ⟨rfl, ⟨nd, rfl⟩⟩) | (go_at_call 20; (with_reducible refine (octet_Text.calls a0 true _ A55.out).mono ?_); rintro e w' ⟨rfl, ⟨nd, rfl⟩⟩) | (go_at_call 16; (with_reducible refine (octet_Control.calls a0 false _ A56.out).mono ?_); rintro e w' ⟨rfl, ⟨nd, rfl⟩⟩) | (go_at_call 10; (with_reducible refine (octet_Token.calls a0 true _ A58.out).mono ?_); rintro e w' ⟨rfl, ⟨nd, rfl⟩⟩) | (go_at_call 7; (with_reducible refine (parallaxlaw1_known.calls k  true _ A2.out).mono ?_); rintro e w59 ⟨rfl, hb⟩; have n0_ := Aside0.mk (below_step (by repeat (first | (with_reducible first | exact HB.out | apply below_alloc | apply pw_below_drewN | apply below_drew1) | exact HB.out)) hb); clear HB; have HB := n0_; clear n0_; (try clear hb); (try clear hb2); (try clear hk); (try clear hi)) | (go_at_call 8; (with_reducible refine (octet_Hex.calls a0 t136 true _ A4.out).mono ?_); rintro e w' ⟨rfl, ⟨nd, rfl⟩⟩) | (go_at_call 18; (with_reducible refine (octet_Digit.calls a0 false _ A5.out).mono ?_); rintro e w' ⟨rfl, ⟨nd, rfl⟩⟩))
                      (try any_goals (exfalso; have h_ := ‹some undef = some (Value.bool _)›; revert h_; simp [undef]; done))
                      go_ret
                      exact ⟨by first | rfl | (simp [errW_none, errW_some] <;> rfl) | (simp [*, errW_none, errW_some] <;> rfl), by repeat (first | (with_reducible first | exact HB.out | apply below_alloc | apply pw_below_drewN | apply below_drew1) | exact HB.out)⟩
                    · replace c57 := Bool.eq_false_iff.mpr c57
                      subst c57
                      rw [if_neg (show ¬ (false = true) by decide)] at H
                      obtain rfl := Option.some.inj H
                      go_enter Try.func5, Try.ntmps5
                      go_wp2_with (first | ((with_reducible refine gate_callee (f := 7) rfl ?_); refine goesL_ (some 5) rfl rfl Try.func7 (by kernel_rfl) rfl #[] rfl (by (try simp only [List.map_toArray, List.map_cons, List.map_nil]); first | done | rfl | (simp only [List.length_drop, List.length_take]; rfl)) ?_; (with_reducible refine (parallaxlaw1_known.calls k  true _ A2.out).mono ?_); rintro e w60 ⟨rfl, hb⟩; refine ⟨_, rfl, ?_⟩; have n0_ := Aside0.mk (below_step (by repeat (first | (with_reducible first | exact HB.out | apply below_alloc | apply pw_below_drewN | apply below_drew1) | exact HB.out)) hb); clear HB; have HB := n0_; clear n0_; (try clear hb); (try clear hb2); (try clear hk); (try clear hi)) | ((with_reducible refine gate_callee (f := 8) rfl ?_); refine goesL_ (some 9) rfl rfl Try.func8 (by kernel_rfl) rfl #[.int .u8 a0] rfl (by (try simp only [List.map_toArray, List.map_cons, List.map_nil]); first | done | rfl | (simp only [List.length_drop, List.length_take]; rfl)) ?_; (with_reducible refine (octet_Hex.calls a0 t136 false _ A4.out).mono ?_); rintro e w' ⟨rfl, ⟨nd, rfl⟩⟩; refine ⟨_, rfl, ?_⟩) | ((with_reducible refine gate_callee (f := 18) rfl ?_); refine goesL_ (some 13) rfl rfl Try.func18 (by kernel_rfl) rfl #[.int .u8 a0] rfl (by (try simp only [List.map_toArray, List.map_cons, List.map_nil]); first | done | rfl | (simp only [List.length_drop, List.length_take]; rfl)) ?_; (with_reducible refine (octet_Digit.calls a0 false _ A5.out).mono ?_); rintro e w' ⟨rfl, ⟨nd, rfl⟩⟩; refine ⟨_, rfl, ?_⟩) | (go_at_call 10; (with_reducible refine (octet_Token.calls a0 true _ A34.out).mono ?_); rintro e w' ⟨rfl, ⟨nd, rfl⟩⟩) | (go_at_call 12; (with_reducible refine (octet_Visible.calls a0 true _ A36.out).mono ?_); rintro e w' ⟨rfl, ⟨nd, rfl⟩⟩) | (go_at_call 12; (with_reducible refine (octet_Visible.calls a0 true _ A38.out).mono ?_); rintro e w' ⟨rfl, ⟨nd, rfl⟩⟩) | (go_at_call 20; (with_reducible refine (octet_Text.calls a0 true _ A39.out).mono ?_); rintro e w' ⟨rfl, ⟨nd, rfl⟩⟩) | (go_at_call 14; (with_reducible refine (octet_Blank.calls a0 false _ A41.out).mono ?_); rintro e w' ⟨rfl, ⟨nd, rfl⟩⟩) | (go_at_call 12; (with_reducible refine (octet_Visible.calls a0 true _ A49.out).mono ?_); rintro e w' ⟨rfl, ⟨nd, rfl⟩⟩) | (go_at_call 16; (with_reducible refine (octet_Control.calls a0 false _ A50.out).mono ?_); rintro e w' ⟨rfl, ⟨nd, rfl⟩⟩) | (go_at_call 14; (with_reducible refine (octet_Blank.calls a0 false _ A52.out).mono ?_); rintro e w' ⟨rfl, ⟨nd, rfl⟩⟩) | (go_at_call 20; (with_reducible refine (octet_Text.calls a0 true _ A55.out).mono ?_); rintro e w' ⟨rfl, ⟨nd, rfl⟩⟩) | (go_at_call 16; (with_reducible refine (octet_Control.calls a0 false _ A56.out).mono ?_); rintro e w' ⟨rfl, ⟨nd, rfl⟩⟩) | (go_at_call 7; (with_reducible refine (parallaxlaw1_known.calls k  true _ A2.out).mono ?_); rintro e w60 ⟨rfl, hb⟩; have n0_ := Aside0.mk (below_step (by repeat (first | (with_reducible first | exact HB.out | apply below_alloc | apply pw_below_drewN | apply below_drew1) | exact HB.out)) hb); clear HB; have HB := n0_; clear n0_; (try clear hb); (try clear hb2); (try clear hk); (try clear hi)) | (go_at_call 8; (with_reducible refine (octet_Hex.calls a0 t136 false _ A4.out).mono ?_); rintro e w' ⟨rfl, ⟨nd, rfl⟩⟩) | (go_at_call 18; (with_reducible refine (octet_Digit.calls a0 false _ A5.out).mono ?_); rintro e w' ⟨rfl, ⟨nd, rfl⟩⟩))
                      (try any_goals (exfalso; have h_ := ‹some undef = some (Value.bool _)›; revert h_; simp [undef]; done))
                      go_ret
                      exact ⟨by first | rfl | (simp [errW_none, errW_some] <;> rfl) | (simp [*, errW_none, errW_some] <;> rfl), by repeat (first | (with_reducible first | exact HB.out | apply below_alloc | apply pw_below_drewN | apply below_drew1) | exact HB.out)⟩
          · replace c40 := Bool.eq_false_iff.mpr c40
            subst c40
            rw [if_neg (show ¬ (false = true) by decide)] at H
            exact absurd ((Option.some.inj H).trans HT.out) (by decide)
        · replace c37 := Bool.eq_false_iff.mpr c37
          subst c37
          rw [if_neg (show ¬ (false = true) by decide)] at H
          exact absurd ((Option.some.inj H).trans HT.out) (by decide)
      · replace c35 := Bool.eq_false_iff.mpr c35
        subst c35
        rw [if_neg (show ¬ (false = true) by decide)] at H
        replace H := Option.bind_eq_some_iff.mp H
        obtain ⟨t402, A610, H⟩ := H
        (try dsimp only at H)
        have A61 := Aside0.mk A610
        clear A610
        by_cases c62 : t402 = true
        · subst c62
          rw [if_pos rfl] at H
          replace H := Option.bind_eq_some_iff.mp H
          obtain ⟨t403, A630, H⟩ := H
          (try dsimp only at H)
          have A63 := Aside0.mk A630
          clear A630
          by_cases c64 : t403 = true
          · subst c64
            rw [if_pos rfl] at H
            replace H := Option.bind_eq_some_iff.mp H
            obtain ⟨t404, A650, H⟩ := H
            (try dsimp only at H)
            have A65 := Aside0.mk A650
            clear A650
            by_cases c66 : t404 = true
            · subst c66
              rw [if_pos rfl] at H
              replace H := Option.bind_eq_some_iff.mp H
              obtain ⟨t405, A670, H⟩ := H
              have E_ : true = t405 := Option.some.inj (A63.out.symm.trans A670)
              subst E_
              (try dsimp only at H)
              have A67 := Aside0.mk A670
              clear A670
              rw [if_pos (show true = true by rfl)] at H
              replace H := Option.bind_eq_some_iff.mp H
              obtain ⟨t406, A680, H⟩ := H
              have E_ : true = t406 := Option.some.inj (A61.out.symm.trans A680)
              subst E_
              (try dsimp only at H)
              have A68 := Aside0.mk A680
              clear A680
              rw [if_pos (show true = true by rfl)] at H
              replace H := Option.bind_eq_some_iff.mp H
              obtain ⟨t407, A690, H⟩ := H
              (try dsimp only at H)
              have A69 := Aside0.mk A690
              clear A690
              by_cases c70 : t407 = true
              · subst c70
                rw [if_pos rfl] at H
                exact absurd ((Option.some.inj H).trans HT.out) (by decide)
              · replace c70 := Bool.eq_false_iff.mpr c70
                subst c70
                rw [if_neg (show ¬ (false = true) by decide)] at H
                replace H := Option.bind_eq_some_iff.mp H
                obtain ⟨t408, A710, H⟩ := H
                have E_ : true = t408 := Option.some.inj (A65.out.symm.trans A710)
                subst E_
                (try dsimp only at H)
                have A71 := Aside0.mk A710
                clear A710
                by_cases c72 : a0 = 9
                · rw [if_pos c72] at H
                  have c72b0 : (a0 == 9) = true := beq_iff_eq.mpr c72
                  have c72b1 : (a0 != 9) = false := bne_eq_false_iff_eq.mpr c72
                  clear c72
                  exact absurd (⟨A69.out, c72b0⟩) (dead_byte (p := fun a0 => octet_Control.f a0 = some false ∧ (a0 == 9) = true) (by decide +kernel) HQ0.out)
                · rw [if_neg c72] at H
                  have c72b0 : (a0 == 9) = false := beq_eq_false_iff_ne.mpr c72
                  have c72b1 : (a0 != 9) = true := bne_iff_ne.mpr c72
                  exact absurd (⟨A68.out, A71.out⟩) (dead_byte (p := fun a0 => octet_Visible.f a0 = some true ∧ octet_Blank.f a0 = some true) (by decide +kernel) HQ0.out)
            · replace c66 := Bool.eq_false_iff.mpr c66
              subst c66
              rw [if_neg (show ¬ (false = true) by decide)] at H
              replace H := Option.bind_eq_some_iff.mp H
              obtain ⟨t426, A730, H⟩ := H
              have E_ : true = t426 := Option.some.inj (A61.out.symm.trans A730)
              subst E_
              (try dsimp only at H)
              have A73 := Aside0.mk A730
              clear A730
              rw [if_pos (show true = true by rfl)] at H
              replace H := Option.bind_eq_some_iff.mp H
              obtain ⟨t427, A740, H⟩ := H
              (try dsimp only at H)
              have A74 := Aside0.mk A740
              clear A740
              by_cases c75 : t427 = true
              · subst c75
                rw [if_pos rfl] at H
                exact absurd ((Option.some.inj H).trans HT.out) (by decide)
              · replace c75 := Bool.eq_false_iff.mpr c75
                subst c75
                rw [if_neg (show ¬ (false = true) by decide)] at H
                replace H := Option.bind_eq_some_iff.mp H
                obtain ⟨t428, A760, H⟩ := H
                have E_ : false = t428 := Option.some.inj (A65.out.symm.trans A760)
                subst E_
                (try dsimp only at H)
                have A76 := Aside0.mk A760
                clear A760
                by_cases c77 : a0 = 9
                · rw [if_pos c77] at H
                  have c77b0 : (a0 == 9) = true := beq_iff_eq.mpr c77
                  have c77b1 : (a0 != 9) = false := bne_eq_false_iff_eq.mpr c77
                  clear c77
                  exact absurd (⟨A76.out, c77b0⟩) (dead_byte (p := fun a0 => octet_Blank.f a0 = some false ∧ (a0 == 9) = true) (by decide +kernel) HQ0.out)
                · rw [if_neg c77] at H
                  have c77b0 : (a0 == 9) = false := beq_eq_false_iff_ne.mpr c77
                  have c77b1 : (a0 != 9) = true := bne_iff_ne.mpr c77
                  rw [c77b0] at H
                  by_cases c78 : (a0 == 32) = true
                  · skip
                    rw [c78] at H
                    have c78q : a0 = 32 := by simpa using c78
                    have c78b0 : (a0 == 32) = true := beq_iff_eq.mpr c78q
                    have c78b1 : (a0 != 32) = false := bne_eq_false_iff_eq.mpr c78q
                    clear c78q
                    have H2_ := H
                    clear H
                    have H := H2_
                    clear H2_
                    rw [if_neg (show ¬ ((false == true) = true) by decide)] at H
                    exact absurd ((Option.some.inj H).trans HT.out) (by decide)
                  · skip
                    replace c78 := Bool.eq_false_iff.mpr c78
                    rw [c78] at H
                    have c78q : ¬ (a0 = 32) := by simpa using c78
                    have c78b0 : (a0 == 32) = false := beq_eq_false_iff_ne.mpr c78q
                    have c78b1 : (a0 != 32) = true := bne_iff_ne.mpr c78q
                    have H2_ := H
                    clear H
                    have H := H2_
                    clear H2_
                    rw [if_pos (show (false == false) = true by rfl)] at H
                    replace H := Option.bind_eq_some_iff.mp H
                    obtain ⟨t433, A790, H⟩ := H
                    have E_ : true = t433 := Option.some.inj (A63.out.symm.trans A790)
                    subst E_
                    (try dsimp only at H)
                    have A79 := Aside0.mk A790
                    clear A790
                    replace H := Option.bind_eq_some_iff.mp H
                    obtain ⟨t434, A800, H⟩ := H
                    have E_ : false = t434 := Option.some.inj (A74.out.symm.trans A800)
                    subst E_
                    (try dsimp only at H)
                    have A80 := Aside0.mk A800
                    clear A800
                    rw [if_neg (show ¬ (false = true) by decide)] at H
                    rw [if_pos (show (true == true) = true by rfl)] at H
                    by_cases c81 : t137 = true
                    · subst c81
                      rw [if_pos rfl] at H
                      replace H := Option.bind_eq_some_iff.mp H
                      obtain ⟨t436, A820, H⟩ := H
                      have E_ : false = t436 := Option.some.inj (A34.out.symm.trans A820)
                      subst E_
                      (try dsimp only at H)
                      have A82 := Aside0.mk A820
                      clear A820
                      exact absurd ((Option.some.inj H).trans HT.out) (by decide)
                    · replace c81 := Bool.eq_false_iff.mpr c81
                      subst c81
                      rw [if_neg (show ¬ (false = true) by decide)] at H
                      obtain rfl := Option.some.inj H
                      go_enter Try.func5, Try.ntmps5
                      go_wp2_with (first | ((with_reducible refine gate_callee (f := 7) rfl ?_); refine goesL_ (some 5) rfl rfl Try.func7 (by kernel_rfl) rfl #[] rfl (by (try simp only [List.map_toArray, List.map_cons, List.map_nil]); first | done | rfl | (simp only [List.length_drop, List.length_take]; rfl)) ?_; (with_reducible refine (parallaxlaw1_known.calls k  true _ A2.out).mono ?_); rintro e w83 ⟨rfl, hb⟩; refine ⟨_, rfl, ?_⟩; have n0_ := Aside0.mk (below_step (by repeat (first | (with_reducible first | exact HB.out | apply below_alloc | apply pw_below_drewN | apply below_drew1) | exact HB.out)) hb); clear HB; have HB := n0_; clear n0_; (try clear hb); (try clear hb2); (try clear hk); (try clear hi)) | ((with_reducible refine gate_callee (f := 8) rfl ?_); refine goesL_ (some 9) rfl rfl Try.func8 (by kernel_rfl) rfl #[.int .u8 a0] rfl (by (try simp only [List.map_toArray, List.map_cons, List.map_nil]); first | done | rfl | (simp only [List.length_drop, List.length_take]; rfl)) ?_; (with_reducible refine (octet_Hex.calls a0 t136 false _ A4.out).mono ?_); rintro e w' ⟨rfl, ⟨nd, rfl⟩⟩; refine ⟨_, rfl, ?_⟩) | ((with_reducible refine gate_callee (f := 18) rfl ?_); refine goesL_ (some 13) rfl rfl Try.func18 (by kernel_rfl) rfl #[.int .u8 a0] rfl (by (try simp only [List.map_toArray, List.map_cons, List.map_nil]); first | done | rfl | (simp only [List.length_drop, List.length_take]; rfl)) ?_; (with_reducible refine (octet_Digit.calls a0 false _ A5.out).mono ?_); rintro e w' ⟨rfl, ⟨nd, rfl⟩⟩; refine ⟨_, rfl, ?_⟩) | (go_at_call 10; (with_reducible refine (octet_Token.calls a0 false _ A34.out).mono ?_); rintro e w' ⟨rfl, ⟨nd, rfl⟩⟩) | (go_at_call 12; (with_reducible refine (octet_Visible.calls a0 true _ A61.out).mono ?_); rintro e w' ⟨rfl, ⟨nd, rfl⟩⟩) | (go_at_call 20; (with_reducible refine (octet_Text.calls a0 true _ A63.out).mono ?_); rintro e w' ⟨rfl, ⟨nd, rfl⟩⟩) | (go_at_call 14; (with_reducible refine (octet_Blank.calls a0 false _ A65.out).mono ?_); rintro e w' ⟨rfl, ⟨nd, rfl⟩⟩) | (go_at_call 12; (with_reducible refine (octet_Visible.calls a0 true _ A73.out).mono ?_); rintro e w' ⟨rfl, ⟨nd, rfl⟩⟩) | (go_at_call 16; (with_reducible refine (octet_Control.calls a0 false _ A74.out).mono ?_); rintro e w' ⟨rfl, ⟨nd, rfl⟩⟩) | (go_at_call 14; (with_reducible refine (octet_Blank.calls a0 false _ A76.out).mono ?_); rintro e w' ⟨rfl, ⟨nd, rfl⟩⟩) | (go_at_call 20; (with_reducible refine (octet_Text.calls a0 true _ A79.out).mono ?_); rintro e w' ⟨rfl, ⟨nd, rfl⟩⟩) | (go_at_call 16; (with_reducible refine (octet_Control.calls a0 false _ A80.out).mono ?_); rintro e w' ⟨rfl, ⟨nd, rfl⟩⟩) | (go_at_call 7; (with_reducible refine (parallaxlaw1_known.calls k  true _ A2.out).mono ?_); rintro e w83 ⟨rfl, hb⟩; have n0_ := Aside0.mk (below_step (by repeat (first | (with_reducible first | exact HB.out | apply below_alloc | apply pw_below_drewN | apply below_drew1) | exact HB.out)) hb); clear HB; have HB := n0_; clear n0_; (try clear hb); (try clear hb2); (try clear hk); (try clear hi)) | (go_at_call 8; (with_reducible refine (octet_Hex.calls a0 t136 false _ A4.out).mono ?_); rintro e w' ⟨rfl, ⟨nd, rfl⟩⟩) | (go_at_call 18; (with_reducible refine (octet_Digit.calls a0 false _ A5.out).mono ?_); rintro e w' ⟨rfl, ⟨nd, rfl⟩⟩))
                      (try any_goals (exfalso; have h_ := ‹some undef = some (Value.bool _)›; revert h_; simp [undef]; done))
                      go_ret
                      exact ⟨by first | rfl | (simp [errW_none, errW_some] <;> rfl) | (simp [*, errW_none, errW_some] <;> rfl), by repeat (first | (with_reducible first | exact HB.out | apply below_alloc | apply pw_below_drewN | apply below_drew1) | exact HB.out)⟩
          · replace c64 := Bool.eq_false_iff.mpr c64
            subst c64
            rw [if_neg (show ¬ (false = true) by decide)] at H
            exact absurd ((Option.some.inj H).trans HT.out) (by decide)
        · replace c62 := Bool.eq_false_iff.mpr c62
          subst c62
          rw [if_neg (show ¬ (false = true) by decide)] at H
          replace H := Option.bind_eq_some_iff.mp H
          obtain ⟨t446, A840, H⟩ := H
          (try dsimp only at H)
          have A84 := Aside0.mk A840
          clear A840
          by_cases c85 : t446 = true
          · subst c85
            rw [if_pos rfl] at H
            replace H := Option.bind_eq_some_iff.mp H
            obtain ⟨t447, A860, H⟩ := H
            (try dsimp only at H)
            have A86 := Aside0.mk A860
            clear A860
            by_cases c87 : t447 = true
            · subst c87
              rw [if_pos rfl] at H
              replace H := Option.bind_eq_some_iff.mp H
              obtain ⟨t448, A880, H⟩ := H
              have E_ : false = t448 := Option.some.inj (A61.out.symm.trans A880)
              subst E_
              (try dsimp only at H)
              have A88 := Aside0.mk A880
              clear A880
              rw [if_neg (show ¬ (false = true) by decide)] at H
              replace H := Option.bind_eq_some_iff.mp H
              obtain ⟨t459, A890, H⟩ := H
              have E_ : true = t459 := Option.some.inj (A84.out.symm.trans A890)
              subst E_
              (try dsimp only at H)
              have A89 := Aside0.mk A890
              clear A890
              by_cases c90 : a0 = 9
              · rw [if_pos c90] at H
                have c90b0 : (a0 == 9) = true := beq_iff_eq.mpr c90
                have c90b1 : (a0 != 9) = false := bne_eq_false_iff_eq.mpr c90
                clear c90
                rw [c90b0] at H
                rw [if_pos (show (true == true) = true by rfl)] at H
                replace H := Option.bind_eq_some_iff.mp H
                obtain ⟨t460, A910, H⟩ := H
                have E_ : true = t460 := Option.some.inj (A86.out.symm.trans A910)
                subst E_
                (try dsimp only at H)
                have A91 := Aside0.mk A910
                clear A910
                replace H := Option.bind_eq_some_iff.mp H
                obtain ⟨t461, A920, H⟩ := H
                (try dsimp only at H)
                have A92 := Aside0.mk A920
                clear A920
                by_cases c93 : t461 = true
                · subst c93
                  rw [if_pos rfl] at H
                  rw [if_pos (show (true == true) = true by rfl)] at H
                  by_cases c94 : t137 = true
                  · subst c94
                    rw [if_pos rfl] at H
                    replace H := Option.bind_eq_some_iff.mp H
                    obtain ⟨t462, A950, H⟩ := H
                    have E_ : false = t462 := Option.some.inj (A34.out.symm.trans A950)
                    subst E_
                    (try dsimp only at H)
                    have A95 := Aside0.mk A950
                    clear A950
                    exact absurd ((Option.some.inj H).trans HT.out) (by decide)
                  · replace c94 := Bool.eq_false_iff.mpr c94
                    subst c94
                    rw [if_neg (show ¬ (false = true) by decide)] at H
                    obtain rfl := Option.some.inj H
                    go_enter Try.func5, Try.ntmps5
                    go_wp2_with (first | ((with_reducible refine gate_callee (f := 7) rfl ?_); refine goesL_ (some 5) rfl rfl Try.func7 (by kernel_rfl) rfl #[] rfl (by (try simp only [List.map_toArray, List.map_cons, List.map_nil]); first | done | rfl | (simp only [List.length_drop, List.length_take]; rfl)) ?_; (with_reducible refine (parallaxlaw1_known.calls k  true _ A2.out).mono ?_); rintro e w96 ⟨rfl, hb⟩; refine ⟨_, rfl, ?_⟩; have n0_ := Aside0.mk (below_step (by repeat (first | (with_reducible first | exact HB.out | apply below_alloc | apply pw_below_drewN | apply below_drew1) | exact HB.out)) hb); clear HB; have HB := n0_; clear n0_; (try clear hb); (try clear hb2); (try clear hk); (try clear hi)) | ((with_reducible refine gate_callee (f := 8) rfl ?_); refine goesL_ (some 9) rfl rfl Try.func8 (by kernel_rfl) rfl #[.int .u8 a0] rfl (by (try simp only [List.map_toArray, List.map_cons, List.map_nil]); first | done | rfl | (simp only [List.length_drop, List.length_take]; rfl)) ?_; (with_reducible refine (octet_Hex.calls a0 t136 false _ A4.out).mono ?_); rintro e w' ⟨rfl, ⟨nd, rfl⟩⟩; refine ⟨_, rfl, ?_⟩) | ((with_reducible refine gate_callee (f := 18) rfl ?_); refine goesL_ (some 13) rfl rfl Try.func18 (by kernel_rfl) rfl #[.int .u8 a0] rfl (by (try simp only [List.map_toArray, List.map_cons, List.map_nil]); first | done | rfl | (simp only [List.length_drop, List.length_take]; rfl)) ?_; (with_reducible refine (octet_Digit.calls a0 false _ A5.out).mono ?_); rintro e w' ⟨rfl, ⟨nd, rfl⟩⟩; refine ⟨_, rfl, ?_⟩) | (go_at_call 10; (with_reducible refine (octet_Token.calls a0 false _ A34.out).mono ?_); rintro e w' ⟨rfl, ⟨nd, rfl⟩⟩) | (go_at_call 12; (with_reducible refine (octet_Visible.calls a0 false _ A61.out).mono ?_); rintro e w' ⟨rfl, ⟨nd, rfl⟩⟩) | (go_at_call 14; (with_reducible refine (octet_Blank.calls a0 true _ A84.out).mono ?_); rintro e w' ⟨rfl, ⟨nd, rfl⟩⟩) | (go_at_call 20; (with_reducible refine (octet_Text.calls a0 true _ A86.out).mono ?_); rintro e w' ⟨rfl, ⟨nd, rfl⟩⟩) | (go_at_call 12; (with_reducible refine (octet_Visible.calls a0 false _ A88.out).mono ?_); rintro e w' ⟨rfl, ⟨nd, rfl⟩⟩) | (go_at_call 14; (with_reducible refine (octet_Blank.calls a0 true _ A89.out).mono ?_); rintro e w' ⟨rfl, ⟨nd, rfl⟩⟩) | (go_at_call 20; (with_reducible refine (octet_Text.calls a0 true _ A91.out).mono ?_); rintro e w' ⟨rfl, ⟨nd, rfl⟩⟩) | (go_at_call 16; (with_reducible refine (octet_Control.calls a0 true _ A92.out).mono ?_); rintro e w' ⟨rfl, ⟨nd, rfl⟩⟩) | (go_at_call 7; (with_reducible refine (parallaxlaw1_known.calls k  true _ A2.out).mono ?_); rintro e w96 ⟨rfl, hb⟩; have n0_ := Aside0.mk (below_step (by repeat (first | (with_reducible first | exact HB.out | apply below_alloc | apply pw_below_drewN | apply below_drew1) | exact HB.out)) hb); clear HB; have HB := n0_; clear n0_; (try clear hb); (try clear hb2); (try clear hk); (try clear hi)) | (go_at_call 8; (with_reducible refine (octet_Hex.calls a0 t136 false _ A4.out).mono ?_); rintro e w' ⟨rfl, ⟨nd, rfl⟩⟩) | (go_at_call 18; (with_reducible refine (octet_Digit.calls a0 false _ A5.out).mono ?_); rintro e w' ⟨rfl, ⟨nd, rfl⟩⟩))
                    (try any_goals (exfalso; have h_ := ‹some undef = some (Value.bool _)›; revert h_; simp [undef]; done))
                    go_ret
                    exact ⟨by first | rfl | (simp [errW_none, errW_some] <;> rfl) | (simp [*, errW_none, errW_some] <;> rfl), by repeat (first | (with_reducible first | exact HB.out | apply below_alloc | apply pw_below_drewN | apply below_drew1) | exact HB.out)⟩
                · replace c93 := Bool.eq_false_iff.mpr c93
                  subst c93
                  rw [if_neg (show ¬ (false = true) by decide)] at H
                  rw [if_pos (show (true == true) = true by rfl)] at H
                  by_cases c97 : t137 = true
                  · subst c97
                    rw [if_pos rfl] at H
                    replace H := Option.bind_eq_some_iff.mp H
                    obtain ⟨t463, A980, H⟩ := H
                    have E_ : false = t463 := Option.some.inj (A34.out.symm.trans A980)
                    subst E_
                    (try dsimp only at H)
                    have A98 := Aside0.mk A980
                    clear A980
                    exact absurd ((Option.some.inj H).trans HT.out) (by decide)
                  · replace c97 := Bool.eq_false_iff.mpr c97
                    subst c97
                    rw [if_neg (show ¬ (false = true) by decide)] at H
                    obtain rfl := Option.some.inj H
                    go_enter Try.func5, Try.ntmps5
                    go_wp2_with (first | ((with_reducible refine gate_callee (f := 7) rfl ?_); refine goesL_ (some 5) rfl rfl Try.func7 (by kernel_rfl) rfl #[] rfl (by (try simp only [List.map_toArray, List.map_cons, List.map_nil]); first | done | rfl | (simp only [List.length_drop, List.length_take]; rfl)) ?_; (with_reducible refine (parallaxlaw1_known.calls k  true _ A2.out).mono ?_); rintro e w99 ⟨rfl, hb⟩; refine ⟨_, rfl, ?_⟩; have n0_ := Aside0.mk (below_step (by repeat (first | (with_reducible first | exact HB.out | apply below_alloc | apply pw_below_drewN | apply below_drew1) | exact HB.out)) hb); clear HB; have HB := n0_; clear n0_; (try clear hb); (try clear hb2); (try clear hk); (try clear hi)) | ((with_reducible refine gate_callee (f := 8) rfl ?_); refine goesL_ (some 9) rfl rfl Try.func8 (by kernel_rfl) rfl #[.int .u8 a0] rfl (by (try simp only [List.map_toArray, List.map_cons, List.map_nil]); first | done | rfl | (simp only [List.length_drop, List.length_take]; rfl)) ?_; (with_reducible refine (octet_Hex.calls a0 t136 false _ A4.out).mono ?_); rintro e w' ⟨rfl, ⟨nd, rfl⟩⟩; refine ⟨_, rfl, ?_⟩) | ((with_reducible refine gate_callee (f := 18) rfl ?_); refine goesL_ (some 13) rfl rfl Try.func18 (by kernel_rfl) rfl #[.int .u8 a0] rfl (by (try simp only [List.map_toArray, List.map_cons, List.map_nil]); first | done | rfl | (simp only [List.length_drop, List.length_take]; rfl)) ?_; (with_reducible refine (octet_Digit.calls a0 false _ A5.out).mono ?_); rintro e w' ⟨rfl, ⟨nd, rfl⟩⟩; refine ⟨_, rfl, ?_⟩) | (go_at_call 10; (with_reducible refine (octet_Token.calls a0 false _ A34.out).mono ?_); rintro e w' ⟨rfl, ⟨nd, rfl⟩⟩) | (go_at_call 12; (with_reducible refine (octet_Visible.calls a0 false _ A61.out).mono ?_); rintro e w' ⟨rfl, ⟨nd, rfl⟩⟩) | (go_at_call 14; (with_reducible refine (octet_Blank.calls a0 true _ A84.out).mono ?_); rintro e w' ⟨rfl, ⟨nd, rfl⟩⟩) | (go_at_call 20; (with_reducible refine (octet_Text.calls a0 true _ A86.out).mono ?_); rintro e w' ⟨rfl, ⟨nd, rfl⟩⟩) | (go_at_call 12; (with_reducible refine (octet_Visible.calls a0 false _ A88.out).mono ?_); rintro e w' ⟨rfl, ⟨nd, rfl⟩⟩) | (go_at_call 14; (with_reducible refine (octet_Blank.calls a0 true _ A89.out).mono ?_); rintro e w' ⟨rfl, ⟨nd, rfl⟩⟩) | (go_at_call 20; (with_reducible refine (octet_Text.calls a0 true _ A91.out).mono ?_); rintro e w' ⟨rfl, ⟨nd, rfl⟩⟩) | (go_at_call 16; (with_reducible refine (octet_Control.calls a0 false _ A92.out).mono ?_); rintro e w' ⟨rfl, ⟨nd, rfl⟩⟩) | (go_at_call 7; (with_reducible refine (parallaxlaw1_known.calls k  true _ A2.out).mono ?_); rintro e w99 ⟨rfl, hb⟩; have n0_ := Aside0.mk (below_step (by repeat (first | (with_reducible first | exact HB.out | apply below_alloc | apply pw_below_drewN | apply below_drew1) | exact HB.out)) hb); clear HB; have HB := n0_; clear n0_; (try clear hb); (try clear hb2); (try clear hk); (try clear hi)) | (go_at_call 8; (with_reducible refine (octet_Hex.calls a0 t136 false _ A4.out).mono ?_); rintro e w' ⟨rfl, ⟨nd, rfl⟩⟩) | (go_at_call 18; (with_reducible refine (octet_Digit.calls a0 false _ A5.out).mono ?_); rintro e w' ⟨rfl, ⟨nd, rfl⟩⟩))
                    (try any_goals (exfalso; have h_ := ‹some undef = some (Value.bool _)›; revert h_; simp [undef]; done))
                    go_ret
                    exact ⟨by first | rfl | (simp [errW_none, errW_some] <;> rfl) | (simp [*, errW_none, errW_some] <;> rfl), by repeat (first | (with_reducible first | exact HB.out | apply below_alloc | apply pw_below_drewN | apply below_drew1) | exact HB.out)⟩
              · rw [if_neg c90] at H
                have c90b0 : (a0 == 9) = false := beq_eq_false_iff_ne.mpr c90
                have c90b1 : (a0 != 9) = true := bne_iff_ne.mpr c90
                rw [c90b0] at H
                by_cases c100 : (a0 == 32) = true
                · skip
                  rw [c100] at H
                  have c100q : a0 = 32 := by simpa using c100
                  have c100b0 : (a0 == 32) = true := beq_iff_eq.mpr c100q
                  have c100b1 : (a0 != 32) = false := bne_eq_false_iff_eq.mpr c100q
                  clear c100q
                  have H2_ := H
                  clear H
                  have H := H2_
                  clear H2_
                  rw [if_pos (show (true == true) = true by rfl)] at H
                  replace H := Option.bind_eq_some_iff.mp H
                  obtain ⟨t464, A1010, H⟩ := H
                  have E_ : true = t464 := Option.some.inj (A86.out.symm.trans A1010)
                  subst E_
                  (try dsimp only at H)
                  have A101 := Aside0.mk A1010
                  clear A1010
                  replace H := Option.bind_eq_some_iff.mp H
                  obtain ⟨t465, A1020, H⟩ := H
                  (try dsimp only at H)
                  have A102 := Aside0.mk A1020
                  clear A1020
                  by_cases c103 : t465 = true
                  · subst c103
                    rw [if_pos rfl] at H
                    rw [if_neg (show ¬ ((true == false) = true) by decide)] at H
                    exact absurd ((Option.some.inj H).trans HT.out) (by decide)
                  · replace c103 := Bool.eq_false_iff.mpr c103
                    subst c103
                    rw [if_neg (show ¬ (false = true) by decide)] at H
                    rw [if_pos (show (true == true) = true by rfl)] at H
                    by_cases c104 : t137 = true
                    · subst c104
                      rw [if_pos rfl] at H
                      replace H := Option.bind_eq_some_iff.mp H
                      obtain ⟨t467, A1050, H⟩ := H
                      have E_ : false = t467 := Option.some.inj (A34.out.symm.trans A1050)
                      subst E_
                      (try dsimp only at H)
                      have A105 := Aside0.mk A1050
                      clear A1050
                      exact absurd ((Option.some.inj H).trans HT.out) (by decide)
                    · replace c104 := Bool.eq_false_iff.mpr c104
                      subst c104
                      rw [if_neg (show ¬ (false = true) by decide)] at H
                      obtain rfl := Option.some.inj H
                      go_enter Try.func5, Try.ntmps5
                      go_wp2_with (first | ((with_reducible refine gate_callee (f := 7) rfl ?_); refine goesL_ (some 5) rfl rfl Try.func7 (by kernel_rfl) rfl #[] rfl (by (try simp only [List.map_toArray, List.map_cons, List.map_nil]); first | done | rfl | (simp only [List.length_drop, List.length_take]; rfl)) ?_; (with_reducible refine (parallaxlaw1_known.calls k  true _ A2.out).mono ?_); rintro e w106 ⟨rfl, hb⟩; refine ⟨_, rfl, ?_⟩; have n0_ := Aside0.mk (below_step (by repeat (first | (with_reducible first | exact HB.out | apply below_alloc | apply pw_below_drewN | apply below_drew1) | exact HB.out)) hb); clear HB; have HB := n0_; clear n0_; (try clear hb); (try clear hb2); (try clear hk); (try clear hi)) | ((with_reducible refine gate_callee (f := 8) rfl ?_); refine goesL_ (some 9) rfl rfl Try.func8 (by kernel_rfl) rfl #[.int .u8 a0] rfl (by (try simp only [List.map_toArray, List.map_cons, List.map_nil]); first | done | rfl | (simp only [List.length_drop, List.length_take]; rfl)) ?_; (with_reducible refine (octet_Hex.calls a0 t136 false _ A4.out).mono ?_); rintro e w' ⟨rfl, ⟨nd, rfl⟩⟩; refine ⟨_, rfl, ?_⟩) | ((with_reducible refine gate_callee (f := 18) rfl ?_); refine goesL_ (some 13) rfl rfl Try.func18 (by kernel_rfl) rfl #[.int .u8 a0] rfl (by (try simp only [List.map_toArray, List.map_cons, List.map_nil]); first | done | rfl | (simp only [List.length_drop, List.length_take]; rfl)) ?_; (with_reducible refine (octet_Digit.calls a0 false _ A5.out).mono ?_); rintro e w' ⟨rfl, ⟨nd, rfl⟩⟩; refine ⟨_, rfl, ?_⟩) | (go_at_call 10; (with_reducible refine (octet_Token.calls a0 false _ A34.out).mono ?_); rintro e w' ⟨rfl, ⟨nd, rfl⟩⟩) | (go_at_call 12; (with_reducible refine (octet_Visible.calls a0 false _ A61.out).mono ?_); rintro e w' ⟨rfl, ⟨nd, rfl⟩⟩) | (go_at_call 14; (with_reducible refine (octet_Blank.calls a0 true _ A84.out).mono ?_); rintro e w' ⟨rfl, ⟨nd, rfl⟩⟩) | (go_at_call 20; (with_reducible refine (octet_Text.calls a0 true _ A86.out).mono ?_); rintro e w' ⟨rfl, ⟨nd, rfl⟩⟩) | (go_at_call 12; (with_reducible refine (octet_Visible.calls a0 false _ A88.out).mono ?_); rintro e w' ⟨rfl, ⟨nd, rfl⟩⟩) | (go_at_call 14; (with_reducible refine (octet_Blank.calls a0 true _ A89.out).mono ?_); rintro e w' ⟨rfl, ⟨nd, rfl⟩⟩) | (go_at_call 20; (with_reducible refine (octet_Text.calls a0 true _ A101.out).mono ?_); rintro e w' ⟨rfl, ⟨nd, rfl⟩⟩) | (go_at_call 16; (with_reducible refine (octet_Control.calls a0 false _ A102.out).mono ?_); rintro e w' ⟨rfl, ⟨nd, rfl⟩⟩) | (go_at_call 7; (with_reducible refine (parallaxlaw1_known.calls k  true _ A2.out).mono ?_); rintro e w106 ⟨rfl, hb⟩; have n0_ := Aside0.mk (below_step (by repeat (first | (with_reducible first | exact HB.out | apply below_alloc | apply pw_below_drewN | apply below_drew1) | exact HB.out)) hb); clear HB; have HB := n0_; clear n0_; (try clear hb); (try clear hb2); (try clear hk); (try clear hi)) | (go_at_call 8; (with_reducible refine (octet_Hex.calls a0 t136 false _ A4.out).mono ?_); rintro e w' ⟨rfl, ⟨nd, rfl⟩⟩) | (go_at_call 18; (with_reducible refine (octet_Digit.calls a0 false _ A5.out).mono ?_); rintro e w' ⟨rfl, ⟨nd, rfl⟩⟩))
                      (try any_goals (exfalso; have h_ := ‹some undef = some (Value.bool _)›; revert h_; simp [undef]; done))
                      go_ret
                      exact ⟨by first | rfl | (simp [errW_none, errW_some] <;> rfl) | (simp [*, errW_none, errW_some] <;> rfl), by repeat (first | (with_reducible first | exact HB.out | apply below_alloc | apply pw_below_drewN | apply below_drew1) | exact HB.out)⟩
                · skip
                  replace c100 := Bool.eq_false_iff.mpr c100
                  rw [c100] at H
                  have c100q : ¬ (a0 = 32) := by simpa using c100
                  have c100b0 : (a0 == 32) = false := beq_eq_false_iff_ne.mpr c100q
                  have c100b1 : (a0 != 32) = true := bne_iff_ne.mpr c100q
                  have H2_ := H
                  clear H
                  have H := H2_
                  clear H2_
                  rw [if_neg (show ¬ ((true == false) = true) by decide)] at H
                  exact absurd ((Option.some.inj H).trans HT.out) (by decide)
            · replace c87 := Bool.eq_false_iff.mpr c87
              subst c87
              rw [if_neg (show ¬ (false = true) by decide)] at H
              exact absurd ((Option.some.inj H).trans HT.out) (by decide)
          · replace c85 := Bool.eq_false_iff.mpr c85
            subst c85
            rw [if_neg (show ¬ (false = true) by decide)] at H
            replace H := Option.bind_eq_some_iff.mp H
            obtain ⟨t468, A1070, H⟩ := H
            have E_ : false = t468 := Option.some.inj (A61.out.symm.trans A1070)
            subst E_
            (try dsimp only at H)
            have A107 := Aside0.mk A1070
            clear A1070
            rw [if_neg (show ¬ (false = true) by decide)] at H
            replace H := Option.bind_eq_some_iff.mp H
            obtain ⟨t479, A1080, H⟩ := H
            have E_ : false = t479 := Option.some.inj (A84.out.symm.trans A1080)
            subst E_
            (try dsimp only at H)
            have A108 := Aside0.mk A1080
            clear A1080
            by_cases c109 : a0 = 9
            · rw [if_pos c109] at H
              have c109b0 : (a0 == 9) = true := beq_iff_eq.mpr c109
              have c109b1 : (a0 != 9) = false := bne_eq_false_iff_eq.mpr c109
              clear c109
              exact absurd (⟨A108.out, c109b0⟩) (dead_byte (p := fun a0 => octet_Blank.f a0 = some false ∧ (a0 == 9) = true) (by decide +kernel) HQ0.out)
            · rw [if_neg c109] at H
              have c109b0 : (a0 == 9) = false := beq_eq_false_iff_ne.mpr c109
              have c109b1 : (a0 != 9) = true := bne_iff_ne.mpr c109
              rw [c109b0] at H
              by_cases c110 : (a0 == 32) = true
              · skip
                rw [c110] at H
                have c110q : a0 = 32 := by simpa using c110
                have c110b0 : (a0 == 32) = true := beq_iff_eq.mpr c110q
                have c110b1 : (a0 != 32) = false := bne_eq_false_iff_eq.mpr c110q
                clear c110q
                have H2_ := H
                clear H
                have H := H2_
                clear H2_
                rw [if_neg (show ¬ ((false == true) = true) by decide)] at H
                exact absurd ((Option.some.inj H).trans HT.out) (by decide)
              · skip
                replace c110 := Bool.eq_false_iff.mpr c110
                rw [c110] at H
                have c110q : ¬ (a0 = 32) := by simpa using c110
                have c110b0 : (a0 == 32) = false := beq_eq_false_iff_ne.mpr c110q
                have c110b1 : (a0 != 32) = true := bne_iff_ne.mpr c110q
                have H2_ := H
                clear H
                have H := H2_
                clear H2_
                rw [if_pos (show (false == false) = true by rfl)] at H
                replace H := Option.bind_eq_some_iff.mp H
                obtain ⟨t484, A1110, H⟩ := H
                (try dsimp only at H)
                have A111 := Aside0.mk A1110
                clear A1110
                replace H := Option.bind_eq_some_iff.mp H
                obtain ⟨t485, A1120, H⟩ := H
                (try dsimp only at H)
                have A112 := Aside0.mk A1120
                clear A1120
                by_cases c113 : t485 = true
                · subst c113
                  rw [if_pos rfl] at H
                  by_cases c114 : t484 = true
                  · skip
                    subst c114
                    exact absurd (⟨A111.out, A112.out, c109b0⟩) (dead_byte (p := fun a0 => octet_Text.f a0 = some true ∧ octet_Control.f a0 = some true ∧ (a0 == 9) = false) (by decide +kernel) HQ0.out)
                  · skip
                    replace c114 := Bool.eq_false_iff.mpr c114
                    subst c114
                    rw [if_pos (show (false == false) = true by rfl)] at H
                    by_cases c115 : t137 = true
                    · subst c115
                      rw [if_pos rfl] at H
                      replace H := Option.bind_eq_some_iff.mp H
                      obtain ⟨t486, A1160, H⟩ := H
                      have E_ : false = t486 := Option.some.inj (A34.out.symm.trans A1160)
                      subst E_
                      (try dsimp only at H)
                      have A116 := Aside0.mk A1160
                      clear A1160
                      exact absurd ((Option.some.inj H).trans HT.out) (by decide)
                    · replace c115 := Bool.eq_false_iff.mpr c115
                      subst c115
                      rw [if_neg (show ¬ (false = true) by decide)] at H
                      obtain rfl := Option.some.inj H
                      go_enter Try.func5, Try.ntmps5
                      go_wp2_with (first | ((with_reducible refine gate_callee (f := 7) rfl ?_); refine goesL_ (some 5) rfl rfl Try.func7 (by kernel_rfl) rfl #[] rfl (by (try simp only [List.map_toArray, List.map_cons, List.map_nil]); first | done | rfl | (simp only [List.length_drop, List.length_take]; rfl)) ?_; (with_reducible refine (parallaxlaw1_known.calls k  true _ A2.out).mono ?_); rintro e w117 ⟨rfl, hb⟩; refine ⟨_, rfl, ?_⟩; have n0_ := Aside0.mk (below_step (by repeat (first | (with_reducible first | exact HB.out | apply below_alloc | apply pw_below_drewN | apply below_drew1) | exact HB.out)) hb); clear HB; have HB := n0_; clear n0_; (try clear hb); (try clear hb2); (try clear hk); (try clear hi)) | ((with_reducible refine gate_callee (f := 8) rfl ?_); refine goesL_ (some 9) rfl rfl Try.func8 (by kernel_rfl) rfl #[.int .u8 a0] rfl (by (try simp only [List.map_toArray, List.map_cons, List.map_nil]); first | done | rfl | (simp only [List.length_drop, List.length_take]; rfl)) ?_; (with_reducible refine (octet_Hex.calls a0 t136 false _ A4.out).mono ?_); rintro e w' ⟨rfl, ⟨nd, rfl⟩⟩; refine ⟨_, rfl, ?_⟩) | ((with_reducible refine gate_callee (f := 18) rfl ?_); refine goesL_ (some 13) rfl rfl Try.func18 (by kernel_rfl) rfl #[.int .u8 a0] rfl (by (try simp only [List.map_toArray, List.map_cons, List.map_nil]); first | done | rfl | (simp only [List.length_drop, List.length_take]; rfl)) ?_; (with_reducible refine (octet_Digit.calls a0 false _ A5.out).mono ?_); rintro e w' ⟨rfl, ⟨nd, rfl⟩⟩; refine ⟨_, rfl, ?_⟩) | (go_at_call 10; (with_reducible refine (octet_Token.calls a0 false _ A34.out).mono ?_); rintro e w' ⟨rfl, ⟨nd, rfl⟩⟩) | (go_at_call 12; (with_reducible refine (octet_Visible.calls a0 false _ A61.out).mono ?_); rintro e w' ⟨rfl, ⟨nd, rfl⟩⟩) | (go_at_call 14; (with_reducible refine (octet_Blank.calls a0 false _ A84.out).mono ?_); rintro e w' ⟨rfl, ⟨nd, rfl⟩⟩) | (go_at_call 12; (with_reducible refine (octet_Visible.calls a0 false _ A107.out).mono ?_); rintro e w' ⟨rfl, ⟨nd, rfl⟩⟩) | (go_at_call 14; (with_reducible refine (octet_Blank.calls a0 false _ A108.out).mono ?_); rintro e w' ⟨rfl, ⟨nd, rfl⟩⟩) | (go_at_call 20; (with_reducible refine (octet_Text.calls a0 false _ A111.out).mono ?_); rintro e w' ⟨rfl, ⟨nd, rfl⟩⟩) | (go_at_call 16; (with_reducible refine (octet_Control.calls a0 true _ A112.out).mono ?_); rintro e w' ⟨rfl, ⟨nd, rfl⟩⟩) | (go_at_call 7; (with_reducible refine (parallaxlaw1_known.calls k  true _ A2.out).mono ?_); rintro e w117 ⟨rfl, hb⟩; have n0_ := Aside0.mk (below_step (by repeat (first | (with_reducible first | exact HB.out | apply below_alloc | apply pw_below_drewN | apply below_drew1) | exact HB.out)) hb); clear HB; have HB := n0_; clear n0_; (try clear hb); (try clear hb2); (try clear hk); (try clear hi)) | (go_at_call 8; (with_reducible refine (octet_Hex.calls a0 t136 false _ A4.out).mono ?_); rintro e w' ⟨rfl, ⟨nd, rfl⟩⟩) | (go_at_call 18; (with_reducible refine (octet_Digit.calls a0 false _ A5.out).mono ?_); rintro e w' ⟨rfl, ⟨nd, rfl⟩⟩))
                      (try any_goals (exfalso; have h_ := ‹some undef = some (Value.bool _)›; revert h_; simp [undef]; done))
                      go_ret
                      exact ⟨by first | rfl | (simp [errW_none, errW_some] <;> rfl) | (simp [*, errW_none, errW_some] <;> rfl), by repeat (first | (with_reducible first | exact HB.out | apply below_alloc | apply pw_below_drewN | apply below_drew1) | exact HB.out)⟩
                · replace c113 := Bool.eq_false_iff.mpr c113
                  subst c113
                  rw [if_neg (show ¬ (false = true) by decide)] at H
                  by_cases c118 : t484 = true
                  · skip
                    subst c118
                    rw [if_pos (show (true == true) = true by rfl)] at H
                    by_cases c119 : t137 = true
                    · subst c119
                      rw [if_pos rfl] at H
                      replace H := Option.bind_eq_some_iff.mp H
                      obtain ⟨t487, A1200, H⟩ := H
                      have E_ : false = t487 := Option.some.inj (A34.out.symm.trans A1200)
                      subst E_
                      (try dsimp only at H)
                      have A120 := Aside0.mk A1200
                      clear A1200
                      exact absurd ((Option.some.inj H).trans HT.out) (by decide)
                    · replace c119 := Bool.eq_false_iff.mpr c119
                      subst c119
                      rw [if_neg (show ¬ (false = true) by decide)] at H
                      obtain rfl := Option.some.inj H
                      go_enter Try.func5, Try.ntmps5
                      go_wp2_with (first | ((with_reducible refine gate_callee (f := 7) rfl ?_); refine goesL_ (some 5) rfl rfl Try.func7 (by kernel_rfl) rfl #[] rfl (by (try simp only [List.map_toArray, List.map_cons, List.map_nil]); first | done | rfl | (simp only [List.length_drop, List.length_take]; rfl)) ?_; (with_reducible refine (parallaxlaw1_known.calls k  true _ A2.out).mono ?_); rintro e w121 ⟨rfl, hb⟩; refine ⟨_, rfl, ?_⟩; have n0_ := Aside0.mk (below_step (by repeat (first | (with_reducible first | exact HB.out | apply below_alloc | apply pw_below_drewN | apply below_drew1) | exact HB.out)) hb); clear HB; have HB := n0_; clear n0_; (try clear hb); (try clear hb2); (try clear hk); (try clear hi)) | ((with_reducible refine gate_callee (f := 8) rfl ?_); refine goesL_ (some 9) rfl rfl Try.func8 (by kernel_rfl) rfl #[.int .u8 a0] rfl (by (try simp only [List.map_toArray, List.map_cons, List.map_nil]); first | done | rfl | (simp only [List.length_drop, List.length_take]; rfl)) ?_; (with_reducible refine (octet_Hex.calls a0 t136 false _ A4.out).mono ?_); rintro e w' ⟨rfl, ⟨nd, rfl⟩⟩; refine ⟨_, rfl, ?_⟩) | ((with_reducible refine gate_callee (f := 18) rfl ?_); refine goesL_ (some 13) rfl rfl Try.func18 (by kernel_rfl) rfl #[.int .u8 a0] rfl (by (try simp only [List.map_toArray, List.map_cons, List.map_nil]); first | done | rfl | (simp only [List.length_drop, List.length_take]; rfl)) ?_; (with_reducible refine (octet_Digit.calls a0 false _ A5.out).mono ?_); rintro e w' ⟨rfl, ⟨nd, rfl⟩⟩; refine ⟨_, rfl, ?_⟩) | (go_at_call 10; (with_reducible refine (octet_Token.calls a0 false _ A34.out).mono ?_); rintro e w' ⟨rfl, ⟨nd, rfl⟩⟩) | (go_at_call 12; (with_reducible refine (octet_Visible.calls a0 false _ A61.out).mono ?_); rintro e w' ⟨rfl, ⟨nd, rfl⟩⟩) | (go_at_call 14; (with_reducible refine (octet_Blank.calls a0 false _ A84.out).mono ?_); rintro e w' ⟨rfl, ⟨nd, rfl⟩⟩) | (go_at_call 12; (with_reducible refine (octet_Visible.calls a0 false _ A107.out).mono ?_); rintro e w' ⟨rfl, ⟨nd, rfl⟩⟩) | (go_at_call 14; (with_reducible refine (octet_Blank.calls a0 false _ A108.out).mono ?_); rintro e w' ⟨rfl, ⟨nd, rfl⟩⟩) | (go_at_call 20; (with_reducible refine (octet_Text.calls a0 true _ A111.out).mono ?_); rintro e w' ⟨rfl, ⟨nd, rfl⟩⟩) | (go_at_call 16; (with_reducible refine (octet_Control.calls a0 false _ A112.out).mono ?_); rintro e w' ⟨rfl, ⟨nd, rfl⟩⟩) | (go_at_call 7; (with_reducible refine (parallaxlaw1_known.calls k  true _ A2.out).mono ?_); rintro e w121 ⟨rfl, hb⟩; have n0_ := Aside0.mk (below_step (by repeat (first | (with_reducible first | exact HB.out | apply below_alloc | apply pw_below_drewN | apply below_drew1) | exact HB.out)) hb); clear HB; have HB := n0_; clear n0_; (try clear hb); (try clear hb2); (try clear hk); (try clear hi)) | (go_at_call 8; (with_reducible refine (octet_Hex.calls a0 t136 false _ A4.out).mono ?_); rintro e w' ⟨rfl, ⟨nd, rfl⟩⟩) | (go_at_call 18; (with_reducible refine (octet_Digit.calls a0 false _ A5.out).mono ?_); rintro e w' ⟨rfl, ⟨nd, rfl⟩⟩))
                      (try any_goals (exfalso; have h_ := ‹some undef = some (Value.bool _)›; revert h_; simp [undef]; done))
                      go_ret
                      exact ⟨by first | rfl | (simp [errW_none, errW_some] <;> rfl) | (simp [*, errW_none, errW_some] <;> rfl), by repeat (first | (with_reducible first | exact HB.out | apply below_alloc | apply pw_below_drewN | apply below_drew1) | exact HB.out)⟩
                  · skip
                    replace c118 := Bool.eq_false_iff.mpr c118
                    subst c118
                    exact absurd (⟨A111.out, A112.out⟩) (dead_byte (p := fun a0 => octet_Text.f a0 = some false ∧ octet_Control.f a0 = some false) (by decide +kernel) HQ0.out)
  · replace c3 := Bool.eq_false_iff.mpr c3
    subst c3
    rw [if_neg (show ¬ (false = true) by decide)] at H
    exact absurd ((Option.some.inj H).trans HT.out) (by decide)

/-- THE ONE PURE STATEMENT of parallaxlaw1_OctetSets: yours. -/
def parallaxlaw1_OctetSets.Pure : Prop := ∀ (a0 : Int), (Lit.int .u8 a0).wf = true → ∃ k, parallaxlaw1_OctetSets.f k a0 = some true
theorem parallaxlaw1_OctetSets.walk (P : parallaxlaw1_OctetSets.Pure) (a0 : Int) (w : World) (w0 : (Lit.int .u8 a0).wf = true) :
    Calls Try.prog 5 #[.int .u8 a0] w fun e w' => e = .returned (.bool true) ∧ Below w.heap.size w w' := by
  obtain ⟨k, h⟩ := P a0 w0
  refine (parallaxlaw1_OctetSets.calls k a0 true w w0 rfl h).mono ?_
  rintro e w' ⟨rfl, hd⟩
  exact ⟨rfl, hd⟩

end Go.Proofs.Ytjnphebgbdjohaa.POctetSets
