/- The environment of the reckoner holds of the program; names of constants. -/
import Derived.Test.YtiliabomdlhgoaaGreatDoorProg
import Derived.Laws.Externs
import Derived.Lib.Bytealg
import Derived.KernelRfl
import Derived.Test.YtiliabomdlhgoaaGreatDoorEb
import Derived.Test.YtiliabomdlhgoaaGreatDoorEc
set_option linter.unusedSectionVars false
set_option linter.unusedVariables false
namespace Go.Ev
open Go.Proofs
set_option maxRecDepth 100000
noncomputable def tt : Tt := (.node (.node (.node (.node (.node (.node (.node (.node (.node (.node .leaf (some Tryz.t511) .leaf) (some Tryz.t255) .leaf) (some Tryz.t127) (.node .leaf (some Tryz.t383) .leaf)) (some Tryz.t63) (.node (.node (.node .leaf (some Tryz.t575) .leaf) (some Tryz.t319) .leaf) (some Tryz.t191) (.node .leaf (some Tryz.t447) .leaf))) (some Tryz.t31) (.node (.node (.node (.node .leaf (some Tryz.t543) .leaf) (some Tryz.t287) .leaf) (some Tryz.t159) (.node .leaf (some Tryz.t415) .leaf)) (some Tryz.t95) (.node (.node (.node .leaf (some Tryz.t607) .leaf) (some Tryz.t351) .leaf) (some Tryz.t223) (.node .leaf (some Tryz.t479) .leaf)))) (some Tryz.t15) (.node (.node (.node (.node (.node .leaf (some Tryz.t527) .leaf) (some Tryz.t271) .leaf) (some Tryz.t143) (.node .leaf (some Tryz.t399) .leaf)) (some Tryz.t79) (.node (.node (.node .leaf (some Tryz.t591) .leaf) (some Tryz.t335) .leaf) (some Tryz.t207) (.node .leaf (some Tryz.t463) .leaf))) (some Tryz.t47) (.node (.node (.node (.node .leaf (some Tryz.t559) .leaf) (some Tryz.t303) .leaf) (some Tryz.t175) (.node .leaf (some Tryz.t431) .leaf)) (some Tryz.t111) (.node (.node .leaf (some Tryz.t367) .leaf) (some Tryz.t239) (.node .leaf (some Tryz.t495) .leaf))))) (some Tryz.t7) (.node (.node (.node (.node (.node (.node .leaf (some Tryz.t519) .leaf) (some Tryz.t263) .leaf) (some Tryz.t135) (.node .leaf (some Tryz.t391) .leaf)) (some Tryz.t71) (.node (.node (.node .leaf (some Tryz.t583) .leaf) (some Tryz.t327) .leaf) (some Tryz.t199) (.node .leaf (some Tryz.t455) .leaf))) (some Tryz.t39) (.node (.node (.node (.node .leaf (some Tryz.t551) .leaf) (some Tryz.t295) .leaf) (some Tryz.t167) (.node .leaf (some Tryz.t423) .leaf)) (some Tryz.t103) (.node (.node (.node .leaf (some Tryz.t615) .leaf) (some Tryz.t359) .leaf) (some Tryz.t231) (.node .leaf (some Tryz.t487) .leaf)))) (some Tryz.t23) (.node (.node (.node (.node (.node .leaf (some Tryz.t535) .leaf) (some Tryz.t279) .leaf) (some Tryz.t151) (.node .leaf (some Tryz.t407) .leaf)) (some Tryz.t87) (.node (.node (.node .leaf (some Tryz.t599) .leaf) (some Tryz.t343) .leaf) (some Tryz.t215) (.node .leaf (some Tryz.t471) .leaf))) (some Tryz.t55) (.node (.node (.node (.node .leaf (some Tryz.t567) .leaf) (some Tryz.t311) .leaf) (some Tryz.t183) (.node .leaf (some Tryz.t439) .leaf)) (some Tryz.t119) (.node (.node .leaf (some Tryz.t375) .leaf) (some Tryz.t247) (.node .leaf (some Tryz.t503) .leaf)))))) (some Tryz.t3) (.node (.node (.node (.node (.node (.node (.node .leaf (some Tryz.t515) .leaf) (some Tryz.t259) .leaf) (some Tryz.t131) (.node .leaf (some Tryz.t387) .leaf)) (some Tryz.t67) (.node (.node (.node .leaf (some Tryz.t579) .leaf) (some Tryz.t323) .leaf) (some Tryz.t195) (.node .leaf (some Tryz.t451) .leaf))) (some Tryz.t35) (.node (.node (.node (.node .leaf (some Tryz.t547) .leaf) (some Tryz.t291) .leaf) (some Tryz.t163) (.node .leaf (some Tryz.t419) .leaf)) (some Tryz.t99) (.node (.node (.node .leaf (some Tryz.t611) .leaf) (some Tryz.t355) .leaf) (some Tryz.t227) (.node .leaf (some Tryz.t483) .leaf)))) (some Tryz.t19) (.node (.node (.node (.node (.node .leaf (some Tryz.t531) .leaf) (some Tryz.t275) .leaf) (some Tryz.t147) (.node .leaf (some Tryz.t403) .leaf)) (some Tryz.t83) (.node (.node (.node .leaf (some Tryz.t595) .leaf) (some Tryz.t339) .leaf) (some Tryz.t211) (.node .leaf (some Tryz.t467) .leaf))) (some Tryz.t51) (.node (.node (.node (.node .leaf (some Tryz.t563) .leaf) (some Tryz.t307) .leaf) (some Tryz.t179) (.node .leaf (some Tryz.t435) .leaf)) (some Tryz.t115) (.node (.node .leaf (some Tryz.t371) .leaf) (some Tryz.t243) (.node .leaf (some Tryz.t499) .leaf))))) (some Tryz.t11) (.node (.node (.node (.node (.node (.node .leaf (some Tryz.t523) .leaf) (some Tryz.t267) .leaf) (some Tryz.t139) (.node .leaf (some Tryz.t395) .leaf)) (some Tryz.t75) (.node (.node (.node .leaf (some Tryz.t587) .leaf) (some Tryz.t331) .leaf) (some Tryz.t203) (.node .leaf (some Tryz.t459) .leaf))) (some Tryz.t43) (.node (.node (.node (.node .leaf (some Tryz.t555) .leaf) (some Tryz.t299) .leaf) (some Tryz.t171) (.node .leaf (some Tryz.t427) .leaf)) (some Tryz.t107) (.node (.node .leaf (some Tryz.t363) .leaf) (some Tryz.t235) (.node .leaf (some Tryz.t491) .leaf)))) (some Tryz.t27) (.node (.node (.node (.node (.node .leaf (some Tryz.t539) .leaf) (some Tryz.t283) .leaf) (some Tryz.t155) (.node .leaf (some Tryz.t411) .leaf)) (some Tryz.t91) (.node (.node (.node .leaf (some Tryz.t603) .leaf) (some Tryz.t347) .leaf) (some Tryz.t219) (.node .leaf (some Tryz.t475) .leaf))) (some Tryz.t59) (.node (.node (.node (.node .leaf (some Tryz.t571) .leaf) (some Tryz.t315) .leaf) (some Tryz.t187) (.node .leaf (some Tryz.t443) .leaf)) (some Tryz.t123) (.node (.node .leaf (some Tryz.t379) .leaf) (some Tryz.t251) (.node .leaf (some Tryz.t507) .leaf))))))) (some Tryz.t1) (.node (.node (.node (.node (.node (.node (.node (.node .leaf (some Tryz.t513) .leaf) (some Tryz.t257) .leaf) (some Tryz.t129) (.node .leaf (some Tryz.t385) .leaf)) (some Tryz.t65) (.node (.node (.node .leaf (some Tryz.t577) .leaf) (some Tryz.t321) .leaf) (some Tryz.t193) (.node .leaf (some Tryz.t449) .leaf))) (some Tryz.t33) (.node (.node (.node (.node .leaf (some Tryz.t545) .leaf) (some Tryz.t289) .leaf) (some Tryz.t161) (.node .leaf (some Tryz.t417) .leaf)) (some Tryz.t97) (.node (.node (.node .leaf (some Tryz.t609) .leaf) (some Tryz.t353) .leaf) (some Tryz.t225) (.node .leaf (some Tryz.t481) .leaf)))) (some Tryz.t17) (.node (.node (.node (.node (.node .leaf (some Tryz.t529) .leaf) (some Tryz.t273) .leaf) (some Tryz.t145) (.node .leaf (some Tryz.t401) .leaf)) (some Tryz.t81) (.node (.node (.node .leaf (some Tryz.t593) .leaf) (some Tryz.t337) .leaf) (some Tryz.t209) (.node .leaf (some Tryz.t465) .leaf))) (some Tryz.t49) (.node (.node (.node (.node .leaf (some Tryz.t561) .leaf) (some Tryz.t305) .leaf) (some Tryz.t177) (.node .leaf (some Tryz.t433) .leaf)) (some Tryz.t113) (.node (.node .leaf (some Tryz.t369) .leaf) (some Tryz.t241) (.node .leaf (some Tryz.t497) .leaf))))) (some Tryz.t9) (.node (.node (.node (.node (.node (.node .leaf (some Tryz.t521) .leaf) (some Tryz.t265) .leaf) (some Tryz.t137) (.node .leaf (some Tryz.t393) .leaf)) (some Tryz.t73) (.node (.node (.node .leaf (some Tryz.t585) .leaf) (some Tryz.t329) .leaf) (some Tryz.t201) (.node .leaf (some Tryz.t457) .leaf))) (some Tryz.t41) (.node (.node (.node (.node .leaf (some Tryz.t553) .leaf) (some Tryz.t297) .leaf) (some Tryz.t169) (.node .leaf (some Tryz.t425) .leaf)) (some Tryz.t105) (.node (.node (.node .leaf (some Tryz.t617) .leaf) (some Tryz.t361) .leaf) (some Tryz.t233) (.node .leaf (some Tryz.t489) .leaf)))) (some Tryz.t25) (.node (.node (.node (.node (.node .leaf (some Tryz.t537) .leaf) (some Tryz.t281) .leaf) (some Tryz.t153) (.node .leaf (some Tryz.t409) .leaf)) (some Tryz.t89) (.node (.node (.node .leaf (some Tryz.t601) .leaf) (some Tryz.t345) .leaf) (some Tryz.t217) (.node .leaf (some Tryz.t473) .leaf))) (some Tryz.t57) (.node (.node (.node (.node .leaf (some Tryz.t569) .leaf) (some Tryz.t313) .leaf) (some Tryz.t185) (.node .leaf (some Tryz.t441) .leaf)) (some Tryz.t121) (.node (.node .leaf (some Tryz.t377) .leaf) (some Tryz.t249) (.node .leaf (some Tryz.t505) .leaf)))))) (some Tryz.t5) (.node (.node (.node (.node (.node (.node (.node .leaf (some Tryz.t517) .leaf) (some Tryz.t261) .leaf) (some Tryz.t133) (.node .leaf (some Tryz.t389) .leaf)) (some Tryz.t69) (.node (.node (.node .leaf (some Tryz.t581) .leaf) (some Tryz.t325) .leaf) (some Tryz.t197) (.node .leaf (some Tryz.t453) .leaf))) (some Tryz.t37) (.node (.node (.node (.node .leaf (some Tryz.t549) .leaf) (some Tryz.t293) .leaf) (some Tryz.t165) (.node .leaf (some Tryz.t421) .leaf)) (some Tryz.t101) (.node (.node (.node .leaf (some Tryz.t613) .leaf) (some Tryz.t357) .leaf) (some Tryz.t229) (.node .leaf (some Tryz.t485) .leaf)))) (some Tryz.t21) (.node (.node (.node (.node (.node .leaf (some Tryz.t533) .leaf) (some Tryz.t277) .leaf) (some Tryz.t149) (.node .leaf (some Tryz.t405) .leaf)) (some Tryz.t85) (.node (.node (.node .leaf (some Tryz.t597) .leaf) (some Tryz.t341) .leaf) (some Tryz.t213) (.node .leaf (some Tryz.t469) .leaf))) (some Tryz.t53) (.node (.node (.node (.node .leaf (some Tryz.t565) .leaf) (some Tryz.t309) .leaf) (some Tryz.t181) (.node .leaf (some Tryz.t437) .leaf)) (some Tryz.t117) (.node (.node .leaf (some Tryz.t373) .leaf) (some Tryz.t245) (.node .leaf (some Tryz.t501) .leaf))))) (some Tryz.t13) (.node (.node (.node (.node (.node (.node .leaf (some Tryz.t525) .leaf) (some Tryz.t269) .leaf) (some Tryz.t141) (.node .leaf (some Tryz.t397) .leaf)) (some Tryz.t77) (.node (.node (.node .leaf (some Tryz.t589) .leaf) (some Tryz.t333) .leaf) (some Tryz.t205) (.node .leaf (some Tryz.t461) .leaf))) (some Tryz.t45) (.node (.node (.node (.node .leaf (some Tryz.t557) .leaf) (some Tryz.t301) .leaf) (some Tryz.t173) (.node .leaf (some Tryz.t429) .leaf)) (some Tryz.t109) (.node (.node .leaf (some Tryz.t365) .leaf) (some Tryz.t237) (.node .leaf (some Tryz.t493) .leaf)))) (some Tryz.t29) (.node (.node (.node (.node (.node .leaf (some Tryz.t541) .leaf) (some Tryz.t285) .leaf) (some Tryz.t157) (.node .leaf (some Tryz.t413) .leaf)) (some Tryz.t93) (.node (.node (.node .leaf (some Tryz.t605) .leaf) (some Tryz.t349) .leaf) (some Tryz.t221) (.node .leaf (some Tryz.t477) .leaf))) (some Tryz.t61) (.node (.node (.node (.node .leaf (some Tryz.t573) .leaf) (some Tryz.t317) .leaf) (some Tryz.t189) (.node .leaf (some Tryz.t445) .leaf)) (some Tryz.t125) (.node (.node .leaf (some Tryz.t381) .leaf) (some Tryz.t253) (.node .leaf (some Tryz.t509) .leaf)))))))) (some Tryz.t0) (.node (.node (.node (.node (.node (.node (.node (.node (.node .leaf (some Tryz.t512) .leaf) (some Tryz.t256) .leaf) (some Tryz.t128) (.node .leaf (some Tryz.t384) .leaf)) (some Tryz.t64) (.node (.node (.node .leaf (some Tryz.t576) .leaf) (some Tryz.t320) .leaf) (some Tryz.t192) (.node .leaf (some Tryz.t448) .leaf))) (some Tryz.t32) (.node (.node (.node (.node .leaf (some Tryz.t544) .leaf) (some Tryz.t288) .leaf) (some Tryz.t160) (.node .leaf (some Tryz.t416) .leaf)) (some Tryz.t96) (.node (.node (.node .leaf (some Tryz.t608) .leaf) (some Tryz.t352) .leaf) (some Tryz.t224) (.node .leaf (some Tryz.t480) .leaf)))) (some Tryz.t16) (.node (.node (.node (.node (.node .leaf (some Tryz.t528) .leaf) (some Tryz.t272) .leaf) (some Tryz.t144) (.node .leaf (some Tryz.t400) .leaf)) (some Tryz.t80) (.node (.node (.node .leaf (some Tryz.t592) .leaf) (some Tryz.t336) .leaf) (some Tryz.t208) (.node .leaf (some Tryz.t464) .leaf))) (some Tryz.t48) (.node (.node (.node (.node .leaf (some Tryz.t560) .leaf) (some Tryz.t304) .leaf) (some Tryz.t176) (.node .leaf (some Tryz.t432) .leaf)) (some Tryz.t112) (.node (.node .leaf (some Tryz.t368) .leaf) (some Tryz.t240) (.node .leaf (some Tryz.t496) .leaf))))) (some Tryz.t8) (.node (.node (.node (.node (.node (.node .leaf (some Tryz.t520) .leaf) (some Tryz.t264) .leaf) (some Tryz.t136) (.node .leaf (some Tryz.t392) .leaf)) (some Tryz.t72) (.node (.node (.node .leaf (some Tryz.t584) .leaf) (some Tryz.t328) .leaf) (some Tryz.t200) (.node .leaf (some Tryz.t456) .leaf))) (some Tryz.t40) (.node (.node (.node (.node .leaf (some Tryz.t552) .leaf) (some Tryz.t296) .leaf) (some Tryz.t168) (.node .leaf (some Tryz.t424) .leaf)) (some Tryz.t104) (.node (.node (.node .leaf (some Tryz.t616) .leaf) (some Tryz.t360) .leaf) (some Tryz.t232) (.node .leaf (some Tryz.t488) .leaf)))) (some Tryz.t24) (.node (.node (.node (.node (.node .leaf (some Tryz.t536) .leaf) (some Tryz.t280) .leaf) (some Tryz.t152) (.node .leaf (some Tryz.t408) .leaf)) (some Tryz.t88) (.node (.node (.node .leaf (some Tryz.t600) .leaf) (some Tryz.t344) .leaf) (some Tryz.t216) (.node .leaf (some Tryz.t472) .leaf))) (some Tryz.t56) (.node (.node (.node (.node .leaf (some Tryz.t568) .leaf) (some Tryz.t312) .leaf) (some Tryz.t184) (.node .leaf (some Tryz.t440) .leaf)) (some Tryz.t120) (.node (.node .leaf (some Tryz.t376) .leaf) (some Tryz.t248) (.node .leaf (some Tryz.t504) .leaf)))))) (some Tryz.t4) (.node (.node (.node (.node (.node (.node (.node .leaf (some Tryz.t516) .leaf) (some Tryz.t260) .leaf) (some Tryz.t132) (.node .leaf (some Tryz.t388) .leaf)) (some Tryz.t68) (.node (.node (.node .leaf (some Tryz.t580) .leaf) (some Tryz.t324) .leaf) (some Tryz.t196) (.node .leaf (some Tryz.t452) .leaf))) (some Tryz.t36) (.node (.node (.node (.node .leaf (some Tryz.t548) .leaf) (some Tryz.t292) .leaf) (some Tryz.t164) (.node .leaf (some Tryz.t420) .leaf)) (some Tryz.t100) (.node (.node (.node .leaf (some Tryz.t612) .leaf) (some Tryz.t356) .leaf) (some Tryz.t228) (.node .leaf (some Tryz.t484) .leaf)))) (some Tryz.t20) (.node (.node (.node (.node (.node .leaf (some Tryz.t532) .leaf) (some Tryz.t276) .leaf) (some Tryz.t148) (.node .leaf (some Tryz.t404) .leaf)) (some Tryz.t84) (.node (.node (.node .leaf (some Tryz.t596) .leaf) (some Tryz.t340) .leaf) (some Tryz.t212) (.node .leaf (some Tryz.t468) .leaf))) (some Tryz.t52) (.node (.node (.node (.node .leaf (some Tryz.t564) .leaf) (some Tryz.t308) .leaf) (some Tryz.t180) (.node .leaf (some Tryz.t436) .leaf)) (some Tryz.t116) (.node (.node .leaf (some Tryz.t372) .leaf) (some Tryz.t244) (.node .leaf (some Tryz.t500) .leaf))))) (some Tryz.t12) (.node (.node (.node (.node (.node (.node .leaf (some Tryz.t524) .leaf) (some Tryz.t268) .leaf) (some Tryz.t140) (.node .leaf (some Tryz.t396) .leaf)) (some Tryz.t76) (.node (.node (.node .leaf (some Tryz.t588) .leaf) (some Tryz.t332) .leaf) (some Tryz.t204) (.node .leaf (some Tryz.t460) .leaf))) (some Tryz.t44) (.node (.node (.node (.node .leaf (some Tryz.t556) .leaf) (some Tryz.t300) .leaf) (some Tryz.t172) (.node .leaf (some Tryz.t428) .leaf)) (some Tryz.t108) (.node (.node .leaf (some Tryz.t364) .leaf) (some Tryz.t236) (.node .leaf (some Tryz.t492) .leaf)))) (some Tryz.t28) (.node (.node (.node (.node (.node .leaf (some Tryz.t540) .leaf) (some Tryz.t284) .leaf) (some Tryz.t156) (.node .leaf (some Tryz.t412) .leaf)) (some Tryz.t92) (.node (.node (.node .leaf (some Tryz.t604) .leaf) (some Tryz.t348) .leaf) (some Tryz.t220) (.node .leaf (some Tryz.t476) .leaf))) (some Tryz.t60) (.node (.node (.node (.node .leaf (some Tryz.t572) .leaf) (some Tryz.t316) .leaf) (some Tryz.t188) (.node .leaf (some Tryz.t444) .leaf)) (some Tryz.t124) (.node (.node .leaf (some Tryz.t380) .leaf) (some Tryz.t252) (.node .leaf (some Tryz.t508) .leaf))))))) (some Tryz.t2) (.node (.node (.node (.node (.node (.node (.node (.node .leaf (some Tryz.t514) .leaf) (some Tryz.t258) .leaf) (some Tryz.t130) (.node .leaf (some Tryz.t386) .leaf)) (some Tryz.t66) (.node (.node (.node .leaf (some Tryz.t578) .leaf) (some Tryz.t322) .leaf) (some Tryz.t194) (.node .leaf (some Tryz.t450) .leaf))) (some Tryz.t34) (.node (.node (.node (.node .leaf (some Tryz.t546) .leaf) (some Tryz.t290) .leaf) (some Tryz.t162) (.node .leaf (some Tryz.t418) .leaf)) (some Tryz.t98) (.node (.node (.node .leaf (some Tryz.t610) .leaf) (some Tryz.t354) .leaf) (some Tryz.t226) (.node .leaf (some Tryz.t482) .leaf)))) (some Tryz.t18) (.node (.node (.node (.node (.node .leaf (some Tryz.t530) .leaf) (some Tryz.t274) .leaf) (some Tryz.t146) (.node .leaf (some Tryz.t402) .leaf)) (some Tryz.t82) (.node (.node (.node .leaf (some Tryz.t594) .leaf) (some Tryz.t338) .leaf) (some Tryz.t210) (.node .leaf (some Tryz.t466) .leaf))) (some Tryz.t50) (.node (.node (.node (.node .leaf (some Tryz.t562) .leaf) (some Tryz.t306) .leaf) (some Tryz.t178) (.node .leaf (some Tryz.t434) .leaf)) (some Tryz.t114) (.node (.node .leaf (some Tryz.t370) .leaf) (some Tryz.t242) (.node .leaf (some Tryz.t498) .leaf))))) (some Tryz.t10) (.node (.node (.node (.node (.node (.node .leaf (some Tryz.t522) .leaf) (some Tryz.t266) .leaf) (some Tryz.t138) (.node .leaf (some Tryz.t394) .leaf)) (some Tryz.t74) (.node (.node (.node .leaf (some Tryz.t586) .leaf) (some Tryz.t330) .leaf) (some Tryz.t202) (.node .leaf (some Tryz.t458) .leaf))) (some Tryz.t42) (.node (.node (.node (.node .leaf (some Tryz.t554) .leaf) (some Tryz.t298) .leaf) (some Tryz.t170) (.node .leaf (some Tryz.t426) .leaf)) (some Tryz.t106) (.node (.node .leaf (some Tryz.t362) .leaf) (some Tryz.t234) (.node .leaf (some Tryz.t490) .leaf)))) (some Tryz.t26) (.node (.node (.node (.node (.node .leaf (some Tryz.t538) .leaf) (some Tryz.t282) .leaf) (some Tryz.t154) (.node .leaf (some Tryz.t410) .leaf)) (some Tryz.t90) (.node (.node (.node .leaf (some Tryz.t602) .leaf) (some Tryz.t346) .leaf) (some Tryz.t218) (.node .leaf (some Tryz.t474) .leaf))) (some Tryz.t58) (.node (.node (.node (.node .leaf (some Tryz.t570) .leaf) (some Tryz.t314) .leaf) (some Tryz.t186) (.node .leaf (some Tryz.t442) .leaf)) (some Tryz.t122) (.node (.node .leaf (some Tryz.t378) .leaf) (some Tryz.t250) (.node .leaf (some Tryz.t506) .leaf)))))) (some Tryz.t6) (.node (.node (.node (.node (.node (.node (.node .leaf (some Tryz.t518) .leaf) (some Tryz.t262) .leaf) (some Tryz.t134) (.node .leaf (some Tryz.t390) .leaf)) (some Tryz.t70) (.node (.node (.node .leaf (some Tryz.t582) .leaf) (some Tryz.t326) .leaf) (some Tryz.t198) (.node .leaf (some Tryz.t454) .leaf))) (some Tryz.t38) (.node (.node (.node (.node .leaf (some Tryz.t550) .leaf) (some Tryz.t294) .leaf) (some Tryz.t166) (.node .leaf (some Tryz.t422) .leaf)) (some Tryz.t102) (.node (.node (.node .leaf (some Tryz.t614) .leaf) (some Tryz.t358) .leaf) (some Tryz.t230) (.node .leaf (some Tryz.t486) .leaf)))) (some Tryz.t22) (.node (.node (.node (.node (.node .leaf (some Tryz.t534) .leaf) (some Tryz.t278) .leaf) (some Tryz.t150) (.node .leaf (some Tryz.t406) .leaf)) (some Tryz.t86) (.node (.node (.node .leaf (some Tryz.t598) .leaf) (some Tryz.t342) .leaf) (some Tryz.t214) (.node .leaf (some Tryz.t470) .leaf))) (some Tryz.t54) (.node (.node (.node (.node .leaf (some Tryz.t566) .leaf) (some Tryz.t310) .leaf) (some Tryz.t182) (.node .leaf (some Tryz.t438) .leaf)) (some Tryz.t118) (.node (.node .leaf (some Tryz.t374) .leaf) (some Tryz.t246) (.node .leaf (some Tryz.t502) .leaf))))) (some Tryz.t14) (.node (.node (.node (.node (.node (.node .leaf (some Tryz.t526) .leaf) (some Tryz.t270) .leaf) (some Tryz.t142) (.node .leaf (some Tryz.t398) .leaf)) (some Tryz.t78) (.node (.node (.node .leaf (some Tryz.t590) .leaf) (some Tryz.t334) .leaf) (some Tryz.t206) (.node .leaf (some Tryz.t462) .leaf))) (some Tryz.t46) (.node (.node (.node (.node .leaf (some Tryz.t558) .leaf) (some Tryz.t302) .leaf) (some Tryz.t174) (.node .leaf (some Tryz.t430) .leaf)) (some Tryz.t110) (.node (.node .leaf (some Tryz.t366) .leaf) (some Tryz.t238) (.node .leaf (some Tryz.t494) .leaf)))) (some Tryz.t30) (.node (.node (.node (.node (.node .leaf (some Tryz.t542) .leaf) (some Tryz.t286) .leaf) (some Tryz.t158) (.node .leaf (some Tryz.t414) .leaf)) (some Tryz.t94) (.node (.node (.node .leaf (some Tryz.t606) .leaf) (some Tryz.t350) .leaf) (some Tryz.t222) (.node .leaf (some Tryz.t478) .leaf))) (some Tryz.t62) (.node (.node (.node (.node .leaf (some Tryz.t574) .leaf) (some Tryz.t318) .leaf) (some Tryz.t190) (.node .leaf (some Tryz.t446) .leaf)) (some Tryz.t126) (.node (.node .leaf (some Tryz.t382) .leaf) (some Tryz.t254) (.node .leaf (some Tryz.t510) .leaf)))))))))
noncomputable def cf : Cf := ⟨tt, [(115, [.i .i64, .i .i64, .i .i64, .i .i64, .i .i64]), (176, [.i .i64, .i .i64, .i .i64, .i .i64, .i .i64, .i .i64, .i .i64, .b]), (178, [.i .i64, .i .i64]), (197, [.i .i64, .i .i64, .i .i64, .i .i64, .i .i64]), (226, [.b, .b, .i .i64, .i .i64])], [(3, .k (.i .i64)), (9, .k .str), (179, .a [.i .i64, .i .i64]), (228, .a [.i .i64, .i .i64]), (33, .a [.i .i64, .i .i64, .i .i64, .i .i64])], 272, 270⟩
end Go.Ev
namespace Go.Ev
variable [Sy]
open Go.Proofs
set_option maxRecDepth 100000
theorem fits_cons' {k : SK} {ks : List SK} {l : List V} (h : fits (k :: ks) l = true) : ∃ v vs, l = v :: vs ∧ fitsK k v = true ∧ fits ks vs = true := by
  cases l with
  | nil => exact absurd h (by simp [fits])
  | cons v vs => exact ⟨v, vs, rfl, fits_cons h⟩
theorem fits_nil' {l : List V} (h : fits [] l = true) : l = [] := by
  cases l with
  | nil => rfl
  | cons v vs => exact absurd h (by simp [fits])
theorem fits_int {k : IntKind} {ks : List SK} {l : List V} (h : fits (.i k :: ks) l = true) : ∃ n vs, l = .int k n :: vs ∧ fits ks vs = true := by
  obtain ⟨v, vs, rfl, h1, h2⟩ := fits_cons' h
  obtain ⟨n, rfl⟩ := fitsK_int h1
  exact ⟨n, vs, rfl, h2⟩
theorem fits_bool {ks : List SK} {l : List V} (h : fits (.b :: ks) l = true) : ∃ n vs, l = .bool n :: vs ∧ fits ks vs = true := by
  obtain ⟨v, vs, rfl, h1, h2⟩ := fits_cons' h
  obtain ⟨n, rfl⟩ := fitsK_b h1
  exact ⟨n, vs, rfl, h2⟩
theorem vals_int {ρ : Rho} {k : IntKind} {n : Int} {vs : List V} {xs : List Value} (h : vals ρ (.int k n :: vs) = some xs) : ∃ ys, xs = .int k n :: ys ∧ vals ρ vs = some ys := by
  obtain ⟨x, ys, rfl, h1, h2⟩ := vals_cons.1 h
  simp only [val, Option.some.injEq] at h1
  exact ⟨ys, by rw [h1], h2⟩
theorem vals_bool {ρ : Rho} {n : Bool} {vs : List V} {xs : List Value} (h : vals ρ (.bool n :: vs) = some xs) : ∃ ys, xs = .bool n :: ys ∧ vals ρ vs = some ys := by
  obtain ⟨x, ys, rfl, h1, h2⟩ := vals_cons.1 h
  simp only [val, Option.some.injEq] at h1
  exact ⟨ys, by rw [h1], h2⟩



theorem und33 : Tryz.prog.underlying 33 = some (.struct (Tryz.prog.fieldsOf 33)) := by kernel_rfl
theorem flds33 : (Tryz.prog.fieldsOf 33).toList = [Field.mk "Kind" 3 0 false "" "" 0, Field.mk "N" 3 1 false "" "" 8, Field.mk "Rights" 3 2 false "" "" 16, Field.mk "Badge" 3 3 false "" "" 24] := by kernel_rfl
theorem eq33 (ρ : Rho) (l m : List V) (xs ys : List Value) (w : World) (hl : fits [.i .i64, .i .i64, .i .i64, .i .i64] l = true) (hm : fits [.i .i64, .i .i64, .i .i64, .i .i64] m = true) (hx : vals ρ l = some xs) (hy : vals ρ m = some ys) :
    (Op.equalIn (9999 + 1) 33 (.agg xs.toArray) (.agg ys.toArray)).run Tryz.prog w = .ok (beqVs l m) w := by
  obtain ⟨a0, l0, rfl, hl0⟩ := fits_int hl
  obtain ⟨a1, l1, rfl, hl1⟩ := fits_int hl0
  obtain ⟨a2, l2, rfl, hl2⟩ := fits_int hl1
  obtain ⟨a3, l3, rfl, hl3⟩ := fits_int hl2
  obtain rfl := fits_nil' hl3
  obtain ⟨b0, m0, rfl, hm0⟩ := fits_int hm
  obtain ⟨b1, m1, rfl, hm1⟩ := fits_int hm0
  obtain ⟨b2, m2, rfl, hm2⟩ := fits_int hm1
  obtain ⟨b3, m3, rfl, hm3⟩ := fits_int hm2
  obtain rfl := fits_nil' hm3
  obtain ⟨xs0, rfl, hx0⟩ := vals_int hx
  obtain ⟨xs1, rfl, hx1⟩ := vals_int hx0
  obtain ⟨xs2, rfl, hx2⟩ := vals_int hx1
  obtain ⟨xs3, rfl, hx3⟩ := vals_int hx2
  rw [vals_nil] at hx3; subst hx3
  obtain ⟨ys0, rfl, hy0⟩ := vals_int hy
  obtain ⟨ys1, rfl, hy1⟩ := vals_int hy0
  obtain ⟨ys2, rfl, hy2⟩ := vals_int hy1
  obtain ⟨ys3, rfl, hy3⟩ := vals_int hy2
  rw [vals_nil] at hy3; subst hy3
  rw [run_equalIn_struct _ _ _ _ _ und33 (by kernel_rfl), flds33]
  have h9 : 9999 = 9998 + 1 := rfl
  rw [h9]
  generalize 9998 = d
  simp [Op.eqFields, part, Tryz.isAgg3, run_equalIn_int _ _ _ _ _ _ _ Tryz.underlying3, beqVs, beqV, beqI_eq, bc_eq]
  all_goals (repeat (split <;> simp_all))
theorem und115 : Tryz.prog.underlying 115 = some (.struct (Tryz.prog.fieldsOf 115)) := by kernel_rfl
theorem flds115 : (Tryz.prog.fieldsOf 115).toList = [Field.mk "Vmid" 3 0 false "" "" 0, Field.mk "Asid" 3 1 false "" "" 8, Field.mk "Page" 3 2 false "" "" 16, Field.mk "Frame" 3 3 false "" "" 24, Field.mk "Rights" 3 4 false "" "" 32] := by kernel_rfl
theorem eq115 (ρ : Rho) (l m : List V) (xs ys : List Value) (w : World) (hl : fits [.i .i64, .i .i64, .i .i64, .i .i64, .i .i64] l = true) (hm : fits [.i .i64, .i .i64, .i .i64, .i .i64, .i .i64] m = true) (hx : vals ρ l = some xs) (hy : vals ρ m = some ys) :
    (Op.equalIn (9999 + 1) 115 (.agg xs.toArray) (.agg ys.toArray)).run Tryz.prog w = .ok (beqVs l m) w := by
  obtain ⟨a0, l0, rfl, hl0⟩ := fits_int hl
  obtain ⟨a1, l1, rfl, hl1⟩ := fits_int hl0
  obtain ⟨a2, l2, rfl, hl2⟩ := fits_int hl1
  obtain ⟨a3, l3, rfl, hl3⟩ := fits_int hl2
  obtain ⟨a4, l4, rfl, hl4⟩ := fits_int hl3
  obtain rfl := fits_nil' hl4
  obtain ⟨b0, m0, rfl, hm0⟩ := fits_int hm
  obtain ⟨b1, m1, rfl, hm1⟩ := fits_int hm0
  obtain ⟨b2, m2, rfl, hm2⟩ := fits_int hm1
  obtain ⟨b3, m3, rfl, hm3⟩ := fits_int hm2
  obtain ⟨b4, m4, rfl, hm4⟩ := fits_int hm3
  obtain rfl := fits_nil' hm4
  obtain ⟨xs0, rfl, hx0⟩ := vals_int hx
  obtain ⟨xs1, rfl, hx1⟩ := vals_int hx0
  obtain ⟨xs2, rfl, hx2⟩ := vals_int hx1
  obtain ⟨xs3, rfl, hx3⟩ := vals_int hx2
  obtain ⟨xs4, rfl, hx4⟩ := vals_int hx3
  rw [vals_nil] at hx4; subst hx4
  obtain ⟨ys0, rfl, hy0⟩ := vals_int hy
  obtain ⟨ys1, rfl, hy1⟩ := vals_int hy0
  obtain ⟨ys2, rfl, hy2⟩ := vals_int hy1
  obtain ⟨ys3, rfl, hy3⟩ := vals_int hy2
  obtain ⟨ys4, rfl, hy4⟩ := vals_int hy3
  rw [vals_nil] at hy4; subst hy4
  rw [run_equalIn_struct _ _ _ _ _ und115 (by kernel_rfl), flds115]
  have h9 : 9999 = 9998 + 1 := rfl
  rw [h9]
  generalize 9998 = d
  simp [Op.eqFields, part, Tryz.isAgg3, run_equalIn_int _ _ _ _ _ _ _ Tryz.underlying3, beqVs, beqV, beqI_eq, bc_eq]
  all_goals (repeat (split <;> simp_all))
theorem und176 : Tryz.prog.underlying 176 = some (.struct (Tryz.prog.fieldsOf 176)) := by kernel_rfl
theorem flds176 : (Tryz.prog.fieldsOf 176).toList = [Field.mk "Kind" 3 0 false "" "" 0, Field.mk "Obj" 3 1 false "" "" 8, Field.mk "Rights" 3 2 false "" "" 16, Field.mk "Badge" 3 3 false "" "" 24, Field.mk "Radix" 3 4 false "" "" 32, Field.mk "Guard" 3 5 false "" "" 40, Field.mk "GuardBits" 3 6 false "" "" 48, Field.mk "Device" 4 7 false "" "" 56] := by kernel_rfl
theorem eq176 (ρ : Rho) (l m : List V) (xs ys : List Value) (w : World) (hl : fits [.i .i64, .i .i64, .i .i64, .i .i64, .i .i64, .i .i64, .i .i64, .b] l = true) (hm : fits [.i .i64, .i .i64, .i .i64, .i .i64, .i .i64, .i .i64, .i .i64, .b] m = true) (hx : vals ρ l = some xs) (hy : vals ρ m = some ys) :
    (Op.equalIn (9999 + 1) 176 (.agg xs.toArray) (.agg ys.toArray)).run Tryz.prog w = .ok (beqVs l m) w := by
  obtain ⟨a0, l0, rfl, hl0⟩ := fits_int hl
  obtain ⟨a1, l1, rfl, hl1⟩ := fits_int hl0
  obtain ⟨a2, l2, rfl, hl2⟩ := fits_int hl1
  obtain ⟨a3, l3, rfl, hl3⟩ := fits_int hl2
  obtain ⟨a4, l4, rfl, hl4⟩ := fits_int hl3
  obtain ⟨a5, l5, rfl, hl5⟩ := fits_int hl4
  obtain ⟨a6, l6, rfl, hl6⟩ := fits_int hl5
  obtain ⟨a7, l7, rfl, hl7⟩ := fits_bool hl6
  obtain rfl := fits_nil' hl7
  obtain ⟨b0, m0, rfl, hm0⟩ := fits_int hm
  obtain ⟨b1, m1, rfl, hm1⟩ := fits_int hm0
  obtain ⟨b2, m2, rfl, hm2⟩ := fits_int hm1
  obtain ⟨b3, m3, rfl, hm3⟩ := fits_int hm2
  obtain ⟨b4, m4, rfl, hm4⟩ := fits_int hm3
  obtain ⟨b5, m5, rfl, hm5⟩ := fits_int hm4
  obtain ⟨b6, m6, rfl, hm6⟩ := fits_int hm5
  obtain ⟨b7, m7, rfl, hm7⟩ := fits_bool hm6
  obtain rfl := fits_nil' hm7
  obtain ⟨xs0, rfl, hx0⟩ := vals_int hx
  obtain ⟨xs1, rfl, hx1⟩ := vals_int hx0
  obtain ⟨xs2, rfl, hx2⟩ := vals_int hx1
  obtain ⟨xs3, rfl, hx3⟩ := vals_int hx2
  obtain ⟨xs4, rfl, hx4⟩ := vals_int hx3
  obtain ⟨xs5, rfl, hx5⟩ := vals_int hx4
  obtain ⟨xs6, rfl, hx6⟩ := vals_int hx5
  obtain ⟨xs7, rfl, hx7⟩ := vals_bool hx6
  rw [vals_nil] at hx7; subst hx7
  obtain ⟨ys0, rfl, hy0⟩ := vals_int hy
  obtain ⟨ys1, rfl, hy1⟩ := vals_int hy0
  obtain ⟨ys2, rfl, hy2⟩ := vals_int hy1
  obtain ⟨ys3, rfl, hy3⟩ := vals_int hy2
  obtain ⟨ys4, rfl, hy4⟩ := vals_int hy3
  obtain ⟨ys5, rfl, hy5⟩ := vals_int hy4
  obtain ⟨ys6, rfl, hy6⟩ := vals_int hy5
  obtain ⟨ys7, rfl, hy7⟩ := vals_bool hy6
  rw [vals_nil] at hy7; subst hy7
  rw [run_equalIn_struct _ _ _ _ _ und176 (by kernel_rfl), flds176]
  have h9 : 9999 = 9998 + 1 := rfl
  rw [h9]
  generalize 9998 = d
  simp [Op.eqFields, part, Tryz.isAgg3, Tryz.isAgg4, run_equalIn_int _ _ _ _ _ _ _ Tryz.underlying3, run_equalIn_bool' _ _ _ _ _ Tryz.underlying4, beqB_eq, beqVs, beqV, beqI_eq, bc_eq]
  all_goals (repeat (split <;> simp_all))
theorem und178 : Tryz.prog.underlying 178 = some (.struct (Tryz.prog.fieldsOf 178)) := by kernel_rfl
theorem flds178 : (Tryz.prog.fieldsOf 178).toList = [Field.mk "Node" 3 0 false "" "" 0, Field.mk "Index" 3 1 false "" "" 8] := by kernel_rfl
theorem eq178 (ρ : Rho) (l m : List V) (xs ys : List Value) (w : World) (hl : fits [.i .i64, .i .i64] l = true) (hm : fits [.i .i64, .i .i64] m = true) (hx : vals ρ l = some xs) (hy : vals ρ m = some ys) :
    (Op.equalIn (9999 + 1) 178 (.agg xs.toArray) (.agg ys.toArray)).run Tryz.prog w = .ok (beqVs l m) w := by
  obtain ⟨a0, l0, rfl, hl0⟩ := fits_int hl
  obtain ⟨a1, l1, rfl, hl1⟩ := fits_int hl0
  obtain rfl := fits_nil' hl1
  obtain ⟨b0, m0, rfl, hm0⟩ := fits_int hm
  obtain ⟨b1, m1, rfl, hm1⟩ := fits_int hm0
  obtain rfl := fits_nil' hm1
  obtain ⟨xs0, rfl, hx0⟩ := vals_int hx
  obtain ⟨xs1, rfl, hx1⟩ := vals_int hx0
  rw [vals_nil] at hx1; subst hx1
  obtain ⟨ys0, rfl, hy0⟩ := vals_int hy
  obtain ⟨ys1, rfl, hy1⟩ := vals_int hy0
  rw [vals_nil] at hy1; subst hy1
  rw [run_equalIn_struct _ _ _ _ _ und178 (by kernel_rfl), flds178]
  have h9 : 9999 = 9998 + 1 := rfl
  rw [h9]
  generalize 9998 = d
  simp [Op.eqFields, part, Tryz.isAgg3, run_equalIn_int _ _ _ _ _ _ _ Tryz.underlying3, beqVs, beqV, beqI_eq, bc_eq]
  all_goals (repeat (split <;> simp_all))
theorem eq179 (ρ : Rho) (l m : List V) (xs ys : List Value) (w : World) (hl : fits [.i .i64, .i .i64] l = true) (hm : fits [.i .i64, .i .i64] m = true) (hx : vals ρ l = some xs) (hy : vals ρ m = some ys) :
    (Op.equalIn (9999 + 1) 179 (.agg xs.toArray) (.agg ys.toArray)).run Tryz.prog w = .ok (beqVs l m) w := by
  obtain ⟨a0, l0, rfl, hl0⟩ := fits_int hl
  obtain ⟨a1, l1, rfl, hl1⟩ := fits_int hl0
  obtain rfl := fits_nil' hl1
  obtain ⟨b0, m0, rfl, hm0⟩ := fits_int hm
  obtain ⟨b1, m1, rfl, hm1⟩ := fits_int hm0
  obtain rfl := fits_nil' hm1
  obtain ⟨xs0, rfl, hx0⟩ := vals_int hx
  obtain ⟨xs1, rfl, hx1⟩ := vals_int hx0
  rw [vals_nil] at hx1; subst hx1
  obtain ⟨ys0, rfl, hy0⟩ := vals_int hy
  obtain ⟨ys1, rfl, hy1⟩ := vals_int hy0
  rw [vals_nil] at hy1; subst hy1
  have h9 : 9999 = 9998 + 1 := rfl
  rw [h9]
  generalize 9998 = d
  simp [Op.equalIn, run_underlying Tryz.underlying179, Tryz.sizeOf3, part, Tryz.isAgg3, run_underlying Tryz.underlying3, beqVs, beqV, beqI_eq, bc_eq, Std.Legacy.Range.forIn_eq_forIn_range', List.range']
  all_goals (repeat (split <;> simp_all))
theorem und197 : Tryz.prog.underlying 197 = some (.struct (Tryz.prog.fieldsOf 197)) := by kernel_rfl
theorem flds197 : (Tryz.prog.fieldsOf 197).toList = [Field.mk "Op" 3 0 false "" "" 0, Field.mk "A" 3 1 false "" "" 8, Field.mk "B" 3 2 false "" "" 16, Field.mk "C" 3 3 false "" "" 24, Field.mk "Imm" 3 4 false "" "" 32] := by kernel_rfl
theorem eq197 (ρ : Rho) (l m : List V) (xs ys : List Value) (w : World) (hl : fits [.i .i64, .i .i64, .i .i64, .i .i64, .i .i64] l = true) (hm : fits [.i .i64, .i .i64, .i .i64, .i .i64, .i .i64] m = true) (hx : vals ρ l = some xs) (hy : vals ρ m = some ys) :
    (Op.equalIn (9999 + 1) 197 (.agg xs.toArray) (.agg ys.toArray)).run Tryz.prog w = .ok (beqVs l m) w := by
  obtain ⟨a0, l0, rfl, hl0⟩ := fits_int hl
  obtain ⟨a1, l1, rfl, hl1⟩ := fits_int hl0
  obtain ⟨a2, l2, rfl, hl2⟩ := fits_int hl1
  obtain ⟨a3, l3, rfl, hl3⟩ := fits_int hl2
  obtain ⟨a4, l4, rfl, hl4⟩ := fits_int hl3
  obtain rfl := fits_nil' hl4
  obtain ⟨b0, m0, rfl, hm0⟩ := fits_int hm
  obtain ⟨b1, m1, rfl, hm1⟩ := fits_int hm0
  obtain ⟨b2, m2, rfl, hm2⟩ := fits_int hm1
  obtain ⟨b3, m3, rfl, hm3⟩ := fits_int hm2
  obtain ⟨b4, m4, rfl, hm4⟩ := fits_int hm3
  obtain rfl := fits_nil' hm4
  obtain ⟨xs0, rfl, hx0⟩ := vals_int hx
  obtain ⟨xs1, rfl, hx1⟩ := vals_int hx0
  obtain ⟨xs2, rfl, hx2⟩ := vals_int hx1
  obtain ⟨xs3, rfl, hx3⟩ := vals_int hx2
  obtain ⟨xs4, rfl, hx4⟩ := vals_int hx3
  rw [vals_nil] at hx4; subst hx4
  obtain ⟨ys0, rfl, hy0⟩ := vals_int hy
  obtain ⟨ys1, rfl, hy1⟩ := vals_int hy0
  obtain ⟨ys2, rfl, hy2⟩ := vals_int hy1
  obtain ⟨ys3, rfl, hy3⟩ := vals_int hy2
  obtain ⟨ys4, rfl, hy4⟩ := vals_int hy3
  rw [vals_nil] at hy4; subst hy4
  rw [run_equalIn_struct _ _ _ _ _ und197 (by kernel_rfl), flds197]
  have h9 : 9999 = 9998 + 1 := rfl
  rw [h9]
  generalize 9998 = d
  simp [Op.eqFields, part, Tryz.isAgg3, run_equalIn_int _ _ _ _ _ _ _ Tryz.underlying3, beqVs, beqV, beqI_eq, bc_eq]
  all_goals (repeat (split <;> simp_all))
theorem und226 : Tryz.prog.underlying 226 = some (.struct (Tryz.prog.fieldsOf 226)) := by kernel_rfl
theorem flds226 : (Tryz.prog.fieldsOf 226).toList = [Field.mk "Valid" 4 0 false "" "" 0, Field.mk "Leaf" 4 1 false "" "" 1, Field.mk "Rights" 3 2 false "" "" 8, Field.mk "Frame" 3 3 false "" "" 16] := by kernel_rfl
theorem eq226 (ρ : Rho) (l m : List V) (xs ys : List Value) (w : World) (hl : fits [.b, .b, .i .i64, .i .i64] l = true) (hm : fits [.b, .b, .i .i64, .i .i64] m = true) (hx : vals ρ l = some xs) (hy : vals ρ m = some ys) :
    (Op.equalIn (9999 + 1) 226 (.agg xs.toArray) (.agg ys.toArray)).run Tryz.prog w = .ok (beqVs l m) w := by
  obtain ⟨a0, l0, rfl, hl0⟩ := fits_bool hl
  obtain ⟨a1, l1, rfl, hl1⟩ := fits_bool hl0
  obtain ⟨a2, l2, rfl, hl2⟩ := fits_int hl1
  obtain ⟨a3, l3, rfl, hl3⟩ := fits_int hl2
  obtain rfl := fits_nil' hl3
  obtain ⟨b0, m0, rfl, hm0⟩ := fits_bool hm
  obtain ⟨b1, m1, rfl, hm1⟩ := fits_bool hm0
  obtain ⟨b2, m2, rfl, hm2⟩ := fits_int hm1
  obtain ⟨b3, m3, rfl, hm3⟩ := fits_int hm2
  obtain rfl := fits_nil' hm3
  obtain ⟨xs0, rfl, hx0⟩ := vals_bool hx
  obtain ⟨xs1, rfl, hx1⟩ := vals_bool hx0
  obtain ⟨xs2, rfl, hx2⟩ := vals_int hx1
  obtain ⟨xs3, rfl, hx3⟩ := vals_int hx2
  rw [vals_nil] at hx3; subst hx3
  obtain ⟨ys0, rfl, hy0⟩ := vals_bool hy
  obtain ⟨ys1, rfl, hy1⟩ := vals_bool hy0
  obtain ⟨ys2, rfl, hy2⟩ := vals_int hy1
  obtain ⟨ys3, rfl, hy3⟩ := vals_int hy2
  rw [vals_nil] at hy3; subst hy3
  rw [run_equalIn_struct _ _ _ _ _ und226 (by kernel_rfl), flds226]
  have h9 : 9999 = 9998 + 1 := rfl
  rw [h9]
  generalize 9998 = d
  simp [Op.eqFields, part, Tryz.isAgg3, Tryz.isAgg4, run_equalIn_int _ _ _ _ _ _ _ Tryz.underlying3, run_equalIn_bool' _ _ _ _ _ Tryz.underlying4, beqB_eq, beqVs, beqV, beqI_eq, bc_eq]
  all_goals (repeat (split <;> simp_all))
theorem und228 : Tryz.prog.underlying 228 = some (.struct (Tryz.prog.fieldsOf 228)) := by kernel_rfl
theorem flds228 : (Tryz.prog.fieldsOf 228).toList = [Field.mk "vmid" 3 0 false "" "viceroy/space" 0, Field.mk "page" 3 1 false "" "viceroy/space" 8] := by kernel_rfl
theorem eq228 (ρ : Rho) (l m : List V) (xs ys : List Value) (w : World) (hl : fits [.i .i64, .i .i64] l = true) (hm : fits [.i .i64, .i .i64] m = true) (hx : vals ρ l = some xs) (hy : vals ρ m = some ys) :
    (Op.equalIn (9999 + 1) 228 (.agg xs.toArray) (.agg ys.toArray)).run Tryz.prog w = .ok (beqVs l m) w := by
  obtain ⟨a0, l0, rfl, hl0⟩ := fits_int hl
  obtain ⟨a1, l1, rfl, hl1⟩ := fits_int hl0
  obtain rfl := fits_nil' hl1
  obtain ⟨b0, m0, rfl, hm0⟩ := fits_int hm
  obtain ⟨b1, m1, rfl, hm1⟩ := fits_int hm0
  obtain rfl := fits_nil' hm1
  obtain ⟨xs0, rfl, hx0⟩ := vals_int hx
  obtain ⟨xs1, rfl, hx1⟩ := vals_int hx0
  rw [vals_nil] at hx1; subst hx1
  obtain ⟨ys0, rfl, hy0⟩ := vals_int hy
  obtain ⟨ys1, rfl, hy1⟩ := vals_int hy0
  rw [vals_nil] at hy1; subst hy1
  rw [run_equalIn_struct _ _ _ _ _ und228 (by kernel_rfl), flds228]
  have h9 : 9999 = 9998 + 1 := rfl
  rw [h9]
  generalize 9998 = d
  simp [Op.eqFields, part, Tryz.isAgg3, run_equalIn_int _ _ _ _ _ _ _ Tryz.underlying3, beqVs, beqV, beqI_eq, bc_eq]
  all_goals (repeat (split <;> simp_all))
theorem ck179 (ρ : Rho) (l : List V) (xs : List Value) (b : Bool) (w : World) (hl : fits [.i .i64, .i .i64] l = true) (hx : vals ρ l = some xs) : (Instr.checkKey b (9999 + 1) 179 (.agg xs.toArray)).run Tryz.prog w = .ok () w := by
  obtain ⟨a0, l0, rfl, hl0⟩ := fits_int hl
  obtain ⟨a1, l1, rfl, hl1⟩ := fits_int hl0
  obtain rfl := fits_nil' hl1
  obtain ⟨xs0, rfl, hx0⟩ := vals_int hx
  obtain ⟨xs1, rfl, hx1⟩ := vals_int hx0
  rw [vals_nil] at hx1; subst hx1
  have h9 : 9999 = 9998 + 1 := rfl
  rw [h9]
  generalize 9998 = d
  simp [Instr.checkKey, run_underlying Tryz.underlying179, run_underlying Tryz.underlying3, Tryz.sizeOf3, part, Tryz.isAgg3, Std.Legacy.Range.forIn_eq_forIn_range', List.range']
theorem ck228 (ρ : Rho) (l : List V) (xs : List Value) (b : Bool) (w : World) (hl : fits [.i .i64, .i .i64] l = true) (hx : vals ρ l = some xs) : (Instr.checkKey b (9999 + 1) 228 (.agg xs.toArray)).run Tryz.prog w = .ok () w := by
  obtain ⟨a0, l0, rfl, hl0⟩ := fits_int hl
  obtain ⟨a1, l1, rfl, hl1⟩ := fits_int hl0
  obtain rfl := fits_nil' hl1
  obtain ⟨xs0, rfl, hx0⟩ := vals_int hx
  obtain ⟨xs1, rfl, hx1⟩ := vals_int hx0
  rw [vals_nil] at hx1; subst hx1
  have h9 : 9999 = 9998 + 1 := rfl
  rw [h9]
  generalize 9998 = d
  simp only [Instr.checkKey, run_underlying und228, Sem.run_bind, Result.andThen_ok, ← Array.forIn_toList, flds228]
  simp [part, Tryz.isAgg3, run_underlying Tryz.underlying3]
theorem ck33 (ρ : Rho) (l : List V) (xs : List Value) (b : Bool) (w : World) (hl : fits [.i .i64, .i .i64, .i .i64, .i .i64] l = true) (hx : vals ρ l = some xs) : (Instr.checkKey b (9999 + 1) 33 (.agg xs.toArray)).run Tryz.prog w = .ok () w := by
  obtain ⟨a0, l0, rfl, hl0⟩ := fits_int hl
  obtain ⟨a1, l1, rfl, hl1⟩ := fits_int hl0
  obtain ⟨a2, l2, rfl, hl2⟩ := fits_int hl1
  obtain ⟨a3, l3, rfl, hl3⟩ := fits_int hl2
  obtain rfl := fits_nil' hl3
  obtain ⟨xs0, rfl, hx0⟩ := vals_int hx
  obtain ⟨xs1, rfl, hx1⟩ := vals_int hx0
  obtain ⟨xs2, rfl, hx2⟩ := vals_int hx1
  obtain ⟨xs3, rfl, hx3⟩ := vals_int hx2
  rw [vals_nil] at hx3; subst hx3
  have h9 : 9999 = 9998 + 1 := rfl
  rw [h9]
  generalize 9998 = d
  simp only [Instr.checkKey, run_underlying und33, Sem.run_bind, Result.andThen_ok, ← Array.forIn_toList, flds33]
  simp [part, Tryz.isAgg3, run_underlying Tryz.underlying3]
end Go.Ev
namespace Go.Ev
variable [Sy]
open Go.Proofs
set_option maxRecDepth 100000
theorem ixb_ok : Ixb Tryz.prog 272 := ⟨fun s c w => by
  rw [run_callFunc_extern (e := Extern.BytealgIndexByte.indexByte) Tryz.func272 (by kernel_rfl) (by kernel_rfl) (by kernel_rfl) (by kernel_rfl), run_indexByte_string]; rfl⟩
theorem cntBn_count : ∀ (l : List Nat) (c i : Nat), small l = true → c < 256 → cntBn c l i = i + (l.map UInt8.ofNat).count (UInt8.ofNat c)
  | [], c, i, _, _ => by simp [cntBn]
  | a :: l, c, i, h, hc => by
    simp only [small, List.all_cons, Bool.and_eq_true] at h
    have ih := fun j => cntBn_count l c j h.2 hc
    have h0 : a < 256 := by simpa [blt_eq'] using h.1
    have he : (UInt8.ofNat a == UInt8.ofNat c) = decide (a = c) := by
      by_cases hac : a = c
      · subst hac; simp
      · have : UInt8.ofNat a ≠ UInt8.ofNat c := by
          intro hh
          have := congrArg UInt8.toNat hh
          simp only [UInt8.toNat_ofNat'] at this
          omega
        simp [hac, this]
    simp only [cntBn, List.map_cons, List.count_cons, bc_eq, beq_eq, he]
    by_cases hac : a = c
    · simp [hac, ih]; omega
    · simp [hac, ih]
theorem cnt_ok : Cnt Tryz.prog 270 := ⟨fun l c w hl hc => by
  rw [run_callFunc_extern (e := Extern.BytealgCount.count) Tryz.func270 (by kernel_rfl) (by kernel_rfl) (by kernel_rfl) (by kernel_rfl), Lib.run_countString]
  have h1 : (bytesOf l).data.toList = l.map UInt8.ofNat := by simp [bytesOf]
  have h2 : ((c : Int).toNat).toUInt8 = UInt8.ofNat c := rfl
  rw [h1, h2, cntBn_count l c 0 hl hc, Nat.zero_add]
  rfl⟩
/- the trie of types -/
def idxOk : Tt → Nat → Nat → Nat → Bool
  | .leaf, _, _, _ => true
  | .node l _ r, a, b, n => Nat.blt b n && (idxOk l (2 * a) (a + b) n && idxOk r (2 * a) (2 * a + b) n)
theorem idxOk_lt : ∀ (t : Tt) (a b n k : Nat) (i : TypeInfo), idxOk t a b n = true → t.get k = some i → a * k + b < n
  | .leaf, a, b, n, k, i, _, h => by simp [Tt.get] at h
  | .node l v r, a, b, n, k, i, h, hg => by
    simp only [idxOk, Bool.and_eq_true, blt_eq', decide_eq_true_eq] at h
    obtain ⟨h1, h2, h3⟩ := h
    simp only [Tt.get, beq_eq] at hg
    by_cases hk : k = 0
    · subst hk; simpa using h1
    · simp only [hk, decide_false] at hg
      have hh : half k = (k - 1) / 2 := rfl
      cases ho : odd k with
      | true =>
        have hm : k % 2 = 1 := by
          have : Nat.beq (Nat.mod k 2) 1 = true := ho
          exact Nat.eq_of_beq_eq_true this
        rw [ho] at hg
        have := idxOk_lt l _ _ n _ i h2 hg
        rw [hh] at this
        have h5 : k = 2 * ((k - 1) / 2) + 1 := by omega
        generalize (k - 1) / 2 = q at this h5
        subst h5
        have h6 : 2 * a * q + (a + b) = a * (2 * q + 1) + b := by rw [Nat.mul_add, Nat.mul_one, ← Nat.mul_assoc, Nat.mul_comm a 2]; omega
        omega
      | false =>
        have hm : k % 2 ≠ 1 := by
          have h7 : Nat.beq (Nat.mod k 2) 1 = false := ho
          intro h8
          rw [show Nat.mod k 2 = 1 from h8] at h7; exact absurd h7 (by decide)
        rw [ho] at hg
        have := idxOk_lt r _ _ n _ i h3 hg
        rw [hh] at this
        have h5 : k = 2 * ((k - 1) / 2) + 2 := by omega
        generalize (k - 1) / 2 = q at this h5
        subst h5
        have h6 : 2 * a * q + (2 * a + b) = a * (2 * q + 2) + b := by rw [Nat.mul_add, ← Nat.mul_assoc, Nat.mul_comm a 2]; omega
        omega
theorem tt_bound : idxOk tt 1 0 618 = true := by kernel_rfl
theorem tt_list : (List.range 618).map tt.get = (List.range 618).map Tryz.prog.info? := by kernel_rfl
theorem tt_ok (t : TypeId) (i : TypeInfo) (h : tt.get t = some i) : Tryz.prog.info? t = some i := by
  have hlt := idxOk_lt tt 1 0 618 t i tt_bound h
  rw [Nat.one_mul, Nat.add_zero] at hlt
  have h1 := congrArg (fun l : List (Option TypeInfo) => l[t]?) tt_list
  simp only [List.getElem?_map, List.getElem?_range hlt, Option.map_some, Option.some.injEq] at h1
  rw [← h1]; exact h
theorem env_ok : EnvOk Tryz.prog cf := by
  refine ⟨tt_ok, fun t sh h => ?_, fun t kk h => ?_, ixb_ok, cnt_ok⟩
  · simp only [cf, look] at h
    split at h
    · rename_i hh
      rw [beq_eq, decide_eq_true_eq] at hh
      simp only [Option.some.injEq] at h
      subst hh h
      exact ⟨by kernel_rfl, eq115⟩
    split at h
    · rename_i hh
      rw [beq_eq, decide_eq_true_eq] at hh
      simp only [Option.some.injEq] at h
      subst hh h
      exact ⟨by kernel_rfl, eq176⟩
    split at h
    · rename_i hh
      rw [beq_eq, decide_eq_true_eq] at hh
      simp only [Option.some.injEq] at h
      subst hh h
      exact ⟨by kernel_rfl, eq178⟩
    split at h
    · rename_i hh
      rw [beq_eq, decide_eq_true_eq] at hh
      simp only [Option.some.injEq] at h
      subst hh h
      exact ⟨by kernel_rfl, eq197⟩
    split at h
    · rename_i hh
      rw [beq_eq, decide_eq_true_eq] at hh
      simp only [Option.some.injEq] at h
      subst hh h
      exact ⟨by kernel_rfl, eq226⟩
    exact absurd h (by simp)
  · simp only [cf, look] at h
    split at h
    · rename_i hh
      rw [beq_eq, decide_eq_true_eq] at hh
      simp only [Option.some.injEq] at h
      subst hh h
      exact keyTy_scalar Tryz.underlying3 trivial
    split at h
    · rename_i hh
      rw [beq_eq, decide_eq_true_eq] at hh
      simp only [Option.some.injEq] at h
      subst hh h
      exact keyTy_scalar Tryz.underlying9 trivial
    split at h
    · rename_i hh
      rw [beq_eq, decide_eq_true_eq] at hh
      simp only [Option.some.injEq] at h
      subst hh h
      exact keyTy_flat ⟨⟨_, Tryz.underlying179, rfl⟩, ck179, eq179⟩
    split at h
    · rename_i hh
      rw [beq_eq, decide_eq_true_eq] at hh
      simp only [Option.some.injEq] at h
      subst hh h
      exact keyTy_flat ⟨⟨_, Tryz.underlying228, rfl⟩, ck228, eq228⟩
    split at h
    · rename_i hh
      rw [beq_eq, decide_eq_true_eq] at hh
      simp only [Option.some.injEq] at h
      subst hh h
      exact keyTy_flat ⟨⟨_, Tryz.underlying33, rfl⟩, ck33, eq33⟩
    exact absurd h (by simp)
theorem mixed : Tryz.prog.follows .mixedOrders = true := by kernel_rfl
end Go.Ev
namespace Go.Ev
noncomputable def mkFn (cd : Nat → Nat → Nat → Array Oper → Option DL) (cf : Cf) (K : Nat) (fn : Func) : Option Fn := match fn.body with
  | none => none
  | some c => match compC cd cf K fn.ntmps c with
    | none => none
    | some b => match compR cf K fn.results.toList with
      | none => none
      | some r => some (.mk b r fn.ntmps)
def FnIs (P : Program) (cf : Cf) (cd : Nat → Nat → Nat → Array Oper → Option DL) (f : Nat) (p : Fn) : Prop := match p with
  | .no => True
  | .mk b r n => FnOk P cf cd f b r n
theorem fnIs_of {P : Program} {cf : Cf} {cd : Nat → Nat → Nat → Array Oper → Option DL} {f : Nat} {fn : Func} {p : Fn} (K : Nat) (hf : P.funcs[f]? = some fn) (he : ∀ (args : Array Value) (w : World), (callFunc f args).run P w = .ok (.enter f args) w)
    (hp : mkFn cd cf K fn = some p) (hn : Nat.blt fn.ntmps 65536 = true) (hK : Nat.beq (K >>> 65536) 0 = true) : FnIs P cf cd f p := by
  unfold mkFn at hp
  cases hb : fn.body with
  | none => rw [hb] at hp; exact absurd hp (by simp)
  | some c =>
    rw [hb] at hp
    simp only at hp
    cases h1 : compC cd cf K fn.ntmps c with
    | none => rw [h1] at hp; exact absurd hp (by simp)
    | some b =>
      rw [h1] at hp
      simp only at hp
      cases h2 : compR cf K fn.results.toList with
      | none => rw [h2] at hp; exact absurd hp (by simp)
      | some r =>
        rw [h2] at hp
        simp only [Option.some.injEq] at hp
        subst hp
        exact ⟨⟨fn, c, K, hf, hb, rfl, h1, h2, Nat.eq_of_beq_eq_true hK⟩, by simpa [blt_eq'] using hn, he⟩
/- the table -/
def OkTab (Q : Nat → Fn → Prop) : Tb → Nat → Nat → Prop
  | .leaf, _, _ => True
  | .node l v r, a, b => Q b v ∧ OkTab Q l (2 * a) (a + b) ∧ OkTab Q r (2 * a) (2 * a + b)
theorem OkTab.get {Q : Nat → Fn → Prop} (hQ : ∀ k, Q k .no) : ∀ (t : Tb) (a b k : Nat), OkTab Q t a b → Q (a * k + b) (t.get k)
  | .leaf, a, b, k, _ => hQ _
  | .node l v r, a, b, k, h => by
    obtain ⟨h1, h2, h3⟩ := h
    show Q (a * k + b) (bc (Nat.beq k 0) v (bc (odd k) (l.get (half k)) (r.get (half k))))
    by_cases hk : k = 0
    · subst hk; simpa [bc_eq] using h1
    · have hb : Nat.beq k 0 = false := by rw [beq_eq]; simpa using hk
      rw [hb]
      have hh : half k = (k - 1) / 2 := rfl
      cases ho : odd k with
      | true =>
        have hm : k % 2 = 1 := by
          have : Nat.beq (Nat.mod k 2) 1 = true := ho
          exact Nat.eq_of_beq_eq_true this
        have := OkTab.get hQ l _ _ (half k) h2
        rw [hh] at this
        have h5 : k = 2 * ((k - 1) / 2) + 1 := by omega
        have h6 : 2 * a * ((k - 1) / 2) + (a + b) = a * k + b := by
          generalize (k - 1) / 2 = q at h5
          subst h5
          rw [Nat.mul_add, Nat.mul_one, ← Nat.mul_assoc, Nat.mul_comm a 2]; omega
        rw [h6, ← hh] at this
        exact this
      | false =>
        have hm : k % 2 ≠ 1 := by
          have h7 : Nat.beq (Nat.mod k 2) 1 = false := ho
          intro h8
          rw [show Nat.mod k 2 = 1 from h8] at h7; exact absurd h7 (by decide)
        have := OkTab.get hQ r _ _ (half k) h3
        rw [hh] at this
        have h5 : k = 2 * ((k - 1) / 2) + 2 := by omega
        have h6 : 2 * a * ((k - 1) / 2) + (2 * a + b) = a * k + b := by
          generalize (k - 1) / 2 = q at h5
          subst h5
          rw [Nat.mul_add, ← Nat.mul_assoc, Nat.mul_comm a 2]; omega
        rw [h6, ← hh] at this
        exact this
theorem tabOk_of {P : Program} {cf : Cf} {cd : Nat → Nat → Nat → Array Oper → Option DL} {tab : Tb} (h : OkTab (FnIs P cf cd) tab 1 0) : TabOk P cf cd tab := ⟨fun f body res n hg => by
  have := OkTab.get (fun _ => trivial) tab 1 0 f h
  rw [Nat.one_mul, Nat.add_zero, hg] at this
  exact this⟩
end Go.Ev
namespace Go.Ev
def x0 : X := .t .e
def x1 : X := .t (.l .e)
def x2 : X := .t (.r (.l (.l .e)))
def x3 : X := .t (.l (.l (.l .e)))
def x4 : X := .t (.l (.r (.l .e)))
def x5 : X := .t (.l (.l (.r .e)))
def x6 : X := .t (.r (.r .e))
def x7 : X := .t (.r .e)
def x8 : X := .t (.r (.r (.l .e)))
def x9 : X := .t (.l (.r .e))
def x10 : X := .t (.r (.l .e))
def x11 : X := .t (.r (.l (.r .e)))
def x12 : X := .t (.l (.l .e))
def x13 : X := .t (.r (.l (.l (.l .e))))
def x14 : X := .t (.l (.r (.r .e)))
def x15 : X := .t (.r (.r (.r .e)))
def x16 : X := .t (.l (.l (.l (.l .e))))
def x17 : X := .t (.r (.r (.l (.l .e))))
def x18 : X := .t (.l (.r (.l (.l .e))))
def x19 : X := .t (.r (.l (.r (.l .e))))
def x20 : X := .t (.l (.l (.r (.l .e))))
def x21 : X := .t (.l (.r (.r (.l .e))))
def x22 : X := .t (.r (.r (.r (.l .e))))
def x23 : X := .t (.l (.r (.l (.r .e))))
def x24 : X := .t (.r (.l (.l (.r .e))))
def x25 : X := .t (.l (.l (.l (.r .e))))
def x26 : X := .t (.r (.l (.r (.r .e))))
def x27 : X := .t (.l (.l (.r (.r .e))))
def x28 : X := .t (.r (.r (.r (.r .e))))
def x29 : X := .t (.r (.r (.l (.r .e))))
def x30 : X := .t (.l (.l (.l (.l (.l .e)))))
def x31 : X := .t (.l (.r (.r (.r .e))))
def x32 : X := .t (.r (.l (.l (.l (.l .e)))))
def x33 : X := .t (.l (.r (.l (.l (.l .e)))))
def x34 : X := .t (.r (.r (.l (.l (.l .e)))))
def x35 : X := .t (.l (.l (.r (.l (.l .e)))))
def x36 : X := .t (.r (.l (.r (.l (.l .e)))))
def x37 : X := .t (.r (.l (.l (.r (.l .e)))))
def x38 : X := .t (.l (.l (.l (.r (.l .e)))))
def x39 : X := .t (.l (.r (.l (.r (.l .e)))))
def x40 : X := .t (.l (.r (.r (.l (.l .e)))))
def x41 : X := .t (.r (.r (.l (.r (.l .e)))))
def x42 : X := .t (.r (.r (.r (.l (.l .e)))))
def x43 : X := .t (.l (.l (.l (.l (.r .e)))))
def x44 : X := .t (.l (.l (.r (.r (.l .e)))))
def x45 : X := .t (.l (.r (.l (.l (.r .e)))))
def x46 : X := .t (.r (.r (.r (.r (.l .e)))))
def x47 : X := .t (.r (.l (.l (.l (.r .e)))))
def x48 : X := .t (.r (.l (.r (.l (.r .e)))))
def x49 : X := .t (.r (.l (.l (.r (.r .e)))))
def x50 : X := .t (.l (.l (.r (.r (.r .e)))))
def x51 : X := .t (.r (.r (.l (.l (.r .e)))))
def x52 : X := .t (.r (.l (.r (.r (.l .e)))))
def x53 : X := .t (.r (.r (.r (.l (.r .e)))))
def x54 : X := .t (.l (.r (.r (.r (.l .e)))))
def x55 : X := .t (.l (.l (.l (.r (.r .e)))))
def x56 : X := .t (.r (.l (.r (.r (.r .e)))))
def x57 : X := .t (.l (.r (.l (.r (.r .e)))))
def x58 : X := .t (.r (.r (.r (.r (.r .e)))))
def x59 : X := .t (.l (.l (.r (.l (.r .e)))))
def x60 : X := .t (.l (.r (.r (.l (.r .e)))))
def x61 : X := .t (.l (.r (.r (.r (.r .e)))))
def x62 : X := .t (.l (.l (.r (.l (.l (.l .e))))))
def x63 : X := .t (.r (.l (.l (.l (.l (.l .e))))))
def x64 : X := .t (.l (.r (.r (.l (.l (.l .e))))))
def x65 : X := .t (.r (.r (.l (.r (.r .e)))))
def x66 : X := .t (.r (.r (.l (.l (.l (.l .e))))))
def x67 : X := .t (.r (.l (.l (.l (.r (.l .e))))))
def x68 : X := .t (.l (.l (.l (.l (.l (.l .e))))))
def x69 : X := .t (.l (.r (.l (.l (.l (.l .e))))))
def x70 : X := .t (.r (.r (.r (.l (.l (.l .e))))))
def x71 : X := .t (.r (.l (.r (.l (.l (.l .e))))))
def x72 : X := .t (.l (.l (.r (.r (.l (.l .e))))))
def x73 : X := .t (.l (.l (.l (.r (.l (.l .e))))))
def x74 : X := .t (.r (.l (.r (.r (.l (.l .e))))))
def x75 : X := .t (.r (.l (.r (.l (.r (.l .e))))))
def x76 : X := .t (.l (.r (.l (.r (.l (.l .e))))))
def x77 : X := .t (.l (.l (.l (.l (.r (.l .e))))))
def x78 : X := .t (.l (.r (.l (.l (.r (.l .e))))))
def x79 : X := .t (.l (.r (.r (.l (.r (.l .e))))))
def x80 : X := .t (.r (.r (.l (.r (.l (.l .e))))))
def x81 : X := .t (.r (.r (.r (.l (.r (.l .e))))))
def x82 : X := .t (.r (.l (.l (.r (.l (.l .e))))))
def x83 : X := .t (.r (.r (.l (.l (.r (.l .e))))))
def x84 : X := .t (.l (.l (.l (.r (.r (.l .e))))))
def x85 : X := .t (.r (.l (.l (.r (.r (.l .e))))))
def x86 : X := .t (.l (.l (.r (.l (.r (.l .e))))))
def x87 : X := .t (.r (.r (.l (.r (.r (.l .e))))))
def x88 : X := .t (.l (.l (.l (.l (.l (.r .e))))))
def x89 : X := .t (.l (.r (.l (.l (.l (.r .e))))))
def x90 : X := .t (.l (.r (.r (.r (.l (.l .e))))))
def x91 : X := .t (.r (.r (.r (.r (.l (.l .e))))))
def x92 : X := .t (.l (.r (.r (.r (.r (.l .e))))))
def x93 : X := .t (.l (.r (.l (.r (.r (.l .e))))))
def x94 : X := .t (.r (.l (.r (.r (.r (.l .e))))))
def x95 : X := .t (.r (.r (.r (.r (.r (.l .e))))))
def x96 : X := .t (.l (.l (.r (.r (.r (.l .e))))))
def x97 : X := .t (.r (.l (.l (.l (.l (.r .e))))))
def x98 : X := .t (.l (.r (.r (.l (.l (.r .e))))))
def x99 : X := .t (.l (.l (.l (.r (.l (.r .e))))))
def x100 : X := .t (.r (.l (.r (.l (.l (.r .e))))))
def x101 : X := .t (.r (.r (.l (.l (.l (.r .e))))))
def x102 : X := .t (.l (.l (.r (.l (.l (.r .e))))))
def x103 : X := .t (.l (.r (.l (.r (.l (.r .e))))))
def x104 : X := .t (.r (.r (.r (.l (.l (.r .e))))))
def x105 : X := .t (.r (.l (.l (.r (.l (.r .e))))))
def x106 : X := .t (.r (.r (.l (.r (.l (.r .e))))))
def x107 : X := .t (.r (.l (.r (.r (.l (.r .e))))))
def x108 : X := .t (.r (.r (.r (.r (.l (.r .e))))))
def x109 : X := .t (.l (.l (.l (.l (.r (.r .e))))))
def x110 : X := .t (.l (.l (.r (.r (.l (.r .e))))))
def x111 : X := .t (.l (.r (.r (.r (.l (.r .e))))))
def x112 : X := .t (.r (.l (.l (.r (.r (.r .e))))))
def x113 : X := .t (.r (.l (.l (.l (.r (.r .e))))))
def x114 : X := .t (.l (.r (.r (.l (.r (.r .e))))))
def x115 : X := .t (.r (.l (.r (.r (.r (.r .e))))))
def x116 : X := .t (.l (.r (.l (.l (.l (.l (.l .e)))))))
def x117 : X := .t (.l (.r (.l (.l (.r (.r .e))))))
def x118 : X := .t (.r (.l (.r (.l (.r (.r .e))))))
def x119 : X := .t (.l (.l (.r (.r (.r (.r .e))))))
def x120 : X := .t (.l (.r (.r (.r (.r (.r .e))))))
def x121 : X := .t (.r (.r (.r (.r (.r (.r .e))))))
def x122 : X := .t (.r (.l (.l (.l (.l (.l (.l .e)))))))
def x123 : X := .t (.r (.r (.l (.l (.r (.r .e))))))
def x124 : X := .t (.l (.r (.l (.r (.r (.r .e))))))
def x125 : X := .t (.l (.l (.r (.l (.l (.l (.l .e)))))))
def x126 : X := .t (.l (.l (.r (.r (.l (.l (.l .e)))))))
def x127 : X := .t (.r (.r (.r (.r (.l (.l (.l .e)))))))
def x128 : X := .t (.r (.r (.l (.r (.r (.r .e))))))
def x129 : X := .t (.l (.l (.r (.l (.r (.r .e))))))
def x130 : X := .t (.r (.r (.r (.l (.r (.r .e))))))
def x131 : X := .t (.l (.l (.l (.r (.r (.r .e))))))
def x132 : X := .t (.l (.l (.l (.l (.l (.l (.l .e)))))))
def x133 : X := .t (.r (.r (.l (.l (.l (.l (.l .e)))))))
def x134 : X := .t (.r (.l (.r (.l (.l (.l (.l .e)))))))
def x135 : X := .t (.l (.l (.l (.r (.l (.l (.l .e)))))))
def x136 : X := .t (.l (.r (.l (.r (.l (.l (.l .e)))))))
def x137 : X := .t (.l (.l (.l (.l (.r (.l (.l .e)))))))
def x138 : X := .t (.r (.l (.l (.r (.l (.l (.l .e)))))))
def x139 : X := .t (.r (.r (.r (.l (.l (.l (.l .e)))))))
def x140 : X := .t (.l (.r (.r (.l (.l (.l (.l .e)))))))
def x141 : X := .t (.r (.r (.l (.r (.l (.l (.l .e)))))))
def x142 : X := .t (.l (.r (.r (.r (.l (.l (.l .e)))))))
def x143 : X := .t (.r (.r (.l (.l (.r (.l (.l .e)))))))
def x144 : X := .t (.r (.l (.r (.r (.l (.l (.l .e)))))))
def x145 : X := .t (.r (.l (.l (.l (.r (.l (.l .e)))))))
def x146 : X := .t (.l (.r (.l (.l (.r (.l (.l .e)))))))
def x147 : X := .t (.r (.r (.r (.l (.r (.l (.l .e)))))))
def x148 : X := .t (.l (.l (.l (.r (.r (.l (.l .e)))))))
def x149 : X := .t (.l (.l (.r (.l (.r (.l (.l .e)))))))
def x150 : X := .t (.l (.l (.r (.r (.r (.l (.l .e)))))))
def x151 : X := .t (.r (.l (.l (.l (.r (.r (.l .e)))))))
def x152 : X := .t (.r (.l (.r (.l (.r (.l (.l .e)))))))
def x153 : X := .t (.l (.r (.r (.l (.r (.l (.l .e)))))))
def x154 : X := .t (.r (.l (.l (.r (.r (.l (.l .e)))))))
def x155 : X := .t (.l (.r (.r (.r (.r (.l (.l .e)))))))
def x156 : X := .t (.r (.r (.r (.r (.r (.l (.l .e)))))))
def x157 : X := .t (.r (.r (.l (.r (.r (.l (.l .e)))))))
def x158 : X := .t (.r (.l (.r (.r (.r (.l (.l .e)))))))
def x159 : X := .t (.l (.l (.l (.l (.l (.r (.l .e)))))))
def x160 : X := .t (.l (.l (.r (.l (.l (.r (.l .e)))))))
def x161 : X := .t (.r (.r (.r (.l (.l (.r (.l .e)))))))
def x162 : X := .t (.l (.r (.r (.l (.l (.r (.l .e)))))))
def x163 : X := .t (.l (.r (.l (.r (.l (.r (.l .e)))))))
def x164 : X := .t (.r (.r (.l (.r (.l (.r (.l .e)))))))
def d0 : D := .to (.r (.l .e))
def d1 : D := .to (.r (.r .e))
def d2 : D := .to (.r (.l (.l .e)))
def d3 : D := .to (.l (.r (.l .e)))
def d4 : D := .to (.r .e)
def d5 : D := .to (.l (.l (.l .e)))
def d6 : D := .to (.r (.r (.l .e)))
def d7 : D := .to (.l (.r .e))
def d8 : D := .to (.l (.l (.r .e)))
def d9 : D := .to (.l (.l .e))
def d10 : D := .to (.r (.l (.r .e)))
def d11 : D := .to (.l (.r (.r .e)))
def d12 : D := .to (.r (.l (.l (.l .e))))
def d13 : D := .to (.r (.r (.r .e)))
def d14 : D := .to (.l (.l (.l (.l .e))))
def d15 : D := .to (.r (.r (.l (.l .e))))
def d16 : D := .to (.l (.r (.l (.l .e))))
def d17 : D := .to (.r (.l (.r (.l .e))))
def d18 : D := .to (.l (.l (.r (.l .e))))
def d19 : D := .to (.l (.r (.r (.l .e))))
def d20 : D := .to (.r (.r (.r (.l .e))))
def d21 : D := .to (.r (.l (.l (.r .e))))
def d22 : D := .to (.l (.r (.l (.r .e))))
def d23 : D := .to (.l (.l (.l (.r .e))))
def d24 : D := .to (.r (.l (.r (.r .e))))
def d25 : D := .to (.r (.r (.r (.r .e))))
def d26 : D := .to (.r (.r (.l (.r .e))))
def d27 : D := .to (.l (.l (.r (.r .e))))
def d28 : D := .to (.r (.l (.l (.l (.l .e)))))
def d29 : D := .to (.l (.l (.l (.l (.l .e)))))
def d30 : D := .to (.l (.r (.r (.r .e))))
def d31 : D := .to (.r (.r (.l (.l (.l .e)))))
def d32 : D := .to (.l (.r (.l (.l (.l .e)))))
def d33 : D := .to (.l (.l (.r (.l (.l .e)))))
def d34 : D := .to (.l (.l (.l (.r (.l .e)))))
def d35 : D := .to (.r (.l (.r (.l (.l .e)))))
def d36 : D := .to (.r (.r (.l (.r (.l .e)))))
def d37 : D := .to (.l (.r (.r (.l (.l .e)))))
def d38 : D := .to (.r (.l (.l (.r (.l .e)))))
def d39 : D := .to (.r (.r (.r (.l (.l .e)))))
def d40 : D := .to (.l (.r (.l (.r (.l .e)))))
def d41 : D := .to (.l (.l (.r (.r (.l .e)))))
def d42 : D := .to (.l (.l (.l (.l (.r .e)))))
def d43 : D := .to (.r (.r (.r (.r (.l .e)))))
def d44 : D := .to (.l (.r (.l (.l (.r .e)))))
def d45 : D := .to (.r (.r (.r (.l (.r .e)))))
def d46 : D := .to (.r (.l (.l (.r (.r .e)))))
def d47 : D := .to (.l (.r (.r (.r (.l .e)))))
def d48 : D := .to (.r (.l (.r (.r (.l .e)))))
def d49 : D := .to (.r (.l (.l (.l (.r .e)))))
def d50 : D := .to (.r (.l (.r (.l (.r .e)))))
def d51 : D := .to (.r (.r (.l (.l (.r .e)))))
def d52 : D := .to (.l .e)
def d53 : D := .to (.l (.l (.r (.r (.r .e)))))
def d54 : D := .to (.l (.l (.l (.r (.r .e)))))
def d55 : D := .to (.r (.r (.r (.r (.r .e)))))
def d56 : D := .to (.l (.l (.r (.l (.r .e)))))
def d57 : D := .to (.l (.r (.r (.l (.r .e)))))
def d58 : D := .to (.l (.l (.r (.l (.l (.l .e))))))
def d59 : D := .to .e
def d60 : D := .to (.l (.r (.l (.r (.r .e)))))
def d61 : D := .to (.r (.l (.r (.r (.r .e)))))
def d62 : D := .to (.l (.r (.r (.r (.r .e)))))
def d63 : D := .to (.r (.r (.l (.l (.l (.l .e))))))
def d64 : D := .to (.l (.r (.r (.l (.l (.l .e))))))
def d65 : D := .to (.r (.l (.l (.l (.l (.l .e))))))
def d66 : D := .to (.r (.r (.l (.r (.r .e)))))
def d67 : D := .to (.l (.l (.l (.l (.l (.l .e))))))
def d68 : D := .to (.l (.r (.l (.l (.l (.l .e))))))
def d69 : D := .to (.l (.l (.l (.r (.l (.l .e))))))
def d70 : D := .to (.r (.l (.l (.l (.r (.l .e))))))
def d71 : D := .to (.r (.l (.r (.l (.l (.l .e))))))
def d72 : D := .to (.r (.r (.r (.l (.l (.l .e))))))
def d73 : D := .to (.l (.l (.r (.r (.l (.l .e))))))
def d74 : D := .to (.r (.l (.r (.r (.l (.l .e))))))
def d75 : D := .to (.r (.r (.l (.r (.l (.l .e))))))
def d76 : D := .to (.r (.l (.l (.r (.l (.l .e))))))
def d77 : D := .to (.l (.r (.l (.r (.l (.l .e))))))
def d78 : D := .to (.l (.r (.l (.l (.r (.l .e))))))
def d79 : D := .to (.r (.l (.r (.l (.r (.l .e))))))
def d80 : D := .to (.r (.r (.l (.l (.r (.l .e))))))
def d81 : D := .to (.l (.r (.r (.l (.r (.l .e))))))
def d82 : D := .to (.r (.r (.r (.l (.r (.l .e))))))
def d83 : D := .to (.r (.l (.l (.r (.r (.l .e))))))
def d84 : D := .to (.l (.r (.r (.r (.l (.l .e))))))
def d85 : D := .to (.l (.l (.r (.l (.r (.l .e))))))
def d86 : D := .to (.l (.r (.r (.r (.r (.l .e))))))
def d87 : D := .to (.l (.l (.l (.l (.r (.l .e))))))
def d88 : D := .to (.r (.r (.l (.r (.r (.l .e))))))
def d89 : D := .to (.l (.l (.l (.r (.r (.l .e))))))
def d90 : D := .to (.r (.l (.r (.r (.r (.l .e))))))
def d91 : D := .to (.r (.r (.r (.r (.l (.l .e))))))
def d92 : D := .to (.l (.r (.l (.r (.r (.l .e))))))
def d93 : D := .to (.l (.l (.r (.r (.r (.l .e))))))
def d94 : D := .to (.l (.l (.l (.l (.l (.r .e))))))
def d95 : D := .to (.l (.r (.l (.l (.l (.r .e))))))
def d96 : D := .to (.r (.r (.r (.r (.r (.l .e))))))
def d97 : D := .to (.r (.l (.l (.l (.l (.r .e))))))
def d98 : D := .to (.r (.r (.l (.l (.l (.r .e))))))
def d99 : D := .to (.r (.l (.r (.l (.l (.r .e))))))
def d100 : D := .to (.l (.r (.r (.l (.l (.r .e))))))
def d101 : D := .to (.l (.l (.l (.r (.l (.r .e))))))
def d102 : D := .to (.l (.r (.l (.r (.l (.r .e))))))
def d103 : D := .to (.l (.l (.r (.l (.l (.r .e))))))
def d104 : D := .to (.r (.r (.r (.l (.l (.r .e))))))
def d105 : D := .to (.r (.l (.l (.r (.l (.r .e))))))
def d106 : D := .to (.r (.r (.l (.r (.l (.r .e))))))
def d107 : D := .to (.r (.l (.r (.r (.l (.r .e))))))
def d108 : D := .to (.r (.r (.r (.r (.l (.r .e))))))
def d109 : D := .to (.l (.l (.r (.r (.l (.r .e))))))
def d110 : D := .to (.l (.r (.r (.r (.l (.r .e))))))
def d111 : D := .to (.l (.l (.l (.l (.r (.r .e))))))
def d112 : D := .to (.r (.l (.l (.l (.r (.r .e))))))
def d113 : D := .to (.r (.l (.l (.r (.r (.r .e))))))
def d114 : D := .to (.l (.r (.l (.l (.r (.r .e))))))
def d115 : D := .to (.l (.r (.r (.l (.r (.r .e))))))
def d116 : D := .to (.l (.l (.r (.r (.r (.r .e))))))
def d117 : D := .to (.r (.r (.r (.r (.r (.r .e))))))
def d118 : D := .to (.l (.r (.l (.l (.l (.l (.l .e)))))))
def d119 : D := .to (.r (.l (.r (.l (.r (.r .e))))))
def d120 : D := .to (.r (.r (.r (.l (.r (.r .e))))))
def d121 : D := .to (.l (.r (.l (.r (.r (.r .e))))))
def d122 : D := .to (.r (.l (.r (.r (.r (.r .e))))))
def d123 : D := .to (.l (.r (.r (.r (.r (.r .e))))))
def d124 : D := .to (.r (.l (.l (.l (.l (.l (.l .e)))))))
def d125 : D := .to (.r (.r (.l (.l (.r (.r .e))))))
def d126 : D := .to (.l (.l (.r (.l (.r (.r .e))))))
def d127 : D := .to (.l (.l (.r (.l (.l (.l (.l .e)))))))
def d128 : D := .to (.r (.l (.r (.l (.l (.l (.l .e)))))))
def d129 : D := .to (.r (.l (.l (.r (.l (.l (.l .e)))))))
def d130 : D := .to (.l (.l (.r (.r (.l (.l (.l .e)))))))
def d131 : D := .to (.r (.r (.r (.r (.l (.l (.l .e)))))))
def d132 : D := .to (.r (.r (.l (.r (.r (.r .e))))))
def d133 : D := .to (.l (.l (.l (.l (.l (.l (.l .e)))))))
def d134 : D := .to (.r (.r (.l (.l (.l (.l (.l .e)))))))
def d135 : D := .to (.r (.r (.r (.l (.l (.l (.l .e)))))))
def d136 : D := .to (.l (.l (.l (.r (.l (.l (.l .e)))))))
def d137 : D := .to (.l (.r (.l (.r (.l (.l (.l .e)))))))
def d138 : D := .to (.l (.l (.l (.l (.r (.l (.l .e)))))))
def d139 : D := .to (.r (.r (.l (.l (.r (.l (.l .e)))))))
def d140 : D := .to (.l (.l (.l (.r (.r (.r .e))))))
def d141 : D := .to (.l (.r (.r (.l (.l (.l (.l .e)))))))
def d142 : D := .to (.r (.r (.l (.r (.l (.l (.l .e)))))))
def d143 : D := .to (.l (.r (.r (.r (.l (.l (.l .e)))))))
def d144 : D := .to (.l (.r (.l (.l (.r (.l (.l .e)))))))
def d145 : D := .to (.r (.l (.r (.r (.l (.l (.l .e)))))))
def d146 : D := .to (.r (.l (.l (.l (.r (.l (.l .e)))))))
def d147 : D := .to (.l (.l (.r (.l (.r (.l (.l .e)))))))
def d148 : D := .to (.r (.r (.r (.l (.r (.l (.l .e)))))))
def d149 : D := .to (.l (.l (.l (.r (.r (.l (.l .e)))))))
def d150 : D := .to (.l (.l (.r (.r (.r (.l (.l .e)))))))
def d151 : D := .to (.r (.l (.r (.r (.r (.l (.l .e)))))))
def d152 : D := .to (.r (.l (.r (.l (.r (.l (.l .e)))))))
def d153 : D := .to (.l (.r (.r (.l (.r (.l (.l .e)))))))
def d154 : D := .to (.r (.l (.l (.r (.r (.l (.l .e)))))))
def d155 : D := .to (.l (.r (.r (.r (.r (.l (.l .e)))))))
def d156 : D := .to (.r (.r (.r (.r (.r (.l (.l .e)))))))
def d157 : D := .to (.r (.r (.l (.r (.r (.l (.l .e)))))))
def d158 : D := .to (.l (.l (.l (.l (.l (.r (.l .e)))))))
def d159 : D := .to (.l (.l (.r (.l (.l (.r (.l .e)))))))
def d160 : D := .to (.l (.r (.r (.l (.l (.r (.l .e)))))))
def d161 : D := .to (.r (.r (.r (.l (.l (.r (.l .e)))))))
def d162 : D := .to (.l (.r (.l (.r (.l (.r (.l .e)))))))
def d163 : D := .to (.r (.r (.l (.r (.l (.r (.l .e)))))))
def k0 : X := (.c (.int .i64 (.ofNat 0)))
def k1 : X := (.c (.int .i64 (.ofNat 1)))
def k2 : X := (.c (.int .i64 (.ofNat 2)))
def k3 : X := (.c (.int .i64 (.ofNat 3)))
def k4 : X := (.c (.int .i64 (.ofNat 4)))
def k5 : X := (.c (.int .i64 (.ofNat 5)))
def k6 : X := (.c (.int .i64 (.ofNat 6)))
def k7 : X := (.c (.int .i64 (.ofNat 7)))
def k8 : X := (.c (.int .i64 (.ofNat 8)))
def k9 : X := (.c (.int .i64 (.ofNat 9)))
def k10 : X := (.c (.int .i64 (.ofNat 10)))
def k11 : X := (.c (.int .i64 (.ofNat 11)))
def k12 : X := (.c (.int .i64 (.ofNat 12)))
def k13 : X := (.c (.int .i64 (.ofNat 13)))
def k14 : X := (.c (.int .i64 (.ofNat 14)))
def k15 : X := (.c (.int .i64 (.ofNat 15)))
def k16 : X := (.c (.int .i64 (.ofNat 16)))
def k17 : X := (.c (.int .i64 (.ofNat 64)))
def k18 : X := (.c (.bool .false))
def k19 : X := (.c (.bool .true))
def k20 : X := (.c (.int .i64 (.negSucc 0)))
def k21 : X := (.c (.str []))
def q0 : Pt := (.r (.l .e))
def q1 : Pt := (.r .e)
def q2 : Pt := (.r (.r .e))
def q3 : Pt := (.r (.r (.l .e)))
def q4 : Pt := (.l (.l (.l .e)))
def q5 : Pt := (.l (.r (.l .e)))
def q6 : Pt := (.r (.l (.l .e)))
def q7 : Pt := (.l (.r .e))
def q8 : Pt := (.l (.l .e))
def q9 : Pt := (.l (.l (.r (.l .e))))
def q10 : Pt := (.r (.l (.l (.l .e))))
def q11 : Pt := (.r (.r (.l (.l .e))))
def q12 : Pt := (.l (.r (.r (.r .e))))
def q13 : Pt := (.l (.l (.r (.l (.r (.l .e))))))
def q14 : Pt := (.r (.l (.r (.r .e))))
def q15 : Pt := (.r (.r (.l (.r (.l .e)))))
def q16 : Pt := (.l (.r (.r (.l .e))))
def q17 : Pt := (.l (.l (.r (.l (.l .e)))))
def q18 : Pt := (.l (.r (.l (.l .e))))
def q19 : Pt := (.l (.r (.l (.l (.l .e)))))
def q20 : Pt := (.r (.l (.r (.l (.r (.l .e))))))
def q21 : Pt := (.l (.l (.l (.r .e))))
def q22 : Pt := (.r (.l (.l (.r .e))))
def q23 : Pt := (.l (.r (.r .e)))
def q24 : Pt := (.r (.r (.r .e)))
def q25 : Pt := (.r (.l (.l (.l (.l .e)))))
def q26 : Pt := (.r (.r (.r (.l (.l .e)))))
def q27 : Pt := (.l (.r (.r (.r (.r (.l .e))))))
def q28 : Pt := (.l (.l (.l (.l .e))))
def q29 : Pt := (.l (.r (.r (.l (.r (.l .e))))))
def q30 : Pt := (.l (.l (.l (.r (.l .e)))))
def q31 : Pt := (.l (.l (.r .e)))
def q32 : Pt := (.l (.r (.l (.r .e))))
def q33 : Pt := (.r (.l (.r .e)))
def q34 : Pt := (.r (.r (.r (.l .e))))
def q35 : Pt := (.l (.l (.r (.r (.l (.l .e))))))
def q36 : Pt := (.r (.r (.r (.r (.l (.l .e))))))
def q37 : Pt := (.r (.l (.l (.l (.r .e)))))
def q38 : Pt := (.r (.r (.l (.r (.r .e)))))
def q39 : Pt := (.l (.l (.r (.r (.l .e)))))
def q40 : Pt := (.l (.l (.r (.r (.r (.l .e))))))
def q41 : Pt := (.l (.r (.l (.l (.l (.l .e))))))
def q42 : Pt := (.r (.l (.r (.r (.l (.l .e))))))
def q43 : Pt := (.l (.l (.l (.l (.r .e)))))
def q44 : Pt := (.r (.l (.r (.l (.l (.r .e))))))
def q45 : Pt := (.l (.r (.l (.r (.l (.l .e))))))
def q46 : Pt := (.l (.r (.r (.r (.l (.l .e))))))
def q47 : Pt := (.r (.r (.l (.l (.l (.l .e))))))
def q48 : Pt := (.l (.l (.l (.r (.l (.l .e))))))
def q49 : Pt := (.l (.l (.r (.l (.r .e)))))
def q50 : Pt := (.l (.l (.r (.r .e))))
def q51 : Pt := (.r (.l (.l (.r (.r .e)))))
def q52 : Pt := (.l (.r (.l (.r (.l (.l (.l .e)))))))
def q53 : Pt := (.r (.l (.r (.l .e))))
def q54 : Pt := (.l (.l (.l (.l (.l .e)))))
def q55 : Pt := (.r (.l (.r (.l (.r .e)))))
def q56 : Pt := (.r (.l (.l (.r (.l (.l .e))))))
def q57 : Pt := (.r (.l (.r (.l (.l (.l (.l .e)))))))
def q58 : Pt := (.r (.l (.r (.r (.r (.r .e))))))
def q59 : Pt := (.r (.l (.r (.r (.l .e)))))
def q60 : Pt := (.l (.r (.l (.r (.r (.r .e))))))
def q61 : Pt := (.r (.l (.r (.r (.l (.r .e))))))
def q62 : Pt := (.l (.r (.r (.l (.r .e)))))
def q63 : Pt := (.l (.l (.r (.r (.r .e)))))
def q64 : Pt := (.l (.r (.l (.l (.r (.l .e))))))
def q65 : Pt := (.l (.l (.l (.r (.r (.l .e))))))
def q66 : Pt := (.r (.l (.l (.l (.l (.r .e))))))
def q67 : Pt := (.r (.l (.l (.r (.r (.l .e))))))
def q68 : Pt := (.r (.l (.r (.l (.l .e)))))
def q69 : Pt := (.r (.r (.r (.l (.l (.r .e))))))
def q70 : Pt := (.r (.r (.l (.l (.r .e)))))
def q71 : Pt := (.r (.l (.r (.l (.l (.l .e))))))
def q72 : Pt := (.r (.l (.r (.r (.r (.l .e))))))
def q73 : Pt := (.l (.l (.l (.l (.r (.l .e))))))
def q74 : Pt := (.l (.r (.r (.r (.r .e)))))
def q75 : Pt := (.l (.l (.l (.r (.r .e)))))
def q76 : Pt := (.r (.r (.r (.r (.l .e)))))
def q77 : Pt := (.r (.r (.l (.l (.r (.l .e))))))
def q78 : Pt := (.r (.l (.l (.r (.l .e)))))
def q79 : Pt := (.r (.l (.l (.l (.l (.l (.l .e)))))))
def q80 : Pt := (.r (.r (.l (.l (.l .e)))))
def q81 : Pt := (.l (.r (.r (.r (.r (.r .e))))))
def q82 : Pt := (.l (.l (.r (.r (.r (.l (.l .e)))))))
def q83 : Pt := (.l (.r (.r (.l (.l (.r (.l .e)))))))
end Go.Ev
