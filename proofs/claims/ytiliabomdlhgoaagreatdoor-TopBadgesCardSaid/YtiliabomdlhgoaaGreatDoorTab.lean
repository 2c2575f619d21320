/- The table of the functions; what is reckoned. -/
import Derived.Test.YtiliabomdlhgoaaGreatDoorT0
import Derived.Test.YtiliabomdlhgoaaGreatDoorT1
import Derived.Test.YtiliabomdlhgoaaGreatDoorT2
import Derived.Test.YtiliabomdlhgoaaGreatDoorT3
import Derived.Test.YtiliabomdlhgoaaGreatDoorT4
import Derived.Test.YtiliabomdlhgoaaGreatDoorEc
set_option linter.unusedSectionVars false
set_option linter.unusedVariables false
namespace Go.Ev
open Go.Proofs
set_option maxRecDepth 100000
noncomputable def tab : Tb := (.node (.node (.node (.node (.node (.node (.node (.node (.node .leaf p255 .leaf) .no .leaf) p63 .leaf) .no (.node (.node (.node .leaf p287 .leaf) .no .leaf) p95 (.node (.node .leaf p351 .leaf) .no .leaf))) p15 (.node (.node (.node (.node .leaf p271 .leaf) .no .leaf) p79 (.node (.node .leaf p335 .leaf) p207 .leaf)) p47 (.node (.node (.node .leaf p303 .leaf) .no .leaf) .no (.node .leaf p239 .leaf)))) p7 (.node (.node (.node (.node .leaf p135 .leaf) .no (.node (.node .leaf p327 .leaf) p199 .leaf)) .no (.node (.node (.node .leaf p295 .leaf) p167 (.node .leaf p423 .leaf)) p103 .leaf)) p23 (.node (.node (.node (.node .leaf p279 .leaf) p151 .leaf) .no (.node (.node .leaf p343 .leaf) .no .leaf)) p55 (.node (.node (.node .leaf p311 .leaf) .no .leaf) .no (.node (.node .leaf p375 .leaf) p247 .leaf))))) p3 (.node (.node (.node (.node (.node (.node .leaf p259 .leaf) p131 .leaf) .no .leaf) p35 (.node .leaf p99 .leaf)) p19 (.node (.node (.node .leaf .no (.node .leaf p403 .leaf)) p83 (.node .leaf p211 .leaf)) .no (.node (.node .leaf p179 .leaf) .no (.node .leaf p243 .leaf)))) p11 (.node (.node (.node .leaf p75 (.node .leaf p203 .leaf)) p43 (.node (.node (.node .leaf p299 .leaf) p171 .leaf) .no .leaf)) p27 (.node (.node (.node (.node .leaf p283 .leaf) p155 .leaf) p91 (.node (.node .leaf p347 .leaf) .no .leaf)) p59 (.node (.node .leaf p187 .leaf) .no (.node .leaf p251 .leaf)))))) .no (.node (.node (.node (.node (.node (.node (.node .leaf p257 .leaf) .no .leaf) .no (.node .leaf p193 .leaf)) p33 (.node (.node .leaf p161 .leaf) p97 (.node .leaf p225 .leaf))) p17 (.node (.node (.node (.node .leaf p273 .leaf) p145 .leaf) p81 (.node (.node .leaf p337 .leaf) p209 .leaf)) p49 (.node (.node (.node .leaf p305 .leaf) .no .leaf) p113 (.node .leaf p241 .leaf)))) p9 (.node (.node (.node (.node (.node .leaf p265 .leaf) p137 .leaf) p73 (.node (.node .leaf p329 .leaf) p201 .leaf)) p41 (.node (.node .leaf p169 .leaf) p105 .leaf)) p25 (.node (.node (.node .leaf p153 .leaf) p89 (.node (.node .leaf p345 .leaf) .no .leaf)) p57 (.node (.node .leaf p185 .leaf) p121 (.node .leaf p249 .leaf))))) p5 (.node (.node (.node (.node (.node .leaf p133 .leaf) p69 .leaf) p37 (.node (.node (.node .leaf p293 .leaf) .no (.node .leaf p421 .leaf)) p101 .leaf)) p21 (.node (.node (.node (.node .leaf p277 .leaf) p149 .leaf) p85 (.node .leaf p213 .leaf)) p53 (.node (.node (.node .leaf p309 .leaf) .no .leaf) .no (.node (.node .leaf p373 .leaf) p245 .leaf)))) p13 (.node (.node (.node (.node .leaf p141 .leaf) p77 (.node (.node .leaf p333 .leaf) p205 .leaf)) p45 (.node (.node (.node .leaf p301 .leaf) .no .leaf) p109 .leaf)) p29 (.node (.node (.node (.node .leaf p285 .leaf) p157 .leaf) p93 (.node (.node .leaf p349 .leaf) p221 .leaf)) p61 (.node (.node .leaf p189 .leaf) p125 (.node (.node .leaf p381 .leaf) p253 .leaf))))))) .no (.node (.node (.node (.node (.node (.node (.node (.node .leaf p256 .leaf) .no .leaf) p64 .leaf) p32 (.node (.node (.node .leaf p288 .leaf) p160 .leaf) p96 .leaf)) p16 (.node (.node .leaf p80 (.node (.node .leaf p336 .leaf) p208 .leaf)) p48 (.node (.node (.node .leaf p304 .leaf) .no .leaf) p112 .leaf))) p8 (.node (.node (.node (.node (.node .leaf p264 .leaf) p136 .leaf) p72 (.node .leaf p200 .leaf)) p40 (.node (.node (.node .leaf p296 .leaf) p168 .leaf) p104 .leaf)) p24 (.node (.node (.node .leaf p152 .leaf) p88 (.node (.node .leaf p344 .leaf) .no .leaf)) p56 (.node (.node (.node .leaf p312 .leaf) .no .leaf) .no (.node (.node .leaf p376 .leaf) p248 .leaf))))) p4 (.node (.node (.node (.node (.node (.node .leaf p260 .leaf) p132 .leaf) .no .leaf) p36 (.node (.node .leaf p164 .leaf) p100 (.node .leaf p228 .leaf))) p20 (.node (.node (.node .leaf .no (.node .leaf p404 .leaf)) p84 (.node .leaf p212 .leaf)) .no (.node (.node (.node .leaf p308 .leaf) p180 .leaf) .no (.node .leaf p244 .leaf)))) p12 (.node (.node (.node (.node .leaf p140 .leaf) p76 (.node (.node .leaf p332 .leaf) p204 .leaf)) p44 .leaf) p28 (.node (.node (.node .leaf p156 .leaf) p92 (.node (.node .leaf p348 .leaf) p220 .leaf)) p60 (.node (.node .leaf p188 .leaf) .no (.node .leaf p252 .leaf)))))) .no (.node (.node (.node (.node (.node (.node .leaf p130 .leaf) .no (.node (.node .leaf p322 .leaf) p194 .leaf)) p34 (.node (.node .leaf p162 .leaf) p98 .leaf)) p18 (.node (.node (.node (.node .leaf p274 .leaf) p146 (.node .leaf p402 .leaf)) p82 (.node .leaf p210 .leaf)) p50 (.node (.node (.node .leaf p306 .leaf) p178 .leaf) .no (.node .leaf p242 .leaf)))) p10 (.node (.node (.node (.node .leaf p138 .leaf) p74 (.node .leaf p202 .leaf)) p42 (.node (.node (.node .leaf p298 .leaf) p170 .leaf) .no .leaf)) p26 (.node (.node (.node (.node .leaf p282 .leaf) p154 .leaf) p90 (.node (.node .leaf p346 .leaf) .no .leaf)) p58 (.node (.node .leaf p186 .leaf) p122 .leaf)))) p6 (.node (.node (.node (.node (.node .leaf p134 .leaf) p70 (.node .leaf p198 .leaf)) p38 (.node (.node (.node .leaf p294 .leaf) p166 (.node .leaf p422 .leaf)) p102 .leaf)) p22 (.node (.node (.node (.node .leaf p278 .leaf) p150 .leaf) p86 (.node (.node .leaf p342 .leaf) p214 .leaf)) p54 (.node (.node (.node .leaf p310 .leaf) p182 .leaf) .no (.node .leaf p246 .leaf)))) p14 (.node (.node (.node (.node .leaf p142 .leaf) p78 (.node (.node .leaf p334 .leaf) p206 .leaf)) p46 (.node (.node (.node .leaf p302 .leaf) .no .leaf) p110 (.node .leaf p238 .leaf))) p30 (.node (.node (.node .leaf p158 .leaf) p94 (.node (.node .leaf p350 .leaf) .no .leaf)) p62 (.node (.node (.node .leaf p318 .leaf) .no .leaf) p126 .leaf)))))))
theorem tab_is : OkTab (FnIs Tryz.prog cf (compD cf)) tab 1 0 := ⟨trivial, ⟨trivial, ⟨ok3, ⟨ok7, ⟨ok15, ⟨trivial, ⟨ok63, ⟨trivial, ⟨ok255, trivial, trivial⟩, trivial⟩, trivial⟩, ⟨ok95, ⟨trivial, ⟨ok287, trivial, trivial⟩, trivial⟩, ⟨trivial, ⟨ok351, trivial, trivial⟩, trivial⟩⟩⟩, ⟨ok47, ⟨ok79, ⟨trivial, ⟨ok271, trivial, trivial⟩, trivial⟩, ⟨ok207, ⟨ok335, trivial, trivial⟩, trivial⟩⟩, ⟨trivial, ⟨trivial, ⟨ok303, trivial, trivial⟩, trivial⟩, ⟨ok239, trivial, trivial⟩⟩⟩⟩, ⟨ok23, ⟨trivial, ⟨trivial, ⟨ok135, trivial, trivial⟩, ⟨ok199, ⟨ok327, trivial, trivial⟩, trivial⟩⟩, ⟨ok103, ⟨ok167, ⟨ok295, trivial, trivial⟩, ⟨ok423, trivial, trivial⟩⟩, trivial⟩⟩, ⟨ok55, ⟨trivial, ⟨ok151, ⟨ok279, trivial, trivial⟩, trivial⟩, ⟨trivial, ⟨ok343, trivial, trivial⟩, trivial⟩⟩, ⟨trivial, ⟨trivial, ⟨ok311, trivial, trivial⟩, trivial⟩, ⟨ok247, ⟨ok375, trivial, trivial⟩, trivial⟩⟩⟩⟩⟩, ⟨ok11, ⟨ok19, ⟨ok35, ⟨trivial, ⟨ok131, ⟨ok259, trivial, trivial⟩, trivial⟩, trivial⟩, ⟨ok99, trivial, trivial⟩⟩, ⟨trivial, ⟨ok83, ⟨trivial, trivial, ⟨ok403, trivial, trivial⟩⟩, ⟨ok211, trivial, trivial⟩⟩, ⟨trivial, ⟨ok179, trivial, trivial⟩, ⟨ok243, trivial, trivial⟩⟩⟩⟩, ⟨ok27, ⟨ok43, ⟨ok75, trivial, ⟨ok203, trivial, trivial⟩⟩, ⟨trivial, ⟨ok171, ⟨ok299, trivial, trivial⟩, trivial⟩, trivial⟩⟩, ⟨ok59, ⟨ok91, ⟨ok155, ⟨ok283, trivial, trivial⟩, trivial⟩, ⟨trivial, ⟨ok347, trivial, trivial⟩, trivial⟩⟩, ⟨trivial, ⟨ok187, trivial, trivial⟩, ⟨ok251, trivial, trivial⟩⟩⟩⟩⟩⟩, ⟨ok5, ⟨ok9, ⟨ok17, ⟨ok33, ⟨trivial, ⟨trivial, ⟨ok257, trivial, trivial⟩, trivial⟩, ⟨ok193, trivial, trivial⟩⟩, ⟨ok97, ⟨ok161, trivial, trivial⟩, ⟨ok225, trivial, trivial⟩⟩⟩, ⟨ok49, ⟨ok81, ⟨ok145, ⟨ok273, trivial, trivial⟩, trivial⟩, ⟨ok209, ⟨ok337, trivial, trivial⟩, trivial⟩⟩, ⟨ok113, ⟨trivial, ⟨ok305, trivial, trivial⟩, trivial⟩, ⟨ok241, trivial, trivial⟩⟩⟩⟩, ⟨ok25, ⟨ok41, ⟨ok73, ⟨ok137, ⟨ok265, trivial, trivial⟩, trivial⟩, ⟨ok201, ⟨ok329, trivial, trivial⟩, trivial⟩⟩, ⟨ok105, ⟨ok169, trivial, trivial⟩, trivial⟩⟩, ⟨ok57, ⟨ok89, ⟨ok153, trivial, trivial⟩, ⟨trivial, ⟨ok345, trivial, trivial⟩, trivial⟩⟩, ⟨ok121, ⟨ok185, trivial, trivial⟩, ⟨ok249, trivial, trivial⟩⟩⟩⟩⟩, ⟨ok13, ⟨ok21, ⟨ok37, ⟨ok69, ⟨ok133, trivial, trivial⟩, trivial⟩, ⟨ok101, ⟨trivial, ⟨ok293, trivial, trivial⟩, ⟨ok421, trivial, trivial⟩⟩, trivial⟩⟩, ⟨ok53, ⟨ok85, ⟨ok149, ⟨ok277, trivial, trivial⟩, trivial⟩, ⟨ok213, trivial, trivial⟩⟩, ⟨trivial, ⟨trivial, ⟨ok309, trivial, trivial⟩, trivial⟩, ⟨ok245, ⟨ok373, trivial, trivial⟩, trivial⟩⟩⟩⟩, ⟨ok29, ⟨ok45, ⟨ok77, ⟨ok141, trivial, trivial⟩, ⟨ok205, ⟨ok333, trivial, trivial⟩, trivial⟩⟩, ⟨ok109, ⟨trivial, ⟨ok301, trivial, trivial⟩, trivial⟩, trivial⟩⟩, ⟨ok61, ⟨ok93, ⟨ok157, ⟨ok285, trivial, trivial⟩, trivial⟩, ⟨ok221, ⟨ok349, trivial, trivial⟩, trivial⟩⟩, ⟨ok125, ⟨ok189, trivial, trivial⟩, ⟨ok253, ⟨ok381, trivial, trivial⟩, trivial⟩⟩⟩⟩⟩⟩⟩, ⟨trivial, ⟨ok4, ⟨ok8, ⟨ok16, ⟨ok32, ⟨ok64, ⟨trivial, ⟨ok256, trivial, trivial⟩, trivial⟩, trivial⟩, ⟨ok96, ⟨ok160, ⟨ok288, trivial, trivial⟩, trivial⟩, trivial⟩⟩, ⟨ok48, ⟨ok80, trivial, ⟨ok208, ⟨ok336, trivial, trivial⟩, trivial⟩⟩, ⟨ok112, ⟨trivial, ⟨ok304, trivial, trivial⟩, trivial⟩, trivial⟩⟩⟩, ⟨ok24, ⟨ok40, ⟨ok72, ⟨ok136, ⟨ok264, trivial, trivial⟩, trivial⟩, ⟨ok200, trivial, trivial⟩⟩, ⟨ok104, ⟨ok168, ⟨ok296, trivial, trivial⟩, trivial⟩, trivial⟩⟩, ⟨ok56, ⟨ok88, ⟨ok152, trivial, trivial⟩, ⟨trivial, ⟨ok344, trivial, trivial⟩, trivial⟩⟩, ⟨trivial, ⟨trivial, ⟨ok312, trivial, trivial⟩, trivial⟩, ⟨ok248, ⟨ok376, trivial, trivial⟩, trivial⟩⟩⟩⟩⟩, ⟨ok12, ⟨ok20, ⟨ok36, ⟨trivial, ⟨ok132, ⟨ok260, trivial, trivial⟩, trivial⟩, trivial⟩, ⟨ok100, ⟨ok164, trivial, trivial⟩, ⟨ok228, trivial, trivial⟩⟩⟩, ⟨trivial, ⟨ok84, ⟨trivial, trivial, ⟨ok404, trivial, trivial⟩⟩, ⟨ok212, trivial, trivial⟩⟩, ⟨trivial, ⟨ok180, ⟨ok308, trivial, trivial⟩, trivial⟩, ⟨ok244, trivial, trivial⟩⟩⟩⟩, ⟨ok28, ⟨ok44, ⟨ok76, ⟨ok140, trivial, trivial⟩, ⟨ok204, ⟨ok332, trivial, trivial⟩, trivial⟩⟩, trivial⟩, ⟨ok60, ⟨ok92, ⟨ok156, trivial, trivial⟩, ⟨ok220, ⟨ok348, trivial, trivial⟩, trivial⟩⟩, ⟨trivial, ⟨ok188, trivial, trivial⟩, ⟨ok252, trivial, trivial⟩⟩⟩⟩⟩⟩, ⟨ok6, ⟨ok10, ⟨ok18, ⟨ok34, ⟨trivial, ⟨ok130, trivial, trivial⟩, ⟨ok194, ⟨ok322, trivial, trivial⟩, trivial⟩⟩, ⟨ok98, ⟨ok162, trivial, trivial⟩, trivial⟩⟩, ⟨ok50, ⟨ok82, ⟨ok146, ⟨ok274, trivial, trivial⟩, ⟨ok402, trivial, trivial⟩⟩, ⟨ok210, trivial, trivial⟩⟩, ⟨trivial, ⟨ok178, ⟨ok306, trivial, trivial⟩, trivial⟩, ⟨ok242, trivial, trivial⟩⟩⟩⟩, ⟨ok26, ⟨ok42, ⟨ok74, ⟨ok138, trivial, trivial⟩, ⟨ok202, trivial, trivial⟩⟩, ⟨trivial, ⟨ok170, ⟨ok298, trivial, trivial⟩, trivial⟩, trivial⟩⟩, ⟨ok58, ⟨ok90, ⟨ok154, ⟨ok282, trivial, trivial⟩, trivial⟩, ⟨trivial, ⟨ok346, trivial, trivial⟩, trivial⟩⟩, ⟨ok122, ⟨ok186, trivial, trivial⟩, trivial⟩⟩⟩⟩, ⟨ok14, ⟨ok22, ⟨ok38, ⟨ok70, ⟨ok134, trivial, trivial⟩, ⟨ok198, trivial, trivial⟩⟩, ⟨ok102, ⟨ok166, ⟨ok294, trivial, trivial⟩, ⟨ok422, trivial, trivial⟩⟩, trivial⟩⟩, ⟨ok54, ⟨ok86, ⟨ok150, ⟨ok278, trivial, trivial⟩, trivial⟩, ⟨ok214, ⟨ok342, trivial, trivial⟩, trivial⟩⟩, ⟨trivial, ⟨ok182, ⟨ok310, trivial, trivial⟩, trivial⟩, ⟨ok246, trivial, trivial⟩⟩⟩⟩, ⟨ok30, ⟨ok46, ⟨ok78, ⟨ok142, trivial, trivial⟩, ⟨ok206, ⟨ok334, trivial, trivial⟩, trivial⟩⟩, ⟨ok110, ⟨trivial, ⟨ok302, trivial, trivial⟩, trivial⟩, ⟨ok238, trivial, trivial⟩⟩⟩, ⟨ok62, ⟨ok94, ⟨ok158, trivial, trivial⟩, ⟨trivial, ⟨ok350, trivial, trivial⟩, trivial⟩⟩, ⟨ok126, ⟨trivial, ⟨ok318, trivial, trivial⟩, trivial⟩, trivial⟩⟩⟩⟩⟩⟩⟩
theorem tab_ok : TabOk Tryz.prog cf (compD cf) tab := tabOk_of tab_is
end Go.Ev
namespace Go.Ev
noncomputable section
def mm205 : List (List V × V) := [([.int .i64 (.ofNat 1)], .str [109, 111, 118, 105]),
  ([.int .i64 (.ofNat 10)], .str [115, 116, 114, 98]),
  ([.int .i64 (.ofNat 11)], .str [98, 101, 113]),
  ([.int .i64 (.ofNat 12)], .str [98, 110, 101]),
  ([.int .i64 (.ofNat 13)], .str [98, 108, 116]),
  ([.int .i64 (.ofNat 14)], .str [106, 109, 112]),
  ([.int .i64 (.ofNat 15)], .str [106, 97, 108]),
  ([.int .i64 (.ofNat 16)], .str [106, 114]),
  ([.int .i64 (.ofNat 17)], .str [104, 118, 99]),
  ([.int .i64 (.ofNat 18)], .str [115, 118, 99]),
  ([.int .i64 (.ofNat 19)], .str [109, 114, 115]),
  ([.int .i64 (.ofNat 2)], .str [97, 100, 100]),
  ([.int .i64 (.ofNat 20)], .str [109, 115, 114]),
  ([.int .i64 (.ofNat 21)], .str [119, 102, 105]),
  ([.int .i64 (.ofNat 22)], .str [105, 97, 114]),
  ([.int .i64 (.ofNat 23)], .str [101, 111, 105]),
  ([.int .i64 (.ofNat 24)], .str [116, 108, 98, 105]),
  ([.int .i64 (.ofNat 25)], .str [110, 111, 112]),
  ([.int .i64 (.ofNat 3)], .str [115, 117, 98]),
  ([.int .i64 (.ofNat 4)], .str [97, 110, 100]),
  ([.int .i64 (.ofNat 5)], .str [120, 111, 114]),
  ([.int .i64 (.ofNat 6)], .str [115, 104, 108]),
  ([.int .i64 (.ofNat 7)], .str [108, 100, 114]),
  ([.int .i64 (.ofNat 8)], .str [115, 116, 114]),
  ([.int .i64 (.ofNat 9)], .str [108, 100, 114, 98])]
def mm157 : List (List V × V) := [([.int .i64 (.ofNat 1)], .str [97, 105]),
  ([.int .i64 (.ofNat 14)], .str [105]),
  ([.int .i64 (.ofNat 18)], .str [105])]
def mm104 : List (List V × V) := [([.agg [.int .i64 (.ofNat 1), .int .i64 (.ofNat 0), .int .i64 (.ofNat 0), .int .i64 (.ofNat 0), .int .i64 (.ofNat 1)]], .bool true),
  ([.agg [.int .i64 (.ofNat 1), .int .i64 (.ofNat 1), .int .i64 (.ofNat 0), .int .i64 (.ofNat 0), .int .i64 (.ofNat 81)]], .bool true),
  ([.agg [.int .i64 (.ofNat 1), .int .i64 (.ofNat 2), .int .i64 (.ofNat 0), .int .i64 (.ofNat 0), .int .i64 (.ofNat 42)]], .bool true),
  ([.agg [.int .i64 (.ofNat 14), .int .i64 (.ofNat 0), .int .i64 (.ofNat 0), .int .i64 (.ofNat 0), .int .i64 (.ofNat 16)]], .bool true),
  ([.agg [.int .i64 (.ofNat 14), .int .i64 (.ofNat 0), .int .i64 (.ofNat 0), .int .i64 (.ofNat 0), .int .i64 (.ofNat 8)]], .bool true),
  ([.agg [.int .i64 (.ofNat 18), .int .i64 (.ofNat 0), .int .i64 (.ofNat 0), .int .i64 (.ofNat 0), .int .i64 (.ofNat 2)]], .bool true),
  ([.agg [.int .i64 (.ofNat 18), .int .i64 (.ofNat 0), .int .i64 (.ofNat 0), .int .i64 (.ofNat 0), .int .i64 (.ofNat 4)]], .bool true),
  ([.agg [.int .i64 (.ofNat 18), .int .i64 (.ofNat 0), .int .i64 (.ofNat 0), .int .i64 (.ofNat 0), .int .i64 (.ofNat 8)]], .bool true)]
def mm62 : List (List V × V) := [([.agg [.int .i64 (.ofNat 1), .int .i64 (.ofNat 0), .int .i64 (.ofNat 0), .int .i64 (.ofNat 0), .int .i64 (.ofNat 1)]], .tuple [.int .u32 (.ofNat 16777217), .int .i64 (.ofNat 0)]),
  ([.agg [.int .i64 (.ofNat 1), .int .i64 (.ofNat 1), .int .i64 (.ofNat 0), .int .i64 (.ofNat 0), .int .i64 (.ofNat 81)]], .tuple [.int .u32 (.ofNat 17825873), .int .i64 (.ofNat 0)]),
  ([.agg [.int .i64 (.ofNat 1), .int .i64 (.ofNat 2), .int .i64 (.ofNat 0), .int .i64 (.ofNat 0), .int .i64 (.ofNat 42)]], .tuple [.int .u32 (.ofNat 18874410), .int .i64 (.ofNat 0)]),
  ([.agg [.int .i64 (.ofNat 14), .int .i64 (.ofNat 0), .int .i64 (.ofNat 0), .int .i64 (.ofNat 0), .int .i64 (.ofNat 16)]], .tuple [.int .u32 (.ofNat 234881040), .int .i64 (.ofNat 0)]),
  ([.agg [.int .i64 (.ofNat 14), .int .i64 (.ofNat 0), .int .i64 (.ofNat 0), .int .i64 (.ofNat 0), .int .i64 (.ofNat 8)]], .tuple [.int .u32 (.ofNat 234881032), .int .i64 (.ofNat 0)]),
  ([.agg [.int .i64 (.ofNat 18), .int .i64 (.ofNat 0), .int .i64 (.ofNat 0), .int .i64 (.ofNat 0), .int .i64 (.ofNat 2)]], .tuple [.int .u32 (.ofNat 301989890), .int .i64 (.ofNat 0)]),
  ([.agg [.int .i64 (.ofNat 18), .int .i64 (.ofNat 0), .int .i64 (.ofNat 0), .int .i64 (.ofNat 0), .int .i64 (.ofNat 4)]], .tuple [.int .u32 (.ofNat 301989892), .int .i64 (.ofNat 0)]),
  ([.agg [.int .i64 (.ofNat 18), .int .i64 (.ofNat 0), .int .i64 (.ofNat 0), .int .i64 (.ofNat 0), .int .i64 (.ofNat 8)]], .tuple [.int .u32 (.ofNat 301989896), .int .i64 (.ofNat 0)])]
def mm211 : List (List V × V) := [([.int .u32 (.ofNat 16777217)], .tuple [.agg [.int .i64 (.ofNat 1), .int .i64 (.ofNat 0), .int .i64 (.ofNat 0), .int .i64 (.ofNat 0), .int .i64 (.ofNat 1)], .int .i64 (.ofNat 0)]),
  ([.int .u32 (.ofNat 17825873)], .tuple [.agg [.int .i64 (.ofNat 1), .int .i64 (.ofNat 1), .int .i64 (.ofNat 0), .int .i64 (.ofNat 0), .int .i64 (.ofNat 81)], .int .i64 (.ofNat 0)]),
  ([.int .u32 (.ofNat 18874410)], .tuple [.agg [.int .i64 (.ofNat 1), .int .i64 (.ofNat 2), .int .i64 (.ofNat 0), .int .i64 (.ofNat 0), .int .i64 (.ofNat 42)], .int .i64 (.ofNat 0)]),
  ([.int .u32 (.ofNat 301989890)], .tuple [.agg [.int .i64 (.ofNat 18), .int .i64 (.ofNat 0), .int .i64 (.ofNat 0), .int .i64 (.ofNat 0), .int .i64 (.ofNat 2)], .int .i64 (.ofNat 0)]),
  ([.int .u32 (.ofNat 301989892)], .tuple [.agg [.int .i64 (.ofNat 18), .int .i64 (.ofNat 0), .int .i64 (.ofNat 0), .int .i64 (.ofNat 0), .int .i64 (.ofNat 4)], .int .i64 (.ofNat 0)]),
  ([.int .u32 (.ofNat 301989896)], .tuple [.agg [.int .i64 (.ofNat 18), .int .i64 (.ofNat 0), .int .i64 (.ofNat 0), .int .i64 (.ofNat 0), .int .i64 (.ofNat 8)], .int .i64 (.ofNat 0)])]
def tabs1 : List (Nat × List (List V × V)) := [(205, mm205)]
def tabs2 : List (Nat × List (List V × V)) := [(205, mm205), (157, mm157)]
def tabs3 : List (Nat × List (List V × V)) := [(205, mm205), (157, mm157), (104, mm104)]
def tabs4 : List (Nat × List (List V × V)) := [(205, mm205), (157, mm157), (104, mm104), (62, mm62)]
def tabs5 : List (Nat × List (List V × V)) := [(205, mm205), (157, mm157), (104, mm104), (62, mm62), (211, mm211)]
end
end Go.Ev
namespace Go.Ev
noncomputable section
set_option maxRecDepth 100000
def sp1 : Nat → List V → S → Option OR := memoSp (memoOf tabs1)
def sp2 : Nat → List V → S → Option OR := memoSp (memoOf tabs2)
def sp3 : Nat → List V → S → Option OR := memoSp (memoOf tabs3)
def spA : Nat → List V → S → Option OR := mkSp tab 3000 58 132 80 (memoOf tabs5)
def spC : Nat → List V → S → Option OR := enumSp spA tab 3000 329
def i64 (n : Nat) : V := .int .i64 (.ofNat n)
def u32 (n : Nat) : V := .int .u32 (.ofNat n)
def sP : Nat → Nat
  | 1 => 28
  | 2 => 31
  | 3 => 38
  | 4 => 49
  | 5 => 64
  | _ => 0
def wP : Nat → Nat
  | 1 => 30
  | 2 => 37
  | 3 => 48
  | 4 => 63
  | 5 => 82
  | _ => 0
def cP : Nat → List Nat
  | 1 => [1029]
  | 2 => [1036, 1033]
  | 3 => [1047, 1044, 1040]
  | 4 => [1062, 1059, 1055, 1051]
  | 5 => [1081, 1078, 1074, 1070, 1066]
  | _ => []
def sQ : Nat → Nat
  | 1 => 83
  | 2 => 87
  | 3 => 95
  | 4 => 107
  | 5 => 123
  | _ => 0
def wQ : Nat → Nat
  | 1 => 85
  | 2 => 93
  | 3 => 105
  | 4 => 121
  | 5 => 141
  | _ => 0
def cQ : Nat → List Nat
  | 0 => [48]
  | 1 => [1084]
  | 2 => [1092, 1089]
  | 3 => [1104, 1101, 1097]
  | 4 => [1120, 1117, 1113, 1109]
  | 5 => [1140, 1137, 1133, 1129, 1125]
  | _ => []
def vQ (k : Nat) : V := bc (Nat.beq k 0) (i64 0) (.sym (sQ k) .i64)
def uQ (k : Nat) : V := bc (Nat.beq k 0) (u32 18874368) (.sym (wQ k) .u32)
def txt (j k : Nat) : List Nat := app [109, 111, 118, 105, 32, 114, 48, 44, 32, 49, 10, 109, 111, 118, 105, 32, 114, 49, 44, 32] (app (cP j) (app [10, 109, 111, 118, 105, 32, 114, 50, 44, 32] (app (cQ k) [10, 115, 118, 99, 32, 50, 10])))
def litW : List Nat := [104, 101, 114, 101, 58, 32, 115, 118, 99, 32, 56, 10, 106, 109, 112, 32, 104, 101, 114, 101]
def argC : List V := [i64 2, .slice 4 0 3 3]
def blkC (j k : Nat) : List V := [i64 1, .sym (sP j) .i64, vQ k]
def hmC (j k : Nat) : Hm := ⟨argC, [(4, .cells (wr .leaf 0 (blkC j k)))], 5, .str (txt j k)⟩
def cellsC (j k : Nat) : List V := [u32 16777217, .sym (wP j) .u32, uQ k, u32 301989890, u32 301989896, u32 234881040]
def small0 (j k : Nat) : Bool := bc (okX (txt j k)) (bc (Nat.ble (lenN (txt j k)) 1000) (eqTr (wr .leaf 0 (blkC j k)) (wr .leaf 0 (blkC j k))) false) false
def fC (j k : Nat) : Bool := bc (small0 j k) (bc (hmFact tab (plainC tab 3000) 3000 7 (hmC j k)) (nwFact spC tab 3000 10 [.str (app (txt j k) litW)] (cellsC j k)) false) false
def blkW : List V := [i64 1, .sym 12 .i64, .sym 7 .i64]
def hmW : Hm := ⟨argC, [(4, .cells (wr .leaf 0 blkW))], 5, .ssym 0 []⟩
def cellsW : List V := [u32 16777217, .sym 13 .u32, .sym 18 .u32, u32 301989890, u32 301989896, u32 234881040]
def nwW : Nw := ⟨10, [.ssym 0 litW], cellsW⟩
def tabP : List (List V × V) := [([.sym 0 .i64, i64 65536], .sym 7 .i64), ([.sym 1 .i64, i64 4000], .sym 9 .i64), ([.sym 2 .i64, i64 1048576], .sym 10 .i64)]
def tabsW : List (Nat × List (List V × V)) := (6, tabP) :: (5, [([], .bool true)]) :: tabs5
def spW : Nat → List V → S → Option OR := nwSp (mkSp2 (mkSp tab 3000 58 132 80 (memoOf tabsW)) 7 [hmW]) [nwW]
def rowW (b : Bool) : List (List V × V) := [([.sym 0 .i64, .sym 1 .i64, .sym 2 .i64, .bool b], .bool true)]
end
end Go.Ev
