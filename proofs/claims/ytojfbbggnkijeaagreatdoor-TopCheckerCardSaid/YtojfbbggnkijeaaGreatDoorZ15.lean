import Derived.Test.YtojfbbggnkijeaaGreatDoorZ14
set_option linter.all false
namespace Go.Proofs.YtojfbbggnkijeaaGreatDoor
open Go Go.EV
noncomputable def evO0:CallF:=baseX
set_option maxRecDepth 100000 in
theorem evOk0 (w:World):CfOk Tryz.prog w evO0:=base_ok w
def snap0:Sm:={hs:=[(0,.tab (List.replicate 9 (.int .u8 0)++[.int .u8 1,.int .u8 1,.int .u8 1,.int .u8 1,.int .u8 1]++List.replicate 18 (.int .u8 0)++[.int .u8 1]++List.replicate 223 (.int .u8 0)))],n:=16,g:=294,args:=[],v:=vs 16 0 18 18,out:=[(16,.row true 9 [vw [114,101,99,111,114,100],vw [103,108,111,98,97,108],vw [102,117,110,99],vw [118,97,114],vw [108,101,116],vw [105,102],vw [101,108,115,101],vw [119,104,105,108,101],vw [114,101,116,117,114,110],vw [112,114,105,110,116],vw [110,117,108,108],vw [110,101,119],vw [108,101,110],vw [114,101,97,100],vw [116,114,117,101],vw [102,97,108,115,101],vw [105,110,116],vw [98,111,111,108]] (some 1))],n':=17}
theorem evSays0:snap0.says (runX 1852673427797059126777331943513571529308036216472993606634831751581108703650368 evO0)=true:=by kernel_rfl
theorem evFit0:snap0.fit=true:=by kernel_rfl
noncomputable def evO1:CallF:=orcS snap0 evO0
set_option maxRecDepth 100000 in
theorem evOk1 (w:World):CfOk Tryz.prog w evO1:=orcS_ok (runX_ok (c:=1852673427797059126777331943513571529308036216472993606634831751581108703650368) (evOk0 w)) evFit0 evSays0 (evOk0 w)
def snap1:Sm:={hs:=[(0,.tab (List.replicate 9 (.int .u8 0)++[.int .u8 1,.int .u8 1,.int .u8 1,.int .u8 1,.int .u8 1]++List.replicate 18 (.int .u8 0)++[.int .u8 1]++List.replicate 223 (.int .u8 0)))],n:=16,g:=156,args:=[],v:=vs 16 0 23 23,out:=[(16,.row true 9 [vw [60,61],vw [61,61],vw [33,61],vw [38,38],vw [124,124],vw [123],vw [125],vw [40],vw [41],vw [91],vw [93],vw [59],vw [58],vw [44],vw [46],vw [61],vw [43],vw [45],vw [42],vw [47],vw [37],vw [60],vw [33]] (some 1))],n':=17}
theorem evSays1:snap1.says (runX 31828687132079018525741523008173865709942673836485956951230300397494994792694516241982016 evO1)=true:=by kernel_rfl
theorem evFit1:snap1.fit=true:=by kernel_rfl
noncomputable def evO2:CallF:=orcS snap1 evO1
set_option maxRecDepth 100000 in
theorem evOk2 (w:World):CfOk Tryz.prog w evO2:=orcS_ok (runX_ok (c:=31828687132079018525741523008173865709942673836485956951230300397494994792694516241982016) (evOk1 w)) evFit1 evSays1 (evOk1 w)
def snap2:Sm:={hs:=[(0,.tab (List.replicate 9 (.int .u8 0)++[.int .u8 1,.int .u8 1,.int .u8 1,.int .u8 1,.int .u8 1]++List.replicate 18 (.int .u8 0)++[.int .u8 1]++List.replicate 223 (.int .u8 0)))],n:=16,g:=27,args:=[vw qw22],v:=.tuple #[vs 220 0 36 (big-0),.agg #[vn 0,vn 0]],out:=[(220,.row true 93 [vn 3,vw [114,101,99,111,114,100],vn 0,vn 0,vn 1,vw [82],vn 0,vn 7,vn 4,vw [123],vn 0,vn 9,vn 1,vw [97],vn 0,vn 11,vn 4,vw [58],vn 0,vn 12,vn 3,vw [105,110,116],vn 0,vn 14,vn 4,vw [59],vn 0,vn 17,vn 4,vw [125],vn 0,vn 19,vn 3,vw [102,117,110,99],vn 0,vn 21,vn 1,vw [109,97,105,110],vn 0,vn 26,vn 4,vw [40],vn 0,vn 30,vn 4,vw [41],vn 0,vn 31,vn 4,vw [123],vn 0,vn 33,vn 3,vw [108,101,116],vn 0,vn 35,vn 1,vw [114],vn 0,vn 39,vn 4,vw [58],vn 0,vn 40,vn 1,vw [82],vn 0,vn 42,vn 4,vw [61],vn 0,vn 44,vn 3,vw [110,101,119],vn 0,vn 46,vn 1,vw [82],vn 0,vn 50,vn 4,vw [59],vn 0,vn 51,vn 1,vw [114],vn 0,vn 53,vn 4,vw [46],vn 0,vn 54,vn 1,vw [97],vn 0,vn 55,vn 4,vw [61],vn 0,vn 57,vn 3,vw [114,101,97,100],vn 0,vn 59,vn 4,vw [40],vn 0,vn 63,vn 4,vw [41],vn 0,vn 64,vn 4,vw [59],vn 0,vn 65,vn 3,vw [112,114,105,110,116],vn 0,vn 67,vn 1,vw [114],vn 0,vn 73,vn 4,vw [46],vn 0,vn 74,vn 1,vw [97],vn 0,vn 75,vn 4,vw [59],vn 0,vn 76,vn 4,vw [125],vn 0,vn 78,vn 0,vw [],vn 0,vn 79] (some 4))],n':=221}
theorem evSays2:snap2.says (runX 31828687132079018525741523008173865709942765180338290132662688127797039560383244603548224 evO2)=true:=by kernel_rfl
theorem evFit2:snap2.fit=true:=by kernel_rfl
noncomputable def evO3:CallF:=orcS snap2 evO2
set_option maxRecDepth 100000 in
theorem evOk3 (w:World):CfOk Tryz.prog w evO3:=orcS_ok (runX_ok (c:=31828687132079018525741523008173865709942765180338290132662688127797039560383244603548224) (evOk2 w)) evFit2 evSays2 (evOk2 w)
def snap3:Sm:={hs:=[(0,.tab (List.replicate 9 (.int .u8 0)++[.int .u8 1,.int .u8 1,.int .u8 1,.int .u8 1,.int .u8 1]++List.replicate 18 (.int .u8 0)++[.int .u8 1]++List.replicate 223 (.int .u8 0)))],n:=16,g:=13,args:=[vw qw22],v:=.tuple #[.agg #[vs 612 0 1 (big-0),vs0,vs 4477 0 1 (big-0)],.agg #[vn 0,vn 0]],out:=[(538,.row true 178 [vw [97],vw [105,110,116],vn 0,vn 11] (some 4)),(612,.row true 173 [vw [82],vs 538 0 1 (big-0),vn 7] (some 3)),(1839,.row true 348 ql27 (some 11)),(2280,.row true 348 ql25 (some 11)),(3496,.row true 348 [vn 5,vn 0,vw [97],vw [],vn 0,vs 2280 0 1 1,vn 54,vn 0,vn 0,vn 0,vn 0,vn 11,vn 0,vw [],vw [],vn 0,vs0,vn 59,vn 0,vn 0,vn 0,vn 0] (some 11)),(3943,.row true 348 ql26 (some 11)),(4390,.row true 348 [vn 5,vn 0,vw [97],vw [],vn 0,vs 3943 0 1 1,vn 74,vn 0,vn 0,vn 0,vn 0] (some 11)),(4393,.row true 281 [vn 2,vw [114],vw [82],vn 0,vs 1839 0 1 1,vs0,vs0,vn 35,vn 0,vn 4,vw [],vw [],vn 0,vs 3496 0 2 2,vs0,vs0,vn 53,vn 0,vn 8,vw [],vw [],vn 0,vs 4390 0 1 1,vs0,vs0,vn 67,vn 0] (some 9)),(4477,.row true 181 [vw [109,97,105,110],vs0,.bool false,vw [],vn 0,vs 4393 0 3 (big-0),vn 26] (some 7))],n':=4497}
theorem evSays3:snap3.says (runX 31828687132079018525741523008173865709942765180338290132662688127797039560383244737757760 evO3)=true:=by kernel_rfl
theorem evFit3:snap3.fit=true:=by kernel_rfl
noncomputable def evO4:CallF:=orcS snap3 evO3
set_option maxRecDepth 100000 in
theorem evOk4 (w:World):CfOk Tryz.prog w evO4:=orcS_ok (runX_ok (c:=31828687132079018525741523008173865709942765180338290132662688127797039560383244737757760) (evOk3 w)) evFit3 evSays3 (evOk3 w)
end Go.Proofs.YtojfbbggnkijeaaGreatDoor
