import Derived.Test.YtojfbbggnkijeaaGreatDoorZ15
set_option linter.all false
namespace Go.Proofs.YtojfbbggnkijeaaGreatDoor
open Go Go.EV
def snap4:Sm:={hs:=[(16,qr20),(17,qr19),(18,qr13),(19,qr7),(20,qr17),(21,qr11),(22,qr15),(23,qr14),(24,qr16)],n:=25,g:=35,args:=[.agg #[vs 16 0 1 (big-0),vs0,vs 18 0 1 (big-0)]],v:=.tuple #[.agg #[vs 113 0 1 (big-0),vs0,vs 131 0 1 (big-0),vn 0,vs 516 0 1 (big-0)],.agg #[vn 0,vn 0]],out:=[(112,.row true 116 [vw [97],vn 1,vn 0,vn 0] (some 4)),(113,.row true 285 [vw [82],vs 112 0 1 (big-0)] (some 2)),(131,.row true 122 [vw [109,97,105,110],vs0,.bool false,vn 0,vn 0,vn 0] (some 6)),(257,.row true 348 [vn 8,vn 0,vw [],vw [82],vn 0,vs0,vn 46,vn 3,vn 0,vn 0,vn 0] (some 11)),(282,.row true 116 [vw [114],vn 3,vn 0,vn 0] (some 4)),(343,.row true 348 [vn 4,vn 0,vw [114],vw [],vn 0,vs0,vn 53,vn 3,vn 0,vn 0,vn 0] (some 11)),(390,.row true 348 [vn 5,vn 0,vw [97],vw [],vn 0,vs 343 0 1 (big-0),vn 54,vn 1,vn 0,vn 0,vn 0,vn 11,vn 0,vw [],vw [],vn 0,vs0,vn 59,vn 1,vn 0,vn 0,vn 0] (some 11)),(466,.row true 348 [vn 4,vn 0,vw [114],vw [],vn 0,vs0,vn 73,vn 3,vn 0,vn 0,vn 0] (some 11)),(492,.row true 348 [vn 5,vn 0,vw [97],vw [],vn 0,vs 466 0 1 (big-0),vn 74,vn 1,vn 0,vn 0,vn 0] (some 11)),(506,.row true 281 [vn 2,vw [114],vw [82],vn 0,vs 257 0 1 (big-0),vs0,vs0,vn 35,vn 0,vn 4,vw [],vw [],vn 0,vs 390 0 2 (big-0),vs0,vs0,vn 53,vn 0,vn 8,vw [],vw [],vn 0,vs 492 0 1 (big-0),vs0,vs0,vn 67,vn 0] (some 9)),(516,.row true 119 [vs 282 0 1 (big-0),vs 506 0 3 (big-0),vn 26] (some 3))],n':=517}
theorem evSays4:snap4.says (runX 31828687132079018525741523008173865709942765180338290132662688127797039560383210378027584 evO4)=true:=by kernel_rfl
theorem evFit4:snap4.fit=true:=by kernel_rfl
noncomputable def evO5:CallF:=orcS snap4 evO4
set_option maxRecDepth 100000 in
theorem evOk5 (w:World):CfOk Tryz.prog w evO5:=orcS_ok (runX_ok (c:=31828687132079018525741523008173865709942765180338290132662688127797039560383210378027584) (evOk4 w)) evFit4 evSays4 (evOk4 w)
def snap5:Sm:={hs:=[(16,qr20),(17,qr19),(18,qr13),(19,qr7),(20,qr17),(21,qr11),(22,qr15),(23,qr14),(24,qr16)],n:=25,g:=36,args:=[.agg #[vs 16 0 1 (big-0),vs0,vs 18 0 1 (big-0)]],v:=.agg #[vn 0,vn 0],out:=[],n':=544}
theorem evSays5:snap5.says (runX 31828687132079018525741523008173865709942765180338290132662688127797039560383176018289216 evO5)=true:=by kernel_rfl
theorem evFit5:snap5.fit=true:=by kernel_rfl
noncomputable def evO6:CallF:=orcS snap5 evO5
set_option maxRecDepth 100000 in
theorem evOk6 (w:World):CfOk Tryz.prog w evO6:=orcS_ok (runX_ok (c:=31828687132079018525741523008173865709942765180338290132662688127797039560383176018289216) (evOk5 w)) evFit5 evSays5 (evOk5 w)
def snap6:Sm:={hs:=[(16,qr20),(17,qr19),(18,qr13),(19,qr7),(20,qr17),(21,qr11),(22,qr15),(23,qr14),(24,qr16)],n:=25,g:=14,args:=[.agg #[vs 16 0 1 (big-0),vs0,vs 18 0 1 (big-0)]],v:=.tuple #[.agg #[vs 116 0 1 (big-0),vs0,vs 1309 0 1 (big-0),vs 1116 0 1 (big-0),vn 0],.agg #[vn 0,vn 0]],out:=[(115,.row true 116 [vw [97],vn 1,vn 0,vn 0] (some 4)),(116,.row true 285 [vw [82],vs 115 0 1 (big-0)] (some 2)),(1116,.row true 219 [vn 0,vn 3,vn 0,vn 0] (some 4)),(1237,.row true 110 ql24 (some 3)),(1292,.row true 141 ql23 (some 6)),(1309,.row true 112 [vn 0,vs 1237 0 4 (big-0),.bool false,vn 0,vn 0,vn 0,vs 1292 0 7 (big-0)] (some 7))],n':=1310}
theorem evSays6:snap6.says (runX 31828687132079018525741523008173865709942765180338290132662688127797039560383244737749568 evO6)=true:=by kernel_rfl
theorem evFit6:snap6.fit=true:=by kernel_rfl
noncomputable def evO7:CallF:=orcS snap6 evO6
set_option maxRecDepth 100000 in
theorem evOk7 (w:World):CfOk Tryz.prog w evO7:=orcS_ok (runX_ok (c:=31828687132079018525741523008173865709942765180338290132662688127797039560383244737749568) (evOk6 w)) evFit6 evSays6 (evOk6 w)
def snap7:Sm:={hs:=[(16,qr8),(17,qr9),(18,qr4),(19,qr3),(20,qr1),(21,qr10)],n:=22,g:=39,args:=[.agg #[vs 16 0 1 (big-0),vs0,vs 18 0 1 (big-0),vs 21 0 1 (big-0),vn 0]],v:=.bool true,out:=[],n':=498}
theorem evSays7:snap7.says (runX 31828687132079018525741523008173865709942765180338290132662688127797039560382694981952064 evO7)=true:=by kernel_rfl
theorem evFit7:snap7.fit=true:=by kernel_rfl
noncomputable def evO8:CallF:=orcS snap7 evO7
set_option maxRecDepth 100000 in
theorem evOk8 (w:World):CfOk Tryz.prog w evO8:=orcS_ok (runX_ok (c:=31828687132079018525741523008173865709942765180338290132662688127797039560382694981952064) (evOk7 w)) evFit7 evSays7 (evOk7 w)
def snap8:Sm:={hs:=[(16,qr8),(17,qr9),(18,qr4),(19,qr3),(20,qr1),(21,qr10),(22,.row false 293 [vn 1,vn 1,vn 0,vn 0,vn 2,vn 0,vn 1,vn 0] (some 4))],n:=23,g:=174,args:=[.agg #[vs 16 0 1 (big-0),vs0,vs 18 0 1 (big-0),vs 21 0 1 (big-0),vn 0],vs 22 0 2 (big-0)],v:=.agg #[vn 1,vs 2549 0 1 1,vs 2605 0 5 (big-0),vs 2720 0 1 (big-0)],out:=[(2549,qr6),(2605,qr12),(2718,.row true 3 (List.replicate 8 (vn (-1))) (some 1)),(2720,.row true 30 [vs 2718 0 8 (big-0)] (some 1))],n':=2722}
theorem evSays8:snap8.says (runX 31828687132079018525741523008173865685997522354308776720813515828573458566340445953647168 evO8)=true:=by kernel_rfl
theorem evFit8:snap8.fit=true:=by kernel_rfl
noncomputable def evO9:CallF:=orcS snap8 evO8
set_option maxRecDepth 100000 in
theorem evOk9 (w:World):CfOk Tryz.prog w evO9:=orcS_ok (runX_ok (c:=31828687132079018525741523008173865685997522354308776720813515828573458566340445953647168) (evOk8 w)) evFit8 evSays8 (evOk8 w)
def snap9:Sm:={hs:=[(16,qr8),(17,qr9),(18,qr4),(19,qr3),(20,qr1),(21,qr10),(22,.row false 293 [vn 1,vn 1,vn 0,vn 0,vn 2,vn 0,vn 1,vn 0,vn 5,vn 0,vn 0,vn 0] (some 4))],n:=23,g:=174,args:=[.agg #[vs 16 0 1 (big-0),vs0,vs 18 0 1 (big-0),vs 21 0 1 (big-0),vn 0],vs 22 0 3 (big-0)],v:=.agg #[vn 1,vs 3209 0 1 1,vs 3265 0 5 (big-0),vs 3380 0 1 (big-0)],out:=[(3209,qr6),(3265,qr12),(3378,.row true 3 (List.replicate 8 (vn (-1))) (some 1)),(3380,.row true 30 [vs 3378 0 8 (big-0)] (some 1))],n':=3382}
theorem evSays9:snap9.says (runX 31828687132079018525741523008173865685997522354308776720813515828573458566340445953647168 evO9)=true:=by kernel_rfl
theorem evFit9:snap9.fit=true:=by kernel_rfl
noncomputable def evO10:CallF:=orcS snap9 evO9
set_option maxRecDepth 100000 in
theorem evOk10 (w:World):CfOk Tryz.prog w evO10:=orcS_ok (runX_ok (c:=31828687132079018525741523008173865685997522354308776720813515828573458566340445953647168) (evOk9 w)) evFit9 evSays9 (evOk9 w)
end Go.Proofs.YtojfbbggnkijeaaGreatDoor
