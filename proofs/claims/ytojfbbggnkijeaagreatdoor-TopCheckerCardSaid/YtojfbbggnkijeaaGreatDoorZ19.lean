import Derived.Test.YtojfbbggnkijeaaGreatDoorZ18
set_option linter.all false
namespace Go.Proofs.YtojfbbggnkijeaaGreatDoor
open Go Go.EV
def snap16:Sm:={hs:=[(16,qr8),(17,qr9),(18,qr4),(19,qr3),(20,qr1),(21,qr10)],n:=22,g:=187,args:=[.agg #[vs 16 0 1 (big-0),vs0,vs 18 0 1 (big-0),vs 21 0 1 (big-0),vn 0],vn 0],v:=vp 8839 0,out:=[(8828,qr6),(8839,.row true 303 [vs 16 0 1 (big-0),vs0,vs 18 0 1 (big-0),vs 21 0 1 (big-0),vn 0,vn 0,vn 1,vs 15847 0 1 1,vs 15903 0 5 (big-0),vs 16018 0 1 (big-0),vs 8828 0 1 (big-0),vs 31520 0 7 (big-0)] none),(15847,qr6),(15903,qr12),(16016,.row true 3 (List.replicate 8 (vn (-1))) (some 1)),(16018,.row true 30 [vs 16016 0 8 (big-0)] (some 1)),(31361,qr6),(31395,qr6),(31431,qr6),(31465,qr6),(31520,.row true 30 [vs0,vs 31361 0 1 (big-0),vs 31395 0 1 (big-0),vs 31431 0 1 (big-0),vs 31465 0 1 (big-0),vs0,vs0] (some 1))],n':=31521}
theorem evSays16:snap16.says (runX 31828687132079018525741523008173669550513534346564420264243212888221536361775605236687424 evO16)=true:=by kernel_rfl
theorem evFit16:snap16.fit=true:=by kernel_rfl
noncomputable def evO17:CallF:=orcS snap16 evO16
set_option maxRecDepth 100000 in
theorem evOk17 (w:World):CfOk Tryz.prog w evO17:=orcS_ok (runX_ok (c:=31828687132079018525741523008173669550513534346564420264243212888221536361775605236687424) (evOk16 w)) evFit16 evSays16 (evOk16 w)
def snap17:Sm:={hs:=[(16,qr8),(17,qr9),(18,qr4),(19,qr3),(20,qr1),(21,qr10)],n:=22,g:=105,args:=[.agg #[vs 16 0 1 (big-0),vs0,vs 18 0 1 (big-0),vs 21 0 1 (big-0),vn 0],vn 0],v:=vs 31521 0 7 (big-0),out:=[(31362,qr6),(31396,qr6),(31432,qr6),(31466,qr6),(31521,.row true 30 [vs0,vs 31362 0 1 (big-0),vs 31396 0 1 (big-0),vs 31432 0 1 (big-0),vs 31466 0 1 (big-0),vs0,vs0] (some 1))],n':=31522}
theorem evSays17:snap17.says (runX 31828687132079018525741523008173865709942765180338290132622123308589736219535350235193920 evO17)=true:=by kernel_rfl
theorem evFit17:snap17.fit=true:=by kernel_rfl
noncomputable def evO18:CallF:=orcS snap17 evO17
set_option maxRecDepth 100000 in
theorem evOk18 (w:World):CfOk Tryz.prog w evO18:=orcS_ok (runX_ok (c:=31828687132079018525741523008173865709942765180338290132622123308589736219535350235193920) (evOk17 w)) evFit17 evSays17 (evOk17 w)
def snap18:Sm:={hs:=[(16,qr8),(17,qr9),(18,qr4),(19,qr3),(20,qr1),(21,qr10)],n:=22,g:=106,args:=[.agg #[vs 16 0 1 (big-0),vs0,vs 18 0 1 (big-0),vs 21 0 1 (big-0),vn 0],vn 0],v:=vs 31522 0 7 7,out:=[(31522,.row true 30 [vs 31629 0 1 (big-0),vs 31664 0 0 (big-0),vs 31699 0 0 (big-0),vs 31734 0 0 (big-0),vs0,vs0,vs0] (some 1)),(31629,qr6),(31664,qr6),(31699,qr6),(31734,qr6)],n':=31796}
theorem evSays18:snap18.says (runX 31828687132079018525741523008173865709942765180338290132581558489382432878687455732621888 evO18)=true:=by kernel_rfl
theorem evFit18:snap18.fit=true:=by kernel_rfl
noncomputable def evO19:CallF:=orcS snap18 evO18
set_option maxRecDepth 100000 in
theorem evOk19 (w:World):CfOk Tryz.prog w evO19:=orcS_ok (runX_ok (c:=31828687132079018525741523008173865709942765180338290132581558489382432878687455732621888) (evOk18 w)) evFit18 evSays18 (evOk18 w)
def snap19:Sm:={hs:=[(16,qr8),(17,qr9),(18,qr4),(19,qr3),(20,qr1),(21,qr10)],n:=22,g:=15,args:=[.agg #[vs 16 0 1 (big-0),vs0,vs 18 0 1 (big-0),vs 21 0 1 (big-0),vn 0]],v:=.agg #[vs 25286 0 1 (big-0),vs0,vs 89156 0 1 (big-0),vn 0],out:=[(24775,qr6),(25285,.row true 3 [vn (-2)] (some 1)),(25286,.row true 75 [.bool false,vs 25285 0 1 (big-0)] (some 2)),(25392,.row true 3 [vn 0,vn 0,vn (-2),vn (-2)] (some 1)),(88733,qr6),(89071,qr6),(89155,.row true 141 [vn 21,vn 0,vn 0,vn 0,vn 0,vs 88733 0 1 (big-0),vn 11,vn 1,vn 0,vn 0,vn 0,vs0,vn 3,vn 0,vn 1,vn 0,vn 0,vs0,vn 14,vn 2,vn 0,vn 0,vn 0,vs0,vn 7,vn 0,vn 2,vn 0,vn 0,vs0,vn 6,vn 3,vn 0,vn 0,vn 0,vs0,vn 22,vn 0,vn 0,vn 0,vn 0,vs 89071 0 1 (big-0),vn 15,vn 3,vn 0,vn 0,vn 0,vs0,vn 18,vn (-1),vn 0,vn 0,vn 0,vs0] (some 6)),(89156,.row true 80 [vn 0,vs 25392 0 4 (big-0),vn (-3),vs0,vs 24775 0 1 (big-0),vs 89155 0 9 (big-0)] (some 6))],n':=89157}
theorem evSays19:snap19.says (runX 31828687132079018525741523008173865709942765180338290132662688127797039560383244737733184 evO19)=true:=by kernel_rfl
theorem evFit19:snap19.fit=true:=by kernel_rfl
noncomputable def evO20:CallF:=orcS snap19 evO19
set_option maxRecDepth 100000 in
theorem evOk20 (w:World):CfOk Tryz.prog w evO20:=orcS_ok (runX_ok (c:=31828687132079018525741523008173865709942765180338290132662688127797039560383244737733184) (evOk19 w)) evFit19 evSays19 (evOk19 w)
def snap20:Sm:={hs:=[(16,.row false 75 [.bool false,vs 17 0 1 (big-0)] (some 2)),(17,.row false 3 [vn (-2)] (some 1)),(18,qr18),(19,.row false 3 [vn 0,vn 0,vn (-2),vn (-2)] (some 1)),(20,qr21),(21,qr5),(22,qr21),(23,qr21)],n:=24,g:=19,args:=[.agg #[vs 16 0 1 (big-0),vs0,vs 18 0 1 (big-0),vn 0]],v:=.bool true,out:=[],n':=246}
theorem evSays20:snap20.says (runX 31828687132079018525741523008173865709942765180338290132662688127797039560383244737241664 evO20)=true:=by kernel_rfl
theorem evFit20:snap20.fit=true:=by kernel_rfl
noncomputable def evO21:CallF:=orcS snap20 evO20
set_option maxRecDepth 100000 in
theorem evOk21 (w:World):CfOk Tryz.prog w evO21:=orcS_ok (runX_ok (c:=31828687132079018525741523008173865709942765180338290132662688127797039560383244737241664) (evOk20 w)) evFit20 evSays20 (evOk20 w)
def snap21:Sm:={hs:=[(16,.row false 75 [.bool false,vs 17 0 1 (big-0)] (some 2)),(17,.row false 3 [vn (-2)] (some 1)),(18,qr18),(19,.row false 3 [vn 0,vn 0,vn (-2),vn (-2)] (some 1)),(20,qr21),(21,qr5),(22,qr21),(23,qr21)],n:=24,g:=9,args:=[.agg #[vs 16 0 1 (big-0),vs0,vs 18 0 1 (big-0),vn 0]],v:=.tuple #[vs 1326 0 74 (big-0),vn 0],out:=[(1326,qr2)],n':=1327}
theorem evSays21:snap21.says (runX 31828687132079018525741523008173865709942765180338290132662688127797039560383244737765440 evO21)=true:=by kernel_rfl
theorem evFit21:snap21.fit=true:=by kernel_rfl
noncomputable def evO22:CallF:=orcS snap21 evO21
set_option maxRecDepth 100000 in
theorem evOk22 (w:World):CfOk Tryz.prog w evO22:=orcS_ok (runX_ok (c:=31828687132079018525741523008173865709942765180338290132662688127797039560383244737765440) (evOk21 w)) evFit21 evSays21 (evOk21 w)
def snap22:Sm:={hs:=[(0,.tab (List.replicate 9 (.int .u8 0)++[.int .u8 1,.int .u8 1,.int .u8 1,.int .u8 1,.int .u8 1]++List.replicate 18 (.int .u8 0)++[.int .u8 1]++List.replicate 223 (.int .u8 0)))],n:=16,g:=6,args:=[vw qw22],v:=.tuple #[vs 96223 0 74 (big-0),.agg #[vn 0,vn 0]],out:=[(96223,qr2)],n':=96224}
theorem evSays22:snap22.says (runX 31828687132079018525741523008173865709942765180338290132662688127797039560383244737765888 evO22)=true:=by kernel_rfl
end Go.Proofs.YtojfbbggnkijeaaGreatDoor
