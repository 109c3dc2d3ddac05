import Derived.Test.YtojfbbggnkijeaaGreatDoorZ16
set_option linter.all false
namespace Go.Proofs.YtojfbbggnkijeaaGreatDoor
open Go Go.EV
def snap10:Sm:={hs:=[(16,qr8),(17,qr9),(18,qr4),(19,qr3),(20,qr1),(21,qr10)],n:=22,g:=92,args:=[.agg #[vs 16 0 1 (big-0),vs0,vs 18 0 1 (big-0),vs 21 0 1 (big-0),vn 0]],v:=.agg #[vn 1,vs 6550 0 1 1,vs 6606 0 5 (big-0),vs 6721 0 1 (big-0)],out:=[(6550,qr6),(6606,qr12),(6719,.row true 3 (List.replicate 8 (vn (-1))) (some 1)),(6721,.row true 30 [vs 6719 0 8 (big-0)] (some 1))],n':=6732}
theorem evSays10:snap10.says (runX 31828687132079018525741523008173865709942765180338290132662683176036882418862145141269056 evO10)=true:=by kernel_rfl
theorem evFit10:snap10.fit=true:=by kernel_rfl
noncomputable def evO11:CallF:=orcS snap10 evO10
set_option maxRecDepth 100000 in
theorem evOk11 (w:World):CfOk Tryz.prog w evO11:=orcS_ok (runX_ok (c:=31828687132079018525741523008173865709942765180338290132662683176036882418862145141269056) (evOk10 w)) evFit10 evSays10 (evOk10 w)
def snap11:Sm:={hs:=[(16,qr8),(17,qr9),(18,qr4),(19,qr3),(20,qr1),(21,qr10)],n:=22,g:=40,args:=[.agg #[vs 16 0 1 (big-0),vs0,vs 18 0 1 (big-0),vs 21 0 1 (big-0),vn 0]],v:=.agg #[vn 1,vs 7028 0 1 1,vs 7084 0 5 (big-0),vs 7199 0 1 (big-0)],out:=[(7028,qr6),(7084,qr12),(7197,.row true 3 (List.replicate 8 (vn (-1))) (some 1)),(7199,.row true 30 [vs 7197 0 8 (big-0)] (some 1))],n':=7210}
theorem evSays11:snap11.says (runX 31828687132079018525741523008173865709942765180338290132662688127797039560382145226138176 evO11)=true:=by kernel_rfl
theorem evFit11:snap11.fit=true:=by kernel_rfl
noncomputable def evO12:CallF:=orcS snap11 evO11
set_option maxRecDepth 100000 in
theorem evOk12 (w:World):CfOk Tryz.prog w evO12:=orcS_ok (runX_ok (c:=31828687132079018525741523008173865709942765180338290132662688127797039560382145226138176) (evOk11 w)) evFit11 evSays11 (evOk11 w)
def snap12:Sm:={hs:=[(16,qr8),(17,qr9),(18,qr4),(19,qr3),(20,qr1),(21,qr10)],n:=22,g:=93,args:=[.agg #[vs 16 0 1 (big-0),vs0,vs 18 0 1 (big-0),vs 21 0 1 (big-0),vn 0]],v:=vp 503 0,out:=[(503,.row true 216 [vs 16 0 1 (big-0),vs0,vs 18 0 1 (big-0),vs 21 0 1 (big-0),vn 0,vn 1,vs 7033 0 1 1,vs 7089 0 5 (big-0),vs 7204 0 1 (big-0),vs0,vs 8265 0 1 (big-0)] none),(7033,qr6),(7089,qr12),(7202,.row true 3 (List.replicate 8 (vn (-1))) (some 1)),(7204,.row true 30 [vs 7202 0 8 (big-0)] (some 1)),(8265,.row true 30 [vs0] (some 1))],n':=8266}
theorem evSays12:snap12.says (runX 31828687132079018525741523008173865709942765180338290132662678224276725277341045544772160 evO12)=true:=by kernel_rfl
theorem evFit12:snap12.fit=true:=by kernel_rfl
noncomputable def evO13:CallF:=orcS snap12 evO12
set_option maxRecDepth 100000 in
theorem evOk13 (w:World):CfOk Tryz.prog w evO13:=orcS_ok (runX_ok (c:=31828687132079018525741523008173865709942765180338290132662678224276725277341045544772160) (evOk12 w)) evFit12 evSays12 (evOk12 w)
def snap13:Sm:={hs:=[(16,qr8),(17,qr9),(18,qr4),(19,qr3),(20,qr1),(21,qr10)],n:=22,g:=41,args:=[.agg #[vs 16 0 1 (big-0),vs0,vs 18 0 1 (big-0),vs 21 0 1 (big-0),vn 0]],v:=vs 8267 0 1 1,out:=[(8267,.row true 30 [vs0] (some 1))],n':=8294}
theorem evSays13:snap13.says (runX 31828687132079018525741523008173865709942765180338290132662688127797039560381045714510400 evO13)=true:=by kernel_rfl
theorem evFit13:snap13.fit=true:=by kernel_rfl
noncomputable def evO14:CallF:=orcS snap13 evO13
set_option maxRecDepth 100000 in
theorem evOk14 (w:World):CfOk Tryz.prog w evO14:=orcS_ok (runX_ok (c:=31828687132079018525741523008173865709942765180338290132662688127797039560381045714510400) (evOk13 w)) evFit13 evSays13 (evOk13 w)
def snap14:Sm:={hs:=[(16,qr8),(17,qr9),(18,qr4),(19,qr3),(20,qr1),(21,qr10)],n:=22,g:=42,args:=[.agg #[vs 16 0 1 (big-0),vs0,vs 18 0 1 (big-0),vs 21 0 1 (big-0),vn 0]],v:=vs 8828 0 1 (big-0),out:=[(8827,qr6),(8828,.row true 30 [vs 8827 0 1 (big-0)] (some 1))],n':=8829}
theorem evSays14:snap14.says (runX 31828687132079018525741523008173865709942765180338290132662688127797039560378846691254848 evO14)=true:=by kernel_rfl
theorem evFit14:snap14.fit=true:=by kernel_rfl
noncomputable def evO15:CallF:=orcS snap14 evO14
set_option maxRecDepth 100000 in
theorem evOk15 (w:World):CfOk Tryz.prog w evO15:=orcS_ok (runX_ok (c:=31828687132079018525741523008173865709942765180338290132662688127797039560378846691254848) (evOk14 w)) evFit14 evSays14 (evOk14 w)
end Go.Proofs.YtojfbbggnkijeaaGreatDoor
