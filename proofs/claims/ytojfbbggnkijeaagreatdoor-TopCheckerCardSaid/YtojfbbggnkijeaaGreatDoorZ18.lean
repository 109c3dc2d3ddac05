import Derived.Test.YtojfbbggnkijeaaGreatDoorZ17
set_option linter.all false
namespace Go.Proofs.YtojfbbggnkijeaaGreatDoor
open Go Go.EV
def snap15:Sm:={hs:=[(16,qr3),(17,qr1)],n:=18,g:=260,args:=[.agg #[vn 0,vs 16 0 4 (big-0),.bool false,vn 0,vn 0,vn 0,vs 17 0 7 (big-0)]],v:=vs 12634 0 7 7,out:=[(12634,.row true 30 [vs0,vs 13020 0 1 (big-0),vs 13400 0 1 (big-0),vs 13782 0 2 (big-0),vs 14162 0 1 (big-0),vs 14542 0 1 (big-0),vs0] (some 1)),(13020,.row true 3 [vn 1] (some 1)),(13400,qr6),(13782,.row true 3 [vn 0,vn 2] (some 1)),(14162,qr6),(14542,.row true 3 [vn 3] (some 1))],n':=15293}
theorem evSays15:snap15.says (runX 31828687130226345097944463881396729949803758654685970378012439103165718216256634663526976 evO15)=true:=by kernel_rfl
theorem evFit15:snap15.fit=true:=by kernel_rfl
noncomputable def evO16:CallF:=orcS snap15 evO15
set_option maxRecDepth 100000 in
theorem evOk16 (w:World):CfOk Tryz.prog w evO16:=orcS_ok (runX_ok (c:=31828687130226345097944463881396729949803758654685970378012439103165718216256634663526976) (evOk15 w)) evFit15 evSays15 (evOk15 w)
end Go.Proofs.YtojfbbggnkijeaaGreatDoor
