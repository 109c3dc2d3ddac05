import Derived.Test.YtojfbbggnkijeaaGreatDoorCards
import Derived.JoinedOf
import Derived.SevenTiedAt
set_option linter.all false
namespace Go.Proofs.YtojfbbggnkijeaaGreatDoor
open Go
theorem topChecker_named:Tryz.prog.funcNamed Rows.topCheckerRow.func=some 4:=by kernel_rfl
theorem topChecker_inst:Tryz.f4.isInstance Tryz.prog Rows.topCheckerRow.origin Rows.topCheckerRow.targs:=of_decide_eq_true (by kernel_rfl)
theorem topChecker_wrap:Tryz.f4.isWrapper Tryz.prog Rows.topCheckerRow.wrapper Rows.topCheckerRow.mainSum:=by
 unfold Func.isWrapper;first|(rw[if_pos (by decide +kernel)];kernel_rfl)|(rw[if_neg (by decide +kernel)];exact⟨rfl,rfl⟩)
theorem card_wf:Rows.topCheckerRow.wfByText (OpenSpec.ofChange Rows.topCheckerSpec)=true:=by kernel_rfl
theorem card_main:Tryz.prog.mainIs=some (true,"4f5198dd606f3ccad2fa06530e4cf3ca7caf64e3fc01e343364cf3f3de2a7b50".toList):=by kernel_rfl
theorem card_looks:true=Tryz.prog.looks []:=by kernel_rfl
theorem no_goes:Tryz.prog.funcs.any Func.goes=false:=by kernel_rfl
theorem goes_none {P:Program}(h:P.funcs.any Func.goes=false)(f:FuncId):P.goes f=false:=by
 have key:∀g:FuncId,((P.funcs[g]?).any Func.goes)=false:=fun g=>by
  cases hg:P.funcs[g]? with
  |none=>rfl
  |some fn=>
   rw[Array.any_eq_false] at h;obtain⟨hl,e⟩:=Array.getElem?_eq_some_iff.1 hg;have:=h g hl;rw[e] at this;simpa using this
 unfold Program.goes;rw[h,Bool.and_false,Bool.or_false,List.any_eq_false];exact fun g _=>by rw[key g];simp
theorem card_goes:false=Rows.topCheckerRow.goesBy Tryz.prog:=by
 have h:=goes_none no_goes 4;have hs:Rows.topCheckerRow.start=.entering:=rfl;unfold OpenClaim.goesBy Program.goesAt Program.goesFrom;rw[topChecker_named,hs];simp[h]
theorem card_stand:([22,30,3].all fun u=>!Tryz.prog.wantsStandIn u)=true:=by kernel_rfl
end Go.Proofs.YtojfbbggnkijeaaGreatDoor
