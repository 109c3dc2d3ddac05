import Derived.Test.YtojfbbggnkijeaaGreatDoorZ13
import Derived.Test.YtojfbbggnkijeaaGreatDoorRows
set_option linter.all false
namespace Go.Proofs.YtojfbbggnkijeaaGreatDoor
open Go Go.EV
theorem eqp_typ:EqP Tryz.prog 110 3 (some .i64):=
 eqP_st Tryz.underlying110 (by kernel_rfl) ⟨by decide,Tryz.underlying3,rfl,by decide,Tryz.underlying3,rfl,by decide,Tryz.underlying3,rfl,trivial⟩ rfl (by kernel_rfl) (by kernel_rfl)
theorem eqp_set:EqP Tryz.prog 443 63 (some .u64):=by
 obtain⟨inf,hinf⟩:=Option.isSome_iff_exists.1 (show (Tryz.prog.info? 226).isSome=true by kernel_rfl);exact eqP_arr Tryz.underlying443 Tryz.underlying226 hinf (by kernel_rfl) (by kernel_rfl) Tryz.sizeOf226
theorem eqp_two:EqP Tryz.prog 512 2 (some .i64):=by
 obtain⟨inf,hinf⟩:=Option.isSome_iff_exists.1 (show (Tryz.prog.info? 3).isSome=true by kernel_rfl);exact eqP_arr Tryz.underlying512 Tryz.underlying3 hinf (by kernel_rfl) (by kernel_rfl) Tryz.sizeOf3
set_option maxRecDepth 100000 in
theorem seqP:SeqP Tryz.prog 256 183 3:=fun w Bs b off cap a zs ha hl hBs hb hc hcs=>
 (callsIn_wide (n:=3)).1 (appendSeq_in Fence.wide 3 trivial trivial rfl (Nat.le_refl _) Bs b off cap a zs ha (by omega) w hBs hb hc hcs)
noncomputable def baseX:CallF:=orcI 293 (orcA 256 183 3 fun _ _ _ _=>none)
set_option maxRecDepth 100000 in
theorem base_ok (w0:World):CfOk Tryz.prog w0 baseX:=
 orcI_ok Tryz.func293 (by kernel_rfl) (by kernel_rfl) (by kernel_rfl) (by kernel_rfl)
  (orcA_ok Tryz.func256 (by kernel_rfl) rfl seqP fun K ρ H w nx g args v H' nx' _ _ _ h=>by cases h)
def eqsX:List (TypeId×IntKind):=[(110,.i64),(443,.u64),(512,.i64)]
def tmX:Nat:=22720832717001694748200573748554779338181070427882406256882473466469581191275559492483260237786714884601264014757452654702197265435893259625165544814843405830980152
def fmX:Nat:=41735730702608894103871395451013778979514150049624483588528594788355130996467889919853998614734280454345249379115908952892765667981484426727376056541760
noncomputable def tysX:Tab TI:=tyT Tryz.prog eqsX tmX
theorem tys_chk:allBits (tyChk Tryz.prog eqsX) tmX 600=true:=by kernel_rfl
theorem fns_chk:allBits (fnChk Tryz.prog) fmX 600=true:=by kernel_rfl
theorem eqc_typ:(tiOf Tryz.prog eqsX 110).map (fun i=>(i.size,i.eqc))=some (3,some .i64):=by kernel_rfl
theorem eqc_set:(tiOf Tryz.prog eqsX 443).map (fun i=>(i.size,i.eqc))=some (63,some .u64):=by kernel_rfl
theorem eqc_two:(tiOf Tryz.prog eqsX 512).map (fun i=>(i.size,i.eqc))=some (2,some .i64):=by kernel_rfl
set_option maxRecDepth 100000 in
theorem tys_ok:TyOk Tryz.prog tysX:=tyOk_tyT (fun t ht=>allBits_ok tys_chk t (bit_lt (n:=600) (Nat.le_of_ble_eq_true (by kernel_rfl)) ht) ht) fun t i hi he=>by
 have hd:t=110\/t=443\/t=512:=by
  unfold tiOf at hi;split at hi
  ·split at hi
   ·cases hi;simp only[eqsX,List.find?_cons,List.find?_nil] at he;rw[nbeq,nbeq,nbeq] at he;by_cases h1:110=t
    ·exact .inl h1.symm
    by_cases h2:443=t
    ·exact .inr (.inl h2.symm)
    by_cases h3:512=t
    ·exact .inr (.inr h3.symm)
    simp[h1,h2,h3] at he
   ·cases hi
  ·cases hi
 rcases hd with rfl|rfl|rfl
 ·have:=eqc_typ;rw[hi] at this;simp at this;rw[this.1,this.2];exact eqp_typ
 ·have:=eqc_set;rw[hi] at this;simp at this;rw[this.1,this.2];exact eqp_set
 ·have:=eqc_two;rw[hi] at this;simp at this;rw[this.1,this.2];exact eqp_two
theorem fns_ok:FnsOk Tryz.prog (fnT Tryz.prog fmX):=fnsOk_of fun g hg=>allBits_ok fns_chk g (bit_lt (n:=600) (Nat.le_of_ble_eq_true (by kernel_rfl)) hg) hg
theorem mixed:Tryz.prog.follows .mixedOrders=true:=by kernel_rfl
noncomputable def ctxX (c:Nat)(o:CallF):Ctx:=⟨tysX,mtT Tryz.prog,cutF (fnT Tryz.prog fmX) c,o⟩
noncomputable def runX (c:Nat)(o:CallF):CallF:=callF (ctxX c o) (ev (ctxX c o) 100000)
set_option maxRecDepth 100000 in
theorem runX_ok {w0:World}{c:Nat}{o:CallF}(h:CfOk Tryz.prog w0 o):CfOk Tryz.prog w0 (runX c o):=call_ok mixed (C:=ctxX c o) tys_ok mthOk_mtT (cutF_ok fns_ok c) h 100000
def vn (x:Int):Value:=.int .i64 x
def vw (l:List UInt8):Value:=.string ⟨⟨l⟩⟩
def vp (b o:Nat):Value:=.pointer (some ⟨b,o,none⟩)
def vs (b o l c:Nat):Value:=.slice (some ⟨b,o,none⟩) l c
def vs0:Value:=.slice none 0 0
def ql23:List Value:=[vn 11,vn 1,vn 0,vn 0,vn 0,vs0,vn 3,vn 0,vn 1,vn 0,vn 0,vs0,vn 14,vn 2,vn 0,vn 0,vn 0,vs0,vn 7,vn 0,vn 2,vn 0,vn 0,vs0,vn 6,vn 3,vn 0,vn 0,vn 0,vs0,vn 15,vn 3,vn 0,vn 0,vn 0,vs0,vn 18,vn (-1),vn 0,vn 0,vn 0,vs0]
def ql24:List Value:=[vn 3,vn 0,vn 0,vn 3,vn 0,vn 0,vn 1,vn 0,vn 0,vn 1,vn 0,vn 0]
def ql25:List Value:=[vn 4,vn 0,vw [114],vw [],vn 0,vs0,vn 53,vn 0,vn 0,vn 0,vn 0]
def ql26:List Value:=[vn 4,vn 0,vw [114],vw [],vn 0,vs0,vn 73,vn 0,vn 0,vn 0,vn 0]
def ql27:List Value:=[vn 8,vn 0,vw [],vw [82],vn 0,vs0,vn 46,vn 0,vn 0,vn 0,vn 0]
def qw22:List UInt8:=[114,101,99,111,114,100,32,82,32,123,32,97,58,32,105,110,116,59,32,125,32,102,117,110,99,32,109,97,105,110,40,41,32,123,32,108,101,116,32,114,58,32,82,32,61,32,110,101,119,32,82,59,32,114,46,97,32,61,32,114,101,97,100,40,41,59,32,112,114,105,110,116,32,114,46,97,59,32,125]
def qr1:AO:=.row false 141 ql23 (some 6)
def qr2:AO:=.row true 5 [.int .u8 2,.int .u8 0,.int .u8 2,.int .u8 3,.int .u8 0,.int .u8 2,.int .u8 0,.int .u8 8,.int .u8 0,.int .u8 0,.int .u8 3,.int .u8 3,.int .u8 5,.int .u8 0,.int .u8 2,.int .u8 0,.int .u8 18,.int .u8 42,.int .u8 0,.int .u8 0,.int .u8 0,.int .u8 0,.int .u8 2,.int .u8 0,.int .u8 22,.int .u8 2,.int .u8 0,.int .u8 0,.int .u8 0,.int .u8 0,.int .u8 6,.int .u8 0,.int .u8 2,.int .u8 0,.int .u8 0,.int .u8 0,.int .u8 28,.int .u8 4,.int .u8 0,.int .u8 0,.int .u8 0,.int .u8 0,.int .u8 14,.int .u8 0,.int .u8 4,.int .u8 0,.int .u8 0,.int .u8 0,.int .u8 12,.int .u8 6,.int .u8 0,.int .u8 0,.int .u8 0,.int .u8 0,.int .u8 44,.int .u8 0,.int .u8 0,.int .u8 0,.int .u8 0,.int .u8 2,.int .u8 0,.int .u8 30,.int .u8 6,.int .u8 0,.int .u8 0,.int .u8 0,.int .u8 0,.int .u8 36,.int .u8 1,.int .u8 0,.int .u8 0,.int .u8 0,.int .u8 0,.int .u8 0] (some 1)
def qr3:AO:=.row false 110 ql24 (some 3)
def qr4:AO:=.row false 112 [vn 0,vs 19 0 4 (big-0),.bool false,vn 0,vn 0,vn 0,vs 20 0 7 (big-0)] (some 7)
def qr5:AO:=.row false 141 [vn 21,vn 0,vn 0,vn 0,vn 0,vs 22 0 1 (big-0),vn 11,vn 1,vn 0,vn 0,vn 0,vs0,vn 3,vn 0,vn 1,vn 0,vn 0,vs0,vn 14,vn 2,vn 0,vn 0,vn 0,vs0,vn 7,vn 0,vn 2,vn 0,vn 0,vs0,vn 6,vn 3,vn 0,vn 0,vn 0,vs0,vn 22,vn 0,vn 0,vn 0,vn 0,vs 23 0 1 (big-0),vn 15,vn 3,vn 0,vn 0,vn 0,vs0,vn 18,vn (-1),vn 0,vn 0,vn 0,vs0] (some 6)
def qr6:AO:=.row true 3 [vn 0] (some 1)
def qr7:AO:=.row false 281 [vn 2,vw [114],vw [82],vn 0,vs 20 0 1 1,vs0,vs0,vn 35,vn 0,vn 4,vw [],vw [],vn 0,vs 21 0 2 2,vs0,vs0,vn 53,vn 0,vn 8,vw [],vw [],vn 0,vs 23 0 1 1,vs0,vs0,vn 67,vn 0] (some 9)
def qr8:AO:=.row false 285 [vw [82],vs 17 0 1 (big-0)] (some 2)
def qr9:AO:=.row false 116 [vw [97],vn 1,vn 0,vn 0] (some 4)
def qr10:AO:=.row false 219 [vn 0,vn 3,vn 0,vn 0] (some 4)
def qr11:AO:=.row false 348 [vn 5,vn 0,vw [97],vw [],vn 0,vs 22 0 1 1,vn 54,vn 0,vn 0,vn 0,vn 0,vn 11,vn 0,vw [],vw [],vn 0,vs0,vn 59,vn 0,vn 0,vn 0,vn 0] (some 11)
def qr12:AO:=.row true 3 [vn 0,vn 0,vn (-1),vn (-1),vn (-1)] (some 1)
def qr13:AO:=.row false 181 [vw [109,97,105,110],vs0,.bool false,vw [],vn 0,vs 19 0 3 (big-0),vn 26] (some 7)
def qr14:AO:=.row false 348 [vn 5,vn 0,vw [97],vw [],vn 0,vs 24 0 1 1,vn 74,vn 0,vn 0,vn 0,vn 0] (some 11)
def qr15:AO:=.row false 348 ql25 (some 11)
def qr16:AO:=.row false 348 ql26 (some 11)
def qr17:AO:=.row false 348 ql27 (some 11)
def qr18:AO:=.row false 80 [vn 0,vs 19 0 4 (big-0),vn (-3),vs0,vs 20 0 1 (big-0),vs 21 0 9 (big-0)] (some 6)
def qr19:AO:=.row false 178 [vw [97],vw [105,110,116],vn 0,vn 11] (some 4)
def qr20:AO:=.row false 173 [vw [82],vs 17 0 1 (big-0),vn 7] (some 3)
def qr21:AO:=.row false 3 [vn 0] (some 1)
end Go.Proofs.YtojfbbggnkijeaaGreatDoor
