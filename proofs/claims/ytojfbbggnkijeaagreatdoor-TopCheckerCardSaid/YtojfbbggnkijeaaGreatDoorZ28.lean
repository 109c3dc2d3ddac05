import Derived.Test.YtojfbbggnkijeaaGreatDoorZ27
set_option linter.all false
namespace Go.Proofs.YtojfbbggnkijeaaGreatDoor
open Go Go.RR Go.RX Go.GX Go.Api Go.RiseM Go.ReachM Go.RtM
attribute [local irreducible] wpList Code.wp wpPlan Exit.then Exit.inBlock bodyPost NoPanic Went GX.Post Again Meet RowR GX.Own Owns Box Sl Pt Ag MapR Kept Pin wpT GoK AtEnd Both
theorem unit1_spec (bl:Nat)(g:List Int)(n:Int):Does Tryz.prog 194 [.int .i64 n,.pointer (some ⟨bl,0,none⟩)] [Pt (Ty.slice Ty.int) bl 0 g] [] (fun _:Unit=>.bool (decide (n∈g))) (fun _=>[]) (fun _=>[]):=by
 refine enter Tryz.func194 rfl Tryz.ntmps194 rfl fun b=>?_;refine w_ ?_;intros;refine nmS 4 ?_;rintro ao cap rfl rfl;refine GX.o (cl (contains_spec ao cap g n) fun _=>?_);refine w_ ?_;intros;exact rt1 () rfl
theorem unit2_spec (bt bo bg:Nat)(t:RTg)(o g:List Int)(n:Int):Does Tryz.prog 195 [.int .i64 n,.pointer (some ⟨bt,0,none⟩),.pointer (some ⟨bo,0,none⟩),.pointer (some ⟨bg,0,none⟩)] [Pt tyRTg bt 0 t,Pt (Ty.slice Ty.int) bo 0 o,Pt (Ty.slice Ty.int) bg 0 g] [] (fun _:Unit=>.bool (decide (IsClass t n/\n∉o/\n∉g))) (fun _=>[]) (fun _=>[]):=by
 refine enter Tryz.func195 rfl Tryz.ntmps195 rfl fun b=>?_;refine w_ ?_;intros;refine GX.o (cl (isClass_spec _ t n) fun _=>?_);by_cases h1:IsClass t n
 ·refine w_ ?_;intros;refine nmS 10 ?_;rintro ao cap rfl rfl;refine GX.o (cl (contains_spec ao cap o n) fun _=>?_);by_cases h2:n∈o
  ·have h2':=Classical.not_not.2 h2;refine w_ ?_;intros;exact rt1 () (vN fun h=>h.2.1 h2)
  ·refine w_ ?_;intros;refine nmS 16 ?_;rintro ag cag rfl rfl;refine GX.o (cl (contains_spec ag cag g n) fun _=>?_);refine w_ ?_;intros;exact rt1 () (vI ⟨fun h=>h.2.2,fun h=>⟨h1,h2,h⟩⟩)
 ·refine w_ ?_;intros;exact rt1 () (vN fun h=>h1 h.1)
theorem layouts_spec (cs:List Value)(t:RTg):Does Tryz.prog 50 [.agg cs.toArray] [Ag tyRTg cs t] [] (fun _:Unit=>.bool (decide (∀L∈t.classes,LayoutOk t L))) (fun _=>[]) (fun _=>[]):=by
 refine enter Tryz.func50 rfl Tryz.ntmps50 rfl fun b=>?_;refine w_ ?_;intros;refine nmP 1 ?_;rintro b1 rfl;refine nmS 6 ?_;rintro aC cC rfl rfl;refine GX.loop (σ:=Nat) (fun i=>[(1,.pointer (some ⟨b1,0,none⟩)),(6,.slice aC t.classes.length cC),(7,.int .i64 (t.classes.length:Int)),(8,.int .i64 (i:Int))]) (fun _=>[]) (fun _=>[])
  (fun i=>i<=t.classes.length/\∀L∈t.classes.take i,LayoutOk t L) (fun i=>t.classes.length-i) 0 ⟨rfl,rfl,rfl,rfl,trivial⟩ ⟨by omega,by simp⟩ (fun i hi=>?_)
 obtain⟨hi,hA⟩:=hi;by_cases hlt:i<t.classes.length
 ·obtain⟨L,hL⟩:=get_lt hlt;have hm:=List.mem_of_getElem? hL;have next:LayoutOk t L->∀K∈t.classes.take (i+1),LayoutOk t K:=fun h K hK=>by
   rw[List.take_add_one,hL,List.mem_append] at hK
   rcases hK with hK|hK
   ·exact hA K hK
   ·simp at hK;subst hK;exact h
  by_cases h1:8<(L.refs.length:Int)
  ·refine w_ ?_;intros;exact rt1 () (vN fun h=>by have:=(h L hm).1;omega)
  by_cases h2:L.arr=true
  ·by_cases h3:(L.refs.length:Int)=1
   ·have h3':=Classical.not_not.2 h3;refine w_ ?_;intros;refine nmS 29 ?_;rintro aR cR rfl rfl;refine GX.o (cl (entries_spec _ t aR cR L.refs) fun _=>?_);by_cases h4:Entries t L.refs
    ·have h4':=Classical.not_not.2 h4;refine w_ ?_;intros;exact again (i+1) ⟨rfl,rfl,rfl,rfl,trivial⟩ ⟨by omega,next ⟨by omega,fun _=>by omega,h4⟩⟩ (by omega)
    ·refine w_ ?_;intros;exact rt1 () (vN fun h=>h4 (h L hm).2.2)
   ·refine w_ ?_;intros;exact rt1 () (vN fun h=>h3 (by have:=(h L hm).2.1 h2;omega))
  ·have h2':L.arr=false:=by simpa using h2
   refine w_ ?_;intros;refine nmS 29 ?_;rintro aR cR rfl rfl;refine GX.o (cl (entries_spec _ t aR cR L.refs) fun _=>?_);by_cases h4:Entries t L.refs
   ·have h4':=Classical.not_not.2 h4;refine w_ ?_;intros;exact again (i+1) ⟨rfl,rfl,rfl,rfl,trivial⟩ ⟨by omega,next ⟨by omega,fun h=>absurd h h2,h4⟩⟩ (by omega)
   ·refine w_ ?_;intros;exact rt1 () (vN fun h=>h4 (h L hm).2.2)
 ·have hil:i=t.classes.length:=by omega
  subst hil;rw[List.take_length] at hA;refine w_ ?_;intros;exact rt1 () (vY hA)
theorem upP_dec {Q:Int->Prop}[DecidablePred Q](l:List Int):UpP (fun n=>decide (Q n)) l<->Rise l/\∀n∈l,Q n:=by simp[UpP]
def HdA (t:RTg)(u:Unt):Prop:=(0<=u.params/\u.params<=6/\u.params<=(u.vars.length:Int)/\u.vars.length<=4000)/\Entries t u.vars/\(u.result=-3\/IsEntry t u.result)/\u.ins≠[]
instance (t:RTg)(u:Unt):Decidable (HdA t u):=by unfold HdA;infer_instance
theorem outU_spec (cs:List Value)(t:RTg)(hs:Small t)(k:Nat)(u:Unt)(hu:t.units[k]?=some u):Does Tryz.prog 54 [.agg cs.toArray,.int .i64 (k:Int)] [Ag tyRTg cs t] []
  (fun s:Option Addr×Nat=>.slice s.1 (outOf t u).length s.2) (fun s=>[Sl Ty.int s.1 s.2 (outOf t u)]) (fun _=>[]):=by
 have:=out_spec cs t hs k;rw[out_some hu] at this;exact this
structure UnS where
 b6:Nat
 b7:Nat
set_option maxHeartbeats 2000000 in
theorem unit_spec (cs:List Value)(t:RTg)(hs:Small t)(k:Nat)(u:Unt)(hu:t.units[k]?=some u):Does Tryz.prog 112 [.agg cs.toArray,.int .i64 (k:Int)] [Ag tyRTg cs t] [] (fun _:Unit=>.bool (decide (UnitOk t u))) (fun _=>[]) (fun _=>[]):=by
 refine enter Tryz.func112 rfl Tryz.ntmps112 rfl fun b=>?_;have hkl:=(List.getElem?_eq_some_iff.1 hu).1;have hur:=hs.unit u (List.mem_of_getElem? hu);refine w_ ?_ 3;intros;apply GX.region;refine w_ ?_ 3;intros;apply GX.region;refine w_ ?_ 3;intros;refine nmP 2 ?_;rintro b2 rfl;refine nmP 5 ?_;rintro b5 rfl;refine frzB b5 ?_;refine GX.cut (σ:=Bool) (fun p=>[(1,.int .i64 (k:Int)),(2,.pointer (some ⟨b2,0,none⟩)),(5,.pointer (some ⟨b5,0,none⟩)),(64,.bool p)]) (fun _=>[]) (fun _=>[]) (fun p=>p=decide (¬ HdA t u)) ?_ (fun p hp=>?_)
 ·by_cases h1:u.params<0
  ·refine w_ ?_;intros;exact meet true ⟨rfl,rfl,rfl,rfl,trivial⟩ (decide_eq_true (show ¬ HdA t u from fun h=>by have:=h.1.1;omega)).symm
  by_cases h2:6<u.params
  ·refine w_ ?_;intros;exact meet true ⟨rfl,rfl,rfl,rfl,trivial⟩ (decide_eq_true (show ¬ HdA t u from fun h=>by have:=h.1.2.1;omega)).symm
  by_cases h3:(u.vars.length:Int)<u.params
  ·refine w_ ?_;intros;exact meet true ⟨rfl,rfl,rfl,rfl,trivial⟩ (decide_eq_true (show ¬ HdA t u from fun h=>by have:=h.1.2.2.1;omega)).symm
  by_cases h4:4000<(u.vars.length:Int)
  ·refine w_ ?_;intros;exact meet true ⟨rfl,rfl,rfl,rfl,trivial⟩ (decide_eq_true (show ¬ HdA t u from fun h=>by have:=h.1.2.2.2;omega)).symm
  refine w_ ?_;intros;refine nmS 43 ?_;rintro aV cV rfl rfl;refine GX.o (cl (entries_spec _ t aV cV u.vars) fun _=>?_);by_cases h5:Entries t u.vars
  ·have h5':=Classical.not_not.2 h5;have ei:(u.ins.length:Int)=0<->u.ins=[]:=by rw[<- List.length_eq_zero_iff];omega
   by_cases h6:u.result=-3
   ·have h6':=Classical.not_not.2 h6;refine w_ ?_;intros;refine meet _ ⟨rfl,rfl,rfl,rfl,trivial⟩ (decide_eq_decide.2 (ei.trans ⟨fun h7 h=>h.2.2.2 h7,fun h=>Classical.byContradiction fun h7=>h ⟨by omega,h5,.inl h6,h7⟩⟩))
   ·refine w_ ?_;intros;refine GX.o (cl (isEntry_spec _ t u.result) fun _=>?_);by_cases h7:IsEntry t u.result
    ·have h7':=Classical.not_not.2 h7;refine w_ ?_;intros;refine meet _ ⟨rfl,rfl,rfl,rfl,trivial⟩ (decide_eq_decide.2 (ei.trans ⟨fun h7 h=>h.2.2.2 h7,fun h=>Classical.byContradiction fun h8=>h ⟨by omega,h5,.inr h7,h8⟩⟩))
    ·refine w_ ?_;intros;exact meet true ⟨rfl,rfl,rfl,rfl,trivial⟩ (decide_eq_true (show ¬ HdA t u from fun h=>h.2.2.1.elim h6 h7)).symm
  ·refine w_ ?_;intros;exact meet true ⟨rfl,rfl,rfl,rfl,trivial⟩ (decide_eq_true (show ¬ HdA t u from fun h=>h5 h.2.1)).symm
 refine GX.csb (fun hpt=>?_) (fun hpf=>?_)
 ·have hH:¬ HdA t u:=of_decide_eq_true (hp.symm.trans hpt);refine w_ ?_;intros;exact rt1 () (vN fun h=>hH ⟨h.1.1,h.1.2.1,h.1.2.2.1,h.1.2.2.2.1⟩)
 have hH:HdA t u:=Classical.not_not.1 (of_decide_eq_false (hp.symm.trans hpf));refine w_ ?_ 3;intros;refine GX.cut (σ:=UnS) (fun s=>[(1,.int .i64 (k:Int)),(2,.pointer (some ⟨b2,0,none⟩)),(5,.pointer (some ⟨b5,0,none⟩)),(6,.pointer (some ⟨s.b6,0,none⟩)),(7,.pointer (some ⟨s.b7,0,none⟩))]) (fun _=>[])
  (fun s=>[Box 30 (Ty.slice Ty.int) s.b6 (outOf t u),Box 30 (Ty.slice Ty.int) s.b7 (glob t)]) (fun _=>True) ?_ (fun s _=>?_)
 ·refine GX.drawnT (fun j=>!(List.contains [4,7,8] j)) (.br [(0,true),(1,true),(3,true)] (.alt 2 (.br [] (.alt 4 (.br [] (.alt 5 (.lin [(6,false),(7,false),(8,false)]) (.alt 6 (.lin [(5,false),(7,false),(8,false)]) .nil))) (.alt 5 (.br [] (.alt 4 (.lin [(6,false),(7,false),(8,false)]) (.alt 6 (.lin [(4,false),(7,false),(8,false)]) .nil))) (.alt 6 (.br [] (.alt 4 (.lin [(5,false),(7,false),(8,false)]) (.alt 5 (.lin [(4,false),(7,false),(8,false)]) .nil))) .nil)))) (.alt 5 (.br [] (.alt 2 (.br [] (.alt 4 (.lin [(6,false),(7,false),(8,false)]) (.alt 6 (.lin [(4,false),(7,false),(8,false)]) .nil))) (.alt 6 (.lin [(2,false),(4,false),(7,false),(8,false)]) .nil))) (.alt 6 (.br [] (.alt 2 (.br [] (.alt 4 (.lin [(5,false),(7,false),(8,false)]) (.alt 5 (.lin [(4,false),(7,false),(8,false)]) .nil))) (.alt 5 (.lin [(2,false),(4,false),(7,false),(8,false)]) .nil))) .nil)))) (by kernel_rfl) (by kernel_rfl) ?_;intro wd F hW hR;refine u_ ?_;intros
  repeat' first
   |(refine GX.treeA ?_ ?_<;>(refine u_ ?_;intros))
   |(refine gok ?_;refine (cl (outU_spec _ t hs k u hu) fun s=>?_);refine u_ ?_;intros)
   |(refine gok ?_;refine (cl (global_spec _ t hs) fun s=>?_);refine u_ ?_;intros)
   |(refine GX.gow ?_;refine (cl (outU_spec _ t hs k u hu) fun s=>?_);refine u_ ?_;intros)
   |(refine GX.gow ?_;refine (cl (global_spec _ t hs) fun s=>?_);refine u_ ?_;intros)
   |(refine w_ ?_;intros;exact meet ⟨_,_⟩ ⟨rfl,rfl,rfl,rfl,rfl,trivial⟩ trivial)
 obtain⟨b6,b7⟩:=s;dsimp only;refine frzB b6 ?_;refine frzB b7 ?_;refine w_ ?_;intros;refine nmS 71 ?_;rintro aT cT rfl rfl;refine GX.o (cl (rising_spec aT cT u.takes 194 [.pointer (some ⟨b6,0,none⟩)] [Pt (Ty.slice Ty.int) b6 0 (outOf t u)] [] (fun n=>decide (n∈outOf t u)) (fun n _=>unit1_spec b6 (outOf t u) n)) fun _=>?_);refine w_ ?_;intros;refine nmS 75 ?_;rintro aO cO rfl rfl;refine GX.o (cl (rising_spec aO cO u.owns 195 [.pointer (some ⟨b2,0,none⟩),.pointer (some ⟨b6,0,none⟩),.pointer (some ⟨b7,0,none⟩)] [Pt tyRTg b2 0 t,Pt (Ty.slice Ty.int) b6 0 (outOf t u),Pt (Ty.slice Ty.int) b7 0 (glob t)] [] (fun n=>decide (IsClass t n/\n∉outOf t u/\n∉glob t)) (fun n _=>unit2_spec b2 b6 b7 t (outOf t u) (glob t) n)) fun _=>?_);have e1:=upP_dec (Q:=fun n=>n∈outOf t u) u.takes;have e2:=upP_dec (Q:=fun n=>IsClass t n/\n∉outOf t u/\n∉glob t) u.owns;by_cases h1:UpP (fun n=>decide (n∈outOf t u)) u.takes
 ·have h1':=Classical.not_not.2 h1;by_cases h2:UpP (fun n=>decide (IsClass t n/\n∉outOf t u/\n∉glob t)) u.owns
  ·have h2':=Classical.not_not.2 h2;refine w_ ?_;intros;refine nmS 85 ?_;rintro aI cI rfl rfl;refine GX.loop (σ:=Nat) (fun i=>[(2,.pointer (some ⟨b2,0,none⟩)),(5,.pointer (some ⟨b5,0,none⟩)),(85,.slice aI u.ins.length cI),(86,.int .i64 (u.ins.length:Int)),(87,.int .i64 (i:Int))]) (fun _=>[]) (fun _=>[])
    (fun i=>i<=u.ins.length/\∀x∈u.ins.take i,Bare x/\Fits t u x) (fun i=>u.ins.length-i) 0 ⟨rfl,rfl,rfl,rfl,rfl,trivial⟩ ⟨by omega,by simp⟩ (fun i hi=>?_)
   obtain⟨hi,hA⟩:=hi;by_cases hlt:i<u.ins.length
   ·obtain⟨x,hx⟩:=get_lt hlt;refine w_ ?_;intros;refine GX.o (cl (bare_spec _ x) fun _=>?_);by_cases h3:Bare x
    ·have h3':=Classical.not_not.2 h3;refine w_ ?_;intros;refine GX.o (bdv fun cv=>?_);refine w_ ?_;intros;refine GX.o (cl (fits_spec cv ⟨t,u,x⟩) fun _=>?_);by_cases h4:Fits t u x
     ·have h4':=Classical.not_not.2 h4;refine w_ ?_;intros;refine again (i+1) ⟨rfl,rfl,rfl,rfl,rfl,trivial⟩ ⟨by omega,fun y hy=>?_⟩ (by omega);rw[List.take_add_one,hx,List.mem_append] at hy
      rcases hy with hy|hy
      ·exact hA y hy
      ·simp at hy;subst hy;exact⟨h3,h4⟩
     ·refine w_ ?_;intros;exact rt1 () (vN fun h=>h4 (h.2 x (List.mem_of_getElem? hx)).2)
    ·refine w_ ?_;intros;exact rt1 () (vN fun h=>h3 (h.2 x (List.mem_of_getElem? hx)).1)
   ·rw[List.take_of_length_le (by omega)] at hA;have hne:u.ins.length≠0:=fun h=>hH.2.2.2 (List.length_eq_zero_iff.1 h);obtain⟨m,hm⟩:∃m,u.ins.length=m+1:=⟨u.ins.length-1,by omega⟩;obtain⟨x,hx⟩:=get_lt (show m<u.ins.length by omega);have hlo:lastOp u=x.op:=by unfold lastOp;rw[hm,Nat.add_sub_cancel,hx]
    have all:(x.op=16\/x.op=17\/x.op=18)<->UnitOk t u:=⟨fun h=>⟨⟨hH.1,hH.2.1,hH.2.2.1,hH.2.2.2,e1.1 h1,e2.1 h2,by rw[hlo];exact h⟩,hA⟩,fun h=>by rw[<- hlo];exact h.1.2.2.2.2.2.2⟩;by_cases g1:x.op=16
    ·refine w_ ?_;intros;exact rt1 () (vY (all.1 (.inl g1)))
    ·by_cases g2:x.op=17
     ·refine w_ ?_;intros;exact rt1 () (vY (all.1 (.inr (.inl g2))))
     ·refine w_ ?_;intros;exact rt1 () (vI (all.symm.trans ⟨fun h=>h.elim (fun h=>absurd h g1) fun h=>h.elim (fun h=>absurd h g2) id,fun h=>.inr (.inr h)⟩))
  ·refine w_ ?_;intros;exact rt1 () (vN fun h=>h2 (e2.2 h.1.2.2.2.2.2.1))
 ·refine w_ ?_;intros;exact rt1 () (vN fun h=>h1 (e1.2 h.1.2.2.2.2.1))
theorem units_spec (cs:List Value)(t:RTg)(hs:Small t):Does Tryz.prog 52 [.agg cs.toArray] [Ag tyRTg cs t] [] (fun _:Unit=>.bool (decide (UnitsOk t))) (fun _=>[]) (fun _=>[]):=by
 refine enter Tryz.func52 rfl Tryz.ntmps52 rfl fun b=>?_;refine w_ ?_;intros;refine nmP 1 ?_;rintro b1 rfl;refine nmS 7 ?_;rintro aU cU rfl rfl;refine GX.loop (σ:=Nat) (fun i=>[(1,.pointer (some ⟨b1,0,none⟩)),(3,.int .i64 ((insOf (t.units.take i):Nat):Int)),(7,.slice aU t.units.length cU),(8,.int .i64 (t.units.length:Int)),(9,.int .i64 (i:Int))]) (fun _=>[]) (fun _=>[])
  (fun i=>i<=t.units.length/\insOf (t.units.take i)<=16000/\∀u∈t.units.take i,UnitOk t u) (fun i=>t.units.length-i) 0 ⟨rfl,rfl,rfl,rfl,rfl,trivial⟩ ⟨by omega,by simp[insOf],by simp⟩ (fun i hi=>?_)
 obtain⟨hi,hn,hA⟩:=hi;by_cases hlt:i<t.units.length
 ·obtain⟨u,hu⟩:=get_lt hlt;have hm:=List.mem_of_getElem? hu;have hul:=(hs.unit u hm).2;have ht:t.units.take (i+1)=t.units.take i++[u]:=by rw[List.take_add_one,hu];rfl
  have hsn:((insOf (t.units.take i):Nat):Int)+(u.ins.length:Int)=((insOf (t.units.take (i+1)):Nat):Int):=by rw[ht,insOf_snoc];omega
  have hle:=insOf_take t.units (i+1);refine w_ ?_;intros;rw[hsn];by_cases h1:16000<((insOf (t.units.take (i+1)):Nat):Int)
  ·refine w_ ?_;intros;exact rt1 () (vN fun h=>by have:=h.1;omega)
  ·refine w_ ?_;intros;refine GX.o (cl (unit_spec _ t hs i u hu) fun _=>?_);by_cases h2:UnitOk t u
   ·have h2':=Classical.not_not.2 h2;refine w_ ?_;intros;refine again (i+1) ⟨rfl,rfl,rfl,rfl,rfl,trivial⟩ ⟨by omega,by omega,fun x hx=>?_⟩ (by omega);rw[ht,List.mem_append,List.mem_singleton] at hx
    rcases hx with hx|hx
    ·exact hA x hx
    ·subst hx;exact h2
   ·refine w_ ?_;intros;exact rt1 () (vN fun h=>h2 (h.2 u hm))
 ·have hil:i=t.units.length:=by omega
  subst hil;rw[List.take_length] at hA hn;refine w_ ?_;intros;exact rt1 () (vY ⟨hn,hA⟩)
theorem right_spec (cs:List Value)(t:RTg)(hs:Small t):Does Tryz.prog 19 [.agg cs.toArray] [Ag tyRTg cs t] [] (fun _:Unit=>.bool (decide (RightP t))) (fun _=>[]) (fun _=>[]):=by
 refine enter Tryz.func19 rfl Tryz.ntmps19 rfl fun b=>?_;by_cases h1:60<(t.classes.length:Int)
 ·refine w_ ?_;intros;exact rt1 () (vN fun h=>by have:=h.1.1;omega)
 by_cases h2:8<(t.globals.length:Int)
 ·refine w_ ?_;intros;exact rt1 () (vN fun h=>by have:=h.1.2.1;omega)
 by_cases h3:(t.units.length:Int)=0
 ·refine w_ ?_;intros;exact rt1 () (vN fun h=>by have:=h.1.2.2.1;omega)
 by_cases h4:16<(t.units.length:Int)
 ·refine w_ ?_;intros;exact rt1 () (vN fun h=>by have:=h.1.2.2.2;omega)
 by_cases h5:t.main<0
 ·have e:¬ MainOk t:=by unfold MainOk;rw[gt_out (.inl h5)];exact id
  refine w_ ?_;intros;exact rt1 () (vN fun h=>e h.2.1)
 by_cases h6:(t.units.length:Int)<=t.main
 ·have e:¬ MainOk t:=by unfold MainOk;rw[gt_out (.inr h6)];exact id
  refine w_ ?_;intros;exact rt1 () (vN fun h=>e h.2.1)
 obtain⟨u,hu,k,hk,hkl,hu2⟩:=gt_in (l:=t.units) (n:=t.main) ⟨by omega,by omega⟩;have e:MainOk t<->u.params=0/\u.result=-3:=by unfold MainOk;rw[hu]
 by_cases h7:u.params=0
 ·by_cases h8:u.result=-3
  ·refine w_ ?_;intros;refine GX.o (cl (layouts_spec _ t) fun _=>?_);by_cases h9:∀L∈t.classes,LayoutOk t L
   ·refine w_ ?_;intros;refine nmS 60 ?_;rintro aG cG rfl rfl;refine GX.o (cl (entries_spec _ t aG cG t.globals) fun _=>?_);by_cases h10:Entries t t.globals
    ·refine w_ ?_;intros;refine GX.o (cl (units_spec _ t hs) fun _=>?_);refine w_ ?_;intros;exact rt1 () (vI ⟨fun h=>h.2.2.2.2,fun h=>⟨⟨by omega,by omega,by omega,by omega⟩,e.2 ⟨h7,h8⟩,h9,h10,h⟩⟩)
    ·refine w_ ?_;intros;exact rt1 () (vN fun h=>h10 h.2.2.2.1)
   ·refine w_ ?_;intros;exact rt1 () (vN fun h=>h9 h.2.2.1)
  ·refine w_ ?_;intros;exact rt1 () (vN fun h=>h8 (e.1 h.2.1).2)
 ·refine w_ ?_;intros;exact rt1 () (vN fun h=>h7 (e.1 h.2.1).1)
end Go.Proofs.YtojfbbggnkijeaaGreatDoor
namespace Go.Proofs.YtojfbbggnkijeaaGreatDoor
open Go Go.RR Go.RX Go.GX Go.Api Go.NumM Go.RtM
attribute [local irreducible] wpList Code.wp wpPlan Exit.then Exit.inBlock bodyPost NoPanic Went GX.Post Again Meet RowR GX.Own Owns Box Sl Pt Ag MapR Kept Pin wpT GoK AtEnd Both
theorem i64_len {n:Nat}(h:n<=9223372036854775807):∀x∈[(n:Int)],I64 x:=by intro x hx;simp at hx;subst hx;exact⟨by omega,by omega⟩
theorem i64_one {y:Int}(h:I64 y):∀x∈[y],I64 x:=by intro x hx;simp at hx;subst hx;exact h
set_option maxHeartbeats 1000000 in
theorem wunit_spec (p:Nat)(c:AC)(B:List Int)(cs:List Value)(u:Unt)(hu:Unt.ok u)(hb:(B++encU u).length<=1000000000):
  Does Tryz.prog 23 [.pointer (some ⟨p,0,none⟩),.agg cs.toArray] [Ag tyUnt cs u] [RowR p 72 [.slice c.1 B.length c.2],GX.Own 5 Ty.byte c.1 c.2 B] (fun _:AC=>.tuple #[]) (fun _=>[]) (fun r=>[RowR p 72 [.slice r.1 (B++encU u).length r.2],GX.Own 5 Ty.byte r.1 r.2 (B++encU u)]):=by
 refine enter Tryz.func23 rfl Tryz.ntmps23 rfl fun b=>?_;obtain⟨u1,u2,u3,u4,u5,u6⟩:=hu;have hb2:=hb;unfold encU at hb2;simp only[List.length_append] at hb2;refine w_ ?_;intros;refine nmP 3 ?_;rintro b3 rfl;refine nmB 9 ?_;rintro b9 rfl;refine GX.o (cl (wnums_spec p c B (some ⟨b9,0,none⟩) 1 [u.params] (i64_one u1) (by rw[encs_one];simp only[List.length_append];omega)) fun s1=>?_);rw[encs_one];refine w_ ?_;intros;refine nmS 13 ?_;rintro a13 c13 rfl rfl;refine GX.o (cl (wlist_spec p s1 (B++num u.params) a13 c13 u.vars u2 (by simp only[List.length_append];omega)) fun s2=>?_);refine w_ ?_;intros;refine nmB 18 ?_;rintro b18 rfl;refine GX.o (cl (wnums_spec p s2 (B++num u.params++encL u.vars) (some ⟨b18,0,none⟩) 1 [u.result] (i64_one u3) (by rw[encs_one];simp only[List.length_append];omega)) fun s3=>?_);rw[encs_one];refine w_ ?_;intros;refine nmS 22 ?_;rintro a22 c22 rfl rfl;refine GX.o (cl (wlist_spec p s3 (B++num u.params++encL u.vars++num u.result) a22 c22 u.takes u4 (by simp only[List.length_append];omega)) fun s4=>?_);refine w_ ?_;intros;refine nmS 26 ?_;rintro a26 c26 rfl rfl;refine GX.o (cl (wlist_spec p s4 (B++num u.params++encL u.vars++num u.result++encL u.takes) a26 c26 u.owns u5 (by simp only[List.length_append];omega)) fun s5=>?_);refine w_ ?_;intros;refine nmB 32 ?_;rintro b32 rfl;refine GX.o (cl (wnums_spec p s5 (B++num u.params++encL u.vars++num u.result++encL u.takes++encL u.owns) (some ⟨b32,0,none⟩) 1 [(u.ins.length:Int)] (i64_len (by omega)) (by rw[encs_one];simp only[List.length_append];omega)) fun s6=>?_);rw[encs_one];obtain⟨P0,hP0⟩:∃P0,P0=B++num u.params++encL u.vars++num u.result++encL u.takes++encL u.owns++num (u.ins.length:Int):=⟨_,rfl⟩;have hfin:B++encU u=P0++u.ins.flatMap encI:=by rw[hP0];unfold encU;simp only[List.append_assoc]
 have hPl:P0.length+(u.ins.flatMap encI).length<=1000000000:=by rw[hfin,List.length_append] at hb;exact hb
 rw[hfin,<-hP0];obtain⟨aB,cB⟩:=s6;dsimp only;refine w_ ?_;intros;refine nmS 35 ?_;rintro aI cI rfl rfl;refine GX.loop (σ:=WrS) (fun q=>[(0,.pointer (some ⟨p,0,none⟩)),(35,.slice aI u.ins.length cI),(36,.int .i64 (u.ins.length:Int)),(37,.int .i64 (q.i:Int))]) (fun _=>[]) (fun q=>[RowR p 72 [.slice q.c.1 q.D.length q.c.2],GX.Own 5 Ty.byte q.c.1 q.c.2 q.D])
  (fun q=>q.i<=u.ins.length/\q.D=P0++(u.ins.take q.i).flatMap encI) (fun q=>u.ins.length-q.i) ⟨(aB,cB),0,P0⟩ ⟨rfl,rfl,rfl,rfl,trivial⟩ ⟨Nat.zero_le _,by simp⟩ (fun q hq=>?_)
 obtain⟨⟨aB,cB⟩,i,D⟩:=q;obtain⟨hi,hD⟩:=hq;dsimp only at *;by_cases hlt:i<u.ins.length
 ·obtain⟨x,hx⟩:=get_lt hlt;obtain⟨x1,x2,x3,x4,x5,x6⟩:=u6 x (List.mem_of_getElem? hx);have hsn:=fm_snoc (f:=encI) hx;have htk:=fm_take encI u.ins (i+1);rw[hsn,List.length_append] at htk;have hDl:D.length+(encI x).length<=1000000000:=by rw[hD,List.length_append];omega
  have hxe:(encI x).length=(encs [x.op,x.a,x.b,x.c,x.n]).length+(encL x.args).length:=by unfold encI;rw[List.length_append]
  refine w_ ?_;intros;refine nmB 52 ?_;rintro b52 rfl
  refine GX.o (cl (wnums_spec p (aB,cB) D (some ⟨b52,0,none⟩) 5 [x.op,x.a,x.b,x.c,x.n] (by intro y hy;simp at hy;rcases hy with rfl|rfl|rfl|rfl|rfl<;>assumption) (by rw[List.length_append];omega)) fun s7=>?_);refine w_ ?_;intros;refine nmS 56 ?_;rintro a56 c56 rfl rfl;refine GX.o (cl (wlist_spec p s7 (D++encs [x.op,x.a,x.b,x.c,x.n]) a56 c56 x.args x6 (by rw[List.length_append,List.length_append];omega)) fun s8=>?_);refine w_ ?_;intros;exact again ⟨s8,i+1,D++encs [x.op,x.a,x.b,x.c,x.n]++encL x.args⟩ ⟨rfl,rfl,rfl,rfl,trivial⟩ ⟨by dsimp only;omega,by dsimp only;rw[hD,hsn];unfold encI;simp only[List.append_assoc]⟩ (by dsimp only;omega)
 ·rw[List.take_of_length_le (by omega)] at hD;subst hD;refine w_ ?_;intros;exact en0 ((aB,cB):AC)
noncomputable def putT (t:RTg):List Int:=if RightP t then encT t else []
noncomputable def putE (t:RTg):Int:=if RightP t then 0 else 5
set_option maxHeartbeats 1000000 in
theorem put27_spec (cs:List Value)(t:RTg)(ht:RTg.ok t)(hs:Small t)(hb:(encT t).length<=1000000000):
  Does Tryz.prog 9 [.agg cs.toArray] [Ag tyRTg cs t] [] (fun s:AC=>.tuple #[.slice s.1 (putT t).length s.2,.int .i64 (putE t)]) (fun s=>[Sl Ty.byte s.1 s.2 (putT t)]) (fun _=>[]):=by
 refine enter Tryz.func9 rfl Tryz.ntmps9 rfl fun b=>?_;obtain⟨t1,t2,t3,t4⟩:=ht;refine w_ ?_;intros;refine nmP 1 ?_;rintro b1 rfl;refine GX.o (cl (right_spec _ t hs) fun _=>?_);by_cases hr:RightP t
 ·have hr':=Classical.not_not.2 hr;rw[show putT t=encT t from if_pos hr,show putE t=0 from if_pos hr];have hb2:=hb;unfold encT at hb2;simp only[List.length_append] at hb2;refine w_ ?_;intros;refine nmP 13 ?_;rintro p rfl;refine ownNil 5 Ty.byte ?_;refine nmB 18 ?_;rintro b18 rfl;refine GX.o (cl (wnums_spec p ((none,0):AC) [] (some ⟨b18,0,none⟩) 1 [(t.classes.length:Int)] (i64_len (by omega)) (by rw[encs_one,List.nil_append];omega)) fun s1=>?_);rw[encs_one,List.nil_append];obtain⟨aB,cB⟩:=s1;dsimp only;obtain⟨P1,hP1⟩:∃P1,P1=num (t.classes.length:Int):=⟨_,rfl⟩;rw[<- hP1] at hb2 ⊢;refine w_ ?_;intros;refine nmS 21 ?_;rintro aC cC rfl rfl;refine GX.loop (σ:=WrS) (fun q=>[(1,.pointer (some ⟨b1,0,none⟩)),(4,.pointer (some ⟨p,0,none⟩)),(21,.slice aC t.classes.length cC),(22,.int .i64 (t.classes.length:Int)),(23,.int .i64 (q.i:Int))]) (fun _=>[]) (fun q=>[RowR p 72 [.slice q.c.1 q.D.length q.c.2],GX.Own 5 Ty.byte q.c.1 q.c.2 q.D])
   (fun q=>q.i<=t.classes.length/\q.D=P1++(t.classes.take q.i).flatMap encC) (fun q=>t.classes.length-q.i) ⟨(aB,cB),0,P1⟩ ⟨rfl,rfl,rfl,rfl,rfl,trivial⟩ ⟨Nat.zero_le _,by simp⟩ (fun q hq=>?_)
  obtain⟨⟨aB,cB⟩,i,D⟩:=q;obtain⟨hi,hD⟩:=hq;dsimp only at *;by_cases hlt:i<t.classes.length
  ·obtain⟨x,hx⟩:=get_lt hlt;have hsn:=fm_snoc (f:=encC) hx;have htk:=fm_take encC t.classes (i+1);rw[hsn,List.length_append] at htk;refine w_ ?_;intros;refine GX.o (cl (wclass_spec p (aB,cB) D _ x (t1 x (List.mem_of_getElem? hx)) (by rw[hD];simp only[List.length_append];omega)) fun s2=>?_);refine w_ ?_;intros;exact again ⟨s2,i+1,D++encC x⟩ ⟨rfl,rfl,rfl,rfl,rfl,trivial⟩ ⟨by dsimp only;omega,by dsimp only;rw[hD,hsn,List.append_assoc]⟩ (by dsimp only;omega)
  rw[List.take_of_length_le (by omega)] at hD;have hDl:D.length=P1.length+(t.classes.flatMap encC).length:=by rw[hD,List.length_append]
  refine w_ ?_;intros;refine nmS 33 ?_;rintro aG cG rfl rfl;refine GX.o (cl (wlist_spec p (aB,cB) D aG cG t.globals t2 (by rw[List.length_append];omega)) fun s3=>?_);refine w_ ?_;intros;refine nmB 39 ?_;rintro b39 rfl;refine GX.o (cl (wnums_spec p s3 (D++encL t.globals) (some ⟨b39,0,none⟩) 1 [(t.units.length:Int)] (i64_len (by omega)) (by rw[encs_one];simp only[List.length_append];omega)) fun s4=>?_);rw[encs_one];obtain⟨P2,hP2⟩:∃P2,P2=D++encL t.globals++num (t.units.length:Int):=⟨_,rfl⟩;have hP2l:P2.length=D.length+(encL t.globals).length+(num (t.units.length:Int)).length:=by rw[hP2];simp only[List.length_append]
  rw[<- hP2];obtain⟨aB2,cB2⟩:=s4;dsimp only;refine w_ ?_;intros;refine nmS 42 ?_;rintro aU cU rfl rfl;refine GX.loop (σ:=WrS) (fun q=>[(1,.pointer (some ⟨b1,0,none⟩)),(4,.pointer (some ⟨p,0,none⟩)),(42,.slice aU t.units.length cU),(43,.int .i64 (t.units.length:Int)),(44,.int .i64 (q.i:Int))]) (fun _=>[]) (fun q=>[RowR p 72 [.slice q.c.1 q.D.length q.c.2],GX.Own 5 Ty.byte q.c.1 q.c.2 q.D])
   (fun q=>q.i<=t.units.length/\q.D=P2++(t.units.take q.i).flatMap encU) (fun q=>t.units.length-q.i) ⟨(aB2,cB2),0,P2⟩ ⟨rfl,rfl,rfl,rfl,rfl,trivial⟩ ⟨Nat.zero_le _,by simp⟩ (fun q hq=>?_)
  obtain⟨⟨aB3,cB3⟩,j,D2⟩:=q;obtain⟨hj,hD2⟩:=hq;dsimp only at *;by_cases hjl:j<t.units.length
  ·obtain⟨x,hx⟩:=get_lt hjl;have hsn:=fm_snoc (f:=encU) hx;have htk:=fm_take encU t.units (j+1);rw[hsn,List.length_append] at htk;refine w_ ?_;intros;refine GX.o (cl (wunit_spec p (aB3,cB3) D2 _ x (t3 x (List.mem_of_getElem? hx)) (by rw[hD2];simp only[List.length_append];omega)) fun s2=>?_);refine w_ ?_;intros;exact again ⟨s2,j+1,D2++encU x⟩ ⟨rfl,rfl,rfl,rfl,rfl,trivial⟩ ⟨by dsimp only;omega,by dsimp only;rw[hD2,hsn,List.append_assoc]⟩ (by dsimp only;omega)
  rw[List.take_of_length_le (by omega)] at hD2;have hD2l:D2.length=P2.length+(t.units.flatMap encU).length:=by rw[hD2,List.length_append]
  refine w_ ?_;intros;refine nmB 55 ?_;rintro b55 rfl;refine GX.o (cl (wnums_spec p (aB3,cB3) D2 (some ⟨b55,0,none⟩) 1 [t.main] (i64_one t4) (by rw[encs_one,List.length_append];omega)) fun s5=>?_);rw[encs_one];have hall:D2++num t.main=encT t:=by rw[hD2,hP2,hD,hP1];unfold encT;simp only[List.append_assoc]
  rw[hall];obtain⟨aB4,cB4⟩:=s5;dsimp only;refine w_ ?_;intros;refine frz aB4 ?_;exact rt2 ((aB4,cB4):AC) rfl
 ·rw[show putT t=[] from if_neg hr,show putE t=5 from if_neg hr];refine w_ ?_;intros;refine slNil Ty.byte ?_;exact rt2 ((none,0):AC) rfl
end Go.Proofs.YtojfbbggnkijeaaGreatDoor
namespace Go.Proofs.YtojfbbggnkijeaaGreatDoor
theorem take_eq_succ {α:Type}{xs ys:List α}{i:Nat}{x:α}(h:xs.take i=ys.take i)(hx:xs[i]?=some x)(hy:ys[i]?=some x):xs.take (i+1)=ys.take (i+1):=by
 rw[List.take_add_one,List.take_add_one,h,hx,hy]
end Go.Proofs.YtojfbbggnkijeaaGreatDoor
namespace Go.Proofs.YtojfbbggnkijeaaGreatDoor
open Go Go.RR Go.RX Go.GX
attribute [local irreducible] wpList Code.wp wpPlan Exit.then Exit.inBlock bodyPost NoPanic Went GX.Post Again Meet RowR GX.Own Owns Box Sl Pt Ag MapR Kept Pin wpT GoK AtEnd Both
theorem eqb_spec (ao1 ao2:Option Addr)(cap1 cap2:Nat)(xs ys:List Int):Does Tryz.prog 18 [.slice ao1 xs.length cap1,.slice ao2 ys.length cap2] [Sl Ty.byte ao1 cap1 xs,Sl Ty.byte ao2 cap2 ys] []
  (fun _:Unit=>.bool (decide (xs=ys))) (fun _=>[]) (fun _=>[]):=by
 refine enter Tryz.func18 rfl Tryz.ntmps18 rfl fun b=>?_;refine sln ao1 fun h1 h2 _=>?_;by_cases hl:xs.length=ys.length
 ·refine w_ ?_;intros;refine GX.loop (σ:=Nat) (fun i=>[(0,.slice ao1 xs.length cap1),(1,.slice ao2 ys.length cap2),(12,.int .i64 (xs.length:Int)),(13,.int .i64 (i:Int))]) (fun _=>[]) (fun _=>[])
   (fun i=>i<=xs.length/\xs.take i=ys.take i) (fun i=>xs.length-i) 0 ⟨rfl,rfl,rfl,rfl,trivial⟩ ⟨by omega,by simp⟩ (fun i hi=>?_)
  obtain⟨hi,ht⟩:=hi;by_cases hlt:i<xs.length
  ·obtain⟨x,hx⟩:=get_lt hlt;obtain⟨y,hy⟩:=get_lt (show i<ys.length by omega);by_cases hxy:x=y
   ·refine w_ ?_;intros;refine drawn0 (fun j=>!(List.contains [] j)) [(0,true),(1,true),(2,true),(3,true),(4,true),(5,true),(6,true),(7,true),(8,true)] rfl (by kernel_rfl) (by kernel_rfl) sA ?_;intro wd F hW hR;refine u_ ?_;intros;refine w_ ?_;intros;subst hxy;exact again (i+1) ⟨rfl,rfl,rfl,rfl,trivial⟩ ⟨by omega,take_eq_succ ht hx hy⟩ (by omega)
   ·refine w_ ?_;intros;refine drawn0 (fun j=>!(List.contains [] j)) [(0,true),(1,true),(2,true),(3,true),(4,true),(5,true),(6,true),(7,true),(8,true)] rfl (by kernel_rfl) (by kernel_rfl) sA ?_;intro wd F hW hR;refine u_ ?_;intros;refine w_ ?_;intros;have he:decide (xs=ys)=false:=decide_eq_false fun e=>hxy (by subst e;rw[hx] at hy;exact Option.some.inj hy);exact rt1 () (congrArg Value.bool he)
  ·have hil:i=xs.length:=by omega
   subst hil;refine w_ ?_;intros;have he:decide (xs=ys)=true:=by
    rw[List.take_length,hl,List.take_length] at ht;exact decide_eq_true ht
   exact rt1 () (congrArg Value.bool he)
 ·refine w_ ?_;intros;have he:decide (xs=ys)=false:=decide_eq_false fun e=>hl (by rw[e]);exact rt1 () (congrArg Value.bool he)
end Go.Proofs.YtojfbbggnkijeaaGreatDoor
namespace Go.NumM
open Go Go.GX Go.Api Go.RtM
theorem encs_len (l:List Int):l.length<=(encs l).length:=fm_len (f:=num) fun x _=>num_pos x
theorem mem_len {α:Type}{f:α->List Int}{l:List α}{x:α}(h:x∈l):(f x).length<=(l.flatMap f).length:=by
 induction l with
 |nil=>simp at h
 |cons y l ih=>
  rw[List.flatMap_cons,List.length_append]
  rcases List.mem_cons.1 h with rfl|h
  ·omega
  ·have:=ih h;omega
theorem refs_len (l:List Layout):((l.map (·.refs)).map List.length).sum<=(l.flatMap encC).length:=by
 induction l with
 |nil=>simp
 |cons y l ih=>
  simp only[List.map_cons,List.sum_cons,List.flatMap_cons,List.length_append];have:=encs_len y.refs;have h:(encs y.refs).length<=(encC y).length:=by unfold encC encL;simp only[List.length_append];omega
  omega
theorem small_of {t:RTg}(h:(encT t).length<=500000000):Small t:=by
 unfold encT at h;simp only[List.length_append] at h;have h1:=fm_len (f:=encC) (l:=t.classes) fun x _=>encC_pos x;have h2:=encs_len t.globals;have h3:=fm_len (f:=encU) (l:=t.units) fun x _=>encU_pos x;have h4:=refs_len t.classes;have h5:(encs t.globals).length<=(encL t.globals).length:=by unfold encL;rw[List.length_append];omega
 refine⟨by omega,by unfold flds;omega,by omega,by omega,fun u hu=>?_⟩;have h6:=mem_len (f:=encU) hu;have h7:=encs_len u.vars;have h8:=fm_len (f:=encI) (l:=u.ins) fun x _=>encI_pos x;have h9:(encs u.vars).length+(u.ins.flatMap encI).length<=(encU u).length:=by unfold encU encL;simp only[List.length_append];omega
 constructor<;>omega
def Is (B:List Int)(t:RTg):Prop:=RTg.ok t/\RightP t/\encT t=B
structure GetS (B:List Int) where
 cs:List Value
 t:RTg
 e:Int
 h:(e=0/\Is B t/\∀t2,Is B t2->t=t2)\/(t=⟨[],[],[],0⟩/\(∀t2,B.length<=4194304->¬ Is B t2)/\e=if 4194304<B.length then 4 else 6)
theorem get_great {B:List Int}(h:4194304<B.length):((4:Int)=0/\Is B ⟨[],[],[],0⟩/\∀t2,Is B t2->(⟨[],[],[],0⟩:RTg)=t2)\/((⟨[],[],[],0⟩:RTg)=⟨[],[],[],0⟩/\(∀t2,B.length<=4194304->¬ Is B t2)/\(4:Int)=if 4194304<B.length then 4 else 6):=
 .inr ⟨rfl,fun _ h2=>by omega,by rw[if_pos h]⟩
theorem get_not {B:List Int}(h:¬ 4194304<B.length)(hn:∀t2,¬ Is B t2):((6:Int)=0/\Is B ⟨[],[],[],0⟩/\∀t2,Is B t2->(⟨[],[],[],0⟩:RTg)=t2)\/((⟨[],[],[],0⟩:RTg)=⟨[],[],[],0⟩/\(∀t2,B.length<=4194304->¬ Is B t2)/\(6:Int)=if 4194304<B.length then 4 else 6):=
 .inr ⟨rfl,fun t2 _=>hn t2,by rw[if_neg h]⟩
theorem rd_is {B D2:List Int}{t:RTg}{d2:Bool}(h:Rdn encT RTg.ok B false t D2 d2){t2:RTg}(h2:Is B t2):t=t2/\d2=false:=by
 obtain⟨k1,k2,k3⟩:=h.back rfl t2 [] h2.1 (by rw[List.append_nil];exact h2.2.2.symm);exact⟨k1,k3⟩
end Go.NumM
namespace Go.Proofs.YtojfbbggnkijeaaGreatDoor
open Go Go.RR Go.RX Go.GX Go.Api Go.NumM Go.RtM
attribute [local irreducible] wpList Code.wp wpPlan Exit.then Exit.inBlock bodyPost NoPanic Went GX.Post Again Meet RowR GX.Own Owns Box Sl Pt Ag MapR Kept Pin wpT GoK AtEnd Both
set_option maxHeartbeats 1000000 in
theorem get27_spec (a:Option Addr)(c:Nat)(B:List Int):
  Does Tryz.prog 8 [.slice a B.length c] [Sl Ty.byte a c B] [] (fun s:GetS B=>.tuple #[.agg s.cs.toArray,.int .i64 s.e]) (fun s=>[Ag tyRTg s.cs s.t]) (fun _=>[]):=by
 refine enter Tryz.func8 rfl Tryz.ntmps8 rfl fun b=>?_;by_cases h1:4194304<(B.length:Int)
 ·refine w_ ?_;intros;exact rt2B (fun cs=>(⟨cs,⟨[],[],[],0⟩,4,get_great (by omega)⟩:GetS B)) (fun _=>rfl)
 have h1n:¬ 4194304<B.length:=by omega
 refine w_ ?_ 3;intros;apply GX.region;refine w_ ?_ 3;intros;apply GX.region;refine w_ ?_ 3;intros;apply GX.region;refine w_ ?_ 1;intros;refine nmP 4 ?_;rintro p rfl;refine GX.o (cl (rdProg_spec p ((a,c):AC) B false (by omega)) fun s=>?_);obtain⟨cs1,t,c2,D2,d2,hr⟩:=s;dsimp only;by_cases hd:d2=true
 ·refine w_ ?_;intros;exact rt2B (fun cs=>(⟨cs,⟨[],[],[],0⟩,6,get_not h1n (fun t2 h2=>by rw[(rd_is hr h2).2] at hd;exact absurd hd (by decide))⟩:GetS B)) (fun _=>rfl)
 have hd2:d2=false:=by simpa using hd
 have hsz:(encT t).length<=41943040:=by have:=hr.size hd2;omega
 refine w_ ?_;intros;refine GX.o (cl (put27_spec _ t hr.good (small_of (by omega)) (by omega)) fun s=>?_);obtain⟨a3,c3⟩:=s;dsimp only;by_cases hR:RightP t
 ·rw[show putT t=encT t from if_pos hR,show putE t=0 from if_pos hR];by_cases hE:encT t=B
  ·have hE2:=Classical.not_not.2 hE;refine w_ ?_;intros;refine GX.o (cl (eqb_spec a3 a c3 c (encT t) B) fun _=>?_);refine w_ ?_;intros;exact rt2B (fun cs=>(⟨cs,t,0,.inl ⟨rfl,⟨hr.good,hR,hE⟩,fun t2 h2=>(rd_is hr h2).1⟩⟩:GetS B)) (fun _=>rfl)
  ·refine w_ ?_;intros;refine GX.o (cl (eqb_spec a3 a c3 c (encT t) B) fun _=>?_);refine w_ ?_;intros;exact rt2B (fun cs=>(⟨cs,⟨[],[],[],0⟩,6,get_not h1n (fun t2 h2=>hE (by rw[(rd_is hr h2).1];exact h2.2.2))⟩:GetS B)) (fun _=>rfl)
 ·rw[show putT t=[] from if_neg hR,show putE t=5 from if_neg hR];refine w_ ?_;intros;exact rt2B (fun cs=>(⟨cs,⟨[],[],[],0⟩,6,get_not h1n (fun t2 h2=>hR (by rw[(rd_is hr h2).1];exact h2.2.1))⟩:GetS B)) (fun _=>rfl)
end Go.Proofs.YtojfbbggnkijeaaGreatDoor
