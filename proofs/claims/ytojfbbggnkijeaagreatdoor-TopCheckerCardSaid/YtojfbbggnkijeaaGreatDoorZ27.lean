import Derived.Test.YtojfbbggnkijeaaGreatDoorZ26
set_option linter.all false
namespace Go.Proofs.YtojfbbggnkijeaaGreatDoor
open Go Go.RR Go.RX Go.GX Go.Api Go.RiseM Go.ReachM Go.RtM
attribute [local irreducible] wpList Code.wp wpPlan Exit.then Exit.inBlock bodyPost NoPanic Went GX.Post Again Meet RowR GX.Own Owns Box Sl Pt Ag MapR Kept Pin wpT GoK AtEnd Both
theorem bare_spec (cs:List Value)(i:Ins):Does Tryz.prog 196 [.agg cs.toArray] [Ag tyIns cs i] []
  (fun _:Unit=>.bool (decide (Bare i))) (fun _=>[]) (fun _=>[]):=by
 refine enter Tryz.func196 rfl Tryz.ntmps196 rfl fun b=>?_
 repeat' (first|(apply GX.s_list;first|apply GX.nil|(refine GX.o ?_;first|(apply GX.k_load;first|refine GX.lr ?_|refine GX.lrA ?_|refine GX.ln ?_|refine GX.lb ?_|refine GX.lh ?_|(refine GX.ls ?_;intro ao cap _ _)|(refine GX.lA ?_;intro cs)|(refine GX.l0 ?_;intro cs)|refine GX.o1n ?_|refine GX.o1b ?_|refine GX.o1h ?_|(refine GX.o1s ?_;intro ao cap _ _)|refine GX.omn ?_|refine GX.omb ?_|refine GX.omh ?_|(refine GX.oms ?_;intro ao cap _ _)|refine GX.ofn ?_|refine GX.ofb ?_|refine GX.ofh ?_|(refine GX.ofs ?_;intro ao cap _ _)|(refine GX.oA ?_;intro cs))|(apply GX.k_assign;refine GX.a ?_)|(apply GX.k_fieldAddr;first|refine GX.f0 ?_|refine GX.fh ?_|refine GX.fa ?_)|(apply GX.k_box;first|(refine GX.bxF ?_;intro _)|(refine GX.bxR ?_;intro _))|(apply GX.k_binOp_eql;first|refine GX.b_eql ?_|refine GX.b_pn ?_|refine GX.b_nn ?_|refine GX.b_snn ?_|refine GX.b_sns ?_|refine GX.b_eqls ?_|refine GX.b_eqltf ?_|refine GX.b_eqlft ?_|refine GX.b_eqlb ?_))|refine GX.gt ?_|refine GX.gf ?_|refine GX.gbt ?_|refine GX.gbf ?_|refine GX.un ?_|refine GX.un0 ?_|(refine GX.gs ?_ ?_<;>intro _)|(refine GX.gsb ?_ ?_<;>intro _))|apply GX.then_normal|apply GX.seq|apply GX.region|(apply GX.s_cond;first|refine GX.ct ?_|refine GX.cf ?_|refine GX.cdf ?_|refine GX.cdt ?_|refine GX.cbt ?_|refine GX.cbf ?_|(refine GX.cs ?_ ?_<;>intro _)|(refine GX.csb ?_ ?_<;>intro _))|apply GX.skip|apply GX.block|apply GX.inBlock_normal|apply GX.exit|apply GX.then_exit|apply GX.inBlock_exit|refine GX.ibo ?_|apply GX.ret|apply GX.then_ret|apply GX.inBlock_ret)
 all_goals first
  | (refine GX.o (cl (only_spec _ i _ _ _ _ _) fun _=>?_)
     refine w_ ?_;intros;refine rt1 () (vI ?_);unfold Bare names;simp_all)
  |exact rt1 () (vN (by unfold Bare names;simp_all))
theorem call_spec (cs:List Value)(v:RtView):Does Tryz.prog 366 [.agg cs.toArray] [Ag tyRtView cs v] []
  (fun _:Unit=>.bool (decide (CallOk v.t v.u v.i))) (fun _=>[]) (fun _=>[]):=by
 refine enter Tryz.func366 rfl Tryz.ntmps366 rfl fun b=>?_;by_cases h1:v.i.c<0
 ·have e:¬ CallOk v.t v.u v.i:=by unfold CallOk;rw[gt_out (.inl h1)];exact id
  refine w_ ?_;intros;exact rt1 () (vN e)
 by_cases h2:(v.t.units.length:Int)<=v.i.c
 ·have e:¬ CallOk v.t v.u v.i:=by unfold CallOk;rw[gt_out (.inr h2)];exact id
  refine w_ ?_;intros;exact rt1 () (vN e)
 obtain⟨g,hg,k,hk,hkl,hg2⟩:=gt_in (l:=v.t.units) (n:=v.i.c) ⟨by omega,by omega⟩;have e:CallOk v.t v.u v.i<->((v.i.args.length:Int)=g.params/\g.params<=(g.vars.length:Int)/\(∀p∈v.i.args.zip g.vars,Into p.2 (RtM.of v.u p.1)))/\(v.i.a=-1\/Into (RtM.of v.u v.i.a) g.result):=by unfold CallOk;rw[hg]
 by_cases h3:(v.i.args.length:Int)=g.params
 ·by_cases h4:(g.vars.length:Int)<g.params
  ·refine w_ ?_;intros;exact rt1 () (vN fun h=>by have:=(e.1 h).1.2.1;omega)
  ·refine w_ ?_;intros;refine nmP 1 ?_;rintro b1 rfl;refine nmP 3 ?_;rintro b3 rfl;refine nmP 4 ?_;rintro b4 rfl;refine frzB b3 ?_;refine frzB b4 ?_;refine nmS 43 ?_;rintro aA cA rfl rfl;refine GX.loop (σ:=Nat) (fun i=>[(1,.pointer (some ⟨b1,0,none⟩)),(3,.pointer (some ⟨b3,0,none⟩)),(4,.pointer (some ⟨b4,0,none⟩)),(43,.slice aA v.i.args.length cA),(44,.int .i64 (v.i.args.length:Int)),(45,.int .i64 (i:Int))]) (fun _=>[]) (fun _=>[])
    (fun i=>i<=v.i.args.length/\∀p∈(v.i.args.zip g.vars).take i,Into p.2 (RtM.of v.u p.1)) (fun i=>v.i.args.length-i) 0 ⟨rfl,rfl,rfl,rfl,rfl,rfl,trivial⟩ ⟨by omega,by simp⟩ (fun i hi=>?_)
   obtain⟨hi,hA⟩:=hi;have hzl:(v.i.args.zip g.vars).length=v.i.args.length:=by rw[List.length_zip];omega
   by_cases hlt:i<v.i.args.length
   ·obtain⟨a,ha⟩:=get_lt hlt;obtain⟨w,hw⟩:=get_lt (show i<g.vars.length by omega);have hz:(v.i.args.zip g.vars)[i]?=some (a,w):=by rw[List.getElem?_zip_eq_some];exact⟨ha,hw⟩
    refine w_ ?_;intros;refine drawn0 (fun j=>!(List.contains [8] j)) [(0,true),(1,true),(2,true),(3,true),(4,true),(5,true),(6,true),(7,false),(8,false),(9,true)] rfl (by kernel_rfl) (by kernel_rfl) sA ?_;intro wd F hW hR;refine u_ ?_;intros;refine GX.gow ?_;refine (cl (of_spec _ v a) fun _=>?_);refine u_ ?_;intros;refine GX.gow ?_;refine (cl (into_spec w _) fun _=>?_);refine u_ ?_;intros;by_cases h5:Into w (RtM.of v.u a)
    ·have h5':=Classical.not_not.2 h5;refine w_ ?_;intros;refine again (i+1) ⟨rfl,rfl,rfl,rfl,rfl,rfl,trivial⟩ ⟨by omega,fun p hp=>?_⟩ (by omega);rw[List.take_add_one,hz,List.mem_append] at hp
     rcases hp with hp|hp
     ·exact hA p hp
     ·simp at hp;subst hp;exact h5
    ·refine w_ ?_;intros;exact rt1 () (vN fun h=>h5 ((e.1 h).1.2.2 (a,w) (List.mem_of_getElem? hz)))
   ·rw[List.take_of_length_le (by omega)] at hA;by_cases h5:v.i.a=-1
    ·refine w_ ?_;intros;refine drawn0 (fun j=>!(List.contains [10] j)) [(0,true),(1,true),(2,true),(3,true),(4,true),(5,true),(6,true),(8,true),(9,true),(7,false),(10,false),(11,true),(12,true)] rfl (by kernel_rfl) (by kernel_rfl) sA ?_;intro wd F hW hR;refine u_ ?_;intros;refine w_ ?_;intros;exact rt1 () (vY (e.2 ⟨⟨h3,by omega,hA⟩,.inl h5⟩))
    ·refine w_ ?_;intros;refine drawn0 (fun j=>!(List.contains [10] j)) [(0,true),(1,true),(2,true),(3,true),(4,true),(5,true),(6,true),(8,true),(9,true),(7,false),(10,false),(11,true),(12,true)] rfl (by kernel_rfl) (by kernel_rfl) sA ?_;intro wd F hW hR;refine u_ ?_;intros;refine GX.gow ?_;refine (cl (of_spec _ v _) fun _=>?_);refine u_ ?_;intros;refine GX.gow ?_;refine (cl (into_spec _ g.result) fun _=>?_);refine u_ ?_;intros;refine w_ ?_;intros;exact rt1 () (vI (e.trans ⟨fun h=>h.2.elim (fun h=>absurd h h5) id,fun h=>⟨⟨h3,by omega,hA⟩,.inr h⟩⟩))
 ·refine w_ ?_;intros;exact rt1 () (vN fun h=>h3 (e.1 h).1.1)
theorem goes1_spec (bl:Nat)(v:RtView)(n:Int):Does Tryz.prog 368 [.int .i64 n,.pointer (some ⟨bl,0,none⟩)] [Pt tyRtView bl 0 v] [] (fun _:Unit=>.bool (decide (n∈v.u.owns))) (fun _=>[]) (fun _=>[]):=by
 refine enter Tryz.func368 rfl Tryz.ntmps368 rfl fun b=>?_;refine w_ ?_;intros;refine nmS 6 ?_;rintro ao cap rfl rfl;refine GX.o (cl (contains_spec ao cap v.u.owns n) fun _=>?_);refine w_ ?_;intros;exact rt1 () rfl
variable {u:Unt} {n:Int}
theorem plain1:Plain u [n]<->RtM.of u n=-2:=by simp[Plain]
theorem plain2 {m:Int}:Plain u [n,m]<->RtM.of u n=-2/\RtM.of u m=-2:=by simp[Plain]
theorem refs1:Refs u [n]<->IsRef (RtM.of u n):=by simp[Refs]
set_option maxHeartbeats 1000000 in
theorem goes_spec (cs:List Value)(v:RtView):Does Tryz.prog 278 [.agg cs.toArray] [Ag tyRtView cs v] []
  (fun _:Unit=>.bool (decide (Goes v.t v.u v.i))) (fun _=>[]) (fun _=>[]):=by
 refine enter Tryz.func278 rfl Tryz.ntmps278 rfl fun b=>?_;by_cases h13:v.i.op=13
 ·have e:Goes v.t v.u v.i<->CallOk v.t v.u v.i:=by unfold Goes;rw[if_pos h13]
  refine w_ ?_;intros;refine GX.o (cl (call_spec _ v) fun _=>?_);refine w_ ?_;intros;exact rt1 () (vI e)
 by_cases h16:v.i.op=16
 ·have e:Goes v.t v.u v.i<->RtM.Place v.u v.i.n:=by unfold Goes;rw[if_neg h13,if_pos h16]
  refine w_ ?_;intros;refine GX.o (cl (place_spec _ v _) fun _=>?_);refine w_ ?_;intros;exact rt1 () (vI e)
 by_cases h17:v.i.op=17
 ·have e:Goes v.t v.u v.i<->RtM.of v.u v.i.a=-2/\RtM.Place v.u v.i.n/\RtM.Place v.u v.i.c:=by unfold Goes;rw[if_neg h13,if_neg h16,if_pos h17]
  refine w_ ?_;intros;refine GX.o (cl (plain_spec _ v _ _ _ [v.i.a] rfl) fun _=>?_);by_cases g1:Plain v.u [v.i.a]
  ·refine w_ ?_;intros;refine GX.o (cl (place_spec _ v _) fun _=>?_);by_cases g2:RtM.Place v.u v.i.n
   ·refine w_ ?_;intros;refine GX.o (cl (place_spec _ v _) fun _=>?_);refine w_ ?_;intros;exact rt1 () (vI (e.trans ⟨fun h=>h.2.2,fun h=>⟨plain1.1 g1,g2,h⟩⟩))
   ·refine w_ ?_;intros;exact rt1 () (vN fun h=>g2 (e.1 h).2.1)
  ·refine w_ ?_;intros;exact rt1 () (vN fun h=>g1 (plain1.2 (e.1 h).1))
 by_cases h18:v.i.op=18
 ·have e:Goes v.t v.u v.i<->(v.u.result=-3/\v.i.a=-1\/v.u.result≠-3/\Into v.u.result (RtM.of v.u v.i.a)):=by unfold Goes;rw[if_neg h13,if_neg h16,if_neg h17,if_pos h18]
  refine w_ ?_;intros;refine nmP 3 ?_;rintro b3 rfl;refine frzB b3 ?_;by_cases g1:v.u.result=-3
  ·have g1':=Classical.not_not.2 g1;by_cases g2:v.i.a=-1
   ·refine drawn0 (fun j=>!(List.contains [22] j)) [(0,true),(1,true),(2,true),(3,true),(4,true),(5,true),(6,true),(7,true),(8,true),(9,true),(10,true),(11,true),(12,true),(13,true),(14,true),(15,true),(16,true),(17,true),(18,true),(19,true),(20,true),(21,false),(22,false),(23,true),(24,true),(25,true)] rfl (by kernel_rfl) (by kernel_rfl) sA ?_;intro wd F hW hR;refine u_ ?_;intros;refine w_ ?_;intros;exact rt1 () (vY (e.2 (.inl ⟨g1,g2⟩)))
   ·refine drawn0 (fun j=>!(List.contains [22] j)) [(0,true),(1,true),(2,true),(3,true),(4,true),(5,true),(6,true),(7,true),(8,true),(9,true),(10,true),(11,true),(12,true),(13,true),(14,true),(15,true),(16,true),(17,true),(18,true),(19,true),(20,true),(21,false),(22,false),(23,true),(24,true),(25,true)] rfl (by kernel_rfl) (by kernel_rfl) sA ?_;intro wd F hW hR;refine u_ ?_;intros;refine w_ ?_;intros;exact rt1 () (vN fun h=>(e.1 h).elim (fun h=>g2 h.2) (fun h=>h.1 g1))
  ·refine drawn0 (fun j=>!(List.contains [22] j)) [(0,true),(1,true),(2,true),(3,true),(4,true),(5,true),(6,true),(7,true),(8,true),(9,true),(10,true),(11,true),(12,true),(13,true),(14,true),(15,true),(16,true),(17,true),(18,true),(19,true),(20,true),(21,false),(22,false),(23,true),(24,true),(25,true)] rfl (by kernel_rfl) (by kernel_rfl) sA ?_;intro wd F hW hR;refine u_ ?_;intros;refine GX.gow ?_;refine (cl (of_spec _ v _) fun _=>?_);refine u_ ?_;intros;refine GX.gow ?_;refine (cl (into_spec v.u.result _) fun _=>?_);refine u_ ?_;intros;refine w_ ?_;intros;exact rt1 () (vI (e.trans ⟨fun h=>h.elim (fun h=>absurd h.1 g1) (fun h=>h.2),fun h=>.inr ⟨g1,h⟩⟩))
 by_cases h19:v.i.op=19
 ·have e:Goes v.t v.u v.i<->(match gt v.t.globals v.i.n with|some g=>Into (RtM.of v.u v.i.a) g|none=>False):=by unfold Goes;rw[if_neg h13,if_neg h16,if_neg h17,if_neg h18,if_pos h19];exact Iff.rfl
  refine w_ ?_;intros;refine nmP 3 ?_;rintro b3 rfl;refine frzB b3 ?_;by_cases g1:v.i.n<0
  ·rw[gt_out (.inl g1)] at e;refine drawn0 (fun j=>!(List.contains [24] j)) [(0,true),(1,true),(2,true),(3,true),(4,true),(5,true),(6,true),(7,true),(8,true),(9,true),(10,true),(11,true),(12,true),(13,true),(14,true),(15,true),(17,true),(18,true),(19,true),(20,true),(21,true),(22,true),(23,true),(16,false),(24,false),(25,true),(26,true)] rfl (by kernel_rfl) (by kernel_rfl) sA ?_;intro wd F hW hR;refine u_ ?_;intros;refine w_ ?_;intros;exact rt1 () (vN e.1)
  by_cases g2:(v.t.globals.length:Int)<=v.i.n
  ·rw[gt_out (.inr g2)] at e;refine drawn0 (fun j=>!(List.contains [24] j)) [(0,true),(1,true),(2,true),(3,true),(4,true),(5,true),(6,true),(7,true),(8,true),(9,true),(10,true),(11,true),(12,true),(13,true),(14,true),(15,true),(17,true),(18,true),(19,true),(20,true),(21,true),(22,true),(23,true),(16,false),(24,false),(25,true),(26,true)] rfl (by kernel_rfl) (by kernel_rfl) sA ?_;intro wd F hW hR;refine u_ ?_;intros;refine w_ ?_;intros;exact rt1 () (vN e.1)
  obtain⟨g,hg,k,hk,hkl,hg2⟩:=gt_in (l:=v.t.globals) (n:=v.i.n) ⟨by omega,by omega⟩;rw[hg] at e;refine drawn0 (fun j=>!(List.contains [24] j)) [(0,true),(1,true),(2,true),(3,true),(4,true),(5,true),(6,true),(7,true),(8,true),(9,true),(10,true),(11,true),(12,true),(13,true),(14,true),(15,true),(17,true),(18,true),(19,true),(20,true),(21,true),(22,true),(23,true),(16,false),(24,false),(25,true),(26,true)] rfl (by kernel_rfl) (by kernel_rfl) sA ?_;intro wd F hW hR;refine u_ ?_;intros;refine GX.gow ?_;refine (cl (of_spec _ v _) fun _=>?_);refine u_ ?_;intros;refine GX.gow ?_;refine (cl (into_spec _ g) fun _=>?_);refine u_ ?_;intros;refine w_ ?_;intros;exact rt1 () (vI e)
 by_cases h20:v.i.op=20
 ·have e:Goes v.t v.u v.i<->(match gt v.t.globals v.i.n with|some g=>Into g (RtM.of v.u v.i.a)|none=>False):=by unfold Goes;rw[if_neg h13,if_neg h16,if_neg h17,if_neg h18,if_neg h19,if_pos h20];exact Iff.rfl
  refine w_ ?_;intros;refine nmP 3 ?_;rintro b3 rfl;refine frzB b3 ?_;by_cases g1:v.i.n<0
  ·rw[gt_out (.inl g1)] at e;refine drawn0 (fun j=>!(List.contains [24] j)) [(0,true),(1,true),(2,true),(3,true),(4,true),(5,true),(6,true),(7,true),(8,true),(9,true),(10,true),(11,true),(12,true),(13,true),(14,true),(15,true),(16,true),(17,true),(18,true),(19,true),(20,true),(21,true),(22,true),(23,false),(24,false),(25,true),(26,true)] rfl (by kernel_rfl) (by kernel_rfl) sA ?_;intro wd F hW hR;refine u_ ?_;intros;refine w_ ?_;intros;exact rt1 () (vN e.1)
  by_cases g2:(v.t.globals.length:Int)<=v.i.n
  ·rw[gt_out (.inr g2)] at e;refine drawn0 (fun j=>!(List.contains [24] j)) [(0,true),(1,true),(2,true),(3,true),(4,true),(5,true),(6,true),(7,true),(8,true),(9,true),(10,true),(11,true),(12,true),(13,true),(14,true),(15,true),(16,true),(17,true),(18,true),(19,true),(20,true),(21,true),(22,true),(23,false),(24,false),(25,true),(26,true)] rfl (by kernel_rfl) (by kernel_rfl) sA ?_;intro wd F hW hR;refine u_ ?_;intros;refine w_ ?_;intros;exact rt1 () (vN e.1)
  obtain⟨g,hg,k,hk,hkl,hg2⟩:=gt_in (l:=v.t.globals) (n:=v.i.n) ⟨by omega,by omega⟩;rw[hg] at e;refine drawn0 (fun j=>!(List.contains [24] j)) [(0,true),(1,true),(2,true),(3,true),(4,true),(5,true),(6,true),(7,true),(8,true),(9,true),(10,true),(11,true),(12,true),(13,true),(14,true),(15,true),(16,true),(17,true),(18,true),(19,true),(20,true),(21,true),(22,true),(23,false),(24,false),(25,true),(26,true)] rfl (by kernel_rfl) (by kernel_rfl) sA ?_;intro wd F hW hR;refine u_ ?_;intros;refine GX.gow ?_;refine (cl (of_spec _ v _) fun _=>?_);refine u_ ?_;intros;refine GX.gow ?_;refine (cl (into_spec g _) fun _=>?_);refine u_ ?_;intros;refine w_ ?_;intros;exact rt1 () (vI e)
 have e:Goes v.t v.u v.i<->v.i.args≠[]/\Rise v.i.args/\∀n∈v.i.args,n∈v.u.owns:=by unfold Goes;rw[if_neg h13,if_neg h16,if_neg h17,if_neg h18,if_neg h19,if_neg h20]
 have ea:0<(v.i.args.length:Int)<->v.i.args≠[]:=by rw[ne_eq,<-List.length_eq_zero_iff];omega
 by_cases g1:0<(v.i.args.length:Int)
 ·refine w_ ?_;intros;refine nmP 1 ?_;rintro b1 rfl;refine nmS 126 ?_;rintro aA cA rfl rfl;refine GX.o (cl (rising_spec aA cA v.i.args 368 [.pointer (some ⟨b1,0,none⟩)] [Pt tyRtView b1 0 v] [] (fun n=>decide (n∈v.u.owns)) (fun n _=>goes1_spec b1 v n)) fun _=>?_);refine w_ ?_;intros;refine rt1 () (vI ?_);exact e.trans ⟨fun h=>⟨h.2.1,fun n hn=>decide_eq_true (h.2.2 n hn)⟩,fun h=>⟨ea.1 g1,h.1,fun n hn=>of_decide_eq_true (h.2 n hn)⟩⟩
 ·refine w_ ?_;intros;exact rt1 () (vN fun h=>g1 (ea.2 (e.1 h).1))
set_option maxHeartbeats 1000000 in
theorem fits_spec (cs:List Value)(v:RtView):Does Tryz.prog 197 [.agg cs.toArray] [Ag tyRtView cs v] []
  (fun _:Unit=>.bool (decide (Fits v.t v.u v.i))) (fun _=>[]) (fun _=>[]):=by
 refine enter Tryz.func197 rfl Tryz.ntmps197 rfl fun b=>?_;by_cases h1:v.i.op=1\/v.i.op=14\/v.i.op=15
 ·have e:Fits v.t v.u v.i<->RtM.of v.u v.i.a=-2:=by unfold Fits;rw[if_pos h1]
  rcases h1 with h1|h1|h1
  ·refine w_ ?_;intros;refine GX.o (cl (plain_spec _ v _ _ _ [v.i.a] rfl) fun _=>?_);refine w_ ?_;intros;exact rt1 () (vI (e.trans plain1.symm))
  ·refine w_ ?_;intros;refine GX.o (cl (plain_spec _ v _ _ _ [v.i.a] rfl) fun _=>?_);refine w_ ?_;intros;exact rt1 () (vI (e.trans plain1.symm))
  ·refine w_ ?_;intros;refine GX.o (cl (plain_spec _ v _ _ _ [v.i.a] rfl) fun _=>?_);refine w_ ?_;intros;exact rt1 () (vI (e.trans plain1.symm))
 have n1:v.i.op≠1:=fun h=>h1 (.inl h);have n14:v.i.op≠14:=fun h=>h1 (.inr (.inl h));have n15:v.i.op≠15:=fun h=>h1 (.inr (.inr h));by_cases h2:v.i.op=2
 ·have e:Fits v.t v.u v.i<->IsRef (RtM.of v.u v.i.a):=by unfold Fits;rw[if_neg h1,if_pos h2]
  refine w_ ?_;intros;refine GX.o (cl (refs_spec _ v _ _ _ [v.i.a] rfl) fun _=>?_);refine w_ ?_;intros;exact rt1 () (vI (e.trans refs1.symm))
 by_cases h3:v.i.op=3
 ·have e:Fits v.t v.u v.i<->Into (RtM.of v.u v.i.a) (RtM.of v.u v.i.b):=by unfold Fits;rw[if_neg h1,if_neg h2,if_pos h3]
  refine w_ ?_;intros;refine nmP 3 ?_;rintro b3 rfl;refine frzB b3 ?_;refine drawn0 (fun j=>!(List.contains [7,8] j)) [(0,true),(1,true),(2,true),(4,true),(5,true),(6,true),(3,false),(7,false),(8,false),(9,true)] rfl (by kernel_rfl) (by kernel_rfl) sA ?_;intro wd F hW hR;refine u_ ?_;intros;refine GX.gow ?_;refine (cl (of_spec _ v v.i.a) fun _=>?_);refine u_ ?_;intros;refine GX.gow ?_;refine (cl (of_spec _ v v.i.b) fun _=>?_);refine u_ ?_;intros;refine GX.gow ?_;refine (cl (into_spec _ _) fun _=>?_);refine u_ ?_;intros;refine w_ ?_;intros;exact rt1 () (vI e)
 by_cases h4:v.i.op=4
 ·have e:Fits v.t v.u v.i<->Two v.u v.i:=by unfold Fits;rw[if_neg h1,if_neg h2,if_neg h3,if_pos h4]
  refine w_ ?_;intros;refine GX.o (cl (two_spec _ v) fun _=>?_);refine w_ ?_;intros;exact rt1 () (vI e)
 by_cases h5:v.i.op=5
 ·have e:Fits v.t v.u v.i<->(v.i.n=12\/v.i.n=13)/\RtM.of v.u v.i.a=-2/\RtM.of v.u v.i.b=-2:=by unfold Fits;rw[if_neg h1,if_neg h2,if_neg h3,if_neg h4,if_pos h5]
  by_cases g1:v.i.n=12
  ·refine w_ ?_;intros;refine GX.o (cl (plain_spec _ v _ _ _ [v.i.a,v.i.b] rfl) fun _=>?_);refine w_ ?_;intros;exact rt1 () (vI (e.trans ⟨fun h=>plain2.2 h.2,fun h=>⟨.inl g1,plain2.1 h⟩⟩))
  ·by_cases g2:v.i.n=13
   ·refine w_ ?_;intros;refine GX.o (cl (plain_spec _ v _ _ _ [v.i.a,v.i.b] rfl) fun _=>?_);refine w_ ?_;intros;exact rt1 () (vI (e.trans ⟨fun h=>plain2.2 h.2,fun h=>⟨.inr g2,plain2.1 h⟩⟩))
   ·refine w_ ?_;intros;exact rt1 () (vN fun h=>(e.1 h).1.elim g1 g2)
 by_cases h6:v.i.op=6
 ·have e:Fits v.t v.u v.i<->Loads v.t v.u v.i.a v.i.b false v.i.c:=by unfold Fits;rw[if_neg h1,if_neg h2,if_neg h3,if_neg h4,if_neg h5,if_pos h6]
  refine w_ ?_;intros;refine GX.o (cl (loads_spec _ v _ _ _ _) fun _=>?_);refine w_ ?_;intros;exact rt1 () (vI e)
 by_cases h7:v.i.op=7
 ·have e:Fits v.t v.u v.i<->Lays v.t v.u v.i.a false v.i.c v.i.b:=by unfold Fits;rw[if_neg h1,if_neg h2,if_neg h3,if_neg h4,if_neg h5,if_neg h6,if_pos h7]
  refine w_ ?_;intros;refine GX.o (cl (lays_spec _ v _ _ _ _) fun _=>?_);refine w_ ?_;intros;exact rt1 () (vI e)
 by_cases h8:v.i.op=8
 ·have e:Fits v.t v.u v.i<->RtM.of v.u v.i.c=-2/\Loads v.t v.u v.i.a v.i.b true 0:=by unfold Fits;rw[if_neg h1,if_neg h2,if_neg h3,if_neg h4,if_neg h5,if_neg h6,if_neg h7,if_pos h8]
  refine w_ ?_;intros;refine GX.o (cl (plain_spec _ v _ _ _ [v.i.c] rfl) fun _=>?_);by_cases g1:Plain v.u [v.i.c]
  ·refine w_ ?_;intros;refine GX.o (cl (loads_spec _ v _ _ _ _) fun _=>?_);refine w_ ?_;intros;exact rt1 () (vI (e.trans ⟨fun h=>h.2,fun h=>⟨plain1.1 g1,h⟩⟩))
  ·refine w_ ?_;intros;exact rt1 () (vN fun h=>g1 (plain1.2 (e.1 h).1))
 by_cases h9:v.i.op=9
 ·have e:Fits v.t v.u v.i<->RtM.of v.u v.i.b=-2/\Lays v.t v.u v.i.a true 0 v.i.c:=by unfold Fits;rw[if_neg h1,if_neg h2,if_neg h3,if_neg h4,if_neg h5,if_neg h6,if_neg h7,if_neg h8,if_pos h9]
  refine w_ ?_;intros;refine GX.o (cl (plain_spec _ v _ _ _ [v.i.b] rfl) fun _=>?_);by_cases g1:Plain v.u [v.i.b]
  ·refine w_ ?_;intros;refine GX.o (cl (lays_spec _ v _ _ _ _) fun _=>?_);refine w_ ?_;intros;exact rt1 () (vI (e.trans ⟨fun h=>h.2,fun h=>⟨plain1.1 g1,h⟩⟩))
  ·refine w_ ?_;intros;exact rt1 () (vN fun h=>g1 (plain1.2 (e.1 h).1))
 by_cases h10:v.i.op=10
 ·have e:Fits v.t v.u v.i<->(cell v.t v.u v.i.b true 0).2.2=true/\RtM.of v.u v.i.a=-2:=by unfold Fits;rw[if_neg h1,if_neg h2,if_neg h3,if_neg h4,if_neg h5,if_neg h6,if_neg h7,if_neg h8,if_neg h9,if_pos h10]
  refine w_ ?_;intros;refine GX.o (cl (length_spec _ v) fun _=>?_);refine w_ ?_;intros;exact rt1 () (vI e)
 by_cases h11:v.i.op=11
 ·have e:Fits v.t v.u v.i<->Fresh v.t v.u v.i false:=by unfold Fits;rw[if_neg h1,if_neg h2,if_neg h3,if_neg h4,if_neg h5,if_neg h6,if_neg h7,if_neg h8,if_neg h9,if_neg h10,if_pos h11]
  refine w_ ?_;intros;refine GX.o (cl (fresh_spec _ v _) fun _=>?_);refine w_ ?_;intros;exact rt1 () (vI e)
 by_cases h12:v.i.op=12
 ·have e:Fits v.t v.u v.i<->Fresh v.t v.u v.i true/\RtM.of v.u v.i.b=-2:=by unfold Fits;rw[if_neg h1,if_neg h2,if_neg h3,if_neg h4,if_neg h5,if_neg h6,if_neg h7,if_neg h8,if_neg h9,if_neg h10,if_neg h11,if_pos h12]
  refine w_ ?_;intros;refine GX.o (cl (fresh_spec _ v _) fun _=>?_);by_cases g1:Fresh v.t v.u v.i true
  ·refine w_ ?_;intros;refine GX.o (cl (plain_spec _ v _ _ _ [v.i.b] rfl) fun _=>?_);refine w_ ?_;intros;exact rt1 () (vI (e.trans ⟨fun h=>plain1.2 h.2,fun h=>⟨g1,plain1.1 h⟩⟩))
  ·refine w_ ?_;intros;exact rt1 () (vN fun h=>g1 (e.1 h).1)
 have e:Fits v.t v.u v.i<->Goes v.t v.u v.i:=by unfold Fits;rw[if_neg h1,if_neg h2,if_neg h3,if_neg h4,if_neg h5,if_neg h6,if_neg h7,if_neg h8,if_neg h9,if_neg h10,if_neg h11,if_neg h12]
 refine w_ ?_;intros;refine GX.o (cl (goes_spec _ v) fun _=>?_);refine w_ ?_;intros;exact rt1 () (vI e)
end Go.Proofs.YtojfbbggnkijeaaGreatDoor
namespace Go.Proofs.YtojfbbggnkijeaaGreatDoor
open Go Go.RR Go.RX Go.GX
attribute [local irreducible] wpList Code.wp wpPlan Exit.then Exit.inBlock bodyPost NoPanic Went GX.Post Again Meet RowR GX.Own Owns Box Sl Pt Ag MapR Kept Pin wpT GoK AtEnd Both
theorem clone_spec (ao:Option Addr)(cap:Nat)(xs:List Int)(hl:xs.length<=17592186043904):Does Tryz.prog 97 [.slice ao xs.length cap] [Sl Ty.int ao cap xs] []
  (fun s:Option Addr×Nat=>.slice s.1 xs.length s.2) (fun _=>[]) (fun s=>[GX.Own 3 Ty.int s.1 s.2 xs]):=by
 refine enter Tryz.func97 rfl Tryz.ntmps97 rfl fun b=>?_;refine sln ao fun h1 h2 h3=>?_
 cases ao with
 |none=>
  have hx:xs=[]:=Classical.byContradiction fun h=>by obtain⟨_,_,h⟩:=h3 h;cases h
  subst hx;rw[List.length_nil];have hc:cap=cap:=rfl;refine w_ ?_;intros;refine ownNil 3 Ty.int ?_;exact rt1 (none,0) rfl
 |some a=>
  refine w_ ?_ 4;intros;exact rt1 (_,_) rfl
end Go.Proofs.YtojfbbggnkijeaaGreatDoor
namespace Go.Proofs.YtojfbbggnkijeaaGreatDoor
open Go Go.RR Go.RX Go.GX Go.RiseM Go.ReachM
attribute [local irreducible] wpList Code.wp wpPlan Exit.then Exit.inBlock bodyPost NoPanic Went GX.Post Again Meet RowR GX.Own Owns Box Sl Pt Ag MapR Kept Pin wpT GoK AtEnd Both
theorem isClassR_spec (ao:Option Addr)(cap:Nat)(f:List (List Int))(c:Int):Does Tryz.prog 198 [.slice ao f.length cap,.int .i64 c] [Sl (Ty.slice Ty.int) ao cap f] []
  (fun _:Unit=>.bool (decide (0<=c/\c<f.length))) (fun _=>[]) (fun _=>[]):=by
 refine enter Tryz.func198 rfl Tryz.ntmps198 rfl fun b=>?_;by_cases h1:0<=c
 ·have e:decide (0<=c/\c<f.length)=decide (c<f.length):=decide_eq_decide.2 ⟨fun h=>h.2,fun h=>⟨h1,h⟩⟩;rw[e];refine w_ ?_;intros;exact rt1 () rfl
 ·have e:decide (0<=c/\c<f.length)=false:=decide_eq_false fun h=>h1 h.1;rw[e];refine w_ ?_;intros;exact rt1 () rfl
structure RcS where
 m:List Bool
 w:List Int
 ao:Option Addr
 cap:Nat
def total (f:List (List Int)):Nat:=(f.map List.length).sum
set_option maxHeartbeats 1000000 in
structure LiS where
 i:Nat
 ao:Option Addr
 cap:Nat
theorem from_spec (ao ar:Option Addr)(cap car:Nat)(f:List (List Int))(r:List Int)(hf:f.length<=1073741824)(ht:total f<=1073741824)(hr:r.length<=1073741824):Does Tryz.prog 113 [.slice ao f.length cap,.slice ar r.length car] [Sl (Ty.slice Ty.int) ao cap f,Sl Ty.int ar car r] []
  (fun s:Option Addr×Nat=>.slice s.1 (fromL f r).length s.2) (fun _=>[]) (fun s=>[GX.Own 3 Ty.int s.1 s.2 (fromL f r)]):=by
 refine enter Tryz.func113 rfl Tryz.ntmps113 rfl fun b=>?_;refine w_ ?_;intros;refine nmB 5 ?_;rintro b5 rfl;refine GX.o (cl (clone_spec ar car r (by omega)) fun s=>?_);obtain⟨a6,c6⟩:=s;dsimp only;refine w_ ?_;intros;have hw0:=wt_rep f f.length;refine GX.loop (σ:=RcS) (fun s=>[(0,.slice ao f.length cap),(5,.slice (some ⟨b5,0,none⟩) f.length f.length),(6,.slice s.ao s.w.length s.cap)]) (fun _=>[])
  (fun s=>[GX.Own 4 Ty.bool (some ⟨b5,0,none⟩) f.length s.m,GX.Own 3 Ty.int s.ao s.cap s.w]) (fun s=>Wk f r s.m s.w/\s.w.length+wt f s.m<=r.length+total f) (fun s=>s.w.length+wt f s.m)
  ⟨List.replicate f.length false,r,a6,c6⟩ ⟨rfl,rfl,rfl,trivial⟩ ⟨Wk.first f r,by dsimp only[total];omega⟩ (fun s hs=>?_)
 obtain⟨m,w,aw,cw⟩:=s;obtain⟨hW,hc⟩:=hs;dsimp only at *;have hll:=hW.len
 rcases List.eq_nil_or_concat w with rfl|⟨w,x,rfl⟩
 ·rw[<- hW.done,List.length_nil];refine w_ ?_;intros;refine ownNil 3 Ty.int ?_;rw[hll];refine GX.loop (σ:=LiS) (fun s=>[(8,.slice s.ao (marked m s.i).length s.cap),(49,.slice (some ⟨b5,0,none⟩) f.length f.length),(50,.int .i64 (f.length:Int)),(51,.int .i64 (s.i:Int))]) (fun _=>[])
   (fun s=>[GX.Own 4 Ty.bool (some ⟨b5,0,none⟩) f.length m,GX.Own 3 Ty.int s.ao s.cap (marked m s.i)]) (fun s=>s.i<=f.length) (fun s=>f.length-s.i) ⟨0,none,0⟩ ⟨rfl,rfl,rfl,rfl,trivial⟩ (by simp) (fun s hs=>?_)
  obtain⟨i,al,cl'⟩:=s;dsimp only at *;have hml:=marked_len m i;have hms:=marked_succ m i;by_cases hlt:i<f.length
  ·obtain⟨v,hv⟩:=get_lt (show i<m.length by omega)
   cases v with
   |true=>
    rw[if_pos hv] at hms;refine w_ ?_;intros;rw[<- hms];refine nmS 8 ?_;rintro a8 c8 rfl rfl;refine w_ ?_;intros;exact again ⟨i+1,a8,c8⟩ ⟨rfl,rfl,rfl,rfl,trivial⟩ (by dsimp only;omega) (by dsimp only;omega)
   |false=>
    rw[if_neg (by rw[hv];simp),List.append_nil] at hms;refine w_ ?_;intros;exact again ⟨i+1,al,cl'⟩ ⟨by dsimp only;rw[hms];rfl,rfl,rfl,rfl,trivial⟩ (by dsimp only;omega) (by dsimp only;omega) (h2:=by dsimp only;rw[hms];exact sA)
  ·have hil:i=f.length:=by omega
   subst hil;refine w_ ?_;intros;exact rt1 (al,cl') rfl
 ·rw[List.concat_eq_append] at *;have hwl:(w++[x]).length=w.length+1:=by simp
  have hxi:(w++[x])[w.length]?=some x:=by simp
  refine GX.opn aw fun g1 g2 ha=>?_;obtain⟨h1,_⟩|⟨g,rfl⟩:=ha
  ·simp at h1
  rw[hwl] at hc g1 ⊢;refine w_ ?_;intros;refine GX.o (oh ?_);refine ownTake (some ⟨g,0,none⟩) w.length ?_;rw[List.take_left' rfl];refine w_ ?_;intros;refine GX.o (cl (isClassR_spec ao cap f x) fun _=>?_);by_cases hx:0<=x/\x<f.length
  ·obtain⟨c,rfl⟩:=Int.eq_ofNat_of_zero_le hx.1;obtain⟨l,hl⟩:=get_lt (show c<f.length by omega);obtain⟨v,hv⟩:=get_lt (show c<m.length by omega)
   cases v with
   |true=>
    refine w_ ?_;intros;exact again ⟨m,w,some ⟨g,0,none⟩,cw⟩ ⟨rfl,rfl,rfl,trivial⟩ ⟨hW.drop fun d hd _=>(show c=d by omega)▸hv,by dsimp only;omega⟩ (by dsimp only;omega)
   |false=>
    have hws:=wt_set hl hv;have hwl2:(w++l).length=w.length+l.length:=List.length_append;have htl:total f<=1073741824:=ht;refine w_ ?_;intros;refine nmS 6 ?_;rintro a8 c8 rfl rfl;exact again ⟨m.set c true,w++l,a8,c8⟩ ⟨rfl,rfl,rfl,trivial⟩ ⟨hW.mark hl,by dsimp only;omega⟩ (by dsimp only;omega)
  ·refine w_ ?_;intros;exact again ⟨m,w,some ⟨g,0,none⟩,cw⟩ ⟨rfl,rfl,rfl,trivial⟩ ⟨hW.drop fun d hd h=>absurd ⟨by omega,by omega⟩ hx,by dsimp only;omega⟩ (by dsimp only;omega)
end Go.Proofs.YtojfbbggnkijeaaGreatDoor
namespace Go.Proofs.YtojfbbggnkijeaaGreatDoor
open Go Go.RR Go.RX Go.GX
attribute [local irreducible] wpList Code.wp wpPlan Exit.then Exit.inBlock bodyPost NoPanic Went GX.Post Again Meet RowR GX.Own Owns Box Sl Pt Ag MapR Kept Pin wpT GoK AtEnd Both
theorem indexFunc_own (ao:Option Addr)(cap:Nat)(xs:List Int)(fid:Nat)(caps:List Value)(psC:List Pf)(hpC:List Res)(p:Int->Bool)[UFunc Tryz.prog fid]
  (hf:∀x∈xs,Does Tryz.prog fid (.int .i64 x::caps) psC hpC (fun _:Unit=>.bool (p x)) (fun _=>[]) (fun _=>hpC)):
  Does Tryz.prog 191 [.slice ao xs.length cap,.func (.func fid) #[] caps.toArray] psC (GX.Own 3 Ty.int ao cap xs::hpC) (fun _:Unit=>.int .i64 (idxF p xs)) (fun _=>[]) (fun _=>GX.Own 3 Ty.int ao cap xs::hpC):=by
 refine enter Tryz.func191 rfl Tryz.ntmps191 rfl fun b=>?_;refine GX.opn ao fun hl1 hl2 ha=>?_;refine w_ ?_;intros;refine GX.loop (σ:=Nat) (fun i=>[(0,.slice ao xs.length cap),(1,.func (.func fid) #[] caps.toArray),(7,.int .i64 (xs.length:Int)),(8,.int .i64 (i:Int))]) (fun _=>[]) (fun _=>GX.Own 3 Ty.int ao cap xs::hpC)
  (fun i=>i<=xs.length/\∀y∈xs.take i,p y=false) (fun i=>xs.length-i) 0 ⟨rfl,rfl,rfl,rfl,trivial⟩ ⟨by omega,by simp⟩ (fun i hi=>?_) (h2:=SelR.all _)
 obtain⟨hi,hn⟩:=hi;by_cases hlt:i<xs.length
 ·obtain⟨x,hx⟩:=get_lt hlt;obtain⟨h0,_⟩|⟨g,rfl⟩:=ha
  ·subst h0;simp at hlt
  refine w_ ?_;intros;refine GX.o (clvR (fs:=[]) (vs:=[.int .i64 x]) (cs:=caps) (hf x (List.mem_of_getElem? hx)) fun _=>?_);by_cases hp:p x=true
  ·refine w_ ?_;intros;exact rt1 () (congrArg (Value.int .i64) (idxF_some hx hp hn)) (h2:=SelR.all _)
  ·have hp:p x=false:=by simpa using hp
   refine w_ ?_;intros;exact again (i+1) ⟨rfl,rfl,rfl,rfl,trivial⟩ ⟨by omega,take_all_succ hx hp hn⟩ (by omega) (h2:=SelR.all _)
 ·have hil:i=xs.length:=by omega
  subst hil;refine w_ ?_;intros;rw[List.take_length] at hn;exact rt1 () (congrArg (Value.int .i64) (idxF_none hn)) (h2:=SelR.all _)
def kept (p:Int->Bool)(xs:List Int)(i:Nat):List Int:=(xs.take i).filter fun x=>!p x
theorem kept_succ {p:Int->Bool}{xs:List Int}{i:Nat}{x:Int}(hx:xs[i]?=some x):kept p xs (i+1)=kept p xs i++(if p x=true then [] else [x]):=by
 unfold kept;rw[List.take_add_one,hx,List.filter_append];congr 1;by_cases h:p x=true
 ·simp[h]
 ·have h:p x=false:=by simpa using h
  simp[h]
theorem kept_len (p:Int->Bool)(xs:List Int)(i:Nat)(hi:i<=xs.length):(kept p xs i).length<=i:=by
 have:=List.length_filter_le (fun x=>!p x) (xs.take i);unfold kept;rw[List.length_take] at this;omega
theorem deleteFunc_spec (ao:Option Addr)(cap:Nat)(xs:List Int)(fid:Nat)(caps:List Value)(psC:List Pf)(hpC:List Res)(p:Int->Bool)[UFunc Tryz.prog fid]
  (hf:∀x∈xs,Does Tryz.prog fid (.int .i64 x::caps) psC hpC (fun _:Unit=>.bool (p x)) (fun _=>[]) (fun _=>hpC)):
  Does Tryz.prog 114 [.slice ao xs.length cap,.func (.func fid) #[] caps.toArray] psC (GX.Own 3 Ty.int ao cap xs::hpC) (fun _:Unit=>.slice ao (kept p xs xs.length).length cap) (fun _=>[]) (fun _=>GX.Own 3 Ty.int ao cap (kept p xs xs.length)::hpC):=by
 refine enter Tryz.func114 rfl Tryz.ntmps114 rfl fun b=>?_;refine GX.opn ao fun hl1 hl2 ha=>?_;refine w_ ?_;intros;refine GX.o (clR (indexFunc_own ao cap xs fid caps psC hpC p hf) fun _=>?_)
 rcases hfi:xs.findIdx? p with _|i0
 ·have h1:idxF p xs=-1:=by unfold idxF;rw[hfi]
  have h2:kept p xs xs.length=xs:=by
   unfold kept;rw[List.take_length,List.filter_eq_self];intro x hx;have:=List.findIdx?_eq_none_iff.1 hfi x hx;simp[this]
  rw[h1,h2];refine w_ ?_;intros;exact rt1 () rfl (h2:=SelR.all _)
 ·have h1:idxF p xs=(i0:Int):=by unfold idxF;rw[hfi]
  obtain⟨hl,hp0,hb0⟩:=List.findIdx?_eq_some_iff_getElem.1 hfi;have hk0:kept p xs (i0+1)=xs.take i0:=by
   rw[kept_succ (List.getElem?_eq_getElem hl),if_pos hp0,List.append_nil];unfold kept;rw[List.filter_eq_self];intro x hx;obtain⟨j,hj,rfl⟩:=List.mem_take_iff_getElem.1 hx;have:=hb0 j (by omega);simp[this]
  have hk0l:(kept p xs (i0+1)).length=i0:=by rw[hk0,List.length_take];omega
  obtain⟨h0,_⟩|⟨g,rfl⟩:=ha
  ·subst h0;simp at hl
  rw[h1];refine w_ ?_;intros;refine GX.loop (σ:=Nat×List Int) (fun s=>[(0,.slice (some ⟨g,0,none⟩) xs.length cap),(1,.func (.func fid) #[] caps.toArray),(5,.int .i64 ((kept p xs s.1).length:Int)),(6,.int .i64 (s.1:Int))]) (fun _=>[]) (fun s=>GX.Own 3 Ty.int (some ⟨g,0,none⟩) cap s.2::hpC)
   (fun s=>s.1<=xs.length/\s.2.length=xs.length/\s.2.take (kept p xs s.1).length=kept p xs s.1/\s.2.drop s.1=xs.drop s.1) (fun s=>xs.length-s.1) (i0+1,xs) ⟨rfl,rfl,by rw[hk0l];rfl,rfl,trivial⟩ ⟨by dsimp only;omega,rfl,by dsimp only;rw[hk0l,hk0],rfl⟩ (fun s hs=>?_) (h2:=SelR.all _)
  obtain⟨i,ys⟩:=s;obtain⟨hi,hyl,htk,hdr⟩:=hs;dsimp only at *;have hkl:=kept_len p xs i hi;by_cases hlt:i<xs.length
  ·obtain⟨x,hx⟩:=get_lt hlt;have hy:ys[i]?=some x:=by
    have:=congrArg (·[0]?) hdr;simpa[List.getElem?_drop,hx] using this
   have hks:=kept_succ (p:=p) hx;refine w_ ?_;intros;refine GX.o (clvR (fs:=[]) (vs:=[.int .i64 x]) (cs:=caps) (hf x (List.mem_of_getElem? hx)) fun _=>?_);by_cases hp:p x=true
   ·rw[if_pos hp,List.append_nil] at hks;have hpn:(!p x)=false:=by rw[hp];rfl
    refine w_ ?_;intros;refine again (i+1,ys) ⟨rfl,rfl,by dsimp only;rw[hks];rfl,rfl,trivial⟩ ⟨by dsimp only;omega,hyl,by dsimp only;rw[hks];exact htk,?_⟩ (by dsimp only;omega) (h2:=SelR.all _);dsimp only;rw[<- List.drop_drop,hdr,List.drop_drop]
   ·have hp:p x=false:=by simpa using hp
    rw[if_neg (by rw[hp];simp)] at hks;have hkl2:(kept p xs (i+1)).length=(kept p xs i).length+1:=by rw[hks];simp
    have hpn:(!p x)=true:=by rw[hp];rfl
    refine w_ ?_;intros;refine again (i+1,ys.set (kept p xs i).length x) ⟨rfl,rfl,by dsimp only;rw[hkl2];rfl,rfl,trivial⟩ ⟨by dsimp only;omega,by simpa using hyl,?_,?_⟩ (by dsimp only;omega) (h2:=SelR.all _)
    ·dsimp only;rw[hkl2,List.take_add_one,List.getElem?_set_self (by omega),List.take_set_of_le (Nat.le_refl _),htk,hks];rfl
    ·dsimp only;rw[List.drop_set_of_lt (by omega),<-List.drop_drop,hdr,List.drop_drop]
  ·have hil:i=xs.length:=by omega
   subst hil;refine w_ ?_;intros;refine GX.o (ol fun o2 ho2=>?_);refine GX.o (clr (k0:=(kept p xs xs.length).length) (xs:=ys) (fun zs hzl hzt=>?_) rfl rfl rfl rfl (by omega));refine GX.nil ?_;refine ownTake (some ⟨g,0,none⟩) (kept p xs xs.length).length ?_;rw[hzt,htk];refine w_ ?_;intros;refine GX.o (oh ?_);refine w_ ?_;intros;exact rt1 () rfl (h2:=SelR.all _)
end Go.Proofs.YtojfbbggnkijeaaGreatDoor
namespace Go.Proofs.YtojfbbggnkijeaaGreatDoor
open Go Go.RR Go.RX Go.GX Go.Api Go.RiseM Go.ReachM Go.RtM
attribute [local irreducible] wpList Code.wp wpPlan Exit.then Exit.inBlock bodyPost NoPanic Went GX.Post Again Meet RowR GX.Own Owns Box Sl Pt Ag MapR Kept Pin wpT GoK AtEnd Both
theorem fields_spec (cs:List Value)(t:RTg)(hs:Small t):Does Tryz.prog 56 [.agg cs.toArray] [Ag tyRTg cs t] []
  (fun s:Option Addr×Nat=>.slice s.1 (flds t).length s.2) (fun s=>[Sl (Ty.slice Ty.int) s.1 s.2 (flds t)]) (fun _=>[]):=by
 have hc:=hs.classes;refine enter Tryz.func56 rfl Tryz.ntmps56 rfl fun b=>?_;refine w_ ?_;intros;refine nmS 7 ?_;rintro aC cC rfl rfl;refine ownNil 30 (Ty.slice Ty.int) ?_;refine GX.loop (σ:=Nat×Option Addr×Nat) (fun s=>[(3,.slice s.2.1 ((flds t).take s.1).length s.2.2),(7,.slice aC t.classes.length cC),(8,.int .i64 (t.classes.length:Int)),(9,.int .i64 (s.1:Int))]) (fun _=>[])
  (fun s=>[GX.Own 30 (Ty.slice Ty.int) s.2.1 s.2.2 ((flds t).take s.1)]) (fun s=>s.1<=t.classes.length) (fun s=>t.classes.length-s.1) (0,none,0) ⟨rfl,rfl,rfl,rfl,trivial⟩ (by simp) (fun s hs2=>?_)
 obtain⟨i,aF,cF⟩:=s;dsimp only at *;have hfl:=flds_len t;have htl:((flds t).take i).length=i:=by rw[List.length_take];omega
 by_cases hlt:i<t.classes.length
 ·obtain⟨L,hL⟩:=get_lt hlt;have hr:=hs.ref (List.mem_of_getElem? hL);have e:(flds t).take i++[L.refs]=(flds t).take (i+1):=by
   rw[List.take_add_one];unfold flds;rw[List.getElem?_map,hL];rfl
  refine w_ ?_;intros;refine nmS 15 ?_;rintro aR cR rfl rfl;refine GX.o (cl (clone_spec aR cR L.refs (by omega)) fun s=>?_);obtain⟨aN,cN⟩:=s;dsimp only;refine frz aN ?_;refine w_ ?_;intros;rw[e];refine nmS 18 ?_;rintro a3 c3 rfl rfl;refine w_ ?_;intros;exact again (i+1,a3,c3) ⟨rfl,rfl,rfl,rfl,trivial⟩ (by dsimp only;omega) (by dsimp only;omega)
 ·rw[List.take_of_length_le (by omega)];refine w_ ?_;intros;refine frz aF ?_;exact rt1 (aF,cF) rfl
theorem global_spec (cs:List Value)(t:RTg)(hs:Small t):Does Tryz.prog 55 [.agg cs.toArray] [Ag tyRTg cs t] []
  (fun s:Option Addr×Nat=>.slice s.1 (glob t).length s.2) (fun s=>[Sl Ty.int s.1 s.2 (glob t)]) (fun _=>[]):=by
 have hc:=hs.classes;have hg:=hs.globals;have hr:=hs.refs;have hfl:=flds_len t;refine enter Tryz.func55 rfl Tryz.ntmps55 rfl fun b=>?_;refine w_ ?_;intros;refine drawn0 (fun j=>!(List.contains [4] j)) [(0,true),(2,true),(3,true),(1,false),(4,false),(5,true)] rfl (by kernel_rfl) (by kernel_rfl) sA ?_;intro wd F hW hR;refine u_ ?_;intros;refine nmS 6 ?_;rintro aG cG rfl rfl;refine GX.gow ?_;refine (cl (fields_spec _ t hs) fun s=>?_);obtain⟨aF,cF⟩:=s;dsimp only;refine u_ ?_;intros;refine GX.gow ?_;refine (cl (from_spec aF aG cF cG (flds t) t.globals (by omega) hr hg) fun s=>?_);obtain⟨a2,c2⟩:=s;dsimp only;refine u_ ?_;intros;refine w_ ?_;intros;refine frz a2 ?_;exact rt1 (a2,c2) rfl
theorem out1_spec (bl:Nat)(g:List Int)(n:Int):Does Tryz.prog 115 [.int .i64 n,.pointer (some ⟨bl,0,none⟩)] [Pt (Ty.slice Ty.int) bl 0 g] [] (fun _:Unit=>.bool (decide (n∈g))) (fun _=>[]) (fun _=>[]):=by
 refine enter Tryz.func115 rfl Tryz.ntmps115 rfl fun b=>?_;refine w_ ?_;intros;refine nmS 4 ?_;rintro ao cap rfl rfl;refine GX.o (cl (contains_spec ao cap g n) fun _=>?_);refine w_ ?_;intros;exact rt1 () rfl
theorem out_kept (t:RTg)(u:Unt):kept (fun n=>decide (n∈glob t)) (fromL (flds t) (roots u)) (fromL (flds t) (roots u)).length=outOf t u:=by
 unfold kept outOf;rw[List.take_length];exact List.filter_congr fun x _=>by by_cases h:x∈glob t<;>simp[h]
set_option maxHeartbeats 1000000 in
theorem out_spec (cs:List Value)(t:RTg)(hs:Small t)(k:Int):Does Tryz.prog 54 [.agg cs.toArray,.int .i64 k] [Ag tyRTg cs t] []
  (fun s:Option Addr×Nat=>.slice s.1 (out t k).length s.2) (fun s=>[Sl Ty.int s.1 s.2 (out t k)]) (fun _=>[]):=by
 by_cases h1:k<0
 ·rw[out_none (.inl h1)];refine enter Tryz.func54 rfl Tryz.ntmps54 rfl fun b=>?_;refine w_ ?_;intros;refine slNil Ty.int ?_;exact rt1 (none,0) rfl
 by_cases h2:(t.units.length:Int)<=k
 ·rw[out_none (.inr h2)];refine enter Tryz.func54 rfl Tryz.ntmps54 rfl fun b=>?_;refine w_ ?_;intros;refine slNil Ty.int ?_;exact rt1 (none,0) rfl
 obtain⟨k,rfl⟩:=Int.eq_ofNat_of_zero_le (show 0<=k by omega);obtain⟨u,hu⟩:=get_lt (show k<t.units.length by omega);rw[out_some hu];have hc:=hs.classes;have hr:=hs.refs;have hfl:=flds_len t;have hp:=pars_le u;have hul:=(hs.unit u (List.mem_of_getElem? hu)).1;have hpe:((pars u:Nat):Int)=min (max u.params 0) (u.vars.length:Int):=by unfold pars;omega
 have hrl:=roots_len u;have htk:(u.vars.take (min (max u.params 0) (u.vars.length:Int)).toNat).length<=1073741824:=by rw[List.length_take];omega
 have hro:u.vars.take (min (max u.params 0) (u.vars.length:Int)).toNat++[u.result]=roots u:=rfl;refine enter Tryz.func54 rfl Tryz.ntmps54 rfl fun b=>?_;refine w_ ?_;intros;refine GX.o (cl (global_spec _ t hs) fun s=>?_);obtain⟨aG,cG⟩:=s;dsimp only;refine w_ ?_;intros;refine nmP 5 ?_;rintro b5 rfl;refine nmP 7 ?_;rintro b7 rfl;refine frzB b5 ?_;refine frzB b7 ?_;refine GX.drawnT (fun j=>!(List.contains [] j)) (.br [(0,true),(2,true),(3,true),(4,true),(5,true),(7,true),(8,true)] (.alt 1 (.br [] (.alt 6 (.lin [(9,false),(10,false),(11,false),(12,true)]) (.alt 9 (.lin [(6,false),(10,false),(11,false),(12,true)]) .nil))) (.alt 9 (.lin [(1,false),(6,false),(10,false),(11,false),(12,true)]) .nil))) (by kernel_rfl) (by kernel_rfl) ?_;intro wd F hW hR;refine u_ ?_;intros;refine GX.treeA ?_ ?_
 ·refine gok ?_;refine (cl (fields_spec _ t hs) fun s=>?_);obtain⟨aF,cF⟩:=s;dsimp only;refine u_ ?_;intros;refine GX.treeA ?_ ?_
  ·refine gok ?_;refine (cl (clone_spec _ _ (u.vars.take (min (max u.params 0) (u.vars.length:Int)).toNat) (by omega)) fun s=>?_);obtain⟨aV,cV⟩:=s;dsimp only;refine u_ ?_;intros;refine nmS 42 ?_;rintro aL cL rfl rfl;rw[hro];refine frz aL ?_;refine GX.gow ?_;refine (cl (from_spec aF aL cF cL (flds t) (roots u) (by omega) hr (by omega)) fun s=>?_);obtain⟨aR,cR⟩:=s;dsimp only;refine u_ ?_;intros;refine w_ ?_;intros;refine GX.o (cl (deleteFunc_spec aR cR (fromL (flds t) (roots u)) 115 [.pointer (some ⟨b7,0,none⟩)] [Pt (Ty.slice Ty.int) b7 0 (glob t)] [] (fun n=>decide (n∈glob t)) (fun n _=>out1_spec b7 (glob t) n)) fun _=>?_);rw[out_kept];refine w_ ?_;intros;refine frz aR ?_;exact rt1 (aR,cR) rfl
  ·refine u_ ?_;intros;refine GX.gow ?_;refine (cl (clone_spec _ _ (u.vars.take (min (max u.params 0) (u.vars.length:Int)).toNat) (by omega)) fun s=>?_);obtain⟨aV,cV⟩:=s;dsimp only;refine u_ ?_;intros;refine nmS 42 ?_;rintro aL cL rfl rfl;rw[hro];refine frz aL ?_;refine GX.gow ?_;refine (cl (from_spec aF aL cF cL (flds t) (roots u) (by omega) hr (by omega)) fun s=>?_);obtain⟨aR,cR⟩:=s;dsimp only;refine u_ ?_;intros;refine w_ ?_;intros;refine GX.o (cl (deleteFunc_spec aR cR (fromL (flds t) (roots u)) 115 [.pointer (some ⟨b7,0,none⟩)] [Pt (Ty.slice Ty.int) b7 0 (glob t)] [] (fun n=>decide (n∈glob t)) (fun n _=>out1_spec b7 (glob t) n)) fun _=>?_);rw[out_kept];refine w_ ?_;intros;refine frz aR ?_;exact rt1 (aR,cR) rfl
 ·refine u_ ?_;intros;refine GX.gow ?_;refine (cl (fields_spec _ t hs) fun s=>?_);obtain⟨aF,cF⟩:=s;dsimp only;refine u_ ?_;intros;refine GX.gow ?_;refine (cl (clone_spec _ _ (u.vars.take (min (max u.params 0) (u.vars.length:Int)).toNat) (by omega)) fun s=>?_);obtain⟨aV,cV⟩:=s;dsimp only;refine u_ ?_;intros;refine nmS 42 ?_;rintro aL cL rfl rfl;rw[hro];refine frz aL ?_;refine GX.gow ?_;refine (cl (from_spec aF aL cF cL (flds t) (roots u) (by omega) hr (by omega)) fun s=>?_);obtain⟨aR,cR⟩:=s;dsimp only;refine u_ ?_;intros;refine w_ ?_;intros;refine GX.o (cl (deleteFunc_spec aR cR (fromL (flds t) (roots u)) 115 [.pointer (some ⟨b7,0,none⟩)] [Pt (Ty.slice Ty.int) b7 0 (glob t)] [] (fun n=>decide (n∈glob t)) (fun n _=>out1_spec b7 (glob t) n)) fun _=>?_);rw[out_kept];refine w_ ?_;intros;refine frz aR ?_;exact rt1 (aR,cR) rfl
end Go.Proofs.YtojfbbggnkijeaaGreatDoor
namespace Go.Proofs.YtojfbbggnkijeaaGreatDoor
open Go Go.RowKit Go.RR Go.RX Go.GX Go.Api
theorem build_view (w:World)(a0 a1 a2 a3 b0 b1 b2 b3 b4 b5 c0 c1 c2 c3 c4 c5:Value):
  (Instr.build 310 #[(0,.agg #[a0,a1,a2,a3]),(1,.agg #[b0,b1,b2,b3,b4,b5]),(2,.agg #[c0,c1,c2,c3,c4,c5])]).run Tryz.prog w=.ok (.agg #[a0,a1,a2,a3,b0,b1,b2,b3,b4,b5,c0,c1,c2,c3,c4,c5]) w:=by
 simp[Instr.build,Instr.fill,Value.cells]<;>rfl
theorem list4 {cs:List Value}(h:cs.length=4):∃a b c d,cs=[a,b,c,d]:=by
 match cs,h with
 |[a,b,c,d],_=>exact⟨a,b,c,d,rfl⟩
theorem list6 {cs:List Value}(h:cs.length=6):∃a b c d e f,cs=[a,b,c,d,e,f]:=by
 match cs,h with
 |[a,b,c,d,e,f],_=>exact⟨a,b,c,d,e,f,rfl⟩
theorem bdv {n:Nat}{env:Env}{b:Base}{ps:List Pf}{hp:List Res}{Q:Exit->Act->World->Prop}{K:Act->World->Prop}{d:Nat}{ty:TypeId}{pos:String}{aft:Array Edge}{gd:Option (Nat×Bool)}{x y z:Operand}{c1 c2 c3:List Value}{t:RTg}{u:Unt}{i:Ins}
  (h:∀cs:List Value,G n ((d,.agg cs.toArray)::env) b (Ag tyRtView cs ⟨t,u,i⟩::ps) hp K) (hx:ev env x=some (.agg c1.toArray):=by exact rfl) (hy:ev env y=some (.agg c2.toArray):=by exact rfl) (hz:ev env z=some (.agg c3.toArray):=by exact rfl)
  (f1:FAg c1 ps tyRTg t:=by exact inferInstance) (f2:FAg c2 ps tyUnt u:=by exact inferInstance) (f3:FAg c3 ps tyIns i:=by exact inferInstance) (hd:Nat.blt d n=true:=by exact rfl):
  GO Tryz.prog n env b ps hp ⟨some d,.build 310 [(0,x),(1,y),(2,z)].toArray,ty,pos,aft,gd⟩ K Q:=by
 refine rd (ι:=Unit) (val:=fun _=>.agg (c1++(c2++c3)).toArray) (pf:=fun _=>[Ag tyRtView (c1++(c2++c3)) ⟨t,u,i⟩]) ?_ hd (fun _=>h _);intro F w h1 _;have r1:tyRTg.rd F w c1 t:=h1 _ f1.mem;have r2:tyUnt.rd F w c2 u:=h1 _ f2.mem;have r3:tyIns.rd F w c3 i:=h1 _ f3.mem;refine⟨(),one_p (co_rd (pair_rd rfl r1 (pair_rd rfl r2 (pair_rd (c2:=[]) (by simp) r3 unit_rd)))),?_⟩;obtain⟨a0,a1,a2,a3,rfl⟩:=list4 (tyRTg.len r1);obtain⟨b0,b1,b2,b3,b4,b5,rfl⟩:=list6 (tyUnt.len r2);obtain⟨e0,e1,e2,e3,e4,e5,rfl⟩:=list6 (tyIns.len r3);refine RX.build (pv:=[(0,.agg #[a0,a1,a2,a3]),(1,.agg #[b0,b1,b2,b3,b4,b5]),(2,.agg #[e0,e1,e2,e3,e4,e5])]) ?_ (fun w'=>build_view w' a0 a1 a2 a3 b0 b1 b2 b3 b4 b5 e0 e1 e2 e3 e4 e5);simp[RX.evp,hx,hy,hz]
end Go.Proofs.YtojfbbggnkijeaaGreatDoor
