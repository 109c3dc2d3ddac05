import Derived.Test.YtojfbbggnkijeaaGreatDoorZ28
import Derived.Test.YtojfbbggnkijeaaGreatDoorZ29
set_option linter.all false
namespace Go.Proofs.YtojfbbggnkijeaaGreatDoor
open Go Go.RR Go.RX Go.GX Go.Api Go.RiseM Go.ReachM Go.RtM Go.LivM
attribute [local irreducible] wpList Code.wp wpPlan Exit.then Exit.inBlock bodyPost NoPanic Went GX.Post Again Meet RowR GX.Own Owns Box Sl Pt Ag MapR Kept Pin wpT GoK AtEnd Both
theorem puts_le (l:List Int):(puts l).length<=l.length:=by
 unfold puts;have key:∀(l acc:List Int),(l.foldl put acc).length<=acc.length+l.length:=by
  intro l
  induction l with
  |nil=>simp
  |cons x l ih=>
   intro acc;have:=ih (put acc x);have:=put_len acc x;simp only[List.foldl_cons,List.length_cons];omega
 simpa using key l []
structure InsOk (t:RTg)(x:Ins):Prop where
 args:x.args.length<=100000
 call:x.op=13->∃(j:Nat) (g:Unt),x.c=(j:Int)/\t.units[j]?=some g
structure PsS (t:RTg)(k:Int)(u:Unt)(x:Ins)(s:Api.State) where
 a:Option Addr
 c:Nat
 l:List Int
 r:Bool
 hr:r=decide (GuaM.Passes t k u x s)
 hl:r=true->l=GuaM.alive x s.live
set_option maxHeartbeats 2000000 in
theorem passes_spec (bl:Nat)(v:GV)(t:RTg)(u:Unt)(k:Int)(w:Value)(cs ss:List Value)(x:Ins)(s:Api.State)(hs:Small t)(hx:InsOk t x)(hg:(glob t).length<=100000)(hv:s.live.length<=100000)(hu:u.takes.length<=100000):
  Does Tryz.prog 122 [.pointer (some ⟨bl,0,none⟩),.agg cs.toArray,.agg ss.toArray] [Ag tyIns cs x,Ag tyState ss s,Sl tyUnt v.aU v.cU t.units,Sl Ty.int v.aV v.cV u.vars,Sl Ty.int v.aT v.cT u.takes,Sl tyIns v.aI v.cI u.ins,Sl tyIns v.aJ v.cJ u.ins,Sl (Ty.slice Ty.int) v.aF v.cF (flds t),Sl Ty.int v.aS v.cS (GuaM.both (glob t) (out t k)),Sl Ty.int v.aL v.cL (glob t),Sl (Ty.slice Ty.int) v.aX v.cX (outs t)] [RowR bl 151 (gcl t u k v (w))]
   (fun q:PsS t k u x s=>.tuple #[.slice q.a q.l.length q.c,.bool q.r]) (fun q=>[Sl Ty.int q.a q.c q.l]) (fun _=>[RowR bl 151 (gcl t u k v (w))]):=by
 refine enter Tryz.func122 rfl Tryz.ntmps122 rfl fun b=>?_;have hxa:=hx.args;refine w_ ?_;intros;refine drawn0 (fun j=>!(List.contains [4] j)) [(0,true),(2,true),(3,true),(1,false),(4,false)] rfl (by kernel_rfl) (by kernel_rfl) sA ?_;intro wd F hW hR;refine u_ ?_;intros;refine GX.gow ?_;refine (cl (uses_spec _ x (by omega)) fun q=>?_);obtain⟨a2,c2⟩:=q;dsimp only;refine u_ ?_;intros;refine nmS 13 ?_;rintro aS cS rfl rfl;refine GX.gow ?_;refine (cl (gsome_spec a2 aS c2 cS (uses x) s.stale) fun _=>?_);refine u_ ?_;intros;refine nmP 4 ?_;rintro b4 rfl;refine nmP 5 ?_;rintro b5 rfl;by_cases hst:∃n,n∈uses x/\n∈s.stale
 ·refine w_ ?_;intros;refine slNil Ty.int ?_;exact rt2 ⟨none,0,[],false,(decide_eq_false fun h=>by obtain⟨n,h1,h2⟩:=hst;exact h.2 n h1 h2).symm,fun h=>by cases h⟩ rfl
 have hU:∀n∈uses x,n∉s.stale:=fun n h1 h2=>hst ⟨n,h1,h2⟩;have hP:GuaM.Passes t k u x s<->GuaM.CondL t k u x s.live:=⟨fun h=>h.1,fun h=>⟨h,hU⟩⟩;by_cases e21:x.op=21
 ·have hA:GuaM.alive x s.live=puts (s.live++x.args):=by unfold GuaM.alive;rw[if_pos e21];rfl
  have hC:GuaM.CondL t k u x s.live<->(∀c∈x.args,c∉s.live)/\GuaM.Closed t k (puts (s.live++x.args)):=by unfold GuaM.CondL;rw[if_pos e21];rfl
  have hpl:=puts_le (s.live++x.args);rw[List.length_append] at hpl;refine w_ ?_;intros;refine nmS 20 ?_;rintro aL cL rfl rfl;refine nmS 22 ?_;rintro aR cR rfl rfl;refine GX.o (cl (both_spec aL aR cL cR s.live x.args (by omega) (by omega)) fun q=>?_);obtain⟨a6,c6⟩:=q;dsimp only;refine w_ ?_;intros;refine nmS 26 ?_;rintro aR2 cR2 rfl rfl;refine nmS 28 ?_;rintro aL2 cL2 rfl rfl;refine GX.o (cl (gsome_spec aR2 aL2 cR2 cL2 x.args s.live) fun _=>?_);by_cases h2:∃n,n∈x.args/\n∈s.live
  ·have h2':¬ ¬ ∃n,n∈x.args/\n∈s.live:=fun h=>h h2;refine w_ ?_;intros;exact rt2 ⟨a6,c6,_,false,(decide_eq_false (by rw[hP,hC];rintro⟨h3,_⟩;obtain⟨n,h4,h5⟩:=h2;exact h3 n h4 h5)).symm,fun h=>by cases h⟩ rfl
  ·refine w_ ?_;intros;refine GX.o (cl (closed_spec bl v t u k w a6 c6 (puts (s.live++x.args)) hs (by omega)) fun _=>?_);refine w_ ?_;intros;exact rt2 ⟨a6,c6,_,decide (GuaM.Closed t k (puts (s.live++x.args))),decide_eq_decide.2 (by rw[hP,hC];exact⟨fun h=>⟨fun c h4 h5=>h2 ⟨c,h4,h5⟩,h⟩,fun h=>h.2⟩),fun _=>hA.symm⟩ rfl
 by_cases e22:x.op=22
 ·have hA:GuaM.alive x s.live=GuaM.minus s.live x.args:=by unfold GuaM.alive;rw[if_neg e21,if_pos e22]
  have hC:GuaM.CondL t k u x s.live<->(∀c∈x.args,c∈s.live)/\GuaM.Closed t k (GuaM.minus s.live x.args):=by unfold GuaM.CondL;rw[if_neg e21,if_pos e22]
  have hml:(GuaM.minus s.live x.args).length<=s.live.length:=List.length_filter_le _ _;refine w_ ?_;intros;refine nmS 39 ?_;rintro aL cL rfl rfl;refine nmS 41 ?_;rintro aR cR rfl rfl;refine GX.o (cl (gminus_spec aL aR cL cR s.live x.args (by omega)) fun q=>?_);obtain⟨a6,c6⟩:=q;dsimp only;refine w_ ?_;intros;refine nmS 45 ?_;rintro aR2 cR2 rfl rfl;refine nmS 47 ?_;rintro aL2 cL2 rfl rfl;refine GX.o (cl (gall_spec aR2 aL2 cR2 cL2 x.args s.live) fun _=>?_);by_cases h2:∀n∈x.args,n∈s.live
  ·refine w_ ?_;intros;refine GX.o (cl (closed_spec bl v t u k w a6 c6 (GuaM.minus s.live x.args) hs (by omega)) fun _=>?_);refine w_ ?_;intros;exact rt2 ⟨a6,c6,_,decide (GuaM.Closed t k (GuaM.minus s.live x.args)),decide_eq_decide.2 (by rw[hP,hC];exact⟨fun h=>⟨h2,h⟩,fun h=>h.2⟩),fun _=>hA.symm⟩ rfl
  ·refine w_ ?_;intros;exact rt2 ⟨a6,c6,_,false,(decide_eq_false (by rw[hP,hC];exact fun h=>h2 h.1)).symm,fun h=>by cases h⟩ rfl
 have hA:s.live=GuaM.alive x s.live:=by unfold GuaM.alive;rw[if_neg e21,if_neg e22]
 by_cases e13:x.op=13
 ·have hC:GuaM.CondL t k u x s.live<->GuaM.CallC t k u x s.live:=by unfold GuaM.CondL;rw[if_neg e21,if_neg e22,if_neg (by omega),if_pos e13]
  obtain⟨j,g,hj,hg2⟩:=hx.call e13;refine w_ ?_;intros;refine drawn1 (RowR bl 151 (gcl t u k v (w))) (fun j=>!(List.contains [] j)) [(0,true),(1,true),(2,true),(3,true),(4,true),(5,true),(6,false),(7,true),(8,true)] rfl (by kernel_rfl) (by kernel_rfl) sA ?_;intro wd F hW hR;refine u_ ?_;intros;refine nmS 78 ?_;rintro a7 c7 rfl rfl;refine nmA 80 ?_;rintro cs2 rfl;refine nmS 82 ?_;rintro aL cL rfl rfl;refine unpin (RowR bl 151 (gcl t u k v (w))) ?_;refine GX.gow ?_;refine (cl (gcall_spec bl v t u k w aL cL s.live cs2 x g j hj hg2 (by omega) (by omega)) fun _=>?_);refine u_ ?_;intros;refine w_ ?_;intros;exact rt2 ⟨a7,c7,s.live,decide (GuaM.CallC t k u x s.live),decide_eq_decide.2 (by rw[hP,hC]),fun _=>hA⟩ rfl
 by_cases e18:x.op=18
 ·have hC:GuaM.CondL t k u x s.live<->s.live=[]:=by unfold GuaM.CondL;rw[if_neg e21,if_neg e22,if_neg (by omega),if_neg e13,if_pos e18]
  refine w_ ?_;intros;refine drawn0 (fun j=>!(List.contains [] j)) [(0,true),(1,true),(2,true),(3,true),(4,true),(5,true),(6,true),(7,true)] rfl (by kernel_rfl) (by kernel_rfl) sA ?_;intro wd F hW hR;refine u_ ?_;intros;refine w_ ?_;intros;refine nmS 87 ?_;rintro a7 c7 rfl rfl;exact rt2 ⟨a7,c7,s.live,decide ((s.live.length:Int)=0),decide_eq_decide.2 (by rw[hP,hC,<-List.length_eq_zero_iff];omega),fun _=>hA⟩ rfl
 by_cases e11:x.op=11\/x.op=12
 ·have hC:GuaM.CondL t k u x s.live<->x.n∈glob t\/x.n∈s.live\/x.n∈u.takes:=by unfold GuaM.CondL;rw[if_neg e21,if_neg e22,if_pos e11]
  have hpl:=puts_le (glob t++s.live);rw[List.length_append] at hpl;have hmem:x.n∈puts (puts (glob t++s.live)++u.takes)<->x.n∈glob t\/x.n∈s.live\/x.n∈u.takes:=by
   rw[(puts_spec _).2,List.mem_append,(puts_spec _).2,List.mem_append,or_assoc]
  by_cases o11:x.op=11
  ·refine w_ ?_;intros;refine drawn1 (RowR bl 151 (gcl t u k v (w))) (fun j=>!(List.contains [] j)) [(0,true),(1,true),(2,true),(3,true),(4,true),(5,true),(6,true),(7,true),(9,true),(10,true),(11,true),(12,true),(13,true),(15,true),(16,true),(8,false),(14,false),(17,false),(18,true),(19,true)] rfl (by kernel_rfl) (by kernel_rfl) sA ?_;intro wd F hW hR;refine u_ ?_;intros;refine nmS 58 ?_;rintro a7 c7 rfl rfl;refine nmS 64 ?_;rintro aL cL rfl rfl;refine GX.gow ?_;refine (cl (both_spec v.aL aL v.cL cL (glob t) s.live (by omega) (by omega)) fun q=>?_);obtain⟨a8,c8⟩:=q;dsimp only;refine u_ ?_;intros;refine GX.gow ?_;refine (cl (both_spec a8 v.aT c8 v.cT (puts (glob t++s.live)) u.takes (by omega) (by omega)) fun q=>?_);obtain⟨a9,c9⟩:=q;dsimp only;refine u_ ?_;intros;refine GX.gow ?_;refine (cl (contains_spec a9 c9 (puts (puts (glob t++s.live)++u.takes)) x.n) fun _=>?_);refine u_ ?_;intros;refine unpin (RowR bl 151 (gcl t u k v (w))) ?_;refine w_ ?_;intros;exact rt2 ⟨a7,c7,s.live,decide (x.n∈puts (puts (glob t++s.live)++u.takes)),decide_eq_decide.2 (by rw[hP,hC];exact hmem),fun _=>hA⟩ rfl
  ·have o12:x.op=12:=e11.resolve_left o11;refine w_ ?_;intros;refine drawn1 (RowR bl 151 (gcl t u k v (w))) (fun j=>!(List.contains [] j)) [(0,true),(1,true),(2,true),(3,true),(4,true),(5,true),(6,true),(7,true),(9,true),(10,true),(11,true),(12,true),(13,true),(15,true),(16,true),(8,false),(14,false),(17,false),(18,true),(19,true)] rfl (by kernel_rfl) (by kernel_rfl) sA ?_;intro wd F hW hR;refine u_ ?_;intros;refine nmS 58 ?_;rintro a7 c7 rfl rfl;refine nmS 64 ?_;rintro aL cL rfl rfl;refine GX.gow ?_;refine (cl (both_spec v.aL aL v.cL cL (glob t) s.live (by omega) (by omega)) fun q=>?_);obtain⟨a8,c8⟩:=q;dsimp only;refine u_ ?_;intros;refine GX.gow ?_;refine (cl (both_spec a8 v.aT c8 v.cT (puts (glob t++s.live)) u.takes (by omega) (by omega)) fun q=>?_);obtain⟨a9,c9⟩:=q;dsimp only;refine u_ ?_;intros;refine GX.gow ?_;refine (cl (contains_spec a9 c9 (puts (puts (glob t++s.live)++u.takes)) x.n) fun _=>?_);refine u_ ?_;intros;refine unpin (RowR bl 151 (gcl t u k v (w))) ?_;refine w_ ?_;intros;exact rt2 ⟨a7,c7,s.live,decide (x.n∈puts (puts (glob t++s.live)++u.takes)),decide_eq_decide.2 (by rw[hP,hC];exact hmem),fun _=>hA⟩ rfl
 ·have hC:GuaM.CondL t k u x s.live<->True:=by unfold GuaM.CondL;rw[if_neg e21,if_neg e22,if_neg e11,if_neg e13,if_neg e18]
  have n11:¬ x.op=11:=fun h=>e11 (.inl h);have n12:¬ x.op=12:=fun h=>e11 (.inr h);refine w_ ?_;intros;refine nmS 93 ?_;rintro a7 c7 rfl rfl;exact rt2 ⟨a7,c7,s.live,true,(decide_eq_true (by rw[hP,hC];trivial)).symm,fun _=>hA⟩ rfl
def gonT (u:Unt)(x:Ins)(i:Nat):List Int:=((List.range i).filter fun v=>decide (u.vars.getD v (-3)∈x.args)).map fun v=>((v:Nat):Int)
theorem gonT_succ {u:Unt}{x:Ins}{i:Nat}{c:Int}(hc:u.vars[i]?=some c):gonT u x (i+1)=gonT u x i++if c∈x.args then [(i:Int)] else []:=by
 have hd:u.vars.getD i (-3)=c:=by rw[List.getD_eq_getElem?_getD,hc];rfl
 unfold gonT;rw[List.range_succ,List.filter_append,List.map_append];congr 1;rw[List.filter_cons,hd];by_cases h:c∈x.args<;>simp[h]
theorem gonT_len (u:Unt)(x:Ins)(i:Nat):(gonT u x i).length<=i:=by
 unfold gonT;rw[List.length_map];have:=List.length_filter_le (fun v=>decide (u.vars.getD v (-3)∈x.args)) (List.range i);rwa[List.length_range] at this
theorem rise_puts {l:List Int}(h:Rise l):puts l=l:=Rise.eq (puts_spec l).1 h fun x=>(puts_spec l).2 x
set_option maxHeartbeats 2000000 in
theorem gstale_spec (bl:Nat)(v:GV)(t:RTg)(u:Unt)(k:Int)(w:Value)(cs:List Value)(x:Ins)(a:Option Addr)(cp:Nat)(L:List Int)(hR:Rise L)(hL:L.length<=100000)(hu:u.vars.length<=100000):
  Does Tryz.prog 123 [.pointer (some ⟨bl,0,none⟩),.agg cs.toArray,.slice a L.length cp] [Ag tyIns cs x,Sl Ty.int a cp L,Sl tyUnt v.aU v.cU t.units,Sl Ty.int v.aV v.cV u.vars,Sl Ty.int v.aT v.cT u.takes,Sl tyIns v.aI v.cI u.ins,Sl tyIns v.aJ v.cJ u.ins,Sl (Ty.slice Ty.int) v.aF v.cF (flds t),Sl Ty.int v.aS v.cS (GuaM.both (glob t) (out t k)),Sl Ty.int v.aL v.cL (glob t),Sl (Ty.slice Ty.int) v.aX v.cX (outs t)] [RowR bl 151 (gcl t u k v (w))]
   (fun q:Option Addr×Nat=>.slice q.1 (GuaM.staleOut u x L).length q.2) (fun q=>[Sl Ty.int q.1 q.2 (GuaM.staleOut u x L)]) (fun _=>[RowR bl 151 (gcl t u k v (w))]):=by
 refine enter Tryz.func123 rfl Tryz.ntmps123 rfl fun b=>?_;by_cases e22:x.op=22
 ·have hS:GuaM.staleOut u x L=GuaM.minus (puts (L++gonT u x u.vars.length)) [def_ x]:=by
   unfold GuaM.staleOut GuaM.goneL;rw[if_pos e22];rfl
  refine w_ ?_;intros;refine nmP 4 ?_;rintro b4 rfl;refine GX.ownNil 3 Ty.int ?_;refine GX.loop (σ:=Nat×Option Addr×Nat) (fun s=>[(0,.pointer (some ⟨bl,0,none⟩)),(2,.slice a L.length cp),(4,.pointer (some ⟨b4,0,none⟩)),(7,.slice s.2.1 (gonT u x s.1).length s.2.2),(17,.slice v.aV u.vars.length v.cV),(18,.int .i64 (u.vars.length:Int)),(19,.int .i64 (s.1:Int))]) (fun _=>[]) (fun s=>[GX.Own 3 Ty.int s.2.1 s.2.2 (gonT u x s.1),RowR bl 151 (gcl t u k v (w))])
   (fun s=>s.1<=u.vars.length) (fun s=>u.vars.length-s.1) (0,none,0) ⟨rfl,rfl,rfl,rfl,rfl,rfl,rfl,trivial⟩ (by simp) (fun s hi=>?_)
  obtain⟨i,aG,cG⟩:=s;dsimp only at *;have hgl:=gonT_len u x i;by_cases hlt:i<u.vars.length
  ·obtain⟨c,hc⟩:=get_lt hlt;have hsc:=gonT_succ (x:=x) hc;refine w_ ?_;intros;refine nmS 25 ?_;rintro aA cA rfl rfl;refine GX.o (cl (contains_spec aA cA x.args c) fun _=>?_);by_cases h:c∈x.args
   ·rw[if_pos h] at hsc;refine w_ ?_;intros;rw[<- hsc];exact again (i+1,_,_) ⟨rfl,rfl,rfl,rfl,rfl,rfl,rfl,trivial⟩ (by dsimp only;omega) (by dsimp only;omega)
   ·rw[if_neg h,List.append_nil] at hsc;refine w_ ?_;intros;rw[<- hsc];exact again (i+1,aG,cG) ⟨rfl,rfl,rfl,rfl,rfl,rfl,rfl,trivial⟩ (by dsimp only;omega) (by dsimp only;omega)
  ·have hil:i=u.vars.length:=by omega
   subst hil;refine frz aG ?_;refine w_ ?_;intros;refine GX.o (cl (both_spec a aG cp cG L (gonT u x u.vars.length) (by omega) (by omega)) fun q=>?_);obtain⟨a6,c6⟩:=q;dsimp only;have hpl:=puts_le (L++gonT u x u.vars.length);rw[List.length_append] at hpl;refine w_ ?_;intros;refine nmA 37 ?_;rintro cs2 rfl;refine GX.o (cl (def_spec cs2 x) fun _=>?_);refine w_ ?_;intros;refine nmB 39 ?_;rintro b7 rfl;refine GX.o (cl (gminus_spec a6 (some ⟨b7,0,none⟩) c6 1 (puts (L++gonT u x u.vars.length)) [def_ x] (by omega)) fun q=>?_);rw[<- hS];refine w_ ?_;intros;exact rt1 q rfl
 ·have hS:GuaM.staleOut u x L=GuaM.minus L [def_ x]:=by
   unfold GuaM.staleOut GuaM.goneL GuaM.both;rw[if_neg e22,List.append_nil,rise_puts hR]
  refine w_ ?_;intros;refine nmA 37 ?_;rintro cs2 rfl;refine GX.o (cl (def_spec cs2 x) fun _=>?_);refine w_ ?_;intros;refine nmB 39 ?_;rintro b7 rfl;refine GX.o (cl (gminus_spec a (some ⟨b7,0,none⟩) cp 1 L [def_ x] (by omega)) fun q=>?_);rw[<- hS];refine w_ ?_;intros;exact rt1 q rfl
end Go.Proofs.YtojfbbggnkijeaaGreatDoor
namespace Go.Proofs.YtojfbbggnkijeaaGreatDoor
open Go Go.RR Go.RX Go.GX
attribute [local irreducible] wpList Code.wp wpPlan Exit.then Exit.inBlock bodyPost NoPanic Went GX.Post Again Meet RowR GX.Own Owns Box Sl Pt Ag MapR Kept Pin wpT GoK AtEnd Both
theorem eqi_spec (ao1 ao2:Option Addr)(cap1 cap2:Nat)(xs ys:List Int):Does Tryz.prog 177 [.slice ao1 xs.length cap1,.slice ao2 ys.length cap2] [Sl Ty.int ao1 cap1 xs,Sl Ty.int ao2 cap2 ys] []
  (fun _:Unit=>.bool (decide (xs=ys))) (fun _=>[]) (fun _=>[]):=by
 refine enter Tryz.func177 rfl Tryz.ntmps177 rfl fun b=>?_;refine sln ao1 fun h1 h2 _=>?_;by_cases hl:xs.length=ys.length
 ·refine w_ ?_;intros;refine GX.loop (σ:=Nat) (fun i=>[(0,.slice ao1 xs.length cap1),(1,.slice ao2 ys.length cap2),(12,.int .i64 (xs.length:Int)),(13,.int .i64 (i:Int))]) (fun _=>[]) (fun _=>[])
   (fun i=>i<=xs.length/\xs.take i=ys.take i) (fun i=>xs.length-i) 0 ⟨rfl,rfl,rfl,rfl,trivial⟩ ⟨by omega,by simp⟩ (fun i hi=>?_)
  obtain⟨hi,ht⟩:=hi;by_cases hlt:i<xs.length
  ·obtain⟨x,hx⟩:=get_lt hlt;obtain⟨y,hy⟩:=get_lt (show i<ys.length by omega);by_cases hxy:x=y
   ·refine w_ ?_;intros;refine drawn0 (fun j=>!(List.contains [] j)) [(0,true),(1,true),(2,true),(3,true),(4,true),(5,true),(6,true),(7,true),(8,true)] rfl (by kernel_rfl) (by kernel_rfl) sA ?_;intro wd F hW hR;refine u_ ?_;intros;refine w_ ?_;intros;subst hxy;exact again (i+1) ⟨rfl,rfl,rfl,rfl,trivial⟩ ⟨by omega,take_eq_succ ht hx hy⟩ (by omega)
   ·refine w_ ?_;intros;refine drawn0 (fun j=>!(List.contains [] j)) [(0,true),(1,true),(2,true),(3,true),(4,true),(5,true),(6,true),(7,true),(8,true)] rfl (by kernel_rfl) (by kernel_rfl) sA ?_;intro wd F hW hR;refine u_ ?_;intros;refine w_ ?_;intros;have he:decide (xs=ys)=false:=decide_eq_false fun e=>hxy (by subst e;rw[hx] at hy;exact Option.some.inj hy);exact rt1 () (congrArg Value.bool he)
  ·have hil:i=xs.length:=by omega
   subst hil;refine w_ ?_;intros;have he:decide (xs=ys)=true:=by
    rw[List.take_length,hl,List.take_length] at ht;exact decide_eq_true ht
   exact rt1 () (congrArg Value.bool he)
 ·refine w_ ?_;intros;have he:decide (xs=ys)=false:=decide_eq_false fun e=>hl (by rw[e]);exact rt1 () (congrArg Value.bool he)
end Go.Proofs.YtojfbbggnkijeaaGreatDoor
namespace Go.GX
open Go Go.RowKit Go.RR Go.RX
variable {d:Nat} {ty:TypeId} {pos:String} {aft:Array Edge} {gd:Option (Nat×Bool)}
class UPlainT (P:Program)(t:TypeId):Prop where u:∀w,∃d,(underlying t).run P w=.ok d w/\(∀m,d≠.interface m)
class UMeth (P:Program)(t:TypeId)(nm:String)(f:outParam FuncId)(ptr:outParam Bool):Prop where m:(P.info? t).bind (fun i=>(i.methods.find? (·.name==nm)).map fun m=>(m.path.toList.isEmpty,m.func))=some (true,some (f,ptr))
section
variable {P:Program} {n:Nat} {env:Env} {b:Base} {ps:List Pf} {hp:List Res} {Q:Exit->Act->World->Prop} {K:Act->World->Prop} {S:World->Prop}
variable {t:TypeId} {x:Operand} {t':TypeId} {nm:String} {f:FuncId} {e:TypeId} {xs:List Operand} {ts:Array TypeId} {tv:TypeId} {a0:Addr} {ps1:List Pf} {hp1 rest:List Res} {σ:Type} {val:σ->Value} {ps':σ->List Pf} {hp':σ->List Res} {te:TypeId} {pz:σ->List Pf} {hz:σ->List Res}
theorem mki_v {v:Value}[h:UPlainT P t](hx:ev env x=some v):Soft P n env S (.makeInterface t x) (.iface t v):=fun a ha o ho w _=>by
 obtain⟨d,h1,h2⟩:=h.u w;have key:(Instr.makeInterface t v).run P w=.ok (.iface t v) w:=by
  unfold Instr.makeInterface;rw[Sem.run_bind,h1]
  cases d<;>first|rfl|exact absurd rfl (h2 _)
 simp[execOp,ho,ha.ev hx,key]
theorem tas_v {v:Value}[h:UPlainT P t'](hx:ev env x=some (.iface t' v)):Soft P n env S (.typeAssert x t t' false) v:=fun a ha o ho w _=>by
 obtain⟨d,h1,h2⟩:=h.u w;have key:(Instr.typeAssert (.iface t' v) t t' false).run P w=.ok v w:=by
  unfold Instr.typeAssert;simp only[Sem.run_bind,h1,Result.andThen_ok]
  cases d<;>first|simp|exact absurd rfl (h2 _)
 simp[execOp,ho,ha.ev hx,key]
theorem meth_parts {ptr:Bool}(h:UMeth P t nm f ptr):∃i m,P.info? t=some i/\i.methods.find? (·.name==nm)=some m/\m.path.toList=[]/\m.func=some (f,ptr):=by
 have h:=h.m
 cases hi:P.info? t with
 |none=>rw[hi] at h;simp at h
 |some i=>
  rw[hi] at h;simp only[Option.bind_some,Option.map_eq_some_iff,Prod.mk.injEq,List.isEmpty_iff] at h;obtain⟨m,h1,h2,h3⟩:=h;exact⟨i,m,rfl,h1,h2,h3⟩
theorem wrap_ok (tys:Array TypeId)(ty:TypeId)(a:Addr)(x y:String):Builtin.ssaWrapNilChk_ tys ty #[.pointer (some a),strVal x,strVal y]=pure (.pointer (some a)):=rfl
theorem depth_pos (P:Program):∃k,P.types.size+Made.depth=k+1:=by
 have h:0<Made.depth:=by decide
 exact⟨P.types.size+Made.depth-1,by omega⟩
theorem run_methP [h:UMeth P t nm f true][hp:UPtr P t e][hf:UFunc P f](a:Addr)(args:Array Value)(w:World):(callMethod (.iface t (.pointer (some a))) nm args).run P w=.ok (.enter f (#[.pointer (some a)]++args)) w:=by
 obtain⟨i,m,h1,h2,h3,h4⟩:=meth_parts h;obtain⟨k,hk⟩:=depth_pos P;have key:(method (P.types.size+Made.depth) t (.pointer (some a)) nm).run P w=.ok (f,.pointer (some a)) w:=by
  rw[hk];unfold method;simp[run_typeInfo w h1,h2,h3,h4,follow,receiverAt,run_underlying hp.u,Place.get]
 unfold callMethod;simp[run_program,key,hf.c]
theorem run_methV [h:UMeth P t nm f false][hp:UPtr P t e][hf:UFunc P f](a:Addr)(args:Array Value)(w:World){v:Value}(hl:(loadVar e a).run P w=.ok v w):(callMethod (.iface t (.pointer (some a))) nm args).run P w=.ok (.enter f (#[v]++args)) w:=by
 obtain⟨i,m,h1,h2,h3,h4⟩:=meth_parts h;obtain⟨k,hk⟩:=depth_pos P;have hpe:m.path=#[]:=by simpa using h3
 have key:(method (P.types.size+Made.depth) t (.pointer (some a)) nm).run P w=.ok (f,v) w:=by
  rw[hk];unfold method;simp[run_typeInfo w h1,h2,h3,h4,follow,receiverAt,run_underlying hp.u,Place.get,wrap_ok,asAddr,hl,hpe]
 unfold callMethod;simp[run_program,key,hf.c]
theorem callm {w:World}{vs:List Value}{rv:Value}{R:Ending->World->Prop}
  (hm:∀w',w'=w->(callMethod (.iface tv (.pointer (some a0))) nm vs.toArray).run P w'=.ok (.enter f (rv::vs).toArray) w')
  (hx:ev env x=some (.iface tv (.pointer (some a0)))) (hxs:evs env xs=some vs) (hc:Calls P f (rv::vs).toArray w R) (hd:Nat.blt d n=true) (h:∀e w',R e w'->∃v,e=.returned v/\E n ((d,v)::env) w' K):
  OW P n env w ⟨some d,.call {callee:=.invoke x nm,args:=xs.toArray,argTypes:=ts },ty,pos,aft,gd⟩ K Q:=by
 constructor;intro a ha;show Oper.upon P _ a K Q ((execOp a.eval _).run P w);have hr:(execOp a.eval ⟨some d,.call {callee:=.invoke x nm,args:=xs.toArray,argTypes:=ts },ty,pos,aft,gd⟩).run P w=.ok (.enter f (rv::vs).toArray) w:=by
  have he:(xs.toArray.map a.eval)=vs.toArray:=by simp[ha.evs hxs]
  simp only[execOp,resolve,ha.ev hx,he];have:=hm w rfl;simpa[invoke] using this
 rw[hr];refine Calls.mono hc fun e w' hR=>?_;obtain⟨v,rfl,hk⟩:=h e w' hR;exact hk.run _ (ha.put (d:=d) v hd)
theorem callmG {vs:List Value}{rv:Value}
  (hc:Does P f (rv::vs) ps1 hp1 val ps' hp') (hm:∀F w,AllP F w ps->AllR F w hp->(callMethod (.iface tv (.pointer (some a0))) nm vs.toArray).run P w=.ok (.enter f (rv::vs).toArray) w) (hx:ev env x=some (.iface tv (.pointer (some a0)))) (hxs:evs env xs=some vs) (hps:∀p∈ps1,p∈ps) (hl:hp.Perm (hp1++rest)) (hd:Nat.blt d n=true) (h:∀s,G n ((d,val s)::env) b (ps' s++ps) (hp' s++rest) K):
  GO P n env b ps hp ⟨some d,.call {callee:=.invoke x nm,args:=xs.toArray,argTypes:=ts },ty,pos,aft,gd⟩ K Q:=by
 constructor;rintro w ⟨F,s0⟩;have s:=s0.perm hl;refine callm (fun w' e=>by subst e;exact hm F _ s0.fs s0.rs) hx hxs (hc.run w F b (s.less hps (List.sublist_append_left _ _))) hd ?_;rintro e w' ⟨i,rfl,h'⟩;obtain⟨F',_,_,_,s'⟩:=s.act h';exact⟨_,rfl,(h i).run w' ⟨F',s'⟩⟩
theorem row_cell {bl o:Nat}{vs:List Value}{v:Value}[h1:UOne P t][hf:FRow bl hp te vs rest](hv:vs[o]?=some v){F:Nat->Prop}{w:World}(h:AllR F w hp):(loadVar t ⟨bl,o,none⟩).run P w=.ok v w:=by
 have hr:Row w bl te vs:=h _ (hf.p.mem_iff.2 List.mem_cons_self);simp[loadVar,h1.a,hr.cell_some hv]
theorem clm {vs:List Value}[UMeth P tv nm f true][UPtr P tv e][UFunc P f]
  (hc:Does P f (.pointer (some a0)::vs) ps1 hp1 val ps' hp') (h:∀s,G n ((d,val s)::env) b (pz s) (hz s) K)
  (hx:ev env x=some (.iface tv (.pointer (some a0))):=by exact rfl) (hxs:evs env xs=some vs:=by exact rfl)
  (hps:AllIn ps1 ps:=by exact GX.aB)
  (hl:SelR hp1 hp rest:=by exact GX.sA)
  (a1:∀s,App (ps' s) ps (pz s):=by intro s;exact inferInstance) (a2:∀s,App (hp' s) rest (hz s):=by intro s;exact inferInstance) (hd:Nat.blt d n=true:=by exact rfl):
  GO P n env b ps hp ⟨some d,.call {callee:=.invoke x nm,args:=xs.toArray,argTypes:=ts },ty,pos,aft,gd⟩ K Q:=callmG hc (fun F w _ _=>by have:=run_methP (P:=P) (nm:=nm) (t:=tv) (e:=e) a0 vs.toArray w;simpa using this) hx hxs hps.sub hl.perm hd (fun s=>by rw[<- (a1 s).eq,<-(a2 s).eq];exact h s)
theorem clw {vs us:List Value}{v:Value}{bl o:Nat}{r0:List Res}[UMeth P tv nm f false][UPtr P tv e][UFunc P f][UOne P e]
  (hc:Does P f (v::vs) ps1 hp1 val ps' hp') (hv:us[o]?=some v) (h:∀s,G n ((d,val s)::env) b (pz s) (hz s) K)
  (hx:ev env x=some (.iface tv (.pointer (some ⟨bl,o,none⟩))):=by exact rfl) (hf:FRow bl hp te us r0:=by exact inferInstance) (hxs:evs env xs=some vs:=by exact rfl)
  (hps:AllIn ps1 ps:=by exact GX.aB)
  (hl:SelR hp1 hp rest:=by exact GX.sA)
  (a1:∀s,App (ps' s) ps (pz s):=by intro s;exact inferInstance) (a2:∀s,App (hp' s) rest (hz s):=by intro s;exact inferInstance) (hd:Nat.blt d n=true:=by exact rfl):
  GO P n env b ps hp ⟨some d,.call {callee:=.invoke x nm,args:=xs.toArray,argTypes:=ts },ty,pos,aft,gd⟩ K Q:=callmG hc (fun F w _ hr=>by have:=run_methV (P:=P) (nm:=nm) (t:=tv) (e:=e) ⟨bl,o,none⟩ vs.toArray w (row_cell (te:=te) (rest:=r0) (vs:=us) hv hr);simpa using this) hx hxs hps.sub hl.perm hd (fun s=>by rw[<- (a1 s).eq,<-(a2 s).eq];exact h s)
theorem mki {v:Value}[UPlainT P t](h:G n ((d,.iface t v)::env) b ps hp K)(hx:ev env x=some v:=by exact rfl)(hd:Nat.blt d n=true:=by exact rfl):GO P n env b ps hp ⟨some d,.makeInterface t x,ty,pos,aft,gd⟩ K Q:=rd1 (mki_v hx) hd h
theorem tas {v:Value}[UPlainT P t'](h:G n ((d,v)::env) b ps hp K)(hx:ev env x=some (.iface t' v):=by exact rfl)(hd:Nat.blt d n=true:=by exact rfl):GO P n env b ps hp ⟨some d,.typeAssert x t t' false,ty,pos,aft,gd⟩ K Q:=rd1 (tas_v hx) hd h
end
end Go.GX
namespace Go.Proofs.YtojfbbggnkijeaaGreatDoor
open Go Go.RR Go.RX Go.GX Go.Api
attribute [local irreducible] wpList Code.wp wpPlan Exit.then Exit.inBlock bodyPost NoPanic Went GX.Post Again Meet RowR GX.Own Owns Box Sl Pt Ag MapR Kept Pin wpT GoK AtEnd Both
instance:UPlainT Tryz.prog 3:=⟨fun w=>⟨_,run_underlying Tryz.underlying3 w,fun m h=>by cases h⟩⟩
instance:UPlainT Tryz.prog 240:=⟨fun w=>⟨_,run_underlying Tryz.underlying240 w,fun m h=>by cases h⟩⟩
instance:UMeth Tryz.prog 240 "Len" 120 false:=⟨by kernel_rfl⟩
instance:UMeth Tryz.prog 240 "Less" 494 false:=⟨by kernel_rfl⟩
instance:UMeth Tryz.prog 240 "Swap" 495 false:=⟨by kernel_rfl⟩
instance:UMeth Tryz.prog 240 "Push" 497 true:=⟨by kernel_rfl⟩
instance:UMeth Tryz.prog 240 "Pop" 496 true:=⟨by kernel_rfl⟩
theorem qlen_spec (ao:Option Addr)(n cap:Nat):Does Tryz.prog 120 [.slice ao n cap] [] [] (fun _:Unit=>.int .i64 (n:Int)) (fun _=>[]) (fun _=>[]):=by
 refine enter Tryz.func120 rfl Tryz.ntmps120 rfl fun b=>?_;refine w_ ?_;intros;exact rt1 () rfl
theorem qlenI (ao:Option Addr)(n cap v:Nat)(h:n=v):Does Tryz.prog 120 [.slice ao n cap] [] [] (fun _:Unit=>.int .i64 (v:Int)) (fun _=>[]) (fun _=>[]):=by
 rw[<- h];exact qlen_spec ao n cap
theorem qless_spec (g cap:Nat)(xs:List Int)(i j:Nat)(x y:Int)(hx:xs[i]?=some x)(hy:xs[j]?=some y):Does Tryz.prog 494 [.slice (some ⟨g,0,none⟩) xs.length cap,.int .i64 (i:Int),.int .i64 (j:Int)] [] [GX.Own 3 Ty.int (some ⟨g,0,none⟩) cap xs] (fun _:Unit=>.bool (decide (x<y))) (fun _=>[]) (fun _=>[GX.Own 3 Ty.int (some ⟨g,0,none⟩) cap xs]):=by
 refine enter Tryz.func494 rfl Tryz.ntmps494 rfl fun b=>?_;have hi:=(List.getElem?_eq_some_iff.1 hx).1;have hj:=(List.getElem?_eq_some_iff.1 hy).1;refine w_ ?_;intros;refine drawn1 (GX.Own 3 Ty.int (some ⟨g,0,none⟩) cap xs) (fun j=>!(List.contains [] j)) [(0,true),(1,true),(2,true),(3,true),(4,true),(5,true),(6,true),(7,true),(8,true),(9,true)] rfl (by kernel_rfl) (by kernel_rfl) sA ?_;intro wd F hW hR;refine u_ ?_;intros;refine unpin (GX.Own 3 Ty.int (some ⟨g,0,none⟩) cap xs) ?_;refine w_ ?_;intros;exact rt1 () rfl
theorem qswap_spec (g cap:Nat)(xs:List Int)(i j:Nat)(x y:Int)(hx:xs[i]?=some x)(hy:xs[j]?=some y):Does Tryz.prog 495 [.slice (some ⟨g,0,none⟩) xs.length cap,.int .i64 (i:Int),.int .i64 (j:Int)] [] [GX.Own 3 Ty.int (some ⟨g,0,none⟩) cap xs] (fun _:Unit=>.tuple #[]) (fun _=>[]) (fun _=>[GX.Own 3 Ty.int (some ⟨g,0,none⟩) cap ((xs.set i y).set j x)]):=by
 refine enter Tryz.func495 rfl Tryz.ntmps495 rfl fun b=>?_;have hi:=(List.getElem?_eq_some_iff.1 hx).1;have hj:=(List.getElem?_eq_some_iff.1 hy).1;refine w_ ?_;intros;refine drawn1 (GX.Own 3 Ty.int (some ⟨g,0,none⟩) cap xs) (fun j=>!(List.contains [13,15] j)) [(0,true),(1,true),(2,true),(3,true),(4,true),(5,true),(6,true),(7,true),(8,true),(9,true),(10,true),(11,true),(12,true),(13,false),(14,true),(15,false)] rfl (by kernel_rfl) (by kernel_rfl) sA ?_;intro wd F hW hR;refine u_ ?_;intros;refine unpin (GX.Own 3 Ty.int (some ⟨g,0,none⟩) cap xs) ?_;have hl:(xs.set i y).length=xs.length:=List.length_set;refine u_ ?_;intros;refine w_ ?_;intros;exact en0 ()
def qT (b:Nat)(o:Nat):Value:=.iface 240 (.pointer (some ⟨b,o,none⟩))
theorem swap_perm {xs:List Int}{i j:Nat}{x y:Int}(hx:xs[i]?=some x)(hy:xs[j]?=some y):((xs.set i y).set j x).Perm xs:=by
 obtain⟨hi,rfl⟩:=List.getElem?_eq_some_iff.1 hx;obtain⟨hj,rfl⟩:=List.getElem?_eq_some_iff.1 hy;exact List.set_set_perm hi hj
section
variable {P:Program} {n:Nat} {env:Env} {b:Base} {ps:List Pf} {hp:List Res} {Q:Exit->Act->World->Prop} {K:Act->World->Prop}
theorem quo0 {t t':TypeId}{x y:Operand}{d:Nat}{ty:TypeId}{pos:String}{aft:Array Edge}{gd:Option (Nat×Bool)}(h:G n ((d,.int .i64 ((0:Nat):Int))::env) b ps hp K)(hx:ev env x=some (.int .i64 (((0:Nat):Int)-1)):=by exact rfl)(hy:ev env y=some (.int .i64 2):=by exact rfl)(hd:Nat.blt d n=true:=by exact rfl):GO P n env b ps hp ⟨some d,.binOp .quo t x y t',ty,pos,aft,gd⟩ K Q:=GX.rd1 (fun a ha o ho w _=>by
 simp[execOp,ho,ha.ev hx,ha.ev hy,eqGuard_at_int,binOp,Op.intDiv];decide) hd h
end
section
variable {P:Program} {n:Nat} {env:Env} {b:Base} {ps:List Pf} {hp:List Res} {Q:Exit->Act->World->Prop} {K:Act->World->Prop}
theorem rtas {d:Nat}{ty:TypeId}{pos:String}{aft:Array Edge}{gd:Option (Nat×Bool)}{psW:List Pf}{hpS:List Res}{wd:World}{F:Nat->Prop}{t t':TypeId}{x:Operand}{v:Value}[UPlainT P t'](h:G n ((d,v)::env) b ps hp K)(hx:ev env x=some (.iface t' v):=by exact rfl)(hd:Nat.blt d n=true:=by exact rfl):GX.GTR P n env psW hpS wd F b ps hp K ⟨some d,.typeAssert x t t' false,ty,pos,aft,gd⟩:=.v (.of_soft fun _=>tas_v hx) hd h
end
set_option maxHeartbeats 1000000 in
theorem up_spec (bl o g cap:Nat)(vs:List Value)(xs:List Int)(j:Nat)(hv:vs[o]?=some (.slice (some ⟨g,0,none⟩) xs.length cap))(hj:j<xs.length)(hl:xs.length<=1000000):
  Does Tryz.prog 279 [qT bl o,.int .i64 (j:Int)] [] [RowR bl 151 vs,GX.Own 3 Ty.int (some ⟨g,0,none⟩) cap xs] (fun _:{ys:List Int // ys.Perm xs}=>.tuple #[]) (fun _=>[]) (fun s=>[RowR bl 151 vs,GX.Own 3 Ty.int (some ⟨g,0,none⟩) cap s.1]):=by
 refine enter Tryz.func279 rfl Tryz.ntmps279 rfl fun b=>?_;refine w_ ?_;intros;refine GX.loop (σ:=List Int×Nat) (fun q=>[(0,qT bl o),(1,.int .i64 (q.2:Int))]) (fun _=>[]) (fun q=>[RowR bl 151 vs,GX.Own 3 Ty.int (some ⟨g,0,none⟩) cap q.1])
  (fun q=>q.1.Perm xs/\q.2<q.1.length) (fun q=>q.2) (xs,j) ⟨rfl,rfl,trivial⟩ ⟨List.Perm.refl _,hj⟩ (fun q hq=>?_)
 obtain⟨ys,j⟩:=q;obtain⟨h1,h2⟩:=hq;dsimp only at *;have hyl:=h1.length_eq;have hv2:vs[o]?=some (.slice (some ⟨g,0,none⟩) ys.length cap):=by rw[hyl];exact hv
 cases j with
 |zero=>
  have hq0:IntKind.i64.wrap ((((0:Nat):Int)-1).tdiv 2)=((0:Nat):Int):=by decide
  refine w_ ?_;intros
  try refine GX.o (quo0 ?_)
  refine w_ ?_;intros;exact en0 ⟨ys,h1⟩
 |succ m=>
  obtain⟨x,hx⟩:=get_lt h2;have h3:m/2<ys.length:=by omega
  obtain⟨y,hy⟩:=get_lt h3;have hne:¬ ((m/2:Nat):Int)=((m+1:Nat):Int):=by omega
  refine w_ ?_;intros;refine GX.o (clw (qless_spec g cap ys (m+1) (m/2) x y hx hy) hv2 fun _=>?_);by_cases hxy:x<y
  ·refine w_ ?_;intros;refine GX.o (clw (qswap_spec g cap ys (m/2) (m+1) y x hy hx) hv2 fun _=>?_);refine w_ ?_;intros;exact again ((ys.set (m/2) x).set (m+1) y,m/2) ⟨rfl,rfl,trivial⟩ ⟨(swap_perm hy hx).trans h1,by simp;omega⟩ (by dsimp only;omega)
  ·refine w_ ?_;intros;exact en0 ⟨ys,h1⟩
theorem qlessI (g cap:Nat)(xs:List Int)(a c:Int)(i j:Nat)(x y:Int)(ha:a=(i:Int))(hc:c=(j:Int))(hx:xs[i]?=some x)(hy:xs[j]?=some y):Does Tryz.prog 494 [.slice (some ⟨g,0,none⟩) xs.length cap,.int .i64 a,.int .i64 c] [] [GX.Own 3 Ty.int (some ⟨g,0,none⟩) cap xs] (fun _:Unit=>.bool (decide (x<y))) (fun _=>[]) (fun _=>[GX.Own 3 Ty.int (some ⟨g,0,none⟩) cap xs]):=by
 rw[ha,hc];exact qless_spec g cap xs i j x y hx hy
theorem qswapI (g cap:Nat)(xs:List Int)(a c:Int)(i j:Nat)(x y:Int)(ha:a=(i:Int))(hc:c=(j:Int))(hx:xs[i]?=some x)(hy:xs[j]?=some y):Does Tryz.prog 495 [.slice (some ⟨g,0,none⟩) xs.length cap,.int .i64 a,.int .i64 c] [] [GX.Own 3 Ty.int (some ⟨g,0,none⟩) cap xs] (fun _:Unit=>.tuple #[]) (fun _=>[]) (fun _=>[GX.Own 3 Ty.int (some ⟨g,0,none⟩) cap ((xs.set i y).set j x)]):=by
 rw[ha,hc];exact qswap_spec g cap xs i j x y hx hy
set_option maxHeartbeats 1000000 in
theorem down_spec (bl o g cap:Nat)(vs:List Value)(xs:List Int)(i0 n:Nat)(hv:vs[o]?=some (.slice (some ⟨g,0,none⟩) xs.length cap))(hn:n<=xs.length)(hi0:i0<=n)(hl:xs.length<=1000000):
  Does Tryz.prog 201 [qT bl o,.int .i64 (i0:Int),.int .i64 (n:Int)] [] [RowR bl 151 vs,GX.Own 3 Ty.int (some ⟨g,0,none⟩) cap xs] (fun s:{q:List Int×Bool // q.1.Perm xs/\∀k,n<=k->q.1[k]?=xs[k]?}=>.bool s.1.2) (fun _=>[]) (fun s=>[RowR bl 151 vs,GX.Own 3 Ty.int (some ⟨g,0,none⟩) cap s.1.1]):=by
 refine enter Tryz.func201 rfl Tryz.ntmps201 rfl fun b=>?_;refine w_ ?_;intros;refine GX.loop (σ:=List Int×Nat) (fun q=>[(0,qT bl o),(1,.int .i64 (i0:Int)),(2,.int .i64 (n:Int)),(7,.int .i64 (q.2:Int))]) (fun _=>[]) (fun q=>[RowR bl 151 vs,GX.Own 3 Ty.int (some ⟨g,0,none⟩) cap q.1])
  (fun q=>q.1.Perm xs/\(∀k,n<=k->q.1[k]?=xs[k]?)/\q.2<=n) (fun q=>n-q.2) (xs,i0) ⟨rfl,rfl,rfl,rfl,trivial⟩ ⟨List.Perm.refl _,fun _ _=>rfl,hi0⟩ (fun q hq=>?_)
 obtain⟨ys,i⟩:=q;obtain⟨h1,h0,h2⟩:=hq;dsimp only at *;have hyl:=h1.length_eq;have hv2:vs[o]?=some (.slice (some ⟨g,0,none⟩) ys.length cap):=by rw[hyl];exact hv
 have hiy:i<ys.length\/n<=2*i+1:=by omega
 by_cases c1:2*i+1<n
 ·obtain⟨y,hy⟩:=get_lt (show i<ys.length by omega);obtain⟨x1,hx1⟩:=get_lt (show 2*i+1<ys.length by omega);by_cases c2:2*(i:Int)+1+1<n
  ·obtain⟨x2,hx2⟩:=get_lt (show 2*i+1+1<ys.length by omega);refine w_ ?_;intros;refine GX.o (clw (qlessI g cap ys (2*(i:Int)+1+1) (2*(i:Int)+1) (2*i+1+1) (2*i+1) x2 x1 (by omega) (by omega) hx2 hx1) hv2 fun _=>?_);by_cases c3:x2<x1
   ·refine w_ ?_;intros;refine GX.o (clw (qlessI g cap ys (2*(i:Int)+1+1) (i:Int) (2*i+1+1) i x2 y (by omega) rfl hx2 hy) hv2 fun _=>?_);by_cases hxy:x2<y
    ·refine w_ ?_;intros;refine GX.o (clw (qswapI g cap ys (i:Int) (2*(i:Int)+1+1) i (2*i+1+1) y x2 rfl (by omega) hy hx2) hv2 fun _=>?_);refine w_ ?_;intros;exact again ((ys.set i x2).set (2*i+1+1) y,2*i+1+1) ⟨rfl,rfl,rfl,rfl,trivial⟩ ⟨(swap_perm hy hx2).trans h1,fun k hk=>by dsimp only;rw[List.getElem?_set_ne (by omega),List.getElem?_set_ne (by omega)];exact h0 k hk,by dsimp only;omega⟩ (by dsimp only;omega)
    ·refine w_ ?_;intros;exact rt1 ⟨(ys,_),h1,h0⟩ rfl
   ·refine w_ ?_;intros;refine GX.o (clw (qlessI g cap ys (2*(i:Int)+1) (i:Int) (2*i+1) i x1 y (by omega) rfl hx1 hy) hv2 fun _=>?_);by_cases hxy:x1<y
    ·refine w_ ?_;intros;refine GX.o (clw (qswapI g cap ys (i:Int) (2*(i:Int)+1) i (2*i+1) y x1 rfl (by omega) hy hx1) hv2 fun _=>?_);refine w_ ?_;intros;exact again ((ys.set i x1).set (2*i+1) y,2*i+1) ⟨rfl,rfl,rfl,rfl,trivial⟩ ⟨(swap_perm hy hx1).trans h1,fun k hk=>by dsimp only;rw[List.getElem?_set_ne (by omega),List.getElem?_set_ne (by omega)];exact h0 k hk,by dsimp only;omega⟩ (by dsimp only;omega)
    ·refine w_ ?_;intros;exact rt1 ⟨(ys,_),h1,h0⟩ rfl
  ·refine w_ ?_;intros;refine GX.o (clw (qlessI g cap ys (2*(i:Int)+1) (i:Int) (2*i+1) i x1 y (by omega) rfl hx1 hy) hv2 fun _=>?_);by_cases hxy:x1<y
   ·refine w_ ?_;intros;refine GX.o (clw (qswapI g cap ys (i:Int) (2*(i:Int)+1) i (2*i+1) y x1 rfl (by omega) hy hx1) hv2 fun _=>?_);refine w_ ?_;intros;exact again ((ys.set i x1).set (2*i+1) y,2*i+1) ⟨rfl,rfl,rfl,rfl,trivial⟩ ⟨(swap_perm hy hx1).trans h1,fun k hk=>by dsimp only;rw[List.getElem?_set_ne (by omega),List.getElem?_set_ne (by omega)];exact h0 k hk,by dsimp only;omega⟩ (by dsimp only;omega)
   ·refine w_ ?_;intros;exact rt1 ⟨(ys,_),h1,h0⟩ rfl
 ·refine w_ ?_;intros;exact rt1 ⟨(ys,_),h1,h0⟩ rfl
theorem qpop_spec (bl o g cap:Nat)(vs:List Value)(xs:List Int)(m:Nat)(x:Int)(hv:vs[o]?=some (.slice (some ⟨g,0,none⟩) xs.length cap))(hm:xs.length=m+1)(hml:m<=1000000)(hx:xs[m]?=some x):
  Does Tryz.prog 496 [.pointer (some ⟨bl,o,none⟩)] [] [RowR bl 151 vs,GX.Own 3 Ty.int (some ⟨g,0,none⟩) cap xs] (fun _:Unit=>.iface 3 (.int .i64 x)) (fun _=>[]) (fun _=>[RowR bl 151 (vs.set o (.slice (some ⟨g,0,none⟩) (xs.take m).length cap)),GX.Own 3 Ty.int (some ⟨g,0,none⟩) cap (xs.take m)]):=by
 refine enter Tryz.func496 rfl Tryz.ntmps496 rfl fun b=>?_;rw[hm] at hv;refine w_ ?_;intros;have hi:=(List.getElem?_eq_some_iff.1 hx).1;refine GX.o (GX.lr (hv:=hv) ?_);refine w_ ?_;intros;refine GX.opn (some ⟨g,0,none⟩) fun h1 h2 _=>?_;refine GX.o (GX.oh (j:=m) ?_);refine w_ ?_;intros;have ho:=(List.getElem?_eq_some_iff.1 hv).1;have e3:(xs.take m).length=m:=by simp;omega
 refine GX.o (GX.stR (vs':=vs.set o (.slice (some ⟨g,0,none⟩) (xs.take m).length cap)) ?_ (hi:=by simpa[Nat.blt_eq] using ho) (hset:=by rw[e3]));refine GX.ownTake (some ⟨g,0,none⟩) m ?_;refine w_ ?_;intros;refine GX.o (mki ?_);refine w_ ?_;intros;exact rt1 () rfl
theorem qpush_spec (bl o cap:Nat)(ao:Option Addr)(vs:List Value)(xs:List Int)(i:Int)(hv:vs[o]?=some (.slice ao xs.length cap))(hl:xs.length<=1000000):
  Does Tryz.prog 497 [.pointer (some ⟨bl,o,none⟩),.iface 3 (.int .i64 i)] [] [RowR bl 151 vs,GX.Own 3 Ty.int ao cap xs] (fun _:Option Addr×Nat=>.tuple #[]) (fun _=>[]) (fun s=>[RowR bl 151 (vs.set o (.slice s.1 (xs++[i]).length s.2)),GX.Own 3 Ty.int s.1 s.2 (xs++[i])]):=by
 refine enter Tryz.func497 rfl Tryz.ntmps497 rfl fun b=>?_;refine w_ ?_;intros;refine drawn2 (RowR bl 151 vs) (GX.Own 3 Ty.int ao cap xs) (fun j=>!(List.contains [7,9] j)) [(0,true),(1,true),(2,true),(3,true),(4,true),(5,true),(6,false),(7,false),(8,true),(9,false)] rfl (by kernel_rfl) (by kernel_rfl) sA ?_;intro wd F hW hR;refine u_ ?_;intros;refine GX.tkr ?_;refine GX.rlr (hv:=hv) ?_;refine u_ ?_;intros;refine GX.tkr ?_;refine rtas ?_;refine u_ ?_;intros;refine unpin (GX.Own 3 Ty.int ao cap xs) ?_;refine u_ ?_ 4;intros;refine unpin (RowR bl 151 vs) ?_;refine u_ ?_;intros;refine nmS 11 ?_;rintro ao2 cap2 rfl rfl;have ho:=(List.getElem?_eq_some_iff.1 hv).1;refine GX.gow ?_;refine GX.stR (vs':=vs.set o (.slice ao2 (xs++[i]).length cap2)) ?_ (hi:=by simpa[Nat.blt_eq] using ho) (hset:=rfl);refine u_ ?_;intros;refine w_ ?_;intros;exact en0 (ao2,cap2)
set_option maxHeartbeats 1000000 in
theorem hpop_spec (bl o g cap:Nat)(vs:List Value)(xs:List Int)(m:Nat)(hv:vs[o]?=some (.slice (some ⟨g,0,none⟩) xs.length cap))(hm:xs.length=m+1)(hml:m<=900000):
  Does Tryz.prog 121 [qT bl o] [] [RowR bl 151 vs,GX.Own 3 Ty.int (some ⟨g,0,none⟩) cap xs] (fun s:{q:Int×List Int // (q.1::q.2).Perm xs}=>.iface 3 (.int .i64 s.1.1)) (fun _=>[]) (fun s=>[RowR bl 151 (vs.set o (.slice (some ⟨g,0,none⟩) s.1.2.length cap)),GX.Own 3 Ty.int (some ⟨g,0,none⟩) cap s.1.2]):=by
 refine enter Tryz.func121 rfl Tryz.ntmps121 rfl fun b=>?_;have ho:=(List.getElem?_eq_some_iff.1 hv).1;obtain⟨x,hx⟩:=get_lt (show 0<xs.length by omega);obtain⟨y,hy0⟩:=get_lt (show m<xs.length by omega);refine w_ ?_;intros;refine GX.o (clw (qlen_spec (some ⟨g,0,none⟩) xs.length cap) hv fun _=>?_);rw[hm];refine w_ ?_;intros;refine GX.o (clw (qswapI g cap xs 0 (m:Int) 0 m x y rfl rfl hx hy0) hv fun _=>?_);refine w_ ?_;intros;have hl2:((xs.set 0 y).set m x).length=xs.length:=by simp
 refine GX.o (GX.cl (down_spec bl o g cap vs ((xs.set 0 y).set m x) 0 m (by rw[hl2];exact hv) (by omega) (by omega) (by omega)) fun s=>?_);obtain⟨⟨ys,r⟩,hy,hk⟩:=s;dsimp only at hy hk ⊢;have e2:=hy.length_eq;have hyx:ys[m]?=some x:=by rw[hk m (Nat.le_refl _)];exact List.getElem?_set_self (by simp;omega)
 refine w_ ?_;intros;refine GX.o (clm (qpop_spec bl o g cap vs ys m x (by rw[e2,hl2];exact hv) (by omega) (by omega) hyx) fun _=>?_);have e3:(ys.take m).length=m:=by simp;omega
 have e4:(x::ys.take m).Perm xs:=by
  refine List.Perm.trans ?_ (hy.trans (swap_perm hx hy0));obtain⟨h5,h6⟩:=List.getElem?_eq_some_iff.1 hyx;have h7:=List.take_append_drop m ys;rw[List.drop_eq_getElem_cons h5,h6,List.drop_of_length_le (by omega)] at h7;exact (List.perm_append_singleton x (ys.take m)).symm.trans (List.Perm.of_eq h7)
 refine w_ ?_;intros;exact rt1 ⟨(x,ys.take m),e4⟩ rfl
theorem hpush_spec (bl o cap:Nat)(ao:Option Addr)(vs:List Value)(xs:List Int)(i:Int)(hv:vs[o]?=some (.slice ao xs.length cap))(hl:xs.length<=900000):
  Does Tryz.prog 200 [qT bl o,.iface 3 (.int .i64 i)] [] [RowR bl 151 vs,GX.Own 3 Ty.int ao cap xs] (fun _:{q:Option Addr×Nat×List Int // q.2.2.Perm (xs++[i])}=>.tuple #[]) (fun _=>[]) (fun s=>[RowR bl 151 (vs.set o (.slice s.1.1 s.1.2.2.length s.1.2.1)),GX.Own 3 Ty.int s.1.1 s.1.2.1 s.1.2.2]):=by
 refine enter Tryz.func200 rfl Tryz.ntmps200 rfl fun b=>?_;refine w_ ?_;intros;refine GX.o (clm (qpush_spec bl o cap ao vs xs i hv (by omega)) fun s=>?_);obtain⟨ao2,cap2⟩:=s;dsimp only;have ho:=(List.getElem?_eq_some_iff.1 hv).1;refine w_ ?_;intros;have e1:(xs++[i]).length=xs.length+1:=by simp
 refine GX.o (clw (qlenI ao2 (xs++[i]).length cap2 (xs.length+1) e1) (List.getElem?_set_self ho) fun _=>?_);refine w_ ?_;intros;refine GX.opn ao2 fun _ _ h3=>?_;obtain⟨h3,_⟩|⟨g,h3⟩:=h3
 ·exact absurd h3 (by simp)
 subst h3;refine GX.o (GX.cl (up_spec bl o g cap2 (vs.set o (.slice (some ⟨g,0,none⟩) (xs++[i]).length cap2)) (xs++[i]) xs.length (List.getElem?_set_self ho) (by omega) (by omega)) fun s=>?_);obtain⟨ys,hy⟩:=s;dsimp only;have e2:=hy.length_eq;rw[<- e2];refine w_ ?_;intros;exact en0 ⟨(_,_,ys),hy⟩
end Go.Proofs.YtojfbbggnkijeaaGreatDoor
namespace Go.Proofs.YtojfbbggnkijeaaGreatDoor
open Go Go.RR Go.RX Go.GX Go.Api Go.RiseM Go.ReachM Go.RtM Go.LivM
attribute [local irreducible] wpList Code.wp wpPlan Exit.then Exit.inBlock bodyPost NoPanic Went GX.Post Again Meet RowR GX.Own Owns Box Sl Pt Ag MapR Kept Pin wpT GoK AtEnd Both
theorem set_id {α:Type}{l:List α}{i:Nat}{x:α}(h:l[i]?=some x):l.set i x=l:=by
 obtain⟨h1,h2⟩:=List.getElem?_eq_some_iff.1 h;rw[<- h2];exact List.set_getElem_self h1
structure GQ where
 ao:Option Addr
 cap:Nat
 xs:List Int
 S:List Api.State
 W:List Bool
structure ComR (q:GQ)(j:Nat)(L st:List Int)(o:Api.State)(wj:Bool) where
 q':GQ
 r:Bool
 no:r=false->o.met=true/\o.live≠L
 yes:r=true->(o.met=true->o.live=L)/\(o.met=true/\(puts (st++o.stale)).length=o.stale.length/\q'.S=q.S/\q'.W=q.W/\q'.xs=q.xs\/
  ¬ (o.met=true/\(puts (st++o.stale)).length=o.stale.length)/\q'.S=q.S.set j (GuaM.lay L st o)/\q'.W=q.W.set j true/\(wj=true/\q'.xs=q.xs\/wj=false/\q'.xs.Perm (q.xs++[(j:Int)])))
set_option maxHeartbeats 2000000 in
theorem comes_spec (bl:Nat)(v:GV)(t:RTg)(u:Unt)(k:Int)(q:GQ)(j:Nat)(aL:Option Addr)(cL:Nat)(L:List Int)(aT:Option Addr)(cT:Nat)(st:List Int)(o:Api.State)(wj:Bool)(ho:q.S[j]?=some o)(hw:q.W[j]?=some wj)(hS:q.S.length=u.ins.length)(hW:q.W.length=u.ins.length)(hst:st.length<=100000)(hos:o.stale.length<=100000)(hxs:q.xs.length<=100000)(hn:u.ins.length<=100000):
  Does Tryz.prog 119 [.pointer (some ⟨bl,0,none⟩),.int .i64 (j:Int),.agg #[.bool true,.slice aL L.length cL,.slice aT st.length cT]] [Sl Ty.int aL cL L,Sl Ty.int aT cT st,Sl tyUnt v.aU v.cU t.units,Sl Ty.int v.aV v.cV u.vars,Sl Ty.int v.aT v.cT u.takes,Sl tyIns v.aI v.cI u.ins,Sl tyIns v.aJ v.cJ u.ins,Sl (Ty.slice Ty.int) v.aF v.cF (flds t),Sl Ty.int v.aS v.cS (GuaM.both (glob t) (out t k)),Sl Ty.int v.aL v.cL (glob t),Sl (Ty.slice Ty.int) v.aX v.cX (outs t)] [RowR bl 151 (gcl t u k v (.slice q.ao q.xs.length q.cap)),GX.Own 3 Ty.int q.ao q.cap q.xs,GX.Own 238 tyState (some ⟨v.st,0,none⟩) u.ins.length q.S,GX.Own 4 Ty.bool (some ⟨v.wt,0,none⟩) u.ins.length q.W]
   (fun s:ComR q j L st o wj=>.bool s.r) (fun _=>[]) (fun s=>[RowR bl 151 (gcl t u k v (.slice s.q'.ao s.q'.xs.length s.q'.cap)),GX.Own 3 Ty.int s.q'.ao s.q'.cap s.q'.xs,GX.Own 238 tyState (some ⟨v.st,0,none⟩) u.ins.length s.q'.S,GX.Own 4 Ty.bool (some ⟨v.wt,0,none⟩) u.ins.length s.q'.W]):=by
 refine enter Tryz.func119 rfl Tryz.ntmps119 rfl fun b=>?_;have hjS:=(List.getElem?_eq_some_iff.1 ho).1;have hjW:=(List.getElem?_eq_some_iff.1 hw).1;refine w_ ?_;intros;refine nmP 5 ?_;rintro b5 rfl;refine nmP 7 ?_;rintro b7 rfl;rw[show (Value.agg #[.bool true,.slice aL L.length cL,.slice aT st.length cT]).cells.toList=[.bool true,.slice aL L.length cL,.slice aT st.length cT] from rfl];refine frzB b7 ?_
 cases hm:o.met with
 |true=>
  refine w_ ?_;intros;refine nmS 19 ?_;rintro aE cE rfl rfl;refine GX.o (cl (eqi_spec aE aL cE cL o.live L) fun _=>?_);by_cases hL:o.live=L
  ·have hL':¬ ¬ o.live=L:=fun h=>h hL;refine w_ ?_;intros;refine nmS 28 ?_;rintro aO cO rfl rfl;refine GX.o (cl (both_spec aT aO cT cO st o.stale (by omega) (by omega)) fun s=>?_);obtain⟨a6,c6⟩:=s;dsimp only;by_cases hE:(puts (st++o.stale)).length=o.stale.length
   ·refine w_ ?_;intros;exact rt1 ⟨q,true,(fun h=>by cases h),(fun _=>⟨fun _=>hL,.inl ⟨hm,hE,rfl,rfl,rfl⟩⟩)⟩ rfl
   ·skip
    refine w_ ?_;intros;refine drawn3 (RowR bl 151 (gcl t u k v (.slice q.ao q.xs.length q.cap))) (RowR b5 238 [.bool true,.slice aL L.length cL,.slice a6 (puts (st++o.stale)).length c6]) (GX.Own 238 tyState (some ⟨v.st,0,none⟩) u.ins.length q.S) (fun j=>!(List.contains [7] j)) [(0,true),(1,true),(2,true),(3,true),(4,true),(5,true),(6,true),(7,false)] rfl (by kernel_rfl) (by kernel_rfl) sA ?_;intro wd F hW hR;refine u_ ?_;intros;refine unpin (GX.Own 238 tyState (some ⟨v.st,0,none⟩) u.ins.length q.S) ?_;refine u_ ?_;intros;refine unpin (RowR bl 151 (gcl t u k v (.slice q.ao q.xs.length q.cap))) ?_;refine unpin (RowR b5 238 _) ?_
    cases wj with
    |true=>
     refine w_ ?_;intros;exact rt1 ⟨⟨q.ao,q.cap,q.xs,q.S.set j ⟨true,L,puts (st++o.stale)⟩,q.W⟩,true,(fun h=>by cases h),(fun _=>⟨fun _=>hL,.inr ⟨fun h=>hE h.2,rfl,(set_id hw).symm,.inl ⟨rfl,rfl⟩⟩⟩)⟩ rfl
    |false=>
     refine w_ ?_;intros;refine GX.o (mki ?_);refine w_ ?_;intros;refine GX.o (mki ?_);refine GX.o (cl (hpush_spec bl 22 q.cap q.ao (gcl t u k v (.slice q.ao q.xs.length q.cap)) q.xs j rfl (by omega)) fun s=>?_);obtain⟨⟨a8,c8,ys⟩,hp8⟩:=s;simp only[List.set_cons_zero,List.set_cons_succ];refine w_ ?_;intros;exact rt1 ⟨⟨a8,c8,ys,q.S.set j ⟨true,L,puts (st++o.stale)⟩,q.W.set j true⟩,true,(fun h=>by cases h),(fun _=>⟨fun _=>hL,.inr ⟨fun h=>hE h.2,rfl,rfl,.inr ⟨rfl,hp8⟩⟩⟩)⟩ rfl
  ·refine w_ ?_;intros;exact rt1 ⟨q,false,(fun _=>⟨hm,hL⟩),(fun h=>by cases h)⟩ rfl
 |false=>
  refine w_ ?_;intros;refine nmS 28 ?_;rintro aO cO rfl rfl;refine GX.o (cl (both_spec aT aO cT cO st o.stale (by omega) (by omega)) fun s=>?_);obtain⟨a6,c6⟩:=s;dsimp only;refine w_ ?_;intros;refine drawn3 (RowR bl 151 (gcl t u k v (.slice q.ao q.xs.length q.cap))) (RowR b5 238 [.bool true,.slice aL L.length cL,.slice a6 (puts (st++o.stale)).length c6]) (GX.Own 238 tyState (some ⟨v.st,0,none⟩) u.ins.length q.S) (fun j=>!(List.contains [7] j)) [(0,true),(1,true),(2,true),(3,true),(4,true),(5,true),(6,true),(7,false)] rfl (by kernel_rfl) (by kernel_rfl) sA ?_;intro wd F hW hR;refine u_ ?_;intros;refine unpin (GX.Own 238 tyState (some ⟨v.st,0,none⟩) u.ins.length q.S) ?_;refine u_ ?_;intros;refine unpin (RowR bl 151 (gcl t u k v (.slice q.ao q.xs.length q.cap))) ?_;refine unpin (RowR b5 238 _) ?_
  cases wj with
  |true=>
   refine w_ ?_;intros;exact rt1 ⟨⟨q.ao,q.cap,q.xs,q.S.set j ⟨true,L,puts (st++o.stale)⟩,q.W⟩,true,(fun h=>by cases h),(fun _=>⟨(fun h=>by rw[hm] at h;cases h),.inr ⟨(fun h=>by have:=h.1;rw[hm] at this;cases this),rfl,(set_id hw).symm,.inl ⟨rfl,rfl⟩⟩⟩)⟩ rfl
  |false=>
   refine w_ ?_;intros;refine GX.o (mki ?_);refine w_ ?_;intros;refine GX.o (mki ?_);refine GX.o (cl (hpush_spec bl 22 q.cap q.ao (gcl t u k v (.slice q.ao q.xs.length q.cap)) q.xs j rfl (by omega)) fun s=>?_);obtain⟨⟨a8,c8,ys⟩,hp8⟩:=s;simp only[List.set_cons_zero,List.set_cons_succ];refine w_ ?_;intros;exact rt1 ⟨⟨a8,c8,ys,q.S.set j ⟨true,L,puts (st++o.stale)⟩,q.W.set j true⟩,true,(fun h=>by cases h),(fun _=>⟨(fun h=>by rw[hm] at h;cases h),.inr ⟨(fun h=>by have:=h.1;rw[hm] at this;cases this),rfl,rfl,.inr ⟨rfl,hp8⟩⟩⟩)⟩ rfl
end Go.Proofs.YtojfbbggnkijeaaGreatDoor
namespace Go.GX
open Go Go.RowKit Go.RR Go.RX
section
variable {P:Program} {n:Nat} {env:Env} {b:Base} {ps:List Pf} {hp:List Res} {Q:Exit->Act->World->Prop} {K:Act->World->Prop}
variable {l:List Oper} {rest:List Res} {te t:TypeId} {x:Operand}
theorem drawnTR {id:Nat}(hpS:List Res)(hold:Nat->Bool)(t:Tr)[hm:Mixed P](hs:Region.noSelect l.toArray=true)(hpl:(t.isPlan&&t.ok l.toArray hold l.length (Array.replicate l.length false))=true)
  (hl:SelR hpS hp rest) (h:∀wd F,AllP F wd ps->AllR F wd hpS->G n env b (Kept wd F::ps) (hpS.map (Pin wd)++rest) (wpT P l.toArray (NoPanic Q) (SS wd F hpS) hold t)):G n env b ps hp ((Code.region id l.toArray true).wp P Q):=by
 constructor;rintro w ⟨F,s⟩;have s:=s.drew.perm hl.perm;refine RX.drawnT (SS w.drew F hpS) hold t hs hpl ((h w.drew F s.fs (fun r hr=>s.rs r (by simp[hr]))).run w.drew ⟨F,s.upd,s.lt,s.old,?_,?_,?_,?_,?_⟩)
 ·intro p hp
  rcases List.mem_cons.1 hp with rfl|hp
  ·exact⟨Agree.refl _ _,fun _ _ h=>h⟩
  ·exact s.fs p hp
 ·intro r hr;rw[List.mem_append,List.mem_map] at hr
  rcases hr with ⟨r',hr',rfl⟩|hr
  ·exact⟨s.rs r' (by simp[hr']),Agree.refl _ _⟩
  ·exact s.rs r (by simp[hr])
 ·intro r hr;rw[List.mem_append,List.mem_map] at hr
  rcases hr with ⟨r',hr',rfl⟩|hr
  ·exact s.apF r' (by simp[hr'])
  ·exact s.apF r (by simp[hr])
 ·have:=List.pairwise_append.1 s.apart;refine List.pairwise_append.2 ⟨List.pairwise_map.2 (this.1.imp fun h=>h),this.2.1,fun r hr q hq=>?_⟩;obtain⟨r',hr',rfl⟩:=List.mem_map.1 hr;exact this.2.2 r' hr' q hq
 ·intro r hr;rw[List.mem_append,List.mem_map] at hr
  rcases hr with ⟨r',hr',rfl⟩|hr
  ·exact s.on r' (by simp[hr'])
  ·exact s.on r (by simp[hr])
theorem drawnT2 {id:Nat}(r0 r1:Res)(hold:Nat->Bool)(t:Tr)[hm:Mixed P](hs:Region.noSelect l.toArray=true)(hpl:(t.isPlan&&t.ok l.toArray hold l.length (Array.replicate l.length false))=true)
  (hl:SelR [r0,r1] hp rest) (h:∀wd F,AllP F wd ps->AllR F wd [r0,r1]->G n env b (Kept wd F::ps) (Pin wd r0::Pin wd r1::rest) (wpT P l.toArray (NoPanic Q) (SS wd F [r0,r1]) hold t)):G n env b ps hp ((Code.region id l.toArray true).wp P Q):=drawnTR [r0,r1] hold t hs hpl hl h
theorem ld_rowP {bl i sz:Nat}{vs cs:List Value}[UAgg P t][USize P t sz][hf:FRow bl hp te vs rest](hx:ev env x=some (.pointer (some ⟨bl,i,none⟩)))(hc:(vs.drop i).take sz=cs)(hsz:cs.length=sz):RdV P n env ps hp (.load t x) (.agg cs.toArray):=fun F w _ h2=>by
 have hm:=hf.p.mem_iff.2 List.mem_cons_self;have hr:Row w bl te vs:=h2 _ hm;refine run_loadAgg hx hsz (fun w' ha=>CellsAt.move (fun j c hj=>?_) ha (.inr ⟨_,hm,rfl⟩));refine hr.cell_some ?_;rw[<- hc,List.getElem?_take] at hj;split at hj
 ·rw[List.getElem?_drop] at hj;exact hj
 ·cases hj
theorem lrP {d:Nat}{ty:TypeId}{pos:String}{aft:Array Edge}{gd:Option (Nat×Bool)}{bl i sz:Nat}{vs cs:List Value}[UAgg P t][USize P t sz](h:G n ((d,.agg cs.toArray)::env) b ps hp K)(hx:ev env x=some (.pointer (some ⟨bl,i,none⟩)):=by exact rfl)(hf:FRow bl hp te vs rest:=by exact inferInstance)(hc:(vs.drop i).take sz=cs:=by exact rfl)(hsz:cs.length=sz:=by exact rfl)(hd:Nat.blt d n=true:=by exact rfl):
  GO P n env b ps hp ⟨some d,.load t x,ty,pos,aft,gd⟩ K Q:=rdv (ld_rowP hx hc hsz) hd h
end
end Go.GX
