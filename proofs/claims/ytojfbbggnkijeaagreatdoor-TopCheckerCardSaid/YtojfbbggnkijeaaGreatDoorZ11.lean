import Derived.Test.YtojfbbggnkijeaaGreatDoorZ10
set_option linter.all false
noncomputable section
namespace Go.EV
open Go Go.RowKit Go.RR Go.Lib
section
variable {P:Program} {n:Nat} {X:DX} {pl:List PI} {S:Nat->DS} {w0:World} {K0:Nat->Prop} {ρ0:Rn} {ws:World} {D:Array Bool} {a:Act} {w:World} {ρ:Rn} {τ t:Nat} {p:PI} {o:Oper}
variable {q:PI} {s:Nat}
theorem JS.pdlt (hJ:JS n X pl S w0 K0 ρ0 ws D a w ρ τ){ob:AO}(h:Pd pl S D τ q ob):ρ.f (X.n0+q.i)<w.heap.size:=by
 obtain⟨o1,_⟩:=hJ.pend q ob h
 cases ob with
 |row wr e cs tl=>obtain⟨rest,h1,_⟩:=o1;exact (Array.getElem?_eq_some_iff.1 h1).1
 |mp wr es=>obtain⟨es',k,h1,_⟩:=o1;exact (Array.getElem?_eq_some_iff.1 h1).1
 |tab cs=>obtain⟨_,_,h1⟩:=o1;exact (Array.getElem?_eq_some_iff.1 h1).1
def KT (X:DX)(pl:List PI)(S:Nat->DS)(K0:Nat->Prop)(τ:Nat)(p:PI)(b:Nat):Prop:=KA X pl S K0 τ b\/∃j,j∈p.anc/\b=X.n0+j
theorem JS.actsLt (hS:St0 n X pl S w0 K0 ρ0 ws)(hJ:JS n X pl S w0 K0 ρ0 ws D a w ρ τ)(hR:Rdy n X pl D t p o){u:Nat}(hu:u<t)(hq:pl[u]?=some q)(hk:q.kd=.act):u<τ:=
 (hJ.acts u q hq hk).1 (hJ.rdyAnc hS hR q.i (hR.ho.acts u q hu hq hk))
theorem JS.hEq (hS:St0 n X pl S w0 K0 ρ0 ws)(hJ:JS n X pl S w0 K0 ρ0 ws D a w ρ τ)(hR:Rdy n X pl D t p o)(h:τ<=t)(hs:s<=t)(h2:τ<=s):(S s).H=(S τ).H/\(S s).nx=(S τ).nx:=by
 have ht:=(List.getElem?_eq_some_iff.1 hR.hp).1;exact hS.toTr.H τ s h2 (by omega) fun u q hu hut hq hk=>by have:=hJ.actsLt hS hR (by omega) hq hk;omega
theorem JS.nxle (hS:St0 n X pl S w0 K0 ρ0 ws)(hJ:JS n X pl S w0 K0 ρ0 ws D a w ρ τ)(hR:Rdy n X pl D t p o)(hs:s<=t):(S s).nx<=(S τ).nx:=by
 by_cases h:s<=τ
 ·exact hJ.mono s τ h (Nat.le_refl _)
 ·have:=(hJ.hEq hS hR (by omega) hs (by omega)).2;omega
theorem JS.addsPd (hS:St0 n X pl S w0 K0 ρ0 ws)(hJ:JS n X pl S w0 K0 ρ0 ws D a w ρ τ)(hR:Rdy n X pl D t p o)(hτ:τ<=t){b:Nat}{ob:AO}(h:(addsT X.n0 (S t).os (S t).H p.adds).get b=some ob):
  (S τ).H.get b=some ob\/∃q,Pd pl S D τ q ob/\b=X.n0+q.i/\q.i∈p.adds:=by
 have ht:=(List.getElem?_eq_some_iff.1 hR.hp).1
 rcases addsT_get h with h|⟨j,h1,h2,h3⟩
 ·rw[(hJ.hEq hS hR hτ (Nat.le_refl _) hτ).1] at h;exact .inl h
 ·obtain⟨a1,a2,s,q,a3,a4,a5,a6⟩:=hR.ho.adds j h1;subst a5;refine .inr ⟨q,⟨⟨s,a4⟩,hJ.rdyAnc hS hR q.i a1,?_,fun ⟨s',q',b1,b2,b3,b4⟩=>a2 s' q' (by omega) b2 b3 b4⟩,h3,h1⟩;rw[<- hS.toTr.oF a4 a3 (by omega)];exact h2
theorem JS.le_of_act (hJ:JS n X pl S w0 K0 ρ0 ws D a w ρ τ)(hR:Rdy n X pl D t p o)(hk:p.kd=.act):τ<=t:=by
 have:=(hJ.acts t p hR.hp hk);exact Nat.not_lt.1 fun h=>hR.no (this.2 h)
theorem JS.kb_kt (hS:St0 n X pl S w0 K0 ρ0 ws)(hR:Rdy n X pl D t p o){j:Nat}(hj:j∈p.anc)(hq:pl[s]?=some q)(e:q.i=j):∀b,KB X pl S K0 τ q b->KT X pl S K0 τ p b:=fun b hb=>by
 obtain⟨s',q',h1,h2,h3,h4⟩:=hR.ho.up j hj;have:s'=s:=hS.toTr.i_inj h2 hq (h3.trans e.symm);subst this;rw[hq] at h2;cases h2
 rcases hb with hb|⟨j',h5,h6⟩
 ·exact .inl hb
 ·rcases h5 with rfl|h5
  ·exact .inr ⟨q.i,by rw[e];exact hj,h6⟩
  ·exact .inr ⟨j',h4 j' h5,h6⟩
theorem JS.told (hS:St0 n X pl S w0 K0 ρ0 ws)(hJ:JS n X pl S w0 K0 ρ0 ws D a w ρ τ)(hR:Rdy n X pl D t p o)(hk:p.kd=.act):RelH w0 (KT X pl S K0 τ p) ρ (addsT X.n0 (S t).os (S t).H p.adds) w:=
 hJ.good hS _ (fun b h=>.inl h) fun b ob h=>by
  rcases hJ.addsPd hS hR (hJ.le_of_act hR hk) h with h|⟨q,h1,h2,h3⟩
  ·exact .inl h
  ·obtain⟨s,hs⟩:=h1.1;exact .inr ⟨q,h1,h2,JS.kb_kt hS hR (hR.ho.adds _ h3).1 hs rfl⟩
open Classical in
theorem JS.actStep (hS:St0 n X pl S w0 K0 ρ0 ws)(hJ:JS n X pl S w0 K0 ρ0 ws D a w ρ τ)(hR:Rdy n X pl D t p o)(hk:p.kd=.act){v:Value}(hv:VF pl S p.i=some v){ρ1:Rn}{w':World}
  (hL:Left w0 (KT X pl S K0 τ p) ρ (addsT X.n0 (S t).os (S t).H p.adds) w (S t).nx v (S (t+1)).H (S (t+1)).nx ρ1 w'):
  ∃ρ',JS n X pl S w0 K0 ρ0 ws (D.setIfInBounds p.i true) (a.put o.dst (ren ρ1 v)) w' ρ' (t+1):=by
 have hi:=i_lt hS hR.hp;have htl:=(List.getElem?_eq_some_iff.1 hR.hp).1;have hτ:=hJ.le_of_act hR hk;obtain⟨eH,eN⟩:=hJ.hEq hS hR hτ (Nat.le_refl _) hτ;have hlen:=hJ.len hS;have hon:∀j,On (D.setIfInBounds p.i true) j<->j=p.i\/On D j:=fun j=>on_set (by rw[hJ.size];exact hi);have hle:(S t).nx<=(S (t+1)).nx:=hL.le
 -- names
 have ka1:∀b,KA X pl S K0 τ b->KA X pl S K0 (t+1) b:=fun b h=>by
  rcases h with h|⟨s,q,j,h1,h2⟩|⟨h1,h2⟩
  ·exact .inl h
  ·exact .inr (.inl ⟨s,q,j,by omega,h2⟩)
  ·exact .inr (.inr ⟨h1,by omega⟩)
 have kup:∀b,Upto (KT X pl S K0 τ p) (S t).nx (S (t+1)).nx b->KA X pl S K0 (t+1) b:=fun b h=>by
  rcases h with (h|⟨j,h1,h2⟩)|⟨h1,h2⟩
  ·exact ka1 b h
  ·exact .inr (.inl ⟨t,p,j,by omega,hR.hp,hk,h1,h2⟩)
  ·exact .inr (.inr ⟨by omega,h2⟩)
 have ktn:∀j,j<X.ops.length->KA X pl S K0 (t+1) (X.n0+j)->KT X pl S K0 τ p (X.n0+j):=fun j hj h=>by
  rcases h with h|⟨s,q,j',h1,h2,h3,h4,h5⟩|⟨h,_⟩
  ·exact absurd h (hS.bas.1 _ (by omega))
  ·by_cases e:s=t
   ·subst e;rw[hR.hp] at h2;cases h2;exact .inr ⟨j',h4,h5⟩
   ·exact .inl (.inr (.inl ⟨s,q,j',hJ.actsLt hS hR (by omega) h2 h3,h2,h3,h4,h5⟩))
  ·omega
 let ρ2:Rn:=⟨fun b=>if KA X pl S K0 (t+1) b then ρ1.f b else ρ.f b,fun b=>if KA X pl S K0 (t+1) b then ρ1.c b else ρ.c b⟩
 have a12:Agr (Upto (KT X pl S K0 τ p) (S t).nx (S (t+1)).nx) ρ1 ρ2:=fun b hb=>by
  have:=kup b hb;simp[ρ2,this]
 have akb:∀{s:Nat} {q:PI},pl[s]?=some q->Agr (KB X pl S K0 τ q) ρ ρ2:=fun {s q} hq b hb=>by
  by_cases h:KA X pl S K0 (t+1) b
  ·have hkt:KT X pl S K0 τ p b:=by
    rcases hb with hb|⟨j,hj,e⟩
    ·exact .inl hb
    ·subst e;refine ktn j ?_ h
     rcases hj with rfl|hj
     ·exact i_lt hS hq
     ·exact anc_lt hS hq hj
   have:=hL.agr b hkt;simp[ρ2,h,this]
  ·simp[ρ2,h]
 have hnpd:∀q ob,Pd pl S (D.setIfInBounds p.i true) (t+1) q ob->Pd pl S D τ q ob/\¬ KA X pl S K0 (t+1) (X.n0+q.i)/\q.i∉p.adds:=fun q ob ⟨⟨s,hs⟩,h1,h2,h3⟩=>by
  have hm:=oF_make hS hs h2;have hne:q.i≠p.i:=fun e=>by
   have:s=t:=hS.toTr.i_inj hs hR.hp e;subst this;rw[hR.hp] at hs;cases hs;rw[hk] at hm;cases hm
  refine⟨⟨⟨s,hs⟩,((hon _).1 h1).resolve_left hne,h2,fun ⟨s',q',b1,b2,b3,b4⟩=>h3 ⟨s',q',by omega,b2,b3,b4⟩⟩,fun hka=>?_,fun ha=>h3 ⟨t,p,by omega,hR.hp,hk,ha⟩⟩
  rcases hka with h|⟨u,r,j',c1,c2,c3,c4,c5⟩|⟨h,_⟩
  ·exact hS.bas.1 _ (by omega) h
  ·obtain rfl:q.i=j':=by omega
   obtain⟨o',ho'⟩:=at_of hS.chk c2;obtain⟨s',q',d1,d2,d3,_⟩:=ho'.up q.i c4;have:s'=s:=hS.toTr.i_inj d2 hs d3;subst this;rw[hs] at d2;cases d2
   rcases ho'.made c3 s' q d1 hs hm c4 with h8|⟨s2,q2,a1,a2,a3,a4⟩
   ·exact h3 ⟨u,r,c1,c2,c3,h8⟩
   ·exact h3 ⟨s2,q2,by omega,a2,a3,a4⟩
  ·have:=i_lt hS hs;omega
 have hf2:∀q ob,Pd pl S (D.setIfInBounds p.i true) (t+1) q ob->ρ2.f (X.n0+q.i)=ρ.f (X.n0+q.i):=fun q ob h=>by
  simp[ρ2,(hnpd q ob h).2.1]
 -- what is made and not told of lies apart from what the operation is told
 have hap:∀q ob,Pd pl S (D.setIfInBounds p.i true) (t+1) q ob->∀b o',(addsT X.n0 (S t).os (S t).H p.adds).get b=some o'->ρ.f b≠ρ.f (X.n0+q.i):=fun q ob h b o' hb=>by
  obtain⟨h1,_,h3⟩:=hnpd q ob h
  rcases hJ.addsPd hS hR hτ hb with hb|⟨r,r1,rfl,r3⟩
  ·exact (hJ.pend q ob h1).2.2.2 b o' hb
  ·exact hJ.pdis r o' q ob r1 h1 fun e=>h3 (e▸r3)
 have hf1:∀b o',(S (t+1)).H.get b=some o'->ρ2.f b=ρ1.f b:=fun b o' h=>(a12 b (hL.h.kn b o' h)).1.symm;have hws:∀b o',(addsT X.n0 (S t).os (S t).H p.adds).get b=some o'->ws.heap.size<=ρ.f b\/∃j oj,(S 0).H.get j=some oj/\(o'.wr=true->oj.wr=true)/\ρ.f b=ρ0.f j:=fun b o' h=>by
  rcases hJ.addsPd hS hR hτ h with h|⟨q,h1,rfl,_⟩
  ·exact hJ.im b o' h
  ·exact .inl (hJ.pend q o' h1).2.1
 have hv2:ren ρ1 v=ren ρ2 v:=hL.bv ρ1 ρ2 a12;refine⟨ρ2,by simpa using hJ.size,fun i o' h ho' j hd=>?_,by omega,fun s q hq hq2=>?_,.inr ⟨p,hR.hp,hk⟩,fun s s' h1 h2=>?_,by rw[put_size];exact hJ.ts,by rw[put_defers];exact hJ.df,fun d u hd=>?_,fun d u hd hno=>?_,fun s q u d hq hqo hu hd=>?_,fun s q u hq hqo hu=>?_,(hL.h.agr a12).more kup,fun q ob hq=>?_,fun q ob q' ob' hq hq' hne=>?_,fun b hb=>?_,⟨Nat.le_trans hJ.frm.size hL.frm.size,fun k hk2 hn=>?_⟩,fun b o' h=>?_⟩
 ·rw[hon] at h⊢
  rcases h with rfl|h
  ·rw[hR.ho.op] at ho';cases ho';exact .inr (hR.dir j hd)
  ·exact .inr (hJ.clo i o' h ho' j hd)
 ·rw[hon];constructor
  ·rintro (h|h)
   ·have:s=t:=hS.toTr.i_inj hq hR.hp h;omega
   ·have:=(hJ.acts s q hq hq2).1 h;omega
  ·intro h;by_cases e:s=t
   ·subst e;rw[hR.hp] at hq;cases hq;exact .inl rfl
   ·exact .inr ((hJ.acts s q hq hq2).2 (hJ.actsLt hS hR (by omega) hq hq2))
 ·have key:∀s,s<=t->(S s).nx<=(S t).nx:=fun s hs=>by rw[eN];exact hJ.nxle hS hR hs
  by_cases e:s'=t+1
  ·subst e;by_cases e2:s=t+1
   ·subst e2;exact Nat.le_refl _
   ·exact Nat.le_trans (key s (by omega)) hle
  ·by_cases e3:s'<=τ
   ·exact hJ.mono s s' h1 e3
   ·rw[(hJ.hEq hS hR hτ (s:=s') (by omega) (by omega)).2];exact hJ.nxle hS hR (by omega)
 ·have hne:∀x,o.dst=some x->x≠d:=fun x hx e=>by
   subst e;have:=hS.nb t p x hR.hp (by rw[hR.dstOf];exact hx);rw[this] at hd;cases hd
  rw[put_other hne,hJ.base d u hd];exact hS.bt d u hd ρ ρ2 fun b hb=>akb hR.hp b (.inl (.inl hb))
 ·rw[put_other fun x hx e=>hno t p hR.hp ((hon _).2 (.inl rfl)) (by rw[hR.dstOf,hx,e]),hJ.old d u hd fun s q hq hqo=>hno s q hq ((hon _).2 (.inr hqo))];exact hS.bt0 d u hd ρ ρ2 fun b hb=>akb hR.hp b (.inl (.inl hb))
 ·by_cases e:q.i=p.i
  ·have:s=t:=hS.toTr.i_inj hq hR.hp e;subst this;rw[hR.hp] at hq;cases hq;rw[hv] at hu;cases hu;rw[hR.dstOf] at hd;rw[hd,<-hv2];exact put_same (by rw[hJ.ts];exact hR.ho.dst d hd)
  ·have hqo':=((hon _).1 hqo).resolve_left e;rw[put_other fun x hx=>dst_ne hS hq hR.hp e hd (by rw[hR.dstOf];exact hx),hJ.slot s q u d hq hqo' hu hd];exact hJ.bv s q u hq hqo' hu ρ ρ2 (akb hq)
 ·by_cases e:q.i=p.i
  ·have:s=t:=hS.toTr.i_inj hq hR.hp e;subst this;rw[hR.hp] at hq;cases hq;rw[hv] at hu;cases hu;exact hL.bv.mono fun b hb=>.inl (kup b hb)
  ·exact (hJ.bv s q u hq (((hon _).1 hqo).resolve_left e) hu).mono fun b hb=>hb.imp (ka1 b) id
 ·obtain⟨h1,h2,h3⟩:=hnpd q ob hq;obtain⟨s,hs⟩:=h1.1;obtain⟨o1,o2,o3,o4⟩:=hJ.pend q ob h1;have hlt:=hJ.pdlt h1;have hbk:w'.heap[ρ.f (X.n0+q.i)]?=w.heap[ρ.f (X.n0+q.i)]?:=hL.frm.kept _ hlt fun b o' hb _=>hap q ob hq b o' hb;refine⟨?_,by rw[hf2 q ob hq];exact o2,o3.mono fun b hb=>hb.imp (ka1 b) id,fun b o' h=>?_⟩
  ·rw[hf2 q ob hq,hbk];exact o1.agr (akb hs) (.inr ⟨q.i,.inl rfl,rfl⟩) o3
  ·rw[hf1 b o' h,hf2 q ob hq]
   rcases hL.im b o' h with h4|⟨j,oj,h4,_,h5⟩
   ·omega
   ·rw[h5];exact hap q ob hq j oj h4
 ·rw[hf2 q ob hq,hf2 q' ob' hq'];exact hJ.pdis q ob q' ob' (hnpd q ob hq).1 (hnpd q' ob' hq').1 hne
 ·have h1:=hJ.agr b hb;have h2:=akb hR.hp b (.inl (.inl hb));exact⟨h1.1.trans h2.1,h1.2.trans h2.2⟩
 ·rw[hL.frm.kept k (Nat.lt_of_lt_of_le hk2 hJ.frm.size) fun b o' hb hw e=>?_]
  ·exact hJ.frm.kept k hk2 hn
  ·rcases hws b o' hb with h4|⟨j,oj,h4,h5,h6⟩
   ·omega
   ·exact hn j oj h4 (h5 hw) (by rw[<- h6,e])
 ·rw[hf1 b o' h]
  rcases hL.im b o' h with h4|⟨j,oj,h4,h5,h6⟩
  ·exact .inl (Nat.le_trans hJ.frm.size h4)
  ·rw[h6]
   rcases hws j oj h4 with h7|⟨j',oj',h7,h8,h9⟩
   ·exact .inl h7
   ·exact .inr ⟨j',oj',h7,fun h=>h8 (h5 h),h9⟩
end
end Go.EV
noncomputable section
namespace Go.EV
open Go Go.RowKit Go.RR Go.Lib
section
variable {P:Program} {n:Nat} {X:DX} {pl:List PI} {S:Nat->DS} {w0:World} {K0:Nat->Prop} {ρ0:Rn} {ws:World} {D:Array Bool} {a:Act} {w:World} {ρ:Rn} {τ t:Nat} {p:PI} {o:Oper} {Q:Exit->Act->World->Prop}
theorem BT.mono' {K K':Nat->Prop}{tm:T Value}(h:BT K tm)(hk:∀b,K b->K' b):BT K' tm:=fun t v ht=>(h t v ht).mono hk
theorem direct_iff {o:Oper}{e:Edge}(he:e∈o.after)(hb:Region.binds .any e=true):direct o e.on=true:=by
 unfold direct;rw[List.any_eq_true];exact⟨e,by simpa using he,by rw[hb,nbeq];simp⟩
def Fits (pl:List PI)(S:Nat->DS)(vs:T Value)(need:List Nat):Prop:=∀j∈need,vs.get j=VF pl S j
theorem fits_at (hS:St0 n X pl S w0 K0 ρ0 ws)(hR:Rdy n X pl D t p o){u:Nat}(hu:t<=u)(hl:u<=pl.length):Fits pl S (S u).vs p.need:=fun j hj=>by
 obtain⟨s,q,h1,h2,h3,_⟩:=hR.ho.up j (hR.ho.need j hj);rw[<- h3];exact hS.toTr.vF h2 (by omega) hl
theorem olds_get {tm0 base:T Value}:∀{l:List Nat} {d:Nat} {v:Value},(olds tm0 base l).get d=some v->base.get d=some v\/d∈l/\tm0.get d=some v
 |[],d,v,h=>.inl h
 |e::r,d,v,h=>by
  unfold olds at h;split at h
  ·rename_i u hu;rw[T.get_put] at h;split at h
   ·rename_i e1;cases h;subst e1;exact .inr ⟨List.mem_cons_self,hu⟩
   ·exact (olds_get h).imp id fun ⟨a,b⟩=>⟨List.mem_cons_of_mem _ a,b⟩
  ·exact (olds_get h).imp id fun ⟨a,b⟩=>⟨List.mem_cons_of_mem _ a,b⟩
theorem JS.oldNo (hS:St0 n X pl S w0 K0 ρ0 ws)(hJ:JS n X pl S w0 K0 ρ0 ws D a w ρ τ)(hR:Rdy n X pl D t p o){d:Nat}(hd:d∈p.old):∀(s:Nat) (q:PI),pl[s]?=some q->On D q.i->EV.dstOf X.ops q.i≠some d:=fun s q hq hon e=>by
 rcases Nat.lt_trichotomy s t with h|h|h
 ·exact hR.ho.old1 s q d h hq hd e
 ·subst h;rw[hR.hp] at hq;cases hq;exact hR.no hon
 ·obtain⟨o',ho'⟩:=at_of hS.chk hq;have e2:o'.dst=some d:=by
   unfold EV.dstOf at e;rw[nth_eq,ho'.op] at e;exact e
  exact hR.no (hJ.ancOn hS hq hon p.i (ho'.old2 t p d h hR.hp hd e2))
theorem JS.rv (hS:St0 n X pl S w0 K0 ρ0 ws)(hJ:JS n X pl S w0 K0 ρ0 ws D a w ρ τ)(hR:Rdy n X pl D t p o){vs:T Value}(hf:Fits pl S vs p.need):Rv ρ (tmN X.ops vs (olds X.tm0 X.base p.old) p.need) a.eval:=fun x u h=>by
 cases x with
 |tmp d=>
  rcases tmN_get (show (tmN X.ops vs (olds X.tm0 X.base p.old) p.need).get d=some u from h) with h|⟨j,h1,h2,h3⟩
  ·rcases olds_get h with h|⟨h1,h2⟩
   ·exact hJ.base d u h
   ·exact hJ.old d u h2 (hJ.oldNo hS hR h1)
  ·obtain⟨s,q,h4,h5,h6,_⟩:=hR.ho.up j (hR.ho.need j h1);subst h6;exact hJ.slot s q u d h5 (hJ.rdyAnc hS hR q.i (hR.ho.need _ h1)) (by rw[<- hf _ h1];exact h3) h2
 |const v=>
  simp only[opv] at h;obtain⟨hp,h⟩:=cnd h;cases h;exact (ren_plain hp).symm
 |global g=>
  simp only[opv] at h;obtain⟨hp,h⟩:=cnd h;cases h;rw[Nat.blt_eq] at hp;obtain⟨h1,h2⟩:=hS.bas.2 g hp;have:=(hJ.agr g h1).1;simp[Act.eval,<-this,h2]
 |func f=>
  simp only[opv] at h;cases h;simp[Act.eval,ren,ren2,ren1]
theorem JS.bt (hS:St0 n X pl S w0 K0 ρ0 ws)(hJ:JS n X pl S w0 K0 ρ0 ws D a w ρ τ)(hR:Rdy n X pl D t p o){vs:T Value}(hf:Fits pl S vs p.need):BT (KT X pl S K0 τ p) (tmN X.ops vs (olds X.tm0 X.base p.old) p.need):=fun d u h=>by
 rcases tmN_get h with h|⟨j,h1,h2,h3⟩
 ·rcases olds_get h with h|⟨_,h⟩
  ·exact (hS.bt d u h).mono fun b hb=>.inl (.inl hb)
  ·exact (hS.bt0 d u h).mono fun b hb=>.inl (.inl hb)
 ·obtain⟨s,q,h4,h5,h6,_⟩:=hR.ho.up j (hR.ho.need j h1);subst h6;exact (hJ.bv s q u h5 (hJ.rdyAnc hS hR q.i (hR.ho.need _ h1)) (by rw[<- hf _ h1];exact h3)).mono (JS.kb_kt hS hR (hR.ho.need _ h1) h5 rfl)
theorem kt_kb:∀b,KT X pl S K0 τ p b->KB X pl S K0 τ p b:=fun b h=>h.imp id fun ⟨j,h1,h2⟩=>⟨j,.inr h1,h2⟩
theorem kt_g (hS:St0 n X pl S w0 K0 ρ0 ws):∀g,g<16->KT X pl S K0 τ p g:=fun g hg=>.inl (.inl (hS.bas.2 g hg).1)
theorem JS.want (hS:St0 n X pl S w0 K0 ρ0 ws)(hJ:JS n X pl S w0 K0 ρ0 ws D a w ρ τ)(hR:Rdy n X pl D t p o){ops:Array Oper}(ho:X.ops=ops.toList){vs:T Value}(hf:Fits pl S vs p.need){b:Bool}(h:EV.want X.ops vs p.need o=some b):Region.wanted o (yielded ops a.tmps)=b:=by
 unfold EV.want at h;unfold Region.wanted;split at h
 ·rename_i hg;cases h;rw[hg]
 ·rename_i j b' hg;rw[hg];obtain⟨hm,h⟩:=cnd h;rw[memN_iff] at hm;obtain⟨s,q,h4,h5,h6,_⟩:=hR.ho.up j (hR.ho.need j hm);subst h6
  have hy:∀d,EV.dstOf X.ops q.i=some d->yielded ops a.tmps q.i=match a.tmps[d]? with|some (.bool b)=>some b|_=>none:=fun d hd=>by
   unfold EV.dstOf at hd;rw[nth_eq,ho] at hd;have:((ops[q.i]?).bind (·.dst))=some d:=by
    rw[<- Array.getElem?_toList]
    cases hq:ops.toList[q.i]? with
    |none=>rw[hq] at hd;cases hd
    |some o'=>rw[hq] at hd;exact hd
   simp only[yielded,this,Option.bind_some];rfl
  have hval:∀d u,EV.dstOf X.ops q.i=some d->vs.get q.i=some u->a.tmps.getD d undef=ren ρ u:=fun d u hd hu=>hJ.slot s q u d h5 (hJ.rdyAnc hS hR q.i (hR.ho.need _ hm)) (by rw[<- hf _ hm];exact hu) hd;split at h
  ·rename_i d c hd hu;have h1:=hval d _ hd hu;have h2:a.tmps[d]?=some (.bool c):=by
    rw[Array.getD_eq_getD_getElem?] at h1
    cases hx:a.tmps[d]? with
    |none=>rw[hx] at h1;simp[undef] at h1
    |some x=>rw[hx] at h1;simpa using h1
   cases h;simp only[hy d hd,h2];cases b'<;>cases c<;>rfl
  ·rename_i d c hd hu;have h1:=hval d _ hd hu;cases h;simp only[hy d hd];rw[Array.getD_eq_getD_getElem?] at h1
   cases hx:a.tmps[d]? with
   |none=>rfl
   |some x=>
    rw[hx] at h1;simp only[Option.getD_some] at h1;rw[h1];rfl
  ·cases h
theorem os_before (hS:St0 n X pl S w0 K0 ρ0 ws)(hp:pl[t]?=some p):(S t).os.get p.i=none:=by
 have ht:=(List.getElem?_eq_some_iff.1 hp).1;have key:∀s,s<=t->(S s).os.get p.i=none:=by
  intro s
  induction s with
  |zero=>intro _;rw[hS.os0];rfl
  |succ s ih=>
   intro hs;have hl:s<pl.length:=by omega
   have hq:=List.getElem?_eq_getElem hl;rw[(stepD_os (hS.st s _ hq)).1 p.i (hS.toTr.i_ne (by omega) hq hp).symm];exact ih (by omega)
 exact key t (Nat.le_refl _)
theorem rechk_get {vs:T Value}{os H:T AO}:∀{l:List Ck},rechk X vs os H l=true->∀c∈l,∃o v,X.ops[c.i]?=some o/\readV X vs (addsT X.n0 os H c.adds) c.need c.old o=some v/\vs.get c.i=some v
 |[],_,c,hc=>by cases hc
 |c::r,h,c',hc=>by
  unfold rechk at h;split at h
  ·rename_i o ho;rw[nth_eq] at ho;split at h
   ·rename_i v u hv hu
    cases he:vEq v u with
    |false=>rw[he] at h;cases h
    |true=>
     rw[he] at h;have:=vEq_eq he;subst this
     rcases List.mem_cons.1 hc with rfl|hc
     ·exact⟨o,v,ho,hv,hu⟩
     ·exact rechk_get h c' hc
   ·cases h
  ·cases h
theorem JS.run (hT:TyOk P X.tys)(hM:MthOk P X.ms)(hC:CfOk P w0 X.cf)(hS:St0 n X pl S w0 K0 ρ0 ws)(hJ:JS n X pl S w0 K0 ρ0 ws D a w ρ τ)(hR:Rdy n X pl D t p o){ops:Array Oper}(ho:X.ops=ops.toList):
  wpOp P ops Q p.i (fun a' w'=>∃ρ' τ',JS n X pl S w0 K0 ρ0 ws (D.setIfInBounds p.i true) a' w' ρ' τ') a w:=by
 have hop:ops[p.i]?=some o:=by rw[<- Array.getElem?_toList,<-ho];exact hR.ho.op
 have htl:=(List.getElem?_eq_some_iff.1 hR.hp).1;have hst:=hS.st t p hR.hp;have hf:=fits_at hS hR (Nat.le_refl t) (by omega);have hrv:=hJ.rv hS hR hf;have hbt:=hJ.bt hS hR hf;have hg:=kt_g (τ:=τ) (p:=p) hS;have hvf:=hS.toTr.vF hR.hp (t:=t+1) (by omega) (by omega);have hof:=hS.toTr.oF hR.hp (t:=t+1) (by omega) (by omega);unfold wpOp;simp only[hop];have stay:∀v,VF pl S p.i=some v->p.kd≠.act->OF pl S p.i=none->BV (KB X pl S K0 τ p) v->∃ρ' τ',JS n X pl S w0 K0 ρ0 ws (D.setIfInBounds p.i true) (a.put o.dst (ren ρ v)) w ρ' τ':=fun v h1 h2 h3 h4=>
  ⟨ρ,τ,hJ.step hS hR h2 h1 h4 (fun _ _=>⟨rfl,rfl⟩) hJ.hA (fun _ _=>rfl) (Nat.le_refl _) fun ob h=>by rw[h3] at h;cases h⟩
 unfold stepD at hst;rw[nth_eq,hR.ho.op] at hst;simp only at hst;split at hst
 ·-- soft
  rename_i hk;have hka:p.kd≠.act:=by rw[hk];simp
  have hno:OF pl S p.i=none:=by
   cases h:OF pl S p.i with
   |none=>rfl
   |some ob=>have:=oF_make hS hR.hp h;rw[hk] at this;cases this
  split at hst
  ·rename_i hw;split at hst
   ·rename_i v hv;rw[hJ.want hS hR ho hf hw];have hvv:VF pl S p.i=some v:=by
     rw[<- hvf,<-Option.some.inj hst,T.get_put,if_pos rfl]
    have:=stay v hvv hka hno ((opP_bv hT hbt hg hv).mono kt_kb);left;unfold Oper.wp;rw[run_opP hT hrv hv w];exact this
   ·cases hst
  ·rename_i hw;rw[hJ.want hS hR ho hf hw];have hvv:VF pl S p.i=some undef:=by
    rw[<- hvf,<-Option.some.inj hst,T.get_put,if_pos rfl]
   have:=stay undef hvv hka hno bv_undef;rw[ren_undef] at this;exact this
  ·cases hst
 ·-- read
  rename_i hk;have hka:p.kd≠.act:=by rw[hk];simp
  have hno:OF pl S p.i=none:=by
   cases h:OF pl S p.i with
   |none=>rfl
   |some ob=>have:=oF_make hS hR.hp h;rw[hk] at this;cases this
  split at hst
  ·rename_i v hv;have hvv:VF pl S p.i=some v:=by
    rw[<- hvf,<-Option.some.inj hst,T.get_put,if_pos rfl]
   -- the same reading, of memory as it is now
   have now:∃vs H,Fits pl S vs p.need/\readV X vs H p.need p.old o=some v/\RelH w0 (KB X pl S K0 τ p) ρ H w:=by
    by_cases hτ:τ<=t
    ·refine⟨_,_,hf,hv,hJ.good hS _ (fun b h=>.inl h) fun b ob h=>?_⟩
     rcases hJ.addsPd hS hR hτ h with h|⟨q,h1,h2,h3⟩
     ·exact .inl h
     ·obtain⟨s,hs⟩:=h1.1;exact .inr ⟨q,h1,h2,fun x hx=>kt_kb x (JS.kb_kt hS hR (hR.ho.adds _ h3).1 hs rfl x hx)⟩
    ·rcases hJ.last with h0|⟨r,hr,hra⟩
     ·omega
     ·have hne:τ-1≠t:=fun e=>by
       rw[e,hR.hp] at hr;cases hr;rw[hk] at hra;cases hra
      have hna:p.i∉r.anc:=fun h=>hR.no (hJ.ancOn hS hr ((hJ.acts (τ-1) r hr hra).2 (by omega)) p.i h);obtain⟨o',ho'⟩:=at_of hS.chk hr;obtain⟨c,c1,c2,c3,c5,c4⟩:=ho'.ck hra t p (by omega) hR.hp hk hna;have hτl:=hJ.hT;have hf2:=fits_at hS hR (u:=τ-1) (by omega) (by omega);have hst2:=hS.st (τ-1) r hr;have e1:τ-1+1=τ:=by omega
      rw[e1] at hst2;have hck:rechk X (S (τ-1)).vs (S (τ-1)).os (S τ).H r.chk=true:=by
       unfold stepD at hst2;rw[nth_eq,ho'.op,hra] at hst2;simp only at hst2;split at hst2
       ·split at hst2
        ·obtain⟨h1,h2⟩:=cnd hst2;rw[<- Option.some.inj h2];exact h1
        ·cases hst2
       ·obtain⟨h1,h2⟩:=cnd hst2;rw[<- Option.some.inj h2];exact h1
       ·cases hst2
      obtain⟨o2,v2,d1,d2,d3⟩:=rechk_get hck c c1;rw[c2] at d1 d3;rw[hR.ho.op] at d1;cases d1;rw[hS.toTr.vF hR.hp (t:=τ-1) (by omega) (by omega),hvv] at d3;cases d3;rw[c3,c5] at d2;refine⟨_,_,hf2,d2,hJ.good hS _ (fun b h=>.inl h) fun b ob h=>?_⟩
      rcases addsT_get h with h|⟨j,j1,j2,j3⟩
      ·exact .inl h
      ·obtain⟨k1,k2,k3,s',q',k4,k5,k6,k7⟩:=c4 j j1;subst k6;refine .inr ⟨q',⟨⟨s',k5⟩,hJ.rdyAnc hS hR q'.i k1,by rw[<- hS.toTr.oF k5 (t:=τ-1) k4 (by omega)];exact j2,fun ⟨s2,q2,b1,b2,b3,b4⟩=>?_⟩,j3,fun x hx=>kt_kb x (JS.kb_kt hS hR k1 k5 rfl x hx)⟩;by_cases e2:s2=τ-1
       ·subst e2;rw[hr] at b2;cases b2;exact k2 b4
       ·exact k3 s2 q2 (by omega) b2 b3 b4
   obtain⟨vs,H,f1,f2,f3⟩:=now;unfold readV at f2;split at f2
   ·rename_i hw;rw[hJ.want hS hR ho f1 hw];have:=stay v hvv hka hno (opL_bv hT f3.bnd ((hJ.bt hS hR f1).mono' kt_kb) (fun g hg'=>kt_kb g (hg g hg')) f2);left;unfold Oper.wp;rw[run_opL hT f3 (hJ.rv hS hR f1) f2];exact this
   ·rename_i hw;rw[hJ.want hS hR ho f1 hw];cases f2;have:=stay undef hvv hka hno bv_undef;rw[ren_undef] at this;exact this
   ·cases f2
  ·cases hst
 ·-- make
  rename_i hk;have hka:p.kd≠.act:=by rw[hk];simp
  split at hst
  ·rename_i hw;split at hst
   ·rename_i v ob hv;rw[hJ.want hS hR ho hf hw];have hvv:VF pl S p.i=some v:=by
     rw[<- hvf,<-Option.some.inj hst,T.get_put,if_pos rfl]
    have hov:OF pl S p.i=some ob:=by
     rw[<- hof,<-Option.some.inj hst,T.get_put,if_pos rfl]
    have hi:=i_lt hS hR.hp;have hnk:¬ KT X pl S K0 τ p (X.n0+p.i):=fun h=>by
     rcases h with h|⟨j,h1,h2⟩
     ·exact hR.no (hJ.ka_on hS hi h).1
     ·have:j=p.i:=by omega
      subst this;exact hR.no (hJ.rdyAnc hS hR _ h1)
    have hag:Agr (KT X pl S K0 τ p) ρ (ρ.ext (X.n0+p.i) w.heap.size (acap ob)):=ext_agr hnk;obtain⟨x,x1,x2,x3,x4,x5⟩:=run_opA (w:=w) hT hrv hbt hg hv hag (by simp[Rn.ext]) (by simp[Rn.ext]);left;unfold Oper.wp;rw[x1];refine⟨_,τ,hJ.step hS hR hka hvv (x3.mono fun b hb=>?_) (fun b hb=>by simp[Rn.ext,hb]) ((hJ.hA.agr fun b hb=>hag b (.inl hb)).alloc x) (fun k hk2=>?_) ?_ fun ob' h=>?_⟩
    ·rcases hb with hb|rfl
     ·exact kt_kb b hb
     ·exact .inr ⟨p.i,.inl rfl,rfl⟩
    ·show (w.heap.push x)[k]?=_;rw[Array.getElem?_push_lt hk2,<-Array.getElem?_eq_getElem hk2]
    ·show _<=(w.heap.push x).size;rw[Array.size_push];omega
    ·rw[hov] at h;cases h;have e:(ρ.ext (X.n0+p.i) w.heap.size (acap ob)).f (X.n0+p.i)=w.heap.size:=by simp[Rn.ext]
     refine⟨?_,by rw[e];exact Nat.le_refl _,x4.mono kt_kb⟩;rw[e];show ObjR _ _ _ ((w.heap.push x)[w.heap.size]?);rw[Array.getElem?_push_size];exact x2
   ·cases hst
  ·rename_i hw;rw[hJ.want hS hR ho hf hw];have hvv:VF pl S p.i=some undef:=by
    rw[<- hvf,<-Option.some.inj hst,T.get_put,if_pos rfl]
   have hno:OF pl S p.i=none:=by
    rw[<- hof,<-Option.some.inj hst];exact os_before (t:=t) hS hR.hp
   have:=stay undef hvv hka hno bv_undef;rw[ren_undef] at this;exact this
  ·cases hst
 ·-- act
  rename_i hk;have hτ:=hJ.le_of_act hR hk;obtain⟨eH,eN⟩:=hJ.hEq hS hR hτ (Nat.le_refl _) hτ;have hlen:=hJ.len hS;have hrel:=hJ.told hS hR hk;split at hst
  ·rename_i hw;split at hst
   ·rename_i v H' nx' hv;obtain⟨_,hst⟩:=cnd hst;rw[hJ.want hS hR ho hf hw];have e:=Option.some.inj hst;have hvv:VF pl S p.i=some v:=by
     rw[<- hvf,<-e,T.get_put,if_pos rfl]
    have hB:Base (KT X pl S K0 τ p) ρ (S t).nx:=⟨fun b hb h=>by
     rcases h with (h|⟨s,q,j,h1,h2,h3,h4,h5⟩|⟨h1,h2⟩)|⟨j,h1,h2⟩
     ·exact hS.bas.1 b (by omega) h
     ·have:=anc_lt hS h2 h4;omega
     ·omega
     ·have:=anc_lt hS hR.hp h1;omega,fun g hg'=>⟨hg g hg',by
     rw[<- (hJ.agr g (hS.bas.2 g hg').1).1];exact (hS.bas.2 g hg').2⟩⟩
    have:=act_ok (a:=a) hT hM hC hrel hB hbt hrv hv;left;refine this _ Q fun ρ1 w' hL=>?_;have e1:(S (t+1)).H=H':=by rw[<- e]
    have e2:(S (t+1)).nx=nx':=by rw[<- e]
    rw[<- e1,<-e2] at hL;obtain⟨ρ2,h2⟩:=hJ.actStep hS hR hk hvv hL;exact⟨ρ2,t+1,h2⟩
   ·cases hst
  ·rename_i hw;obtain⟨_,hst⟩:=cnd hst;rw[hJ.want hS hR ho hf hw];have e:=Option.some.inj hst;have hvv:VF pl S p.i=some undef:=by
    rw[<- hvf,<-e,T.get_put,if_pos rfl]
   have hL:Left w0 (KT X pl S K0 τ p) ρ (addsT X.n0 (S t).os (S t).H p.adds) w (S t).nx undef (S (t+1)).H (S (t+1)).nx ρ w:=by
    rw[<- e];exact⟨.refl _ _,upto_self hrel,bv_undef,.refl _ _ _,.refl _ _ _,Nat.le_refl _⟩
   obtain⟨ρ2,h2⟩:=hJ.actStep hS hR hk hvv hL;rw[ren_undef] at h2;exact⟨ρ2,t+1,h2⟩
  ·cases hst
end
end Go.EV
noncomputable section
namespace Go.EV
open Go Go.RowKit Go.RR Go.Lib
structure S where
 n:Nat
 tm:T Value
 H:T AO
 nx:Nat
structure Rel (w0:World)(K:Nat->Prop)(ρ:Rn)(s:S)(a:Act)(w:World):Prop where
 ts:a.tmps.size=s.n
 df:a.defers=[]
 slot:∀d v,s.tm.get d=some v->a.tmps.getD d undef=ren ρ v
 bt:BT K s.tm
 h:RelH w0 K ρ s.H w
 bas:Base K ρ s.nx
structure Nxt (w0:World)(K:Nat->Prop)(ρ:Rn)(s:S)(w:World)(s':S)(ρ':Rn)(a':Act)(w':World):Prop where
 rel:Rel w0 (Upto K s.nx s'.nx) ρ' s' a' w'
 agr:Agr K ρ ρ'
 frm:Frm ρ s.H w w'
 im:Im ρ s.H w ρ' s'.H
 le:s.nx<=s'.nx
 n:s'.n=s.n
structure RP where
 pl:List PI
 fin:List Nat
def delAll:List Oper->T Value->T Value
 |[],t=>t
 |o::r,t=>match o.dst with
  |some d=>delAll r (t.del d)
  |none=>delAll r t
def idx1:List PI->List Nat
 |[]=>[]
 |p::r=>p.i::idx1 r
theorem mem_idx1 {j:Nat}:∀{l:List PI},j∈idx1 l<->∃p∈l,p.i=j
 |[]=>by simp[idx1]
 |p::r=>by simp[idx1,mem_idx1,eq_comm]
def rpOk (n:Nat)(ops:List Oper)(rp:RP):Bool:=plChk n ops rp.pl [] [] []&&rp.fin.all fun j=>!memN j (addsR rp.pl [])&&rp.pl.any fun q=>Nat.beq q.i j&&q.kd.isMake
def evDrawn (tys:Tab TI)(ms:Meths)(cf:CallF)(rp:RP)(ops:List Oper)(s:S):Option S:=match runD ⟨tys,ms,cf,ops,delAll ops s.tm,s.nx,s.tm⟩ rp.pl ⟨.nil,.nil,s.H,s.nx+ops.length⟩ with
 |some d=>some ⟨s.n,tmN ops d.vs (delAll ops s.tm) (idx1 rp.pl),addsT s.nx d.os d.H rp.fin,d.nx⟩
 |none=>none
theorem delAll_get:∀{l:List Oper} {t:T Value} {d:Nat} {v:Value},(delAll l t).get d=some v->t.get d=some v/\∀o∈l,o.dst≠some d
 |[],t,d,v,h=>⟨h,fun o ho=>by cases ho⟩
 |o::r,t,d,v,h=>by
  unfold delAll at h;split at h
  ·rename_i e he;obtain⟨h1,h2⟩:=delAll_get h;rw[T.get_del] at h1;split at h1
   ·cases h1
   ·rename_i hne;refine⟨h1,fun o' ho'=>?_⟩
    rcases List.mem_cons.1 ho' with rfl|ho'
    ·rw[he];intro e2;exact hne (Option.some.inj e2).symm
    ·exact h2 o' ho'
  ·rename_i he;obtain⟨h1,h2⟩:=delAll_get h;refine⟨h1,fun o' ho'=>?_⟩
   rcases List.mem_cons.1 ho' with rfl|ho'
   ·rw[he];simp
   ·exact h2 o' ho'
section
variable {P:Program} {w0:World} {K:Nat->Prop} {ρ:Rn} {s s':S} {a:Act} {w:World} {Q:Exit->Act->World->Prop}
variable {ops:Array Oper}
theorem wpAny_inv {J:Array Bool->Act->World->Prop}(hs:∀listed a w,J listed a w->∀i∈Region.ready .any ops listed,wpOp P ops Q i (fun a' w'=>J (listed.setIfInBounds i true) a' w') a w)
  (hz:∀listed a w,J listed a w->listed.size=ops.size) (hf:∀listed a w,J listed a w->Region.ready .any ops listed=[]->Q .normal a w):∀(fuel:Nat) (listed:Array Bool) (a:Act) (w:World),(listed.toList.filter (fun x=>!x)).length<=fuel->J listed a w->wpAny P .any ops Q fuel listed a w:=by
 intro fuel
 induction fuel with
 |zero=>
  intro listed a w hl hJ;have h0:Region.ready .any ops listed=[]:=by
   rw[List.eq_nil_iff_forall_not_mem];intro i hi;obtain⟨h1,o,ho,_⟩:=mem_ready.1 hi;have hi2:i<listed.size:=by rw[hz _ _ _ hJ];exact (Array.getElem?_eq_some_iff.1 ho).1
   have:listed[i]∈listed.toList.filter (fun x=>!x):=by
    rw[List.mem_filter];exact⟨by simp,by simp[Array.getD,hi2] at h1;simp[h1]⟩
   have h9:=List.length_pos_of_mem this;omega
  exact⟨h0,hf _ _ _ hJ h0⟩
 |succ fuel ih=>
  intro listed a w hl hJ;refine⟨hf _ _ _ hJ,fun i hi=>wpOp_mono (fun a' w' h=>ih _ a' w' ?_ h) (hs _ _ _ hJ i hi)⟩;obtain⟨h1,o,ho,_⟩:=mem_ready.1 hi;have hi2:i<listed.size:=by rw[hz _ _ _ hJ];exact (Array.getElem?_eq_some_iff.1 ho).1
  have h1:listed.toList[i]?=some false:=by
   simp[Array.getD,hi2] at h1;simp[hi2,h1]
  have key:∀(l:List Bool) (i:Nat),l[i]?=some false->((l.set i true).filter (fun x=>!x)).length+1=(l.filter (fun x=>!x)).length:=by
   intro l
   induction l with
   |nil=>intro i h;simp at h
   |cons x l ih=>
    intro i h
    cases i with
    |zero=>simp at h;subst h;simp
    |succ i=>
     have:=ih i (by simpa using h);rw[List.set_cons_succ,List.filter_cons,List.filter_cons];cases x
     ·simp only[Bool.not_false,if_true,List.length_cons];omega
     ·simpa using this
  have:=key _ _ h1;rw[Array.toList_setIfInBounds];omega
theorem direct_edge {o:Oper}{j:Nat}(h:direct o j=true):∃e∈o.after,Region.binds .any e=true/\e.on=j:=by
 unfold direct at h;obtain⟨e,he,h2⟩:=List.any_eq_true.1 h;rw[Bool.and_eq_true,nbeq,decide_eq_true_eq] at h2;exact⟨e,by simpa using he,h2⟩
theorem ready_rdy {n:Nat}{X:DX}{pl:List PI}{St:Nat->DS}{K0:Nat->Prop}{ρ0:Rn}{ws:World}(ho:X.ops=ops.toList)(hS:St0 n X pl St w0 K0 ρ0 ws){D:Array Bool}(hz:D.size=X.ops.length){i:Nat}(hi:i∈Region.ready .any ops D):∃t p o,p.i=i/\Rdy n X pl D t p o:=by
 obtain⟨h1,o,h2,h3⟩:=mem_ready.1 hi;have hil:i<X.ops.length:=by rw[ho];simpa using (Array.getElem?_eq_some_iff.1 h2).1
 obtain⟨q,hq,e⟩:=plChk_all hS.chk i hil
 rcases hq with hq|hq
 ·obtain⟨t,ht⟩:=List.mem_iff_getElem?.1 hq;obtain⟨o',ho'⟩:=at_of hS.chk ht;subst e;have:o'=o:=by
   have h4:=ho'.op;rw[ho,Array.getElem?_toList,h2] at h4;exact (Option.some.inj h4).symm
  subst this;refine⟨t,q,o',rfl,ht,ho',fun h=>?_,fun j hj=>?_⟩
  ·unfold On at h;have:q.i<D.size:=by rw[hz];exact hil
   simp[Array.getD,this] at h h1;rw[h] at h1;cases h1
  ·obtain⟨e,he,hb,rfl⟩:=direct_edge hj;exact h3 e he hb
 ·cases hq
theorem evDrawn_ok (hm:P.follows .mixedOrders=true){tys:Tab TI}{ms:Meths}{cf:CallF}(hT:TyOk P tys)(hM:MthOk P ms)(hC:CfOk P w0 cf){rp:RP}{id:Nat}(hrp:rpOk s.n ops.toList rp=true)(hr:Rel w0 K ρ s a w)(h:evDrawn tys ms cf rp ops.toList s=some s')
  (hQ:∀ρ' a' w',Nxt w0 K ρ s w s' ρ' a' w'->Q .normal a' w'):(Code.region id ops true).wp P Q a w:=by
 unfold evDrawn at h;split at h
 ·rename_i d hd;cases h;rw[rpOk,Bool.and_eq_true] at hrp;obtain⟨hck,hfin⟩:=hrp;obtain⟨St,s0,sL,hst⟩:=runD_trace hd
  let X:DX:=⟨tys,ms,cf,ops.toList,delAll ops.toList s.tm,s.nx,s.tm⟩
  have hS:St0 s.n X rp.pl St w0 K ρ w.drew:=by
   refine⟨⟨hck,hst,by rw[s0]⟩,by rw[s0],hr.bas,fun t v hv=>hr.bt t v (delAll_get hv).1,hr.bt,hr.h.upd.size,fun t p d hp hd=>?_⟩
   cases hb:X.base.get d with
   |none=>rfl
   |some v=>
    obtain⟨o,ho⟩:=at_of hck hp;have h2:o.dst=some d:=by
     unfold dstOf at hd;rw[nth_eq] at hd;have:=ho.op;rw[show X.ops=ops.toList from rfl] at hd;rw[this] at hd;exact hd
    exact absurd h2 ((delAll_get hb).2 o (List.mem_of_getElem? ho.op))
  have hK0:∀b,KA X rp.pl St K 0 b<->K b:=fun b=>⟨fun h=>by
   rcases h with h|⟨s,q,j,h1,_⟩|⟨h1,h2⟩
   ·exact h
   ·omega
   ·rw[hS.nx0] at h2;omega,.inl⟩
  have J0:JS s.n X rp.pl St w0 K ρ w.drew (Array.replicate ops.size false) a w.drew ρ 0:=by
   have hno:∀i,¬ On (Array.replicate ops.size false) i:=fun i h=>by
    unfold On at h;rw[Array.getD_eq_getD_getElem?] at h;by_cases hi:i<ops.size
    ·simp[hi] at h
    ·simp[hi] at h
   exact⟨by simp[X],fun i o h=>absurd h (hno i),Nat.zero_le _,fun s q _ _=>⟨fun h=>absurd h (hno _),fun h=>by omega⟩,.inl rfl,fun s s' h1 h2=>by
    have:s=0:=by omega
    have:s'=0:=by omega
    subst_vars;exact Nat.le_refl _,hr.ts,hr.df,fun d v hv=>hr.slot d v (delAll_get hv).1,fun d v hv _=>hr.slot d v hv,fun s q v d _ h=>absurd h (hno _),fun s q v _ h=>absurd h (hno _),by
    rw[s0];exact hr.h.drew.more fun b hb=>(hK0 b).2 hb,fun q ob h=>absurd h.2.1 (hno _),fun q ob q' ob' h=>absurd h.2.1 (hno _),.refl _ _,.refl _ _ _,.refl _ _ _⟩
  refine wp_region_any hm (wpAny_inv (J:=fun D a' w'=>∃ρ' τ,JS s.n X rp.pl St w0 K ρ w.drew D a' w' ρ' τ) ?_ (fun D a' w' ⟨ρ',τ,hJ⟩=>by simpa[X] using hJ.size) ?_ _ _ _ _ (by simp) ⟨ρ,0,J0⟩)
  ·rintro D a' w' ⟨ρ',τ,hJ⟩ i hi;obtain⟨t,p,o,rfl,hR⟩:=ready_rdy rfl hS hJ.size hi;exact hJ.run hT hM hC hS hR rfl
  ·rintro D a' w' ⟨ρ',τ,hJ⟩ h0;have hall:∀(t:Nat) (p:PI),rp.pl[t]?=some p->On D p.i:=by
    intro t
    induction t using Nat.strongRecOn with
    |_ t ih=>
     intro p hp;obtain⟨o,ho⟩:=at_of hck hp;refine Classical.byContradiction fun hn=>?_;have hil:=i_lt hS hp;have:p.i∈Region.ready .any ops D:=mem_ready.2 ⟨by
      unfold On at hn;have hz:p.i<D.size:=by rw[hJ.size];exact hil
      simp[Array.getD,hz] at hn ⊢;exact hn,o,by rw[<- Array.getElem?_toList];exact ho.op,fun e he hb=>by
      obtain⟨s2,q,h1,h2,h3,_⟩:=ho.up e.on (ho.dirs e.on (direct_iff he hb));rw[<- h3];exact ih s2 h1 q h2⟩
     rw[h0] at this;cases this
   have htl:=hJ.hT;have hτ:(St rp.pl.length).H=(St τ).H/\(St rp.pl.length).nx=(St τ).nx:=hS.toTr.H τ _ htl (Nat.le_refl _) fun u q hu hul hq hk=>by
    have:=(hJ.acts u q hq hk).1 (hall u q hq);omega
   have hlen:=hJ.len hS;rw[<- hτ.2,sL] at hlen;have hVF:∀j,VF rp.pl St j=d.vs.get j:=fun j=>by unfold VF;rw[sL]
   have hOF:∀j,OF rp.pl St j=d.os.get j:=fun j=>by unfold OF;rw[sL]
   have hkb:∀{t:Nat} {q:PI},rp.pl[t]?=some q->∀b,KB X rp.pl St K τ q b->Upto K s.nx d.nx b:=fun {t q} hq b hb=>by
    rcases hb with (hb|⟨s2,q2,j,h1,h2,h3,h4,h5⟩|⟨h1,h2⟩)|⟨j,hj,e⟩
    ·exact .inl hb
    ·have:=anc_lt hS h2 h4;refine .inr ⟨by rw[h5];exact Nat.le_add_right _ _,by rw[h5];exact Nat.lt_of_lt_of_le (Nat.add_lt_add_left this _) hlen⟩
    ·rw[<- hτ.2,sL] at h2;exact .inr ⟨Nat.le_trans (Nat.le_add_right _ _) h1,h2⟩
    ·have:j<X.ops.length:=by
      rcases hj with rfl|hj
      ·exact i_lt hS hq
      ·exact anc_lt hS hq hj
     exact .inr ⟨by rw[e];exact Nat.le_add_right _ _,by rw[e];exact Nat.lt_of_lt_of_le (Nat.add_lt_add_left this _) hlen⟩
   have hka:∀b,KA X rp.pl St K τ b->Upto K s.nx d.nx b:=fun b hb=>by
    rcases hb with hb|⟨s2,q2,j,h1,h2,h3,h4,h5⟩|⟨h1,h2⟩
    ·exact .inl hb
    ·have:=anc_lt hS h2 h4;refine .inr ⟨by rw[h5];exact Nat.le_add_right _ _,by rw[h5];exact Nat.lt_of_lt_of_le (Nat.add_lt_add_left this _) hlen⟩
    ·rw[<- hτ.2,sL] at h2;exact .inr ⟨Nat.le_trans (Nat.le_add_right _ _) h1,h2⟩
   have hnle:s.nx<=d.nx:=Nat.le_trans (Nat.le_add_right _ _) hlen;have hfinP:∀b o,(addsT s.nx d.os d.H rp.fin).get b=some o->(St τ).H.get b=some o\/∃q,Pd rp.pl St D τ q o/\b=X.n0+q.i:=fun b o hb=>by
    rcases addsT_get hb with hb|⟨j,h1,h2,h3⟩
    ·rw[<- hτ.1,sL];exact .inl hb
    ·have:=List.all_eq_true.1 hfin j h1;rw[Bool.and_eq_true,Bool.not_eq_true'] at this;obtain⟨f1,f2⟩:=this;obtain⟨q,q1,q2⟩:=List.any_eq_true.1 f2;rw[Bool.and_eq_true,nbeq,decide_eq_true_eq] at q2;obtain⟨t,ht⟩:=List.mem_iff_getElem?.1 q1;refine .inr ⟨q,⟨⟨t,ht⟩,hall t q ht,by rw[hOF,q2.1];exact h2,fun ⟨s2,q',c1,c2,c3,c4⟩=>?_⟩,by rw[h3,q2.1]⟩;have:memN j (addsR rp.pl [])=true:=by
      rw[memN_iff,mem_addsR];exact .inr ⟨q',List.mem_of_getElem? c2,c3,by rw[<- q2.1];exact c4⟩
     rw[f1] at this;cases this
   refine hQ ρ' a' w' ⟨⟨hJ.ts,hJ.df,fun e v hv=>?_,fun e v hv=>?_,hJ.good hS _ hka fun b o hb=>?_,⟨fun b hb hk=>?_,fun g hg=>?_⟩⟩,hJ.agr,?_,fun b o hb=>?_,hnle,rfl⟩
   ·rcases tmN_get hv with hv|⟨j,h1,h2,h3⟩
    ·exact hJ.base e v hv
    ·obtain⟨q,q1,rfl⟩:=mem_idx1.1 h1;obtain⟨t,ht⟩:=List.mem_iff_getElem?.1 q1;exact hJ.slot t q v e ht (hall t q ht) (by rw[hVF];exact h3) h2
   ·rcases tmN_get hv with hv|⟨j,h1,h2,h3⟩
    ·exact (hr.bt e v (delAll_get hv).1).mono fun b hb=>.inl hb
    ·obtain⟨q,q1,rfl⟩:=mem_idx1.1 h1;obtain⟨t,ht⟩:=List.mem_iff_getElem?.1 q1;exact (hJ.bv t q v ht (hall t q ht) (by rw[hVF];exact h3)).mono (hkb ht)
   ·rcases hfinP b o hb with hb|⟨q,h1,h2⟩
    ·exact .inl hb
    ·obtain⟨t,ht⟩:=h1.1;exact .inr ⟨q,h1,h2,hkb ht⟩
   ·rcases hk with hk|⟨h1,h2⟩
    ·exact hr.bas.1 b (Nat.le_trans hnle hb) hk
    ·exact absurd h2 (Nat.not_lt.2 hb)
   ·obtain⟨g1,g2⟩:=hr.bas.2 g hg;exact⟨.inl g1,by rw[<- (hJ.agr g g1).1];exact g2⟩
   ·have:=hJ.frm;rw[s0] at this;exact⟨this.size,this.kept⟩
   ·rcases hfinP b o hb with hb|⟨q,h1,rfl⟩
    ·have:=hJ.im b o hb;rw[s0] at this;exact this
    ·exact .inl (hJ.pend q o h1).2.1
 ·cases h
end
end Go.EV
noncomputable section
namespace Go.EV
open Go Go.RowKit Go.RR Go.Lib
def kdOfs:Op->Kd
 | .alloc _=>.make | .box .. =>.make | .buildSlice .. =>.make | .makeSlice .. =>.make | .makeMap .. =>.make
 | .load .. =>.read | .lookup .. =>.read | .slice .. =>.read
 | .store .. =>.act | .mapUpdate .. =>.act | .insert .. =>.act
 | .call c=>match c.callee with
  | .builtin .append=>.act
  | .builtin .clear=>.act
  | .builtin _=>.soft
  |_=>.act
 |_=>.soft
def kdOf (op:Op):Kd:=Op.rec (motive:=fun _=>Kd)
 (fun _=>.soft)
 (fun _=>.soft)
 (fun _ _ _=>.soft)
 (fun _=>.make)
 (fun _ _=>.make)
 (fun _ _=>.soft)
 (fun _ _ _=>.make)
 (fun _ _ _ _=>.act)
 (fun _ _=>.read)
 (fun _ _ _=>.act)
 (fun _=>.soft)
 (fun _=>.soft)
 (fun _=>.soft)
 (fun _ _ _ _ _=>.soft)
 (fun _ _ _=>.soft)
 (fun _ _ _=>.soft)
 (fun _ _=>.soft)
 (fun _ _=>.soft)
 (fun _ _ _=>.soft)
 (fun _ _=>.make)
 (fun _ _=>.soft)
 (fun _ _ _=>.make)
 (fun _ _ _ _ _=>.read)
 (fun _ _ _=>.soft)
 (fun _ _ _=>.soft)
 (fun _ _ _=>.soft)
 (fun _ _ _=>.soft)
 (fun _ _ _ _=>.read)
 (fun _ _ _ _=>.act)
 (fun _ _ _=>.soft)
 (fun _ _ _ _=>.soft)
 (fun _ _=>.soft)
 (fun _ _=>.soft)
 (fun _=>.soft)
 (fun _ _ _ _=>.soft)
 (fun _ _=>.soft)
 (fun c=>kdOfs (.call c))
 (fun _=>.soft)
 (fun _=>.soft)
 (fun _=>.soft)
 (fun _ _=>.soft)
 (fun _ _ _=>.soft)
 (fun _ _=>.soft)
 op
def stepSs (tys:Tab TI)(ms:Meths)(cf:CallF)(op:Op)(s:S):Option (Value×T AO×Nat):=match kdOf op with
 | .soft=>match opP tys s.tm op with
  |some v=>some (v,s.H,s.nx)
  |none=>none
 | .read=>match opL tys s.tm s.H op with
  |some v=>some (v,s.H,s.nx)
  |none=>none
 | .make=>match opA tys s.tm s.nx op with
  |some (v,ob)=>some (v,s.H.put s.nx ob,s.nx+1)
  |none=>none
 | .act=>act tys ms cf s.tm s.H s.nx op
def stepS (tys:Tab TI)(ms:Meths)(cf:CallF)(op:Op)(s:S):Option (Value×T AO×Nat):=Kd.rec (motive:=fun _=>Tab TI->Meths->CallF->Op->S->Option (Value×T AO×Nat))
 (fun tys _ _ op s=>match opP tys s.tm op with
  |some v=>some (v,s.H,s.nx)
  |none=>none)
 (fun tys _ _ op s=>match opL tys s.tm s.H op with
  |some v=>some (v,s.H,s.nx)
  |none=>none)
 (fun tys _ _ op s=>match opA tys s.tm s.nx op with
  |some (v,ob)=>some (v,s.H.put s.nx ob,s.nx+1)
  |none=>none)
 (fun tys ms cf op s=>act tys ms cf s.tm s.H s.nx op)
 (kdOf op) tys ms cf op s
theorem stepS_eq {tys:Tab TI}{ms:Meths}{cf:CallF}{op:Op}{s:S}:stepS tys ms cf op s=stepSs tys ms cf op s:=by
 unfold stepS stepSs;cases kdOf op<;>rfl
def putS (s:S)(d:Option Nat)(v:Value)(H:T AO)(nx:Nat):Option S:=match d with
 |some d=>bif Nat.blt d s.n then some ⟨s.n,s.tm.put d v,H,nx⟩ else none
 |none=>some ⟨s.n,s.tm,H,nx⟩
def evLin (tys:Tab TI)(ms:Meths)(cf:CallF)(ops:List Oper):List Oper->S->Option S
 |[],s=>some s
 | o::r,s=>match (match o.guard with
   |none=>some true
   |some (j,b)=>match dstOf ops j with
    |some d=>match s.tm.get d with
     |some (.bool c)=>some (bif b then c else !c)
     |some (.tuple _)=>some false
     |_=>none
    |none=>none) with
  |some true=>match stepS tys ms cf o.op s with
   |some (v,H,nx)=>match putS s o.dst v H nx with
    |some s=>evLin tys ms cf ops r s
    |none=>none
   |none=>none
  |some false=>match putS s o.dst undef s.H s.nx with
   |some s=>evLin tys ms cf ops r s
   |none=>none
  |none=>none
section
variable {P:Program} {w0:World} {K:Nat->Prop} {ρ ρ':Rn} {s s' s'':S} {a a':Act} {w w':World} {Q:Exit->Act->World->Prop}
theorem Im.trans {H1 H2 H3:T AO}{r1 r2 r3:Rn}{w1 w2:World}(h1:Im r1 H1 w1 r2 H2)(hs:w1.heap.size<=w2.heap.size)(h2:Im r2 H2 w2 r3 H3):Im r1 H1 w1 r3 H3:=fun i o h=>by
 rcases h2 i o h with h3|⟨j,oj,h3,h4,h5⟩
 ·exact .inl (Nat.le_trans hs h3)
 ·rcases h1 j oj h3 with h6|⟨k,ok,h6,h7,h8⟩
  ·exact .inl (by rw[h5];exact h6)
  ·exact .inr ⟨k,ok,h6,fun h=>h7 (h4 h),h5.trans h8⟩
theorem Frm.trans {H1 H2:T AO}{r1 r2:Rn}{w1 w2 w3:World}(h1:Frm r1 H1 w1 w2)(hi:Im r1 H1 w1 r2 H2)(h2:Frm r2 H2 w2 w3):Frm r1 H1 w1 w3:=
 ⟨Nat.le_trans h1.size h2.size,fun k hk hn=>by
  rw[h2.kept k (Nat.lt_of_lt_of_le hk h1.size) fun i o h hw e=>?_]
  ·exact h1.kept k hk hn
  ·rcases hi i o h with h3|⟨j,oj,h3,h4,h5⟩
   ·omega
   ·exact hn j oj h3 (h4 hw) (by rw[<- h5,e])⟩
theorem Upto.trans {a b c x:Nat}(hb:b<=c)(ha:a<=b)(h:Upto (Upto K a b) b c x):Upto K a c x:=by
 rcases h with (h|h)|h
 ·exact .inl h
 ·exact .inr ⟨h.1,by omega⟩
 ·exact .inr ⟨by omega,h.2⟩
theorem Nxt.trans (h1:Nxt w0 K ρ s w s' ρ' a' w'){ρ2:Rn}{a2:Act}{w2:World}(h2:Nxt w0 (Upto K s.nx s'.nx) ρ' s' w' s'' ρ2 a2 w2):Nxt w0 K ρ s w s'' ρ2 a2 w2:=by
 have hk:∀x,Upto (Upto K s.nx s'.nx) s'.nx s''.nx x->Upto K s.nx s''.nx x:=fun x h=>h.trans h2.le h1.le;refine⟨⟨h2.rel.ts,h2.rel.df,h2.rel.slot,h2.rel.bt.mono' hk,h2.rel.h.more hk,⟨fun b hb h=>?_,fun g hg=>⟨hk g (h2.rel.bas.2 g hg).1,(h2.rel.bas.2 g hg).2⟩⟩⟩,fun b hb=>?_,h1.frm.trans h1.im h2.frm,h1.im.trans h1.frm.size h2.im,Nat.le_trans h1.le h2.le,h2.n.trans h1.n⟩
 ·refine h2.rel.bas.1 b hb ?_
  rcases h with h|⟨h3,h4⟩
  ·exact .inl (.inl h)
  ·omega
 ·have e1:=h1.agr b hb;have e2:=h2.agr b (.inl hb);exact⟨e1.1.trans e2.1,e1.2.trans e2.2⟩
theorem Rel.rv (hr:Rel w0 K ρ s a w):Rv ρ s.tm a.eval:=fun x u h=>by
 cases x with
 |tmp d=>exact hr.slot d u h
 |const v=>
  simp only[opv] at h;obtain⟨hp,h⟩:=cnd h;cases h;exact (ren_plain hp).symm
 |global g=>
  simp only[opv] at h;obtain⟨hp,h⟩:=cnd h;cases h;rw[Nat.blt_eq] at hp;simp[Act.eval,(hr.bas.2 g hp).2]
 |func f=>
  simp only[opv] at h;cases h;simp[Act.eval,ren,ren2,ren1]
theorem Rel.g (hr:Rel w0 K ρ s a w):∀g,g<16->K g:=fun g hg=>(hr.bas.2 g hg).1
theorem Nxt.self (hr:Rel w0 K ρ s a w):Nxt w0 K ρ s w s ρ a w:=
 ⟨⟨hr.ts,hr.df,hr.slot,hr.bt.mono' fun b h=>.inl h,upto_self hr.h,⟨fun b hb h=>by
  rcases h with h|⟨h1,h2⟩
  ·exact hr.bas.1 b hb h
  ·omega,fun g hg=>⟨.inl (hr.bas.2 g hg).1,(hr.bas.2 g hg).2⟩⟩⟩,.refl _ _,.refl _ _ _,.refl _ _ _,Nat.le_refl _,rfl⟩
theorem Rel.put (hr:Rel w0 K ρ s a w){v:Value}{H':T AO}{nx':Nat}(hl:Left w0 K ρ s.H w s.nx v H' nx' ρ' w'){d:Option Nat}(h:putS s d v H' nx'=some s'):Nxt w0 K ρ s w s' ρ' (a.put d (ren ρ' v)) w':=by
 have hbas:Base (Upto K s.nx nx') ρ' nx':=⟨fun b hb h=>by
  rcases h with h|⟨h1,h2⟩
  ·exact hr.bas.1 b (Nat.le_trans hl.le hb) h
  ·omega,fun g hg=>⟨.inl (hr.g g hg),by rw[<- (hl.agr g (hr.g g hg)).1];exact (hr.bas.2 g hg).2⟩⟩
 have hsl:∀e u,s.tm.get e=some u->a.tmps.getD e undef=ren ρ' u:=fun e u hu=>by
  rw[hr.slot e u hu];exact hr.bt e u hu ρ ρ' hl.agr
 unfold putS at h;split at h
 ·rename_i d';obtain⟨hd,h⟩:=cnd h;cases h;rw[Nat.blt_eq] at hd;refine⟨⟨by rw[put_size];exact hr.ts,by rw[put_defers];exact hr.df,fun e u hu=>?_,fun e u hu=>?_,hl.h,hbas⟩,hl.agr,hl.frm,hl.im,hl.le,rfl⟩
  ·rw[T.get_put] at hu;split at hu
   ·rename_i e1;cases hu;subst e1;exact put_same (by rw[hr.ts];exact hd)
   ·rename_i e1;rw[put_other fun x hx e2=>e1 (by rw[<- e2];exact (Option.some.inj hx).symm)];exact hsl e u hu
  ·rw[T.get_put] at hu;split at hu
   ·cases hu;exact hl.bv
   ·exact (hr.bt e u hu).mono fun b h=>.inl h
 ·cases h;exact⟨⟨hr.ts,hr.df,hsl,hr.bt.mono' fun b h=>.inl h,hl.h,hbas⟩,hl.agr,hl.frm,hl.im,hl.le,rfl⟩
theorem left_stay (hr:Rel w0 K ρ s a w){v:Value}(hv:BV K v):Left w0 K ρ s.H w s.nx v s.H s.nx ρ w:=⟨.refl _ _,upto_self hr.h,hv.mono fun _ h=>.inl h,.refl _ _ _,.refl _ _ _,Nat.le_refl _⟩
theorem stepS_ok {tys:Tab TI}{ms:Meths}{cf:CallF}(hT:TyOk P tys)(hM:MthOk P ms)(hC:CfOk P w0 cf)(hr:Rel w0 K ρ s a w){o:Oper}{v:Value}{H':T AO}{nx':Nat}(h:stepS tys ms cf o.op s=some (v,H',nx')):ActOk P w0 K ρ s.H w s.nx o a v H' nx':=by
 rw[stepS_eq] at h;unfold stepSs at h;split at h
 ·split at h
  ·rename_i u hu;cases h;intro next Q hn
   unfold Oper.wp;rw[run_opP hT hr.rv hu w];exact hn ρ w (left_stay hr (opP_bv hT hr.bt hr.g hu))
  ·cases h
 ·split at h
  ·rename_i u hu;cases h;intro next Q hn
   unfold Oper.wp;rw[run_opL hT hr.h hr.rv hu];exact hn ρ w (left_stay hr (opL_bv hT hr.h.bnd hr.bt hr.g hu))
  ·cases h
 ·split at h
  ·rename_i u ob hu;cases h;intro next Q hn
   have hnk:¬ K s.nx:=hr.bas.1 _ (Nat.le_refl _);have hag:Agr K ρ (ρ.ext s.nx w.heap.size (acap ob)):=ext_agr hnk;obtain⟨x,x1,x2,x3,x4,x5⟩:=run_opA (w:=w) hT hr.rv hr.bt hr.g hu hag (by simp[Rn.ext]) (by simp[Rn.ext]);unfold Oper.wp;rw[x1];refine hn _ _ ⟨hag,?_,x3.mono fun b hb=>?_,.zero ((Upd.refl _ w).alloc x),fun i o' h1=>?_,by omega⟩
   ·refine (hr.h.alloc x).fresh hnk (fun j oj hj e=>by have:=hr.h.lt hj;omega) ?_ x4 hr.h.upd.size;show ObjR _ _ _ ((w.heap.push x)[w.heap.size]?);rw[Array.getElem?_push_size];exact x2
   ·rcases hb with hb|rfl
    ·exact .inl hb
    ·exact .inr ⟨Nat.le_refl _,by omega⟩
   ·rw[T.get_put] at h1;split at h1
    ·rename_i e;subst e;exact .inl (by simp[Rn.ext])
    ·rename_i e;exact .inr ⟨i,o',h1,id,by simp[Rn.ext,e]⟩
  ·cases h
 ·exact act_ok hT hM hC hr.h hr.bas hr.bt hr.rv h
theorem evLin_ok {tys:Tab TI}{ms:Meths}{cf:CallF}(hT:TyOk P tys)(hM:MthOk P ms)(hC:CfOk P w0 cf){ops:Array Oper}:∀{l:List Oper} {K:Nat->Prop} {ρ:Rn} {s s':S} {a:Act} {w:World},Rel w0 K ρ s a w->evLin tys ms cf ops.toList l s=some s'->
  (∀ρ' a' w',Nxt w0 K ρ s w s' ρ' a' w'->Q .normal a' w')->wpList P ops Q l a w
 |[],K,ρ,s,s',a,w,hr,h,hQ=>by
  cases h;exact hQ ρ a w (.self hr)
 |o::r,K,ρ,s,s',a,w,hr,h,hQ=>by
  unfold evLin at h
  have hw:∀b,(match o.guard with
   |none=>some true
   |some (j,b)=>match dstOf ops.toList j with
    |some d=>match s.tm.get d with
     |some (.bool c)=>some (bif b then c else !c)
     |some (.tuple _)=>some false
     |_=>none
    |none=>none)=some b->Region.wanted o (yielded ops a.tmps)=b:=fun b hb=>by
   unfold Region.wanted;split at hb
   ·rename_i hg;cases hb;rw[hg]
   ·rename_i j b' hg;rw[hg];split at hb
    ·rename_i d hd
     have hy:yielded ops a.tmps j=match a.tmps[d]? with|some (.bool b)=>some b|_=>none:=by
      unfold dstOf at hd;rw[nth_eq] at hd;have:((ops[j]?).bind (·.dst))=some d:=by
       rw[<- Array.getElem?_toList]
       cases hq:ops.toList[j]? with
       |none=>rw[hq] at hd;cases hd
       |some o'=>rw[hq] at hd;exact hd
      simp only[yielded,this,Option.bind_some];rfl
     split at hb
     ·rename_i c hc;have h1:=hr.slot d _ hc;have h2:a.tmps[d]?=some (.bool c):=by
       rw[Array.getD_eq_getD_getElem?] at h1
       cases hx:a.tmps[d]? with
       |none=>rw[hx] at h1;simp[undef] at h1
       |some x=>rw[hx] at h1;simpa using h1
      cases hb;simp only[hy,h2];cases b'<;>cases c<;>rfl
     ·rename_i c hc;have h1:=hr.slot d _ hc;cases hb;simp only[hy];rw[Array.getD_eq_getD_getElem?] at h1
      cases hx:a.tmps[d]? with
      |none=>rfl
      |some x=>
       rw[hx] at h1;simp only[Option.getD_some] at h1;rw[h1];rfl
     ·cases hb
    ·cases hb
  unfold wpList;split at h
  ·rename_i hg;rw[hw true hg];split at h
   ·rename_i v H nx hv;split at h
    ·rename_i s1 hs1;left;refine stepS_ok hT hM hC hr hv _ _ fun ρ' w' hL=>?_;have h1:=hr.put hL hs1;exact evLin_ok hT hM hC h1.rel h fun ρ2 a2 w2 h2=>hQ ρ2 a2 w2 (h1.trans h2)
    ·cases h
   ·cases h
  ·rename_i hg;rw[hw false hg];split at h
   ·rename_i s1 hs1;have h1:=hr.put (left_stay hr bv_undef) hs1;rw[ren_undef] at h1;exact evLin_ok hT hM hC h1.rel h fun ρ2 a2 w2 h2=>hQ ρ2 a2 w2 (h1.trans h2)
   ·cases h
  ·cases h
end
end Go.EV
