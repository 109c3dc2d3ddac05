import Derived.Test.YtojfbbggnkijeaaGreatDoorZ23
set_option linter.all false
namespace Go.NumM
open Go Go.GX Go.Api
variable {D D2:List Int}
theorem num_pos (x:Int):1<=(num x).length:=by
 obtain⟨c,l,h⟩:=enc_ne (zig x);unfold num;rw[h];simp
theorem fm_len {α:Type}{f:α->List Int}{l:List α}(h:∀x∈l,1<=(f x).length):l.length<=(l.flatMap f).length:=by
 induction l with
 |nil=>simp
 |cons x l ih=>
  have h1:=h x (by simp);have h2:=ih (fun y hy=>h y (by simp[hy]));rw[List.flatMap_cons,List.length_append,List.length_cons];omega
structure Rdm (D:List Int)(d:Bool)(n:Nat)(D2:List Int)(d2:Bool):Prop where
 fit:n<=D2.length
 len:D2.length<=D.length
 mark:d2=false->d=false
 size:d2=false->(num n).length+10*D2.length<=10*D.length
 back:d=false->∀(y:Nat) rest,y<=9223372036854775807->y<=rest.length->D=num y++rest->n=y/\D2=rest/\d2=false
structure RdmS (D:List Int)(d:Bool) where
 n:Nat
 c:Option Addr×Nat
 D2:List Int
 d2:Bool
 h:Rdm D d n D2 d2
theorem rdm_ok {d:Bool}{x:Int}{d2:Bool}(h:Rdn num I64 D d x D2 d2){n:Nat}(hn:x=(n:Int))(hf:n<=D2.length):Rdm D d n D2 d2:=by
 subst hn;refine⟨hf,h.len,h.mark,h.size,fun hd y rest hy hr hD=>?_⟩;obtain⟨h1,h2⟩:=h.back hd (y:Int) rest ⟨by omega,by omega⟩ hD;exact⟨by omega,h2⟩
theorem rdm_bad {d:Bool}{x:Int}{d2:Bool}(h:Rdn num I64 D d x D2 d2)(hn:x<0\/(D2.length:Int)<x\/d2=true):Rdm D d 0 D2 true:=by
 refine⟨Nat.zero_le _,h.len,fun h=>absurd h (by decide),fun h=>absurd h (by decide),fun hd y rest hy hr hD=>?_⟩;obtain⟨h1,h2,h3⟩:=h.back hd (y:Int) rest ⟨by omega,by omega⟩ hD;subst h1 h2;rw[h3] at hn;simp at hn;omega
def flat {α:Type}(f:α->List Int)(l:List α):List Int:=l.flatMap f
def okL {α:Type}(ok:α->Prop)(i:Nat)(l:List α):Prop:=l.length=i/\∀x∈l,ok x
def encN {α:Type}(f:α->List Int)(l:List α):List Int:=num l.length++l.flatMap f
def okN {α:Type}(ok:α->Prop)(l:List α):Prop:=∀x∈l,ok x
section
variable {α β:Type} {e:α->List Int} {ok:α->Prop} {e2:β->List Int} {ok2:β->Prop} {D D1 D2:List Int} {d d1 d2:Bool}
variable {xs:List α} {x:α}
theorem rdl_nil:Rdn (flat e) (okL ok 0) D d [] D d:=⟨⟨rfl,by simp⟩,Nat.le_refl _,fun h=>h,fun _=>by simp[flat],fun hd y rest hy hD=>by
 have:y=[]:=List.length_eq_zero_iff.1 hy.1;subst this;exact⟨rfl,by simpa[flat] using hD,hd⟩⟩
theorem rdl_snoc {i:Nat}(h:Rdn (flat e) (okL ok i) D d xs D1 d1)(g:Rdn e ok D1 d1 x D2 d2):Rdn (flat e) (okL ok (i+1)) D d (xs++[x]) D2 d2:=by
 refine⟨⟨by rw[List.length_append,h.good.1];rfl,fun y hy=>?_⟩,by have:=h.len;have:=g.len;omega,fun k=>h.mark (g.mark k),fun k=>?_,fun hd ys rest hy hD=>?_⟩
 ·rcases List.mem_append.1 hy with hy|hy
  ·exact h.good.2 y hy
  ·simp at hy;subst hy;exact g.good
 ·have h1:=h.size (g.mark k);have h2:=g.size k;unfold flat at h1 ⊢;have h6:[x].flatMap e=e x:=by simp
  rw[List.flatMap_append,List.length_append,h6];omega
 ·obtain⟨hl,ha⟩:=hy;have hne:ys≠[]:=by intro hh;subst hh;simp at hl
  have hys:ys.dropLast++[ys.getLast hne]=ys:=List.dropLast_concat_getLast hne;have hD':D=flat e ys.dropLast++(e (ys.getLast hne)++rest):=by
   rw[hD];have h0:=congrArg (flat e) hys;rw[<- h0];simp[flat,List.flatMap_append]
  obtain⟨h1,h2,h3⟩:=h.back hd ys.dropLast _ ⟨by rw[List.length_dropLast];omega,fun y hy=>ha y ((List.dropLast_sublist ys).subset hy)⟩ hD';obtain⟨g1,g2,g3⟩:=g.back h3 _ rest (ha _ (List.getLast_mem hne)) h2;exact⟨by rw[h1,g1,hys],g2,g3⟩
theorem rdl_end {n i:Nat}(hm:Rdm D d n D1 d1)(h:Rdn (flat e) (okL ok i) D1 d1 xs D2 d2)(hi:i=n\/(i<=n/\d2=true))(hn:n<=9223372036854775807)(hD:D.length<=9223372036854775807)(hp:∀x,ok x->1<=(e x).length):Rdn (encN e) (okN ok) D d xs D2 d2:=by
 refine⟨h.good.2,by have:=h.len;have:=hm.len;omega,fun k=>hm.mark (h.mark k),fun k=>?_,fun hd ys rest hy hD2=>?_⟩
 ·have h1:=h.size k;have h2:=hm.size (h.mark k)
  have:i=n:=by rcases hi with hi|hi;exact hi;rw[k] at hi;exact absurd hi.2 (by decide)
  have h5:(encN e xs).length=(num (xs.length:Int)).length+(xs.flatMap e).length:=by unfold encN;rw[List.length_append]
  rw[h5];rw[<- this,<-h.good.1] at h2;have h3:(num (xs.length:Int)).length+10*D1.length<=10*D.length:=h2;have h4:(xs.flatMap e).length+10*D2.length<=10*D1.length:=h1;generalize (num (xs.length:Int)).length=u at h3 ⊢;generalize (xs.flatMap e).length=w at h4 ⊢;omega
 ·unfold encN at hD2;rw[List.append_assoc] at hD2;have hl:=fm_len (f:=e) (l:=ys) (fun x hx=>hp x (hy x hx));have hDl:=congrArg List.length hD2;simp only[List.length_append] at hDl;obtain⟨m1,m2,m3⟩:=hm.back hd ys.length _ (by omega) (by rw[List.length_append];omega) hD2
  rcases hi with hi|⟨hi,hb⟩
  ·exact h.back m3 ys rest ⟨by omega,hy⟩ m2
  ·exfalso;have hsplit:D1=flat e (ys.take i)++((ys.drop i).flatMap e++rest):=by
    rw[m2];unfold flat;rw[<- List.append_assoc,<-List.flatMap_append,List.take_append_drop]
   have:=(h.back m3 (ys.take i) _ ⟨by rw[List.length_take];omega,fun x hx=>hy x (List.mem_of_mem_take hx)⟩ hsplit).2.2;rw[hb] at this;exact absurd this (by decide)
theorem rd_pair {y:β}(h:Rdn e ok D d x D1 d1)(g:Rdn e2 ok2 D1 d1 y D2 d2):Rdn (fun p:α×β=>e p.1++e2 p.2) (fun p=>ok p.1/\ok2 p.2) D d (x,y) D2 d2:=by
 refine⟨⟨h.good,g.good⟩,by have:=h.len;have:=g.len;omega,fun k=>h.mark (g.mark k),fun k=>?_,fun hd p rest hp hD=>?_⟩
 ·have h1:=h.size (g.mark k);have h2:=g.size k;simp only[List.length_append];omega
 ·obtain⟨u,v⟩:=p;simp only[List.append_assoc] at hD;obtain⟨h1,h2,h3⟩:=h.back hd u _ hp.1 hD;obtain⟨g1,g2,g3⟩:=g.back h3 v rest hp.2 h2;exact⟨by rw[h1,g1],g2,g3⟩
theorem rd_map (f:α->β)(g:β->α)(h:Rdn e ok D d x D2 d2)(hg:∀b,ok2 b->ok (g b)/\e2 b=e (g b)/\f (g b)=b)(hx:ok x->ok2 (f x))(he:ok x->(e2 (f x)).length<=(e x).length):Rdn e2 ok2 D d (f x) D2 d2:=by
 refine⟨hx h.good,h.len,h.mark,fun k=>?_,fun hd y rest hy hD=>?_⟩
 ·have:=h.size k;have:=he h.good;omega
 ·obtain⟨g1,g2,g3⟩:=hg y hy;obtain⟨h1,h2⟩:=h.back hd (g y) rest g1 (by rw[hD,g2]);exact⟨by rw[h1,g3],h2⟩
end
variable {D1 D3 D4 D5 D6:List Int} {d d1 d2 d3 d4:Bool} {xs:List Int}
theorem rd_ins {d5 d6:Bool}{x1 x2 x3 x4 x5:Int}(h1:Rdn num I64 D d x1 D1 d1)(h2:Rdn num I64 D1 d1 x2 D2 d2)(h3:Rdn num I64 D2 d2 x3 D3 d3)(h4:Rdn num I64 D3 d3 x4 D4 d4)(h5:Rdn num I64 D4 d4 x5 D5 d5)(h6:Rdn encL (okN I64) D5 d5 xs D6 d6):
  Rdn encI Ins.ok D d ⟨x1,x2,x3,x4,x5,xs⟩ D6 d6:=by
 have e:∀i:Ins,encI i=((((num i.op++num i.a)++num i.b)++num i.c)++num i.n)++encL i.args:=fun i=>by unfold encI encs;simp
 exact rd_map (fun p:((((Int×Int)×Int)×Int)×Int)×List Int=>(⟨p.1.1.1.1.1,p.1.1.1.1.2,p.1.1.1.2,p.1.1.2,p.1.2,p.2⟩:Ins)) (fun i=>(((((i.op,i.a),i.b),i.c),i.n),i.args)) (rd_pair (rd_pair (rd_pair (rd_pair (rd_pair h1 h2) h3) h4) h5) h6)
  (fun i ⟨k1,k2,k3,k4,k5,k6⟩=>⟨⟨⟨⟨⟨⟨k1,k2⟩,k3⟩,k4⟩,k5⟩,k6⟩,e i,rfl⟩) (fun ⟨⟨⟨⟨⟨k1,k2⟩,k3⟩,k4⟩,k5⟩,k6⟩=>⟨k1,k2,k3,k4,k5,k6⟩) (fun _=>by rw[e];exact Nat.le_refl _)
theorem encI_pos (i:Ins):1<=(encI i).length:=by
 have:=num_pos i.op;unfold encI encs;simp;omega
theorem rd_unt {d5 d6:Bool}{x1 x3:Int}{x2 x4 x5:List Int}{is:List Ins}(h1:Rdn num I64 D d x1 D1 d1)(h2:Rdn encL (okN I64) D1 d1 x2 D2 d2)(h3:Rdn num I64 D2 d2 x3 D3 d3)(h4:Rdn encL (okN I64) D3 d3 x4 D4 d4)(h5:Rdn encL (okN I64) D4 d4 x5 D5 d5)(h6:Rdn (encN encI) (okN Ins.ok) D5 d5 is D6 d6):
  Rdn encU Unt.ok D d ⟨x1,x2,x3,x4,x5,is⟩ D6 d6:=by
 have e:∀i:Unt,encU i=((((num i.params++encL i.vars)++num i.result)++encL i.takes)++encL i.owns)++encN encI i.ins:=fun i=>by unfold encU encN;simp
 exact rd_map (fun p:((((Int×List Int)×Int)×List Int)×List Int)×List Ins=>(⟨p.1.1.1.1.1,p.1.1.1.1.2,p.1.1.1.2,p.1.1.2,p.1.2,p.2⟩:Unt)) (fun i=>(((((i.params,i.vars),i.result),i.takes),i.owns),i.ins)) (rd_pair (rd_pair (rd_pair (rd_pair (rd_pair h1 h2) h3) h4) h5) h6)
  (fun i ⟨k1,k2,k3,k4,k5,k6⟩=>⟨⟨⟨⟨⟨⟨k1,k2⟩,k3⟩,k4⟩,k5⟩,k6⟩,e i,rfl⟩) (fun ⟨⟨⟨⟨⟨k1,k2⟩,k3⟩,k4⟩,k5⟩,k6⟩=>⟨k1,k2,k3,k4,k5,k6⟩) (fun _=>by rw[e];exact Nat.le_refl _)
theorem encU_pos (u:Unt):1<=(encU u).length:=by
 have:=num_pos u.params;unfold encU;simp only[List.length_append];omega
theorem num_bit (b:Bool):(num (if b=true then 1 else 0)).length=1:=by cases b<;>rw[num,enc_small (by decide)]<;>rfl
theorem rd_lay {x:Int}(h1:Rdn num I64 D d x D1 d1)(h2:Rdn encL (okN I64) D1 d1 xs D2 d2):Rdn encC Layout.ok D d ⟨decide (x=1),xs⟩ D2 d2:=by
 refine rd_map (fun p:Int×List Int=>(⟨decide (p.1=1),p.2⟩:Layout)) (fun c=>(if c.arr=true then 1 else 0,c.refs)) (rd_pair h1 h2) (fun c k=>⟨⟨by split<;>exact⟨by omega,by omega⟩,k⟩,rfl,?_⟩) (fun k=>k.2) (fun _=>?_)
 ·obtain⟨a,r⟩:=c;cases a<;>rfl
 ·have:=num_bit (decide (x=1));have:=num_pos x;unfold encC;simp only[List.length_append];omega
theorem encC_pos (c:Layout):1<=(encC c).length:=by
 have:=num_pos (if c.arr=true then 1 else 0);unfold encC;rw[List.length_append];omega
theorem rd_rtg {x:Int}{cl:List Layout}{gl:List Int}{us:List Unt}(h1:Rdn (encN encC) (okN Layout.ok) D d cl D1 d1)(h2:Rdn encL (okN I64) D1 d1 gl D2 d2)(h3:Rdn (encN encU) (okN Unt.ok) D2 d2 us D3 d3)(h4:Rdn num I64 D3 d3 x D4 d4):Rdn encT RTg.ok D d ⟨cl,gl,us,x⟩ D4 d4:=by
 have e:∀t:RTg,encT t=((encN encC t.classes++encL t.globals)++encN encU t.units)++num t.main:=fun t=>by unfold encT encN;simp
 exact rd_map (fun p:((List Layout×List Int)×List Unt)×Int=>(⟨p.1.1.1,p.1.1.2,p.1.2,p.2⟩:RTg)) (fun t=>(((t.classes,t.globals),t.units),t.main)) (rd_pair (rd_pair (rd_pair h1 h2) h3) h4)
  (fun i ⟨k1,k2,k3,k4⟩=>⟨⟨⟨⟨k1,k2⟩,k3⟩,k4⟩,e i,rfl⟩) (fun ⟨⟨⟨k1,k2⟩,k3⟩,k4⟩=>⟨k1,k2,k3,k4⟩) (fun _=>by rw[e];exact Nat.le_refl _)
end Go.NumM
namespace Go.Proofs.YtojfbbggnkijeaaGreatDoor
open Go.Api Go.RtM Go.RiseM Go.FlowM Go.LivM Go.ReachM
variable {f:List (List Int)} {r:List Int} {e c:Int} {t:RTg} {k:Int} {l:List Int}
theorem rc_trans {c:Nat}(h:RC f [e] c)(he:∀k:Nat,e=(k:Int)->RC f r k):RC f r c:=by
 induction h with
 |root h1 _=>exact he _ (List.mem_singleton.1 h1).symm
 |step _ h2 h3 h4 ih=>exact .step ih h2 h3 h4
theorem from_trans (he:e∈fromL f r)(hc:c∈fromL f [e]):c∈fromL f r:=by
 obtain⟨k,rfl,hk⟩:=fromL_mem.1 he;obtain⟨d,rfl,hd⟩:=fromL_mem.1 hc;exact fromL_mem'.2 (rc_trans hd fun j hj=>by obtain rfl:j=k:=(by omega);exact hk)
theorem from_self (h0:0<=e)(h1:e<f.length):e∈fromL f [e]:=by
 obtain⟨k,rfl⟩:∃k:Nat,e=k:=⟨e.toNat,by omega⟩;exact fromL_mem'.2 (.root (by simp) (by omega))
theorem from_root (h:e∈r)(h0:0<=e)(h1:e<f.length):e∈fromL f r:=by
 obtain⟨k,rfl⟩:∃k:Nat,e=k:=⟨e.toNat,by omega⟩;exact fromL_mem'.2 (.root h (by omega))
theorem from_ref {Lt:Layout}(h:gt t.classes k=some Lt)(he:e∈Lt.refs)(h0:0<=e)(h1:e<t.classes.length):e∈fromL (flds t) [k]:=by
 obtain⟨n,rfl,hn,hl⟩:=gt_some h;obtain⟨m,rfl⟩:∃m:Nat,e=m:=⟨e.toNat,by omega⟩;have hf:(flds t)[n]?=some Lt.refs:=by unfold flds;rw[List.getElem?_map,hl];rfl
 exact fromL_mem'.2 (.step (.root (by simp) (by rw[flds_len];exact hn)) hf he (by rw[flds_len];omega))
theorem seen_from {L:List Int}(hC:GuaM.Closed t k L)(he:GuaM.Seen t k L e)(hc:c∈fromL (flds t) [e]):GuaM.Seen t k L c:=by
 have hin:=fromL_in hc
 rcases he with h|h|h
 ·exact .inl (from_trans h hc)
 ·unfold out at h
  cases hu:gt t.units k with
  |none=>rw[hu] at h;simp at h
  |some u=>
   rw[hu] at h;have h:e∈outOf t u:=h;unfold outOf at h;rw[List.mem_filter] at h;by_cases hg:c∈glob t
   ·exact .inl hg
   ·refine .inr (.inl ?_);unfold out;rw[hu];show c∈outOf t u;unfold outOf;rw[List.mem_filter];exact⟨from_trans h.1 hc,by simpa using hg⟩
 ·refine hC c ?_;obtain⟨d,rfl,hd⟩:=fromL_mem.1 hc;refine fromL_mem'.2 (rc_trans hd fun j hj=>?_);subst hj;refine .root h ?_
  -- j is a class: it leads to d, or is d
  clear hC
  induction hd with
  |root h1 h2=>have:=List.mem_singleton.1 h1;omega
  |step _ _ _ _ ih=>
   rename_i c' _ _ hrc _ _ _;exact ih (fromL_in (fromL_mem'.2 hrc)) (fromL_mem'.2 hrc)
theorem at_owns (hR:RightP t){u:Unt}(hu:u∈t.units){i:Nat}{L:List Int}(h:GuaM.At u i L):∀c∈L,c∈u.owns:=by
 induction h with
 |zero=>simp
 |step _ hx _ ih=>
  rename_i x _ _;intro c hc;unfold GuaM.alive at hc;split at hc
  ·rename_i h21
   rcases GuaM.both_mem.1 hc with h|h
   ·exact ih c h
   ·exact ((right_ins hR hu (List.mem_of_getElem? hx)).own (.inl h21)).2 c h
  ·split at hc
   ·exact ih c (GuaM.minus_mem.1 hc).1
   ·exact ih c hc
theorem at_closed {u:Unt}(hA:GuaM.AccU t k u){i:Nat}{L:List Int}(h:GuaM.At u i L):GuaM.Closed t k L:=by
 induction h with
 |zero=>intro c hc;rw[fromL_nil (by simp)] at hc;simp at hc
 |step h hx _ ih=>
  have hc:=(hA.1 _ _ _ h hx).1;unfold GuaM.CondL at hc;unfold GuaM.alive;split
  ·rename_i h21;rw[if_pos h21] at hc;exact hc.2
  ·rename_i h21;split
   ·rename_i h22;rw[if_neg h21,if_pos h22] at hc;exact hc.2
   ·exact ih
def rho (G:List Int):List (Fr×List Int)->Int->Int
 |[],_=>0
 |(f,L)::s,c=>if c∈G then 1 else if c∈L then f.regs c else rho G s c
def regsOf:List (Fr×List Int)->List Int
 |[]=>[1]
 |(f,L)::s=>L.map f.regs++regsOf s
theorem one_regs:∀s,(1:Int)∈regsOf s
 |[]=>by simp[regsOf]
 |(f,L)::s=>by unfold regsOf;exact List.mem_append_right _ (one_regs s)
structure Lists (B:List Bool)(l:List Int):Prop where
 iff:∀r,hasB B r=true<->r∈l
 nd:l.Nodup
theorem Lists.perm {B:List Bool}{m:List Int}(h:Lists B l)(hp:l.Perm m):Lists B m:=⟨fun r=>(h.iff r).trans hp.mem_iff,hp.nodup_iff.1 h.nd⟩
theorem hasB_one {B:List Bool}{r:Int}(h:hasB B r=true):1<=r/\r<=B.length:=by
 obtain⟨k,rfl,hk⟩:=hasB_at h;have:=(List.getElem?_eq_some_iff.1 hk).1;omega
theorem Lists.make {B:List Bool}(h:Lists B l):Lists (B++[true]) (((B.length+1:Nat):Int)::l):=by
 refine⟨fun r=>?_,List.nodup_cons.2 ⟨fun hm=>by have:=hasB_one ((h.iff _).2 hm);omega,h.nd⟩⟩;by_cases hr:r<=B.length
 ·rw[hasB_app hr,h.iff,List.mem_cons];exact⟨.inr,fun h=>h.elim (fun e=>by omega) id⟩
 ·rw[List.mem_cons];constructor
  ·intro h2;have:=hasB_one h2;rw[List.length_append] at this;exact .inl (by simp at this;omega)
  ·rintro (rfl|h2)
   ·unfold hasB;rw[show ((((B.length+1:Nat):Int))-1).toNat=B.length by omega,List.getElem?_append_right (Nat.le_refl _)];simp;omega
   ·have:=hasB_one ((h.iff _).2 h2);omega
theorem Lists.rem {B:List Bool}{r:Int}(h:Lists B (r::l)):Lists (B.set (r-1).toNat false) l:=by
 obtain⟨k,rfl,hk⟩:=hasB_at ((h.iff r).2 (by simp));have hl:=(List.getElem?_eq_some_iff.1 hk).1;obtain⟨n1,n2⟩:=List.nodup_cons.1 h.nd;rw[show ((k:Int)+1-1).toNat=k by omega];refine⟨fun r=>?_,n2⟩;by_cases e:r=(k:Int)+1
 ·subst e;rw[hasB_set_same hl];exact⟨fun h=>(by cases h),fun h=>absurd h n1⟩
 ·rw[hasB_set e,h.iff,List.mem_cons];exact⟨fun h=>h.elim (fun h=>absurd h e) id,.inr⟩
theorem Lists.count:∀{l:List Int} {B:List Bool},Lists B l->liveN B=l.length
 |[],B,h=>liveN_zero fun j hj=>by
  have:=(h.iff ((j:Int)+1)).1 (by unfold hasB;rw[show ((j:Int)+1-1).toNat=j by omega,hj];simp;omega);simp at this
 |r::l,B,h=>by
  obtain⟨k,rfl,hk⟩:=hasB_at ((h.iff r).2 (by simp));have h1:=liveN_set hk;have h2:=h.rem.count;rw[show ((k:Int)+1-1).toNat=k by omega] at h2;rw[List.length_cons];omega
theorem crT_ok:∀(l L R:List Int) (T:Tb) (m:Int->Int),l.Nodup->(∀c∈l,c∉L)->(∀c∈l,m c=0)->Lists T.B (L.map m++R)->
  (crT l T m).2.2=true/\Lists (crT l T m).1.B ((L++l).map (crT l T m).2.1++R)/\(∀c,c∉l->(crT l T m).2.1 c=m c)/\(crT l T m).1.L=T.L
 |[],L,R,T,m,_,_,_,h=>⟨rfl,by rw[List.append_nil];exact h,fun _ _=>rfl,rfl⟩
 |c::l,L,R,T,m,hn,hL,hm,h=>by
  obtain⟨n1,n2⟩:=List.nodup_cons.1 hn;unfold crT;rw[if_neg (fun e=>e (hm c (by simp)))];have hcL:c∉L:=hL c (by simp);have e1:(L++[c]).map (updI m c ((T.B.length+1:Nat):Int))=L.map m++[((T.B.length+1:Nat):Int)]:=by
   rw[List.map_append];congr 1
   ·exact List.map_congr_left fun x hx=>by unfold updI;rw[if_neg (fun e=>hcL (by rw[<- e];exact hx))]
   ·simp[updI]
  obtain⟨a,b,d,e⟩:=crT_ok l (L++[c]) R T.make (updI m c ((T.B.length+1:Nat):Int)) n2
   (fun x hx hx2=>by
    rcases List.mem_append.1 hx2 with h2|h2
    ·exact hL x (by simp[hx]) h2
    ·exact n1 (by rw[<- List.mem_singleton.1 h2];exact hx))
   (fun x hx=>by unfold updI;rw[if_neg (fun e=>n1 (by rw[<- e];exact hx))];exact hm x (by simp[hx]))
   (by
    rw[e1,List.append_assoc];exact h.make.perm (by simpa using (List.perm_middle (a:=((T.B.length+1:Nat):Int)) (l₁:=L.map m) (l₂:=R)).symm))
  refine⟨a,by rw[List.append_assoc] at b;exact b,fun x hx=>?_,e⟩;rw[d x (fun h=>hx (by simp[h]))];unfold updI;rw[if_neg (fun e=>hx (by simp[e]))]
theorem minus_perm {L:List Int}(hn:L.Nodup)(hc:c∈L):L.Perm (c::L.filter fun x=>decide (x∉[c])):=by
 refine (List.perm_ext_iff_of_nodup hn (List.nodup_cons.2 ⟨by simp,hn.filter _⟩)).2 fun x=>?_;simp only[List.mem_cons,List.mem_filter,decide_eq_true_eq,List.not_mem_nil,or_false];exact⟨fun h=>by by_cases e:x=c<;>simp[e,h],fun h=>h.elim (fun e=>by rw[e];exact hc) (·.1)⟩
theorem rmT_ok:∀(l L R:List Int) (T:Tb) (m:Int->Int),l.Nodup->L.Nodup->(∀c∈l,c∈L)->Lists T.B (L.map m++R)->
  (rmT l T m).2.2=true/\Lists (rmT l T m).1.B ((GuaM.minus L l).map (rmT l T m).2.1++R)/\(∀c,(rmT l T m).2.1 c=if c∈l then 0 else m c)/\(rmT l T m).1.L=T.L
 |[],L,R,T,m,_,_,_,h=>⟨rfl,by unfold GuaM.minus;rw[List.filter_eq_self.2 (by simp)];exact h,fun _=>by simp[rmT],rfl⟩
 |c::l,L,R,T,m,hn,hLn,hL,h=>by
  obtain⟨n1,n2⟩:=List.nodup_cons.1 hn;have hcL:c∈L:=hL c (by simp);have hp:=((minus_perm hLn hcL).map m).append_right R;have h2:Lists T.B (m c::((L.filter fun x=>decide (x∉[c])).map m++R)):=h.perm hp;have hh:=(h2.iff (m c)).2 (by simp);unfold rmT;rw[if_neg (fun e=>by have:=hasB_one hh;omega)];have e0:(T.rem (m c)).B=T.B.set (m c-1).toNat false/\(T.rem (m c)).L=T.L:=by unfold Tb.rem;rw[if_pos hh];exact⟨rfl,rfl⟩
  have e1:(L.filter fun x=>decide (x∉[c])).map (updI m c 0)=(L.filter fun x=>decide (x∉[c])).map m:=
   List.map_congr_left fun x hx=>by
    have:=(List.mem_filter.1 hx).2;unfold updI;rw[if_neg (by simpa using this)]
  obtain⟨a,b,d,e⟩:=rmT_ok l (L.filter fun x=>decide (x∉[c])) R (T.rem (m c)) (updI m c 0) n2 (hLn.filter _)
   (fun x hx=>List.mem_filter.2 ⟨hL x (by simp[hx]),by simpa using fun e=>n1 (by rw[<- e];exact hx)⟩)
   (by rw[e0.1,e1];exact h2.rem)
  refine⟨a,?_,fun x=>?_,e.trans e0.2⟩
  ·have:GuaM.minus (L.filter fun x=>decide (x∉[c])) l=GuaM.minus L (c::l):=by
    unfold GuaM.minus;rw[List.filter_filter];refine List.filter_congr fun x _=>?_;by_cases h1:x∈l<;>by_cases h3:x=c<;>simp[h1,h3]
   rwa[this] at b
  ·rw[d x];unfold updI;by_cases h1:x∈l<;>by_cases h3:x=c<;>simp[h1,h3]
abbrev Ob:=Int×(Int->Int)
def Pts (t:RTg)(O:List Ob)(e v:Int)(E:Int->Int):Prop:=v=0\/∃(k:Nat) (o:Ob),v=(k:Int)+1/\O[k]?=some o/\o.1=e/\∀c∈fromL (flds t) [e],o.2 c=E c
def Val (t:RTg)(O:List Ob)(e v:Int)(E:Int->Int):Prop:=(e=-1->v=0)/\(0<=e->Pts t O e v E)
variable {O:List Ob} {v:Int}
theorem Val.zero (t:RTg)(O:List Ob)(e:Int)(E:Int->Int):Val t O e 0 E:=⟨fun _=>rfl,fun _=>.inl rfl⟩
theorem Val.plain (t:RTg)(O:List Ob)(v:Int)(E:Int->Int):Val t O (-2) v E:=⟨fun h=>by omega,fun h=>by omega⟩
theorem Val.more {E:Int->Int}(h:Val t O e v E)(o:Ob):Val t (O++[o]) e v E:=
 ⟨h.1,fun he=>(h.2 he).imp id fun ⟨k,p,a,b,c⟩=>⟨k,p,a,by rw[List.getElem?_append_left (List.getElem?_eq_some_iff.1 b).1];exact b,c⟩⟩
theorem Val.env {E E':Int->Int}(h:Val t O e v E)(hE:v≠0->∀c∈fromL (flds t) [e],E c=E' c):Val t O e v E':=
 ⟨h.1,fun he=>by
  by_cases h0:v=0
  ·exact .inl h0
  ·exact (h.2 he).imp id fun ⟨k,p,a,b,c,d⟩=>⟨k,p,a,b,c,fun x hx=>(d x hx).trans (hE h0 x hx)⟩⟩
theorem Val.into {a b:Int}{E:Int->Int}(h:Val t O b v E)(hi:Into a b):Val t O a v E:=by
 unfold Into at hi;split at hi
 ·obtain⟨_,rfl|rfl⟩:=hi
  ·exact h
  ·rw[h.1 rfl];exact .zero ..
 ·rw[hi.1];exact .plain ..
def ent (Lt:Layout)(j:Nat):Option Int:=if Lt.arr=true then Lt.refs[0]? else Lt.refs[j]?
structure ObOk (t:RTg)(O:List Ob)(o:Ob)(q:Cell):Prop where
 reg:q.1=o.2 o.1
 cls:IsClass t o.1
 val:∀Lt,gt t.classes o.1=some Lt->∀(j:Nat) v e,q.2[j]?=some v->ent Lt j=some e->Val t O e v o.2
def ObsOk (t:RTg)(O:List Ob)(l:List Cell):Prop:=O.length=l.length/\∀(k:Nat) o q,O[k]?=some o->l[k]?=some q->ObOk t O o q
theorem ObsOk.more {t:RTg}{O:List Ob}{l:List Cell}(h:ObsOk t O l){o:Ob}{q:Cell}(ho:ObOk t (O++[o]) o q):ObsOk t (O++[o]) (l++[q]):=by
 refine⟨by simp[h.1],fun k p r h1 h2=>?_⟩;by_cases hk:k<O.length
 ·rw[List.getElem?_append_left hk] at h1;rw[List.getElem?_append_left (by rw[<- h.1];exact hk)] at h2;obtain⟨a,b,c⟩:=h.2 k p r h1 h2;exact⟨a,b,fun Lt hL j v e h3 h4=>(c Lt hL j v e h3 h4).more o⟩
 ·have hk2:=(List.getElem?_eq_some_iff.1 h1).1;have:k=O.length:=by simp at hk2;omega
  subst this;rw[List.getElem?_append_right (Nat.le_refl _)] at h1;rw[h.1,List.getElem?_append_right (Nat.le_refl _)] at h2;simp at h1 h2;subst h1 h2;exact ho
theorem ent_len {Lt:Layout}{j:Nat}(h:ent Lt j=some e):e∈Lt.refs:=by
 unfold ent at h;split at h<;>exact List.mem_of_getElem? h
theorem follow {l:List Cell}(h:ObsOk t O l){E:Int->Int}(hv:Val t O e v E)(he:-1<=e)(hc:IsEntry t e):at_ l v=none\/0<=e/\v≠0/\∃(k:Nat) (o:Ob) (q:Cell),v=(k:Int)+1/\O[k]?=some o/\l[k]?=some q/\at_ l v=some q/\ObOk t O o q/\o.1=e/\q.1=E e/\∀c∈fromL (flds t) [e],o.2 c=E c:=by
 by_cases h1:e=-1
 ·rw[hv.1 h1];exact .inl (at_none (.inl (by omega)))
 ·have h0:0<=e:=by omega
  rcases hv.2 h0 with rfl|⟨k,o,rfl,ho,rfl,hE⟩
  ·exact .inl (at_none (.inl (by omega)))
  ·have hk:=(List.getElem?_eq_some_iff.1 ho).1;obtain⟨q,hq⟩:∃q,l[k]?=some q:=⟨l[k]'(by rw[<- h.1];exact hk),List.getElem?_eq_getElem _⟩;have hob:=h.2 k o q ho hq;refine .inr ⟨h0,by omega,k,o,q,rfl,ho,hq,at_some hq,hob,rfl,?_,hE⟩;rw[hob.reg];exact hE _ (from_self h0 (by rw[flds_len];exact hob.cls.2))
variable {t:RTg} {k:Int} {u:Unt} {n:Int} {l:List Int}
def VarOk (t:RTg)(O:List Ob)(k:Int)(L:List Int)(E:Int->Int)(e x:Int):Prop:=Val t O e x E/\(0<=e->x≠0->GuaM.Seen t k L e)
theorem VarOk.zero (t:RTg)(O:List Ob)(k:Int)(L:List Int)(E:Int->Int)(e:Int):VarOk t O k L E e 0:=⟨.zero ..,fun _ h=>absurd rfl h⟩
theorem VarOk.plain (t:RTg)(O:List Ob)(k:Int)(L:List Int)(E:Int->Int)(x:Int){e:Int}(h:e=-2):VarOk t O k L E e x:=by subst h;exact⟨.plain ..,fun h=>by omega⟩
theorem VarOk.into {t:RTg}{O:List Ob}{k:Int}{L:List Int}{E:Int->Int}{a b x:Int}(h:VarOk t O k L E b x)(hi:Into a b):VarOk t O k L E a x:=by
 refine⟨h.1.into hi,fun h0 hx=>?_⟩;unfold Into at hi;rw[if_pos (by omega)] at hi;obtain⟨_,rfl|rfl⟩:=hi
 ·exact h.2 h0 hx
 ·exact absurd (h.1.1 rfl) hx
structure FOk (t:RTg)(O:List Ob)(f:Fr)(u:Unt)(L:List Int)(s:List (Fr×List Int))(p:Nat)(skip:Int):Prop where
 unit:gt t.units f.u=some u
 ats:GuaM.At u p L
 vars:f.vars.length=u.vars.length
 val:∀n e x,gt u.vars n=some e->gt f.vars n=some x->n≠skip->¬ GuaM.St u p n->VarOk t O f.u L (rho (glob t) ((f,L)::s)) e x
 takes:∀c∈u.takes,f.regs c=rho (glob t) s c
 owns:∀c∈u.owns,c∉L->f.regs c=0
 outs:∀c∈out t f.u,∃g L' s',s=(g,L')::s'/\GuaM.Seen t g.u L' c
 res:∀h L' s',s=(h,L')::s'->f.into=-1\/∃uh,gt t.units h.u=some uh/\Into (of uh f.into) u.result
def SOk (t:RTg)(O:List Ob):Int->List (Fr×List Int)->Prop
 |_,[]=>True
 |skip,(f,L)::s=>(∃u p,f.pc=((p:Nat):Int)/\FOk t O f u L s p skip)/\SOk t O f.into s
abbrev Wider (t:RTg)(O O':List Ob):Prop:=∀e v E,Val t O e v E->Val t O' e v E
theorem VarOk.wider {O O':List Ob}(hO:Wider t O O'){L:List Int}{E:Int->Int}{e x:Int}(h:VarOk t O k L E e x):VarOk t O' k L E e x:=⟨hO _ _ _ h.1,h.2⟩
theorem SOk.wider {t:RTg}{O O':List Ob}(hO:Wider t O O'):∀{s:List (Fr×List Int)} {k:Int},SOk t O k s->SOk t O' k s
 |[],_,_=>trivial
 |(f,L)::s,k,⟨⟨u,p,hp,h⟩,h2⟩=>⟨⟨u,p,hp,{h with val:=fun n e x a b c d=>(h.val n e x a b c d).wider hO }⟩,h2.wider hO⟩
structure SafeM (t:RTg)(M:Ms)(σ:List (Fr×List Int))(O:List Ob):Prop where
 fs:σ.map (·.1)=M.fs
 st:SOk t O (-1) σ
 regs:Lists M.tb.B (regsOf σ)
 obs:ObsOk t O M.tb.L
 glo:∀n e x,gt t.globals n=some e->gt M.gl n=some x->Val t O e x (fun _=>1)
def GoodM (t:RTg)(M:Ms):Prop:=M.en=0/\(∃σ O,SafeM t M σ O)\/M.en=2\/M.en=1/\Lists M.tb.B [1]
structure Acc (t:RTg):Prop where
 right:RightP t
 acc:∀(k:Nat) u,t.units[k]?=some u->GuaM.AccU t (k:Int) u
theorem entry_of (hR:RightP t)(hu:u∈t.units)(h:of u n≠-3):IsEntry t (of u n):=by
 obtain⟨k,rfl,hk⟩:=of_ne h;unfold of;rw[gt_nat,List.getElem?_eq_getElem hk];exact (right_unit hR hu).1.2.1 _ (List.getElem_mem hk)
theorem out_owns (hR:RightP t)(hu:gt t.units k=some u){c:Int}(h:c∈u.owns):c∉out t k/\c∉glob t:=by
 have:=((right_unit hR (gt_mem hu)).1.2.2.2.2.2.1).2 c h;unfold out;rw[hu];exact this.2
theorem out_takes (hR:RightP t)(hu:gt t.units k=some u){c:Int}(h:c∈u.takes):c∈out t k:=by
 have:=((right_unit hR (gt_mem hu)).1.2.2.2.2.1).2 c h;unfold out;rw[hu];exact this
theorem rho_in {t:RTg}{O:List Ob}(hR:RightP t):∀{s:List (Fr×List Int)} {k:Int} {f:Fr} {L:List Int} {s':List (Fr×List Int)},SOk t O k s->s=(f,L)::s'->∀{c:Int},GuaM.Seen t f.u L c->rho (glob t) s c∈regsOf s
 |[],_,_,_,_,_,h,_,_=>by cases h
 |(f,L)::s,k,_,_,_,⟨⟨u,p,_,h⟩,h2⟩,rfl,c,hc=>by
  unfold rho;by_cases hg:c∈glob t
  ·rw[if_pos hg];exact one_regs _
  ·rw[if_neg hg];by_cases hL:c∈L
   ·rw[if_pos hL];unfold regsOf;exact List.mem_append_left _ (List.mem_map_of_mem hL)
   ·rw[if_neg hL];have ho:c∈out t f.u:=(hc.resolve_left hg).resolve_right hL;obtain⟨g,L',s'',rfl,hs⟩:=h.outs c ho;have:=rho_in hR h2 rfl hs;show _∈L.map f.regs++regsOf ((g,L')::s'');exact List.mem_append_right _ this
theorem gt_set {y:Int}(h:k≠n)(h0:0<=n):gt (setv l n y) k=gt l k:=by
 unfold gt setv;split
 ·rw[List.getElem?_set_ne (by omega)]
 ·rfl
theorem gt_setS {y:Int}(h0:0<=n)(h1:n<l.length):gt (setv l n y) n=some y:=by
 unfold gt setv;rw[if_pos h0,List.getElem?_set_self (by omega)]
structure Cx (t:RTg)(M:Ms)(f:Fr)(r:List Fr)(u:Unt)(i:Ins)(L:List Int)(s:List (Fr×List Int))(p:Nat)(O:List Ob):Prop where
 ac:Acc t
 en:M.en=0
 fs:M.fs=f::r
 sr:s.map (·.1)=r
 fr:FOk t O f u L s p (-1)
 pc:f.pc=(p:Int)
 hi:u.ins[p]?=some i
 rest:SOk t O f.into s
 regs:Lists M.tb.B (regsOf ((f,L)::s))
 obs:ObsOk t O M.tb.L
 glo:∀n e x,gt t.globals n=some e->gt M.gl n=some x->Val t O e x (fun _=>1)
 gl:M.gl.length=t.globals.length
section
variable {t:RTg} {M:Ms} {f:Fr} {r:List Fr} {u:Unt} {i:Ins} {L:List Int} {s:List (Fr×List Int)} {p:Nat} {O:List Ob}
variable {y:Int} {O':List Ob}
theorem Cx.um (h:Cx t M f r u i L s p O):u∈t.units:=gt_mem h.fr.unit
theorem Cx.im (h:Cx t M f r u i L s p O):i∈u.ins:=List.mem_of_getElem? h.hi
theorem Cx.fits (h:Cx t M f r u i L s p O):Fits t u i:=((right_unit h.ac.right h.um).2 i h.im).2
theorem Cx.insv (h:Cx t M f r u i L s p O):InsV t u i:=right_ins h.ac.right h.um h.im
theorem Cx.accu (h:Cx t M f r u i L s p O):GuaM.AccU t f.u u:=by
 obtain⟨k,hk,_,h1⟩:=gt_some h.fr.unit;rw[hk];exact h.ac.acc k u h1
theorem Cx.cond (h:Cx t M f r u i L s p O):GuaM.CondL t f.u u i L:=(h.accu.1 p L i h.fr.ats h.hi).1
theorem Cx.closed (h:Cx t M f r u i L s p O):GuaM.Closed t f.u L:=at_closed h.accu h.fr.ats
theorem Cx.lo (h:Cx t M f r u i L s p O):∀c∈L,c∈u.owns:=at_owns h.ac.right h.um h.fr.ats
theorem Cx.live (h:Cx t M f r u i L s p O){c:Int}(hc:GuaM.Seen t f.u L c):hasB M.tb.B (rho (glob t) ((f,L)::s) c)=true:=
 (h.regs.iff _).2 (rho_in (k:=-1) (s:=(f,L)::s) (s':=s) h.ac.right ⟨⟨u,p,h.pc,h.fr⟩,h.rest⟩ rfl hc)
theorem Cx.in4 (h:Cx t M f r u i L s p O){v:Int}(hv:of u v≠-3):In 4000 v:=by
 obtain⟨k,rfl,hk⟩:=of_ne hv;have:=(right_unit h.ac.right h.um).1.1.2.2.2;exact⟨by omega,by omega⟩
theorem Cx.use (h:Cx t M f r u i L s p O){v:Int}(ha:v∈asks i)(hv:of u v≠-3):VarOk t O f.u L (rho (glob t) ((f,L)::s)) (of u v) (lkv f.vars v):=by
 have hn:=(h.accu.1 p L i h.fr.ats h.hi).2 v (uses_in.2 ⟨ha,h.in4 hv⟩);obtain⟨k,rfl,hk⟩:=of_ne hv;have hk2:k<f.vars.length:=by rw[h.fr.vars];exact hk
 unfold of lkv;rw[gt_nat,gt_nat,List.getElem?_eq_getElem hk,List.getElem?_eq_getElem hk2];exact h.fr.val k _ _ (by rw[gt_nat,List.getElem?_eq_getElem hk];rfl) (by rw[gt_nat,List.getElem?_eq_getElem hk2];rfl) (by omega) hn
theorem Cx.def_a (h:Cx t M f r u i L s p O)(hs:Sets i.op)(hv:of u i.a≠-3):def_ i=i.a:=by
 unfold def_;rw[if_pos ⟨hs,h.in4 hv⟩]
theorem Cx.nx (h:Cx t M f r u i L s p O)(h1:i.op≠16)(h2:i.op≠17)(h3:i.op≠18):((p+1:Nat):Int)∈next u.ins p:=by
 rw[next_some h.hi];unfold nextOf;rw[(puts_spec _).2,List.mem_filter,decide_eq_true_iff];refine⟨?_,next_place h.ac.right h.um h.hi h1 h2 h3⟩;unfold targets;rw[if_neg h3,if_neg h1,if_neg h2];simp
theorem Cx.nj (h:Cx t M f r u i L s p O)(hy:i.op=16/\y=i.n\/i.op=17/\(y=i.n\/y=i.c)):∃q:Nat,y=(q:Int)/\(q:Int)∈next u.ins p:=by
 have hp:RtM.Place u y:=by
  rcases hy with ⟨h1,rfl⟩|⟨h1,rfl|rfl⟩
  ·exact h.insv.go (.inl h1)
  ·exact h.insv.go (.inr h1)
  ·exact h.insv.els h1
 obtain⟨q,rfl⟩:∃q:Nat,y=q:=⟨y.toNat,by have:=hp.1;omega⟩;refine⟨q,rfl,?_⟩;rw[next_some h.hi];unfold nextOf;rw[(puts_spec _).2,List.mem_filter,decide_eq_true_iff];refine⟨?_,hp⟩;unfold targets
 rcases hy with ⟨h1,h2⟩|⟨h1,h2⟩
 ·rw[if_neg (by omega),if_pos h1,h2];simp
 ·(repeat rewrite[if_neg (by omega)]);rw[if_pos h1]
  rcases h2 with h2|h2<;>simp[h2]
theorem of_gt {e:Int}(h:gt u.vars n=some e):of u n=e:=by unfold of;rw[h];rfl
theorem Cx.adv (h:Cx t M f r u i L s p O){f':Fr}{q:Nat}{skip:Int}(hO:Wider t O O')(hq:(q:Int)∈next u.ins p)(h21:i.op≠21)(h22:i.op≠22)(a:f'.u=f.u)(b:f'.regs=f.regs)(c:f'.into=f.into)(l:f'.vars.length=f.vars.length)(d:∀n,n≠def_ i->gt f'.vars n=gt f.vars n)
  (hd:0<=def_ i->def_ i≠skip->VarOk t O' f.u L (rho (glob t) ((f,L)::s)) (of u (def_ i)) (lkv f'.vars (def_ i))):FOk t O' f' u L s q skip:=by
 have er:rho (glob t) ((f',L)::s)=rho (glob t) ((f,L)::s):=by funext x;unfold rho;rw[b]
 obtain⟨x1,x2,x3,x4,x5,x6,x7,x8⟩:=h.fr;refine⟨by rw[a];exact x1,?_,l.trans x3,fun n e x g1 g2 g3 g4=>?_,fun k hk=>by rw[b];exact x5 k hk,fun k hk=>by rw[b];exact x6 k hk,fun k hk=>x7 k (by rw[<- a];exact hk),fun y L' s' e=>by rw[c];exact x8 y L' s' e⟩
 ·have:=GuaM.At.step x2 h.hi hq;unfold GuaM.alive at this;rwa[if_neg h21,if_neg h22] at this
 ·rw[er,a];have h0:0<=n:=by obtain⟨k,hk,_⟩:=gt_some g1;omega
  by_cases hn:n=def_ i
  ·subst hn;have:=hd h0 g3;unfold lkv at this;rw[g2,of_gt g1] at this;exact this
  ·rw[d n hn] at g2;exact (x4 n e x g1 g2 (by omega) fun hs=>g4 (.pass hs h.hi (Ne.symm hn) hq)).wider hO
theorem Cx.gox (h:Cx t M f r u i L s p O){M':Ms}{f':Fr}{q:Nat}(hO:Wider t O O')(e0:M'.en=0)(e1:M'.fs=f'::r)(e2:M'.tb.B=M.tb.B)(ob:ObsOk t O' M'.tb.L)(gl:∀n e x,gt t.globals n=some e->gt M'.gl n=some x->Val t O' e x (fun _=>1))
  (hp:f'.pc=(q:Int)) (hq:(q:Int)∈next u.ins p) (h21:i.op≠21) (h22:i.op≠22) (a:f'.u=f.u) (b:f'.regs=f.regs) (c:f'.into=f.into) (l:f'.vars.length=f.vars.length) (d:∀n,n≠def_ i->gt f'.vars n=gt f.vars n)
  (hd:0<=def_ i->VarOk t O' f.u L (rho (glob t) ((f,L)::s)) (of u (def_ i)) (lkv f'.vars (def_ i))):GoodM t M':=by
 refine .inl ⟨e0,(f',L)::s,O',?_,⟨⟨u,q,hp,h.adv hO hq h21 h22 a b c l d fun x _=>hd x⟩,by rw[c];exact h.rest.wider hO⟩,?_,ob,gl⟩
 ·rw[e1,List.map_cons,h.sr]
 ·rw[e2];have:=h.regs;unfold regsOf at this ⊢;rw[b];exact this
theorem Cx.pre (h:Cx t M f r u i L s p O):(M.pre f).fs={f with pc:=f.pc+1}::r:=by show _::M.fs.tail=_;rw[h.fs];rfl
theorem Cx.pcn (h:Cx t M f r u i L s p O):f.pc+1=((p+1:Nat):Int):=by rw[h.pc];omega
theorem Cx.var (h:Cx t M f r u i L s p O){M':Ms}(hO:Wider t O O')(e0:M'.en=0)(e1:M'.fs={f with pc:=f.pc+1,vars:=setv f.vars i.a y}::r)(e2:M'.tb.B=M.tb.B)(ob:ObsOk t O' M'.tb.L)(e3:M'.gl=M.gl)
  (hs:Sets i.op) (h13:i.op≠13) (hv:of u i.a≠-3) (hy:VarOk t O' f.u L (rho (glob t) ((f,L)::s)) (of u i.a) y):GoodM t M':=by
 have hda:=h.def_a hs hv;obtain⟨k,hk,hkl⟩:=of_ne hv;rw[<- h.fr.vars] at hkl;have hsets:i.op≠16/\i.op≠17/\i.op≠18/\i.op≠21/\i.op≠22:=by unfold Sets at hs;omega
 refine h.gox hO e0 e1 e2 ob (fun n e x a b=>hO _ _ _ (h.glo n e x a (by rw[<- e3];exact b))) h.pcn (h.nx hsets.1 hsets.2.1 hsets.2.2.1) hsets.2.2.2.1 hsets.2.2.2.2 rfl rfl rfl (setv_len _ _ _) (fun n hn=>?_) fun _=>?_
 ·rw[hda] at hn;exact gt_set hn (by omega)
 ·rw[hda];have:lkv (setv f.vars i.a y) i.a=y:=by unfold lkv;rw[gt_setS (by omega) (by omega)];rfl
  show VarOk t O' f.u L _ _ (lkv (setv f.vars i.a y) i.a);rw[this];exact hy
theorem Cx.var0 (h:Cx t M f r u i L s p O)(hs:Sets i.op)(h13:i.op≠13)(hv:of u i.a≠-3)(hy:VarOk t O f.u L (rho (glob t) ((f,L)::s)) (of u i.a) y):GoodM t ((M.pre f).var {f with pc:=f.pc+1} i.a y):=
 h.var (fun _ _ _ h=>h) h.en (by show _::(M.pre f).fs.tail=_;rw[h.pre];rfl) rfl h.obs rfl hs h13 hv hy
theorem trap_good {c:Int}(h0:c≠0)(h1:c≠-1):GoodM t (M.trap c):=by
 unfold Ms.trap;rw[if_neg h0,if_neg h1];exact .inr (.inl rfl)
theorem Cx.got (h:Cx t M f r u i L s p O){y:Int×Int}(hs:Sets i.op)(h13:i.op≠13)(hv:of u i.a≠-3)(h1:y.2≠-1)(hy:y.2=0->VarOk t O f.u L (rho (glob t) ((f,L)::s)) (of u i.a) y.1):GoodM t ((M.pre f).got {f with pc:=f.pc+1} i.a y):=by
 unfold Ms.got;split
 ·exact h.var0 hs h13 hv (hy ‹_›)
 ·exact trap_good ‹_› h1
end
end Go.Proofs.YtojfbbggnkijeaaGreatDoor
namespace Go.Proofs.YtojfbbggnkijeaaGreatDoor
open Go.Api Go.RtM Go.ReachM Go.RiseM Go.GuaM Go.LivM Go.FlowM
def fixI:List Ins:=[⟨21,0,0,0,0,[0]⟩,⟨11,1,0,0,0,[]⟩,⟨3,0,1,0,0,[]⟩,⟨14,2,0,0,0,[]⟩,⟨7,0,2,0,0,[]⟩,⟨6,3,0,0,0,[]⟩,⟨22,0,0,0,0,[0]⟩,⟨15,3,0,0,0,[]⟩,⟨18,-1,0,0,0,[]⟩]
def fixU:Unt:=⟨0,[0,0,-2,-2],-3,[],[0],fixI⟩
def fixT:RTg:=⟨[⟨false,[-2]⟩],[],[fixU],0⟩
def fixB:List Int:=[2,0,2,3,0,2,0,8,0,0,3,3,5,0,2,0,18,42,0,0,0,0,2,0,22,2,0,0,0,0,6,0,2,0,0,0,28,4,0,0,0,0,14,0,4,0,0,0,12,6,0,0,0,0,44,0,0,0,0,2,0,30,6,0,0,0,0,36,1,0,0,0,0,0]
theorem fix_glob:glob fixT=[]:=fromL_nil (by simp[fixT])
theorem fix_outOf:outOf fixT fixU=[]:=by
 have e:roots fixU=[-3]:=rfl;unfold outOf;rw[e,fromL_nil (by simp)];rfl
theorem fix_from {L:List Int}{c:Int}(h:c∈fromL (flds fixT) L):c∈L:=by
 obtain⟨n,rfl,hn⟩:=fromL_mem.1 h;have key:∀{m:Nat},RC (flds fixT) L m->m=0/\(0:Int)∈L:=fun h=>by
  induction h with
  | @root m h1 h2=>
   have h2:m<1:=h2;obtain rfl:m=0:=by omega
   exact⟨rfl,h1⟩
  | @step m d l _ h2 h3 h4 ih=>
   obtain⟨rfl,h5⟩:=ih;have h4:d<1:=h4;exact⟨by omega,h5⟩
 obtain⟨rfl,h2⟩:=key hn;exact h2
theorem fix_closed {L:List Int}:Closed fixT 0 L:=fun c hc=>.inr (.inr (fix_from hc))
def fixC (x:Ins)(L:List Int):Bool:=
 if x.op=21 then decide (∀c∈x.args,c∉L)
 else if x.op=22 then decide (∀c∈x.args,c∈L)
 else if x.op=11\/x.op=12 then decide (x.n∈L)
 else if x.op=18 then decide (L=[]) else true
theorem fix_cond {x:Ins}(h13:x.op≠13)(L:List Int):CondL fixT 0 fixU x L<->fixC x L=true:=by
 unfold CondL fixC;by_cases h1:x.op=21
 ·rw[if_pos h1,if_pos h1,decide_eq_true_iff];exact⟨fun h=>h.1,fun h=>⟨h,fix_closed⟩⟩
 rw[if_neg h1,if_neg h1];by_cases h2:x.op=22
 ·rw[if_pos h2,if_pos h2,decide_eq_true_iff];exact⟨fun h=>h.1,fun h=>⟨h,fix_closed⟩⟩
 rw[if_neg h2,if_neg h2];by_cases h3:x.op=11\/x.op=12
 ·rw[if_pos h3,if_pos h3,decide_eq_true_iff,fix_glob];simp[fixU]
 rw[if_neg h3,if_neg h3,if_neg h13];by_cases h4:x.op=18
 ·rw[if_pos h4,if_pos h4,decide_eq_true_iff]
 ·rw[if_neg h4,if_neg h4];simp
theorem fix_sim:(simB fixC fixU 12 (first fixU)).map (·.1)=some true:=by decide +kernel
theorem fix_acc:AccU fixT 0 fixU:=by
 cases h:simB fixC fixU 12 (first fixU) with
 |none=>have:=fix_sim;rw[h] at this;cases this
 |some p=>
  obtain⟨r,S⟩:=p;have h2:=fix_sim;rw[h] at h2;have hr:r=true:=by simpa using h2
  have hop:∀x∈fixU.ins,x.op≠13:=by decide +kernel
  exact ((sim_ok (t:=fixT) (k:=0) (fun x hx L=>fix_cond (hop x hx) L) 12 _ (snd_first _) r S h).1 hr).1
theorem fix_ins:∀i∈fixI,Bare i/\Fits fixT fixU i:=by decide +kernel
theorem fix_right:RightP fixT:=by
 have hc0:IsClass fixT 0:=⟨by omega,by show (0:Int)<1;omega⟩;refine⟨by show (1<=60/\0<=8/\1≠0/\1<=16);decide,⟨rfl,rfl⟩,fun L hL=>?_,fun x hx=>by simp[fixT] at hx,by show 9<=16000;decide,fun u hu=>?_⟩
 ·obtain rfl:L=⟨false,[-2]⟩:=by simpa[fixT] using hL
  exact⟨by show 1<=8;decide,fun h=>(by cases h),fun n hn=>.inr (.inr (by simpa using hn))⟩
 ·obtain rfl:u=fixU:=by simpa[fixT] using hu
  refine⟨⟨⟨by show (0:Int)<=0;omega,by show (0:Int)<=6;omega,by show (0:Int)<=4;omega,by show 4<=4000;omega⟩,fun n hn=>?_,.inl rfl,by simp[fixU,fixI],⟨by show Rise [];exact List.Pairwise.nil,fun c hc=>by simp[fixU] at hc⟩,⟨by show Rise [0];decide,fun c hc=>?_⟩,.inr (.inr rfl)⟩,fix_ins⟩
  ·have hn:n=0\/n=-2:=by simpa[fixU] using hn
   rcases hn with rfl|rfl
   ·exact .inl hc0
   ·exact .inr (.inr rfl)
  ·obtain rfl:c=0:=by simpa[fixU] using hc
   rw[fix_glob,fix_outOf];exact⟨hc0,by simp,by simp⟩
theorem fix_accT:Acc fixT:=⟨fix_right,fun k u hu=>by
 have hk:=(List.getElem?_eq_some_iff.1 hu).1;have hk:k<1:=hk;obtain rfl:k=0:=by omega
 obtain rfl:fixU=u:=Option.some.inj hu;exact fix_acc⟩
theorem fix_enc:NumM.encT fixT=fixB:=by decide +kernel
theorem fix_run:ranP fixT [] [7] 50=⟨⟨1,0,[7],9⟩,2,2,0,2,0,1⟩:=by decide +kernel
theorem fix_ok:RTg.ok fixT:=by
 have h:(∀x∈fixT.classes,∀y∈x.refs,-9223372036854775808<=y/\y<=9223372036854775807)/\(∀x∈fixT.globals,-9223372036854775808<=x/\x<=9223372036854775807)/\(∀u∈fixT.units,(-9223372036854775808<=u.params/\u.params<=9223372036854775807)/\(∀x∈u.vars,-9223372036854775808<=x/\x<=9223372036854775807)/\(-9223372036854775808<=u.result/\u.result<=9223372036854775807)/\
   (∀x∈u.takes,-9223372036854775808<=x/\x<=9223372036854775807)/\(∀x∈u.owns,-9223372036854775808<=x/\x<=9223372036854775807)/\(∀y∈u.ins,(-9223372036854775808<=y.op/\y.op<=9223372036854775807)/\(-9223372036854775808<=y.a/\y.a<=9223372036854775807)/\(-9223372036854775808<=y.b/\y.b<=9223372036854775807)/\(-9223372036854775808<=y.c/\y.c<=9223372036854775807)/\(-9223372036854775808<=y.n/\y.n<=9223372036854775807)/\(∀x∈y.args,-9223372036854775808<=x/\x<=9223372036854775807)))/\
   (-9223372036854775808<=fixT.main/\fixT.main<=9223372036854775807):=by decide +kernel
 exact h
end Go.Proofs.YtojfbbggnkijeaaGreatDoor
