import Derived.Test.YtojfbbggnkijeaaGreatDoorZ20
import Derived.Test.YtojfbbggnkijeaaGreatDoorRows
set_option linter.all false
namespace Go.GuaM
open Go.RiseM Go.Api Go.FlowM Go.LivM Go.ReachM Go.RtM
variable {u:Unt} {W:List Bool} {xs:List Int} {i j:Nat} {ys xs':List Int} {t:RTg} {k:Int} {s:Api.State}
theorem nodup_fits {α:Type}[BEq α][LawfulBEq α]:∀{l m:List α},l.Nodup->(∀x∈l,x∈m)->l.length<=m.length
 |[],_,_,_=>Nat.zero_le _
 |x::l,m,h,hm=>by
  obtain⟨h1,h2⟩:=List.nodup_cons.1 h;have hx:=hm x (by simp);have h3:=nodup_fits (l:=l) (m:=m.erase x) h2 fun y hy=>(List.mem_erase_of_ne (fun e=>h1 (by rw[<- e];exact hy))).2 (hm y (by simp[hy]));rw[List.length_erase_of_mem hx] at h3;have:=List.length_pos_of_mem hx;rw[List.length_cons];omega
structure Inv (u:Unt)(S:List Api.State)(W:List Bool)(xs:List Int):Prop where
 snd:Snd u S
 wl:W.length=u.ins.length
 que:∀y∈xs,∃i:Nat,y=(i:Int)/\W[i]?=some true
 nd:xs.Nodup
 inq:∀i:Nat,W[i]?=some true->(i:Int)∈xs
 met:∀i:Nat,W[i]?=some true->∃s,S[i]?=some s/\s.met=true
theorem Inv.len {S:List Api.State}(h:Inv u S W xs):xs.length<=u.ins.length:=by
 have:=nodup_fits (m:=(List.range u.ins.length).map fun i=>((i:Nat):Int)) h.nd fun y hy=>by
  obtain⟨i,rfl,h2⟩:=h.que y hy;have:=(List.getElem?_eq_some_iff.1 h2).1;rw[h.wl] at this;exact List.mem_map.2 ⟨i,List.mem_range.2 this,rfl⟩
 simpa using this
theorem set_true (h:(W.set i true)[j]?=some true):j=i\/W[j]?=some true:=by
 by_cases e:i=j
 ·exact .inl e.symm
 ·rw[List.getElem?_set_ne e] at h;exact .inr h
theorem set_false (h:(W.set i false)[j]?=some true):j≠i/\W[j]?=some true:=by
 by_cases e:i=j
 ·subst e;have hl:=(List.getElem?_eq_some_iff.1 h).1;rw[List.length_set] at hl;rw[List.getElem?_set_self hl] at h;cases h
 ·rw[List.getElem?_set_ne e] at h;exact⟨fun e2=>e e2.symm,h⟩
theorem Inv.pop {S:List Api.State}{y:Int}(h:Inv u S W xs)(hp:(y::ys).Perm xs):∃i:Nat,y=(i:Int)/\W[i]?=some true/\(∃s,S[i]?=some s/\s.met=true)/\Inv u S (W.set i false) ys:=by
 obtain⟨i,rfl,hi⟩:=h.que y (hp.mem_iff.1 (by simp));have hnd:=hp.nodup_iff.2 h.nd;obtain⟨n1,n2⟩:=List.nodup_cons.1 hnd;refine⟨i,rfl,hi,h.met i hi,h.snd,by rw[List.length_set];exact h.wl,fun z hz=>?_,n2,fun j hj=>?_,fun j hj=>h.met j (set_false hj).2⟩
 ·obtain⟨j,rfl,hj⟩:=h.que z (hp.mem_iff.1 (by simp[hz]));refine⟨j,rfl,?_⟩;rw[List.getElem?_set_ne (fun e=>n1 (by rw[e];exact hz))];exact hj
 ·obtain⟨h1,h2⟩:=set_false hj
  rcases List.mem_cons.1 (hp.mem_iff.2 (h.inq j h2)) with h3|h3
  ·exact absurd (by omega) h1
  ·exact h3
theorem Inv.lay {u:Unt}{S:List Api.State}{W:List Bool}{xs xs':List Int}{j:Nat}{o:Api.State}{wj:Bool}{L st:List Int}(h:Inv u S W xs)(ho:S[j]?=some o)(hw:W[j]?=some wj)(hL:At u j L)(hst:∀v∈st,St u j v)
  (hx:wj=true/\xs'=xs\/wj=false/\xs'.Perm (xs++[(j:Int)])):Inv u (S.set j (GuaM.lay L st o)) (W.set j true) xs':=by
 have hjW:=(List.getElem?_eq_some_iff.1 hw).1;have hjS:=(List.getElem?_eq_some_iff.1 ho).1;have hmem:∀y,y∈xs'<->y∈xs\/y=(j:Int):=by
  intro y
  rcases hx with ⟨h1,rfl⟩|⟨_,h2⟩
  ·refine⟨.inl,fun h3=>h3.elim id fun h3=>?_⟩;subst h3;exact h.inq j (by rw[hw,h1])
  ·rw[h2.mem_iff,List.mem_append,List.mem_singleton]
 refine⟨snd_lay h.snd ho hL hst,by rw[List.length_set];exact h.wl,fun y hy=>?_,?_,fun i hi=>?_,fun i hi=>?_⟩
 ·rcases (hmem y).1 hy with h1|rfl
  ·obtain⟨i,rfl,h2⟩:=h.que y h1;refine⟨i,rfl,?_⟩;by_cases e:j=i
   ·subst e;rw[List.getElem?_set_self hjW]
   ·rw[List.getElem?_set_ne e];exact h2
  ·exact⟨j,rfl,by rw[List.getElem?_set_self hjW]⟩
 ·rcases hx with ⟨_,rfl⟩|⟨h1,h2⟩
  ·exact h.nd
  ·refine h2.nodup_iff.2 (List.nodup_append.2 ⟨h.nd,by simp,fun a ha c hc e=>?_⟩);rw[List.mem_singleton] at hc;subst hc;subst e;obtain⟨i,e,h3⟩:=h.que _ ha;have:i=j:=by omega
   subst this;rw[hw,h1] at h3;cases h3
 ·rcases set_true hi with rfl|h1
  ·exact (hmem _).2 (.inr rfl)
  ·exact (hmem _).2 (.inl (h.inq i h1))
 ·by_cases e:j=i
  ·subst e;exact⟨_,List.getElem?_set_self hjS,rfl⟩
  ·rw[List.getElem?_set_ne e] at hi ⊢;exact h.met i hi
def left (u:Unt)(S:List Api.State)(xs:List Int):Nat:=2*(u.ins.length*(1+u.vars.length)-wsum S)+xs.length
theorem left_lay {S:List Api.State}{o:Api.State}{L st:List Int}(hS:Snd u (S.set j (GuaM.lay L st o)))(hr:Rise o.stale)(ho:S[j]?=some o)(hne:¬ (o.met=true/\(both st o.stale).length=o.stale.length))(hx:xs'.length<=xs.length+1):left u (S.set j (GuaM.lay L st o)) xs'<left u S xs:=by
 have h1:=wgt_lay (L:=L) hr hne;have h2:=wsum_set (s:=GuaM.lay L st o) ho;have h3:=wsum_le hS;unfold left;omega
structure Out (t:RTg)(k:Int)(u:Unt)(S:List Api.State)(W:List Bool)(xs:List Int):Prop where
 inv:Inv u S W xs
 done:∀i:Nat,W[i]?=some false->Done t k u S i
 cov:Cov S 0 [] []
theorem Out.all {S:List Api.State}(h:Out t k u S W []):∀i,Done t k u S i:=fun i=>by
 by_cases hi:i<u.ins.length
 ·refine h.done i ?_;have hl:i<W.length:=by rw[h.inv.wl];exact hi
  rw[List.getElem?_eq_getElem hl]
  cases hw:W[i] with
  |false=>rfl
  |true=>exact absurd (h.inv.inq i (by rw[List.getElem?_eq_getElem hl,hw])) (by simp)
 ·intro s x hs _ _;have:=(List.getElem?_eq_some_iff.1 hs).1;rw[h.inv.snd.len] at this;exact absurd this hi
structure Mid (t:RTg)(k:Int)(u:Unt)(i:Nat)(s:Api.State)(x:Ins)(m:Nat)(S:List Api.State)(W:List Bool)(xs:List Int):Prop where
 inv:Inv u S W xs
 done:∀i':Nat,i'≠i->W[i']?=some false->Done t k u S i'
 here:W[i]?=some true\/S[i]?=some s
 cov:Cov S 0 [] []
 covs:∀j:Nat,(j:Int)∈(next u.ins i).take m->Cov S j (alive x s.live) (staleOut u x s.stale)
theorem Out.mid {S:List Api.State}(x:Ins)(h:Out t k u S W xs)(hi:Inv u S (W.set i false) ys)(hs:S[i]?=some s):Mid t k u i s x 0 S (W.set i false) ys:=
 ⟨hi,fun i' hne hw=>h.done i' (by rwa[List.getElem?_set_ne (Ne.symm hne)] at hw),.inr hs,h.cov,by simp⟩
theorem Mid.same {m:Nat}{o:Api.State}{x:Ins}{S:List Api.State}(h:Mid t k u i s x m S W xs)(hj:(next u.ins i)[m]?=some (j:Int))(ho:S[j]?=some o)(hm:o.met=true)(hl:o.live=alive x s.live)(he:(both (staleOut u x s.stale) o.stale).length=o.stale.length):Mid t k u i s x (m+1) S W xs:=
 ⟨h.inv,h.done,h.here,h.cov,fun j' hj'=>by
  rw[List.take_add_one,hj,List.mem_append] at hj'
  rcases hj' with hj'|hj'
  ·exact h.covs j' hj'
  ·have:j'=j:=by simp at hj';omega
   subst this;exact⟨o,ho,hm,hl,both_same (h.inv.snd.rl j' o ho).2 he⟩⟩
theorem Mid.lay {t:RTg}{k:Int}{u:Unt}{i j m:Nat}{s o:Api.State}{x:Ins}{S:List Api.State}{W:List Bool}{xs xs':List Int}{wj:Bool}(h:Mid t k u i s x m S W xs)(hj:(next u.ins i)[m]?=some (j:Int))(ho:S[j]?=some o)(hw:W[j]?=some wj)(hl:o.met=true->o.live=alive x s.live)(hA:At u j (alive x s.live))(hst:∀v∈staleOut u x s.stale,St u j v)
  (hx:wj=true/\xs'=xs\/wj=false/\xs'.Perm (xs++[(j:Int)])):Mid t k u i s x (m+1) (S.set j (GuaM.lay (alive x s.live) (staleOut u x s.stale) o)) (W.set j true) xs':=by
 have hjW:=(List.getElem?_eq_some_iff.1 hw).1;refine⟨h.inv.lay ho hw hA hst hx,fun i' hne hwi=>?_,?_,cov_lay ho hl h.cov,fun j' hj'=>?_⟩
 ·by_cases e:j=i'
  ·subst e;rw[List.getElem?_set_self hjW] at hwi;cases hwi
  ·rw[List.getElem?_set_ne e] at hwi;exact done_lay ho hl (Ne.symm e) (h.done i' hne hwi)
 ·by_cases e:j=i
  ·subst e;exact .inl (by rw[List.getElem?_set_self hjW])
  ·rw[List.getElem?_set_ne e,List.getElem?_set_ne e];exact h.here
 ·rw[List.take_add_one,hj,List.mem_append] at hj'
  rcases hj' with hj'|hj'
  ·exact cov_lay ho hl (h.covs j' hj')
  ·have:j'=j:=by simp at hj';omega
   subst this;exact cov_self ho
theorem Mid.out {m:Nat}{x:Ins}{S:List Api.State}(h:Mid t k u i s x m S W xs)(hm:(next u.ins i).length<=m)(hx:u.ins[i]?=some x)(hp:Passes t k u x s):Out t k u S W xs:=by
 refine⟨h.inv,fun i' hw=>?_,h.cov⟩;by_cases e:i'=i
 ·subst e;have hs:S[i']?=some s:=h.here.elim (fun h2=>by rw[hw] at h2;cases h2) id;intro s' x' hs' _ hx';rw[hs] at hs';cases hs';rw[hx] at hx';cases hx';refine⟨hp,fun j hj=>h.covs j ?_⟩;rw[List.take_of_length_le hm];exact hj
 ·exact h.done i' e hw
theorem out_start (hn:u.ins≠[])(hx:xs'.Perm ([]++[((0:Nat):Int)])):
  Out t k u ((List.replicate u.ins.length (⟨false,[],[]⟩:Api.State)).set 0 (GuaM.lay [] [] ⟨false,[],[]⟩)) ((List.replicate u.ins.length false).set 0 true) xs':=by
 have hpos:0<u.ins.length:=List.length_pos_iff.2 hn;have hS:Snd u (List.replicate u.ins.length (⟨false,[],[]⟩:Api.State)):=by
  refine⟨by simp,fun i s hs hm=>?_,fun i s hs hm=>?_,fun i s hs=>?_⟩<;>(obtain rfl:=List.eq_of_mem_replicate (List.mem_of_getElem? hs))
  ·cases hm
  ·exact⟨rfl,rfl⟩
  ·exact⟨List.Pairwise.nil,List.Pairwise.nil⟩
 have h0:(List.replicate u.ins.length (⟨false,[],[]⟩:Api.State))[0]?=some ⟨false,[],[]⟩:=by rw[List.getElem?_replicate,if_pos hpos]
 have w0:(List.replicate u.ins.length false)[0]?=some false:=by rw[List.getElem?_replicate,if_pos hpos]
 have hI:Inv u (List.replicate u.ins.length (⟨false,[],[]⟩:Api.State)) (List.replicate u.ins.length false) []:=
  ⟨hS,by simp,by simp,List.nodup_nil,(fun i hi=>by cases List.eq_of_mem_replicate (List.mem_of_getElem? hi)),(fun i hi=>by cases List.eq_of_mem_replicate (List.mem_of_getElem? hi))⟩
 refine⟨hI.lay h0 w0 .zero (by simp) (.inr ⟨rfl,hx⟩),fun i hw=>?_,cov_self h0⟩;refine done_un fun s hs=>?_;by_cases e:0=i
 ·subst e;rw[List.getElem?_set_self (by simpa using hpos)] at hw;cases hw
 ·rw[List.getElem?_set_ne e] at hs;rw[List.eq_of_mem_replicate (List.mem_of_getElem? hs)]
variable {t:RTg} {k:Int} {u:Unt} {w0:Nat} {more:Bool} {i:Nat} {s:Api.State}
structure Rnd (t:RTg)(k:Int)(u:Unt)(w0:Nat)(more:Bool)(S:List Api.State)(i:Nat):Prop where
 snd:Snd u S
 cov:Cov S 0 [] []
 done:more=false->∀j,j<i->Done t k u S j
 less:if more=true then w0<wsum S else wsum S=w0
structure RndN (t:RTg)(k:Int)(u:Unt)(w0:Nat)(s:Api.State)(x:Ins)(more:Bool)(S:List Api.State)(i m:Nat):Prop where
 rnd:Rnd t k u w0 more S i
 here:more=false->S[i]?=some s
 covs:more=false->∀j:Nat,(j:Int)∈(next u.ins i).take m->Cov S j (alive x s.live) (staleOut u x s.stale)
theorem Rnd.pass {S:List Api.State}(h:Rnd t k u w0 more S i)(hs:S[i]?=some s)(hm:s.met=false):Rnd t k u w0 more S (i+1):=
 ⟨h.snd,h.cov,fun e j hj=>by
  rcases Nat.lt_succ_iff_lt_or_eq.1 hj with h1|rfl
  ·exact h.done e j h1
  ·exact done_un fun s' hs'=>by rw[hs] at hs';cases hs';exact hm,h.less⟩
theorem Rnd.go {S:List Api.State}(x:Ins)(h:Rnd t k u w0 more S i)(hs:S[i]?=some s):RndN t k u w0 s x more S i 0:=⟨h,fun _=>hs,fun _ j hj=>by simp at hj⟩
theorem RndN.fin {x:Ins}{S:List Api.State}{m:Nat}(h:RndN t k u w0 s x more S i m)(hm:(next u.ins i).length<=m)(hx:u.ins[i]?=some x)(hp:Passes t k u x s):Rnd t k u w0 more S (i+1):=
 ⟨h.rnd.snd,h.rnd.cov,fun e j hj=>by
  rcases Nat.lt_succ_iff_lt_or_eq.1 hj with h1|rfl
  ·exact h.rnd.done e j h1
  ·intro s' x' hs' _ hx';rw[h.here e] at hs';cases hs';rw[hx] at hx';cases hx';refine⟨hp,fun j' hj'=>h.covs e j' ?_⟩;rw[List.take_of_length_le hm];exact hj',h.rnd.less⟩
theorem RndN.same {x:Ins}{S:List Api.State}{m j:Nat}{o:Api.State}(h:RndN t k u w0 s x more S i m)(hj:(next u.ins i)[m]?=some (j:Int))(ho:S[j]?=some o)(hm:o.met=true)(hl:o.live=alive x s.live)(he:(both (staleOut u x s.stale) o.stale).length=o.stale.length):RndN t k u w0 s x more S i (m+1):=
 ⟨h.rnd,h.here,fun e j' hj'=>by
  rw[List.take_add_one,hj,List.mem_append] at hj'
  rcases hj' with hj'|hj'
  ·exact h.covs e j' hj'
  ·have:j'=j:=by simp at hj';omega
   subst this;exact⟨o,ho,hm,hl,both_same (h.rnd.snd.rl j' o ho).2 he⟩⟩
theorem RndN.lay {t:RTg}{k:Int}{u:Unt}{w0:Nat}{s:Api.State}{x:Ins}{more:Bool}{S:List Api.State}{i m j:Nat}{o:Api.State}(h:RndN t k u w0 s x more S i m)(ho:S[j]?=some o)(hl:o.met=true->o.live=alive x s.live)(hA:At u j (alive x s.live))(hst:∀v∈staleOut u x s.stale,St u j v)
  (hn:¬ (o.met=true/\(both (staleOut u x s.stale) o.stale).length=o.stale.length)):RndN t k u w0 s x true (S.set j (GuaM.lay (alive x s.live) (staleOut u x s.stale) o)) i (m+1):=by
 refine⟨⟨snd_lay h.rnd.snd ho hA hst,cov_lay ho hl h.rnd.cov,fun e=>(by cases e),?_⟩,fun e=>(by cases e),fun e=>(by cases e)⟩;rw[if_pos rfl];have h1:=wgt_lay (L:=alive x s.live) (h.rnd.snd.rl j o ho).2 hn;have h2:=wsum_set (s:=GuaM.lay (alive x s.live) (staleOut u x s.stale) o) ho;have h3:=h.rnd.less;split at h3<;>omega
theorem Rnd.acc {S:List Api.State}(h:Rnd t k u w0 false S u.ins.length):AccU t k u:=by
 refine acc_of_done h.cov fun i=>?_;by_cases hi:i<u.ins.length
 ·exact h.done rfl i hi
 ·intro s x hs _ _;have:=(List.getElem?_eq_some_iff.1 hs).1;rw[h.snd.len] at this;exact absurd this hi
def first (u:Unt):List Api.State:=(List.replicate u.ins.length (⟨false,[],[]⟩:Api.State)).set 0 ⟨true,[],[]⟩
theorem snd_first (u:Unt):Snd u (first u):=by
 have hS:∀(i:Nat) s,(first u)[i]?=some s->i=0/\s=⟨true,[],[]⟩\/s=⟨false,[],[]⟩:=fun i s hs=>by
  unfold first at hs
  by_cases e:0=i
  ·subst e;have hl:=(List.getElem?_eq_some_iff.1 hs).1;rw[List.length_set] at hl;rw[List.getElem?_set_self hl] at hs;cases hs;exact .inl ⟨rfl,rfl⟩
  ·rw[List.getElem?_set_ne e] at hs;exact .inr (List.eq_of_mem_replicate (List.mem_of_getElem? hs))
 refine⟨by simp[first],fun i s hs hm=>?_,fun i s hs hm=>?_,fun i s hs=>?_⟩
 ·rcases hS i s hs with ⟨rfl,rfl⟩|rfl
  ·exact⟨.zero,by simp⟩
  ·cases hm
 ·rcases hS i s hs with ⟨rfl,rfl⟩|rfl
  ·cases hm
  ·exact⟨rfl,rfl⟩
 ·rcases hS i s hs with ⟨rfl,rfl⟩|rfl
  ·exact⟨List.Pairwise.nil,List.Pairwise.nil⟩
  ·exact⟨List.Pairwise.nil,List.Pairwise.nil⟩
section
variable (cB:Ins->List Int->Bool) (u:Unt)
def layB (S:List Api.State)(L st:List Int)(j:Nat):Option (List Api.State):=
 match S[j]? with
 |none=>some S
 |some o=>if o.met=true/\o.live≠L then none else some (S.set j (lay L st o))
def laysB (L st:List Int):List Nat->List Api.State->Option (List Api.State)
 |[],S=>some S
 |j::l,S=>(layB S L st j).bind (laysB L st l)
def passB (x:Ins)(s:Api.State):Bool:=cB x s.live&&decide (∀v∈uses x,v∉s.stale)
def oneB (S:List Api.State)(i:Nat):Option (List Api.State):=
 match S[i]?,u.ins[i]? with
 |some s,some x=>if s.met=true then (if passB cB x s=true then laysB (alive x s.live) (staleOut u x s.stale) ((next u.ins i).map Int.toNat) S else none) else some S
 |_,_=>some S
def roundB:List Nat->List Api.State->Option (List Api.State)
 |[],S=>some S
 |i::l,S=>(oneB cB u S i).bind (roundB l)
def covB (S:List Api.State)(L st:List Int)(j:Nat):Bool:=match S[j]? with|none=>false|some o=>o.met&&decide (o.live=L)&&decide (∀v∈st,v∈o.stale)
def chkB (S:List Api.State):Bool:=covB S [] [] 0&&(List.range u.ins.length).all fun i=>match S[i]?,u.ins[i]? with
 |some s,some x=>!s.met||passB cB x s&&((next u.ins i).map Int.toNat).all (covB S (alive x s.live) (staleOut u x s.stale))
 |_,_=>true
def simB:Nat->List Api.State->Option (Bool×List Api.State)
 |0,S=>if chkB cB u S=true then some (true,S) else none
 |n+1,S=>match roundB cB u (List.range u.ins.length) S with
  |none=>some (false,[])
  |some S=>simB n S
end
section
variable {cB:Ins->List Int->Bool} {u:Unt} {t:RTg} {k:Int}
theorem next_nat {j:Nat}(h:j∈(next u.ins i).map Int.toNat):(j:Int)∈next u.ins i:=by
 obtain⟨y,hy,rfl⟩:=List.mem_map.1 h;have:=(next_in hy).1;rwa[Int.toNat_of_nonneg this.1]
theorem lays_snd {L st:List Int}:∀(l:List Nat) (S:List Api.State),Snd u S->(∀j∈l,At u j L/\∀v∈st,St u j v)->match laysB L st l S with|some S'=>Snd u S'|none=>¬ AccU t k u
 |[],S,h,_=>h
 |j::l,S,h,hj=>by
  unfold laysB
  cases ho:S[j]? with
  |none=>
   have e:layB S L st j=some S:=by unfold layB;rw[ho]
   rw[e,Option.bind_some];exact lays_snd l S h fun j' hj'=>hj j' (by simp[hj'])
  |some o=>
   obtain⟨h1,h2⟩:=hj j (by simp);by_cases hc:o.met=true/\o.live≠L
   ·have e:layB S L st j=none:=by unfold layB;rw[ho];exact if_pos hc
    rw[e,Option.bind_none];exact not_live h ho hc.1 h1 hc.2
   ·have e:layB S L st j=some (S.set j (lay L st o)):=by unfold layB;rw[ho];exact if_neg hc
    rw[e,Option.bind_some];exact lays_snd l _ (snd_lay h ho h1 h2) fun j' hj'=>hj j' (by simp[hj'])
theorem one_snd (hc:∀x∈u.ins,∀L,CondL t k u x L<->cB x L=true)(S:List Api.State)(i:Nat)(h:Snd u S):match oneB cB u S i with|some S'=>Snd u S'|none=>¬ AccU t k u:=by
 unfold oneB
 cases hs:S[i]? with
 |none=>exact h
 |some s=>
  cases hx:u.ins[i]? with
  |none=>exact h
  |some x=>
   dsimp only;by_cases hm:s.met=true
   ·rw[if_pos hm];by_cases hp:passB cB x s=true
    ·rw[if_pos hp];exact lays_snd _ S h fun j hj=>out_at h hs hm hx (next_nat hj)
    ·rw[if_neg hp];refine not_passes h hs hm hx fun h2=>hp ?_;unfold passB;rw[Bool.and_eq_true,decide_eq_true_iff,<-hc x (List.mem_of_getElem? hx)];exact h2
   ·rw[if_neg hm];exact h
theorem round_snd (hc:∀x∈u.ins,∀L,CondL t k u x L<->cB x L=true):∀(l:List Nat) (S:List Api.State),Snd u S->match roundB cB u l S with|some S'=>Snd u S'|none=>¬ AccU t k u
 |[],S,h=>h
 |i::l,S,h=>by
  have h1:=one_snd hc S i h;unfold roundB
  cases e:oneB cB u S i with
  |none=>rw[e] at h1;exact h1
  |some S'=>rw[e] at h1;rw[Option.bind_some];exact round_snd hc l S' h1
theorem cov_of {S:List Api.State}{L st:List Int}{j:Nat}(h:covB S L st j=true):Cov S j L st:=by
 unfold covB at h;split at h
 ·cases h
 ·rename_i o ho;rw[Bool.and_eq_true,Bool.and_eq_true,decide_eq_true_iff,decide_eq_true_iff] at h;exact⟨o,ho,h.1.1,h.1.2,h.2⟩
theorem chk_acc (hc:∀x∈u.ins,∀L,CondL t k u x L<->cB x L=true){S:List Api.State}(h:chkB cB u S=true):Cov S 0 [] []/\∀i,Done t k u S i:=by
 unfold chkB at h;rw[Bool.and_eq_true,List.all_eq_true] at h;refine⟨cov_of h.1,fun i s x hs hm hx=>?_⟩;have h2:=h.2 i (List.mem_range.2 (List.getElem?_eq_some_iff.1 hx).1);rw[hs,hx] at h2;dsimp only at h2;rw[hm,Bool.not_true,Bool.false_or,Bool.and_eq_true,List.all_eq_true] at h2;obtain⟨h3,h4⟩:=h2;unfold passB at h3;rw[Bool.and_eq_true,decide_eq_true_iff,<-hc x (List.mem_of_getElem? hx)] at h3;refine⟨h3,fun j hj=>cov_of (h4 j (List.mem_map.2 ⟨(j:Int),hj,Int.toNat_natCast j⟩))⟩
theorem sim_ok (hc:∀x∈u.ins,∀L,CondL t k u x L<->cB x L=true):∀(n:Nat) (S:List Api.State),Snd u S->∀r S',simB cB u n S=some (r,S')->(r=true->AccU t k u/\Snd u S'/\Cov S' 0 [] []/\∀i,Done t k u S' i)/\(r=false->¬ AccU t k u)
 |0,S,h,r,S',e=>by
  unfold simB at e;split at e
  ·rename_i hk;cases e;obtain⟨h1,h2⟩:=chk_acc hc hk;exact⟨fun _=>⟨acc_of_done h1 h2,h,h1,h2⟩,fun e=>(by cases e)⟩
  ·cases e
 |n+1,S,h,r,S',e=>by
  have h1:=round_snd hc (List.range u.ins.length) S h;unfold simB at e
  cases h2:roundB cB u (List.range u.ins.length) S with
  |none=>
   rw[h2] at e h1;cases e;exact⟨fun e=>(by cases e),fun _=>h1⟩
  |some S2=>
   rw[h2] at e h1;exact sim_ok hc n S2 h1 r S' e
end
end Go.GuaM
namespace Go.Proofs.YtojfbbggnkijeaaGreatDoor
open Go Go.RX
instance:Mixed Tryz.prog:=⟨by kernel_rfl⟩
instance:USize Tryz.prog 3 1:=⟨Tryz.sizeOf3⟩
instance:UOne Tryz.prog 3:=⟨Tryz.isAgg3⟩
instance:UInt Tryz.prog 3 .i64:=⟨Tryz.underlying3⟩
instance:UZero Tryz.prog 3 (.int .i64 0):=⟨Tryz.zeroValue3⟩
instance:UElem Tryz.prog 3 (.int .i64 0) 1 8:=⟨by kernel_rfl⟩
instance:USize Tryz.prog 4 1:=⟨Tryz.sizeOf4⟩
instance:UOne Tryz.prog 4:=⟨Tryz.isAgg4⟩
instance:UBool Tryz.prog 4:=⟨Tryz.underlying4⟩
instance:UElem Tryz.prog 4 (.bool false) 1 1:=⟨by kernel_rfl⟩
instance:USize Tryz.prog 5 1:=⟨Tryz.sizeOf5⟩
instance:UOne Tryz.prog 5:=⟨Tryz.isAgg5⟩
instance:UInt Tryz.prog 5 .u8:=⟨Tryz.underlying5⟩
instance:UElem Tryz.prog 5 (.int .u8 0) 1 1:=⟨by kernel_rfl⟩
instance:USize Tryz.prog 22 1:=⟨Tryz.sizeOf22⟩
instance:UOne Tryz.prog 22:=⟨Tryz.isAgg22⟩
instance:USlice Tryz.prog 22 5:=⟨Tryz.underlying22⟩
instance:UOne Tryz.prog 23:=⟨Tryz.isAgg23⟩
instance:USize Tryz.prog 25 2:=⟨Tryz.sizeOf25⟩
instance:UZero Tryz.prog 25 (.agg #[(.int .i64 0),(.int .i64 0)]):=⟨Tryz.zeroValue25⟩
instance:UField Tryz.prog 25 0 0:=⟨field_of Tryz.underlying25 rfl Tryz.sizeOf23 rfl rfl⟩
instance:USize Tryz.prog 29 1:=⟨Tryz.sizeOf29⟩
instance:UOne Tryz.prog 29:=⟨Tryz.isAgg29⟩
instance:USlice Tryz.prog 29 75:=⟨Tryz.underlying29⟩
instance:USize Tryz.prog 30 1:=⟨Tryz.sizeOf30⟩
instance:UOne Tryz.prog 30:=⟨Tryz.isAgg30⟩
instance:USlice Tryz.prog 30 3:=⟨Tryz.underlying30⟩
instance:UElem Tryz.prog 30 (.slice none 0 0) 1 24:=⟨by kernel_rfl⟩
instance:USize Tryz.prog 31 1:=⟨Tryz.sizeOf31⟩
instance:UOne Tryz.prog 31:=⟨Tryz.isAgg31⟩
instance:USlice Tryz.prog 31 80:=⟨Tryz.underlying31⟩
instance:USize Tryz.prog 33 4:=⟨Tryz.sizeOf33⟩
instance:UAgg Tryz.prog 33:=⟨Tryz.isAgg33⟩
instance:UZero Tryz.prog 33 (.agg #[(.slice none 0 0),(.slice none 0 0),(.slice none 0 0),(.int .i64 0)]):=⟨Tryz.zeroValue33⟩
instance:UField Tryz.prog 33 0 0:=⟨field_of Tryz.underlying33 rfl Tryz.sizeOf29 rfl rfl⟩
instance:UField Tryz.prog 33 1 1:=⟨field_of Tryz.underlying33 rfl Tryz.sizeOf30 rfl rfl⟩
instance:UField Tryz.prog 33 2 2:=⟨field_of Tryz.underlying33 rfl Tryz.sizeOf31 rfl rfl⟩
instance:UField Tryz.prog 33 3 3:=⟨field_of Tryz.underlying33 rfl Tryz.sizeOf3 rfl rfl⟩
instance:USize Tryz.prog 41 4:=⟨Tryz.sizeOf41⟩
instance:UAgg Tryz.prog 41:=⟨Tryz.isAgg41⟩
instance:UField Tryz.prog 41 0 0:=⟨field_of Tryz.underlying41 rfl Tryz.sizeOf3 rfl rfl⟩
instance:UField Tryz.prog 41 1 1:=⟨field_of Tryz.underlying41 rfl Tryz.sizeOf3 rfl rfl⟩
instance:UField Tryz.prog 41 2 2:=⟨field_of Tryz.underlying41 rfl Tryz.sizeOf30 rfl rfl⟩
instance:UField Tryz.prog 41 3 3:=⟨field_of Tryz.underlying41 rfl Tryz.sizeOf3 rfl rfl⟩
instance:USize Tryz.prog 43 10:=⟨Tryz.sizeOf43⟩
instance:UAgg Tryz.prog 43:=⟨Tryz.isAgg43⟩
instance:UField Tryz.prog 43 0 0:=⟨field_of Tryz.underlying43 rfl Tryz.sizeOf41 rfl rfl⟩
instance:UField Tryz.prog 43 1 4:=⟨field_of Tryz.underlying43 rfl Tryz.sizeOf3 rfl rfl⟩
instance:UField Tryz.prog 43 2 5:=⟨field_of Tryz.underlying43 rfl Tryz.sizeOf3 rfl rfl⟩
instance:UField Tryz.prog 43 3 6:=⟨field_of Tryz.underlying43 rfl Tryz.sizeOf3 rfl rfl⟩
instance:UField Tryz.prog 43 4 7:=⟨field_of Tryz.underlying43 rfl Tryz.sizeOf3 rfl rfl⟩
instance:UField Tryz.prog 43 5 8:=⟨field_of Tryz.underlying43 rfl Tryz.sizeOf3 rfl rfl⟩
instance:UField Tryz.prog 43 6 9:=⟨field_of Tryz.underlying43 rfl Tryz.sizeOf3 rfl rfl⟩
instance:UField Tryz.prog 67 0 0:=⟨field_of Tryz.underlying67 rfl Tryz.sizeOf22 rfl rfl⟩
instance:UField Tryz.prog 67 1 1:=⟨field_of Tryz.underlying67 rfl Tryz.sizeOf4 rfl rfl⟩
instance:UField Tryz.prog 72 0 0:=⟨field_of Tryz.underlying72 rfl Tryz.sizeOf22 rfl rfl⟩
instance:USize Tryz.prog 75 2:=⟨Tryz.sizeOf75⟩
instance:UAgg Tryz.prog 75:=⟨Tryz.isAgg75⟩
instance:UElem Tryz.prog 75 (.agg #[(.bool false),(.slice none 0 0)]) 2 32:=⟨by kernel_rfl⟩
instance:UField Tryz.prog 75 0 0:=⟨field_of Tryz.underlying75 rfl Tryz.sizeOf4 rfl rfl⟩
instance:UField Tryz.prog 75 1 1:=⟨field_of Tryz.underlying75 rfl Tryz.sizeOf30 rfl rfl⟩
instance:USize Tryz.prog 78 1:=⟨Tryz.sizeOf78⟩
instance:UOne Tryz.prog 78:=⟨Tryz.isAgg78⟩
instance:USlice Tryz.prog 78 141:=⟨Tryz.underlying78⟩
instance:USize Tryz.prog 80 6:=⟨Tryz.sizeOf80⟩
instance:UAgg Tryz.prog 80:=⟨Tryz.isAgg80⟩
instance:UZero Tryz.prog 80 (.agg #[(.int .i64 0),(.slice none 0 0),(.int .i64 0),(.slice none 0 0),(.slice none 0 0),(.slice none 0 0)]):=⟨Tryz.zeroValue80⟩
instance:UElem Tryz.prog 80 (.agg #[(.int .i64 0),(.slice none 0 0),(.int .i64 0),(.slice none 0 0),(.slice none 0 0),(.slice none 0 0)]) 6 112:=⟨by kernel_rfl⟩
instance:UField Tryz.prog 80 0 0:=⟨field_of Tryz.underlying80 rfl Tryz.sizeOf3 rfl rfl⟩
instance:UField Tryz.prog 80 1 1:=⟨field_of Tryz.underlying80 rfl Tryz.sizeOf30 rfl rfl⟩
instance:UField Tryz.prog 80 2 2:=⟨field_of Tryz.underlying80 rfl Tryz.sizeOf3 rfl rfl⟩
instance:UField Tryz.prog 80 3 3:=⟨field_of Tryz.underlying80 rfl Tryz.sizeOf30 rfl rfl⟩
instance:UField Tryz.prog 80 4 4:=⟨field_of Tryz.underlying80 rfl Tryz.sizeOf30 rfl rfl⟩
instance:UField Tryz.prog 80 5 5:=⟨field_of Tryz.underlying80 rfl Tryz.sizeOf78 rfl rfl⟩
instance:USlice Tryz.prog 82 144:=⟨Tryz.underlying82⟩
instance:USize Tryz.prog 112 7:=⟨Tryz.sizeOf112⟩
instance:UAgg Tryz.prog 112:=⟨Tryz.isAgg112⟩
instance:UField Tryz.prog 112 4 6:=⟨field_of Tryz.underlying112 rfl Tryz.sizeOf78 rfl rfl⟩
instance:UOne Tryz.prog 125:=⟨Tryz.isAgg125⟩
instance:USlice Tryz.prog 125 30:=⟨Tryz.underlying125⟩
instance:USize Tryz.prog 141 6:=⟨Tryz.sizeOf141⟩
instance:UAgg Tryz.prog 141:=⟨Tryz.isAgg141⟩
instance:UElem Tryz.prog 141 (.agg #[(.int .i64 0),(.int .i64 0),(.int .i64 0),(.int .i64 0),(.int .i64 0),(.slice none 0 0)]) 6 64:=⟨by kernel_rfl⟩
instance:UField Tryz.prog 141 0 0:=⟨field_of Tryz.underlying141 rfl Tryz.sizeOf3 rfl rfl⟩
instance:UField Tryz.prog 141 1 1:=⟨field_of Tryz.underlying141 rfl Tryz.sizeOf3 rfl rfl⟩
instance:UField Tryz.prog 141 2 2:=⟨field_of Tryz.underlying141 rfl Tryz.sizeOf3 rfl rfl⟩
instance:UField Tryz.prog 141 3 3:=⟨field_of Tryz.underlying141 rfl Tryz.sizeOf3 rfl rfl⟩
instance:UField Tryz.prog 141 4 4:=⟨field_of Tryz.underlying141 rfl Tryz.sizeOf3 rfl rfl⟩
instance:UField Tryz.prog 141 5 5:=⟨field_of Tryz.underlying141 rfl Tryz.sizeOf30 rfl rfl⟩
instance:USize Tryz.prog 144 1:=⟨Tryz.sizeOf144⟩
instance:UOne Tryz.prog 144:=⟨Tryz.isAgg144⟩
instance:UElem Tryz.prog 144 (.pointer none) 1 8:=⟨by kernel_rfl⟩
instance:UOne Tryz.prog 147:=⟨Tryz.isAgg147⟩
instance:USlice Tryz.prog 147 238:=⟨Tryz.underlying147⟩
instance:UOne Tryz.prog 148:=⟨Tryz.isAgg148⟩
instance:USlice Tryz.prog 148 4:=⟨Tryz.underlying148⟩
instance:USize Tryz.prog 149 1:=⟨Tryz.sizeOf149⟩
instance:UOne Tryz.prog 149:=⟨Tryz.isAgg149⟩
instance:USlice Tryz.prog 149 3:=⟨Tryz.underlying149⟩
instance:UField Tryz.prog 151 0 0:=⟨field_of Tryz.underlying151 rfl Tryz.sizeOf33 rfl rfl⟩
instance:UField Tryz.prog 151 1 4:=⟨field_of Tryz.underlying151 rfl Tryz.sizeOf80 rfl rfl⟩
instance:UField Tryz.prog 151 2 10:=⟨field_of Tryz.underlying151 rfl Tryz.sizeOf125 rfl rfl⟩
instance:UField Tryz.prog 151 3 11:=⟨field_of Tryz.underlying151 rfl Tryz.sizeOf30 rfl rfl⟩
instance:UField Tryz.prog 151 4 12:=⟨field_of Tryz.underlying151 rfl Tryz.sizeOf30 rfl rfl⟩
instance:UField Tryz.prog 151 5 13:=⟨field_of Tryz.underlying151 rfl Tryz.sizeOf125 rfl rfl⟩
instance:UField Tryz.prog 151 6 14:=⟨field_of Tryz.underlying151 rfl Tryz.sizeOf112 rfl rfl⟩
instance:UField Tryz.prog 151 7 21:=⟨field_of Tryz.underlying151 rfl Tryz.sizeOf147 rfl rfl⟩
instance:UField Tryz.prog 151 8 22:=⟨field_of Tryz.underlying151 rfl Tryz.sizeOf149 rfl rfl⟩
instance:UField Tryz.prog 151 9 23:=⟨field_of Tryz.underlying151 rfl Tryz.sizeOf148 rfl rfl⟩
instance:UOne Tryz.prog 152:=⟨Tryz.isAgg152⟩
instance:UOne Tryz.prog 153:=⟨Tryz.isAgg153⟩
instance:UPtr Tryz.prog 153 248:=⟨Tryz.underlying153⟩
instance:UOne Tryz.prog 155:=⟨Tryz.isAgg155⟩
instance:UMap Tryz.prog 155 3 249:=⟨Tryz.underlying155⟩
instance:USize Tryz.prog 157 1:=⟨Tryz.sizeOf157⟩
instance:UOne Tryz.prog 157:=⟨Tryz.isAgg157⟩
instance:USlice Tryz.prog 157 161:=⟨Tryz.underlying157⟩
instance:UField Tryz.prog 159 0 0:=⟨field_of Tryz.underlying159 rfl Tryz.sizeOf33 rfl rfl⟩
instance:UField Tryz.prog 159 1 4:=⟨field_of Tryz.underlying159 rfl Tryz.sizeOf30 rfl rfl⟩
instance:UField Tryz.prog 159 2 5:=⟨field_of Tryz.underlying159 rfl Tryz.sizeOf153 rfl rfl⟩
instance:UField Tryz.prog 159 3 6:=⟨field_of Tryz.underlying159 rfl Tryz.sizeOf3 rfl rfl⟩
instance:UField Tryz.prog 159 4 7:=⟨field_of Tryz.underlying159 rfl Tryz.sizeOf30 rfl rfl⟩
instance:UField Tryz.prog 159 5 8:=⟨field_of Tryz.underlying159 rfl Tryz.sizeOf30 rfl rfl⟩
instance:UField Tryz.prog 159 6 9:=⟨field_of Tryz.underlying159 rfl Tryz.sizeOf157 rfl rfl⟩
instance:UField Tryz.prog 159 7 10:=⟨field_of Tryz.underlying159 rfl Tryz.sizeOf3 rfl rfl⟩
instance:UField Tryz.prog 159 8 11:=⟨field_of Tryz.underlying159 rfl Tryz.sizeOf155 rfl rfl⟩
instance:UField Tryz.prog 159 9 12:=⟨field_of Tryz.underlying159 rfl Tryz.sizeOf43 rfl rfl⟩
instance:USize Tryz.prog 161 1:=⟨Tryz.sizeOf161⟩
instance:UOne Tryz.prog 161:=⟨Tryz.isAgg161⟩
instance:UElem Tryz.prog 161 (.pointer none) 1 8:=⟨by kernel_rfl⟩
instance:UInt Tryz.prog 226 .u64:=⟨Tryz.underlying226⟩
instance:USize Tryz.prog 238 3:=⟨Tryz.sizeOf238⟩
instance:UAgg Tryz.prog 238:=⟨Tryz.isAgg238⟩
instance:UZero Tryz.prog 238 (.agg #[(.bool false),(.slice none 0 0),(.slice none 0 0)]):=⟨Tryz.zeroValue238⟩
instance:UElem Tryz.prog 238 (.agg #[(.bool false),(.slice none 0 0),(.slice none 0 0)]) 3 56:=⟨by kernel_rfl⟩
instance:UField Tryz.prog 238 0 0:=⟨field_of Tryz.underlying238 rfl Tryz.sizeOf4 rfl rfl⟩
instance:UField Tryz.prog 238 1 1:=⟨field_of Tryz.underlying238 rfl Tryz.sizeOf30 rfl rfl⟩
instance:UField Tryz.prog 238 2 2:=⟨field_of Tryz.underlying238 rfl Tryz.sizeOf30 rfl rfl⟩
instance:UPtr Tryz.prog 240 149:=⟨Tryz.underlying240⟩
instance:USize Tryz.prog 245 1:=⟨Tryz.sizeOf245⟩
instance:UOne Tryz.prog 245:=⟨Tryz.isAgg245⟩
instance:USlice Tryz.prog 245 252:=⟨Tryz.underlying245⟩
instance:USize Tryz.prog 246 1:=⟨Tryz.sizeOf246⟩
instance:UOne Tryz.prog 246:=⟨Tryz.isAgg246⟩
instance:USlice Tryz.prog 246 450:=⟨Tryz.underlying246⟩
instance:UField Tryz.prog 248 0 0:=⟨field_of Tryz.underlying248 rfl Tryz.sizeOf245 rfl rfl⟩
instance:UField Tryz.prog 248 1 1:=⟨field_of Tryz.underlying248 rfl Tryz.sizeOf246 rfl rfl⟩
instance:UField Tryz.prog 248 2 2:=⟨field_of Tryz.underlying248 rfl Tryz.sizeOf3 rfl rfl⟩
instance:UField Tryz.prog 248 3 3:=⟨field_of Tryz.underlying248 rfl Tryz.sizeOf3 rfl rfl⟩
instance:UField Tryz.prog 248 4 4:=⟨field_of Tryz.underlying248 rfl Tryz.sizeOf3 rfl rfl⟩
instance:UField Tryz.prog 248 5 5:=⟨field_of Tryz.underlying248 rfl Tryz.sizeOf3 rfl rfl⟩
instance:USize Tryz.prog 252 2:=⟨Tryz.sizeOf252⟩
instance:UElem Tryz.prog 252 (.agg #[(.bool false),(.int .i64 0)]) 2 16:=⟨by kernel_rfl⟩
instance:UField Tryz.prog 252 0 0:=⟨field_of Tryz.underlying252 rfl Tryz.sizeOf4 rfl rfl⟩
instance:UField Tryz.prog 252 1 1:=⟨field_of Tryz.underlying252 rfl Tryz.sizeOf3 rfl rfl⟩
instance:UOne Tryz.prog 253:=⟨Tryz.isAgg253⟩
instance:UMap Tryz.prog 253 3 3:=⟨Tryz.underlying253⟩
instance:UField Tryz.prog 255 0 0:=⟨field_of Tryz.underlying255 rfl Tryz.sizeOf3 rfl rfl⟩
instance:UField Tryz.prog 255 1 1:=⟨field_of Tryz.underlying255 rfl Tryz.sizeOf3 rfl rfl⟩
instance:UField Tryz.prog 255 2 2:=⟨field_of Tryz.underlying255 rfl Tryz.sizeOf30 rfl rfl⟩
instance:UField Tryz.prog 255 3 3:=⟨field_of Tryz.underlying255 rfl Tryz.sizeOf3 rfl rfl⟩
instance:UField Tryz.prog 255 4 4:=⟨field_of Tryz.underlying255 rfl Tryz.sizeOf253 rfl rfl⟩
instance:USize Tryz.prog 310 16:=⟨Tryz.sizeOf310⟩
instance:UAgg Tryz.prog 310:=⟨Tryz.isAgg310⟩
instance:UField Tryz.prog 310 0 0:=⟨field_of Tryz.underlying310 rfl Tryz.sizeOf33 rfl rfl⟩
instance:UField Tryz.prog 310 1 4:=⟨field_of Tryz.underlying310 rfl Tryz.sizeOf80 rfl rfl⟩
instance:UField Tryz.prog 310 2 10:=⟨field_of Tryz.underlying310 rfl Tryz.sizeOf141 rfl rfl⟩
instance:USize Tryz.prog 450 2:=⟨Tryz.sizeOf450⟩
instance:UAgg Tryz.prog 450:=⟨Tryz.isAgg450⟩
instance:UElem Tryz.prog 450 (.agg #[(.int .i64 0),(.slice none 0 0)]) 2 32:=⟨by kernel_rfl⟩
instance:UField Tryz.prog 450 0 0:=⟨field_of Tryz.underlying450 rfl Tryz.sizeOf3 rfl rfl⟩
instance:UField Tryz.prog 450 1 1:=⟨field_of Tryz.underlying450 rfl Tryz.sizeOf30 rfl rfl⟩
instance:UFunc Tryz.prog 6:=⟨Tryz.call6⟩
instance:UFunc Tryz.prog 7:=⟨Tryz.call7⟩
instance:UFunc Tryz.prog 8:=⟨Tryz.call8⟩
instance:UFunc Tryz.prog 9:=⟨Tryz.call9⟩
instance:UFunc Tryz.prog 10:=⟨Tryz.call10⟩
instance:UFunc Tryz.prog 11:=⟨Tryz.call11⟩
instance:UFunc Tryz.prog 12:=⟨Tryz.call12⟩
instance:UFunc Tryz.prog 16:=⟨Tryz.call16⟩
instance:UFunc Tryz.prog 17:=⟨Tryz.call17⟩
instance:UFunc Tryz.prog 18:=⟨Tryz.call18⟩
instance:UFunc Tryz.prog 19:=⟨Tryz.call19⟩
instance:UFunc Tryz.prog 20:=⟨Tryz.call20⟩
instance:UFunc Tryz.prog 21:=⟨Tryz.call21⟩
instance:UFunc Tryz.prog 22:=⟨Tryz.call22⟩
instance:UFunc Tryz.prog 23:=⟨Tryz.call23⟩
instance:UFunc Tryz.prog 24:=⟨Tryz.call24⟩
instance:UFunc Tryz.prog 25:=⟨Tryz.call25⟩
instance:UFunc Tryz.prog 26:=⟨Tryz.call26⟩
instance:UFunc Tryz.prog 46:=⟨Tryz.call46⟩
instance:UFunc Tryz.prog 47:=⟨Tryz.call47⟩
instance:UFunc Tryz.prog 48:=⟨Tryz.call48⟩
instance:UFunc Tryz.prog 49:=⟨Tryz.call49⟩
instance:UFunc Tryz.prog 50:=⟨Tryz.call50⟩
instance:UFunc Tryz.prog 51:=⟨Tryz.call51⟩
instance:UFunc Tryz.prog 52:=⟨Tryz.call52⟩
instance:UFunc Tryz.prog 53:=⟨Tryz.call53⟩
instance:UFunc Tryz.prog 54:=⟨Tryz.call54⟩
instance:UFunc Tryz.prog 55:=⟨Tryz.call55⟩
instance:UFunc Tryz.prog 56:=⟨Tryz.call56⟩
instance:UFunc Tryz.prog 57:=⟨Tryz.call57⟩
instance:UFunc Tryz.prog 58:=⟨Tryz.call58⟩
instance:UFunc Tryz.prog 59:=⟨Tryz.call59⟩
instance:UFunc Tryz.prog 60:=⟨Tryz.call60⟩
instance:UFunc Tryz.prog 61:=⟨Tryz.call61⟩
instance:UFunc Tryz.prog 62:=⟨Tryz.call62⟩
instance:UFunc Tryz.prog 63:=⟨Tryz.call63⟩
instance:UFunc Tryz.prog 64:=⟨Tryz.call64⟩
instance:UFunc Tryz.prog 65:=⟨Tryz.call65⟩
instance:UFunc Tryz.prog 66:=⟨Tryz.call66⟩
instance:UFunc Tryz.prog 67:=⟨Tryz.call67⟩
instance:UFunc Tryz.prog 68:=⟨Tryz.call68⟩
instance:UFunc Tryz.prog 95:=⟨Tryz.call95⟩
instance:UFunc Tryz.prog 96:=⟨Tryz.call96⟩
instance:UFunc Tryz.prog 97:=⟨Tryz.call97⟩
instance:UFunc Tryz.prog 102:=⟨Tryz.call102⟩
instance:UFunc Tryz.prog 108:=⟨Tryz.call108⟩
instance:UFunc Tryz.prog 109:=⟨Tryz.call109⟩
instance:UFunc Tryz.prog 110:=⟨Tryz.call110⟩
instance:UFunc Tryz.prog 111:=⟨Tryz.call111⟩
instance:UFunc Tryz.prog 112:=⟨Tryz.call112⟩
instance:UFunc Tryz.prog 113:=⟨Tryz.call113⟩
instance:UFunc Tryz.prog 114:=⟨Tryz.call114⟩
instance:UFunc Tryz.prog 115:=⟨Tryz.call115⟩
instance:UFunc Tryz.prog 116:=⟨Tryz.call116⟩
instance:UFunc Tryz.prog 117:=⟨Tryz.call117⟩
instance:UFunc Tryz.prog 118:=⟨Tryz.call118⟩
instance:UFunc Tryz.prog 119:=⟨Tryz.call119⟩
instance:UFunc Tryz.prog 120:=⟨Tryz.call120⟩
instance:UFunc Tryz.prog 121:=⟨Tryz.call121⟩
instance:UFunc Tryz.prog 122:=⟨Tryz.call122⟩
instance:UFunc Tryz.prog 123:=⟨Tryz.call123⟩
instance:UFunc Tryz.prog 124:=⟨Tryz.call124⟩
instance:UFunc Tryz.prog 125:=⟨Tryz.call125⟩
instance:UFunc Tryz.prog 126:=⟨Tryz.call126⟩
instance:UFunc Tryz.prog 127:=⟨Tryz.call127⟩
instance:UFunc Tryz.prog 128:=⟨Tryz.call128⟩
instance:UFunc Tryz.prog 129:=⟨Tryz.call129⟩
instance:UFunc Tryz.prog 130:=⟨Tryz.call130⟩
instance:UFunc Tryz.prog 131:=⟨Tryz.call131⟩
instance:UFunc Tryz.prog 132:=⟨Tryz.call132⟩
instance:UFunc Tryz.prog 133:=⟨Tryz.call133⟩
instance:UFunc Tryz.prog 134:=⟨Tryz.call134⟩
instance:UFunc Tryz.prog 135:=⟨Tryz.call135⟩
instance:UFunc Tryz.prog 136:=⟨Tryz.call136⟩
instance:UFunc Tryz.prog 137:=⟨Tryz.call137⟩
instance:UFunc Tryz.prog 138:=⟨Tryz.call138⟩
instance:UFunc Tryz.prog 139:=⟨Tryz.call139⟩
instance:UFunc Tryz.prog 140:=⟨Tryz.call140⟩
instance:UFunc Tryz.prog 141:=⟨Tryz.call141⟩
instance:UFunc Tryz.prog 142:=⟨Tryz.call142⟩
instance:UFunc Tryz.prog 143:=⟨Tryz.call143⟩
instance:UFunc Tryz.prog 144:=⟨Tryz.call144⟩
instance:UFunc Tryz.prog 145:=⟨Tryz.call145⟩
instance:UFunc Tryz.prog 146:=⟨Tryz.call146⟩
instance:UFunc Tryz.prog 147:=⟨Tryz.call147⟩
instance:UFunc Tryz.prog 148:=⟨Tryz.call148⟩
instance:UFunc Tryz.prog 149:=⟨Tryz.call149⟩
instance:UFunc Tryz.prog 177:=⟨Tryz.call177⟩
instance:UFunc Tryz.prog 181:=⟨Tryz.call181⟩
instance:UFunc Tryz.prog 182:=⟨Tryz.call182⟩
instance:UFunc Tryz.prog 191:=⟨Tryz.call191⟩
instance:UFunc Tryz.prog 192:=⟨Tryz.call192⟩
instance:UFunc Tryz.prog 193:=⟨Tryz.call193⟩
instance:UFunc Tryz.prog 194:=⟨Tryz.call194⟩
instance:UFunc Tryz.prog 195:=⟨Tryz.call195⟩
instance:UFunc Tryz.prog 196:=⟨Tryz.call196⟩
instance:UFunc Tryz.prog 197:=⟨Tryz.call197⟩
instance:UFunc Tryz.prog 198:=⟨Tryz.call198⟩
instance:UFunc Tryz.prog 199:=⟨Tryz.call199⟩
instance:UFunc Tryz.prog 200:=⟨Tryz.call200⟩
instance:UFunc Tryz.prog 201:=⟨Tryz.call201⟩
instance:UFunc Tryz.prog 202:=⟨Tryz.call202⟩
instance:UFunc Tryz.prog 203:=⟨Tryz.call203⟩
instance:UFunc Tryz.prog 204:=⟨Tryz.call204⟩
instance:UFunc Tryz.prog 205:=⟨Tryz.call205⟩
instance:UFunc Tryz.prog 206:=⟨Tryz.call206⟩
instance:UFunc Tryz.prog 207:=⟨Tryz.call207⟩
instance:UFunc Tryz.prog 208:=⟨Tryz.call208⟩
instance:UFunc Tryz.prog 209:=⟨Tryz.call209⟩
instance:UFunc Tryz.prog 210:=⟨Tryz.call210⟩
instance:UFunc Tryz.prog 211:=⟨Tryz.call211⟩
instance:UFunc Tryz.prog 212:=⟨Tryz.call212⟩
instance:UFunc Tryz.prog 213:=⟨Tryz.call213⟩
instance:UFunc Tryz.prog 214:=⟨Tryz.call214⟩
instance:UFunc Tryz.prog 215:=⟨Tryz.call215⟩
instance:UFunc Tryz.prog 216:=⟨Tryz.call216⟩
instance:UFunc Tryz.prog 217:=⟨Tryz.call217⟩
instance:UFunc Tryz.prog 218:=⟨Tryz.call218⟩
instance:UFunc Tryz.prog 219:=⟨Tryz.call219⟩
instance:UFunc Tryz.prog 220:=⟨Tryz.call220⟩
instance:UFunc Tryz.prog 221:=⟨Tryz.call221⟩
instance:UFunc Tryz.prog 222:=⟨Tryz.call222⟩
instance:UFunc Tryz.prog 256:=⟨Tryz.call256⟩
instance:UFunc Tryz.prog 268:=⟨Tryz.call268⟩
instance:UFunc Tryz.prog 269:=⟨Tryz.call269⟩
instance:UFunc Tryz.prog 270:=⟨Tryz.call270⟩
instance:UFunc Tryz.prog 271:=⟨Tryz.call271⟩
instance:UFunc Tryz.prog 272:=⟨Tryz.call272⟩
instance:UFunc Tryz.prog 273:=⟨Tryz.call273⟩
instance:UFunc Tryz.prog 274:=⟨Tryz.call274⟩
instance:UFunc Tryz.prog 275:=⟨Tryz.call275⟩
instance:UFunc Tryz.prog 276:=⟨Tryz.call276⟩
instance:UFunc Tryz.prog 277:=⟨Tryz.call277⟩
instance:UFunc Tryz.prog 278:=⟨Tryz.call278⟩
instance:UFunc Tryz.prog 279:=⟨Tryz.call279⟩
instance:UFunc Tryz.prog 280:=⟨Tryz.call280⟩
instance:UFunc Tryz.prog 281:=⟨Tryz.call281⟩
instance:UFunc Tryz.prog 282:=⟨Tryz.call282⟩
instance:UFunc Tryz.prog 283:=⟨Tryz.call283⟩
instance:UFunc Tryz.prog 284:=⟨Tryz.call284⟩
instance:UFunc Tryz.prog 285:=⟨Tryz.call285⟩
instance:UFunc Tryz.prog 286:=⟨Tryz.call286⟩
instance:UFunc Tryz.prog 287:=⟨Tryz.call287⟩
instance:UFunc Tryz.prog 288:=⟨Tryz.call288⟩
instance:UFunc Tryz.prog 289:=⟨Tryz.call289⟩
instance:UFunc Tryz.prog 290:=⟨Tryz.call290⟩
instance:UFunc Tryz.prog 291:=⟨Tryz.call291⟩
instance:UFunc Tryz.prog 292:=⟨Tryz.call292⟩
instance:UFunc Tryz.prog 362:=⟨Tryz.call362⟩
instance:UFunc Tryz.prog 363:=⟨Tryz.call363⟩
instance:UFunc Tryz.prog 364:=⟨Tryz.call364⟩
instance:UFunc Tryz.prog 365:=⟨Tryz.call365⟩
instance:UFunc Tryz.prog 366:=⟨Tryz.call366⟩
instance:UFunc Tryz.prog 367:=⟨Tryz.call367⟩
instance:UFunc Tryz.prog 368:=⟨Tryz.call368⟩
instance:UFunc Tryz.prog 494:=⟨Tryz.call494⟩
instance:UFunc Tryz.prog 495:=⟨Tryz.call495⟩
instance:UFunc Tryz.prog 496:=⟨Tryz.call496⟩
instance:UFunc Tryz.prog 497:=⟨Tryz.call497⟩
end Go.Proofs.YtojfbbggnkijeaaGreatDoor
namespace Go.Proofs.YtojfbbggnkijeaaGreatDoor
open Go Go.RowKit Go.RR Go.RX Go.GX Go.Api
instance:UTy Tryz.prog 3 Ty.int 0 (.int .i64 0):=⟨Tryz.zeroValue3,fun _ _=>num_rd⟩
instance:UTy Tryz.prog 4 Ty.bool false (.bool false):=⟨Tryz.zeroValue4,fun _ _=>bool_rd⟩
instance:UTy Tryz.prog 5 Ty.byte 0 (.int .u8 0):=⟨Tryz.zeroValue5,fun _ _=>num_rd⟩
instance:UTy Tryz.prog 30 (Ty.slice Ty.int) [] (.slice none 0 0):=⟨Tryz.zeroValue30,fun _ _=>nils_rd⟩
instance:UTy Tryz.prog 141 tyIns ⟨0,0,0,0,0,[]⟩ (.agg #[.int .i64 0,.int .i64 0,.int .i64 0,.int .i64 0,.int .i64 0,.slice none 0 0]):=⟨Tryz.zeroValue141,fun _ _=>(co_rd (pair_rd (c1:=[_]) rfl num_rd (pair_rd (c1:=[_]) rfl num_rd (pair_rd (c1:=[_]) rfl num_rd (pair_rd (c1:=[_]) rfl num_rd (pair_rd (c1:=[_]) rfl num_rd (pair_rd (c1:=[_]) rfl nils_rd unit_rd)))))))⟩
instance:UTy Tryz.prog 75 tyLayout ⟨false,[]⟩ (.agg #[.bool false,.slice none 0 0]):=⟨Tryz.zeroValue75,fun _ _=>(co_rd (pair_rd (c1:=[_]) rfl bool_rd (pair_rd (c1:=[_]) rfl nils_rd unit_rd)))⟩
instance:UTy Tryz.prog 80 tyUnt ⟨0,[],0,[],[],[]⟩ (.agg #[.int .i64 0,.slice none 0 0,.int .i64 0,.slice none 0 0,.slice none 0 0,.slice none 0 0]):=⟨Tryz.zeroValue80,fun _ _=>(co_rd (pair_rd (c1:=[_]) rfl num_rd (pair_rd (c1:=[_]) rfl nils_rd (pair_rd (c1:=[_]) rfl num_rd (pair_rd (c1:=[_]) rfl nils_rd (pair_rd (c1:=[_]) rfl nils_rd (pair_rd (c1:=[_]) rfl nils_rd unit_rd)))))))⟩
instance:UTy Tryz.prog 33 tyRTg ⟨[],[],[],0⟩ (.agg #[.slice none 0 0,.slice none 0 0,.slice none 0 0,.int .i64 0]):=⟨Tryz.zeroValue33,fun _ _=>(co_rd (pair_rd (c1:=[_]) rfl nils_rd (pair_rd (c1:=[_]) rfl nils_rd (pair_rd (c1:=[_]) rfl nils_rd (pair_rd (c1:=[_]) rfl num_rd unit_rd)))))⟩
instance:UTy Tryz.prog 238 tyState ⟨false,[],[]⟩ (.agg #[.bool false,.slice none 0 0,.slice none 0 0]):=⟨Tryz.zeroValue238,fun _ _=>(co_rd (pair_rd (c1:=[_]) rfl bool_rd (pair_rd (c1:=[_]) rfl nils_rd (pair_rd (c1:=[_]) rfl nils_rd unit_rd))))⟩
instance:UTy Tryz.prog 43 tyRan ⟨⟨0,0,[],0⟩,0,0,0,0,0,0⟩ (.agg #[.int .i64 0,.int .i64 0,.slice none 0 0,.int .i64 0,.int .i64 0,.int .i64 0,.int .i64 0,.int .i64 0,.int .i64 0,.int .i64 0]):=⟨Tryz.zeroValue43,fun _ _=>(co_rd (pair_rd (c1:=[_,_,_,_]) rfl (co_rd (pair_rd (c1:=[_]) rfl num_rd (pair_rd (c1:=[_]) rfl num_rd (pair_rd (c1:=[_]) rfl nils_rd (pair_rd (c1:=[_]) rfl num_rd unit_rd))))) (pair_rd (c1:=[_]) rfl num_rd (pair_rd (c1:=[_]) rfl num_rd (pair_rd (c1:=[_]) rfl num_rd (pair_rd (c1:=[_]) rfl num_rd (pair_rd (c1:=[_]) rfl num_rd (pair_rd (c1:=[_]) rfl num_rd unit_rd))))))))⟩
instance:UTy Tryz.prog 252 tyRegion ⟨false,0⟩ (.agg #[.bool false,.int .i64 0]):=⟨Tryz.zeroValue252,fun _ _=>(co_rd (pair_rd (c1:=[_]) rfl bool_rd (pair_rd (c1:=[_]) rfl num_rd unit_rd)))⟩
instance {ps:List Pf}{v_op v_a v_b v_c v_n v_args:Value}{x_op:Int}{x_a:Int}{x_b:Int}{x_c:Int}{x_n:Int}{x_args:List Int}[OneV v_op][OneV v_a][OneV v_b][OneV v_c][OneV v_n][OneV v_args][h_op:Rds ps v_op Ty.int x_op][h_a:Rds ps v_a Ty.int x_a][h_b:Rds ps v_b Ty.int x_b][h_c:Rds ps v_c Ty.int x_c][h_n:Rds ps v_n Ty.int x_n][h_args:Rds ps v_args (Ty.slice Ty.int) x_args]:Rds ps (.agg #[v_op,v_a,v_b,v_c,v_n,v_args]) tyIns ⟨x_op,x_a,x_b,x_c,x_n,x_args⟩:=⟨.of fun F w h=>co_rd (pair_rd (c1:=[_]) rfl (rdo (h_op.r.as F w h)) (pair_rd (c1:=[_]) rfl (rdo (h_a.r.as F w h)) (pair_rd (c1:=[_]) rfl (rdo (h_b.r.as F w h)) (pair_rd (c1:=[_]) rfl (rdo (h_c.r.as F w h)) (pair_rd (c1:=[_]) rfl (rdo (h_n.r.as F w h)) (pair_rd (c1:=[_]) rfl (rdo (h_args.r.as F w h)) unit_rd))))))⟩
instance {ps:List Pf}{v_params v_vars v_has v_result_base v_result_rc v_result_dims v_ins:Value}{x_params:Int}{x_vars:List Go.Api.Typ}{x_has:Bool}{x_result_base:Int}{x_result_rc:Int}{x_result_dims:Int}{x_ins:List Go.Api.Ins}[OneV v_params][OneV v_vars][OneV v_has][OneV v_result_base][OneV v_result_rc][OneV v_result_dims][OneV v_ins][h_params:Rds ps v_params Ty.int x_params][h_vars:Rds ps v_vars (Ty.slice tyTyp) x_vars][h_has:Rds ps v_has Ty.bool x_has][h_result_base:Rds ps v_result_base Ty.int x_result_base][h_result_rc:Rds ps v_result_rc Ty.int x_result_rc][h_result_dims:Rds ps v_result_dims Ty.int x_result_dims][h_ins:Rds ps v_ins (Ty.slice tyIns) x_ins]:Rds ps (.agg #[v_params,v_vars,v_has,v_result_base,v_result_rc,v_result_dims,v_ins]) tyCode ⟨x_params,x_vars,x_has,⟨x_result_base,x_result_rc,x_result_dims⟩,x_ins⟩:=⟨.of fun F w h=>co_rd (pair_rd (c1:=[_]) rfl (rdo (h_params.r.as F w h)) (pair_rd (c1:=[_]) rfl (rdo (h_vars.r.as F w h)) (pair_rd (c1:=[_]) rfl (rdo (h_has.r.as F w h)) (pair_rd (c1:=[_,_,_]) rfl (co_rd (pair_rd (c1:=[_]) rfl (rdo (h_result_base.r.as F w h)) (pair_rd (c1:=[_]) rfl (rdo (h_result_rc.r.as F w h)) (pair_rd (c1:=[_]) rfl (rdo (h_result_dims.r.as F w h)) unit_rd)))) (pair_rd (c1:=[_]) rfl (rdo (h_ins.r.as F w h)) unit_rd)))))⟩
instance {ps:List Pf}{v_arr v_refs:Value}{x_arr:Bool}{x_refs:List Int}[OneV v_arr][OneV v_refs][h_arr:Rds ps v_arr Ty.bool x_arr][h_refs:Rds ps v_refs (Ty.slice Ty.int) x_refs]:Rds ps (.agg #[v_arr,v_refs]) tyLayout ⟨x_arr,x_refs⟩:=⟨.of fun F w h=>co_rd (pair_rd (c1:=[_]) rfl (rdo (h_arr.r.as F w h)) (pair_rd (c1:=[_]) rfl (rdo (h_refs.r.as F w h)) unit_rd))⟩
instance {ps:List Pf}{v_params v_vars v_result v_takes v_owns v_ins:Value}{x_params:Int}{x_vars:List Int}{x_result:Int}{x_takes:List Int}{x_owns:List Int}{x_ins:List Go.Api.Ins}[OneV v_params][OneV v_vars][OneV v_result][OneV v_takes][OneV v_owns][OneV v_ins][h_params:Rds ps v_params Ty.int x_params][h_vars:Rds ps v_vars (Ty.slice Ty.int) x_vars][h_result:Rds ps v_result Ty.int x_result][h_takes:Rds ps v_takes (Ty.slice Ty.int) x_takes][h_owns:Rds ps v_owns (Ty.slice Ty.int) x_owns][h_ins:Rds ps v_ins (Ty.slice tyIns) x_ins]:Rds ps (.agg #[v_params,v_vars,v_result,v_takes,v_owns,v_ins]) tyUnt ⟨x_params,x_vars,x_result,x_takes,x_owns,x_ins⟩:=⟨.of fun F w h=>co_rd (pair_rd (c1:=[_]) rfl (rdo (h_params.r.as F w h)) (pair_rd (c1:=[_]) rfl (rdo (h_vars.r.as F w h)) (pair_rd (c1:=[_]) rfl (rdo (h_result.r.as F w h)) (pair_rd (c1:=[_]) rfl (rdo (h_takes.r.as F w h)) (pair_rd (c1:=[_]) rfl (rdo (h_owns.r.as F w h)) (pair_rd (c1:=[_]) rfl (rdo (h_ins.r.as F w h)) unit_rd))))))⟩
instance {ps:List Pf}{v_classes v_globals v_units v_main:Value}{x_classes:List Go.Api.Layout}{x_globals:List Int}{x_units:List Go.Api.Unt}{x_main:Int}[OneV v_classes][OneV v_globals][OneV v_units][OneV v_main][h_classes:Rds ps v_classes (Ty.slice tyLayout) x_classes][h_globals:Rds ps v_globals (Ty.slice Ty.int) x_globals][h_units:Rds ps v_units (Ty.slice tyUnt) x_units][h_main:Rds ps v_main Ty.int x_main]:Rds ps (.agg #[v_classes,v_globals,v_units,v_main]) tyRTg ⟨x_classes,x_globals,x_units,x_main⟩:=⟨.of fun F w h=>co_rd (pair_rd (c1:=[_]) rfl (rdo (h_classes.r.as F w h)) (pair_rd (c1:=[_]) rfl (rdo (h_globals.r.as F w h)) (pair_rd (c1:=[_]) rfl (rdo (h_units.r.as F w h)) (pair_rd (c1:=[_]) rfl (rdo (h_main.r.as F w h)) unit_rd))))⟩
instance {ps:List Pf}{v_met v_live v_stale:Value}{x_met:Bool}{x_live:List Int}{x_stale:List Int}[OneV v_met][OneV v_live][OneV v_stale][h_met:Rds ps v_met Ty.bool x_met][h_live:Rds ps v_live (Ty.slice Ty.int) x_live][h_stale:Rds ps v_stale (Ty.slice Ty.int) x_stale]:Rds ps (.agg #[v_met,v_live,v_stale]) tyState ⟨x_met,x_live,x_stale⟩:=⟨.of fun F w h=>co_rd (pair_rd (c1:=[_]) rfl (rdo (h_met.r.as F w h)) (pair_rd (c1:=[_]) rfl (rdo (h_live.r.as F w h)) (pair_rd (c1:=[_]) rfl (rdo (h_stale.r.as F w h)) unit_rd)))⟩
instance {ps:List Pf}{v_beh_end_ v_beh_code v_beh_out v_beh_steps v_made v_gone v_live v_peak v_slack v_most:Value}{x_beh_end_:Int}{x_beh_code:Int}{x_beh_out:List Int}{x_beh_steps:Int}{x_made:Int}{x_gone:Int}{x_live:Int}{x_peak:Int}{x_slack:Int}{x_most:Int}[OneV v_beh_end_][OneV v_beh_code][OneV v_beh_out][OneV v_beh_steps][OneV v_made][OneV v_gone][OneV v_live][OneV v_peak][OneV v_slack][OneV v_most][h_beh_end_:Rds ps v_beh_end_ Ty.int x_beh_end_][h_beh_code:Rds ps v_beh_code Ty.int x_beh_code][h_beh_out:Rds ps v_beh_out (Ty.slice Ty.int) x_beh_out][h_beh_steps:Rds ps v_beh_steps Ty.int x_beh_steps][h_made:Rds ps v_made Ty.int x_made][h_gone:Rds ps v_gone Ty.int x_gone][h_live:Rds ps v_live Ty.int x_live][h_peak:Rds ps v_peak Ty.int x_peak][h_slack:Rds ps v_slack Ty.int x_slack][h_most:Rds ps v_most Ty.int x_most]:Rds ps (.agg #[v_beh_end_,v_beh_code,v_beh_out,v_beh_steps,v_made,v_gone,v_live,v_peak,v_slack,v_most]) tyRan ⟨⟨x_beh_end_,x_beh_code,x_beh_out,x_beh_steps⟩,x_made,x_gone,x_live,x_peak,x_slack,x_most⟩:=⟨.of fun F w h=>co_rd (pair_rd (c1:=[_,_,_,_]) rfl (co_rd (pair_rd (c1:=[_]) rfl (rdo (h_beh_end_.r.as F w h)) (pair_rd (c1:=[_]) rfl (rdo (h_beh_code.r.as F w h)) (pair_rd (c1:=[_]) rfl (rdo (h_beh_out.r.as F w h)) (pair_rd (c1:=[_]) rfl (rdo (h_beh_steps.r.as F w h)) unit_rd))))) (pair_rd (c1:=[_]) rfl (rdo (h_made.r.as F w h)) (pair_rd (c1:=[_]) rfl (rdo (h_gone.r.as F w h)) (pair_rd (c1:=[_]) rfl (rdo (h_live.r.as F w h)) (pair_rd (c1:=[_]) rfl (rdo (h_peak.r.as F w h)) (pair_rd (c1:=[_]) rfl (rdo (h_slack.r.as F w h)) (pair_rd (c1:=[_]) rfl (rdo (h_most.r.as F w h)) unit_rd)))))))⟩
instance {ps:List Pf}{v_live v_many:Value}{x_live:Bool}{x_many:Int}[OneV v_live][OneV v_many][h_live:Rds ps v_live Ty.bool x_live][h_many:Rds ps v_many Ty.int x_many]:Rds ps (.agg #[v_live,v_many]) tyRegion ⟨x_live,x_many⟩:=⟨.of fun F w h=>co_rd (pair_rd (c1:=[_]) rfl (rdo (h_live.r.as F w h)) (pair_rd (c1:=[_]) rfl (rdo (h_many.r.as F w h)) unit_rd))⟩
end Go.Proofs.YtojfbbggnkijeaaGreatDoor
