import Derived.Test.YtojfbbggnkijeaaGreatDoorZ30
import Derived.Deep.Slices
import Derived.OpenShut
set_option linter.all false
namespace Go.GuaM
open Go.RiseM Go.Api Go.FlowM Go.LivM Go.ReachM Go.RtM
variable {u:Unt}
theorem at_in {N:Int}(h:∀x∈u.ins,x.op=21->∀c∈x.args,0<=c/\c<N){i:Nat}{L:List Int}(hA:At u i L):∀c∈L,0<=c/\c<N:=by
 induction hA with
 |zero=>simp
 |step _ hx _ ih=>
  intro c hc;unfold alive at hc;split at hc
  ·rcases both_mem.1 hc with h1|h1
   ·exact ih c h1
   ·exact h _ (List.mem_of_getElem? hx) (by assumption) c h1
  ·split at hc
   ·exact ih c (minus_mem.1 hc).1
   ·exact ih c hc
theorem at_len {N:Nat}(h:∀x∈u.ins,x.op=21->∀c∈x.args,0<=c/\c<(N:Int)){i:Nat}{L:List Int}(hA:At u i L):L.length<=N:=
 rise_len L 0 N hA.rise fun c hc=>by have:=at_in h hA c hc;omega
theorem snd_stale {S:List Api.State}(h:Snd u S){j:Nat}{o:Api.State}(ho:S[j]?=some o):(∀v∈o.stale,0<=v/\v<(u.vars.length:Int))/\o.stale.length<=u.vars.length:=by
 have key:∀v∈o.stale,0<=v/\v<(u.vars.length:Int):=fun v hv=>by
  by_cases hm:o.met=true
  ·have:=((h.met j o ho hm).2 v hv).var;exact⟨this.1,this.2⟩
  ·rw[(h.un j o ho (by simpa using hm)).2] at hv;simp at hv
 exact⟨key,rise_len o.stale 0 u.vars.length (h.rl j o ho).2 fun v hv=>by have:=key v hv;omega⟩
theorem snd_live {S:List Api.State}(h:Snd u S){N:Nat}(hc:∀x∈u.ins,x.op=21->∀c∈x.args,0<=c/\c<(N:Int)){j:Nat}{o:Api.State}(ho:S[j]?=some o):o.live.length<=N:=by
 by_cases hm:o.met=true
 ·exact at_len hc (h.met j o ho hm).1
 ·rw[(h.un j o ho (by simpa using hm)).1];simp
theorem out_stale {x:Ins}{st:List Int}(h:∀v∈st,0<=v/\v<(u.vars.length:Int)):(staleOut u x st).length<=u.vars.length:=
 rise_len _ 0 u.vars.length (staleOut_rise u x st) fun v hv=>by
  obtain⟨h1|h1,_⟩:=staleOut_mem.1 hv
  ·have:=h v h1;omega
  ·obtain⟨_,h0,c,hc,_⟩:=h1;have:=(List.getElem?_eq_some_iff.1 hc).1;omega
end Go.GuaM
namespace Go.Proofs.YtojfbbggnkijeaaGreatDoor
open Go Go.RR Go.RX Go.GX Go.Api Go.RiseM Go.ReachM Go.RtM Go.LivM Go.FlowM
attribute [local irreducible] wpList Code.wp wpPlan Exit.then Exit.inBlock bodyPost NoPanic Went GX.Post Again Meet RowR GX.Own Owns Box Sl Pt Ag MapR Kept Pin wpT GoK AtEnd Both
structure UnW (t:RTg)(u:Unt):Prop where
 ne:u.ins≠[]
 ins:u.ins.length<=100000
 vars:u.vars.length<=100000
 takes:u.takes.length<=100000
 glob:(glob t).length<=100000
 cls:t.classes.length<=100000
 each:∀x∈u.ins,InsOk t x
 cr:∀x∈u.ins,x.op=21->∀c∈x.args,0<=c/\c<(t.classes.length:Int)
structure GoR (t:RTg)(k:Int)(u:Unt) where
 q:GQ
 r:Bool
 no:r=false->¬ GuaM.AccU t k u
 yes:r=true->GuaM.Snd u q.S/\(∀i,GuaM.Done t k u q.S i)/\GuaM.Cov q.S 0 [] []
def q0 (u:Unt):GQ:=⟨none,0,[],List.replicate u.ins.length ⟨false,[],[]⟩,List.replicate u.ins.length false⟩
set_option maxHeartbeats 4000000 in
theorem ggoes_spec (bl:Nat)(v:GV)(t:RTg)(u:Unt)(k:Int)(hs:Small t)(hu:UnW t u):
  Does Tryz.prog 58 [.pointer (some ⟨bl,0,none⟩)] [Sl tyUnt v.aU v.cU t.units,Sl Ty.int v.aV v.cV u.vars,Sl Ty.int v.aT v.cT u.takes,Sl tyIns v.aI v.cI u.ins,Sl tyIns v.aJ v.cJ u.ins,Sl (Ty.slice Ty.int) v.aF v.cF (flds t),Sl Ty.int v.aS v.cS (GuaM.both (glob t) (out t k)),Sl Ty.int v.aL v.cL (glob t),Sl (Ty.slice Ty.int) v.aX v.cX (outs t)] [RowR bl 151 (gcl t u k v (.slice (q0 u).ao (q0 u).xs.length (q0 u).cap)),GX.Own 3 Ty.int (q0 u).ao (q0 u).cap (q0 u).xs,GX.Own 238 tyState (some ⟨v.st,0,none⟩) u.ins.length (q0 u).S,GX.Own 4 Ty.bool (some ⟨v.wt,0,none⟩) u.ins.length (q0 u).W]
   (fun s:GoR t k u=>.bool s.r) (fun _=>[]) (fun s=>[RowR bl 151 (gcl t u k v (.slice s.q.ao s.q.xs.length s.q.cap)),GX.Own 3 Ty.int s.q.ao s.q.cap s.q.xs,GX.Own 238 tyState (some ⟨v.st,0,none⟩) u.ins.length s.q.S,GX.Own 4 Ty.bool (some ⟨v.wt,0,none⟩) u.ins.length s.q.W]):=by
 refine enter Tryz.func58 rfl Tryz.ntmps58 rfl fun b=>?_;have hpos:0<u.ins.length:=List.length_pos_iff.2 hu.ne;have h0:(q0 u).S[0]?=some ⟨false,[],[]⟩:=by unfold q0;dsimp only;rw[List.getElem?_replicate,if_pos hpos]
 have w0:(q0 u).W[0]?=some false:=by unfold q0;dsimp only;rw[List.getElem?_replicate,if_pos hpos]
 refine slNil Ty.int ?_;refine w_ ?_;intros;refine GX.o (cl (comes_spec bl v t u k (q0 u) 0 none 0 [] none 0 [] ⟨false,[],[]⟩ false h0 w0 (by simp[q0]) (by simp[q0]) (by simp) (by simp) (by simp[q0]) hu.ins) fun s=>?_);obtain⟨q,r,no,yes⟩:=s;dsimp only;have hO:GuaM.Out t k u q.S q.W q.xs:=by
  cases r with
  |false=>have:=(no rfl).1;cases this
  |true=>
   obtain⟨_,h1|⟨_,h2,h3,h4|⟨_,h4⟩⟩⟩:=yes rfl
   ·have:=h1.1;cases this
   ·have:=h4.1;cases this
   ·rw[h2,h3];exact GuaM.out_start hu.ne h4
 refine w_ ?_;intros;refine GX.loop (σ:=GQ) (fun q=>[(0,.pointer (some ⟨bl,0,none⟩))]) (fun _=>[]) (fun q=>[RowR bl 151 (gcl t u k v (.slice q.ao q.xs.length q.cap)),GX.Own 3 Ty.int q.ao q.cap q.xs,GX.Own 238 tyState (some ⟨v.st,0,none⟩) u.ins.length q.S,GX.Own 4 Ty.bool (some ⟨v.wt,0,none⟩) u.ins.length q.W]) (fun q=>GuaM.Out t k u q.S q.W q.xs) (fun q=>GuaM.left u q.S q.xs) q ⟨rfl,trivial⟩ hO (fun q hq=>?_);obtain⟨ao,cap,xs,S,W⟩:=q;dsimp only at hq ⊢;have hxl:=hq.inv.len;have hul:=hu.ins;have hWl:=hq.inv.wl;have hSl:=hq.inv.snd.len;refine w_ ?_;intros;refine GX.o (cl (qlen_spec ao xs.length cap) fun _=>?_);by_cases hx0:xs.length=0
 ·have hx1:xs=[]:=List.length_eq_zero_iff.1 hx0;refine w_ ?_;intros;exact rt1 ⟨⟨ao,cap,xs,S,W⟩,true,(fun h=>by cases h),(fun _=>⟨hq.inv.snd,(by subst hx1;exact hq.all),hq.cov⟩)⟩ rfl
 ·obtain⟨m,hm⟩:∃m,xs.length=m+1:=⟨xs.length-1,by omega⟩;refine GX.opn ao fun _ _ h3=>?_;obtain⟨h3,_⟩|⟨g,rfl⟩:=h3
  ·subst h3;exact absurd rfl hx0
  refine w_ ?_;intros;refine GX.o (mki ?_);refine w_ ?_;intros;refine GX.o (cl (hpop_spec bl 22 g cap (gcl t u k v (.slice (some ⟨g,0,none⟩) xs.length cap)) xs m rfl hm (by omega)) fun s=>?_);obtain⟨⟨y,ys⟩,hp⟩:=s;simp only[List.set_cons_zero,List.set_cons_succ];obtain⟨i,rfl,hwi,⟨s,hs2,hsm⟩,hI⟩:=hq.inv.pop hp;have hil:=(List.getElem?_eq_some_iff.1 hwi).1;obtain⟨x,hx⟩:=get_lt (show i<u.ins.length by omega);refine w_ ?_;intros;refine GX.o (tas ?_);refine w_ ?_;intros;refine GX.cut (σ:=Nat×Nat) (fun p=>[(0,.pointer (some ⟨bl,0,none⟩)),(3,.int .i64 (i:Int)),(4,.pointer (some ⟨p.1,0,none⟩)),(5,.pointer (some ⟨p.2,0,none⟩))]) (fun _=>[])
   (fun p=>[Box 141 tyIns p.1 x,Box 238 tyState p.2 s,RowR bl 151 (gcl t u k v (.slice (some ⟨g,0,none⟩) ys.length cap)),GX.Own 3 Ty.int (some ⟨g,0,none⟩) cap ys,GX.Own 238 tyState (some ⟨v.st,0,none⟩) u.ins.length S,GX.Own 4 Ty.bool (some ⟨v.wt,0,none⟩) u.ins.length (W.set i false)]) (fun _=>True) ?_ (fun p _=>?_)
  ·refine GX.drawnT2 (RowR bl 151 (gcl t u k v (.slice (some ⟨g,0,none⟩) ys.length cap))) (GX.Own 238 tyState (some ⟨v.st,0,none⟩) u.ins.length S) (fun j=>!(List.contains [18] j)) (.br [(0,true),(1,true),(2,true),(3,true),(4,true),(5,true),(6,true),(7,true),(8,true),(9,true),(10,true),(11,true),(12,true),(13,true),(14,true)] (.alt 15 (.lin [(16,false),(17,false),(18,false)]) (.alt 16 (.lin [(15,false),(17,false),(18,false)]) .nil))) (by kernel_rfl) (by kernel_rfl) sA ?_;intro wd F hW hR;refine u_ ?_;intros;refine GX.treeA ?_ ?_
   ·refine u_ ?_;intros;refine unpin (RowR bl 151 (gcl t u k v (.slice (some ⟨g,0,none⟩) ys.length cap))) ?_;refine unpin (GX.Own 238 tyState (some ⟨v.st,0,none⟩) u.ins.length S) ?_;refine w_ ?_;intros;exact meet (_,_) ⟨rfl,rfl,rfl,rfl,trivial⟩ trivial
   ·refine u_ ?_;intros;refine unpin (RowR bl 151 (gcl t u k v (.slice (some ⟨g,0,none⟩) ys.length cap))) ?_;refine unpin (GX.Own 238 tyState (some ⟨v.st,0,none⟩) u.ins.length S) ?_;refine w_ ?_;intros;exact meet (_,_) ⟨rfl,rfl,rfl,rfl,trivial⟩ trivial
  obtain⟨b4,b5⟩:=p;dsimp only;refine frzB b4 ?_;refine frzB b5 ?_;have hxm:=List.mem_of_getElem? hx;have hlv:=GuaM.snd_live hq.inv.snd hu.cr hs2;have hcl:=hu.cls;have hvl:=hu.vars;obtain⟨hsv,hsl⟩:=GuaM.snd_stale hq.inv.snd hs2;refine w_ ?_;intros;refine nmA 49 ?_;rintro c49 rfl;refine nmA 50 ?_;rintro c50 rfl;refine GX.o (cl (passes_spec bl v t u k (.slice (some ⟨g,0,none⟩) ys.length cap) c49 c50 x s hs (hu.each x hxm) hu.glob (by omega) hu.takes) fun p=>?_);obtain⟨a6,c6,l,r,hr,hl⟩:=p;dsimp only
  cases r with
  |false=>
   refine w_ ?_;intros;exact rt1 ⟨⟨_,_,ys,S,W.set i false⟩,false,(fun _=>GuaM.not_passes hq.inv.snd hs2 hsm hx (of_decide_eq_false hr.symm)),(fun h=>by cases h)⟩ rfl
  |true=>
   obtain rfl:=hl rfl;have hpass:=of_decide_eq_true hr.symm;refine w_ ?_;intros;refine nmA 58 ?_;rintro c58 rfl;refine nmS 60 ?_;rintro a60 c60 rfl rfl;refine GX.o (cl (gstale_spec bl v t u k (.slice (some ⟨g,0,none⟩) ys.length cap) c58 x a60 c60 s.stale (hq.inv.snd.rl i s hs2).2 (by omega) hu.vars) fun p=>?_);obtain⟨a7,c7⟩:=p;dsimp only;refine w_ ?_ 1;intros;refine nmP 8 ?_;rintro b8 rfl;refine slNil tyTyp ?_;refine GX.o (GX.lrP ?_);have hnl:=next_len u.ins (i:Int);refine GX.agI (e:=tyCode) (cs:=[.int .i64 0,.slice none 0 0,.bool false,.int .i64 0,.int .i64 0,.int .i64 0,.slice v.aJ u.ins.length v.cJ]) (y:=⟨0,[],false,⟨0,0,0⟩,u.ins⟩) ?_;refine w_ ?_;intros;refine GX.o (cl (next_spec [.int .i64 0,.slice none 0 0,.bool false,.int .i64 0,.int .i64 0,.int .i64 0,.slice v.aJ u.ins.length v.cJ] ⟨0,[],false,⟨0,0,0⟩,u.ins⟩ (i:Int)) fun p=>?_);obtain⟨aN,cN⟩:=p;dsimp only;refine w_ ?_;intros;have hM0:=hq.mid x hI hs2;have hpl:=hp.length_eq;rw[List.length_cons] at hpl;dsimp only at hpl;have hsw:=GuaM.out_stale (x:=x) hsv;refine GX.loop (σ:=Nat×GQ) (fun p=>[(0,.pointer (some ⟨bl,0,none⟩)),(8,.pointer (some ⟨b8,0,none⟩)),(68,.slice aN (next u.ins (i:Int)).length cN),(69,.int .i64 ((next u.ins (i:Int)).length:Int)),(70,.int .i64 (p.1:Int))]) (fun _=>[])
    (fun p=>[RowR b8 238 [.bool true,.slice a6 (GuaM.alive x s.live).length c6,.slice a7 (GuaM.staleOut u x s.stale).length c7],RowR bl 151 (gcl t u k v (.slice p.2.ao p.2.xs.length p.2.cap)),GX.Own 3 Ty.int p.2.ao p.2.cap p.2.xs,GX.Own 238 tyState (some ⟨v.st,0,none⟩) u.ins.length p.2.S,GX.Own 4 Ty.bool (some ⟨v.wt,0,none⟩) u.ins.length p.2.W])
    (fun p=>p.1<=(next u.ins (i:Int)).length/\GuaM.Mid t k u i s x p.1 p.2.S p.2.W p.2.xs/\GuaM.left u p.2.S p.2.xs<GuaM.left u S xs) (fun p=>(next u.ins (i:Int)).length-p.1) (0,⟨some ⟨g,0,none⟩,cap,ys,S,W.set i false⟩) ⟨rfl,rfl,rfl,rfl,rfl,trivial⟩ ⟨by omega,hM0,by unfold GuaM.left;dsimp only;omega⟩ (fun p hp2=>?_)
   obtain⟨n,q⟩:=p;obtain⟨hn,hMid,hleft⟩:=hp2;dsimp only at hn hMid hleft ⊢;by_cases hlt:n<(next u.ins (i:Int)).length
   ·obtain⟨y,hy⟩:=get_lt hlt;obtain⟨hyi,_⟩:=next_in (List.mem_of_getElem? hy);obtain⟨hy0,hy1⟩:=hyi;obtain⟨j,rfl⟩:=Int.eq_ofNat_of_zero_le hy0;have hjl:j<u.ins.length:=by omega
    have hSq:=hMid.inv.snd.len;have hWq:=hMid.inv.wl;have hxq:=hMid.inv.len;obtain⟨o,ho⟩:=get_lt (show j<q.S.length by omega);obtain⟨wj,hwj⟩:=get_lt (show j<q.W.length by omega);obtain⟨_,hos⟩:=GuaM.snd_stale hMid.inv.snd ho;obtain⟨hA,hSt⟩:=GuaM.out_at hq.inv.snd hs2 hsm hx (List.mem_of_getElem? hy);refine w_ ?_;intros;refine GX.o (cl (comes_spec bl v t u k q j a6 c6 (GuaM.alive x s.live) a7 c7 (GuaM.staleOut u x s.stale) o wj ho hwj hSq hWq (by omega) (by omega) (by omega) (by omega)) fun z=>?_);obtain⟨q',r,no,yes⟩:=z;dsimp only
    cases r with
    |false=>
     obtain⟨hom,hne⟩:=no rfl;refine w_ ?_;intros;exact rt1 ⟨q',false,(fun _=>GuaM.not_live hMid.inv.snd ho hom hA hne),(fun h=>by cases h)⟩ rfl
    |true=>
     obtain⟨hL,h5⟩:=yes rfl;refine w_ ?_;intros
     rcases h5 with ⟨h6,h7,h8,h9,h10⟩|⟨h6,h7,h8,h9⟩
     ·refine again (n+1,q') ⟨rfl,rfl,rfl,rfl,rfl,trivial⟩ ⟨by dsimp only;omega,?_,?_⟩ (by dsimp only;omega)
      ·dsimp only;rw[h8,h9,h10];exact hMid.same hy ho h6 (hL h6) h7
      ·dsimp only;rw[h8,h10];exact hleft
     ·have hMid2:=hMid.lay hy ho hwj hL hA hSt h9;refine again (n+1,q') ⟨rfl,rfl,rfl,rfl,rfl,trivial⟩ ⟨by dsimp only;omega,?_,?_⟩ (by dsimp only;omega)
      ·dsimp only;rw[h7,h8];exact hMid2
      ·dsimp only;rw[h7];refine Nat.lt_trans (GuaM.left_lay hMid2.inv.snd (hMid.inv.snd.rl j o ho).2 ho h6 ?_) hleft
       rcases h9 with ⟨_,h9⟩|⟨_,h9⟩
       ·rw[h9];omega
       ·rw[h9.length_eq];simp
   ·refine w_ ?_;intros;exact again q ⟨rfl,trivial⟩ (hMid.out (by omega) hx hpass) hleft
end Go.Proofs.YtojfbbggnkijeaaGreatDoor
namespace Go.GX
open Go Go.RowKit Go.RR Go.RX
section
variable {P:Program} {n:Nat} {env:Env} {b:Base} {ps:List Pf} {hp:List Res} {Q:Exit->Act->World->Prop} {K:Act->World->Prop}
end
end Go.GX
namespace Go.GX
open Go Go.RowKit Go.RR Go.RX Go.Api
section
variable {P:Program}
variable {t:TypeId} {F:Nat->Prop} {w:World}
def Conv (P:Program)(t:TypeId){α:Type}(e:Ty α)(ok:α->Prop):Prop:=
 ∀{H:Type} (enc:TypeId×Value->H) (w:World) (spare:Nat->Bool) (held:Bool) (fuel:Nat) (cs:List Value) (x:DataW H×List MemPlace),
  DataW.trod enc P w 0 spare held fuel t cs=some x->∃y,e.rd (fun k=>k<w.heap.size) w cs y/\ok y
theorem wf_i64 {a:Int}(h:(Lit.int .i64 a).wf=true):-9223372036854775808<=a/\a<=9223372036854775807:=by
 simp only[Lit.wf,Bool.and_eq_true,decide_eq_true_eq] at h;exact h
theorem conv_int (h:P.underlying t=some (.int .i64)):Conv P t Ty.int I64:=by
 intro H enc w spare held fuel cs x hx;obtain⟨n,rfl,_,hw⟩:=DataW.trod_int h hx;exact⟨n,rfl,wf_i64 hw⟩
theorem conv_byte (h:P.underlying t=some (.int .u8)):Conv P t Ty.byte (fun x=>0<=x/\x<=255):=by
 intro H enc w spare held fuel cs x hx;obtain⟨n,rfl,_,hw⟩:=DataW.trod_int h hx;simp only[Lit.wf,Bool.and_eq_true,decide_eq_true_eq] at hw;exact⟨n,rfl,hw⟩
theorem choose_list {α:Type}{p:Nat->α->Prop}:∀(n:Nat),(∀i,i<n->∃x,p i x)->∃l:List α,l.length=n/\∀(i:Nat) x,l[i]?=some x->p i x
 |0,_=>⟨[],rfl,by simp⟩
 |n+1,h=>by
  obtain⟨l,hl,hp⟩:=choose_list n (fun i hi=>h i (by omega));obtain⟨x,hx⟩:=h n (by omega);refine⟨l++[x],by simp[hl],fun i y hy=>?_⟩
  rcases Nat.lt_or_ge i l.length with hi|hi
  ·rw[List.getElem?_append_left hi] at hy;exact hp i y hy
  ·rw[List.getElem?_append_right hi] at hy
   rcases hq:i-l.length with _|q
   ·rw[hq] at hy;simp at hy;subst hy;rw[show i=n by omega];exact hx
   ·rw[hq] at hy;simp at hy
theorem conv_slice {et:TypeId}{α:Type}{e:Ty α}{ok:α->Prop}(ht:P.underlying t=some (.slice et))(hs:P.cellsOf et=e.size)(hp:0<e.size)(he:Conv P et e ok):Conv P t (Ty.slice e) (fun l=>∀x∈l,ok x):=by
 intro H enc w spare held fuel cs x hx
 rcases Go.Deep.open_slice ht hx with ⟨rfl,_⟩|⟨a,len,cap,m,n,D,Pl,rfl,_,hl,hm,hmm,_,hel⟩
 ·exact⟨[],⟨none,0,rfl,by simp,by omega,fun i x hx=>by simp at hx⟩,by simp⟩
 ·have hml:len<=m:=by rw[hmm];split<;>omega
  obtain⟨l,hll,hlp⟩:=choose_list (α:=α×List Value) (p:=fun i q=>w.cells? 0 (a.add (i*e.size)) e.size=some q.2/\e.rd (fun k=>k<w.heap.size) w q.2 q.1/\ok q.1) len (fun i hi=>by
   obtain⟨cs',h1,h2⟩:=hel i (by omega);obtain⟨y,hy⟩:=he enc w spare held n cs' _ h2;rw[hs] at h1;exact⟨(y,cs'),h1,hy⟩)
  refine⟨l.map (·.1),⟨some a,cap,by simp[hll],by simp[hll,hl],by simp only[maxLen] at hm;omega,fun i x hx=>?_⟩,fun x hx=>?_⟩
  ·rw[List.getElem?_map] at hx;obtain⟨⟨y,cs'⟩,hq,rfl⟩:=Option.map_eq_some_iff.1 hx;obtain⟨h1,h2,_⟩:=hlp i _ hq;dsimp only at h1 h2 ⊢;have hi:i<len:=by have:=(List.getElem?_eq_some_iff.1 hq).1;omega
   obtain⟨_,hlen,hc⟩:=World.cells?_some h1;have hspot:a.spot=none:=by
    obtain⟨cs0,g1,g2⟩:=hel 0 (by omega);rw[hs] at g1;obtain⟨_,g3,g4⟩:=World.cells?_some g1;have:=g4 0 (by omega);simp only[Nat.zero_mul,Addr.add_zero'] at this;have g5:cs0[0]?=some cs0[0]:=List.getElem?_eq_getElem (by omega)
    cases hsp:a.spot with
    |none=>rfl
    |some q=>
     exfalso;have h6:w.cell? a=some cs0[0]:=by simpa[g5] using this
     unfold World.cell? at h6;split at h6
     ·simp[hsp] at h6
     ·cases h6
   obtain⟨b,o,sp⟩:=a;dsimp only at hspot;subst hspot;have hcell:CellsAt w b (o+i*e.size) cs':=fun j c hj=>by
    have hjl:j<e.size:=by have:=(List.getElem?_eq_some_iff.1 hj).1;omega
    have:=hc j (by omega);rw[Addr.add_lit,Addr.add_lit] at this;rw[this,hj]
   have h0:cs'[0]?=some cs'[0]:=List.getElem?_eq_getElem (by omega);have hb:=cell_lt (hcell 0 _ h0);exact⟨b,o,cs',rfl,hb,hb,hcell,h2⟩
  ·obtain⟨q,hq,rfl⟩:=List.mem_map.1 hx;obtain⟨i,hi⟩:=List.getElem?_of_mem hq;exact (hlp i q hi).2.2
theorem Does.calls {f:FuncId}{args:List Value}{ps:List Pf}(h:Does P f args ps [] (fun _:Unit=>.bool true) (fun _=>[]) (fun _=>[]))(w:World)(hps:AllP (fun k=>k<w.heap.size) w ps):
  Calls P f args.toArray w fun e w'=>e=.returned (.bool true)/\Upd (fun _=>False) w w':=by
 refine (h.run w (fun k=>k<w.heap.size) ⟨w,fun _=>False,fun k=>k<w.heap.size⟩ ⟨Upd.refl _ _,fun _ h=>h,fun k h _=>.inl h,hps,no_r,by simp,by simp,by simp⟩).mono ?_;rintro e w' ⟨_,he,F',s⟩;exact⟨he,s.upd.mono (fun k _ hk=>absurd hk feet_nil)⟩
theorem all_nil:AllP F w []:=no_p
theorem all_cons {p:Pf}{l:List Pf}(h:p.says F w)(hl:AllP F w l):AllP F w (p::l):=fun q hq=>by
 rcases List.mem_cons.1 hq with rfl|hq
 ·exact h
 ·exact hl q hq
theorem sl_in {α:Type}{e:Ty α}{s:Option Addr}{k c:Nat}{x:List α}(z:(Ty.slice e).rd F w (Value.slice s k c).cells.toList x):k=x.length/\(Sl e s c x).says F w:=by
 obtain⟨ao,cap,he,h1,h2,h3⟩:=z;have:[Value.slice s k c]=[Value.slice ao x.length cap]:=he;simp at this;obtain⟨rfl,rfl,rfl⟩:=this;exact⟨rfl,h1,h2,h3⟩
end
end Go.GX
namespace Go.Proofs.YtojfbbggnkijeaaGreatDoor
open Go Go.RowKit Go.RR Go.RX Go.GX Go.Api
theorem cv_int:Conv Tryz.prog 3 Ty.int I64:=conv_int Tryz.underlying3
theorem cv_byte:Conv Tryz.prog 5 Ty.byte (fun x=>0<=x/\x<=255):=conv_byte Tryz.underlying5
theorem cv_ints:Conv Tryz.prog 30 (Ty.slice Ty.int) (fun l=>∀x∈l,I64 x):=conv_slice (et:=3) Tryz.underlying30 (by kernel_rfl) (by decide) cv_int
theorem cv_bytes:Conv Tryz.prog 22 (Ty.slice Ty.byte) (fun l=>∀x∈l,(fun x=>0<=x/\x<=255) x):=conv_slice (et:=5) Tryz.underlying22 (by kernel_rfl) (by decide) cv_byte
end Go.Proofs.YtojfbbggnkijeaaGreatDoor
namespace Go.GX
open Go Go.RowKit Go.RR Go.RX Go.Api
section
variable {n:Nat} {env:Env} {b:Base} {ps:List Pf} {hp:List Res} {K:Act->World->Prop}
theorem addPs {qs:List Pf}(hq:∀F w,AllP F w ps->AllP F w qs)(h:G n env b (qs++ps) hp K):G n env b ps hp K:=by
 constructor;rintro w ⟨F,s⟩;refine h.run w ⟨F,s.upd,s.lt,s.old,fun p hp=>?_,s.rs,s.apF,s.apart,s.on⟩
 rcases List.mem_append.1 hp with hp|hp
 ·exact hq F w s.fs p hp
 ·exact s.fs p hp
theorem slice_rd {α:Type}{e:Ty α}{F:Nat->Prop}{w:World}{cs:List Value}{xs:List α}(h:(Ty.slice e).rd F w cs xs):∃ao cap,cs=[.slice ao xs.length cap]/\(Sl e ao cap xs).says F w:=by
 obtain⟨ao,cap,h1,h2⟩:=h;exact⟨ao,cap,h1,h2⟩
theorem opRTg (cs:List Value){t:RTg}[hf:FAg cs ps tyRTg t](h:∀aC cC aG cG aU cU,cs=[.slice aC t.classes.length cC,.slice aG t.globals.length cG,.slice aU t.units.length cU,.int .i64 t.main]->G n env b (Sl tyLayout aC cC t.classes::Sl Ty.int aG cG t.globals::Sl tyUnt aU cU t.units::ps) hp K):G n env b ps hp K:=by
 constructor;rintro w ⟨F,s⟩;obtain⟨c1,r1,e1,h1,c2,r2,e2,h2,c3,r3,e3,h3,c4,r4,e4,h4,h5⟩:tyRTg.rd F w cs t:=s.fs _ hf.mem;obtain⟨aC,cC,rfl,k1⟩:=slice_rd h1;obtain⟨aG,cG,rfl,k2⟩:=slice_rd h2;obtain⟨aU,cU,rfl,k3⟩:=slice_rd h3;have h4:c4=[.int .i64 t.main]:=h4;have h5:r4=[]:=h5;refine (h aC cC aG cG aU cU (by rw[e1,e2,e3,e4,h4,h5];rfl)).run w ⟨F,s.upd,s.lt,s.old,fun p hp=>?_,s.rs,s.apF,s.apart,s.on⟩
 rcases List.mem_cons.1 hp with rfl|hp
 ·exact k1
 rcases List.mem_cons.1 hp with rfl|hp
 ·exact k2
 rcases List.mem_cons.1 hp with rfl|hp
 ·exact k3
 ·exact s.fs p hp
theorem opUnt (cs:List Value){u:Unt}[hf:FAg cs ps tyUnt u](h:∀aV cV aT cT aO cO aI cI,cs=[.int .i64 u.params,.slice aV u.vars.length cV,.int .i64 u.result,.slice aT u.takes.length cT,.slice aO u.owns.length cO,.slice aI u.ins.length cI]->G n env b (Sl Ty.int aV cV u.vars::Sl Ty.int aT cT u.takes::Sl tyIns aI cI u.ins::ps) hp K):G n env b ps hp K:=by
 constructor;rintro w ⟨F,s⟩;obtain⟨c1,r1,e1,h1,c2,r2,e2,h2,c3,r3,e3,h3,c4,r4,e4,h4,c5,r5,e5,h5,c6,r6,e6,h6,h7⟩:tyUnt.rd F w cs u:=s.fs _ hf.mem;have h1:c1=[.int .i64 u.params]:=h1;obtain⟨aV,cV,rfl,k2⟩:=slice_rd h2;have h3:c3=[.int .i64 u.result]:=h3;obtain⟨aT,cT,rfl,k4⟩:=slice_rd h4;obtain⟨aO,cO,rfl,k5⟩:=slice_rd h5;obtain⟨aI,cI,rfl,k6⟩:=slice_rd h6;have h7:r6=[]:=h7;refine (h aV cV aT cT aO cO aI cI (by rw[e1,e2,e3,e4,e5,e6,h1,h3,h7];rfl)).run w ⟨F,s.upd,s.lt,s.old,fun p hp=>?_,s.rs,s.apF,s.apart,s.on⟩
 rcases List.mem_cons.1 hp with rfl|hp
 ·exact k2
 rcases List.mem_cons.1 hp with rfl|hp
 ·exact k4
 rcases List.mem_cons.1 hp with rfl|hp
 ·exact k6
 ·exact s.fs p hp
end
end Go.GX
namespace Go.GX
open Go Go.RowKit Go.RR Go.RX
def Ty.ref:Ty (Option Nat):=⟨1,fun _ _ cs x=>cs=[.pointer (x.map fun b=>⟨b,0,none⟩)],fun h=>by rw[h];rfl,fun h c hc=>by rw[h] at hc;simp at hc;subst hc;rfl,fun h _ _=>h⟩
instance {ps:List Pf}(x:Nat):Rds ps (.pointer (some ⟨x,0,none⟩)) Ty.ref (some x):=⟨.of (fun F w _=>rfl)⟩
section
variable {P:Program} {n:Nat} {env:Env} {b:Base} {ps:List Pf} {hp:List Res} {Q:Exit->Act->World->Prop} {K:Act->World->Prop}
theorem frzC (bl i:Nat){α:Type}(e:Ty α)(y:α){t:TypeId}{vs:List Value}{v:Value}{rest:List Res}[hf:FRow bl hp t vs rest](h:G n env b (Pt e bl i y::ps) rest K)(hv:vs[i]?=some v:=by exact rfl)(hc:v.cells.toList=[v]:=by exact rfl)(hr:Reads ps v e y:=by first|exact Go.GX.Rds.r):G n env b ps hp K:=
 frz_stA hf.p (fun F w h1 h2=>by
  have hrow:Row w bl t vs:=h2;have hd:e.rd F w v.cells.toList y:=hr.as F w h1;rw[hc] at hd;refine⟨.inr rfl,hrow.lt,[v],fun j c hj=>?_,e.move hd (fun _ _ h=>.inl h) (Agree.refl _ _)⟩
  cases j with
  |zero=>simp at hj;subst hj;exact hrow.cell_some hv
  |succ j=>simp at hj) h
end
end Go.GX
namespace Go.Proofs.YtojfbbggnkijeaaGreatDoor
open Go Go.RR Go.RX Go.GX Go.Api Go.RiseM Go.ReachM Go.RtM Go.LivM Go.FlowM
def LastG:Option (Nat×List Api.State)->Pf
 |none=>Ag Ty.unit [] ()
 |some q=>Pt (Ty.slice tyState) q.1 21 q.2
section
variable {n:Nat} {env:Env} {b:Base} {ps:List Pf} {hp:List Res} {K:Act->World->Prop}
theorem lastN (h:G n env b (LastG none::ps) hp K):G n env b ps hp K:=GX.addPs (qs:=[LastG none]) (fun F w _ p hp=>by
 rw[List.mem_singleton] at hp;subst hp;exact (rfl:([]:List Value)=[])) h
theorem lastS (p:Nat)(S:List Api.State)(hm:Pt (Ty.slice tyState) p 21 S∈ps)(h:G n env b (LastG (some (p,S))::ps) hp K):G n env b ps hp K:=GX.addPs (qs:=[LastG (some (p,S))]) (fun F w ha q hq=>by
 rw[List.mem_singleton] at hq;subst hq;exact ha _ hm) h
end
attribute [local irreducible] wpList Code.wp wpPlan Exit.then Exit.inBlock bodyPost NoPanic Went GX.Post Again Meet RowR GX.Own Owns Box Sl Pt Ag MapR Kept Pin wpT GoK AtEnd Both
theorem out_le (t:RTg)(k:Int):(out t k).length<=t.classes.length:=by
 unfold out;split
 ·unfold outOf;refine Nat.le_trans (List.length_filter_le _ _) ?_;rw[<- flds_len];exact fromL_len _ _
 ·simp
theorem outs_len (t:RTg):(outs t).length=t.units.length:=by simp[outs]
structure Good (t:RTg)(k:Int)(u:Unt)(S:List Api.State):Prop where
 snd:GuaM.Snd u S
 done:∀i,GuaM.Done t k u S i
 cov:GuaM.Cov S 0 [] []
theorem Good.acc {t:RTg}{k:Int}{u:Unt}{S:List Api.State}(h:Good t k u S):GuaM.AccU t k u:=GuaM.acc_of_done h.cov h.done
def Accs (t:RTg)(n:Nat):Prop:=∀(k:Nat) u,k<n->t.units[k]?=some u->GuaM.AccU t (k:Int) u
instance:UTy Tryz.prog 144 Ty.ref none (.pointer none):=⟨Tryz.zeroValue144,fun _ _=>rfl⟩
structure LkS where
 i:Nat
 ao:Option Addr
 cap:Nat
 ps:List (Option Nat)
 last:Option (Nat×List Api.State)
structure LkI (t:RTg)(s:LkS):Prop where
 le:s.i<=t.units.length
 len:s.ps.length=s.i
 acc:Accs t s.i
 one:s.i=1->∃p S u,s.ps=[some p]/\s.last=some (p,S)/\t.units[0]?=some u/\Good t 0 u S
structure LookR (t:RTg) where
 v:Value
 s:LkS
 res:(v=.slice none 0 0/\¬ Accs t t.units.length)\/∃g,v=.slice (some ⟨g,0,none⟩) s.ps.length s.cap/\s.ao=some ⟨g,0,none⟩/\LkI t s/\s.i=t.units.length
set_option maxHeartbeats 4000000 in
theorem look_spec (cs:List Value)(t:RTg)(hs:Small t)(hn:t.units≠[])(hn2:t.units.length<=1000)(hu:∀u∈t.units,UnW t u):
  Does Tryz.prog 24 [.agg cs.toArray] [Ag tyRTg cs t] [] (fun s:LookR t=>s.v) (fun s=>[Sl Ty.ref s.s.ao s.s.cap s.s.ps,LastG s.s.last]) (fun _=>[]):=by
 refine enter Tryz.func24 rfl Tryz.ntmps24 rfl fun b=>?_;have hol:=outs_len t;refine w_ ?_;intros;refine nmP 1 ?_;rintro b1 rfl;refine nmS 12 ?_;rintro aN cN rfl rfl;refine GX.ownNil 30 (Ty.slice Ty.int) ?_;refine GX.loop (σ:=Nat×Option Addr×Nat) (fun s=>[(1,.pointer (some ⟨b1,0,none⟩)),(3,.slice none 0 0),(4,.slice s.2.1 ((outs t).take s.1).length s.2.2),(13,.int .i64 (t.units.length:Int)),(14,.int .i64 (s.1:Int))]) (fun _=>[])
  (fun s=>[GX.Own 30 (Ty.slice Ty.int) s.2.1 s.2.2 ((outs t).take s.1)]) (fun s=>s.1<=t.units.length) (fun s=>t.units.length-s.1) (0,none,0) ⟨rfl,rfl,rfl,rfl,rfl,trivial⟩ (by simp) (fun s hs2=>?_)
 obtain⟨i,aF,cF⟩:=s;dsimp only at *;have htl:((outs t).take i).length=i:=by rw[List.length_take];omega
 by_cases hlt:i<t.units.length
 ·have e:(outs t).take i++[out t (i:Int)]=(outs t).take (i+1):=by rw[List.take_add_one,outs_get hlt];rfl
  refine w_ ?_;intros;refine nmA 18 ?_;rintro c18 rfl;refine GX.o (cl (out_spec c18 t hs (i:Int)) fun s=>?_);refine w_ ?_;intros;rw[e];refine nmS 22 ?_;rintro a3 c3 rfl rfl;exact again (i+1,a3,c3) ⟨rfl,rfl,rfl,rfl,rfl,trivial⟩ (by dsimp only;omega) (by dsimp only;omega)
 rw[List.take_of_length_le (by omega)];refine frz aF ?_;refine w_ ?_;intros;refine nmA 24 ?_;rintro c24 rfl;refine GX.o (cl (global_spec c24 t hs) fun s=>?_);obtain⟨aL,cL⟩:=s;dsimp only;refine w_ ?_;intros;refine nmS 27 ?_;rintro aU cU rfl rfl;refine GX.ownNil 144 Ty.ref ?_;refine lastN ?_;refine GX.loop (σ:=LkS) (fun s=>[(1,.pointer (some ⟨b1,0,none⟩)),(3,.slice s.ao s.ps.length s.cap),(4,.slice aF (outs t).length cF),(6,.slice aL (glob t).length cL),(27,.slice aU t.units.length cU),(28,.int .i64 (t.units.length:Int)),(29,.int .i64 (s.i:Int))]) (fun s=>[LastG s.last])
  (fun s=>[GX.Own 144 Ty.ref s.ao s.cap s.ps]) (fun s=>LkI t s) (fun s=>t.units.length-s.i) ⟨0,none,0,[],none⟩ ⟨rfl,rfl,rfl,rfl,rfl,rfl,rfl,trivial⟩ ⟨by simp,rfl,(fun k u hk=>absurd hk (Nat.not_lt_zero _)),(fun h=>by cases h)⟩ (fun s hI=>?_)
 obtain⟨i,ao,cap,ps,last⟩:=s;have hle:=hI.le;have hpl:=hI.len;dsimp only at hle hpl ⊢;by_cases hlt:i<t.units.length
 ·obtain⟨u,hu1⟩:=get_lt hlt;have hU:=hu u (List.mem_of_getElem? hu1);have hoi:=outs_get hlt;refine w_ ?_ 3;intros;apply GX.region;refine w_ ?_ 3;intros;apply GX.region;refine w_ ?_ 3;intros;refine nmP 8 ?_;rintro b8 rfl;refine frzB b8 ?_;apply GX.region;refine w_ ?_ 3;intros;have hil2:=hU.ins;have hgl:=Nat.le_trans hU.glob (show 100000<=400000 by omega);have hol2:(out t (i:Int)).length<=400000:=by have:=out_le t (i:Int);have:=hU.cls;omega
  generalize hkk:(i:Int)=k at hoi ⊢;refine GX.cut (σ:=GV×Nat) (fun p=>[(1,.pointer (some ⟨b1,0,none⟩)),(3,.slice ao ps.length cap),(4,.slice aF (outs t).length cF),(6,.slice aL (glob t).length cL),(27,.slice aU t.units.length cU),(28,.int .i64 (t.units.length:Int)),(29,.int .i64 k),(10,.pointer (some ⟨p.2,0,none⟩))]) (fun p=>[Sl tyUnt p.1.aU p.1.cU t.units,Sl Ty.int p.1.aV p.1.cV u.vars,Sl Ty.int p.1.aT p.1.cT u.takes,Sl tyIns p.1.aI p.1.cI u.ins,Sl tyIns p.1.aJ p.1.cJ u.ins,Sl (Ty.slice Ty.int) p.1.aF p.1.cF (flds t),Sl Ty.int p.1.aS p.1.cS (GuaM.both (glob t) (out t k)),Sl Ty.int p.1.aL p.1.cL (glob t),Sl (Ty.slice Ty.int) p.1.aX p.1.cX (outs t)])
   (fun p=>[RowR p.2 151 (gcl t u k p.1 (.slice none 0 0)),GX.Own 238 tyState (some ⟨p.1.st,0,none⟩) u.ins.length (List.replicate u.ins.length ⟨false,[],[]⟩),GX.Own 4 Ty.bool (some ⟨p.1.wt,0,none⟩) u.ins.length (List.replicate u.ins.length false),GX.Own 144 Ty.ref ao cap ps]) (fun _=>True) ?_ (fun p _=>?_)
  ·subst hkk;refine GX.drawnT (fun j=>!(List.contains [] j)) (.br [(0,true),(1,true),(2,true),(4,true),(5,true),(6,true),(7,true),(8,true),(10,true),(11,true),(12,true),(13,true),(14,true),(15,true),(17,true)] (.alt 3 (.br [] (.alt 9 (.br [] (.alt 16 (.lin [(18,false),(19,true),(20,false),(21,true)]) (.alt 18 (.lin [(16,false),(19,true),(20,false),(21,true)]) .nil))) (.alt 16 (.br [] (.alt 9 (.lin [(18,false),(19,true),(20,false),(21,true)]) (.alt 18 (.lin [(9,false),(19,true),(20,false),(21,true)]) .nil))) (.alt 18 (.br [] (.alt 9 (.lin [(16,false),(19,true),(20,false),(21,true)]) (.alt 16 (.lin [(9,false),(19,true),(20,false),(21,true)]) .nil))) .nil)))) (.alt 16 (.br [] (.alt 3 (.br [] (.alt 9 (.lin [(18,false),(19,true),(20,false),(21,true)]) (.alt 18 (.lin [(9,false),(19,true),(20,false),(21,true)]) .nil))) (.alt 18 (.lin [(3,false),(9,false),(19,true),(20,false),(21,true)]) .nil))) (.alt 18 (.br [] (.alt 3 (.br [] (.alt 9 (.lin [(16,false),(19,true),(20,false),(21,true)]) (.alt 16 (.lin [(9,false),(19,true),(20,false),(21,true)]) .nil))) (.alt 16 (.lin [(3,false),(9,false),(19,true),(20,false),(21,true)]) .nil))) .nil)))) (by kernel_rfl) (by kernel_rfl) ?_;intro wd F hW hR;refine u_ ?_;intros;refine nmA 37 ?_;rintro c37 rfl;refine nmA 38 ?_;rintro c38 rfl;refine nmA 39 ?_;rintro c39 rfl;refine nmS 45 ?_;rintro a45 c45 rfl rfl;refine nmS 50 ?_;rintro aJ cJ rfl rfl;refine opRTg c37 fun aC cC aG cG aU2 cU2 e37=>?_;subst e37;refine opUnt c38 fun aV cV aT cT aO cO aI cI e38=>?_;subst e38
   repeat' first
    |(refine GX.treeA ?_ ?_<;>(refine u_ ?_;intros))
    |(refine gok ?_;refine (cl (fields_spec c39 t hs) fun s=>?_);obtain⟨_,_⟩:=s;dsimp only;refine u_ ?_;intros)
    |(refine gok ?_;refine (cl (both_spec aL a45 cL c45 (glob t) (out t (i:Int)) hgl hol2) fun s=>?_);obtain⟨_,_⟩:=s;dsimp only;refine u_ ?_;intros)
    |(refine GX.gow ?_;refine (cl (fields_spec c39 t hs) fun s=>?_);obtain⟨_,_⟩:=s;dsimp only;refine u_ ?_;intros)
    |(refine GX.gow ?_;refine (cl (both_spec aL a45 cL c45 (glob t) (out t (i:Int)) hgl hol2) fun s=>?_);obtain⟨_,_⟩:=s;dsimp only;refine u_ ?_;intros)
   all_goals
    refine w_ ?_;intros;refine nmS 40 ?_;rintro a40 c40 rfl rfl;refine nmS 46 ?_;rintro a46 c46 rfl rfl;refine nmB 53 ?_;rintro b53 rfl;refine nmB 55 ?_;rintro b55 rfl;refine nmP 10 ?_;rintro b10 rfl;exact meet (⟨aC,cC,aG,cG,aU2,cU2,aV,cV,aT,cT,aO,cO,aI,cI,aJ,cJ,a40,c40,a46,c46,aL,cL,aF,cF,b53,b55⟩,b10) ⟨rfl,rfl,rfl,rfl,rfl,rfl,rfl,rfl,trivial⟩ trivial
  subst hkk;obtain⟨v,bl⟩:=p;dsimp only;refine GX.ownNil 3 Ty.int ?_;refine w_ ?_;intros;refine GX.o (cl (ggoes_spec bl v t u (i:Int) hs hU) fun s=>?_);obtain⟨q,r,no,yes⟩:=s;dsimp only
  cases r with
  |false=>
   refine w_ ?_;intros;refine slNil Ty.ref ?_;exact rt1 ⟨_,⟨0,none,0,[],none⟩,.inl ⟨rfl,fun h=>no rfl (h i u hlt hu1)⟩⟩ rfl
  |true=>
   obtain⟨y1,y2,y3⟩:=yes rfl;refine frz (some ⟨v.st,0,none⟩) ?_;refine frzC bl 21 (Ty.slice tyState) q.S (v:=.slice (some ⟨v.st,0,none⟩) u.ins.length u.ins.length) ?_ (hr:=.slice y1.len.symm);refine lastS bl q.S (by simp) ?_;refine w_ ?_;intros;refine nmS 64 ?_;rintro a64 c64 rfl rfl;refine again ⟨i+1,a64,c64,ps++[some bl],some (bl,q.S)⟩ ⟨rfl,rfl,rfl,rfl,rfl,rfl,rfl,trivial⟩ ⟨by dsimp only;omega,by simp[hpl],fun k u' hk hu'=>?_,fun h1=>?_⟩ (by dsimp only;omega)
   ·rcases Nat.lt_succ_iff_lt_or_eq.1 hk with hk|hk
    ·exact hI.acc k u' hk hu'
    ·subst hk;rw[hu1] at hu';cases hu';exact GuaM.acc_of_done y3 y2
   ·dsimp only at h1;have:i=0:=by omega
    subst this;have hp0:ps=[]:=List.length_eq_zero_iff.1 hpl;subst hp0;exact⟨bl,q.S,u,rfl,rfl,hu1,⟨y1,y2,y3⟩⟩
 ·have hil:i=t.units.length:=by omega
  subst hil;have hne:0<t.units.length:=List.length_pos_iff.2 hn;refine GX.opn ao fun _ _ h3=>?_;obtain⟨h3,_⟩|⟨g,rfl⟩:=h3
  ·subst h3;rw[List.length_nil] at hpl;omega
  refine frz (some ⟨g,0,none⟩) ?_;refine w_ ?_;intros;exact rt1 ⟨_,⟨t.units.length,some ⟨g,0,none⟩,cap,ps,last⟩,.inr ⟨g,rfl,rfl,hI,rfl⟩⟩ rfl
end Go.Proofs.YtojfbbggnkijeaaGreatDoor
namespace Go.GX
open Go Go.RowKit Go.RR Go.RX
section
variable {P:Program} {n:Nat} {env:Env} {b:Base} {ps:List Pf} {hp:List Res} {Q:Exit->Act->World->Prop} {K:Act->World->Prop}
theorem nesl {d:Nat}{ty:TypeId}{pos:String}{aft:Array Edge}{gd:Option (Nat×Bool)}{t t' e:TypeId}{x y:Operand}{ao:Option Addr}{len cap:Nat}[h0:USlice P t e](h:G n ((d,.bool (!ao.isNone))::env) b ps hp K)(hx:ev env x=some (.slice ao len cap):=by exact rfl)(hy:ev env y=some (.slice none 0 0):=by exact rfl)(hd:Nat.blt d n=true:=by exact rfl):
  GO P n env b ps hp ⟨some d,.binOp .neq t x y t',ty,pos,aft,gd⟩ K Q:=rd1 (fun a ha o ho w _=>by
 simp only[execOp,ho,ha.ev hx,ha.ev hy];simp[eqGuard,run_binNeq (P:=P) (t:=t) (x:=.slice ao len cap) (y:=.slice none 0 0) (b:=ao.isNone) (by cases ao<;>rfl) (fun d w=>by cases ao<;>simp[Op.equalIn,run_underlying h0.u])]) hd h
end
end Go.GX
namespace Go.Proofs.YtojfbbggnkijeaaGreatDoor
open Go Go.RR Go.RX Go.GX Go.Api Go.RiseM Go.ReachM Go.RtM Go.LivM Go.FlowM
attribute [local irreducible] wpList Code.wp wpPlan Exit.then Exit.inBlock bodyPost NoPanic Went GX.Post Again Meet RowR GX.Own Owns Box Sl Pt Ag MapR Kept Pin wpT GoK AtEnd Both
def AccT (t:RTg):Prop:=RightP t/\Accs t t.units.length
noncomputable instance decAccT (t:RTg):Decidable (AccT t):=Classical.propDecidable _
theorem accepts_spec (cs:List Value)(t:RTg)(hs:Small t)(hn:t.units.length<=1000)(hU:RightP t->∀u∈t.units,UnW t u):Does Tryz.prog 10 [.agg cs.toArray] [Ag tyRTg cs t] [] (fun _:Unit=>.bool (decide (AccT t))) (fun _=>[]) (fun _=>[]):=by
 refine enter Tryz.func10 rfl Tryz.ntmps10 rfl fun b=>?_;refine w_ ?_;intros;refine nmA 3 ?_;rintro c3 rfl;refine GX.o (cl (right_spec c3 t hs) fun _=>?_);by_cases hR:RightP t
 ·refine w_ ?_;intros;refine nmA 6 ?_;rintro c6 rfl;have h0:=hR.1.2.2.1;refine GX.o (cl (look_spec c6 t hs (fun h=>h0 (by rw[h];rfl)) hn (hU hR)) fun s=>?_);obtain⟨v,s,hv⟩:=s;dsimp only
  rcases hv with ⟨rfl,h1⟩|⟨g,rfl,h1,h2,h3⟩
  ·refine GX.o (nesl ?_);refine w_ ?_;intros;exact rt1 () (vN fun h=>h1 h.2)
  ·refine GX.o (nesl ?_);refine w_ ?_;intros;exact rt1 () (vY ⟨hR,by have:=h2.acc;rw[h3] at this;exact this⟩)
 ·refine w_ ?_;intros;exact rt1 () (vN fun h=>hR h.1)
end Go.Proofs.YtojfbbggnkijeaaGreatDoor
namespace Go.Proofs.YtojfbbggnkijeaaGreatDoor
open Go Go.RR Go.RX Go.GX Go.Api
attribute [local irreducible] wpList Code.wp wpPlan Exit.then Exit.inBlock bodyPost NoPanic Went GX.Post Again Meet RowR GX.Own Owns Box Sl Pt Ag MapR Kept Pin wpT GoK AtEnd Both
theorem flag_spec (b:Bool):Does Tryz.prog 289 [.bool b] [] [] (fun _:Unit=>.int .i64 (if b=true then 1 else 0)) (fun _=>[]) (fun _=>[]):=by
 refine enter Tryz.func289 rfl Tryz.ntmps289 rfl fun _=>?_
 cases b with
 |true=>
  refine w_ ?_;intros;exact rt1 () rfl
 |false=>
  refine w_ ?_;intros;exact rt1 () rfl
theorem flg_dec (p:Prop)[Decidable p]:(if decide p=true then (1:Int) else 0)=flg p:=by unfold flg;by_cases h:p<;>simp[h]
theorem flagP_spec (p:Prop)[Decidable p]:Does Tryz.prog 289 [.bool (decide p)] [] [] (fun _:Unit=>.int .i64 (flg p)) (fun _=>[]) (fun _=>[]):=by
 have:=flag_spec (decide p);rwa[flg_dec] at this
set_option maxHeartbeats 2000000 in
theorem bin_spec (op a b:Int):Does Tryz.prog 213 [.int .i64 op,.int .i64 a,.int .i64 b] [] [] (fun _:Unit=>.tuple #[.int .i64 (bin op a b).1,.int .i64 (bin op a b).2]) (fun _=>[]) (fun _=>[]):=by
 refine enter Tryz.func213 rfl Tryz.ntmps213 rfl fun _=>?_;by_cases h14:op=14
 ·refine w_ ?_;intros;exact rt2 () (by subst h14;rfl)
 by_cases h15:op=15
 ·refine w_ ?_;intros;exact rt2 () (by subst h15;rfl)
 by_cases h16:op=16
 ·refine w_ ?_;intros;exact rt2 () (by subst h16;rfl)
 by_cases h17:op=17
 ·by_cases hb:b=0
  ·refine w_ ?_;intros;exact rt2 () (by subst h17;subst hb;rfl)
  ·have e:bin op a b=(w64 (Int.tdiv a b),0):=by unfold bin;simp[h17,hb]
   rw[e];refine w_ ?_;intros;exact rt2 () rfl
 by_cases h18:op=18
 ·by_cases hb:b=0
  ·refine w_ ?_;intros;exact rt2 () (by subst h18;subst hb;rfl)
  ·have e:bin op a b=(Int.tmod a b,0):=by unfold bin;simp[h18,hb]
   rw[e];refine w_ ?_;intros;exact rt2 () rfl
 by_cases h19:op=19
 ·have e:bin op a b=(flg (a<b),0):=by subst h19;rfl
  rw[e];refine w_ ?_;intros;refine GX.o (cl (flagP_spec (a<b)) fun _=>?_);refine w_ ?_;intros;exact rt2 () rfl
 by_cases h20:op=20
 ·have e:bin op a b=(flg (a<=b),0):=by subst h20;rfl
  rw[e];refine w_ ?_;intros;refine GX.o (cl (flagP_spec (a<=b)) fun _=>?_);refine w_ ?_;intros;exact rt2 () rfl
 by_cases h21:op=21
 ·have e:bin op a b=(flg (a=b),0):=by subst h21;rfl
  rw[e];refine w_ ?_;intros;refine GX.o (cl (flagP_spec (a=b)) fun _=>?_);refine w_ ?_;intros;exact rt2 () rfl
 by_cases h22:op=22
 ·have e:bin op a b=(flg (a≠b),0):=by subst h22;rfl
  rw[e];refine w_ ?_;intros;refine GX.o (cl (flagP_spec (a≠b)) fun _=>?_);refine w_ ?_;intros;exact rt2 () rfl
 by_cases h23:op=23
 ·by_cases ha:a=0
  ·have e:bin op a b=(0,0):=by subst h23;simp[bin,flg,ha]
   rw[e];refine w_ ?_;intros;refine GX.o (cl (flag_spec false) fun _=>?_);refine w_ ?_;intros;exact rt2 () rfl
  ·have e:bin op a b=(flg (b≠0),0):=by subst h23;simp[bin,flg,ha]
   rw[e];refine w_ ?_;intros;refine GX.o (cl (flagP_spec (b≠0)) fun _=>?_);refine w_ ?_;intros;exact rt2 () rfl
 by_cases h24:op=24
 ·by_cases ha:a=0
  ·have e:bin op a b=(flg (b≠0),0):=by subst h24;simp[bin,flg,ha]
   rw[e];refine w_ ?_;intros;refine GX.o (cl (flagP_spec (b≠0)) fun _=>?_);refine w_ ?_;intros;exact rt2 () rfl
  ·have e:bin op a b=(1,0):=by subst h24;simp[bin,flg,ha]
   rw[e];refine w_ ?_;intros;refine GX.o (cl (flag_spec true) fun _=>?_);refine w_ ?_;intros;exact rt2 () rfl
 have e:bin op a b=(0,0):=by unfold bin;simp[h14,h15,h16,h17,h18,h19,h20,h21,h22,h23,h24]
 rw[e];refine w_ ?_;intros;exact rt2 () rfl
theorem un_spec (op a:Int):Does Tryz.prog 214 [.int .i64 op,.int .i64 a] [] [] (fun _:Unit=>.int .i64 (unN op a)) (fun _=>[]) (fun _=>[]):=by
 refine enter Tryz.func214 rfl Tryz.ntmps214 rfl fun _=>?_;by_cases h12:op=12
 ·have e:unN op a=w64 (0-a):=by subst h12;simp[unN]
  rw[e];refine w_ ?_;intros;exact rt1 () rfl
 by_cases h13:op=13
 ·have e:unN op a=flg (a=0):=by subst h13;rfl
  rw[e];refine w_ ?_;intros;refine GX.o (cl (flagP_spec (a=0)) fun _=>?_);refine w_ ?_;intros;exact rt1 () rfl
 have e:unN op a=0:=by unfold unN;simp[h12,h13]
 rw[e];refine w_ ?_;intros;exact rt1 () rfl
end Go.Proofs.YtojfbbggnkijeaaGreatDoor
namespace Go.Proofs.YtojfbbggnkijeaaGreatDoor
open Go Go.RR Go.RX Go.GX Go.Api Go.RtM
attribute [local irreducible] wpList Code.wp wpPlan Exit.then Exit.inBlock bodyPost NoPanic Went GX.Post Again Meet RowR GX.Own Owns Box Sl Pt Ag MapR Star Kept Pin wpT GoK AtEnd Both
structure MK where
 aC:Option Addr
 cC:Nat
 aG:Option Addr
 cG:Nat
 aU:Option Addr
 cU:Nat
 aL:Option Addr
 cL:Nat
 tp:Nat
 gb:Nat
 om:Nat
structure MV where
 ai:Option Addr
 ni:Nat
 ci:Nat
 af:Option Addr
 nf:Nat
 cf:Nat
 bound:Int
 en:Int
 code:Int
 ao:Option Addr
 no:Nat
 co:Nat
 steps:Int
 slack:Int
structure FrC where
 bl:Nat
 vb:Nat
 n:Nat
 mb:Nat
 mp:Int->Option Value
noncomputable abbrev mrw (t:RTg)(k:MK)(v:MV):List Value:=[.slice k.aC t.classes.length k.cC,.slice k.aG t.globals.length k.cG,.slice k.aU t.units.length k.cU,.int .i64 t.main,.slice k.aL (glob t).length k.cL,.pointer (some ⟨k.tp,0,none⟩),.int .i64 1,.slice v.ai v.ni v.ci,.slice (some ⟨k.gb,0,none⟩) t.globals.length t.globals.length,.slice v.af v.nf v.cf,.int .i64 v.bound,.map (some k.om),.int .i64 v.en,.int .i64 v.code,.slice v.ao v.no v.co,.int .i64 v.steps,.int .i64 0,.int .i64 0,.int .i64 0,.int .i64 0,.int .i64 v.slack,.int .i64 0]
abbrev mfr (x:FrC)(f:Fr):List Value:=[.int .i64 f.u,.int .i64 f.pc,.slice (some ⟨x.vb,0,none⟩) x.n x.n,.int .i64 f.into,.map (some x.mb)]
def trapV (v:MV)(c:Int):MV:=if c=0 then v else if c=-1 then {v with en:=4,code:=0} else {v with en:=2,code:=c}
theorem ends_spec (t:RTg)(p:Nat)(k:MK)(v:MV)(e c:Int):Does Tryz.prog 147 [.pointer (some ⟨p,0,none⟩),.int .i64 e,.int .i64 c] [] [RowR p 159 (mrw t k v)]
  (fun _:Unit=>.tuple #[]) (fun _=>[]) (fun _=>[RowR p 159 (mrw t k ({ v with en:=e,code:=c}:MV))]):=by
 refine enter Tryz.func147 rfl Tryz.ntmps147 rfl fun _=>?_;refine w_ ?_;intros;exact en0 ()
theorem trap_spec (t:RTg)(p:Nat)(k:MK)(v:MV)(c:Int):Does Tryz.prog 216 [.pointer (some ⟨p,0,none⟩),.int .i64 c] [] [RowR p 159 (mrw t k v)]
  (fun _:Unit=>.bool (decide (c≠0))) (fun _=>[]) (fun _=>[RowR p 159 (mrw t k (trapV v c))]):=by
 refine enter Tryz.func216 rfl Tryz.ntmps216 rfl fun _=>?_;by_cases h0:c=0
 ·rw[show trapV v c=v from if_pos h0];refine w_ ?_;intros;exact rt1 () (vN fun h=>h h0)
 by_cases h1:c=-1
 ·rw[show trapV v c={v with en:=4,code:=0} by unfold trapV;rw[if_neg h0,if_pos h1]];refine w_ ?_;intros;refine GX.o (cl (ends_spec t p k v 4 0) fun _=>?_);refine w_ ?_;intros;exact rt1 () (vY h0)
 ·rw[show trapV v c={v with en:=2,code:=c} by unfold trapV;rw[if_neg h0,if_neg h1]];refine w_ ?_;intros;refine GX.o (cl (ends_spec t p k v 2 c) fun _=>?_);refine w_ ?_;intros;exact rt1 () (vY h0)
theorem top_spec (t:RTg)(p:Nat)(k:MK)(v:MV)(l:List (Option Addr))(x:Option Addr)(hn:v.nf=l.length+1)(hb:l.length<=1000):Does Tryz.prog 148 [.pointer (some ⟨p,0,none⟩)] [] [RowR p 159 (mrw t k v),GX.Own 161 Ty.ptr v.af v.cf (l++[x])]
  (fun _:Unit=>.pointer x) (fun _=>[]) (fun _=>[RowR p 159 (mrw t k v),GX.Own 161 Ty.ptr v.af v.cf (l++[x])]):=by
 refine enter Tryz.func148 rfl Tryz.ntmps148 rfl fun _=>?_;have hx:(l++[x])[l.length]?=some x:=by simp
 have hl:(l++[x]).length=l.length+1:=by simp
 refine GX.opn v.af fun _ _ ha=>?_;obtain⟨h9,_⟩|⟨g,hg⟩:=ha
 ·simp at h9
 dsimp only[mrw];rw[hg,hn];refine w_ ?_;intros;refine drawn2 (RowR p 159 _) (GX.Own 161 Ty.ptr (some ⟨g,0,none⟩) v.cf (l++[x])) (fun j=>!(List.contains [] j)) [(0,true),(1,true),(2,true),(3,true),(4,true),(5,true),(6,true),(7,true),(8,true),(9,true),(10,true),(11,true),(12,true)] rfl (by kernel_rfl) (by kernel_rfl) sA ?_;intro wd F hW hR;refine u_ ?_;intros;refine unpin (RowR p 159 _) ?_;refine unpin (GX.Own 161 Ty.ptr (some ⟨g,0,none⟩) v.cf (l++[x])) ?_;refine w_ ?_;intros;exact rt1 () rfl
theorem v_spec (t:RTg)(p:Nat)(k:MK)(v:MV)(l:List (Option Addr))(x:FrC)(f:Fr)(i:Nat)(y:Int)(hn:v.nf=l.length+1)(hb:l.length<=1000)(hy:f.vars[i]?=some y)(hl:f.vars.length=x.n):
  Does Tryz.prog 211 [.pointer (some ⟨p,0,none⟩),.int .i64 (i:Int)] [] [RowR p 159 (mrw t k v),GX.Own 161 Ty.ptr v.af v.cf (l++[some ⟨x.bl,0,none⟩]),RowR x.bl 255 (mfr x f),GX.Own 3 Ty.int (some ⟨x.vb,0,none⟩) x.n f.vars]
  (fun _:Unit=>.int .i64 y) (fun _=>[]) (fun _=>[RowR p 159 (mrw t k v),GX.Own 161 Ty.ptr v.af v.cf (l++[some ⟨x.bl,0,none⟩]),RowR x.bl 255 (mfr x f),GX.Own 3 Ty.int (some ⟨x.vb,0,none⟩) x.n f.vars]):=by
 refine enter Tryz.func211 rfl Tryz.ntmps211 rfl fun _=>?_;refine w_ ?_;intros;refine GX.o (cl (top_spec t p k v l _ hn hb) fun _=>?_);refine w_ ?_;intros;exact rt1 () rfl
theorem set_spec (t:RTg)(p:Nat)(k:MK)(v:MV)(l:List (Option Addr))(x:FrC)(f:Fr)(i:Nat)(y:Int)(hn:v.nf=l.length+1)(hb:l.length<=1000)(hi:i<x.n)(hl:f.vars.length=x.n):
  Does Tryz.prog 210 [.pointer (some ⟨p,0,none⟩),.int .i64 (i:Int),.int .i64 y] [] [RowR p 159 (mrw t k v),GX.Own 161 Ty.ptr v.af v.cf (l++[some ⟨x.bl,0,none⟩]),RowR x.bl 255 (mfr x f),GX.Own 3 Ty.int (some ⟨x.vb,0,none⟩) x.n f.vars]
  (fun _:Unit=>.tuple #[]) (fun _=>[]) (fun _=>[RowR p 159 (mrw t k v),GX.Own 161 Ty.ptr v.af v.cf (l++[some ⟨x.bl,0,none⟩]),RowR x.bl 255 (mfr x f),GX.Own 3 Ty.int (some ⟨x.vb,0,none⟩) x.n (f.vars.set i y)]):=by
 refine enter Tryz.func210 rfl Tryz.ntmps210 rfl fun _=>?_;refine w_ ?_;intros;refine GX.o (cl (top_spec t p k v l _ hn hb) fun _=>?_);refine w_ ?_;intros;exact en0 ()
end Go.Proofs.YtojfbbggnkijeaaGreatDoor
namespace Go.GX
open Go Go.RowKit Go.RR Go.RX
theorem Does.to {P:Program}{f:FuncId}{args:List Value}{ps:List Pf}{hp:List Res}{σ σ':Type}{val:σ->Value}{ps':σ->List Pf}{hp':σ->List Res}{val':σ'->Value}{qs':σ'->List Pf}{hq':σ'->List Res}
  (h:Does P f args ps hp val ps' hp') (g:σ->σ') (h1:∀s,val s=val' (g s)) (h2:∀s,ps' s=qs' (g s)) (h3:∀s,hp' s=hq' (g s)):Does P f args ps hp val' qs' hq':=⟨fun w F b st=>by
 refine Calls.mono (h.run w F b st) fun e w' hR=>?_;obtain⟨s,e1,e2⟩:=hR;exact⟨g s,by rw[e1,h1],by rw[<- h2,<-h3];exact e2⟩⟩
end Go.GX
namespace Go.Proofs.YtojfbbggnkijeaaGreatDoor
open Go Go.RR Go.RX Go.GX Go.Api
attribute [local irreducible] wpList Code.wp wpPlan Exit.then Exit.inBlock bodyPost NoPanic Went GX.Post Again Meet RowR GX.Own Owns Box Sl Pt Ag
def rcT (T:Tb):RefC:=⟨none,0,T.B,none,0,T.L.map (fun q=>(q.1,none,0,q.2)),T.peak,T.most⟩
theorem rcT_row (T:Tb):(rcT T).L.map row=T.L:=by
 show (T.L.map _).map row=T.L;rw[List.map_map];exact (List.map_congr_left fun q _=>rfl).trans (List.map_id _)
abbrev TInv (c:TabC)(T:Tb):Prop:=Inv c (rcT T)
variable {c:TabC}
theorem Inv.toT {d:RefC}(h:Inv c d){T:Tb}(hB:T.B=d.B)(hL:T.L=d.L.map row)(hp:T.peak=d.peak)(hm:T.most=d.most):TInv c T:=by
 have e:=rcT_row T;refine⟨h.B.trans hB.symm,by rw[e,hL];exact h.L,?_,h.peak.trans hp.symm,?_,h.most.trans hm.symm,fun k x hx=>?_,fun q hq=>?_⟩
 ·show c.gone=(T.B.length:Int)-liveN T.B;rw[hB];exact h.gone
 ·show c.many=nowN T.B ((rcT T).L.map row);rw[e,hB,hL];exact h.many
 ·rw[e,hL];exact h.each k x hx
 ·rw[e,hL] at hq;show q.1<=(T.B.length:Int);rw[hB];exact h.reg q hq
theorem TInv.L {c:TabC}{T:Tb}(h:TInv c T):c.L.map row=T.L:=by rw[Inv.L h,rcT_row]
theorem TInv.B {c:TabC}{T:Tb}(h:TInv c T):c.R.map (·.live)=T.B:=Inv.B h
theorem TInv.len {T:Tb}(h:TInv c T):c.R.length=T.B.length/\c.L.length=T.L.length:=by
 have h1:=congrArg List.length h.B;have h2:=congrArg List.length h.L;simp at h1 h2;exact⟨h1,h2⟩
theorem TInv.zero:TInv ⟨none,0,[],none,0,[],0,0,0,0⟩ Tb.zero:=Inv.start.toT rfl rfl rfl rfl
theorem TInv.bounds {c:TabC}{T:Tb}(h:TInv c T):(0<=c.gone/\c.gone<=T.B.length)/\(0<=c.many/\c.many<=T.L.length)/\∀(k:Nat) x,c.R[k]?=some x->0<=x.many/\x.many<=T.L.length:=by
 obtain⟨h1,h2,h3⟩:=Inv.bounds h;rw[rcT_row] at h2 h3;have hl:(rcT T).L.length=T.L.length:=by show (T.L.map _).length=_;rw[List.length_map]
 rw[hl] at h2 h3;have hg:=Inv.gone h;have hm:=Inv.many h;rw[rcT_row] at hm;have h1':liveN T.B<=T.B.length:=h1;have h2':nowN T.B T.L<=T.L.length:=h2;have hg':c.gone=(T.B.length:Int)-liveN T.B:=hg;have hm':c.many=nowN T.B T.L:=hm;refine⟨⟨by omega,by omega⟩,⟨by omega,by omega⟩,fun k x hx=>?_⟩;have:=Inv.each h k x hx;rw[rcT_row] at this;have h4:=h3 k;omega
theorem tHas_spec (p:Nat){T:Tb}(h:TInv c T)(r:Int):Does Tryz.prog 222 [.pointer (some ⟨p,0,none⟩),.int .i64 r] [] [RowR p 248 (tbl c),tA c,tB c,tC c] (fun _:Unit=>.bool (hasB T.B r)) (fun _=>[]) (fun _=>[RowR p 248 (tbl c),tA c,tB c,tC c]):=by
 have:=has_spec p c r;rwa[has_B,h.B] at this
theorem tMake_spec (p:Nat){T:Tb}(h:TInv c T)(hl:T.B.length<=1000000000):Does Tryz.prog 61 [.pointer (some ⟨p,0,none⟩)] [] [RowR p 248 (tbl c),tA c,tB c,tC c] (fun _:{c':TabC // TInv c' T.make}=>.int .i64 ((T.B.length+1:Nat):Int)) (fun _=>[])
  (fun s=>[RowR p 248 (tbl s.1),tA s.1,tB s.1,tC s.1]):=by
 have hb:=h.bounds;have hn:=h.len;have hs:=make_spec p c (by omega) (by omega);have key:∀s:Option Addr×Nat,TInv (TabC.mk s.1 s.2 (c.R++[⟨true,0⟩]) c.aL c.cL c.L c.gone (max c.peak (((c.R.length+1:Nat):Int)-c.gone)) c.many c.most) T.make:=fun s=>(Inv.make h s (none,0)).toT rfl (rcT_row T).symm rfl rfl;exact hs.to (σ':={c':TabC // TInv c' T.make }) (fun s=>⟨_,key s⟩) (fun _=>by rw[hn.1]) (fun _=>rfl) (fun _=>rfl)
theorem tRem_spec (p:Nat){T:Tb}(h:TInv c T)(r:Int)(hl:T.B.length<=1000000000)(hL:T.L.length<=1000000000):Does Tryz.prog 149 [.pointer (some ⟨p,0,none⟩),.int .i64 r] [] [RowR p 248 (tbl c),tA c,tB c,tC c] (fun _:{c':TabC // TInv c' (T.rem r)}=>.bool (hasB T.B r)) (fun _=>[])
  (fun s=>[RowR p 248 (tbl s.1),tA s.1,tB s.1,tC s.1]):=by
 have hb:=h.bounds;have hn:=h.len;by_cases hr:hasB T.B r=true
 ·have e:T.rem r=⟨T.B.set (r-1).toNat false,T.L,T.peak,T.most⟩:=by unfold Tb.rem;rw[if_pos hr]
  rw[e,hr];rw[<- h.B,<-has_B] at hr;obtain⟨k,x,rfl,hk,hx⟩:=has_get hr;have hkl:=(List.getElem?_eq_some_iff.1 hk).1;have hs:=remove_yes p c k x hk hx (by omega) (by omega) (by have:=hb.2.2 k x hk;omega) (by omega);refine hs.to (fun _=>⟨_,(Inv.remove h hk hx).toT ?_ (rcT_row T).symm rfl rfl⟩) (fun _=>rfl) (fun _=>rfl) (fun _=>rfl);show T.B.set ((k:Int)+1-1).toNat false=T.B.set k false;rw[show ((k:Int)+1-1).toNat=k by omega]
 ·have hr:hasB T.B r=false:=by simpa using hr
  have e:T.rem r=T:=by unfold Tb.rem;rw[if_neg (by rw[hr];simp)]
  rw[e,hr];exact (remove_no p c r (by rw[has_B,h.B];exact hr)).to (fun _=>⟨c,h⟩) (fun _=>rfl) (fun _=>rfl) (fun _=>rfl)
theorem tAdd_spec (p:Nat){T:Tb}(h:TInv c T)(r n:Int)(hl:T.B.length<=1000000000)(hL:T.L.length<=1000000000):Does Tryz.prog 292 [.pointer (some ⟨p,0,none⟩),.int .i64 r,.int .i64 n] [] [RowR p 248 (tbl c),tA c,tB c,tC c]
  (fun _:{c':TabC // TInv c' (T.add r n)}=>.tuple #[.int .i64 (if hasB T.B r=true then ((T.L.length+1:Nat):Int) else 0),.bool (hasB T.B r)]) (fun _=>[]) (fun s=>[RowR p 248 (tbl s.1),tA s.1,tB s.1,tC s.1]):=by
 have hb:=h.bounds;have hn:=h.len;by_cases hr:hasB T.B r=true
 ·have e:T.add r n=⟨T.B,T.L++[(r,List.replicate (cells n) 0)],T.peak,max T.most (nowN T.B (T.L++[(r,List.replicate (cells n) 0)]):Int)⟩:=by unfold Tb.add;rw[if_pos hr]
  rw[e,hr,if_pos rfl];rw[<- h.B,<-has_B] at hr;obtain⟨k,x,rfl,hk,hx⟩:=has_get hr;have hkl:=(List.getElem?_eq_some_iff.1 hk).1;have hs:=add_yes p c k x n hk hx (by omega) (by have:=hb.2.2 k x hk;omega) (by omega) (by omega);have key:∀s:Nat×Option Addr×Nat,TInv (TabC.mk c.aR c.cR (c.R.set k ⟨x.live,x.many+1⟩) s.2.1 s.2.2 (c.L++[((k:Int)+1,some ⟨s.1,0,none⟩,cells n,List.replicate (cells n) 0)]) c.gone c.peak (c.many+1) (max c.most (c.many+1))) ⟨T.B,T.L++[((k:Int)+1,List.replicate (cells n) 0)],T.peak,max T.most (nowN T.B (T.L++[((k:Int)+1,List.replicate (cells n) 0)]):Int)⟩:=fun s=>by
   refine (Inv.add (m:=cells n) h hk hx s (0,none,0)).toT rfl ?_ rfl ?_
   ·show T.L++_=((rcT T).L++_).map row;rw[List.map_append,rcT_row];rfl
   ·show max T.most _=max T.most _;rw[rcT_row];rfl
  exact hs.to (fun s=>⟨_,key s⟩) (fun _=>by rw[hn.2]) (fun _=>rfl) (fun _=>rfl)
 ·have hr:hasB T.B r=false:=by simpa using hr
  have e:T.add r n=T:=by unfold Tb.add;rw[if_neg (by rw[hr];simp)]
  rw[e,hr,if_neg (by simp)];exact (add_no p c r n (by rw[has_B,h.B];exact hr)).to (fun _=>⟨c,h⟩) (fun _=>rfl) (fun _=>rfl) (fun _=>rfl)
theorem tLen_spec (p:Nat){T:Tb}(h:TInv c T)(ref:Int)(hL:T.L.length<=1000000000):Does Tryz.prog 218 [.pointer (some ⟨p,0,none⟩),.int .i64 ref] [] [RowR p 248 (tbl c),tA c,tB c,tC c]
  (fun _:Unit=>.tuple #[.int .i64 (lenP T.B T.L ref).1,.int .i64 (lenP T.B T.L ref).2]) (fun _=>[]) (fun _=>[RowR p 248 (tbl c),tA c,tB c,tC c]):=by
 have hs:=len_spec p c ref (by rw[h.len.2];exact hL);rwa[h.B,h.L] at hs
theorem tLoad_spec (p:Nat){T:Tb}(h:TInv c T)(ref i:Int)(hL:T.L.length<=1000000000):Does Tryz.prog 215 [.pointer (some ⟨p,0,none⟩),.int .i64 ref,.int .i64 i] [] [RowR p 248 (tbl c),tA c,tB c,tC c]
  (fun _:Unit=>.tuple #[.int .i64 (loadP T.B T.L ref i).1,.int .i64 (loadP T.B T.L ref i).2]) (fun _=>[]) (fun _=>[RowR p 248 (tbl c),tA c,tB c,tC c]):=by
 have hs:=load_spec p c ref i (by rw[h.len.2];exact hL);rwa[h.B,h.L] at hs
theorem tPut_spec (p:Nat){T:Tb}(h:TInv c T)(ref i v:Int)(hL:T.L.length<=1000000000):Does Tryz.prog 217 [.pointer (some ⟨p,0,none⟩),.int .i64 ref,.int .i64 i,.int .i64 v] [] [RowR p 248 (tbl c),tA c,tB c,tC c]
  (fun _:{c':TabC // TInv c' (T.put ref i v)}=>.int .i64 (loadP T.B T.L ref i).2) (fun _=>[]) (fun s=>[RowR p 248 (tbl s.1),tA s.1,tB s.1,tC s.1]):=by
 have hs:=put_spec p c ref i v (by rw[h.len.2];exact hL);have e1:loadP (c.R.map (·.live)) (c.L.map row) ref i=loadP T.B T.L ref i:=by rw[h.B,h.L]
 rw[e1] at hs;refine hs.to (fun _=>⟨_,(Inv.put h ref i v).toT rfl ?_ rfl rfl⟩) (fun _=>rfl) (fun _=>rfl) (fun _=>rfl);show (putP T.B T.L ref i v).2=(putTo (rcT T).B (rcT T).L ref i v).map row;rw[putTo_row,rcT_row];rfl
theorem tCount_spec (p:Nat){T:Tb}(h:TInv c T):Does Tryz.prog 67 [.pointer (some ⟨p,0,none⟩)] [] [RowR p 248 (tbl c),tA c,tB c,tC c] (fun _:Unit=>.tuple #[.int .i64 (T.B.length:Int),.int .i64 ((T.B.length:Int)-(liveN T.B:Int)),.int .i64 T.peak]) (fun _=>[]) (fun _=>[RowR p 248 (tbl c),tA c,tB c,tC c]):=by
 have hs:=count_spec p c;exact hs.to id (fun _=>by rw[h.len.1,show c.gone=(T.B.length:Int)-(liveN T.B:Int) from Inv.gone h,show c.peak=T.peak from Inv.peak h]) (fun _=>rfl) (fun _=>rfl)
theorem tThings_spec (p:Nat){T:Tb}(h:TInv c T):Does Tryz.prog 68 [.pointer (some ⟨p,0,none⟩)] [] [RowR p 248 (tbl c),tA c,tB c,tC c] (fun _:Unit=>.tuple #[.int .i64 c.many,.int .i64 T.most]) (fun _=>[]) (fun _=>[RowR p 248 (tbl c),tA c,tB c,tC c]):=by
 have hs:=things_spec p c;exact hs.to id (fun _=>by rw[show c.most=T.most from Inv.most h]) (fun _=>rfl) (fun _=>rfl)
end Go.Proofs.YtojfbbggnkijeaaGreatDoor
