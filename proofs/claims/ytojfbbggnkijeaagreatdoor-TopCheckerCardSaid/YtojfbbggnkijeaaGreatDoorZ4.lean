import Derived.Test.YtojfbbggnkijeaaGreatDoorZ3
set_option linter.all false
namespace Go.GX
open Go Go.RowKit Go.RR Go.RX
variable {d:Nat} {ty:TypeId} {pos:String} {aft:Array Edge} {gd:Option (Nat×Bool)}
def Kept (wd:World)(F:Nat->Prop):Pf:=
 ⟨fun F' w=>Agree F wd w/\∀k,k<wd.heap.size->F k->F' k,fun h hF ha=>
  ⟨⟨Nat.le_trans h.1.size ha.size,fun k hk hf=>(ha.block k (Nat.lt_of_lt_of_le hk h.1.size) (h.2 k hk hf)).trans (h.1.block k hk hf)⟩,fun k hk hf=>hF k (Nat.lt_of_lt_of_le hk h.1.size) (h.2 k hk hf)⟩⟩
def Pin (wd:World)(r:Res):Res:=
 ⟨r.on,fun F w=>r.says F w/\Agree r.on wd w,fun h hk=>r.inn h.1 hk,fun h hF ha hb=>⟨r.move h.1 hF ha hb,h.2.trans hb⟩⟩
abbrev SS (wd:World)(F:Nat->Prop)(hpS:List Res):World->Prop:=fun w=>Agree (fun k=>F k\/feet hpS k) wd w
section
variable {P:Program} {n:Nat} {env:Env} {b:Base} {ps psW:List Pf} {hp hpS:List Res} {Q:Exit->Act->World->Prop} {K:Act->World->Prop} {wd:World} {F:Nat->Prop} {hold:Nat->Bool}
variable {id:Nat} {l:List Oper} {rest:List Res} {F':Nat->Prop} {ops:Array Oper} {i:Nat} {r:List (Nat×Bool)} {p t:Bool}
theorem drawn {id:Nat}{l:List Oper}(hpS:List Res)(hold:Nat->Bool)(plan:List (Nat×Bool)){rest:List Res}[hm:Mixed P](hlen:Nat.beq l.length plan.length=true)(hs:Region.noSelect l.toArray=true)(hpl:planOk l.toArray hold plan (Array.replicate plan.length false)=true)
  (hl:SelR hpS hp rest) (h:∀wd F,AllP F wd ps->AllR F wd hpS->G n env b (Kept wd F::ps) (hpS.map (Pin wd)++rest) (wpPlan P l.toArray (NoPanic Q) (SS wd F hpS) hold plan)):G n env b ps hp ((Code.region id l.toArray true).wp P Q):=by
 constructor;rintro w ⟨F,s⟩;have s:=s.drew.perm hl.perm;refine RX.drawn (SS w.drew F hpS) hold plan hlen hs hpl ((h w.drew F s.fs (fun r hr=>s.rs r (by simp[hr]))).run w.drew ⟨F,s.upd,s.lt,s.old,?_,?_,?_,?_,?_⟩)
 ·intro p hp
  rcases List.mem_cons.1 hp with rfl|hp
  ·exact⟨Agree.refl _ _,fun _ _ h=>h⟩
  ·exact s.fs p hp
 ·intro r hr;rw[List.mem_append,List.mem_map] at hr
  rcases hr with ⟨r',hr',rfl⟩|hr
  ·exact⟨s.rs r' (by simp[hr']),Agree.refl _ _⟩
  ·exact s.rs r (by simp[hr])
 ·intro r hr;rw[List.mem_append,List.mem_map] at hr
  rcases hr with ⟨r',hr',rfl⟩|hr
  ·exact s.apF r' (by simp[hr'])
  ·exact s.apF r (by simp[hr])
 ·have:=List.pairwise_append.1 s.apart;refine List.pairwise_append.2 ⟨List.pairwise_map.2 (this.1.imp fun h=>h),this.2.1,fun r hr q hq=>?_⟩;obtain⟨r',hr',rfl⟩:=List.mem_map.1 hr;exact this.2.2 r' hr' q hq
 ·intro r hr;rw[List.mem_append,List.mem_map] at hr
  rcases hr with ⟨r',hr',rfl⟩|hr
  ·exact s.on r' (by simp[hr'])
  ·exact s.on r (by simp[hr])
theorem drawn0 (hold:Nat->Bool)(plan:List (Nat×Bool))[hm:Mixed P](hlen:Nat.beq l.length plan.length=true)(hs:Region.noSelect l.toArray=true)(hpl:planOk l.toArray hold plan (Array.replicate plan.length false)=true)
  (hl:SelR [] hp rest) (h:∀wd F,AllP F wd ps->AllR F wd []->G n env b (Kept wd F::ps) (rest) (wpPlan P l.toArray (NoPanic Q) (SS wd F []) hold plan)):G n env b ps hp ((Code.region id l.toArray true).wp P Q):=drawn [] hold plan hlen hs hpl hl h
theorem drawn1 (r0:Res)(hold:Nat->Bool)(plan:List (Nat×Bool))[hm:Mixed P](hlen:Nat.beq l.length plan.length=true)(hs:Region.noSelect l.toArray=true)(hpl:planOk l.toArray hold plan (Array.replicate plan.length false)=true)
  (hl:SelR [r0] hp rest) (h:∀wd F,AllP F wd ps->AllR F wd [r0]->G n env b (Kept wd F::ps) (Pin wd r0::rest) (wpPlan P l.toArray (NoPanic Q) (SS wd F [r0]) hold plan)):G n env b ps hp ((Code.region id l.toArray true).wp P Q):=drawn [r0] hold plan hlen hs hpl hl h
theorem drawn2 (r0 r1:Res)(hold:Nat->Bool)(plan:List (Nat×Bool))[hm:Mixed P](hlen:Nat.beq l.length plan.length=true)(hs:Region.noSelect l.toArray=true)(hpl:planOk l.toArray hold plan (Array.replicate plan.length false)=true)
  (hl:SelR [r0,r1] hp rest) (h:∀wd F,AllP F wd ps->AllR F wd [r0,r1]->G n env b (Kept wd F::ps) (Pin wd r0::Pin wd r1::rest) (wpPlan P l.toArray (NoPanic Q) (SS wd F [r0,r1]) hold plan)):G n env b ps hp ((Code.region id l.toArray true).wp P Q):=drawn [r0,r1] hold plan hlen hs hpl hl h
theorem drawn3 (r0 r1 r2:Res)(hold:Nat->Bool)(plan:List (Nat×Bool))[hm:Mixed P](hlen:Nat.beq l.length plan.length=true)(hs:Region.noSelect l.toArray=true)(hpl:planOk l.toArray hold plan (Array.replicate plan.length false)=true)
  (hl:SelR [r0,r1,r2] hp rest) (h:∀wd F,AllP F wd ps->AllR F wd [r0,r1,r2]->G n env b (Kept wd F::ps) (Pin wd r0::Pin wd r1::Pin wd r2::rest) (wpPlan P l.toArray (NoPanic Q) (SS wd F [r0,r1,r2]) hold plan)):G n env b ps hp ((Code.region id l.toArray true).wp P Q):=drawn [r0,r1,r2] hold plan hlen hs hpl hl h
theorem ss_of {w:World}(s:St b F' ps hp w)(h1:AllIn [Kept wd F] ps)(h2:SelR (hpS.map (Pin wd)) hp rest):SS wd F hpS w/\Agree F wd w/\∀k,k<wd.heap.size->F k->F' k:=by
 obtain⟨k1,k2⟩:(Kept wd F).says F' w:=s.fs _ (h1.sub _ (by simp));refine⟨⟨k1.size,fun k hk hf=>?_⟩,k1,k2⟩
 rcases hf with hf|⟨r,hr,hk'⟩
 ·exact k1.block k hk hf
 ·have:(Pin wd r).says F' w:=s.rs _ (h2.perm.mem_iff.2 (by simp only[List.mem_append,List.mem_map];exact .inl ⟨r,hr,rfl⟩));exact this.2.block k hk hk'
structure GT (P:Program)(n:Nat)(env:Env)(b:Base)(ps:List Pf)(hp:List Res)(o:Oper)(K:Act->World->Prop):Prop where
 run:∀w,Ok b ps hp w->TW P n env w o (fun _=>True) K
theorem tkp {S:World->Prop}{o:Oper}(h:GT P n env b ps hp o (wpPlan P ops Q S hold r))(hi:nth ops.toList i=some o:=by exact rfl)(hpu:isPure o=true:=by exact rfl)
  (hw:Wanted n env ops o true:=by first|exact Go.RX.plain rfl|exact Go.RX.guarded rfl rfl rfl (by with_reducible rfl)):G n env b ps hp (wpPlan P ops Q S hold ((i,true)::r)):=⟨fun w s=>RX.take_pure hi hw hpu (h.run w s)⟩
theorem tp1 {p:Op}{v:Value}(hr:Soft P n env (fun _=>True) p v)(hd:Nat.blt d n=true)(h:G n ((d,v)::env) b ps hp K):GT P n env b ps hp ⟨some d,p,ty,pos,aft,gd⟩ K:=⟨fun w s=>RX.tsoft hr hd (h.run w s)⟩
inductive GTR (P:Program)(n:Nat)(env:Env)(psW:List Pf)(hpS:List Res)(wd:World)(F:Nat->Prop)(b:Base)(ps:List Pf)(hp:List Res)(K:Act->World->Prop):Oper->Prop where
 | mk {d:Nat} {p:Op} {ty:TypeId} {pos:String} {aft:Array Edge} {gd:Option (Nat×Bool)} {ι:Type} {val:ι→Value} {pf:ι→List Pf} (hr:Rd P n env psW hpS p val pf) (hd:Nat.blt d n=true)
   (h:∀i,AllP F wd (pf i++psW)->G n ((d,val i)::env) b (pf i++ps) hp K):GTR P n env psW hpS wd F b ps hp K ⟨some d,p,ty,pos,aft,gd⟩
theorem GTR.v {d:Nat}{p:Op}{v:Value}(hr:RdV P n env psW hpS p v)(hd:Nat.blt d n=true)(h:G n ((d,v)::env) b ps hp K):GTR P n env psW hpS wd F b ps hp K ⟨some d,p,ty,pos,aft,gd⟩:=
 .mk (ι:=Unit) (val:=fun _=>v) (pf:=fun _=>[]) (fun F w h1 h2=>⟨(),no_p,hr F w h1 h2⟩) hd (fun _ _=>h)
theorem tkr {o:Oper}(h:GTR P n env psW hpS wd F b ps hp (wpPlan P ops Q (SS wd F hpS) hold r) o)(hW:AllP F wd psW:=by assumption)(hR:AllR F wd hpS:=by assumption)(hi:nth ops.toList i=some o:=by exact rfl)(hpu:isPure o=false:=by exact rfl)
  (hw:Wanted n env ops o true:=by first|exact Go.RX.plain rfl|exact Go.RX.guarded rfl rfl rfl (by with_reducible rfl))
  (h1:AllIn [Kept wd F] ps:=by repeat (first|apply Go.GX.AllIn.nil|apply Go.GX.AllIn.cons|(with_reducible apply Go.GX.InP.head)|apply Go.GX.InP.tail))
  (h2:SelR (hpS.map (Pin wd)) hp rest:=by repeat (first|apply Go.GX.SelR.nil|apply Go.GX.SelR.cons|(with_reducible apply Go.GX.TakeR.head)|apply Go.GX.TakeR.tail)):G n env b ps hp (wpPlan P ops Q (SS wd F hpS) hold ((i,true)::r)):=by
 constructor;rintro w ⟨F',s⟩;obtain⟨hS,hA,hF⟩:=ss_of s h1 h2
 cases h with
 |mk hr hd h=>
  obtain⟨j,e1,e2⟩:=hr F wd hW hR;have hWj:AllP F wd (_++psW):=fun q hq=>(List.mem_append.1 hq).elim (e1 q) (hW q);refine RX.take hi hw hpu hS (RX.tsoft e2 hd ((h j hWj).run w ⟨F',s.upd,s.lt,s.old,fun q hq=>?_,s.rs,s.apF,s.apart,s.on⟩))
  rcases List.mem_append.1 hq with hq|hq
  ·exact q.move (e1 q hq) hF hA
  ·exact s.fs q hq
theorem tkn {p:Op}(h:G n ((d,undef)::env) b ps hp (wpPlan P ops Q (SS wd F hpS) hold r))(hi:nth ops.toList i=some ⟨some d,p,ty,pos,aft,gd⟩:=by exact rfl)
  (hw:Wanted n env ops ⟨some d,p,ty,pos,aft,gd⟩ false:=by first|exact Go.RX.barred_t rfl rfl rfl (by with_reducible rfl)|exact Go.RX.barred_f rfl rfl rfl (by with_reducible rfl)|exact Go.RX.barred_u rfl rfl rfl (by with_reducible rfl)) (hd:Nat.blt d n=true:=by exact rfl)
  (h1:AllIn [Kept wd F] ps:=by repeat (first|apply Go.GX.AllIn.nil|apply Go.GX.AllIn.cons|(with_reducible apply Go.GX.InP.head)|apply Go.GX.InP.tail))
  (h2:SelR (hpS.map (Pin wd)) hp rest:=by repeat (first|apply Go.GX.SelR.nil|apply Go.GX.SelR.cons|(with_reducible apply Go.GX.TakeR.head)|apply Go.GX.TakeR.tail)):G n env b ps hp (wpPlan P ops Q (SS wd F hpS) hold ((i,true)::r)):=by
 constructor;rintro w ⟨F',s⟩;exact RX.take_not hi hw hd (RX.tame_of (ss_of s h1 h2).1) (h.run w ⟨F',s⟩)
theorem gow {ops:Array Oper}{S:World->Prop}{i:Nat}{r:List (Nat×Bool)}{o:Oper}(h:GO P n env b ps hp o (Went S hold i (wpPlan P ops Q S hold r)) Q)(hi:nth ops.toList i=some o:=by exact rfl)(hw:Wanted n env ops o true:=by first|exact Go.RX.plain rfl|exact Go.RX.guarded rfl rfl rfl (by with_reducible rfl)):
  G n env b ps hp (wpPlan P ops Q S hold ((i,false)::r)):=⟨fun w s=>RX.gow hi hw (h.run w s)⟩
theorem gon {S:World->Prop}{p:Op}(h:G n ((d,undef)::env) b ps hp (wpPlan P ops Q S hold r))(hi:nth ops.toList i=some ⟨some d,p,ty,pos,aft,gd⟩:=by exact rfl)
  (hw:Wanted n env ops ⟨some d,p,ty,pos,aft,gd⟩ false:=by first|exact Go.RX.barred_t rfl rfl rfl (by with_reducible rfl)|exact Go.RX.barred_f rfl rfl rfl (by with_reducible rfl)|exact Go.RX.barred_u rfl rfl rfl (by with_reducible rfl)) (hd:Nat.blt d n=true:=by exact rfl):G n env b ps hp (wpPlan P ops Q S hold ((i,false)::r)):=⟨fun w s=>RX.go_not hi hw hd (h.run w s)⟩
theorem wentF {S:World->Prop}(h:G n env b ps hp K)(hi:hold i=false:=by exact rfl):G n env b ps hp (Went S hold i K):=⟨fun w s=>RX.went_free hi (h.run w s)⟩
theorem went {i:Nat}{rest:List Res}(h:G n env b ps hp K)
  (h1:AllIn [Kept wd F] ps:=by repeat (first|apply Go.GX.AllIn.nil|apply Go.GX.AllIn.cons|(with_reducible apply Go.GX.InP.head)|apply Go.GX.InP.tail))
  (h2:SelR (hpS.map (Pin wd)) hp rest:=by repeat (first|apply Go.GX.SelR.nil|apply Go.GX.SelR.cons|(with_reducible apply Go.GX.TakeR.head)|apply Go.GX.TakeR.tail)):G n env b ps hp (Went (SS wd F hpS) hold i K):=by
 constructor;rintro w ⟨F',s⟩;exact RX.went (ss_of s h1 h2).1 (h.run w ⟨F',s⟩)
theorem done {ops:Array Oper}{S:World->Prop}(h:G n env b ps hp (Q .normal)):G n env b ps hp (wpPlan P ops (NoPanic Q) S hold []):=⟨fun w s=>RX.done (h.run w s)⟩
theorem pgt {S:World->Prop}{v:Value}{p:Prop}[Decidable p](k:G n ((d,.bool true)::env) b ps hp (wpPlan P ops Q S hold ((i,t)::r)))(hd:(nth ops.toList i).bind (gslot ops)=some d:=by exact rfl)(hp':lk env d=some v:=by exact rfl)
  (hv:v=.bool (decide p):=by with_reducible rfl) (h:p:=by first|omega|(with_reducible assumption)):G n env b ps hp (wpPlan P ops Q S hold ((i,t)::r)):=⟨fun w s=>RX.pguard_true hd hp' hv h (k.run w s)⟩
theorem pgf {S:World->Prop}{v:Value}{p:Prop}[Decidable p](k:G n ((d,.bool false)::env) b ps hp (wpPlan P ops Q S hold ((i,t)::r)))(hd:(nth ops.toList i).bind (gslot ops)=some d:=by exact rfl)(hp':lk env d=some v:=by exact rfl)
  (hv:v=.bool (decide p):=by with_reducible rfl) (h:¬ p:=by first|omega|(with_reducible assumption)):G n env b ps hp (wpPlan P ops Q S hold ((i,t)::r)):=⟨fun w s=>RX.pguard_false hd hp' hv h (k.run w s)⟩
theorem pgsb {S:World->Prop}(h1:p=true->G n ((d,.bool true)::env) b ps hp (wpPlan P ops Q S hold ((i,t)::r)))(h2:p=false->G n ((d,.bool false)::env) b ps hp (wpPlan P ops Q S hold ((i,t)::r)))
  (hd:(nth ops.toList i).bind (gslot ops)=some d:=by exact rfl) (hp':lk env d=some (.bool p):=by exact rfl):G n env b ps hp (wpPlan P ops Q S hold ((i,t)::r)):=⟨fun w s=>RX.pguard_bool hd hp' (fun h=>(h1 h).run w s) (fun h=>(h2 h).run w s)⟩
theorem pgbt {S:World->Prop}(k:G n ((d,.bool true)::env) b ps hp (wpPlan P ops Q S hold ((i,t)::r)))(hd:(nth ops.toList i).bind (gslot ops)=some d:=by exact rfl)(hp':lk env d=some (.bool p):=by exact rfl)(h:p=true:=by with_reducible assumption):G n env b ps hp (wpPlan P ops Q S hold ((i,t)::r)):=
 pgsb (fun _=>k) (fun h'=>absurd (h.symm.trans h') (by simp)) hd hp'
theorem pgbf {S:World->Prop}(k:G n ((d,.bool false)::env) b ps hp (wpPlan P ops Q S hold ((i,t)::r)))(hd:(nth ops.toList i).bind (gslot ops)=some d:=by exact rfl)(hp':lk env d=some (.bool p):=by exact rfl)(h:p=false:=by with_reducible assumption):G n env b ps hp (wpPlan P ops Q S hold ((i,t)::r)):=
 pgsb (fun h'=>absurd (h.symm.trans h') (by simp)) (fun _=>k) hd hp'
theorem unpin (r:Res)(h:G n env b ps (r::rest) K)
  (h2:TakeR (Pin wd r) hp rest:=by repeat (first|(with_reducible apply Go.GX.TakeR.head)|apply Go.GX.TakeR.tail)):G n env b ps hp K:=by
 constructor;rintro w ⟨F',s⟩;have s:=s.perm h2.perm;refine h.run w ⟨F',s.upd,s.lt,s.old,s.fs,?_,?_,?_,?_⟩
 ·intro q hq
  rcases List.mem_cons.1 hq with rfl|hq
  ·exact (s.rs (Pin wd _) List.mem_cons_self).1
  ·exact s.rs q (List.mem_cons_of_mem _ hq)
 ·intro q hq
  rcases List.mem_cons.1 hq with rfl|hq
  ·exact s.apF (Pin wd _) List.mem_cons_self
  ·exact s.apF q (List.mem_cons_of_mem _ hq)
 ·have:=List.pairwise_cons.1 s.apart;exact List.pairwise_cons.2 ⟨this.1,this.2⟩
 ·intro q hq
  rcases List.mem_cons.1 hq with rfl|hq
  ·exact s.on (Pin wd _) List.mem_cons_self
  ·exact s.on q (List.mem_cons_of_mem _ hq)
class Exact (r:Res):Prop where
 ex:∀{F F':Nat->Prop} {w w':World},r.says F w->r.says F' w'->∀k,r.on k->w'.heap[k]?=w.heap[k]?
instance (bl:Nat)(t:TypeId)(vs:List Value):Exact (RowR bl t vs):=⟨fun h h' k hk=>by
 have h:Row _ bl t vs:=h;have h':Row _ bl t vs:=h';have hk:k=bl:=hk;subst hk;unfold Row at h h';rw[h,h']⟩
class ExactL (l:List Res):Prop where
 ex:∀r∈l,Exact r
instance:ExactL []:=⟨by simp⟩
instance (r:Res)(l:List Res)[h:Exact r][hl:ExactL l]:ExactL (r::l):=⟨fun q hq=>by
 rcases List.mem_cons.1 hq with rfl|hq
 ·exact h
 ·exact hl.ex q hq⟩
theorem ssE_of {w:World}[he:ExactL hpS](s:St b F' ps hp w)(h1:AllIn [Kept wd F] ps)(h2:SelR hpS hp rest)(hR:AllR F wd hpS):SS wd F hpS w/\Agree F wd w/\∀k,k<wd.heap.size->F k->F' k:=by
 obtain⟨k1,k2⟩:(Kept wd F).says F' w:=s.fs _ (h1.sub _ (by simp));refine⟨⟨k1.size,fun k hk hf=>?_⟩,k1,k2⟩
 rcases hf with hf|⟨r,hr,hk'⟩
 ·exact k1.block k hk hf
 ·exact (he.ex r hr).ex (hR r hr) (s.rs r (h2.perm.mem_iff.2 (List.mem_append_left _ hr))) k hk'
theorem tkrE {o:Oper}(h:GTR P n env psW hpS wd F b ps hp (wpPlan P ops Q (SS wd F hpS) hold r) o)(hW:AllP F wd psW:=by assumption)(hR:AllR F wd hpS:=by assumption)(hi:nth ops.toList i=some o:=by exact rfl)(hpu:isPure o=false:=by exact rfl)
  (hw:Wanted n env ops o true:=by first|exact Go.RX.plain rfl|exact Go.RX.guarded rfl rfl rfl (by with_reducible rfl))
  (h1:AllIn [Kept wd F] ps:=by repeat (first|apply Go.GX.AllIn.nil|apply Go.GX.AllIn.cons|(with_reducible apply Go.GX.InP.head)|apply Go.GX.InP.tail))
  (he:ExactL hpS:=by exact inferInstance) (h2:SelR hpS hp rest:=by repeat (first|apply Go.GX.SelR.nil|apply Go.GX.SelR.cons|(with_reducible apply Go.GX.TakeR.head)|apply Go.GX.TakeR.tail)):G n env b ps hp (wpPlan P ops Q (SS wd F hpS) hold ((i,true)::r)):=by
 constructor;rintro w ⟨F',s⟩;obtain⟨hS,hA,hF⟩:=ssE_of s h1 h2 hR
 cases h with
 |mk hr hd h=>
  obtain⟨j,e1,e2⟩:=hr F wd hW hR;have hWj:AllP F wd (_++psW):=fun q hq=>(List.mem_append.1 hq).elim (e1 q) (hW q);refine RX.take hi hw hpu hS (RX.tsoft e2 hd ((h j hWj).run w ⟨F',s.upd,s.lt,s.old,fun q hq=>?_,s.rs,s.apF,s.apart,s.on⟩))
  rcases List.mem_append.1 hq with hq|hq
  ·exact q.move (e1 q hq) hF hA
  ·exact s.fs q hq
theorem wentE (h:G n env b ps hp K)
  (hR:AllR F wd hpS:=by assumption) (h1:AllIn [Kept wd F] ps:=by repeat (first|apply Go.GX.AllIn.nil|apply Go.GX.AllIn.cons|(with_reducible apply Go.GX.InP.head)|apply Go.GX.InP.tail))
  (he:ExactL hpS:=by exact inferInstance) (h2:SelR hpS hp rest:=by repeat (first|apply Go.GX.SelR.nil|apply Go.GX.SelR.cons|(with_reducible apply Go.GX.TakeR.head)|apply Go.GX.TakeR.tail)):G n env b ps hp (Went (SS wd F hpS) hold i K):=by
 constructor;rintro w ⟨F',s⟩;exact RX.went (ssE_of s h1 h2 hR).1 (h.run w ⟨F',s⟩)
end
section
variable {P:Program} {n:Nat} {env:Env} {b:Base} {ps:List Pf} {hp:List Res} {Q:Exit->Act->World->Prop} {K:Act->World->Prop}
variable {ty:TypeId} {pos:String} {aft:Array Edge} {gd:Option (Nat×Bool)} {t k e:TypeId} {x y z:Operand}
variable {f:Int->Option Value} {i:Int} {rest:List Res} {F:Nat->Prop} {psW:List Pf} {ao:Option Addr} {et:TypeId}
theorem mm {d:Nat}[UMap P t k e](h:∀bl,G n ((d,.map (some bl))::env) b ps (MapR bl (fun _=>none)::hp) K)(hd:Nat.blt d n=true:=by exact rfl):GO P n env b ps hp ⟨some d,.makeMap t none,ty,pos,aft,gd⟩ K Q:=by
 refine Acts.use (hp1:=[]) (rest:=hp) (ι:=Nat) (val:=fun bl=>.map (some bl)) (pf:=fun _=>[]) (hr:=fun bl=>[MapR bl (fun _=>none)]) ?_ (List.Perm.refl _) h;intro F w K Q b s hk;exact RX.makeMap hd (fun bl w' hbl hm hu=>hk bl w' (mkOkN s hu hm (fun k hk=>by have hk:k=bl:=hk;omega)))
theorem mu {bl:Nat}{v:Value}[UMap P t k e][UInt P k .i64](h:G n env b ps (MapR bl (upd f i v)::rest) K)
  (hx:ev env x=some (.map (some bl)):=by exact rfl) (hy:ev env y=some (.int .i64 i):=by exact rfl) (hz:ev env z=some v:=by exact rfl) (hf:FMap bl hp f rest:=by exact inferInstance):GO P n env b ps hp ⟨none,.mapUpdate t x y z,ty,pos,aft,gd⟩ K Q:=by
 refine Acts.use (hp1:=[MapR bl f]) (ι:=Unit) (val:=fun _=>undef) (pf:=fun _=>[]) (hr:=fun _=>[MapR bl (upd f i v)]) ?_ hf.p (fun _=>h);intro F w K Q b s hk;have hm:MapF w bl f:=s.rs _ (by simp:MapR bl f∈[MapR bl f]);exact RX.mapUpdate hx hy hz hm (fun w' hm' hu=>hk () w' (mkOk1 s hu hm' (fun k hk _=>hk)))
theorem map_at {bl:Nat}[hf:FMap bl hp f rest]{w w':World}(h2:AllR F w hp)(ha:Agree (fun k=>F k\/feet hp k) w w'):MapF w' bl f:=by
 have hm:=hf.p.mem_iff.2 List.mem_cons_self;have h:MapF w bl f:=h2 _ hm;have hl:=h.lt;obtain⟨es,c,h1,h2⟩:=h;exact⟨es,c,(ha.block _ hl (.inr ⟨_,hm,rfl⟩)).trans h1,h2⟩
inductive GTP (P:Program)(n:Nat)(env:Env)(psW:List Pf)(wd:World)(F:Nat->Prop)(b:Base)(ps:List Pf)(hp:List Res)(K:Act->World->Prop):Oper->Prop where
 | mk {d:Nat} {p:Op} {ty:TypeId} {pos:String} {aft:Array Edge} {gd:Option (Nat×Bool)} {ι:Type} {val:ι→Value} {pf:ι→List Pf} (hr:∀F w,AllP F w psW→∃i,AllP F w (pf i) ∧ Soft P n env (fun _=>True) p (val i)) (hd:Nat.blt d n=true)
   (h:∀i,AllP F wd (pf i++psW)->G n ((d,val i)::env) b (pf i++ps) hp K):GTP P n env psW wd F b ps hp K ⟨some d,p,ty,pos,aft,gd⟩
theorem tkx {wd:World}{S:World->Prop}{hold:Nat->Bool}{ops:Array Oper}{i:Nat}{r:List (Nat×Bool)}{o:Oper}(h:GTP P n env psW wd F b ps hp (wpPlan P ops Q S hold r) o)(hW:AllP F wd psW:=by assumption)(hi:nth ops.toList i=some o:=by exact rfl)(hpu:isPure o=true:=by exact rfl)
  (hw:Wanted n env ops o true:=by first|exact Go.RX.plain rfl|exact Go.RX.guarded rfl rfl rfl (by with_reducible rfl))
  (h1:AllIn [Kept wd F] ps:=by repeat (first|apply Go.GX.AllIn.nil|apply Go.GX.AllIn.cons|(with_reducible apply Go.GX.InP.head)|apply Go.GX.InP.tail)):G n env b ps hp (wpPlan P ops Q S hold ((i,true)::r)):=by
 constructor;rintro w ⟨F',s⟩;obtain⟨hA,hF⟩:(Kept wd F).says F' w:=s.fs _ (h1.sub _ (by simp))
 cases h with
 |mk hr hd h=>
  obtain⟨j,e1,e2⟩:=hr F wd hW;have hWj:AllP F wd (_++psW):=fun q hq=>(List.mem_append.1 hq).elim (e1 q) (hW q);refine RX.take_pure hi hw hpu (RX.tsoft e2 hd ((h j hWj).run w ⟨F',s.upd,s.lt,s.old,fun q hq=>?_,s.rs,s.apF,s.apart,s.on⟩))
  rcases List.mem_append.1 hq with hq|hq
  ·exact q.move (e1 q hq) hF hA
  ·exact s.fs q hq
theorem ix_slp {α:Type}{e:Ty α}{cap cap':Nat}{xs:List α}{x0:α}{k:IntKind}{m:Nat}{sz:Nat}[USlice P t et][USize P et sz][hf:FSl ao psW e cap xs](hx:ev env x=some (.slice ao m cap'))(hy:ev env y=some (.int k i))
  (hi:∃j:Nat,i=(j:Int)/\xs[j]?=some x0) (hm:m=xs.length) (hsz:e.size=sz) (F:Nat->Prop) (w:World) (h1:AllP F w psW):
  ∃i:Nat×Nat,AllP F w [Pt e i.1 i.2 x0]/\Soft P n env (fun _=>True) (.indexAddr t x y) (.pointer (some ⟨i.1,i.2,none⟩)):=by
 subst hm;subst hsz;obtain⟨j,rfl,hj⟩:=hi;obtain⟨_,_,hs⟩:(Sl e ao cap xs).says F w:=h1 _ hf.mem;obtain⟨b,o,cs,rfl,h3,h4,h5,h6⟩:=hs j x0 hj;have hlt:j<xs.length:=(List.getElem?_eq_some_iff.1 hj).1;refine⟨(b,o+j*e.size),?_,RX.indexAddrS hx hy hlt⟩;intro p hp
 rcases List.mem_cons.1 hp with rfl|hp
 ·exact⟨h3,h4,cs,h5,h6⟩
 ·simp at hp
theorem xix {wd:World}{α:Type}{e:Ty α}{cap cap':Nat}{xs:List α}{x0:α}{k:IntKind}{m:Nat}{sz d:Nat}[USlice P t et][USize P et sz]
  (h:∀bl o,AllP F wd (Pt e bl o x0::psW)->G n ((d,.pointer (some ⟨bl,o,none⟩))::env) b (Pt e bl o x0::ps) hp K) (hx:ev env x=some (.slice ao m cap'):=by exact rfl) (hy:ev env y=some (.int k i):=by exact rfl) (hf:FSl ao psW e cap xs:=by exact inferInstance)
  (hi:∃j:Nat,i=(j:Int)/\xs[j]?=some x0:=by first|exact⟨_,rfl,by with_reducible assumption⟩|(refine⟨_,?_,by with_reducible assumption⟩;omega)) (hm:m=xs.length:=by first|rfl|omega|(simp;done)) (hsz:e.size=sz:=by exact rfl) (hd:Nat.blt d n=true:=by exact rfl):
  GTP P n env psW wd F b ps hp K ⟨some d,.indexAddr t x y,ty,pos,aft,gd⟩:=.mk (fun F w h1=>ix_slp (cap:=cap) hx hy hi hm hsz F w h1) hd (fun i hW=>h i.1 i.2 hW)
end
end Go.GX
