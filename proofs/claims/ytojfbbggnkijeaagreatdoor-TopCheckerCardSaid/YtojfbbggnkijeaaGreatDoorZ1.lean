import Derived.WalkKit
import Derived.ProofKit
import Derived.WalkSpells
import Derived.Orders
import Derived.Deep.LoopGhost
import Derived.Deep.RegionHeld3
import Derived.KernelRfl
import Derived.OrdersHeld
import Derived.Maps.AppendAt
set_option linter.all false
namespace Go.RR
open Go.RowKit
open Go
variable {O:Nat->Prop} {w w1:World}
structure Upd (O:Nat->Prop)(w w':World):Prop where
 os:w'.os=w.os
 tape:w'.tape=w.tape
 output:w'.output=w.output
 size:w.heap.size<=w'.heap.size
 block:∀k,k<w.heap.size->¬ O k->w'.heap[k]?=w.heap[k]?
theorem Upd.refl (O:Nat->Prop)(w:World):Upd O w w:=⟨rfl,rfl,rfl,Nat.le_refl _,fun _ _ _=>rfl⟩
theorem Upd.trans {O O1 O2:Nat->Prop}{w w1 w2:World}(h1:Upd O1 w w1)(h2:Upd O2 w1 w2)
  (hO1:∀k,k<w.heap.size->O1 k->O k) (hO2:∀k,k<w.heap.size->O2 k->O k):Upd O w w2:=
 ⟨h2.os.trans h1.os,h2.tape.trans h1.tape,h2.output.trans h1.output,Nat.le_trans h1.size h2.size,
  fun k hk hn=>(h2.block k (Nat.lt_of_lt_of_le hk h1.size) (fun h=>hn (hO2 k hk h))).trans (h1.block k hk (fun h=>hn (hO1 k hk h)))⟩
theorem Upd.mono {O1:Nat->Prop}(h1:Upd O1 w w1)(hO:∀k,k<w.heap.size->O1 k->O k):Upd O w w1:=
 ⟨h1.os,h1.tape,h1.output,h1.size,fun k hk hn=>h1.block k hk (fun h=>hn (hO k hk h))⟩
theorem Upd.alloc {O:Nat->Prop}{w w1:World}(h:Upd O w w1)(o:Obj):Upd O w (w1.alloc o):=
 h.trans (O2:=fun _=>False) ⟨rfl,rfl,rfl,by simp,fun k hk _=>Below.heap_alloc _ _ _ hk⟩ (fun _ _ h=>h) (fun _ _ h=>h.elim)
theorem Upd.drew {O:Nat->Prop}{w w1:World}(h:Upd O w w1):Upd O w w1.drew:=⟨h.os,h.tape,h.output,h.size,h.block⟩
theorem Upd.setCell {O:Nat->Prop}{w w1:World}(h:Upd O w w1){p:Addr}(hp:p.block<w.heap.size->O p.block)(u:Value):Upd O w (w1.setCell p u):=
 h.trans (O2:=fun k=>k=p.block) ⟨rfl,rfl,rfl,by simp,fun k _ hn=>Below.heap_setCell _ _ _ _ hn⟩ (fun _ _ h=>h) (fun k hk e=>by subst e;exact hp hk)
theorem Upd.grown {w2:World}{row:Option Nat}(h:Upd O w w1)(hg:w1.grownBy w2 row)(hr:∀k,row=some k->k<w.heap.size->O k):Upd O w w2:=
 h.trans (O2:=fun k=>row=some k) ⟨hg.os,hg.tape,hg.output,hg.size,fun k hk hn=>hg.block k hk (fun e=>hn e.symm)⟩ (fun _ _ h=>h) (fun k hk e=>hr k e hk)
theorem Upd.below (h:Upd (fun _=>False) w w1):Below w.heap.size w w1:=⟨h.os,h.tape,h.output,h.size,fun k hk=>h.block k hk (fun h=>h)⟩
def Row (w:World)(b:Nat)(t:TypeId)(vs:List Value):Prop:=w.heap[b]?=some (.cells vs.toArray t (0,0))
section
variable {w w':World} {b:Nat} {t:TypeId} {vs:List Value}
theorem Row.lt (h:Row w b t vs):b<w.heap.size:=(Array.getElem?_eq_some_iff.1 h).1
theorem Row.cell (h:Row w b t vs)(i:Nat):w.cell? ⟨b,i,none⟩=vs[i]?:=by
 unfold Row at h;simp[World.cell?,h]
theorem Row.cell_some (h:Row w b t vs){i:Nat}{v:Value}(hi:vs[i]?=some v):w.cell? ⟨b,i,none⟩=some v:=(h.cell i).trans hi
theorem Row.free (h:Row w b t vs)(i:Nat):w.frozen? ⟨b,i,none⟩=false:=by
 unfold Row at h;simp[World.frozen?,h]
theorem Row.keep (h:Row w b t vs)(hu:Upd O w w')(hb:¬ O b):Row w' b t vs:=(hu.block b h.lt hb).trans h
theorem Row.alloc (h:Row w b t vs)(o:Obj):Row (w.alloc o) b t vs:=(Below.heap_alloc _ _ _ h.lt).trans h
theorem Row.drew (h:Row w b t vs):Row w.drew b t vs:=h
theorem Row.new (w:World)(t:TypeId)(vs:List Value):Row (w.alloc (.cells vs.toArray t)) w.heap.size t vs:=by
 show (w.heap.push _)[w.heap.size]?=_;simp
theorem Row.set (h:Row w b t vs)(i:Nat)(v:Value):Row (w.setCell ⟨b,i,none⟩ v) b t (vs.set i v):=by
 unfold Row at *;simp[World.setCell,Array.getElem?_modify,h]
end
end Go.RR
namespace Go.RX
open Go Go.RowKit Go.RR
variable {d:Nat} {ty:TypeId} {pos:String} {aft:Array Edge} {gd:Option (Nat×Bool)}
abbrev Env:=List (Nat×Value)
def lk:Env->Nat->Option Value
 |[],_=>none
 |(k,v)::r,t=>bif Nat.beq k t then some v else lk r t
theorem lk_cons (k:Nat)(v:Value)(r:Env)(t:Nat):lk ((k,v)::r) t=if k=t then some v else lk r t:=by
 simp only[lk];by_cases h:k=t
 ·subst h;simp
 ·have:Nat.beq k t=false:=by
   cases hb:Nat.beq k t
   ·rfl
   ·exact absurd (Nat.eq_of_beq_eq_true hb) h
  simp[this,h]
structure Has (n:Nat)(env:Env)(a:Act):Prop where
 defers:a.defers=[]
 size:a.tmps.size=n
 get:∀t v,lk env t=some v->a.tmps[t]?=some v
structure E (n:Nat)(env:Env)(w:World)(K:Act->World->Prop):Prop where
 run:∀a,Has n env a->K a w
def ev (env:Env):Operand->Option Value
 | .tmp t=>lk env t
 | .const v=>some v
 | .global g=>some (.pointer (some ⟨g,0,none⟩))
 | .func f=>some (.func (.func f) #[] #[])
theorem Has.ev {n:Nat}{env:Env}{a:Act}(h:Has n env a){x:Operand}{v:Value}(hx:ev env x=some v):a.eval x=v:=by
 cases x with
 |tmp t=>simp[Act.eval,h.get t v hx]
 |const u=>simpa[RX.ev,Act.eval] using hx
 |global g=>simpa[RX.ev,Act.eval] using hx
 |func f=>simpa[RX.ev,Act.eval] using hx
def evs (env:Env):List Operand->Option (List Value)
 |[]=>some []
 |x::r=>match ev env x,evs env r with
  |some v,some l=>some (v::l)
  |_,_=>none
theorem Has.evs {n:Nat}{env:Env}{a:Act}(h:Has n env a):∀{xs:List Operand} {vs:List Value},evs env xs=some vs->xs.map a.eval=vs
 |[],vs,hx=>by simpa[RX.evs] using hx
 |x::r,vs,hx=>by
  simp only[RX.evs] at hx;split at hx
  ·rename_i v l h1 h2;cases hx;simp[h.ev h1,h.evs h2]
  ·cases hx
theorem Has.put {n:Nat}{env:Env}{a:Act}(h:Has n env a){d:Nat}(v:Value)(hd:Nat.blt d n=true):Has n ((d,v)::env) (a.put (some d) v):=by
 have hd:d<n:=by simpa[Nat.blt_eq] using hd
 refine⟨h.defers,by simp[Act.put,h.size],fun t u ht=>?_⟩;simp only[lk_cons] at ht;simp only[Act.put];split at ht
 ·rename_i e;subst e;cases ht;simp[h.size,hd]
 ·rename_i e;rw[Array.getElem?_setIfInBounds_ne (by omega)];exact h.get t u ht
theorem Has.sub {n:Nat}{env env':Env}{a:Act}(h:Has n env a)(hs:∀t v,lk env' t=some v->lk env t=some v):Has n env' a:=⟨h.defers,h.size,fun t v ht=>h.get t v (hs t v ht)⟩
def Sub:Env->Env->Prop
 |[],_=>True
 |(k,v)::r,env=>lk env k=some v/\Sub r env
theorem Sub.spec:∀{env' env:Env},Sub env' env->∀t v,lk env' t=some v->lk env t=some v
 |[],_,_,t,v,h=>by simp[lk] at h
 |(k,u)::r,env,hs,t,v,h=>by
  rw[lk_cons] at h;split at h
  ·rename_i e;subst e;cases h;exact hs.1
  ·exact hs.2.spec t v h
section rules
variable {P:Program} {n:Nat} {env:Env} {w:World} {Q:Exit->Act->World->Prop} {K:Act->World->Prop}
variable {id:Nat} {c:Operand} {x y:Code} {v:Value} {p:Prop} {ops:Array Oper} {j:Nat} {b:Bool} {rest:List Oper}
theorem keep (env':Env)(hs:Sub env' env)(h:E n env' w K):E n env w K:=⟨fun a ha=>h.run a (ha.sub hs.spec)⟩
theorem seq {x y:Code}(h:E n env w (x.wp P (Exit.then (y.wp P Q) Q))):E n env w ((Code.seq x y).wp P Q):=⟨fun a ha=>wp_seq (h.run a ha)⟩
theorem skip (h:E n env w (Q .normal)):E n env w (Code.skip.wp P Q):=⟨fun a ha=>wp_skip (h.run a ha)⟩
theorem block {id:Nat}{c:Code}(h:E n env w (c.wp P (Exit.inBlock id Q))):E n env w ((Code.block id c).wp P Q):=⟨fun a ha=>wp_block (h.run a ha)⟩
theorem exit {id:Nat}(h:E n env w (Q (.exit id))):E n env w ((Code.exit id).wp P Q):=⟨fun a ha=>wp_exit (h.run a ha)⟩
theorem ret (h:E n env w (Q .ret)):E n env w (Code.ret.wp P Q):=⟨fun a ha=>wp_ret (h.run a ha)⟩
theorem then_normal (h:E n env w K):E n env w (Exit.then K Q .normal):=⟨h.run⟩
theorem then_exit (h:E n env w (Q (.exit id))):E n env w (Exit.then K Q (.exit id)):=⟨h.run⟩
theorem then_ret (h:E n env w (Q .ret)):E n env w (Exit.then K Q .ret):=⟨h.run⟩
theorem inBlock_normal (h:E n env w (Q .normal)):E n env w (Exit.inBlock id Q .normal):=⟨h.run⟩
theorem inBlock_ret (h:E n env w (Q .ret)):E n env w (Exit.inBlock id Q .ret):=⟨h.run⟩
theorem inBlock_exit (h:E n env w (Q .normal)):E n env w (Exit.inBlock id Q (.exit id)):=by
 constructor;intro a ha;simp only[Exit.inBlock,if_true];exact h.run a ha
theorem inBlock_other {id':Nat}(hne:Nat.beq id' id=false)(h:E n env w (Q (.exit id'))):E n env w (Exit.inBlock id Q (.exit id')):=by
 constructor;intro a ha;have hne:¬ id'=id:=fun e=>by subst e;simp at hne
 simp only[Exit.inBlock,if_neg hne];exact h.run a ha
theorem cond_true (hc:ev env c=some v)(hv:v=.bool true)(h:E n env w (x.wp P Q)):E n env w ((Code.cond c x y).wp P Q):=⟨fun a ha=>wp_cond_true (ha.ev (hv▸hc)) (h.run a ha)⟩
theorem cond_false (hc:ev env c=some v)(hv:v=.bool false)(h:E n env w (y.wp P Q)):E n env w ((Code.cond c x y).wp P Q):=⟨fun a ha=>wp_cond_false (ha.ev (hv▸hc)) (h.run a ha)⟩
theorem cond {c:Operand}{x y:Code}{p:Prop}[Decidable p](hc:ev env c=some (.bool (decide p)))(h1:p->E n env w (x.wp P Q))(h2:¬ p->E n env w (y.wp P Q)):
  E n env w ((Code.cond c x y).wp P Q):=by
 constructor;intro a ha;by_cases hp:p
 ·exact wp_cond_true ((ha.ev hc).trans (by simp[hp])) ((h1 hp).run a ha)
 ·exact wp_cond_false ((ha.ev hc).trans (by simp[hp])) ((h2 hp).run a ha)
theorem cond_bool {p:Bool}(hc:ev env c=some (.bool p))(h1:p=true->E n env w (x.wp P Q))(h2:p=false->E n env w (y.wp P Q)):
  E n env w ((Code.cond c x y).wp P Q):=by
 constructor;intro a ha
 cases p with
 |true=>exact wp_cond_true (ha.ev hc) ((h1 rfl).run a ha)
 |false=>exact wp_cond_false (ha.ev hc) ((h2 rfl).run a ha)
theorem loop {σ:Type}(envOf:σ->Env)(I:σ->World->Prop)(μ:σ->Nat){c:Code}(s0:σ)(h0:Sub (envOf s0) env)(hI:I s0 w)
  (round:∀s w,I s w->E n (envOf s) w (c.wp P (Exit.then (fun a' w'=>∃s',Has n (envOf s') a'/\I s' w'/\μ s'<μ s) Q))):E n env w ((Code.loop c).wp P Q):=by
 constructor;intro a ha;refine wp_loop_ghost (fun m a w=>∃s,μ s=m/\Has n (envOf s) a/\I s w) (μ s0) ⟨s0,rfl,ha.sub h0.spec,hI⟩ ?_;rintro m a w ⟨s,rfl,hs,hIs⟩;refine wp_mono ((round s w hIs).run a hs) ?_;intro e a' w' hq
 cases e<;>first
  |(obtain⟨s',h1,h2,h3⟩:=hq;exact⟨_,h3,s',rfl,h1,h2⟩)
  |exact hq
theorem again {σ:Type}{envOf:σ->Env}{I:σ->World->Prop}{μ:σ->Nat}{m:Nat}(s':σ)(h0:Sub (envOf s') env)(hI:I s' w)(hμ:μ s'<m):
  E n env w (fun a' w'=>∃s',Has n (envOf s') a'/\I s' w'/\μ s'<m):=⟨fun _ ha=>⟨s',ha.sub h0.spec,hI,hμ⟩⟩
theorem meet {σ:Type}{envOf:σ->Env}{I:σ->World->Prop}(s:σ)(h0:Sub (envOf s) env)(hI:I s w):E n env w (fun a w=>∃s,Has n (envOf s) a/\I s w):=⟨fun _ ha=>⟨s,ha.sub h0.spec,hI⟩⟩
def nth {α:Type}:List α->Nat->Option α
 |[],_=>none
 |a::_,0=>some a
 |_::l,k+1=>nth l k
theorem nth_eq {α:Type}:∀(l:List α) (k:Nat),nth l k=l[k]?
 |[],k=>by simp[nth]
 |a::l,0=>by simp[nth]
 |a::l,k+1=>by simp[nth,nth_eq l k]
theorem nth_array {α:Type}(a:Array α)(k:Nat):nth a.toList k=a[k]?:=by rw[nth_eq];simp
def gslot (ops:Array Oper)(o:Oper):Option Nat:=
 match o.guard with
 |some (j,_)=>(nth ops.toList j).bind (·.dst)
 |none=>none
def Wanted (n:Nat)(env:Env)(ops:Array Oper)(o:Oper)(b:Bool):Prop:=∀a,Has n env a->Region.wanted o (yielded ops a.tmps)=b
theorem plain {o:Oper}(hg:o.guard=none):Wanted n env ops o true:=fun a _=>by simp[Region.wanted,hg]
theorem guarded {o:Oper}(hg:o.guard=some (j,b))(hd:gslot ops o=some d)(hp:lk env d=some v)(hv:v=.bool b):Wanted n env ops o true:=fun a ha=>by
 subst hv;simp only[gslot,hg,nth_array] at hd;simp[Region.wanted,hg,yielded,hd,ha.get d _ hp]
theorem barred_t {o:Oper}(hg:o.guard=some (j,true))(hd:gslot ops o=some d)(hp:lk env d=some v)(hv:v=.bool false):Wanted n env ops o false:=fun a ha=>by
 subst hv;simp only[gslot,hg,nth_array] at hd;simp[Region.wanted,hg,yielded,hd,ha.get d _ hp]
theorem barred_f {o:Oper}(hg:o.guard=some (j,false))(hd:gslot ops o=some d)(hp:lk env d=some v)(hv:v=.bool true):Wanted n env ops o false:=fun a ha=>by
 subst hv;simp only[gslot,hg,nth_array] at hd;simp[Region.wanted,hg,yielded,hd,ha.get d _ hp]
theorem barred_u {o:Oper}(hg:o.guard=some (j,b))(hd:gslot ops o=some d)(hp:lk env d=some v)(hv:v=undef):Wanted n env ops o false:=fun a ha=>by
 subst hv;simp only[gslot,hg,nth_array] at hd;simp[Region.wanted,hg,yielded,hd,ha.get d _ hp,undef]
structure OW (P:Program)(n:Nat)(env:Env)(w:World)(o:Oper)(K:Act->World->Prop)(Q:Exit->Act->World->Prop):Prop where
 run:∀a,Has n env a->o.wp P a w K Q
theorem region {id:Nat}{l:List Oper}(h:E n env w (wpList P l.toArray Q l)):E n env w ((Code.region id l.toArray false).wp P Q):=⟨fun a ha=>wp_region_lit (h.run a ha)⟩
theorem nil (h:E n env w (Q .normal)):E n env w (wpList P ops Q []):=⟨h.run⟩
theorem opw {o:Oper}(hw:Wanted n env ops o true)(h:OW P n env w o (wpList P ops Q rest) Q):E n env w (wpList P ops Q (o::rest)):=by
 constructor;intro a ha;unfold wpList;rw[if_pos (hw a ha)];exact .inl (h.run a ha)
theorem unwanted {p:Op}(hw:Wanted n env ops ⟨some d,p,ty,pos,aft,gd⟩ false)(hd:Nat.blt d n=true)(h:E n ((d,undef)::env) w (wpList P ops Q rest)):
  E n env w (wpList P ops Q (⟨some d,p,ty,pos,aft,gd⟩::rest)):=by
 constructor;intro a ha;unfold wpList;rw[if_neg (by rw[hw a ha];simp)];exact h.run _ (ha.put (d:=d) _ hd)
theorem unwanted_none {p:Op}(hw:Wanted n env ops ⟨none,p,ty,pos,aft,gd⟩ false)(h:E n env w (wpList P ops Q rest)):
  E n env w (wpList P ops Q (⟨none,p,ty,pos,aft,gd⟩::rest)):=by
 constructor;intro a ha;unfold wpList;rw[if_neg (by rw[hw a ha];simp)];exact h.run _ ha
theorem relit [Decidable p](hp:lk env d=some (.bool (decide p)))(hb:decide p=b)(h:E n ((d,.bool b)::env) w K):E n env w K:=by
 constructor;intro a ha;refine h.run a ⟨ha.defers,ha.size,fun t v ht=>?_⟩;rw[lk_cons] at ht;split at ht
 ·rename_i e2;subst e2;cases ht;rw[<- hb];exact ha.get _ _ hp
 ·exact ha.get t v ht
theorem guard_true {o:Oper}[Decidable p](_hd:gslot ops o=some d)(hp:lk env d=some v)(hv:v=.bool (decide p))(h:p)(k:E n ((d,.bool true)::env) w (wpList P ops Q (o::rest))):E n env w (wpList P ops Q (o::rest)):=
 relit (hv▸hp) (by simpa using h) k
theorem guard_false {o:Oper}[Decidable p](_hd:gslot ops o=some d)(hp:lk env d=some v)(hv:v=.bool (decide p))(h:¬ p)(k:E n ((d,.bool false)::env) w (wpList P ops Q (o::rest))):E n env w (wpList P ops Q (o::rest)):=
 relit (hv▸hp) (by simpa using h) k
theorem guard_split {o:Oper}[Decidable p](_hd:gslot ops o=some d)(hp:lk env d=some (.bool (decide p)))(h1:p->E n ((d,.bool true)::env) w (wpList P ops Q (o::rest)))(h2:¬ p->E n ((d,.bool false)::env) w (wpList P ops Q (o::rest))):E n env w (wpList P ops Q (o::rest)):=by
 by_cases h:p
 ·exact relit hp (by simpa using h) (h1 h)
 ·exact relit hp (by simpa using h) (h2 h)
theorem guard_bool {o:Oper}{p:Bool}(_hd:gslot ops o=some d)(hp:lk env d=some (.bool p))(h1:p=true->E n ((d,.bool true)::env) w (wpList P ops Q (o::rest)))(h2:p=false->E n ((d,.bool false)::env) w (wpList P ops Q (o::rest))):E n env w (wpList P ops Q (o::rest)):=by
 have hp':lk env d=some (.bool (decide (p=true))):=by rw[hp];cases p<;>rfl
 cases p
 ·exact relit hp' rfl (h2 rfl)
 ·exact relit hp' rfl (h1 rfl)
def Soft (P:Program)(n:Nat)(env:Env)(S:World->Prop)(op:Op)(v:Value):Prop:=
 ∀a,Has n env a->∀o:Oper,o.op=op->∀w,S w->(execOp a.eval o).run P w=.ok (.value v) w
theorem soft {p:Op}(hs:Soft P n env (fun w'=>w'=w) p v)(hd:Nat.blt d n=true)(h:E n ((d,v)::env) w K):
  OW P n env w ⟨some d,p,ty,pos,aft,gd⟩ K Q:=by
 constructor;intro a ha;show Oper.upon P _ a K Q ((execOp a.eval _).run P w);rw[hs a ha _ rfl w rfl];exact h.run _ (ha.put (d:=d) v hd)
theorem eff {p:Op}{w':World}(hs:∀a,Has n env a->(execOp a.eval ⟨some d,p,ty,pos,aft,gd⟩).run P w=.ok (.value v) w')(hd:Nat.blt d n=true)(h:E n ((d,v)::env) w' K):
  OW P n env w ⟨some d,p,ty,pos,aft,gd⟩ K Q:=by
 constructor;intro a ha;show Oper.upon P _ a K Q ((execOp a.eval _).run P w);rw[hs a ha];exact h.run _ (ha.put (d:=d) v hd)
theorem effU {p:Op}{w':World}(hs:∀a,Has n env a->(execOp a.eval ⟨none,p,ty,pos,aft,gd⟩).run P w=.ok .skip w')(h:E n env w' K):OW P n env w ⟨none,p,ty,pos,aft,gd⟩ K Q:=by
 constructor;intro a ha;show Oper.upon P _ a K Q ((execOp a.eval _).run P w);rw[hs a ha];exact h.run _ ha
end rules
class USlice (P:Program)(t:TypeId)(e:outParam TypeId):Prop where u:P.underlying t=some (.slice e)
class UPtr (P:Program)(t:TypeId)(e:outParam TypeId):Prop where u:P.underlying t=some (.pointer e)
class UMap (P:Program)(t:TypeId)(k e:outParam TypeId):Prop where u:P.underlying t=some (.map k e)
class UInt (P:Program)(t:TypeId)(k:outParam IntKind):Prop where u:P.underlying t=some (.int k)
class UBool (P:Program)(t:TypeId):Prop where u:P.underlying t=some .bool
class USize (P:Program)(t:TypeId)(n:outParam Nat):Prop where s:∀w,(sizeOf t).run P w=.ok n w
class UOne (P:Program)(t:TypeId):Prop where a:∀w,(isAgg t).run P w=.ok false w
class UAgg (P:Program)(t:TypeId):Prop where a:∀w,(isAgg t).run P w=.ok true w
class UField (P:Program)(s:TypeId)(f:Nat)(off:outParam Nat):Prop where f:∀w b o,(Instr.fieldAt s (.pointer (some ⟨b,o,none⟩)) f).run P w=.ok (.pointer (some ⟨b,o+off,none⟩)) w
theorem field_of {P:Program}{s:TypeId}{fs:Array Field}{f sz off:Nat}{fd:Field}(hu:P.underlying s=some (.struct fs))(hf:fs[f]?=some fd)(hs:∀w,(sizeOf fd.type).run P w=.ok sz w)(hz:Nat.beq sz 0=false)(ho:fd.offset=off)
  (w:World) (b o:Nat):(Instr.fieldAt s (.pointer (some ⟨b,o,none⟩)) f).run P w=.ok (.pointer (some ⟨b,o+off,none⟩)) w:=by
 subst ho;have hz:sz≠0:=fun e=>by subst e;simp at hz
 simp[Instr.fieldAt,run_underlying hu,hf,Instr.sureAddr,fieldPlace,hs,hz,Addr.add_lit]
class UZero (P:Program)(t:TypeId)(z:outParam Value):Prop where z:∀w,(zeroValue t).run P w=.ok z w
section
variable {P:Program} {n:Nat} {env:Env} {w:World} {S:World->Prop} {Q:Exit->Act->World->Prop} {K:Act->World->Prop}
variable {t:TypeId} {x:Operand} {y:Value} {b:Bool} {c:Operand}
theorem run_equal {x:Value}(h:∀d w,(Op.equalIn (d+1) t x y).run P w=.ok b w)(w:World):(Op.equal t x y).run P w=.ok b w:=h 9999 w
theorem run_binEql {x:Value}(he:binOp .eql t x y=(do pure (.bool (<- Op.equal t x y))))(h:∀d w,(Op.equalIn (d+1) t x y).run P w=.ok b w)(w:World):(binOp .eql t x y).run P w=.ok (.bool b) w:=by
 rw[he];simp[run_equal h]
theorem run_binNeq {x:Value}(he:binOp .neq t x y=(do pure (.bool (!(<- Op.equal t x y)))))(h:∀d w,(Op.equalIn (d+1) t x y).run P w=.ok b w)(w:World):(binOp .neq t x y).run P w=.ok (.bool (!b)) w:=by
 rw[he];simp[run_equal h]
theorem move {x:Operand}{v:Value}(h:ev env x=some v):Soft P n env S (.move x) v:=fun a ha o ho w _=>by
 simp[execOp,ho,ha.ev h]
theorem assign {x:Operand}{v:Value}(h:ev env x=some v):Soft P n env S (.assign x) v:=fun a ha o ho w _=>by
 simp[execOp,ho,ha.ev h]
theorem pick_true {y:Operand}{v u:Value}(hc:ev env c=some u)(hu:u=.bool true)(h:ev env x=some v):Soft P n env S (.pick c x y) v:=fun a ha o ho w _=>by
 subst hu;simp[execOp,ho,ha.ev h,ha.ev hc,asBool]
theorem pick_false {y:Operand}{v u:Value}(hc:ev env c=some u)(hu:u=.bool false)(h:ev env y=some v):Soft P n env S (.pick c x y) v:=fun a ha o ho w _=>by
 subst hu;simp[execOp,ho,ha.ev h,ha.ev hc,asBool]
theorem extract {x:Operand}{i:Nat}{vs:Array Value}{v:Value}(h:ev env x=some (.tuple vs))(hv:vs[i]?=some v):Soft P n env S (.extract x i) v:=fun a ha o ho w _=>by
 simp[execOp,ho,ha.ev h,Instr.extract,hv]
theorem nilCheck_ptr {p:Addr}(h:ev env x=some (.pointer (some p))):Soft P n env S (.nilCheck x) (.pointer (some p)):=fun a ha o ho w _=>by
 simp[execOp,ho,ha.ev h]
section ints
variable {t t':TypeId} {x y:Operand} {k:IntKind} {i j:Int}
theorem lss (hx:ev env x=some (.int k i))(hy:ev env y=some (.int k j)):Soft P n env S (.binOp .lss t x y t') (.bool (decide (i<j))):=fun a ha o ho w _=>by
 simp[execOp,ho,ha.ev hx,ha.ev hy,eqGuard_at_int,binOp_lss]
theorem leq (hx:ev env x=some (.int k i))(hy:ev env y=some (.int k j)):Soft P n env S (.binOp .leq t x y t') (.bool (decide (i<=j))):=fun a ha o ho w _=>by
 simp[execOp,ho,ha.ev hx,ha.ev hy,eqGuard_at_int,binOp_leq]
theorem gtr (hx:ev env x=some (.int k i))(hy:ev env y=some (.int k j)):Soft P n env S (.binOp .gtr t x y t') (.bool (decide (j<i))):=fun a ha o ho w _=>by
 simp[execOp,ho,ha.ev hx,ha.ev hy,eqGuard_at_int,binOp_gtr]
theorem geq (hx:ev env x=some (.int k i))(hy:ev env y=some (.int k j)):Soft P n env S (.binOp .geq t x y t') (.bool (decide (j<=i))):=fun a ha o ho w _=>by
 simp[execOp,ho,ha.ev hx,ha.ev hy,eqGuard_at_int,binOp_geq]
theorem eql (hx:ev env x=some (.int k i))(hy:ev env y=some (.int k j)):Soft P n env S (.binOp .eql t x y t') (.bool (decide (i=j))):=fun a ha o ho w _=>by
 have:(i==j)=decide (i=j):=by rw[Bool.eq_iff_iff];simp
 simp only[execOp,ho,ha.ev hx,ha.ev hy,eqGuard_at_int,binOp_eql,this];simp
theorem neq (hx:ev env x=some (.int k i))(hy:ev env y=some (.int k j)):Soft P n env S (.binOp .neq t x y t') (.bool (decide (i≠j))):=fun a ha o ho w _=>by
 have:(i != j)=decide (i≠j):=by rw[Bool.eq_iff_iff];simp
 simp only[execOp,ho,ha.ev hx,ha.ev hy,eqGuard_at_int,binOp_neq,this];simp
theorem add {r:Int}(hx:ev env x=some (.int k i))(hy:ev env y=some (.int k j))(hr:k.wrap (i+j)=r):Soft P n env S (.binOp .add t x y t') (.int k r):=fun a ha o ho w _=>by
 subst hr;simp[execOp,ho,ha.ev hx,ha.ev hy,eqGuard_at_int,binOp_add,Op.intArith]
theorem sub {r:Int}(hx:ev env x=some (.int k i))(hy:ev env y=some (.int k j))(hr:k.wrap (i-j)=r):Soft P n env S (.binOp .sub t x y t') (.int k r):=fun a ha o ho w _=>by
 subst hr;simp[execOp,ho,ha.ev hx,ha.ev hy,eqGuard_at_int,binOp_sub,Op.intArith]
theorem mul {r:Int}(hx:ev env x=some (.int k i))(hy:ev env y=some (.int k j))(hr:k.wrap (i*j)=r):Soft P n env S (.binOp .mul t x y t') (.int k r):=fun a ha o ho w _=>by
 subst hr;simp[execOp,ho,ha.ev hx,ha.ev hy,eqGuard_at_int,binOp_mul,Op.intArith]
end ints
variable {i:Int} {t':TypeId}
theorem wrap_in (h:-9223372036854775808<=i/\i<=9223372036854775807):IntKind.i64.wrap i=i:=by
 rw[IntKind.wrap_i64];omega
theorem add_one {y:Operand}{i:Nat}(hx:ev env x=some (.int .i64 (i:Int)))(hy:ev env y=some (.int .i64 1))(hb:i<9223372036854775807):
  Soft P n env S (.binOp .add t x y t') (.int .i64 ((i+1:Nat):Int)):=add hx hy (by rw[wrap_in (by omega)];rfl)
theorem add_in {y:Operand}{j:Int}(hx:ev env x=some (.int .i64 i))(hy:ev env y=some (.int .i64 j))(hb:-9223372036854775808<=i+j/\i+j<=9223372036854775807):
  Soft P n env S (.binOp .add t x y t') (.int .i64 (i+j)):=add hx hy (wrap_in hb)
theorem sub_in {y:Operand}{j:Int}(hx:ev env x=some (.int .i64 i))(hy:ev env y=some (.int .i64 j))(hb:-9223372036854775808<=i-j/\i-j<=9223372036854775807):
  Soft P n env S (.binOp .sub t x y t') (.int .i64 (i-j)):=sub hx hy (wrap_in hb)
section bools
variable {t t':TypeId} {x y:Operand} {p q:Bool}
variable {v:Value}
theorem eql_bool [h:UBool P t](hx:ev env x=some (.bool p))(hy:ev env y=some (.bool q)):Soft P n env S (.binOp .eql t x y t') (.bool (p==q)):=fun a ha o ho w _=>by
 simp only[execOp,ho,ha.ev hx,ha.ev hy,eqGuard_at_bool];simp[run_binEql (P:=P) (t:=t) (x:=.bool p) (y:=.bool q) (b:=p==q) rfl (fun d w=>by simp[Op.equalIn,run_underlying h.u])]
theorem neq_bool [h:UBool P t](hx:ev env x=some (.bool p))(hy:ev env y=some (.bool q)):Soft P n env S (.binOp .neq t x y t') (.bool (p != q)):=fun a ha o ho w _=>by
 simp only[execOp,ho,ha.ev hx,ha.ev hy,eqGuard_at_bool];simp[run_binNeq (P:=P) (t:=t) (x:=.bool p) (y:=.bool q) (b:=p==q) rfl (fun d w=>by simp[Op.equalIn,run_underlying h.u])];cases p<;>cases q<;>rfl
theorem eql_same [h:UBool P t](hx:ev env x=some (.bool p))(hy:ev env y=some v)(hv:v=.bool p):Soft P n env S (.binOp .eql t x y t') (.bool true):=by
 subst hv;have:=eql_bool (P:=P) (S:=S) (n:=n) (t:=t) (t':=t') hx hy;simpa using this
theorem eql_tf [h:UBool P t]{u:Value}(hx:ev env x=some u)(hy:ev env y=some v)(hu:u=.bool true)(hv:v=.bool false):Soft P n env S (.binOp .eql t x y t') (.bool false):=by
 subst hu;subst hv;exact eql_bool hx hy
theorem eql_ft [h:UBool P t]{u:Value}(hx:ev env x=some u)(hy:ev env y=some v)(hu:u=.bool false)(hv:v=.bool true):Soft P n env S (.binOp .eql t x y t') (.bool false):=by
 subst hu;subst hv;exact eql_bool hx hy
theorem not {t:TypeId}{x:Operand}{p:Bool}(hx:ev env x=some (.bool p)):Soft P n env S (.unOp .not t x) (.bool (!p)):=fun a ha o ho w _=>by
 simp[execOp,ho,ha.ev hx,Op.unary]
theorem not_t (hx:ev env x=some v)(hv:v=.bool true):Soft P n env S (.unOp .not t x) (.bool false):=by subst hv;exact not hx
theorem not_f (hx:ev env x=some v)(hv:v=.bool false):Soft P n env S (.unOp .not t x) (.bool true):=by subst hv;exact not hx
end bools
section ptrs
variable {t t' e:TypeId} {x y:Operand} {p:Option Addr}
theorem eql_nil [h:UPtr P t e](hx:ev env x=some (.pointer p))(hy:ev env y=some (.pointer none)):Soft P n env S (.binOp .eql t x y t') (.bool p.isNone):=fun a ha o ho w _=>by
 simp only[execOp,ho,ha.ev hx,ha.ev hy,eqGuard_at_pointer];simp[run_binEql (P:=P) (t:=t) (x:=.pointer p) (y:=.pointer none) (b:=p.isNone) (by cases p<;>rfl) (fun d w=>by cases p<;>simp[Op.equalIn,run_underlying h.u])]
theorem neq_nil [h:UPtr P t e](hx:ev env x=some (.pointer p))(hy:ev env y=some (.pointer none)):Soft P n env S (.binOp .neq t x y t') (.bool p.isSome):=fun a ha o ho w _=>by
 simp only[execOp,ho,ha.ev hx,ha.ev hy,eqGuard_at_pointer];simp[run_binNeq (P:=P) (t:=t) (x:=.pointer p) (y:=.pointer none) (b:=p.isNone) (by cases p<;>rfl) (fun d w=>by cases p<;>simp[Op.equalIn,run_underlying h.u])]
theorem eql_nil_nil [h:UPtr P t e](hx:ev env x=some (.pointer none))(hy:ev env y=some (.pointer none)):Soft P n env S (.binOp .eql t x y t') (.bool true):=eql_nil hx hy
theorem eql_ptr_nil {p:Addr}[h:UPtr P t e](hx:ev env x=some (.pointer (some p)))(hy:ev env y=some (.pointer none)):Soft P n env S (.binOp .eql t x y t') (.bool false):=eql_nil hx hy
theorem neq_ptr_nil {p:Addr}[h:UPtr P t e](hx:ev env x=some (.pointer (some p)))(hy:ev env y=some (.pointer none)):Soft P n env S (.binOp .neq t x y t') (.bool true):=neq_nil hx hy
theorem eql_slnil {ao:Option Addr}{len cap:Nat}[h:USlice P t e](hx:ev env x=some (.slice ao len cap))(hy:ev env y=some (.slice none 0 0)):Soft P n env S (.binOp .eql t x y t') (.bool ao.isNone):=fun a ha o ho w _=>by
 simp only[execOp,ho,ha.ev hx,ha.ev hy];simp[eqGuard,run_binEql (P:=P) (t:=t) (x:=.slice ao len cap) (y:=.slice none 0 0) (b:=ao.isNone) (by cases ao<;>rfl) (fun d w=>by cases ao<;>simp[Op.equalIn,run_underlying h.u])]
end ptrs
variable {s e:TypeId} {len cap:Nat} {k:IntKind}
theorem fieldAddr {s:TypeId}{x:Operand}{f off b o1:Nat}[h:UField P s f off](hx:ev env x=some (.pointer (some ⟨b,o1,none⟩))):Soft P n env S (.fieldAddr s x f) (.pointer (some ⟨b,o1+off,none⟩)):=fun a ha o ho w _=>by
 simp[execOp,ho,ha.ev hx,h.f]
theorem fieldAddr0 {f:Nat}{b o1:Nat}[h:UField P s f 0](hx:ev env x=some (.pointer (some ⟨b,o1,none⟩))):Soft P n env S (.fieldAddr s x f) (.pointer (some ⟨b,o1,none⟩)):=by
 have:=fieldAddr (P:=P) (n:=n) (S:=S) (s:=s) (f:=f) hx;simpa using this
theorem fieldAddrH {f off b:Nat}[h:UField P s f off](hx:ev env x=some (.pointer (some ⟨b,0,none⟩))):Soft P n env S (.fieldAddr s x f) (.pointer (some ⟨b,off,none⟩)):=by
 have:=fieldAddr (P:=P) (n:=n) (S:=S) (s:=s) (f:=f) hx;simpa using this
theorem indexAddr {t e:TypeId}{x y:Operand}{b o1 len cap sz:Nat}{k:IntKind}{i:Int}[h:USlice P t e][hs:USize P e sz](hx:ev env x=some (.slice (some ⟨b,o1,none⟩) len cap))(hy:ev env y=some (.int k i))
  (h0:0<=i/\i<len):Soft P n env S (.indexAddr t x y) (.pointer (some ⟨b,o1+i.toNat*sz,none⟩)):=fun a ha o ho w _=>by
 simp[execOp,ho,ha.ev hx,ha.ev hy,Instr.indexAt,asIntOf,run_underlying h.u,hs.s,h0,Addr.add_lit]
theorem indexAddr1 {y:Operand}{b i:Nat}[h:USlice P t e][hs:USize P e 1](hx:ev env x=some (.slice (some ⟨b,0,none⟩) len cap))(hy:ev env y=some (.int k (i:Int)))
  (h0:i<len):Soft P n env S (.indexAddr t x y) (.pointer (some ⟨b,i,none⟩)):=by
 have:=indexAddr (P:=P) (n:=n) (env:=env) (S:=S) (t:=t) hx hy ⟨by omega,by omega⟩;simpa using this
theorem indexAddrS {y:Operand}{b o1 sz i:Nat}[h:USlice P t e][hs:USize P e sz](hx:ev env x=some (.slice (some ⟨b,o1,none⟩) len cap))(hy:ev env y=some (.int k (i:Int)))
  (h0:i<len):Soft P n env S (.indexAddr t x y) (.pointer (some ⟨b,o1+i*sz,none⟩)):=by
 have:=indexAddr (P:=P) (n:=n) (env:=env) (S:=S) (t:=t) hx hy ⟨by omega,by omega⟩;simpa using this
theorem len_slice {o1:Option Addr}[h:USlice P t e](hx:ev env x=some (.slice o1 len cap)):
  Soft P n env S (.call {callee:=.builtin .len,args:=#[x],argTypes:=#[t] }) (.int .i64 (len:Int)):=fun a ha o ho w _=>by
 simp[execOp,ho,ha.ev hx,resolve,invoke,builtin,Builtin.len_,run_underlying h.u,goInt]
theorem max2 {t:Array TypeId}{x y:Operand}{k:IntKind}{i j:Int}(hx:ev env x=some (.int k i))(hy:ev env y=some (.int k j)):
  Soft P n env S (.call {callee:=.builtin .max,args:=#[x,y],argTypes:=t }) (.int k (max i j)):=fun a ha o ho w _=>by
 have:(if i<j then j else i)=max i j:=by omega
 simp[execOp,ho,ha.ev hx,ha.ev hy,resolve,invoke,builtin,Builtin.max_,Builtin.max2,this]
theorem min2 {t:Array TypeId}{x y:Operand}{k:IntKind}{i j:Int}(hx:ev env x=some (.int k i))(hy:ev env y=some (.int k j)):
  Soft P n env S (.call {callee:=.builtin .min,args:=#[x,y],argTypes:=t }) (.int k (min i j)):=fun a ha o ho w _=>by
 have:(if j<i then j else i)=min i j:=by omega
 simp[execOp,ho,ha.ev hx,ha.ev hy,resolve,invoke,builtin,Builtin.min_,Builtin.min2,this]
theorem load {t:TypeId}{x:Operand}{p:Addr}{v:Value}[h:UOne P t](hx:ev env x=some (.pointer (some p)))(hc:∀w,S w->w.cell? p=some v):Soft P n env S (.load t x) v:=fun a ha o ho w hw=>by
 simp[execOp,ho,ha.ev hx,Instr.loadAt,Instr.sureAddr,loadVar,h.a,hc w hw]
theorem store {t:TypeId}{x y:Operand}{p:Addr}{v u:Value}{ty:TypeId}{pos:String}{aft:Array Edge}{gd:Option (Nat×Bool)}[hs:USize P t 1](hx:ev env x=some (.pointer (some p)))(hy:ev env y=some v)(hv:v.oneCell'=true)
  (hc:w.cell? p=some u) (hf:w.frozen? p=false) (h:E n env (w.setCell p v) K):OW P n env w ⟨none,.store t x y,ty,pos,aft,gd⟩ K Q:=by
 refine effU (w':=w.setCell p v) (fun a ha=>?_) h
 have hcs:v.cells=#[v]:=by cases v<;>first|rfl|(simp[Value.oneCell'] at hv)
 simp[execOp,ha.ev hx,ha.ev hy,Instr.storeAt,Instr.sureAddr,storeVar,hcs,hs.s,storeCells,run_store P w _ v _ hv,hc,hf,Addr.add_zero']
end
section
variable {P:Program} {ops:Array Oper} {Q:Exit->Act->World->Prop} {S:World->Prop} {hold:Nat->Bool}
def wpAnyX (P:Program)(ops:Array Oper)(Q:Exit->Act->World->Prop)(S:World->Prop)(hold:Nat->Bool):Nat->Array Bool->Act->World->Prop
 |0,listed,a,w=>Region.ready .any ops listed=[]/\Q .normal a w
 |fuel+1,listed,a,w=>
  (Region.ready .any ops listed=[]->Q .normal a w)/\
  ∀i∈Region.ready .any ops listed,wpOp P ops Q i (fun a' w'=>(hold i=true->S w->S w')/\wpAnyX P ops Q S hold fuel (listed.setIfInBounds i true) a' w') a w
theorem wpAny_of_X:∀(fuel:Nat) (listed:Array Bool) (a:Act) (w:World),wpAnyX P ops Q S hold fuel listed a w->wpAny P .any ops Q fuel listed a w
 |0,_,_,_,h=>h
 |fuel+1,_,_,_,h=>⟨h.1,fun i hi=>wpOp_mono (fun a' w' h'=>wpAny_of_X fuel _ a' w' h'.2) (h.2 i hi)⟩
def Waiting (ops:Array Oper)(listed:Array Bool)(i:Nat)(W:Nat->Bool):Prop:=
 ∀j oj,ops[j]?=some oj->W j=true->listed.getD j true=false/\∃e∈oj.after,Region.binds .any e=true/\(e.on=i\/(W e.on=true/\(ops[e.on]?).isSome=true))
theorem wpAnyX_first {i:Nat}{oi:Oper}{v:Value}(hi:ops[i]?=some oi)(hsel:∀(j:Nat) (o:Oper) cs b,ops[j]?=some o->o.op≠.select cs b)
  (hQ:∀c a w,Q (.panic c) (a.put oi.dst v) w->Q (.panic c) a w) (W:Nat->Bool) (T:World->Prop):
  ∀(fuel:Nat) (listed:Array Bool) (a:Act) (w:World),
   Waiting ops listed i W->
   (∀j oj,ops[j]?=some oj->j≠i->listed.getD j true=false->W j=false->oi.apart ops oj=true/\((hold j=true/\T=S)\/T=fun _=>True))->
   i∈Region.ready .any ops listed->YieldsIf P ops T oi v a->T w->
   wpAnyX P ops Q S hold fuel (listed.setIfInBounds i true) (a.put oi.dst v) w->wpAnyX P ops Q S hold (fuel+1) listed a w:=by
 intro fuel
 induction fuel with
 |zero=>
  intro listed a w _ _ hr hy hS H;refine⟨fun h=>(by rw[h] at hr;cases hr),fun j hj=>?_⟩;by_cases hji:j=i
  ·subst hji;exact hy.wpOp hi hS ⟨fun _ h=>h,H⟩
  ·have:=ready_mono hj hji;rw[H.1] at this;cases this
 |succ fuel ih=>
  intro listed a w hwait hfree hr hy hS H;refine⟨fun h=>(by rw[h] at hr;cases hr),fun j hj=>?_⟩;by_cases hji:j=i
  ·subst hji;exact hy.wpOp hi hS ⟨fun _ h=>h,H⟩
  ·have h1:=H.2 j (ready_mono hj hji);obtain⟨hjun,oj,hoj,hall⟩:=mem_ready.1 hj;have hWj:W j=false:=by
    cases hWc:W j with
    |false=>rfl
    |true=>
     exfalso;obtain⟨_,e,he,hb,hor⟩:=hwait j oj hoj hWc;have h1:=hall e he hb
     rcases hor with heq|⟨hWe,hsome⟩
     ·have h0:=(mem_ready.1 hr).1;rw[heq] at h1
      rcases Nat.lt_or_ge i listed.size with h'|h'
      ·simp[h'] at h0 h1;rw[h0] at h1;cases h1
      ·simp[Array.getElem?_eq_none h'] at h1
     ·obtain⟨oe,hoe⟩:=Option.isSome_iff_exists.1 hsome;obtain⟨hun,_⟩:=hwait e.on oe hoe hWe
      rcases Nat.lt_or_ge e.on listed.size with h'|h'
      ·simp[h'] at hun h1;rw[hun] at h1;cases h1
      ·simp[Array.getElem?_eq_none h'] at h1
   obtain⟨hap,hhold⟩:=hfree j oj hoj hji hjun hWj;have h2:=wpOp_putIf hoj hap (fun cs b=>hsel i oi cs b hi) (fun cs b=>hsel j oj cs b hoj) hQ hy h1;have hfree':∀k ok,ops[k]?=some ok->k≠i->(listed.setIfInBounds j true).getD k true=false->
     W k=false->oi.apart ops ok=true/\((hold k=true/\T=S)\/T=fun _=>True):=fun k ok hk hki hun hno=>by
    refine hfree k ok hk hki ?_ hno;by_cases hjk:j=k
    ·subst hjk;exact hjun
    ·rw[getD_set_ne true hjk] at hun;exact hun
   have hwait':Waiting ops (listed.setIfInBounds j true) i W:=fun k ok hk hWk=>by
    obtain⟨h1,h2⟩:=hwait k ok hk hWk;have hjk:j≠k:=fun e=>by subst e;rw[hWj] at hWk;cases hWk
    exact⟨by rw[getD_set_ne true hjk];exact h1,h2⟩
   refine wpOp_mono (fun a' w' h3=>?_) h2;have hS':T w':=by
    rcases hhold with ⟨h1,h2⟩|h2
    ·rw[h2];exact h3.2.1 h1 (h2▸hS)
    ·rw[h2];trivial
   refine⟨h3.2.1,ih (listed.setIfInBounds j true) a' w' hwait' hfree' (ready_mono hr (Ne.symm hji)) h3.1 hS' ?_⟩;rw[Array.setIfInBounds_comm _ _ hji];exact h3.2.2
def isPure (o:Oper):Bool:=match o.op with
 | .move .. =>true | .pick .. =>true | .unOp .. =>true | .fieldAddr .. =>true | .indexAddr .. =>true | .binOp .. =>true | .nilCheck .. =>true | .build .. =>true
 |_=>false
def Tame (o:Oper)(S:World->Prop):World->Prop:=match isPure o with|true=>fun _=>True|false=>S
theorem tame_of {o:Oper}{S:World->Prop}{w:World}(h:S w):Tame o S w:=by unfold Tame;cases isPure o<;>first|trivial|exact h
theorem tame_eq {o:Oper}{S:World->Prop}{h:Bool}(hh:(h||isPure o)=true):(h=true/\Tame o S=S)\/Tame o S=fun _=>True:=by
 unfold Tame
 cases hp:isPure o with
 |true=>exact .inr rfl
 |false=>rw[hp,Bool.or_false] at hh;exact .inl ⟨hh,rfl⟩
def waits (ops:Array Oper)(listed:Array Bool)(i:Nat):List Nat->List Nat->List Nat
 |[],acc=>acc
 | j::r,acc=>waits ops listed i r (match ops[j]? with
   |some oj=>if !(listed.getD j true)&&oj.after.any (fun e=>Region.binds .any e&&(Nat.beq e.on i||(acc.any (Nat.beq e.on)&&(ops[e.on]?).isSome))) then j::acc else acc
   |none=>acc)
theorem beq_iff {a b:Nat}:Nat.beq a b=true<->a=b:=⟨Nat.eq_of_beq_eq_true,fun h=>by subst h;simp⟩
theorem any_iff {l:List Nat}{a:Nat}:l.any (Nat.beq a)=true<->a∈l:=by
 rw[List.any_eq_true];constructor
 ·rintro⟨x,h1,h2⟩;rw[beq_iff] at h2;exact h2▸h1
 ·intro h;exact⟨a,h,beq_iff.2 rfl⟩
theorem waits_spec {listed:Array Bool}{i:Nat}:∀(js acc:List Nat),Waiting ops listed i (fun j=>acc.any (Nat.beq j))->Waiting ops listed i (fun j=>(waits ops listed i js acc).any (Nat.beq j))
 |[],_,h=>h
 |j::r,acc,h=>by
  unfold waits;apply waits_spec r
  cases hj:ops[j]? with
  |none=>exact h
  |some oj=>
   dsimp only;split
   ·rename_i hc;simp only[Bool.and_eq_true,Bool.not_eq_true'] at hc;intro k ok hk hW;rw[any_iff,List.mem_cons] at hW
    rcases hW with rfl|hW
    ·rw[hj] at hk;cases hk;refine⟨hc.1,?_⟩;obtain⟨e,he,h2⟩:=Array.any_eq_true'.1 hc.2;rw[Bool.and_eq_true,Bool.or_eq_true,beq_iff,Bool.and_eq_true,any_iff] at h2;refine⟨e,he,h2.1,h2.2.imp id fun h3=>⟨?_,h3.2⟩⟩;rw[any_iff];exact List.mem_cons_of_mem _ h3.1
    ·obtain⟨h1,e,he,hb,h2⟩:=h k ok hk (any_iff.2 hW);refine⟨h1,e,he,hb,h2.imp id fun h3=>⟨?_,h3.2⟩⟩;rw[any_iff];exact List.mem_cons_of_mem _ (any_iff.1 h3.1)
   ·exact h
def freeX (ops:Array Oper)(hold:Nat->Bool)(listed:Array Bool)(i:Nat):Bool:=
 match ops[i]? with
 |none=>false
 | some oi=>(fun W=>(List.range ops.size).all fun j=>Nat.beq j i||listed.getD j true||List.any W (Nat.beq j)||match ops[j]? with
   |some oj=>oi.apart ops oj&&(hold j||isPure oi)
   |none=>true) (waits ops listed i (List.range ops.size) [])
theorem freeX_spec {i:Nat}{oi:Oper}{listed:Array Bool}(hi:ops[i]?=some oi)(h:freeX ops hold listed i=true)(j:Nat)(oj:Oper)
  (hj:ops[j]?=some oj) (hne:j≠i) (hun:listed.getD j true=false) (hno:(waits ops listed i (List.range ops.size) []).any (Nat.beq j)=false):
  oi.apart ops oj=true/\((hold j=true/\Tame oi S=S)\/Tame oi S=fun _=>True):=by
 simp only[freeX,hi,List.all_eq_true,List.mem_range] at h;have h1:=h j (Array.getElem?_eq_some_iff.1 hj).1;simp only[hj,hun,hno,Bool.or_false,beq_iff,hne,Bool.or_eq_true,false_or,Bool.and_eq_true] at h1;exact⟨h1.1,tame_eq (by rw[Bool.or_eq_true];exact h1.2)⟩
def planOk (ops:Array Oper)(hold:Nat->Bool):List (Nat×Bool)->Array Bool->Bool
 |[],listed=>(Region.ready .any ops listed).isEmpty
 |(i,true)::r,listed=>(Region.ready .any ops listed).contains i&&freeX ops hold listed i&&planOk ops hold r (listed.setIfInBounds i true)
 |(i,false)::r,listed=>(Region.ready .any ops listed)==[i]&&planOk ops hold r (listed.setIfInBounds i true)
def wpPlan (P:Program)(ops:Array Oper)(Q:Exit->Act->World->Prop)(S:World->Prop)(hold:Nat->Bool):List (Nat×Bool)->Act->World->Prop
 |[],a,w=>Q .normal a w
 |(i,true)::r,a,w=>∃oi v,ops[i]?=some oi/\YieldsIf P ops (Tame oi S) oi v a/\Tame oi S w/\wpPlan P ops Q S hold r (a.put oi.dst v) w
 |(i,false)::r,a,w=>wpOp P ops Q i (fun a' w'=>(hold i=true->S w->S w')/\wpPlan P ops Q S hold r a' w') a w
theorem wpAnyX_of_plan (hs:Region.noSelect ops=true)(hQ:∀c a d v w,Q (.panic c) (Act.put a d v) w->Q (.panic c) a w):∀(plan:List (Nat×Bool)) (listed:Array Bool) (a:Act) (w:World),
  planOk ops hold plan listed=true->wpPlan P ops Q S hold plan a w->wpAnyX P ops Q S hold plan.length listed a w
 |[],listed,a,w,hp,h=>⟨by simpa[planOk] using hp,h⟩
 |(i,true)::r,listed,a,w,hp,⟨oi,v,hi,hy,hS,h⟩=>by
  simp only[planOk,Bool.and_eq_true] at hp;exact wpAnyX_first hi (Region.noSelect_spec hs) (fun c a w=>hQ c a oi.dst v w) _ (Tame oi S) r.length listed a w (waits_spec (List.range ops.size) [] (fun j oj _ h=>by simp at h)) (freeX_spec hi hp.1.2) (by simpa using hp.1.1) hy hS (wpAnyX_of_plan hs hQ r _ _ _ hp.2 h)
 |(i,false)::r,listed,a,w,hp,h=>by
  simp only[planOk,Bool.and_eq_true] at hp;have hr:Region.ready .any ops listed=[i]:=by simpa using hp.1
  refine⟨fun h0=>absurd (hr▸h0) (by simp),?_⟩;rw[hr];intro j hj;have hj:j=i:=by simpa using hj
  subst hj;exact wpOp_mono (fun a' w' h3=>⟨h3.1,wpAnyX_of_plan hs hQ r _ a' w' hp.2 h3.2⟩) h
end
class Mixed (P:Program):Prop where m:P.follows .mixedOrders=true
section
variable {P:Program} {n:Nat} {env:Env} {w:World} {Q:Exit->Act->World->Prop} {S:World->Prop} {hold:Nat->Bool}
theorem drawn {id:Nat}{l:List Oper}(S:World->Prop)(hold:Nat->Bool)(plan:List (Nat×Bool))[hm:Mixed P](hlen:Nat.beq l.length plan.length=true)(hs:Region.noSelect l.toArray=true)
  (hp:planOk l.toArray hold plan (Array.replicate plan.length false)=true)
  (h:E n env w.drew (wpPlan P l.toArray (NoPanic Q) S hold plan)):E n env w ((Code.region id l.toArray true).wp P Q):=by
 constructor;intro a ha;refine wp_region_noPanic (wp_region_any hm.m (wpAny_of_X (S:=S) (hold:=hold) _ _ _ _ ?_));have hlen:l.toArray.size=plan.length:=by simpa using beq_iff.1 hlen
 rw[hlen];exact wpAnyX_of_plan hs (fun c a d v w h=>h) plan _ a _ hp (h.run a ha)
section
variable {ops:Array Oper} {i d:Nat} {t:Bool} {r:List (Nat×Bool)} {v:Value} {p:Prop} [Decidable p]
theorem pguard_true (_hd:(nth ops.toList i).bind (gslot ops)=some d)(hp:lk env d=some v)(hv:v=.bool (decide p))(h:p)(k:E n ((d,.bool true)::env) w (wpPlan P ops Q S hold ((i,t)::r))):E n env w (wpPlan P ops Q S hold ((i,t)::r)):=
 relit (hv▸hp) (by simpa using h) k
theorem pguard_false (_hd:(nth ops.toList i).bind (gslot ops)=some d)(hp:lk env d=some v)(hv:v=.bool (decide p))(h:¬ p)(k:E n ((d,.bool false)::env) w (wpPlan P ops Q S hold ((i,t)::r))):E n env w (wpPlan P ops Q S hold ((i,t)::r)):=
 relit (hv▸hp) (by simpa using h) k
end
variable {ops:Array Oper} {i d:Nat} {p:Op} {r:List (Nat×Bool)} {ty:TypeId} {pos:String} {aft:Array Edge} {gd:Option (Nat×Bool)} {K:Act->World->Prop}
theorem pguard_bool {t p:Bool}(_hd:(nth ops.toList i).bind (gslot ops)=some d)(hp:lk env d=some (.bool p))(h1:p=true->E n ((d,.bool true)::env) w (wpPlan P ops Q S hold ((i,t)::r)))
  (h2:p=false->E n ((d,.bool false)::env) w (wpPlan P ops Q S hold ((i,t)::r))):E n env w (wpPlan P ops Q S hold ((i,t)::r)):=by
 have hp':lk env d=some (.bool (decide (p=true))):=by rw[hp];cases p<;>rfl
 cases p
 ·exact relit hp' rfl (h2 rfl)
 ·exact relit hp' rfl (h1 rfl)
theorem done (h:E n env w (Q .normal)):E n env w (wpPlan P ops (NoPanic Q) S hold []):=⟨h.run⟩
structure TW (P:Program)(n:Nat)(env:Env)(w:World)(o:Oper)(S:World->Prop)(K:Act->World->Prop):Prop where
 run:∀a,Has n env a->∃v,(∀w,S w->(execOp a.eval o).run P w=.ok (.value v) w)/\K (a.put o.dst v) w
theorem take {o:Oper}(hi:nth ops.toList i=some o)(hw:Wanted n env ops o true)(hp:isPure o=false)(hS:S w)(h:TW P n env w o S (wpPlan P ops Q S hold r)):E n env w (wpPlan P ops Q S hold ((i,true)::r)):=by
 constructor;intro a ha;obtain⟨v,h1,h2⟩:=h.run a ha;have ht:Tame o S=S:=by unfold Tame;rw[hp]
 exact⟨o,v,(nth_array ops i).symm.trans hi,by rw[ht];exact .inl ⟨hw a ha,h1⟩,by rw[ht];exact hS,h2⟩
theorem take_pure {o:Oper}(hi:nth ops.toList i=some o)(hw:Wanted n env ops o true)(hp:isPure o=true)(h:TW P n env w o (fun _=>True) (wpPlan P ops Q S hold r)):E n env w (wpPlan P ops Q S hold ((i,true)::r)):=by
 constructor;intro a ha;obtain⟨v,h1,h2⟩:=h.run a ha;have ht:Tame o S=fun _=>True:=by unfold Tame;rw[hp]
 exact⟨o,v,(nth_array ops i).symm.trans hi,by rw[ht];exact .inl ⟨hw a ha,h1⟩,by rw[ht];trivial,h2⟩
theorem tsoft {v:Value}(hs:Soft P n env S p v)(hd:Nat.blt d n=true)(h:E n ((d,v)::env) w K):
  TW P n env w ⟨some d,p,ty,pos,aft,gd⟩ S K:=⟨fun a ha=>⟨v,fun w hw=>hs a ha _ rfl w hw,h.run _ (ha.put (d:=d) v hd)⟩⟩
theorem take_not (hi:nth ops.toList i=some ⟨some d,p,ty,pos,aft,gd⟩)(hw:Wanted n env ops ⟨some d,p,ty,pos,aft,gd⟩ false)
  (hd:Nat.blt d n=true) (hS:Tame ⟨some d,p,ty,pos,aft,gd⟩ S w) (h:E n ((d,undef)::env) w (wpPlan P ops Q S hold r)):E n env w (wpPlan P ops Q S hold ((i,true)::r)):=⟨fun a ha=>
 ⟨_,undef,(nth_array ops i).symm.trans hi,.inr ⟨hw a ha,rfl⟩,hS,h.run _ (ha.put (d:=d) undef hd)⟩⟩
def Went (S:World->Prop)(hold:Nat->Bool)(i:Nat)(K:Act->World->Prop):Act->World->Prop:=fun a w=>(hold i=true->S w)/\K a w
theorem gow {o:Oper}(hi:nth ops.toList i=some o)(hw:Wanted n env ops o true)
  (h:OW P n env w o (Went S hold i (wpPlan P ops Q S hold r)) Q):E n env w (wpPlan P ops Q S hold ((i,false)::r)):=by
 constructor;intro a ha;have hi:=(nth_array ops i).symm.trans hi;have h1:wpOp P ops Q i (Went S hold i (wpPlan P ops Q S hold r)) a w:=by
  unfold wpOp;simp only[hi,hw a ha,if_true];exact .inl (h.run a ha)
 exact wpOp_mono (fun a' w' h=>⟨fun h2 _=>h.1 h2,h.2⟩) h1
theorem go_not (hi:nth ops.toList i=some ⟨some d,p,ty,pos,aft,gd⟩)(hw:Wanted n env ops ⟨some d,p,ty,pos,aft,gd⟩ false)
  (hd:Nat.blt d n=true) (h:E n ((d,undef)::env) w (wpPlan P ops Q S hold r)):E n env w (wpPlan P ops Q S hold ((i,false)::r)):=by
 constructor;intro a ha;have hi:=(nth_array ops i).symm.trans hi;show wpOp P ops Q i _ a w;unfold wpOp;simp only[hi,hw a ha];exact⟨fun _ h=>h,h.run _ (ha.put (d:=d) undef hd)⟩
theorem went (hS:S w)(h:E n env w K):E n env w (Went S hold i K):=⟨fun a ha=>⟨fun _=>hS,h.run a ha⟩⟩
theorem went_free (hi:hold i=false)(h:E n env w K):E n env w (Went S hold i K):=⟨fun a ha=>⟨fun h2=>(by rw[hi] at h2;cases h2),h.run a ha⟩⟩
end
variable {d:Nat} {ty:TypeId} {pos:String} {aft:Array Edge} {gd:Option (Nat×Bool)}
class UElem (P:Program)(e:TypeId)(z:outParam Value)(size bytes:outParam Nat):Prop where i:(P.info? e).map (fun i=>(i.zero,i.size,i.bytes))=some (some z,size,bytes)
class UFunc (P:Program)(f:FuncId):Prop where c:∀args w,(callFunc f args).run P w=.ok (.enter f args) w
section
variable {P:Program} {n:Nat} {env:Env} {w:World} {Q:Exit->Act->World->Prop} {K:Act->World->Prop}
variable {t e:TypeId} {x y:Operand}
theorem call {d:Nat}{f:FuncId}{xs:List Operand}{ts:Array TypeId}{vs:List Value}{R:Ending->World->Prop}[hf:UFunc P f]
  (hxs:evs env xs=some vs) (hc:Calls P f vs.toArray w R) (hd:Nat.blt d n=true) (h:∀e w',R e w'->∃v,e=.returned v/\E n ((d,v)::env) w' K):
  OW P n env w ⟨some d,.call {callee:=.value (.func f),args:=xs.toArray,argTypes:=ts },ty,pos,aft,gd⟩ K Q:=by
 constructor;intro a ha;show Oper.upon P _ a K Q ((execOp a.eval _).run P w);have hr:(execOp a.eval ⟨some d,.call {callee:=.value (.func f),args:=xs.toArray,argTypes:=ts },ty,pos,aft,gd⟩).run P w=.ok (.enter f vs.toArray) w:=by
  have he:(xs.toArray.map a.eval)=vs.toArray:=by simp[ha.evs hxs]
  have hv:a.eval (.func f)=.func (.func f) #[] #[]:=rfl;simp only[execOp,resolve,hv,he];simp[Deferred.ofValue,invoke,hf.c]
 rw[hr];refine Calls.mono hc fun e w' hR=>?_;obtain⟨v,rfl,hk⟩:=h e w' hR;exact hk.run _ (ha.put (d:=d) v hd)
theorem box {e:TypeId}{x:Operand}{v:Value}(hx:ev env x=some v)(hd:Nat.blt d n=true)
  (h:∀b w',w.heap.size<=b->Row w' b e v.cells.toList->Upd (fun _=>False) w w'->E n ((d,.pointer (some ⟨b,0,none⟩))::env) w' K):OW P n env w ⟨some d,.box e x,ty,pos,aft,gd⟩ K Q:=by
 refine eff (v:=.pointer (some ⟨w.heap.size,0,none⟩)) (w':=w.alloc (.cells v.cells e)) (fun a ha=>?_) hd ?_
 ·simp[execOp,ha.ev hx,Instr.box,newVar,newRow]
 ·exact h _ _ (Nat.le_refl _) (Row.new w e v.cells.toList) ((Upd.refl _ _).alloc _)
theorem alloc {e:TypeId}{z:Value}[hz:UZero P e z](hd:Nat.blt d n=true)
  (h:∀b w',w.heap.size<=b->Row w' b e z.cells.toList->Upd (fun _=>False) w w'->E n ((d,.pointer (some ⟨b,0,none⟩))::env) w' K):OW P n env w ⟨some d,.alloc e,ty,pos,aft,gd⟩ K Q:=by
 refine eff (v:=.pointer (some ⟨w.heap.size,0,none⟩)) (w':=w.alloc (.cells z.cells e)) (fun a ha=>?_) hd ?_
 ·simp[execOp,Instr.alloc,hz.z,newVar,newRow]
 ·exact h _ _ (Nat.le_refl _) (Row.new w e z.cells.toList) ((Upd.refl _ _).alloc _)
def evp (env:Env):List (Nat×Operand)->Option (List (Nat×Value))
 |[]=>some []
 |(i,x)::r=>match ev env x,evp env r with
  |some v,some l=>some ((i,v)::l)
  |_,_=>none
theorem _root_.Go.RX.Has.evp {n:Nat}{env:Env}{a:Act}(h:Has n env a):∀{xs:List (Nat×Operand)} {vs:List (Nat×Value)},RX.evp env xs=some vs->xs.map (fun (i,x)=>(i,a.eval x))=vs
 |[],vs,hx=>by simpa[RX.evp] using hx
 |(i,x)::r,vs,hx=>by
  simp only[RX.evp] at hx;split at hx
  ·rename_i v l h1 h2;cases hx;simp[h.ev h1,h.evp h2]
  ·cases hx
theorem build {S:World->Prop}{t:TypeId}{parts:List (Nat×Operand)}{pv:List (Nat×Value)}{v:Value}(hx:evp env parts=some pv)(hb:∀w,(Instr.build t pv.toArray).run P w=.ok v w):Soft P n env S (.build t parts.toArray) v:=fun a ha o ho w _=>by
 have:=ha.evp hx;simp[execOp,ho,this,hb]
theorem store_row {b i:Nat}{v:Value}{vs:List Value}[hs:USize P t 1](hx:ev env x=some (.pointer (some ⟨b,i,none⟩)))(hy:ev env y=some v)
  (hr:Row w b e vs) (hv:v.oneCell'=true) (hi:i<vs.length) (h:∀w',Row w' b e (vs.set i v)->Upd (fun k=>k=b) w w'->E n env w' K):OW P n env w ⟨none,.store t x y,ty,pos,aft,gd⟩ K Q:=
 store hx hy hv (hr.cell_some (List.getElem?_eq_getElem hi)) (hr.free i) (h _ (hr.set i v) ((Upd.refl (fun k=>k=b) w).setCell (p:=⟨b,i,none⟩) (fun _=>rfl) v))
theorem make {kx ky:IntKind}{c:Nat}{i:Int}{z:Value}{size bytes:Nat}[ht:USlice P t e][hi:UElem P e z size bytes]
  (hx:ev env x=some (.int kx i)) (hy:ev env y=some (.int ky i)) (hi0:i=(c:Int)) (hb:bytes*c<=281474976710656) (h63:c<=9223372036854775807) (hd:Nat.blt d n=true)
  (h:∀b w',w.heap.size<=b->Row w' b e (madeCells z.cells (c*size)).toList->Upd (fun _=>False) w w'->E n ((d,.slice (some ⟨b,0,none⟩) c c)::env) w' K):OW P n env w ⟨some d,.makeSlice t x y,ty,pos,aft,gd⟩ K Q:=by
 obtain⟨ii,h0,h1,h2,h3⟩:=info_parts hi.i;subst h2;subst h3;subst hi0;have hr:=run_make (P:=P) w t e ii z ht.u h0 h1 kx ky (c:Int) (c:Int) (by omega) (Int.le_refl _) (by
  have h:((ii.bytes*c:Nat):Int)<=281474976710656:=by omega
  rwa[Int.natCast_mul] at h) (by omega)
 simp only[Int.toNat_natCast] at hr;refine eff (v:=.slice (some ⟨w.heap.size,0,none⟩) c c) (fun a ha=>?_) hd (h _ _ (Nat.le_refl _) (Row.new w e (madeCells z.cells (c*ii.size)).toList) ((Upd.refl _ _).alloc _));simp[execOp,ha.ev hx,ha.ev hy,hr]
theorem append {x y:Operand}{t e:TypeId}{z:Value}{sz bytes m c k B:Nat}{v:Value}{ad:Addr}{xs news:List Value}[ht:USlice P t e][hi:UElem P e z sz bytes]
  (hd:Nat.blt d n=true) (hx:ev env x=some v) (hy:ev env y=some (.slice (some ad) m c)) (hown:w.ownsRow B e sz v k xs) (hB:B<=w.heap.size)
  (hl:news.length=m*sz) (hnews:∀j u,news[j]?=some u->w.cell? (ad.add j)=some u) (h1:∀u∈news,u.oneCell'=true) (hzs:z.cells.size=sz) (hsz:0<sz) (h63:k+m<=maxLen) (hbytes:(k+m)*bytes<=140737488355328)
  (h:∀v' w',w'.ownsRow B e sz v' (k+m) (xs++news)->Upd (fun j=>v.ownBlock=some j) w w'->(v'.ownBlock=v.ownBlock\/v'.ownBlock=some w.heap.size)->E n ((d,v')::env) w' K):OW P n env w ⟨some d,.call {callee:=.builtin .append,args:=#[x,y],argTypes:=#[t,t] },ty,pos,aft,gd⟩ K Q:=by
 obtain⟨ii,h0,h2,h3,h4⟩:=info_parts hi.i;obtain⟨v',w',hr,hown',hg,_,hlies⟩:=run_append_own_at (P:=P) w B t ty e ii z sz bytes ht.u h0 h2 h3 h4 hzs hsz v k xs hown ad m c news hl hnews h1 h63 hbytes hB;refine eff (v:=v') (w':=w') (fun a ha=>?_) hd (h v' w' hown' ⟨hg.os,hg.tape,hg.output,hg.size,fun j hj hn=>hg.block j hj (fun e=>hn e.symm)⟩ hlies);simp[execOp,ha.ev hx,ha.ev hy,resolve,invoke,builtin,hr]
end
section
variable {P:Program} {w:World} {R:Ending->World->Prop}
def mkEnv:Nat->List Value->Env
 |_,[]=>[]
 |k,v::r=>(k,v)::mkEnv (k+1) r
theorem mkEnv_get:∀(l:List Value) (k t:Nat) (v:Value),lk (mkEnv k l) t=some v->k<=t/\l[t-k]?=some v
 |[],k,t,v,h=>by simp[mkEnv,lk] at h
 |u::r,k,t,v,h=>by
  rw[mkEnv,lk_cons] at h;split at h
  ·rename_i e;subst e;cases h;simp
  ·obtain⟨h1,h2⟩:=mkEnv_get r (k+1) t v h;refine⟨by omega,?_⟩;rw[show t-k=(t-(k+1))+1 by omega];simpa using h2
theorem enter {f:FuncId}{fn:Func}{c:Code}{args:List Value}{n:Nat}(hf:P.funcs[f]?=some fn)(hb:fn.body=some c)(hn:fn.ntmps=n)(ha:Nat.ble args.length n=true)
  (h:E n (mkEnv 0 args) w (c.wp P (bodyPost P fn R))):Calls P f args.toArray w R:=by
 refine calls_of_wp hf hb (h.run _ ⟨rfl,?_,fun t v ht=>?_⟩)
 ·have:args.length<=n:=Nat.le_of_ble_eq_true ha;simp[hn];omega
 ·obtain⟨_,h2⟩:=mkEnv_get args 0 t v ht;have:t<args.length:=by
   rcases Nat.lt_or_ge t args.length with h|h
   ·exact h
   ·simp[h] at h2
  rw[Array.getElem?_append_left (by simpa using this)];simpa using h2
variable {n:Nat} {env:Env}
variable {fn:Func} {t:Tmp} {v:Value}
theorem ret1 (hr:fn.results=#[.tmp t])(hv:lk env t=some v)(h:R (.returned v) w):E n env w (bodyPost P fn R .ret):=⟨fun a ha=>
 bodyPost_ret (results_tmp hr _ _ _) ha.defers (by have:=ha.get t v hv;simpa[this] using h)⟩
theorem ret2 {u:Tmp}{x:Value}(hr:fn.results=#[.tmp t,.tmp u])(hv:lk env t=some v)(hx:lk env u=some x)(h:R (.returned (.tuple #[v,x])) w):E n env w (bodyPost P fn R .ret):=⟨fun a ha=>
 bodyPost_ret (results_tmp2 hr _ _ _) ha.defers (by have h1:=ha.get t v hv;have h2:=ha.get u x hx;simpa[h1,h2] using h)⟩
theorem ret3 {u s:Tmp}{x y:Value}(hr:fn.results=#[.tmp t,.tmp u,.tmp s])(hv:lk env t=some v)(hx:lk env u=some x)(hy:lk env s=some y)(h:R (.returned (.tuple #[v,x,y])) w):E n env w (bodyPost P fn R .ret):=⟨fun a ha=>
 bodyPost_ret (v:=.tuple #[v,x,y]) (by have h1:=ha.get t v hv;have h2:=ha.get u x hx;have h3:=ha.get s y hy;simp[results,hr,h1,h2,h3]) ha.defers h⟩
theorem ret0 (hr:fn.results=#[])(h:R (.returned (.tuple #[])) w):E n env w (bodyPost P fn R .ret):=⟨fun _ ha=>
 bodyPost_ret (results_none hr _ _ _) ha.defers h⟩
theorem end0 (hr:fn.results=#[])(h:R (.returned (.tuple #[])) w):E n env w (bodyPost P fn R .normal):=⟨fun _ ha=>
 bodyPost_end (results_none hr _ _ _) ha.defers h⟩
end
variable {f:Int->Option Value}
def isKey (v:Value)(k:Int):Bool:=match v with
 | .int .i64 a=>a==k
 |_=>false
@[simp] theorem isKey_int (a k:Int):isKey (.int .i64 a) k=(a==k):=rfl
def look (k:Int):List MapEntry->Option Value
 |[]=>none
 |e::r=>if isKey e.key k then some e.val else look k r
def MapF (w:World)(b:Nat)(f:Int->Option Value):Prop:=
 ∃es clock,w.heap[b]?=some (.map es clock)/\(∀e∈es.toList,∃k,e.key=.int .i64 k)/\∀k,look k es.toList=f k
theorem MapF.lt {w:World}{b:Nat}(h:MapF w b f):b<w.heap.size:=by
 obtain⟨es,c,h,_⟩:=h;exact (Array.getElem?_eq_some_iff.1 h).1
theorem MapF.keep {O:Nat->Prop}{w w':World}{b:Nat}(h:MapF w b f)(hu:Upd O w w')(hb:¬ O b):MapF w' b f:=by
 have hl:=h.lt;obtain⟨es,c,h,h2⟩:=h;exact⟨es,c,(hu.block b hl hb).trans h,h2⟩
section
variable {P:Program}
theorem findNow_int (k:Int):∀(l:List MapEntry) (i:Nat),(∀e∈l,∃k,e.key=.int .i64 k)->
  ∃r,Instr.findNow (.int .i64) (.int .i64 k) l i=some r/\r.map (·.2)=look k l/\(∀j v,r=some (j,v)->∃m e,j=i+m/\l[m]?=some e/\e.key=.int .i64 k/\∀x,look k (l.modify m fun e=>{e with key:=.int .i64 k,val:=x })=some x)
 |[],i,_=>⟨none,rfl,rfl,fun j v h=>by cases h⟩
 |e::r,i,h=>by
  obtain⟨k',hk⟩:=h e (by simp);by_cases hkk:k'=k
  ·subst hkk;refine⟨some (i,e.val),by simp[Instr.findNow,hk,Instr.sameNow],by simp[look,hk],fun j v hj=>?_⟩;cases hj;exact⟨0,e,rfl,rfl,hk,fun x=>by simp[look]⟩
  ·have hne:isKey e.key k=false:=by rw[hk];simp[hkk]
   obtain⟨r',h1,h2,h3⟩:=findNow_int k r (i+1) (fun e he=>h e (by simp[he]));have hb:(k==k')=false:=by simpa using fun e=>hkk e.symm
   refine⟨r',by simp[Instr.findNow,hk,Instr.sameNow,hb,h1],by simp[look,hne,h2],fun j v hj=>?_⟩;obtain⟨m,e',e1,e2,e3,e4⟩:=h3 j v hj;exact⟨m+1,e',by omega,by simpa using e2,e3,fun x=>by simp[look,hne,e4 x]⟩
theorem look_modify {k k':Int}(hne:k'≠k)(x:Value):∀(l:List MapEntry) (m:Nat) (e:MapEntry),l[m]?=some e->e.key=.int .i64 k->look k' (l.modify m fun e=>{e with key:=.int .i64 k,val:=x })=look k' l
 |[],_,_,h,_=>by simp at h
 |a::l,0,e,h,hk=>by
  simp at h;subst h;have:¬ k=k':=fun e=>hne e.symm;simp[look,hk,this]
 |a::l,m+1,e,h,hk=>by
  have ih:=look_modify hne x l m e (by simpa using h) hk;simp[look,ih]
theorem look_append (k k':Int)(x:Value)(c:Nat):∀l:List MapEntry,look k' (l++[{ key:=.int .i64 k,val:=x,born:=c }])=(look k' l).or (if k'=k then some x else none)
 |[]=>by
  by_cases h:k'=k
  ·simp[look,h]
  ·simp[look,h,show ¬ k=k' from fun e=>h e.symm]
 |e::r=>by
  simp only[List.cons_append,look];split
  ·simp
  ·exact look_append k k' x c r
def upd (f:Int->Option Value)(k:Int)(v:Value):Int->Option Value:=fun k'=>if k'=k then some v else f k'
variable {n:Nat} {env:Env} {w:World} {S:World->Prop} {Q:Exit->Act->World->Prop} {K:Act->World->Prop}
variable {t:TypeId}
theorem run_checkKey {b:Bool}{k:Int}{d:Nat}(h:P.underlying t=some (.int .i64)):(Instr.checkKey b (d+1) t (.int .i64 k)).run P w=.ok () w:=by
 simp[Instr.checkKey,run_underlying h]
theorem run_lookup {k e:TypeId}{b:Nat}{i:Int}{z:Value}(ht:P.underlying t=some (.map k e))(hk:P.underlying k=some (.int .i64))(hz:(zeroValue e).run P w=.ok z w)(hm:MapF w b f)(ok:Bool):
  (Instr.lookup t (.map (some b)) (.int .i64 i) ok).run P w=.ok (if ok then .tuple #[(f i).getD z,.bool (f i).isSome] else (f i).getD z) w:=by
 obtain⟨es,c,hb,hkeys,hf⟩:=hm;obtain⟨r,h1,h2,_⟩:=findNow_int i es.toList 0 hkeys;have hc:=run_checkKey (P:=P) (w:=w) (b:=es.isEmpty) (k:=i) (d:=9999) hk;have hg:(getObj b).run P w=.ok (.map es c) w:=by simp[getObj,Sem.run,hb]
 rw[<- hf i,<-h2]
 cases r with
 |none=>simp[Instr.lookup,run_underlying ht,hg,hc,Instr.findKey,run_underlying hk,h1,hz]
 |some p=>simp[Instr.lookup,run_underlying ht,hg,hc,Instr.findKey,run_underlying hk,h1]
theorem lookup {t k e:TypeId}{x y:Operand}{b:Nat}{f:Int->Option Value}{i:Int}{z:Value}[ht:UMap P t k e][hk:UInt P k .i64][hz:UZero P e z](hx:ev env x=some (.map (some b)))(hy:ev env y=some (.int .i64 i))(hm:∀w,S w->MapF w b f):
  Soft P n env S (.lookup t x y false) ((f i).getD z):=fun a ha o ho w hw=>by
 simp[execOp,ho,ha.ev hx,ha.ev hy,run_lookup ht.u hk.u (hz.z w) (hm w hw)]
theorem makeMap {d:Nat}{ty:TypeId}{pos:String}{aft:Array Edge}{gd:Option (Nat×Bool)}{t k e:TypeId}[UMap P t k e](hd:Nat.blt d n=true)
  (h:∀b w',w.heap.size<=b->MapF w' b (fun _=>none)->Upd (fun _=>False) w w'->E n ((d,.map (some b))::env) w' K):OW P n env w ⟨some d,.makeMap t none,ty,pos,aft,gd⟩ K Q:=by
 refine eff (v:=.map (some w.heap.size)) (w':=w.alloc (.map #[] 0)) (fun a ha=>?_) hd (h _ _ (Nat.le_refl _) ⟨#[],0,heap_alloc_new w _,by simp,fun k=>rfl⟩ ((Upd.refl _ _).alloc _));simp[execOp,Instr.makeMap]
theorem mapUpdate {ty:TypeId}{pos:String}{aft:Array Edge}{gd:Option (Nat×Bool)}{t k e:TypeId}{x y z:Operand}{b:Nat}{f:Int->Option Value}{i:Int}{v:Value}[ht:UMap P t k e][hk:UInt P k .i64]
  (hx:ev env x=some (.map (some b))) (hy:ev env y=some (.int .i64 i)) (hz:ev env z=some v) (hm:MapF w b f)
  (h:∀w',MapF w' b (upd f i v)->Upd (fun k=>k=b) w w'->E n env w' K):OW P n env w ⟨none,.mapUpdate t x y z,ty,pos,aft,gd⟩ K Q:=by
 have hlt:=hm.lt;obtain⟨es,c,hb,hkeys,hf⟩:=hm;obtain⟨r,h1,h2,h3⟩:=findNow_int i es.toList 0 hkeys;have hc:=run_checkKey (P:=P) (w:=w) (b:=false) (k:=i) (d:=9999) hk.u;have hg:(getObj b).run P w=.ok (.map es c) w:=by simp[getObj,Sem.run,hb]
 have hset:∀o,(setObj b o).run P w=.ok () {w with heap:=w.heap.setIfInBounds b o}:=fun o=>by simp[setObj,Sem.run,hb]
 have hupd:∀o,Upd (fun k=>k=b) w {w with heap:=w.heap.setIfInBounds b o}:=fun o=>⟨rfl,rfl,rfl,by simp,fun j hj hn=>Array.getElem?_setIfInBounds_ne (fun e=>hn e.symm)⟩
 cases r with
 |none=>
  have hnone:look i es.toList=none:=by rw[<- h2];rfl
  refine effU (w':={w with heap:=w.heap.setIfInBounds b (.map (es.push {key:=.int .i64 i,val:=v,born:=c }) (c+1)) }) (fun a ha=>?_) (h _ ⟨es.push {key:=.int .i64 i,val:=v,born:=c },c+1,by simp[hlt],?_,fun k'=>?_⟩ (hupd _))
  ·simp[execOp,ha.ev hx,ha.ev hy,ha.ev hz,Instr.mapUpdate,run_underlying ht.u,hg,hc,Instr.findKey,run_underlying hk.u,h1,hset]
  ·intro e he;simp at he
   rcases he with he|rfl
   ·exact hkeys e (by simpa using he)
   ·exact⟨i,rfl⟩
  ·rw[Array.toList_push,look_append,hf k'];simp only[upd];by_cases hk':k'=i
   ·subst hk';rw[<- hf k',hnone];simp
   ·simp[hk']
 |some p=>
  obtain⟨j,v0⟩:=p;obtain⟨m,e0,hj,he0,hkey,hmod⟩:=h3 j v0 rfl;have hj:j=m:=by omega
  subst hj;have he0':es[j]?=some e0:=by simpa using he0
  refine effU (w':={w with heap:=w.heap.setIfInBounds b (.map (es.modify j fun e=>{e with key:=.int .i64 i,val:=v }) c) }) (fun a ha=>?_) (h _ ⟨es.modify j fun e=>{e with key:=.int .i64 i,val:=v },c,by simp[hlt],?_,fun k'=>?_⟩ (hupd _))
  ·simp[execOp,ha.ev hx,ha.ev hy,ha.ev hz,Instr.mapUpdate,run_underlying ht.u,hg,hc,Instr.findKey,run_underlying hk.u,h1,hset,he0',hkey,Instr.keyThatStays,Instr.sameBits]
  ·intro e he;rw[Array.toList_modify] at he;obtain⟨q,hq⟩:=List.getElem?_of_mem he;rw[List.getElem?_modify] at hq;obtain⟨e1,he1,he2⟩:=Option.map_eq_some_iff.1 hq;split at he2
   ·exact⟨i,by rw[<- he2]⟩
   ·rw[<- he2];exact hkeys _ (List.mem_of_getElem? he1)
  ·rw[Array.toList_modify];simp only[upd];by_cases hk':k'=i
   ·subst hk';simp[hmod v]
   ·rw[look_modify hk' v _ _ e0 he0 hkey,hf k'];simp[hk']
end
end Go.RX
