import Derived.Test.YtojfbbggnkijeaaGreatDoorZ1
set_option linter.all false
namespace Go.GX
open Go Go.RowKit Go.RR Go.RX
variable {d:Nat} {ty:TypeId} {pos:String} {aft:Array Edge} {gd:Option (Nat×Bool)}
variable {F:Nat->Prop} {w:World}
structure Agree (F:Nat->Prop)(w w':World):Prop where
 size:w.heap.size<=w'.heap.size
 block:∀k,k<w.heap.size->F k->w'.heap[k]?=w.heap[k]?
theorem Agree.refl (F:Nat->Prop)(w:World):Agree F w w:=⟨Nat.le_refl _,fun _ _ _=>rfl⟩
theorem Agree.trans {F:Nat->Prop}{w w' w2:World}(h1:Agree F w w')(h2:Agree F w' w2):Agree F w w2:=
 ⟨Nat.le_trans h1.size h2.size,fun k hk hf=>(h2.block k (Nat.lt_of_lt_of_le hk h1.size) hf).trans (h1.block k hk hf)⟩
theorem Agree.mono {F':Nat->Prop}{w':World}(h:Agree F w w')(hF:∀k,k<w.heap.size->F' k->F k):Agree F' w w':=⟨h.size,fun k hk hf=>h.block k hk (hF k hk hf)⟩
theorem Agree.of_upd {O:Nat->Prop}{w':World}(h:Upd O w w')(hF:∀k,k<w.heap.size->F k->¬ O k):Agree F w w':=⟨h.size,fun k hk hf=>h.block k hk (hF k hk hf)⟩
theorem cell_lt {b o:Nat}{v:Value}(h:w.cell? ⟨b,o,none⟩=some v):b<w.heap.size:=World.block_lt_of_cell? w ⟨b,o,none⟩ h
theorem Agree.cell {F:Nat->Prop}{w w':World}{b o:Nat}{v:Value}(h:Agree F w w')(hF:F b)(hc:w.cell? ⟨b,o,none⟩=some v):w'.cell? ⟨b,o,none⟩=some v:=by
 rw[<- hc];exact World.cell?_of_block (a:=⟨b,o,none⟩) (h.block b (cell_lt hc) hF)
structure Pf where
 says:(Nat->Prop)->World->Prop
 move:∀{F F':Nat->Prop} {w w':World},says F w->(∀k,k<w.heap.size->F k->F' k)->Agree F w w'->says F' w'
structure Res where
 on:Nat->Prop
 says:(Nat->Prop)->World->Prop
 inn:∀{F:Nat->Prop} {w:World} {k:Nat},says F w->on k->k<w.heap.size
 move:∀{F F':Nat->Prop} {w w':World},says F w->(∀k,k<w.heap.size->F k->F' k)->Agree F w w'->Agree on w w'->says F' w'
def AllP (F:Nat->Prop)(w:World)(l:List Pf):Prop:=∀p∈l,p.says F w
def AllR (F:Nat->Prop)(w:World)(l:List Res):Prop:=∀r∈l,r.says F w
def Apart (r s:Res):Prop:=∀k,r.on k->¬ s.on k
theorem Apart.symm {r s:Res}(h:Apart r s):Apart s r:=fun k h1 h2=>h k h2 h1
def feet (l:List Res)(k:Nat):Prop:=∃r∈l,r.on k
theorem feet_nil {k:Nat}:¬ feet [] k:=by rintro⟨s,hs,_⟩;simp at hs
structure Base where
 w:World
 O:Nat->Prop
 F:Nat->Prop
structure St (b:Base)(F:Nat->Prop)(ps:List Pf)(hp:List Res)(w:World):Prop where
 upd:Upd b.O b.w w
 lt:∀k,F k->k<w.heap.size
 old:∀k,F k->k<b.w.heap.size->b.F k\/b.O k
 fs:AllP F w ps
 rs:AllR F w hp
 apF:∀r∈hp,∀k,r.on k->¬ F k
 apart:hp.Pairwise Apart
 on:∀r∈hp,∀k,r.on k->k<b.w.heap.size->b.O k
def Ok (b:Base)(ps:List Pf)(hp:List Res)(w:World):Prop:=∃F,St b F ps hp w
variable {b:Base} {ps:List Pf} {hp hp':List Res}
theorem St.perm (h:St b F ps hp w)(hl:hp.Perm hp'):St b F ps hp' w:=
 ⟨h.upd,h.lt,h.old,h.fs,fun r hr=>h.rs r (hl.mem_iff.2 hr),fun r hr=>h.apF r (hl.mem_iff.2 hr),(hl.pairwise_iff (fun h=>h.symm)).1 h.apart,fun r hr=>h.on r (hl.mem_iff.2 hr)⟩
theorem St.less {ps':List Pf}(h:St b F ps hp w)(h1:∀p∈ps',p∈ps)(h2:hp'.Sublist hp):St b F ps' hp' w:=
 ⟨h.upd,h.lt,h.old,fun p hp=>h.fs p (h1 p hp),fun r hr=>h.rs r (h2.subset hr),fun r hr=>h.apF r (h2.subset hr),h.apart.sublist h2,fun r hr=>h.on r (h2.subset hr)⟩
theorem St.drew {b:Base}{F:Nat->Prop}{ps:List Pf}{hp:List Res}{w:World}(h:St b F ps hp w):St b F ps hp w.drew:=by
 have a:∀F',Agree F' w w.drew:=fun F'=>⟨Nat.le_refl _,fun _ _ _=>rfl⟩;exact⟨h.upd.drew,h.lt,h.old,fun p hp=>p.move (h.fs p hp) (fun _ _ h=>h) (a _),fun r hr=>r.move (h.rs r hr) (fun _ _ h=>h) (a _) (a _),h.apF,h.apart,h.on⟩
theorem St.act {ps2:List Pf}{hp1 hp2 rest:List Res}{w':World}(h:St b F ps (hp1++rest) w)(h2:Ok ⟨w,feet hp1,F⟩ ps2 hp2 w'):
  ∃F',(∀k,F k->F' k)/\Agree F w w'/\Agree (feet rest) w w'/\St b F' (ps2++ps) (hp2++rest) w':=by
 obtain⟨F2,s⟩:=h2;have hd:∀k,k<w.heap.size->F k->¬ feet hp1 k:=fun k _ hf ⟨r,hr,hk⟩=>h.apF r (by simp[hr]) k hk hf;have hr:∀r∈rest,∀k,r.on k->¬ feet hp1 k:=fun r hr k hk ⟨r1,hr1,hk1⟩=>(List.pairwise_append.1 h.apart).2.2 r1 hr1 r hr k hk1 hk;have aF:Agree F w w':=Agree.of_upd s.upd hd;have aR:Agree (feet rest) w w':=Agree.of_upd s.upd (fun k _ ⟨r,hr',hk⟩=>hr r hr' k hk);have sz:=s.upd.size;have e2:∀k,F2 k->k<w.heap.size->F k\/feet hp1 k:=s.old;have rl:∀r∈rest,∀k,r.on k->k<w.heap.size:=fun r hr k hk=>r.inn (h.rs r (by simp[hr])) hk;have rF2:∀r∈rest,∀k,r.on k->¬ F2 k:=fun r hr' k hk hf=>by
  rcases e2 k hf (rl r hr' k hk) with h3|h3
  ·exact h.apF r (by simp[hr']) k hk h3
  ·exact hr r hr' k hk h3
 have nF:∀r∈hp2,∀k,r.on k->¬ F k:=fun r hr' k hk hf=>hd k (h.lt k hf) hf (s.on r hr' k hk (h.lt k hf));refine⟨fun k=>F k\/F2 k,fun k hk=>.inl hk,aF,aR,?_,?_,?_,?_,?_,?_,?_,?_⟩
 ·refine h.upd.trans s.upd (fun _ _ h=>h) (fun k hk ⟨r,hr',hk'⟩=>h.on r (by simp[hr']) k hk' hk)
 ·rintro k (hk|hk)
  ·exact Nat.lt_of_lt_of_le (h.lt k hk) sz
  ·exact s.lt k hk
 ·rintro k (hk|hk) hlt
  ·exact h.old k hk hlt
  ·rcases e2 k hk (Nat.lt_of_lt_of_le hlt h.upd.size) with h3|⟨r,hr',h3⟩
   ·exact h.old k h3 hlt
   ·exact .inr (h.on r (by simp[hr']) k h3 hlt)
 ·intro p hp;rw[List.mem_append] at hp
  rcases hp with hp|hp
  ·exact p.move (s.fs p hp) (fun _ _ h=>.inr h) (Agree.refl _ _)
  ·exact p.move (h.fs p hp) (fun _ _ h=>.inl h) aF
 ·intro r hr';rw[List.mem_append] at hr'
  rcases hr' with hr'|hr'
  ·exact r.move (s.rs r hr') (fun _ _ h=>.inr h) (Agree.refl _ _) (Agree.refl _ _)
  ·exact r.move (h.rs r (by simp[hr'])) (fun _ _ h=>.inl h) aF (aR.mono fun k _ hk=>⟨r,hr',hk⟩)
 ·intro r hr' k hk;rw[List.mem_append] at hr'
  rcases hr' with hr'|hr'
  ·rintro (h3|h3)
   ·exact nF r hr' k hk h3
   ·exact s.apF r hr' k hk h3
  ·rintro (h3|h3)
   ·exact h.apF r (by simp[hr']) k hk h3
   ·exact rF2 r hr' k hk h3
 ·rw[List.pairwise_append];refine⟨s.apart,(List.pairwise_append.1 h.apart).2.1,fun r1 h1 r2 h2 k hk1 hk2=>?_⟩;exact hr r2 h2 k hk2 (s.on r1 h1 k hk1 (rl r2 h2 k hk2))
 ·intro r hr' k hk hlt;rw[List.mem_append] at hr'
  rcases hr' with hr'|hr'
  ·obtain⟨r1,hr1,h4⟩:=s.on r hr' k hk (Nat.lt_of_lt_of_le hlt h.upd.size);exact h.on r1 (by simp[hr1]) k h4 hlt
  ·exact h.on r (by simp[hr']) k hk hlt
structure G (n:Nat)(env:Env)(b:Base)(ps:List Pf)(hp:List Res)(K:Act->World->Prop):Prop where
 run:∀w,Ok b ps hp w->E n env w K
structure GO (P:Program)(n:Nat)(env:Env)(b:Base)(ps:List Pf)(hp:List Res)(o:Oper)(K:Act->World->Prop)(Q:Exit->Act->World->Prop):Prop where
 run:∀w,Ok b ps hp w->OW P n env w o K Q
section rules
variable {P:Program} {n:Nat} {env:Env} {b:Base} {ps:List Pf} {hp:List Res} {Q:Exit->Act->World->Prop} {K:Act->World->Prop}
variable {c:Operand} {x y:Code} {p:Prop} {ops:Array Oper} {rest:List Oper}
theorem less (env':Env)(ps':List Pf)(hp':List Res)(h0:RX.Sub env' env)(h1:∀p∈ps',p∈ps)(h2:hp'.Sublist hp)(h:G n env' b ps' hp' K):G n env b ps hp K:=
 ⟨fun w ⟨F,s⟩=>RX.keep env' h0 (h.run w ⟨F,s.less h1 h2⟩)⟩
theorem keep (env':Env)(h0:RX.Sub env' env)(h:G n env' b ps hp K):G n env b ps hp K:=⟨fun w s=>RX.keep env' h0 (h.run w s)⟩
theorem perm {hp':List Res}(hl:hp.Perm hp')(h:G n env b ps hp' K):G n env b ps hp K:=⟨fun w ⟨F,s⟩=>h.run w ⟨F,s.perm hl⟩⟩
theorem seq {x y:Code}(h:G n env b ps hp (x.wp P (Exit.then (y.wp P Q) Q))):G n env b ps hp ((Code.seq x y).wp P Q):=⟨fun w s=>RX.seq (h.run w s)⟩
theorem skip (h:G n env b ps hp (Q .normal)):G n env b ps hp (Code.skip.wp P Q):=⟨fun w s=>RX.skip (h.run w s)⟩
theorem block {id:Nat}{c:Code}(h:G n env b ps hp (c.wp P (Exit.inBlock id Q))):G n env b ps hp ((Code.block id c).wp P Q):=⟨fun w s=>RX.block (h.run w s)⟩
theorem exit {id:Nat}(h:G n env b ps hp (Q (.exit id))):G n env b ps hp ((Code.exit id).wp P Q):=⟨fun w s=>RX.exit (h.run w s)⟩
theorem ret (h:G n env b ps hp (Q .ret)):G n env b ps hp (Code.ret.wp P Q):=⟨fun w s=>RX.ret (h.run w s)⟩
theorem then_normal (h:G n env b ps hp K):G n env b ps hp (Exit.then K Q .normal):=⟨fun w s=>RX.then_normal (h.run w s)⟩
theorem then_exit {id:Nat}(h:G n env b ps hp (Q (.exit id))):G n env b ps hp (Exit.then K Q (.exit id)):=⟨fun w s=>RX.then_exit (h.run w s)⟩
theorem then_ret (h:G n env b ps hp (Q .ret)):G n env b ps hp (Exit.then K Q .ret):=⟨fun w s=>RX.then_ret (h.run w s)⟩
theorem inBlock_normal {id:Nat}(h:G n env b ps hp (Q .normal)):G n env b ps hp (Exit.inBlock id Q .normal):=⟨fun w s=>RX.inBlock_normal (h.run w s)⟩
theorem inBlock_ret {id:Nat}(h:G n env b ps hp (Q .ret)):G n env b ps hp (Exit.inBlock id Q .ret):=⟨fun w s=>RX.inBlock_ret (h.run w s)⟩
theorem inBlock_exit {id:Nat}(h:G n env b ps hp (Q .normal)):G n env b ps hp (Exit.inBlock id Q (.exit id)):=⟨fun w s=>RX.inBlock_exit (h.run w s)⟩
theorem ibo {id id':Nat}(h:G n env b ps hp (Q (.exit id')))(hne:Nat.beq id' id=false:=by exact rfl):G n env b ps hp (Exit.inBlock id Q (.exit id')):=⟨fun w s=>RX.inBlock_other hne (h.run w s)⟩
theorem ct {v:Value}(h:G n env b ps hp (x.wp P Q))(hc:ev env c=some v:=by exact rfl)(hv:v=.bool true:=by with_reducible rfl):G n env b ps hp ((Code.cond c x y).wp P Q):=⟨fun w s=>RX.cond_true hc hv (h.run w s)⟩
theorem cf {v:Value}(h:G n env b ps hp (y.wp P Q))(hc:ev env c=some v:=by exact rfl)(hv:v=.bool false:=by with_reducible rfl):G n env b ps hp ((Code.cond c x y).wp P Q):=⟨fun w s=>RX.cond_false hc hv (h.run w s)⟩
theorem cdt {v:Value}[Decidable p](h:G n env b ps hp (x.wp P Q))(hc:ev env c=some v:=by exact rfl)(hv:v=.bool (decide p):=by with_reducible rfl)(hp':p:=by first|omega|(with_reducible assumption)):G n env b ps hp ((Code.cond c x y).wp P Q):=
 ⟨fun w s=>RX.cond_true hc (hv.trans (by simp[hp'])) (h.run w s)⟩
theorem cdf {v:Value}[Decidable p](h:G n env b ps hp (y.wp P Q))(hc:ev env c=some v:=by exact rfl)(hv:v=.bool (decide p):=by with_reducible rfl)(hp':¬ p:=by first|omega|(with_reducible assumption)):G n env b ps hp ((Code.cond c x y).wp P Q):=
 ⟨fun w s=>RX.cond_false hc (hv.trans (by simp[hp'])) (h.run w s)⟩
theorem cs {v:Value}[Decidable p](h1:p->G n env b ps hp (x.wp P Q))(h2:¬ p->G n env b ps hp (y.wp P Q))(hc:ev env c=some v:=by exact rfl)(hv:v=.bool (decide p):=by with_reducible rfl):G n env b ps hp ((Code.cond c x y).wp P Q):=
 ⟨fun w s=>RX.cond (hv▸hc) (fun h=>(h1 h).run w s) (fun h=>(h2 h).run w s)⟩
theorem csb {p:Bool}(h1:p=true->G n env b ps hp (x.wp P Q))(h2:p=false->G n env b ps hp (y.wp P Q))(hc:ev env c=some (.bool p):=by exact rfl):G n env b ps hp ((Code.cond c x y).wp P Q):=
 ⟨fun w s=>RX.cond_bool hc (fun h=>(h1 h).run w s) (fun h=>(h2 h).run w s)⟩
theorem cbt {p:Bool}(h:G n env b ps hp (x.wp P Q))(hc:ev env c=some (.bool p):=by exact rfl)(hp':p=true:=by with_reducible assumption):G n env b ps hp ((Code.cond c x y).wp P Q):=⟨fun w s=>RX.cond_true hc (by rw[hp']) (h.run w s)⟩
theorem cbf {p:Bool}(h:G n env b ps hp (y.wp P Q))(hc:ev env c=some (.bool p):=by exact rfl)(hp':p=false:=by with_reducible assumption):G n env b ps hp ((Code.cond c x y).wp P Q):=⟨fun w s=>RX.cond_false hc (by rw[hp']) (h.run w s)⟩
theorem region {id:Nat}{l:List Oper}(h:G n env b ps hp (wpList P l.toArray Q l)):G n env b ps hp ((Code.region id l.toArray false).wp P Q):=⟨fun w s=>RX.region (h.run w s)⟩
theorem nil {ops:Array Oper}(h:G n env b ps hp (Q .normal)):G n env b ps hp (wpList P ops Q []):=⟨fun w s=>RX.nil (h.run w s)⟩
theorem o {ops:Array Oper}{o:Oper}{rest:List Oper}(h:GO P n env b ps hp o (wpList P ops Q rest) Q)(hw:Wanted n env ops o true:=by first|exact Go.RX.plain rfl|exact Go.RX.guarded rfl rfl rfl (by with_reducible rfl)):G n env b ps hp (wpList P ops Q (o::rest)):=⟨fun w s=>RX.opw hw (h.run w s)⟩
theorem un {p:Op}(h:G n ((d,undef)::env) b ps hp (wpList P ops Q rest))
  (hw:Wanted n env ops ⟨some d,p,ty,pos,aft,gd⟩ false:=by first|exact Go.RX.barred_t rfl rfl rfl (by with_reducible rfl)|exact Go.RX.barred_f rfl rfl rfl (by with_reducible rfl)|exact Go.RX.barred_u rfl rfl rfl (by with_reducible rfl)) (hd:Nat.blt d n=true:=by exact rfl):G n env b ps hp (wpList P ops Q (⟨some d,p,ty,pos,aft,gd⟩::rest)):=⟨fun w s=>RX.unwanted hw hd (h.run w s)⟩
theorem un0 {p:Op}(h:G n env b ps hp (wpList P ops Q rest))
  (hw:Wanted n env ops ⟨none,p,ty,pos,aft,gd⟩ false:=by first|exact Go.RX.barred_t rfl rfl rfl (by with_reducible rfl)|exact Go.RX.barred_f rfl rfl rfl (by with_reducible rfl)|exact Go.RX.barred_u rfl rfl rfl (by with_reducible rfl)):G n env b ps hp (wpList P ops Q (⟨none,p,ty,pos,aft,gd⟩::rest)):=⟨fun w s=>RX.unwanted_none hw (h.run w s)⟩
theorem gt {o:Oper}{v:Value}[Decidable p](k:G n ((d,.bool true)::env) b ps hp (wpList P ops Q (o::rest)))(hd:gslot ops o=some d:=by exact rfl)(hp':lk env d=some v:=by exact rfl)(hv:v=.bool (decide p):=by with_reducible rfl)
  (h:p:=by first|omega|(with_reducible assumption)):G n env b ps hp (wpList P ops Q (o::rest)):=⟨fun w s=>RX.guard_true hd hp' hv h (k.run w s)⟩
theorem gf {o:Oper}{v:Value}[Decidable p](k:G n ((d,.bool false)::env) b ps hp (wpList P ops Q (o::rest)))(hd:gslot ops o=some d:=by exact rfl)(hp':lk env d=some v:=by exact rfl)(hv:v=.bool (decide p):=by with_reducible rfl)
  (h:¬ p:=by first|omega|(with_reducible assumption)):G n env b ps hp (wpList P ops Q (o::rest)):=⟨fun w s=>RX.guard_false hd hp' hv h (k.run w s)⟩
theorem gs {o:Oper}{v:Value}[Decidable p](h1:p->G n ((d,.bool true)::env) b ps hp (wpList P ops Q (o::rest)))(h2:¬ p->G n ((d,.bool false)::env) b ps hp (wpList P ops Q (o::rest)))
  (hd:gslot ops o=some d:=by exact rfl) (hp':lk env d=some v:=by exact rfl) (hv:v=.bool (decide p):=by with_reducible rfl):G n env b ps hp (wpList P ops Q (o::rest)):=⟨fun w s=>RX.guard_split hd (hv▸hp') (fun h=>(h1 h).run w s) (fun h=>(h2 h).run w s)⟩
theorem gsb {o:Oper}{p:Bool}(h1:p=true->G n ((d,.bool true)::env) b ps hp (wpList P ops Q (o::rest)))(h2:p=false->G n ((d,.bool false)::env) b ps hp (wpList P ops Q (o::rest)))
  (hd:gslot ops o=some d:=by exact rfl) (hp':lk env d=some (.bool p):=by exact rfl):G n env b ps hp (wpList P ops Q (o::rest)):=⟨fun w s=>RX.guard_bool hd hp' (fun h=>(h1 h).run w s) (fun h=>(h2 h).run w s)⟩
theorem gbt {o:Oper}{p:Bool}(k:G n ((d,.bool true)::env) b ps hp (wpList P ops Q (o::rest)))(hd:gslot ops o=some d:=by exact rfl)(hp':lk env d=some (.bool p):=by exact rfl)(h:p=true:=by with_reducible assumption):G n env b ps hp (wpList P ops Q (o::rest)):=
 ⟨fun w s=>RX.guard_bool hd hp' (fun _=>k.run w s) (fun h'=>absurd (h.symm.trans h') (by simp))⟩
theorem gbf {o:Oper}{p:Bool}(k:G n ((d,.bool false)::env) b ps hp (wpList P ops Q (o::rest)))(hd:gslot ops o=some d:=by exact rfl)(hp':lk env d=some (.bool p):=by exact rfl)(h:p=false:=by with_reducible assumption):G n env b ps hp (wpList P ops Q (o::rest)):=
 ⟨fun w s=>RX.guard_bool hd hp' (fun h'=>absurd (h.symm.trans h') (by simp)) (fun _=>k.run w s)⟩
def Rd (P:Program)(n:Nat)(env:Env)(ps:List Pf)(hp:List Res)(op:Op){ι:Type}(val:ι->Value)(pf:ι->List Pf):Prop:=
 ∀(F:Nat->Prop) (w:World),AllP F w ps->AllR F w hp->∃i,AllP F w (pf i)/\Soft P n env (fun w'=>Agree (fun k=>F k\/feet hp k) w w') op (val i)
theorem rd {p:Op}{ι:Type}{val:ι->Value}{pf:ι->List Pf}(hr:Rd P n env ps hp p val pf)(hd:Nat.blt d n=true)(h:∀i,G n ((d,val i)::env) b (pf i++ps) hp K):
  GO P n env b ps hp ⟨some d,p,ty,pos,aft,gd⟩ K Q:=by
 constructor;rintro w ⟨F,s⟩;obtain⟨i,h1,h2⟩:=hr F w s.fs s.rs;refine RX.soft (v:=val i) (fun a ha o ho w' hw=>h2 a ha o ho w' (by subst hw;exact Agree.refl _ _)) hd ((h i).run w ⟨F,s.upd,s.lt,s.old,?_,s.rs,s.apF,s.apart,s.on⟩);intro q hq;rw[List.mem_append] at hq;exact hq.elim (h1 q) (s.fs q)
theorem rd1 {p:Op}{v:Value}(hr:Soft P n env (fun _=>True) p v)(hd:Nat.blt d n=true)(h:G n ((d,v)::env) b ps hp K):GO P n env b ps hp ⟨some d,p,ty,pos,aft,gd⟩ K Q:=
 ⟨fun w s=>RX.soft (fun a ha o ho w' _=>hr a ha o ho w' trivial) hd (h.run w s)⟩
def Acts (P:Program)(n:Nat)(env:Env)(ps:List Pf)(hp1:List Res)(o:Oper){ι:Type}(val:ι->Value)(pf:ι->List Pf)(hr:ι->List Res):Prop:=
 ∀(F:Nat->Prop) (w:World) (K:Act->World->Prop) (Q:Exit->Act->World->Prop) (b:Base),St b F ps hp1 w->(∀i w',Ok ⟨w,feet hp1,F⟩ (pf i) (hr i) w'->E n (match o.dst with|some d=>(d,val i)::env|none=>env) w' K)->OW P n env w o K Q
theorem act {o:Oper}{ι:Type}{val:ι->Value}{pf:ι->List Pf}{hr:ι->List Res}{hp1 rest:List Res}(ha:Acts P n env ps hp1 o val pf hr)(hl:hp.Perm (hp1++rest))
  (h:∀i,G n (match o.dst with|some d=>(d,val i)::env|none=>env) b (pf i++ps) (hr i++rest) K):GO P n env b ps hp o K Q:=by
 constructor;rintro w ⟨F,s⟩;have s:=s.perm hl;refine ha F w K Q b (s.less (fun _ h=>h) (List.sublist_append_left _ _)) (fun i w' h'=>?_);obtain⟨F',_,_,_,s'⟩:=s.act h';exact (h i).run w' ⟨F',s'⟩
structure Does (P:Program)(f:FuncId)(args:List Value)(ps:List Pf)(hp:List Res){σ:Type}(val:σ->Value)(ps':σ->List Pf)(hp':σ->List Res):Prop where
 run:∀w F b,St b F ps hp w->Calls P f args.toArray w fun e w'=>∃s,e=.returned (val s)/\Ok ⟨w,feet hp,F⟩ (ps' s) (hp' s) w'
def Post (P:Program)(fn:Func)(b:Base){σ:Type}(val:σ->Value)(ps':σ->List Pf)(hp':σ->List Res):Exit->Act->World->Prop:=bodyPost P fn fun e w'=>∃s,e=.returned (val s)/\Ok b (ps' s) (hp' s) w'
theorem call {d:Nat}{f:FuncId}{xs:List Operand}{ts:Array TypeId}{vs:List Value}[hf:UFunc P f]{ps1:List Pf}{hp1 rest:List Res}{σ:Type}{val:σ->Value}{ps':σ->List Pf}{hp':σ->List Res}
  (hc:Does P f vs ps1 hp1 val ps' hp') (hxs:evs env xs=some vs) (hps:∀p∈ps1,p∈ps) (hl:hp.Perm (hp1++rest)) (hd:Nat.blt d n=true) (h:∀s,G n ((d,val s)::env) b (ps' s++ps) (hp' s++rest) K):
  GO P n env b ps hp ⟨some d,.call {callee:=.value (.func f),args:=xs.toArray,argTypes:=ts },ty,pos,aft,gd⟩ K Q:=by
 constructor;rintro w ⟨F,s⟩;have s:=s.perm hl;refine RX.call hxs (hc.run w F b (s.less hps (List.sublist_append_left _ _))) hd ?_;rintro e w' ⟨i,rfl,h'⟩;obtain⟨F',_,_,_,s'⟩:=s.act h';exact⟨_,rfl,(h i).run w' ⟨F',s'⟩⟩
theorem enter {f:FuncId}{fn:Func}{c:Code}{args:List Value}{ps0:List Pf}{hp0:List Res}{σ:Type}{val:σ->Value}{ps':σ->List Pf}{hp':σ->List Res}(hf:P.funcs[f]?=some fn)(hb:fn.body=some c)(hn:fn.ntmps=n)(ha:Nat.ble args.length n=true)
  (h:∀b,G n (mkEnv 0 args) b ps0 hp0 (c.wp P (Post P fn b val ps' hp'))):Does P f args ps0 hp0 val ps' hp':=by
 constructor;intro w F b s;refine RX.enter hf hb hn ha ((h ⟨w,feet hp0,F⟩).run w ⟨F,Upd.refl _ _,s.lt,fun k hk _=>.inl hk,s.fs,s.rs,s.apF,s.apart,fun r hr k hk _=>⟨r,hr,hk⟩⟩)
end rules
structure Ty (α:Type) where
 size:Nat
 rd:(Nat->Prop)->World->List Value->α->Prop
 len:∀{F:Nat->Prop} {w:World} {cs:List Value} {x:α},rd F w cs x->cs.length=size
 one:∀{F:Nat->Prop} {w:World} {cs:List Value} {x:α},rd F w cs x->∀c∈cs,c.oneCell'=true
 move:∀{F F':Nat->Prop} {w w':World} {cs:List Value} {x:α},rd F w cs x->(∀k,k<w.heap.size->F k->F' k)->Agree F w w'->rd F' w' cs x
def CellsAt (w:World)(b o:Nat)(cs:List Value):Prop:=∀(j:Nat) c,cs[j]?=some c->w.cell? ⟨b,o+j,none⟩=some c
theorem CellsAt.move {F:Nat->Prop}{w w':World}{b o:Nat}{cs:List Value}(h:CellsAt w b o cs)(ha:Agree F w w')(hb:F b):CellsAt w' b o cs:=fun j c hj=>ha.cell hb (h j c hj)
def SlAt {α:Type}(e:Ty α)(F:Nat->Prop)(w:World)(ao:Option Addr)(xs:List α):Prop:=
 ∀(i:Nat) x,xs[i]?=some x->∃b o cs,ao=some ⟨b,o,none⟩/\F b/\b<w.heap.size/\CellsAt w b (o+i*e.size) cs/\e.rd F w cs x
theorem SlAt.move {α:Type}{e:Ty α}{F F':Nat->Prop}{w w':World}{ao:Option Addr}{xs:List α}(h:SlAt e F w ao xs)(hF:∀k,k<w.heap.size->F k->F' k)(ha:Agree F w w'):SlAt e F' w' ao xs:=fun i x hx=>by
 obtain⟨b,o,cs,h1,h2,h3,h4,h5⟩:=h i x hx;exact⟨b,o,cs,h1,hF b h3 h2,Nat.lt_of_lt_of_le h3 ha.size,h4.move ha h2,e.move h5 hF ha⟩
namespace Ty
def num (k:IntKind):Ty Int:=⟨1,fun _ _ cs x=>cs=[.int k x],fun h=>by rw[h];rfl,fun h c hc=>by rw[h] at hc;simp at hc;subst hc;rfl,fun h _ _=>h⟩
abbrev int:Ty Int:=num .i64
abbrev byte:Ty Int:=num .u8
def bool:Ty Bool:=⟨1,fun _ _ cs x=>cs=[.bool x],fun h=>by rw[h];rfl,fun h c hc=>by rw[h] at hc;simp at hc;subst hc;rfl,fun h _ _=>h⟩
def string:Ty ByteArray:=⟨1,fun _ _ cs x=>cs=[.string x],fun h=>by rw[h];rfl,fun h c hc=>by rw[h] at hc;simp at hc;subst hc;rfl,fun h _ _=>h⟩
def hdr:Ty (Option Addr×Nat×Nat):=⟨1,fun _ _ cs x=>cs=[.slice x.1 x.2.1 x.2.2],fun h=>by rw[h];rfl,fun h c hc=>by rw[h] at hc;simp at hc;subst hc;rfl,fun h _ _=>h⟩
def unit:Ty Unit:=⟨0,fun _ _ cs _=>cs=[],fun h=>by rw[h];rfl,fun h c hc=>by rw[h] at hc;simp at hc,fun h _ _=>h⟩
def pair {α β:Type}(a:Ty α)(b:Ty β):Ty (α×β) where
 size:=a.size+b.size
 rd F w cs x:=∃c1 c2,cs=c1++c2/\a.rd F w c1 x.1/\b.rd F w c2 x.2
 len:=by rintro F w cs x ⟨c1,c2,rfl,h1,h2⟩;rw[List.length_append,a.len h1,b.len h2]
 one:=by
  rintro F w cs x ⟨c1,c2,rfl,h1,h2⟩ c hc;rw[List.mem_append] at hc;exact hc.elim (a.one h1 c) (b.one h2 c)
 move:=by rintro F F' w w' cs x ⟨c1,c2,rfl,h1,h2⟩ hF ha;exact⟨c1,c2,rfl,a.move h1 hF ha,b.move h2 hF ha⟩
def co {α β:Type}(e:Ty α)(g:β->α):Ty β:=⟨e.size,fun F w cs y=>e.rd F w cs (g y),fun h=>e.len h,fun h=>e.one h,fun h hF ha=>e.move h hF ha⟩
def slice {α:Type}(e:Ty α):Ty (List α) where
 size:=1
 rd F w cs xs:=∃ao cap,cs=[.slice ao xs.length cap]/\xs.length<=cap/\cap<=9223372036854775807/\SlAt e F w ao xs
 len:=by rintro F w cs xs ⟨ao,cap,rfl,_⟩;rfl
 one:=by rintro F w cs xs ⟨ao,cap,rfl,_⟩ c hc;simp at hc;subst hc;rfl
 move:=by rintro F F' w w' cs xs ⟨ao,cap,rfl,h1,h2,h3⟩ hF ha;exact⟨ao,cap,rfl,h1,h2,h3.move hF ha⟩
end Ty
section
variable {F:Nat->Prop} {w:World} {α β:Type}
variable {e:Ty α}
theorem co_rd {g:β->α}{cs:List Value}{y:β}(h:e.rd F w cs (g y)):(Ty.co e g).rd F w cs y:=h
theorem pair_rd {a:Ty α}{b:Ty β}{c1 c2 cs:List Value}{x:α×β}(hcs:cs=c1++c2)(h1:a.rd F w c1 x.1)(h2:b.rd F w c2 x.2):(Ty.pair a b).rd F w cs x:=⟨c1,c2,hcs,h1,h2⟩
theorem unit_rd {x:Unit}:Ty.unit.rd F w [] x:=rfl
theorem num_rd {k:IntKind}{x:Int}:(Ty.num k).rd F w [.int k x] x:=rfl
theorem bool_rd {x:Bool}:Ty.bool.rd F w [.bool x] x:=rfl
theorem hdr_rd {a:Option Addr}{n c:Nat}:Ty.hdr.rd F w [.slice a n c] (a,n,c):=rfl
theorem nils_rd:(Ty.slice e).rd F w [.slice none 0 0] []:=⟨none,0,rfl,Nat.le_refl _,by omega,fun i x hx=>by simp at hx⟩
class OneV (v:Value):Prop where
 one:v.cells.toList=[v]
instance (k:IntKind)(i:Int):OneV (.int k i):=⟨rfl⟩
instance (p:Bool):OneV (.bool p):=⟨rfl⟩
instance (a:Option Addr)(n c:Nat):OneV (.slice a n c):=⟨rfl⟩
theorem rdo {v:Value}{x:α}[h:OneV v](h1:e.rd F w v.cells.toList x):e.rd F w [v] x:=by rw[<- h.one];exact h1
end
variable {F:Nat->Prop} {α:Type} {l:List Pf}
def Sl {α:Type}(e:Ty α)(ao:Option Addr)(cap:Nat)(xs:List α):Pf:=
 ⟨fun F w=>xs.length<=cap/\cap<=9223372036854775807/\SlAt e F w ao xs,fun h hF ha=>⟨h.1,h.2.1,h.2.2.move hF ha⟩⟩
def Pt {α:Type}(e:Ty α)(b o:Nat)(y:α):Pf:=
 ⟨fun F w=>F b/\b<w.heap.size/\∃cs,CellsAt w b o cs/\e.rd F w cs y,fun h hF ha=>by
  obtain⟨h1,h2,cs,h3,h4⟩:=h;exact⟨hF b h2 h1,Nat.lt_of_lt_of_le h2 ha.size,cs,h3.move ha h1,e.move h4 hF ha⟩⟩
def Ag {α:Type}(e:Ty α)(cs:List Value)(y:α):Pf:=⟨fun F w=>e.rd F w cs y,fun h hF ha=>e.move h hF ha⟩
theorem Row.agree {w w':World}{b:Nat}{t:TypeId}{vs:List Value}(h:Row w b t vs)(ha:Agree F w w')(hb:F b):Row w' b t vs:=(ha.block b h.lt hb).trans h
def RowR (b:Nat)(t:TypeId)(vs:List Value):Res:=
 ⟨fun k=>k=b,fun _ w=>Row w b t vs,fun h hk=>by rw[hk];exact h.lt,fun h _ _ ha=>Row.agree h ha rfl⟩
def Box {α:Type}(t:TypeId)(e:Ty α)(b:Nat)(y:α):Res:=
 ⟨fun k=>k=b,fun F w=>∃cs,Row w b t cs/\e.rd F w cs y,fun h hk=>by obtain⟨cs,h,_⟩:=h;rw[hk];exact h.lt,fun h hF ha hb=>by
  obtain⟨cs,h1,h2⟩:=h;exact⟨cs,Row.agree h1 hb rfl,e.move h2 hF ha⟩⟩
def Els {α:Type}(e:Ty α)(F:Nat->Prop)(w:World):List Value->List α->Prop
 |cs,[]=>cs=[]
 |cs,x::xs=>∃c1 c2,cs=c1++c2/\e.rd F w c1 x/\Els e F w c2 xs
theorem Els.move {α:Type}{e:Ty α}{F F':Nat->Prop}{w w':World}(hF:∀k,k<w.heap.size->F k->F' k)(ha:Agree F w w'):∀{xs:List α} {cs:List Value},Els e F w cs xs->Els e F' w' cs xs
 |[],_,h=>h
 |_::_,_,⟨c1,c2,h1,h2,h3⟩=>⟨c1,c2,h1,e.move h2 hF ha,h3.move hF ha⟩
theorem Els.len {α:Type}{e:Ty α}{F:Nat->Prop}{w:World}:∀{xs:List α} {cs:List Value},Els e F w cs xs->cs.length=xs.length*e.size
 |[],_,h=>by rw[h];simp
 |x::xs,_,⟨c1,c2,h1,h2,h3⟩=>by rw[h1,List.length_append,e.len h2,h3.len,List.length_cons,Nat.add_mul];omega
theorem Els.one {α:Type}{e:Ty α}{F:Nat->Prop}{w:World}:∀{xs:List α} {cs:List Value},Els e F w cs xs->∀c∈cs,c.oneCell'=true
 |[],_,h=>by rw[h];simp
 |x::xs,_,⟨c1,c2,h1,h2,h3⟩=>fun c hc=>by
  rw[h1,List.mem_append] at hc;exact hc.elim (e.one h2 c) (h3.one c)
theorem Els.append {α:Type}{e:Ty α}{F:Nat->Prop}{w:World}:∀{xs ys:List α} {cs ds:List Value},Els e F w cs xs->Els e F w ds ys->Els e F w (cs++ds) (xs++ys)
 |[],_,_,_,h,h2=>by rw[h];exact h2
 |x::xs,_,_,_,⟨c1,c2,h1,h3,h4⟩,h2=>⟨c1,_,by rw[h1,List.append_assoc],h3,h4.append h2⟩
theorem Els.get {α:Type}{e:Ty α}{F:Nat->Prop}{w:World}:∀{xs:List α} {cs:List Value} {i:Nat} {x:α},Els e F w cs xs->xs[i]?=some x->∃l m r,cs=l++(m++r)/\l.length=i*e.size/\e.rd F w m x/\∀m' y,e.rd F w m' y->Els e F w (l++(m'++r)) (xs.set i y)
 |[],_,_,_,_,hx=>by simp at hx
 |y::xs,_,0,x,⟨c1,c2,h1,h2,h3⟩,hx=>by
  simp at hx;subst hx;exact⟨[],c1,c2,by simpa using h1,by simp,h2,fun m' z hz=>⟨m',c2,by simp,hz,h3⟩⟩
 |y::xs,_,i+1,x,⟨c1,c2,h1,h2,h3⟩,hx=>by
  obtain⟨l,m,r,e1,e2,e3,e4⟩:=h3.get (i:=i) (by simpa using hx);refine⟨c1++l,m,r,by rw[h1,e1];simp,by rw[List.length_append,e2,e.len h2,Nat.add_mul];omega,e3,fun m' z hz=>?_⟩;exact⟨c1,l++(m'++r),by simp,h2,e4 m' z hz⟩
theorem Els.cells {e:Ty α}{w:World}{xs:List α}{cs:List Value}(h:Els e F w cs xs){i:Nat}{x:α}(hx:xs[i]?=some x):∃m,e.rd F w m x/\∀(j:Nat) c,m[j]?=some c->cs[i*e.size+j]?=some c:=by
 obtain⟨l,m,r,e1,e2,e3,_⟩:=h.get hx;refine⟨m,e3,fun j c hj=>?_⟩;have hjl:=(List.getElem?_eq_some_iff.1 hj).1;rw[e1,List.getElem?_append_right (by omega),e2,Nat.add_sub_cancel_left,List.getElem?_append_left hjl,hj]
def Own {α:Type}(t:TypeId)(e:Ty α)(ao:Option Addr)(cap:Nat)(xs:List α):Res where
 on k:=(Value.slice ao xs.length cap).ownBlock=some k
 says F w:=∃cs,w.ownsRow 0 t e.size (.slice ao xs.length cap) xs.length cs/\Els e F w cs xs
 inn:=by rintro F w k ⟨cs,h,_⟩ hk;exact (h.lt k hk).2
 move:=by
  rintro F F' w w' ⟨cs,h,h2⟩ hF ha hb;refine⟨cs,⟨h.1,?_⟩,h2.move hF ha⟩
  rcases h.2 with hn|⟨g,cap',cur,hv,h3,hg,rest⟩
  ·exact .inl hn
  ·refine .inr ⟨g,cap',cur,hv,h3,(hb.block g (Array.getElem?_eq_some_iff.1 hg).1 ?_).trans hg,rest⟩;show Value.ownBlock _=_;rw[hv];rfl
def MapR (b:Nat)(f:Int->Option Value):Res:=
 ⟨fun k=>k=b,fun _ w=>MapF w b f,fun h hk=>by rw[hk];exact h.lt,fun h _ _ ha=>by
  have hl:=h.lt;obtain⟨es,c,h1,h2⟩:=h;exact⟨es,c,(ha.block _ hl rfl).trans h1,h2⟩⟩
def Owns {α:Type}(t:TypeId)(e:Ty α)(l:List (Option Addr×Nat×List α)):Res where
 on k:=∃q∈l,(Own t e q.1 q.2.1 q.2.2).on k
 says F w:=(∀q∈l,(Own t e q.1 q.2.1 q.2.2).says F w)/\l.Pairwise fun p q=>Apart (Own t e p.1 p.2.1 p.2.2) (Own t e q.1 q.2.1 q.2.2)
 inn:=by rintro F w k ⟨h,_⟩ ⟨q,hq,hk⟩;exact Res.inn _ (h q hq) hk
 move:=by
  rintro F F' w w' ⟨h,h2⟩ hF ha hb;exact⟨fun q hq=>Res.move _ (h q hq) hF ha (hb.mono fun k _ hk=>⟨q,hq,hk⟩),h2⟩
abbrev hd {α:Type}(q:Option Addr×Nat×List α):Option Addr×Nat×Nat:=(q.1,q.2.2.length,q.2.1)
class Sub {α:Type}{β:outParam Type}(e:Ty α)(off:Nat)(f:outParam (Ty β))(get:outParam (α->β))(put:outParam (β->α->α)):Prop where
 fits:off+f.size<=e.size
 get:∀{F:Nat->Prop} {w:World} {cs:List Value} {y:α},e.rd F w cs y->f.rd F w ((cs.drop off).take f.size) (get y)
 put:∀{F:Nat->Prop} {w:World} {cs c2:List Value} {y:α} {z:β},e.rd F w cs y->f.rd F w c2 z->e.rd F w (cs.take off++(c2++cs.drop (off+f.size))) (put z y)
class SubS {α:Type}{β:outParam Type}(e:Ty α)(off:Nat)(f:outParam (Ty β))(get:outParam (α->β))(put:outParam (β->α->α)):Prop where
 s:Sub e off f get put
theorem Sub.whole (e:Ty α):Sub e 0 e (fun y=>y) (fun z _=>z) where
 fits:=by omega
 get h:=by rw[List.drop_zero,List.take_of_length_le (by rw[e.len h];exact Nat.le_refl _)];exact h
 put h h2:=by
  rw[List.take_zero,List.nil_append,Nat.zero_add,List.drop_of_length_le (by rw[e.len h];exact Nat.le_refl _),List.append_nil];exact h2
instance (k:IntKind):Sub (Ty.num k) 0 (Ty.num k) (fun y=>y) (fun z _=>z):=Sub.whole _
instance:Sub Ty.bool 0 Ty.bool (fun y=>y) (fun z _=>z):=Sub.whole _
instance {α:Type}(e:Ty α):Sub (Ty.slice e) 0 (Ty.slice e) (fun y=>y) (fun z _=>z):=Sub.whole _
theorem Sub.fst {β γ:Type}{a:Ty α}{b:Ty β}{off:Nat}{f:Ty γ}{get:α->γ}{put:γ->α->α}(h:Sub a off f get put):Sub (Ty.pair a b) off f (fun y=>get y.1) (fun z y=>(put z y.1,y.2)) where
 fits:=by have:=h.fits;simp only[Ty.pair];omega
 get:=by
  rintro F w cs y ⟨c1,c2,rfl,h1,h2⟩;have hl:=a.len h1;have hf:=h.fits;rw[List.drop_append_of_le_length (by omega),List.take_append_of_le_length (by simp;omega)];exact h.get h1
 put:=by
  rintro F w cs c3 y z ⟨c1,c2,rfl,h1,h2⟩ h3;have hl:=a.len h1;have hf:=h.fits;refine⟨_,c2,?_,h.put h1 h3,h2⟩;rw[List.take_append_of_le_length (by omega),List.drop_append_of_le_length (by omega)];simp
theorem Sub.snd {β γ:Type}{a:Ty α}{b:Ty β}{off:Nat}{f:Ty γ}{get:β->γ}{put:γ->β->β}(h:Sub b off f get put):Sub (Ty.pair a b) (a.size+off) f (fun y=>get y.2) (fun z y=>(y.1,put z y.2)) where
 fits:=by have:=h.fits;simp only[Ty.pair];omega
 get:=by
  rintro F w cs y ⟨c1,c2,rfl,h1,h2⟩;have hl:=a.len h1;rw[<- hl,<-List.drop_drop,List.drop_left];exact h.get h2
 put:=by
  rintro F w cs c3 y z ⟨c1,c2,rfl,h1,h2⟩ h3;have hl:=a.len h1;refine⟨c1,_,?_,h1,h.put h2 h3⟩;have e1:(c1++c2).take (a.size+off)=c1++c2.take off:=by rw[<- hl,List.take_length_add_append]
  have e2:(c1++c2).drop (a.size+off+f.size)=c2.drop (off+f.size):=by rw[Nat.add_assoc,<-hl,<-List.drop_drop,List.drop_left]
  rw[e1,e2];simp
theorem Sub.co {α β γ:Type}{a:Ty α}{g:β->α}{off:Nat}{f:Ty γ}{get:α->γ}{put:γ->α->α}{get':β->γ}{put':γ->β->β}(h:Sub a off f get put)(hg:∀y,get' y=get (g y))(hp:∀z y,g (put' z y)=put z (g y)):Sub (Ty.co a g) off f get' put' where
 fits:=h.fits
 get h1:=by rw[hg];exact h.get h1
 put h1 h2:=by show a.rd _ _ _ (g _);rw[hp];exact h.put h1 h2
class Look (b o':Nat)(ps:List Pf)(hp:List Res){α:outParam Type}(e:outParam (Ty α))(off:outParam Nat)(y:outParam α):Prop where
 look:∀{F:Nat->Prop} {w:World},AllP F w ps->AllR F w hp->∃o cs,o'=o+off/\CellsAt w b o cs/\e.rd F w cs y/\(F b\/feet hp b)
class FPt (b o':Nat)(ps:List Pf){α:outParam Type}(e:outParam (Ty α))(o off:outParam Nat)(y:outParam α):Prop where
 mem:Pt e b o y∈ps
 eq:o'=o+off
instance (b o':Nat)(q:Pf)(ps:List Pf){α:Type}(e:Ty α)(o off:Nat)(y:α)[h:FPt b o' ps e o off y]:FPt b o' (q::ps) e o off y:=⟨List.mem_cons_of_mem _ h.mem,h.eq⟩
instance (b o off:Nat)(ps:List Pf){α:Type}(e:Ty α)(y:α):FPt b (o+off) (Pt e b o y::ps) e o off y:=⟨List.mem_cons_self,rfl⟩
instance (b off:Nat)(ps:List Pf){α:Type}(e:Ty α)(y:α):FPt b off (Pt e b 0 y::ps) e 0 off y:=⟨List.mem_cons_self,(Nat.zero_add _).symm⟩
instance (b o:Nat)(ps:List Pf){α:Type}(e:Ty α)(y:α):FPt b o (Pt e b o y::ps) e o 0 y:=⟨List.mem_cons_self,rfl⟩
class FBox (b:Nat)(hp:List Res)(t:outParam TypeId){α:outParam Type}(e:outParam (Ty α))(y:outParam α)(rest:outParam (List Res)):Prop where
 p:hp.Perm (Box t e b y::rest)
instance (b:Nat)(r:Res)(hp:List Res)(t:TypeId){α:Type}(e:Ty α)(y:α)(rest:List Res)[h:FBox b hp t e y rest]:FBox b (r::hp) t e y (r::rest):=⟨(h.p.cons r).trans (List.Perm.swap _ _ _)⟩
instance (b:Nat)(hp:List Res)(t:TypeId){α:Type}(e:Ty α)(y:α):FBox b (Box t e b y::hp) t e y hp:=⟨List.Perm.refl _⟩
instance (b off:Nat)(ps:List Pf)(hp:List Res){α:Type}(t:TypeId)(e:Ty α)(y:α)(rest:List Res)[h:FBox b hp t e y rest]:Look b off ps hp e off y where
 look:=fun _ hr=>by
  obtain⟨cs,h1,h2⟩:=hr _ (h.p.mem_iff.2 List.mem_cons_self);exact⟨0,cs,(Nat.zero_add _).symm,fun j c hj=>by rw[Nat.zero_add];exact h1.cell_some hj,h2,.inr ⟨_,h.p.mem_iff.2 List.mem_cons_self,rfl⟩⟩
instance (b o':Nat)(ps:List Pf)(hp:List Res){α:Type}(e:Ty α)(o off:Nat)(y:α)[h:FPt b o' ps e o off y]:Look b o' ps hp e off y where
 look:=fun hp _=>by
  obtain⟨h1,_,cs,h3,h4⟩:=hp _ h.mem;exact⟨o,cs,h.eq,h3,h4,.inl h1⟩
class FRow (b:Nat)(hp:List Res)(t:outParam TypeId)(vs:outParam (List Value))(rest:outParam (List Res)):Prop where
 p:hp.Perm (RowR b t vs::rest)
instance (b:Nat)(r:Res)(hp:List Res)(t:TypeId)(vs:List Value)(rest:List Res)[h:FRow b hp t vs rest]:FRow b (r::hp) t vs (r::rest):=⟨(h.p.cons r).trans (List.Perm.swap _ _ _)⟩
instance (b:Nat)(hp:List Res)(t:TypeId)(vs:List Value):FRow b (RowR b t vs::hp) t vs hp:=⟨List.Perm.refl _⟩
class FOwn (ao:Option Addr)(hp:List Res)(t:outParam TypeId){α:outParam Type}(e:outParam (Ty α))(cap:outParam Nat)(xs:outParam (List α))(rest:outParam (List Res)):Prop where
 p:hp.Perm (Own t e ao cap xs::rest)
instance (ao:Option Addr)(r:Res)(hp:List Res)(t:TypeId){α:Type}(e:Ty α)(cap:Nat)(xs:List α)(rest:List Res)[h:FOwn ao hp t e cap xs rest]:FOwn ao (r::hp) t e cap xs (r::rest):=⟨(h.p.cons r).trans (List.Perm.swap _ _ _)⟩
instance (ao:Option Addr)(hp:List Res)(t:TypeId){α:Type}(e:Ty α)(cap:Nat)(xs:List α):FOwn ao (Own t e ao cap xs::hp) t e cap xs hp:=⟨List.Perm.refl _⟩
class FMap (b:Nat)(hp:List Res)(f:outParam (Int->Option Value))(rest:outParam (List Res)):Prop where
 p:hp.Perm (MapR b f::rest)
instance (b:Nat)(r:Res)(hp:List Res)(f:Int->Option Value)(rest:List Res)[h:FMap b hp f rest]:FMap b (r::hp) f (r::rest):=⟨(h.p.cons r).trans (List.Perm.swap _ _ _)⟩
instance (b:Nat)(hp:List Res)(f:Int->Option Value):FMap b (MapR b f::hp) f hp:=⟨List.Perm.refl _⟩
class FSl (ao:Option Addr)(ps:List Pf){α:outParam Type}(e:outParam (Ty α))(cap:outParam Nat)(xs:outParam (List α)):Prop where
 mem:Sl e ao cap xs∈ps
instance (ao:Option Addr)(q:Pf)(ps:List Pf){α:Type}(e:Ty α)(cap:Nat)(xs:List α)[h:FSl ao ps e cap xs]:FSl ao (q::ps) e cap xs:=⟨List.mem_cons_of_mem _ h.mem⟩
instance (ao:Option Addr)(ps:List Pf){α:Type}(e:Ty α)(cap:Nat)(xs:List α):FSl ao (Sl e ao cap xs::ps) e cap xs:=⟨List.mem_cons_self⟩
class FAg (cs:List Value)(ps:List Pf){α:outParam Type}(e:outParam (Ty α))(y:outParam α):Prop where
 mem:Ag e cs y∈ps
instance (cs:List Value)(q:Pf)(ps:List Pf){α:Type}(e:Ty α)(y:α)[h:FAg cs ps e y]:FAg cs (q::ps) e y:=⟨List.mem_cons_of_mem _ h.mem⟩
instance (cs:List Value)(ps:List Pf){α:Type}(e:Ty α)(y:α):FAg cs (Ag e cs y::ps) e y:=⟨List.mem_cons_self⟩
inductive InP:Pf->List Pf->Prop where
 |head {p:Pf} {l:List Pf}:InP p (p::l)
 |tail {p q:Pf} {l:List Pf}:InP p l->InP p (q::l)
inductive AllIn:List Pf->List Pf->Prop where
 |nil {l:List Pf}:AllIn [] l
 |cons {p:Pf} {m l:List Pf}:InP p l->AllIn m l->AllIn (p::m) l
inductive TakeR:Res->List Res->List Res->Prop where
 |head {r:Res} {l:List Res}:TakeR r (r::l) l
 |tail {r s:Res} {l l':List Res}:TakeR r l l'->TakeR r (s::l) (s::l')
inductive SelR:List Res->List Res->List Res->Prop where
 |nil {l:List Res}:SelR [] l l
 |cons {r:Res} {rs l l' l2:List Res}:TakeR r l l'->SelR rs l' l2->SelR (r::rs) l l2
inductive Suf:List Pf->List Pf->Prop where
 |refl {l:List Pf}:Suf l l
 |tail {p:Pf} {m l:List Pf}:Suf m l->Suf m (p::l)
theorem Suf.sub {m:List Pf}(h:Suf m l):∀p∈m,p∈l:=by
 induction h with
 |refl=>exact fun _ h=>h
 |tail _ ih=>exact fun p hp=>List.mem_cons_of_mem _ (ih p hp)
theorem InP.mem {p:Pf}(h:InP p l):p∈l:=by
 induction h with
 |head=>exact List.mem_cons_self
 |tail _ ih=>exact List.mem_cons_of_mem _ ih
theorem AllIn.sub {m:List Pf}(h:AllIn m l):∀p∈m,p∈l:=by
 induction h with
 |nil=>intro p hp;simp at hp
 |cons h1 _ ih=>
  intro q hq
  rcases List.mem_cons.1 hq with rfl|hq
  ·exact h1.mem
  ·exact ih q hq
theorem TakeR.perm {r:Res}{l l':List Res}(h:TakeR r l l'):l.Perm (r::l'):=by
 induction h with
 |head=>exact List.Perm.refl _
 |tail _ ih=>exact (ih.cons _).trans (List.Perm.swap _ _ _)
theorem SelR.perm {rs l l':List Res}(h:SelR rs l l'):l.Perm (rs++l'):=by
 induction h with
 |nil=>exact List.Perm.refl _
 |cons h1 _ ih=>exact h1.perm.trans (ih.cons _)
class App {α:Type _}(a l:List α)(m:outParam (List α)):Prop where
 eq:m=a++l
instance {α:Type _}(l:List α):App [] l l:=⟨rfl⟩
instance {α:Type _}(x:α)(a l m:List α)[h:App a l m]:App (x::a) l (x::m):=⟨by rw[h.eq];rfl⟩
section rules
variable {P:Program} {n:Nat} {env:Env} {b:Base} {ps:List Pf} {hp:List Res} {Q:Exit->Act->World->Prop} {K:Act->World->Prop}
variable {rest:List Res}
theorem St.sel {ps':List Pf}{hp':List Res}{w:World}(h:St b F ps hp w)(h1:AllIn ps' ps)(h2:SelR hp' hp rest):St b F ps' hp' w:=
 (h.perm h2.perm).less h1.sub (List.sublist_append_left _ _)
theorem cl {d:Nat}{f:FuncId}{xs:List Operand}{ts:Array TypeId}{ty:TypeId}{pos:String}{aft:Array Edge}{gd:Option (Nat×Bool)}{vs:List Value}[hf:UFunc P f]{ps1:List Pf}{hp1:List Res}{σ:Type}{val:σ->Value}{ps':σ->List Pf}{hp':σ->List Res}
  {pz:σ->List Pf} {hz:σ->List Res} (hc:Does P f vs ps1 hp1 val ps' hp') (h:∀s,G n ((d,val s)::env) b (pz s) (hz s) K)
  (hxs:evs env xs=some vs:=by exact rfl)
  (hps:AllIn ps1 ps:=by exact GX.aB)
  (hl:SelR hp1 hp rest:=by exact GX.sA)
  (a1:∀s,App (ps' s) ps (pz s):=by intro s;exact inferInstance) (a2:∀s,App (hp' s) rest (hz s):=by intro s;exact inferInstance) (hd:Nat.blt d n=true:=by exact rfl):
  GO P n env b ps hp ⟨some d,.call {callee:=.value (.func f),args:=xs.toArray,argTypes:=ts },ty,pos,aft,gd⟩ K Q:=call hc hxs hps.sub hl.perm hd (fun s=>by rw[<- (a1 s).eq,<-(a2 s).eq];exact h s)
section leave
variable {fn:Func} {σ:Type} {val:σ->Value} {ps':σ->List Pf} {hp':σ->List Res}
variable {t:Tmp}
theorem rt0 (s:σ)(hr:fn.results=#[]:=by exact rfl)(hv:val s=.tuple #[]:=by exact rfl)
  (h1:AllIn (ps' s) ps:=by exact GX.aB)
  (h2:SelR (hp' s) hp rest:=by exact GX.sA):G n env b ps hp (Post P fn b val ps' hp' .ret):=
 ⟨fun w ⟨F,t⟩=>RX.ret0 hr ⟨s,by rw[hv],F,t.sel h1 h2⟩⟩
theorem en0 (s:σ)(hr:fn.results=#[]:=by exact rfl)(hv:val s=.tuple #[]:=by exact rfl)
  (h1:AllIn (ps' s) ps:=by exact GX.aB)
  (h2:SelR (hp' s) hp rest:=by exact GX.sA):G n env b ps hp (Post P fn b val ps' hp' .normal):=
 ⟨fun w ⟨F,t⟩=>RX.end0 hr ⟨s,by rw[hv],F,t.sel h1 h2⟩⟩
theorem rt1 {v:Value}(s:σ)(hv:val s=v)
  (h1:AllIn (ps' s) ps:=by exact GX.aB)
  (h2:SelR (hp' s) hp rest:=by exact GX.sA)
  (hr:fn.results=#[.tmp t]:=by exact rfl) (hk:lk env t=some v:=by exact rfl):G n env b ps hp (Post P fn b val ps' hp' .ret):=
 ⟨fun w ⟨F,st⟩=>RX.ret1 hr hk ⟨s,by rw[hv],F,st.sel h1 h2⟩⟩
theorem rt2 {u:Tmp}{v x:Value}(s:σ)(hv:val s=.tuple #[v,x])
  (h1:AllIn (ps' s) ps:=by exact GX.aB)
  (h2:SelR (hp' s) hp rest:=by exact GX.sA)
  (hr:fn.results=#[.tmp t,.tmp u]:=by exact rfl) (hk:lk env t=some v:=by exact rfl) (hk2:lk env u=some x:=by exact rfl):G n env b ps hp (Post P fn b val ps' hp' .ret):=
 ⟨fun w ⟨F,st⟩=>RX.ret2 hr hk hk2 ⟨s,by rw[hv],F,st.sel h1 h2⟩⟩
theorem rt3 {u r:Tmp}{v x y:Value}(s:σ)(hv:val s=.tuple #[v,x,y])
  (h1:AllIn (ps' s) ps:=by exact GX.aB)
  (h2:SelR (hp' s) hp rest:=by exact GX.sA)
  (hr:fn.results=#[.tmp t,.tmp u,.tmp r]:=by exact rfl) (hk:lk env t=some v:=by exact rfl) (hk2:lk env u=some x:=by exact rfl) (hk3:lk env r=some y:=by exact rfl):G n env b ps hp (Post P fn b val ps' hp' .ret):=
 ⟨fun w ⟨F,st⟩=>RX.ret3 hr hk hk2 hk3 ⟨s,by rw[hv],F,st.sel h1 h2⟩⟩
end leave
variable {σ:Type} {envOf:σ->Env} {ps0:List Pf} {psOf:σ->List Pf} {hpOf:σ->List Res} {I:σ->Prop}
def Again (b:Base)(n:Nat){σ:Type}(envOf:σ->Env)(ps:List Pf)(psOf:σ->List Pf)(hpOf:σ->List Res)(I:σ->Prop)(μ:σ->Nat)(m:Nat):Act->World->Prop:=
 fun a w=>∃s,Has n (envOf s) a/\I s/\μ s<m/\Ok b (psOf s++ps) (hpOf s) w
theorem loop {σ:Type}(envOf:σ->Env)(psOf:σ->List Pf)(hpOf:σ->List Res)(I:σ->Prop)(μ:σ->Nat){c:Code}(s0:σ){rest:List Res}(h0:RX.Sub (envOf s0) env)(hI:I s0)
  {pz:σ->List Pf} (round:∀s,I s->G n (envOf s) b (pz s) (hpOf s) (c.wp P (Exit.then (Again b n envOf ps psOf hpOf I μ (μ s)) Q)))
  (h1:AllIn (psOf s0) ps:=by exact GX.aB)
  (h2:SelR (hpOf s0) hp rest:=by exact GX.sA)
  (a1:∀s,App (psOf s) ps (pz s):=by intro s;exact inferInstance):G n env b ps hp ((Code.loop c).wp P Q):=by
 replace round:∀s,I s->G n (envOf s) b (psOf s++ps) (hpOf s) (c.wp P (Exit.then (Again b n envOf ps psOf hpOf I μ (μ s)) Q)):=fun s hs=>by rw[<- (a1 s).eq];exact round s hs
 constructor;rintro w ⟨F,t⟩;have hin:∀p∈psOf s0++ps,p∈ps:=fun p hp=>(List.mem_append.1 hp).elim (h1.sub p) id;refine RX.loop envOf (fun s w=>I s/\Ok b (psOf s++ps) (hpOf s) w) μ s0 h0 ⟨hI,F,(t.perm h2.perm).less hin (List.sublist_append_left _ _)⟩ ?_;rintro s w ⟨hIs,hs⟩;refine⟨fun a ha=>?_⟩;refine wp_mono (((round s hIs).run w hs).run a ha) ?_;intro e a' w' hq
 cases e<;>first
  |(obtain⟨s',g1,g2,g3,g4⟩:=hq;exact⟨s',g1,⟨g2,g4⟩,g3⟩)
  |exact hq
theorem again {μ:σ->Nat}{m:Nat}(s:σ)(h0:RX.Sub (envOf s) env)(hI:I s)(hμ:μ s<m)
  (h1:AllIn (psOf s) ps:=by exact GX.aB)
  (h2:SelR (hpOf s) hp rest:=by exact GX.sA)
  (h3:Suf ps0 ps:=by repeat (first|(with_reducible apply Go.GX.Suf.refl)|apply Go.GX.Suf.tail)):
  G n env b ps hp (Again b n envOf ps0 psOf hpOf I μ m):=by
 constructor;rintro w ⟨F,t⟩;have hin:∀p∈psOf s++ps0,p∈ps:=fun p hp=>(List.mem_append.1 hp).elim (h1.sub p) (fun h=>h3.sub p h);exact⟨fun a ha=>⟨s,ha.sub h0.spec,hI,hμ,F,(t.perm h2.perm).less hin (List.sublist_append_left _ _)⟩⟩
def Meet (b:Base)(n:Nat){σ:Type}(envOf:σ->Env)(ps:List Pf)(psOf:σ->List Pf)(hpOf:σ->List Res)(I:σ->Prop):Act->World->Prop:=
 fun a w=>∃s,Has n (envOf s) a/\I s/\Ok b (psOf s++ps) (hpOf s) w
theorem cut (envOf:σ->Env)(psOf:σ->List Pf)(hpOf:σ->List Res)(I:σ->Prop){x:Code}(h1:G n env b ps hp (x.wp P (Exit.then (Meet b n envOf ps psOf hpOf I) Q))){pz:σ->List Pf}(h2:∀s,I s->G n (envOf s) b (pz s) (hpOf s) K)(a1:∀s,App (psOf s) ps (pz s):=by intro s;exact inferInstance):G n env b ps hp (x.wp P (Exit.then K Q)):=by
 replace h2:∀s,I s->G n (envOf s) b (psOf s++ps) (hpOf s) K:=fun s hs=>by rw[<- (a1 s).eq];exact h2 s hs
 constructor;intro w s;refine⟨fun a ha=>wp_mono ((h1.run w s).run a ha) ?_⟩;intro e a' w' hq
 cases e<;>first
  |(obtain⟨s,hs,hI,ho⟩:=hq;exact ((h2 s hI).run w' ho).run a' hs)
  |exact hq
theorem meet (s:σ)(h0:RX.Sub (envOf s) env)(hI:I s)
  (h1:AllIn (psOf s) ps:=by exact GX.aB)
  (h2:SelR (hpOf s) hp rest:=by exact GX.sA)
  (h3:Suf ps0 ps:=by repeat (first|(with_reducible apply Go.GX.Suf.refl)|apply Go.GX.Suf.tail)):
  G n env b ps hp (Meet b n envOf ps0 psOf hpOf I):=by
 constructor;rintro w ⟨F,t⟩;have hin:∀p∈psOf s++ps0,p∈ps:=fun p hp=>(List.mem_append.1 hp).elim (h1.sub p) (fun h=>h3.sub p h);exact⟨fun a ha=>⟨s,ha.sub h0.spec,hI,F,(t.perm h2.perm).less hin (List.sublist_append_left _ _)⟩⟩
end rules
variable {b:List Pf}
theorem sA {a b c:List Res}(h:SelR a b c:=by first|((repeat (first|apply Go.GX.SelR.nil|apply Go.GX.SelR.cons|(with_reducible apply Go.GX.TakeR.head)|apply Go.GX.TakeR.tail));done)|(repeat (first|apply Go.GX.SelR.nil|apply Go.GX.SelR.cons|apply Go.GX.TakeR.head|apply Go.GX.TakeR.tail))):SelR a b c:=h
theorem aA {a:List Pf}(h:AllIn a b:=by ((repeat (first|apply Go.GX.AllIn.nil|apply Go.GX.AllIn.cons|(with_reducible apply Go.GX.InP.head)|apply Go.GX.InP.tail));done)):AllIn a b:=h
theorem aB {a:List Pf}(h:AllIn a b:=by first|((repeat (first|apply Go.GX.AllIn.nil|apply Go.GX.AllIn.cons|(with_reducible apply Go.GX.InP.head)|apply Go.GX.InP.tail));done)|(repeat (first|apply Go.GX.AllIn.nil|apply Go.GX.AllIn.cons|apply Go.GX.InP.head|apply Go.GX.InP.tail))):AllIn a b:=h
end Go.GX
namespace Go.GX
open Go Go.RowKit Go.RR Go.RX
section
variable {P:Program} {n:Nat} {env:Env} {b:Base} {ps:List Pf} {hp:List Res} {Q:Exit->Act->World->Prop} {K:Act->World->Prop}
def RdV (P:Program)(n:Nat)(env:Env)(ps:List Pf)(hp:List Res)(op:Op)(v:Value):Prop:=
 ∀(F:Nat->Prop) (w:World),AllP F w ps->AllR F w hp->Soft P n env (fun w'=>Agree (fun k=>F k\/feet hp k) w w') op v
theorem rdv {d:Nat}{p:Op}{ty:TypeId}{pos:String}{aft:Array Edge}{gd:Option (Nat×Bool)}{v:Value}(hr:RdV P n env ps hp p v)(hd:Nat.blt d n=true)(h:G n ((d,v)::env) b ps hp K):
  GO P n env b ps hp ⟨some d,p,ty,pos,aft,gd⟩ K Q:=by
 constructor;rintro w ⟨F,s⟩;exact RX.soft (v:=v) (fun a ha o ho w' hw=>hr F w s.fs s.rs a ha o ho w' (by subst hw;exact Agree.refl _ _)) hd (h.run w ⟨F,s⟩)
theorem RdV.of_soft {op:Op}{v:Value}(h:∀S,Soft P n env S op v):RdV P n env ps hp op v:=fun _ _ _ _=>h _
theorem look_sub {α β:Type}{e:Ty α}{f:Ty β}{bl o' off:Nat}{y:α}{get:α->β}{put:β->α->α}[hl:Look bl o' ps hp e off y][hs:Sub e off f get put]{F:Nat->Prop}{w:World}(h1:AllP F w ps)(h2:AllR F w hp):
  ∃c,CellsAt w bl o' c/\f.rd F w c (get y)/\(F bl\/feet hp bl):=by
 obtain⟨o,cs,rfl,h3,h4,h5⟩:=hl.look h1 h2;refine⟨_,fun j c hj=>?_,hs.get h4,h5⟩;rw[List.getElem?_take] at hj;split at hj
 ·rw[List.getElem?_drop] at hj;have:=h3 (off+j) c hj;rwa[<- Nat.add_assoc] at this
 ·cases hj
section loads
variable {α:Type} {e:Ty α} {bl o' off:Nat} {y:α} {t:TypeId} {x:Operand}
variable {sz:Nat}
theorem ld_num {k:IntKind}{get:α->Int}{put:Int->α->α}[UOne P t][Look bl o' ps hp e off y][Sub e off (Ty.num k) get put](hx:ev env x=some (.pointer (some ⟨bl,o',none⟩))):RdV P n env ps hp (.load t x) (.int k (get y)):=fun F w h1 h2=>by
 obtain⟨c,h3,h4,h5⟩:=look_sub (e:=e) (f:=Ty.num k) (bl:=bl) (o':=o') (y:=y) (get:=get) (put:=put) h1 h2;have h4:c=[.int k (get y)]:=h4;subst h4;exact RX.load hx (fun w' ha=>ha.cell h5 (h3 0 _ rfl))
theorem ld_bool {get:α->Bool}{put:Bool->α->α}[UOne P t][Look bl o' ps hp e off y][Sub e off Ty.bool get put](hx:ev env x=some (.pointer (some ⟨bl,o',none⟩))):RdV P n env ps hp (.load t x) (.bool (get y)):=fun F w h1 h2=>by
 obtain⟨c,h3,h4,h5⟩:=look_sub (e:=e) (f:=Ty.bool) (bl:=bl) (o':=o') (y:=y) (get:=get) (put:=put) h1 h2;have h4:c=[.bool (get y)]:=h4;subst h4;exact RX.load hx (fun w' ha=>ha.cell h5 (h3 0 _ rfl))
theorem ld_slice {β:Type}{g:Ty β}{get:α->List β}{put:List β->α->α}[UOne P t][Look bl o' ps hp e off y][Sub e off (Ty.slice g) get put](hx:ev env x=some (.pointer (some ⟨bl,o',none⟩))):
  Rd P n env ps hp (.load t x) (fun i:{i:Option Addr×Nat // (get y).length<=i.2/\i.2<=9223372036854775807}=>.slice i.1.1 (get y).length i.1.2) (fun i=>[Sl g i.1.1 i.1.2 (get y)]):=fun F w h1 h2=>by
 obtain⟨c,h3,h4,h5⟩:=look_sub (e:=e) (f:=Ty.slice g) (bl:=bl) (o':=o') (y:=y) (get:=get) (put:=put) h1 h2;obtain⟨ao,cap,rfl,h6,h7,h8⟩:=h4;refine⟨⟨(ao,cap),h6,h7⟩,?_,RX.load hx (fun w' ha=>ha.cell h5 (h3 0 _ rfl))⟩;intro p hp
 rcases List.mem_cons.1 hp with rfl|hp
 ·exact⟨h6,h7,h8⟩
 ·simp at hp
theorem ld_hdr {get:α->Option Addr×Nat×Nat}{put:Option Addr×Nat×Nat->α->α}[UOne P t][Look bl o' ps hp e off y][Sub e off Ty.hdr get put](hx:ev env x=some (.pointer (some ⟨bl,o',none⟩))):RdV P n env ps hp (.load t x) (.slice (get y).1 (get y).2.1 (get y).2.2):=fun F w h1 h2=>by
 obtain⟨c,h3,h4,h5⟩:=look_sub (e:=e) (f:=Ty.hdr) (bl:=bl) (o':=o') (y:=y) (get:=get) (put:=put) h1 h2;have h4:c=[.slice (get y).1 (get y).2.1 (get y).2.2]:=h4;subst h4;exact RX.load hx (fun w' ha=>ha.cell h5 (h3 0 _ rfl))
theorem run_loadAgg [h:UAgg P t][hs:USize P t sz]{cs:List Value}{S:World->Prop}(hx:ev env x=some (.pointer (some ⟨bl,o',none⟩)))(hl:cs.length=sz)(hc:∀w,S w->CellsAt w bl o' cs):Soft P n env S (.load t x) (.agg cs.toArray):=fun a ha o' ho w hw=>by
 subst hl;have:=run_loadCells_list (P:=P) w ⟨bl,_,none⟩ cs (fun j v hj=>by rw[Addr.add_lit];exact hc w hw j v hj);simp[execOp,ho,ha.ev hx,Instr.loadAt,Instr.sureAddr,loadVar,h.a,hs.s,this]
theorem ld_agg {β:Type}{f:Ty β}{get:α->β}{put:β->α->α}[UAgg P t][USize P t sz][Look bl o' ps hp e off y][hS:SubS e off f get put](hx:ev env x=some (.pointer (some ⟨bl,o',none⟩)))(hsz:f.size=sz):
  Rd P n env ps hp (.load t x) (fun cs:List Value=>.agg cs.toArray) (fun cs=>[Ag f cs (get y)]):=fun F w h1 h2=>by
 have:=hS.s;obtain⟨c,h3,h4,h5⟩:=look_sub (e:=e) (f:=f) (bl:=bl) (o':=o') (y:=y) (get:=get) (put:=put) h1 h2;refine⟨c,?_,run_loadAgg hx (by rw[f.len h4,hsz]) (fun w' ha=>h3.move ha h5)⟩;intro p hp
 rcases List.mem_cons.1 hp with rfl|hp
 ·exact h4
 ·simp at hp
theorem ld_agg0 [UAgg P t][USize P t sz][hl:Look bl o' ps hp e 0 y](hx:ev env x=some (.pointer (some ⟨bl,o',none⟩)))(hsz:e.size=sz):
  Rd P n env ps hp (.load t x) (fun cs:List Value=>.agg cs.toArray) (fun cs=>[Ag e cs y]):=fun F w h1 h2=>by
 obtain⟨o,c,rfl,h3,h4,h5⟩:=hl.look h1 h2;refine⟨c,?_,run_loadAgg hx (by rw[e.len h4,hsz]) (fun w' ha=>h3.move ha h5)⟩;intro p hp
 rcases List.mem_cons.1 hp with rfl|hp
 ·exact h4
 ·simp at hp
theorem ld_row {i:Nat}{v:Value}{te:TypeId}{vs:List Value}{rest:List Res}[UOne P t][hf:FRow bl hp te vs rest](hx:ev env x=some (.pointer (some ⟨bl,i,none⟩)))(hv:vs[i]?=some v):RdV P n env ps hp (.load t x) v:=fun F w h1 h2=>by
 have hm:=hf.p.mem_iff.2 List.mem_cons_self;have hr:Row w bl te vs:=h2 _ hm;exact RX.load hx (fun w' ha=>ha.cell (.inr ⟨_,hm,rfl⟩) (hr.cell_some hv))
end loads
theorem own_cells {α:Type}{e:Ty α}{g cap:Nat}{xs:List α}{te:TypeId}{rest:List Res}[hf:FOwn (some ⟨g,0,none⟩) hp te e cap xs rest]{F:Nat->Prop}{w:World}(h2:AllR F w hp){i:Nat}{x:α}(hx:xs[i]?=some x):
  ∃cs,CellsAt w g (i*e.size) cs/\e.rd F w cs x/\feet hp g:=by
 have hm:=hf.p.mem_iff.2 List.mem_cons_self;obtain⟨cs,ho,he⟩:(Own te e (some ⟨g,0,none⟩) cap xs).says F w:=h2 _ hm;obtain⟨m,h3,h4⟩:=he.cells hx;refine⟨m,fun j c hj=>?_,h3,⟨_,hm,rfl⟩⟩;have:=ho.cells (g:=g) rfl _ _ (h4 j c hj);rwa[Addr.add_lit,Nat.zero_add] at this
section own
variable {α:Type} {e:Ty α} {g cap i:Nat} {xs:List α} {x0:α} {te t:TypeId} {x:Operand} {rest:List Res}
variable {off:Nat}
theorem lo_num {k:IntKind}{get:α->Int}{put:Int->α->α}[UOne P t][FOwn (some ⟨g,0,none⟩) hp te e cap xs rest][hs:Sub e off (Ty.num k) get put](hx:ev env x=some (.pointer (some ⟨g,i*e.size+off,none⟩)))(hi:xs[i]?=some x0):RdV P n env ps hp (.load t x) (.int k (get x0)):=fun F w _ h2=>by
 obtain⟨cs,h3,h4,h5⟩:=own_cells (te:=te) (e:=e) (g:=g) (cap:=cap) (rest:=rest) h2 hi;have h6:(cs.drop off).take 1=[.int k (get x0)]:=hs.get h4;have h7:cs[off]?=some (.int k (get x0)):=by
  have:=congrArg (·[0]?) h6;simpa[List.getElem?_take,List.getElem?_drop] using this
 exact RX.load hx (fun w' ha=>ha.cell (.inr h5) (h3 off _ h7))
theorem lo_bool {get:α->Bool}{put:Bool->α->α}[UOne P t][FOwn (some ⟨g,0,none⟩) hp te e cap xs rest][hs:Sub e off Ty.bool get put](hx:ev env x=some (.pointer (some ⟨g,i*e.size+off,none⟩)))(hi:xs[i]?=some x0):RdV P n env ps hp (.load t x) (.bool (get x0)):=fun F w _ h2=>by
 obtain⟨cs,h3,h4,h5⟩:=own_cells (te:=te) (e:=e) (g:=g) (cap:=cap) (rest:=rest) h2 hi;have h6:(cs.drop off).take 1=[.bool (get x0)]:=hs.get h4;have h7:cs[off]?=some (.bool (get x0)):=by
  have:=congrArg (·[0]?) h6;simpa[List.getElem?_take,List.getElem?_drop] using this
 exact RX.load hx (fun w' ha=>ha.cell (.inr h5) (h3 off _ h7))
theorem lo_hdr {get:α->Option Addr×Nat×Nat}{put:Option Addr×Nat×Nat->α->α}[UOne P t][FOwn (some ⟨g,0,none⟩) hp te e cap xs rest][hs:Sub e off Ty.hdr get put](hx:ev env x=some (.pointer (some ⟨g,i*e.size+off,none⟩)))(hi:xs[i]?=some x0):RdV P n env ps hp (.load t x) (.slice (get x0).1 (get x0).2.1 (get x0).2.2):=fun F w _ h2=>by
 obtain⟨cs,h3,h4,h5⟩:=own_cells (te:=te) (e:=e) (g:=g) (cap:=cap) (rest:=rest) h2 hi;have h6:(cs.drop off).take 1=[.slice (get x0).1 (get x0).2.1 (get x0).2.2]:=hs.get h4;have h7:cs[off]?=some (.slice (get x0).1 (get x0).2.1 (get x0).2.2):=by
  have:=congrArg (·[0]?) h6;simpa[List.getElem?_take,List.getElem?_drop] using this
 exact RX.load hx (fun w' ha=>ha.cell (.inr h5) (h3 off _ h7))
theorem lo_slice {β:Type}{f:Ty β}{get:α->List β}{put:List β->α->α}[UOne P t][FOwn (some ⟨g,0,none⟩) hp te e cap xs rest][hs:Sub e off (Ty.slice f) get put](hx:ev env x=some (.pointer (some ⟨g,i*e.size+off,none⟩)))(hi:xs[i]?=some x0):
  Rd P n env ps hp (.load t x) (fun i:{i:Option Addr×Nat // (get x0).length<=i.2/\i.2<=9223372036854775807}=>.slice i.1.1 (get x0).length i.1.2) (fun i=>[Sl f i.1.1 i.1.2 (get x0)]):=fun F w _ h2=>by
 obtain⟨cs,h3,h4,h5⟩:=own_cells (te:=te) (e:=e) (g:=g) (cap:=cap) (rest:=rest) h2 hi;obtain⟨ao,cap',h6,h8,h9,h10⟩:=hs.get h4;have h6:(cs.drop off).take 1=[.slice ao (get x0).length cap']:=h6;have h7:cs[off]?=some (.slice ao (get x0).length cap'):=by
  have:=congrArg (·[0]?) h6;simpa[List.getElem?_take,List.getElem?_drop] using this
 refine⟨⟨(ao,cap'),h8,h9⟩,?_,RX.load hx (fun w' ha=>ha.cell (.inr h5) (h3 off _ h7))⟩;intro p hp
 rcases List.mem_cons.1 hp with rfl|hp
 ·exact⟨h8,h9,h10⟩
 ·simp at hp
theorem lo_agg {sz:Nat}[UAgg P t][USize P t sz][FOwn (some ⟨g,0,none⟩) hp te e cap xs rest](hx:ev env x=some (.pointer (some ⟨g,i*e.size,none⟩)))(hi:xs[i]?=some x0)(hsz:e.size=sz):
  Rd P n env ps hp (.load t x) (fun cs:List Value=>.agg cs.toArray) (fun cs=>[Ag e cs x0]):=fun F w _ h2=>by
 obtain⟨cs,h3,h4,h5⟩:=own_cells (te:=te) (e:=e) (g:=g) (cap:=cap) (rest:=rest) h2 hi;refine⟨cs,?_,run_loadAgg hx (by rw[e.len h4,hsz]) (fun w' ha=>h3.move ha (.inr h5))⟩;intro p hp
 rcases List.mem_cons.1 hp with rfl|hp
 ·exact h4
 ·simp at hp
end own
variable {α:Type} {e:Ty α} {ao:Option Addr} {xs:List α} {t et:TypeId} {x y:Operand} {k:IntKind} {i:Int}
theorem ix_sl {cap cap':Nat}{x0:α}{m:Nat}{sz:Nat}[USlice P t et][USize P et sz][hf:FSl ao ps e cap xs](hx:ev env x=some (.slice ao m cap'))(hy:ev env y=some (.int k i))
  (hi:∃j:Nat,i=(j:Int)/\xs[j]?=some x0) (hm:m=xs.length) (hsz:e.size=sz):
  Rd P n env ps hp (.indexAddr t x y) (fun i:Nat×Nat=>.pointer (some ⟨i.1,i.2,none⟩)) (fun i=>[Pt e i.1 i.2 x0]):=fun F w h1 h2=>by
 subst hm;subst hsz;obtain⟨j,rfl,hj⟩:=hi;obtain⟨_,_,hs⟩:(Sl e ao cap xs).says F w:=h1 _ hf.mem;obtain⟨b,o,cs,rfl,h3,h4,h5,h6⟩:=hs j x0 hj;have hlt:j<xs.length:=(List.getElem?_eq_some_iff.1 hj).1;refine⟨(b,o+j*e.size),?_,RX.indexAddrS hx hy hlt⟩;intro p hp
 rcases List.mem_cons.1 hp with rfl|hp
 ·exact⟨h3,h4,cs,h5,h6⟩
 ·simp at hp
theorem ix_own {g cap cap':Nat}{x0:α}{te:TypeId}{m j:Nat}{sz:Nat}{rest:List Res}[USlice P t et][USize P et sz][FOwn (some ⟨g,0,none⟩) hp te e cap xs rest](hx:ev env x=some (.slice (some ⟨g,0,none⟩) m cap'))(hy:ev env y=some (.int k i))
  (hi:i=(j:Int)/\xs[j]?=some x0) (hm:m=xs.length):RdV P n env ps hp (.indexAddr t x y) (.pointer (some ⟨g,j*sz,none⟩)):=fun F w h1 h2=>by
 subst hm;obtain⟨rfl,hj⟩:=hi;have hlt:j<xs.length:=(List.getElem?_eq_some_iff.1 hj).1;have:=RX.indexAddrS (P:=P) (n:=n) (env:=env) (S:=fun w'=>Agree (fun k=>F k\/feet hp k) w w') (t:=t) hx hy hlt;simpa using this
theorem sl_mid {F:Nat->Prop}{w:World}(h:SlAt e F w ao xs)(l m:Nat):SlAt e F w (ao.map (·.add (l*e.size))) ((xs.drop l).take m):=fun i x hx=>by
 rw[List.getElem?_take] at hx;split at hx
 ·rw[List.getElem?_drop] at hx;obtain⟨b,o,cs,rfl,h2,h3,h4,h5⟩:=h (l+i) x hx;refine⟨b,o+l*e.size,cs,by rw[Option.map_some,Addr.add_lit],h2,h3,?_,h5⟩;rw[show o+l*e.size+i*e.size=o+(l+i)*e.size by rw[Nat.add_mul];omega];exact h4
 ·cases hx
theorem sliceBound_run {y:Nat}{c:BoundsCode}{w:World}(h:0<=i/\i<=y):(Instr.sliceBound (.int k i) y c).run P w=.ok i.toNat w:=by
 simp[Instr.sliceBound,asIntOf,h]
section cutting
variable {α:Type} {e:Ty α} {ao:Option Addr} {cap m:Nat} {xs:List α} {t et:TypeId} {x y z:Operand} {k:IntKind} {i j:Int} {sz:Nat}
variable {F:Nat->Prop} {ao':Option Addr}
theorem mk_sl {w:World}{cap':Nat}{ys:List α}(h1:ys.length<=cap')(h2:cap'<=9223372036854775807)(h3:SlAt e F w ao' ys):AllP F w [Sl e ao' cap' ys]:=by
 intro p hp
 rcases List.mem_cons.1 hp with rfl|hp
 ·exact⟨h1,h2,h3⟩
 ·simp at hp
theorem nil_at {w:World}:SlAt e F w ao' []:=fun i x hx=>by simp at hx
theorem sl_hi [ht:USlice P t et][hs:USize P et sz][hf:FSl ao ps e cap xs](hx:ev env x=some (.slice ao m cap))(hy:ev env y=some (.int k j))(hm:m=xs.length)(hsz:e.size=sz)(hj:0<=j/\j<=m):
  Rd P n env ps hp (.slice t x none (some y) none) (fun i:Option Addr=>.slice i (xs.take j.toNat).length cap) (fun i=>[Sl e i cap (xs.take j.toNat)]):=fun F w h1 h2=>by
 subst hm;subst hsz;obtain⟨hc,hb,hsl⟩:(Sl e ao cap xs).says F w:=h1 _ hf.mem;have hl:(xs.take j.toNat).length=j.toNat:=by rw[List.length_take];omega
 refine⟨if cap=0 then ao else ao.map (·.add (0*e.size)),mk_sl (by omega) hb ?_,fun a ha o ho w' _=>?_⟩
 ·have:=sl_mid hsl 0 j.toNat;rw[List.drop_zero] at this;split
  ·have:xs=[]:=List.length_eq_zero_iff.1 (by omega);subst this;simp;exact nil_at
  ·exact this
 ·have hb1:=sliceBound_run (P:=P) (k:=k) (i:=j) (y:=cap) (c:=.sliceAcap) (w:=w') ⟨hj.1,by omega⟩;simp[execOp,ho,ha.ev hx,ha.ev hy,Instr.sliceAt,Instr.slice,run_underlying ht.u,Instr.sliceBounds,hb1,hs.s,hl]
theorem sl_lo [ht:USlice P t et][hs:USize P et sz][hf:FSl ao ps e cap xs](hx:ev env x=some (.slice ao m cap))(hy:ev env y=some (.int k i))(hm:m=xs.length)(hsz:e.size=sz)(hi:0<=i/\i<=m):
  Rd P n env ps hp (.slice t x (some y) none none) (fun q:Option Addr=>.slice q (xs.drop i.toNat).length (cap-i.toNat)) (fun q=>[Sl e q (cap-i.toNat) (xs.drop i.toNat)]):=fun F w h1 h2=>by
 subst hm;subst hsz;obtain⟨hc,hb,hsl⟩:(Sl e ao cap xs).says F w:=h1 _ hf.mem;have hl:(xs.drop i.toNat).length=xs.length-i.toNat:=by rw[List.length_drop]
 refine⟨if cap=i.toNat then ao else ao.map (·.add (i.toNat*e.size)),mk_sl (by omega) (by omega) ?_,fun a ha o ho w' _=>?_⟩
 ·have:=sl_mid hsl i.toNat (xs.length);rw[List.take_of_length_le (by rw[hl];omega)] at this;split
  ·have:xs.drop i.toNat=[]:=List.length_eq_zero_iff.1 (by omega);rw[this];exact nil_at
  ·exact this
 ·have hb1:=sliceBound_run (P:=P) (k:=k) (i:=i) (y:=xs.length) (c:=.sliceB) (w:=w') ⟨hi.1,by omega⟩;simp[execOp,ho,ha.ev hx,ha.ev hy,Instr.sliceAt,Instr.slice,run_underlying ht.u,Instr.sliceBounds,hb1,hs.s,hl]
end cutting
end
end Go.GX
