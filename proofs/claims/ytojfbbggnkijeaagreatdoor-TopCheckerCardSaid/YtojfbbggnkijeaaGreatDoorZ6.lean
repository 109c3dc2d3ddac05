import Derived.Test.YtojfbbggnkijeaaGreatDoorZ5
import Derived.Laws.BytesArg
import Derived.Laws.Strings
import Derived.ChangeKeysEq
import Derived.Laws.StructEq
import Derived.Laws.CopyRow
import Derived.Laws.IdiomCopy
set_option linter.all false
namespace Go.GX
open Go Go.RowKit Go.RR Go.RX
variable {d:Nat} {ty:TypeId} {pos:String} {aft:Array Edge} {gd:Option (Nat×Bool)}
theorem get_lt {α:Type}{xs:List α}{i:Nat}(h:i<xs.length):∃x,xs[i]?=some x:=⟨xs[i],List.getElem?_eq_getElem h⟩
section
variable {P:Program} {n:Nat} {env:Env} {b:Base} {ps:List Pf} {hp:List Res} {Q:Exit->Act->World->Prop} {K:Act->World->Prop}
section shapes
variable {ops:Array Oper} {hold:Nat->Bool} {i:Nat} {r:List (Nat×Bool)}
theorem s_list {l:List Oper}(h_:G n env b ps hp (wpList P ops Q l)):G n env b ps hp (wpList P ops Q l):=h_
theorem s_cond {c:Operand}{x y:Code}(h_:G n env b ps hp ((Code.cond c x y).wp P Q)):G n env b ps hp ((Code.cond c x y).wp P Q):=h_
theorem s_take {S:World->Prop}(h_:G n env b ps hp (wpPlan P ops Q S hold ((i,true)::r))):G n env b ps hp (wpPlan P ops Q S hold ((i,true)::r)):=h_
theorem s_go {S:World->Prop}(h_:G n env b ps hp (wpPlan P ops Q S hold ((i,false)::r))):G n env b ps hp (wpPlan P ops Q S hold ((i,false)::r)):=h_
theorem s_went {S:World->Prop}(h_:G n env b ps hp (Went S hold i K)):G n env b ps hp (Went S hold i K):=h_
end shapes
variable {f:FuncId} {x:Operand} {xs:List Operand} {ts:Array TypeId} {fs:List Value} {ps1:List Pf} {hp1 rest:List Res} {σ:Type} {val:σ->Value} {ps':σ->List Pf} {hp':σ->List Res} {t:TypeId} {bl:Nat} {q:Option Addr}
theorem callv {w:World}{vs cs:List Value}{R:Ending->World->Prop}[hf:UFunc P f]
  (hx:ev env x=some (.func (.func f) fs.toArray cs.toArray)) (hxs:evs env xs=some vs) (hc:Calls P f (fs++(vs++cs)).toArray w R) (hd:Nat.blt d n=true) (h:∀e w',R e w'->∃v,e=.returned v/\E n ((d,v)::env) w' K):
  OW P n env w ⟨some d,.call {callee:=.value x,args:=xs.toArray,argTypes:=ts },ty,pos,aft,gd⟩ K Q:=by
 constructor;intro a ha;show Oper.upon P _ a K Q ((execOp a.eval _).run P w);have hr:(execOp a.eval ⟨some d,.call {callee:=.value x,args:=xs.toArray,argTypes:=ts },ty,pos,aft,gd⟩).run P w=.ok (.enter f (fs++(vs++cs)).toArray) w:=by
  have he:(xs.toArray.map a.eval)=vs.toArray:=by simp[ha.evs hxs]
  simp only[execOp,resolve,ha.ev hx,he];simp[Deferred.ofValue,invoke,hf.c]
 rw[hr];refine Calls.mono hc fun e w' hR=>?_;obtain⟨v,rfl,hk⟩:=h e w' hR;exact hk.run _ (ha.put (d:=d) v hd)
theorem callvG {vs cs:List Value}[hf:UFunc P f]
  (hc:Does P f (fs++(vs++cs)) ps1 hp1 val ps' hp') (hx:ev env x=some (.func (.func f) fs.toArray cs.toArray)) (hxs:evs env xs=some vs) (hps:∀p∈ps1,p∈ps) (hl:hp.Perm (hp1++rest)) (hd:Nat.blt d n=true) (h:∀s,G n ((d,val s)::env) b (ps' s++ps) (hp' s++rest) K):
  GO P n env b ps hp ⟨some d,.call {callee:=.value x,args:=xs.toArray,argTypes:=ts },ty,pos,aft,gd⟩ K Q:=by
 constructor;rintro w ⟨F,s⟩;have s:=s.perm hl;refine callv hx hxs (hc.run w F b (s.less hps (List.sublist_append_left _ _))) hd ?_;rintro e w' ⟨i,rfl,h'⟩;obtain⟨F',_,_,_,s'⟩:=s.act h';exact⟨_,rfl,(h i).run w' ⟨F',s'⟩⟩
theorem clv {vs cs:List Value}[hf:UFunc P f]
  {pz:σ->List Pf} {hz:σ->List Res} (hc:Does P f (fs++(vs++cs)) ps1 hp1 val ps' hp') (h:∀s,G n ((d,val s)::env) b (pz s) (hz s) K)
  (hx:ev env x=some (.func (.func f) fs.toArray cs.toArray):=by exact rfl) (hxs:evs env xs=some vs:=by exact rfl)
  (hps:AllIn ps1 ps:=by exact GX.aB)
  (hl:SelR hp1 hp rest:=by exact GX.sA)
  (a1:∀s,App (ps' s) ps (pz s):=by intro s;exact inferInstance) (a2:∀s,App (hp' s) rest (hz s):=by intro s;exact inferInstance) (hd:Nat.blt d n=true:=by exact rfl):
  GO P n env b ps hp ⟨some d,.call {callee:=.value x,args:=xs.toArray,argTypes:=ts },ty,pos,aft,gd⟩ K Q:=callvG hc hx hxs hps.sub hl.perm hd (fun s=>by rw[<- (a1 s).eq,<-(a2 s).eq];exact h s)
theorem clvA {vs cs:List Value}[hf:UFunc P f]
  (hc:Does P f (fs++(vs++cs)) ps1 hp val (fun _=>[]) (fun _=>hp)) (h:∀s,G n ((d,val s)::env) b ps hp K)
  (hx:ev env x=some (.func (.func f) fs.toArray cs.toArray):=by exact rfl) (hxs:evs env xs=some vs:=by exact rfl)
  (hps:Suf ps1 ps:=by repeat (first|(with_reducible apply Go.GX.Suf.refl)|apply Go.GX.Suf.tail)) (hd:Nat.blt d n=true:=by exact rfl):
  GO P n env b ps hp ⟨some d,.call {callee:=.value x,args:=xs.toArray,argTypes:=ts },ty,pos,aft,gd⟩ K Q:=
 callvG (rest:=[]) hc hx hxs hps.sub (by rw[List.append_nil]) hd (fun s=>by rw[List.nil_append,List.append_nil];exact h s)
theorem clA {vs:List Value}[hf:UFunc P f]
  (hc:Does P f vs ps1 hp val (fun _=>[]) (fun _=>hp)) (h:∀s,G n ((d,val s)::env) b ps hp K) (hxs:evs env xs=some vs:=by exact rfl)
  (hps:Suf ps1 ps:=by repeat (first|(with_reducible apply Go.GX.Suf.refl)|apply Go.GX.Suf.tail)) (hd:Nat.blt d n=true:=by exact rfl):
  GO P n env b ps hp ⟨some d,.call {callee:=.value (.func f),args:=xs.toArray,argTypes:=ts },ty,pos,aft,gd⟩ K Q:=
 call hc hxs hps.sub (rest:=[]) (by rw[List.append_nil]) hd (fun s=>by rw[List.nil_append,List.append_nil];exact h s)
theorem slNil {α:Type}(e:Ty α)(h:G n env b (Sl e none 0 []::ps) hp K):G n env b ps hp K:=by
 constructor;rintro w ⟨F,s⟩;refine h.run w ⟨F,s.upd,s.lt,s.old,fun p hp=>?_,s.rs,s.apF,s.apart,s.on⟩
 rcases List.mem_cons.1 hp with rfl|hp
 ·exact⟨by simp,by omega,nil_at⟩
 ·exact s.fs p hp
theorem alR {z:Value}{vs:List Value}[hz:UZero P t z](h:∀bl,G n ((d,.pointer (some ⟨bl,0,none⟩))::env) b ps (RowR bl t vs::hp) K)(hv:z.cells.toList=vs:=by exact rfl)(hd:Nat.blt d n=true:=by exact rfl):GO P n env b ps hp ⟨some d,.alloc t,ty,pos,aft,gd⟩ K Q:=by
 subst hv;refine Acts.use (hp1:=[]) (rest:=hp) (ι:=Nat) (val:=fun bl=>.pointer (some ⟨bl,0,none⟩)) (pf:=fun bl=>[]) (hr:=fun bl=>[RowR bl t z.cells.toList]) ?_ (List.Perm.refl _) h;intro F w K Q b s hk;exact RX.alloc hd (fun bl w' hb hr hu=>hk bl w' (mkOkN s hu hr (fun k hk=>by have hk:k=bl:=hk;omega)))
theorem stRW {sz:Nat}{te:TypeId}{y:Operand}{cs vs:List Value}[hs:USize P t sz](h:G n env b ps (RowR bl te cs::rest) K)
  (hx:ev env x=some (.pointer (some ⟨bl,0,none⟩)):=by exact rfl) (hy:ev env y=some (.agg cs.toArray):=by exact rfl) (hf:FRow bl hp te vs rest:=by exact inferInstance) (hl:cs.length=sz:=by exact rfl) (hl2:vs.length=sz:=by exact rfl) (h1:cs.all (·.oneCell')=true:=by exact rfl):GO P n env b ps hp ⟨none,.store t x y,ty,pos,aft,gd⟩ K Q:=by
 subst hl;refine Acts.use (hp1:=[RowR bl te vs]) (ι:=Unit) (val:=fun _=>undef) (pf:=fun _=>[]) (hr:=fun _=>[RowR bl te cs]) ?_ hf.p (fun _=>h);intro F w K Q b s hk;have h2:Row w bl te vs:=s.rs (RowR bl te vs) (by simp);refine store_cells hx hy (by simp[Value.cells]) h2 (fun u hu=>List.all_eq_true.1 h1 u hu) (by omega) (fun w' hrow hu=>hk () w' (mkOk1 s hu ?_ (fun k hk _=>hk)));have e:over vs 0 cs=cs:=by unfold over;rw[List.drop_of_length_le (by omega)];simp
 rw[e] at hrow;exact hrow
theorem agI {α:Type}{e:Ty α}{cs:List Value}{y:α}(h:G n env b (Ag e cs y::ps) hp K)(hr:Reads ps (.agg cs.toArray) e y:=by first|exact Go.GX.Rds.r):G n env b ps hp K:=by
 constructor;rintro w ⟨F,s⟩;refine h.run w ⟨F,s.upd,s.lt,s.old,?_,s.rs,s.apF,s.apart,s.on⟩;intro p hp
 rcases List.mem_cons.1 hp with rfl|hp
 ·have h1:e.rd F w (Value.agg cs.toArray).cells.toList y:=hr.as F w s.fs;have h2:(Value.agg cs.toArray).cells.toList=cs:=by simp[Value.cells]
  rw[h2] at h1;exact h1
 ·exact s.fs p hp
theorem nmP (t:Nat){o:Nat}(h:∀b':Nat,b'=bl->G n env b ps hp K)(hk:RX.lk env t=some (.pointer q):=by exact rfl)(hq:q=some ⟨bl,o,none⟩:=by exact rfl):G n env b ps hp K:=
 have _:=hk;have _:=hq
 h bl rfl
theorem nmS (t:Nat){ao:Option Addr}{len cap:Nat}(h:∀(a':Option Addr) (c':Nat),a'=ao->c'=cap->G n env b ps hp K)(hk:RX.lk env t=some (.slice ao len cap):=by exact rfl):G n env b ps hp K:=
 have _:=hk
 h ao cap rfl rfl
theorem nmA (t:Nat){cs:List Value}(h:∀c':List Value,c'=cs->G n env b ps hp K)(hk:RX.lk env t=some (.agg cs.toArray):=by exact rfl):G n env b ps hp K:=
 have _:=hk
 h cs rfl
theorem nmB (t:Nat){o len cap:Nat}(h:∀b':Nat,b'=bl->G n env b ps hp K)(hk:RX.lk env t=some (.slice q len cap):=by exact rfl)(hq:q=some ⟨bl,o,none⟩:=by exact rfl):G n env b ps hp K:=
 have _:=hk;have _:=hq
 h bl rfl
section leave
variable {fn:Func} {σ:Type} {val:σ->Value} {ps':σ->List Pf} {hp':σ->List Res}
variable {sz:Nat}
theorem run_cell {w:World}{cs:List Value}[h:UAgg P t][hs:USize P t sz](hl:cs.length=sz)(hc:CellsAt w bl 0 cs):(loadVar t ⟨bl,0,none⟩).run P w=.ok (.agg cs.toArray) w:=by
 subst hl;have:=run_loadCells_list (P:=P) w ⟨bl,0,none⟩ cs (fun j v hj=>by rw[Addr.add_lit];exact hc j v hj);simp[loadVar,h.a,hs.s,this]
theorem rt2B {α:Type}{e:Ty α}{y:α}{a u:Tmp}{x:Value}[UAgg P t][USize P t sz](s:List Value->σ)(hv:∀cs,val (s cs)=.tuple #[.agg cs.toArray,x])
  (hr:fn.results=#[.cell a t,.tmp u]:=by exact rfl) (hk:RX.lk env a=some (.pointer (some ⟨bl,0,none⟩)):=by exact rfl) (hk2:RX.lk env u=some x:=by exact rfl) (hl:Look bl 0 ps hp e 0 y:=by exact inferInstance) (hsz:e.size=sz:=by exact rfl)
  (h1:∀cs,AllIn (ps' (s cs)) (Ag e cs y::ps):=by intro cs;exact GX.aB)
  (h2:∀cs,SelR (hp' (s cs)) hp rest:=by intro cs;exact GX.sA):G n env b ps hp (Post P fn b val ps' hp' .ret):=by
 constructor;rintro w ⟨F,st⟩;obtain⟨o,cs,ho,hc,hrd,_⟩:=hl.look st.fs st.rs;have ho:o=0:=by omega
 subst ho;have hrun:=run_cell (P:=P) (t:=t) (sz:=sz) (by rw[e.len hrd,hsz]) hc;refine⟨fun a' ha=>bodyPost_ret (v:=.tuple #[.agg cs.toArray,x]) ?_ ha.defers ⟨s cs,by rw[hv],F,St.sel (ps:=Ag e cs y::ps) ⟨st.upd,st.lt,st.old,?_,st.rs,st.apF,st.apart,st.on⟩ (h1 cs) (h2 cs)⟩⟩
 ·have g1:=ha.get _ _ hk;have g2:=ha.get _ _ hk2;simp[results,hr,g1,g2,asAddr,hrun]
 ·intro p hp
  rcases List.mem_cons.1 hp with rfl|hp
  ·exact hrd
  ·exact st.fs p hp
theorem rt1B {α:Type}{e:Ty α}{y:α}{a:Tmp}[UAgg P t][USize P t sz](s:List Value->σ)(hv:∀cs,val (s cs)=.agg cs.toArray)
  (hr:fn.results=#[.cell a t]:=by exact rfl) (hk:RX.lk env a=some (.pointer (some ⟨bl,0,none⟩)):=by exact rfl) (hl:Look bl 0 ps hp e 0 y:=by exact inferInstance) (hsz:e.size=sz:=by exact rfl)
  (h1:∀cs,AllIn (ps' (s cs)) (Ag e cs y::ps):=by intro cs;exact GX.aB)
  (h2:∀cs,SelR (hp' (s cs)) hp rest:=by intro cs;exact GX.sA):G n env b ps hp (Post P fn b val ps' hp' .ret):=by
 constructor;rintro w ⟨F,st⟩;obtain⟨o,cs,ho,hc,hrd,_⟩:=hl.look st.fs st.rs;have ho:o=0:=by omega
 subst ho;have hrun:=run_cell (P:=P) (t:=t) (sz:=sz) (by rw[e.len hrd,hsz]) hc;refine⟨fun a' ha=>bodyPost_ret (v:=.agg cs.toArray) ?_ ha.defers ⟨s cs,by rw[hv],F,St.sel (ps:=Ag e cs y::ps) ⟨st.upd,st.lt,st.old,?_,st.rs,st.apF,st.apart,st.on⟩ (h1 cs) (h2 cs)⟩⟩
 ·have g1:=ha.get _ _ hk;simp[results,hr,g1,asAddr,hrun]
 ·intro p hp
  rcases List.mem_cons.1 hp with rfl|hp
  ·exact hrd
  ·exact st.fs p hp
end leave
theorem SelR.all (l:List Res):SelR l l []:=by
 induction l with
 |nil=>exact .nil
 |cons r l ih=>exact .cons .head ih
theorem AllIn.refl (l:List Pf):AllIn l l:=by
 have key:∀m l:List Pf,(∀p,InP p m->InP p l)->AllIn m l:=by
  intro m
  induction m with
  |nil=>intro l _;exact .nil
  |cons p m ih=>intro l h;exact .cons (h p .head) (ih l fun q hq=>h q (.tail hq))
 exact key l l (fun _ h=>h)
end
end Go.GX
namespace Go.RX
open Go Go.RowKit Go.RR
section
variable {P:Program} {ops:Array Oper} {S:World->Prop} {hold:Nat->Bool}
end
end Go.RX
namespace Go.GX
open Go Go.RowKit Go.RR Go.RX
section
variable {P:Program} {n:Nat} {env:Env} {b:Base} {ps:List Pf} {hp hpS:List Res} {Q:Exit->Act->World->Prop} {K:Act->World->Prop}
end
end Go.GX
namespace Go.RX
open Go Go.RowKit Go.RR
inductive Tr where
 |lin:List (Nat×Bool)->Tr
 |br:List (Nat×Bool)->Tr->Tr
 |nil:Tr
 |alt:Nat->Tr->Tr->Tr
def Tr.size:Tr->Nat
 | .lin l=>l.length
 | .br l t=>l.length+t.size
 | .nil=>0
 | .alt _ t _=>t.size+1
def Tr.isPlan:Tr->Bool
 | .lin _=>true
 | .br _ _=>true
 |_=>false
def Tr.idx:Tr->List Nat
 | .alt i _ r=>i::r.idx
 |_=>[]
def GoK (P:Program)(ops:Array Oper)(Q:Exit->Act->World->Prop)(S:World->Prop)(hold:Nat->Bool)(i:Nat)(K:Act->World->Prop):Act->World->Prop:=
 fun a w=>wpOp P ops Q i (fun a' w'=>(hold i=true->S w->S w')/\K a' w') a w
def AtEnd (Q:Exit->Act->World->Prop)(K:Act->World->Prop):Exit->Act->World->Prop
 | .normal,a,w=>K a w
 |e,a,w=>Q e a w
def Both (K K':Act->World->Prop):Act->World->Prop:=fun a w=>K a w/\K' a w
def wpT (P:Program)(ops:Array Oper)(Q:Exit->Act->World->Prop)(S:World->Prop)(hold:Nat->Bool):Tr->Act->World->Prop
 | .lin l=>wpPlan P ops Q S hold l
 | .br l t=>wpPlan P ops (AtEnd Q (wpT P ops Q S hold t)) S hold l
 | .nil=>fun _ _=>True
 | .alt i t r=>Both (GoK P ops Q S hold i (wpT P ops Q S hold t)) (wpT P ops Q S hold r)
def takesOk (ops:Array Oper)(hold:Nat->Bool)(fin:Array Bool->Bool):List (Nat×Bool)->Array Bool->Bool
 |[],listed=>fin listed
 |(i,true)::r,listed=>(Region.ready .any ops listed).contains i&&freeX ops hold listed i&&takesOk ops hold fin r (listed.setIfInBounds i true)
 |(_,false)::_,_=>false
def Tr.ok (ops:Array Oper)(hold:Nat->Bool):Tr->Nat->Array Bool->Bool
 | .lin l,n,listed=>Nat.beq n l.length&&planOk ops hold l listed
 | .br l t,n,listed=>takesOk ops hold (fun m=>(Region.ready .any ops m)==t.idx&&t.ok ops hold (n-l.length) m) l listed&&Nat.ble (l.length+1) n&&!t.idx.isEmpty
 | .nil,_,_=>true
 | .alt i t r,n,m=>t.isPlan&&t.ok ops hold (n-1) (m.setIfInBounds i true)&&r.ok ops hold n m
section
variable {P:Program} {ops:Array Oper} {S:World->Prop} {hold:Nat->Bool} {Q:Exit->Act->World->Prop}
theorem wpAnyX_takes (hs:Region.noSelect ops=true)(hQ:∀c a d v w,Q (.panic c) (Act.put a d v) w->Q (.panic c) a w){fin:Array Bool->Bool}{m:Nat}{K:Act->World->Prop}(hK:∀listed a w,fin listed=true->K a w->wpAnyX P ops Q S hold m listed a w):
  ∀(l:List (Nat×Bool)) (listed:Array Bool) (a:Act) (w:World),takesOk ops hold fin l listed=true->wpPlan P ops (AtEnd Q K) S hold l a w->wpAnyX P ops Q S hold (l.length+m) listed a w
 |[],listed,a,w,hp,h=>by rw[List.length_nil,Nat.zero_add];exact hK listed a w hp h
 |(i,true)::r,listed,a,w,hp,⟨oi,v,hi,hy,hS,h⟩=>by
  simp only[takesOk,Bool.and_eq_true] at hp;have:=wpAnyX_first (P:=P) (Q:=Q) hi (Region.noSelect_spec hs) (fun c a w=>hQ c a oi.dst v w) _ (Tame oi S) (r.length+m) listed a w (waits_spec (List.range ops.size) [] (fun j oj _ h=>by simp at h)) (freeX_spec hi hp.1.2) (by simpa using hp.1.1) hy hS (wpAnyX_takes hs hQ hK r _ _ w hp.2 h);rw[List.length_cons,Nat.add_right_comm];exact this
 |(_,false)::_,_,_,_,hp,_=>by simp[takesOk] at hp
theorem plan_idx {t:Tr}(h:t.isPlan=true):t.idx=[]/\t≠.nil:=by
 cases t<;>simp_all[Tr.isPlan,Tr.idx]
theorem wpAnyX_of_tree (hs:Region.noSelect ops=true)(hQ:∀c a d v w,Q (.panic c) (Act.put a d v) w->Q (.panic c) a w)(t:Tr):∀(n:Nat) (listed:Array Bool) (a:Act) (w:World),
  t.ok ops hold n listed=true->wpT P ops Q S hold t a w->(t.idx=[]->t≠.nil->wpAnyX P ops Q S hold n listed a w)/\
   ∀k∈t.idx,wpOp P ops Q k (fun a' w'=>(hold k=true->S w->S w')/\wpAnyX P ops Q S hold (n-1) (listed.setIfInBounds k true) a' w') a w:=by
 induction t with
 |lin l=>
  intro n listed a w hp h;unfold Tr.ok at hp;rw[Bool.and_eq_true,beq_iff] at hp;rw[hp.1];exact⟨fun _ _=>wpAnyX_of_plan hs hQ l listed a w hp.2 h,fun k hk=>by simp[Tr.idx] at hk⟩
 |br l t ih=>
  intro n listed a w hp h;unfold Tr.ok at hp;rw[Bool.and_eq_true,Bool.and_eq_true,Nat.ble_eq] at hp;refine⟨fun _ _=>?_,fun k hk=>by simp[Tr.idx] at hk⟩;obtain⟨m,rfl⟩:∃m,n=l.length+(m+1):=⟨n-l.length-1,by omega⟩;refine wpAnyX_takes hs hQ (fin:=fun q=>(Region.ready .any ops q)==t.idx&&t.ok ops hold (l.length+(m+1)-l.length) q) (fun q a w hf hk=>?_) l listed a w hp.1.1 h;rw[Bool.and_eq_true] at hf;have hr:Region.ready .any ops q=t.idx:=by simpa using hf.1
  have h2:=(ih _ _ _ _ hf.2 hk).2;rw[Nat.add_sub_cancel_left,Nat.add_sub_cancel] at h2;refine⟨fun h0=>?_,fun k hk'=>?_⟩
  ·rw[hr] at h0;rw[h0] at hp;simp at hp
  ·rw[hr] at hk';exact h2 k hk'
 |nil=>
  intro n listed a w _ _;exact⟨fun _ h=>absurd rfl h,fun k hk=>by simp[Tr.idx] at hk⟩
 |alt i t r ih1 ih2=>
  intro n listed a w hp h;unfold Tr.ok at hp;rw[Bool.and_eq_true,Bool.and_eq_true] at hp;obtain⟨ha,hb⟩:GoK P ops Q S hold i (wpT P ops Q S hold t) a w/\wpT P ops Q S hold r a w:=h;refine⟨fun h0=>by simp[Tr.idx] at h0,fun k hk=>?_⟩
  rcases List.mem_cons.1 hk with rfl|hk
  ·refine wpOp_mono (fun a' w' h5=>⟨h5.1,?_⟩) ha;exact (ih1 _ _ _ _ hp.1.2 h5.2).1 (plan_idx hp.1.1).1 (plan_idx hp.1.1).2
  ·exact (ih2 _ _ _ _ hp.2 hb).2 k hk
end
variable {P:Program} {Q:Exit->Act->World->Prop}
theorem drawnT {n:Nat}{env:Env}{w:World}{id:Nat}{l:List Oper}(S:World->Prop)(hold:Nat->Bool)(t:Tr)[hm:Mixed P](hs:Region.noSelect l.toArray=true)
  (hp:(t.isPlan&&t.ok l.toArray hold l.length (Array.replicate l.length false))=true)
  (h:E n env w.drew (wpT P l.toArray (NoPanic Q) S hold t)):E n env w ((Code.region id l.toArray true).wp P Q):=by
 constructor;intro a ha;refine wp_region_noPanic (wp_region_any hm.m (wpAny_of_X (S:=S) (hold:=hold) _ _ _ _ ?_));rw[Bool.and_eq_true] at hp;have hlen:l.toArray.size=l.length:=by simp
 rw[hlen];exact (wpAnyX_of_tree hs (fun c a d v w h=>h) t _ _ a _ hp.2 (h.run a ha)).1 (plan_idx hp.1).1 (plan_idx hp.1).2
theorem goK {n:Nat}{env:Env}{w:World}{S:World->Prop}{hold:Nat->Bool}{ops:Array Oper}{i:Nat}{o:Oper}{K:Act->World->Prop}(hi:nth ops.toList i=some o)(hw:Wanted n env ops o true)
  (h:OW P n env w o (Went S hold i K) Q):E n env w (GoK P ops Q S hold i K):=by
 constructor;intro a ha;have hi:=(nth_array ops i).symm.trans hi;have h1:wpOp P ops Q i (Went S hold i K) a w:=by
  unfold wpOp;simp only[hi,hw a ha,if_true];exact .inl (h.run a ha)
 exact wpOp_mono (fun a' w' h2=>⟨fun hh _=>h2.1 hh,h2.2⟩) h1
end Go.RX
namespace Go.GX
open Go Go.RowKit Go.RR Go.RX
section
variable {P:Program} {n:Nat} {env:Env} {b:Base} {ps:List Pf} {hp hpS:List Res} {Q:Exit->Act->World->Prop} {K:Act->World->Prop}
theorem drawnT {id:Nat}{l:List Oper}(hold:Nat->Bool)(t:Tr)[hm:Mixed P](hs:Region.noSelect l.toArray=true)(hpl:(t.isPlan&&t.ok l.toArray hold l.length (Array.replicate l.length false))=true)
  (h:∀wd F,AllP F wd ps->AllR F wd []->G n env b (Kept wd F::ps) hp (wpT P l.toArray (NoPanic Q) (SS wd F []) hold t)):G n env b ps hp ((Code.region id l.toArray true).wp P Q):=by
 constructor;rintro w ⟨F,s⟩;have s:=s.drew;refine RX.drawnT (SS w.drew F []) hold t hs hpl ((h w.drew F s.fs no_r).run w.drew ⟨F,s.upd,s.lt,s.old,fun p hp=>?_,s.rs,s.apF,s.apart,s.on⟩)
 rcases List.mem_cons.1 hp with rfl|hp
 ·exact⟨Agree.refl _ _,fun _ _ h=>h⟩
 ·exact s.fs p hp
variable {ops:Array Oper} {S:World->Prop} {hold:Nat->Bool}
variable {l:List (Nat×Bool)} {t:Tr} {i:Nat}
theorem treeL (h_:G n env b ps hp (wpPlan P ops Q S hold l)):G n env b ps hp (wpT P ops Q S hold (.lin l)):=h_
theorem treeB (h_:G n env b ps hp (wpPlan P ops (AtEnd Q (wpT P ops Q S hold t)) S hold l)):G n env b ps hp (wpT P ops Q S hold (.br l t)):=h_
theorem treeO (h_:G n env b ps hp (GoK P ops Q S hold i (wpT P ops Q S hold t))):G n env b ps hp (wpT P ops Q S hold (.alt i t .nil)):=⟨fun w s=>⟨fun a ha=>⟨(h_.run w s).run a ha,trivial⟩⟩⟩
theorem treeA {r:Tr}(h1:G n env b ps hp (GoK P ops Q S hold i (wpT P ops Q S hold t)))(h2:G n env b ps hp (wpT P ops Q S hold r)):G n env b ps hp (wpT P ops Q S hold (.alt i t r)):=⟨fun w s=>⟨fun a ha=>⟨(h1.run w s).run a ha,(h2.run w s).run a ha⟩⟩⟩
theorem endK (h_:G n env b ps hp K):G n env b ps hp (wpPlan P ops (AtEnd Q K) S hold []):=h_
theorem gok {o:Oper}(h:GO P n env b ps hp o (Went S hold i K) Q)(hi:nth ops.toList i=some o:=by exact rfl)(hw:Wanted n env ops o true:=by first|exact Go.RX.plain rfl|exact Go.RX.guarded rfl rfl rfl (by with_reducible rfl)):
  G n env b ps hp (GoK P ops Q S hold i K):=⟨fun w s=>RX.goK hi hw (h.run w s)⟩
theorem s_gok (h_:G n env b ps hp (GoK P ops Q S hold i K)):G n env b ps hp (GoK P ops Q S hold i K):=h_
end
end Go.GX
namespace Go.GX
open Go Go.RowKit Go.RR Go.RX
variable {d:Nat} {ty:TypeId} {pos:String} {aft:Array Edge} {gd:Option (Nat×Bool)}
def shlV (k:IntKind)(i c:Int):Int:=k.wrap (i*2 ^ (min c.toNat k.bits))
def shrV (k:IntKind)(i c:Int):Int:=i.fdiv (2 ^ (min c.toNat k.bits))
def bAnd (k:IntKind)(i j:Int):Int:=k.wrap ((BitVec.ofInt k.bits i &&& BitVec.ofInt k.bits j).toNat)
def bOr (k:IntKind)(i j:Int):Int:=k.wrap ((BitVec.ofInt k.bits i ||| BitVec.ofInt k.bits j).toNat)
def bNot (k:IntKind)(i j:Int):Int:=k.wrap ((BitVec.ofInt k.bits i &&& ~~~(BitVec.ofInt k.bits j)).toNat)
def cplV (k:IntKind)(i:Int):Int:=k.wrap ((BitVec.ofInt k.bits (if k.signed then -1 else k.max) ^^^ BitVec.ofInt k.bits i).toNat)
section
variable {P:Program} {n:Nat} {env:Env} {b:Base} {ps:List Pf} {hp:List Res} {Q:Exit->Act->World->Prop} {K:Act->World->Prop}
section sems
variable {S:World->Prop} {t t':TypeId} {x y:Operand}
variable {k k2:IntKind} {i j:Int}
theorem shl_v {c:Int}(hx:ev env x=some (.int k i))(hy:ev env y=some (.int k2 c))(hb:0<=c):Soft P n env S (.binOp .shl t x y t') (.int k (shlV k i c)):=fun a ha o ho w _=>by
 simp[execOp,ho,ha.ev hx,ha.ev hy,eqGuard,binOp,Op.shift,shlV,Int.not_lt.2 hb]
theorem shr_v {c:Int}(hx:ev env x=some (.int k i))(hy:ev env y=some (.int k2 c))(hb:0<=c):Soft P n env S (.binOp .shr t x y t') (.int k (shrV k i c)):=fun a ha o ho w _=>by
 simp[execOp,ho,ha.ev hx,ha.ev hy,eqGuard,binOp,Op.shift,shrV,Int.not_lt.2 hb]
theorem and_v (hx:ev env x=some (.int k i))(hy:ev env y=some (.int k j)):Soft P n env S (.binOp .and t x y t') (.int k (bAnd k i j)):=fun a ha o ho w _=>by
 simp[execOp,ho,ha.ev hx,ha.ev hy,eqGuard_at_int,binOp,Op.intBits,bAnd]
theorem or_v (hx:ev env x=some (.int k i))(hy:ev env y=some (.int k j)):Soft P n env S (.binOp .or t x y t') (.int k (bOr k i j)):=fun a ha o ho w _=>by
 simp[execOp,ho,ha.ev hx,ha.ev hy,eqGuard_at_int,binOp,Op.intBits,bOr]
theorem andNot_v (hx:ev env x=some (.int k i))(hy:ev env y=some (.int k j)):Soft P n env S (.binOp .andNot t x y t') (.int k (bNot k i j)):=fun a ha o ho w _=>by
 simp[execOp,ho,ha.ev hx,ha.ev hy,eqGuard_at_int,binOp,Op.intBits,bNot]
theorem cpl_v (hx:ev env x=some (.int k i)):Soft P n env S (.unOp .xor t x) (.int k (cplV k i)):=fun a ha o ho w _=>by
 simp[execOp,ho,ha.ev hx,Op.unary,Op.intBits,cplV]
theorem cv_v {k0 k1:IntKind}[h0:UInt P t k0][h1:UInt P t' k](hx:ev env x=some (.int k1 i)):Soft P n env S (.convert t t' x) (.int k (k.wrap i)):=fun a ha o ho w _=>by
 simp[execOp,ho,ha.ev hx,convert,run_underlying h0.u,run_underlying h1.u,Conv.intToInt]
end sems
variable {t t':TypeId} {x y:Operand} {k k2:IntKind} {i j:Int}
theorem b_shl {c:Int}(h:G n ((d,.int k (shlV k i c))::env) b ps hp K)(hx:ev env x=some (.int k i):=by exact rfl)(hy:ev env y=some (.int k2 c):=by exact rfl)(hb:0<=c:=by omega)(hd:Nat.blt d n=true:=by exact rfl):GO P n env b ps hp ⟨some d,.binOp .shl t x y t',ty,pos,aft,gd⟩ K Q:=rd1 (shl_v hx hy hb) hd h
theorem b_shr {c:Int}(h:G n ((d,.int k (shrV k i c))::env) b ps hp K)(hx:ev env x=some (.int k i):=by exact rfl)(hy:ev env y=some (.int k2 c):=by exact rfl)(hb:0<=c:=by omega)(hd:Nat.blt d n=true:=by exact rfl):GO P n env b ps hp ⟨some d,.binOp .shr t x y t',ty,pos,aft,gd⟩ K Q:=rd1 (shr_v hx hy hb) hd h
theorem b_andv (h:G n ((d,.int k (bAnd k i j))::env) b ps hp K)(hx:ev env x=some (.int k i):=by exact rfl)(hy:ev env y=some (.int k j):=by exact rfl)(hd:Nat.blt d n=true:=by exact rfl):GO P n env b ps hp ⟨some d,.binOp .and t x y t',ty,pos,aft,gd⟩ K Q:=rd1 (and_v hx hy) hd h
theorem b_orv (h:G n ((d,.int k (bOr k i j))::env) b ps hp K)(hx:ev env x=some (.int k i):=by exact rfl)(hy:ev env y=some (.int k j):=by exact rfl)(hd:Nat.blt d n=true:=by exact rfl):GO P n env b ps hp ⟨some d,.binOp .or t x y t',ty,pos,aft,gd⟩ K Q:=rd1 (or_v hx hy) hd h
theorem b_andNotv (h:G n ((d,.int k (bNot k i j))::env) b ps hp K)(hx:ev env x=some (.int k i):=by exact rfl)(hy:ev env y=some (.int k j):=by exact rfl)(hd:Nat.blt d n=true:=by exact rfl):GO P n env b ps hp ⟨some d,.binOp .andNot t x y t',ty,pos,aft,gd⟩ K Q:=rd1 (andNot_v hx hy) hd h
theorem u_cpl (h:G n ((d,.int k (cplV k i))::env) b ps hp K)(hx:ev env x=some (.int k i):=by exact rfl)(hd:Nat.blt d n=true:=by exact rfl):GO P n env b ps hp ⟨some d,.unOp .xor t x,ty,pos,aft,gd⟩ K Q:=rd1 (cpl_v hx) hd h
theorem cv {k0 k1:IntKind}[UInt P t k0][UInt P t' k](h:G n ((d,.int k (k.wrap i))::env) b ps hp K)(hx:ev env x=some (.int k1 i):=by exact rfl)(hd:Nat.blt d n=true:=by exact rfl):GO P n env b ps hp ⟨some d,.convert t t' x,ty,pos,aft,gd⟩ K Q:=rd1 (cv_v (k0:=k0) hx) hd h
end
section
variable {P:Program} {n:Nat} {env:Env} {b:Base} {ps:List Pf} {hp:List Res} {Q:Exit->Act->World->Prop} {K:Act->World->Prop}
section sems
variable {S:World->Prop} {t t' e:TypeId} {x y:Operand}
theorem quo_nat {i j:Nat}(hx:ev env x=some (.int .i64 (i:Int)))(hy:ev env y=some (.int .i64 (j:Int)))(hb:j≠0)(hi:i<=9223372036854775807):Soft P n env S (.binOp .quo t x y t') (.int .i64 ((i/j:Nat):Int)):=fun a ha o ho w _=>by
 have hj:¬ (j:Int)=0:=by omega
 have hm:Int.tdiv (i:Int) (j:Int)=((i/j:Nat):Int):=rfl;simp[execOp,ho,ha.ev hx,ha.ev hy,eqGuard_at_int,binOp,Op.intDiv,hb,hm];have h6:i/j<=i:=Nat.div_le_self _ _;have h5:(i:Int)/(j:Int)=((i/j:Nat):Int):=rfl;rw[h5];generalize i/j=q at h6 ⊢;exact RX.wrap_in (by omega)
theorem eqItems_nums {w:World}(d:Nat){k:IntKind}(he:P.underlying e=some (.int k))(u v:List Int):∀is:List Nat,(∀i∈is,i<u.length/\i<v.length)->
  (Op.eqItems (d+1) e 1 (u.map (Value.int k)).toArray (v.map (Value.int k)).toArray is).run P w=.ok (decide (∀i∈is,u[i]?=v[i]?)) w
 |[],_=>by simp[Op.eqItems]
 |i::is,h=>by
  obtain⟨h1,h2⟩:=h i (by simp);have hp:P.plainKey e=true:=by unfold Program.plainKey;rw[he]
  have e1:(u.map (Value.int k)).toArray[i]?=some (.int k u[i]):=by simp[List.getElem?_eq_getElem h1]
  have e2:(v.map (Value.int k)).toArray[i]?=some (.int k v[i]):=by simp[List.getElem?_eq_getElem h2]
  have ih:=eqItems_nums (w:=w) d he u v is (fun j hj=>h j (by simp[hj]));simp only[Op.eqItems,Nat.mul_one,Sem.run_bind,run_part_plain w hp e1,run_part_plain w hp e2,Result.andThen_ok,run_equalIn_int w d e k k u[i] v[i] he];by_cases hq:u[i]=v[i]
  ·rw[show (u[i]==v[i])=true by simpa using hq];simp[ih,List.getElem?_eq_getElem h1,List.getElem?_eq_getElem h2,hq]
  ·rw[show (u[i]==v[i])=false by simpa using hq];simp[List.getElem?_eq_getElem h1,List.getElem?_eq_getElem h2,hq]
end sems
theorem b_quoL {t t':TypeId}{x y:Operand}{i j:Nat}{d:Nat}{ty:TypeId}{pos:String}{aft:Array Edge}{gd:Option (Nat×Bool)}(h:G n ((d,.int .i64 ((i/j:Nat):Int))::env) b ps hp K)(hx:ev env x=some (.int .i64 (i:Int)):=by exact rfl)(hy:ev env y=some (.int .i64 (OfNat.ofNat j:Int)):=by exact rfl)(hb:j≠0:=by first|omega|decide)(hi:i<=9223372036854775807:=by omega)(hd:Nat.blt d n=true:=by exact rfl):GO P n env b ps hp ⟨some d,.binOp .quo t x y t',ty,pos,aft,gd⟩ K Q:=rd1 (quo_nat hx hy hb hi) hd h
end
section
variable {P:Program} {n:Nat} {env:Env} {b:Base} {ps:List Pf} {hp:List Res} {Q:Exit->Act->World->Prop} {K:Act->World->Prop}
variable {ty:TypeId} {pos:String} {aft:Array Edge} {gd:Option (Nat×Bool)} {α:Type} {e:Ty α}
theorem els_take {F:Nat->Prop}{w:World}:∀{xs:List α} {cs:List Value} (j:Nat),Els e F w cs xs->Els e F w (cs.take (j*e.size)) (xs.take j)
 |[],cs,j,h=>by
  have h:cs=[]:=h;subst h;simp;rfl
 |x::xs,cs,0,h=>by simp;rfl
 |x::xs,cs,j+1,⟨c1,c2,h1,h2,h3⟩=>by
  have hl:=e.len h2;refine⟨c1,c2.take (j*e.size),?_,h2,els_take j h3⟩;rw[h1,Nat.add_mul,Nat.one_mul,Nat.add_comm,<-hl,List.take_length_add_append]
theorem ownTake (ao:Option Addr)(j:Nat){t:TypeId}{cap:Nat}{xs:List α}{rest:List Res}[hf:FOwn ao hp t e cap xs rest](h:G n env b ps (Own t e ao cap (xs.take j)::rest) K):G n env b ps hp K:=by
 refine alter (hp1:=[Own t e ao cap xs]) (hp2:=[Own t e ao cap (xs.take j)]) hf.p ?_ ?_ h
 ·intro F w h1 _;refine⟨fun r hr=>?_,by simp⟩;obtain rfl:r=_:=by simpa using hr
  obtain⟨cs,g1,g2⟩:(Own t e ao cap xs).says F w:=h1 _ (by simp);have hlen:=els_take j g2
  rcases g1.2 with ⟨h3,h4⟩|⟨g,cap',cur,h3,hb,hg,h5,h6,h7,h8⟩
  ·simp at h3;obtain⟨rfl,hx,rfl⟩:=h3;subst hx;have:cs=[]:=g2;subst this;simp;exact own_none
  ·simp at h3;obtain⟨rfl,rfl⟩:=h3;refine⟨cs.take (j*e.size),⟨hlen.len,.inr ⟨g,cap,cur,rfl,hb,hg,?_,h6,h7,?_⟩⟩,hlen⟩
   ·rw[List.length_take];omega
   ·have h8:cur.toList.take (xs.length*e.size)=cs:=h8;show cur.toList.take ((xs.take j).length*e.size)=cs.take (j*e.size);rw[<- h8,List.take_take,List.length_take,Nat.mul_min_mul_right]
 ·rintro k ⟨r,hr,hk⟩;obtain rfl:r=_:=by simpa using hr
  refine⟨Own t e ao cap xs,by simp,?_⟩;have hk:Value.ownBlock (.slice ao (xs.take j).length cap)=some k:=hk;show Value.ownBlock (.slice ao xs.length cap)=some k;cases ao<;>exact hk
section cutting
variable {t et:TypeId} {x y:Operand} {k:IntKind} {d:Nat}
variable {cap:Nat}
theorem oh {ao:Option Addr}{m j sz:Nat}[ht:USlice P t et][hs:USize P et sz](h:G n ((d,.slice ao j cap)::env) b ps hp K)(hx:ev env x=some (.slice ao m cap):=by exact rfl)(hy:ev env y=some (.int k (j:Int)):=by exact rfl)(hj:j<=cap:=by omega)(hao:∀a,ao=some a->a.spot=none:=by intro a ha;cases ha;rfl)(hd:Nat.blt d n=true:=by exact rfl):
  GO P n env b ps hp ⟨some d,.slice t x none (some y) none,ty,pos,aft,gd⟩ K Q:=by
 refine rd1 (fun a ha o ho w _=>?_) hd h;have hb1:=sliceBound_run (P:=P) (k:=k) (i:=(j:Int)) (y:=cap) (c:=.sliceAcap) (w:=w) ⟨by omega,by omega⟩
 have e0:(if cap=0 then ao else ao.map (·.add (0*sz)))=ao:=by
  split
  ·rfl
  ·cases ao with
   |none=>rfl
   |some a=>
    have:=hao a rfl;obtain⟨b,o,sp⟩:=a;dsimp only at this;subst this;simp[Addr.add_lit]
 simp[execOp,ho,ha.ev hx,ha.ev hy,Instr.sliceAt,Instr.slice,run_underlying ht.u,Instr.sliceBounds,hb1,hs.s];simpa using e0
theorem ol {g o m j sz:Nat}[ht:USlice P t et][hs:USize P et sz](h:∀o2,(j<cap->o2=o+j*sz)->G n ((d,.slice (some ⟨g,o2,none⟩) (m-j) (cap-j))::env) b ps hp K)(hx:ev env x=some (.slice (some ⟨g,o,none⟩) m cap):=by exact rfl)(hy:ev env y=some (.int k (j:Int)):=by exact rfl)(hj:j<=m:=by omega)(hm:m<=cap:=by omega)(hd:Nat.blt d n=true:=by exact rfl):
  GO P n env b ps hp ⟨some d,.slice t x (some y) none none,ty,pos,aft,gd⟩ K Q:=by
 refine rd1 (v:=.slice (some ⟨g,if cap=j then o else o+j*sz,none⟩) (m-j) (cap-j)) (fun a ha o' ho w _=>?_) hd (h _ (fun hlt=>by rw[if_neg (by omega)]));have hb1:=sliceBound_run (P:=P) (k:=k) (i:=(j:Int)) (y:=m) (c:=.sliceB) (w:=w) ⟨by omega,by omega⟩;by_cases hc:cap=j
 ·simp[execOp,ho,ha.ev hx,ha.ev hy,Instr.sliceAt,Instr.slice,run_underlying ht.u,Instr.sliceBounds,hb1,hs.s,hc]
 ·simp[execOp,ho,ha.ev hx,ha.ev hy,Instr.sliceAt,Instr.slice,run_underlying ht.u,Instr.sliceBounds,hb1,hs.s,hc,Addr.add_lit]
theorem effC {w w':World}{c:Call}{v:Value}(hs:∀a,Has n env a->(execOp a.eval ⟨none,.call c,ty,pos,aft,gd⟩).run P w=.ok (.value v) w')(h:E n env w' K):OW P n env w ⟨none,.call c,ty,pos,aft,gd⟩ K Q:=by
 constructor;intro a ha;show Oper.upon P _ a K Q ((execOp a.eval _).run P w);rw[hs a ha];exact h.run _ ha
theorem clr {z:α}{zv:Value}{g o m c k0:Nat}{xs:List α}{rest:List Res}[ht:USlice P t et][hz:UTy P et e z zv][hf:FOwn (some ⟨g,0,none⟩) hp et e cap xs rest](h:∀ys,ys.length=xs.length->ys.take k0=xs.take k0->G n env b ps (Own et e (some ⟨g,0,none⟩) cap ys::rest) K)
  (hx:ev env x=some (.slice (some ⟨g,o,none⟩) m c)) (hes:e.size=1) (hzs:zv.cells=#[zv]) (h1:zv.oneCell'=true) (ho:m=0\/(k0<=o/\o+m<=xs.length)):GO P n env b ps hp ⟨none,.call {callee:=.builtin .clear,args:=#[x],argTypes:=#[t] },ty,pos,aft,gd⟩ K Q:=by
 refine Acts.use (hp1:=[Own et e (some ⟨g,0,none⟩) cap xs]) (ι:={ys:List α // ys.length=xs.length/\ys.take k0=xs.take k0 }) (val:=fun _=>undef) (pf:=fun _=>[]) (hr:=fun ys=>[Own et e (some ⟨g,0,none⟩) cap ys.1]) ?_ hf.p (fun ys=>h ys.1 ys.2.1 ys.2.2);intro F w K Q b s hk
 rcases Nat.eq_zero_or_pos m with hm|hm
 ·subst hm;refine effC (v:=.tuple #[]) (w':=w) (fun a ha=>?_) (hk ⟨xs,rfl,rfl⟩ w (mkOk1 s (Upd.refl _ _) (s.rs (Own et e (some ⟨g,0,none⟩) cap xs) (by simp)) (fun k hk _=>hk)));simp[execOp,ha.ev hx,resolve,invoke,builtin,Builtin.clear_,run_underlying ht.u]
 ·obtain⟨ho1,ho2⟩:k0<=o/\o+m<=xs.length:=by omega
  obtain⟨cs,tl,g1,g2,g3,g4,g5⟩:=own_open (s.rs (Own et e (some ⟨g,0,none⟩) cap xs) (by simp));have hcl:=g2.len;rw[hes,Nat.mul_one] at hcl;obtain⟨w',k1,k2,k3⟩:=run_storeAll (P:=P) (bl:=g) (o:=o) (te:=et) (List.replicate m zv) (cs++tl) w 0 g1 (by simp;omega) (fun u hu=>by rw[List.eq_of_mem_replicate hu];exact h1);have hzc:(Builtin.zeroCells zv.cells m).toList=List.replicate m zv:=by
   rw[hzs];simp[Builtin.zeroCells];apply List.ext_getElem
   ·simp
   ·intro i h1 h2;simp[Nat.mod_one]
  have hrd:e.rd F w [zv] z:=by have:=hz.rd F w;rw[hzs] at this;exact this
  refine effC (v:=.tuple #[]) (w':=w') (fun a ha=>?_) (hk ⟨xs.take o++(List.replicate m z++xs.drop (o+m)),by simp;omega,by rw[List.take_append_of_le_length (by simp;omega),List.take_take,Nat.min_eq_left ho1]⟩ w' (mkOk1 s (k3.mono fun k _ hk=>by subst hk;rfl) (own_close (cs:=cs.take o++(List.replicate m zv++cs.drop (o+m))) (tl:=tl) ?_ ?_ ?_ (by simp;omega) g5) (fun k hk _=>hk)))
  ·obtain⟨m',rfl⟩:∃m',m=m'+1:=⟨m-1,by omega⟩;simp[execOp,ha.ev hx,resolve,invoke,builtin,Builtin.clear_,run_underlying ht.u,hz.zero,hzc,k1]
  ·have e1:over (cs++tl) (o+0) (List.replicate m zv)=cs.take o++(List.replicate m zv++cs.drop (o+m))++tl:=by
    unfold over;rw[Nat.add_zero,List.length_replicate,List.take_append_of_le_length (by omega),List.drop_append_of_le_length (by omega)];simp
   rw[e1] at k2;exact k2
  ·have hu':Upd (feet [Own et e (some ⟨g,0,none⟩) cap xs]) w w':=k3.mono fun k _ hk=>⟨Own et e (some ⟨g,0,none⟩) cap xs,by simp,by subst hk;rfl⟩;have a1:=els_take o g2;rw[hes,Nat.mul_one] at a1;have a3:Els e F w (cs.drop (o+m)) (xs.drop (o+m)):=by
    have key:∀(j:Nat) (xs:List α) (cs:List Value),Els e F w cs xs->Els e F w (cs.drop j) (xs.drop j):=by
     intro j
     induction j with
     |zero=>intro xs cs h;simpa using h
     |succ j ih=>
      intro xs cs h
      cases xs with
      | nil => have h:cs=[]:=h
               subst h;simp;rfl
      |cons x xs=>
       obtain⟨c1,c2,q1,q2,q3⟩:=h;have hl:=e.len q2;rw[q1,List.drop_succ_cons,show j+1=c1.length+j by omega,<-List.drop_drop,List.drop_left];exact ih xs c2 q3
    exact key _ _ _ g2
   have a2:Els e F w (List.replicate m zv) (List.replicate m z):=by
    have:=els_rep hrd m;simpa using this
   exact (a1.append (a2.append a3)).move (fun _ _ h=>h) (agF s hu')
  ·rw[<- g3];simp;omega
end cutting
variable {f:FuncId} {xs:List Operand} {ts:Array TypeId} {ps1:List Pf}
theorem clvR {d:Nat}{x:Operand}{vs fs cs:List Value}{r:Res}{hpC:List Res}[hf:UFunc P f]{σ:Type}{val:σ->Value}
  (hc:Does P f (fs++(vs++cs)) ps1 hpC val (fun _=>[]) (fun _=>hpC)) (h:∀s,G n ((d,val s)::env) b ps (r::hpC) K)
  (hx:ev env x=some (.func (.func f) fs.toArray cs.toArray):=by exact rfl) (hxs:evs env xs=some vs:=by exact rfl)
  (hps:Suf ps1 ps:=by repeat (first|(with_reducible apply Go.GX.Suf.refl)|apply Go.GX.Suf.tail)) (hd:Nat.blt d n=true:=by exact rfl):
  GO P n env b ps (r::hpC) ⟨some d,.call {callee:=.value x,args:=xs.toArray,argTypes:=ts },ty,pos,aft,gd⟩ K Q:=
 callvG (rest:=[r]) hc hx hxs hps.sub (List.perm_append_comm (l₁:=[r])) hd (fun s=>perm (List.perm_append_comm (l₂:=[r])) (by rw[List.nil_append];exact h s))
theorem clR {d:Nat}{vs:List Value}[hf:UFunc P f]{σ:Type}{val:σ->Value}{hp':σ->List Res}
  (hc:Does P f vs ps1 hp val (fun _=>[]) hp') (h:∀s,G n ((d,val s)::env) b ps (hp' s) K) (hxs:evs env xs=some vs:=by exact rfl)
  (hps:Suf ps1 ps:=by repeat (first|(with_reducible apply Go.GX.Suf.refl)|apply Go.GX.Suf.tail)) (hd:Nat.blt d n=true:=by exact rfl):
  GO P n env b ps hp ⟨some d,.call {callee:=.value (.func f),args:=xs.toArray,argTypes:=ts },ty,pos,aft,gd⟩ K Q:=
 call hc hxs hps.sub (rest:=[]) (by rw[List.append_nil]) hd (fun s=>by rw[List.nil_append,List.append_nil];exact h s)
end
def Ty.ptr:Ty (Option Addr):=⟨1,fun _ _ cs x=>cs=[.pointer x],fun h=>by rw[h];rfl,fun h c hc=>by rw[h] at hc;simp at hc;subst hc;rfl,fun h _ _=>h⟩
theorem ptr_rd {F:Nat->Prop}{w:World}{a:Option Addr}:Ty.ptr.rd F w [.pointer a] a:=rfl
instance:Sub Ty.ptr 0 Ty.ptr (fun y=>y) (fun z _=>z):=Sub.whole _
instance {ps:List Pf}(a:Option Addr):Rds ps (.pointer a) Ty.ptr a:=⟨.of fun _ _ _=>rfl⟩
def Star (l:List Res):Res where
 on k:=feet l k
 says F w:=AllR F w l/\l.Pairwise Apart
 inn:=by rintro F w k ⟨h,_⟩ ⟨r,hr,hk⟩;exact Res.inn _ (h r hr) hk
 move:=by
  rintro F F' w w' ⟨h,h2⟩ hF ha hb;exact⟨fun r hr=>Res.move _ (h r hr) hF ha (hb.mono fun k _ hk=>⟨r,hr,hk⟩),h2⟩
section
variable {P:Program} {n:Nat} {env:Env} {b:Base} {ps:List Pf} {hp:List Res} {Q:Exit->Act->World->Prop} {K:Act->World->Prop}
variable {l rest:List Res}
theorem apart_star {r:Res}:Apart r (Star l)<->∀s∈l,Apart r s:=by
 constructor
 ·intro h s hs k hk hk2;exact h k hk ⟨s,hs,hk2⟩
 ·rintro h k hk ⟨s,hs,hk2⟩;exact h s hs k hk hk2
theorem starN (h:G n env b ps (Star []::hp) K):G n env b ps hp K:=by
 refine alter (hp1:=[]) (hp2:=[Star []]) (rest:=hp) (List.Perm.refl _) ?_ ?_ h
 ·intro F w _ _;refine⟨fun r hr=>?_,by simp⟩;obtain rfl:r=_:=by simpa using hr
  exact⟨fun r hr=>by simp at hr,List.Pairwise.nil⟩
 ·rintro k ⟨r,hr,hk⟩;obtain rfl:r=_:=by simpa using hr
  obtain⟨r,hr,_⟩:=hk;simp at hr
theorem starI {m:List Res}(h:G n env b ps (Star (l++m)::rest) K)
  (hl:SelR (l++[Star m]) hp rest:=by exact GX.sA):G n env b ps hp K:=by
 refine alter (hp1:=l++[Star m]) (hp2:=[Star (l++m)]) hl.perm ?_ ?_ h
 ·intro F w h1 hap;obtain⟨h2,h3⟩:=h1 (Star m) (by simp);obtain⟨p1,_,p3⟩:=List.pairwise_append.1 hap;refine⟨fun r hr=>?_,by simp⟩;obtain rfl:r=_:=by simpa using hr
  refine⟨fun r hr=>?_,List.pairwise_append.2 ⟨p1,h3,fun r hr s hs=>apart_star.1 (p3 r hr _ (by simp)) s hs⟩⟩
  rcases List.mem_append.1 hr with hr|hr
  ·exact h1 r (by simp[hr])
  ·exact h2 r hr
 ·rintro k ⟨r,hr,hk⟩;obtain rfl:r=_:=by simpa using hr
  obtain⟨r,hr,hk⟩:=hk
  rcases List.mem_append.1 hr with hr|hr
  ·exact⟨r,by simp[hr],hk⟩
  ·exact⟨Star m,by simp,r,hr,hk⟩
theorem starO {m:List Res}(h:G n env b ps (l++(Star m::rest)) K)
  (hl:TakeR (Star (l++m)) hp rest:=by first|((repeat (first|(with_reducible apply Go.GX.TakeR.head)|apply Go.GX.TakeR.tail));done)|(repeat (first|apply Go.GX.TakeR.head|apply Go.GX.TakeR.tail))):G n env b ps hp K:=by
 refine alter (hp1:=[Star (l++m)]) (hp2:=l++[Star m]) (rest:=rest) hl.perm ?_ ?_ (by simpa using h)
 ·intro F w h1 _;obtain⟨h2,h3⟩:=h1 (Star (l++m)) (by simp);obtain⟨p1,p2,p3⟩:=List.pairwise_append.1 h3;refine⟨fun r hr=>?_,List.pairwise_append.2 ⟨p1,by simp,fun r hr s hs=>?_⟩⟩
  ·rcases List.mem_append.1 hr with hr|hr
   ·exact h2 r (by simp[hr])
   ·obtain rfl:r=_:=by simpa using hr
    exact⟨fun s hs=>h2 s (by simp[hs]),p2⟩
  ·obtain rfl:s=_:=by simpa using hs
   exact apart_star.2 fun q hq=>p3 r hr q hq
 ·rintro k ⟨r,hr,hk⟩;refine⟨Star (l++m),by simp,?_⟩
  rcases List.mem_append.1 hr with hr|hr
  ·exact⟨r,by simp[hr],hk⟩
  ·obtain rfl:r=_:=by simpa using hr
   obtain⟨s,hs,hk⟩:=hk;exact⟨s,by simp[hs],hk⟩
theorem lo_ptr {α:Type}{e:Ty α}{g cap i:Nat}{xs:List α}{x0:α}{te t:TypeId}{x:Operand}{get:α->Option Addr}{put:Option Addr->α->α}{off:Nat}[UOne P t][FOwn (some ⟨g,0,none⟩) hp te e cap xs rest][hs:Sub e off Ty.ptr get put](hx:ev env x=some (.pointer (some ⟨g,i*e.size+off,none⟩)))(hi:xs[i]?=some x0):RdV P n env ps hp (.load t x) (.pointer (get x0)):=fun F w _ h2=>by
 obtain⟨cs,h3,h4,h5⟩:=own_cells (te:=te) (e:=e) (g:=g) (cap:=cap) (rest:=rest) h2 hi;have h6:(cs.drop off).take 1=[.pointer (get x0)]:=hs.get h4;have h7:cs[off]?=some (.pointer (get x0)):=by
  have:=congrArg (·[0]?) h6;simpa[List.getElem?_take,List.getElem?_drop] using this
 exact RX.load hx (fun w' ha=>ha.cell (.inr h5) (h3 off _ h7))
variable {d:Nat} {ty:TypeId} {pos:String} {aft:Array Edge} {gd:Option (Nat×Bool)}
variable {psW:List Pf} {hpS:List Res} {e:TypeId} {i:Int} {te t:TypeId} {x:Operand} {F:Nat->Prop} {y:Operand} {k:IntKind} {zv:Value} {t':TypeId} {j:Int} {bl:Nat} {f:Int->Option Value}
theorem ro1p {α:Type}{e:Ty α}{g cap i:Nat}{xs:List α}{x0:α}{get:α->Option Addr}{put:Option Addr->α->α}[UOne P t]{wd:World}(h:G n ((d,.pointer (get x0))::env) b ps hp K)(hx:ev env x=some (.pointer (some ⟨g,i,none⟩)):=by exact rfl)(i0:FOwn (some ⟨g,0,none⟩) hpS te e cap xs rest:=by exact inferInstance)(i1:Sub e 0 Ty.ptr get put:=by exact inferInstance)(hi:xs[i]?=some x0:=by with_reducible assumption)(hes:e.size=1:=by exact rfl)(hd:Nat.blt d n=true:=by exact rfl):GTR P n env psW hpS wd F b ps hp K ⟨some d,.load t x,ty,pos,aft,gd⟩:=.v (lo_ptr (off:=0) (cap:=cap) (te:=te) (rest:=rest) (get:=get) (put:=put) (plc1 hes hx) hi) hd h
theorem cpI {t1 t2 et:TypeId}{g cap m m2 cap2:Nat}{ao2:Option Addr}{xs ys:List Int}{bytes:Nat}[ht:USlice P t1 et][hi:UElem P et zv 1 bytes]
  (h:G n ((d,.int .i64 (ys.length:Int))::env) b ps (Own te (Ty.num k) (some ⟨g,0,none⟩) cap (ys++xs.drop ys.length)::rest) K)
  (hx:ev env x=some (.slice (some ⟨g,0,none⟩) m cap):=by exact rfl) (hy:ev env y=some (.slice ao2 m2 cap2):=by exact rfl) (hf:FOwn (some ⟨g,0,none⟩) hp te (Ty.num k) cap xs rest:=by exact inferInstance) (hsl:FSl ao2 ps (Ty.num k) cap2 ys:=by exact inferInstance)
  (hm:m=xs.length:=by first|rfl|omega|(simp;done)) (hm2:m2=ys.length:=by first|rfl|omega|(simp;done)) (hle:ys.length<=xs.length:=by omega) (hd:Nat.blt d n=true:=by exact rfl):
  GO P n env b ps hp ⟨some d,.call {callee:=.builtin .copy,args:=#[x,y],argTypes:=#[t1,t2] },ty,pos,aft,gd⟩ K Q:=by
 subst hm;subst hm2;refine Acts.use (hp1:=[Own te (Ty.num k) (some ⟨g,0,none⟩) cap xs]) (ι:=Unit) (val:=fun _=>.int .i64 (ys.length:Int)) (pf:=fun _=>[]) (hr:=fun _=>[Own te (Ty.num k) (some ⟨g,0,none⟩) cap (ys++xs.drop ys.length)]) ?_ hf.p (fun _=>h);intro F w K Q b s hk;have hsz:(P.info? et).map (·.size)=some 1:=by
  have:=hi.i
  cases hq:P.info? et with
  |none=>rw[hq] at this;simp at this
  |some i=>rw[hq] at this;simp at this;simp[this]
 obtain⟨g1,g2,g3⟩:(Sl (Ty.num k) ao2 cap2 ys).says F w:=s.fs _ hsl.mem;have hr1:=s.rs (Own te (Ty.num k) (some ⟨g,0,none⟩) cap xs) (by simp);by_cases h0:ys=[]
 ·subst h0;have hrun:=run_copy_none (P:=P) w t1 t2 ty et (some ⟨g,0,none⟩) ao2 xs.length cap 0 cap2 ht.u hsz (by simp);refine RX.eff (v:=.int .i64 0) (w':=w) (fun a ha=>?_) hd (hk () w (mkOk1 s (Upd.refl _ _) (by simpa using hr1) (fun k hk _=>by simpa using hk)));have hy':a.eval y=.slice ao2 0 cap2:=ha.ev hy;simp[execOp,ha.ev hx,hy',resolve,invoke,builtin,hrun,goInt]
 ·obtain⟨bl,o,news,rfl,h5,h6⟩:=slAt_cells g3 h0;obtain⟨cs,tl,q1,q2,q3,q4,q5⟩:=own_open hr1;have hnl:news.length=ys.length:=by rw[h5.len];exact Nat.mul_one _
  have hcl:cs.length=xs.length:=by rw[q2.len];exact Nat.mul_one _
  have hrun:=run_copy_row (P:=P) w t1 t2 ty et g 0 xs.length cap ⟨bl,o,none⟩ ys.length cap2 (cs++tl).toArray te news ht.u hsz q1 (by rw[hnl];exact (Nat.min_eq_left hle).symm) (fun j v hj=>by rw[Addr.add_lit];exact h6 j v hj) (by simp;omega) h5.one;have hnew:((cs++tl).toArray.toList.take 0++news++(cs++tl).toArray.toList.drop (0+news.length))=(news++cs.drop ys.length)++tl:=by
   simp only[List.take_zero,List.nil_append,Nat.zero_add,hnl];rw[List.drop_append_of_le_length (by omega),List.append_assoc]
  rw[hnew] at hrun;have hu:Upd (feet [Own te (Ty.num k) (some ⟨g,0,none⟩) cap xs]) w (w.setRow g (news++cs.drop ys.length++tl).toArray):=⟨rfl,rfl,rfl,by simp[World.setRow],fun k' _ hk=>setRow_other w g k' _ fun e=>hk ⟨Own te (Ty.num k) (some ⟨g,0,none⟩) cap xs,by simp,by subst e;rfl⟩⟩;have hu2:Upd (Own te (Ty.num k) (some ⟨g,0,none⟩) cap xs).on w (w.setRow g (news++cs.drop ys.length++tl).toArray):=⟨rfl,rfl,rfl,by simp[World.setRow],fun k' _ hk=>setRow_other w g k' _ fun e=>hk (by subst e;rfl)⟩;refine RX.eff (v:=.int .i64 (ys.length:Int)) (w':=w.setRow g (news++cs.drop ys.length++tl).toArray) (fun a ha=>?_) hd (hk () _ (mkOk1 s hu2 ?_ (fun k hk _=>hk)))
  ·simp[execOp,ha.ev hx,ha.ev hy,resolve,invoke,builtin,hrun,goInt,hnl]
  ·have key:∀(j:Nat) (xs:List Int) (cs:List Value),Els (Ty.num k) F w cs xs->Els (Ty.num k) F w (cs.drop j) (xs.drop j):=by
    intro j
    induction j with
    |zero=>intro xs cs h;simpa using h
    |succ j ih=>
     intro xs cs h
     cases xs with
     | nil => have h:cs=[]:=h
              subst h;simp;rfl
     |cons x xs=>
      obtain⟨c1,c2,rfl,h2,h3⟩:=h;have h2:c1=[.int k x]:=h2;subst h2;simpa using ih _ _ h3
   have hap:Els (Ty.num k) F w (news++cs.drop ys.length) (ys++xs.drop ys.length):=h5.append (key _ _ _ q2);refine own_close (cs:=news++cs.drop ys.length) (tl:=tl) (setRow_heap w g _ _ te _ q1) (hap.move (fun _ _ h=>h) (agF s hu)) ?_ ?_ q5
   ·rw[<- q3];simp only[List.length_append,List.length_drop];omega
   ·simp only[List.length_append,List.length_drop];omega
theorem quoI {S:World->Prop}(hx:ev env x=some (.int k i))(hy:ev env y=some (.int k j))(hj:j≠0):Soft P n env S (.binOp .quo t x y t') (.int k (k.wrap (Int.tdiv i j))):=fun a ha o ho w _=>by
 simp[execOp,ho,ha.ev hx,ha.ev hy,eqGuard_at_int,binOp,Op.intDiv,hj]
theorem remI {S:World->Prop}(hx:ev env x=some (.int k i))(hy:ev env y=some (.int k j))(hj:j≠0):Soft P n env S (.binOp .rem t x y t') (.int k (Int.tmod i j)):=fun a ha o ho w _=>by
 simp[execOp,ho,ha.ev hx,ha.ev hy,eqGuard_at_int,binOp,Op.intDiv,hj]
theorem negI {S:World->Prop}(hx:ev env x=some (.int k i)):Soft P n env S (.unOp .neg t x) (.int k (k.wrap (0-i))):=fun a ha o ho w _=>by
 simp[execOp,ho,ha.ev hx,Op.unary,Op.intArith]
theorem b_quoI (h:G n ((d,.int k (k.wrap (Int.tdiv i j)))::env) b ps hp K)(hx:ev env x=some (.int k i):=by exact rfl)(hy:ev env y=some (.int k j):=by exact rfl)(hj:j≠0:=by first|(with_reducible assumption)|omega)(hd:Nat.blt d n=true:=by exact rfl):GO P n env b ps hp ⟨some d,.binOp .quo t x y t',ty,pos,aft,gd⟩ K Q:=rd1 (quoI hx hy hj) hd h
theorem b_remI (h:G n ((d,.int k (Int.tmod i j))::env) b ps hp K)(hx:ev env x=some (.int k i):=by exact rfl)(hy:ev env y=some (.int k j):=by exact rfl)(hj:j≠0:=by first|(with_reducible assumption)|omega)(hd:Nat.blt d n=true:=by exact rfl):GO P n env b ps hp ⟨some d,.binOp .rem t x y t',ty,pos,aft,gd⟩ K Q:=rd1 (remI hx hy hj) hd h
theorem ngI (h:G n ((d,.int k (k.wrap (0-i)))::env) b ps hp K)(hx:ev env x=some (.int k i):=by exact rfl)(hd:Nat.blt d n=true:=by exact rfl):GO P n env b ps hp ⟨some d,.unOp .neg t x,ty,pos,aft,gd⟩ K Q:=rd1 (negI hx) hd h
theorem lk_get {k:TypeId}{v:Value}[UMap P t k e][UInt P k .i64][UZero P e zv][FMap bl hp f rest](hx:ev env x=some (.map (some bl)))(hy:ev env y=some (.int .i64 i))(hv:(f i).getD zv=v):RdV P n env ps hp (.lookup t x y false) v:=fun _ _ _ h2=>by
 subst hv;exact RX.lookup (f:=f) (e:=e) (k:=k) (z:=zv) hx hy (fun _ ha=>map_at (rest:=rest) h2 ha)
theorem lkg {k:TypeId}{v:Value}[UMap P t k e][UInt P k .i64][UZero P e zv](h:G n ((d,v)::env) b ps hp K)(hx:ev env x=some (.map (some bl)):=by exact rfl)(hy:ev env y=some (.int .i64 i):=by exact rfl)(i0:FMap bl hp f rest:=by exact inferInstance)(hv:(f i).getD zv=v:=by with_reducible assumption)(hd:Nat.blt d n=true:=by exact rfl):GO P n env b ps hp ⟨some d,.lookup t x y false,ty,pos,aft,gd⟩ K Q:=rdv (lk_get (f:=f) (e:=e) (k:=k) (zv:=zv) (rest:=rest) hx hy hv) hd h
theorem rlkg {k:TypeId}{v:Value}[UMap P t k e][UInt P k .i64][UZero P e zv]{wd:World}(h:G n ((d,v)::env) b ps hp K)(hx:ev env x=some (.map (some bl)):=by exact rfl)(hy:ev env y=some (.int .i64 i):=by exact rfl)(i0:FMap bl hpS f rest:=by exact inferInstance)(hv:(f i).getD zv=v:=by with_reducible assumption)(hd:Nat.blt d n=true:=by exact rfl):GTR P n env psW hpS wd F b ps hp K ⟨some d,.lookup t x y false,ty,pos,aft,gd⟩:=.v (lk_get (f:=f) (e:=e) (k:=k) (zv:=zv) (rest:=rest) hx hy hv) hd h
end
structure Hold (p:Prop):Prop where
 out:p
inductive Mk:Nat->Prop where
 |mk {k:Nat}:Mk k
set_option maxRecDepth 10000 in
theorem w_ {A B:Prop}(h:B)(m:Nat:=0)(h1:Mk m->Hold B->A:=by intro hM_ hB_;(repeat (first|(apply GX.s_list;first|apply GX.nil|(refine GX.o ?_;first|(apply GX.k_load;first|refine GX.lr ?_|refine GX.lrA ?_|refine GX.ln ?_|refine GX.lb ?_|refine GX.lh ?_|(refine GX.ls ?_;intro v9_ v9_ v9_ v9_)|(refine GX.lA ?_;intro v9_)|(refine GX.l0 ?_;intro v9_)|refine GX.o1n ?_|refine GX.o1b ?_|refine GX.o1h ?_|(refine GX.o1s ?_;intro v9_ v9_ v9_ v9_)|refine GX.omn ?_|refine GX.omb ?_|refine GX.omh ?_|(refine GX.oms ?_;intro v9_ v9_ v9_ v9_)|refine GX.ofn ?_|refine GX.ofb ?_|refine GX.ofh ?_|(refine GX.ofs ?_;intro v9_ v9_ v9_ v9_)|(refine GX.oA ?_;intro v9_))|(apply GX.k_move;refine GX.m ?_)|(apply GX.k_indexAddr;first|refine GX.io1 ?_|refine GX.ioh ?_|refine GX.i1 ?_|(refine GX.ix ?_;intro v9_ v9_))|(apply GX.k_binOp_lss;refine GX.b_lss ?_)|(apply GX.k_binOp_add;first|refine GX.b_inc ?_|refine GX.b_add ?_|refine GX.b_addw ?_)|(apply GX.k_assign;refine GX.a ?_)|(apply GX.k_fieldAddr;first|refine GX.f0 ?_|refine GX.fh ?_|refine GX.fa ?_)|(apply GX.k_call;first|refine GX.c_len ?_|refine GX.c_max ?_|refine GX.c_min ?_|refine GX.cpI ?_|(refine GX.ap ?_;intro v9_ v9_))|(apply GX.k_pick;first|refine GX.pt ?_|refine GX.pf ?_|refine GX.pk ?_)|(apply GX.k_store;first|refine GX.stW ?_|refine GX.stB ?_|refine GX.stR ?_|refine GX.stRW ?_|refine GX.so1 ?_|refine GX.som ?_|refine GX.sof ?_|refine GX.sog ?_)|(apply GX.k_extract;refine GX.ex ?_)|(apply GX.k_box;first|((fail_if_success guard_hyp hM_:GX.Mk 1);(fail_if_success guard_hyp hM_:GX.Mk 5);refine GX.bxF ?_;intro v9_)|(refine GX.bxR ?_;intro v9_))|(apply GX.k_slice;first|(refine GX.cl_ ?_;intro v9_))|(apply GX.k_unOp;first|refine GX.nt ?_|refine GX.nf ?_|refine GX.nd ?_|refine GX.n_ ?_|refine GX.u_cpl ?_|refine GX.ngI ?_)|(apply GX.k_lookup;first|refine GX.lkg ?_)|(apply GX.k_nilCheck;refine GX.nc ?_)|(apply GX.k_build;refine GX.bd ?_)|(apply GX.k_buildSlice;first|((first|guard_hyp hM_:GX.Mk 4|guard_hyp hM_:GX.Mk 6);refine GX.slo ?_;intro v9_)|(refine GX.sl ?_;intro v9_))|(apply GX.k_alloc;first|((first|guard_hyp hM_:GX.Mk 1|guard_hyp hM_:GX.Mk 5);refine GX.alR ?_;intro v9_)|(refine GX.al ?_;intro v9_))|(apply GX.k_makeSlice;(refine GX.mks ?_;intro v9_))|(apply GX.k_makeFunc;refine GX.mkf ?_)|(apply GX.k_makeMap;(refine GX.mm ?_;intro v9_))|(apply GX.k_mapUpdate;refine GX.mu ?_)|(apply GX.k_convert;first|refine GX.cv ?_)|(apply GX.k_binOp_and;first|refine GX.b_andv ?_)|(apply GX.k_binOp_eql;first|refine GX.b_eql ?_|refine GX.b_pn ?_|refine GX.b_nn ?_|refine GX.b_snn ?_|refine GX.b_sns ?_|refine GX.b_eqls ?_|refine GX.b_eqltf ?_|refine GX.b_eqlft ?_|refine GX.b_eqlb ?_)|(apply GX.k_binOp_geq;refine GX.b_geq ?_)|(apply GX.k_binOp_gtr;refine GX.b_gtr ?_)|(apply GX.k_binOp_leq;refine GX.b_leq ?_)|(apply GX.k_binOp_mul;first|refine GX.b_mul ?_|refine GX.b_mulw ?_)|(apply GX.k_binOp_neq;first|refine GX.b_neq ?_|refine GX.b_pm ?_|refine GX.b_neqb ?_)|(apply GX.k_binOp_rem;first|refine GX.b_remI ?_)|(apply GX.k_binOp_sub;first|refine GX.b_dec ?_|refine GX.b_sub ?_|refine GX.b_subw ?_)|(refine GX.b_andNotv ?_)|(refine GX.b_orv ?_)|(refine GX.b_quoL ?_)|(refine GX.b_quoI ?_)|(refine GX.b_shl ?_)|(refine GX.b_shr ?_))|refine GX.gt ?_|refine GX.gf ?_|refine GX.gbt ?_|refine GX.gbf ?_|refine GX.un ?_|refine GX.un0 ?_)|apply GX.then_normal|apply GX.seq|((fail_if_success guard_hyp hM_:GX.Mk 3);(fail_if_success guard_hyp hM_:GX.Mk 5);apply GX.region)|(apply GX.s_cond;first|refine GX.ct ?_|refine GX.cf ?_|refine GX.cdf ?_|refine GX.cdt ?_|refine GX.cbt ?_|refine GX.cbf ?_)|apply GX.skip|((fail_if_success guard_hyp hM_:GX.Mk 2);(fail_if_success guard_hyp hM_:GX.Mk 6);apply GX.block)|apply GX.inBlock_normal|apply GX.exit|apply GX.then_exit|apply GX.inBlock_exit|refine GX.ibo ?_|apply GX.ret|apply GX.then_ret|apply GX.inBlock_ret));(repeat revert v9_);exact hB_.out):A:=h1 .mk ⟨h⟩
set_option maxRecDepth 10000 in
theorem u_ {A B:Prop}(h:B)(m:Nat:=0)(h1:Mk m->Hold B->A:=by intro hM_ hB_;(repeat (first|(apply GX.s_take;first|(refine GX.tkp ?_;first|(apply GX.t_move;refine GX.tm ?_)|(apply GX.t_indexAddr;first|refine GX.ti1 ?_|refine GX.tih ?_)|(apply GX.t_binOp_lss;refine GX.tb_lss ?_)|(apply GX.t_binOp_add;first|refine GX.tb_add ?_)|(apply GX.t_fieldAddr;first|refine GX.tf0 ?_|refine GX.tfh ?_|refine GX.tfa ?_)|(apply GX.t_pick;first|refine GX.tpt ?_|refine GX.tpf ?_)|(apply GX.t_unOp;first|refine GX.tnd ?_)|(apply GX.t_nilCheck;refine GX.tnc ?_)|(apply GX.t_build;refine GX.tbd ?_)|(apply GX.t_binOp_eql;first|refine GX.tb_eql ?_|refine GX.tb_eqlb ?_)|(apply GX.t_binOp_geq;refine GX.tb_geq ?_)|(apply GX.t_binOp_neq;first|refine GX.tb_neq ?_)|(apply GX.t_binOp_sub;first|refine GX.tb_dec ?_|refine GX.tb_sub ?_))|((first|refine GX.tkr ?_|refine GX.tkrE ?_);first|(apply GX.r_load;first|refine GX.rlr ?_|refine GX.rlrA ?_|refine GX.rln ?_|refine GX.rlb ?_|(refine GX.rls ?_;intro v9_ v9_ v9_ v9_ v9_)|(refine GX.rlA ?_;intro v9_ v9_)|(refine GX.rl0 ?_;intro v9_ v9_)|refine GX.ro1n ?_|refine GX.rofn ?_|(refine GX.roA ?_;intro v9_ v9_)|refine GX.ro1p ?_)|(apply GX.r_assign;refine GX.ra ?_)|(apply GX.r_call;first|refine GX.rc_len ?_|refine GX.rc_max ?_|refine GX.rc_min ?_)|(apply GX.r_extract;refine GX.rex ?_)|(apply GX.r_slice;first|(refine GX.rch ?_;intro v9_ v9_))|(apply GX.r_lookup;first|refine GX.rlkg ?_)|(apply GX.r_makeFunc;refine GX.rmkf ?_))|(refine GX.tkx ?_;first|(refine GX.xix ?_;intro v9_ v9_ v9_))|refine GX.pgt ?_|refine GX.pgf ?_|refine GX.pgbt ?_|refine GX.pgbf ?_|refine GX.tkn ?_)|(apply GX.s_go;first|(refine GX.gow ?_;first|(apply GX.k_load;first|refine GX.lr ?_|refine GX.lrA ?_|refine GX.ln ?_|refine GX.lb ?_|refine GX.lh ?_|(refine GX.ls ?_;intro v9_ v9_ v9_ v9_)|(refine GX.lA ?_;intro v9_)|(refine GX.l0 ?_;intro v9_)|refine GX.o1n ?_|refine GX.o1b ?_|refine GX.o1h ?_|(refine GX.o1s ?_;intro v9_ v9_ v9_ v9_)|refine GX.omn ?_|refine GX.omb ?_|refine GX.omh ?_|(refine GX.oms ?_;intro v9_ v9_ v9_ v9_)|refine GX.ofn ?_|refine GX.ofb ?_|refine GX.ofh ?_|(refine GX.ofs ?_;intro v9_ v9_ v9_ v9_)|(refine GX.oA ?_;intro v9_))|(apply GX.k_move;refine GX.m ?_)|(apply GX.k_indexAddr;first|refine GX.io1 ?_|refine GX.ioh ?_|refine GX.i1 ?_|(refine GX.ix ?_;intro v9_ v9_))|(apply GX.k_binOp_lss;refine GX.b_lss ?_)|(apply GX.k_binOp_add;first|refine GX.b_inc ?_|refine GX.b_add ?_|refine GX.b_addw ?_)|(apply GX.k_assign;refine GX.a ?_)|(apply GX.k_fieldAddr;first|refine GX.f0 ?_|refine GX.fh ?_|refine GX.fa ?_)|(apply GX.k_call;first|refine GX.c_len ?_|refine GX.c_max ?_|refine GX.c_min ?_|refine GX.cpI ?_|(refine GX.ap ?_;intro v9_ v9_))|(apply GX.k_pick;first|refine GX.pt ?_|refine GX.pf ?_|refine GX.pk ?_)|(apply GX.k_store;first|refine GX.stW ?_|refine GX.stB ?_|refine GX.stR ?_|refine GX.stRW ?_|refine GX.so1 ?_|refine GX.som ?_|refine GX.sof ?_|refine GX.sog ?_)|(apply GX.k_extract;refine GX.ex ?_)|(apply GX.k_box;first|((fail_if_success guard_hyp hM_:GX.Mk 1);(fail_if_success guard_hyp hM_:GX.Mk 5);refine GX.bxF ?_;intro v9_)|(refine GX.bxR ?_;intro v9_))|(apply GX.k_slice;first|(refine GX.cl_ ?_;intro v9_))|(apply GX.k_unOp;first|refine GX.nt ?_|refine GX.nf ?_|refine GX.nd ?_|refine GX.n_ ?_|refine GX.u_cpl ?_|refine GX.ngI ?_)|(apply GX.k_lookup;first|refine GX.lkg ?_)|(apply GX.k_nilCheck;refine GX.nc ?_)|(apply GX.k_build;refine GX.bd ?_)|(apply GX.k_buildSlice;first|((first|guard_hyp hM_:GX.Mk 4|guard_hyp hM_:GX.Mk 6);refine GX.slo ?_;intro v9_)|(refine GX.sl ?_;intro v9_))|(apply GX.k_alloc;first|((first|guard_hyp hM_:GX.Mk 1|guard_hyp hM_:GX.Mk 5);refine GX.alR ?_;intro v9_)|(refine GX.al ?_;intro v9_))|(apply GX.k_makeSlice;(refine GX.mks ?_;intro v9_))|(apply GX.k_makeFunc;refine GX.mkf ?_)|(apply GX.k_makeMap;(refine GX.mm ?_;intro v9_))|(apply GX.k_mapUpdate;refine GX.mu ?_)|(apply GX.k_convert;first|refine GX.cv ?_)|(apply GX.k_binOp_and;first|refine GX.b_andv ?_)|(apply GX.k_binOp_eql;first|refine GX.b_eql ?_|refine GX.b_pn ?_|refine GX.b_nn ?_|refine GX.b_snn ?_|refine GX.b_sns ?_|refine GX.b_eqls ?_|refine GX.b_eqltf ?_|refine GX.b_eqlft ?_|refine GX.b_eqlb ?_)|(apply GX.k_binOp_geq;refine GX.b_geq ?_)|(apply GX.k_binOp_gtr;refine GX.b_gtr ?_)|(apply GX.k_binOp_leq;refine GX.b_leq ?_)|(apply GX.k_binOp_mul;first|refine GX.b_mul ?_|refine GX.b_mulw ?_)|(apply GX.k_binOp_neq;first|refine GX.b_neq ?_|refine GX.b_pm ?_|refine GX.b_neqb ?_)|(apply GX.k_binOp_rem;first|refine GX.b_remI ?_)|(apply GX.k_binOp_sub;first|refine GX.b_dec ?_|refine GX.b_sub ?_|refine GX.b_subw ?_)|(refine GX.b_andNotv ?_)|(refine GX.b_orv ?_)|(refine GX.b_quoL ?_)|(refine GX.b_quoI ?_)|(refine GX.b_shl ?_)|(refine GX.b_shr ?_))|refine GX.pgt ?_|refine GX.pgf ?_|refine GX.pgbt ?_|refine GX.pgbf ?_|refine GX.gon ?_)|(apply GX.s_went;first|refine GX.wentF ?_|refine GX.went ?_|refine GX.wentE ?_)|apply GX.done|apply GX.treeL|apply GX.treeB|apply GX.treeO|apply GX.endK|(apply GX.s_gok;refine GX.gok ?_;first|(apply GX.k_load;first|refine GX.lr ?_|refine GX.lrA ?_|refine GX.ln ?_|refine GX.lb ?_|refine GX.lh ?_|(refine GX.ls ?_;intro v9_ v9_ v9_ v9_)|(refine GX.lA ?_;intro v9_)|(refine GX.l0 ?_;intro v9_)|refine GX.o1n ?_|refine GX.o1b ?_|refine GX.o1h ?_|(refine GX.o1s ?_;intro v9_ v9_ v9_ v9_)|refine GX.omn ?_|refine GX.omb ?_|refine GX.omh ?_|(refine GX.oms ?_;intro v9_ v9_ v9_ v9_)|refine GX.ofn ?_|refine GX.ofb ?_|refine GX.ofh ?_|(refine GX.ofs ?_;intro v9_ v9_ v9_ v9_)|(refine GX.oA ?_;intro v9_))|(apply GX.k_move;refine GX.m ?_)|(apply GX.k_indexAddr;first|refine GX.io1 ?_|refine GX.ioh ?_|refine GX.i1 ?_|(refine GX.ix ?_;intro v9_ v9_))|(apply GX.k_binOp_lss;refine GX.b_lss ?_)|(apply GX.k_binOp_add;first|refine GX.b_inc ?_|refine GX.b_add ?_|refine GX.b_addw ?_)|(apply GX.k_assign;refine GX.a ?_)|(apply GX.k_fieldAddr;first|refine GX.f0 ?_|refine GX.fh ?_|refine GX.fa ?_)|(apply GX.k_call;first|refine GX.c_len ?_|refine GX.c_max ?_|refine GX.c_min ?_|refine GX.cpI ?_|(refine GX.ap ?_;intro v9_ v9_))|(apply GX.k_pick;first|refine GX.pt ?_|refine GX.pf ?_|refine GX.pk ?_)|(apply GX.k_store;first|refine GX.stW ?_|refine GX.stB ?_|refine GX.stR ?_|refine GX.stRW ?_|refine GX.so1 ?_|refine GX.som ?_|refine GX.sof ?_|refine GX.sog ?_)|(apply GX.k_extract;refine GX.ex ?_)|(apply GX.k_box;first|((fail_if_success guard_hyp hM_:GX.Mk 1);(fail_if_success guard_hyp hM_:GX.Mk 5);refine GX.bxF ?_;intro v9_)|(refine GX.bxR ?_;intro v9_))|(apply GX.k_slice;first|(refine GX.cl_ ?_;intro v9_))|(apply GX.k_unOp;first|refine GX.nt ?_|refine GX.nf ?_|refine GX.nd ?_|refine GX.n_ ?_|refine GX.u_cpl ?_|refine GX.ngI ?_)|(apply GX.k_lookup;first|refine GX.lkg ?_)|(apply GX.k_nilCheck;refine GX.nc ?_)|(apply GX.k_build;refine GX.bd ?_)|(apply GX.k_buildSlice;first|((first|guard_hyp hM_:GX.Mk 4|guard_hyp hM_:GX.Mk 6);refine GX.slo ?_;intro v9_)|(refine GX.sl ?_;intro v9_))|(apply GX.k_alloc;first|((first|guard_hyp hM_:GX.Mk 1|guard_hyp hM_:GX.Mk 5);refine GX.alR ?_;intro v9_)|(refine GX.al ?_;intro v9_))|(apply GX.k_makeSlice;(refine GX.mks ?_;intro v9_))|(apply GX.k_makeFunc;refine GX.mkf ?_)|(apply GX.k_makeMap;(refine GX.mm ?_;intro v9_))|(apply GX.k_mapUpdate;refine GX.mu ?_)|(apply GX.k_convert;first|refine GX.cv ?_)|(apply GX.k_binOp_and;first|refine GX.b_andv ?_)|(apply GX.k_binOp_eql;first|refine GX.b_eql ?_|refine GX.b_pn ?_|refine GX.b_nn ?_|refine GX.b_snn ?_|refine GX.b_sns ?_|refine GX.b_eqls ?_|refine GX.b_eqltf ?_|refine GX.b_eqlft ?_|refine GX.b_eqlb ?_)|(apply GX.k_binOp_geq;refine GX.b_geq ?_)|(apply GX.k_binOp_gtr;refine GX.b_gtr ?_)|(apply GX.k_binOp_leq;refine GX.b_leq ?_)|(apply GX.k_binOp_mul;first|refine GX.b_mul ?_|refine GX.b_mulw ?_)|(apply GX.k_binOp_neq;first|refine GX.b_neq ?_|refine GX.b_pm ?_|refine GX.b_neqb ?_)|(apply GX.k_binOp_rem;first|refine GX.b_remI ?_)|(apply GX.k_binOp_sub;first|refine GX.b_dec ?_|refine GX.b_sub ?_|refine GX.b_subw ?_)|(refine GX.b_andNotv ?_)|(refine GX.b_orv ?_)|(refine GX.b_quoL ?_)|(refine GX.b_quoI ?_)|(refine GX.b_shl ?_)|(refine GX.b_shr ?_))));(repeat revert v9_);exact hB_.out):A:=h1 .mk ⟨h⟩
end Go.GX
