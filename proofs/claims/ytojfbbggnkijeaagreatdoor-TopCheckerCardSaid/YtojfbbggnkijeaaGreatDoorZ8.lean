import Derived.Test.YtojfbbggnkijeaaGreatDoorZ7
set_option linter.all false
noncomputable section
namespace Go.EV
open Go Go.RowKit Go.RR
variable {ρ:Rn} {v:Value} {P:Program} {tys:Tab TI}
def fillL (places:Nat->Option (Nat×Nat))(cells:List Value):List (Nat×Value)->Option (List Value)
 |[]=>some cells
 |(i,v)::r=>match places i with
  |none=>none
  |some (o,z)=>bif Nat.beq (lL v.cells.toList) z&&lB (o+z) cells then fillL places (lA (lT o cells) (lA v.cells.toList (lD (o+z) cells))) r else none
theorem splice (off:Nat):∀(l:List Value) (k:Nat) (A:Array Value),off+k+l.length<=A.size->
  (l.zipIdx k).foldl (fun A p=>A.setIfInBounds (off+p.2) p.1) A=(A.toList.take (off+k)++(l++A.toList.drop (off+k+l.length))).toArray
 |[],k,A,h=>by simp
 |v::l,k,A,h=>by
  rw[List.zipIdx_cons,List.foldl_cons];simp only[List.length_cons] at h;rw[splice off l (k+1) _ (by rw[Array.size_setIfInBounds];omega)];congr 1;rw[Array.toList_setIfInBounds];have h1:(A.toList.set (off+k) v).take (off+(k+1))=A.toList.take (off+k)++[v]:=by
   rw[show off+(k+1)=off+k+1 by omega,List.take_add_one,List.getElem?_set_self (by simp;omega),List.take_set_of_le (by omega)];rfl
  have h2:(A.toList.set (off+k) v).drop (off+(k+1)+l.length)=A.toList.drop (off+k+(v::l).length):=by
   rw[List.drop_set_of_lt (by omega)];congr 1;simp only[List.length_cons];omega
  rw[h1,h2];simp
theorem fill_eq {places:Nat->Option (Nat×Nat)}:∀{parts:List (Nat×Value)} {cells:Array Value} {l:List Value},fillL places cells.toList parts=some l->Instr.fill places cells parts=some l.toArray
 |[],cells,l,h=>by cases h;rfl
 |(i,v)::r,cells,l,h=>by
  unfold fillL at h;simp only[lD_eq,lT_eq,lL_eq,lB_eq,lA_eq] at h;unfold Instr.fill
  cases hp:places i with
  |none=>rw[hp] at h;cases h
  |some q=>
   obtain⟨o,z⟩:=q;rw[hp] at h;dsimp only at h⊢
   cases hc:(Nat.beq v.cells.toList.length z&&Nat.ble (o+z) cells.toList.length) with
   |false=>rw[hc] at h;cases h
   |true=>
    rw[hc] at h;rw[Bool.and_eq_true,nbeq,decide_eq_true_eq,Nat.ble_eq] at hc;obtain⟨c1,c2⟩:=hc;have hsz:v.cells.size=z:=by simpa using c1
    have hle:o+z<=cells.size:=by simpa using c2
    rw[if_neg (by simp;omega)];have e:=splice o v.cells.toList 0 cells (by simp;omega);have e2:(v.cells.zipIdx.foldl (fun cs (x:Value×Nat)=>cs.setIfInBounds (o+x.2) x.1) cells)=(cells.toList.take o++(v.cells.toList++cells.toList.drop (o+z))).toArray:=by
     rw[<- Array.foldl_toList,Array.toList_zipIdx,e];simp[hsz]
    rw[e2];exact fill_eq (by simpa using h)
theorem cells_ren (h:base2 v=true):(ren ρ v).cells.toList=v.cells.toList.map (ren1 ρ):=by
 cases v with
 |agg c=>simp[Value.cells]
 |pointer a=>cases a<;>rfl
 |slice a l c=>cases a<;>rfl
 |map r=>cases r<;>rfl
 |_=>first|rfl|cases h
theorem fillL_ren {ρ:Rn}{places:Nat->Option (Nat×Nat)}:∀{parts:List (Nat×Value)} {cells l:List Value},(∀p∈parts,base2 p.2=true)->fillL places cells parts=some l->fillL places (cells.map (ren1 ρ)) (parts.map fun p=>(p.1,ren ρ p.2))=some (l.map (ren1 ρ))
 |[],cells,l,_,h=>by cases h;rfl
 |(i,v)::r,cells,l,hb,h=>by
  unfold fillL at h;simp only[lD_eq,lT_eq,lL_eq,lB_eq,lA_eq] at h;rw[List.map_cons];unfold fillL;simp only[lD_eq,lT_eq,lL_eq,lB_eq,lA_eq]
  cases hp:places i with
  |none=>rw[hp] at h;cases h
  |some q=>
   obtain⟨o,z⟩:=q;rw[hp] at h;dsimp only at h ⊢;rw[cells_ren (hb (i,v) (by simp)),List.length_map,List.length_map]
   cases hc:(Nat.beq v.cells.toList.length z&&Nat.ble (o+z) cells.length) with
   |false=>rw[hc] at h;cases h
   |true=>
    rw[hc] at h;have:=fillL_ren (ρ:=ρ) (fun p hp=>hb p (List.mem_cons_of_mem _ hp)) h;rw[cond_true,<-this];simp[List.map_take,List.map_drop]
def evpL (tm:T Value):List (Nat×Operand)->Option (List (Nat×Value))
 |[]=>some []
 |(i,x)::r=>match opv tm x with
  |some v=>bif base2 v then (match evpL tm r with|some l=>some ((i,v)::l)|none=>none) else none
  |none=>none
theorem evpL_ok {ρ:Rn}{tm:T Value}{rv:Operand->Value}(h:Rv ρ tm rv):∀{l:List (Nat×Operand)} {vs:List (Nat×Value)},evpL tm l=some vs->(l.map fun p=>(p.1,rv p.2))=(vs.map fun p=>(p.1,ren ρ p.2))/\∀p∈vs,base2 p.2=true
 |[],vs,e=>by cases e;exact⟨rfl,by simp⟩
 |(i,x)::r,vs,e=>by
  unfold evpL at e
  cases hx:opv tm x with
  |none=>rw[hx] at e;cases e
  |some v=>
   rw[hx] at e;dsimp only at e
   cases hb:base2 v with
   |false=>rw[hb] at e;cases e
   |true=>
    rw[hb] at e
    cases hr:evpL tm r with
    |none=>rw[hr] at e;cases e
    |some l=>
     rw[hr] at e;cases e;obtain⟨h1,h2⟩:=evpL_ok h hr;refine⟨by rw[List.map_cons,List.map_cons,h1,h x v hx],fun p hp=>?_⟩
     rcases List.mem_cons.1 hp with rfl|hp
     ·exact hb
     ·exact h2 p hp
def bld (tys:Tab TI)(t:TypeId)(parts:List (Nat×Value)):Option Value:=match tys.get t with
 |some i=>match i.d with
  | .st fs=>match fillL (fun k=>match nth fs k with|some (o,z,_)=>some (o,z)|none=>none) i.zero parts with
   |some l=>some (.agg l.toArray)
   |none=>none
  | .arr _ e=>match tys.get e with
   |some ie=>match fillL (fun k=>some (k*ie.size,ie.size)) i.zero parts with
    |some l=>some (.agg l.toArray)
    |none=>none
   |none=>none
  |_=>none
 |none=>none
theorem mapM_places {P:Program}:∀{l:List Field} {fs:List (Nat×Nat×TypeId)},fs.length=l.length->(∀(i:Nat) o z u,fs[i]?=some (o,z,u)->∃f,l[i]?=some f/\f.offset=o/\f.type=u/\(P.info? u).map (·.size)=some z)->l.mapM (fun f=>(P.info? f.type).map fun i=>(f.offset,i.size))=some (fs.map fun q=>(q.1,q.2.1))
 |[],[],_,_=>rfl
 |[],_::_,h,_=>by simp at h
 |_::_,[],h,_=>by simp at h
 |f::l,(o,z,u)::fs,hl,h=>by
  obtain⟨f',a,b,c,d⟩:=h 0 o z u rfl;simp at a;subst a;subst b;subst c;have ih:=mapM_places (P:=P) (l:=l) (fs:=fs) (by simpa using hl) fun i o z u hi=>by
   obtain⟨f',a,b⟩:=h (i+1) o z u (by simpa using hi);exact⟨f',by simpa using a,b⟩
  rw[List.mapM_cons]
  cases hi:P.info? f.type with
  |none=>rw[hi] at d;cases d
  |some j=>
   rw[hi] at d;simp at d;subst d;simp[ih]
theorem map_ren1_zero {z:List Value}(h:z.all (fun v=>plain1 v&&v.oneCell')=true):z.map (ren1 ρ)=z:=
 map_same fun x hx=>ren1_plain (by have:=List.all_eq_true.1 h x hx;rw[Bool.and_eq_true] at this;exact this.1)
theorem run_bld (hT:TyOk P tys){t:TypeId}{parts:List (Nat×Value)}(hb:∀p∈parts,base2 p.2=true)(h:bld tys t parts=some v)(ρ:Rn)(w:World):(Instr.build t (parts.map fun p=>(p.1,ren ρ p.2)).toArray).run P w=.ok (ren ρ v) w:=by
 unfold bld at h;split at h
 ·rename_i i hg;have hi:=(hT t i hg).1;have hd:=hi.d;obtain⟨j,h1,h2,h3,h4,h5⟩:=hi.info;split at h
  ·rename_i fs hfs;rw[hfs] at hd;obtain⟨l,hu,hlen,hl⟩:=hd;split at h
   ·rename_i r hf;cases h;have hf2:=fillL_ren (ρ:=ρ) hb hf;rw[map_ren1_zero hi.zp,<-h5] at hf2;have hm:=mapM_places (P:=P) (l:=l.toList) (fs:=fs) (by simpa using hlen) fun i o z u hi=>by
     obtain⟨f,a,b⟩:=hl i o z u hi;exact⟨f,by simpa using a,b⟩
    have:=run_build (P:=P) w t (parts.map fun p=>(p.1,ren ρ p.2)).toArray (r.map (ren1 ρ)).toArray (by
     unfold Program.built;rw[h1,hu];simp only[h4,hm]
     have e:(fun x=>((fs.map fun q=>(q.1,q.2.1)).toArray)[x]?)=(fun k=>match nth fs k with|some (o,z,_)=>some (o,z)|none=>none):=by
      funext k;rw[nth_eq];simp;cases fs[k]?<;>rfl
     rw[e];exact fill_eq hf2)
    rw[this];simp
   ·cases h
  ·rename_i n e hfs;rw[hfs] at hd;have hd:P.underlying t=_:=hd;split at h
   ·rename_i ie hge;obtain⟨je,k1,k2,_⟩:=(hT e ie hge).1.info;split at h
    ·rename_i r hf;cases h;have hf2:=fillL_ren (ρ:=ρ) hb hf;rw[map_ren1_zero hi.zp,<-h5] at hf2;have:=run_build (P:=P) w t (parts.map fun p=>(p.1,ren ρ p.2)).toArray (r.map (ren1 ρ)).toArray (by
      unfold Program.built;rw[h1,hd];simp only[h4,k1,k2];exact fill_eq hf2)
     rw[this];simp
    ·cases h
   ·cases h
  ·cases h
 ·cases h
def allB0:List Value->Bool
 |[]=>true
 |v::l=>base0 v&&allB0 l
theorem allB0_ok {ρ:Rn}:∀{l:List Value},allB0 l=true->l.map (ren ρ)=l.map (ren0 ρ)
 |[],_=>rfl
 |v::l,h=>by
  unfold allB0 at h;rw[Bool.and_eq_true] at h;rw[List.map_cons,List.map_cons,ren_base0 h.1,allB0_ok h.2]
def mkF (tm:T Value)(fn:Fn)(first caps:Array Operand):Option Value:=match opvs tm first.toList,opvs tm caps.toList with
 |some a,some c=>bif allB0 a&&allB0 c then some (.func fn a.toArray c.toArray) else none
 |_,_=>none
theorem run_mkF {tm:T Value}{rv:Operand->Value}(h:Rv ρ tm rv){fn:Fn}{first caps:Array Operand}(e:mkF tm fn first caps=some v)(w:World):(Instr.makeFunc fn (first.map rv) (caps.map rv)).run P w=.ok (ren ρ v) w:=by
 unfold mkF at e;split at e
 ·rename_i a c ha hc
  cases hb:(allB0 a&&allB0 c) with
  |false=>rw[hb] at e;cases e
  |true=>
   rw[hb] at e;cases e;rw[Bool.and_eq_true] at hb
   have h1:first.map rv=(a.map (ren0 ρ)).toArray:=by
    apply Array.toList_inj.1;rw[Array.toList_map,h.list ha,allB0_ok hb.1]
   have h2:caps.map rv=(c.map (ren0 ρ)).toArray:=by
    apply Array.toList_inj.1;rw[Array.toList_map,h.list hc,allB0_ok hb.2]
   simp[Instr.makeFunc,h1,h2]
 ·cases e
def blt (tys:Tab TI)(tm:T Value)(c:Call):Option Value:=match c.callee with
 | .builtin b=>match opvs tm c.args.toList with
  |some vs=>match b with
   | .len=>match vs,c.argTypes.toList with
    |[x],[t]=>lenV tys t x
    |_,_=>none
   | .max=>match vs with
    |[x,y]=>mm true x y
    |_=>none
   | .min=>match vs with
    |[x,y]=>mm false x y
    |_=>none
   | .cap=>match vs,c.argTypes.toList with
    |[.slice none 0 0],[t]=>match tys.get t with
     |some ⟨.slice _,_,_,_,_⟩=>some (.int .i64 (.ofNat 0))
     |_=>none
    |_,_=>none
   |_=>none
  |none=>none
 |_=>none
theorem run_blt (hT:TyOk P tys){tm:T Value}{rv:Operand->Value}(hr:Rv ρ tm rv){c:Call}(h:blt tys tm c=some v)(ty:TypeId)(w:World):(do let d<-resolve rv c ty;invoke d.target d.args).run P w=.ok (.value (ren ρ v)) w:=by
 unfold blt at h;split at h
 ·rename_i b hb;split at h
  ·rename_i vs hvs;have ha:c.args.map rv=(vs.map (ren ρ)).toArray:=by
    apply Array.toList_inj.1;rw[Array.toList_map,hr.list hvs]
   split at h
   ·split at h
    ·rename_i x t ht;have ht:c.argTypes=#[t]:=Array.toList_inj.1 ht;have:=run_lenV (P:=P) (u:=ty) hT h ρ w;simp[resolve,hb,invoke,builtin,ha,ht,this]
    ·cases h
   ·split at h
    ·simp[resolve,hb,invoke,builtin,ha,run_max h ρ]
    ·cases h
   ·split at h
    ·simp[resolve,hb,invoke,builtin,ha,run_min h ρ]
    ·cases h
   ·split at h
    ·rename_i t ht;have ht:c.argTypes=#[t]:=Array.toList_inj.1 ht;split at h
     ·rename_i hg;cases h;have hu:P.underlying t=_:=(hT t _ hg).1.d;simp[resolve,hb,invoke,builtin,ha,ht,Builtin.cap_,run_und hu,goInt]
     ·cases h
    ·cases h
   ·cases h
  ·cases h
 ·cases h
def opPs (tys:Tab TI)(tm:T Value)(op:Op):Option Value:=match op with
 | .move x=>opv tm x
 | .assign x=>opv tm x
 | .pick c a b=>match opv tm c with
  |some (.bool true)=>opv tm a
  |some (.bool false)=>opv tm b
  |_=>none
 | .nilCheck x=>match opv tm x with
  |some (.pointer (some a))=>some (.pointer (some a))
  |some (.func (.func f) a c)=>some (.func (.func f) a c)
  |_=>none
 | .binOp op t x y _=>match opv tm x,opv tm y with
  |some a,some b=>opBin tys op t a b
  |_,_=>none
 | .unOp op _ x=>match opv tm x with|some a=>unv op a|none=>none
 | .convert s t x=>match opv tm x with|some a=>conv tys s t a|none=>none
 | .makeInterface t x=>match opv tm x with|some a=>mkI tys t a|none=>none
 | .makeFunc fn first caps=>mkF tm fn first caps
 | .fieldAddr t x f=>match opv tm x with|some a=>fA tys t a f|none=>none
 | .field t x f=>match opv tm x with|some a=>fld tys t a f|none=>none
 | .indexAddr t x i=>match opv tm x,opv tm i with
  |some a,some b=>idxA tys t a b
  |_,_=>none
 | .index t x i=>match opv tm x,opv tm i with
  |some a,some b=>idx tys t a b
  |_,_=>none
 | .typeAssert x _ t ok=>match opv tm x with|some a=>tA tys a t ok|none=>none
 | .extract x i=>match opv tm x with|some a=>extr a i|none=>none
 | .build t parts=>match evpL tm parts.toList with|some l=>bld tys t l|none=>none
 | .call c=>blt tys tm c
 |_=>none
def opP (tys:Tab TI)(tm:T Value)(op:Op):Option Value:=Op.rec (motive:=fun _=>Tab TI->T Value->Option Value)
 (fun x tys tm=>opv tm x)
 (fun x tys tm=>opv tm x)
 (fun c a b tys tm=>match opv tm c with
  |some (.bool true)=>opv tm a
  |some (.bool false)=>opv tm b
  |_=>none)
 (fun f0 tys tm=>opPs tys tm (.alloc f0))
 (fun f0 f1 tys tm=>opPs tys tm (.box f0 f1))
 (fun f0 f1 tys tm=>opPs tys tm (.build f0 f1))
 (fun f0 f1 f2 tys tm=>opPs tys tm (.buildSlice f0 f1 f2))
 (fun f0 f1 f2 f3 tys tm=>opPs tys tm (.insert f0 f1 f2 f3))
 (fun f0 f1 tys tm=>opPs tys tm (.load f0 f1))
 (fun f0 f1 f2 tys tm=>opPs tys tm (.store f0 f1 f2))
 (fun f0 tys tm=>opPs tys tm (.ready f0))
 (fun f0 tys tm=>opPs tys tm (.waits f0))
 (fun f0 tys tm=>opPs tys tm (.nilCheck f0))
 (fun op t x y _ tys tm=>match opv tm x,opv tm y with
  |some a,some b=>opBin tys op t a b
  |_,_=>none)
 (fun op _ x tys tm=>match opv tm x with|some a=>unv op a|none=>none)
 (fun s t x tys tm=>match opv tm x with|some a=>conv tys s t a|none=>none)
 (fun f0 f1 tys tm=>opPs tys tm (.sliceToArrayPointer f0 f1))
 (fun f0 f1 tys tm=>opPs tys tm (.makeInterface f0 f1))
 (fun f0 f1 f2 tys tm=>opPs tys tm (.makeFunc f0 f1 f2))
 (fun f0 f1 tys tm=>opPs tys tm (.makeMap f0 f1))
 (fun f0 f1 tys tm=>opPs tys tm (.makeChan f0 f1))
 (fun f0 f1 f2 tys tm=>opPs tys tm (.makeSlice f0 f1 f2))
 (fun f0 f1 f2 f3 f4 tys tm=>opPs tys tm (.slice f0 f1 f2 f3 f4))
 (fun t x f tys tm=>match opv tm x with|some a=>fA tys t a f|none=>none)
 (fun t x f tys tm=>match opv tm x with|some a=>fld tys t a f|none=>none)
 (fun t x i tys tm=>match opv tm x,opv tm i with
  |some a,some b=>idxA tys t a b
  |_,_=>none)
 (fun t x i tys tm=>match opv tm x,opv tm i with
  |some a,some b=>idx tys t a b
  |_,_=>none)
 (fun f0 f1 f2 f3 tys tm=>opPs tys tm (.lookup f0 f1 f2 f3))
 (fun f0 f1 f2 f3 tys tm=>opPs tys tm (.mapUpdate f0 f1 f2 f3))
 (fun f0 f1 f2 tys tm=>opPs tys tm (.mapEntry f0 f1 f2))
 (fun f0 f1 f2 f3 tys tm=>opPs tys tm (.entryStore f0 f1 f2 f3))
 (fun f0 f1 tys tm=>opPs tys tm (.range f0 f1))
 (fun f0 f1 tys tm=>opPs tys tm (.next f0 f1))
 (fun f0 tys tm=>opPs tys tm (.entry f0))
 (fun f0 f1 f2 f3 tys tm=>opPs tys tm (.typeAssert f0 f1 f2 f3))
 (fun x i tys tm=>match opv tm x with|some a=>extr a i|none=>none)
 (fun c tys tm=>blt tys tm c)
 (fun f0 tys tm=>opPs tys tm (.go f0))
 (fun f0 tys tm=>opPs tys tm (.defer f0))
 (fun f0 tys tm=>opPs tys tm (.panic f0))
 (fun f0 f1 tys tm=>opPs tys tm (.send f0 f1))
 (fun f0 f1 f2 tys tm=>opPs tys tm (.recv f0 f1 f2))
 (fun f0 f1 tys tm=>opPs tys tm (.select f0 f1))
 op tys tm
theorem opP_eq {tm:T Value}{op:Op}:opP tys tm op=opPs tys tm op:=by cases op<;>rfl
theorem run_opP (hT:TyOk P tys){tm:T Value}{rv:Operand->Value}(hr:Rv ρ tm rv){o:Oper}(h:opP tys tm o.op=some v)(w:World):(execOp rv o).run P w=.ok (.value (ren ρ v)) w:=by
 rw[opP_eq] at h;unfold opPs at h;split at h
 all_goals (rename_i ho;simp only[execOp,ho])
 ·rw[hr _ _ h];simp
 ·rw[hr _ _ h];simp
 ·split at h
  ·rename_i hc;rw[hr _ _ hc,hr _ _ h];simp[asBool]
  ·rename_i hc;rw[hr _ _ hc,hr _ _ h];simp[asBool]
  ·cases h
 ·split at h
  ·rename_i hc;cases h;rw[hr _ _ hc];simp
  ·rename_i hc;cases h;rw[hr _ _ hc];simp
  ·cases h
 ·split at h
  ·rename_i h1 h2;have:=run_opBin (P:=P) hT h ρ;rw[hr _ _ h1,hr _ _ h2,Sem.run_bind,this];rfl
  ·cases h
 ·split at h
  ·rename_i h1;rw[hr _ _ h1,Sem.run_bind,run_unv h ρ];rfl
  ·cases h
 ·split at h
  ·rename_i h1;rw[hr _ _ h1,Sem.run_bind,run_conv hT h ρ];rfl
  ·cases h
 ·split at h
  ·rename_i h1;rw[hr _ _ h1,Sem.run_bind,run_mkI hT h ρ];rfl
  ·cases h
 ·rw[Sem.run_bind,run_mkF hr h];rfl
 ·split at h
  ·rename_i h1;rw[hr _ _ h1,Sem.run_bind,run_fA hT h ρ];rfl
  ·cases h
 ·split at h
  ·rename_i h1;rw[hr _ _ h1,Sem.run_bind,run_fld hT h ρ];rfl
  ·cases h
 ·split at h
  ·rename_i h1 h2;rw[hr _ _ h1,hr _ _ h2,Sem.run_bind,run_idxA hT h ρ];rfl
  ·cases h
 ·split at h
  ·rename_i h1 h2;rw[hr _ _ h1,hr _ _ h2,Sem.run_bind,run_idx hT h ρ];rfl
  ·cases h
 ·split at h
  ·rename_i h1;rw[hr _ _ h1,Sem.run_bind,run_tA hT h ρ];rfl
  ·cases h
 ·split at h
  ·rename_i h1;rw[hr _ _ h1,Sem.run_bind,run_extr h ρ];rfl
  ·cases h
 ·split at h
  ·rename_i t parts _ l h1;obtain⟨e1,e2⟩:=evpL_ok hr h1;have e3:(parts.map fun (x:Nat×Operand)=>(x.1,rv x.2))=(l.map fun p=>(p.1,ren ρ p.2)).toArray:=by
    apply Array.toList_inj.1;rw[Array.toList_map,e1]
   rw[e3,Sem.run_bind,run_bld hT e2 h ρ];rfl
  ·cases h
 ·exact run_blt hT hr h _ w
 ·cases h
end Go.EV
noncomputable section
namespace Go.EV
open Go Go.RowKit Go.RR
inductive AO where
 |row (w:Bool) (e:TypeId) (cs:List Value) (tl:Option Nat)
 |mp (w:Bool) (es:List (Value×Value))
 |tab (cs:List Value)
def AO.wr:AO->Bool
 | .row w _ _ _=>w
 | .mp w _=>w
 | .tab _=>false
def ObjR (ρ:Rn)(i:Nat)(o:AO)(r:Option Obj):Prop:=match o with
 | .row _ e cs tl=>∃rest:List Value,r=some (.cells (cs.map (ren1 ρ)++rest).toArray e (0,0))/\match tl with
  |none=>rest=[]
  |some sz=>cs.length+rest.length=ρ.c i*sz/\0<sz/\ρ.c i<=maxLen
 | .mp _ es=>∃es' k,r=some (.map es' k)/\es'.toList.map (fun e=>(e.key,e.val))=es.map (fun p=>(p.1,ren ρ p.2))
 | .tab cs=>∃e fz,r=some (.cells (cs.map (ren1 ρ)).toArray e fz)
def Agr (K:Nat->Prop)(ρ ρ':Rn):Prop:=∀b,K b->ρ.f b=ρ'.f b/\ρ.c b=ρ'.c b
variable {K:Nat->Prop} {ρ ρ':Rn}
theorem Agr.refl (K:Nat->Prop)(ρ:Rn):Agr K ρ ρ:=fun _ _=>⟨rfl,rfl⟩
theorem Agr.symm {K:Nat->Prop}{ρ ρ':Rn}(h:Agr K ρ ρ'):Agr K ρ' ρ:=fun b hb=>⟨(h b hb).1.symm,(h b hb).2.symm⟩
theorem Agr.trans {K:Nat->Prop}{a b c:Rn}(h:Agr K a b)(h':Agr K b c):Agr K a c:=fun x hx=>⟨(h x hx).1.trans (h' x hx).1,(h x hx).2.trans (h' x hx).2⟩
theorem Agr.mono {K':Nat->Prop}{a b:Rn}(h:Agr K a b)(hk:∀x,K' x->K x):Agr K' a b:=fun x hx=>h x (hk x hx)
def BV (K:Nat->Prop)(v:Value):Prop:=∀ρ ρ',Agr K ρ ρ'->ren ρ v=ren ρ' v
def BC (K:Nat->Prop)(v:Value):Prop:=base1 v=true/\BV K v
theorem BV.mono {K K':Nat->Prop}{v:Value}(h:BV K v)(hk:∀b,K b->K' b):BV K' v:=fun ρ ρ' ha=>h ρ ρ' (ha.mono hk)
theorem BC.mono {K K':Nat->Prop}{v:Value}(h:BC K v)(hk:∀b,K b->K' b):BC K' v:=⟨h.1,h.2.mono hk⟩
theorem BC.ren {v:Value}(h:BC K v)(ha:Agr K ρ ρ'):ren1 ρ v=ren1 ρ' v:=by rw[<- ren_base1 h.1,<-ren_base1 h.1];exact h.2 ρ ρ' ha
def OB (K:Nat->Prop):AO->Prop
 | .row _ _ cs _=>∀v∈cs,BC K v
 | .mp _ es=>∀p∈es,plain p.1=true/\BV K p.2
 | .tab cs=>∀v∈cs,BC K v
theorem OB.mono {K K':Nat->Prop}{o:AO}(h:OB K o)(hk:∀b,K b->K' b):OB K' o:=by
 cases o with
 |row w e cs tl=>exact fun v hv=>(h v hv).mono hk
 |mp w es=>exact fun p hp=>⟨(h p hp).1,(h p hp).2.mono hk⟩
 |tab cs=>exact fun v hv=>(h v hv).mono hk
theorem BC.list {cs:List Value}(h:∀v∈cs,BC K v)(ha:Agr K ρ ρ'):cs.map (ren1 ρ)=cs.map (ren1 ρ'):=List.map_congr_left fun v hv=>(h v hv).ren ha
theorem ObjR.agr (ha:Agr K ρ ρ'){i:Nat}(hi:K i){o:AO}(hb:OB K o){r:Option Obj}(h:ObjR ρ i o r):ObjR ρ' i o r:=by
 cases o with
 |row w e cs tl=>
  obtain⟨rest,h1,h2⟩:=h;refine⟨rest,by rw[<- BC.list hb ha];exact h1,?_⟩
  cases tl with
  |none=>exact h2
  |some sz=>rw[<- (ha i hi).2];exact h2
 |mp w es=>
  obtain⟨es',k,h1,h2⟩:=h;refine⟨es',k,h1,h2.trans (List.map_congr_left fun p hp=>?_)⟩;rw[(hb p hp).2 ρ ρ' ha]
 |tab cs=>
  obtain⟨e,fz,h1⟩:=h;exact⟨e,fz,by rw[<- BC.list hb ha];exact h1⟩
structure RelH (w0:World)(K:Nat->Prop)(ρ:Rn)(H:T AO)(w:World):Prop where
 upd:Upd (fun _=>False) w0 w
 kn:∀i o,H.get i=some o->K i
 obj:∀i o,H.get i=some o->ObjR ρ i o (w.heap[ρ.f i]?)
 bnd:∀i o,H.get i=some o->OB K o
 inj:∀i j oi oj,H.get i=some oi->H.get j=some oj->oi.wr=true->i≠j->ρ.f i≠ρ.f j
 new:∀i o,H.get i=some o->o.wr=true->w0.heap.size<=ρ.f i
section
variable {w0:World} {K K':Nat->Prop} {ρ ρ':Rn} {H:T AO} {w:World}
theorem RelH.agr (h:RelH w0 K ρ H w)(ha:Agr K ρ ρ'):RelH w0 K ρ' H w:=
 ⟨h.upd,h.kn,fun i o hi=>by rw[<- (ha i (h.kn i o hi)).1];exact (h.obj i o hi).agr ha (h.kn i o hi) (h.bnd i o hi),h.bnd,
  fun i j oi oj hi hj hw hne=>by rw[<- (ha i (h.kn i oi hi)).1,<-(ha j (h.kn j oj hj)).1];exact h.inj i j oi oj hi hj hw hne,
  fun i o hi hw=>by rw[<- (ha i (h.kn i o hi)).1];exact h.new i o hi hw⟩
theorem RelH.more (h:RelH w0 K ρ H w)(hk:∀b,K b->K' b):RelH w0 K' ρ H w:=⟨h.upd,fun i o hi=>hk i (h.kn i o hi),h.obj,fun i o hi=>(h.bnd i o hi).mono hk,h.inj,h.new⟩
theorem RelH.drew (h:RelH w0 K ρ H w):RelH w0 K ρ H w.drew:=⟨h.upd.drew,h.kn,h.obj,h.bnd,h.inj,h.new⟩
theorem RelH.less (h:RelH w0 K ρ H w){H':T AO}(hs:∀i o,H'.get i=some o->H.get i=some o):RelH w0 K ρ H' w:=
 ⟨h.upd,fun i o hi=>h.kn i o (hs i o hi),fun i o hi=>h.obj i o (hs i o hi),fun i o hi=>h.bnd i o (hs i o hi),fun i j oi oj hi hj=>h.inj i j oi oj (hs i oi hi) (hs j oj hj),fun i o hi=>h.new i o (hs i o hi)⟩
theorem RelH.lt (h:RelH w0 K ρ H w){i:Nat}{o:AO}(hi:H.get i=some o):ρ.f i<w.heap.size:=by
 have:=h.obj i o hi
 cases o with
 |row wr e cs tl=>obtain⟨rest,h1,_⟩:=this;exact (Array.getElem?_eq_some_iff.1 h1).1
 |mp wr es=>obtain⟨es',k,h1,_⟩:=this;exact (Array.getElem?_eq_some_iff.1 h1).1
 |tab cs=>obtain⟨_,_,h1⟩:=this;exact (Array.getElem?_eq_some_iff.1 h1).1
theorem RelH.alloc (h:RelH w0 K ρ H w)(ob:Obj):RelH w0 K ρ H (w.alloc ob):=
 ⟨h.upd.alloc ob,h.kn,fun i o hi=>by
  have hl:=h.lt hi;show ObjR ρ i o ((w.heap.push ob)[ρ.f i]?);rw[Array.getElem?_push_lt hl,<-Array.getElem?_eq_getElem hl];exact h.obj i o hi,h.bnd,h.inj,h.new⟩
theorem RelH.add (h:RelH w0 K ρ H w){i:Nat}{o:AO}(hk:K i)(hf:∀j oj,H.get j=some oj->j≠i->ρ.f j≠ρ.f i)(ho:ObjR ρ i o (w.heap[ρ.f i]?))(hb:OB K o)(hn:o.wr=true->w0.heap.size<=ρ.f i):RelH w0 K ρ (H.put i o) w:=by
 have key:∀j oj,(H.put i o).get j=some oj->j=i/\oj=o\/j≠i/\H.get j=some oj:=fun j oj hj=>by
  rw[T.get_put] at hj;split at hj
  ·rename_i e;cases hj;exact .inl ⟨e,rfl⟩
  ·rename_i e;exact .inr ⟨e,hj⟩
 refine⟨h.upd,fun j oj hj=>?_,fun j oj hj=>?_,fun j oj hj=>?_,fun j k oj ok hj hk2 hw hne=>?_,fun j oj hj hw=>?_⟩
 ·rcases key j oj hj with ⟨rfl,_⟩|⟨_,h2⟩
  ·exact hk
  ·exact h.kn j oj h2
 ·rcases key j oj hj with ⟨rfl,rfl⟩|⟨_,h2⟩
  ·exact ho
  ·exact h.obj j oj h2
 ·rcases key j oj hj with ⟨rfl,rfl⟩|⟨_,h2⟩
  ·exact hb
  ·exact h.bnd j oj h2
 ·rcases key j oj hj with ⟨rfl,rfl⟩|⟨h1,h2⟩
  ·rcases key k ok hk2 with ⟨rfl,_⟩|⟨h3,h4⟩
   ·exact absurd rfl hne
   ·exact (hf k ok h4 h3).symm
  ·rcases key k ok hk2 with ⟨rfl,_⟩|⟨h3,h4⟩
   ·exact hf j oj h2 h1
   ·exact h.inj j k oj ok h2 h4 hw hne
 ·rcases key j oj hj with ⟨rfl,rfl⟩|⟨_,h2⟩
  ·exact hn hw
  ·exact h.new j oj h2 hw
theorem RelH.del (h:RelH w0 K ρ H w)(i:Nat):RelH w0 K ρ (H.del i) w:=h.less fun j o hj=>by rw[T.get_del] at hj;split at hj<;>first|cases hj|exact hj
theorem tab_cell {cs:List Value}{b:Nat}(h:RelH w0 K ρ H w)(hg:H.get b=some (.tab cs))(o:Nat):w.cell? ⟨ρ.f b,o,none⟩=(cs.map (ren1 ρ))[o]?:=by
 obtain⟨e,fz,h1⟩:=h.obj b _ hg;simp[World.cell?,h1]
theorem row_cell {e:TypeId}{cs:List Value}{b:Nat}{wr:Bool}{tl:Option Nat}(h:RelH w0 K ρ H w)(hg:H.get b=some (.row wr e cs tl)):∃rest:List Value,Row w (ρ.f b) e (cs.map (ren1 ρ)++rest):=by
 obtain⟨rest,h1,_⟩:=h.obj b _ hg;exact⟨rest,h1⟩
end
variable {P:Program}
def ld (tys:Tab TI)(H:T AO)(t:TypeId)(x:Value):Option Value:=match x with
 | .pointer (some a)=>match H.get a.block with
  |some (.row _ _ cs _)=>match tys.get t with
   |some i=>bif isN a.spot then (bif i.d.agg then (bif lB (a.off+i.size) cs then some (.agg (lT i.size (lD a.off cs)).toArray) else none) else nth cs a.off) else none
   |none=>none
  |some (.tab cs)=>match tys.get t with
   |some i=>bif isN a.spot&&!i.d.agg then nth cs a.off else none
   |none=>none
  |_=>none
 |_=>none
theorem rcap_open {b k:Nat}(h:1125899906842624<=1152921504606846976-k)(hk:k<=1152921504606846976):rcap ρ b (1152921504606846976-k)=ρ.c b-k:=by
 unfold rcap;rw[if_neg (by omega)];congr 1;omega
def bnd0 (d:Nat):Option Value->Option Nat
 |none=>some d
 |some (.int _ n)=>bif ile (.ofNat 0) n then some (toN n) else none
 |_=>none
def slc (tys:Tab TI)(H:T AO)(t:TypeId)(x:Value)(lo hi mx:Option Value):Option Value:=match x,tys.get t with
 | .string s,some ⟨.str,_,_,_,_⟩=>match mx with
  |none=>match bnd0 0 lo,bnd0 (lL s.data.toList) hi with
   |some l,some h=>bif Nat.ble l h&&lB h s.data.toList then some (.string ⟨⟨lT (h-l) (lD l s.data.toList)⟩⟩) else none
   |_,_=>none
  |some _=>none
 | .slice none 0 0,some ⟨.slice e,_,_,_,_⟩=>match tys.get e,mx,bnd0 0 lo,bnd0 0 hi with
  |some _,none,some l,some h=>bif Nat.beq l 0&&Nat.beq h 0 then some (.slice none 0 0) else none
  |_,_,_,_=>none
 | .slice (some a) len cap,some ⟨.slice e,_,_,_,_⟩=>match H.get a.block,tys.get e with
  |some (.row _ _ cs (some sz)),some ie=>match bnd0 0 lo,bnd0 len hi,bnd0 cap mx with
   |some l,some h,some m=>
    bif isN a.spot&&Nat.beq sz ie.size&&Nat.ble l h&&Nat.ble h len&&(Nat.beq l 0||Nat.blt l h)&&lB (a.off+len*sz) cs&&Nat.ble len cap&&
      (Nat.blt cap 1125899906842624||(Nat.ble cap 1152921504606846976&&Nat.ble 1125899906842624 (cap-l)&&Nat.beq a.off ((1152921504606846976-cap)*sz))) then
     (match mx with
     |some _=>match hi with
      |some _=>bif Nat.ble h m&&Nat.ble m len&&Nat.blt m 1125899906842624 then some (.slice (some ⟨a.block,a.off+l*sz,none⟩) (h-l) (m-l)) else none
      |none=>none
     |none=>some (.slice (some ⟨a.block,a.off+l*sz,none⟩) (h-l) (cap-l)))
    else none
   |_,_,_=>none
  |_,_=>none
 |_,_=>none
theorem bnd0_ok {o:Option Value}{d n:Nat}(h:bnd0 d o=some n):(o=none/\n=d)\/∃k,o=some (.int k (n:Int))/\∀(w:World) (y:Nat) (c:BoundsCode),n<=y->(Instr.sliceBound (.int k (n:Int)) y c).run P w=.ok n w:=by
 unfold bnd0 at h;split at h
 ·cases h;exact .inl ⟨rfl,rfl⟩
 ·rename_i k m;rw[ile_eq,cdec] at h;split at h
  ·rename_i hm;have hm:0<=m:=hm;cases h;right;have e:((toN m:Nat):Int)=m:=by rw[toN_eq];omega
   refine⟨k,by rw[e],fun w y c hy=>?_⟩;rw[e];rw[toN_eq] at hy;have:0<=m/\m<=(y:Int):=⟨hm,by omega⟩;simp[Instr.sliceBound,asIntOf,this,toN_eq]
  ·cases h
 ·cases h
theorem cnd {α:Type}{c:Bool}{x:Option α}{v:α}(h:(bif c then x else none)=some v):c=true/\x=some v:=by cases c<;>first|(cases h;done)|exact⟨rfl,h⟩
theorem bnd0_map {o:Option Value}{d n:Nat}(h:bnd0 d o=some n):o.map (ren ρ)=o:=by
 unfold bnd0 at h
 split at h<;>first|rfl|cases h
theorem run_slc {tys:Tab TI}(hT:TyOk P tys){w0:World}{H:T AO}{w:World}(hw:RelH w0 K ρ H w){t:TypeId}{x v:Value}{lo hi mx:Option Value}(h:slc tys H t x lo hi mx=some v):
  (Instr.sliceAt t (ren ρ x) (lo.map (ren ρ)) (hi.map (ren ρ)) (mx.map (ren ρ))).run P w=.ok (ren ρ v) w:=by
 unfold slc at h;simp only[lD_eq,lT_eq,lL_eq,lB_eq] at h;split at h
 ·rename_i s _ _ _ _ hg;have hu:P.underlying t=_:=(hT t _ hg).1.d;split at h
  ·split at h
   ·rename_i l hh h1 h2
    cases hc:(Nat.ble l hh&&Nat.ble hh s.data.toList.length) with
    |false=>rw[hc] at h;cases h
    |true=>
     rw[hc] at h;cases h;rw[Bool.and_eq_true,Nat.ble_eq,Nat.ble_eq] at hc;obtain⟨c1,c2⟩:=hc;have hs:s.data.toList.length=s.size:=by rw[Array.length_toList];rfl
     rw[bnd0_map h1,bnd0_map h2];have hex:s.extract l hh=⟨⟨(s.data.toList.drop l).take (hh-l)⟩⟩:=by
      apply bytes_eq;rw[ByteArray.data_extract,Array.toList_extract,List.extract_eq_take_drop]
     have hb:(Instr.sliceBounds false s.size s.size lo hi none).run P w=.ok (l,hh,s.size) w:=by
      rcases bnd0_ok (P:=P) h1 with ⟨rfl,rfl⟩|⟨k1,rfl,r1⟩<;>rcases bnd0_ok (P:=P) h2 with ⟨rfl,rfl⟩|⟨k2,rfl,r2⟩
      ·simp only[Instr.sliceBounds,Sem.run_bind,Sem.run_pure,Result.andThen_ok,hs]
      ·simp only[Instr.sliceBounds,Sem.run_bind,Sem.run_pure,Result.andThen_ok,r2 w s.size _ (by omega)]
      ·simp only[Instr.sliceBounds,Sem.run_bind,Sem.run_pure,Result.andThen_ok,r1 w s.size _ (by omega),hs]
      ·simp only[Instr.sliceBounds,Sem.run_bind,Sem.run_pure,Result.andThen_ok,r1 w hh _ (by omega),r2 w s.size _ (by omega)]
     simp[Instr.sliceAt,Instr.slice,run_und hu,hb,hex]
   ·cases h
  ·cases h
 ·rename_i e _ _ _ _ hg;have hu:P.underlying t=_:=(hT t _ hg).1.d;split at h
  ·rename_i ie l hh hge h1 h2;have hs:=(hT e ie hge).1.size w
   cases hc:(Nat.beq l 0&&Nat.beq hh 0) with
   |false=>rw[hc] at h;cases h
   |true=>
    rw[hc] at h;cases h;rw[Bool.and_eq_true,nbeq,nbeq,decide_eq_true_eq,decide_eq_true_eq] at hc;obtain⟨rfl,rfl⟩:=hc;rw[bnd0_map h1,bnd0_map h2];have hb:(Instr.sliceBounds true 0 0 lo hi none).run P w=.ok (0,0,0) w:=by
     rcases bnd0_ok (P:=P) h1 with ⟨rfl,_⟩|⟨k1,rfl,r1⟩<;>rcases bnd0_ok (P:=P) h2 with ⟨rfl,_⟩|⟨k2,rfl,r2⟩
     ·simp only[Instr.sliceBounds,Sem.run_bind,Sem.run_pure,Result.andThen_ok]
     ·simp only[Instr.sliceBounds,Sem.run_bind,Sem.run_pure,Result.andThen_ok,r2 w 0 _ (by omega)]
     ·simp only[Instr.sliceBounds,Sem.run_bind,Sem.run_pure,Result.andThen_ok,r1 w 0 _ (by omega)]
     ·simp only[Instr.sliceBounds,Sem.run_bind,Sem.run_pure,Result.andThen_ok,r1 w 0 _ (by omega),r2 w 0 _ (by omega)]
    simp[Instr.sliceAt,Instr.slice,run_und hu,hb,hs]
  ·cases h
 ·rename_i a len cap e _ _ _ _ hg;have hu:P.underlying t=_:=(hT t _ hg).1.d;split at h
  ·rename_i wr e' cs sz ie hgb hge;have hs:=(hT e ie hge).1.size w;split at h
   ·rename_i l hh m h1 h2 h3;obtain⟨hc,h⟩:=cnd h;simp only[Bool.and_eq_true,Bool.or_eq_true,nbeq,decide_eq_true_eq,Nat.ble_eq,Nat.blt_eq] at hc;obtain⟨⟨⟨⟨⟨⟨⟨c1,c2⟩,c3⟩,c4⟩,c5⟩,c6⟩,c7⟩,c8⟩:=hc;have hsp:=isN_eq c1;subst c2;obtain⟨rest,_,hr1,hr2,_⟩:=hw.obj a.block _ hgb;rw[bnd0_map h1,bnd0_map h2,bnd0_map h3]
    -- the room that there is
    have hR:len<=rcap ρ a.block cap/\rcap ρ a.block (cap-l)=rcap ρ a.block cap-l:=by
     rcases c8 with c8|⟨⟨c8,c9⟩,c10⟩
     ·unfold rcap;rw[if_pos c8,if_pos (by omega)];exact⟨c7,rfl⟩
     ·unfold rcap;rw[if_neg (by omega),if_neg (by omega)];have h5:(1152921504606846976-cap)*ie.size+len*ie.size<=ρ.c a.block*ie.size:=by rw[<- hr1,<-c10];omega
      rw[<- Nat.add_mul] at h5;have h6:=Nat.le_of_mul_le_mul_right h5 hr2;omega
    obtain⟨hR1,hR2⟩:=hR
    have fin:∀M,hh<=M->l<=M->((l=0)\/l<M)->(if M=l then (some ⟨ρ.f a.block,a.off,none⟩:Option Addr) else (some ⟨ρ.f a.block,a.off,none⟩:Option Addr).map (·.add (l*ie.size)))=some ⟨ρ.f a.block,a.off+l*ie.size,none⟩:=fun M _ _ hl=>by
     split
     ·have:l=0:=by omega
      subst this;simp
     ·simp[Addr.add_lit]
    split at h
    ·rename_i vm;split at h
     ·rename_i vh;obtain⟨hd,h⟩:=cnd h;simp only[Bool.and_eq_true,Nat.ble_eq,Nat.blt_eq] at hd;obtain⟨⟨d1,d2⟩,d3⟩:=hd;cases h;obtain⟨h0,_⟩|⟨k3,h0,r3⟩:=bnd0_ok (P:=P) h3
      ·cases h0
      cases h0;obtain⟨h0,_⟩|⟨k2,h0,r2⟩:=bnd0_ok (P:=P) h2
      ·cases h0
      cases h0;have hb:(Instr.sliceBounds true len (rcap ρ a.block cap) lo (some (.int k2 (hh:Int))) (some (.int k3 (m:Int)))).run P w=.ok (l,hh,m) w:=by
       rcases bnd0_ok (P:=P) h1 with ⟨rfl,rfl⟩|⟨k1,rfl,r1⟩
       ·simp only[Instr.sliceBounds,Sem.run_bind,Sem.run_pure,Result.andThen_ok,r3 w _ _ (show m<=rcap ρ a.block cap by omega),r2 w m _ d1]
       ·simp only[Instr.sliceBounds,Sem.run_bind,Sem.run_pure,Result.andThen_ok,r3 w _ _ (show m<=rcap ρ a.block cap by omega),r2 w m _ d1,r1 w hh _ c3]
      have:=fin m d1 (by omega) (by omega);have e2:rcap ρ a.block (m-l)=m-l:=by unfold rcap;rw[if_pos (by omega)]
      simp[Instr.sliceAt,Instr.slice,run_und hu,hb,hs,hsp,e2];simpa using this
     ·cases h
    ·cases h;have hb:(Instr.sliceBounds true len (rcap ρ a.block cap) lo hi none).run P w=.ok (l,hh,rcap ρ a.block cap) w:=by
      rcases bnd0_ok (P:=P) h1 with ⟨rfl,rfl⟩|⟨k1,rfl,r1⟩<;>rcases bnd0_ok (P:=P) h2 with ⟨rfl,rfl⟩|⟨k2,rfl,r2⟩
      ·simp only[Instr.sliceBounds,Sem.run_bind,Sem.run_pure,Result.andThen_ok]
      ·simp only[Instr.sliceBounds,Sem.run_bind,Sem.run_pure,Result.andThen_ok,r2 w (rcap ρ a.block cap) _ (by omega)]
      ·simp only[Instr.sliceBounds,Sem.run_bind,Sem.run_pure,Result.andThen_ok,r1 w hh _ c3]
      ·simp only[Instr.sliceBounds,Sem.run_bind,Sem.run_pure,Result.andThen_ok,r2 w (rcap ρ a.block cap) _ (by omega),r1 w hh _ c3]
     have:=fin (rcap ρ a.block cap) (by omega) (by omega) (by omega);simp[Instr.sliceAt,Instr.slice,run_und hu,hb,hs,hsp,hR2];simpa using this
   ·cases h
  ·cases h
 ·cases h
end Go.EV
noncomputable section
namespace Go.EV
open Go Go.RowKit Go.RR
variable {P:Program} {t:TypeId} {tys:Tab TI} {kt:TypeId}
theorem TIok.aggD {i:TI}(h:TIok P t i)(ha:i.d.agg=true):∃d,P.underlying t=some d/\d.isRow=true:=by
 have hd:=h.d
 cases hi:i.d with
 |st fs=>rw[hi] at hd;obtain⟨l,hl,_⟩:=hd;exact⟨_,hl,rfl⟩
 |arr n e=>rw[hi] at hd;exact⟨_,hd,rfl⟩
 |_=>rw[hi] at ha;cases ha
theorem run_ld (hT:TyOk P tys){w0:World}{K:Nat->Prop}{ρ:Rn}{H:T AO}{w:World}(hw:RelH w0 K ρ H w){x v:Value}(h:ld tys H t x=some v):
  (Instr.loadAt t (ren ρ x)).run P w=.ok (ren ρ v) w:=by
 unfold ld at h;simp only[lD_eq,lT_eq,lB_eq] at h;split at h
 ·rename_i a;split at h
  ·rename_i wr e cs tl hg;split at h
   ·rename_i i hgt;obtain⟨hs,h⟩:=cnd h;have hs:=isN_eq hs;obtain⟨rest,hrow⟩:=row_cell hw hg;have hT1:=(hT t i hgt).1
    cases ha:i.d.agg with
    |true=>
     rw[ha] at h;obtain⟨hl,h⟩:=cnd (show (bif Nat.ble (a.off+i.size) cs.length then some (Value.agg ((cs.drop a.off).take i.size).toArray) else none)=some v from h);cases h;rw[Nat.ble_eq] at hl;obtain⟨d,hd,hr⟩:=hT1.aggD ha;have:=run_loadAt_mid (P:=P) w (ρ.f a.block) a.off t (((cs.drop a.off).take i.size).map (ren1 ρ)) d (fun j u hj=>by
      rw[hrow.cell,List.getElem?_append_left (by
       have:=(List.getElem?_eq_some_iff.1 hj).1;simp at this;simp;omega),<-hj]
      simp only[List.getElem?_map,List.getElem?_take,List.getElem?_drop];have:=(List.getElem?_eq_some_iff.1 hj).1;simp at this;rw[if_pos (by omega)]) hd hr (by rw[hT1.isz];simp;omega)
     simp only[ren_ptr,hs,ren_agg];rw[this];simp
    |false=>
     rw[ha] at h;have h:nth cs a.off=some v:=h;rw[nth_eq] at h;have hb:=(hw.bnd _ _ hg) v (List.mem_of_getElem? h);have hc:w.cell? ⟨ρ.f a.block,a.off,none⟩=some (ren1 ρ v):=by
      rw[hrow.cell,List.getElem?_append_left (by have:=(List.getElem?_eq_some_iff.1 h).1;simpa using this),List.getElem?_map,h];rfl
     have hagg:=hT1.agg w;rw[ha] at hagg;simp[Instr.loadAt,Instr.sureAddr,loadVar,hagg,hs,hc,ren_base1 hb.1]
   ·cases h
  ·rename_i cs hg;split at h
   ·rename_i i hgt;obtain⟨hs,h⟩:=cnd h;rw[Bool.and_eq_true,Bool.not_eq_true'] at hs;obtain⟨hs,ha⟩:=hs;have hs:=isN_eq hs;have hT1:=(hT t i hgt).1;rw[nth_eq] at h;have hb:=(hw.bnd _ _ hg) v (List.mem_of_getElem? h);have hc:w.cell? ⟨ρ.f a.block,a.off,none⟩=some (ren1 ρ v):=by rw[tab_cell hw hg,List.getElem?_map,h];rfl
    have hagg:=hT1.agg w;rw[ha] at hagg;simp[Instr.loadAt,Instr.sureAddr,loadVar,hagg,hs,hc,ren_base1 hb.1]
   ·cases h
  ·cases h
 ·cases h
def kEq (tys:Tab TI)(kt:TypeId)(a b:Value):Option Bool:=match tys.get kt with
 |none=>none
 |some i=>match a,b with
  | .int k x,.int j y=>match i.d with | .int _=>bif ikEq k j then some (intEq x y) else none|_=>none
  | .string x,.string y=>match i.d with | .str=>some (bysEq x.data.toList y.data.toList)|_=>none
  | .agg xs,.agg ys=>bif i.eqc.isSome&&Nat.beq xs.toList.length i.size&&Nat.beq ys.toList.length i.size&&xs.toList.all (isK i.eqc)&&ys.toList.all (isK i.eqc) then some (psEq xs.toList ys.toList) else none
  |_,_=>none
def fnd (tys:Tab TI)(kt:TypeId)(k:Value):List (Value×Value)->Nat->Option (Option (Nat×Value))
 |[],_=>some none
 |(q,v)::r,i=>match kEq tys kt k q with
  |some true=>some (some (i,v))
  |some false=>fnd tys kt k r (i+1)
  |none=>none
theorem kEq_now (hT:TyOk P tys){a b:Value}{r:Bool}(h:kEq tys kt a b=some r)(ha:∀c,a≠.agg c):∃d,P.underlying kt=some d/\Instr.sameNow d a b=some r:=by
 unfold kEq at h;split at h
 ·cases h
 ·rename_i i hg;have hd:=(hT kt i hg).1.d;split at h
  ·rename_i k x j y;split at h
   ·rename_i kk hi;obtain⟨hk,h⟩:=cnd h;cases h;rw[hi] at hd;have hd:P.underlying kt=_:=hd;refine⟨_,hd,?_⟩;have:=ikEq_eq hk;subst this;rw[intEq_eq];simp[Instr.sameNow];rfl
   ·cases h
  ·rename_i x y;split at h
   ·rename_i hi;cases h;rw[hi] at hd;have hd:P.underlying kt=_:=hd;refine⟨_,hd,?_⟩;rw[bysEq_eq];have:(x==y)=decide (x.data.toList=y.data.toList):=by
     show (x.data==y.data)=_;rw[Bool.eq_iff_iff,beq_iff_eq,decide_eq_true_eq,Array.toList_inj]
    simp[Instr.sameNow,this]
   ·cases h
  ·rename_i xs ys;exact absurd rfl (ha xs)
  ·cases h
theorem kEq_agg (hT:TyOk P tys){c:Array Value}{b:Value}{r:Bool}(h:kEq tys kt (.agg c) b=some r)(w:World):(Op.equal kt (.agg c) b).run P w=.ok r w/\∀d,Instr.sameNow d (.agg c) b=none:=by
 unfold kEq at h
 cases hg:tys.get kt with
 |none=>rw[hg] at h;cases h
 |some i=>
  rw[hg] at h
  cases b with
  |agg ys=>
   obtain⟨hc,h⟩:=cnd h;cases h;simp only[Bool.and_eq_true,nbeq,decide_eq_true_eq] at hc;obtain⟨⟨⟨⟨c1,c2⟩,c3⟩,c4⟩,c5⟩:=hc;obtain⟨_,_,e1,_⟩:=(hT kt i hg).2 c1 c.toList ys.toList (.tmp 0) (.tmp 0) w c2 c3 c4 c5;exact⟨by simpa using e1,fun d=>by cases d<;>rfl⟩
  |_=>cases h
section
variable {P:Program} {tys:Tab TI} (hT:TyOk P tys) {ρ:Rn} {kt:TypeId} {k:Value}
include hT
theorem fnd_now (ha:∀c,k≠.agg c){d:TypeDesc}(hd:P.underlying kt=some d):∀(es:List (Value×Value)) (es':List MapEntry) (i:Nat) (r:Option (Nat×Value)),es'.map (fun e=>(e.key,e.val))=es.map (fun p=>(p.1,ren ρ p.2))->fnd tys kt k es i=some r->Instr.findNow d k es' i=some (r.map fun p=>(p.1,ren ρ p.2))
 |[],[],i,r,_,h=>by cases h;rfl
 |[],_::_,i,r,e,_=>by simp at e
 |_::_,[],i,r,e,_=>by simp at e
 |(q,v)::es,m::es',i,r,e,h=>by
  simp only[List.map_cons,List.cons.injEq,Prod.mk.injEq] at e;obtain⟨⟨e1,e2⟩,e3⟩:=e;unfold fnd at h;split at h
  ·rename_i hk;cases h;obtain⟨d',hd',hs⟩:=kEq_now hT hk ha;rw[hd] at hd';cases hd';simp[Instr.findNow,e1,hs,e2]
  ·rename_i hk;obtain⟨d',hd',hs⟩:=kEq_now hT hk ha;rw[hd] at hd';cases hd';simp only[Instr.findNow,e1,hs];exact fnd_now ha hd es es' (i+1) r e3 h
  ·cases h
theorem fnd_ask {c:Array Value}:∀(es:List (Value×Value)) (es':List MapEntry) (i:Nat) (r:Option (Nat×Value)) (w:World),es'.map (fun e=>(e.key,e.val))=es.map (fun p=>(p.1,ren ρ p.2))->fnd tys kt (.agg c) es i=some r->(Instr.findAsking kt (.agg c) es' i).run P w=.ok (r.map fun p=>(p.1,ren ρ p.2)) w
 |[],[],i,r,w,_,h=>by cases h;rfl
 |[],_::_,i,r,_,e,_=>by simp at e
 |_::_,[],i,r,_,e,_=>by simp at e
 |(q,v)::es,m::es',i,r,w,e,h=>by
  simp only[List.map_cons,List.cons.injEq,Prod.mk.injEq] at e;obtain⟨⟨e1,e2⟩,e3⟩:=e;unfold fnd at h;split at h
  ·rename_i hk;cases h;have:=(kEq_agg hT hk w).1;simp[Instr.findAsking,e1,this,e2]
  ·rename_i hk;have:=(kEq_agg hT hk w).1;have ih:=fnd_ask es es' (i+1) r w e3 h;simp[Instr.findAsking,e1,this,ih]
  ·cases h
theorem run_fnd {d:TypeDesc}(hd:P.underlying kt=some d){es:List (Value×Value)}{es':List MapEntry}{r:Option (Nat×Value)}(w:World)(e:es'.map (fun e=>(e.key,e.val))=es.map (fun p=>(p.1,ren ρ p.2)))(h:fnd tys kt k es 0=some r):(Instr.findKey kt k es').run P w=.ok (r.map fun p=>(p.1,ren ρ p.2)) w:=by
 by_cases ha:∃c,k=.agg c
 ·obtain⟨c,rfl⟩:=ha;have h2:=fnd_ask hT es es' 0 r w e h
  cases es' with
  |nil=>
   have:es=[]:=by simpa using e.symm
   subst this;cases h;simp[Instr.findKey,run_und hd,Instr.findNow]
  |cons m es'=>
   cases es with
   |nil=>simp at e
   |cons p es=>
    obtain⟨q,v⟩:=p;have hn:Instr.findNow d (.agg c) (m::es') 0=none:=by
     simp only[List.map_cons,List.cons.injEq,Prod.mk.injEq] at e;unfold fnd at h
     cases hk:kEq tys kt (.agg c) q with
     |none=>rw[hk] at h;cases h
     |some b=>
      have:=(kEq_agg hT hk w).2 d;simp[Instr.findNow,e.1.1,this]
    simp[Instr.findKey,run_und hd,hn,h2]
 ·have ha:∀c,k≠.agg c:=fun c hc=>ha ⟨c,hc⟩;have:=fnd_now hT ha hd es es' 0 r e h;simp[Instr.findKey,run_und hd,this]
end
def keyOk (tys:Tab TI)(kt:TypeId)(k:Value):Bool:=match tys.get kt with
 |none=>false
 |some i=>match k with
  | .int .. =>match i.d with | .int _=>true|_=>false
  | .string _=>match i.d with | .str=>true|_=>false
  | .agg xs=>i.eqc.isSome&&Nat.beq xs.toList.length i.size&&xs.toList.all (isK i.eqc)
  |_=>false
theorem keyOk_run (hT:TyOk P tys){k:Value}(h:keyOk tys kt k=true)(b:Bool)(w:World):(Instr.checkKey b 10000 kt k).run P w=.ok () w/\plain k=true/\∃d,P.underlying kt=some d:=by
 unfold keyOk at h;split at h
 ·cases h
 ·rename_i i hg;obtain⟨d,hd⟩:=(hT kt i hg).1.und;have hi:=(hT kt i hg).1.d;split at h
  ·refine⟨?_,rfl,d,hd⟩;split at h
   ·rename_i hk;rw[hk] at hi;have hi:P.underlying kt=_:=hi
    suffices key:∀n,(Instr.checkKey b (n+1) kt _).run P w=.ok () w from key 9999
    intro n;simp[Instr.checkKey,run_und hi]
   ·cases h
  ·refine⟨?_,rfl,d,hd⟩;split at h
   ·rename_i hk;rw[hk] at hi;have hi:P.underlying kt=_:=hi
    suffices key:∀n,(Instr.checkKey b (n+1) kt _).run P w=.ok () w from key 9999
    intro n;simp[Instr.checkKey,run_und hi]
   ·cases h
  ·rename_i xs;simp only[Bool.and_eq_true,nbeq,decide_eq_true_eq] at h;obtain⟨⟨c1,c2⟩,c3⟩:=h;obtain⟨_,_,_,e⟩:=(hT kt i hg).2 c1 xs.toList xs.toList (.tmp 0) (.tmp 0) w c2 c2 c3 c3;refine⟨by simpa using e b,?_,d,hd⟩;show xs.toList.all plain1=true;rw[List.all_eq_true] at c3 ⊢;intro x hx;have:=c3 x hx;unfold isK at this;split at this
   ·rfl
   ·cases this
  ·cases h
def lkp (tys:Tab TI)(H:T AO)(t:TypeId)(x k:Value)(ok:Bool):Option Value:=match x with
 | .map (some r)=>match H.get r,tys.get t with
  |some (.mp _ es),some ⟨.map kt et,_,_,_,_⟩=>match tys.get et with
   |some ie=>bif keyOk tys kt k then (match fnd tys kt k es 0 with
    |some (some (_,v))=>bif base2 v then some (bif ok then .tuple #[v,.bool true] else v) else none
    |some none=>some (bif ok then .tuple #[ie.z,.bool false] else ie.z)
    |none=>none) else none
   |none=>none
  |_,_=>none
 |_=>none
theorem z_plain {i:TI}(h:TIok P t i)(hs:i.d.agg=true\/0<i.size):plain i.z=true/\base2 i.z=true:=by
 have hp:=h.zp;unfold TI.z
 cases ha:i.d.agg with
 |true=>
  refine⟨?_,rfl⟩;show i.zero.toArray.toList.all plain1=true;rw[List.all_eq_true] at hp ⊢;intro x hx;have:=hp x (by simpa using hx);rw[Bool.and_eq_true] at this;exact this.1
 |false=>
  rcases hs with hs|hs
  ·rw[ha] at hs;cases hs
  ·cases hz:i.zero with
   |nil=>have:=h.zl;rw[hz] at this;simp at this;omega
   |cons v l=>
    rw[hz] at hp;simp only[List.all_cons,Bool.and_eq_true] at hp;obtain⟨⟨p1,p2⟩,_⟩:=hp;show plain v=true/\base2 v=true
    cases v<;>first|exact⟨p1,rfl⟩|(cases p2;done)|(simp[plain1,plain0] at p1)
end Go.EV
