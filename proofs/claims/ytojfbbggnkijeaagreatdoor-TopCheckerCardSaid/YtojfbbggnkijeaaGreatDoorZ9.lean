import Derived.Test.YtojfbbggnkijeaaGreatDoorZ8
import Derived.Lib.SliceRun
import Derived.Laws.IdiomCopy
import Derived.Lib.AppendZeros
set_option linter.all false
noncomputable section
namespace Go.EV
open Go Go.RowKit Go.RR
variable {P:Program} {tys:Tab TI} {K:Nat->Prop} {ρ:Rn} {w:World} {v:Value} {i:Nat}
theorem run_lkp (hT:TyOk P tys){w0:World}{H:T AO}(hw:RelH w0 K ρ H w){t:TypeId}{x k:Value}{ok:Bool}(h:lkp tys H t x k ok=some v):
  (Instr.lookup t (ren ρ x) (ren ρ k) ok).run P w=.ok (ren ρ v) w:=by
 unfold lkp at h;split at h
 ·rename_i r;split at h
  ·rename_i wr es kt et _ _ _ _ hg hgt;have hu:P.underlying t=_:=(hT t _ hgt).1.d;split at h
   ·rename_i ie hge;obtain⟨hk,h⟩:=cnd h;obtain⟨es',c,hb,he⟩:=hw.obj r _ hg;obtain⟨hck,hpk,d,hd⟩:=keyOk_run hT hk es'.isEmpty w;have hgo:(getObj (ρ.f r)).run P w=.ok (.map es' c) w:=by simp[getObj,Sem.run,hb]
    split at h
    ·rename_i i u hf;obtain⟨hb2,h⟩:=cnd h;cases h;have:=run_fnd hT hd w he hf;rw[ren_plain hpk];have e2:ren2 ρ u=ren ρ u:=(ren_base2 hb2).symm;cases ok<;>simp[Instr.lookup,run_und hu,hgo,hck,this,e2,show ren2 ρ (.bool true)=.bool true from rfl]
    ·rename_i hf;cases h;have:=run_fnd hT hd w he hf;have hz:=(hT et ie hge).1.zeroV w;rw[ren_plain hpk];have hzp:ren ρ ie.z=ie.z/\ren2 ρ ie.z=ie.z:=by
      have hT1:=(hT et ie hge).1;have hp:=hT1.zp;unfold TI.z
      cases ha:ie.d.agg with
      |true=>
       have:(ie.zero.toArray).map (ren1 ρ)=ie.zero.toArray:=by
        apply Array.toList_inj.1;simp[map_ren1_zero hp]
       exact⟨by simp[this],by show Value.agg _=_;rw[this];rfl⟩
      |false=>
       cases hzl:ie.zero with
       |nil=>exact⟨rfl,rfl⟩
       |cons q l=>
        rw[hzl] at hp;simp only[List.all_cons,Bool.and_eq_true] at hp;obtain⟨⟨p1,p2⟩,_⟩:=hp;have h1:=ren1_plain (ρ:=ρ) p1;show ren ρ q=q/\ren2 ρ q=q
        cases q<;>first|(cases p2;done)|exact⟨h1,h1⟩
     cases ok<;>simp[Instr.lookup,run_und hu,hgo,hck,this,hz.1,hzp.1,hzp.2,show ren2 ρ (.bool false)=.bool false from rfl]
    ·cases h
   ·cases h
  ·cases h
 ·cases h
def ovo (tm:T Value):Option Operand->Option (Option Value)
 |none=>some none
 |some x=>match opv tm x with
  |some v=>some (some v)
  |none=>none
theorem ovo_ok {tm:T Value}{rv:Operand->Value}(hr:Rv ρ tm rv){o:Option Operand}{v:Option Value}(h:ovo tm o=some v):o.map rv=v.map (ren ρ):=by
 unfold ovo at h;split at h
 ·cases h;rfl
 ·rename_i x;split at h
  ·rename_i u hu;cases h;simp[hr _ _ hu]
  ·cases h
def opLs (tys:Tab TI)(tm:T Value)(H:T AO)(op:Op):Option Value:=match op with
 | .load t x=>match opv tm x with|some a=>ld tys H t a|none=>none
 | .lookup t x k ok=>match opv tm x,opv tm k with
  |some a,some b=>lkp tys H t a b ok
  |_,_=>none
 | .slice t x lo hi mx=>match opv tm x,ovo tm lo,ovo tm hi,ovo tm mx with
  |some a,some l,some h,some m=>slc tys H t a l h m
  |_,_,_,_=>none
 |_=>none
def opL (tys:Tab TI)(tm:T Value)(H:T AO)(op:Op):Option Value:=Op.rec (motive:=fun _=>Tab TI->T Value->T AO->Option Value)
 (fun f0 tys tm H=>opLs tys tm H (.move f0))
 (fun f0 tys tm H=>opLs tys tm H (.assign f0))
 (fun f0 f1 f2 tys tm H=>opLs tys tm H (.pick f0 f1 f2))
 (fun f0 tys tm H=>opLs tys tm H (.alloc f0))
 (fun f0 f1 tys tm H=>opLs tys tm H (.box f0 f1))
 (fun f0 f1 tys tm H=>opLs tys tm H (.build f0 f1))
 (fun f0 f1 f2 tys tm H=>opLs tys tm H (.buildSlice f0 f1 f2))
 (fun f0 f1 f2 f3 tys tm H=>opLs tys tm H (.insert f0 f1 f2 f3))
 (fun t x tys tm H=>match opv tm x with|some a=>ld tys H t a|none=>none)
 (fun f0 f1 f2 tys tm H=>opLs tys tm H (.store f0 f1 f2))
 (fun f0 tys tm H=>opLs tys tm H (.ready f0))
 (fun f0 tys tm H=>opLs tys tm H (.waits f0))
 (fun f0 tys tm H=>opLs tys tm H (.nilCheck f0))
 (fun f0 f1 f2 f3 f4 tys tm H=>opLs tys tm H (.binOp f0 f1 f2 f3 f4))
 (fun f0 f1 f2 tys tm H=>opLs tys tm H (.unOp f0 f1 f2))
 (fun f0 f1 f2 tys tm H=>opLs tys tm H (.convert f0 f1 f2))
 (fun f0 f1 tys tm H=>opLs tys tm H (.sliceToArrayPointer f0 f1))
 (fun f0 f1 tys tm H=>opLs tys tm H (.makeInterface f0 f1))
 (fun f0 f1 f2 tys tm H=>opLs tys tm H (.makeFunc f0 f1 f2))
 (fun f0 f1 tys tm H=>opLs tys tm H (.makeMap f0 f1))
 (fun f0 f1 tys tm H=>opLs tys tm H (.makeChan f0 f1))
 (fun f0 f1 f2 tys tm H=>opLs tys tm H (.makeSlice f0 f1 f2))
 (fun t x lo hi mx tys tm H=>match opv tm x,ovo tm lo,ovo tm hi,ovo tm mx with
  |some a,some l,some h,some m=>slc tys H t a l h m
  |_,_,_,_=>none)
 (fun f0 f1 f2 tys tm H=>opLs tys tm H (.fieldAddr f0 f1 f2))
 (fun f0 f1 f2 tys tm H=>opLs tys tm H (.field f0 f1 f2))
 (fun f0 f1 f2 tys tm H=>opLs tys tm H (.indexAddr f0 f1 f2))
 (fun f0 f1 f2 tys tm H=>opLs tys tm H (.index f0 f1 f2))
 (fun f0 f1 f2 f3 tys tm H=>opLs tys tm H (.lookup f0 f1 f2 f3))
 (fun f0 f1 f2 f3 tys tm H=>opLs tys tm H (.mapUpdate f0 f1 f2 f3))
 (fun f0 f1 f2 tys tm H=>opLs tys tm H (.mapEntry f0 f1 f2))
 (fun f0 f1 f2 f3 tys tm H=>opLs tys tm H (.entryStore f0 f1 f2 f3))
 (fun f0 f1 tys tm H=>opLs tys tm H (.range f0 f1))
 (fun f0 f1 tys tm H=>opLs tys tm H (.next f0 f1))
 (fun f0 tys tm H=>opLs tys tm H (.entry f0))
 (fun f0 f1 f2 f3 tys tm H=>opLs tys tm H (.typeAssert f0 f1 f2 f3))
 (fun f0 f1 tys tm H=>opLs tys tm H (.extract f0 f1))
 (fun f0 tys tm H=>opLs tys tm H (.call f0))
 (fun f0 tys tm H=>opLs tys tm H (.go f0))
 (fun f0 tys tm H=>opLs tys tm H (.defer f0))
 (fun f0 tys tm H=>opLs tys tm H (.panic f0))
 (fun f0 f1 tys tm H=>opLs tys tm H (.send f0 f1))
 (fun f0 f1 f2 tys tm H=>opLs tys tm H (.recv f0 f1 f2))
 (fun f0 f1 tys tm H=>opLs tys tm H (.select f0 f1))
 op tys tm H
theorem opL_eq {tm:T Value}{H:T AO}{op:Op}:opL tys tm H op=opLs tys tm H op:=by cases op<;>rfl
theorem run_opL (hT:TyOk P tys){w0:World}{H:T AO}(hw:RelH w0 K ρ H w){tm:T Value}{rv:Operand->Value}(hr:Rv ρ tm rv){o:Oper}(h:opL tys tm H o.op=some v):(execOp rv o).run P w=.ok (.value (ren ρ v)) w:=by
 rw[opL_eq] at h;unfold opLs at h;split at h
 all_goals (rename_i ho;simp only[execOp,ho])
 ·split at h
  ·rename_i h1;rw[hr _ _ h1,Sem.run_bind,run_ld hT hw h];rfl
  ·cases h
 ·split at h
  ·rename_i h1 h2;rw[hr _ _ h1,hr _ _ h2,Sem.run_bind,run_lkp hT hw h];rfl
  ·cases h
 ·split at h
  ·rename_i h1 h2 h3 h4;rw[hr _ _ h1,ovo_ok hr h2,ovo_ok hr h3,ovo_ok hr h4,Sem.run_bind,run_slc hT hw h];rfl
  ·cases h
 ·cases h
def rep (z:List Value):Nat->List Value
 |0=>[]
 |n+1=>lA z (rep z n)
theorem rep_len (z:List Value):∀n,(rep z n).length=n*z.length
 |0=>by simp[rep]
 |n+1=>by rw[rep,lA_eq,List.length_append,rep_len z n,Nat.add_mul,Nat.one_mul,Nat.add_comm]
theorem rep_get (z:List Value)(hz:0<z.length):∀(n i:Nat),i<n*z.length->(rep z n)[i]?=z[i%z.length]?
 |0,i,h=>by simp at h
 |n+1,i,h=>by
  rw[rep,lA_eq];by_cases hi:i<z.length
  ·rw[List.getElem?_append_left hi,Nat.mod_eq_of_lt hi]
  ·rw[List.getElem?_append_right (by omega),rep_get z hz n _ (by rw[Nat.add_mul,Nat.one_mul] at h;omega)];rw[<- Nat.mod_eq_sub_mod (by omega)]
theorem rep_array (z:List Value)(hz:0<z.length)(n:Nat):(Array.range (n*z.length)).map (fun i=>z.toArray[i%z.toArray.size]!)=(rep z n).toArray:=by
 apply Array.toList_inj.1;apply List.ext_getElem?;intro i;simp only[Array.toList_map,Array.toList_range,List.getElem?_map];by_cases hi:i<n*z.length
 ·have hm:=Nat.mod_lt i hz;rw[List.getElem?_range hi,rep_get z hz n i hi];simp[hm]
 ·rw[List.getElem?_eq_none (by simpa using hi),List.getElem?_eq_none (by rw[rep_len];omega)];rfl
def acap:AO->Nat
 | .row _ _ cs (some sz)=>cs.length/sz
 |_=>0
def opAs (tys:Tab TI)(tm:T Value)(id:Nat)(op:Op):Option (Value×AO):=match op with
 | .box e x=>match opv tm x with
  |some v=>bif base2 v&&v.cells.toList.all base1 then some (.pointer (some ⟨id,0,none⟩),.row true e v.cells.toList none) else none
  |none=>none
 | .alloc e=>match tys.get e with
  |some i=>some (.pointer (some ⟨id,0,none⟩),.row true e i.zero none)
  |none=>none
 | .buildSlice t len parts=>match tys.get t with
  |some ⟨.slice e,_,_,_,_⟩=>match tys.get e,evpL tm parts.toList with
   |some i,some l=>bif !Nat.beq i.size 0&&Nat.ble (len*i.size) 16777216&&Nat.ble len 16777216&&l.all (fun p=>p.2.cells.toList.all base1) then (match fillL (fun k=>some (k*i.size,i.size)) (rep i.zero len) l with
    |some cs=>some (.slice (some ⟨id,0,none⟩) len len,.row true e cs (some i.size))
    |none=>none) else none
   |_,_=>none
  |_=>none
 | .makeSlice t l c=>match tys.get t,opv tm l,opv tm c with
  |some ⟨.slice e,_,_,_,_⟩,some (.int _ n),some (.int _ m)=>match tys.get e with
   | some i=>bif !Nat.beq i.size 0&&ile (.ofNat 0) n&&ile n m&&Nat.ble (i.bytes*toN m) 1073741824&&Nat.ble (toN m) 1073741824 then
     some (.slice (some ⟨id,0,none⟩) (toN n) (toN m),.row true e (rep i.zero (toN m)) (some i.size)) else none
   |none=>none
  |_,_,_=>none
 | .makeMap _ none=>some (.map (some id),.mp true [])
 |_=>none
def opA (tys:Tab TI)(tm:T Value)(id:Nat)(op:Op):Option (Value×AO):=Op.rec (motive:=fun _=>Tab TI->T Value->Nat->Option (Value×AO))
 (fun f0 tys tm id=>opAs tys tm id (.move f0))
 (fun f0 tys tm id=>opAs tys tm id (.assign f0))
 (fun f0 f1 f2 tys tm id=>opAs tys tm id (.pick f0 f1 f2))
 (fun e tys tm id=>match tys.get e with
  |some i=>some (.pointer (some ⟨id,0,none⟩),.row true e i.zero none)
  |none=>none)
 (fun e x tys tm id=>match opv tm x with
  |some v=>bif base2 v&&v.cells.toList.all base1 then some (.pointer (some ⟨id,0,none⟩),.row true e v.cells.toList none) else none
  |none=>none)
 (fun f0 f1 tys tm id=>opAs tys tm id (.build f0 f1))
 (fun f0 f1 f2 tys tm id=>opAs tys tm id (.buildSlice f0 f1 f2))
 (fun f0 f1 f2 f3 tys tm id=>opAs tys tm id (.insert f0 f1 f2 f3))
 (fun f0 f1 tys tm id=>opAs tys tm id (.load f0 f1))
 (fun f0 f1 f2 tys tm id=>opAs tys tm id (.store f0 f1 f2))
 (fun f0 tys tm id=>opAs tys tm id (.ready f0))
 (fun f0 tys tm id=>opAs tys tm id (.waits f0))
 (fun f0 tys tm id=>opAs tys tm id (.nilCheck f0))
 (fun f0 f1 f2 f3 f4 tys tm id=>opAs tys tm id (.binOp f0 f1 f2 f3 f4))
 (fun f0 f1 f2 tys tm id=>opAs tys tm id (.unOp f0 f1 f2))
 (fun f0 f1 f2 tys tm id=>opAs tys tm id (.convert f0 f1 f2))
 (fun f0 f1 tys tm id=>opAs tys tm id (.sliceToArrayPointer f0 f1))
 (fun f0 f1 tys tm id=>opAs tys tm id (.makeInterface f0 f1))
 (fun f0 f1 f2 tys tm id=>opAs tys tm id (.makeFunc f0 f1 f2))
 (fun f0 f1 tys tm id=>opAs tys tm id (.makeMap f0 f1))
 (fun f0 f1 tys tm id=>opAs tys tm id (.makeChan f0 f1))
 (fun f0 f1 f2 tys tm id=>opAs tys tm id (.makeSlice f0 f1 f2))
 (fun f0 f1 f2 f3 f4 tys tm id=>opAs tys tm id (.slice f0 f1 f2 f3 f4))
 (fun f0 f1 f2 tys tm id=>opAs tys tm id (.fieldAddr f0 f1 f2))
 (fun f0 f1 f2 tys tm id=>opAs tys tm id (.field f0 f1 f2))
 (fun f0 f1 f2 tys tm id=>opAs tys tm id (.indexAddr f0 f1 f2))
 (fun f0 f1 f2 tys tm id=>opAs tys tm id (.index f0 f1 f2))
 (fun f0 f1 f2 f3 tys tm id=>opAs tys tm id (.lookup f0 f1 f2 f3))
 (fun f0 f1 f2 f3 tys tm id=>opAs tys tm id (.mapUpdate f0 f1 f2 f3))
 (fun f0 f1 f2 tys tm id=>opAs tys tm id (.mapEntry f0 f1 f2))
 (fun f0 f1 f2 f3 tys tm id=>opAs tys tm id (.entryStore f0 f1 f2 f3))
 (fun f0 f1 tys tm id=>opAs tys tm id (.range f0 f1))
 (fun f0 f1 tys tm id=>opAs tys tm id (.next f0 f1))
 (fun f0 tys tm id=>opAs tys tm id (.entry f0))
 (fun f0 f1 f2 f3 tys tm id=>opAs tys tm id (.typeAssert f0 f1 f2 f3))
 (fun f0 f1 tys tm id=>opAs tys tm id (.extract f0 f1))
 (fun f0 tys tm id=>opAs tys tm id (.call f0))
 (fun f0 tys tm id=>opAs tys tm id (.go f0))
 (fun f0 tys tm id=>opAs tys tm id (.defer f0))
 (fun f0 tys tm id=>opAs tys tm id (.panic f0))
 (fun f0 f1 tys tm id=>opAs tys tm id (.send f0 f1))
 (fun f0 f1 f2 tys tm id=>opAs tys tm id (.recv f0 f1 f2))
 (fun f0 f1 tys tm id=>opAs tys tm id (.select f0 f1))
 op tys tm id
theorem opA_eq {tm:T Value}{id:Nat}{op:Op}:opA tys tm id op=opAs tys tm id op:=by cases op<;>rfl
def With (K:Nat->Prop)(i:Nat):Nat->Prop:=fun b=>K b\/b=i
theorem bv_ptr {o:Nat}(h:K i):BV K (.pointer (some ⟨i,o,none⟩)):=fun ρ ρ' ha=>by simp[(ha i h).1]
theorem bv_slice {o l c:Nat}(h:K i):BV K (.slice (some ⟨i,o,none⟩) l c):=fun ρ ρ' ha=>by simp[(ha i h).1,rcap,(ha i h).2]
theorem bv_map (h:K i):BV K (.map (some i)):=fun ρ ρ' ha=>by simp[(ha i h).1]
theorem bv_plain (h:plain v=true):BV K v:=fun ρ ρ' _=>by rw[ren_plain h,ren_plain h]
theorem bc_zero {z:List Value}(h:z.all (fun v=>plain1 v&&v.oneCell')=true):∀v∈z,BC K v:=fun v hv=>by
 have:=List.all_eq_true.1 h v hv;rw[Bool.and_eq_true] at this;obtain⟨h1,h2⟩:=this;refine⟨?_,fun ρ ρ' _=>?_⟩
 ·cases v<;>first|rfl|(cases h2;done)|exact h1
 ·have hb:base1 v=true:=by cases v<;>first|rfl|(cases h2;done)|exact h1
  rw[ren_base1 hb,ren_base1 hb,ren1_plain h1,ren1_plain h1]
theorem bc_cells (hv:BV K v)(hb:base2 v=true)(h1:v.cells.toList.all base1=true):∀c∈v.cells.toList,BC K c:=fun c hc=>by
 refine⟨List.all_eq_true.1 h1 c hc,fun ρ ρ' ha=>?_⟩;have e:=congrArg (fun x:Value=>x.cells.toList) (hv ρ ρ' ha);simp only[cells_ren hb] at e;have hc1:=List.all_eq_true.1 h1 c hc;rw[ren_base1 hc1,ren_base1 hc1];exact List.map_inj_left.1 e c hc
theorem fillL_bc {K:Nat->Prop}{places:Nat->Option (Nat×Nat)}:∀{parts:List (Nat×Value)} {cells l:List Value},fillL places cells parts=some l->(∀c∈cells,BC K c)->(∀p∈parts,∀c∈p.2.cells.toList,BC K c)->∀c∈l,BC K c
 |[],cells,l,h,hc,_=>by cases h;exact hc
 |(i,v)::r,cells,l,h,hc,hp=>by
  unfold fillL at h;simp only[lD_eq,lT_eq,lL_eq,lB_eq,lA_eq] at h
  cases hq:places i with
  |none=>rw[hq] at h;cases h
  |some q=>
   rw[hq] at h;obtain⟨_,h⟩:=cnd h;refine fillL_bc h (fun c hcc=>?_) fun p hpp=>hp p (List.mem_cons_of_mem _ hpp)
   rcases List.mem_append.1 hcc with h1|h1
   ·exact hc c (List.mem_of_mem_take h1)
   ·rcases List.mem_append.1 h1 with h1|h1
    ·exact hp (i,v) (by simp) c h1
    ·exact hc c (List.mem_of_mem_drop h1)
theorem fillL_len {places:Nat->Option (Nat×Nat)}:∀{parts:List (Nat×Value)} {cells l:List Value},fillL places cells parts=some l->l.length=cells.length
 |[],cells,l,h=>by cases h;rfl
 |(i,v)::r,cells,l,h=>by
  unfold fillL at h;simp only[lD_eq,lT_eq,lL_eq,lB_eq,lA_eq] at h
  cases hq:places i with
  |none=>rw[hq] at h;cases h
  |some q=>
   obtain⟨o,z⟩:=q;rw[hq] at h;obtain⟨hc,h⟩:=cnd h;rw[Bool.and_eq_true,nbeq,decide_eq_true_eq,Nat.ble_eq] at hc;rw[fillL_len h];simp only[List.length_append,List.length_take,List.length_drop];omega
def BT (K:Nat->Prop)(tm:T Value):Prop:=∀t v,tm.get t=some v->BV K v
theorem BT.opv {K:Nat->Prop}{tm:T Value}(h:BT K tm)(hg:∀g,g<16->K g){x:Operand}{v:Value}(hx:opv tm x=some v):BV K v:=by
 cases x with
 |tmp t=>exact h t v hx
 |const u=>
  obtain⟨h1,h2⟩:=cnd (show (bif plain u then some u else none)=some v from hx);cases h2;exact bv_plain h1
 |global g=>
  obtain⟨h1,h2⟩:=cnd (show (bif Nat.blt g 16 then some (Value.pointer (some ⟨g,0,none⟩)) else none)=some v from hx);cases h2;exact bv_ptr (hg g (by simpa using h1))
 |func f=>cases hx;exact bv_plain rfl
theorem BT.evp {K:Nat->Prop}{tm:T Value}(h:BT K tm)(hg:∀g,g<16->K g):∀{l:List (Nat×Operand)} {vs:List (Nat×Value)},evpL tm l=some vs->∀p∈vs,BV K p.2
 |[],vs,e=>by cases e;simp
 |(i,x)::r,vs,e=>by
  unfold evpL at e
  cases hx:EV.opv tm x with
  |none=>rw[hx] at e;cases e
  |some v=>
   rw[hx] at e;obtain⟨_,e⟩:=cnd e
   cases hr:evpL tm r with
   |none=>rw[hr] at e;cases e
   |some l=>
    rw[hr] at e;cases e;intro p hp
    rcases List.mem_cons.1 hp with rfl|hp
    ·exact h.opv hg hx
    ·exact h.evp hg hr p hp
theorem rep_zero {ρ:Rn}{z:List Value}(h:z.all (fun v=>plain1 v&&v.oneCell')=true):∀n,(rep z n).map (ren1 ρ)=rep z n
 |0=>rfl
 |n+1=>by rw[rep,lA_eq,List.map_append,map_ren1_zero h,rep_zero h n]
theorem rep_mem {z:List Value}:∀(n:Nat) (c:Value),c∈rep z n->c∈z
 |0,c,h=>by simp[rep] at h
 |n+1,c,h=>by rw[rep,lA_eq] at h;exact (List.mem_append.1 h).elim id (rep_mem n c)
theorem madeCells_rep {z:List Value}(hz:0<z.length)(n:Nat):madeCells z.toArray (n*z.length)=(rep z n).toArray:=by
 rw[<- rep_array z hz n];rfl
theorem run_opA (hT:TyOk P tys){ρ':Rn}{tm:T Value}{rv:Operand->Value}(hr:Rv ρ tm rv)(hb:BT K tm)(hg:∀g,g<16->K g){o:Oper}{id:Nat}{ob:AO}(h:opA tys tm id o.op=some (v,ob))
  (ha:Agr K ρ ρ') (hf:ρ'.f id=w.heap.size) (hc:ρ'.c id=acap ob):
  ∃x,(execOp rv o).run P w=.ok (.value (ren ρ' v)) (w.alloc x)/\ObjR ρ' id ob (some x)/\BV (With K id) v/\OB K ob/\ob.wr=true:=by
 rw[opA_eq] at h;unfold opAs at h;split at h
 ·rename_i e x ho;split at h
  ·rename_i u hu;obtain⟨hb2,h⟩:=cnd h;cases h;rw[Bool.and_eq_true] at hb2;have hbu:=hb.opv hg hu;refine⟨.cells (ren ρ u).cells e,?_,⟨[],?_,rfl⟩,bv_ptr (.inr rfl),bc_cells hbu hb2.1 hb2.2,rfl⟩
   ·simp[execOp,ho,hr _ _ hu,Instr.box,newVar,newRow,hf]
   ·rw[List.append_nil,<-cells_ren hb2.1,<-hbu ρ ρ' ha]
  ·cases h
 ·rename_i e ho;split at h
  ·rename_i i hgi;cases h;have hT1:=(hT e i hgi).1;obtain⟨hz,hzc⟩:=hT1.zeroV w;refine⟨.cells i.z.cells e,?_,⟨[],?_,rfl⟩,bv_ptr (.inr rfl),bc_zero hT1.zp,rfl⟩
   ·simp[execOp,ho,Instr.alloc,hz,newVar,newRow,hf]
   ·rw[List.append_nil,map_ren1_zero hT1.zp,<-hzc]
  ·cases h
 ·rename_i t len parts ho;split at h
  ·rename_i e _ _ _ _ hgt;split at h
   ·rename_i i l hge hl;obtain⟨hcnd,h⟩:=cnd h;split at h
    ·rename_i cs hfl;cases h;simp only[Bool.and_eq_true,Bool.not_eq_true',nbeq,decide_eq_false_iff_not,Nat.ble_eq] at hcnd;obtain⟨⟨⟨c1,c2⟩,c3⟩,c4⟩:=hcnd;have hT1:=(hT e i hge).1;have hu:P.underlying t=_:=(hT t _ hgt).1.d;obtain⟨hz,hzc⟩:=hT1.zeroV w;obtain⟨e1,e2⟩:=evpL_ok hr hl;have e3:(parts.map fun (x:Nat×Operand)=>(x.1,rv x.2))=(l.map fun p=>(p.1,ren ρ p.2)).toArray:=by
      apply Array.toList_inj.1;rw[Array.toList_map,e1]
     have hzl:i.zero.length=i.size:=hT1.zl;have hf2:=fillL_ren (ρ:=ρ) e2 hfl;have hrz:(rep i.zero len).map (ren1 ρ)=rep i.zero len:=rep_zero hT1.zp len;rw[hrz] at hf2;have hrl:=rep_len i.zero len;rw[hzl] at hrl;have hcl:cs.length=len*i.size:=by rw[fillL_len hfl,hrl]
     have hbcs:∀c∈cs,BC K c:=fillL_bc hfl (fun c hc=>bc_zero hT1.zp c (rep_mem len c hc)) fun p hp=>bc_cells (hb.evp hg hl p hp) (e2 p hp) (List.all_eq_true.1 c4 p hp);refine⟨.cells (cs.map (ren1 ρ)).toArray e,?_,⟨[],by rw[List.append_nil,BC.list hbcs ha],?_⟩,bv_slice (.inr rfl),hbcs,rfl⟩
     ·have hs:=hT1.size w;have hcap:rcap ρ' id len=len:=by unfold rcap;rw[if_pos (by omega)]
      have hsz:0<i.zero.length:=by omega
      have hfe:∀A:Array Value,A.toList=rep i.zero len->Instr.fill (fun k=>some (k*i.size,i.size)) A (l.map fun p=>(p.1,ren ρ p.2))=some (cs.map (ren1 ρ)).toArray:=fun A hA=>fill_eq (by rw[hA];exact hf2);have hng:¬ (2 ^ 24<len*i.size):=by omega
      simp only[execOp,ho,e3,Instr.buildSlice,Sem.run_bind,run_und hu,Result.andThen_ok,hs];rw[if_neg hng];by_cases h0:len*i.size=0
      ·rw[if_pos h0]
       have hl0:len=0:=by rcases Nat.mul_eq_zero.1 h0 with h|h<;>omega
       have hA:=hfe ((Array.range (len*i.size)).map (fun _=>default)) (by rw[h0,hl0];simp[rep]);simp[hA,newRow,hf,hcap]
      ·rw[if_neg h0];have hA:=hfe ((Array.range (len*i.size)).map (fun k=>i.z.cells[k%i.z.cells.size]!)) (by
        have:i.z.cells=i.zero.toArray:=by rw[<- hzc]
        rw[this,<-hzl,rep_array i.zero hsz len])
       simp only[Sem.run_bind,hz,Result.andThen_ok,Sem.run_pure,hA];simp[newRow,hf,hcap]
     ·simp only[acap] at hc;rw[hc,hcl];have:len*i.size/i.size=len:=Nat.mul_div_cancel _ (by omega);rw[this];exact⟨by simp,by omega,by unfold maxLen;omega⟩
    ·cases h
   ·cases h
  ·cases h
 ·rename_i t l c ho;split at h
  ·rename_i e _ _ _ _ k1 n k2 m hgt hl hm;split at h
   ·rename_i i hge;obtain⟨hcnd,h⟩:=cnd h;cases h;simp only[Bool.and_eq_true,Bool.not_eq_true',nbeq,decide_eq_false_iff_not,Nat.ble_eq,ile_eq,decide_eq_true_eq,toN_eq] at hcnd;obtain⟨⟨⟨⟨c1,c2⟩,c3⟩,c4⟩,c5⟩:=hcnd;have c2:0<=n:=c2;have hT1:=(hT e i hge).1;have hu:P.underlying t=_:=(hT t _ hgt).1.d;obtain⟨j,j1,j2,j3,j4,j5⟩:=hT1.info;have hmm:((m.toNat:Nat):Int)=m:=by omega
    have hby:((j.bytes:Nat):Int)*m<=281474976710656:=by
     rw[<- hmm,j3];have h9:i.bytes*m.toNat<=281474976710656:=Nat.le_trans c4 (by omega);rw[<- Int.natCast_mul];exact Int.ofNat_le.2 h9
    have hrun:=run_make (P:=P) w t e j i.z hu j1 j4 k1 k2 n m c2 c3 hby (by omega);have hzl:i.zero.length=i.size:=hT1.zl;have hcl:=rep_len i.zero m.toNat;have hbz:∀c∈rep i.zero m.toNat,BC K c:=fun c hc=>bc_zero hT1.zp c (rep_mem _ c hc);have hrz:(rep i.zero m.toNat).map (ren1 ρ')=rep i.zero m.toNat:=rep_zero hT1.zp _;have hmc:madeCells i.z.cells (m.toNat*j.size)=(rep i.zero m.toNat).toArray:=by
     have:i.z.cells=i.zero.toArray:=by rw[<- j5]
     rw[this,j2,<-hzl];exact madeCells_rep (by omega) _
    rw[hmc] at hrun;have hcap:rcap ρ' id m.toNat=m.toNat:=by unfold rcap;rw[if_pos (by omega)]
    simp only[toN_eq] at hc ⊢;refine⟨_,?_,⟨[],by rw[List.append_nil,hrz],?_⟩,bv_slice (.inr rfl),hbz,rfl⟩
    ·simp only[execOp,ho,hr _ _ hl,hr _ _ hm,ren_int,Sem.run_bind,hrun,Result.andThen_ok,ren_slice,hf,hcap];rfl
    ·simp only[acap] at hc;rw[hc,hcl,hzl];have:m.toNat*i.size/i.size=m.toNat:=Nat.mul_div_cancel _ (by omega);rw[this];exact⟨by simp,by omega,by unfold maxLen;omega⟩
   ·cases h
  ·cases h
 ·rename_i t ho;cases h;refine⟨.map #[] 0,?_,⟨#[],0,rfl,rfl⟩,bv_map (.inr rfl),fun p hp=>by simp at hp,rfl⟩;simp[execOp,ho,Instr.makeMap,hf,newObj,Sem.run]
 ·cases h
end Go.EV
noncomputable section
namespace Go.EV
open Go Go.RowKit Go.RR
structure Frm (ρ:Rn)(H:T AO)(w w':World):Prop where
 size:w.heap.size<=w'.heap.size
 kept:∀k,k<w.heap.size->(∀i o,H.get i=some o->o.wr=true->ρ.f i≠k)->w'.heap[k]?=w.heap[k]?
def Im (ρ:Rn)(H:T AO)(w:World)(ρ':Rn)(H':T AO):Prop:=∀i o,H'.get i=some o->w.heap.size<=ρ'.f i\/∃j oj,H.get j=some oj/\(o.wr=true->oj.wr=true)/\ρ'.f i=ρ.f j
def Upto (K:Nat->Prop)(a b:Nat):Nat->Prop:=fun x=>K x\/a<=x/\x<b
section
variable {w0:World} {K:Nat->Prop} {ρ:Rn} {H:T AO} {w w':World}
theorem Frm.refl (ρ:Rn)(H:T AO)(w:World):Frm ρ H w w:=⟨Nat.le_refl _,fun _ _ _=>rfl⟩
theorem Frm.one {i:Nat}{o:AO}(hg:H.get i=some o)(hw:o.wr=true)(hu:Upd (fun k=>k=ρ.f i) w w'):Frm ρ H w w':=
 ⟨hu.size,fun k hk hn=>hu.block k hk fun e=>hn i o hg hw e.symm⟩
theorem Frm.zero (hu:Upd (fun _=>False) w w'):Frm ρ H w w':=⟨hu.size,fun k hk _=>hu.block k hk fun h=>h⟩
theorem RelH.write (h:RelH w0 K ρ H w){i:Nat}{o o':AO}(hg:H.get i=some o)(hw:o.wr=true)(hu:Upd (fun k=>k=ρ.f i) w w')(ho:ObjR ρ i o' (w'.heap[ρ.f i]?))(hb:OB K o'):RelH w0 K ρ (H.put i o') w':=by
 have hd:RelH w0 K ρ (H.del i) w':=by
  have h1:=h.del i;have key:∀j oj,(H.del i).get j=some oj->j≠i/\H.get j=some oj:=fun j oj hj=>by
   rw[T.get_del] at hj;split at hj
   ·cases hj
   ·exact⟨‹_›,hj⟩
  refine⟨h.upd.trans hu (fun _ _ h=>h) (fun k hk e=>by have:=h.new i o hg hw;omega),h1.kn,fun j oj hj=>?_,h1.bnd,h1.inj,h1.new⟩;obtain⟨hne,hj2⟩:=key j oj hj;have hnf:ρ.f j≠ρ.f i:=(h.inj i j o oj hg hj2 hw (Ne.symm hne)).symm;rw[hu.block _ (h.lt hj2) hnf];exact h.obj j oj hj2
 have e:∀j,((H.del i).put i o').get j=(H.put i o').get j:=fun j=>by rw[T.get_put,T.get_put,T.get_del];split<;>rfl
 have:=hd.add (i:=i) (o:=o') (h.kn i o hg) (fun j oj hj hne=>by
  rw[T.get_del,if_neg hne] at hj;exact (h.inj i j o oj hg hj hw (Ne.symm hne)).symm) ho hb (fun _=>h.new i o hg hw)
 exact this.less fun j oj hj=>by rw[e];exact hj
end
variable {l:List Value}
theorem setCells_row {b:Nat}{e:TypeId}:∀(l:List Value) (off:Nat) (vs:List Value) (w:World),Row w b e vs->off+l.length<=vs.length->Row (w.setCells b off l) b e (vs.take off++(l++vs.drop (off+l.length)))
 |[],off,vs,w,h,_=>by simpa[World.setCells] using h
 |v::l,off,vs,w,h,hl=>by
  simp only[List.length_cons] at hl;have:=setCells_row (b:=b) (e:=e) l (off+1) (vs.set off v) (w.setCell ⟨b,off,none⟩ v) (h.set off v) (by rw[List.length_set];omega);rw[World.setCells];have h1:(vs.set off v).take (off+1)=vs.take off++[v]:=by
   rw[List.take_add_one,List.getElem?_set_self (by omega),List.take_set_of_le (by omega)];rfl
  have h2:(vs.set off v).drop (off+1+l.length)=vs.drop (off+(v::l).length):=by
   rw[List.drop_set_of_lt (by omega)];congr 1;simp only[List.length_cons];omega
  rw[h1,h2] at this;simpa using this
theorem setCells_upd {b:Nat}:∀(l:List Value) (off:Nat) (w:World),Upd (fun k=>k=b) w (w.setCells b off l)
 |[],_,w=>Upd.refl _ w
 |v::l,off,w=>by
  rw[World.setCells];exact ((Upd.refl (fun k=>k=b) w).setCell (p:=⟨b,off,none⟩) (fun _=>rfl) v).trans (setCells_upd l (off+1) _) (fun _ _ h=>h) (fun _ _ h=>h)
def st0 (tys:Tab TI)(H:T AO)(t:TypeId)(x v:Value):Option (T AO):=match x with
 | .pointer (some a)=>match H.get a.block,tys.get t with
  |some (.row true e cs tl),some i=>
   bif isN a.spot&&base2 v&&v.cells.toList.all base1&&Nat.beq (lL v.cells.toList) i.size&&lB (a.off+i.size) cs then
    some (H.put a.block (.row true e (lA (lT a.off cs) (lA v.cells.toList (lD (a.off+i.size) cs))) tl)) else none
  |_,_=>none
 |_=>none
theorem row_split {ρ:Rn}{cs rest:List Value}{off n:Nat}(h:off+n<=cs.length):(cs.map (ren1 ρ)++rest).take off++(l.map (ren1 ρ)++(cs.map (ren1 ρ)++rest).drop (off+n))=(cs.take off++(l++cs.drop (off+n))).map (ren1 ρ)++rest:=by
 rw[List.take_append_of_le_length (by simpa using (by omega:off<=cs.length)),List.drop_append_of_le_length (by simpa using h)];simp[List.map_take,List.map_drop]
theorem bc_mem {K:Nat->Prop}{cs:List Value}{a b:Nat}(h1:∀c∈cs,BC K c)(h2:∀c∈l,BC K c):∀c∈cs.take a++(l++cs.drop b),BC K c:=fun c hc=>by
 rcases List.mem_append.1 hc with h|h
 ·exact h1 c (List.mem_of_mem_take h)
 ·rcases List.mem_append.1 h with h|h
  ·exact h2 c h
  ·exact h1 c (List.mem_of_mem_drop h)
section
variable {P:Program} {tys:Tab TI} {w0:World} {K:Nat->Prop} {ρ:Rn} {H:T AO} {w:World}
variable {t:TypeId} {H':T AO}
theorem RelH.cells (h:RelH w0 K ρ H w){b:Nat}{e:TypeId}{cs:List Value}{tl:Option Nat}{off:Nat}(hg:H.get b=some (.row true e cs tl))(hl:∀c∈l,BC K c)(hle:off+l.length<=cs.length):
  RelH w0 K ρ (H.put b (.row true e (cs.take off++(l++cs.drop (off+l.length))) tl)) (w.setCells (ρ.f b) off (l.map (ren1 ρ)))/\Frm ρ H w (w.setCells (ρ.f b) off (l.map (ren1 ρ)))/\
  (∀j,j<l.length->(w.cell? ⟨ρ.f b,off+j,none⟩).isSome=true)/\(∀j,j<l.length->w.frozen? ⟨ρ.f b,off+j,none⟩=false):=by
 obtain⟨rest,hr,ht⟩:=h.obj b _ hg;have hrow:Row w (ρ.f b) e (cs.map (ren1 ρ)++rest):=hr;have h2:=setCells_row (l.map (ren1 ρ)) off _ w hrow (by simp;omega);rw[List.length_map,row_split hle] at h2;have hu:=setCells_upd (b:=ρ.f b) (l.map (ren1 ρ)) off w;refine⟨h.write hg rfl hu ⟨rest,h2,?_⟩ (bc_mem (h.bnd b _ hg) hl),.one hg rfl hu,fun j hj=>?_,fun j hj=>hrow.free _⟩
 ·have e1:(cs.take off++(l++cs.drop (off+l.length))).length=cs.length:=by simp;omega
  rw[e1];exact ht
 ·rw[hrow.cell,List.getElem?_append_left (by simp;omega)];simp;omega
theorem run_st0 (hT:TyOk P tys)(hw:RelH w0 K ρ H w){x v:Value}(hv:BV K v)(h:st0 tys H t x v=some H'):
  ∃w',(Instr.storeAt t (ren ρ x) (ren ρ v)).run P w=.ok () w'/\RelH w0 K ρ H' w'/\Frm ρ H w w':=by
 unfold st0 at h;simp only[lD_eq,lT_eq,lL_eq,lB_eq,lA_eq] at h;split at h
 ·rename_i a;split at h
  ·rename_i e cs tl i hg hgt;obtain⟨hc,h⟩:=cnd h;cases h;simp only[Bool.and_eq_true,nbeq,decide_eq_true_eq,Nat.ble_eq] at hc;obtain⟨⟨⟨⟨c1,c2⟩,c3⟩,c4⟩,c5⟩:=hc;have hs:=isN_eq c1;have hbc:=bc_cells hv c2 c3;obtain⟨h1,h2,h3,h4⟩:=hw.cells hg hbc (off:=a.off) (by omega);have hcr:=cells_ren (ρ:=ρ) c2;have hca:(ren ρ v).cells=(v.cells.toList.map (ren1 ρ)).toArray:=by rw[<- hcr]
   refine⟨_,?_,by rw[<- c4];exact h1,h2⟩;have:=run_storeVar_mid (P:=P) w (ρ.f a.block) a.off t (ren ρ v).cells (fun j hj=>?_) ?_ ?_
   ·have e1:(ren ρ v).cells.toList=v.cells.toList.map (ren1 ρ):=hcr;rw[e1] at this;show (Instr.storeAt t (.pointer (some ⟨ρ.f a.block,a.off,a.spot⟩)) (ren ρ v)).run P w=_;rw[hs];exact this
   ·have hj:j<v.cells.toList.length:=by rw[hca] at hj;simpa using hj
    exact⟨h3 j hj,h4 j hj⟩
   ·rw[(hT t i hgt).1.isz,hca];simp;simpa using c4.symm
   ·rw[hca];exact all_oneCell_toArray fun u hu=>by
     obtain⟨c,hc,rfl⟩:=List.mem_map.1 hu;exact ren1_one (hbc c hc).1
  ·cases h
 ·cases h
theorem Im.refl (ρ:Rn)(H:T AO)(w:World):Im ρ H w ρ H:=fun i o h1=>.inr ⟨i,o,h1,id,rfl⟩
def Keys (H H':T AO):Prop:=∀i o,H'.get i=some o->∃oj,H.get i=some oj/\(o.wr=true->oj.wr=true)
theorem Keys.refl (H:T AO):Keys H H:=fun _ o h=>⟨o,h,id⟩
theorem Im.keys (h:Keys H H'):Im ρ H w ρ H':=fun i o h1=>by
 obtain⟨oj,h3,h4⟩:=h i o h1;exact .inr ⟨i,oj,h3,h4,rfl⟩
theorem put_keys {b:Nat}{o o':AO}(hg:H.get b=some o)(hw:o.wr=true):Keys H (H.put b o'):=fun i oi h1=>by
 rw[T.get_put] at h1;split at h1
 ·rename_i e;subst e;exact⟨o,hg,fun _=>hw⟩
 ·exact⟨oi,h1,id⟩
theorem st0_keys {x v:Value}(h:st0 tys H t x v=some H'):Keys H H':=by
 unfold st0 at h;simp only[lD_eq,lT_eq,lL_eq,lB_eq,lA_eq] at h;split at h
 ·split at h
  ·rename_i hg _;obtain⟨_,h⟩:=cnd h;cases h;exact put_keys hg rfl
  ·cases h
 ·cases h
end
end Go.EV
noncomputable section
namespace Go.EV
open Go Go.RowKit Go.RR
variable {tys:Tab TI} {kt:TypeId}
theorem kEq_same {a b:Value}(h:kEq tys kt a b=some true):b=a:=by
 unfold kEq at h
 cases hg:tys.get kt with
 |none=>rw[hg] at h;cases h
 |some i=>
  rw[hg] at h;dsimp only at h;split at h
  ·split at h
   ·obtain⟨hk,h⟩:=cnd h;simp only[Option.some.injEq,intEq_eq,decide_eq_true_eq] at h;rw[ikEq_eq hk,h]
   ·cases h
  ·split at h
   ·simp only[Option.some.injEq,bysEq_eq,decide_eq_true_eq] at h;rw[bytes_eq h]
   ·cases h
  ·obtain⟨_,h⟩:=cnd h;simp only[Option.some.injEq] at h;rw[Array.toList_inj.1 (psEq_eq h)]
  ·cases h
theorem sameBits_key {k:Value}(h:keyOk tys kt k=true):Instr.sameBits 10000 k k=true:=by
 suffices key:∀n,Instr.sameBits (n+1) k k=true from key 9999
 intro n;unfold keyOk at h
 cases hg:tys.get kt with
 |none=>rw[hg] at h;cases h
 |some i=>
  rw[hg] at h;dsimp only at h;split at h
  ·simp[Instr.sameBits]
  ·simp[Instr.sameBits,beq_toListBytes]
  ·rename_i xs;simp only[Bool.and_eq_true] at h;obtain⟨_,c3⟩:=h;have key:∀l:List Value,l.all (isK i.eqc)=true->((l.zip l).all fun x=>Instr.sameBits n x.1 x.2)=true:=by
    intro l
    induction l with
    |nil=>intro _;rfl
    |cons x l ih=>
     intro hl;rw[List.all_cons,Bool.and_eq_true] at hl;rw[List.zip_cons_cons,List.all_cons,ih hl.2,Bool.and_true];have:=hl.1;unfold isK at this;split at this
     ·cases n<;>simp[Instr.sameBits]
     ·cases this
   have:=key xs.toList c3;unfold Instr.sameBits;simp only[beq_self_eq_true,Bool.true_and];exact this
  ·cases h
theorem fnd_some {tys:Tab TI}{kt:TypeId}{k:Value}:∀{es:List (Value×Value)} {j i:Nat} {u:Value},fnd tys kt k es j=some (some (i,u))->∃m,i=j+m/\es[m]?=some (k,u)
 |[],j,i,u,h=>by cases h
 |(q,v)::es,j,i,u,h=>by
  unfold fnd at h;split at h
  ·rename_i hk;cases h;exact⟨0,rfl,by rw[kEq_same hk];rfl⟩
  ·obtain⟨m,h1,h2⟩:=fnd_some h;exact⟨m+1,by omega,by simpa using h2⟩
  ·cases h
def mu (tys:Tab TI)(H:T AO)(t:TypeId)(m k v:Value):Option (T AO):=match m with
 | .map (some r)=>match H.get r,tys.get t with
  |some (.mp true es),some ⟨.map kt _,_,_,_,_⟩=>bif keyOk tys kt k then (match fnd tys kt k es 0 with
   |some (some (i,_))=>some (H.put r (.mp true (es.set i (k,v))))
   |some none=>some (H.put r (.mp true (es++[(k,v)])))
   |none=>none) else none
  |_,_=>none
 |_=>none
section
variable {P:Program} {tys:Tab TI} {w0:World} {K:Nat->Prop} {ρ:Rn} {H:T AO} {w:World}
variable {t:TypeId}
theorem setObj_upd {b:Nat}(o:Obj)(w:World):Upd (fun k=>k=b) w {w with heap:=w.heap.setIfInBounds b o}:=
 ⟨rfl,rfl,rfl,by simp,fun j _ hn=>Array.getElem?_setIfInBounds_ne (fun e=>hn e.symm)⟩
theorem run_mu (hT:TyOk P tys)(hw:RelH w0 K ρ H w){m k v:Value}{H':T AO}(hv:BV K v)(h:mu tys H t m k v=some H'):
  ∃w',(Instr.mapUpdate t (ren ρ m) (ren ρ k) (ren ρ v)).run P w=.ok () w'/\RelH w0 K ρ H' w'/\Frm ρ H w w':=by
 unfold mu at h;split at h
 ·rename_i r;split at h
  ·rename_i es kt et _ _ _ _ hg hgt;obtain⟨hk,h⟩:=cnd h;have hu:P.underlying t=_:=(hT t _ hgt).1.d;obtain⟨hck,hpk,d,hd⟩:=keyOk_run hT hk false w;obtain⟨es',c,hb,he⟩:=hw.obj r _ hg;have hlt:ρ.f r<w.heap.size:=hw.lt hg;have hgo:(getObj (ρ.f r)).run P w=.ok (.map es' c) w:=by simp[getObj,Sem.run,hb]
   have hset:∀o,(setObj (ρ.f r) o).run P w=.ok () {w with heap:=w.heap.setIfInBounds (ρ.f r) o}:=fun o=>by simp[setObj,Sem.run,hb]
   rw[ren_plain hpk];split at h
   ·rename_i i u hf;cases h;obtain⟨i',e0,hi⟩:=fnd_some hf;obtain rfl:i=i':=by omega
    have hrf:=run_fnd hT hd w he hf;have hl:=congrArg (fun l:List (Value×Value)=>l[i]?) he;simp only[List.getElem?_map,hi,Option.map_some] at hl;obtain⟨m0,hm0,hm1⟩:=Option.map_eq_some_iff.1 hl;have hm2:es'[i]?=some m0:=by simpa using hm0
    simp only[Prod.mk.injEq] at hm1;have hks:(Instr.keyThatStays k k).run P w=.ok k w:=by simp[Instr.keyThatStays,sameBits_key hk]
    refine⟨{ w with heap:=w.heap.setIfInBounds (ρ.f r) (.map (es'.modify i fun e=>{e with key:=k,val:=ren ρ v }) c) },?_,?_,.one hg rfl (setObj_upd _ _)⟩
    ·simp[Instr.mapUpdate,run_und hu,hgo,hck,hrf,hset,hm2,hm1.1,hks]
    ·refine hw.write hg rfl (setObj_upd _ _) ⟨es'.modify i fun e=>{e with key:=k,val:=ren ρ v },c,by simp[hlt],?_⟩ fun p hp=>?_
     ·apply List.ext_getElem?;intro j;have hj:=congrArg (fun l:List (Value×Value)=>l[j]?) he;simp only[List.getElem?_map] at hj ⊢;rw[Array.toList_modify,List.getElem?_modify,List.getElem?_set];by_cases e:i=j
      ·subst e;have:i<es.length:=(List.getElem?_eq_some_iff.1 hi).1;simp[hm0,this]
      ·simp[e];simpa using hj
     ·rcases List.mem_or_eq_of_mem_set hp with h1|h1
      ·exact hw.bnd r _ hg p h1
      ·subst h1;exact⟨hpk,hv⟩
   ·rename_i hf;cases h;have hrf:=run_fnd hT hd w he hf
    refine⟨{ w with heap:=w.heap.setIfInBounds (ρ.f r) (.map (es'.push {key:=k,val:=ren ρ v,born:=c }) (c+1)) },?_,?_,.one hg rfl (setObj_upd _ _)⟩
    ·simp[Instr.mapUpdate,run_und hu,hgo,hck,hrf,hset]
    ·refine hw.write hg rfl (setObj_upd _ _) ⟨es'.push {key:=k,val:=ren ρ v,born:=c },c+1,by simp[hlt],?_⟩ fun p hp=>?_
     ·rw[Array.toList_push,List.map_append,he,List.map_append];rfl
     ·rcases List.mem_append.1 hp with h1|h1
      ·exact hw.bnd r _ hg p h1
      ·rw[List.mem_singleton.1 h1];exact⟨hpk,hv⟩
   ·cases h
  ·cases h
 ·cases h
theorem mu_keys {m k v:Value}{H':T AO}(h:mu tys H t m k v=some H'):Keys H H':=by
 unfold mu at h;split at h
 ·split at h
  ·rename_i hg _;obtain⟨_,h⟩:=cnd h;split at h
   ·cases h;exact put_keys hg rfl
   ·cases h;exact put_keys hg rfl
   ·cases h
  ·cases h
 ·cases h
end
def src (H:T AO)(sz:Nat)(x:Value):Option (List Value×Nat):=match x with
 | .slice none 0 0=>some ([],0)
 | .slice (some a) m _=>match H.get a.block with
  |some (.row _ _ cs _)=>bif isN a.spot&&lB (a.off+m*sz) cs then some (lT (m*sz) (lD a.off cs),m) else none
  |_=>none
 |_=>none
def big:Nat:=1152921504606846976
def app (tys:Tab TI)(H:T AO)(nxt:Nat)(t:TypeId)(s x:Value):Option (Value×T AO×Nat):=match tys.get t with
 |some ⟨.slice e,_,_,_,_⟩=>match tys.get e with
  |some ie=>match src H ie.size x with
   |some (news,m)=>bif !Nat.beq ie.size 0 then (match s with
    | .slice none 0 0=>bif Nat.beq m 0 then some (.slice none 0 0,H,nxt) else
     (bif Nat.ble m 1073741824&&Nat.ble (m*ie.bytes) 1073741824 then some (.slice (some ⟨nxt,0,none⟩) m big,H.put nxt (.row true e news (some ie.size)),nxt+1) else none)
    | .slice (some b) n cap=>match H.get b.block with
     |some (.row wr e' cs (some sz'))=>
      bif isN b.spot&&Nat.beq b.off 0&&Nat.beq sz' ie.size&&Nat.beq e' e&&lB (n*ie.size) cs&&Nat.ble n 1073741824&&Nat.ble m 1073741824&&Nat.ble ((n+m)*ie.bytes) 1073741824 then
       (bif Nat.beq m 0 then (bif Nat.ble n cap&&(Nat.blt cap 1125899906842624||Nat.beq cap big) then some (s,H,nxt) else none)
       else bif Nat.blt cap (n+m) then (bif Nat.ble n cap then some (.slice (some ⟨nxt,0,none⟩) (n+m) big,H.put nxt (.row true e (lA (lT (n*ie.size) cs) news) (some ie.size)),nxt+1) else none)
       else bif wr then (bif Nat.beq cap big then some (.slice (some ⟨nxt,0,none⟩) (n+m) big,(H.del b.block).put nxt (.row true e (lA (lT (n*ie.size) cs) news) (some ie.size)),nxt+1)
        else bif lB ((n+m)*ie.size) cs&&Nat.blt cap 1125899906842624 then some (.slice (some ⟨nxt,0,none⟩) (n+m) cap,(H.del b.block).put nxt (.row true e (lA (lT (n*ie.size) cs) (lA news (lD (n*ie.size+lL news) cs))) (some ie.size)),nxt+1) else none)
       else none) else none
     |_=>none
    |_=>none) else none
   |none=>none
  |none=>none
 |_=>none
section
variable {P:Program} {tys:Tab TI} {w0:World} {K:Nat->Prop} {ρ:Rn} {H:T AO} {w:World}
theorem src_ok (hw:RelH w0 K ρ H w){sz:Nat}{x:Value}{news:List Value}{m:Nat}(h:src H sz x=some (news,m)):(x=.slice none 0 0/\news=[]/\m=0)\/
  ∃a c,x=.slice (some a) m c/\a.spot=none/\news.length=m*sz/\(∀c∈news,BC K c)/\∀j u,(news.map (ren1 ρ))[j]?=some u->w.cell? ((⟨ρ.f a.block,a.off,none⟩:Addr).add j)=some u:=by
 unfold src at h;simp only[lD_eq,lT_eq,lB_eq] at h;split at h
 ·cases h;exact .inl ⟨rfl,rfl,rfl⟩
 ·rename_i a m' c;split at h
  ·rename_i wr e cs tl hg;obtain⟨hc,h⟩:=cnd h;cases h;rw[Bool.and_eq_true,Nat.ble_eq] at hc;obtain⟨c1,c2⟩:=hc;obtain⟨rest,hrow⟩:=row_cell hw hg;refine .inr ⟨a,c,rfl,isN_eq c1,by simp;omega,fun v hv=>hw.bnd _ _ hg v (List.mem_of_mem_drop (List.mem_of_mem_take hv)),fun j u hj=>?_⟩;rw[Addr.add_lit,hrow.cell];have hjl:=(List.getElem?_eq_some_iff.1 hj).1;simp at hjl;rw[List.getElem?_append_left (by simp;omega),<-hj];simp only[List.getElem?_map,List.getElem?_take,List.getElem?_drop];rw[if_pos (by omega)]
  ·cases h
 ·cases h
def Rn.ext (ρ:Rn)(i b c:Nat):Rn:=⟨fun x=>if x=i then b else ρ.f x,fun x=>if x=i then c else ρ.c x⟩
theorem ext_agr {i b c:Nat}(hi:¬ K i):Agr K ρ (ρ.ext i b c):=fun x hx=>by
 have:x≠i:=fun e=>hi (e▸hx);simp[Rn.ext,this]
theorem RelH.fresh (h:RelH w0 K ρ H w){i b c:Nat}{o:AO}(hi:¬ K i)(hb:∀j oj,H.get j=some oj->ρ.f j≠b)(ho:ObjR (ρ.ext i b c) i o (w.heap[b]?))(hk:OB K o)(hn:w0.heap.size<=b):RelH w0 (Upto K i (i+1)) (ρ.ext i b c) (H.put i o) w:=by
 have h1:RelH w0 (Upto K i (i+1)) (ρ.ext i b c) H w:=(h.agr (ext_agr hi)).more fun x hx=>.inl hx;have e:(ρ.ext i b c).f i=b:=by simp[Rn.ext]
 refine h1.add (.inr ⟨Nat.le_refl _,by omega⟩) (fun j oj hj hne=>?_) (by rw[e];exact ho) (hk.mono fun x hx=>.inl hx) (fun _=>by rw[e];exact hn);rw[e];have:=hb j oj hj;simpa[Rn.ext,hne] using this
def EOk (P:Program)(w0:World)(K:Nat->Prop)(ρ:Rn)(H:T AO)(w:World)(s:Sem Value)(nxt:Nat)(v:Value)(H':T AO)(nxt':Nat):Prop:=
 ∃ρ' w',s.run P w=.ok (ren ρ' v) w'/\Agr K ρ ρ'/\RelH w0 (Upto K nxt nxt') ρ' H' w'/\BV (Upto K nxt nxt') v/\Frm ρ H w w'/\Im ρ H w ρ' H'/\nxt<=nxt'
theorem zc_size {z:Value}{n:Nat}:(Builtin.zeroCells z.cells n).toList.length=n*z.cells.size:=by rw[Array.length_toList,size_zeroCells]
theorem upto_self {n:Nat}(h:RelH w0 K ρ H w):RelH w0 (Upto K n n) ρ H w:=h.more fun _ hx=>.inl hx
theorem run_app (hT:TyOk P tys)(hw:RelH w0 K ρ H w)(hsz:w0.heap.size<=w.heap.size){nxt:Nat}(hn:∀b,nxt<=b->¬ K b){t ty:TypeId}{s x v:Value}{H':T AO}{nxt':Nat}(hsv:BV K s)(h:app tys H nxt t s x=some (v,H',nxt')):
  EOk P w0 K ρ H w (Builtin.append_ #[t,t] ty #[ren ρ s,ren ρ x]) nxt v H' nxt':=by
 unfold app at h;simp only[lD_eq,lT_eq,lL_eq,lB_eq,lA_eq] at h;split at h
 rotate_left
 ·cases h
 rename_i e _ _ _ _ hgt;have hu:P.underlying t=_:=(hT t _ hgt).1.d;split at h
 rotate_left
 ·cases h
 rename_i ie hge;obtain⟨j,j1,j2,j3,j4,j5⟩:=(hT e ie hge).1.info;have hzl:ie.z.cells.size=ie.size:=by have:=(hT e ie hge).1.zl;rw[<- j5] at this;simpa using this
 split at h
 rotate_left
 ·cases h
 rename_i news m hsrc;obtain⟨hsz0,h⟩:=cnd h;simp only[Bool.not_eq_true',nbeq,decide_eq_false_iff_not] at hsz0;have hnK:¬ K nxt:=hn nxt (Nat.le_refl _);have hsr:=src_ok hw hsrc
 -- what is made anew
 have grown:∀(olds:List Value) (need old:Nat),(olds++news).length=need*ie.size->need<=2147483648->(∀c∈olds++news,BC K c)->
   RelH w0 (Upto K nxt (nxt+1)) (ρ.ext nxt w.heap.size (grownCap w need old e)) (H.put nxt (.row true e (olds++news) (some ie.size))) (w.drew.alloc (.cells ((olds.map (ren1 ρ)).toArray++(news.map (ren1 ρ)).toArray++Builtin.zeroCells ie.z.cells (grownCap w need old e-need)) e))/\
   Frm ρ H w (w.drew.alloc (.cells ((olds.map (ren1 ρ)).toArray++(news.map (ren1 ρ)).toArray++Builtin.zeroCells ie.z.cells (grownCap w need old e-need)) e)):=by
  intro olds need old hl hle hbc;have hge:=grownCap_ge w need old e;have hcm:=grownCap_le_maxLen w need old e (by unfold maxLen;omega);refine⟨?_,.zero (((Upd.refl _ w).drew).alloc _)⟩;refine (hw.drew.alloc _).fresh hnK (fun k ok hk e=>by have:=hw.lt hk;omega) ⟨(Builtin.zeroCells ie.z.cells (grownCap w need old e-need)).toList,?_,?_,by omega,?_⟩ hbc hsz
  ·show (w.heap.push _)[w.heap.size]?=_;rw[Array.getElem?_push_size];congr 2;apply Array.toList_inj.1;simp[List.map_append,BC.list (fun c hc=>hbc c (List.mem_append_left _ hc)) (ext_agr (ρ:=ρ) (b:=w.heap.size) (c:=grownCap w need old e) hnK),BC.list (fun c hc=>hbc c (List.mem_append_right _ hc)) (ext_agr (ρ:=ρ) (b:=w.heap.size) (c:=grownCap w need old e) hnK)]
  ·rw[zc_size,hl,hzl,<-Nat.add_mul];simp only[Rn.ext,if_true];congr 1;omega
  ·simpa[Rn.ext] using hcm
 have imn:∀(C:Nat) (o:AO),Im ρ H w (ρ.ext nxt w.heap.size C) (H.put nxt o):=fun C o i oi h1=>by
  rw[T.get_put] at h1;split at h1
  ·rename_i e;subst e;exact .inl (by simp[Rn.ext])
  ·rename_i e;exact .inr ⟨i,oi,h1,id,by simp[Rn.ext,e]⟩
 have vnew:∀(n G:Nat),ren (ρ.ext nxt w.heap.size G) (.slice (some ⟨nxt,0,none⟩) n big)=.slice (some ⟨w.heap.size,0,none⟩) n G:=fun n G=>by
  simp[Rn.ext,rcap,big]
 have hagr:∀G,Agr K ρ (ρ.ext nxt w.heap.size G):=fun G=>ext_agr hnK;have hbv:∀(n c:Nat),BV (Upto K nxt (nxt+1)) (.slice (some ⟨nxt,0,none⟩) n c):=fun n c=>bv_slice (.inr ⟨Nat.le_refl _,by omega⟩);split at h
 ·-- nothing yet
  by_cases hm:m=0
  ·subst hm;have h:some (Value.slice none 0 0,H,nxt)=some (v,H',nxt'):=h;cases h;refine⟨ρ,w,?_,.refl _ _,upto_self hw,bv_plain rfl,.refl _ _ _,.refl _ _ _,Nat.le_refl _⟩
   rcases hsr with ⟨rfl,_,_⟩|⟨a,c,rfl,_⟩
   ·simp[Builtin.append_,run_und hu,sizeOf,typeInfo,j1,Builtin.lenOf,Builtin.firstCells]
   ·simp[Builtin.append_,run_und hu,sizeOf,typeInfo,j1,Builtin.lenOf,Builtin.firstCells,loadCells,loadCellsFrom]
  ·have:Nat.beq m 0=false:=by rw[nbeq];simpa using hm
   rw[this] at h;obtain⟨hc,h⟩:=cnd (show (bif Nat.ble m 1073741824&&Nat.ble (m*ie.bytes) 1073741824 then some (Value.slice (some ⟨nxt,0,none⟩) m big,H.put nxt (.row true e news (some ie.size)),nxt+1) else none)=some (v,H',nxt') from h);cases h;rw[Bool.and_eq_true,Nat.ble_eq,Nat.ble_eq] at hc
   rcases hsr with ⟨_,_,h0⟩|⟨a,c,rfl,hsp,hl,hbc,hcell⟩
   ·exact absurd h0 hm
   have hr:=run_append_nil (P:=P) w t ty e j ie.z hu j1 j4 ⟨ρ.f a.block,a.off,none⟩ m (rcap ρ a.block c) (news.map (ren1 ρ)) (by rw[List.length_map,hl,j2]) hcell (by omega) (by omega) (by rw[j3];omega);obtain⟨g1,g2⟩:=grown [] m 0 (by simpa using hl) (by omega) (by simpa using hbc);simp only[List.map_nil,List.nil_append] at g1 g2;have e0:(#[]:Array Value)++(news.map (ren1 ρ)).toArray=(news.map (ren1 ρ)).toArray:=by simp
   rw[e0] at g1 g2;refine⟨_,_,?_,hagr _,g1,hbv _ _,g2,imn _ _,by omega⟩;rw[vnew];simpa[hsp] using hr
 ·rename_i b n cap _;split at h
  rotate_left
  ·cases h
  rename_i wr e' cs sz' hgb;have h2:=cnd h;clear h;obtain⟨hc,h⟩:=h2;simp only[Bool.and_eq_true,nbeq,decide_eq_true_eq,Nat.ble_eq] at hc;obtain⟨⟨⟨⟨⟨⟨⟨c1,c2⟩,c3⟩,c4⟩,c5⟩,c6⟩,c7⟩,c8⟩:=hc;subst c3;subst c4;have hsp:=isN_eq c1;have hbs:b=⟨b.block,0,none⟩:=by cases b;simp at c2 hsp;rw[c2,hsp]
  obtain⟨rest,hr0,hr1,hr2,hr3⟩:=hw.obj b.block _ hgb;have hrow:Row w (ρ.f b.block) e' (cs.map (ren1 ρ)++rest):=hr0;have hnC:n<=ρ.c b.block:=by
   have:n*ie.size<=ρ.c b.block*ie.size:=by rw[<- hr1];omega
   exact Nat.le_of_mul_le_mul_right this hr2
  have hbcs:=hw.bnd b.block _ hgb;have holds:∀j u,((cs.take (n*ie.size)).map (ren1 ρ))[j]?=some u->w.cell? ((⟨ρ.f b.block,0,none⟩:Addr).add j)=some u:=fun j u hj=>by
   rw[Addr.add_lit,Nat.zero_add,hrow.cell];have hjl:=(List.getElem?_eq_some_iff.1 hj).1;simp at hjl;rw[List.getElem?_append_left (by simp;omega),<-hj];simp only[List.getElem?_map,List.getElem?_take];rw[if_pos (by omega)]
  have hbn:∀c∈cs.take (n*ie.size)++news,BC K c:=fun c hc=>by
   rcases List.mem_append.1 hc with h1|h1
   ·exact hbcs c (List.mem_of_mem_take h1)
   ·rcases hsr with ⟨_,rfl,_⟩|⟨_,_,_,_,_,hbc,_⟩
    ·simp at h1
    ·exact hbc c h1
  -- it grows
  have grows:∀C,rcap ρ b.block cap=C->C<n+m->0<m->EOk P w0 K ρ H w (Builtin.append_ #[t,t] ty #[ren ρ (.slice (some b) n cap),ren ρ x]) nxt (.slice (some ⟨nxt,0,none⟩) (n+m) big) (H.put nxt (.row true e' (cs.take (n*ie.size)++news) (some ie.size))) (nxt+1):=by
   intro C hC hlt hm
   rcases hsr with ⟨_,_,h0⟩|⟨a,c,rfl,hsp2,hl,hbc,hcell⟩
   ·omega
   have hr:=run_append_grow (P:=P) w t ty e' j ie.z hu j1 j4 ⟨ρ.f b.block,0,none⟩ n C ((cs.take (n*ie.size)).map (ren1 ρ)) (by rw[List.length_map,List.length_take,j2];omega) holds ⟨ρ.f a.block,a.off,none⟩ m (rcap ρ a.block c) (news.map (ren1 ρ)) (by rw[List.length_map,hl,j2]) hcell hlt (by omega) (growslice_fits hlt (by rw[j3];omega));obtain⟨g1,g2⟩:=grown (cs.take (n*ie.size)) (n+m) C (by rw[List.length_append,List.length_take,hl,Nat.add_mul];omega) (by omega) hbn;refine⟨_,_,?_,hagr _,g1,hbv _ _,g2,imn _ _,by omega⟩;rw[vnew,hbs];simpa[hsp2,hC] using hr
  -- it is laid in place
  have place:∀(C capN:Nat) (cs2:List Value),rcap ρ b.block cap=C->n+m<=C->wr=true->(n+m)*ie.size<=ρ.c b.block*ie.size->rcap (ρ.ext nxt (ρ.f b.block) (ρ.c b.block)) nxt capN=C->
    (∃rest2:List Value,(cs.map (ren1 ρ)++rest).take (n*ie.size)++(news.map (ren1 ρ))++(cs.map (ren1 ρ)++rest).drop (n*ie.size+news.length)=cs2.map (ren1 ρ)++rest2/\cs2.length+rest2.length=ρ.c b.block*ie.size)->(∀c∈cs2,BC K c)->0<m->
    EOk P w0 K ρ H w (Builtin.append_ #[t,t] ty #[ren ρ (.slice (some b) n cap),ren ρ x]) nxt (.slice (some ⟨nxt,0,none⟩) (n+m) capN) ((H.del b.block).put nxt (.row true e' cs2 (some ie.size))) (nxt+1):=by
   intro C capN cs2 hC hle hwr hfit hcapN hrest hb2 hm
   rcases hsr with ⟨_,_,h0⟩|⟨a,c,rfl,hsp2,hl,hbc,hcell⟩
   ·omega
   subst hwr;have hr:=run_append_room (P:=P) w t ty e' j hu j1 (ρ.f b.block) n C (cs.map (ren1 ρ)++rest).toArray hr0 ⟨ρ.f a.block,a.off,none⟩ m (rcap ρ a.block c) (news.map (ren1 ρ)) (by rw[List.length_map,hl,j2]) hcell (fun u hu=>by
    obtain⟨q,hq,rfl⟩:=List.mem_map.1 hu;exact ren1_one (hbc q hq).1) hle (by
    rw[j2,List.length_map,hl,<-Nat.add_mul];simp;omega)
   obtain⟨rest2,hq1,hq2⟩:=hrest;rw[j2,List.length_map] at hr;simp only at hr;rw[hq1] at hr;generalize hw':w.setRow (ρ.f b.block) (cs2.map (ren1 ρ)++rest2).toArray=w' at hr;have hrow2:w'.heap[ρ.f b.block]?=some (.cells (cs2.map (ren1 ρ)++rest2).toArray e' (0,0)):=by rw[<- hw'];exact setRow_heap w _ _ _ _ _ hr0
   have hupd:Upd (fun k=>k=ρ.f b.block) w w':=by
    rw[<- hw'];exact⟨rfl,rfl,rfl,by simp[World.setRow],fun k _ hk=>setRow_other w _ k _ (fun e=>hk e)⟩
   have hdel:RelH w0 K ρ (H.del b.block) w':=by
    have h3:=hw.write (o':=.row true e' cs2 (some ie.size)) hgb rfl hupd ⟨rest2,hrow2,hq2,hr2,hr3⟩ hb2;refine (h3.del b.block).less fun k ok hk=>?_;rw[T.get_del] at hk ⊢;split at hk
    ·cases hk
    ·rename_i hne;rw[if_neg hne,T.get_put,if_neg hne];exact hk
   refine⟨ρ.ext nxt (ρ.f b.block) (ρ.c b.block),w',?_,ext_agr hnK,?_,hbv _ _,.one hgb rfl hupd,fun i oi h1=>?_,by omega⟩
   ·have e1:ren (ρ.ext nxt (ρ.f b.block) (ρ.c b.block)) (.slice (some ⟨nxt,0,none⟩) (n+m) capN)=.slice (some ⟨ρ.f b.block,0,none⟩) (n+m) C:=by
     rw[ren_slice];simp only[hcapN];simp[Rn.ext]
    rw[e1,hbs];simpa[hsp2,hC] using hr
   ·refine hdel.fresh hnK (fun k ok hk=>?_) ⟨rest2,?_,?_⟩ hb2 (hw.new b.block _ hgb rfl)
    ·rw[T.get_del] at hk;split at hk
     ·cases hk
     ·rename_i hne;exact (hw.inj b.block k _ _ hgb hk rfl (Ne.symm hne)).symm
    ·rw[<- BC.list hb2 (ext_agr hnK)];exact hrow2
    ·simp only[Rn.ext,if_true];exact⟨hq2,hr2,hr3⟩
   ·rw[T.get_put] at h1;split at h1
    ·rename_i e;subst e;exact .inr ⟨b.block,_,hgb,fun _=>rfl,by simp[Rn.ext]⟩
    ·rename_i e;rw[T.get_del] at h1;split at h1
     ·cases h1
     ·exact .inr ⟨i,oi,h1,id,by simp[Rn.ext,e]⟩
  by_cases hm:m=0
  ·subst hm;obtain⟨hd,h⟩:=cnd (show (bif Nat.ble n cap&&(Nat.blt cap 1125899906842624||Nat.beq cap big) then some (Value.slice (some b) n cap,H,nxt) else none)=some (v,H',nxt') from h);cases h;simp only[Bool.and_eq_true,Bool.or_eq_true,Nat.ble_eq,Nat.blt_eq,nbeq,decide_eq_true_eq] at hd;obtain⟨d1,d2⟩:=hd;have hle:n<=rcap ρ b.block cap:=by
    unfold rcap
    rcases d2 with d2|d2
    ·rw[if_pos d2];exact d1
    ·subst d2;rw[if_neg (by unfold big;omega)];unfold big;omega
   refine⟨ρ,w,?_,.refl _ _,upto_self hw,hsv.mono fun _ h=>.inl h,.refl _ _ _,.refl _ _ _,Nat.le_refl _⟩
   rcases hsr with ⟨rfl,_,_⟩|⟨a,c,rfl,_⟩
   ·simp[Builtin.append_,run_und hu,sizeOf,typeInfo,j1,Builtin.lenOf,Builtin.firstCells,hle,storeCells]
   ·simp[Builtin.append_,run_und hu,sizeOf,typeInfo,j1,Builtin.lenOf,Builtin.firstCells,loadCells,loadCellsFrom,hle,storeCells]
  ·have hm0:Nat.beq m 0=false:=by rw[nbeq];simpa using hm
   rw[hm0] at h;have hmp:0<m:=by omega
   have hnl:news.length=m*ie.size:=by
    rcases hsr with ⟨_,_,h0⟩|⟨_,_,_,_,hl,_⟩
    ·omega
    ·exact hl
   cases hlt:Nat.blt cap (n+m) with
   |true=>
    rw[hlt] at h;obtain⟨hd,h⟩:=cnd (show (bif Nat.ble n cap then some (Value.slice (some ⟨nxt,0,none⟩) (n+m) big,H.put nxt (.row true e' (cs.take (n*ie.size)++news) (some ie.size)),nxt+1) else none)=some (v,H',nxt') from h);cases h;rw[Nat.blt_eq] at hlt;exact grows cap (by unfold rcap;rw[if_pos (by omega)]) hlt hmp
   |false=>
    rw[hlt] at h;have hge':n+m<=cap:=by
     have:¬ (Nat.blt cap (n+m)=true):=by rw[hlt];simp
     rw[Nat.blt_eq] at this;omega
    cases hwr:wr with
    |false=>rw[hwr] at h;cases h
    |true=>
     rw[hwr] at h
     cases hbg:Nat.beq cap big with
     |true=>
      rw[hbg] at h;cases h;rw[nbeq,decide_eq_true_eq] at hbg;have hC:rcap ρ b.block cap=ρ.c b.block:=by rw[hbg];unfold rcap big;rw[if_neg (by omega)];omega
      by_cases hroom:n+m<=ρ.c b.block
      ·refine place (ρ.c b.block) big (cs.take (n*ie.size)++news) hC hroom hwr (Nat.mul_le_mul_right _ hroom) (by simp[Rn.ext,rcap,big]) ⟨(cs.map (ren1 ρ)++rest).drop (n*ie.size+news.length),?_,?_⟩ hbn hmp
       ·rw[List.take_append_of_le_length (by simpa using c5)];simp[List.map_take]
       ·have h6:=Nat.mul_le_mul_right ie.size hroom;simp only[List.length_append,List.length_take,List.length_drop,List.length_map];rw[Nat.add_mul] at h6;omega
      ·have hg:=grows (ρ.c b.block) hC (by omega) hmp;obtain⟨ρ',w',a1,a2,a3,a4,a5,a6,a7⟩:=hg;refine⟨ρ',w',a1,a2,a3.less fun k ok hk=>?_,a4,a5,fun i oi h1=>?_,a7⟩
       rotate_left
       ·rw[T.get_put] at h1;split at h1
        ·rename_i e1;refine a6 i oi (by rw[T.get_put,if_pos e1];exact h1)
        ·rename_i e1;rw[T.get_del] at h1;split at h1
         ·cases h1
         ·exact a6 i oi (by rw[T.get_put,if_neg e1];exact h1)
       rw[T.get_put] at hk ⊢;split at hk
       ·rename_i e1;rw[if_pos e1];exact hk
       ·rename_i e1;rw[if_neg e1];rw[T.get_del] at hk;split at hk
        ·cases hk
        ·exact hk
     |false=>
      rw[hbg] at h;obtain⟨hd,h⟩:=cnd (show (bif Nat.ble ((n+m)*ie.size) cs.length&&Nat.blt cap 1125899906842624 then some (Value.slice (some ⟨nxt,0,none⟩) (n+m) cap,(H.del b.block).put nxt (.row true e' (cs.take (n*ie.size)++(news++cs.drop (n*ie.size+news.length))) (some ie.size)),nxt+1) else none)=some (v,H',nxt') from h);cases h;rw[Bool.and_eq_true,Nat.ble_eq,Nat.blt_eq] at hd;obtain⟨d1,d2⟩:=hd;have hfl:n*ie.size+news.length<=cs.length:=by rw[hnl,<-Nat.add_mul];exact d1
      refine place cap cap _ (by unfold rcap;rw[if_pos d2]) hge' hwr (by rw[<- hr1];omega) (by unfold rcap;rw[if_pos d2]) ⟨rest,?_,?_⟩ (fun c hc=>?_) hmp
      ·rw[List.append_assoc,row_split hfl]
      ·simp only[List.length_append,List.length_take,List.length_drop];omega
      ·refine bc_mem hbcs (fun q hq=>hbn q (List.mem_append_right _ hq)) c hc
 ·cases h
end
end Go.EV
noncomputable section
namespace Go.EV
open Go Go.RowKit Go.RR Go.Lib
section
variable {P:Program} {tys:Tab TI} {w0:World} {K:Nat->Prop} {ρ:Rn} {H:T AO} {w:World}
variable {t:TypeId} {H':T AO} {ty:TypeId}
theorem rep_one (c:Value):∀n,rep [c] n=List.replicate n c
 |0=>rfl
 |n+1=>by simp only[rep,lA_eq,List.replicate_succ];rw[rep_one c n];rfl
def clr (tys:Tab TI)(H:T AO)(t:TypeId)(x:Value):Option (T AO):=match x,tys.get t with
 | .slice (some b) n _,some ⟨.slice e,_,_,_,_⟩=>bif Nat.beq n 0 then some H else (match H.get b.block,tys.get e with
  |some (.row true e' cs tl),some ie=>bif isN b.spot&&Nat.beq ie.size 1&&!ie.d.agg&&lB (b.off+n) cs then some (H.put b.block (.row true e' (lA (lT b.off cs) (lA (rep ie.zero n) (lD (b.off+n) cs))) tl)) else none
  |_,_=>none)
 |_,_=>none
theorem clr_keys {x:Value}(h:clr tys H t x=some H'):Keys H H':=by
 unfold clr at h;simp only[lD_eq,lT_eq,lB_eq,lA_eq] at h;split at h
 ·rename_i b n _ e _ _ _ _ hgt
  cases hn:Nat.beq n 0 with
  |true=>rw[hn] at h;cases h;exact .refl _
  |false=>
   rw[hn] at h;simp only[cond_false] at h;split at h
   ·rename_i hg _;obtain⟨_,h⟩:=cnd h;cases h;exact put_keys hg rfl
   ·cases h
 ·cases h
theorem run_clr (hT:TyOk P tys)(hw:RelH w0 K ρ H w){x:Value}(h:clr tys H t x=some H'):
  ∃w',(Builtin.clear_ #[t] ty #[ren ρ x]).run P w=.ok (.tuple #[]) w'/\RelH w0 K ρ H' w'/\Frm ρ H w w':=by
 unfold clr at h;simp only[lD_eq,lT_eq,lB_eq,lA_eq] at h;split at h
 ·rename_i b n cap e _ _ _ _ hgt;have hu:P.underlying t=_:=(hT t _ hgt).1.d
  cases hn:Nat.beq n 0 with
  |true=>
   rw[hn] at h;cases h;rw[nbeq,decide_eq_true_eq] at hn;subst hn;exact⟨w,by simp[Builtin.clear_,run_und hu],hw,.refl _ _ _⟩
  |false=>
   rw[hn] at h;simp only[cond_false] at h;rw[nbeq,decide_eq_false_iff_not] at hn;split at h
   ·rename_i e' cs tl ie hg hge;obtain⟨hc,h⟩:=cnd h;cases h;simp only[Bool.and_eq_true,Bool.not_eq_true',nbeq,decide_eq_true_eq,Nat.ble_eq] at hc;obtain⟨⟨⟨c1,c2⟩,c3⟩,c4⟩:=hc;have hs:=isN_eq c1;have hT1:=(hT e ie hge).1;have hzl:ie.zero.length=1:=by rw[hT1.zl];exact c2
    obtain⟨c,hcz⟩:∃c,ie.zero=[c]:=by
     match h:ie.zero,hzl with
     |[c],_=>exact⟨c,rfl⟩
    have hz:ie.z=c:=by unfold TI.z;rw[c3,hcz];rfl
    obtain⟨hz1,hz2⟩:=hT1.zeroV w;have hzc:ie.z.cells=#[ie.z]:=by
     apply Array.toList_inj.1;rw[hz2,hcz,hz]
    have hp:=List.all_eq_true.1 hT1.zp c (by rw[hcz];simp);rw[Bool.and_eq_true] at hp;have hrl:(rep ie.zero n).length=n:=by rw[rep_len,hzl,Nat.mul_one]
    have hrr:(rep ie.zero n).map (ren1 ρ)=List.replicate n ie.z:=by
     rw[rep_zero hT1.zp,hz,hcz];exact rep_one c n
    obtain⟨h1,h2,h3,h4⟩:=hw.cells (l:=rep ie.zero n) (off:=b.off) hg (fun q hq=>bc_zero hT1.zp q (rep_mem n q hq)) (by omega);rw[hrl] at h1 h3 h4;rw[hrr] at h1 h2;refine⟨_,?_,h1,h2⟩;show (Builtin.clear_ #[t] ty #[.slice (some ⟨ρ.f b.block,b.off,b.spot⟩) n (rcap ρ b.block cap)]).run P w=_;rw[hs];exact run_clear_slice (P:=P) w t e ty ie.z hu (fun w=>(hT1.zeroV w).1) hzc (by rw[hz];exact hp.2) (ρ.f b.block) b.off n _ (by omega) h3 h4
   ·cases h
 ·cases h
def apz (tys:Tab TI)(H:T AO)(nxt:Nat)(t:TypeId)(k:Nat):Option (Value×T AO×Nat):=match tys.get t with
 |some ⟨.slice e,_,_,_,_⟩=>match tys.get e with
  |some ie=>bif !Nat.beq k 0&&!Nat.beq ie.size 0&&Nat.ble k 1073741824&&Nat.ble (k*ie.bytes) 1073741824 then some (.slice (some ⟨nxt,0,none⟩) k big,H.put nxt (.row true e (rep ie.zero k) (some ie.size)),nxt+1) else none
  |none=>none
 |_=>none
theorem zc_rep {ie:TI}(hT1:TIok P t ie)(hs:0<ie.size)(n:Nat):Builtin.zeroCells ie.z.cells n=(rep ie.zero n).toArray:=by
 have hzc:=(hT1.zeroV (default:World)).2;have:ie.z.cells=ie.zero.toArray:=by rw[<- hzc]
 rw[this,<-rep_array ie.zero (by rw[hT1.zl];exact hs) n];simp[Builtin.zeroCells]
theorem run_apz (hT:TyOk P tys)(hw:RelH w0 K ρ H w)(hsz:w0.heap.size<=w.heap.size){nxt:Nat}(hn:∀b,nxt<=b->¬ K b){tn:TypeId}{k kn:IntKind}{n:Nat}{v:Value}{nxt':Nat}(htn:P.underlying tn=some (.int kn))(h:apz tys H nxt t n=some (v,H',nxt')):
  EOk P w0 K ρ H w (Builtin.append_ #[t,tn] ty #[ren ρ (.slice none 0 0),ren ρ (.int k n)]) nxt v H' nxt':=by
 unfold apz at h;split at h
 ·rename_i e _ _ _ _ hgt;have hu:P.underlying t=_:=(hT t _ hgt).1.d;split at h
  ·rename_i ie hge;obtain⟨hc,h⟩:=cnd h;cases h;simp only[Bool.and_eq_true,Bool.not_eq_true',nbeq,decide_eq_false_iff_not,Nat.ble_eq] at hc;obtain⟨⟨⟨c1,c2⟩,c3⟩,c4⟩:=hc;have hT1:=(hT e ie hge).1;obtain⟨j,j1,j2,j3,j4,j5⟩:=hT1.info;have hr:=run_append_nil_zeros (P:=P) w t tn ty e j ie.z k kn hu htn j1 j4 n (by omega) (by omega) (by omega) (by rw[j3];omega);have hge2:=grownCap_ge w n 0 e;have hcm:=grownCap_le_maxLen w n 0 e (by unfold maxLen;omega);have hnK:¬ K nxt:=hn nxt (Nat.le_refl _);have hzl:ie.zero.length=ie.size:=hT1.zl;rw[zc_rep hT1 (by omega),zc_rep hT1 (by omega)] at hr;refine⟨ρ.ext nxt w.heap.size (grownCap w n 0 e),w.drew.alloc (.cells ((rep ie.zero n).toArray++(rep ie.zero (grownCap w n 0 e-n)).toArray) e),?_,ext_agr hnK,?_,bv_slice (.inr ⟨Nat.le_refl _,by omega⟩),.zero (((Upd.refl _ w).drew).alloc _),fun i oi h1=>?_,by omega⟩
   ·simp only[ren_slice,Rn.ext,if_true,rcap,big];simpa using hr
   ·refine (hw.drew.alloc _).fresh hnK (fun i oi hi e=>by have:=hw.lt hi;omega) ⟨rep ie.zero (grownCap w n 0 e-n),?_,?_,by omega,?_⟩ (fun q hq=>bc_zero hT1.zp q (rep_mem n q hq)) hsz
    ·show (w.heap.push _)[w.heap.size]?=_;rw[Array.getElem?_push_size,rep_zero hT1.zp];simp
    ·rw[rep_len,rep_len,hzl,<-Nat.add_mul];simp only[Rn.ext,if_true];congr 1;omega
    ·simpa[Rn.ext] using hcm
   ·rw[T.get_put] at h1;split at h1
    ·rename_i e;subst e;exact .inl (by simp[Rn.ext])
    ·rename_i e;exact .inr ⟨i,oi,h1,id,by simp[Rn.ext,e]⟩
  ·cases h
 ·cases h
end
end Go.EV
