import Derived.Test.YtojfbbggnkijeaaGreatDoorZ9
import Derived.Laws.Pointers
set_option linter.all false
noncomputable section
namespace Go.EV
open Go Go.RowKit Go.RR Go.Lib
section
variable {P:Program} {tys:Tab TI} {w0:World} {K:Nat->Prop} {ρ:Rn} {H:T AO} {w:World}
variable {v:Value} {t:TypeId} {x:Value}
def rvOf (ρ:Rn)(tm:T Value)(x:Operand):Value:=match opv tm x with
 |some u=>ren ρ u
 |none=>undef
theorem rvOf_ok (ρ:Rn)(tm:T Value):Rv ρ tm (rvOf ρ tm):=fun x u h=>by simp[rvOf,h]
theorem rvOf_agr {ρ':Rn}{tm:T Value}(hb:BT K tm)(hg:∀g,g<16->K g)(ha:Agr K ρ ρ'):Rv ρ' tm (rvOf ρ tm):=fun x u h=>by
 simp only[rvOf,h];exact hb.opv hg h ρ ρ' ha
theorem opP_bv (hT:TyOk P tys){tm:T Value}(hb:BT K tm)(hg:∀g,g<16->K g){op:Op}(h:opP tys tm op=some v):BV K v:=fun ρ ρ' ha=>by
 have o:Oper:={(default:Oper) with op:=op}
 have h1:=run_opP (P:=P) (o:={(default:Oper) with op:=op }) hT (rvOf_ok ρ tm) h default
 have h2:=run_opP (P:=P) (o:={(default:Oper) with op:=op }) hT (rvOf_agr hb hg ha) h default;rw[h1] at h2;simpa using h2
theorem bv_agg {cs:List Value}(h:∀c∈cs,BC K c):BV K (.agg cs.toArray):=fun ρ ρ' ha=>by
 simp only[ren_agg];congr 1;apply Array.toList_inj.1;simpa using BC.list h ha
theorem ld_bv (hH:∀i o,H.get i=some o->OB K o)(h:ld tys H t x=some v):BV K v:=by
 unfold ld at h;simp only[lD_eq,lT_eq,lB_eq] at h;split at h
 ·split at h
  ·rename_i hg;have hb:=hH _ _ hg;split at h
   ·rename_i i hgt;obtain⟨_,h⟩:=cnd h
    cases ha:i.d.agg with
    |true=>
     rw[ha] at h;obtain⟨_,h⟩:=cnd h;cases h;exact bv_agg fun c hc=>hb c (List.mem_of_mem_drop (List.mem_of_mem_take hc))
    |false=>
     rw[ha] at h;simp only[cond_false,nth_eq] at h;exact (hb v (List.mem_of_getElem? h)).2
   ·cases h
  ·rename_i hg;have hb:=hH _ _ hg;split at h
   ·obtain⟨_,h⟩:=cnd h;rw[nth_eq] at h;exact (hb v (List.mem_of_getElem? h)).2
   ·cases h
  ·cases h
 ·cases h
theorem z_bv {i:TI}(h:TIok P t i):BV K i.z:=by
 cases ha:i.d.agg with
 |true=>exact bv_plain (z_plain h (.inl ha)).1
 |false=>
  by_cases hs:0<i.size
  ·exact bv_plain (z_plain h (.inr hs)).1
  ·have h0:i.zero=[]:=List.eq_nil_of_length_eq_zero (by rw[h.zl];omega);have:i.z=.bool false:=by unfold TI.z;rw[ha,h0];rfl
   rw[this];exact bv_plain rfl
theorem bv_pair {b:Bool}(h:BV K v)(h2:base2 v=true):BV K (.tuple #[v,.bool b]):=fun ρ ρ' ha=>by
 have:=h ρ ρ' ha;rw[ren_base2 h2,ren_base2 h2] at this;show Value.tuple (#[v,.bool b].map (ren2 ρ))=.tuple (#[v,.bool b].map (ren2 ρ'));simp only[List.map_toArray,List.map_cons,List.map_nil,this];rfl
theorem z_base {i:TI}(h:TIok P t i):base2 i.z=true:=by
 cases ha:i.d.agg with
 |true=>exact (z_plain h (.inl ha)).2
 |false=>
  by_cases hs:0<i.size
  ·exact (z_plain h (.inr hs)).2
  ·have h0:i.zero=[]:=List.eq_nil_of_length_eq_zero (by rw[h.zl];omega);have:i.z=.bool false:=by unfold TI.z;rw[ha,h0];rfl
   rw[this];rfl
theorem lkp_bv (hT:TyOk P tys)(hH:∀i o,H.get i=some o->OB K o){k:Value}{ok:Bool}(h:lkp tys H t x k ok=some v):BV K v:=by
 unfold lkp at h;split at h
 ·split at h
  ·rename_i es kt et _ _ _ _ hg _;have hb:=hH _ _ hg;split at h
   ·rename_i ie hge;obtain⟨_,h⟩:=cnd h;split at h
    ·rename_i i u hf;obtain⟨m,_,h2⟩:=fnd_some hf;have hu:BV K u:=(hb _ (List.mem_of_getElem? h2)).2;obtain⟨h3,h⟩:=cnd h;cases h;cases ok
     ·exact hu
     ·exact bv_pair hu h3
    ·cases h;cases ok
     ·exact z_bv (hT et ie hge).1
     ·exact bv_pair (z_bv (hT et ie hge).1) (z_base (hT et ie hge).1)
    ·cases h
   ·cases h
  ·cases h
 ·cases h
theorem slc_bv {lo hi mx:Option Value}(hx:BV K x)(h:slc tys H t x lo hi mx=some v):BV K v:=by
 unfold slc at h;simp only[lD_eq,lT_eq,lL_eq,lB_eq] at h;split at h
 ·split at h
  ·split at h
   ·obtain⟨_,h⟩:=cnd h;cases h;exact bv_plain rfl
   ·cases h
  ·cases h
 ·split at h
  ·obtain⟨_,h⟩:=cnd h;cases h;exact bv_plain rfl
  ·cases h
 ·rename_i a len cap e _ _ _ _ _;split at h
  ·split at h
   ·rename_i l hh m _ _ _;obtain⟨hc,h⟩:=cnd h;simp only[Bool.and_eq_true,Bool.or_eq_true,nbeq,decide_eq_true_eq,Nat.ble_eq,Nat.blt_eq] at hc;obtain⟨_,hcap⟩:=hc;have key:∀ρ ρ':Rn,Agr K ρ ρ'->ρ.f a.block=ρ'.f a.block/\rcap ρ a.block cap=rcap ρ' a.block cap:=fun ρ ρ' ha=>by
     have:=hx ρ ρ' ha;simpa using this
    split at h
    ·split at h
     ·obtain⟨hc2,h⟩:=cnd h;cases h;simp only[Bool.and_eq_true,Nat.ble_eq,Nat.blt_eq] at hc2;intro ρ ρ' ha;have e1:=(key ρ ρ' ha).1;have hm:∀ρ:Rn,rcap ρ a.block (m-l)=m-l:=fun ρ=>by unfold rcap;rw[if_pos (by omega)]
      simp only[ren_slice,e1,hm]
     ·cases h
    ·cases h;intro ρ ρ' ha;obtain⟨e1,e2⟩:=key ρ ρ' ha;have hm:rcap ρ a.block (cap-l)=rcap ρ' a.block (cap-l):=by
      unfold rcap at e2⊢
      rcases hcap with h1|⟨⟨h1,h2⟩,_⟩
      ·rw[if_pos (by omega),if_pos (by omega)]
      ·rw[if_neg (by omega),if_neg (by omega)] at e2;rw[if_neg (by omega),if_neg (by omega)];omega
     simp only[ren_slice,e1,hm]
   ·cases h
  ·cases h
 ·cases h
theorem opL_bv (hT:TyOk P tys)(hH:∀i o,H.get i=some o->OB K o){tm:T Value}(hb:BT K tm)(hg:∀g,g<16->K g){op:Op}(h:opL tys tm H op=some v):BV K v:=by
 rw[opL_eq] at h;unfold opLs at h;split at h
 ·split at h
  ·exact ld_bv hH h
  ·cases h
 ·split at h
  ·exact lkp_bv hT hH h
  ·cases h
 ·split at h
  ·rename_i h1 _ _ _;exact slc_bv (hb.opv hg h1) h
  ·cases h
 ·cases h
def Sub (H H':T AO):Prop:=∀i o,H.get i=some o->H'.get i=some o
end
end Go.EV
noncomputable section
namespace Go.EV
open Go Go.RowKit Go.RR Go.Lib
abbrev CallF:=Nat->List Value->T AO->Nat->Option (Value×T AO×Nat)
abbrev Meths:=Tab (List (String×Nat×Option Nat))
def findM:List (String×Nat×Option Nat)->String->Option (Nat×Option Nat)
 |[],_=>none
 |(a,f)::r,n=>bif decide (a=n) then some f else findM r n
section
variable {P:Program} {tys:Tab TI} {w0:World} {K:Nat->Prop} {ρ:Rn} {H:T AO} {w:World} {tm:T Value}
structure Left (w0:World)(K:Nat->Prop)(ρ:Rn)(H:T AO)(w:World)(nx:Nat)(v:Value)(H':T AO)(nx':Nat)(ρ':Rn)(w':World):Prop where
 agr:Agr K ρ ρ'
 h:RelH w0 (Upto K nx nx') ρ' H' w'
 bv:BV (Upto K nx nx') v
 frm:Frm ρ H w w'
 im:Im ρ H w ρ' H'
 le:nx<=nx'
def Base (K:Nat->Prop)(ρ:Rn)(nx:Nat):Prop:=(∀b,nx<=b->¬ K b)/\∀g,g<16->K g/\ρ.f g=g
def ActOk (P:Program)(w0:World)(K:Nat->Prop)(ρ:Rn)(H:T AO)(w:World)(nx:Nat)(o:Oper)(a:Act)(v:Value)(H':T AO)(nx':Nat):Prop:=
 ∀(next:Act->World->Prop) (Q:Exit->Act->World->Prop),(∀ρ' w',Left w0 K ρ H w nx v H' nx' ρ' w'->next (a.put o.dst (ren ρ' v)) w')->o.wp P a w next Q
def CfOk (P:Program)(w0:World)(cf:CallF):Prop:=∀K ρ H w nx g (args:List Value) v H' nx',RelH w0 K ρ H w->Base K ρ nx->(∀x∈args,BV K x)->cf g args H nx=some (v,H',nx')->
 ∀(o:Oper) (a:Act) (next:Act->World->Prop) (Q:Exit->Act->World->Prop),(∀ρ' w',Left w0 K ρ H w nx v H' nx' ρ' w'->next (a.put o.dst (ren ρ' v)) w')->o.upon P a next Q ((callFunc g (args.map (ren ρ)).toArray).run P w)
def MthOk (P:Program)(ms:Meths):Prop:=∀t l nm g q,ms.get t=some l->findM l nm=some (g,q)->∃i m,P.info? t=some i/\i.methods.find? (·.name==nm)=some m/\m.path=#[]/\m.func=some (g,q.isNone)/\∃e,P.underlying t=some (.pointer e)/\∀e',q=some e'->e'=e
variable {nx:Nat} {caps:Array Value}
theorem ren_undef:ren ρ undef=undef:=by simp[undef,ren]
theorem bv_undef:BV K undef:=fun ρ ρ' _=>by rw[ren_undef,ren_undef]
theorem wrap_ok (tys:Array TypeId)(ty:TypeId)(a:Addr)(x y:String):Builtin.ssaWrapNilChk_ tys ty #[.pointer (some a),strVal x,strVal y]=pure (.pointer (some a)):=rfl
def acts (tys:Tab TI)(ms:Meths)(cf:CallF)(tm:T Value)(H:T AO)(nx:Nat)(op:Op):Option (Value×T AO×Nat):=match op with
 | .store t x y=>match opv tm x,opv tm y with
  |some x,some y=>match st0 tys H t x y with
   |some H'=>some (undef,H',nx)
   |none=>none
  |_,_=>none
 | .mapUpdate t m k x=>match opv tm m,opv tm k,opv tm x with
  |some m,some k,some x=>match mu tys H t m k x with
   |some H'=>some (undef,H',nx)
   |none=>none
  |_,_,_=>none
 | .insert t m k x=>match opv tm m,opv tm k,opv tm x with
  |some m,some k,some x=>match mu tys H t m k x with
   |some H'=>some (undef,H',nx)
   |none=>none
  |_,_,_=>none
 | .call c=>match c.callee with
  | .value f=>match opv tm f,opvs tm c.args.toList with
   |some (.func (.func g) first caps),some vs=>bif allB0 first.toList&&allB0 caps.toList then cf g (first.toList++(vs++caps.toList)) H nx else none
   |_,_=>none
  | .invoke r name=>match opv tm r,opvs tm c.args.toList with
   |some (.iface t (.pointer (some p))),some vs=>match ms.get t with
    |some l=>match findM l name with
     |some (g,none)=>cf g (.pointer (some p)::vs) H nx
     |some (g,some e)=>match ld tys H e (.pointer (some p)) with
      |some v=>cf g (v::vs) H nx
      |none=>none
     |none=>none
    |none=>none
   |_,_=>none
  | .builtin .append=>match opvs tm c.args.toList,c.argTypes.toList with
   |some [.slice none 0 0,.int _ (.ofNat k)],[t,t']=>match tys.get t' with
    |some ⟨.int _,_,_,_,_⟩=>apz tys H nx t k
    |_=>none
   |some [x,y],[t,t']=>bif Nat.beq t t' then app tys H nx t x y else none
   |_,_=>none
  | .builtin .clear=>match opvs tm c.args.toList,c.argTypes.toList with
   |some [x],[t]=>match clr tys H t x with
    |some H'=>some (.tuple #[],H',nx)
    |none=>none
   |_,_=>none
  |_=>none
 |_=>none
def act (tys:Tab TI)(ms:Meths)(cf:CallF)(tm:T Value)(H:T AO)(nx:Nat)(op:Op):Option (Value×T AO×Nat):=Op.rec (motive:=fun _=>Tab TI->Meths->CallF->T Value->T AO->Nat->Option (Value×T AO×Nat))
 (fun f0 tys ms cf tm H nx=>acts tys ms cf tm H nx (.move f0))
 (fun f0 tys ms cf tm H nx=>acts tys ms cf tm H nx (.assign f0))
 (fun f0 f1 f2 tys ms cf tm H nx=>acts tys ms cf tm H nx (.pick f0 f1 f2))
 (fun f0 tys ms cf tm H nx=>acts tys ms cf tm H nx (.alloc f0))
 (fun f0 f1 tys ms cf tm H nx=>acts tys ms cf tm H nx (.box f0 f1))
 (fun f0 f1 tys ms cf tm H nx=>acts tys ms cf tm H nx (.build f0 f1))
 (fun f0 f1 f2 tys ms cf tm H nx=>acts tys ms cf tm H nx (.buildSlice f0 f1 f2))
 (fun f0 f1 f2 f3 tys ms cf tm H nx=>acts tys ms cf tm H nx (.insert f0 f1 f2 f3))
 (fun f0 f1 tys ms cf tm H nx=>acts tys ms cf tm H nx (.load f0 f1))
 (fun t x y tys ms cf tm H nx=>match opv tm x,opv tm y with
  |some x,some y=>match st0 tys H t x y with
   |some H'=>some (undef,H',nx)
   |none=>none
  |_,_=>none)
 (fun f0 tys ms cf tm H nx=>acts tys ms cf tm H nx (.ready f0))
 (fun f0 tys ms cf tm H nx=>acts tys ms cf tm H nx (.waits f0))
 (fun f0 tys ms cf tm H nx=>acts tys ms cf tm H nx (.nilCheck f0))
 (fun f0 f1 f2 f3 f4 tys ms cf tm H nx=>acts tys ms cf tm H nx (.binOp f0 f1 f2 f3 f4))
 (fun f0 f1 f2 tys ms cf tm H nx=>acts tys ms cf tm H nx (.unOp f0 f1 f2))
 (fun f0 f1 f2 tys ms cf tm H nx=>acts tys ms cf tm H nx (.convert f0 f1 f2))
 (fun f0 f1 tys ms cf tm H nx=>acts tys ms cf tm H nx (.sliceToArrayPointer f0 f1))
 (fun f0 f1 tys ms cf tm H nx=>acts tys ms cf tm H nx (.makeInterface f0 f1))
 (fun f0 f1 f2 tys ms cf tm H nx=>acts tys ms cf tm H nx (.makeFunc f0 f1 f2))
 (fun f0 f1 tys ms cf tm H nx=>acts tys ms cf tm H nx (.makeMap f0 f1))
 (fun f0 f1 tys ms cf tm H nx=>acts tys ms cf tm H nx (.makeChan f0 f1))
 (fun f0 f1 f2 tys ms cf tm H nx=>acts tys ms cf tm H nx (.makeSlice f0 f1 f2))
 (fun f0 f1 f2 f3 f4 tys ms cf tm H nx=>acts tys ms cf tm H nx (.slice f0 f1 f2 f3 f4))
 (fun f0 f1 f2 tys ms cf tm H nx=>acts tys ms cf tm H nx (.fieldAddr f0 f1 f2))
 (fun f0 f1 f2 tys ms cf tm H nx=>acts tys ms cf tm H nx (.field f0 f1 f2))
 (fun f0 f1 f2 tys ms cf tm H nx=>acts tys ms cf tm H nx (.indexAddr f0 f1 f2))
 (fun f0 f1 f2 tys ms cf tm H nx=>acts tys ms cf tm H nx (.index f0 f1 f2))
 (fun f0 f1 f2 f3 tys ms cf tm H nx=>acts tys ms cf tm H nx (.lookup f0 f1 f2 f3))
 (fun f0 f1 f2 f3 tys ms cf tm H nx=>acts tys ms cf tm H nx (.mapUpdate f0 f1 f2 f3))
 (fun f0 f1 f2 tys ms cf tm H nx=>acts tys ms cf tm H nx (.mapEntry f0 f1 f2))
 (fun f0 f1 f2 f3 tys ms cf tm H nx=>acts tys ms cf tm H nx (.entryStore f0 f1 f2 f3))
 (fun f0 f1 tys ms cf tm H nx=>acts tys ms cf tm H nx (.range f0 f1))
 (fun f0 f1 tys ms cf tm H nx=>acts tys ms cf tm H nx (.next f0 f1))
 (fun f0 tys ms cf tm H nx=>acts tys ms cf tm H nx (.entry f0))
 (fun f0 f1 f2 f3 tys ms cf tm H nx=>acts tys ms cf tm H nx (.typeAssert f0 f1 f2 f3))
 (fun f0 f1 tys ms cf tm H nx=>acts tys ms cf tm H nx (.extract f0 f1))
 (fun f0 tys ms cf tm H nx=>acts tys ms cf tm H nx (.call f0))
 (fun f0 tys ms cf tm H nx=>acts tys ms cf tm H nx (.go f0))
 (fun f0 tys ms cf tm H nx=>acts tys ms cf tm H nx (.defer f0))
 (fun f0 tys ms cf tm H nx=>acts tys ms cf tm H nx (.panic f0))
 (fun f0 f1 tys ms cf tm H nx=>acts tys ms cf tm H nx (.send f0 f1))
 (fun f0 f1 f2 tys ms cf tm H nx=>acts tys ms cf tm H nx (.recv f0 f1 f2))
 (fun f0 f1 tys ms cf tm H nx=>acts tys ms cf tm H nx (.select f0 f1))
 op tys ms cf tm H nx
theorem act_eq {ms:Meths}{cf:CallF}{tm:T Value}{H:T AO}{op:Op}:act tys ms cf tm H nx op=acts tys ms cf tm H nx op:=by cases op<;>rfl
theorem BT.opvs (hb:BT K tm)(hg:∀g,g<16->K g):∀{l:List Operand} {vs:List Value},opvs tm l=some vs->∀v∈vs,BV K v
 |[],vs,h,v,hv=>by cases h;cases hv
 |x::r,vs,h,v,hv=>by
  unfold EV.opvs at h;split at h
  ·rename_i u hu;split at h
   ·rename_i l hl;cases h
    rcases List.mem_cons.1 hv with rfl|h2
    ·exact hb.opv hg hu
    ·exact BT.opvs hb hg hl v h2
   ·cases h
  ·cases h
theorem left_same {w':World}{H':T AO}(h:RelH w0 K ρ H' w')(hf:Frm ρ H w w')(hk:Keys H H'){v:Value}(hv:BV K v):Left w0 K ρ H w nx v H' nx ρ w':=
 ⟨.refl _ _,upto_self h,(hv.mono fun _ h=>.inl h),hf,.keys hk,Nat.le_refl _⟩
theorem allB0_mem:∀{l:List Value},allB0 l=true->∀x∈l,base0 x=true
 |[],_,x,hx=>by cases hx
 |y::l,h,x,hx=>by
  unfold allB0 at h;rw[Bool.and_eq_true] at h
  rcases List.mem_cons.1 hx with rfl|h2
  ·exact h.1
  ·exact allB0_mem h.2 x h2
theorem bv_caps {fn:Fn}{first:Array Value}(h:BV K (.func fn first caps))(hb:allB0 caps.toList=true):∀x∈caps.toList,BV K x:=fun x hx ρ ρ' ha=>by
 have:=h ρ ρ' ha;simp only[ren,ren2,ren1,Value.func.injEq,true_and] at this;have h2:=congrArg Array.toList this.2;simp only[Array.toList_map] at h2;rw[ren_base0 (allB0_mem hb x hx),ren_base0 (allB0_mem hb x hx)];exact List.map_inj_left.1 h2 x hx
theorem bv_first {fn:Fn}{first:Array Value}(h:BV K (.func fn first caps))(hb:allB0 first.toList=true):∀x∈first.toList,BV K x:=fun x hx ρ ρ' ha=>by
 have:=h ρ ρ' ha;simp only[ren,ren2,ren1,Value.func.injEq,true_and] at this;have h2:=congrArg Array.toList this.1;simp only[Array.toList_map] at h2;rw[ren_base0 (allB0_mem hb x hx),ren_base0 (allB0_mem hb x hx)];exact List.map_inj_left.1 h2 x hx
theorem act_ok (hT:TyOk P tys){ms:Meths}(hM:MthOk P ms){cf:CallF}(hC:CfOk P w0 cf)(hw:RelH w0 K ρ H w)(hB:Base K ρ nx){a:Act}(hb:BT K tm)(hr:Rv ρ tm a.eval){o:Oper}{v:Value}{H':T AO}{nx':Nat}(h:act tys ms cf tm H nx o.op=some (v,H',nx')):
  ActOk P w0 K ρ H w nx o a v H' nx':=by
 intro next Q hn
 have hg:∀g,g<16->K g:=fun g hg=>(hB.2 g hg).1;have hsz:w0.heap.size<=w.heap.size:=hw.upd.size;rw[act_eq] at h;unfold acts at h;unfold Oper.wp;split at h
 ·rename_i t x y ho;split at h
  ·rename_i x' y' hx hy;split at h
   ·rename_i H2 hs;cases h;obtain⟨w',h1,h2,h3⟩:=run_st0 hT hw (hb.opv hg hy) hs;have:=hn ρ w' (left_same h2 h3 (st0_keys hs) bv_undef);simp only[execOp,ho,hr _ _ hx,hr _ _ hy,Sem.run_bind,h1,Result.andThen_ok];rw[ren_undef] at this;exact this
   ·cases h
  ·cases h
 ·rename_i t m k x ho;split at h
  ·rename_i m' k' x' hm hk hx;split at h
   ·rename_i H2 hs;cases h;obtain⟨w',h1,h2,h3⟩:=run_mu hT hw (hb.opv hg hx) hs;have:=hn ρ w' (left_same h2 h3 (mu_keys hs) bv_undef);simp only[execOp,ho,hr _ _ hm,hr _ _ hk,hr _ _ hx,Sem.run_bind,h1,Result.andThen_ok];rw[ren_undef] at this;exact this
   ·cases h
  ·cases h
 ·rename_i t m k x ho;split at h
  ·rename_i m' k' x' hm hk hx;split at h
   ·rename_i H2 hs;cases h;obtain⟨w',h1,h2,h3⟩:=run_mu hT hw (hb.opv hg hx) hs;have:=hn ρ w' (left_same h2 h3 (mu_keys hs) bv_undef);simp only[execOp,ho,hr _ _ hm,hr _ _ hk,hr _ _ hx,Sem.run_bind,h1,Result.andThen_ok];rw[ren_undef] at this;exact this
   ·cases h
  ·cases h
 ·rename_i c ho;simp only[execOp,ho];split at h
  ·rename_i f hc;split at h
   ·rename_i g first caps vs hf hvs
    obtain⟨hq,h⟩:=cnd h;rw[Bool.and_eq_true] at hq;obtain⟨q1,q2⟩:=hq;have hfv:=hb.opv hg hf
    have hargs:∀x∈first.toList++(vs++caps.toList),BV K x:=fun x hx=>(List.mem_append.1 hx).elim (bv_first hfv q1 x) fun hx=>(List.mem_append.1 hx).elim (hb.opvs hg hvs x) (bv_caps hfv q2 x)
    have:=hC K ρ H w nx g _ v H' nx' hw hB hargs h o a next Q hn
    have e1:c.args.map a.eval=(vs.map (ren ρ)).toArray:=by
     apply Array.toList_inj.1;rw[Array.toList_map,hr.list hvs]
    have e2:ren ρ (.func (.func g) first caps)=.func (.func g) (first.map (ren0 ρ)) (caps.map (ren0 ρ)):=rfl
    have e3:(first.map (ren0 ρ)++(vs.map (ren ρ)).toArray)++caps.map (ren0 ρ)=((first.toList++(vs++caps.toList)).map (ren ρ)).toArray:=by
     apply Array.toList_inj.1;rw[List.map_append,List.map_append,allB0_ok q2,allB0_ok q1];simp
    rw[<- e3] at this;simpa[resolve,hc,hr _ _ hf,e2,e1,Deferred.ofValue,invoke] using this
   ·cases h
  ·rename_i r name hc;split at h
   ·rename_i t p vs hrv hvs;split at h
    ·rename_i l hl;have e1:c.args.map a.eval=(vs.map (ren ρ)).toArray:=by
      apply Array.toList_inj.1;rw[Array.toList_map,hr.list hvs]
     have hvb:=hb.opv hg hrv;have hpb:BV K (.pointer (some p)):=fun ρ ρ' ha=>by
      have:=hvb ρ ρ' ha;simpa[ren,ren2,ren1,ren0] using this
     have e2:ren ρ (.iface t (.pointer (some p)))=.iface t (.pointer (some ⟨ρ.f p.block,p.off,p.spot⟩)):=rfl;have e5:List.take vs.length (vs.map (ren ρ))=vs.map (ren ρ):=List.take_of_length_le (by simp);obtain⟨kk,hkk⟩:∃k,P.types.size+Made.depth=k+1:=⟨P.types.size+Made.depth-1,by
      have h:0<Made.depth:=by decide
      omega⟩
     split at h
     ·rename_i g hfm;obtain⟨i,m,m1,m2,m3,m4,e,m5,m6⟩:=hM t l name g none hl hfm;have:=hC K ρ H w nx g _ v H' nx' hw hB (fun x hx=>by
       rcases List.mem_cons.1 hx with rfl|h2
       ·exact hpb
       ·exact hb.opvs hg hvs x h2) h o a next Q hn
      have key:(method (P.types.size+Made.depth) t (.pointer (some ⟨ρ.f p.block,p.off,p.spot⟩)) name).run P w=.ok (g,.pointer (some ⟨ρ.f p.block,p.off,p.spot⟩)) w:=by
       rw[hkk];unfold method;simp[run_typeInfo w m1,m2,m3,m4,follow,receiverAt,run_underlying m5,Place.get]
      have e4:#[Value.pointer (some ⟨ρ.f p.block,p.off,p.spot⟩)]++(vs.map (ren ρ)).toArray=((.pointer (some p)::vs).map (ren ρ)).toArray:=by
       apply Array.toList_inj.1;simp
      rw[<- e4] at this;simp only[resolve,hc,hr _ _ hrv,e2,e1,Sem.run_bind,Sem.run_pure,Result.andThen_ok,invoke];simpa[callMethod,run_program,key,e5] using this
     ·rename_i g e hfm;obtain⟨i,m,m1,m2,m3,m4,e',m5,m6⟩:=hM t l name g (some e) hl hfm;obtain rfl:=m6 e rfl;split at h
      ·rename_i u hu;have hld:=run_ld hT hw hu;have hub:=ld_bv hw.bnd hu;have:=hC K ρ H w nx g _ v H' nx' hw hB (fun x hx=>by
        rcases List.mem_cons.1 hx with rfl|h2
        ·exact hub
        ·exact hb.opvs hg hvs x h2) h o a next Q hn
       have key:(method (P.types.size+Made.depth) t (.pointer (some ⟨ρ.f p.block,p.off,p.spot⟩)) name).run P w=.ok (g,ren ρ u) w:=by
        rw[hkk];unfold method;have hld2:(loadVar e ⟨ρ.f p.block,p.off,p.spot⟩).run P w=.ok (ren ρ u) w:=by
         simpa[Instr.loadAt,Instr.sureAddr,asAddr] using hld
        simp[run_typeInfo w m1,m2,m3,m4,follow,receiverAt,run_underlying m5,Place.get,wrap_ok,asAddr,hld2]
       have e4:#[ren ρ u]++(vs.map (ren ρ)).toArray=((u::vs).map (ren ρ)).toArray:=by
        apply Array.toList_inj.1;simp
       rw[<- e4] at this;simp only[resolve,hc,hr _ _ hrv,e2,e1,Sem.run_bind,Sem.run_pure,Result.andThen_ok,invoke];simpa[callMethod,run_program,key,e5] using this
      ·cases h
     ·cases h
    ·cases h
   ·cases h
  ·rename_i hc;split at h
   ·rename_i k kn t t' hvs hts;split at h
    ·rename_i kk _ _ _ _ hgt;have hu:P.underlying t'=_:=(hT t' _ hgt).1.d;have e1:c.args.map a.eval=#[ren ρ (.slice none 0 0),ren ρ (.int k (kn:Int))]:=by
      apply Array.toList_inj.1;rw[Array.toList_map,hr.list hvs];rfl
     have e2:c.argTypes=#[t,t']:=Array.toList_inj.1 hts;obtain⟨ρ',w',a1,a2,a3,a4,a5,a6,a7⟩:=run_apz (ty:=o.type) (k:=k) hT hw hsz hB.1 hu h;have:=hn ρ' w' ⟨a2,a3,a4,a5,a6,a7⟩;simp only[resolve,hc,e1,e2,Sem.run_bind,Sem.run_pure,Result.andThen_ok,invoke,builtin];rw[a1];exact this
    ·cases h
   ·rename_i x y t t' _ hvs hts;have h9:=cnd h;clear h;obtain⟨q,h⟩:=h9;rw[nbeq,decide_eq_true_eq] at q;subst q;have e1:c.args.map a.eval=#[ren ρ x,ren ρ y]:=by
     apply Array.toList_inj.1;rw[Array.toList_map,hr.list hvs];rfl
    have e2:c.argTypes=#[t,t]:=Array.toList_inj.1 hts;obtain⟨ρ',w',a1,a2,a3,a4,a5,a6,a7⟩:=run_app (ty:=o.type) hT hw hsz hB.1 (hb.opvs hg hvs x (by simp)) h;have:=hn ρ' w' ⟨a2,a3,a4,a5,a6,a7⟩;simp only[resolve,hc,e1,e2,Sem.run_bind,Sem.run_pure,Result.andThen_ok,invoke,builtin];rw[a1];exact this
   ·cases h
  ·rename_i hc;split at h
   ·rename_i x t hvs hts;split at h
    ·rename_i H2 hs;cases h;have e1:c.args.map a.eval=#[ren ρ x]:=by
      apply Array.toList_inj.1;rw[Array.toList_map,hr.list hvs];rfl
     have e2:c.argTypes=#[t]:=Array.toList_inj.1 hts;obtain⟨w',h1,h2,h3⟩:=run_clr (ty:=o.type) hT hw hs;have:=hn ρ w' (left_same h2 h3 (clr_keys hs) bv_undef);simp only[resolve,hc,e1,e2,Sem.run_bind,Sem.run_pure,Result.andThen_ok,invoke,builtin];rw[h1];have e3:ren ρ (.tuple #[])=.tuple #[]:=by simp[ren]
     rw[e3] at this;exact this
    ·cases h
   ·cases h
  ·cases h
 ·cases h
end
end Go.EV
noncomputable section
namespace Go.EV
open Go Go.RowKit Go.RR Go.Lib
variable {b:Value}
inductive Kd where|soft|read|make|act
structure Ck where
 i:Nat
 need:List Nat
 adds:List Nat
 old:List Nat
structure PI where
 i:Nat
 kd:Kd
 need:List Nat
 anc:List Nat
 adds:List Nat
 chk:List Ck
 old:List Nat
def memN (a:Nat):List Nat->Bool
 |[]=>false
 |b::r=>bif Nat.beq a b then true else memN a r
theorem memN_iff {a:Nat}:∀{l:List Nat},memN a l=true<->a∈l
 |[]=>by simp[memN]
 |b::r=>by
  unfold memN;rw[nbeq,List.mem_cons];by_cases h:a=b
  ·simp[h]
  ·simp[h,memN_iff]
def dstOf (ops:List Oper)(j:Nat):Option Nat:=match nth ops j with
 |some o=>o.dst
 |none=>none
def tmN (ops:List Oper)(vs:T Value)(base:T Value):List Nat->T Value
 |[]=>base
 |j::r=>match dstOf ops j,vs.get j with
  |some d,some v=>(tmN ops vs base r).put d v
  |_,_=>tmN ops vs base r
def olds (tm0 base:T Value):List Nat->T Value
 |[]=>base
 |d::r=>match tm0.get d with
  |some v=>(olds tm0 base r).put d v
  |none=>olds tm0 base r
def want (ops:List Oper)(vs:T Value)(need:List Nat)(o:Oper):Option Bool:=match o.guard with
 |none=>some true
 |some (j,b)=>bif memN j need then (match dstOf ops j,vs.get j with
  |some _,some (.bool c)=>some (bif b then c else !c)
  |some _,some (.tuple _)=>some false
  |_,_=>none) else none
def addsT (n0:Nat)(os:T AO)(H:T AO):List Nat->T AO
 |[]=>H
 |j::r=>match os.get j with
  |some ob=>(addsT n0 os H r).put (n0+j) ob
  |none=>addsT n0 os H r
def vEq0:Value->Value->Bool
 | .pointer (some a),.pointer (some b)=>Nat.beq a.block b.block&&Nat.beq a.off b.off&&isN a.spot&&isN b.spot
 | .slice (some a) l c,.slice (some b) l' c'=>Nat.beq a.block b.block&&Nat.beq a.off b.off&&isN a.spot&&isN b.spot&&Nat.beq l l'&&Nat.beq c c'
 | .map (some a),.map (some b)=>Nat.beq a b
 |a,b=>pEq a b
def vEqs (f:Value->Value->Bool):List Value->List Value->Bool
 |[],[]=>true
 |a::l,b::m=>bif f a b then vEqs f l m else false
 |_,_=>false
def vEq1:Value->Value->Bool
 | .func (.func f) a b,.func (.func g) c d=>Nat.beq f g&&vEqs vEq0 a.toList c.toList&&vEqs vEq0 b.toList d.toList
 | .iface t a,.iface u b=>Nat.beq t u&&vEq0 a b
 |a,b=>vEq0 a b
def vEq2:Value->Value->Bool
 | .agg a,.agg b=>vEqs vEq1 a.toList b.toList
 |a,b=>vEq1 a b
def vEq:Value->Value->Bool
 | .tuple a,.tuple b=>vEqs vEq2 a.toList b.toList
 |a,b=>vEq2 a b
theorem vEqs_eq {f:Value->Value->Bool}(hf:∀a b,f a b=true->a=b):∀{l m:List Value},vEqs f l m=true->l=m
 |[],[],_=>rfl
 |a::l,b::m,h=>by
  unfold vEqs at h
  cases he:f a b with
  |false=>rw[he] at h;cases h
  |true=>rw[he] at h;rw[hf a b he,vEqs_eq hf h]
 |[],_::_,h=>by cases h
 |_::_,[],h=>by cases h
theorem vEq0_eq {a:Value}(h:vEq0 a b=true):a=b:=by
 unfold vEq0 at h;split at h
 ·rename_i a b;simp only[Bool.and_eq_true,nbeq,decide_eq_true_eq] at h;obtain⟨⟨⟨h1,h2⟩,h3⟩,h4⟩:=h;have h3:=isN_eq h3;have h4:=isN_eq h4;cases a;cases b;simp_all
 ·rename_i a l c b l' c';simp only[Bool.and_eq_true,nbeq,decide_eq_true_eq] at h;obtain⟨⟨⟨⟨⟨h1,h2⟩,h3⟩,h4⟩,h5⟩,h6⟩:=h;have h3:=isN_eq h3;have h4:=isN_eq h4;cases a;cases b;simp_all
 ·rw[nbeq,decide_eq_true_eq] at h;rw[h]
 ·exact pEq_eq h
theorem vEq1_eq {a:Value}(h:vEq1 a b=true):a=b:=by
 unfold vEq1 at h;split at h
 ·simp only[Bool.and_eq_true,nbeq,decide_eq_true_eq] at h;obtain⟨⟨h1,h2⟩,h3⟩:=h;rw[h1,Array.toList_inj.1 (vEqs_eq (fun _ _=>vEq0_eq) h2),Array.toList_inj.1 (vEqs_eq (fun _ _=>vEq0_eq) h3)]
 ·simp only[Bool.and_eq_true,nbeq,decide_eq_true_eq] at h;rw[h.1,vEq0_eq h.2]
 ·exact vEq0_eq h
theorem vEq2_eq {a:Value}(h:vEq2 a b=true):a=b:=by
 unfold vEq2 at h;split at h
 ·rw[Array.toList_inj.1 (vEqs_eq (fun _ _=>vEq1_eq) h)]
 ·exact vEq1_eq h
theorem vEq_eq {a:Value}(h:vEq a b=true):a=b:=by
 unfold vEq at h;split at h
 ·rw[Array.toList_inj.1 (vEqs_eq (fun _ _=>vEq2_eq) h)]
 ·exact vEq2_eq h
structure DS where
 vs:T Value
 os:T AO
 H:T AO
 nx:Nat
structure DX where
 tys:Tab TI
 ms:Meths
 cf:CallF
 ops:List Oper
 base:T Value
 n0:Nat
 tm0:T Value
def readV (X:DX)(vs:T Value)(H:T AO)(need old:List Nat)(o:Oper):Option Value:=match want X.ops vs need o with
 |some true=>opL X.tys (tmN X.ops vs (olds X.tm0 X.base old) need) H o.op
 |some false=>some undef
 |none=>none
def rechk (X:DX)(vs:T Value)(os H:T AO):List Ck->Bool
 |[]=>true
 |c::r=>match nth X.ops c.i with
  |some o=>match readV X vs (addsT X.n0 os H c.adds) c.need c.old o,vs.get c.i with
   |some v,some u=>bif vEq v u then rechk X vs os H r else false
   |_,_=>false
  |none=>false
def stepD (X:DX)(p:PI)(s:DS):Option DS:=match nth X.ops p.i with
 |none=>none
 |some o=>match p.kd with
  | .soft=>match want X.ops s.vs p.need o with
   |some true=>match opP X.tys (tmN X.ops s.vs (olds X.tm0 X.base p.old) p.need) o.op with
    |some v=>some ⟨s.vs.put p.i v,s.os,s.H,s.nx⟩
    |none=>none
   |some false=>some ⟨s.vs.put p.i undef,s.os,s.H,s.nx⟩
   |none=>none
  | .read=>match readV X s.vs (addsT X.n0 s.os s.H p.adds) p.need p.old o with
   |some v=>some ⟨s.vs.put p.i v,s.os,s.H,s.nx⟩
   |none=>none
  | .make=>match want X.ops s.vs p.need o with
   |some true=>match opA X.tys (tmN X.ops s.vs (olds X.tm0 X.base p.old) p.need) (X.n0+p.i) o.op with
    |some (v,ob)=>some ⟨s.vs.put p.i v,s.os.put p.i ob,s.H,s.nx⟩
    |none=>none
   |some false=>some ⟨s.vs.put p.i undef,s.os,s.H,s.nx⟩
   |none=>none
  | .act=>match want X.ops s.vs p.need o with
   |some true=>match act X.tys X.ms X.cf (tmN X.ops s.vs (olds X.tm0 X.base p.old) p.need) (addsT X.n0 s.os s.H p.adds) s.nx o.op with
    |some (v,H,nx)=>bif rechk X s.vs s.os H p.chk then some ⟨s.vs.put p.i v,s.os,H,nx⟩ else none
    |none=>none
   |some false=>bif rechk X s.vs s.os (addsT X.n0 s.os s.H p.adds) p.chk then some ⟨s.vs.put p.i undef,s.os,addsT X.n0 s.os s.H p.adds,s.nx⟩ else none
   |none=>none
def runD (X:DX):List PI->DS->Option DS
 |[],s=>some s
 |p::r,s=>match stepD X p s with
  |some s=>runD X r s
  |none=>none
def Kd.isAct:Kd->Bool | .act=>true|_=>false
def Kd.isMake:Kd->Bool | .make=>true|_=>false
def Kd.isRead:Kd->Bool | .read=>true|_=>false
def direct (o:Oper)(j:Nat):Bool:=o.after.toList.any fun e=>Region.binds .any e&&Nat.beq e.on j
def ancOk (o:Oper)(em:List PI)(j:Nat):Bool:=direct o j||em.any fun q=>direct o q.i&&memN j q.anc
def sub (a b:List Nat):Bool:=a.all fun x=>memN x b
def addOk (em:List PI)(ad:List Nat)(anc:List Nat)(j:Nat):Bool:=memN j anc&&!memN j ad&&em.any fun q=>Nat.beq q.i j&&q.kd.isMake
def eqN:List Nat->List Nat->Bool
 |[],[]=>true
 |a::l,b::m=>Nat.beq a b&&eqN l m
 |_,_=>false
theorem eqN_eq:∀{l m:List Nat},eqN l m=true->l=m
 |[],[],_=>rfl
 |a::l,b::m,h=>by
  unfold eqN at h;rw[Bool.and_eq_true,nbeq,decide_eq_true_eq] at h;rw[h.1,eqN_eq h.2]
 |[],_::_,h=>by cases h
 |_::_,[],h=>by cases h
def ckOk (em:List PI)(ad:List Nat)(chk:List Ck)(q:PI):Bool:=chk.any fun c=>Nat.beq c.i q.i&&eqN c.need q.need&&eqN c.old q.old&&c.adds.all fun j=>addOk em ad q.anc j
def dNe (a b:Option Nat):Bool:=match a,b with
 |some x,some y=>!Nat.beq x y
 |_,_=>true
def plOne (n:Nat)(ops:List Oper)(p:PI)(em:List PI)(es ad:List Nat):Bool:=match nth ops p.i with
 |none=>false
 | some o=>em.all (fun q=>!Nat.beq q.i p.i&&dNe (dstOf ops q.i) o.dst&&(match o.dst with|some d=>!memN d q.old||memN q.i p.anc|none=>true)&&p.old.all fun d=>dNe (dstOf ops q.i) (some d))&&p.anc.all (ancOk o em)&&sub p.need p.anc&&p.anc.all (fun j=>em.any fun q=>Nat.beq q.i j&&sub q.anc p.anc)&&p.adds.all (addOk em ad p.anc)&&sub es p.anc&&
   (match o.dst with|some d=>Nat.blt d n|none=>true)&&o.after.toList.all (fun e=>!Region.binds .any e||memN e.on p.anc)&&
   (bif p.kd.isAct then em.all (fun q=>(!q.kd.isMake||!memN q.i p.anc||memN q.i ad||memN q.i p.adds)&&(!q.kd.isRead||memN q.i p.anc||ckOk em (p.adds++ad) p.chk q)) else true)
def plChk (n:Nat)(ops:List Oper):List PI->List PI->List Nat->List Nat->Bool
 |[],em,_,_=>(List.range ops.length).all fun i=>em.any fun q=>Nat.beq q.i i
 |p::r,em,es,ad=>plOne n ops p em es ad&&plChk n ops r (p::em) (bif p.kd.isAct then p.i::es else es) (bif p.kd.isAct then p.adds++ad else ad)
end Go.EV
noncomputable section
namespace Go.EV
open Go Go.RowKit Go.RR Go.Lib
variable {k:Kd}
def actsR:List PI->List Nat->List Nat
 |[],es=>es
 |p::r,es=>actsR r (bif p.kd.isAct then p.i::es else es)
def addsR:List PI->List Nat->List Nat
 |[],ad=>ad
 |p::r,ad=>addsR r (bif p.kd.isAct then p.adds++ad else ad)
theorem mem_actsR {j:Nat}:∀{l:List PI} {es:List Nat},j∈actsR l es<->j∈es\/∃p∈l,p.kd=.act/\p.i=j
 |[],es=>by simp[actsR]
 |p::r,es=>by
  unfold actsR;rw[mem_actsR];cases hk:p.kd<;>simp[Kd.isAct,hk];constructor
  ·rintro ((h|h)|h)
   ·exact .inr (.inl h.symm)
   ·exact .inl h
   ·exact .inr (.inr h)
  ·rintro (h|h|h)
   ·exact .inl (.inr h)
   ·exact .inl (.inl h.symm)
   ·exact .inr h
theorem mem_addsR {j:Nat}:∀{l:List PI} {ad:List Nat},j∈addsR l ad<->j∈ad\/∃p∈l,p.kd=.act/\j∈p.adds
 |[],ad=>by simp[addsR]
 |p::r,ad=>by
  unfold addsR;rw[mem_addsR];cases hk:p.kd<;>simp[Kd.isAct,hk];constructor
  ·rintro ((h|h)|h)
   ·exact .inr (.inl h)
   ·exact .inl h
   ·exact .inr (.inr h)
  ·rintro (h|h|h)
   ·exact .inl (.inr h)
   ·exact .inl (.inl h)
   ·exact .inr h
theorem plChk_split {n:Nat}{ops:List Oper}:∀{l1:List PI} {p:PI} {l2 em:List PI} {es ad:List Nat},plChk n ops (l1++p::l2) em es ad=true->plOne n ops p (l1.reverse++em) (actsR l1 es) (addsR l1 ad)=true
 |[],p,l2,em,es,ad,h=>by
  simp only[List.nil_append,plChk,Bool.and_eq_true] at h;exact h.1
 |q::l1,p,l2,em,es,ad,h=>by
  simp only[List.cons_append,plChk,Bool.and_eq_true] at h;have:=plChk_split h.2;simpa[actsR,addsR] using this
theorem plChk_all {n:Nat}{ops:List Oper}:∀{l em:List PI} {es ad:List Nat},plChk n ops l em es ad=true->∀i,i<ops.length->∃q,(q∈l\/q∈em)/\q.i=i
 |[],em,es,ad,h,i,hi=>by
  simp only[plChk] at h;have:=List.all_eq_true.1 h i (List.mem_range.2 hi);obtain⟨q,h1,h2⟩:=List.any_eq_true.1 this;rw[nbeq,decide_eq_true_eq] at h2;exact⟨q,.inr h1,h2⟩
 |p::r,em,es,ad,h,i,hi=>by
  simp only[plChk,Bool.and_eq_true] at h;obtain⟨q,h1,h2⟩:=plChk_all h.2 i hi
  rcases h1 with h1|h1
  ·exact⟨q,.inl (List.mem_cons_of_mem _ h1),h2⟩
  ·rcases List.mem_cons.1 h1 with rfl|h1
   ·exact⟨q,.inl List.mem_cons_self,h2⟩
   ·exact⟨q,.inr h1,h2⟩
structure At (n:Nat)(ops:List Oper)(pl:List PI)(t:Nat)(p:PI)(o:Oper):Prop where
 op:ops[p.i]?=some o
 ne:∀s q,s<t->pl[s]?=some q->q.i≠p.i/\∀d e,dstOf ops q.i=some d->o.dst=some e->d≠e
 old1:∀s q d,s<t->pl[s]?=some q->d∈p.old->dstOf ops q.i≠some d
 old2:∀s q d,s<t->pl[s]?=some q->d∈q.old->o.dst=some d->q.i∈p.anc
 anc:∀j∈p.anc,direct o j=true\/∃s q,s<t/\pl[s]?=some q/\direct o q.i=true/\j∈q.anc
 need:∀j∈p.need,j∈p.anc
 up:∀j∈p.anc,∃s q,s<t/\pl[s]?=some q/\q.i=j/\∀x∈q.anc,x∈p.anc
 adds:∀j∈p.adds,j∈p.anc/\(∀s q,s<t->pl[s]?=some q->q.kd=.act->j∉q.adds)/\∃s q,s<t/\pl[s]?=some q/\q.i=j/\q.kd=.make
 acts:∀s q,s<t->pl[s]?=some q->q.kd=.act->q.i∈p.anc
 dst:∀d,o.dst=some d->d<n
 dirs:∀j,direct o j=true->j∈p.anc
 made:p.kd=.act->∀s q,s<t->pl[s]?=some q->q.kd=.make->q.i∈p.anc->q.i∈p.adds\/∃s' q',s'<t/\pl[s']?=some q'/\q'.kd=.act/\q.i∈q'.adds
 ck:p.kd=.act->∀s q,s<t->pl[s]?=some q->q.kd=.read->q.i∉p.anc->∃c∈p.chk,c.i=q.i/\c.need=q.need/\c.old=q.old/\∀j∈c.adds,j∈q.anc/\j∉p.adds/\(∀s' q',s'<t->pl[s']?=some q'->q'.kd=.act->j∉q'.adds)/\∃s' q',s'<t/\pl[s']?=some q'/\q'.i=j/\q'.kd=.make
theorem isAct_iff:k.isAct=true<->k=.act:=by cases k<;>simp[Kd.isAct]
theorem isMake_iff:k.isMake=true<->k=.make:=by cases k<;>simp[Kd.isMake]
theorem isRead_iff:k.isRead=true<->k=.read:=by cases k<;>simp[Kd.isRead]
theorem sub_iff {a b:List Nat}:sub a b=true<->∀x∈a,x∈b:=by
 unfold sub;rw[List.all_eq_true];exact⟨fun h x hx=>memN_iff.1 (h x hx),fun h x hx=>memN_iff.2 (h x hx)⟩
theorem at_of {n:Nat}{ops:List Oper}{pl:List PI}(h:plChk n ops pl [] [] []=true){t:Nat}{p:PI}(hp:pl[t]?=some p):∃o,At n ops pl t p o:=by
 obtain⟨ht,e0⟩:=List.getElem?_eq_some_iff.1 hp;have hsp:pl=pl.take t++p::pl.drop (t+1):=by
  rw[<- e0,List.getElem_cons_drop ht,List.take_append_drop]
 rw[hsp] at h;have h1:=plChk_split h;clear h;have hin:∀q,q∈(pl.take t).reverse++[]<->∃s,s<t/\pl[s]?=some q:=fun q=>by
  rw[List.append_nil,List.mem_reverse,List.mem_iff_getElem?];constructor
  ·rintro⟨s,hs⟩;have h2:=(List.getElem?_eq_some_iff.1 hs).1;rw[List.length_take] at h2;rw[List.getElem?_take,if_pos (by omega)] at hs;exact⟨s,by omega,hs⟩
  ·rintro⟨s,hs,hq⟩;exact⟨s,by rw[List.getElem?_take,if_pos hs];exact hq⟩
 have hin2:∀q,q∈pl.take t<->∃s,s<t/\pl[s]?=some q:=fun q=>by rw[<- hin];simp
 have hact:∀j,j∈actsR (pl.take t) []<->∃s q,s<t/\pl[s]?=some q/\q.kd=.act/\q.i=j:=fun j=>by
  rw[mem_actsR];constructor
  ·rintro (h|⟨q,h,h2,h3⟩)
   ·cases h
   ·obtain⟨s,a,b⟩:=(hin2 q).1 h;exact⟨s,q,a,b,h2,h3⟩
  ·rintro⟨s,q,a,b,h2,h3⟩;exact .inr ⟨q,(hin2 q).2 ⟨s,a,b⟩,h2,h3⟩
 have hadd:∀j,j∈addsR (pl.take t) []<->∃s q,s<t/\pl[s]?=some q/\q.kd=.act/\j∈q.adds:=fun j=>by
  rw[mem_addsR];constructor
  ·rintro (h|⟨q,h,h2,h3⟩)
   ·cases h
   ·obtain⟨s,a,b⟩:=(hin2 q).1 h;exact⟨s,q,a,b,h2,h3⟩
  ·rintro⟨s,q,a,b,h2,h3⟩;exact .inr ⟨q,(hin2 q).2 ⟨s,a,b⟩,h2,h3⟩
 unfold plOne at h1;rw[nth_eq] at h1
 cases ho:ops[p.i]? with
 |none=>rw[ho] at h1;cases h1
 |some o=>
  rw[ho] at h1;simp only[Bool.and_eq_true] at h1;obtain⟨⟨⟨⟨⟨⟨⟨⟨c1,c2⟩,c3⟩,c4⟩,c5⟩,c6⟩,c7⟩,c9⟩,c8⟩:=h1;have addk:∀ad anc j,addOk ((pl.take t).reverse++[]) ad anc j=true->j∈anc/\j∉ad/\∃s q,s<t/\pl[s]?=some q/\q.i=j/\q.kd=.make:=fun ad anc j h=>by
   unfold addOk at h;simp only[Bool.and_eq_true,Bool.not_eq_true'] at h;obtain⟨⟨h1,h2⟩,h3⟩:=h;obtain⟨q,h4,h5⟩:=List.any_eq_true.1 h3;rw[Bool.and_eq_true,nbeq,decide_eq_true_eq,isMake_iff] at h5;obtain⟨s,h6,h7⟩:=(hin q).1 h4;exact⟨memN_iff.1 h1,(fun h=>by rw[memN_iff.2 h] at h2;cases h2),s,q,h6,h7,h5.1,h5.2⟩
  refine⟨o,ho,fun s q hs hq=>?_,fun s q d hs hq hd=>?_,fun s q d hs hq hd he=>?_,fun j hj=>?_,sub_iff.1 c3,fun j hj=>?_,fun j hj=>?_,fun s q hs hq hk=>?_,fun d hd=>?_,fun j hj=>?_,fun hk s q hs hq hm hj=>?_,fun hk s q hs hq hr hj=>?_⟩
  ·have:=List.all_eq_true.1 c1 q ((hin q).2 ⟨s,hs,hq⟩);simp only[Bool.and_eq_true] at this;obtain⟨⟨⟨a,b⟩,_⟩,_⟩:=this;refine⟨(fun e=>by rw[nbeq,decide_eq_true e] at a;cases a),fun d e hd he=>?_⟩;rw[hd,he] at b;simp only[dNe,nbeq,Bool.not_eq_true',decide_eq_false_iff_not] at b;exact b
  ·have:=List.all_eq_true.1 c1 q ((hin q).2 ⟨s,hs,hq⟩);simp only[Bool.and_eq_true] at this;have h9:=List.all_eq_true.1 this.2 d hd;intro e;rw[e] at h9;simp only[dNe,nbeq,Bool.not_eq_true',decide_eq_false_iff_not] at h9;exact h9 trivial
  ·have:=List.all_eq_true.1 c1 q ((hin q).2 ⟨s,hs,hq⟩);simp only[Bool.and_eq_true] at this;have h9:=this.1.2;rw[he] at h9;simp only[Bool.or_eq_true,Bool.not_eq_true'] at h9
   rcases h9 with h9|h9
   ·rw[memN_iff.2 hd] at h9;cases h9
   ·exact memN_iff.1 h9
  ·have:=List.all_eq_true.1 c2 j hj;unfold ancOk at this;rw[Bool.or_eq_true] at this
   rcases this with h|h
   ·exact .inl h
   ·obtain⟨q,h4,h5⟩:=List.any_eq_true.1 h;rw[Bool.and_eq_true] at h5;obtain⟨s,h6,h7⟩:=(hin q).1 h4;exact .inr ⟨s,q,h6,h7,h5.1,memN_iff.1 h5.2⟩
  ·have:=List.all_eq_true.1 c4 j hj;obtain⟨q,h4,h5⟩:=List.any_eq_true.1 this;rw[Bool.and_eq_true,nbeq,decide_eq_true_eq] at h5;obtain⟨s,h6,h7⟩:=(hin q).1 h4;exact⟨s,q,h6,h7,h5.1,sub_iff.1 h5.2⟩
  ·obtain⟨a,b,c⟩:=addk _ _ j (List.all_eq_true.1 c5 j hj);exact⟨a,fun s q hs hq hk hj2=>b ((hadd j).2 ⟨s,q,hs,hq,hk,hj2⟩),c⟩
  ·exact sub_iff.1 c6 _ ((hact _).2 ⟨s,q,hs,hq,hk,rfl⟩)
  ·rw[hd] at c7;simpa[Nat.blt_eq] using c7
  ·unfold direct at hj;obtain⟨e,he,h2⟩:=List.any_eq_true.1 hj;rw[Bool.and_eq_true,nbeq,decide_eq_true_eq] at h2;have:=List.all_eq_true.1 c9 e he;rw[h2.1] at this;rw[<- h2.2];exact memN_iff.1 (by simpa using this)
  ·rw[isAct_iff.2 hk] at c8;have:=List.all_eq_true.1 c8 q ((hin q).2 ⟨s,hs,hq⟩);simp only[Bool.and_eq_true,Bool.or_eq_true,Bool.not_eq_true'] at this
   rcases this.1 with ((h|h)|h)|h
   ·rw[isMake_iff.2 hm] at h;cases h
   ·rw[memN_iff.2 hj] at h;cases h
   ·obtain⟨s',q',h2⟩:=(hadd _).1 (memN_iff.1 h);exact .inr ⟨s',q',h2⟩
   ·exact .inl (memN_iff.1 h)
  ·rw[isAct_iff.2 hk] at c8;have:=List.all_eq_true.1 c8 q ((hin q).2 ⟨s,hs,hq⟩);simp only[Bool.and_eq_true,Bool.or_eq_true,Bool.not_eq_true'] at this
   rcases this.2 with (h|h)|h
   ·rw[isRead_iff.2 hr] at h;cases h
   ·exact absurd (memN_iff.1 h) hj
   ·unfold ckOk at h;obtain⟨c,h4,h5⟩:=List.any_eq_true.1 h;simp only[Bool.and_eq_true,nbeq,decide_eq_true_eq] at h5;refine⟨c,h4,h5.1.1.1,eqN_eq h5.1.1.2,eqN_eq h5.1.2,fun j hj=>?_⟩;obtain⟨a,b,d⟩:=addk _ _ j (List.all_eq_true.1 h5.2 j hj);exact⟨a,fun h=>b (List.mem_append_left _ h),fun s' q' hs' hq' hk' hj'=>b (List.mem_append_right _ ((hadd j).2 ⟨s',q',hs',hq',hk',hj'⟩)),d⟩
end Go.EV
noncomputable section
namespace Go.EV
open Go Go.RowKit Go.RR Go.Lib
theorem runD_trace {X:DX}:∀{pl:List PI} {s s':DS},runD X pl s=some s'->∃S:Nat->DS,S 0=s/\S pl.length=s'/\∀t p,pl[t]?=some p->stepD X p (S t)=some (S (t+1))
 |[],s,s',h=>by cases h;exact⟨fun _=>s,rfl,rfl,fun t p hp=>by simp at hp⟩
 |p::r,s,s',h=>by
  unfold runD at h;split at h
  ·rename_i s1 h1;obtain⟨S,a,b,c⟩:=runD_trace h
   refine⟨fun t=>match t with|0=>s|t+1=>S t,rfl,b,fun t q hq=>?_⟩
   cases t with
   |zero=>
    simp at hq;subst hq;show stepD X p s=some (S 0);rw[a];exact h1
   |succ t=>exact c t q (by simpa using hq)
  ·cases h
theorem tmN_get {ops:List Oper}{vs base:T Value}:∀{l:List Nat} {d:Nat} {v:Value},(tmN ops vs base l).get d=some v->base.get d=some v\/∃j∈l,dstOf ops j=some d/\vs.get j=some v
 |[],d,v,h=>.inl h
 |j::r,d,v,h=>by
  unfold tmN at h;split at h
  ·rename_i d' v' h1 h2;rw[T.get_put] at h;split at h
   ·rename_i e;cases h;exact .inr ⟨j,List.mem_cons_self,by rw[h1,e],h2⟩
   ·rcases tmN_get h with h|⟨j',a,b⟩
    ·exact .inl h
    ·exact .inr ⟨j',List.mem_cons_of_mem _ a,b⟩
  ·rcases tmN_get h with h|⟨j',a,b⟩
   ·exact .inl h
   ·exact .inr ⟨j',List.mem_cons_of_mem _ a,b⟩
theorem addsT_get {n0:Nat}{os H:T AO}:∀{l:List Nat} {b:Nat} {o:AO},(addsT n0 os H l).get b=some o->H.get b=some o\/∃j∈l,os.get j=some o/\b=n0+j
 |[],b,o,h=>.inl h
 |j::r,b,o,h=>by
  unfold addsT at h;split at h
  ·rename_i ob h1;rw[T.get_put] at h;split at h
   ·rename_i e;cases h;exact .inr ⟨j,List.mem_cons_self,h1,e⟩
   ·rcases addsT_get h with h|⟨j',a,b⟩
    ·exact .inl h
    ·exact .inr ⟨j',List.mem_cons_of_mem _ a,b⟩
  ·rcases addsT_get h with h|⟨j',a,b⟩
   ·exact .inl h
   ·exact .inr ⟨j',List.mem_cons_of_mem _ a,b⟩
section
variable {X:DX} {p:PI} {s s':DS}
theorem stepD_vs (h:stepD X p s=some s'):(∀j,j≠p.i->s'.vs.get j=s.vs.get j)/\(∃v,s'.vs.get p.i=some v):=by
 unfold stepD at h;split at h
 ·cases h
 ·split at h<;>split at h<;>(try split at h)<;>(try split at h)
  all_goals first|(cases h;done)|skip
  all_goals first|(cases h;exact⟨fun j hj=>by rw[T.get_put,if_neg hj],_,by rw[T.get_put,if_pos rfl]⟩)|(obtain⟨_,h⟩:=cnd h;cases h;exact⟨fun j hj=>by rw[T.get_put,if_neg hj],_,by rw[T.get_put,if_pos rfl]⟩)
theorem stepD_os (h:stepD X p s=some s'):(∀j,j≠p.i->s'.os.get j=s.os.get j)/\(p.kd≠.make->s'.os=s.os):=by
 unfold stepD at h;split at h
 ·cases h
 ·split at h<;>split at h<;>(try split at h)<;>(try split at h)
  all_goals first|(cases h;done)|skip
  all_goals first|(cases h;exact⟨fun j hj=>rfl,fun _=>rfl⟩)|(obtain⟨_,h⟩:=cnd h;cases h;exact⟨fun j hj=>rfl,fun _=>rfl⟩)|(cases h;exact⟨fun j hj=>by rw[T.get_put,if_neg hj],fun hn=>absurd ‹p.kd=Kd.make› hn⟩)
theorem stepD_H (h:stepD X p s=some s')(hk:p.kd≠.act):s'.H=s.H/\s'.nx=s.nx:=by
 unfold stepD at h;split at h
 ·cases h
 ·split at h<;>split at h<;>(try split at h)<;>(try split at h)
  all_goals first|(cases h;done)|(cases h;exact⟨rfl,rfl⟩)|(exact absurd ‹_› hk)
end
structure Tr (n:Nat)(X:DX)(pl:List PI)(S:Nat->DS):Prop where
 chk:plChk n X.ops pl [] [] []=true
 st:∀t p,pl[t]?=some p->stepD X p (S t)=some (S (t+1))
 os0:(S 0).os=.nil
section
variable {n:Nat} {X:DX} {pl:List PI} {S:Nat->DS}
variable {s t:Nat} {q:PI}
theorem Tr.i_ne (h:Tr n X pl S){p:PI}(hs:s<t)(hq:pl[s]?=some q)(hp:pl[t]?=some p):q.i≠p.i:=by
 obtain⟨o,ho⟩:=at_of h.chk hp;exact (ho.ne s q hs hq).1
theorem Tr.i_inj (h:Tr n X pl S){p:PI}(hq:pl[s]?=some q)(hp:pl[t]?=some p)(e:q.i=p.i):s=t:=by
 rcases Nat.lt_trichotomy s t with h1|h1|h1
 ·exact absurd e (h.i_ne h1 hq hp)
 ·exact h1
 ·exact absurd e.symm (h.i_ne h1 hp hq)
theorem Tr.vs (h:Tr n X pl S){s:Nat}{q:PI}(hq:pl[s]?=some q):∀t,s<t->t<=pl.length->(S t).vs.get q.i=(S (s+1)).vs.get q.i:=by
 intro t
 induction t with
 |zero=>intro h1;omega
 |succ t ih=>
  intro h1 h2;by_cases e:s=t
  ·rw[e]
  ·have ht:t<pl.length:=by omega
   have hp:=List.getElem?_eq_getElem ht;rw[(stepD_vs (h.st t _ hp)).1 q.i (h.i_ne (by omega) hq hp)];exact ih (by omega) (by omega)
theorem Tr.os (h:Tr n X pl S){s:Nat}{q:PI}(hq:pl[s]?=some q):∀t,s<t->t<=pl.length->(S t).os.get q.i=(S (s+1)).os.get q.i:=by
 intro t
 induction t with
 |zero=>intro h1;omega
 |succ t ih=>
  intro h1 h2;by_cases e:s=t
  ·rw[e]
  ·have ht:t<pl.length:=by omega
   have hp:=List.getElem?_eq_getElem ht;rw[(stepD_os (h.st t _ hp)).1 q.i (h.i_ne (by omega) hq hp)];exact ih (by omega) (by omega)
theorem Tr.H (h:Tr n X pl S):∀s t,s<=t->t<=pl.length->(∀u q,s<=u->u<t->pl[u]?=some q->q.kd≠.act)->(S t).H=(S s).H/\(S t).nx=(S s).nx:=by
 intro s t
 induction t with
 | zero => intro h1 _ _;have:s=0:=by omega
           subst this;exact⟨rfl,rfl⟩
 |succ t ih=>
  intro h1 h2 h3;by_cases e:s=t+1
  ·subst e;exact⟨rfl,rfl⟩
  ·have ht:t<pl.length:=by omega
   have hp:=List.getElem?_eq_getElem ht;obtain⟨a,b⟩:=stepD_H (h.st t _ hp) (h3 t _ (by omega) (by omega) hp);obtain⟨c,d⟩:=ih (by omega) (by omega) (fun u q hu hut=>h3 u q hu (by omega));exact⟨a.trans c,b.trans d⟩
def VF (pl:List PI)(S:Nat->DS)(j:Nat):Option Value:=(S pl.length).vs.get j
def OF (pl:List PI)(S:Nat->DS)(j:Nat):Option AO:=(S pl.length).os.get j
theorem Tr.vF (h:Tr n X pl S)(hq:pl[s]?=some q)(hs:s<t)(ht:t<=pl.length):(S t).vs.get q.i=VF pl S q.i:=by
 have:=(List.getElem?_eq_some_iff.1 hq).1;unfold VF;rw[h.vs hq t hs ht,h.vs hq pl.length (by omega) (Nat.le_refl _)]
theorem Tr.oF (h:Tr n X pl S)(hq:pl[s]?=some q)(hs:s<t)(ht:t<=pl.length):(S t).os.get q.i=OF pl S q.i:=by
 have:=(List.getElem?_eq_some_iff.1 hq).1;unfold OF;rw[h.os hq t hs ht,h.os hq pl.length (by omega) (Nat.le_refl _)]
end
end Go.EV
noncomputable section
namespace Go.EV
open Go Go.RowKit Go.RR Go.Lib
def On (D:Array Bool)(i:Nat):Prop:=D.getD i false=true
def Added (pl:List PI)(τ j:Nat):Prop:=∃(s:Nat) (q:PI),s<τ/\pl[s]?=some q/\q.kd=.act/\j∈q.adds
def KA (X:DX)(pl:List PI)(S:Nat->DS)(K0:Nat->Prop)(τ:Nat)(b:Nat):Prop:=
 K0 b\/(∃(s:Nat) (q:PI) (j:Nat),s<τ/\pl[s]?=some q/\q.kd=.act/\j∈q.anc/\b=X.n0+j)\/(X.n0+X.ops.length<=b/\b<(S τ).nx)
def KB (X:DX)(pl:List PI)(S:Nat->DS)(K0:Nat->Prop)(τ:Nat)(q:PI)(b:Nat):Prop:=KA X pl S K0 τ b\/∃j,(j=q.i\/j∈q.anc)/\b=X.n0+j
def Pd (pl:List PI)(S:Nat->DS)(D:Array Bool)(τ:Nat)(q:PI)(ob:AO):Prop:=(∃s:Nat,pl[s]?=some q)/\On D q.i/\OF pl S q.i=some ob/\¬ Added pl τ q.i
structure JS (n:Nat)(X:DX)(pl:List PI)(S:Nat->DS)(w0:World)(K0:Nat->Prop)(ρ0:Rn)(ws:World)(D:Array Bool)(a:Act)(w:World)(ρ:Rn)(τ:Nat):Prop where
 size:D.size=X.ops.length
 clo:∀i o,On D i->X.ops[i]?=some o->∀j,direct o j=true->On D j
 hT:τ<=pl.length
 acts:∀(s:Nat) (q:PI),pl[s]?=some q->q.kd=.act->(On D q.i<->s<τ)
 last:τ=0\/∃q,pl[τ-1]?=some q/\q.kd=.act
 mono:∀s s',s<=s'->s'<=τ->(S s).nx<=(S s').nx
 ts:a.tmps.size=n
 df:a.defers=[]
 base:∀d v,X.base.get d=some v->a.tmps.getD d undef=ren ρ v
 old:∀d v,X.tm0.get d=some v->(∀(s:Nat) (q:PI),pl[s]?=some q->On D q.i->dstOf X.ops q.i≠some d)->a.tmps.getD d undef=ren ρ v
 slot:∀(s:Nat) (q:PI) v d,pl[s]?=some q->On D q.i->VF pl S q.i=some v->dstOf X.ops q.i=some d->a.tmps.getD d undef=ren ρ v
 bv:∀(s:Nat) (q:PI) v,pl[s]?=some q->On D q.i->VF pl S q.i=some v->BV (KB X pl S K0 τ q) v
 hA:RelH w0 (KA X pl S K0 τ) ρ (S τ).H w
 pend:∀(q:PI) (ob:AO),Pd pl S D τ q ob->ObjR ρ (X.n0+q.i) ob (w.heap[ρ.f (X.n0+q.i)]?)/\ws.heap.size<=ρ.f (X.n0+q.i)/\OB (KB X pl S K0 τ q) ob/\∀b o',(S τ).H.get b=some o'->ρ.f b≠ρ.f (X.n0+q.i)
 pdis:∀(q:PI) (ob:AO) (q':PI) (ob':AO),Pd pl S D τ q ob->Pd pl S D τ q' ob'->q.i≠q'.i->ρ.f (X.n0+q.i)≠ρ.f (X.n0+q'.i)
 agr:Agr K0 ρ0 ρ
 frm:Frm ρ0 (S 0).H ws w
 im:Im ρ0 (S 0).H ws ρ (S τ).H
structure St0 (n:Nat)(X:DX)(pl:List PI)(S:Nat->DS)(w0:World)(K0:Nat->Prop)(ρ0:Rn)(ws:World):Prop extends Tr n X pl S where
 nx0:(S 0).nx=X.n0+X.ops.length
 bas:Base K0 ρ0 X.n0
 bt:BT K0 X.base
 bt0:BT K0 X.tm0
 w0:w0.heap.size<=ws.heap.size
 nb:∀(t:Nat) (p:PI) d,pl[t]?=some p->dstOf X.ops p.i=some d->X.base.get d=none
section
variable {P:Program} {n:Nat} {X:DX} {pl:List PI} {S:Nat->DS} {w0:World} {K0:Nat->Prop} {ρ0:Rn} {ws:World} {D:Array Bool} {a:Act} {w:World} {ρ:Rn} {τ:Nat}
variable {t:Nat} {p:PI} {j:Nat}
theorem JS.anc (hS:St0 n X pl S w0 K0 ρ0 ws)(hJ:JS n X pl S w0 K0 ρ0 ws D a w ρ τ):∀(t:Nat) (p:PI),pl[t]?=some p->(∀o,X.ops[p.i]?=some o->∀j,direct o j=true->On D j)->∀j∈p.anc,On D j:=by
 intro t
 induction t using Nat.strongRecOn with
 |_ t ih=>
  intro p hp hd j hj;obtain⟨o,ho⟩:=at_of hS.chk hp
  rcases ho.anc j hj with h|⟨s,q,h1,h2,h3,h4⟩
  ·exact hd o ho.op j h
  ·exact ih s h1 q h2 (fun o' ho'=>hJ.clo q.i o' (hd o ho.op q.i h3) ho') j h4
theorem JS.ancOn (hS:St0 n X pl S w0 K0 ρ0 ws)(hJ:JS n X pl S w0 K0 ρ0 ws D a w ρ τ)(hp:pl[t]?=some p)(h:On D p.i):∀j∈p.anc,On D j:=hJ.anc hS t p hp fun o ho=>hJ.clo p.i o h ho
theorem i_lt (hS:St0 n X pl S w0 K0 ρ0 ws)(hp:pl[t]?=some p):p.i<X.ops.length:=by
 obtain⟨o,ho⟩:=at_of hS.chk hp;exact (List.getElem?_eq_some_iff.1 ho.op).1
theorem anc_lt (hS:St0 n X pl S w0 K0 ρ0 ws)(hp:pl[t]?=some p)(hj:j∈p.anc):j<X.ops.length:=by
 obtain⟨o,ho⟩:=at_of hS.chk hp;obtain⟨s,q,_,h2,h3,_⟩:=ho.up j hj;rw[<- h3];exact i_lt hS h2
theorem JS.len (hS:St0 n X pl S w0 K0 ρ0 ws)(hJ:JS n X pl S w0 K0 ρ0 ws D a w ρ τ):X.n0+X.ops.length<=(S τ).nx:=by
 rw[<- hS.nx0];exact hJ.mono 0 τ (Nat.zero_le _) (Nat.le_refl _)
theorem JS.ka_on (hS:St0 n X pl S w0 K0 ρ0 ws)(hJ:JS n X pl S w0 K0 ρ0 ws D a w ρ τ)(hj:j<X.ops.length)(h:KA X pl S K0 τ (X.n0+j)):On D j/\∃s q,s<τ/\pl[s]?=some q/\q.kd=.act/\j∈q.anc:=by
 rcases h with h|⟨s,q,j',h1,h2,h3,h4,h5⟩|⟨h,_⟩
 ·exact absurd h (hS.bas.1 _ (by omega))
 ·obtain rfl:j=j':=by omega
  exact⟨hJ.ancOn hS h2 ((hJ.acts s q h2 h3).2 h1) j h4,s,q,h1,h2,h3,h4⟩
 ·omega
theorem JS.kb_on (hS:St0 n X pl S w0 K0 ρ0 ws)(hJ:JS n X pl S w0 K0 ρ0 ws D a w ρ τ){s:Nat}{q:PI}(hq:pl[s]?=some q)(hon:On D q.i)(hj:j<X.ops.length)(h:KB X pl S K0 τ q (X.n0+j)):On D j:=by
 rcases h with h|⟨j',h1,h2⟩
 ·exact (hJ.ka_on hS hj h).1
 ·obtain rfl:j=j':=by omega
  rcases h1 with rfl|h1
  ·exact hon
  ·exact hJ.ancOn hS hq hon j h1
theorem JS.good (hS:St0 n X pl S w0 K0 ρ0 ws)(hJ:JS n X pl S w0 K0 ρ0 ws D a w ρ τ)(K':Nat->Prop)(hK:∀b,KA X pl S K0 τ b->K' b){H:T AO}
  (hH:∀b o,H.get b=some o->(S τ).H.get b=some o\/∃q,Pd pl S D τ q o/\b=X.n0+q.i/\∀x,KB X pl S K0 τ q x->K' x):RelH w0 K' ρ H w:=by
 refine⟨hJ.hA.upd,fun b o h=>?_,fun b o h=>?_,fun b o h=>?_,fun b c o o' h h' hw hne=>?_,fun b o h hw=>?_⟩
 ·rcases hH b o h with h|⟨q,h1,rfl,h3⟩
  ·exact hK b (hJ.hA.kn b o h)
  ·exact h3 _ (.inr ⟨q.i,.inl rfl,rfl⟩)
 ·rcases hH b o h with h|⟨q,h1,rfl,h3⟩
  ·exact hJ.hA.obj b o h
  ·exact (hJ.pend q o h1).1
 ·rcases hH b o h with h|⟨q,h1,rfl,h3⟩
  ·exact (hJ.hA.bnd b o h).mono hK
  ·exact (hJ.pend q o h1).2.2.1.mono h3
 ·rcases hH b o h with h|⟨q,h1,rfl,h3⟩
  ·rcases hH c o' h' with h'|⟨q',h1',rfl,h3'⟩
   ·exact hJ.hA.inj b c o o' h h' hw hne
   ·exact (hJ.pend q' o' h1').2.2.2 b o h
  ·rcases hH c o' h' with h'|⟨q',h1',rfl,h3'⟩
   ·exact ((hJ.pend q o h1).2.2.2 c o' h').symm
   ·exact hJ.pdis q o q' o' h1 h1' fun e=>hne (by rw[e])
 ·rcases hH b o h with h|⟨q,h1,rfl,h3⟩
  ·exact hJ.hA.new b o h hw
  ·exact Nat.le_trans hS.w0 (hJ.pend q o h1).2.1
end
end Go.EV
noncomputable section
namespace Go.EV
open Go Go.RowKit Go.RR Go.Lib
section
variable {P:Program} {n:Nat} {X:DX} {pl:List PI} {S:Nat->DS} {w0:World} {K0:Nat->Prop} {ρ0:Rn} {ws:World} {D:Array Bool} {a:Act} {w:World} {ρ:Rn} {τ t:Nat} {p:PI} {o:Oper}
variable {d:Option Nat} {v:Value}
theorem on_set {i j:Nat}(hi:i<D.size):On (D.setIfInBounds i true) j<->j=i\/On D j:=by
 unfold On;rw[Array.getD_eq_getD_getElem?,Array.getD_eq_getD_getElem?,Array.getElem?_setIfInBounds];by_cases e:i=j
 ·subst e;simp[hi]
 ·simp[e,Ne.symm e]
theorem put_size:(a.put d v).tmps.size=a.tmps.size:=by
 cases d<;>simp[Act.put]
theorem put_defers:(a.put d v).defers=a.defers:=by
 cases d<;>rfl
theorem put_same {d:Nat}(h:d<a.tmps.size):(a.put (some d) v).tmps.getD d undef=v:=by
 simp[Act.put,Array.getD_eq_getD_getElem?,h]
theorem put_other {e:Nat}(h:∀x,d=some x->x≠e):(a.put d v).tmps.getD e undef=a.tmps.getD e undef:=by
 cases d with
 |none=>rfl
 |some x=>
  have:=h x rfl;simp[Act.put,Array.getD_eq_getD_getElem?,this]
theorem dst_ne (hS:St0 n X pl S w0 K0 ρ0 ws){s:Nat}{q:PI}(hq:pl[s]?=some q)(hp:pl[t]?=some p)(hne:q.i≠p.i){d e:Nat}(hd:dstOf X.ops q.i=some d)(he:dstOf X.ops p.i=some e):e≠d:=by
 have ofd:∀{t:Nat} {p:PI} {o:Oper} {e:Nat},At n X.ops pl t p o->dstOf X.ops p.i=some e->o.dst=some e:=fun ho h=>by
  unfold dstOf at h;rw[nth_eq,ho.op] at h;exact h
 rcases Nat.lt_trichotomy s t with h|h|h
 ·obtain⟨o,ho⟩:=at_of hS.chk hp;exact ((ho.ne s q h hq).2 d e hd (ofd ho he)).symm
 ·subst h;rw[hq] at hp;cases hp;exact absurd rfl hne
 ·obtain⟨o,ho⟩:=at_of hS.chk hq;exact (ho.ne t p h hp).2 e d he (ofd ho hd)
theorem oF_make (hS:St0 n X pl S w0 K0 ρ0 ws)(hp:pl[t]?=some p){ob:AO}(h:OF pl S p.i=some ob):p.kd=.make:=by
 have ht:=(List.getElem?_eq_some_iff.1 hp).1;refine Classical.byContradiction fun hk=>?_;rw[<- hS.toTr.oF hp (t:=t+1) (by omega) (by omega),(stepD_os (hS.st t p hp)).2 hk] at h;have key:∀s,s<=t->(S s).os.get p.i=none:=by
  intro s
  induction s with
  |zero=>intro _;rw[hS.os0];rfl
  |succ s ih=>
   intro hs;have hl:s<pl.length:=by omega
   have hq:=List.getElem?_eq_getElem hl;rw[(stepD_os (hS.st s _ hq)).1 p.i (hS.toTr.i_ne (by omega) hq hp).symm];exact ih (by omega)
 rw[key t (Nat.le_refl _)] at h;cases h
structure Rdy (n:Nat)(X:DX)(pl:List PI)(D:Array Bool)(t:Nat)(p:PI)(o:Oper):Prop where
 hp:pl[t]?=some p
 ho:At n X.ops pl t p o
 no:¬ On D p.i
 dir:∀j,direct o j=true->On D j
theorem Rdy.dstOf (hR:Rdy n X pl D t p o):EV.dstOf X.ops p.i=o.dst:=by
 unfold EV.dstOf;rw[nth_eq,hR.ho.op]
theorem JS.rdyAnc (hS:St0 n X pl S w0 K0 ρ0 ws)(hJ:JS n X pl S w0 K0 ρ0 ws D a w ρ τ)(hR:Rdy n X pl D t p o):∀j∈p.anc,On D j:=hJ.anc hS t p hR.hp fun o' ho'=>by
 rw[hR.ho.op] at ho';cases ho';exact hR.dir
theorem JS.step (hS:St0 n X pl S w0 K0 ρ0 ws)(hJ:JS n X pl S w0 K0 ρ0 ws D a w ρ τ)(hR:Rdy n X pl D t p o)(hk:p.kd≠.act){v:Value}(hv:VF pl S p.i=some v)(hb:BV (KB X pl S K0 τ p) v){ρ':Rn}{w':World}
  (hρ:∀b,b≠X.n0+p.i->ρ.f b=ρ'.f b/\ρ.c b=ρ'.c b) (hA':RelH w0 (KA X pl S K0 τ) ρ' (S τ).H w') (hw:∀k,k<w.heap.size->w'.heap[k]?=w.heap[k]?) (hsz:w.heap.size<=w'.heap.size)
  (hob:∀ob,OF pl S p.i=some ob->ObjR ρ' (X.n0+p.i) ob (w'.heap[ρ'.f (X.n0+p.i)]?)/\w.heap.size<=ρ'.f (X.n0+p.i)/\OB (KB X pl S K0 τ p) ob):
  JS n X pl S w0 K0 ρ0 ws (D.setIfInBounds p.i true) (a.put o.dst (ren ρ' v)) w' ρ' τ:=by
 have hi:=i_lt hS hR.hp;have hon:∀j,On (D.setIfInBounds p.i true) j<->j=p.i\/On D j:=fun j=>on_set (by rw[hJ.size];exact hi);have hag:∀{s:Nat} {q:PI},pl[s]?=some q->On D q.i->Agr (KB X pl S K0 τ q) ρ ρ':=fun hq ho b hb=>hρ b fun e=>hR.no (hJ.kb_on hS hq ho hi (e▸hb));have hka:¬ KA X pl S K0 τ (X.n0+p.i):=fun h=>hR.no (hJ.ka_on hS hi h).1;have pdo:∀q ob,Pd pl S (D.setIfInBounds p.i true) τ q ob->q.i≠p.i->Pd pl S D τ q ob:=fun q ob h hne=>⟨h.1,((hon _).1 h.2.1).resolve_left hne,h.2.2⟩;have hfp:Frm ρ0 (S 0).H ws w':=⟨Nat.le_trans hJ.frm.size hsz,fun k hk hn=>by rw[hw k (Nat.lt_of_lt_of_le hk hJ.frm.size)];exact hJ.frm.kept k hk hn⟩;have hfe:∀b o',(S τ).H.get b=some o'->ρ.f b=ρ'.f b:=fun b o' h=>(hρ b fun e=>hka (e▸hJ.hA.kn b o' h)).1;have hlt:∀b o',(S τ).H.get b=some o'->ρ.f b<w.heap.size:=fun b o' h=>hJ.hA.lt h;refine⟨by simpa using hJ.size,fun i o' h ho' j hd=>?_,hJ.hT,fun s q hq hq2=>?_,hJ.last,hJ.mono,by rw[put_size];exact hJ.ts,by rw[put_defers];exact hJ.df,fun d u hd=>?_,fun d u hd hno=>?_,fun s q u d hq hqo hu hd=>?_,fun s q u hq hqo hu=>?_,hA',fun q ob hq=>?_,fun q ob q' ob' hq hq' hne=>?_,fun b hb=>?_,hfp,fun b o' h=>?_⟩
 ·rw[hon] at h⊢
  rcases h with rfl|h
  ·rw[hR.ho.op] at ho';cases ho';exact .inr (hR.dir j hd)
  ·exact .inr (hJ.clo i o' h ho' j hd)
 ·rw[hon];have hne:q.i≠p.i:=fun e=>by
   have:s=t:=hS.toTr.i_inj hq hR.hp e;subst this;rw[hR.hp] at hq;cases hq;exact hk hq2
  rw[<- hJ.acts s q hq hq2];exact⟨fun h=>h.resolve_left hne,.inr⟩
 ·have hne:∀x,o.dst=some x->x≠d:=fun x hx e=>by
   subst e;have:=hS.nb t p x hR.hp (by rw[hR.dstOf];exact hx);rw[this] at hd;cases hd
  rw[put_other hne,hJ.base d u hd];exact hS.bt d u hd ρ ρ' fun b hb=>hρ b fun e=>by rw[e] at hb;exact hS.bas.1 _ (by omega) hb
 ·rw[put_other fun x hx e=>hno t p hR.hp ((hon _).2 (.inl rfl)) (by rw[hR.dstOf,hx,e]),hJ.old d u hd fun s q hq hqo=>hno s q hq ((hon _).2 (.inr hqo))];exact hS.bt0 d u hd ρ ρ' fun b hb=>hρ b fun e=>by rw[e] at hb;exact hS.bas.1 _ (by omega) hb
 ·by_cases e:q.i=p.i
  ·have:s=t:=hS.toTr.i_inj hq hR.hp e;subst this;rw[hR.hp] at hq;cases hq;rw[hv] at hu;cases hu;rw[hR.dstOf] at hd;rw[hd];exact put_same (by rw[hJ.ts];exact hR.ho.dst d hd)
  ·have hqo':=((hon _).1 hqo).resolve_left e;rw[put_other fun x hx=>dst_ne hS hq hR.hp e hd (by rw[hR.dstOf];exact hx),hJ.slot s q u d hq hqo' hu hd];exact hJ.bv s q u hq hqo' hu ρ ρ' (hag hq hqo')
 ·by_cases e:q.i=p.i
  ·have:s=t:=hS.toTr.i_inj hq hR.hp e;subst this;rw[hR.hp] at hq;cases hq;rw[hv] at hu;cases hu;exact hb
  ·exact hJ.bv s q u hq (((hon _).1 hqo).resolve_left e) hu
 ·by_cases e:q.i=p.i
  ·obtain⟨⟨s,hs⟩,_,h3,_⟩:=hq;have:s=t:=hS.toTr.i_inj hs hR.hp e;subst this;rw[hR.hp] at hs;cases hs;obtain⟨o1,o2,o3⟩:=hob ob h3;refine⟨o1,Nat.le_trans hJ.frm.size o2,o3,fun b o' h=>?_⟩;rw[<- hfe b o' h];have:=hlt b o' h;omega
  ·have hpd:=pdo q ob hq e;obtain⟨⟨s,hs⟩,h2,h3,_⟩:=hpd;obtain⟨o1,o2,o3,o4⟩:=hJ.pend q ob (pdo q ob hq e);have hq1:=hρ (X.n0+q.i) (by omega);have hbk:ρ.f (X.n0+q.i)<w.heap.size:=by
    cases ob with
    |row wr e cs tl=>obtain⟨rest,h1,_⟩:=o1;exact (Array.getElem?_eq_some_iff.1 h1).1
    |mp wr es=>obtain⟨es',k,h1,_⟩:=o1;exact (Array.getElem?_eq_some_iff.1 h1).1
    |tab cs=>obtain⟨_,_,h1⟩:=o1;exact (Array.getElem?_eq_some_iff.1 h1).1
   refine⟨?_,by rw[<- hq1.1];exact o2,o3,fun b o' h=>by rw[<- hfe b o' h,<-hq1.1];exact o4 b o' h⟩;rw[<- hq1.1,hw _ hbk];exact o1.agr (hag hs h2) (.inr ⟨q.i,.inl rfl,rfl⟩) o3
 ·have hbk:∀q ob,Pd pl S D τ q ob->ρ.f (X.n0+q.i)<w.heap.size:=fun q ob h=>by
   obtain⟨o1,_⟩:=hJ.pend q ob h
   cases ob with
   |row wr e cs tl=>obtain⟨rest,h1,_⟩:=o1;exact (Array.getElem?_eq_some_iff.1 h1).1
   |mp wr es=>obtain⟨es',k,h1,_⟩:=o1;exact (Array.getElem?_eq_some_iff.1 h1).1
   |tab cs=>obtain⟨_,_,h1⟩:=o1;exact (Array.getElem?_eq_some_iff.1 h1).1
  have hpo:∀q ob,Pd pl S (D.setIfInBounds p.i true) τ q ob->q.i=p.i->w.heap.size<=ρ'.f (X.n0+p.i):=fun q ob h e=>by
   obtain⟨⟨s,hs⟩,_,h3,_⟩:=h;have:s=t:=hS.toTr.i_inj hs hR.hp e;subst this;rw[hR.hp] at hs;cases hs;exact (hob ob h3).2.1
  by_cases e:q.i=p.i
  ·have e2:q'.i≠p.i:=fun h=>hne (e.trans h.symm);have h1:=hpo q ob hq e;have h2:=hbk q' ob' (pdo q' ob' hq' e2);rw[e,<-(hρ (X.n0+q'.i) (by omega)).1];omega
  ·by_cases e2:q'.i=p.i
   ·have h1:=hpo q' ob' hq' e2;have h2:=hbk q ob (pdo q ob hq e);rw[e2,<-(hρ (X.n0+q.i) (by omega)).1];omega
   ·rw[<- (hρ (X.n0+q.i) (by omega)).1,<-(hρ (X.n0+q'.i) (by omega)).1];exact hJ.pdis q ob q' ob' (pdo q ob hq e) (pdo q' ob' hq' e2) hne
 ·have h1:=hJ.agr b hb;have h2:=hρ b fun e=>by rw[e] at hb;exact hS.bas.1 _ (by omega) hb
  exact⟨h1.1.trans h2.1,h1.2.trans h2.2⟩
 ·rw[<- hfe b o' h];exact hJ.im b o' h
end
end Go.EV
