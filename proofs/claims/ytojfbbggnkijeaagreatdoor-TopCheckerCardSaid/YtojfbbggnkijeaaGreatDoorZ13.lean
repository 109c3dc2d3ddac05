import Derived.Test.YtojfbbggnkijeaaGreatDoorZ6
import Derived.Test.YtojfbbggnkijeaaGreatDoorZ12
import Derived.RangeFuncBox
import Derived.RangeFuncLeaves
import Derived.Shelf.Abstract
import Derived.OwnWalkIn
import Derived.TacticsInMore
import Derived.LoopNIn
import Derived.LoopIn
import Derived.Test.YtojfbbggnkijeaaGreatDoorProg
set_option linter.all false
noncomputable section
namespace Go.EV
open Go Go.RowKit Go.RR Go.Lib
variable {P:Program}
def cutF (F:Tab Fn1)(c:Nat):Tab Fn1:=⟨fun g=>bif bit c g then none else F.get g⟩
theorem cutF_ok {F:Tab Fn1}(h:FnsOk P F)(c:Nat):FnsOk P (cutF F c):=fun g f hf=>by
 cases hb:bit c g with
 |true=>simp[cutF,hb] at hf
 |false=>exact h g f (by simpa[cutF,hb] using hf)
theorem calls_of_cf {w0:World}{cf:CallF}(hC:CfOk P w0 cf){g:Nat}{fn:Func}{c:Code}(hf:P.funcs[g]?=some fn)(hname:(fn.name=="runtime.NumGoroutine")=false)(hbd:fn.body=some c)
  {K:Nat->Prop} {ρ:Rn} {H:T AO} {w:World} {nx:Nat} {args:List Value} {v:Value} {H':T AO} {nx':Nat} (hw:RelH w0 K ρ H w) (hB:Base K ρ nx) (hb:∀x∈args,BV K x) (h:cf g args H nx=some (v,H',nx')):
  Calls P g (args.map (ren ρ)).toArray w fun e w'=>∃ρ',e=.returned (ren ρ' v)/\Left w0 K ρ H w nx v H' nx' ρ' w':=by
 have hent:(callFunc g (args.map (ren ρ)).toArray).run P w=.ok (.enter g (args.map (ren ρ)).toArray) w:=by
  have f2':¬ fn.name="runtime.NumGoroutine":=by simpa using hname
  unfold callFunc;simp[run_program,hf,f2',hbd]
 have:=hC K ρ H w nx g args v H' nx' hw hB hb h ⟨some 0,.move (.tmp 0),0,"",#[],none⟩ ⟨#[undef],[]⟩
  (fun a' w'=>∃ρ',a'.tmps[0]?=some (ren ρ' v)/\Left w0 K ρ H w nx v H' nx' ρ' w') (fun _ _ _=>False) (fun ρ' w' hL=>⟨ρ',by simp[Act.put],hL⟩)
 rw[hent,Oper.upon_enter] at this;refine this.mono fun e w' he=>?_
 cases e with
 |returned u=>
  obtain⟨ρ',h1,h2⟩:=he;simp[Act.put] at h1;exact⟨ρ',by rw[h1],h2⟩
 |panicked ch=>exact he.elim
 |outgrown=>obtain⟨_,_,h⟩:=he;exact h.elim
theorem Sm.says_ok {M:Sm}{cf:CallF}(h:M.says cf=true):∃H',cf M.g M.args (T.ofList M.hs) M.n=some (M.v,H',M.n')/\∀q∈M.out,∃o,H'.get q.1=some o/\o.wr=true/\aoEq q.2 o=true:=by
 unfold Sm.says at h;split at h
 ·rename_i v H' n' hc;simp only[Bool.and_eq_true,nbeq,decide_eq_true_eq] at h;obtain⟨⟨h1,h2⟩,h3⟩:=h;have h1:=vEq_eq h1;subst h1;subst h2;refine⟨H',hc,fun q hq=>?_⟩;have:=List.all_eq_true.1 h3 q hq;simp only[Bool.and_eq_true] at this;obtain⟨_,h4⟩:=this;split at h4
  ·rename_i o ho;rw[Bool.and_eq_true] at h4;exact⟨o,ho,h4.1,h4.2⟩
  ·cases h4
 ·cases h
end Go.EV
namespace Go.EV
open Go Go.RowKit Go.RR Go.Lib
theorem nums_of {k:IntKind}:∀{l:List Value},l.all (isK (some k))=true->∃zs:List Int,l=zs.map (.int k)
 |[],_=>⟨[],rfl⟩
 |x::l,h=>by
  rw[List.all_cons,Bool.and_eq_true] at h;obtain⟨zs,rfl⟩:=nums_of h.2;have h1:=h.1;unfold isK at h1;split at h1
  ·rename_i k' j n hk;cases hk;rw[ikEq_eq h1];exact⟨n::zs,rfl⟩
  ·cases h1
theorem ikEq_self (k:IntKind):ikEq k k=true:=by cases k<;>rfl
theorem psEq_nums {k:IntKind}:∀u v:List Int,psEq (u.map (.int k)) (v.map (.int k))=decide (u=v)
 |[],[]=>rfl
 |[],_::_=>rfl
 |_::_,[]=>rfl
 |x::u,y::v=>by
  simp only[List.map_cons,psEq,pEq,ikEq_self,Bool.true_and,intEq_eq,psEq_nums u v,cdec];by_cases h:x=y<;>simp[h]
section
variable {P:Program} {t e:TypeId} {m:Nat} {k:IntKind}
theorem check_nums (hu:P.underlying t=some (.array m e))(he:P.underlying e=some (.int k))(hs:∀w,(sizeOf e).run P w=.ok 1 w){w:World}{b0:Bool}{u:List Int}(hm:u.length=m):(Instr.checkKey b0 10000 t (.agg (u.map (Value.int k)).toArray)).run P w=.ok () w:=by
 have hp:P.plainKey e=true:=by unfold Program.plainKey;rw[he]
 unfold Instr.checkKey;simp only[Sem.run_bind,run_underlying hu,Result.andThen_ok];simp only[Std.Legacy.Range.forIn_eq_forIn_range',Std.Legacy.Range.size,Nat.sub_zero,Nat.add_one_sub_one,Nat.div_one]
 have key:∀is:List Nat,(∀i∈is,i<u.length)->∀w,(forIn is PUnit.unit (fun i (_:PUnit)=>(do
   Instr.checkKey b0 9999 e (<- part e (u.map (Value.int k)).toArray (i*(<- sizeOf e)))
   pure (ForInStep.yield PUnit.unit):Sem (ForInStep PUnit)))).run P w=.ok PUnit.unit w:=by
  intro is
  induction is with
  |nil=>intro _ w;simp
  |cons i is ih=>
   intro hi w;have hl:=hi i (by simp);have h1:=hs w;have e1:(u.map (Value.int k)).toArray[i]?=some (.int k u[i]):=by simp[List.getElem?_eq_getElem hl]
   have:=ih (fun j hj=>hi j (by simp[hj])) w;have h9:(Instr.checkKey b0 9999 e (.int k u[i])).run P w=.ok () w:=by
    suffices key:∀n,(Instr.checkKey b0 (n+1) e (.int k u[i])).run P w=.ok () w from key 9998
    intro n;simp[Instr.checkKey,run_und he]
   simp[h1,run_part_plain w hp e1,h9];simpa using this
 have:=key (List.range' 0 m) (fun i hi=>by rw[List.mem_range'] at hi;omega) w;simp at this ⊢;rw[this];rfl
theorem eqP_arr (hu:P.underlying t=some (.array m e))(he:P.underlying e=some (.int k)){inf:TypeInfo}(hinf:P.info? e=some inf)(hc:P.cellsOf e=1)(hg:P.eqGuardType P.depth t=false)(hs:∀w,(sizeOf e).run P w=.ok 1 w):EqP P t m (some k):=by
 intro xs ys x y w hx hy ax ay;obtain⟨u,rfl⟩:=nums_of ax;obtain⟨v,rfl⟩:=nums_of ay;rw[List.length_map] at hx hy;rw[psEq_nums];have key:(Op.equalIn 10000 t (.agg (u.map (Value.int k)).toArray) (.agg (v.map (Value.int k)).toArray)).run P w=.ok (decide (u=v)) w:=by
  rw[run_equalIn_array w 9999 _ _ hu hinf,hc,GX.eqItems_nums 9998 he u v (List.range m) (fun i hi=>by have:=List.mem_range.1 hi;omega)];congr 1;refine decide_eq_decide.2 ⟨fun h=>List.ext_getElem? fun i=>?_,fun h i _=>by rw[h]⟩;by_cases him:i<m
  ·exact h i (List.mem_range.2 him)
  ·rw[List.getElem?_eq_none (by omega),List.getElem?_eq_none (by omega)]
 refine⟨?_,?_,key,fun b=>check_nums hu he hs hx⟩
 ·rw[Sem.run_bind,run_eqGuard_agg w .eql t _ _ _ _ hg,Result.andThen_ok,run_eql_struct,key];rfl
 ·rw[Sem.run_bind,run_eqGuard_agg w .neq t _ _ _ _ hg,Result.andThen_ok,run_neq_struct,key];rfl
def IntFs (P:Program)(k:IntKind):Nat->List Field->Prop
 |_,[]=>True
 |o,f::l=>f.name≠"_"/\P.underlying f.type=some (.int k)/\f.offset=o/\IntFs P k (o+1) l
theorem eqFields_nums {w:World}(d:Nat)(xs ys:List Int):∀(fs:List Field) (o:Nat),IntFs P k o fs->o+fs.length=xs.length->o+fs.length=ys.length->
  (Op.eqFields (d+1) (xs.map (Value.int k)).toArray (ys.map (Value.int k)).toArray fs).run P w=.ok (decide (xs.drop o=ys.drop o)) w
 |[],o,_,h1,h2=>by
  simp only[List.length_nil,Nat.add_zero] at h1 h2;simp[Op.eqFields,h1,List.drop_of_length_le (show ys.length<=xs.length by omega)]
 |f::fs,o,⟨n1,n2,n3,n4⟩,h1,h2=>by
  simp only[List.length_cons] at h1 h2;have hp:P.plainKey f.type=true:=by unfold Program.plainKey;rw[n2]
  have l1:o<xs.length:=by omega
  have l2:o<ys.length:=by omega
  have e1:(xs.map (Value.int k)).toArray[f.offset]?=some (.int k xs[o]):=by rw[n3];simp[List.getElem?_eq_getElem l1]
  have e2:(ys.map (Value.int k)).toArray[f.offset]?=some (.int k ys[o]):=by rw[n3];simp[List.getElem?_eq_getElem l2]
  have ih:=eqFields_nums (w:=w) d xs ys fs (o+1) n4 (by omega) (by omega);rw[Op.eqFields,if_pos n1];simp only[Sem.run_bind,run_part_plain w hp e1,run_part_plain w hp e2,Result.andThen_ok,run_equalIn_int w d f.type k k xs[o] ys[o] n2];rw[List.drop_eq_getElem_cons l1,List.drop_eq_getElem_cons l2];by_cases hq:xs[o]=ys[o]
  ·rw[show (xs[o]==ys[o])=true by simpa using hq];simp only[Bool.not_true,Bool.false_eq_true,if_false];rw[ih];congr 1;rw[decide_eq_decide,List.cons.injEq];exact⟨fun h=>⟨hq,h⟩,fun h=>h.2⟩
  ·rw[show (xs[o]==ys[o])=false by simpa using hq];simp only[Bool.not_false,if_true,Sem.run_pure];congr 1;exact (decide_eq_false (by rw[List.cons.injEq];exact fun h=>hq h.1)).symm
theorem check_fields {b0:Bool}(xs:List Int):∀(fs:List Field) (o:Nat),IntFs P k o fs→o+fs.length ≤ xs.length→∀w,(forIn fs PUnit.unit (fun f (_:PUnit)=>(do
   if f.name≠"_" then Instr.checkKey b0 9999 f.type (<- part f.type (xs.map (Value.int k)).toArray f.offset)
   pure (ForInStep.yield PUnit.unit):Sem (ForInStep PUnit)))).run P w=.ok PUnit.unit w
 |[],_,_,_,w=>by simp
 |f::fs,o,⟨n1,n2,n3,n4⟩,h1,w=>by
  simp only[List.length_cons] at h1;have hp:P.plainKey f.type=true:=by unfold Program.plainKey;rw[n2]
  have l1:o<xs.length:=by omega
  have e1:(xs.map (Value.int k)).toArray[f.offset]?=some (.int k xs[o]):=by rw[n3];simp[List.getElem?_eq_getElem l1]
  have ih:=check_fields (b0:=b0) xs fs (o+1) n4 (by omega) w;have h9:(Instr.checkKey b0 9999 f.type (.int k xs[o])).run P w=.ok () w:=by
   suffices key:∀n,(Instr.checkKey b0 (n+1) f.type (.int k xs[o])).run P w=.ok () w from key 9998
   intro n;simp[Instr.checkKey,run_und n2]
  simp[n1,run_part_plain w hp e1,h9];simpa using ih
theorem eqP_st {fs:Array Field}(hu:P.underlying t=some (.struct fs))(hf:P.fieldsOf t=fs)(hI:IntFs P k 0 fs.toList)(hl:fs.toList.length=m)(hh:P.stoodInHeld t=false)(hg:P.eqGuardType P.depth t=false):EqP P t m (some k):=by
 intro xs ys x y w hx hy ax ay;obtain⟨u,rfl⟩:=nums_of ax;obtain⟨v,rfl⟩:=nums_of ay;rw[List.length_map] at hx hy;rw[psEq_nums];have key:(Op.equalIn 10000 t (.agg (u.map (Value.int k)).toArray) (.agg (v.map (Value.int k)).toArray)).run P w=.ok (decide (u=v)) w:=by
  rw[run_equalIn_struct w 9999 t _ _ (by rw[hf];exact hu) hh,hf];have:=eqFields_nums (P:=P) (w:=w) (k:=k) 9998 u v fs.toList 0 hI (by omega) (by omega);simpa using this
 refine⟨?_,?_,key,fun b=>?_⟩
 ·rw[Sem.run_bind,run_eqGuard_agg w .eql t _ _ _ _ hg,Result.andThen_ok,run_eql_struct,key];rfl
 ·rw[Sem.run_bind,run_eqGuard_agg w .neq t _ _ _ _ hg,Result.andThen_ok,run_neq_struct,key];rfl
 ·unfold Instr.checkKey;simp only[Sem.run_bind,run_underlying hu,Result.andThen_ok];rw[<- Array.forIn_toList];have:=check_fields (P:=P) (b0:=b) (k:=k) u fs.toList 0 hI (by omega) w;simp at this ⊢;rw[this];rfl
end
end Go.EV
namespace Go.Proofs.YtojfbbggnkijeaaGreatDoor
open Go Go.RowKit Go.Shelf
attribute [local go_sem] Oper.semAt_some
def upto {α:Type}(f:Nat->α)(k:Nat):List α:=(List.range k).map f
theorem upto_succ {α:Type}(f:Nat->α)(k:Nat):upto f (k+1)=upto f k++[f k]:=by simp[upto,List.range_succ]
theorem upto_length {α:Type}(f:Nat->α)(k:Nat):(upto f k).length=k:=by simp[upto]
theorem upto_all (zs:List Int):upto (fun j=>zs[j]?.getD 0) zs.length=zs:=by
 apply List.ext_getElem
 ·simp[upto]
 ·intro i h1 h2;simp[upto,h2]
set_option maxRecDepth 100000 in
set_option maxHeartbeats 2000000 in
theorem values1_in (F:Fence)(n:Nat)(h7:F.fn 183)(hro:F.round=none)(hn:1<=n)(l Bs n₀ b off len cap:Nat)(a:Option Addr)(ha:len≠0->a=some ⟨b,off,none⟩)(zs:List Int)(hreach:len*8<=140737488351232)(hb:b<n₀)(J Jx:List Int->World->Prop)
  (hY:∀pre x W,J pre W->pre.length<len->YieldAt F (n-1) Tryz.prog l #[.int .i64 x] W fun e W'=>
   (e=.returned (.bool true)/\J (pre++[x]) W'/\Below n₀ W W')\/(e=.returned (.bool false)/\Jx (pre++[x]) W'))
  (W:World) (hBs:W.cell? ⟨Bs,0,none⟩=some (.slice a len cap)) (hc:∀j,j<len->W.cell? ⟨b,off+j,none⟩=some (.int .i64 (zs[j]?.getD 0))) (h0:J [] W):
  CallsIn F n Tryz.prog 183 #[.func (.yield l) #[] #[],.pointer (some ⟨Bs,0,none⟩)] W fun e W'=>(∃v,e=.returned v)/\
   ((∃ys,ys=upto (fun j=>zs[j]?.getD 0) len/\J ys W')\/(∃pre,(∃k,k<=len/\pre=upto (fun j=>zs[j]?.getD 0) k)/\Jx pre W')):=by
 refine callsIn_of_wp Tryz.func183 rfl h7 ?_ hro;simp only[Tryz.ntmps183,List.size_toArray,List.length_cons,List.length_nil,Nat.reduceAdd,Nat.reduceSub,Array.replicate_succ,Array.replicate_zero,List.push_toArray,List.append_toArray,List.nil_append,List.cons_append]
 gi_wp2
 gi_loopw [7] (fun i wr=>∃k:Nat,k<=len/\i=.int .i64 k/\J (upto (fun j=>zs[j]?.getD 0) k) wr/\Below n₀ W wr)
  (fun i _=>len-(intOf i).toNat)
 case atStart=>exact⟨0,Nat.zero_le _,rfl,h0,Below.refl _ _⟩
 case round=>
  obtain⟨k,hk,rfl,hJs,hnx⟩:=hrel;have hcx:k<len->wr.cell? ⟨b,off+k,none⟩=some (.int .i64 (zs[k]?.getD 0)):=fun h=>(hnx.cell (p:=⟨b,off+k,none⟩) hb).trans (hc k h);by_cases hlt:k<len
  ·obtain rfl:=ha (by omega);obtain⟨fn,tmps,assign,body,hy,hR⟩:=hY _ (zs[k]?.getD 0) wr hJs (by rw[upto_length];exact hlt);have hcx':=hcx hlt
   gi_wp2
   refine hR.mono ?_;rintro e W3 (⟨rfl,hJ3,hk3⟩|⟨rfl,hJx3⟩)
   ·gi_wp2
    go_roundw
    case rel=>exact⟨k+1,by omega,by simp,by rw[upto_succ];exact hJ3,hnx.trans hk3⟩
    case measure=>simp[intOf];omega
   ·gi_wp2
    refine bodyPost_ret (results_none rfl _ _ _) rfl ?_;exact⟨⟨_,rfl⟩,.inr ⟨_,⟨k+1,by omega,(upto_succ _ _).symm⟩,hJx3⟩⟩
  ·obtain rfl:k=len:=by omega
   gi_wp2
   go_end0
   exact⟨⟨_,rfl⟩,.inl ⟨_,rfl,hJs⟩⟩
theorem values_stops (F:Fence)(n:Nat)(h7:F.fn 183)(hro:F.round=none)(hn:1<=n)(Bs n₀ b off cap:Nat)(a:Option Addr)(zs:List Int)(ha:zs.length≠0->a=some ⟨b,off,none⟩)(hreach:zs.length*8<=140737488351232)(w:World)(hBs:Bs<w.heap.size)(hn₀:n₀<=w.heap.size)
  (hc:w.cell? ⟨Bs,0,none⟩=some (.slice a zs.length cap)) (hb:b<n₀) (hcs:∀j,j<zs.length->w.cell? ⟨b,off+j,none⟩=some (.int .i64 (zs[j]?.getD 0))):
  SeqStopsK F n Tryz.prog 183 #[.pointer (some ⟨Bs,0,none⟩)] (fun x:Int=>#[Value.int .i64 x]) (Below n₀) (fun ys=>ys=zs) (fun _=>True) zs.length w:=fun l J Jx W hW _ _ hY h0=>by
 have hc':=(hW.cell (p:=⟨Bs,0,none⟩) hBs).trans hc;have hcs':∀j,j<zs.length->W.cell? ⟨b,off+j,none⟩=some (.int .i64 (zs[j]?.getD 0)):=fun j hj=>(hW.cell (p:=⟨b,off+j,none⟩) (by show b<_;omega)).trans (hcs j hj);refine (values1_in F n h7 hro hn l Bs n₀ b off zs.length cap a ha zs hreach hb J Jx hY W hc' hcs' h0).mono ?_;rintro e W' ⟨he,⟨ys,rfl,hj⟩|⟨pre,⟨k,hk,rfl⟩,hj⟩⟩
 ·exact⟨he,.inl ⟨_,upto_all zs,hj⟩⟩
 ·exact⟨he,.inr ⟨_,trivial,hj⟩⟩
theorem infoInt:(Tryz.prog.info? 3).map (fun i=>(i.zero,i.size,i.bytes))=some (some (.int .i64 0),1,8):=by kernel_rfl
set_option maxRecDepth 100000 in
set_option maxHeartbeats 2000000 in
theorem appendSeq_in (F:Fence)(n:Nat)(h3:F.fn 256)(h5:F.fn 183)(hro:F.round=none)(hn:3<=n)(Bs b off cap:Nat)(a:Option Addr)(zs:List Int)(ha:zs.length≠0->a=some ⟨b,off,none⟩)(hlen:zs.length*8<=140737488351232)(w:World)(hBs:Bs<w.heap.size)(hb:b<w.heap.size)
  (hc:w.cell? ⟨Bs,0,none⟩=some (.slice a zs.length cap)) (hcs:∀j,j<zs.length->w.cell? ⟨b,off+j,none⟩=some (.int .i64 (zs[j]?.getD 0))):
  CallsIn F n Tryz.prog 256 #[.slice none 0 0,.func (.func 183) #[] #[.pointer (some ⟨Bs,0,none⟩)]] w fun e W'=>∃v,e=.returned v/\W'.ownsRow w.heap.size 3 1 v zs.length (zs.map (Value.int .i64))/\(v=.slice none 0 0<->zs=[])/\Below w.heap.size w W':=by
 have h1:1<=n:=by omega
 have hmax:zs.length<=maxLen:=by simp only[maxLen];omega
 obtain⟨i0,hi,hz0,hz1,hz2⟩:=info_parts infoInt;refine callsIn_of_wp_marks Tryz.func256 rfl h3 ?_ hro;simp only[Tryz.ntmps256,List.size_toArray,List.length_cons,List.length_nil,Nat.reduceAdd,Nat.reduceSub,Array.replicate_succ,Array.replicate_zero,List.push_toArray,List.append_toArray,List.nil_append,List.cons_append]
 gi_wp2
 have bO:=Boxed.new w 30 (.slice none 0 0);have hB0:Below w.heap.size w (w.alloc (.cells #[.slice none 0 0] 30)):=(Below.refl _ w).alloc (Nat.le_refl _) _;have hcs0:∀j,j<zs.length->(w.alloc (.cells #[.slice none 0 0] 30)).cell? ⟨b,off+j,none⟩=some (.int .i64 (zs[j]?.getD 0)):=fun j hj=>(hB0.cell (p:=⟨b,off+j,none⟩) hb).trans (hcs j hj);refine wpIn_rangeFunc_ownG hro h1 (gf:=183) (lb:=#[.pointer (some ⟨Bs,0,none⟩)]) rfl h5 (enters_of Tryz.func183 (by kernel_rfl) rfl)
  (values_stops F (n-1) h5 hro (by omega) Bs w.heap.size b off cap a zs ha hlen _ (by simp;omega) (by simp) ((hB0.cell (p:=⟨Bs,0,none⟩) hBs).trans hc) hb hcs0) belowK_t (belowK_b (by simp)) (Below.refl _ _) (fun _=>rfl)
  (fun pre W=>(∃v,Boxed W w.heap.size 30 v/\W.ownsRow w.heap.size 3 1 v pre.length (pre.map (Value.int .i64))/\(v=.slice none 0 0<->pre=[]))/\Below w.heap.size w W)
  (fun _ _ _=>False)
  (OwnFrom.and (Own.from (holdsRow_own w.heap.size w.heap.size 30 3 1 (fun pre:List Int=>pre.length) (fun pre=>pre.map (Value.int .i64)) (fun pre v=>v=.slice none 0 0<->pre=[])) _) (ownFrom_below (Nat.le_refl _) (by simp)))
  (fun _ _ _ _ _ hs _ _=>hs)
  ⟨⟨_,bO,World.ownsRow_nil _ _ _ _,by simp⟩,hB0⟩
  (fun x=>{tmps:=#[.slice none 0 0,.func (.func 183) #[] #[.pointer (some ⟨Bs,0,none⟩)],.pointer (some ⟨w.heap.size,0,none⟩),undef,.slice none 0 0,.int .i64 x,.func (.func 183) #[] #[.pointer (some ⟨Bs,0,none⟩)],.int .i64 x,undef,undef,undef,undef,undef],defers:=[] }) ?assign ?body ?done ?stop
 case assign=>
  intro l x W K hK
  gi_wp2
  exact hK
 case body=>
  rintro l pre x W ⟨⟨v,hv,hrow,hnil⟩,hB⟩ hlt;have hc:=hv.cell
  gi_wp2_with (gi_at_builtin;refine wpListIn_append_own _ rfl _ _ 30 rfl w.heap.size 3 i0 (.int .i64 0) 1 8 Tryz.underlying30 hi hz0 hz1 hz2 rfl (by decide) _ _ _ rfl (hrow.alloc _) ⟨W.heap.size,0,none⟩ 1 1 [.int .i64 x] rfl rfl (cell_one_new _ _ _) (by simp[Value.oneCell']) (by omega) (by omega) (by have:=hB.size;simp;omega) ?_;intro v' w1 hown' hgrow _;obtain⟨g',cap',rfl⟩:=ownsRow_succ hown';obtain⟨hv1,hv2,hr2,hk2,hb2⟩:=hv.appended (by decide) hrow hB.size (Nat.le_refl _) hown' hgrow;have hc1:=hv1.cell;have hf1:=hv1.frozen)
  exact⟨hk2.from _,hb2,⟨_,hv2,by simpa using hr2,by simp⟩,hB.trans hb2⟩
 case done=>
  rintro D ys W hD rfl ⟨⟨v,hv,hrow,hnil⟩,hB⟩ hK;have hc:=hv.cell
  gi_wp2
  refine⟨by simp,.inl ⟨_,_,rfl,run_takeDeferred hK,?_⟩⟩;exact⟨_,results_tmp rfl _ _ _,v,rfl,ownsRow_putObj hrow _ hK rfl,hnil,hB.trans (belowK_b (w:=w) (Nat.le_refl _) W D _ _ (by simp at hD;omega) hK rfl rfl)⟩
 case stop=>
  rintro D c pre W _ _ h _;exact h.elim
end Go.Proofs.YtojfbbggnkijeaaGreatDoor
