import Derived.Test.YtojfbbggnkijeaaGreatDoorZ1
import Derived.Deep.MidRow
set_option linter.all false
noncomputable section
namespace Go.EV
open Go Go.RowKit Go.RR
structure Rn where
 f:Nat->Nat
 c:Nat->Nat
def rcap (ρ:Rn)(b cap:Nat):Nat:=if cap<1125899906842624 then cap else ρ.c b-(1152921504606846976-cap)
def ren0 (ρ:Rn):Value->Value
 | .pointer (some a)=>.pointer (some ⟨ρ.f a.block,a.off,a.spot⟩)
 | .slice (some a) len cap=>.slice (some ⟨ρ.f a.block,a.off,a.spot⟩) len (rcap ρ a.block cap)
 | .map (some r)=>.map (some (ρ.f r))
 |v=>v
def ren1 (ρ:Rn):Value->Value
 | .func fn first caps=>.func fn (first.map (ren0 ρ)) (caps.map (ren0 ρ))
 | .iface t v=>.iface t (ren0 ρ v)
 |v=>ren0 ρ v
def ren2 (ρ:Rn):Value->Value
 | .agg cs=>.agg (cs.map (ren1 ρ))
 |v=>ren1 ρ v
def ren (ρ:Rn):Value->Value
 | .tuple vs=>.tuple (vs.map (ren2 ρ))
 |v=>ren2 ρ v
def plain0:Value->Bool
 | .bool _=>true | .int .. =>true | .string _=>true | .pointer none=>true | .slice none _ _=>true | .map none=>true | .nilFunc=>true | .nilIface=>true
 |_=>false
def plain1:Value->Bool
 | .func _ first caps=>Nat.beq first.size 0&&Nat.beq caps.size 0
 |v=>plain0 v
def plain:Value->Bool
 | .agg cs=>cs.toList.all plain1
 |v=>plain1 v
variable {ρ:Rn} {v:Value} {α:Type}
theorem ren0_plain (h:plain0 v=true):ren0 ρ v=v:=by
 unfold plain0 at h
 split at h<;>first|rfl|cases h
theorem ren1_plain (h:plain1 v=true):ren1 ρ v=v:=by
 unfold plain1 at h;split at h
 ·rw[Bool.and_eq_true,Nat.beq_eq,Nat.beq_eq] at h
  rename_i fn first caps
  have h1:first=#[]:=Array.eq_empty_of_size_eq_zero h.1
  have h2:caps=#[]:=Array.eq_empty_of_size_eq_zero h.2;subst h1;subst h2;simp[ren1]
 ·have:=ren0_plain (ρ:=ρ) h;unfold plain0 at h
  split at h<;>first|rfl|cases h
theorem map_same {α:Type}{f:α->α}:∀{l:List α},(∀x∈l,f x=x)->l.map f=l
 |[],_=>rfl
 |x::l,h=>by rw[List.map_cons,h x (by simp),map_same fun y hy=>h y (by simp[hy])]
theorem amap_same {f:α->α}{a:Array α}(h:∀x∈a.toList,f x=x):a.map f=a:=by
 have:=map_same h;rw[<- Array.toList_map] at this;exact Array.toList_inj.1 this
theorem ren_plain (h:plain v=true):ren ρ v=v:=by
 unfold plain at h;split at h
 ·show Value.agg _=_;rw[amap_same fun x hx=>ren1_plain (List.all_eq_true.1 h x hx)]
 ·have h1:=ren1_plain (ρ:=ρ) h;unfold plain1 plain0 at h;split at h
  ·exact h1
  ·split at h<;>first|rfl|cases h
inductive T (α:Type) where
 |nil
 |node (l:T α) (v:Option α) (r:T α)
def T.get {α:Type}(t:T α):Nat->Option α:=T.rec (motive:=fun _=>Nat->Option α) (fun _=>none) (fun _ v _ ihl ihr n=>cond (Nat.beq n (nat_lit 0)) v (cond (Nat.beq (Nat.mod n (nat_lit 2)) (nat_lit 1)) (ihl (Nat.div n (nat_lit 2))) (ihr (Nat.pred (Nat.div n (nat_lit 2)))))) t
def T.ins {α:Type}(k:Nat):T α->Nat->Option α->T α:=Nat.rec (motive:=fun _=>T α->Nat->Option α->T α) (fun t _ _=>t)
 (fun _ ih t n a=>T.rec (motive:=fun _=>T α)
  (cond (Nat.beq n (nat_lit 0)) (.node .nil a .nil) (cond (Nat.beq (Nat.mod n (nat_lit 2)) (nat_lit 1)) (.node (ih .nil (Nat.div n (nat_lit 2)) a) none .nil) (.node .nil none (ih .nil (Nat.pred (Nat.div n (nat_lit 2))) a))))
  (fun l v r _ _=>cond (Nat.beq n (nat_lit 0)) (.node l a r) (cond (Nat.beq (Nat.mod n (nat_lit 2)) (nat_lit 1)) (.node (ih l (Nat.div n (nat_lit 2)) a) v r) (.node l v (ih r (Nat.pred (Nat.div n (nat_lit 2))) a)))) t) k
theorem T.get_nil (n:Nat):(T.nil:T α).get n=none:=rfl
theorem T.get_node (l r:T α)(v:Option α)(n:Nat):(T.node l v r).get n=bif Nat.beq n 0 then v else bif Nat.beq (n%2) 1 then l.get (n/2) else r.get (n/2-1):=rfl
theorem T.ins_nil (k n:Nat)(a:Option α):T.ins (k+1) .nil n a=bif Nat.beq n 0 then .node .nil a .nil else bif Nat.beq (n%2) 1 then .node (T.ins k .nil (n/2) a) none .nil else .node .nil none (T.ins k .nil (n/2-1) a):=rfl
theorem T.ins_node (k:Nat)(l r:T α)(v:Option α)(n:Nat)(a:Option α):T.ins (k+1) (.node l v r) n a=bif Nat.beq n 0 then .node l a r else bif Nat.beq (n%2) 1 then .node (T.ins k l (n/2) a) v r else .node l v (T.ins k r (n/2-1) a):=rfl
def T.put {α:Type}(t:T α)(n:Nat)(a:α):T α:=T.ins (n+1) t n (some a)
def T.del {α:Type}(t:T α)(n:Nat):T α:=T.ins (n+1) t n none
theorem nbeq {a b:Nat}:Nat.beq a b=decide (a=b):=by
 by_cases h:a=b
 ·subst h;simp
 ·rw[decide_eq_false h];cases hb:Nat.beq a b
  ·rfl
  ·exact absurd (Nat.eq_of_beq_eq_true hb) h
theorem cdec (p:Prop)[Decidable p](x y:α):(bif decide p then x else y)=if p then x else y:=by by_cases h:p<;>simp[h]
theorem T.get_ins {α:Type}:∀(k:Nat) (t:T α) (n:Nat) (a:Option α) (m:Nat),n<k->(T.ins k t n a).get m=if m=n then a else t.get m
 |0,_,_,_,_,h=>by omega
 |k+1,.nil,n,a,m,h=>by
  rw[T.ins_nil];simp only[nbeq,cdec];by_cases h0:n=0
  ·subst h0;rw[if_pos rfl];simp only[T.get_node,T.get_nil,nbeq,cdec];by_cases hm:m=0
   ·simp[hm]
   ·rw[if_neg hm,if_neg hm];split<;>rfl
  ·rw[if_neg h0];by_cases h1:n%2=1
   ·rw[if_pos h1];rw[T.get_node,T.get_nil];simp only[nbeq,cdec];rw[T.get_ins k .nil (n/2) a (m/2) (by omega)];by_cases hm:m=0
    ·rw[if_pos hm,if_neg (by omega)];rfl
    ·rw[if_neg hm];by_cases hm1:m%2=1
     ·rw[if_pos hm1];by_cases he:m=n
      ·rw[if_pos (by omega),if_pos he]
      ·rw[if_neg (by omega),if_neg he];rfl
     ·rw[if_neg hm1,if_neg (by omega)];rfl
   ·rw[if_neg h1];rw[T.get_node,T.get_nil];simp only[nbeq,cdec];rw[T.get_ins k .nil (n/2-1) a (m/2-1) (by omega)];by_cases hm:m=0
    ·rw[if_pos hm,if_neg (by omega)];rfl
    ·rw[if_neg hm];by_cases hm1:m%2=1
     ·rw[if_pos hm1,if_neg (by omega)];rfl
     ·rw[if_neg hm1];by_cases he:m=n
      ·rw[if_pos (by omega),if_pos he]
      ·rw[if_neg (by omega),if_neg he];rfl
 |k+1,.node l v r,n,a,m,h=>by
  rw[T.ins_node];simp only[nbeq,cdec];by_cases h0:n=0
  ·subst h0;rw[if_pos rfl];rw[T.get_node,T.get_node];simp only[nbeq,cdec];by_cases hm:m=0<;>simp[hm]
  ·rw[if_neg h0];by_cases h1:n%2=1
   ·rw[if_pos h1];rw[T.get_node,T.get_node];simp only[nbeq,cdec];rw[T.get_ins k l (n/2) a (m/2) (by omega)];by_cases hm:m=0
    ·rw[if_pos hm,if_pos hm,if_neg (by omega)]
    ·rw[if_neg hm,if_neg hm];by_cases hm1:m%2=1
     ·rw[if_pos hm1,if_pos hm1];by_cases he:m=n
      ·rw[if_pos (by omega),if_pos he]
      ·rw[if_neg (by omega),if_neg he]
     ·rw[if_neg hm1,if_neg hm1,if_neg (by omega)]
   ·rw[if_neg h1];rw[T.get_node,T.get_node];simp only[nbeq,cdec];rw[T.get_ins k r (n/2-1) a (m/2-1) (by omega)];by_cases hm:m=0
    ·rw[if_pos hm,if_pos hm,if_neg (by omega)]
    ·rw[if_neg hm,if_neg hm];by_cases hm1:m%2=1
     ·rw[if_pos hm1,if_pos hm1,if_neg (by omega)]
     ·rw[if_neg hm1,if_neg hm1];by_cases he:m=n
      ·rw[if_pos (by omega),if_pos he]
      ·rw[if_neg (by omega),if_neg he]
theorem T.get_put (t:T α)(n:Nat)(a:α)(m:Nat):(t.put n a).get m=if m=n then some a else t.get m:=T.get_ins (n+1) t n (some a) m (by omega)
theorem T.get_del (t:T α)(n:Nat)(m:Nat):(t.del n).get m=if m=n then none else t.get m:=T.get_ins (n+1) t n none m (by omega)
def T.ofList {α:Type}(l:List (Nat×α)):T α:=l.foldl (fun t p=>t.put p.1 p.2) .nil
theorem T.get_ofList (l:List (Nat×α)){n:Nat}{a:α}(h:(T.ofList l).get n=some a):(n,a)∈l:=by
 have key:∀(l:List (Nat×α)) (t:T α),(l.foldl (fun t p=>t.put p.1 p.2) t).get n=some a->(n,a)∈l\/t.get n=some a:=by
  intro l
  induction l with
  |nil=>exact fun t h=>.inr h
  |cons p l ih=>
   intro t h
   rcases ih _ h with h1|h1
   ·exact .inl (List.mem_cons_of_mem _ h1)
   ·rw[T.get_put] at h1;split at h1
    ·rename_i e;cases h1;subst e;exact .inl List.mem_cons_self
    ·exact .inr h1
 exact (key l .nil h).elim id fun h=>by cases h
def lD {α:Type}(n:Nat)(l:List α):List α:=List.rec (motive:=fun _=>Nat->List α) (fun _=>[]) (fun a l ih n=>Bool.rec (motive:=fun _=>List α) (ih (Nat.sub n (nat_lit 1))) (List.cons a l) (Nat.beq n (nat_lit 0))) l n
def lT {α:Type}(n:Nat)(l:List α):List α:=List.rec (motive:=fun _=>Nat->List α) (fun _=>[]) (fun a _ ih n=>Bool.rec (motive:=fun _=>List α) (List.cons a (ih (Nat.sub n (nat_lit 1)))) [] (Nat.beq n (nat_lit 0))) l n
def lL {α:Type}(l:List α):Nat:=List.rec (motive:=fun _=>Nat) (nat_lit 0) (fun _ _ ih=>Nat.succ ih) l
def lB {α:Type}(n:Nat)(l:List α):Bool:=List.rec (motive:=fun _=>Nat->Bool) (fun n=>Nat.beq n (nat_lit 0)) (fun _ _ ih n=>Bool.rec (motive:=fun _=>Bool) (ih (Nat.sub n (nat_lit 1))) true (Nat.beq n (nat_lit 0))) l n
def lA {α:Type}(l m:List α):List α:=List.rec (motive:=fun _=>List α) m (fun a _ ih=>List.cons a ih) l
def nth {α:Type}(l:List α)(n:Nat):Option α:=List.rec (motive:=fun _=>Nat->Option α) (fun _=>none) (fun a _ ih n=>Bool.rec (motive:=fun _=>Option α) (ih (Nat.sub n (nat_lit 1))) (some a) (Nat.beq n (nat_lit 0))) l n
theorem lD_eq {α:Type}:∀{n:Nat} {l:List α},lD n l=l.drop n
 |_,[]=>by rw[List.drop_nil];rfl
 |0,_::_=>rfl
 |n+1,a::l=>lD_eq (n:=n) (l:=l)
theorem lT_eq {α:Type}:∀{n:Nat} {l:List α},lT n l=l.take n
 |_,[]=>by rw[List.take_nil];rfl
 |0,_::_=>rfl
 |n+1,a::l=>congrArg (List.cons a) (lT_eq (n:=n) (l:=l))
theorem lL_eq {α:Type}:∀{l:List α},lL l=l.length
 |[]=>rfl
 |a::l=>congrArg Nat.succ (lL_eq (l:=l))
theorem lB_eq {α:Type}:∀{n:Nat} {l:List α},lB n l=Nat.ble n l.length
 |0,[]=>rfl
 |n+1,[]=>rfl
 |0,_::_=>rfl
 |n+1,a::l=>lB_eq (n:=n) (l:=l)
theorem lA_eq {α:Type}:∀{l m:List α},lA l m=l++m
 |[],_=>rfl
 |a::l,m=>congrArg (List.cons a) (lA_eq (l:=l) (m:=m))
theorem nth_eq {α:Type}:∀(l:List α) (n:Nat),nth l n=l[n]?
 |[],n=>by simp[nth]
 |a::l,0=>rfl
 |a::l,n+1=>by rw[List.getElem?_cons_succ];exact nth_eq l n
structure Tab (α:Type) where
 get:Nat->Option α
inductive TD where
 |slice (e:TypeId)|ptr (e:TypeId)|arr (n:Nat) (e:TypeId)|st (fs:List (Nat×Nat×TypeId))|map (k e:TypeId)|str|bool|int (k:IntKind)|fn|other
structure TI where
 d:TD
 size:Nat
 bytes:Nat
 zero:List Value
 eqc:Option IntKind
def TD.agg:TD->Bool
 | .arr .. =>true | .st _=>true
 |_=>false
def TI.z (i:TI):Value:=bif i.d.agg then .agg i.zero.toArray else i.zero.headD (.bool false)
def TDok (P:Program)(t:TypeId):TD->Prop
 | .slice e=>P.underlying t=some (.slice e)
 | .ptr e=>P.underlying t=some (.pointer e)
 | .arr n e=>P.underlying t=some (.array n e)
 | .st fs=>∃l,P.underlying t=some (.struct l)/\fs.length=l.size/\∀(i:Nat) o z u,fs[i]?=some (o,z,u)->∃f,l[i]?=some f/\f.offset=o/\f.type=u/\(P.info? u).map (·.size)=some z
 | .map k e=>P.underlying t=some (.map k e)
 | .str=>P.underlying t=some .string
 | .bool=>P.underlying t=some .bool
 | .int k=>P.underlying t=some (.int k)
 | .fn=>∃a b c,P.underlying t=some (.func a b c)
 | .other=>∃d,P.underlying t=some d/\(match d with | .struct _=>false | .array .. =>false | .interface _=>false|_=>true)=true
structure TIok (P:Program)(t:TypeId)(i:TI):Prop where
 d:TDok P t i.d
 info:∃j,P.info? t=some j/\j.size=i.size/\j.bytes=i.bytes/\j.zero=some i.z/\i.z.cells.toList=i.zero
 zp:i.zero.all (fun v=>plain1 v&&v.oneCell')=true
 zl:i.zero.length=i.size
def ikEq:IntKind->IntKind->Bool
 | .i8,.i8=>true | .i16,.i16=>true | .i32,.i32=>true | .i64,.i64=>true | .u8,.u8=>true | .u16,.u16=>true | .u32,.u32=>true | .u64,.u64=>true
 |_,_=>false
variable {P:Program} {t:TypeId}
theorem ikEq_eq {a b:IntKind}(h:ikEq a b=true):a=b:=by cases a<;>cases b<;>first|rfl|cases h
def intEq:Int->Int->Bool
 | .ofNat a,.ofNat b=>Nat.beq a b
 | .negSucc a,.negSucc b=>Nat.beq a b
 |_,_=>false
theorem intEq_eq {a b:Int}:intEq a b=decide (a=b):=by
 cases a<;>cases b<;>simp[intEq,nbeq]<;>omega
def bysEq:List UInt8->List UInt8->Bool
 |[],[]=>true
 |a::l,b::m=>bif Nat.beq a.toNat b.toNat then bysEq l m else false
 |_,_=>false
theorem bysEq_eq:∀{l m:List UInt8},bysEq l m=decide (l=m)
 |[],[]=>rfl
 |[],_::_=>by simp[bysEq]
 |_::_,[]=>by simp[bysEq]
 |a::l,b::m=>by
  unfold bysEq;rw[nbeq,cdec,bysEq_eq (l:=l) (m:=m)];by_cases h:a=b
  ·subst h;simp
  ·have:¬ a.toNat=b.toNat:=fun e=>h (UInt8.toNat_inj.1 e);rw[if_neg this];simp[h]
def pEq:Value->Value->Bool
 | .bool a,.bool b=>a==b
 | .int k a,.int j b=>ikEq k j&&intEq a b
 | .string a,.string b=>bysEq a.data.toList b.data.toList
 | .pointer none,.pointer none=>true
 | .slice none a b,.slice none c d=>Nat.beq a c&&Nat.beq b d
 | .map none,.map none=>true
 | .nilFunc,.nilFunc=>true
 | .nilIface,.nilIface=>true
 |_,_=>false
theorem bytes_eq {a b:ByteArray}(h:a.data.toList=b.data.toList):a=b:=by
 cases a;cases b;simp at h;rw[h]
theorem pEq_eq {a b:Value}(h:pEq a b=true):a=b:=by
 unfold pEq at h;split at h
 ·rw[beq_iff_eq] at h;rw[h]
 ·rw[Bool.and_eq_true,intEq_eq,decide_eq_true_eq] at h;rw[ikEq_eq h.1,h.2]
 ·rw[bysEq_eq,decide_eq_true_eq] at h;rw[bytes_eq h]
 ·rfl
 ·rw[Bool.and_eq_true,nbeq,nbeq,decide_eq_true_eq,decide_eq_true_eq] at h;rw[h.1,h.2]
 all_goals first|rfl|cases h
def psEq:List Value->List Value->Bool
 |[],[]=>true
 |a::l,b::m=>bif pEq a b then psEq l m else false
 |_,_=>false
theorem psEq_eq:∀{l m:List Value},psEq l m=true->l=m
 |[],[],_=>rfl
 |[],_::_,h=>by cases h
 |_::_,[],h=>by cases h
 |a::l,b::m,h=>by
  unfold psEq at h
  cases hp:pEq a b with
  |false=>rw[hp] at h;cases h
  |true=>rw[hp] at h;rw[pEq_eq hp,psEq_eq h]
def fsChk (P:Program):List (Nat×Nat×TypeId)->List Field->Bool
 |[],[]=>true
 |(o,z,u)::l,f::m=>Nat.beq f.offset o&&Nat.beq f.type u&&(match P.info? u with|some j=>Nat.beq j.size z|none=>false)&&fsChk P l m
 |_,_=>false
theorem fsChk_ok {P:Program}:∀{l:List (Nat×Nat×TypeId)} {m:List Field},fsChk P l m=true->l.length=m.length/\∀(i:Nat) o z u,l[i]?=some (o,z,u)->∃f,m[i]?=some f/\f.offset=o/\f.type=u/\(P.info? u).map (·.size)=some z
 |[],[],_=>⟨rfl,fun i o z u h=>by simp at h⟩
 |[],_::_,h=>by cases h
 |_::_,[],h=>by cases h
 |(o,z,u)::l,f::m,h=>by
  unfold fsChk at h;simp only[Bool.and_eq_true,nbeq,decide_eq_true_eq] at h;obtain⟨⟨⟨h1,h2⟩,h3⟩,h4⟩:=h;obtain⟨k1,k2⟩:=fsChk_ok h4;refine⟨by simp[k1],fun i o' z' u' hi=>?_⟩
  cases i with
  |zero=>
   simp at hi;obtain⟨rfl,rfl,rfl⟩:=hi;refine⟨f,rfl,h1,h2,?_⟩
   cases hj:P.info? u with
   |none=>rw[hj] at h3;cases h3
   |some j=>rw[hj] at h3;simp only[decide_eq_true_eq] at h3;simp[h3]
  |succ i=>
   obtain⟨f',a,b⟩:=k2 i o' z' u' (by simpa using hi);exact⟨f',by simpa using a,b⟩
def tdChk (P:Program)(t:TypeId)(d:TD):Bool:=match d,P.underlying t with
 | .slice e,some (.slice e')=>Nat.beq e' e
 | .ptr e,some (.pointer e')=>Nat.beq e' e
 | .arr n e,some (.array n' e')=>Nat.beq n' n&&Nat.beq e' e
 | .st fs,some (.struct l)=>fsChk P fs l.toList
 | .map k e,some (.map k' e')=>Nat.beq k' k&&Nat.beq e' e
 | .str,some .string=>true
 | .bool,some .bool=>true
 | .int k,some (.int k')=>ikEq k' k
 | .fn,some (.func ..)=>true
 | .other,some d=>(match d with | .struct _=>false | .array .. =>false | .interface _=>false|_=>true)
 |_,_=>false
theorem tdChk_ok {d:TD}(h:tdChk P t d=true):TDok P t d:=by
 unfold tdChk at h;split at h<;>rename_i hu
 ·rw[nbeq,decide_eq_true_eq] at h;subst h;exact hu
 ·rw[nbeq,decide_eq_true_eq] at h;subst h;exact hu
 ·rw[Bool.and_eq_true,nbeq,decide_eq_true_eq,nbeq,decide_eq_true_eq] at h;obtain⟨rfl,rfl⟩:=h;exact hu
 ·obtain⟨h1,h2⟩:=fsChk_ok h;exact⟨_,hu,by simpa using h1,fun i o z u hi=>by obtain⟨f,a,b⟩:=h2 i o z u hi;exact⟨f,by simpa using a,b⟩⟩
 ·rw[Bool.and_eq_true,nbeq,decide_eq_true_eq,nbeq,decide_eq_true_eq] at h;obtain⟨rfl,rfl⟩:=h;exact hu
 ·exact hu
 ·exact hu
 ·rw[<- ikEq_eq h];exact hu
 ·exact⟨_,_,_,hu⟩
 ·exact⟨_,hu,h⟩
 ·cases h
def tiChk (P:Program)(t:TypeId)(i:TI):Bool:=
 tdChk P t i.d&&(match P.info? t with|some j=>Nat.beq j.size i.size&&Nat.beq j.bytes i.bytes&&(match j.zero with|some z=>psEq z.cells.toList i.zero&&(match z with | .agg _=>i.d.agg|_=>!i.d.agg)|none=>false)|none=>false)&&i.zero.all (fun v=>plain1 v&&v.oneCell')&&Nat.beq i.zero.length i.size
theorem tiChk_ok {i:TI}(h:tiChk P t i=true):TIok P t i:=by
 unfold tiChk at h;rw[Bool.and_eq_true,Bool.and_eq_true,Bool.and_eq_true] at h;obtain⟨⟨⟨h1,h2⟩,h3⟩,h4⟩:=h;refine⟨tdChk_ok h1,?_,h3,by rwa[nbeq,decide_eq_true_eq] at h4⟩
 cases hj:P.info? t with
 |none=>rw[hj] at h2;cases h2
 |some j=>
  rw[hj] at h2;simp only[Bool.and_eq_true,nbeq,decide_eq_true_eq] at h2;obtain⟨⟨a,b⟩,c⟩:=h2
  cases hz:j.zero with
  |none=>rw[hz] at c;cases c
  |some z=>
   rw[hz] at c;simp only[Bool.and_eq_true] at c;obtain⟨c1,c2⟩:=c;have c1:=psEq_eq c1;have e:z=i.z:=by
    unfold TI.z;rw[<- c1]
    cases z with
    |agg cs=>simp only at c2;rw[c2];simp[Value.cells]
    |_=>simp only[Bool.not_eq_true'] at c2;rw[c2];rfl
   exact⟨j,rfl,a,b,by rw[hz,e],by rw[<- e];exact c1⟩
def isK:Option IntKind->Value->Bool
 |some k,.int j _=>ikEq j k
 |_,_=>false
def EqP (P:Program)(t:TypeId)(n:Nat)(k:Option IntKind):Prop:=∀(xs ys:List Value) (x y:Operand) (w:World),xs.length=n->ys.length=n->xs.all (isK k)=true->ys.all (isK k)=true->
 (do eqGuard .eql t x y (.agg xs.toArray) (.agg ys.toArray);binOp .eql t (.agg xs.toArray) (.agg ys.toArray)).run P w=.ok (.bool (psEq xs ys)) w/\
 (do eqGuard .neq t x y (.agg xs.toArray) (.agg ys.toArray);binOp .neq t (.agg xs.toArray) (.agg ys.toArray)).run P w=.ok (.bool (!psEq xs ys)) w/\
 (Op.equal t (.agg xs.toArray) (.agg ys.toArray)).run P w=.ok (psEq xs ys) w/\∀b,(Instr.checkKey b 10000 t (.agg xs.toArray)).run P w=.ok () w
def TyOk (P:Program)(tys:Tab TI):Prop:=∀t i,tys.get t=some i->TIok P t i/\(i.eqc.isSome=true->EqP P t i.size i.eqc)
section
variable {P:Program} {t:TypeId} {i:TI}
theorem TIok.size (h:TIok P t i)(w:World):(sizeOf t).run P w=.ok i.size w:=by
 obtain⟨j,h1,h2,_⟩:=h.info;simp[sizeOf,typeInfo,program,Sem.run,bind,Sem.bind,pure,h1,h2]
theorem TIok.isz (h:TIok P t i):(P.info? t).map (·.size)=some i.size:=by
 obtain⟨j,h1,h2,_⟩:=h.info;rw[h1,<-h2];rfl
theorem TIok.zeroV (h:TIok P t i)(w:World):(zeroValue t).run P w=.ok i.z w/\i.z.cells.toList=i.zero:=by
 obtain⟨j,h1,_,_,h3,h4⟩:=h.info;exact⟨by simp[zeroValue,typeInfo,program,Sem.run,bind,Sem.bind,pure,h1,h3],h4⟩
theorem run_und {d:TypeDesc}(h:P.underlying t=some d)(w:World):(underlying t).run P w=.ok d w:=by
 simp[underlying,program,Sem.run,bind,Sem.bind,pure,h]
theorem TIok.agg (h:TIok P t i)(w:World):(isAgg t).run P w=.ok i.d.agg w:=by
 have hd:=h.d
 cases hi:i.d with
 |st fs=>rw[hi] at hd;obtain⟨l,hl,_⟩:=hd;simp[isAgg,Sem.run_bind,run_und hl,TD.agg]
 |arr n e=>rw[hi] at hd;have hl:P.underlying t=_:=hd;simp[isAgg,Sem.run_bind,run_und hl,TD.agg]
 |fn=>rw[hi] at hd;obtain⟨_,_,_,hl⟩:=hd;simp[isAgg,Sem.run_bind,run_und hl,TD.agg]
 |other=>
  rw[hi] at hd;obtain⟨d,hl,h2⟩:=hd
  cases d<;>first|(simp at h2;done)|simp[isAgg,Sem.run_bind,run_und hl,TD.agg]
 |_=>rw[hi] at hd;have hl:P.underlying t=_:=hd;simp[isAgg,Sem.run_bind,run_und hl,TD.agg]
end
end Go.EV
noncomputable section
namespace Go.EV
open Go Go.RowKit Go.RR
variable {b:Int} {x:Nat} {k:IntKind} {P:Program} {op:BinOp} {v:Value} {t:TypeId}
def ile:Int->Int->Bool
 | .ofNat a,.ofNat b=>Nat.ble a b
 | .negSucc _,.ofNat _=>true
 | .ofNat _,.negSucc _=>false
 | .negSucc a,.negSucc b=>Nat.ble b a
theorem ile_eq {a:Int}:ile a b=decide (a<=b):=by
 cases a<;>cases b<;>simp only[ile]
 ·rw[Bool.eq_iff_iff,Nat.ble_eq,decide_eq_true_eq];simp
 ·rw[Bool.eq_iff_iff,decide_eq_true_eq];simp;omega
 ·rw[Bool.eq_iff_iff,decide_eq_true_eq];simp;omega
 ·rw[Bool.eq_iff_iff,Nat.ble_eq,decide_eq_true_eq];omega
def ilt (a b:Int):Bool:=!ile b a
theorem ilt_eq {a:Int}:ilt a b=decide (a<b):=by
 unfold ilt;rw[ile_eq,Bool.eq_iff_iff];simp
def wr (k:IntKind)(r:Int):Int:=match k with
 | .i64=>bif ile (.negSucc 9223372036854775807) r&&ile r (.ofNat 9223372036854775807) then r else IntKind.wrap .i64 r
 | .u64=>bif ile (.ofNat 0) r&&ile r (.ofNat 18446744073709551615) then r else IntKind.wrap .u64 r
 | .u8=>bif ile (.ofNat 0) r&&ile r (.ofNat 255) then r else IntKind.wrap .u8 r
 |k=>k.wrap r
theorem within {lo hi r x:Int}:(bif ile lo r&&ile r hi then r else x)=if lo<=r/\r<=hi then r else x:=by
 rw[ile_eq,ile_eq,<-Bool.decide_and,cdec]
theorem wr_eq {r:Int}:wr k r=k.wrap r:=by
 cases k<;>try rfl
 all_goals
  unfold wr;simp only[within];split
  ·rename_i h;obtain⟨h1,h2⟩:=h;simp only[Int.ofNat_eq_natCast,Int.negSucc_eq] at h1 h2;unfold IntKind.wrap;simp[IntKind.bits,IntKind.signed]
   try omega
  ·rfl
def nat2:Int->Int->Option (Nat×Nat)
 | .ofNat a,.ofNat b=>some (a,b)
 |_,_=>none
def bits2 (op:BinOp)(a b:Nat):Option Nat:=match op with
 | .and=>some (Nat.land a b)
 | .or=>some (Nat.lor a b)
 | .xor=>some (Nat.xor a b)
 | .andNot=>some (Nat.xor a (Nat.land a b))
 |_=>none
def umax:IntKind->Nat
 | .u64=>18446744073709551616
 | .u8=>256
 |_=>0
def andI (op:BinOp)(k:IntKind)(a b:Int):Option Value:=match op,k,a,b with
 | .and,.i64,.ofNat x,.negSucc y=>bif Nat.blt x 9223372036854775808 then some (.int .i64 (.ofNat (Nat.xor x (Nat.land x y)))) else none
 |_,_,_,_=>none
def ar (op:BinOp)(k:IntKind)(a b:Int):Option Value:=match op with
 | .add=>some (.int k (wr k (a+b)))
 | .sub=>some (.int k (wr k (a-b)))
 | .mul=>some (.int k (wr k (a*b)))
 | .lss=>some (.bool (ilt a b))
 | .leq=>some (.bool (ile a b))
 | .gtr=>some (.bool (ilt b a))
 | .geq=>some (.bool (ile b a))
 | .eql=>some (.bool (intEq a b))
 | .neq=>some (.bool (!intEq a b))
 | .quo=>bif intEq b 0 then none else some (.int k (wr k (a.tdiv b)))
 | .rem=>bif intEq b 0 then none else some (.int k (a.tmod b))
 | .and | .or | .xor | .andNot=>match nat2 a b with
  |some (x,y)=>bif Nat.blt x (umax k)&&Nat.blt y (umax k) then (match bits2 op x y with|some r=>some (.int k (.ofNat r))|none=>none) else none
  |none=>andI op k a b
 |_=>none
def kbits:IntKind->Nat
 | .i8 | .u8=>8 | .i16 | .u16=>16 | .i32 | .u32=>32 | .i64 | .u64=>64
def sh (op:BinOp)(k:IntKind)(a b:Int):Option Value:=match nat2 a b with
 |some (x,y)=>match op with
  | .shl=>some (.int k (wr k (.ofNat (x*2 ^ (Nat.min y (kbits k))))))
  | .shr=>some (.int k (.ofNat (x/2 ^ (Nat.min y (kbits k)))))
  |_=>none
 |none=>none
theorem nat2_some {a:Int}{y:Nat}(h:nat2 a b=some (x,y)):a=(x:Int)/\b=(y:Int):=by
 unfold nat2 at h;split at h
 ·cases h;exact⟨rfl,rfl⟩
 ·cases h
theorem bits_u (h:x<umax k):umax k=2 ^ k.bits/\∀r:Nat,r<umax k->k.wrap (r:Int)=r:=by
 cases k<;>simp[umax] at h⊢
 ·refine⟨rfl,fun r hr=>?_⟩;unfold IntKind.wrap;simp[IntKind.bits,IntKind.signed];omega
 ·refine⟨rfl,fun r hr=>?_⟩;unfold IntKind.wrap;simp[IntKind.bits,IntKind.signed];omega
theorem xor_land_lt {a b n:Nat}(ha:a<2 ^ n):a ^^^ (a &&& b)<2 ^ n:=Nat.xor_lt_two_pow ha (Nat.lt_of_le_of_lt Nat.and_le_left ha)
theorem run_bits {y r:Nat}(hx:x<umax k)(hy:y<umax k)(h:bits2 op x y=some r)(w:World):(Op.intBits op k (x:Int) (y:Int)).run P w=.ok (.int k (r:Int)) w:=by
 obtain⟨e,hw⟩:=bits_u hx;have hx':x<2 ^ k.bits:=by rw[<- e];exact hx
 have hy':y<2 ^ k.bits:=by rw[<- e];exact hy
 have ex:(BitVec.ofInt k.bits (x:Int)).toNat=x:=by rw[BitVec.ofInt_natCast,BitVec.toNat_ofNat,Nat.mod_eq_of_lt hx']
 have ey:(BitVec.ofInt k.bits (y:Int)).toNat=y:=by rw[BitVec.ofInt_natCast,BitVec.toNat_ofNat,Nat.mod_eq_of_lt hy']
 cases op<;>simp only[bits2] at h<;>first|(cases h;done)|skip
 all_goals
  cases h;simp only[Op.intBits,Sem.run_pure,BitVec.toNat_and,BitVec.toNat_or,BitVec.toNat_xor,ex,ey]
 ·rw[hw _ (by rw[e];exact Nat.lt_of_le_of_lt Nat.and_le_left hx')];rfl
 ·rw[hw _ (by rw[e];exact Nat.or_lt_two_pow hx' hy')];rfl
 ·rw[hw _ (by rw[e];exact Nat.xor_lt_two_pow hx' hy')];rfl
 ·have key:x &&& (~~~BitVec.ofInt k.bits (y:Int)).toNat=x ^^^ (x &&& y):=by
   apply Nat.eq_of_testBit_eq;intro i;rw[Nat.testBit_and,Nat.testBit_xor,Nat.testBit_and,<-BitVec.getLsbD];by_cases hi:i<k.bits
   ·rw[BitVec.getLsbD_not,decide_eq_true hi,Bool.true_and];have:(BitVec.ofInt k.bits (y:Int)).getLsbD i=y.testBit i:=by rw[BitVec.getLsbD,ey]
    rw[this];cases x.testBit i<;>cases y.testBit i<;>rfl
   ·have:x.testBit i=false:=Nat.testBit_lt_two_pow (Nat.lt_of_lt_of_le hx' (Nat.pow_le_pow_right (by omega) (by omega)));rw[this];simp
  rw[key,hw _ (by rw[e];exact xor_land_lt hx')];rfl
theorem run_andI {a:Int}(h:andI op k a b=some v)(w:World):(binOp op 0 (.int k a) (.int k b)).run P w=.ok v w:=by
 unfold andI at h;split at h
 ·rename_i x y
  cases hx:Nat.blt x 9223372036854775808 with
  |false=>rw[hx] at h;cases h
  |true=>
   rw[hx] at h;cases h;rw[Nat.blt_eq] at hx;have hx':x<2 ^ 64:=by omega
   have e2:(2:Nat) ^ 64=18446744073709551616:=by decide
   have key:((BitVec.ofInt 64 (.ofNat x) &&& BitVec.ofInt 64 (.negSucc y)).toNat)=Nat.xor x (Nat.land x y):=by
    show _=x ^^^ (x &&& y);apply Nat.eq_of_testBit_eq;intro i;have ex:(BitVec.ofInt 64 (Int.ofNat x)).toNat=x:=by
     show (BitVec.ofInt 64 (x:Int)).toNat=x;rw[BitVec.ofInt_natCast,BitVec.toNat_ofNat,Nat.mod_eq_of_lt hx']
    rw[BitVec.toNat_and,ex,Nat.testBit_and,Nat.testBit_xor,Nat.testBit_and,<-BitVec.getLsbD,BitVec.ofInt_negSucc_eq_not_ofNat];by_cases hi:i<64
    ·rw[BitVec.getLsbD_not,decide_eq_true hi,Bool.true_and,BitVec.getLsbD_ofNat,decide_eq_true hi,Bool.true_and];cases x.testBit i<;>cases y.testBit i<;>rfl
    ·have:x.testBit i=false:=Nat.testBit_lt_two_pow (Nat.lt_of_lt_of_le hx' (Nat.pow_le_pow_right (by omega) (by omega)));rw[this];simp
   have hle:Nat.xor x (Nat.land x y)<9223372036854775808:=by
    rw[<- key,BitVec.toNat_and];have ex:(BitVec.ofInt 64 (Int.ofNat x)).toNat=x:=by
     show (BitVec.ofInt 64 (x:Int)).toNat=x;rw[BitVec.ofInt_natCast,BitVec.toNat_ofNat,Nat.mod_eq_of_lt hx']
    rw[ex];exact Nat.lt_of_le_of_lt Nat.and_le_left hx
   show (Sem.run P (pure (Value.int .i64 (IntKind.i64.wrap ((BitVec.ofInt 64 (.ofNat x) &&& BitVec.ofInt 64 (.negSucc y)).toNat:Int)))) w)=_;rw[key,IntKind.wrap_i64,show ((Nat.xor x (Nat.land x y):Nat):Int)+9223372036854775808=((Nat.xor x (Nat.land x y)+9223372036854775808:Nat):Int) by omega,show ((Nat.xor x (Nat.land x y)+9223372036854775808:Nat):Int)%18446744073709551616-9223372036854775808=Int.ofNat (Nat.xor x (Nat.land x y)) by simp only[Int.ofNat_eq_natCast];omega];rfl
 ·cases h
theorem run_ar {a:Int}(h:ar op k a b=some v)(w:World):(binOp op 0 (.int k a) (.int k b)).run P w=.ok v w:=by
 unfold ar at h
 cases op<;>simp only at h<;>first|(cases h;done)|skip
 case add=>cases h;rw[wr_eq];simp[binOp,Op.intArith]
 case sub=>cases h;rw[wr_eq];simp[binOp,Op.intArith]
 case mul=>cases h;rw[wr_eq];simp[binOp,Op.intArith]
 case lss=>cases h;rw[ilt_eq];simp[binOp,Op.intCmp]
 case leq=>cases h;rw[ile_eq];simp[binOp,Op.intCmp]
 case gtr=>cases h;rw[ilt_eq];simp[binOp,Op.intCmp]
 case geq=>cases h;rw[ile_eq];simp[binOp,Op.intCmp]
 case eql=>cases h;rw[intEq_eq];simp[binOp,Op.intCmp];rfl
 case neq=>cases h;rw[intEq_eq];simp[binOp,Op.intCmp];rfl
 case quo=>
  rw[intEq_eq,cdec] at h;split at h
  ·cases h
  ·rename_i h0;cases h;rw[wr_eq];simp[binOp,Op.intDiv,h0]
 case rem=>
  rw[intEq_eq,cdec] at h;split at h
  ·cases h
  ·rename_i h0;cases h;simp[binOp,Op.intDiv,h0]
 all_goals
  split at h
  ·rename_i x y hxy;obtain⟨rfl,rfl⟩:=nat2_some hxy
   cases hc:(Nat.blt x (umax k)&&Nat.blt y (umax k)) with
   |false=>rw[hc] at h;cases h
   |true=>
    rw[hc] at h;simp only[Bool.and_eq_true,Nat.blt_eq] at hc;split at h
    ·rename_i r hr;simp only[cond_true] at h;cases h;have:=run_bits (P:=P) hc.1 hc.2 hr w;simpa[binOp] using this
    ·cases h
  ·exact run_andI h w
theorem binOp_t {a:Int}:binOp op t (.int k a) (.int k b)=binOp op 0 (.int k a) (.int k b):=by
 cases op<;>rfl
theorem run_sh {j:IntKind}{a:Int}(h:sh op k a b=some v)(w:World):(binOp op t (.int k a) (.int j b)).run P w=.ok v w:=by
 unfold sh at h;split at h
 ·rename_i x y hxy;obtain⟨rfl,rfl⟩:=nat2_some hxy;have hb:kbits k=k.bits:=by cases k<;>rfl
  have hmin:Nat.min y (kbits k)=min y k.bits:=by rw[hb]
  cases op<;>simp only at h<;>first|(cases h;done)|skip
  ·cases h;rw[wr_eq,hmin];simp only[binOp,Op.shift];rw[if_neg (by omega)];simp
  ·cases h;rw[hmin];simp only[binOp,Op.shift];rw[if_neg (by omega)];simp only[Sem.run_pure,Int.toNat_natCast];rw[Int.fdiv_eq_ediv_of_nonneg _ (Int.le_of_lt (Int.pow_pos (by omega)))];simp
 ·cases h
def st (op:BinOp)(a b:ByteArray):Option Value:=match op with
 | .eql=>some (.bool (bysEq a.data.toList b.data.toList))
 | .neq=>some (.bool (!bysEq a.data.toList b.data.toList))
 |_=>none
theorem run_st {a b:ByteArray}(h:st op a b=some v)(w:World):(binOp op t (.string a) (.string b)).run P w=.ok v w:=by
 unfold st at h;have e:(a.toList==b.toList)=bysEq a.data.toList b.data.toList:=by
  rw[bysEq_eq,Bool.eq_iff_iff,beq_iff_eq,decide_eq_true_eq];rw[ByteArray.toList_eq,ByteArray.toList_eq]
 cases op<;>simp only at h<;>first|(cases h;done)|skip
 ·cases h;simp[binOp,Op.stringOp,e]
 ·cases h;simp[binOp,Op.stringOp,e]
end Go.EV
noncomputable section
namespace Go.EV
open Go Go.RowKit Go.RR
section
variable {ρ:Rn}
@[simp] theorem ren_int {k:IntKind} {n:Int}:ren ρ (.int k n)=.int k n:=rfl
@[simp] theorem ren_bool {b:Bool}:ren ρ (.bool b)=.bool b:=rfl
@[simp] theorem ren_string {s:ByteArray}:ren ρ (.string s)=.string s:=rfl
@[simp] theorem ren_ptr {a:Addr}:ren ρ (.pointer (some a))=.pointer (some ⟨ρ.f a.block,a.off,a.spot⟩):=rfl
@[simp] theorem ren_ptrn:ren ρ (.pointer none)=.pointer none:=rfl
@[simp] theorem ren_slice {a:Addr} {l c:Nat}:ren ρ (.slice (some a) l c)=.slice (some ⟨ρ.f a.block,a.off,a.spot⟩) l (rcap ρ a.block c):=rfl
@[simp] theorem ren_slicen {l c:Nat}:ren ρ (.slice none l c)=.slice none l c:=rfl
@[simp] theorem ren_map {r:Nat}:ren ρ (.map (some r))=.map (some (ρ.f r)):=rfl
@[simp] theorem ren_mapn:ren ρ (.map none)=.map none:=rfl
@[simp] theorem ren_nilFunc:ren ρ .nilFunc=.nilFunc:=rfl
@[simp] theorem ren_nilIface:ren ρ .nilIface=.nilIface:=rfl
@[simp] theorem ren_func {fn:Fn} {a c:Array Value}:ren ρ (.func fn a c)=.func fn (a.map (ren0 ρ)) (c.map (ren0 ρ)):=rfl
@[simp] theorem ren_iface {t:TypeId} {v:Value}:ren ρ (.iface t v)=.iface t (ren0 ρ v):=rfl
@[simp] theorem ren_agg {c:Array Value}:ren ρ (.agg c)=.agg (c.map (ren1 ρ)):=rfl
@[simp] theorem ren_tuple {c:Array Value}:ren ρ (.tuple c)=.tuple (c.map (ren2 ρ)):=rfl
end
variable {ρ:Rn} {v:Value} {P:Program} {tys:Tab TI} {t:TypeId} {b:Value}
def base0:Value->Bool
 | .bool _=>true | .int .. =>true | .string _=>true | .pointer _=>true | .slice .. =>true | .map _=>true | .nilFunc=>true | .nilIface=>true
 |_=>false
def base1:Value->Bool
 | .func .. =>true | .iface .. =>true
 |v=>base0 v
def base2:Value->Bool
 | .agg _=>true
 |v=>base1 v
theorem ren_base0 (h:base0 v=true):ren ρ v=ren0 ρ v:=by
 unfold base0 at h
 split at h<;>first|rfl|cases h
theorem ren_base1 (h:base1 v=true):ren ρ v=ren1 ρ v:=by
 unfold base1 at h;split at h
 ·rfl
 ·rfl
 ·unfold base0 at h
  split at h<;>first|rfl|cases h
theorem ren_base2 (h:base2 v=true):ren ρ v=ren2 ρ v:=by
 unfold base2 at h;split at h
 ·rfl
 ·unfold base1 at h;split at h
  ·rfl
  ·rfl
  ·unfold base0 at h
   split at h<;>first|rfl|cases h
theorem ren1_one (h:base1 v=true):(ren1 ρ v).oneCell'=true:=by
 cases v with
 |pointer a=>cases a<;>rfl
 |slice a l c=>cases a<;>rfl
 |map r=>cases r<;>rfl
 |_=>first|rfl|cases h
def opv (tm:T Value):Operand->Option Value
 | .tmp t=>tm.get t
 | .const v=>bif plain v then some v else none
 | .global g=>bif Nat.blt g 16 then some (.pointer (some ⟨g,0,none⟩)) else none
 | .func f=>some (.func (.func f) #[] #[])
def opvs (tm:T Value):List Operand->Option (List Value)
 |[]=>some []
 |x::r=>match opv tm x with
  |some v=>match opvs tm r with
   |some l=>some (v::l)
   |none=>none
  |none=>none
def Rv (ρ:Rn)(tm:T Value)(rv:Operand->Value):Prop:=∀x u,opv tm x=some u->rv x=ren ρ u
theorem Rv.list {ρ:Rn}{tm:T Value}{rv:Operand->Value}(h:Rv ρ tm rv):∀{l:List Operand} {vs:List Value},opvs tm l=some vs->l.map rv=vs.map (ren ρ)
 |[],vs,e=>by cases e;rfl
 |x::r,vs,e=>by
  unfold opvs at e
  cases hx:opv tm x with
  |none=>rw[hx] at e;cases e
  |some v=>
   rw[hx] at e;dsimp only at e
   cases hr:opvs tm r with
   |none=>rw[hr] at e;cases e
   |some l=>rw[hr] at e;cases e;rw[List.map_cons,List.map_cons,h x v hx,h.list hr]
def eqv (op:BinOp)(r:Bool):Option Value:=match op with
 | .eql=>some (.bool r)
 | .neq=>some (.bool (!r))
 |_=>none
def nilEq (tys:Tab TI)(t:TypeId)(a b:Value):Option Bool:=match tys.get t with
 |none=>none
 |some i=>match i.d,a,b with
  | .ptr _,.pointer none,.pointer p=>some p.isNone
  | .ptr _,.pointer p,.pointer none=>some p.isNone
  | .slice _,.slice none _ _,.slice p _ _=>some p.isNone
  | .slice _,.slice p _ _,.slice none _ _=>some p.isNone
  | .map ..,.map none,.map p=>some p.isNone
  | .map ..,.map p,.map none=>some p.isNone
  | .fn,.nilFunc,.nilFunc=>some true
  | .fn,.func ..,.nilFunc=>some false
  | .fn,.nilFunc,.func .. =>some false
  | .bool,.bool a,.bool b=>some (a==b)
  |_,_,_=>none
theorem run_nilEq (hT:TyOk P tys){a:Value}{r:Bool}(h:nilEq tys t a b=some r)(ρ:Rn)(w:World):(Op.equal t (ren ρ a) (ren ρ b)).run P w=.ok r w:=by
 unfold nilEq at h
 cases hg:tys.get t with
 |none=>rw[hg] at h;cases h
 |some i=>
  have hd:=(hT t i hg).1.d;rw[hg] at h;dsimp only at h
  suffices key:∀d,(Op.equalIn (d+1) t (ren ρ a) (ren ρ b)).run P w=.ok r w from key 9999
  intro d
  split at h<;>first|(cases h;done)|skip
  all_goals
   rename_i hi;rw[hi] at hd;cases h
  ·rename_i p;have hd:P.underlying t=_:=hd;cases p<;>simp[Op.equalIn,run_und hd]
  ·rename_i p _;have hd:P.underlying t=_:=hd;cases p<;>simp[Op.equalIn,run_und hd]
  ·rename_i p _ _;have hd:P.underlying t=_:=hd;cases p<;>simp[Op.equalIn,run_und hd]
  ·rename_i p _ _ _ _ _;have hd:P.underlying t=_:=hd;cases p<;>simp[Op.equalIn,run_und hd]
  ·rename_i p;have hd:P.underlying t=_:=hd;cases p<;>simp[Op.equalIn,run_und hd]
  ·rename_i p _;have hd:P.underlying t=_:=hd;cases p<;>simp[Op.equalIn,run_und hd]
  ·obtain⟨_,_,_,hd⟩:=hd;simp[Op.equalIn,run_und hd]
  ·obtain⟨_,_,_,hd⟩:=hd;simp[Op.equalIn,run_und hd]
  ·obtain⟨_,_,_,hd⟩:=hd;simp[Op.equalIn,run_und hd]
  ·have hd:P.underlying t=_:=hd;simp[Op.equalIn,run_und hd]
def nk:Value->Bool
 | .bool _=>true | .pointer _=>true | .slice .. =>true | .map _=>true | .nilFunc=>true | .func .. =>true
 |_=>false
theorem nk_ren {a:Value}(h:nk a=true):nk (ren ρ a)=true:=by
 cases a with
 |pointer a=>cases a<;>rfl
 |slice a l c=>cases a<;>rfl
 |map r=>cases r<;>rfl
 |_=>first|rfl|cases h
theorem binOp_nk {a:Value}(ha:nk a=true)(hb:nk b=true):binOp .eql t a b=(do pure (.bool (<- Op.equal t a b)))/\binOp .neq t a b=(do pure (.bool (!(<- Op.equal t a b)))):=by
 cases a<;>first|(cases ha;done)|(cases b<;>first|(cases hb;done)|exact⟨rfl,rfl⟩)
theorem nilEq_nk {a:Value}{r:Bool}(h:nilEq tys t a b=some r):nk a=true/\nk b=true:=by
 unfold nilEq at h;split at h
 ·cases h
 ·split at h<;>first|(cases h;done)|exact⟨rfl,rfl⟩
def opBin (tys:Tab TI)(op:BinOp)(t:TypeId)(a b:Value):Option Value:=match a,b with
 | .int k x,.int j y=>match op with
  | .shl=>sh op k x y
  | .shr=>sh op k x y
  |_=>bif ikEq k j then ar op k x y else none
 | .string x,.string y=>st op x y
 | .agg xs,.agg ys=>match tys.get t with
  |some i=>bif i.eqc.isSome&&Nat.beq xs.toList.length i.size&&Nat.beq ys.toList.length i.size&&xs.toList.all (isK i.eqc)&&ys.toList.all (isK i.eqc) then eqv op (psEq xs.toList ys.toList) else none
  |none=>none
 |a,b=>match nilEq tys t a b with
  |some r=>eqv op r
  |none=>none
theorem cnd9 {α:Type}{c:Bool}{x:Option α}{v:α}(h:(bif c then x else none)=some v):c=true/\x=some v:=by cases c<;>first|(cases h;done)|exact⟨rfl,h⟩
theorem ren1_i64 {ko:Option IntKind}{xs:Array Value}(h:xs.toList.all (isK ko)=true):xs.map (ren1 ρ)=xs:=by
 refine amap_same fun x hx=>?_;have:=List.all_eq_true.1 h x hx;unfold isK at this;split at this
 ·rfl
 ·cases this
theorem eqGuard_no {op:BinOp}{x y:Operand}{a:Value}(h1:∀cs,a≠.agg cs)(h2:a≠.nilIface)(w:World):(eqGuard op t x y a b).run P w=.ok () w:=by
 unfold eqGuard;cases op<;>simp
 all_goals
  split
  ·exact absurd rfl h2
  ·exact absurd rfl (h1 _)
  ·rfl
theorem run_opBin (hT:TyOk P tys){op:BinOp}{a:Value}(h:opBin tys op t a b=some v)(ρ:Rn)(x y:Operand)(w:World):
  (do eqGuard op t x y (ren ρ a) (ren ρ b);binOp op t (ren ρ a) (ren ρ b)).run P w=.ok (ren ρ v) w:=by
 unfold opBin at h;split at h
 ·rename_i k m j n;simp only[ren_int];rw[Sem.run_bind,eqGuard_no (by simp) (by simp)];show (binOp op t (.int k m) (.int j n)).run P w=_;have hop:=h;clear h;have key:(bif ikEq k j then ar op k m n else none)=some v->(binOp op t (.int k m) (.int j n)).run P w=.ok (ren ρ v) w:=fun h=>by
   cases hk:ikEq k j with
   |false=>rw[hk] at h;cases h
   |true=>
    rw[hk] at h;have:=ikEq_eq hk;subst this;have h:ar op k m n=some v:=h;have h2:=run_ar (P:=P) (op:=op) (k:=k) (a:=m) (b:=n) h w;rw[<- binOp_t (t:=t)] at h2;rw[h2];congr 1;unfold ar at h
    cases op<;>simp only at h<;>first|(cases h;rfl)|(cases h;done)|skip
    all_goals
     first
     |(cases hz:intEq n 0<;>rw[hz] at h<;>cases h<;>rfl)
     | (split at h
        ·rename_i x y _;cases hc:(Nat.blt x (umax k)&&Nat.blt y (umax k))<;>rw[hc] at h
         ·cases h
         ·simp only[cond_true] at h;split at h<;>cases h;rfl
        ·unfold andI at h;split at h
         ·obtain⟨_,h⟩:=cnd9 h;cases h;rfl
         ·cases h)
  have ks:∀v,sh op k m n=some v->ren ρ v=v:=fun v h=>by
   unfold sh at h;split at h
   ·cases op<;>simp only at h<;>first|(cases h;rfl)|(cases h;done)
   ·cases h
  cases op<;>first|(rw[run_sh hop,ks v hop];done)|exact key hop
 ·rename_i m n;simp only[ren_string];rw[Sem.run_bind,eqGuard_no (by simp) (by simp)];show (binOp op t (.string m) (.string n)).run P w=_;rw[run_st h];unfold st at h
  cases op<;>simp only at h<;>first|(cases h;rfl)|(cases h;done)
 ·rename_i xs ys
  cases hg:tys.get t with
  |none=>rw[hg] at h;cases h
  |some i=>
   rw[hg] at h;dsimp only at h
   cases hc:(i.eqc.isSome&&Nat.beq xs.toList.length i.size&&Nat.beq ys.toList.length i.size&&xs.toList.all (isK i.eqc)&&ys.toList.all (isK i.eqc)) with
   |false=>rw[hc] at h;cases h
   |true=>
    rw[hc] at h;simp only[Bool.and_eq_true,nbeq,decide_eq_true_eq] at hc;obtain⟨⟨⟨⟨c1,c2⟩,c3⟩,c4⟩,c5⟩:=hc;obtain⟨e1,e2,_⟩:=(hT t i hg).2 c1 xs.toList ys.toList x y w c2 c3 c4 c5;simp only[ren_agg,ren1_i64 c4,ren1_i64 c5];simp only[cond_true] at h;unfold eqv at h
    cases op<;>simp only at h<;>first|(cases h;done)|(cases h;first|exact e1|exact e2)
 ·rename_i hni hns hna
  cases hn:nilEq tys t a b with
  |none=>rw[hn] at h;cases h
  |some r=>
   rw[hn] at h;dsimp only at h;have hr:=run_nilEq hT hn ρ w;obtain⟨n1,n2⟩:=nilEq_nk hn;have n1:=nk_ren (ρ:=ρ) n1;have n2:=nk_ren (ρ:=ρ) n2;obtain⟨s3,s4⟩:=binOp_nk (t:=t) n1 n2;have s1:∀cs,ren ρ a≠.agg cs:=fun cs e=>by rw[e] at n1;cases n1
   have s2:ren ρ a≠.nilIface:=fun e=>by rw[e] at n1;cases n1
   rw[Sem.run_bind,eqGuard_no s1 s2];show (binOp op t (ren ρ a) (ren ρ b)).run P w=_;unfold eqv at h
   cases op<;>simp only at h<;>first|(cases h;done)|skip
   ·cases h;rw[s3];simp[hr]
   ·cases h;rw[s4];simp[hr]
end Go.EV
noncomputable section
namespace Go.EV
open Go Go.RowKit Go.RR
def isN {α:Type}:Option α->Bool
 |none=>true
 |some _=>false
theorem isN_eq {α:Type}{o:Option α}(h:isN o=true):o=none:=by cases o with|none=>rfl|some _=>cases h
def toN:Int->Nat
 | .ofNat n=>n
 | .negSucc _=>0
theorem toN_eq (n:Int):toN n=n.toNat:=by cases n<;>rfl
def idxA (tys:Tab TI)(t:TypeId)(x i:Value):Option Value:=match x,i with
 | .slice (some a) len _,.int _ n=>match tys.get t with
  |some ⟨.slice e,_,_,_,_⟩=>match tys.get e with
   |some ie=>bif isN a.spot&&ile (.ofNat 0) n&&ilt n (.ofNat len) then some (.pointer (some ⟨a.block,a.off+toN n*ie.size,none⟩)) else none
   |none=>none
  |_=>none
 | .pointer (some a),.int _ n=>match tys.get t with
  |some ⟨.arr len e,_,_,_,_⟩=>match tys.get e with
   |some ie=>bif isN a.spot&&ile (.ofNat 0) n&&ilt n (.ofNat len) then some (.pointer (some ⟨a.block,a.off+toN n*ie.size,none⟩)) else none
   |none=>none
  |_=>none
 |_,_=>none
section
variable {P:Program} {tys:Tab TI} (hT:TyOk P tys)
include hT
theorem run_idxA {t:TypeId}{x i v:Value}(h:idxA tys t x i=some v)(ρ:Rn)(w:World):(Instr.indexAt t (ren ρ x) (ren ρ i)).run P w=.ok (ren ρ v) w:=by
 unfold idxA at h;split at h
 ·rename_i a len cap k n;split at h
  ·rename_i e _ _ _ _ hg;split at h
   ·rename_i ie hge
    cases hc:(isN a.spot&&ile (.ofNat 0) n&&ilt n (.ofNat len)) with
    |false=>rw[hc] at h;cases h
    |true=>
     rw[hc] at h;cases h;simp only[Bool.and_eq_true,ile_eq,ilt_eq,decide_eq_true_eq] at hc;obtain⟨⟨c1,c2⟩,c3⟩:=hc;have c2:0<=n:=c2;have c3:n<(len:Int):=c3;have hu:P.underlying t=_:=(hT t _ hg).1.d;have hs:=(hT e ie hge).1.size w;simp[Instr.indexAt,asIntOf,run_und hu,hs,c2,c3,Addr.add_lit,isN_eq c1,toN_eq]
   ·cases h
  ·cases h
 ·rename_i a k n;split at h
  ·rename_i len e _ _ _ _ hg;split at h
   ·rename_i ie hge
    cases hc:(isN a.spot&&ile (.ofNat 0) n&&ilt n (.ofNat len)) with
    |false=>rw[hc] at h;cases h
    |true=>
     rw[hc] at h;cases h;simp only[Bool.and_eq_true,ile_eq,ilt_eq,decide_eq_true_eq] at hc;obtain⟨⟨c1,c2⟩,c3⟩:=hc;have c2:0<=n:=c2;have c3:n<(len:Int):=c3;have hu:P.underlying t=_:=(hT t _ hg).1.d;have hs:=(hT e ie hge).1.size w;simp[Instr.indexAt,asIntOf,Instr.sureAddr,run_und hu,hs,c2,c3,Addr.add_lit,isN_eq c1,toN_eq]
   ·cases h
  ·cases h
 ·cases h
end
def partL (tys:Tab TI)(u:TypeId)(cs:List Value)(o z:Nat):Option Value:=match tys.get u with
 |some i=>bif i.d.agg then some (.agg (lT z (lD o cs)).toArray) else (match nth cs o with|some v=>bif base1 v then some v else none|none=>none)
 |none=>none
def fld (tys:Tab TI)(t:TypeId)(x:Value)(f:Nat):Option Value:=match x with
 | .agg cs=>match tys.get t with
  |some ⟨.st fs,_,_,_,_⟩=>match nth fs f with
   |some (o,z,u)=>partL tys u cs.toList o z
   |none=>none
  |_=>none
 |_=>none
section
variable {P:Program} {tys:Tab TI} (hT:TyOk P tys)
include hT
theorem run_partL {u:TypeId}{cs:Array Value}{o z:Nat}{v:Value}(hz:(P.info? u).map (·.size)=some z)(h:partL tys u cs.toList o z=some v)(ρ:Rn)(w:World):(part u (cs.map (ren1 ρ)) o).run P w=.ok (ren ρ v) w:=by
 unfold partL at h;simp only[lD_eq,lT_eq] at h;split at h
 ·rename_i i hg;have ha:=(hT u i hg).1.agg w;have hs:=(hT u i hg).1.size w;have hz2:=(hT u i hg).1.isz;rw[hz] at hz2;have hz2:z=i.size:=by simpa using hz2
  cases hc:i.d.agg with
  |true=>
   rw[hc] at h ha;cases h;subst hz2;simp only[part,Sem.run_bind,ha,Result.andThen_ok,if_true,hs,Sem.run_pure,ren_agg];congr 2;apply Array.toList_inj.1;simp[List.map_take,List.map_drop]
  |false=>
   rw[hc] at h ha
   have h:(match nth cs.toList o with|some v=>bif base1 v then some v else none|none=>none)=some v:=h;split at h
   ·rename_i u' hn
    cases hb:base1 u' with
    |false=>rw[hb] at h;cases h
    |true=>
     rw[hb] at h;cases h;rw[nth_eq] at hn;have h':(cs.map (ren1 ρ))[o]?=some (ren1 ρ v):=by simp at hn;simp[hn]
     simp[part,ha,h',ren_base1 hb]
   ·cases h
 ·cases h
theorem run_fld {t:TypeId}{x v:Value}{f:Nat}(h:fld tys t x f=some v)(ρ:Rn)(w:World):(Instr.field t (ren ρ x) f).run P w=.ok (ren ρ v) w:=by
 unfold fld at h;split at h
 ·rename_i cs;split at h
  ·rename_i fs _ _ _ _ hg;split at h
   ·rename_i o z u hn;obtain⟨l,hu,_,hl⟩:=(hT t _ hg).1.d;rw[nth_eq] at hn;obtain⟨fd,e1,e2,e3,e4⟩:=hl f o z u hn;subst e2;subst e3;have:=run_partL hT e4 h ρ w;simp[Instr.field,run_und hu,e1,asAgg,this]
   ·cases h
  ·cases h
 ·cases h
end
variable {P:Program} {tys:Tab TI} {t:TypeId} {x v:Value} {u:TypeId} {ts:Array TypeId}
def fA (tys:Tab TI)(t:TypeId)(x:Value)(f:Nat):Option Value:=match x with
 | .pointer (some a)=>match tys.get t with
  |some ⟨.st fs,_,_,_,_⟩=>match nth fs f with
   |some (o,z,_)=>bif isN a.spot&&!Nat.beq z 0 then some (.pointer (some ⟨a.block,a.off+o,none⟩)) else none
   |none=>none
  |_=>none
 |_=>none
theorem run_fA (hT:TyOk P tys){f:Nat}(h:fA tys t x f=some v)(ρ:Rn)(w:World):(Instr.fieldAt t (ren ρ x) f).run P w=.ok (ren ρ v) w:=by
 unfold fA at h;split at h
 ·rename_i a;split at h
  ·rename_i fs _ _ _ _ hg;split at h
   ·rename_i o z u hn
    cases hc:(isN a.spot&&!Nat.beq z 0) with
    |false=>rw[hc] at h;cases h
    |true=>
     rw[hc] at h;cases h;simp only[Bool.and_eq_true,Bool.not_eq_true',nbeq,decide_eq_false_iff_not] at hc;obtain⟨l,hu,_,hl⟩:=(hT t _ hg).1.d;rw[nth_eq] at hn;obtain⟨fd,e1,e2,e3,e4⟩:=hl f o z u hn;subst e2;subst e3;have hs:(sizeOf fd.type).run P w=.ok z w:=by
      cases hi:P.info? fd.type with
      |none=>rw[hi] at e4;cases e4
      |some j=>rw[hi] at e4;simp at e4;simp[sizeOf,typeInfo,program,Sem.run,bind,Sem.bind,pure,hi,e4]
     simp[Instr.fieldAt,run_und hu,e1,Instr.sureAddr,fieldPlace,hs,hc.2,isN_eq hc.1,Addr.add_lit]
   ·cases h
  ·cases h
 ·cases h
def idx (tys:Tab TI)(t:TypeId)(x i:Value):Option Value:=match x,i with
 | .string s,.int _ n=>match tys.get t with
  |some ⟨.str,_,_,_,_⟩=>bif ile (.ofNat 0) n then (match nth s.data.toList (toN n) with|some b=>some (.int .u8 (.ofNat b.toNat))|none=>none) else none
  |_=>none
 |_,_=>none
theorem run_idx (hT:TyOk P tys){i:Value}(h:idx tys t x i=some v)(ρ:Rn)(w:World):(Instr.index t (ren ρ x) (ren ρ i)).run P w=.ok (ren ρ v) w:=by
 unfold idx at h;split at h
 ·rename_i s k n;split at h
  ·rename_i hg;have hu:P.underlying t=_:=(hT t _ hg).1.d;rw[ile_eq,cdec] at h;split at h
   ·rename_i hn;have hn:0<=n:=hn;split at h
    ·rename_i b hb;cases h;rw[nth_eq,toN_eq] at hb;have hb':s[n.toNat]?=some b:=by
      have:s.data[n.toNat]?=some b:=by simpa using hb
      obtain⟨h1,h2⟩:=Array.getElem?_eq_some_iff.1 this;rw[getElem?_pos s n.toNat h1];exact congrArg some h2
     simp[Instr.index,asIntOf,run_und hu,hn,hb']
    ·cases h
   ·cases h
  ·cases h
 ·cases h
theorem cnd0 {α:Type}{c:Bool}{x:Option α}{v:α}(h:(bif c then x else none)=some v):c=true/\x=some v:=by cases c<;>first|(cases h;done)|exact⟨rfl,h⟩
def unv (op:UnOp)(x:Value):Option Value:=match op,x with
 | .neg,.int k n=>some (.int k (wr k (0-n)))
 | .not,.bool b=>some (.bool (!b))
 | .xor,.int .u64 n=>ar .xor .u64 18446744073709551615 n
 | .xor,.int .i64 (.ofNat n)=>bif Nat.blt n 9223372036854775808 then some (.int .i64 (.negSucc n)) else none
 |_,_=>none
theorem compl64 {n:Nat}(h:n<9223372036854775808):IntKind.i64.wrap ((BitVec.ofInt 64 (-1) ^^^ BitVec.ofInt 64 (n:Int)).toNat:Int)=-1-(n:Int):=by
 have e1:BitVec.ofInt 64 (-1)=BitVec.allOnes 64:=by decide
 rw[e1,BitVec.allOnes_xor,BitVec.toNat_not];have:(BitVec.ofInt 64 (n:Int)).toNat=n:=by
  rw[BitVec.ofInt_natCast,BitVec.toNat_ofNat];exact Nat.mod_eq_of_lt (by omega)
 rw[this,IntKind.wrap_i64];omega
theorem run_unv {op:UnOp}(h:unv op x=some v)(ρ:Rn)(w:World):(Op.unary op (ren ρ x)).run P w=.ok (ren ρ v) w:=by
 unfold unv at h;split at h
 ·cases h;simp[Op.unary,Op.intArith,wr_eq]
 ·cases h;simp[Op.unary]
 ·rename_i n;have h2:=run_ar (P:=P) h w;unfold ar at h;simp only at h;split at h
  ·obtain⟨_,h⟩:=cnd0 h;split at h
   ·cases h;simpa[Op.unary,binOp,IntKind.signed,IntKind.max,IntKind.bits] using h2
   ·cases h
  ·cases h
 ·rename_i n;obtain⟨h1,h⟩:=cnd0 h;cases h;rw[Nat.blt_eq] at h1;have h9:=compl64 h1;have e:(-1-(n:Int))=Int.negSucc n:=by omega
  rw[e] at h9;show (Sem.run P (pure (Value.int .i64 (IntKind.i64.wrap ((BitVec.ofInt 64 (-1) ^^^ BitVec.ofInt 64 (n:Int)).toNat:Int)))) w)=_;rw[h9];rfl
 ·cases h
def conv (tys:Tab TI)(src dst:TypeId)(x:Value):Option Value:=match x with
 | .int _ n=>match tys.get src,tys.get dst with
  |some _,some ⟨.int k,_,_,_,_⟩=>some (.int k (wr k n))
  |_,_=>none
 |_=>none
theorem TIok.und {i:TI}(h:TIok P t i):∃d,P.underlying t=some d:=by
 have hd:=h.d
 cases hi:i.d with
 |st fs=>rw[hi] at hd;obtain⟨l,hl,_⟩:=hd;exact⟨_,hl⟩
 |fn=>rw[hi] at hd;obtain⟨_,_,_,hl⟩:=hd;exact⟨_,hl⟩
 |other=>rw[hi] at hd;obtain⟨d,hl,_⟩:=hd;exact⟨_,hl⟩
 |_=>rw[hi] at hd;exact⟨_,hd⟩
theorem run_conv (hT:TyOk P tys){s:TypeId}(h:conv tys s t x=some v)(ρ:Rn)(w:World):(convert s t (ren ρ x)).run P w=.ok (ren ρ v) w:=by
 unfold conv at h
 split at h
 ·split at h
  ·rename_i h1 h2;cases h;obtain⟨d,hd⟩:=(hT _ _ h1).1.und;have hu:P.underlying t=_:=(hT t _ h2).1.d;unfold convert;rw[Sem.run_bind,run_und hd,Result.andThen_ok,Sem.run_bind,run_und hu,Result.andThen_ok,wr_eq];cases d<;>rfl
  ·cases h
 ·cases h
def lenV (tys:Tab TI)(t:TypeId)(x:Value):Option Value:=match x with
 | .string s=>match tys.get t with
  |some ⟨.str,_,_,_,_⟩=>some (.int .i64 (.ofNat (lL s.data.toList)))
  |_=>none
 | .slice _ n _=>match tys.get t with
  |some ⟨.slice _,_,_,_,_⟩=>some (.int .i64 (.ofNat n))
  |_=>none
 |_=>none
theorem run_lenV (hT:TyOk P tys)(h:lenV tys t x=some v)(ρ:Rn)(w:World):(Builtin.len_ #[t] u #[ren ρ x]).run P w=.ok (ren ρ v) w:=by
 unfold lenV at h;simp only[lL_eq] at h;split at h
 ·rename_i s;split at h
  ·rename_i hg;cases h;have hu:P.underlying t=_:=(hT t _ hg).1.d;have e:(Builtin.len_ #[t] u #[Value.string s]).run P w=.ok (.int .i64 (s.size:Int)) w:=by simp[Builtin.len_,run_und hu,goInt]
   show (Builtin.len_ #[t] u #[Value.string s]).run P w=_;rw[e,Array.length_toList];rfl
  ·cases h
 ·rename_i a n c;split at h
  ·rename_i hg;cases h;have hu:P.underlying t=_:=(hT t _ hg).1.d;cases a<;>simp[Builtin.len_,run_und hu,goInt]
  ·cases h
 ·cases h
def mm (mx:Bool)(x y:Value):Option Value:=match x,y with
 | .int k a,.int _ b=>some (.int k (bif mx then (bif ilt a b then b else a) else (bif ilt b a then b else a)))
 |_,_=>none
theorem run_max {y:Value}(h:mm true x y=some v)(ρ:Rn)(w:World):(Builtin.max_ ts u #[ren ρ x,ren ρ y]).run P w=.ok (ren ρ v) w:=by
 unfold mm at h;split at h
 ·cases h;simp only[Builtin.max_,ren_int,List.foldlM_cons,List.foldlM_nil,Builtin.max2,ilt_eq,cdec];simp
 ·cases h
theorem run_min {y:Value}(h:mm false x y=some v)(ρ:Rn)(w:World):(Builtin.min_ ts u #[ren ρ x,ren ρ y]).run P w=.ok (ren ρ v) w:=by
 unfold mm at h;split at h
 ·cases h;simp only[Builtin.min_,ren_int,List.foldlM_cons,List.foldlM_nil,Builtin.min2,ilt_eq,cdec];simp
 ·cases h
def mkI (tys:Tab TI)(t:TypeId)(x:Value):Option Value:=match tys.get t with
 |some _=>bif base0 x then some (.iface t x) else none
 |none=>none
theorem TIok.noIface {i:TI}(h:TIok P t i):∃d,P.underlying t=some d/\∀m,d≠.interface m:=by
 have hd:=h.d
 cases hi:i.d with
 |st fs=>rw[hi] at hd;obtain⟨l,hl,_⟩:=hd;exact⟨_,hl,fun m e=>by cases e⟩
 |fn=>rw[hi] at hd;obtain⟨_,_,_,hl⟩:=hd;exact⟨_,hl,fun m e=>by cases e⟩
 |other=>rw[hi] at hd;obtain⟨d,hl,h2⟩:=hd;exact⟨_,hl,fun m e=>by subst e;cases h2⟩
 |_=>rw[hi] at hd;exact⟨_,hd,fun m e=>by cases e⟩
theorem run_mkI (hT:TyOk P tys)(h:mkI tys t x=some v)(ρ:Rn)(w:World):(Instr.makeInterface t (ren ρ x)).run P w=.ok (ren ρ v) w:=by
 unfold mkI at h;split at h
 ·rename_i i hg
  cases hb:base0 x with
  |false=>rw[hb] at h;cases h
  |true=>
   rw[hb] at h;cases h;obtain⟨d,hd,hn⟩:=(hT t i hg).1.noIface
   cases d<;>first|exact absurd rfl (hn _)|simp[Instr.makeInterface,run_und hd,ren_base0 hb]
 ·cases h
def tA (tys:Tab TI)(x:Value)(t:TypeId)(ok:Bool):Option Value:=match x with
 | .iface u v=>match tys.get t with
  |some _=>bif Nat.beq u t&&base0 v then some (bif ok then .tuple #[v,.bool true] else v) else none
  |none=>none
 |_=>none
theorem run_tA (hT:TyOk P tys){xt:TypeId}{ok:Bool}(h:tA tys x t ok=some v)(ρ:Rn)(w:World):(Instr.typeAssert (ren ρ x) xt t ok).run P w=.ok (ren ρ v) w:=by
 unfold tA at h;split at h
 ·rename_i u y;split at h
  ·rename_i i hg
   cases hb:(Nat.beq u t&&base0 y) with
   |false=>rw[hb] at h;cases h
   |true=>
    rw[hb] at h;cases h;rw[Bool.and_eq_true,nbeq,decide_eq_true_eq] at hb;obtain⟨rfl,hb⟩:=hb;obtain⟨d,hd,hn⟩:=(hT u i hg).1.noIface
    have e2:ren2 ρ y=ren0 ρ y:=by rw[<- ren_base2 (by unfold base2 base1;cases y<;>first|rfl|exact hb),ren_base0 hb]
    have e3:=ren_base0 (ρ:=ρ) hb
    cases ok<;>cases d<;>first|exact absurd rfl (hn _)|simp[Instr.typeAssert,run_und hd,e2,e3,show ren2 ρ (.bool true)=.bool true from rfl]
  ·cases h
 ·cases h
def extr (x:Value)(i:Nat):Option Value:=match x with
 | .tuple vs=>match nth vs.toList i with
  |some v=>bif base2 v then some v else none
  |none=>none
 |_=>none
theorem run_extr {i:Nat}(h:extr x i=some v)(ρ:Rn)(w:World):(Instr.extract (ren ρ x) i).run P w=.ok (ren ρ v) w:=by
 unfold extr at h;split at h
 ·rename_i vs;split at h
  ·rename_i u hu
   cases hb:base2 u with
   |false=>rw[hb] at h;cases h
   |true=>
    rw[hb] at h;cases h;rw[nth_eq] at hu;have hu':(vs.map (ren2 ρ))[i]?=some (ren2 ρ v):=by simp at hu;simp[hu]
    simp[Instr.extract,hu',ren_base2 hb]
  ·cases h
 ·cases h
end Go.EV
