import Derived.Test.YtojfbbggnkijeaaGreatDoorZ6
import Derived.Lib.SlicesCompact
set_option linter.all false
namespace Go.RiseM
open Go
variable {xs:List Int}
def Rise (l:List Int):Prop:=l.Pairwise (· < ·)
instance (l:List Int):Decidable (Rise l):=by unfold Rise;infer_instance
theorem Rise.eq:∀{l m:List Int},Rise l->Rise m->(∀x,x∈l<->x∈m)->l=m
 |[],[],_,_,_=>rfl
 |[],y::m,_,_,h=>absurd ((h y).2 (by simp)) (by simp)
 |x::l,[],_,_,h=>absurd ((h x).1 (by simp)) (by simp)
 |x::l,y::m,h1,h2,h=>by
  have a1:=List.pairwise_cons.1 h1;have a2:=List.pairwise_cons.1 h2;have e:x=y:=by
   rcases List.mem_cons.1 ((h x).1 (by simp)) with c|c
   ·exact c
   ·rcases List.mem_cons.1 ((h y).2 (by simp)) with d|d
    ·exact d.symm
    ·have:=a2.1 x c;have:=a1.1 y d;omega
  subst e;congr 1;refine Rise.eq a1.2 a2.2 fun z=>⟨fun hz=>?_,fun hz=>?_⟩
  ·rcases List.mem_cons.1 ((h z).1 (List.mem_cons_of_mem _ hz)) with c|c
   ·subst c;have:=a1.1 z hz;omega
   ·exact c
  ·rcases List.mem_cons.1 ((h z).2 (List.mem_cons_of_mem _ hz)) with c|c
   ·subst c;have:=a2.1 z hz;omega
   ·exact c
theorem compactUpTo_rise (h:xs.Pairwise (·<=·)):∀m,m<=xs.length->Rise (Lib.compactUpTo xs.toArray m)/\(∀x,x∈Lib.compactUpTo xs.toArray m<->x∈xs.take m):=by
 intro m
 induction m with
 |zero=>intro _;exact⟨List.Pairwise.nil,by simp[Lib.compactUpTo]⟩
 |succ m ih=>
  intro hm;obtain⟨h1,h2⟩:=ih (by omega);have hx:xs.toArray[m]! =xs[m]:=by rw[getElem!_pos xs.toArray m (by simp;omega)];simp
  have ht:xs.take (m+1)=xs.take m++[xs[m]]:=by rw[List.take_add_one,List.getElem?_eq_getElem (by omega)];rfl
  have hle:∀y∈xs.take m,y<=xs[m]:=fun y hy=>by
   obtain⟨j,hj,rfl⟩:=List.mem_take_iff_getElem.1 hy;exact List.pairwise_iff_getElem.1 h j m (by omega) (by omega) (by omega)
  rw[Lib.compactUpTo_succ,ht,hx];by_cases hk:Lib.keeps xs.toArray m=true
  ·rw[if_pos hk];refine⟨List.pairwise_append.2 ⟨h1,by simp,fun a ha c hc=>?_⟩,fun x=>by rw[List.mem_append,List.mem_append,h2]⟩;obtain rfl:c=xs[m]:=by simpa using hc
   have ha2:=(h2 a).1 ha;obtain⟨j,hj,rfl⟩:=List.mem_take_iff_getElem.1 ha2;simp only[Lib.keeps,decide_eq_true_eq] at hk;have hm0:m≠0:=by omega
   have hne:xs.toArray[m]! ≠xs.toArray[m-1]! :=by rcases hk with c|c;exact absurd c hm0;exact c
   rw[hx,getElem!_pos xs.toArray (m-1) (by simp;omega)] at hne;have hne:xs[m]≠xs[m-1]:=by simpa using hne
   have h3:=List.pairwise_iff_getElem.1 h (m-1) m (by omega) (by omega) (by omega);have h4:xs[j]<=xs[m-1]:=by
    by_cases e:j=m-1
    ·subst e;exact Int.le_refl _
    ·exact List.pairwise_iff_getElem.1 h j (m-1) (by omega) (by omega) (by omega)
   omega
  ·rw[if_neg hk,List.append_nil];refine⟨h1,fun x=>?_⟩;rw[h2,List.mem_append];refine⟨.inl,fun hx2=>?_⟩
   rcases hx2 with c|c
   ·exact c
   ·obtain rfl:x=xs[m]:=by simpa using c
    simp only[Lib.keeps,decide_eq_true_eq] at hk;have hm0:m≠0:=fun e=>hk (.inl e);have he:xs.toArray[m]! =xs.toArray[m-1]! :=Classical.not_not.1 fun e=>hk (.inr e);rw[hx,getElem!_pos xs.toArray (m-1) (by simp;omega)] at he;have he:xs[m]=xs[m-1]:=by simpa using he
    rw[he];exact List.mem_take_iff_getElem.2 ⟨m-1,by omega,rfl⟩
theorem compact_rise (h:xs.Pairwise (·<=·)):Rise (Lib.compact xs)/\∀x,x∈Lib.compact xs<->x∈xs:=by
 have:=compactUpTo_rise h xs.length (Nat.le_refl _);rwa[List.take_length] at this
def put (l:List Int)(v:Int):List Int:=if v∈l then l else l.filter (· <v)++v::l.filter (v < ·)
theorem put_mem {l:List Int}{v x:Int}:x∈put l v<->x=v\/x∈l:=by
 unfold put;split
 ·rename_i h;constructor
  ·exact .inr
  ·rintro (rfl|h2)
   ·exact h
   ·exact h2
 ·rename_i h;rw[List.mem_append,List.mem_cons,List.mem_filter,List.mem_filter];simp only[decide_eq_true_eq];constructor
  ·rintro (⟨h1,_⟩|h1|⟨h1,_⟩)
   ·exact .inr h1
   ·exact .inl h1
   ·exact .inr h1
  ·rintro (h1|h1)
   ·exact .inr (.inl h1)
   ·rcases Int.lt_trichotomy x v with c|c|c
    ·exact .inl ⟨h1,c⟩
    ·exact .inr (.inl c)
    ·exact .inr (.inr ⟨h1,c⟩)
theorem Rise.put {l:List Int}(h:Rise l)(v:Int):Rise (put l v):=by
 unfold RiseM.put;split
 ·exact h
 ·refine List.pairwise_append.2 ⟨h.filter _,List.pairwise_cons.2 ⟨fun x hx=>?_,h.filter _⟩,fun a ha c hc=>?_⟩
  ·simpa using (List.mem_filter.1 hx).2
  ·have h1:a<v:=by simpa using (List.mem_filter.1 ha).2
   rcases List.mem_cons.1 hc with rfl|hc
   ·exact h1
   ·have h2:v<c:=by simpa using (List.mem_filter.1 hc).2
    omega
theorem put_len (l:List Int)(v:Int):(put l v).length<=l.length+1:=by
 unfold put;split
 ·omega
 ·rw[List.length_append,List.length_cons];have e2:∀(l:List Int),(l.filter fun x=>decide (x<v)).length+(l.filter fun x=>decide (v<x)).length<=l.length:=by
   intro l
   induction l with
   |nil=>simp
   |cons z l ih=>
    rw[List.filter_cons,List.filter_cons];by_cases c:z<v
    ·have:¬ v<z:=by omega
     simp[c,this];omega
    ·by_cases c2:v<z
     ·simp[c,c2];omega
     ·simp[c,c2];omega
  have:=e2 l;omega
def puts (l:List Int):List Int:=l.foldl put []
theorem puts_spec (l:List Int):Rise (puts l)/\∀x,x∈puts l<->x∈l:=by
 have key:∀(l acc:List Int),Rise acc->Rise (l.foldl put acc)/\∀x,x∈l.foldl put acc<->x∈acc\/x∈l:=by
  intro l
  induction l with
  |nil=>intro acc h;exact⟨h,by simp⟩
  |cons y l ih=>
   intro acc h;obtain⟨h1,h2⟩:=ih (put acc y) (h.put y);refine⟨h1,fun x=>?_⟩;rw[List.foldl_cons,h2,put_mem,List.mem_cons];constructor
   ·rintro ((h|h)|h)
    ·exact .inr (.inl h)
    ·exact .inl h
    ·exact .inr (.inr h)
   ·rintro (h|h|h)
    ·exact .inl (.inr h)
    ·exact .inl (.inl h)
    ·exact .inr h
 obtain⟨h1,h2⟩:=key l [] List.Pairwise.nil;exact⟨h1,fun x=>by rw[puts,h2];simp⟩
end Go.RiseM
namespace Go.ReachM
open Go.RiseM
variable {f:List (List Int)} {r:List Int} {c:Nat} {x:Int} {y k:Nat} {w l:List Int} {c0:Nat}
inductive RC (f:List (List Int))(roots:List Int):Nat->Prop where
 |root {c:Nat}:(c:Int)∈roots->c<f.length->RC f roots c
 |step {c d:Nat} {l:List Int}:RC f roots c->f[c]?=some l->(d:Int)∈l->d<f.length->RC f roots d
theorem RC.lt (h:RC f r c):c<f.length:=by
 cases h with
 |root _ h=>exact h
 |step _ _ _ h=>exact h
def marked (m:List Bool)(i:Nat):List Int:=((List.range i).filter fun c=>decide (m[c]?=some true)).map fun c:Nat=>(c:Int)
theorem marked_succ (m:List Bool)(i:Nat):marked m (i+1)=marked m i++(if m[i]?=some true then [(i:Int)] else []):=by
 unfold marked;rw[List.range_succ,List.filter_append,List.map_append];congr 1;by_cases h:m[i]?=some true<;>simp[h]
theorem marked_len (m:List Bool)(i:Nat):(marked m i).length<=i:=by
 have:=List.length_filter_le (fun c=>decide (m[c]?=some true)) (List.range i);unfold marked;rw[List.length_map];rw[List.length_range] at this;exact this
open Classical in
noncomputable def fromL (f:List (List Int))(r:List Int):List Int:=((List.range f.length).filter fun c=>decide (RC f r c)).map fun c:Nat=>(c:Int)
theorem fromL_mem:x∈fromL f r<->∃c:Nat,x=c/\RC f r c:=by
 unfold fromL;simp only[List.mem_map,List.mem_filter,List.mem_range,decide_eq_true_eq];constructor
 ·rintro⟨c,⟨_,h⟩,rfl⟩;exact⟨c,rfl,h⟩
 ·rintro⟨c,rfl,h⟩;exact⟨c,⟨h.lt,h⟩,rfl⟩
theorem fromL_mem':(c:Int)∈fromL f r<->RC f r c:=by
 rw[fromL_mem];constructor
 ·rintro⟨d,e,h⟩;obtain rfl:c=d:=by omega
  exact h
 ·intro h;exact⟨c,rfl,h⟩
theorem rise_range {p:Nat->Bool}(n:Nat):Rise (((List.range n).filter p).map fun c:Nat=>(c:Int)):=by
 unfold Rise;rw[List.pairwise_map];exact (List.Pairwise.filter p List.pairwise_lt_range).imp (by intro a b h;omega)
theorem fromL_rise (f:List (List Int))(r:List Int):Rise (fromL f r):=rise_range _
theorem fromL_len (f:List (List Int))(r:List Int):(fromL f r).length<=f.length:=by
 unfold fromL;rw[List.length_map];have:=List.length_filter_le (fun c=>@decide (RC f r c) (Classical.propDecidable _)) (List.range f.length);rw[List.length_range] at this;exact this
theorem fromL_in (h:x∈fromL f r):0<=x/\x<f.length:=by
 obtain⟨c,rfl,h2⟩:=fromL_mem.1 h;have:=h2.lt;omega
theorem fromL_nil (h:∀x∈r,¬ (0<=x/\x<f.length)):fromL f r=[]:=by
 have key:∀c,¬ RC f r c:=by
  intro c hc
  induction hc with
  |root h1 h2=>exact h _ h1 ⟨by omega,by omega⟩
  |step _ _ _ _ ih=>exact ih
 refine Rise.eq (fromL_rise _ _) List.Pairwise.nil fun x=>?_;rw[fromL_mem];constructor
 ·rintro⟨c,_,hc⟩;exact absurd hc (key c)
 ·intro h;simp at h
theorem marked_from {m:List Bool}(hl:m.length=f.length)(h:∀c,m[c]?=some true<->RC f r c):marked m m.length=fromL f r:=by
 refine Rise.eq (rise_range _) (fromL_rise _ _) fun x=>?_;rw[fromL_mem];unfold marked;simp only[List.mem_map,List.mem_filter,List.mem_range,decide_eq_true_eq];constructor
 ·rintro⟨c,⟨_,h1⟩,rfl⟩;exact⟨c,rfl,(h c).1 h1⟩
 ·rintro⟨c,rfl,h1⟩;exact⟨c,⟨by rw[hl];exact h1.lt,(h c).2 h1⟩,rfl⟩
def wt:List (List Int)->List Bool->Nat
 |l::f,b::m=>(if b=true then 0 else l.length)+wt f m
 |_,_=>0
theorem wt_set:∀{f:List (List Int)} {m:List Bool} {c:Nat} {l:List Int},f[c]?=some l->m[c]?=some false->wt f (m.set c true)+l.length=wt f m
 |[],_,_,_,h,_=>by simp at h
 |_::_,[],_,_,_,h=>by simp at h
 |k::f,b::m,0,l,h1,h2=>by
  simp at h1 h2;subst h1;subst h2;simp[wt];omega
 |k::f,b::m,c+1,l,h1,h2=>by
  have:=wt_set (f:=f) (m:=m) (c:=c) (l:=l) (by simpa using h1) (by simpa using h2);simp only[List.set_cons_succ,wt];omega
theorem wt_rep (f:List (List Int))(n:Nat):wt f (List.replicate n false)<=(f.map List.length).sum:=by
 induction f generalizing n with
 |nil=>simp[wt]
 |cons l f ih=>
  cases n with
  |zero=>simp[wt]
  |succ n=>rw[List.replicate_succ,wt,List.map_cons,List.sum_cons];have:=ih n;simp;omega
theorem cnt_set:∀{m:List Bool} {k:Nat},m[k]?=some false->(m.set k true).count false+1=m.count false
 |[],_,h=>by simp at h
 |b::m,0,h=>by simp at h;subst h;simp
 |b::m,k+1,h=>by
  have:=cnt_set (m:=m) (k:=k) (by simpa using h);rw[List.set_cons_succ,List.count_cons,List.count_cons];omega
theorem set_true {m:List Bool}(h:m[k]?=some true):(m.set y true)[k]?=some true:=by
 by_cases e:k=y
 ·subst e;rw[List.getElem?_set_self (List.getElem?_eq_some_iff.1 h).1]
 ·rw[List.getElem?_set_ne (by omega)];exact h
theorem set_back {m:List Bool}(h:(m.set y true)[k]?=some true):k=y\/m[k]?=some true:=by
 by_cases e:k=y
 ·exact .inl e
 ·rw[List.getElem?_set_ne (by omega)] at h;exact .inr h
structure Wk (f:List (List Int))(r:List Int)(m:List Bool)(w:List Int):Prop where
 len:m.length=f.length
 sound:∀c:Nat,m[c]?=some true->RC f r c
 work:∀c:Nat,(c:Int)∈w->c<f.length->RC f r c
 roots:∀c:Nat,(c:Int)∈r->c<f.length->m[c]?=some true\/(c:Int)∈w
 closed:∀(c d:Nat) (l:List Int),m[c]?=some true->f[c]?=some l->(d:Int)∈l->d<f.length->m[d]?=some true\/(d:Int)∈w
theorem Wk.first (f:List (List Int))(r:List Int):Wk f r (List.replicate f.length false) r where
 len:=by simp
 sound c h:=by rw[List.getElem?_replicate] at h;split at h<;>simp at h
 work c h1 h2:=.root h1 h2
 roots c h1 _:=.inr h1
 closed c d l h:=by rw[List.getElem?_replicate] at h;split at h<;>simp at h
theorem Wk.drop {m:List Bool}(h:Wk f r m (w++[x]))(hx:∀c:Nat,x=c->c<f.length->m[c]?=some true):Wk f r m w where
 len:=h.len
 sound:=h.sound
 work c h1:=h.work c (by simp[h1])
 roots c h1 h2:=by
  rcases h.roots c h1 h2 with h3|h3
  ·exact .inl h3
  ·rw[List.mem_append,List.mem_singleton] at h3;exact h3.elim .inr fun e=>.inl (hx c e.symm h2)
 closed c d l h1 h2 h3 h4:=by
  rcases h.closed c d l h1 h2 h3 h4 with h5|h5
  ·exact .inl h5
  ·rw[List.mem_append,List.mem_singleton] at h5;exact h5.elim .inr fun e=>.inl (hx d e.symm h4)
theorem Wk.mark {m:List Bool}(h:Wk f r m (w++[(c:Int)]))(hl:f[c]?=some l):Wk f r (m.set c true) (w++l):=by
 have hc:c<f.length:=(List.getElem?_eq_some_iff.1 hl).1;have hs:(m.set c true)[c]?=some true:=by rw[List.getElem?_set_self (by rw[h.len];exact hc)]
 have hrc:RC f r c:=h.work c (by simp) hc;have key:∀d:Nat,(m[d]?=some true\/(d:Int)∈w++[(c:Int)])->(m.set c true)[d]?=some true\/(d:Int)∈w++l:=fun d hd=>by
  rw[List.mem_append,List.mem_singleton] at hd
  rcases hd with h1|h1|h1
  ·exact .inl (set_true h1)
  ·exact .inr (by simp[h1])
  ·obtain rfl:d=c:=by omega
   exact .inl hs
 refine⟨by rw[List.length_set];exact h.len,fun d hd=>?_,fun d hd hdl=>?_,fun d h1 h2=>key d (h.roots d h1 h2),fun d e k h1 h2 h3 h4=>?_⟩
 ·rcases set_back hd with rfl|hd
  ·exact hrc
  ·exact h.sound d hd
 ·rw[List.mem_append] at hd
  rcases hd with hd|hd
  ·exact h.work d (by simp[hd]) hdl
  ·exact .step hrc hl hd hdl
 ·rcases set_back h1 with rfl|h1
  ·rw[hl] at h2;cases h2;exact .inr (by simp[h3])
  ·exact key e (h.closed d e k h1 h2 h3 h4)
theorem Wk.done {m:List Bool}(h:Wk f r m []):marked m m.length=fromL f r:=by
 refine marked_from h.len fun c=>⟨h.sound c,fun hc=>?_⟩
 induction hc with
 |root h1 h2=>exact (h.roots _ h1 h2).elim id (fun h=>by simp at h)
 |step _ h2 h3 h4 ih=>exact (h.closed _ _ _ ih h2 h3 h4).elim id (fun h=>by simp at h)
structure Ps (f:List (List Int))(r:List Int)(c0:Nat)(more:Bool)(m:List Bool)(c k:Nat):Prop where
 len:m.length=f.length
 sound:∀c:Nat,m[c]?=some true->RC f r c
 roots:∀c:Nat,(c:Int)∈r->c<f.length->m[c]?=some true
 shut:more=false->(∀(a d:Nat) (l:List Int),a<c->m[a]?=some true->f[a]?=some l->(d:Int)∈l->d<f.length->m[d]?=some true)/\
  ∀(d:Nat) (l:List Int),m[c]?=some true->f[c]?=some l->(d:Int)∈l.take k->d<f.length->m[d]?=some true
 less:if more=true then m.count false<c0 else m.count false=c0
theorem Ps.fin {more:Bool}{m:List Bool}(h:Ps f r c0 more m c k)(hk:m[c]?=some true->∀l,f[c]?=some l->l.length<=k):Ps f r c0 more m (c+1) 0:=
 ⟨h.len,h.sound,h.roots,fun e=>⟨fun a d l h1 h2 h3 h4 h5=>by
  by_cases e2:a=c
  ·subst e2;refine (h.shut e).2 d l h2 h3 ?_ h5;rw[List.take_of_length_le (hk h2 l h3)];exact h4
  ·exact (h.shut e).1 a d l (by omega) h2 h3 h4 h5,fun d l _ _ h=>by simp at h⟩,h.less⟩
theorem Ps.new {more:Bool}{m:List Bool}(h:Ps f r c0 more m c k)(hl:f[c]?=some l)(hx:l[k]?=some (y:Int))(hc:m[c]?=some true)(hm:m[y]?=some false):Ps f r c0 true (m.set y true) c (k+1):=by
 have hy:y<f.length:=by rw[<- h.len];exact (List.getElem?_eq_some_iff.1 hm).1
 refine⟨by rw[List.length_set];exact h.len,fun d hd=>?_,fun d h1 h2=>set_true (h.roots d h1 h2),fun e=>by simp at e,?_⟩
 ·rcases set_back hd with rfl|hd
  ·exact .step (h.sound c hc) hl (List.mem_of_getElem? hx) hy
  ·exact h.sound d hd
 ·have h1:=cnt_set hm;have h2:=h.less;rw[if_pos rfl];split at h2<;>omega
theorem Ps.done {m:List Bool}(h:Ps f r c0 false m f.length 0):marked m m.length=fromL f r:=by
 refine marked_from h.len fun c=>⟨h.sound c,fun hc=>?_⟩
 induction hc with
 |root h1 h2=>exact h.roots _ h1 h2
 |step hc h2 h3 h4 ih=>exact (h.shut rfl).1 _ _ _ hc.lt ih h2 h3 h4
end Go.ReachM
namespace Go.Api
structure Ins where
 op:Int
 a:Int
 b:Int
 c:Int
 n:Int
 args:List Int
 deriving DecidableEq,Inhabited
structure Typ where
 base:Int
 rc:Int
 dims:Int
 deriving DecidableEq,Inhabited
structure Fld where
 name:ByteArray
 typ:Go.Api.Typ
 deriving DecidableEq,Inhabited
structure Shape where
 name:ByteArray
 fields:List Go.Api.Fld
 deriving DecidableEq,Inhabited
structure Site where
 func:Int
 typ:Go.Api.Typ
 deriving DecidableEq,Inhabited
structure Code where
 params:Int
 vars:List Go.Api.Typ
 has:Bool
 result:Go.Api.Typ
 ins:List Go.Api.Ins
 deriving DecidableEq,Inhabited
structure IR where
 recs:List Go.Api.Shape
 globals:List Go.Api.Typ
 codes:List Go.Api.Code
 sites:List Go.Api.Site
 main:Int
 deriving DecidableEq,Inhabited
structure Con where
 kind:Int
 a:Int
 b:Int
 f:Int
 deriving DecidableEq,Inhabited
structure Points where
 nodes:List (List Int)
 fields:List (List (List Int))
 deriving DecidableEq,Inhabited
structure Classes where
 count:Int
 of:List Int
 nodes:List Int
 fields:List (List Int)
 deriving DecidableEq,Inhabited
structure Layout where
 arr:Bool
 refs:List Int
 deriving DecidableEq,Inhabited
structure Unt where
 params:Int
 vars:List Int
 result:Int
 takes:List Int
 owns:List Int
 ins:List Go.Api.Ins
 deriving DecidableEq,Inhabited
structure RTg where
 classes:List Go.Api.Layout
 globals:List Int
 units:List Go.Api.Unt
 main:Int
 deriving DecidableEq,Inhabited
structure State where
 met:Bool
 live:List Int
 stale:List Int
 deriving DecidableEq,Inhabited
structure Beh where
 end_:Int
 code:Int
 out:List Int
 steps:Int
 deriving DecidableEq,Inhabited
structure Ran where
 beh:Go.Api.Beh
 made:Int
 gone:Int
 live:Int
 peak:Int
 slack:Int
 most:Int
 deriving DecidableEq,Inhabited
structure Pair where
 a:Int
 b:Int
 deriving DecidableEq,Inhabited
structure Act29 where
 kind:Int
 a:Int
 b:Int
 c:Int
 deriving DecidableEq,Inhabited
structure RtView where
 t:Go.Api.RTg
 u:Go.Api.Unt
 i:Go.Api.Ins
 deriving DecidableEq,Inhabited
structure Region where
 live:Bool
 many:Int
 deriving DecidableEq,Inhabited
end Go.Api
namespace Go.GX
open Go Go.RowKit Go.RR Go.RX Go.Api
abbrev I64 (x:Int):Prop:=-9223372036854775808<=x/\x<=9223372036854775807
def _root_.Go.Api.Ins.tup (y:Api.Ins):=(y.op,y.a,y.b,y.c,y.n,y.args,())
def tyIns:Ty Api.Ins:=Ty.co (Ty.pair Ty.int (Ty.pair Ty.int (Ty.pair Ty.int (Ty.pair Ty.int (Ty.pair Ty.int (Ty.pair (Ty.slice Ty.int) Ty.unit)))))) Api.Ins.tup
instance:Sub tyIns 0 Ty.int Api.Ins.op (fun z y=>{y with op:=z }):=(Sub.co (Sub.fst (Sub.whole _)) (fun _=>rfl) (fun _ _=>rfl))
instance:Sub tyIns 1 Ty.int Api.Ins.a (fun z y=>{y with a:=z }):=(Sub.co (Sub.snd (Sub.fst (Sub.whole _))) (fun _=>rfl) (fun _ _=>rfl))
instance:Sub tyIns 2 Ty.int Api.Ins.b (fun z y=>{y with b:=z }):=(Sub.co (Sub.snd (Sub.snd (Sub.fst (Sub.whole _)))) (fun _=>rfl) (fun _ _=>rfl))
instance:Sub tyIns 3 Ty.int Api.Ins.c (fun z y=>{y with c:=z }):=(Sub.co (Sub.snd (Sub.snd (Sub.snd (Sub.fst (Sub.whole _))))) (fun _=>rfl) (fun _ _=>rfl))
instance:Sub tyIns 4 Ty.int Api.Ins.n (fun z y=>{y with n:=z }):=(Sub.co (Sub.snd (Sub.snd (Sub.snd (Sub.snd (Sub.fst (Sub.whole _)))))) (fun _=>rfl) (fun _ _=>rfl))
instance:Sub tyIns 5 (Ty.slice Ty.int) Api.Ins.args (fun z y=>{y with args:=z }):=(Sub.co (Sub.snd (Sub.snd (Sub.snd (Sub.snd (Sub.snd (Sub.fst (Sub.whole _))))))) (fun _=>rfl) (fun _ _=>rfl))
def _root_.Go.Api.Ins.ok (y:Api.Ins):Prop:=I64 y.op/\I64 y.a/\I64 y.b/\I64 y.c/\I64 y.n/\(∀x∈y.args,I64 x)
def _root_.Go.Api.Typ.tup (y:Api.Typ):=(y.base,y.rc,y.dims,())
def tyTyp:Ty Api.Typ:=Ty.co (Ty.pair Ty.int (Ty.pair Ty.int (Ty.pair Ty.int Ty.unit))) Api.Typ.tup
def _root_.Go.Api.Typ.ok (y:Api.Typ):Prop:=I64 y.base/\I64 y.rc/\I64 y.dims
def _root_.Go.Api.Fld.tup (y:Api.Fld):=(y.name,y.typ,())
def _root_.Go.Api.Fld.ok (y:Api.Fld):Prop:=Go.Api.Typ.ok y.typ
def _root_.Go.Api.Shape.tup (y:Api.Shape):=(y.name,y.fields,())
def _root_.Go.Api.Shape.ok (y:Api.Shape):Prop:=(∀x∈y.fields,Go.Api.Fld.ok x)
def _root_.Go.Api.Site.tup (y:Api.Site):=(y.func,y.typ,())
def _root_.Go.Api.Site.ok (y:Api.Site):Prop:=I64 y.func/\Go.Api.Typ.ok y.typ
def _root_.Go.Api.Code.tup (y:Api.Code):=(y.params,y.vars,y.has,y.result,y.ins,())
def tyCode:Ty Api.Code:=Ty.co (Ty.pair Ty.int (Ty.pair (Ty.slice tyTyp) (Ty.pair Ty.bool (Ty.pair tyTyp (Ty.pair (Ty.slice tyIns) Ty.unit))))) Api.Code.tup
instance:Sub tyCode 6 (Ty.slice tyIns) Api.Code.ins (fun z y=>{y with ins:=z }):=(Sub.co (Sub.snd (Sub.snd (Sub.snd (Sub.snd (Sub.fst (Sub.whole _)))))) (fun _=>rfl) (fun _ _=>rfl))
def _root_.Go.Api.Code.ok (y:Api.Code):Prop:=I64 y.params/\(∀x∈y.vars,Go.Api.Typ.ok x)/\Go.Api.Typ.ok y.result/\(∀x∈y.ins,Go.Api.Ins.ok x)
def _root_.Go.Api.IR.tup (y:Api.IR):=(y.recs,y.globals,y.codes,y.sites,y.main,())
def _root_.Go.Api.IR.ok (y:Api.IR):Prop:=(∀x∈y.recs,Go.Api.Shape.ok x)/\(∀x∈y.globals,Go.Api.Typ.ok x)/\(∀x∈y.codes,Go.Api.Code.ok x)/\(∀x∈y.sites,Go.Api.Site.ok x)/\I64 y.main
def _root_.Go.Api.Con.tup (y:Api.Con):=(y.kind,y.a,y.b,y.f,())
def _root_.Go.Api.Con.ok (y:Api.Con):Prop:=I64 y.kind/\I64 y.a/\I64 y.b/\I64 y.f
def _root_.Go.Api.Points.tup (y:Api.Points):=(y.nodes,y.fields,())
def _root_.Go.Api.Points.ok (y:Api.Points):Prop:=(∀x∈y.nodes,(∀z∈x,I64 z))/\(∀x∈y.fields,(∀z∈x,(∀z'∈z,I64 z')))
def _root_.Go.Api.Classes.tup (y:Api.Classes):=(y.count,y.of,y.nodes,y.fields,())
def _root_.Go.Api.Classes.ok (y:Api.Classes):Prop:=I64 y.count/\(∀x∈y.of,I64 x)/\(∀x∈y.nodes,I64 x)/\(∀x∈y.fields,(∀z∈x,I64 z))
def _root_.Go.Api.Layout.tup (y:Api.Layout):=(y.arr,y.refs,())
def tyLayout:Ty Api.Layout:=Ty.co (Ty.pair Ty.bool (Ty.pair (Ty.slice Ty.int) Ty.unit)) Api.Layout.tup
instance:Sub tyLayout 0 Ty.bool Api.Layout.arr (fun z y=>{y with arr:=z }):=(Sub.co (Sub.fst (Sub.whole _)) (fun _=>rfl) (fun _ _=>rfl))
instance:Sub tyLayout 1 (Ty.slice Ty.int) Api.Layout.refs (fun z y=>{y with refs:=z }):=(Sub.co (Sub.snd (Sub.fst (Sub.whole _))) (fun _=>rfl) (fun _ _=>rfl))
def _root_.Go.Api.Layout.ok (y:Api.Layout):Prop:=(∀x∈y.refs,I64 x)
def _root_.Go.Api.Unt.tup (y:Api.Unt):=(y.params,y.vars,y.result,y.takes,y.owns,y.ins,())
def tyUnt:Ty Api.Unt:=Ty.co (Ty.pair Ty.int (Ty.pair (Ty.slice Ty.int) (Ty.pair Ty.int (Ty.pair (Ty.slice Ty.int) (Ty.pair (Ty.slice Ty.int) (Ty.pair (Ty.slice tyIns) Ty.unit)))))) Api.Unt.tup
instance:Sub tyUnt 0 Ty.int Api.Unt.params (fun z y=>{y with params:=z }):=(Sub.co (Sub.fst (Sub.whole _)) (fun _=>rfl) (fun _ _=>rfl))
instance:Sub tyUnt 1 (Ty.slice Ty.int) Api.Unt.vars (fun z y=>{y with vars:=z }):=(Sub.co (Sub.snd (Sub.fst (Sub.whole _))) (fun _=>rfl) (fun _ _=>rfl))
instance:Sub tyUnt 2 Ty.int Api.Unt.result (fun z y=>{y with result:=z }):=(Sub.co (Sub.snd (Sub.snd (Sub.fst (Sub.whole _)))) (fun _=>rfl) (fun _ _=>rfl))
instance:Sub tyUnt 3 (Ty.slice Ty.int) Api.Unt.takes (fun z y=>{y with takes:=z }):=(Sub.co (Sub.snd (Sub.snd (Sub.snd (Sub.fst (Sub.whole _))))) (fun _=>rfl) (fun _ _=>rfl))
instance:Sub tyUnt 4 (Ty.slice Ty.int) Api.Unt.owns (fun z y=>{y with owns:=z }):=(Sub.co (Sub.snd (Sub.snd (Sub.snd (Sub.snd (Sub.fst (Sub.whole _)))))) (fun _=>rfl) (fun _ _=>rfl))
instance:Sub tyUnt 5 (Ty.slice tyIns) Api.Unt.ins (fun z y=>{y with ins:=z }):=(Sub.co (Sub.snd (Sub.snd (Sub.snd (Sub.snd (Sub.snd (Sub.fst (Sub.whole _))))))) (fun _=>rfl) (fun _ _=>rfl))
def _root_.Go.Api.Unt.ok (y:Api.Unt):Prop:=I64 y.params/\(∀x∈y.vars,I64 x)/\I64 y.result/\(∀x∈y.takes,I64 x)/\(∀x∈y.owns,I64 x)/\(∀x∈y.ins,Go.Api.Ins.ok x)
def _root_.Go.Api.RTg.tup (y:Api.RTg):=(y.classes,y.globals,y.units,y.main,())
def tyRTg:Ty Api.RTg:=Ty.co (Ty.pair (Ty.slice tyLayout) (Ty.pair (Ty.slice Ty.int) (Ty.pair (Ty.slice tyUnt) (Ty.pair Ty.int Ty.unit)))) Api.RTg.tup
instance:Sub tyRTg 0 (Ty.slice tyLayout) Api.RTg.classes (fun z y=>{y with classes:=z }):=(Sub.co (Sub.fst (Sub.whole _)) (fun _=>rfl) (fun _ _=>rfl))
instance:Sub tyRTg 1 (Ty.slice Ty.int) Api.RTg.globals (fun z y=>{y with globals:=z }):=(Sub.co (Sub.snd (Sub.fst (Sub.whole _))) (fun _=>rfl) (fun _ _=>rfl))
instance:Sub tyRTg 2 (Ty.slice tyUnt) Api.RTg.units (fun z y=>{y with units:=z }):=(Sub.co (Sub.snd (Sub.snd (Sub.fst (Sub.whole _)))) (fun _=>rfl) (fun _ _=>rfl))
instance:Sub tyRTg 3 Ty.int Api.RTg.main (fun z y=>{y with main:=z }):=(Sub.co (Sub.snd (Sub.snd (Sub.snd (Sub.fst (Sub.whole _))))) (fun _=>rfl) (fun _ _=>rfl))
def _root_.Go.Api.RTg.ok (y:Api.RTg):Prop:=(∀x∈y.classes,Go.Api.Layout.ok x)/\(∀x∈y.globals,I64 x)/\(∀x∈y.units,Go.Api.Unt.ok x)/\I64 y.main
def _root_.Go.Api.State.tup (y:Api.State):=(y.met,y.live,y.stale,())
def tyState:Ty Api.State:=Ty.co (Ty.pair Ty.bool (Ty.pair (Ty.slice Ty.int) (Ty.pair (Ty.slice Ty.int) Ty.unit))) Api.State.tup
instance:Sub tyState 0 Ty.bool Api.State.met (fun z y=>{y with met:=z }):=(Sub.co (Sub.fst (Sub.whole _)) (fun _=>rfl) (fun _ _=>rfl))
instance:Sub tyState 1 (Ty.slice Ty.int) Api.State.live (fun z y=>{y with live:=z }):=(Sub.co (Sub.snd (Sub.fst (Sub.whole _))) (fun _=>rfl) (fun _ _=>rfl))
instance:Sub tyState 2 (Ty.slice Ty.int) Api.State.stale (fun z y=>{y with stale:=z }):=(Sub.co (Sub.snd (Sub.snd (Sub.fst (Sub.whole _)))) (fun _=>rfl) (fun _ _=>rfl))
def _root_.Go.Api.State.ok (y:Api.State):Prop:=(∀x∈y.live,I64 x)/\(∀x∈y.stale,I64 x)
def _root_.Go.Api.Beh.tup (y:Api.Beh):=(y.end_,y.code,y.out,y.steps,())
def tyBeh:Ty Api.Beh:=Ty.co (Ty.pair Ty.int (Ty.pair Ty.int (Ty.pair (Ty.slice Ty.int) (Ty.pair Ty.int Ty.unit)))) Api.Beh.tup
instance:Sub tyBeh 0 Ty.int Api.Beh.end_ (fun z y=>{y with end_:=z }):=(Sub.co (Sub.fst (Sub.whole _)) (fun _=>rfl) (fun _ _=>rfl))
instance:Sub tyBeh 1 Ty.int Api.Beh.code (fun z y=>{y with code:=z }):=(Sub.co (Sub.snd (Sub.fst (Sub.whole _))) (fun _=>rfl) (fun _ _=>rfl))
instance:Sub tyBeh 2 (Ty.slice Ty.int) Api.Beh.out (fun z y=>{y with out:=z }):=(Sub.co (Sub.snd (Sub.snd (Sub.fst (Sub.whole _)))) (fun _=>rfl) (fun _ _=>rfl))
instance:Sub tyBeh 3 Ty.int Api.Beh.steps (fun z y=>{y with steps:=z }):=(Sub.co (Sub.snd (Sub.snd (Sub.snd (Sub.fst (Sub.whole _))))) (fun _=>rfl) (fun _ _=>rfl))
def _root_.Go.Api.Beh.ok (y:Api.Beh):Prop:=I64 y.end_/\I64 y.code/\(∀x∈y.out,I64 x)/\I64 y.steps
def _root_.Go.Api.Ran.tup (y:Api.Ran):=(y.beh,y.made,y.gone,y.live,y.peak,y.slack,y.most,())
def tyRan:Ty Api.Ran:=Ty.co (Ty.pair tyBeh (Ty.pair Ty.int (Ty.pair Ty.int (Ty.pair Ty.int (Ty.pair Ty.int (Ty.pair Ty.int (Ty.pair Ty.int Ty.unit))))))) Api.Ran.tup
instance:SubS tyRan 0 tyBeh Api.Ran.beh (fun z y=>{y with beh:=z }):=⟨(Sub.co (Sub.fst (Sub.whole _)) (fun _=>rfl) (fun _ _=>rfl))⟩
instance:Sub tyRan 0 Ty.int (fun y=>y.beh.end_) (fun z y=>{y with beh:={y.beh with end_:=z} }):=(Sub.co (Sub.fst ((Sub.co (Sub.fst (Sub.whole _)) (fun _=>rfl) (fun _ _=>rfl):Sub tyBeh 0 Ty.int Api.Beh.end_ (fun z y=>{y with end_:=z })))) (fun _=>rfl) (fun _ _=>rfl))
instance:Sub tyRan 2 (Ty.slice Ty.int) (fun y=>y.beh.out) (fun z y=>{y with beh:={y.beh with out:=z} }):=(Sub.co (Sub.fst ((Sub.co (Sub.snd (Sub.snd (Sub.fst (Sub.whole _)))) (fun _=>rfl) (fun _ _=>rfl):Sub tyBeh 2 (Ty.slice Ty.int) Api.Beh.out (fun z y=>{y with out:=z })))) (fun _=>rfl) (fun _ _=>rfl))
instance:Sub tyRan 4 Ty.int Api.Ran.made (fun z y=>{y with made:=z }):=(Sub.co (Sub.snd (Sub.fst (Sub.whole _))) (fun _=>rfl) (fun _ _=>rfl))
instance:Sub tyRan 5 Ty.int Api.Ran.gone (fun z y=>{y with gone:=z }):=(Sub.co (Sub.snd (Sub.snd (Sub.fst (Sub.whole _)))) (fun _=>rfl) (fun _ _=>rfl))
instance:Sub tyRan 6 Ty.int Api.Ran.live (fun z y=>{y with live:=z }):=(Sub.co (Sub.snd (Sub.snd (Sub.snd (Sub.fst (Sub.whole _))))) (fun _=>rfl) (fun _ _=>rfl))
instance:Sub tyRan 7 Ty.int Api.Ran.peak (fun z y=>{y with peak:=z }):=(Sub.co (Sub.snd (Sub.snd (Sub.snd (Sub.snd (Sub.fst (Sub.whole _)))))) (fun _=>rfl) (fun _ _=>rfl))
instance:Sub tyRan 8 Ty.int Api.Ran.slack (fun z y=>{y with slack:=z }):=(Sub.co (Sub.snd (Sub.snd (Sub.snd (Sub.snd (Sub.snd (Sub.fst (Sub.whole _))))))) (fun _=>rfl) (fun _ _=>rfl))
instance:Sub tyRan 9 Ty.int Api.Ran.most (fun z y=>{y with most:=z }):=(Sub.co (Sub.snd (Sub.snd (Sub.snd (Sub.snd (Sub.snd (Sub.snd (Sub.fst (Sub.whole _)))))))) (fun _=>rfl) (fun _ _=>rfl))
def _root_.Go.Api.Ran.ok (y:Api.Ran):Prop:=Go.Api.Beh.ok y.beh/\I64 y.made/\I64 y.gone/\I64 y.live/\I64 y.peak/\I64 y.slack/\I64 y.most
def _root_.Go.Api.Pair.tup (y:Api.Pair):=(y.a,y.b,())
def _root_.Go.Api.Pair.ok (y:Api.Pair):Prop:=I64 y.a/\I64 y.b
def _root_.Go.Api.Act29.tup (y:Api.Act29):=(y.kind,y.a,y.b,y.c,())
def _root_.Go.Api.Act29.ok (y:Api.Act29):Prop:=I64 y.kind/\I64 y.a/\I64 y.b/\I64 y.c
def _root_.Go.Api.RtView.tup (y:Api.RtView):=(y.t,y.u,y.i,())
def tyRtView:Ty Api.RtView:=Ty.co (Ty.pair tyRTg (Ty.pair tyUnt (Ty.pair tyIns Ty.unit))) Api.RtView.tup
instance:SubS tyRtView 0 tyRTg Api.RtView.t (fun z y=>{y with t:=z }):=⟨(Sub.co (Sub.fst (Sub.whole _)) (fun _=>rfl) (fun _ _=>rfl))⟩
instance:Sub tyRtView 0 (Ty.slice tyLayout) (fun y=>y.t.classes) (fun z y=>{y with t:={y.t with classes:=z} }):=(Sub.co (Sub.fst ((Sub.co (Sub.fst (Sub.whole _)) (fun _=>rfl) (fun _ _=>rfl):Sub tyRTg 0 (Ty.slice tyLayout) Api.RTg.classes (fun z y=>{y with classes:=z })))) (fun _=>rfl) (fun _ _=>rfl))
instance:Sub tyRtView 1 (Ty.slice Ty.int) (fun y=>y.t.globals) (fun z y=>{y with t:={y.t with globals:=z} }):=(Sub.co (Sub.fst ((Sub.co (Sub.snd (Sub.fst (Sub.whole _))) (fun _=>rfl) (fun _ _=>rfl):Sub tyRTg 1 (Ty.slice Ty.int) Api.RTg.globals (fun z y=>{y with globals:=z })))) (fun _=>rfl) (fun _ _=>rfl))
instance:Sub tyRtView 2 (Ty.slice tyUnt) (fun y=>y.t.units) (fun z y=>{y with t:={y.t with units:=z} }):=(Sub.co (Sub.fst ((Sub.co (Sub.snd (Sub.snd (Sub.fst (Sub.whole _)))) (fun _=>rfl) (fun _ _=>rfl):Sub tyRTg 2 (Ty.slice tyUnt) Api.RTg.units (fun z y=>{y with units:=z })))) (fun _=>rfl) (fun _ _=>rfl))
instance:Sub tyRtView 5 (Ty.slice Ty.int) (fun y=>y.u.vars) (fun z y=>{y with u:={y.u with vars:=z} }):=(Sub.co (Sub.snd (Sub.fst ((Sub.co (Sub.snd (Sub.fst (Sub.whole _))) (fun _=>rfl) (fun _ _=>rfl):Sub tyUnt 1 (Ty.slice Ty.int) Api.Unt.vars (fun z y=>{y with vars:=z }))))) (fun _=>rfl) (fun _ _=>rfl))
instance:Sub tyRtView 6 Ty.int (fun y=>y.u.result) (fun z y=>{y with u:={y.u with result:=z} }):=(Sub.co (Sub.snd (Sub.fst ((Sub.co (Sub.snd (Sub.snd (Sub.fst (Sub.whole _)))) (fun _=>rfl) (fun _ _=>rfl):Sub tyUnt 2 Ty.int Api.Unt.result (fun z y=>{y with result:=z }))))) (fun _=>rfl) (fun _ _=>rfl))
instance:Sub tyRtView 8 (Ty.slice Ty.int) (fun y=>y.u.owns) (fun z y=>{y with u:={y.u with owns:=z} }):=(Sub.co (Sub.snd (Sub.fst ((Sub.co (Sub.snd (Sub.snd (Sub.snd (Sub.snd (Sub.fst (Sub.whole _)))))) (fun _=>rfl) (fun _ _=>rfl):Sub tyUnt 4 (Ty.slice Ty.int) Api.Unt.owns (fun z y=>{y with owns:=z }))))) (fun _=>rfl) (fun _ _=>rfl))
instance:Sub tyRtView 9 (Ty.slice tyIns) (fun y=>y.u.ins) (fun z y=>{y with u:={y.u with ins:=z} }):=(Sub.co (Sub.snd (Sub.fst ((Sub.co (Sub.snd (Sub.snd (Sub.snd (Sub.snd (Sub.snd (Sub.fst (Sub.whole _))))))) (fun _=>rfl) (fun _ _=>rfl):Sub tyUnt 5 (Ty.slice tyIns) Api.Unt.ins (fun z y=>{y with ins:=z }))))) (fun _=>rfl) (fun _ _=>rfl))
instance:SubS tyRtView 10 tyIns Api.RtView.i (fun z y=>{y with i:=z }):=⟨(Sub.co (Sub.snd (Sub.snd (Sub.fst (Sub.whole _)))) (fun _=>rfl) (fun _ _=>rfl))⟩
instance:Sub tyRtView 11 Ty.int (fun y=>y.i.a) (fun z y=>{y with i:={y.i with a:=z} }):=(Sub.co (Sub.snd (Sub.snd (Sub.fst ((Sub.co (Sub.snd (Sub.fst (Sub.whole _))) (fun _=>rfl) (fun _ _=>rfl):Sub tyIns 1 Ty.int Api.Ins.a (fun z y=>{y with a:=z })))))) (fun _=>rfl) (fun _ _=>rfl))
instance:Sub tyRtView 12 Ty.int (fun y=>y.i.b) (fun z y=>{y with i:={y.i with b:=z} }):=(Sub.co (Sub.snd (Sub.snd (Sub.fst ((Sub.co (Sub.snd (Sub.snd (Sub.fst (Sub.whole _)))) (fun _=>rfl) (fun _ _=>rfl):Sub tyIns 2 Ty.int Api.Ins.b (fun z y=>{y with b:=z })))))) (fun _=>rfl) (fun _ _=>rfl))
def _root_.Go.Api.RtView.ok (y:Api.RtView):Prop:=Go.Api.RTg.ok y.t/\Go.Api.Unt.ok y.u/\Go.Api.Ins.ok y.i
def _root_.Go.Api.Region.tup (y:Api.Region):=(y.live,y.many,())
def tyRegion:Ty Api.Region:=Ty.co (Ty.pair Ty.bool (Ty.pair Ty.int Ty.unit)) Api.Region.tup
instance:Sub tyRegion 0 Ty.bool Api.Region.live (fun z y=>{y with live:=z }):=(Sub.co (Sub.fst (Sub.whole _)) (fun _=>rfl) (fun _ _=>rfl))
instance:Sub tyRegion 1 Ty.int Api.Region.many (fun z y=>{y with many:=z }):=(Sub.co (Sub.snd (Sub.fst (Sub.whole _))) (fun _=>rfl) (fun _ _=>rfl))
def _root_.Go.Api.Region.ok (y:Api.Region):Prop:=I64 y.many
end Go.GX
namespace Go.RtM
open Go.RiseM Go.ReachM Go.Api
variable {α:Type} {l:List α} {n:Int} {t:RTg} {u:Unt} {arr:Bool} {c:Int} {L:Layout}
def gt {α:Type}(l:List α)(n:Int):Option α:=if 0<=n then l[n.toNat]? else none
theorem gt_nat (l:List α)(n:Nat):gt l (n:Int)=l[n]?:=by unfold gt;rw[if_pos (by omega),Int.toNat_natCast]
theorem gt_out (h:n<0\/(l.length:Int)<=n):gt l n=none:=by
 unfold gt;split
 ·exact List.getElem?_eq_none (by omega)
 ·rfl
theorem gt_some {x:α}(h:gt l n=some x):∃k:Nat,n=k/\k<l.length/\l[k]?=some x:=by
 unfold gt at h;split at h
 ·exact⟨n.toNat,by omega,(List.getElem?_eq_some_iff.1 h).1,h⟩
 ·cases h
theorem gt_mem {x:α}(h:gt l n=some x):x∈l:=by
 obtain⟨k,_,_,h⟩:=gt_some h;exact List.mem_of_getElem? h
theorem gt_in (h:0<=n/\n<l.length):∃x,gt l n=some x/\∃k:Nat,n=k/\k<l.length/\l[k]?=some x:=by
 refine⟨l[n.toNat]'(by omega),?_,n.toNat,by omega,by omega,List.getElem?_eq_getElem (by omega)⟩;unfold gt;rw[if_pos h.1,List.getElem?_eq_getElem (by omega)]
def flds (t:RTg):List (List Int):=t.classes.map (·.refs)
theorem flds_len (t:RTg):(flds t).length=t.classes.length:=by simp[flds]
noncomputable def glob (t:RTg):List Int:=fromL (flds t) t.globals
def pars (x:Unt):Nat:=(min (max x.params 0) (x.vars.length:Int)).toNat
def roots (x:Unt):List Int:=x.vars.take (pars x)++[x.result]
noncomputable def outOf (t:RTg)(x:Unt):List Int:=(fromL (flds t) (roots x)).filter fun c=>decide (c∉glob t)
noncomputable def out (t:RTg)(u:Int):List Int:=match gt t.units u with|some x=>outOf t x|none=>[]
abbrev IsClass (t:RTg)(n:Int):Prop:=0<=n/\n<(t.classes.length:Int)
abbrev IsEntry (t:RTg)(n:Int):Prop:=IsClass t n\/n=-1\/n=-2
abbrev Entries (t:RTg)(l:List Int):Prop:=∀n∈l,IsEntry t n
abbrev IsRef (e:Int):Prop:=-1<=e
def Into (a b:Int):Prop:=if -1<=a then -1<=b/\(b=a\/b=-1) else a=-2/\b=-2
instance (a b:Int):Decidable (Into a b):=by unfold Into;infer_instance
def of (u:Unt)(n:Int):Int:=(gt u.vars n).getD (-3)
abbrev Plain (u:Unt)(l:List Int):Prop:=∀n∈l,of u n=-2
abbrev Refs (u:Unt)(l:List Int):Prop:=∀n∈l,IsRef (of u n)
abbrev Place (u:Unt)(n:Int):Prop:=0<=n/\n<(u.ins.length:Int)
def cell (t:RTg)(u:Unt)(n:Int)(arr:Bool)(c:Int):Int×Bool×Bool:=
 if of u n=-1 then (0,true,decide (0<=c/\c<8))
 else match gt t.classes (of u n) with
  |some L=>if L.arr=arr then (match gt L.refs c with|some x=>(x,false,true)|none=>(0,false,false)) else (0,false,false)
  |none=>(0,false,false)
theorem cell_null (h:of u n=-1):cell t u n arr c=(0,true,decide (0<=c/\c<8)):=by unfold cell;rw[if_pos h]
theorem cell_none (h:of u n≠-1)(h2:gt t.classes (of u n)=none):cell t u n arr c=(0,false,false):=by unfold cell;rw[if_neg h,h2]
theorem cell_arr (h:of u n≠-1)(h2:gt t.classes (of u n)=some L)(h3:L.arr≠arr):cell t u n arr c=(0,false,false):=by unfold cell;rw[if_neg h,h2];simp only[if_neg h3]
theorem cell_out (h:of u n≠-1)(h2:gt t.classes (of u n)=some L)(h3:L.arr=arr)(h4:gt L.refs c=none):cell t u n arr c=(0,false,false):=by unfold cell;rw[if_neg h,h2];simp only[if_pos h3,h4]
theorem cell_some {x:Int}(h:of u n≠-1)(h2:gt t.classes (of u n)=some L)(h3:L.arr=arr)(h4:gt L.refs c=some x):cell t u n arr c=(x,false,true):=by unfold cell;rw[if_neg h,h2];simp only[if_pos h3,h4]
def Loads (t:RTg)(u:Unt)(a from_:Int)(arr:Bool)(c:Int):Prop:=
 (cell t u from_ arr c).2.2=true/\(if (cell t u from_ arr c).2.1=true then of u a≠-3 else Into (of u a) (cell t u from_ arr c).1)
instance (t:RTg)(u:Unt)(a f:Int)(arr:Bool)(c:Int):Decidable (Loads t u a f arr c):=by unfold Loads;infer_instance
def Lays (t:RTg)(u:Unt)(to:Int)(arr:Bool)(c b:Int):Prop:=
 (cell t u to arr c).2.2=true/\(if (cell t u to arr c).2.1=true then of u b≠-3 else Into (cell t u to arr c).1 (of u b))
instance (t:RTg)(u:Unt)(to:Int)(arr:Bool)(c b:Int):Decidable (Lays t u to arr c b):=by unfold Lays;infer_instance
def Only (i:Ins)(a b c n args:Bool):Prop:=(a=true\/i.a=0)/\(b=true\/i.b=0)/\(c=true\/i.c=0)/\(n=true\/i.n=0)/\(args=true\/i.args=[])
instance (i:Ins)(a b c n args:Bool):Decidable (Only i a b c n args):=by unfold Only;infer_instance
def names (op:Int):Option (Bool×Bool×Bool×Bool×Bool):=
 if op=1\/op=11\/op=19\/op=20 then some (true,false,false,true,false)
 else if op=2\/op=14\/op=15\/op=18 then some (true,false,false,false,false)
 else if op=3\/op=10 then some (true,true,false,false,false)
 else if op=5\/op=12 then some (true,true,false,true,false)
 else if op=6\/op=7\/op=8\/op=9 then some (true,true,true,false,false)
 else if op=4 then some (true,true,true,true,false)
 else if op=13 then some (true,false,true,false,true)
 else if op=16 then some (false,false,false,true,false)
 else if op=17 then some (true,false,true,true,false)
 else if op=21\/op=22 then some (false,false,false,false,true)
 else none
def Bare (i:Ins):Prop:=match names i.op with|some (a,b,c,n,g)=>Only i a b c n g|none=>False
instance (i:Ins):Decidable (Bare i):=by unfold Bare;split<;>infer_instance
def Two (u:Unt)(i:Ins):Prop:=(14<=i.n/\i.n<=24)/\of u i.a=-2/\((of u i.b=-2/\of u i.c=-2)\/(i.n=21\/i.n=22)/\IsRef (of u i.b)/\IsRef (of u i.c))
instance (u:Unt)(i:Ins):Decidable (Two u i):=by unfold Two;infer_instance
def CallOk (t:RTg)(u:Unt)(i:Ins):Prop:=match gt t.units i.c with
 |some g=>((i.args.length:Int)=g.params/\g.params<=(g.vars.length:Int)/\(∀p∈i.args.zip g.vars,Into p.2 (of u p.1)))/\(i.a=-1\/Into (of u i.a) g.result)
 |none=>False
instance (t:RTg)(u:Unt)(i:Ins):Decidable (CallOk t u i):=by unfold CallOk;split<;>infer_instance
def Fresh (t:RTg)(u:Unt)(i:Ins)(arr:Bool):Prop:=match gt t.classes i.n with|some L=>L.arr=arr/\of u i.a=i.n|none=>False
instance (t:RTg)(u:Unt)(i:Ins)(arr:Bool):Decidable (Fresh t u i arr):=by unfold Fresh;split<;>infer_instance
def InG (t:RTg)(n:Int)(P:Int->Prop):Prop:=match gt t.globals n with|some g=>P g|none=>False
instance (t:RTg)(n:Int)(P:Int->Prop)[∀g,Decidable (P g)]:Decidable (InG t n P):=by unfold InG;split<;>infer_instance
def Goes (t:RTg)(u:Unt)(i:Ins):Prop:=
 if i.op=13 then CallOk t u i
 else if i.op=16 then Place u i.n
 else if i.op=17 then of u i.a=-2/\Place u i.n/\Place u i.c
 else if i.op=18 then (u.result=-3/\i.a=-1\/u.result≠-3/\Into u.result (of u i.a))
 else if i.op=19 then InG t i.n (fun g=>Into (of u i.a) g)
 else if i.op=20 then InG t i.n (fun g=>Into g (of u i.a))
 else i.args≠[]/\Rise i.args/\∀n∈i.args,n∈u.owns
instance (t:RTg)(u:Unt)(i:Ins):Decidable (Goes t u i):=by unfold Goes;infer_instance
def Fits (t:RTg)(u:Unt)(i:Ins):Prop:=
 if i.op=1\/i.op=14\/i.op=15 then of u i.a=-2
 else if i.op=2 then IsRef (of u i.a)
 else if i.op=3 then Into (of u i.a) (of u i.b)
 else if i.op=4 then Two u i
 else if i.op=5 then (i.n=12\/i.n=13)/\of u i.a=-2/\of u i.b=-2
 else if i.op=6 then Loads t u i.a i.b false i.c
 else if i.op=7 then Lays t u i.a false i.c i.b
 else if i.op=8 then of u i.c=-2/\Loads t u i.a i.b true 0
 else if i.op=9 then of u i.b=-2/\Lays t u i.a true 0 i.c
 else if i.op=10 then (cell t u i.b true 0).2.2=true/\of u i.a=-2
 else if i.op=11 then Fresh t u i false
 else if i.op=12 then Fresh t u i true/\of u i.b=-2
 else Goes t u i
instance (t:RTg)(u:Unt)(i:Ins):Decidable (Fits t u i):=by unfold Fits;infer_instance
structure Small (t:RTg):Prop where
 classes:t.classes.length<=1073741824
 refs:((flds t).map List.length).sum<=1073741824
 globals:t.globals.length<=1073741824
 units:t.units.length<=1073741824
 unit:∀u∈t.units,u.vars.length<=536870912/\u.ins.length<=1073741824
theorem le_sum {l:List Nat}{x:Nat}(h:x∈l):x<=l.sum:=by
 induction l with
 |nil=>simp at h
 |cons y l ih=>
  rw[List.sum_cons]
  rcases List.mem_cons.1 h with rfl|h
  ·omega
  ·have:=ih h;omega
theorem Small.ref (h:Small t)(hL:L∈t.classes):L.refs.length<=1073741824:=
 Nat.le_trans (le_sum (List.mem_map.2 ⟨L.refs,List.mem_map.2 ⟨L,hL,rfl⟩,rfl⟩)) h.refs
theorem out_some {k:Nat}(h:t.units[k]?=some u):out t k=outOf t u:=by unfold out;rw[gt_nat,h]
theorem out_none {k:Int}(h:k<0\/(t.units.length:Int)<=k):out t k=[]:=by unfold out;rw[gt_out h]
theorem pars_le (u:Unt):pars u<=u.vars.length:=by unfold pars;omega
theorem roots_len (u:Unt):(roots u).length<=u.vars.length+1:=by unfold roots;rw[List.length_append,List.length_take,List.length_singleton];omega
def LayoutOk (t:RTg)(L:Layout):Prop:=L.refs.length<=8/\(L.arr=true->L.refs.length=1)/\Entries t L.refs
instance (t:RTg)(L:Layout):Decidable (LayoutOk t L):=by unfold LayoutOk;infer_instance
def lastOp (u:Unt):Int:=match u.ins[u.ins.length-1]? with|some i=>i.op|none=>0
def UnitHd (t:RTg)(u:Unt):Prop:=
 (0<=u.params/\u.params<=6/\u.params<=(u.vars.length:Int)/\u.vars.length<=4000)/\Entries t u.vars/\(u.result=-3\/IsEntry t u.result)/\u.ins≠[]/\
 (Rise u.takes/\∀c∈u.takes,c∈outOf t u)/\(Rise u.owns/\∀c∈u.owns,IsClass t c/\c∉outOf t u/\c∉glob t)/\(lastOp u=16\/lastOp u=17\/lastOp u=18)
noncomputable instance (t:RTg)(u:Unt):Decidable (UnitHd t u):=by unfold UnitHd;infer_instance
abbrev InsOk (t:RTg)(u:Unt):Prop:=∀i∈u.ins,Bare i/\Fits t u i
def UnitOk (t:RTg)(u:Unt):Prop:=UnitHd t u/\InsOk t u
noncomputable instance (t:RTg)(u:Unt):Decidable (UnitOk t u):=by unfold UnitOk;infer_instance
def insOf (l:List Unt):Nat:=(l.map fun u=>u.ins.length).sum
def MainOk (t:RTg):Prop:=match gt t.units t.main with|some u=>u.params=0/\u.result=-3|none=>False
instance (t:RTg):Decidable (MainOk t):=by unfold MainOk;split<;>infer_instance
abbrev UnitsOk (t:RTg):Prop:=insOf t.units<=16000/\∀u∈t.units,UnitOk t u
def RightP (t:RTg):Prop:=(t.classes.length<=60/\t.globals.length<=8/\t.units.length≠0/\t.units.length<=16)/\MainOk t/\(∀L∈t.classes,LayoutOk t L)/\Entries t t.globals/\UnitsOk t
noncomputable instance (t:RTg):Decidable (RightP t):=by unfold RightP;infer_instance
theorem insOf_snoc (l:List Unt)(u:Unt):insOf (l++[u])=insOf l+u.ins.length:=by simp[insOf]
theorem insOf_take (l:List Unt)(i:Nat):insOf (l.take i)<=insOf l:=by
 have:=List.take_append_drop i l
 conv=>rhs;rw[<- this]
 unfold insOf;rw[List.map_append,List.sum_append];omega
end Go.RtM
namespace Go.FlowM
open Go.RiseM Go.Api
variable {ins:List Ins}
def targets (x:Ins)(i:Int):List Int:=if x.op=18 then [] else if x.op=16 then [x.n] else if x.op=17 then [x.n,x.c] else [i+1]
abbrev In (n:Nat)(x:Int):Prop:=0<=x/\x<(n:Int)
def nextOf (x:Ins)(n:Nat)(i:Int):List Int:=puts ((targets x i).filter fun y=>decide (In n y))
def next (ins:List Ins)(i:Int):List Int:=match (if 0<=i then ins[i.toNat]? else none) with
 |some x=>nextOf x ins.length i
 |none=>[]
theorem next_some {i:Nat}{x:Ins}(h:ins[i]?=some x):next ins (i:Int)=nextOf x ins.length i:=by
 unfold next;rw[if_pos (by omega),Int.toNat_natCast,h]
theorem next_none {i:Int}(h:i<0\/(ins.length:Int)<=i):next ins i=[]:=by
 unfold next
 split
 ·rename_i x hx;split at hx
  ·have:=(List.getElem?_eq_some_iff.1 hx).1;omega
  ·cases hx
 ·rfl
theorem next_in {i x:Int}(h:x∈next ins i):In ins.length x/\In ins.length i:=by
 unfold next at h
 split at h
 ·rename_i y hy;unfold nextOf at h;rw[(puts_spec _).2,List.mem_filter] at h;split at hy
  ·have:=(List.getElem?_eq_some_iff.1 hy).1;exact⟨by simpa using h.2,by omega⟩
  ·cases hy
 ·simp at h
theorem next_len (ins:List Ins)(i:Int):(next ins i).length<=2:=by
 unfold next nextOf
 split
 ·rename_i x _;have h2:∀l:List Int,(puts l).length<=l.length:=by
   intro l;have key:∀(l acc:List Int),(l.foldl put acc).length<=acc.length+l.length:=by
    intro l
    induction l with
    |nil=>intro acc;simp
    |cons y l ih=>
     intro acc;have h1:=ih (put acc y);have h2:(put acc y).length<=acc.length+1:=by
      unfold put;split
      ·omega
      ·rename_i hn;rw[List.length_append,List.length_cons];have e2:∀(l:List Int),(l.filter fun x=>decide (x<y)).length+(l.filter fun x=>decide (y<x)).length<=l.length:=by
        intro l
        induction l with
        |nil=>simp
        |cons z l ih=>
         rw[List.filter_cons,List.filter_cons];by_cases c:z<y
         ·have:¬ y<z:=by omega
          simp[c,this];omega
         ·by_cases c2:y<z
          ·simp[c,c2];omega
          ·simp[c,c2];omega
       have:=e2 acc;omega
     rw[List.foldl_cons,List.length_cons];omega
   have:=key l [];simpa[puts] using this
  have h3:=h2 ((targets x i).filter fun y=>decide (In ins.length y));have h4:=List.length_filter_le (fun y=>decide (In ins.length y)) (targets x i);have h5:(targets x i).length<=2:=by unfold targets;(repeat' split)<;>simp
  omega
 ·simp
end Go.FlowM
namespace Go.LivM
open Go.RiseM Go.Api Go.FlowM
def asks (x:Ins):List Int:=
 if x.op=3\/x.op=5\/x.op=6\/x.op=10\/x.op=12 then [x.b]
 else if x.op=4\/x.op=8 then [x.b,x.c]
 else if x.op=7 then [x.a,x.b]
 else if x.op=9 then [x.a,x.b,x.c]
 else if x.op=13 then x.args
 else if x.op=15\/x.op=17\/x.op=18\/x.op=20 then [x.a]
 else []
def uses (x:Ins):List Int:=puts ((asks x).filter fun y=>decide (In 4000 y))
abbrev Sets (op:Int):Prop:=op=1\/op=2\/op=3\/op=4\/op=5\/op=6\/op=8\/op=10\/op=11\/op=12\/op=13\/op=14\/op=19
def def_ (x:Ins):Int:=if Sets x.op/\In 4000 x.a then x.a else -1
theorem uses_in {x:Ins}{v:Int}:v∈uses x<->v∈asks x/\In 4000 v:=by
 unfold uses;rw[(puts_spec _).2,List.mem_filter,decide_eq_true_iff]
theorem rise_len:∀(l:List Int) (m:Int) (n:Nat),Rise l->(∀x∈l,m<=x/\x<m+n)->l.length<=n
 |[],_,_,_,_=>Nat.zero_le _
 |x::l,m,n,hr,h=>by
  obtain⟨h1,h2⟩:=List.pairwise_cons.1 hr;have hx:=h x (by simp)
  cases n with
  |zero=>omega
  |succ n=>
   have:=rise_len l (m+1) n h2 fun y hy=>by
    have:=h1 y hy;have:=h y (by simp[hy]);omega
   rw[List.length_cons];omega
inductive Live (ins:List Ins):Nat->Int->Prop where
 |use {i:Nat} {x:Ins} {v:Int} (h:ins[i]?=some x) (hv:v∈uses x):Live ins i v
 |pass {i j:Nat} {x:Ins} {v:Int} (h:ins[i]?=some x) (hd:def_ x≠v) (hj:(j:Int)∈next ins i) (hl:Live ins j v):Live ins i v
theorem Live.var {ins:List Ins}{i:Nat}{v:Int}(h:Live ins i v):In 4000 v:=by
 induction h with
 |use _ hv=>exact (uses_in.1 hv).2
 |pass _ _ _ _ ih=>exact ih
def Step (ins:List Ins)(H:Nat->Int->Prop)(i:Nat)(v:Int):Prop:=∃x,ins[i]?=some x/\(v∈uses x\/def_ x≠v/\∃j:Nat,(j:Int)∈next ins i/\H j v)
structure Inv (ins:List Ins)(H:Nat->Int->Prop):Prop where
 live:∀i v,H i v->Live ins i v
 step:∀i v,H i v->Step ins H i v
def vars:List Int:=(List.range 4000).map fun k=>((k:Nat):Int)
end Go.LivM
namespace Go.GuaM
open Go.RiseM Go.Api Go.FlowM Go.LivM Go.ReachM Go.RtM
variable {b:List Int} {x:Ins} {L:List Int} {u:Unt} {i:Nat} {v:Int} {t:RTg} {k:Int} {s:Api.State} {j:Nat}
def both (a b:List Int):List Int:=puts (a++b)
theorem both_mem {a:List Int}{x:Int}:x∈both a b<->x∈a\/x∈b:=by unfold both;rw[(puts_spec _).2,List.mem_append]
theorem both_rise (a b:List Int):Rise (both a b):=(puts_spec _).1
def minus (a b:List Int):List Int:=a.filter fun x=>decide (x∉b)
theorem minus_mem {a:List Int}{x:Int}:x∈minus a b<->x∈a/\x∉b:=by unfold minus;rw[List.mem_filter,decide_eq_true_iff]
theorem minus_rise {a:List Int}(h:Rise a)(b:List Int):Rise (minus a b):=h.filter _
def alive (x:Ins)(L:List Int):List Int:=if x.op=21 then both L x.args else if x.op=22 then minus L x.args else L
theorem alive_rise (x:Ins)(h:Rise L):Rise (alive x L):=by
 unfold alive;split
 ·exact both_rise _ _
 ·split
  ·exact minus_rise h _
  ·exact h
def Seen (t:RTg)(k:Int)(L:List Int)(c:Int):Prop:=c∈glob t\/c∈out t k\/c∈L
def Closed (t:RTg)(k:Int)(L:List Int):Prop:=∀c∈fromL (flds t) L,Seen t k L c
def CallC (t:RTg)(k:Int)(u:Unt)(x:Ins)(L:List Int):Prop:=(∀c∈out t x.c,Seen t k L c)/\∀g,gt t.units x.c=some g->∀c∈g.takes,c∈L\/c∈u.takes
def CondL (t:RTg)(k:Int)(u:Unt)(x:Ins)(L:List Int):Prop:=
 if x.op=21 then (∀c∈x.args,c∉L)/\Closed t k (both L x.args)
 else if x.op=22 then (∀c∈x.args,c∈L)/\Closed t k (minus L x.args)
 else if x.op=11\/x.op=12 then x.n∈glob t\/x.n∈L\/x.n∈u.takes
 else if x.op=13 then CallC t k u x L
 else if x.op=18 then L=[] else True
def Gone (u:Unt)(x:Ins)(v:Int):Prop:=x.op=22/\0<=v/\∃c,u.vars[v.toNat]?=some c/\c∈x.args
inductive At (u:Unt):Nat->List Int->Prop where
 |zero:At u 0 []
 |step {i j:Nat} {L:List Int} {x:Ins} (h:At u i L) (hx:u.ins[i]?=some x) (hj:(j:Int)∈next u.ins i):At u j (alive x L)
inductive St (u:Unt):Nat->Int->Prop where
 |gone {i j:Nat} {L:List Int} {x:Ins} {v:Int} (h:At u i L) (hx:u.ins[i]?=some x) (hg:Gone u x v) (hd:def_ x≠v) (hj:(j:Int)∈next u.ins i):St u j v
 |pass {i j:Nat} {x:Ins} {v:Int} (h:St u i v) (hx:u.ins[i]?=some x) (hd:def_ x≠v) (hj:(j:Int)∈next u.ins i):St u j v
theorem At.rise (h:At u i L):Rise L:=by
 induction h with
 |zero=>exact List.Pairwise.nil
 |step _ _ _ ih=>exact alive_rise _ ih
theorem St.var (h:St u i v):In u.vars.length v:=by
 induction h with
 |gone _ _ hg _ _=>
  obtain⟨_,h0,c,hc,_⟩:=hg;have:=(List.getElem?_eq_some_iff.1 hc).1;exact⟨h0,by omega⟩
 |pass _ _ _ _ ih=>exact ih
def AccU (t:RTg)(k:Int)(u:Unt):Prop:=
 (∀i L x,At u i L->u.ins[i]?=some x->CondL t k u x L/\∀v∈uses x,¬ St u i v)/\∀i L L',At u i L->At u i L'->L=L'
def goneL (u:Unt)(x:Ins):List Int:=if x.op=22 then ((List.range u.vars.length).filter fun v=>decide (u.vars.getD v (-3)∈x.args)).map fun v=>((v:Nat):Int) else []
theorem goneL_mem:v∈goneL u x<->Gone u x v:=by
 unfold goneL Gone;split
 ·rename_i h;simp only[List.mem_map,List.mem_filter,List.mem_range,decide_eq_true_eq];constructor
  ·rintro⟨n,⟨h1,h2⟩,rfl⟩;refine⟨h,by omega,u.vars[n],by rw[Int.toNat_natCast];exact List.getElem?_eq_getElem h1,?_⟩;rwa[List.getD_eq_getElem?_getD,List.getElem?_eq_getElem h1] at h2
  ·rintro⟨_,h0,c,hc,h2⟩;have h1:=(List.getElem?_eq_some_iff.1 hc).1;exact⟨v.toNat,⟨h1,by rw[List.getD_eq_getElem?_getD,hc];exact h2⟩,by omega⟩
 ·rename_i h;simp[h]
def staleOut (u:Unt)(x:Ins)(st:List Int):List Int:=minus (both st (goneL u x)) [def_ x]
theorem staleOut_mem {st:List Int}:v∈staleOut u x st<->(v∈st\/Gone u x v)/\v≠def_ x:=by
 unfold staleOut;rw[minus_mem,both_mem,goneL_mem,List.mem_singleton]
theorem staleOut_rise (u:Unt)(x:Ins)(st:List Int):Rise (staleOut u x st):=minus_rise (both_rise _ _) _
structure Snd (u:Unt)(S:List Api.State):Prop where
 len:S.length=u.ins.length
 met:∀(i:Nat) s,S[i]?=some s->s.met=true->At u i s.live/\∀v∈s.stale,St u i v
 un:∀(i:Nat) s,S[i]?=some s->s.met=false->s.live=[]/\s.stale=[]
 rl:∀(i:Nat) s,S[i]?=some s->Rise s.live/\Rise s.stale
def Cov (S:List Api.State)(j:Nat)(L st:List Int):Prop:=∃s,S[j]?=some s/\s.met=true/\s.live=L/\∀v∈st,v∈s.stale
def Passes (t:RTg)(k:Int)(u:Unt)(x:Ins)(s:Api.State):Prop:=CondL t k u x s.live/\∀v∈uses x,v∉s.stale
def Done (t:RTg)(k:Int)(u:Unt)(S:List Api.State)(i:Nat):Prop:=∀s x,S[i]?=some s->s.met=true->u.ins[i]?=some x->Passes t k u x s/\∀j:Nat,(j:Int)∈next u.ins i->Cov S j (alive x s.live) (staleOut u x s.stale)
theorem acc_of_done {S:List Api.State}(h0:Cov S 0 [] [])(hd:∀i,Done t k u S i):AccU t k u:=by
 have k1:∀i L,At u i L->∃s,S[i]?=some s/\s.met=true/\s.live=L:=by
  intro i L h
  induction h with
  |zero=>
   obtain⟨s,h1,h2,h3,_⟩:=h0;exact⟨s,h1,h2,h3⟩
  |step _ hx hj ih=>
   obtain⟨s,h1,h2,h3⟩:=ih;obtain⟨s2,h4,h5,h6,_⟩:=(hd _ s _ h1 h2 hx).2 _ hj;exact⟨s2,h4,h5,by rw[h6,h3]⟩
 have k2:∀i v,St u i v->∃s,S[i]?=some s/\s.met=true/\v∈s.stale:=by
  intro i v h
  induction h with
  |gone ha hx hg hdf hj=>
   obtain⟨s,h1,h2,_⟩:=k1 _ _ ha;obtain⟨s2,h4,h5,_,h7⟩:=(hd _ s _ h1 h2 hx).2 _ hj;exact⟨s2,h4,h5,h7 _ (staleOut_mem.2 ⟨.inr hg,fun e=>hdf e.symm⟩)⟩
  |pass _ hx hdf hj ih=>
   obtain⟨s,h1,h2,h3⟩:=ih;obtain⟨s2,h4,h5,_,h7⟩:=(hd _ s _ h1 h2 hx).2 _ hj;exact⟨s2,h4,h5,h7 _ (staleOut_mem.2 ⟨.inl h3,fun e=>hdf e.symm⟩)⟩
 refine⟨fun i L x ha hx=>?_,fun i L L' h1 h2=>?_⟩
 ·obtain⟨s,h1,h2,h3⟩:=k1 i L ha;obtain⟨h4,h5⟩:=(hd i s x h1 h2 hx).1;refine⟨by rw[<- h3];exact h4,fun v hv hs=>?_⟩;obtain⟨s2,h6,_,h7⟩:=k2 i v hs;rw[h1] at h6;cases h6;exact h5 v hv h7
 ·obtain⟨s,e1,_,e2⟩:=k1 i L h1;obtain⟨s2,e3,_,e4⟩:=k1 i L' h2;rw[e1] at e3;cases e3;rw[<- e2,e4]
theorem not_passes {S:List Api.State}(h:Snd u S)(hs:S[i]?=some s)(hm:s.met=true)(hx:u.ins[i]?=some x)(hp:¬ Passes t k u x s):¬ AccU t k u:=fun ha=>by
 obtain⟨h1,h2⟩:=h.met i s hs hm;obtain⟨h3,h4⟩:=ha.1 i s.live x h1 hx;exact hp ⟨h3,fun v hv hs2=>h4 v hv (h2 v hs2)⟩
theorem out_at {S:List Api.State}(h:Snd u S)(hs:S[i]?=some s)(hm:s.met=true)(hx:u.ins[i]?=some x)(hj:(j:Int)∈next u.ins i):At u j (alive x s.live)/\∀v∈staleOut u x s.stale,St u j v:=by
 obtain⟨h1,h2⟩:=h.met i s hs hm;refine⟨.step h1 hx hj,fun v hv=>?_⟩;obtain⟨h3|h3,h4⟩:=staleOut_mem.1 hv
 ·exact .pass (h2 v h3) hx (fun e=>h4 e.symm) hj
 ·exact .gone h1 hx h3 (fun e=>h4 e.symm) hj
theorem not_live {S:List Api.State}(h:Snd u S){o:Api.State}(ho:S[j]?=some o)(hm:o.met=true)(hL:At u j L)(hne:o.live≠L):¬ AccU t k u:=fun ha=>hne (ha.2 j _ _ (h.met j o ho hm).1 hL)
def lay (L st:List Int)(o:Api.State):Api.State:=⟨true,L,both st o.stale⟩
theorem snd_lay {S:List Api.State}(h:Snd u S){o:Api.State}{st:List Int}(ho:S[j]?=some o)(hL:At u j L)(hst:∀v∈st,St u j v):Snd u (S.set j (lay L st o)):=by
 have hj:=(List.getElem?_eq_some_iff.1 ho).1;have hget:∀(i:Nat) s,(S.set j (lay L st o))[i]?=some s->i=j/\s=lay L st o\/i≠j/\S[i]?=some s:=fun i s hs=>by
  by_cases e:j=i
  ·subst e;rw[List.getElem?_set_self hj] at hs;cases hs;exact .inl ⟨rfl,rfl⟩
  ·rw[List.getElem?_set_ne e] at hs;exact .inr ⟨fun e2=>e e2.symm,hs⟩
 refine⟨by rw[List.length_set];exact h.len,fun i s hs hm=>?_,fun i s hs hm=>?_,fun i s hs=>?_⟩
 ·rcases hget i s hs with ⟨rfl,rfl⟩|⟨_,hs⟩
  ·refine⟨hL,fun v hv=>?_⟩
   rcases both_mem.1 hv with hv|hv
   ·exact hst v hv
   ·by_cases hom:o.met=true
    ·exact (h.met i o ho hom).2 v hv
    ·rw[(h.un i o ho (by simpa using hom)).2] at hv;simp at hv
  ·exact h.met i s hs hm
 ·rcases hget i s hs with ⟨rfl,rfl⟩|⟨_,hs⟩
  ·cases hm
  ·exact h.un i s hs hm
 ·rcases hget i s hs with ⟨rfl,rfl⟩|⟨_,hs⟩
  ·exact⟨hL.rise,both_rise _ _⟩
  ·exact h.rl i s hs
theorem cov_lay {S:List Api.State}{o:Api.State}{st:List Int}(ho:S[j]?=some o)(hok:o.met=true->o.live=L){L2 st2:List Int}(hc:Cov S i L2 st2):Cov (S.set j (lay L st o)) i L2 st2:=by
 have hj:=(List.getElem?_eq_some_iff.1 ho).1;obtain⟨s,h1,h2,h3,h4⟩:=hc;by_cases e:j=i
 ·subst e;rw[ho] at h1;cases h1;exact⟨lay L st o,List.getElem?_set_self hj,rfl,by rw[<- h3];exact (hok h2).symm,fun v hv=>both_mem.2 (.inr (h4 v hv))⟩
 ·exact⟨s,by rw[List.getElem?_set_ne e];exact h1,h2,h3,h4⟩
theorem cov_self {S:List Api.State}{o:Api.State}{st:List Int}(ho:S[j]?=some o):Cov (S.set j (lay L st o)) j L st:=
 ⟨lay L st o,List.getElem?_set_self (List.getElem?_eq_some_iff.1 ho).1,rfl,rfl,fun v hv=>both_mem.2 (.inl hv)⟩
theorem done_lay {S:List Api.State}{o:Api.State}{st:List Int}(ho:S[j]?=some o)(hok:o.met=true->o.live=L)(hi:i≠j)(h:Done t k u S i):Done t k u (S.set j (lay L st o)) i:=fun s x hs hm hx=>by
 rw[List.getElem?_set_ne (Ne.symm hi)] at hs;obtain⟨h1,h2⟩:=h s x hs hm hx;exact⟨h1,fun m hm2=>cov_lay ho hok (h2 m hm2)⟩
theorem done_un {S:List Api.State}(h:∀s,S[i]?=some s->s.met=false):Done t k u S i:=fun s x hs hm _=>by rw[h s hs] at hm;cases hm
def wgt (s:Api.State):Nat:=(if s.met=true then 1 else 0)+s.stale.length
def wsum (S:List Api.State):Nat:=(S.map wgt).sum
theorem wsum_set {S:List Api.State}{o:Api.State}(ho:S[j]?=some o):wsum (S.set j s)+wgt o=wsum S+wgt s:=by
 unfold wsum
 induction S generalizing j with
 |nil=>simp at ho
 |cons a S ih=>
  cases j with
  |zero=>simp at ho;subst ho;simp only[List.set_cons_zero,List.map_cons,List.sum_cons];omega
  |succ j=>
   have:=ih (j:=j) (by simpa using ho);simp only[List.set_cons_succ,List.map_cons,List.sum_cons];omega
theorem wsum_le {S:List Api.State}(h:Snd u S):wsum S<=u.ins.length*(1+u.vars.length):=by
 have key:∀l:List Api.State,(∀s∈l,wgt s<=1+u.vars.length)->(l.map wgt).sum<=l.length*(1+u.vars.length):=by
  intro l
  induction l with
  |nil=>simp
  |cons a l ih=>
   intro hl;have h1:=hl a (by simp);have h2:=ih fun s hs=>hl s (by simp[hs]);rw[List.map_cons,List.sum_cons,List.length_cons,Nat.add_mul];omega
 rw[<- h.len];refine key S fun s hs=>?_;obtain⟨i,hi⟩:=List.mem_iff_getElem?.1 hs;have hst:s.stale.length<=u.vars.length:=by
  by_cases hm:s.met=true
  ·exact rise_len s.stale 0 u.vars.length (h.rl i s hi).2 fun v hv=>by have:=((h.met i s hi hm).2 v hv).var;omega
  ·rw[(h.un i s hi (by simpa using hm)).2];simp
 unfold wgt;split<;>omega
theorem rise_subset:∀(m l:List Int),Rise l->Rise m->(∀x∈l,x∈m)->l.length<=m.length/\(l.length=m.length->l=m)
 |[],l,_,_,h=>by
  have:l=[]:=List.eq_nil_iff_forall_not_mem.2 fun x hx=>by simpa using h x hx
  subst this;exact⟨Nat.le_refl _,fun _=>rfl⟩
 |y::m,[],_,_,_=>⟨Nat.zero_le _,fun h=>by simp at h⟩
 |y::m,x::l,hl,hm,h=>by
  obtain⟨l1,l2⟩:=List.pairwise_cons.1 hl;obtain⟨m1,m2⟩:=List.pairwise_cons.1 hm;by_cases e:x=y
  ·subst e;obtain⟨h1,h2⟩:=rise_subset m l l2 m2 fun z hz=>by
    rcases List.mem_cons.1 (h z (by simp[hz])) with rfl|h3
    ·exact absurd (l1 _ hz) (by omega)
    ·exact h3
   simp only[List.length_cons];exact⟨by omega,fun h3=>by rw[h2 (by omega)]⟩
  ·have hx:x∈m:=by
    rcases List.mem_cons.1 (h x (by simp)) with h3|h3
    ·exact absurd h3 e
    ·exact h3
   have hyx:=m1 x hx;obtain⟨h1,_⟩:=rise_subset m (x::l) hl m2 fun z hz=>by
    rcases List.mem_cons.1 (h z hz) with rfl|h3
    ·rcases List.mem_cons.1 hz with h4|h4
     ·exact absurd h4.symm e
     ·exact absurd (l1 _ h4) (by omega)
    ·exact h3
   simp only[List.length_cons] at h1 ⊢;exact⟨by omega,fun h3=>by omega⟩
theorem both_same {st o:List Int}(ho:Rise o)(h:(both st o).length=o.length):∀v∈st,v∈o:=fun v hv=>by
 have:=(rise_subset (both st o) o ho (both_rise _ _) fun x hx=>both_mem.2 (.inr hx)).2 h.symm;rw[this];exact both_mem.2 (.inl hv)
theorem wgt_lay {st:List Int}{o:Api.State}(ho:Rise o.stale)(h:¬ (o.met=true/\(both st o.stale).length=o.stale.length)):wgt o<wgt (lay L st o):=by
 have:=(rise_subset (both st o.stale) o.stale ho (both_rise _ _) fun x hx=>both_mem.2 (.inr hx)).1;unfold wgt lay;dsimp only;by_cases hm:o.met=true
 ·have:¬ (both st o.stale).length=o.stale.length:=fun e=>h ⟨hm,e⟩;rw[if_pos hm,if_pos rfl];omega
 ·rw[if_neg hm,if_pos rfl];omega
end Go.GuaM
