import Derived.Test.YtojfbbggnkijeaaGreatDoorZ32
set_option linter.all false
namespace Go.Proofs.YtojfbbggnkijeaaGreatDoor
open Go Go.RR Go.RX Go.GX Go.Api Go.RtM
attribute [local irreducible] wpList Code.wp wpPlan Exit.then Exit.inBlock bodyPost NoPanic Went GX.Post Again Meet RowR GX.Own Owns Box Sl Pt Ag MapR Star Kept Pin wpT GoK AtEnd Both
instance utyFr:UTy Tryz.prog 161 Ty.ptr none (.pointer none):=⟨Tryz.zeroValue161,fun F w=>ptr_rd⟩
abbrev newC (n:Nat)(q:Nat×Nat×Nat):FrC:=⟨q.1,q.2.1,n,q.2.2,fun _=>none⟩
abbrev newF (u into:Int)(n:Nat):Fr:=⟨u,0,List.replicate n 0,into,fun _=>0⟩
theorem enter_spec (t:RTg)(p:Nat)(k:MK)(v:MV)(j:Nat)(n:Int)(hn:n=(j:Int))(u:Unt)(into:Int)(hu:t.units[j]?=some u)(hv:u.vars.length<=1000000):
  Does Tryz.prog 63 [.pointer (some ⟨p,0,none⟩),.int .i64 n,.int .i64 into] [Sl tyUnt k.aU k.cU t.units] [RowR p 159 (mrw t k v)] (fun s:Nat×Nat×Nat=>.pointer (some ⟨s.1,0,none⟩)) (fun _=>[])
   (fun s=>[RowR p 159 (mrw t k v),RowR (newC u.vars.length s).bl 255 (mfr (newC u.vars.length s) (newF n into u.vars.length)),GX.Own 3 Ty.int (some ⟨(newC u.vars.length s).vb,0,none⟩) (newC u.vars.length s).n (newF n into u.vars.length).vars,MapR (newC u.vars.length s).mb (newC u.vars.length s).mp]):=by
 subst hn;refine enter Tryz.func63 rfl Tryz.ntmps63 rfl fun _=>?_;refine w_ ?_ 1;intros;refine nmB 18 ?_;rintro vb rfl;refine nmP 22 ?_;rintro bl rfl;refine nmM 20 ?_;rintro mb rfl;exact rt1 (bl,vb,mb) rfl
theorem push_spec (t:RTg)(p:Nat)(k:MK)(v:MV)(la:List (Option Addr))(x:FrC)(f:Fr)(j:Nat)(u:Unt)(hu:t.units[j]?=some u)(hj:f.u=j)(hn:v.nf=la.length)(hb:la.length<=1000)(h1:-1000000000<=v.bound/\v.bound<=1000000000)(h2:u.owns.length<=1000000000):
  Does Tryz.prog 62 [.pointer (some ⟨p,0,none⟩),.pointer (some ⟨x.bl,0,none⟩)] [Sl tyUnt k.aU k.cU t.units] [RowR p 159 (mrw t k v),GX.Own 161 Ty.ptr v.af v.cf la,RowR x.bl 255 (mfr x f)] (fun _:Option Addr×Nat=>.tuple #[]) (fun _=>[])
   (fun s=>[RowR p 159 (mrw t k ({ v with af:=s.1,nf:=la.length+1,cf:=s.2,bound:=v.bound+u.owns.length}:MV)),GX.Own 161 Ty.ptr s.1 s.2 (la++[some ⟨x.bl,0,none⟩]),RowR x.bl 255 (mfr x f)]):=by
 refine enter Tryz.func62 rfl Tryz.ntmps62 rfl fun _=>?_;have hla:(la++[some (⟨x.bl,0,none⟩:Addr)]).length=la.length+1:=by simp
 dsimp only[mrw];rw[hn];refine w_ ?_;intros;refine nmS 11 ?_;rintro a c rfl rfl;refine drawn2 (RowR p 159 _) (RowR x.bl 255 _) (fun j=>!(List.contains [20] j)) [(0,true),(1,true),(2,true),(3,true),(4,true),(5,true),(6,true),(7,true),(8,true),(9,true),(10,true),(11,true),(12,true),(13,true),(14,true),(15,true),(16,true),(17,true),(18,true),(19,true),(20,false)] rfl (by kernel_rfl) (by kernel_rfl) sA ?_;intro wd F hW hR;refine u_ ?_;intros;refine unpin (RowR p 159 _) ?_;refine unpin (RowR x.bl 255 _) ?_;refine u_ ?_;intros;refine w_ ?_;intros;rw[hla];exact en0 (a,c)
theorem slack_spec (t:RTg)(p:Nat)(k:MK)(v:MV)(c:TabC)(T:Tb)(hT:TInv c T)(h1:-1000000000<=v.bound/\v.bound<=1000000000)(hB:T.B.length<=1000000000):
  Does Tryz.prog 64 [.pointer (some ⟨p,0,none⟩)] [] [RowR p 159 (mrw t k v),RowR k.tp 248 (tbl c),tA c,tB c,tC c] (fun _:Unit=>.int .i64 (v.bound-(liveN T.B:Int))) (fun _=>[]) (fun _=>[RowR p 159 (mrw t k v),RowR k.tp 248 (tbl c),tA c,tB c,tC c]):=by
 refine enter Tryz.func64 rfl Tryz.ntmps64 rfl fun _=>?_;have hlv:liveN T.B<=T.B.length:=List.countP_le_length;refine w_ ?_;intros;refine GX.o (cl (tCount_spec k.tp hT) fun _=>?_);refine w_ ?_;intros;rw[show v.bound-((T.B.length:Int)-((T.B.length:Int)-(liveN T.B:Int)))=v.bound-(liveN T.B:Int) by omega];exact rt1 () rfl
theorem each_spec (t:RTg)(p:Nat)(k:MK)(v:MV)(l:List (Option Addr))(x:FrC)(f:Fr)(ao:Option Addr)(cap:Nat)(L:List Int)(hn:v.nf=l.length+1)(hb:l.length<=1000)(hl:f.vars.length=x.n)(hv:∀n∈L,Vok f n)(hLl:L.length<=1000000):
  Does Tryz.prog 221 [.slice ao L.length cap,.func (.func 211) #[.pointer (some ⟨p,0,none⟩)] #[]] [Sl Ty.int ao cap L] [RowR p 159 (mrw t k v),GX.Own 161 Ty.ptr v.af v.cf (l++[some ⟨x.bl,0,none⟩]),RowR x.bl 255 (mfr x f),GX.Own 3 Ty.int (some ⟨x.vb,0,none⟩) x.n f.vars] (fun s:Option Addr×Nat=>.slice s.1 (L.map (lkv f.vars)).length s.2) (fun s=>[Sl Ty.int s.1 s.2 (L.map (lkv f.vars))]) (fun _=>[RowR p 159 (mrw t k v),GX.Own 161 Ty.ptr v.af v.cf (l++[some ⟨x.bl,0,none⟩]),RowR x.bl 255 (mfr x f),GX.Own 3 Ty.int (some ⟨x.vb,0,none⟩) x.n f.vars]):=by
 refine enter Tryz.func221 rfl Tryz.ntmps221 rfl fun _=>?_;refine sln ao fun _ _ _=>?_;refine w_ ?_;intros;refine ownNil 3 Ty.int ?_;refine GX.loop (σ:=Nat×Option Addr×Nat) (fun s=>[(1,.func (.func 211) #[.pointer (some ⟨p,0,none⟩)] #[]),(5,.slice s.2.1 ((L.take s.1).map (lkv f.vars)).length s.2.2),(8,.slice ao L.length cap),(9,.int .i64 (L.length:Int)),(10,.int .i64 (s.1:Int))]) (fun _=>[]) (fun s=>[GX.Own 3 Ty.int s.2.1 s.2.2 ((L.take s.1).map (lkv f.vars)),RowR p 159 (mrw t k v),GX.Own 161 Ty.ptr v.af v.cf (l++[some ⟨x.bl,0,none⟩]),RowR x.bl 255 (mfr x f),GX.Own 3 Ty.int (some ⟨x.vb,0,none⟩) x.n f.vars])
  (fun s=>s.1<=L.length) (fun s=>L.length-s.1) (0,none,0) ⟨rfl,rfl,rfl,rfl,rfl,trivial⟩ (Nat.zero_le _) (fun s hs=>?_)
 obtain⟨j,a,c⟩:=s;dsimp only at hs ⊢;by_cases hlt:j<L.length
 ·obtain⟨d,hd⟩:=GX.get_lt hlt;have ht:(L.take (j+1)).map (lkv f.vars)=(L.take j).map (lkv f.vars)++[lkv f.vars d]:=by rw[List.take_add_one,hd];simp
  have hlen:((L.take j).map (lkv f.vars)).length=j:=by rw[List.length_map,List.length_take];omega
  have hlen2:((L.take j).map (lkv f.vars)++[lkv f.vars d]).length=j+1:=by rw[List.length_append,hlen];rfl
  refine w_ ?_;intros;refine GX.o (clv (fs:=[.pointer (some ⟨p,0,none⟩)]) (vs:=[.int .i64 d]) (cs:=[]) (vI_spec t p k v l x f d hn hb hl (hv d (List.mem_of_getElem? hd))) fun _=>?_);refine w_ ?_;intros;refine nmS 19 ?_;rintro a2 c2 rfl rfl;rw[<- ht];exact again (j+1,a2,c2) ⟨rfl,rfl,rfl,rfl,rfl,trivial⟩ (by dsimp only;omega) (by dsimp only;omega)
 ·obtain rfl:j=L.length:=by omega
  rw[List.take_length];refine w_ ?_;intros;refine frz a ?_;exact rt1 (a,c) rfl
theorem rem_len (T:Tb)(r:Int):(T.rem r).B.length=T.B.length/\(T.rem r).L=T.L:=by
 unfold Tb.rem;split
 ·exact⟨List.length_set,rfl⟩
 ·exact⟨rfl,rfl⟩
theorem remAll_len (T:Tb):∀n:Nat,(remAll T n).B.length=T.B.length/\(remAll T n).L=T.L
 |0=>⟨rfl,rfl⟩
 |n+1=>by
  have h1:=rem_len (remAll T n) ((n:Int)+1);have h2:=remAll_len T n;exact⟨h1.1.trans h2.1,h1.2.trans h2.2⟩
def clearT (T:Tb)(en:Int):Tb:=if en=1 then T.rem 1 else if en=2 then remAll T T.B.length else T
theorem clears_spec (t:RTg)(p:Nat)(k:MK)(v:MV)(c:TabC)(T:Tb)(hT:TInv c T)(hB:T.B.length<=1000000000)(hL:T.L.length<=1000000000):
  Does Tryz.prog 66 [.pointer (some ⟨p,0,none⟩)] [] [RowR p 159 (mrw t k v),RowR k.tp 248 (tbl c),tA c,tB c,tC c] (fun _:{c':TabC // TInv c' (clearT T v.en)}=>.tuple #[]) (fun _=>[]) (fun s=>[RowR p 159 (mrw t k v),RowR k.tp 248 (tbl s.1),tA s.1,tB s.1,tC s.1]):=by
 refine enter Tryz.func66 rfl Tryz.ntmps66 rfl fun _=>?_;by_cases h1:v.en=1
 ·rw[show clearT T v.en=T.rem 1 from if_pos h1];refine w_ ?_;intros;refine drawn1 (RowR p 159 _) (fun j=>!(List.contains [8] j)) [(0,true),(1,true),(2,true),(3,true),(4,true),(5,true),(6,true),(7,true),(8,false)] rfl (by kernel_rfl) (by kernel_rfl) sA ?_;intro wd F hW hR;refine u_ ?_;intros;refine unpin (RowR p 159 _) ?_;refine GX.gow ?_;refine (cl (tRem_spec k.tp hT 1 hB hL) fun s=>?_);refine u_ ?_;intros;refine w_ ?_;intros;exact en0 s
 by_cases h2:v.en=2
 ·rw[show clearT T v.en=remAll T T.B.length by unfold clearT;rw[if_neg h1,if_pos h2]];refine w_ ?_;intros;refine GX.o (cl (tCount_spec k.tp hT) fun _=>?_);refine w_ ?_;intros;refine GX.loop (σ:=Nat×TabC) (fun s=>[(0,.pointer (some ⟨p,0,none⟩)),(34,.int .i64 (T.B.length:Int)),(35,.int .i64 (s.1:Int))]) (fun _=>[]) (fun s=>[RowR p 159 (mrw t k v),RowR k.tp 248 (tbl s.2),tA s.2,tB s.2,tC s.2])
   (fun s=>s.1<=T.B.length/\TInv s.2 (remAll T s.1)) (fun s=>T.B.length-s.1) (0,c) ⟨rfl,rfl,rfl,trivial⟩ ⟨Nat.zero_le _,hT⟩ (fun s hs=>?_)
  obtain⟨j,c1⟩:=s;obtain⟨hj,hT1⟩:=hs;dsimp only at hj hT1 ⊢;have hl:=remAll_len T j;by_cases hlt:j<T.B.length
  ·refine w_ ?_;intros;refine GX.o (cl (tRem_spec k.tp hT1 ((j:Int)+1) (by rw[hl.1];exact hB) (by rw[hl.2];exact hL)) fun s2=>?_);obtain⟨c2,hT2⟩:=s2;dsimp only;refine w_ ?_;intros;exact again (j+1,c2) ⟨rfl,rfl,rfl,trivial⟩ ⟨by dsimp only;omega,hT2⟩ (by dsimp only;omega)
  ·obtain rfl:j=T.B.length:=by omega
   refine w_ ?_;intros;exact en0 ⟨c1,hT1⟩
 ·rw[show clearT T v.en=T by unfold clearT;rw[if_neg h1,if_neg h2]];refine w_ ?_;intros;exact en0 ⟨c,hT⟩
theorem call_deep (t:RTg)(p:Nat)(k:MK)(v:MV)(l:List (Option Addr))(x:FrC)(f:Fr)(i:Ins)(cs:List Value)(hn:v.nf=l.length+1)(hb:l.length<=1000)(hd:40<=l.length+1):Does Tryz.prog 137 [.pointer (some ⟨p,0,none⟩),.agg cs.toArray] [Ag tyIns cs i] [RowR p 159 (mrw t k v)] (fun _:Unit=>.tuple #[]) (fun _=>[]) (fun _=>[RowR p 159 (mrw t k (trapV v 6))]):=by
 refine enter Tryz.func137 rfl Tryz.ntmps137 rfl fun _=>?_;have hd':(40:Int)<=(v.nf:Int):=by omega
 refine w_ ?_;intros;refine GX.o (cl (trap_spec t p k v 6) fun _=>?_);refine w_ ?_;intros;exact rt0 ()
theorem takeR_drop {G:List Int}{B:List Bool}{f:Fr}{l:List Int}{j:Nat}{c:Int}(h:l[j]?=some c)(m:Int->Int):takeR G B f (l.drop j) m=if hasB B (reg G f c)=true then takeR G B f (l.drop (j+1)) (updI m c (reg G f c)) else none:=by
 rw[List.drop_eq_getElem_cons (List.getElem?_eq_some_iff.1 h).1,(List.getElem?_eq_some_iff.1 h).2];rfl
theorem call_no (t:RTg)(p:Nat)(k:MK)(v:MV)(l:List (Option Addr))(x:FrC)(f:Fr)(i:Ins)(cs:List Value)(j:Nat)(g:Unt)(hg:t.units[j]?=some g)(hj:i.c=j)(hv:g.vars.length<=1000000)(hd:l.length+1<40)(c:TabC)(T:Tb)(hT:TInv c T)(hr:RegsAt x f)(hm:takeR (glob t) T.B f g.takes (fun _=>0)=none)(hn:v.nf=l.length+1)(hb:l.length<=1000)(hl:f.vars.length=x.n):
  Does Tryz.prog 137 [.pointer (some ⟨p,0,none⟩),.agg cs.toArray] [Ag tyIns cs i,Sl Ty.int k.aL k.cL (glob t),Sl tyUnt k.aU k.cU t.units] [RowR p 159 (mrw t k v),GX.Own 161 Ty.ptr v.af v.cf (l++[some ⟨x.bl,0,none⟩]),RowR x.bl 255 (mfr x f),GX.Own 3 Ty.int (some ⟨x.vb,0,none⟩) x.n f.vars,MapR x.mb x.mp,RowR k.tp 248 (tbl c),tA c,tB c,tC c] (fun _:Unit=>.tuple #[]) (fun _=>[])
   (fun _=>[RowR p 159 (mrw t k ({ v with en:=4,code:=0}:MV)),GX.Own 161 Ty.ptr v.af v.cf (l++[some ⟨x.bl,0,none⟩]),RowR x.bl 255 (mfr x f),GX.Own 3 Ty.int (some ⟨x.vb,0,none⟩) x.n f.vars,MapR x.mb x.mp,RowR k.tp 248 (tbl c),tA c,tB c,tC c]):=by
 refine enter Tryz.func137 rfl Tryz.ntmps137 rfl fun _=>?_;have hd':¬ (40:Int)<=(v.nf:Int):=by omega
 refine w_ ?_;intros
 (try dsimp only[mrw,mfr]);rw[hj]
 refine GX.o (cl (enter_spec t p k v j _ rfl g i.a hg hv) fun s=>?_);obtain⟨bl2,vb2,mb2⟩:=s;dsimp only[newC,newF];refine w_ ?_;intros;refine drawn1 (RowR p 159 _) (fun j=>!(List.contains [] j)) [(0,true),(1,true),(2,true),(3,true),(4,true),(5,true),(6,true),(7,true),(8,true),(9,true),(10,true),(11,true)] rfl (by kernel_rfl) (by kernel_rfl) sA ?_;intro wd F hW hR;refine u_ ?_;intros
 (try dsimp only[mrw,mfr]);rw[hj]
 refine u_ ?_;intros;refine unpin (RowR p 159 _) ?_;refine u_ ?_;intros;refine w_ ?_;intros;refine nmS 31 ?_;rintro aT cT rfl rfl;refine nmP 3 ?_;rintro b3 rfl;refine sln aT fun _ _ _=>?_;refine GX.loop (σ:=Nat×(Int->Int)×(Int->Option Value)) (fun s=>[(0,.pointer (some ⟨p,0,none⟩)),(3,.pointer (some ⟨b3,0,none⟩)),(4,.pointer (some ⟨bl2,0,none⟩)),(31,.slice aT g.takes.length cT),(32,.int .i64 (g.takes.length:Int)),(33,.int .i64 (s.1:Int))]) (fun _=>[]) (fun s=>[RowR p 159 (mrw t k v),GX.Own 161 Ty.ptr v.af v.cf (l++[some ⟨x.bl,0,none⟩]),RowR x.bl 255 (mfr x f),GX.Own 3 Ty.int (some ⟨x.vb,0,none⟩) x.n f.vars,MapR x.mb x.mp,RowR k.tp 248 (tbl c),tA c,tB c,tC c,RowR bl2 255 [.int .i64 (j:Int),.int .i64 0,.slice (some ⟨vb2,0,none⟩) g.vars.length g.vars.length,.int .i64 i.a,.map (some mb2)],GX.Own 3 Ty.int (some ⟨vb2,0,none⟩) g.vars.length (List.replicate g.vars.length 0),MapR mb2 s.2.2])
  (fun s=>s.1<=g.takes.length/\RegsAt {x with mp:=s.2.2} {f with regs:=s.2.1}/\takeR (glob t) T.B f (g.takes.drop s.1) s.2.1=takeR (glob t) T.B f g.takes (fun _=>0)) (fun s=>g.takes.length-s.1) (0,(fun _=>0),fun _=>none) ⟨rfl,rfl,rfl,rfl,rfl,rfl,trivial⟩ ⟨Nat.zero_le _,fun _=>rfl,by rw[List.drop_zero]⟩ (fun s hs=>?_)
 obtain⟨n,m',mp⟩:=s;obtain⟨hn',hr1,he⟩:=hs;dsimp only at hn' hr1 he ⊢;rw[hm] at he;by_cases hlt:n<g.takes.length
 ·obtain⟨d,hd⟩:=GX.get_lt hlt;rw[takeR_drop hd] at he;by_cases hh:hasB T.B (reg (glob t) f d)=true
  ·rw[if_pos hh] at he;have hz:¬ reg (glob t) f d=0:=fun h0=>by rw[h0,hasB0] at hh;cases hh
   have e1:regV T (glob t) f d=reg (glob t) f d:=if_pos hh;refine w_ ?_;intros;refine GX.o (cl (top_spec t p k v l _ hn hb) fun _=>?_);refine w_ ?_;intros;refine GX.o (cl (region_spec t p k v x f d c T hT hr) fun _=>?_);rw[e1];refine w_ ?_;intros;exact again (n+1,updI m' d (reg (glob t) f d),RX.upd mp d (.int .i64 (reg (glob t) f d))) ⟨rfl,rfl,rfl,rfl,rfl,rfl,trivial⟩ ⟨by dsimp only;omega,regsAt_upd hr1 d _,he.trans hm.symm⟩ (by dsimp only;omega)
  ·rw[if_neg hh] at he;have e1:regV T (glob t) f d=0:=if_neg hh;refine w_ ?_;intros;refine GX.o (cl (top_spec t p k v l _ hn hb) fun _=>?_);refine w_ ?_;intros;refine GX.o (cl (region_spec t p k v x f d c T hT hr) fun _=>?_);rw[e1];refine w_ ?_;intros;refine GX.o (cl (ends_spec t p k v 4 0) fun _=>?_);refine w_ ?_;intros;exact rt0 ()
 ·obtain rfl:n=g.takes.length:=by omega
  rw[List.drop_length] at he;exact absurd he (by simp[takeR])
theorem call_yes (t:RTg)(p:Nat)(k:MK)(v:MV)(l:List (Option Addr))(x:FrC)(f:Fr)(i:Ins)(cs:List Value)(j:Nat)(g:Unt)(hg:t.units[j]?=some g)(hj:i.c=j)(hv:g.vars.length<=1000000)(hd:l.length+1<40)(c:TabC)(T:Tb)(hT:TInv c T)(hr:RegsAt x f)(m:Int->Int)(hm:takeR (glob t) T.B f g.takes (fun _=>0)=some m)(hn:v.nf=l.length+1)(hb:l.length<=1000)(hl:f.vars.length=x.n)(hargs:∀n∈i.args,Vok f n)(hal:i.args.length<=g.vars.length)(hbd:-1000000000<=v.bound/\v.bound<=1000000000)(hol:g.owns.length<=1000000000):
  Does Tryz.prog 137 [.pointer (some ⟨p,0,none⟩),.agg cs.toArray] [Ag tyIns cs i,Sl Ty.int k.aL k.cL (glob t),Sl tyUnt k.aU k.cU t.units] [RowR p 159 (mrw t k v),GX.Own 161 Ty.ptr v.af v.cf (l++[some ⟨x.bl,0,none⟩]),RowR x.bl 255 (mfr x f),GX.Own 3 Ty.int (some ⟨x.vb,0,none⟩) x.n f.vars,MapR x.mb x.mp,RowR k.tp 248 (tbl c),tA c,tB c,tC c] (fun _:{q:(Option Addr×Nat)×(Nat×Nat×Nat)×(Int->Option Value) // RegsAt {x with mp:=q.2.2} {f with regs:=m}}=>.tuple #[]) (fun _=>[])
   (fun s=>[RowR p 159 (mrw t k ({ v with af:=s.1.1.1,nf:=l.length+2,cf:=s.1.1.2,bound:=v.bound+g.owns.length}:MV)),GX.Own 161 Ty.ptr s.1.1.1 s.1.1.2 (l++[some ⟨x.bl,0,none⟩]++[some ⟨s.1.2.1.1,0,none⟩]),RowR x.bl 255 (mfr x f),GX.Own 3 Ty.int (some ⟨x.vb,0,none⟩) x.n f.vars,MapR x.mb x.mp,RowR k.tp 248 (tbl c),tA c,tB c,tC c,
    RowR s.1.2.1.1 255 [.int .i64 i.c,.int .i64 0,.slice (some ⟨s.1.2.1.2.1,0,none⟩) g.vars.length g.vars.length,.int .i64 i.a,.map (some s.1.2.1.2.2)],GX.Own 3 Ty.int (some ⟨s.1.2.1.2.1,0,none⟩) g.vars.length (argsV f i g.vars.length),MapR s.1.2.1.2.2 s.1.2.2]):=by
 refine enter Tryz.func137 rfl Tryz.ntmps137 rfl fun _=>?_;have hd':¬ (40:Int)<=(v.nf:Int):=by omega
 refine w_ ?_;intros
 (try dsimp only[mrw,mfr]);rw[hj]
 refine GX.o (cl (enter_spec t p k v j _ rfl g i.a hg hv) fun s=>?_);obtain⟨bl2,vb2,mb2⟩:=s;dsimp only[newC,newF];refine w_ ?_;intros;refine drawn1 (RowR p 159 _) (fun j=>!(List.contains [] j)) [(0,true),(1,true),(2,true),(3,true),(4,true),(5,true),(6,true),(7,true),(8,true),(9,true),(10,true),(11,true)] rfl (by kernel_rfl) (by kernel_rfl) sA ?_;intro wd F hW hR;refine u_ ?_;intros
 (try dsimp only[mrw,mfr]);rw[hj]
 refine u_ ?_;intros;refine unpin (RowR p 159 _) ?_;refine u_ ?_;intros;refine w_ ?_;intros;refine nmS 31 ?_;rintro aT cT rfl rfl;refine nmP 3 ?_;rintro b3 rfl;refine sln aT fun _ _ _=>?_;refine GX.loop (σ:=Nat×(Int->Int)×(Int->Option Value)) (fun s=>[(0,.pointer (some ⟨p,0,none⟩)),(3,.pointer (some ⟨b3,0,none⟩)),(4,.pointer (some ⟨bl2,0,none⟩)),(31,.slice aT g.takes.length cT),(32,.int .i64 (g.takes.length:Int)),(33,.int .i64 (s.1:Int))]) (fun _=>[]) (fun s=>[RowR p 159 (mrw t k v),GX.Own 161 Ty.ptr v.af v.cf (l++[some ⟨x.bl,0,none⟩]),RowR x.bl 255 (mfr x f),GX.Own 3 Ty.int (some ⟨x.vb,0,none⟩) x.n f.vars,MapR x.mb x.mp,RowR k.tp 248 (tbl c),tA c,tB c,tC c,RowR bl2 255 [.int .i64 (j:Int),.int .i64 0,.slice (some ⟨vb2,0,none⟩) g.vars.length g.vars.length,.int .i64 i.a,.map (some mb2)],GX.Own 3 Ty.int (some ⟨vb2,0,none⟩) g.vars.length (List.replicate g.vars.length 0),MapR mb2 s.2.2])
  (fun s=>s.1<=g.takes.length/\RegsAt {x with mp:=s.2.2} {f with regs:=s.2.1}/\takeR (glob t) T.B f (g.takes.drop s.1) s.2.1=takeR (glob t) T.B f g.takes (fun _=>0)) (fun s=>g.takes.length-s.1) (0,(fun _=>0),fun _=>none) ⟨rfl,rfl,rfl,rfl,rfl,rfl,trivial⟩ ⟨Nat.zero_le _,fun _=>rfl,by rw[List.drop_zero]⟩ (fun s hs=>?_)
 obtain⟨n,m',mp⟩:=s;obtain⟨hn',hr1,he⟩:=hs;dsimp only at hn' hr1 he ⊢;rw[hm] at he;by_cases hlt:n<g.takes.length
 ·obtain⟨d,hd⟩:=GX.get_lt hlt;rw[takeR_drop hd] at he;by_cases hh:hasB T.B (reg (glob t) f d)=true
  ·rw[if_pos hh] at he;have hz:¬ reg (glob t) f d=0:=fun h0=>by rw[h0,hasB0] at hh;cases hh
   have e1:regV T (glob t) f d=reg (glob t) f d:=if_pos hh;refine w_ ?_;intros;refine GX.o (cl (top_spec t p k v l _ hn hb) fun _=>?_);refine w_ ?_;intros;refine GX.o (cl (region_spec t p k v x f d c T hT hr) fun _=>?_);rw[e1];refine w_ ?_;intros;exact again (n+1,updI m' d (reg (glob t) f d),RX.upd mp d (.int .i64 (reg (glob t) f d))) ⟨rfl,rfl,rfl,rfl,rfl,rfl,trivial⟩ ⟨by dsimp only;omega,regsAt_upd hr1 d _,he.trans hm.symm⟩ (by dsimp only;omega)
  ·rw[if_neg hh] at he;exact absurd he (by simp)
 ·obtain rfl:n=g.takes.length:=by omega
  rw[List.drop_length] at he;obtain rfl:m'=m:=by simpa[takeR] using he
  have hel:(i.args.map (lkv f.vars)).length=i.args.length:=List.length_map _;have hel2:(List.replicate g.vars.length (0:Int)).length=g.vars.length:=List.length_replicate;have hel3:(i.args.map (lkv f.vars)).length<=(List.replicate g.vars.length (0:Int)).length:=by omega
  have hdd:(i.args.map (lkv f.vars))++(List.replicate g.vars.length (0:Int)).drop (i.args.map (lkv f.vars)).length=argsV f i g.vars.length:=by rw[hel];rfl
  refine w_ ?_;intros;refine drawn1 (RowR bl2 255 _) (fun j=>!(List.contains [9] j)) [(0,true),(1,true),(2,true),(3,true),(4,true),(5,true),(6,true),(7,true),(8,false),(9,false)] rfl (by kernel_rfl) (by kernel_rfl) sA ?_;intro wd F hW hR;refine u_ ?_;intros;refine unpin (RowR bl2 255 _) ?_;refine nmS 58 ?_;rintro aA cA rfl rfl;refine GX.gow ?_;refine (cl (each_spec t p k v l x f aA cA i.args hn hb hl hargs (by omega)) fun s=>?_);obtain⟨a4,c4⟩:=s;dsimp only;refine u_ ?_;intros;rw[hdd];refine w_ ?_;intros;refine GX.o (cl (push_spec t p k v (l++[some ⟨x.bl,0,none⟩]) ⟨bl2,vb2,g.vars.length,mb2,mp⟩ ⟨(j:Int),0,argsV f i g.vars.length,i.a,m'⟩ j g hg rfl (by rw[hn];simp) (by simp;omega) hbd hol) fun s=>?_);obtain⟨a5,c5⟩:=s;dsimp only;refine w_ ?_;intros;rw[show (l++[some (⟨x.bl,0,none⟩:Addr)]).length+1=l.length+2 by simp];exact en0 ⟨((a5,c5),(bl2,vb2,mb2),mp),hr1⟩
theorem ret_last (t:RTg)(p:Nat)(k:MK)(v:MV)(x:FrC)(f:Fr)(i:Ins)(cs:List Value)(j:Nat)(g:Unt)(hg:t.units[j]?=some g)(hj:f.u=j)(hn:v.nf=0+1)(hl:f.vars.length=x.n)(hi:i.a=-1\/Vok f i.a)(hbd:-1000000000<=v.bound/\v.bound<=1000000000)(hol:g.owns.length<=1000000000):
  Does Tryz.prog 142 [.pointer (some ⟨p,0,none⟩),.agg cs.toArray] [Ag tyIns cs i,Sl tyUnt k.aU k.cU t.units] [RowR p 159 (mrw t k v),GX.Own 161 Ty.ptr v.af v.cf ([]++[some ⟨x.bl,0,none⟩]),RowR x.bl 255 (mfr x f),GX.Own 3 Ty.int (some ⟨x.vb,0,none⟩) x.n f.vars] (fun _:Unit=>.tuple #[]) (fun _=>[]) (fun _=>[RowR p 159 (mrw t k ({ v with nf:=0,bound:=v.bound-g.owns.length,en:=1,code:=0}:MV)),GX.Own 161 Ty.ptr v.af v.cf []]):=by
 refine enter Tryz.func142 rfl Tryz.ntmps142 rfl fun _=>?_;obtain⟨ai,ni,ci,af,nf,cf,bd,en,code,ao,no,co,st,sl⟩:=v;dsimp only at *;subst hn;have hll:([]:List (Option Addr)).length=0:=by simp
 have htk:(([]:List (Option Addr))++[some (⟨x.bl,0,none⟩:Addr)]).take 0=[]:=by rw[<- hll];exact List.take_left
 refine GX.opn af fun hc _ ha=>?_;have hcc:0<=cf:=by simp at hc;omega
 obtain⟨h9,_⟩|⟨q,rfl⟩:=ha
 ·simp at h9
 refine w_ ?_;intros;refine GX.o (cl (top_spec t p k (⟨ai,ni,ci,some ⟨q,0,none⟩,0+1,cf,bd,en,code,ao,no,co,st,sl⟩:MV) [] _ rfl (by simp)) fun _=>?_)
 try dsimp only
 by_cases hz0:0<=i.a
 ·have va : Vok f i.a := by rcases hi with h5|h5
                            ·omega
                            ·exact h5
  refine w_ ?_;intros;refine GX.o (cl (vI_spec t p k (⟨ai,ni,ci,some ⟨q,0,none⟩,0+1,cf,bd,en,code,ao,no,co,st,sl⟩:MV) [] x f i.a rfl (by simp) hl va) fun _=>?_)
  try dsimp only
  refine w_ ?_;intros;refine drawn1 (RowR p 159 _) (fun j=>!(List.contains [14] j)) [(0,true),(1,true),(2,true),(3,true),(4,true),(5,true),(6,true),(7,true),(8,true),(9,true),(10,true),(11,true),(12,true),(13,true),(14,false)] rfl (by kernel_rfl) (by kernel_rfl) sA ?_;intro wd F hW hR;refine u_ ?_;intros
  try dsimp only
  try rw[show ((0+1:Nat):Int)-1=((0:Nat):Int) by omega]
  refine GX.tkr ?_;refine GX.roh (j:=0) ?_;refine unpin (RowR p 159 _) ?_;refine u_ ?_;intros;refine GX.ownTake (some ⟨q,0,none⟩) 0 ?_;rw[htk];refine w_ ?_;intros;refine drawn2 (RowR p 159 _) (RowR x.bl 255 _) (fun j=>!(List.contains [20] j)) [(0,true),(1,true),(2,true),(3,true),(4,true),(5,true),(6,true),(7,true),(8,true),(9,true),(10,true),(11,true),(12,true),(13,true),(14,true),(15,true),(16,true),(17,true),(18,true),(19,true),(20,false)] rfl (by kernel_rfl) (by kernel_rfl) sA ?_;intro wd F hW hR;refine u_ ?_;intros;refine unpin (RowR p 159 _) ?_;refine unpin (RowR x.bl 255 _) ?_;refine u_ ?_;intros;refine w_ ?_;intros;refine GX.o (cl (ends_spec t p k (⟨ai,ni,ci,some ⟨q,0,none⟩,0,cf,bd-g.owns.length,en,code,ao,no,co,st,sl⟩:MV) 1 0) fun _=>?_)
  try dsimp only
  refine w_ ?_;intros;exact en0 ()
 ·skip
  refine w_ ?_;intros;refine drawn1 (RowR p 159 _) (fun j=>!(List.contains [14] j)) [(0,true),(1,true),(2,true),(3,true),(4,true),(5,true),(6,true),(7,true),(8,true),(9,true),(10,true),(11,true),(12,true),(13,true),(14,false)] rfl (by kernel_rfl) (by kernel_rfl) sA ?_;intro wd F hW hR;refine u_ ?_;intros
  try dsimp only
  try rw[show ((0+1:Nat):Int)-1=((0:Nat):Int) by omega]
  refine GX.tkr ?_;refine GX.roh (j:=0) ?_;refine unpin (RowR p 159 _) ?_;refine u_ ?_;intros;refine GX.ownTake (some ⟨q,0,none⟩) 0 ?_;rw[htk];refine w_ ?_;intros;refine drawn2 (RowR p 159 _) (RowR x.bl 255 _) (fun j=>!(List.contains [20] j)) [(0,true),(1,true),(2,true),(3,true),(4,true),(5,true),(6,true),(7,true),(8,true),(9,true),(10,true),(11,true),(12,true),(13,true),(14,true),(15,true),(16,true),(17,true),(18,true),(19,true),(20,false)] rfl (by kernel_rfl) (by kernel_rfl) sA ?_;intro wd F hW hR;refine u_ ?_;intros;refine unpin (RowR p 159 _) ?_;refine unpin (RowR x.bl 255 _) ?_;refine u_ ?_;intros;refine w_ ?_;intros;refine GX.o (cl (ends_spec t p k (⟨ai,ni,ci,some ⟨q,0,none⟩,0,cf,bd-g.owns.length,en,code,ao,no,co,st,sl⟩:MV) 1 0) fun _=>?_)
  try dsimp only
  refine w_ ?_;intros;exact en0 ()
theorem ret_more (t:RTg)(p:Nat)(k:MK)(v:MV)(l':List (Option Addr))(y:FrC)(h:Fr)(x:FrC)(f:Fr)(i:Ins)(cs:List Value)(j:Nat)(g:Unt)(hg:t.units[j]?=some g)(hj:f.u=j)(hn:v.nf=(l'.length+1)+1)(hb:l'.length<=900)(hlh:h.vars.length=y.n)(hin:f.into=-1\/Vok h f.into)(hl:f.vars.length=x.n)(hi:i.a=-1\/Vok f i.a)(hbd:-1000000000<=v.bound/\v.bound<=1000000000)(hol:g.owns.length<=1000000000):
  Does Tryz.prog 142 [.pointer (some ⟨p,0,none⟩),.agg cs.toArray] [Ag tyIns cs i,Sl tyUnt k.aU k.cU t.units] [RowR p 159 (mrw t k v),GX.Own 161 Ty.ptr v.af v.cf ((l'++[some ⟨y.bl,0,none⟩])++[some ⟨x.bl,0,none⟩]),RowR x.bl 255 (mfr x f),GX.Own 3 Ty.int (some ⟨x.vb,0,none⟩) x.n f.vars,RowR y.bl 255 (mfr y h),GX.Own 3 Ty.int (some ⟨y.vb,0,none⟩) y.n h.vars] (fun _:Unit=>.tuple #[]) (fun _=>[]) (fun _=>[RowR p 159 (mrw t k ({ v with nf:=l'.length+1,bound:=v.bound-g.owns.length}:MV)),GX.Own 161 Ty.ptr v.af v.cf (l'++[some ⟨y.bl,0,none⟩]),RowR y.bl 255 (mfr y h),GX.Own 3 Ty.int (some ⟨y.vb,0,none⟩) y.n (if 0<=f.into then setv h.vars f.into (if 0<=i.a then lkv f.vars i.a else 0) else h.vars)]):=by
 refine enter Tryz.func142 rfl Tryz.ntmps142 rfl fun _=>?_;obtain⟨ai,ni,ci,af,nf,cf,bd,en,code,ao,no,co,st,sl⟩:=v;dsimp only at *;subst hn;have hll:((l'++[some ⟨y.bl,0,none⟩]):List (Option Addr)).length=(l'.length+1):=by simp
 have htk:(((l'++[some ⟨y.bl,0,none⟩]):List (Option Addr))++[some (⟨x.bl,0,none⟩:Addr)]).take (l'.length+1)=(l'++[some ⟨y.bl,0,none⟩]):=by rw[<- hll];exact List.take_left
 have hvi:0<=f.into->Vok h f.into:=fun hz=>by
  rcases hin with h5|h5
  ·omega
  ·exact h5
 refine GX.opn af fun hc _ ha=>?_;have hcc:(l'.length+1)<=cf:=by simp at hc;omega
 obtain⟨h9,_⟩|⟨q,rfl⟩:=ha
 ·simp at h9
 refine w_ ?_;intros;refine GX.o (cl (top_spec t p k (⟨ai,ni,ci,some ⟨q,0,none⟩,(l'.length+1)+1,cf,bd,en,code,ao,no,co,st,sl⟩:MV) (l'++[some ⟨y.bl,0,none⟩]) _ (by simp) (by simp;omega)) fun _=>?_)
 try dsimp only
 by_cases hz0:0<=i.a
 ·have va : Vok f i.a := by rcases hi with h5|h5
                            ·omega
                            ·exact h5
  rw[if_pos hz0];refine w_ ?_;intros;refine GX.o (cl (vI_spec t p k (⟨ai,ni,ci,some ⟨q,0,none⟩,(l'.length+1)+1,cf,bd,en,code,ao,no,co,st,sl⟩:MV) (l'++[some ⟨y.bl,0,none⟩]) x f i.a (by simp) (by simp;omega) hl va) fun _=>?_)
  try dsimp only
  refine w_ ?_;intros;refine drawn1 (RowR p 159 _) (fun j=>!(List.contains [14] j)) [(0,true),(1,true),(2,true),(3,true),(4,true),(5,true),(6,true),(7,true),(8,true),(9,true),(10,true),(11,true),(12,true),(13,true),(14,false)] rfl (by kernel_rfl) (by kernel_rfl) sA ?_;intro wd F hW hR;refine u_ ?_;intros
  try dsimp only
  try rw[show (((l'.length+1)+1:Nat):Int)-1=(((l'.length+1):Nat):Int) by omega]
  refine GX.tkr ?_;refine GX.roh (j:=(l'.length+1)) ?_;refine unpin (RowR p 159 _) ?_;refine u_ ?_;intros;refine GX.ownTake (some ⟨q,0,none⟩) (l'.length+1) ?_;rw[htk];refine w_ ?_;intros;refine drawn2 (RowR p 159 _) (RowR x.bl 255 _) (fun j=>!(List.contains [20] j)) [(0,true),(1,true),(2,true),(3,true),(4,true),(5,true),(6,true),(7,true),(8,true),(9,true),(10,true),(11,true),(12,true),(13,true),(14,true),(15,true),(16,true),(17,true),(18,true),(19,true),(20,false)] rfl (by kernel_rfl) (by kernel_rfl) sA ?_;intro wd F hW hR;refine u_ ?_;intros;refine unpin (RowR p 159 _) ?_;refine unpin (RowR x.bl 255 _) ?_;refine u_ ?_;intros;refine w_ ?_;intros;by_cases hz:0<=f.into
  ·rw[if_pos hz];refine w_ ?_;intros;refine GX.o (cl (setI_spec t p k (⟨ai,ni,ci,some ⟨q,0,none⟩,(l'.length+1),cf,bd-g.owns.length,en,code,ao,no,co,st,sl⟩:MV) l' y h f.into (lkv f.vars i.a) rfl (by omega) hlh (hvi hz)) fun _=>?_);refine w_ ?_;intros;exact en0 ()
  ·rw[if_neg hz];refine w_ ?_;intros;exact en0 ()
 ·rw[if_neg hz0];refine w_ ?_;intros;refine drawn1 (RowR p 159 _) (fun j=>!(List.contains [14] j)) [(0,true),(1,true),(2,true),(3,true),(4,true),(5,true),(6,true),(7,true),(8,true),(9,true),(10,true),(11,true),(12,true),(13,true),(14,false)] rfl (by kernel_rfl) (by kernel_rfl) sA ?_;intro wd F hW hR;refine u_ ?_;intros
  try dsimp only
  try rw[show (((l'.length+1)+1:Nat):Int)-1=(((l'.length+1):Nat):Int) by omega]
  refine GX.tkr ?_;refine GX.roh (j:=(l'.length+1)) ?_;refine unpin (RowR p 159 _) ?_;refine u_ ?_;intros;refine GX.ownTake (some ⟨q,0,none⟩) (l'.length+1) ?_;rw[htk];refine w_ ?_;intros;refine drawn2 (RowR p 159 _) (RowR x.bl 255 _) (fun j=>!(List.contains [20] j)) [(0,true),(1,true),(2,true),(3,true),(4,true),(5,true),(6,true),(7,true),(8,true),(9,true),(10,true),(11,true),(12,true),(13,true),(14,true),(15,true),(16,true),(17,true),(18,true),(19,true),(20,false)] rfl (by kernel_rfl) (by kernel_rfl) sA ?_;intro wd F hW hR;refine u_ ?_;intros;refine unpin (RowR p 159 _) ?_;refine unpin (RowR x.bl 255 _) ?_;refine u_ ?_;intros;refine w_ ?_;intros;by_cases hz:0<=f.into
  ·rw[if_pos hz];refine w_ ?_;intros;refine GX.o (cl (setI_spec t p k (⟨ai,ni,ci,some ⟨q,0,none⟩,(l'.length+1),cf,bd-g.owns.length,en,code,ao,no,co,st,sl⟩:MV) l' y h f.into 0 rfl (by omega) hlh (hvi hz)) fun _=>?_);refine w_ ?_;intros;exact en0 ()
  ·rw[if_neg hz];refine w_ ?_;intros;exact en0 ()
def fnV (n:Nat):Value:=.func (.func n) #[] #[]
def opsF:Int->Option Value:=RX.upd (RX.upd (RX.upd (RX.upd (RX.upd (RX.upd (RX.upd (RX.upd (RX.upd (RX.upd (RX.upd (RX.upd (RX.upd (RX.upd (RX.upd (RX.upd (RX.upd (RX.upd (RX.upd (RX.upd (RX.upd (RX.upd (fun _=>none) 1 (fnV 125)) 2 (fnV 126)) 3 (fnV 127)) 4 (fnV 128)) 5 (fnV 129)) 6 (fnV 130)) 7 (fnV 131)) 8 (fnV 132)) 9 (fnV 133)) 10 (fnV 134)) 11 (fnV 135)) 12 (fnV 136)) 13 (fnV 137)) 14 (fnV 138)) 15 (fnV 139)) 16 (fnV 140)) 17 (fnV 141)) 18 (fnV 142)) 19 (fnV 143)) 20 (fnV 144)) 21 (fnV 145)) 22 (fnV 146)
theorem steps_spec:Does Tryz.prog 60 [] [] [] (fun b:Nat=>.map (some b)) (fun _=>[]) (fun b=>[MapR b opsF]):=by
 refine enter Tryz.func60 rfl Tryz.ntmps60 rfl fun _=>?_;refine w_ ?_;intros;refine GX.o (muI ?_);refine GX.o (muI ?_);refine GX.o (muI ?_);refine GX.o (muI ?_);refine GX.o (muI ?_);refine GX.o (muI ?_);refine GX.o (muI ?_);refine GX.o (muI ?_);refine GX.o (muI ?_);refine GX.o (muI ?_);refine GX.o (muI ?_);refine GX.o (muI ?_);refine GX.o (muI ?_);refine GX.o (muI ?_);refine GX.o (muI ?_);refine GX.o (muI ?_);refine GX.o (muI ?_);refine GX.o (muI ?_);refine GX.o (muI ?_);refine GX.o (muI ?_);refine GX.o (muI ?_);refine GX.o (muI ?_);refine w_ ?_;intros;refine nmM 0 ?_;rintro bl rfl;exact rt1 bl rfl (h2:=by unfold opsF fnV;exact sA)
def adrs:List FrC->List (Option Addr)
 |[]=>[]
 |x::xs=>adrs xs++[some ⟨x.bl,0,none⟩]
theorem adrs_len:∀xs:List FrC,(adrs xs).length=xs.length
 |[]=>rfl
 |x::xs=>by show (adrs xs++_).length=_;rw[List.length_append,adrs_len xs];rfl
def frs:List FrC->List Fr->List Res
 |x::xs,f::fs=>[RowR x.bl 255 (mfr x f),GX.Own 3 Ty.int (some ⟨x.vb,0,none⟩) x.n f.vars,MapR x.mb x.mp]++frs xs fs
 |_,_=>[]
def FrsAt:List FrC->List Fr->Prop
 |[],[]=>True
 |x::xs,f::fs=>(f.vars.length=x.n/\RegsAt x f)/\FrsAt xs fs
 |_,_=>False
theorem FrsAt.len:∀{xs:List FrC} {fs:List Fr},FrsAt xs fs->xs.length=fs.length
 |[],[],_=>rfl
 |x::xs,f::fs,h=>by rw[List.length_cons,List.length_cons,FrsAt.len h.2]
structure PS where
 v:MV
 xs:List FrC
 c:TabC
structure MInv (t:RTg)(S:PS)(M:Ms):Prop where
 tab:TInv S.c M.tb
 nf:S.v.nf=S.xs.length
 fr:FrsAt S.xs M.fs
 en:S.v.en=M.en
 code:S.v.code=M.code
 steps:S.v.steps=M.steps
 slack:S.v.slack=M.slack
 no:S.v.no=M.out.length
 ni:S.v.ni=M.inp.length
 bd:S.v.bound=bound t M.fs
variable {t:RTg} {v:MV} {x:FrC} {xs:List FrC} {c:TabC} {f:Fr} {r:List Fr}
theorem MInv.keep {v':MV}{x':FrC}{c':TabC}{M M':Ms}{f':Fr}(h:MInv t ⟨v,x::xs,c⟩ M)(hM:M.fs=f::r)(hM':M'.fs=f'::r)(hu:f'.u=f.u)(hv:f'.vars.length=f.vars.length)(hx:x'.n=x.n)(hr:RegsAt x' f')(hT:TInv c' M'.tb)(hnf:v'.nf=v.nf)(hbd:v'.bound=v.bound)(hen:v'.en=M'.en)(hcode:v'.code=M'.code)(hsteps:v'.steps=M'.steps)(hslack:v'.slack=M'.slack)(hno:v'.no=M'.out.length)(hni:v'.ni=M'.inp.length):MInv t ⟨v',x'::xs,c'⟩ M':=by
 have h1:=h.fr;rw[hM] at h1;refine⟨hT,hnf.trans h.nf,?_,hen,hcode,hsteps,hslack,hno,hni,?_⟩
 ·rw[hM'];exact⟨⟨hv.trans (h1.1.1.trans hx.symm),hr⟩,h1.2⟩
 ·show v'.bound=_;have:=h.bd;rw[hM] at this;rw[hbd,hM'];have this:v.bound=bound t (f::r):=this;rw[this];unfold bound;rw[List.map_cons,List.map_cons,show ownsN t f'=ownsN t f by unfold ownsN;rw[hu]]
theorem toMCH {p:Nat}{k:MK}{O L:List Int}:Turn [RowR p 159 (mrw t k v),GX.Own 161 Ty.ptr v.af v.cf ((adrs xs)++[some ⟨x.bl,0,none⟩]),RowR x.bl 255 (mfr x f),GX.Own 3 Ty.int (some ⟨x.vb,0,none⟩) x.n f.vars,MapR x.mb x.mp,Star (frs xs r),RowR k.tp 248 (tbl c),tA c,tB c,tC c,GX.Own 3 Ty.int v.ao v.co O,GX.Own 3 Ty.int (some ⟨k.gb,0,none⟩) t.globals.length L,MapR k.om opsF] [RowR p 159 (mrw t k v),GX.Own 161 Ty.ptr v.af v.cf (adrs (x::xs)),Star (frs (x::xs) (f::r)),RowR k.tp 248 (tbl c),tA c,tB c,tC c,GX.Own 3 Ty.int v.ao v.co O,GX.Own 3 Ty.int (some ⟨k.gb,0,none⟩) t.globals.length L,MapR k.om opsF]:=by
 rw[show frs (x::xs) (f::r)=[RowR x.bl 255 (mfr x f),GX.Own 3 Ty.int (some ⟨x.vb,0,none⟩) x.n f.vars,MapR x.mb x.mp]++frs xs r from rfl,show adrs (x::xs)=adrs xs++[some ⟨x.bl,0,none⟩] from rfl];exact (Turn.sel (hp2:=[RowR x.bl 255 (mfr x f),GX.Own 3 Ty.int (some ⟨x.vb,0,none⟩) x.n f.vars,MapR x.mb x.mp]++(Star (frs xs r)::[RowR p 159 (mrw t k v),GX.Own 161 Ty.ptr v.af v.cf (adrs xs++[some ⟨x.bl,0,none⟩]),RowR k.tp 248 (tbl c),tA c,tB c,tC c,GX.Own 3 Ty.int v.ao v.co O,GX.Own 3 Ty.int (some ⟨k.gb,0,none⟩) t.globals.length L,MapR k.om opsF])) sA).trans (Turn.starI.trans (Turn.sel sA))
abbrev OpOk (t:RTg)(p:Nat)(k:MK)(cs:List Value)(i:Ins)(v:MV)(x:FrC)(xs:List FrC)(f:Fr)(r:List Fr)(c:TabC)(M M':Ms)(fid:FuncId):Prop:=
 Does Tryz.prog fid [.pointer (some ⟨p,0,none⟩),.agg cs.toArray] [Ag tyIns cs i,Sl Ty.int k.aL k.cL (glob t),Sl tyLayout k.aC k.cC t.classes,Sl tyUnt k.aU k.cU t.units,Sl Ty.int v.ai v.ci M.inp] [RowR p 159 (mrw t k v),GX.Own 161 Ty.ptr v.af v.cf ((adrs xs)++[some ⟨x.bl,0,none⟩]),RowR x.bl 255 (mfr x f),GX.Own 3 Ty.int (some ⟨x.vb,0,none⟩) x.n f.vars,MapR x.mb x.mp,Star (frs xs r),RowR k.tp 248 (tbl c),tA c,tB c,tC c,GX.Own 3 Ty.int v.ao v.co M.out,GX.Own 3 Ty.int (some ⟨k.gb,0,none⟩) t.globals.length M.gl,MapR k.om opsF] (fun _:{S:PS // MInv t S M'}=>.tuple #[]) (fun s=>[Sl Ty.int s.1.v.ai s.1.v.ci M'.inp])
  (fun s=>[RowR p 159 (mrw t k s.1.v),GX.Own 161 Ty.ptr s.1.v.af s.1.v.cf (adrs s.1.xs),Star (frs s.1.xs M'.fs),RowR k.tp 248 (tbl s.1.c),tA s.1.c,tB s.1.c,tC s.1.c,GX.Own 3 Ty.int s.1.v.ao s.1.v.co M'.out,GX.Own 3 Ty.int (some ⟨k.gb,0,none⟩) t.globals.length M'.gl,MapR k.om opsF])
theorem op_keep {p:Nat}{k:MK}{cs:List Value}{i:Ins}{M M':Ms}{fid:FuncId}{ps:List Pf}{hp rest:List Res}{σ:Type}{ps':σ->List Pf}{hp' rest':σ->List Res}
  (h:Does Tryz.prog fid [.pointer (some ⟨p,0,none⟩),.agg cs.toArray] ps hp (fun _:σ=>.tuple #[]) ps' hp') (v':σ->MV) (x':σ->FrC) (f':Fr) (c':σ->TabC) (I O L:List Int) (hI:∀s,MInv t ⟨v' s,x' s::xs,c' s⟩ M') (hfs:M'.fs=f'::r) (hi:M'.inp=I) (ho:M'.out=O) (hg:M'.gl=L)
  (hps:AllIn ps [Ag tyIns cs i,Sl Ty.int k.aL k.cL (glob t),Sl tyLayout k.aC k.cC t.classes,Sl tyUnt k.aU k.cU t.units,Sl Ty.int v.ai v.ci M.inp]:=by exact aA) (hsel:SelR hp [RowR p 159 (mrw t k v),GX.Own 161 Ty.ptr v.af v.cf ((adrs xs)++[some ⟨x.bl,0,none⟩]),RowR x.bl 255 (mfr x f),GX.Own 3 Ty.int (some ⟨x.vb,0,none⟩) x.n f.vars,MapR x.mb x.mp,Star (frs xs r),RowR k.tp 248 (tbl c),tA c,tB c,tC c,GX.Own 3 Ty.int v.ao v.co M.out,GX.Own 3 Ty.int (some ⟨k.gb,0,none⟩) t.globals.length M.gl,MapR k.om opsF] rest:=by exact sA)
  (h1:∀s,AllIn [Sl Ty.int (v' s).ai (v' s).ci I] (ps' s++[Ag tyIns cs i,Sl Ty.int k.aL k.cL (glob t),Sl tyLayout k.aC k.cC t.classes,Sl tyUnt k.aU k.cU t.units,Sl Ty.int v.ai v.ci M.inp]):=by intro _;exact aA)
  (h2:∀s,SelR [RowR p 159 (mrw t k (v' s)),GX.Own 161 Ty.ptr (v' s).af (v' s).cf ((adrs xs)++[some ⟨(x' s).bl,0,none⟩]),RowR (x' s).bl 255 (mfr (x' s) f'),GX.Own 3 Ty.int (some ⟨(x' s).vb,0,none⟩) (x' s).n f'.vars,MapR (x' s).mb (x' s).mp,Star (frs xs r),RowR k.tp 248 (tbl (c' s)),GX.Own 252 tyRegion (c' s).aR (c' s).cR (c' s).R,GX.Own 450 tyThing (c' s).aL (c' s).cL ((c' s).L.map thg),Owns 3 Ty.int ((c' s).L.map (fun x:Th=>x.2)),GX.Own 3 Ty.int (v' s).ao (v' s).co O,GX.Own 3 Ty.int (some ⟨k.gb,0,none⟩) t.globals.length L,MapR k.om opsF] (hp' s++rest) (rest' s):=by intro _;exact sA):OpOk t p k cs i v x xs f r c M M' fid:=by
 subst hi ho hg;exact Does.fitT h (fun s=>⟨⟨v' s,x' s::xs,c' s⟩,hI s⟩) hps hsel (fun _=>rfl) h1 (fun s=>by
  rw[hfs];exact (Turn.sel (h2 s)).trans toMCH)
section
variable {t:RTg} {p:Nat} {k:MK} {cs:List Value} {i:Ins} {v:MV} {x:FrC} {xs:List FrC} {f:Fr} {r:List Fr} {c:TabC} {M:Ms}
variable {u:Unt}
structure Pre (t:RTg)(v:MV)(x:FrC)(xs:List FrC)(f:Fr)(r:List Fr)(c:TabC)(M:Ms)(i:Ins)(u:Unt):Prop where
 hI:MInv t ⟨v,x::xs,c⟩ M
 fs:M.fs=f::r
 hi:InsV t u i
 hv:f.vars.length=u.vars.length
 deep:M.fs.length<=40
 gl:M.gl.length=t.globals.length
 hB:M.tb.B.length<=900000000
 hL:M.tb.L.length<=900000000
 hO:M.out.length<=900000000
 hA:i.args.length<=1000000
 into:f.into=-1\/∀h r',r=h::r'->Vok h f.into
theorem Pre.nf {u:Unt}(h:Pre t v x xs f r c M i u):v.nf=(adrs xs).length+1:=by rw[adrs_len];exact h.hI.nf
theorem Pre.nb (h:Pre t v x xs f r c M i u):(adrs xs).length<=900:=by
 have h1:=h.hI.fr.len;have h2:=h.deep;rw[adrs_len];simp at h1;omega
theorem Pre.hl (h:Pre t v x xs f r c M i u):f.vars.length=x.n/\RegsAt x f:=by
 have h1:=h.hI.fr;rw[h.fs] at h1;exact h1.1
theorem Pre.va {u:Unt}(h:Pre t v x xs f r c M i u)(ho:1<=i.op/\i.op<=12\/i.op=14\/i.op=15\/i.op=17\/i.op=19\/i.op=20):Vok f i.a:=vok h.hv (h.hi.va ho)
theorem Pre.vb {u:Unt}(h:Pre t v x xs f r c M i u)(ho:3<=i.op/\i.op<=10\/i.op=12):Vok f i.b:=vok h.hv (h.hi.vb ho)
theorem Pre.vc {u:Unt}(h:Pre t v x xs f r c M i u)(ho:i.op=4\/i.op=8\/i.op=9):Vok f i.c:=vok h.hv (h.hi.vc ho)
theorem var_fs (h:M.fs=f::r)(n y:Int):(M.var f n y).fs={f with vars:=setv f.vars n y}::r:=by show _::M.fs.tail=_;rw[h];rfl
theorem Pre.var {u:Unt}(h:Pre t v x xs f r c M i u)(n y:Int):MInv t ⟨v,x::xs,c⟩ (M.var f n y):=
 h.hI.keep h.fs (var_fs h.fs n y) rfl (setv_len _ _ _) rfl h.hl.2 h.hI.tab rfl rfl h.hI.en h.hI.code h.hI.steps h.hI.slack h.hI.no h.hI.ni
theorem trapV_M (c:Int)(h1:v.en=M.en)(h2:v.code=M.code):(trapV v c).en=(M.trap c).en/\(trapV v c).code=(M.trap c).code:=by
 unfold trapV Ms.trap;split
 ·exact⟨h1,h2⟩
 ·split<;>exact⟨rfl,rfl⟩
theorem trapV_same (v:MV)(c:Int):(trapV v c).bound=v.bound/\(trapV v c).steps=v.steps/\(trapV v c).slack=v.slack/\(trapV v c).no=v.no/\(trapV v c).ni=v.ni/\(trapV v c).nf=v.nf/\((trapV v c).ai=v.ai/\(trapV v c).ci=v.ci/\(trapV v c).ao=v.ao/\(trapV v c).co=v.co):=by
 unfold trapV;split
 ·exact⟨rfl,rfl,rfl,rfl,rfl,rfl,rfl,rfl,rfl,rfl⟩
 ·split<;>exact⟨rfl,rfl,rfl,rfl,rfl,rfl,rfl,rfl,rfl,rfl⟩
theorem Pre.trap {u:Unt}(h:Pre t v x xs f r c M i u)(e:Int){T:Tb}{c':TabC}(hT:TInv c' T):MInv t ⟨trapV v e,x::xs,c'⟩ (({ M with tb:=T}:Ms).trap e):=by
 obtain⟨a1,a2,a3,a4,a5,a6,_⟩:=trapV_same v e
 obtain⟨b1,b2,b3,b4,b5,b6,b7⟩:=Ms.trap_fs ({ M with tb:=T}:Ms) e
 obtain⟨c1,c2⟩:=trapV_M (v:=v) (M:={M with tb:=T }) e h.hI.en h.hI.code;refine h.hI.keep h.fs (b1.trans h.fs) rfl rfl rfl h.hl.2 (by rw[b5];exact hT) a6 a1 c1 c2 ?_ ?_ ?_ ?_
 ·rw[a2,b6];exact h.hI.steps
 ·rw[a3,b7];exact h.hI.slack
 ·rw[a4,b4];exact h.hI.no
 ·rw[a5,b3];exact h.hI.ni
theorem op1 (h:Pre t v x xs f r c M i u)(ho:i.op=1):OpOk t p k cs i v x xs f r c M (M.go t (glob t) f i) 125:=by
 rw[go1 ho];exact op_keep (constant_spec t p k v (adrs xs) x f i cs h.nf (by have:=h.nb;omega) h.hl.1 (h.va (by omega))) (fun _=>v) (fun _=>x) _ (fun _=>c) M.inp M.out M.gl (fun _=>h.var _ _) (var_fs h.fs _ _) rfl rfl rfl
end
section
variable {t:RTg} {p:Nat} {k:MK} {cs:List Value} {i:Ins} {v:MV} {x:FrC} {xs:List FrC} {f:Fr} {r:List Fr} {c:TabC} {M:Ms}
variable {u:Unt} {q:Int×Int} {n:Int}
theorem trapV_cases (v:MV)(c:Int):c=0/\trapV v c=v/\(∀M:Ms,M.trap c=M)\/c≠0/\∃e d,trapV v c={v with en:=e,code:=d}/\∀M:Ms,M.trap c=M.ends e d:=by
 by_cases h0:c=0
 ·exact .inl ⟨h0,if_pos h0,fun M=>if_pos h0⟩
 refine .inr ⟨h0,?_⟩;by_cases h1:c=-1
 ·exact⟨4,0,by unfold trapV;rw[if_neg h0,if_pos h1],fun M=>by unfold Ms.trap;rw[if_neg h0,if_pos h1]⟩
 ·exact⟨2,c,by unfold trapV;rw[if_neg h0,if_neg h1],fun M=>by unfold Ms.trap;rw[if_neg h0,if_neg h1]⟩
theorem Pre.ends {u:Unt}(h:Pre t v x xs f r c M i u){T:Tb}{c':TabC}(hT:TInv c' T)(e d:Int):MInv t ⟨{ v with en:=e,code:=d },x::xs,c'⟩ (({ M with tb:=T}:Ms).ends e d):=
 h.hI.keep h.fs h.fs rfl rfl rfl h.hl.2 hT rfl rfl rfl rfl h.hI.steps h.hI.slack h.hI.no h.hI.ni
theorem Pre.tab (h:Pre t v x xs f r c M i u){T:Tb}{c':TabC}(hT:TInv c' T):MInv t ⟨v,x::xs,c'⟩ {M with tb:=T}:=
 h.hI.keep h.fs h.fs rfl rfl rfl h.hl.2 hT rfl rfl h.hI.en h.hI.code h.hI.steps h.hI.slack h.hI.no h.hI.ni
theorem got_yes (hq:q.2=0)(n:Int):M.got f n q=M.var f n q.1:=if_pos hq
theorem got_no (hq:q.2≠0)(n:Int):M.got f n q=M.trap q.2:=if_neg hq
theorem lies_yes {G:List Int}{a cl:Int}(hh:hasB M.tb.B (reg G f cl)=true):M.lies G f a cl n={M.var f a ((M.tb.L.length+1:Nat):Int) with tb:=M.tb.add (reg G f cl) n}:=if_pos hh
theorem lies_no {G:List Int}{a cl:Int}(hh:¬ hasB M.tb.B (reg G f cl)=true):M.lies G f a cl n=M.ends 4 0:=if_neg hh
theorem add_no_ {T:Tb}{r:Int}(hh:¬ hasB T.B r=true):T.add r n=T:=if_neg hh
theorem op2 (h:Pre t v x xs f r c M i u)(ho:i.op=2):OpOk t p k cs i v x xs f r c M (M.go t (glob t) f i) 126:=by
 rw[go2 ho];exact op_keep (null_spec t p k v (adrs xs) x f i cs h.nf (by have:=h.nb;omega) h.hl.1 (h.va (by omega))) (fun _=>v) (fun _=>x) _ (fun _=>c) M.inp M.out M.gl (fun _=>h.var _ _) (var_fs h.fs _ _) rfl rfl rfl
theorem op3 (h:Pre t v x xs f r c M i u)(ho:i.op=3):OpOk t p k cs i v x xs f r c M (M.go t (glob t) f i) 127:=by
 rw[go3 ho];exact op_keep (copies_spec t p k v (adrs xs) x f i cs h.nf (by have:=h.nb;omega) h.hl.1 (h.va (by omega)) (h.vb (by omega))) (fun _=>v) (fun _=>x) _ (fun _=>c) M.inp M.out M.gl (fun _=>h.var _ _) (var_fs h.fs _ _) rfl rfl rfl
theorem op5 (h:Pre t v x xs f r c M i u)(ho:i.op=5):OpOk t p k cs i v x xs f r c M (M.go t (glob t) f i) 129:=by
 rw[go5 ho];exact op_keep (one_spec t p k v (adrs xs) x f i cs h.nf (by have:=h.nb;omega) h.hl.1 (h.va (by omega)) (h.vb (by omega))) (fun _=>v) (fun _=>x) _ (fun _=>c) M.inp M.out M.gl (fun _=>h.var _ _) (var_fs h.fs _ _) rfl rfl rfl
theorem op4 (h:Pre t v x xs f r c M i u)(ho:i.op=4):OpOk t p k cs i v x xs f r c M (M.go t (glob t) f i) 128:=by
 rw[go4 ho];have hc:=two30_spec t p k v (adrs xs) x f i cs h.nf (by have:=h.nb;omega) h.hl.1 (h.va (by omega)) (h.vb (by omega)) (h.vc (by omega));generalize bin i.n (lkv f.vars i.b) (lkv f.vars i.c)=q at hc ⊢;obtain⟨h0,e1,_⟩|⟨h0,e,d,e1,e2⟩:=trapV_cases v q.2
 ·rw[e1,if_pos h0] at hc;rw[got_yes h0];exact op_keep hc (fun _=>v) (fun _=>x) _ (fun _=>c) M.inp M.out M.gl (fun _=>h.var _ _) (var_fs h.fs _ _) rfl rfl rfl
 ·rw[e1,if_neg h0] at hc;rw[got_no h0,e2]
  exact op_keep hc (fun _=>{v with en:=e,code:=d }) (fun _=>x) f (fun _=>c) M.inp M.out M.gl (fun _=>h.ends h.hI.tab e d) h.fs rfl rfl rfl
theorem op6 (h:Pre t v x xs f r c M i u)(ho:i.op=6):OpOk t p k cs i v x xs f r c M (M.go t (glob t) f i) 130:=by
 rw[go6 ho];have hc:=loads30_spec t p k v (adrs xs) x f i cs c M.tb h.hI.tab (by have:=h.hL;omega) h.nf (by have:=h.nb;omega) h.hl.1 (h.va (by omega)) (h.vb (by omega));generalize loadP M.tb.B M.tb.L (lkv f.vars i.b) i.c=q at hc ⊢;obtain⟨h0,e1,_⟩|⟨h0,e,d,e1,e2⟩:=trapV_cases v q.2
 ·rw[e1,if_pos h0] at hc;rw[got_yes h0];exact op_keep hc (fun _=>v) (fun _=>x) _ (fun _=>c) M.inp M.out M.gl (fun _=>h.var _ _) (var_fs h.fs _ _) rfl rfl rfl
 ·rw[e1,if_neg h0] at hc;rw[got_no h0,e2]
  exact op_keep hc (fun _=>{v with en:=e,code:=d }) (fun _=>x) f (fun _=>c) M.inp M.out M.gl (fun _=>h.ends h.hI.tab e d) h.fs rfl rfl rfl
theorem op8 (h:Pre t v x xs f r c M i u)(ho:i.op=8):OpOk t p k cs i v x xs f r c M (M.go t (glob t) f i) 132:=by
 rw[go8 ho];have hc:=item_spec t p k v (adrs xs) x f i cs c M.tb h.hI.tab (by have:=h.hL;omega) h.nf (by have:=h.nb;omega) h.hl.1 (h.va (by omega)) (h.vb (by omega)) (h.vc (by omega));generalize loadP M.tb.B M.tb.L (lkv f.vars i.b) (lkv f.vars i.c)=q at hc ⊢;obtain⟨h0,e1,_⟩|⟨h0,e,d,e1,e2⟩:=trapV_cases v q.2
 ·rw[e1,if_pos h0] at hc;rw[got_yes h0];exact op_keep hc (fun _=>v) (fun _=>x) _ (fun _=>c) M.inp M.out M.gl (fun _=>h.var _ _) (var_fs h.fs _ _) rfl rfl rfl
 ·rw[e1,if_neg h0] at hc;rw[got_no h0,e2]
  exact op_keep hc (fun _=>{v with en:=e,code:=d }) (fun _=>x) f (fun _=>c) M.inp M.out M.gl (fun _=>h.ends h.hI.tab e d) h.fs rfl rfl rfl
theorem op10 (h:Pre t v x xs f r c M i u)(ho:i.op=10):OpOk t p k cs i v x xs f r c M (M.go t (glob t) f i) 134:=by
 rw[go10 ho];have hc:=length30_spec t p k v (adrs xs) x f i cs c M.tb h.hI.tab (by have:=h.hL;omega) h.nf (by have:=h.nb;omega) h.hl.1 (h.va (by omega)) (h.vb (by omega));generalize lenP M.tb.B M.tb.L (lkv f.vars i.b)=q at hc ⊢;obtain⟨h0,e1,_⟩|⟨h0,e,d,e1,e2⟩:=trapV_cases v q.2
 ·rw[e1,if_pos h0] at hc;rw[got_yes h0];exact op_keep hc (fun _=>v) (fun _=>x) _ (fun _=>c) M.inp M.out M.gl (fun _=>h.var _ _) (var_fs h.fs _ _) rfl rfl rfl
 ·rw[e1,if_neg h0] at hc;rw[got_no h0,e2]
  exact op_keep hc (fun _=>{v with en:=e,code:=d }) (fun _=>x) f (fun _=>c) M.inp M.out M.gl (fun _=>h.ends h.hI.tab e d) h.fs rfl rfl rfl
theorem op7 (h:Pre t v x xs f r c M i u)(ho:i.op=7):OpOk t p k cs i v x xs f r c M (M.go t (glob t) f i) 131:=by
 rw[go7 ho];have hc:=keep_spec t p k v (adrs xs) x f i cs c M.tb h.hI.tab (by have:=h.hL;omega) h.nf (by have:=h.nb;omega) h.hl.1 (h.va (by omega)) (h.vb (by omega));generalize (loadP M.tb.B M.tb.L (lkv f.vars i.a) i.c).2=e0 at hc ⊢;obtain⟨h0,e1,e2⟩|⟨h0,e,d,e1,e2⟩:=trapV_cases v e0
 ·rw[e1] at hc;rw[e2];exact op_keep hc (fun _=>v) (fun _=>x) f (fun s=>s.1) M.inp M.out M.gl (fun s=>h.tab s.2) h.fs rfl rfl rfl
 ·rw[e1] at hc;rw[e2]
  exact op_keep hc (fun _=>{v with en:=e,code:=d }) (fun _=>x) f (fun s=>s.1) M.inp M.out M.gl (fun s=>h.ends s.2 e d) h.fs rfl rfl rfl
theorem op9 (h:Pre t v x xs f r c M i u)(ho:i.op=9):OpOk t p k cs i v x xs f r c M (M.go t (glob t) f i) 133:=by
 rw[go9 ho];have hc:=lay_spec t p k v (adrs xs) x f i cs c M.tb h.hI.tab (by have:=h.hL;omega) h.nf (by have:=h.nb;omega) h.hl.1 (h.va (by omega)) (h.vb (by omega)) (h.vc (by omega));generalize (loadP M.tb.B M.tb.L (lkv f.vars i.a) (lkv f.vars i.b)).2=e0 at hc ⊢;obtain⟨h0,e1,e2⟩|⟨h0,e,d,e1,e2⟩:=trapV_cases v e0
 ·rw[e1] at hc;rw[e2];exact op_keep hc (fun _=>v) (fun _=>x) f (fun s=>s.1) M.inp M.out M.gl (fun s=>h.tab s.2) h.fs rfl rfl rfl
 ·rw[e1] at hc;rw[e2]
  exact op_keep hc (fun _=>{v with en:=e,code:=d }) (fun _=>x) f (fun s=>s.1) M.inp M.out M.gl (fun s=>h.ends s.2 e d) h.fs rfl rfl rfl
theorem op11 (h:Pre t v x xs f r c M i u)(ho:i.op=11):OpOk t p k cs i v x xs f r c M (M.go t (glob t) f i) 135:=by
 rw[go11 ho];obtain⟨L,hL⟩:=h.hi.cls (.inl ho);obtain⟨j,hj,_,hjL⟩:=gt_some hL;rw[hL];dsimp only;have hc:=record30_spec t p k v (adrs xs) x f i cs j L hj hjL c M.tb h.hI.tab (by have:=h.hB;omega) (by have:=h.hL;omega) h.hl.2 h.nf (by have:=h.nb;omega) h.hl.1 (h.va (by omega));by_cases hh:hasB M.tb.B (reg (glob t) f i.n)=true
 ·rw[if_pos hh,if_pos hh] at hc;rw[lies_yes hh]
  refine op_keep hc (fun _=>v) (fun _=>x) {f with vars:=setv f.vars i.a ((M.tb.L.length+1:Nat):Int)} (fun s=>s.1) M.inp M.out M.gl (fun s=>?_) (var_fs h.fs _ _) rfl rfl rfl;exact h.hI.keep h.fs (var_fs h.fs _ _) rfl (setv_len _ _ _) rfl h.hl.2 s.2 rfl rfl h.hI.en h.hI.code h.hI.steps h.hI.slack h.hI.no h.hI.ni
 ·rw[if_neg hh,if_neg hh] at hc;rw[lies_no hh]
  refine op_keep hc (fun _=>{v with en:=4,code:=0 }) (fun _=>x) f (fun s=>s.1) M.inp M.out M.gl (fun s=>?_) h.fs rfl rfl rfl;obtain⟨c2,h2⟩:=s;rw[add_no_ hh] at h2;exact h.ends h2 4 0
theorem op12 (h:Pre t v x xs f r c M i u)(ho:i.op=12):OpOk t p k cs i v x xs f r c M (M.go t (glob t) f i) 136:=by
 rw[go12 ho];by_cases hz:lkv f.vars i.b<0\/50<lkv f.vars i.b
 ·rw[if_pos hz];have hc:=array_no t p k v (adrs xs) x f i cs h.nf (by have:=h.nb;omega) h.hl.1 (h.vb (by omega)) hz;obtain⟨h0,_⟩|⟨h0,e,d,e1,e2⟩:=trapV_cases v 4
  ·omega
  rw[e1] at hc;rw[e2]
  exact op_keep hc (fun _=>{v with en:=e,code:=d }) (fun _=>x) f (fun _=>c) M.inp M.out M.gl (fun _=>h.ends h.hI.tab e d) h.fs rfl rfl rfl
 ·rw[if_neg hz];have hc:=array30_spec t p k v (adrs xs) x f i cs c M.tb h.hI.tab (by have:=h.hB;omega) (by have:=h.hL;omega) h.hl.2 h.nf (by have:=h.nb;omega) h.hl.1 (h.va (by omega)) (h.vb (by omega)) (by omega);by_cases hh:hasB M.tb.B (reg (glob t) f i.n)=true
  ·rw[if_pos hh,if_pos hh] at hc;rw[lies_yes hh]
   refine op_keep hc (fun _=>v) (fun _=>x) {f with vars:=setv f.vars i.a ((M.tb.L.length+1:Nat):Int)} (fun s=>s.1) M.inp M.out M.gl (fun s=>?_) (var_fs h.fs _ _) rfl rfl rfl;exact h.hI.keep h.fs (var_fs h.fs _ _) rfl (setv_len _ _ _) rfl h.hl.2 s.2 rfl rfl h.hI.en h.hI.code h.hI.steps h.hI.slack h.hI.no h.hI.ni
  ·rw[if_neg hh,if_neg hh] at hc;rw[lies_no hh]
   refine op_keep hc (fun _=>{v with en:=4,code:=0 }) (fun _=>x) f (fun s=>s.1) M.inp M.out M.gl (fun s=>?_) h.fs rfl rfl rfl;obtain⟨c2,h2⟩:=s;rw[add_no_ hh] at h2;exact h.ends h2 4 0
theorem op14 (h:Pre t v x xs f r c M i u)(ho:i.op=14):OpOk t p k cs i v x xs f r c M (M.go t (glob t) f i) 138:=by
 rw[go14 ho]
 cases hinp:M.inp with
 |nil=>
  dsimp only;have hc:=read_no t p k v i cs (by have:=h.hI.ni;rw[hinp] at this;exact this);obtain⟨h0,_⟩|⟨h0,e,d,e1,e2⟩:=trapV_cases v 5
  ·omega
  rw[e1] at hc;rw[e2]
  exact op_keep hc (fun _=>{v with en:=e,code:=d }) (fun _=>x) f (fun _=>c) M.inp M.out M.gl (fun _=>h.ends h.hI.tab e d) h.fs rfl rfl rfl
 |cons y l=>
  dsimp only;have hni:v.ni=l.length+1:=by have:=h.hI.ni;rw[hinp] at this;exact this
  refine op_keep (read_yes t p k v (adrs xs) x f i cs y l hni h.nf (by have:=h.nb;omega) h.hl.1 (h.va (by omega))) (fun s=>{v with ai:=s.1,ni:=l.length,ci:=s.2 }) (fun _=>x) _ (fun _=>c) l M.out M.gl (fun s=>?_) (var_fs h.fs _ _) rfl rfl rfl (hps:=by rw[hinp];exact aA) (h1:=fun _=>.cons .head .nil);exact h.hI.keep h.fs (var_fs h.fs _ _) rfl (setv_len _ _ _) rfl h.hl.2 h.hI.tab rfl rfl h.hI.en h.hI.code h.hI.steps h.hI.slack h.hI.no rfl
theorem op15 (h:Pre t v x xs f r c M i u)(ho:i.op=15):OpOk t p k cs i v x xs f r c M (M.go t (glob t) f i) 139:=by
 rw[go15 ho]
 refine op_keep (prints_spec t p k v (adrs xs) x f i cs M.out h.hI.no (by have:=h.hO;omega) h.nf (by have:=h.nb;omega) h.hl.1 (h.va (by omega))) (fun s=>{v with ao:=s.1,no:=M.out.length+1,co:=s.2 }) (fun _=>x) f (fun _=>c) M.inp (M.out++[lkv f.vars i.a]) M.gl (fun s=>?_) h.fs rfl rfl rfl;exact h.hI.keep h.fs h.fs rfl rfl rfl h.hl.2 h.hI.tab rfl rfl h.hI.en h.hI.code h.hI.steps h.hI.slack (by show _=(M.out++_).length;rw[List.length_append];rfl) h.hI.ni
theorem op16 (h:Pre t v x xs f r c M i u)(ho:i.op=16):OpOk t p k cs i v x xs f r c M (M.go t (glob t) f i) 140:=by
 rw[go16 ho]
 refine op_keep (jump_spec t p k v (adrs xs) x f i cs h.nf (by have:=h.nb;omega) h.hl.1) (fun _=>v) (fun _=>x) {f with pc:=i.n} (fun _=>c) M.inp M.out M.gl (fun s=>?_) (by show _::M.fs.tail=_;rw[h.fs];rfl) rfl rfl rfl
 exact h.hI.keep h.fs (by show _::M.fs.tail=_;rw[h.fs];rfl) (f':={f with pc:=i.n }) rfl rfl rfl h.hl.2 h.hI.tab rfl rfl h.hI.en h.hI.code h.hI.steps h.hI.slack h.hI.no h.hI.ni
theorem op17 (h:Pre t v x xs f r c M i u)(ho:i.op=17):OpOk t p k cs i v x xs f r c M (M.go t (glob t) f i) 141:=by
 rw[go17 ho]
 refine op_keep (branch_spec t p k v (adrs xs) x f i cs h.nf (by have:=h.nb;omega) h.hl.1 (h.va (by omega))) (fun _=>v) (fun _=>x) {f with pc:=if lkv f.vars i.a≠0 then i.n else i.c} (fun _=>c) M.inp M.out M.gl (fun s=>?_) (by show _::M.fs.tail=_;rw[h.fs];rfl) rfl rfl rfl
 exact h.hI.keep h.fs (by show _::M.fs.tail=_;rw[h.fs];rfl) (f':={f with pc:=if lkv f.vars i.a≠0 then i.n else i.c }) rfl rfl rfl h.hl.2 h.hI.tab rfl rfl h.hI.en h.hI.code h.hI.steps h.hI.slack h.hI.no h.hI.ni
theorem op19 (h:Pre t v x xs f r c M i u)(ho:i.op=19):OpOk t p k cs i v x xs f r c M (M.go t (glob t) f i) 143:=by
 rw[go19 ho];obtain⟨g0,hg0⟩:=h.hi.glo (by omega);obtain⟨j,hj,hjl,_⟩:=gt_some hg0;have hjm:j<M.gl.length:=by rw[h.gl];exact hjl
 obtain⟨y,hy⟩:=GX.get_lt hjm;have e:lkv M.gl i.n=y:=by unfold lkv;rw[hj,gt_nat,hy];rfl
 rw[e];exact op_keep (get_spec t p k v (adrs xs) x f i cs M.gl j y h.gl hj hy h.nf (by have:=h.nb;omega) h.hl.1 (h.va (by omega))) (fun _=>v) (fun _=>x) _ (fun _=>c) M.inp M.out M.gl (fun _=>h.var _ _) (var_fs h.fs _ _) rfl rfl rfl
theorem op20 (h:Pre t v x xs f r c M i u)(ho:i.op=20):OpOk t p k cs i v x xs f r c M (M.go t (glob t) f i) 144:=by
 rw[go20 ho];obtain⟨g0,hg0⟩:=h.hi.glo (by omega);obtain⟨j,hj,hjl,_⟩:=gt_some hg0;have hjm:j<M.gl.length:=by rw[h.gl];exact hjl
 refine op_keep (put_spec30 t p k v (adrs xs) x f i cs M.gl j h.gl hj hjm h.nf (by have:=h.nb;omega) h.hl.1 (h.va (by omega))) (fun _=>v) (fun _=>x) f (fun _=>c) M.inp M.out (M.gl.set j (lkv f.vars i.a)) (fun s=>?_) h.fs rfl rfl (by show setv M.gl i.n _=_;unfold setv;rw[hj,Int.toNat_natCast]);exact h.hI.keep h.fs h.fs rfl rfl rfl h.hl.2 h.hI.tab rfl rfl h.hI.en h.hI.code h.hI.steps h.hI.slack h.hI.no h.hI.ni
theorem op21 (h:Pre t v x xs f r c M i u)(ho:i.op=21):OpOk t p k cs i v x xs f r c M (M.go t (glob t) f i) 145:=by
 rw[go21 ho];have hc:=create_spec t p k v (adrs xs) x f i cs c M.tb h.hI.tab (by have:=h.hB;have:=h.hA;omega) h.hl.2 h.nf (by have:=h.nb;omega) h.hl.1;by_cases hh:(crT i.args M.tb f.regs).2.2=true
 ·rw[if_pos hh] at hc;unfold Ms.regs;rw[if_pos hh]
  refine op_keep hc (fun _=>v) (fun s=>{x with mp:=s.1.1 }) {f with regs:=(crT i.args M.tb f.regs).2.1} (fun s=>s.1.2) M.inp M.out M.gl (fun s=>?_) (by show _::M.fs.tail=_;rw[h.fs];rfl) rfl rfl rfl
  exact h.hI.keep h.fs (by show _::M.fs.tail=_;rw[h.fs];rfl) (f':={f with regs:=(crT i.args M.tb f.regs).2.1 }) rfl rfl rfl s.2.2 s.2.1 rfl rfl h.hI.en h.hI.code h.hI.steps h.hI.slack h.hI.no h.hI.ni
 ·rw[if_neg hh] at hc;unfold Ms.regs;rw[if_neg hh]
  refine op_keep hc (fun _=>{v with en:=4,code:=0 }) (fun s=>{x with mp:=s.1.1 }) {f with regs:=(crT i.args M.tb f.regs).2.1} (fun s=>s.1.2) M.inp M.out M.gl (fun s=>?_) (by show _::M.fs.tail=_;rw[h.fs];rfl) rfl rfl rfl
  exact h.hI.keep h.fs (by show _::M.fs.tail=_;rw[h.fs];rfl) (f':={f with regs:=(crT i.args M.tb f.regs).2.1 }) rfl rfl rfl s.2.2 s.2.1 rfl rfl rfl rfl h.hI.steps h.hI.slack h.hI.no h.hI.ni
theorem op22 (h:Pre t v x xs f r c M i u)(ho:i.op=22):OpOk t p k cs i v x xs f r c M (M.go t (glob t) f i) 146:=by
 rw[go22 ho];have hc:=remove_spec30 t p k v (adrs xs) x f i cs c M.tb h.hI.tab (by have:=h.hB;omega) (by have:=h.hL;omega) h.hl.2 h.nf (by have:=h.nb;omega) h.hl.1;by_cases hh:(rmT i.args M.tb f.regs).2.2=true
 ·rw[if_pos hh] at hc;unfold Ms.regs;rw[if_pos hh]
  refine op_keep hc (fun _=>v) (fun s=>{x with mp:=s.1.1 }) {f with regs:=(rmT i.args M.tb f.regs).2.1} (fun s=>s.1.2) M.inp M.out M.gl (fun s=>?_) (by show _::M.fs.tail=_;rw[h.fs];rfl) rfl rfl rfl
  exact h.hI.keep h.fs (by show _::M.fs.tail=_;rw[h.fs];rfl) (f':={f with regs:=(rmT i.args M.tb f.regs).2.1 }) rfl rfl rfl s.2.2 s.2.1 rfl rfl h.hI.en h.hI.code h.hI.steps h.hI.slack h.hI.no h.hI.ni
 ·rw[if_neg hh] at hc;unfold Ms.regs;rw[if_neg hh]
  refine op_keep hc (fun _=>{v with en:=4,code:=0 }) (fun s=>{x with mp:=s.1.1 }) {f with regs:=(rmT i.args M.tb f.regs).2.1} (fun s=>s.1.2) M.inp M.out M.gl (fun s=>?_) (by show _::M.fs.tail=_;rw[h.fs];rfl) rfl rfl rfl
  exact h.hI.keep h.fs (by show _::M.fs.tail=_;rw[h.fs];rfl) (f':={f with regs:=(rmT i.args M.tb f.regs).2.1 }) rfl rfl rfl s.2.2 s.2.1 rfl rfl rfl rfl h.hI.steps h.hI.slack h.hI.no h.hI.ni
end
end Go.Proofs.YtojfbbggnkijeaaGreatDoor
