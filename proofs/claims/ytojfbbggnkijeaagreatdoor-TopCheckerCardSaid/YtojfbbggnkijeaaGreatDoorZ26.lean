import Derived.Test.YtojfbbggnkijeaaGreatDoorZ24
set_option linter.all false
namespace Go.Proofs.YtojfbbggnkijeaaGreatDoor
open Go Go.RR Go.RX Go.GX Go.Api Go.NumM
attribute [local irreducible] wpList Code.wp wpPlan Exit.then Exit.inBlock bodyPost NoPanic Went GX.Post Again Meet RowR GX.Own Owns Box Sl Pt Ag MapR Kept Pin wpT GoK AtEnd Both
abbrev AC:=Option Addr×Nat
structure WrS where
 c:AC
 i:Nat
 D:List Int
set_option maxHeartbeats 1000000 in
theorem wnums_spec (p:Nat)(c:AC)(B:List Int)(ao:Option Addr)(cap:Nat)(l:List Int)(hl:∀x∈l,I64 x)(hb:(B++encs l).length<=1000000000):
  Does Tryz.prog 20 [.pointer (some ⟨p,0,none⟩),.slice ao l.length cap] [Sl Ty.int ao cap l] [RowR p 72 [.slice c.1 B.length c.2],GX.Own 5 Ty.byte c.1 c.2 B] (fun _:AC=>.tuple #[]) (fun _=>[]) (fun r=>[RowR p 72 [.slice r.1 (B++encs l).length r.2],GX.Own 5 Ty.byte r.1 r.2 (B++encs l)]):=by
 refine enter Tryz.func20 rfl Tryz.ntmps20 rfl fun b=>?_;obtain⟨aB,cB⟩:=c;rw[List.length_append] at hb;refine sln ao fun h1 h2 _=>?_;refine w_ ?_;intros;refine GX.loop (σ:=WrS) (fun q=>[(0,.pointer (some ⟨p,0,none⟩)),(6,.slice ao l.length cap),(7,.int .i64 (l.length:Int)),(8,.int .i64 (q.i:Int))]) (fun _=>[]) (fun q=>[RowR p 72 [.slice q.c.1 q.D.length q.c.2],GX.Own 5 Ty.byte q.c.1 q.c.2 q.D])
  (fun q=>q.i<=l.length/\q.D=B++encs (l.take q.i)) (fun q=>l.length-q.i) ⟨(aB,cB),0,B⟩ ⟨rfl,rfl,rfl,rfl,trivial⟩ ⟨Nat.zero_le _,by simp[encs]⟩ (fun q hq=>?_)
 obtain⟨⟨aB,cB⟩,i,D⟩:=q;obtain⟨hi,hD⟩:=hq;dsimp only at *;by_cases hlt:i<l.length
 ·obtain⟨x,hx⟩:=get_lt hlt;have hx64:=hl x (List.mem_of_getElem? hx);have hsn:=encs_snoc hx;have htk:=encs_take l (i+1);rw[hsn,List.length_append] at htk;have hml:D.length<=1000000000:=by rw[hD,List.length_append];omega
  have hnl:=num_len x hx64;refine w_ ?_;intros;refine drawn1 (RowR p 72 _) (fun j=>!(List.contains [7,10] j)) [(0,true),(1,true),(2,true),(3,true),(4,true),(5,true),(6,false),(7,false),(8,true),(9,true),(10,false)] rfl (by kernel_rfl) (by kernel_rfl) sA ?_;intro wd F hW hR;refine u_ ?_;intros;refine GX.gow ?_;refine (cl (num_spec x hx64) fun s=>?_);obtain⟨a1,c1⟩:=s;dsimp only;refine frz a1 ?_;refine u_ ?_;intros;refine unpin (RowR p 72 _) ?_;refine u_ ?_;intros;refine w_ ?_;intros;refine nmS 19 ?_;rintro a9 c9 rfl rfl;exact again ⟨(a9,c9),i+1,D++num x⟩ ⟨rfl,rfl,rfl,rfl,trivial⟩ ⟨by dsimp only;omega,by dsimp only;rw[hD,List.append_assoc,<-hsn]⟩ (by dsimp only;omega)
 ·rw[List.take_of_length_le (by omega)] at hD;subst hD;refine w_ ?_;intros;exact en0 ((aB,cB):AC)
theorem wlist_spec (p:Nat)(c:AC)(B:List Int)(ao:Option Addr)(cap:Nat)(l:List Int)(hl:∀x∈l,I64 x)(hb:(B++encL l).length<=1000000000):
  Does Tryz.prog 22 [.pointer (some ⟨p,0,none⟩),.slice ao l.length cap] [Sl Ty.int ao cap l] [RowR p 72 [.slice c.1 B.length c.2],GX.Own 5 Ty.byte c.1 c.2 B] (fun _:AC=>.tuple #[]) (fun _=>[]) (fun r=>[RowR p 72 [.slice r.1 (B++encL l).length r.2],GX.Own 5 Ty.byte r.1 r.2 (B++encL l)]):=by
 refine enter Tryz.func22 rfl Tryz.ntmps22 rfl fun b=>?_;have hb2:=hb;unfold encL at hb2;rw[List.length_append,List.length_append] at hb2;refine sln ao fun h1 h2 _=>?_;refine w_ ?_;intros;refine nmB 7 ?_;rintro b7 rfl;refine GX.o (cl (wnums_spec p c B (some ⟨b7,0,none⟩) 1 [(l.length:Int)] (by intro x hx;simp at hx;subst hx;exact⟨by omega,by omega⟩) (by rw[encs_one,List.length_append];omega)) fun s=>?_);rw[encs_one];refine w_ ?_;intros;refine GX.o (cl (wnums_spec p s (B++num (l.length:Int)) ao cap l hl (by rw[List.length_append,List.length_append];omega)) fun s=>?_);rw[List.append_assoc,show num (l.length:Int)++encs l=encL l from rfl];refine w_ ?_;intros;exact en0 s
theorem wclass_spec (p:Nat)(c:AC)(B:List Int)(cs:List Value)(L:Layout)(hl:Layout.ok L)(hb:(B++encC L).length<=1000000000):
  Does Tryz.prog 21 [.pointer (some ⟨p,0,none⟩),.agg cs.toArray] [Ag tyLayout cs L] [RowR p 72 [.slice c.1 B.length c.2],GX.Own 5 Ty.byte c.1 c.2 B] (fun _:AC=>.tuple #[]) (fun _=>[]) (fun r=>[RowR p 72 [.slice r.1 (B++encC L).length r.2],GX.Own 5 Ty.byte r.1 r.2 (B++encC L)]):=by
 refine enter Tryz.func21 rfl Tryz.ntmps21 rfl fun b=>?_;have hb2:=hb;unfold encC at hb2;rw[List.length_append,List.length_append] at hb2;by_cases ha:L.arr=true
 ·have e:encC L=num 1++encL L.refs:=by unfold encC;rw[if_pos ha]
  rw[if_pos ha] at hb2;refine w_ ?_;intros;refine nmB 9 ?_;rintro b9 rfl;refine GX.o (cl (wnums_spec p c B (some ⟨b9,0,none⟩) 1 [1] (by intro x hx;simp at hx;subst hx;exact⟨by omega,by omega⟩) (by rw[encs_one,List.length_append];omega)) fun s=>?_);rw[encs_one];refine w_ ?_;intros;refine nmS 13 ?_;rintro a13 c13 rfl rfl;refine GX.o (cl (wlist_spec p s (B++num 1) a13 c13 L.refs hl (by rw[List.length_append,List.length_append];omega)) fun s=>?_);rw[List.append_assoc,<-e];refine w_ ?_;intros;exact en0 s
 ·have ha':L.arr=false:=by simpa using ha
  have e:encC L=num 0++encL L.refs:=by unfold encC;rw[if_neg ha]
  rw[if_neg ha] at hb2;refine w_ ?_;intros;refine nmB 9 ?_;rintro b9 rfl;refine GX.o (cl (wnums_spec p c B (some ⟨b9,0,none⟩) 1 [0] (by intro x hx;simp at hx;subst hx;exact⟨by omega,by omega⟩) (by rw[encs_one,List.length_append];omega)) fun s=>?_);rw[encs_one];refine w_ ?_;intros;refine nmS 13 ?_;rintro a13 c13 rfl rfl;refine GX.o (cl (wlist_spec p s (B++num 0) a13 c13 L.refs hl (by rw[List.length_append,List.length_append];omega)) fun s=>?_);rw[List.append_assoc,<-e];refine w_ ?_;intros;exact en0 s
structure RnS where
 i:Nat
 v:Int
set_option maxHeartbeats 2000000 in
theorem rdNum_spec (p:Nat)(c:AC)(D:List Int)(d:Bool):
  Does Tryz.prog 47 [.pointer (some ⟨p,0,none⟩)] [Sl Ty.byte c.1 c.2 D] [RowR p 67 [.slice c.1 D.length c.2,.bool d]] (fun s:RdnS num I64 D d=>.int .i64 s.x) (fun s=>[Sl Ty.byte s.c.1 s.c.2 s.D2]) (fun s=>[RowR p 67 [.slice s.c.1 s.D2.length s.c.2,.bool s.d2]]):=by
 refine enter Tryz.func47 rfl Tryz.ntmps47 rfl fun b=>?_;obtain⟨ao,cap⟩:=c;dsimp only;refine sln ao fun hn1 hn2 _=>?_;refine w_ ?_;intros;refine GX.loop (σ:=RnS) (fun q=>[(0,.pointer (some ⟨p,0,none⟩)),(3,.int .u64 q.v),(4,.int .i64 ((7*q.i:Nat):Int)),(11,.slice ao D.length cap),(12,.int .i64 (D.length:Int)),(13,.int .i64 (q.i:Int))]) (fun _=>[]) (fun q=>[RowR p 67 [.slice (ao,cap).1 D.length (ao,cap).2,.bool d]])
  (fun q=>q.i<=D.length/\q.i<=10/\Mid D q.i q.v) (fun q=>D.length-q.i) ⟨0,0⟩ ⟨rfl,rfl,rfl,rfl,rfl,rfl,trivial⟩ ⟨Nat.zero_le _,by decide,mid0 D⟩ (fun q hq=>?_)
 obtain⟨i,v⟩:=q;obtain⟨h1,h2,h3⟩:=hq;dsimp only at *;by_cases hlt:i<D.length
 ·obtain⟨x,hx⟩:=get_lt hlt;by_cases h64:10<=i
  ·refine w_ ?_;intros;refine slNil Ty.byte ?_;exact rt1 (⟨0,(none,0),[],true,rd_bad h3 (fun _=>.inr h64) (by simp)⟩:RdnS num I64 D d) rfl
  ·by_cases hb:x<128
   ·obtain⟨V,hV⟩:∃V,V=bOr .u64 v (shlV .u64 (IntKind.u64.wrap (bNot .u8 x 128)) ((7*i:Nat):Int)):=⟨_,rfl⟩;have hzz:zagP V=zagP (bOr .u64 v (shlV .u64 (IntKind.u64.wrap (bNot .u8 x 128)) ((7*i:Nat):Int))):=by rw[hV]
    by_cases hbit:bAnd .u64 V 1=1
    ·have hz2:zagP V=cplV .i64 (IntKind.i64.wrap (shrV .u64 V 1)):=if_pos hbit;rw[hV] at hbit hz2;have hbit2:=Classical.not_not.2 hbit;refine w_ ?_;intros;refine nmS 38 ?_;rintro q9 c9 rfl rfl;rw[show ((i+1:Nat):Int).toNat=i+1 from rfl];exact rt1 (⟨_,(_,_),D.drop (i+1),d,rd_num h3 hx hb (low_p x) (.inl hz2.symm)⟩:RdnS num I64 D d) rfl
    ·have hz2:zagP V=IntKind.i64.wrap (shrV .u64 V 1):=if_neg hbit;rw[hV] at hbit hz2;refine w_ ?_;intros;rw[show ((i+1:Nat):Int).toNat=i+1 from rfl];exact rt1 (⟨_,(_,_),D.drop (i+1),d,rd_num h3 hx hb (low_p x) (.inl hz2.symm)⟩:RdnS num I64 D d) rfl
   ·refine w_ ?_;intros;exact again ⟨i+1,bOr .u64 v (shlV .u64 (IntKind.u64.wrap (bNot .u8 x 128)) ((7*i:Nat):Int))⟩ ⟨rfl,rfl,rfl,rfl,rfl,rfl,trivial⟩ ⟨by dsimp only;omega,by dsimp only;omega,mid_step h3 hx hb (low_p x)⟩ (by dsimp only;omega)
 ·refine w_ ?_;intros;refine slNil Ty.byte ?_;exact rt1 (⟨0,(none,0),[],true,rd_bad h3 (fun _=>.inl (by omega)) (by simp)⟩:RdnS num I64 D d) rfl
set_option maxHeartbeats 1000000 in
theorem rdMany_spec (p:Nat)(c:AC)(D:List Int)(d:Bool):
  Does Tryz.prog 46 [.pointer (some ⟨p,0,none⟩)] [Sl Ty.byte c.1 c.2 D] [RowR p 67 [.slice c.1 D.length c.2,.bool d]] (fun s:RdmS D d=>.int .i64 (s.n:Int)) (fun s=>[Sl Ty.byte s.c.1 s.c.2 s.D2]) (fun s=>[RowR p 67 [.slice s.c.1 s.D2.length s.c.2,.bool s.d2]]):=by
 refine enter Tryz.func46 rfl Tryz.ntmps46 rfl fun b=>?_;refine w_ ?_;intros;refine GX.o (cl (rdNum_spec p c D d) fun s=>?_);obtain⟨x,c2,D2,d2,hs⟩:=s;dsimp only;by_cases h1:x<0
 ·refine w_ ?_;intros;exact rt1 (⟨0,c2,D2,true,rdm_bad hs (.inl h1)⟩:RdmS D d) rfl
 by_cases h2:(D2.length:Int)<x
 ·refine w_ ?_;intros;exact rt1 (⟨0,c2,D2,true,rdm_bad hs (.inr (.inl h2))⟩:RdmS D d) rfl
 obtain⟨n,rfl⟩:=Int.eq_ofNat_of_zero_le (show 0<=x by omega);refine w_ ?_;intros;exact rt1 (⟨n,c2,D2,d2,rdm_ok hs rfl (by omega)⟩:RdmS D d) rfl
structure RlS (α:Type) where
 ao:Option Addr
 cap:Nat
 xs:List α
 c:AC
 D:List Int
 d:Bool
structure RdlS {α:Type}(e:List α->List Int)(ok:List α->Prop)(D:List Int)(d:Bool) where
 ao:Option Addr
 cap:Nat
 xs:List α
 c:AC
 D2:List Int
 d2:Bool
 h:Rdn e ok D d xs D2 d2
set_option maxHeartbeats 1000000 in
theorem rdList_spec (p:Nat)(c:AC)(D:List Int)(d:Bool)(hD:D.length<=4194304):
  Does Tryz.prog 48 [.pointer (some ⟨p,0,none⟩)] [Sl Ty.byte c.1 c.2 D] [RowR p 67 [.slice c.1 D.length c.2,.bool d]] (fun s:RdlS encL (okN I64) D d=>.slice s.ao s.xs.length s.cap) (fun s=>[Sl Ty.byte s.c.1 s.c.2 s.D2,Sl Ty.int s.ao s.cap s.xs]) (fun s=>[RowR p 67 [.slice s.c.1 s.D2.length s.c.2,.bool s.d2]]):=by
 refine enter Tryz.func48 rfl Tryz.ntmps48 rfl fun b=>?_;refine w_ ?_;intros;refine GX.o (cl (rdMany_spec p c D d) fun s=>?_);obtain⟨n,c1,D1,d1,hm⟩:=s;dsimp only;have hn1:=hm.fit;have hn2:=hm.len;refine w_ ?_;intros;refine ownNil 3 Ty.int ?_;refine GX.loop (σ:=RlS Int) (fun q=>[(0,.pointer (some ⟨p,0,none⟩)),(3,.slice q.ao q.xs.length q.cap),(5,.int .i64 (n:Int)),(6,.int .i64 (q.xs.length:Int))]) (fun q=>[Sl Ty.byte q.c.1 q.c.2 q.D]) (fun q=>[RowR p 67 [.slice q.c.1 q.D.length q.c.2,.bool q.d],GX.Own 3 Ty.int q.ao q.cap q.xs])
  (fun q=>q.xs.length<=n/\Rdn (flat num) (okL I64 q.xs.length) D1 d1 q.xs q.D q.d) (fun q=>n-q.xs.length) ⟨none,0,[],c1,D1,d1⟩ ⟨rfl,rfl,rfl,rfl,trivial⟩ ⟨Nat.zero_le _,rdl_nil⟩ (fun q hq=>?_)
 obtain⟨ao,cap,xs,c2,D2,d2⟩:=q;obtain⟨h1,h2⟩:=hq;dsimp only at *;by_cases hlt:xs.length<n
 ·refine w_ ?_;intros;refine GX.o (cl (rdNum_spec p c2 D2 d2) fun s=>?_);obtain⟨x,c3,D3,d3,hs⟩:=s;dsimp only;refine w_ ?_;intros;refine nmS 3 ?_;rintro a9 c9 rfl rfl;rw[show xs.length+1=(xs++[x]).length by simp];exact again ⟨a9,c9,xs++[x],c3,D3,d3⟩ ⟨rfl,rfl,rfl,rfl,trivial⟩ ⟨by dsimp only;rw[List.length_append];exact hlt,by dsimp only;rw[List.length_append];exact rdl_snoc h2 hs⟩ (by dsimp only;rw[List.length_append,List.length_singleton];omega)
 ·refine w_ ?_;intros;refine frz ao ?_;exact rt1 (⟨ao,cap,xs,c2,D2,d2,rdl_end hm h2 (.inl (by omega)) (by omega) (by omega) (fun x _=>num_pos x)⟩:RdlS encL (okN I64) D d) rfl
end Go.Proofs.YtojfbbggnkijeaaGreatDoor
namespace Go.GX
open Go Go.RowKit Go.RR Go.RX
section
variable {P:Program} {n:Nat} {env:Env} {b:Base} {ps:List Pf} {hp:List Res} {K:Act->World->Prop}
variable {rest:List Res} {t:TypeId}
theorem frz_stA {r:Res}{p:Pf}(hl:hp.Perm (r::rest))(hp':∀F w,AllP F w ps->r.says F w->p.says (fun k=>F k\/r.on k) w)(h:G n env b (p::ps) rest K):G n env b ps hp K:=by
 constructor;rintro w ⟨F,s⟩;have s:=s.perm hl;have ha:=List.pairwise_cons.1 s.apart;refine h.run w ⟨fun k=>F k\/r.on k,s.upd,?_,?_,?_,?_,?_,ha.2,fun q hq=>s.on q (List.mem_cons_of_mem _ hq)⟩
 ·rintro k (hk|hk)
  ·exact s.lt k hk
  ·exact r.inn (s.rs r List.mem_cons_self) hk
 ·rintro k (hk|hk) hlt
  ·exact s.old k hk hlt
  ·exact .inr (s.on r List.mem_cons_self k hk hlt)
 ·intro q hq
  rcases List.mem_cons.1 hq with rfl|hq
  ·exact hp' F w s.fs (s.rs r List.mem_cons_self)
  ·exact q.move (s.fs q hq) (fun _ _ h=>.inl h) (Agree.refl _ _)
 ·intro q hq;exact q.move (s.rs q (List.mem_cons_of_mem _ hq)) (fun _ _ h=>.inl h) (Agree.refl _ _) (Agree.refl _ _)
 ·rintro q hq k hk (hf|hr)
  ·exact s.apF q (List.mem_cons_of_mem _ hq) k hk hf
  ·exact ha.1 q hq k hr hk
theorem frzR (bl:Nat){α:Type}{e:Ty α}{vs:List Value}{y:α}[hf:FRow bl hp t vs rest](h:G n env b (Pt e bl 0 y::ps) rest K)(hr:Reads ps (.agg vs.toArray) e y:=by first|exact Go.GX.Rds.r):G n env b ps hp K:=
 frz_stA hf.p (fun F w h1 h2=>by
  have hrow:Row w bl t vs:=h2;have hd:e.rd F w (Value.agg vs.toArray).cells.toList y:=hr.as F w h1;have hc:(Value.agg vs.toArray).cells.toList=vs:=by simp[Value.cells]
  rw[hc] at hd;exact⟨.inr rfl,hrow.lt,vs,fun j c hj=>by rw[Nat.zero_add];exact hrow.cell_some hj,e.move hd (fun _ _ h=>.inl h) (Agree.refl _ _)⟩) h
theorem frzH (bl:Nat){vs:List Value}{a:Option Addr}{m c:Nat}[hf:FRow bl hp t vs rest](h:G n env b (Pt Ty.hdr bl 0 (a,m,c)::ps) rest K)(hv:vs=[.slice a m c]:=by exact rfl):G n env b ps hp K:=frz_st hf.p (fun F w h=>by
 have h1:Row w bl t vs:=h;subst hv;exact⟨.inr rfl,h1.lt,_,fun j c hj=>by rw[Nat.zero_add];exact h1.cell_some hj,hdr_rd⟩) h
end
end Go.GX
namespace Go.Proofs.YtojfbbggnkijeaaGreatDoor
open Go Go.RR Go.RX Go.GX Go.Api Go.NumM
attribute [local irreducible] wpList Code.wp wpPlan Exit.then Exit.inBlock bodyPost NoPanic Went GX.Post Again Meet RowR GX.Own Owns Box Sl Pt Ag MapR Kept Pin wpT GoK AtEnd Both
structure RdaS {α:Type}(e:α->List Int)(ok:α->Prop)(D:List Int)(d:Bool) where
 cs:List Value
 x:α
 c:AC
 D2:List Int
 d2:Bool
 h:Rdn e ok D d x D2 d2
set_option maxHeartbeats 1000000 in
theorem rdIns_spec (p:Nat)(c:AC)(D:List Int)(d:Bool)(hD:D.length<=4194304):
  Does Tryz.prog 108 [.pointer (some ⟨p,0,none⟩)] [Sl Ty.byte c.1 c.2 D] [RowR p 67 [.slice c.1 D.length c.2,.bool d]] (fun s:RdaS encI Ins.ok D d=>.agg s.cs.toArray) (fun s=>[Sl Ty.byte s.c.1 s.c.2 s.D2,Ag tyIns s.cs s.x]) (fun s=>[RowR p 67 [.slice s.c.1 s.D2.length s.c.2,.bool s.d2]]):=by
 refine enter Tryz.func108 rfl Tryz.ntmps108 rfl fun b=>?_;refine w_ ?_;intros;refine GX.o (cl (rdNum_spec p c D d) fun s=>?_);obtain⟨x1,c1,D1,d1,h1⟩:=s;have l1:=h1.len;dsimp only;refine w_ ?_;intros;refine GX.o (cl (rdNum_spec p c1 D1 d1) fun s=>?_);obtain⟨x2,c2,D2,d2,h2⟩:=s;have l2:=h2.len;dsimp only;refine w_ ?_;intros;refine GX.o (cl (rdNum_spec p c2 D2 d2) fun s=>?_);obtain⟨x3,c3,D3,d3,h3⟩:=s;have l3:=h3.len;dsimp only;refine w_ ?_;intros;refine GX.o (cl (rdNum_spec p c3 D3 d3) fun s=>?_);obtain⟨x4,c4,D4,d4,h4⟩:=s;have l4:=h4.len;dsimp only;refine w_ ?_;intros;refine GX.o (cl (rdNum_spec p c4 D4 d4) fun s=>?_);obtain⟨x5,c5,D5,d5,h5⟩:=s;have l5:=h5.len;dsimp only;refine w_ ?_;intros;refine GX.o (cl (rdList_spec p c5 D5 d5 (by omega)) fun s=>?_);obtain⟨aX,cX,xs,c6,D6,d6,h6⟩:=s;dsimp only;refine w_ ?_;intros;exact rt1B (fun cs=>(⟨cs,⟨x1,x2,x3,x4,x5,xs⟩,c6,D6,d6,rd_ins h1 h2 h3 h4 h5 h6⟩:RdaS encI Ins.ok D d)) (fun _=>rfl)
set_option maxHeartbeats 1000000 in
theorem rdUnit_spec (p:Nat)(c:AC)(D:List Int)(d:Bool)(hD:D.length<=4194304):
  Does Tryz.prog 49 [.pointer (some ⟨p,0,none⟩)] [Sl Ty.byte c.1 c.2 D] [RowR p 67 [.slice c.1 D.length c.2,.bool d]] (fun s:RdaS encU Unt.ok D d=>.agg s.cs.toArray) (fun s=>[Sl Ty.byte s.c.1 s.c.2 s.D2,Ag tyUnt s.cs s.x]) (fun s=>[RowR p 67 [.slice s.c.1 s.D2.length s.c.2,.bool s.d2]]):=by
 refine enter Tryz.func49 rfl Tryz.ntmps49 rfl fun b=>?_;refine w_ ?_;intros;refine GX.o (cl (rdNum_spec p c D d) fun s=>?_);obtain⟨x1,c1,D1,d1,h1⟩:=s;have l1:=h1.len;dsimp only;refine w_ ?_;intros;refine GX.o (cl (rdList_spec p c1 D1 d1 (by omega)) fun s=>?_);obtain⟨aV,cV,x2,c2,D2,d2,h2⟩:=s;have l2:=h2.len;dsimp only;refine w_ ?_;intros;refine GX.o (cl (rdNum_spec p c2 D2 d2) fun s=>?_);obtain⟨x3,c3,D3,d3,h3⟩:=s;have l3:=h3.len;dsimp only;refine w_ ?_;intros;refine GX.o (cl (rdList_spec p c3 D3 d3 (by omega)) fun s=>?_);obtain⟨aT,cT,x4,c4,D4,d4,h4⟩:=s;have l4:=h4.len;dsimp only;refine w_ ?_;intros;refine GX.o (cl (rdList_spec p c4 D4 d4 (by omega)) fun s=>?_);obtain⟨aO,cO,x5,c5,D5,d5,h5⟩:=s;have l5:=h5.len;dsimp only;refine nmP 2 ?_;rintro b2 rfl;refine w_ ?_ 1;intros;refine nmP 3 ?_;rintro b3 rfl;refine GX.o (cl (rdMany_spec p c5 D5 d5) fun s=>?_);obtain⟨n,c6,D6,d6,hm⟩:=s;dsimp only;have hn1:=hm.fit;have hn2:=hm.len;refine w_ ?_;intros;refine ownNil 141 tyIns ?_;refine GX.loop (σ:=RlS Ins) (fun q=>[(0,.pointer (some ⟨p,0,none⟩)),(2,.pointer (some ⟨b2,0,none⟩)),(3,.pointer (some ⟨b3,0,none⟩)),(16,.int .i64 (n:Int)),(17,.int .i64 (q.xs.length:Int))]) (fun q=>[Sl Ty.byte q.c.1 q.c.2 q.D]) (fun q=>[RowR p 67 [.slice q.c.1 q.D.length q.c.2,.bool q.d],RowR b3 80 [.int .i64 x1,.slice aV x2.length cV,.int .i64 x3,.slice aT x4.length cT,.slice aO x5.length cO,.slice q.ao q.xs.length q.cap],GX.Own 141 tyIns q.ao q.cap q.xs,Box 80 tyUnt b2 ⟨0,[],0,[],[],[]⟩])
  (fun q=>q.xs.length<=n/\Rdn (flat encI) (okL Ins.ok q.xs.length) D6 d6 q.xs q.D q.d) (fun q=>n-q.xs.length) ⟨none,0,[],c6,D6,d6⟩ ⟨rfl,rfl,rfl,rfl,rfl,trivial⟩ ⟨Nat.zero_le _,rdl_nil⟩ (fun q hq=>?_)
 obtain⟨ao,cap,xs,c7,D7,d7⟩:=q;obtain⟨g1,g2⟩:=hq;dsimp only at *;have l7:=g2.len;by_cases hlt:xs.length<n
 ·refine w_ ?_;intros;refine drawn1 (RowR b3 80 [.int .i64 x1,.slice aV x2.length cV,.int .i64 x3,.slice aT x4.length cT,.slice aO x5.length cO,.slice (RlS.mk ao cap xs c7 D7 d7).ao (RlS.mk ao cap xs c7 D7 d7).xs.length (RlS.mk ao cap xs c7 D7 d7).cap]) (fun j=>!(List.contains [5,7] j)) [(0,true),(1,true),(2,true),(3,false),(4,false),(5,false),(6,true),(7,false)] rfl (by kernel_rfl) (by kernel_rfl) sA ?_;intro wd F hW hR;refine u_ ?_;intros;refine GX.gow ?_;refine (cl (rdIns_spec p c7 D7 d7 (by omega)) fun s=>?_);obtain⟨cs8,x,c8,D8,d8,hs⟩:=s;dsimp only;refine u_ ?_;intros;refine unpin (RowR b3 80 _) ?_;refine u_ ?_;intros;refine w_ ?_;intros;refine nmS 24 ?_;rintro a9 c9 rfl rfl;rw[show xs.length+1=(xs++[x]).length by simp];exact again ⟨a9,c9,xs++[x],c8,D8,d8⟩ ⟨rfl,rfl,rfl,rfl,rfl,trivial⟩ ⟨by dsimp only;rw[List.length_append];exact hlt,by dsimp only;rw[List.length_append];exact rdl_snoc g2 hs⟩ (by dsimp only;rw[List.length_append,List.length_singleton];omega)
 ·refine frz ao ?_;refine frzR b3 (e:=tyUnt) (vs:=[.int .i64 x1,.slice aV x2.length cV,.int .i64 x3,.slice aT x4.length cT,.slice aO x5.length cO,.slice ao xs.length cap]) (y:=(⟨x1,x2,x3,x4,x5,xs⟩:Unt)) ?_ (show Reads _ _ tyUnt (⟨x1,x2,x3,x4,x5,xs⟩:Unt) from Go.GX.Rds.r);refine w_ ?_;intros;exact rt1B (fun cs=>(⟨cs,⟨x1,x2,x3,x4,x5,xs⟩,c7,D7,d7,rd_unt h1 h2 h3 h4 h5 (rdl_end hm g2 (.inl (by omega)) (by omega) (by omega) (fun x _=>encI_pos x))⟩:RdaS encU Unt.ok D d)) (fun _=>rfl)
structure HdS (α:Type) where
 ao:Option Addr
 cap:Nat
 xs:List α
set_option maxHeartbeats 1000000 in
theorem rdProg_spec (p:Nat)(c:AC)(D:List Int)(d:Bool)(hD:D.length<=4194304):
  Does Tryz.prog 17 [.pointer (some ⟨p,0,none⟩)] [Sl Ty.byte c.1 c.2 D] [RowR p 67 [.slice c.1 D.length c.2,.bool d]] (fun s:RdaS encT RTg.ok D d=>.agg s.cs.toArray) (fun s=>[Sl Ty.byte s.c.1 s.c.2 s.D2,Ag tyRTg s.cs s.x]) (fun s=>[RowR p 67 [.slice s.c.1 s.D2.length s.c.2,.bool s.d2]]):=by
 refine enter Tryz.func17 rfl Tryz.ntmps17 rfl fun b=>?_;refine w_ ?_ 3;intros;apply GX.region;refine w_ ?_ 3;intros;refine nmP 2 ?_;rintro b2 rfl;apply GX.region;refine w_ ?_ 1;intros;refine nmP 3 ?_;rintro b3 rfl;refine GX.o (cl (rdMany_spec p c D d) fun s=>?_);obtain⟨n,c1,D1,d1,hm⟩:=s;dsimp only;have hn1:=hm.fit;have hn2:=hm.len;refine w_ ?_;intros;refine ownNil 75 tyLayout ?_;refine GX.loop (σ:=RlS Layout) (fun q=>[(0,.pointer (some ⟨p,0,none⟩)),(2,.pointer (some ⟨b2,0,none⟩)),(3,.pointer (some ⟨b3,0,none⟩)),(6,.int .i64 (n:Int)),(7,.int .i64 (q.xs.length:Int))]) (fun q=>[Sl Ty.byte q.c.1 q.c.2 q.D]) (fun q=>[RowR p 67 [.slice q.c.1 q.D.length q.c.2,.bool q.d],RowR b3 33 [.slice q.ao q.xs.length q.cap,.slice none 0 0,.slice none 0 0,.int .i64 0],GX.Own 75 tyLayout q.ao q.cap q.xs,Box 33 tyRTg b2 ⟨[],[],[],0⟩])
  (fun q=>q.xs.length<=n/\Rdn (flat encC) (okL Layout.ok q.xs.length) D1 d1 q.xs q.D q.d) (fun q=>n-q.xs.length) ⟨none,0,[],c1,D1,d1⟩ ⟨rfl,rfl,rfl,rfl,rfl,trivial⟩ ⟨Nat.zero_le _,rdl_nil⟩ (fun q hq=>?_)
 obtain⟨ao,cap,xs,c7,D7,d7⟩:=q;obtain⟨g1,g2⟩:=hq;dsimp only at *;have l7:=g2.len;by_cases hlt:xs.length<n
 ·refine w_ ?_;intros;refine drawn1 (RowR b3 33 [.slice ao xs.length cap,.slice none 0 0,.slice none 0 0,.int .i64 0]) (fun j=>!(List.contains [9,11] j)) [(0,true),(1,true),(2,true),(5,true),(3,false),(4,true),(6,false),(7,true),(8,false),(9,false),(10,true),(11,false)] rfl (by kernel_rfl) (by kernel_rfl) sA ?_;intro wd F hW hR;refine u_ ?_;intros;refine GX.gow ?_;refine (cl (rdNum_spec p c7 D7 d7) fun s=>?_);obtain⟨x,c8,D8,d8,hs⟩:=s;dsimp only;have l8:=hs.len;refine u_ ?_;intros;refine GX.gow ?_;refine (cl (rdList_spec p c8 D8 d8 (by omega)) fun s=>?_);obtain⟨aX,cX,ys,c9,D9,d9,hs2⟩:=s;dsimp only;refine u_ ?_;intros;refine unpin (RowR b3 33 _) ?_;refine u_ ?_;intros;refine w_ ?_;intros;refine nmS 18 ?_;rintro a9 c10 rfl rfl;rw[show xs.length+1=(xs++[(⟨decide (x=1),ys⟩:Layout)]).length by simp];exact again ⟨a9,c10,xs++[⟨decide (x=1),ys⟩],c9,D9,d9⟩ ⟨rfl,rfl,rfl,rfl,rfl,trivial⟩ ⟨by dsimp only;rw[List.length_append];exact hlt,by dsimp only;rw[List.length_append];exact rdl_snoc g2 (rd_lay hs hs2)⟩ (by dsimp only;rw[List.length_append,List.length_singleton];omega)
 have hcl:=rdl_end hm g2 (.inl (by omega)) (by omega) (by omega) (fun x _=>encC_pos x);clear hm g2;refine frz ao ?_;refine w_ ?_;intros;refine GX.o (cl (rdList_spec p c7 D7 d7 (by omega)) fun s=>?_);obtain⟨aG,cG,gl,c8,D8,d8,hg⟩:=s;dsimp only;have l8:=hg.len;refine w_ ?_;intros;refine GX.o (cl (rdMany_spec p c8 D8 d8) fun s=>?_);obtain⟨n2,c9,D9,d9,hm2⟩:=s;dsimp only;have hn3:=hm2.fit;have hn4:=hm2.len;refine w_ ?_;intros;refine ownNil 80 tyUnt ?_;refine GX.loop (σ:=RlS Unt) (fun q=>[(0,.pointer (some ⟨p,0,none⟩)),(2,.pointer (some ⟨b2,0,none⟩)),(3,.pointer (some ⟨b3,0,none⟩)),(25,.int .i64 (n2:Int)),(26,.int .i64 (q.xs.length:Int))]) (fun q=>[Sl Ty.byte q.c.1 q.c.2 q.D]) (fun q=>[RowR p 67 [.slice q.c.1 q.D.length q.c.2,.bool q.d],RowR b3 33 [.slice ao xs.length cap,.slice aG gl.length cG,.slice q.ao q.xs.length q.cap,.int .i64 0],GX.Own 80 tyUnt q.ao q.cap q.xs,Box 33 tyRTg b2 ⟨[],[],[],0⟩])
  (fun q=>q.xs.length<=n2/\Rdn (flat encU) (okL Unt.ok q.xs.length) D9 d9 q.xs q.D q.d) (fun q=>n2-q.xs.length) ⟨none,0,[],c9,D9,d9⟩ ⟨rfl,rfl,rfl,rfl,rfl,trivial⟩ ⟨Nat.zero_le _,rdl_nil⟩ (fun q hq=>?_)
 obtain⟨aU,cU,us,c5,D5,d5⟩:=q;obtain⟨g1,g2⟩:=hq;dsimp only at *;have l5:=g2.len;by_cases hlt2:us.length<n2
 ·refine w_ ?_;intros;refine drawn1 (RowR b3 33 [.slice ao xs.length cap,.slice aG gl.length cG,.slice aU us.length cU,.int .i64 0]) (fun j=>!(List.contains [5,7] j)) [(0,true),(1,true),(2,true),(3,false),(4,false),(5,false),(6,true),(7,false)] rfl (by kernel_rfl) (by kernel_rfl) sA ?_;intro wd F hW hR;refine u_ ?_;intros;refine GX.gow ?_;refine (cl (rdUnit_spec p c5 D5 d5 (by omega)) fun s=>?_);obtain⟨cs6,u,c6,D6,d6,hs⟩:=s;dsimp only;refine u_ ?_;intros;refine unpin (RowR b3 33 _) ?_;refine u_ ?_;intros;refine w_ ?_;intros;refine nmS 33 ?_;rintro a9 c10 rfl rfl;rw[show us.length+1=(us++[u]).length by simp];exact again ⟨a9,c10,us++[u],c6,D6,d6⟩ ⟨rfl,rfl,rfl,rfl,rfl,trivial⟩ ⟨by dsimp only;rw[List.length_append];exact hlt2,by dsimp only;rw[List.length_append];exact rdl_snoc g2 hs⟩ (by dsimp only;rw[List.length_append,List.length_singleton];omega)
 have hul:=rdl_end hm2 g2 (.inl (by omega)) (by omega) (by omega) (fun x _=>encU_pos x);refine frz aU ?_;refine w_ ?_;intros;refine GX.o (cl (rdNum_spec p c5 D5 d5) fun s=>?_);obtain⟨m,c6,D6,d6,hm3⟩:=s;dsimp only;refine w_ ?_;intros;exact rt1B (fun cs=>(⟨cs,⟨xs,gl,us,m⟩,c6,D6,d6,rd_rtg hcl hg hul hm3⟩:RdaS encT RTg.ok D d)) (fun _=>rfl)
end Go.Proofs.YtojfbbggnkijeaaGreatDoor
namespace Go.Proofs.YtojfbbggnkijeaaGreatDoor
variable {p:Int->Bool} {xs:List Int}
def idxF (p:Int->Bool)(xs:List Int):Int:=match xs.findIdx? p with|some i=>(i:Int)|none=>-1
theorem idxF_some {i:Nat}{x:Int}(hx:xs[i]?=some x)(hp:p x=true)(hn:∀y∈xs.take i,p y=false):idxF p xs=i:=by
 have hl:=(List.getElem?_eq_some_iff.1 hx).1;have:xs.findIdx? p=some i:=by
  rw[List.findIdx?_eq_some_iff_getElem];refine⟨hl,by rw[(List.getElem?_eq_some_iff.1 hx).2];exact hp,fun j hj=>?_⟩;have:=hn (xs[j]'(by omega)) (List.mem_take_iff_getElem.2 ⟨j,by omega,rfl⟩);simp[this]
 unfold idxF;rw[this]
theorem idxF_none (hn:∀y∈xs,p y=false):idxF p xs=-1:=by
 have:xs.findIdx? p=none:=List.findIdx?_eq_none_iff.2 hn;unfold idxF;rw[this]
theorem idxF_any (p:Int->Bool)(xs:List Int):decide (0<=idxF p xs)=xs.any p:=by
 unfold idxF
 cases h:xs.findIdx? p with
 |none=>
  have:=List.findIdx?_eq_none_iff.1 h;have e:xs.any p=false:=List.any_eq_false.2 fun x hx=>by simp[this x hx]
  rw[e];rfl
 |some i=>
  obtain⟨hl,hp,_⟩:=List.findIdx?_eq_some_iff_getElem.1 h;have e:xs.any p=true:=List.any_eq_true.2 ⟨_,List.getElem_mem hl,hp⟩;rw[e];simp
theorem take_all_succ {i:Nat}{x:Int}(hx:xs[i]?=some x)(hp:p x=false)(hn:∀y∈xs.take i,p y=false):∀y∈xs.take (i+1),p y=false:=by
 intro y hy;rw[List.take_add_one,hx,List.mem_append] at hy
 rcases hy with hy|hy
 ·exact hn y hy
 ·simp at hy;subst hy;exact hp
end Go.Proofs.YtojfbbggnkijeaaGreatDoor
namespace Go.Proofs.YtojfbbggnkijeaaGreatDoor
open Go Go.RR Go.RX Go.GX
attribute [local irreducible] wpList Code.wp wpPlan Exit.then Exit.inBlock bodyPost NoPanic Went GX.Post Again Meet RowR GX.Own Owns Box Sl Pt Ag MapR Kept Pin wpT GoK AtEnd Both
theorem indexFunc_spec (ao:Option Addr)(cap:Nat)(xs:List Int)(fid:Nat)(caps:List Value)(psC:List Pf)(hpC:List Res)(p:Int->Bool)[UFunc Tryz.prog fid]
  (hf:∀x∈xs,Does Tryz.prog fid (.int .i64 x::caps) psC hpC (fun _:Unit=>.bool (p x)) (fun _=>[]) (fun _=>hpC)):
  Does Tryz.prog 191 [.slice ao xs.length cap,.func (.func fid) #[] caps.toArray] (Sl Ty.int ao cap xs::psC) hpC (fun _:Unit=>.int .i64 (idxF p xs)) (fun _=>[]) (fun _=>hpC):=by
 refine enter Tryz.func191 rfl Tryz.ntmps191 rfl fun b=>?_;refine sln ao fun hl1 hl2 _=>?_;refine w_ ?_;intros;refine GX.loop (σ:=Nat) (fun i=>[(0,.slice ao xs.length cap),(1,.func (.func fid) #[] caps.toArray),(7,.int .i64 (xs.length:Int)),(8,.int .i64 (i:Int))]) (fun _=>[]) (fun _=>hpC)
  (fun i=>i<=xs.length/\∀y∈xs.take i,p y=false) (fun i=>xs.length-i) 0 ⟨rfl,rfl,rfl,rfl,trivial⟩ ⟨by omega,by simp⟩ (fun i hi=>?_) (h2:=SelR.all _)
 obtain⟨hi,hn⟩:=hi;by_cases hlt:i<xs.length
 ·obtain⟨x,hx⟩:=get_lt hlt;refine w_ ?_;intros;refine GX.o (clvA (fs:=[]) (vs:=[.int .i64 x]) (cs:=caps) (hf x (List.mem_of_getElem? hx)) fun _=>?_);by_cases hp:p x=true
  ·refine w_ ?_;intros;exact rt1 () (congrArg (Value.int .i64) (idxF_some hx hp hn)) (h2:=SelR.all _)
  ·have hp:p x=false:=by simpa using hp
   refine w_ ?_;intros;exact again (i+1) ⟨rfl,rfl,rfl,rfl,trivial⟩ ⟨by omega,take_all_succ hx hp hn⟩ (by omega) (h2:=SelR.all _)
 ·have hil:i=xs.length:=by omega
  subst hil;refine w_ ?_;intros;rw[List.take_length] at hn;exact rt1 () (congrArg (Value.int .i64) (idxF_none hn)) (h2:=SelR.all _)
theorem containsFunc_spec (ao:Option Addr)(cap:Nat)(xs:List Int)(fid:Nat)(caps:List Value)(psC:List Pf)(hpC:List Res)(p:Int->Bool)[UFunc Tryz.prog fid]
  (hf:∀x∈xs,Does Tryz.prog fid (.int .i64 x::caps) psC hpC (fun _:Unit=>.bool (p x)) (fun _=>[]) (fun _=>hpC)):
  Does Tryz.prog 109 [.slice ao xs.length cap,.func (.func fid) #[] caps.toArray] (Sl Ty.int ao cap xs::psC) hpC (fun _:Unit=>.bool (xs.any p)) (fun _=>[]) (fun _=>hpC):=by
 refine enter Tryz.func109 rfl Tryz.ntmps109 rfl fun b=>?_;refine w_ ?_;intros;refine GX.o (clA (indexFunc_spec ao cap xs fid caps psC hpC p hf) fun _=>?_);rw[<- idxF_any];refine w_ ?_;intros;exact rt1 () rfl (h2:=SelR.all _)
theorem index_spec (ao:Option Addr)(cap:Nat)(l:List Int)(v:Int):Does Tryz.prog 102 [.slice ao l.length cap,.int .i64 v] [Sl Ty.int ao cap l] []
  (fun _:Unit=>.int .i64 (idxF (fun x=>decide (v=x)) l)) (fun _=>[]) (fun _=>[]):=by
 refine enter Tryz.func102 rfl Tryz.ntmps102 rfl fun b=>?_;refine sln ao fun h1 h2 _=>?_;refine w_ ?_;intros;refine GX.loop (σ:=Nat) (fun i=>[(0,.slice ao l.length cap),(1,.int .i64 v),(7,.int .i64 (l.length:Int)),(8,.int .i64 (i:Int))]) (fun _=>[]) (fun _=>[])
  (fun i=>i<=l.length/\∀y∈l.take i,decide (v=y)=false) (fun i=>l.length-i) 0 ⟨rfl,rfl,rfl,rfl,trivial⟩ ⟨by omega,by simp⟩ (fun i hi=>?_)
 obtain⟨hi,hn⟩:=hi;by_cases hlt:i<l.length
 ·obtain⟨x,hx⟩:=get_lt hlt;by_cases hxv:v=x
  ·refine w_ ?_;intros;exact rt1 () (congrArg (Value.int .i64) (idxF_some hx (decide_eq_true hxv) hn))
  ·refine w_ ?_;intros;exact again (i+1) ⟨rfl,rfl,rfl,rfl,trivial⟩ ⟨by omega,take_all_succ (p:=fun y=>decide (v=y)) hx (decide_eq_false hxv) hn⟩ (by omega)
 ·have hil:i=l.length:=by omega
  subst hil;rw[List.take_length] at hn;refine w_ ?_;intros;exact rt1 () (congrArg (Value.int .i64) (idxF_none hn))
theorem contains_spec (ao:Option Addr)(cap:Nat)(l:List Int)(v:Int):Does Tryz.prog 116 [.slice ao l.length cap,.int .i64 v] [Sl Ty.int ao cap l] []
  (fun _:Unit=>.bool (decide (v∈l))) (fun _=>[]) (fun _=>[]):=by
 refine enter Tryz.func116 rfl Tryz.ntmps116 rfl fun b=>?_;refine w_ ?_;intros;refine GX.o (cl (index_spec ao cap l v) fun _=>?_);have e:decide (v∈l)=decide (0<=idxF (fun x=>decide (v=x)) l):=by
  rw[idxF_any,Bool.eq_iff_iff,List.any_eq_true];simp
 rw[e];refine w_ ?_;intros;exact rt1 () rfl
end Go.Proofs.YtojfbbggnkijeaaGreatDoor
namespace Go.Proofs.YtojfbbggnkijeaaGreatDoor
open Go Go.RR Go.RX Go.GX Go.Api Go.RiseM Go.ReachM Go.RtM
attribute [local irreducible] wpList Code.wp wpPlan Exit.then Exit.inBlock bodyPost NoPanic Went GX.Post Again Meet RowR GX.Own Owns Box Sl Pt Ag MapR Kept Pin wpT GoK AtEnd Both
variable {P:Prop}
theorem vY [Decidable P](h:P):Value.bool (decide P)=.bool true:=by rw[decide_eq_true h]
theorem vN [Decidable P](h:¬ P):Value.bool (decide P)=.bool false:=by rw[decide_eq_false h]
theorem vI {Q:Prop}[Decidable P][Decidable Q](h:P<->Q):Value.bool (decide P)=.bool (decide Q):=by rw[decide_eq_decide.2 h]
theorem any_dec {P:Int->Prop}[DecidablePred P](l:List Int):(l.any fun x=>decide (¬ P x))=decide (¬ ∀n∈l,P n):=by
 rw[Bool.eq_iff_iff,List.any_eq_true,decide_eq_true_eq];simp only[decide_eq_true_eq,Classical.not_forall,exists_prop]
theorem isClass_spec (cs:List Value)(t:RTg)(n:Int):Does Tryz.prog 192 [.agg cs.toArray,.int .i64 n] [Ag tyRTg cs t] [] (fun _:Unit=>.bool (decide (IsClass t n))) (fun _=>[]) (fun _=>[]):=by
 refine enter Tryz.func192 rfl Tryz.ntmps192 rfl fun b=>?_;by_cases h:0<=n
 ·refine w_ ?_;intros;exact rt1 () (vI ⟨fun h=>h.2,fun h2=>⟨h,h2⟩⟩)
 ·refine w_ ?_;intros;exact rt1 () (vN fun h2=>h h2.1)
theorem isEntry_spec (cs:List Value)(t:RTg)(n:Int):Does Tryz.prog 111 [.agg cs.toArray,.int .i64 n] [Ag tyRTg cs t] [] (fun _:Unit=>.bool (decide (IsEntry t n))) (fun _=>[]) (fun _=>[]):=by
 refine enter Tryz.func111 rfl Tryz.ntmps111 rfl fun b=>?_;refine w_ ?_;intros;refine GX.o (cl (isClass_spec _ t n) fun _=>?_);by_cases h:IsClass t n
 ·refine w_ ?_;intros;exact rt1 () (vY (.inl h))
 ·by_cases h2:n=-1
  ·refine w_ ?_;intros;exact rt1 () (vY (.inr (.inl h2)))
  ·refine w_ ?_;intros;exact rt1 () (vI ⟨fun h3=>h3.elim (fun h3=>absurd h3 h) fun h3=>h3.elim (fun h3=>absurd h3 h2) id,fun h3=>.inr (.inr h3)⟩)
theorem entries1_spec (bl:Nat)(t:RTg)(n:Int):Does Tryz.prog 110 [.int .i64 n,.pointer (some ⟨bl,0,none⟩)] [Pt tyRTg bl 0 t] [] (fun _:Unit=>.bool (decide (¬ IsEntry t n))) (fun _=>[]) (fun _=>[]):=by
 refine enter Tryz.func110 rfl Tryz.ntmps110 rfl fun b=>?_;refine w_ ?_;intros;refine GX.o (cl (isEntry_spec _ t n) fun _=>?_);refine w_ ?_;intros;exact rt1 () rfl
theorem entries_spec (cs:List Value)(t:RTg)(ao:Option Addr)(cap:Nat)(l:List Int):Does Tryz.prog 51 [.agg cs.toArray,.slice ao l.length cap] [Sl Ty.int ao cap l,Ag tyRTg cs t] [] (fun _:Unit=>.bool (decide (Entries t l))) (fun _=>[]) (fun _=>[]):=by
 refine enter Tryz.func51 rfl Tryz.ntmps51 rfl fun b=>?_;refine w_ ?_;intros;refine nmP 2 ?_;rintro b2 rfl;refine GX.o (cl (containsFunc_spec ao cap l 110 [.pointer (some ⟨b2,0,none⟩)] [Pt tyRTg b2 0 t] [] (fun n=>decide (¬ IsEntry t n)) (fun n _=>entries1_spec b2 t n)) fun _=>?_);rw[any_dec];refine w_ ?_;intros;exact rt1 () (vI Classical.not_not.symm)
theorem isRef_spec (e:Int):Does Tryz.prog 364 [.int .i64 e] [] [] (fun _:Unit=>.bool (decide (IsRef e))) (fun _=>[]) (fun _=>[]):=by
 refine enter Tryz.func364 rfl Tryz.ntmps364 rfl fun b=>?_;refine w_ ?_;intros;exact rt1 () rfl
theorem into_spec (a c:Int):Does Tryz.prog 271 [.int .i64 a,.int .i64 c] [] [] (fun _:Unit=>.bool (decide (Into a c))) (fun _=>[]) (fun _=>[]):=by
 refine enter Tryz.func271 rfl Tryz.ntmps271 rfl fun b=>?_;refine w_ ?_;intros;refine GX.o (cl (isRef_spec a) fun _=>?_)
 have e:Into a c<->if -1<=a then -1<=c/\(c=a\/c=-1) else a=-2/\c=-2:=Iff.rfl
 by_cases h:IsRef a
 ·rw[if_pos h] at e;refine w_ ?_;intros;refine GX.o (cl (isRef_spec c) fun _=>?_);by_cases h2:IsRef c
  ·by_cases h3:c=a
   ·refine w_ ?_;intros;exact rt1 () (vY (e.2 ⟨h2,.inl h3⟩))
   ·refine w_ ?_;intros;exact rt1 () (vI (e.trans ⟨fun h4=>h4.2.elim (fun h5=>absurd h5 h3) id,fun h4=>⟨h2,.inr h4⟩⟩))
  ·refine w_ ?_;intros;exact rt1 () (vN fun h4=>h2 (e.1 h4).1)
 ·rw[if_neg h] at e;by_cases h2:a=-2
  ·refine w_ ?_;intros;exact rt1 () (vI (e.trans ⟨fun h3=>h3.2,fun h3=>⟨h2,h3⟩⟩))
  ·refine w_ ?_;intros;exact rt1 () (vN fun h4=>h2 (e.1 h4).1)
theorem of_spec (cs:List Value)(v:RtView)(n:Int):Does Tryz.prog 272 [.agg cs.toArray,.int .i64 n] [Ag tyRtView cs v] [] (fun _:Unit=>.int .i64 (RtM.of v.u n)) (fun _=>[]) (fun _=>[]):=by
 refine enter Tryz.func272 rfl Tryz.ntmps272 rfl fun b=>?_;by_cases h:n<0
 ·have e:RtM.of v.u n=-3:=by unfold RtM.of;rw[gt_out (.inl h)];rfl
  rw[e];refine w_ ?_;intros;exact rt1 () rfl
 ·by_cases h2:(v.u.vars.length:Int)<=n
  ·have e:RtM.of v.u n=-3:=by unfold RtM.of;rw[gt_out (.inr h2)];rfl
   rw[e];refine w_ ?_;intros;exact rt1 () rfl
  ·obtain⟨x,hx,k,rfl,hk,hx2⟩:=gt_in (l:=v.u.vars) (n:=n) ⟨by omega,by omega⟩;have e:RtM.of v.u k=x:=by unfold RtM.of;rw[hx];rfl
   rw[e];refine w_ ?_;intros;exact rt1 () rfl
theorem plain1_spec (bl:Nat)(v:RtView)(n:Int):Does Tryz.prog 362 [.int .i64 n,.pointer (some ⟨bl,0,none⟩)] [Pt tyRtView bl 0 v] [] (fun _:Unit=>.bool (decide (¬ RtM.of v.u n=-2))) (fun _=>[]) (fun _=>[]):=by
 refine enter Tryz.func362 rfl Tryz.ntmps362 rfl fun b=>?_;refine w_ ?_;intros;refine GX.o (cl (of_spec _ v n) fun _=>?_);refine w_ ?_;intros;exact rt1 () rfl
theorem refs1_spec (bl:Nat)(v:RtView)(n:Int):Does Tryz.prog 363 [.int .i64 n,.pointer (some ⟨bl,0,none⟩)] [Pt tyRtView bl 0 v] [] (fun _:Unit=>.bool (decide (¬ IsRef (RtM.of v.u n)))) (fun _=>[]) (fun _=>[]):=by
 refine enter Tryz.func363 rfl Tryz.ntmps363 rfl fun b=>?_;refine w_ ?_;intros;refine GX.o (cl (of_spec _ v n) fun _=>?_);refine w_ ?_;intros;refine GX.o (cl (isRef_spec _) fun _=>?_);refine w_ ?_;intros;exact rt1 () rfl
theorem plain_spec (cs:List Value)(v:RtView)(ao:Option Addr)(cap m:Nat)(l:List Int)(hm:m=l.length):Does Tryz.prog 269 [.agg cs.toArray,.slice ao m cap] [Sl Ty.int ao cap l,Ag tyRtView cs v] [] (fun _:Unit=>.bool (decide (Plain v.u l))) (fun _=>[]) (fun _=>[]):=by
 subst hm;refine enter Tryz.func269 rfl Tryz.ntmps269 rfl fun b=>?_;refine w_ ?_;intros;refine nmP 2 ?_;rintro b2 rfl;refine GX.o (cl (containsFunc_spec ao cap l 362 [.pointer (some ⟨b2,0,none⟩)] [Pt tyRtView b2 0 v] [] (fun n=>decide (¬ RtM.of v.u n=-2)) (fun n _=>plain1_spec b2 v n)) fun _=>?_);rw[any_dec];refine w_ ?_;intros;exact rt1 () (vI Classical.not_not.symm)
theorem refs_spec (cs:List Value)(v:RtView)(ao:Option Addr)(cap m:Nat)(l:List Int)(hm:m=l.length):Does Tryz.prog 270 [.agg cs.toArray,.slice ao m cap] [Sl Ty.int ao cap l,Ag tyRtView cs v] [] (fun _:Unit=>.bool (decide (Refs v.u l))) (fun _=>[]) (fun _=>[]):=by
 subst hm;refine enter Tryz.func270 rfl Tryz.ntmps270 rfl fun b=>?_;refine w_ ?_;intros;refine nmP 2 ?_;rintro b2 rfl;refine GX.o (cl (containsFunc_spec ao cap l 363 [.pointer (some ⟨b2,0,none⟩)] [Pt tyRtView b2 0 v] [] (fun n=>decide (¬ IsRef (RtM.of v.u n))) (fun n _=>refs1_spec b2 v n)) fun _=>?_);rw[any_dec];refine w_ ?_;intros;exact rt1 () (vI Classical.not_not.symm)
theorem place_spec (cs:List Value)(v:RtView)(n:Int):Does Tryz.prog 367 [.agg cs.toArray,.int .i64 n] [Ag tyRtView cs v] [] (fun _:Unit=>.bool (decide (RtM.Place v.u n))) (fun _=>[]) (fun _=>[]):=by
 refine enter Tryz.func367 rfl Tryz.ntmps367 rfl fun b=>?_;by_cases h:0<=n
 ·refine w_ ?_;intros;exact rt1 () (vI ⟨fun h=>h.2,fun h2=>⟨h,h2⟩⟩)
 ·refine w_ ?_;intros;exact rt1 () (vN fun h2=>h h2.1)
variable {p:Int->Bool} {l:List Int}
abbrev UpP (p:Int->Bool)(l:List Int):Prop:=Rise l/\∀n∈l,p n=true
theorem upP_snoc {i:Nat}{x:Int}(hx:l[i]?=some x):UpP p (l.take (i+1))<->UpP p (l.take i)/\(∀k y,i=k+1->l[k]?=some y->y<x)/\p x=true:=by
 have e:l.take (i+1)=l.take i++[x]:=by rw[List.take_add_one,hx];rfl
 rw[e];unfold UpP Rise;rw[List.pairwise_append];constructor
 ·rintro⟨⟨h1,_,h2⟩,h3⟩;refine⟨⟨h1,fun n hn=>h3 n (by simp[hn])⟩,fun k y hk hy=>h2 y ?_ x (by simp),h3 x (by simp)⟩;exact List.mem_take_iff_getElem.2 ⟨k,by have:=(List.getElem?_eq_some_iff.1 hy).1;omega,(List.getElem?_eq_some_iff.1 hy).2⟩
 ·rintro⟨⟨h1,h2⟩,h3,h4⟩;refine⟨⟨h1,by simp,fun a ha c hc=>?_⟩,fun n hn=>?_⟩
  ·obtain rfl:c=x:=by simpa using hc
   obtain⟨j,hj,rfl⟩:=List.mem_take_iff_getElem.1 ha
   cases i with
   |zero=>omega
   |succ k=>
    have hkl:k<l.length:=by have:=(List.getElem?_eq_some_iff.1 hx).1;omega
    have h5:=h3 k l[k] rfl (List.getElem?_eq_getElem hkl);by_cases e:j=k
    ·subst e;exact h5
    ·have h6:=List.pairwise_iff_getElem.1 h1 j k (by rw[List.length_take];omega) (by rw[List.length_take];omega) (by omega);rw[List.getElem_take,List.getElem_take] at h6;omega
  ·rw[List.mem_append,List.mem_singleton] at hn
   rcases hn with hn|hn
   ·exact h2 n hn
   ·subst hn;exact h4
theorem upP_take (i:Nat)(h:UpP p l):UpP p (l.take i):=⟨h.1.sublist (List.take_sublist _ _),fun n hn=>h.2 n (List.mem_of_mem_take hn)⟩
theorem last2 {k k2:Nat}{y z x:Int}(e:k=k2)(hy:l[k]?=some y)(hz:l[k2]?=some z)(h:y<x):z<x:=by subst e;rw[hy] at hz;cases hz;exact h
theorem rising_spec (ao:Option Addr)(cap:Nat)(l:List Int)(fid:Nat)(caps:List Value)(psC:List Pf)(hpC:List Res)(p:Int->Bool)[UFunc Tryz.prog fid]
  (hf:∀x∈l,Does Tryz.prog fid (.int .i64 x::caps) psC hpC (fun _:Unit=>.bool (p x)) (fun _=>[]) (fun _=>hpC)):
  Does Tryz.prog 193 [.slice ao l.length cap,.func (.func fid) #[] caps.toArray] (Sl Ty.int ao cap l::psC) hpC (fun _:Unit=>.bool (decide (UpP p l))) (fun _=>[]) (fun _=>hpC):=by
 refine enter Tryz.func193 rfl Tryz.ntmps193 rfl fun b=>?_;refine sln ao fun hl1 hl2 _=>?_;refine w_ ?_;intros;refine GX.loop (σ:=Nat) (fun i=>[(0,.slice ao l.length cap),(1,.func (.func fid) #[] caps.toArray),(7,.slice ao l.length cap),(8,.int .i64 (l.length:Int)),(9,.int .i64 (i:Int))]) (fun _=>[]) (fun _=>hpC)
  (fun i=>i<=l.length/\UpP p (l.take i)) (fun i=>l.length-i) 0 ⟨rfl,rfl,rfl,rfl,rfl,trivial⟩ ⟨by omega,by simp[UpP,Rise]⟩ (fun i hi=>?_) (h2:=SelR.all _)
 obtain⟨hi,hU⟩:=hi;by_cases hlt:i<l.length
 ·obtain⟨x,hx⟩:=get_lt hlt;have hs:=upP_snoc (p:=p) hx;have no:¬ UpP p (l.take (i+1))->¬ UpP p l:=fun h h2=>h (upP_take _ h2);by_cases h0:i=0
  ·subst h0;refine w_ ?_;intros;refine GX.o (clvA (fs:=[]) (vs:=[.int .i64 x]) (cs:=caps) (hf x (List.mem_of_getElem? hx)) fun _=>?_)
   cases hp:p x with
   |true=>
    refine w_ ?_;intros;exact again 1 ⟨rfl,rfl,rfl,rfl,rfl,trivial⟩ ⟨by omega,hs.2 ⟨hU,fun k y hk=>by omega,hp⟩⟩ (by omega) (h2:=SelR.all _)
   |false=>
    refine w_ ?_;intros;exact rt1 () (vN (no fun h=>by rw[(hs.1 h).2.2] at hp;cases hp)) (h2:=SelR.all _)
  ·obtain⟨k,rfl⟩:∃k,i=k+1:=⟨i-1,by omega⟩;obtain⟨y,hy⟩:=get_lt (show k<l.length by omega);by_cases hxy:x<=y
   ·refine w_ ?_;intros;exact rt1 () (vN (no fun h=>by have:=(hs.1 h).2.1 k y rfl hy;omega)) (h2:=SelR.all _)
   ·refine w_ ?_;intros;refine GX.o (clvA (fs:=[]) (vs:=[.int .i64 x]) (cs:=caps) (hf x (List.mem_of_getElem? hx)) fun _=>?_)
    cases hp:p x with
    |true=>
     refine w_ ?_;intros;exact again (k+2) ⟨rfl,rfl,rfl,rfl,rfl,trivial⟩ ⟨by omega,hs.2 ⟨hU,fun k2 z hk hz=>last2 (show k=k2 by omega) hy hz (by omega),hp⟩⟩ (by omega) (h2:=SelR.all _)
    |false=>
     refine w_ ?_;intros;exact rt1 () (vN (no fun h=>by rw[(hs.1 h).2.2] at hp;cases hp)) (h2:=SelR.all _)
 ·have hil:i=l.length:=by omega
  subst hil;rw[List.take_length] at hU;refine w_ ?_;intros;exact rt1 () (vY hU) (h2:=SelR.all _)
theorem cell_spec (cs:List Value)(v:RtView)(n:Int)(arr:Bool)(c:Int):Does Tryz.prog 365 [.agg cs.toArray,.int .i64 n,.bool arr,.int .i64 c] [Ag tyRtView cs v] []
  (fun _:Unit=>.tuple #[.int .i64 (cell v.t v.u n arr c).1,.bool (cell v.t v.u n arr c).2.1,.bool (cell v.t v.u n arr c).2.2]) (fun _=>[]) (fun _=>[]):=by
 refine enter Tryz.func365 rfl Tryz.ntmps365 rfl fun b=>?_;refine w_ ?_;intros;refine GX.o (cl (of_spec _ v n) fun _=>?_);by_cases h1:RtM.of v.u n=-1
 ·rw[cell_null h1];by_cases h2:0<=c
  ·have e2:decide (0<=c/\c<8)=decide (c<8):=decide_eq_decide.2 ⟨fun h=>h.2,fun h=>⟨h2,h⟩⟩;rw[e2];refine w_ ?_;intros;exact rt3 () rfl
  ·have e2:decide (0<=c/\c<8)=false:=decide_eq_false fun h=>h2 h.1;rw[e2];refine w_ ?_;intros;exact rt3 () rfl
 ·by_cases h2:IsClass v.t (RtM.of v.u n)
  ·obtain⟨L,hL,k,hk,hkl,hL2⟩:=gt_in h2;by_cases h3:L.arr=arr
   ·have hb:(L.arr != arr)=false:=by rw[h3];simp
    by_cases h4:c<0
    ·rw[cell_out h1 hL h3 (gt_out (.inl h4)),hk];rw[hk] at h1 h2;have h2':=Classical.not_not.2 h2;refine w_ ?_;intros;refine GX.o (cl (isClass_spec _ v.t k) fun _=>?_);refine w_ ?_;intros;exact rt3 () rfl
    ·by_cases h5:(L.refs.length:Int)<=c
     ·rw[cell_out h1 hL h3 (gt_out (.inr h5)),hk];rw[hk] at h1 h2;have h2':=Classical.not_not.2 h2;refine w_ ?_;intros;refine GX.o (cl (isClass_spec _ v.t k) fun _=>?_);refine w_ ?_;intros;exact rt3 () rfl
     ·obtain⟨x,hx,j,rfl,hj,hxj⟩:=gt_in (l:=L.refs) (n:=c) ⟨by omega,by omega⟩;rw[cell_some h1 hL h3 hx,hk];rw[hk] at h1 h2;have h2':=Classical.not_not.2 h2;refine w_ ?_;intros;refine GX.o (cl (isClass_spec _ v.t k) fun _=>?_);refine w_ ?_;intros;exact rt3 () rfl
   ·have hb:(L.arr != arr)=true:=by simpa using h3
    rw[cell_arr h1 hL h3,hk];rw[hk] at h1 h2;have h2':=Classical.not_not.2 h2;refine w_ ?_;intros;refine GX.o (cl (isClass_spec _ v.t k) fun _=>?_);refine w_ ?_;intros;exact rt3 () rfl
  ·have e2:gt v.t.classes (RtM.of v.u n)=none:=gt_out (by unfold IsClass at h2;omega);rw[cell_none h1 e2];refine w_ ?_;intros;refine GX.o (cl (isClass_spec _ v.t _) fun _=>?_);refine w_ ?_;intros;exact rt3 () rfl
theorem loads_spec (cs:List Value)(v:RtView)(a f:Int)(arr:Bool)(c:Int):Does Tryz.prog 274 [.agg cs.toArray,.int .i64 a,.int .i64 f,.bool arr,.int .i64 c] [Ag tyRtView cs v] []
  (fun _:Unit=>.bool (decide (Loads v.t v.u a f arr c))) (fun _=>[]) (fun _=>[]):=by
 refine enter Tryz.func274 rfl Tryz.ntmps274 rfl fun b=>?_;refine w_ ?_;intros;refine GX.o (cl (cell_spec _ v f arr c) fun _=>?_)
 have hL:Loads v.t v.u a f arr c<->(cell v.t v.u f arr c).2.2=true/\(if (cell v.t v.u f arr c).2.1=true then RtM.of v.u a≠-3 else Into (RtM.of v.u a) (cell v.t v.u f arr c).1):=Iff.rfl;generalize cell v.t v.u f arr c=x at *;obtain⟨e,any,ok⟩:=x;dsimp only at*
 cases ok with
 |false=>
  refine w_ ?_;intros;exact rt1 () (vN fun h=>by simp at hL;exact hL h)
 |true=>
  cases any with
  |true=>
   rw[if_pos rfl] at hL;refine w_ ?_;intros;refine GX.o (cl (of_spec _ v a) fun _=>?_);by_cases h:RtM.of v.u a=-3
   ·refine w_ ?_;intros;exact rt1 () (vN fun h2=>(hL.1 h2).2 h)
   ·refine w_ ?_;intros;exact rt1 () (vY (hL.2 ⟨rfl,h⟩))
  |false=>
   rw[if_neg (by simp)] at hL;refine w_ ?_;intros;refine GX.o (cl (of_spec _ v a) fun _=>?_);refine w_ ?_;intros;refine GX.o (cl (into_spec _ e) fun _=>?_);refine w_ ?_;intros;exact rt1 () (vI (hL.trans ⟨fun h=>h.2,fun h=>⟨rfl,h⟩⟩))
theorem lays_spec (cs:List Value)(v:RtView)(to:Int)(arr:Bool)(c d:Int):Does Tryz.prog 275 [.agg cs.toArray,.int .i64 to,.bool arr,.int .i64 c,.int .i64 d] [Ag tyRtView cs v] []
  (fun _:Unit=>.bool (decide (Lays v.t v.u to arr c d))) (fun _=>[]) (fun _=>[]):=by
 refine enter Tryz.func275 rfl Tryz.ntmps275 rfl fun b=>?_;refine w_ ?_;intros;refine GX.o (cl (cell_spec _ v to arr c) fun _=>?_)
 have hL:Lays v.t v.u to arr c d<->(cell v.t v.u to arr c).2.2=true/\(if (cell v.t v.u to arr c).2.1=true then RtM.of v.u d≠-3 else Into (cell v.t v.u to arr c).1 (RtM.of v.u d)):=Iff.rfl;generalize cell v.t v.u to arr c=x at *;obtain⟨e,any,ok⟩:=x;dsimp only at*
 cases ok with
 |false=>
  refine w_ ?_;intros;exact rt1 () (vN fun h=>by simp at hL;exact hL h)
 |true=>
  cases any with
  |true=>
   rw[if_pos rfl] at hL;refine w_ ?_;intros;refine GX.o (cl (of_spec _ v d) fun _=>?_);by_cases h:RtM.of v.u d=-3
   ·refine w_ ?_;intros;exact rt1 () (vN fun h2=>(hL.1 h2).2 h)
   ·refine w_ ?_;intros;exact rt1 () (vY (hL.2 ⟨rfl,h⟩))
  |false=>
   rw[if_neg (by simp)] at hL;refine w_ ?_;intros;refine GX.o (cl (of_spec _ v d) fun _=>?_);refine w_ ?_;intros;refine GX.o (cl (into_spec e _) fun _=>?_);refine w_ ?_;intros;exact rt1 () (vI (hL.trans ⟨fun h=>h.2,fun h=>⟨rfl,h⟩⟩))
theorem length_spec (cs:List Value)(v:RtView):Does Tryz.prog 276 [.agg cs.toArray] [Ag tyRtView cs v] []
  (fun _:Unit=>.bool (decide ((cell v.t v.u v.i.b true 0).2.2=true/\RtM.of v.u v.i.a=-2))) (fun _=>[]) (fun _=>[]):=by
 refine enter Tryz.func276 rfl Tryz.ntmps276 rfl fun b=>?_;refine w_ ?_;intros;refine GX.o (cl (cell_spec _ v v.i.b true 0) fun _=>?_);generalize cell v.t v.u v.i.b true 0=x at *;obtain⟨e,any,ok⟩:=x;dsimp only at*
 cases ok with
 |false=>
  refine w_ ?_;intros;exact rt1 () (vN fun h=>by simp at h)
 |true=>
  refine w_ ?_;intros;refine GX.o (cl (plain_spec _ v _ _ _ [v.i.a] rfl) fun _=>?_);refine w_ ?_;intros;have e2:Plain v.u [v.i.a]<->RtM.of v.u v.i.a=-2:=by simp[Plain]
  exact rt1 () (vI ⟨fun h=>e2.2 h.2,fun h=>⟨rfl,e2.1 h⟩⟩)
set_option maxHeartbeats 1000000 in
theorem fresh_spec (cs:List Value)(v:RtView)(arr:Bool):Does Tryz.prog 277 [.agg cs.toArray,.bool arr] [Ag tyRtView cs v] []
  (fun _:Unit=>.bool (decide (Fresh v.t v.u v.i arr))) (fun _=>[]) (fun _=>[]):=by
 refine enter Tryz.func277 rfl Tryz.ntmps277 rfl fun b=>?_;refine w_ ?_;intros;refine nmP 5 ?_;rintro b5 rfl;refine frzB b5 ?_;by_cases h:IsClass v.t v.i.n
 ·obtain⟨L,hL,k,hk,hkl,hL2⟩:=gt_in h;have hF:Fresh v.t v.u v.i arr<->L.arr=arr/\RtM.of v.u v.i.a=v.i.n:=by unfold Fresh;rw[hL]
  by_cases h3:L.arr=arr
  ·have hb:(L.arr==arr)=true:=by rw[h3];simp
   refine drawn0 (fun j=>!(List.contains [4] j)) [(0,true),(1,true),(2,true),(3,true),(4,false),(5,true),(6,true),(7,true),(8,true),(9,true),(10,true),(11,true),(12,true),(13,true),(14,true),(15,true),(16,true),(17,true),(18,true),(19,true),(20,true),(22,true),(23,true),(21,false),(24,true),(25,true),(26,true)] rfl (by kernel_rfl) (by kernel_rfl) sA ?_;intro wd F hW hR;refine u_ ?_;intros;refine GX.gow ?_;refine (cl (isClass_spec _ v.t v.i.n) fun _=>?_);refine u_ ?_;intros;refine GX.gow ?_;refine (cl (of_spec _ v v.i.a) fun _=>?_);refine u_ ?_;intros;refine w_ ?_;intros;exact rt1 () (vI (hF.trans ⟨fun h=>h.2,fun h=>⟨h3,h⟩⟩))
  ·have hb:(L.arr==arr)=false:=by simpa using h3
   refine drawn0 (fun j=>!(List.contains [4] j)) [(0,true),(1,true),(2,true),(3,true),(4,false),(5,true),(6,true),(7,true),(8,true),(9,true),(10,true),(11,true),(12,true),(13,true),(14,true),(15,true),(16,true),(17,true),(18,true),(19,true),(20,true),(22,true),(23,true),(21,false),(24,true),(25,true),(26,true)] rfl (by kernel_rfl) (by kernel_rfl) sA ?_;intro wd F hW hR;refine u_ ?_;intros;refine GX.gow ?_;refine (cl (isClass_spec _ v.t v.i.n) fun _=>?_);refine u_ ?_;intros;refine w_ ?_;intros;exact rt1 () (vN fun h4=>h3 (hF.1 h4).1)
 ·have hF:¬ Fresh v.t v.u v.i arr:=by unfold Fresh;rw[gt_out (by unfold IsClass at h;omega)];exact id
  refine drawn0 (fun j=>!(List.contains [4] j)) [(0,true),(1,true),(2,true),(3,true),(4,false),(5,true),(6,true),(7,true),(8,true),(9,true),(10,true),(11,true),(12,true),(13,true),(14,true),(15,true),(16,true),(17,true),(18,true),(19,true),(20,true),(22,true),(23,true),(21,false),(24,true),(25,true),(26,true)] rfl (by kernel_rfl) (by kernel_rfl) sA ?_;intro wd F hW hR;refine u_ ?_;intros;refine GX.gow ?_;refine (cl (isClass_spec _ v.t v.i.n) fun _=>?_);refine u_ ?_;intros;refine w_ ?_;intros;exact rt1 () (vN hF)
set_option maxHeartbeats 1000000 in
theorem two_spec (cs:List Value)(v:RtView):Does Tryz.prog 273 [.agg cs.toArray] [Ag tyRtView cs v] []
  (fun _:Unit=>.bool (decide (Two v.u v.i))) (fun _=>[]) (fun _=>[]):=by
 refine enter Tryz.func273 rfl Tryz.ntmps273 rfl fun b=>?_;by_cases h1:v.i.n<14
 ·refine w_ ?_;intros;exact rt1 () (vN fun h=>by have:=h.1;omega)
 by_cases h2:24<v.i.n
 ·refine w_ ?_;intros;exact rt1 () (vN fun h=>by have:=h.1;omega)
 refine w_ ?_;intros;refine GX.o (cl (plain_spec _ v _ _ _ [v.i.a] rfl) fun _=>?_);by_cases h3:Plain v.u [v.i.a]
 ·have h3':=Classical.not_not.2 h3;have h4:RtM.of v.u v.i.a=-2:=h3 _ (by simp);refine w_ ?_;intros;refine GX.o (cl (plain_spec _ v _ _ _ [v.i.b,v.i.c] rfl) fun _=>?_);have e5:Plain v.u [v.i.b,v.i.c]<->RtM.of v.u v.i.b=-2/\RtM.of v.u v.i.c=-2:=by simp[Plain]
  by_cases h5:Plain v.u [v.i.b,v.i.c]
  ·refine w_ ?_;intros;exact rt1 () (vY ⟨by omega,h4,.inl (e5.1 h5)⟩)
  ·have e6:Refs v.u [v.i.b,v.i.c]<->IsRef (RtM.of v.u v.i.b)/\IsRef (RtM.of v.u v.i.c):=by simp[Refs]
   by_cases h6:v.i.n=21
   ·refine w_ ?_;intros;refine GX.o (cl (refs_spec _ v _ _ _ [v.i.b,v.i.c] rfl) fun _=>?_);refine w_ ?_;intros;exact rt1 () (vI ⟨fun h=>h.2.2.elim (fun h7=>absurd (e5.2 h7) h5) (fun h7=>e6.2 h7.2),fun h=>⟨by omega,h4,.inr ⟨.inl h6,e6.1 h⟩⟩⟩)
   ·by_cases h7:v.i.n=22
    ·refine w_ ?_;intros;refine GX.o (cl (refs_spec _ v _ _ _ [v.i.b,v.i.c] rfl) fun _=>?_);refine w_ ?_;intros;exact rt1 () (vI ⟨fun h=>h.2.2.elim (fun h7=>absurd (e5.2 h7) h5) (fun h7=>e6.2 h7.2),fun h=>⟨by omega,h4,.inr ⟨.inr h7,e6.1 h⟩⟩⟩)
    ·refine w_ ?_;intros;exact rt1 () (vN fun h=>h.2.2.elim (fun h8=>h5 (e5.2 h8)) (fun h8=>h8.1.elim h6 h7))
 ·refine w_ ?_;intros;exact rt1 () (vN fun h=>h3 fun n hn=>by rw[List.mem_singleton.1 hn];exact h.2.1)
set_option maxHeartbeats 1000000 in
theorem only_spec (cs:List Value)(i:Ins)(a c d n g:Bool):Does Tryz.prog 268 [.agg cs.toArray,.bool a,.bool c,.bool d,.bool n,.bool g] [Ag tyIns cs i] []
  (fun _:Unit=>.bool (decide (Only i a c d n g))) (fun _=>[]) (fun _=>[]):=by
 refine enter Tryz.func268 rfl Tryz.ntmps268 rfl fun b=>?_;have eg:(i.args.length:Int)=0<->i.args=[]:=by rw[<- List.length_eq_zero_iff];omega
 repeat' (first|(apply GX.s_list;first|apply GX.nil|(refine GX.o ?_;first|(apply GX.k_load;first|refine GX.lr ?_|refine GX.lrA ?_|refine GX.ln ?_|refine GX.lb ?_|refine GX.lh ?_|(refine GX.ls ?_;intro ao cap _ _)|(refine GX.lA ?_;intro cs)|(refine GX.l0 ?_;intro cs)|refine GX.o1n ?_|refine GX.o1b ?_|refine GX.o1h ?_|(refine GX.o1s ?_;intro ao cap _ _)|refine GX.omn ?_|refine GX.omb ?_|refine GX.omh ?_|(refine GX.oms ?_;intro ao cap _ _)|refine GX.ofn ?_|refine GX.ofb ?_|refine GX.ofh ?_|(refine GX.ofs ?_;intro ao cap _ _)|(refine GX.oA ?_;intro cs))|(apply GX.k_move;refine GX.m ?_)|(apply GX.k_assign;refine GX.a ?_)|(apply GX.k_fieldAddr;first|refine GX.f0 ?_|refine GX.fh ?_|refine GX.fa ?_)|(apply GX.k_call;refine GX.c_len ?_)|(apply GX.k_pick;first|refine GX.pt ?_|refine GX.pf ?_|refine GX.pk ?_)|(apply GX.k_box;first|(refine GX.bxF ?_;intro _)|(refine GX.bxR ?_;intro _))|(apply GX.k_binOp_eql;first|refine GX.b_eql ?_|refine GX.b_pn ?_|refine GX.b_nn ?_|refine GX.b_snn ?_|refine GX.b_sns ?_|refine GX.b_eqls ?_|refine GX.b_eqltf ?_|refine GX.b_eqlft ?_|refine GX.b_eqlb ?_))|refine GX.gt ?_|refine GX.gf ?_|refine GX.gbt ?_|refine GX.gbf ?_|refine GX.un ?_|refine GX.un0 ?_|(refine GX.gs ?_ ?_<;>intro _)|(refine GX.gsb ?_ ?_<;>intro _))|apply GX.then_normal|apply GX.seq|apply GX.region|(apply GX.s_cond;first|refine GX.ct ?_|refine GX.cf ?_|refine GX.cdf ?_|refine GX.cdt ?_|refine GX.cbt ?_|refine GX.cbf ?_|(refine GX.cs ?_ ?_<;>intro _)|(refine GX.csb ?_ ?_<;>intro _))|apply GX.skip|apply GX.block|apply GX.inBlock_normal|apply GX.exit|apply GX.then_exit|apply GX.inBlock_exit|refine GX.ibo ?_|apply GX.ret|apply GX.then_ret|apply GX.inBlock_ret)
 all_goals first
  |exact rt1 () (vI (Q:=((i.args.length:Int)=0)) (by unfold Only;simp_all))
  |exact rt1 () (vY (by unfold Only;simp_all))
  |exact rt1 () (vN (by unfold Only;simp_all))
end Go.Proofs.YtojfbbggnkijeaaGreatDoor
