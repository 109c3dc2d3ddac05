import Derived.Test.YtojfbbggnkijeaaGreatDoorZ33
set_option linter.all false
namespace Go.Proofs.YtojfbbggnkijeaaGreatDoor
open Go Go.RR Go.RX Go.GX Go.Api Go.RtM
attribute [local irreducible] wpList Code.wp wpPlan Exit.then Exit.inBlock bodyPost NoPanic Went GX.Post Again Meet RowR GX.Own Owns Box Sl Pt Ag MapR Star Kept Pin wpT GoK AtEnd Both
section
variable {t:RTg} {p:Nat} {k:MK} {cs:List Value} {i:Ins} {v:MV} {x:FrC} {xs:List FrC} {f:Fr} {r:List Fr} {c:TabC} {M:Ms}
theorem ownsN_le (h:Tame30 t)(f:Fr):ownsN t f<=4000:=by
 unfold ownsN
 cases hg:gt t.units f.u with
 |none=>exact Nat.zero_le _
 |some u=>exact h.owns u (gt_mem hg)
theorem bound_le {t:RTg}(h:Tame30 t):∀fs:List Fr,1<=bound t fs/\bound t fs<=1+4000*fs.length
 |[]=>⟨by unfold bound;simp,by unfold bound;simp⟩
 |f::fs=>by
  have h1:=bound_le h fs;have h2:=ownsN_le h f;unfold bound at h1 ⊢;rw[List.map_cons,List.sum_cons,List.length_cons];omega
theorem bound_cons (t:RTg)(f:Fr)(fs:List Fr):bound t (f::fs)=bound t fs+ownsN t f:=by
 unfold bound;rw[List.map_cons,List.sum_cons];omega
theorem Pre.bd {u:Unt}(h:Pre t v x xs f r c M i u)(hT:Tame30 t):-1000000000<=v.bound/\v.bound<=1000000000:=by
 have h1:v.bound=bound t M.fs:=h.hI.bd;have h2:=bound_le hT M.fs;have h3:=h.deep;omega
theorem op13 {u:Unt}(hR:RightP t)(hT:Tame30 t)(h:Pre t v x xs f r c M i u)(ho:i.op=13):OpOk t p k cs i v x xs f r c M (M.go t (glob t) f i) 137:=by
 rw[go13 ho];have hlen:M.fs.length=(adrs xs).length+1:=by
  have h1:=h.hI.fr.len;rw[adrs_len];simpa using h1.symm
 have hnb:=h.nb;by_cases hd:40<=M.fs.length
 ·have hc:=call_deep t p k v (adrs xs) x f i cs h.nf (by omega) (by omega);rw[show M.call t (glob t) f i=M.trap 6 from if_pos hd];obtain⟨h0,_⟩|⟨h0,e,d,e1,e2⟩:=trapV_cases v 6
  ·omega
  rw[e1] at hc;rw[e2]
  exact op_keep hc (fun _=>{v with en:=e,code:=d }) (fun _=>x) f (fun _=>c) M.inp M.out M.gl (fun _=>h.ends h.hI.tab e d) h.fs rfl rfl rfl
 obtain⟨g,hg,_,hal,hargs,hia,_⟩:=call_v (h.hi.call ho);obtain⟨j,hj,_,hjg⟩:=gt_some hg;have hgm:g∈t.units:=gt_mem hg;have hgv:g.vars.length<=4000:=(right_unit hR hgm).1.1.2.2.2
 cases hm:takeR (glob t) M.tb.B f g.takes (fun _=>0) with
 |none=>
  have hc:=call_no t p k v (adrs xs) x f i cs j g hjg hj (by omega) (by omega) c M.tb h.hI.tab h.hl.2 hm h.nf (by omega) h.hl.1;have e:M.call t (glob t) f i=M.ends 4 0:=by unfold Ms.call;rw[if_neg hd,hg];dsimp only;rw[hm]
  rw[e]
  exact op_keep hc (fun _=>{v with en:=4,code:=0 }) (fun _=>x) f (fun _=>c) M.inp M.out M.gl (fun _=>h.ends h.hI.tab 4 0) h.fs rfl rfl rfl
 |some m=>
  have hc:=call_yes t p k v (adrs xs) x f i cs j g hjg hj (by omega) (by omega) c M.tb h.hI.tab h.hl.2 m hm h.nf (by omega) h.hl.1 (fun n hn=>vok h.hv (hargs n hn)) hal (h.bd hT) (by have:=hT.owns g hgm;omega)
  have e:M.call t (glob t) f i={M with fs:=⟨i.c,0,argsV f i g.vars.length,i.a,m⟩::M.fs}:=by unfold Ms.call;rw[if_neg hd,hg];dsimp only;rw[hm]
  rw[e]
  refine Does.fitT hc (fun s=>⟨⟨{ v with af:=s.1.1.1,nf:=(adrs xs).length+2,cf:=s.1.1.2,bound:=v.bound+g.owns.length },⟨s.1.2.1.1,s.1.2.1.2.1,g.vars.length,s.1.2.1.2.2,s.1.2.2⟩::x::xs,c⟩,?_⟩) aA sA (fun _=>rfl) (fun s=>?_) (fun s=>?_)
  ·refine⟨h.hI.tab,?_,⟨⟨argsV_len _ _ _ hal,s.2⟩,h.hI.fr⟩,h.hI.en,h.hI.code,h.hI.steps,h.hI.slack,h.hI.no,h.hI.ni,?_⟩
   ·show (adrs xs).length+2=xs.length+1+1;rw[adrs_len]
   ·show v.bound+(g.owns.length:Int)=bound t (_::M.fs);rw[bound_cons,show v.bound=bound t M.fs from h.hI.bd];unfold ownsN;dsimp only;rw[hg]
  ·exact aA
  ·dsimp only;rw[h.fs]
   refine Turn.trans ?_ (toMCH (t:=t) (p:=p) (k:=k) (v:={v with af:=s.1.1.1,nf:=(adrs xs).length+2,cf:=s.1.1.2,bound:=v.bound+g.owns.length }) (c:=c) (O:=M.out) (L:=M.gl) (x:=⟨s.1.2.1.1,s.1.2.1.2.1,g.vars.length,s.1.2.1.2.2,s.1.2.2⟩) (xs:=x::xs) (f:=⟨i.c,0,argsV f i g.vars.length,i.a,m⟩) (r:=f::r));rw[show frs (x::xs) (f::r)=[RowR x.bl 255 (mfr x f),GX.Own 3 Ty.int (some ⟨x.vb,0,none⟩) x.n f.vars,MapR x.mb x.mp]++frs xs r from rfl,show adrs (x::xs)=adrs xs++[some ⟨x.bl,0,none⟩] from rfl]
   exact (Turn.sel (hp2:=[RowR x.bl 255 (mfr x f),GX.Own 3 Ty.int (some ⟨x.vb,0,none⟩) x.n f.vars,MapR x.mb x.mp]++(Star (frs xs r)::[RowR p 159 (mrw t k ({ v with af:=s.1.1.1,nf:=(adrs xs).length+2,cf:=s.1.1.2,bound:=v.bound+g.owns.length}:MV)),GX.Own 161 Ty.ptr s.1.1.1 s.1.1.2 (adrs xs++[some ⟨x.bl,0,none⟩]++[some ⟨s.1.2.1.1,0,none⟩]),RowR s.1.2.1.1 255 [.int .i64 i.c,.int .i64 0,.slice (some ⟨s.1.2.1.2.1,0,none⟩) g.vars.length g.vars.length,.int .i64 i.a,.map (some s.1.2.1.2.2)],GX.Own 3 Ty.int (some ⟨s.1.2.1.2.1,0,none⟩) g.vars.length (argsV f i g.vars.length),MapR s.1.2.1.2.2 s.1.2.2,RowR k.tp 248 (tbl c),tA c,tB c,tC c,GX.Own 3 Ty.int v.ao v.co M.out,GX.Own 3 Ty.int (some ⟨k.gb,0,none⟩) t.globals.length M.gl,MapR k.om opsF])) sA).trans (Turn.starI.trans (Turn.sel sA))
theorem op18 {u:Unt}(hT:Tame30 t)(hu:gt t.units f.u=some u)(h:Pre t v x xs f r c M i u)(ho:i.op=18):OpOk t p k cs i v x xs f r c M (M.go t (glob t) f i) 142:=by
 rw[go18 ho];obtain⟨j,hj,_,hjg⟩:=gt_some hu;have hum:u∈t.units:=gt_mem hu;have hia:i.a=-1\/Vok f i.a:=(h.hi.ret ho).imp id (vok h.hv);have hol:u.owns.length<=1000000000:=by have:=hT.owns u hum;omega
 have hown:ownsN t f=u.owns.length:=by unfold ownsN;rw[hu]
 have hfr:=h.hI.fr;have hbd:v.bound=bound t M.fs:=h.hI.bd;have hnf:=h.nf;have hnb:=h.nb;have hl:=h.hl;have hinto:=h.into;have hfs:=h.fs;rw[h.fs] at hfr
 cases r with
 |nil=>
  cases xs with
  |cons y xs=>exact absurd hfr.2 (by simp[FrsAt])
  |nil=>
   have hc:=ret_last t p k v x f i cs j u hjg hj hnf hl.1 hia (h.bd hT) hol
   have e:M.ret f i=({ M with fs:=[]}:Ms).ends 1 0:=by unfold Ms.ret;rw[hfs];rfl
   rw[e]
   refine Does.fitT hc (fun s=>⟨⟨{ v with nf:=0,bound:=v.bound-u.owns.length,en:=1,code:=0 },[],c⟩,?_⟩) aA sA (fun _=>rfl) (fun s=>?_) (fun s=>?_)
   ·refine⟨h.hI.tab,rfl,trivial,rfl,rfl,h.hI.steps,h.hI.slack,h.hI.no,h.hI.ni,?_⟩;show v.bound-(u.owns.length:Int)=bound t [];rw[hbd,hfs,bound_cons,hown];omega
   ·rw[List.nil_append];show AllIn [Sl Ty.int v.ai v.ci M.inp] _;exact aA
   ·dsimp only;exact Turn.sel sA
 |cons hh r=>
  cases xs with
  |nil=>exact absurd hfr.2 (by simp[FrsAt])
  |cons y xs=>
   have hy:=hfr.2.1;have hin:f.into=-1\/Vok hh f.into:=hinto.imp id fun q=>q hh r rfl;have hc:=ret_more t p k v (adrs xs) y hh x f i cs j u hjg hj (by rw[hnf];show (adrs xs++_).length+1=_;rw[List.length_append];rfl) (by have:(adrs xs++[some (⟨y.bl,0,none⟩:Addr)]).length<=900:=hnb;rw[List.length_append] at this;omega) hy.1 hin hl.1 hia (h.bd hT) hol
   have e:M.ret f i={M with fs:=(if 0<=f.into then {hh with vars:=setv hh.vars f.into (if 0<=i.a then lkv f.vars i.a else 0)} else hh)::r}:=by unfold Ms.ret;rw[hfs];rfl
   rw[e]
   obtain⟨h',hh'⟩:∃h':Fr,h'={hh with vars:=if 0<=f.into then setv hh.vars f.into (if 0<=i.a then lkv f.vars i.a else 0) else hh.vars}:=⟨_,rfl⟩
   have e2:(if 0<=f.into then ({ hh with vars:=setv hh.vars f.into (if 0<=i.a then lkv f.vars i.a else 0)}:Fr) else hh)=h':=by
    rw[hh'];split<;>rfl
   have hvl:h'.vars.length=hh.vars.length:=by
    rw[hh'];dsimp only;split
    ·exact setv_len _ _ _
    ·rfl
   rw[e2]
   refine Does.fitU (rest:=[MapR x.mb x.mp,MapR y.mb y.mp,Star (frs xs r),RowR k.tp 248 (tbl c),tA c,tB c,tC c,GX.Own 3 Ty.int v.ao v.co M.out,GX.Own 3 Ty.int (some ⟨k.gb,0,none⟩) t.globals.length M.gl,MapR k.om opsF]) hc (fun s=>⟨⟨{ v with nf:=(adrs xs).length+1,bound:=v.bound-u.owns.length },y::xs,c⟩,?_⟩) aA ?_ (fun _=>rfl) (fun s=>?_) (fun s=>?_)
   ·refine⟨h.hI.tab,?_,⟨⟨hvl.trans hy.1,?_⟩,hfr.2.2⟩,h.hI.en,h.hI.code,h.hI.steps,h.hI.slack,h.hI.no,h.hI.ni,?_⟩
    ·show (adrs xs).length+1=xs.length+1;rw[adrs_len]
    ·rw[hh'];exact hy.2
    ·show v.bound-(u.owns.length:Int)=bound t (h'::r);rw[hbd,hfs,bound_cons,hown,bound_cons,bound_cons,show ownsN t h'=ownsN t hh by unfold ownsN;rw[hh']];omega
   ·rw[show frs (y::xs) (hh::r)=[RowR y.bl 255 (mfr y hh),GX.Own 3 Ty.int (some ⟨y.vb,0,none⟩) y.n hh.vars,MapR y.mb y.mp]++frs xs r from rfl,show adrs (y::xs)=adrs xs++[some ⟨y.bl,0,none⟩] from rfl];refine (Turn.sel (hp2:=Star ([RowR y.bl 255 (mfr y hh),GX.Own 3 Ty.int (some ⟨y.vb,0,none⟩) y.n hh.vars,MapR y.mb y.mp]++frs xs r)::[RowR p 159 (mrw t k v),GX.Own 161 Ty.ptr v.af v.cf (adrs xs++[some ⟨y.bl,0,none⟩]++[some ⟨x.bl,0,none⟩]),RowR x.bl 255 (mfr x f),GX.Own 3 Ty.int (some ⟨x.vb,0,none⟩) x.n f.vars,MapR x.mb x.mp,RowR k.tp 248 (tbl c),tA c,tB c,tC c,GX.Own 3 Ty.int v.ao v.co M.out,GX.Own 3 Ty.int (some ⟨k.gb,0,none⟩) t.globals.length M.gl,MapR k.om opsF]) sA).trans (Turn.starO.trans (Turn.sel sA))
   ·rw[List.nil_append];exact aA
   ·dsimp only
    have e3:GX.Own 3 Ty.int (some ⟨y.vb,0,none⟩) y.n (if 0<=f.into then setv hh.vars f.into (if 0<=i.a then lkv f.vars i.a else 0) else hh.vars)=GX.Own 3 Ty.int (some ⟨y.vb,0,none⟩) y.n h'.vars:=by rw[hh']
    have e4:RowR y.bl 255 (mfr y hh)=RowR y.bl 255 (mfr y h'):=by rw[hh']
    rw[e3,e4]
    exact (Turn.sel (hp2:=[RowR p 159 (mrw t k ({ v with nf:=(adrs xs).length+1,bound:=v.bound-u.owns.length}:MV)),GX.Own 161 Ty.ptr ({ v with nf:=(adrs xs).length+1,bound:=v.bound-u.owns.length}:MV).af ({ v with nf:=(adrs xs).length+1,bound:=v.bound-u.owns.length}:MV).cf ((adrs xs)++[some ⟨y.bl,0,none⟩]),RowR y.bl 255 (mfr y h'),GX.Own 3 Ty.int (some ⟨y.vb,0,none⟩) y.n h'.vars,MapR y.mb y.mp,Star (frs xs r),RowR k.tp 248 (tbl c),tA c,tB c,tC c,GX.Own 3 Ty.int ({ v with nf:=(adrs xs).length+1,bound:=v.bound-u.owns.length}:MV).ao ({ v with nf:=(adrs xs).length+1,bound:=v.bound-u.owns.length}:MV).co M.out,GX.Own 3 Ty.int (some ⟨k.gb,0,none⟩) t.globals.length M.gl,MapR k.om opsF]) sA).trans toMCH
end
theorem op_all {t:RTg}{p:Nat}{k:MK}{i:Ins}{v:MV}{x:FrC}{xs:List FrC}{f:Fr}{r:List Fr}{c:TabC}{M:Ms}{u:Unt}(hR:RightP t)(hT:Tame30 t)(hu:gt t.units f.u=some u)(h:Pre t v x xs f r c M i u):
  ∃fid:FuncId,UFunc Tryz.prog fid/\(opsF i.op).getD .nilFunc=fnV fid/\∀cs,OpOk t p k cs i v x xs f r c M (M.go t (glob t) f i) fid:=by
 obtain⟨h1,h2⟩:=h.hi.op;obtain ho|ho|ho|ho|ho|ho|ho|ho|ho|ho|ho|ho|ho|ho|ho|ho|ho|ho|ho|ho|ho|ho:i.op=1\/i.op=2\/i.op=3\/i.op=4\/i.op=5\/i.op=6\/i.op=7\/i.op=8\/i.op=9\/i.op=10\/i.op=11\/i.op=12\/i.op=13\/i.op=14\/i.op=15\/i.op=16\/i.op=17\/i.op=18\/i.op=19\/i.op=20\/i.op=21\/i.op=22:=by omega
 ·exact⟨_,inferInstance,by rw[ho];rfl,fun _=>op1 h ho⟩
 ·exact⟨_,inferInstance,by rw[ho];rfl,fun _=>op2 h ho⟩
 ·exact⟨_,inferInstance,by rw[ho];rfl,fun _=>op3 h ho⟩
 ·exact⟨_,inferInstance,by rw[ho];rfl,fun _=>op4 h ho⟩
 ·exact⟨_,inferInstance,by rw[ho];rfl,fun _=>op5 h ho⟩
 ·exact⟨_,inferInstance,by rw[ho];rfl,fun _=>op6 h ho⟩
 ·exact⟨_,inferInstance,by rw[ho];rfl,fun _=>op7 h ho⟩
 ·exact⟨_,inferInstance,by rw[ho];rfl,fun _=>op8 h ho⟩
 ·exact⟨_,inferInstance,by rw[ho];rfl,fun _=>op9 h ho⟩
 ·exact⟨_,inferInstance,by rw[ho];rfl,fun _=>op10 h ho⟩
 ·exact⟨_,inferInstance,by rw[ho];rfl,fun _=>op11 h ho⟩
 ·exact⟨_,inferInstance,by rw[ho];rfl,fun _=>op12 h ho⟩
 ·exact⟨_,inferInstance,by rw[ho];rfl,fun _=>op13 hR hT h ho⟩
 ·exact⟨_,inferInstance,by rw[ho];rfl,fun _=>op14 h ho⟩
 ·exact⟨_,inferInstance,by rw[ho];rfl,fun _=>op15 h ho⟩
 ·exact⟨_,inferInstance,by rw[ho];rfl,fun _=>op16 h ho⟩
 ·exact⟨_,inferInstance,by rw[ho];rfl,fun _=>op17 h ho⟩
 ·exact⟨_,inferInstance,by rw[ho];rfl,fun _=>op18 hT hu h ho⟩
 ·exact⟨_,inferInstance,by rw[ho];rfl,fun _=>op19 h ho⟩
 ·exact⟨_,inferInstance,by rw[ho];rfl,fun _=>op20 h ho⟩
 ·exact⟨_,inferInstance,by rw[ho];rfl,fun _=>op21 h ho⟩
 ·exact⟨_,inferInstance,by rw[ho];rfl,fun _=>op22 h ho⟩
instance uzF:UZero Tryz.prog 249 .nilFunc:=⟨Tryz.zeroValue249⟩
structure GoSt where
 S:PS
 M:Ms
theorem goOn_spec (t:RTg)(p:Nat)(k:MK)(hRt:RightP t)(hT:Tame30 t)(fuel:Int)(hf:fuel<=100000)(S0:PS)(M0:Ms)(hI0:MInv t S0 M0)(hok0:MsOk t M0)(hb0:Bnd M0)(n0:Nat)(hn0:M0.steps+n0=fuel):
  Does Tryz.prog 65 [.pointer (some ⟨p,0,none⟩),.int .i64 fuel] [Sl Ty.int k.aL k.cL (glob t),Sl tyLayout k.aC k.cC t.classes,Sl tyUnt k.aU k.cU t.units,Sl Ty.int S0.v.ai S0.v.ci M0.inp] [RowR p 159 (mrw t k S0.v),GX.Own 161 Ty.ptr S0.v.af S0.v.cf (adrs S0.xs),Star (frs S0.xs M0.fs),RowR k.tp 248 (tbl S0.c),tA S0.c,tB S0.c,tC S0.c,GX.Own 3 Ty.int S0.v.ao S0.v.co M0.out,GX.Own 3 Ty.int (some ⟨k.gb,0,none⟩) t.globals.length M0.gl,MapR k.om opsF] (fun _:{S:PS // MInv t S (runM t (glob t) n0 M0)/\MsOk t (runM t (glob t) n0 M0)/\Bnd (runM t (glob t) n0 M0)/\(runM t (glob t) n0 M0).steps<=fuel}=>.tuple #[]) (fun _=>[])
   (fun s=>[RowR p 159 (mrw t k s.1.v),GX.Own 161 Ty.ptr s.1.v.af s.1.v.cf (adrs s.1.xs),Star (frs s.1.xs (runM t (glob t) n0 M0).fs),RowR k.tp 248 (tbl s.1.c),tA s.1.c,tB s.1.c,tC s.1.c,GX.Own 3 Ty.int s.1.v.ao s.1.v.co (runM t (glob t) n0 M0).out,GX.Own 3 Ty.int (some ⟨k.gb,0,none⟩) t.globals.length (runM t (glob t) n0 M0).gl,MapR k.om opsF]):=by
 refine enter Tryz.func65 rfl Tryz.ntmps65 rfl fun _=>?_;refine w_ ?_;intros;refine GX.loop (σ:=GoSt) (fun _=>[(0,.pointer (some ⟨p,0,none⟩)),(1,.int .i64 fuel)]) (fun s=>[Sl Ty.int s.S.v.ai s.S.v.ci s.M.inp]) (fun s=>[RowR p 159 (mrw t k s.S.v),GX.Own 161 Ty.ptr s.S.v.af s.S.v.cf (adrs s.S.xs),Star (frs s.S.xs s.M.fs),RowR k.tp 248 (tbl s.S.c),tA s.S.c,tB s.S.c,tC s.S.c,GX.Own 3 Ty.int s.S.v.ao s.S.v.co s.M.out,GX.Own 3 Ty.int (some ⟨k.gb,0,none⟩) t.globals.length s.M.gl,MapR k.om opsF])
  (fun s=>MInv t s.S s.M/\MsOk t s.M/\Bnd s.M/\∃n:Nat,s.M.steps+n=fuel/\runM t (glob t) n s.M=runM t (glob t) n0 M0) (fun s=>(fuel-s.M.steps).toNat+(if s.M.en=0 then 1 else 0)) ⟨S0,M0⟩ ⟨rfl,rfl,trivial⟩ ⟨hI0,hok0,hb0,n0,hn0,rfl⟩ (fun s hs=>?_)
 obtain⟨⟨v,xs,c⟩,M⟩:=s;obtain⟨hI,hok,hb,n,hn,he⟩:=hs;dsimp only at hI hok hb hn he ⊢;have hen:v.en=M.en:=hI.en;have hst:v.steps=M.steps:=hI.steps;by_cases hz:M.en=0
 ·have hz':v.en=0:=hen.trans hz
  cases n with
  |zero=>
   have hge:fuel<=v.steps:=by omega
   have he':runM t (glob t) 0 M=M.ends 3 0:=if_pos hz;refine w_ ?_;intros;refine GX.o (cl (ends_spec t p k v 3 0) fun _=>?_);refine w_ ?_;intros;rw[<- he,he']
   exact rt0 ⟨⟨{ v with en:=3,code:=0 },xs,c⟩,⟨hI.tab,hI.nf,hI.fr,rfl,rfl,hI.steps,hI.slack,hI.no,hI.ni,hI.bd⟩,⟨hok.fr,hok.into,hok.deep,hok.gl,fun h=>by cases h⟩,⟨hb.st,hb.B,hb.L,hb.O⟩,by show M.steps<=fuel;omega⟩
  |succ n=>
   obtain⟨f,r,u,i,hnx,hnext⟩:=hok.nextOf hz;have hfs:=hnx.fs;have hu:=hnx.unit;obtain⟨ju,hju,hjl,hjg⟩:=gt_some hu;obtain⟨jp,hjp,hpl,hip⟩:=gt_some hnx.ins;have hfr:=hI.fr;rw[hfs] at hfr
   cases xs with
   |nil=>exact absurd hfr (by simp[FrsAt])
   |cons x xs=>
   have hlt:¬ fuel<=v.steps:=by omega
   have hlt2:v.steps<100000:=by omega
   have hge2:0<=v.steps:=by have:=hb.st;omega
   rw[hfs,show frs (x::xs) (f::r)=[RowR x.bl 255 (mfr x f),GX.Own 3 Ty.int (some ⟨x.vb,0,none⟩) x.n f.vars,MapR x.mb x.mp]++frs xs r from rfl,show adrs (x::xs)=adrs xs++[some ⟨x.bl,0,none⟩] from rfl];refine GX.starO (l:=[RowR x.bl 255 (mfr x f),GX.Own 3 Ty.int (some ⟨x.vb,0,none⟩) x.n f.vars,MapR x.mb x.mp]) (m:=frs xs r) ?_;dsimp only[List.cons_append,List.nil_append];have hum:u∈t.units:=gt_mem hu;obtain⟨u',hu1,hu2,hu3⟩:=hok.fr f (by rw[hfs];simp);obtain rfl:u'=u:=by rw[hu] at hu1;exact (Option.some.inj hu1).symm
   have hvi:=right_ins hRt hum (gt_mem hnx.ins);have hd:=hok.deep
   have hpre:Pre t {v with steps:=v.steps+1} x xs {f with pc:=f.pc+1} r c (M.pre f) i u':=by
    refine⟨?_,?_,hvi,hu2,?_,hok.gl,?_,?_,?_,?_,?_⟩
    ·refine hI.keep (f':={f with pc:=f.pc+1 }) hfs (by show _::M.fs.tail=_;rw[hfs];rfl) rfl rfl rfl hfr.1.2 hI.tab rfl rfl hen hI.code (by show v.steps+1=M.steps+1;rw[hst]) hI.slack hI.no hI.ni
    ·show _::M.fs.tail=_;rw[hfs];rfl
    ·show (_::M.fs.tail).length<=40;rw[hfs] at hd ⊢;exact hd
    ·show M.tb.B.length<=_;have:=hb.B;omega
    ·show M.tb.L.length<=_;have:=hb.L;omega
    ·show M.out.length<=_;have:=hb.O;omega
    ·have:=hT.args u' hum i (gt_mem hnx.ins);omega
    ·cases r with
     |nil=>exact .inr fun h r' e=>by cases e
     |cons hh r=>
      refine (Goal.of hok hfs).imp id fun q h r' e=>?_;cases e;exact q
   have hnb:=hpre.nb;have hnf:=hpre.nf;refine w_ ?_;intros
   refine GX.o (cl (top_spec t p k {v with steps:=v.steps+1} (adrs xs) _ hnf (by omega)) fun _=>?_);refine w_ ?_;intros;refine drawn2 (RowR p 159 _) (RowR x.bl 255 _) (fun j=>!(List.contains [19] j)) [(0,true),(1,true),(2,true),(3,true),(4,true),(5,true),(6,true),(7,true),(8,true),(9,true),(10,true),(11,true),(12,true),(13,true),(14,true),(15,true),(16,true),(17,true),(18,false),(19,false)] rfl (by kernel_rfl) (by kernel_rfl) sA ?_;intro wd F hW hR;refine u_ ?_;intros;refine unpin (RowR p 159 _) ?_;refine unpin (RowR x.bl 255 _) ?_;refine u_ ?_;intros;refine w_ ?_;intros;refine nmP 5 ?_;rintro b5 rfl;refine frzB b5 ?_
   obtain⟨fid,hF,hlk,hop⟩:=op_all (p:=p) (k:=k) hRt hT (f:={f with pc:=f.pc+1 }) hu hpre;refine drawn2 (RowR p 159 _) (MapR k.om opsF) (fun j=>!(List.contains [9] j)) [(0,true),(1,true),(2,true),(3,true),(4,true),(5,true),(6,true),(7,true),(8,true),(9,false)] rfl (by kernel_rfl) (by kernel_rfl) sA ?_;intro wd F hW hR;refine u_ ?_;intros;refine unpin (RowR p 159 _) ?_;refine unpin (MapR k.om opsF) ?_;refine nmA 69 ?_;rintro cs rfl
   haveI:=hF
   refine GX.gow ?_;refine (clv (fs:=[]) (vs:=[.pointer (some ⟨p,0,none⟩),.agg cs.toArray]) (cs:=[]) (hop cs) fun s=>?_);obtain⟨⟨v',xs',c'⟩,hI'⟩:=s;dsimp only;refine u_ ?_;intros;have hok':=hok.go (G:=glob t) hRt hnx;have hb':=hb.go (G:=glob t) hRt hT hnx
   have hst':=(go_grow (M.pre f) t (glob t) {f with pc:=f.pc+1} i hvi.op.1 hvi.op.2).st
   have he':runM t (glob t) n (((M.pre f).go t (glob t) {f with pc:=f.pc+1} i).less t)=runM t (glob t) n0 M0:=by
    rw[<- he,<-step_next hnext];exact (if_pos hz).symm
   have hst2:(M.pre f).steps=M.steps+1:=rfl
   generalize (M.pre f).go t (glob t) {f with pc:=f.pc+1} i=M' at hI' hok' hb' hst' he' ⊢;have hbd:v'.bound=bound t M'.fs:=hI'.bd;have hbl:=bound_le hT M'.fs;have hdp:=hok'.deep;obtain⟨l1,l2,l3,l4,l5,l6,l7,l8⟩:=less_fs M' t;by_cases hz2:v'.en=0
   ·have hM2:M'.en=0:=hI'.en.symm.trans hz2
    have hles:M'.less t={M' with slack:=min M'.slack (M'.room t)}:=if_pos hM2;have hlv:liveN M'.tb.B<=M'.tb.B.length:=List.countP_le_length;refine w_ ?_;intros;refine drawn1 (RowR p 159 _) (fun j=>!(List.contains [12] j)) [(0,true),(1,true),(2,true),(3,true),(4,true),(5,true),(6,true),(7,false),(8,true),(9,true),(10,true),(11,true),(12,false)] rfl (by kernel_rfl) (by kernel_rfl) sA ?_;intro wd F hW hR;refine u_ ?_;intros;refine unpin (RowR p 159 _) ?_;refine GX.gow ?_;refine (cl (slack_spec t p k v' c' M'.tb hI'.tab (by omega) (by have:=hb'.B;omega)) fun _=>?_);refine u_ ?_;intros;refine w_ ?_;intros;rw[hles] at he';have hok2:=hok'.less;have hb2:=hb'.less t;rw[hles] at hok2 hb2
    refine again ⟨⟨{ v' with slack:=min v'.slack (v'.bound-(liveN M'.tb.B:Int)) },xs',c'⟩,{M' with slack:=min M'.slack (M'.room t) }⟩ ⟨rfl,rfl,trivial⟩ ⟨?_,hok2,hb2,n,?_,he'⟩ ?_
    ·refine⟨hI'.tab,hI'.nf,hI'.fr,hI'.en,hI'.code,hI'.steps,?_,hI'.no,hI'.ni,hI'.bd⟩;show min v'.slack _=min M'.slack (M'.room t);rw[show v'.slack=M'.slack from hI'.slack,hbd];rfl
    ·show M'.steps+n=fuel;omega
    ·show (fuel-M'.steps).toNat+(if M'.en=0 then 1 else 0)<(fuel-M.steps).toNat+(if M.en=0 then 1 else 0);rw[if_pos hz];split<;>omega
   ·have hM2:M'.en≠0:=fun h=>hz2 (hI'.en.trans h);have hles:M'.less t=M':=if_neg hM2;rw[hles] at he';refine w_ ?_;intros;refine again ⟨⟨v',xs',c'⟩,M'⟩ ⟨rfl,rfl,trivial⟩ ⟨hI',hok',hb',n,?_,he'⟩ ?_
    ·show M'.steps+n=fuel;omega
    ·show (fuel-M'.steps).toNat+(if M'.en=0 then 1 else 0)<(fuel-M.steps).toNat+(if M.en=0 then 1 else 0);rw[if_pos hz];split<;>omega
 ·have hz':¬ v.en=0:=by rw[hen];exact hz
  rw[runM_ended hz] at he;rw[<- he];refine w_ ?_;intros;exact en0 ⟨⟨v,xs,c⟩,hI,hok,hb,by omega⟩
def ran0:Api.Ran:=⟨⟨0,0,[],0⟩,0,0,0,0,0,0⟩
noncomputable def playP (t:RTg)(inp:List Int)(fuel:Int):Api.Ran:=if RightP t then ranP t (glob t) inp fuel else ran0
structure RnS30 where
 p:Nat
 k:MK
theorem run_spec (cs:List Value)(t:RTg)(hs:Small t)(hT:Tame30 t)(ai:Option Addr)(ci:Nat)(inp:List Int)(fuel:Int)(hf:fuel<=100000):
  Does Tryz.prog 25 [.agg cs.toArray,.slice ai inp.length ci,.int .i64 fuel] [Ag tyRTg cs t,Sl Ty.int ai ci inp] [] (fun s:List Value=>.agg s.toArray) (fun s=>[Ag tyRan s (playP t inp fuel)]) (fun _=>[]):=by
 refine enter Tryz.func25 rfl Tryz.ntmps25 rfl fun _=>?_;refine w_ ?_;intros;refine nmP 3 ?_;rintro b3 rfl;refine nmP 6 ?_;rintro b6 rfl;refine nmA 8 ?_;rintro c8 rfl;refine GX.o (cl (right_spec c8 t hs) fun _=>?_);by_cases hRt:RightP t
 ·rw[show playP t inp fuel=ranP t (glob t) inp fuel from if_pos hRt];have hRn:=Classical.not_not.2 hRt;refine w_ ?_ 3;intros;have hgl:=hRt.1.2.1;refine GX.cut (σ:=RnS30) (fun s=>[(2,.int .i64 fuel),(3,.pointer (some ⟨b3,0,none⟩)),(6,.pointer (some ⟨b6,0,none⟩)),(7,.pointer (some ⟨s.p,0,none⟩))]) (fun s=>[Sl Ty.int s.k.aL s.k.cL (glob t),Sl tyLayout s.k.aC s.k.cC t.classes,Sl tyUnt s.k.aU s.k.cU t.units])
   (fun s=>[RowR s.p 159 [.slice s.k.aC t.classes.length s.k.cC,.slice s.k.aG t.globals.length s.k.cG,.slice s.k.aU t.units.length s.k.cU,.int .i64 t.main,.slice s.k.aL (glob t).length s.k.cL,.pointer (some ⟨s.k.tp,0,none⟩),.int .i64 0,.slice ai inp.length ci,.slice (some ⟨s.k.gb,0,none⟩) t.globals.length t.globals.length,.slice none 0 0,.int .i64 1,.map (some s.k.om),.int .i64 0,.int .i64 0,.slice none 0 0,.int .i64 0,.int .i64 ran0.made,.int .i64 ran0.gone,.int .i64 ran0.live,.int .i64 ran0.peak,.int .i64 0,.int .i64 ran0.most],RowR s.k.tp 248 (tbl (TabC.mk none 0 [] none 0 [] 0 0 0 0)),GX.Own 252 tyRegion none 0 (TabC.mk none 0 [] none 0 [] 0 0 0 0).R,GX.Own 450 tyThing none 0 ((TabC.mk none 0 [] none 0 [] 0 0 0 0).L.map thg),Owns 3 Ty.int ((TabC.mk none 0 [] none 0 [] 0 0 0 0).L.map (fun x:Th=>x.2)),GX.Own 3 Ty.int (some ⟨s.k.gb,0,none⟩) t.globals.length (List.replicate t.globals.length 0),MapR s.k.om opsF,Box 43 tyRan b6 ran0]) (fun _=>True) ?_ (fun s _=>?_)
  ·refine GX.drawnT (fun j=>!(List.contains [] j)) (.br [(0,true),(1,true),(4,true),(5,true),(6,true),(7,true)] (.alt 2 (.br [] (.alt 3 (.br [] (.alt 8 (.lin [(9,false),(10,true),(11,false),(12,true)]) (.alt 9 (.lin [(8,false),(10,true),(11,false),(12,true)]) .nil))) (.alt 8 (.lin [(3,false),(9,false),(10,true),(11,false),(12,true)]) .nil))) (.alt 8 (.lin [(2,false),(3,false),(9,false),(10,true),(11,false),(12,true)]) .nil))) (by kernel_rfl) (by kernel_rfl) ?_;intro wd F hW hR;refine u_ ?_ 1;intros;refine nmA 12 ?_;rintro c12 rfl;refine nmA 13 ?_;rintro c13 rfl;refine opRTg c12 fun aC cC aG cG aU cU e12=>?_;subst e12
   repeat' first
    |(refine GX.treeA ?_ ?_<;>(refine u_ ?_ 1;intros))
    |(refine gok ?_;refine (cl (global_spec c13 t hs) fun s=>?_);obtain⟨aL,cL⟩:=s;dsimp only;refine u_ ?_ 1;intros)
    |(refine gok ?_;refine (cl tnew_spec fun tp=>?_);refine u_ ?_ 1;intros)
    |(refine gok ?_;refine (cl steps_spec fun om=>?_);refine u_ ?_ 1;intros)
    |(refine GX.gow ?_;refine (cl (global_spec c13 t hs) fun s=>?_);obtain⟨aL,cL⟩:=s;dsimp only;refine u_ ?_ 1;intros)
    |(refine GX.gow ?_;refine (cl tnew_spec fun tp=>?_);refine u_ ?_ 1;intros)
    |(refine GX.gow ?_;refine (cl steps_spec fun om=>?_);refine u_ ?_ 1;intros)
   all_goals (
    refine w_ ?_;intros;refine nmP 7 ?_;rintro p rfl;refine nmB 20 ?_;rintro gb rfl;exact GX.meet ⟨p,⟨aC,cC,aG,cG,aU,cU,aL,cL,tp,gb,om⟩⟩ ⟨rfl,rfl,rfl,rfl,trivial⟩ trivial)
  obtain⟨p,k⟩:=s;dsimp only;have hm:=hRt.2.1;unfold MainOk at hm
  cases hg:gt t.units t.main with
  |none=>rw[hg] at hm;exact hm.elim
  |some u=>
  obtain⟨j,hj,hjl,hju⟩:=gt_some hg;have hum:u∈t.units:=gt_mem hg;have huv:u.vars.length<=4000:=(right_unit hRt hum).1.1.2.2.2;have huo:=hT.owns u hum;obtain⟨v0,hv0⟩:∃v0:MV,v0=⟨ai,inp.length,ci,none,0,0,1,0,0,none,0,0,0,0⟩:=⟨_,rfl⟩;refine w_ ?_;intros;refine GX.o (cl (tMake_spec k.tp TInv.zero (by show 0<=1000000000;omega)) fun s=>?_);obtain⟨c1,hT1⟩:=s;dsimp only;refine w_ ?_;intros;refine GX.o (cl (enter_spec t p k ⟨ai,inp.length,ci,none,0,0,1,0,0,none,0,0,0,0⟩ j t.main hj u (-1) hju (by omega)) fun s=>?_);obtain⟨bl,vb,mb⟩:=s;dsimp only[newC,newF];refine w_ ?_;intros;refine ownNil 161 Ty.ptr ?_;refine GX.o (cl (push_spec t p k ⟨ai,inp.length,ci,none,0,0,1,0,0,none,0,0,0,0⟩ [] ⟨bl,vb,u.vars.length,mb,fun _=>none⟩ ⟨t.main,0,List.replicate u.vars.length 0,-1,fun _=>0⟩ j u hju hj rfl (by simp) (by dsimp only;omega) (by omega)) fun s=>?_);obtain⟨af,cf⟩:=s;dsimp only;refine w_ ?_;intros;refine GX.o (cl (slack_spec t p k ⟨ai,inp.length,ci,af,1,cf,1+u.owns.length,0,0,none,0,0,0,0⟩ c1 Tb.zero.make hT1 (by dsimp only;omega) (by show 1<=1000000000;omega)) fun _=>?_);dsimp only;refine w_ ?_;intros;refine GX.starN ?_;refine GX.starI (l:=[RowR bl 255 (mfr (FrC.mk bl vb u.vars.length mb (fun _=>none)) (Fr.mk t.main 0 (List.replicate u.vars.length 0) (-1) (fun _=>0))),GX.Own 3 Ty.int (some ⟨vb,0,none⟩) u.vars.length (List.replicate u.vars.length 0),MapR mb (fun _=>none)]) (m:=[]) ?_;refine ownNil 3 Ty.int ?_;have hbe:begin_ t inp=⟨Tb.zero.make,inp,List.replicate t.globals.length 0,[⟨t.main,0,List.replicate u.vars.length 0,-1,fun _=>0⟩],0,0,[],0,1+u.owns.length-(liveN Tb.zero.make.B:Int)⟩:=by
   unfold begin_ start Ms.room bound ownsN;dsimp only;rw[hg];simp[hg]
  obtain⟨hok,hbn⟩:=begin_ok (inp:=inp) hRt;unfold ranP;rw[hbe] at hok hbn ⊢;have hI:MInv t ⟨⟨ai,inp.length,ci,af,1,cf,1+u.owns.length,0,0,none,0,0,0,1+u.owns.length-(liveN Tb.zero.make.B:Int)⟩,[⟨bl,vb,u.vars.length,mb,fun _=>none⟩],c1⟩ ⟨Tb.zero.make,inp,List.replicate t.globals.length 0,[⟨t.main,0,List.replicate u.vars.length 0,-1,fun _=>0⟩],0,0,[],0,1+u.owns.length-(liveN Tb.zero.make.B:Int)⟩:=by
   refine⟨hT1,rfl,⟨⟨List.length_replicate,fun _=>rfl⟩,trivial⟩,rfl,rfl,rfl,rfl,rfl,rfl,?_⟩;show (1:Int)+u.owns.length=bound t [_];rw[bound_cons];unfold ownsN bound;dsimp only;rw[hg];simp
  refine GX.o (cl (goOn_spec t p k hRt hT (max fuel 0) (by omega) _ _ hI hok hbn (max fuel 0).toNat (by show 0+(((max fuel 0).toNat:Nat):Int)=max fuel 0;omega)) fun s=>?_);obtain⟨⟨v',xs',c'⟩,hI',hok',hbn',hst'⟩:=s;dsimp only;generalize runM t (glob t) (max fuel 0).toNat _=Mf at hI' hok' hbn' hst' ⊢;have hB1:Mf.tb.B.length<=1000000000:=by have:=hbn'.B;omega
  have hL1:Mf.tb.L.length<=1000000000:=by have:=hbn'.L;omega
  refine w_ ?_;intros;refine GX.o (cl (clears_spec t p k v' c' Mf.tb hI'.tab hB1 hL1) fun s=>?_);obtain⟨c2,hT2⟩:=s;dsimp only;have hcl:Mf.clear.ran=⟨⟨v'.en,v'.code,Mf.out,v'.steps⟩,(clearT Mf.tb v'.en).B.length,((clearT Mf.tb v'.en).B.length:Int)-(liveN (clearT Mf.tb v'.en).B:Int),((clearT Mf.tb v'.en).B.length:Int)-(((clearT Mf.tb v'.en).B.length:Int)-(liveN (clearT Mf.tb v'.en).B:Int)),(clearT Mf.tb v'.en).peak,v'.slack,(clearT Mf.tb v'.en).most⟩:=by
   rw[show v'.en=Mf.en from hI'.en,show v'.code=Mf.code from hI'.code,show v'.steps=Mf.steps from hI'.steps,show v'.slack=Mf.slack from hI'.slack,show ∀a b:Int,a-(a-b)=b by intro a b;omega];unfold Ms.clear Ms.ran clearT;split
   ·rfl
   ·split<;>rfl
  have hBl:(clearT Mf.tb v'.en).B.length=Mf.tb.B.length:=by
   unfold clearT;split
   ·exact (rem_len _ _).1
   ·split
    ·exact (remAll_len _ _).1
    ·rfl
  rw[hcl];generalize clearT Mf.tb v'.en=Tf at hT2 hBl ⊢;have hlv:liveN Tf.B<=Tf.B.length:=List.countP_le_length;refine w_ ?_;intros;refine GX.o (cl (tCount_spec k.tp hT2) fun _=>?_);refine w_ ?_;intros;refine drawn1 (RowR p 159 _) (fun j=>!(List.contains [15] j)) [(0,true),(1,true),(2,true),(3,true),(4,true),(5,true),(6,true),(7,true),(8,true),(9,true),(10,true),(11,true),(12,true),(13,true),(14,true),(15,false)] rfl (by kernel_rfl) (by kernel_rfl) sA ?_;intro wd F hW hR;refine u_ ?_;intros;refine unpin (RowR p 159 _) ?_;refine u_ ?_;intros;refine w_ ?_;intros;refine GX.o (cl (tThings_spec k.tp hT2) fun _=>?_);refine w_ ?_;intros;rw[show v'.no=Mf.out.length from hI'.no];refine GX.o (lrO [.int .i64 v'.en,.int .i64 v'.code,.slice v'.ao Mf.out.length v'.co,.int .i64 v'.steps,.int .i64 (Tf.B.length:Int),.int .i64 ((Tf.B.length:Int)-(liveN Tf.B:Int)),.int .i64 ((Tf.B.length:Int)-((Tf.B.length:Int)-(liveN Tf.B:Int))),.int .i64 Tf.peak,.int .i64 v'.slack,.int .i64 Tf.most] ?_);refine frz v'.ao ?_;refine w_ ?_;intros;exact rt1B (fun cs=>cs) (fun _=>rfl)
 ·rw[show playP t inp fuel=ran0 from if_neg hRt];refine w_ ?_;intros;exact rt1B (fun cs=>cs) (fun _=>rfl)
end Go.Proofs.YtojfbbggnkijeaaGreatDoor
namespace Go.Proofs.YtojfbbggnkijeaaGreatDoor
open Go.Api Go.RtM Go.RiseM Go.FlowM Go.LivM Go.ReachM
section
variable {t:RTg} {M:Ms} {f:Fr} {r:List Fr} {u:Unt} {i:Ins} {L:List Int} {s:List (Fr×List Int)} {p:Nat} {O:List Ob}
variable {c n:Int} {arr:Bool} {Lt:Layout} {l:List Cell} {j:Int}
theorem from_ge {e:Int}(h:c∈fromL (flds t) [e]):0<=e/\e<t.classes.length:=by
 obtain⟨d,rfl,hd⟩:=fromL_mem.1 h;clear h
 induction hd with
 |root h1 h2=>rw[<- List.mem_singleton.1 h1];rw[flds_len] at h2;exact⟨by omega,by omega⟩
 |step _ _ _ _ ih=>exact ih
theorem cell_type (hc:(cell t u n arr c).2.2=true):of u n=-1/\(cell t u n arr c).2.1=true\/of u n≠-1/\∃Lt,gt t.classes (of u n)=some Lt/\Lt.arr=arr/\gt Lt.refs c=some (cell t u n arr c).1/\(cell t u n arr c).2.1=false:=by
 by_cases h1:of u n=-1
 ·exact .inl ⟨h1,by rw[cell_null h1]⟩
 ·refine .inr ⟨h1,?_⟩
  cases h2:gt t.classes (of u n) with
  |none=>rw[cell_none h1 h2] at hc;cases hc
  |some Lt=>
   by_cases h3:Lt.arr=arr
   ·cases h4:gt Lt.refs c with
    |none=>rw[cell_out h1 h2 h3 h4] at hc;cases hc
    |some x=>rw[cell_some h1 h2 h3 h4];exact⟨Lt,rfl,h3,by rw[h4],rfl⟩
   ·rw[cell_arr h1 h2 h3] at hc;cases hc
theorem Cx.thing (h:Cx t M f r u i L s p O)(hn:n∈asks i)(hv:of u n≠-3)(hr:-1<=of u n):
  at_ M.tb.L (lkv f.vars n)=none\/0<=of u n/\GuaM.Seen t f.u L (of u n)/\∃(k:Nat) (o:Ob) (q:Cell),lkv f.vars n=(k:Int)+1/\O[k]?=some o/\M.tb.L[k]?=some q/\at_ M.tb.L (lkv f.vars n)=some q/\ObOk t O o q/\o.1=of u n/\hasB M.tb.B q.1=true/\∀c∈fromL (flds t) [of u n],o.2 c=rho (glob t) ((f,L)::s) c:=by
 have hu:=h.use hn hv
 rcases follow h.obs hu.1 hr (entry_of h.ac.right h.um hv) with h1|⟨h0,hz,k,o,q,a1,a2,a3,a4,a5,a6,a7,a8⟩
 ·exact .inl h1
 ·have hs:=hu.2 h0 hz;exact .inr ⟨h0,hs,k,o,q,a1,a2,a3,a4,a5,a6,by rw[a7];exact h.live hs,a8⟩
theorem Cx.eyes (h:Cx t M f r u i L s p O){b x v:Int}{o:Ob}(hs:GuaM.Seen t f.u L b)(hc:gt t.classes b=some Lt)(hx:x∈Lt.refs)(ho:∀c∈fromL (flds t) [b],o.2 c=rho (glob t) ((f,L)::s) c):(Val t O x v o.2->VarOk t O f.u L (rho (glob t) ((f,L)::s)) x v)/\(Val t O x v (rho (glob t) ((f,L)::s))->Val t O x v o.2):=by
 have key:∀c∈fromL (flds t) [x],c∈fromL (flds t) [b]:=fun c hcx=>by
  obtain⟨h0,h1⟩:=from_ge hcx;exact from_trans (from_ref hc hx h0 h1) hcx
 refine⟨fun hv=>⟨hv.env fun _ c hcx=>ho c (key c hcx),fun h0 hz=>?_⟩,fun hv=>hv.env fun _ c hcx=>(ho c (key c hcx)).symm⟩;have he:IsEntry t x:=(h.ac.right.2.2.1 Lt (gt_mem hc)).2.2 x hx;have h1:x<t.classes.length:=by
  rcases he with h|h|h
  ·exact h.2
  ·omega
  ·omega
 exact seen_from h.closed hs (from_ref hc hx h0 h1)
theorem load_cases (B:List Bool)(l:List Cell)(ref j:Int){q:Cell}(h:at_ l ref=some q)(hb:hasB B q.1=true):(loadP B l ref j).2=2\/0<=j/\∃v,q.2[j.toNat]?=some v/\loadP B l ref j=(v,0):=by
 unfold loadP;rw[h];dsimp only;rw[if_pos hb];split
 ·exact .inl rfl
 ·cases hq:q.2[j.toNat]? with
  |none=>exact .inl rfl
  |some v=>exact .inr ⟨by omega,v,rfl,rfl⟩
theorem load_null {B:List Bool}{ref:Int}(j:Int)(h:at_ l ref=none):loadP B l ref j=(0,1):=by unfold loadP;rw[h]
theorem ent_of {x:Int}(h1:Lt.arr=arr)(h2:gt Lt.refs c=some x)(h3:arr=false/\c=j\/arr=true/\c=0):ent Lt j.toNat=some x:=by
 unfold ent;unfold gt at h2;split at h2
 ·rcases h3 with ⟨h,rfl⟩|⟨h,rfl⟩
  ·rw[if_neg (by rw[h1,h];simp),h2]
  ·rw[if_pos (by rw[h1,h])];exact h2
 ·cases h2
theorem Cx.loads (h:Cx t M f r u i L s p O)(hs:Sets i.op)(h13:i.op≠13)(hb:i.b∈asks i)(hl:Loads t u i.a i.b arr c)(hj:arr=false/\c=j\/arr=true/\c=0):GoodM t ((M.pre f).got {f with pc:=f.pc+1} i.a (loadP M.tb.B M.tb.L (lkv f.vars i.b) j)):=by
 obtain⟨va,vb⟩:=loads_v hl;obtain⟨l1,l2⟩:=hl
 rcases cell_type l1 with ⟨e1,e2⟩|⟨e1,Lt,e2,e3,e4,e5⟩
 ·rcases h.thing hb vb (by omega) with h1|⟨h0,_⟩
  ·rw[load_null j h1];exact h.got hs h13 va (by simp) (fun h=>by cases h)
  ·omega
 ·have hr:-1<=of u i.b:=by obtain⟨k,hk,_⟩:=gt_some e2;omega
  rw[e5] at l2;rw[if_neg (by simp)] at l2
  rcases h.thing hb vb hr with h1|⟨h0,hs',k,o,q,a1,a2,a3,a4,a5,a6,a7,a8⟩
  ·rw[load_null j h1];exact h.got hs h13 va (by simp) (fun h=>by cases h)
  ·rcases load_cases M.tb.B M.tb.L (lkv f.vars i.b) j a4 a7 with e|⟨hj0,v,hv,e⟩
   ·exact h.got hs h13 va (by rw[e];omega) (fun h=>by rw[e] at h;cases h)
   ·rw[e];refine h.got hs h13 va (by simp) fun _=>?_;have hent:=ent_of e3 e4 hj;exact ((h.eyes hs' e2 (ent_len hent) a8).1 (a5.val Lt (by rw[a6];exact e2) j.toNat v _ hv hent)).into l2
theorem ObsOk.put (h:ObsOk t O l){k j:Nat}{o:Ob}{v:Int}(ho:O[k]?=some o)(hv:∀Lt,gt t.classes o.1=some Lt->∀e,ent Lt j=some e->Val t O e v o.2):ObsOk t O (putL l k j v):=by
 refine⟨by unfold putL;rw[List.length_modify];exact h.1,fun k' o' q' h1 h2=>?_⟩;unfold putL at h2;rw[List.getElem?_modify] at h2
 cases hq:l[k']? with
 |none=>rw[hq] at h2;simp at h2
 |some q=>
  rw[hq] at h2;obtain⟨b1,b2,b3⟩:=h.2 k' o' q h1 hq;by_cases hk:k=k'
  ·subst hk;rw[ho] at h1;cases h1;simp at h2;subst h2;refine⟨b1,b2,fun Lt hL j' x e h3 h4=>?_⟩;by_cases hj:j=j'
   ·subst hj;have hlt:=(List.getElem?_eq_some_iff.1 h3).1;rw[List.length_set] at hlt;rw[List.getElem?_set_self hlt] at h3;cases h3;exact hv Lt hL e h4
   ·rw[List.getElem?_set_ne hj] at h3;exact b3 Lt hL j' x e h3 h4
  ·simp[hk] at h2;subst h2;exact⟨b1,b2,b3⟩
theorem Cx.lays (h:Cx t M f r u i L s p O){b:Int}(hop:i.op=7\/i.op=9)(ha:i.a∈asks i)(hb:b∈asks i)(hl:Lays t u i.a arr c b)(hj:arr=false/\c=j\/arr=true/\c=0):GoodM t (({ M.pre f with tb:=M.tb.put (lkv f.vars i.a) j (lkv f.vars b)}:Ms).trap (loadP M.tb.B M.tb.L (lkv f.vars i.a) j).2):=by
 obtain⟨va,vb⟩:=lays_v hl;obtain⟨l1,l2⟩:=hl;have hd:def_ i=-1:=by unfold def_;rw[if_neg];intro h;have:=h.1;unfold Sets at this;omega
 have fin:∀T:Tb,T.B=M.tb.B->ObsOk t O T.L->GoodM t ({ M.pre f with tb:=T}:Ms):=fun T h1 h2=>
  h.gox (f':={f with pc:=f.pc+1 }) (O':=O) (fun _ _ _ h=>h) h.en h.pre h1 h2 h.glo h.pcn (h.nx (by omega) (by omega) (by omega)) (by omega) (by omega) rfl rfl rfl rfl (fun _ _=>rfl) (fun h=>by omega)
 rcases cell_type l1 with ⟨e1,e2⟩|⟨e1,Lt,e2,e3,e4,e5⟩
 ·rcases h.thing ha va (by omega) with h1|⟨h0,_⟩
  ·rw[load_null j h1];exact trap_good (by simp) (by simp)
  ·omega
 ·have hr:-1<=of u i.a:=by obtain⟨k,hk,_⟩:=gt_some e2;omega
  rw[e5] at l2;rw[if_neg (by simp)] at l2
  rcases h.thing ha va hr with h1|⟨h0,hs',k,o,q,a1,a2,a3,a4,a5,a6,a7,a8⟩
  ·rw[load_null j h1];exact trap_good (by simp) (by simp)
  ·rcases load_cases M.tb.B M.tb.L (lkv f.vars i.a) j a4 a7 with e|⟨hj0,v,hv,e⟩
   ·exact trap_good (by rw[e];omega) (by rw[e];omega)
   ·rw[show (loadP M.tb.B M.tb.L (lkv f.vars i.a) j).2=0 by rw[e]];have hent:=ent_of e3 e4 hj
    have et:({ M.pre f with tb:=M.tb.put (lkv f.vars i.a) j (lkv f.vars b)}:Ms).trap 0=({ M.pre f with tb:=M.tb.put (lkv f.vars i.a) j (lkv f.vars b)}:Ms):=by unfold Ms.trap;rw[if_pos rfl]
    rw[et];refine fin _ rfl ?_;show ObsOk t O (putP M.tb.B M.tb.L (lkv f.vars i.a) j (lkv f.vars b)).2;unfold putP;rw[e];dsimp only;rw[if_pos rfl,a1,show (((k:Nat):Int)+1-1).toNat=k by omega];refine h.obs.put a2 fun Lt' hLt' x hx=>?_;rw[a6,e2] at hLt';cases hLt';rw[hent] at hx;cases hx;exact (h.eyes hs' e2 (ent_len hent) a8).2 ((h.use hb vb).into l2).1
theorem Cx.lies (h:Cx t M f r u i L s p O){arr:Bool}(n:Int)(hs:Sets i.op)(h13:i.op≠13)(hf:Fresh t u i arr)(hc:i.n∈glob t\/i.n∈L\/i.n∈u.takes):GoodM t ((M.pre f).lies (glob t) {f with pc:=f.pc+1} i.a i.n n):=by
 obtain⟨⟨Lt,hL⟩,va⟩:=fresh_v hf;have hofa:of u i.a=i.n:=by unfold Fresh at hf;rw[hL] at hf;exact hf.2
 have hseen:GuaM.Seen t f.u L i.n:=hc.imp id fun h2=>h2.elim .inr fun h3=>.inl (out_takes h.ac.right h.fr.unit h3)
 have hreg:reg (glob t) {f with pc:=f.pc+1} i.n=rho (glob t) ((f,L)::s) i.n:=by
  unfold reg rho;by_cases hg:i.n∈glob t
  ·rw[if_pos hg,if_pos hg]
  ·rw[if_neg hg,if_neg hg];by_cases h2:i.n∈L
   ·rw[if_pos h2]
   ·rw[if_neg h2];exact h.fr.takes _ ((hc.resolve_left hg).resolve_left h2)
 have hlv:=h.live hseen;rw[<- hreg] at hlv;have hcl:IsClass t i.n:=by obtain⟨k,hk,h2,_⟩:=gt_some hL;exact⟨by omega,by omega⟩
 unfold Ms.lies;rw[if_pos (show hasB (M.pre f).tb.B _=true from hlv)]
 have hadd:(M.pre f).tb.add (reg (glob t) {f with pc:=f.pc+1} i.n) n=⟨M.tb.B,M.tb.L++[(reg (glob t) {f with pc:=f.pc+1} i.n,List.replicate (cells n) 0)],M.tb.peak,max M.tb.most (nowN M.tb.B (M.tb.L++[(reg (glob t) {f with pc:=f.pc+1} i.n,List.replicate (cells n) 0)]):Int)⟩:=by
  unfold Tb.add;rw[if_pos (show hasB (M.pre f).tb.B _=true from hlv)];rfl
 rw[hadd];refine h.var (O':=O++[(i.n,rho (glob t) ((f,L)::s))]) (fun e v E hv=>hv.more _) h.en (by show _::(M.pre f).fs.tail=_;rw[h.pre];rfl) rfl ?_ rfl hs h13 va ?_
 ·refine h.obs.more ⟨hreg,hcl,fun Lt' _ j v e h1 _=>?_⟩;have:=List.eq_of_mem_replicate (List.mem_of_getElem? h1);subst this;exact .zero ..
 ·rw[hofa];refine⟨⟨fun h=>by have:=hcl.1;omega,fun _=>.inr ⟨M.tb.L.length,(i.n,rho (glob t) ((f,L)::s)),?_,?_,rfl,fun _ _=>rfl⟩⟩,fun _ _=>hseen⟩
  ·show ((M.tb.L.length+1:Nat):Int)=_;omega
  ·rw[<- h.obs.1,List.getElem?_append_right (Nat.le_refl _)];simp
theorem glob_root (hR:RightP t){g:Int}(h:gt t.globals n=some g):∀c∈fromL (flds t) [g],c∈glob t:=fun c hc=>by
 obtain⟨h0,h1⟩:=from_ge hc;exact from_trans (from_root (gt_mem h) h0 (by rw[flds_len];exact h1)) hc
theorem rho_glob {L:List Int}(h:c∈glob t):rho (glob t) ((f,L)::s) c=1:=by unfold rho;rw[if_pos h]
theorem Cx.get (h:Cx t M f r u i L s p O)(hop:i.op=19):GoodM t ((M.pre f).var {f with pc:=f.pc+1} i.a (lkv M.gl i.n)):=by
 obtain⟨g,hg,hi⟩:=ing_v (fit19 h.fits hop);refine h.var0 (by unfold Sets;omega) (by omega) (into_l hi) (VarOk.into ?_ hi);obtain⟨k,hk,hkl,_⟩:=gt_some hg;have hx:∃x,gt M.gl i.n=some x:=⟨M.gl[k]'(by rw[h.gl];exact hkl),by rw[hk,gt_nat];exact List.getElem?_eq_getElem _⟩;obtain⟨x,hx⟩:=hx;have:lkv M.gl i.n=x:=by unfold lkv;rw[hx];rfl
 rw[this];refine⟨(h.glo _ g x hg hx).env fun _ c hc=>(rho_glob (glob_root h.ac.right hg c hc)).symm,fun h0 _=>.inl ?_⟩;have he:IsEntry t g:=h.ac.right.2.2.2.1 g (gt_mem hg)
 exact from_root (gt_mem hg) h0 (by rw[flds_len];rcases he with h|h|h<;>omega)
theorem Cx.lay (h:Cx t M f r u i L s p O)(hop:i.op=20):GoodM t ({ M.pre f with gl:=setv M.gl i.n (lkv f.vars i.a)}:Ms):=by
 obtain⟨g,hg,hi⟩:=ing_v (fit20 h.fits hop);have hd:def_ i=-1:=by unfold def_;rw[if_neg];intro h;have:=h.1;unfold Sets at this;omega
 have ha:i.a∈asks i:=by unfold asks;rw[if_neg (by omega),if_neg (by omega),if_neg (by omega),if_neg (by omega),if_neg (by omega),if_pos (by omega)];simp
 have hv:=((h.use ha (into_r hi)).into hi).1
 refine h.gox (f':={f with pc:=f.pc+1 }) (O':=O) (fun _ _ _ h=>h) h.en h.pre rfl h.obs (fun n e x h1 h2=>?_) h.pcn (h.nx (by omega) (by omega) (by omega)) (by omega) (by omega) rfl rfl rfl rfl (fun _ _=>rfl) (fun h=>by omega);have h2:gt (setv M.gl i.n (lkv f.vars i.a)) n=some x:=h2;have h0:0<=i.n:=by obtain⟨k,hk,_⟩:=gt_some hg;omega
 by_cases hn:n=i.n
 ·subst hn;rw[hg] at h1;cases h1;obtain⟨k,hk,hkl,_⟩:=gt_some hg;rw[gt_setS h0 (by rw[h.gl];omega)] at h2;cases h2;exact hv.env fun _ c hc=>rho_glob (glob_root h.ac.right hg c hc)
 ·rw[gt_set hn h0] at h2;exact h.glo n e x h1 h2
end
end Go.Proofs.YtojfbbggnkijeaaGreatDoor
