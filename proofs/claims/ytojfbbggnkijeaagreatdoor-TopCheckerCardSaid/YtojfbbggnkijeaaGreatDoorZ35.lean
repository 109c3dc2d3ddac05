import Derived.Test.YtojfbbggnkijeaaGreatDoorZ25
import Derived.Test.YtojfbbggnkijeaaGreatDoorZ34
set_option linter.all false
namespace Go.Proofs.YtojfbbggnkijeaaGreatDoor
open Go.Api Go.RtM Go.RiseM Go.FlowM Go.LivM Go.ReachM
section
variable {t:RTg} {M:Ms} {f:Fr} {r:List Fr} {u:Unt} {i:Ins} {L:List Int} {s:List (Fr×List Int)} {p:Nat} {O:List Ob}
theorem takeR_ok {G:List Int}{B:List Bool}{f:Fr}:∀(l:List Int) (m:Int->Int),(∀c∈l,hasB B (reg G f c)=true)->∃m',takeR G B f l m=some m'/\(∀c∈l,m' c=reg G f c)/\∀c,c∉l->m' c=m c
 |[],m,_=>⟨m,rfl,by simp,fun _ _=>rfl⟩
 |c::l,m,h=>by
  obtain⟨m',h1,h2,h3⟩:=takeR_ok l (updI m c (reg G f c)) fun x hx=>h x (by simp[hx])
  refine⟨m',by unfold takeR;rw[if_pos (h c (by simp))];exact h1,fun x hx=>?_,fun x hx=>?_⟩
  ·by_cases hl:x∈l
   ·exact h2 x hl
   ·rcases List.mem_cons.1 hx with rfl|hx
    ·rw[h3 x hl];unfold updI;rw[if_pos rfl]
    ·exact absurd hx hl
  ·rw[h3 x fun h=>hx (by simp[h])];unfold updI;rw[if_neg fun e=>hx (by simp[e])]
theorem rho_new {G:List Int}{f':Fr}{L:List Int}:rho G ((f',[])::(f,L)::s)=rho G ((f,L)::s):=by
 funext c
 conv=>lhs;unfold rho
 by_cases h:c∈G
 ·rw[if_pos h,rho_glob' h]
 ·rw[if_neg h,if_neg (by simp)]
where rho_glob' {G:List Int} {s:List (Fr×List Int)} {f:Fr} {L:List Int} {c:Int} (h:c∈G):rho G ((f,L)::s) c=1:=by unfold rho;rw[if_pos h]
theorem Cx.call (h:Cx t M f r u i L s p O)(hop:i.op=13):GoodM t ((M.pre f).call t (glob t) {f with pc:=f.pc+1} i):=by
 unfold Ms.call;split
 ·exact trap_good (by simp) (by simp)
 have hok:=fit13 h.fits hop;obtain⟨g,hg,hal,hal2,hvs,hia,hin⟩:=call_v hok;unfold CallOk at hok;rw[hg] at hok;obtain⟨⟨_,_,hzip⟩,_⟩:=hok;rw[hg];dsimp only;have hc:=h.cond;unfold GuaM.CondL at hc
 (repeat rewrite[if_neg (by omega)] at hc);rw[if_pos hop] at hc
 obtain⟨hc1,hc2⟩:=hc;have hgm:=gt_mem hg
 have hreg:∀c∈g.takes,reg (glob t) {f with pc:=f.pc+1} c=rho (glob t) ((f,L)::s) c:=fun c hct=>by
  unfold reg rho;by_cases hgl:c∈glob t
  ·rw[if_pos hgl,if_pos hgl]
  ·rw[if_neg hgl,if_neg hgl];by_cases h2:c∈L
   ·rw[if_pos h2]
   ·rw[if_neg h2];exact h.fr.takes _ ((hc2 g hg c hct).resolve_left h2)
 obtain⟨m,hm,hm1,hm2⟩:=takeR_ok (G:=glob t) (B:=(M.pre f).tb.B) (f:={f with pc:=f.pc+1 }) g.takes (fun _=>0) fun c hct=>by
  rw[hreg c hct];exact h.live (hc1 c (out_takes h.ac.right hg hct))
 rw[hm];have hasks:∀v∈i.args,v∈asks i:=fun v hv=>by
  unfold asks;rw[if_neg (by omega),if_neg (by omega),if_neg (by omega),if_neg (by omega),if_pos hop];exact hv
 have hrho:rho (glob t) (({ f with pc:=f.pc+1 },L)::s)=rho (glob t) ((f,L)::s):=rfl
 have hnew:FOk t O ⟨i.c,0,argsV {f with pc:=f.pc+1} i g.vars.length,i.a,m⟩ g [] (({ f with pc:=f.pc+1 },L)::s) 0 (-1):=by
  refine⟨hg,.zero,argsV_len _ _ _ hal2,fun n e x h1 h2 _ _=>?_,fun c hct=>?_,fun c hco _=>?_,fun c hco=>⟨_,L,s,rfl,hc1 c hco⟩,fun y L' s' e=>?_⟩
  ·rw[rho_new,hrho];obtain⟨k,rfl,hk,hke⟩:=gt_some h1;rw[gt_nat] at h2;unfold argsV at h2;by_cases hkl:k<i.args.length
   ·rw[List.getElem?_append_left (by simpa using hkl),List.getElem?_map,List.getElem?_eq_getElem hkl] at h2;simp only[Option.map_some,Option.some.injEq] at h2;have hmem:(i.args[k],e)∈i.args.zip g.vars:=by
     have hz:k<(i.args.zip g.vars).length:=by rw[List.length_zip];omega
     have:=List.getElem_mem hz;rw[List.getElem_zip] at this;rw[List.getElem?_eq_getElem hk] at hke;cases hke;exact this
    have hinto:=hzip _ hmem;have hu:=(h.use (hasks _ (List.getElem_mem hkl)) (into_r hinto)).into hinto;subst h2;refine⟨hu.1,fun h0 hx=>?_⟩;have hcl:e<t.classes.length:=by
     have:=(right_unit h.ac.right hgm).1.2.1 e (List.mem_of_getElem? hke)
     rcases this with h|h|h<;>omega
    have hroot:e∈fromL (flds t) (roots g):=by
     refine from_root ?_ h0 (by rw[flds_len];exact hcl);unfold roots;refine List.mem_append_left _ (List.mem_of_getElem? (i:=k) ?_);rw[List.getElem?_take_of_lt]
     ·exact hke
     ·unfold pars;omega
    by_cases hgl:e∈glob t
    ·exact .inl hgl
    ·refine .inr (.inl ?_);show e∈out t i.c;unfold out;rw[hg];show e∈outOf t g;unfold outOf;rw[List.mem_filter];exact⟨hroot,by simpa using hgl⟩
   ·have:x=0:=by
     rw[List.getElem?_append_right (by simp;omega)] at h2;exact List.eq_of_mem_replicate (List.mem_of_mem_drop (List.mem_of_getElem? h2))
    subst this;exact .zero ..
  ·show m c=_;rw[hm1 c hct,hreg c hct,hrho]
  ·show m c=0;rw[hm2 c fun hct=>(out_owns h.ac.right hg hco).1 (out_takes h.ac.right hg hct)]
  ·cases e;exact hin.imp id fun h3=>⟨u,h.fr.unit,h3⟩
 have hold:FOk t O {f with pc:=f.pc+1} u L s (p+1) i.a:=by
  refine h.adv (f':={f with pc:=f.pc+1 }) (fun _ _ _ h=>h) (h.nx (by omega) (by omega) (by omega)) (by omega) (by omega) rfl rfl rfl rfl (fun _ _=>rfl) fun h0 hne=>?_;unfold def_ at hne h0;split at hne
  ·exact absurd rfl hne
  ·rename_i hn;rw[if_neg hn] at h0;omega
 refine .inl ⟨h.en,(_,[])::({ f with pc:=f.pc+1 },L)::s,O,?_,⟨⟨g,0,rfl,hnew⟩,⟨u,p+1,h.pcn,hold⟩,h.rest⟩,?_,h.obs,h.glo⟩
 ·show _::_::s.map (·.1)=_::(M.pre f).fs;rw[h.pre,h.sr]
 ·have:=h.regs;show Lists M.tb.B ([]++(L.map f.regs++regsOf s));rw[List.nil_append];exact this
theorem Cx.ret (h:Cx t M f r u i L s p O)(hop:i.op=18):GoodM t ((M.pre f).ret {f with pc:=f.pc+1} i):=by
 have hc:=h.cond;unfold GuaM.CondL at hc
 (repeat rewrite[if_neg (by omega)] at hc);rw[if_pos hop] at hc
 have hL:L=[]:=hc;have hregs:=h.regs;unfold regsOf at hregs;rw[hL] at hregs;have hregs:Lists M.tb.B (regsOf s):=hregs;have hsr:=h.sr;have hrest:=h.rest;unfold Ms.ret;rw[h.pre]
 cases s with
 |nil=>
  have hr:r=[]:=hsr.symm;subst hr;exact .inr (.inr ⟨rfl,hregs⟩)
 |cons y s=>
  obtain⟨g,Lg⟩:=y;have hr:r=g::s.map (·.1):=hsr.symm;subst hr;obtain⟨⟨ug,pg,hpg,hg⟩,hs⟩:=hrest
  show GoodM t {M.pre f with fs:=_::s.map (·.1)}
  have fin:∀g':Fr,FOk t O g' ug Lg s pg (-1)->g'.pc=(pg:Int)->g'.into=g.into->g'.regs=g.regs->GoodM t ({ M.pre f with fs:=g'::s.map (·.1)}:Ms):=fun g' h1 h2 h3 h4=>
   .inl ⟨h.en,(g',Lg)::s,O,rfl,⟨⟨ug,pg,h2,h1⟩,by rw[h3];exact hs⟩,by
    unfold regsOf at hregs ⊢;rw[h4];exact hregs,h.obs,h.glo⟩
  dsimp only;by_cases hin:0<=f.into
  ·rw[if_pos hin]
   have hval:VarOk t O g.u Lg (rho (glob t) ((g,Lg)::s)) (of ug f.into) (if 0<=i.a then lkv f.vars i.a else 0):=by
    split
    ·rename_i hia
     rcases fit18 h.fits hop with ⟨_,h2⟩|⟨_,h2⟩
     ·omega
     ·have ha:i.a∈asks i:=by unfold asks;rw[if_neg (by omega),if_neg (by omega),if_neg (by omega),if_neg (by omega),if_neg (by omega),if_pos (by omega)];simp
      have hv:=(h.use ha (into_r h2)).into h2;have hv:VarOk t O f.u L (rho (glob t) ((f,L)::(g,Lg)::s)) (of ug f.into) (lkv f.vars i.a):=by
       rcases h.fr.res g Lg s rfl with h3|⟨uh,h3,h4⟩
       ·omega
       ·rw[hg.unit] at h3;cases h3;exact hv.into h4
      rw[hL,rho_new] at hv;refine⟨hv.1,fun h0 hx=>?_⟩
      rcases hv.2 h0 hx with h5|h5|h5
      ·exact .inl h5
      ·obtain⟨g2,L2,s2,e,h6⟩:=h.fr.outs _ h5;cases e;exact h6
      ·simp at h5
    ·exact .zero ..
   have hres:f.into=-1\/f.into<g.vars.length:=by
    rcases h.fr.res g Lg s rfl with h3|⟨uh,h3,h4⟩
    ·exact .inl h3
    ·rw[hg.unit] at h3;cases h3;obtain⟨k,hk,hkl⟩:=of_ne (into_l h4);rw[<- hg.vars] at hkl;exact .inr (by omega)
   refine fin {g with vars:=setv g.vars f.into (if 0<=i.a then lkv f.vars i.a else 0)} ⟨hg.unit,hg.ats,(setv_len _ _ _).trans hg.vars,fun n e x h1 h2 _ h4=>?_,hg.takes,hg.owns,hg.outs,hg.res⟩ hpg rfl rfl;show VarOk t O g.u Lg (rho (glob t) ((g,Lg)::s)) e x
   have h2:gt (setv g.vars f.into (if 0<=i.a then lkv f.vars i.a else 0)) n=some x:=h2;by_cases hn:n=f.into
   ·subst hn;rw[gt_setS hin (by omega)] at h2;cases h2;rw[of_gt h1] at hval;exact hval
   ·rw[gt_set hn hin] at h2;exact hg.val n e x h1 h2 hn h4
  ·rw[if_neg hin];exact fin g ⟨hg.unit,hg.ats,hg.vars,fun n e x h1 h2 _ h4=>hg.val n e x h1 h2 (by obtain⟨k,hk,_⟩:=gt_some h1;omega) h4,hg.takes,hg.owns,hg.outs,hg.res⟩ hpg rfl rfl
theorem not_def (hop:i.op=21\/i.op=22):def_ i=-1:=by unfold def_;rw[if_neg];intro h;have:=h.1;unfold Sets at this;omega
theorem Cx.regs' (h:Cx t M f r u i L s p O)(hop:i.op=21\/i.op=22){q:Tb×(Int->Int)×Bool}(h1:q.2.2=true)(h2:Lists q.1.B ((GuaM.alive i L).map q.2.1++regsOf s))(h3:q.1.L=M.tb.L)
  (h4:∀c∈L,c∉i.args->c∈GuaM.alive i L/\q.2.1 c=f.regs c) (h5:∀c,c∉u.owns->q.2.1 c=f.regs c) (h6:∀c∈u.owns,c∉GuaM.alive i L->q.2.1 c=0)
  (h7:i.op=22->∀c∈GuaM.alive i L,c∈L/\c∉i.args) (h8:i.op=21->∀c∈L,c∉i.args):GoodM t ((M.pre f).regs {f with pc:=f.pc+1} q):=by
 have hnx:=h.nx (by omega) (by omega) (by omega);have hat:=GuaM.At.step h.fr.ats h.hi hnx;have hcl:=at_closed h.accu hat;have hlo:=at_owns h.ac.right h.um hat;unfold Ms.regs;rw[if_pos h1];have hnd:=not_def hop
 have hrho:∀c,GuaM.Seen t f.u L c->GuaM.Seen t f.u (GuaM.alive i L) c->rho (glob t) ((f,L)::s) c=rho (glob t) (({ f with pc:=f.pc+1,regs:=q.2.1 },GuaM.alive i L)::s) c:=fun c a b=>by
  unfold rho;by_cases hg:c∈glob t
  ·rw[if_pos hg,if_pos hg]
  ·rw[if_neg hg,if_neg hg];by_cases hl:c∈L
   ·have hna:c∉i.args:=by
     rcases hop with e|e
     ·exact h8 e c hl
     ·rcases b with b|b|b
      ·exact absurd b hg
      ·exact absurd b (out_owns h.ac.right h.fr.unit (h.lo c hl)).1
      ·exact (h7 e c b).2
    rw[if_pos hl,if_pos (h4 c hl hna).1];exact (h4 c hl hna).2.symm
   ·have ho:c∈out t f.u:=(a.resolve_left hg).resolve_right hl;rw[if_neg hl,if_neg fun hb=>(out_owns h.ac.right h.fr.unit (hlo c hb)).1 ho]
 have hfr:FOk t O {f with pc:=f.pc+1,regs:=q.2.1} u (GuaM.alive i L) s (p+1) (-1):=by
  refine⟨h.fr.unit,hat,h.fr.vars,fun n e x g1 g2 _ g4=>?_,fun c hc=>?_,h6,h.fr.outs,h.fr.res⟩
  ·have h0:0<=n:=by obtain⟨k,hk,_⟩:=gt_some g1;omega
   have hv:=h.fr.val n e x g1 g2 (by omega) fun hs=>g4 (.pass hs h.hi (by rw[hnd];omega) hnx);have key:0<=e->x≠0->GuaM.Seen t f.u L e/\GuaM.Seen t f.u (GuaM.alive i L) e:=fun h0' hx=>by
    have hs:=hv.2 h0' hx;refine⟨hs,?_⟩
    rcases hs with a|a|a
    ·exact .inl a
    ·exact .inr (.inl a)
    ·by_cases hna:e∈i.args
     ·rcases hop with ho|ho
      ·exact absurd hna (h8 ho e a)
      ·refine absurd (GuaM.St.gone h.fr.ats h.hi (v:=n) ⟨ho,h0,e,?_,hna⟩ (by rw[hnd];omega) hnx) g4;unfold gt at g1;rw[if_pos h0] at g1;exact g1
     ·exact .inr (.inr (h4 e a hna).1)
   refine⟨hv.1.env fun hx c hc=>?_,fun h0' hx=>(key h0' hx).2⟩;obtain⟨k1,k2⟩:=key (from_ge hc).1 hx;exact hrho c (seen_from h.closed k1 hc) (seen_from hcl k2 hc)
  ·show q.2.1 c=_;rw[h5 c fun ho=>(out_owns h.ac.right h.fr.unit ho).1 (out_takes h.ac.right h.fr.unit hc)];exact h.fr.takes c hc
 refine .inl ⟨h.en,(_,GuaM.alive i L)::s,O,?_,⟨⟨u,p+1,h.pcn,hfr⟩,h.rest⟩,h2,?_,h.glo⟩
 ·show _::s.map (·.1)=_::(M.pre f).fs.tail;rw[h.pre,h.sr];rfl
 ·show ObsOk t O q.1.L;rw[h3];exact h.obs
theorem rise_nodup {l:List Int}(h:Rise l):l.Nodup:=h.imp fun h e=>by omega
theorem Cx.create (h:Cx t M f r u i L s p O)(hop:i.op=21):GoodM t ((M.pre f).regs {f with pc:=f.pc+1} (crT i.args M.tb f.regs)):=by
 have hc:=h.cond;unfold GuaM.CondL at hc;rw[if_pos hop] at hc;obtain⟨hr,ho⟩:=h.insv.own (.inl hop);have hal:GuaM.alive i L=GuaM.both L i.args:=by unfold GuaM.alive;rw[if_pos hop]
 obtain⟨a,b,c,d⟩:=crT_ok i.args L (regsOf s) M.tb f.regs (rise_nodup hr) hc.1 (fun x hx=>h.fr.owns x (ho x hx) (hc.1 x hx)) h.regs;refine h.regs' (.inl hop) a (b.perm (List.Perm.append_right _ (List.Perm.map _ ?_))) d (fun x hx hna=>⟨by rw[hal];exact GuaM.both_mem.2 (.inl hx),c x hna⟩) (fun x hx=>c x fun h2=>hx (ho x h2)) (fun x hx hna=>?_) (fun h2=>by omega) fun _ x hx h2=>hc.1 x h2 hx
 ·rw[hal];have hn:(L++i.args).Nodup:=List.nodup_append.2 ⟨rise_nodup h.fr.ats.rise,rise_nodup hr,fun x hx y hy e=>hc.1 y hy (by rw[<- e];exact hx)⟩;refine (List.perm_ext_iff_of_nodup hn (rise_nodup (GuaM.both_rise _ _))).2 fun x=>?_;rw[GuaM.both_mem,List.mem_append]
 ·rw[hal,GuaM.both_mem] at hna;rw[c x fun h2=>hna (.inr h2)];exact h.fr.owns x hx fun h2=>hna (.inl h2)
theorem Cx.remove (h:Cx t M f r u i L s p O)(hop:i.op=22):GoodM t ((M.pre f).regs {f with pc:=f.pc+1} (rmT i.args M.tb f.regs)):=by
 have hc:=h.cond;unfold GuaM.CondL at hc;rw[if_neg (by omega),if_pos hop] at hc;obtain⟨hr,ho⟩:=h.insv.own (.inr hop);have hal:GuaM.alive i L=GuaM.minus L i.args:=by unfold GuaM.alive;rw[if_neg (by omega),if_pos hop]
 obtain⟨a,b,c,d⟩:=rmT_ok i.args L (regsOf s) M.tb f.regs (rise_nodup hr) (rise_nodup h.fr.ats.rise) hc.1 h.regs;rw[<- hal] at b;refine h.regs' (.inr hop) a b d (fun x hx hna=>⟨by rw[hal];exact GuaM.minus_mem.2 ⟨hx,hna⟩,by rw[c x,if_neg hna]⟩) (fun x hx=>by rw[c x,if_neg fun h2=>hx (ho x h2)]) (fun x hx hna=>?_) (fun _ x hx=>by rw[hal] at hx;exact GuaM.minus_mem.1 hx) fun h2=>by omega
 rw[hal,GuaM.minus_mem] at hna;rw[c x];split
 ·rfl
 ·rename_i h2;exact h.fr.owns x hx fun h3=>hna ⟨h3,h2⟩
theorem bin_trap (op a b:Int):(bin op a b).2≠-1:=by rcases bin_code op a b with h|h<;>omega
theorem Cx.go (h:Cx t M f r u i L s p O):GoodM t ((M.pre f).go t (glob t) {f with pc:=f.pc+1} i):=by
 have hF:=h.fits;have hv:=h.insv;have pl:∀{y:Int},of u i.a=-2->VarOk t O f.u L (rho (glob t) ((f,L)::s)) (of u i.a) y:=fun e=>.plain t O f.u L _ _ e;have asz:∀(l:List Int),asks i=l->∀v∈l,v∈asks i:=fun l e v hv=>by rw[e];exact hv
 obtain⟨h1,h2⟩:=hv.op;obtain e|e|e|e|e|e|e|e|e|e|e|e|e|e|e|e|e|e|e|e|e|e:i.op=1\/i.op=2\/i.op=3\/i.op=4\/i.op=5\/i.op=6\/i.op=7\/i.op=8\/i.op=9\/i.op=10\/i.op=11\/i.op=12\/i.op=13\/i.op=14\/i.op=15\/i.op=16\/i.op=17\/i.op=18\/i.op=19\/i.op=20\/i.op=21\/i.op=22:=by omega
 ·rw[go1 e];have:=fit1 hF (.inl e);exact h.var0 (by unfold Sets;omega) (by omega) (by omega) (pl this)
 ·rw[go2 e];have:=fit2 hF e;exact h.var0 (by unfold Sets;omega) (by omega) (by unfold IsRef at this;omega) (.zero ..)
 ·rw[go3 e];have:=fit3 hF e;exact h.var0 (by unfold Sets;omega) (by omega) (into_l this) ((h.use (by unfold asks;rw[if_pos (by omega)];simp) (into_r this)).into this)
 ·rw[go4 e];have:=(fit4 hF e).2.1;exact h.got (by unfold Sets;omega) (by omega) (by omega) (bin_trap _ _ _) fun _=>pl this
 ·rw[go5 e];have:=(fit5 hF e).2.1;exact h.var0 (by unfold Sets;omega) (by omega) (by omega) (pl this)
 ·rw[go6 e];exact h.loads (by unfold Sets;omega) (by omega) (by unfold asks;rw[if_pos (by omega)];simp) (fit6 hF e) (.inl ⟨rfl,rfl⟩)
 ·rw[go7 e];have ha:asks i=[i.a,i.b]:=by unfold asks;rw[if_neg (by omega),if_neg (by omega),if_pos (by omega)]
  exact h.lays (.inl e) (asz _ ha _ (by simp)) (asz _ ha _ (by simp)) (fit7 hF e) (.inl ⟨rfl,rfl⟩)
 ·rw[go8 e];exact h.loads (by unfold Sets;omega) (by omega) (by unfold asks;rw[if_neg (by omega),if_pos (by omega)];simp) (fit8 hF e).2 (.inr ⟨rfl,rfl⟩)
 ·rw[go9 e];have ha:asks i=[i.a,i.b,i.c]:=by unfold asks;rw[if_neg (by omega),if_neg (by omega),if_neg (by omega),if_pos (by omega)]
  exact h.lays (.inr e) (asz _ ha _ (by simp)) (asz _ ha _ (by simp)) (fit9 hF e).2 (.inr ⟨rfl,rfl⟩)
 ·rw[go10 e];obtain⟨l1,l2⟩:=fit10 hF e;refine h.got (by unfold Sets;omega) (by omega) (by omega) ?_ fun _=>pl l2;have hb:i.b∈asks i:=by unfold asks;rw[if_pos (by omega)];simp
  have hr:-1<=of u i.b:=by
   rcases cell_type l1 with ⟨e1,_⟩|⟨_,Lt,e2,_⟩
   ·omega
   ·obtain⟨k,hk,_⟩:=gt_some e2;omega
  rcases h.thing hb (by omega) hr with h3|⟨_,_,k,o,q,_,_,_,a4,_,_,a7,_⟩
  ·show (lenP M.tb.B M.tb.L (lkv f.vars i.b)).2≠-1;unfold lenP;rw[h3];simp
  ·show (lenP M.tb.B M.tb.L (lkv f.vars i.b)).2≠-1;unfold lenP;rw[a4];simp[a7]
 ·rw[go11 e];have hc:=h.cond;unfold GuaM.CondL at hc
  (repeat rewrite[if_neg (by omega)] at hc);rw[if_pos (by omega)] at hc
  exact h.lies _ (by unfold Sets;omega) (by omega) (fit11 hF e) hc
 ·rw[go12 e];have hc:=h.cond;unfold GuaM.CondL at hc
  (repeat rewrite[if_neg (by omega)] at hc);rw[if_pos (by omega)] at hc
  split
  ·exact trap_good (by simp) (by simp)
  ·exact h.lies _ (by unfold Sets;omega) (by omega) (fit12 hF e).1 hc
 ·rw[go13 e];exact h.call e
 ·rw[go14 e];have:=fit1 hF (.inr (.inl e));split
  ·exact trap_good (by simp) (by simp)
  ·exact h.var (O':=O) (fun _ _ _ h=>h) h.en (by show _::(M.pre f).fs.tail=_;rw[h.pre];rfl) rfl h.obs rfl (by unfold Sets;omega) (by omega) (by omega) (pl this)
 ·rw[go15 e];have hd:def_ i=-1:=by unfold def_;rw[if_neg];intro h;have:=h.1;unfold Sets at this;omega
  exact h.gox (f':={f with pc:=f.pc+1 }) (O':=O) (fun _ _ _ h=>h) h.en h.pre rfl h.obs h.glo h.pcn (h.nx (by omega) (by omega) (by omega)) (by omega) (by omega) rfl rfl rfl rfl (fun _ _=>rfl) (fun h=>by omega)
 ·rw[go16 e];have hd:def_ i=-1:=by unfold def_;rw[if_neg];intro h;have:=h.1;unfold Sets at this;omega
  obtain⟨q,hq,hq2⟩:=h.nj (y:=i.n) (.inl ⟨e,rfl⟩)
  exact h.gox (f':={f with pc:=i.n }) (O':=O) (fun _ _ _ h=>h) h.en (by show _::(M.pre f).fs.tail=_;rw[h.pre];rfl) rfl h.obs h.glo hq hq2 (by omega) (by omega) rfl rfl rfl rfl (fun _ _=>rfl) (fun h=>by omega)
 ·rw[go17 e];have hd:def_ i=-1:=by unfold def_;rw[if_neg];intro h;have:=h.1;unfold Sets at this;omega
  obtain⟨q,hq,hq2⟩:=h.nj (y:=if lkv f.vars i.a≠0 then i.n else i.c) (.inr ⟨e,by split<;>simp⟩)
  exact h.gox (f':={f with pc:=if lkv f.vars i.a≠0 then i.n else i.c }) (O':=O) (fun _ _ _ h=>h) h.en (by show _::(M.pre f).fs.tail=_;rw[h.pre];rfl) rfl h.obs h.glo hq hq2 (by omega) (by omega) rfl rfl rfl rfl (fun _ _=>rfl) (fun h=>by omega)
 ·rw[go18 e];exact h.ret e
 ·rw[go19 e];exact h.get e
 ·rw[go20 e];exact h.lay e
 ·rw[go21 e];exact h.create e
 ·rw[go22 e];exact h.remove e
end
variable {t:RTg}
theorem GoodM.less {t:RTg}{M:Ms}(h:GoodM t M):GoodM t (M.less t):=by
 obtain⟨h1,h2,h3,h4,_⟩:=less_fs M t
 rcases h with ⟨e,σ,O,a,b,c,d,g⟩|e|⟨e,h5⟩
 ·exact .inl ⟨by rw[h3];exact e,σ,O,by rw[h1];exact a,b,by rw[h4];exact c,by rw[h4];exact d,by rw[h2];exact g⟩
 ·exact .inr (.inl (by rw[h3];exact e))
 ·exact .inr (.inr ⟨by rw[h3];exact e,by rw[h4];exact h5⟩)
theorem regs_le {t:RTg}{O:List Ob}(hA:Acc t):∀{σ:List (Fr×List Int)} {k:Int},SOk t O k σ->(regsOf σ).length<=1+((σ.map (·.1)).map (ownsN t)).sum
 |[],_,_=>Nat.le_refl _
 |(f,L)::s,k,⟨⟨u,p,_,h⟩,h2⟩=>by
  have h3:=regs_le hA h2;have h4:L.length<=u.owns.length:=(GuaM.rise_subset u.owns L h.ats.rise ((right_unit hA.right (gt_mem h.unit)).1.2.2.2.2.2.1).1 (at_owns hA.right (gt_mem h.unit) h.ats)).1;have h5:ownsN t f=u.owns.length:=by unfold ownsN;rw[h.unit]
  show (L.map f.regs++regsOf s).length<=1+(ownsN t f+((s.map (·.1)).map (ownsN t)).sum);rw[List.length_append,List.length_map,h5];omega
theorem GoodM.slack {t:RTg}(hA:Acc t){M:Ms}(h:GoodM t M)(h0:0<=M.slack):0<=(M.less t).slack:=by
 unfold Ms.less;split
 ·rename_i he
  rcases h with ⟨e,σ,O,a,b,c,d,g⟩|e|⟨e,_⟩
  ·show 0<=min M.slack (M.room t);have h1:=regs_le hA b;have h2:=c.count;have:0<=M.room t:=by unfold Ms.room bound;rw[<- a];omega
   omega
  ·omega
  ·omega
 ·exact h0
theorem go_slack (M:Ms)(t:RTg)(G:List Int)(f:Fr)(i:Ins):(M.go t G f i).slack=M.slack:=by
 have tr:∀(M:Ms) c,(M.trap c).slack=M.slack:=fun M c=>(M.trap_fs c).2.2.2.2.2.2;have gt':∀(M:Ms) a q,(M.got f a q).slack=M.slack:=fun M a q=>by
  unfold Ms.got;split
  ·rfl
  ·exact tr _ _
 have li:∀(M:Ms) a c n,(M.lies G f a c n).slack=M.slack:=fun M a c n=>by unfold Ms.lies;split<;>rfl
 have rg:∀(M:Ms) q,(M.regs f q).slack=M.slack:=fun M q=>by unfold Ms.regs;split<;>rfl
 have ite':∀(c:Prop) [Decidable c] (a b:Ms),a.slack=M.slack->b.slack=M.slack->(if c then a else b).slack=M.slack:=fun c _ a b h1 h2=>by
  split
  ·exact h1
  ·exact h2
 unfold Ms.go
 repeat' (refine ite' _ _ _ ?_ ?_)
 all_goals first|rfl|exact gt' _ _ _|exact tr _ _|exact li _ _ _ _|exact rg _ _|(unfold Ms.ret;split<;>rfl)|(split<;>first|rfl|exact tr _ _|(split<;>rfl))
theorem step_good (hA:Acc t){M:Ms}(hM:MsOk t M)(he:M.en=0)(h:GoodM t M):GoodM t (M.step t (glob t))/\(0<=M.slack->0<=(M.step t (glob t)).slack):=by
 obtain⟨f,r,u,i,⟨hfs,hu,hi⟩,hnext⟩:=hM.nextOf he;obtain⟨_,σ,O,a,b,c,d,g⟩:M.en=0/\∃σ O,SafeM t M σ O:=h.elim id fun h=>h.elim (fun h=>by omega) fun h=>by omega
 have hcx:∃L s p,Cx t M f r u i L s p O:=by
  cases σ with
  |nil=>rw[hfs] at a;cases a
  |cons y s=>
   obtain⟨f',L⟩:=y;rw[hfs,List.map_cons] at a;obtain⟨rfl,hsr⟩:=List.cons.inj a;obtain⟨⟨u',p,hp,hf⟩,hs⟩:=b;obtain rfl:u'=u:=by have h2:=hf.unit;rw[hu] at h2;exact (Option.some.inj h2).symm
   refine⟨L,s,p,hA,he,hfs,hsr,hf,hp,?_,hs,c,d,g,hM.gl⟩;rw[hp,gt_nat] at hi;exact hi
 obtain⟨L,s,p,hcx⟩:=hcx;have h1:=hcx.go;rw[step_next hnext];refine⟨h1.less,fun h0=>h1.slack hA ?_⟩
 have:=(go_slack (M.pre f) t (glob t) {f with pc:=f.pc+1} i);rw[this];exact h0
theorem begin_good (hA:Acc t)(inp:List Int):GoodM t (begin_ t inp)/\0<=(begin_ t inp).slack:=by
 have hR:=hA.right;obtain⟨u,hu,hp⟩:∃u,gt t.units t.main=some u/\(u.params=0/\u.result=-3):=by
  have:=hR.2.1;unfold MainOk at this
  cases h:gt t.units t.main with
  |none=>rw[h] at this;exact this.elim
  |some u=>rw[h] at this;exact⟨u,rfl,this⟩
 have hnone:∀c,c∉out t t.main:=fun c hc=>by
  unfold out at hc;rw[hu] at hc;have hc:c∈outOf t u:=hc;unfold outOf roots at hc;have h1:=(List.mem_filter.1 hc).1;rw[fromL_nil] at h1
  ·simp at h1
  ·intro x hx;have hpz:pars u=0:=by unfold pars;rw[hp.1];omega
   rw[hpz,hp.2] at hx;simp at hx;omega
 have hf:FOk t [] ⟨t.main,0,List.replicate u.vars.length 0,-1,fun _=>0⟩ u [] [] 0 (-1):=by
  refine⟨hu,.zero,by simp,fun n e x _ h2 _ _=>?_,fun c hc=>absurd (out_takes hR hu hc) (hnone c),fun _ _ _=>rfl,fun c hc=>absurd hc (hnone c),fun _ _ _ e=>by cases e⟩;have:x=0:=List.eq_of_mem_replicate (gt_mem h2);subst this;exact .zero ..
 have hl:Lists [true] [1]:=by
  refine⟨fun r=>?_,by simp⟩;constructor
  ·intro h;have:=hasB_one h;simp at this;simp;omega
  ·intro h;have:r=1:=by simpa using h
   subst this;rfl
 have hs:SafeM t (begin_ t inp) [(⟨t.main,0,List.replicate u.vars.length 0,-1,fun _=>0⟩,[])] []:=by
  refine⟨?_,⟨⟨u,0,rfl,hf⟩,trivial⟩,hl,⟨rfl,fun k o q h=>by simp at h⟩,fun n e x _ h2=>?_⟩
  ·show [_]=[_];rw[hu]
  ·have:x=0:=List.eq_of_mem_replicate (gt_mem (show gt (List.replicate t.globals.length 0) n=some x from h2));subst this;exact .zero ..
 refine⟨.inl ⟨rfl,_,_,hs⟩,?_⟩;show 0<=(start t inp).room t;have h1:=regs_le hA hs.st;have h2:=hs.regs.count;have h3:=hs.fs;unfold Ms.room bound;have e1:(start t inp).tb.B=(begin_ t inp).tb.B:=rfl;have e2:(start t inp).fs=(begin_ t inp).fs:=rfl;rw[e1,e2,<-h3];omega
theorem iter_good {t:RTg}(hA:Acc t):∀(n:Nat) {M:Ms},MsOk t M->GoodM t M->0<=M.slack->GoodM t (iter t (glob t) n M)/\0<=(iter t (glob t) n M).slack
 |0,M,_,h,h0=>⟨h,h0⟩
 |n+1,M,hM,h,h0=>by
  unfold iter;split
  ·rename_i hz;obtain⟨h1,h2⟩:=step_good hA hM hz h;exact iter_good hA n (hM.step hA.right hz) h1 (h2 h0)
  ·exact⟨h,h0⟩
theorem ran_safe (hA:Acc t)(inp:List Int)(fuel:Int):
  let y:=ranP t (glob t) inp fuel
  0<=y.slack/\(y.beh.end_=1/\y.live=0/\y.made=y.gone\/y.beh.end_=2\/y.beh.end_=3):=by
 intro y;obtain⟨hok,_⟩:=begin_ok (inp:=inp) hA.right;obtain⟨h1,h2⟩:=begin_good hA inp;obtain⟨h3,h4⟩:=iter_good hA (max fuel 0).toNat hok h1 h2;have hy:y=(runM t (glob t) (max fuel 0).toNat (begin_ t inp)).clear.ran:=rfl;rw[runM_iter] at hy;generalize iter t (glob t) (max fuel 0).toNat (begin_ t inp)=M at h3 h4 hy
 rcases h3 with ⟨e,_⟩|e|⟨e,hl⟩
 ·rw[if_pos e] at hy;obtain⟨_,_,s1,_,s2,_⟩:=clear_mono (M.ends 3 0);rw[hy];refine⟨by show 0<=(M.ends 3 0).clear.slack;rw[s1];exact h4,.inr (.inr ?_)⟩;show (M.ends 3 0).clear.en=3;rw[s2];rfl
 ·rw[if_neg (by omega)] at hy;obtain⟨_,_,s1,_,s2,_⟩:=clear_mono M;rw[hy];refine⟨by show 0<=M.clear.slack;rw[s1];exact h4,.inr (.inl ?_)⟩;show M.clear.en=2;rw[s2];exact e
 ·rw[if_neg (by omega)] at hy;obtain⟨_,_,s1,_,s2,_⟩:=clear_mono M;have hc:liveN M.clear.tb.B=0:=by
   unfold Ms.clear;rw[if_pos e];have hh:=(hl.iff 1).2 (by simp);show liveN (M.tb.rem 1).B=0;unfold Tb.rem;rw[if_pos hh];exact hl.rem.count
  rw[hy];refine⟨by show 0<=M.clear.slack;rw[s1];exact h4,.inl ⟨by show M.clear.en=1;rw[s2];exact e,?_,?_⟩⟩
  ·show ((liveN M.clear.tb.B:Nat):Int)=0;rw[hc];rfl
  ·show ((M.clear.tb.B.length:Nat):Int)=(M.clear.tb.B.length:Int)-(liveN M.clear.tb.B:Int);rw[hc];simp
end Go.Proofs.YtojfbbggnkijeaaGreatDoor
namespace Go.Proofs.YtojfbbggnkijeaaGreatDoor
open Go Go.RR Go.RX Go.GX
attribute [local irreducible] wpList Code.wp wpPlan Exit.then Exit.inBlock bodyPost NoPanic Went GX.Post Again Meet RowR GX.Own Owns Box Sl Pt Ag MapR Kept Pin wpT GoK AtEnd Both
theorem take_eq_succ10 {α:Type}{xs ys:List α}{i:Nat}{x:α}(h:xs.take i=ys.take i)(hx:xs[i]?=some x)(hy:ys[i]?=some x):xs.take (i+1)=ys.take (i+1):=by
 rw[List.take_add_one,List.take_add_one,h,hx,hy]
theorem ints10_same (ao1 ao2:Option Addr)(cap1 cap2:Nat)(xs ys:List Int):Does Tryz.prog 16 [.slice ao1 xs.length cap1,.slice ao2 ys.length cap2] [Sl Ty.int ao1 cap1 xs,Sl Ty.int ao2 cap2 ys] []
  (fun _:Unit=>.bool (decide (xs=ys))) (fun _=>[]) (fun _=>[]):=by
 refine enter Tryz.func16 rfl Tryz.ntmps16 rfl fun b=>?_;refine sln ao1 fun h1 h2 _=>?_;by_cases hl:xs.length=ys.length
 ·refine w_ ?_;intros;refine GX.loop (σ:=Nat) (fun i=>[(0,.slice ao1 xs.length cap1),(1,.slice ao2 ys.length cap2),(5,.int .i64 (i:Int))]) (fun _=>[]) (fun _=>[])
   (fun i=>i<=xs.length/\xs.take i=ys.take i) (fun i=>xs.length-i) 0 ⟨rfl,rfl,rfl,trivial⟩ ⟨by omega,by simp⟩ (fun i hi=>?_)
  obtain⟨hi,ht⟩:=hi;by_cases hlt:i<xs.length
  ·obtain⟨x,hx⟩:=get_lt hlt;obtain⟨y,hy⟩:=get_lt (show i<ys.length by omega);by_cases hxy:x=y
   ·refine w_ ?_;intros;refine drawn0 (fun j=>!(List.contains [] j)) [(0,true),(1,true),(2,true),(3,true),(4,true),(5,true),(6,true),(7,true),(8,true)] rfl (by kernel_rfl) (by kernel_rfl) sA ?_;intro wd F hW hR;refine u_ ?_;intros;refine w_ ?_;intros;subst hxy;exact again (i+1) ⟨rfl,rfl,rfl,trivial⟩ ⟨by omega,take_eq_succ10 ht hx hy⟩ (by omega)
   ·refine w_ ?_;intros;refine drawn0 (fun j=>!(List.contains [] j)) [(0,true),(1,true),(2,true),(3,true),(4,true),(5,true),(6,true),(7,true),(8,true)] rfl (by kernel_rfl) (by kernel_rfl) sA ?_;intro wd F hW hR;refine u_ ?_;intros;refine w_ ?_;intros;have he:decide (xs=ys)=false:=decide_eq_false fun e=>hxy (by subst e;rw[hx] at hy;exact Option.some.inj hy);exact rt1 () (congrArg Value.bool he)
  ·have hil:i=xs.length:=by omega
   subst hil;refine w_ ?_;intros;have he:decide (xs=ys)=true:=by
    rw[List.take_length,hl,List.take_length] at ht;exact decide_eq_true ht
   exact rt1 () (congrArg Value.bool he)
 ·refine w_ ?_;intros;have he:decide (xs=ys)=false:=decide_eq_false fun e=>hl (by rw[e]);exact rt1 () (congrArg Value.bool he)
end Go.Proofs.YtojfbbggnkijeaaGreatDoor
namespace Go.Proofs.YtojfbbggnkijeaaGreatDoor
open Go Go.RR Go.RX Go.GX Go.Api
attribute [local irreducible] wpList Code.wp wpPlan Exit.then Exit.inBlock bodyPost NoPanic Went GX.Post Again Meet RowR GX.Own Owns Box Sl Pt Ag MapR Kept Pin wpT GoK AtEnd Both
theorem same10_spec (c1 c2:List Value)(x y:Api.Beh):Does Tryz.prog 26 [.agg c1.toArray,.agg c2.toArray] [Ag tyBeh c1 x,Ag tyBeh c2 y] [] (fun _:Unit=>.bool (decide (x=y))) (fun _=>[]) (fun _=>[]):=by
 refine enter Tryz.func26 rfl Tryz.ntmps26 rfl fun b=>?_;obtain⟨e1,d1,o1,s1⟩:=x;obtain⟨e2,d2,o2,s2⟩:=y;by_cases h1:e1=e2
 ·by_cases h2:d1=d2
  ·by_cases h3:s1=s2
   ·refine w_ ?_;intros;refine nmS 26 ?_;rintro a26 c26 rfl rfl;refine nmS 28 ?_;rintro a28 c28 rfl rfl;refine GX.o (cl (ints10_same a26 a28 c26 c28 o1 o2) fun _=>?_);refine w_ ?_;intros;refine rt1 () ?_;congr 1;rw[decide_eq_decide];subst h1 h2 h3;simp
   ·refine w_ ?_;intros;exact rt1 () (vN fun h=>h3 (by injection h))
  ·refine w_ ?_;intros;exact rt1 () (vN fun h=>h2 (by injection h))
 ·refine w_ ?_;intros;exact rt1 () (vN fun h=>h1 (by injection h))
theorem same29_spec (c1 c2:List Value)(x y:Api.Ran):Does Tryz.prog 12 [.agg c1.toArray,.agg c2.toArray] [Ag tyRan c1 x,Ag tyRan c2 y] [] (fun _:Unit=>.bool (decide (x=y))) (fun _=>[]) (fun _=>[]):=by
 refine enter Tryz.func12 rfl Tryz.ntmps12 rfl fun b=>?_;obtain⟨b1,m1,g1,l1,p1,s1,t1⟩:=x;obtain⟨b2,m2,g2,l2,p2,s2,t2⟩:=y;refine w_ ?_;intros;refine nmA 6 ?_;rintro c6 rfl;refine nmA 8 ?_;rintro c8 rfl;refine GX.o (cl (same10_spec c6 c8 b1 b2) fun _=>?_);by_cases h0:b1=b2
 ·by_cases h1:m1=m2
  ·by_cases h2:g1=g2
   ·by_cases h3:l1=l2
    ·by_cases h4:p1=p2
     ·by_cases h5:s1=s2
      ·refine w_ ?_;intros;refine rt1 () ?_;congr 1;rw[decide_eq_decide];subst h0 h1 h2 h3 h4 h5;simp
      ·refine w_ ?_;intros;exact rt1 () (vN fun h=>h5 (by injection h))
     ·refine w_ ?_;intros;exact rt1 () (vN fun h=>h4 (by injection h))
    ·refine w_ ?_;intros;exact rt1 () (vN fun h=>h3 (by injection h))
   ·refine w_ ?_;intros;exact rt1 () (vN fun h=>h2 (by injection h))
  ·refine w_ ?_;intros;exact rt1 () (vN fun h=>h1 (by injection h))
 ·refine w_ ?_;intros;exact rt1 () (vN fun h=>h0 (by injection h))
end Go.Proofs.YtojfbbggnkijeaaGreatDoor
namespace Go.Proofs.YtojfbbggnkijeaaGreatDoor
open Go Go.RR Go.RX Go.GX Go.Api Go.RiseM Go.ReachM Go.RtM Go.NumM
variable {t:RTg}
theorem fm_len6 {l:List Unt}:6*l.length<=(l.flatMap NumM.encU).length:=by
 induction l with
 |nil=>simp
 |cons u l ih=>
  rw[List.flatMap_cons,List.length_append,List.length_cons];have:6<=(NumM.encU u).length:=by
   unfold NumM.encU encL;simp only[List.length_append];have h1:=num_pos u.params;have h2:=num_pos (u.vars.length:Int);have h3:=num_pos u.result;have h4:=num_pos (u.takes.length:Int);have h5:=num_pos (u.owns.length:Int);have h6:=num_pos (u.ins.length:Int);omega
  omega
structure Few (t:RTg):Prop where
 cls:t.classes.length<=3000
 units:t.units.length<=500
 unit:∀u∈t.units,u.vars.length<=3000/\u.ins.length<=3000/\u.takes.length<=3000/\u.owns.length<=3000/\∀i∈u.ins,i.args.length<=3000
theorem few_of (h:(encT t).length<=3000):Few t:=by
 unfold encT at h;simp only[List.length_append] at h;have h1:=fm_len (f:=NumM.encC) (l:=t.classes) fun x _=>encC_pos x;have h3:=fm_len6 (l:=t.units);refine⟨by omega,by omega,fun u hu=>?_⟩;have h6:=mem_len (f:=NumM.encU) hu;have h7:=encs_len u.vars;have h8:=fm_len (f:=NumM.encI) (l:=u.ins) fun x _=>encI_pos x;have h9:=encs_len u.takes;have h10:=encs_len u.owns;have h11:(encs u.vars).length+(encs u.takes).length+(encs u.owns).length+(u.ins.flatMap NumM.encI).length<=(NumM.encU u).length:=by unfold NumM.encU encL;simp only[List.length_append];omega
 refine⟨by omega,by omega,by omega,by omega,fun i hi=>?_⟩;have h12:=mem_len (f:=NumM.encI) hi;have h13:=encs_len i.args;have h14:(encs i.args).length<=(NumM.encI i).length:=by unfold NumM.encI encL;simp only[List.length_append];omega
 omega
theorem Few.tame (h:Few t):Tame30 t:=⟨fun u hu=>by have:=(h.unit u hu).2.2.2.1;omega,fun u hu i hi=>by have:=(h.unit u hu).2.2.2.2 i hi;omega⟩
theorem Few.unW (h:Few t)(hR:RightP t){u:Unt}(hu:u∈t.units):UnW t u:=by
 obtain⟨u1,u2,u3,u4,ua⟩:=h.unit u hu;obtain⟨⟨_,_,_,hne,_,⟨_,ho⟩,_⟩,hI⟩:=hR.2.2.2.2.2 u hu;have hc:=h.cls;refine⟨hne,by omega,by omega,by omega,?_,by omega,fun x hx=>⟨by have:=ua x hx;omega,fun h13=>?_⟩,fun x hx h21 c hc2=>?_⟩
 ·have:=fromL_len (flds t) t.globals;rw[flds_len] at this;have:(glob t).length<=t.classes.length:=this;omega
 ·have hf:=(hI x hx).2;unfold Fits at hf
  repeat rw[if_neg (by omega)] at hf
  unfold Goes at hf;rw[if_pos h13] at hf;unfold CallOk at hf
  cases hg:gt t.units x.c with
  |none=>rw[hg] at hf;exact hf.elim
  |some g=>
   obtain⟨j,h1,_,h2⟩:=gt_some hg;exact⟨j,g,h1,h2⟩
 ·have hf:=(hI x hx).2;unfold Fits at hf
  repeat rw[if_neg (by omega)] at hf
  unfold Goes at hf
  repeat rw[if_neg (by omega)] at hf
  exact (ho c (hf.2.2 c hc2)).1
theorem acc_of (h:AccT t):Acc t:=⟨h.1,fun k u hu=>h.2 k u (List.getElem?_eq_some_iff.1 hu).1 hu⟩
structure DrS (B:List Int)(inp:List Int)(fuel:Int) where
 cs:List Value
 y:Api.Ran
 e:Int
 h:(e=0/\∃t,Is B t/\(∀t2,Is B t2->t=t2)/\AccT t/\y=ranP t (glob t) inp fuel)\/(y=ran0/\(e=6/\(∀t,¬ Is B t)\/e=5/\∃t,Is B t/\(∀t2,Is B t2->t=t2)/\¬ AccT t))
attribute [local irreducible] wpList Code.wp wpPlan Exit.then Exit.inBlock bodyPost NoPanic Went GX.Post Again Meet RowR GX.Own Owns Box Sl Pt Ag MapR Star Kept Pin wpT GoK AtEnd Both
theorem drun_spec (a:Option Addr)(c:Nat)(B:List Int)(hB:B.length<=3000)(ai:Option Addr)(ci:Nat)(inp:List Int)(fuel:Int)(hf:fuel<=100000):
  Does Tryz.prog 11 [.slice a B.length c,.slice ai inp.length ci,.int .i64 fuel] [Sl Ty.byte a c B,Sl Ty.int ai ci inp] [] (fun s:DrS B inp fuel=>.tuple #[.agg s.cs.toArray,.int .i64 s.e]) (fun s=>[Ag tyRan s.cs s.y]) (fun _=>[]):=by
 refine enter Tryz.func11 rfl Tryz.ntmps11 rfl fun b=>?_;refine w_ ?_;intros;refine GX.o (cl (get27_spec a c B) fun s=>?_);obtain⟨cg,t,e,hg⟩:=s;dsimp only
 rcases hg with ⟨rfl,hI,hU⟩|⟨rfl,hN,he⟩
 ·have hl:(encT t).length<=3000:=by rw[hI.2.2];exact hB
  have hfew:=few_of hl;have hs:=small_of (t:=t) (by omega);refine w_ ?_;intros;refine nmA 19 ?_;rintro c19 rfl;refine GX.o (cl (accepts_spec c19 t hs (by have:=hfew.units;omega) (fun hR u hu=>hfew.unW hR hu)) fun _=>?_);by_cases hA:AccT t
  ·have hA':=Classical.not_not.2 hA;refine w_ ?_;intros;refine nmA 23 ?_;rintro c23 rfl;refine GX.o (cl (run_spec c23 t hs hfew.tame ai ci inp fuel hf) fun s2=>?_);rw[show playP t inp fuel=ranP t (glob t) inp fuel from if_pos hA.1];refine w_ ?_;intros;exact rt2B (fun cs=>(⟨cs,_,0,.inl ⟨rfl,t,hI,hU,hA,rfl⟩⟩:DrS B inp fuel)) (fun _=>rfl)
  ·refine w_ ?_;intros;exact rt2B (fun cs=>(⟨cs,ran0,5,.inr ⟨rfl,.inr ⟨rfl,t,hI,hU,hA⟩⟩⟩:DrS B inp fuel)) (fun _=>rfl)
 ·have he:e=6:=by rw[he,if_neg (by omega)]
  subst he;refine w_ ?_;intros;exact rt2B (fun cs=>(⟨cs,ran0,6,.inr ⟨rfl,.inl ⟨rfl,fun t=>hN t (by omega)⟩⟩⟩:DrS B inp fuel)) (fun _=>rfl)
end Go.Proofs.YtojfbbggnkijeaaGreatDoor
namespace Go.Proofs.YtojfbbggnkijeaaGreatDoor
open Go Go.RR Go.RX Go.GX Go.Api Go.RtM Go.NumM
attribute [local irreducible] wpList Code.wp wpPlan Exit.then Exit.inBlock bodyPost NoPanic Went GX.Post Again Meet RowR GX.Own Owns Box Sl Pt Ag MapR Star Kept Pin GX.RowS
theorem fix_is:Is fixB fixT:=⟨fix_ok,fix_right,fix_enc⟩
theorem known_spec:Does Tryz.prog 7 [] [RowS 0 ascL] [] (fun _:Unit=>.bool true) (fun _=>[]) (fun _=>[]):=by
 refine enter Tryz.func7 rfl Tryz.ntmps7 rfl fun b=>?_;refine w_ ?_ 1;intros;refine GX.o (cl compile_spec fun s=>?_);obtain⟨bb,cb⟩:=s;dsimp only;refine w_ ?_ 1;intros;refine nmB 11 ?_;rintro b11 rfl;refine GX.o (cl (drun_spec (some ⟨bb,0,none⟩) cb fixB (by decide) (some ⟨b11,0,none⟩) 1 [7] 50 (by omega)) fun s=>?_);obtain⟨cs,y,e,hy⟩:=s;dsimp only;have hh:e=0/\y=⟨⟨1,0,[7],9⟩,2,2,0,2,0,1⟩:=by
  rcases hy with ⟨h0,t,hI,hU,hA,h1⟩|⟨_,⟨_,hn⟩|⟨_,t,hI,hU,hA⟩⟩
  ·have:=hU fixT fix_is;subst this;exact⟨h0,by rw[h1,fix_glob];exact fix_run⟩
  ·exact absurd fix_is (hn fixT)
  ·have:=hU fixT fix_is;subst this;exact absurd ⟨fix_accT.right,fun k u _ hu=>fix_accT.acc k u hu⟩ hA
 clear hy;obtain⟨rfl,hy⟩:=hh;have h1:y.beh.end_=1:=by rw[hy]
 have h2:y.beh.out=[7]:=by rw[hy]
 have h3:y.made=2:=by rw[hy]
 have h4:y.gone=2:=by rw[hy]
 refine w_ ?_;intros;refine nmS 31 ?_;rintro a31 c31 rfl rfl;refine nmB 32 ?_;rintro b32 rfl;refine GX.o (cl (ints10_same a31 (some ⟨b32,0,none⟩) c31 1 y.beh.out [7]) fun _=>?_);refine w_ ?_;intros;exact rt1 () (vY h4).symm
end Go.Proofs.YtojfbbggnkijeaaGreatDoor
namespace Go.Proofs.YtojfbbggnkijeaaGreatDoor
open Go Go.RR Go.RX Go.GX Go.Api Go.RtM Go.NumM
theorem zero_ran (F:Nat->Prop)(w:World):AllP F w [Ag tyRan [.int .i64 0,.int .i64 0,.slice none 0 0,.int .i64 0,.int .i64 0,.int .i64 0,.int .i64 0,.int .i64 0,.int .i64 0,.int .i64 0] ran0]:=one_p (UTy.rd (P:=Tryz.prog) (t:=43) F w)
theorem rowS_in {W:World}{vs:List Value}{e:TypeId}{fz:Nat×Nat}(h:W.heap[0]?=some (.cells vs.toArray e fz)):(RowS 0 vs).says (fun k=>k<W.heap.size) W:=⟨(Array.getElem?_eq_some_iff.1 h).1,e,fz,h⟩
attribute [local irreducible] wpList Code.wp wpPlan Exit.then Exit.inBlock bodyPost NoPanic Went GX.Post Again Meet RowR GX.Own Owns Box Sl Pt Ag MapR Star Kept Pin GX.RowS
theorem topChecker_does (a:Option Addr)(c:Nat)(B:List Int)(_:∀x∈B,0<=x/\x<=255)(ai:Option Addr)(ci:Nat)(inp:List Int)(_:∀x∈inp,I64 x)(fuel:Int)(hf:-9223372036854775808<=fuel/\fuel<=9223372036854775807):
  Does Tryz.prog 4 [.slice a B.length c,.slice ai inp.length ci,.int .i64 fuel] [Sl Ty.byte a c B,Sl Ty.int ai ci inp,RowS 0 ascL] [] (fun _:Unit=>.bool true) (fun _=>[]) (fun _=>[]):=by
 refine enter Tryz.func4 rfl Tryz.ntmps4 rfl fun b=>?_;by_cases h1:3000<(B.length:Int)
 ·refine w_ ?_;intros;exact rt1 () rfl
 by_cases h2:100<(inp.length:Int)
 ·refine w_ ?_;intros;exact rt1 () rfl
 by_cases h3:4000<fuel
 ·refine w_ ?_;intros;exact rt1 () rfl
 refine w_ ?_;intros;refine GX.o (cl (drun_spec a c B (by omega) ai ci inp fuel (by omega)) fun s=>?_);obtain⟨cs,y,e,hy⟩:=s;dsimp only
 rcases hy with ⟨rfl,t,hI,_,hA,rfl⟩|⟨rfl,he⟩
 ·have hs:=ran_safe (acc_of hA) inp fuel;generalize ranP t (glob t) inp fuel=y at hs ⊢;obtain⟨k1,hc⟩:=hs;have k1':¬ y.slack<0:=by omega
  rcases hc with ⟨e1,e2,e3⟩|e1|e1
  ·refine w_ ?_;intros;refine GX.o (cl known_spec fun _=>?_);refine w_ ?_;intros;exact rt1 () rfl
  ·refine w_ ?_;intros;refine GX.o (cl known_spec fun _=>?_);refine w_ ?_;intros;exact rt1 () rfl
  ·refine w_ ?_;intros;refine GX.o (cl known_spec fun _=>?_);refine w_ ?_;intros;exact rt1 () rfl
 ·have he:e=6\/e=5:=by
   rcases he with ⟨h,_⟩|⟨h,_⟩
   ·exact .inl h
   ·exact .inr h
  rcases he with rfl|rfl
  all_goals
   refine w_ ?_;intros;refine GX.addPs (fun F w _=>zero_ran F w) ?_;have hrr:ran0=ran0:=rfl;refine GX.o (cl (same29_spec _ _ ran0 ran0) fun _=>?_);refine w_ ?_;intros;refine GX.o (cl known_spec fun _=>?_);refine w_ ?_;intros;exact rt1 () rfl
end Go.Proofs.YtojfbbggnkijeaaGreatDoor
