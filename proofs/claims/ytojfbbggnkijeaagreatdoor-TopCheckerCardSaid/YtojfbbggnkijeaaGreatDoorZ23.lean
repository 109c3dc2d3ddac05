import Derived.Test.YtojfbbggnkijeaaGreatDoorZ22
set_option linter.all false
namespace Go.Proofs.YtojfbbggnkijeaaGreatDoor
open Go.Api Go.RtM Go.RiseM
variable {M:Ms} {t:RTg} {f:Fr} {i:Ins} {r:List Fr}
theorem go1 {G:List Int}(h:i.op=1):M.go t G f i=(M.var f i.a i.n):=by
 unfold Ms.go;rw[if_pos h]<;>rfl
theorem go2 {G:List Int}(h:i.op=2):M.go t G f i=(M.var f i.a 0):=by
 unfold Ms.go;rw[if_neg (by omega),if_pos h]<;>rfl
theorem go3 {G:List Int}(h:i.op=3):M.go t G f i=(M.var f i.a (lkv f.vars i.b)):=by
 unfold Ms.go
 (repeat rewrite[if_neg (by omega)]);rw[if_pos h]<;>rfl
theorem go4 {G:List Int}(h:i.op=4):M.go t G f i=(M.got f i.a (bin i.n (lkv f.vars i.b) (lkv f.vars i.c))):=by
 unfold Ms.go
 (repeat rewrite[if_neg (by omega)]);rw[if_pos h]<;>rfl
theorem go5 {G:List Int}(h:i.op=5):M.go t G f i=(M.var f i.a (unN i.n (lkv f.vars i.b))):=by
 unfold Ms.go
 (repeat rewrite[if_neg (by omega)]);rw[if_pos h]<;>rfl
theorem go6 {G:List Int}(h:i.op=6):M.go t G f i=(M.got f i.a (loadP M.tb.B M.tb.L (lkv f.vars i.b) i.c)):=by
 unfold Ms.go
 (repeat rewrite[if_neg (by omega)]);rw[if_pos h]<;>rfl
theorem go7 {G:List Int}(h:i.op=7):M.go t G f i=(({ M with tb:=M.tb.put (lkv f.vars i.a) i.c (lkv f.vars i.b)}:Ms).trap (loadP M.tb.B M.tb.L (lkv f.vars i.a) i.c).2):=by
 unfold Ms.go
 (repeat rewrite[if_neg (by omega)]);rw[if_pos h]<;>rfl
theorem go8 {G:List Int}(h:i.op=8):M.go t G f i=(M.got f i.a (loadP M.tb.B M.tb.L (lkv f.vars i.b) (lkv f.vars i.c))):=by
 unfold Ms.go
 (repeat rewrite[if_neg (by omega)]);rw[if_pos h]<;>rfl
theorem go9 {G:List Int}(h:i.op=9):M.go t G f i=(({ M with tb:=M.tb.put (lkv f.vars i.a) (lkv f.vars i.b) (lkv f.vars i.c)}:Ms).trap (loadP M.tb.B M.tb.L (lkv f.vars i.a) (lkv f.vars i.b)).2):=by
 unfold Ms.go
 (repeat rewrite[if_neg (by omega)]);rw[if_pos h]<;>rfl
theorem go10 {G:List Int}(h:i.op=10):M.go t G f i=(M.got f i.a (lenP M.tb.B M.tb.L (lkv f.vars i.b))):=by
 unfold Ms.go
 (repeat rewrite[if_neg (by omega)]);rw[if_pos h]<;>rfl
theorem go11 {G:List Int}(h:i.op=11):M.go t G f i=(M.lies G f i.a i.n (match gt t.classes i.n with|some L=>(L.refs.length:Int)|none=>0)):=by
 unfold Ms.go
 (repeat rewrite[if_neg (by omega)]);rw[if_pos h]<;>rfl
theorem go12 {G:List Int}(h:i.op=12):M.go t G f i=((if lkv f.vars i.b<0\/50<lkv f.vars i.b then M.trap 4 else M.lies G f i.a i.n (lkv f.vars i.b))):=by
 unfold Ms.go
 (repeat rewrite[if_neg (by omega)]);rw[if_pos h]<;>rfl
theorem go13 {G:List Int}(h:i.op=13):M.go t G f i=(M.call t G f i):=by
 unfold Ms.go
 (repeat rewrite[if_neg (by omega)]);rw[if_pos h]<;>rfl
theorem go14 {G:List Int}(h:i.op=14):M.go t G f i=((match M.inp with|[]=>M.trap 5|y::l=>{M.var f i.a y with inp:=l })):=by
 unfold Ms.go
 (repeat rewrite[if_neg (by omega)]);rw[if_pos h]<;>rfl
theorem go15 {G:List Int}(h:i.op=15):M.go t G f i=({ M with out:=M.out++[lkv f.vars i.a] }):=by
 unfold Ms.go
 (repeat rewrite[if_neg (by omega)]);rw[if_pos h]<;>rfl
theorem go16 {G:List Int}(h:i.op=16):M.go t G f i=(M.top {f with pc:=i.n }):=by
 unfold Ms.go
 (repeat rewrite[if_neg (by omega)]);rw[if_pos h]<;>rfl
theorem go17 {G:List Int}(h:i.op=17):M.go t G f i=(M.top {f with pc:=if lkv f.vars i.a≠0 then i.n else i.c }):=by
 unfold Ms.go
 (repeat rewrite[if_neg (by omega)]);rw[if_pos h]<;>rfl
theorem go18 {G:List Int}(h:i.op=18):M.go t G f i=(M.ret f i):=by
 unfold Ms.go
 (repeat rewrite[if_neg (by omega)]);rw[if_pos h]<;>rfl
theorem go19 {G:List Int}(h:i.op=19):M.go t G f i=(M.var f i.a (lkv M.gl i.n)):=by
 unfold Ms.go
 (repeat rewrite[if_neg (by omega)]);rw[if_pos h]<;>rfl
theorem go20 {G:List Int}(h:i.op=20):M.go t G f i=({ M with gl:=setv M.gl i.n (lkv f.vars i.a) }):=by
 unfold Ms.go
 (repeat rewrite[if_neg (by omega)]);rw[if_pos h]<;>rfl
theorem go21 {G:List Int}(h:i.op=21):M.go t G f i=(M.regs f (crT i.args M.tb f.regs)):=by
 unfold Ms.go
 (repeat rewrite[if_neg (by omega)]);rw[if_pos h]<;>rfl
theorem go22 {G:List Int}(h:i.op=22):M.go t G f i=(M.regs f (rmT i.args M.tb f.regs)):=by
 unfold Ms.go;rw[if_neg (by omega),if_neg (by omega),if_neg (by omega),if_neg (by omega),if_neg (by omega),if_neg (by omega),if_neg (by omega),if_neg (by omega),if_neg (by omega),if_neg (by omega),if_neg (by omega),if_neg (by omega),if_neg (by omega),if_neg (by omega),if_neg (by omega),if_neg (by omega),if_neg (by omega),if_neg (by omega),if_neg (by omega),if_neg (by omega),if_neg (by omega)]<;>rfl
theorem Ms.trap_fs (M:Ms)(c:Int):(M.trap c).fs=M.fs/\(M.trap c).gl=M.gl/\(M.trap c).inp=M.inp/\(M.trap c).out=M.out/\(M.trap c).tb=M.tb/\(M.trap c).steps=M.steps/\(M.trap c).slack=M.slack:=by
 unfold Ms.trap;split
 ·exact⟨rfl,rfl,rfl,rfl,rfl,rfl,rfl⟩
 ·split<;>exact⟨rfl,rfl,rfl,rfl,rfl,rfl,rfl⟩
structure Like (f f':Fr):Prop where
 u:f'.u=f.u
 into:f'.into=f.into
 pc:f'.pc=f.pc
 vars:f'.vars.length=f.vars.length
theorem Like.refl (f:Fr):Like f f:=⟨rfl,rfl,rfl,rfl⟩
theorem like_var (f:Fr)(n y:Int):Like f {f with vars:=setv f.vars n y}:=⟨rfl,rfl,rfl,setv_len _ _ _⟩
structure Stays (M M':Ms)(f:Fr)(r:List Fr):Prop where
 fs:∃f',M'.fs=f'::r/\Like f f'
 gl:M'.gl.length=M.gl.length
theorem Stays.trap {M:Ms}{f:Fr}{r:List Fr}(h:M.fs=f::r)(c:Int):Stays M (M.trap c) f r:=⟨⟨f,(M.trap_fs c).1.trans h,Like.refl f⟩,by rw[(M.trap_fs c).2.1]⟩
theorem Stays.ends {M:Ms}{f:Fr}{r:List Fr}(h:M.fs=f::r)(e c:Int):Stays M (M.ends e c) f r:=⟨⟨f,h,Like.refl f⟩,rfl⟩
theorem Stays.var {M:Ms}{f:Fr}{r:List Fr}(h:M.fs=f::r)(n y:Int):Stays M (M.var f n y) f r:=⟨⟨_,by show _::M.fs.tail=_;rw[h];rfl,like_var f n y⟩,rfl⟩
theorem Stays.got {M:Ms}{f:Fr}{r:List Fr}(h:M.fs=f::r)(n:Int)(q:Int×Int):Stays M (M.got f n q) f r:=by
 unfold Ms.got;split
 ·exact .var h n _
 ·exact .trap h _
theorem Stays.lies {M:Ms}{G:List Int}{f:Fr}{r:List Fr}(h:M.fs=f::r)(a c n:Int):Stays M (M.lies G f a c n) f r:=by
 unfold Ms.lies;split
 ·exact⟨(Stays.var h a _).fs,rfl⟩
 ·exact .ends h _ _
theorem Stays.regs {M:Ms}{f:Fr}{r:List Fr}(h:M.fs=f::r)(q:Tb×(Int->Int)×Bool):Stays M (M.regs f q) f r:=by
 unfold Ms.regs;split
 ·exact⟨⟨{ f with regs:=q.2.1 },by show _::M.fs.tail=_;rw[h];rfl,rfl,rfl,rfl,rfl⟩,rfl⟩
 ·exact⟨⟨{ f with regs:=q.2.1 },by show _::M.fs.tail=_;rw[h];rfl,rfl,rfl,rfl,rfl⟩,rfl⟩
theorem go_stays {G:List Int}(h:M.fs=f::r)(h1:1<=i.op)(h2:i.op<=22)(hj:i.op≠16)(hb:i.op≠17)(hc:i.op≠13)(hr:i.op≠18):Stays M (M.go t G f i) f r:=by
 obtain h|h|h|h|h|h|h|h|h|h|h|h|h|h|h|h|h|h:i.op=1\/i.op=2\/i.op=3\/i.op=4\/i.op=5\/i.op=6\/i.op=7\/i.op=8\/i.op=9\/i.op=10\/i.op=11\/i.op=12\/i.op=14\/i.op=15\/i.op=19\/i.op=20\/i.op=21\/i.op=22:=by omega
 ·rw[go1 h];exact .var ‹_› _ _
 ·rw[go2 h];exact .var ‹_› _ _
 ·rw[go3 h];exact .var ‹_› _ _
 ·rw[go4 h];exact .got ‹_› _ _
 ·rw[go5 h];exact .var ‹_› _ _
 ·rw[go6 h];exact .got ‹_› _ _
 ·rw[go7 h]
  have:=Stays.trap (M:={M with tb:=M.tb.put (lkv f.vars i.a) i.c (lkv f.vars i.b) }) ‹_› (loadP M.tb.B M.tb.L (lkv f.vars i.a) i.c).2;exact⟨this.fs,this.gl⟩
 ·rw[go8 h];exact .got ‹_› _ _
 ·rw[go9 h]
  have:=Stays.trap (M:={M with tb:=M.tb.put (lkv f.vars i.a) (lkv f.vars i.b) (lkv f.vars i.c) }) ‹_› (loadP M.tb.B M.tb.L (lkv f.vars i.a) (lkv f.vars i.b)).2;exact⟨this.fs,this.gl⟩
 ·rw[go10 h];exact .got ‹_› _ _
 ·rw[go11 h];exact .lies ‹_› _ _ _
 ·rw[go12 h];split
  ·exact .trap ‹_› _
  ·exact .lies ‹_› _ _ _
 ·rw[go14 h];split
  ·exact .trap ‹_› _
  ·exact⟨(Stays.var ‹_› i.a _).fs,rfl⟩
 ·rw[go15 h];exact⟨⟨f,‹_›,Like.refl f⟩,rfl⟩
 ·rw[go19 h];exact .var ‹_› _ _
 ·rw[go20 h];exact⟨⟨f,‹_›,Like.refl f⟩,setv_len _ _ _⟩
 ·rw[go21 h];exact .regs ‹_› _
 ·rw[go22 h];exact .regs ‹_› _
theorem FrOk.like {f':Fr}{u:Unt}(h:Like f f')(hu:gt t.units f.u=some u)(hv:f.vars.length=u.vars.length)(hp:RtM.Place u f.pc):FrOk t f' u:=⟨by rw[h.u];exact hu,h.vars.trans hv,by rw[h.pc];exact hp⟩
theorem Goal.of {h:Fr}(hM:MsOk t M)(hfs:M.fs=f::h::r):f.into=-1\/Vok h f.into:=hM.into 0 f h (by rw[hfs];rfl) (by rw[hfs];rfl)
theorem next_place (hR:RightP t){u:Unt}(hu:u∈t.units){k:Nat}(hi:u.ins[k]?=some i)(h1:i.op≠16)(h2:i.op≠17)(h3:i.op≠18):RtM.Place u ((k:Int)+1):=by
 have hk:=(List.getElem?_eq_some_iff.1 hi).1;have hl:=(right_unit hR hu).1.2.2.2.2.2.2;refine⟨by omega,?_⟩;by_cases hlast:k=u.ins.length-1
 ·subst hlast;unfold lastOp at hl;rw[hi] at hl;dsimp only at hl
  exact absurd hl (by intro h;rcases h with h|h|h<;>omega)
 ·omega
theorem MsOk.mk2 {M':Ms}{f':Fr}(hM:MsOk t M)(hfs:M.fs=f::r)(hfs':M'.fs=f'::r)(hin:f'.into=f.into)(hf:∃u,FrOk t f' u)(hg:M'.gl.length=M.gl.length):MsOk t M':=by
 refine⟨fun g hg'=>?_,fun k g h h1 h2=>?_,?_,hg.trans hM.gl,fun _=>by rw[hfs'];simp⟩
 ·rw[hfs'] at hg'
  rcases List.mem_cons.1 hg' with rfl|hg'
  ·exact hf
  ·exact hM.fr g (by rw[hfs];exact List.mem_cons_of_mem _ hg')
 ·rw[hfs'] at h1 h2
  cases k with
  |zero=>
   simp only[List.getElem?_cons_zero,Option.some.injEq] at h1;subst h1;rw[hin];exact hM.into 0 f h (by rw[hfs];rfl) (by rw[hfs];simpa using h2)
  |succ k=>exact hM.into (k+1) g h (by rw[hfs];simpa using h1) (by rw[hfs];simpa using h2)
 ·have:=hM.deep;rw[hfs] at this;rw[hfs'];simpa using this
structure Next (t:RTg)(M:Ms)(f:Fr)(r:List Fr)(u:Unt)(i:Ins):Prop where
 fs:M.fs=f::r
 unit:gt t.units f.u=some u
 ins:gt u.ins f.pc=some i
theorem MsOk.nextOf (hM:MsOk t M)(he:M.en=0):∃f r u i,Next t M f r u i/\M.next t=some (f,i):=by
 cases hfs:M.fs with
 |nil=>exact absurd hfs (hM.en he)
 |cons f r=>
  obtain⟨u,h1,h2,h3⟩:=hM.fr f (by rw[hfs];simp);obtain⟨i,h4,_⟩:=gt_in h3;exact⟨f,r,u,i,⟨hfs,h1,h4⟩,by unfold Ms.next;rw[hfs];simp only;rw[h1];simp only;rw[h4]⟩
def Ms.pre (M:Ms)(f:Fr):Ms:={M with steps:=M.steps+1,fs:={f with pc:=f.pc+1}::M.fs.tail}
theorem step_next {G:List Int}(h:M.next t=some (f,i)):M.step t G=((M.pre f).go t G {f with pc:=f.pc+1} i).less t:=by unfold Ms.step;rw[h];rfl
theorem less_fs (M:Ms)(t:RTg):(M.less t).fs=M.fs/\(M.less t).gl=M.gl/\(M.less t).en=M.en/\(M.less t).tb=M.tb/\(M.less t).out=M.out/\(M.less t).steps=M.steps/\(M.less t).inp=M.inp/\(M.less t).code=M.code:=by
 unfold Ms.less;split<;>exact⟨rfl,rfl,rfl,rfl,rfl,rfl,rfl,rfl⟩
theorem argsV_len (f:Fr)(i:Ins)(n:Nat)(h:i.args.length<=n):(argsV f i n).length=n:=by unfold argsV;rw[List.length_append,List.length_map,List.length_drop,List.length_replicate];omega
theorem MsOk.less {t:RTg}{M:Ms}(h:MsOk t M):MsOk t (M.less t):=by
 obtain⟨h1,h2,h3,_⟩:=less_fs M t;exact⟨by rw[h1];exact h.fr,by rw[h1];exact h.into,by rw[h1];exact h.deep,by rw[h2];exact h.gl,by rw[h3,h1];exact h.en⟩
theorem MsOk.go {t:RTg}{G:List Int}(hR:RightP t){M:Ms}(hM:MsOk t M){f:Fr}{r:List Fr}{u:Unt}{i:Ins}(hn:Next t M f r u i):MsOk t ((M.pre f).go t G {f with pc:=f.pc+1} i):=by
 obtain⟨hfs,hu,hi⟩:=hn;obtain⟨u',h1,h2,h3⟩:=hM.fr f (by rw[hfs];simp);obtain rfl:u'=u:=by rw[hu] at h1;exact (Option.some.inj h1).symm
 have hvl:=h2;have hum:u'∈t.units:=gt_mem hu;have hv:=right_ins hR hum (gt_mem hi);obtain⟨pn,hpc,hpl,hpi⟩:=gt_some hi
 have hpre:(M.pre f).fs={f with pc:=f.pc+1}::r:=by show _::M.fs.tail=_;rw[hfs];rfl
 have hnx:i.op≠16->i.op≠17->i.op≠18->RtM.Place u' (f.pc+1):=fun a b c=>by rw[hpc];exact next_place hR hum hpi a b c
 have hgl:(M.pre f).gl.length=M.gl.length:=rfl;by_cases h16:i.op=16
 ·rw[go16 h16]
  exact hM.mk2 (M':=(M.pre f).top _) (f':={f with pc:=i.n }) hfs (by show _::(M.pre f).fs.tail=_;rw[hpre];rfl) rfl ⟨u',hu,h2,hv.go (.inl h16)⟩ rfl
 by_cases h17:i.op=17
 ·rw[go17 h17]
  refine hM.mk2 (M':=(M.pre f).top _) (f':={f with pc:=if lkv f.vars i.a≠0 then i.n else i.c }) hfs (by show _::(M.pre f).fs.tail=_;rw[hpre];rfl) rfl ⟨u',hu,h2,?_⟩ rfl
  show RtM.Place u' (if _ then _ else _);split
  ·exact hv.go (.inr h17)
  ·exact hv.els h17
 by_cases h18:i.op=18
 ·rw[go18 h18];unfold Ms.ret;rw[hpre]
  cases r with
  |nil=>
   show MsOk t (({ (M.pre f) with fs:=[]}:Ms).ends 1 0);refine⟨fun g hg=>?_,fun k g h h1=>?_,Nat.zero_le _,hM.gl,fun h=>?_⟩
   ·have hg:g∈([]:List Fr):=hg;cases hg
   ·have h1:([]:List Fr)[k]?=some g:=h1;simp at h1
   ·have h:(1:Int)=0:=h;omega
  |cons h r=>
   have hh:=hM.fr h (by rw[hfs];simp);have hdeep:=hM.deep;rw[hfs] at hdeep
   have key:∀h',Like h h'->MsOk t {(M.pre f) with fs:=h'::r}:=fun h' hl=>by
    refine⟨fun g hg=>?_,fun k g q h1 h2=>?_,?_,hM.gl,fun _=>by simp⟩
    ·rcases List.mem_cons.1 hg with rfl|hg
     ·obtain⟨uh,a,b,c⟩:=hh;exact⟨uh,FrOk.like hl a b c⟩
     ·exact hM.fr g (by rw[hfs];simp[hg])
    ·cases k with
     |zero=>
      simp only[List.getElem?_cons_zero,Option.some.injEq] at h1;subst h1;rw[hl.into];exact hM.into 1 h q (by rw[hfs];rfl) (by rw[hfs];simpa using h2)
     |succ k=>exact hM.into (k+2) g q (by rw[hfs];simpa using h1) (by rw[hfs];simpa using h2)
    ·simp at hdeep ⊢;omega
   show MsOk t {(M.pre f) with fs:=_::r };refine key _ ?_;split
   ·exact like_var h _ _
   ·exact Like.refl h
 by_cases h13:i.op=13
 ·rw[go13 h13];unfold Ms.call;have hst:MsOk t (M.pre f):=hM.mk2 hfs hpre rfl ⟨u',hu,h2,hnx h16 h17 h18⟩ rfl;split
  ·have:=Stays.trap hpre 6;obtain⟨f',e1,e2⟩:=this.fs;exact hst.mk2 hpre e1 e2.into ⟨u',FrOk.like e2 hu h2 (hnx h16 h17 h18)⟩ this.gl
  ·rename_i hdp;obtain⟨g,hg,_,hal,_,hia,_⟩:=call_v (hv.call h13);rw[hg];dsimp only;split
   ·exact⟨hst.fr,hst.into,hst.deep,hst.gl,fun h=>by cases h⟩
   ·refine⟨fun q hq=>?_,fun k q h h1 h2=>?_,?_,hM.gl,fun _=>by simp⟩
    ·rcases List.mem_cons.1 hq with rfl|hq
     ·have hgm:=(right_unit hR (gt_mem hg)).1.2.2.2.1;refine⟨g,hg,argsV_len _ _ _ hal,?_⟩;have:g.ins.length≠0:=fun h=>hgm (List.length_eq_zero_iff.1 h);exact⟨by show (0:Int)<=0;omega,by show (0:Int)<_;omega⟩
     ·exact hst.fr q hq
    ·cases k with
     |zero=>
      simp only[List.getElem?_cons_zero,Option.some.injEq] at h1;subst h1;rw[hpre] at h2;simp only[List.getElem?_cons_succ,List.getElem?_cons_zero,Option.some.injEq] at h2;subst h2
      rcases hia with h|h
      ·exact .inl h
      ·exact .inr (vok (u:=u') (f:={f with pc:=f.pc+1 }) hvl h)
     |succ k=>exact hst.into k q h (by simpa using h1) (by simpa using h2)
    ·show (M.pre f).fs.length+1<=40;omega
 ·have:=go_stays (t:=t) (G:=G) hpre hv.op.1 hv.op.2 h16 h17 h13 h18;obtain⟨f',e1,e2⟩:=this.fs;exact hM.mk2 hfs e1 e2.into ⟨u',FrOk.like e2 hu h2 (hnx h16 h17 h18)⟩ this.gl
theorem MsOk.step {t:RTg}{G:List Int}(hR:RightP t){M:Ms}(hM:MsOk t M)(he:M.en=0):MsOk t (M.step t G):=by
 obtain⟨f,r,u,i,hn,h⟩:=hM.nextOf he;rw[step_next h];exact (hM.go hR hn).less
structure Grow (M M':Ms)(n:Nat):Prop where
 B:M'.tb.B.length<=M.tb.B.length+n
 L:M'.tb.L.length<=M.tb.L.length+1
 O:M'.out.length<=M.out.length+1
 st:M'.steps=M.steps
theorem Grow.of {M M':Ms}{n:Nat}(h1:M'.tb=M.tb)(h2:M'.out=M.out)(h3:M'.steps=M.steps):Grow M M' n:=⟨by rw[h1];omega,by rw[h1];omega,by rw[h2];omega,h3⟩
theorem crT_len:∀(l:List Int) (T:Tb) (m:Int->Int),(crT l T m).1.B.length<=T.B.length+l.length/\(crT l T m).1.L=T.L
 |[],T,m=>⟨Nat.le_refl _,rfl⟩
 |c::l,T,m=>by
  unfold crT;split
  ·exact⟨by dsimp only;omega,rfl⟩
  ·have h:=crT_len l T.make (updI m c ((T.B.length+1:Nat):Int));have e:T.make.B.length=T.B.length+1:=by show (T.B++[true]).length=_;rw[List.length_append];rfl
   rw[e] at h;rw[List.length_cons];exact⟨by omega,h.2⟩
theorem rem_len0 (T:Tb)(r:Int):(T.rem r).B.length=T.B.length/\(T.rem r).L=T.L:=by
 unfold Tb.rem;split
 ·exact⟨List.length_set,rfl⟩
 ·exact⟨rfl,rfl⟩
theorem rmT_len:∀(l:List Int) (T:Tb) (m:Int->Int),(rmT l T m).1.B.length=T.B.length/\(rmT l T m).1.L=T.L
 |[],T,m=>⟨rfl,rfl⟩
 |c::l,T,m=>by
  unfold rmT;split
  ·exact⟨rfl,rfl⟩
  ·have h:=rmT_len l (T.rem (m c)) (updI m c 0);have e:=rem_len0 T (m c);exact⟨h.1.trans e.1,h.2.trans e.2⟩
theorem Grow.trap (M:Ms)(c:Int)(n:Nat):Grow M (M.trap c) n:=by
 obtain⟨_,_,_,h4,h5,h6,_⟩:=M.trap_fs c;exact⟨by rw[h5];omega,by rw[h5];omega,by rw[h4];omega,h6⟩
theorem Grow.got (M:Ms)(f:Fr)(a:Int)(q:Int×Int)(n:Nat):Grow M (M.got f a q) n:=by
 unfold Ms.got;split
 ·exact .of rfl rfl rfl
 ·exact .trap M _ n
theorem tput_len (T:Tb)(ref i v:Int):(T.put ref i v).B=T.B/\(T.put ref i v).L.length=T.L.length:=by
 refine⟨rfl,?_⟩;have:=congrArg List.length (putP_fst T.B T.L ref i v);simp only[List.length_map] at this;exact this
theorem add_len (T:Tb)(r n:Int):(T.add r n).B=T.B/\(T.add r n).L.length<=T.L.length+1:=by
 unfold Tb.add;split
 ·exact⟨rfl,by dsimp only;rw[List.length_append];exact Nat.le_refl _⟩
 ·exact⟨rfl,by omega⟩
theorem Grow.lies (M:Ms)(G:List Int)(f:Fr)(a c m:Int)(n:Nat):Grow M (M.lies G f a c m) n:=by
 unfold Ms.lies;split
 ·obtain⟨h1,h2⟩:=add_len M.tb (reg G f c) m;exact⟨by show (M.tb.add _ _).B.length<=_;rw[h1];omega,h2,Nat.le_succ _,rfl⟩
 ·exact⟨by show M.tb.B.length<=_;omega,Nat.le_succ _,Nat.le_succ _,rfl⟩
theorem Grow.putTb (M:Ms)(ref i v c:Int)(n:Nat):Grow M (({ M with tb:=M.tb.put ref i v}:Ms).trap c) n:=by
 have h:=Grow.trap ({ M with tb:=M.tb.put ref i v}:Ms) c n;obtain⟨h1,h2⟩:=tput_len M.tb ref i v;refine⟨?_,?_,h.O,h.st⟩
 ·have:=h.B;dsimp only at this;rwa[h1] at this
 ·have:=h.L;dsimp only at this;rwa[h2] at this
theorem Grow.regs (M:Ms)(f:Fr)(q:Tb×(Int->Int)×Bool)(n:Nat)(h1:q.1.B.length<=M.tb.B.length+n)(h2:q.1.L=M.tb.L):Grow M (M.regs f q) n:=by
 unfold Ms.regs;split
 ·exact⟨h1,by show q.1.L.length<=_;rw[h2];omega,Nat.le_succ _,rfl⟩
 ·exact⟨h1,by show q.1.L.length<=_;rw[h2];omega,Nat.le_succ _,rfl⟩
theorem go_grow (M:Ms)(t:RTg)(G:List Int)(f:Fr)(i:Ins)(h1:1<=i.op)(h2:i.op<=22):Grow M (M.go t G f i) i.args.length:=by
 obtain h|h|h|h|h|h|h|h|h|h|h|h|h|h|h|h|h|h|h|h|h|h:i.op=1\/i.op=2\/i.op=3\/i.op=4\/i.op=5\/i.op=6\/i.op=7\/i.op=8\/i.op=9\/i.op=10\/i.op=11\/i.op=12\/i.op=13\/i.op=14\/i.op=15\/i.op=16\/i.op=17\/i.op=18\/i.op=19\/i.op=20\/i.op=21\/i.op=22:=by omega
 ·rw[go1 h];exact .of rfl rfl rfl
 ·rw[go2 h];exact .of rfl rfl rfl
 ·rw[go3 h];exact .of rfl rfl rfl
 ·rw[go4 h];exact .got ..
 ·rw[go5 h];exact .of rfl rfl rfl
 ·rw[go6 h];exact .got ..
 ·rw[go7 h];exact .putTb ..
 ·rw[go8 h];exact .got ..
 ·rw[go9 h];exact .putTb ..
 ·rw[go10 h];exact .got ..
 ·rw[go11 h];exact .lies ..
 ·rw[go12 h];split
  ·exact .trap ..
  ·exact .lies ..
 ·rw[go13 h];unfold Ms.call;split
  ·exact .trap ..
  ·split
   ·exact .of rfl rfl rfl
   ·split
    ·exact .of rfl rfl rfl
    ·exact .of rfl rfl rfl
 ·rw[go14 h];split
  ·exact .trap ..
  ·exact .of rfl rfl rfl
 ·rw[go15 h];exact⟨by show M.tb.B.length<=_;omega,Nat.le_succ _,by show (M.out++_).length<=_;rw[List.length_append];exact Nat.le_refl _,rfl⟩
 ·rw[go16 h];exact .of rfl rfl rfl
 ·rw[go17 h];exact .of rfl rfl rfl
 ·rw[go18 h];unfold Ms.ret;split
  ·exact .of rfl rfl rfl
  ·exact .of rfl rfl rfl
 ·rw[go19 h];exact .of rfl rfl rfl
 ·rw[go20 h];exact .of rfl rfl rfl
 ·rw[go21 h];have:=crT_len i.args M.tb f.regs;exact .regs M f _ _ this.1 this.2
 ·rw[go22 h];have:=rmT_len i.args M.tb f.regs;exact .regs M f _ _ (by omega) this.2
structure Tame30 (t:RTg):Prop where
 owns:∀u∈t.units,u.owns.length<=4000
 args:∀u∈t.units,∀i∈u.ins,i.args.length<=4000
structure Bnd (M:Ms):Prop where
 st:0<=M.steps
 B:(M.tb.B.length:Int)<=1+4000*M.steps
 L:(M.tb.L.length:Int)<=M.steps
 O:(M.out.length:Int)<=M.steps
theorem Bnd.go {t:RTg}{G:List Int}(hR:RightP t)(hT:Tame30 t){M:Ms}(hB:Bnd M){f:Fr}{r:List Fr}{u:Unt}{i:Ins}(hn:Next t M f r u i):Bnd ((M.pre f).go t G {f with pc:=f.pc+1} i):=by
 have hum:u∈t.units:=gt_mem hn.unit;have him:i∈u.ins:=gt_mem hn.ins;have hv:=right_ins hR hum him
 have hg:=go_grow (M.pre f) t G {f with pc:=f.pc+1} i hv.op.1 hv.op.2;have ha:=hT.args u hum i him;obtain⟨a,b,c,d⟩:=hB;obtain⟨a',b',c',d'⟩:=hg;have e1:(M.pre f).steps=M.steps+1:=rfl;have e2:(M.pre f).tb=M.tb:=rfl;have e3:(M.pre f).out=M.out:=rfl;rw[e2] at a' b';rw[e3] at c';rw[e1] at d';exact⟨by omega,by omega,by omega,by omega⟩
theorem Bnd.less {M:Ms}(t:RTg)(h:Bnd M):Bnd (M.less t):=by
 obtain⟨_,_,_,h4,h5,h6,_⟩:=less_fs M t;exact⟨by rw[h6];exact h.st,by rw[h4,h6];exact h.B,by rw[h4,h6];exact h.L,by rw[h5,h6];exact h.O⟩
theorem runM_ended {t:RTg}{G:List Int}{M:Ms}(h:M.en≠0):∀n,runM t G n M=M
 |0=>if_neg h
 |n+1=>if_neg h
theorem begin_ok {t:RTg}{inp:List Int}(hR:RightP t):MsOk t (begin_ t inp)/\Bnd (begin_ t inp):=by
 have hm:=hR.2.1;unfold MainOk at hm
 cases hg:gt t.units t.main with
 |none=>rw[hg] at hm;exact hm.elim
 |some u=>
  have hi:=(right_unit hR (gt_mem hg)).1.2.2.2.1;refine⟨⟨fun f hf=>?_,fun k f h h1 h2=>?_,by show 1<=40;omega,List.length_replicate,fun _=>by show [_]≠[];simp⟩,⟨by show (0:Int)<=0;omega,by show ((1:Nat):Int)<=1+80*0;omega,by show ((0:Nat):Int)<=0;omega,by show ((0:Nat):Int)<=0;omega⟩⟩
  ·have hf:f∈[_]:=hf;obtain rfl:=List.mem_singleton.1 hf;have:u.ins.length≠0:=fun h=>hi (List.length_eq_zero_iff.1 h);exact⟨u,hg,by dsimp only;rw[hg];exact List.length_replicate,by show (0:Int)<=0;omega,by show (0:Int)<_;omega⟩
  ·have h2:([_]:List Fr)[k+1]?=some h:=h2;simp at h2
inductive TR (T:Tb):Tb->Prop where
 |refl:TR T T
 |make {T':Tb}:TR T T'->TR T T'.make
 |rem {T':Tb} (r:Int):r≠1->TR T T'->TR T (T'.rem r)
 |add {T':Tb} (r n:Int):TR T T'->TR T (T'.add r n)
 |put {T':Tb} (a b c:Int):TR T T'->TR T (T'.put a b c)
theorem TR.trans {T T1 T2:Tb}(h1:TR T T1)(h2:TR T1 T2):TR T T2:=by
 induction h2 with
 |refl=>exact h1
 |make _ ih=>exact ih.make
 |rem r hr _ ih=>exact ih.rem r hr
 |add r n _ ih=>exact ih.add r n
 |put a b c _ ih=>exact ih.put a b c
def goneN (B:List Bool):Nat:=B.length-liveN B
theorem liveN_le (B:List Bool):liveN B<=B.length:=List.countP_le_length
structure TMono (T T':Tb):Prop where
 len:T.B.length<=T'.B.length
 gone:goneN T.B<=goneN T'.B
 peak:T.peak<=T'.peak
 most:T.most<=T'.most
theorem TMono.refl (T:Tb):TMono T T:=⟨Nat.le_refl _,Nat.le_refl _,Int.le_refl _,Int.le_refl _⟩
theorem TMono.trans {a b c:Tb}(h1:TMono a b)(h2:TMono b c):TMono a c:=⟨Nat.le_trans h1.len h2.len,Nat.le_trans h1.gone h2.gone,Int.le_trans h1.peak h2.peak,Int.le_trans h1.most h2.most⟩
theorem hasB_at {B:List Bool}{r:Int}(h:hasB B r=true):∃k:Nat,r=(k:Int)+1/\B[k]?=some true:=by
 unfold hasB at h;simp only[Bool.and_eq_true,decide_eq_true_eq] at h;obtain⟨h1,h2⟩:=h;refine⟨(r-1).toNat,by omega,?_⟩
 cases hx:B[(r-1).toNat]? with
 |none=>rw[hx] at h2;simp at h2
 |some b=>rw[hx] at h2;simp at h2;rw[h2]
theorem rem_mono (T:Tb)(r:Int):TMono T (T.rem r):=by
 unfold Tb.rem;split
 ·rename_i h;obtain⟨k,rfl,hk⟩:=hasB_at h;have h1:=liveN_set hk;rw[show ((k:Int)+1-1).toNat=k by omega];refine⟨by rw[List.length_set];exact Nat.le_refl _,?_,Int.le_refl _,Int.le_refl _⟩;unfold goneN;dsimp only;rw[List.length_set];omega
 ·exact .refl T
theorem make_mono (T:Tb):TMono T T.make:=by
 refine⟨?_,?_,?_,Int.le_refl _⟩
 ·show _<=(T.B++[true]).length;rw[List.length_append];omega
 ·show goneN T.B<=goneN (T.B++[true]);unfold goneN;rw[liveN_app,List.length_append];show _<=T.B.length+1-(liveN T.B+1);omega
 ·show T.peak<=max _ _;omega
theorem add_mono (T:Tb)(r n:Int):TMono T (T.add r n):=by
 unfold Tb.add;split
 ·exact⟨Nat.le_refl _,Nat.le_refl _,Int.le_refl _,by show T.most<=max _ _;omega⟩
 ·exact .refl T
theorem put_mono (T:Tb)(a b c:Int):TMono T (T.put a b c):=⟨Nat.le_refl _,Nat.le_refl _,Int.le_refl _,Int.le_refl _⟩
theorem TR.mono {T T':Tb}(h:TR T T'):TMono T T':=by
 induction h with
 |refl=>exact .refl _
 |make _ ih=>exact ih.trans (make_mono _)
 |rem r _ _ ih=>exact ih.trans (rem_mono _ r)
 |add r n _ ih=>exact ih.trans (add_mono _ r n)
 |put a b c _ ih=>exact ih.trans (put_mono _ a b c)
structure TOk (T:Tb):Prop where
 one:T.B[0]?=some true
 lo:1<=T.peak
 live:(liveN T.B:Int)<=T.peak
 hi:T.peak<=(T.B.length:Int)
 most:T.most<=(T.L.length:Int)
theorem TR.ok {T T':Tb}(h:TR T T')(h0:TOk T):TOk T':=by
 induction h with
 |refl=>exact h0
 |make _ ih=>
  rename_i T' _;obtain⟨a,b,c,d,e⟩:=ih;have hl:=liveN_le T'.B;have hp:T'.make.peak=max T'.peak (liveN (T'.B++[true]):Int):=rfl;have hB:T'.make.B=T'.B++[true]:=rfl;rw[liveN_app] at hp;refine⟨?_,by omega,?_,?_,e⟩
  ·rw[hB,List.getElem?_append_left (by have:=(List.getElem?_eq_some_iff.1 a).1;omega)];exact a
  ·rw[hB,liveN_app];omega
  ·rw[hB,List.length_append];simp only[List.length_singleton];omega
 |rem r hr _ ih=>
  rename_i T' _;obtain⟨a,b,c,d,e⟩:=ih;unfold Tb.rem;split
  ·rename_i h;obtain⟨k,rfl,hk⟩:=hasB_at h;have h1:=liveN_set hk;rw[show ((k:Int)+1-1).toNat=k by omega];refine⟨?_,b,by dsimp only;omega,by dsimp only;rw[List.length_set];exact d,e⟩;dsimp only;rw[List.getElem?_set_ne (by omega)];exact a
  ·exact⟨a,b,c,d,e⟩
 |add r n _ ih=>
  rename_i T' _;obtain⟨a,b,c,d,e⟩:=ih;unfold Tb.add;split
  ·refine⟨a,b,c,d,?_⟩;dsimp only;have:nowN T'.B (T'.L++[(r,List.replicate (cells n) 0)])<=(T'.L++[(r,List.replicate (cells n) 0)]).length:=List.countP_le_length;rw[List.length_append] at this ⊢;simp only[List.length_singleton] at this ⊢;omega
  ·exact⟨a,b,c,d,e⟩
 |put x y z _ ih=>
  rename_i T' _;obtain⟨a,b,c,d,e⟩:=ih;exact⟨a,b,c,d,by rw[(tput_len T' x y z).2];exact e⟩
def EnC (e c:Int):Prop:=(e=0/\c=0)\/(e=1/\c=0)\/(e=2/\1<=c/\c<=6)\/(e=4/\c=0)
def RgOk (m:Int->Int):Prop:=∀c,m c≠1
theorem RgOk.upd {m:Int->Int}(h:RgOk m)(c:Int){r:Int}(hr:r≠1):RgOk (updI m c r):=fun d=>by
 unfold updI;split
 ·exact hr
 ·exact h d
theorem crT_tr {T0:Tb}:∀(l:List Int) (T:Tb) (m:Int->Int),TR T0 T->RgOk m->1<=T.B.length->TR T0 (crT l T m).1/\RgOk (crT l T m).2.1
 |[],T,m,h,hm,_=>⟨h,hm⟩
 |c::l,T,m,h,hm,hB=>by
  unfold crT;split
  ·exact⟨h,hm⟩
  ·exact crT_tr l T.make _ h.make (hm.upd c (by omega)) (by show 1<=(T.B++[true]).length;rw[List.length_append];omega)
theorem rmT_tr {T0:Tb}:∀(l:List Int) (T:Tb) (m:Int->Int),TR T0 T->RgOk m->TR T0 (rmT l T m).1/\RgOk (rmT l T m).2.1
 |[],T,m,h,hm=>⟨h,hm⟩
 |c::l,T,m,h,hm=>by
  unfold rmT;split
  ·exact⟨h,hm⟩
  ·exact rmT_tr l _ _ (h.rem (m c) (hm c)) (hm.upd c (by omega))
theorem takeR_rg {G:List Int}{B:List Bool}{f:Fr}(hf:RgOk f.regs):∀(l:List Int) (m m':Int->Int),(∀c∈l,c∉G)->RgOk m->takeR G B f l m=some m'->RgOk m'
 |[],m,m',_,hm,h=>by cases h;exact hm
 |c::l,m,m',hl,hm,h=>by
  unfold takeR at h;split at h
  ·refine takeR_rg hf l _ m' (fun d hd=>hl d (List.mem_cons_of_mem _ hd)) (hm.upd c ?_) h;rw[show reg G f c=f.regs c from if_neg (hl c List.mem_cons_self)];exact hf c
  ·cases h
structure GoRM (M M':Ms):Prop where
 tb:TR M.tb M'.tb
 out:M.out <+: M'.out
 en:EnC M'.en M'.code
 rg:∀f∈M'.fs,RgOk f.regs
 sl:M'.slack=M.slack
section
variable {M:Ms} {f:Fr} {r:List Fr}
structure GoI (M:Ms)(f:Fr)(r:List Fr):Prop where
 fs:M.fs=f::r
 en:M.en=0
 code:M.code=0
 rg:∀g∈M.fs,RgOk g.regs
 B:1<=M.tb.B.length
theorem GoI.e0 (h:GoI M f r):EnC M.en M.code:=.inl ⟨h.en,h.code⟩
theorem GoI.keep (h:GoI M f r)(f':Fr)(hf:RgOk f'.regs){M':Ms}(h1:M'.fs=f'::M.fs.tail)(h2:TR M.tb M'.tb)(h3:M.out <+: M'.out)(h4:EnC M'.en M'.code)(h5:M'.slack=M.slack):GoRM M M':=by
 refine⟨h2,h3,h4,fun g hg=>?_,h5⟩;rw[h1,h.fs] at hg
 rcases List.mem_cons.1 hg with rfl|hg
 ·exact hf
 ·exact h.rg g (by rw[h.fs];exact List.mem_cons_of_mem _ hg)
theorem GoI.rgf (h:GoI M f r):RgOk f.regs:=h.rg f (by rw[h.fs];simp)
theorem GoI.tl (h:GoI M f r):M.fs=f::M.fs.tail:=by rw[h.fs];rfl
theorem GoI.var (h:GoI M f r)(n y:Int):GoRM M (M.var f n y):=h.keep {f with vars:=setv f.vars n y} h.rgf rfl .refl (List.prefix_refl _) h.e0 rfl
theorem GoI.ends (h:GoI M f r){e c:Int}(hc:EnC e c):GoRM M (M.ends e c):=h.keep f h.rgf h.tl .refl (List.prefix_refl _) hc rfl
theorem GoI.trapT (h:GoI M f r){T:Tb}(hT:TR M.tb T){c:Int}(hc:c=0\/c=-1\/(1<=c/\c<=6)):GoRM M (({ M with tb:=T}:Ms).trap c):=by
 unfold Ms.trap;split
 ·exact h.keep f h.rgf h.tl hT (List.prefix_refl _) h.e0 rfl
 ·split
  ·exact h.keep f h.rgf h.tl hT (List.prefix_refl _) (.inr (.inr (.inr ⟨rfl,rfl⟩))) rfl
  ·exact h.keep f h.rgf h.tl hT (List.prefix_refl _) (.inr (.inr (.inl ⟨rfl,by show 1<=c;omega,by show c<=6;omega⟩))) rfl
theorem GoI.trap (h:GoI M f r){c:Int}(hc:c=0\/c=-1\/(1<=c/\c<=6)):GoRM M (M.trap c):=h.trapT .refl hc
theorem GoI.got (h:GoI M f r)(a:Int){q:Int×Int}(hc:q.2=0\/q.2=-1\/(1<=q.2/\q.2<=6)):GoRM M (M.got f a q):=by
 unfold Ms.got;split
 ·exact h.var a _
 ·exact h.trap hc
theorem GoI.lies (h:GoI M f r)(G:List Int)(a c n:Int):GoRM M (M.lies G f a c n):=by
 unfold Ms.lies;split
 ·exact h.keep {f with vars:=setv f.vars a ((M.tb.L.length+1:Nat):Int)} h.rgf rfl (TR.refl.add _ _) (List.prefix_refl _) h.e0 rfl
 ·exact h.ends (.inr (.inr (.inr ⟨rfl,rfl⟩)))
theorem GoI.regs (h:GoI M f r){q:Tb×(Int->Int)×Bool}(h1:TR M.tb q.1)(h2:RgOk q.2.1):GoRM M (M.regs f q):=by
 unfold Ms.regs;split
 ·exact h.keep {f with regs:=q.2.1} h2 rfl h1 (List.prefix_refl _) h.e0 rfl
 ·exact h.keep {f with regs:=q.2.1} h2 rfl h1 (List.prefix_refl _) (.inr (.inr (.inr ⟨rfl,rfl⟩))) rfl
theorem bin_code (op a b:Int):(bin op a b).2=0\/(bin op a b).2=3:=by
 unfold bin
 repeat' split
 all_goals first|exact .inl rfl|exact .inr rfl
theorem len_code (B:List Bool)(l:List Cell)(ref:Int):(lenP B l ref).2=0\/(lenP B l ref).2=-1\/(1<=(lenP B l ref).2/\(lenP B l ref).2<=6):=by
 unfold lenP
 repeat' split
 all_goals first|exact .inl rfl|exact .inr (.inl rfl)|exact .inr (.inr ⟨by dsimp only;omega,by dsimp only;omega⟩)
theorem load_code (B:List Bool)(l:List Cell)(ref i:Int):(loadP B l ref i).2=0\/(loadP B l ref i).2=-1\/(1<=(loadP B l ref i).2/\(loadP B l ref i).2<=6):=by
 unfold loadP
 repeat' split
 all_goals first|exact .inl rfl|exact .inr (.inl rfl)|exact .inr (.inr ⟨by dsimp only;omega,by dsimp only;omega⟩)
theorem GoI.go (h:GoI M f r){t:RTg}{G:List Int}{i:Ins}(hG:∀g∈t.units,∀c∈g.takes,c∉G)(h1:1<=i.op)(h2:i.op<=22):GoRM M (M.go t G f i):=by
 obtain ho|ho|ho|ho|ho|ho|ho|ho|ho|ho|ho|ho|ho|ho|ho|ho|ho|ho|ho|ho|ho|ho:i.op=1\/i.op=2\/i.op=3\/i.op=4\/i.op=5\/i.op=6\/i.op=7\/i.op=8\/i.op=9\/i.op=10\/i.op=11\/i.op=12\/i.op=13\/i.op=14\/i.op=15\/i.op=16\/i.op=17\/i.op=18\/i.op=19\/i.op=20\/i.op=21\/i.op=22:=by omega
 ·rw[go1 ho];exact h.var _ _
 ·rw[go2 ho];exact h.var _ _
 ·rw[go3 ho];exact h.var _ _
 ·rw[go4 ho];exact h.got _ (by rcases bin_code i.n (lkv f.vars i.b) (lkv f.vars i.c) with e|e<;>omega)
 ·rw[go5 ho];exact h.var _ _
 ·rw[go6 ho];exact h.got _ (load_code _ _ _ _)
 ·rw[go7 ho];exact h.trapT (TR.refl.put _ _ _) (load_code _ _ _ _)
 ·rw[go8 ho];exact h.got _ (load_code _ _ _ _)
 ·rw[go9 ho];exact h.trapT (TR.refl.put _ _ _) (load_code _ _ _ _)
 ·rw[go10 ho];exact h.got _ (len_code _ _ _)
 ·rw[go11 ho];exact h.lies G _ _ _
 ·rw[go12 ho];split
  ·exact h.trap (by omega)
  ·exact h.lies G _ _ _
 ·rw[go13 ho];unfold Ms.call;split
  ·exact h.trap (by omega)
  ·split
   ·exact h.keep f h.rgf h.tl .refl (List.prefix_refl _) h.e0 rfl
   ·rename_i g hg;split
    ·exact h.ends (.inr (.inr (.inr ⟨rfl,rfl⟩)))
    ·rename_i m hm;refine⟨.refl,List.prefix_refl _,h.e0,fun q hq=>?_,rfl⟩
     rcases List.mem_cons.1 hq with rfl|hq
     ·exact takeR_rg h.rgf _ _ _ (hG g (gt_mem hg)) (fun _=>by show (0:Int)≠1;omega) hm
     ·exact h.rg q hq
 ·rw[go14 ho];split
  ·exact h.trap (by omega)
  ·exact h.keep {f with vars:=setv f.vars i.a _} h.rgf rfl .refl (List.prefix_refl _) h.e0 rfl
 ·rw[go15 ho];exact h.keep f h.rgf h.tl .refl (List.prefix_append _ _) h.e0 rfl
 ·rw[go16 ho];exact h.keep {f with pc:=i.n} h.rgf rfl .refl (List.prefix_refl _) h.e0 rfl
 ·rw[go17 ho];exact h.keep {f with pc:=if lkv f.vars i.a≠0 then i.n else i.c} h.rgf rfl .refl (List.prefix_refl _) h.e0 rfl
 ·rw[go18 ho];unfold Ms.ret;rw[h.fs]
  cases r with
  |nil=>exact⟨.refl,List.prefix_refl _,.inr (.inl ⟨rfl,rfl⟩),fun g hg=>(by cases hg),rfl⟩
  |cons hh r=>
   have hhr:RgOk hh.regs:=h.rg hh (by rw[h.fs];simp);refine⟨.refl,List.prefix_refl _,h.e0,fun g hg=>?_,rfl⟩
   rcases List.mem_cons.1 hg with rfl|hg
   ·split
    ·exact hhr
    ·exact hhr
   ·exact h.rg g (by rw[h.fs];simp[hg])
 ·rw[go19 ho];exact h.var _ _
 ·rw[go20 ho];exact h.keep f h.rgf h.tl .refl (List.prefix_refl _) h.e0 rfl
 ·rw[go21 ho];have:=crT_tr i.args M.tb f.regs .refl h.rgf h.B;exact h.regs this.1 this.2
 ·rw[go22 ho];have:=rmT_tr i.args M.tb f.regs .refl h.rgf;exact h.regs this.1 this.2
end
structure Lives (M:Ms):Prop where
 tb:TOk M.tb
 en:EnC M.en M.code
 rg:∀f∈M.fs,RgOk f.regs
structure Fore (M M':Ms):Prop where
 tb:TMono M.tb M'.tb
 out:M.out <+: M'.out
 sl:M'.slack<=M.slack
 st:M.steps<=M'.steps
theorem Fore.refl (M:Ms):Fore M M:=⟨.refl _,List.prefix_refl _,Int.le_refl _,Int.le_refl _⟩
theorem Fore.trans {a b c:Ms}(h1:Fore a b)(h2:Fore b c):Fore a c:=⟨h1.tb.trans h2.tb,h1.out.trans h2.out,Int.le_trans h2.sl h1.sl,Int.le_trans h1.st h2.st⟩
def iter (t:RTg)(G:List Int):Nat->Ms->Ms
 |0,M=>M
 |n+1,M=>if M.en=0 then iter t G n (M.step t G) else M
theorem runM_iter (t:RTg)(G:List Int):∀(n:Nat) (M:Ms),runM t G n M=if (iter t G n M).en=0 then (iter t G n M).ends 3 0 else iter t G n M
 |0,M=>rfl
 |n+1,M=>by
  by_cases h:M.en=0
  ·rw[show runM t G (n+1) M=runM t G n (M.step t G) from if_pos h,show iter t G (n+1) M=iter t G n (M.step t G) from if_pos h];exact runM_iter t G n _
  ·rw[show runM t G (n+1) M=M from if_neg h,show iter t G (n+1) M=M from if_neg h,if_neg h]
theorem remAll_mono (T:Tb):∀n,TMono T (remAll T n)
 |0=>.refl T
 |n+1=>(remAll_mono T n).trans (rem_mono _ _)
theorem clear_mono (M:Ms):TMono M.tb M.clear.tb/\M.clear.out=M.out/\M.clear.slack=M.slack/\M.clear.steps=M.steps/\M.clear.en=M.en/\M.clear.code=M.code:=by
 unfold Ms.clear;split
 ·exact⟨rem_mono _ _,rfl,rfl,rfl,rfl,rfl⟩
 ·split
  ·exact⟨remAll_mono _ _,rfl,rfl,rfl,rfl,rfl⟩
  ·exact⟨.refl _,rfl,rfl,rfl,rfl,rfl⟩
theorem liveN_zero {B:List Bool}(h:∀j:Nat,B[j]?≠some true):liveN B=0:=by
 unfold liveN;rw[List.countP_eq_zero];intro x hx;obtain⟨j,hj,rfl⟩:=List.getElem_of_mem hx;have:=h j;rw[List.getElem?_eq_getElem hj] at this;simpa using this
end Go.Proofs.YtojfbbggnkijeaaGreatDoor
namespace Go.NumM
open Go Go.GX
variable {z:Nat}
theorem wrap_u64 (i:Int):IntKind.u64.wrap i=i%18446744073709551616:=by simp[IntKind.wrap,IntKind.signed,IntKind.bits]
theorem wrap_u8 (i:Int):IntKind.u8.wrap i=i%256:=by simp[IntKind.wrap,IntKind.signed,IntKind.bits]
theorem wrap_u64_nat (h:z<18446744073709551616):IntKind.u64.wrap (z:Int)=(z:Int):=by rw[wrap_u64];omega
def zig (n:Int):Nat:=if 0<=n then (2*n).toNat else (-2*n-1).toNat
def zag (z:Nat):Int:=if z%2=1 then -((z/2:Nat):Int)-1 else ((z/2:Nat):Int)
theorem zag_zig (n:Int):zag (zig n)=n:=by unfold zag zig;split<;>split<;>omega
theorem zig_lt {n:Int}(h:-9223372036854775808<=n/\n<=9223372036854775807):zig n<18446744073709551616:=by unfold zig;split<;>omega
theorem shl1 (n:Int)(h:-9223372036854775808<=n/\n<=9223372036854775807):shlV .u64 (IntKind.u64.wrap n) 1=if 0<=n then 2*n else 2*n+18446744073709551616:=by
 have e:min (1:Int).toNat IntKind.u64.bits=1:=by decide
 unfold shlV;rw[e,wrap_u64,wrap_u64];split<;>omega
theorem cpl_u64 (h:z<18446744073709551616):cplV .u64 (z:Int)=((18446744073709551615-z:Nat):Int):=by
 have e1:BitVec.ofInt 64 18446744073709551615=BitVec.allOnes 64:=by decide
 have e2:BitVec.ofInt 64 (z:Int)=BitVec.ofNat 64 z:=by
  apply BitVec.eq_of_toNat_eq;simp
 have e3:IntKind.u64.max=18446744073709551615:=by decide
 have key:cplV .u64 (z:Int)=IntKind.u64.wrap ((BitVec.ofInt 64 18446744073709551615 ^^^ BitVec.ofInt 64 (z:Int)).toNat:Int):=by
  unfold cplV;simp only[IntKind.signed,e3];rfl
 rw[key,e1,e2,BitVec.xor_comm,BitVec.xor_allOnes,BitVec.toNat_not,BitVec.toNat_ofNat,Nat.mod_eq_of_lt (by omega)];rw[wrap_u64_nat (by omega)]
theorem zig_eq (n:Int)(h:-9223372036854775808<=n/\n<=9223372036854775807):(if n<0 then cplV .u64 (shlV .u64 (IntKind.u64.wrap n) 1) else shlV .u64 (IntKind.u64.wrap n) 1)=(zig n:Int):=by
 rw[shl1 n h];by_cases hn:n<0
 ·rw[if_pos hn,if_neg (by omega)];obtain⟨z,hz⟩:=Int.eq_ofNat_of_zero_le (show 0<=2*n+18446744073709551616 by omega);rw[hz,cpl_u64 (by omega)];unfold zig;rw[if_neg (by omega)];omega
 ·rw[if_neg hn,if_pos (by omega)];unfold zig;rw[if_pos (by omega)];omega
theorem shr7:shrV .u64 (z:Int) 7=((z/128:Nat):Int):=by
 have e:min (7:Int).toNat IntKind.u64.bits=7:=by decide
 unfold shrV;rw[e,Int.fdiv_eq_ediv_of_nonneg _ (by decide)];omega
theorem shr1:shrV .u64 (z:Int) 1=((z/2:Nat):Int):=by
 have e:min (1:Int).toNat IntKind.u64.bits=1:=by decide
 unfold shrV;rw[e,Int.fdiv_eq_ediv_of_nonneg _ (by decide)];omega
theorem low8 (z:Nat):IntKind.u8.wrap (z:Int)=((z%256:Nat):Int):=by rw[wrap_u8];omega
theorem or_fin:∀i:Fin 256,bOr .u8 ((i.val:Nat):Int) 128=((128+i.val%128:Nat):Int):=by decide +kernel
theorem or8 (z:Nat):bOr .u8 (IntKind.u8.wrap (z:Int)) 128=((128+z%128:Nat):Int):=by
 rw[low8];have:=or_fin ⟨z%256,Nat.mod_lt _ (by omega)⟩;simp only at this;rw[this];omega
def enc (z:Nat):List Int:=if h:z<128 then [(z:Int)] else ((128+z%128:Nat):Int)::enc (z/128)
 termination_by z
 decreasing_by omega
theorem enc_small (h:z<128):enc z=[(z:Int)]:=by rw[enc,dif_pos h]
theorem enc_big (h:¬ z<128):enc z=((128+z%128:Nat):Int)::enc (z/128):=by rw[enc,dif_neg h]
def num (n:Int):List Int:=enc (zig n)
end Go.NumM
namespace Go.NumM
open Go Go.GX Go.Api
def encs (l:List Int):List Int:=l.flatMap num
theorem encs_one (x:Int):encs [x]=num x:=by simp[encs]
theorem encs_app (l m:List Int):encs (l++m)=encs l++encs m:=by simp[encs]
theorem encs_snoc {l:List Int}{i:Nat}{x:Int}(h:l[i]?=some x):encs (l.take (i+1))=encs (l.take i)++num x:=by rw[List.take_add_one,h,encs_app];simp[encs]
theorem encs_take (l:List Int)(i:Nat):(encs (l.take i)).length<=(encs l).length:=by
 have:=congrArg List.length (congrArg encs (List.take_append_drop i l));rw[encs_app,List.length_append] at this;omega
def encL (l:List Int):List Int:=num l.length++encs l
def encC (c:Layout):List Int:=num (if c.arr=true then 1 else 0)++encL c.refs
def encI (i:Ins):List Int:=encs [i.op,i.a,i.b,i.c,i.n]++encL i.args
def encU (u:Unt):List Int:=num u.params++(encL u.vars++(num u.result++(encL u.takes++(encL u.owns++(num u.ins.length++u.ins.flatMap encI)))))
def encT (t:RTg):List Int:=num t.classes.length++(t.classes.flatMap encC++(encL t.globals++(num t.units.length++(t.units.flatMap encU++num t.main))))
theorem fm_snoc {α:Type}{f:α->List Int}{l:List α}{i:Nat}{x:α}(h:l[i]?=some x):(l.take (i+1)).flatMap f=(l.take i).flatMap f++f x:=by rw[List.take_add_one,h,List.flatMap_append];simp
theorem fm_take {α:Type}(f:α->List Int)(l:List α)(i:Nat):((l.take i).flatMap f).length<=(l.flatMap f).length:=by
 have:=congrArg (fun m=>(m.flatMap f).length) (List.take_append_drop i l);simp only[List.flatMap_append,List.length_append] at this;omega
end Go.NumM
namespace Go.Proofs.YtojfbbggnkijeaaGreatDoor
open Go Go.RR Go.RX Go.GX Go.Api Go.NumM
attribute [local irreducible] wpList Code.wp wpPlan Exit.then Exit.inBlock bodyPost NoPanic Went GX.Post Again Meet RowR GX.Own Owns Box Sl Pt Ag MapR Kept Pin wpT GoK AtEnd Both
structure NuS where
 ao:Option Addr
 cap:Nat
 l:List Int
 z:Nat
theorem enc_len (z:Nat):∀k,z<128 ^ (k+1)->(enc z).length<=k+1:=by
 intro k
 induction k generalizing z with
 |zero=>intro h;rw[enc_small (by simpa using h)];simp
 |succ k ih=>
  intro h;by_cases h1:z<128
  ·rw[enc_small h1];simp
  ·rw[enc_big h1,List.length_cons];have:=ih (z/128) (by rw[Nat.pow_succ] at h;omega);omega
theorem num_len (n : Int) (h : -9223372036854775808 ≤ n ∧ n ≤ 9223372036854775807) : (num n).length ≤ 10 := enc_len _ 9 (by have:=zig_lt h;have e:(128:Nat) ^ (9+1)=1180591620717411303424:=by decide
                                                                                                                            omega)
set_option maxHeartbeats 1000000 in
theorem num_spec (n:Int)(hn:-9223372036854775808<=n/\n<=9223372036854775807):Does Tryz.prog 53 [.int .i64 n] [] [] (fun s:Option Addr×Nat=>.slice s.1 (num n).length s.2) (fun _=>[]) (fun s=>[GX.Own 5 Ty.byte s.1 s.2 (num n)]):=by
 refine enter Tryz.func53 rfl Tryz.ntmps53 rfl fun b=>?_;have hz:=zig_eq n hn;have hzl:=zig_lt hn;by_cases hneg:n<0
 ·rw[if_pos hneg] at hz;refine w_ ?_ 2;intros;rw[hz];refine w_ ?_;intros;refine ownNil 5 Ty.byte ?_;refine GX.loop (σ:=NuS) (fun s=>[(3,.int .u64 (s.z:Int)),(4,.slice s.ao s.l.length s.cap)]) (fun _=>[]) (fun s=>[GX.Own 5 Ty.byte s.ao s.cap s.l]) (fun s=>s.l++enc s.z=num n/\s.l.length<=10/\s.z<18446744073709551616) (fun s=>s.z) ⟨none,0,[],zig n⟩ ⟨rfl,rfl,trivial⟩ ⟨rfl,by simp,hzl⟩ (fun s hs=>?_);obtain⟨ao,cap,l,z⟩:=s;obtain⟨h1,h2,h3⟩:=hs;dsimp only at *;have hl:=num_len n hn;have h4:=congrArg List.length h1;rw[List.length_append] at h4;by_cases hlt:z<128
  ·rw[enc_small hlt] at h1;have e8:IntKind.u8.wrap (z:Int)=(z:Int):=by rw[low8];omega
   refine w_ ?_;intros;rw[e8,h1];exact rt1 (_,_) rfl
  ·have e:l++[((128+z%128:Nat):Int)]++enc (z/128)=num n:=by rw[List.append_assoc,List.singleton_append,<-enc_big hlt];exact h1
   have h5:=congrArg List.length h1;rw[enc_big hlt,List.length_append,List.length_cons] at h5;refine w_ ?_;intros;rw[or8,shr7];exact again ⟨_,_,l++[((128+z%128:Nat):Int)],z/128⟩ ⟨rfl,rfl,trivial⟩ ⟨e,by dsimp only;rw[List.length_append,List.length_singleton];omega,by dsimp only;omega⟩ (by dsimp only;omega)
 ·rw[if_neg hneg] at hz;refine w_ ?_ 2;intros;rw[hz];refine w_ ?_;intros;refine ownNil 5 Ty.byte ?_;refine GX.loop (σ:=NuS) (fun s=>[(3,.int .u64 (s.z:Int)),(4,.slice s.ao s.l.length s.cap)]) (fun _=>[]) (fun s=>[GX.Own 5 Ty.byte s.ao s.cap s.l]) (fun s=>s.l++enc s.z=num n/\s.l.length<=10/\s.z<18446744073709551616) (fun s=>s.z) ⟨none,0,[],zig n⟩ ⟨rfl,rfl,trivial⟩ ⟨rfl,by simp,hzl⟩ (fun s hs=>?_);obtain⟨ao,cap,l,z⟩:=s;obtain⟨h1,h2,h3⟩:=hs;dsimp only at *;have hl:=num_len n hn;have h4:=congrArg List.length h1;rw[List.length_append] at h4;by_cases hlt:z<128
  ·rw[enc_small hlt] at h1;have e8:IntKind.u8.wrap (z:Int)=(z:Int):=by rw[low8];omega
   refine w_ ?_;intros;rw[e8,h1];exact rt1 (_,_) rfl
  ·have e:l++[((128+z%128:Nat):Int)]++enc (z/128)=num n:=by rw[List.append_assoc,List.singleton_append,<-enc_big hlt];exact h1
   have h5:=congrArg List.length h1;rw[enc_big hlt,List.length_append,List.length_cons] at h5;refine w_ ?_;intros;rw[or8,shr7];exact again ⟨_,_,l++[((128+z%128:Nat):Int)],z/128⟩ ⟨rfl,rfl,trivial⟩ ⟨e,by dsimp only;rw[List.length_append,List.length_singleton];omega,by dsimp only;omega⟩ (by dsimp only;omega)
end Go.Proofs.YtojfbbggnkijeaaGreatDoor
namespace Go.NumM
open Go Go.GX Go.Api
variable {i:Nat} {c:Int} {z:Nat} {D:List Int} {v y:Int} {rest:List Int} {l:Int}
structure Rdn {α:Type}(enc:α->List Int)(ok:α->Prop)(D:List Int)(d:Bool)(x:α)(D2:List Int)(d2:Bool):Prop where
 good:ok x
 len:D2.length<=D.length
 mark:d2=false->d=false
 size:d2=false->(enc x).length+10*D2.length<=10*D.length
 back:d=false->∀y rest,ok y->D=enc y++rest->x=y/\D2=rest/\d2=false
structure RdnS {α:Type}(enc:α->List Int)(ok:α->Prop)(D:List Int)(d:Bool) where
 x:α
 c:Option Addr×Nat
 D2:List Int
 d2:Bool
 h:Rdn enc ok D d x D2 d2
theorem or64 {a b:Nat}(ha:a<18446744073709551616)(hb:b<18446744073709551616):bOr .u64 (a:Int) (b:Int)=((a ||| b:Nat):Int):=by
 have e2:∀z:Nat,BitVec.ofInt 64 (z:Int)=BitVec.ofNat 64 z:=fun z=>by apply BitVec.eq_of_toNat_eq;simp
 have e:bOr .u64 (a:Int) (b:Int)=IntKind.u64.wrap ((BitVec.ofInt 64 (a:Int) ||| BitVec.ofInt 64 (b:Int)).toNat:Int):=rfl;have hlt:a ||| b<2 ^ 64:=Nat.or_lt_two_pow (by omega) (by omega);rw[e,e2,e2,BitVec.toNat_or,BitVec.toNat_ofNat,BitVec.toNat_ofNat,Nat.mod_eq_of_lt (by omega),Nat.mod_eq_of_lt (by omega),wrap_u64_nat (by omega)]
theorem and64 {a b:Nat}(ha:a<18446744073709551616)(hb:b<18446744073709551616):bAnd .u64 (a:Int) (b:Int)=((a &&& b:Nat):Int):=by
 have e2:∀z:Nat,BitVec.ofInt 64 (z:Int)=BitVec.ofNat 64 z:=fun z=>by apply BitVec.eq_of_toNat_eq;simp
 have e:bAnd .u64 (a:Int) (b:Int)=IntKind.u64.wrap ((BitVec.ofInt 64 (a:Int) &&& BitVec.ofInt 64 (b:Int)).toNat:Int):=rfl;have hlt:a &&& b<2 ^ 64:=Nat.and_lt_two_pow _ (by omega);rw[e,e2,e2,BitVec.toNat_and,BitVec.toNat_ofNat,BitVec.toNat_ofNat,Nat.mod_eq_of_lt (by omega),Nat.mod_eq_of_lt (by omega),wrap_u64_nat (by omega)]
theorem shl64 {a:Nat}(hi:i<=64)(h:a*2 ^ i<18446744073709551616):shlV .u64 (a:Int) (i:Int)=((a*2 ^ i:Nat):Int):=by
 have e:min (i:Int).toNat IntKind.u64.bits=i:=by rw[Int.toNat_natCast];exact Nat.min_eq_left hi
 unfold shlV;rw[e];have:(a:Int)*2 ^ i=((a*2 ^ i:Nat):Int):=by simp
 rw[this,wrap_u64_nat h]
theorem not_fin:∀i:Fin 256,IntKind.u64.wrap (bNot .u8 ((i.val:Nat):Int) 128)=((i.val%128:Nat):Int):=by decide +kernel
theorem not8 {c:Nat}(h:c<256):IntKind.u64.wrap (bNot .u8 (c:Int) 128)=((c%128:Nat):Int):=not_fin ⟨c,h⟩
def Low (c l:Int):Prop:=∀k:Nat,c=(k:Int)->k<256->l=((k%128:Nat):Int)
theorem low_p (c:Int):Low c (IntKind.u64.wrap (bNot .u8 c 128)):=fun k h hk=>by rw[h];exact not8 hk
theorem or_step (hz:z<18446744073709551616)(hi:7*i<=64):bOr .u64 ((z%2 ^ (7*i):Nat):Int) (shlV .u64 ((z/2 ^ (7*i)%128:Nat):Int) ((7*i:Nat):Int))=((z%2 ^ (7*(i+1)):Nat):Int):=by
 have h1:z/2 ^ (7*i)*2 ^ (7*i)<=z:=Nat.div_mul_le_self _ _;have h2:z/2 ^ (7*i)%128*2 ^ (7*i)<=z:=Nat.le_trans (Nat.mul_le_mul_right _ (Nat.mod_le _ _)) h1;have h3:z%2 ^ (7*i)<=z:=Nat.mod_le _ _;rw[shl64 hi (by omega),or64 (by omega) (by omega)];congr 1;have h4:z%2 ^ (7*i)<2 ^ (7*i):=Nat.mod_lt _ (Nat.two_pow_pos _);have h5:=Nat.shiftLeft_add_eq_or_of_lt h4 (z/2 ^ (7*i)%128);rw[Nat.shiftLeft_eq] at h5;rw[Nat.or_comm,<-h5];have e:2 ^ (7*(i+1))=2 ^ (7*i)*128:=by rw[Nat.mul_add,Nat.pow_add]
 rw[e,Nat.mod_mul];rw[Nat.mul_comm,Nat.add_comm]
theorem i64_wrap (v:Int):I64 (IntKind.i64.wrap v):=by
 have h:IntKind.i64.wrap v=if 9223372036854775808<=v%18446744073709551616 then v%18446744073709551616-18446744073709551616 else v%18446744073709551616:=by
  simp[IntKind.wrap,IntKind.signed,IntKind.bits]
 rw[h];split
 ·exact⟨by omega,by omega⟩
 ·exact⟨by omega,by omega⟩
def Mid (D:List Int)(i:Nat)(v:Int):Prop:=∀y rest,I64 y->D=num y++rest->D.drop i=enc (zig y/2 ^ (7*i))++rest/\v=((zig y%2 ^ (7*i):Nat):Int)/\(i=0\/2 ^ (7*i)<=zig y)
theorem mid0 (D:List Int):Mid D 0 0:=fun y rest hy h=>⟨by simpa[num] using h,by simp[Nat.mod_one],.inl rfl⟩
theorem enc_ne (z:Nat):∃c l,enc z=(c:Int)::l:=by
 by_cases h:z<128
 ·exact⟨_,_,enc_small h⟩
 ·exact⟨_,_,enc_big h⟩
theorem mid_lt (h:Mid D i v)(hy:I64 y)(hD:D=num y++rest):i<D.length/\i<=9:=by
 obtain⟨h1,h2,h3⟩:=h y rest hy hD;obtain⟨c,l,hc⟩:=enc_ne (zig y/2 ^ (7*i));rw[hc] at h1;have h4:=congrArg List.length h1;rw[List.length_drop] at h4;simp at h4;refine⟨by omega,?_⟩
 rcases h3 with h3|h3
 ·omega
 ·have h5:=zig_lt hy;have h6:2 ^ (7*i)<2 ^ 64:=by omega
  have:=(Nat.pow_lt_pow_iff_right (show 1<2 by omega)).1 h6;omega
theorem get_drop {x:Int}{l:List Int}(h:D[i]?=some c)(h2:D.drop i=x::l):c=x/\D.drop (i+1)=l:=by
 have h3:(D.drop i)[0]?=D[i]?:=by simp
 rw[h2,h] at h3;have h4:(D.drop i).drop 1=D.drop (i+1):=by simp
 rw[h2] at h4;exact⟨(by simpa using h3.symm),by simpa using h4.symm⟩
theorem mid_step (h:Mid D i v)(hc:D[i]?=some c)(hb:¬ c<128)(hl:Low c l):Mid D (i+1) (bOr .u64 v (shlV .u64 l ((7*i:Nat):Int))):=by
 intro y rest hy hD;obtain⟨h1,h2,h3⟩:=h y rest hy hD;have h9:=(mid_lt h hy hD).2;have hz:¬ zig y/2 ^ (7*i)<128:=by
  intro hz;rw[enc_small hz] at h1;have:=(get_drop hc h1).1;omega
 rw[enc_big hz,List.cons_append] at h1;obtain⟨g1,g2⟩:=get_drop hc h1;have hl':=hl _ g1 (by omega);have e:2 ^ (7*(i+1))=2 ^ (7*i)*128:=by rw[Nat.mul_add,Nat.pow_add]
 refine⟨?_,?_,.inr ?_⟩
 ·rw[g2,e,Nat.div_div_eq_div_mul]
 ·rw[hl',h2,show (128+zig y/2 ^ (7*i)%128)%128=zig y/2 ^ (7*i)%128 by omega];exact or_step (zig_lt hy) (by omega)
 ·rw[e];have:=Nat.div_mul_le_self (zig y) (2 ^ (7*i));exact Nat.le_trans (by rw[Nat.mul_comm];exact Nat.mul_le_mul_right _ (by omega)) this
theorem mid_end (h:Mid D i v)(hc:D[i]?=some c)(hb:c<128)(hl:Low c l)(hy:I64 y)(hD:D=num y++rest):D.drop (i+1)=rest/\bOr .u64 v (shlV .u64 l ((7*i:Nat):Int))=(zig y:Int):=by
 obtain⟨h1,h2,h3⟩:=h y rest hy hD;have h9:=(mid_lt h hy hD).2;have hz:zig y/2 ^ (7*i)<128:=by
  refine Decidable.byContradiction fun hz=>?_;rw[enc_big hz] at h1;have:=(get_drop hc h1).1;omega
 rw[enc_small hz,List.singleton_append] at h1;obtain⟨g1,g2⟩:=get_drop hc h1;have hl':=hl _ g1 (by omega);refine⟨g2,?_⟩;rw[hl',h2,or_step (zig_lt hy) (by omega),Nat.mod_eq_of_lt];have e:2 ^ (7*(i+1))=2 ^ (7*i)*128:=by rw[Nat.mul_add,Nat.pow_add]
 rw[e];rw[Nat.div_lt_iff_lt_mul (Nat.two_pow_pos _)] at hz;rw[Nat.mul_comm];exact hz
def zagP (v:Int):Int:=if bAnd .u64 v 1=1 then cplV .i64 (IntKind.i64.wrap (shrV .u64 v 1)) else IntKind.i64.wrap (shrV .u64 v 1)
def zagR (v:Int):Int:=if bAnd .u64 v 1=1 then IntKind.i64.wrap (cplV .u64 (shrV .u64 v 1)) else IntKind.i64.wrap (shrV .u64 v 1)
theorem zagP_ok (v:Int):I64 (zagP v):=by unfold zagP;split<;>exact i64_wrap _
theorem zagR_ok (v:Int):I64 (zagR v):=by unfold zagR;split<;>exact i64_wrap _
theorem low1 (h:z<18446744073709551616):bAnd .u64 (z:Int) 1=((z%2:Nat):Int):=by
 have:=and64 h (show 1<18446744073709551616 by omega);rw[Nat.and_one_is_mod] at this;exact this
theorem wrap_i64 {n:Int}(h:-9223372036854775808<=n/\n<=9223372036854775807):IntKind.i64.wrap n=n:=by
 have e:IntKind.i64.wrap n=if 9223372036854775808<=n%18446744073709551616 then n%18446744073709551616-18446744073709551616 else n%18446744073709551616:=by
  simp[IntKind.wrap,IntKind.signed,IntKind.bits]
 rw[e];split<;>omega
theorem cpl_i64 (h:z<9223372036854775808):cplV .i64 (z:Int)=-(z:Int)-1:=by
 have e1:BitVec.ofInt 64 (-1)=BitVec.allOnes 64:=by decide
 have e2:BitVec.ofInt 64 (z:Int)=BitVec.ofNat 64 z:=by apply BitVec.eq_of_toNat_eq;simp
 have key:cplV .i64 (z:Int)=IntKind.i64.wrap ((BitVec.ofInt 64 (-1) ^^^ BitVec.ofInt 64 (z:Int)).toNat:Int):=by
  unfold cplV;simp only[IntKind.signed];rfl
 rw[key,e1,e2,BitVec.xor_comm,BitVec.xor_allOnes,BitVec.toNat_not,BitVec.toNat_ofNat,Nat.mod_eq_of_lt (by omega)]
 have e:∀n:Int,IntKind.i64.wrap n=if 9223372036854775808<=n%18446744073709551616 then n%18446744073709551616-18446744073709551616 else n%18446744073709551616:=by
  intro n;simp[IntKind.wrap,IntKind.signed,IntKind.bits]
 rw[e];split<;>omega
theorem wrap_cpl (h:z<9223372036854775808):IntKind.i64.wrap (cplV .u64 (z:Int))=-(z:Int)-1:=by
 rw[cpl_u64 (by omega)]
 have e:∀n:Int,IntKind.i64.wrap n=if 9223372036854775808<=n%18446744073709551616 then n%18446744073709551616-18446744073709551616 else n%18446744073709551616:=by
  intro n;simp[IntKind.wrap,IntKind.signed,IntKind.bits]
 rw[e];split<;>omega
theorem zag_of (hy:I64 y):zagP (zig y)=y/\zagR (zig y)=y:=by
 have hz:=zig_lt hy;have hb:=zag_zig y;unfold zag at hb;unfold zagP zagR;rw[low1 hz,shr1];by_cases h:zig y%2=1
 ·rw[if_pos h] at hb;rw[if_pos (by omega),if_pos (by omega),wrap_i64 (by omega),cpl_i64 (by omega),wrap_cpl (by omega)];exact⟨hb,hb⟩
 ·rw[if_neg h] at hb;rw[if_neg (by omega),if_neg (by omega),wrap_i64 (by omega)];exact⟨hb,hb⟩
theorem rd_num {d:Bool}{x:Int}(h:Mid D i v)(hc:D[i]?=some c)(hb:c<128)(hl:Low c l)(hx:x=zagP (bOr .u64 v (shlV .u64 l ((7*i:Nat):Int)))\/x=zagR (bOr .u64 v (shlV .u64 l ((7*i:Nat):Int)))):Rdn num I64 D d x (D.drop (i+1)) d:=by
 have hx6:I64 x:=by rcases hx with rfl|rfl;exact zagP_ok _;exact zagR_ok _
 have hi:i<D.length:=by
  have:=List.getElem?_eq_some_iff.1 hc;exact this.1
 have hn:=Go.Proofs.YtojfbbggnkijeaaGreatDoor.num_len x hx6;refine⟨hx6,by rw[List.length_drop];omega,fun h=>h,fun _=>by rw[List.length_drop];omega,fun hd y rest hy hD=>?_⟩;obtain⟨h1,h2⟩:=mid_end h hc hb hl hy hD;refine⟨?_,h1,hd⟩;rw[h2] at hx
 rcases hx with rfl|rfl
 ·exact (zag_of hy).1
 ·exact (zag_of hy).2
theorem rd_bad {D2:List Int}{d:Bool}(h:Mid D i v)(hi:d=false->D.length<=i\/10<=i)(hD2:D2.length<=D.length):Rdn num I64 D d 0 D2 true:=
 ⟨⟨by omega,by omega⟩,hD2,fun h=>absurd h (by decide),fun h=>absurd h (by decide),fun hd y rest hy hD=>by
  have:=mid_lt h hy hD;have:=hi hd;omega⟩
end Go.NumM
