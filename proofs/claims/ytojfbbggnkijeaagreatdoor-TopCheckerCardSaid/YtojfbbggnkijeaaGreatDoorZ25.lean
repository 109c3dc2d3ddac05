import Derived.Test.YtojfbbggnkijeaaGreatDoorZ19
import Derived.Test.YtojfbbggnkijeaaGreatDoorZ24
set_option linter.all false
namespace Go.GX
open Go Go.RowKit Go.RR Go.RX
def RowS (b:Nat)(vs:List Value):Pf:=
 ⟨fun F w=>F b/\∃e fz,w.heap[b]?=some (.cells vs.toArray e fz),fun h hF ha=>by
  obtain⟨h1,e,fz,h2⟩:=h;have hl:=(Array.getElem?_eq_some_iff.1 h2).1;exact⟨hF _ hl h1,e,fz,(ha.block _ hl h1).trans h2⟩⟩
end Go.GX
namespace Go.Proofs.YtojfbbggnkijeaaGreatDoor
open Go Go.RowKit Go.RR Go.RX Go.EV
def ascL:List Value:=List.replicate 9 (.int .u8 0)++[.int .u8 1,.int .u8 1,.int .u8 1,.int .u8 1,.int .u8 1]++List.replicate 18 (.int .u8 0)++[.int .u8 1]++List.replicate 223 (.int .u8 0)
theorem asc_plain:∀v∈ascL,plain1 v=true/\base1 v=true:=by
 have h:ascL.all (fun v=>plain1 v&&base1 v)=true:=by kernel_rfl
 intro v hv;have:=List.all_eq_true.1 h v hv;rwa[Bool.and_eq_true] at this
theorem h0_get {i:Nat}{o:AO}(h:(T.ofList snap22.hs).get i=some o):i=0/\o=.tab ascL:=by
 have h1:=T.get_ofList snap22.hs h;have e:snap22.hs=[(0,.tab ascL)]:=rfl;rw[e] at h1;have:=List.mem_singleton.1 h1;simpa using this
set_option maxRecDepth 100000 in
theorem compile_spec:GX.Does Tryz.prog 6 [.string ⟨#[114,101,99,111,114,100,32,82,32,123,32,97,58,32,105,110,116,59,32,125,32,102,117,110,99,32,109,97,105,110,40,41,32,123,32,108,101,116,32,114,58,32,82,32,61,32,110,101,119,32,82,59,32,114,46,97,32,61,32,114,101,97,100,40,41,59,32,112,114,105,110,116,32,114,46,97,59,32,125]⟩] [GX.RowS 0 ascL] [] (fun s:Nat×Nat=>.tuple #[.slice (some ⟨s.1,0,none⟩) fixB.length s.2,.agg #[.int .i64 0,.int .i64 0]])
  (fun s=>[GX.Sl GX.Ty.byte (some ⟨s.1,0,none⟩) s.2 fixB]) (fun _=>[]):=by
 constructor;intro w F b s;obtain⟨h0,hrow⟩:(GX.RowS 0 ascL).says F w:=s.fs _ (by simp);obtain⟨H',hc,hout⟩:=Sm.says_ok evSays22;have hpl:ascL.map (ren1 ⟨id,fun _=>0⟩)=ascL:=map_same fun v hv=>ren1_plain (asc_plain v hv).1;have hrel:RelH w (fun b=>b<16) ⟨id,fun _=>0⟩ (T.ofList snap22.hs) w:=by
  refine⟨Upd.refl _ w,fun i o h=>?_,fun i o h=>?_,fun i o h=>?_,fun i j oi oj h _ hwr _=>?_,fun i o h hwr=>?_⟩
  ·obtain⟨rfl,_⟩:=h0_get h;show (0:Nat)<16;omega
  ·obtain⟨rfl,rfl⟩:=h0_get h;obtain⟨e,fz,hrow⟩:=hrow;exact⟨e,fz,by rw[hpl];exact hrow⟩
  ·obtain⟨rfl,rfl⟩:=h0_get h;intro v hv;refine⟨(asc_plain v hv).2,fun ρ ρ' _=>?_⟩;rw[ren_base1 (asc_plain v hv).2,ren_base1 (asc_plain v hv).2,ren1_plain (asc_plain v hv).1,ren1_plain (asc_plain v hv).1]
  ·obtain⟨_,rfl⟩:=h0_get h;cases hwr
  ·obtain⟨_,rfl⟩:=h0_get h;cases hwr
 have hbas:EV.Base (fun b=>b<16) ⟨id,fun _=>0⟩ 16:=⟨fun b hb h=>by have h:b<16:=h;omega,fun g hg=>⟨hg,rfl⟩⟩;have hbv:∀x∈snap22.args,BV (fun b=>b<16) x:=fun x hx=>by
  obtain rfl:=List.mem_singleton.1 hx;exact fun _ _ _=>rfl
 have hcall:=calls_of_cf (runX_ok (evOk22 w)) Tryz.func6 (by kernel_rfl) rfl hrel hbas hbv hc;have eargs:(snap22.args.map (ren ⟨id,fun _=>0⟩)).toArray=[Value.string ⟨#[114,101,99,111,114,100,32,82,32,123,32,97,58,32,105,110,116,59,32,125,32,102,117,110,99,32,109,97,105,110,40,41,32,123,32,108,101,116,32,114,58,32,82,32,61,32,110,101,119,32,82,59,32,114,46,97,32,61,32,114,101,97,100,40,41,59,32,112,114,105,110,116,32,114,46,97,59,32,125]⟩].toArray:=rfl;rw[eargs] at hcall;refine hcall.mono fun e w' h=>?_;obtain⟨ρ',rfl,hL⟩:=h;obtain⟨o,ho,hw,hq⟩:=hout _ List.mem_cons_self;have hob:=aoEq_obj hq (hL.h.obj _ _ ho);obtain⟨rest,h1,h2,_,h4⟩:=hob;have hnew:w.heap.size<=ρ'.f 96223:=by
  rcases hL.im _ _ ho with h|⟨j,oj,hj,hwr,_⟩
  ·exact h
  ·obtain⟨_,rfl⟩:=h0_get hj;exact absurd (hwr hw) (by simp[AO.wr])
 have hlt:=(Array.getElem?_eq_some_iff.1 h1).1;have hrw:Row w' (ρ'.f 96223) 5 (fixB.map (.int .u8)++rest):=h1;refine⟨(ρ'.f 96223,ρ'.c 96223),?_,GX.mkOkF s hL.h.upd hnew hlt ⟨?_,?_,fun i x hx=>?_⟩⟩
 ·have e1:rcap ρ' 96223 (big-0)=ρ'.c 96223:=by
   have:=rcap_open (ρ:=ρ') (b:=96223) (k:=0) (by omega) (by omega);exact this
  have e0:snap22.v=.tuple #[.slice (some ⟨96223,0,none⟩) 74 (big-0),.agg #[.int .i64 0,.int .i64 0]]:=rfl;have ev:ren ρ' snap22.v=.tuple #[.slice (some ⟨ρ'.f 96223,0,none⟩) 74 (rcap ρ' 96223 (big-0)),.agg #[.int .i64 0,.int .i64 0]]:=by
   rw[e0];simp[ren,ren2,ren1,ren0]
  rw[ev,e1];rfl
 ·have h2:74+rest.length=ρ'.c 96223*1:=h2;show 74<=ρ'.c 96223;omega
 ·have:ρ'.c 96223<=maxLen:=h4;unfold maxLen at this;show ρ'.c 96223<=9223372036854775807;omega
 ·refine⟨ρ'.f 96223,0,[.int .u8 x],rfl,.inr rfl,hlt,fun j v hj=>?_,rfl⟩
  cases j with
  |zero=>
   simp at hj;subst hj;rw[hrw.cell];have hil:=(List.getElem?_eq_some_iff.1 hx).1;rw[List.getElem?_append_left (by simp[GX.Ty.byte,GX.Ty.num];omega)];simp[GX.Ty.byte,GX.Ty.num,hx]
  |succ j=>simp at hj
end Go.Proofs.YtojfbbggnkijeaaGreatDoor
