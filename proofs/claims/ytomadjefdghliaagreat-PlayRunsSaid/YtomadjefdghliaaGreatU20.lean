import Derived.Test.YtomadjefdghliaaGreatU17
import Derived.Test.YtomadjefdghliaaGreatU19
namespace Go.Proofs.YtomadjefdghliaaGreat
open Go.Api Go.RtM Go.RiseM
theorem go1 {M : Ms} {t : RTg} {G : List Int} {f : Fr} {i : Ins} (h : i.op = 1) : M.go t G f i = (M.var f i.a i.n) := by
 unfold Ms.go
 rw [if_pos h] <;> rfl
theorem go2 {M : Ms} {t : RTg} {G : List Int} {f : Fr} {i : Ins} (h : i.op = 2) : M.go t G f i = (M.var f i.a 0) := by
 unfold Ms.go
 rw [if_neg (by omega), if_pos h] <;> rfl
theorem go3 {M : Ms} {t : RTg} {G : List Int} {f : Fr} {i : Ins} (h : i.op = 3) : M.go t G f i = (M.var f i.a (lkv f.vars i.b)) := by
 unfold Ms.go
 rw [if_neg (by omega), if_neg (by omega), if_pos h] <;> rfl
theorem go4 {M : Ms} {t : RTg} {G : List Int} {f : Fr} {i : Ins} (h : i.op = 4) : M.go t G f i = (M.got f i.a (bin i.n (lkv f.vars i.b) (lkv f.vars i.c))) := by
 unfold Ms.go
 rw [if_neg (by omega), if_neg (by omega), if_neg (by omega), if_pos h] <;> rfl
theorem go5 {M : Ms} {t : RTg} {G : List Int} {f : Fr} {i : Ins} (h : i.op = 5) : M.go t G f i = (M.var f i.a (unN i.n (lkv f.vars i.b))) := by
 unfold Ms.go
 rw [if_neg (by omega), if_neg (by omega), if_neg (by omega), if_neg (by omega), if_pos h] <;> rfl
theorem go6 {M : Ms} {t : RTg} {G : List Int} {f : Fr} {i : Ins} (h : i.op = 6) : M.go t G f i = (M.got f i.a (loadP M.tb.B M.tb.L (lkv f.vars i.b) i.c)) := by
 unfold Ms.go
 rw [if_neg (by omega), if_neg (by omega), if_neg (by omega), if_neg (by omega), if_neg (by omega), if_pos h] <;> rfl
theorem go7 {M : Ms} {t : RTg} {G : List Int} {f : Fr} {i : Ins} (h : i.op = 7) : M.go t G f i = (({ M with tb := M.tb.put (lkv f.vars i.a) i.c (lkv f.vars i.b) } : Ms).trap (loadP M.tb.B M.tb.L (lkv f.vars i.a) i.c).2) := by
 unfold Ms.go
 rw [if_neg (by omega), if_neg (by omega), if_neg (by omega), if_neg (by omega), if_neg (by omega), if_neg (by omega), if_pos h] <;> rfl
theorem go8 {M : Ms} {t : RTg} {G : List Int} {f : Fr} {i : Ins} (h : i.op = 8) : M.go t G f i = (M.got f i.a (loadP M.tb.B M.tb.L (lkv f.vars i.b) (lkv f.vars i.c))) := by
 unfold Ms.go
 rw [if_neg (by omega), if_neg (by omega), if_neg (by omega), if_neg (by omega), if_neg (by omega), if_neg (by omega), if_neg (by omega), if_pos h] <;> rfl
theorem go9 {M : Ms} {t : RTg} {G : List Int} {f : Fr} {i : Ins} (h : i.op = 9) : M.go t G f i = (({ M with tb := M.tb.put (lkv f.vars i.a) (lkv f.vars i.b) (lkv f.vars i.c) } : Ms).trap (loadP M.tb.B M.tb.L (lkv f.vars i.a) (lkv f.vars i.b)).2) := by
 unfold Ms.go
 rw [if_neg (by omega), if_neg (by omega), if_neg (by omega), if_neg (by omega), if_neg (by omega), if_neg (by omega), if_neg (by omega), if_neg (by omega), if_pos h] <;> rfl
theorem go10 {M : Ms} {t : RTg} {G : List Int} {f : Fr} {i : Ins} (h : i.op = 10) : M.go t G f i = (M.got f i.a (lenP M.tb.B M.tb.L (lkv f.vars i.b))) := by
 unfold Ms.go
 rw [if_neg (by omega), if_neg (by omega), if_neg (by omega), if_neg (by omega), if_neg (by omega), if_neg (by omega), if_neg (by omega), if_neg (by omega), if_neg (by omega), if_pos h] <;> rfl
theorem go11 {M : Ms} {t : RTg} {G : List Int} {f : Fr} {i : Ins} (h : i.op = 11) : M.go t G f i = (M.lies G f i.a i.n (match gt t.classes i.n with | some L => (L.refs.length : Int) | none => 0)) := by
 unfold Ms.go
 rw [if_neg (by omega), if_neg (by omega), if_neg (by omega), if_neg (by omega), if_neg (by omega), if_neg (by omega), if_neg (by omega), if_neg (by omega), if_neg (by omega), if_neg (by omega), if_pos h] <;> rfl
theorem go12 {M : Ms} {t : RTg} {G : List Int} {f : Fr} {i : Ins} (h : i.op = 12) : M.go t G f i = ((if lkv f.vars i.b < 0 ∨ 50 < lkv f.vars i.b then M.trap 4 else M.lies G f i.a i.n (lkv f.vars i.b))) := by
 unfold Ms.go
 rw [if_neg (by omega), if_neg (by omega), if_neg (by omega), if_neg (by omega), if_neg (by omega), if_neg (by omega), if_neg (by omega), if_neg (by omega), if_neg (by omega), if_neg (by omega), if_neg (by omega), if_pos h] <;> rfl
theorem go13 {M : Ms} {t : RTg} {G : List Int} {f : Fr} {i : Ins} (h : i.op = 13) : M.go t G f i = (M.call t G f i) := by
 unfold Ms.go
 rw [if_neg (by omega), if_neg (by omega), if_neg (by omega), if_neg (by omega), if_neg (by omega), if_neg (by omega), if_neg (by omega), if_neg (by omega), if_neg (by omega), if_neg (by omega), if_neg (by omega), if_neg (by omega), if_pos h] <;> rfl
theorem go14 {M : Ms} {t : RTg} {G : List Int} {f : Fr} {i : Ins} (h : i.op = 14) : M.go t G f i = ((match M.inp with | [] => M.trap 5 | y :: l => { M.var f i.a y with inp := l })) := by
 unfold Ms.go
 rw [if_neg (by omega), if_neg (by omega), if_neg (by omega), if_neg (by omega), if_neg (by omega), if_neg (by omega), if_neg (by omega), if_neg (by omega), if_neg (by omega), if_neg (by omega), if_neg (by omega), if_neg (by omega), if_neg (by omega), if_pos h] <;> rfl
theorem go15 {M : Ms} {t : RTg} {G : List Int} {f : Fr} {i : Ins} (h : i.op = 15) : M.go t G f i = ({ M with out := M.out ++ [lkv f.vars i.a] }) := by
 unfold Ms.go
 rw [if_neg (by omega), if_neg (by omega), if_neg (by omega), if_neg (by omega), if_neg (by omega), if_neg (by omega), if_neg (by omega), if_neg (by omega), if_neg (by omega), if_neg (by omega), if_neg (by omega), if_neg (by omega), if_neg (by omega), if_neg (by omega), if_pos h] <;> rfl
theorem go16 {M : Ms} {t : RTg} {G : List Int} {f : Fr} {i : Ins} (h : i.op = 16) : M.go t G f i = (M.top { f with pc := i.n }) := by
 unfold Ms.go
 rw [if_neg (by omega), if_neg (by omega), if_neg (by omega), if_neg (by omega), if_neg (by omega), if_neg (by omega), if_neg (by omega), if_neg (by omega), if_neg (by omega), if_neg (by omega), if_neg (by omega), if_neg (by omega), if_neg (by omega), if_neg (by omega), if_neg (by omega), if_pos h] <;> rfl
theorem go17 {M : Ms} {t : RTg} {G : List Int} {f : Fr} {i : Ins} (h : i.op = 17) : M.go t G f i = (M.top { f with pc := if lkv f.vars i.a ≠ 0 then i.n else i.c }) := by
 unfold Ms.go
 rw [if_neg (by omega), if_neg (by omega), if_neg (by omega), if_neg (by omega), if_neg (by omega), if_neg (by omega), if_neg (by omega), if_neg (by omega), if_neg (by omega), if_neg (by omega), if_neg (by omega), if_neg (by omega), if_neg (by omega), if_neg (by omega), if_neg (by omega), if_neg (by omega), if_pos h] <;> rfl
theorem go18 {M : Ms} {t : RTg} {G : List Int} {f : Fr} {i : Ins} (h : i.op = 18) : M.go t G f i = (M.ret f i) := by
 unfold Ms.go
 rw [if_neg (by omega), if_neg (by omega), if_neg (by omega), if_neg (by omega), if_neg (by omega), if_neg (by omega), if_neg (by omega), if_neg (by omega), if_neg (by omega), if_neg (by omega), if_neg (by omega), if_neg (by omega), if_neg (by omega), if_neg (by omega), if_neg (by omega), if_neg (by omega), if_neg (by omega), if_pos h] <;> rfl
theorem go19 {M : Ms} {t : RTg} {G : List Int} {f : Fr} {i : Ins} (h : i.op = 19) : M.go t G f i = (M.var f i.a (lkv M.gl i.n)) := by
 unfold Ms.go
 rw [if_neg (by omega), if_neg (by omega), if_neg (by omega), if_neg (by omega), if_neg (by omega), if_neg (by omega), if_neg (by omega), if_neg (by omega), if_neg (by omega), if_neg (by omega), if_neg (by omega), if_neg (by omega), if_neg (by omega), if_neg (by omega), if_neg (by omega), if_neg (by omega), if_neg (by omega), if_neg (by omega), if_pos h] <;> rfl
theorem go20 {M : Ms} {t : RTg} {G : List Int} {f : Fr} {i : Ins} (h : i.op = 20) : M.go t G f i = ({ M with gl := setv M.gl i.n (lkv f.vars i.a) }) := by
 unfold Ms.go
 rw [if_neg (by omega), if_neg (by omega), if_neg (by omega), if_neg (by omega), if_neg (by omega), if_neg (by omega), if_neg (by omega), if_neg (by omega), if_neg (by omega), if_neg (by omega), if_neg (by omega), if_neg (by omega), if_neg (by omega), if_neg (by omega), if_neg (by omega), if_neg (by omega), if_neg (by omega), if_neg (by omega), if_neg (by omega), if_pos h] <;> rfl
theorem go21 {M : Ms} {t : RTg} {G : List Int} {f : Fr} {i : Ins} (h : i.op = 21) : M.go t G f i = (M.regs f (crT i.args M.tb f.regs)) := by
 unfold Ms.go
 rw [if_neg (by omega), if_neg (by omega), if_neg (by omega), if_neg (by omega), if_neg (by omega), if_neg (by omega), if_neg (by omega), if_neg (by omega), if_neg (by omega), if_neg (by omega), if_neg (by omega), if_neg (by omega), if_neg (by omega), if_neg (by omega), if_neg (by omega), if_neg (by omega), if_neg (by omega), if_neg (by omega), if_neg (by omega), if_neg (by omega), if_pos h] <;> rfl
theorem go22 {M : Ms} {t : RTg} {G : List Int} {f : Fr} {i : Ins} (h : i.op = 22) : M.go t G f i = (M.regs f (rmT i.args M.tb f.regs)) := by
 unfold Ms.go
 rw [if_neg (by omega), if_neg (by omega), if_neg (by omega), if_neg (by omega), if_neg (by omega), if_neg (by omega), if_neg (by omega), if_neg (by omega), if_neg (by omega), if_neg (by omega), if_neg (by omega), if_neg (by omega), if_neg (by omega), if_neg (by omega), if_neg (by omega), if_neg (by omega), if_neg (by omega), if_neg (by omega), if_neg (by omega), if_neg (by omega), if_neg (by omega)] <;> rfl
theorem Ms.trap_fs (M : Ms) (c : Int) : (M.trap c).fs = M.fs ∧ (M.trap c).gl = M.gl ∧ (M.trap c).inp = M.inp ∧ (M.trap c).out = M.out ∧ (M.trap c).tb = M.tb ∧ (M.trap c).steps = M.steps ∧ (M.trap c).slack = M.slack := by
 unfold Ms.trap
 split
 ·exact ⟨rfl, rfl, rfl, rfl, rfl, rfl, rfl⟩
 ·split <;> exact ⟨rfl, rfl, rfl, rfl, rfl, rfl, rfl⟩
structure Like (f f' : Fr) : Prop where
 u : f'.u = f.u
 into : f'.into = f.into
 pc : f'.pc = f.pc
 vars : f'.vars.length = f.vars.length
theorem Like.refl (f : Fr) : Like f f := ⟨rfl, rfl, rfl, rfl⟩
theorem like_var (f : Fr) (n y : Int) : Like f { f with vars := setv f.vars n y } := ⟨rfl, rfl, rfl, setv_len _ _ _⟩
structure Stays (M M' : Ms) (f : Fr) (r : List Fr) : Prop where
 fs : ∃ f', M'.fs = f' :: r ∧ Like f f'
 gl : M'.gl.length = M.gl.length
theorem Stays.trap {M : Ms} {f : Fr} {r : List Fr} (h : M.fs = f :: r) (c : Int) : Stays M (M.trap c) f r := ⟨⟨f, (M.trap_fs c).1.trans h, Like.refl f⟩, by rw [(M.trap_fs c).2.1]⟩
theorem Stays.ends {M : Ms} {f : Fr} {r : List Fr} (h : M.fs = f :: r) (e c : Int) : Stays M (M.ends e c) f r := ⟨⟨f, h, Like.refl f⟩, rfl⟩
theorem Stays.var {M : Ms} {f : Fr} {r : List Fr} (h : M.fs = f :: r) (n y : Int) : Stays M (M.var f n y) f r := ⟨⟨_, by show _ :: M.fs.tail = _; rw [h]; rfl, like_var f n y⟩, rfl⟩
theorem Stays.got {M : Ms} {f : Fr} {r : List Fr} (h : M.fs = f :: r) (n : Int) (q : Int × Int) : Stays M (M.got f n q) f r := by
 unfold Ms.got
 split
 ·exact .var h n _
 ·exact .trap h _
theorem Stays.lies {M : Ms} {G : List Int} {f : Fr} {r : List Fr} (h : M.fs = f :: r) (a c n : Int) : Stays M (M.lies G f a c n) f r := by
 unfold Ms.lies
 split
 ·exact ⟨(Stays.var h a _).fs, rfl⟩
 ·exact .ends h _ _
theorem Stays.regs {M : Ms} {f : Fr} {r : List Fr} (h : M.fs = f :: r) (q : Tb × (Int → Int) × Bool) : Stays M (M.regs f q) f r := by
 unfold Ms.regs
 split
 ·exact ⟨⟨{ f with regs := q.2.1 }, by show _ :: M.fs.tail = _; rw [h]; rfl, rfl, rfl, rfl, rfl⟩, rfl⟩
 ·exact ⟨⟨{ f with regs := q.2.1 }, by show _ :: M.fs.tail = _; rw [h]; rfl, rfl, rfl, rfl, rfl⟩, rfl⟩
theorem go_stays {M : Ms} {t : RTg} {G : List Int} {f : Fr} {r : List Fr} {i : Ins} (h : M.fs = f :: r) (h1 : 1 ≤ i.op) (h2 : i.op ≤ 22) (hj : i.op ≠ 16) (hb : i.op ≠ 17) (hc : i.op ≠ 13) (hr : i.op ≠ 18) : Stays M (M.go t G f i) f r := by
 obtain h | h | h | h | h | h | h | h | h | h | h | h | h | h | h | h | h | h : i.op = 1 ∨ i.op = 2 ∨ i.op = 3 ∨ i.op = 4 ∨ i.op = 5 ∨ i.op = 6 ∨ i.op = 7 ∨ i.op = 8 ∨ i.op = 9 ∨ i.op = 10 ∨ i.op = 11 ∨ i.op = 12 ∨ i.op = 14 ∨ i.op = 15 ∨ i.op = 19 ∨ i.op = 20 ∨ i.op = 21 ∨ i.op = 22 := by omega
 ·rw [go1 h]; exact .var ‹_› _ _
 ·rw [go2 h]; exact .var ‹_› _ _
 ·rw [go3 h]; exact .var ‹_› _ _
 ·rw [go4 h]; exact .got ‹_› _ _
 ·rw [go5 h]; exact .var ‹_› _ _
 ·rw [go6 h]; exact .got ‹_› _ _
 ·rw [go7 h]
  have := Stays.trap (M := { M with tb := M.tb.put (lkv f.vars i.a) i.c (lkv f.vars i.b) }) ‹_› (loadP M.tb.B M.tb.L (lkv f.vars i.a) i.c).2
  exact ⟨this.fs, this.gl⟩
 ·rw [go8 h]; exact .got ‹_› _ _
 ·rw [go9 h]
  have := Stays.trap (M := { M with tb := M.tb.put (lkv f.vars i.a) (lkv f.vars i.b) (lkv f.vars i.c) }) ‹_› (loadP M.tb.B M.tb.L (lkv f.vars i.a) (lkv f.vars i.b)).2
  exact ⟨this.fs, this.gl⟩
 ·rw [go10 h]; exact .got ‹_› _ _
 ·rw [go11 h]; exact .lies ‹_› _ _ _
 ·rw [go12 h]
  split
  ·exact .trap ‹_› _
  ·exact .lies ‹_› _ _ _
 ·rw [go14 h]
  split
  ·exact .trap ‹_› _
  ·exact ⟨(Stays.var ‹_› i.a _).fs, rfl⟩
 ·rw [go15 h]; exact ⟨⟨f, ‹_›, Like.refl f⟩, rfl⟩
 ·rw [go19 h]; exact .var ‹_› _ _
 ·rw [go20 h]; exact ⟨⟨f, ‹_›, Like.refl f⟩, setv_len _ _ _⟩
 ·rw [go21 h]; exact .regs ‹_› _
 ·rw [go22 h]; exact .regs ‹_› _
theorem FrOk.like {t : RTg} {f f' : Fr} {u : Unt} (h : Like f f') (hu : gt t.units f.u = some u) (hv : f.vars.length = u.vars.length) (hp : RtM.Place u f.pc) : FrOk t f' u := ⟨by rw [h.u]; exact hu, h.vars.trans hv, by rw [h.pc]; exact hp⟩
theorem Goal.of {f : Fr} {h : Fr} {r : List Fr} {M : Ms} {t : RTg} (hM : MsOk t M) (hfs : M.fs = f :: h :: r) : f.into = -1 ∨ Vok h f.into := hM.into 0 f h (by rw [hfs]; rfl) (by rw [hfs]; rfl)
theorem next_place {t : RTg} (hR : RightP t) {u : Unt} (hu : u ∈ t.units) {k : Nat} {i : Ins} (hi : u.ins[k]? = some i) (h1 : i.op ≠ 16) (h2 : i.op ≠ 17) (h3 : i.op ≠ 18) : RtM.Place u ((k : Int) + 1) := by
 have hk := (List.getElem?_eq_some_iff.1 hi).1
 have hl := (right_unit hR hu).1.2.2.2.2.2.2
 refine ⟨by omega, ?_⟩
 by_cases hlast : k = u.ins.length - 1
 ·subst hlast
  unfold lastOp at hl
  rw [hi] at hl
  dsimp only at hl
  exact absurd hl (by intro h; rcases h with h | h | h <;> omega)
 ·omega
theorem MsOk.mk2 {t : RTg} {M M' : Ms} {f f' : Fr} {r : List Fr} (hM : MsOk t M) (hfs : M.fs = f :: r) (hfs' : M'.fs = f' :: r) (hin : f'.into = f.into) (hf : ∃ u, FrOk t f' u) (hg : M'.gl.length = M.gl.length) : MsOk t M' := by
 refine ⟨fun g hg' => ?_, fun k g h h1 h2 => ?_, ?_, hg.trans hM.gl, fun _ => by rw [hfs']; simp⟩
 ·rw [hfs'] at hg'
  rcases List.mem_cons.1 hg' with rfl | hg'
  ·exact hf
  ·exact hM.fr g (by rw [hfs]; exact List.mem_cons_of_mem _ hg')
 ·rw [hfs'] at h1 h2
  cases k with
  | zero =>
   simp only [List.getElem?_cons_zero, Option.some.injEq] at h1
   subst h1
   rw [hin]
   exact hM.into 0 f h (by rw [hfs]; rfl) (by rw [hfs]; simpa using h2)
  | succ k => exact hM.into (k + 1) g h (by rw [hfs]; simpa using h1) (by rw [hfs]; simpa using h2)
 ·have := hM.deep
  rw [hfs] at this
  rw [hfs']; simpa using this
structure Next (t : RTg) (M : Ms) (f : Fr) (r : List Fr) (u : Unt) (i : Ins) : Prop where
 fs : M.fs = f :: r
 unit : gt t.units f.u = some u
 ins : gt u.ins f.pc = some i
theorem MsOk.nextOf {t : RTg} {M : Ms} (hM : MsOk t M) (he : M.en = 0) : ∃ f r u i, Next t M f r u i ∧ M.next t = some (f, i) := by
 cases hfs : M.fs with
 | nil => exact absurd hfs (hM.en he)
 | cons f r =>
  obtain ⟨u, h1, h2, h3⟩ := hM.fr f (by rw [hfs]; simp)
  obtain ⟨i, h4, _⟩ := gt_in h3
  exact ⟨f, r, u, i, ⟨hfs, h1, h4⟩, by unfold Ms.next; rw [hfs]; simp only; rw [h1]; simp only; rw [h4]⟩
def Ms.pre (M : Ms) (f : Fr) : Ms := { M with steps := M.steps + 1, fs := { f with pc := f.pc + 1 } :: M.fs.tail }
theorem step_next {t : RTg} {G : List Int} {M : Ms} {f : Fr} {i : Ins} (h : M.next t = some (f, i)) : M.step t G = ((M.pre f).go t G { f with pc := f.pc + 1 } i).less t := by unfold Ms.step; rw [h]; rfl
theorem less_fs (M : Ms) (t : RTg) : (M.less t).fs = M.fs ∧ (M.less t).gl = M.gl ∧ (M.less t).en = M.en ∧ (M.less t).tb = M.tb ∧ (M.less t).out = M.out ∧ (M.less t).steps = M.steps ∧ (M.less t).inp = M.inp ∧ (M.less t).code = M.code := by
 unfold Ms.less
 split <;> exact ⟨rfl, rfl, rfl, rfl, rfl, rfl, rfl, rfl⟩
theorem argsV_len (f : Fr) (i : Ins) (n : Nat) (h : i.args.length ≤ n) : (argsV f i n).length = n := by unfold argsV; rw [List.length_append, List.length_map, List.length_drop, List.length_replicate]; omega
theorem MsOk.less {t : RTg} {M : Ms} (h : MsOk t M) : MsOk t (M.less t) := by
 obtain ⟨h1, h2, h3, _⟩ := less_fs M t
 exact ⟨by rw [h1]; exact h.fr, by rw [h1]; exact h.into, by rw [h1]; exact h.deep, by rw [h2]; exact h.gl, by rw [h3, h1]; exact h.en⟩
theorem MsOk.go {t : RTg} {G : List Int} (hR : RightP t) {M : Ms} (hM : MsOk t M) {f : Fr} {r : List Fr} {u : Unt} {i : Ins} (hn : Next t M f r u i) : MsOk t ((M.pre f).go t G { f with pc := f.pc + 1 } i) := by
 obtain ⟨hfs, hu, hi⟩ := hn
 obtain ⟨u', h1, h2, h3⟩ := hM.fr f (by rw [hfs]; simp)
 obtain rfl : u' = u := by rw [hu] at h1; exact (Option.some.inj h1).symm
 have hvl := h2
 have hum : u' ∈ t.units := gt_mem hu
 have hv := right_ins hR hum (gt_mem hi)
 obtain ⟨pn, hpc, hpl, hpi⟩ := gt_some hi
 have hpre : (M.pre f).fs = { f with pc := f.pc + 1 } :: r := by show _ :: M.fs.tail = _; rw [hfs]; rfl
 have hnx : i.op ≠ 16 → i.op ≠ 17 → i.op ≠ 18 → RtM.Place u' (f.pc + 1) := fun a b c => by rw [hpc]; exact next_place hR hum hpi a b c
 have hgl : (M.pre f).gl.length = M.gl.length := rfl
 by_cases h16 : i.op = 16
 ·rw [go16 h16]
  exact hM.mk2 (M' := (M.pre f).top _) (f' := { f with pc := i.n }) hfs (by show _ :: (M.pre f).fs.tail = _; rw [hpre]; rfl) rfl ⟨u', hu, h2, hv.go (.inl h16)⟩ rfl
 by_cases h17 : i.op = 17
 ·rw [go17 h17]
  refine hM.mk2 (M' := (M.pre f).top _) (f' := { f with pc := if lkv f.vars i.a ≠ 0 then i.n else i.c }) hfs (by show _ :: (M.pre f).fs.tail = _; rw [hpre]; rfl) rfl ⟨u', hu, h2, ?_⟩ rfl
  show RtM.Place u' (if _ then _ else _)
  split
  ·exact hv.go (.inr h17)
  ·exact hv.els h17
 by_cases h18 : i.op = 18
 ·rw [go18 h18]
  unfold Ms.ret
  rw [hpre]
  cases r with
  | nil =>
   show MsOk t (({ (M.pre f) with fs := [] } : Ms).ends 1 0)
   refine ⟨fun g hg => ?_, fun k g h h1 => ?_, Nat.zero_le _, hM.gl, fun h => ?_⟩
   ·have hg : g ∈ ([] : List Fr) := hg
    cases hg
   ·have h1 : ([] : List Fr)[k]? = some g := h1
    simp at h1
   ·have h : (1 : Int) = 0 := h
    omega
  | cons h r =>
   have hh := hM.fr h (by rw [hfs]; simp)
   have hdeep := hM.deep
   rw [hfs] at hdeep
   have key : ∀ h', Like h h' → MsOk t { (M.pre f) with fs := h' :: r } := fun h' hl => by
    refine ⟨fun g hg => ?_, fun k g q h1 h2 => ?_, ?_, hM.gl, fun _ => by simp⟩
    ·rcases List.mem_cons.1 hg with rfl | hg
     ·obtain ⟨uh, a, b, c⟩ := hh; exact ⟨uh, FrOk.like hl a b c⟩
     ·exact hM.fr g (by rw [hfs]; simp [hg])
    ·cases k with
     | zero =>
      simp only [List.getElem?_cons_zero, Option.some.injEq] at h1
      subst h1
      rw [hl.into]
      exact hM.into 1 h q (by rw [hfs]; rfl) (by rw [hfs]; simpa using h2)
     | succ k => exact hM.into (k + 2) g q (by rw [hfs]; simpa using h1) (by rw [hfs]; simpa using h2)
    ·simp at hdeep ⊢; omega
   show MsOk t { (M.pre f) with fs := _ :: r }
   refine key _ ?_
   split
   ·exact like_var h _ _
   ·exact Like.refl h
 by_cases h13 : i.op = 13
 ·rw [go13 h13]
  unfold Ms.call
  have hst : MsOk t (M.pre f) := hM.mk2 hfs hpre rfl ⟨u', hu, h2, hnx h16 h17 h18⟩ rfl
  split
  ·have := Stays.trap hpre 6
   obtain ⟨f', e1, e2⟩ := this.fs
   exact hst.mk2 hpre e1 e2.into ⟨u', FrOk.like e2 hu h2 (hnx h16 h17 h18)⟩ this.gl
  ·rename_i hdp
   obtain ⟨g, hg, _, hal, _, hia, _⟩ := call_v (hv.call h13)
   rw [hg]
   dsimp only
   split
   ·exact ⟨hst.fr, hst.into, hst.deep, hst.gl, fun h => by cases h⟩
   ·refine ⟨fun q hq => ?_, fun k q h h1 h2 => ?_, ?_, hM.gl, fun _ => by simp⟩
    ·rcases List.mem_cons.1 hq with rfl | hq
     ·have hgm := (right_unit hR (gt_mem hg)).1.2.2.2.1
      refine ⟨g, hg, argsV_len _ _ _ hal, ?_⟩
      have : g.ins.length ≠ 0 := fun h => hgm (List.length_eq_zero_iff.1 h)
      exact ⟨by show (0 : Int) ≤ 0; omega, by show (0 : Int) < _; omega⟩
     ·exact hst.fr q hq
    ·cases k with
     | zero =>
      simp only [List.getElem?_cons_zero, Option.some.injEq] at h1
      subst h1
      rw [hpre] at h2
      simp only [List.getElem?_cons_succ, List.getElem?_cons_zero, Option.some.injEq] at h2
      subst h2
      rcases hia with h | h
      ·exact .inl h
      ·exact .inr (vok (u := u') (f := { f with pc := f.pc + 1 }) hvl h)
     | succ k => exact hst.into k q h (by simpa using h1) (by simpa using h2)
    ·show (M.pre f).fs.length + 1 ≤ 40
     omega
 ·have := go_stays (t := t) (G := G) hpre hv.op.1 hv.op.2 h16 h17 h13 h18
  obtain ⟨f', e1, e2⟩ := this.fs
  exact hM.mk2 hfs e1 e2.into ⟨u', FrOk.like e2 hu h2 (hnx h16 h17 h18)⟩ this.gl
theorem MsOk.step {t : RTg} {G : List Int} (hR : RightP t) {M : Ms} (hM : MsOk t M) (he : M.en = 0) : MsOk t (M.step t G) := by
 obtain ⟨f, r, u, i, hn, h⟩ := hM.nextOf he
 rw [step_next h]
 exact (hM.go hR hn).less
end Go.Proofs.YtomadjefdghliaaGreat
namespace Go.Proofs.YtomadjefdghliaaGreat
open Go Go.RR Go.RX Go.GX Go.Api Go.RtM
attribute [local irreducible] wpList Code.wp wpPlan Exit.then Exit.inBlock bodyPost NoPanic Went GX.Post GX.Again GX.Meet GX.RowR GX.Own GX.Owns GX.Box GX.Sl GX.Pt GX.Ag GX.MapR GX.Star GX.Kept GX.Pin wpT GoK AtEnd Both
def fnV (n : Nat) : Value := .func (.func n) #[] #[]
def opsF : Int → Option Value := RX.upd (RX.upd (RX.upd (RX.upd (RX.upd (RX.upd (RX.upd (RX.upd (RX.upd (RX.upd (RX.upd (RX.upd (RX.upd (RX.upd (RX.upd (RX.upd (RX.upd (RX.upd (RX.upd (RX.upd (RX.upd (RX.upd (fun _ => none) 1 (fnV 43)) 2 (fnV 44)) 3 (fnV 45)) 4 (fnV 46)) 5 (fnV 47)) 6 (fnV 48)) 7 (fnV 49)) 8 (fnV 50)) 9 (fnV 51)) 10 (fnV 52)) 11 (fnV 53)) 12 (fnV 54)) 13 (fnV 55)) 14 (fnV 56)) 15 (fnV 57)) 16 (fnV 58)) 17 (fnV 59)) 18 (fnV 60)) 19 (fnV 61)) 20 (fnV 62)) 21 (fnV 63)) 22 (fnV 64)
theorem steps_spec : Does Tryz.prog 20 [] [] [] (fun b : Nat => .map (some b)) (fun _ => []) (fun b => [GX.MapR b opsF]) := by
 refine enter Tryz.func20 rfl Tryz.ntmps20 rfl fun _ => ?_
 refine GX.wp_R ?_; intros
 refine GX.o (muI ?_)
 refine GX.o (muI ?_)
 refine GX.o (muI ?_)
 refine GX.o (muI ?_)
 refine GX.o (muI ?_)
 refine GX.o (muI ?_)
 refine GX.o (muI ?_)
 refine GX.o (muI ?_)
 refine GX.o (muI ?_)
 refine GX.o (muI ?_)
 refine GX.o (muI ?_)
 refine GX.o (muI ?_)
 refine GX.o (muI ?_)
 refine GX.o (muI ?_)
 refine GX.o (muI ?_)
 refine GX.o (muI ?_)
 refine GX.o (muI ?_)
 refine GX.o (muI ?_)
 refine GX.o (muI ?_)
 refine GX.o (muI ?_)
 refine GX.o (muI ?_)
 refine GX.o (muI ?_)
 refine GX.wp_R ?_; intros
 refine GX.nmM 0 ?_
 rintro bl rfl
 exact rt1 bl rfl (h2 := by unfold opsF fnV; exact GX.sA)
def adrs : List FrC → List (Option Addr)
 | [] => []
 | x :: xs => adrs xs ++ [some ⟨x.bl, 0, none⟩]
theorem adrs_len : ∀ xs : List FrC, (adrs xs).length = xs.length
 | [] => rfl
 | x :: xs => by show (adrs xs ++ _).length = _; rw [List.length_append, adrs_len xs]; rfl
def frs : List FrC → List Fr → List Res
 | x :: xs, f :: fs => [RowR x.bl 93 [.int .i64 f.u, .int .i64 f.pc, .slice (some ⟨x.vb, 0, none⟩) x.n x.n, .int .i64 f.into, .map (some x.mb)], GX.Own 3 Ty.int (some ⟨x.vb, 0, none⟩) x.n f.vars, GX.MapR x.mb x.mp] ++ frs xs fs
 | _, _ => []
def FrsAt : List FrC → List Fr → Prop
 | [], [] => True
 | x :: xs, f :: fs => (f.vars.length = x.n ∧ RegsAt x f) ∧ FrsAt xs fs
 | _, _ => False
theorem FrsAt.len : ∀ {xs : List FrC} {fs : List Fr}, FrsAt xs fs → xs.length = fs.length
 | [], [], _ => rfl
 | x :: xs, f :: fs, h => by rw [List.length_cons, List.length_cons, FrsAt.len h.2]
structure PS where
 v : MV
 xs : List FrC
 c : TabC
structure MInv (t : RTg) (S : PS) (M : Ms) : Prop where
 tab : TInv S.c M.tb
 nf : S.v.nf = S.xs.length
 fr : FrsAt S.xs M.fs
 en : S.v.en = M.en
 code : S.v.code = M.code
 steps : S.v.steps = M.steps
 slack : S.v.slack = M.slack
 no : S.v.no = M.out.length
 ni : S.v.ni = M.inp.length
 bd : S.v.bound = bound t M.fs
theorem MInv.keep {t : RTg} {v v' : MV} {x x' : FrC} {xs : List FrC} {c c' : TabC} {M M' : Ms} {f f' : Fr} {r : List Fr} (h : MInv t ⟨v, x :: xs, c⟩ M) (hM : M.fs = f :: r) (hM' : M'.fs = f' :: r) (hu : f'.u = f.u) (hv : f'.vars.length = f.vars.length) (hx : x'.n = x.n) (hr : RegsAt x' f') (hT : TInv c' M'.tb) (hnf : v'.nf = v.nf) (hbd : v'.bound = v.bound) (hen : v'.en = M'.en) (hcode : v'.code = M'.code) (hsteps : v'.steps = M'.steps) (hslack : v'.slack = M'.slack) (hno : v'.no = M'.out.length) (hni : v'.ni = M'.inp.length) : MInv t ⟨v', x' :: xs, c'⟩ M' := by
 have h1 := h.fr
 rw [hM] at h1
 refine ⟨hT, hnf.trans h.nf, ?_, hen, hcode, hsteps, hslack, hno, hni, ?_⟩
 ·rw [hM']; exact ⟨⟨hv.trans (h1.1.1.trans hx.symm), hr⟩, h1.2⟩
 ·show v'.bound = _
  have := h.bd
  rw [hM] at this
  rw [hbd, hM']
  have this : v.bound = bound t (f :: r) := this
  rw [this]
  unfold bound
  rw [List.map_cons, List.map_cons, show ownsN t f' = ownsN t f by unfold ownsN; rw [hu]]
theorem toMCH {t : RTg} {p : Nat} {k : MK} {v : MV} {x : FrC} {xs : List FrC} {f : Fr} {r : List Fr} {c : TabC} {O L : List Int} : Turn [RowR p 57 [.slice k.aC t.classes.length k.cC, .slice k.aG t.globals.length k.cG, .slice k.aU t.units.length k.cU, .int .i64 t.main, .slice k.aL (glob t).length k.cL, .pointer (some ⟨k.tp, 0, none⟩), .int .i64 1, .slice v.ai v.ni v.ci, .slice (some ⟨k.gb, 0, none⟩) t.globals.length t.globals.length, .slice v.af v.nf v.cf, .int .i64 v.bound, .map (some k.om), .int .i64 v.en, .int .i64 v.code, .slice v.ao v.no v.co, .int .i64 v.steps, .int .i64 0, .int .i64 0, .int .i64 0, .int .i64 0, .int .i64 v.slack, .int .i64 0], GX.Own 60 Ty.ptr v.af v.cf ((adrs xs) ++ [some ⟨x.bl, 0, none⟩]), RowR x.bl 93 [.int .i64 f.u, .int .i64 f.pc, .slice (some ⟨x.vb, 0, none⟩) x.n x.n, .int .i64 f.into, .map (some x.mb)], GX.Own 3 Ty.int (some ⟨x.vb, 0, none⟩) x.n f.vars, GX.MapR x.mb x.mp, GX.Star (frs xs r), RowR k.tp 86 [.slice c.aR c.R.length c.cR, .slice c.aL c.L.length c.cL, .int .i64 c.gone, .int .i64 c.peak, .int .i64 c.many, .int .i64 c.most], GX.Own 90 tyRegion c.aR c.cR c.R, GX.Own 148 tyThing c.aL c.cL (c.L.map thg), Owns 3 Ty.int (c.L.map (fun x : Th => x.2)), GX.Own 3 Ty.int v.ao v.co O, GX.Own 3 Ty.int (some ⟨k.gb, 0, none⟩) t.globals.length L, GX.MapR k.om opsF] [RowR p 57 [.slice k.aC t.classes.length k.cC, .slice k.aG t.globals.length k.cG, .slice k.aU t.units.length k.cU, .int .i64 t.main, .slice k.aL (glob t).length k.cL, .pointer (some ⟨k.tp, 0, none⟩), .int .i64 1, .slice v.ai v.ni v.ci, .slice (some ⟨k.gb, 0, none⟩) t.globals.length t.globals.length, .slice v.af v.nf v.cf, .int .i64 v.bound, .map (some k.om), .int .i64 v.en, .int .i64 v.code, .slice v.ao v.no v.co, .int .i64 v.steps, .int .i64 0, .int .i64 0, .int .i64 0, .int .i64 0, .int .i64 v.slack, .int .i64 0], GX.Own 60 Ty.ptr v.af v.cf (adrs (x :: xs)), GX.Star (frs (x :: xs) (f :: r)), RowR k.tp 86 [.slice c.aR c.R.length c.cR, .slice c.aL c.L.length c.cL, .int .i64 c.gone, .int .i64 c.peak, .int .i64 c.many, .int .i64 c.most], GX.Own 90 tyRegion c.aR c.cR c.R, GX.Own 148 tyThing c.aL c.cL (c.L.map thg), Owns 3 Ty.int (c.L.map (fun x : Th => x.2)), GX.Own 3 Ty.int v.ao v.co O, GX.Own 3 Ty.int (some ⟨k.gb, 0, none⟩) t.globals.length L, GX.MapR k.om opsF] := by
 rw [show frs (x :: xs) (f :: r) = [RowR x.bl 93 [.int .i64 f.u, .int .i64 f.pc, .slice (some ⟨x.vb, 0, none⟩) x.n x.n, .int .i64 f.into, .map (some x.mb)], GX.Own 3 Ty.int (some ⟨x.vb, 0, none⟩) x.n f.vars, GX.MapR x.mb x.mp] ++ frs xs r from rfl, show adrs (x :: xs) = adrs xs ++ [some ⟨x.bl, 0, none⟩] from rfl]
 exact (Turn.sel (hp2 := [RowR x.bl 93 [.int .i64 f.u, .int .i64 f.pc, .slice (some ⟨x.vb, 0, none⟩) x.n x.n, .int .i64 f.into, .map (some x.mb)], GX.Own 3 Ty.int (some ⟨x.vb, 0, none⟩) x.n f.vars, GX.MapR x.mb x.mp] ++ (GX.Star (frs xs r) :: [RowR p 57 [.slice k.aC t.classes.length k.cC, .slice k.aG t.globals.length k.cG, .slice k.aU t.units.length k.cU, .int .i64 t.main, .slice k.aL (glob t).length k.cL, .pointer (some ⟨k.tp, 0, none⟩), .int .i64 1, .slice v.ai v.ni v.ci, .slice (some ⟨k.gb, 0, none⟩) t.globals.length t.globals.length, .slice v.af v.nf v.cf, .int .i64 v.bound, .map (some k.om), .int .i64 v.en, .int .i64 v.code, .slice v.ao v.no v.co, .int .i64 v.steps, .int .i64 0, .int .i64 0, .int .i64 0, .int .i64 0, .int .i64 v.slack, .int .i64 0], GX.Own 60 Ty.ptr v.af v.cf (adrs xs ++ [some ⟨x.bl, 0, none⟩]), RowR k.tp 86 [.slice c.aR c.R.length c.cR, .slice c.aL c.L.length c.cL, .int .i64 c.gone, .int .i64 c.peak, .int .i64 c.many, .int .i64 c.most], GX.Own 90 tyRegion c.aR c.cR c.R, GX.Own 148 tyThing c.aL c.cL (c.L.map thg), Owns 3 Ty.int (c.L.map (fun x : Th => x.2)), GX.Own 3 Ty.int v.ao v.co O, GX.Own 3 Ty.int (some ⟨k.gb, 0, none⟩) t.globals.length L, GX.MapR k.om opsF])) GX.sA).trans (Turn.starI.trans (Turn.sel GX.sA))
abbrev OpOk (t : RTg) (p : Nat) (k : MK) (cs : List Value) (i : Ins) (v : MV) (x : FrC) (xs : List FrC) (f : Fr) (r : List Fr) (c : TabC) (M M' : Ms) (fid : FuncId) : Prop :=
 Does Tryz.prog fid [.pointer (some ⟨p, 0, none⟩), .agg cs.toArray] [Ag tyIns cs i, Sl Ty.int k.aL k.cL (glob t), Sl tyLayout k.aC k.cC t.classes, Sl tyUnt k.aU k.cU t.units, Sl Ty.int v.ai v.ci M.inp] [RowR p 57 [.slice k.aC t.classes.length k.cC, .slice k.aG t.globals.length k.cG, .slice k.aU t.units.length k.cU, .int .i64 t.main, .slice k.aL (glob t).length k.cL, .pointer (some ⟨k.tp, 0, none⟩), .int .i64 1, .slice v.ai v.ni v.ci, .slice (some ⟨k.gb, 0, none⟩) t.globals.length t.globals.length, .slice v.af v.nf v.cf, .int .i64 v.bound, .map (some k.om), .int .i64 v.en, .int .i64 v.code, .slice v.ao v.no v.co, .int .i64 v.steps, .int .i64 0, .int .i64 0, .int .i64 0, .int .i64 0, .int .i64 v.slack, .int .i64 0], GX.Own 60 Ty.ptr v.af v.cf ((adrs xs) ++ [some ⟨x.bl, 0, none⟩]), RowR x.bl 93 [.int .i64 f.u, .int .i64 f.pc, .slice (some ⟨x.vb, 0, none⟩) x.n x.n, .int .i64 f.into, .map (some x.mb)], GX.Own 3 Ty.int (some ⟨x.vb, 0, none⟩) x.n f.vars, GX.MapR x.mb x.mp, GX.Star (frs xs r), RowR k.tp 86 [.slice c.aR c.R.length c.cR, .slice c.aL c.L.length c.cL, .int .i64 c.gone, .int .i64 c.peak, .int .i64 c.many, .int .i64 c.most], GX.Own 90 tyRegion c.aR c.cR c.R, GX.Own 148 tyThing c.aL c.cL (c.L.map thg), Owns 3 Ty.int (c.L.map (fun x : Th => x.2)), GX.Own 3 Ty.int v.ao v.co M.out, GX.Own 3 Ty.int (some ⟨k.gb, 0, none⟩) t.globals.length M.gl, GX.MapR k.om opsF] (fun _ : { S : PS // MInv t S M' } => .tuple #[]) (fun s => [Sl Ty.int s.1.v.ai s.1.v.ci M'.inp])
  (fun s => [RowR p 57 [.slice k.aC t.classes.length k.cC, .slice k.aG t.globals.length k.cG, .slice k.aU t.units.length k.cU, .int .i64 t.main, .slice k.aL (glob t).length k.cL, .pointer (some ⟨k.tp, 0, none⟩), .int .i64 1, .slice s.1.v.ai s.1.v.ni s.1.v.ci, .slice (some ⟨k.gb, 0, none⟩) t.globals.length t.globals.length, .slice s.1.v.af s.1.v.nf s.1.v.cf, .int .i64 s.1.v.bound, .map (some k.om), .int .i64 s.1.v.en, .int .i64 s.1.v.code, .slice s.1.v.ao s.1.v.no s.1.v.co, .int .i64 s.1.v.steps, .int .i64 0, .int .i64 0, .int .i64 0, .int .i64 0, .int .i64 s.1.v.slack, .int .i64 0], GX.Own 60 Ty.ptr s.1.v.af s.1.v.cf (adrs s.1.xs), GX.Star (frs s.1.xs M'.fs), RowR k.tp 86 [.slice s.1.c.aR s.1.c.R.length s.1.c.cR, .slice s.1.c.aL s.1.c.L.length s.1.c.cL, .int .i64 s.1.c.gone, .int .i64 s.1.c.peak, .int .i64 s.1.c.many, .int .i64 s.1.c.most], GX.Own 90 tyRegion s.1.c.aR s.1.c.cR s.1.c.R, GX.Own 148 tyThing s.1.c.aL s.1.c.cL (s.1.c.L.map thg), Owns 3 Ty.int (s.1.c.L.map (fun x : Th => x.2)), GX.Own 3 Ty.int s.1.v.ao s.1.v.co M'.out, GX.Own 3 Ty.int (some ⟨k.gb, 0, none⟩) t.globals.length M'.gl, GX.MapR k.om opsF])
theorem op_keep {t : RTg} {p : Nat} {k : MK} {cs : List Value} {i : Ins} {v : MV} {x : FrC} {xs : List FrC} {f : Fr} {r : List Fr} {c : TabC} {M M' : Ms} {fid : FuncId} {ps : List Pf} {hp rest : List Res} {σ : Type} {ps' : σ → List Pf} {hp' rest' : σ → List Res}
  (h : Does Tryz.prog fid [.pointer (some ⟨p, 0, none⟩), .agg cs.toArray] ps hp (fun _ : σ => .tuple #[]) ps' hp') (v' : σ → MV) (x' : σ → FrC) (f' : Fr) (c' : σ → TabC) (I O L : List Int) (hI : ∀ s, MInv t ⟨v' s, x' s :: xs, c' s⟩ M') (hfs : M'.fs = f' :: r) (hi : M'.inp = I) (ho : M'.out = O) (hg : M'.gl = L)
  (hps : AllIn ps [Ag tyIns cs i, Sl Ty.int k.aL k.cL (glob t), Sl tyLayout k.aC k.cC t.classes, Sl tyUnt k.aU k.cU t.units, Sl Ty.int v.ai v.ci M.inp] := by exact GX.aA) (hsel : SelR hp [RowR p 57 [.slice k.aC t.classes.length k.cC, .slice k.aG t.globals.length k.cG, .slice k.aU t.units.length k.cU, .int .i64 t.main, .slice k.aL (glob t).length k.cL, .pointer (some ⟨k.tp, 0, none⟩), .int .i64 1, .slice v.ai v.ni v.ci, .slice (some ⟨k.gb, 0, none⟩) t.globals.length t.globals.length, .slice v.af v.nf v.cf, .int .i64 v.bound, .map (some k.om), .int .i64 v.en, .int .i64 v.code, .slice v.ao v.no v.co, .int .i64 v.steps, .int .i64 0, .int .i64 0, .int .i64 0, .int .i64 0, .int .i64 v.slack, .int .i64 0], GX.Own 60 Ty.ptr v.af v.cf ((adrs xs) ++ [some ⟨x.bl, 0, none⟩]), RowR x.bl 93 [.int .i64 f.u, .int .i64 f.pc, .slice (some ⟨x.vb, 0, none⟩) x.n x.n, .int .i64 f.into, .map (some x.mb)], GX.Own 3 Ty.int (some ⟨x.vb, 0, none⟩) x.n f.vars, GX.MapR x.mb x.mp, GX.Star (frs xs r), RowR k.tp 86 [.slice c.aR c.R.length c.cR, .slice c.aL c.L.length c.cL, .int .i64 c.gone, .int .i64 c.peak, .int .i64 c.many, .int .i64 c.most], GX.Own 90 tyRegion c.aR c.cR c.R, GX.Own 148 tyThing c.aL c.cL (c.L.map thg), Owns 3 Ty.int (c.L.map (fun x : Th => x.2)), GX.Own 3 Ty.int v.ao v.co M.out, GX.Own 3 Ty.int (some ⟨k.gb, 0, none⟩) t.globals.length M.gl, GX.MapR k.om opsF] rest := by exact GX.sA)
  (h1 : ∀ s, AllIn [Sl Ty.int (v' s).ai (v' s).ci I] (ps' s ++ [Ag tyIns cs i, Sl Ty.int k.aL k.cL (glob t), Sl tyLayout k.aC k.cC t.classes, Sl tyUnt k.aU k.cU t.units, Sl Ty.int v.ai v.ci M.inp]) := by intro _; exact GX.aA)
  (h2 : ∀ s, SelR [RowR p 57 [.slice k.aC t.classes.length k.cC, .slice k.aG t.globals.length k.cG, .slice k.aU t.units.length k.cU, .int .i64 t.main, .slice k.aL (glob t).length k.cL, .pointer (some ⟨k.tp, 0, none⟩), .int .i64 1, .slice (v' s).ai (v' s).ni (v' s).ci, .slice (some ⟨k.gb, 0, none⟩) t.globals.length t.globals.length, .slice (v' s).af (v' s).nf (v' s).cf, .int .i64 (v' s).bound, .map (some k.om), .int .i64 (v' s).en, .int .i64 (v' s).code, .slice (v' s).ao (v' s).no (v' s).co, .int .i64 (v' s).steps, .int .i64 0, .int .i64 0, .int .i64 0, .int .i64 0, .int .i64 (v' s).slack, .int .i64 0], GX.Own 60 Ty.ptr (v' s).af (v' s).cf ((adrs xs) ++ [some ⟨(x' s).bl, 0, none⟩]), RowR (x' s).bl 93 [.int .i64 f'.u, .int .i64 f'.pc, .slice (some ⟨(x' s).vb, 0, none⟩) (x' s).n (x' s).n, .int .i64 f'.into, .map (some (x' s).mb)], GX.Own 3 Ty.int (some ⟨(x' s).vb, 0, none⟩) (x' s).n f'.vars, GX.MapR (x' s).mb (x' s).mp, GX.Star (frs xs r), RowR k.tp 86 [.slice (c' s).aR (c' s).R.length (c' s).cR, .slice (c' s).aL (c' s).L.length (c' s).cL, .int .i64 (c' s).gone, .int .i64 (c' s).peak, .int .i64 (c' s).many, .int .i64 (c' s).most], GX.Own 90 tyRegion (c' s).aR (c' s).cR (c' s).R, GX.Own 148 tyThing (c' s).aL (c' s).cL ((c' s).L.map thg), Owns 3 Ty.int ((c' s).L.map (fun x : Th => x.2)), GX.Own 3 Ty.int (v' s).ao (v' s).co O, GX.Own 3 Ty.int (some ⟨k.gb, 0, none⟩) t.globals.length L, GX.MapR k.om opsF] (hp' s ++ rest) (rest' s) := by intro _; exact GX.sA) : OpOk t p k cs i v x xs f r c M M' fid := by
 subst hi ho hg
 exact Does.fitT h (fun s => ⟨⟨v' s, x' s :: xs, c' s⟩, hI s⟩) hps hsel (fun _ => rfl) h1 (fun s => by
  rw [hfs]
  exact (Turn.sel (h2 s)).trans toMCH)
section
variable {t : RTg} {p : Nat} {k : MK} {cs : List Value} {i : Ins} {v : MV} {x : FrC} {xs : List FrC} {f : Fr} {r : List Fr} {c : TabC} {M : Ms}
structure Pre (t : RTg) (v : MV) (x : FrC) (xs : List FrC) (f : Fr) (r : List Fr) (c : TabC) (M : Ms) (i : Ins) (u : Unt) : Prop where
 hI : MInv t ⟨v, x :: xs, c⟩ M
 fs : M.fs = f :: r
 hi : InsV t u i
 hv : f.vars.length = u.vars.length
 deep : M.fs.length ≤ 40
 gl : M.gl.length = t.globals.length
 hB : M.tb.B.length ≤ 900000000
 hL : M.tb.L.length ≤ 900000000
 hO : M.out.length ≤ 900000000
 hA : i.args.length ≤ 1000000
 into : f.into = -1 ∨ ∀ h r', r = h :: r' → Vok h f.into
theorem Pre.nf {u : Unt} (h : Pre t v x xs f r c M i u) : v.nf = (adrs xs).length + 1 := by rw [adrs_len]; exact h.hI.nf
theorem Pre.nb {u : Unt} (h : Pre t v x xs f r c M i u) : (adrs xs).length ≤ 900 := by
 have h1 := h.hI.fr.len
 have h2 := h.deep
 rw [adrs_len]
 simp at h1
 omega
theorem Pre.hl {u : Unt} (h : Pre t v x xs f r c M i u) : f.vars.length = x.n ∧ RegsAt x f := by
 have h1 := h.hI.fr
 rw [h.fs] at h1
 exact h1.1
theorem Pre.va {u : Unt} (h : Pre t v x xs f r c M i u) (ho : 1 ≤ i.op ∧ i.op ≤ 12 ∨ i.op = 14 ∨ i.op = 15 ∨ i.op = 17 ∨ i.op = 19 ∨ i.op = 20) : Vok f i.a := vok h.hv (h.hi.va ho)
theorem Pre.vb {u : Unt} (h : Pre t v x xs f r c M i u) (ho : 3 ≤ i.op ∧ i.op ≤ 10 ∨ i.op = 12) : Vok f i.b := vok h.hv (h.hi.vb ho)
theorem Pre.vc {u : Unt} (h : Pre t v x xs f r c M i u) (ho : i.op = 4 ∨ i.op = 8 ∨ i.op = 9) : Vok f i.c := vok h.hv (h.hi.vc ho)
theorem var_fs {M : Ms} {f : Fr} {r : List Fr} (h : M.fs = f :: r) (n y : Int) : (M.var f n y).fs = { f with vars := setv f.vars n y } :: r := by show _ :: M.fs.tail = _; rw [h]; rfl
theorem Pre.var {u : Unt} (h : Pre t v x xs f r c M i u) (n y : Int) : MInv t ⟨v, x :: xs, c⟩ (M.var f n y) :=
 h.hI.keep h.fs (var_fs h.fs n y) rfl (setv_len _ _ _) rfl h.hl.2 h.hI.tab rfl rfl h.hI.en h.hI.code h.hI.steps h.hI.slack h.hI.no h.hI.ni
theorem trapV_M {v : MV} {M : Ms} (c : Int) (h1 : v.en = M.en) (h2 : v.code = M.code) : (trapV v c).en = (M.trap c).en ∧ (trapV v c).code = (M.trap c).code := by
 unfold trapV Ms.trap
 split
 ·exact ⟨h1, h2⟩
 ·split <;> exact ⟨rfl, rfl⟩
theorem trapV_same (v : MV) (c : Int) : (trapV v c).bound = v.bound ∧ (trapV v c).steps = v.steps ∧ (trapV v c).slack = v.slack ∧ (trapV v c).no = v.no ∧ (trapV v c).ni = v.ni ∧ (trapV v c).nf = v.nf ∧ ((trapV v c).ai = v.ai ∧ (trapV v c).ci = v.ci ∧ (trapV v c).ao = v.ao ∧ (trapV v c).co = v.co) := by
 unfold trapV
 split
 ·exact ⟨rfl, rfl, rfl, rfl, rfl, rfl, rfl, rfl, rfl, rfl⟩
 ·split <;> exact ⟨rfl, rfl, rfl, rfl, rfl, rfl, rfl, rfl, rfl, rfl⟩
theorem Pre.trap {u : Unt} (h : Pre t v x xs f r c M i u) (e : Int) {T : Tb} {c' : TabC} (hT : TInv c' T) : MInv t ⟨trapV v e, x :: xs, c'⟩ (({ M with tb := T } : Ms).trap e) := by
 obtain ⟨a1, a2, a3, a4, a5, a6, _⟩ := trapV_same v e
 obtain ⟨b1, b2, b3, b4, b5, b6, b7⟩ := Ms.trap_fs ({ M with tb := T } : Ms) e
 obtain ⟨c1, c2⟩ := trapV_M (v := v) (M := { M with tb := T }) e h.hI.en h.hI.code
 refine h.hI.keep h.fs (b1.trans h.fs) rfl rfl rfl h.hl.2 (by rw [b5]; exact hT) a6 a1 c1 c2 ?_ ?_ ?_ ?_
 ·rw [a2, b6]; exact h.hI.steps
 ·rw [a3, b7]; exact h.hI.slack
 ·rw [a4, b4]; exact h.hI.no
 ·rw [a5, b3]; exact h.hI.ni
theorem op1 {u : Unt} (h : Pre t v x xs f r c M i u) (ho : i.op = 1) : OpOk t p k cs i v x xs f r c M (M.go t (glob t) f i) 43 := by
 rw [go1 ho]
 exact op_keep (constant_spec t p k v (adrs xs) x f i cs h.nf (by have := h.nb; omega) h.hl.1 (h.va (by omega))) (fun _ => v) (fun _ => x) _ (fun _ => c) M.inp M.out M.gl (fun _ => h.var _ _) (var_fs h.fs _ _) rfl rfl rfl
end
end Go.Proofs.YtomadjefdghliaaGreat
