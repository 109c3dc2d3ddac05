import Derived.Test.YtomadjefdghliaaGreatU20
namespace Go.Proofs.YtomadjefdghliaaGreat
open Go Go.RR Go.RX Go.GX Go.Api Go.RtM
attribute [local irreducible] wpList Code.wp wpPlan Exit.then Exit.inBlock bodyPost NoPanic Went GX.Post GX.Again GX.Meet GX.RowR GX.Own GX.Owns GX.Box GX.Sl GX.Pt GX.Ag GX.MapR GX.Star GX.Kept GX.Pin wpT GoK AtEnd Both
section
variable {t : RTg} {p : Nat} {k : MK} {cs : List Value} {i : Ins} {v : MV} {x : FrC} {xs : List FrC} {f : Fr} {r : List Fr} {c : TabC} {M : Ms}
theorem trapV_cases (v : MV) (c : Int) : c = 0 ∧ trapV v c = v ∧ (∀ M : Ms, M.trap c = M) ∨ c ≠ 0 ∧ ∃ e d, trapV v c = { v with en := e, code := d } ∧ ∀ M : Ms, M.trap c = M.ends e d := by
 by_cases h0 : c = 0
 ·exact .inl ⟨h0, if_pos h0, fun M => if_pos h0⟩
 refine .inr ⟨h0, ?_⟩
 by_cases h1 : c = -1
 ·exact ⟨4, 0, by unfold trapV; rw [if_neg h0, if_pos h1], fun M => by unfold Ms.trap; rw [if_neg h0, if_pos h1]⟩
 ·exact ⟨2, c, by unfold trapV; rw [if_neg h0, if_neg h1], fun M => by unfold Ms.trap; rw [if_neg h0, if_neg h1]⟩
theorem Pre.ends {u : Unt} (h : Pre t v x xs f r c M i u) {T : Tb} {c' : TabC} (hT : TInv c' T) (e d : Int) : MInv t ⟨{ v with en := e, code := d }, x :: xs, c'⟩ (({ M with tb := T } : Ms).ends e d) :=
 h.hI.keep h.fs h.fs rfl rfl rfl h.hl.2 hT rfl rfl rfl rfl h.hI.steps h.hI.slack h.hI.no h.hI.ni
theorem Pre.tab {u : Unt} (h : Pre t v x xs f r c M i u) {T : Tb} {c' : TabC} (hT : TInv c' T) : MInv t ⟨v, x :: xs, c'⟩ { M with tb := T } :=
 h.hI.keep h.fs h.fs rfl rfl rfl h.hl.2 hT rfl rfl h.hI.en h.hI.code h.hI.steps h.hI.slack h.hI.no h.hI.ni
theorem got_yes {q : Int × Int} (hq : q.2 = 0) (n : Int) : M.got f n q = M.var f n q.1 := if_pos hq
theorem got_no {q : Int × Int} (hq : q.2 ≠ 0) (n : Int) : M.got f n q = M.trap q.2 := if_neg hq
theorem lies_yes {G : List Int} {a cl n : Int} (hh : hasB M.tb.B (reg G f cl) = true) : M.lies G f a cl n = { M.var f a ((M.tb.L.length + 1 : Nat) : Int) with tb := M.tb.add (reg G f cl) n } := if_pos hh
theorem lies_no {G : List Int} {a cl n : Int} (hh : ¬ hasB M.tb.B (reg G f cl) = true) : M.lies G f a cl n = M.ends 4 0 := if_neg hh
theorem add_no_ {T : Tb} {r n : Int} (hh : ¬ hasB T.B r = true) : T.add r n = T := if_neg hh
theorem op2 {u : Unt} (h : Pre t v x xs f r c M i u) (ho : i.op = 2) : OpOk t p k cs i v x xs f r c M (M.go t (glob t) f i) 44 := by
 rw [go2 ho]
 exact op_keep (null_spec t p k v (adrs xs) x f i cs h.nf (by have := h.nb; omega) h.hl.1 (h.va (by omega))) (fun _ => v) (fun _ => x) _ (fun _ => c) M.inp M.out M.gl (fun _ => h.var _ _) (var_fs h.fs _ _) rfl rfl rfl
theorem op3 {u : Unt} (h : Pre t v x xs f r c M i u) (ho : i.op = 3) : OpOk t p k cs i v x xs f r c M (M.go t (glob t) f i) 45 := by
 rw [go3 ho]
 exact op_keep (copies_spec t p k v (adrs xs) x f i cs h.nf (by have := h.nb; omega) h.hl.1 (h.va (by omega)) (h.vb (by omega))) (fun _ => v) (fun _ => x) _ (fun _ => c) M.inp M.out M.gl (fun _ => h.var _ _) (var_fs h.fs _ _) rfl rfl rfl
theorem op5 {u : Unt} (h : Pre t v x xs f r c M i u) (ho : i.op = 5) : OpOk t p k cs i v x xs f r c M (M.go t (glob t) f i) 47 := by
 rw [go5 ho]
 exact op_keep (one_spec t p k v (adrs xs) x f i cs h.nf (by have := h.nb; omega) h.hl.1 (h.va (by omega)) (h.vb (by omega))) (fun _ => v) (fun _ => x) _ (fun _ => c) M.inp M.out M.gl (fun _ => h.var _ _) (var_fs h.fs _ _) rfl rfl rfl
theorem op4 {u : Unt} (h : Pre t v x xs f r c M i u) (ho : i.op = 4) : OpOk t p k cs i v x xs f r c M (M.go t (glob t) f i) 46 := by
 rw [go4 ho]
 have hc := two30_spec t p k v (adrs xs) x f i cs h.nf (by have := h.nb; omega) h.hl.1 (h.va (by omega)) (h.vb (by omega)) (h.vc (by omega))
 generalize bin i.n (lkv f.vars i.b) (lkv f.vars i.c) = q at hc ⊢
 obtain ⟨h0, e1, _⟩ | ⟨h0, e, d, e1, e2⟩ := trapV_cases v q.2
 ·rw [e1, if_pos h0] at hc
  rw [got_yes h0]
  exact op_keep hc (fun _ => v) (fun _ => x) _ (fun _ => c) M.inp M.out M.gl (fun _ => h.var _ _) (var_fs h.fs _ _) rfl rfl rfl
 ·rw [e1, if_neg h0] at hc
  rw [got_no h0, e2]
  exact op_keep hc (fun _ => { v with en := e, code := d }) (fun _ => x) f (fun _ => c) M.inp M.out M.gl (fun _ => h.ends h.hI.tab e d) h.fs rfl rfl rfl
theorem op6 {u : Unt} (h : Pre t v x xs f r c M i u) (ho : i.op = 6) : OpOk t p k cs i v x xs f r c M (M.go t (glob t) f i) 48 := by
 rw [go6 ho]
 have hc := loads30_spec t p k v (adrs xs) x f i cs c M.tb h.hI.tab (by have := h.hL; omega) h.nf (by have := h.nb; omega) h.hl.1 (h.va (by omega)) (h.vb (by omega))
 generalize loadP M.tb.B M.tb.L (lkv f.vars i.b) i.c = q at hc ⊢
 obtain ⟨h0, e1, _⟩ | ⟨h0, e, d, e1, e2⟩ := trapV_cases v q.2
 ·rw [e1, if_pos h0] at hc
  rw [got_yes h0]
  exact op_keep hc (fun _ => v) (fun _ => x) _ (fun _ => c) M.inp M.out M.gl (fun _ => h.var _ _) (var_fs h.fs _ _) rfl rfl rfl
 ·rw [e1, if_neg h0] at hc
  rw [got_no h0, e2]
  exact op_keep hc (fun _ => { v with en := e, code := d }) (fun _ => x) f (fun _ => c) M.inp M.out M.gl (fun _ => h.ends h.hI.tab e d) h.fs rfl rfl rfl
theorem op8 {u : Unt} (h : Pre t v x xs f r c M i u) (ho : i.op = 8) : OpOk t p k cs i v x xs f r c M (M.go t (glob t) f i) 50 := by
 rw [go8 ho]
 have hc := item_spec t p k v (adrs xs) x f i cs c M.tb h.hI.tab (by have := h.hL; omega) h.nf (by have := h.nb; omega) h.hl.1 (h.va (by omega)) (h.vb (by omega)) (h.vc (by omega))
 generalize loadP M.tb.B M.tb.L (lkv f.vars i.b) (lkv f.vars i.c) = q at hc ⊢
 obtain ⟨h0, e1, _⟩ | ⟨h0, e, d, e1, e2⟩ := trapV_cases v q.2
 ·rw [e1, if_pos h0] at hc
  rw [got_yes h0]
  exact op_keep hc (fun _ => v) (fun _ => x) _ (fun _ => c) M.inp M.out M.gl (fun _ => h.var _ _) (var_fs h.fs _ _) rfl rfl rfl
 ·rw [e1, if_neg h0] at hc
  rw [got_no h0, e2]
  exact op_keep hc (fun _ => { v with en := e, code := d }) (fun _ => x) f (fun _ => c) M.inp M.out M.gl (fun _ => h.ends h.hI.tab e d) h.fs rfl rfl rfl
theorem op10 {u : Unt} (h : Pre t v x xs f r c M i u) (ho : i.op = 10) : OpOk t p k cs i v x xs f r c M (M.go t (glob t) f i) 52 := by
 rw [go10 ho]
 have hc := length30_spec t p k v (adrs xs) x f i cs c M.tb h.hI.tab (by have := h.hL; omega) h.nf (by have := h.nb; omega) h.hl.1 (h.va (by omega)) (h.vb (by omega))
 generalize lenP M.tb.B M.tb.L (lkv f.vars i.b) = q at hc ⊢
 obtain ⟨h0, e1, _⟩ | ⟨h0, e, d, e1, e2⟩ := trapV_cases v q.2
 ·rw [e1, if_pos h0] at hc
  rw [got_yes h0]
  exact op_keep hc (fun _ => v) (fun _ => x) _ (fun _ => c) M.inp M.out M.gl (fun _ => h.var _ _) (var_fs h.fs _ _) rfl rfl rfl
 ·rw [e1, if_neg h0] at hc
  rw [got_no h0, e2]
  exact op_keep hc (fun _ => { v with en := e, code := d }) (fun _ => x) f (fun _ => c) M.inp M.out M.gl (fun _ => h.ends h.hI.tab e d) h.fs rfl rfl rfl
theorem op7 {u : Unt} (h : Pre t v x xs f r c M i u) (ho : i.op = 7) : OpOk t p k cs i v x xs f r c M (M.go t (glob t) f i) 49 := by
 rw [go7 ho]
 have hc := keep_spec t p k v (adrs xs) x f i cs c M.tb h.hI.tab (by have := h.hL; omega) h.nf (by have := h.nb; omega) h.hl.1 (h.va (by omega)) (h.vb (by omega))
 generalize (loadP M.tb.B M.tb.L (lkv f.vars i.a) i.c).2 = e0 at hc ⊢
 obtain ⟨h0, e1, e2⟩ | ⟨h0, e, d, e1, e2⟩ := trapV_cases v e0
 ·rw [e1] at hc
  rw [e2]
  exact op_keep hc (fun _ => v) (fun _ => x) f (fun s => s.1) M.inp M.out M.gl (fun s => h.tab s.2) h.fs rfl rfl rfl
 ·rw [e1] at hc
  rw [e2]
  exact op_keep hc (fun _ => { v with en := e, code := d }) (fun _ => x) f (fun s => s.1) M.inp M.out M.gl (fun s => h.ends s.2 e d) h.fs rfl rfl rfl
theorem op9 {u : Unt} (h : Pre t v x xs f r c M i u) (ho : i.op = 9) : OpOk t p k cs i v x xs f r c M (M.go t (glob t) f i) 51 := by
 rw [go9 ho]
 have hc := lay_spec t p k v (adrs xs) x f i cs c M.tb h.hI.tab (by have := h.hL; omega) h.nf (by have := h.nb; omega) h.hl.1 (h.va (by omega)) (h.vb (by omega)) (h.vc (by omega))
 generalize (loadP M.tb.B M.tb.L (lkv f.vars i.a) (lkv f.vars i.b)).2 = e0 at hc ⊢
 obtain ⟨h0, e1, e2⟩ | ⟨h0, e, d, e1, e2⟩ := trapV_cases v e0
 ·rw [e1] at hc
  rw [e2]
  exact op_keep hc (fun _ => v) (fun _ => x) f (fun s => s.1) M.inp M.out M.gl (fun s => h.tab s.2) h.fs rfl rfl rfl
 ·rw [e1] at hc
  rw [e2]
  exact op_keep hc (fun _ => { v with en := e, code := d }) (fun _ => x) f (fun s => s.1) M.inp M.out M.gl (fun s => h.ends s.2 e d) h.fs rfl rfl rfl
theorem op11 {u : Unt} (h : Pre t v x xs f r c M i u) (ho : i.op = 11) : OpOk t p k cs i v x xs f r c M (M.go t (glob t) f i) 53 := by
 rw [go11 ho]
 obtain ⟨L, hL⟩ := h.hi.cls (.inl ho)
 obtain ⟨j, hj, _, hjL⟩ := gt_some hL
 rw [hL]
 dsimp only
 have hc := record30_spec t p k v (adrs xs) x f i cs j L hj hjL c M.tb h.hI.tab (by have := h.hB; omega) (by have := h.hL; omega) h.hl.2 h.nf (by have := h.nb; omega) h.hl.1 (h.va (by omega))
 by_cases hh : hasB M.tb.B (reg (glob t) f i.n) = true
 ·rw [if_pos hh, if_pos hh] at hc
  rw [lies_yes hh]
  refine op_keep hc (fun _ => v) (fun _ => x) { f with vars := setv f.vars i.a ((M.tb.L.length + 1 : Nat) : Int) } (fun s => s.1) M.inp M.out M.gl (fun s => ?_) (var_fs h.fs _ _) rfl rfl rfl
  exact h.hI.keep h.fs (var_fs h.fs _ _) rfl (setv_len _ _ _) rfl h.hl.2 s.2 rfl rfl h.hI.en h.hI.code h.hI.steps h.hI.slack h.hI.no h.hI.ni
 ·rw [if_neg hh, if_neg hh] at hc
  rw [lies_no hh]
  refine op_keep hc (fun _ => { v with en := 4, code := 0 }) (fun _ => x) f (fun s => s.1) M.inp M.out M.gl (fun s => ?_) h.fs rfl rfl rfl
  obtain ⟨c2, h2⟩ := s
  rw [add_no_ hh] at h2
  exact h.ends h2 4 0
theorem op12 {u : Unt} (h : Pre t v x xs f r c M i u) (ho : i.op = 12) : OpOk t p k cs i v x xs f r c M (M.go t (glob t) f i) 54 := by
 rw [go12 ho]
 by_cases hz : lkv f.vars i.b < 0 ∨ 50 < lkv f.vars i.b
 ·rw [if_pos hz]
  have hc := array_no t p k v (adrs xs) x f i cs h.nf (by have := h.nb; omega) h.hl.1 (h.vb (by omega)) hz
  obtain ⟨h0, _⟩ | ⟨h0, e, d, e1, e2⟩ := trapV_cases v 4
  ·omega
  rw [e1] at hc
  rw [e2]
  exact op_keep hc (fun _ => { v with en := e, code := d }) (fun _ => x) f (fun _ => c) M.inp M.out M.gl (fun _ => h.ends h.hI.tab e d) h.fs rfl rfl rfl
 ·rw [if_neg hz]
  have hc := array30_spec t p k v (adrs xs) x f i cs c M.tb h.hI.tab (by have := h.hB; omega) (by have := h.hL; omega) h.hl.2 h.nf (by have := h.nb; omega) h.hl.1 (h.va (by omega)) (h.vb (by omega)) (by omega)
  by_cases hh : hasB M.tb.B (reg (glob t) f i.n) = true
  ·rw [if_pos hh, if_pos hh] at hc
   rw [lies_yes hh]
   refine op_keep hc (fun _ => v) (fun _ => x) { f with vars := setv f.vars i.a ((M.tb.L.length + 1 : Nat) : Int) } (fun s => s.1) M.inp M.out M.gl (fun s => ?_) (var_fs h.fs _ _) rfl rfl rfl
   exact h.hI.keep h.fs (var_fs h.fs _ _) rfl (setv_len _ _ _) rfl h.hl.2 s.2 rfl rfl h.hI.en h.hI.code h.hI.steps h.hI.slack h.hI.no h.hI.ni
  ·rw [if_neg hh, if_neg hh] at hc
   rw [lies_no hh]
   refine op_keep hc (fun _ => { v with en := 4, code := 0 }) (fun _ => x) f (fun s => s.1) M.inp M.out M.gl (fun s => ?_) h.fs rfl rfl rfl
   obtain ⟨c2, h2⟩ := s
   rw [add_no_ hh] at h2
   exact h.ends h2 4 0
theorem op14 {u : Unt} (h : Pre t v x xs f r c M i u) (ho : i.op = 14) : OpOk t p k cs i v x xs f r c M (M.go t (glob t) f i) 56 := by
 rw [go14 ho]
 cases hinp : M.inp with
 | nil =>
  dsimp only
  have hc := read_no t p k v i cs (by have := h.hI.ni; rw [hinp] at this; exact this)
  obtain ⟨h0, _⟩ | ⟨h0, e, d, e1, e2⟩ := trapV_cases v 5
  ·omega
  rw [e1] at hc
  rw [e2]
  exact op_keep hc (fun _ => { v with en := e, code := d }) (fun _ => x) f (fun _ => c) M.inp M.out M.gl (fun _ => h.ends h.hI.tab e d) h.fs rfl rfl rfl
 | cons y l =>
  dsimp only
  have hni : v.ni = l.length + 1 := by have := h.hI.ni; rw [hinp] at this; exact this
  refine op_keep (read_yes t p k v (adrs xs) x f i cs y l hni h.nf (by have := h.nb; omega) h.hl.1 (h.va (by omega))) (fun s => { v with ai := s.1, ni := l.length, ci := s.2 }) (fun _ => x) _ (fun _ => c) l M.out M.gl (fun s => ?_) (var_fs h.fs _ _) rfl rfl rfl (hps := by rw [hinp]; exact GX.aA) (h1 := fun _ => .cons .head .nil)
  exact h.hI.keep h.fs (var_fs h.fs _ _) rfl (setv_len _ _ _) rfl h.hl.2 h.hI.tab rfl rfl h.hI.en h.hI.code h.hI.steps h.hI.slack h.hI.no rfl
theorem op15 {u : Unt} (h : Pre t v x xs f r c M i u) (ho : i.op = 15) : OpOk t p k cs i v x xs f r c M (M.go t (glob t) f i) 57 := by
 rw [go15 ho]
 refine op_keep (prints_spec t p k v (adrs xs) x f i cs M.out h.hI.no (by have := h.hO; omega) h.nf (by have := h.nb; omega) h.hl.1 (h.va (by omega))) (fun s => { v with ao := s.1, no := M.out.length + 1, co := s.2 }) (fun _ => x) f (fun _ => c) M.inp (M.out ++ [lkv f.vars i.a]) M.gl (fun s => ?_) h.fs rfl rfl rfl
 exact h.hI.keep h.fs h.fs rfl rfl rfl h.hl.2 h.hI.tab rfl rfl h.hI.en h.hI.code h.hI.steps h.hI.slack (by show _ = (M.out ++ _).length; rw [List.length_append]; rfl) h.hI.ni
theorem op16 {u : Unt} (h : Pre t v x xs f r c M i u) (ho : i.op = 16) : OpOk t p k cs i v x xs f r c M (M.go t (glob t) f i) 58 := by
 rw [go16 ho]
 refine op_keep (jump_spec t p k v (adrs xs) x f i cs h.nf (by have := h.nb; omega) h.hl.1) (fun _ => v) (fun _ => x) { f with pc := i.n } (fun _ => c) M.inp M.out M.gl (fun s => ?_) (by show _ :: M.fs.tail = _; rw [h.fs]; rfl) rfl rfl rfl
 exact h.hI.keep h.fs (by show _ :: M.fs.tail = _; rw [h.fs]; rfl) (f' := { f with pc := i.n }) rfl rfl rfl h.hl.2 h.hI.tab rfl rfl h.hI.en h.hI.code h.hI.steps h.hI.slack h.hI.no h.hI.ni
theorem op17 {u : Unt} (h : Pre t v x xs f r c M i u) (ho : i.op = 17) : OpOk t p k cs i v x xs f r c M (M.go t (glob t) f i) 59 := by
 rw [go17 ho]
 refine op_keep (branch_spec t p k v (adrs xs) x f i cs h.nf (by have := h.nb; omega) h.hl.1 (h.va (by omega))) (fun _ => v) (fun _ => x) { f with pc := if lkv f.vars i.a ≠ 0 then i.n else i.c } (fun _ => c) M.inp M.out M.gl (fun s => ?_) (by show _ :: M.fs.tail = _; rw [h.fs]; rfl) rfl rfl rfl
 exact h.hI.keep h.fs (by show _ :: M.fs.tail = _; rw [h.fs]; rfl) (f' := { f with pc := if lkv f.vars i.a ≠ 0 then i.n else i.c }) rfl rfl rfl h.hl.2 h.hI.tab rfl rfl h.hI.en h.hI.code h.hI.steps h.hI.slack h.hI.no h.hI.ni
theorem op19 {u : Unt} (h : Pre t v x xs f r c M i u) (ho : i.op = 19) : OpOk t p k cs i v x xs f r c M (M.go t (glob t) f i) 61 := by
 rw [go19 ho]
 obtain ⟨g0, hg0⟩ := h.hi.glo (by omega)
 obtain ⟨j, hj, hjl, _⟩ := gt_some hg0
 have hjm : j < M.gl.length := by rw [h.gl]; exact hjl
 obtain ⟨y, hy⟩ := GX.get_lt hjm
 have e : lkv M.gl i.n = y := by unfold lkv; rw [hj, gt_nat, hy]; rfl
 rw [e]
 exact op_keep (get_spec t p k v (adrs xs) x f i cs M.gl j y h.gl hj hy h.nf (by have := h.nb; omega) h.hl.1 (h.va (by omega))) (fun _ => v) (fun _ => x) _ (fun _ => c) M.inp M.out M.gl (fun _ => h.var _ _) (var_fs h.fs _ _) rfl rfl rfl
theorem op20 {u : Unt} (h : Pre t v x xs f r c M i u) (ho : i.op = 20) : OpOk t p k cs i v x xs f r c M (M.go t (glob t) f i) 62 := by
 rw [go20 ho]
 obtain ⟨g0, hg0⟩ := h.hi.glo (by omega)
 obtain ⟨j, hj, hjl, _⟩ := gt_some hg0
 have hjm : j < M.gl.length := by rw [h.gl]; exact hjl
 refine op_keep (put_spec30 t p k v (adrs xs) x f i cs M.gl j h.gl hj hjm h.nf (by have := h.nb; omega) h.hl.1 (h.va (by omega))) (fun _ => v) (fun _ => x) f (fun _ => c) M.inp M.out (M.gl.set j (lkv f.vars i.a)) (fun s => ?_) h.fs rfl rfl (by show setv M.gl i.n _ = _; unfold setv; rw [hj, Int.toNat_natCast])
 exact h.hI.keep h.fs h.fs rfl rfl rfl h.hl.2 h.hI.tab rfl rfl h.hI.en h.hI.code h.hI.steps h.hI.slack h.hI.no h.hI.ni
theorem op21 {u : Unt} (h : Pre t v x xs f r c M i u) (ho : i.op = 21) : OpOk t p k cs i v x xs f r c M (M.go t (glob t) f i) 63 := by
 rw [go21 ho]
 have hc := create_spec t p k v (adrs xs) x f i cs c M.tb h.hI.tab (by have := h.hB; have := h.hA; omega) h.hl.2 h.nf (by have := h.nb; omega) h.hl.1
 by_cases hh : (crT i.args M.tb f.regs).2.2 = true
 ·rw [if_pos hh] at hc
  unfold Ms.regs
  rw [if_pos hh]
  refine op_keep hc (fun _ => v) (fun s => { x with mp := s.1.1 }) { f with regs := (crT i.args M.tb f.regs).2.1 } (fun s => s.1.2) M.inp M.out M.gl (fun s => ?_) (by show _ :: M.fs.tail = _; rw [h.fs]; rfl) rfl rfl rfl
  exact h.hI.keep h.fs (by show _ :: M.fs.tail = _; rw [h.fs]; rfl) (f' := { f with regs := (crT i.args M.tb f.regs).2.1 }) rfl rfl rfl s.2.2 s.2.1 rfl rfl h.hI.en h.hI.code h.hI.steps h.hI.slack h.hI.no h.hI.ni
 ·rw [if_neg hh] at hc
  unfold Ms.regs
  rw [if_neg hh]
  refine op_keep hc (fun _ => { v with en := 4, code := 0 }) (fun s => { x with mp := s.1.1 }) { f with regs := (crT i.args M.tb f.regs).2.1 } (fun s => s.1.2) M.inp M.out M.gl (fun s => ?_) (by show _ :: M.fs.tail = _; rw [h.fs]; rfl) rfl rfl rfl
  exact h.hI.keep h.fs (by show _ :: M.fs.tail = _; rw [h.fs]; rfl) (f' := { f with regs := (crT i.args M.tb f.regs).2.1 }) rfl rfl rfl s.2.2 s.2.1 rfl rfl rfl rfl h.hI.steps h.hI.slack h.hI.no h.hI.ni
theorem op22 {u : Unt} (h : Pre t v x xs f r c M i u) (ho : i.op = 22) : OpOk t p k cs i v x xs f r c M (M.go t (glob t) f i) 64 := by
 rw [go22 ho]
 have hc := remove_spec30 t p k v (adrs xs) x f i cs c M.tb h.hI.tab (by have := h.hB; omega) (by have := h.hL; omega) h.hl.2 h.nf (by have := h.nb; omega) h.hl.1
 by_cases hh : (rmT i.args M.tb f.regs).2.2 = true
 ·rw [if_pos hh] at hc
  unfold Ms.regs
  rw [if_pos hh]
  refine op_keep hc (fun _ => v) (fun s => { x with mp := s.1.1 }) { f with regs := (rmT i.args M.tb f.regs).2.1 } (fun s => s.1.2) M.inp M.out M.gl (fun s => ?_) (by show _ :: M.fs.tail = _; rw [h.fs]; rfl) rfl rfl rfl
  exact h.hI.keep h.fs (by show _ :: M.fs.tail = _; rw [h.fs]; rfl) (f' := { f with regs := (rmT i.args M.tb f.regs).2.1 }) rfl rfl rfl s.2.2 s.2.1 rfl rfl h.hI.en h.hI.code h.hI.steps h.hI.slack h.hI.no h.hI.ni
 ·rw [if_neg hh] at hc
  unfold Ms.regs
  rw [if_neg hh]
  refine op_keep hc (fun _ => { v with en := 4, code := 0 }) (fun s => { x with mp := s.1.1 }) { f with regs := (rmT i.args M.tb f.regs).2.1 } (fun s => s.1.2) M.inp M.out M.gl (fun s => ?_) (by show _ :: M.fs.tail = _; rw [h.fs]; rfl) rfl rfl rfl
  exact h.hI.keep h.fs (by show _ :: M.fs.tail = _; rw [h.fs]; rfl) (f' := { f with regs := (rmT i.args M.tb f.regs).2.1 }) rfl rfl rfl s.2.2 s.2.1 rfl rfl rfl rfl h.hI.steps h.hI.slack h.hI.no h.hI.ni
end
end Go.Proofs.YtomadjefdghliaaGreat
namespace Go.Proofs.YtomadjefdghliaaGreat
open Go.Api Go.RtM Go.RiseM
structure Grow (M M' : Ms) (n : Nat) : Prop where
 B : M'.tb.B.length ≤ M.tb.B.length + n
 L : M'.tb.L.length ≤ M.tb.L.length + 1
 O : M'.out.length ≤ M.out.length + 1
 st : M'.steps = M.steps
theorem Grow.of {M M' : Ms} {n : Nat} (h1 : M'.tb = M.tb) (h2 : M'.out = M.out) (h3 : M'.steps = M.steps) : Grow M M' n := ⟨by rw [h1]; omega, by rw [h1]; omega, by rw [h2]; omega, h3⟩
theorem crT_len : ∀ (l : List Int) (T : Tb) (m : Int → Int), (crT l T m).1.B.length ≤ T.B.length + l.length ∧ (crT l T m).1.L = T.L
 | [], T, m => ⟨Nat.le_refl _, rfl⟩
 | c :: l, T, m => by
  unfold crT
  split
  ·exact ⟨by dsimp only; omega, rfl⟩
  ·have h := crT_len l T.make (updI m c ((T.B.length + 1 : Nat) : Int))
   have e : T.make.B.length = T.B.length + 1 := by show (T.B ++ [true]).length = _; rw [List.length_append]; rfl
   rw [e] at h
   rw [List.length_cons]
   exact ⟨by omega, h.2⟩
theorem rem_len0 (T : Tb) (r : Int) : (T.rem r).B.length = T.B.length ∧ (T.rem r).L = T.L := by
 unfold Tb.rem
 split
 ·exact ⟨List.length_set, rfl⟩
 ·exact ⟨rfl, rfl⟩
theorem rmT_len : ∀ (l : List Int) (T : Tb) (m : Int → Int), (rmT l T m).1.B.length = T.B.length ∧ (rmT l T m).1.L = T.L
 | [], T, m => ⟨rfl, rfl⟩
 | c :: l, T, m => by
  unfold rmT
  split
  ·exact ⟨rfl, rfl⟩
  ·have h := rmT_len l (T.rem (m c)) (updI m c 0)
   have e := rem_len0 T (m c)
   exact ⟨h.1.trans e.1, h.2.trans e.2⟩
theorem Grow.trap (M : Ms) (c : Int) (n : Nat) : Grow M (M.trap c) n := by
 obtain ⟨_, _, _, h4, h5, h6, _⟩ := M.trap_fs c
 exact ⟨by rw [h5]; omega, by rw [h5]; omega, by rw [h4]; omega, h6⟩
theorem Grow.got (M : Ms) (f : Fr) (a : Int) (q : Int × Int) (n : Nat) : Grow M (M.got f a q) n := by
 unfold Ms.got
 split
 ·exact .of rfl rfl rfl
 ·exact .trap M _ n
theorem tput_len (T : Tb) (ref i v : Int) : (T.put ref i v).B = T.B ∧ (T.put ref i v).L.length = T.L.length := by
 refine ⟨rfl, ?_⟩
 have := congrArg List.length (putP_fst T.B T.L ref i v)
 simp only [List.length_map] at this
 exact this
theorem add_len (T : Tb) (r n : Int) : (T.add r n).B = T.B ∧ (T.add r n).L.length ≤ T.L.length + 1 := by
 unfold Tb.add
 split
 ·exact ⟨rfl, by dsimp only; rw [List.length_append]; exact Nat.le_refl _⟩
 ·exact ⟨rfl, by omega⟩
theorem Grow.lies (M : Ms) (G : List Int) (f : Fr) (a c m : Int) (n : Nat) : Grow M (M.lies G f a c m) n := by
 unfold Ms.lies
 split
 ·obtain ⟨h1, h2⟩ := add_len M.tb (reg G f c) m
  exact ⟨by show (M.tb.add _ _).B.length ≤ _; rw [h1]; omega, h2, Nat.le_succ _, rfl⟩
 ·exact ⟨by show M.tb.B.length ≤ _; omega, Nat.le_succ _, Nat.le_succ _, rfl⟩
theorem Grow.putT (M : Ms) (ref i v c : Int) (n : Nat) : Grow M (({ M with tb := M.tb.put ref i v } : Ms).trap c) n := by
 have h := Grow.trap ({ M with tb := M.tb.put ref i v } : Ms) c n
 obtain ⟨h1, h2⟩ := tput_len M.tb ref i v
 refine ⟨?_, ?_, h.O, h.st⟩
 ·have := h.B; dsimp only at this; rwa [h1] at this
 ·have := h.L; dsimp only at this; rwa [h2] at this
theorem Grow.regs (M : Ms) (f : Fr) (q : Tb × (Int → Int) × Bool) (n : Nat) (h1 : q.1.B.length ≤ M.tb.B.length + n) (h2 : q.1.L = M.tb.L) : Grow M (M.regs f q) n := by
 unfold Ms.regs
 split
 ·exact ⟨h1, by show q.1.L.length ≤ _; rw [h2]; omega, Nat.le_succ _, rfl⟩
 ·exact ⟨h1, by show q.1.L.length ≤ _; rw [h2]; omega, Nat.le_succ _, rfl⟩
theorem go_grow (M : Ms) (t : RTg) (G : List Int) (f : Fr) (i : Ins) (h1 : 1 ≤ i.op) (h2 : i.op ≤ 22) : Grow M (M.go t G f i) i.args.length := by
 obtain h | h | h | h | h | h | h | h | h | h | h | h | h | h | h | h | h | h | h | h | h | h : i.op = 1 ∨ i.op = 2 ∨ i.op = 3 ∨ i.op = 4 ∨ i.op = 5 ∨ i.op = 6 ∨ i.op = 7 ∨ i.op = 8 ∨ i.op = 9 ∨ i.op = 10 ∨ i.op = 11 ∨ i.op = 12 ∨ i.op = 13 ∨ i.op = 14 ∨ i.op = 15 ∨ i.op = 16 ∨ i.op = 17 ∨ i.op = 18 ∨ i.op = 19 ∨ i.op = 20 ∨ i.op = 21 ∨ i.op = 22 := by omega
 ·rw [go1 h]; exact .of rfl rfl rfl
 ·rw [go2 h]; exact .of rfl rfl rfl
 ·rw [go3 h]; exact .of rfl rfl rfl
 ·rw [go4 h]; exact .got ..
 ·rw [go5 h]; exact .of rfl rfl rfl
 ·rw [go6 h]; exact .got ..
 ·rw [go7 h]; exact .putT ..
 ·rw [go8 h]; exact .got ..
 ·rw [go9 h]; exact .putT ..
 ·rw [go10 h]; exact .got ..
 ·rw [go11 h]; exact .lies ..
 ·rw [go12 h]
  split
  ·exact .trap ..
  ·exact .lies ..
 ·rw [go13 h]
  unfold Ms.call
  split
  ·exact .trap ..
  ·split
   ·exact .of rfl rfl rfl
   ·split
    ·exact .of rfl rfl rfl
    ·exact .of rfl rfl rfl
 ·rw [go14 h]
  split
  ·exact .trap ..
  ·exact .of rfl rfl rfl
 ·rw [go15 h]
  exact ⟨by show M.tb.B.length ≤ _; omega, Nat.le_succ _, by show (M.out ++ _).length ≤ _; rw [List.length_append]; exact Nat.le_refl _, rfl⟩
 ·rw [go16 h]; exact .of rfl rfl rfl
 ·rw [go17 h]; exact .of rfl rfl rfl
 ·rw [go18 h]
  unfold Ms.ret
  split
  ·exact .of rfl rfl rfl
  ·exact .of rfl rfl rfl
 ·rw [go19 h]; exact .of rfl rfl rfl
 ·rw [go20 h]; exact .of rfl rfl rfl
 ·rw [go21 h]
  have := crT_len i.args M.tb f.regs
  exact .regs M f _ _ this.1 this.2
 ·rw [go22 h]
  have := rmT_len i.args M.tb f.regs
  exact .regs M f _ _ (by omega) this.2
structure Tame30 (t : RTg) : Prop where
 owns : ∀ u ∈ t.units, u.owns.length ≤ 1000
 args : ∀ u ∈ t.units, ∀ i ∈ u.ins, i.args.length ≤ 80
structure Bnd (M : Ms) : Prop where
 st : 0 ≤ M.steps
 B : (M.tb.B.length : Int) ≤ 1 + 80 * M.steps
 L : (M.tb.L.length : Int) ≤ M.steps
 O : (M.out.length : Int) ≤ M.steps
theorem Bnd.go {t : RTg} {G : List Int} (hR : RightP t) (hT : Tame30 t) {M : Ms} (hB : Bnd M) {f : Fr} {r : List Fr} {u : Unt} {i : Ins} (hn : Next t M f r u i) : Bnd ((M.pre f).go t G { f with pc := f.pc + 1 } i) := by
 have hum : u ∈ t.units := gt_mem hn.unit
 have him : i ∈ u.ins := gt_mem hn.ins
 have hv := right_ins hR hum him
 have hg := go_grow (M.pre f) t G { f with pc := f.pc + 1 } i hv.op.1 hv.op.2
 have ha := hT.args u hum i him
 obtain ⟨a, b, c, d⟩ := hB
 obtain ⟨a', b', c', d'⟩ := hg
 have e1 : (M.pre f).steps = M.steps + 1 := rfl
 have e2 : (M.pre f).tb = M.tb := rfl
 have e3 : (M.pre f).out = M.out := rfl
 rw [e2] at a' b'
 rw [e3] at c'
 rw [e1] at d'
 exact ⟨by omega, by omega, by omega, by omega⟩
theorem Bnd.less {M : Ms} (t : RTg) (h : Bnd M) : Bnd (M.less t) := by
 obtain ⟨_, _, _, h4, h5, h6, _⟩ := less_fs M t
 exact ⟨by rw [h6]; exact h.st, by rw [h4, h6]; exact h.B, by rw [h4, h6]; exact h.L, by rw [h5, h6]; exact h.O⟩
theorem runM_ended {t : RTg} {G : List Int} {M : Ms} (h : M.en ≠ 0) : ∀ n, runM t G n M = M
 | 0 => if_neg h
 | n + 1 => if_neg h
theorem begin_ok {t : RTg} {inp : List Int} (hR : RightP t) : MsOk t (begin_ t inp) ∧ Bnd (begin_ t inp) := by
 have hm := hR.2.1
 unfold MainOk at hm
 cases hg : gt t.units t.main with
 | none => rw [hg] at hm; exact hm.elim
 | some u =>
  have hi := (right_unit hR (gt_mem hg)).1.2.2.2.1
  refine ⟨⟨fun f hf => ?_, fun k f h h1 h2 => ?_, by show 1 ≤ 40; omega, List.length_replicate, fun _ => by show [_] ≠ []; simp⟩, ⟨by show (0 : Int) ≤ 0; omega, by show ((1 : Nat) : Int) ≤ 1 + 80 * 0; omega, by show ((0 : Nat) : Int) ≤ 0; omega, by show ((0 : Nat) : Int) ≤ 0; omega⟩⟩
  ·have hf : f ∈ [_] := hf
   obtain rfl := List.mem_singleton.1 hf
   have : u.ins.length ≠ 0 := fun h => hi (List.length_eq_zero_iff.1 h)
   exact ⟨u, hg, by dsimp only; rw [hg]; exact List.length_replicate, by show (0 : Int) ≤ 0; omega, by show (0 : Int) < _; omega⟩
  ·have h2 : ([_] : List Fr)[k + 1]? = some h := h2
   simp at h2
end Go.Proofs.YtomadjefdghliaaGreat
namespace Go.Proofs.YtomadjefdghliaaGreat
open Go Go.RR Go.RX Go.GX Go.Api Go.RtM
attribute [local irreducible] wpList Code.wp wpPlan Exit.then Exit.inBlock bodyPost NoPanic Went GX.Post GX.Again GX.Meet GX.RowR GX.Own GX.Owns GX.Box GX.Sl GX.Pt GX.Ag GX.MapR GX.Star GX.Kept GX.Pin wpT GoK AtEnd Both
section
variable {t : RTg} {p : Nat} {k : MK} {cs : List Value} {i : Ins} {v : MV} {x : FrC} {xs : List FrC} {f : Fr} {r : List Fr} {c : TabC} {M : Ms}
theorem ownsN_le {t : RTg} (h : Tame30 t) (f : Fr) : ownsN t f ≤ 1000 := by
 unfold ownsN
 cases hg : gt t.units f.u with
 | none => exact Nat.zero_le _
 | some u => exact h.owns u (gt_mem hg)
theorem bound_le {t : RTg} (h : Tame30 t) : ∀ fs : List Fr, 1 ≤ bound t fs ∧ bound t fs ≤ 1 + 1000 * fs.length
 | [] => ⟨by unfold bound; simp, by unfold bound; simp⟩
 | f :: fs => by
  have h1 := bound_le h fs
  have h2 := ownsN_le h f
  unfold bound at h1 ⊢
  rw [List.map_cons, List.sum_cons, List.length_cons]
  omega
theorem bound_cons (t : RTg) (f : Fr) (fs : List Fr) : bound t (f :: fs) = bound t fs + ownsN t f := by
 unfold bound
 rw [List.map_cons, List.sum_cons]
 omega
theorem Pre.bd {u : Unt} (h : Pre t v x xs f r c M i u) (hT : Tame30 t) : -1000000000 ≤ v.bound ∧ v.bound ≤ 1000000000 := by
 have h1 : v.bound = bound t M.fs := h.hI.bd
 have h2 := bound_le hT M.fs
 have h3 := h.deep
 omega
theorem op13 {u : Unt} (hR : RightP t) (hT : Tame30 t) (h : Pre t v x xs f r c M i u) (ho : i.op = 13) : OpOk t p k cs i v x xs f r c M (M.go t (glob t) f i) 55 := by
 rw [go13 ho]
 have hlen : M.fs.length = (adrs xs).length + 1 := by
  have h1 := h.hI.fr.len
  rw [adrs_len]
  simpa using h1.symm
 have hnb := h.nb
 by_cases hd : 40 ≤ M.fs.length
 ·have hc := call_deep t p k v (adrs xs) x f i cs h.nf (by omega) (by omega)
  rw [show M.call t (glob t) f i = M.trap 6 from if_pos hd]
  obtain ⟨h0, _⟩ | ⟨h0, e, d, e1, e2⟩ := trapV_cases v 6
  ·omega
  rw [e1] at hc
  rw [e2]
  exact op_keep hc (fun _ => { v with en := e, code := d }) (fun _ => x) f (fun _ => c) M.inp M.out M.gl (fun _ => h.ends h.hI.tab e d) h.fs rfl rfl rfl
 obtain ⟨g, hg, _, hal, hargs, hia, _⟩ := call_v (h.hi.call ho)
 obtain ⟨j, hj, _, hjg⟩ := gt_some hg
 have hgm : g ∈ t.units := gt_mem hg
 have hgv : g.vars.length ≤ 4000 := (right_unit hR hgm).1.1.2.2.2
 cases hm : takeR (glob t) M.tb.B f g.takes (fun _ => 0) with
 | none =>
  have hc := call_no t p k v (adrs xs) x f i cs j g hjg hj (by omega) (by omega) c M.tb h.hI.tab h.hl.2 hm h.nf (by omega) h.hl.1
  have e : M.call t (glob t) f i = M.ends 4 0 := by unfold Ms.call; rw [if_neg hd, hg]; dsimp only; rw [hm]
  rw [e]
  exact op_keep hc (fun _ => { v with en := 4, code := 0 }) (fun _ => x) f (fun _ => c) M.inp M.out M.gl (fun _ => h.ends h.hI.tab 4 0) h.fs rfl rfl rfl
 | some m =>
  have hc := call_yes t p k v (adrs xs) x f i cs j g hjg hj (by omega) (by omega) c M.tb h.hI.tab h.hl.2 m hm h.nf (by omega) h.hl.1 (fun n hn => vok h.hv (hargs n hn)) hal (h.bd hT) (by have := hT.owns g hgm; omega)
  have e : M.call t (glob t) f i = { M with fs := ⟨i.c, 0, argsV f i g.vars.length, i.a, m⟩ :: M.fs } := by unfold Ms.call; rw [if_neg hd, hg]; dsimp only; rw [hm]
  rw [e]
  refine Does.fitT hc (fun s => ⟨⟨{ v with af := s.1.1.1, nf := (adrs xs).length + 2, cf := s.1.1.2, bound := v.bound + g.owns.length }, ⟨s.1.2.1.1, s.1.2.1.2.1, g.vars.length, s.1.2.1.2.2, s.1.2.2⟩ :: x :: xs, c⟩, ?_⟩) GX.aA GX.sA (fun _ => rfl) (fun s => ?_) (fun s => ?_)
  ·refine ⟨h.hI.tab, ?_, ⟨⟨argsV_len _ _ _ hal, s.2⟩, h.hI.fr⟩, h.hI.en, h.hI.code, h.hI.steps, h.hI.slack, h.hI.no, h.hI.ni, ?_⟩
   ·show (adrs xs).length + 2 = xs.length + 1 + 1
    rw [adrs_len]
   ·show v.bound + (g.owns.length : Int) = bound t (_ :: M.fs)
    rw [bound_cons, show v.bound = bound t M.fs from h.hI.bd]
    unfold ownsN
    dsimp only
    rw [hg]
  ·exact GX.aA
  ·dsimp only
   rw [h.fs]
   refine Turn.trans ?_ (toMCH (t := t) (p := p) (k := k) (v := { v with af := s.1.1.1, nf := (adrs xs).length + 2, cf := s.1.1.2, bound := v.bound + g.owns.length }) (c := c) (O := M.out) (L := M.gl) (x := ⟨s.1.2.1.1, s.1.2.1.2.1, g.vars.length, s.1.2.1.2.2, s.1.2.2⟩) (xs := x :: xs) (f := ⟨i.c, 0, argsV f i g.vars.length, i.a, m⟩) (r := f :: r))
   rw [show frs (x :: xs) (f :: r) = [RowR x.bl 93 [.int .i64 f.u, .int .i64 f.pc, .slice (some ⟨x.vb, 0, none⟩) x.n x.n, .int .i64 f.into, .map (some x.mb)], GX.Own 3 Ty.int (some ⟨x.vb, 0, none⟩) x.n f.vars, GX.MapR x.mb x.mp] ++ frs xs r from rfl, show adrs (x :: xs) = adrs xs ++ [some ⟨x.bl, 0, none⟩] from rfl]
   exact (Turn.sel (hp2 := [RowR x.bl 93 [.int .i64 f.u, .int .i64 f.pc, .slice (some ⟨x.vb, 0, none⟩) x.n x.n, .int .i64 f.into, .map (some x.mb)], GX.Own 3 Ty.int (some ⟨x.vb, 0, none⟩) x.n f.vars, GX.MapR x.mb x.mp] ++ (GX.Star (frs xs r) :: [RowR p 57 [.slice k.aC t.classes.length k.cC, .slice k.aG t.globals.length k.cG, .slice k.aU t.units.length k.cU, .int .i64 t.main, .slice k.aL (glob t).length k.cL, .pointer (some ⟨k.tp, 0, none⟩), .int .i64 1, .slice v.ai v.ni v.ci, .slice (some ⟨k.gb, 0, none⟩) t.globals.length t.globals.length, .slice s.1.1.1 ((adrs xs).length + 2) s.1.1.2, .int .i64 (v.bound + g.owns.length), .map (some k.om), .int .i64 v.en, .int .i64 v.code, .slice v.ao v.no v.co, .int .i64 v.steps, .int .i64 0, .int .i64 0, .int .i64 0, .int .i64 0, .int .i64 v.slack, .int .i64 0], GX.Own 60 Ty.ptr s.1.1.1 s.1.1.2 (adrs xs ++ [some ⟨x.bl, 0, none⟩] ++ [some ⟨s.1.2.1.1, 0, none⟩]), RowR s.1.2.1.1 93 [.int .i64 i.c, .int .i64 0, .slice (some ⟨s.1.2.1.2.1, 0, none⟩) g.vars.length g.vars.length, .int .i64 i.a, .map (some s.1.2.1.2.2)], GX.Own 3 Ty.int (some ⟨s.1.2.1.2.1, 0, none⟩) g.vars.length (argsV f i g.vars.length), GX.MapR s.1.2.1.2.2 s.1.2.2, RowR k.tp 86 [.slice c.aR c.R.length c.cR, .slice c.aL c.L.length c.cL, .int .i64 c.gone, .int .i64 c.peak, .int .i64 c.many, .int .i64 c.most], GX.Own 90 tyRegion c.aR c.cR c.R, GX.Own 148 tyThing c.aL c.cL (c.L.map thg), Owns 3 Ty.int (c.L.map (fun x : Th => x.2)), GX.Own 3 Ty.int v.ao v.co M.out, GX.Own 3 Ty.int (some ⟨k.gb, 0, none⟩) t.globals.length M.gl, GX.MapR k.om opsF])) GX.sA).trans (Turn.starI.trans (Turn.sel GX.sA))
theorem op18 {u : Unt} (hT : Tame30 t) (hu : gt t.units f.u = some u) (h : Pre t v x xs f r c M i u) (ho : i.op = 18) : OpOk t p k cs i v x xs f r c M (M.go t (glob t) f i) 60 := by
 rw [go18 ho]
 obtain ⟨j, hj, _, hjg⟩ := gt_some hu
 have hum : u ∈ t.units := gt_mem hu
 have hia : i.a = -1 ∨ Vok f i.a := (h.hi.ret ho).imp id (vok h.hv)
 have hol : u.owns.length ≤ 1000000000 := by have := hT.owns u hum; omega
 have hown : ownsN t f = u.owns.length := by unfold ownsN; rw [hu]
 have hfr := h.hI.fr
 have hbd : v.bound = bound t M.fs := h.hI.bd
 have hnf := h.nf
 have hnb := h.nb
 have hl := h.hl
 have hinto := h.into
 have hfs := h.fs
 rw [h.fs] at hfr
 cases r with
 | nil =>
  cases xs with
  | cons y xs => exact absurd hfr.2 (by simp [FrsAt])
  | nil =>
   have hc := ret_last t p k v x f i cs j u hjg hj hnf hl.1 hia (h.bd hT) hol
   have e : M.ret f i = ({ M with fs := [] } : Ms).ends 1 0 := by unfold Ms.ret; rw [hfs]; rfl
   rw [e]
   refine Does.fitT hc (fun s => ⟨⟨{ v with nf := 0, bound := v.bound - u.owns.length, en := 1, code := 0 }, [], c⟩, ?_⟩) GX.aA GX.sA (fun _ => rfl) (fun s => ?_) (fun s => ?_)
   ·refine ⟨h.hI.tab, rfl, trivial, rfl, rfl, h.hI.steps, h.hI.slack, h.hI.no, h.hI.ni, ?_⟩
    show v.bound - (u.owns.length : Int) = bound t []
    rw [hbd, hfs, bound_cons, hown]
    omega
   ·rw [List.nil_append]
    show AllIn [Sl Ty.int v.ai v.ci M.inp] _
    exact GX.aA
   ·dsimp only
    exact Turn.sel GX.sA
 | cons hh r =>
  cases xs with
  | nil => exact absurd hfr.2 (by simp [FrsAt])
  | cons y xs =>
   have hy := hfr.2.1
   have hin : f.into = -1 ∨ Vok hh f.into := hinto.imp id fun q => q hh r rfl
   have hc := ret_more t p k v (adrs xs) y hh x f i cs j u hjg hj (by rw [hnf]; show (adrs xs ++ _).length + 1 = _; rw [List.length_append]; rfl) (by have : (adrs xs ++ [some (⟨y.bl, 0, none⟩ : Addr)]).length ≤ 900 := hnb; rw [List.length_append] at this; omega) hy.1 hin hl.1 hia (h.bd hT) hol
   have e : M.ret f i = { M with fs := (if 0 ≤ f.into then { hh with vars := setv hh.vars f.into (if 0 ≤ i.a then lkv f.vars i.a else 0) } else hh) :: r } := by unfold Ms.ret; rw [hfs]; rfl
   rw [e]
   obtain ⟨h', hh'⟩ : ∃ h' : Fr, h' = { hh with vars := if 0 ≤ f.into then setv hh.vars f.into (if 0 ≤ i.a then lkv f.vars i.a else 0) else hh.vars } := ⟨_, rfl⟩
   have e2 : (if 0 ≤ f.into then ({ hh with vars := setv hh.vars f.into (if 0 ≤ i.a then lkv f.vars i.a else 0) } : Fr) else hh) = h' := by
    rw [hh']
    split <;> rfl
   have hvl : h'.vars.length = hh.vars.length := by
    rw [hh']
    dsimp only
    split
    ·exact setv_len _ _ _
    ·rfl
   rw [e2]
   refine Does.fitU (rest := [GX.MapR x.mb x.mp, GX.MapR y.mb y.mp, GX.Star (frs xs r), RowR k.tp 86 [.slice c.aR c.R.length c.cR, .slice c.aL c.L.length c.cL, .int .i64 c.gone, .int .i64 c.peak, .int .i64 c.many, .int .i64 c.most], GX.Own 90 tyRegion c.aR c.cR c.R, GX.Own 148 tyThing c.aL c.cL (c.L.map thg), Owns 3 Ty.int (c.L.map (fun x : Th => x.2)), GX.Own 3 Ty.int v.ao v.co M.out, GX.Own 3 Ty.int (some ⟨k.gb, 0, none⟩) t.globals.length M.gl, GX.MapR k.om opsF]) hc (fun s => ⟨⟨{ v with nf := (adrs xs).length + 1, bound := v.bound - u.owns.length }, y :: xs, c⟩, ?_⟩) GX.aA ?_ (fun _ => rfl) (fun s => ?_) (fun s => ?_)
   ·refine ⟨h.hI.tab, ?_, ⟨⟨hvl.trans hy.1, ?_⟩, hfr.2.2⟩, h.hI.en, h.hI.code, h.hI.steps, h.hI.slack, h.hI.no, h.hI.ni, ?_⟩
    ·show (adrs xs).length + 1 = xs.length + 1
     rw [adrs_len]
    ·rw [hh']; exact hy.2
    ·show v.bound - (u.owns.length : Int) = bound t (h' :: r)
     rw [hbd, hfs, bound_cons, hown, bound_cons, bound_cons, show ownsN t h' = ownsN t hh by unfold ownsN; rw [hh']]
     omega
   ·rw [show frs (y :: xs) (hh :: r) = [RowR y.bl 93 [.int .i64 hh.u, .int .i64 hh.pc, .slice (some ⟨y.vb, 0, none⟩) y.n y.n, .int .i64 hh.into, .map (some y.mb)], GX.Own 3 Ty.int (some ⟨y.vb, 0, none⟩) y.n hh.vars, GX.MapR y.mb y.mp] ++ frs xs r from rfl, show adrs (y :: xs) = adrs xs ++ [some ⟨y.bl, 0, none⟩] from rfl]
    refine (Turn.sel (hp2 := GX.Star ([RowR y.bl 93 [.int .i64 hh.u, .int .i64 hh.pc, .slice (some ⟨y.vb, 0, none⟩) y.n y.n, .int .i64 hh.into, .map (some y.mb)], GX.Own 3 Ty.int (some ⟨y.vb, 0, none⟩) y.n hh.vars, GX.MapR y.mb y.mp] ++ frs xs r) :: [RowR p 57 [.slice k.aC t.classes.length k.cC, .slice k.aG t.globals.length k.cG, .slice k.aU t.units.length k.cU, .int .i64 t.main, .slice k.aL (glob t).length k.cL, .pointer (some ⟨k.tp, 0, none⟩), .int .i64 1, .slice v.ai v.ni v.ci, .slice (some ⟨k.gb, 0, none⟩) t.globals.length t.globals.length, .slice v.af v.nf v.cf, .int .i64 v.bound, .map (some k.om), .int .i64 v.en, .int .i64 v.code, .slice v.ao v.no v.co, .int .i64 v.steps, .int .i64 0, .int .i64 0, .int .i64 0, .int .i64 0, .int .i64 v.slack, .int .i64 0], GX.Own 60 Ty.ptr v.af v.cf (adrs xs ++ [some ⟨y.bl, 0, none⟩] ++ [some ⟨x.bl, 0, none⟩]), RowR x.bl 93 [.int .i64 f.u, .int .i64 f.pc, .slice (some ⟨x.vb, 0, none⟩) x.n x.n, .int .i64 f.into, .map (some x.mb)], GX.Own 3 Ty.int (some ⟨x.vb, 0, none⟩) x.n f.vars, GX.MapR x.mb x.mp, RowR k.tp 86 [.slice c.aR c.R.length c.cR, .slice c.aL c.L.length c.cL, .int .i64 c.gone, .int .i64 c.peak, .int .i64 c.many, .int .i64 c.most], GX.Own 90 tyRegion c.aR c.cR c.R, GX.Own 148 tyThing c.aL c.cL (c.L.map thg), Owns 3 Ty.int (c.L.map (fun x : Th => x.2)), GX.Own 3 Ty.int v.ao v.co M.out, GX.Own 3 Ty.int (some ⟨k.gb, 0, none⟩) t.globals.length M.gl, GX.MapR k.om opsF]) GX.sA).trans (Turn.starO.trans (Turn.sel GX.sA))
   ·rw [List.nil_append]
    exact GX.aA
   ·dsimp only
    have e3 : GX.Own 3 Ty.int (some ⟨y.vb, 0, none⟩) y.n (if 0 ≤ f.into then setv hh.vars f.into (if 0 ≤ i.a then lkv f.vars i.a else 0) else hh.vars) = GX.Own 3 Ty.int (some ⟨y.vb, 0, none⟩) y.n h'.vars := by rw [hh']
    have e4 : RowR y.bl 93 [.int .i64 hh.u, .int .i64 hh.pc, .slice (some ⟨y.vb, 0, none⟩) y.n y.n, .int .i64 hh.into, .map (some y.mb)] = RowR y.bl 93 [.int .i64 h'.u, .int .i64 h'.pc, .slice (some ⟨y.vb, 0, none⟩) y.n y.n, .int .i64 h'.into, .map (some y.mb)] := by rw [hh']
    rw [e3, e4]
    exact (Turn.sel (hp2 := [RowR p 57 [.slice k.aC t.classes.length k.cC, .slice k.aG t.globals.length k.cG, .slice k.aU t.units.length k.cU, .int .i64 t.main, .slice k.aL (glob t).length k.cL, .pointer (some ⟨k.tp, 0, none⟩), .int .i64 1, .slice ({ v with nf := (adrs xs).length + 1, bound := v.bound - u.owns.length } : MV).ai ({ v with nf := (adrs xs).length + 1, bound := v.bound - u.owns.length } : MV).ni ({ v with nf := (adrs xs).length + 1, bound := v.bound - u.owns.length } : MV).ci, .slice (some ⟨k.gb, 0, none⟩) t.globals.length t.globals.length, .slice ({ v with nf := (adrs xs).length + 1, bound := v.bound - u.owns.length } : MV).af ({ v with nf := (adrs xs).length + 1, bound := v.bound - u.owns.length } : MV).nf ({ v with nf := (adrs xs).length + 1, bound := v.bound - u.owns.length } : MV).cf, .int .i64 ({ v with nf := (adrs xs).length + 1, bound := v.bound - u.owns.length } : MV).bound, .map (some k.om), .int .i64 ({ v with nf := (adrs xs).length + 1, bound := v.bound - u.owns.length } : MV).en, .int .i64 ({ v with nf := (adrs xs).length + 1, bound := v.bound - u.owns.length } : MV).code, .slice ({ v with nf := (adrs xs).length + 1, bound := v.bound - u.owns.length } : MV).ao ({ v with nf := (adrs xs).length + 1, bound := v.bound - u.owns.length } : MV).no ({ v with nf := (adrs xs).length + 1, bound := v.bound - u.owns.length } : MV).co, .int .i64 ({ v with nf := (adrs xs).length + 1, bound := v.bound - u.owns.length } : MV).steps, .int .i64 0, .int .i64 0, .int .i64 0, .int .i64 0, .int .i64 ({ v with nf := (adrs xs).length + 1, bound := v.bound - u.owns.length } : MV).slack, .int .i64 0], GX.Own 60 Ty.ptr ({ v with nf := (adrs xs).length + 1, bound := v.bound - u.owns.length } : MV).af ({ v with nf := (adrs xs).length + 1, bound := v.bound - u.owns.length } : MV).cf ((adrs xs) ++ [some ⟨y.bl, 0, none⟩]), RowR y.bl 93 [.int .i64 h'.u, .int .i64 h'.pc, .slice (some ⟨y.vb, 0, none⟩) y.n y.n, .int .i64 h'.into, .map (some y.mb)], GX.Own 3 Ty.int (some ⟨y.vb, 0, none⟩) y.n h'.vars, GX.MapR y.mb y.mp, GX.Star (frs xs r), RowR k.tp 86 [.slice c.aR c.R.length c.cR, .slice c.aL c.L.length c.cL, .int .i64 c.gone, .int .i64 c.peak, .int .i64 c.many, .int .i64 c.most], GX.Own 90 tyRegion c.aR c.cR c.R, GX.Own 148 tyThing c.aL c.cL (c.L.map thg), Owns 3 Ty.int (c.L.map (fun x : Th => x.2)), GX.Own 3 Ty.int ({ v with nf := (adrs xs).length + 1, bound := v.bound - u.owns.length } : MV).ao ({ v with nf := (adrs xs).length + 1, bound := v.bound - u.owns.length } : MV).co M.out, GX.Own 3 Ty.int (some ⟨k.gb, 0, none⟩) t.globals.length M.gl, GX.MapR k.om opsF]) GX.sA).trans toMCH
end
end Go.Proofs.YtomadjefdghliaaGreat
