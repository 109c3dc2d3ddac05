import Derived.Test.YtojfbbggnkijeaaGreatDoorZ35
import Derived.Test.YtojfbbggnkijeaaGreatDoorZ36
import Derived.Test.YtojfbbggnkijeaaGreatDoorZ37
import Derived.Test.YtojfbbggnkijeaaGreatDoorZ42
import Derived.Lib.LaidTab
import Derived.SevenTiedAt
import Derived.Lay
import Derived.WalkKit
import Derived.ProofKit
import Derived.Handy
set_option linter.all false
/- TopChecker: for all bytes b, all lists of integers in and all integers fuel the law returns true; its arguments read as before. The row speaks of worlds in which the listed variables of Go's library hold what the program's own text lays in them; the card ties that to the text. No other condition. -/
namespace Go.Proofs.YtojfbbggnkijeaaGreatDoor
open Go Go.RR Go.RX Go.GX Go.Api Go.RtM Go.NumM Go.ChangeShapes Go.WideShapes Go.ChangeAt Go.RowKit
/-! ### The row -/
/-- What strings.asciiSpace holds. -/
def ascZ : List Int := List.replicate 9 0 ++ [1, 1, 1, 1, 1] ++ List.replicate 18 0 ++ [1] ++ List.replicate 223 0
theorem asc_laid : Rows.topCheckerRow.laid = ("strings.asciiSpace", Go.Lib.tabData .u8 ascZ) :: Rows.topCheckerRow.laid.tail := by kernel_rfl
theorem asc_arr : (ascZ.map fun z => Value.int .u8 z).toArray = ascL.toArray := by kernel_rfl
theorem asc_row {W : World} (h : laidMetH Tryz.prog Rows.topCheckerRow.laid W) : ∃ e fz, W.heap[0]? = some (.cells ascL.toArray e fz) := by
 rw [MakeChecks.laidMetH_plain _ _ _ (by kernel_rfl), asc_laid] at h;have hg : Tryz.prog.globalNamed "strings.asciiSpace" = some 0 := by kernel_rfl
 have ht := Go.Lib.tabIs_of_head hg (t := 392) (e := 5) (n := 256) (by kernel_rfl) Tryz.underlying392 Tryz.underlying5 (by kernel_rfl) (by kernel_rfl) h;unfold Go.Lib.TabIs World.var? at ht;rw [hg, Option.bind_some] at ht;split at ht
 ·rename_i cs e fz hc;obtain rfl := Option.some.inj ht;exact ⟨e, fz, by rw [hc, asc_arr]⟩
 ·cases ht
theorem topChecker_own : ownKnob Tryz.prog.godebug = none := by kernel_rfl
theorem topChecker_laidOut : laidOutB Tryz.prog = true := by kernel_rfl
set_option maxRecDepth 100000 in
theorem topChecker_witness (os : Os) (H : Type) (enc : TypeId × Value → H) : ∃ (w : World) (tape : Tape) (i : Input), w.os = os ∧ (w.forCall tape i).Shaped Tryz.prog ∧ i.vars = [] ∧ Input.okWide Tryz.prog (w.forCall tape i) .any w.heap.size 4 i ∧
  ((Rows.topCheckerSpec.pre enc Tryz.prog Tryz.f4 [] false (w.forCall tape i).memory i.args ∧ laidMetH Tryz.prog Rows.topCheckerRow.laid (w.forCall tape i).memory) ∧ sizedMet enc Tryz.prog Tryz.f4 (OpenSpec.ofChange Rows.topCheckerSpec) false (w.forCall tape i).memory i.args) ∧ Assume.holds {} Tryz.prog (lone (Frame.enter Tryz.prog 4 i.args .normal) [] (w.forCall tape i)) :=
 ChangeSpec.witness_shaped (enc := enc) (C := Tryz.checked) (os := os) (X := fun w _ => laidMetH Tryz.prog Rows.topCheckerRow.laid w) false (World.laidAll Tryz.prog os Rows.topCheckerRow.laid) #[.slice none 0 0, .slice none 0 0, .int .i64 0] 8 (World.laidAll_os _ _ _)
  (World.shaped_of_ZipB (by kernel_rfl) (by kernel_rfl)) (by kernel_rfl) (by kernel_rfl) (by kernel_rfl)
  (by rw [MakeChecks.laidMetH_plain _ _ _ (by kernel_rfl)]; exact laidMet_laidAll _ (by kernel_rfl) (by kernel_rfl))
set_option maxRecDepth 100000 in
theorem topChecker_lifted (os : Os) (started : os.Started) (H : Type) (enc : TypeId × Value → H) :
  ReturnsInHanded {} Tryz.checked os 4 .any (fun w args => (Rows.topCheckerSpec.pre enc Tryz.prog Tryz.f4 [] false w args ∧ laidMetH Tryz.prog Rows.topCheckerRow.laid w) ∧ sizedMet enc Tryz.prog Tryz.f4 (OpenSpec.ofChange Rows.topCheckerSpec) false w args)
   (Rows.topCheckerSpec.post enc Tryz.prog Tryz.f4 false true false false) := by
 refine returnsInHanded_of_change_and (C := Tryz.checked) (X := fun w _ => laidMetH Tryz.prog Rows.topCheckerRow.laid w) (fun _ _ _ hh h => h.of_heap hh) topChecker_own started (by kernel_rfl) Tryz.func4 (topChecker_witness os H enc) ?_;intro W base args ds gs before hval0 hW _ _ hL _;have hval : ∀ (j : Nat) t v, Tryz.f4.params[j]? = some t → args[j]? = some v → Value.okWide Tryz.prog W .any base t v := hval0;have hW' := hW;obtain ⟨p, q, hA0, hV, rfl, hfz, hnd⟩ := hW;have hA : DataW.TrodAll enc Tryz.prog W 0 (fun _ => true) true Tryz.f4.params.toList args.toList ds p := hA0;rw [Tryz.params4] at hA hval;obtain ⟨v0, vs0, d0, ds0, p0, q0, hargs, rfl, rfl, h0, r0⟩ := trodAll_cons hA;obtain ⟨v1, vs1, d1, ds1, p1, q1, rfl, rfl, rfl, h1, r1⟩ := trodAll_cons r0;obtain ⟨v2, vs2, d2, ds2, p2, q2, rfl, rfl, rfl, h2, r2⟩ := trodAll_cons r1;obtain ⟨rfl, rfl, rfl⟩ := trodAll_nil r2;obtain rfl : args = #[v0, v1, v2] := by cases args; simp_all
 obtain ⟨rfl, rfl⟩ := trodVars_none hV;have hlt := hW'.lt;have hl0 : ∀ x ∈ p0, x.block < W.heap.size := fun x hx => hlt x (by simp [hx]);obtain ⟨s0, n0, c0, rfl⟩ := okWide_slice Tryz.underlying22 (hval 0 22 v0 rfl rfl);obtain ⟨x0, z0, b0⟩ := cv_bytes enc W _ _ _ _ _ h0.choose_spec;obtain ⟨rfl, f0⟩ := sl_in z0;have hl1 : ∀ x ∈ p1, x.block < W.heap.size := fun x hx => hlt x (by simp [hx]);obtain ⟨s1, n1, c1, rfl⟩ := okWide_slice Tryz.underlying30 (hval 1 30 v1 rfl rfl);obtain ⟨x1, z1, b1⟩ := cv_ints enc W _ _ _ _ _ h1.choose_spec;obtain ⟨rfl, f1⟩ := sl_in z1;have hl2 : ∀ x ∈ p2, x.block < W.heap.size := fun x hx => hlt x (by simp [hx]);obtain ⟨a2, rfl, e2, g2, w2⟩ := open_int Tryz.underlying3 (hval 2 3 v2 rfl rfl) h2;have b2 : -9223372036854775808 ≤ a2 ∧ a2 ≤ 9223372036854775807 := wf_i64 w2;obtain ⟨eR, fzR, hR⟩ := asc_row hL;have fR : (RowS 0 ascL).says (fun k => k < W.heap.size) W := rowS_in hR;refine ((topChecker_does s0 c0 x0 b0 s1 c1 x1 b1 a2 b2).calls W (all_cons f0 (all_cons f1 (all_cons fR all_nil)))).mono fun e W' ⟨he, hu⟩ => ?_;subst he;have hb := hu.below;exact ⟨_, rfl, _, _, _, [], _, [], hW', trodAll_cons_mk (shut_bool Tryz.underlying4 _) trodAll_mk0, (trodAll_cons_mk (hb.trod topChecker_laidOut (by kernel_rfl) (of_decide_eq_true (by kernel_rfl)) h0 hl0) (trodAll_cons_mk (hb.trod topChecker_laidOut (by kernel_rfl) (of_decide_eq_true (by kernel_rfl)) h1 hl1) (trodAll_cons_mk (hb.trod topChecker_laidOut (by kernel_rfl) (of_decide_eq_true (by kernel_rfl)) h2 hl2) trodAll_mk0))), rfl, hb.frame _, fun h => by cases h⟩
theorem topChecker_said : Rows.TopCheckerSaid :=
 OpenClaim.holds_of_wide 4 Tryz.f4 rfl rfl rfl rfl rfl rfl rfl ⟨rfl, rfl, rfl, rfl, rfl⟩ rfl rfl rfl rfl rfl topChecker_named Tryz.func4 topChecker_closed topChecker_inst topChecker_wrap
  (fun os started H enc _ => topChecker_lifted os started H enc)
theorem topChecker_holds : Rows.TopCheckerCardSaid :=
 Claim7.holds_tied_plain_at .later [] theKinds true (true, "4f5198dd606f3ccad2fa06530e4cf3ca7caf64e3fc01e343364cf3f3de2a7b50") true topChecker_said (fun _ h => by cases h) card_wf (fun _ h => by cases h) checkerTie rfl ⟨rfl, rfl⟩ card_main rfl
  (fun f fn hf hfn => by
   obtain rfl : f = 4 := (Option.some.inj (topChecker_named.symm.trans hf)).symm;obtain rfl : fn = Tryz.f4 := (Option.some.inj (Tryz.func4.symm.trans hfn)).symm;exact ⟨card_looks, fun j t ht => by
    have ht : (Tryz.f4).params[j]? = some t := ht;rw [Tryz.params4] at ht;have hm : t ∈ [22, 30, 3] := by simpa using Array.mem_of_getElem? ht
    exact (show Tryz.prog.wantsStandIn t = false by simpa using List.all_eq_true.1 card_stand t hm)⟩)
  card_goes
#print axioms topChecker_holds
end Go.Proofs.YtojfbbggnkijeaaGreatDoor
