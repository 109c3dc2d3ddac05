/- The walk over leads of the reference of chapter 17. -/
import Derived.Test.YtkfbchefealfoaaLeadM
import Derived.Test.YtkfbchefealfoaaCal2
namespace Go.Proofs.Ytkfbchefealfoaa
open Go Go.RR Go.RX Go.GX Go.Api Go.CalM Go.TarM
attribute [local irreducible] wpList Code.wp wpPlan Exit.then Exit.inBlock bodyPost NoPanic Went GX.Post GX.Again GX.Meet GX.RowR GX.Own GX.Owns GX.Box GX.Sl GX.Pt GX.Ag GX.MapR GX.Kept GX.Pin wpT GoK AtEnd Both
local instance (priority := 2000) hdrR1 : UTy Try.prog 47 Ty.hdr (none, 0, 0) (.slice none 0 0) := ⟨Try.zeroValue47, fun _ _ => hdr_rd⟩
abbrev OB := List (Option Addr × Nat × List Bool)
structure LeS where
  i : Nat
  L : OB
structure LmS where
  more : Bool
  i : Nat
  L : OB
theorem back2 {α : Type} {L : List α} {h f : Nat} {x y N : α} (hx : L[h]? = some x) (hne : h ≠ f) : (((L.set h N).set f N).set f y).set h x = L.set f y := by
  apply List.ext_getElem?
  intro i
  by_cases h1 : h = i
  · subst h1
    have hl := (List.getElem?_eq_some_iff.1 hx).1
    rw [List.getElem?_set_self (by simpa using hl), List.getElem?_set_ne (Ne.symm hne), hx]
  · rw [List.getElem?_set_ne h1]
    by_cases h2 : f = i
    · subst h2
      by_cases h3 : f < L.length
      · rw [List.getElem?_set_self (by simpa using h3), List.getElem?_set_self h3]
      · rw [List.getElem?_eq_none (by simpa using h3), List.getElem?_eq_none (by simpa using h3)]
    · rw [List.getElem?_set_ne h2, List.getElem?_set_ne h2, List.getElem?_set_ne h1, List.getElem?_set_ne h2]
theorem set_same {α : Type} {L : List α} {i : Nat} {x : α} (h : L[i]? = some x) : L.set i x = L := set_get h
theorem hd_same {L : OB} {f c : Nat} {a : Option Addr} {r r' : List Bool} (h : L[f]? = some (a, c, r)) (hl : r'.length = r.length) : (L.set f (a, c, r')).map GX.hd = L.map GX.hd := by
  rw [List.map_set]
  refine set_get ?_
  rw [List.getElem?_map, h]
  show some (a, r.length, c) = some (a, r'.length, c)
  rw [hl]
/-- In a pass that began with so many marks missing. -/
structure Pass (e : List (List Nat)) (c0 : Nat) (more : Bool) (M : List (List Bool)) : Prop where
  mat : Mat e M
  le : cnt M ≤ c0
  lt : more = true → cnt M < c0
set_option maxHeartbeats 4000000 in
theorem leads_spec (aE : Option Addr) (cE n : Nat) (e : List (List Nat)) (hen : e.length = n) (hn : n ≤ 1000) (hE : ∀ x, ∀ y ∈ kids e x, y < e.length) (hK : ∀ x, (kids e x).length ≤ 100000) : Does Try.prog 20 [.slice aE n cE] [Sl (Ty.slice Ty.int) aE cE (e.map zs)] []
    (fun s : Option Addr × Nat => .slice s.1 n s.2) (fun s => [Sl (Ty.slice Ty.bool) s.1 s.2 (leadT e)]) (fun _ => []) := by
  refine enter Try.func20 rfl Try.ntmps20 rfl fun b => ?_
  have hEl : (e.map zs).length = n := by rw [List.length_map]; exact hen
  refine GX.wR ?_; intros
  refine GX.nmB 3 ?_; rintro b3 rfl
  rw [hd_rep (α := Bool)]
  refine osN 4 Ty.bool n ?_
  refine GX.loop (σ := LeS) (fun s => [(0, .slice aE n cE), (3, .slice (some ⟨b3, 0, none⟩) n n), (4, .int .i64 (s.i : Int))]) (fun _ => [])
    (fun s => [Own 47 Ty.hdr (some ⟨b3, 0, none⟩) n (s.L.map GX.hd), Owns 4 Ty.bool s.L]) (fun s => s.i ≤ n ∧ s.L.map (·.2.2) = begM n s.i ∧ ∀ j, s.i ≤ j → j < n → s.L[j]? = some (none, 0, [])) (fun s => n - s.i)
    ⟨0, List.replicate n (none, 0, [])⟩ ⟨rfl, rfl, rfl, trivial⟩ ⟨by simp, by rw [begM_zero]; simp, fun j _ h2 => by dsimp only; rw [List.getElem?_replicate, if_pos h2]⟩ (fun s hs => ?_)
  obtain ⟨i, L⟩ := s
  obtain ⟨hi, hL, hN⟩ := hs
  dsimp only at *
  have hLl : L.length = n := by have := congrArg List.length hL; rw [List.length_map, begM_len] at this; exact this
  have hLh : (L.map GX.hd).length = n := by rw [List.length_map]; exact hLl
  by_cases hlt : i < n
  · have hLy := hN i (Nat.le_refl _) hlt
    have hyL : i < L.length := by omega
    have hrl : (List.replicate n false).length = n := List.length_replicate
    refine GX.wR ?_; intros
    refine GX.nmB 22 ?_; rintro g rfl
    have hgs : ((L.map GX.hd).set i (some ⟨g, 0, none⟩, n, n))[i]? = some (some ⟨g, 0, none⟩, n, n) := List.getElem?_set_self (by omega)
    have hset : (L.map GX.hd).set i (some ⟨g, 0, none⟩, n, n) = (L.set i (some ⟨g, 0, none⟩, n, (List.replicate n false).set i true)).map GX.hd := by rw [List.map_set]; simp [GX.hd]
    refine GX.wR ?_; intros
    refine osP (t := 4) (e := Ty.bool) (ao := some ⟨g, 0, none⟩) i ?_ hLy
    rw [hset]
    refine again ⟨i + 1, L.set i (some ⟨g, 0, none⟩, n, (List.replicate n false).set i true)⟩ ⟨rfl, rfl, rfl, trivial⟩ ⟨by dsimp only; omega, ?_, fun j h1 h2 => ?_⟩ (by dsimp only; omega)
    · dsimp only
      rw [List.map_set, hL, begM_set]
    · dsimp only at h1 ⊢
      rw [List.getElem?_set_ne (by omega)]; exact hN j (by omega) h2
  · obtain rfl : n = i := by omega
    clear hi hN hLl hLh
    have hmat : Mat e (L.map (·.2.2)) := by rw [hL, ← hen]; exact begM_mat e
    clear hL
    refine GX.wR ?_; intros
    refine GX.loop (σ := LmS) (fun s => [(0, .slice aE n cE), (3, .slice (some ⟨b3, 0, none⟩) n n), (5, .bool s.more)]) (fun _ => [])
      (fun s => [Own 47 Ty.hdr (some ⟨b3, 0, none⟩) n (s.L.map GX.hd), Owns 4 Ty.bool s.L]) (fun s => Mat e (s.L.map (·.2.2)) ∧ (s.more = false → SeenF e (s.L.map (·.2.2)) n)) (fun s => if s.more = true then cnt (s.L.map (·.2.2)) + 1 else 0)
      ⟨true, 0, L⟩ ⟨rfl, rfl, rfl, trivial⟩ ⟨hmat, by simp⟩ (fun s hs => ?_)
    clear hmat
    obtain ⟨more, _, L⟩ := s
    obtain ⟨hmat, hsn⟩ := hs
    dsimp only at *
    cases more with
    | false =>
      have he := hmat.eq (by rw [hen]; exact hsn rfl)
      refine GX.wR ?_; intros
      refine frzG (t := 4) (e := Ty.bool) (l := L) ?_
      have e : L.map (fun x => x.2.2) = leadT e := he
      rw [e]
      exact rt1 (some ⟨b3, 0, none⟩, n) rfl
    | true =>
      obtain ⟨c0, hc0⟩ : ∃ c0, c0 = cnt (L.map (·.2.2)) := ⟨_, rfl⟩
      have hp0 : Pass e c0 false (L.map (·.2.2)) := ⟨hmat, by omega, by simp⟩
      rw [if_pos rfl, ← hc0]
      clear hmat hsn hc0
      refine GX.wR ?_; intros
      refine GX.loop (σ := LmS) (fun s => [(0, .slice aE n cE), (3, .slice (some ⟨b3, 0, none⟩) n n), (5, .bool s.more), (6, .int .i64 (s.i : Int))]) (fun _ => [])
        (fun s => [Own 47 Ty.hdr (some ⟨b3, 0, none⟩) n (s.L.map GX.hd), Owns 4 Ty.bool s.L]) (fun s => s.i ≤ n ∧ Pass e c0 s.more (s.L.map (·.2.2)) ∧ (s.more = false → SeenF e (s.L.map (·.2.2)) s.i)) (fun s => n - s.i)
        ⟨false, 0, L⟩ ⟨rfl, rfl, rfl, rfl, trivial⟩ ⟨Nat.zero_le _, hp0, fun _ f' hf' => absurd hf' (Nat.not_lt_zero _)⟩ (fun s hs => ?_)
      clear hp0
      obtain ⟨more, f, L⟩ := s
      obtain ⟨hf, hp, hsF⟩ := hs
      dsimp only at *
      by_cases hfl : f < n
      · have hkg := kids_get (e := e) (f := f) (by omega)
        have hkz := zs_len (kids e f)
        have hkl := hK f
        refine GX.wR ?_; intros
        refine GX.loop (σ := LmS) (fun s => [(0, .slice aE n cE), (3, .slice (some ⟨b3, 0, none⟩) n n), (5, .bool s.more), (6, .int .i64 (f : Int)), (7, .int .i64 (s.i : Int))]) (fun _ => [])
          (fun s => [Own 47 Ty.hdr (some ⟨b3, 0, none⟩) n (s.L.map GX.hd), Owns 4 Ty.bool s.L]) (fun s => s.i ≤ (kids e f).length ∧ Pass e c0 s.more (s.L.map (·.2.2)) ∧ (s.more = false → SeenF e (s.L.map (·.2.2)) f ∧ SeenK e (s.L.map (·.2.2)) f s.i)) (fun s => (kids e f).length - s.i)
          ⟨more, 0, L⟩ ⟨rfl, rfl, rfl, rfl, rfl, trivial⟩ ⟨Nat.zero_le _, hp, fun hm => ⟨hsF hm, fun k' hk' => absurd hk' (Nat.not_lt_zero _)⟩⟩ (fun s hs => ?_)
        clear hp hsF
        obtain ⟨more, k, L⟩ := s
        obtain ⟨hk, hp, hsK⟩ := hs
        dsimp only at *
        by_cases hkl2 : k < (kids e f).length
        · obtain ⟨h, hh⟩ := get_lt hkl2
          have hhz := zs_get hh
          have hhk := List.mem_of_getElem? hh
          have hhn : h < n := by have := hE f h hhk; omega
          have hR : R e f h := .edge hhk
          refine GX.wR ?_; intros
          refine GX.loop (σ := LmS) (fun s => [(0, .slice aE n cE), (3, .slice (some ⟨b3, 0, none⟩) n n), (5, .bool s.more), (6, .int .i64 (f : Int)), (7, .int .i64 (k : Int)), (8, .int .i64 (s.i : Int))]) (fun _ => [])
            (fun s => [Own 47 Ty.hdr (some ⟨b3, 0, none⟩) n (s.L.map GX.hd), Owns 4 Ty.bool s.L]) (fun s => s.i ≤ n ∧ Pass e c0 s.more (s.L.map (·.2.2)) ∧ (s.more = false → SeenF e (s.L.map (·.2.2)) f ∧ SeenK e (s.L.map (·.2.2)) f k ∧ SeenG (s.L.map (·.2.2)) f h s.i)) (fun s => n - s.i)
            ⟨more, 0, L⟩ ⟨rfl, rfl, rfl, rfl, rfl, rfl, trivial⟩ ⟨Nat.zero_le _, hp, fun hm => ⟨(hsK hm).1, (hsK hm).2, fun g' hg' => absurd hg' (Nat.not_lt_zero _)⟩⟩ (fun s hs => ?_)
          clear hp hsK
          obtain ⟨more, g, L⟩ := s
          obtain ⟨hg, hp, hsG⟩ := hs
          dsimp only at *
          obtain ⟨M, hM⟩ : ∃ M, M = L.map (·.2.2) := ⟨_, rfl⟩
          rw [← hM] at hp hsG
          by_cases hgl : g < n
          · have hLl : L.length = n := by have := hp.mat.len; rw [hM, List.length_map] at this; omega
            have hLh : (L.map GX.hd).length = n := by rw [List.length_map]; exact hLl
            obtain ⟨af, cf, hLf, hhf⟩ := snd_get hM.symm (row_get (M := M) (f := f) (by rw [hp.mat.len]; omega))
            obtain ⟨ah, ch, hLh2, hhh⟩ := snd_get hM.symm (row_get (M := M) (f := h) (by rw [hp.mat.len]; omega))
            have hrf := hp.mat.rowl (f := f) (by omega)
            have hrh := hp.mat.rowl (f := h) (by omega)
            rw [hen] at hrf hrh
            obtain ⟨vf, hvf⟩ := get_lt (xs := row M f) (i := g) (by omega)
            obtain ⟨vh, hvh⟩ := get_lt (xs := row M h) (i := g) (by omega)
            have seenG : (vh = true → vf = true) → SeenG M f h g → SeenG M f h (g + 1) := fun hv hs g' hg' ha => by
              by_cases he : g' = g
              · subst he
                have : vh = true := Option.some.inj (hvh.symm.trans ha)
                show (row M f)[g']? = some true
                rw [hvf, hv this]
              · exact hs g' (by omega) ha
            by_cases hne : h = f
            · subst hne
              clear hLf hhf
              have hN0 : (L.set h ((none : Option Addr), 0, ([] : List Bool)))[h]? = some (none, 0, []) := List.getElem?_set_self (by omega)
              refine osT (t := 4) (e := Ty.bool) h ?_ hLh2
              refine GX.opn ah fun _ _ ha => ?_
              obtain ⟨gh, rfl⟩ : ∃ g', ah = some ⟨g', 0, none⟩ := ha.elim (fun hx => absurd hrh (by rw [hx.1]; simp; omega)) id
              clear ha
              have hback : ((L.set h ((none : Option Addr), 0, ([] : List Bool))).set h (some ⟨gh, 0, none⟩, ch, row M h)) = L := by rw [List.set_set, set_get hLh2]
              cases vh with
              | false =>
                refine GX.wR ?_; intros
                refine osP (t := 4) (e := Ty.bool) (ao := some ⟨gh, 0, none⟩) h ?_ hN0
                rw [hback]
                exact again ⟨more, g + 1, L⟩ ⟨rfl, rfl, rfl, rfl, rfl, rfl, trivial⟩ ⟨by dsimp only; omega, by dsimp only; rw [← hM]; exact hp, fun hm => by dsimp only; rw [← hM]; exact ⟨(hsG hm).1, (hsG hm).2.1, seenG (by simp) (hsG hm).2.2⟩⟩ (by dsimp only; omega)
              | true =>
                refine GX.wR ?_; intros
                refine osP (t := 4) (e := Ty.bool) (ao := some ⟨gh, 0, none⟩) h ?_ hN0
                rw [hback]
                exact again ⟨more, g + 1, L⟩ ⟨rfl, rfl, rfl, rfl, rfl, rfl, trivial⟩ ⟨by dsimp only; omega, by dsimp only; rw [← hM]; exact hp, fun hm => by dsimp only; rw [← hM]; exact ⟨(hsG hm).1, (hsG hm).2.1, seenG (fun _ => Option.some.inj (hvf.symm.trans hvh)) (hsG hm).2.2⟩⟩ (by dsimp only; omega)
            · refine osT (t := 4) (e := Ty.bool) h ?_ hLh2
              refine GX.opn ah fun _ _ ha => ?_
              obtain ⟨gh, rfl⟩ : ∃ g', ah = some ⟨g', 0, none⟩ := ha.elim (fun hx => absurd hrh (by rw [hx.1]; simp; omega)) id
              clear ha
              have hLf2 : (L.set h ((none : Option Addr), 0, ([] : List Bool)))[f]? = some (af, cf, row M f) := by rw [List.getElem?_set_ne hne]; exact hLf
              have hN1 : ((L.set h ((none : Option Addr), 0, ([] : List Bool))).set f (none, 0, []))[f]? = some (none, 0, []) := List.getElem?_set_self (by rw [List.length_set]; omega)
              have hN2 : ∀ z, (((L.set h ((none : Option Addr), 0, ([] : List Bool))).set f (none, 0, [])).set f z)[h]? = some (none, 0, []) := fun z => by rw [List.getElem?_set_ne (Ne.symm hne), List.getElem?_set_ne (Ne.symm hne), List.getElem?_set_self (by omega)]
              refine osT (t := 4) (e := Ty.bool) f ?_ hLf2
              refine GX.opn af fun _ _ ha => ?_
              obtain ⟨gf, rfl⟩ : ∃ g', af = some ⟨g', 0, none⟩ := ha.elim (fun hx => absurd hrf (by rw [hx.1]; simp; omega)) id
              clear ha
              cases vh with
              | false =>
                refine GX.wR ?_; intros
                refine osP (t := 4) (e := Ty.bool) (ao := some ⟨gf, 0, none⟩) f ?_ hN1
                refine osP (t := 4) (e := Ty.bool) (ao := some ⟨gh, 0, none⟩) h ?_ (hN2 _)
                rw [back2 hLh2 hne, set_get hLf]
                exact again ⟨more, g + 1, L⟩ ⟨rfl, rfl, rfl, rfl, rfl, rfl, trivial⟩ ⟨by dsimp only; omega, by dsimp only; rw [← hM]; exact hp, fun hm => by dsimp only; rw [← hM]; exact ⟨(hsG hm).1, (hsG hm).2.1, seenG (by simp) (hsG hm).2.2⟩⟩ (by dsimp only; omega)
              | true =>
                cases vf with
                | true =>
                  refine GX.wR ?_; intros
                  refine osP (t := 4) (e := Ty.bool) (ao := some ⟨gf, 0, none⟩) f ?_ hN1
                  refine osP (t := 4) (e := Ty.bool) (ao := some ⟨gh, 0, none⟩) h ?_ (hN2 _)
                  rw [back2 hLh2 hne, set_get hLf]
                  exact again ⟨more, g + 1, L⟩ ⟨rfl, rfl, rfl, rfl, rfl, rfl, trivial⟩ ⟨by dsimp only; omega, by dsimp only; rw [← hM]; exact hp, fun hm => by dsimp only; rw [← hM]; exact ⟨(hsG hm).1, (hsG hm).2.1, seenG (by simp) (hsG hm).2.2⟩⟩ (by dsimp only; omega)
                | false =>
                  refine GX.wR ?_; intros
                  have hlen2 : ((row M f).set g true).length = (row M f).length := List.length_set ..
                  refine osP (t := 4) (e := Ty.bool) (ao := some ⟨gf, 0, none⟩) f ?_ hN1
                  refine osP (t := 4) (e := Ty.bool) (ao := some ⟨gh, 0, none⟩) h ?_ (hN2 _)
                  rw [back2 hLh2 hne, ← hd_same hLf hlen2]
                  have hM2 : (L.set f (some ⟨gf, 0, none⟩, cf, (row M f).set g true)).map (·.2.2) = TarM.mark M f g := by rw [List.map_set, ← hM]; rfl
                  have hR2 : R e f g := (R.edge hhk).trans (hp.mat.sound h g hvh)
                  have hfM : f < M.length := by rw [hp.mat.len]; omega
                  have hcn := cnt_mark hfM hvf
                  have hle := hp.le
                  exact again ⟨true, g + 1, L.set f (some ⟨gf, 0, none⟩, cf, (row M f).set g true)⟩ ⟨rfl, rfl, rfl, rfl, rfl, rfl, trivial⟩ ⟨by dsimp only; omega, by dsimp only; rw [hM2]; exact ⟨hp.mat.mark (by omega) hR2, by omega, fun _ => by omega⟩, fun hm => by cases hm⟩ (by dsimp only; omega)
          · obtain rfl : n = g := by omega
            refine GX.wR ?_; intros
            rw [hM] at hp hsG
            refine again ⟨more, k + 1, L⟩ ⟨rfl, rfl, rfl, rfl, rfl, trivial⟩ ⟨by dsimp only; omega, hp, fun hm => ⟨(hsG hm).1, SeenG.all hp.mat (by rw [hen]; exact (hsG hm).2.2) hh (hsG hm).2.1⟩⟩ (by dsimp only; omega)
        · obtain rfl : k = (kids e f).length := by omega
          refine GX.wR ?_; intros
          refine again ⟨more, f + 1, L⟩ ⟨rfl, rfl, rfl, rfl, trivial⟩ ⟨by dsimp only; omega, hp, fun hm => (hsK hm).2.all (hsK hm).1⟩ (by dsimp only; omega)
      · obtain rfl : n = f := by omega
        refine GX.wR ?_; intros
        refine again ⟨more, 0, L⟩ ⟨rfl, rfl, rfl, trivial⟩ ⟨hp.mat, hsF⟩ ?_
        dsimp only
        cases more with
        | false => simp
        | true => have := hp.lt rfl; simp; omega
end Go.Proofs.Ytkfbchefealfoaa
