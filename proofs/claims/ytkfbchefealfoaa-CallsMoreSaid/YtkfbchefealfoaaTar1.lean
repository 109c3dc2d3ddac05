/- The walk over ends of package calls. -/
import Derived.Test.YtkfbchefealfoaaSeqG
import Derived.Test.YtkfbchefealfoaaSlcIx
import Derived.Test.YtkfbchefealfoaaGCut
import Derived.Test.YtkfbchefealfoaaTarMem
namespace Go.Proofs.Ytkfbchefealfoaa
open Go Go.RR Go.RX Go.GX Go.Api Go.CalM Go.TarM Go.RiseM
attribute [local irreducible] wpList Code.wp wpPlan Exit.then Exit.inBlock bodyPost NoPanic Went GX.Post GX.Again GX.Meet GX.RowR GX.Own GX.Owns GX.Box GX.Sl GX.Pt GX.Ag GX.MapR GX.Kept GX.Pin wpT GoK AtEnd Both

structure TH where
  aO : Option Addr
  cO : Nat
  aC : Option Addr
  cC : Nat
theorem sorted_zs {l : List Nat} (e : List (List Nat)) (f : Nat) (h : ∀ x, x ∈ l ↔ x ∈ scc e f) (hn : l.Nodup) : sorted (zs l) = zs (scc e f) := by
  refine Rise.eq ?_ (scc_rise e f) fun x => ?_
  · have h1 := sorted_rise (zs l)
    have h2 : (sorted (zs l)).Nodup := (List.mergeSort_perm (zs l) _).nodup_iff.2 (zs_nodup hn)
    exact (h1.and h2).imp fun h => by have := h.1; have := h.2; omega
  · rw [sorted_mem, zs_mem', zs_mem']
    constructor
    · rintro ⟨k, rfl, hk⟩; exact ⟨k, rfl, (h k).1 hk⟩
    · rintro ⟨k, rfl, hk⟩; exact ⟨k, rfl, (h k).2 hk⟩
theorem ends_spec (p bm bl bd n : Nat) (aE : Option Addr) (cE : Nat) (c : TH) (s : TS) (e : List (List Nat)) (f : Nat) (A B : List Nat) (hf : f < n) (ho : opn s = A ++ f :: B) (hA : f ∉ A) (hE : opn (endS e s f) = A) (hs : ∀ x, x ∈ f :: B ↔ x ∈ scc e f) (hd : (f :: B).Nodup) (hen : e.length = n) (hn : n ≤ 1000) (hol : (opn s).length ≤ 1000) (hcl : s.comps.length ≤ 1000) :
    Does Try.prog 24 [.pointer (some ⟨p, 0, none⟩), .int .i64 (f : Int)] [] [RowR p 49 [.slice aE n cE, .slice (some ⟨bm, 0, none⟩) n n, .slice (some ⟨bl, 0, none⟩) n n, .slice c.aO (zs (opn s)).length c.cO, .slice (some ⟨bd, 0, none⟩) n n, .int .i64 (s.met.length : Int), .slice c.aC (s.comps.map zs).length c.cC], GX.Own 3 Ty.int (some ⟨bm, 0, none⟩) n (metL n s.met), GX.Own 3 Ty.int (some ⟨bl, 0, none⟩) n (zs s.low), GX.Own 3 Ty.int c.aO c.cO (zs (opn s)), GX.Own 4 Ty.bool (some ⟨bd, 0, none⟩) n (doneL n s.comps), GX.Own 34 (Ty.slice Ty.int) c.aC c.cC (s.comps.map zs)] (fun _ : TH => .tuple #[]) (fun _ => []) (fun r => [RowR p 49 [.slice aE n cE, .slice (some ⟨bm, 0, none⟩) n n, .slice (some ⟨bl, 0, none⟩) n n, .slice r.aO (zs (opn (endS e s f))).length r.cO, .slice (some ⟨bd, 0, none⟩) n n, .int .i64 ((endS e s f).met.length : Int), .slice r.aC ((endS e s f).comps.map zs).length r.cC], GX.Own 3 Ty.int (some ⟨bm, 0, none⟩) n (metL n (endS e s f).met), GX.Own 3 Ty.int (some ⟨bl, 0, none⟩) n (zs (endS e s f).low), GX.Own 3 Ty.int r.aO r.cO (zs (opn (endS e s f))), GX.Own 4 Ty.bool (some ⟨bd, 0, none⟩) n (doneL n (endS e s f).comps), GX.Own 34 (Ty.slice Ty.int) r.aC r.cC ((endS e s f).comps.map zs)]) := by
  refine enter Try.func24 rfl Try.ntmps24 rfl fun b => ?_
  obtain ⟨aO, cO, aC, cC⟩ := c
  dsimp only
  rw [ho]
  refine GX.opn aO fun hol1 hol2 ha => ?_
  obtain ⟨g, rfl⟩ : ∃ g, aO = some ⟨g, 0, none⟩ := ha.elim (fun h => absurd h.1 (by simp [zs])) id
  clear ha
  refine GX.wR ?_; intros
  refine GX.o (cl ((index_spec (some ⟨g, 0, none⟩) cO (zs (A ++ f :: B)) (f : Int)).lend (t := 3)) fun _ => ?_)
  have hzl : (zs (A ++ f :: B)).length = A.length + (B.length + 1) := by rw [zs_len, List.length_append, List.length_cons]
  have hAB : A.length + (B.length + 1) ≤ 1000 := by rw [ho, List.length_append, List.length_cons] at hol; exact hol
  have hix : idxF (fun x => decide ((f : Int) = x)) (zs (A ++ f :: B)) = (A.length : Int) := by
    refine idxF_some (x := (f : Int)) (zs_get (by rw [List.getElem?_append_right (Nat.le_refl _), Nat.sub_self]; rfl)) (decide_eq_true rfl) fun y hy => decide_eq_false fun h => ?_
    subst h
    rw [zs_take, List.take_left' rfl] at hy
    exact hA (zs_mem.1 hy)
  rw [hix]
  have hdrop : (zs (A ++ f :: B)).drop A.length = zs (f :: B) := by rw [zs_drop, List.drop_left' rfl]
  have htake : (zs (A ++ f :: B)).take A.length = zs A := by rw [zs_take, List.take_left' rfl]
  refine GX.wR ?_; intros
  refine GX.o (ol (j := A.length) (fun o2 ho2 => ?_))
  have ho2 : o2 = A.length := by have := ho2 (by omega); omega
  subst ho2
  refine GX.wR ?_; intros
  refine GX.o (cl (valuesG_spec (some ⟨g, A.length, none⟩) ((zs (A ++ f :: B)).length - A.length) (cO - A.length)) fun bv => ?_)
  refine GX.wR ?_; intros
  refine GX.o (cl (sortedG_spec bv g A.length ((zs (A ++ f :: B)).length - A.length) cO (cO - A.length) (zs (A ++ f :: B)) (by omega) (by omega)) fun sv => ?_)
  obtain ⟨aL, cL⟩ := sv
  rw [hdrop, sorted_zs e f hs hd]
  refine GX.wR ?_; intros
  refine GX.o (oh (j := A.length) ?_)
  refine GX.wR ?_; intros
  refine ownTake (some ⟨g, 0, none⟩) A.length ?_
  rw [htake]
  have hll := scc_len e f
  dsimp only
  refine frz aL ?_
  rw [← doneG_nil]
  refine GX.loop (σ := Nat) (fun j => [(0, .pointer (some ⟨p, 0, none⟩)), (5, .slice aL (zs (scc e f)).length cL), (31, .slice aL (zs (scc e f)).length cL), (32, .int .i64 ((zs (scc e f)).length : Int)), (33, .int .i64 (j : Int))]) (fun _ => [])
    (fun j => [GX.Own 3 Ty.int (some ⟨g, 0, none⟩) cO (zs A), RowR p 49 [.slice aE n cE, .slice (some ⟨bm, 0, none⟩) n n, .slice (some ⟨bl, 0, none⟩) n n, .slice (some ⟨g, 0, none⟩) A.length cO, .slice (some ⟨bd, 0, none⟩) n n, .int .i64 (s.met.length : Int), .slice aC (s.comps.map zs).length cC], GX.Own 3 Ty.int (some ⟨bm, 0, none⟩) n (metL n s.met), GX.Own 3 Ty.int (some ⟨bl, 0, none⟩) n (zs s.low), GX.Own 4 Ty.bool (some ⟨bd, 0, none⟩) n (doneG n s.comps ((scc e f).take j)), GX.Own 34 (Ty.slice Ty.int) aC cC (s.comps.map zs)])
    (fun j => j ≤ (zs (scc e f)).length) (fun j => (zs (scc e f)).length - j) 0 ⟨rfl, rfl, rfl, rfl, rfl, trivial⟩ (by omega) (fun j hj => ?_)
  by_cases hlt : j < (zs (scc e f)).length
  · have hjl : j < (scc e f).length := by rw [← zs_len]; exact hlt
    obtain ⟨x, hx⟩ := get_lt hjl
    have hxz := zs_get hx
    have hxn : x < n := by rw [← hen]; exact (scc_mem.1 (List.mem_of_getElem? hx)).1
    have hdl := doneG_len n s.comps ((scc e f).take j)
    have hst := doneG_set n s.comps ((scc e f).take j) x
    have htk : (scc e f).take j ++ [x] = (scc e f).take (j + 1) := by rw [List.take_add_one, hx]; rfl
    rw [htk] at hst
    refine GX.wR ?_; intros
    rw [hst]
    exact again (j + 1) ⟨rfl, rfl, rfl, rfl, rfl, trivial⟩ (by omega) (by omega)
  · have hjl : (scc e f).length ≤ j := by rw [← zs_len]; omega
    rw [List.take_of_length_le hjl, doneG_all]
    have hcm : (s.comps.map zs).length ≤ 1000 := by rw [List.length_map]; exact hcl
    refine GX.wR ?_; intros
    have e1 : s.comps.map zs ++ [zs (scc e f)] = (s.comps ++ [scc e f]).map zs := by simp
    rw [e1, hE, zs_len A]
    refine GX.nmS 51 ?_; rintro a5 c5 rfl rfl
    exact en0 (⟨some ⟨g, 0, none⟩, cO, a5, c5⟩ : TH)
end Go.Proofs.Ytkfbchefealfoaa
