/- FindMany: for all n the law returns true. No condition. -/
import Derived.Test.YtfcmohfddjcfkaaLawFindNil
namespace Go.Proofs.Ytfcmohfddjcfkaa
open Go Go.RR Go.RX Go.FindM Go.ChangeShapes Go.WideShapes Go.ChangeAt Go.RowKit
attribute [local irreducible] wpList Code.wp wpPlan Exit.then Exit.inBlock bodyPost NoPanic Went

theorem sets3 : sets (List.range 3) = [[0], [1], [2]] := by decide

/-- A grid's value is a slice as long as the list. -/
theorem SetsAt.shape {w : World} {B : Nat} {v : Value} {xss : List (List Nat)} (h : SetsAt w B v xss) : ∃ ao cap, v = .slice ao xss.length cap := by
  obtain ⟨cs, ⟨ao, cap, h1, _⟩, _⟩ := h.reads (fun _ => True) (fun _ _ => trivial)
  simp only [List.length_map] at h1
  exact ⟨ao, cap, h1⟩

set_option maxHeartbeats 1000000 in
theorem findMany_calls (w : World) (n : Int) (_ : -9223372036854775808 ≤ n ∧ n ≤ 9223372036854775807) :
    Calls Try.prog 7 #[.int .i64 n] w fun e w' => e = .returned (.bool true) ∧ Upd (fun _ => False) w w' := by
  refine enter1 Try.func7 rfl Try.ntmps7 rfl ?_
  by_cases hn0 : n < 9000
  · repeat (first | (refine RX.o ?_; first | refine RX.m ?_ | refine RX.a ?_ | refine RX.nc ?_ | refine RX.f0 ?_ | refine RX.fh ?_ | refine RX.fa ?_ | refine RX.ld ?_ | refine RX.lk_ ?_ | (refine RX.isBin ?_; first | refine RX.b_lss ?_ | refine RX.b_eql ?_ | refine RX.b_neq ?_ | refine RX.b_geq ?_ | refine RX.b_gtr ?_ | refine RX.b_leq ?_ | refine RX.b_inc ?_ | refine RX.b_add ?_ | refine RX.b_sub ?_ | refine RX.b_pn ?_ | refine RX.b_nn ?_ | refine RX.b_pm ?_ | refine RX.b_nm ?_ | refine RX.b_eqls ?_ | refine RX.b_eqltf ?_ | refine RX.b_eqlft ?_ | refine RX.b_eqlb ?_ | refine RX.b_neqs ?_ | refine RX.b_neqtf ?_ | refine RX.b_neqft ?_ | refine RX.b_neqb ?_) | (refine RX.isCall ?_; first | refine RX.c_len ?_ | refine RX.c_max ?_ | refine RX.c_min ?_) | refine RX.i1 ?_ | refine RX.io ?_ | refine RX.is_ ?_ | refine RX.pt ?_ | refine RX.pf ?_ | refine RX.nt ?_ | refine RX.nf ?_ | refine RX.n_ ?_ | refine RX.ex ?_ | refine RX.bd ?_ | refine RX.so ?_) | refine RX.gt ?_ | refine RX.gf ?_ | refine RX.nil ?_ | refine RX.then_normal ?_ | refine RX.seq ?_ | refine RX.region ?_ | refine RX.ct ?_ | refine RX.cf ?_ | refine RX.skip ?_ | refine RX.block ?_ | refine RX.inBlock_normal ?_ | refine RX.exit ?_ | refine RX.then_exit ?_ | refine RX.inBlock_exit ?_ | refine RX.ibo ?_ | refine RX.ret ?_ | refine RX.then_ret ?_ | refine RX.inBlock_ret ?_ | refine RX.un ?_ | refine RX.un0 ?_ | refine RX.cdf ?_ | refine RX.cdt ?_)
    exact ret1 rfl rfl ⟨rfl, Upd.refl _ _⟩
  by_cases hn1 : 11000 < n
  · repeat (first | (refine RX.o ?_; first | refine RX.m ?_ | refine RX.a ?_ | refine RX.nc ?_ | refine RX.f0 ?_ | refine RX.fh ?_ | refine RX.fa ?_ | refine RX.ld ?_ | refine RX.lk_ ?_ | (refine RX.isBin ?_; first | refine RX.b_lss ?_ | refine RX.b_eql ?_ | refine RX.b_neq ?_ | refine RX.b_geq ?_ | refine RX.b_gtr ?_ | refine RX.b_leq ?_ | refine RX.b_inc ?_ | refine RX.b_add ?_ | refine RX.b_sub ?_ | refine RX.b_pn ?_ | refine RX.b_nn ?_ | refine RX.b_pm ?_ | refine RX.b_nm ?_ | refine RX.b_eqls ?_ | refine RX.b_eqltf ?_ | refine RX.b_eqlft ?_ | refine RX.b_eqlb ?_ | refine RX.b_neqs ?_ | refine RX.b_neqtf ?_ | refine RX.b_neqft ?_ | refine RX.b_neqb ?_) | (refine RX.isCall ?_; first | refine RX.c_len ?_ | refine RX.c_max ?_ | refine RX.c_min ?_) | refine RX.i1 ?_ | refine RX.io ?_ | refine RX.is_ ?_ | refine RX.pt ?_ | refine RX.pf ?_ | refine RX.nt ?_ | refine RX.nf ?_ | refine RX.n_ ?_ | refine RX.ex ?_ | refine RX.bd ?_ | refine RX.so ?_) | refine RX.gt ?_ | refine RX.gf ?_ | refine RX.nil ?_ | refine RX.then_normal ?_ | refine RX.seq ?_ | refine RX.region ?_ | refine RX.ct ?_ | refine RX.cf ?_ | refine RX.skip ?_ | refine RX.block ?_ | refine RX.inBlock_normal ?_ | refine RX.exit ?_ | refine RX.then_exit ?_ | refine RX.inBlock_exit ?_ | refine RX.ibo ?_ | refine RX.ret ?_ | refine RX.then_ret ?_ | refine RX.inBlock_ret ?_ | refine RX.un ?_ | refine RX.un0 ?_ | refine RX.cdf ?_ | refine RX.cdt ?_)
    exact ret1 rfl rfl ⟨rfl, Upd.refl _ _⟩
  repeat (first | (refine RX.o ?_; first | refine RX.m ?_ | refine RX.a ?_ | refine RX.nc ?_ | refine RX.f0 ?_ | refine RX.fh ?_ | refine RX.fa ?_ | refine RX.ld ?_ | refine RX.lk_ ?_ | (refine RX.isBin ?_; first | refine RX.b_lss ?_ | refine RX.b_eql ?_ | refine RX.b_neq ?_ | refine RX.b_geq ?_ | refine RX.b_gtr ?_ | refine RX.b_leq ?_ | refine RX.b_inc ?_ | refine RX.b_add ?_ | refine RX.b_sub ?_ | refine RX.b_pn ?_ | refine RX.b_nn ?_ | refine RX.b_pm ?_ | refine RX.b_nm ?_ | refine RX.b_eqls ?_ | refine RX.b_eqltf ?_ | refine RX.b_eqlft ?_ | refine RX.b_eqlb ?_ | refine RX.b_neqs ?_ | refine RX.b_neqtf ?_ | refine RX.b_neqft ?_ | refine RX.b_neqb ?_) | (refine RX.isCall ?_; first | refine RX.c_len ?_ | refine RX.c_max ?_ | refine RX.c_min ?_) | refine RX.i1 ?_ | refine RX.io ?_ | refine RX.is_ ?_ | refine RX.pt ?_ | refine RX.pf ?_ | refine RX.nt ?_ | refine RX.nf ?_ | refine RX.n_ ?_ | refine RX.ex ?_ | refine RX.bd ?_ | refine RX.so ?_) | refine RX.gt ?_ | refine RX.gf ?_ | refine RX.nil ?_ | refine RX.then_normal ?_ | refine RX.seq ?_ | refine RX.region ?_ | refine RX.ct ?_ | refine RX.cf ?_ | refine RX.skip ?_ | refine RX.block ?_ | refine RX.inBlock_normal ?_ | refine RX.exit ?_ | refine RX.then_exit ?_ | refine RX.inBlock_exit ?_ | refine RX.ibo ?_ | refine RX.ret ?_ | refine RX.then_ret ?_ | refine RX.inBlock_ret ?_ | refine RX.un ?_ | refine RX.un0 ?_ | refine RX.cdf ?_ | refine RX.cdt ?_)
  refine RX.o ?_
  refine call rfl (new_any _ _) rfl ?_
  rintro e w1 ⟨pb, b, rfl, hpb, hb, hf1, hu1⟩; refine ⟨_, rfl, ?_⟩
  have hm : min n 10000 = (many n : Int) := by unfold many; omega
  have hM : 9000 ≤ many n ∧ many n ≤ 10000 := by unfold many; omega
  have hjr := join_range (many n) 0 ((many n : Int) - 1)
  have hjl : (join (List.range (many n)) 0 ((many n : Int) - 1)).2.length = many n := by
    unfold join; split <;> simp [joined_length]
  have hj1 : (join (List.range (many n)) 0 ((many n : Int) - 1)).1 = true := by rw [hjr]; rw [decide_eq_true_eq]; omega
  have hl0 : least (join (List.range (many n)) 0 ((many n : Int) - 1)).2 ((many n : Int) - 1) = 0 := by
    unfold join
    rw [least_range (by omega), least_range (by omega), if_neg (by omega)]
    dsimp only
    unfold least
    rw [joined_length, List.length_range, if_pos (by omega), joined_getD _ _ _ _ (by rw [List.length_range]; omega)]
    have : (List.range (many n)).getD ((many n : Int) - 1).toNat 0 = ((many n : Int) - 1).toNat := by
      have : ((many n : Int) - 1).toNat < many n := by omega
      rw [List.getD, List.getElem?_range this]; rfl
    rw [this, if_pos (Or.inr rfl)]
    simp
  have hlm : least (join (List.range (many n)) 0 ((many n : Int) - 1)).2 (many n : Int) = -1 := by
    unfold least
    rw [hjl, if_neg (by omega)]
  generalize hL : join (List.range (many n)) 0 ((many n : Int) - 1) = L at *
  have hjoin := join_any 0 ((many n : Int) - 1) w1 pb b _ hf1
  rw [hL, hj1] at hjoin
  have hj2 : join L.2 1 (many n : Int) = (false, L.2) := by
    unfold join
    rw [hlm, if_pos (by omega)]
  repeat (first | (refine RX.o ?_; first | refine RX.m ?_ | refine RX.a ?_ | refine RX.nc ?_ | refine RX.f0 ?_ | refine RX.fh ?_ | refine RX.fa ?_ | refine RX.ld ?_ | refine RX.lk_ ?_ | (refine RX.isBin ?_; first | refine RX.b_lss ?_ | refine RX.b_eql ?_ | refine RX.b_neq ?_ | refine RX.b_geq ?_ | refine RX.b_gtr ?_ | refine RX.b_leq ?_ | refine RX.b_inc ?_ | refine RX.b_add ?_ | refine RX.b_sub ?_ | refine RX.b_pn ?_ | refine RX.b_nn ?_ | refine RX.b_pm ?_ | refine RX.b_nm ?_ | refine RX.b_eqls ?_ | refine RX.b_eqltf ?_ | refine RX.b_eqlft ?_ | refine RX.b_eqlb ?_ | refine RX.b_neqs ?_ | refine RX.b_neqtf ?_ | refine RX.b_neqft ?_ | refine RX.b_neqb ?_) | (refine RX.isCall ?_; first | refine RX.c_len ?_ | refine RX.c_max ?_ | refine RX.c_min ?_) | refine RX.i1 ?_ | refine RX.io ?_ | refine RX.is_ ?_ | refine RX.pt ?_ | refine RX.pf ?_ | refine RX.nt ?_ | refine RX.nf ?_ | refine RX.n_ ?_ | refine RX.ex ?_ | refine RX.bd ?_ | refine RX.so ?_) | refine RX.gt ?_ | refine RX.gf ?_ | refine RX.nil ?_ | refine RX.then_normal ?_ | refine RX.seq ?_ | refine RX.region ?_ | refine RX.ct ?_ | refine RX.cf ?_ | refine RX.skip ?_ | refine RX.block ?_ | refine RX.inBlock_normal ?_ | refine RX.exit ?_ | refine RX.then_exit ?_ | refine RX.inBlock_exit ?_ | refine RX.ibo ?_ | refine RX.ret ?_ | refine RX.then_ret ?_ | refine RX.inBlock_ret ?_ | refine RX.un ?_ | refine RX.un0 ?_ | refine RX.cdf ?_ | refine RX.cdt ?_)
  refine RX.o ?_
  rw [hm]
  refine call rfl hjoin rfl ?_
  rintro e w2 ⟨rfl, hf2, hu2⟩; refine ⟨_, rfl, ?_⟩
  repeat (first | (refine RX.o ?_; first | refine RX.m ?_ | refine RX.a ?_ | refine RX.nc ?_ | refine RX.f0 ?_ | refine RX.fh ?_ | refine RX.fa ?_ | refine RX.ld ?_ | refine RX.lk_ ?_ | (refine RX.isBin ?_; first | refine RX.b_lss ?_ | refine RX.b_eql ?_ | refine RX.b_neq ?_ | refine RX.b_geq ?_ | refine RX.b_gtr ?_ | refine RX.b_leq ?_ | refine RX.b_inc ?_ | refine RX.b_add ?_ | refine RX.b_sub ?_ | refine RX.b_pn ?_ | refine RX.b_nn ?_ | refine RX.b_pm ?_ | refine RX.b_nm ?_ | refine RX.b_eqls ?_ | refine RX.b_eqltf ?_ | refine RX.b_eqlft ?_ | refine RX.b_eqlb ?_ | refine RX.b_neqs ?_ | refine RX.b_neqtf ?_ | refine RX.b_neqft ?_ | refine RX.b_neqb ?_) | (refine RX.isCall ?_; first | refine RX.c_len ?_ | refine RX.c_max ?_ | refine RX.c_min ?_) | refine RX.i1 ?_ | refine RX.io ?_ | refine RX.is_ ?_ | refine RX.pt ?_ | refine RX.pf ?_ | refine RX.nt ?_ | refine RX.nf ?_ | refine RX.n_ ?_ | refine RX.ex ?_ | refine RX.bd ?_ | refine RX.so ?_) | refine RX.gt ?_ | refine RX.gf ?_ | refine RX.nil ?_ | refine RX.then_normal ?_ | refine RX.seq ?_ | refine RX.region ?_ | refine RX.ct ?_ | refine RX.cf ?_ | refine RX.skip ?_ | refine RX.block ?_ | refine RX.inBlock_normal ?_ | refine RX.exit ?_ | refine RX.then_exit ?_ | refine RX.inBlock_exit ?_ | refine RX.ibo ?_ | refine RX.ret ?_ | refine RX.then_ret ?_ | refine RX.inBlock_ret ?_ | refine RX.un ?_ | refine RX.un0 ?_ | refine RX.cdf ?_ | refine RX.cdt ?_)
  refine RX.o ?_
  refine call rfl (least_any _ _ pb b _ hf2) rfl ?_
  rw [hl0]
  rintro e w3 ⟨rfl, hf3, hu3⟩; refine ⟨_, rfl, ?_⟩
  repeat (first | (refine RX.o ?_; first | refine RX.m ?_ | refine RX.a ?_ | refine RX.nc ?_ | refine RX.f0 ?_ | refine RX.fh ?_ | refine RX.fa ?_ | refine RX.ld ?_ | refine RX.lk_ ?_ | (refine RX.isBin ?_; first | refine RX.b_lss ?_ | refine RX.b_eql ?_ | refine RX.b_neq ?_ | refine RX.b_geq ?_ | refine RX.b_gtr ?_ | refine RX.b_leq ?_ | refine RX.b_inc ?_ | refine RX.b_add ?_ | refine RX.b_sub ?_ | refine RX.b_pn ?_ | refine RX.b_nn ?_ | refine RX.b_pm ?_ | refine RX.b_nm ?_ | refine RX.b_eqls ?_ | refine RX.b_eqltf ?_ | refine RX.b_eqlft ?_ | refine RX.b_eqlb ?_ | refine RX.b_neqs ?_ | refine RX.b_neqtf ?_ | refine RX.b_neqft ?_ | refine RX.b_neqb ?_) | (refine RX.isCall ?_; first | refine RX.c_len ?_ | refine RX.c_max ?_ | refine RX.c_min ?_) | refine RX.i1 ?_ | refine RX.io ?_ | refine RX.is_ ?_ | refine RX.pt ?_ | refine RX.pf ?_ | refine RX.nt ?_ | refine RX.nf ?_ | refine RX.n_ ?_ | refine RX.ex ?_ | refine RX.bd ?_ | refine RX.so ?_) | refine RX.gt ?_ | refine RX.gf ?_ | refine RX.nil ?_ | refine RX.then_normal ?_ | refine RX.seq ?_ | refine RX.region ?_ | refine RX.ct ?_ | refine RX.cf ?_ | refine RX.skip ?_ | refine RX.block ?_ | refine RX.inBlock_normal ?_ | refine RX.exit ?_ | refine RX.then_exit ?_ | refine RX.inBlock_exit ?_ | refine RX.ibo ?_ | refine RX.ret ?_ | refine RX.then_ret ?_ | refine RX.inBlock_ret ?_ | refine RX.un ?_ | refine RX.un0 ?_ | refine RX.cdf ?_ | refine RX.cdt ?_)
  refine RX.o ?_
  refine call rfl (least_any _ _ pb b _ hf3) rfl ?_
  rw [hlm]
  rintro e w4 ⟨rfl, hf4, hu4⟩; refine ⟨_, rfl, ?_⟩
  repeat (first | (refine RX.o ?_; first | refine RX.m ?_ | refine RX.a ?_ | refine RX.nc ?_ | refine RX.f0 ?_ | refine RX.fh ?_ | refine RX.fa ?_ | refine RX.ld ?_ | refine RX.lk_ ?_ | (refine RX.isBin ?_; first | refine RX.b_lss ?_ | refine RX.b_eql ?_ | refine RX.b_neq ?_ | refine RX.b_geq ?_ | refine RX.b_gtr ?_ | refine RX.b_leq ?_ | refine RX.b_inc ?_ | refine RX.b_add ?_ | refine RX.b_sub ?_ | refine RX.b_pn ?_ | refine RX.b_nn ?_ | refine RX.b_pm ?_ | refine RX.b_nm ?_ | refine RX.b_eqls ?_ | refine RX.b_eqltf ?_ | refine RX.b_eqlft ?_ | refine RX.b_eqlb ?_ | refine RX.b_neqs ?_ | refine RX.b_neqtf ?_ | refine RX.b_neqft ?_ | refine RX.b_neqb ?_) | (refine RX.isCall ?_; first | refine RX.c_len ?_ | refine RX.c_max ?_ | refine RX.c_min ?_) | refine RX.i1 ?_ | refine RX.io ?_ | refine RX.is_ ?_ | refine RX.pt ?_ | refine RX.pf ?_ | refine RX.nt ?_ | refine RX.nf ?_ | refine RX.n_ ?_ | refine RX.ex ?_ | refine RX.bd ?_ | refine RX.so ?_) | refine RX.gt ?_ | refine RX.gf ?_ | refine RX.nil ?_ | refine RX.then_normal ?_ | refine RX.seq ?_ | refine RX.region ?_ | refine RX.ct ?_ | refine RX.cf ?_ | refine RX.skip ?_ | refine RX.block ?_ | refine RX.inBlock_normal ?_ | refine RX.exit ?_ | refine RX.then_exit ?_ | refine RX.inBlock_exit ?_ | refine RX.ibo ?_ | refine RX.ret ?_ | refine RX.then_ret ?_ | refine RX.inBlock_ret ?_ | refine RX.un ?_ | refine RX.un0 ?_ | refine RX.cdf ?_ | refine RX.cdt ?_)
  refine RX.o ?_
  refine call rfl (join_any _ _ _ pb b _ hf4) rfl ?_
  rw [hj2]
  rintro e w5 ⟨rfl, hf5, hu5⟩; refine ⟨_, rfl, ?_⟩
  repeat (first | (refine RX.o ?_; first | refine RX.m ?_ | refine RX.a ?_ | refine RX.nc ?_ | refine RX.f0 ?_ | refine RX.fh ?_ | refine RX.fa ?_ | refine RX.ld ?_ | refine RX.lk_ ?_ | (refine RX.isBin ?_; first | refine RX.b_lss ?_ | refine RX.b_eql ?_ | refine RX.b_neq ?_ | refine RX.b_geq ?_ | refine RX.b_gtr ?_ | refine RX.b_leq ?_ | refine RX.b_inc ?_ | refine RX.b_add ?_ | refine RX.b_sub ?_ | refine RX.b_pn ?_ | refine RX.b_nn ?_ | refine RX.b_pm ?_ | refine RX.b_nm ?_ | refine RX.b_eqls ?_ | refine RX.b_eqltf ?_ | refine RX.b_eqlft ?_ | refine RX.b_eqlb ?_ | refine RX.b_neqs ?_ | refine RX.b_neqtf ?_ | refine RX.b_neqft ?_ | refine RX.b_neqb ?_) | (refine RX.isCall ?_; first | refine RX.c_len ?_ | refine RX.c_max ?_ | refine RX.c_min ?_) | refine RX.i1 ?_ | refine RX.io ?_ | refine RX.is_ ?_ | refine RX.pt ?_ | refine RX.pf ?_ | refine RX.nt ?_ | refine RX.nf ?_ | refine RX.n_ ?_ | refine RX.ex ?_ | refine RX.bd ?_ | refine RX.so ?_) | refine RX.gt ?_ | refine RX.gf ?_ | refine RX.nil ?_ | refine RX.then_normal ?_ | refine RX.seq ?_ | refine RX.region ?_ | refine RX.ct ?_ | refine RX.cf ?_ | refine RX.skip ?_ | refine RX.block ?_ | refine RX.inBlock_normal ?_ | refine RX.exit ?_ | refine RX.then_exit ?_ | refine RX.inBlock_exit ?_ | refine RX.ibo ?_ | refine RX.ret ?_ | refine RX.then_ret ?_ | refine RX.inBlock_ret ?_ | refine RX.un ?_ | refine RX.un0 ?_ | refine RX.cdf ?_ | refine RX.cdt ?_)
  refine RX.o ?_
  refine call rfl (rnew_any _ _) rfl ?_
  rintro e w6 ⟨pr, lv, rfl, hpr, hlv, hr6, hu6⟩; refine ⟨_, rfl, ?_⟩
  rw [show many 3 = 3 from rfl] at hr6
  repeat (first | (refine RX.o ?_; first | refine RX.m ?_ | refine RX.a ?_ | refine RX.nc ?_ | refine RX.f0 ?_ | refine RX.fh ?_ | refine RX.fa ?_ | refine RX.ld ?_ | refine RX.lk_ ?_ | (refine RX.isBin ?_; first | refine RX.b_lss ?_ | refine RX.b_eql ?_ | refine RX.b_neq ?_ | refine RX.b_geq ?_ | refine RX.b_gtr ?_ | refine RX.b_leq ?_ | refine RX.b_inc ?_ | refine RX.b_add ?_ | refine RX.b_sub ?_ | refine RX.b_pn ?_ | refine RX.b_nn ?_ | refine RX.b_pm ?_ | refine RX.b_nm ?_ | refine RX.b_eqls ?_ | refine RX.b_eqltf ?_ | refine RX.b_eqlft ?_ | refine RX.b_eqlb ?_ | refine RX.b_neqs ?_ | refine RX.b_neqtf ?_ | refine RX.b_neqft ?_ | refine RX.b_neqb ?_) | (refine RX.isCall ?_; first | refine RX.c_len ?_ | refine RX.c_max ?_ | refine RX.c_min ?_) | refine RX.i1 ?_ | refine RX.io ?_ | refine RX.is_ ?_ | refine RX.pt ?_ | refine RX.pf ?_ | refine RX.nt ?_ | refine RX.nf ?_ | refine RX.n_ ?_ | refine RX.ex ?_ | refine RX.bd ?_ | refine RX.so ?_) | refine RX.gt ?_ | refine RX.gf ?_ | refine RX.nil ?_ | refine RX.then_normal ?_ | refine RX.seq ?_ | refine RX.region ?_ | refine RX.ct ?_ | refine RX.cf ?_ | refine RX.skip ?_ | refine RX.block ?_ | refine RX.inBlock_normal ?_ | refine RX.exit ?_ | refine RX.then_exit ?_ | refine RX.inBlock_exit ?_ | refine RX.ibo ?_ | refine RX.ret ?_ | refine RX.then_ret ?_ | refine RX.inBlock_ret ?_ | refine RX.un ?_ | refine RX.un0 ?_ | refine RX.cdf ?_ | refine RX.cdt ?_)
  refine RX.o ?_
  refine call rfl (rsets_any _ pr lv _ hr6 (Roots.new 3).fix) rfl ?_
  rintro e w7 ⟨v, rfl, hs, hu7⟩; refine ⟨_, rfl, ?_⟩
  obtain ⟨ao, cap, hv⟩ := hs.shape
  rw [sets3, show ([[0], [1], [2]] : List (List Nat)).length = 3 from rfl] at hv
  subst hv
  repeat (first | (refine RX.o ?_; first | refine RX.m ?_ | refine RX.a ?_ | refine RX.nc ?_ | refine RX.f0 ?_ | refine RX.fh ?_ | refine RX.fa ?_ | refine RX.ld ?_ | refine RX.lk_ ?_ | (refine RX.isBin ?_; first | refine RX.b_lss ?_ | refine RX.b_eql ?_ | refine RX.b_neq ?_ | refine RX.b_geq ?_ | refine RX.b_gtr ?_ | refine RX.b_leq ?_ | refine RX.b_inc ?_ | refine RX.b_add ?_ | refine RX.b_sub ?_ | refine RX.b_pn ?_ | refine RX.b_nn ?_ | refine RX.b_pm ?_ | refine RX.b_nm ?_ | refine RX.b_eqls ?_ | refine RX.b_eqltf ?_ | refine RX.b_eqlft ?_ | refine RX.b_eqlb ?_ | refine RX.b_neqs ?_ | refine RX.b_neqtf ?_ | refine RX.b_neqft ?_ | refine RX.b_neqb ?_) | (refine RX.isCall ?_; first | refine RX.c_len ?_ | refine RX.c_max ?_ | refine RX.c_min ?_) | refine RX.i1 ?_ | refine RX.io ?_ | refine RX.is_ ?_ | refine RX.pt ?_ | refine RX.pf ?_ | refine RX.nt ?_ | refine RX.nf ?_ | refine RX.n_ ?_ | refine RX.ex ?_ | refine RX.bd ?_ | refine RX.so ?_) | refine RX.gt ?_ | refine RX.gf ?_ | refine RX.nil ?_ | refine RX.then_normal ?_ | refine RX.seq ?_ | refine RX.region ?_ | refine RX.ct ?_ | refine RX.cf ?_ | refine RX.skip ?_ | refine RX.block ?_ | refine RX.inBlock_normal ?_ | refine RX.exit ?_ | refine RX.then_exit ?_ | refine RX.inBlock_exit ?_ | refine RX.ibo ?_ | refine RX.ret ?_ | refine RX.then_ret ?_ | refine RX.inBlock_ret ?_ | refine RX.un ?_ | refine RX.un0 ?_ | refine RX.cdf ?_ | refine RX.cdt ?_)
  refine RX.o ?_
  refine call rfl (known_any _) rfl ?_
  rintro e w8 ⟨rfl, hu8⟩; refine ⟨_, rfl, ?_⟩
  repeat (first | (refine RX.o ?_; first | refine RX.m ?_ | refine RX.a ?_ | refine RX.nc ?_ | refine RX.f0 ?_ | refine RX.fh ?_ | refine RX.fa ?_ | refine RX.ld ?_ | refine RX.lk_ ?_ | (refine RX.isBin ?_; first | refine RX.b_lss ?_ | refine RX.b_eql ?_ | refine RX.b_neq ?_ | refine RX.b_geq ?_ | refine RX.b_gtr ?_ | refine RX.b_leq ?_ | refine RX.b_inc ?_ | refine RX.b_add ?_ | refine RX.b_sub ?_ | refine RX.b_pn ?_ | refine RX.b_nn ?_ | refine RX.b_pm ?_ | refine RX.b_nm ?_ | refine RX.b_eqls ?_ | refine RX.b_eqltf ?_ | refine RX.b_eqlft ?_ | refine RX.b_eqlb ?_ | refine RX.b_neqs ?_ | refine RX.b_neqtf ?_ | refine RX.b_neqft ?_ | refine RX.b_neqb ?_) | (refine RX.isCall ?_; first | refine RX.c_len ?_ | refine RX.c_max ?_ | refine RX.c_min ?_) | refine RX.i1 ?_ | refine RX.io ?_ | refine RX.is_ ?_ | refine RX.pt ?_ | refine RX.pf ?_ | refine RX.nt ?_ | refine RX.nf ?_ | refine RX.n_ ?_ | refine RX.ex ?_ | refine RX.bd ?_ | refine RX.so ?_) | refine RX.gt ?_ | refine RX.gf ?_ | refine RX.nil ?_ | refine RX.then_normal ?_ | refine RX.seq ?_ | refine RX.region ?_ | refine RX.ct ?_ | refine RX.cf ?_ | refine RX.skip ?_ | refine RX.block ?_ | refine RX.inBlock_normal ?_ | refine RX.exit ?_ | refine RX.then_exit ?_ | refine RX.inBlock_exit ?_ | refine RX.ibo ?_ | refine RX.ret ?_ | refine RX.then_ret ?_ | refine RX.inBlock_ret ?_ | refine RX.un ?_ | refine RX.un0 ?_ | refine RX.cdf ?_ | refine RX.cdt ?_)
  refine ret1 rfl rfl ⟨rfl, ?_⟩
  have hA : Upd (fun _ => False) w w5 := ((((hu1.trans hu2 (fun _ _ h => h) (fun j hj e => by omega)).trans hu3 (fun _ _ h => h) (fun j hj e => by omega)).trans hu4 (fun _ _ h => h) (fun j hj e => by omega)).trans hu5 (fun _ _ h => h) (fun j hj e => by omega))
  exact ((hA.trans hu6 (fun _ _ h => h) (fun _ _ h => h)).trans hu7 (fun _ _ h => h) (fun _ _ h => h)).trans hu8 (fun _ _ h => h) (fun _ _ h => h)

theorem findMany_own : ownKnob Try.prog.godebug = none := by kernel_rfl
theorem findMany_laidOut : laidOutB Try.prog = true := by kernel_rfl
set_option maxRecDepth 100000 in
theorem findMany_lifted (os : Os) (started : os.Started) (H : Type) (enc : TypeId × Value → H) :
    ReturnsInHanded {} Try.checked os 7 .any (Rows.findManySpec.pre6 enc Try.prog Try.f7 Rows.findManyRow.domain false) (Rows.findManySpec.post enc Try.prog Try.f7 false true false false) := by
  refine returnsInHanded_of_change (C := Try.checked) findMany_own started (by kernel_rfl) Try.func7
    (ChangeSpec.witness6 (enc := enc) (C := Try.checked) false ⟨#[], #[.int .i64 0], []⟩ 8 (by kernel_rfl) (by kernel_rfl) (by kernel_rfl) (by kernel_rfl)) ?_
  intro W base args ds gs before hval0 hW hcnd _
  have hval : ∀ (j : Nat) t v, Try.f7.params[j]? = some t → args[j]? = some v → Value.okWide Try.prog W .any base t v := hval0
  have hW' := hW
  obtain ⟨p, q, hA0, hV, rfl, hfz, hnd⟩ := hW
  have hA : DataW.TrodAll enc Try.prog W 0 (fun _ => true) true Try.f7.params.toList args.toList ds p := hA0
  rw [Try.params7] at hA hval
  obtain ⟨v0, vs0, d0, ds0, p0, q0, hargs, rfl, rfl, h0, r0⟩ := trodAll_cons hA
  obtain ⟨rfl, rfl, rfl⟩ := trodAll_nil r0
  obtain rfl : args = #[v0] := by cases args; simp_all
  obtain ⟨rfl, rfl⟩ := trodVars_none hV
  have hlt := hW'.lt
  have hl0 : ∀ x ∈ p0, x.block < W.heap.size := fun x hx => hlt x (by simp [hx])
  obtain ⟨a0, rfl, e0, g0, w0⟩ := open_int Try.underlying3 (hval 0 3 v0 rfl rfl) h0
  have b0 : -9223372036854775808 ≤ a0 ∧ a0 ≤ 9223372036854775807 := wf_i64 w0
  refine (findMany_calls W a0 b0).mono fun e W' ⟨he, hu⟩ => ?_
  subst he
  have hb := hu.below
  exact ⟨_, rfl, _, _, _, [], _, [], hW', trodAll_cons_mk (shut_bool Try.underlying4 _) trodAll_mk0, (trodAll_cons_mk (hb.trod findMany_laidOut (by kernel_rfl) (of_decide_eq_true (by kernel_rfl)) h0 hl0) trodAll_mk0), rfl, hb.frame _, fun h => by cases h⟩
theorem findMany_holds : Rows.FindManySaid :=
  OpenClaim.holds_of_wide 7 Try.f7 rfl rfl rfl rfl rfl rfl rfl ⟨rfl, rfl, rfl, rfl, rfl⟩ rfl rfl rfl rfl rfl (by kernel_rfl) Try.func7 (by kernel_rfl)
    (of_decide_eq_true (by kernel_rfl)) (by unfold Func.isWrapper; first | (rw [if_pos (by decide +kernel)]; kernel_rfl) | (rw [if_neg (by decide +kernel)]; exact ⟨rfl, rfl⟩))
    (fun os started H enc _ => findMany_lifted os started H enc)
end Go.Proofs.Ytfcmohfddjcfkaa
