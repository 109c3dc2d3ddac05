/- The walks over package find, behind Least and Join: New and Sets. -/
import Derived.Test.YtfcmohfddjcfkaaFindWalks
namespace Go.Proofs.Ytfcmohfddjcfkaa
open Go Go.RR Go.RX Go.FindM
attribute [local irreducible] wpList Code.wp wpPlan Exit.then Exit.inBlock bodyPost NoPanic Went

/-- How many things there are. -/
def many (n : Int) : Nat := (min (max n 0) 10000).toNat

theorem nats_replicate (n : Nat) : List.replicate n (Value.int .i64 0) = nats (List.replicate n 0) := by simp [nats]
/-- A row of numbers below k, zeros behind. -/
def firsts (n k : Nat) : List Nat := (List.range n).map fun i => if i < k then i else 0
theorem firsts_zero (n : Nat) : firsts n 0 = List.replicate n 0 := by
  apply List.ext_getElem
  · simp [firsts]
  · intro i h1 h2; simp [firsts]
theorem firsts_set (n k : Nat) : (firsts n k).set k k = firsts n (k + 1) := by
  apply List.ext_getElem?
  intro i
  rw [List.getElem?_set]
  simp only [firsts, List.getElem?_map, List.length_map, List.length_range]
  by_cases h : k = i
  · subst h
    by_cases hn : k < n
    · simp [hn]
    · simp [hn]
  · by_cases hn : i < n
    · simp [h, hn]
      have : i < k ↔ i < k + 1 := by omega
      simp [this]
    · simp [h, hn]
theorem firsts_all (n : Nat) : firsts n n = List.range n := by
  apply List.ext_getElem
  · simp [firsts]
  · intro i h1 h2
    simp [firsts] at h1
    simp [firsts, h1]
theorem firsts_length (n k : Nat) : (firsts n k).length = n := by simp [firsts]

theorem new_any (n : Int) (w : World) :
    Calls Try.prog 8 #[.int .i64 n] w fun e w' => ∃ pb b, e = .returned (.pointer (some ⟨pb, 0, none⟩)) ∧ w.heap.size ≤ pb ∧ w.heap.size ≤ b ∧ FindAt w' pb b (List.range (many n)) ∧ Upd (fun _ => False) w w' := by
  refine enter1 Try.func8 rfl Try.ntmps8 rfl ?_
  obtain ⟨m, hm⟩ : ∃ m, m = many n := ⟨_, rfl⟩
  have hmi : min (max n 0) 10000 = (m : Int) := by rw [hm]; unfold many; omega
  have hm0 : m ≤ 10000 := by omega
  rw [← hm]
  repeat (first | (refine RX.o ?_; first | refine RX.m ?_ | refine RX.a ?_ | refine RX.nc ?_ | refine RX.f0 ?_ | refine RX.fh ?_ | refine RX.fa ?_ | refine RX.ld ?_ | refine RX.lk_ ?_ | (refine RX.isBin ?_; first | refine RX.b_lss ?_ | refine RX.b_eql ?_ | refine RX.b_neq ?_ | refine RX.b_geq ?_ | refine RX.b_gtr ?_ | refine RX.b_leq ?_ | refine RX.b_inc ?_ | refine RX.b_add ?_ | refine RX.b_sub ?_ | refine RX.b_pn ?_ | refine RX.b_nn ?_ | refine RX.b_pm ?_ | refine RX.b_nm ?_ | refine RX.b_eqls ?_ | refine RX.b_eqltf ?_ | refine RX.b_eqlft ?_ | refine RX.b_eqlb ?_ | refine RX.b_neqs ?_ | refine RX.b_neqtf ?_ | refine RX.b_neqft ?_ | refine RX.b_neqb ?_) | (refine RX.isCall ?_; first | refine RX.c_len ?_ | refine RX.c_max ?_ | refine RX.c_min ?_) | refine RX.i1 ?_ | refine RX.io ?_ | refine RX.is_ ?_ | refine RX.pt ?_ | refine RX.pf ?_ | refine RX.nt ?_ | refine RX.nf ?_ | refine RX.n_ ?_ | refine RX.ex ?_ | refine RX.bd ?_ | refine RX.so ?_) | refine RX.gt ?_ | refine RX.gf ?_ | refine RX.nil ?_ | refine RX.then_normal ?_ | refine RX.seq ?_ | refine RX.region ?_ | refine RX.ct ?_ | refine RX.cf ?_ | refine RX.skip ?_ | refine RX.block ?_ | refine RX.inBlock_normal ?_ | refine RX.exit ?_ | refine RX.then_exit ?_ | refine RX.inBlock_exit ?_ | refine RX.ibo ?_ | refine RX.ret ?_ | refine RX.then_ret ?_ | refine RX.inBlock_ret ?_ | refine RX.un ?_ | refine RX.un0 ?_ | refine RX.cdf ?_ | refine RX.cdt ?_)
  rw [hmi]
  refine RX.op rfl ?_
  refine make rfl rfl rfl (by omega) (by omega) rfl (fun b w1 hb hr hu => ?_)
  rw [madeCells_one _ rfl, nats_replicate] at hr
  repeat (first | (refine RX.o ?_; first | refine RX.m ?_ | refine RX.a ?_ | refine RX.nc ?_ | refine RX.f0 ?_ | refine RX.fh ?_ | refine RX.fa ?_ | refine RX.ld ?_ | refine RX.lk_ ?_ | (refine RX.isBin ?_; first | refine RX.b_lss ?_ | refine RX.b_eql ?_ | refine RX.b_neq ?_ | refine RX.b_geq ?_ | refine RX.b_gtr ?_ | refine RX.b_leq ?_ | refine RX.b_inc ?_ | refine RX.b_add ?_ | refine RX.b_sub ?_ | refine RX.b_pn ?_ | refine RX.b_nn ?_ | refine RX.b_pm ?_ | refine RX.b_nm ?_ | refine RX.b_eqls ?_ | refine RX.b_eqltf ?_ | refine RX.b_eqlft ?_ | refine RX.b_eqlb ?_ | refine RX.b_neqs ?_ | refine RX.b_neqtf ?_ | refine RX.b_neqft ?_ | refine RX.b_neqb ?_) | (refine RX.isCall ?_; first | refine RX.c_len ?_ | refine RX.c_max ?_ | refine RX.c_min ?_) | refine RX.i1 ?_ | refine RX.io ?_ | refine RX.is_ ?_ | refine RX.pt ?_ | refine RX.pf ?_ | refine RX.nt ?_ | refine RX.nf ?_ | refine RX.n_ ?_ | refine RX.ex ?_ | refine RX.bd ?_ | refine RX.so ?_) | refine RX.gt ?_ | refine RX.gf ?_ | refine RX.nil ?_ | refine RX.then_normal ?_ | refine RX.seq ?_ | refine RX.region ?_ | refine RX.ct ?_ | refine RX.cf ?_ | refine RX.skip ?_ | refine RX.block ?_ | refine RX.inBlock_normal ?_ | refine RX.exit ?_ | refine RX.then_exit ?_ | refine RX.inBlock_exit ?_ | refine RX.ibo ?_ | refine RX.ret ?_ | refine RX.then_ret ?_ | refine RX.inBlock_ret ?_ | refine RX.un ?_ | refine RX.un0 ?_ | refine RX.cdf ?_ | refine RX.cdt ?_)
  refine RX.op rfl ?_
  refine box rfl rfl (fun pb w2 hpb hr2 hu2 => ?_)
  have hr2 : Row w2 pb 42 [.slice (some ⟨b, 0, none⟩) m m] := hr2
  have hbw := hr.lt
  have hr := hr.keep hu2 (by simp)
  have hu12 : Upd (fun _ => False) w w2 := hu.trans hu2 (fun _ _ h => h) (fun _ _ h => h)
  have hp := hr2.cell_some (i := 0) rfl
  repeat (first | (refine RX.o ?_; first | refine RX.m ?_ | refine RX.a ?_ | refine RX.nc ?_ | refine RX.f0 ?_ | refine RX.fh ?_ | refine RX.fa ?_ | refine RX.ld ?_ | refine RX.lk_ ?_ | (refine RX.isBin ?_; first | refine RX.b_lss ?_ | refine RX.b_eql ?_ | refine RX.b_neq ?_ | refine RX.b_geq ?_ | refine RX.b_gtr ?_ | refine RX.b_leq ?_ | refine RX.b_inc ?_ | refine RX.b_add ?_ | refine RX.b_sub ?_ | refine RX.b_pn ?_ | refine RX.b_nn ?_ | refine RX.b_pm ?_ | refine RX.b_nm ?_ | refine RX.b_eqls ?_ | refine RX.b_eqltf ?_ | refine RX.b_eqlft ?_ | refine RX.b_eqlb ?_ | refine RX.b_neqs ?_ | refine RX.b_neqtf ?_ | refine RX.b_neqft ?_ | refine RX.b_neqb ?_) | (refine RX.isCall ?_; first | refine RX.c_len ?_ | refine RX.c_max ?_ | refine RX.c_min ?_) | refine RX.i1 ?_ | refine RX.io ?_ | refine RX.is_ ?_ | refine RX.pt ?_ | refine RX.pf ?_ | refine RX.nt ?_ | refine RX.nf ?_ | refine RX.n_ ?_ | refine RX.ex ?_ | refine RX.bd ?_ | refine RX.so ?_) | refine RX.gt ?_ | refine RX.gf ?_ | refine RX.nil ?_ | refine RX.then_normal ?_ | refine RX.seq ?_ | refine RX.region ?_ | refine RX.ct ?_ | refine RX.cf ?_ | refine RX.skip ?_ | refine RX.block ?_ | refine RX.inBlock_normal ?_ | refine RX.exit ?_ | refine RX.then_exit ?_ | refine RX.inBlock_exit ?_ | refine RX.ibo ?_ | refine RX.ret ?_ | refine RX.then_ret ?_ | refine RX.inBlock_ret ?_ | refine RX.un ?_ | refine RX.un0 ?_ | refine RX.cdf ?_ | refine RX.cdt ?_)
  refine RX.loop (σ := Nat) (fun k => [(3, .pointer (some ⟨pb, 0, none⟩)), (15, .int .i64 (m : Int)), (16, .int .i64 (k : Int))])
    (fun k wr => k ≤ m ∧ Row wr pb 42 [.slice (some ⟨b, 0, none⟩) m m] ∧ Row wr b 3 (nats (firsts m k)) ∧ Upd (fun _ => False) w wr) (fun k => m - k) 0 ⟨rfl, rfl, rfl, trivial⟩ ⟨by omega, hr2, by rw [firsts_zero]; exact hr, hu12⟩ ?_
  rintro k wr ⟨hk, hr2, hr, hu⟩
  clear hp
  have hp := hr2.cell_some (i := 0) rfl
  by_cases hkm : k < m
  · repeat (first | (refine RX.o ?_; first | refine RX.m ?_ | refine RX.a ?_ | refine RX.nc ?_ | refine RX.f0 ?_ | refine RX.fh ?_ | refine RX.fa ?_ | refine RX.ld ?_ | refine RX.lk_ ?_ | (refine RX.isBin ?_; first | refine RX.b_lss ?_ | refine RX.b_eql ?_ | refine RX.b_neq ?_ | refine RX.b_geq ?_ | refine RX.b_gtr ?_ | refine RX.b_leq ?_ | refine RX.b_inc ?_ | refine RX.b_add ?_ | refine RX.b_sub ?_ | refine RX.b_pn ?_ | refine RX.b_nn ?_ | refine RX.b_pm ?_ | refine RX.b_nm ?_ | refine RX.b_eqls ?_ | refine RX.b_eqltf ?_ | refine RX.b_eqlft ?_ | refine RX.b_eqlb ?_ | refine RX.b_neqs ?_ | refine RX.b_neqtf ?_ | refine RX.b_neqft ?_ | refine RX.b_neqb ?_) | (refine RX.isCall ?_; first | refine RX.c_len ?_ | refine RX.c_max ?_ | refine RX.c_min ?_) | refine RX.i1 ?_ | refine RX.io ?_ | refine RX.is_ ?_ | refine RX.pt ?_ | refine RX.pf ?_ | refine RX.nt ?_ | refine RX.nf ?_ | refine RX.n_ ?_ | refine RX.ex ?_ | refine RX.bd ?_ | refine RX.so ?_) | refine RX.gt ?_ | refine RX.gf ?_ | refine RX.nil ?_ | refine RX.then_normal ?_ | refine RX.seq ?_ | refine RX.region ?_ | refine RX.ct ?_ | refine RX.cf ?_ | refine RX.skip ?_ | refine RX.block ?_ | refine RX.inBlock_normal ?_ | refine RX.exit ?_ | refine RX.then_exit ?_ | refine RX.inBlock_exit ?_ | refine RX.ibo ?_ | refine RX.ret ?_ | refine RX.then_ret ?_ | refine RX.inBlock_ret ?_ | refine RX.un ?_ | refine RX.un0 ?_ | refine RX.cdf ?_ | refine RX.cdt ?_)
    refine RX.op rfl ?_
    refine store_row rfl rfl hr rfl (by rw [nats_length, firsts_length]; omega) (fun w3 hr3 hu3 => ?_)
    rw [nats_set, firsts_set] at hr3
    repeat (first | (refine RX.o ?_; first | refine RX.m ?_ | refine RX.a ?_ | refine RX.nc ?_ | refine RX.f0 ?_ | refine RX.fh ?_ | refine RX.fa ?_ | refine RX.ld ?_ | refine RX.lk_ ?_ | (refine RX.isBin ?_; first | refine RX.b_lss ?_ | refine RX.b_eql ?_ | refine RX.b_neq ?_ | refine RX.b_geq ?_ | refine RX.b_gtr ?_ | refine RX.b_leq ?_ | refine RX.b_inc ?_ | refine RX.b_add ?_ | refine RX.b_sub ?_ | refine RX.b_pn ?_ | refine RX.b_nn ?_ | refine RX.b_pm ?_ | refine RX.b_nm ?_ | refine RX.b_eqls ?_ | refine RX.b_eqltf ?_ | refine RX.b_eqlft ?_ | refine RX.b_eqlb ?_ | refine RX.b_neqs ?_ | refine RX.b_neqtf ?_ | refine RX.b_neqft ?_ | refine RX.b_neqb ?_) | (refine RX.isCall ?_; first | refine RX.c_len ?_ | refine RX.c_max ?_ | refine RX.c_min ?_) | refine RX.i1 ?_ | refine RX.io ?_ | refine RX.is_ ?_ | refine RX.pt ?_ | refine RX.pf ?_ | refine RX.nt ?_ | refine RX.nf ?_ | refine RX.n_ ?_ | refine RX.ex ?_ | refine RX.bd ?_ | refine RX.so ?_) | refine RX.gt ?_ | refine RX.gf ?_ | refine RX.nil ?_ | refine RX.then_normal ?_ | refine RX.seq ?_ | refine RX.region ?_ | refine RX.ct ?_ | refine RX.cf ?_ | refine RX.skip ?_ | refine RX.block ?_ | refine RX.inBlock_normal ?_ | refine RX.exit ?_ | refine RX.then_exit ?_ | refine RX.inBlock_exit ?_ | refine RX.ibo ?_ | refine RX.ret ?_ | refine RX.then_ret ?_ | refine RX.inBlock_ret ?_ | refine RX.un ?_ | refine RX.un0 ?_ | refine RX.cdf ?_ | refine RX.cdt ?_)
    exact RX.again (k + 1) ⟨rfl, rfl, rfl, trivial⟩ ⟨by omega, hr2.keep hu3 (by omega), hr3, hu.trans hu3 (fun _ _ h => h) (fun j hj e => by omega)⟩ (by omega)
  · have hkm : k = m := by omega
    subst hkm
    repeat (first | (refine RX.o ?_; first | refine RX.m ?_ | refine RX.a ?_ | refine RX.nc ?_ | refine RX.f0 ?_ | refine RX.fh ?_ | refine RX.fa ?_ | refine RX.ld ?_ | refine RX.lk_ ?_ | (refine RX.isBin ?_; first | refine RX.b_lss ?_ | refine RX.b_eql ?_ | refine RX.b_neq ?_ | refine RX.b_geq ?_ | refine RX.b_gtr ?_ | refine RX.b_leq ?_ | refine RX.b_inc ?_ | refine RX.b_add ?_ | refine RX.b_sub ?_ | refine RX.b_pn ?_ | refine RX.b_nn ?_ | refine RX.b_pm ?_ | refine RX.b_nm ?_ | refine RX.b_eqls ?_ | refine RX.b_eqltf ?_ | refine RX.b_eqlft ?_ | refine RX.b_eqlb ?_ | refine RX.b_neqs ?_ | refine RX.b_neqtf ?_ | refine RX.b_neqft ?_ | refine RX.b_neqb ?_) | (refine RX.isCall ?_; first | refine RX.c_len ?_ | refine RX.c_max ?_ | refine RX.c_min ?_) | refine RX.i1 ?_ | refine RX.io ?_ | refine RX.is_ ?_ | refine RX.pt ?_ | refine RX.pf ?_ | refine RX.nt ?_ | refine RX.nf ?_ | refine RX.n_ ?_ | refine RX.ex ?_ | refine RX.bd ?_ | refine RX.so ?_) | refine RX.gt ?_ | refine RX.gf ?_ | refine RX.nil ?_ | refine RX.then_normal ?_ | refine RX.seq ?_ | refine RX.region ?_ | refine RX.ct ?_ | refine RX.cf ?_ | refine RX.skip ?_ | refine RX.block ?_ | refine RX.inBlock_normal ?_ | refine RX.exit ?_ | refine RX.then_exit ?_ | refine RX.inBlock_exit ?_ | refine RX.ibo ?_ | refine RX.ret ?_ | refine RX.then_ret ?_ | refine RX.inBlock_ret ?_ | refine RX.un ?_ | refine RX.un0 ?_ | refine RX.cdf ?_ | refine RX.cdt ?_)
    refine ret1 rfl rfl ⟨pb, b, rfl, by have := hu12.size; have := hu2.size; omega, hb, ⟨List.range k, ?_, by rw [← firsts_all]; exact hr, by omega, by simpa using hm0, Roots.new k⟩, hu⟩
    simpa using hr2

theorem sets_nil (w : World) :
    Calls Try.prog 15 #[.pointer none] w fun e w' => e = .returned (.slice none 0 0) ∧ w = w' := by
  refine enter1 Try.func15 rfl Try.ntmps15 rfl ?_
  repeat (first | (refine RX.o ?_; first | refine RX.m ?_ | refine RX.a ?_ | refine RX.nc ?_ | refine RX.f0 ?_ | refine RX.fh ?_ | refine RX.fa ?_ | refine RX.ld ?_ | refine RX.lk_ ?_ | (refine RX.isBin ?_; first | refine RX.b_lss ?_ | refine RX.b_eql ?_ | refine RX.b_neq ?_ | refine RX.b_geq ?_ | refine RX.b_gtr ?_ | refine RX.b_leq ?_ | refine RX.b_inc ?_ | refine RX.b_add ?_ | refine RX.b_sub ?_ | refine RX.b_pn ?_ | refine RX.b_nn ?_ | refine RX.b_pm ?_ | refine RX.b_nm ?_ | refine RX.b_eqls ?_ | refine RX.b_eqltf ?_ | refine RX.b_eqlft ?_ | refine RX.b_eqlb ?_ | refine RX.b_neqs ?_ | refine RX.b_neqtf ?_ | refine RX.b_neqft ?_ | refine RX.b_neqb ?_) | (refine RX.isCall ?_; first | refine RX.c_len ?_ | refine RX.c_max ?_ | refine RX.c_min ?_) | refine RX.i1 ?_ | refine RX.io ?_ | refine RX.is_ ?_ | refine RX.pt ?_ | refine RX.pf ?_ | refine RX.nt ?_ | refine RX.nf ?_ | refine RX.n_ ?_ | refine RX.ex ?_ | refine RX.bd ?_ | refine RX.so ?_) | refine RX.gt ?_ | refine RX.gf ?_ | refine RX.nil ?_ | refine RX.then_normal ?_ | refine RX.seq ?_ | refine RX.region ?_ | refine RX.ct ?_ | refine RX.cf ?_ | refine RX.skip ?_ | refine RX.block ?_ | refine RX.inBlock_normal ?_ | refine RX.exit ?_ | refine RX.then_exit ?_ | refine RX.inBlock_exit ?_ | refine RX.ibo ?_ | refine RX.ret ?_ | refine RX.then_ret ?_ | refine RX.inBlock_ret ?_ | refine RX.un ?_ | refine RX.un0 ?_ | refine RX.cdf ?_ | refine RX.cdt ?_)
  exact ret1 rfl rfl ⟨rfl, rfl⟩

/-- What 'Sets' hands back: slices of its own. -/
def SetsAt (w : World) (B : Nat) (v : Value) (xss : List (List Nat)) : Prop := ∃ cs, Grid w B 36 3 v cs (xss.map nats)

set_option maxHeartbeats 1000000 in
theorem sets_any (w : World) (pb b : Nat) (lst : List Nat) (hf : FindAt w pb b lst) :
    Calls Try.prog 15 #[.pointer (some ⟨pb, 0, none⟩)] w fun e w' => ∃ v, e = .returned v ∧ SetsAt w' w.heap.size v (sets lst) ∧ FindAt w' pb b lst ∧ Upd (fun k => k = b) w w' := by
  obtain ⟨hlpb, hlb⟩ := hf.lt
  obtain ⟨hp, hsz, hfix⟩ : w.cell? ⟨pb, 0, none⟩ = some (.slice (some ⟨b, 0, none⟩) lst.length lst.length) ∧ lst.length ≤ 10000 ∧ Fix lst := by
    obtain ⟨up, hf⟩ := hf; exact ⟨hf.ptr, hf.size, hf.roots.fix⟩
  refine enter1 Try.func15 rfl Try.ntmps15 rfl ?_
  repeat (first | (refine RX.o ?_; first | refine RX.m ?_ | refine RX.a ?_ | refine RX.nc ?_ | refine RX.f0 ?_ | refine RX.fh ?_ | refine RX.fa ?_ | refine RX.ld ?_ | refine RX.lk_ ?_ | (refine RX.isBin ?_; first | refine RX.b_lss ?_ | refine RX.b_eql ?_ | refine RX.b_neq ?_ | refine RX.b_geq ?_ | refine RX.b_gtr ?_ | refine RX.b_leq ?_ | refine RX.b_inc ?_ | refine RX.b_add ?_ | refine RX.b_sub ?_ | refine RX.b_pn ?_ | refine RX.b_nn ?_ | refine RX.b_pm ?_ | refine RX.b_nm ?_ | refine RX.b_eqls ?_ | refine RX.b_eqltf ?_ | refine RX.b_eqlft ?_ | refine RX.b_eqlb ?_ | refine RX.b_neqs ?_ | refine RX.b_neqtf ?_ | refine RX.b_neqft ?_ | refine RX.b_neqb ?_) | (refine RX.isCall ?_; first | refine RX.c_len ?_ | refine RX.c_max ?_ | refine RX.c_min ?_) | refine RX.i1 ?_ | refine RX.io ?_ | refine RX.is_ ?_ | refine RX.pt ?_ | refine RX.pf ?_ | refine RX.nt ?_ | refine RX.nf ?_ | refine RX.n_ ?_ | refine RX.ex ?_ | refine RX.bd ?_ | refine RX.so ?_) | refine RX.gt ?_ | refine RX.gf ?_ | refine RX.nil ?_ | refine RX.then_normal ?_ | refine RX.seq ?_ | refine RX.region ?_ | refine RX.ct ?_ | refine RX.cf ?_ | refine RX.skip ?_ | refine RX.block ?_ | refine RX.inBlock_normal ?_ | refine RX.exit ?_ | refine RX.then_exit ?_ | refine RX.inBlock_exit ?_ | refine RX.ibo ?_ | refine RX.ret ?_ | refine RX.then_ret ?_ | refine RX.inBlock_ret ?_ | refine RX.un ?_ | refine RX.un0 ?_ | refine RX.cdf ?_ | refine RX.cdt ?_)
  refine RX.op rfl ?_
  refine makeMap rfl (fun bm w1 hbm hm hu1 => ?_)
  clear hp
  have hf1 := hf.keep hu1 (by simp) (by simp)
  have hp : w1.cell? ⟨pb, 0, none⟩ = some (.slice (some ⟨b, 0, none⟩) lst.length lst.length) := by obtain ⟨up, hf⟩ := hf1; exact hf.ptr
  repeat (first | (refine RX.o ?_; first | refine RX.m ?_ | refine RX.a ?_ | refine RX.nc ?_ | refine RX.f0 ?_ | refine RX.fh ?_ | refine RX.fa ?_ | refine RX.ld ?_ | refine RX.lk_ ?_ | (refine RX.isBin ?_; first | refine RX.b_lss ?_ | refine RX.b_eql ?_ | refine RX.b_neq ?_ | refine RX.b_geq ?_ | refine RX.b_gtr ?_ | refine RX.b_leq ?_ | refine RX.b_inc ?_ | refine RX.b_add ?_ | refine RX.b_sub ?_ | refine RX.b_pn ?_ | refine RX.b_nn ?_ | refine RX.b_pm ?_ | refine RX.b_nm ?_ | refine RX.b_eqls ?_ | refine RX.b_eqltf ?_ | refine RX.b_eqlft ?_ | refine RX.b_eqlb ?_ | refine RX.b_neqs ?_ | refine RX.b_neqtf ?_ | refine RX.b_neqft ?_ | refine RX.b_neqb ?_) | (refine RX.isCall ?_; first | refine RX.c_len ?_ | refine RX.c_max ?_ | refine RX.c_min ?_) | refine RX.i1 ?_ | refine RX.io ?_ | refine RX.is_ ?_ | refine RX.pt ?_ | refine RX.pf ?_ | refine RX.nt ?_ | refine RX.nf ?_ | refine RX.n_ ?_ | refine RX.ex ?_ | refine RX.bd ?_ | refine RX.so ?_) | refine RX.gt ?_ | refine RX.gf ?_ | refine RX.nil ?_ | refine RX.then_normal ?_ | refine RX.seq ?_ | refine RX.region ?_ | refine RX.ct ?_ | refine RX.cf ?_ | refine RX.skip ?_ | refine RX.block ?_ | refine RX.inBlock_normal ?_ | refine RX.exit ?_ | refine RX.then_exit ?_ | refine RX.inBlock_exit ?_ | refine RX.ibo ?_ | refine RX.ret ?_ | refine RX.then_ret ?_ | refine RX.inBlock_ret ?_ | refine RX.un ?_ | refine RX.un0 ?_ | refine RX.cdf ?_ | refine RX.cdt ?_)
  refine RX.loop (σ := Nat × Value) (fun s => [(0, .pointer (some ⟨pb, 0, none⟩)), (3, s.2), (4, .map (some bm)), (14, .int .i64 (lst.length : Int)), (15, .int .i64 (s.1 : Int))])
    (fun s wr => s.1 ≤ lst.length ∧ FindAt wr pb b lst ∧ (∃ cs, Grid wr (bm + 1) 36 3 s.2 cs ((setsTo lst s.1).map nats)) ∧ (∃ f, MapF wr bm f ∧ ∀ r : Nat, r < s.1 → lst.getD r 0 = r → f r = some (.int .i64 ((heads lst r).length : Nat))) ∧ Upd (fun k => k = b) w wr ∧ bm < wr.heap.size)
    (fun s => lst.length - s.1) (0, .slice none 0 0) ⟨rfl, rfl, rfl, rfl, rfl, trivial⟩ ⟨by simp, hf1, ⟨[], Grid.nil _ _ _ _⟩, ⟨_, hm, fun r hr => by simp at hr⟩, hu1.mono (fun _ _ h => h.elim), hm.lt⟩ ?_
  rintro ⟨k, v⟩ wr ⟨hk, hfr, ⟨cs, hg⟩, ⟨f, hmf, hfr2⟩, hur, hbmr⟩
  dsimp only at hk hg hfr2 ⊢
  clear hp
  by_cases hkn : k < lst.length
  · repeat (first | (refine RX.o ?_; first | refine RX.m ?_ | refine RX.a ?_ | refine RX.nc ?_ | refine RX.f0 ?_ | refine RX.fh ?_ | refine RX.fa ?_ | refine RX.ld ?_ | refine RX.lk_ ?_ | (refine RX.isBin ?_; first | refine RX.b_lss ?_ | refine RX.b_eql ?_ | refine RX.b_neq ?_ | refine RX.b_geq ?_ | refine RX.b_gtr ?_ | refine RX.b_leq ?_ | refine RX.b_inc ?_ | refine RX.b_add ?_ | refine RX.b_sub ?_ | refine RX.b_pn ?_ | refine RX.b_nn ?_ | refine RX.b_pm ?_ | refine RX.b_nm ?_ | refine RX.b_eqls ?_ | refine RX.b_eqltf ?_ | refine RX.b_eqlft ?_ | refine RX.b_eqlb ?_ | refine RX.b_neqs ?_ | refine RX.b_neqtf ?_ | refine RX.b_neqft ?_ | refine RX.b_neqb ?_) | (refine RX.isCall ?_; first | refine RX.c_len ?_ | refine RX.c_max ?_ | refine RX.c_min ?_) | refine RX.i1 ?_ | refine RX.io ?_ | refine RX.is_ ?_ | refine RX.pt ?_ | refine RX.pf ?_ | refine RX.nt ?_ | refine RX.nf ?_ | refine RX.n_ ?_ | refine RX.ex ?_ | refine RX.bd ?_ | refine RX.so ?_) | refine RX.gt ?_ | refine RX.gf ?_ | refine RX.nil ?_ | refine RX.then_normal ?_ | refine RX.seq ?_ | refine RX.region ?_ | refine RX.ct ?_ | refine RX.cf ?_ | refine RX.skip ?_ | refine RX.block ?_ | refine RX.inBlock_normal ?_ | refine RX.exit ?_ | refine RX.then_exit ?_ | refine RX.inBlock_exit ?_ | refine RX.ibo ?_ | refine RX.ret ?_ | refine RX.then_ret ?_ | refine RX.inBlock_ret ?_ | refine RX.un ?_ | refine RX.un0 ?_ | refine RX.cdf ?_ | refine RX.cdt ?_)
    refine RX.op rfl ?_
    refine call rfl (least_in k _ pb b lst hfr hkn) rfl ?_
    rintro e w2 ⟨rfl, hf2, hu2⟩; refine ⟨_, rfl, ?_⟩
    have hg2 := hg.keep hu2 (fun j h1 _ h3 => by omega)
    have hmf2 := hmf.keep hu2 (by omega)
    have hbm2 := hmf2.lt
    have hur2 := hur.trans hu2 (fun _ _ h => h) (fun _ _ h => h)
    obtain ⟨hset, hsucc⟩ := setsTo_succ hfix hkn
    have hrle := hfix.le k hkn
    have hrid := hfix.idem k hkn
    have hsl := sets_len lst k
    have hhl := heads_len lst k
    generalize hr : lst.getD k 0 = r at *
    have hh := owns_slice hg2.outer
    repeat (first | (refine RX.o ?_; first | refine RX.m ?_ | refine RX.a ?_ | refine RX.nc ?_ | refine RX.f0 ?_ | refine RX.fh ?_ | refine RX.fa ?_ | refine RX.ld ?_ | refine RX.lk_ ?_ | (refine RX.isBin ?_; first | refine RX.b_lss ?_ | refine RX.b_eql ?_ | refine RX.b_neq ?_ | refine RX.b_geq ?_ | refine RX.b_gtr ?_ | refine RX.b_leq ?_ | refine RX.b_inc ?_ | refine RX.b_add ?_ | refine RX.b_sub ?_ | refine RX.b_pn ?_ | refine RX.b_nn ?_ | refine RX.b_pm ?_ | refine RX.b_nm ?_ | refine RX.b_eqls ?_ | refine RX.b_eqltf ?_ | refine RX.b_eqlft ?_ | refine RX.b_eqlb ?_ | refine RX.b_neqs ?_ | refine RX.b_neqtf ?_ | refine RX.b_neqft ?_ | refine RX.b_neqb ?_) | (refine RX.isCall ?_; first | refine RX.c_len ?_ | refine RX.c_max ?_ | refine RX.c_min ?_) | refine RX.i1 ?_ | refine RX.io ?_ | refine RX.is_ ?_ | refine RX.pt ?_ | refine RX.pf ?_ | refine RX.nt ?_ | refine RX.nf ?_ | refine RX.n_ ?_ | refine RX.ex ?_ | refine RX.bd ?_ | refine RX.so ?_) | refine RX.gt ?_ | refine RX.gf ?_ | refine RX.nil ?_ | refine RX.then_normal ?_ | refine RX.seq ?_ | refine RX.region ?_ | refine RX.ct ?_ | refine RX.cf ?_ | refine RX.skip ?_ | refine RX.block ?_ | refine RX.inBlock_normal ?_ | refine RX.exit ?_ | refine RX.then_exit ?_ | refine RX.inBlock_exit ?_ | refine RX.ibo ?_ | refine RX.ret ?_ | refine RX.then_ret ?_ | refine RX.inBlock_ret ?_ | refine RX.un ?_ | refine RX.un0 ?_ | refine RX.cdf ?_ | refine RX.cdt ?_)
    refine RX.cut (σ := Value) (fun v => [(0, .pointer (some ⟨pb, 0, none⟩)), (3, v), (4, .map (some bm)), (5, .int .i64 (k : Int)), (6, .int .i64 (r : Int)), (14, .int .i64 (lst.length : Int)), (15, .int .i64 (k : Int))])
      (fun v w4 => FindAt w4 pb b lst ∧ (∃ cs, Grid w4 (bm + 1) 36 3 v cs ((setsTo lst k ++ (if r = k then [[]] else [])).map nats)) ∧ (∃ f, MapF w4 bm f ∧ ∀ r : Nat, r < k + 1 → lst.getD r 0 = r → f r = some (.int .i64 ((heads lst r).length : Nat))) ∧ Upd (fun k => k = b) w w4) ?_ ?_
    · obtain ⟨ao, cap, rfl⟩ := hh
      refine RX.cond rfl (fun h => ?_) (fun h => ?_)
      · have hrk : r = k := by omega
        repeat (first | (refine RX.o ?_; first | refine RX.m ?_ | refine RX.a ?_ | refine RX.nc ?_ | refine RX.f0 ?_ | refine RX.fh ?_ | refine RX.fa ?_ | refine RX.ld ?_ | refine RX.lk_ ?_ | (refine RX.isBin ?_; first | refine RX.b_lss ?_ | refine RX.b_eql ?_ | refine RX.b_neq ?_ | refine RX.b_geq ?_ | refine RX.b_gtr ?_ | refine RX.b_leq ?_ | refine RX.b_inc ?_ | refine RX.b_add ?_ | refine RX.b_sub ?_ | refine RX.b_pn ?_ | refine RX.b_nn ?_ | refine RX.b_pm ?_ | refine RX.b_nm ?_ | refine RX.b_eqls ?_ | refine RX.b_eqltf ?_ | refine RX.b_eqlft ?_ | refine RX.b_eqlb ?_ | refine RX.b_neqs ?_ | refine RX.b_neqtf ?_ | refine RX.b_neqft ?_ | refine RX.b_neqb ?_) | (refine RX.isCall ?_; first | refine RX.c_len ?_ | refine RX.c_max ?_ | refine RX.c_min ?_) | refine RX.i1 ?_ | refine RX.io ?_ | refine RX.is_ ?_ | refine RX.pt ?_ | refine RX.pf ?_ | refine RX.nt ?_ | refine RX.nf ?_ | refine RX.n_ ?_ | refine RX.ex ?_ | refine RX.bd ?_ | refine RX.so ?_) | refine RX.gt ?_ | refine RX.gf ?_ | refine RX.nil ?_ | refine RX.then_normal ?_ | refine RX.seq ?_ | refine RX.region ?_ | refine RX.ct ?_ | refine RX.cf ?_ | refine RX.skip ?_ | refine RX.block ?_ | refine RX.inBlock_normal ?_ | refine RX.exit ?_ | refine RX.then_exit ?_ | refine RX.inBlock_exit ?_ | refine RX.ibo ?_ | refine RX.ret ?_ | refine RX.then_ret ?_ | refine RX.inBlock_ret ?_ | refine RX.un ?_ | refine RX.un0 ?_ | refine RX.cdf ?_ | refine RX.cdt ?_)
        refine RX.op rfl ?_
        refine mapUpdate rfl rfl rfl hmf2 (fun w3 hm3 hu3 => ?_)
        have hg3 := hg2.keep hu3 (fun j h1 _ h3 => by omega)
        have hf3 := hf2.keep hu3 (by omega) (by omega)
        have hb3 := hm3.lt
        repeat (first | (refine RX.o ?_; first | refine RX.m ?_ | refine RX.a ?_ | refine RX.nc ?_ | refine RX.f0 ?_ | refine RX.fh ?_ | refine RX.fa ?_ | refine RX.ld ?_ | refine RX.lk_ ?_ | (refine RX.isBin ?_; first | refine RX.b_lss ?_ | refine RX.b_eql ?_ | refine RX.b_neq ?_ | refine RX.b_geq ?_ | refine RX.b_gtr ?_ | refine RX.b_leq ?_ | refine RX.b_inc ?_ | refine RX.b_add ?_ | refine RX.b_sub ?_ | refine RX.b_pn ?_ | refine RX.b_nn ?_ | refine RX.b_pm ?_ | refine RX.b_nm ?_ | refine RX.b_eqls ?_ | refine RX.b_eqltf ?_ | refine RX.b_eqlft ?_ | refine RX.b_eqlb ?_ | refine RX.b_neqs ?_ | refine RX.b_neqtf ?_ | refine RX.b_neqft ?_ | refine RX.b_neqb ?_) | (refine RX.isCall ?_; first | refine RX.c_len ?_ | refine RX.c_max ?_ | refine RX.c_min ?_) | refine RX.i1 ?_ | refine RX.io ?_ | refine RX.is_ ?_ | refine RX.pt ?_ | refine RX.pf ?_ | refine RX.nt ?_ | refine RX.nf ?_ | refine RX.n_ ?_ | refine RX.ex ?_ | refine RX.bd ?_ | refine RX.so ?_) | refine RX.gt ?_ | refine RX.gf ?_ | refine RX.nil ?_ | refine RX.then_normal ?_ | refine RX.seq ?_ | refine RX.region ?_ | refine RX.ct ?_ | refine RX.cf ?_ | refine RX.skip ?_ | refine RX.block ?_ | refine RX.inBlock_normal ?_ | refine RX.exit ?_ | refine RX.then_exit ?_ | refine RX.inBlock_exit ?_ | refine RX.ibo ?_ | refine RX.ret ?_ | refine RX.then_ret ?_ | refine RX.inBlock_ret ?_ | refine RX.un ?_ | refine RX.un0 ?_ | refine RX.cdf ?_ | refine RX.cdt ?_)
        refine RX.op rfl ?_
        refine append_one (k := ((setsTo lst k).map nats).length) (xs := cs) (news := [.slice none 0 0]) rfl rfl rfl hg3.outer (by omega) rfl (by simp [Value.oneCell']) rfl (by omega) (by simp [maxLen]; omega) (by simp; omega) (fun v' w4 ho hu4 hn4 => ?_)
        have hg4 := hg3.push_nil ho hu4 hn4
        have hvb : ∀ j, (Value.slice ao ((setsTo lst k).map nats).length cap).ownBlock = some j → bm + 1 ≤ j := fun j hj => (owns_lt hg3.outer hj).1
        repeat (first | (refine RX.o ?_; first | refine RX.m ?_ | refine RX.a ?_ | refine RX.nc ?_ | refine RX.f0 ?_ | refine RX.fh ?_ | refine RX.fa ?_ | refine RX.ld ?_ | refine RX.lk_ ?_ | (refine RX.isBin ?_; first | refine RX.b_lss ?_ | refine RX.b_eql ?_ | refine RX.b_neq ?_ | refine RX.b_geq ?_ | refine RX.b_gtr ?_ | refine RX.b_leq ?_ | refine RX.b_inc ?_ | refine RX.b_add ?_ | refine RX.b_sub ?_ | refine RX.b_pn ?_ | refine RX.b_nn ?_ | refine RX.b_pm ?_ | refine RX.b_nm ?_ | refine RX.b_eqls ?_ | refine RX.b_eqltf ?_ | refine RX.b_eqlft ?_ | refine RX.b_eqlb ?_ | refine RX.b_neqs ?_ | refine RX.b_neqtf ?_ | refine RX.b_neqft ?_ | refine RX.b_neqb ?_) | (refine RX.isCall ?_; first | refine RX.c_len ?_ | refine RX.c_max ?_ | refine RX.c_min ?_) | refine RX.i1 ?_ | refine RX.io ?_ | refine RX.is_ ?_ | refine RX.pt ?_ | refine RX.pf ?_ | refine RX.nt ?_ | refine RX.nf ?_ | refine RX.n_ ?_ | refine RX.ex ?_ | refine RX.bd ?_ | refine RX.so ?_) | refine RX.gt ?_ | refine RX.gf ?_ | refine RX.nil ?_ | refine RX.then_normal ?_ | refine RX.seq ?_ | refine RX.region ?_ | refine RX.ct ?_ | refine RX.cf ?_ | refine RX.skip ?_ | refine RX.block ?_ | refine RX.inBlock_normal ?_ | refine RX.exit ?_ | refine RX.then_exit ?_ | refine RX.inBlock_exit ?_ | refine RX.ibo ?_ | refine RX.ret ?_ | refine RX.then_ret ?_ | refine RX.inBlock_ret ?_ | refine RX.un ?_ | refine RX.un0 ?_ | refine RX.cdf ?_ | refine RX.cdt ?_)
        refine RX.meet v' ⟨rfl, rfl, rfl, rfl, rfl, rfl, rfl, trivial⟩ ⟨hf3.keep hu4 (fun h => by have := hvb _ h; omega) (fun h => by have := hvb _ h; omega), ⟨_, by rw [if_pos hrk, List.map_append]; exact hg4⟩, ⟨_, hm3.keep hu4 (fun h => by have := hvb _ h; omega), fun r' h1 h2 => ?_⟩, ?_⟩
        · simp only [upd]
          by_cases e : r' = r
          · subst e; subst hrk; simp [hsl]
          · rw [if_neg (by omega)]; exact hfr2 r' (by omega) h2
        · exact (hur2.trans hu3 (fun _ _ h => h) (fun _ _ h => by omega)).trans hu4 (fun _ _ h => h) (fun j hj h => by have := hvb _ h; omega)
      · have hrk : ¬ r = k := by omega
        repeat (first | (refine RX.o ?_; first | refine RX.m ?_ | refine RX.a ?_ | refine RX.nc ?_ | refine RX.f0 ?_ | refine RX.fh ?_ | refine RX.fa ?_ | refine RX.ld ?_ | refine RX.lk_ ?_ | (refine RX.isBin ?_; first | refine RX.b_lss ?_ | refine RX.b_eql ?_ | refine RX.b_neq ?_ | refine RX.b_geq ?_ | refine RX.b_gtr ?_ | refine RX.b_leq ?_ | refine RX.b_inc ?_ | refine RX.b_add ?_ | refine RX.b_sub ?_ | refine RX.b_pn ?_ | refine RX.b_nn ?_ | refine RX.b_pm ?_ | refine RX.b_nm ?_ | refine RX.b_eqls ?_ | refine RX.b_eqltf ?_ | refine RX.b_eqlft ?_ | refine RX.b_eqlb ?_ | refine RX.b_neqs ?_ | refine RX.b_neqtf ?_ | refine RX.b_neqft ?_ | refine RX.b_neqb ?_) | (refine RX.isCall ?_; first | refine RX.c_len ?_ | refine RX.c_max ?_ | refine RX.c_min ?_) | refine RX.i1 ?_ | refine RX.io ?_ | refine RX.is_ ?_ | refine RX.pt ?_ | refine RX.pf ?_ | refine RX.nt ?_ | refine RX.nf ?_ | refine RX.n_ ?_ | refine RX.ex ?_ | refine RX.bd ?_ | refine RX.so ?_) | refine RX.gt ?_ | refine RX.gf ?_ | refine RX.nil ?_ | refine RX.then_normal ?_ | refine RX.seq ?_ | refine RX.region ?_ | refine RX.ct ?_ | refine RX.cf ?_ | refine RX.skip ?_ | refine RX.block ?_ | refine RX.inBlock_normal ?_ | refine RX.exit ?_ | refine RX.then_exit ?_ | refine RX.inBlock_exit ?_ | refine RX.ibo ?_ | refine RX.ret ?_ | refine RX.then_ret ?_ | refine RX.inBlock_ret ?_ | refine RX.un ?_ | refine RX.un0 ?_ | refine RX.cdf ?_ | refine RX.cdt ?_)
        refine RX.meet _ ⟨rfl, rfl, rfl, rfl, rfl, rfl, rfl, trivial⟩ ⟨hf2, ⟨cs, by rw [if_neg hrk, List.append_nil]; exact hg2⟩, ⟨f, hmf2, fun r' h1 h2 => ?_⟩, hur2⟩
        refine hfr2 r' ?_ h2
        rcases Nat.lt_or_ge r' k with h3 | h3
        · exact h3
        · have : r' = k := by omega
          subst this; omega
    · rintro v1 w4 ⟨hf4, ⟨cs1, hg4⟩, ⟨f4, hm4, hfr4⟩, hu4⟩
      clear hg hg2 hmf hmf2 hh hfr2
      generalize hLd : setsTo lst k ++ (if r = k then [[]] else []) = L at *
      generalize hid : (heads lst r).length = idx at *
      have hil : idx < L.length := (List.getElem?_eq_some_iff.1 hset).1
      have hLl : L.length ≤ k + 1 := by rw [← hLd, List.length_append]; split <;> simp <;> omega
      have hxs : (L.map nats)[idx]? = some (nats (elems lst k r)) := by rw [List.getElem?_map, hset]; rfl
      have hcl := hg4.len
      rw [List.length_map] at hcl
      obtain ⟨c, hc⟩ : ∃ c, cs1[idx]? = some c := ⟨_, List.getElem?_eq_getElem (by omega)⟩
      have hgo := hg4.outer
      rw [List.length_map] at hgo
      obtain ⟨g, cap, vs, rfl, hBg, hrow, hvl, hcap, hmax, htake, _⟩ := owns_row hgo (by omega)
      have hcb : ∀ j, c.ownBlock = some j → bm + 1 ≤ j ∧ j ≠ g := fun j hj => ⟨(owns_lt (hg4.inner idx c _ hc hxs) hj).1, fun e => by subst e; exact hg4.apart idx c _ hc hj rfl⟩
      have hel := elems_len lst k r
      have hbm4 := hm4.lt
      have hS0 : Upd (fun j => c.ownBlock = some j) w4.drew w4.drew := Upd.refl _ _
      have hmS : ∀ w', Upd (fun j => c.ownBlock = some j) w4.drew w' → MapF w' bm f4 := fun w' h => MapF.keep (w := w4.drew) hm4 h (fun h1 => by have := hcb _ h1; omega)
      have hfv : f4 (r : Int) = some (.int .i64 (idx : Int)) := by rw [hfr4 r (by omega) hrid, hid]
      have hcS : ∀ w', Upd (fun j => c.ownBlock = some j) w4.drew w' → w'.cell? ⟨g, idx, none⟩ = some c := fun w' h => by
        have hr1 : Row w' g 36 vs := Row.keep (w := w4.drew) hrow h (fun h1 => (hcb _ h1).2 rfl)
        refine hr1.cell_some ?_
        rw [← htake] at hc
        rw [List.getElem?_take] at hc
        rwa [if_pos hil] at hc
      repeat (first | (refine RX.o ?_; first | refine RX.m ?_ | refine RX.a ?_ | refine RX.nc ?_ | refine RX.f0 ?_ | refine RX.fh ?_ | refine RX.fa ?_ | refine RX.ld ?_ | refine RX.lk_ ?_ | (refine RX.isBin ?_; first | refine RX.b_lss ?_ | refine RX.b_eql ?_ | refine RX.b_neq ?_ | refine RX.b_geq ?_ | refine RX.b_gtr ?_ | refine RX.b_leq ?_ | refine RX.b_inc ?_ | refine RX.b_add ?_ | refine RX.b_sub ?_ | refine RX.b_pn ?_ | refine RX.b_nn ?_ | refine RX.b_pm ?_ | refine RX.b_nm ?_ | refine RX.b_eqls ?_ | refine RX.b_eqltf ?_ | refine RX.b_eqlft ?_ | refine RX.b_eqlb ?_ | refine RX.b_neqs ?_ | refine RX.b_neqtf ?_ | refine RX.b_neqft ?_ | refine RX.b_neqb ?_) | (refine RX.isCall ?_; first | refine RX.c_len ?_ | refine RX.c_max ?_ | refine RX.c_min ?_) | refine RX.i1 ?_ | refine RX.io ?_ | refine RX.is_ ?_ | refine RX.pt ?_ | refine RX.pf ?_ | refine RX.nt ?_ | refine RX.nf ?_ | refine RX.n_ ?_ | refine RX.ex ?_ | refine RX.bd ?_ | refine RX.so ?_) | refine RX.gt ?_ | refine RX.gf ?_ | refine RX.nil ?_ | refine RX.then_normal ?_ | refine RX.seq ?_ | refine RX.region ?_ | refine RX.ct ?_ | refine RX.cf ?_ | refine RX.skip ?_ | refine RX.block ?_ | refine RX.inBlock_normal ?_ | refine RX.exit ?_ | refine RX.then_exit ?_ | refine RX.inBlock_exit ?_ | refine RX.ibo ?_ | refine RX.ret ?_ | refine RX.then_ret ?_ | refine RX.inBlock_ret ?_ | refine RX.un ?_ | refine RX.un0 ?_ | refine RX.cdf ?_ | refine RX.cdt ?_)
      refine drawn (fun w' => Upd (fun j => c.ownBlock = some j) w4.drew w') (fun j => !(List.contains [14] j)) [(0, true), (1, true), (2, true), (3, true), (4, true), (5, true), (6, true), (7, true), (8, true), (9, true), (10, true), (11, false), (12, false), (13, true), (14, false)] rfl (by kernel_rfl) (by kernel_rfl) ?_
      repeat (first | (refine RX.tk ?_; first | refine RX.tm ?_ | refine RX.ta ?_ | refine RX.tnc ?_ | refine RX.tf0 ?_ | refine RX.tfh ?_ | refine RX.tfa ?_ | refine RX.tld ?_ | refine RX.tlks ?_ | refine RX.tlk_ ?_ | (refine RX.isBinT ?_; first | refine RX.tb_lss ?_ | refine RX.tb_eql ?_ | refine RX.tb_neq ?_ | refine RX.tb_geq ?_ | refine RX.tb_gtr ?_ | refine RX.tb_leq ?_ | refine RX.tb_inc ?_ | refine RX.tb_add ?_ | refine RX.tb_sub ?_ | refine RX.tb_pn ?_ | refine RX.tb_nn ?_ | refine RX.tb_pm ?_ | refine RX.tb_nm ?_ | refine RX.tb_eqls ?_ | refine RX.tb_eqltf ?_ | refine RX.tb_eqlft ?_ | refine RX.tb_eqlb ?_ | refine RX.tb_neqs ?_ | refine RX.tb_neqtf ?_ | refine RX.tb_neqft ?_ | refine RX.tb_neqb ?_) | (refine RX.isCallT ?_; first | refine RX.tc_len ?_ | refine RX.tc_max ?_ | refine RX.tc_min ?_) | refine RX.ti1 ?_ | refine RX.tio ?_ | refine RX.tis_ ?_ | refine RX.tpt ?_ | refine RX.tpf ?_ | refine RX.tnt ?_ | refine RX.tnf ?_ | refine RX.tn_ ?_ | refine RX.tex ?_ | refine RX.tbd ?_) | refine RX.pgt ?_ | refine RX.pgf ?_ | refine RX.tkn ?_ | refine RX.done ?_)
      refine RX.go rfl rfl ?_
      refine slice_one rfl rfl rfl rfl ?_
      have hS1 := hS0.alloc (.cells [Value.int .i64 (k : Int)].toArray 3)
      refine RX.went hS1 ?_
      refine RX.go rfl rfl ?_
      refine append_one (k := (nats (elems lst k r)).length) (xs := nats (elems lst k r)) (news := [.int .i64 (k : Int)]) rfl rfl rfl (hg4.inner idx c _ hc hxs) (by simp; omega) rfl (by simp [Value.oneCell']) rfl (by omega) (by rw [nats_length]; simp [maxLen]; omega) (by rw [nats_length]; omega) (fun c' w5 ho hu5 hn5 => ?_)
      refine RX.went hu5 ?_
      repeat (first | (refine RX.tk ?_; first | refine RX.tm ?_ | refine RX.ta ?_ | refine RX.tnc ?_ | refine RX.tf0 ?_ | refine RX.tfh ?_ | refine RX.tfa ?_ | refine RX.tld ?_ | refine RX.tlks ?_ | refine RX.tlk_ ?_ | (refine RX.isBinT ?_; first | refine RX.tb_lss ?_ | refine RX.tb_eql ?_ | refine RX.tb_neq ?_ | refine RX.tb_geq ?_ | refine RX.tb_gtr ?_ | refine RX.tb_leq ?_ | refine RX.tb_inc ?_ | refine RX.tb_add ?_ | refine RX.tb_sub ?_ | refine RX.tb_pn ?_ | refine RX.tb_nn ?_ | refine RX.tb_pm ?_ | refine RX.tb_nm ?_ | refine RX.tb_eqls ?_ | refine RX.tb_eqltf ?_ | refine RX.tb_eqlft ?_ | refine RX.tb_eqlb ?_ | refine RX.tb_neqs ?_ | refine RX.tb_neqtf ?_ | refine RX.tb_neqft ?_ | refine RX.tb_neqb ?_) | (refine RX.isCallT ?_; first | refine RX.tc_len ?_ | refine RX.tc_max ?_ | refine RX.tc_min ?_) | refine RX.ti1 ?_ | refine RX.tio ?_ | refine RX.tis_ ?_ | refine RX.tpt ?_ | refine RX.tpf ?_ | refine RX.tnt ?_ | refine RX.tnf ?_ | refine RX.tn_ ?_ | refine RX.tex ?_ | refine RX.tbd ?_) | refine RX.pgt ?_ | refine RX.pgf ?_ | refine RX.tkn ?_ | refine RX.done ?_)
      refine RX.go rfl rfl ?_
      have hrow5 : Row w5 g 36 vs := Row.keep (w := w4.drew) hrow hu5 (fun h1 => (hcb _ h1).2 rfl)
      refine store_row rfl rfl hrow5 ?_ (by omega) (fun w6 hr6 hu6 => ?_)
      · rcases owns_slice ho with ⟨a, cp, rfl⟩; rfl
      refine RX.went_free rfl ?_
      refine RX.done ?_
      have hu5' : Upd (fun j => c.ownBlock = some j) w4 w5 := ⟨hu5.os, hu5.tape, hu5.output, hu5.size, hu5.block⟩
      have ho' : w5.ownsRow (bm + 1) 3 1 c' (nats (elems lst k r ++ [k])).length (nats (elems lst k r ++ [k])) := by
        have e1 : nats (elems lst k r) ++ [Value.int .i64 (k : Int)] = nats (elems lst k r ++ [k]) := by simp [nats]
        rw [← e1]; simpa using ho
      have hg6 := hg4.grow hc hxs ho' hu5' (fun j hj => by rcases hn5 j hj with h | h; exact .inl h; exact .inr (by have : w4.heap.size < j := h; omega)) (by rw [List.length_map]) hvl (by rw [List.length_map]; exact hcap) hmax (by rw [List.length_map]; exact htake) hBg hr6 hu6
      rw [← List.map_set, ← hsucc] at hg6
      repeat (first | (refine RX.o ?_; first | refine RX.m ?_ | refine RX.a ?_ | refine RX.nc ?_ | refine RX.f0 ?_ | refine RX.fh ?_ | refine RX.fa ?_ | refine RX.ld ?_ | refine RX.lk_ ?_ | (refine RX.isBin ?_; first | refine RX.b_lss ?_ | refine RX.b_eql ?_ | refine RX.b_neq ?_ | refine RX.b_geq ?_ | refine RX.b_gtr ?_ | refine RX.b_leq ?_ | refine RX.b_inc ?_ | refine RX.b_add ?_ | refine RX.b_sub ?_ | refine RX.b_pn ?_ | refine RX.b_nn ?_ | refine RX.b_pm ?_ | refine RX.b_nm ?_ | refine RX.b_eqls ?_ | refine RX.b_eqltf ?_ | refine RX.b_eqlft ?_ | refine RX.b_eqlb ?_ | refine RX.b_neqs ?_ | refine RX.b_neqtf ?_ | refine RX.b_neqft ?_ | refine RX.b_neqb ?_) | (refine RX.isCall ?_; first | refine RX.c_len ?_ | refine RX.c_max ?_ | refine RX.c_min ?_) | refine RX.i1 ?_ | refine RX.io ?_ | refine RX.is_ ?_ | refine RX.pt ?_ | refine RX.pf ?_ | refine RX.nt ?_ | refine RX.nf ?_ | refine RX.n_ ?_ | refine RX.ex ?_ | refine RX.bd ?_ | refine RX.so ?_) | refine RX.gt ?_ | refine RX.gf ?_ | refine RX.nil ?_ | refine RX.then_normal ?_ | refine RX.seq ?_ | refine RX.region ?_ | refine RX.ct ?_ | refine RX.cf ?_ | refine RX.skip ?_ | refine RX.block ?_ | refine RX.inBlock_normal ?_ | refine RX.exit ?_ | refine RX.then_exit ?_ | refine RX.inBlock_exit ?_ | refine RX.ibo ?_ | refine RX.ret ?_ | refine RX.then_ret ?_ | refine RX.inBlock_ret ?_ | refine RX.un ?_ | refine RX.un0 ?_ | refine RX.cdf ?_ | refine RX.cdt ?_)
      refine RX.again (k + 1, .slice (some ⟨g, 0, none⟩) L.length cap) ⟨rfl, rfl, rfl, rfl, rfl, trivial⟩ ⟨by dsimp only; omega, ?_, ⟨_, hg6⟩, ⟨f4, (hm4.keep hu5' (fun h1 => by have := hcb _ h1; omega)).keep hu6 (by omega), fun r' h1 h2 => hfr4 r' h1 h2⟩, ?_, ?_⟩ (by dsimp only; omega)
      · exact (hf4.keep hu5' (fun h1 => by have := hcb _ h1; omega) (fun h1 => by have := hcb _ h1; omega)).keep hu6 (by omega) (by omega)
      · exact (hu4.trans hu5' (fun _ _ h => h) (fun j hj h => by have := hcb _ h; omega)).trans hu6 (fun _ _ h => h) (fun j hj h => by omega)
      · have := hu5.size; have := hu6.size; have := hm4.lt; simp at *; omega
  · repeat (first | (refine RX.o ?_; first | refine RX.m ?_ | refine RX.a ?_ | refine RX.nc ?_ | refine RX.f0 ?_ | refine RX.fh ?_ | refine RX.fa ?_ | refine RX.ld ?_ | refine RX.lk_ ?_ | (refine RX.isBin ?_; first | refine RX.b_lss ?_ | refine RX.b_eql ?_ | refine RX.b_neq ?_ | refine RX.b_geq ?_ | refine RX.b_gtr ?_ | refine RX.b_leq ?_ | refine RX.b_inc ?_ | refine RX.b_add ?_ | refine RX.b_sub ?_ | refine RX.b_pn ?_ | refine RX.b_nn ?_ | refine RX.b_pm ?_ | refine RX.b_nm ?_ | refine RX.b_eqls ?_ | refine RX.b_eqltf ?_ | refine RX.b_eqlft ?_ | refine RX.b_eqlb ?_ | refine RX.b_neqs ?_ | refine RX.b_neqtf ?_ | refine RX.b_neqft ?_ | refine RX.b_neqb ?_) | (refine RX.isCall ?_; first | refine RX.c_len ?_ | refine RX.c_max ?_ | refine RX.c_min ?_) | refine RX.i1 ?_ | refine RX.io ?_ | refine RX.is_ ?_ | refine RX.pt ?_ | refine RX.pf ?_ | refine RX.nt ?_ | refine RX.nf ?_ | refine RX.n_ ?_ | refine RX.ex ?_ | refine RX.bd ?_ | refine RX.so ?_) | refine RX.gt ?_ | refine RX.gf ?_ | refine RX.nil ?_ | refine RX.then_normal ?_ | refine RX.seq ?_ | refine RX.region ?_ | refine RX.ct ?_ | refine RX.cf ?_ | refine RX.skip ?_ | refine RX.block ?_ | refine RX.inBlock_normal ?_ | refine RX.exit ?_ | refine RX.then_exit ?_ | refine RX.inBlock_exit ?_ | refine RX.ibo ?_ | refine RX.ret ?_ | refine RX.then_ret ?_ | refine RX.inBlock_ret ?_ | refine RX.un ?_ | refine RX.un0 ?_ | refine RX.cdf ?_ | refine RX.cdt ?_)
    have hkn : k = lst.length := by omega
    subst hkn
    exact ret1 rfl rfl ⟨v, rfl, ⟨cs, hg.mono (by omega)⟩, hfr, hur⟩
end Go.Proofs.Ytfcmohfddjcfkaa
