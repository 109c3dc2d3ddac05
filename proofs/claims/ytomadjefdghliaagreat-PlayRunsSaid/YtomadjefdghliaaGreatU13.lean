import Derived.Test.YtomadjefdghliaaGreatU10
import Derived.Test.YtomadjefdghliaaGreatU11
import Derived.Test.YtomadjefdghliaaGreatU12
import Derived.Laws.CopyRow
import Derived.Laws.IdiomCopy
namespace Go.GX
open Go Go.RowKit Go.RR Go.RX
def Ty.ptr : Ty (Option Addr) := ⟨1, fun _ _ cs x => cs = [.pointer x], fun h => by rw [h]; rfl, fun h c hc => by rw [h] at hc; simp at hc; subst hc; rfl, fun h _ _ => h⟩
theorem ptr_rd {F : Nat → Prop} {w : World} {a : Option Addr} : Ty.ptr.rd F w [.pointer a] a := rfl
instance : Sub Ty.ptr 0 Ty.ptr (fun y => y) (fun z _ => z) := Sub.whole _
instance {ps : List Pf} (a : Option Addr) : Rds ps (.pointer a) Ty.ptr a := ⟨.of fun _ _ _ => rfl⟩
def Star (l : List Res) : Res where
 on k := feet l k
 says F w := AllR F w l ∧ l.Pairwise Apart
 inn := by rintro F w k ⟨h, _⟩ ⟨r, hr, hk⟩; exact Res.inn _ (h r hr) hk
 move := by
  rintro F F' w w' ⟨h, h2⟩ hF ha hb
  exact ⟨fun r hr => Res.move _ (h r hr) hF ha (hb.mono fun k _ hk => ⟨r, hr, hk⟩), h2⟩
section
variable {P : Program} {n : Nat} {env : Env} {b : Base} {ps : List Pf} {hp : List Res} {Q : Exit → Act → World → Prop} {K : Act → World → Prop}
theorem apart_star {r : Res} {l : List Res} : Apart r (Star l) ↔ ∀ s ∈ l, Apart r s := by
 constructor
 ·intro h s hs k hk hk2; exact h k hk ⟨s, hs, hk2⟩
 ·rintro h k hk ⟨s, hs, hk2⟩; exact h s hs k hk hk2
theorem starN (h : G n env b ps (Star [] :: hp) K) : G n env b ps hp K := by
 refine alter (hp1 := []) (hp2 := [Star []]) (rest := hp) (List.Perm.refl _) ?_ ?_ h
 ·intro F w _ _
  refine ⟨fun r hr => ?_, by simp⟩
  obtain rfl : r = _ := by simpa using hr
  exact ⟨fun r hr => by simp at hr, List.Pairwise.nil⟩
 ·rintro k ⟨r, hr, hk⟩
  obtain rfl : r = _ := by simpa using hr
  obtain ⟨r, hr, _⟩ := hk
  simp at hr
theorem starI {l m rest : List Res} (h : G n env b ps (Star (l ++ m) :: rest) K)
  (hl : SelR (l ++ [Star m]) hp rest := by exact GX.sA) : G n env b ps hp K := by
 refine alter (hp1 := l ++ [Star m]) (hp2 := [Star (l ++ m)]) hl.perm ?_ ?_ h
 ·intro F w h1 hap
  obtain ⟨h2, h3⟩ := h1 (Star m) (by simp)
  obtain ⟨p1, _, p3⟩ := List.pairwise_append.1 hap
  refine ⟨fun r hr => ?_, by simp⟩
  obtain rfl : r = _ := by simpa using hr
  refine ⟨fun r hr => ?_, List.pairwise_append.2 ⟨p1, h3, fun r hr s hs => apart_star.1 (p3 r hr _ (by simp)) s hs⟩⟩
  rcases List.mem_append.1 hr with hr | hr
  ·exact h1 r (by simp [hr])
  ·exact h2 r hr
 ·rintro k ⟨r, hr, hk⟩
  obtain rfl : r = _ := by simpa using hr
  obtain ⟨r, hr, hk⟩ := hk
  rcases List.mem_append.1 hr with hr | hr
  ·exact ⟨r, by simp [hr], hk⟩
  ·exact ⟨Star m, by simp, r, hr, hk⟩
theorem starO {l m rest : List Res} (h : G n env b ps (l ++ (Star m :: rest)) K)
  (hl : TakeR (Star (l ++ m)) hp rest := by first | ((repeat (first | (with_reducible apply Go.GX.TakeR.head) | apply Go.GX.TakeR.tail)); done) | (repeat (first | apply Go.GX.TakeR.head | apply Go.GX.TakeR.tail))) : G n env b ps hp K := by
 refine alter (hp1 := [Star (l ++ m)]) (hp2 := l ++ [Star m]) (rest := rest) hl.perm ?_ ?_ (by simpa using h)
 ·intro F w h1 _
  obtain ⟨h2, h3⟩ := h1 (Star (l ++ m)) (by simp)
  obtain ⟨p1, p2, p3⟩ := List.pairwise_append.1 h3
  refine ⟨fun r hr => ?_, List.pairwise_append.2 ⟨p1, by simp, fun r hr s hs => ?_⟩⟩
  ·rcases List.mem_append.1 hr with hr | hr
   ·exact h2 r (by simp [hr])
   ·obtain rfl : r = _ := by simpa using hr
    exact ⟨fun s hs => h2 s (by simp [hs]), p2⟩
  ·obtain rfl : s = _ := by simpa using hs
   exact apart_star.2 fun q hq => p3 r hr q hq
 ·rintro k ⟨r, hr, hk⟩
  refine ⟨Star (l ++ m), by simp, ?_⟩
  rcases List.mem_append.1 hr with hr | hr
  ·exact ⟨r, by simp [hr], hk⟩
  ·obtain rfl : r = _ := by simpa using hr
   obtain ⟨s, hs, hk⟩ := hk
   exact ⟨s, by simp [hs], hk⟩
theorem lo_ptr {α : Type} {e : Ty α} {g cap i : Nat} {xs : List α} {x0 : α} {te t : TypeId} {x : Operand} {rest : List Res} {get : α → Option Addr} {put : Option Addr → α → α} {off : Nat} [UOne P t] [FOwn (some ⟨g, 0, none⟩) hp te e cap xs rest] [hs : Sub e off Ty.ptr get put] (hx : ev env x = some (.pointer (some ⟨g, i * e.size + off, none⟩))) (hi : xs[i]? = some x0) : RdV P n env ps hp (.load t x) (.pointer (get x0)) := fun F w _ h2 => by
 obtain ⟨cs, h3, h4, h5⟩ := own_cells (te := te) (e := e) (g := g) (cap := cap) (rest := rest) h2 hi
 have h6 : (cs.drop off).take 1 = [.pointer (get x0)] := hs.get h4
 have h7 : cs[off]? = some (.pointer (get x0)) := by
  have := congrArg (·[0]?) h6
  simpa [List.getElem?_take, List.getElem?_drop] using this
 exact RX.load hx (fun w' ha => ha.cell (.inr h5) (h3 off _ h7))
variable {d : Nat} {ty : TypeId} {pos : String} {aft : Array Edge} {gd : Option (Nat × Bool)}
theorem ro1p {psW : List Pf} {hpS : List Res} {α : Type} {e : Ty α} {g cap i : Nat} {xs : List α} {x0 : α} {te t : TypeId} {x : Operand} {rest : List Res} {get : α → Option Addr} {put : Option Addr → α → α} [UOne P t] {wd : World} {F : Nat → Prop} (h : G n ((d, .pointer (get x0)) :: env) b ps hp K) (hx : ev env x = some (.pointer (some ⟨g, i, none⟩)) := by exact rfl) (i0 : FOwn (some ⟨g, 0, none⟩) hpS te e cap xs rest := by exact inferInstance) (i1 : Sub e 0 Ty.ptr get put := by exact inferInstance) (hi : xs[i]? = some x0 := by with_reducible assumption) (hes : e.size = 1 := by exact rfl) (hd : Nat.blt d n = true := by exact rfl) : GTR P n env psW hpS wd F b ps hp K ⟨some d, .load t x, ty, pos, aft, gd⟩ := .v (lo_ptr (off := 0) (cap := cap) (te := te) (rest := rest) (get := get) (put := put) (plc1 hes hx) hi) hd h
theorem cpI {t1 t2 et te : TypeId} {x y : Operand} {k : IntKind} {g cap m m2 cap2 : Nat} {ao2 : Option Addr} {xs ys : List Int} {zv : Value} {bytes : Nat} {rest : List Res} [ht : USlice P t1 et] [hi : UElem P et zv 1 bytes]
  (h : G n ((d, .int .i64 (ys.length : Int)) :: env) b ps (Own te (Ty.num k) (some ⟨g, 0, none⟩) cap (ys ++ xs.drop ys.length) :: rest) K)
  (hx : ev env x = some (.slice (some ⟨g, 0, none⟩) m cap) := by exact rfl) (hy : ev env y = some (.slice ao2 m2 cap2) := by exact rfl) (hf : FOwn (some ⟨g, 0, none⟩) hp te (Ty.num k) cap xs rest := by exact inferInstance) (hsl : FSl ao2 ps (Ty.num k) cap2 ys := by exact inferInstance)
  (hm : m = xs.length := by first | rfl | omega | (simp; done)) (hm2 : m2 = ys.length := by first | rfl | omega | (simp; done)) (hle : ys.length ≤ xs.length := by omega) (hd : Nat.blt d n = true := by exact rfl) :
  GO P n env b ps hp ⟨some d, .call { callee := .builtin .copy, args := #[x, y], argTypes := #[t1, t2] }, ty, pos, aft, gd⟩ K Q := by
 subst hm; subst hm2
 refine Acts.use (hp1 := [Own te (Ty.num k) (some ⟨g, 0, none⟩) cap xs]) (ι := Unit) (val := fun _ => .int .i64 (ys.length : Int)) (pf := fun _ => []) (hr := fun _ => [Own te (Ty.num k) (some ⟨g, 0, none⟩) cap (ys ++ xs.drop ys.length)]) ?_ hf.p (fun _ => h)
 intro F w K Q b s hk
 have hsz : (P.info? et).map (·.size) = some 1 := by
  have := hi.i
  cases hq : P.info? et with
  | none => rw [hq] at this; simp at this
  | some i => rw [hq] at this; simp at this; simp [this]
 obtain ⟨g1, g2, g3⟩ : (Sl (Ty.num k) ao2 cap2 ys).says F w := s.fs _ hsl.mem
 have hr1 := s.rs (Own te (Ty.num k) (some ⟨g, 0, none⟩) cap xs) (by simp)
 by_cases h0 : ys = []
 ·subst h0
  have hrun := run_copy_none (P := P) w t1 t2 ty et (some ⟨g, 0, none⟩) ao2 xs.length cap 0 cap2 ht.u hsz (by simp)
  refine RX.eff (v := .int .i64 0) (w' := w) (fun a ha => ?_) hd (hk () w (mkOk1 s (Upd.refl _ _) (by simpa using hr1) (fun k hk _ => by simpa using hk)))
  have hy' : a.eval y = .slice ao2 0 cap2 := ha.ev hy
  simp [execOp, ha.ev hx, hy', resolve, invoke, builtin, hrun, goInt]
 ·obtain ⟨bl, o, news, rfl, h5, h6⟩ := slAt_cells g3 h0
  obtain ⟨cs, tl, q1, q2, q3, q4, q5⟩ := own_open hr1
  have hnl : news.length = ys.length := by rw [h5.len]; exact Nat.mul_one _
  have hcl : cs.length = xs.length := by rw [q2.len]; exact Nat.mul_one _
  have hrun := run_copy_row (P := P) w t1 t2 ty et g 0 xs.length cap ⟨bl, o, none⟩ ys.length cap2 (cs ++ tl).toArray te news ht.u hsz q1 (by rw [hnl]; exact (Nat.min_eq_left hle).symm) (fun j v hj => by rw [Addr.add_lit]; exact h6 j v hj) (by simp; omega) h5.one
  have hnew : ((cs ++ tl).toArray.toList.take 0 ++ news ++ (cs ++ tl).toArray.toList.drop (0 + news.length)) = (news ++ cs.drop ys.length) ++ tl := by
   simp only [List.take_zero, List.nil_append, Nat.zero_add, hnl]
   rw [List.drop_append_of_le_length (by omega), List.append_assoc]
  rw [hnew] at hrun
  have hu : Upd (feet [Own te (Ty.num k) (some ⟨g, 0, none⟩) cap xs]) w (w.setRow g (news ++ cs.drop ys.length ++ tl).toArray) := ⟨rfl, rfl, rfl, by simp [World.setRow], fun k' _ hk => setRow_other w g k' _ fun e => hk ⟨Own te (Ty.num k) (some ⟨g, 0, none⟩) cap xs, by simp, by subst e; rfl⟩⟩
  have hu2 : Upd (Own te (Ty.num k) (some ⟨g, 0, none⟩) cap xs).on w (w.setRow g (news ++ cs.drop ys.length ++ tl).toArray) := ⟨rfl, rfl, rfl, by simp [World.setRow], fun k' _ hk => setRow_other w g k' _ fun e => hk (by subst e; rfl)⟩
  refine RX.eff (v := .int .i64 (ys.length : Int)) (w' := w.setRow g (news ++ cs.drop ys.length ++ tl).toArray) (fun a ha => ?_) hd (hk () _ (mkOk1 s hu2 ?_ (fun k hk _ => hk)))
  ·simp [execOp, ha.ev hx, ha.ev hy, resolve, invoke, builtin, hrun, goInt, hnl]
  ·have key : ∀ (j : Nat) (xs : List Int) (cs : List Value), Els (Ty.num k) F w cs xs → Els (Ty.num k) F w (cs.drop j) (xs.drop j) := by
    intro j
    induction j with
    | zero => intro xs cs h; simpa using h
    | succ j ih =>
     intro xs cs h
     cases xs with
     | nil => have h : cs = [] := h
              subst h; simp; rfl
     | cons x xs =>
      obtain ⟨c1, c2, rfl, h2, h3⟩ := h
      have h2 : c1 = [.int k x] := h2
      subst h2
      simpa using ih _ _ h3
   have hap : Els (Ty.num k) F w (news ++ cs.drop ys.length) (ys ++ xs.drop ys.length) := h5.append (key _ _ _ q2)
   refine own_close (cs := news ++ cs.drop ys.length) (tl := tl) (setRow_heap w g _ _ te _ q1) (hap.move (fun _ _ h => h) (agF s hu)) ?_ ?_ q5
   ·rw [← q3]; simp only [List.length_append, List.length_drop]; omega
   ·simp only [List.length_append, List.length_drop]; omega
theorem quoI {S : World → Prop} {t t' : TypeId} {x y : Operand} {k : IntKind} {i j : Int} (hx : ev env x = some (.int k i)) (hy : ev env y = some (.int k j)) (hj : j ≠ 0) : Soft P n env S (.binOp .quo t x y t') (.int k (k.wrap (Int.tdiv i j))) := fun a ha o ho w _ => by
 simp [execOp, ho, ha.ev hx, ha.ev hy, eqGuard_at_int, binOp, Op.intDiv, hj]
theorem remI {S : World → Prop} {t t' : TypeId} {x y : Operand} {k : IntKind} {i j : Int} (hx : ev env x = some (.int k i)) (hy : ev env y = some (.int k j)) (hj : j ≠ 0) : Soft P n env S (.binOp .rem t x y t') (.int k (Int.tmod i j)) := fun a ha o ho w _ => by
 simp [execOp, ho, ha.ev hx, ha.ev hy, eqGuard_at_int, binOp, Op.intDiv, hj]
theorem negI {S : World → Prop} {t : TypeId} {x : Operand} {k : IntKind} {i : Int} (hx : ev env x = some (.int k i)) : Soft P n env S (.unOp .neg t x) (.int k (k.wrap (0 - i))) := fun a ha o ho w _ => by
 simp [execOp, ho, ha.ev hx, Op.unary, Op.intArith]
theorem b_quoI {t t' : TypeId} {x y : Operand} {k : IntKind} {i j : Int} (h : G n ((d, .int k (k.wrap (Int.tdiv i j))) :: env) b ps hp K) (hx : ev env x = some (.int k i) := by exact rfl) (hy : ev env y = some (.int k j) := by exact rfl) (hj : j ≠ 0 := by first | (with_reducible assumption) | omega) (hd : Nat.blt d n = true := by exact rfl) : GO P n env b ps hp ⟨some d, .binOp .quo t x y t', ty, pos, aft, gd⟩ K Q := rd1 (quoI hx hy hj) hd h
theorem b_remI {t t' : TypeId} {x y : Operand} {k : IntKind} {i j : Int} (h : G n ((d, .int k (Int.tmod i j)) :: env) b ps hp K) (hx : ev env x = some (.int k i) := by exact rfl) (hy : ev env y = some (.int k j) := by exact rfl) (hj : j ≠ 0 := by first | (with_reducible assumption) | omega) (hd : Nat.blt d n = true := by exact rfl) : GO P n env b ps hp ⟨some d, .binOp .rem t x y t', ty, pos, aft, gd⟩ K Q := rd1 (remI hx hy hj) hd h
theorem ngI {t : TypeId} {x : Operand} {k : IntKind} {i : Int} (h : G n ((d, .int k (k.wrap (0 - i))) :: env) b ps hp K) (hx : ev env x = some (.int k i) := by exact rfl) (hd : Nat.blt d n = true := by exact rfl) : GO P n env b ps hp ⟨some d, .unOp .neg t x, ty, pos, aft, gd⟩ K Q := rd1 (negI hx) hd h
theorem lk_get {bl : Nat} {f : Int → Option Value} {t k e : TypeId} {x y : Operand} {i : Int} {v zv : Value} {rest : List Res} [UMap P t k e] [UInt P k .i64] [UZero P e zv] [FMap bl hp f rest] (hx : ev env x = some (.map (some bl))) (hy : ev env y = some (.int .i64 i)) (hv : (f i).getD zv = v) : RdV P n env ps hp (.lookup t x y false) v := fun _ _ _ h2 => by
 subst hv
 exact RX.lookup (f := f) (e := e) (k := k) (z := zv) hx hy (fun _ ha => map_at (rest := rest) h2 ha)
theorem lkg {bl : Nat} {f : Int → Option Value} {t k e : TypeId} {x y : Operand} {i : Int} {zv v : Value} {rest : List Res} [UMap P t k e] [UInt P k .i64] [UZero P e zv] (h : G n ((d, v) :: env) b ps hp K) (hx : ev env x = some (.map (some bl)) := by exact rfl) (hy : ev env y = some (.int .i64 i) := by exact rfl) (i0 : FMap bl hp f rest := by exact inferInstance) (hv : (f i).getD zv = v := by with_reducible assumption) (hd : Nat.blt d n = true := by exact rfl) : GO P n env b ps hp ⟨some d, .lookup t x y false, ty, pos, aft, gd⟩ K Q := rdv (lk_get (f := f) (e := e) (k := k) (zv := zv) (rest := rest) hx hy hv) hd h
theorem rlkg {psW : List Pf} {hpS : List Res} {bl : Nat} {f : Int → Option Value} {t k e : TypeId} {x y : Operand} {i : Int} {zv v : Value} {rest : List Res} [UMap P t k e] [UInt P k .i64] [UZero P e zv] {wd : World} {F : Nat → Prop} (h : G n ((d, v) :: env) b ps hp K) (hx : ev env x = some (.map (some bl)) := by exact rfl) (hy : ev env y = some (.int .i64 i) := by exact rfl) (i0 : FMap bl hpS f rest := by exact inferInstance) (hv : (f i).getD zv = v := by with_reducible assumption) (hd : Nat.blt d n = true := by exact rfl) : GTR P n env psW hpS wd F b ps hp K ⟨some d, .lookup t x y false, ty, pos, aft, gd⟩ := .v (lk_get (f := f) (e := e) (k := k) (zv := zv) (rest := rest) hx hy hv) hd h
end
set_option maxRecDepth 10000 in
theorem wp_R {A B : Prop} (h : B) (h1 : Hold B → A := by intro hB_; (repeat (first | (apply GX.s_list; first | apply GX.nil | (refine GX.o ?_; first | (apply GX.k_load; first | refine GX.lr ?_ | refine GX.lrA ?_ | refine GX.ln ?_ | refine GX.lb ?_ | refine GX.lh ?_ | (refine GX.ls ?_; intro v9_ v9_ v9_ v9_) | (refine GX.lA ?_; intro v9_) | (refine GX.l0 ?_; intro v9_) | refine GX.o1n ?_ | refine GX.o1b ?_ | refine GX.o1h ?_ | (refine GX.o1s ?_; intro v9_ v9_ v9_ v9_) | refine GX.omn ?_ | refine GX.omb ?_ | refine GX.omh ?_ | (refine GX.oms ?_; intro v9_ v9_ v9_ v9_) | refine GX.ofn ?_ | refine GX.ofb ?_ | refine GX.ofh ?_ | (refine GX.ofs ?_; intro v9_ v9_ v9_ v9_) | (refine GX.oA ?_; intro v9_)) | (apply GX.k_move; refine GX.m ?_) | (apply GX.k_indexAddr; first | refine GX.io1 ?_ | refine GX.ioh ?_ | refine GX.i1 ?_ | refine GX.ih ?_ | (refine GX.ix ?_; intro v9_ v9_)) | (apply GX.k_binOp_lss; refine GX.b_lss ?_) | (apply GX.k_binOp_add; first | refine GX.b_inc ?_ | refine GX.b_add ?_ | refine GX.b_addw ?_) | (apply GX.k_assign; refine GX.a ?_) | (apply GX.k_fieldAddr; first | refine GX.f0 ?_ | refine GX.fh ?_ | refine GX.fa ?_) | (apply GX.k_call; first | refine GX.c_len ?_ | refine GX.c_max ?_ | refine GX.c_min ?_ | refine GX.cpI ?_ | (refine GX.ap ?_; intro v9_ v9_) | (refine GX.ap0 ?_; intro v9_ v9_)) | (apply GX.k_pick; first | refine GX.pt ?_ | refine GX.pf ?_ | refine GX.pk ?_) | (apply GX.k_store; first | refine GX.stW ?_ | refine GX.stB ?_ | refine GX.stR ?_ | refine GX.so1 ?_ | refine GX.som ?_ | refine GX.sof ?_ | refine GX.sog ?_) | (apply GX.k_extract; refine GX.ex ?_) | (apply GX.k_box; first | (refine GX.bxF ?_; intro v9_) | (refine GX.bxR ?_; intro v9_)) | (apply GX.k_slice; first | (refine GX.cl_ ?_; intro v9_)) | (apply GX.k_unOp; first | refine GX.nt ?_ | refine GX.nf ?_ | refine GX.nd ?_ | refine GX.n_ ?_ | refine GX.ngI ?_) | (apply GX.k_lookup; first | refine GX.lkg ?_) | (apply GX.k_nilCheck; refine GX.nc ?_) | (apply GX.k_build; refine GX.bd ?_) | (apply GX.k_buildSlice; (refine GX.sl ?_; intro v9_)) | (apply GX.k_alloc; (refine GX.al ?_; intro v9_)) | (apply GX.k_makeSlice; (refine GX.mks ?_; intro v9_)) | (apply GX.k_makeFunc; refine GX.mkf ?_) | (apply GX.k_makeMap; (refine GX.mm ?_; intro v9_)) | (apply GX.k_mapUpdate; refine GX.mu ?_) | (apply GX.k_binOp_eql; first | refine GX.b_eql ?_ | refine GX.b_pn ?_ | refine GX.b_nn ?_ | refine GX.b_snn ?_ | refine GX.b_sns ?_ | refine GX.b_eqls ?_ | refine GX.b_eqltf ?_ | refine GX.b_eqlft ?_ | refine GX.b_eqlb ?_) | (apply GX.k_binOp_geq; refine GX.b_geq ?_) | (apply GX.k_binOp_gtr; refine GX.b_gtr ?_) | (apply GX.k_binOp_leq; refine GX.b_leq ?_) | (apply GX.k_binOp_mul; first | refine GX.b_mulw ?_) | (apply GX.k_binOp_neq; first | refine GX.b_neq ?_ | refine GX.b_pm ?_ | refine GX.b_neqb ?_) | (apply GX.k_binOp_rem; first | refine GX.b_remI ?_) | (apply GX.k_binOp_sub; first | refine GX.b_dec ?_ | refine GX.b_sub ?_ | refine GX.b_subw ?_) | (refine GX.b_quoI ?_)) | refine GX.gt ?_ | refine GX.gf ?_ | refine GX.gbt ?_ | refine GX.gbf ?_ | refine GX.un ?_ | refine GX.un0 ?_) | apply GX.then_normal | apply GX.seq | apply GX.region | (apply GX.s_cond; first | refine GX.ct ?_ | refine GX.cf ?_ | refine GX.cdf ?_ | refine GX.cdt ?_ | refine GX.cbt ?_ | refine GX.cbf ?_) | apply GX.skip | apply GX.block | apply GX.inBlock_normal | apply GX.exit | apply GX.then_exit | apply GX.inBlock_exit | refine GX.ibo ?_ | apply GX.ret | apply GX.then_ret | apply GX.inBlock_ret)); (repeat revert v9_); exact hB_.out) : A := h1 ⟨h⟩
set_option maxRecDepth 10000 in
theorem wp_RA {A B : Prop} (h : B) (h1 : Hold B → A := by intro hB_; (repeat (first | (apply GX.s_list; first | apply GX.nil | (refine GX.o ?_; first | (apply GX.k_load; first | refine GX.lr ?_ | refine GX.lrA ?_ | refine GX.ln ?_ | refine GX.lb ?_ | refine GX.lh ?_ | (refine GX.ls ?_; intro v9_ v9_ v9_ v9_) | (refine GX.lA ?_; intro v9_) | (refine GX.l0 ?_; intro v9_) | refine GX.o1n ?_ | refine GX.o1b ?_ | refine GX.o1h ?_ | (refine GX.o1s ?_; intro v9_ v9_ v9_ v9_) | refine GX.omn ?_ | refine GX.omb ?_ | refine GX.omh ?_ | (refine GX.oms ?_; intro v9_ v9_ v9_ v9_) | refine GX.ofn ?_ | refine GX.ofb ?_ | refine GX.ofh ?_ | (refine GX.ofs ?_; intro v9_ v9_ v9_ v9_) | (refine GX.oA ?_; intro v9_)) | (apply GX.k_move; refine GX.m ?_) | (apply GX.k_indexAddr; first | refine GX.io1 ?_ | refine GX.ioh ?_ | refine GX.i1 ?_ | refine GX.ih ?_ | (refine GX.ix ?_; intro v9_ v9_)) | (apply GX.k_binOp_lss; refine GX.b_lss ?_) | (apply GX.k_binOp_add; first | refine GX.b_inc ?_ | refine GX.b_add ?_ | refine GX.b_addw ?_) | (apply GX.k_assign; refine GX.a ?_) | (apply GX.k_fieldAddr; first | refine GX.f0 ?_ | refine GX.fh ?_ | refine GX.fa ?_) | (apply GX.k_call; first | refine GX.c_len ?_ | refine GX.c_max ?_ | refine GX.c_min ?_ | refine GX.cpI ?_ | (refine GX.ap ?_; intro v9_ v9_) | (refine GX.ap0 ?_; intro v9_ v9_)) | (apply GX.k_pick; first | refine GX.pt ?_ | refine GX.pf ?_ | refine GX.pk ?_) | (apply GX.k_store; first | refine GX.stW ?_ | refine GX.stB ?_ | refine GX.stR ?_ | refine GX.so1 ?_ | refine GX.som ?_ | refine GX.sof ?_ | refine GX.sog ?_) | (apply GX.k_extract; refine GX.ex ?_) | (apply GX.k_box; (refine GX.bxR ?_; intro v9_)) | (apply GX.k_slice; first | (refine GX.cl_ ?_; intro v9_)) | (apply GX.k_unOp; first | refine GX.nt ?_ | refine GX.nf ?_ | refine GX.nd ?_ | refine GX.n_ ?_ | refine GX.ngI ?_) | (apply GX.k_lookup; first | refine GX.lkg ?_) | (apply GX.k_nilCheck; refine GX.nc ?_) | (apply GX.k_build; refine GX.bd ?_) | (apply GX.k_buildSlice; (refine GX.sl ?_; intro v9_)) | (apply GX.k_makeSlice; (refine GX.mks ?_; intro v9_)) | (apply GX.k_makeFunc; refine GX.mkf ?_) | (apply GX.k_makeMap; (refine GX.mm ?_; intro v9_)) | (apply GX.k_mapUpdate; refine GX.mu ?_) | (apply GX.k_binOp_eql; first | refine GX.b_eql ?_ | refine GX.b_pn ?_ | refine GX.b_nn ?_ | refine GX.b_snn ?_ | refine GX.b_sns ?_ | refine GX.b_eqls ?_ | refine GX.b_eqltf ?_ | refine GX.b_eqlft ?_ | refine GX.b_eqlb ?_) | (apply GX.k_binOp_geq; refine GX.b_geq ?_) | (apply GX.k_binOp_gtr; refine GX.b_gtr ?_) | (apply GX.k_binOp_leq; refine GX.b_leq ?_) | (apply GX.k_binOp_mul; first | refine GX.b_mulw ?_) | (apply GX.k_binOp_neq; first | refine GX.b_neq ?_ | refine GX.b_pm ?_ | refine GX.b_neqb ?_) | (apply GX.k_binOp_rem; first | refine GX.b_remI ?_) | (apply GX.k_binOp_sub; first | refine GX.b_dec ?_ | refine GX.b_sub ?_ | refine GX.b_subw ?_) | (refine GX.b_quoI ?_)) | refine GX.gt ?_ | refine GX.gf ?_ | refine GX.gbt ?_ | refine GX.gbf ?_ | refine GX.un ?_ | refine GX.un0 ?_) | apply GX.then_normal | apply GX.seq | apply GX.region | (apply GX.s_cond; first | refine GX.ct ?_ | refine GX.cf ?_ | refine GX.cdf ?_ | refine GX.cdt ?_ | refine GX.cbt ?_ | refine GX.cbf ?_) | apply GX.skip | apply GX.block | apply GX.inBlock_normal | apply GX.exit | apply GX.then_exit | apply GX.inBlock_exit | refine GX.ibo ?_ | apply GX.ret | apply GX.then_ret | apply GX.inBlock_ret)); (repeat revert v9_); exact hB_.out) : A := h1 ⟨h⟩
set_option maxRecDepth 10000 in
theorem wp_RB {A B : Prop} (h : B) (h1 : Hold B → A := by intro hB_; (repeat (first | (apply GX.s_list; first | apply GX.nil | (refine GX.o ?_; first | (apply GX.k_load; first | refine GX.lr ?_ | refine GX.lrA ?_ | refine GX.ln ?_ | refine GX.lb ?_ | refine GX.lh ?_ | (refine GX.ls ?_; intro v9_ v9_ v9_ v9_) | (refine GX.lA ?_; intro v9_) | (refine GX.l0 ?_; intro v9_) | refine GX.o1n ?_ | refine GX.o1b ?_ | refine GX.o1h ?_ | (refine GX.o1s ?_; intro v9_ v9_ v9_ v9_) | refine GX.omn ?_ | refine GX.omb ?_ | refine GX.omh ?_ | (refine GX.oms ?_; intro v9_ v9_ v9_ v9_) | refine GX.ofn ?_ | refine GX.ofb ?_ | refine GX.ofh ?_ | (refine GX.ofs ?_; intro v9_ v9_ v9_ v9_) | (refine GX.oA ?_; intro v9_)) | (apply GX.k_move; refine GX.m ?_) | (apply GX.k_indexAddr; first | refine GX.io1 ?_ | refine GX.ioh ?_ | refine GX.i1 ?_ | refine GX.ih ?_ | (refine GX.ix ?_; intro v9_ v9_)) | (apply GX.k_binOp_lss; refine GX.b_lss ?_) | (apply GX.k_binOp_add; first | refine GX.b_inc ?_ | refine GX.b_add ?_ | refine GX.b_addw ?_) | (apply GX.k_assign; refine GX.a ?_) | (apply GX.k_fieldAddr; first | refine GX.f0 ?_ | refine GX.fh ?_ | refine GX.fa ?_) | (apply GX.k_call; first | refine GX.c_len ?_ | refine GX.c_max ?_ | refine GX.c_min ?_ | refine GX.cpI ?_ | (refine GX.ap ?_; intro v9_ v9_) | (refine GX.ap0 ?_; intro v9_ v9_)) | (apply GX.k_pick; first | refine GX.pt ?_ | refine GX.pf ?_ | refine GX.pk ?_) | (apply GX.k_store; first | refine GX.stW ?_ | refine GX.stB ?_ | refine GX.stR ?_ | refine GX.so1 ?_ | refine GX.som ?_ | refine GX.sof ?_ | refine GX.sog ?_) | (apply GX.k_extract; refine GX.ex ?_) | (apply GX.k_box; first | (refine GX.bxF ?_; intro v9_) | (refine GX.bxR ?_; intro v9_)) | (apply GX.k_slice; first | (refine GX.cl_ ?_; intro v9_)) | (apply GX.k_unOp; first | refine GX.nt ?_ | refine GX.nf ?_ | refine GX.nd ?_ | refine GX.n_ ?_ | refine GX.ngI ?_) | (apply GX.k_lookup; first | refine GX.lkg ?_) | (apply GX.k_nilCheck; refine GX.nc ?_) | (apply GX.k_build; refine GX.bd ?_) | (apply GX.k_buildSlice; (refine GX.sl ?_; intro v9_)) | (apply GX.k_alloc; (refine GX.al ?_; intro v9_)) | (apply GX.k_makeSlice; (refine GX.mks ?_; intro v9_)) | (apply GX.k_makeFunc; refine GX.mkf ?_) | (apply GX.k_makeMap; (refine GX.mm ?_; intro v9_)) | (apply GX.k_mapUpdate; refine GX.mu ?_) | (apply GX.k_binOp_eql; first | refine GX.b_eql ?_ | refine GX.b_pn ?_ | refine GX.b_nn ?_ | refine GX.b_snn ?_ | refine GX.b_sns ?_ | refine GX.b_eqls ?_ | refine GX.b_eqltf ?_ | refine GX.b_eqlft ?_ | refine GX.b_eqlb ?_) | (apply GX.k_binOp_geq; refine GX.b_geq ?_) | (apply GX.k_binOp_gtr; refine GX.b_gtr ?_) | (apply GX.k_binOp_leq; refine GX.b_leq ?_) | (apply GX.k_binOp_mul; first | refine GX.b_mulw ?_) | (apply GX.k_binOp_neq; first | refine GX.b_neq ?_ | refine GX.b_pm ?_ | refine GX.b_neqb ?_) | (apply GX.k_binOp_rem; first | refine GX.b_remI ?_) | (apply GX.k_binOp_sub; first | refine GX.b_dec ?_ | refine GX.b_sub ?_ | refine GX.b_subw ?_) | (refine GX.b_quoI ?_)) | refine GX.gt ?_ | refine GX.gf ?_ | refine GX.gbt ?_ | refine GX.gbf ?_ | refine GX.un ?_ | refine GX.un0 ?_) | apply GX.then_normal | apply GX.seq | apply GX.region | (apply GX.s_cond; first | refine GX.ct ?_ | refine GX.cf ?_ | refine GX.cdf ?_ | refine GX.cdt ?_ | refine GX.cbt ?_ | refine GX.cbf ?_) | apply GX.skip | apply GX.inBlock_normal | apply GX.exit | apply GX.then_exit | apply GX.inBlock_exit | refine GX.ibo ?_ | apply GX.ret | apply GX.then_ret | apply GX.inBlock_ret)); (repeat revert v9_); exact hB_.out) : A := h1 ⟨h⟩
set_option maxRecDepth 10000 in
theorem wp_RN {A B : Prop} (h : B) (h1 : Hold B → A := by intro hB_; (repeat (first | (apply GX.s_list; first | apply GX.nil | (refine GX.o ?_; first | (apply GX.k_load; first | refine GX.lr ?_ | refine GX.lrA ?_ | refine GX.ln ?_ | refine GX.lb ?_ | refine GX.lh ?_ | (refine GX.ls ?_; intro v9_ v9_ v9_ v9_) | (refine GX.lA ?_; intro v9_) | (refine GX.l0 ?_; intro v9_) | refine GX.o1n ?_ | refine GX.o1b ?_ | refine GX.o1h ?_ | (refine GX.o1s ?_; intro v9_ v9_ v9_ v9_) | refine GX.omn ?_ | refine GX.omb ?_ | refine GX.omh ?_ | (refine GX.oms ?_; intro v9_ v9_ v9_ v9_) | refine GX.ofn ?_ | refine GX.ofb ?_ | refine GX.ofh ?_ | (refine GX.ofs ?_; intro v9_ v9_ v9_ v9_) | (refine GX.oA ?_; intro v9_)) | (apply GX.k_move; refine GX.m ?_) | (apply GX.k_indexAddr; first | refine GX.io1 ?_ | refine GX.ioh ?_ | refine GX.i1 ?_ | refine GX.ih ?_ | (refine GX.ix ?_; intro v9_ v9_)) | (apply GX.k_binOp_lss; refine GX.b_lss ?_) | (apply GX.k_binOp_add; first | refine GX.b_inc ?_ | refine GX.b_add ?_ | refine GX.b_addw ?_) | (apply GX.k_assign; refine GX.a ?_) | (apply GX.k_fieldAddr; first | refine GX.f0 ?_ | refine GX.fh ?_ | refine GX.fa ?_) | (apply GX.k_call; first | refine GX.c_len ?_ | refine GX.c_max ?_ | refine GX.c_min ?_ | refine GX.cpI ?_ | (refine GX.ap ?_; intro v9_ v9_) | (refine GX.ap0 ?_; intro v9_ v9_)) | (apply GX.k_pick; first | refine GX.pt ?_ | refine GX.pf ?_ | refine GX.pk ?_) | (apply GX.k_store; first | refine GX.stW ?_ | refine GX.stB ?_ | refine GX.stR ?_ | refine GX.so1 ?_ | refine GX.som ?_ | refine GX.sof ?_ | refine GX.sog ?_) | (apply GX.k_extract; refine GX.ex ?_) | (apply GX.k_box; first | (refine GX.bxF ?_; intro v9_) | (refine GX.bxR ?_; intro v9_)) | (apply GX.k_slice; first | (refine GX.cl_ ?_; intro v9_)) | (apply GX.k_unOp; first | refine GX.nt ?_ | refine GX.nf ?_ | refine GX.nd ?_ | refine GX.n_ ?_ | refine GX.ngI ?_) | (apply GX.k_lookup; first | refine GX.lkg ?_) | (apply GX.k_nilCheck; refine GX.nc ?_) | (apply GX.k_build; refine GX.bd ?_) | (apply GX.k_buildSlice; (refine GX.sl ?_; intro v9_)) | (apply GX.k_alloc; (refine GX.al ?_; intro v9_)) | (apply GX.k_makeSlice; (refine GX.mks ?_; intro v9_)) | (apply GX.k_makeFunc; refine GX.mkf ?_) | (apply GX.k_makeMap; (refine GX.mm ?_; intro v9_)) | (apply GX.k_mapUpdate; refine GX.mu ?_) | (apply GX.k_binOp_eql; first | refine GX.b_eql ?_ | refine GX.b_pn ?_ | refine GX.b_nn ?_ | refine GX.b_snn ?_ | refine GX.b_sns ?_ | refine GX.b_eqls ?_ | refine GX.b_eqltf ?_ | refine GX.b_eqlft ?_ | refine GX.b_eqlb ?_) | (apply GX.k_binOp_geq; refine GX.b_geq ?_) | (apply GX.k_binOp_gtr; refine GX.b_gtr ?_) | (apply GX.k_binOp_leq; refine GX.b_leq ?_) | (apply GX.k_binOp_mul; first | refine GX.b_mulw ?_) | (apply GX.k_binOp_neq; first | refine GX.b_neq ?_ | refine GX.b_pm ?_ | refine GX.b_neqb ?_) | (apply GX.k_binOp_rem; first | refine GX.b_remI ?_) | (apply GX.k_binOp_sub; first | refine GX.b_dec ?_ | refine GX.b_sub ?_ | refine GX.b_subw ?_) | (refine GX.b_quoI ?_)) | refine GX.gt ?_ | refine GX.gf ?_ | refine GX.gbt ?_ | refine GX.gbf ?_ | refine GX.un ?_ | refine GX.un0 ?_) | apply GX.then_normal | apply GX.seq | (apply GX.s_cond; first | refine GX.ct ?_ | refine GX.cf ?_ | refine GX.cdf ?_ | refine GX.cdt ?_ | refine GX.cbt ?_ | refine GX.cbf ?_) | apply GX.skip | apply GX.block | apply GX.inBlock_normal | apply GX.exit | apply GX.then_exit | apply GX.inBlock_exit | refine GX.ibo ?_ | apply GX.ret | apply GX.then_ret | apply GX.inBlock_ret)); (repeat revert v9_); exact hB_.out) : A := h1 ⟨h⟩
set_option maxRecDepth 10000 in
theorem wp_T {A B : Prop} (h : B) (h1 : Hold B → A := by intro hB_; (repeat (first | (apply GX.s_take; first | (refine GX.tkp ?_; first | (apply GX.t_move; refine GX.tm ?_) | (apply GX.t_indexAddr; first | refine GX.ti1 ?_ | refine GX.tih ?_) | (apply GX.t_binOp_lss; refine GX.tb_lss ?_) | (apply GX.t_binOp_add; first | refine GX.tb_add ?_) | (apply GX.t_fieldAddr; first | refine GX.tf0 ?_ | refine GX.tfh ?_ | refine GX.tfa ?_) | (apply GX.t_pick; first | refine GX.tpt ?_ | refine GX.tpf ?_) | (apply GX.t_unOp; first | refine GX.tnt ?_ | refine GX.tnf ?_ | refine GX.tnd ?_) | (apply GX.t_nilCheck; refine GX.tnc ?_) | (apply GX.t_build; refine GX.tbd ?_) | (apply GX.t_binOp_eql; first | refine GX.tb_eql ?_ | refine GX.tb_eqlb ?_) | (apply GX.t_binOp_geq; refine GX.tb_geq ?_) | (apply GX.t_binOp_leq; refine GX.tb_leq ?_) | (apply GX.t_binOp_neq; first | refine GX.tb_neq ?_) | (apply GX.t_binOp_sub; first | refine GX.tb_dec ?_ | refine GX.tb_sub ?_)) | ((first | refine GX.tkr ?_ | refine GX.tkrE ?_); first | (apply GX.r_load; first | refine GX.rlr ?_ | refine GX.rln ?_ | refine GX.rlb ?_ | (refine GX.rls ?_; intro v9_ v9_ v9_ v9_ v9_) | (refine GX.rlA ?_; intro v9_ v9_) | (refine GX.rl0 ?_; intro v9_ v9_) | refine GX.ro1n ?_ | refine GX.romn ?_ | refine GX.rofn ?_ | refine GX.rofh ?_ | refine GX.ro1p ?_) | (apply GX.r_assign; refine GX.ra ?_) | (apply GX.r_call; first | refine GX.rc_len ?_ | refine GX.rc_max ?_ | refine GX.rc_min ?_) | (apply GX.r_extract; refine GX.rex ?_) | (apply GX.r_slice; first | (refine GX.rch ?_; intro v9_ v9_)) | (apply GX.r_lookup; first | refine GX.rlkg ?_) | (apply GX.r_makeFunc; refine GX.rmkf ?_)) | (refine GX.tkx ?_; first | (refine GX.xix ?_; intro v9_ v9_ v9_)) | refine GX.pgt ?_ | refine GX.pgf ?_ | refine GX.pgbt ?_ | refine GX.pgbf ?_ | refine GX.tkn ?_) | (apply GX.s_go; first | (refine GX.gow ?_; first | (apply GX.k_load; first | refine GX.lr ?_ | refine GX.lrA ?_ | refine GX.ln ?_ | refine GX.lb ?_ | refine GX.lh ?_ | (refine GX.ls ?_; intro v9_ v9_ v9_ v9_) | (refine GX.lA ?_; intro v9_) | (refine GX.l0 ?_; intro v9_) | refine GX.o1n ?_ | refine GX.o1b ?_ | refine GX.o1h ?_ | (refine GX.o1s ?_; intro v9_ v9_ v9_ v9_) | refine GX.omn ?_ | refine GX.omb ?_ | refine GX.omh ?_ | (refine GX.oms ?_; intro v9_ v9_ v9_ v9_) | refine GX.ofn ?_ | refine GX.ofb ?_ | refine GX.ofh ?_ | (refine GX.ofs ?_; intro v9_ v9_ v9_ v9_) | (refine GX.oA ?_; intro v9_)) | (apply GX.k_move; refine GX.m ?_) | (apply GX.k_indexAddr; first | refine GX.io1 ?_ | refine GX.ioh ?_ | refine GX.i1 ?_ | refine GX.ih ?_ | (refine GX.ix ?_; intro v9_ v9_)) | (apply GX.k_binOp_lss; refine GX.b_lss ?_) | (apply GX.k_binOp_add; first | refine GX.b_inc ?_ | refine GX.b_add ?_ | refine GX.b_addw ?_) | (apply GX.k_assign; refine GX.a ?_) | (apply GX.k_fieldAddr; first | refine GX.f0 ?_ | refine GX.fh ?_ | refine GX.fa ?_) | (apply GX.k_call; first | refine GX.c_len ?_ | refine GX.c_max ?_ | refine GX.c_min ?_ | refine GX.cpI ?_ | (refine GX.ap ?_; intro v9_ v9_) | (refine GX.ap0 ?_; intro v9_ v9_)) | (apply GX.k_pick; first | refine GX.pt ?_ | refine GX.pf ?_ | refine GX.pk ?_) | (apply GX.k_store; first | refine GX.stW ?_ | refine GX.stB ?_ | refine GX.stR ?_ | refine GX.so1 ?_ | refine GX.som ?_ | refine GX.sof ?_ | refine GX.sog ?_) | (apply GX.k_extract; refine GX.ex ?_) | (apply GX.k_box; first | (refine GX.bxF ?_; intro v9_) | (refine GX.bxR ?_; intro v9_)) | (apply GX.k_slice; first | (refine GX.cl_ ?_; intro v9_)) | (apply GX.k_unOp; first | refine GX.nt ?_ | refine GX.nf ?_ | refine GX.nd ?_ | refine GX.n_ ?_ | refine GX.ngI ?_) | (apply GX.k_lookup; first | refine GX.lkg ?_) | (apply GX.k_nilCheck; refine GX.nc ?_) | (apply GX.k_build; refine GX.bd ?_) | (apply GX.k_buildSlice; (refine GX.sl ?_; intro v9_)) | (apply GX.k_alloc; (refine GX.al ?_; intro v9_)) | (apply GX.k_makeSlice; (refine GX.mks ?_; intro v9_)) | (apply GX.k_makeFunc; refine GX.mkf ?_) | (apply GX.k_makeMap; (refine GX.mm ?_; intro v9_)) | (apply GX.k_mapUpdate; refine GX.mu ?_) | (apply GX.k_binOp_eql; first | refine GX.b_eql ?_ | refine GX.b_pn ?_ | refine GX.b_nn ?_ | refine GX.b_snn ?_ | refine GX.b_sns ?_ | refine GX.b_eqls ?_ | refine GX.b_eqltf ?_ | refine GX.b_eqlft ?_ | refine GX.b_eqlb ?_) | (apply GX.k_binOp_geq; refine GX.b_geq ?_) | (apply GX.k_binOp_gtr; refine GX.b_gtr ?_) | (apply GX.k_binOp_leq; refine GX.b_leq ?_) | (apply GX.k_binOp_mul; first | refine GX.b_mulw ?_) | (apply GX.k_binOp_neq; first | refine GX.b_neq ?_ | refine GX.b_pm ?_ | refine GX.b_neqb ?_) | (apply GX.k_binOp_rem; first | refine GX.b_remI ?_) | (apply GX.k_binOp_sub; first | refine GX.b_dec ?_ | refine GX.b_sub ?_ | refine GX.b_subw ?_) | (refine GX.b_quoI ?_)) | refine GX.pgt ?_ | refine GX.pgf ?_ | refine GX.pgbt ?_ | refine GX.pgbf ?_ | refine GX.gon ?_) | (apply GX.s_went; first | refine GX.wentF ?_ | refine GX.went ?_ | refine GX.wentE ?_) | apply GX.done | apply GX.treeL | apply GX.treeB | apply GX.treeO | apply GX.endK | (apply GX.s_gok; refine GX.gok ?_; first | (apply GX.k_load; first | refine GX.lr ?_ | refine GX.lrA ?_ | refine GX.ln ?_ | refine GX.lb ?_ | refine GX.lh ?_ | (refine GX.ls ?_; intro v9_ v9_ v9_ v9_) | (refine GX.lA ?_; intro v9_) | (refine GX.l0 ?_; intro v9_) | refine GX.o1n ?_ | refine GX.o1b ?_ | refine GX.o1h ?_ | (refine GX.o1s ?_; intro v9_ v9_ v9_ v9_) | refine GX.omn ?_ | refine GX.omb ?_ | refine GX.omh ?_ | (refine GX.oms ?_; intro v9_ v9_ v9_ v9_) | refine GX.ofn ?_ | refine GX.ofb ?_ | refine GX.ofh ?_ | (refine GX.ofs ?_; intro v9_ v9_ v9_ v9_) | (refine GX.oA ?_; intro v9_)) | (apply GX.k_move; refine GX.m ?_) | (apply GX.k_indexAddr; first | refine GX.io1 ?_ | refine GX.ioh ?_ | refine GX.i1 ?_ | refine GX.ih ?_ | (refine GX.ix ?_; intro v9_ v9_)) | (apply GX.k_binOp_lss; refine GX.b_lss ?_) | (apply GX.k_binOp_add; first | refine GX.b_inc ?_ | refine GX.b_add ?_ | refine GX.b_addw ?_) | (apply GX.k_assign; refine GX.a ?_) | (apply GX.k_fieldAddr; first | refine GX.f0 ?_ | refine GX.fh ?_ | refine GX.fa ?_) | (apply GX.k_call; first | refine GX.c_len ?_ | refine GX.c_max ?_ | refine GX.c_min ?_ | refine GX.cpI ?_ | (refine GX.ap ?_; intro v9_ v9_) | (refine GX.ap0 ?_; intro v9_ v9_)) | (apply GX.k_pick; first | refine GX.pt ?_ | refine GX.pf ?_ | refine GX.pk ?_) | (apply GX.k_store; first | refine GX.stW ?_ | refine GX.stB ?_ | refine GX.stR ?_ | refine GX.so1 ?_ | refine GX.som ?_ | refine GX.sof ?_ | refine GX.sog ?_) | (apply GX.k_extract; refine GX.ex ?_) | (apply GX.k_box; first | (refine GX.bxF ?_; intro v9_) | (refine GX.bxR ?_; intro v9_)) | (apply GX.k_slice; first | (refine GX.cl_ ?_; intro v9_)) | (apply GX.k_unOp; first | refine GX.nt ?_ | refine GX.nf ?_ | refine GX.nd ?_ | refine GX.n_ ?_ | refine GX.ngI ?_) | (apply GX.k_lookup; first | refine GX.lkg ?_) | (apply GX.k_nilCheck; refine GX.nc ?_) | (apply GX.k_build; refine GX.bd ?_) | (apply GX.k_buildSlice; (refine GX.sl ?_; intro v9_)) | (apply GX.k_alloc; (refine GX.al ?_; intro v9_)) | (apply GX.k_makeSlice; (refine GX.mks ?_; intro v9_)) | (apply GX.k_makeFunc; refine GX.mkf ?_) | (apply GX.k_makeMap; (refine GX.mm ?_; intro v9_)) | (apply GX.k_mapUpdate; refine GX.mu ?_) | (apply GX.k_binOp_eql; first | refine GX.b_eql ?_ | refine GX.b_pn ?_ | refine GX.b_nn ?_ | refine GX.b_snn ?_ | refine GX.b_sns ?_ | refine GX.b_eqls ?_ | refine GX.b_eqltf ?_ | refine GX.b_eqlft ?_ | refine GX.b_eqlb ?_) | (apply GX.k_binOp_geq; refine GX.b_geq ?_) | (apply GX.k_binOp_gtr; refine GX.b_gtr ?_) | (apply GX.k_binOp_leq; refine GX.b_leq ?_) | (apply GX.k_binOp_mul; first | refine GX.b_mulw ?_) | (apply GX.k_binOp_neq; first | refine GX.b_neq ?_ | refine GX.b_pm ?_ | refine GX.b_neqb ?_) | (apply GX.k_binOp_rem; first | refine GX.b_remI ?_) | (apply GX.k_binOp_sub; first | refine GX.b_dec ?_ | refine GX.b_sub ?_ | refine GX.b_subw ?_) | (refine GX.b_quoI ?_)))); (repeat revert v9_); exact hB_.out) : A := h1 ⟨h⟩
set_option maxRecDepth 10000 in
theorem wp_TA {A B : Prop} (h : B) (h1 : Hold B → A := by intro hB_; (repeat (first | (apply GX.s_take; first | (refine GX.tkp ?_; first | (apply GX.t_move; refine GX.tm ?_) | (apply GX.t_indexAddr; first | refine GX.ti1 ?_ | refine GX.tih ?_) | (apply GX.t_binOp_lss; refine GX.tb_lss ?_) | (apply GX.t_binOp_add; first | refine GX.tb_add ?_) | (apply GX.t_fieldAddr; first | refine GX.tf0 ?_ | refine GX.tfh ?_ | refine GX.tfa ?_) | (apply GX.t_pick; first | refine GX.tpt ?_ | refine GX.tpf ?_) | (apply GX.t_unOp; first | refine GX.tnt ?_ | refine GX.tnf ?_ | refine GX.tnd ?_) | (apply GX.t_nilCheck; refine GX.tnc ?_) | (apply GX.t_build; refine GX.tbd ?_) | (apply GX.t_binOp_eql; first | refine GX.tb_eql ?_ | refine GX.tb_eqlb ?_) | (apply GX.t_binOp_geq; refine GX.tb_geq ?_) | (apply GX.t_binOp_leq; refine GX.tb_leq ?_) | (apply GX.t_binOp_neq; first | refine GX.tb_neq ?_) | (apply GX.t_binOp_sub; first | refine GX.tb_dec ?_ | refine GX.tb_sub ?_)) | ((first | refine GX.tkr ?_ | refine GX.tkrE ?_); first | (apply GX.r_load; first | refine GX.rlr ?_ | refine GX.rln ?_ | refine GX.rlb ?_ | (refine GX.rls ?_; intro v9_ v9_ v9_ v9_ v9_) | (refine GX.rlA ?_; intro v9_ v9_) | (refine GX.rl0 ?_; intro v9_ v9_) | refine GX.ro1n ?_ | refine GX.romn ?_ | refine GX.rofn ?_ | refine GX.rofh ?_ | refine GX.ro1p ?_) | (apply GX.r_assign; refine GX.ra ?_) | (apply GX.r_call; first | refine GX.rc_len ?_ | refine GX.rc_max ?_ | refine GX.rc_min ?_) | (apply GX.r_extract; refine GX.rex ?_) | (apply GX.r_slice; first | (refine GX.rch ?_; intro v9_ v9_)) | (apply GX.r_lookup; first | refine GX.rlkg ?_) | (apply GX.r_makeFunc; refine GX.rmkf ?_)) | (refine GX.tkx ?_; first | (refine GX.xix ?_; intro v9_ v9_ v9_)) | refine GX.pgt ?_ | refine GX.pgf ?_ | refine GX.pgbt ?_ | refine GX.pgbf ?_ | refine GX.tkn ?_) | (apply GX.s_go; first | (refine GX.gow ?_; first | (apply GX.k_load; first | refine GX.lr ?_ | refine GX.lrA ?_ | refine GX.ln ?_ | refine GX.lb ?_ | refine GX.lh ?_ | (refine GX.ls ?_; intro v9_ v9_ v9_ v9_) | (refine GX.lA ?_; intro v9_) | (refine GX.l0 ?_; intro v9_) | refine GX.o1n ?_ | refine GX.o1b ?_ | refine GX.o1h ?_ | (refine GX.o1s ?_; intro v9_ v9_ v9_ v9_) | refine GX.omn ?_ | refine GX.omb ?_ | refine GX.omh ?_ | (refine GX.oms ?_; intro v9_ v9_ v9_ v9_) | refine GX.ofn ?_ | refine GX.ofb ?_ | refine GX.ofh ?_ | (refine GX.ofs ?_; intro v9_ v9_ v9_ v9_) | (refine GX.oA ?_; intro v9_)) | (apply GX.k_move; refine GX.m ?_) | (apply GX.k_indexAddr; first | refine GX.io1 ?_ | refine GX.ioh ?_ | refine GX.i1 ?_ | refine GX.ih ?_ | (refine GX.ix ?_; intro v9_ v9_)) | (apply GX.k_binOp_lss; refine GX.b_lss ?_) | (apply GX.k_binOp_add; first | refine GX.b_inc ?_ | refine GX.b_add ?_ | refine GX.b_addw ?_) | (apply GX.k_assign; refine GX.a ?_) | (apply GX.k_fieldAddr; first | refine GX.f0 ?_ | refine GX.fh ?_ | refine GX.fa ?_) | (apply GX.k_call; first | refine GX.c_len ?_ | refine GX.c_max ?_ | refine GX.c_min ?_ | refine GX.cpI ?_ | (refine GX.ap ?_; intro v9_ v9_) | (refine GX.ap0 ?_; intro v9_ v9_)) | (apply GX.k_pick; first | refine GX.pt ?_ | refine GX.pf ?_ | refine GX.pk ?_) | (apply GX.k_store; first | refine GX.stW ?_ | refine GX.stB ?_ | refine GX.stR ?_ | refine GX.so1 ?_ | refine GX.som ?_ | refine GX.sof ?_ | refine GX.sog ?_) | (apply GX.k_extract; refine GX.ex ?_) | (apply GX.k_box; (refine GX.bxR ?_; intro v9_)) | (apply GX.k_slice; first | (refine GX.cl_ ?_; intro v9_)) | (apply GX.k_unOp; first | refine GX.nt ?_ | refine GX.nf ?_ | refine GX.nd ?_ | refine GX.n_ ?_ | refine GX.ngI ?_) | (apply GX.k_lookup; first | refine GX.lkg ?_) | (apply GX.k_nilCheck; refine GX.nc ?_) | (apply GX.k_build; refine GX.bd ?_) | (apply GX.k_buildSlice; (refine GX.sl ?_; intro v9_)) | (apply GX.k_makeSlice; (refine GX.mks ?_; intro v9_)) | (apply GX.k_makeFunc; refine GX.mkf ?_) | (apply GX.k_makeMap; (refine GX.mm ?_; intro v9_)) | (apply GX.k_mapUpdate; refine GX.mu ?_) | (apply GX.k_binOp_eql; first | refine GX.b_eql ?_ | refine GX.b_pn ?_ | refine GX.b_nn ?_ | refine GX.b_snn ?_ | refine GX.b_sns ?_ | refine GX.b_eqls ?_ | refine GX.b_eqltf ?_ | refine GX.b_eqlft ?_ | refine GX.b_eqlb ?_) | (apply GX.k_binOp_geq; refine GX.b_geq ?_) | (apply GX.k_binOp_gtr; refine GX.b_gtr ?_) | (apply GX.k_binOp_leq; refine GX.b_leq ?_) | (apply GX.k_binOp_mul; first | refine GX.b_mulw ?_) | (apply GX.k_binOp_neq; first | refine GX.b_neq ?_ | refine GX.b_pm ?_ | refine GX.b_neqb ?_) | (apply GX.k_binOp_rem; first | refine GX.b_remI ?_) | (apply GX.k_binOp_sub; first | refine GX.b_dec ?_ | refine GX.b_sub ?_ | refine GX.b_subw ?_) | (refine GX.b_quoI ?_)) | refine GX.pgt ?_ | refine GX.pgf ?_ | refine GX.pgbt ?_ | refine GX.pgbf ?_ | refine GX.gon ?_) | (apply GX.s_went; first | refine GX.wentF ?_ | refine GX.went ?_ | refine GX.wentE ?_) | apply GX.done | apply GX.treeL | apply GX.treeB | apply GX.treeO | apply GX.endK | (apply GX.s_gok; refine GX.gok ?_; first | (apply GX.k_load; first | refine GX.lr ?_ | refine GX.lrA ?_ | refine GX.ln ?_ | refine GX.lb ?_ | refine GX.lh ?_ | (refine GX.ls ?_; intro v9_ v9_ v9_ v9_) | (refine GX.lA ?_; intro v9_) | (refine GX.l0 ?_; intro v9_) | refine GX.o1n ?_ | refine GX.o1b ?_ | refine GX.o1h ?_ | (refine GX.o1s ?_; intro v9_ v9_ v9_ v9_) | refine GX.omn ?_ | refine GX.omb ?_ | refine GX.omh ?_ | (refine GX.oms ?_; intro v9_ v9_ v9_ v9_) | refine GX.ofn ?_ | refine GX.ofb ?_ | refine GX.ofh ?_ | (refine GX.ofs ?_; intro v9_ v9_ v9_ v9_) | (refine GX.oA ?_; intro v9_)) | (apply GX.k_move; refine GX.m ?_) | (apply GX.k_indexAddr; first | refine GX.io1 ?_ | refine GX.ioh ?_ | refine GX.i1 ?_ | refine GX.ih ?_ | (refine GX.ix ?_; intro v9_ v9_)) | (apply GX.k_binOp_lss; refine GX.b_lss ?_) | (apply GX.k_binOp_add; first | refine GX.b_inc ?_ | refine GX.b_add ?_ | refine GX.b_addw ?_) | (apply GX.k_assign; refine GX.a ?_) | (apply GX.k_fieldAddr; first | refine GX.f0 ?_ | refine GX.fh ?_ | refine GX.fa ?_) | (apply GX.k_call; first | refine GX.c_len ?_ | refine GX.c_max ?_ | refine GX.c_min ?_ | refine GX.cpI ?_ | (refine GX.ap ?_; intro v9_ v9_) | (refine GX.ap0 ?_; intro v9_ v9_)) | (apply GX.k_pick; first | refine GX.pt ?_ | refine GX.pf ?_ | refine GX.pk ?_) | (apply GX.k_store; first | refine GX.stW ?_ | refine GX.stB ?_ | refine GX.stR ?_ | refine GX.so1 ?_ | refine GX.som ?_ | refine GX.sof ?_ | refine GX.sog ?_) | (apply GX.k_extract; refine GX.ex ?_) | (apply GX.k_box; (refine GX.bxR ?_; intro v9_)) | (apply GX.k_slice; first | (refine GX.cl_ ?_; intro v9_)) | (apply GX.k_unOp; first | refine GX.nt ?_ | refine GX.nf ?_ | refine GX.nd ?_ | refine GX.n_ ?_ | refine GX.ngI ?_) | (apply GX.k_lookup; first | refine GX.lkg ?_) | (apply GX.k_nilCheck; refine GX.nc ?_) | (apply GX.k_build; refine GX.bd ?_) | (apply GX.k_buildSlice; (refine GX.sl ?_; intro v9_)) | (apply GX.k_makeSlice; (refine GX.mks ?_; intro v9_)) | (apply GX.k_makeFunc; refine GX.mkf ?_) | (apply GX.k_makeMap; (refine GX.mm ?_; intro v9_)) | (apply GX.k_mapUpdate; refine GX.mu ?_) | (apply GX.k_binOp_eql; first | refine GX.b_eql ?_ | refine GX.b_pn ?_ | refine GX.b_nn ?_ | refine GX.b_snn ?_ | refine GX.b_sns ?_ | refine GX.b_eqls ?_ | refine GX.b_eqltf ?_ | refine GX.b_eqlft ?_ | refine GX.b_eqlb ?_) | (apply GX.k_binOp_geq; refine GX.b_geq ?_) | (apply GX.k_binOp_gtr; refine GX.b_gtr ?_) | (apply GX.k_binOp_leq; refine GX.b_leq ?_) | (apply GX.k_binOp_mul; first | refine GX.b_mulw ?_) | (apply GX.k_binOp_neq; first | refine GX.b_neq ?_ | refine GX.b_pm ?_ | refine GX.b_neqb ?_) | (apply GX.k_binOp_rem; first | refine GX.b_remI ?_) | (apply GX.k_binOp_sub; first | refine GX.b_dec ?_ | refine GX.b_sub ?_ | refine GX.b_subw ?_) | (refine GX.b_quoI ?_)))); (repeat revert v9_); exact hB_.out) : A := h1 ⟨h⟩
end Go.GX
namespace Go.Proofs.YtomadjefdghliaaGreat
open Go Go.RR Go.RX Go.GX Go.Api
attribute [local irreducible] wpList Code.wp wpPlan Exit.then Exit.inBlock bodyPost NoPanic Went GX.Post GX.Again GX.Meet GX.RowR GX.Own GX.Owns GX.Box GX.Sl GX.Pt GX.Ag GX.MapR GX.Kept GX.Pin wpT GoK AtEnd Both
theorem flag_spec (b : Bool) : Does Tryz.prog 136 [.bool b] [] [] (fun _ : Unit => .int .i64 (if b = true then 1 else 0)) (fun _ => []) (fun _ => []) := by
 refine enter Tryz.func136 rfl Tryz.ntmps136 rfl fun _ => ?_
 cases b with
 | true =>
  refine GX.wp_R ?_; intros
  exact rt1 () rfl
 | false =>
  refine GX.wp_R ?_; intros
  exact rt1 () rfl
theorem flg_dec (p : Prop) [Decidable p] : (if decide p = true then (1 : Int) else 0) = flg p := by unfold flg; by_cases h : p <;> simp [h]
theorem flagP_spec (p : Prop) [Decidable p] : Does Tryz.prog 136 [.bool (decide p)] [] [] (fun _ : Unit => .int .i64 (flg p)) (fun _ => []) (fun _ => []) := by
 have := flag_spec (decide p)
 rwa [flg_dec] at this
set_option maxHeartbeats 2000000 in
theorem bin_spec (op a b : Int) : Does Tryz.prog 103 [.int .i64 op, .int .i64 a, .int .i64 b] [] [] (fun _ : Unit => .tuple #[.int .i64 (bin op a b).1, .int .i64 (bin op a b).2]) (fun _ => []) (fun _ => []) := by
 refine enter Tryz.func103 rfl Tryz.ntmps103 rfl fun _ => ?_
 by_cases h14 : op = 14
 ·refine GX.wp_R ?_; intros
  exact rt2 () (by subst h14; rfl)
 by_cases h15 : op = 15
 ·refine GX.wp_R ?_; intros
  exact rt2 () (by subst h15; rfl)
 by_cases h16 : op = 16
 ·refine GX.wp_R ?_; intros
  exact rt2 () (by subst h16; rfl)
 by_cases h17 : op = 17
 ·by_cases hb : b = 0
  ·refine GX.wp_R ?_; intros
   exact rt2 () (by subst h17; subst hb; rfl)
  ·have e : bin op a b = (w64 (Int.tdiv a b), 0) := by unfold bin; simp [h17, hb]
   rw [e]
   refine GX.wp_R ?_; intros
   exact rt2 () rfl
 by_cases h18 : op = 18
 ·by_cases hb : b = 0
  ·refine GX.wp_R ?_; intros
   exact rt2 () (by subst h18; subst hb; rfl)
  ·have e : bin op a b = (Int.tmod a b, 0) := by unfold bin; simp [h18, hb]
   rw [e]
   refine GX.wp_R ?_; intros
   exact rt2 () rfl
 by_cases h19 : op = 19
 ·have e : bin op a b = (flg (a < b), 0) := by subst h19; rfl
  rw [e]
  refine GX.wp_R ?_; intros
  refine GX.o (cl (flagP_spec (a < b)) fun _ => ?_)
  refine GX.wp_R ?_; intros
  exact rt2 () rfl
 by_cases h20 : op = 20
 ·have e : bin op a b = (flg (a ≤ b), 0) := by subst h20; rfl
  rw [e]
  refine GX.wp_R ?_; intros
  refine GX.o (cl (flagP_spec (a ≤ b)) fun _ => ?_)
  refine GX.wp_R ?_; intros
  exact rt2 () rfl
 by_cases h21 : op = 21
 ·have e : bin op a b = (flg (a = b), 0) := by subst h21; rfl
  rw [e]
  refine GX.wp_R ?_; intros
  refine GX.o (cl (flagP_spec (a = b)) fun _ => ?_)
  refine GX.wp_R ?_; intros
  exact rt2 () rfl
 by_cases h22 : op = 22
 ·have e : bin op a b = (flg (a ≠ b), 0) := by subst h22; rfl
  rw [e]
  refine GX.wp_R ?_; intros
  refine GX.o (cl (flagP_spec (a ≠ b)) fun _ => ?_)
  refine GX.wp_R ?_; intros
  exact rt2 () rfl
 by_cases h23 : op = 23
 ·by_cases ha : a = 0
  ·have e : bin op a b = (0, 0) := by subst h23; simp [bin, flg, ha]
   rw [e]
   refine GX.wp_R ?_; intros
   refine GX.o (cl (flag_spec false) fun _ => ?_)
   refine GX.wp_R ?_; intros
   exact rt2 () rfl
  ·have e : bin op a b = (flg (b ≠ 0), 0) := by subst h23; simp [bin, flg, ha]
   rw [e]
   refine GX.wp_R ?_; intros
   refine GX.o (cl (flagP_spec (b ≠ 0)) fun _ => ?_)
   refine GX.wp_R ?_; intros
   exact rt2 () rfl
 by_cases h24 : op = 24
 ·by_cases ha : a = 0
  ·have e : bin op a b = (flg (b ≠ 0), 0) := by subst h24; simp [bin, flg, ha]
   rw [e]
   refine GX.wp_R ?_; intros
   refine GX.o (cl (flagP_spec (b ≠ 0)) fun _ => ?_)
   refine GX.wp_R ?_; intros
   exact rt2 () rfl
  ·have e : bin op a b = (1, 0) := by subst h24; simp [bin, flg, ha]
   rw [e]
   refine GX.wp_R ?_; intros
   refine GX.o (cl (flag_spec true) fun _ => ?_)
   refine GX.wp_R ?_; intros
   exact rt2 () rfl
 have e : bin op a b = (0, 0) := by unfold bin; simp [h14, h15, h16, h17, h18, h19, h20, h21, h22, h23, h24]
 rw [e]
 refine GX.wp_R ?_; intros
 exact rt2 () rfl
theorem un_spec (op a : Int) : Does Tryz.prog 104 [.int .i64 op, .int .i64 a] [] [] (fun _ : Unit => .int .i64 (unN op a)) (fun _ => []) (fun _ => []) := by
 refine enter Tryz.func104 rfl Tryz.ntmps104 rfl fun _ => ?_
 by_cases h12 : op = 12
 ·have e : unN op a = w64 (0 - a) := by subst h12; simp [unN]
  rw [e]
  refine GX.wp_R ?_; intros
  exact rt1 () rfl
 by_cases h13 : op = 13
 ·have e : unN op a = flg (a = 0) := by subst h13; rfl
  rw [e]
  refine GX.wp_R ?_; intros
  refine GX.o (cl (flagP_spec (a = 0)) fun _ => ?_)
  refine GX.wp_R ?_; intros
  exact rt1 () rfl
 have e : unN op a = 0 := by unfold unN; simp [h12, h13]
 rw [e]
 refine GX.wp_R ?_; intros
 exact rt1 () rfl
end Go.Proofs.YtomadjefdghliaaGreat
