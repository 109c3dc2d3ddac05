import Derived.Test.YtomadjefdghliaaGreatU1
import Derived.Test.YtomadjefdghliaaGreatU9
import Derived.Test.YtomadjefdghliaaGreatU11
import Derived.Test.YtomadjefdghliaaGreatU12
import Derived.Test.YtomadjefdghliaaGreatU19
import Derived.Test.YtomadjefdghliaaGreatU20
import Derived.Test.YtomadjefdghliaaGreatU23
import Derived.Test.YtomadjefdghliaaGreatU24
import Derived.Test.YtomadjefdghliaaGreatU26
import Derived.Test.YtomadjefdghliaaGreatU30
import Derived.Test.YtomadjefdghliaaGreatU32
namespace Go.Proofs.YtomadjefdghliaaGreat
open Go.Api Go.RtM
def ownsL (t : RTg) (f : Fr) : List Int := match gt t.units f.u with | some u => u.owns | none => []
structure Pq (t : RTg) (O : List Int) (r : List Fr) (B : List Bool) (m : Int → Int) : Prop where
 live : ∀ c ∈ O, m c ≠ 0 → hasB B (m c) = true
 one : ∀ c ∈ O, ∀ d ∈ O, c ≠ d → m c ≠ 0 → m c ≠ m d
 two : ∀ g ∈ r, ∀ c ∈ O, ∀ d ∈ ownsL t g, m c ≠ 0 → m c ≠ g.regs d
 rest : ∀ g ∈ r, ∀ d ∈ ownsL t g, g.regs d ≠ 0 → hasB B (g.regs d) = true
structure ROk (t : RTg) (M : Ms) : Prop where
 code : M.code = 0
 live : ∀ f ∈ M.fs, ∀ c ∈ ownsL t f, f.regs c ≠ 0 → hasB M.tb.B (f.regs c) = true
 one : ∀ f ∈ M.fs, ∀ c ∈ ownsL t f, ∀ d ∈ ownsL t f, c ≠ d → f.regs c ≠ 0 → f.regs c ≠ f.regs d
 two : M.fs.Pairwise fun f g => ∀ c ∈ ownsL t f, ∀ d ∈ ownsL t g, f.regs c ≠ 0 → f.regs c ≠ g.regs d
section
variable {t : RTg} {O : List Int} {r : List Fr} {m : Int → Int} {T : Tb} {f : Fr} {M N : Ms}
theorem hasB_le {B : List Bool} {x : Int} (h : hasB B x = true) : 1 ≤ x ∧ x ≤ (B.length : Int) := by
 obtain ⟨k, rfl, hk⟩ := hasB_k h
 have := (List.getElem?_eq_some_iff.1 hk).1
 omega
theorem hasB_ap1 {B : List Bool} {x : Int} (h : hasB B x = true) : hasB (B ++ [true]) x = true := by
 obtain ⟨k, rfl, hk⟩ := hasB_k h
 have := (List.getElem?_eq_some_iff.1 hk).1
 exact hasB_in (by rw [List.getElem?_append_left this]; exact hk)
theorem hasB_last (B : List Bool) : hasB (B ++ [true]) ((B.length : Int) + 1) = true := hasB_in (by simp)
theorem hasB_off {B : List Bool} {x y : Int} (h : hasB B x = true) (hy : hasB B y = true) (hne : x ≠ y) : hasB (B.set (y - 1).toNat false) x = true := by
 obtain ⟨k, rfl, hk⟩ := hasB_k h
 obtain ⟨j, rfl, hj⟩ := hasB_k hy
 exact hasB_in (by rw [List.getElem?_set_ne (by omega)]; exact hk)
theorem hasB_zero (B : List Bool) : hasB B 0 = false := hasB_neg (by omega)
theorem updI_at (m : Int → Int) (c x : Int) : updI m c x c = x := if_pos rfl
theorem updI_off (m : Int → Int) {c d : Int} (x : Int) (h : d ≠ c) : updI m c x d = m d := if_neg h
theorem Pq.make (h : Pq t O r T.B m) (c : Int) (hc : c ∈ O) : Pq t O r T.make.B (updI m c ((T.B.length + 1 : Nat) : Int)) := by
 have hle : ∀ d ∈ O, m d ≤ T.B.length := fun d hd => by
  by_cases h0 : m d = 0
  ·omega
  ·exact (hasB_le (h.live d hd h0)).2
 have hr : ∀ g ∈ r, ∀ d ∈ ownsL t g, g.regs d ≤ T.B.length := fun g hg d hd => by
  by_cases h0 : g.regs d = 0
  ·omega
  ·exact (hasB_le (h.rest g hg d hd h0)).2
 refine ⟨fun d hd h0 => ?_, fun d hd e he hne h0 => ?_, fun g hg d hd e he h0 => ?_, fun g hg d hd h0 => hasB_ap1 (h.rest g hg d hd h0)⟩
 ·by_cases hdc : d = c
  ·subst hdc
   rw [updI_at]
   exact hasB_last T.B
  ·rw [updI_off m _ hdc] at h0 ⊢
   exact hasB_ap1 (h.live d hd h0)
 ·have h1 := hle d hd
  have h2 := hle e he
  by_cases hdc : d = c
  ·subst hdc
   rw [updI_at, updI_off m _ (fun h => hne h.symm)]
   omega
  ·rw [updI_off m _ hdc] at h0 ⊢
   by_cases hec : e = c
   ·subst hec
    rw [updI_at]
    omega
   ·rw [updI_off m _ hec]
    exact h.one d hd e he hne h0
 ·have h2 := hr g hg e he
  by_cases hdc : d = c
  ·subst hdc
   rw [updI_at]
   omega
  ·rw [updI_off m _ hdc] at h0 ⊢
   exact h.two g hg d hd e he h0
theorem Pq.rem (h : Pq t O r T.B m) (c : Int) (hc : c ∈ O) (h0 : m c ≠ 0) : Pq t O r (T.rem (m c)).B (updI m c 0) := by
 have hl := h.live c hc h0
 have hB : (T.rem (m c)).B = T.B.set (m c - 1).toNat false := by unfold Tb.rem; rw [if_pos hl]
 rw [hB]
 refine ⟨fun d hd h1 => ?_, fun d hd e he hne h1 => ?_, fun g hg d hd e he h1 => ?_, fun g hg d hd h1 => ?_⟩
 ·by_cases hdc : d = c
  ·subst hdc
   rw [updI_at] at h1
   exact absurd rfl h1
  ·rw [updI_off m _ hdc] at h1 ⊢
   exact hasB_off (h.live d hd h1) hl (h.one d hd c hc hdc h1)
 ·by_cases hdc : d = c
  ·subst hdc
   rw [updI_at] at h1
   exact absurd rfl h1
  ·rw [updI_off m _ hdc] at h1 ⊢
   by_cases hec : e = c
   ·subst hec
    rw [updI_at]
    exact h1
   ·rw [updI_off m _ hec]
    exact h.one d hd e he hne h1
 ·by_cases hdc : d = c
  ·subst hdc
   rw [updI_at] at h1
   exact absurd rfl h1
  ·rw [updI_off m _ hdc] at h1 ⊢
   exact h.two g hg d hd e he h1
 ·exact hasB_off (h.rest g hg d hd h1) hl (fun e => h.two g hg c hc d hd h0 e.symm)
theorem Pq.crT : ∀ {l : List Int} {T : Tb} {m : Int → Int}, Pq t O r T.B m → (∀ c ∈ l, c ∈ O) → Pq t O r (crT l T m).1.B (crT l T m).2.1
 | [], _, _, h, _ => h
 | c :: l, T, m, h, hl => by
  unfold Go.Proofs.YtomadjefdghliaaGreat.crT
  split
  ·exact h
  ·exact Pq.crT (h.make c (hl c (by simp))) (fun d hd => hl d (by simp [hd]))
theorem Pq.rmT : ∀ {l : List Int} {T : Tb} {m : Int → Int}, Pq t O r T.B m → (∀ c ∈ l, c ∈ O) → Pq t O r (rmT l T m).1.B (rmT l T m).2.1
 | [], _, _, h, _ => h
 | c :: l, T, m, h, hl => by
  unfold Go.Proofs.YtomadjefdghliaaGreat.rmT
  split
  ·exact h
  ·rename_i h0
   exact Pq.rmT (h.rem c (hl c (by simp)) h0) (fun d hd => hl d (by simp [hd]))
theorem Pq.rmR : ∀ {l : List Int} {T : Tb} {m : Int → Int}, Pq t O r T.B m → (∀ c ∈ l, c ∈ O) → rmR l T m = Go.Proofs.YtomadjefdghliaaGreat.rmT l T m
 | [], _, _, _, _ => rfl
 | c :: l, T, m, h, hl => by
  unfold Go.Proofs.YtomadjefdghliaaGreat.rmR Go.Proofs.YtomadjefdghliaaGreat.rmT
  by_cases h0 : m c = 0
  ·rw [if_pos h0, if_neg (by rw [h0, hasB_zero]; exact Bool.noConfusion)]
  ·rw [if_neg h0, if_pos (h.live c (hl c (by simp)) h0)]
   exact Pq.rmR (h.rem c (hl c (by simp)) h0) (fun d hd => hl d (by simp [hd]))
theorem ROk.top (h : ROk t M) (hfs : M.fs = f :: r) : Pq t (ownsL t f) r M.tb.B f.regs := by
 have h2 := h.two
 have h3 := h.live
 have h4 := h.one
 rw [hfs] at h2 h3 h4
 obtain ⟨h5, _⟩ := List.pairwise_cons.1 h2
 exact ⟨h3 f (by simp), h4 f (by simp), fun g hg => h5 g hg, fun g hg => h3 g (by simp [hg])⟩
theorem ROk.of (h : ROk t M) (hfs : M.fs = f :: r) (f' : Fr) (hN : N.fs = f' :: r) (ho : ownsL t f' = ownsL t f) (hP : Pq t (ownsL t f) r N.tb.B f'.regs) (hc : N.code = 0) : ROk t N := by
 have h2 := h.two
 have h4 := h.one
 rw [hfs] at h2 h4
 obtain ⟨_, h6⟩ := List.pairwise_cons.1 h2
 refine ⟨hc, ?_, ?_, ?_⟩
 ·rw [hN]
  intro g hg
  rcases List.mem_cons.1 hg with rfl | hg
  ·rw [ho]; exact hP.live
  ·exact hP.rest g hg
 ·rw [hN]
  intro g hg
  rcases List.mem_cons.1 hg with rfl | hg
  ·rw [ho]; exact hP.one
  ·exact h4 g (by simp [hg])
 ·rw [hN]
  refine List.pairwise_cons.2 ⟨fun g hg => ?_, h6⟩
  rw [ho]
  exact hP.two g hg
def Still (M N : Ms) (f : Fr) (r : List Fr) : Prop := N.en ≠ 0 ∨ ∃ f', N.fs = f' :: r ∧ f'.u = f.u ∧ f'.regs = f.regs ∧ N.tb.B = M.tb.B ∧ N.code = M.code
theorem Still.trap (h : M.fs = f :: r) (c : Int) : Still M (M.trap c) f r := by
 unfold Ms.trap
 split
 ·exact .inr ⟨f, h, rfl, rfl, rfl, rfl⟩
 ·split
  ·exact .inl (by show (4 : Int) ≠ 0; omega)
  ·exact .inl (by show (2 : Int) ≠ 0; omega)
theorem Still.var (h : M.fs = f :: r) (n y : Int) : Still M (M.var f n y) f r := .inr ⟨{ f with vars := setv f.vars n y }, by show _ :: M.fs.tail = _; rw [h]; rfl, rfl, rfl, rfl, rfl⟩
theorem Still.got (h : M.fs = f :: r) (n : Int) (q : Int × Int) : Still M (M.got f n q) f r := by
 unfold Ms.got
 split
 ·exact .var h n _
 ·exact .trap h _
theorem Still.lies {G : List Int} (h : M.fs = f :: r) (a c n : Int) : Still M (M.lies G f a c n) f r := by
 unfold Ms.lies
 split
 ·rename_i hh
  refine .inr ⟨{ f with vars := setv f.vars a ((M.tb.L.length + 1 : Nat) : Int) }, by show _ :: M.fs.tail = _; rw [h]; rfl, rfl, rfl, ?_, rfl⟩
  show (M.tb.add _ _).B = _
  unfold Tb.add
  split <;> rfl
 ·exact .inl (by show (4 : Int) ≠ 0; omega)
theorem go_still {G : List Int} {i : Ins} (h : M.fs = f :: r) (h1 : 1 ≤ i.op) (h2 : i.op ≤ 22) (hc : i.op ≠ 13) (hr : i.op ≠ 18) (hm : i.op ≠ 21) (hn : i.op ≠ 22) : Still M (M.go t G f i) f r := by
 obtain h | h | h | h | h | h | h | h | h | h | h | h | h | h | h | h | h | h : i.op = 1 ∨ i.op = 2 ∨ i.op = 3 ∨ i.op = 4 ∨ i.op = 5 ∨ i.op = 6 ∨ i.op = 7 ∨ i.op = 8 ∨ i.op = 9 ∨ i.op = 10 ∨ i.op = 11 ∨ i.op = 12 ∨ i.op = 14 ∨ i.op = 15 ∨ i.op = 16 ∨ i.op = 17 ∨ i.op = 19 ∨ i.op = 20 := by omega
 ·rw [go1 h]; exact .var ‹_› _ _
 ·rw [go2 h]; exact .var ‹_› _ _
 ·rw [go3 h]; exact .var ‹_› _ _
 ·rw [go4 h]; exact .got ‹_› _ _
 ·rw [go5 h]; exact .var ‹_› _ _
 ·rw [go6 h]; exact .got ‹_› _ _
 ·rw [go7 h]; exact Still.trap (M := { M with tb := M.tb.put (lkv f.vars i.a) i.c (lkv f.vars i.b) }) ‹_› _
 ·rw [go8 h]; exact .got ‹_› _ _
 ·rw [go9 h]; exact Still.trap (M := { M with tb := M.tb.put (lkv f.vars i.a) (lkv f.vars i.b) (lkv f.vars i.c) }) ‹_› _
 ·rw [go10 h]; exact .got ‹_› _ _
 ·rw [go11 h]; exact .lies ‹_› _ _ _
 ·rw [go12 h]
  split
  ·exact .trap ‹_› _
  ·exact .lies ‹_› _ _ _
 ·rw [go14 h]
  split
  ·exact .trap ‹_› _
  ·rename_i y9 _ _
   exact .inr ⟨{ f with vars := setv f.vars i.a y9 }, by show _ :: M.fs.tail = _; rw [‹M.fs = f :: r›]; rfl, rfl, rfl, rfl, rfl⟩
 ·rw [go15 h]; exact .inr ⟨f, ‹_›, rfl, rfl, rfl, rfl⟩
 ·rw [go16 h]; exact .inr ⟨{ f with pc := i.n }, by show _ :: M.fs.tail = _; rw [‹M.fs = f :: r›]; rfl, rfl, rfl, rfl, rfl⟩
 ·rw [go17 h]; exact .inr ⟨{ f with pc := if lkv f.vars i.a ≠ 0 then i.n else i.c }, by show _ :: M.fs.tail = _; rw [‹M.fs = f :: r›]; rfl, rfl, rfl, rfl, rfl⟩
 ·rw [go19 h]; exact .var ‹_› _ _
 ·rw [go20 h]; exact .inr ⟨f, ‹_›, rfl, rfl, rfl, rfl⟩
theorem takeR_off {G : List Int} {B : List Bool} {f : Fr} : ∀ {l : List Int} {m m' : Int → Int}, takeR G B f l m = some m' → ∀ c, c ∉ l → m' c = m c
 | [], m, m', h, c, _ => by cases h; rfl
 | d :: l, m, m', h, c, hc => by
  unfold takeR at h
  split at h
  ·rw [takeR_off h c (fun q => hc (by simp [q])), updI_off m _ (fun q => hc (by simp [q]))]
  ·cases h
theorem ROk.go {G : List Int} {i : Ins} {u : Unt} (hR : RightP t) (h : ROk t M) (hfs : M.fs = f :: r) (hu : gt t.units f.u = some u) (hi : InsV t u i) (hN : (M.go t G f i).en = 0) : ROk t (M.go t G f i) := by
 have hP := h.top hfs
 have hown : ownsL t f = u.owns := by unfold ownsL; rw [hu]
 by_cases h13 : i.op = 13
 ·rw [go13 h13] at hN ⊢
  unfold Ms.call at hN ⊢
  split at hN
  ·exact absurd hN (by rw [show M.trap 6 = M.ends 2 6 from by unfold Ms.trap; rw [if_neg (by omega), if_neg (by omega)]]; show (2 : Int) ≠ 0; omega)
  ·rename_i hd
   rw [if_neg hd]
   obtain ⟨g, hg, _⟩ := call_v (hi.call h13)
   rw [hg] at hN ⊢
   dsimp only at hN ⊢
   cases hm : takeR G M.tb.B f g.takes (fun _ => 0) with
   | none => rw [hm] at hN; exact absurd hN (by show (4 : Int) ≠ 0; omega)
   | some m' =>
    dsimp only
    have hz : ∀ c ∈ g.owns, m' c = 0 := fun c hc => by
     refine takeR_off hm c fun hct => ?_
     have hq := (right_unit hR (gt_mem hg)).1
     exact (hq.2.2.2.2.2.1.2 c hc).2.1 (hq.2.2.2.2.1.2 c hct)
    have hog : ownsL t ⟨i.c, 0, argsV f i g.vars.length, i.a, m'⟩ = g.owns := by unfold ownsL; dsimp only; rw [hg]
    refine ⟨h.code, fun q hq c hc h0 => ?_, fun q hq c hc d hd hne h0 => ?_, List.pairwise_cons.2 ⟨fun q hq c hc d hd h0 => ?_, h.two⟩⟩
    ·rcases List.mem_cons.1 hq with rfl | hq
     ·rw [hog] at hc; exact absurd (hz c hc) h0
     ·exact h.live q hq c hc h0
    ·rcases List.mem_cons.1 hq with rfl | hq
     ·rw [hog] at hc; exact absurd (hz c hc) h0
     ·exact h.one q hq c hc d hd hne h0
    ·rw [hog] at hc; exact absurd (hz c hc) h0
 by_cases h18 : i.op = 18
 ·rw [go18 h18] at hN ⊢
  unfold Ms.ret at hN ⊢
  rw [hfs] at hN ⊢
  cases r with
  | nil => exact absurd hN (by show (1 : Int) ≠ 0; omega)
  | cons g r =>
   have h2 := h.two
   have h3 := h.live
   have h4 := h.one
   rw [hfs] at h2 h3 h4
   have hM : ROk t ({ M with fs := g :: r } : Ms) := ⟨h.code, fun q hq => h3 q (by simp at hq ⊢; exact .inr hq), fun q hq => h4 q (by simp at hq ⊢; exact .inr hq), (List.pairwise_cons.1 h2).2⟩
   show ROk t ({ M with fs := (if 0 ≤ f.into then ({ g with vars := setv g.vars f.into (if 0 ≤ i.a then lkv f.vars i.a else 0) } : Fr) else g) :: r } : Ms)
   split
   ·exact hM.of (f := g) (r := r) rfl _ rfl rfl (hM.top rfl) h.code
   ·exact hM
 by_cases h21 : i.op = 21
 ·rw [go21 h21] at hN ⊢
  unfold Ms.regs at hN ⊢
  split at hN
  ·rename_i hk
   rw [if_pos hk]
   refine h.of hfs { f with regs := (crT i.args M.tb f.regs).2.1 } (by show _ :: M.fs.tail = _; rw [hfs]; rfl) rfl ?_ h.code
   exact hP.crT (fun c hc => by rw [hown]; exact (hi.own (by omega)).2 c hc)
  ·exact absurd hN (by show (4 : Int) ≠ 0; omega)
 by_cases h22 : i.op = 22
 ·rw [go22 h22] at hN ⊢
  unfold Ms.regs at hN ⊢
  split at hN
  ·rename_i hk
   rw [if_pos hk]
   refine h.of hfs { f with regs := (rmT i.args M.tb f.regs).2.1 } (by show _ :: M.fs.tail = _; rw [hfs]; rfl) rfl ?_ h.code
   exact hP.rmT (fun c hc => by rw [hown]; exact (hi.own (by omega)).2 c hc)
  ·exact absurd hN (by show (4 : Int) ≠ 0; omega)
 rcases go_still (t := t) (G := G) hfs hi.op.1 hi.op.2 h13 h18 h21 h22 with h1 | ⟨f', h1, h2, h3, h4, h5⟩
 ·exact absurd hN h1
 ·exact h.of hfs f' h1 (by unfold ownsL; rw [h2]) (by rw [h3, h4]; exact hP) (h5.trans h.code)
end
end Go.Proofs.YtomadjefdghliaaGreat
namespace Go.Proofs.YtomadjefdghliaaGreat
open Go Go.RR Go.RX Go.GX Go.Api Go.RtM
attribute [local irreducible] wpList Code.wp wpPlan Exit.then Exit.inBlock bodyPost NoPanic Went GX.Post GX.Again GX.Meet GX.RowR GX.Own GX.Owns GX.Box GX.Sl GX.Pt GX.Ag GX.MapR GX.Star GX.Kept GX.Pin wpT GoK AtEnd Both
theorem rrem_spec (tm : RTg) (km : MK) (vm : MV) (p : Nat) (c : RefC) (T : Tb) (hT : RTab c T) (r : Int) : Does Tryz.prog 80 [.pointer (some ⟨p, 6, none⟩), .int .i64 r] [] [RowR p 74 [.slice km.aC tm.classes.length km.cC, .slice km.aG tm.globals.length km.cG, .slice km.aU tm.units.length km.cU, .int .i64 tm.main, .slice km.aL (glob tm).length km.cL, .slice vm.ai vm.ni vm.ci, .slice c.aR c.B.length c.cR, .slice c.aL c.L.length c.cL, .int .i64 c.peak, .int .i64 c.most, .slice (some ⟨km.gb, 0, none⟩) tm.globals.length tm.globals.length, .slice vm.af vm.nf vm.cf, .int .i64 vm.en, .int .i64 vm.code, .slice vm.ao vm.no vm.co, .int .i64 vm.steps, .int .i64 vm.slack], GX.Own 4 Ty.bool c.aR c.cR c.B, GX.Own 139 tyThing c.aL c.cL (c.L.map thg), Owns 3 Ty.int (c.L.map (fun x : Th => x.2))] (fun _ : { c1 : RefC // RTab c1 (T.rem r) } => .bool (hasB T.B r)) (fun _ => []) (fun s => [RowR p 74 [.slice km.aC tm.classes.length km.cC, .slice km.aG tm.globals.length km.cG, .slice km.aU tm.units.length km.cU, .int .i64 tm.main, .slice km.aL (glob tm).length km.cL, .slice vm.ai vm.ni vm.ci, .slice s.1.aR s.1.B.length s.1.cR, .slice s.1.aL s.1.L.length s.1.cL, .int .i64 s.1.peak, .int .i64 s.1.most, .slice (some ⟨km.gb, 0, none⟩) tm.globals.length tm.globals.length, .slice vm.af vm.nf vm.cf, .int .i64 vm.en, .int .i64 vm.code, .slice vm.ao vm.no vm.co, .int .i64 vm.steps, .int .i64 vm.slack], GX.Own 4 Ty.bool s.1.aR s.1.cR s.1.B, GX.Own 139 tyThing s.1.aL s.1.cL (s.1.L.map thg), Owns 3 Ty.int (s.1.L.map (fun x : Th => x.2))]) := by
 cases hh : hasB c.B r with
 | false =>
  have hh2 : hasB T.B r = false := by rw [← hT.B]; exact hh
  exact Does.fitT (mrem_no tm km vm p c r hh) (fun _ => ⟨c, by rw [show T.rem r = T from if_neg (by rw [hh2]; exact Bool.noConfusion)]; exact hT⟩) GX.aA GX.sA (fun _ => by rw [hh2]) (fun s => by
   show AllIn [] _
   exact GX.aA) (fun s => Turn.sel GX.sA)
 | true =>
  have hh2 : hasB T.B r = true := by rw [← hT.B]; exact hh
  obtain ⟨k, rfl, hk⟩ := hasB_k hh
  exact Does.fitT (mrem_yes tm km vm p c k hk) (fun _ => ⟨_, hT.rem k hk⟩) GX.aA GX.sA (fun _ => by rw [hh2]) (fun s => by
   show AllIn [] _
   exact GX.aA) (fun s => Turn.sel GX.sA)
theorem rlrO {P : Program} {n : Nat} {env : Env} {b : Base} {ps : List Pf} {hp : List Res} {K : Act → World → Prop} {psW : List Pf} {hpS : List Res} {wd : World} {F : Nat → Prop} {bl o sz d : Nat} {te t ty : TypeId} {pos : String} {aft : Array Edge} {gd : Option (Nat × Bool)} {x : Operand} {vs : List Value} (ws : List Value) {rest : List Res} [UAgg P t] [USize P t sz] (h : G n ((d, .agg ws.toArray) :: env) b ps hp K)
  (hx : ev env x = some (.pointer (some ⟨bl, o, none⟩)) := by exact rfl) (hf : FRow bl hpS te vs rest := by exact inferInstance) (hw : (vs.drop o).take sz = ws := by exact rfl) (hsz : ws.length = sz := by exact rfl) (hd : Nat.blt d n = true := by exact rfl) : GTR P n env psW hpS wd F b ps hp K ⟨some d, .load t x, ty, pos, aft, gd⟩ := .v (ld_rowO hx hw hsz) hd h
structure RanS where
 i : Nat
 c : RefC
theorem rran_spec (tm : RTg) (km : MK) (vm : MV) (p : Nat) (c : RefC) (T : Tb) (hT : RTab c T) (hB : T.B.length ≤ 1000000000) (O : List Int) (hno : vm.no = O.length) :
  Does Tryz.prog 34 [.pointer (some ⟨p, 0, none⟩)] [] [RowR p 74 [.slice km.aC tm.classes.length km.cC, .slice km.aG tm.globals.length km.cG, .slice km.aU tm.units.length km.cU, .int .i64 tm.main, .slice km.aL (glob tm).length km.cL, .slice vm.ai vm.ni vm.ci, .slice c.aR c.B.length c.cR, .slice c.aL c.L.length c.cL, .int .i64 c.peak, .int .i64 c.most, .slice (some ⟨km.gb, 0, none⟩) tm.globals.length tm.globals.length, .slice vm.af vm.nf vm.cf, .int .i64 vm.en, .int .i64 vm.code, .slice vm.ao vm.no vm.co, .int .i64 vm.steps, .int .i64 vm.slack], GX.Own 4 Ty.bool c.aR c.cR c.B, GX.Own 139 tyThing c.aL c.cL (c.L.map thg), Owns 3 Ty.int (c.L.map (fun x : Th => x.2)), GX.Own 3 Ty.int vm.ao vm.co O] (fun s : List Value => .agg s.toArray)
   (fun s => [Ag tyRan s (⟨⟨vm.en, vm.code, O, vm.steps⟩, (clearT T vm.en).B.length, ((clearT T vm.en).B.length : Int) - (liveN (clearT T vm.en).B : Int), ((clearT T vm.en).B.length : Int) - (((clearT T vm.en).B.length : Int) - (liveN (clearT T vm.en).B : Int)), (clearT T vm.en).peak, vm.slack, (clearT T vm.en).most⟩ : Api.Ran)]) (fun _ => []) := by
 refine enter Tryz.func34 rfl Tryz.ntmps34 rfl fun _ => ?_
 have hcl : (clearT T vm.en).B.length = T.B.length := by
  unfold clearT
  split
  ·exact (rem_len _ _).1
  ·split
   ·exact (remAll_len _ _).1
   ·rfl
 refine GX.wp_RB ?_; intros
 refine GX.nmP 2 ?_; rintro b2 rfl
 refine GX.cut (σ := { c1 : RefC // RTab c1 (clearT T vm.en) }) (fun _ => [(0, .pointer (some ⟨p, 0, none⟩)), (2, .pointer (some ⟨b2, 0, none⟩))]) (fun _ => []) (fun s => [RowR p 74 [.slice km.aC tm.classes.length km.cC, .slice km.aG tm.globals.length km.cG, .slice km.aU tm.units.length km.cU, .int .i64 tm.main, .slice km.aL (glob tm).length km.cL, .slice vm.ai vm.ni vm.ci, .slice s.1.aR s.1.B.length s.1.cR, .slice s.1.aL s.1.L.length s.1.cL, .int .i64 s.1.peak, .int .i64 s.1.most, .slice (some ⟨km.gb, 0, none⟩) tm.globals.length tm.globals.length, .slice vm.af vm.nf vm.cf, .int .i64 vm.en, .int .i64 vm.code, .slice vm.ao vm.no vm.co, .int .i64 vm.steps, .int .i64 vm.slack], GX.Own 4 Ty.bool s.1.aR s.1.cR s.1.B, GX.Own 139 tyThing s.1.aL s.1.cL (s.1.L.map thg), Owns 3 Ty.int (s.1.L.map (fun x : Th => x.2)), GX.Own 3 Ty.int vm.ao vm.co O, Box 32 tyRan b2 ⟨⟨0, 0, [], 0⟩, 0, 0, 0, 0, 0, 0⟩]) (fun _ => True) ?_ (fun s _ => ?_)
 ·by_cases h1 : vm.en = 1
  ·rw [show clearT T vm.en = T.rem 1 from if_pos h1]
   refine GX.wp_R ?_; intros
   refine GX.o (cl (rrem_spec tm km vm p c T hT 1) fun s => ?_)
   refine GX.wp_R ?_; intros
   exact GX.meet s ⟨rfl, rfl, trivial⟩ trivial
  by_cases h2 : vm.en = 2
  ·rw [show clearT T vm.en = remAll T T.B.length by unfold clearT; rw [if_neg h1, if_pos h2]]
   refine GX.wp_R ?_; intros
   refine GX.loop (σ := RanS) (fun s => [(0, .pointer (some ⟨p, 0, none⟩)), (2, .pointer (some ⟨b2, 0, none⟩)), (3, .int .i64 ((s.i : Int) + 1))]) (fun _ => []) (fun s => [RowR p 74 [.slice km.aC tm.classes.length km.cC, .slice km.aG tm.globals.length km.cG, .slice km.aU tm.units.length km.cU, .int .i64 tm.main, .slice km.aL (glob tm).length km.cL, .slice vm.ai vm.ni vm.ci, .slice s.c.aR s.c.B.length s.c.cR, .slice s.c.aL s.c.L.length s.c.cL, .int .i64 s.c.peak, .int .i64 s.c.most, .slice (some ⟨km.gb, 0, none⟩) tm.globals.length tm.globals.length, .slice vm.af vm.nf vm.cf, .int .i64 vm.en, .int .i64 vm.code, .slice vm.ao vm.no vm.co, .int .i64 vm.steps, .int .i64 vm.slack], GX.Own 4 Ty.bool s.c.aR s.c.cR s.c.B, GX.Own 139 tyThing s.c.aL s.c.cL (s.c.L.map thg), Owns 3 Ty.int (s.c.L.map (fun x : Th => x.2)), GX.Own 3 Ty.int vm.ao vm.co O, Box 32 tyRan b2 ⟨⟨0, 0, [], 0⟩, 0, 0, 0, 0, 0, 0⟩])
    (fun s => s.i ≤ T.B.length ∧ RTab s.c (remAll T s.i)) (fun s => T.B.length - s.i) ⟨0, c⟩ ⟨rfl, rfl, rfl, trivial⟩ ⟨Nat.zero_le _, hT⟩ (fun s hs => ?_)
   obtain ⟨hi, hTi⟩ := hs
   have hl := (remAll_len T s.i).1
   have hl2 : s.c.B.length = T.B.length := by rw [hTi.B, hl]
   by_cases hlt : s.i < T.B.length
   ·refine GX.wp_R ?_; intros
    refine GX.o (cl (rrem_spec tm km vm p s.c _ hTi ((s.i : Int) + 1)) fun s2 => ?_)
    refine GX.wp_R ?_; intros
    exact again ⟨s.i + 1, s2.1⟩ ⟨rfl, rfl, rfl, trivial⟩ ⟨by show s.i + 1 ≤ _; omega, s2.2⟩ (by show T.B.length - (s.i + 1) < _; omega)
   ·have hie : s.i = T.B.length := by omega
    refine GX.wp_R ?_; intros
    exact GX.meet ⟨s.c, by rw [← hie]; exact hTi⟩ ⟨rfl, rfl, trivial⟩ trivial
  ·rw [show clearT T vm.en = T by unfold clearT; rw [if_neg h1, if_neg h2]]
   refine GX.wp_R ?_; intros
   exact GX.meet ⟨c, hT⟩ ⟨rfl, rfl, trivial⟩ trivial
 obtain ⟨c2, hT2⟩ := s
 dsimp only
 generalize clearT T vm.en = Tf at hT2 hcl ⊢
 have hlv : liveN Tf.B ≤ Tf.B.length := List.countP_le_length
 refine GX.wp_R ?_; intros
 refine GX.o (cl (mcount_spec tm km vm p c2 (by rw [hT2.B]; omega)) fun _ => ?_)
 rw [hT2.B, hT2.peak, hno]
 refine frz vm.ao ?_
 refine GX.wp_R ?_; intros
 refine GX.drawn1 (RowR p 74 _) (fun j => !(List.contains [20] j)) [(0, true), (1, true), (2, true), (3, true), (4, true), (5, true), (6, true), (7, true), (8, true), (9, true), (10, true), (11, true), (12, true), (13, true), (14, true), (15, true), (16, true), (17, true), (18, true), (19, true), (20, false)] rfl (by kernel_rfl) (by kernel_rfl) GX.sA ?_; intro wd F hW hR
 refine GX.wp_T ?_; intros
 refine GX.tkr ?_
 refine rlrO [.int .i64 vm.en, .int .i64 vm.code, .slice vm.ao O.length vm.co, .int .i64 vm.steps] ?_
 refine GX.wp_T ?_; intros
 rw [hT2.most]
 refine GX.unpin (RowR p 74 _) ?_
 refine GX.wp_T ?_; intros
 refine GX.wp_R ?_; intros
 exact rt1B (fun cs => cs) (fun _ => rfl)
end Go.Proofs.YtomadjefdghliaaGreat
namespace Go.RtM
open Go.RiseM Go.ReachM Go.Api
abbrev REntry (t : RTg) (e : Int) : Prop := -2 ≤ e ∧ e < (t.classes.length : Int)
theorem rentry_iff (t : RTg) (e : Int) : REntry t e ↔ IsEntry t e := by unfold REntry IsEntry IsClass; omega
def RInto (a b : Int) : Prop := if a = -2 ∨ b = -2 then a = b else b = a ∨ b = -1
instance (a b : Int) : Decidable (RInto a b) := by unfold RInto; infer_instance
def rof (u : Unt) (n : Int) : Int := (gt u.vars n).getD (-4)
def rnames (op : Int) : Bool × Bool × Bool × Bool × Bool :=
 if op = 1 ∨ op = 11 ∨ op = 19 ∨ op = 20 then (true, false, false, true, false)
 else if op = 3 ∨ op = 10 then (true, true, false, false, false)
 else if op = 4 then (true, true, true, true, false)
 else if op = 5 ∨ op = 12 then (true, true, false, true, false)
 else if op = 6 ∨ op = 7 ∨ op = 8 ∨ op = 9 then (true, true, true, false, false)
 else if op = 13 then (true, false, true, false, true)
 else if op = 17 then (true, false, true, true, false)
 else if op = 16 then (false, false, false, true, false)
 else if op = 21 ∨ op = 22 then (false, false, false, false, true)
 else (true, false, false, false, false)
def Named (i : Ins) : Prop := Only i (rnames i.op).1 (rnames i.op).2.1 (rnames i.op).2.2.1 (rnames i.op).2.2.2.1 (rnames i.op).2.2.2.2
instance (i : Ins) : Decidable (Named i) := by unfold Named; infer_instance
def record (t : RTg) (e k : Int) : Int × Bool :=
 if e = -1 ∧ 0 ≤ k ∧ k < 8 then (-4, true)
 else match gt t.classes e with
  | some L => if L.arr = true then (-4, false) else (match gt L.refs k with | some x => (x, false) | none => (-4, false))
  | none => (-4, false)
def array (t : RTg) (e : Int) : Int × Bool :=
 if e = -1 then (-4, true)
 else match gt t.classes e with
  | some L => if L.arr = true then (match gt L.refs 0 with | some x => (x, false) | none => (-4, false)) else (-4, false)
  | none => (-4, false)
theorem record_arr {t : RTg} {e k : Int} {L : Layout} (hn : ¬ (e = -1 ∧ 0 ≤ k ∧ k < 8)) (hL : gt t.classes e = some L) (h3 : L.arr = true) : record t e k = (-4, false) := by unfold record; rw [if_neg hn, hL]; simp only [if_pos h3]
theorem record_out {t : RTg} {e k : Int} {L : Layout} (hn : ¬ (e = -1 ∧ 0 ≤ k ∧ k < 8)) (hL : gt t.classes e = some L) (h3 : ¬ L.arr = true) (h4 : gt L.refs k = none) : record t e k = (-4, false) := by unfold record; rw [if_neg hn, hL]; simp only [if_neg h3, h4]
theorem record_some {t : RTg} {e k x : Int} {L : Layout} (hn : ¬ (e = -1 ∧ 0 ≤ k ∧ k < 8)) (hL : gt t.classes e = some L) (h3 : ¬ L.arr = true) (h4 : gt L.refs k = some x) : record t e k = (x, false) := by unfold record; rw [if_neg hn, hL]; simp only [if_neg h3, h4]
theorem array_some {t : RTg} {e x : Int} {L : Layout} (hn : e ≠ -1) (hL : gt t.classes e = some L) (h3 : L.arr = true) (h4 : gt L.refs 0 = some x) : array t e = (x, false) := by unfold array; rw [if_neg hn, hL]; simp only [if_pos h3, h4]
theorem array_rec {t : RTg} {e : Int} {L : Layout} (hn : e ≠ -1) (hL : gt t.classes e = some L) (h3 : ¬ L.arr = true) : array t e = (-4, false) := by unfold array; rw [if_neg hn, hL]; simp only [if_neg h3]
def RClass (t : RTg) (c : Int) (arr : Bool) : Prop := match gt t.classes c with | some L => L.arr = arr | none => False
instance (t : RTg) (c : Int) (arr : Bool) : Decidable (RClass t c arr) := by unfold RClass; split <;> infer_instance
def RCall (t : RTg) (u : Unt) (i : Ins) : Prop := match gt t.units i.c with
 | some g => (0 ≤ g.params ∧ g.params ≤ (g.vars.length : Int) ∧ (i.args.length : Int) = g.params ∧ (∀ p ∈ i.args.zip g.vars, rof u p.1 ≠ -4 ∧ RInto p.2 (rof u p.1))) ∧ (i.a = -1 ∨ rof u i.a ≠ -4 ∧ g.result ≠ -3 ∧ RInto (rof u i.a) g.result)
 | none => False
instance (t : RTg) (u : Unt) (i : Ins) : Decidable (RCall t u i) := by unfold RCall; split <;> infer_instance
def Has (x : Int × Bool) (P : Int → Prop) : Prop := x.2 = true ∨ x.1 ≠ -4 ∧ P x.1
def Step (t : RTg) (u : Unt) (i : Ins) : Prop :=
 Named i ∧
 if i.op = 1 ∨ i.op = 14 ∨ i.op = 15 then rof u i.a = -2
 else if i.op = 2 then -1 ≤ rof u i.a
 else if i.op = 3 then rof u i.a ≠ -4 ∧ rof u i.b ≠ -4 ∧ RInto (rof u i.a) (rof u i.b)
 else if i.op = 4 then (rof u i.a = -2 ∧ 14 ≤ i.n ∧ i.n ≤ 24) ∧ (if i.n = 21 ∨ i.n = 22 then rof u i.b ≠ -4 ∧ rof u i.c ≠ -4 ∧ (rof u i.b = -2 ↔ rof u i.c = -2) else rof u i.b = -2 ∧ rof u i.c = -2)
 else if i.op = 5 then rof u i.a = -2 ∧ rof u i.b = -2 ∧ (i.n = 12 ∨ i.n = 13)
 else if i.op = 6 then rof u i.a ≠ -4 ∧ Has (record t (rof u i.b) i.c) (RInto (rof u i.a))
 else if i.op = 7 then rof u i.b ≠ -4 ∧ Has (record t (rof u i.a) i.c) (fun e => RInto e (rof u i.b))
 else if i.op = 8 then rof u i.a ≠ -4 ∧ rof u i.c = -2 ∧ Has (array t (rof u i.b)) (RInto (rof u i.a))
 else if i.op = 9 then rof u i.c ≠ -4 ∧ rof u i.b = -2 ∧ Has (array t (rof u i.a)) (fun e => RInto e (rof u i.c))
 else if i.op = 10 then rof u i.a = -2 ∧ Has (array t (rof u i.b)) (fun _ => True)
 else if i.op = 11 then RClass t i.n false ∧ rof u i.a = i.n
 else if i.op = 12 then RClass t i.n true ∧ rof u i.a = i.n ∧ rof u i.b = -2
 else if i.op = 13 then RCall t u i
 else if i.op = 16 then Place u i.n
 else if i.op = 17 then rof u i.a = -2 ∧ Place u i.n ∧ Place u i.c
 else if i.op = 18 then (if u.result = -3 then i.a = -1 else rof u i.a ≠ -4 ∧ RInto u.result (rof u i.a))
 else if i.op = 19 then rof u i.a ≠ -4 ∧ InG t i.n (fun g => RInto (rof u i.a) g)
 else if i.op = 20 then rof u i.a ≠ -4 ∧ InG t i.n (fun g => RInto g (rof u i.a))
 else if i.op = 21 ∨ i.op = 22 then i.args ≠ [] ∧ Rise i.args ∧ ∀ n ∈ i.args, n ∈ u.owns
 else False
section
variable {t : RTg} {u : Unt}
abbrev Ent (e : Int) : Prop := -2 ≤ e
theorem into_iff {a b : Int} (ha : Ent a) (hb : Ent b) : Into a b ↔ RInto a b := by
 unfold Into RInto Ent at *
 split <;> split <;> omega
theorem into_none {a : Int} : ¬ Into a (-3) := by unfold Into; split <;> omega
theorem none_into {b : Int} : ¬ Into (-3) b := by unfold Into; split <;> omega
theorem named_iff {i : Ins} (h : i.op ∈ ([1, 2, 3, 4, 5, 6, 7, 8, 9, 10, 11, 12, 13, 14, 15, 16, 17, 18, 19, 20, 21, 22] : List Int)) : Bare i ↔ Named i := by
 obtain ⟨op, a, b, c, n, args⟩ := i
 dsimp only at h
 simp only [List.mem_cons, List.not_mem_nil, or_false] at h
 rcases h with rfl | rfl | rfl | rfl | rfl | rfl | rfl | rfl | rfl | rfl | rfl | rfl | rfl | rfl | rfl | rfl | rfl | rfl | rfl | rfl | rfl | rfl <;> exact Iff.rfl
theorem bare_op {i : Ins} (h : Bare i) : i.op ∈ ([1, 2, 3, 4, 5, 6, 7, 8, 9, 10, 11, 12, 13, 14, 15, 16, 17, 18, 19, 20, 21, 22] : List Int) := by
 unfold Bare at h
 split at h
 ·rename_i a b c n g hn
  unfold names at hn
  simp only [List.mem_cons, List.not_mem_nil, or_false]
  repeat' split at hn
  all_goals first | omega | simp at hn
 ·exact h.elim
theorem step_op {i : Ins} (h : Step t u i) : i.op ∈ ([1, 2, 3, 4, 5, 6, 7, 8, 9, 10, 11, 12, 13, 14, 15, 16, 17, 18, 19, 20, 21, 22] : List Int) := by
 obtain ⟨_, h⟩ := h
 simp only [List.mem_cons, List.not_mem_nil, or_false]
 by_cases h1 : i.op = 1 ∨ i.op = 2 ∨ i.op = 3 ∨ i.op = 4 ∨ i.op = 5 ∨ i.op = 6 ∨ i.op = 7 ∨ i.op = 8 ∨ i.op = 9 ∨ i.op = 10 ∨ i.op = 11 ∨ i.op = 12 ∨ i.op = 13 ∨ i.op = 14 ∨ i.op = 15 ∨ i.op = 16 ∨ i.op = 17 ∨ i.op = 18 ∨ i.op = 19 ∨ i.op = 20 ∨ i.op = 21 ∨ i.op = 22
 ·exact h1
 ·simp only [not_or] at h1
  obtain ⟨g1, g2, g3, g4, g5, g6, g7, g8, g9, g10, g11, g12, g13, g14, g15, g16, g17, g18, g19, g20, g21, g22⟩ := h1
  simp only [g1, g2, g3, g4, g5, g6, g7, g8, g9, g10, g11, g12, g13, g14, g15, g16, g17, g18, g19, g20, g21, g22, or_false, if_false] at h
end
end Go.RtM
namespace Go.Proofs.YtomadjefdghliaaGreat
open Go Go.RR Go.RX Go.GX Go.Api Go.RiseM Go.ReachM Go.RtM
attribute [local irreducible] wpList Code.wp wpPlan Exit.then Exit.inBlock bodyPost NoPanic Went GX.Post GX.Again GX.Meet GX.RowR GX.Own GX.Owns GX.Box GX.Sl GX.Pt GX.Ag GX.MapR GX.Kept GX.Pin wpT GoK AtEnd Both
theorem entry_spec (cs : List Value) (t : RTg) (n : Int) : Does Tryz.prog 82 [.agg cs.toArray, .int .i64 n] [Ag tyRTg cs t] [] (fun _ : Unit => .bool (decide (IsEntry t n))) (fun _ => []) (fun _ => []) := by
 refine enter Tryz.func82 rfl Tryz.ntmps82 rfl fun b => ?_
 have e := rentry_iff t n
 by_cases h : -2 ≤ n
 ·refine GX.wR ?_; intros
  exact rt1 () (vI (e.symm.trans ⟨fun h => h.2, fun h2 => ⟨h, h2⟩⟩))
 ·refine GX.wR ?_; intros
  exact rt1 () (vN fun h2 => h (e.2 h2).1)
theorem rentries_spec (cs : List Value) (t : RTg) (ao : Option Addr) (cap : Nat) (l : List Int) : Does Tryz.prog 35 [.agg cs.toArray, .slice ao l.length cap] [Sl Ty.int ao cap l, Ag tyRTg cs t] [] (fun _ : Unit => .bool (decide (Entries t l))) (fun _ => []) (fun _ => []) := by
 refine enter Tryz.func35 rfl Tryz.ntmps35 rfl fun b => ?_
 refine sln ao fun hl1 hl2 _ => ?_
 refine GX.wR ?_; intros
 refine GX.nmP 2 ?_; rintro b2 rfl
 refine GX.loop (σ := Nat) (fun i => [(1, .slice ao l.length cap), (2, .pointer (some ⟨b2, 0, none⟩)), (5, .int .i64 (i : Int))]) (fun _ => []) (fun _ => [])
  (fun i => i ≤ l.length ∧ ∀ x ∈ l.take i, IsEntry t x) (fun i => l.length - i) 0 ⟨rfl, rfl, rfl, trivial⟩ ⟨by omega, by simp⟩ (fun i hi => ?_)
 obtain ⟨hi, hA⟩ := hi
 by_cases hlt : i < l.length
 ·obtain ⟨x, hx⟩ := get_lt hlt
  refine GX.wR ?_; intros
  refine GX.drawn0  (fun j => !(List.contains [5] j)) [(0, true), (1, true), (2, true), (3, true), (4, true), (5, false), (6, true)] rfl (by kernel_rfl) (by kernel_rfl) GX.sA ?_; intro wd F hW hR
  refine GX.wT ?_; intros
  refine GX.gow ?_
  refine (cl (entry_spec _ t x) fun _ => ?_)
  refine GX.wT ?_; intros
  by_cases h : IsEntry t x
  ·have h' := Classical.not_not.2 h
   refine GX.wR ?_; intros
   refine again (i + 1) ⟨rfl, rfl, rfl, trivial⟩ ⟨by omega, fun y hy => ?_⟩ (by omega)
   rw [List.take_add_one, hx, List.mem_append] at hy
   rcases hy with hy | hy
   ·exact hA y hy
   ·simp at hy; subst hy; exact h
  ·refine GX.wR ?_; intros
   exact rt1 () (vN fun h2 => h (h2 x (List.mem_of_getElem? hx)))
 ·rw [List.take_of_length_le (by omega)] at hA
  refine GX.wR ?_; intros
  exact rt1 () (vY hA)
theorem rinto_spec (a c : Int) : Does Tryz.prog 89 [.int .i64 a, .int .i64 c] [] [] (fun _ : Unit => .bool (decide (RInto a c))) (fun _ => []) (fun _ => []) := by
 refine enter Tryz.func89 rfl Tryz.ntmps89 rfl fun b => ?_
 have e : RInto a c ↔ if a = -2 ∨ c = -2 then a = c else c = a ∨ c = -1 := Iff.rfl
 by_cases h1 : a = -2
 ·rw [if_pos (.inl h1)] at e
  refine GX.wR ?_; intros
  exact rt1 () (vI e)
 ·by_cases h2 : c = -2
  ·rw [if_pos (.inr h2)] at e
   refine GX.wR ?_; intros
   exact rt1 () (vI e)
  ·rw [if_neg (by omega)] at e
   by_cases h3 : c = a
   ·refine GX.wR ?_; intros
    exact rt1 () (vY (e.2 (.inl h3)))
   ·refine GX.wR ?_; intros
    exact rt1 () (vI (e.trans ⟨fun h => h.elim (fun h => absurd h h3) id, .inr⟩))
theorem rof_spec (cs : List Value) (u : Unt) (n : Int) : Does Tryz.prog 88 [.agg cs.toArray, .int .i64 n] [Ag tyUnt cs u] [] (fun _ : Unit => .int .i64 (rof u n)) (fun _ => []) (fun _ => []) := by
 refine enter Tryz.func88 rfl Tryz.ntmps88 rfl fun b => ?_
 by_cases h : n < 0
 ·have e : rof u n = -4 := by unfold rof; rw [gt_out (.inl h)]; rfl
  rw [e]
  refine GX.wR ?_; intros
  exact rt1 () rfl
 ·by_cases h2 : (u.vars.length : Int) ≤ n
  ·have e : rof u n = -4 := by unfold rof; rw [gt_out (.inr h2)]; rfl
   rw [e]
   refine GX.wR ?_; intros
   exact rt1 () rfl
  ·obtain ⟨x, hx, k, rfl, hk, hx2⟩ := gt_in (l := u.vars) (n := n) ⟨by omega, by omega⟩
   have e : rof u k = x := by unfold rof; rw [hx]; rfl
   rw [e]
   refine GX.wR ?_; intros
   exact rt1 () rfl
theorem rclass_spec (cs : List Value) (t : RTg) (c : Int) (arr : Bool) : Does Tryz.prog 92 [.agg cs.toArray, .int .i64 c, .bool arr] [Ag tyRTg cs t] [] (fun _ : Unit => .bool (decide (RClass t c arr))) (fun _ => []) (fun _ => []) := by
 refine enter Tryz.func92 rfl Tryz.ntmps92 rfl fun b => ?_
 by_cases h : c < 0
 ·have e : ¬ RClass t c arr := by unfold RClass; rw [gt_out (.inl h)]; exact id
  refine GX.wR ?_; intros
  exact rt1 () (vN e)
 ·by_cases h2 : (t.classes.length : Int) ≤ c
  ·have e : ¬ RClass t c arr := by unfold RClass; rw [gt_out (.inr h2)]; exact id
   refine GX.wR ?_; intros
   exact rt1 () (vN e)
  ·obtain ⟨L, hL, k, rfl, hk, hx2⟩ := gt_in (l := t.classes) (n := c) ⟨by omega, by omega⟩
   have e : RClass t k arr ↔ L.arr = arr := by unfold RClass; rw [hL]
   have e2 : decide (RClass t k arr) = (L.arr == arr) := by
    rw [Bool.eq_iff_iff, decide_eq_true_eq, beq_iff_eq]; exact e
   rw [e2]
   refine GX.wR ?_; intros
   exact rt1 () rfl
theorem record_spec (cs : List Value) (t : RTg) (e k : Int) (he : e < (t.classes.length : Int)) : Does Tryz.prog 90 [.agg cs.toArray, .int .i64 e, .int .i64 k] [Ag tyRTg cs t] []
  (fun _ : Unit => .tuple #[.int .i64 (record t e k).1, .bool (record t e k).2]) (fun _ => []) (fun _ => []) := by
 refine enter Tryz.func90 rfl Tryz.ntmps90 rfl fun b => ?_
 have none : ∀ {x}, (¬ (e = -1 ∧ 0 ≤ k ∧ k < 8)) → gt t.classes e = none → x = record t e k → x = (-4, false) := fun h1 h2 h3 => by rw [h3]; unfold record; rw [if_neg h1, h2]
 by_cases h1 : e = -1
 ·have hg : gt t.classes e = Option.none := gt_out (.inl (by omega))
  by_cases h2 : 0 ≤ k
  ·by_cases h3 : k < 8
   ·have e1 : record t e k = (-4, true) := by unfold record; rw [if_pos ⟨h1, h2, h3⟩]
    rw [e1]
    refine GX.wR ?_; intros
    exact rt2 () rfl
   ·rw [none (fun h => h3 h.2.2) hg rfl]
    refine GX.wR ?_; intros
    exact rt2 () rfl
  ·rw [none (fun h => h2 h.2.1) hg rfl]
   refine GX.wR ?_; intros
   exact rt2 () rfl
 ·have hn : ¬ (e = -1 ∧ 0 ≤ k ∧ k < 8) := fun h => h1 h.1
  by_cases h2 : e < 0
  ·rw [none hn (gt_out (.inl h2)) rfl]
   refine GX.wR ?_; intros
   exact rt2 () rfl
  ·obtain ⟨L, hL, j, rfl, hj, hx2⟩ := gt_in (l := t.classes) (n := e) ⟨by omega, he⟩
   by_cases h3 : L.arr = true
   ·rw [record_arr hn hL h3]
    refine GX.wR ?_; intros
    exact rt2 () rfl
   ·have h3' : L.arr = false := by simpa using h3
    by_cases h4 : k < 0
    ·rw [record_out hn hL h3 (gt_out (.inl h4))]
     refine GX.wR ?_; intros
     exact rt2 () rfl
    ·by_cases h5 : (L.refs.length : Int) ≤ k
     ·rw [record_out hn hL h3 (gt_out (.inr h5))]
      refine GX.wR ?_; intros
      exact rt2 () rfl
     ·obtain ⟨x, hx, m, rfl, hm, hx3⟩ := gt_in (l := L.refs) (n := k) ⟨by omega, by omega⟩
      rw [record_some hn hL h3 hx]
      refine GX.wR ?_; intros
      exact rt2 () rfl
theorem array_spec (cs : List Value) (t : RTg) (e : Int) (he : e < (t.classes.length : Int)) (hl : ∀ L ∈ t.classes, L.arr = true → L.refs.length = 1) : Does Tryz.prog 91 [.agg cs.toArray, .int .i64 e] [Ag tyRTg cs t] []
  (fun _ : Unit => .tuple #[.int .i64 (array t e).1, .bool (array t e).2]) (fun _ => []) (fun _ => []) := by
 refine enter Tryz.func91 rfl Tryz.ntmps91 rfl fun b => ?_
 by_cases h1 : e = -1
 ·have e1 : array t e = (-4, true) := by unfold array; rw [if_pos h1]
  rw [e1]
  refine GX.wR ?_; intros
  exact rt2 () rfl
 ·by_cases h2 : e < 0
  ·have e1 : array t e = (-4, false) := by unfold array; rw [if_neg h1, gt_out (.inl h2)]
   rw [e1]
   refine GX.wR ?_; intros
   exact rt2 () rfl
  ·obtain ⟨L, hL, j, rfl, hj, hx2⟩ := gt_in (l := t.classes) (n := e) ⟨by omega, he⟩
   by_cases h3 : L.arr = true
   ·have h4 := hl L (List.mem_of_getElem? hx2) h3
    have hb : (!L.arr) = false := by rw [h3]; rfl
    obtain ⟨x, hx⟩ := get_lt (show 0 < L.refs.length by omega)
    rw [array_some h1 hL h3 (show gt L.refs 0 = some x from hx)]
    refine GX.wR ?_; intros
    exact rt2 () rfl
   ·have hb : (!L.arr) = true := by simpa using h3
    rw [array_rec h1 hL h3]
    refine GX.wR ?_; intros
    exact rt2 () rfl
end Go.Proofs.YtomadjefdghliaaGreat
namespace Go.Proofs.YtomadjefdghliaaGreat
open Go Go.RR Go.RX Go.GX Go.RiseM Go.ReachM
attribute [local irreducible] wpList Code.wp wpPlan Exit.then Exit.inBlock bodyPost NoPanic Went GX.Post GX.Again GX.Meet GX.RowR GX.Own GX.Owns GX.Box GX.Sl GX.Pt GX.Ag GX.MapR GX.Kept GX.Pin wpT GoK AtEnd Both
theorem below_spec (v n : Int) : Does Tryz.prog 113 [.int .i64 v, .int .i64 n] [] []
  (fun _ : Unit => .bool (decide (0 ≤ v ∧ v < n))) (fun _ => []) (fun _ => []) := by
 refine enter Tryz.func113 rfl Tryz.ntmps113 rfl fun b => ?_
 by_cases h1 : 0 ≤ v
 ·have e : decide (0 ≤ v ∧ v < n) = decide (v < n) := decide_eq_decide.2 ⟨fun h => h.2, fun h => ⟨h1, h⟩⟩
  rw [e]
  refine GX.wR ?_; intros
  exact rt1 () rfl
 ·have e : decide (0 ≤ v ∧ v < n) = false := decide_eq_false fun h => h1 h.1
  rw [e]
  refine GX.wR ?_; intros
  exact rt1 () rfl
theorem list_spec (ao : Option Addr) (cap : Nat) (m : List Bool) (hm : m.length ≤ 1073741824) : Does Tryz.prog 114 [.slice ao m.length cap] [Sl Ty.bool ao cap m] []
  (fun s : Option Addr × Nat => .slice s.1 (marked m m.length).length s.2) (fun _ => []) (fun s => [GX.Own 3 Ty.int s.1 s.2 (marked m m.length)]) := by
 refine enter Tryz.func114 rfl Tryz.ntmps114 rfl fun b => ?_
 refine GX.wR ?_; intros
 refine ownNil 3 Ty.int ?_
 refine GX.loop (σ := LiS) (fun s => [(0, .slice ao m.length cap), (3, .slice s.ao (marked m s.i).length s.cap), (4, .int .i64 (s.i : Int))]) (fun _ => [])
  (fun s => [GX.Own 3 Ty.int s.ao s.cap (marked m s.i)]) (fun s => s.i ≤ m.length) (fun s => m.length - s.i) ⟨0, none, 0⟩ ⟨rfl, rfl, rfl, trivial⟩ (by simp) (fun s hs => ?_)
 obtain ⟨i, al, cl'⟩ := s
 dsimp only at *
 have hml := marked_len m i
 have hms := marked_succ m i
 by_cases hlt : i < m.length
 ·obtain ⟨v, hv⟩ := get_lt hlt
  cases v with
  | true =>
   rw [if_pos hv] at hms
   refine GX.wR ?_; intros
   rw [← hms]
   refine GX.nmS 3 ?_; rintro a8 c8 rfl rfl
   refine GX.wR ?_; intros
   exact again ⟨i + 1, a8, c8⟩ ⟨rfl, rfl, rfl, trivial⟩ (by dsimp only; omega) (by dsimp only; omega)
  | false =>
   rw [if_neg (by rw [hv]; simp), List.append_nil] at hms
   refine GX.wR ?_; intros
   exact again ⟨i + 1, al, cl'⟩ ⟨rfl, by dsimp only; rw [hms]; rfl, rfl, trivial⟩ (by dsimp only; omega) (by dsimp only; omega) (h2 := by dsimp only; rw [hms]; exact GX.sA)
 ·have hil : i = m.length := by omega
  subst hil
  refine GX.wR ?_; intros
  exact rt1 (al, cl') rfl
structure RfS where
 more : Bool
 m : List Bool
 i : Nat
 j : Nat
structure Rt0 (f : List (List Int)) (r : List Int) (m : List Bool) (i : Nat) : Prop where
 len : m.length = f.length
 sound : ∀ c : Nat, m[c]? = some true → RC f r c
 roots : ∀ c : Nat, (c : Int) ∈ r.take i → c < f.length → m[c]? = some true
set_option maxHeartbeats 1000000 in
theorem rfrom_spec (ao ar : Option Addr) (cap car : Nat) (f : List (List Int)) (r : List Int) (hf : f.length ≤ 1073741824) : Does Tryz.prog 68 [.slice ao f.length cap, .slice ar r.length car] [Sl (Ty.slice Ty.int) ao cap f, Sl Ty.int ar car r] []
  (fun s : Option Addr × Nat => .slice s.1 (fromL f r).length s.2) (fun _ => []) (fun s => [GX.Own 3 Ty.int s.1 s.2 (fromL f r)]) := by
 refine enter Tryz.func68 rfl Tryz.ntmps68 rfl fun b => ?_
 refine sln ar fun hr1 hr2 _ => ?_
 refine GX.wR ?_; intros
 refine GX.nmB 5 ?_; rintro b5 rfl
 refine GX.loop (σ := RfS) (fun s => [(0, .slice ao f.length cap), (1, .slice ar r.length car), (5, .slice (some ⟨b5, 0, none⟩) f.length f.length), (6, .int .i64 (s.i : Int))]) (fun _ => [])
  (fun s => [GX.Own 4 Ty.bool (some ⟨b5, 0, none⟩) f.length s.m]) (fun s => s.i ≤ r.length ∧ Rt0 f r s.m s.i) (fun s => r.length - s.i)
  ⟨false, List.replicate f.length false, 0, 0⟩ ⟨rfl, rfl, rfl, rfl, trivial⟩ ⟨by simp, by simp, fun c h => by rw [List.getElem?_replicate] at h; split at h <;> simp at h, fun c h => by simp at h⟩ (fun s hs => ?_)
 obtain ⟨_, m, i, _⟩ := s
 obtain ⟨hi, hR⟩ := hs
 dsimp only at *
 have hll := hR.len
 by_cases hlt : i < r.length
 ·obtain ⟨x, hx⟩ := get_lt hlt
  refine GX.wR ?_; intros
  refine GX.o (cl (below_spec x f.length) fun _ => ?_)
  have hout : ∀ c : Nat, (c : Int) ∈ r.take (i + 1) → (c : Int) ∈ r.take i ∨ (c : Int) = x := fun c h => by
   rw [List.take_add_one, hx, List.mem_append] at h
   exact h.imp id (fun h => by simpa using h)
  by_cases hb : 0 ≤ x ∧ x < (f.length : Int)
  ·obtain ⟨c, rfl⟩ := Int.eq_ofNat_of_zero_le hb.1
   have hcl : c < m.length := by omega
   refine GX.wR ?_; intros
   refine again ⟨false, m.set c true, i + 1, 0⟩ ⟨rfl, rfl, rfl, rfl, trivial⟩ ⟨by dsimp only; omega, by rw [List.length_set]; exact hll, fun d hd => ?_, fun d hd hdl => ?_⟩ (by dsimp only; omega)
   ·rcases ReachM.set_back hd with rfl | hd
    ·exact .root (List.mem_of_getElem? hx) (by omega)
    ·exact hR.sound d hd
   ·rcases hout d hd with h | h
    ·exact set_true (hR.roots d h hdl)
    ·obtain rfl : d = c := by omega
     dsimp only
     rw [List.getElem?_set_self hcl]
  ·refine GX.wR ?_; intros
   refine again ⟨false, m, i + 1, 0⟩ ⟨rfl, rfl, rfl, rfl, trivial⟩ ⟨by dsimp only; omega, hll, hR.sound, fun d hd hdl => ?_⟩ (by dsimp only; omega)
   rcases hout d hd with h | h
   ·exact hR.roots d h hdl
   ·exact absurd ⟨by omega, by omega⟩ hb
 ·have hil : i = r.length := by omega
  subst hil
  have hroots := hR.roots
  rw [List.take_length] at hroots
  have hsound := hR.sound
  clear hR hi hlt
  refine GX.wR ?_; intros
  refine GX.loop (σ := RfS) (fun s => [(0, .slice ao f.length cap), (5, .slice (some ⟨b5, 0, none⟩) f.length f.length), (7, .bool s.more)]) (fun _ => [])
   (fun s => [GX.Own 4 Ty.bool (some ⟨b5, 0, none⟩) f.length s.m]) (fun s => s.m.length = f.length ∧ (∀ c : Nat, s.m[c]? = some true → RC f r c) ∧ (∀ c : Nat, (c : Int) ∈ r → c < f.length → s.m[c]? = some true) ∧ (s.more = false → marked s.m s.m.length = fromL f r)) (fun s => 2 * s.m.count false + (if s.more = true then 1 else 0))
   ⟨true, m, 0, 0⟩ ⟨rfl, rfl, rfl, trivial⟩ ⟨hll, hsound, hroots, fun h => by simp at h⟩ (fun s hs => ?_)
  clear hll hsound hroots
  obtain ⟨more, m, _, _⟩ := s
  obtain ⟨hll, hsound, hroots, hd⟩ := hs
  dsimp only at *
  cases more with
  | false =>
   rw [← hd rfl]
   refine GX.wR ?_; intros
   refine frz (some ⟨b5, 0, none⟩) ?_
   rw [← hll]
   refine GX.o (cl (list_spec (some ⟨b5, 0, none⟩) m.length m (by omega)) fun s => ?_)
   refine GX.wR ?_; intros
   exact rt1 s rfl
  | true =>
   clear hd
   refine GX.wR ?_; intros
   refine GX.loop (σ := RfS) (fun s => [(0, .slice ao f.length cap), (5, .slice (some ⟨b5, 0, none⟩) f.length f.length), (7, .bool s.more), (8, .int .i64 (s.i : Int))]) (fun _ => [])
    (fun s => [GX.Own 4 Ty.bool (some ⟨b5, 0, none⟩) f.length s.m]) (fun s => s.i ≤ f.length ∧ Ps f r (m.count false) s.more s.m s.i 0) (fun s => f.length - s.i)
    ⟨false, m, 0, 0⟩ ⟨rfl, rfl, rfl, rfl, trivial⟩ ⟨by simp, Ps.begin hll hsound hroots⟩ (fun s hs => ?_)
   obtain ⟨more, m2, i, _⟩ := s
   obtain ⟨hi, hP⟩ := hs
   dsimp only at *
   by_cases hlt : i < f.length
   ·obtain ⟨l, hl⟩ := get_lt hlt
    refine GX.wR ?_; intros
    refine GX.loop (σ := RfS) (fun s => [(0, .slice ao f.length cap), (5, .slice (some ⟨b5, 0, none⟩) f.length f.length), (7, .bool s.more), (8, .int .i64 (i : Int)), (9, .int .i64 (s.j : Int))]) (fun _ => [])
     (fun s => [GX.Own 4 Ty.bool (some ⟨b5, 0, none⟩) f.length s.m]) (fun s => s.j ≤ l.length ∧ Ps f r (m.count false) s.more s.m i s.j) (fun s => l.length - s.j)
     ⟨more, m2, 0, 0⟩ ⟨rfl, rfl, rfl, rfl, rfl, trivial⟩ ⟨by simp, hP⟩ (fun s hs => ?_)
    clear hP
    obtain ⟨more, m2, _, j⟩ := s
    obtain ⟨hj, hP⟩ := hs
    dsimp only at *
    have hl2 := hP.len
    obtain ⟨v, hv⟩ := get_lt (show i < m2.length by omega)
    by_cases hjl : j < l.length
    ·cases v with
     | false =>
      refine GX.wR ?_; intros
      exact again ⟨more, m2, i + 1, 0⟩ ⟨rfl, rfl, rfl, rfl, trivial⟩ ⟨by dsimp only; omega, hP.fin fun h => by rw [hv] at h; simp at h⟩ (by dsimp only; omega)
     | true =>
      obtain ⟨x, hx⟩ := get_lt hjl
      refine GX.wR ?_; intros
      refine GX.o (cl (below_spec x f.length) fun _ => ?_)
      by_cases hb : 0 ≤ x ∧ x < (f.length : Int)
      ·obtain ⟨c, rfl⟩ := Int.eq_ofNat_of_zero_le hb.1
       obtain ⟨u, hu⟩ := get_lt (show c < m2.length by omega)
       cases u with
       | true =>
        refine GX.wR ?_; intros
        exact again ⟨more, m2, 0, j + 1⟩ ⟨rfl, rfl, rfl, rfl, rfl, trivial⟩ ⟨by dsimp only; omega, hP.old hl hx fun d hd _ => (show c = d by omega) ▸ hu⟩ (by dsimp only; omega)
       | false =>
        refine GX.wR ?_; intros
        exact again ⟨true, m2.set c true, 0, j + 1⟩ ⟨rfl, rfl, rfl, rfl, rfl, trivial⟩ ⟨by dsimp only; omega, hP.new hl hx hv hu⟩ (by dsimp only; omega)
      ·refine GX.wR ?_; intros
       exact again ⟨more, m2, 0, j + 1⟩ ⟨rfl, rfl, rfl, rfl, rfl, trivial⟩ ⟨by dsimp only; omega, hP.old hl hx fun d hd h => absurd ⟨by omega, by omega⟩ hb⟩ (by dsimp only; omega)
    ·refine GX.wR ?_; intros
     exact again ⟨more, m2, i + 1, 0⟩ ⟨rfl, rfl, rfl, rfl, trivial⟩ ⟨by dsimp only; omega, hP.fin fun _ k hk => by rw [hl] at hk; cases hk; omega⟩ (by dsimp only; omega)
   ·have hil : i = f.length := by omega
    subst hil
    have hless := hP.less
    have hl2 := hP.len
    refine GX.wR ?_; intros
    refine again ⟨more, m2, 0, 0⟩ ⟨rfl, rfl, rfl, trivial⟩ ⟨hl2, hP.sound, hP.roots, fun e => ?_⟩ ?_
    ·dsimp only at e; subst e; exact hP.done
    ·dsimp only
     rw [if_pos rfl]
     split <;> rename_i e <;> simp only [e] at hless <;> simp at hless <;> omega
end Go.Proofs.YtomadjefdghliaaGreat
