import Derived.Test.YtomadjefdghliaaGreatU18
namespace Go.Proofs.YtomadjefdghliaaGreat
open Go Go.RR Go.RX Go.GX Go.Api Go.RtM
attribute [local irreducible] wpList Code.wp wpPlan Exit.then Exit.inBlock bodyPost NoPanic Went GX.Post GX.Again GX.Meet GX.RowR GX.Own GX.Owns GX.Box GX.Sl GX.Pt GX.Ag GX.MapR GX.Star GX.Kept GX.Pin wpT GoK AtEnd Both
instance utyFr : UTy Tryz.prog 60 Ty.ptr none (.pointer none) := ⟨Tryz.zeroValue60, fun F w => ptr_rd⟩
abbrev newC (n : Nat) (q : Nat × Nat × Nat) : FrC := ⟨q.1, q.2.1, n, q.2.2, fun _ => none⟩
abbrev newF (u into : Int) (n : Nat) : Fr := ⟨u, 0, List.replicate n 0, into, fun _ => 0⟩
theorem enter_spec (t : RTg) (p : Nat) (k : MK) (v : MV) (j : Nat) (n : Int) (hn : n = (j : Int)) (u : Unt) (into : Int) (hu : t.units[j]? = some u) (hv : u.vars.length ≤ 1000000) :
  Does Tryz.prog 23 [.pointer (some ⟨p, 0, none⟩), .int .i64 n, .int .i64 into] [Sl tyUnt k.aU k.cU t.units] [RowR p 57 [.slice k.aC t.classes.length k.cC, .slice k.aG t.globals.length k.cG, .slice k.aU t.units.length k.cU, .int .i64 t.main, .slice k.aL (glob t).length k.cL, .pointer (some ⟨k.tp, 0, none⟩), .int .i64 1, .slice v.ai v.ni v.ci, .slice (some ⟨k.gb, 0, none⟩) t.globals.length t.globals.length, .slice v.af v.nf v.cf, .int .i64 v.bound, .map (some k.om), .int .i64 v.en, .int .i64 v.code, .slice v.ao v.no v.co, .int .i64 v.steps, .int .i64 0, .int .i64 0, .int .i64 0, .int .i64 0, .int .i64 v.slack, .int .i64 0]] (fun s : Nat × Nat × Nat => .pointer (some ⟨s.1, 0, none⟩)) (fun _ => [])
   (fun s => [RowR p 57 [.slice k.aC t.classes.length k.cC, .slice k.aG t.globals.length k.cG, .slice k.aU t.units.length k.cU, .int .i64 t.main, .slice k.aL (glob t).length k.cL, .pointer (some ⟨k.tp, 0, none⟩), .int .i64 1, .slice v.ai v.ni v.ci, .slice (some ⟨k.gb, 0, none⟩) t.globals.length t.globals.length, .slice v.af v.nf v.cf, .int .i64 v.bound, .map (some k.om), .int .i64 v.en, .int .i64 v.code, .slice v.ao v.no v.co, .int .i64 v.steps, .int .i64 0, .int .i64 0, .int .i64 0, .int .i64 0, .int .i64 v.slack, .int .i64 0], RowR (newC u.vars.length s).bl 93 [.int .i64 (newF n into u.vars.length).u, .int .i64 (newF n into u.vars.length).pc, .slice (some ⟨(newC u.vars.length s).vb, 0, none⟩) (newC u.vars.length s).n (newC u.vars.length s).n, .int .i64 (newF n into u.vars.length).into, .map (some (newC u.vars.length s).mb)], GX.Own 3 Ty.int (some ⟨(newC u.vars.length s).vb, 0, none⟩) (newC u.vars.length s).n (newF n into u.vars.length).vars, GX.MapR (newC u.vars.length s).mb (newC u.vars.length s).mp]) := by
 subst hn
 refine enter Tryz.func23 rfl Tryz.ntmps23 rfl fun _ => ?_
 refine GX.wp_RA ?_; intros
 refine GX.nmB 18 ?_; rintro vb rfl
 refine GX.nmP 22 ?_; rintro bl rfl
 refine GX.nmM 20 ?_
 rintro mb rfl
 exact rt1 (bl, vb, mb) rfl
theorem push_spec (t : RTg) (p : Nat) (k : MK) (v : MV) (la : List (Option Addr)) (x : FrC) (f : Fr) (j : Nat) (u : Unt) (hu : t.units[j]? = some u) (hj : f.u = j) (hn : v.nf = la.length) (hb : la.length ≤ 1000) (h1 : -1000000000 ≤ v.bound ∧ v.bound ≤ 1000000000) (h2 : u.owns.length ≤ 1000000000) :
  Does Tryz.prog 22 [.pointer (some ⟨p, 0, none⟩), .pointer (some ⟨x.bl, 0, none⟩)] [Sl tyUnt k.aU k.cU t.units] [RowR p 57 [.slice k.aC t.classes.length k.cC, .slice k.aG t.globals.length k.cG, .slice k.aU t.units.length k.cU, .int .i64 t.main, .slice k.aL (glob t).length k.cL, .pointer (some ⟨k.tp, 0, none⟩), .int .i64 1, .slice v.ai v.ni v.ci, .slice (some ⟨k.gb, 0, none⟩) t.globals.length t.globals.length, .slice v.af v.nf v.cf, .int .i64 v.bound, .map (some k.om), .int .i64 v.en, .int .i64 v.code, .slice v.ao v.no v.co, .int .i64 v.steps, .int .i64 0, .int .i64 0, .int .i64 0, .int .i64 0, .int .i64 v.slack, .int .i64 0], GX.Own 60 Ty.ptr v.af v.cf la, RowR x.bl 93 [.int .i64 f.u, .int .i64 f.pc, .slice (some ⟨x.vb, 0, none⟩) x.n x.n, .int .i64 f.into, .map (some x.mb)]] (fun _ : Option Addr × Nat => .tuple #[]) (fun _ => [])
   (fun s => [RowR p 57 [.slice k.aC t.classes.length k.cC, .slice k.aG t.globals.length k.cG, .slice k.aU t.units.length k.cU, .int .i64 t.main, .slice k.aL (glob t).length k.cL, .pointer (some ⟨k.tp, 0, none⟩), .int .i64 1, .slice v.ai v.ni v.ci, .slice (some ⟨k.gb, 0, none⟩) t.globals.length t.globals.length, .slice s.1 (la.length + 1) s.2, .int .i64 (v.bound + u.owns.length), .map (some k.om), .int .i64 v.en, .int .i64 v.code, .slice v.ao v.no v.co, .int .i64 v.steps, .int .i64 0, .int .i64 0, .int .i64 0, .int .i64 0, .int .i64 v.slack, .int .i64 0], GX.Own 60 Ty.ptr s.1 s.2 (la ++ [some ⟨x.bl, 0, none⟩]), RowR x.bl 93 [.int .i64 f.u, .int .i64 f.pc, .slice (some ⟨x.vb, 0, none⟩) x.n x.n, .int .i64 f.into, .map (some x.mb)]]) := by
 refine enter Tryz.func22 rfl Tryz.ntmps22 rfl fun _ => ?_
 have hla : (la ++ [some (⟨x.bl, 0, none⟩ : Addr)]).length = la.length + 1 := by simp
 rw [hn]
 refine GX.wp_R ?_; intros
 refine GX.nmS 11 ?_; rintro a c rfl rfl
 refine GX.drawn2 (RowR p 57 _) (RowR x.bl 93 _) (fun j => !(List.contains [20] j)) [(0, true), (1, true), (2, true), (3, true), (4, true), (5, true), (6, true), (7, true), (8, true), (9, true), (10, true), (11, true), (12, true), (13, true), (14, true), (15, true), (16, true), (17, true), (18, true), (19, true), (20, false)] rfl (by kernel_rfl) (by kernel_rfl) GX.sA ?_; intro wd F hW hR
 refine GX.wp_T ?_; intros
 refine GX.unpin (RowR p 57 _) ?_
 refine GX.unpin (RowR x.bl 93 _) ?_
 refine GX.wp_T ?_; intros
 refine GX.wp_R ?_; intros
 rw [hla]
 exact en0 (a, c)
theorem slack_spec (t : RTg) (p : Nat) (k : MK) (v : MV) (c : TabC) (T : Tb) (hT : TInv c T) (h1 : -1000000000 ≤ v.bound ∧ v.bound ≤ 1000000000) (hB : T.B.length ≤ 1000000000) :
  Does Tryz.prog 24 [.pointer (some ⟨p, 0, none⟩)] [] [RowR p 57 [.slice k.aC t.classes.length k.cC, .slice k.aG t.globals.length k.cG, .slice k.aU t.units.length k.cU, .int .i64 t.main, .slice k.aL (glob t).length k.cL, .pointer (some ⟨k.tp, 0, none⟩), .int .i64 1, .slice v.ai v.ni v.ci, .slice (some ⟨k.gb, 0, none⟩) t.globals.length t.globals.length, .slice v.af v.nf v.cf, .int .i64 v.bound, .map (some k.om), .int .i64 v.en, .int .i64 v.code, .slice v.ao v.no v.co, .int .i64 v.steps, .int .i64 0, .int .i64 0, .int .i64 0, .int .i64 0, .int .i64 v.slack, .int .i64 0], RowR k.tp 86 [.slice c.aR c.R.length c.cR, .slice c.aL c.L.length c.cL, .int .i64 c.gone, .int .i64 c.peak, .int .i64 c.many, .int .i64 c.most], GX.Own 90 tyRegion c.aR c.cR c.R, GX.Own 148 tyThing c.aL c.cL (c.L.map thg), Owns 3 Ty.int (c.L.map (fun x : Th => x.2))] (fun _ : Unit => .int .i64 (v.bound - (liveN T.B : Int))) (fun _ => []) (fun _ => [RowR p 57 [.slice k.aC t.classes.length k.cC, .slice k.aG t.globals.length k.cG, .slice k.aU t.units.length k.cU, .int .i64 t.main, .slice k.aL (glob t).length k.cL, .pointer (some ⟨k.tp, 0, none⟩), .int .i64 1, .slice v.ai v.ni v.ci, .slice (some ⟨k.gb, 0, none⟩) t.globals.length t.globals.length, .slice v.af v.nf v.cf, .int .i64 v.bound, .map (some k.om), .int .i64 v.en, .int .i64 v.code, .slice v.ao v.no v.co, .int .i64 v.steps, .int .i64 0, .int .i64 0, .int .i64 0, .int .i64 0, .int .i64 v.slack, .int .i64 0], RowR k.tp 86 [.slice c.aR c.R.length c.cR, .slice c.aL c.L.length c.cL, .int .i64 c.gone, .int .i64 c.peak, .int .i64 c.many, .int .i64 c.most], GX.Own 90 tyRegion c.aR c.cR c.R, GX.Own 148 tyThing c.aL c.cL (c.L.map thg), Owns 3 Ty.int (c.L.map (fun x : Th => x.2))]) := by
 refine enter Tryz.func24 rfl Tryz.ntmps24 rfl fun _ => ?_
 have hlv : liveN T.B ≤ T.B.length := List.countP_le_length
 refine GX.wp_R ?_; intros
 refine GX.o (cl (tCount_spec k.tp hT) fun _ => ?_)
 refine GX.wp_R ?_; intros
 rw [show v.bound - ((T.B.length : Int) - ((T.B.length : Int) - (liveN T.B : Int))) = v.bound - (liveN T.B : Int) by omega]
 exact rt1 () rfl
theorem each_spec (t : RTg) (p : Nat) (k : MK) (v : MV) (l : List (Option Addr)) (x : FrC) (f : Fr) (ao : Option Addr) (cap : Nat) (L : List Int) (hn : v.nf = l.length + 1) (hb : l.length ≤ 1000) (hl : f.vars.length = x.n) (hv : ∀ n ∈ L, Vok f n) (hLl : L.length ≤ 1000000) :
  Does Tryz.prog 111 [.slice ao L.length cap, .func (.func 101) #[.pointer (some ⟨p, 0, none⟩)] #[]] [Sl Ty.int ao cap L] [RowR p 57 [.slice k.aC t.classes.length k.cC, .slice k.aG t.globals.length k.cG, .slice k.aU t.units.length k.cU, .int .i64 t.main, .slice k.aL (glob t).length k.cL, .pointer (some ⟨k.tp, 0, none⟩), .int .i64 1, .slice v.ai v.ni v.ci, .slice (some ⟨k.gb, 0, none⟩) t.globals.length t.globals.length, .slice v.af v.nf v.cf, .int .i64 v.bound, .map (some k.om), .int .i64 v.en, .int .i64 v.code, .slice v.ao v.no v.co, .int .i64 v.steps, .int .i64 0, .int .i64 0, .int .i64 0, .int .i64 0, .int .i64 v.slack, .int .i64 0], GX.Own 60 Ty.ptr v.af v.cf (l ++ [some ⟨x.bl, 0, none⟩]), RowR x.bl 93 [.int .i64 f.u, .int .i64 f.pc, .slice (some ⟨x.vb, 0, none⟩) x.n x.n, .int .i64 f.into, .map (some x.mb)], GX.Own 3 Ty.int (some ⟨x.vb, 0, none⟩) x.n f.vars] (fun s : Option Addr × Nat => .slice s.1 (L.map (lkv f.vars)).length s.2) (fun s => [Sl Ty.int s.1 s.2 (L.map (lkv f.vars))]) (fun _ => [RowR p 57 [.slice k.aC t.classes.length k.cC, .slice k.aG t.globals.length k.cG, .slice k.aU t.units.length k.cU, .int .i64 t.main, .slice k.aL (glob t).length k.cL, .pointer (some ⟨k.tp, 0, none⟩), .int .i64 1, .slice v.ai v.ni v.ci, .slice (some ⟨k.gb, 0, none⟩) t.globals.length t.globals.length, .slice v.af v.nf v.cf, .int .i64 v.bound, .map (some k.om), .int .i64 v.en, .int .i64 v.code, .slice v.ao v.no v.co, .int .i64 v.steps, .int .i64 0, .int .i64 0, .int .i64 0, .int .i64 0, .int .i64 v.slack, .int .i64 0], GX.Own 60 Ty.ptr v.af v.cf (l ++ [some ⟨x.bl, 0, none⟩]), RowR x.bl 93 [.int .i64 f.u, .int .i64 f.pc, .slice (some ⟨x.vb, 0, none⟩) x.n x.n, .int .i64 f.into, .map (some x.mb)], GX.Own 3 Ty.int (some ⟨x.vb, 0, none⟩) x.n f.vars]) := by
 refine enter Tryz.func111 rfl Tryz.ntmps111 rfl fun _ => ?_
 refine sln ao fun _ _ _ => ?_
 refine GX.wp_R ?_; intros
 refine ownNil 3 Ty.int ?_
 refine GX.loop (σ := Nat × Option Addr × Nat) (fun s => [(1, .func (.func 101) #[.pointer (some ⟨p, 0, none⟩)] #[]), (5, .slice s.2.1 ((L.take s.1).map (lkv f.vars)).length s.2.2), (8, .slice ao L.length cap), (9, .int .i64 (L.length : Int)), (10, .int .i64 (s.1 : Int))]) (fun _ => []) (fun s => [GX.Own 3 Ty.int s.2.1 s.2.2 ((L.take s.1).map (lkv f.vars)), RowR p 57 [.slice k.aC t.classes.length k.cC, .slice k.aG t.globals.length k.cG, .slice k.aU t.units.length k.cU, .int .i64 t.main, .slice k.aL (glob t).length k.cL, .pointer (some ⟨k.tp, 0, none⟩), .int .i64 1, .slice v.ai v.ni v.ci, .slice (some ⟨k.gb, 0, none⟩) t.globals.length t.globals.length, .slice v.af v.nf v.cf, .int .i64 v.bound, .map (some k.om), .int .i64 v.en, .int .i64 v.code, .slice v.ao v.no v.co, .int .i64 v.steps, .int .i64 0, .int .i64 0, .int .i64 0, .int .i64 0, .int .i64 v.slack, .int .i64 0], GX.Own 60 Ty.ptr v.af v.cf (l ++ [some ⟨x.bl, 0, none⟩]), RowR x.bl 93 [.int .i64 f.u, .int .i64 f.pc, .slice (some ⟨x.vb, 0, none⟩) x.n x.n, .int .i64 f.into, .map (some x.mb)], GX.Own 3 Ty.int (some ⟨x.vb, 0, none⟩) x.n f.vars])
  (fun s => s.1 ≤ L.length) (fun s => L.length - s.1) (0, none, 0) ⟨rfl, rfl, rfl, rfl, rfl, trivial⟩ (Nat.zero_le _) (fun s hs => ?_)
 obtain ⟨j, a, c⟩ := s
 dsimp only at hs ⊢
 by_cases hlt : j < L.length
 ·obtain ⟨d, hd⟩ := GX.get_lt hlt
  have ht : (L.take (j + 1)).map (lkv f.vars) = (L.take j).map (lkv f.vars) ++ [lkv f.vars d] := by rw [List.take_add_one, hd]; simp
  have hlen : ((L.take j).map (lkv f.vars)).length = j := by rw [List.length_map, List.length_take]; omega
  have hlen2 : ((L.take j).map (lkv f.vars) ++ [lkv f.vars d]).length = j + 1 := by rw [List.length_append, hlen]; rfl
  refine GX.wp_R ?_; intros
  refine GX.o (clv (fs := [.pointer (some ⟨p, 0, none⟩)]) (vs := [.int .i64 d]) (cs := []) (vI_spec t p k v l x f d hn hb hl (hv d (List.mem_of_getElem? hd))) fun _ => ?_)
  refine GX.wp_R ?_; intros
  refine GX.nmS 19 ?_; rintro a2 c2 rfl rfl
  rw [← ht]
  exact again (j + 1, a2, c2) ⟨rfl, rfl, rfl, rfl, rfl, trivial⟩ (by dsimp only; omega) (by dsimp only; omega)
 ·obtain rfl : j = L.length := by omega
  rw [List.take_length]
  refine GX.wp_R ?_; intros
  refine frz a ?_
  exact rt1 (a, c) rfl
theorem rem_len (T : Tb) (r : Int) : (T.rem r).B.length = T.B.length ∧ (T.rem r).L = T.L := by
 unfold Tb.rem
 split
 ·exact ⟨List.length_set, rfl⟩
 ·exact ⟨rfl, rfl⟩
theorem remAll_len (T : Tb) : ∀ n : Nat, (remAll T n).B.length = T.B.length ∧ (remAll T n).L = T.L
 | 0 => ⟨rfl, rfl⟩
 | n + 1 => by
  have h1 := rem_len (remAll T n) ((n : Int) + 1)
  have h2 := remAll_len T n
  exact ⟨h1.1.trans h2.1, h1.2.trans h2.2⟩
def clearT (T : Tb) (en : Int) : Tb := if en = 1 then T.rem 1 else if en = 2 then remAll T T.B.length else T
theorem clears_spec (t : RTg) (p : Nat) (k : MK) (v : MV) (c : TabC) (T : Tb) (hT : TInv c T) (hB : T.B.length ≤ 1000000000) (hL : T.L.length ≤ 1000000000) :
  Does Tryz.prog 26 [.pointer (some ⟨p, 0, none⟩)] [] [RowR p 57 [.slice k.aC t.classes.length k.cC, .slice k.aG t.globals.length k.cG, .slice k.aU t.units.length k.cU, .int .i64 t.main, .slice k.aL (glob t).length k.cL, .pointer (some ⟨k.tp, 0, none⟩), .int .i64 1, .slice v.ai v.ni v.ci, .slice (some ⟨k.gb, 0, none⟩) t.globals.length t.globals.length, .slice v.af v.nf v.cf, .int .i64 v.bound, .map (some k.om), .int .i64 v.en, .int .i64 v.code, .slice v.ao v.no v.co, .int .i64 v.steps, .int .i64 0, .int .i64 0, .int .i64 0, .int .i64 0, .int .i64 v.slack, .int .i64 0], RowR k.tp 86 [.slice c.aR c.R.length c.cR, .slice c.aL c.L.length c.cL, .int .i64 c.gone, .int .i64 c.peak, .int .i64 c.many, .int .i64 c.most], GX.Own 90 tyRegion c.aR c.cR c.R, GX.Own 148 tyThing c.aL c.cL (c.L.map thg), Owns 3 Ty.int (c.L.map (fun x : Th => x.2))] (fun _ : { c' : TabC // TInv c' (clearT T v.en) } => .tuple #[]) (fun _ => []) (fun s => [RowR p 57 [.slice k.aC t.classes.length k.cC, .slice k.aG t.globals.length k.cG, .slice k.aU t.units.length k.cU, .int .i64 t.main, .slice k.aL (glob t).length k.cL, .pointer (some ⟨k.tp, 0, none⟩), .int .i64 1, .slice v.ai v.ni v.ci, .slice (some ⟨k.gb, 0, none⟩) t.globals.length t.globals.length, .slice v.af v.nf v.cf, .int .i64 v.bound, .map (some k.om), .int .i64 v.en, .int .i64 v.code, .slice v.ao v.no v.co, .int .i64 v.steps, .int .i64 0, .int .i64 0, .int .i64 0, .int .i64 0, .int .i64 v.slack, .int .i64 0], RowR k.tp 86 [.slice s.1.aR s.1.R.length s.1.cR, .slice s.1.aL s.1.L.length s.1.cL, .int .i64 s.1.gone, .int .i64 s.1.peak, .int .i64 s.1.many, .int .i64 s.1.most], GX.Own 90 tyRegion s.1.aR s.1.cR s.1.R, GX.Own 148 tyThing s.1.aL s.1.cL (s.1.L.map thg), Owns 3 Ty.int (s.1.L.map (fun x : Th => x.2))]) := by
 refine enter Tryz.func26 rfl Tryz.ntmps26 rfl fun _ => ?_
 by_cases h1 : v.en = 1
 ·rw [show clearT T v.en = T.rem 1 from if_pos h1]
  refine GX.wp_R ?_; intros
  refine GX.drawn1 (RowR p 57 _) (fun j => !(List.contains [8] j)) [(0, true), (1, true), (2, true), (3, true), (4, true), (5, true), (6, true), (7, true), (8, false)] rfl (by kernel_rfl) (by kernel_rfl) GX.sA ?_; intro wd F hW hR
  refine GX.wp_T ?_; intros
  refine GX.unpin (RowR p 57 _) ?_
  refine GX.gow ?_
  refine (cl (tRem_spec k.tp hT 1 hB hL) fun s => ?_)
  refine GX.wp_T ?_; intros
  refine GX.wp_R ?_; intros
  exact en0 s
 by_cases h2 : v.en = 2
 ·rw [show clearT T v.en = remAll T T.B.length by unfold clearT; rw [if_neg h1, if_pos h2]]
  refine GX.wp_R ?_; intros
  refine GX.o (cl (tCount_spec k.tp hT) fun _ => ?_)
  refine GX.wp_R ?_; intros
  refine GX.loop (σ := Nat × TabC) (fun s => [(0, .pointer (some ⟨p, 0, none⟩)), (34, .int .i64 (T.B.length : Int)), (35, .int .i64 (s.1 : Int))]) (fun _ => []) (fun s => [RowR p 57 [.slice k.aC t.classes.length k.cC, .slice k.aG t.globals.length k.cG, .slice k.aU t.units.length k.cU, .int .i64 t.main, .slice k.aL (glob t).length k.cL, .pointer (some ⟨k.tp, 0, none⟩), .int .i64 1, .slice v.ai v.ni v.ci, .slice (some ⟨k.gb, 0, none⟩) t.globals.length t.globals.length, .slice v.af v.nf v.cf, .int .i64 v.bound, .map (some k.om), .int .i64 v.en, .int .i64 v.code, .slice v.ao v.no v.co, .int .i64 v.steps, .int .i64 0, .int .i64 0, .int .i64 0, .int .i64 0, .int .i64 v.slack, .int .i64 0], RowR k.tp 86 [.slice s.2.aR s.2.R.length s.2.cR, .slice s.2.aL s.2.L.length s.2.cL, .int .i64 s.2.gone, .int .i64 s.2.peak, .int .i64 s.2.many, .int .i64 s.2.most], GX.Own 90 tyRegion s.2.aR s.2.cR s.2.R, GX.Own 148 tyThing s.2.aL s.2.cL (s.2.L.map thg), Owns 3 Ty.int (s.2.L.map (fun x : Th => x.2))])
   (fun s => s.1 ≤ T.B.length ∧ TInv s.2 (remAll T s.1)) (fun s => T.B.length - s.1) (0, c) ⟨rfl, rfl, rfl, trivial⟩ ⟨Nat.zero_le _, hT⟩ (fun s hs => ?_)
  obtain ⟨j, c1⟩ := s
  obtain ⟨hj, hT1⟩ := hs
  dsimp only at hj hT1 ⊢
  have hl := remAll_len T j
  by_cases hlt : j < T.B.length
  ·refine GX.wp_R ?_; intros
   refine GX.o (cl (tRem_spec k.tp hT1 ((j : Int) + 1) (by rw [hl.1]; exact hB) (by rw [hl.2]; exact hL)) fun s2 => ?_)
   obtain ⟨c2, hT2⟩ := s2
   dsimp only
   refine GX.wp_R ?_; intros
   exact again (j + 1, c2) ⟨rfl, rfl, rfl, trivial⟩ ⟨by dsimp only; omega, hT2⟩ (by dsimp only; omega)
  ·obtain rfl : j = T.B.length := by omega
   refine GX.wp_R ?_; intros
   exact en0 ⟨c1, hT1⟩
 ·rw [show clearT T v.en = T by unfold clearT; rw [if_neg h1, if_neg h2]]
  refine GX.wp_R ?_; intros
  exact en0 ⟨c, hT⟩
theorem call_deep (t : RTg) (p : Nat) (k : MK) (v : MV) (l : List (Option Addr)) (x : FrC) (f : Fr) (i : Ins) (cs : List Value) (hn : v.nf = l.length + 1) (hb : l.length ≤ 1000) (hd : 40 ≤ l.length + 1) : Does Tryz.prog 55 [.pointer (some ⟨p, 0, none⟩), .agg cs.toArray] [Ag tyIns cs i] [RowR p 57 [.slice k.aC t.classes.length k.cC, .slice k.aG t.globals.length k.cG, .slice k.aU t.units.length k.cU, .int .i64 t.main, .slice k.aL (glob t).length k.cL, .pointer (some ⟨k.tp, 0, none⟩), .int .i64 1, .slice v.ai v.ni v.ci, .slice (some ⟨k.gb, 0, none⟩) t.globals.length t.globals.length, .slice v.af v.nf v.cf, .int .i64 v.bound, .map (some k.om), .int .i64 v.en, .int .i64 v.code, .slice v.ao v.no v.co, .int .i64 v.steps, .int .i64 0, .int .i64 0, .int .i64 0, .int .i64 0, .int .i64 v.slack, .int .i64 0]] (fun _ : Unit => .tuple #[]) (fun _ => []) (fun _ => [RowR p 57 [.slice k.aC t.classes.length k.cC, .slice k.aG t.globals.length k.cG, .slice k.aU t.units.length k.cU, .int .i64 t.main, .slice k.aL (glob t).length k.cL, .pointer (some ⟨k.tp, 0, none⟩), .int .i64 1, .slice (trapV v 6).ai (trapV v 6).ni (trapV v 6).ci, .slice (some ⟨k.gb, 0, none⟩) t.globals.length t.globals.length, .slice (trapV v 6).af (trapV v 6).nf (trapV v 6).cf, .int .i64 (trapV v 6).bound, .map (some k.om), .int .i64 (trapV v 6).en, .int .i64 (trapV v 6).code, .slice (trapV v 6).ao (trapV v 6).no (trapV v 6).co, .int .i64 (trapV v 6).steps, .int .i64 0, .int .i64 0, .int .i64 0, .int .i64 0, .int .i64 (trapV v 6).slack, .int .i64 0]]) := by
 refine enter Tryz.func55 rfl Tryz.ntmps55 rfl fun _ => ?_
 have hd' : (40 : Int) ≤ (v.nf : Int) := by omega
 refine GX.wp_R ?_; intros
 refine GX.o (cl (trap_spec t p k v 6) fun _ => ?_)
 refine GX.wp_R ?_; intros
 exact rt0 ()
theorem takeR_drop {G : List Int} {B : List Bool} {f : Fr} {l : List Int} {j : Nat} {c : Int} (h : l[j]? = some c) (m : Int → Int) : takeR G B f (l.drop j) m = if hasB B (reg G f c) = true then takeR G B f (l.drop (j + 1)) (updI m c (reg G f c)) else none := by
 rw [List.drop_eq_getElem_cons (List.getElem?_eq_some_iff.1 h).1, (List.getElem?_eq_some_iff.1 h).2]
 rfl
theorem call_no (t : RTg) (p : Nat) (k : MK) (v : MV) (l : List (Option Addr)) (x : FrC) (f : Fr) (i : Ins) (cs : List Value) (j : Nat) (g : Unt) (hg : t.units[j]? = some g) (hj : i.c = j) (hv : g.vars.length ≤ 1000000) (hd : l.length + 1 < 40) (c : TabC) (T : Tb) (hT : TInv c T) (hr : RegsAt x f) (hm : takeR (glob t) T.B f g.takes (fun _ => 0) = none) (hn : v.nf = l.length + 1) (hb : l.length ≤ 1000) (hl : f.vars.length = x.n) :
  Does Tryz.prog 55 [.pointer (some ⟨p, 0, none⟩), .agg cs.toArray] [Ag tyIns cs i, Sl Ty.int k.aL k.cL (glob t), Sl tyUnt k.aU k.cU t.units] [RowR p 57 [.slice k.aC t.classes.length k.cC, .slice k.aG t.globals.length k.cG, .slice k.aU t.units.length k.cU, .int .i64 t.main, .slice k.aL (glob t).length k.cL, .pointer (some ⟨k.tp, 0, none⟩), .int .i64 1, .slice v.ai v.ni v.ci, .slice (some ⟨k.gb, 0, none⟩) t.globals.length t.globals.length, .slice v.af v.nf v.cf, .int .i64 v.bound, .map (some k.om), .int .i64 v.en, .int .i64 v.code, .slice v.ao v.no v.co, .int .i64 v.steps, .int .i64 0, .int .i64 0, .int .i64 0, .int .i64 0, .int .i64 v.slack, .int .i64 0], GX.Own 60 Ty.ptr v.af v.cf (l ++ [some ⟨x.bl, 0, none⟩]), RowR x.bl 93 [.int .i64 f.u, .int .i64 f.pc, .slice (some ⟨x.vb, 0, none⟩) x.n x.n, .int .i64 f.into, .map (some x.mb)], GX.Own 3 Ty.int (some ⟨x.vb, 0, none⟩) x.n f.vars, GX.MapR x.mb x.mp, RowR k.tp 86 [.slice c.aR c.R.length c.cR, .slice c.aL c.L.length c.cL, .int .i64 c.gone, .int .i64 c.peak, .int .i64 c.many, .int .i64 c.most], GX.Own 90 tyRegion c.aR c.cR c.R, GX.Own 148 tyThing c.aL c.cL (c.L.map thg), Owns 3 Ty.int (c.L.map (fun x : Th => x.2))] (fun _ : Unit => .tuple #[]) (fun _ => [])
   (fun _ => [RowR p 57 [.slice k.aC t.classes.length k.cC, .slice k.aG t.globals.length k.cG, .slice k.aU t.units.length k.cU, .int .i64 t.main, .slice k.aL (glob t).length k.cL, .pointer (some ⟨k.tp, 0, none⟩), .int .i64 1, .slice v.ai v.ni v.ci, .slice (some ⟨k.gb, 0, none⟩) t.globals.length t.globals.length, .slice v.af v.nf v.cf, .int .i64 v.bound, .map (some k.om), .int .i64 4, .int .i64 0, .slice v.ao v.no v.co, .int .i64 v.steps, .int .i64 0, .int .i64 0, .int .i64 0, .int .i64 0, .int .i64 v.slack, .int .i64 0], GX.Own 60 Ty.ptr v.af v.cf (l ++ [some ⟨x.bl, 0, none⟩]), RowR x.bl 93 [.int .i64 f.u, .int .i64 f.pc, .slice (some ⟨x.vb, 0, none⟩) x.n x.n, .int .i64 f.into, .map (some x.mb)], GX.Own 3 Ty.int (some ⟨x.vb, 0, none⟩) x.n f.vars, GX.MapR x.mb x.mp, RowR k.tp 86 [.slice c.aR c.R.length c.cR, .slice c.aL c.L.length c.cL, .int .i64 c.gone, .int .i64 c.peak, .int .i64 c.many, .int .i64 c.most], GX.Own 90 tyRegion c.aR c.cR c.R, GX.Own 148 tyThing c.aL c.cL (c.L.map thg), Owns 3 Ty.int (c.L.map (fun x : Th => x.2))]) := by
 refine enter Tryz.func55 rfl Tryz.ntmps55 rfl fun _ => ?_
 have hd' : ¬ (40 : Int) ≤ (v.nf : Int) := by omega
 refine GX.wp_R ?_; intros
 rw [hj]
 refine GX.o (cl (enter_spec t p k v j _ rfl g i.a hg hv) fun s => ?_)
 obtain ⟨bl2, vb2, mb2⟩ := s
 dsimp only [newC, newF]
 refine GX.wp_R ?_; intros
 refine GX.drawn1 (RowR p 57 _) (fun j => !(List.contains [] j)) [(0, true), (1, true), (2, true), (3, true), (4, true), (5, true), (6, true), (7, true), (8, true), (9, true), (10, true), (11, true)] rfl (by kernel_rfl) (by kernel_rfl) GX.sA ?_; intro wd F hW hR
 refine GX.wp_T ?_; intros
 rw [hj]
 refine GX.wp_T ?_; intros
 refine GX.unpin (RowR p 57 _) ?_
 refine GX.wp_T ?_; intros
 refine GX.wp_R ?_; intros
 refine GX.nmS 31 ?_; rintro aT cT rfl rfl
 refine GX.nmP 3 ?_; rintro b3 rfl
 refine sln aT fun _ _ _ => ?_
 refine GX.loop (σ := Nat × (Int → Int) × (Int → Option Value)) (fun s => [(0, .pointer (some ⟨p, 0, none⟩)), (3, .pointer (some ⟨b3, 0, none⟩)), (4, .pointer (some ⟨bl2, 0, none⟩)), (31, .slice aT g.takes.length cT), (32, .int .i64 (g.takes.length : Int)), (33, .int .i64 (s.1 : Int))]) (fun _ => []) (fun s => [RowR p 57 [.slice k.aC t.classes.length k.cC, .slice k.aG t.globals.length k.cG, .slice k.aU t.units.length k.cU, .int .i64 t.main, .slice k.aL (glob t).length k.cL, .pointer (some ⟨k.tp, 0, none⟩), .int .i64 1, .slice v.ai v.ni v.ci, .slice (some ⟨k.gb, 0, none⟩) t.globals.length t.globals.length, .slice v.af v.nf v.cf, .int .i64 v.bound, .map (some k.om), .int .i64 v.en, .int .i64 v.code, .slice v.ao v.no v.co, .int .i64 v.steps, .int .i64 0, .int .i64 0, .int .i64 0, .int .i64 0, .int .i64 v.slack, .int .i64 0], GX.Own 60 Ty.ptr v.af v.cf (l ++ [some ⟨x.bl, 0, none⟩]), RowR x.bl 93 [.int .i64 f.u, .int .i64 f.pc, .slice (some ⟨x.vb, 0, none⟩) x.n x.n, .int .i64 f.into, .map (some x.mb)], GX.Own 3 Ty.int (some ⟨x.vb, 0, none⟩) x.n f.vars, GX.MapR x.mb x.mp, RowR k.tp 86 [.slice c.aR c.R.length c.cR, .slice c.aL c.L.length c.cL, .int .i64 c.gone, .int .i64 c.peak, .int .i64 c.many, .int .i64 c.most], GX.Own 90 tyRegion c.aR c.cR c.R, GX.Own 148 tyThing c.aL c.cL (c.L.map thg), Owns 3 Ty.int (c.L.map (fun x : Th => x.2)), RowR bl2 93 [.int .i64 (j : Int), .int .i64 0, .slice (some ⟨vb2, 0, none⟩) g.vars.length g.vars.length, .int .i64 i.a, .map (some mb2)], GX.Own 3 Ty.int (some ⟨vb2, 0, none⟩) g.vars.length (List.replicate g.vars.length 0), GX.MapR mb2 s.2.2])
  (fun s => s.1 ≤ g.takes.length ∧ RegsAt { x with mp := s.2.2 } { f with regs := s.2.1 } ∧ takeR (glob t) T.B f (g.takes.drop s.1) s.2.1 = takeR (glob t) T.B f g.takes (fun _ => 0)) (fun s => g.takes.length - s.1) (0, (fun _ => 0), fun _ => none) ⟨rfl, rfl, rfl, rfl, rfl, rfl, trivial⟩ ⟨Nat.zero_le _, fun _ => rfl, by rw [List.drop_zero]⟩ (fun s hs => ?_)
 obtain ⟨n, m', mp⟩ := s
 obtain ⟨hn', hr1, he⟩ := hs
 dsimp only at hn' hr1 he ⊢
 rw [hm] at he
 by_cases hlt : n < g.takes.length
 ·obtain ⟨d, hd⟩ := GX.get_lt hlt
  rw [takeR_drop hd] at he
  by_cases hh : hasB T.B (reg (glob t) f d) = true
  ·rw [if_pos hh] at he
   have hz : ¬ reg (glob t) f d = 0 := fun h0 => by rw [h0, hasB0] at hh; cases hh
   have e1 : regV T (glob t) f d = reg (glob t) f d := if_pos hh
   refine GX.wp_R ?_; intros
   refine GX.o (cl (top_spec t p k v l _ hn hb) fun _ => ?_)
   refine GX.wp_R ?_; intros
   refine GX.o (cl (region_spec t p k v x f d c T hT hr) fun _ => ?_)
   rw [e1]
   refine GX.wp_R ?_; intros
   exact again (n + 1, updI m' d (reg (glob t) f d), RX.upd mp d (.int .i64 (reg (glob t) f d))) ⟨rfl, rfl, rfl, rfl, rfl, rfl, trivial⟩ ⟨by dsimp only; omega, regsAt_upd hr1 d _, he.trans hm.symm⟩ (by dsimp only; omega)
  ·rw [if_neg hh] at he
   have e1 : regV T (glob t) f d = 0 := if_neg hh
   refine GX.wp_R ?_; intros
   refine GX.o (cl (top_spec t p k v l _ hn hb) fun _ => ?_)
   refine GX.wp_R ?_; intros
   refine GX.o (cl (region_spec t p k v x f d c T hT hr) fun _ => ?_)
   rw [e1]
   refine GX.wp_R ?_; intros
   refine GX.o (cl (ends_spec t p k v 4 0) fun _ => ?_)
   refine GX.wp_R ?_; intros
   exact rt0 ()
 ·obtain rfl : n = g.takes.length := by omega
  rw [List.drop_length] at he
  exact absurd he (by simp [takeR])
theorem call_yes (t : RTg) (p : Nat) (k : MK) (v : MV) (l : List (Option Addr)) (x : FrC) (f : Fr) (i : Ins) (cs : List Value) (j : Nat) (g : Unt) (hg : t.units[j]? = some g) (hj : i.c = j) (hv : g.vars.length ≤ 1000000) (hd : l.length + 1 < 40) (c : TabC) (T : Tb) (hT : TInv c T) (hr : RegsAt x f) (m : Int → Int) (hm : takeR (glob t) T.B f g.takes (fun _ => 0) = some m) (hn : v.nf = l.length + 1) (hb : l.length ≤ 1000) (hl : f.vars.length = x.n) (hargs : ∀ n ∈ i.args, Vok f n) (hal : i.args.length ≤ g.vars.length) (hbd : -1000000000 ≤ v.bound ∧ v.bound ≤ 1000000000) (hol : g.owns.length ≤ 1000000000) :
  Does Tryz.prog 55 [.pointer (some ⟨p, 0, none⟩), .agg cs.toArray] [Ag tyIns cs i, Sl Ty.int k.aL k.cL (glob t), Sl tyUnt k.aU k.cU t.units] [RowR p 57 [.slice k.aC t.classes.length k.cC, .slice k.aG t.globals.length k.cG, .slice k.aU t.units.length k.cU, .int .i64 t.main, .slice k.aL (glob t).length k.cL, .pointer (some ⟨k.tp, 0, none⟩), .int .i64 1, .slice v.ai v.ni v.ci, .slice (some ⟨k.gb, 0, none⟩) t.globals.length t.globals.length, .slice v.af v.nf v.cf, .int .i64 v.bound, .map (some k.om), .int .i64 v.en, .int .i64 v.code, .slice v.ao v.no v.co, .int .i64 v.steps, .int .i64 0, .int .i64 0, .int .i64 0, .int .i64 0, .int .i64 v.slack, .int .i64 0], GX.Own 60 Ty.ptr v.af v.cf (l ++ [some ⟨x.bl, 0, none⟩]), RowR x.bl 93 [.int .i64 f.u, .int .i64 f.pc, .slice (some ⟨x.vb, 0, none⟩) x.n x.n, .int .i64 f.into, .map (some x.mb)], GX.Own 3 Ty.int (some ⟨x.vb, 0, none⟩) x.n f.vars, GX.MapR x.mb x.mp, RowR k.tp 86 [.slice c.aR c.R.length c.cR, .slice c.aL c.L.length c.cL, .int .i64 c.gone, .int .i64 c.peak, .int .i64 c.many, .int .i64 c.most], GX.Own 90 tyRegion c.aR c.cR c.R, GX.Own 148 tyThing c.aL c.cL (c.L.map thg), Owns 3 Ty.int (c.L.map (fun x : Th => x.2))] (fun _ : { q : (Option Addr × Nat) × (Nat × Nat × Nat) × (Int → Option Value) // RegsAt { x with mp := q.2.2 } { f with regs := m } } => .tuple #[]) (fun _ => [])
   (fun s => [RowR p 57 [.slice k.aC t.classes.length k.cC, .slice k.aG t.globals.length k.cG, .slice k.aU t.units.length k.cU, .int .i64 t.main, .slice k.aL (glob t).length k.cL, .pointer (some ⟨k.tp, 0, none⟩), .int .i64 1, .slice v.ai v.ni v.ci, .slice (some ⟨k.gb, 0, none⟩) t.globals.length t.globals.length, .slice s.1.1.1 (l.length + 2) s.1.1.2, .int .i64 (v.bound + g.owns.length), .map (some k.om), .int .i64 v.en, .int .i64 v.code, .slice v.ao v.no v.co, .int .i64 v.steps, .int .i64 0, .int .i64 0, .int .i64 0, .int .i64 0, .int .i64 v.slack, .int .i64 0], GX.Own 60 Ty.ptr s.1.1.1 s.1.1.2 (l ++ [some ⟨x.bl, 0, none⟩] ++ [some ⟨s.1.2.1.1, 0, none⟩]), RowR x.bl 93 [.int .i64 f.u, .int .i64 f.pc, .slice (some ⟨x.vb, 0, none⟩) x.n x.n, .int .i64 f.into, .map (some x.mb)], GX.Own 3 Ty.int (some ⟨x.vb, 0, none⟩) x.n f.vars, GX.MapR x.mb x.mp, RowR k.tp 86 [.slice c.aR c.R.length c.cR, .slice c.aL c.L.length c.cL, .int .i64 c.gone, .int .i64 c.peak, .int .i64 c.many, .int .i64 c.most], GX.Own 90 tyRegion c.aR c.cR c.R, GX.Own 148 tyThing c.aL c.cL (c.L.map thg), Owns 3 Ty.int (c.L.map (fun x : Th => x.2)),
    RowR s.1.2.1.1 93 [.int .i64 i.c, .int .i64 0, .slice (some ⟨s.1.2.1.2.1, 0, none⟩) g.vars.length g.vars.length, .int .i64 i.a, .map (some s.1.2.1.2.2)], GX.Own 3 Ty.int (some ⟨s.1.2.1.2.1, 0, none⟩) g.vars.length (argsV f i g.vars.length), GX.MapR s.1.2.1.2.2 s.1.2.2]) := by
 refine enter Tryz.func55 rfl Tryz.ntmps55 rfl fun _ => ?_
 have hd' : ¬ (40 : Int) ≤ (v.nf : Int) := by omega
 refine GX.wp_R ?_; intros
 rw [hj]
 refine GX.o (cl (enter_spec t p k v j _ rfl g i.a hg hv) fun s => ?_)
 obtain ⟨bl2, vb2, mb2⟩ := s
 dsimp only [newC, newF]
 refine GX.wp_R ?_; intros
 refine GX.drawn1 (RowR p 57 _) (fun j => !(List.contains [] j)) [(0, true), (1, true), (2, true), (3, true), (4, true), (5, true), (6, true), (7, true), (8, true), (9, true), (10, true), (11, true)] rfl (by kernel_rfl) (by kernel_rfl) GX.sA ?_; intro wd F hW hR
 refine GX.wp_T ?_; intros
 rw [hj]
 refine GX.wp_T ?_; intros
 refine GX.unpin (RowR p 57 _) ?_
 refine GX.wp_T ?_; intros
 refine GX.wp_R ?_; intros
 refine GX.nmS 31 ?_; rintro aT cT rfl rfl
 refine GX.nmP 3 ?_; rintro b3 rfl
 refine sln aT fun _ _ _ => ?_
 refine GX.loop (σ := Nat × (Int → Int) × (Int → Option Value)) (fun s => [(0, .pointer (some ⟨p, 0, none⟩)), (3, .pointer (some ⟨b3, 0, none⟩)), (4, .pointer (some ⟨bl2, 0, none⟩)), (31, .slice aT g.takes.length cT), (32, .int .i64 (g.takes.length : Int)), (33, .int .i64 (s.1 : Int))]) (fun _ => []) (fun s => [RowR p 57 [.slice k.aC t.classes.length k.cC, .slice k.aG t.globals.length k.cG, .slice k.aU t.units.length k.cU, .int .i64 t.main, .slice k.aL (glob t).length k.cL, .pointer (some ⟨k.tp, 0, none⟩), .int .i64 1, .slice v.ai v.ni v.ci, .slice (some ⟨k.gb, 0, none⟩) t.globals.length t.globals.length, .slice v.af v.nf v.cf, .int .i64 v.bound, .map (some k.om), .int .i64 v.en, .int .i64 v.code, .slice v.ao v.no v.co, .int .i64 v.steps, .int .i64 0, .int .i64 0, .int .i64 0, .int .i64 0, .int .i64 v.slack, .int .i64 0], GX.Own 60 Ty.ptr v.af v.cf (l ++ [some ⟨x.bl, 0, none⟩]), RowR x.bl 93 [.int .i64 f.u, .int .i64 f.pc, .slice (some ⟨x.vb, 0, none⟩) x.n x.n, .int .i64 f.into, .map (some x.mb)], GX.Own 3 Ty.int (some ⟨x.vb, 0, none⟩) x.n f.vars, GX.MapR x.mb x.mp, RowR k.tp 86 [.slice c.aR c.R.length c.cR, .slice c.aL c.L.length c.cL, .int .i64 c.gone, .int .i64 c.peak, .int .i64 c.many, .int .i64 c.most], GX.Own 90 tyRegion c.aR c.cR c.R, GX.Own 148 tyThing c.aL c.cL (c.L.map thg), Owns 3 Ty.int (c.L.map (fun x : Th => x.2)), RowR bl2 93 [.int .i64 (j : Int), .int .i64 0, .slice (some ⟨vb2, 0, none⟩) g.vars.length g.vars.length, .int .i64 i.a, .map (some mb2)], GX.Own 3 Ty.int (some ⟨vb2, 0, none⟩) g.vars.length (List.replicate g.vars.length 0), GX.MapR mb2 s.2.2])
  (fun s => s.1 ≤ g.takes.length ∧ RegsAt { x with mp := s.2.2 } { f with regs := s.2.1 } ∧ takeR (glob t) T.B f (g.takes.drop s.1) s.2.1 = takeR (glob t) T.B f g.takes (fun _ => 0)) (fun s => g.takes.length - s.1) (0, (fun _ => 0), fun _ => none) ⟨rfl, rfl, rfl, rfl, rfl, rfl, trivial⟩ ⟨Nat.zero_le _, fun _ => rfl, by rw [List.drop_zero]⟩ (fun s hs => ?_)
 obtain ⟨n, m', mp⟩ := s
 obtain ⟨hn', hr1, he⟩ := hs
 dsimp only at hn' hr1 he ⊢
 rw [hm] at he
 by_cases hlt : n < g.takes.length
 ·obtain ⟨d, hd⟩ := GX.get_lt hlt
  rw [takeR_drop hd] at he
  by_cases hh : hasB T.B (reg (glob t) f d) = true
  ·rw [if_pos hh] at he
   have hz : ¬ reg (glob t) f d = 0 := fun h0 => by rw [h0, hasB0] at hh; cases hh
   have e1 : regV T (glob t) f d = reg (glob t) f d := if_pos hh
   refine GX.wp_R ?_; intros
   refine GX.o (cl (top_spec t p k v l _ hn hb) fun _ => ?_)
   refine GX.wp_R ?_; intros
   refine GX.o (cl (region_spec t p k v x f d c T hT hr) fun _ => ?_)
   rw [e1]
   refine GX.wp_R ?_; intros
   exact again (n + 1, updI m' d (reg (glob t) f d), RX.upd mp d (.int .i64 (reg (glob t) f d))) ⟨rfl, rfl, rfl, rfl, rfl, rfl, trivial⟩ ⟨by dsimp only; omega, regsAt_upd hr1 d _, he.trans hm.symm⟩ (by dsimp only; omega)
  ·rw [if_neg hh] at he
   exact absurd he (by simp)
 ·obtain rfl : n = g.takes.length := by omega
  rw [List.drop_length] at he
  obtain rfl : m' = m := by simpa [takeR] using he
  have hel : (i.args.map (lkv f.vars)).length = i.args.length := List.length_map _
  have hel2 : (List.replicate g.vars.length (0 : Int)).length = g.vars.length := List.length_replicate
  have hel3 : (i.args.map (lkv f.vars)).length ≤ (List.replicate g.vars.length (0 : Int)).length := by omega
  have hdd : (i.args.map (lkv f.vars)) ++ (List.replicate g.vars.length (0 : Int)).drop (i.args.map (lkv f.vars)).length = argsV f i g.vars.length := by rw [hel]; rfl
  refine GX.wp_R ?_; intros
  refine GX.drawn1 (RowR bl2 93 _) (fun j => !(List.contains [9] j)) [(0, true), (1, true), (2, true), (3, true), (4, true), (5, true), (6, true), (7, true), (8, false), (9, false)] rfl (by kernel_rfl) (by kernel_rfl) GX.sA ?_; intro wd F hW hR
  refine GX.wp_T ?_; intros
  refine GX.unpin (RowR bl2 93 _) ?_
  refine GX.nmS 58 ?_; rintro aA cA rfl rfl
  refine GX.gow ?_
  refine (cl (each_spec t p k v l x f aA cA i.args hn hb hl hargs (by omega)) fun s => ?_)
  obtain ⟨a4, c4⟩ := s
  dsimp only
  refine GX.wp_T ?_; intros
  rw [hdd]
  refine GX.wp_R ?_; intros
  refine GX.o (cl (push_spec t p k v (l ++ [some ⟨x.bl, 0, none⟩]) ⟨bl2, vb2, g.vars.length, mb2, mp⟩ ⟨(j : Int), 0, argsV f i g.vars.length, i.a, m'⟩ j g hg rfl (by rw [hn]; simp) (by simp; omega) hbd hol) fun s => ?_)
  obtain ⟨a5, c5⟩ := s
  dsimp only
  refine GX.wp_R ?_; intros
  rw [show (l ++ [some (⟨x.bl, 0, none⟩ : Addr)]).length + 1 = l.length + 2 by simp]
  exact en0 ⟨((a5, c5), (bl2, vb2, mb2), mp), hr1⟩
theorem ret_last (t : RTg) (p : Nat) (k : MK) (v : MV) (x : FrC) (f : Fr) (i : Ins) (cs : List Value) (j : Nat) (g : Unt) (hg : t.units[j]? = some g) (hj : f.u = j) (hn : v.nf = 0 + 1) (hl : f.vars.length = x.n) (hi : i.a = -1 ∨ Vok f i.a) (hbd : -1000000000 ≤ v.bound ∧ v.bound ≤ 1000000000) (hol : g.owns.length ≤ 1000000000) :
  Does Tryz.prog 60 [.pointer (some ⟨p, 0, none⟩), .agg cs.toArray] [Ag tyIns cs i, Sl tyUnt k.aU k.cU t.units] [RowR p 57 [.slice k.aC t.classes.length k.cC, .slice k.aG t.globals.length k.cG, .slice k.aU t.units.length k.cU, .int .i64 t.main, .slice k.aL (glob t).length k.cL, .pointer (some ⟨k.tp, 0, none⟩), .int .i64 1, .slice v.ai v.ni v.ci, .slice (some ⟨k.gb, 0, none⟩) t.globals.length t.globals.length, .slice v.af v.nf v.cf, .int .i64 v.bound, .map (some k.om), .int .i64 v.en, .int .i64 v.code, .slice v.ao v.no v.co, .int .i64 v.steps, .int .i64 0, .int .i64 0, .int .i64 0, .int .i64 0, .int .i64 v.slack, .int .i64 0], GX.Own 60 Ty.ptr v.af v.cf ([] ++ [some ⟨x.bl, 0, none⟩]), RowR x.bl 93 [.int .i64 f.u, .int .i64 f.pc, .slice (some ⟨x.vb, 0, none⟩) x.n x.n, .int .i64 f.into, .map (some x.mb)], GX.Own 3 Ty.int (some ⟨x.vb, 0, none⟩) x.n f.vars] (fun _ : Unit => .tuple #[]) (fun _ => []) (fun _ => [RowR p 57 [.slice k.aC t.classes.length k.cC, .slice k.aG t.globals.length k.cG, .slice k.aU t.units.length k.cU, .int .i64 t.main, .slice k.aL (glob t).length k.cL, .pointer (some ⟨k.tp, 0, none⟩), .int .i64 1, .slice v.ai v.ni v.ci, .slice (some ⟨k.gb, 0, none⟩) t.globals.length t.globals.length, .slice v.af 0 v.cf, .int .i64 (v.bound - g.owns.length), .map (some k.om), .int .i64 1, .int .i64 0, .slice v.ao v.no v.co, .int .i64 v.steps, .int .i64 0, .int .i64 0, .int .i64 0, .int .i64 0, .int .i64 v.slack, .int .i64 0], GX.Own 60 Ty.ptr v.af v.cf []]) := by
 refine enter Tryz.func60 rfl Tryz.ntmps60 rfl fun _ => ?_
 obtain ⟨ai, ni, ci, af, nf, cf, bd, en, code, ao, no, co, st, sl⟩ := v
 dsimp only at *
 subst hn
 have hll : ([] : List (Option Addr)).length = 0 := by simp
 have htk : (([] : List (Option Addr)) ++ [some (⟨x.bl, 0, none⟩ : Addr)]).take 0 = [] := by rw [← hll]; exact List.take_left
 refine GX.opn af fun hc _ ha => ?_
 have hcc : 0 ≤ cf := by simp at hc; omega
 obtain ⟨h9, _⟩ | ⟨q, rfl⟩ := ha
 ·simp at h9
 refine GX.wp_R ?_; intros
 refine GX.o (cl (top_spec t p k (⟨ai, ni, ci, some ⟨q, 0, none⟩, 0 + 1, cf, bd, en, code, ao, no, co, st, sl⟩ : MV) [] _ rfl (by simp)) fun _ => ?_)
 try dsimp only
 by_cases hz0 : 0 ≤ i.a
 ·have va : Vok f i.a := by rcases hi with h5 | h5
                            ·omega
                            ·exact h5
  refine GX.wp_R ?_; intros
  refine GX.o (cl (vI_spec t p k (⟨ai, ni, ci, some ⟨q, 0, none⟩, 0 + 1, cf, bd, en, code, ao, no, co, st, sl⟩ : MV) [] x f i.a rfl (by simp) hl va) fun _ => ?_)
  try dsimp only
  refine GX.wp_R ?_; intros
  refine GX.drawn1 (RowR p 57 _) (fun j => !(List.contains [14] j)) [(0, true), (1, true), (2, true), (3, true), (4, true), (5, true), (6, true), (7, true), (8, true), (9, true), (10, true), (11, true), (12, true), (13, true), (14, false)] rfl (by kernel_rfl) (by kernel_rfl) GX.sA ?_; intro wd F hW hR
  refine GX.wp_T ?_; intros
  try dsimp only
  try rw [show ((0 + 1 : Nat) : Int) - 1 = ((0 : Nat) : Int) by omega]
  refine GX.tkr ?_
  refine GX.roh (j := 0) ?_
  refine GX.unpin (RowR p 57 _) ?_
  refine GX.wp_T ?_; intros
  refine GX.ownTake (some ⟨q, 0, none⟩) 0 ?_
  rw [htk]
  refine GX.wp_R ?_; intros
  refine GX.drawn2 (RowR p 57 _) (RowR x.bl 93 _) (fun j => !(List.contains [20] j)) [(0, true), (1, true), (2, true), (3, true), (4, true), (5, true), (6, true), (7, true), (8, true), (9, true), (10, true), (11, true), (12, true), (13, true), (14, true), (15, true), (16, true), (17, true), (18, true), (19, true), (20, false)] rfl (by kernel_rfl) (by kernel_rfl) GX.sA ?_; intro wd F hW hR
  refine GX.wp_T ?_; intros
  refine GX.unpin (RowR p 57 _) ?_
  refine GX.unpin (RowR x.bl 93 _) ?_
  refine GX.wp_T ?_; intros
  refine GX.wp_R ?_; intros
  refine GX.o (cl (ends_spec t p k (⟨ai, ni, ci, some ⟨q, 0, none⟩, 0, cf, bd - g.owns.length, en, code, ao, no, co, st, sl⟩ : MV) 1 0) fun _ => ?_)
  try dsimp only
  refine GX.wp_R ?_; intros
  exact en0 ()
 ·skip
  refine GX.wp_R ?_; intros
  refine GX.drawn1 (RowR p 57 _) (fun j => !(List.contains [14] j)) [(0, true), (1, true), (2, true), (3, true), (4, true), (5, true), (6, true), (7, true), (8, true), (9, true), (10, true), (11, true), (12, true), (13, true), (14, false)] rfl (by kernel_rfl) (by kernel_rfl) GX.sA ?_; intro wd F hW hR
  refine GX.wp_T ?_; intros
  try dsimp only
  try rw [show ((0 + 1 : Nat) : Int) - 1 = ((0 : Nat) : Int) by omega]
  refine GX.tkr ?_
  refine GX.roh (j := 0) ?_
  refine GX.unpin (RowR p 57 _) ?_
  refine GX.wp_T ?_; intros
  refine GX.ownTake (some ⟨q, 0, none⟩) 0 ?_
  rw [htk]
  refine GX.wp_R ?_; intros
  refine GX.drawn2 (RowR p 57 _) (RowR x.bl 93 _) (fun j => !(List.contains [20] j)) [(0, true), (1, true), (2, true), (3, true), (4, true), (5, true), (6, true), (7, true), (8, true), (9, true), (10, true), (11, true), (12, true), (13, true), (14, true), (15, true), (16, true), (17, true), (18, true), (19, true), (20, false)] rfl (by kernel_rfl) (by kernel_rfl) GX.sA ?_; intro wd F hW hR
  refine GX.wp_T ?_; intros
  refine GX.unpin (RowR p 57 _) ?_
  refine GX.unpin (RowR x.bl 93 _) ?_
  refine GX.wp_T ?_; intros
  refine GX.wp_R ?_; intros
  refine GX.o (cl (ends_spec t p k (⟨ai, ni, ci, some ⟨q, 0, none⟩, 0, cf, bd - g.owns.length, en, code, ao, no, co, st, sl⟩ : MV) 1 0) fun _ => ?_)
  try dsimp only
  refine GX.wp_R ?_; intros
  exact en0 ()
theorem ret_more (t : RTg) (p : Nat) (k : MK) (v : MV) (l' : List (Option Addr)) (y : FrC) (h : Fr) (x : FrC) (f : Fr) (i : Ins) (cs : List Value) (j : Nat) (g : Unt) (hg : t.units[j]? = some g) (hj : f.u = j) (hn : v.nf = (l'.length + 1) + 1) (hb : l'.length ≤ 900) (hlh : h.vars.length = y.n) (hin : f.into = -1 ∨ Vok h f.into) (hl : f.vars.length = x.n) (hi : i.a = -1 ∨ Vok f i.a) (hbd : -1000000000 ≤ v.bound ∧ v.bound ≤ 1000000000) (hol : g.owns.length ≤ 1000000000) :
  Does Tryz.prog 60 [.pointer (some ⟨p, 0, none⟩), .agg cs.toArray] [Ag tyIns cs i, Sl tyUnt k.aU k.cU t.units] [RowR p 57 [.slice k.aC t.classes.length k.cC, .slice k.aG t.globals.length k.cG, .slice k.aU t.units.length k.cU, .int .i64 t.main, .slice k.aL (glob t).length k.cL, .pointer (some ⟨k.tp, 0, none⟩), .int .i64 1, .slice v.ai v.ni v.ci, .slice (some ⟨k.gb, 0, none⟩) t.globals.length t.globals.length, .slice v.af v.nf v.cf, .int .i64 v.bound, .map (some k.om), .int .i64 v.en, .int .i64 v.code, .slice v.ao v.no v.co, .int .i64 v.steps, .int .i64 0, .int .i64 0, .int .i64 0, .int .i64 0, .int .i64 v.slack, .int .i64 0], GX.Own 60 Ty.ptr v.af v.cf ((l' ++ [some ⟨y.bl, 0, none⟩]) ++ [some ⟨x.bl, 0, none⟩]), RowR x.bl 93 [.int .i64 f.u, .int .i64 f.pc, .slice (some ⟨x.vb, 0, none⟩) x.n x.n, .int .i64 f.into, .map (some x.mb)], GX.Own 3 Ty.int (some ⟨x.vb, 0, none⟩) x.n f.vars, RowR y.bl 93 [.int .i64 h.u, .int .i64 h.pc, .slice (some ⟨y.vb, 0, none⟩) y.n y.n, .int .i64 h.into, .map (some y.mb)], GX.Own 3 Ty.int (some ⟨y.vb, 0, none⟩) y.n h.vars] (fun _ : Unit => .tuple #[]) (fun _ => []) (fun _ => [RowR p 57 [.slice k.aC t.classes.length k.cC, .slice k.aG t.globals.length k.cG, .slice k.aU t.units.length k.cU, .int .i64 t.main, .slice k.aL (glob t).length k.cL, .pointer (some ⟨k.tp, 0, none⟩), .int .i64 1, .slice v.ai v.ni v.ci, .slice (some ⟨k.gb, 0, none⟩) t.globals.length t.globals.length, .slice v.af (l'.length + 1) v.cf, .int .i64 (v.bound - g.owns.length), .map (some k.om), .int .i64 v.en, .int .i64 v.code, .slice v.ao v.no v.co, .int .i64 v.steps, .int .i64 0, .int .i64 0, .int .i64 0, .int .i64 0, .int .i64 v.slack, .int .i64 0], GX.Own 60 Ty.ptr v.af v.cf (l' ++ [some ⟨y.bl, 0, none⟩]), RowR y.bl 93 [.int .i64 h.u, .int .i64 h.pc, .slice (some ⟨y.vb, 0, none⟩) y.n y.n, .int .i64 h.into, .map (some y.mb)], GX.Own 3 Ty.int (some ⟨y.vb, 0, none⟩) y.n (if 0 ≤ f.into then setv h.vars f.into (if 0 ≤ i.a then lkv f.vars i.a else 0) else h.vars)]) := by
 refine enter Tryz.func60 rfl Tryz.ntmps60 rfl fun _ => ?_
 obtain ⟨ai, ni, ci, af, nf, cf, bd, en, code, ao, no, co, st, sl⟩ := v
 dsimp only at *
 subst hn
 have hll : ((l' ++ [some ⟨y.bl, 0, none⟩]) : List (Option Addr)).length = (l'.length + 1) := by simp
 have htk : (((l' ++ [some ⟨y.bl, 0, none⟩]) : List (Option Addr)) ++ [some (⟨x.bl, 0, none⟩ : Addr)]).take (l'.length + 1) = (l' ++ [some ⟨y.bl, 0, none⟩]) := by rw [← hll]; exact List.take_left
 have hvi : 0 ≤ f.into → Vok h f.into := fun hz => by
  rcases hin with h5 | h5
  ·omega
  ·exact h5
 refine GX.opn af fun hc _ ha => ?_
 have hcc : (l'.length + 1) ≤ cf := by simp at hc; omega
 obtain ⟨h9, _⟩ | ⟨q, rfl⟩ := ha
 ·simp at h9
 refine GX.wp_R ?_; intros
 refine GX.o (cl (top_spec t p k (⟨ai, ni, ci, some ⟨q, 0, none⟩, (l'.length + 1) + 1, cf, bd, en, code, ao, no, co, st, sl⟩ : MV) (l' ++ [some ⟨y.bl, 0, none⟩]) _ (by simp) (by simp; omega)) fun _ => ?_)
 try dsimp only
 by_cases hz0 : 0 ≤ i.a
 ·have va : Vok f i.a := by rcases hi with h5 | h5
                            ·omega
                            ·exact h5
  rw [if_pos hz0]
  refine GX.wp_R ?_; intros
  refine GX.o (cl (vI_spec t p k (⟨ai, ni, ci, some ⟨q, 0, none⟩, (l'.length + 1) + 1, cf, bd, en, code, ao, no, co, st, sl⟩ : MV) (l' ++ [some ⟨y.bl, 0, none⟩]) x f i.a (by simp) (by simp; omega) hl va) fun _ => ?_)
  try dsimp only
  refine GX.wp_R ?_; intros
  refine GX.drawn1 (RowR p 57 _) (fun j => !(List.contains [14] j)) [(0, true), (1, true), (2, true), (3, true), (4, true), (5, true), (6, true), (7, true), (8, true), (9, true), (10, true), (11, true), (12, true), (13, true), (14, false)] rfl (by kernel_rfl) (by kernel_rfl) GX.sA ?_; intro wd F hW hR
  refine GX.wp_T ?_; intros
  try dsimp only
  try rw [show (((l'.length + 1) + 1 : Nat) : Int) - 1 = (((l'.length + 1) : Nat) : Int) by omega]
  refine GX.tkr ?_
  refine GX.roh (j := (l'.length + 1)) ?_
  refine GX.unpin (RowR p 57 _) ?_
  refine GX.wp_T ?_; intros
  refine GX.ownTake (some ⟨q, 0, none⟩) (l'.length + 1) ?_
  rw [htk]
  refine GX.wp_R ?_; intros
  refine GX.drawn2 (RowR p 57 _) (RowR x.bl 93 _) (fun j => !(List.contains [20] j)) [(0, true), (1, true), (2, true), (3, true), (4, true), (5, true), (6, true), (7, true), (8, true), (9, true), (10, true), (11, true), (12, true), (13, true), (14, true), (15, true), (16, true), (17, true), (18, true), (19, true), (20, false)] rfl (by kernel_rfl) (by kernel_rfl) GX.sA ?_; intro wd F hW hR
  refine GX.wp_T ?_; intros
  refine GX.unpin (RowR p 57 _) ?_
  refine GX.unpin (RowR x.bl 93 _) ?_
  refine GX.wp_T ?_; intros
  refine GX.wp_R ?_; intros
  by_cases hz : 0 ≤ f.into
  ·rw [if_pos hz]
   refine GX.wp_R ?_; intros
   refine GX.o (cl (setI_spec t p k (⟨ai, ni, ci, some ⟨q, 0, none⟩, (l'.length + 1), cf, bd - g.owns.length, en, code, ao, no, co, st, sl⟩ : MV) l' y h f.into (lkv f.vars i.a) rfl (by omega) hlh (hvi hz)) fun _ => ?_)
   refine GX.wp_R ?_; intros
   exact en0 ()
  ·rw [if_neg hz]
   refine GX.wp_R ?_; intros
   exact en0 ()
 ·rw [if_neg hz0]
  refine GX.wp_R ?_; intros
  refine GX.drawn1 (RowR p 57 _) (fun j => !(List.contains [14] j)) [(0, true), (1, true), (2, true), (3, true), (4, true), (5, true), (6, true), (7, true), (8, true), (9, true), (10, true), (11, true), (12, true), (13, true), (14, false)] rfl (by kernel_rfl) (by kernel_rfl) GX.sA ?_; intro wd F hW hR
  refine GX.wp_T ?_; intros
  try dsimp only
  try rw [show (((l'.length + 1) + 1 : Nat) : Int) - 1 = (((l'.length + 1) : Nat) : Int) by omega]
  refine GX.tkr ?_
  refine GX.roh (j := (l'.length + 1)) ?_
  refine GX.unpin (RowR p 57 _) ?_
  refine GX.wp_T ?_; intros
  refine GX.ownTake (some ⟨q, 0, none⟩) (l'.length + 1) ?_
  rw [htk]
  refine GX.wp_R ?_; intros
  refine GX.drawn2 (RowR p 57 _) (RowR x.bl 93 _) (fun j => !(List.contains [20] j)) [(0, true), (1, true), (2, true), (3, true), (4, true), (5, true), (6, true), (7, true), (8, true), (9, true), (10, true), (11, true), (12, true), (13, true), (14, true), (15, true), (16, true), (17, true), (18, true), (19, true), (20, false)] rfl (by kernel_rfl) (by kernel_rfl) GX.sA ?_; intro wd F hW hR
  refine GX.wp_T ?_; intros
  refine GX.unpin (RowR p 57 _) ?_
  refine GX.unpin (RowR x.bl 93 _) ?_
  refine GX.wp_T ?_; intros
  refine GX.wp_R ?_; intros
  by_cases hz : 0 ≤ f.into
  ·rw [if_pos hz]
   refine GX.wp_R ?_; intros
   refine GX.o (cl (setI_spec t p k (⟨ai, ni, ci, some ⟨q, 0, none⟩, (l'.length + 1), cf, bd - g.owns.length, en, code, ao, no, co, st, sl⟩ : MV) l' y h f.into 0 rfl (by omega) hlh (hvi hz)) fun _ => ?_)
   refine GX.wp_R ?_; intros
   exact en0 ()
  ·rw [if_neg hz]
   refine GX.wp_R ?_; intros
   exact en0 ()
end Go.Proofs.YtomadjefdghliaaGreat
