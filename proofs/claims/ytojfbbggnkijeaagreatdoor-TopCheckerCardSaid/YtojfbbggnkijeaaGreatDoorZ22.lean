import Derived.Test.YtojfbbggnkijeaaGreatDoorZ21
set_option linter.all false
namespace Go.Proofs.YtojfbbggnkijeaaGreatDoor
open Go Go.RR Go.RX Go.GX Go.Api
attribute [local irreducible] wpList Code.wp wpPlan Exit.then Exit.inBlock bodyPost NoPanic Went GX.Post Again Meet RowR GX.Own Owns Box Sl Pt Ag MapR Kept Pin wpT GoK AtEnd Both
variable {R:List Region} {r:Int}
structure Thing where
 region:Int
 cells:Option Addr×Nat×Nat
def tyThing:Ty Thing:=Ty.co (Ty.pair Ty.int (Ty.pair Ty.hdr Ty.unit)) (fun y=>(y.region,y.cells,()))
instance:Sub tyThing 0 Ty.int Thing.region (fun z y=>{y with region:=z }):=Sub.co (Sub.fst (Sub.whole _)) (fun _=>rfl) (fun _ _=>rfl)
instance:Sub tyThing 1 Ty.hdr Thing.cells (fun z y=>{y with cells:=z }):=Sub.co (Sub.snd (Sub.fst (Sub.whole _))) (fun _=>rfl) (fun _ _=>rfl)
instance:UTy Tryz.prog 450 tyThing ⟨0,none,0,0⟩ (.agg #[.int .i64 0,.slice none 0 0]):=⟨Tryz.zeroValue450,fun F w=>co_rd (pair_rd (c1:=[_]) rfl num_rd (pair_rd (c1:=[_]) rfl hdr_rd unit_rd))⟩
instance {ps:List Pf}{v w:Value}{x:Int}{y:Option Addr×Nat×Nat}[OneV v][OneV w][h1:Rds ps v Ty.int x][h2:Rds ps w Ty.hdr y]:Rds ps (.agg #[v,w]) tyThing ⟨x,y⟩:=⟨.of fun F u h=>co_rd (pair_rd (c1:=[_]) rfl (rdo (h1.r.as F u h)) (pair_rd (c1:=[_]) rfl (rdo (h2.r.as F u h)) unit_rd))⟩
abbrev Th:=Int×Option Addr×Nat×List Int
def thg (q:Th):Thing:=⟨q.1,hd q.2⟩
structure TabC where
 aR:Option Addr
 cR:Nat
 R:List Region
 aL:Option Addr
 cL:Nat
 L:List Th
 gone:Int
 peak:Int
 many:Int
 most:Int
abbrev tbl (c:TabC):List Value:=[.slice c.aR c.R.length c.cR,.slice c.aL c.L.length c.cL,.int .i64 c.gone,.int .i64 c.peak,.int .i64 c.many,.int .i64 c.most]
abbrev tA (c:TabC):Res:=GX.Own 252 tyRegion c.aR c.cR c.R
abbrev tB (c:TabC):Res:=GX.Own 450 tyThing c.aL c.cL (c.L.map thg)
abbrev tC (c:TabC):Res:=Owns 3 Ty.int (c.L.map (fun x:Th=>x.2))
def has (R:List Region)(r:Int):Bool:=decide (1<=r)&&(match R[(r-1).toNat]? with|some x=>x.live|none=>false)
theorem has_neg (h:r<1):has R r=false:=by
 have:¬ 1<=r:=by omega
 simp[has,this]
theorem has_big (h:(R.length:Int)<r):has R r=false:=by
 have:R[(r-1).toNat]?=none:=by rw[List.getElem?_eq_none];omega
 rw[has,this];simp
theorem has_in {k:Nat}{x:Region}(h:R[k]?=some x):has R ((k:Int)+1)=x.live:=by
 have:((k:Int)+1-1).toNat=k:=by omega
 simp[has,this,h];omega
theorem has_get (h:has R r=true):∃(k:Nat) (x:Region),r=(k:Int)+1/\R[k]?=some x/\x.live=true:=by
 unfold has at h;simp only[Bool.and_eq_true,decide_eq_true_eq] at h;obtain⟨h1,h2⟩:=h
 cases hx:R[(r-1).toNat]? with
 |none=>rw[hx] at h2;simp at h2
 |some x=>rw[hx] at h2;exact⟨_,x,by omega,hx,h2⟩
theorem has_spec (p:Nat)(c:TabC)(r:Int):Does Tryz.prog 222 [.pointer (some ⟨p,0,none⟩),.int .i64 r] [] [RowR p 248 (tbl c),GX.Own 252 tyRegion c.aR c.cR c.R,GX.Own 450 tyThing c.aL c.cL (c.L.map thg),Owns 3 Ty.int (c.L.map (fun x:Th=>x.2))] (fun _:Unit=>.bool (has c.R r)) (fun _=>[]) (fun _=>[RowR p 248 (tbl c),GX.Own 252 tyRegion c.aR c.cR c.R,GX.Own 450 tyThing c.aL c.cL (c.L.map thg),Owns 3 Ty.int (c.L.map (fun x:Th=>x.2))]):=by
 refine enter Tryz.func222 rfl Tryz.ntmps222 rfl fun b=>?_;by_cases h1:r<1
 ·refine w_ ?_;intros;refine rt1 () (by rw[has_neg h1])
 by_cases h2:(c.R.length:Int)<r
 ·refine w_ ?_;intros;refine rt1 () (by rw[has_big h2])
 obtain⟨j,rfl⟩:∃j:Nat,r=(j:Int)+1:=⟨(r-1).toNat,by omega⟩;obtain⟨y,hy⟩:∃y,c.R[j]?=some y:=⟨_,List.getElem?_eq_getElem (by omega)⟩;obtain⟨aR,cR,R,aL,cL,L,gone,peak,many,most⟩:=c;dsimp only[tbl] at *;refine GX.opn aR fun _ _ ha=>?_;obtain⟨rfl,_⟩|⟨q,rfl⟩:=ha
 ·simp at hy
 refine w_ ?_;intros;refine rt1 () (by rw[has_in hy])
theorem make_spec (p:Nat)(c:TabC)(hl:c.R.length<=1000000000)(hg:0<=c.gone/\c.gone<=1000000000):Does Tryz.prog 61 [.pointer (some ⟨p,0,none⟩)] [] [RowR p 248 (tbl c),GX.Own 252 tyRegion c.aR c.cR c.R,GX.Own 450 tyThing c.aL c.cL (c.L.map thg),Owns 3 Ty.int (c.L.map (fun x:Th=>x.2))] (fun _:Option Addr×Nat=>.int .i64 ((c.R.length+1:Nat):Int)) (fun _=>[])
  (fun s=>[RowR p 248 (tbl (TabC.mk s.1 s.2 (c.R++[⟨true,0⟩]) c.aL c.cL c.L c.gone (max c.peak (((c.R.length+1:Nat):Int)-c.gone)) c.many c.most)),GX.Own 252 tyRegion s.1 s.2 (TabC.mk s.1 s.2 (c.R++[⟨true,0⟩]) c.aL c.cL c.L c.gone (max c.peak (((c.R.length+1:Nat):Int)-c.gone)) c.many c.most).R,GX.Own 450 tyThing c.aL c.cL (c.L.map thg),Owns 3 Ty.int (c.L.map (fun x:Th=>x.2))]):=by
 obtain⟨aR,cR,R,aL,cL,L,gone,peak,many,most⟩:=c;dsimp only[tbl] at *;refine enter Tryz.func61 rfl Tryz.ntmps61 rfl fun b=>?_;have hlen:(R++[(⟨true,0⟩:Region)]).length=R.length+1:=by simp
 refine w_ ?_;intros;refine drawn1 (RowR p 248 _) (fun j=>!(List.contains [18] j)) [(0,true),(1,true),(2,true),(3,true),(4,true),(5,true),(6,true),(7,true),(8,true),(9,true),(10,true),(11,true),(12,true),(13,true),(14,true),(15,true),(16,true),(17,true),(18,false)] rfl (by kernel_rfl) (by kernel_rfl) sA ?_;intro wd F hW hR;refine u_ ?_;intros;refine unpin (RowR p 248 _) ?_;refine u_ ?_;intros;refine w_ ?_;intros;rename_i ao cap;rw[hlen];exact rt1 (ao,cap) rfl
theorem tnew_spec:Does Tryz.prog 59 [] [] [] (fun p:Nat=>.pointer (some ⟨p,0,none⟩)) (fun _=>[]) (fun p=>[RowR p 248 (tbl (TabC.mk none 0 [] none 0 [] 0 0 0 0)),GX.Own 252 tyRegion none 0 (TabC.mk none 0 [] none 0 [] 0 0 0 0).R,GX.Own 450 tyThing none 0 ((TabC.mk none 0 [] none 0 [] 0 0 0 0).L.map thg),Owns 3 Ty.int ((TabC.mk none 0 [] none 0 [] 0 0 0 0).L.map (fun x:Th=>x.2))]):=by
 refine enter Tryz.func59 rfl Tryz.ntmps59 rfl fun b=>?_;refine w_ ?_;intros;rename_i p;refine ownNil 252 tyRegion ?_;refine ownNil 450 tyThing ?_;refine osN 3 Ty.int 0 ?_;exact rt1 p rfl
theorem remove_no (p:Nat)(c:TabC)(r:Int)(h:has c.R r=false):Does Tryz.prog 149 [.pointer (some ⟨p,0,none⟩),.int .i64 r] [] [RowR p 248 (tbl c),GX.Own 252 tyRegion c.aR c.cR c.R,GX.Own 450 tyThing c.aL c.cL (c.L.map thg),Owns 3 Ty.int (c.L.map (fun x:Th=>x.2))] (fun _:Unit=>.bool false) (fun _=>[]) (fun _=>[RowR p 248 (tbl c),GX.Own 252 tyRegion c.aR c.cR c.R,GX.Own 450 tyThing c.aL c.cL (c.L.map thg),Owns 3 Ty.int (c.L.map (fun x:Th=>x.2))]):=by
 refine enter Tryz.func149 rfl Tryz.ntmps149 rfl fun b=>?_;refine w_ ?_;intros;refine GX.o (cl (has_spec p c r) fun _=>?_);rw[h];refine w_ ?_;intros;exact rt1 () rfl
theorem remove_yes (p:Nat)(c:TabC)(k:Nat)(x:Region)(hk:c.R[k]?=some x)(hx:x.live=true)(hg:0<=c.gone/\c.gone<=1000000000)(hm:0<=c.many/\c.many<=1000000000)(hm2:0<=x.many/\x.many<=1000000000)(hkl:k<=1000000000):
  Does Tryz.prog 149 [.pointer (some ⟨p,0,none⟩),.int .i64 ((k:Int)+1)] [] [RowR p 248 (tbl c),GX.Own 252 tyRegion c.aR c.cR c.R,GX.Own 450 tyThing c.aL c.cL (c.L.map thg),Owns 3 Ty.int (c.L.map (fun x:Th=>x.2))] (fun _:Unit=>.bool true) (fun _=>[]) (fun _=>[RowR p 248 (tbl (TabC.mk c.aR c.cR (c.R.set k ⟨false,x.many⟩) c.aL c.cL c.L (c.gone+1) c.peak (c.many-x.many) c.most)),GX.Own 252 tyRegion c.aR c.cR (TabC.mk c.aR c.cR (c.R.set k ⟨false,x.many⟩) c.aL c.cL c.L (c.gone+1) c.peak (c.many-x.many) c.most).R,GX.Own 450 tyThing c.aL c.cL (c.L.map thg),Owns 3 Ty.int (c.L.map (fun x:Th=>x.2))]):=by
 have hh:=has_in hk;rw[hx] at hh;refine enter Tryz.func149 rfl Tryz.ntmps149 rfl fun b=>?_;refine w_ ?_;intros;refine GX.o (cl (has_spec p c _) fun _=>?_);rw[hh];obtain⟨aR,cR,R,aL,cL,L,gone,peak,many,most⟩:=c;dsimp only[tbl] at *;refine GX.opn aR fun _ _ ha=>?_;obtain⟨rfl,_⟩|⟨q,rfl⟩:=ha
 ·simp at hk
 refine w_ ?_;intros;have hxm:({ live:=false,many:=x.many}:Region).many=x.many:=rfl;have hkl2:k<R.length:=(List.getElem?_eq_some_iff.1 hk).1
 have hk2:(R.set k {x with live:=false })[k]?=some {x with live:=false}:=by
  rw[List.getElem?_set_self];exact (List.getElem?_eq_some_iff.1 hk).1
 refine drawn2 (RowR p 248 _) (GX.Own 252 tyRegion _ _ _) (fun j=>!(List.contains [16] j)) [(0,true),(1,true),(2,true),(3,true),(4,true),(5,true),(6,true),(7,true),(8,true),(9,true),(10,true),(11,true),(12,true),(13,true),(14,true),(15,true),(16,false)] rfl (by kernel_rfl) (by kernel_rfl) sA ?_;intro wd F hW hR;refine u_ ?_;intros;refine unpin (RowR p 248 _) ?_;refine unpin (GX.Own 252 tyRegion _ _ _) ?_;refine u_ ?_;intros;refine w_ ?_;intros;rw[List.length_set];exact rt1 () rfl
theorem count_spec (p:Nat)(c:TabC):Does Tryz.prog 67 [.pointer (some ⟨p,0,none⟩)] [] [RowR p 248 (tbl c),GX.Own 252 tyRegion c.aR c.cR c.R,GX.Own 450 tyThing c.aL c.cL (c.L.map thg),Owns 3 Ty.int (c.L.map (fun x:Th=>x.2))] (fun _:Unit=>.tuple #[.int .i64 (c.R.length:Int),.int .i64 c.gone,.int .i64 c.peak]) (fun _=>[]) (fun _=>[RowR p 248 (tbl c),GX.Own 252 tyRegion c.aR c.cR c.R,GX.Own 450 tyThing c.aL c.cL (c.L.map thg),Owns 3 Ty.int (c.L.map (fun x:Th=>x.2))]):=by
 refine enter Tryz.func67 rfl Tryz.ntmps67 rfl fun b=>?_;refine w_ ?_;intros;refine drawn1 (RowR p 248 _) (fun j=>!(List.contains [] j)) [(0,true),(1,true),(2,true),(3,true),(4,true),(5,true),(6,true),(7,true),(8,true),(9,true),(10,true),(11,true),(12,true),(13,true),(14,true),(15,true)] rfl (by kernel_rfl) (by kernel_rfl) sA ?_;intro wd F hW hR;refine u_ ?_;intros;refine unpin (RowR p 248 _) ?_;refine u_ ?_;intros;refine w_ ?_;intros;exact rt3 () rfl
theorem things_spec (p:Nat)(c:TabC):Does Tryz.prog 68 [.pointer (some ⟨p,0,none⟩)] [] [RowR p 248 (tbl c),GX.Own 252 tyRegion c.aR c.cR c.R,GX.Own 450 tyThing c.aL c.cL (c.L.map thg),Owns 3 Ty.int (c.L.map (fun x:Th=>x.2))] (fun _:Unit=>.tuple #[.int .i64 c.many,.int .i64 c.most]) (fun _=>[]) (fun _=>[RowR p 248 (tbl c),GX.Own 252 tyRegion c.aR c.cR c.R,GX.Own 450 tyThing c.aL c.cL (c.L.map thg),Owns 3 Ty.int (c.L.map (fun x:Th=>x.2))]):=by
 refine enter Tryz.func68 rfl Tryz.ntmps68 rfl fun b=>?_;refine w_ ?_;intros;refine drawn1 (RowR p 248 _) (fun j=>!(List.contains [] j)) [(0,true),(1,true),(2,true),(3,true),(4,true),(5,true),(6,true),(7,true),(8,true),(9,true)] rfl (by kernel_rfl) (by kernel_rfl) sA ?_;intro wd F hW hR;refine u_ ?_;intros;refine unpin (RowR p 248 _) ?_;refine u_ ?_;intros;refine w_ ?_;intros;exact rt2 () rfl
theorem add_no (p:Nat)(c:TabC)(r n:Int)(h:has c.R r=false):Does Tryz.prog 292 [.pointer (some ⟨p,0,none⟩),.int .i64 r,.int .i64 n] [] [RowR p 248 (tbl c),GX.Own 252 tyRegion c.aR c.cR c.R,GX.Own 450 tyThing c.aL c.cL (c.L.map thg),Owns 3 Ty.int (c.L.map (fun x:Th=>x.2))] (fun _:Unit=>.tuple #[.int .i64 0,.bool false]) (fun _=>[]) (fun _=>[RowR p 248 (tbl c),GX.Own 252 tyRegion c.aR c.cR c.R,GX.Own 450 tyThing c.aL c.cL (c.L.map thg),Owns 3 Ty.int (c.L.map (fun x:Th=>x.2))]):=by
 refine enter Tryz.func292 rfl Tryz.ntmps292 rfl fun b=>?_;refine w_ ?_;intros;refine GX.o (cl (has_spec p c r) fun _=>?_);rw[h];refine w_ ?_;intros;exact rt2 () rfl
def cells (n:Int):Nat:=(min (max n 0) 50).toNat
theorem add_yes (p:Nat)(c:TabC)(k:Nat)(x:Region)(n:Int)(hk:c.R[k]?=some x)(hx:x.live=true)(hm:0<=c.many/\c.many<=1000000000)(hm2:0<=x.many/\x.many<=1000000000)(hkl:k<=1000000000)(hl:c.L.length<=1000000000):
  Does Tryz.prog 292 [.pointer (some ⟨p,0,none⟩),.int .i64 ((k:Int)+1),.int .i64 n] [] [RowR p 248 (tbl c),GX.Own 252 tyRegion c.aR c.cR c.R,GX.Own 450 tyThing c.aL c.cL (c.L.map thg),Owns 3 Ty.int (c.L.map (fun x:Th=>x.2))] (fun _:Nat×Option Addr×Nat=>.tuple #[.int .i64 ((c.L.length+1:Nat):Int),.bool true]) (fun _=>[])
   (fun s=>[RowR p 248 (tbl (TabC.mk c.aR c.cR (c.R.set k ⟨x.live,x.many+1⟩) s.2.1 s.2.2 (c.L++[((k:Int)+1,some ⟨s.1,0,none⟩,cells n,List.replicate (cells n) 0)]) c.gone c.peak (c.many+1) (max c.most (c.many+1)))),GX.Own 252 tyRegion c.aR c.cR (TabC.mk c.aR c.cR (c.R.set k ⟨x.live,x.many+1⟩) s.2.1 s.2.2 (c.L++[((k:Int)+1,some ⟨s.1,0,none⟩,cells n,List.replicate (cells n) 0)]) c.gone c.peak (c.many+1) (max c.most (c.many+1))).R,GX.Own 450 tyThing s.2.1 s.2.2 ((TabC.mk c.aR c.cR (c.R.set k ⟨x.live,x.many+1⟩) s.2.1 s.2.2 (c.L++[((k:Int)+1,some ⟨s.1,0,none⟩,cells n,List.replicate (cells n) 0)]) c.gone c.peak (c.many+1) (max c.most (c.many+1))).L.map thg),Owns 3 Ty.int ((TabC.mk c.aR c.cR (c.R.set k ⟨x.live,x.many+1⟩) s.2.1 s.2.2 (c.L++[((k:Int)+1,some ⟨s.1,0,none⟩,cells n,List.replicate (cells n) 0)]) c.gone c.peak (c.many+1) (max c.most (c.many+1))).L.map (fun x:Th=>x.2))]):=by
 have hh:=has_in hk;rw[hx] at hh;refine enter Tryz.func292 rfl Tryz.ntmps292 rfl fun b=>?_;refine w_ ?_;intros;refine GX.o (cl (has_spec p c _) fun _=>?_);rw[hh];obtain⟨aR,cR,R,aL,cL,L,gone,peak,many,most⟩:=c;dsimp only[tbl] at *;obtain⟨m,hm'⟩:∃m,m=cells n:=⟨_,rfl⟩;have hmi:min (max n 0) 50=(m:Int):=by rw[hm'];unfold cells;omega
 have hm50:m<=50:=by omega
 have hlm:(L.map thg).length=L.length:=by simp
 rw[<- hm'];refine w_ ?_;intros;refine drawn1 (RowR p 248 _) (fun j=>!(List.contains [12,15] j)) [(0,true),(1,true),(2,true),(3,true),(4,true),(5,true),(6,true),(7,true),(8,true),(9,false),(10,true),(11,false),(12,false),(13,true),(14,true),(15,false)] rfl (by kernel_rfl) (by kernel_rfl) sA ?_;intro wd F hW hR;refine u_ ?_;intros;rw[hmi];refine u_ ?_;intros;refine unpin (RowR p 248 _) ?_;refine u_ ?_;intros;rename_i g _ aL2 cL2;have e1:L.map thg++[(⟨(k:Int)+1,some ⟨g,0,none⟩,m,m⟩:Thing)]=(L++[(((k:Int)+1,(some ⟨g,0,none⟩:Option Addr),m,List.replicate m (0:Int)):Th)]).map thg:=by simp[thg,hd]
 have e2:L.map (fun x:Th=>x.2)++[((some ⟨g,0,none⟩:Option Addr),m,List.replicate m (0:Int))]=(L++[(((k:Int)+1,(some ⟨g,0,none⟩:Option Addr),m,List.replicate m (0:Int)):Th)]).map (fun x:Th=>x.2):=by simp
 rw[e1];refine osA (t:=3) (e:=Ty.int) (ao:=some ⟨g,0,none⟩) ?_;rw[e2];obtain⟨L',hL'⟩:∃L',L'=(L++[(((k:Int)+1,(some ⟨g,0,none⟩:Option Addr),m,List.replicate m (0:Int)):Th)]):=⟨_,rfl⟩;have hL1:L'.length=L.length+1:=by rw[hL'];simp
 rw[<- hL',List.length_map,hL1];refine GX.opn aR fun _ _ ha=>?_;obtain⟨rfl,_⟩|⟨q,rfl⟩:=ha
 ·simp at hk
 refine w_ ?_;intros;refine drawn1 (RowR p 248 _) (fun j=>!(List.contains [12] j)) [(0,true),(1,true),(2,true),(3,true),(4,true),(5,true),(6,true),(7,true),(8,true),(9,true),(10,true),(11,true),(12,false)] rfl (by kernel_rfl) (by kernel_rfl) sA ?_;intro wd F hW hR;refine u_ ?_;intros;refine unpin (RowR p 248 _) ?_;refine u_ ?_;intros;refine w_ ?_;intros;exact rt2 (g,aL2,cL2) rfl (h2:=by dsimp only;rw[<- hL',hL1,List.length_set];exact sA)
theorem cells_null (p:Nat)(c:TabC)(ref:Int)(h:ref<1\/(c.L.length:Int)<ref):Does Tryz.prog 291 [.pointer (some ⟨p,0,none⟩),.int .i64 ref] [] [RowR p 248 (tbl c),GX.Own 252 tyRegion c.aR c.cR c.R,GX.Own 450 tyThing c.aL c.cL (c.L.map thg),Owns 3 Ty.int (c.L.map (fun x:Th=>x.2))] (fun _:Unit=>.tuple #[.slice none 0 0,.int .i64 1]) (fun _=>[]) (fun _=>[RowR p 248 (tbl c),GX.Own 252 tyRegion c.aR c.cR c.R,GX.Own 450 tyThing c.aL c.cL (c.L.map thg),Owns 3 Ty.int (c.L.map (fun x:Th=>x.2))]):=by
 refine enter Tryz.func291 rfl Tryz.ntmps291 rfl fun b=>?_;by_cases h1:ref<1
 ·refine w_ ?_;intros;exact rt2 () rfl
 ·refine w_ ?_;intros;exact rt2 () rfl
theorem cells_gone (p:Nat)(c:TabC)(k:Nat)(q:Th)(hk:c.L[k]?=some q)(h:has c.R q.1=false)(hl:c.L.length<=1000000000):Does Tryz.prog 291 [.pointer (some ⟨p,0,none⟩),.int .i64 ((k:Int)+1)] [] [RowR p 248 (tbl c),GX.Own 252 tyRegion c.aR c.cR c.R,GX.Own 450 tyThing c.aL c.cL (c.L.map thg),Owns 3 Ty.int (c.L.map (fun x:Th=>x.2))] (fun _:Unit=>.tuple #[.slice none 0 0,.int .i64 (-1)]) (fun _=>[]) (fun _=>[RowR p 248 (tbl c),GX.Own 252 tyRegion c.aR c.cR c.R,GX.Own 450 tyThing c.aL c.cL (c.L.map thg),Owns 3 Ty.int (c.L.map (fun x:Th=>x.2))]):=by
 have hkl:k<c.L.length:=(List.getElem?_eq_some_iff.1 hk).1;refine enter Tryz.func291 rfl Tryz.ntmps291 rfl fun b=>?_;obtain⟨aR,cR,R,aL,cL,L,gone,peak,many,most⟩:=c;dsimp only[tbl] at *;refine GX.opn aL fun _ _ ha=>?_;obtain⟨hn,_⟩|⟨g,rfl⟩:=ha
 ·have:L=[]:=by simpa using hn
  subst this;simp at hk
 have hk2:(L.map thg)[k]?=some (thg q):=by rw[List.getElem?_map,hk];rfl
 refine w_ ?_;intros;refine GX.o (cl (has_spec p ⟨aR,cR,R,some ⟨g,0,none⟩,cL,L,gone,peak,many,most⟩ _) fun _=>?_);rw[show (thg q).region=q.1 from rfl,h];refine w_ ?_;intros;exact rt2 () rfl
theorem cells_there (p:Nat)(c:TabC)(k:Nat)(q:Th)(hk:c.L[k]?=some q)(h:has c.R q.1=true)(hl:c.L.length<=1000000000):Does Tryz.prog 291 [.pointer (some ⟨p,0,none⟩),.int .i64 ((k:Int)+1)] [] [RowR p 248 (tbl c),GX.Own 252 tyRegion c.aR c.cR c.R,GX.Own 450 tyThing c.aL c.cL (c.L.map thg),Owns 3 Ty.int (c.L.map (fun x:Th=>x.2))] (fun _:Unit=>.tuple #[.slice q.2.1 q.2.2.2.length q.2.2.1,.int .i64 0]) (fun _=>[]) (fun _=>[RowR p 248 (tbl c),GX.Own 252 tyRegion c.aR c.cR c.R,GX.Own 450 tyThing c.aL c.cL (c.L.map thg),Owns 3 Ty.int (c.L.map (fun x:Th=>x.2))]):=by
 have hkl:k<c.L.length:=(List.getElem?_eq_some_iff.1 hk).1;refine enter Tryz.func291 rfl Tryz.ntmps291 rfl fun b=>?_;obtain⟨aR,cR,R,aL,cL,L,gone,peak,many,most⟩:=c;dsimp only[tbl] at *;refine GX.opn aL fun _ _ ha=>?_;obtain⟨hn,_⟩|⟨g,rfl⟩:=ha
 ·have:L=[]:=by simpa using hn
  subst this;simp at hk
 have hk2:(L.map thg)[k]?=some (thg q):=by rw[List.getElem?_map,hk];rfl
 refine w_ ?_;intros;refine GX.o (cl (has_spec p ⟨aR,cR,R,some ⟨g,0,none⟩,cL,L,gone,peak,many,most⟩ _) fun _=>?_);rw[show (thg q).region=q.1 from rfl,h];refine w_ ?_;intros;exact rt2 () rfl
def hasB (B:List Bool)(r:Int):Bool:=decide (1<=r)&&(B[(r-1).toNat]?).getD false
theorem has_B (R:List Region)(r:Int):has R r=hasB (R.map (·.live)) r:=by
 unfold has hasB;rw[List.getElem?_map];cases R[(r-1).toNat]?<;>rfl
abbrev Cell:=Int×List Int
def row (q:Th):Cell:=(q.1,q.2.2.2)
def at_ (l:List Cell)(ref:Int):Option Cell:=if ref<1 then none else l[(ref-1).toNat]?
def lenP (B:List Bool)(l:List Cell)(ref:Int):Int×Int:=match at_ l ref with
 |none=>(0,1)
 |some q=>if hasB B q.1=true then ((q.2.length:Int),0) else (0,-1)
def loadP (B:List Bool)(l:List Cell)(ref i:Int):Int×Int:=match at_ l ref with
 |none=>(0,1)
 |some q=>if hasB B q.1=true then (if i<0 then (0,2) else match q.2[i.toNat]? with|none=>(0,2)|some v=>(v,0)) else (0,-1)
def putL (l:List Cell)(k i:Nat)(v:Int):List Cell:=l.modify k fun q=>(q.1,q.2.set i v)
def putP (B:List Bool)(l:List Cell)(ref i v:Int):Int×List Cell:=((loadP B l ref i).2,if (loadP B l ref i).2=0 then putL l (ref-1).toNat i.toNat v else l)
variable {l:List Cell} {ref:Int} {k:Nat} {q:Cell} {i:Int}
theorem at_none (h:ref<1\/(l.length:Int)<ref):at_ l ref=none:=by
 unfold at_;split
 ·rfl
 ·rw[List.getElem?_eq_none];omega
theorem at_some (h:l[k]?=some q):at_ l ((k:Int)+1)=some q:=by
 unfold at_;rw[if_neg (by omega),show ((k:Int)+1-1).toNat=k by omega,h]
theorem ref_cases (L:List Th)(ref:Int):(ref<1\/(L.length:Int)<ref)\/∃(k:Nat) (q:Th),ref=(k:Int)+1/\L[k]?=some q:=by
 by_cases h:ref<1\/(L.length:Int)<ref
 ·exact .inl h
 ·exact .inr ⟨(ref-1).toNat,L[(ref-1).toNat]'(by omega),by omega,List.getElem?_eq_getElem (by omega)⟩
theorem len_spec (p:Nat)(c:TabC)(ref:Int)(hl:c.L.length<=1000000000):Does Tryz.prog 218 [.pointer (some ⟨p,0,none⟩),.int .i64 ref] [] [RowR p 248 (tbl c),GX.Own 252 tyRegion c.aR c.cR c.R,GX.Own 450 tyThing c.aL c.cL (c.L.map thg),Owns 3 Ty.int (c.L.map (fun x:Th=>x.2))]
  (fun _:Unit=>.tuple #[.int .i64 (lenP (c.R.map (·.live)) (c.L.map row) ref).1,.int .i64 (lenP (c.R.map (·.live)) (c.L.map row) ref).2]) (fun _=>[]) (fun _=>[RowR p 248 (tbl c),GX.Own 252 tyRegion c.aR c.cR c.R,GX.Own 450 tyThing c.aL c.cL (c.L.map thg),Owns 3 Ty.int (c.L.map (fun x:Th=>x.2))]):=by
 refine enter Tryz.func218 rfl Tryz.ntmps218 rfl fun b=>?_
 rcases ref_cases c.L ref with h|⟨k,q,rfl,hq⟩
 ·have hp:lenP (c.R.map (·.live)) (c.L.map row) ref=(0,1):=by unfold lenP;rw[at_none (by simpa using h)]
  rw[hp];refine w_ ?_;intros;refine GX.o (cl (cells_null p c ref h) fun _=>?_);refine w_ ?_;intros;exact rt2 () rfl
 ·have hq2:(c.L.map row)[k]?=some (row q):=by rw[List.getElem?_map,hq];rfl
  cases hh:has c.R q.1 with
  |false=>
   have hp:lenP (c.R.map (·.live)) (c.L.map row) ((k:Int)+1)=(0,-1):=by unfold lenP;rw[at_some hq2];simp[row,<-has_B,hh]
   rw[hp];refine w_ ?_;intros;refine GX.o (cl (cells_gone p c k q hq hh hl) fun _=>?_);refine w_ ?_;intros;exact rt2 () rfl
  |true=>
   have hp:lenP (c.R.map (·.live)) (c.L.map row) ((k:Int)+1)=((q.2.2.2.length:Int),0):=by unfold lenP;rw[at_some hq2];simp[row,<-has_B,hh]
   rw[hp];refine w_ ?_;intros;refine GX.o (cl (cells_there p c k q hq hh hl) fun _=>?_);refine w_ ?_;intros;exact rt2 () rfl
theorem tcell_null (p:Nat)(c:TabC)(ref i:Int)(h:ref<1\/(c.L.length:Int)<ref):Does Tryz.prog 290 [.pointer (some ⟨p,0,none⟩),.int .i64 ref,.int .i64 i] [] [RowR p 248 (tbl c),GX.Own 252 tyRegion c.aR c.cR c.R,GX.Own 450 tyThing c.aL c.cL (c.L.map thg),Owns 3 Ty.int (c.L.map (fun x:Th=>x.2))] (fun _:Unit=>.tuple #[.pointer none,.int .i64 1]) (fun _=>[]) (fun _=>[RowR p 248 (tbl c),GX.Own 252 tyRegion c.aR c.cR c.R,GX.Own 450 tyThing c.aL c.cL (c.L.map thg),Owns 3 Ty.int (c.L.map (fun x:Th=>x.2))]):=by
 refine enter Tryz.func290 rfl Tryz.ntmps290 rfl fun b=>?_;refine w_ ?_;intros;refine GX.o (cl (cells_null p c ref h) fun _=>?_);refine w_ ?_;intros;exact rt2 () rfl
theorem tcell_gone (p:Nat)(c:TabC)(k:Nat)(q:Th)(i:Int)(hk:c.L[k]?=some q)(h:has c.R q.1=false)(hl:c.L.length<=1000000000):Does Tryz.prog 290 [.pointer (some ⟨p,0,none⟩),.int .i64 ((k:Int)+1),.int .i64 i] [] [RowR p 248 (tbl c),GX.Own 252 tyRegion c.aR c.cR c.R,GX.Own 450 tyThing c.aL c.cL (c.L.map thg),Owns 3 Ty.int (c.L.map (fun x:Th=>x.2))] (fun _:Unit=>.tuple #[.pointer none,.int .i64 (-1)]) (fun _=>[]) (fun _=>[RowR p 248 (tbl c),GX.Own 252 tyRegion c.aR c.cR c.R,GX.Own 450 tyThing c.aL c.cL (c.L.map thg),Owns 3 Ty.int (c.L.map (fun x:Th=>x.2))]):=by
 refine enter Tryz.func290 rfl Tryz.ntmps290 rfl fun b=>?_;refine w_ ?_;intros;refine GX.o (cl (cells_gone p c k q hk h hl) fun _=>?_);refine w_ ?_;intros;exact rt2 () rfl
theorem tcell_out (p:Nat)(c:TabC)(k:Nat)(q:Th)(i:Int)(hk:c.L[k]?=some q)(h:has c.R q.1=true)(hl:c.L.length<=1000000000)(hi:i<0\/(q.2.2.2.length:Int)<=i):Does Tryz.prog 290 [.pointer (some ⟨p,0,none⟩),.int .i64 ((k:Int)+1),.int .i64 i] [] [RowR p 248 (tbl c),GX.Own 252 tyRegion c.aR c.cR c.R,GX.Own 450 tyThing c.aL c.cL (c.L.map thg),Owns 3 Ty.int (c.L.map (fun x:Th=>x.2))] (fun _:Unit=>.tuple #[.pointer none,.int .i64 2]) (fun _=>[]) (fun _=>[RowR p 248 (tbl c),GX.Own 252 tyRegion c.aR c.cR c.R,GX.Own 450 tyThing c.aL c.cL (c.L.map thg),Owns 3 Ty.int (c.L.map (fun x:Th=>x.2))]):=by
 refine enter Tryz.func290 rfl Tryz.ntmps290 rfl fun b=>?_;refine w_ ?_;intros;refine GX.o (cl (cells_there p c k q hk h hl) fun _=>?_);by_cases h1:i<0
 ·refine w_ ?_;intros;exact rt2 () rfl
 ·refine w_ ?_;intros;exact rt2 () rfl
theorem tcell_there (p:Nat)(c:TabC)(k:Nat)(r:Int)(g m:Nat)(l:List Int)(j:Nat)(hk:c.L[k]?=some (r,some ⟨g,0,none⟩,m,l))(h:has c.R r=true)(hl:c.L.length<=1000000000)(hj:j<l.length):Does Tryz.prog 290 [.pointer (some ⟨p,0,none⟩),.int .i64 ((k:Int)+1),.int .i64 (j:Int)] [] [RowR p 248 (tbl c),GX.Own 252 tyRegion c.aR c.cR c.R,GX.Own 450 tyThing c.aL c.cL (c.L.map thg),Owns 3 Ty.int (c.L.map (fun x:Th=>x.2))] (fun _:Unit=>.tuple #[.pointer (some ⟨g,j,none⟩),.int .i64 0]) (fun _=>[]) (fun _=>[RowR p 248 (tbl c),GX.Own 252 tyRegion c.aR c.cR c.R,GX.Own 450 tyThing c.aL c.cL (c.L.map thg),Owns 3 Ty.int (c.L.map (fun x:Th=>x.2))]):=by
 refine enter Tryz.func290 rfl Tryz.ntmps290 rfl fun b=>?_;refine w_ ?_;intros;refine GX.o (cl (cells_there p c k _ hk h hl) fun _=>?_);dsimp only;refine w_ ?_;intros;exact rt2 () rfl
structure RefC where
 aR:Option Addr
 cR:Nat
 B:List Bool
 aL:Option Addr
 cL:Nat
 L:List Th
 peak:Int
 most:Int
theorem hasB_neg {B:List Bool}{r:Int}(h:r<1):hasB B r=false:=by
 have:¬ 1<=r:=by omega
 simp[hasB,this]
theorem hasB_in {B:List Bool}{x:Bool}(h:B[k]?=some x):hasB B ((k:Int)+1)=x:=by
 have:((k:Int)+1-1).toNat=k:=by omega
 simp[hasB,this,h];omega
def liveN (B:List Bool):Nat:=B.countP id
def nowN (B:List Bool)(l:List Cell):Nat:=l.countP fun q=>hasB B q.1
theorem loadP_null {B:List Bool}(h:at_ l ref=none):loadP B l ref i=(0,1):=by unfold loadP;rw[h]
theorem loadP_gone {B:List Bool}(h:at_ l ref=some q)(hh:hasB B q.1=false):loadP B l ref i=(0,-1):=by unfold loadP;rw[h];simp[hh]
theorem loadP_out {B:List Bool}(h:at_ l ref=some q)(hh:hasB B q.1=true)(hi:i<0\/(q.2.length:Int)<=i):loadP B l ref i=(0,2):=by
 unfold loadP;rw[h];simp only[hh,if_true];split
 ·rfl
 ·rw[show q.2[i.toNat]?=none by rw[List.getElem?_eq_none];omega]
theorem loadP_in {B:List Bool}{j:Nat}{v:Int}(h:at_ l ref=some q)(hh:hasB B q.1=true)(hj:q.2[j]?=some v):loadP B l ref (j:Int)=(v,0):=by
 unfold loadP;rw[h];simp only[hh,if_true];rw[if_neg (by omega),Int.toNat_natCast,hj]
def putTb (L:List Th)(k j:Nat)(v:Int):List Th:=L.modify k fun q=>(q.1,q.2.1,q.2.2.1,q.2.2.2.set j v)
theorem putT_at {L:List Th}{q:Th}(h:L[k]?=some q)(j:Nat)(v:Int):putTb L k j v=L.set k (q.1,q.2.1,q.2.2.1,q.2.2.2.set j v):=by
 unfold putTb;apply List.ext_getElem?;intro i;rw[List.getElem?_modify,List.getElem?_set];by_cases e:k=i
 ·subst e;rw[h,if_pos rfl,if_pos (List.getElem?_eq_some_iff.1 h).1];simp
 ·simp[e]
theorem putT_thg (L:List Th)(k j:Nat)(v:Int):(putTb L k j v).map thg=L.map thg:=by
 apply List.ext_getElem?;intro i;simp only[putTb,List.getElem?_map,List.getElem?_modify]
 cases L[i]? with
 |none=>rfl
 |some q=>by_cases e:k=i<;>simp[e,thg,hd]
theorem putT_row (L:List Th)(k j:Nat)(v:Int):(putTb L k j v).map row=putL (L.map row) k j v:=by
 apply List.ext_getElem?;intro i;simp only[putTb,putL,List.getElem?_map,List.getElem?_modify]
 cases L[i]? with
 |none=>rfl
 |some q=>by_cases e:k=i<;>simp[e,row]
theorem putT_len (L:List Th)(k j:Nat)(v:Int):(putTb L k j v).length=L.length:=by unfold putTb;simp
def putTo (B:List Bool)(L:List Th)(ref i v:Int):List Th:=if (loadP B (L.map row) ref i).2=0 then putTb L (ref-1).toNat i.toNat v else L
theorem putTo_row (B:List Bool)(L:List Th)(ref i v:Int):(putTo B L ref i v).map row=(putP B (L.map row) ref i v).2:=by
 unfold putTo putP;split
 ·exact putT_row _ _ _ _
 ·rfl
theorem place_cases (B:List Bool)(L:List Th)(ref i:Int):(ref<1\/(L.length:Int)<ref)\/(∃(k:Nat) (q:Th),ref=(k:Int)+1/\L[k]?=some q/\hasB B q.1=false)\/
  (∃(k:Nat) (q:Th),ref=(k:Int)+1/\L[k]?=some q/\hasB B q.1=true/\(i<0\/(q.2.2.2.length:Int)<=i))\/(∃(k:Nat) (q:Th) (j:Nat) (v:Int),ref=(k:Int)+1/\L[k]?=some q/\hasB B q.1=true/\i=(j:Int)/\q.2.2.2[j]?=some v):=by
 rcases ref_cases L ref with h|⟨k,q,rfl,hq⟩
 ·exact .inl h
 right
 cases hh:hasB B q.1 with
 |false=>exact .inl ⟨k,q,rfl,hq,hh⟩
 |true=>
  right;by_cases hi:i<0\/(q.2.2.2.length:Int)<=i
  ·exact .inl ⟨k,q,rfl,hq,hh,hi⟩
  ·obtain⟨j,rfl⟩:=Int.eq_ofNat_of_zero_le (show 0<=i by omega);exact .inr ⟨k,q,j,_,rfl,hq,hh,rfl,List.getElem?_eq_getElem (by omega)⟩
theorem load_spec (p:Nat)(c:TabC)(ref i:Int)(hl:c.L.length<=1000000000):Does Tryz.prog 215 [.pointer (some ⟨p,0,none⟩),.int .i64 ref,.int .i64 i] [] [RowR p 248 (tbl c),GX.Own 252 tyRegion c.aR c.cR c.R,GX.Own 450 tyThing c.aL c.cL (c.L.map thg),Owns 3 Ty.int (c.L.map (fun x:Th=>x.2))]
  (fun _:Unit=>.tuple #[.int .i64 (loadP (c.R.map (·.live)) (c.L.map row) ref i).1,.int .i64 (loadP (c.R.map (·.live)) (c.L.map row) ref i).2]) (fun _=>[]) (fun _=>[RowR p 248 (tbl c),GX.Own 252 tyRegion c.aR c.cR c.R,GX.Own 450 tyThing c.aL c.cL (c.L.map thg),Owns 3 Ty.int (c.L.map (fun x:Th=>x.2))]):=by
 refine enter Tryz.func215 rfl Tryz.ntmps215 rfl fun b=>?_
 rcases place_cases (c.R.map (·.live)) c.L ref i with h|⟨k,q,rfl,hq,hh⟩|⟨k,q,rfl,hq,hh,hi⟩|⟨k,⟨r,ao,m,l⟩,j,v,rfl,hq,hh,rfl,hj⟩
 ·rw[loadP_null (at_none (by simpa using h))];refine w_ ?_;intros;refine GX.o (cl (tcell_null p c ref i h) fun _=>?_);refine w_ ?_;intros;exact rt2 () rfl
 ·rw[loadP_gone (at_some (by rw[List.getElem?_map,hq];rfl)) hh];refine w_ ?_;intros;refine GX.o (cl (tcell_gone p c k q i hq ((has_B _ _).trans hh) hl) fun _=>?_);refine w_ ?_;intros;exact rt2 () rfl
 ·rw[loadP_out (at_some (by rw[List.getElem?_map,hq];rfl)) hh hi];refine w_ ?_;intros;refine GX.o (cl (tcell_out p c k q i hq ((has_B _ _).trans hh) hl hi) fun _=>?_);refine w_ ?_;intros;exact rt2 () rfl
 ·rw[loadP_in (at_some (by rw[List.getElem?_map,hq];rfl)) hh hj];dsimp only at hh hj;have hq2:(c.L.map (fun x:Th=>x.2))[k]?=some (ao,m,l):=by rw[List.getElem?_map,hq];rfl
  have hjl:j<l.length:=(List.getElem?_eq_some_iff.1 hj).1;refine osO (t:=3) (e:=Ty.int) k (fun _ _ ha=>?_) hq2;obtain⟨hn,_⟩|⟨g,rfl⟩:=ha
  ·subst hn;simp at hj
  refine w_ ?_;intros;refine GX.o (cl (tcell_there p c k r g m l j hq ((has_B _ _).trans hh) hl hjl) fun _=>?_);refine osT (t:=3) (e:=Ty.int) k ?_ hq2;refine w_ ?_;intros;refine osP (t:=3) (e:=Ty.int) (ao:=some ⟨g,0,none⟩) k ?_ (by rw[List.getElem?_set_self];exact (List.getElem?_eq_some_iff.1 hq2).1);rw[set_back hq2];exact rt2 () rfl
theorem put_spec (p:Nat)(c:TabC)(ref i v:Int)(hl:c.L.length<=1000000000):Does Tryz.prog 217 [.pointer (some ⟨p,0,none⟩),.int .i64 ref,.int .i64 i,.int .i64 v] [] [RowR p 248 (tbl c),GX.Own 252 tyRegion c.aR c.cR c.R,GX.Own 450 tyThing c.aL c.cL (c.L.map thg),Owns 3 Ty.int (c.L.map (fun x:Th=>x.2))]
  (fun _:Unit=>.int .i64 (loadP (c.R.map (·.live)) (c.L.map row) ref i).2) (fun _=>[]) (fun _=>[RowR p 248 (tbl (TabC.mk c.aR c.cR c.R c.aL c.cL (putTo (c.R.map (·.live)) c.L ref i v) c.gone c.peak c.many c.most)),GX.Own 252 tyRegion c.aR c.cR c.R,GX.Own 450 tyThing c.aL c.cL ((putTo (c.R.map (·.live)) c.L ref i v).map thg),Owns 3 Ty.int ((putTo (c.R.map (·.live)) c.L ref i v).map (fun x:Th=>x.2))]):=by
 refine enter Tryz.func217 rfl Tryz.ntmps217 rfl fun b=>?_
 rcases place_cases (c.R.map (·.live)) c.L ref i with h|⟨k,q,rfl,hq,hh⟩|⟨k,q,rfl,hq,hh,hi⟩|⟨k,⟨r,ao,m,l⟩,j,v0,rfl,hq,hh,rfl,hj⟩
 ·have e:=loadP_null (B:=c.R.map (·.live)) (i:=i) (at_none (l:=c.L.map row) (ref:=ref) (by simpa using h));rw[show putTo (c.R.map (·.live)) c.L ref i v=c.L by unfold putTo;rw[e];rfl,e];refine w_ ?_;intros;refine GX.o (cl (tcell_null p c ref i h) fun _=>?_);refine w_ ?_;intros;exact rt1 () rfl
 ·have e:=loadP_gone (B:=c.R.map (·.live)) (i:=i) (at_some (l:=c.L.map row) (k:=k) (q:=row q) (by rw[List.getElem?_map,hq];rfl)) hh;rw[show putTo (c.R.map (·.live)) c.L ((k:Int)+1) i v=c.L by unfold putTo;rw[e];rfl,e];refine w_ ?_;intros;refine GX.o (cl (tcell_gone p c k q i hq ((has_B _ _).trans hh) hl) fun _=>?_);refine w_ ?_;intros;exact rt1 () rfl
 ·have e:=loadP_out (B:=c.R.map (·.live)) (i:=i) (at_some (l:=c.L.map row) (k:=k) (q:=row q) (by rw[List.getElem?_map,hq];rfl)) hh hi;rw[show putTo (c.R.map (·.live)) c.L ((k:Int)+1) i v=c.L by unfold putTo;rw[e];rfl,e];refine w_ ?_;intros;refine GX.o (cl (tcell_out p c k q i hq ((has_B _ _).trans hh) hl hi) fun _=>?_);refine w_ ?_;intros;exact rt1 () rfl
 ·have e:=loadP_in (B:=c.R.map (·.live)) (at_some (l:=c.L.map row) (k:=k) (q:=row (r,ao,m,l)) (by rw[List.getElem?_map,hq];rfl)) hh hj;have e2:putTo (c.R.map (·.live)) c.L ((k:Int)+1) (j:Int) v=putTb c.L k j v:=by unfold putTo;rw[e,if_pos rfl,show ((k:Int)+1-1).toNat=k by omega,Int.toNat_natCast]
  rw[e2,e];dsimp only at hh hj;have hq2:(c.L.map (fun x:Th=>x.2))[k]?=some (ao,m,l):=by rw[List.getElem?_map,hq];rfl
  have hjl:j<l.length:=(List.getElem?_eq_some_iff.1 hj).1;refine osO (t:=3) (e:=Ty.int) k (fun _ _ ha=>?_) hq2;obtain⟨hn,_⟩|⟨g,rfl⟩:=ha
  ·subst hn;simp at hj
  refine w_ ?_;intros;refine GX.o (cl (tcell_there p c k r g m l j hq ((has_B _ _).trans hh) hl hjl) fun _=>?_);refine osT (t:=3) (e:=Ty.int) k ?_ hq2;refine w_ ?_;intros;refine osP (t:=3) (e:=Ty.int) (ao:=some ⟨g,0,none⟩) k ?_ (by rw[List.getElem?_set_self];exact (List.getElem?_eq_some_iff.1 hq2).1);have e3:((c.L.map (fun x:Th=>x.2)).set k (none,0,[])).set k (some ⟨g,0,none⟩,m,l.set j v)=(putTb c.L k j v).map (fun x:Th=>x.2):=by
   rw[List.set_set,putT_at hq,List.map_set]
  rw[e3];exact rt1 () rfl (h2:=by (try dsimp only[tbl]);rw[putT_thg,putT_len];exact sA)
end Go.Proofs.YtojfbbggnkijeaaGreatDoor
namespace Go.Proofs.YtojfbbggnkijeaaGreatDoor
open Go.Api
variable {k:Nat} {l:List Cell} {c:TabC} {d:RefC} {x:Region}
theorem hasB_app {B:List Bool}{b:Bool}{r:Int}(h:r<=B.length):hasB (B++[b]) r=hasB B r:=by
 unfold hasB;by_cases h1:1<=r
 ·rw[List.getElem?_append_left (by omega)]
 ·simp[h1]
theorem hasB_set {B:List Bool}{r:Int}(h:r≠(k:Int)+1):hasB (B.set k false) r=hasB B r:=by
 unfold hasB;by_cases h1:1<=r
 ·rw[List.getElem?_set_ne (by omega)]
 ·simp[h1]
theorem hasB_set_same {B:List Bool}(h:k<B.length):hasB (B.set k false) ((k:Int)+1)=false:=by
 unfold hasB;rw[show ((k:Int)+1-1).toNat=k by omega,List.getElem?_set_self h];simp
theorem liveN_app (B:List Bool):liveN (B++[true])=liveN B+1:=by simp[liveN]
theorem liveN_set:∀{B:List Bool} {k:Nat},B[k]?=some true->liveN (B.set k false)+1=liveN B
 |[],_,h=>by simp at h
 |b::B,0,h=>by simp at h;subst h;simp[liveN]
 |b::B,k+1,h=>by
  have ih:=liveN_set (B:=B) (k:=k) (by simpa using h);unfold liveN at ih ⊢;rw[List.set_cons_succ,List.countP_cons,List.countP_cons];omega
def ofN (l:List Cell)(k:Nat):Nat:=l.countP fun q=>decide (q.1=(k:Int)+1)
theorem nowN_app {B:List Bool}{b:Bool}:∀{l:List Cell},(∀q∈l,q.1<=(B.length:Int))->nowN (B++[b]) l=nowN B l
 |[],_=>rfl
 |q::l,h=>by
  have ih:=nowN_app (B:=B) (b:=b) (l:=l) (fun r hr=>h r (by simp[hr]));unfold nowN at ih ⊢;rw[List.countP_cons,List.countP_cons,ih,hasB_app (h q (by simp))]
theorem nowN_set {B:List Bool}{k:Nat}(hk:B[k]?=some true):∀(l:List Cell),nowN (B.set k false) l+ofN l k=nowN B l
 |[]=>rfl
 |q::l=>by
  have ih:=nowN_set hk l;have hl:=(List.getElem?_eq_some_iff.1 hk).1;unfold nowN ofN at ih ⊢;rw[List.countP_cons,List.countP_cons,List.countP_cons];by_cases e:q.1=(k:Int)+1
  ·rw[e,hasB_set_same hl,hasB_in hk];simp;omega
  ·rw[hasB_set e];simp[e];omega
theorem nowN_snoc (B:List Bool)(l:List Cell)(q:Cell)(h:hasB B q.1=true):nowN B (l++[q])=nowN B l+1:=by simp[nowN,h]
theorem ofN_snoc (l:List Cell)(q:Cell)(k:Nat):ofN (l++[q]) k=ofN l k+if q.1=(k:Int)+1 then 1 else 0:=by simp[ofN,List.countP_append,List.countP_cons]
theorem ofN_none (h:∀q∈l,q.1<=(k:Int)):ofN l k=0:=by
 unfold ofN;rw[List.countP_eq_zero];intro q hq;have:=h q hq;simp;omega
theorem countP_fst {p:Int->Bool}{m:List Cell}(h:l.map (·.1)=m.map (·.1)):l.countP (fun q=>p q.1)=m.countP (fun q=>p q.1):=by
 have e:∀l:List Cell,l.countP (fun q=>p q.1)=(l.map (·.1)).countP p:=fun l=>by rw[List.countP_map];rfl
 rw[e,e,h]
theorem putL_fst (l:List Cell)(k i:Nat)(v:Int):(putL l k i v).map (·.1)=l.map (·.1):=by
 apply List.ext_getElem?;intro j;simp only[putL,List.getElem?_map,List.getElem?_modify]
 cases l[j]? with
 |none=>rfl
 |some q=>by_cases e:k=j<;>simp[e]
theorem putP_fst (B:List Bool)(l:List Cell)(ref i v:Int):(putP B l ref i v).2.map (·.1)=l.map (·.1):=by
 unfold putP;dsimp only;split
 ·exact putL_fst _ _ _ _
 ·rfl
structure Inv (c:TabC)(d:RefC):Prop where
 B:c.R.map (·.live)=d.B
 L:c.L.map row=d.L.map row
 gone:c.gone=(d.B.length:Int)-liveN d.B
 peak:c.peak=d.peak
 many:c.many=nowN d.B (d.L.map row)
 most:c.most=d.most
 each:∀(k:Nat) x,c.R[k]?=some x->x.many=(ofN (d.L.map row) k:Int)
 reg:∀q∈d.L.map row,q.1<=(d.B.length:Int)
theorem Inv.len (h:Inv c d):c.R.length=d.B.length/\c.L.length=d.L.length:=by
 have h1:=congrArg List.length h.B;have h2:=congrArg List.length h.L;simp at h1 h2;exact⟨h1,h2⟩
theorem Inv.bounds (h:Inv c d):liveN d.B<=d.B.length/\nowN d.B (d.L.map row)<=d.L.length/\∀k,ofN (d.L.map row) k<=d.L.length:=by
 refine⟨List.countP_le_length,?_,fun k=>?_⟩
 ·have:nowN d.B (d.L.map row)<=(d.L.map row).length:=List.countP_le_length;simpa using this
 ·have:ofN (d.L.map row) k<=(d.L.map row).length:=List.countP_le_length;simpa using this
theorem Inv.start:Inv ⟨none,0,[],none,0,[],0,0,0,0⟩ ⟨none,0,[],none,0,[],0,0⟩:=
 ⟨rfl,rfl,rfl,rfl,rfl,rfl,by simp,by simp⟩
theorem Inv.make (h:Inv c d)(s s':Option Addr×Nat):Inv (TabC.mk s.1 s.2 (c.R++[⟨true,0⟩]) c.aL c.cL c.L c.gone (max c.peak (((c.R.length+1:Nat):Int)-c.gone)) c.many c.most) (RefC.mk s'.1 s'.2 (d.B++[true]) d.aL d.cL d.L (max d.peak (liveN (d.B++[true]):Int)) d.most):=by
 have hl:=h.len;have hlv:=liveN_app d.B;refine⟨by simp[h.B],h.L,?_,?_,?_,h.most,fun k x hx=>?_,fun q hq=>?_⟩
 ·show c.gone=(((d.B++[true]).length:Nat):Int)-(liveN (d.B++[true]):Nat);rw[h.gone,hlv];simp;omega
 ·show max c.peak _=max d.peak _;rw[h.peak,h.gone,hlv,hl.1];omega
 ·show c.many=_;rw[h.many];show _=((nowN (d.B++[true]) (d.L.map row):Nat):Int);rw[nowN_app h.reg]
 ·have hx:(c.R++[⟨true,0⟩])[k]?=some x:=hx;show x.many=(ofN (d.L.map row) k:Int);by_cases hk:k<c.R.length
  ·rw[List.getElem?_append_left hk] at hx;exact h.each k x hx
  ·rw[List.getElem?_append_right (by omega)] at hx
   rcases hq:k-c.R.length with _|q
   ·rw[hq] at hx;simp at hx;subst hx;have:k=d.B.length:=by omega
    subst this;rw[ofN_none h.reg];rfl
   ·rw[hq] at hx;simp at hx
 ·have:=h.reg q hq;show q.1<=(((d.B++[true]).length:Nat):Int);simp;omega
theorem Inv.remove (h:Inv c d)(hk:c.R[k]?=some x)(hx:x.live=true):Inv (TabC.mk c.aR c.cR (c.R.set k ⟨false,x.many⟩) c.aL c.cL c.L (c.gone+1) c.peak (c.many-x.many) c.most) (RefC.mk d.aR d.cR (d.B.set k false) d.aL d.cL d.L d.peak d.most):=by
 have hB:d.B[k]?=some true:=by rw[<- h.B,List.getElem?_map,hk];simp[hx]
 have h1:=liveN_set hB;have h2:=nowN_set hB (d.L.map row);refine⟨by rw[List.map_set,h.B],h.L,?_,h.peak,?_,h.most,fun j y hy=>?_,fun q hq=>?_⟩
 ·show c.gone+1=(((d.B.set k false).length:Nat):Int)-(liveN (d.B.set k false):Nat);rw[h.gone,List.length_set];omega
 ·show c.many-x.many=((nowN (d.B.set k false) (d.L.map row):Nat):Int);rw[h.many,h.each k x hk];omega
 ·have hy:(c.R.set k ⟨false,x.many⟩)[j]?=some y:=hy;show y.many=(ofN (d.L.map row) j:Int);by_cases e:k=j
  ·subst e;rw[List.getElem?_set_self (List.getElem?_eq_some_iff.1 hk).1] at hy;cases hy;exact h.each k x hk
  ·rw[List.getElem?_set_ne e] at hy;exact h.each j y hy
 ·show q.1<=(((d.B.set k false).length:Nat):Int);rw[List.length_set];exact h.reg q hq
theorem Inv.add (h:Inv c d){m:Nat}(hk:c.R[k]?=some x)(hx:x.live=true)(s s':Nat×Option Addr×Nat):Inv (TabC.mk c.aR c.cR (c.R.set k ⟨x.live,x.many+1⟩) s.2.1 s.2.2 (c.L++[((k:Int)+1,some ⟨s.1,0,none⟩,m,List.replicate m 0)]) c.gone c.peak (c.many+1) (max c.most (c.many+1)))
  (RefC.mk d.aR d.cR d.B s'.2.1 s'.2.2 (d.L++[((k:Int)+1,some ⟨s'.1,0,none⟩,m,List.replicate m 0)]) d.peak (max d.most (nowN d.B (d.L.map row++[((k:Int)+1,List.replicate m 0)]):Int))):=by
 have hB:d.B[k]?=some true:=by rw[<- h.B,List.getElem?_map,hk];simp[hx]
 have hkl:=(List.getElem?_eq_some_iff.1 hB).1;have hn:=nowN_snoc d.B (d.L.map row) ((k:Int)+1,List.replicate m 0) (hasB_in hB);have hr:(d.L++[((k:Int)+1,(some ⟨s'.1,0,none⟩:Option Go.Addr),m,List.replicate m (0:Int))]).map row=d.L.map row++[((k:Int)+1,List.replicate m 0)]:=by simp[row]
 refine⟨?_,?_,h.gone,h.peak,?_,?_,fun j y hy=>?_,fun q hq=>?_⟩
 ·show (c.R.set k ⟨x.live,x.many+1⟩).map (·.live)=d.B;rw[List.map_set,h.B,hx];apply List.ext_getElem?;intro j;rw[List.getElem?_set];split
  ·rename_i e;subst e;have:=List.getElem?_eq_some_iff.1 hB;obtain⟨_,h3⟩:=this;simp[hkl,h3]
  ·rfl
 ·show (c.L++_).map row=(d.L++_).map row;rw[hr,List.map_append,h.L];simp[row]
 ·show c.many+1=((nowN d.B ((d.L++_).map row):Nat):Int);rw[hr,hn,h.many];omega
 ·show max c.most (c.many+1)=max d.most _;rw[h.most,h.many,hn];omega
 ·have hy:(c.R.set k ⟨x.live,x.many+1⟩)[j]?=some y:=hy;show y.many=((ofN ((d.L++_).map row) j:Nat):Int);rw[hr,ofN_snoc];by_cases e:k=j
  ·subst e;rw[List.getElem?_set_self (List.getElem?_eq_some_iff.1 hk).1] at hy;cases hy;simp[h.each k x hk]
  ·rw[List.getElem?_set_ne e] at hy;rw[h.each j y hy,if_neg (by show ¬ ((k:Int)+1=(j:Int)+1);omega)];simp
 ·have hq:q∈(d.L++_).map row:=hq;rw[hr,List.mem_append] at hq
  rcases hq with hq|hq
  ·exact h.reg q hq
  ·simp at hq;subst hq;show (k:Int)+1<=(d.B.length:Int);omega
theorem Inv.put (h:Inv c d)(ref i v:Int):Inv (TabC.mk c.aR c.cR c.R c.aL c.cL (putTo (c.R.map (·.live)) c.L ref i v) c.gone c.peak c.many c.most) (RefC.mk d.aR d.cR d.B d.aL d.cL (putTo d.B d.L ref i v) d.peak d.most):=by
 have e1:=putTo_row d.B d.L ref i v;have e2:=putP_fst d.B (d.L.map row) ref i v;rw[<- e1] at e2;refine⟨h.B,?_,h.gone,h.peak,?_,h.most,fun k x hx=>?_,fun q hq=>?_⟩
 ·show (putTo (c.R.map (·.live)) c.L ref i v).map row=(putTo d.B d.L ref i v).map row;rw[putTo_row,putTo_row,h.B,h.L]
 ·show c.many=((nowN d.B ((putTo d.B d.L ref i v).map row):Nat):Int);rw[h.many];unfold nowN;rw[countP_fst (p:=hasB d.B) e2]
 ·show x.many=((ofN ((putTo d.B d.L ref i v).map row) k:Nat):Int);rw[h.each k x hx];unfold ofN;rw[countP_fst (p:=fun r=>decide (r=(k:Int)+1)) e2]
 ·have hq:q∈(putTo d.B d.L ref i v).map row:=hq;have:q.1∈((putTo d.B d.L ref i v).map row).map (·.1):=List.mem_map_of_mem hq;rw[e2] at this;obtain⟨q',hq',e⟩:=List.mem_map.1 this;rw[<- e];exact h.reg q' hq'
end Go.Proofs.YtojfbbggnkijeaaGreatDoor
namespace Go.Proofs.YtojfbbggnkijeaaGreatDoor
open Go.Api Go.RtM
structure Tb where
 B:List Bool
 L:List Cell
 peak:Int
 most:Int
def Tb.zero:Tb:=⟨[],[],0,0⟩
def Tb.make (T:Tb):Tb:=⟨T.B++[true],T.L,max T.peak (liveN (T.B++[true]):Int),T.most⟩
def Tb.rem (T:Tb)(r:Int):Tb:=if hasB T.B r=true then ⟨T.B.set (r-1).toNat false,T.L,T.peak,T.most⟩ else T
def Tb.add (T:Tb)(r n:Int):Tb:=if hasB T.B r=true then ⟨T.B,T.L++[(r,List.replicate (cells n) 0)],T.peak,max T.most (nowN T.B (T.L++[(r,List.replicate (cells n) 0)]):Int)⟩ else T
def Tb.put (T:Tb)(ref i v:Int):Tb:=⟨T.B,(putP T.B T.L ref i v).2,T.peak,T.most⟩
structure Fr where
 u:Int
 pc:Int
 vars:List Int
 into:Int
 regs:Int->Int
structure Ms where
 tb:Tb
 inp:List Int
 gl:List Int
 fs:List Fr
 en:Int
 code:Int
 out:List Int
 steps:Int
 slack:Int
def w64 (x:Int):Int:=Go.IntKind.i64.wrap x
def flg (p:Prop)[Decidable p]:Int:=if p then 1 else 0
def bin (op a b:Int):Int×Int:=
 if op=14 then (w64 (a+b),0) else if op=15 then (w64 (a-b),0) else if op=16 then (w64 (a*b),0)
 else if op=17 then (if b=0 then (0,3) else (w64 (Int.tdiv a b),0)) else if op=18 then (if b=0 then (0,3) else (Int.tmod a b,0))
 else if op=19 then (flg (a<b),0) else if op=20 then (flg (a<=b),0) else if op=21 then (flg (a=b),0) else if op=22 then (flg (a≠b),0)
 else if op=23 then (flg (a≠0/\b≠0),0) else if op=24 then (flg (a≠0\/b≠0),0) else (0,0)
def unN (op a:Int):Int:=if op=12 then w64 (-a) else if op=13 then flg (a=0) else 0
def lkv (l:List Int)(n:Int):Int:=(gt l n).getD 0
def setv (l:List Int)(n y:Int):List Int:=l.set n.toNat y
def Vok (f:Fr)(n:Int):Prop:=∃k:Nat,n=k/\k<f.vars.length
theorem setv_len (l:List Int)(n y:Int):(setv l n y).length=l.length:=List.length_set
def updI (m:Int->Int)(c r:Int):Int->Int:=fun x=>if x=c then r else m x
def Ms.ends (M:Ms)(e c:Int):Ms:={M with en:=e,code:=c}
def Ms.trap (M:Ms)(c:Int):Ms:=if c=0 then M else if c=-1 then M.ends 4 0 else M.ends 2 c
def Ms.top (M:Ms)(f:Fr):Ms:={M with fs:=f::M.fs.tail}
def Ms.var (M:Ms)(f:Fr)(n y:Int):Ms:=M.top {f with vars:=setv f.vars n y}
def Ms.got (M:Ms)(f:Fr)(n:Int)(r:Int×Int):Ms:=if r.2=0 then M.var f n r.1 else M.trap r.2
def reg (G:List Int)(f:Fr)(c:Int):Int:=if c∈G then 1 else f.regs c
def Ms.lies (M:Ms)(G:List Int)(f:Fr)(a c n:Int):Ms:=if hasB M.tb.B (reg G f c)=true then {M.var f a ((M.tb.L.length+1:Nat):Int) with tb:=M.tb.add (reg G f c) n} else M.ends 4 0
def crT:List Int->Tb->(Int->Int)->Tb×(Int->Int)×Bool
 |[],T,m=>(T,m,true)
 |c::l,T,m=>if m c≠0 then (T,m,false) else crT l T.make (updI m c ((T.B.length+1:Nat):Int))
def rmT:List Int->Tb->(Int->Int)->Tb×(Int->Int)×Bool
 |[],T,m=>(T,m,true)
 |c::l,T,m=>if m c=0 then (T,m,false) else rmT l (T.rem (m c)) (updI m c 0)
def Ms.regs (M:Ms)(f:Fr)(r:Tb×(Int->Int)×Bool):Ms:=if r.2.2=true then {M.top {f with regs:=r.2.1} with tb:=r.1} else ({ M.top {f with regs:=r.2.1} with tb:=r.1}:Ms).ends 4 0
def takeR (G:List Int)(B:List Bool)(f:Fr):List Int->(Int->Int)->Option (Int->Int)
 |[],m=>some m
 |c::l,m=>if hasB B (reg G f c)=true then takeR G B f l (updI m c (reg G f c)) else none
def argsV (f:Fr)(i:Ins)(n:Nat):List Int:=i.args.map (lkv f.vars)++(List.replicate n (0:Int)).drop i.args.length
def Ms.call (M:Ms)(t:RTg)(G:List Int)(f:Fr)(i:Ins):Ms:=
 if 40<=M.fs.length then M.trap 6 else match gt t.units i.c with
 |none=>M
 |some g=>match takeR G M.tb.B f g.takes (fun _=>0) with
  |none=>M.ends 4 0
  |some m=>{M with fs:=⟨i.c,0,argsV f i g.vars.length,i.a,m⟩::M.fs}
def Ms.ret (M:Ms)(f:Fr)(i:Ins):Ms:=match M.fs.tail with
 |[]=>({ M with fs:=[]}:Ms).ends 1 0
 |h::r=>{M with fs:=(if 0<=f.into then {h with vars:=setv h.vars f.into (if 0<=i.a then lkv f.vars i.a else 0)} else h)::r}
def Ms.go (M:Ms)(t:RTg)(G:List Int)(f:Fr)(i:Ins):Ms:=
 if i.op=1 then M.var f i.a i.n
 else if i.op=2 then M.var f i.a 0
 else if i.op=3 then M.var f i.a (lkv f.vars i.b)
 else if i.op=4 then M.got f i.a (bin i.n (lkv f.vars i.b) (lkv f.vars i.c))
 else if i.op=5 then M.var f i.a (unN i.n (lkv f.vars i.b))
 else if i.op=6 then M.got f i.a (loadP M.tb.B M.tb.L (lkv f.vars i.b) i.c)
 else if i.op=7 then ({ M with tb:=M.tb.put (lkv f.vars i.a) i.c (lkv f.vars i.b)}:Ms).trap (loadP M.tb.B M.tb.L (lkv f.vars i.a) i.c).2
 else if i.op=8 then M.got f i.a (loadP M.tb.B M.tb.L (lkv f.vars i.b) (lkv f.vars i.c))
 else if i.op=9 then ({ M with tb:=M.tb.put (lkv f.vars i.a) (lkv f.vars i.b) (lkv f.vars i.c)}:Ms).trap (loadP M.tb.B M.tb.L (lkv f.vars i.a) (lkv f.vars i.b)).2
 else if i.op=10 then M.got f i.a (lenP M.tb.B M.tb.L (lkv f.vars i.b))
 else if i.op=11 then M.lies G f i.a i.n (match gt t.classes i.n with|some L=>(L.refs.length:Int)|none=>0)
 else if i.op=12 then (if lkv f.vars i.b<0\/50<lkv f.vars i.b then M.trap 4 else M.lies G f i.a i.n (lkv f.vars i.b))
 else if i.op=13 then M.call t G f i
 else if i.op=14 then (match M.inp with|[]=>M.trap 5|y::l=>{M.var f i.a y with inp:=l })
 else if i.op=15 then {M with out:=M.out++[lkv f.vars i.a]}
 else if i.op=16 then M.top {f with pc:=i.n}
 else if i.op=17 then M.top {f with pc:=if lkv f.vars i.a≠0 then i.n else i.c}
 else if i.op=18 then M.ret f i
 else if i.op=19 then M.var f i.a (lkv M.gl i.n)
 else if i.op=20 then {M with gl:=setv M.gl i.n (lkv f.vars i.a)}
 else if i.op=21 then M.regs f (crT i.args M.tb f.regs)
 else M.regs f (rmT i.args M.tb f.regs)
def ownsN (t:RTg)(f:Fr):Nat:=match gt t.units f.u with|some u=>u.owns.length|none=>0
def bound (t:RTg)(fs:List Fr):Int:=1+((fs.map (ownsN t)).sum:Nat)
def Ms.room (M:Ms)(t:RTg):Int:=bound t M.fs-(liveN M.tb.B:Int)
def Ms.less (M:Ms)(t:RTg):Ms:=if M.en=0 then {M with slack:=min M.slack (M.room t)} else M
def Ms.next (M:Ms)(t:RTg):Option (Fr×Ins):=match M.fs with
 |[]=>none
 |f::_=>match gt t.units f.u with
  |none=>none
  |some u=>match gt u.ins f.pc with
   |none=>none
   |some i=>some (f,i)
def Ms.step (M:Ms)(t:RTg)(G:List Int):Ms:=match M.next t with
 |none=>M
 |some (f,i)=>(Ms.go ({ M with steps:=M.steps+1,fs:={f with pc:=f.pc+1}::M.fs.tail}:Ms) t G {f with pc:=f.pc+1} i).less t
def runM (t:RTg)(G:List Int):Nat->Ms->Ms
 |0,M=>if M.en=0 then M.ends 3 0 else M
 |k+1,M=>if M.en=0 then runM t G k (M.step t G) else M
def remAll (B:Tb):Nat->Tb
 |0=>B
 |k+1=>(remAll B k).rem ((k:Int)+1)
def Ms.clear (M:Ms):Ms:=if M.en=1 then {M with tb:=M.tb.rem 1} else if M.en=2 then {M with tb:=remAll M.tb M.tb.B.length} else M
def Ms.ran (M:Ms):Api.Ran:=⟨⟨M.en,M.code,M.out,M.steps⟩,M.tb.B.length,(M.tb.B.length:Int)-(liveN M.tb.B:Int),liveN M.tb.B,M.tb.peak,M.slack,M.tb.most⟩
def start (t:RTg)(inp:List Int):Ms:=⟨Tb.zero.make,inp,List.replicate t.globals.length 0,[⟨t.main,0,List.replicate (match gt t.units t.main with|some u=>u.vars.length|none=>0) 0,-1,fun _=>0⟩],0,0,[],0,0⟩
def begin_ (t:RTg)(inp:List Int):Ms:={start t inp with slack:=(start t inp).room t}
def ranP (t:RTg)(G inp:List Int)(fuel:Int):Api.Ran:=(runM t G (max fuel 0).toNat (begin_ t inp)).clear.ran
end Go.Proofs.YtojfbbggnkijeaaGreatDoor
namespace Go.Proofs.YtojfbbggnkijeaaGreatDoor
open Go.Api Go.RtM Go.RiseM
variable {u:Unt} {n b:Int} {t:RTg} {arr:Bool} {c:Int} {i:Ins}
theorem of_ne (h:of u n≠-3):∃k:Nat,n=k/\k<u.vars.length:=by
 unfold of at h
 cases hg:gt u.vars n with
 |none=>rw[hg] at h;exact absurd rfl h
 |some x=>obtain⟨k,h1,h2,_⟩:=gt_some hg;exact⟨k,h1,h2⟩
theorem into_l {a:Int}(h:Into a b):a≠-3:=by
 unfold Into at h;split at h<;>omega
theorem into_r {a:Int}(h:Into a b):b≠-3:=by
 unfold Into at h;split at h<;>omega
theorem cell_v (h:(cell t u n arr c).2.2=true):of u n≠-3:=by
 by_cases h1:of u n=-1
 ·omega
 ·cases h2:gt t.classes (of u n) with
  |none=>rw[cell_none h1 h2] at h;cases h
  |some L=>obtain⟨k,h3,_⟩:=gt_some h2;omega
theorem loads_v {a:Int}(h:Loads t u a b arr c):of u a≠-3/\of u b≠-3:=by
 obtain⟨h1,h2⟩:=h;refine⟨?_,cell_v h1⟩;split at h2
 ·exact h2
 ·exact into_l h2
theorem lays_v {a:Int}(h:Lays t u a arr c b):of u a≠-3/\of u b≠-3:=by
 obtain⟨h1,h2⟩:=h;refine⟨cell_v h1,?_⟩;split at h2
 ·exact h2
 ·exact into_r h2
theorem fresh_v (h:Fresh t u i arr):(∃L,gt t.classes i.n=some L)/\of u i.a≠-3:=by
 unfold Fresh at h
 cases h2:gt t.classes i.n with
 |none=>rw[h2] at h;exact h.elim
 |some L=>rw[h2] at h;obtain⟨k,h3,_⟩:=gt_some h2;exact⟨⟨L,rfl⟩,by have:=h.2;omega⟩
theorem call_v (h:CallOk t u i):∃g,gt t.units i.c=some g/\(i.args.length:Int)=g.params/\i.args.length<=g.vars.length/\(∀n∈i.args,of u n≠-3)/\(i.a=-1\/of u i.a≠-3)/\(i.a=-1\/Into (of u i.a) g.result):=by
 unfold CallOk at h
 cases h2:gt t.units i.c with
 |none=>rw[h2] at h;exact h.elim
 |some g=>
  rw[h2] at h;obtain⟨⟨h3,h4,h5⟩,h6⟩:=h;refine⟨g,rfl,h3,by omega,fun n hn=>?_,h6.imp id into_l,h6⟩;obtain⟨k,hk,hx⟩:=List.getElem_of_mem hn;have hk2:k<g.vars.length:=by omega
  exact into_r (h5 (n,g.vars[k]) (by
   rw[<- hx];have hz:k<(i.args.zip g.vars).length:=by rw[List.length_zip];omega
   have:=List.getElem_mem hz;rwa[List.getElem_zip] at this))
theorem ing_v {P:Int->Prop}(h:InG t n P):∃g,gt t.globals n=some g/\P g:=by
 unfold InG at h
 cases h2:gt t.globals n with
 |none=>rw[h2] at h;exact h.elim
 |some g=>rw[h2] at h;exact⟨g,rfl,h⟩
theorem bare_op30 (h:Bare i):1<=i.op/\i.op<=22:=by
 unfold Bare names at h;by_cases h1:i.op=1\/i.op=11\/i.op=19\/i.op=20
 ·omega
 rw[if_neg h1] at h;by_cases h2:i.op=2\/i.op=14\/i.op=15\/i.op=18
 ·omega
 rw[if_neg h2] at h;by_cases h3:i.op=3\/i.op=10
 ·omega
 rw[if_neg h3] at h;by_cases h4:i.op=5\/i.op=12
 ·omega
 rw[if_neg h4] at h;by_cases h5:i.op=6\/i.op=7\/i.op=8\/i.op=9
 ·omega
 rw[if_neg h5] at h;by_cases h6:i.op=4
 ·omega
 rw[if_neg h6] at h;by_cases h7:i.op=13
 ·omega
 rw[if_neg h7] at h;by_cases h8:i.op=16
 ·omega
 rw[if_neg h8] at h;by_cases h9:i.op=17
 ·omega
 rw[if_neg h9] at h;by_cases h10:i.op=21\/i.op=22
 ·omega
 rw[if_neg h10] at h;exact h.elim
structure InsV (t:RTg)(u:Unt)(i:Ins):Prop where
 op:1<=i.op/\i.op<=22
 va:(1<=i.op/\i.op<=12\/i.op=14\/i.op=15\/i.op=17\/i.op=19\/i.op=20)->of u i.a≠-3
 vb:(3<=i.op/\i.op<=10\/i.op=12)->of u i.b≠-3
 vc:(i.op=4\/i.op=8\/i.op=9)->of u i.c≠-3
 cls:(i.op=11\/i.op=12)->∃L,gt t.classes i.n=some L
 call:i.op=13->CallOk t u i
 go:(i.op=16\/i.op=17)->RtM.Place u i.n
 els:i.op=17->RtM.Place u i.c
 ret:i.op=18->i.a=-1\/of u i.a≠-3
 glo:(i.op=19\/i.op=20)->∃g,gt t.globals i.n=some g
 own:(i.op=21\/i.op=22)->Rise i.args/\∀n∈i.args,n∈u.owns
 two:i.op=4->14<=i.n/\i.n<=24
 one:i.op=5->i.n=12\/i.n=13
theorem fit1 (hF:Fits t u i)(h:i.op=1\/i.op=14\/i.op=15):of u i.a=-2:=by
 unfold Fits at hF;rwa[if_pos h] at hF
theorem fit2 (hF:Fits t u i)(h:i.op=2):IsRef (of u i.a):=by
 unfold Fits at hF;rwa[if_neg (by omega),if_pos h] at hF
theorem fit3 (hF:Fits t u i)(h:i.op=3):Into (of u i.a) (of u i.b):=by
 unfold Fits at hF
 (repeat rewrite[if_neg (by omega)] at hF);rwa[if_pos h] at hF
theorem fit4 (hF:Fits t u i)(h:i.op=4):Two u i:=by
 unfold Fits at hF
 (repeat rewrite[if_neg (by omega)] at hF);rwa[if_pos h] at hF
theorem fit5 (hF:Fits t u i)(h:i.op=5):(i.n=12\/i.n=13)/\of u i.a=-2/\of u i.b=-2:=by
 unfold Fits at hF
 (repeat rewrite[if_neg (by omega)] at hF);rwa[if_pos h] at hF
theorem fit6 (hF:Fits t u i)(h:i.op=6):Loads t u i.a i.b false i.c:=by
 unfold Fits at hF
 (repeat rewrite[if_neg (by omega)] at hF);rwa[if_pos h] at hF
theorem fit7 (hF:Fits t u i)(h:i.op=7):Lays t u i.a false i.c i.b:=by
 unfold Fits at hF
 (repeat rewrite[if_neg (by omega)] at hF);rwa[if_pos h] at hF
theorem fit8 (hF:Fits t u i)(h:i.op=8):of u i.c=-2/\Loads t u i.a i.b true 0:=by
 unfold Fits at hF
 (repeat rewrite[if_neg (by omega)] at hF);rwa[if_pos h] at hF
theorem fit9 (hF:Fits t u i)(h:i.op=9):of u i.b=-2/\Lays t u i.a true 0 i.c:=by
 unfold Fits at hF
 (repeat rewrite[if_neg (by omega)] at hF);rwa[if_pos h] at hF
theorem fit10 (hF:Fits t u i)(h:i.op=10):(cell t u i.b true 0).2.2=true/\of u i.a=-2:=by
 unfold Fits at hF
 (repeat rewrite[if_neg (by omega)] at hF);rwa[if_pos h] at hF
theorem fit11 (hF:Fits t u i)(h:i.op=11):Fresh t u i false:=by
 unfold Fits at hF
 (repeat rewrite[if_neg (by omega)] at hF);rwa[if_pos h] at hF
theorem fit12 (hF:Fits t u i)(h:i.op=12):Fresh t u i true/\of u i.b=-2:=by
 unfold Fits at hF
 (repeat rewrite[if_neg (by omega)] at hF);rwa[if_pos h] at hF
theorem fitG (hF:Fits t u i)(h:i.op=13\/16<=i.op):Goes t u i:=by
 unfold Fits at hF;rwa[if_neg (by omega),if_neg (by omega),if_neg (by omega),if_neg (by omega),if_neg (by omega),if_neg (by omega),if_neg (by omega),if_neg (by omega),if_neg (by omega),if_neg (by omega),if_neg (by omega),if_neg (by omega)] at hF
theorem fit13 (hF:Fits t u i)(h:i.op=13):CallOk t u i:=by
 have hF:=fitG hF (by omega);unfold Goes at hF;rwa[if_pos h] at hF
theorem fit16 (hF:Fits t u i)(h:i.op=16):RtM.Place u i.n:=by
 have hF:=fitG hF (by omega);unfold Goes at hF;rwa[if_neg (by omega),if_pos h] at hF
theorem fit17 (hF:Fits t u i)(h:i.op=17):of u i.a=-2/\RtM.Place u i.n/\RtM.Place u i.c:=by
 have hF:=fitG hF (by omega);unfold Goes at hF
 (repeat rewrite[if_neg (by omega)] at hF);rwa[if_pos h] at hF
theorem fit18 (hF:Fits t u i)(h:i.op=18):(u.result=-3/\i.a=-1\/u.result≠-3/\Into u.result (of u i.a)):=by
 have hF:=fitG hF (by omega);unfold Goes at hF
 (repeat rewrite[if_neg (by omega)] at hF);rwa[if_pos h] at hF
theorem fit19 (hF:Fits t u i)(h:i.op=19):InG t i.n (fun g=>Into (of u i.a) g):=by
 have hF:=fitG hF (by omega);unfold Goes at hF
 (repeat rewrite[if_neg (by omega)] at hF);rwa[if_pos h] at hF
theorem fit20 (hF:Fits t u i)(h:i.op=20):InG t i.n (fun g=>Into g (of u i.a)):=by
 have hF:=fitG hF (by omega);unfold Goes at hF
 (repeat rewrite[if_neg (by omega)] at hF);rwa[if_pos h] at hF
theorem fit21 (hF:Fits t u i)(h:21<=i.op):i.args≠[]/\Rise i.args/\∀n∈i.args,n∈u.owns:=by
 have hF:=fitG hF (by omega);unfold Goes at hF;rwa[if_neg (by omega),if_neg (by omega),if_neg (by omega),if_neg (by omega),if_neg (by omega),if_neg (by omega)] at hF
theorem two_v (h:Two u i):of u i.a≠-3/\of u i.b≠-3/\of u i.c≠-3:=by
 obtain⟨_,h2,h3|⟨_,h3,h4⟩⟩:=h
 ·omega
 ·exact⟨by omega,by omega,by omega⟩
theorem insV (hB:Bare i)(hF:Fits t u i):InsV t u i:=by
 have ho:=bare_op30 hB;refine⟨ho,fun h=>?_,fun h=>?_,fun h=>?_,fun h=>?_,fun h=>fit13 hF h,fun h=>?_,fun h=>(fit17 hF h).2.2,fun h=>?_,fun h=>?_,fun h=>(fit21 hF (by omega)).2,fun h=>(fit4 hF h).1,fun h=>(fit5 hF h).1⟩
 ·obtain h|h|h|h|h|h|h|h|h|h|h|h|h|h|h:(i.op=1\/i.op=14\/i.op=15)\/i.op=2\/i.op=3\/i.op=4\/i.op=5\/i.op=6\/i.op=7\/i.op=8\/i.op=9\/i.op=10\/i.op=11\/i.op=12\/i.op=17\/i.op=19\/i.op=20:=by omega
  ·have:=fit1 hF h;omega
  ·have:=fit2 hF h;omega
  ·exact into_l (fit3 hF h)
  ·exact (two_v (fit4 hF h)).1
  ·have:=fit5 hF h;omega
  ·exact (loads_v (fit6 hF h)).1
  ·exact (lays_v (fit7 hF h)).1
  ·exact (loads_v (fit8 hF h).2).1
  ·exact (lays_v (fit9 hF h).2).1
  ·have:=(fit10 hF h).2;omega
  ·exact (fresh_v (fit11 hF h)).2
  ·exact (fresh_v (fit12 hF h).1).2
  ·have:=(fit17 hF h).1;omega
  ·obtain⟨g,_,h3⟩:=ing_v (fit19 hF h);exact into_l h3
  ·obtain⟨g,_,h3⟩:=ing_v (fit20 hF h);exact into_r h3
 ·obtain h|h|h|h|h|h|h|h|h:i.op=3\/i.op=4\/i.op=5\/i.op=6\/i.op=7\/i.op=8\/i.op=9\/i.op=10\/i.op=12:=by omega
  ·exact into_r (fit3 hF h)
  ·exact (two_v (fit4 hF h)).2.1
  ·have:=fit5 hF h;omega
  ·exact (loads_v (fit6 hF h)).2
  ·exact (lays_v (fit7 hF h)).2
  ·exact (loads_v (fit8 hF h).2).2
  ·have:=(fit9 hF h).1;omega
  ·exact cell_v (fit10 hF h).1
  ·have:=(fit12 hF h).2;omega
 ·obtain h|h|h:=h
  ·exact (two_v (fit4 hF h)).2.2
  ·have:=(fit8 hF h).1;omega
  ·exact (lays_v (fit9 hF h).2).2
 ·obtain h|h:=h
  ·exact (fresh_v (fit11 hF h)).1
  ·exact (fresh_v (fit12 hF h).1).1
 ·obtain h|h:=h
  ·exact fit16 hF h
  ·exact (fit17 hF h).2.1
 ·obtain⟨_,h⟩|⟨_,h⟩:=fit18 hF h
  ·exact .inl h
  ·exact .inr (into_r h)
 ·obtain h|h:=h
  ·obtain⟨g,h2,_⟩:=ing_v (fit19 hF h);exact⟨g,h2⟩
  ·obtain⟨g,h2,_⟩:=ing_v (fit20 hF h);exact⟨g,h2⟩
theorem right_unit (hR:RightP t)(hu:u∈t.units):UnitOk t u:=hR.2.2.2.2.2 u hu
theorem right_ins (hR:RightP t)(hu:u∈t.units)(hi:i∈u.ins):InsV t u i:=by
 obtain⟨h1,h2⟩:=(right_unit hR hu).2 i hi;exact insV h1 h2
structure FrOk (t:RTg)(f:Fr)(u:Unt):Prop where
 unit:gt t.units f.u=some u
 vars:f.vars.length=u.vars.length
 pc:RtM.Place u f.pc
theorem vok {f:Fr}(hv:f.vars.length=u.vars.length)(h:of u n≠-3):Vok f n:=by
 obtain⟨k,h1,h2⟩:=of_ne h;exact⟨k,h1,by omega⟩
def Goal (f:Fr):List Fr->Prop
 |[]=>True
 |h::_=>f.into=-1\/Vok h f.into
structure MsOk (t:RTg)(M:Ms):Prop where
 fr:∀f∈M.fs,∃u,FrOk t f u
 into:∀(k:Nat) f h,M.fs[k]?=some f->M.fs[k+1]?=some h->f.into=-1\/Vok h f.into
 deep:M.fs.length<=40
 gl:M.gl.length=t.globals.length
 en:M.en=0->M.fs≠[]
end Go.Proofs.YtojfbbggnkijeaaGreatDoor
