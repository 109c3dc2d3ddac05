import Derived.Test.YtojfbbggnkijeaaGreatDoorZ13
import Derived.Test.YtojfbbggnkijeaaGreatDoorZ27
import Derived.Shelf.Small.Bits
import Derived.Shelf.Small.Strs
import Derived.Shelf.Strconv.Itoa0
import Derived.Shelf.Strings.Search1
import Derived.Shelf.Sort.Plain
import Derived.Shelf.Unicode.Latin
import Derived.Shelf.Unicode.Is16White
import Derived.Shelf.Unicode.IsSpaceAny
import Derived.Shelf.Unicode.Is16Any
import Derived.Shelf.Unicode.Is32Any
import Derived.Shelf.Unicode.ExclAny
import Derived.Ground.Names2Prog
import Derived.Shelf.Slices.Clone
import Derived.Shelf.Slices.CompactI
import Derived.Shelf.Slices.SearchI
import Derived.Shelf.Slices.Cells
import Derived.Shelf.Slices.In.SortNone
import Derived.Ground.SlgnProg
import Derived.Shelf.SlicesE.Clone
import Derived.Sort.OwnSortedInts
import Derived.Lib.AppendZerosOnto
set_option linter.all false
namespace Go.Proofs
open Go.Shelf
def Tryz.lays189_ren:Go.Shelf.Ren:=⟨fun|189=>182|125=>258|257=>257|128=>354|129=>355|294=>345|295=>346|296=>347|297=>348|298=>349|299=>350|216=>351|300=>352|301=>353|328=>411|329=>412|330=>413|331=>414|332=>415|215=>416|343=>438|n=>n,fun|28=>30|3=>3|46=>227|0=>0|51=>439|53=>226|4=>4|183=>433|182=>432|131=>389|5=>5|9=>9|218=>482|222=>384|228=>513|229=>166|n=>n,fun|n=>n⟩
theorem Tryz.lays189:Go.Proofs.Lays.n189 Tryz.prog Tryz.lays189_ren:={
 mixed:=by kernel_rfl
 f125:=Tryz.func258.trans (congrArg some (by kernel_rfl))
 f128:=Tryz.func354.trans (congrArg some (by kernel_rfl))
 f129:=Tryz.func355.trans (congrArg some (by kernel_rfl))
 f189:=Tryz.func182.trans (congrArg some (by kernel_rfl))
 f215:=Tryz.func416.trans (congrArg some (by kernel_rfl))
 f216:=Tryz.func351.trans (congrArg some (by kernel_rfl))
 f257:=Tryz.func257.trans (congrArg some (by kernel_rfl))
 f294:=Tryz.func345.trans (congrArg some (by kernel_rfl))
 f295:=Tryz.func346.trans (congrArg some (by kernel_rfl))
 f296:=Tryz.func347.trans (congrArg some (by kernel_rfl))
 f297:=Tryz.func348.trans (congrArg some (by kernel_rfl))
 f298:=Tryz.func349.trans (congrArg some (by kernel_rfl))
 f299:=Tryz.func350.trans (congrArg some (by kernel_rfl))
 f300:=Tryz.func352.trans (congrArg some (by kernel_rfl))
 f301:=Tryz.func353.trans (congrArg some (by kernel_rfl))
 f328:=Tryz.func411.trans (congrArg some (by kernel_rfl))
 f329:=Tryz.func412.trans (congrArg some (by kernel_rfl))
 f330:=Tryz.func413.trans (congrArg some (by kernel_rfl))
 f331:=Tryz.func414.trans (congrArg some (by kernel_rfl))
 f332:=Tryz.func415.trans (congrArg some (by kernel_rfl))
 f343:=Tryz.func438.trans (congrArg some (by kernel_rfl))
 t0:=Tryz.underlying0
 a0:=Tryz.isAgg0
 z0:=Tryz.sizeOf0
 v0:=Tryz.zeroValue0
 t3:=Tryz.underlying3
 a3:=Tryz.isAgg3
 z3:=Tryz.sizeOf3
 v3:=Tryz.zeroValue3
 t4:=Tryz.underlying4
 a4:=Tryz.isAgg4
 z4:=Tryz.sizeOf4
 v4:=Tryz.zeroValue4
 t5:=Tryz.underlying5
 a5:=Tryz.isAgg5
 z5:=Tryz.sizeOf5
 v5:=Tryz.zeroValue5
 t9:=Tryz.underlying9
 a9:=Tryz.isAgg9
 z9:=Tryz.sizeOf9
 v9:=Tryz.zeroValue9
 t28:=Tryz.underlying30
 a28:=Tryz.isAgg30
 z28:=Tryz.sizeOf30
 v28:=Tryz.zeroValue30
 t46:=Tryz.underlying227
 a46:=Tryz.isAgg227
 z46:=Tryz.sizeOf227
 v46:=Tryz.zeroValue227
 t51:=Tryz.underlying439
 a51:=Tryz.isAgg439
 z51:=Tryz.sizeOf439
 v51:=Tryz.zeroValue439
 t53:=Tryz.underlying226
 a53:=Tryz.isAgg226
 z53:=Tryz.sizeOf226
 v53:=Tryz.zeroValue226
 t131:=Tryz.underlying389
 a131:=Tryz.isAgg389
 z131:=Tryz.sizeOf389
 v131:=Tryz.zeroValue389
 t182:=Tryz.underlying432
 a182:=Tryz.isAgg432
 z182:=Tryz.sizeOf432
 v182:=Tryz.zeroValue432
 t183:=Tryz.underlying433
 a183:=Tryz.isAgg433
 z183:=Tryz.sizeOf433
 v183:=Tryz.zeroValue433
 t218:=Tryz.underlying482
 a218:=Tryz.isAgg482
 z218:=Tryz.sizeOf482
 v218:=Tryz.zeroValue482
 t222:=Tryz.underlying384
 a222:=Tryz.isAgg384
 z222:=Tryz.sizeOf384
 v222:=Tryz.zeroValue384
 t228:=Tryz.underlying513
 a228:=Tryz.isAgg513
 z228:=Tryz.sizeOf513
 v228:=Tryz.zeroValue513
 t229:=Tryz.underlying166
 a229:=Tryz.isAgg166
 z229:=Tryz.sizeOf166
 v229:=Tryz.zeroValue166}
open Go.Sort Go.RowKit in
theorem Tryz.slices_Sort_int (blk off cap:Nat)(zs:List Int)(w:World)(hH:Holds (Value.int .i64) w blk off zs.toArray)(hblk:blk<w.heap.size)(hsz:zs.length<4611686018427387904):
  Calls Tryz.prog 182 #[.slice (some ⟨blk,off,none⟩) zs.length cap] w fun e w'=>
   e=.returned (.tuple #[])/\∃n os,w'=grow (putRow (Value.int .i64) (Sort.ahead w n) blk off (zs.mergeSort fun x y=>decide (x<=y)).toArray) os:=Any.slices_Sort_int Tryz.lays189 blk off cap zs w hH hblk hsz
def Tryz.laysNm220_ren:Go.Shelf.Ren:=⟨fun|20=>117|n=>n,fun|22=>30|3=>3|4=>4|0=>0|n=>n,fun|n=>n⟩
theorem Tryz.laysNm220:Go.Proofs.Lays2.n20 Tryz.prog Tryz.laysNm220_ren:={
 mixed:=by kernel_rfl
 f20:=Tryz.func117.trans (congrArg some (by kernel_rfl))
 t0:=Tryz.underlying0
 a0:=Tryz.isAgg0
 z0:=Tryz.sizeOf0
 v0:=Tryz.zeroValue0
 t3:=Tryz.underlying3
 a3:=Tryz.isAgg3
 z3:=Tryz.sizeOf3
 v3:=Tryz.zeroValue3
 t4:=Tryz.underlying4
 a4:=Tryz.isAgg4
 z4:=Tryz.sizeOf4
 v4:=Tryz.zeroValue4
 t22:=Tryz.underlying30
 a22:=Tryz.isAgg30
 z22:=Tryz.sizeOf30
 v22:=Tryz.zeroValue30
 i3:=by kernel_rfl}
open Go.RowKit Go.Lib Go.Sort in
theorem Tryz.slices_Compact_int (blk off cap:Nat)(zs:List Int)(w:World)(hH:Holds (Value.int .i64) w blk off zs.toArray)(hsz:zs.length<=9223372036854775807)(hcap:zs.length<=cap):
  Calls Tryz.prog 117 #[.slice (some ⟨blk,off,none⟩) zs.length cap] w fun e w'=>e=.returned (.slice (some ⟨blk,off,none⟩) (Lib.compact zs).length cap)/\∃q,w'=putRow (Value.int .i64) (Sort.ahead w q) blk off (Lib.compact zs++List.replicate (zs.length-(Lib.compact zs).length) 0).toArray:=Any.slices_Compact_int Tryz.laysNm220 blk off cap zs w hH hsz hcap
open Go.RowKit Go.Lib Go.Sort in
theorem Tryz.slices_Compact_int_empty (a:Option Addr)(cap:Nat)(w:World):
  Calls Tryz.prog 117 #[.slice a 0 cap] w fun e w'=>e=.returned (.slice a 0 cap)/\w'=w:=Any.slices_Compact_int_empty Tryz.laysNm220 a cap w
open Go.RowKit Go.Sort in
theorem Tryz.slices_Sort_int_none (p:Option Addr)(cap:Nat)(w:World):
  Calls Tryz.prog 182 #[.slice p 0 cap] w fun e w'=>e=.returned (.tuple #[])/\w'=w:=Any.slices_Sort_int_none Tryz.lays189 p cap w
end Go.Proofs
namespace Go.Proofs.YtojfbbggnkijeaaGreatDoor
open Go Go.RR Go.RX Go.GX Go.Sort Go.Proofs
def sorted (xs:List Int):List Int:=xs.mergeSort fun x y=>decide (x<=y)
theorem sorted_len (xs:List Int):(sorted xs).length=xs.length:=List.length_mergeSort _
theorem sorted_mem {xs:List Int}{x:Int}:x∈sorted xs<->x∈xs:=List.mem_mergeSort
theorem sorted_rise (xs:List Int):(sorted xs).Pairwise (·<=·):=by
 have:=List.pairwise_mergeSort (le:=fun x y:Int=>decide (x<=y)) (fun a b c h1 h2=>by simp only[decide_eq_true_eq] at *;omega) (fun a b=>by simp only[Bool.or_eq_true,decide_eq_true_eq];omega) xs;exact this.imp fun h=>by simpa using h
theorem els_ints {F:Nat->Prop}{w:World}:∀{xs:List Int} {cs:List Value},Els Ty.int F w cs xs<->cs=xs.map (Value.int .i64)
 |[],cs=>Iff.rfl
 |x::xs,cs=>by
  constructor
  ·rintro⟨c1,c2,rfl,h1,h2⟩;have h1:c1=[.int .i64 x]:=h1;rw[h1,els_ints.1 h2];rfl
  ·rintro rfl;exact⟨[.int .i64 x],xs.map (Value.int .i64),rfl,rfl,els_ints.2 rfl⟩
theorem sort_spec (ao:Option Addr)(cap:Nat)(xs:List Int)(hl:xs.length<4611686018427387904):Does Tryz.prog 182 [.slice ao xs.length cap] [] [GX.Own 3 Ty.int ao cap xs]
  (fun _:Unit=>.tuple #[]) (fun _=>[]) (fun _=>[GX.Own 3 Ty.int ao cap (sorted xs)]):=by
 constructor;intro w F b s;obtain⟨cs,h1,h2⟩:(GX.Own 3 Ty.int ao cap xs).says F w:=s.rs _ (by simp)
 rcases h1.2 with ⟨h3,h4⟩|⟨g,cap',cur,h3,hb,hg,h5,h6,h7,h8⟩
 ·simp at h3;obtain⟨rfl,hx,rfl⟩:=h3;subst hx;have e0:sorted []=[]:=List.length_eq_zero_iff.1 (sorted_len []);rw[e0];refine (Tryz.slices_Sort_int_none none 0 w).mono fun e w' ⟨he,hw⟩=>⟨(),he,?_⟩;subst hw;exact mkOk1 s (Upd.refl _ _) ⟨cs,h1,h2⟩ (fun k hk _=>hk)
 ·simp at h3;obtain⟨rfl,rfl⟩:=h3;have hcs:=els_ints.1 h2;have h7:cur.size=cap*1:=h7;have ht:cur.toList.take xs.length=xs.map (Value.int .i64):=by
   have:cur.toList.take (xs.length*1)=cs:=h8;rw[Nat.mul_one] at this;rw[this,hcs]
  have hlt:g<w.heap.size:=(Array.getElem?_eq_some_iff.1 hg).1;refine (Tryz.slices_Sort_int g 0 cap xs w (holds_of_blockI hg ht) hlt hl).mono fun e w' ⟨he,n,os,hw⟩=>⟨(),he,?_⟩;have hgr:=grownBy_sortedI (w:=w) (g:=g) (n:=n) (os:=os) (sorted xs).toArray;have hown:=ownsRow_sortedI (w:=w) (base:=0) (n:=n) (os:=os) (ts:=sorted xs) (sorted_len xs) (Nat.zero_le _) hg h5 h6 h7;have hw:w'=grow (putRow (Value.int .i64) (Sort.ahead w n) g 0 (sorted xs).toArray) os:=hw;rw[<- hw] at hgr hown;refine mkOk1 s ((Upd.refl _ w).grown hgr (fun k hk _=>?_)) ⟨_,?_,els_ints.2 rfl⟩ (fun k hk _=>?_)
  ·exact hk
  ·rw[sorted_len];exact hown
  ·have hk:(some g:Option Nat)=some k:=hk;exact hk
end Go.Proofs.YtojfbbggnkijeaaGreatDoor
namespace Go.Proofs.YtojfbbggnkijeaaGreatDoor
open Go Go.RR Go.RX Go.GX Go.RowKit Go.Shelf
theorem appendSeq_spec (bl g at_ m cap c:Nat)(xs:List Int)(hm:at_+m=xs.length)(hl:xs.length<=1000000):Does Tryz.prog 256 [.slice none 0 0,.func (.func 183) #[] #[.pointer (some ⟨bl,0,none⟩)]]
  [Pt Ty.hdr bl 0 (some ⟨g,at_,none⟩,m,c)] [GX.Own 3 Ty.int (some ⟨g,0,none⟩) cap xs] (fun s:Option Addr×Nat=>.slice s.1 (xs.drop at_).length s.2) (fun _=>[]) (fun s=>[GX.Own 3 Ty.int s.1 s.2 (xs.drop at_),GX.Own 3 Ty.int (some ⟨g,0,none⟩) cap xs]):=by
 constructor;intro w F b s;obtain⟨hF,hbl,cs,hcs,hrd⟩:(Pt Ty.hdr bl 0 (some ⟨g,at_,none⟩,m,c)).says F w:=s.fs _ (by simp);have hrd:cs=[.slice (some ⟨g,at_,none⟩) m c]:=hrd;subst hrd;have hown:(GX.Own 3 Ty.int (some ⟨g,0,none⟩) cap xs).says F w:=s.rs _ (by simp);obtain⟨us,tl,hr,he,_⟩:=own_open hown;have hus:=els_ints.1 he;have hgl:g<w.heap.size:=hr.lt;have hd:(xs.drop at_).length=m:=by rw[List.length_drop];omega
 have hcell:∀j,j<(xs.drop at_).length->w.cell? ⟨g,at_+j,none⟩=some (.int .i64 ((xs.drop at_)[j]?.getD 0)):=fun j hj=>by
  refine hr.cell_some ?_;rw[hus,List.getElem?_append_left (by rw[List.length_map];omega),List.getElem?_map,List.getElem?_drop,List.getElem?_eq_getElem (by omega)];rfl
 have hb0:w.cell? ⟨bl,0,none⟩=some (.slice (some ⟨g,at_,none⟩) (xs.drop at_).length c):=by rw[hd];exact hcs 0 _ rfl
 refine ((callsIn_wide (n:=3)).1 (appendSeq_in Fence.wide 3 trivial trivial rfl (Nat.le_refl _) bl g at_ c _ (xs.drop at_) (fun _=>rfl) (by omega) w hbl hgl hb0 hcell)).mono fun e w' h=>?_;obtain⟨v,rfl,hrow,_,hB⟩:=h;have hu:Upd (feet [GX.Own 3 Ty.int (some ⟨g,0,none⟩) cap xs]) w w':=⟨hB.os,hB.tape,hB.output,hB.size,fun k hk _=>hB.block k hk⟩;obtain⟨ao,ca,rfl,hbase⟩:∃ao ca,v=.slice ao (xs.drop at_).length ca/\∀k,(Value.slice ao (xs.drop at_).length ca).ownBlock=some k->w.heap.size<=k:=by
  rcases hrow.2 with ⟨rfl,h0⟩|⟨g',cap',cur,rfl,h3,_⟩
  ·exact⟨none,0,by rw[h0],fun k hk=>by rw[h0] at hk;cases hk⟩
  ·exact⟨some ⟨g',0,none⟩,cap',rfl,fun k hk=>by cases hk;exact h3⟩
 have hnew:(GX.Own 3 Ty.int ao ca (xs.drop at_)).says F w':=by
  refine⟨(xs.drop at_).map (.int .i64),⟨hrow.1,?_⟩,els_ints.2 rfl⟩
  rcases hrow.2 with hn|⟨g',cap',cur,h2,h3,h4⟩
  ·exact .inl hn
  ·exact .inr ⟨g',cap',cur,h2,Nat.zero_le _,h4⟩
 have hon:∀k,(GX.Own 3 Ty.int ao ca (xs.drop at_)).on k->w.heap.size<=k:=hbase;have hold:∀k,(GX.Own 3 Ty.int (some ⟨g,0,none⟩) cap xs).on k->k<w.heap.size:=fun k hk=>(GX.Own 3 Ty.int (some ⟨g,0,none⟩) cap xs).inn hown hk;refine⟨(ao,ca),rfl,?_⟩;refine mkOk s hu (fun _=>False) (fun k h=>h.elim) (fun k h=>h.elim) no_p ?_ (fun _ _ _ _ h=>h) ?_ ?_
 ·intro r hr'
  rcases List.mem_cons.1 hr' with rfl|hr'
  ·exact (GX.Own 3 Ty.int ao ca (xs.drop at_)).move hnew (fun _ _ h=>.inl h) (Agree.refl _ _) (Agree.refl _ _)
  ·obtain rfl:r=_:=by simpa using hr'
   exact (GX.Own 3 Ty.int (some ⟨g,0,none⟩) cap xs).move hown (fun _ _ h=>.inl h) ⟨hB.size,fun k hk _=>hB.block k hk⟩ ⟨hB.size,fun k hk _=>hB.block k hk⟩
 ·refine List.pairwise_cons.2 ⟨fun r hr' k h1 h2=>?_,by simp⟩;obtain rfl:r=_:=by simpa using hr'
  have:=hon k h1;have:=hold k h2;omega
 ·intro r hr' k hk hlt
  rcases List.mem_cons.1 hr' with rfl|hr'
  ·have:=hon k hk;omega
  ·exact⟨r,by simpa using hr',hk⟩
attribute [local irreducible] wpList Code.wp wpPlan Exit.then Exit.inBlock bodyPost NoPanic Went GX.Post Again Meet RowR GX.Own Owns Box Sl Pt Ag MapR Kept Pin wpT GoK AtEnd Both
theorem valuesG_spec (a:Option Addr)(m c:Nat):Does Tryz.prog 96 [.slice a m c] [] [] (fun bl:Nat=>.func (.func 183) #[] #[.pointer (some ⟨bl,0,none⟩)]) (fun bl=>[Pt Ty.hdr bl 0 (a,m,c)]) (fun _=>[]):=by
 refine enter Tryz.func96 rfl Tryz.ntmps96 rfl fun b=>?_;refine w_ ?_ 1;intros;refine nmP 1 ?_;rintro b1 rfl;refine frzH b1 ?_ rfl;exact rt1 b1 rfl
theorem collect_spec (bl g at_ m cap c:Nat)(xs:List Int)(hm:at_+m=xs.length)(hl:xs.length<=1000000):Does Tryz.prog 181 [.func (.func 183) #[] #[.pointer (some ⟨bl,0,none⟩)]]
  [Pt Ty.hdr bl 0 (some ⟨g,at_,none⟩,m,c)] [GX.Own 3 Ty.int (some ⟨g,0,none⟩) cap xs] (fun s:Option Addr×Nat=>.slice s.1 (xs.drop at_).length s.2) (fun _=>[]) (fun s=>[GX.Own 3 Ty.int s.1 s.2 (xs.drop at_),GX.Own 3 Ty.int (some ⟨g,0,none⟩) cap xs]):=by
 refine enter Tryz.func181 rfl Tryz.ntmps181 rfl fun b=>?_;refine w_ ?_;intros;refine GX.o (cl (appendSeq_spec bl g at_ m cap c xs hm hl) fun s=>?_);refine w_ ?_;intros;exact rt1 s rfl
theorem sortedG_spec (bl g at_ m cap c:Nat)(xs:List Int)(hm:at_+m=xs.length)(hl:xs.length<=1000000):Does Tryz.prog 95 [.func (.func 183) #[] #[.pointer (some ⟨bl,0,none⟩)]]
  [Pt Ty.hdr bl 0 (some ⟨g,at_,none⟩,m,c)] [GX.Own 3 Ty.int (some ⟨g,0,none⟩) cap xs] (fun s:Option Addr×Nat=>.slice s.1 (sorted (xs.drop at_)).length s.2) (fun _=>[]) (fun s=>[GX.Own 3 Ty.int s.1 s.2 (sorted (xs.drop at_)),GX.Own 3 Ty.int (some ⟨g,0,none⟩) cap xs]):=by
 refine enter Tryz.func95 rfl Tryz.ntmps95 rfl fun b=>?_;refine w_ ?_;intros;refine GX.o (cl (collect_spec bl g at_ m cap c xs hm hl) fun s=>?_);refine w_ ?_;intros;refine GX.o (cl (sort_spec s.1 s.2 (xs.drop at_) (by rw[List.length_drop];omega)) fun _=>?_);refine w_ ?_;intros;exact rt1 s (by rw[sorted_len])
end Go.Proofs.YtojfbbggnkijeaaGreatDoor
namespace Go.GX
open Go Go.RowKit Go.RR Go.RX
section
variable {P:Program} {n:Nat} {env:Env} {b:Base} {ps:List Pf} {hp:List Res} {Q:Exit->Act->World->Prop} {K:Act->World->Prop}
theorem apz {d:Nat}{ty:TypeId}{pos:String}{aft:Array Edge}{gd:Option (Nat×Bool)}{t tn et:TypeId}{x y:Operand}{α:Type}{e:Ty α}{zv:Value}{size bytes c:Nat}{i:Int}[ht:USlice P t et][hn:UInt P tn .i64][hi:UElem P et zv size bytes]
  (h:∀bl cap,c<=cap->G n ((d,.slice (some ⟨bl,0,none⟩) c cap)::env) b ps (Own et e (some ⟨bl,0,none⟩) cap []::hp) K)
  (hx:ev env x=some (.slice none 0 0):=by exact rfl) (hy:ev env y=some (.int .i64 i):=by exact rfl) (hc:i=(c:Int):=by first|rfl|omega) (h0:0<c:=by omega) (hb:c*bytes<=140737488355328:=by omega) (h63:c<=9223372036854775807:=by omega) (hsz:e.size=size:=by exact rfl) (hzs:zv.cells.size=size:=by exact rfl) (hpos:Nat.blt 0 size=true:=by exact rfl) (hd:Nat.blt d n=true:=by exact rfl):
  GO P n env b ps hp ⟨some d,.call {callee:=.builtin .append,args:=#[x,y],argTypes:=#[t,tn] },ty,pos,aft,gd⟩ K Q:=by
 subst hsz;subst hc;refine Acts.use (hp1:=[]) (rest:=hp) (ι:={q:Nat×Nat // c<=q.2 }) (val:=fun q=>.slice (some ⟨q.1.1,0,none⟩) c q.1.2) (pf:=fun _=>[]) (hr:=fun q=>[Own et e (some ⟨q.1.1,0,none⟩) q.1.2 []]) ?_ (List.Perm.refl _) (fun q=>h q.1.1 q.1.2 q.2);intro F w K Q b s hk;obtain⟨ii,i0,i1,i2,i3⟩:=info_parts hi.i;have hpos':0<e.size:=by simpa[Nat.blt_eq] using hpos
 have hold:(Builtin.firstCells ii.size 0 (.slice none 0 0)).run P w.drew=.ok (#[]:Array Value) w.drew:=run_firstCells_none w.drew ii.size 0 0 0;have hr:=Lib.run_append_grow_zeros (P:=P) w t tn ty et ii zv .i64 .i64 ht.u hn.u i0 i1 none 0 0 [] hold c h0 (by omega) (by omega) (by omega) (by rw[i3];omega) (by rw[i3];exact growslice_fits (by omega) (by simpa using hb));simp only[Nat.zero_add] at hr;have hge:=grownCap_ge w c 0 et;have hcm:grownCap w c 0 et<=maxLen:=grownCap_le_maxLen w _ _ et (by simp only[maxLen];omega);refine RX.eff (w':=w.drew.alloc (.cells ((#[]:Array Value)++Builtin.zeroCells zv.cells c++Builtin.zeroCells zv.cells (grownCap w c 0 et-c)) et)) (fun a ha=>?_) hd (hk ⟨(w.heap.size,grownCap w c 0 et),hge⟩ _ (mkOkN s ⟨rfl,rfl,rfl,by simp,fun k hk _=>heap_alloc_old w.drew _ hk⟩ ⟨[],⟨by simp,.inr ⟨w.heap.size,grownCap w c 0 et,_,rfl,Nat.zero_le _,heap_alloc_new w.drew _,Nat.zero_le _,hcm,?_,by simp⟩⟩,rfl⟩ (fun k hk=>?_)))
 ·simp[execOp,ha.ev hx,ha.ev hy,resolve,invoke,builtin,hr]
 ·simp only[Array.size_append,List.size_toArray,size_zeroCells,hzs,List.length_nil,Nat.zero_add];rw[<- Nat.add_mul];congr 1;omega
 ·have hk:(some w.heap.size:Option Nat)=some k:=hk;cases hk;exact Nat.le_refl _
end
end Go.GX
namespace Go.Proofs.YtojfbbggnkijeaaGreatDoor
open Go Go.RR Go.RX Go.GX Go.Sort Go.Proofs
def once (xs:List Int):List Int:=Lib.compact xs
theorem once_len (xs:List Int):(once xs).length<=xs.length:=by
 unfold once Lib.compact Lib.compactUpTo;rw[List.length_map];have:=List.length_filter_le (Lib.keeps xs.toArray) (List.range xs.length);simpa using this
theorem compact_spec (ao:Option Addr)(cap:Nat)(xs:List Int)(hl:xs.length<=9223372036854775807):Does Tryz.prog 117 [.slice ao xs.length cap] [] [GX.Own 3 Ty.int ao cap xs]
  (fun _:Unit=>.slice ao (once xs).length cap) (fun _=>[]) (fun _=>[GX.Own 3 Ty.int ao cap (once xs)]):=by
 constructor;intro w F b s;obtain⟨cs,h1,h2⟩:(GX.Own 3 Ty.int ao cap xs).says F w:=s.rs _ (by simp)
 rcases h1.2 with ⟨h3,h4⟩|⟨g,cap',cur,h3,hb,hg,h5,h6,h7,h8⟩
 ·simp at h3;obtain⟨rfl,hx,rfl⟩:=h3;subst hx;have e0:once []=[]:=List.length_eq_zero_iff.1 (Nat.le_zero.1 (once_len []));rw[e0];refine (Tryz.slices_Compact_int_empty none 0 w).mono fun e w' ⟨he,hw⟩=>⟨(),he,?_⟩;subst hw;exact mkOk1 s (Upd.refl _ _) ⟨cs,h1,h2⟩ (fun k hk _=>hk)
 ·simp at h3;obtain⟨rfl,rfl⟩:=h3;have hcs:=els_ints.1 h2;have h7:cur.size=cap*1:=h7;have ht:cur.toList.take xs.length=xs.map (Value.int .i64):=by
   have:cur.toList.take (xs.length*1)=cs:=h8;rw[Nat.mul_one] at this;rw[this,hcs]
  have hlt:g<w.heap.size:=(Array.getElem?_eq_some_iff.1 hg).1;refine (Tryz.slices_Compact_int g 0 cap xs w (holds_of_blockI hg ht) hl h5).mono fun e w' ⟨he,q,hw⟩=>⟨(),he,?_⟩;obtain⟨d,hd⟩:∃d,d=once xs++List.replicate (xs.length-(once xs).length) 0:=⟨_,rfl⟩;have hle:=once_len xs;have hdl:d.length=xs.length:=by rw[hd];simp;omega
  have hw:w'=grow (putRow (Value.int .i64) (Sort.ahead w q) g 0 d.toArray) #[]:=by rw[grow_empty,hd];exact hw
  have hgr:=grownBy_sortedI (w:=w) (g:=g) (n:=q) (os:=#[]) d.toArray;have hheap:=heap_sortedI (n:=q) (os:=#[]) d.toArray hg;rw[<- hw] at hgr hheap;have htk:=take_putCellsI cur d (by omega);refine mkOk1 s ((Upd.refl _ w).grown hgr (fun k hk _=>hk)) ⟨(once xs).map (Value.int .i64),⟨by rw[List.length_map];exact (Nat.mul_one _).symm,.inr ⟨g,cap,_,rfl,Nat.zero_le _,hheap,by omega,h6,by show _=cap*1;simp[putCells,h7],?_⟩⟩,els_ints.2 rfl⟩ (fun k hk _=>?_)
  ·show _=_;have e1:(once xs).length=min (once xs).length d.length:=by omega
   show (putCells (Value.int .i64) 0 d.toArray cur).toList.take ((once xs).length*1)=_;rw[Nat.mul_one,e1,<-List.take_take,htk,<-List.map_take,hd,List.take_left]
  ·have hk:(some g:Option Nat)=some k:=hk;exact hk
end Go.Proofs.YtojfbbggnkijeaaGreatDoor
namespace Go.Proofs.YtojfbbggnkijeaaGreatDoor
open Go Go.RR Go.RX Go.GX Go.RowKit Go.Shelf Go.RiseM
theorem appendSeqN_spec (bl:Nat):Does Tryz.prog 256 [.slice none 0 0,.func (.func 183) #[] #[.pointer (some ⟨bl,0,none⟩)]]
  [Pt Ty.hdr bl 0 (none,0,0)] [] (fun _:Unit=>.slice none 0 0) (fun _=>[]) (fun _=>[]):=by
 constructor;intro w F b s;obtain⟨hF,hbl,cs,hcs,hrd⟩:(Pt Ty.hdr bl 0 (none,0,0)).says F w:=s.fs _ (by simp);have hrd:cs=[.slice none 0 0]:=hrd;subst hrd;refine ((callsIn_wide (n:=3)).1 (appendSeq_in Fence.wide 3 trivial trivial rfl (Nat.le_refl _) bl bl 0 0 none [] (fun h=>absurd rfl h) (by simp) w hbl hbl (hcs 0 _ rfl) (fun j hj=>absurd hj (Nat.not_lt_zero _)))).mono fun e w' h=>?_;obtain⟨v,rfl,hrow,hn,hB⟩:=h;obtain rfl:=hn.2 rfl;have hu:Upd (feet []) w w':=⟨hB.os,hB.tape,hB.output,hB.size,fun k hk _=>hB.block k hk⟩;exact⟨(),rfl,mkOk s hu (fun _=>False) (fun k h=>h.elim) (fun k h=>h.elim) no_p (fun _ h=>by cases h) (fun _ _ _ _ h=>h) (by simp) (fun _ h=>by cases h)⟩
attribute [local irreducible] wpList Code.wp wpPlan Exit.then Exit.inBlock bodyPost NoPanic Went GX.Post Again Meet RowR GX.Own Owns Box Sl Pt Ag MapR Kept Pin wpT GoK AtEnd Both
theorem collectN_spec (bl:Nat):Does Tryz.prog 181 [.func (.func 183) #[] #[.pointer (some ⟨bl,0,none⟩)]]
  [Pt Ty.hdr bl 0 (none,0,0)] [] (fun _:Unit=>.slice none 0 0) (fun _=>[]) (fun _=>[]):=by
 refine enter Tryz.func181 rfl Tryz.ntmps181 rfl fun b=>?_;refine w_ ?_;intros;refine GX.o (cl (appendSeqN_spec bl) fun s=>?_);refine w_ ?_;intros;exact rt1 () rfl
theorem sortedN_spec (bl:Nat):Does Tryz.prog 95 [.func (.func 183) #[] #[.pointer (some ⟨bl,0,none⟩)]]
  [Pt Ty.hdr bl 0 (none,0,0)] [] (fun _:Unit=>.slice none 0 0) (fun _=>[]) (fun _=>[]):=by
 refine enter Tryz.func95 rfl Tryz.ntmps95 rfl fun b=>?_;refine w_ ?_;intros;refine GX.o (cl (collectN_spec bl) fun s=>?_);refine w_ ?_;intros;refine ownNil 3 Ty.int ?_;refine GX.o (cl (sort_spec none 0 [] (by simp)) fun _=>?_);refine w_ ?_;intros;exact rt1 () rfl
section
variable {P:Program} {n:Nat} {env:Env} {b:Base} {ps:List Pf} {hp:List Res} {Q:Exit->Act->World->Prop} {K:Act->World->Prop}
theorem capR {d:Nat}{ty:TypeId}{pos:String}{aft:Array Edge}{gd:Option (Nat×Bool)}{t e:TypeId}{x:Operand}{o1:Option Addr}{len cap:Nat}[h0:USlice P t e](h:G n ((d,.int .i64 (cap:Int))::env) b ps hp K)(hx:ev env x=some (.slice o1 len cap):=by exact rfl)(hd:Nat.blt d n=true:=by exact rfl):
  GO P n env b ps hp ⟨some d,.call {callee:=.builtin .cap,args:=#[x],argTypes:=#[t] },ty,pos,aft,gd⟩ K Q:=GX.rd1 (fun a ha o ho w _=>by
 simp[execOp,ho,ha.ev hx,resolve,invoke,builtin,run_underlying h0.u,Builtin.cap_,goInt]) hd h
end
theorem grow0_spec (c:Nat)(hc:c<=1000000):Does Tryz.prog 199 [.slice none 0 0,.int .i64 (c:Int)] [] [] (fun s:Option Addr×Nat=>.slice s.1 ([]:List Int).length s.2) (fun _=>[]) (fun s=>[GX.Own 3 Ty.int s.1 s.2 []]):=by
 refine enter Tryz.func199 rfl Tryz.ntmps199 rfl fun b=>?_;refine w_ ?_;intros;refine GX.o (capR ?_)
 cases c with
 |zero=>
  refine w_ ?_;intros;refine ownNil 3 Ty.int ?_;exact rt1 (none,0) rfl
 |succ c=>
  refine w_ ?_;intros;refine GX.o (capR ?_);refine w_ ?_;intros;refine GX.o (GX.oh (j:=0) ?_ (hao:=by intro a ha;cases ha));refine w_ ?_;intros;refine GX.o (apz (e:=Ty.int) (c:=c+1) fun bl cap2 hc2=>?_);refine w_ ?_;intros;refine GX.o (GX.oh (j:=0) ?_);refine w_ ?_;intros;exact rt1 (some ⟨bl,0,none⟩,cap2) rfl
theorem concat_spec (ao:Option Addr)(cap:Nat)(xs ys:List Int)(h1:xs.length<=400000)(h2:ys.length<=400000):Does Tryz.prog 118 [.slice ao 2 cap] [Sl (Ty.slice Ty.int) ao cap [xs,ys]] []
  (fun s:Option Addr×Nat=>.slice s.1 (xs++ys).length s.2) (fun _=>[]) (fun s=>[GX.Own 3 Ty.int s.1 s.2 (xs++ys)]):=by
 refine enter Tryz.func118 rfl Tryz.ntmps118 rfl fun b=>?_;have hx0:[xs,ys][0]?=some xs:=rfl;have hx1:[xs,ys][1]?=some ys:=rfl;refine w_ ?_;intros;refine GX.loop (σ:=Nat×Nat) (fun s=>[(0,.slice ao 2 cap),(2,.slice none 0 0),(3,.int .i64 (s.2:Int)),(9,.slice ao 2 cap),(10,.int .i64 ((2:Nat):Int)),(11,.int .i64 (s.1:Int))]) (fun _=>[]) (fun _=>[])
  (fun s=>s.1=0/\s.2=0\/s.1=1/\s.2=xs.length\/s.1=2/\s.2=xs.length+ys.length) (fun s=>2-s.1) (0,0) ⟨rfl,rfl,rfl,rfl,rfl,rfl,trivial⟩ (.inl ⟨rfl,rfl⟩) (fun s hs=>?_)
 obtain⟨i,m⟩:=s;dsimp only at hs
 rcases hs with ⟨rfl,rfl⟩|⟨rfl,rfl⟩|⟨rfl,rfl⟩
 ·refine w_ ?_;intros;exact again (1,xs.length) ⟨rfl,rfl,congrArg (fun z=>some (Value.int IntKind.i64 z)) (show ((0:Nat):Int)+(xs.length:Int)=(xs.length:Int) by omega),rfl,rfl,rfl,trivial⟩ (.inr (.inl ⟨rfl,rfl⟩)) (by dsimp only;omega)
 ·refine w_ ?_;intros;exact again (2,xs.length+ys.length) ⟨rfl,rfl,rfl,rfl,rfl,rfl,trivial⟩ (.inr (.inr ⟨rfl,rfl⟩)) (by dsimp only;omega)
 ·refine w_ ?_;intros;refine GX.o (cl (grow0_spec (xs.length+ys.length) (by omega)) fun s=>?_);obtain⟨ao3,cap3⟩:=s;dsimp only;refine w_ ?_;intros;refine GX.loop (σ:=Nat×List Int×Option Addr×Nat) (fun s=>[(0,.slice ao 2 cap),(2,.slice none 0 0),(6,.slice s.2.2.1 s.2.1.length s.2.2.2),(25,.slice ao 2 cap),(26,.int .i64 ((2:Nat):Int)),(27,.int .i64 (s.1:Int))]) (fun _=>[]) (fun s=>[GX.Own 3 Ty.int s.2.2.1 s.2.2.2 s.2.1])
   (fun s=>s.1=0/\s.2.1=[]\/s.1=1/\s.2.1=xs\/s.1=2/\s.2.1=xs++ys) (fun s=>2-s.1) (0,[],ao3,cap3) ⟨rfl,rfl,rfl,rfl,rfl,rfl,trivial⟩ (.inl ⟨rfl,rfl⟩) (fun s hs=>?_)
  obtain⟨i,zs,a4,c4⟩:=s;dsimp only at hs⊢
  rcases hs with ⟨rfl,rfl⟩|⟨rfl,rfl⟩|⟨rfl,rfl⟩
  ·refine w_ ?_;intros;exact again (1,xs,_,_) ⟨rfl,rfl,rfl,rfl,rfl,rfl,trivial⟩ (.inr (.inl ⟨rfl,rfl⟩)) (by dsimp only;omega)
  ·refine w_ ?_;intros;exact again (2,zs++ys,_,_) ⟨rfl,rfl,rfl,rfl,rfl,rfl,trivial⟩ (.inr (.inr ⟨rfl,rfl⟩)) (by dsimp only;omega)
  ·refine w_ ?_;intros;exact rt1 (a4,c4) rfl
theorem sorted_puts (xs:List Int):once (sorted xs)=puts xs:=by
 obtain⟨h2,h3⟩:=compact_rise (sorted_rise xs);obtain⟨h4,h5⟩:=puts_spec xs;refine Rise.eq h2 h4 fun x=>?_;rw[h5];show x∈Lib.compact _<->_;rw[h3,sorted_mem]
theorem both_spec (a1 a2:Option Addr)(c1 c2:Nat)(xs ys:List Int)(h1:xs.length<=400000)(h2:ys.length<=400000):Does Tryz.prog 57 [.slice a1 xs.length c1,.slice a2 ys.length c2] [Sl Ty.int a1 c1 xs,Sl Ty.int a2 c2 ys] []
  (fun s:Option Addr×Nat=>.slice s.1 (puts (xs++ys)).length s.2) (fun s=>[Sl Ty.int s.1 s.2 (puts (xs++ys))]) (fun s=>[]):=by
 refine enter Tryz.func57 rfl Tryz.ntmps57 rfl fun b=>?_;refine w_ ?_;intros;refine GX.o (cl (concat_spec _ 2 xs ys h1 h2) fun s=>?_);obtain⟨ao,cap⟩:=s;dsimp only;have hl:(xs++ys).length<=800000:=by simp;omega
 generalize xs++ys=zs at hl ⊢;refine w_ ?_;intros;refine GX.opn ao fun g1 g2 ga=>?_;have h7:=once_len (sorted zs);have h6:=sorted_len zs;obtain⟨rfl,rfl,rfl⟩|⟨g,rfl⟩:=ga
 ·refine GX.o (cl (valuesG_spec none ([]:List Int).length 0) fun bl=>?_);refine w_ ?_;intros;refine GX.o (cl (sortedN_spec bl) fun s=>?_);refine w_ ?_;intros;refine GX.ownNil 3 Ty.int ?_;refine GX.o (cl (compact_spec none 0 [] (by simp)) fun _=>?_);have e0:once ([]:List Int)=puts []:=by
   have:=sorted_puts [];unfold sorted at this;rwa[List.mergeSort_nil] at this
  rw[e0];refine frz none ?_;refine w_ ?_;intros;exact rt1 (none,0) rfl
 ·refine GX.o (cl (valuesG_spec (some ⟨g,0,none⟩) zs.length cap) fun bl=>?_);refine w_ ?_;intros;refine GX.o (cl (sortedG_spec bl g 0 zs.length cap cap zs (by omega) (by omega)) fun s=>?_);obtain⟨ao3,cap3⟩:=s;dsimp only;rw[List.drop_zero];refine w_ ?_;intros;refine GX.o (cl (compact_spec ao3 cap3 (sorted zs) (by omega)) fun _=>?_);rw[sorted_puts];refine frz ao3 ?_;refine w_ ?_;intros;exact rt1 (ao3,cap3) rfl
end Go.Proofs.YtojfbbggnkijeaaGreatDoor
namespace Go.GX
open Go Go.RowKit Go.RR Go.RX
theorem frzS {n:Nat}{env:Env}{b:Base}{ps:List Pf}{hp:List Res}{K:Act->World->Prop}(bl:Nat){α:Type}(e:Ty α)(xs:List α){t:TypeId}{vs:List Value}{a:Option Addr}{m c:Nat}{rest:List Res}[hf:FRow bl hp t vs rest](h:G n env b (Pt (Ty.slice e) bl 0 xs::ps) rest K)(hv:vs=[.slice a m c]:=by exact rfl)(hr:Reads ps (.slice a m c) (Ty.slice e) xs:=by first|exact Go.GX.Rds.r):G n env b ps hp K:=
 frz_stA hf.p (fun F w h1 h2=>by
  have hrow:Row w bl t vs:=h2;subst hv;have hd:(Ty.slice e).rd F w (Value.slice a m c).cells.toList xs:=hr.as F w h1;exact⟨.inr rfl,hrow.lt,_,fun j c hj=>by rw[Nat.zero_add];exact hrow.cell_some hj,(Ty.slice e).move hd (fun _ _ h=>.inl h) (Agree.refl _ _)⟩) h
end Go.GX
namespace Go.Proofs.YtojfbbggnkijeaaGreatDoor
open Go Go.RR Go.RX Go.GX Go.Api Go.GuaM
attribute [local irreducible] wpList Code.wp wpPlan Exit.then Exit.inBlock bodyPost NoPanic Went GX.Post Again Meet RowR GX.Own Owns Box Sl Pt Ag MapR Kept Pin wpT GoK AtEnd Both
theorem any_dec' {P:Int->Prop}[DecidablePred P](l:List Int):(l.any fun x=>decide (P x))=decide (∃n∈l,P n):=by
 rw[Bool.eq_iff_iff,List.any_eq_true,decide_eq_true_eq];simp only[decide_eq_true_eq]
theorem kept_minus (xs ys:List Int):kept (fun n=>decide (n∈ys)) xs xs.length=minus xs ys:=by
 unfold kept minus;rw[List.take_length];congr 1;funext n;by_cases h:n∈ys<;>simp[h]
theorem some1_spec (bl:Nat)(l:List Int)(n:Int):Does Tryz.prog 280 [.int .i64 n,.pointer (some ⟨bl,0,none⟩)] [Pt (Ty.slice Ty.int) bl 0 l] [] (fun _:Unit=>.bool (decide (n∈l))) (fun _=>[]) (fun _=>[]):=by
 refine enter Tryz.func280 rfl Tryz.ntmps280 rfl fun b=>?_;refine w_ ?_;intros;refine GX.o (cl (contains_spec _ _ l n) fun _=>?_);refine w_ ?_;intros;exact rt1 () rfl
theorem all1_spec (bl:Nat)(l:List Int)(n:Int):Does Tryz.prog 287 [.int .i64 n,.pointer (some ⟨bl,0,none⟩)] [Pt (Ty.slice Ty.int) bl 0 l] [] (fun _:Unit=>.bool (decide (¬ n∈l))) (fun _=>[]) (fun _=>[]):=by
 refine enter Tryz.func287 rfl Tryz.ntmps287 rfl fun b=>?_;refine w_ ?_;intros;refine GX.o (cl (contains_spec _ _ l n) fun _=>?_);refine w_ ?_;intros;exact rt1 () rfl
theorem minus1_spec (bl:Nat)(l:List Int)(n:Int):Does Tryz.prog 286 [.int .i64 n,.pointer (some ⟨bl,0,none⟩)] [Pt (Ty.slice Ty.int) bl 0 l] [] (fun _:Unit=>.bool (decide (n∈l))) (fun _=>[]) (fun _=>[]):=by
 refine enter Tryz.func286 rfl Tryz.ntmps286 rfl fun b=>?_;refine w_ ?_;intros;refine GX.o (cl (contains_spec _ _ l n) fun _=>?_);refine w_ ?_;intros;exact rt1 () rfl
theorem gsome_spec (a1 a2:Option Addr)(c1 c2:Nat)(l m:List Int):Does Tryz.prog 202 [.slice a1 l.length c1,.slice a2 m.length c2] [Sl Ty.int a1 c1 l,Sl Ty.int a2 c2 m] []
  (fun _:Unit=>.bool (decide (∃n∈l,n∈m))) (fun _=>[]) (fun _=>[]):=by
 refine enter Tryz.func202 rfl Tryz.ntmps202 rfl fun b=>?_;refine w_ ?_;intros;refine nmP 3 ?_;rintro b3 rfl;refine frzS b3 Ty.int m ?_;refine GX.o (cl (containsFunc_spec a1 c1 l 280 [.pointer (some ⟨b3,0,none⟩)] [Pt (Ty.slice Ty.int) b3 0 m] [] (fun n=>decide (n∈m)) (fun n _=>some1_spec b3 m n)) fun _=>?_);rw[any_dec'];refine w_ ?_;intros;exact rt1 () rfl
theorem gall_spec (a1 a2:Option Addr)(c1 c2:Nat)(l m:List Int):Does Tryz.prog 206 [.slice a1 l.length c1,.slice a2 m.length c2] [Sl Ty.int a1 c1 l,Sl Ty.int a2 c2 m] []
  (fun _:Unit=>.bool (decide (∀n∈l,n∈m))) (fun _=>[]) (fun _=>[]):=by
 refine enter Tryz.func206 rfl Tryz.ntmps206 rfl fun b=>?_;refine w_ ?_;intros;refine nmP 3 ?_;rintro b3 rfl;refine frzS b3 Ty.int m ?_;refine GX.o (cl (containsFunc_spec a1 c1 l 287 [.pointer (some ⟨b3,0,none⟩)] [Pt (Ty.slice Ty.int) b3 0 m] [] (fun n=>decide (¬ n∈m)) (fun n _=>all1_spec b3 m n)) fun _=>?_);have e:(l.any fun n=>decide (¬ n∈m))=decide (¬ ∀n∈l,n∈m):=by
  rw[Bool.eq_iff_iff,List.any_eq_true];simp
 rw[e];refine w_ ?_;intros;exact rt1 () (congrArg Value.bool (decide_eq_decide.2 Classical.not_not.symm))
theorem gminus_spec (a1 a2:Option Addr)(c1 c2:Nat)(l m:List Int)(hl:l.length<=1000000):Does Tryz.prog 205 [.slice a1 l.length c1,.slice a2 m.length c2] [Sl Ty.int a1 c1 l,Sl Ty.int a2 c2 m] []
  (fun s:Option Addr×Nat=>.slice s.1 (minus l m).length s.2) (fun s=>[Sl Ty.int s.1 s.2 (minus l m)]) (fun _=>[]):=by
 refine enter Tryz.func205 rfl Tryz.ntmps205 rfl fun b=>?_;refine w_ ?_;intros;refine nmP 3 ?_;rintro b3 rfl;refine frzS b3 Ty.int m ?_;refine GX.o (cl (clone_spec a1 c1 l (by omega)) fun s=>?_);obtain⟨ao,cap⟩:=s;dsimp only;refine w_ ?_;intros;refine GX.o (cl (deleteFunc_spec ao cap l 286 [.pointer (some ⟨b3,0,none⟩)] [Pt (Ty.slice Ty.int) b3 0 m] [] (fun n=>decide (n∈m)) (fun n _=>minus1_spec b3 m n)) fun _=>?_);rw[kept_minus];refine frz ao ?_;refine w_ ?_;intros;exact rt1 (ao,cap) rfl
end Go.Proofs.YtojfbbggnkijeaaGreatDoor
namespace Go.Proofs.YtojfbbggnkijeaaGreatDoor
open Go Go.RR Go.RX Go.GX Go.Api Go.RiseM Go.ReachM Go.RtM
attribute [local irreducible] wpList Code.wp wpPlan Exit.then Exit.inBlock bodyPost NoPanic Went GX.Post Again Meet RowR GX.Own Owns Box Sl Pt Ag MapR Kept Pin wpT GoK AtEnd Both
structure GV where
 aC:Option Addr
 cC:Nat
 aG:Option Addr
 cG:Nat
 aU:Option Addr
 cU:Nat
 aV:Option Addr
 cV:Nat
 aT:Option Addr
 cT:Nat
 aO:Option Addr
 cO:Nat
 aI:Option Addr
 cI:Nat
 aJ:Option Addr
 cJ:Nat
 aF:Option Addr
 cF:Nat
 aS:Option Addr
 cS:Nat
 aL:Option Addr
 cL:Nat
 aX:Option Addr
 cX:Nat
 st:Nat
 wt:Nat
noncomputable instance decSeen (t:RTg)(k:Int)(L:List Int)(c:Int):Decidable (GuaM.Seen t k L c):=Classical.propDecidable _
noncomputable instance decClosed (t:RTg)(k:Int)(L:List Int):Decidable (GuaM.Closed t k L):=Classical.propDecidable _
noncomputable instance decCallC (t:RTg)(k:Int)(u:Unt)(x:Ins)(L:List Int):Decidable (GuaM.CallC t k u x L):=Classical.propDecidable _
noncomputable instance decPasses (t:RTg)(k:Int)(u:Unt)(x:Ins)(s:Api.State):Decidable (GuaM.Passes t k u x s):=Classical.propDecidable _
noncomputable def outs (t:RTg):List (List Int):=(List.range t.units.length).map fun u:Nat=>out t (u:Int)
theorem outs_get {t:RTg}{i:Nat}(h:i<t.units.length):(outs t)[i]?=some (out t i):=by
 unfold outs;rw[List.getElem?_map,List.getElem?_range h];rfl
noncomputable abbrev gcl (t:RTg)(u:Unt)(k:Int)(v:GV)(w:Value):List Value:=[.slice v.aC t.classes.length v.cC,.slice v.aG t.globals.length v.cG,.slice v.aU t.units.length v.cU,.int .i64 t.main,.int .i64 u.params,.slice v.aV u.vars.length v.cV,.int .i64 u.result,.slice v.aT u.takes.length v.cT,.slice v.aO u.owns.length v.cO,.slice v.aI u.ins.length v.cI,.slice v.aF (flds t).length v.cF,.slice v.aS (GuaM.both (glob t) (out t k)).length v.cS,.slice v.aL (glob t).length v.cL,.slice v.aX (outs t).length v.cX,.int .i64 0,.slice none 0 0,.bool false,.int .i64 0,.int .i64 0,.int .i64 0,.slice v.aJ u.ins.length v.cJ,.slice (some ⟨v.st,0,none⟩) u.ins.length u.ins.length,w,.slice (some ⟨v.wt,0,none⟩) u.ins.length u.ins.length]
theorem seen_spec (bl:Nat)(v:GV)(t:RTg)(u:Unt)(k:Int)(w:Value)(a:Option Addr)(cp:Nat)(L:List Int)(c:Int):Does Tryz.prog 285 [.pointer (some ⟨bl,0,none⟩),.int .i64 c,.slice a L.length cp]
  [Sl Ty.int a cp L,Sl Ty.int v.aS v.cS (GuaM.both (glob t) (out t k))] [RowR bl 151 (gcl t u k v (w))] (fun _:Unit=>.bool (decide (GuaM.Seen t k L c))) (fun _=>[]) (fun _=>[RowR bl 151 (gcl t u k v (w))]):=by
 refine enter Tryz.func285 rfl Tryz.ntmps285 rfl fun b=>?_;refine w_ ?_;intros;refine GX.o (cl (contains_spec v.aS v.cS (GuaM.both (glob t) (out t k)) c) fun _=>?_);have e:GuaM.Seen t k L c<->c∈GuaM.both (glob t) (out t k)\/c∈L:=by rw[GuaM.both_mem,or_assoc];exact Iff.rfl
 by_cases h:c∈GuaM.both (glob t) (out t k)
 ·refine w_ ?_;intros;exact rt1 () (vY (e.2 (.inl h)))
 ·refine w_ ?_;intros;refine GX.o (cl (contains_spec a cp L c) fun _=>?_);refine w_ ?_;intros;exact rt1 () (vI ⟨fun h2=>(e.1 h2).elim (fun h3=>absurd h3 h) id,fun h2=>e.2 (.inr h2)⟩)
theorem closed1_spec (bl b2 b3:Nat)(v:GV)(t:RTg)(u:Unt)(k:Int)(w:Value)(L:List Int)(c:Int):Does Tryz.prog 284 [.int .i64 c,.pointer (some ⟨b2,0,none⟩),.pointer (some ⟨b3,0,none⟩)]
  [Pt (Ty.slice Ty.int) b3 0 L,Sl Ty.int v.aS v.cS (GuaM.both (glob t) (out t k))] [RowR b2 144 [.pointer (some ⟨bl,0,none⟩)],RowR bl 151 (gcl t u k v (w))] (fun _:Unit=>.bool (decide (¬ GuaM.Seen t k L c))) (fun _=>[]) (fun _=>[RowR b2 144 [.pointer (some ⟨bl,0,none⟩)],RowR bl 151 (gcl t u k v (w))]):=by
 refine enter Tryz.func284 rfl Tryz.ntmps284 rfl fun b=>?_;refine w_ ?_;intros;refine nmS 7 ?_;rintro a cp rfl rfl;refine GX.o (cl (seen_spec bl v t u k w a cp L c) fun _=>?_);refine w_ ?_;intros;exact rt1 () rfl
theorem closed_spec (bl:Nat)(v:GV)(t:RTg)(u:Unt)(k:Int)(w:Value)(a:Option Addr)(cp:Nat)(L:List Int)(hs:Small t)(hL:L.length<=1000000):Does Tryz.prog 204 [.pointer (some ⟨bl,0,none⟩),.slice a L.length cp]
  [Sl Ty.int a cp L,Sl Ty.int v.aS v.cS (GuaM.both (glob t) (out t k)),Sl (Ty.slice Ty.int) v.aF v.cF (flds t)] [RowR bl 151 (gcl t u k v (w))] (fun _:Unit=>.bool (decide (GuaM.Closed t k L))) (fun _=>[]) (fun _=>[RowR bl 151 (gcl t u k v (w))]):=by
 refine enter Tryz.func204 rfl Tryz.ntmps204 rfl fun b=>?_;refine w_ ?_;intros;refine nmP 2 ?_;rintro b2 rfl;refine nmP 3 ?_;rintro b3 rfl;refine frzS b3 Ty.int L ?_;refine drawn2 (RowR b2 144 [.pointer (some ⟨bl,0,none⟩)]) (RowR bl 151 (gcl t u k v (w))) (fun j=>!(List.contains [7] j)) [(0,true),(1,true),(2,true),(3,true),(4,true),(6,true),(5,false),(7,false),(8,true),(9,true)] rfl (by kernel_rfl) (by kernel_rfl) sA ?_;intro wd F hW hR;refine u_ ?_;intros;refine nmS 9 ?_;rintro a3 c3 rfl rfl;have hc:=hs.classes;have hr:=hs.refs;have hfl:=flds_len t;refine GX.gow ?_;refine (cl (from_spec v.aF a3 v.cF c3 (flds t) L (by omega) hr (by omega)) fun s=>?_);obtain⟨a2,c2⟩:=s;dsimp only;refine frz a2 ?_;refine u_ ?_;intros;refine unpin (RowR b2 144 _) ?_;refine unpin (RowR bl 151 (gcl t u k v (w))) ?_;refine GX.gow ?_;refine (cl (containsFunc_spec a2 c2 (fromL (flds t) L) 284 [.pointer (some ⟨b2,0,none⟩),.pointer (some ⟨b3,0,none⟩)] [Pt (Ty.slice Ty.int) b3 0 L,Sl Ty.int v.aS v.cS (GuaM.both (glob t) (out t k))] [RowR b2 144 [.pointer (some ⟨bl,0,none⟩)],RowR bl 151 (gcl t u k v (w))] (fun n=>decide (¬ GuaM.Seen t k L n)) (fun n _=>closed1_spec bl b2 b3 v t u k w L n)) fun _=>?_);have e:((fromL (flds t) L).any fun n=>decide (¬ GuaM.Seen t k L n))=decide (¬ GuaM.Closed t k L):=by
  rw[Bool.eq_iff_iff,List.any_eq_true];simp[GuaM.Closed]
 rw[e];refine u_ ?_;intros;refine w_ ?_;intros;exact rt1 () (vI Classical.not_not.symm)
set_option maxHeartbeats 1000000 in
theorem gcall_spec (bl:Nat)(v:GV)(t:RTg)(u:Unt)(k:Int)(w:Value)(a:Option Addr)(cp:Nat)(L:List Int)(cs:List Value)(x:Ins)(g:Unt)(j:Nat)(hj:x.c=(j:Int))(hg:t.units[j]?=some g)(hL:L.length<=400000)(hu:u.takes.length<=400000):Does Tryz.prog 207 [.pointer (some ⟨bl,0,none⟩),.agg cs.toArray,.slice a L.length cp]
  [Ag tyIns cs x,Sl Ty.int a cp L,Sl tyUnt v.aU v.cU t.units,Sl Ty.int v.aV v.cV u.vars,Sl Ty.int v.aT v.cT u.takes,Sl tyIns v.aI v.cI u.ins,Sl tyIns v.aJ v.cJ u.ins,Sl (Ty.slice Ty.int) v.aF v.cF (flds t),Sl Ty.int v.aS v.cS (GuaM.both (glob t) (out t k)),Sl Ty.int v.aL v.cL (glob t),Sl (Ty.slice Ty.int) v.aX v.cX (outs t)] [RowR bl 151 (gcl t u k v (w))] (fun _:Unit=>.bool (decide (GuaM.CallC t k u x L))) (fun _=>[]) (fun _=>[RowR bl 151 (gcl t u k v (w))]):=by
 refine enter Tryz.func207 rfl Tryz.ntmps207 rfl fun b=>?_;have hjl:=(List.getElem?_eq_some_iff.1 hg).1;have ho:=outs_get hjl;refine w_ ?_;intros;refine drawn1 (RowR bl 151 (gcl t u k v (w))) (fun j=>!(List.contains [] j)) [(0,true),(1,true),(2,true),(3,true),(4,true),(5,true),(6,true),(7,true),(8,true),(9,true)] rfl (by kernel_rfl) (by kernel_rfl) sA ?_;intro wd F hW hR;refine u_ ?_;intros;refine nmP 4 ?_;rintro b4 rfl;refine nmS 16 ?_;rintro aQ cQ rfl rfl;refine unpin (RowR bl 151 (gcl t u k v (w))) ?_;refine w_ ?_;intros;have hiff:GuaM.CallC t k u x L<->(∀c∈out t (j:Int),GuaM.Seen t k L c)/\∀c∈g.takes,c∈L\/c∈u.takes:=by
  unfold GuaM.CallC;rw[hj];have hgt:gt t.units (j:Int)=some g:=by rw[gt_nat];exact hg
  constructor
  ·rintro⟨h1,h2⟩;exact⟨h1,h2 g hgt⟩
  ·rintro⟨h1,h2⟩;refine⟨h1,fun g' hg'=>?_⟩;rw[hgt] at hg';cases hg';exact h2
 refine GX.loop (σ:=Nat) (fun i=>[(0,.pointer (some ⟨bl,0,none⟩)),(2,.slice a L.length cp),(4,.pointer (some ⟨b4,0,none⟩)),(16,.slice aQ (out t (j:Int)).length cQ),(17,.int .i64 ((out t (j:Int)).length:Int)),(18,.int .i64 (i:Int))]) (fun _=>[]) (fun _=>[RowR bl 151 (gcl t u k v (w))])
  (fun i=>i<=(out t (j:Int)).length/\∀c∈(out t (j:Int)).take i,GuaM.Seen t k L c) (fun i=>(out t (j:Int)).length-i) 0 ⟨rfl,rfl,rfl,rfl,rfl,rfl,trivial⟩ ⟨by omega,by simp⟩ (fun i hi=>?_)
 obtain⟨hi,hn⟩:=hi;by_cases hlt:i<(out t (j:Int)).length
 ·obtain⟨c,hc⟩:=get_lt hlt;refine w_ ?_;intros;refine GX.o (cl (seen_spec bl v t u k w a cp L c) fun _=>?_);by_cases h:GuaM.Seen t k L c
  ·have h':¬ ¬ GuaM.Seen t k L c:=fun h2=>h2 h;refine w_ ?_;intros;refine again (i+1) ⟨rfl,rfl,rfl,rfl,rfl,rfl,trivial⟩ ⟨by omega,fun y hy=>?_⟩ (by omega);rw[List.take_add_one,hc,List.mem_append] at hy
   rcases hy with hy|hy
   ·exact hn y hy
   ·simp at hy;rw[hy];exact h
  ·refine w_ ?_;intros;exact rt1 () (vN fun h2=>h ((hiff.1 h2).1 c (List.mem_of_getElem? hc)))
 ·have hil:i=(out t (j:Int)).length:=by omega
  subst hil;rw[List.take_length] at hn;refine w_ ?_;intros;refine drawn1 (RowR bl 151 (gcl t u k v (w))) (fun j=>!(List.contains [17] j)) [(0,true),(1,true),(2,true),(3,true),(4,true),(5,true),(6,true),(7,true),(8,true),(9,true),(10,true),(11,true),(12,true),(13,true),(14,true),(15,true),(16,false),(17,false),(18,true)] rfl (by kernel_rfl) (by kernel_rfl) sA ?_;intro wd F hW hR;refine u_ ?_;intros;refine nmS 37 ?_;rintro aW cW rfl rfl;refine GX.gow ?_;refine (cl (both_spec a v.aT cp v.cT L u.takes hL hu) fun s=>?_);obtain⟨a5,c5⟩:=s;dsimp only;refine u_ ?_;intros;refine GX.gow ?_;refine (cl (gall_spec aW a5 cW c5 g.takes (puts (L++u.takes))) fun _=>?_);refine u_ ?_;intros;refine unpin (RowR bl 151 (gcl t u k v (w))) ?_;refine w_ ?_;intros;refine rt1 () (vI ?_);rw[hiff];have e:∀c,c∈puts (L++u.takes)<->c∈L\/c∈u.takes:=fun c=>by rw[(puts_spec _).2,List.mem_append]
  exact⟨fun h2 c hc=>(e c).2 (h2.2 c hc),fun h2=>⟨hn,fun c hc=>(e c).1 (h2 c hc)⟩⟩
end Go.Proofs.YtojfbbggnkijeaaGreatDoor
namespace Go.Proofs.YtojfbbggnkijeaaGreatDoor
open Go Go.RR Go.RX Go.GX Go.Api Go.FlowM Go.RiseM
attribute [local irreducible] wpList Code.wp wpPlan Exit.then Exit.inBlock bodyPost NoPanic Went GX.Post Again Meet RowR GX.Own Owns Box Sl Pt Ag MapR Kept Pin wpT GoK AtEnd Both
theorem next1_spec (bl:Nat)(c:Api.Code)(x:Int):Does Tryz.prog 209 [.int .i64 x,.pointer (some ⟨bl,0,none⟩)] [Pt tyCode bl 0 c] [] (fun _:Unit=>.bool (decide (¬ In c.ins.length x))) (fun _=>[]) (fun _=>[]):=by
 refine enter Tryz.func209 rfl Tryz.ntmps209 rfl fun b=>?_;by_cases h1:x<0
 ·refine w_ ?_;intros;exact rt1 () (congrArg Value.bool (decide_eq_true fun h=>by have:=h.1;omega))
 ·refine w_ ?_;intros;refine rt1 () (congrArg Value.bool (decide_eq_decide.2 ⟨fun h=>?_,fun h h2=>?_⟩))
  ·have:¬ x<c.ins.length:=fun h2=>h ⟨by omega,h2⟩;omega
  ·have:=h2.2;omega
theorem sorted_once {xs:List Int}{n:Nat}:once (sorted (kept (fun y=>decide (¬ In n y)) xs xs.length))=puts (xs.filter fun y=>decide (In n y)):=by
 have h1:=sorted_rise (kept (fun y=>decide (¬ In n y)) xs xs.length);obtain⟨h2,h3⟩:=compact_rise h1;obtain⟨h4,h5⟩:=puts_spec (xs.filter fun y=>decide (In n y));refine Rise.eq h2 h4 fun x=>?_;rw[h5];show x∈Lib.compact _<->_;rw[h3,sorted_mem];unfold kept;rw[List.take_length,List.mem_filter,List.mem_filter];simp
theorem next_spec (cs:List Value)(c:Api.Code)(i:Int):Does Tryz.prog 124 [.agg cs.toArray,.int .i64 i] [Ag tyCode cs c] []
  (fun s:Option Addr×Nat=>.slice s.1 (next c.ins i).length s.2) (fun s=>[Sl Ty.int s.1 s.2 (next c.ins i)]) (fun _=>[]):=by
 by_cases h1:i<0
 ·rw[next_none (.inl h1)];refine enter Tryz.func124 rfl Tryz.ntmps124 rfl fun b=>?_;refine w_ ?_;intros;refine slNil Ty.int ?_;exact rt1 (none,0) rfl
 by_cases h2:(c.ins.length:Int)<=i
 ·rw[next_none (.inr h2)];refine enter Tryz.func124 rfl Tryz.ntmps124 rfl fun b=>?_;refine w_ ?_;intros;refine slNil Ty.int ?_;exact rt1 (none,0) rfl
 obtain⟨k,rfl⟩:∃k:Nat,i=k:=⟨i.toNat,by omega⟩;obtain⟨x,hx⟩:=get_lt (show k<c.ins.length by omega);rw[next_some hx];have h3:k<c.ins.length:=by omega
 refine enter Tryz.func124 rfl Tryz.ntmps124 rfl fun b=>?_;refine w_ ?_ 6;intros;refine nmP 2 ?_;rintro b2 rfl;refine GX.cut (σ:=Nat) (fun s=>[(2,.pointer (some ⟨b2,0,none⟩)),(5,.slice (some ⟨s,0,none⟩) (targets x k).length (targets x k).length)]) (fun _=>[]) (fun s=>[GX.Own 3 Ty.int (some ⟨s,0,none⟩) (targets x k).length (targets x k)]) (fun _=>x.op≠18) ?_ (fun s hs=>?_)
 ·by_cases e18:x.op=18
  ·have e:nextOf x c.ins.length (k:Int)=[]:=by unfold nextOf targets;rw[if_pos e18];rfl
   rw[e];refine w_ ?_ 4;intros;refine slNil Ty.int ?_;exact rt1 (none,0) rfl
  ·by_cases e16:x.op=16
   ·have e:targets x (k:Int)=[x.n]:=by unfold targets;rw[if_neg e18,if_pos e16]
    refine w_ ?_ 4;intros;refine nmB 5 ?_;rintro b5 rfl;exact meet b5 ⟨rfl,by rw[e];rfl,trivial⟩ e18 (h2:=by rw[e];exact sA)
   ·by_cases e17:x.op=17
    ·have e:targets x (k:Int)=[x.n,x.c]:=by unfold targets;rw[if_neg e18,if_neg e16,if_pos e17]
     refine w_ ?_ 4;intros;refine nmB 5 ?_;rintro b5 rfl;exact meet b5 ⟨rfl,by rw[e];rfl,trivial⟩ e18 (h2:=by rw[e];exact sA)
    ·have e:targets x (k:Int)=[(k:Int)+1]:=by unfold targets;rw[if_neg e18,if_neg e16,if_neg e17]
     refine w_ ?_ 4;intros;refine nmB 5 ?_;rintro b5 rfl;exact meet b5 ⟨rfl,by rw[e];rfl,trivial⟩ e18 (h2:=by rw[e];exact sA)
 ·have h4:(targets x (k:Int)).length<=2:=by unfold targets;(repeat' split)<;>simp
  refine w_ ?_;intros;refine GX.o (cl (deleteFunc_spec (some ⟨s,0,none⟩) (targets x k).length (targets x k) 209 [.pointer (some ⟨b2,0,none⟩)] [Pt tyCode b2 0 c] [] (fun y=>decide (¬ In c.ins.length y)) (fun y _=>next1_spec b2 c y)) fun _=>?_);have h5:=kept_len (fun y=>decide (¬ In c.ins.length y)) (targets x (k:Int)) (targets x (k:Int)).length (Nat.le_refl _);have e:nextOf x c.ins.length (k:Int)=once (sorted (kept (fun y=>decide (¬ In c.ins.length y)) (targets x k) (targets x k).length)):=sorted_once.symm;rw[e];obtain⟨L,hL⟩:∃L,L=kept (fun y=>decide (¬ In c.ins.length y)) (targets x (k:Int)) (targets x (k:Int)).length:=⟨_,rfl⟩;rw[<- hL] at h5 ⊢;refine w_ ?_;intros;refine GX.o (cl (sort_spec (some ⟨s,0,none⟩) (targets x k).length L (by omega)) fun _=>?_);have h6:=sorted_len L;rw[<- h6];refine w_ ?_;intros;refine GX.o (cl (compact_spec (some ⟨s,0,none⟩) (targets x k).length (sorted L) (by omega)) fun _=>?_);refine w_ ?_;intros;refine frz (some ⟨s,0,none⟩) ?_;exact rt1 (_,_) rfl
end Go.Proofs.YtojfbbggnkijeaaGreatDoor
namespace Go.Proofs.YtojfbbggnkijeaaGreatDoor
open Go Go.RR Go.RX Go.GX Go.Api Go.FlowM Go.RiseM Go.LivM
attribute [local irreducible] wpList Code.wp wpPlan Exit.then Exit.inBlock bodyPost NoPanic Went GX.Post Again Meet RowR GX.Own Owns Box Sl Pt Ag MapR Kept Pin wpT GoK AtEnd Both
theorem isVar_spec (x:Int):Does Tryz.prog 283 [.int .i64 x] [] [] (fun _:Unit=>.bool (decide (In 4000 x))) (fun _=>[]) (fun _=>[]):=by
 refine enter Tryz.func283 rfl Tryz.ntmps283 rfl fun b=>?_;by_cases h1:0<=x
 ·refine w_ ?_;intros;exact rt1 () (congrArg Value.bool (decide_eq_decide.2 ⟨fun h=>h.2,fun h=>⟨h1,h⟩⟩))
 ·refine w_ ?_;intros;exact rt1 () (congrArg Value.bool (decide_eq_false fun h=>h1 h.1))
theorem uses1_spec (x:Int):Does Tryz.prog 282 [.int .i64 x] [] [] (fun _:Unit=>.bool (decide (¬ In 4000 x))) (fun _=>[]) (fun _=>[]):=by
 refine enter Tryz.func282 rfl Tryz.ntmps282 rfl fun b=>?_;refine w_ ?_;intros;refine GX.o (cl (isVar_spec x) fun _=>?_);refine w_ ?_;intros;exact rt1 () rfl
set_option maxHeartbeats 2000000 in
theorem asked_spec (cs:List Value)(x:Ins)(hx:x.args.length<=17592186043904):Does Tryz.prog 281 [.agg cs.toArray] [Ag tyIns cs x] [] (fun s:Option Addr×Nat=>.slice s.1 (asks x).length s.2) (fun _=>[]) (fun s=>[GX.Own 3 Ty.int s.1 s.2 (asks x)]):=by
 refine enter Tryz.func281 rfl Tryz.ntmps281 rfl fun b=>?_;by_cases e3:x.op=3
 ·rw[show asks x=[x.b] by simp[asks,e3]];refine w_ ?_ 4;intros;exact rt1 (_,_) rfl
 by_cases e5:x.op=5
 ·rw[show asks x=[x.b] by simp[asks,e5]];refine w_ ?_ 4;intros;exact rt1 (_,_) rfl
 by_cases e6:x.op=6
 ·rw[show asks x=[x.b] by simp[asks,e6]];refine w_ ?_ 4;intros;exact rt1 (_,_) rfl
 by_cases e10:x.op=10
 ·rw[show asks x=[x.b] by simp[asks,e10]];refine w_ ?_ 4;intros;exact rt1 (_,_) rfl
 by_cases e12:x.op=12
 ·rw[show asks x=[x.b] by simp[asks,e12]];refine w_ ?_ 4;intros;exact rt1 (_,_) rfl
 by_cases e4:x.op=4
 ·rw[show asks x=[x.b,x.c] by simp[asks,e4]];refine w_ ?_ 4;intros;exact rt1 (_,_) rfl
 by_cases e8:x.op=8
 ·rw[show asks x=[x.b,x.c] by simp[asks,e8]];refine w_ ?_ 4;intros;exact rt1 (_,_) rfl
 by_cases e7:x.op=7
 ·rw[show asks x=[x.a,x.b] by simp[asks,e7]];refine w_ ?_ 4;intros;exact rt1 (_,_) rfl
 by_cases e9:x.op=9
 ·rw[show asks x=[x.a,x.b,x.c] by simp[asks,e9]];refine w_ ?_ 4;intros;exact rt1 (_,_) rfl
 by_cases e13:x.op=13
 ·rw[show asks x=x.args by simp[asks,e13]];refine w_ ?_ 4;intros;refine GX.o (cl (clone_spec _ _ x.args hx) fun s=>?_);obtain⟨a,c⟩:=s;dsimp only;refine w_ ?_ 4;intros;exact rt1 (_,_) rfl
 by_cases e15:x.op=15
 ·rw[show asks x=[x.a] by simp[asks,e15]];refine w_ ?_ 4;intros;exact rt1 (_,_) rfl
 by_cases e17:x.op=17
 ·rw[show asks x=[x.a] by simp[asks,e17]];refine w_ ?_ 4;intros;exact rt1 (_,_) rfl
 by_cases e18:x.op=18
 ·rw[show asks x=[x.a] by simp[asks,e18]];refine w_ ?_ 4;intros;exact rt1 (_,_) rfl
 by_cases e20:x.op=20
 ·rw[show asks x=[x.a] by simp[asks,e20]];refine w_ ?_ 4;intros;exact rt1 (_,_) rfl
 rw[show asks x=[] by simp[asks,e3,e5,e6,e10,e12,e4,e8,e7,e9,e13,e15,e17,e18,e20]];refine w_ ?_ 4;intros;refine ownNil 3 Ty.int ?_;exact rt1 (none,0) rfl
set_option maxHeartbeats 1000000 in
theorem uses_spec (cs:List Value)(x:Ins)(hx:x.args.length<=17592186043904):Does Tryz.prog 203 [.agg cs.toArray] [Ag tyIns cs x] [] (fun s:Option Addr×Nat=>.slice s.1 (uses x).length s.2) (fun s=>[Sl Ty.int s.1 s.2 (uses x)]) (fun _=>[]):=by
 refine enter Tryz.func203 rfl Tryz.ntmps203 rfl fun b=>?_;refine w_ ?_;intros;refine GX.o (cl (asked_spec _ x hx) fun s=>?_);obtain⟨a,c⟩:=s;dsimp only
 have h4:(asks x).length<=17592186043904:=by unfold asks;(repeat' split)<;>first|exact hx|(simp only[List.length_cons,List.length_nil];omega)
 refine w_ ?_;intros;refine GX.o (cl (deleteFunc_spec a c (asks x) 282 [] [] [] (fun y=>decide (¬ In 4000 y)) (fun y _=>uses1_spec y)) fun _=>?_);have h5:=kept_len (fun y=>decide (¬ In 4000 y)) (asks x) (asks x).length (Nat.le_refl _);have e:uses x=once (sorted (kept (fun y=>decide (¬ In 4000 y)) (asks x) (asks x).length)):=sorted_once.symm;rw[e];obtain⟨L,hL⟩:∃L,L=kept (fun y=>decide (¬ In 4000 y)) (asks x) (asks x).length:=⟨_,rfl⟩;rw[<- hL] at h5 ⊢;refine w_ ?_;intros;refine GX.o (cl (sort_spec a c L (by omega)) fun _=>?_);have h6:=sorted_len L;rw[<- h6];refine w_ ?_;intros;refine GX.o (cl (compact_spec a c (sorted L) (by omega)) fun _=>?_);refine w_ ?_;intros;refine frz a ?_;exact rt1 (_,_) rfl
set_option maxHeartbeats 2000000 in
theorem def_spec (cs:List Value)(x:Ins):Does Tryz.prog 208 [.agg cs.toArray] [Ag tyIns cs x] [] (fun _:Unit=>.int .i64 (def_ x)) (fun _=>[]) (fun _=>[]):=by
 refine enter Tryz.func208 rfl Tryz.ntmps208 rfl fun b=>?_;refine w_ ?_;intros;refine nmP 1 ?_;rintro b1 rfl;refine GX.cut (σ:=Bool) (fun q=>[(1,.pointer (some ⟨b1,0,none⟩)),(4,.int .i64 x.op),(5,.bool q)]) (fun _=>[]) (fun _=>[]) (fun q=>q=decide (Sets x.op)) ?_ (fun q hq=>?_)
 ·by_cases e1:x.op=1
  ·refine w_ ?_;intros;exact meet _ ⟨rfl,rfl,rfl,trivial⟩ (by simp[Sets,e1])
  by_cases e2:x.op=2
  ·refine w_ ?_;intros;exact meet _ ⟨rfl,rfl,rfl,trivial⟩ (by simp[Sets,e2])
  by_cases e3:x.op=3
  ·refine w_ ?_;intros;exact meet _ ⟨rfl,rfl,rfl,trivial⟩ (by simp[Sets,e3])
  by_cases e4:x.op=4
  ·refine w_ ?_;intros;exact meet _ ⟨rfl,rfl,rfl,trivial⟩ (by simp[Sets,e4])
  by_cases e5:x.op=5
  ·refine w_ ?_;intros;exact meet _ ⟨rfl,rfl,rfl,trivial⟩ (by simp[Sets,e5])
  by_cases e6:x.op=6
  ·refine w_ ?_;intros;exact meet _ ⟨rfl,rfl,rfl,trivial⟩ (by simp[Sets,e6])
  by_cases e8:x.op=8
  ·refine w_ ?_;intros;exact meet _ ⟨rfl,rfl,rfl,trivial⟩ (by simp[Sets,e8])
  by_cases e10:x.op=10
  ·refine w_ ?_;intros;exact meet _ ⟨rfl,rfl,rfl,trivial⟩ (by simp[Sets,e10])
  by_cases e11:x.op=11
  ·refine w_ ?_;intros;exact meet _ ⟨rfl,rfl,rfl,trivial⟩ (by simp[Sets,e11])
  by_cases e12:x.op=12
  ·refine w_ ?_;intros;exact meet _ ⟨rfl,rfl,rfl,trivial⟩ (by simp[Sets,e12])
  by_cases e13:x.op=13
  ·refine w_ ?_;intros;exact meet _ ⟨rfl,rfl,rfl,trivial⟩ (by simp[Sets,e13])
  by_cases e14:x.op=14
  ·refine w_ ?_;intros;exact meet _ ⟨rfl,rfl,rfl,trivial⟩ (by simp[Sets,e14])
  by_cases e19:x.op=19
  ·refine w_ ?_;intros;exact meet _ ⟨rfl,rfl,rfl,trivial⟩ (by simp[Sets,e19])
  refine w_ ?_;intros;exact meet _ ⟨rfl,rfl,rfl,trivial⟩ (by simp[Sets,e1,e2,e3,e4,e5,e6,e8,e10,e11,e12,e13,e14,e19])
 by_cases hs:Sets x.op
 ·have hq1:q=true:=by rw[hq];exact decide_eq_true hs
  by_cases hv:In 4000 x.a
  ·rw[show def_ x=x.a from if_pos ⟨hs,hv⟩];refine w_ ?_;intros;refine GX.o (cl (isVar_spec x.a) fun _=>?_);refine w_ ?_;intros;exact rt1 () rfl
  ·rw[show def_ x=-1 from if_neg fun h=>hv h.2];refine w_ ?_;intros;refine GX.o (cl (isVar_spec x.a) fun _=>?_);refine w_ ?_;intros;exact rt1 () rfl
 ·have hq1:q=false:=by rw[hq];exact decide_eq_false hs
  rw[show def_ x=-1 from if_neg fun h=>hs h.1];refine w_ ?_;intros;exact rt1 () rfl
end Go.Proofs.YtojfbbggnkijeaaGreatDoor
