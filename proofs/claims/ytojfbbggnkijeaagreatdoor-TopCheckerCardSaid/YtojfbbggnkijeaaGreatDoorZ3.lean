import Derived.Test.YtojfbbggnkijeaaGreatDoorZ2
set_option linter.all false
namespace Go.GX
open Go Go.RowKit Go.RR Go.RX
class UTy (P:Program)(t:TypeId){α:outParam Type}(e:outParam (Ty α))(z:outParam α)(zv:outParam Value):Prop where
 zero:∀w,(zeroValue t).run P w=.ok zv w
 rd:∀F w,e.rd F w zv.cells.toList z
section
variable {P:Program} {n:Nat} {env:Env} {b:Base} {ps:List Pf} {hp:List Res} {Q:Exit->Act->World->Prop} {K:Act->World->Prop}
variable {F:Nat->Prop} {hp1:List Res} {w w':World}
theorem mkOk {pf:List Pf}{hr:List Res}(s:St b F ps hp1 w)(hu:Upd (feet hp1) w w')(X:Nat->Prop)(hX1:∀k,X k->k<w'.heap.size)(hX2:∀k,X k->k<w.heap.size->feet hp1 k)
  (h1:AllP (fun k=>F k\/X k) w' pf) (h2:AllR (fun k=>F k\/X k) w' hr) (h3:∀r∈hr,∀k,r.on k->¬ X k) (h4:hr.Pairwise Apart) (h5:∀r∈hr,∀k,r.on k->k<w.heap.size->feet hp1 k):Ok ⟨w,feet hp1,F⟩ pf hr w':=by
 refine⟨fun k=>F k\/X k,hu,?_,?_,h1,h2,?_,h4,h5⟩
 ·rintro k (hk|hk)
  ·exact Nat.lt_of_lt_of_le (s.lt k hk) hu.size
  ·exact hX1 k hk
 ·rintro k (hk|hk) hlt
  ·exact .inl hk
  ·exact .inr (hX2 k hk hlt)
 ·rintro r hr' k hk (hf|hx)
  ·obtain⟨r1,hr1,hk1⟩:=h5 r hr' k hk (s.lt k hf);exact s.apF r1 hr1 k hk1 hf
  ·exact h3 r hr' k hk hx
theorem agF (s:St b F ps hp1 w)(hu:Upd (feet hp1) w w'):Agree F w w':=Agree.of_upd hu (fun k _ hf ⟨r,hr,hk⟩=>s.apF r hr k hk hf)
theorem upd0 (h:Upd (fun _=>False) w w'):Upd (feet []) w w':=h.mono (fun _ _ h=>h.elim)
theorem one_p {p:Pf}(h:p.says F w):AllP F w [p]:=fun q hq=>by
 rcases List.mem_cons.1 hq with rfl|hq
 ·exact h
 ·simp at hq
theorem one_r {p:Res}(h:p.says F w):AllR F w [p]:=fun q hq=>by
 rcases List.mem_cons.1 hq with rfl|hq
 ·exact h
 ·simp at hq
theorem no_p:AllP F w []:=fun q hq=>by simp at hq
theorem no_r:AllR F w []:=fun q hq=>by simp at hq
theorem in_one {p q:Res}{C:Res->Prop}(h:C p)(hq:q∈[p]):C q:=by
 rcases List.mem_cons.1 hq with rfl|hq
 ·exact h
 ·simp at hq
theorem mkOk1 {r r':Res}(s:St b F ps [r] w)(hu:Upd r.on w w')(h2:r'.says F w')(h5:∀k,r'.on k->k<w.heap.size->r.on k):Ok ⟨w,feet [r],F⟩ [] [r'] w':=by
 refine mkOk s (hu.mono fun k _ hk=>⟨r,by simp,hk⟩) (fun _=>False) (fun k h=>h.elim) (fun k h=>h.elim) no_p (one_r (r'.move h2 (fun _ _ h=>.inl h) (Agree.refl _ _) (Agree.refl _ _))) (fun _ _ _ _ h=>h) (by simp) ?_;intro q hq k hk hlt;exact⟨r,by simp,in_one (C:=fun q=>q.on k->r.on k) (fun h=>h5 k h hlt) hq hk⟩
theorem mkOkN {r':Res}(s:St b F ps [] w)(hu:Upd (fun _=>False) w w')(h2:r'.says F w')(h5:∀k,r'.on k->w.heap.size<=k):Ok ⟨w,feet [],F⟩ [] [r'] w':=by
 refine mkOk s (upd0 hu) (fun _=>False) (fun k h=>h.elim) (fun k h=>h.elim) no_p (one_r (r'.move h2 (fun _ _ h=>.inl h) (Agree.refl _ _) (Agree.refl _ _))) (fun _ _ _ _ h=>h) (by simp) ?_;intro q hq k hk hlt;have:=in_one (C:=fun q=>q.on k->w.heap.size<=k) (h5 k) hq hk;omega
theorem mkOkF {p:Pf}{bl:Nat}(s:St b F ps [] w)(hu:Upd (fun _=>False) w w')(hb:w.heap.size<=bl)(hl:bl<w'.heap.size)(h2:p.says (fun k=>F k\/k=bl) w'):Ok ⟨w,feet [],F⟩ [p] [] w':=
 mkOk s (upd0 hu) (fun k=>k=bl) (fun k h=>by omega) (fun k h h2=>by omega) (one_p h2) no_r (by simp) (by simp) (by simp)
theorem Acts.use {o:Oper}{ι:Type}{val:ι->Value}{pf:ι->List Pf}{hr:ι->List Res}{rest:List Res}(ha:Acts P n env ps hp1 o val pf hr)(hl:hp.Perm (hp1++rest))
  (h:∀i,G n (match o.dst with|some d=>(d,val i)::env|none=>env) b (pf i++ps) (hr i++rest) K):GO P n env b ps hp o K Q:=act ha hl h
section making
variable {d:Nat} {ty:TypeId} {pos:String} {aft:Array Edge} {gd:Option (Nat×Bool)} {t:TypeId} {x y:Operand} {α:Type} {e:Ty α}
theorem bxF {cs:List Value}{y:α}(h:∀bl,G n ((d,.pointer (some ⟨bl,0,none⟩))::env) b (Pt e bl 0 y::ps) hp K)(hx:ev env x=some (.agg cs.toArray):=by exact rfl)(hf:FAg cs ps e y:=by exact inferInstance)(hd:Nat.blt d n=true:=by exact rfl):GO P n env b ps hp ⟨some d,.box t x,ty,pos,aft,gd⟩ K Q:=by
 refine Acts.use (hp1:=[]) (rest:=hp) (ι:=Nat) (val:=fun bl=>.pointer (some ⟨bl,0,none⟩)) (pf:=fun bl=>[Pt e bl 0 y]) (hr:=fun _=>[]) ?_ (List.Perm.refl _) h;intro F w K Q b s hk;refine RX.box hx hd (fun bl w' hb hr hu=>hk bl w' (mkOkF s hu hb hr.lt ?_));have hrd:e.rd F w cs y:=s.fs _ hf.mem;have hr:Row w' bl t cs:=by simpa[Value.cells] using hr
 exact⟨.inr rfl,hr.lt,cs,fun j c hj=>by rw[Nat.zero_add];exact hr.cell_some hj,e.move hrd (fun _ _ h=>.inl h) (agF s (upd0 hu))⟩
theorem bxR {v:Value}{vs:List Value}(h:∀bl,G n ((d,.pointer (some ⟨bl,0,none⟩))::env) b ps (RowR bl t vs::hp) K)(hx:ev env x=some v:=by exact rfl)(hv:v.cells.toList=vs:=by exact rfl)(hd:Nat.blt d n=true:=by exact rfl):GO P n env b ps hp ⟨some d,.box t x,ty,pos,aft,gd⟩ K Q:=by
 subst hv;refine Acts.use (hp1:=[]) (rest:=hp) (ι:=Nat) (val:=fun bl=>.pointer (some ⟨bl,0,none⟩)) (pf:=fun bl=>[]) (hr:=fun bl=>[RowR bl t v.cells.toList]) ?_ (List.Perm.refl _) h;intro F w K Q b s hk;exact RX.box hx hd (fun bl w' hb hr hu=>hk bl w' (mkOkN s hu hr (fun k hk=>by have hk:k=bl:=hk;omega)))
theorem al {z:α}{zv:Value}[hz:UTy P t e z zv](h:∀bl,G n ((d,.pointer (some ⟨bl,0,none⟩))::env) b ps (Box t e bl z::hp) K)(hd:Nat.blt d n=true:=by exact rfl):GO P n env b ps hp ⟨some d,.alloc t,ty,pos,aft,gd⟩ K Q:=by
 refine Acts.use (hp1:=[]) (rest:=hp) (ι:=Nat) (val:=fun bl=>.pointer (some ⟨bl,0,none⟩)) (pf:=fun bl=>[]) (hr:=fun bl=>[Box t e bl z]) ?_ (List.Perm.refl _) h;intro F w K Q b s hk;have hv:=hz.zero w;refine RX.eff (v:=.pointer (some ⟨w.heap.size,0,none⟩)) (w':=w.alloc (.cells zv.cells t)) (fun a ha=>?_) hd (hk w.heap.size _ (mkOkN s ((Upd.refl _ _).alloc _) ⟨_,Row.new w t zv.cells.toList,hz.rd _ _⟩ (fun k hk=>by have hk:k=w.heap.size:=hk;omega)));simp[execOp,Instr.alloc,hv,newVar,newRow]
theorem made_flat {zs:Array Value}{s:Nat}(hs:zs.size=s)(c:Nat):(madeCells zs (c*s)).toList=(List.replicate c zs.toList).flatten:=by
 subst hs
 induction c with
 |zero=>simp[madeCells]
 |succ c ih=>
  rw[List.replicate_succ',List.flatten_append,<-ih];apply List.ext_getElem
  ·simp[size_madeCells,Nat.add_mul]
  ·intro j h1 h2;simp only[madeCells,Array.toList_map,Array.toList_range,List.getElem_map,List.getElem_range];by_cases hj:j<c*zs.size
   ·rw[List.getElem_append_left (by simpa using hj)];simp
   ·rw[List.getElem_append_right (by simpa using hj)];simp[size_madeCells,Nat.add_mul] at h1;obtain⟨r,rfl⟩:=Nat.exists_eq_add_of_le (show c*zs.size<=j by omega);have hm:(c*zs.size+r)%zs.size=r:=by rw[Nat.mul_comm,Nat.mul_add_mod,Nat.mod_eq_of_lt (by omega)]
    rw[hm,getElem!_pos zs r (by omega)];simp
theorem els_rep {z:α}{F:Nat->Prop}{w:World}{cs:List Value}(h:e.rd F w cs z):∀c,Els e F w (List.replicate c cs).flatten (List.replicate c z)
 |0=>rfl
 |c+1=>by rw[List.replicate_succ,List.replicate_succ,List.flatten_cons];exact⟨_,_,rfl,h,els_rep h c⟩
theorem mks {et:TypeId}{kx ky:IntKind}{c:Nat}{i:Int}{z:α}{zv:Value}{size bytes:Nat}[ht:USlice P t et][hi:UElem P et zv size bytes][hz:UTy P et e z zv](h:∀bl,G n ((d,.slice (some ⟨bl,0,none⟩) c c)::env) b ps (Own et e (some ⟨bl,0,none⟩) c (List.replicate c z)::hp) K)
  (hx:ev env x=some (.int kx i):=by exact rfl) (hy:ev env y=some (.int ky i):=by exact rfl) (hi0:i=(c:Int):=by first|rfl|omega) (hb:bytes*c<=281474976710656:=by omega) (h63:c<=9223372036854775807:=by omega) (hsz:e.size=size:=by exact rfl) (hzs:zv.cells.size=size:=by exact rfl) (hd:Nat.blt d n=true:=by exact rfl):
  GO P n env b ps hp ⟨some d,.makeSlice t x y,ty,pos,aft,gd⟩ K Q:=by
 subst hsz;refine Acts.use (hp1:=[]) (rest:=hp) (ι:=Nat) (val:=fun bl=>.slice (some ⟨bl,0,none⟩) c c) (pf:=fun bl=>[]) (hr:=fun bl=>[Own et e (some ⟨bl,0,none⟩) c (List.replicate c z)]) ?_ (List.Perm.refl _) h;intro F w K Q b s hk;refine RX.make hx hy hi0 hb h63 hd (fun bl w' hbl hr hu=>hk bl w' (mkOkN s hu ?_ (fun k hk=>?_)))
 ·have hr:Row w' bl et (madeCells zv.cells (c*e.size)).toList:=hr;refine⟨(madeCells zv.cells (c*e.size)).toList,⟨by simp[size_madeCells],.inr ⟨bl,c,madeCells zv.cells (c*e.size),by simp,Nat.zero_le _,hr,by simp,by simp only[maxLen];omega,by simp[size_madeCells],?_⟩⟩,?_⟩
  ·rw[List.take_of_length_le (by simp[size_madeCells])]
  ·rw[made_flat hzs];exact els_rep (hz.rd _ _) c
 ·have hk:(some bl:Option Nat)=some k:=hk;cases hk;exact hbl
end making
end
variable {d:Nat} {ty:TypeId} {pos:String} {aft:Array Edge} {gd:Option (Nat×Bool)}
def over (vs:List Value)(i:Nat)(cs:List Value):List Value:=vs.take i++(cs++vs.drop (i+cs.length))
theorem over_nil (vs:List Value)(i:Nat):over vs i []=vs:=by simp[over]
theorem over_cons (vs:List Value)(i:Nat)(c:Value)(cs:List Value)(h:i<vs.length):over (vs.set i c) (i+1) cs=over vs i (c::cs):=by
 unfold over;rw[List.take_set,List.drop_set_of_lt (by omega),List.length_cons];have h1:(vs.take (i+1)).set i c=vs.take i++[c]:=by
  rw[List.set_eq_take_append_cons_drop,if_pos (by rw[List.length_take];omega),List.take_take,List.drop_take];simp[Nat.min_eq_left (Nat.le_succ i)]
 rw[h1,show i+1+cs.length=i+(cs.length+1) by omega];simp
theorem over_length (vs:List Value)(i:Nat)(cs:List Value)(h:i+cs.length<=vs.length):(over vs i cs).length=vs.length:=by
 unfold over;simp;omega
section
variable {P:Program} {n:Nat} {env:Env} {b:Base} {ps:List Pf} {hp:List Res} {Q:Exit->Act->World->Prop} {K:Act->World->Prop}
theorem run_storeAll {bl o:Nat}{te:TypeId}:∀(cs vs:List Value) (w:World) (i:Nat),Row w bl te vs->o+i+cs.length<=vs.length->(∀u∈cs,u.oneCell'=true)->
  ∃w',(storeCells ⟨bl,o,none⟩ cs i).run P w=.ok () w'/\Row w' bl te (over vs (o+i) cs)/\Upd (fun k=>k=bl) w w'
 |[],vs,w,i,hr,_,_=>⟨w,rfl,by rw[over_nil];exact hr,Upd.refl _ _⟩
 |c::r,vs,w,i,hr,hl,h1=>by
  simp only[List.length_cons] at hl;have hc:=hr.cell_some (i:=o+i) (List.getElem?_eq_getElem (by omega));have hset:=hr.set (o+i) c;have hu:Upd (fun k=>k=bl) w (w.setCell ⟨bl,o+i,none⟩ c):=(Upd.refl (fun k=>k=bl) w).setCell (p:=⟨bl,o+i,none⟩) (fun _=>rfl) c;obtain⟨w',h2,h3,h4⟩:=run_storeAll (bl:=bl) (o:=o) r (vs.set (o+i) c) _ (i+1) hset (by simp;omega) (fun u hu=>h1 u (List.mem_cons_of_mem _ hu));refine⟨w',?_,by rw[<- over_cons vs (o+i) c r (by omega)];exact h3,hu.trans h4 (fun _ _ h=>h) (fun _ _ h=>h)⟩;simp only[storeCells,Addr.add_lit];simp[run_store P w _ c _ (h1 c (by simp)),hc,hr.free (o+i),h2]
theorem store_cells {t te:TypeId}{x y:Operand}{bl o:Nat}{v:Value}{cs vs:List Value}{w:World}[hs:USize P t cs.length](hx:ev env x=some (.pointer (some ⟨bl,o,none⟩)))(hy:ev env y=some v)(hv:v.cells.toList=cs)
  (hr:Row w bl te vs) (h1:∀u∈cs,u.oneCell'=true) (hi:o+cs.length<=vs.length) (h:∀w',Row w' bl te (over vs o cs)->Upd (fun k=>k=bl) w w'->E n env w' K):OW P n env w ⟨none,.store t x y,ty,pos,aft,gd⟩ K Q:=by
 obtain⟨w',h2,h3,h4⟩:=run_storeAll (P:=P) (bl:=bl) (o:=o) (te:=te) cs vs w 0 hr (by omega) h1;refine RX.effU (w':=w') (fun a ha=>?_) (h w' h3 h4);have hsz:v.cells.size=cs.length:=by rw[<- hv];simp
 simp[execOp,ha.ev hx,ha.ev hy,Instr.storeAt,Instr.sureAddr,storeVar,hs.s,hv,hsz,h2]
def RdsAs (ps:List Pf){α:Type}(v:Value)(f:Ty α)(z:α):Prop:=∀F w,AllP F w ps->f.rd F w v.cells.toList z
inductive Reads (ps:List Pf):{α:Type}->Value->Ty α->α->Prop where
 |num {k:IntKind} {i:Int}:Reads ps (.int k i) (Ty.num k) i
 |bool {p:Bool}:Reads ps (.bool p) Ty.bool p
 |str {s:ByteArray}:Reads ps (.string s) Ty.string s
 |hdr {a:Option Addr} {n c:Nat}:Reads ps (.slice a n c) Ty.hdr (a,n,c)
 |agg {α:Type} {cs:List Value} {e:Ty α} {y:α} [h:FAg cs ps e y]:Reads ps (.agg cs.toArray) e y
 |slice {α:Type} {ao:Option Addr} {cap m:Nat} {e:Ty α} {xs:List α} [h:FSl ao ps e cap xs] (hm:m=xs.length):Reads ps (.slice ao m cap) (Ty.slice e) xs
 |nils {α:Type} {e:Ty α}:Reads ps (.slice none 0 0) (Ty.slice e) []
 |of {α:Type} {v:Value} {e:Ty α} {y:α} (h:RdsAs ps v e y):Reads ps v e y
theorem Reads.as {α:Type}{v:Value}{f:Ty α}{z:α}(h:Reads ps v f z):RdsAs ps v f z:=by
 intro F w hps
 cases h with
 |num=>rfl
 |bool=>rfl
 |str=>rfl
 |hdr=>rfl
 |agg=>rename_i cs h;exact (hps _ h.mem:(Ag f cs z).says F w)
 |slice hm=>rename_i e h;subst hm;obtain⟨h1,h2,h3⟩:=hps _ h.mem;exact⟨_,_,rfl,h1,h2,h3⟩
 |nils=>exact⟨none,0,rfl,Nat.le_refl _,by omega,fun i x hx=>by simp at hx⟩
 |of h=>exact h F w hps
class Rds (ps:List Pf){α:Type}(v:Value)(e:Ty α)(y:outParam α):Prop where
 r:Reads ps v e y
instance (k:IntKind)(i:Int):Rds ps (.int k i) (Ty.num k) i:=⟨.num⟩
instance (p:Bool):Rds ps (.bool p) Ty.bool p:=⟨.bool⟩
instance (a:Option Addr)(n c:Nat):Rds ps (.slice a n c) Ty.hdr (a,n,c):=⟨.hdr⟩
instance {α:Type}(cs:List Value)(e:Ty α)(y:α)[FAg cs ps e y]:Rds ps (.agg cs.toArray) e y:=⟨.agg⟩
instance {α:Type}(ao:Option Addr)(cap:Nat)(e:Ty α)(xs:List α)[FSl ao ps e cap xs]:Rds ps (.slice ao xs.length cap) (Ty.slice e) xs:=⟨.slice rfl⟩
instance {α:Type}(e:Ty α):Rds ps (.slice none 0 0) (Ty.slice e) []:=⟨.nils⟩
section storing
variable {ty:TypeId} {pos:String} {aft:Array Edge} {gd:Option (Nat×Bool)} {t te:TypeId} {x y:Operand} {α β:Type} {e:Ty α}
variable {bl sz:Nat} {rest:List Res} {g cap:Nat} {xs:List α} {F:Nat->Prop}
theorem stB {off:Nat}{y0:α}{f:Ty β}{get:α->β}{put:β->α->α}{v:Value}{z:β}[hs:USize P t sz](h:G n env b ps (Box te e bl (put z y0)::rest) K)
  (hx:ev env x=some (.pointer (some ⟨bl,off,none⟩)):=by exact rfl) (hy:ev env y=some v:=by exact rfl) (hf:FBox bl hp te e y0 rest:=by exact inferInstance) (hsub:Sub e off f get put:=by exact inferInstance) (hr:Reads ps v f z:=by first|exact Go.GX.Rds.r|exact .slice (by simp)) (hsz:f.size=sz:=by exact rfl):GO P n env b ps hp ⟨none,.store t x y,ty,pos,aft,gd⟩ K Q:=by
 subst hsz;refine Acts.use (hp1:=[Box te e bl y0]) (ι:=Unit) (val:=fun _=>undef) (pf:=fun _=>[]) (hr:=fun _=>[Box te e bl (put z y0)]) ?_ hf.p (fun _=>h);intro F w K Q b s hk;obtain⟨cs,h1,h2⟩:(Box te e bl y0).says F w:=s.rs _ (by simp);have h3:=hr.as F w s.fs;have hl:=f.len h3;have hfit:=hsub.fits;have hcl:=e.len h2;have:USize P t v.cells.toList.length:=⟨by rw[hl];exact hs.s⟩;refine store_cells hx hy rfl h1 (f.one h3) (by omega) (fun w' hrow hu=>?_);have hu':Upd (feet [Box te e bl y0]) w w':=hu.mono fun k _ hk=>⟨Box te e bl y0,by simp,hk⟩;refine hk () w' (mkOk1 s hu ⟨_,hrow,?_⟩ (fun k hk _=>hk));have:=hsub.put h2 h3;unfold over;rw[hl];exact e.move this (fun _ _ h=>h) (agF s hu')
theorem stW {y0 z:α}{v:Value}[hs:USize P t sz](h:G n env b ps (Box te e bl z::rest) K)
  (hx:ev env x=some (.pointer (some ⟨bl,0,none⟩)):=by exact rfl) (hy:ev env y=some v:=by exact rfl) (hf:FBox bl hp te e y0 rest:=by exact inferInstance) (hr:Reads ps v e z:=by first|exact Go.GX.Rds.r|exact .slice (by simp)) (hsz:e.size=sz:=by exact rfl):GO P n env b ps hp ⟨none,.store t x y,ty,pos,aft,gd⟩ K Q:=by
 have:Sub e 0 e (fun y=>y) (fun z _=>z):=Sub.whole e;exact stB (f:=e) (get:=fun y=>y) (put:=fun z _=>z) h hx hy hf this hr hsz
theorem stR {i:Nat}{v:Value}{vs vs':List Value}[hs:USize P t 1](h:G n env b ps (RowR bl te vs'::rest) K)
  (hx:ev env x=some (.pointer (some ⟨bl,i,none⟩)):=by exact rfl) (hy:ev env y=some v:=by exact rfl) (hf:FRow bl hp te vs rest:=by exact inferInstance) (hv:v.oneCell'=true:=by exact rfl) (hi:Nat.blt i vs.length=true:=by exact rfl) (hset:vs.set i v=vs':=by first|(simp only[List.set_cons_zero,List.set_cons_succ];exact rfl)|exact rfl):GO P n env b ps hp ⟨none,.store t x y,ty,pos,aft,gd⟩ K Q:=by
 subst hset;refine Acts.use (hp1:=[RowR bl te vs]) (ι:=Unit) (val:=fun _=>undef) (pf:=fun _=>[]) (hr:=fun _=>[RowR bl te (vs.set i v)]) ?_ hf.p (fun _=>h);intro F w K Q b s hk;have h1:Row w bl te vs:=s.rs (RowR bl te vs) (by simp);refine RX.store_row hx hy h1 hv (by simpa[Nat.blt_eq] using hi) (fun w' hrow hu=>hk () w' (mkOk1 s hu hrow (fun k hk _=>hk)))
theorem own_open {w:World}(h:(Own te e (some ⟨g,0,none⟩) cap xs).says F w):
  ∃cs tl,Row w g te (cs++tl)/\Els e F w cs xs/\(cs++tl).length=cap*e.size/\xs.length<=cap/\cap<=maxLen:=by
 obtain⟨cs,h1,h2⟩:=h
 rcases h1.2 with ⟨h3,_⟩|⟨g',cap',cur,h3,_,hg,h4,h5,h6,h7⟩
 ·simp at h3
 ·simp only[Value.slice.injEq,Option.some.injEq,Addr.mk.injEq,and_true,true_and] at h3;obtain⟨rfl,rfl⟩:=h3;refine⟨cs,cur.toList.drop (xs.length*e.size),?_,h2,?_,h4,h5⟩
  ·rw[<- h7,List.take_append_drop];exact hg
  ·rw[<- h7,List.take_append_drop];simpa using h6
theorem own_close {w:World}{cs tl:List Value}(hr:Row w g te (cs++tl))(he:Els e F w cs xs)(hl:(cs++tl).length=cap*e.size)(hx:xs.length<=cap)(hc:cap<=maxLen):(Own te e (some ⟨g,0,none⟩) cap xs).says F w:=by
 have hcl:=he.len;refine⟨cs,⟨hcl,.inr ⟨g,cap,(cs++tl).toArray,rfl,Nat.zero_le _,hr,hx,hc,by simpa using hl,?_⟩⟩,he⟩;show (cs++tl).take _=cs;rw[<- hcl,List.take_left]
theorem stO {i off:Nat}{x0:α}{f:Ty β}{get:α->β}{put:β->α->α}{v:Value}{z:β}[hs:USize P t sz][hf:FOwn (some ⟨g,0,none⟩) hp te e cap xs rest][hsub:Sub e off f get put]
  (h:G n env b ps (Own te e (some ⟨g,0,none⟩) cap (xs.set i (put z x0))::rest) K) (hx:ev env x=some (.pointer (some ⟨g,i*e.size+off,none⟩))) (hi:xs[i]?=some x0) (hy:ev env y=some v) (hr:Reads ps v f z) (hsz:f.size=sz):GO P n env b ps hp ⟨none,.store t x y,ty,pos,aft,gd⟩ K Q:=by
 subst hsz;refine Acts.use (hp1:=[Own te e (some ⟨g,0,none⟩) cap xs]) (ι:=Unit) (val:=fun _=>undef) (pf:=fun _=>[]) (hr:=fun _=>[Own te e (some ⟨g,0,none⟩) cap (xs.set i (put z x0))]) ?_ hf.p (fun _=>h);intro F w K Q b s hk;obtain⟨cs,tl,h1,h2,h3,h4,h5⟩:=own_open (s.rs (Own te e (some ⟨g,0,none⟩) cap xs) (by simp));obtain⟨l,m,r,rfl,e2,e3,e4⟩:=h2.get hi;have h6:=hr.as F w s.fs;have hl:=f.len h6;have hfit:=hsub.fits;have hml:=e.len e3;have:USize P t v.cells.toList.length:=⟨by rw[hl];exact hs.s⟩;refine store_cells hx hy rfl h1 (f.one h6) (by simp only[List.length_append];omega) (fun w' hrow hu=>?_);have hu':Upd (feet [Own te e (some ⟨g,0,none⟩) cap xs]) w w':=hu.mono fun k _ hk=>⟨Own te e (some ⟨g,0,none⟩) cap xs,by simp,by subst hk;rfl⟩;have hput:=e4 _ _ (hsub.put e3 h6);have ho:over (l++(m++r)++tl) (i*e.size+off) v.cells.toList=(l++((m.take off++(v.cells.toList++m.drop (off+f.size)))++r))++tl:=by
  unfold over;rw[hl,<-e2];rw[List.append_assoc,List.take_length_add_append,Nat.add_assoc,List.append_assoc m,<-List.drop_drop,List.drop_left,List.take_append_of_le_length (by omega),List.drop_append_of_le_length (by omega)];simp
 rw[ho] at hrow;refine hk () w' (mkOk1 s (hu.mono fun k _ hk=>by subst hk;rfl) (own_close hrow (hput.move (fun _ _ h=>h) (agF s hu')) ?_ (by simpa using h4) h5) (fun k hk _=>hk));rw[<- ho,over_length _ _ _ (by simp only[List.length_append];omega)];exact h3
end storing
theorem fillAll {sz:Nat}:∀(l:List Value) (k:Nat) (pre post:List Value),(∀v∈l,v.cells.size=sz)->pre.length=k*sz->l.length*sz<=post.length->
  Instr.fill (fun i=>some (i*sz,sz)) (pre++post).toArray ((l.zipIdx k).map fun p=>(p.2,p.1))=some (pre++(l.flatMap (·.cells.toList)++post.drop (l.length*sz))).toArray
 |[],k,pre,post,_,_,_=>by simp[Instr.fill]
 |v::l,k,pre,post,hv,hpre,hpost=>by
  have hvs:=hv v (by simp);rw[List.length_cons,Nat.add_mul,Nat.one_mul] at hpost;have key:∀(cs:List Value) (pre post:List Value) (j:Nat),cs.length<=post.length->((cs.zipIdx j).foldl (fun (acc:Array Value) (p:Value×Nat)=>acc.setIfInBounds (pre.length-j+p.2) p.1) (pre++post).toArray)=(pre++(cs++post.drop cs.length)).toArray\/pre.length<j:=by
   intro cs
   induction cs with
   |nil=>intro pre post j _;left;simp
   |cons c cs ih=>
    intro pre post j hl
    rcases Nat.lt_or_ge pre.length j with hj|hj
    ·exact .inr hj
    ·left
     match post,hl with
     |p::post,hl=>
      simp only[List.length_cons,Nat.add_le_add_iff_right] at hl;rw[List.zipIdx_cons,List.foldl_cons];have e1:(pre++p::post).toArray.setIfInBounds (pre.length-j+j) c=((pre++[c])++post).toArray:=by
       rw[Nat.sub_add_cancel hj];simp
      rw[e1];have:=ih (pre++[c]) post (j+1) hl
      rcases this with h|h
      ·rw[List.length_append,List.length_singleton,Nat.add_sub_add_right] at h;rw[h];simp
      ·simp at h;omega
  have h1:(v.cells.zipIdx.foldl (fun (cs:Array Value) (p:Value×Nat)=>cs.setIfInBounds (k*sz+p.2) p.1) (pre++post).toArray)=(pre++(v.cells.toList++post.drop sz)).toArray:=by
   rcases key v.cells.toList pre post 0 (by simp;omega) with h|h
   ·rw[Nat.sub_zero,hpre,Array.length_toList,hvs] at h;rw[<- h,<-Array.foldl_toList,Array.toList_zipIdx]
   ·omega
  have hm:((v::l).zipIdx k).map (fun p=>(p.2,p.1))=(k,v)::(l.zipIdx (k+1)).map (fun p=>(p.2,p.1)):=by simp
  rw[hm,Instr.fill];simp only;rw[if_neg (by simp[hvs,hpre];omega)]
  have h2:(v.cells.zipIdx.foldl (fun cs x=>match x with|(c,j)=>cs.setIfInBounds (k*sz+j) c) (pre++post).toArray)=(pre++(v.cells.toList++post.drop sz)).toArray:=h1;rw[h2,<-List.append_assoc];rw[fillAll l (k+1) (pre++v.cells.toList) (post.drop sz) (fun u hu=>hv u (by simp[hu])) (by simp[hvs,hpre,Nat.add_mul]) (by simp;omega)];rw[List.drop_drop,List.length_cons,Nat.add_mul,Nat.one_mul,Nat.add_comm sz];simp
inductive Lits (ps:List Pf){α:Type}(e:Ty α):List Value->List α->Prop where
 |nil:Lits ps e [] []
 |cons {v:Value} {vs:List Value} {y:α} {ys:List α}:Reads ps v e y->Lits ps e vs ys->Lits ps e (v::vs) (y::ys)
theorem Lits.els {α:Type}{e:Ty α}{F:Nat->Prop}{w:World}(h:AllP F w ps):∀{vs:List Value} {ys:List α},Lits ps e vs ys->Els e F w (vs.flatMap (·.cells.toList)) ys
 |_,_,.nil=>rfl
 |_,_,.cons h1 h2=>by rw[List.flatMap_cons];exact⟨_,_,rfl,h1.as F w h,h2.els h⟩
theorem Lits.len {α:Type}{e:Ty α}:∀{vs:List Value} {ys:List α},Lits ps e vs ys->ys.length=vs.length
 |_,_,.nil=>rfl
 |_,_,.cons _ h2=>by rw[List.length_cons,List.length_cons,h2.len]
theorem Lits.size {α:Type}{e:Ty α}{F:Nat->Prop}{w:World}(h:AllP F w ps):∀{vs:List Value} {ys:List α},Lits ps e vs ys->∀v∈vs,v.cells.size=e.size
 |_,_,.nil,_,hv=>by simp at hv
 |_,_,.cons h1 h2,v,hv=>by
  rcases List.mem_cons.1 hv with rfl|hv
  ·have:=e.len (h1.as F w h);simpa using this
  ·exact h2.size h v hv
section lits
variable {d:Nat} {ty:TypeId} {pos:String} {aft:Array Edge} {gd:Option (Nat×Bool)} {t et:TypeId} {α:Type} {e:Ty α}
variable {sz:Nat} {zv:Value} {z:α} {parts:List (Nat×Operand)} {pv:List (Nat×Value)} {ys:List α}
theorem run_slit {len:Nat}{vs:List Value}{F:Nat->Prop}{w:World}[ht:USlice P t et][hs:USize P et sz][hz:UTy P et e z zv]{o:Oper}{a:Act}(ho:o.op=.buildSlice t len parts.toArray)(ha:Has n env a)
  (hx:RX.evp env parts=some pv) (hpv:pv=vs.zipIdx.map fun p=>(p.2,p.1)) (hlen:len=vs.length) (hsz:e.size=sz) (hsm:vs.length*sz<=16777216) (h:AllP F w ps) (hl:Lits ps e vs ys):(execOp a.eval o).run P w=.ok (.value (.slice (some ⟨w.heap.size,0,none⟩) vs.length vs.length)) (w.alloc (.cells (vs.flatMap (·.cells.toList)).toArray et)):=by
 subst hsz;subst hlen;have hev:=ha.evp hx;have hcl:=(hl.els h).len;have hzl:zv.cells.size=e.size:=by have:=e.len (hz.rd F w);simpa using this
 have hfl:(vs.flatMap (·.cells.toList)).length=vs.length*e.size:=by rw[hcl,hl.len]
 have hf:∀A:Array Value,A.size=vs.length*e.size->Instr.fill (fun i=>some (i*e.size,e.size)) A pv=some (vs.flatMap (·.cells.toList)).toArray:=fun A hA=>by
  have:=fillAll (sz:=e.size) vs 0 [] A.toList (hl.size h) (by simp) (by simp[hA]);rw[List.drop_of_length_le (by simp[hA])] at this;rw[hpv];simpa using this
 have hg:¬ (16777216<vs.length*e.size):=by omega
 by_cases h0:vs.length=0
 ·have:vs=[]:=List.length_eq_zero_iff.1 h0;subst this;simp only[List.zipIdx_nil,List.map_nil] at hpv;subst hpv;simp[execOp,ho,hev,Instr.buildSlice,run_underlying ht.u,hs.s,newRow,Instr.fill];rw[show ∀f:Nat->Value,Array.map f (Array.range 0)=#[] from fun f=>by apply Array.eq_empty_of_size_eq_zero;rw[Array.size_map,Array.size_range]]
 ·have hA:∀A:Array Value,A.size=vs.length*e.size->Instr.fill (fun i=>some (i*e.size,e.size)) A pv=some (vs.flatMap (·.cells.toList)).toArray:=hf;simp[execOp,ho,hev,Instr.buildSlice,run_underlying ht.u,hs.s,newRow,hg,hz.zero,hzl,hA]
theorem slF {len:Nat}{vs:List Value}[ht:USlice P t et][hs:USize P et sz][hz:UTy P et e z zv](h:∀bl,G n ((d,.slice (some ⟨bl,0,none⟩) len len)::env) b (Sl e (some ⟨bl,0,none⟩) len ys::ps) hp K)
  (hx:RX.evp env parts=some pv) (hpv:pv=vs.zipIdx.map fun p=>(p.2,p.1)) (hlen:len=vs.length) (hl:Lits ps e vs ys) (hsz:e.size=sz) (hsm:vs.length*sz<=16777216/\vs.length<=16777216) (hd:Nat.blt d n=true:=by exact rfl):GO P n env b ps hp ⟨some d,.buildSlice t len parts.toArray,ty,pos,aft,gd⟩ K Q:=by
 subst hlen;refine Acts.use (hp1:=[]) (rest:=hp) (ι:=Nat) (val:=fun bl=>.slice (some ⟨bl,0,none⟩) vs.length vs.length) (pf:=fun bl=>[Sl e (some ⟨bl,0,none⟩) vs.length ys]) (hr:=fun _=>[]) ?_ (List.Perm.refl _) h;intro F w K Q b s hk;refine RX.eff (fun a ha=>run_slit (F:=F) rfl ha hx hpv rfl hsz hsm.1 s.fs hl) hd (hk w.heap.size _ ?_);have hu:Upd (fun _=>False) w (w.alloc (.cells (vs.flatMap (·.cells.toList)).toArray et)):=(Upd.refl _ _).alloc _;have hrow:=Row.new w et (vs.flatMap (·.cells.toList));have hne:(vs.flatMap (·.cells.toList)).length=vs.length*e.size:=by rw[(hl.els s.fs).len,hl.len]
 refine mkOkF s hu (Nat.le_refl _) hrow.lt ⟨by rw[hl.len];exact Nat.le_refl _,by omega,fun i x hx=>?_⟩;obtain⟨m,h3,h4⟩:=((hl.els s.fs).move (fun _ _ h=>h) (agF s (upd0 hu))).cells hx;exact⟨_,0,m,rfl,.inr rfl,hrow.lt,fun j c hj=>by rw[Nat.zero_add];exact hrow.cell_some (h4 j c hj),e.move h3 (fun _ _ h=>.inl h) (Agree.refl _ _)⟩
theorem slO {len:Nat}{vs:List Value}[ht:USlice P t et][hs:USize P et sz][hz:UTy P et e z zv](h:∀bl,G n ((d,.slice (some ⟨bl,0,none⟩) len len)::env) b ps (Own et e (some ⟨bl,0,none⟩) len ys::hp) K)
  (hx:RX.evp env parts=some pv) (hpv:pv=vs.zipIdx.map fun p=>(p.2,p.1)) (hlen:len=vs.length) (hl:Lits ps e vs ys) (hsz:e.size=sz) (hsm:vs.length*sz<=16777216/\vs.length<=16777216) (hd:Nat.blt d n=true:=by exact rfl):GO P n env b ps hp ⟨some d,.buildSlice t len parts.toArray,ty,pos,aft,gd⟩ K Q:=by
 subst hlen;refine Acts.use (hp1:=[]) (rest:=hp) (ι:=Nat) (val:=fun bl=>.slice (some ⟨bl,0,none⟩) vs.length vs.length) (pf:=fun bl=>[]) (hr:=fun bl=>[Own et e (some ⟨bl,0,none⟩) vs.length ys]) ?_ (List.Perm.refl _) h;intro F w K Q b s hk;refine RX.eff (fun a ha=>run_slit (F:=F) rfl ha hx hpv rfl hsz hsm.1 s.fs hl) hd (hk w.heap.size _ ?_);have hu:Upd (fun _=>False) w (w.alloc (.cells (vs.flatMap (·.cells.toList)).toArray et)):=(Upd.refl _ _).alloc _;have hrow:=Row.new w et (vs.flatMap (·.cells.toList));have he:=(hl.els s.fs).move (fun _ _ h=>h) (agF s (upd0 hu));refine mkOkN s hu (own_close (cs:=vs.flatMap (·.cells.toList)) (tl:=[]) (by rw[List.append_nil];exact hrow) he (by rw[List.append_nil,he.len,hl.len]) (by rw[hl.len];exact Nat.le_refl _) (by simp only[maxLen];omega)) (fun k hk=>?_);have hk:(some w.heap.size:Option Nat)=some k:=hk;cases hk;exact Nat.le_refl _
end lits
variable {ao:Option Addr}
theorem sl_cells {α:Type}{e:Ty α}{F:Nat->Prop}{w:World}{bl o:Nat}:∀(xs:List α) (k:Nat),(∀(i:Nat) x,xs[i]?=some x->∃cs,CellsAt w bl (o+(k+i)*e.size) cs/\e.rd F w cs x)->∃cs,Els e F w cs xs/\∀(j:Nat) c,cs[j]?=some c->w.cell? ⟨bl,o+k*e.size+j,none⟩=some c
 |[],k,_=>⟨[],rfl,by simp⟩
 |x::xs,k,h=>by
  obtain⟨c1,h1,h2⟩:=h 0 x (by simp);obtain⟨c2,h3,h4⟩:=sl_cells (e:=e) (F:=F) (w:=w) (bl:=bl) (o:=o) xs (k+1) (fun i y hy=>by
   have:=h (i+1) y (by simpa using hy);rwa[show k+(i+1)=k+1+i by omega] at this)
  have hl:=e.len h2;refine⟨c1++c2,⟨c1,c2,rfl,h2,h3⟩,fun j c hj=>?_⟩
  rcases Nat.lt_or_ge j c1.length with hlt|hge
  ·rw[List.getElem?_append_left hlt] at hj;have:=h1 j c hj;rwa[Nat.add_zero] at this
  ·rw[List.getElem?_append_right hge] at hj;have:=h4 (j-c1.length) c hj;rw[Nat.add_mul,Nat.one_mul,show o+(k*e.size+e.size)+(j-c1.length)=o+k*e.size+j by omega] at this;exact this
theorem slAt_cells {α:Type}{e:Ty α}{F:Nat->Prop}{w:World}{xs:List α}(h:SlAt e F w ao xs)(hne:xs≠[]):∃bl o cs,ao=some ⟨bl,o,none⟩/\Els e F w cs xs/\∀(j:Nat) c,cs[j]?=some c->w.cell? ⟨bl,o+j,none⟩=some c:=by
 match xs,hne with
 |x::xs,_=>
  obtain⟨bl,o,cs,rfl,_,_,h4,h5⟩:=h 0 x (by simp);obtain⟨cs',h6,h7⟩:=sl_cells (e:=e) (F:=F) (w:=w) (bl:=bl) (o:=o) (x::xs) 0 (fun i y hy=>by
   obtain⟨b',o',c',e1,_,_,e4,e5⟩:=h i y hy;cases e1;rw[Nat.zero_add];exact⟨c',e4,e5⟩)
  exact⟨bl,o,cs',rfl,h6,fun j c hj=>by have:=h7 j c hj;rwa[Nat.zero_mul,Nat.add_zero] at this⟩
theorem run_app_nil {t e:TypeId}{z:Value}{sz bytes:Nat}[ht:USlice P t e][hi:UElem P e z sz bytes]{ao2:Option Addr}{n' cap cap2:Nat}(h:n'<=cap)(w:World)(ty:TypeId):(Builtin.append_ #[t,t] ty #[.slice ao n' cap,.slice ao2 0 cap2]).run P w=.ok (.slice ao n' cap) w:=by
 obtain⟨ii,h0,h2,h3,h4⟩:=info_parts hi.i
 cases ao with
 |none=>cases ao2<;>simp[Builtin.append_,run_underlying ht.u,sizeOf,typeInfo,h0,Builtin.lenOf,Builtin.firstCells,h,loadCells,loadCellsFrom]
 |some a=>cases ao2<;>simp[Builtin.append_,run_underlying ht.u,sizeOf,typeInfo,h0,Builtin.lenOf,Builtin.firstCells,h,storeCells,loadCells,loadCellsFrom]
section appends
variable {d:Nat} {ty:TypeId} {pos:String} {aft:Array Edge} {gd:Option (Nat×Bool)} {t et:TypeId} {x y:Operand} {α:Type} {e:Ty α}
variable {xs ys:List α} {ao2:Option Addr}
theorem app_acts {cap m m2:Nat}{cap2:Nat}{z:Value}{sz bytes:Nat}[ht:USlice P t et][hi:UElem P et z sz bytes](hsl:Sl e ao2 cap2 ys∈ps)(hx:ev env x=some (.slice ao m cap))(hy:ev env y=some (.slice ao2 m2 cap2))
  (hm:m=xs.length) (hm2:m2=ys.length) (hb:(xs.length+ys.length)*bytes<=140737488355328/\xs.length+ys.length<=9223372036854775807) (hsz:e.size=sz) (hzs:z.cells.size=sz) (hpos:Nat.blt 0 sz=true) (hd:Nat.blt d n=true):
  Acts P n env ps [Own et e ao cap xs] ⟨some d,.call {callee:=.builtin .append,args:=#[x,y],argTypes:=#[t,t] },ty,pos,aft,gd⟩ (fun q:Option Addr×Nat=>.slice q.1 (xs++ys).length q.2) (fun _=>[]) (fun q=>[Own et e q.1 q.2 (xs++ys)]):=by
 subst hm;subst hm2;subst hsz;intro F w K Q b s hk;obtain⟨cs,h1,h2⟩:(Own et e ao cap xs).says F w:=s.rs _ (by simp);obtain⟨g1,g2,g3⟩:(Sl e ao2 cap2 ys).says F w:=s.fs _ hsl;have hpos':0<e.size:=by simpa[Nat.blt_eq] using hpos
 by_cases h0:ys=[]
 ·subst h0;have hcap:xs.length<=cap:=by
   rcases h1.2 with ⟨h3,h4⟩|⟨g',cap',cur,h3,_,_,h5,_⟩
   ·omega
   ·simp at h3;omega
  ·refine RX.eff (v:=.slice ao xs.length cap) (w':=w) (fun a ha=>?_) hd ?_
   ·have hrun:=run_app_nil (P:=P) (t:=t) (e:=et) (ao:=ao) (ao2:=ao2) (cap2:=cap2) hcap w ty;simp[execOp,ha.ev hx,ha.ev hy,resolve,invoke,builtin,hrun]
   ·have:=hk (ao,cap) w (mkOk1 s (Upd.refl _ _) (by rw[List.append_nil];exact⟨cs,h1,h2⟩) (fun k hk _=>by simpa using hk));simpa using this
 ·obtain⟨bl,o,news,rfl,h5,h6⟩:=slAt_cells g3 h0;refine RX.append (news:=news) (B:=0) hd hx hy h1 (Nat.zero_le _) h5.len (fun j u hj=>by rw[Addr.add_lit];exact h6 j u hj) h5.one hzs hpos' (by simp only[maxLen];omega) hb.1 (fun v' w' hown hu hlies=>?_);have hlen:(xs++ys).length=xs.length+ys.length:=List.length_append;obtain⟨a',cap',rfl⟩:∃a' cap',v'=.slice a' (xs++ys).length cap':=by
   rcases hown.2 with ⟨h7,h8⟩|⟨g,cap',cur,h7,_⟩
   ·exact⟨none,0,by rw[h7,hlen,h8]⟩
   ·exact⟨_,cap',by rw[h7,hlen]⟩
  have hu':Upd (feet [Own et e ao cap xs]) w w':=hu.mono fun k _ hk=>⟨Own et e ao cap xs,by simp,hk⟩;refine hk (a',cap') w' (mkOk1 s hu ⟨cs++news,by rw[hlen] at hown ⊢;exact hown,((h2.append h5).move (fun _ _ h=>h) (agF s hu'))⟩ (fun k hk hlt=>?_));have hk:Value.ownBlock (.slice a' (xs++ys).length cap')=some k:=hk
  rcases hlies with h7|h7
  ·rw[h7] at hk;exact hk
  ·rw[h7] at hk;cases hk;omega
theorem ap {cap m m2:Nat}{cap2:Nat}{z:Value}{sz bytes:Nat}{rest:List Res}[ht:USlice P t et][hi:UElem P et z sz bytes]
  (h:∀ao' cap',G n ((d,.slice ao' (xs++ys).length cap')::env) b ps (Own et e ao' cap' (xs++ys)::rest) K) (hx:ev env x=some (.slice ao m cap):=by exact rfl) (hy:ev env y=some (.slice ao2 m2 cap2):=by exact rfl) (hf:FOwn ao hp et e cap xs rest:=by exact inferInstance) (hsl:FSl ao2 ps e cap2 ys:=by exact inferInstance)
  (hm:m=xs.length:=by first|rfl|omega|(simp;done)) (hm2:m2=ys.length:=by first|rfl|omega|(simp;done)) (hb:(xs.length+ys.length)*bytes<=140737488355328/\xs.length+ys.length<=9223372036854775807:=by first|omega|(simp only[List.length_cons,List.length_nil,List.length_append];omega)) (hsz:e.size=sz:=by exact rfl) (hzs:z.cells.size=sz:=by exact rfl) (hpos:Nat.blt 0 sz=true:=by exact rfl) (hd:Nat.blt d n=true:=by exact rfl):
  GO P n env b ps hp ⟨some d,.call {callee:=.builtin .append,args:=#[x,y],argTypes:=#[t,t] },ty,pos,aft,gd⟩ K Q:=
 act (app_acts hsl.mem hx hy hm hm2 hb hsz hzs hpos hd) hf.p (fun q=>h q.1 q.2)
theorem ownNil (t:TypeId)(e:Ty α)(h:G n env b ps (Own t e none 0 []::hp) K):G n env b ps hp K:=by
 constructor;rintro w ⟨F,s⟩;refine h.run w ⟨F,s.upd,s.lt,s.old,s.fs,?_,?_,?_,?_⟩
 ·intro r hr
  rcases List.mem_cons.1 hr with rfl|hr
  ·exact⟨[],World.ownsRow_nil w 0 t e.size,rfl⟩
  ·exact s.rs r hr
 ·intro r hr k hk
  rcases List.mem_cons.1 hr with rfl|hr
  ·have hk:(none:Option Nat)=some k:=hk;cases hk
  ·exact s.apF r hr k hk
 ·refine List.pairwise_cons.2 ⟨fun r _ k hk=>?_,s.apart⟩;have hk:(none:Option Nat)=some k:=hk;cases hk
 ·intro r hr k hk
  rcases List.mem_cons.1 hr with rfl|hr
  ·have hk:(none:Option Nat)=some k:=hk;cases hk
  ·exact s.on r hr k hk
end appends
variable {α:Type} {t:TypeId} {e:Ty α} {cap:Nat} {xs:List α} {rest:List Res}
theorem frzAt {F:Nat->Prop}{w:World}(h:(Own t e ao cap xs).says F w):xs.length<=cap/\cap<=9223372036854775807/\SlAt e (fun k=>F k\/(Own t e ao cap xs).on k) w ao xs:=by
 obtain⟨cs,h1,h2⟩:=h
 rcases h1.2 with ⟨h3,h4⟩|⟨g,cap',cur,h3,_,hg,h5,h6,_,_⟩
 ·simp at h3;have:xs=[]:=List.length_eq_zero_iff.1 h4;subst this;exact⟨by simp,by omega,fun i x hx=>by simp at hx⟩
 ·simp at h3;obtain⟨rfl,rfl⟩:=h3;refine⟨h5,by simpa only[maxLen] using h6,fun i x hx=>?_⟩;obtain⟨m,h7,h8⟩:=h2.cells hx;refine⟨g,0,m,rfl,.inr rfl,(Array.getElem?_eq_some_iff.1 hg).1,fun j c hj=>?_,e.move h7 (fun _ _ h=>.inl h) (Agree.refl _ _)⟩;have:=h1.cells (g:=g) rfl _ _ (h8 j c hj);rw[Addr.add_lit,<-Nat.add_assoc] at this;exact this
theorem frz_st {r:Res}{p:Pf}(hl:hp.Perm (r::rest))(hp':∀F w,r.says F w->p.says (fun k=>F k\/r.on k) w)(h:G n env b (p::ps) rest K):G n env b ps hp K:=by
 constructor;rintro w ⟨F,s⟩;have s:=s.perm hl;have ha:=List.pairwise_cons.1 s.apart;refine h.run w ⟨fun k=>F k\/r.on k,s.upd,?_,?_,?_,?_,?_,ha.2,fun q hq=>s.on q (List.mem_cons_of_mem _ hq)⟩
 ·rintro k (hk|hk)
  ·exact s.lt k hk
  ·exact r.inn (s.rs r List.mem_cons_self) hk
 ·rintro k (hk|hk) hlt
  ·exact s.old k hk hlt
  ·exact .inr (s.on r List.mem_cons_self k hk hlt)
 ·intro q hq
  rcases List.mem_cons.1 hq with rfl|hq
  ·exact hp' F w (s.rs r List.mem_cons_self)
  ·exact q.move (s.fs q hq) (fun _ _ h=>.inl h) (Agree.refl _ _)
 ·intro q hq;exact q.move (s.rs q (List.mem_cons_of_mem _ hq)) (fun _ _ h=>.inl h) (Agree.refl _ _) (Agree.refl _ _)
 ·rintro q hq k hk (hf|hr)
  ·exact s.apF q (List.mem_cons_of_mem _ hq) k hk hf
  ·exact ha.1 q hq k hr hk
theorem frz (ao:Option Addr)[hf:FOwn ao hp t e cap xs rest](h:G n env b (Sl e ao cap xs::ps) rest K):G n env b ps hp K:=frz_st hf.p (fun _ _ h=>frzAt h) h
theorem frzB (bl:Nat){y:α}[hf:FBox bl hp t e y rest](h:G n env b (Pt e bl 0 y::ps) rest K):G n env b ps hp K:=frz_st hf.p (fun F w h=>by
 obtain⟨cs,h1,h2⟩:=h;exact⟨.inr rfl,h1.lt,cs,fun j c hj=>by rw[Nat.zero_add];exact h1.cell_some hj,e.move h2 (fun _ _ h=>.inl h) (Agree.refl _ _)⟩) h
theorem opn (ao:Option Addr)[hf:FOwn ao hp t e cap xs rest](h:xs.length<=cap->cap<=9223372036854775807->(xs=[]/\ao=none/\cap=0\/∃g,ao=some ⟨g,0,none⟩)->G n env b ps hp K):G n env b ps hp K:=by
 constructor;rintro w ⟨F,s⟩;have hs:(Own t e ao cap xs).says F w:=s.rs _ (hf.p.mem_iff.2 List.mem_cons_self);obtain⟨h1,h2,_⟩:=frzAt hs;refine (h h1 h2 ?_).run w ⟨F,s⟩;obtain⟨cs,h1,h2⟩:=hs
 rcases h1.2 with ⟨h3,h4⟩|⟨g,cap',cur,h3,_⟩
 ·simp at h3;exact .inl ⟨List.length_eq_zero_iff.1 h4,h3.1,h3.2.2⟩
 ·simp at h3;exact .inr ⟨g,h3.1⟩
theorem sln (ao:Option Addr)[hf:FSl ao ps e cap xs](h:xs.length<=cap->cap<=9223372036854775807->(xs≠[]->∃bl o,ao=some ⟨bl,o,none⟩)->G n env b ps hp K):G n env b ps hp K:=by
 constructor;rintro w ⟨F,s⟩;obtain⟨h1,h2,h3⟩:(Sl e ao cap xs).says F w:=s.fs _ hf.mem;refine (h h1 h2 fun hne=>?_).run w ⟨F,s⟩;obtain⟨bl,o,_,h4,_⟩:=slAt_cells h3 hne;exact⟨bl,o,h4⟩
section many
variable {α:Type} {t:TypeId} {e:Ty α} {l:List (Option Addr×Nat×List α)} {ao:Option Addr} {cap:Nat} {xs:List α} {rest:List Res}
variable {β:Type} {i:Nat} {x:β} {R:β->β->Prop}
theorem alter {hp1 hp2:List Res}(hl:hp.Perm (hp1++rest))(h1:∀F w,AllR F w hp1->hp1.Pairwise Apart->AllR F w hp2/\hp2.Pairwise Apart)(h2:∀k,feet hp2 k->feet hp1 k)(h:G n env b ps (hp2++rest) K):G n env b ps hp K:=by
 constructor;rintro w ⟨F,s⟩;have s:=s.perm hl;have hp:=List.pairwise_append.1 s.apart;obtain⟨e1,e2⟩:=h1 F w (fun r hr=>s.rs r (by simp[hr])) hp.1;have f1:∀r∈hp2,∀k,r.on k->∃q∈hp1,q.on k:=fun r hr k hk=>h2 k ⟨r,hr,hk⟩;refine h.run w ⟨F,s.upd,s.lt,s.old,s.fs,?_,?_,?_,?_⟩
 ·intro r hr
  rcases List.mem_append.1 hr with hr|hr
  ·exact e1 r hr
  ·exact s.rs r (by simp[hr])
 ·intro r hr k hk
  rcases List.mem_append.1 hr with hr|hr
  ·obtain⟨q,hq,hqk⟩:=f1 r hr k hk;exact s.apF q (by simp[hq]) k hqk
  ·exact s.apF r (by simp[hr]) k hk
 ·refine List.pairwise_append.2 ⟨e2,hp.2.1,fun r hr q hq k hk hqk=>?_⟩;obtain⟨q',hq',hqk'⟩:=f1 r hr k hk;exact hp.2.2 q' hq' q hq k hqk' hqk
 ·intro r hr k hk
  rcases List.mem_append.1 hr with hr|hr
  ·obtain⟨q,hq,hqk⟩:=f1 r hr k hk;exact s.on q (by simp[hq]) k hqk
  ·exact s.on r (by simp[hr]) k hk
theorem own_none {F:Nat->Prop}{w:World}:(Own t e none 0 []).says F w:=⟨[],World.ownsRow_nil w 0 t e.size,rfl⟩
theorem own_none_on {k:Nat}:¬ (Own t e none 0 []).on k:=fun hk=>by
 have hk:(none:Option Nat)=some k:=hk;cases hk
theorem mem_set_or {m:List β}{q:β}(h:q∈m.set i x):q=x\/∃j,j≠i/\m[j]?=some q:=by
 obtain⟨j,hj⟩:=List.getElem?_of_mem h;rw[List.getElem?_set] at hj;split at hj
 ·rename_i e;subst e;split at hj
  ·left;simpa using hj.symm
  ·simp at hj
 ·rename_i e;exact .inr ⟨j,fun h=>e h.symm,hj⟩
theorem pairwise_get {m:List β}(hs:∀a b,R a b->R b a)(h:m.Pairwise R){j:Nat}{y:β}(hij:i≠j)(hx:m[i]?=some x)(hy:m[j]?=some y):R x y:=by
 rw[List.pairwise_iff_getElem] at h;obtain⟨h1,rfl⟩:=List.getElem?_eq_some_iff.1 hx;obtain⟨h2,rfl⟩:=List.getElem?_eq_some_iff.1 hy
 rcases Nat.lt_or_ge i j with hlt|hge
 ·exact h i j h1 h2 hlt
 ·exact hs _ _ (h j i h2 h1 (by omega))
theorem pairwise_of_get {m:List β}(h:∀(i j:Nat) x y,i≠j->m[i]?=some x->m[j]?=some y->R x y):m.Pairwise R:=by
 rw[List.pairwise_iff_getElem];intro i j h1 h2 hlt;exact h i j _ _ (by omega) (List.getElem?_eq_getElem h1) (List.getElem?_eq_getElem h2)
theorem osT (i:Nat)(h:G n env b ps (Own t e ao cap xs::Owns t e (l.set i (none,0,[]))::rest) K)(hi:l[i]?=some (ao,cap,xs):=by with_reducible assumption)
  (hl:TakeR (Owns t e l) hp rest:=by first|((repeat (first|(with_reducible apply Go.GX.TakeR.head)|apply Go.GX.TakeR.tail));done)|(repeat (first|apply Go.GX.TakeR.head|apply Go.GX.TakeR.tail))):G n env b ps hp K:=by
 refine alter (hp1:=[Owns t e l]) (hp2:=[Own t e ao cap xs,Owns t e (l.set i (none,0,[]))]) hl.perm ?_ ?_ h
 ·intro F w h1 _;obtain⟨h2,h3⟩:=h1 (Owns t e l) (by simp);have hm:=List.mem_of_getElem? hi;have hsym:∀p q:Option Addr×Nat×List α,Apart (Own t e p.1 p.2.1 p.2.2) (Own t e q.1 q.2.1 q.2.2)->Apart (Own t e q.1 q.2.1 q.2.2) (Own t e p.1 p.2.1 p.2.2):=fun p q h=>h.symm;refine⟨fun r hr=>?_,?_⟩
  ·rcases List.mem_cons.1 hr with rfl|hr
   ·exact h2 _ hm
   ·obtain rfl:r=_:=by simpa using hr
    refine⟨fun q hq=>?_,pairwise_of_get fun j k x y hjk hx hy=>?_⟩
    ·rcases mem_set_or hq with rfl|⟨j,_,hj⟩
     ·exact own_none
     ·exact h2 q (List.mem_of_getElem? hj)
    ·rw[List.getElem?_set] at hx hy;split at hx
     ·split at hx
      ·simp at hx;subst hx;exact fun k hk=>absurd hk own_none_on
      ·simp at hx
     ·split at hy
      ·split at hy
       ·simp at hy;subst hy;exact fun k hk hk2=>absurd hk2 own_none_on
       ·simp at hy
      ·exact pairwise_get hsym h3 hjk hx hy
  ·refine List.pairwise_cons.2 ⟨fun r hr k hk hrk=>?_,by simp⟩;obtain rfl:r=_:=by simpa using hr
   obtain⟨q,hq,hqk⟩:=hrk
   rcases mem_set_or hq with rfl|⟨j,hji,hj⟩
   ·exact own_none_on hqk
   ·exact pairwise_get hsym h3 (Ne.symm hji) hi hj k hk hqk
 ·rintro k ⟨r,hr,hk⟩;refine⟨Owns t e l,by simp,?_⟩
  rcases List.mem_cons.1 hr with rfl|hr
  ·exact⟨_,List.mem_of_getElem? hi,hk⟩
  ·obtain rfl:r=_:=by simpa using hr
   obtain⟨q,hq,hqk⟩:=hk
   rcases mem_set_or hq with rfl|⟨j,_,hj⟩
   ·exact absurd hqk own_none_on
   ·exact⟨q,List.mem_of_getElem? hj,hqk⟩
theorem osO (i:Nat)(h:xs.length<=cap->cap<=9223372036854775807->(xs=[]/\ao=none/\cap=0\/∃g,ao=some ⟨g,0,none⟩)->G n env b ps hp K)(hi:l[i]?=some (ao,cap,xs))
  (hl:TakeR (Owns t e l) hp rest:=by first|((repeat (first|(with_reducible apply Go.GX.TakeR.head)|apply Go.GX.TakeR.tail));done)|(repeat (first|apply Go.GX.TakeR.head|apply Go.GX.TakeR.tail))):G n env b ps hp K:=by
 constructor;rintro w ⟨F,s⟩;obtain⟨h2,_⟩:(Owns t e l).says F w:=s.rs _ (hl.perm.mem_iff.2 List.mem_cons_self);have hs:=h2 _ (List.mem_of_getElem? hi);obtain⟨h1,h3,_⟩:=frzAt hs;refine (h h1 h3 ?_).run w ⟨F,s⟩;obtain⟨cs,h1,h2⟩:=hs
 rcases h1.2 with ⟨h3,h4⟩|⟨g,cap',cur,h3,_⟩
 ·simp at h3;exact .inl ⟨List.length_eq_zero_iff.1 h4,h3.1,h3.2.2⟩
 ·simp at h3;exact .inr ⟨g,h3.1⟩
theorem set_back {m:List β}{y:β}(h:m[i]?=some x):(m.set i y).set i x=m:=by
 apply List.ext_getElem?;intro j;rw[List.getElem?_set,List.length_set];split
 ·rename_i e;subst e;rw[if_pos (List.getElem?_eq_some_iff.1 h).1,h]
 ·rename_i e;rw[List.getElem?_set_ne e]
theorem osP (i:Nat)(h:G n env b ps (Owns t e (l.set i (ao,cap,xs))::rest) K)(_hi:l[i]?=some (none,0,[]))
  (hl:SelR [Own t e ao cap xs,Owns t e l] hp rest:=by exact GX.sA):G n env b ps hp K:=by
 refine alter (hp1:=[Own t e ao cap xs,Owns t e l]) (hp2:=[Owns t e (l.set i (ao,cap,xs))]) hl.perm ?_ ?_ h
 ·intro F w h1 hap;obtain⟨h2,h3⟩:=h1 (Owns t e l) (by simp);have h4:=h1 (Own t e ao cap xs) (by simp);have hap:=(List.pairwise_cons.1 hap).1 (Owns t e l) (by simp);refine⟨fun r hr=>?_,by simp⟩;obtain rfl:r=_:=by simpa using hr
  refine⟨fun q hq=>?_,pairwise_of_get fun j k x y hjk hx hy=>?_⟩
  ·rcases mem_set_or hq with rfl|⟨j,_,hj⟩
   ·exact h4
   ·exact h2 q (List.mem_of_getElem? hj)
  ·rw[List.getElem?_set] at hx hy;split at hx
   ·split at hx
    ·simp at hx;subst hx;rw[if_neg (by omega)] at hy;exact fun k hk hk2=>hap k hk ⟨y,List.mem_of_getElem? hy,hk2⟩
    ·simp at hx
   ·split at hy
    ·split at hy
     ·simp at hy;subst hy;exact fun k hk hk2=>hap k hk2 ⟨x,List.mem_of_getElem? hx,hk⟩
     ·simp at hy
    ·exact pairwise_get (fun p q h=>h.symm) h3 hjk hx hy
 ·rintro k ⟨r,hr,hk⟩;obtain rfl:r=_:=by simpa using hr
  obtain⟨q,hq,hqk⟩:=hk
  rcases mem_set_or hq with rfl|⟨j,_,hj⟩
  ·exact⟨Own t e ao cap xs,by simp,hqk⟩
  ·exact⟨Owns t e l,by simp,q,List.mem_of_getElem? hj,hqk⟩
theorem osA (h:G n env b ps (Owns t e (l++[(ao,cap,xs)])::rest) K)
  (hl:SelR [Own t e ao cap xs,Owns t e l] hp rest:=by exact GX.sA):G n env b ps hp K:=by
 refine alter (hp1:=[Own t e ao cap xs,Owns t e l]) (hp2:=[Owns t e (l++[(ao,cap,xs)])]) hl.perm ?_ ?_ h
 ·intro F w h1 hap;obtain⟨h2,h3⟩:=h1 (Owns t e l) (by simp);have h4:=h1 (Own t e ao cap xs) (by simp);have hap:=(List.pairwise_cons.1 hap).1 (Owns t e l) (by simp);refine⟨fun r hr=>?_,by simp⟩;obtain rfl:r=_:=by simpa using hr
  refine⟨fun q hq=>?_,List.pairwise_append.2 ⟨h3,by simp,fun p hp q hq k hk hk2=>?_⟩⟩
  ·rcases List.mem_append.1 hq with hq|hq
   ·exact h2 q hq
   ·obtain rfl:q=_:=by simpa using hq
    exact h4
  ·obtain rfl:q=_:=by simpa using hq
   exact hap k hk2 ⟨p,hp,hk⟩
 ·rintro k ⟨r,hr,hk⟩;obtain rfl:r=_:=by simpa using hr
  obtain⟨q,hq,hqk⟩:=hk
  rcases List.mem_append.1 hq with hq|hq
  ·exact⟨Owns t e l,by simp,q,hq,hqk⟩
  ·obtain rfl:q=_:=by simpa using hq
   exact⟨Own t e ao cap xs,by simp,hqk⟩
theorem osN (t:TypeId)(e:Ty α)(m:Nat)(h:G n env b ps (Owns t e (List.replicate m (none,0,[]))::hp) K):G n env b ps hp K:=by
 refine alter (hp1:=[]) (hp2:=[Owns t e (List.replicate m (none,0,[]))]) (rest:=hp) (List.Perm.refl _) ?_ ?_ h
 ·intro F w _ _;refine⟨fun r hr=>?_,by simp⟩;obtain rfl:r=_:=by simpa using hr
  refine⟨fun q hq=>?_,List.pairwise_replicate.2 (.inr fun k hk=>absurd hk own_none_on)⟩;obtain rfl:q=_:=List.eq_of_mem_replicate hq;exact own_none
 ·rintro k ⟨r,hr,hk⟩;obtain rfl:r=_:=by simpa using hr
  obtain⟨q,hq,hqk⟩:=hk;obtain rfl:q=_:=List.eq_of_mem_replicate hq;exact absurd hqk own_none_on
end many
end
end Go.GX
