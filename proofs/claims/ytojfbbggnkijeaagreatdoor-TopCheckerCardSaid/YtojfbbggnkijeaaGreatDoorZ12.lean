import Derived.Test.YtojfbbggnkijeaaGreatDoorZ11
import Derived.Laws.Externs
import Derived.Lib.Bytealg
import Derived.Laws.AppendOwn
set_option linter.all false
noncomputable section
namespace Go.EV
open Go Go.RowKit Go.RR Go.Lib
inductive Xt where
 |nrm
 |exit (i:Nat)
 |ret
def Xt.toExit:Xt->Exit
 | .nrm=>.normal
 | .exit i=>.exit i
 | .ret=>.ret
structure Fn1 where
 n:Nat
 rs:List (Nat×Option Nat)
 code:Code
 pls:T RP
structure Ctx where
 tys:Tab TI
 ms:Meths
 fns:Tab Fn1
 orc:CallF
abbrev EvF:=T RP->Code->S->Option (Xt×S)
def argsT:List Value->Nat->T Value->T Value
 |[],_,t=>t
 |v::r,i,t=>argsT r (i+1) (t.put i v)
def resV (tys:Tab TI)(tm:T Value)(H:T AO):List (Nat×Option Nat)->Option (List Value)
 |[]=>some []
 |(d,none)::r=>match tm.get d with
  |some v=>match resV tys tm H r with
   |some vs=>some (v::vs)
   |none=>none
  |none=>none
 |(d,some t)::r=>match tm.get d with
  |some (.pointer (some a))=>match ld tys H t (.pointer (some a)) with
   |some v=>match resV tys tm H r with
    |some vs=>some (v::vs)
    |none=>none
   |none=>none
  |_=>none
def outV:List Value->Option Value
 |[v]=>some v
 |vs=>bif vs.all base2 then some (.tuple vs.toArray) else none
def callF (C:Ctx)(ih:EvF):CallF:=fun g args H nx=>match C.fns.get g with
 |some f=>bif Nat.ble args.length f.n then (match ih f.pls f.code ⟨f.n,argsT args 0 .nil,H,nx⟩ with
  |some (.exit _,_)=>none
  |some (_,s)=>match resV C.tys s.tm s.H f.rs with
   |some vs=>match outV vs with
    |some v=>some (v,s.H,s.nx)
    |none=>none
   |none=>none
  |none=>none) else none
 |none=>C.orc g args H nx
def evBs (C:Ctx)(ih:EvF)(pls:T RP)(c:Code)(s:S):Option (Xt×S):=match c with
 | .skip=>some (.nrm,s)
 | .label _=>some (.nrm,s)
 | .region id ops draw=>match draw with
  |false=>match evLin C.tys C.ms (callF C ih) ops.toList ops.toList s with
   |some s=>some (.nrm,s)
   |none=>none
  |true=>match pls.get id with
   |some rp=>match evDrawn C.tys C.ms (callF C ih) rp ops.toList s with
    |some s=>some (.nrm,s)
    |none=>none
   |none=>none
 | .seq a b=>match ih pls a s with
  |some (.nrm,s)=>ih pls b s
  |r=>r
 | .cond c a b=>match opv s.tm c with
  |some (.bool true)=>ih pls a s
  |some (.bool false)=>ih pls b s
  |_=>none
 | .block id a=>match ih pls a s with
  |some (.exit j,s)=>bif Nat.beq j id then some (.nrm,s) else some (.exit j,s)
  |r=>r
 | .loop a=>match ih pls a s with
  |some (.nrm,s)=>ih pls (.loop a) s
  |r=>r
 | .exit id=>some (.exit id,s)
 | .ret=>some (.ret,s)
 |_=>none
def evB (C:Ctx)(ih:EvF)(pls:T RP)(c:Code)(s:S):Option (Xt×S):=Code.rec (motive:=fun _=>Ctx->EvF->T RP->S->Option (Xt×S))
 (fun _ _ _ s=>some (.nrm,s))
 (fun id ops draw C ih pls s=>Bool.rec (motive:=fun _=>Nat->Array Oper->Ctx->EvF->T RP->S->Option (Xt×S))
  (fun _ ops C ih _ s=>match evLin C.tys C.ms (callF C ih) ops.toList ops.toList s with
   |some s=>some (.nrm,s)
   |none=>none)
  (fun id ops C ih pls s=>match pls.get id with
   |some rp=>match evDrawn C.tys C.ms (callF C ih) rp ops.toList s with
    |some s=>some (.nrm,s)
    |none=>none
   |none=>none)
  draw id ops C ih pls s)
 (fun a b _ _ _ ih pls s=>match ih pls a s with
  |some (.nrm,s)=>ih pls b s
  |r=>r)
 (fun c a b _ _ _ ih pls s=>match opv s.tm c with
  |some (.bool true)=>ih pls a s
  |some (.bool false)=>ih pls b s
  |_=>none)
 (fun id a _ _ ih pls s=>match ih pls a s with
  |some (.exit j,s)=>bif Nat.beq j id then some (.nrm,s) else some (.exit j,s)
  |r=>r)
 (fun a _ _ ih pls s=>match ih pls a s with
  |some (.nrm,s)=>ih pls (.loop a) s
  |r=>r)
 (fun _ _ _ _ _ _ _ _ _ _=>none)
 (fun id _ _ _ s=>some (.exit id,s))
 (fun _ _ _ _ _ _=>none)
 (fun _ _ _ _ s=>some (.nrm,s))
 (fun _ _ _ _ _=>none)
 (fun _ _ _ s=>some (.ret,s))
 (fun _ _ _ _ _=>none)
 c C ih pls s
variable {c:Code} {P:Program} {Q:Exit->Act->World->Prop}
theorem evB_eq {C:Ctx}{ih:EvF}{pls:T RP}{s:S}:evB C ih pls c s=evBs C ih pls c s:=by
 cases c<;>first|rfl|(rename_i d;cases d<;>rfl)
def ev (C:Ctx)(fuel:Nat):EvF:=Nat.rec (motive:=fun _=>EvF) (fun _ _ _=>none) (fun _ ih pls c s=>evB C ih pls c s) fuel
def plansOk (n:Nat)(pls:T RP):Code->Bool
 | .region id ops true=>match pls.get id with
  |some rp=>rpOk n ops.toList rp
  |none=>true
 | .seq a b=>plansOk n pls a&&plansOk n pls b
 | .cond _ a b=>plansOk n pls a&&plansOk n pls b
 | .block _ a=>plansOk n pls a
 | .loop a=>plansOk n pls a
 |_=>true
def resVar:Nat×Option Nat->ResultVar
 |(d,none)=>.tmp d
 |(d,some t)=>.cell d t
def FnsOk (P:Program)(fns:Tab Fn1):Prop:=∀g f,fns.get g=some f->∃fn,P.funcs[g]?=some fn/\(fn.name=="runtime.NumGoroutine")=false/\fn.body=some f.code/\fn.ntmps=f.n/\fn.results.toList=f.rs.map resVar/\plansOk f.n f.pls f.code=true
def LWp (P:Program)(c:Code)(Q:Exit->Act->World->Prop)(a:Act)(w:World):Prop:=
 ∀(b:Frame) (k:List Item) (cs:List Frame),∃e a' w',Q e a' w'/\Arrives P (lone (b.at a (.code c::.inLoop c::k)) cs w) b k cs e a' w'
theorem wp_loop_in {a:Act}{w:World}(h:LWp P c Q a w):(Code.loop c).wp P Q a w:=fun b k cs=>by
 obtain⟨e,a',w',hq,harr⟩:=h b k cs;exact⟨e,a',w',hq,.of_steps (.one step_loop) harr⟩
theorem lwp_once {a:Act}{w:World}(h:c.wp P (Exit.then (LWp P c Q) Q) a w):LWp P c Q a w:=fun b k cs=>by
 obtain⟨e,a₁,w₁,hq,harr⟩:=h b (.inLoop c::k) cs
 cases e with
 |normal=>
  obtain⟨e₂,a₂,w₂,hq₂,harr₂⟩:=hq b k cs;exact⟨e₂,a₂,w₂,hq₂,.of_steps (Steps.trans harr (.one step_inLoop)) harr₂⟩
 |exit id=>exact⟨_,a₁,w₁,hq,.pass (x:=.inLoop c) rfl (fun _ _=>.inl (by simp)) harr⟩
 |goto l=>exact⟨_,a₁,w₁,hq,.pass (x:=.inLoop c) rfl (fun _ _=>.inl (by simp)) harr⟩
 |ret=>exact⟨_,a₁,w₁,hq,.pass (x:=.inLoop c) rfl (fun _ _=>.inl (by simp)) harr⟩
 |panic ch=>exact⟨_,a₁,w₁,hq,.pass (x:=.inLoop c) rfl (fun _ _=>.inl (by simp)) harr⟩
 |outgrown=>exact⟨_,a₁,w₁,hq,.pass (x:=.inLoop c) rfl (fun _ _=>.inl (by simp)) harr⟩
section
variable {P:Program} {w0:World} {K:Nat->Prop} {ρ ρ':Rn} {s s':S} {a a':Act} {w w':World} {Q:Exit->Act->World->Prop}
variable {C:Ctx}
def Post (w0:World)(K:Nat->Prop)(ρ:Rn)(s:S)(w:World)(x:Xt)(s':S)(e:Exit)(a':Act)(w':World):Prop:=e=x.toExit/\∃ρ',Nxt w0 K ρ s w s' ρ' a' w'
def EvOk (P:Program)(w0:World)(f:EvF):Prop:=∀pls c s x s' K ρ a w,plansOk s.n pls c=true->Rel w0 K ρ s a w->f pls c s=some (x,s')->
 c.wp P (Post w0 K ρ s w x s') a w/\∀b,c=.loop b->LWp P b (Post w0 K ρ s w x s') a w
theorem argsT_get:∀{l:List Value} {i:Nat} {t:T Value} {d:Nat} {v:Value},(argsT l i t).get d=some v->t.get d=some v/\(d<i\/i+l.length<=d)\/(i<=d/\l[d-i]?=some v)
 |[],i,t,d,v,h=>.inl ⟨h,by simp;omega⟩
 |u::r,i,t,d,v,h=>by
  unfold argsT at h
  rcases argsT_get h with ⟨h1,h2⟩|⟨h1,h2⟩
  ·rw[T.get_put] at h1;split at h1
   ·rename_i e;cases h1;subst e;exact .inr ⟨Nat.le_refl _,by simp⟩
   ·exact .inl ⟨h1,by simp;omega⟩
  ·refine .inr ⟨by omega,?_⟩;have:d-i=(d-(i+1))+1:=by omega
   rw[this];simpa using h2
theorem run_resV {tys:Tab TI}(hT:TyOk P tys)(hr:Rel w0 K ρ s a w):∀{l:List (Nat×Option Nat)} {vs:List Value},resV tys s.tm s.H l=some vs->((l.map resVar).mapM fun
  | .tmp t=>pure (a.tmps.getD t undef)
  | .cell x t=>do loadVar t (<- asAddr (a.tmps.getD x undef)):Sem (List Value)).run P w=.ok (vs.map (ren ρ)) w/\∀v∈vs,BV K v
 |[],vs,h=>by cases h;exact⟨rfl,fun v hv=>by cases hv⟩
 |(d,none)::r,vs,h=>by
  unfold resV at h;split at h
  ·rename_i v hv;split at h
   ·rename_i vs' hvs;cases h;obtain⟨h1,h2⟩:=run_resV hT hr hvs;refine⟨?_,fun u hu=>?_⟩
    ·simp only[List.map_cons,resVar,List.mapM_cons,Sem.run_bind,Sem.run_pure,Result.andThen_ok,h1,hr.slot d v hv]
    ·rcases List.mem_cons.1 hu with rfl|hu
     ·exact hr.bt d u hv
     ·exact h2 u hu
   ·cases h
  ·cases h
 |(d,some t)::r,vs,h=>by
  unfold resV at h;split at h
  ·rename_i x hx;split at h
   ·rename_i v hv;split at h
    ·rename_i vs' hvs;cases h;obtain⟨h1,h2⟩:=run_resV hT hr hvs;have hld:=run_ld hT hr.h hv;have hld2:(loadVar t ⟨ρ.f x.block,x.off,x.spot⟩).run P w=.ok (ren ρ v) w:=by
      simpa[Instr.loadAt,Instr.sureAddr,asAddr] using hld
     refine⟨?_,fun u hu=>?_⟩
     ·have e:(asAddr (a.tmps.getD d undef)).run P w=.ok ⟨ρ.f x.block,x.off,x.spot⟩ w:=by rw[hr.slot d _ hx];rfl
      simp only[List.map_cons,resVar,List.mapM_cons,Sem.run_bind,Sem.run_pure,Result.andThen_ok,h1,e,hld2]
     ·rcases List.mem_cons.1 hu with rfl|hu
      ·exact ld_bv hr.h.bnd hv
      ·exact h2 u hu
    ·cases h
   ·cases h
  ·cases h
theorem bv_tuple {vs:List Value}(h:∀v∈vs,BV K v)(hb:vs.all base2=true):BV K (.tuple vs.toArray):=fun ρ ρ' ha=>by
 show Value.tuple (vs.toArray.map (ren2 ρ))=.tuple (vs.toArray.map (ren2 ρ'));congr 1;apply Array.toList_inj.1;simp only[Array.toList_map];refine List.map_congr_left fun v hv=>?_;have h1:=List.all_eq_true.1 hb v hv;rw[<- ren_base2 h1,<-ren_base2 h1];exact h v hv ρ ρ' ha
theorem outV_ok {vs:List Value}{v:Value}(h:outV vs=some v)(hv:∀u∈vs,BV K u):BV K v/\(if h:(vs.map (ren ρ)).toArray.size=1 then (vs.map (ren ρ)).toArray[0] else .tuple (vs.map (ren ρ)).toArray)=ren ρ v:=by
 unfold outV at h;split at h
 ·cases h;exact⟨hv _ (by simp),by simp⟩
 ·rename_i hne;obtain⟨hb,h⟩:=cnd h;cases h;refine⟨bv_tuple hv hb,?_⟩;have hl:¬ (vs.map (ren ρ)).toArray.size=1:=fun e=>by
   simp at e
   match vs,e with
   |[x],_=>exact hne x rfl
  rw[dif_neg hl];show _=Value.tuple (vs.toArray.map (ren2 ρ));congr 1;apply Array.toList_inj.1;simp only[Array.toList_map];exact List.map_congr_left fun u hu=>ren_base2 (List.all_eq_true.1 hb u hu)
theorem callF_ok (hT:TyOk P C.tys)(hF:FnsOk P C.fns)(hO:CfOk P w0 C.orc){ih:EvF}(hI:EvOk P w0 ih):CfOk P w0 (callF C ih):=by
 intro K ρ H w nx g args v H' nx' hw hB hb h o a next Q hn
 unfold callF at h;split at h
 ·rename_i f hf;obtain⟨fn,f1,f2,f3,f4,f5,f6⟩:=hF g f hf;obtain⟨hl,h⟩:=cnd h;rw[Nat.ble_eq] at hl;have hent:(callFunc g (args.map (ren ρ)).toArray).run P w=.ok (.enter g (args.map (ren ρ)).toArray) w:=by
   have f2':¬ fn.name="runtime.NumGoroutine":=by simpa using f2
   unfold callFunc;simp[run_program,f1,f2',f3]
  rw[hent,Oper.upon_enter];have hcl:∀x s',ih f.pls f.code ⟨f.n,argsT args 0 .nil,H,nx⟩=some (x,s')->(∀i,x≠.exit i)->∀vs u,resV C.tys s'.tm s'.H f.rs=some vs->outV vs=some u->v=u->H'=s'.H->nx'=s'.nx->Calls P g (args.map (ren ρ)).toArray w fun
    | .returned v,w''=>next (a.put o.dst v) w''
    | .panicked chain,w''=>Q (.panic chain) a w''
    | .outgrown,_=>LetsOut Q:=fun x s' hih hx vs u hvs hu ev eH en=>by
   subst ev;subst eH;subst en;refine calls_of_wp f1 f3 ?_;have hlen:(args.map (ren ρ)).toArray.size=args.length:=by simp
   have hrel:Rel w0 K ρ ⟨f.n,argsT args 0 .nil,H,nx⟩ {tmps:=(args.map (ren ρ)).toArray++Array.replicate (fn.ntmps-(args.map (ren ρ)).toArray.size) undef,defers:=[]} w:=by
    refine⟨by simp[f4];omega,rfl,fun d u hd=>?_,fun d u hd=>?_,hw,hB⟩
    ·rcases argsT_get hd with ⟨h1,_⟩|⟨_,h2⟩
     ·cases h1
     ·have hdl:=(List.getElem?_eq_some_iff.1 h2).1;rw[Nat.sub_zero] at h2 hdl;show (_++_:Array Value).getD d undef=_;rw[Array.getD_eq_getD_getElem?,Array.getElem?_append_left (by simpa using hdl)];simp[h2]
    ·rcases argsT_get hd with ⟨h1,_⟩|⟨_,h2⟩
     ·cases h1
     ·exact hb u (List.mem_of_getElem? h2)
   have h1:=(hI f.pls f.code _ x s' K ρ _ w f6 hrel hih).1;refine Code.wp_mono (fun e a' w' hq=>?_) h1;obtain⟨he,ρ',hN⟩:=hq;obtain⟨r1,r2⟩:=run_resV hT hN.rel hvs;obtain⟨o1,o2⟩:=outV_ok (ρ:=ρ') hu r2;have hres:(results fn a'.tmps).run P w'=.ok (ren ρ' v) w':=by
    unfold results;have e1:fn.results=(f.rs.map resVar).toArray:=by rw[<- f5]
    rw[e1,Sem.run_bind,List.mapM_toArray];simp only[Sem.run_map];generalize hz:Sem.run P (List.mapM _ (List.map resVar f.rs)) w'=z;have hz2:z=.ok (vs.map (ren ρ')) w':=hz.symm.trans r1;rw[hz2];exact congrArg (fun z=>Result.ok z w') o2
   have fin:a'.defers=[]/\∃v',(results fn a'.tmps).run P w'=.ok v' w'/\next (a.put o.dst v') w':=
    ⟨hN.rel.df,_,hres,hn ρ' w' ⟨hN.agr,hN.rel.h,o1,hN.frm,hN.im,hN.le⟩⟩
   cases x with
   |nrm=>subst he;exact fin
   |ret=>subst he;exact fin
   |exit i=>exact absurd rfl (hx i)
  split at h
  ·cases h
  ·rename_i x s' hne hih;split at h
   ·rename_i vs hvs;split at h
    ·rename_i u hu;cases h;exact hcl x s' hih (fun i e=>hne i e) vs _ hvs hu rfl rfl rfl
    ·cases h
   ·cases h
  ·cases h
 ·exact hO K ρ H w nx g args v H' nx' hw hB hb h o a next Q hn
theorem Post.then {K1:Nat->Prop}(h1:Nxt w0 K ρ s w s' ρ' a' w'){x:Xt}{s2:S}(hk:K1=Upto K s.nx s'.nx):∀e a2 w2,Post w0 K1 ρ' s' w' x s2 e a2 w2->Post w0 K ρ s w x s2 e a2 w2:=fun e a2 w2 ⟨h2,ρ2,h3⟩=>by
 subst hk;exact⟨h2,ρ2,h1.trans h3⟩
theorem evB_ok (hm:P.follows .mixedOrders=true)(hT:TyOk P C.tys)(hM:MthOk P C.ms)(hF:FnsOk P C.fns)(hO:CfOk P w0 C.orc){ih:EvF}(hI:EvOk P w0 ih):EvOk P w0 (evB C ih):=by
 have hC:=callF_ok hT hF hO hI;intro pls c s x s' K ρ a w hp hr h
 cases c with
 |skip=>cases h;exact⟨wp_skip ⟨rfl,ρ,.self hr⟩,fun b e=>by cases e⟩
 |label l=>cases h;exact⟨wp_label ⟨rfl,ρ,.self hr⟩,fun b e=>by cases e⟩
 |exit i=>cases h;exact⟨wp_exit ⟨rfl,ρ,.self hr⟩,fun b e=>by cases e⟩
 |ret=>cases h;exact⟨wp_ret ⟨rfl,ρ,.self hr⟩,fun b e=>by cases e⟩
 |region id ops draw=>
  refine⟨?_,fun b e=>by cases e⟩
  cases draw with
  |false=>
   rw[evB_eq] at h;simp only[evBs] at h;split at h
   ·rename_i s1 h1;cases h;exact wp_region_list (evLin_ok hT hM hC hr h1 fun ρ' a' w' hN=>⟨rfl,ρ',hN⟩)
   ·cases h
  |true=>
   rw[evB_eq] at h;simp only[evBs] at h;split at h
   ·rename_i rp hrp;split at h
    ·rename_i s1 h1;cases h;have hp2:rpOk s.n ops.toList rp=true:=by
      simp only[plansOk,hrp] at hp;exact hp
     exact evDrawn_ok hm hT hM hC hp2 hr h1 fun ρ' a' w' hN=>⟨rfl,ρ',hN⟩
    ·cases h
   ·cases h
 |seq c1 c2=>
  refine⟨?_,fun b e=>by cases e⟩;simp only[plansOk,Bool.and_eq_true] at hp;rw[evB_eq] at h;simp only[evBs] at h;refine wp_seq ?_;split at h
  ·rename_i s1 h1;refine Code.wp_mono (fun e a1 w1 hq=>?_) (hI pls c1 s .nrm s1 K ρ a w hp.1 hr h1).1;obtain⟨rfl,ρ1,hN⟩:=hq;have h2:=(hI pls c2 s1 x s' _ ρ1 a1 w1 (by rw[hN.n];exact hp.2) hN.rel h).1;exact Code.wp_mono (Post.then hN rfl) h2
  ·rename_i r hne;refine Code.wp_mono (fun e a1 w1 hq=>?_) (hI pls c1 s x s' K ρ a w hp.1 hr h).1
   cases x with
   |nrm=>exact absurd h (hne s')
   |exit i=>obtain⟨rfl,h3⟩:=hq;exact⟨rfl,h3⟩
   |ret=>obtain⟨rfl,h3⟩:=hq;exact⟨rfl,h3⟩
 |cond x' c1 c2=>
  refine⟨?_,fun b e=>by cases e⟩;simp only[plansOk,Bool.and_eq_true] at hp;rw[evB_eq] at h;simp only[evBs] at h;split at h
  ·rename_i hv;exact wp_cond_true (by rw[hr.rv _ _ hv];rfl) (hI pls c1 s x s' K ρ a w hp.1 hr h).1
  ·rename_i hv;exact wp_cond_false (by rw[hr.rv _ _ hv];rfl) (hI pls c2 s x s' K ρ a w hp.2 hr h).1
  ·cases h
 |block id c1=>
  refine⟨?_,fun b e=>by cases e⟩;simp only[plansOk] at hp;rw[evB_eq] at h;simp only[evBs] at h;refine wp_block ?_;split at h
  ·rename_i j s1 h1;refine Code.wp_mono (fun e a1 w1 hq=>?_) (hI pls c1 s (.exit j) s1 K ρ a w hp hr h1).1;obtain⟨rfl,h3⟩:=hq
   cases hj:Nat.beq j id with
   |true=>
    rw[hj] at h;cases h;rw[nbeq,decide_eq_true_eq] at hj;simp only[Xt.toExit,Exit.inBlock,hj,if_true];exact⟨rfl,h3⟩
   |false=>
    rw[hj] at h;cases h;rw[nbeq,decide_eq_false_iff_not] at hj;simp only[Xt.toExit,Exit.inBlock,hj,if_false];exact⟨rfl,h3⟩
  ·rename_i r hne;refine Code.wp_mono (fun e a1 w1 hq=>?_) (hI pls c1 s x s' K ρ a w hp hr h).1
   cases x with
   |exit i=>exact absurd h (hne i s')
   |nrm=>obtain⟨rfl,h3⟩:=hq;exact⟨rfl,h3⟩
   |ret=>obtain⟨rfl,h3⟩:=hq;exact⟨rfl,h3⟩
 |loop c1=>
  have hp1:plansOk s.n pls c1=true:=by simpa only[plansOk] using hp
  have key:LWp P c1 (Post w0 K ρ s w x s') a w:=by
   rw[evB_eq] at h;simp only[evBs] at h;refine lwp_once ?_;split at h
   ·rename_i s1 h1;refine Code.wp_mono (fun e a1 w1 hq=>?_) (hI pls c1 s .nrm s1 K ρ a w hp1 hr h1).1;obtain⟨rfl,ρ1,hN⟩:=hq;have h2:=(hI pls (.loop c1) s1 x s' _ ρ1 a1 w1 (by rw[hN.n];exact hp) hN.rel h).2 c1 rfl;intro b k cs;obtain⟨e,a',w',hq,harr⟩:=h2 b k cs;exact⟨e,a',w',Post.then hN rfl e a' w' hq,harr⟩
   ·rename_i r hne;refine Code.wp_mono (fun e a1 w1 hq=>?_) (hI pls c1 s x s' K ρ a w hp1 hr h).1
    cases x with
    |nrm=>exact absurd h (hne s')
    |exit i=>obtain⟨rfl,h3⟩:=hq;exact⟨rfl,h3⟩
    |ret=>obtain⟨rfl,h3⟩:=hq;exact⟨rfl,h3⟩
  exact⟨wp_loop_in key,fun b e=>by cases e;exact key⟩
 |_=>cases h
theorem ev_ok (hm:P.follows .mixedOrders=true){C:Ctx}(hT:TyOk P C.tys)(hM:MthOk P C.ms)(hF:FnsOk P C.fns)(hO:CfOk P w0 C.orc):∀fuel,EvOk P w0 (ev C fuel)
 |0=>fun pls c s x s' K ρ a w _ _ h=>by cases h
 |fuel+1=>evB_ok hm hT hM hF hO (ev_ok hm hT hM hF hO fuel)
theorem call_ok (hm:P.follows .mixedOrders=true)(hT:TyOk P C.tys)(hM:MthOk P C.ms)(hF:FnsOk P C.fns)(hO:CfOk P w0 C.orc)(fuel:Nat):CfOk P w0 (callF C (ev C fuel)):=callF_ok hT hF hO (ev_ok hm hT hM hF hO fuel)
end
end Go.EV
noncomputable section
namespace Go.EV
open Go Go.RowKit Go.RR Go.Lib
variable {P:Program}
def uni:List Nat->List Nat->List Nat
 |[],b=>b
 |x::r,b=>bif memN x b then uni r b else x::uni r b
def dirs:List Edge->List Nat
 |[]=>[]
 |e::r=>bif Region.binds .any e then e.on::dirs r else dirs r
def lkL:List (Nat×List Nat)->Nat->List Nat
 |[],_=>[]
 |(a,l)::r,i=>bif Nat.beq a i then l else lkL r i
def ancL (acc:List (Nat×List Nat)):List Nat->List Nat
 |[]=>[]
 |d::r=>uni (d::lkL acc d) (ancL acc r)
def ancs:List Oper->Nat->List (Nat×List Nat)->List (Nat×List Nat)
 |[],_,acc=>acc
 |o::r,i,acc=>ancs r (i+1) ((i,ancL acc (dirs o.after.toList))::acc)
def needT (ops:List Oper)(anc:List Nat)(t:Nat):Option Nat:=anc.find? fun j=>match dstOf ops j with
 |some d=>Nat.beq d t
 |none=>false
def isDst (ops:List Oper)(t:Nat):Bool:=ops.any fun o=>match o.dst with
 |some d=>Nat.beq d t
 |none=>false
def reads (ops:List Oper)(anc:List Nat):List Operand->List Nat×List Nat
 |[]=>([],[])
 | .tmp t::r=>match reads ops anc r with
  |(a,b)=>match needT ops anc t with
   |some j=>(uni [j] a,b)
   |none=>bif isDst ops t then (a,uni [t] b) else (a,b)
 |_::r=>reads ops anc r
def pick1 (p:Nat->Bool)(ops:List Oper)(done:List Nat):List Oper->Nat->Option (Nat×Oper)
 |[],_=>none
 |o::r,i=>bif !memN i done&&p i&&(dirs o.after.toList).all (fun j=>memN j done) then some (i,o) else pick1 p ops done r (i+1)
def kdAt (ops:List Oper)(j:Nat):Kd:=match nth ops j with
 |some o=>kdOf o.op
 |none=>.soft
def makes (ops:List Oper)(added:List Nat)(anc:List Nat):List Nat:=anc.filter fun j=>(kdAt ops j).isMake&&!memN j added
def planGo (ops:List Oper)(an:List (Nat×List Nat)):Nat->List Nat->List PI->List Nat->List PI×List Nat
 |0,_,out,added=>(out.reverse,added)
 | k+1,done,out,added=>match (match pick1 (fun i=>!(kdAt ops i).isAct) ops done ops 0 with
   |some x=>some x
   |none=>pick1 (fun _=>true) ops done ops 0) with
  |none=>(out.reverse,added)
  |some (i,o)=>match lkL an i with
   |anc=>match reads ops anc o.op.operands.toList with
    |(need,old)=>match (match o.guard with|some (j,_)=>uni [j] need|none=>need) with
     |need=>match kdOf o.op with
      | .act=>match makes ops added anc with
       |adds=>planGo ops an k (i::done) (⟨i,.act,need,anc,adds,((out.filter fun q=>q.kd.isRead&&!memN q.i anc).map fun q=>⟨q.i,q.need,makes ops (adds++added) q.anc,q.old⟩),old⟩::out) (adds++added)
      | .read=>planGo ops an k (i::done) (⟨i,.read,need,anc,makes ops added anc,[],old⟩::out) added
      | .make=>planGo ops an k (i::done) (⟨i,.make,need,anc,[],[],old⟩::out) added
      | .soft=>planGo ops an k (i::done) (⟨i,.soft,need,anc,[],[],old⟩::out) added
def genRP (ops:List Oper):RP:=match planGo ops (ancs ops 0 []) ops.length [] [] [] with
 |(pl,added)=>⟨pl,((pl.filter fun q=>q.kd.isMake&&!memN q.i added).map fun q=>q.i)⟩
def plsOf:Code->T RP->T RP
 | .region id ops true,t=>t.put id (genRP ops.toList)
 | .seq a b,t=>plsOf b (plsOf a t)
 | .cond _ a b,t=>plsOf b (plsOf a t)
 | .block _ a,t=>plsOf a t
 | .loop a,t=>plsOf a t
 |_,t=>t
def rsOf:List ResultVar->List (Nat×Option Nat)
 |[]=>[]
 | .tmp d::r=>(d,none)::rsOf r
 | .cell d t::r=>(d,some t)::rsOf r
theorem rsOf_ok:∀l:List ResultVar,l=(rsOf l).map resVar
 |[]=>rfl
 | .tmp d::r=>by simp only[rsOf,List.map_cons,resVar];rw[<- rsOf_ok r]
 | .cell d t::r=>by simp only[rsOf,List.map_cons,resVar];rw[<- rsOf_ok r]
def fn1Of (P:Program)(g:Nat):Option Fn1:=match P.funcs[g]? with
 |some fn=>match fn.body with
  |some c=>some ⟨fn.ntmps,rsOf fn.results.toList,c,plsOf c .nil⟩
  |none=>none
 |none=>none
def bit (m t:Nat):Bool:=Nat.beq (Nat.land (Nat.shiftRight m t) 1) 1
theorem bit_lt {m n t:Nat}(hm:m<2 ^ n)(h:bit m t=true):t<n:=Nat.not_le.1 fun hn=>by
 unfold bit at h;have h2:Nat.shiftRight m t=0:=by
  show m >>> t=0;rw[Nat.shiftRight_eq_div_pow];exact Nat.div_eq_of_lt (Nat.lt_of_lt_of_le hm (Nat.pow_le_pow_right (by omega) hn))
 rw[h2] at h;have h3:Nat.land 0 1=0:=rfl;rw[h3] at h;cases h
def allBits (f:Nat->Bool)(m:Nat):Nat->Bool
 |0=>true
 |n+1=>(bif bit m n then f n else true)&&allBits f m n
theorem allBits_ok {f:Nat->Bool}{m:Nat}:∀{n:Nat},allBits f m n=true->∀t,t<n->bit m t=true->f t=true
 |0,_,t,h,_=>by omega
 |n+1,h,t,ht,hb=>by
  unfold allBits at h;rw[Bool.and_eq_true] at h;by_cases e:t=n
  ·subst e;have:=h.1;rw[hb] at this;exact this
  ·exact allBits_ok h.2 t (by omega) hb
def fnT (P:Program)(m:Nat):Tab Fn1:=⟨fun g=>bif bit m g then fn1Of P g else none⟩
def fnChk (P:Program)(g:Nat):Bool:=match P.funcs[g]? with
 |some fn=>match fn.body with
  |some c=>plansOk fn.ntmps (plsOf c .nil) c&&!(fn.name=="runtime.NumGoroutine")
  |none=>false
 |none=>false
theorem fnT_get {m g:Nat}{f:Fn1}(h:(fnT P m).get g=some f):bit m g=true/\fn1Of P g=some f:=cnd (show (bif bit m g then fn1Of P g else none)=some f from h)
theorem fnsOk_of {m:Nat}(h:∀g,bit m g=true->fnChk P g=true):FnsOk P (fnT P m):=fun g f hf=>by
 obtain⟨h1,h2⟩:=fnT_get hf;have hc:=h g h1;unfold fnChk at hc;unfold fn1Of at h2;split at h2
 ·rename_i fn hfn;rw[hfn] at hc;split at h2
  ·rename_i c hb;simp only[hb,Bool.and_eq_true,Bool.not_eq_true'] at hc;cases h2;exact⟨fn,hfn,hc.2,hb,rfl,rsOf_ok _,hc.1⟩
  ·cases h2
 ·cases h2
def tfs (P:Program):List Field->List (Nat×Nat×TypeId)
 |[]=>[]
 |f::r=>(f.offset,(match P.info? f.type with|some i=>i.size|none=>0),f.type)::tfs P r
def tdOf (P:Program)(t:TypeId):TD:=match P.underlying t with
 |some (.slice e)=>.slice e
 |some (.pointer e)=>.ptr e
 |some (.array n e)=>.arr n e
 |some (.struct l)=>.st (tfs P l.toList)
 |some (.map k e)=>.map k e
 |some .string=>.str
 |some .bool=>.bool
 |some (.int k)=>.int k
 |some (.func ..)=>.fn
 |_=>.other
def tiOf (P:Program)(eq:List (TypeId×IntKind))(t:TypeId):Option TI:=match P.info? t with
 |some j=>match j.zero with
  |some z=>some ⟨tdOf P t,j.size,j.bytes,z.cells.toList,(eq.find? fun p=>Nat.beq p.1 t).map (·.2)⟩
  |none=>none
 |none=>none
def tyT (P:Program)(eq:List (TypeId×IntKind))(m:Nat):Tab TI:=⟨fun t=>bif bit m t then tiOf P eq t else none⟩
def tyChk (P:Program)(eq:List (TypeId×IntKind))(t:TypeId):Bool:=match tiOf P eq t with
 |some i=>tiChk P t i
 |none=>true
theorem tyOk_tyT {eq:List (TypeId×IntKind)}{m:Nat}(h:∀t,bit m t=true->tyChk P eq t=true)(he:∀t i,tiOf P eq t=some i->i.eqc.isSome=true->EqP P t i.size i.eqc):TyOk P (tyT P eq m):=fun t i hi=>by
 obtain⟨h1,h2⟩:=cnd (show (bif bit m t then tiOf P eq t else none)=some i from hi);have hc:=h t h1;unfold tyChk at hc;rw[h2] at hc;exact⟨tiChk_ok hc,he t i h2⟩
def mtOf (P:Program)(t:TypeId):List Method->List (String×Nat×Option Nat)
 |[]=>[]
 |m::r=>match m.func,P.underlying t with
  |some (f,ptr),some (.pointer e)=>bif m.path.isEmpty then (m.name,f,bif ptr then none else some e)::mtOf P t r else []
  |_,_=>[]
def mtT (P:Program):Meths:=⟨fun t=>match P.info? t with
 |some i=>some (mtOf P t i.methods.toList)
 |none=>none⟩
theorem mtOf_find {P:Program}{t:TypeId}:∀{l:List Method} {nm:String} {g:Nat} {q:Option Nat},findM (mtOf P t l) nm=some (g,q)->∃m,l.find? (·.name==nm)=some m/\m.path=#[]/\m.func=some (g,q.isNone)/\∃e,P.underlying t=some (.pointer e)/\∀e',q=some e'->e'=e
 |[],nm,g,q,h=>by cases h
 |m::r,nm,g,q,h=>by
  unfold mtOf at h;split at h
  ·rename_i f ptr e hf hu
   cases hp:m.path.isEmpty with
   |false=>rw[hp] at h;cases h
   |true=>
    rw[hp] at h;simp only[cond_true,findM] at h;rw[cdec] at h;split at h
    ·rename_i hn;cases h;refine⟨m,by rw[List.find?_cons,show (m.name==nm)=true by simpa using hn],by simpa using hp,?_,e,hu,fun e' he=>?_⟩
     ·rw[hf];cases ptr<;>rfl
     ·cases ptr
      ·cases he;rfl
      ·cases he
    ·rename_i hn;obtain⟨m',h1,h2⟩:=mtOf_find h;exact⟨m',by rw[List.find?_cons,show (m.name==nm)=false by simpa using hn];exact h1,h2⟩
  ·cases h
theorem mthOk_mtT:MthOk P (mtT P):=fun t l nm g q h hf=>by
 simp only[mtT] at h;split at h
 ·rename_i i hi;cases h;obtain⟨m,h1,h2,h3,h4⟩:=mtOf_find hf;exact⟨i,m,hi,by rw[<- Array.find?_toList];exact h1,h2,h3,h4⟩
 ·cases h
end Go.EV
noncomputable section
namespace Go.EV
open Go Go.RowKit Go.RR Go.Lib
def sg0 (f:Nat->Nat):Value->Value
 | .pointer (some a)=>.pointer (some ⟨f a.block,a.off,a.spot⟩)
 | .slice (some a) l c=>.slice (some ⟨f a.block,a.off,a.spot⟩) l c
 | .map (some r)=>.map (some (f r))
 |v=>v
def sg1 (f:Nat->Nat):Value->Value
 | .func fn first caps=>.func fn (first.map (sg0 f)) (caps.map (sg0 f))
 | .iface t v=>.iface t (sg0 f v)
 |v=>sg0 f v
def sg2 (f:Nat->Nat):Value->Value
 | .agg cs=>.agg (cs.map (sg1 f))
 |v=>sg1 f v
def sg (f:Nat->Nat):Value->Value
 | .tuple vs=>.tuple (vs.map (sg2 f))
 |v=>sg2 f v
def cmp (ρ:Rn)(f:Nat->Nat):Rn:=⟨fun i=>ρ.f (f i),fun i=>ρ.c (f i)⟩
theorem ren0_sg (ρ:Rn)(f:Nat->Nat)(v:Value):ren0 ρ (sg0 f v)=ren0 (cmp ρ f) v:=by
 cases v with
 |pointer a=>cases a<;>rfl
 |slice a l c=>cases a<;>rfl
 |map r=>cases r<;>rfl
 |_=>rfl
theorem ren1_sg (ρ:Rn)(f:Nat->Nat)(v:Value):ren1 ρ (sg1 f v)=ren1 (cmp ρ f) v:=by
 cases v with
 |func fn a b=>
  simp only[sg1,ren1,Array.map_map];congr 1
  ·congr 1;funext x;exact ren0_sg ρ f x
  ·congr 1;funext x;exact ren0_sg ρ f x
 |iface t v=>simp only[sg1,ren1,ren0_sg]
 |pointer a=>cases a<;>rfl
 |slice a l c=>cases a<;>rfl
 |map r=>cases r<;>rfl
 |_=>rfl
theorem ren2_sg (ρ:Rn)(f:Nat->Nat)(v:Value):ren2 ρ (sg2 f v)=ren2 (cmp ρ f) v:=by
 cases v with
 |agg cs=>
  simp only[sg2,ren2,Array.map_map];congr 2;funext x;exact ren1_sg ρ f x
 |func fn a b=>exact ren1_sg ρ f (.func fn a b)
 |iface t v=>exact ren1_sg ρ f (.iface t v)
 |pointer a=>cases a<;>rfl
 |slice a l c=>cases a<;>rfl
 |map r=>cases r<;>rfl
 |_=>rfl
theorem ren_sg (ρ:Rn)(f:Nat->Nat)(v:Value):ren ρ (sg f v)=ren (cmp ρ f) v:=by
 cases v with
 |tuple cs=>
  simp only[sg,ren,Array.map_map];congr 2;funext x;exact ren2_sg ρ f x
 |agg cs=>exact ren2_sg ρ f (.agg cs)
 |func fn a b=>exact ren2_sg ρ f (.func fn a b)
 |iface t v=>exact ren2_sg ρ f (.iface t v)
 |pointer a=>cases a<;>rfl
 |slice a l c=>cases a<;>rfl
 |map r=>cases r<;>rfl
 |_=>rfl
def cl0 (p:Nat->Bool):Value->Bool
 | .pointer (some a)=>p a.block
 | .slice (some a) _ _=>p a.block
 | .map (some r)=>p r
 |v=>plain0 v
def cl1 (p:Nat->Bool):Value->Bool
 | .func _ first caps=>first.toList.all (cl0 p)&&caps.toList.all (cl0 p)
 | .iface _ v=>cl0 p v
 |v=>cl0 p v
def cl2 (p:Nat->Bool):Value->Bool
 | .agg cs=>cs.toList.all (cl1 p)
 |v=>cl1 p v
def cl (p:Nat->Bool):Value->Bool
 | .tuple vs=>vs.toList.all (cl2 p)
 |v=>cl2 p v
section
variable {K:Nat->Prop} {p:Nat->Bool} (hp:∀b,p b=true->K b)
variable {v:Value} {ρ ρ':Rn}
include hp
theorem cl0_bv (h:cl0 p v=true)(ha:Agr K ρ ρ'):ren0 ρ v=ren0 ρ' v:=by
 cases v with
 |pointer a=>cases a with
  |none=>rfl
  |some a=>simp only[ren0,(ha _ (hp _ h)).1]
 |slice a l c=>cases a with
  |none=>rfl
  |some a=>simp only[ren0,rcap,(ha _ (hp _ h)).1,(ha _ (hp _ h)).2]
 |map r=>cases r with
  |none=>rfl
  |some r=>simp only[ren0,(ha _ (hp _ h)).1]
 |_=>rfl
theorem cl0_list {cs:Array Value}(h:cs.toList.all (cl0 p)=true)(ha:Agr K ρ ρ'):cs.map (ren0 ρ)=cs.map (ren0 ρ'):=by
 apply Array.toList_inj.1;simp only[Array.toList_map];exact List.map_congr_left fun x hx=>cl0_bv hp (List.all_eq_true.1 h x hx) ha
theorem cl1_bv (h:cl1 p v=true)(ha:Agr K ρ ρ'):ren1 ρ v=ren1 ρ' v:=by
 cases v with
 |func fn a b=>
  simp only[cl1,Bool.and_eq_true] at h;simp only[ren1,cl0_list hp h.1 ha,cl0_list hp h.2 ha]
 |iface t v=>simp only[ren1,cl0_bv hp (show cl0 p v=true from h) ha]
 |pointer a=>exact cl0_bv hp (v:=.pointer a) h ha
 |slice a l c=>exact cl0_bv hp (v:=.slice a l c) h ha
 |map r=>exact cl0_bv hp (v:=.map r) h ha
 |_=>rfl
theorem cl1_list {cs:Array Value}(h:cs.toList.all (cl1 p)=true)(ha:Agr K ρ ρ'):cs.map (ren1 ρ)=cs.map (ren1 ρ'):=by
 apply Array.toList_inj.1;simp only[Array.toList_map];exact List.map_congr_left fun x hx=>cl1_bv hp (List.all_eq_true.1 h x hx) ha
theorem cl2_bv (h:cl2 p v=true)(ha:Agr K ρ ρ'):ren2 ρ v=ren2 ρ' v:=by
 cases v with
 |agg cs=>simp only[ren2,cl1_list hp (show cs.toList.all (cl1 p)=true from h) ha]
 |func fn a b=>exact cl1_bv hp (v:=.func fn a b) h ha
 |iface t v=>exact cl1_bv hp (v:=.iface t v) h ha
 |pointer a=>exact cl0_bv hp (v:=.pointer a) h ha
 |slice a l c=>exact cl0_bv hp (v:=.slice a l c) h ha
 |map r=>exact cl0_bv hp (v:=.map r) h ha
 |_=>rfl
theorem cl_bv (h:cl p v=true):BV K v:=fun ρ ρ' ha=>by
 cases v with
 |tuple cs=>
  show Value.tuple (cs.map (ren2 ρ))=.tuple (cs.map (ren2 ρ'));congr 1;apply Array.toList_inj.1;simp only[Array.toList_map];exact List.map_congr_left fun x hx=>cl2_bv hp (List.all_eq_true.1 h x hx) ha
 |agg cs=>exact cl2_bv hp (v:=.agg cs) h ha
 |func fn a b=>exact cl2_bv hp (v:=.func fn a b) h ha
 |iface t v=>exact cl2_bv hp (v:=.iface t v) h ha
 |pointer a=>exact cl2_bv hp (v:=.pointer a) h ha
 |slice a l c=>exact cl2_bv hp (v:=.slice a l c) h ha
 |map r=>exact cl2_bv hp (v:=.map r) h ha
 |_=>rfl
end
end Go.EV
noncomputable section
namespace Go.EV
open Go Go.RowKit Go.RR Go.Lib
variable {r:Option Obj}
def sgO (f:Nat->Nat):AO->AO
 | .row w e cs tl=>.row w e (cs.map (sg1 f)) tl
 | .mp w es=>.mp w (es.map fun p=>(p.1,sg f p.2))
 | .tab cs=>.tab (cs.map (sg1 f))
def tlEq:Option Nat->Option Nat->Bool
 |none,none=>true
 |some a,some b=>Nat.beq a b
 |_,_=>false
theorem tlEq_eq {a b:Option Nat}(h:tlEq a b=true):a=b:=by
 unfold tlEq at h;split at h
 ·rfl
 ·rw[nbeq,decide_eq_true_eq] at h;rw[h]
 ·cases h
def esEq:List (Value×Value)->List (Value×Value)->Bool
 |[],[]=>true
 |a::l,b::m=>bif vEq a.1 b.1&&vEq a.2 b.2 then esEq l m else false
 |_,_=>false
theorem esEq_eq:∀{l m:List (Value×Value)},esEq l m=true->l=m
 |[],[],_=>rfl
 |a::l,b::m,h=>by
  unfold esEq at h
  cases hc:(vEq a.1 b.1&&vEq a.2 b.2) with
  |false=>rw[hc] at h;cases h
  |true=>
   rw[hc] at h;rw[Bool.and_eq_true] at hc;rw[Prod.ext (vEq_eq hc.1) (vEq_eq hc.2),esEq_eq h]
 |[],_::_,h=>by cases h
 |_::_,[],h=>by cases h
def aoEq:AO->AO->Bool
 | .row _ e cs tl,.row _ e' cs' tl'=>Nat.beq e e'&&vEqs vEq1 cs cs'&&tlEq tl tl'
 | .mp _ es,.mp _ es'=>esEq es es'
 | .tab cs,.tab cs'=>vEqs vEq1 cs cs'
 |_,_=>false
theorem aoEq_obj {a b:AO}(h:aoEq a b=true){ρ:Rn}{i:Nat}(hb:ObjR ρ i b r):ObjR ρ i a r:=by
 unfold aoEq at h;split at h
 ·simp only[Bool.and_eq_true,nbeq,decide_eq_true_eq] at h;obtain⟨⟨rfl,h2⟩,h3⟩:=h;have h2:=vEqs_eq (fun _ _=>vEq1_eq) h2;have h3:=tlEq_eq h3;subst h2;subst h3;exact hb
 ·have:=esEq_eq h;subst this;exact hb
 ·have:=vEqs_eq (fun _ _=>vEq1_eq) h;subst this;exact hb
 ·cases h
theorem sgO_obj {ρ:Rn}{f:Nat->Nat}{i:Nat}{o:AO}(h:ObjR ρ (f i) (sgO f o) r):ObjR (cmp ρ f) i o r:=by
 cases o with
 |row w e cs tl=>
  obtain⟨rest,h1,h2⟩:=h;refine⟨rest,?_,?_⟩
  ·have e1:(cs.map (sg1 f)).map (ren1 ρ)=cs.map (ren1 (cmp ρ f)):=by
    rw[List.map_map];exact List.map_congr_left fun v _=>ren1_sg ρ f v
   rw[<- e1];exact h1
  ·cases tl with
   |none=>exact h2
   |some sz=>simpa[cmp] using h2
 |mp w es=>
  obtain⟨es',k,h1,h2⟩:=h;refine⟨es',k,h1,h2.trans ?_⟩;rw[List.map_map];exact List.map_congr_left fun p _=>by simp only[Function.comp,ren_sg]
 |tab cs=>
  obtain⟨e,fz,h1⟩:=h;refine⟨e,fz,?_⟩;have e1:(cs.map (sg1 f)).map (ren1 ρ)=cs.map (ren1 (cmp ρ f)):=by
   rw[List.map_map];exact List.map_congr_left fun v _=>ren1_sg ρ f v
  rw[<- e1];exact h1
structure Sn where
 hs:List (Nat×AO)
 n:Nat
def Sn.dom (S:Sn)(b:Nat):Bool:=Nat.blt b 16||S.hs.any fun q=>Nat.beq q.1 b
def clO (p:Nat->Bool):AO->Bool
 | .row _ _ cs _=>cs.all fun v=>base1 v&&cl1 p v
 | .mp _ es=>es.all fun q=>plain q.1&&cl p q.2
 | .tab cs=>cs.all fun v=>base1 v&&cl1 p v
def Sn.ok (S:Sn):Bool:=Nat.ble 16 S.n&&S.hs.all fun q=>Nat.blt q.1 S.n&&!q.2.wr&&clO S.dom q.2
theorem clO_ob {K:Nat->Prop}{p:Nat->Bool}(hp:∀b,p b=true->K b){o:AO}(h:clO p o=true):OB K o:=by
 cases o with
 |row w e cs tl=>
  intro v hv;have:=List.all_eq_true.1 h v hv;rw[Bool.and_eq_true] at this;refine⟨this.1,fun ρ ρ' ha=>?_⟩;rw[ren_base1 this.1,ren_base1 this.1];exact cl1_bv hp this.2 ha
 |mp w es=>
  intro q hq;have:=List.all_eq_true.1 h q hq;rw[Bool.and_eq_true] at this;exact⟨this.1,cl_bv hp this.2⟩
 |tab cs=>
  intro v hv;have:=List.all_eq_true.1 h v hv;rw[Bool.and_eq_true] at this;refine⟨this.1,fun ρ ρ' ha=>?_⟩;rw[ren_base1 this.1,ren_base1 this.1];exact cl1_bv hp this.2 ha
def Sn.lies (S:Sn)(f:Nat->Nat)(H:T AO):Bool:=S.hs.all fun q=>match H.get (f q.1) with
 |some o=>aoEq (sgO f q.2) o
 |none=>false
theorem Sn.rel {S:Sn}(hS:S.ok=true){w0:World}{K:Nat->Prop}{ρ:Rn}{H:T AO}{w:World}(hw:RelH w0 K ρ H w){f:Nat->Nat}(hl:S.lies f H=true):
  RelH w0 (fun b=>S.dom b=true) (cmp ρ f) (T.ofList S.hs) w:=by
 unfold Sn.ok at hS;rw[Bool.and_eq_true] at hS;have hq:∀i o,(T.ofList S.hs).get i=some o->(i,o)∈S.hs/\i<S.n/\o.wr=false/\clO S.dom o=true:=fun i o h=>by
  have h1:=T.get_ofList S.hs h;have h2:=List.all_eq_true.1 hS.2 _ h1;simp only[Bool.and_eq_true,Bool.not_eq_true',Nat.blt_eq] at h2;exact⟨h1,h2.1.1,h2.1.2,h2.2⟩
 refine⟨hw.upd,fun i o h=>?_,fun i o h=>?_,fun i o h=>?_,fun i j oi oj h _ hwr _=>?_,fun i o h hwr=>?_⟩
 ·unfold Sn.dom;rw[Bool.or_eq_true,List.any_eq_true];exact .inr ⟨_,(hq i o h).1,by rw[nbeq];simp⟩
 ·have:=List.all_eq_true.1 hl _ (hq i o h).1;simp only at this;split at this
  ·rename_i o' ho';exact sgO_obj (aoEq_obj this (hw.obj _ _ ho'))
  ·cases this
 ·exact clO_ob (fun _ h=>h) (hq i o h).2.2.2
 ·rw[(hq i oi h).2.2.1] at hwr;cases hwr
 ·rw[(hq i o h).2.2.1] at hwr;cases hwr
end Go.EV
noncomputable section
namespace Go.EV
open Go Go.RowKit Go.RR Go.Lib
variable {K:Nat->Prop} {f:Nat->Nat} {K':Nat->Prop}
structure Sm extends Sn where
 g:Nat
 args:List Value
 v:Value
 out:List (Nat×AO)
 n':Nat
def Sm.says (M:Sm)(cf:CallF):Bool:=match cf M.g M.args (T.ofList M.hs) M.n with
 |some (v,H',n')=>vEq v M.v&&Nat.beq n' M.n'&&M.out.all fun q=>Nat.ble M.n q.1&&Nat.blt q.1 M.n'&&q.2.wr&&(match H'.get q.1 with
  |some o=>o.wr&&aoEq q.2 o
  |none=>false)
 |none=>false
def Sm.fit (M:Sm):Bool:=M.toSn.ok&&M.args.all (cl M.toSn.dom)
def lkN:List (Nat×Nat)->Nat->Nat
 |[],i=>i
 |(a,b)::r,i=>bif Nat.beq a i then b else lkN r i
def shN (n nx:Nat)(f:Nat->Nat)(i:Nat):Nat:=bif Nat.ble n i then nx+(i-n) else f i
def putAll (n nx:Nat)(f:Nat->Nat):List (Nat×AO)->T AO->T AO
 |[],H=>H
 |q::r,H=>(putAll n nx f r H).put (nx+(q.1-n)) (sgO (shN n nx f) q.2)
def vsEq:List Value->List Value->Bool
 |[],[]=>true
 |a::l,b::m=>bif vEq a b then vsEq l m else false
 |_,_=>false
theorem vsEq_eq:∀{l m:List Value},vsEq l m=true->l=m
 |[],[],_=>rfl
 |a::l,b::m,h=>by
  unfold vsEq at h
  cases hc:vEq a b with
  |false=>rw[hc] at h;cases h
  |true=>rw[hc] at h;rw[vEq_eq hc,vsEq_eq h]
 |[],_::_,h=>by cases h
 |_::_,[],h=>by cases h
def Sm.use (M:Sm)(f:Nat->Nat)(args:List Value)(H:T AO)(nx:Nat):Option (Value×T AO×Nat):=
 bif M.toSn.lies f H&&vsEq (M.args.map (sg f)) args&&(List.range 16).all (fun g=>Nat.beq (f g) g) then some (sg (shN M.n nx f) M.v,putAll M.n nx f M.out H,nx+(M.n'-M.n)) else none
theorem aoEq_ob {a b:AO}(h:aoEq a b=true)(hb:OB K b):OB K a:=by
 unfold aoEq at h;split at h
 ·simp only[Bool.and_eq_true,nbeq,decide_eq_true_eq] at h;have h2:=vEqs_eq (fun _ _=>vEq1_eq) h.1.2;subst h2;exact hb
 ·have:=esEq_eq h;subst this;exact hb
 ·have:=vEqs_eq (fun _ _=>vEq1_eq) h;subst this;exact hb
 ·cases h
theorem putAll_get {n nx:Nat}{f:Nat->Nat}:∀{l:List (Nat×AO)} {H:T AO} {b:Nat} {o:AO},(putAll n nx f l H).get b=some o->H.get b=some o\/∃q∈l,b=nx+(q.1-n)/\o=sgO (shN n nx f) q.2
 |[],H,b,o,h=>.inl h
 |q::r,H,b,o,h=>by
  unfold putAll at h;rw[T.get_put] at h;split at h
  ·rename_i e;cases h;exact .inr ⟨q,List.mem_cons_self,e,rfl⟩
  ·rcases putAll_get h with h|⟨q',h1,h2⟩
   ·exact .inl h
   ·exact .inr ⟨q',List.mem_cons_of_mem _ h1,h2⟩
theorem objR_cmp {ρ:Rn}{i:Nat}{o:AO}{r:Option Obj}(h:ObjR (cmp ρ f) i o r):ObjR ρ (f i) (sgO f o) r:=by
 cases o with
 |row w e cs tl=>
  obtain⟨rest,h1,h2⟩:=h;refine⟨rest,?_,?_⟩
  ·have e1:(cs.map (sg1 f)).map (ren1 ρ)=cs.map (ren1 (cmp ρ f)):=by
    rw[List.map_map];exact List.map_congr_left fun v _=>ren1_sg ρ f v
   rw[e1];exact h1
  ·cases tl with
   |none=>exact h2
   |some sz=>simpa[cmp] using h2
 |mp w es=>
  obtain⟨es',k,h1,h2⟩:=h;refine⟨es',k,h1,h2.trans ?_⟩;rw[List.map_map];exact List.map_congr_left fun p _=>by simp only[Function.comp,ren_sg]
 |tab cs=>
  obtain⟨e,fz,h1⟩:=h;refine⟨e,fz,?_⟩;have e1:(cs.map (sg1 f)).map (ren1 ρ)=cs.map (ren1 (cmp ρ f)):=by
   rw[List.map_map];exact List.map_congr_left fun v _=>ren1_sg ρ f v
  rw[e1];exact h1
theorem bv_sg {v:Value}(h:BV K v)(hf:∀b,K b->K' (f b)):BV K' (sg f v):=fun ρ ρ' ha=>by
 rw[ren_sg,ren_sg];exact h _ _ fun b hb=>ha (f b) (hf b hb)
theorem base1_sg {v:Value}(h:base1 v=true):base1 (sg1 f v)=true/\sg f v=sg1 f v:=by
 cases v with
 |pointer a=>cases a<;>exact⟨rfl,rfl⟩
 |slice a l c=>cases a<;>exact⟨rfl,rfl⟩
 |map r=>cases r<;>exact⟨rfl,rfl⟩
 |func fn a b=>exact⟨h,rfl⟩
 |iface t v=>exact⟨h,rfl⟩
 |_=>first|exact⟨rfl,rfl⟩|cases h
theorem ob_sg {o:AO}(h:OB K o)(hf:∀b,K b->K' (f b)):OB K' (sgO f o):=by
 cases o with
 |row w e cs tl=>
  intro v hv;obtain⟨u,hu,rfl⟩:=List.mem_map.1 hv;obtain⟨h1,h2⟩:=h u hu;obtain⟨b1,b2⟩:=base1_sg (f:=f) h1;refine⟨b1,?_⟩;rw[<- b2];exact bv_sg h2 hf
 |mp w es=>
  intro q hq;obtain⟨u,hu,rfl⟩:=List.mem_map.1 hq;obtain⟨h1,h2⟩:=h u hu;exact⟨h1,bv_sg h2 hf⟩
 |tab cs=>
  intro v hv;obtain⟨u,hu,rfl⟩:=List.mem_map.1 hv;obtain⟨h1,h2⟩:=h u hu;obtain⟨b1,b2⟩:=base1_sg (f:=f) h1;refine⟨b1,?_⟩;rw[<- b2];exact bv_sg h2 hf
end Go.EV
noncomputable section
namespace Go.EV
open Go Go.RowKit Go.RR Go.Lib
theorem Sn.get {S:Sn}(hS:S.ok=true){i:Nat}{o:AO}(h:(T.ofList S.hs).get i=some o):(i,o)∈S.hs/\i<S.n/\o.wr=false:=by
 unfold Sn.ok at hS;rw[Bool.and_eq_true] at hS;have h1:=T.get_ofList S.hs h;have h2:=List.all_eq_true.1 hS.2 _ h1;simp only[Bool.and_eq_true,Bool.not_eq_true',Nat.blt_eq] at h2;exact⟨h1,h2.1.1,h2.1.2⟩
theorem Sn.dom_cases {S:Sn}(hS:S.ok=true){b:Nat}(h:S.dom b=true):b<S.n/\(b<16\/∃o,(b,o)∈S.hs):=by
 unfold Sn.ok at hS;rw[Bool.and_eq_true,Nat.ble_eq] at hS;unfold Sn.dom at h;rw[Bool.or_eq_true,Nat.blt_eq] at h
 rcases h with h|h
 ·exact⟨by omega,.inl h⟩
 ·obtain⟨q,h1,h2⟩:=List.any_eq_true.1 h;rw[nbeq,decide_eq_true_eq] at h2;subst h2;have h3:=List.all_eq_true.1 hS.2 _ h1;simp only[Bool.and_eq_true,Nat.blt_eq] at h3;exact⟨h3.1.1,.inr ⟨q.2,h1⟩⟩
theorem use_ok {P:Program}{w0:World}{cf:CallF}(hC:CfOk P w0 cf){M:Sm}(hfit:M.fit=true)(hsay:M.says cf=true){K:Nat->Prop}{ρ:Rn}{H:T AO}{w:World}{nx:Nat}{f:Nat->Nat}{args:List Value}{v:Value}{H2:T AO}{nx2:Nat}
  (hw:RelH w0 K ρ H w) (hB:Base K ρ nx) (hu:M.use f args H nx=some (v,H2,nx2)) {o:Oper} {a:Act} {next:Act->World->Prop} {Q:Exit->Act->World->Prop} (hn:∀ρ' w',Left w0 K ρ H w nx v H2 nx2 ρ' w'->next (a.put o.dst (ren ρ' v)) w'):
  o.upon P a next Q ((callFunc M.g (args.map (ren ρ)).toArray).run P w):=by
 unfold Sm.fit at hfit;rw[Bool.and_eq_true] at hfit;obtain⟨hok,hcl⟩:=hfit;unfold Sm.says at hsay;split at hsay
 rotate_left
 ·cases hsay
 rename_i v0 H' n0 hcall;simp only[Bool.and_eq_true,nbeq,decide_eq_true_eq] at hsay;obtain⟨⟨e1,e2⟩,hout⟩:=hsay;have e1:=vEq_eq e1;subst e1;subst e2;unfold Sm.use at hu;obtain⟨hc,hu⟩:=cnd hu;cases hu;simp only[Bool.and_eq_true] at hc;obtain⟨⟨hl,ha⟩,h16⟩:=hc;have ha:=vsEq_eq ha;have hf16:∀g,g<16->f g=g:=fun g hg=>by
  have:=List.all_eq_true.1 h16 g (List.mem_range.2 hg);rwa[nbeq,decide_eq_true_eq] at this
 have hrel:=Sn.rel hok hw hl;have hfK:∀b,M.toSn.dom b=true->K (f b):=fun b hb=>by
  obtain⟨_,h|⟨ob,h⟩⟩:=Sn.dom_cases hok hb
  ·rw[hf16 b h];exact (hB.2 b h).1
  ·have:=List.all_eq_true.1 hl _ h;simp only at this;split at this
   ·rename_i o' ho';exact hw.kn _ _ ho'
   ·cases this
 have hfx:∀b,M.toSn.dom b=true->f b<nx:=fun b hb=>Nat.not_le.1 fun h=>hB.1 _ h (hfK b hb);have hbas:Base (fun b=>M.toSn.dom b=true) (cmp ρ f) M.n:=⟨fun b hb h=>by
  have:=(Sn.dom_cases hok h).1;omega,fun g hg=>⟨by show M.toSn.dom g=true;unfold Sn.dom;rw[Bool.or_eq_true,Nat.blt_eq];exact .inl hg,by
  show ρ.f (f g)=g;rw[hf16 g hg];exact (hB.2 g hg).2⟩⟩
 have hbv:∀x∈M.args,BV (fun b=>M.toSn.dom b=true) x:=fun x hx=>cl_bv (fun _ h=>h) (List.all_eq_true.1 hcl x hx);have eargs:args.map (ren ρ)=M.args.map (ren (cmp ρ f)):=by
  rw[<- ha,List.map_map];exact List.map_congr_left fun x _=>ren_sg ρ f x
 rw[eargs];refine hC _ (cmp ρ f) _ w M.n M.g M.args M.v H' M.n' hrel hbas hbv hcall o a next Q fun ρ1 w' hL=>?_
 have hnn:=hL.le
 -- the new ones
 have hnew:∀q∈M.out,M.n<=q.1/\q.1<M.n'/\∃o',H'.get q.1=some o'/\o'.wr=true/\aoEq q.2 o'=true/\w.heap.size<=ρ1.f q.1:=fun q hq=>by
  have:=List.all_eq_true.1 hout q hq;simp only[Bool.and_eq_true,Nat.ble_eq,Nat.blt_eq] at this;obtain⟨⟨⟨h1,h2⟩,_⟩,h3⟩:=this;split at h3
  ·rename_i o' ho';rw[Bool.and_eq_true] at h3;refine⟨h1,h2,o',ho',h3.1,h3.2,?_⟩
   rcases hL.im q.1 o' ho' with h|⟨j,oj,hj,hwr,_⟩
   ·exact h
   ·have:=(Sn.get hok hj).2.2;rw[hwr h3.1] at this;cases this
  ·cases h3
 let ρ2:Rn:=⟨fun b=>if nx<=b/\b<nx+(M.n'-M.n) then ρ1.f (b-nx+M.n) else ρ.f b,fun b=>if nx<=b/\b<nx+(M.n'-M.n) then ρ1.c (b-nx+M.n) else ρ.c b⟩
 have a2:∀b,b<nx->ρ2.f b=ρ.f b/\ρ2.c b=ρ.c b:=fun b hb=>by
  have:¬ (nx<=b/\b<nx+(M.n'-M.n)):=by omega
  simp[ρ2,this]
 have a3:∀i,M.n<=i->i<M.n'->ρ2.f (nx+(i-M.n))=ρ1.f i/\ρ2.c (nx+(i-M.n))=ρ1.c i:=fun i h1 h2=>by
  have h3:nx<=nx+(i-M.n)/\nx+(i-M.n)<nx+(M.n'-M.n):=by omega
  have h4:nx+(i-M.n)-nx+M.n=i:=by omega
  simp only[ρ2,if_pos h3,h4,and_self]
 have hlo:∀b,K b->b<nx:=fun b hb=>Nat.not_le.1 fun h=>hB.1 b h hb;have hsh:∀i,M.n<=i->shN M.n nx f i=nx+(i-M.n):=fun i h=>by
  unfold shN;rw[show Nat.ble M.n i=true by rw[Nat.ble_eq];exact h];rfl
 have hsl:∀i,i<M.n->shN M.n nx f i=f i:=fun i h=>by
  unfold shN;have:Nat.ble M.n i=false:=by
   cases hb:Nat.ble M.n i with
   |false=>rfl
   |true=>rw[Nat.ble_eq] at hb;omega
  rw[this];rfl
 have hag:Agr (Upto (fun b=>M.toSn.dom b=true) M.n M.n') (cmp ρ2 (shN M.n nx f)) ρ1:=fun i hi=>by
  rcases hi with hi|⟨h1,h2⟩
  ·have hin:=(Sn.dom_cases hok hi).1;have h3:=a2 _ (hfx i hi);have h4:=hL.agr i hi;simp only[cmp,hsl i hin];exact⟨h3.1.trans h4.1,h3.2.trans h4.2⟩
  ·simp only[cmp,hsh i h1];exact a3 i h1 h2
 have hup:∀i,Upto (fun b=>M.toSn.dom b=true) M.n M.n' i->Upto K nx (nx+(M.n'-M.n)) (shN M.n nx f i):=fun i hi=>by
  rcases hi with hi|⟨h1,h2⟩
  ·rw[hsl i (Sn.dom_cases hok hi).1];exact .inl (hfK i hi)
  ·rw[hsh i h1];exact .inr (by omega)
 have hkeep:∀k,k<w.heap.size->w'.heap[k]?=w.heap[k]?:=fun k hk=>hL.frm.kept k hk fun i oi hi hwr=>by
  rw[(Sn.get hok hi).2.2] at hwr;cases hwr
 have agrK:Agr K ρ ρ2:=fun b hb=>⟨(a2 b (hlo b hb)).1.symm,(a2 b (hlo b hb)).2.symm⟩;have ev:ren ρ2 (sg (shN M.n nx f) M.v)=ren ρ1 M.v:=by
  rw[ren_sg];exact hL.bv _ _ hag
 have hobk:∀q∈M.out,OB (Upto (fun b=>M.toSn.dom b=true) M.n M.n') q.2:=fun q hq=>by
  obtain⟨_,_,o',h1,_,h3,_⟩:=hnew q hq;exact aoEq_ob h3 (hL.h.bnd _ _ h1)
 have hg:=hn ρ2 w' ⟨agrK,⟨hL.h.upd,fun b ob h=>?_,fun b ob h=>?_,fun b ob h=>?_,fun b c ob oc h h' hwr hne=>?_,fun b ob h hwr=>?_⟩,bv_sg hL.bv hup,⟨hL.frm.size,fun k hk _=>hkeep k hk⟩,fun b ob h=>?_,Nat.le_add_right _ _⟩
 ·rw[ev] at hg;exact hg
 ·rcases putAll_get h with h|⟨q,h1,rfl,_⟩
  ·exact .inl (hw.kn b ob h)
  ·obtain⟨h2,h3,_⟩:=hnew q h1;exact .inr (by omega)
 ·rcases putAll_get h with h|⟨q,h1,rfl,rfl⟩
  ·have hk:=hw.kn b ob h;rw[(a2 b (hlo b hk)).1,hkeep _ (hw.lt h)];exact (hw.obj b ob h).agr agrK hk (hw.bnd b ob h)
  ·obtain⟨h2,h3,o',h4,h5,h6,_⟩:=hnew q h1;have h7:=aoEq_obj h6 (hL.h.obj _ _ h4);have h8:ObjR (cmp ρ2 (shN M.n nx f)) q.1 q.2 (w'.heap[ρ1.f q.1]?):=h7.agr hag.symm (.inr ⟨h2,h3⟩) (hobk q h1);have h9:=objR_cmp h8;rw[hsh q.1 h2] at h9;rw[(a3 q.1 h2 h3).1];exact h9
 ·rcases putAll_get h with h|⟨q,h1,rfl,rfl⟩
  ·exact (hw.bnd b ob h).mono fun x hx=>.inl hx
  ·exact ob_sg (hobk q h1) hup
 ·have lowA:∀b ob,H.get b=some ob->ρ2.f b=ρ.f b/\ρ.f b<w.heap.size:=fun b ob h=>⟨(a2 b (hlo b (hw.kn b ob h))).1,hw.lt h⟩
  rcases putAll_get h with h|⟨q,h1,rfl,rfl⟩
  ·rcases putAll_get h' with h'|⟨q',h1',rfl,rfl⟩
   ·rw[(lowA b ob h).1,(lowA c oc h').1];exact hw.inj b c ob oc h h' hwr hne
   ·obtain⟨h2,h3,_,_,_,_,h4⟩:=hnew q' h1';have:=lowA b ob h;rw[this.1,(a3 q'.1 h2 h3).1];omega
  ·obtain⟨h2,h3,o',h4,h5,h6,h7⟩:=hnew q h1;rw[(a3 q.1 h2 h3).1]
   rcases putAll_get h' with h'|⟨q',h1',rfl,rfl⟩
   ·have:=lowA c oc h';rw[this.1];omega
   ·obtain⟨h2',h3',o2,h4',_⟩:=hnew q' h1';rw[(a3 q'.1 h2' h3').1];exact hL.h.inj q.1 q'.1 o' o2 h4 h4' h5 fun e=>hne (by rw[e])
 ·rcases putAll_get h with h|⟨q,h1,rfl,rfl⟩
  ·rw[(a2 b (hlo b (hw.kn b ob h))).1];exact hw.new b ob h hwr
  ·obtain⟨h2,h3,_,_,_,_,h4⟩:=hnew q h1;rw[(a3 q.1 h2 h3).1];exact Nat.le_trans hw.upd.size h4
 ·rcases putAll_get h with h|⟨q,h1,rfl,rfl⟩
  ·exact .inr ⟨b,ob,h,id,(a2 b (hlo b (hw.kn b ob h))).1⟩
  ·obtain⟨h2,h3,_,_,_,_,h4⟩:=hnew q h1;rw[(a3 q.1 h2 h3).1];exact .inl h4
end Go.EV
noncomputable section
namespace Go.EV
open Go Go.RowKit Go.RR Go.Lib
def un0:Value->Value->List (Nat×Nat)->List (Nat×Nat)
 | .pointer (some a),.pointer (some b),f=>(a.block,b.block)::f
 | .slice (some a) _ _,.slice (some b) _ _,f=>(a.block,b.block)::f
 | .map (some a),.map (some b),f=>(a,b)::f
 |_,_,f=>f
def unL (u:Value->Value->List (Nat×Nat)->List (Nat×Nat)):List Value->List Value->List (Nat×Nat)->List (Nat×Nat)
 |a::l,b::m,f=>unL u l m (u a b f)
 |_,_,f=>f
def un1:Value->Value->List (Nat×Nat)->List (Nat×Nat)
 | .func _ a b,.func _ c d,f=>unL un0 b.toList d.toList (unL un0 a.toList c.toList f)
 | .iface _ a,.iface _ b,f=>un0 a b f
 |a,b,f=>un0 a b f
def un2:Value->Value->List (Nat×Nat)->List (Nat×Nat)
 | .agg a,.agg b,f=>unL un1 a.toList b.toList f
 |a,b,f=>un1 a b f
def unO:AO->AO->List (Nat×Nat)->List (Nat×Nat)
 | .row _ _ cs _,.row _ _ ds _,f=>unL un1 cs ds f
 | .mp _ es,.mp _ fs,f=>unL un2 (es.map (·.2)) (fs.map (·.2)) f
 | .tab cs,.tab ds,f=>unL un1 cs ds f
 |_,_,f=>f
def unH (H:T AO):List (Nat×AO)->List (Nat×Nat)->List (Nat×Nat)
 |[],f=>f
 |q::r,f=>match H.get (lkN f q.1) with
  |some o=>unH H r (unO q.2 o f)
  |none=>f
def Sm.find (M:Sm)(args:List Value)(H:T AO):Nat->Nat:=lkN (unH H M.hs (unL un2 M.args args []))
def orcS (M:Sm)(rest:CallF):CallF:=fun g args H nx=>bif Nat.beq g M.g then (match M.use (M.find args H) args H nx with
 |some r=>some r
 |none=>rest g args H nx) else rest g args H nx
theorem orcS_ok {P:Program}{w0:World}{cf rest:CallF}(hC:CfOk P w0 cf){M:Sm}(hfit:M.fit=true)(hsay:M.says cf=true)(hr:CfOk P w0 rest):CfOk P w0 (orcS M rest):=by
 intro K ρ H w nx g args v H' nx' hw hB hb h o a next Q hn
 unfold orcS at h
 cases hg:Nat.beq g M.g with
 |false=>
  rw[hg] at h;exact hr K ρ H w nx g args v H' nx' hw hB hb h o a next Q hn
 |true=>
  rw[hg] at h;rw[nbeq,decide_eq_true_eq] at hg;subst hg;simp only[cond_true] at h;split at h
  ·rename_i r hu;cases h;exact use_ok hC hfit hsay hw hB hu hn
  ·exact hr K ρ H w nx _ args v H' nx' hw hB hb h o a next Q hn
end Go.EV
noncomputable section
namespace Go.EV
open Go Go.RowKit Go.RR Go.Lib
variable {P:Program}
def idxO (c:Nat):List UInt8->Nat->Option Nat
 |[],_=>none
 |x::r,i=>bif Nat.beq x.toNat c then some i else idxO c r (i+1)
theorem idxO_eq {c:Nat}(hc:c<256):∀(l:List UInt8) (i:Nat),match idxO c l i with
  |some j=>i<=j/\indexByte l (UInt8.ofNat c)=((j-i:Nat):Int)
  |none=>indexByte l (UInt8.ofNat c)=-1
 |[],i=>rfl
 |x::r,i=>by
  have ih:=idxO_eq hc r (i+1);unfold idxO indexByte;have e:(x==UInt8.ofNat c)=Nat.beq x.toNat c:=by
   rw[nbeq,Bool.eq_iff_iff,beq_iff_eq,decide_eq_true_eq];constructor
   ·rintro rfl;simp;omega
   ·rintro rfl;simp
  rw[e]
  cases hb:Nat.beq x.toNat c with
  |true=>simp
  |false=>
   simp only[cond_false,Bool.false_eq_true,if_false];split at ih
   ·rename_i j hj;obtain⟨h1,h2⟩:=ih;rw[h2];refine⟨by omega,?_⟩;rw[if_neg (by simp)];omega
   ·rename_i hj;rw[ih];rfl
def orcI (g:Nat)(rest:CallF):CallF:=fun f args H nx=>bif Nat.beq f g then (match args with
 |[.string s,.int .u8 (.ofNat c)]=>bif Nat.blt c 256 then (match idxO c s.data.toList 0 with
  |some j=>some (.int .i64 (.ofNat j),H,nx)
  |none=>some (.int .i64 (.negSucc 0),H,nx)) else none
 |_=>none) else rest f args H nx
theorem orcI_ok {w0:World}{g:Nat}{fn:Func}{rest:CallF}(hf:P.funcs[g]?=some fn)(hname:(fn.name=="runtime.NumGoroutine")=false)
  (hb:fn.body.isNone=true) (hn:Extern.findNext fn=none) (he:Extern.find fn=some Extern.BytealgIndexByte.indexByte) (hr:CfOk P w0 rest):CfOk P w0 (orcI g rest):=by
 intro K ρ H w nx f args v H' nx' hw hB hbv h o a next Q hnx
 unfold orcI at h
 cases hg:Nat.beq f g with
 |false=>rw[hg] at h;exact hr K ρ H w nx f args v H' nx' hw hB hbv h o a next Q hnx
 |true=>
  rw[hg] at h;rw[nbeq,decide_eq_true_eq] at hg;subst hg;simp only[cond_true] at h;split at h
  ·rename_i s c;obtain⟨hc,h⟩:=cnd h;rw[Nat.blt_eq] at hc;have hi:=idxO_eq hc s.data.toList 0;have key:(callFunc f ([.string s,.int .u8 (.ofNat c)].map (ren ρ)).toArray).run P w=.ok (.value (.int .i64 (indexByte s.data.toList (UInt8.ofNat c)))) w:=by
    rw[run_callFunc_extern hf hname hb hn he];show ((Extern.BytealgIndexByte.indexByte #[.string s,.int .u8 (.ofNat c)]).run P w).andThen _=_;rw[run_indexByteString];rfl
   rw[key,Oper.upon_value];split at h
   ·rename_i j hj;cases h;rw[hj] at hi;dsimp only at hi;have:=hnx ρ w ⟨.refl _ _,upto_self hw,fun _ _ _=>rfl,.refl _ _ _,.refl _ _ _,Nat.le_refl _⟩;rw[hi.2];exact this
   ·rename_i hj;cases h;rw[hj] at hi;dsimp only at hi;have:=hnx ρ w ⟨.refl _ _,upto_self hw,fun _ _ _=>rfl,.refl _ _ _,.refl _ _ _,Nat.le_refl _⟩;rw[hi];exact this
  ·cases h
theorem ints_of:∀{l:List Value},l.all (isK (some .i64))=true->∃zs:List Int,l=zs.map (.int .i64)
 |[],_=>⟨[],rfl⟩
 |x::l,h=>by
  rw[List.all_cons,Bool.and_eq_true] at h;obtain⟨zs,rfl⟩:=ints_of h.2;have h1:=h.1;unfold isK at h1;split at h1
  ·rename_i k j n hk;cases hk;rw[ikEq_eq h1];exact⟨n::zs,rfl⟩
  ·cases h1
def orcA (g v1 t:Nat)(rest:CallF):CallF:=fun f args H nx=>bif Nat.beq f g then (match args with
 |[.slice none 0 0,.func (.func v) ⟨[]⟩ ⟨[.pointer (some a)]⟩]=>bif Nat.beq v v1&&isN a.spot&&Nat.beq a.off 0 then (match H.get a.block with
  |some (.row _ _ (.slice none 0 0::_) _)=>some (.slice none 0 0,H,nx)
  |some (.row _ _ (.slice (some b) n _::_) _)=>match H.get b.block with
   | some (.row _ _ ds _)=>bif isN b.spot&&Nat.ble (b.off+n) ds.length&&Nat.ble n 1000000&&((ds.drop b.off).take n).all (isK (some .i64)) then
     (bif Nat.beq n 0 then some (.slice none 0 0,H,nx) else some (.slice (some ⟨nx,0,none⟩) n big,H.put nx (.row true t ((ds.drop b.off).take n) (some 1)),nx+1)) else none
   |_=>none
  |_=>none) else none
 |_=>none) else rest f args H nx
def SeqP (P:Program)(g v1 t:Nat):Prop:=∀(w:World) (Bs b off cap:Nat) (a:Option Addr) (zs:List Int),(zs.length≠0->a=some ⟨b,off,none⟩)->zs.length<=1000000->Bs<w.heap.size->b<w.heap.size->
 w.cell? ⟨Bs,0,none⟩=some (.slice a zs.length cap)->(∀j,j<zs.length->w.cell? ⟨b,off+j,none⟩=some (.int .i64 (zs[j]?.getD 0)))->
 Calls P g #[.slice none 0 0,.func (.func v1) #[] #[.pointer (some ⟨Bs,0,none⟩)]] w fun e W'=>∃v,e=.returned v/\W'.ownsRow w.heap.size t 1 v zs.length (zs.map (Value.int .i64))/\(v=.slice none 0 0<->zs=[])/\Below w.heap.size w W'
theorem below_upd {w w':World}(h:Below w.heap.size w w'):Upd (fun _=>False) w w':=⟨h.os,h.tape,h.output,h.size,fun k hk _=>h.block k hk⟩
theorem orcA_ok {w0:World}{g v1 t:Nat}{fn:Func}{c:Code}{rest:CallF}(hf:P.funcs[g]?=some fn)(hname:(fn.name=="runtime.NumGoroutine")=false)
  (hbd:fn.body=some c) (hA:SeqP P g v1 t) (hr:CfOk P w0 rest):CfOk P w0 (orcA g v1 t rest):=by
 intro K ρ H w nx f args v H' nx' hw hB hbv h o a next Q hnx
 unfold orcA at h
 cases hg:Nat.beq f g with
 |false=>rw[hg] at h;exact hr K ρ H w nx f args v H' nx' hw hB hbv h o a next Q hnx
 |true=>
  rw[hg] at h;rw[nbeq,decide_eq_true_eq] at hg;subst hg;simp only[cond_true] at h;split at h
  ·rename_i v' ad;have h9:=cnd h;clear h;obtain⟨hc,h⟩:=h9;simp only[Bool.and_eq_true,nbeq,decide_eq_true_eq] at hc;obtain⟨⟨rfl,c2⟩,c3⟩:=hc;have c2:=isN_eq c2;have hent:∀args,(callFunc f args).run P w=.ok (.enter f args) w:=fun args=>by
    have f2':¬ fn.name="runtime.NumGoroutine":=by simpa using hname
    unfold callFunc;simp[run_program,hf,f2',hbd]
   have eargs:([.slice none 0 0,.func (.func v') #[] #[.pointer (some ad)]].map (ren ρ)).toArray=#[.slice none 0 0,.func (.func v') #[] #[.pointer (some ⟨ρ.f ad.block,0,none⟩)]]:=by
    rw[<- c3,<-c2];simp[ren0]
   show o.upon P a next Q ((callFunc f ([.slice none 0 0,.func (.func v') #[] #[.pointer (some ad)]].map (ren ρ)).toArray).run P w)
   rw[eargs,hent,Oper.upon_enter]
   -- nothing is in it
   have none_:∀(b cap:Nat) (sl:Option Addr),ρ.f ad.block<w.heap.size->b<w.heap.size->w.cell? ⟨ρ.f ad.block,0,none⟩=some (.slice sl 0 cap)->v=.slice none 0 0->H'=H->nx'=nx->
     Calls P f #[.slice none 0 0,.func (.func v') #[] #[.pointer (some ⟨ρ.f ad.block,0,none⟩)]] w fun
      | .returned v,w''=>next (a.put o.dst v) w''
      | .panicked chain,w''=>Q (.panic chain) a w''
      | .outgrown,_=>LetsOut Q:=fun b cap sl hl hb hcell ev eH en=>by
    subst ev;subst eH;subst en;refine (hA w _ b 0 cap sl [] (fun h=>absurd rfl h) (by simp) hl hb hcell (fun j hj=>by simp at hj)).mono fun e w' hh=>?_;obtain⟨u,rfl,_,h2,h3⟩:=hh;obtain rfl:=h2.2 rfl;exact hnx ρ w' ⟨.refl _ _,upto_self ⟨hw.upd.trans (below_upd h3) (fun _ _ h=>h) (fun _ _ h=>h),hw.kn,fun i o hi=>by
     have hlt:=hw.lt hi;rw[h3.block _ hlt];exact hw.obj i o hi,hw.bnd,hw.inj,hw.new⟩,fun _ _ _=>rfl,.zero (below_upd h3),.refl _ _ _,Nat.le_refl _⟩
   split at h
   ·rename_i wr e hcs tl hgb;cases h;obtain⟨rst,hrow⟩:=row_cell hw hgb;have hlt:=hw.lt hgb;exact none_ 0 0 none hlt (by omega) (by rw[hrow.cell];rfl) rfl rfl rfl
   ·rename_i wr e b n cp hcs tl hgb;obtain⟨rst,hrow⟩:=row_cell hw hgb;have hlt:=hw.lt hgb;split at h
    ·rename_i wr2 e2 ds tl2 hgd;obtain⟨hc,h⟩:=cnd h;simp only[Bool.and_eq_true,Nat.ble_eq] at hc;obtain⟨⟨⟨d1,d2⟩,d3⟩,d4⟩:=hc;have d1:=isN_eq d1;obtain⟨zs,hz⟩:=ints_of d4;have hzl:zs.length=n:=by
      have:=congrArg List.length hz;simp at this;omega
     obtain⟨rst2,hrow2⟩:=row_cell hw hgd;have hlt2:=hw.lt hgd;have hcell:w.cell? ⟨ρ.f ad.block,0,none⟩=some (.slice (some ⟨ρ.f b.block,b.off,none⟩) n (rcap ρ b.block cp)):=by
      rw[hrow.cell,<-d1];rfl
     cases hn0:Nat.beq n 0 with
     |true=>
      rw[hn0] at h;rw[nbeq,decide_eq_true_eq] at hn0;subst hn0;cases h;exact none_ _ _ _ hlt hlt2 hcell rfl rfl rfl
     |false=>
      rw[hn0] at h;rw[nbeq,decide_eq_false_iff_not] at hn0;cases h;have hcs2:∀j,j<zs.length->w.cell? ⟨ρ.f b.block,b.off+j,none⟩=some (.int .i64 (zs[j]?.getD 0)):=fun j hj=>by
       rw[hrow2.cell,List.getElem?_append_left (by simp;omega)];have e3:((ds.drop b.off).take n)[j]?=ds[b.off+j]?:=by
        rw[List.getElem?_take,if_pos (by omega),List.getElem?_drop]
       rw[List.getElem?_map,<-e3,hz,List.getElem?_map,List.getElem?_eq_getElem hj];rfl
      refine (hA w _ (ρ.f b.block) b.off (rcap ρ b.block cp) _ zs (fun _=>rfl) (by omega) hlt hlt2 (by rw[hzl];exact hcell) hcs2).mono fun e w' hh=>?_;obtain⟨u,rfl,hown,h2,h3⟩:=hh
      rcases hown.2 with ⟨_,h0⟩|⟨gg,cap,cur,rfl,k1,k2,k3,k4,k5,k6⟩
      ·omega
      have hnk:¬ K nx:=hB.1 _ (Nat.le_refl _);have hag:Agr K ρ (ρ.ext nx gg cap):=ext_agr hnk;have hrel':RelH w0 K ρ H w':=⟨hw.upd.trans (below_upd h3) (fun _ _ h=>h) (fun _ _ h=>h),hw.kn,fun i o hi=>by
       have hlt:=hw.lt hi;rw[h3.block _ hlt];exact hw.obj i o hi,hw.bnd,hw.inj,hw.new⟩
      have hbc:∀x∈(ds.drop b.off).take n,BC K x:=fun x hx=>hw.bnd _ _ hgd x (List.mem_of_mem_drop (List.mem_of_mem_take hx));have e4:ren (ρ.ext nx gg cap) (.slice (some ⟨nx,0,none⟩) n big)=.slice (some ⟨gg,0,none⟩) zs.length cap:=by
       rw[ren_slice,hzl];have:=rcap_open (ρ:=ρ.ext nx gg cap) (b:=nx) (k:=0) (by omega) (by omega);have e5:(1152921504606846976:Nat)-0=big:=rfl;rw[e5] at this;rw[this];simp[Rn.ext]
      have:=hnx (ρ.ext nx gg cap) w' ⟨hag,?_,?_,.zero (below_upd h3),?_,by omega⟩
      ·rw[e4] at this;exact this
      ·refine hrel'.fresh hnk (fun j oj hj e=>by have:=hw.lt hj;omega) ⟨(cur.toList.drop n),?_,?_,by omega,?_⟩ hbc (Nat.le_trans hw.upd.size k1)
       ·rw[k2];congr 2;apply Array.toList_inj.1;have:((ds.drop b.off).take n).map (ren1 (ρ.ext nx gg cap))=cur.toList.take n:=by
         rw[hz,List.map_map];have e6:(zs.map (Value.int .i64))=cur.toList.take n:=by rw[<- k6,hzl];simp
         rw[<- e6];rfl
        simp only[this];simp
       ·simp[Rn.ext];have:cur.toList.length=cap:=by simp[k5]
        simp at this;omega
       ·simpa[Rn.ext] using k4
      ·intro r1 r2 hr;have:=hr nx (.inr ⟨Nat.le_refl _,by omega⟩);simp only[ren_slice,rcap,this.1,this.2]
      ·intro i o' h1;rw[T.get_put] at h1;split at h1
       ·rename_i e;subst e;left;simp only[Rn.ext,if_true];exact k1
       ·rename_i e;exact .inr ⟨i,o',h1,id,by simp[Rn.ext,e]⟩
    ·cases h
   ·cases h
  ·cases h
end Go.EV
