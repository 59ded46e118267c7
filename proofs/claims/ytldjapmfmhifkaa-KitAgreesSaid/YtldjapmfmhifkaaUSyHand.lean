/-
 Walks by hand: a call by the walk of its body, the executor started anew, the last operation of a region by hand, a call as an operation. Conditions: none.
-/
import Derived.Test.YtldjapmfmhifkaaUSyShop
import Derived.KernelRfl
namespace Go.Sy
open _root_.Array renaming getD_eq_getD_getElem?->aq
set_option linter.unusedVariables false
set_option linter.unusedSimpArgs false
open Go.RowKit Go.ChangeMaps
section runs
variable {P:Program} {rd:Option Nat} {n:Nat}
theorem StDen.start{M:List Nat}{nt nx:Nat}{Lh:List Nat}{vs:List SV}{bs:List Blk}{ρ:Env}{a:Act}{w:World}{df:Option (List Deferred)}(hsz:a.tmps.size=nt)(hdf:a.defers=[])(hdd:∀ d,df=some d->d=[])(hm:MemDen w.heap.size M ρ (memOf bs) w)(hfr:∀ i,nx<=i->ρ i=none)(hz:nx=0->M=[])(hv:∀ (p t:Nat) (v:SV),Lh[p]? = some t->vs[p]? = some v->v.den ρ (a.eval (.tmp t)))(hg:∀ v∈vs,∀ t pol u,v≠.gd t pol u) :
  StDen w.heap.size M ⟨w,ρ,nx,fun _=>none,df⟩ ρ (mkSt nx nt Lh vs nx bs) a w:=by
 refine ⟨⟨fun _ _ h=>(by cases h),fun d hd=>?_,?_,fun d h=>?_⟩,hsz,fun i x hx=>?_,hfr,hm,Kept.refl _ _ _,Nat.le_refl _,Ext.refl _,hfr,fun _ _=>rfl,rfl,Nat.le_refl _,⟨fun _ _ _ h=>.inl h,fun _ _ h=>.inl h,rfl⟩,hz⟩
 ·rw [hdf] at hd;simp at hd
 ·rw [hdf];exact List.nodup_nil
 ·rw [hdf,hdd d h]
 ·show slotDen ρ a (look Lh vs i) x
  rcases look_get Lh vs i with h | ⟨p,h1,h2⟩
  ·rw [h];trivial
  ·have e:a.eval (.tmp i)=x:=by simp [Act.eval,aq,hx]
   have:=hv p i _ h1 h2
   rw [e] at this
   exact slot_of (hg _ (List.mem_of_getElem? h2)) this
def retV:List Value->Value
 | [x]=>x
 | xs=>.tuple ⟨xs⟩
theorem calls_raw{f:FuncId}{fn:Func}{c:Code}(hf:P.funcs[f]? = some fn)(hb:fn.body=some c)(ts:List Nat)(hr:fn.results.toList=ts.map .tmp){xs:List Value}{w:World}(hle:xs.length<=fn.ntmps){Q:List Value->World->Prop}(h:∀ a:Act,a.tmps.size=fn.ntmps->a.defers=[]->(∀ i x,xs[i]? = some x->a.eval (.tmp i)=x)->c.wpIn (FW none) 0 P (fun e a' w'=>(e=.ret\/e=.normal)/\a'.defers=[]/\Q (ts.map fun t=>a'.eval (.tmp t)) w') a w) :
  Calls P f ⟨xs⟩ w fun e w'=>∃ ys,e=.returned (retV ys)/\Q ys w':=by
 refine (callsIn_wide (n:=0)).1 (callsIn_of_wp_marks (F:=Fence.wide) hf hb trivial (Go.wpIn_mono (h _ ?_ rfl ?_) ?_))
 ·simp;omega
 ·intro i x hx
  have hi:i<xs.length:=(List.getElem?_eq_some_iff.1 hx).1
  simp only [Act.eval,aq,Array.getElem?_append]
  rw [if_pos (by simpa using hi)]
  simp [hx]
 ·rintro e a' w' ⟨he,hd,hq⟩
  have key:LeavesInM Fence.wide 0 P fn a'.tmps (fun e w'=>∃ ys,e=.returned (retV ys)/\Q ys w') a'.defers .returning w':=by
   rw [hd]
   refine ⟨_,?_,_,rfl,hq⟩
   have hl:∀ l:List Nat,((l.map ResultVar.tmp).mapM (resVal a'.tmps)).run P w'=.ok (l.map fun t=>a'.eval (.tmp t)) w':=by
    intro l
    induction l with
    | nil=>simp
    | cons t l ih =>
     simp only [List.map_cons,List.mapM_cons,resVal,Sem.run_bind,Sem.run_pure,Result.andThen_ok,ih]
     rfl
   have hm:(fn.results.mapM (resVal a'.tmps)).run P w'=.ok (ts.map fun t=>a'.eval (.tmp t)).toArray w':=by
    rw [<- Array.toArray_toList (xs:=fn.results),List.mapM_toArray,Sem.run_map,hr,hl]
    rfl
   rw [results_eq,Sem.run_bind,hm]
   generalize (ts.map fun t=>a'.eval (.tmp t))=ys
   match ys with
   | []=>rfl
   | [x]=>rfl
   | x :: y :: zs=>rfl
  rcases he with rfl | rfl
  ·exact key
  ·exact key
theorem wpL_call{ops:Array Oper}{o:Oper}{rest:List Oper}{a:Act}{w:World}{Q:Exit->Act->World->Prop}{f:Nat}{fn:Func}{xs:List Value}(hg:o.guard=none)(hfun:P.funcs[f]? = some fn)(hbody:fn.body.isSome=true)(hname:(fn.name == "runtime.NumGoroutine")=false)(hrun:(execOp a.eval o).run P w=.ok (.enter f ⟨xs⟩) w)(hd:∀ c,o.op≠.defer c){R:Value->World->Prop}(hC:Calls P f ⟨xs⟩ w fun e w'=>∃ x,e=.returned x/\R x w')(hk:∀ x w',R x w'->wpListIn (FW rd) n P ops Q rest (a.put o.dst x) w'):wpListIn (FW rd) n P ops Q (o :: rest) a w:=by
 refine wpList_step (by
  rw [if_pos (by simp [Region.wanted,hg])]
  refine ⟨fun _ _=>trivial,?_⟩
  rw [show (FW rd).round=rd from rfl,semAt_any rd _ _ hd,hrun]
  refine ⟨fun h=>(by cases h),callsIn_fw (hC.mono ?_)⟩
  rintro e w' ⟨x,rfl,hR⟩
  exact hk _ _ hR)
theorem xDrawL_raw{Γ:Gam}(hΓ:GamOk P Γ)(hmix:P.follows .mixedOrders=true){B:Nat}{M:List Nat}{w0:Base}{init:Array Oper}{o:Oper}{id:Nat}{Q:Exit->Act->World->Prop}{k:SState->Prop}(hb1:tableOk (masks (init.push o).toList []) 0 (init.push o).toList=true)(hb2:domB (masks (init.push o).toList []) init.size=true)(hd:o.dst=none)(hk:∀ s ρ a w,StDen B M w0 ρ s a w->k s->wpOpIn (FW rd) n P (init.push o) Q init.size (Q .normal) a w){s:SState}{ρ:Env}{a:Act}{w:World}(h:StDen B M w0 ρ s a w)(hx:xDraw P Γ init s k):(Code.region id (init.push o) true).wpIn (FW rd) n P Q a w:=by
 refine wpIn_region_any hmix ?_
 have key:=xDraw_any (rd:=rd) (n:=n) (Q:=withEnd Q fun a w=>wpOpIn (FW rd) n P (init.push o) Q init.size (Q .normal) a w) hΓ (fun s ρ a w hs hk'=>hk s ρ a w hs hk') h hx
 have:=anyIn_last hb1 hb2 hd init.size (Array.replicate init.size false) a _ (by simp) (fun j p hj=>by
  exfalso
  simp only [aq,Array.getElem?_replicate] at hj
  split at hj <;> cases hj) key
 have e:(Array.replicate init.size false).push false=Array.replicate (init.push o).size false:=by rw [Array.size_push];exact Array.replicate_succ.symm
 rw [<- e]
 simpa using this
theorem wpOp_skip{init:Array Oper}{o:Oper}{a:Act}{w w':World}{Q:Exit->Act->World->Prop}{K:Act->World->Prop}(hg:o.guard=none)(h:(execOp a.eval o).run P w=.ok .skip w')(hk:K (a.put o.dst undef) w')(hd:∀ c,o.op≠.defer c:=by intro c e;cases e):wpOpIn (FW rd) n P (init.push o) Q init.size K a w:=by
 unfold wpOpIn
 rw [Array.getElem?_push_size]
 simp only
 rw [if_pos (by simp [Region.wanted,hg])]
 exact wp_of_skip h hk hd
theorem denL_cons{ρ:Env}{v:SV}{l:List SV}{xs:List Value}(h:SV.denL ρ (v :: l) xs):∃ x ys,xs=x :: ys/\v.den ρ x/\SV.denL ρ l ys:=by
 cases xs with
 | nil=>exact h.elim
 | cons x ys=>exact ⟨x,ys,rfl,h.1,h.2⟩
theorem denL_nil{ρ:Env}{xs:List Value}(h:SV.denL ρ [] xs):xs=[]:=by
 cases xs with
 | nil=>rfl
 | cons x ys=>exact h.elim
def preC:List Code->Code
 | []=>.skip
 | [a]=>a
 | a :: l=>.seq a (preC l)
def preR:List Code->Code->Code
 | [],c=>c
 | a :: l,c=>.seq a (preR l c)
theorem exec_seq{L:Tab}{Λ:Lam}{fuel:Nat}{x y:Code}{s:SState}{k:Kont}:exec P L Λ fuel (.seq x y) s k=exec P L Λ fuel x s (fun e s'=>match e with
  | .normal=>exec P L Λ fuel y s' k
  | .exit id=>k (.exit id) s'
  | .ret=>k .ret s'):=by kernel_rfl
theorem pre_wp{L:Tab}(hL:TabOk P L)(hmix:P.follows .mixedOrders=true){fuel:Nat}{k:Kont}{B:Nat}{M:List Nat}{w0:Base}{Q:Exit->Act->World->Prop}{c:Code}(hk:∀ e s' ρ' a' w',StDen B M w0 ρ' s' a' w'->k e s'->match e with
   | .normal=>c.wpIn (FW rd) n P Q a' w'
   | e=>Q e.toExit a' w') :
  ∀ (l:List Code) (hl:l≠[]) (s:SState) (ρ:Env) (a:Act) (w:World),(∀ x∈l,RdOk rd w0.df x)->StDen B M w0 ρ s a w->exec P L (fun _=>none) fuel (preC l) s k->(preR l c).wpIn (FW rd) n P Q a w
 | [],hl,_,_,_,_,_,_,_=>absurd rfl hl
 | [x],_,s,ρ,a,w,hr,h,y=>by
  refine wpIn_seq (exec_wp hL hmix x (fun id b g _ hg=>by cases hg) rd n B M w0 s _ ρ a w _ (hr x (by simp)) h y fun e s' ρ' a' w' hs hz=>?_)
  have:=hk e s' ρ' a' w' hs hz
  cases e <;> exact this
 | x :: x2 :: l,_,s,ρ,a,w,hr,h,y=>by
  have y:exec P L (fun _=>none) fuel (.seq x (preC (x2 :: l))) s k:=y
  rw [exec_seq] at y
  refine wpIn_seq (exec_wp hL hmix x (fun id b g _ hg=>by cases hg) rd n B M w0 s _ ρ a w _ (hr x (by simp)) h y fun e s' ρ' a' w' hs hz=>?_)
  cases e with
  | normal=>exact pre_wp hL hmix hk (x2 :: l) (by simp) s' ρ' a' w' (fun q hq=>hr q (List.mem_cons_of_mem _ hq)) hs hz
  | exit j=>exact hk (.exit j) s' ρ' a' w' hs hz
  | ret=>exact hk .ret s' ρ' a' w' hs hz
theorem pre_cans{L:Tab}(hL:TabOk P L)(hmix:P.follows .mixedOrders=true){fuel:Nat}{na nt nx:Nat}{Lh Le:List Nat}{gl:List GL}{R:XE->List SV->List Blk->Prop}(l:List Code)(hl:l≠[]){s:SState}(y:exec P L (fun _=>none) fuel (preC l) s (canonK na nt Lh Le nx gl R)){B:Nat}{M:List Nat}{w0:Base}{ρ:Env}{a:Act}{w:World}{Q:Exit->Act->World->Prop}{c:Code}(hr:∀ x∈l,RdOk rd w0.df x)(h:StDen B M w0 ρ s a w)(hn:∀ vs bs ρ' a' w',R .normal vs bs->StDen B M w0 ρ' (mkSt na nt Lh vs nx bs) a' w'->c.wpIn (FW rd) n P Q a' w')(he:∀ e vs bs ρ' a' w',e≠.normal->R e vs bs->StDen B M w0 ρ' (mkSt na nt Le vs nx bs) a' w'->Q e.toExit a' w'):(preR l c).wpIn (FW rd) n P Q a w:=by
 refine pre_wp hL hmix (fun e s' ρ' a' w' hs hz=>?_) l hl s ρ a w hr h y
 cases e with
 | normal =>
  have hz:cz na nt Lh nx gl s' (R .normal):=hz
  obtain ⟨r,hr,e1⟩:=cz_get hz
  obtain ⟨ρ2,h2⟩:=cz_ok hs hr
  exact hn _ _ ρ2 a' w' e1 h2
 | exit j =>
  have hz:cz na nt Le nx gl s' (R (.exit j)):=hz
  obtain ⟨r,hr,e1⟩:=cz_get hz
  obtain ⟨ρ2,h2⟩:=cz_ok hs hr
  exact he (.exit j) _ _ ρ2 a' w' (by simp) e1 h2
 | ret =>
  have hz:cz na nt Le nx gl s' (R .ret):=hz
  obtain ⟨r,hr,e1⟩:=cz_get hz
  obtain ⟨ρ2,h2⟩:=cz_ok hs hr
  exact he .ret _ _ ρ2 a' w' (by simp) e1 h2
def noOd:Od:=⟨fun _ _=>none,fun _=>none,noIds⟩
theorem noOd_ok(w:World):SealOk noOd w:=⟨fun _ _ _ h=>(by cases h),fun _ _ h=>(by cases h),fun _ _ h=>(by cases h)⟩
def nm1(b:Nat)(od:Od):Env:=⟨fun j=>if j=0 then some ⟨b,0,0⟩ else none,od⟩
theorem mem1{w:World}{b:Nat}{c:Array Value}{e:TypeId}{svs:List SV}{M:List Nat}{B:Nat}{od:Od}(hb:w.heap[b]? = some (.cells c e (0,0)))(hd:SV.denL (nm1 b od) svs c.toList)(hM:b∈M)(hs:SealOk od w)(hf:∀ o,od b o=none) :
  MemDen B M (nm1 b od) (memOf [.cells e svs]) w:=by
 have key:∀ i m,(nm1 b od) i=some m->i=0/\m=⟨b,0,0⟩:=fun i m h=>by
  have h:(if i=0 then some (⟨b,0,0⟩:Nm) else none)=some m:=h
  split at h <;> cases h
  exact ⟨by assumption,rfl⟩
 refine ⟨fun i hi=>⟨fun m hm=>?_,fun hn=>?_⟩,fun i j m m' hij _ _ hm hm'=>?_,hs,fun i m _ hm o=>?_⟩
 ·obtain ⟨rfl,rfl⟩:=key i m hm
  exact ⟨(Array.getElem?_eq_some_iff.1 hb).1,⟨rfl,c,hb,hd⟩,.inr hM⟩
 ·cases i with
  | zero=>cases hn
  | succ i=>simp [memOf,Blk.isUnk] at hi
 ·obtain ⟨rfl,_⟩:=key i m hm
  obtain ⟨rfl,_⟩:=key j m' hm'
  exact absurd rfl hij
 ·obtain ⟨_,rfl⟩:=key i m hm
  exact hf o
theorem StDen.cells1{M:List Nat}{w0 w:World}{b:Nat}{od:Od}{ρ:Env}{nt:Nat}{Lh:List Nat}{vs:List SV}{e:TypeId}{svs:List SV}{a:Act}{ob:Nat->Option Obj}{df:Option (List Deferred)}{B:Nat}(h:StDen B M ⟨w0,nm1 b od,1,ob,df⟩ ρ (mkSt 1 nt Lh vs 1 [.cells e svs]) a w) :
  ∃ c,w.heap[b]? = some (.cells c e (0,0))/\SV.denL ρ svs c.toList:=by
 have e0:ρ 0=some ⟨b,0,0⟩:=h.argl 0 (Nat.lt_succ_self 0)
 obtain ⟨_,⟨_,c,hc,hd⟩,_⟩:=h.mem.get (i:=0) rfl e0
 exact ⟨c,hc,hd⟩
def upT(st:Stt)(i:Nat)(t:Th):Stt:={ st with th:=fun j=>if j=i then t else st.th j }
theorem upT_same{st:Stt}{i:Nat}{t:Th}:(upT st i t).th i=t:=if_pos rfl
theorem upT_ne{st:Stt}{i j:Nat}{t:Th}(h:j≠i):(upT st i t).th j=st.th j:=if_neg h
theorem upT_upT{st:Stt}{i:Nat}{t t':Th}:upT (upT st i t) i t'=upT st i t':=by
 simp only [upT,Stt.mk.injEq,true_and]
 funext j
 split <;> rfl
theorem Has.up{L:Lay}{K:Kst}{st:Stt}{i:Nat}{t:Th}{s:Tg}{o:Obj}(h:Has L K st s o)(hth:s=.th i->t.pr=(st.th i).pr/\t.st=(st.th i).st)(hhs:s=.hs i->t.has=(st.th i).has)(hhd:s=.hd i->t.had=(st.th i).had)(hbd:s=.bd i->t.bad=(st.th i).bad)(hcb:∀ q,s=.cb i q->t.ck q=(st.th i).ck q):Has L K (upT st i t) s o:=by
 cases s with
 | shop=>exact h
 | row=>exact h
 | ck j=>exact h
 | th j =>
  by_cases e:j=i
  ·subst e
   obtain ⟨h1,h2⟩:=hth rfl
   have h:o=.cells (thV L K st j) L.T.th (0,0):=h
   show o=.cells (thV L K (upT st j t) j) L.T.th (0,0)
   rw [h];simp only [thV,upT_same,h1,h2]
  ·have h:o=.cells (thV L K st j) L.T.th (0,0):=h
   show o=.cells (thV L K (upT st i t) j) L.T.th (0,0)
   rw [h];simp only [thV,upT_ne e]
 | hs j =>
  obtain ⟨es,cl,f,e1,e2,e3⟩:=h
  refine ⟨es,cl,f,e1,e2,?_⟩
  by_cases e:j=i
  ·subst e;rw [upT_same,hhs rfl];exact e3
  ·rw [upT_ne e];exact e3
 | hd j =>
  obtain ⟨es,cl,f,e1,e2,e3⟩:=h
  refine ⟨es,cl,f,e1,e2,?_⟩
  by_cases e:j=i
  ·subst e;rw [upT_same,hhd rfl];exact e3
  ·rw [upT_ne e];exact e3
 | bd j =>
  obtain ⟨es,cl,f,e1,e2,e3⟩:=h
  refine ⟨es,cl,f,e1,e2,?_⟩
  by_cases e:j=i
  ·subst e;rw [upT_same,hbd rfl];exact e3
  ·rw [upT_ne e];exact e3
 | cb j q =>
  intro c hc
  by_cases e:j=i
  ·subst e;rw [upT_same,hcb q rfl] at hc;exact h c hc
  ·rw [upT_ne e] at hc;exact h c hc
structure Only (L:Lay) (K:Kst) (w w':World):Prop where
 os:w'.os=w.os
 tape:w'.tape=w.tape
 output:w'.output=w.output
 size:w.heap.size<=w'.heap.size
 keep:∀ b,b<w.heap.size->(∀ t,Tg.ok K t->L.at_ t≠b)->w'.heap[b]? = w.heap[b]?
theorem Only.refl(L:Lay)(K:Kst)(w:World):Only L K w w:=⟨rfl,rfl,rfl,Nat.le_refl _,fun _ _ _=>rfl⟩
theorem Only.trans{L:Lay}{K:Kst}{w w1 w2:World}(h:Only L K w w1)(k:Only L K w1 w2):Only L K w w2 :=
 ⟨k.os.trans h.os,k.tape.trans h.tape,k.output.trans h.output,Nat.le_trans h.size k.size,fun b hb hn=>(k.keep b (Nat.lt_of_lt_of_le hb h.size) hn).trans (h.keep b hb hn)⟩
theorem Only.of_kept{L:Lay}{K:Kst}{w w':World}{M:List Nat}(h:Kept w.heap.size M w w')(hM:∀ b∈M,∃ t,Tg.ok K t/\L.at_ t=b):Only L K w w' :=
 ⟨h.os,h.tape,h.output,h.size,fun b hb hn=>h.block b hb fun hm=>let ⟨t,h1,h2⟩:=hM b hm;hn t h1 h2⟩
theorem Only.set{L:Lay}{K:Kst}{w:World}{t:Tg}(ht:Tg.ok K t)(o:Obj):Only L K w (setBlock w (L.at_ t) o) :=
 ⟨rfl,rfl,rfl,by simp [setBlock],fun b _ hn=>setBlock_other w o (Ne.symm (hn t ht))⟩
theorem Kept.keep1{w w':World}{b:Nat}(h:Kept w.heap.size [b] w w'):∀ q,q≠b->∀ o,w.heap[q]? = some o->w'.heap[q]? = some o:=fun q hq o ho =>
 (h.block q (Array.getElem?_eq_some_iff.1 ho).1 (by simpa using hq)).trans ho
theorem setBlock_keep{w:World}{b:Nat}{o':Obj}:∀ q,q≠b->∀ o,w.heap[q]? = some o->(setBlock w b o').heap[q]? = some o:=fun q hq o ho=>(setBlock_other w o' hq).trans ho
theorem ShopAt.up{L:Lay}{K:Kst}{st:Stt}{w w':World}(h:ShopAt L K st w){i:Nat}{t:Th}(s:Tg)(hs:Tg.ok K s)(hok:StOk K (upT st i t))(keep:∀ b,b≠L.at_ s->∀ o,w.heap[b]? = some o->w'.heap[b]? = some o)(hn:∃ o,w'.heap[L.at_ s]? = some o/\Has L K (upT st i t) s o)(hth:s≠.th i->t.pr=(st.th i).pr/\t.st=(st.th i).st)(hhs:s≠.hs i->t.has=(st.th i).has)(hhd:s≠.hd i->t.had=(st.th i).had)(hbd:s≠.bd i->t.bad=(st.th i).bad)(hcb:∀ q,s≠.cb i q->t.ck q=(st.th i).ck q):ShopAt L K (upT st i t) w' :=
 h.set s hs hok keep hn fun r o hr ho=>ho.up (fun e=>hth (by rw [<- e];exact hr.symm)) (fun e=>hhs (by rw [<- e];exact hr.symm)) (fun e=>hhd (by rw [<- e];exact hr.symm)) (fun e=>hbd (by rw [<- e];exact hr.symm)) (fun q e=>hcb q (by rw [<- e];exact hr.symm))
theorem StOk.up{K:Kst}{st:Stt}(h:StOk K st){i:Nat}{t:Th}(h1:∀ q,(t.ck q).isSome=((st.th i).ck q).isSome)(h2:∀ a b,t.has a b=true->(i<K.n->a<K.n/\b<nB))(h3:∀ a b,t.had a b=true->(i<K.n->a<K.n/\b<nB)):StOk K (upT st i t):=by
 refine ⟨fun j hj q=>?_,fun j hj a b hab=>?_,fun j hj a b hab=>?_⟩
 ·by_cases e:j=i
  ·subst e;rw [upT_same,h1];exact h.ck j hj q
  ·rw [upT_ne e];exact h.ck j hj q
 ·by_cases e:j=i
  ·subst e;rw [upT_same] at hab;exact h2 a b hab hj
  ·rw [upT_ne e] at hab;exact h.has j hj a b hab
 ·by_cases e:j=i
  ·subst e;rw [upT_same] at hab;exact h3 a b hab hj
  ·rw [upT_ne e] at hab;exact h.had j hj a b hab
end runs
end Go.Sy
