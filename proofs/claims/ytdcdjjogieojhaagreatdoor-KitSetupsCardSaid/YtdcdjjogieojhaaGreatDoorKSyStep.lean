/-
 Walks by hand, one operation after the other: slots by a list; what single operations come to. Conditions: none.
-/
import Derived.Test.YtdcdjjogieojhaaGreatDoorKSyShop
import Derived.KernelRfl
set_option linter.unusedVariables false
set_option linter.unusedSimpArgs false
set_option linter.unusedSectionVars false
open _root_.Array renaming getD_eq_getD_getElem?->aq,getElem?_eq_getElem->ax
namespace Go.Sy
open Go.RowKit Go.ChangeMaps
attribute [local instance 2000] Go.Sy.G0
section runs
variable {P:Program} {rd:Option Nat} {n:Nat}
theorem Ab.start{M:List Nat}{nt nx:Nat}{Lh:List Nat}{vs:List SV}{bs:List Blk}{O:Env}{a:Act}{w:World}{df:Option (List Deferred)}(hsz:a.tmps.size=nt)(hdf:a.defers=[])(hdd:∀ d,df=some d->d=[])(hm:Ak w.heap.size M O (Ah bs) w)(hfr:∀ i,nx<=i->O i=none)(hz:nx=0->M=[])(hv:∀ (p t:Nat) (v:SV),Lh[p]? = some t->vs[p]? = some v->v.den O (a.eval (.tmp t)))(hg:∀ v∈vs,∀ t pol u,v≠.gd t pol u) :
  Ab w.heap.size M ⟨w,O,nx,fun _=>none,df⟩ O (Aq nx nt Lh vs nx bs) a w:=by
 refine ⟨⟨fun _ _ h=>(by cases h),fun d hd=>?_,?_,fun d h=>?_⟩,hsz,fun i x hx=>?_,hfr,hm,AR.refl _ _ _,Nat.le_refl _,Ext.refl _,hfr,fun _ _=>rfl,rfl,Nat.le_refl _,⟨fun _ _ _ h=>.inl h,fun _ _ h=>.inl h,rfl⟩,hz⟩
 .rw [hdf] at hd;simp at hd
 .rw [hdf];exact List.nodup_nil
 .rw [hdf,hdd d h]
 .show B4 O a (KM Lh vs i) x
  rcases GY Lh vs i with h | ⟨p,h1,h2⟩
  .rw [h];trivial
  .have e:a.eval (.tmp i)=x:=by simp [Act.eval,aq,hx]
   have:=hv p i _ h1 h2
   rw [e] at this
   exact H5 (hg _ (List.mem_of_getElem? h2)) this
def Nv:List Value->Value
 | [x]=>x
 | xs=>.tuple ⟨xs⟩
theorem Ef{f:FuncId}{fn:Func}{c:Code}(hf:P.funcs[f]? = some fn)(hb:fn.body=some c)(ts:List Nat)(hr:fn.results.toList=ts.map .tmp){xs:List Value}{w:World}(hle:xs.length<=fn.ntmps){Q:List Value->World->Prop}(h:∀ a:Act,a.tmps.size=fn.ntmps->a.defers=[]->(∀ i x,xs[i]? = some x->a.eval (.tmp i)=x)->c.wpIn (FW none) 0 P (fun e a' w'=>(e=.ret\/e=.normal)/\a'.defers=[]/\Q (ts.map fun t=>a'.eval (.tmp t)) w') a w) :
  Calls P f ⟨xs⟩ w fun e w'=>∃ ys,e=.returned (Nv ys)/\Q ys w':=by
 refine (callsIn_wide (n:=0)).1 (callsIn_of_wp_marks (F:=Fence.wide) hf hb trivial (Go.wpIn_mono (h _ ?_ rfl ?_) ?_))
 .simp;omega
 .intro i x hx
  have hi:i<xs.length:=(List.getElem?_eq_some_iff.1 hx).1
  simp only [Act.eval,aq,Array.getElem?_append]
  rw [if_pos (by simpa using hi)]
  simp [hx]
 .rintro e a' w' ⟨he,hd,hq⟩
  have key:LeavesInM Fence.wide 0 P fn a'.tmps (fun e w'=>∃ ys,e=.returned (Nv ys)/\Q ys w') a'.defers .returning w':=by
   rw [hd]
   refine ⟨_,?_,_,rfl,hq⟩
   have hl:∀ l:List Nat,((l.map ResultVar.tmp).mapM (Fv a'.tmps)).run P w'=.ok (l.map fun t=>a'.eval (.tmp t)) w':=by
    intro l
    induction l with
    | nil=>simp
    | cons t l ih =>
     simp only [List.map_cons,List.mapM_cons,Fv,Sem.run_bind,Sem.run_pure,Result.andThen_ok,ih]
     rfl
   have hm:(fn.results.mapM (Fv a'.tmps)).run P w'=.ok (ts.map fun t=>a'.eval (.tmp t)).toArray w':=by
    rw [<- Array.toArray_toList (xs:=fn.results),List.mapM_toArray,Sem.run_map,hr,hl]
    rfl
   rw [Jj,Sem.run_bind,hm]
   generalize (ts.map fun t=>a'.eval (.tmp t))=ys
   match ys with
   | []=>rfl
   | [x]=>rfl
   | x :: y :: zs=>rfl
  rcases he with rfl | rfl
  .exact key
  .exact key
theorem JF{ops:Array Oper}{o:Oper}{rest:List Oper}{a:Act}{w:World}{Q:Exit->Act->World->Prop}{f:Nat}{fn:Func}{xs:List Value}(hg:o.guard=none)(hfun:P.funcs[f]? = some fn)(hbody:fn.body.isSome=true)(hname:(fn.name == "runtime.NumGoroutine")=false)(hrun:(execOp a.eval o).run P w=.ok (.enter f ⟨xs⟩) w)(hd:∀ c,o.op≠.defer c){R:Value->World->Prop}(hC:Calls P f ⟨xs⟩ w fun e w'=>∃ x,e=.returned x/\R x w')(hk:∀ x w',R x w'->wpListIn (FW rd) n P ops Q rest (a.put o.dst x) w'):wpListIn (FW rd) n P ops Q (o :: rest) a w:=by
 refine Dd (by
  rw [if_pos (by simp [Region.wanted,hg])]
  refine ⟨fun _ _=>trivial,?_⟩
  rw [show (FW rd).round=rd from rfl,Dy rd _ _ hd,hrun]
  refine ⟨fun h=>(by cases h),EE (hC.mono ?_)⟩
  rintro e w' ⟨x,rfl,hR⟩
  exact hk _ _ hR)
theorem NS{Γ:Gam}(hΓ:DU P Γ)(hmix:P.follows .mixedOrders=true){B:Nat}{M:List Nat}{w0:BH}{init:Array Oper}{o:Oper}{id:Nat}{Q:Exit->Act->World->Prop}{k:A4->Prop}(hb1:Cm (BS (init.push o).toList []) 0 (init.push o).toList=true)(hb2:RL (BS (init.push o).toList []) init.size=true)(hd:o.dst=none)(hk:∀ s O a w,Ab B M w0 O s a w->k s->wpOpIn (FW rd) n P (init.push o) Q init.size (Q .normal) a w){s:A4}{O:Env}{a:Act}{w:World}(h:Ab B M w0 O s a w)(hx:JK P Γ init s k):(Code.region id (init.push o) true).wpIn (FW rd) n P Q a w:=by
 refine wpIn_region_any hmix ?_
 have key:=HA (rd:=rd) (n:=n) (Q:=H7 Q fun a w=>wpOpIn (FW rd) n P (init.push o) Q init.size (Q .normal) a w) hΓ (fun s O a w hs hk'=>hk s O a w hs hk') h hx
 have:=Il hb1 hb2 hd init.size (Array.replicate init.size false) a _ (by simp) (fun j p hj=>by
  exfalso
  simp only [aq,Array.getElem?_replicate] at hj
  split at hj <;> cases hj) key
 have e:(Array.replicate init.size false).push false=Array.replicate (init.push o).size false:=by rw [Array.size_push];exact Array.replicate_succ.symm
 rw [<- e]
 simpa using this
theorem PJ{init:Array Oper}{o:Oper}{a:Act}{w w':World}{Q:Exit->Act->World->Prop}{K:Act->World->Prop}(hg:o.guard=none)(h:(execOp a.eval o).run P w=.ok .skip w')(hk:K (a.put o.dst undef) w')(hd:∀ c,o.op≠.defer c:=by intro c e;cases e):wpOpIn (FW rd) n P (init.push o) Q init.size K a w:=by
 unfold wpOpIn
 rw [Array.getElem?_push_size]
 simp only
 rw [if_pos (by simp [Region.wanted,hg])]
 exact DR h hk hd
theorem A9{O:Env}{v:SV}{l:List SV}{xs:List Value}(h:SV.denL O (v :: l) xs):∃ x ys,xs=x :: ys/\v.den O x/\SV.denL O l ys:=by
 cases xs with
 | nil=>exact h.elim
 | cons x ys=>exact ⟨x,ys,rfl,h.1,h.2⟩
theorem Bb{O:Env}{xs:List Value}(h:SV.denL O [] xs):xs=[]:=by
 cases xs with
 | nil=>rfl
 | cons x ys=>exact h.elim
def Nt:List Code->Code
 | []=>.skip
 | [a]=>a
 | a :: l=>.seq a (Nt l)
def Sb:List Code->Code->Code
 | [],c=>c
 | a :: l,c=>.seq a (Sb l c)
theorem Qg{L:Tab}{Λ:Lam}{fuel:Nat}{x y:Code}{s:A4}{k:EZ}:AT P L Λ fuel (.seq x y) s k=AT P L Λ fuel x s (fun e s'=>match e with
  | .normal=>AT P L Λ fuel y s' k
  | .exit id=>k (.exit id) s'
  | .ret=>k .ret s'):=by kernel_rfl
theorem QS{L:Tab}(hL:Cr P L)(hmix:P.follows .mixedOrders=true){fuel:Nat}{k:EZ}{B:Nat}{M:List Nat}{w0:BH}{Q:Exit->Act->World->Prop}{c:Code}(hk:∀ e s' O' a' w',Ab B M w0 O' s' a' w'->k e s'->match e with
   | .normal=>c.wpIn (FW rd) n P Q a' w'
   | e=>Q e.toExit a' w') :
  ∀ (l:List Code) (hl:l≠[]) (s:A4) (O:Env) (a:Act) (w:World),(∀ x∈l,De rd w0.df x)->Ab B M w0 O s a w->AT P L (fun _=>none) fuel (Nt l) s k->(Sb l c).wpIn (FW rd) n P Q a w
 | [],hl,_,_,_,_,_,_,_=>absurd rfl hl
 | [x],_,s,O,a,w,hr,h,y=>by
  refine wpIn_seq (Cl hL hmix x (fun id b g _ hg=>by cases hg) rd n B M w0 s _ O a w _ (hr x (by simp)) h y fun e s' O' a' w' hs hz=>?_)
  have:=hk e s' O' a' w' hs hz
  cases e <;> exact this
 | x :: x2 :: l,_,s,O,a,w,hr,h,y=>by
  have y:AT P L (fun _=>none) fuel (.seq x (Nt (x2 :: l))) s k:=y
  rw [Qg] at y
  refine wpIn_seq (Cl hL hmix x (fun id b g _ hg=>by cases hg) rd n B M w0 s _ O a w _ (hr x (by simp)) h y fun e s' O' a' w' hs hz=>?_)
  cases e with
  | normal=>exact QS hL hmix hk (x2 :: l) (by simp) s' O' a' w' (fun q hq=>hr q (List.mem_cons_of_mem _ hq)) hs hz
  | exit j=>exact hk (.exit j) s' O' a' w' hs hz
  | ret=>exact hk .ret s' O' a' w' hs hz
theorem Mc{L:Tab}(hL:Cr P L)(hmix:P.follows .mixedOrders=true){fuel:Nat}{na nt nx:Nat}{Lh Le:List Nat}{gl:List GL}{R:XE->List SV->List Blk->Prop}(l:List Code)(hl:l≠[]){s:A4}(y:AT P L (fun _=>none) fuel (Nt l) s (AJ na nt Lh Le nx gl R)){B:Nat}{M:List Nat}{w0:BH}{O:Env}{a:Act}{w:World}{Q:Exit->Act->World->Prop}{c:Code}(hr:∀ x∈l,De rd w0.df x)(h:Ab B M w0 O s a w)(hn:∀ vs bs O' a' w',R .normal vs bs->Ab B M w0 O' (Aq na nt Lh vs nx bs) a' w'->c.wpIn (FW rd) n P Q a' w')(he:∀ e vs bs O' a' w',e≠.normal->R e vs bs->Ab B M w0 O' (Aq na nt Le vs nx bs) a' w'->Q e.toExit a' w'):(Sb l c).wpIn (FW rd) n P Q a w:=by
 refine QS hL hmix (fun e s' O' a' w' hs hz=>?_) l hl s O a w hr h y
 cases e with
 | normal =>
  have hz:cz na nt Lh nx gl s' (R .normal):=hz
  obtain ⟨r,hr,e1⟩:=Bk hz
  obtain ⟨O2,h2⟩:=Cu hs hr
  exact hn _ _ O2 a' w' e1 h2
 | exit j =>
  have hz:cz na nt Le nx gl s' (R (.exit j)):=hz
  obtain ⟨r,hr,e1⟩:=Bk hz
  obtain ⟨O2,h2⟩:=Cu hs hr
  exact he (.exit j) _ _ O2 a' w' (by simp) e1 h2
 | ret =>
  have hz:cz na nt Le nx gl s' (R .ret):=hz
  obtain ⟨r,hr,e1⟩:=Bk hz
  obtain ⟨O2,h2⟩:=Cu hs hr
  exact he .ret _ _ O2 a' w' (by simp) e1 h2
def CN:Od:=⟨fun _ _=>none,fun _=>none,Br⟩
theorem H0(w:World):Bj CN w:=⟨fun _ _ _ h=>(by cases h),fun _ _ h=>(by cases h),fun _ _ h=>(by cases h)⟩
def nm1(b:Nat)(od:Od):Env:=⟨fun j=>if j=0 then some ⟨b,0,0⟩ else none,od,gl0 _⟩
theorem S5{w:World}{b:Nat}{c:Array Value}{e:TypeId}{svs:List SV}{M:List Nat}{B:Nat}{od:Od}(hb:w.heap[b]? = some (.cells c e (0,0)))(hd:SV.denL (nm1 b od) svs c.toList)(hM:b∈M)(hs:Bj od w)(hf:∀ o,od b o=none) :
  Ak B M (nm1 b od) (Ah [.cells e svs]) w:=by
 have key:∀ i m,(nm1 b od) i=some m->i=0/\m=⟨b,0,0⟩:=fun i m h=>by
  have h:(if i=0 then some (⟨b,0,0⟩:Nm) else none)=some m:=h
  split at h <;> cases h
  exact ⟨by assumption,rfl⟩
 refine ⟨fun i hi=>⟨fun m hm=>?_,fun hn=>?_⟩,fun i j m m' hij _ _ hm hm'=>?_,hs,fun i m _ hm o=>?_,pv0 _⟩
 .obtain ⟨rfl,rfl⟩:=key i m hm
  exact ⟨(Array.getElem?_eq_some_iff.1 hb).1,⟨rfl,c,hb,hd⟩,.inr hM⟩
 .cases i with
  | zero=>cases hn
  | succ i=>simp [Ah,Blk.isUnk] at hi
 .obtain ⟨rfl,_⟩:=key i m hm
  obtain ⟨rfl,_⟩:=key j m' hm'
  exact absurd rfl hij
 .obtain ⟨_,rfl⟩:=key i m hm
  exact hf o
theorem Ab.cells1{M:List Nat}{w0 w:World}{b:Nat}{od:Od}{O:Env}{nt:Nat}{Lh:List Nat}{vs:List SV}{e:TypeId}{svs:List SV}{a:Act}{ob:Nat->Option Obj}{df:Option (List Deferred)}{B:Nat}(h:Ab B M ⟨w0,nm1 b od,1,ob,df⟩ O (Aq 1 nt Lh vs 1 [.cells e svs]) a w) :
  ∃ c,w.heap[b]? = some (.cells c e (0,0))/\SV.denL O svs c.toList:=by
 have e0:O 0=some ⟨b,0,0⟩:=h.argl 0 (Nat.lt_succ_self 0)
 obtain ⟨_,⟨_,c,hc,hd⟩,_⟩:=h.mem.get (i:=0) rfl e0
 exact ⟨c,hc,hd⟩
def upT(st:Stt)(i:Nat)(t:Th):Stt:={ st with th:=fun j=>if j=i then t else st.th j }
theorem Av{st:Stt}{i:Nat}{t:Th}:(upT st i t).th i=t:=if_pos rfl
theorem FA{st:Stt}{i j:Nat}{t:Th}(h:j≠i):(upT st i t).th j=st.th j:=if_neg h
theorem Ic{st:Stt}{i:Nat}{t t':Th}:upT (upT st i t) i t'=upT st i t':=by
 simp only [upT,Stt.mk.injEq,true_and]
 funext j
 split <;> rfl
theorem Has.up{L:Lay}{K:Kst}{st:Stt}{i:Nat}{t:Th}{s:Tg}{o:Obj}(h:Has L K st s o)(hth:s=.th i->t.pr=(st.th i).pr/\t.st=(st.th i).st)(hhs:s=.hs i->t.has=(st.th i).has)(hhd:s=.hd i->t.had=(st.th i).had)(hbd:s=.bd i->t.bad=(st.th i).bad)(hcb:∀ q,s=.cb i q->t.ck q=(st.th i).ck q):Has L K (upT st i t) s o:=by
 cases s with
 | shop=>exact h
 | row=>exact h
 | ck j=>exact h
 | th j =>
  by_cases e:j=i
  .subst e
   obtain ⟨h1,h2⟩:=hth rfl
   have h:o=.cells (thV L K st j) L.T.th (0,0):=h
   show o=.cells (thV L K (upT st j t) j) L.T.th (0,0)
   rw [h];simp only [thV,Av,h1,h2]
  .have h:o=.cells (thV L K st j) L.T.th (0,0):=h
   show o=.cells (thV L K (upT st i t) j) L.T.th (0,0)
   rw [h];simp only [thV,FA e]
 | hs j =>
  obtain ⟨es,cl,f,e1,e2,e3⟩:=h
  refine ⟨es,cl,f,e1,e2,?_⟩
  by_cases e:j=i
  .subst e;rw [Av,hhs rfl];exact e3
  .rw [FA e];exact e3
 | hd j =>
  obtain ⟨es,cl,f,e1,e2,e3⟩:=h
  refine ⟨es,cl,f,e1,e2,?_⟩
  by_cases e:j=i
  .subst e;rw [Av,hhd rfl];exact e3
  .rw [FA e];exact e3
 | bd j =>
  obtain ⟨es,cl,f,e1,e2,e3⟩:=h
  refine ⟨es,cl,f,e1,e2,?_⟩
  by_cases e:j=i
  .subst e;rw [Av,hbd rfl];exact e3
  .rw [FA e];exact e3
 | cb j q =>
  intro c hc
  by_cases e:j=i
  .subst e;rw [Av,hcb q rfl] at hc;exact h c hc
  .rw [FA e] at hc;exact h c hc
structure AS (L:Lay) (K:Kst) (w w':World):Prop where
 os:w'.os=w.os
 tape:w'.tape=w.tape
 output:w'.output=w.output
 size:w.heap.size<=w'.heap.size
 keep:∀ b,b<w.heap.size->(∀ t,Tg.ok K t->L.at_ t≠b)->w'.heap[b]? = w.heap[b]?
theorem AS.refl(L:Lay)(K:Kst)(w:World):AS L K w w:=⟨rfl,rfl,rfl,Nat.le_refl _,fun _ _ _=>rfl⟩
theorem AS.trans{L:Lay}{K:Kst}{w w1 w2:World}(h:AS L K w w1)(k:AS L K w1 w2):AS L K w w2 :=
 ⟨k.os.trans h.os,k.tape.trans h.tape,k.output.trans h.output,Nat.le_trans h.size k.size,fun b hb hn=>(k.keep b (Nat.lt_of_lt_of_le hb h.size) hn).trans (h.keep b hb hn)⟩
theorem AS.of_kept{L:Lay}{K:Kst}{w w':World}{M:List Nat}(h:AR w.heap.size M w w')(hM:∀ b∈M,∃ t,Tg.ok K t/\L.at_ t=b):AS L K w w' :=
 ⟨h.os,h.tape,h.output,h.size,fun b hb hn=>h.block b hb fun hm=>let ⟨t,h1,h2⟩:=hM b hm;hn t h1 h2⟩
theorem AS.set{L:Lay}{K:Kst}{w:World}{t:Tg}(ht:Tg.ok K t)(o:Obj):AS L K w (setBlock w (L.at_ t) o) :=
 ⟨rfl,rfl,rfl,by simp [setBlock],fun b _ hn=>At w o (Ne.symm (hn t ht))⟩
theorem AR.keep1{w w':World}{b:Nat}(h:AR w.heap.size [b] w w'):∀ q,q≠b->∀ o,w.heap[q]? = some o->w'.heap[q]? = some o:=fun q hq o ho =>
 (h.block q (Array.getElem?_eq_some_iff.1 ho).1 (by simpa using hq)).trans ho
theorem G5{w:World}{b:Nat}{o':Obj}:∀ q,q≠b->∀ o,w.heap[q]? = some o->(setBlock w b o').heap[q]? = some o:=fun q hq o ho=>(At w o' hq).trans ho
theorem Ao.up{L:Lay}{K:Kst}{st:Stt}{w w':World}(h:Ao L K st w){i:Nat}{t:Th}(s:Tg)(hs:Tg.ok K s)(hok:MU K (upT st i t))(keep:∀ b,b≠L.at_ s->∀ o,w.heap[b]? = some o->w'.heap[b]? = some o)(hn:∃ o,w'.heap[L.at_ s]? = some o/\Has L K (upT st i t) s o)(hth:s≠.th i->t.pr=(st.th i).pr/\t.st=(st.th i).st)(hhs:s≠.hs i->t.has=(st.th i).has)(hhd:s≠.hd i->t.had=(st.th i).had)(hbd:s≠.bd i->t.bad=(st.th i).bad)(hcb:∀ q,s≠.cb i q->t.ck q=(st.th i).ck q):Ao L K (upT st i t) w' :=
 h.set s hs hok keep hn fun r o hr ho=>ho.up (fun e=>hth (by rw [<- e];exact hr.symm)) (fun e=>hhs (by rw [<- e];exact hr.symm)) (fun e=>hhd (by rw [<- e];exact hr.symm)) (fun e=>hbd (by rw [<- e];exact hr.symm)) (fun q e=>hcb q (by rw [<- e];exact hr.symm))
theorem MU.up{K:Kst}{st:Stt}(h:MU K st){i:Nat}{t:Th}(h1:∀ q,(t.ck q).isSome=((st.th i).ck q).isSome)(h2:∀ a b,t.has a b=true->(i<K.n->a<K.n/\b<nB))(h3:∀ a b,t.had a b=true->(i<K.n->a<K.n/\b<nB)):MU K (upT st i t):=by
 refine ⟨fun j hj q=>?_,fun j hj a b hab=>?_,fun j hj a b hab=>?_⟩
 .by_cases e:j=i
  .subst e;rw [Av,h1];exact h.ck j hj q
  .rw [FA e];exact h.ck j hj q
 .by_cases e:j=i
  .subst e;rw [Av] at hab;exact h2 a b hab hj
  .rw [FA e] at hab;exact h.has j hj a b hab
 .by_cases e:j=i
  .subst e;rw [Av] at hab;exact h3 a b hab hj
  .rw [FA e] at hab;exact h.had j hj a b hab
end runs
end Go.Sy
namespace Go.Sy
open Go.RowKit Go.ChangeMaps
attribute [local instance 2000] Go.Sy.G0
section runs
variable {P:Program} {rd:Option Nat} {n:Nat}
theorem Kv{F:Fence}{ops:Array Oper}{Q:Exit->Act->World->Prop}{I:Array Bool->Act->World->Prop}(hend:∀ listed a w,I listed a w->Region.ready .any ops listed=[]->Q .normal a w)(hstep:∀ (listed:Array Bool) a w i,I listed a w->i∈Region.ready .any ops listed->∀ K:Act->World->Prop,(∀ a' w',I (listed.setIfInBounds i true) a' w'->K a' w')->wpOpIn F n P ops Q i K a w)(hsz:∀ listed a w,I listed a w->listed.size=ops.size) :
  ∀ (fuel:Nat) (listed:Array Bool) (a:Act) (w:World),listed.toList.count false<=fuel->I listed a w->wpAnyIn F n P .any ops Q fuel listed a w
 | 0,listed,a,w,hc,h=>by
  have hno:Region.ready .any ops listed=[]:=by
   cases hr:Region.ready .any ops listed with
   | nil=>rfl
   | cons i l =>
    exfalso
    have hi:i∈Region.ready .any ops listed:=by rw [hr];simp
    rw [AQ] at hi
    obtain ⟨h1,h2,_⟩:=hi
    have hl:i<listed.size:=by rw [hsz _ _ _ h];exact h1
    have hm:false∈listed.toList:=by
     have:listed[i]=false:=by simpa [aq,hl] using h2
     rw [<- this];simp
    have:=List.count_pos_iff.2 hm
    omega
  exact ⟨hno,hend _ _ _ h hno⟩
 | fuel+1,listed,a,w,hc,h=>by
  refine ⟨fun h0=>hend _ _ _ h h0,fun i hi=>hstep listed a w i h hi _ fun a' w' h'=>Kv hend hstep hsz fuel _ a' w' ?_ h'⟩
  rw [AQ] at hi
  obtain ⟨h1,h2,_⟩:=hi
  have hl:i<listed.size:=by rw [hsz _ _ _ h];exact h1
  have hf:listed[i]=false:=by simpa [aq,hl] using h2
  have hm:false∈listed.toList:=by rw [<- hf];simp
  have hp:=List.count_pos_iff.2 hm
  rw [Array.toList_setIfInBounds,List.count_set (by simpa using hl)]
  have e1:listed.toList[i]'(by simpa using hl)=false:=by simpa using hf
  have e2:(true == false)=false:=rfl
  rw [e1,e2]
  simp only [beq_self_eq_true,if_true,Bool.false_eq_true,if_false]
  omega
structure PL (ops:Array Oper) (val:Nat->Value) (W:Nat->World) (eff:Nat->Option Nat) (N:Nat) (a0:Act) (listed:Array Bool) (a:Act) (w:World) (ph:Nat):Prop where
 le:ph<=N
 world:w=W ph
 eff_:∀ i p,eff i=some p->listed.getD i false=decide (p<ph)
 defers:a.defers=a0.defers
 tsz:a.tmps.size=a0.tmps.size
 got:∀ (i:Nat) (o:Oper) (d:Nat),ops[i]? = some o->o.dst=some d->listed.getD i false=true->a.eval (.tmp d)=val i
 rest:∀ t,(∀ (i:Nat) (o:Oper),ops[i]? = some o->o.dst≠some t)->a.eval (.tmp t)=a0.eval (.tmp t)
 size:listed.size=ops.size
theorem K0{ops:Array Oper}{id:Nat}{Q:Exit->Act->World->Prop}(hmix:P.follows .mixedOrders=true){val:Nat->Value}{W:Nat->World}{eff:Nat->Option Nat}{N:Nat}{a0:Act}(hg:∀ (i:Nat) (o:Oper),ops[i]? = some o->o.guard=none/\(∀ c,o.op≠.defer c)/\(∀ d,o.dst=some d->d<a0.tmps.size)/\(∀ e∈o.after.toList,Region.binds .any e=true->e.on<i))(hdst:∀ (i j:Nat) (oi oj:Oper) (d:Nat),ops[i]? = some oi->ops[j]? = some oj->oi.dst=some d->oj.dst=some d->i=j)(heff:∀ i p,eff i=some p->p<N/\i<ops.size)(hinj:∀ i j p,eff i=some p->eff j=some p->i=j)(hall:∀ p,p<N->∃ i,eff i=some p)(hchain:∀ (i:Nat) (o:Oper) (p:Nat),ops[i]? = some o->eff i=some (p+1)->∃ e∈o.after.toList,Region.binds .any e=true/\eff e.on=some p)(hrun:∀ (i:Nat) (o:Oper),ops[i]? = some o->∀ (a:Act) (ph:Nat),ph<=N->(∀ p,eff i=some p->p=ph) ->
   (∀ e∈o.after.toList,Region.binds .any e=true->∀ (oj:Oper) (d:Nat),ops[e.on]? = some oj->oj.dst=some d->a.eval (.tmp d)=val e.on) ->
   (∀ t,(∀ (i:Nat) (o:Oper),ops[i]? = some o->o.dst≠some t)->a.eval (.tmp t)=a0.eval (.tmp t)) ->
   (∀ e∈o.after.toList,Region.binds .any e=true->∀ p,eff e.on=some p->p<ph) ->
   (execOp a.eval o).run P (W ph)=.ok (.value (val i)) (W (if (eff i).isSome then ph+1 else ph))\/(o.dst=none/\(execOp a.eval o).run P (W ph)=.ok .skip (W (if (eff i).isSome then ph+1 else ph)))){w:World}(h0:W 0={ w with drawn:=w.drawn+1 })(hQ:∀ a:Act,a.defers=a0.defers->a.tmps.size=a0.tmps.size->(∀ t,(∀ (i:Nat) (o:Oper),ops[i]? = some o->o.dst≠some t)->a.eval (.tmp t)=a0.eval (.tmp t))->Q .normal a (W N)) :
  (Code.region id ops true).wpIn (FW rd) n P Q a0 w:=by
 refine wpIn_region_any hmix ?_
 refine Kv (I:=fun listed a w=>∃ ph,PL ops val W eff N a0 listed a w ph) ?e ?s (by rintro listed a w ⟨ph,h⟩;exact h.size) ops.size _ a0 _ (by simp) ?i
 case e =>
  rintro listed a w ⟨ph,h⟩ hr
  have all:∀ j,j<ops.size->listed.getD j false=true:=by
   intro j
   induction j using Nat.strongRecOn with
   | _ j ih =>
    intro hj
    cases hD:listed.getD j false
    .exfalso
     have hjl:j<listed.size:=by rw [h.size];exact hj
     have hDt:listed.getD j true=false:=by
      simp only [aq,ax hjl,Option.getD_some] at hD ⊢
      exact hD
     have:j∈Region.ready .any ops listed:=by
      rw [AQ]
      refine ⟨hj,hDt,ops[j],ax hj,fun e he hb=>?_⟩
      have hlt:=(hg j _ (ax hj)).2.2.2 e he hb
      exact ih e.on hlt (by omega)
     rw [hr] at this
     cases this
    .rfl
  have hph:ph=N:=by
   rcases Nat.lt_or_ge ph N with hlt | hge
   .obtain ⟨i,hi⟩:=hall ph hlt
    have h1:=h.eff_ i ph hi
    rw [all i (heff i ph hi).2] at h1
    simp at h1
   .have:=h.le
    omega
  rw [h.world,hph]
  exact hQ a h.defers h.tsz h.rest
 case s =>
  rintro listed a w i ⟨ph,h⟩ hi K hK
  rw [AQ] at hi
  obtain ⟨hi1,hi2,o,ho,hed⟩:=hi
  obtain ⟨hgd,hdf,hdl,_⟩:=hg i o ho
  have hil:i<listed.size:=by rw [h.size];exact hi1
  have hif:listed.getD i false=false:=by
   simp only [aq,ax hil,Option.getD_some] at hi2 ⊢
   exact hi2
  have hpi:∀ p,eff i=some p->p=ph:=fun p hp=>by
   have h1:=h.eff_ i p hp
   rw [hif] at h1
   have h1:¬ p<ph:=by simpa using h1.symm
   rcases Nat.lt_or_ge ph p with hlt | hge
   .obtain ⟨q,rfl⟩:∃ q,p=q+1:=⟨p - 1,by omega⟩
    obtain ⟨e,he,hb,hq⟩:=hchain i o q ho hp
    have h2:=h.eff_ e.on q hq
    rw [hed e he hb] at h2
    have h2:q<ph:=by simpa using h2.symm
    omega
   .omega
  have gset:∀ j,(listed.setIfInBounds i true).getD j false=if j=i then true else listed.getD j false:=fun j=>by
   simp only [aq,Array.getElem?_setIfInBounds]
   by_cases e:j=i
   .subst e;simp [hil]
   .rw [if_neg (Ne.symm e),if_neg e]
  have hval:∀ x,(∀ d,o.dst=some d->x=val i)->PL ops val W eff N a0 (listed.setIfInBounds i true) (a.put o.dst x) (W (if (eff i).isSome then ph+1 else ph)) (if (eff i).isSome then ph+1 else ph):=fun x hx=>by
   refine ⟨?_,rfl,fun j p hp=>?_,(B0 a o.dst x).trans h.defers,(Ar a o.dst x).trans h.tsz,fun j oj d hoj hd hlj=>?_,fun t ht=>?_,by rw [Array.size_setIfInBounds];exact h.size⟩
   .cases hE:eff i with
    | none=>exact h.le
    | some p=>have:=hpi p hE;have:=(heff i p hE).1;show ph+1<=N;omega
   .rw [gset]
    by_cases e:j=i
    .subst e
     have:=hpi p hp
     subst this
     rw [hp]
     simp
    .rw [if_neg e,h.eff_ j p hp]
     cases hE:eff i with
     | none=>rfl
     | some q =>
      have hq:=hpi q hE
      subst hq
      have:p≠q:=fun ee=>e (hinj j i q (by rw [<- ee];exact hp) hE)
      show decide (p<q)=decide (p<q+1)
      have:(p<q)↔(p<q+1):=by omega
      simp only [this]
   .rw [gset] at hlj
    by_cases e:j=i
    .subst e
     rw [ho] at hoj;cases hoj
     rw [hd]
     have:=hdl d hd
     rw [hx d hd]
     simp only [Act.eval,Act.put]
     simp [aq,h.tsz,this]
    .rw [if_neg e] at hlj
     have hne:o.dst≠some d:=fun ee=>e (hdst j i oj o d hoj ho hd ee)
     rw [Act.eval_put (fun d' hd' ee=>hne (by cases ee;exact hd'))]
     exact h.got j oj d hoj hd hlj
   .rw [Act.eval_put (fun d' hd' ee=>ht i o ho (by cases ee;exact hd'))]
    exact h.rest t ht
  have hr:=hrun i o ho a ph h.le hpi (fun e he hb oj d hoj hd=>h.got e.on oj d hoj hd (hed e he hb)) h.rest (fun e he hb p hp=>by
   have h2:=h.eff_ e.on p hp
   rw [hed e he hb] at h2
   simpa using h2.symm)
  unfold wpOpIn
  rw [ho]
  simp only
  rw [if_pos (by simp [Region.wanted,hgd]),h.world]
  rcases hr with hr | ⟨hd,hr⟩
  .exact A8 hr (hK _ _ ⟨_,hval _ fun _ _=>rfl⟩) hdf
  .exact DR hr (hK _ _ ⟨_,hval _ fun d h=>by rw [hd] at h;cases h⟩) hdf
 case i =>
  refine ⟨0,Nat.zero_le _,h0.symm,fun i p hp=>?_,rfl,rfl,fun i o d ho hd hl=>?_,fun _ _=>rfl,by simp⟩
  .simp [aq,Array.getElem?_replicate]
   split <;> rfl
  .exfalso
   simp only [aq,Array.getElem?_replicate] at hl
   split at hl <;> cases hl
end runs
end Go.Sy
namespace Go.Sy
open Go.RowKit Go.ChangeMaps
attribute [local instance 2000] Go.Sy.G0
section maps
variable {P:Program} {α:Type} {k:TypeId} {enc:α->Value}
theorem II{es:Array MapEntry}{j:Nat}{e0:MapEntry}{b:Int}(hj:es[j]? = some e0)(hb:(e0.born:Int)=b)(hnd:(es.toList.map (·.born)).Nodup):es.findIdx? (fun e=>(e.born:Int) == b)=some j:=by
 have hjl:j<es.size:=(Array.getElem?_eq_some_iff.1 hj).1
 have hje:es[j]=e0:=(Array.getElem?_eq_some_iff.1 hj).2
 rw [Array.findIdx?_eq_some_iff_getElem]
 refine ⟨hjl,by rw [hje];simp [hb],fun i hi=>?_⟩
 have hil:i<es.size:=by omega
 intro h
 have h:((es[i].born:Int))=b:=by simpa using h
 have he:es[i].born=es[j].born:=by rw [hje];omega
 have:=(List.getElem_inj (h₀:=by simpa using hil) (h₁:=by simpa using hjl) hnd).1 (by simpa using he)
 omega
theorem B5.entry_store[DecidableEq α](K:CC P k enc){t e:TypeId}(ht:P.underlying t=some (.map k e)){z:Value}(hz:∀ w:World,(zeroValue e).run P w=.ok z w){w:World}{b:Nat}{f:α->Option Value}(h:B5 w b enc f)(a:α)(v:Value) :
  ∃ (o1 o2:Obj) (x:Value) (s:Nat),(Instr.mapEntry t (.map (some b)) (enc a)).run P w=.ok (.tuple #[x,goInt s]) (setBlock w b o1) /\
   (∀ w1:World,w1.heap[b]? = some o1->(Instr.entryStore t (.map (some b)) (goInt s) v).run P w1=.ok () (setBlock w1 b o2)) /\
   ∃ es cl,o2=.map es cl/\AZ enc (fun x=>if x=a then some v else f x) es cl:=by
 obtain ⟨es,clock,hb,o⟩:=h
 rcases K.find w a es.toList o.keys with ⟨h1,h2⟩ | ⟨j,e0,h1,h2,h3⟩
 .refine ⟨.map (es.push ⟨enc a,z,clock⟩) (clock+1),.map (es.push ⟨enc a,v,clock⟩) (clock+1),z,clock,?_,fun w1 hw1=>?_,_,_,rfl,Fp K o h2 v⟩
  .simp [Instr.mapEntry,run_underlying ht,MapKept.run_getObj_map hb,K.check w false a,h1,hz,MapKept.run_setObj_map _ hb,Result.andThen,setBlock]
  .have hn:((es.push ⟨enc a,z,clock⟩).toList.map (·.born)).Nodup:=(Fp K o h2 z).born
   have hi:=II (es:=es.push ⟨enc a,z,clock⟩) (j:=es.size) (e0:=⟨enc a,z,clock⟩) (b:=(clock:Int)) (by simp) rfl hn
   have hm:(es.push ⟨enc a,z,clock⟩).modify es.size (fun e=>{ e with val:=v })=es.push ⟨enc a,v,clock⟩:=by
    apply Array.toList_inj.1
    have hp:(es.push ⟨enc a,z,clock⟩).toList[es.size]? = some ⟨enc a,z,clock⟩:=by simp
    rw [Array.toList_modify,modify_eq_set _ _ _ _ hp]
    simp
   simp [Instr.entryStore,MapKept.run_getObj_map hw1,goInt,asInt,asIntOf,Result.andThen,hi,hm,MapKept.run_setObj_map _ hw1,setBlock]
 .have hj:es[j]? = some e0:=by simpa using h2
  have hl:(es.modify j fun e'=>{ e' with key:=enc a }).toList=es.toList.set j { e0 with key:=enc a }:=by rw [Array.toList_modify,modify_eq_set _ _ _ _ h2]
  have e1:({ e0 with key:=enc a }:MapEntry)=e0:=by rw [<- h3]
  have hid:(es.modify j fun e'=>{ e' with key:=enc a })=es:=by
   apply Array.toList_inj.1
   rw [hl,e1]
   apply List.ext_getElem?
   intro i
   rw [List.getElem?_set]
   split
   .subst_vars
    split
    .exact h2.symm
    .rename_i hlt;exact absurd (List.getElem?_eq_some_iff.1 h2).1 hlt
   .rfl
  refine ⟨.map es clock,.map (es.modify j fun e'=>{ e' with val:=v }) clock,e0.val,e0.born,?_,fun w1 hw1=>?_,_,_,rfl,J4 K o h2 h3 v (by rw [Array.toList_modify,modify_eq_set _ _ _ _ h2,<- h3])⟩
  .simp [Instr.mapEntry,run_underlying ht,MapKept.run_getObj_map hb,K.check w false a,h1,hj,h3,K.stays,MapKept.run_setObj_map _ hb,Result.andThen,setBlock,hid]
  .have hi:=II hj (b:=(e0.born:Int)) rfl o.born
   simp [Instr.entryStore,MapKept.run_getObj_map hw1,goInt,asInt,asIntOf,Result.andThen,hi,MapKept.run_setObj_map _ hw1,setBlock]
end maps
end Go.Sy
namespace Go.Sy
open Go.RowKit Go.ChangeMaps
attribute [local instance 2000] Go.Sy.G0
section runs
variable {P:Program} {rd:Option Nat} {n:Nat}
structure PN (ops:Array Oper) (val:Nat->Value) (W:Nat->World->Prop) (eff:Nat->Option Nat) (N:Nat) (a0:Act) (listed:Array Bool) (a:Act) (w:World) (ph:Nat):Prop where
 le:ph<=N
 world:W ph w
 eff_:∀ i p,eff i=some p->listed.getD i false=decide (p<ph)
 defers:a.defers=a0.defers
 tsz:a.tmps.size=a0.tmps.size
 got:∀ (i:Nat) (o:Oper) (d:Nat),ops[i]? = some o->o.dst=some d->listed.getD i false=true->a.eval (.tmp d)=val i
 rest:∀ t,(∀ (i:Nat) (o:Oper),ops[i]? = some o->o.dst≠some t)->a.eval (.tmp t)=a0.eval (.tmp t)
 size:listed.size=ops.size
theorem MW{ops:Array Oper}{id:Nat}{Q:Exit->Act->World->Prop}(hmix:P.follows .mixedOrders=true){val:Nat->Value}{W:Nat->World->Prop}{eff:Nat->Option Nat}{N:Nat}{a0:Act}(hg:∀ (i:Nat) (o:Oper),ops[i]? = some o->o.guard=none/\(∀ c,o.op≠.defer c)/\(∀ d,o.dst=some d->d<a0.tmps.size)/\(∀ e∈o.after.toList,Region.binds .any e=true->e.on<i))(hdst:∀ (i j:Nat) (oi oj:Oper) (d:Nat),ops[i]? = some oi->ops[j]? = some oj->oi.dst=some d->oj.dst=some d->i=j)(heff:∀ i p,eff i=some p->p<N/\i<ops.size)(hinj:∀ i j p,eff i=some p->eff j=some p->i=j)(hall:∀ p,p<N->∃ i,eff i=some p)(hchain:∀ (i:Nat) (o:Oper) (p:Nat),ops[i]? = some o->eff i=some (p+1)->∃ e∈o.after.toList,Region.binds .any e=true/\eff e.on=some p)(hrun:∀ (i:Nat) (o:Oper),ops[i]? = some o->∀ (a:Act) (ph:Nat),ph<=N->(∀ p,eff i=some p->p=ph) ->
   (∀ e∈o.after.toList,Region.binds .any e=true->∀ (oj:Oper) (d:Nat),ops[e.on]? = some oj->oj.dst=some d->a.eval (.tmp d)=val e.on) ->
   (∀ t,(∀ (i:Nat) (o:Oper),ops[i]? = some o->o.dst≠some t)->a.eval (.tmp t)=a0.eval (.tmp t)) ->
   (∀ e∈o.after.toList,Region.binds .any e=true->∀ p,eff e.on=some p->p<ph) ->
   ∀ w,W ph w->(∃ w',W (if (eff i).isSome then ph+1 else ph) w'/\(execOp a.eval o).run P w=.ok (.value (val i)) w')\/(o.dst=none/\∃ w',W (if (eff i).isSome then ph+1 else ph) w'/\(execOp a.eval o).run P w=.ok .skip w') \/
    (∃ (f:Nat) (xs:List Value),(execOp a.eval o).run P w=.ok (.enter f ⟨xs⟩) w/\Calls P f ⟨xs⟩ w fun e w'=>e=.returned (val i)/\W (if (eff i).isSome then ph+1 else ph) w')){w:World}(h0:W 0 { w with drawn:=w.drawn+1 })(hQ:∀ (a:Act) (w:World),W N w->a.defers=a0.defers->a.tmps.size=a0.tmps.size->(∀ t,(∀ (i:Nat) (o:Oper),ops[i]? = some o->o.dst≠some t)->a.eval (.tmp t)=a0.eval (.tmp t))->Q .normal a w) :
  (Code.region id ops true).wpIn (FW rd) n P Q a0 w:=by
 refine wpIn_region_any hmix ?_
 refine Kv (I:=fun listed a w=>∃ ph,PN ops val W eff N a0 listed a w ph) ?e ?s (by rintro listed a w ⟨ph,h⟩;exact h.size) ops.size _ a0 _ (by simp) ?i
 case e =>
  rintro listed a w ⟨ph,h⟩ hr
  have all:∀ j,j<ops.size->listed.getD j false=true:=by
   intro j
   induction j using Nat.strongRecOn with
   | _ j ih =>
    intro hj
    cases hD:listed.getD j false
    .exfalso
     have hjl:j<listed.size:=by rw [h.size];exact hj
     have hDt:listed.getD j true=false:=by
      simp only [aq,ax hjl,Option.getD_some] at hD ⊢
      exact hD
     have:j∈Region.ready .any ops listed:=by
      rw [AQ]
      refine ⟨hj,hDt,ops[j],ax hj,fun e he hb=>?_⟩
      have hlt:=(hg j _ (ax hj)).2.2.2 e he hb
      exact ih e.on hlt (by omega)
     rw [hr] at this
     cases this
    .rfl
  have hph:ph=N:=by
   rcases Nat.lt_or_ge ph N with hlt | hge
   .obtain ⟨i,hi⟩:=hall ph hlt
    have h1:=h.eff_ i ph hi
    rw [all i (heff i ph hi).2] at h1
    simp at h1
   .have:=h.le
    omega
  have hw:=h.world
  rw [hph] at hw
  exact hQ a w hw h.defers h.tsz h.rest
 case s =>
  rintro listed a w i ⟨ph,h⟩ hi K hK
  rw [AQ] at hi
  obtain ⟨hi1,hi2,o,ho,hed⟩:=hi
  obtain ⟨hgd,hdf,hdl,_⟩:=hg i o ho
  have hil:i<listed.size:=by rw [h.size];exact hi1
  have hif:listed.getD i false=false:=by
   simp only [aq,ax hil,Option.getD_some] at hi2 ⊢
   exact hi2
  have hpi:∀ p,eff i=some p->p=ph:=fun p hp=>by
   have h1:=h.eff_ i p hp
   rw [hif] at h1
   have h1:¬ p<ph:=by simpa using h1.symm
   rcases Nat.lt_or_ge ph p with hlt | hge
   .obtain ⟨q,rfl⟩:∃ q,p=q+1:=⟨p - 1,by omega⟩
    obtain ⟨e,he,hb,hq⟩:=hchain i o q ho hp
    have h2:=h.eff_ e.on q hq
    rw [hed e he hb] at h2
    have h2:q<ph:=by simpa using h2.symm
    omega
   .omega
  have gset:∀ j,(listed.setIfInBounds i true).getD j false=if j=i then true else listed.getD j false:=fun j=>by
   simp only [aq,Array.getElem?_setIfInBounds]
   by_cases e:j=i
   .subst e;simp [hil]
   .rw [if_neg (Ne.symm e),if_neg e]
  have hval:∀ x w',(∀ d,o.dst=some d->x=val i)->W (if (eff i).isSome then ph+1 else ph) w'->PN ops val W eff N a0 (listed.setIfInBounds i true) (a.put o.dst x) w' (if (eff i).isSome then ph+1 else ph):=fun x w' hx hw'=>by
   refine ⟨?_,hw',fun j p hp=>?_,(B0 a o.dst x).trans h.defers,(Ar a o.dst x).trans h.tsz,fun j oj d hoj hd hlj=>?_,fun t ht=>?_,by rw [Array.size_setIfInBounds];exact h.size⟩
   .cases hE:eff i with
    | none=>exact h.le
    | some p=>have:=hpi p hE;have:=(heff i p hE).1;show ph+1<=N;omega
   .rw [gset]
    by_cases e:j=i
    .subst e
     have:=hpi p hp
     subst this
     rw [hp]
     simp
    .rw [if_neg e,h.eff_ j p hp]
     cases hE:eff i with
     | none=>rfl
     | some q =>
      have hq:=hpi q hE
      subst hq
      have:p≠q:=fun ee=>e (hinj j i q (by rw [<- ee];exact hp) hE)
      show decide (p<q)=decide (p<q+1)
      have:(p<q)↔(p<q+1):=by omega
      simp only [this]
   .rw [gset] at hlj
    by_cases e:j=i
    .subst e
     rw [ho] at hoj;cases hoj
     rw [hd]
     have:=hdl d hd
     rw [hx d hd]
     simp only [Act.eval,Act.put]
     simp [aq,h.tsz,this]
    .rw [if_neg e] at hlj
     have hne:o.dst≠some d:=fun ee=>e (hdst j i oj o d hoj ho hd ee)
     rw [Act.eval_put (fun d' hd' ee=>hne (by cases ee;exact hd'))]
     exact h.got j oj d hoj hd hlj
   .rw [Act.eval_put (fun d' hd' ee=>ht i o ho (by cases ee;exact hd'))]
    exact h.rest t ht
  have hr:=hrun i o ho a ph h.le hpi (fun e he hb oj d hoj hd=>h.got e.on oj d hoj hd (hed e he hb)) h.rest (fun e he hb p hp=>by
   have h2:=h.eff_ e.on p hp
   rw [hed e he hb] at h2
   simpa using h2.symm) w h.world
  unfold wpOpIn
  rw [ho]
  simp only
  rw [if_pos (by simp [Region.wanted,hgd])]
  rcases hr with ⟨w',hw',hr⟩ | ⟨hd,w',hw',hr⟩ | ⟨f,xs,hr,hC⟩
  .exact A8 hr (hK _ _ ⟨_,hval _ _ (fun _ _=>rfl) hw'⟩) hdf
  .exact DR hr (hK _ _ ⟨_,hval _ _ (fun d h=>by rw [hd] at h;cases h) hw'⟩) hdf
  .refine ⟨fun _ _=>trivial,?_⟩
   rw [show (FW rd).round=rd from rfl,Dy rd _ _ hdf,hr]
   refine ⟨fun h=>(by cases h),EE (hC.mono ?_)⟩
   rintro e w' ⟨rfl,hw'⟩
   exact hK _ _ ⟨_,hval _ _ (fun _ _=>rfl) hw'⟩
 case i =>
  refine ⟨0,Nat.zero_le _,h0,fun i p hp=>?_,rfl,rfl,fun i o d ho hd hl=>?_,fun _ _=>rfl,by simp⟩
  .simp [aq,Array.getElem?_replicate]
   split <;> rfl
  .exfalso
   simp only [aq,Array.getElem?_replicate] at hl
   split at hl <;> cases hl
end runs
end Go.Sy
namespace Go.Sy
open Go.RowKit Go.ChangeMaps
attribute [local instance 2000] Go.Sy.G0
def EY:List (Nat × Value)->Nat->Option Value
 | [],_=>none
 | (k,v) :: l,t=>cond (Nat.beq k t) (some v) (EY l t)
structure Sl (a:Act) (nt:Nat) (l:List (Nat × Value)):Prop where
 sz:a.tmps.size=nt
 df:a.defers=[]
 g:∀ {t:Nat} {v:Value},EY l t=some v->a.eval (.tmp t)=v
def SY(l:List (Nat × Value)):List (Nat × Value)->Prop
 | []=>True
 | p :: r=>EY l p.1=some p.2/\SY l r
theorem Hd{l:List (Nat × Value)}:∀ {l':List (Nat × Value)},SY l l'->∀ {t:Nat} {v:Value},EY l' t=some v->EY l t=some v
 | [],_,t,v,h=>by cases h
 | (k,u) :: r,⟨h1,h2⟩,t,v,h=>by
  unfold EY at h
  cases hk:Nat.beq k t with
  | true =>
   rw [hk] at h
   have e:=Nat.eq_of_beq_eq_true hk
   subst e
   cases h
   exact h1
  | false =>
   rw [hk] at h
   exact Hd h2 h
theorem Sl.pick{a:Act}{nt:Nat}{l:List (Nat × Value)}(h:Sl a nt l)(l':List (Nat × Value))(k:SY l l'):Sl a nt l':=⟨h.sz,h.df,fun h'=>h.g (Hd k h')⟩
theorem Sl.put{a:Act}{nt:Nat}{l:List (Nat × Value)}(h:Sl a nt l){d:Nat}(hd:Nat.blt d nt=true)(x:Value):Sl (a.put (some d) x) nt ((d,x) :: l):=by
 have hd:d<a.tmps.size:=by rw [h.sz];simpa using hd
 refine ⟨(Ar a _ x).trans h.sz,(B0 a _ x).trans h.df,fun {t v} e=>?_⟩
 unfold EY at e
 cases hk:Nat.beq d t with
 | true =>
  rw [hk] at e
  have e':=Nat.eq_of_beq_eq_true hk
  subst e'
  cases e
  simp [Act.eval,Act.put,aq,hd]
 | false =>
  rw [hk] at e
  have hne:d≠t:=fun e'=>by rw [e',Nat.beq_refl] at hk;cases hk
  rw [Act.eval_put (fun d' hd' ee=>hne (by cases hd';cases ee;rfl))]
  exact h.g e
def BY(w w':World):Prop:=AR w.heap.size [] w w'
theorem BY.refl(w:World):BY w w:=AR.refl _ _ _
theorem BY.keep{w w':World}(h:BY w w'){b:Nat}{o:Obj}(hb:w.heap[b]? = some o):w'.heap[b]? = some o:=(h.block b (Array.getElem?_eq_some_iff.1 hb).1 (by simp)).trans hb
theorem AR.grow{B:Nat}{M:List Nat}{w0 w w':World}(h:AR B M w0 w)(hB:B<=w.heap.size)(k:BY w w'):AR B M w0 w' :=
 ⟨k.os.trans h.os,k.tape.trans h.tape,k.output.trans h.output,Nat.le_trans h.size k.size,fun i hi hm=>(k.block i (Nat.lt_of_lt_of_le hi hB) (by simp)).trans (h.block i hi hm)⟩
theorem BY.trans{w w1 w2:World}(h:BY w w1)(k:BY w1 w2):BY w w2:=AR.grow h h.size k
theorem BY.alloc(w:World)(o:Obj):BY w (w.alloc o):=⟨rfl,rfl,rfl,by simp,fun b hb _=>Below.heap_alloc w o b hb⟩
theorem BY.drew(w:World)(k:Nat):BY w { w with drawn:=k }:=⟨rfl,rfl,rfl,Nat.le_refl _,fun b hb _=>rfl⟩
theorem CQ(w:World)(o:Obj):(w.alloc o).heap.size=w.heap.size+1:=by simp
section runs
variable {P:Program} {rd:Option Nat} {n nt:Nat}
theorem H.val{ops:Array Oper}{o:Oper}{rest:List Oper}{Q:Exit->Act->World->Prop}{a:Act}{l:List (Nat × Value)}{d:Nat}{x:Value}{w w':World}(h:Sl a nt l)(hd:o.dst=some d)(hg:o.guard=none)(hdn:Nat.blt d nt=true)(hrun:(execOp a.eval o).run P w=.ok (.value x) w')(hde:∀ c,o.op≠.defer c)(hk:∀ a',Sl a' nt ((d,x) :: l)->wpListIn (FW rd) n P ops Q rest a' w'):wpListIn (FW rd) n P ops Q (o :: rest) a w:=by
 refine Ai hg hrun ?_ hde
 rw [hd]
 exact hk _ (h.put hdn x)
theorem H.skip{ops:Array Oper}{o:Oper}{rest:List Oper}{Q:Exit->Act->World->Prop}{a:Act}{l:List (Nat × Value)}{w w':World}(h:Sl a nt l)(hd:o.dst=none)(hg:o.guard=none)(hrun:(execOp a.eval o).run P w=.ok .skip w')(hde:∀ c,o.op≠.defer c)(hk:∀ a',Sl a' nt l->wpListIn (FW rd) n P ops Q rest a' w'):wpListIn (FW rd) n P ops Q (o :: rest) a w:=by
 refine Rr hg hrun ?_ hde
 rw [hd]
 exact hk _ h
theorem Aj{c:Code}{id:Nat}{ops:Array Oper}{Q:Exit->Act->World->Prop}{a:Act}{w:World}(h:c=.region id ops false)(k:wpListIn (FW rd) n P ops Q ops.toList a w):c.wpIn (FW rd) n P Q a w:=by
 rw [h];exact wpIn_region_list k
variable {a:Act} {w:World} {o:Oper}
theorem R.move{s:Nat}{x:Value}(ho:o.op=.move (.tmp s))(e:a.eval (.tmp s)=x):(execOp a.eval o).run P w=.ok (.value x) w:=by unfold execOp;rw [ho];simp [e]
theorem R.assign{s:Nat}{x:Value}(ho:o.op=.assign (.tmp s))(e:a.eval (.tmp s)=x):(execOp a.eval o).run P w=.ok (.value x) w:=by unfold execOp;rw [ho];simp [e]
theorem R.cmove{x:Value}(ho:o.op=.move (.const x)):(execOp a.eval o).run P w=.ok (.value x) w:=by unfold execOp;rw [ho];simp [Act.eval]
theorem R.cassign{x:Value}(ho:o.op=.assign (.const x)):(execOp a.eval o).run P w=.ok (.value x) w:=by unfold execOp;rw [ho];simp [Act.eval]
theorem R.nilc{s:Nat}{b:Addr}(ho:o.op=.nilCheck (.tmp s))(e:a.eval (.tmp s)=.pointer (some b)):(execOp a.eval o).run P w=.ok (.value (.pointer (some b))) w:=by unfold execOp;rw [ho];simp [e]
theorem R.box{s:Nat}{t:TypeId}{x:Value}(ho:o.op=.box t (.tmp s))(e:a.eval (.tmp s)=x):(execOp a.eval o).run P w=.ok (.value (.pointer (some ⟨w.heap.size,0,none⟩))) (w.alloc (.cells x.cells t (0,0))):=by
 unfold execOp;rw [ho];simp [e,Instr.box,newVar,newRow]
theorem R.alloc{t:TypeId}{z:Value}(ho:o.op=.alloc t)(hz:Ca P t=some z):(execOp a.eval o).run P w=.ok (.value (.pointer (some ⟨w.heap.size,0,none⟩))) (w.alloc (.cells z.cells t (0,0))):=by
 unfold execOp;rw [ho];simp [Instr.alloc,newVar,newRow,BP hz]
theorem R.mkmap{t:TypeId}(ho:o.op=.makeMap t none):(execOp a.eval o).run P w=.ok (.value (.map (some w.heap.size))) (w.alloc (.map #[] 0)):=by
 unfold execOp;rw [ho];have:(Instr.makeMap t none).run P w=.ok (.map (some w.heap.size)) (w.alloc (.map #[] 0)):=rfl
 simp [this]
theorem R.len{t e:TypeId}{s:Nat}{A:Option Addr}{k c:Nat}(ho:o.op=.call { callee:=.builtin .len,args:=#[.tmp s],argTypes:=#[t] })(ht:P.underlying t=some (.slice e))(ex:a.eval (.tmp s)=.slice A k c):(execOp a.eval o).run P w=.ok (.value (.int .i64 (k:Int))) w:=by
 unfold execOp;rw [ho];simp [resolve,invoke,builtin,ex,Builtin.len_,run_underlying ht,goInt]
theorem R.bin{op:BinOp}{t t':TypeId}{s1 s2:Operand}{v1 v2:SV}{r:SV}{y:Value}(ho:o.op=.binOp op t s1 s2 t')(hx:Sw P op t v1 v2=some { v:=r })(h1:v1.den ⟨fun _=>none,CN,gl0 _⟩ (a.eval s1))(h2:v2.den ⟨fun _=>none,CN,gl0 _⟩ (a.eval s2))(hy:∀ z,r.den ⟨fun _=>none,CN,gl0 _⟩ z->z=y) :
  (execOp a.eval o).run P w=.ok (.value y) w:=by
 obtain ⟨z,g1,g2,g3⟩:=Mj (P:=P) (O:=⟨fun _=>none,CN,gl0 _⟩) (w:=w) hx (fun b hb=>by simp at hb) (H0 w) h1 h2 s1 s2 0
 have:=hy z g3.val
 subst this
 unfold execOp;rw [ho];simp [g1,g2]
end runs
end Go.Sy
