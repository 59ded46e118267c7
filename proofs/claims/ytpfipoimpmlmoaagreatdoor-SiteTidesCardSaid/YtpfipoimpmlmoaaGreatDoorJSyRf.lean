/-
 A symbolic executor for the model's code: ranges over functions. Conditions: none.
-/
import Derived.Test.YtpfipoimpmlmoaaGreatDoorJSyV
import Derived.RangeFuncBox
namespace Go.Sy
set_option linter.unusedVariables false
set_option linter.unusedSimpArgs false
open Go.RowKit
section runs
variable {P:Program}
mutual
def SV.det:SV→Bool
 | .int _ _=>true
 | .bool _=>true
 | .str _=>true
 | .agg l=>detL l
 | _=>false
def detL:List SV→Bool
 | []=>true
 | v :: l=>v.det&&detL l
end
mutual
def SV.toV:SV→Value
 | .int k n=>.int k n
 | .bool b=>.bool b
 | .str s=>.string s
 | .agg l=>.agg ⟨toVL l⟩
 | _=>undef
def toVL:List SV→List Value
 | []=>[]
 | v :: l=>v.toV :: toVL l
end
mutual
theorem det_den {ρ:Env}:∀ {v:SV} {x:Value},v.det=true→(v.den ρ x↔x=v.toV)
 | .int _ _,x,_=>Iff.rfl
 | .bool _,x,_=>Iff.rfl
 | .str _,x,_=>Iff.rfl
 | .agg l,x,h=>by
  simp only [SV.det] at h
  simp only [SV.den,SV.toV]
  constructor
  ·rintro ⟨xs,rfl,hd⟩;rw [(detL_den h).1 hd]
  ·rintro rfl;exact ⟨_,rfl,(detL_den h).2 rfl⟩
 | .any,_,h | .ptr _ _,_,h | .elt _ _ _ _,_,h | .slc _ _ _ _,_,h | .own _ _ _,_,h | .gr _ _ _,_,h | .nsl,_,h | .emp,_,h | .ro _ _ _,_,h | .rp _ _ _ _,_,h | .ra _ _ _,_,h | .rn _ _ _,_,h | .pix _ _ _ _ _ _,_,h | .tup _,_,h | .fn _ _,_,h | .gd _ _ _,_,h | .val _,_,h | .ni _,_,h | .ifc _ _,_,h=>by simp [SV.det] at h
theorem detL_den {ρ:Env}:∀ {l:List SV} {xs:List Value},detL l=true→(SV.denL ρ l xs↔xs=toVL l)
 | [],[],_=>⟨fun _=>rfl,fun _=>trivial⟩
 | [],_ :: _,_=>⟨fun h=>h.elim,fun h=>by simp [toVL] at h⟩
 | _ :: _,[],_=>⟨fun h=>h.elim,fun h=>by simp [toVL] at h⟩
 | v :: l,x :: xs,h=>by
  simp only [detL,Bool.and_eq_true] at h
  simp only [SV.denL,toVL,List.cons.injEq]
  rw [det_den h.1,detL_den h.2]
end
theorem toVL_length:∀ l:List SV,(toVL l).length=l.length
 | []=>rfl
 | v :: l=>by simp [toVL,toVL_length l]
def IterOk (P:Program) (gf:Nat) (lb:Array Value) (N:Nat) (y:Nat→List SV) (od:Od) (X0:List Nat) (W0:World):Prop :=
 ∀ (l:Nat) (J:Option Nat→List Nat→World→Prop),
  (∀ k X W1 W2,J k X W1→Kept W1.heap.size X W1 W2→∀ Y:List Nat,(∀ b∈Y,W1.heap.size≤b∧b<W2.heap.size)→J k (Y ++ X) W2) →
  (∀ k X W1,J k X W1→SealOk od W1∧PvOk W1∧∀ b∈X,b<W1.heap.size∧(∀ o,od b o=none)∧od.m b=none) →
  (∀ k X W1,J (some k) X W1→k<N→∀ n,YieldAt Fence.wide n P l ⟨toVL (y k)⟩ W1 fun e W2=>∃ r,e=.returned (.bool r)∧J (bif r then some (k+1) else none) X W2∧(∀ b∈X,W2.heap[b]? = W1.heap[b]?)∧W1.heap.size≤W2.heap.size) →
  J (some 0) X0 W0 →
  Calls P gf (#[.func (.yield l) #[] #[]] ++ lb) W0 fun e W'=>(∃ v,e=.returned v)∧∃ X,J (some N) X W'∨J none X W'
def SIter (P:Program) (gf:Nat) (caps:List SV) (bs:List Blk) (N:Nat) (y:Nat→List SV):Prop :=
 (∀ k,k<N→detL (y k)=true)∧∀ (ρ:Env) (xs:List Value) (W:World) (X:List Nat),SV.denL ρ caps xs→MemDen W.heap.size X ρ (memOf bs) W→(∀ i,bs.length≤i→ρ i=none)→IterOk P gf ⟨xs⟩ N y ρ.od X W
def putAll (s:SState):List Nat→List SV→SState
 | t :: ts,v :: vs=>putAll (s.put (some t) v.top) ts vs
 | _,_=>s
theorem putAll_same:∀ {ts:List Nat} {vs:List SV} {s:SState},(putAll s ts vs).na=s.na∧(putAll s ts vs).nt=s.nt∧(putAll s ts vs).nx=s.nx∧(putAll s ts vs).mem=s.mem
 | t :: ts,v :: vs,s=>by have:=putAll_same (ts:=ts) (vs:=vs) (s:=s.put (some t) v.top);exact this
 | [],_,s=>⟨rfl,rfl,rfl,rfl⟩
 | _ :: _,[],s=>⟨rfl,rfl,rfl,rfl⟩
theorem putAll_den {ρ:Env}:∀ {ts:List Nat} {vs:List SV} {xs:List Value} {s:SState} {T:Array Value} {ds:List Deferred},TmDen ρ s ⟨T,ds⟩→SV.denL ρ vs xs→TmDen ρ (putAll s ts vs) ⟨(ts.zip xs).foldl (fun t p=>t.setIfInBounds p.1 p.2) T,ds⟩
 | t :: ts,v :: vs,x :: xs,s,T,ds,h,⟨hd,hl⟩=>by
  have:=putAll_den (ts:=ts) (h.put (Ext.refl ρ) (dst:=some t) (v:=v.top) (x:=x) fun d _=>slotDen_top hd) hl
  simpa [putAll,Act.put] using this
 | [],_,_,s,T,ds,h,_=>by simpa [putAll] using h
 | _ :: _,[],[],s,T,ds,h,_=>by simpa [putAll] using h
 | _ :: _,[],_ :: _,s,T,ds,h,hl=>hl.elim
 | _ :: _,_ :: _,[],s,T,ds,h,hl=>hl.elim
structure Free (B:Nat) (M:List Nat) (ob:Nat→Option Obj) (ρ:Env) (mem:Nat→Blk) (ds:List Deferred) (r:Nat):Prop where
 lo:B≤r∨r∈M
 ob:ob r=none
 nmk:∀ d∈ds,d≠{ target:=.collected r,args:=#[] }
 off:∀ i m,(mem i).isUnk=false→ρ i=some m→m.blk≠r
 nod:∀ k,ρ.od r k=none
 nom:ρ.od.m r=none
section
variable {B:Nat} {M:List Nat} {w0:Base} {ρ:Env} {s:SState} {a:Act} {w w':World}
theorem StDen.other {X:List Nat} (h:StDen B M w0 ρ s a w) (g:Kept w.heap.size X w w') (hr:∀ r∈X,Free B M w0.ob ρ s.mem a.defers r):StDen B M w0 ρ s a w':=by
 have kC:∀ {b o:Nat} {v:Value},ρ.od b o=some v→w'.heap[b]? = w.heap[b]?:=fun {b o v} hv=>g.block b (h.mem.od_lt hv) fun e=>by have:=(hr _ e).nod o;rw [hv] at this;cases this
 have kM:∀ {b:Nat} {v:Array MapEntry × Nat},ρ.od.m b=some v→w'.heap[b]? = w.heap[b]?:=fun {b v} hv=>g.block b (h.mem.seal_.m_lt hv) fun e=>by have:=(hr _ e).nom;rw [hv] at this;cases this
 refine ⟨⟨fun b o hb=>?_,fun d hd=>?_,h.defs.nd,h.defs.same_⟩,h.size,h.tmp,h.fresh,⟨fun i hi=>⟨fun m hm=>?_,(h.mem.at_ i hi).2⟩,h.mem.apart,⟨fun b o v hv=>?_,fun b v hv=>(kM hv).trans (h.mem.seal_.m b v hv),fun b i hp=>let ⟨⟨v,hv⟩,c,t,hc⟩:=h.mem.seal_.p b i hp;⟨⟨v,hv⟩,c,t,(kC hv).trans hc⟩⟩,h.mem.free,h.mem.pv.keep ρ.gl (fun b o v hv=>kC hv) fun b v hv=>kM hv⟩,?_,Nat.le_trans h.base g.size,h.ext,h.argn,h.argl,h.nab,h.nale,h.odb,h.mz⟩
 ·have k:=h.defs.ob b o hb
  exact k.same (g.block b k.lt fun e=>by have:=(hr b e).ob;rw [hb] at this;cases this)
 ·obtain ⟨D,e,hB,k⟩:=h.defs.at_ d hd
  exact ⟨D,e,hB,k.same (g.block D k.lt fun e2=>(hr D e2).nmk d hd e)⟩
 ·obtain ⟨g1,g2,g3⟩:=h.mem.get hi hm
  exact ⟨Nat.lt_of_lt_of_le g1 g.size,Blk.den_same g2 (g.block _ g1 fun e=>(hr _ e).off i m hi hm rfl),g3⟩
 ·rw [World.cell?_of_block (w:=w) (kC hv)]
  exact h.mem.seal_ b o v hv
 ·have k:=h.kept
  exact ⟨g.os.trans k.os,g.tape.trans k.tape,g.output.trans k.output,Nat.le_trans k.size g.size,fun b hb hM=>(g.block b (Nat.lt_of_lt_of_le hb h.base) fun e=>(hr b e).lo.elim (fun h1=>by omega) fun h1=>hM h1).trans (k.block b hb hM)⟩
theorem StDen.turn (h:StDen B M w0 ρ s a w) {b:Nat} {o o':Obj} (hb:w0.ob b=some o) (hB:B≤b) (hmk:∀ d∈a.defers,d≠{ target:=.collected b,args:=#[] }):StDen B M { w0 with ob:=fun c=>if c=b then some o' else w0.ob c } ρ s a (w.putObj b o'):=by
 have kb:=h.defs.ob b o hb
 have hk:∀ c,c≠b→(w.putObj b o').heap[c]? = w.heap[c]?:=fun c hc=>World.putObj_heap_other hc
 have hC:∀ {c o:Nat} {v:Value},ρ.od c o=some v→c≠b:=fun {c o v} hv e=>by subst e;rw [kb.nod o] at hv;cases hv
 have hM:∀ {c:Nat} {v:Array MapEntry × Nat},ρ.od.m c=some v→c≠b:=fun {c v} hv e=>by subst e;rw [kb.nom] at hv;cases hv
 refine ⟨⟨fun c u hc=>?_,fun d hd=>?_,h.defs.nd,h.defs.same_⟩,h.size,h.tmp,h.fresh,⟨fun i hi=>⟨fun m hm=>?_,(h.mem.at_ i hi).2⟩,h.mem.apart,⟨fun c k v hv=>?_,fun c v hv=>(hk c (hM hv)).trans (h.mem.seal_.m c v hv),fun c i hp=>let ⟨⟨v,hv⟩,d,t,hc⟩:=h.mem.seal_.p c i hp;⟨⟨v,hv⟩,d,t,(hk c (hC hv)).trans hc⟩⟩,h.mem.free,h.mem.pv.keep ρ.gl (fun c o v hv=>hk c (hC hv)) fun c v hv=>hk c (hM hv)⟩,?_,by rw [World.putObj_size];exact h.base,h.ext,h.argn,h.argl,h.nab,h.nale,h.odb,h.mz⟩
 ·simp only at hc
  split at hc
  ·rename_i e
   subst e
   cases hc
   exact ⟨World.putObj_heap_same kb.lt,kb.off,kb.nod,kb.nom⟩
  ·rename_i e
   exact (h.defs.ob c u hc).same (hk c e)
 ·obtain ⟨D,e,hBD,k⟩:=h.defs.at_ d hd
  exact ⟨D,e,hBD,k.same (hk D fun e2=>hmk d hd (by rw [e,e2]))⟩
 ·obtain ⟨g1,g2,g3⟩:=h.mem.get hi hm
  exact ⟨by rw [World.putObj_size];exact g1,Blk.den_same g2 (hk _ (kb.off i m hi hm)),g3⟩
 ·rw [World.cell?_of_block (w:=w) (hk c (hC hv))]
  exact h.mem.seal_ c k v hv
 ·have k:=h.kept
  exact ⟨k.os,k.tape,k.output,by rw [World.putObj_size];exact k.size,fun c hc hM=>(hk c (by omega)).trans (k.block c hc hM)⟩
theorem StDen.lessOb (h:StDen B M w0 ρ s a w) {ob':Nat→Option Obj} (ho:∀ b o,ob' b=some o→w0.ob b=some o):StDen B M { w0 with ob:=ob' } ρ s a w :=
 ⟨⟨fun b o hb=>h.defs.ob b o (ho b o hb),h.defs.at_,h.defs.nd,h.defs.same_⟩,h.size,h.tmp,h.fresh,h.mem,h.kept,h.base,h.ext,h.argn,h.argl,h.nab,h.nale,h.odb,h.mz⟩
end
theorem StDen.behind {B:Nat} {M:List Nat} {w0 wz:Base} {ρ ρ2:Env} {na ns nt nx:Nat} {Lh Le:List Nat} {va vs:List SV} {bs bs':List Blk} {a a2:Act} {w w2:World} (h:StDen B M w0 ρ (mkSt na nt Lh va nx bs) a w) (h2:StDen B M wz ρ2 (mkSt ns nt Le vs nx bs') a2 w2)
  (hst:SV.renL (fun k=>match Nat.blt k ns with | true=>some k | false=>none) va=some va) (hns:na≤ns) (hw:wz.w=w) (hρ:∀ i,i<ns→wz.ρ i=ρ i) (hod:wz.ρ.od=ρ.od) (hn:wz.n=ns)
  {ob:Nat→Option Obj} (hob:∀ b o,ob b=some o→wz.ob b=some o) (hds:∀ d∈a.defers,∀ D,d={ target:=.collected D,args:=#[] }→wz.ob D=some (.deferred (some []))):StDen B M { w0 with ob:=ob } ρ2 (mkSt na nt Lh va nx bs') a w2:=by
 have low:∀ i,i<ns→ρ2 i=ρ i:=fun i hi=>(h2.argl i (by rw [hn];exact hi)).trans (hρ i hi)
 have ode:OdExt ρ.od ρ2.od:=by rw [← hod];exact h2.ext.od
 have hna:w0.n=na:=h.nab.symm
 refine ⟨⟨fun b o hb=>h2.defs.ob b o (hob b o hb),fun d hd=>?_,h.defs.nd,h.defs.same_⟩,h.size,fun i x hx=>?_,h2.fresh,h2.mem,h.kept.trans (by rw [← hw];exact h2.kept),h2.base,⟨fun i m hm=>?_,h.ext.od.trans ode⟩,h.argn,fun i hi=>?_,h.nab,h.nale,⟨fun b o v hv=>?_,fun b v hv=>?_,h2.odb.p.trans (by rw [hod];exact h.odb.p)⟩,h.mz⟩
 ·obtain ⟨D,e,hB,k⟩:=h.defs.at_ d hd
  have:=h2.defs.ob D _ (hds d hd D e)
  exact ⟨D,e,hB,this⟩
 ·show slotDen ρ2 a (look Lh va i) x
  have hx':slotDen ρ a (look Lh va i) x:=h.tmp i x hx
  rcases look_get Lh va i with e | ⟨p,hp1,hp2⟩
  ·rw [e];trivial
  ·obtain ⟨u,hu1,hu2⟩:=renL_get hst hp2
   rw [hp2] at hu1
   cases hu1
   refine slot_of (ren_nogd hu2) (ren_den (fun k k' hk m hm=>?_) hu2 (fun _=>ode) (ren_slot hu2 hx'))
   split at hk <;> cases hk
   rename_i hb
   rw [low k (by simpa using hb)];exact hm
 ·have hlt:i<na:=by
   rcases Nat.lt_or_ge i na with h1 | h1
   ·exact h1
   ·rw [h.argn i (by rw [hna];exact h1)] at hm;cases hm
  rw [low i (by omega)]
  exact h.ext.nm i m hm
 ·have hi':i<na:=by rw [← hna];exact hi
  rw [low i (by omega)]
  exact h.argl i hi
 ·rcases h2.odb b o v hv with h1 | h1
  ·rw [hod] at h1;exact h.odb b o v h1
  ·exact .inr h1
 ·rcases h2.odb.m b v hv with h1 | h1
  ·rw [hod] at h1;exact h.odb.m b v h1
  ·exact .inr h1
def unkAt (π:List Nat) (bs:List Blk):List Blk:=(List.range bs.length).map fun i=>match inL π i with | true=>.unk | false=>memOf bs i
theorem unkAt_mem (π:List Nat) (bs:List Blk) (i:Nat):memOf (unkAt π bs) i=if i∈π then .unk else memOf bs i:=by
 unfold memOf unkAt
 by_cases h:i<bs.length
 ·rw [List.getElem?_map,List.getElem?_range h]
  simp only [Option.map_some]
  by_cases hi:i∈π
  ·rw [if_pos hi,inL_iff.2 hi]
  ·rw [if_neg hi]
   cases hb:inL π i with
   | true=>exact absurd (inL_iff.1 hb) hi
   | false=>rfl
 ·rw [List.getElem?_eq_none (by simp;omega),List.getElem?_eq_none (by omega)]
  simp
def rfRound (P:Program) (L:Tab) (Λ:Lam) (fuel:Nat) (asg body:Code) (s:SState) (K:Kont):Prop:=exec P L Λ fuel asg s fun e s'=>match e with
 | .normal=>exec P L Λ fuel body s' K
 | _=>False
open Classical in
theorem rf_ok {ι:Type} {L:Tab} {Λ:Lam} {fuel:Nat} {g:Operand} {ps:Array Tmp} {assign body:Code} (hA:LOk P (exec P L Λ fuel assign) assign) (hBd:LOk P (exec P L Λ fuel body) body) (nA:noRf assign=true) (nB:noRf body=true)
  {na ns nt nx:Nat} {Lh:List Nat} {gl:List GL} (hns:na≤ns) (hnx:ns≤nx) {gf:Nat} (eg:∀ args w,(callFunc gf args).run P w=.ok (.enter gf args) w) {gS:LSum} (π:List Nat) (hπ:nodupB π=true)
  (hrf:∀ s k,gS s k→∃ (va caps caps':List SV) (be:List Blk) (N:Nat) (y:Nat→List SV) (ba:ι→List Blk) (G:Nat→ι→XR→Prop) (x:ι),czv na nt Lh nx gl s=some (va,be)∧ba x=unkAt π be∧ev (mkSt na nt Lh va nx be) [] g=.fn gf caps ∧
   SV.renL (fun k=>match Nat.blt k ns with | true=>some k | false=>none) va=some va∧SV.renL (idx π 0) caps=some caps'∧SIter P gf caps' (π.map (memOf be)) N y∧(∀ j,j∈π→(memOf be j).isUnk=false∧∀ (ρ:Env) (w:World) (m:Nm),(memOf be j).ghost→False)∧(∀ j∈π,(memOf be j).ren (fun _=>none)=some (memOf be j))∧(∀ k,k<N→(y k).length=ps.size) ∧
   (∀ k x K,k<N→G k x K→rfRound P L Λ fuel assign body (putAll (mkSt ns nt Lh va nx (ba x)) ps.toList (y k)) (canonK ns nt [] [] nx gl fun e _ bs=>match e with | .normal=>∃ x',bs=ba x'∧G (k+1) x' K | .exit j=>K (.exit j) [] bs | .ret=>K .ret [] bs)) ∧
   (∀ x K,G N x K→K .normal [] (ba x))∧G 0 x fun e _ bs=>k e (mkSt na nt Lh va nx bs)):LOk P gS (.rangeFunc g ps assign body):=by
 intro rd nn B M w0 s k ρ a w Q hr hd hgs hk
 obtain ⟨rfl,hdf⟩:=hr.resolve_right (by simp [noRf])
 obtain ⟨va,caps,caps',be,N,y,ba,G,x0,hz,hbe,hev,hst,hcp,hit,hπk,hπr,hy,hs,hN,hG⟩:=hrf s k hgs
 obtain ⟨ρ1,hdE⟩:=cz_ok hd hz
 have hgv:=ev_den hdE.tmDen (AsmOk.nil a) g
 rw [hev] at hgv
 obtain ⟨xs,hgv,hcaps⟩:=hgv
 clear hd hgs hz
 have hmu:∀ q,(memOf (ba x0) q).isUnk=false→q ∉ π∧memOf (ba x0) q=memOf be q:=fun q hq=>by
  rw [hbe,unkAt_mem] at hq ⊢
  split at hq
  ·cases hq
  ·rename_i h;exact ⟨h,by rw [if_neg h]⟩
 have hd1:StDen B M w0 ρ1 (mkSt na nt Lh va nx (ba x0)) a w :=
  ⟨hdE.defs.unk fun q hq=>(show (memOf be q).isUnk=false from (hmu q hq).2 ▸ hq),hdE.size,hdE.tmp,hdE.fresh,hdE.mem.weaken fun q=>by
   show wkOf (memOf (ba x0) q) (memOf be q)
   rw [hbe,unkAt_mem]
   split
   ·exact .inl rfl
   ·exact .inr (.inl rfl),hdE.kept,hdE.base,hdE.ext,hdE.argn,hdE.argl,hdE.nab,hdE.nale,hdE.odb,hdE.mz⟩
 -- the blocks that the iterator gets
 have hπm:∀ j∈π,∃ m,ρ1 j=some m∧m.blk<w.heap.size∧(memOf be j).den ρ1 w m∧(B≤m.blk∨m.blk∈M):=fun j hj=>hdE.mem.get' (hπk j hj).1 fun h=>(hπk j hj).2 ρ1 w ⟨0,0,0⟩ h
 obtain ⟨X0,hX0⟩:∃ X0:List Nat,X0=π.filterMap fun j=>(ρ1 j).map (·.blk):=⟨_,rfl⟩
 have hX0m:∀ b,b∈X0↔∃ j∈π,∃ m,ρ1 j=some m∧m.blk=b:=fun b=>by
  rw [hX0,List.mem_filterMap]
  constructor
  ·rintro ⟨j,hj,h⟩
   cases hm:ρ1.nm j with
   | none=>rw [hm] at h;cases h
   | some m=>rw [hm] at h;cases h;exact ⟨j,hj,m,hm,rfl⟩
  ·rintro ⟨j,hj,m,hm,rfl⟩
   exact ⟨j,hj,by rw [hm];rfl⟩
 obtain ⟨ρL,hρL⟩:∃ ρL:Env,ρL=⟨fun t=>match π[t]? with | some j=>ρ1 j | none=>none,ρ1.od,ρ1.gl⟩:=⟨_,rfl⟩
 have hcaps':SV.denL ρL caps' xs:=by
  refine renL_den (fun i j hij m hm=>?_) hcp (fun _=>by rw [hρL];exact OdExt.refl _) hcaps
  obtain ⟨t,rfl,ht⟩:=idx_some hij
  rw [hρL]
  show (match π[0+t]? with | some j=>ρ1 j | none=>none)=some m
  rw [Nat.zero_add,ht]
  exact hm
 obtain ⟨hyn,hit⟩:=hit
 have hdet:∀ k,k<N→∀ ρ:Env,SV.denL ρ (y k) (toVL (y k)):=fun k hk ρ=>(detL_den (hyn k hk)).2 rfl
 generalize hK:(fun (e:XE) (_:List SV) bs=>k e (mkSt na nt Lh va nx bs))=K at hG
 refine wpIn_rangeFunc ?_
 intro fn _
 obtain ⟨rec,hrec⟩:∃ rec:LoopState→Option Code→Loop,rec=fun st pe=>{ state:=st,pending:=pe,fn,tmps:=a.tmps,params:=ps,assign,body,defers:=w.heap.size }:=⟨_,rfl⟩
 obtain ⟨W1,hW1⟩:∃ W1,(w.alloc (.deferred (some []))).alloc (.loop (rec .ready none))=W1:=⟨_,rfl⟩
 obtain ⟨l,hl⟩:∃ l,l=w.heap.size+1:=⟨_,rfl⟩
 obtain ⟨mark,hmark⟩:∃ mark:Deferred,mark={ target:=.collected w.heap.size,args:=#[] }:=⟨_,rfl⟩
 have hL1:W1.heap[l]? = some (.loop (rec .ready none)):=by
  rw [← hW1,hl];have:=World.alloc_heap_new (w.alloc (.deferred (some []))) (.loop (rec .ready none));rwa [World.size_alloc] at this
 have hD1:W1.heap[w.heap.size]? = some (.deferred (some [])):=by
  rw [← hW1];exact (Below.heap_alloc _ _ _ (by simp)).trans (World.alloc_heap_new w _)
 have hg1:Kept w.heap.size [] w W1:=by
  rw [← hW1];exact ⟨rfl,rfl,rfl,by simp;omega,fun k hk _=>(Below.heap_alloc _ _ k (by simp;omega)).trans (Below.heap_alloc _ _ k hk)⟩
 -- the marks that are there already
 have hmlt:∀ d∈a.defers,∀ D,d={ target:=.collected D,args:=#[] }→D<w.heap.size:=by
  intro d hd D e
  obtain ⟨D',e',_,k⟩:=hd1.defs.at_ d hd
  rw [e] at e';cases e'
  exact k.lt
 have hoblt:∀ b o,w0.ob b=some o→b<w.heap.size:=fun b o hb=>(hd1.defs.ob b o hb).lt
 have hobn:∀ b,w.heap.size≤b→w0.ob b=none:=fun b hb=>by
  cases ho:w0.ob b with
  | none=>rfl
  | some o=>have:=hoblt b o ho;omega
 have hBw:=hd1.base
 -- the base with the loop's record
 obtain ⟨obJ,hobJ⟩:∃ obJ:Loop→Nat→Option Obj,obJ=fun r b=>if b=l then some (.loop r) else w0.ob b:=⟨_,rfl⟩
 have hobl:∀ r,obJ r l=some (.loop r):=fun r=>by rw [hobJ];simp
 have hobo:∀ r b,b≠l→obJ r b=w0.ob b:=fun r b hb=>by rw [hobJ];simp [hb]
 have hnl:∀ d∈mark :: a.defers,d≠{ target:=.collected l,args:=#[] }:=by
  intro d hd e
  rcases List.mem_cons.1 hd with rfl | hd
  ·rw [hmark] at e;cases e;omega
  ·have:=hmlt d hd l e;omega
 have hS0:StDen B M { w0 with ob:=obJ (rec .ready none) } ρ1 (mkSt na nt Lh va nx (ba x0)) { a with defers:=mark :: a.defers } W1:=by
  have h1:=hd1.other hg1 (fun r hr=>by cases hr)
  have hof:∀ b,w.heap.size≤b→∀ i m,((mkSt na nt Lh va nx (ba x0)).mem i).isUnk=false→ρ1 i=some m→m.blk≠b:=fun b hb i m hi hm e=>by have:=(hd1.mem.get hi hm).1;omega
  have hno:∀ b,w.heap.size≤b→∀ k,ρ1.od b k=none:=fun b hb k=>by
   cases ho:ρ1.od b k with
   | none=>rfl
   | some v=>have:=hd1.mem.od_lt ho;omega
  have hnm:∀ b,w.heap.size≤b→ρ1.od.m b=none:=fun b hb=>by
   cases ho:ρ1.od.m b with
   | none=>rfl
   | some v=>have:=hd1.mem.seal_.m_lt ho;omega
  refine ⟨⟨fun b o hb=>?_,fun d hd=>?_,?_,fun d hd=>by rw [show ({ w0 with ob:=obJ (rec .ready none) }:Base).df=w0.df from rfl,hdf] at hd;cases hd⟩,h1.size,h1.tmp,h1.fresh,h1.mem,h1.kept,h1.base,h1.ext,h1.argn,h1.argl,h1.nab,h1.nale,h1.odb,h1.mz⟩
  ·by_cases e:b=l
   ·subst e
    simp only [hobl] at hb
    cases hb
    exact ⟨hL1,hof _ (by omega),hno _ (by omega),hnm _ (by omega)⟩
   ·simp only [hobo _ _ e] at hb
    exact h1.defs.ob b o hb
  ·rcases List.mem_cons.1 hd with rfl | hd
   ·exact ⟨_,hmark,hBw,hD1,hof _ (Nat.le_refl _),hno _ (Nat.le_refl _),hnm _ (Nat.le_refl _)⟩
   ·exact h1.defs.at_ d hd
  ·refine List.nodup_cons.2 ⟨fun hm=>?_,h1.defs.nd⟩
   have:=hmlt mark hm _ hmark
   omega
 have hmapN:∀ j m,(memOf be j).isUnk=false→ρ1 j=some m→ρ1.od.m m.blk=none:=fun j m hj hm=>by
  cases h:ρ1.od.m m.blk with
  | none=>rfl
  | some v=>exact absurd rfl (hdE.mem.map_ne hj hm h)
 have hfree0:∀ b∈X0,Free B M (obJ (rec .ready none)) ρ1 (memOf (ba x0)) (mark :: a.defers) b∧b<W1.heap.size:=by
  intro b hb
  obtain ⟨j,hj,m,hm,rfl⟩:=(hX0m b).1 hb
  obtain ⟨m',hm',h1,h2,h3⟩:=hπm j hj
  rw [hm] at hm';cases hm'
  have hju:=(hπk j hj).1
  refine ⟨⟨h3,?_,fun d hd e=>?_,fun i m' hi hmi=>?_,hdE.mem.free j m hju hm,hmapN j m hju hm⟩,Nat.lt_of_lt_of_le h1 hg1.size⟩
  ·rw [hobo _ _ (by omega)]
   cases ho:w0.ob m.blk with
   | none=>rfl
   | some o=>exact absurd rfl ((hdE.defs.ob _ o ho).off j m hju hm)
  ·rcases List.mem_cons.1 hd with rfl | hd
   ·rw [hmark] at e;injection e with e;injection e with e;omega
   ·obtain ⟨D,e',_,kk⟩:=hdE.defs.at_ d hd
    rw [e] at e';cases e'
    exact kk.off j m hju hm rfl
  ·obtain ⟨hni,he⟩:=hmu i hi
   exact hdE.mem.apart i j m' m (fun e=>hni (by rw [e];exact hj)) (show (memOf be i).isUnk=false from he ▸ hi) hju hmi hm
 have hmL:MemDen W1.heap.size X0 ρL (memOf (π.map (memOf be))) W1:=by
  have hπg:∀ t,(memOf (π.map (memOf be)) t).isUnk=false→∃ j,π[t]? = some j∧j∈π∧memOf (π.map (memOf be)) t=memOf be j:=fun t ht=>by
   unfold memOf at ht ⊢
   rw [List.getElem?_map] at ht ⊢
   cases hj:π[t]? with
   | none=>rw [hj] at ht;cases ht
   | some j=>exact ⟨j,rfl,List.mem_of_getElem? hj,rfl⟩
  have hρt:∀ t j,π[t]? = some j→ρL t=ρ1 j:=fun t j hj=>by
   rw [hρL]
   show (match π[t]? with | some j=>ρ1 j | none=>none)=ρ1 j
   rw [hj]
  refine ⟨fun t ht=>?_,fun t t' m m' hne ht ht' hm hm'=>?_,by rw [hρL];exact hS0.mem.seal_,fun t m ht hm o=>?_,hS0.mem.pv⟩
  ·obtain ⟨j,hj,hjm,he⟩:=hπg t ht
   obtain ⟨m0,hm0,h1,h2,h3⟩:=hπm j hjm
   rw [he,hρt t j hj]
   refine ⟨fun m hm=>?_,fun hn=>by rw [hm0] at hn;cases hn⟩
   rw [hm0] at hm;cases hm
   refine ⟨Nat.lt_of_lt_of_le h1 hg1.size,?_,.inr ((hX0m _).2 ⟨j,hjm,m0,hm0,rfl⟩)⟩
   exact Blk.den_same (renB_den (σ:=fun _=>none) (fun _ _ h=>by cases h) (hπr j hjm) (fun _=>by rw [hρL];exact OdExt.refl _) h2) (hg1.block _ h1 (by simp))
  ·obtain ⟨j,hj,hjm,he⟩:=hπg t ht
   obtain ⟨j',hj',hjm',he'⟩:=hπg t' ht'
   rw [hρt t j hj] at hm
   rw [hρt t' j' hj'] at hm'
   refine hdE.mem.apart j j' m m' (fun e=>hne ?_) (hπk j hjm).1 (hπk j' hjm').1 hm hm'
   subst e
   exact nodupB_at hπ hj hj'
  ·obtain ⟨j,hj,hjm,he⟩:=hπg t ht
   rw [hρt t j hj] at hm
   rw [hρL]
   exact hdE.mem.free j m (hπk j hjm).1 hm o
 have hiter:=hit ρL xs W1 X0 hcaps' hmL (fun t ht=>by
  rw [hρL]
  show (match π[t]? with | some j=>ρ1 j | none=>none)=none
  rw [List.getElem?_eq_none (by simpa using ht)])
 have hodL:ρL.od=ρ1.od:=by rw [hρL]
 refine ⟨l,[mark],W1,{ target:=.fn (.func gf) ⟨xs⟩,args:=#[.func (.yield l) #[] #[]] },W1,gf,#[.func (.yield l) #[] #[]] ++ ⟨xs⟩,W1,?_,?_,?_,?_,fun h=>(by cases h),?_⟩
 ·rw [← hW1,hrec,hl,hmark];exact run_enterLoop_outer _ _ _ _ _
 ·simp only [resolve,hgv]
  simp [go_sem]
 ·intro f' _;trivial
 ·simp [invoke,go_sem,eg]
 refine callsIn_wide.2 ((hiter l (fun k X W=>match k with
   | some k=>∃ ρ2 x,StDen B M { w0 with ob:=obJ (rec .ready none) } ρ2 (mkSt na nt Lh va nx (ba x)) { a with defers:=mark :: a.defers } W∧G k x K∧OdExt ρ1.od ρ2.od∧∀ b∈X,Free B M (obJ (rec .ready none)) ρ2 (memOf (ba x)) (mark :: a.defers) b∧b<W.heap.size
   | none=>∃ ρ2 bs e c,StDen B M { w0 with ob:=obJ (rec .done (some c)) } ρ2 (mkSt na nt Lh va nx bs) { a with defers:=mark :: a.defers } W∧(K e [] bs∧((∃ j,e=.exit j∧c=.exit j)∨(e=.ret∧c=.ret)))∧OdExt ρ1.od ρ2.od∧∀ b∈X,Free B M (obJ (rec .done (some c))) ρ2 (memOf bs) (mark :: a.defers) b∧b<W.heap.size)
  ?_ ?_ ?_ ⟨ρ1,x0,hS0,hG,OdExt.refl _,hfree0⟩).mono ?_)
 ·-- what the iterator may do
  have go:∀ (r:Loop) (ρ2:Env) (bs:List Blk) (X:List Nat) (W2 W3:World),StDen B M { w0 with ob:=obJ r } ρ2 (mkSt na nt Lh va nx bs) { a with defers:=mark :: a.defers } W2→(∀ b∈X,Free B M (obJ r) ρ2 (memOf bs) (mark :: a.defers) b∧b<W2.heap.size)→Kept W2.heap.size X W2 W3→∀ Y:List Nat,(∀ b∈Y,W2.heap.size≤b∧b<W3.heap.size) →
    StDen B M { w0 with ob:=obJ r } ρ2 (mkSt na nt Lh va nx bs) { a with defers:=mark :: a.defers } W3∧∀ b∈Y ++ X,Free B M (obJ r) ρ2 (memOf bs) (mark :: a.defers) b∧b<W3.heap.size:=by
   intro r ρ2 bs X W2 W3 hS hX hgr Y hY
   refine ⟨hS.other hgr fun r hr=>(hX r hr).1,fun c hc=>?_⟩
   rcases List.mem_append.1 hc with hc | hc
   ·obtain ⟨h1,h2⟩:=hY c hc
    refine ⟨⟨.inl (Nat.le_trans hS.base h1),?_,fun d hd e=>?_,fun i m hi hm e=>?_,fun k=>?_,?_⟩,h2⟩
    ·cases ho:obJ r c with
     | none=>rfl
     | some o=>have:=(hS.defs.ob c o ho).lt;omega
    ·obtain ⟨D,e',_,k⟩:=hS.defs.at_ d hd
     rw [e] at e';cases e'
     have:=k.lt;omega
    ·have:=(hS.mem.get hi hm).1;omega
    ·cases ho:ρ2.od c k with
     | none=>rfl
     | some v=>have:=hS.mem.od_lt ho;omega
    ·cases ho:ρ2.od.m c with
     | none=>rfl
     | some v=>have:=hS.mem.seal_.m_lt ho;omega
   ·exact ⟨(hX c hc).1,Nat.lt_of_lt_of_le (hX c hc).2 hgr.size⟩
  rintro (_ | k) X W2 W3 hJ hgr Y hY
  ·obtain ⟨ρ2,bs,e,c,hS,hc,ho,hX⟩:=hJ
   obtain ⟨h1,h2⟩:=go _ ρ2 bs X W2 W3 hS hX hgr Y hY
   exact ⟨ρ2,bs,e,c,h1,hc,ho,h2⟩
  ·obtain ⟨ρ2,x,hS,hGk,ho,hX⟩:=hJ
   obtain ⟨h1,h2⟩:=go _ ρ2 (ba x) X W2 W3 hS hX hgr Y hY
   exact ⟨ρ2,x,h1,hGk,ho,h2⟩
 ·have go:∀ (r:Loop) (ρ2:Env) (bs:List Blk) (X:List Nat) (W2:World),StDen B M { w0 with ob:=obJ r } ρ2 (mkSt na nt Lh va nx bs) { a with defers:=mark :: a.defers } W2→OdExt ρ1.od ρ2.od→(∀ b∈X,Free B M (obJ r) ρ2 (memOf bs) (mark :: a.defers) b∧b<W2.heap.size) →
    SealOk ρL.od W2∧PvOk W2∧∀ b∈X,b<W2.heap.size∧(∀ o,ρL.od b o=none)∧ρL.od.m b=none:=by
   intro r ρ2 bs X W2 hS ho hX
   rw [hodL]
   refine ⟨⟨fun b o v hv=>hS.mem.seal_ b o v (ho b o v hv),fun b v hv=>hS.mem.seal_.m b v (ho.m b v hv),fun b i hp=>let ⟨⟨v,hv⟩,c,t,hc⟩:=hS.mem.seal_.p b i (ho.p b i hp);⟨(hS0.mem.seal_.p b i hp).1,c,t,hc⟩⟩,hS.mem.pv,fun b hb=>⟨(hX b hb).2,fun o=>?_,?_⟩⟩
   cases hv:ρ1.od b o with
   | none=>rfl
   | some v=>have:=(hX b hb).1.nod o;rw [ho b o v hv] at this;cases this
   cases hv:ρ1.od.m b with
   | none=>rfl
   | some v=>have:=(hX b hb).1.nom;rw [ho.m b v hv] at this;cases this
  rintro (_ | k) X W2 hJ
  ·obtain ⟨ρ2,bs,e,c,hS,_,ho,hX⟩:=hJ
   exact go _ ρ2 bs X W2 hS ho hX
  ·obtain ⟨ρ2,x,hS,_,ho,hX⟩:=hJ
   exact go _ ρ2 (ba x) X W2 hS ho hX
 ·-- a round
  rintro k X W2 ⟨ρ2,x,hS,hGk,hode,hX⟩ hkN n
  have hl2:=(hS.defs.ob l _ (hobl _)).at_
  obtain ⟨obR,hobR⟩:∃ obR:Nat→Option Obj,obR=fun b=>if b∈X∨{ target:=.collected b,args:=#[] }∈mark :: a.defers then W2.heap[b]? else obJ (rec .ready none) b:=⟨_,rfl⟩
  have hobRX:∀ b,(b∈X∨{ target:=.collected b,args:=#[] }∈mark :: a.defers)→obR b=W2.heap[b]?:=fun b hb=>by rw [hobR];simp only;rw [if_pos hb]
  have hobRl:obR l=some (.loop (rec .ready none)):=by
   rw [hobR]
   simp only
   rw [if_neg]
   ·exact hobl _
   ·rintro (h | h)
    ·have:=(hX l h).1.ob;rw [hobl] at this;cases this
    ·exact hnl _ h rfl
  have hsz:(⟨toVL (y k)⟩:Array Value).size=ps.size:=by
   have:=toVL_length (y k)
   have:=hy k hkN
   simp;omega
  have hyd:=run_yield (P:=P) (args:=⟨toVL (y k)⟩) hl2 (by rw [hrec];exact hsz)
  rw [hrec] at hyd
  refine ⟨fn,_,assign,body,hyd,roundIn_of_wpIn trivial ?_⟩
  clear hyd
  have hSr:StDen B M ⟨W2,⟨fun i=>if i<ns then ρ2 i else none,ρ2.od,ρ2.gl⟩,ns,obR,none⟩ ρ2 (putAll (mkSt ns nt Lh va nx (ba x)) ps.toList (y k))
    {tmps:=(ps.zip ⟨toVL (y k)⟩).foldl (fun tmps (p:Tmp × Value)=>tmps.setIfInBounds p.1 p.2) a.tmps,defers:=[] } W2:=by
   obtain ⟨e1,e2,e3,e4⟩:=putAll_same (ts:=ps.toList) (vs:=y k) (s:=mkSt ns nt Lh va nx (ba x))
   have hT:TmDen ρ2 (mkSt ns nt Lh va nx (ba x)) ⟨a.tmps,[]⟩:=⟨hS.size,hS.tmp⟩
   have hT':=putAll_den (ts:=ps.toList) hT (hdet k hkN ρ2)
   have hfold:(ps.zip ⟨toVL (y k)⟩).foldl (fun tmps (p:Tmp × Value)=>tmps.setIfInBounds p.1 p.2) a.tmps=(ps.toList.zip (toVL (y k))).foldl (fun t p=>t.setIfInBounds p.1 p.2) a.tmps:=by
    rw [← Array.foldl_toList,Array.toList_zip]
   rw [hfold]
   refine ⟨⟨fun b o hb=>?_,fun d hd=>(by cases hd),List.nodup_nil,fun d hd=>(by cases hd)⟩,hT'.size,hT'.tmp,fun i hi=>hS.fresh i (by rw [e3] at hi;exact hi),by rw [e4];exact hS.mem,Kept.refl _ _ _,hS.base,⟨fun i m hm=>?_,OdExt.refl _⟩,fun i hi=>?_,fun i hi=>?_,by rw [e1];rfl,by rw [e3];exact hnx,⟨fun _ _ _ h=>.inl h,fun _ _ h=>.inl h,rfl⟩,fun h0=>hS.mz (by rw [← hS.nab];have h0':ns=0:=h0;show na=0;omega)⟩
   ·rw [e4]
    by_cases hc:b∈X∨{ target:=.collected b,args:=#[] }∈mark :: a.defers
    ·simp only [hobRX b hc] at hb
     rcases hc with hc | hc
     ·have:=(hX b hc).1
      exact ⟨hb,this.off,this.nod,this.nom⟩
     ·obtain ⟨D,e,_,kk⟩:=hS.defs.at_ _ hc
      cases e
      exact ⟨hb,kk.off,kk.nod,kk.nom⟩
    ·have:obR b=obJ (rec .ready none) b:=by rw [hobR];simp only;rw [if_neg hc]
     simp only [this] at hb
     exact hS.defs.ob b o hb
   ·simp only at hm
    split at hm
    ·exact hm
    ·cases hm
   ·show (if i<ns then ρ2 i else none)=none
    have hi':ns≤i:=hi
    rw [if_neg (by omega)]
   ·show ρ2 i=(if i<ns then ρ2 i else none)
    have hi':i<ns:=hi
    rw [if_pos hi']
  -- what is behind a round
  have hend:∀ (r:Loop) (ρ5:Env) (vs:List SV) (bs:List Blk) (a2:Act) (W3:World),StDen B M ⟨W2,⟨fun i=>if i<ns then ρ2 i else none,ρ2.od,ρ2.gl⟩,ns,fun c=>if c=l then some (.loop { rec .ready none with state:=.busy }) else obR c,none⟩ ρ5 (mkSt ns nt [] vs nx bs) a2 W3→(∀ d∈a2.defers,d≠{ target:=.collected l,args:=#[] }) →
    StDen B M { w0 with ob:=obJ r } ρ5 (mkSt na nt Lh va nx bs) { a with defers:=mark :: a.defers } (W3.putObj l (.loop r))∧W3.heap[l]? = some (.loop { rec .ready none with state:=.busy })∧OdExt ρ1.od ρ5.od ∧
    (∀ b∈X,(W3.putObj l (.loop r)).heap[b]? = W2.heap[b]?)∧(∀ b∈X,Free B M (obJ r) ρ5 (memOf bs) (mark :: a.defers) b∧b<(W3.putObj l (.loop r)).heap.size)∧W2.heap.size≤(W3.putObj l (.loop r)).heap.size:=by
   intro r ρ5 vs bs a2 W3 h5 hn2
   have hlB:B≤l:=by omega
   have h6:=h5.turn (b:=l) (o:=.loop { rec .ready none with state:=.busy }) (o':=.loop r) (by simp) hlB hn2
   have hobz:∀ b o,obR b=some o→b≠l→(fun c=>if c=l then some (Obj.loop r) else (fun c=>if c=l then some (Obj.loop { rec .ready none with state:=.busy }) else obR c) c) b=some o:=fun b o hb hbl=>by simp [hbl,hb]
   have hXl:∀ b∈X,b≠l:=fun b hb e=>by subst e;have:=(hX _ hb).1.ob;rw [hobl] at this;cases this
   have hXh:∀ b∈X,∃ o,W2.heap[b]? = some o:=fun b hb=>⟨_,Array.getElem?_eq_getElem (hX b hb).2⟩
   have hheld:∀ b∈X,∀ o,W2.heap[b]? = some o→Held ρ5 (memOf bs) (W3.putObj l (.loop r)) b o:=fun b hb o ho=>h6.defs.ob b o (hobz b o (by rw [hobRX b (.inl hb)];exact ho) (hXl b hb))
   refine ⟨hS.behind h6 hst hns rfl (fun i hi=>if_pos hi) rfl rfl (ob:=obJ r) (fun b o hb=>?_) (fun d hd D e=>?_),(h5.defs.ob l _ (by simp)).at_,hode.trans h6.ext.od,fun b hb=>?_,fun b hb=>?_,by rw [World.putObj_size];exact h5.kept.size⟩
   ·by_cases e:b=l
    ·subst e;rw [hobl] at hb;cases hb;simp
    ·rw [hobo _ _ e] at hb
     refine hobz b o ?_ e
     by_cases hc:b∈X∨{ target:=.collected b,args:=#[] }∈mark :: a.defers
     ·rw [hobRX b hc]
      exact (hS.defs.ob b o (by simp only [hobo _ _ e];exact hb)).at_
     ·rw [hobR];simp only;rw [if_neg hc,hobo _ _ e];exact hb
   ·have hD:D≠l:=fun e2=>hnl d hd (by rw [e,e2])
    refine hobz D _ ?_ hD
    rw [hobRX D (.inr (by rw [← e];exact hd))]
    obtain ⟨D',e',_,kk⟩:=hS.defs.at_ d hd
    rw [e] at e';cases e'
    exact kk.at_
   ·obtain ⟨o,ho⟩:=hXh b hb
    rw [ho];exact (hheld b hb o ho).at_
   ·obtain ⟨o,ho⟩:=hXh b hb
    have hh:=hheld b hb o ho
    have hf:=(hX b hb).1
    exact ⟨⟨hf.lo,by rw [hobo _ _ (hXl b hb),← hobo (rec .ready none) _ (hXl b hb)];exact hf.ob,hf.nmk,hh.off,hh.nod,hh.nom⟩,hh.lt⟩
  have hnoD:∀ (ob:Nat→Option Obj) (ρ5:Env) (s5:SState) (a2:Act) (W3:World) (n5:Nat) (r5:Env),ob l=some (.loop { rec .ready none with state:=.busy })∨ob l=some (.loop (rec .ready none))→StDen B M ⟨W2,r5,n5,ob,none⟩ ρ5 s5 a2 W3→∀ d∈a2.defers,d≠{ target:=.collected l,args:=#[] }:=by
   intro ob ρ5 s5 a2 W3 n5 r5 hob h5 d hd e
   obtain ⟨D,e',_,kk⟩:=h5.defs.at_ d hd
   rw [e] at e';cases e'
   rcases hob with hob | hob
   ·have:=(h5.defs.ob _ _ hob).at_;rw [kk.at_] at this;cases this
   ·have:=(h5.defs.ob _ _ hob).at_;rw [kk.at_] at this;cases this
  refine hA (some l) n B M _ _ _ ρ2 _ W2 _ (.inr nA) hSr (hs k x K hkN hGk) ?_
  intro e s' ρ3 a3 W3 hs' hk'
  cases e with
  | exit j=>exact hk'.elim
  | ret=>exact hk'.elim
  | normal =>
   have hl3:=(hs'.defs.ob l _ hobRl).at_
   refine ⟨_,run_beginRound hl3 (by rw [hrec]),hBd (some l) n B M _ s' _ ρ3 a3 _ _ (.inr nB) (hs'.turn hobRl (by omega) (hnoD _ _ _ _ _ _ _ (.inr hobRl) hs')) hk' ?_⟩
   intro e2 s2 ρ4 a4 W4 hs2 hk2
   have hnd4:=hnoD _ _ _ _ _ _ _ (.inl (by simp)) hs2
   cases e2 with
   | normal =>
    simp only [canonK] at hk2
    obtain ⟨r,hr,x',e1,hG'⟩:=cz_get hk2
    obtain ⟨ρ5,h5⟩:=cz_ok hs2 hr
    obtain ⟨h6,h7,h8,h9,h10,h11⟩:=hend (rec .ready none) ρ5 _ _ a4 W4 h5 hnd4
    rw [e1] at h6 h10
    have hrl:(Obj.loop { { rec .ready none with state:=.busy } with state:=if (none:Option Code).isNone then .ready else .done,pending:=none })=.loop (rec .ready none):=by rw [hrec];rfl
    refine ⟨_,_,run_endRound none h7,true,by simp,?_,?_,?_⟩
    ·rw [hrl];exact ⟨ρ5,x',h6,hG',h8,h10⟩
    ·rw [hrl];exact h9
    ·rw [hrl];exact h11
   | exit j =>
    simp only [canonK] at hk2
    obtain ⟨r,hr,hK2⟩:=cz_get hk2
    obtain ⟨ρ5,h5⟩:=cz_ok hs2 hr
    obtain ⟨h6,h7,h8,h9,h10,h11⟩:=hend (rec .done (some (.exit j))) ρ5 _ _ a4 W4 h5 hnd4
    have hrl:(Obj.loop { { rec .ready none with state:=.busy } with state:=if (some (Code.exit j)).isNone then .ready else .done,pending:=some (.exit j) })=.loop (rec .done (some (.exit j))):=by rw [hrec];rfl
    refine ⟨_,_,run_endRound (some (.exit j)) h7,false,by simp,?_,?_,?_⟩
    ·rw [hrl];exact ⟨ρ5,_,.exit j,.exit j,h6,⟨hK2,.inl ⟨j,rfl,rfl⟩⟩,h8,h10⟩
    ·rw [hrl];exact h9
    ·rw [hrl];exact h11
   | ret =>
    simp only [canonK] at hk2
    obtain ⟨r,hr,hK2⟩:=cz_get hk2
    obtain ⟨ρ5,h5⟩:=cz_ok hs2 hr
    obtain ⟨h6,h7,h8,h9,h10,h11⟩:=hend (rec .done (some .ret)) ρ5 _ _ a4 W4 h5 hnd4
    have hrl:(Obj.loop { { rec .ready none with state:=.busy } with state:=if (some Code.ret).isNone then .ready else .done,pending:=some .ret })=.loop (rec .done (some .ret)):=by rw [hrec];rfl
    refine ⟨_,_,run_endRound (some .ret) h7,false,by simp,?_,?_,?_⟩
    ·rw [hrl];exact ⟨ρ5,_,.ret,.ret,h6,⟨hK2,.inr ⟨rfl,rfl⟩⟩,h8,h10⟩
    ·rw [hrl];exact h9
    ·rw [hrl];exact h11
 ·-- behind the iterator
  rintro e W2 ⟨⟨v,rfl⟩,X,(⟨ρ2,x,hS,hGN,_,_⟩ | ⟨ρ2,bs,e,c,hS,⟨hKe,hc⟩,_,_⟩)⟩
  ·have hl2:=(hS.defs.ob l _ (hobl _)).at_
   refine ⟨none,_,by have:=run_endLoop (P:=P) hl2 (by rw [hrec];simp);rw [hrec] at this;exact this,?_⟩
   have h3:=(hS.turn (o':=.loop { rec .ready none with state:=.exhausted }) (hobl _) (by omega) hnl).lessOb (ob':=w0.ob) fun b o hb=>by
    have hbl:b≠l:=fun e=>by subst e;rw [hobn _ (by omega)] at hb;cases hb
    simp [hbl,hobo _ _ hbl,hb]
   have hKN:=hN x K hGN
   rw [← hK] at hKN
   have:=hk .normal _ ρ2 _ _ h3 hKN
   rw [hrec] at this
   exact this
  ·have hl2:=(hS.defs.ob l _ (hobl _)).at_
   have h3:=(hS.turn (o':=.loop { rec .done (some c) with state:=.exhausted }) (hobl _) (by omega) hnl).lessOb (ob':=w0.ob) fun b o hb=>by
    have hbl:b≠l:=fun e=>by subst e;rw [hobn _ (by omega)] at hb;cases hb
    simp [hbl,hobo _ _ hbl,hb]
   rw [← hK] at hKe
   have:=hk e _ ρ2 _ _ h3 hKe
   rw [hrec] at this
   refine ⟨some c,_,by have:=run_endLoop (P:=P) hl2 (by rw [hrec];simp);rw [hrec] at this;exact this,?_⟩
   rcases hc with ⟨j,rfl,rfl⟩ | ⟨rfl,rfl⟩
   ·exact wpIn_exit this
   ·exact wpIn_ret this
theorem enters_ok {f:FuncId} {fn:Func} (hf:P.funcs[f]? = some fn) (hname:(fn.name == "runtime.NumGoroutine")=false) (hb:fn.body.isNone=false):∀ args w,(callFunc f args).run P w=.ok (.enter f args) w:=by
 intro args w
 simp only [callFunc,Sem.run_bind,run_program,Result.andThen_ok,hf,hname,Bool.false_eq_true,if_false,hb]
 rfl
def asgOf:Code→Code
 | .rangeFunc _ _ a _=>a
 | _=>.skip
theorem rf_blk {ι τ:Type} {L:Tab} (hL:TabOk P L) (hmix:P.follows .mixedOrders=true) {Λ:Lam} {fuel:Nat} {c:Code} {id:Nat} (hΛ:LamOk P c Λ) {g:Operand} {ps:Array Tmp} (hc:bodyAt c id=.rangeFunc g ps (asgOf (bodyAt c id)) (unloop (bodyAt c id))) (ha:blkL (asgOf (bodyAt c id))=[]) (nA:noRf (asgOf (bodyAt c id))=true) (nB:noRf (unloop (bodyAt c id))=true)
  {na ns nt nx:Nat} {Lh:List Nat} {gl:List GL} (hns:Nat.ble na ns=true) (hnx:Nat.ble ns nx=true) {gf:Nat} (eg:∀ args w,(callFunc gf args).run P w=.ok (.enter gf args) w) (π:List Nat) (hπ:nodupB π=true)
  (va caps caps':τ→List SV) (be:τ→List Blk) (N:τ→Nat) (y:τ→Nat→List SV) (ba:τ→ι→List Blk) (G:τ→Nat→ι→XR→Prop) (ok:τ→Bool)
  (hev:∀ t,ev (mkSt na nt Lh (va t) nx (be t)) [] g=.fn gf (caps t)) (hst:∀ t,SV.renL (fun k=>match Nat.blt k ns with | true=>some k | false=>none) (va t)=some (va t)) (hcp:∀ t,SV.renL (idx π 0) (caps t)=some (caps' t)) (hit:∀ t,ok t=true→SIter P gf (caps' t) (π.map (memOf (be t))) (N t) (y t)) (hπk:∀ t j,j∈π→(memOf (be t) j).isUnk=false∧∀ (ρ:Env) (w:World) (m:Nm),(memOf (be t) j).ghost→False) (hπr:∀ t,∀ j∈π,(memOf (be t) j).ren (fun _=>none)=some (memOf (be t) j)) (hy:∀ t k,(y t k).length=ps.size)
  (hs:∀ t k x K,k<N t→G t k x K→rfRound P L Λ fuel (asgOf (bodyAt c id)) (unloop (bodyAt c id)) (putAll (mkSt ns nt Lh (va t) nx (ba t x)) ps.toList (y t k)) (canonK ns nt [] [] nx gl fun e _ bs=>match e with | .normal=>∃ x',bs=ba t x'∧G t (k+1) x' K | .exit j=>K (.exit j) [] bs | .ret=>K .ret [] bs))
  (hN:∀ t x K,G t (N t) x K→K .normal [] (ba t x))
  {gS:LSum} (hg:∀ s k,gS s k→∃ t x,czv na nt Lh nx gl s=some (va t,be t)∧ba t x=unkAt π (be t)∧ok t=true∧G t 0 x fun e _ bs=>inBlk id k e (mkSt na nt Lh (va t) nx bs)):LOk P gS (.block id (bodyAt c id)):=by
 rw [hc]
 have hA:LOk P (exec P L Λ fuel (asgOf (bodyAt c id))) (asgOf (bodyAt c id)):=exec_wp hL hmix _ fun i b g h=>by rw [blkL_of,ha] at h;cases h
 have hB:LOk P (exec P L Λ fuel (unloop (bodyAt c id))) (unloop (bodyAt c id)):=exec_wp hL hmix _ (lam_sub hΛ id)
 refine lok_mono (blk_ok (rf_ok (ι:=ι) hA hB nA nB (na:=na) (ns:=ns) (nt:=nt) (nx:=nx) (Lh:=Lh) (gl:=gl) (by simpa using hns) (by simpa using hnx) eg π hπ (gS:=fun s k=>∃ t x,czv na nt Lh nx gl s=some (va t,be t)∧ba t x=unkAt π (be t)∧ok t=true∧G t 0 x fun e _ bs=>k e (mkSt na nt Lh (va t) nx bs)) ?_)) fun s k h=>hg s k h
 rintro s k ⟨t,x,h1,h0,hok,h2⟩
 exact ⟨va t,caps t,caps' t,be t,N t,y t,ba t,G t,x,h1,h0,hev t,hst t,hcp t,hit t hok,hπk t,hπr t,fun k _=>hy t k,fun k x K hk hG=>hs t k x K hk hG,fun x K h=>hN t x K h,h2⟩
end runs
end Go.Sy
