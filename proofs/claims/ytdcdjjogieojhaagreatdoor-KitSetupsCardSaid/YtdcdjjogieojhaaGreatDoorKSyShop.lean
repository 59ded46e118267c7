/-
 The shop in the heap: its blocks by tags, its state, and the sealed view of it. Conditions: none.
-/
import Derived.Test.YtdcdjjogieojhaaGreatDoorKSyV
import Derived.RangeFuncBox
import Derived.Test.YtdcdjjogieojhaaGreatDoorKSyKo
set_option linter.unusedVariables false
set_option linter.unusedSimpArgs false
set_option linter.unusedSectionVars false
open List renaming mem_cons_of_mem->aq
namespace Go.Sy
open Go.RowKit
variable [AO]
section runs
variable {P:Program}
mutual
def SV.det:SV->Bool
 | .int _ _=>true
 | .bool _=>true
 | .str _=>true
 | .agg l=>N7 l
 | _=>false
def N7:List SV->Bool
 | []=>true
 | v :: l=>v.det&&N7 l
end
mutual
def SV.toV:SV->Value
 | .int k n=>.int k n
 | .bool b=>.bool b
 | .str s=>.string s
 | .agg l=>.agg ⟨F1 l⟩
 | _=>undef
def F1:List SV->List Value
 | []=>[]
 | v :: l=>v.toV :: F1 l
end
mutual
theorem RK{O:Env}:∀ {v:SV} {x:Value},v.det=true->(v.den O x↔x=v.toV)
 | .int _ _,x,_=>Iff.rfl
 | .bool _,x,_=>Iff.rfl
 | .str _,x,_=>Iff.rfl
 | .agg l,x,h=>by
  simp only [SV.det] at h
  simp only [SV.den,SV.toV]
  constructor
  .rintro ⟨xs,rfl,hd⟩;rw [(F9 h).1 hd]
  .rintro rfl;exact ⟨_,rfl,(F9 h).2 rfl⟩
 | .any,_,h | .ptr _ _,_,h | .elt _ _ _ _,_,h | .slc _ _ _ _,_,h | .own _ _ _,_,h | .gr _ _ _,_,h | .nsl,_,h | .emp,_,h | .ro _ _ _,_,h | .rp _ _ _ _,_,h | .ra _ _ _,_,h | .rn _ _ _,_,h | .pix _ _ _ _ _ _,_,h | .tup _,_,h | .fn _ _,_,h | .gd _ _ _,_,h | .val _,_,h | .ni _,_,h | .gv _,_,h | .ifc _ _,_,h=>by simp [SV.det] at h
theorem F9{O:Env}:∀ {l:List SV} {xs:List Value},N7 l=true->(SV.denL O l xs↔xs=F1 l)
 | [],[],_=>⟨fun _=>rfl,fun _=>trivial⟩
 | [],_ :: _,_=>⟨fun h=>h.elim,fun h=>by simp [F1] at h⟩
 | _ :: _,[],_=>⟨fun h=>h.elim,fun h=>by simp [F1] at h⟩
 | v :: l,x :: xs,h=>by
  simp only [N7,Bool.and_eq_true] at h
  simp only [SV.denL,F1,List.cons.injEq]
  rw [RK h.1,F9 h.2]
end
theorem HT:∀ l:List SV,(F1 l).length=l.length
 | []=>rfl
 | v :: l=>by simp [F1,HT l]
def SS(P:Program)(gf:Nat)(lb:Array Value)(N:Nat)(y:Nat->List SV)(od:Od)(X0:List Nat)(W0:World):Prop :=
 ∀ (l:Nat) (J:Option Nat->List Nat->World->Prop),
  (∀ k X W1 W2,J k X W1->AR W1.heap.size X W1 W2->∀ Y:List Nat,(∀ b∈Y,W1.heap.size<=b/\b<W2.heap.size)->J k (Y ++ X) W2) ->
  (∀ k X W1,J k X W1->Bj od W1/\Gs W1/\∀ b∈X,b<W1.heap.size/\(∀ o,od b o=none)/\od.m b=none) ->
  (∀ k X W1,J (some k) X W1->k<N->∀ n,YieldAt Fence.wide n P l ⟨F1 (y k)⟩ W1 fun e W2=>∃ r,e=.returned (.bool r)/\J (bif r then some (k+1) else none) X W2/\(∀ b∈X,W2.heap[b]? = W1.heap[b]?)/\W1.heap.size<=W2.heap.size) ->
  J (some 0) X0 W0 ->
  Calls P gf (#[.func (.yield l) #[] #[]] ++ lb) W0 fun e W'=>(∃ v,e=.returned v)/\∃ X,J (some N) X W'\/J none X W'
def Lm(P:Program)(gf:Nat)(caps:List SV)(bs:List Blk)(N:Nat)(y:Nat->List SV):Prop :=
 (∀ k,k<N->N7 (y k)=true)/\∀ (O:Env) (xs:List Value) (W:World) (X:List Nat),SV.denL O caps xs->Ak W.heap.size X O (Ah bs) W->(∀ i,bs.length<=i->O i=none)->SS P gf ⟨xs⟩ N y O.od X W
def CZ(s:A4):List Nat->List SV->A4
 | t :: ts,v :: vs=>CZ (s.put (some t) v.top) ts vs
 | _,_=>s
theorem HQ:∀ {ts:List Nat} {vs:List SV} {s:A4},(CZ s ts vs).na=s.na/\(CZ s ts vs).nt=s.nt/\(CZ s ts vs).nx=s.nx/\(CZ s ts vs).mem=s.mem
 | t :: ts,v :: vs,s=>by have:=HQ (ts:=ts) (vs:=vs) (s:=s.put (some t) v.top);exact this
 | [],_,s=>⟨rfl,rfl,rfl,rfl⟩
 | _ :: _,[],s=>⟨rfl,rfl,rfl,rfl⟩
theorem Je{O:Env}:∀ {ts:List Nat} {vs:List SV} {xs:List Value} {s:A4} {T:Array Value} {ds:List Deferred},Dl O s ⟨T,ds⟩->SV.denL O vs xs->Dl O (CZ s ts vs) ⟨(ts.zip xs).foldl (fun t p=>t.setIfInBounds p.1 p.2) T,ds⟩
 | t :: ts,v :: vs,x :: xs,s,T,ds,h,⟨hd,hl⟩=>by
  have:=Je (ts:=ts) (h.put (Ext.refl O) (dst:=some t) (v:=v.top) (x:=x) fun d _=>C9 hd) hl
  simpa [CZ,Act.put] using this
 | [],_,_,s,T,ds,h,_=>by simpa [CZ] using h
 | _ :: _,[],[],s,T,ds,h,_=>by simpa [CZ] using h
 | _ :: _,[],_ :: _,s,T,ds,h,hl=>hl.elim
 | _ :: _,_ :: _,[],s,T,ds,h,hl=>hl.elim
structure Ll (B:Nat) (M:List Nat) (ob:Nat->Option Obj) (O:Env) (mem:Nat->Blk) (ds:List Deferred) (r:Nat):Prop where
 lo:B<=r\/r∈M
 ob:ob r=none
 nmk:∀ d∈ds,d≠{ target:=.collected r,args:=#[] }
 off:∀ i m,(mem i).isUnk=false->O i=some m->m.blk≠r
 nod:∀ k,O.od r k=none
 nom:O.od.m r=none
section
variable {B:Nat} {M:List Nat} {w0:BH} {O:Env} {s:A4} {a:Act} {w w':World}
theorem Ab.other{X:List Nat}(h:Ab B M w0 O s a w)(g:AR w.heap.size X w w')(hr:∀ r∈X,Ll B M w0.ob O s.mem a.defers r):Ab B M w0 O s a w':=by
 have kC:∀ {b o:Nat} {v:Value},O.od b o=some v->w'.heap[b]? = w.heap[b]?:=fun {b o v} hv=>g.block b (h.mem.od_lt hv) fun e=>by have:=(hr _ e).nod o;rw [hv] at this;cases this
 have kM:∀ {b:Nat} {v:Array MapEntry × Nat},O.od.m b=some v->w'.heap[b]? = w.heap[b]?:=fun {b v} hv=>g.block b (h.mem.seal_.m_lt hv) fun e=>by have:=(hr _ e).nom;rw [hv] at this;cases this
 refine ⟨⟨fun b o hb=>?_,fun d hd=>?_,h.defs.nd,h.defs.same_⟩,h.size,h.tmp,h.fresh,⟨fun i hi=>⟨fun m hm=>?_,(h.mem.at_ i hi).2⟩,h.mem.apart,⟨fun b o v hv=>?_,fun b v hv=>(kM hv).trans (h.mem.seal_.m b v hv),fun b i hp=>let ⟨⟨v,hv⟩,c,t,hc⟩:=h.mem.seal_.p b i hp;⟨⟨v,hv⟩,c,t,(kC hv).trans hc⟩⟩,h.mem.free,Gs.keep h.mem.pv O.gl (fun b o v hv=>kC hv) fun b v hv=>kM hv⟩,?_,Nat.le_trans h.base g.size,h.ext,h.argn,h.argl,h.nab,h.nale,h.odb,h.mz⟩
 .have k:=h.defs.ob b o hb
  exact k.same (g.block b k.lt fun e=>by have:=(hr b e).ob;rw [hb] at this;cases this)
 .obtain ⟨D,e,hB,k⟩:=h.defs.at_ d hd
  exact ⟨D,e,hB,k.same (g.block D k.lt fun e2=>(hr D e2).nmk d hd e)⟩
 .obtain ⟨g1,g2,g3⟩:=h.mem.get hi hm
  exact ⟨Nat.lt_of_lt_of_le g1 g.size,Blk.den_same g2 (g.block _ g1 fun e=>(hr _ e).off i m hi hm rfl),g3⟩
 .rw [World.cell?_of_block (w:=w) (kC hv)]
  exact h.mem.seal_ b o v hv
 .have k:=h.kept
  exact ⟨g.os.trans k.os,g.tape.trans k.tape,g.output.trans k.output,Nat.le_trans k.size g.size,fun b hb hM=>(g.block b (Nat.lt_of_lt_of_le hb h.base) fun e=>(hr b e).lo.elim (fun h1=>by omega) fun h1=>hM h1).trans (k.block b hb hM)⟩
theorem Ab.turnF(h:Ab B M w0 O s a w){b:Nat}{o o':Obj}(hb:w0.ob b=some o)(hB:B<=b)(hmk:∀ d∈a.defers,d≠{ target:=.collected b,args:=#[] }):Ab B M { w0 with ob:=fun c=>if c=b then some o' else w0.ob c } O s a (w.putObj b o'):=by
 have kb:=h.defs.ob b o hb
 have hk:∀ c,c≠b->(w.putObj b o').heap[c]? = w.heap[c]?:=fun c hc=>World.putObj_heap_other hc
 have hC:∀ {c o:Nat} {v:Value},O.od c o=some v->c≠b:=fun {c o v} hv e=>by subst e;rw [kb.nod o] at hv;cases hv
 have hM:∀ {c:Nat} {v:Array MapEntry × Nat},O.od.m c=some v->c≠b:=fun {c v} hv e=>by subst e;rw [kb.nom] at hv;cases hv
 refine ⟨⟨fun c u hc=>?_,fun d hd=>?_,h.defs.nd,h.defs.same_⟩,h.size,h.tmp,h.fresh,⟨fun i hi=>⟨fun m hm=>?_,(h.mem.at_ i hi).2⟩,h.mem.apart,⟨fun c k v hv=>?_,fun c v hv=>(hk c (hM hv)).trans (h.mem.seal_.m c v hv),fun c i hp=>let ⟨⟨v,hv⟩,d,t,hc⟩:=h.mem.seal_.p c i hp;⟨⟨v,hv⟩,d,t,(hk c (hC hv)).trans hc⟩⟩,h.mem.free,Gs.keep h.mem.pv O.gl (fun c o v hv=>hk c (hC hv)) fun c v hv=>hk c (hM hv)⟩,?_,by rw [World.putObj_size];exact h.base,h.ext,h.argn,h.argl,h.nab,h.nale,h.odb,h.mz⟩
 .simp only at hc
  split at hc
  .rename_i e
   subst e
   cases hc
   exact ⟨World.putObj_heap_same kb.lt,kb.off,kb.nod,kb.nom⟩
  .rename_i e
   exact (h.defs.ob c u hc).same (hk c e)
 .obtain ⟨D,e,hBD,k⟩:=h.defs.at_ d hd
  exact ⟨D,e,hBD,k.same (hk D fun e2=>hmk d hd (by rw [e,e2]))⟩
 .obtain ⟨g1,g2,g3⟩:=h.mem.get hi hm
  exact ⟨by rw [World.putObj_size];exact g1,Blk.den_same g2 (hk _ (kb.off i m hi hm)),g3⟩
 .rw [World.cell?_of_block (w:=w) (hk c (hC hv))]
  exact h.mem.seal_ c k v hv
 .have k:=h.kept
  exact ⟨k.os,k.tape,k.output,by rw [World.putObj_size];exact k.size,fun c hc hM=>(hk c (by omega)).trans (k.block c hc hM)⟩
theorem Ab.lessOb(h:Ab B M w0 O s a w){ob':Nat->Option Obj}(ho:∀ b o,ob' b=some o->w0.ob b=some o):Ab B M { w0 with ob:=ob' } O s a w :=
 ⟨⟨fun b o hb=>h.defs.ob b o (ho b o hb),h.defs.at_,h.defs.nd,h.defs.same_⟩,h.size,h.tmp,h.fresh,h.mem,h.kept,h.base,h.ext,h.argn,h.argl,h.nab,h.nale,h.odb,h.mz⟩
end
theorem Ab.behind{B:Nat}{M:List Nat}{w0 wz:BH}{O O2:Env}{na ns nt nx:Nat}{Lh Le:List Nat}{va vs:List SV}{bs bs':List Blk}{a a2:Act}{w w2:World}(h:Ab B M w0 O (Aq na nt Lh va nx bs) a w)(h2:Ab B M wz O2 (Aq ns nt Le vs nx bs') a2 w2)(hst:SV.renL (fun k=>match Nat.blt k ns with | true=>some k | false=>none) va=some va)(hns:na<=ns)(hw:wz.w=w)(hO:∀ i,i<ns->wz.O i=O i)(hod:wz.O.od=O.od)(hn:wz.n=ns){ob:Nat->Option Obj}(hob:∀ b o,ob b=some o->wz.ob b=some o)(hds:∀ d∈a.defers,∀ D,d={ target:=.collected D,args:=#[] }->wz.ob D=some (.deferred (some []))):Ab B M { w0 with ob:=ob } O2 (Aq na nt Lh va nx bs') a w2:=by
 have low:∀ i,i<ns->O2 i=O i:=fun i hi=>(h2.argl i (by rw [hn];exact hi)).trans (hO i hi)
 have ode:AB O.od O2.od:=by rw [<- hod];exact h2.ext.od
 have hna:w0.n=na:=h.nab.symm
 refine ⟨⟨fun b o hb=>h2.defs.ob b o (hob b o hb),fun d hd=>?_,h.defs.nd,h.defs.same_⟩,h.size,fun i x hx=>?_,h2.fresh,h2.mem,h.kept.trans (by rw [<- hw];exact h2.kept),h2.base,⟨fun i m hm=>?_,h.ext.od.trans ode⟩,h.argn,fun i hi=>?_,h.nab,h.nale,⟨fun b o v hv=>?_,fun b v hv=>?_,h2.odb.p.trans (by rw [hod];exact h.odb.p)⟩,h.mz⟩
 .obtain ⟨D,e,hB,k⟩:=h.defs.at_ d hd
  have:=h2.defs.ob D _ (hds d hd D e)
  exact ⟨D,e,hB,this⟩
 .show B4 O2 a (KM Lh va i) x
  have hx':B4 O a (KM Lh va i) x:=h.tmp i x hx
  rcases GY Lh va i with e | ⟨p,hp1,hp2⟩
  .rw [e];trivial
  .obtain ⟨u,hu1,hu2⟩:=H3 hst hp2
   rw [hp2] at hu1
   cases hu1
   refine H5 (Me hu2) (FO (fun k k' hk m hm=>?_) hu2 (fun _=>ode) (Mf hu2 hx'))
   split at hk <;> cases hk
   rename_i hb
   rw [low k (by simpa using hb)];exact hm
 .have hlt:i<na:=by
   rcases Nat.lt_or_ge i na with h1 | h1
   .exact h1
   .rw [h.argn i (by rw [hna];exact h1)] at hm;cases hm
  rw [low i (by omega)]
  exact h.ext.nm i m hm
 .have hi':i<na:=by rw [<- hna];exact hi
  rw [low i (by omega)]
  exact h.argl i hi
 .rcases h2.odb b o v hv with h1 | h1
  .rw [hod] at h1;exact h.odb b o v h1
  .exact .inr h1
 .rcases h2.odb.m b v hv with h1 | h1
  .rw [hod] at h1;exact h.odb.m b v h1
  .exact .inr h1
def MJ(π:List Nat)(bs:List Blk):List Blk:=(List.range bs.length).map fun i=>match inL π i with | true=>.unk | false=>Ah bs i
theorem Ko(π:List Nat)(bs:List Blk)(i:Nat):Ah (MJ π bs) i=if i∈π then .unk else Ah bs i:=by
 unfold Ah MJ
 by_cases h:i<bs.length
 .rw [List.getElem?_map,List.getElem?_range h]
  simp only [Option.map_some]
  by_cases hi:i∈π
  .rw [if_pos hi,I8.2 hi]
  .rw [if_neg hi]
   cases hb:inL π i with
   | true=>exact absurd (I8.1 hb) hi
   | false=>rfl
 .rw [List.getElem?_eq_none (by simp;omega),List.getElem?_eq_none (by omega)]
  simp
def KS(P:Program)(L:Tab)(Λ:Lam)(fuel:Nat)(asg body:Code)(s:A4)(K:EZ):Prop:=AT P L Λ fuel asg s fun e s'=>match e with
 | .normal=>AT P L Λ fuel body s' K
 | _=>False
open Classical in
theorem U2{ι:Type}{L:Tab}{Λ:Lam}{fuel:Nat}{g:Operand}{ps:Array Tmp}{assign body:Code}(hA:LOk P (AT P L Λ fuel assign) assign)(hBd:LOk P (AT P L Λ fuel body) body)(nA:Dr assign=true)(nB:Dr body=true){na ns nt nx:Nat}{Lh:List Nat}{gl:List GL}(hns:na<=ns)(hnx:ns<=nx){gf:Nat}(eg:∀ args w,(callFunc gf args).run P w=.ok (.enter gf args) w){gS:AX}(π:List Nat)(hπ:Bs π=true)(hrf:∀ s k,gS s k->∃ (va caps caps':List SV) (be:List Blk) (N:Nat) (y:Nat->List SV) (ba:ι->List Blk) (G:Nat->ι->XR->Prop) (x:ι),czv na nt Lh nx gl s=some (va,be)/\ba x=MJ π be/\ev (Aq na nt Lh va nx be) [] g=.fn gf caps /\
   SV.renL (fun k=>match Nat.blt k ns with | true=>some k | false=>none) va=some va/\SV.renL (idx π 0) caps=some caps'/\Lm P gf caps' (π.map (Ah be)) N y/\(∀ j,j∈π->(Ah be j).isUnk=false/\∀ (O:Env) (w:World) (m:Nm),(Ah be j).ghost->False)/\(∀ j∈π,(Ah be j).ren (fun _=>none)=some (Ah be j))/\(∀ k,k<N->(y k).length=ps.size) /\
   (∀ k x K,k<N->G k x K->KS P L Λ fuel assign body (CZ (Aq ns nt Lh va nx (ba x)) ps.toList (y k)) (AJ ns nt [] [] nx gl fun e _ bs=>match e with | .normal=>∃ x',bs=ba x'/\G (k+1) x' K | .exit j=>K (.exit j) [] bs | .ret=>K .ret [] bs)) /\
   (∀ x K,G N x K->K .normal [] (ba x))/\G 0 x fun e _ bs=>k e (Aq na nt Lh va nx bs)):LOk P gS (.rangeFunc g ps assign body):=by
 intro rd nn B M w0 s k O a w Q hr hd hgs hk
 obtain ⟨rfl,hdf⟩:=hr.resolve_right (by simp [Dr])
 obtain ⟨va,caps,caps',be,N,y,ba,G,x0,hz,hbe,hev,hst,hcp,hit,hπk,hπr,hy,hs,hN,hG⟩:=hrf s k hgs
 obtain ⟨O1,hdE⟩:=Cu hd hz
 have hgv:=AF hdE.tmDen (Az.nil a) g
 rw [hev] at hgv
 obtain ⟨xs,hgv,hcaps⟩:=hgv
 clear hd hgs hz
 have hmu:∀ q,(Ah (ba x0) q).isUnk=false->q ∉ π/\Ah (ba x0) q=Ah be q:=fun q hq=>by
  rw [hbe,Ko] at hq ⊢
  split at hq
  .cases hq
  .rename_i h;exact ⟨h,by rw [if_neg h]⟩
 have hd1:Ab B M w0 O1 (Aq na nt Lh va nx (ba x0)) a w :=
  ⟨hdE.defs.unk fun q hq=>(show (Ah be q).isUnk=false from (hmu q hq).2 ▸ hq),hdE.size,hdE.tmp,hdE.fresh,hdE.mem.weaken fun q=>by
   show JW (Ah (ba x0) q) (Ah be q)
   rw [hbe,Ko]
   split
   .exact .inl rfl
   .exact .inr (.inl rfl),hdE.kept,hdE.base,hdE.ext,hdE.argn,hdE.argl,hdE.nab,hdE.nale,hdE.odb,hdE.mz⟩
 -- the blocks that the iterator gets
 have hπm:∀ j∈π,∃ m,O1 j=some m/\m.blk<w.heap.size/\(Ah be j).den O1 w m/\(B<=m.blk\/m.blk∈M):=fun j hj=>hdE.mem.get' (hπk j hj).1 fun h=>(hπk j hj).2 O1 w ⟨0,0,0⟩ h
 obtain ⟨X0,hX0⟩:∃ X0:List Nat,X0=π.filterMap fun j=>(O1 j).map (·.blk):=⟨_,rfl⟩
 have hX0m:∀ b,b∈X0↔∃ j∈π,∃ m,O1 j=some m/\m.blk=b:=fun b=>by
  rw [hX0,List.mem_filterMap]
  constructor
  .rintro ⟨j,hj,h⟩
   cases hm:O1.nm j with
   | none=>rw [hm] at h;cases h
   | some m=>rw [hm] at h;cases h;exact ⟨j,hj,m,hm,rfl⟩
  .rintro ⟨j,hj,m,hm,rfl⟩
   exact ⟨j,hj,by rw [hm];rfl⟩
 obtain ⟨OL,hOL⟩:∃ OL:Env,OL=⟨fun t=>match π[t]? with | some j=>O1 j | none=>none,O1.od,O1.gl⟩:=⟨_,rfl⟩
 have hcaps':SV.denL OL caps' xs:=by
  refine CJ (fun i j hij m hm=>?_) hcp (fun _=>by rw [hOL];exact AB.refl _) hcaps
  obtain ⟨t,rfl,ht⟩:=IU hij
  rw [hOL]
  show (match π[0+t]? with | some j=>O1 j | none=>none)=some m
  rw [Nat.zero_add,ht]
  exact hm
 obtain ⟨hyn,hit⟩:=hit
 have hdet:∀ k,k<N->∀ O:Env,SV.denL O (y k) (F1 (y k)):=fun k hk O=>(F9 (hyn k hk)).2 rfl
 generalize hK:(fun (e:XE) (_:List SV) bs=>k e (Aq na nt Lh va nx bs))=K at hG
 refine wpIn_rangeFunc ?_
 intro fn _
 obtain ⟨rec,hrec⟩:∃ rec:LoopState->Option Code->Loop,rec=fun st pe=>{ state:=st,pending:=pe,fn,tmps:=a.tmps,params:=ps,assign,body,defers:=w.heap.size }:=⟨_,rfl⟩
 obtain ⟨W1,hW1⟩:∃ W1,(w.alloc (.deferred (some []))).alloc (.loop (rec .ready none))=W1:=⟨_,rfl⟩
 obtain ⟨l,hl⟩:∃ l,l=w.heap.size+1:=⟨_,rfl⟩
 obtain ⟨mark,hmark⟩:∃ mark:Deferred,mark={ target:=.collected w.heap.size,args:=#[] }:=⟨_,rfl⟩
 have hL1:W1.heap[l]? = some (.loop (rec .ready none)):=by
  rw [<- hW1,hl];have:=World.alloc_heap_new (w.alloc (.deferred (some []))) (.loop (rec .ready none));rwa [World.size_alloc] at this
 have hD1:W1.heap[w.heap.size]? = some (.deferred (some [])):=by
  rw [<- hW1];exact (Below.heap_alloc _ _ _ (by simp)).trans (World.alloc_heap_new w _)
 have hg1:AR w.heap.size [] w W1:=by
  rw [<- hW1];exact ⟨rfl,rfl,rfl,by simp;omega,fun k hk _=>(Below.heap_alloc _ _ k (by simp;omega)).trans (Below.heap_alloc _ _ k hk)⟩
 -- the marks that are there already
 have hmlt:∀ d∈a.defers,∀ D,d={ target:=.collected D,args:=#[] }->D<w.heap.size:=by
  intro d hd D e
  obtain ⟨D',e',_,k⟩:=hd1.defs.at_ d hd
  rw [e] at e';cases e'
  exact k.lt
 have hoblt:∀ b o,w0.ob b=some o->b<w.heap.size:=fun b o hb=>(hd1.defs.ob b o hb).lt
 have hobn:∀ b,w.heap.size<=b->w0.ob b=none:=fun b hb=>by
  cases ho:w0.ob b with
  | none=>rfl
  | some o=>have:=hoblt b o ho;omega
 have hBw:=hd1.base
 -- the base with the loop's record
 obtain ⟨obJ,hobJ⟩:∃ obJ:Loop->Nat->Option Obj,obJ=fun r b=>if b=l then some (.loop r) else w0.ob b:=⟨_,rfl⟩
 have hobl:∀ r,obJ r l=some (.loop r):=fun r=>by rw [hobJ];simp
 have hobo:∀ r b,b≠l->obJ r b=w0.ob b:=fun r b hb=>by rw [hobJ];simp [hb]
 have hnl:∀ d∈mark :: a.defers,d≠{ target:=.collected l,args:=#[] }:=by
  intro d hd e
  rcases List.mem_cons.1 hd with rfl | hd
  .rw [hmark] at e;cases e;omega
  .have:=hmlt d hd l e;omega
 have hS0:Ab B M { w0 with ob:=obJ (rec .ready none) } O1 (Aq na nt Lh va nx (ba x0)) { a with defers:=mark :: a.defers } W1:=by
  have h1:=hd1.other hg1 (fun r hr=>by cases hr)
  have hof:∀ b,w.heap.size<=b->∀ i m,((Aq na nt Lh va nx (ba x0)).mem i).isUnk=false->O1 i=some m->m.blk≠b:=fun b hb i m hi hm e=>by have:=(hd1.mem.get hi hm).1;omega
  have hno:∀ b,w.heap.size<=b->∀ k,O1.od b k=none:=fun b hb k=>by
   cases ho:O1.od b k with
   | none=>rfl
   | some v=>have:=hd1.mem.od_lt ho;omega
  have hnm:∀ b,w.heap.size<=b->O1.od.m b=none:=fun b hb=>by
   cases ho:O1.od.m b with
   | none=>rfl
   | some v=>have:=hd1.mem.seal_.m_lt ho;omega
  refine ⟨⟨fun b o hb=>?_,fun d hd=>?_,?_,fun d hd=>by rw [show ({ w0 with ob:=obJ (rec .ready none) }:BH).df=w0.df from rfl,hdf] at hd;cases hd⟩,h1.size,h1.tmp,h1.fresh,h1.mem,h1.kept,h1.base,h1.ext,h1.argn,h1.argl,h1.nab,h1.nale,h1.odb,h1.mz⟩
  .by_cases e:b=l
   .subst e
    simp only [hobl] at hb
    cases hb
    exact ⟨hL1,hof _ (by omega),hno _ (by omega),hnm _ (by omega)⟩
   .simp only [hobo _ _ e] at hb
    exact h1.defs.ob b o hb
  .rcases List.mem_cons.1 hd with rfl | hd
   .exact ⟨_,hmark,hBw,hD1,hof _ (Nat.le_refl _),hno _ (Nat.le_refl _),hnm _ (Nat.le_refl _)⟩
   .exact h1.defs.at_ d hd
  .refine List.nodup_cons.2 ⟨fun hm=>?_,h1.defs.nd⟩
   have:=hmlt mark hm _ hmark
   omega
 have hmapN:∀ j m,(Ah be j).isUnk=false->O1 j=some m->O1.od.m m.blk=none:=fun j m hj hm=>by
  cases h:O1.od.m m.blk with
  | none=>rfl
  | some v=>exact absurd rfl (hdE.mem.map_ne hj hm h)
 have hfree0:∀ b∈X0,Ll B M (obJ (rec .ready none)) O1 (Ah (ba x0)) (mark :: a.defers) b/\b<W1.heap.size:=by
  intro b hb
  obtain ⟨j,hj,m,hm,rfl⟩:=(hX0m b).1 hb
  obtain ⟨m',hm',h1,h2,h3⟩:=hπm j hj
  rw [hm] at hm';cases hm'
  have hju:=(hπk j hj).1
  refine ⟨⟨h3,?_,fun d hd e=>?_,fun i m' hi hmi=>?_,hdE.mem.free j m hju hm,hmapN j m hju hm⟩,Nat.lt_of_lt_of_le h1 hg1.size⟩
  .rw [hobo _ _ (by omega)]
   cases ho:w0.ob m.blk with
   | none=>rfl
   | some o=>exact absurd rfl ((hdE.defs.ob _ o ho).off j m hju hm)
  .rcases List.mem_cons.1 hd with rfl | hd
   .rw [hmark] at e;injection e with e;injection e with e;omega
   .obtain ⟨D,e',_,kk⟩:=hdE.defs.at_ d hd
    rw [e] at e';cases e'
    exact kk.off j m hju hm rfl
  .obtain ⟨hni,he⟩:=hmu i hi
   exact hdE.mem.apart i j m' m (fun e=>hni (by rw [e];exact hj)) (show (Ah be i).isUnk=false from he ▸ hi) hju hmi hm
 have hmL:Ak W1.heap.size X0 OL (Ah (π.map (Ah be))) W1:=by
  have hπg:∀ t,(Ah (π.map (Ah be)) t).isUnk=false->∃ j,π[t]? = some j/\j∈π/\Ah (π.map (Ah be)) t=Ah be j:=fun t ht=>by
   unfold Ah at ht ⊢
   rw [List.getElem?_map] at ht ⊢
   cases hj:π[t]? with
   | none=>rw [hj] at ht;cases ht
   | some j=>exact ⟨j,rfl,List.mem_of_getElem? hj,rfl⟩
  have hOt:∀ t j,π[t]? = some j->OL t=O1 j:=fun t j hj=>by
   rw [hOL]
   show (match π[t]? with | some j=>O1 j | none=>none)=O1 j
   rw [hj]
  refine ⟨fun t ht=>?_,fun t t' m m' hne ht ht' hm hm'=>?_,by rw [hOL];exact hS0.mem.seal_,fun t m ht hm o=>?_,hS0.mem.pv⟩
  .obtain ⟨j,hj,hjm,he⟩:=hπg t ht
   obtain ⟨m0,hm0,h1,h2,h3⟩:=hπm j hjm
   rw [he,hOt t j hj]
   refine ⟨fun m hm=>?_,fun hn=>by rw [hm0] at hn;cases hn⟩
   rw [hm0] at hm;cases hm
   refine ⟨Nat.lt_of_lt_of_le h1 hg1.size,?_,.inr ((hX0m _).2 ⟨j,hjm,m0,hm0,rfl⟩)⟩
   exact Blk.den_same (DN (σ:=fun _=>none) (fun _ _ h=>by cases h) (hπr j hjm) (fun _=>by rw [hOL];exact AB.refl _) h2) (hg1.block _ h1 (by simp))
  .obtain ⟨j,hj,hjm,he⟩:=hπg t ht
   obtain ⟨j',hj',hjm',he'⟩:=hπg t' ht'
   rw [hOt t j hj] at hm
   rw [hOt t' j' hj'] at hm'
   refine hdE.mem.apart j j' m m' (fun e=>hne ?_) (hπk j hjm).1 (hπk j' hjm').1 hm hm'
   subst e
   exact Kb hπ hj hj'
  .obtain ⟨j,hj,hjm,he⟩:=hπg t ht
   rw [hOt t j hj] at hm
   rw [hOL]
   exact hdE.mem.free j m (hπk j hjm).1 hm o
 have hiter:=hit OL xs W1 X0 hcaps' hmL (fun t ht=>by
  rw [hOL]
  show (match π[t]? with | some j=>O1 j | none=>none)=none
  rw [List.getElem?_eq_none (by simpa using ht)])
 have hodL:OL.od=O1.od:=by rw [hOL]
 refine ⟨l,[mark],W1,{ target:=.fn (.func gf) ⟨xs⟩,args:=#[.func (.yield l) #[] #[]] },W1,gf,#[.func (.yield l) #[] #[]] ++ ⟨xs⟩,W1,?_,?_,?_,?_,fun h=>(by cases h),?_⟩
 .rw [<- hW1,hrec,hl,hmark];exact run_enterLoop_outer _ _ _ _ _
 .simp only [resolve,hgv]
  simp [go_sem]
 .intro f' _;trivial
 .simp [invoke,go_sem,eg]
 refine callsIn_wide.2 ((hiter l (fun k X W=>match k with
   | some k=>∃ O2 x,Ab B M { w0 with ob:=obJ (rec .ready none) } O2 (Aq na nt Lh va nx (ba x)) { a with defers:=mark :: a.defers } W/\G k x K/\AB O1.od O2.od/\∀ b∈X,Ll B M (obJ (rec .ready none)) O2 (Ah (ba x)) (mark :: a.defers) b/\b<W.heap.size
   | none=>∃ O2 bs e c,Ab B M { w0 with ob:=obJ (rec .done (some c)) } O2 (Aq na nt Lh va nx bs) { a with defers:=mark :: a.defers } W/\(K e [] bs/\((∃ j,e=.exit j/\c=.exit j)\/(e=.ret/\c=.ret)))/\AB O1.od O2.od/\∀ b∈X,Ll B M (obJ (rec .done (some c))) O2 (Ah bs) (mark :: a.defers) b/\b<W.heap.size)
  ?_ ?_ ?_ ⟨O1,x0,hS0,hG,AB.refl _,hfree0⟩).mono ?_)
 ·-- what the iterator may do
  have go:∀ (r:Loop) (O2:Env) (bs:List Blk) (X:List Nat) (W2 W3:World),Ab B M { w0 with ob:=obJ r } O2 (Aq na nt Lh va nx bs) { a with defers:=mark :: a.defers } W2->(∀ b∈X,Ll B M (obJ r) O2 (Ah bs) (mark :: a.defers) b/\b<W2.heap.size)->AR W2.heap.size X W2 W3->∀ Y:List Nat,(∀ b∈Y,W2.heap.size<=b/\b<W3.heap.size) ->
    Ab B M { w0 with ob:=obJ r } O2 (Aq na nt Lh va nx bs) { a with defers:=mark :: a.defers } W3/\∀ b∈Y ++ X,Ll B M (obJ r) O2 (Ah bs) (mark :: a.defers) b/\b<W3.heap.size:=by
   intro r O2 bs X W2 W3 hS hX hgr Y hY
   refine ⟨hS.other hgr fun r hr=>(hX r hr).1,fun c hc=>?_⟩
   rcases List.mem_append.1 hc with hc | hc
   .obtain ⟨h1,h2⟩:=hY c hc
    refine ⟨⟨.inl (Nat.le_trans hS.base h1),?_,fun d hd e=>?_,fun i m hi hm e=>?_,fun k=>?_,?_⟩,h2⟩
    .cases ho:obJ r c with
     | none=>rfl
     | some o=>have:=(hS.defs.ob c o ho).lt;omega
    .obtain ⟨D,e',_,k⟩:=hS.defs.at_ d hd
     rw [e] at e';cases e'
     have:=k.lt;omega
    .have:=(hS.mem.get hi hm).1;omega
    .cases ho:O2.od c k with
     | none=>rfl
     | some v=>have:=hS.mem.od_lt ho;omega
    .cases ho:O2.od.m c with
     | none=>rfl
     | some v=>have:=hS.mem.seal_.m_lt ho;omega
   .exact ⟨(hX c hc).1,Nat.lt_of_lt_of_le (hX c hc).2 hgr.size⟩
  rintro (_ | k) X W2 W3 hJ hgr Y hY
  .obtain ⟨O2,bs,e,c,hS,hc,ho,hX⟩:=hJ
   obtain ⟨h1,h2⟩:=go _ O2 bs X W2 W3 hS hX hgr Y hY
   exact ⟨O2,bs,e,c,h1,hc,ho,h2⟩
  .obtain ⟨O2,x,hS,hGk,ho,hX⟩:=hJ
   obtain ⟨h1,h2⟩:=go _ O2 (ba x) X W2 W3 hS hX hgr Y hY
   exact ⟨O2,x,h1,hGk,ho,h2⟩
 .have go:∀ (r:Loop) (O2:Env) (bs:List Blk) (X:List Nat) (W2:World),Ab B M { w0 with ob:=obJ r } O2 (Aq na nt Lh va nx bs) { a with defers:=mark :: a.defers } W2->AB O1.od O2.od->(∀ b∈X,Ll B M (obJ r) O2 (Ah bs) (mark :: a.defers) b/\b<W2.heap.size) ->
    Bj OL.od W2/\Gs W2/\∀ b∈X,b<W2.heap.size/\(∀ o,OL.od b o=none)/\OL.od.m b=none:=by
   intro r O2 bs X W2 hS ho hX
   rw [hodL]
   refine ⟨⟨fun b o v hv=>hS.mem.seal_ b o v (ho b o v hv),fun b v hv=>hS.mem.seal_.m b v (ho.m b v hv),fun b i hp=>let ⟨⟨v,hv⟩,c,t,hc⟩:=hS.mem.seal_.p b i (ho.p b i hp);⟨(hS0.mem.seal_.p b i hp).1,c,t,hc⟩⟩,hS.mem.pv,fun b hb=>⟨(hX b hb).2,fun o=>?_,?_⟩⟩
   cases hv:O1.od b o with
   | none=>rfl
   | some v=>have:=(hX b hb).1.nod o;rw [ho b o v hv] at this;cases this
   cases hv:O1.od.m b with
   | none=>rfl
   | some v=>have:=(hX b hb).1.nom;rw [ho.m b v hv] at this;cases this
  rintro (_ | k) X W2 hJ
  .obtain ⟨O2,bs,e,c,hS,_,ho,hX⟩:=hJ
   exact go _ O2 bs X W2 hS ho hX
  .obtain ⟨O2,x,hS,_,ho,hX⟩:=hJ
   exact go _ O2 (ba x) X W2 hS ho hX
 ·-- a round
  rintro k X W2 ⟨O2,x,hS,hGk,hode,hX⟩ hkN n
  have hl2:=(hS.defs.ob l _ (hobl _)).at_
  obtain ⟨obR,hobR⟩:∃ obR:Nat->Option Obj,obR=fun b=>if b∈X\/{ target:=.collected b,args:=#[] }∈mark :: a.defers then W2.heap[b]? else obJ (rec .ready none) b:=⟨_,rfl⟩
  have hobRX:∀ b,(b∈X\/{ target:=.collected b,args:=#[] }∈mark :: a.defers)->obR b=W2.heap[b]?:=fun b hb=>by rw [hobR];simp only;rw [if_pos hb]
  have hobRl:obR l=some (.loop (rec .ready none)):=by
   rw [hobR]
   simp only
   rw [if_neg]
   .exact hobl _
   .rintro (h | h)
    .have:=(hX l h).1.ob;rw [hobl] at this;cases this
    .exact hnl _ h rfl
  have hsz:(⟨F1 (y k)⟩:Array Value).size=ps.size:=by
   have:=HT (y k)
   have:=hy k hkN
   simp;omega
  have hyd:=run_yield (P:=P) (args:=⟨F1 (y k)⟩) hl2 (by rw [hrec];exact hsz)
  rw [hrec] at hyd
  refine ⟨fn,_,assign,body,hyd,roundIn_of_wpIn trivial ?_⟩
  clear hyd
  have hSr:Ab B M ⟨W2,⟨fun i=>if i<ns then O2 i else none,O2.od,O2.gl⟩,ns,obR,none⟩ O2 (CZ (Aq ns nt Lh va nx (ba x)) ps.toList (y k))
    {tmps:=(ps.zip ⟨F1 (y k)⟩).foldl (fun tmps (p:Tmp × Value)=>tmps.setIfInBounds p.1 p.2) a.tmps,defers:=[] } W2:=by
   obtain ⟨e1,e2,e3,e4⟩:=HQ (ts:=ps.toList) (vs:=y k) (s:=Aq ns nt Lh va nx (ba x))
   have hT:Dl O2 (Aq ns nt Lh va nx (ba x)) ⟨a.tmps,[]⟩:=⟨hS.size,hS.tmp⟩
   have hT':=Je (ts:=ps.toList) hT (hdet k hkN O2)
   have hfold:(ps.zip ⟨F1 (y k)⟩).foldl (fun tmps (p:Tmp × Value)=>tmps.setIfInBounds p.1 p.2) a.tmps=(ps.toList.zip (F1 (y k))).foldl (fun t p=>t.setIfInBounds p.1 p.2) a.tmps:=by
    rw [<- Array.foldl_toList,Array.toList_zip]
   rw [hfold]
   refine ⟨⟨fun b o hb=>?_,fun d hd=>(by cases hd),List.nodup_nil,fun d hd=>(by cases hd)⟩,hT'.size,hT'.tmp,fun i hi=>hS.fresh i (by rw [e3] at hi;exact hi),by rw [e4];exact hS.mem,AR.refl _ _ _,hS.base,⟨fun i m hm=>?_,AB.refl _⟩,fun i hi=>?_,fun i hi=>?_,by rw [e1];rfl,by rw [e3];exact hnx,⟨fun _ _ _ h=>.inl h,fun _ _ h=>.inl h,rfl⟩,fun h0=>hS.mz (by rw [<- hS.nab];have h0':ns=0:=h0;show na=0;omega)⟩
   .rw [e4]
    by_cases hc:b∈X\/{ target:=.collected b,args:=#[] }∈mark :: a.defers
    .simp only [hobRX b hc] at hb
     rcases hc with hc | hc
     .have:=(hX b hc).1
      exact ⟨hb,this.off,this.nod,this.nom⟩
     .obtain ⟨D,e,_,kk⟩:=hS.defs.at_ _ hc
      cases e
      exact ⟨hb,kk.off,kk.nod,kk.nom⟩
    .have:obR b=obJ (rec .ready none) b:=by rw [hobR];simp only;rw [if_neg hc]
     simp only [this] at hb
     exact hS.defs.ob b o hb
   .simp only at hm
    split at hm
    .exact hm
    .cases hm
   .show (if i<ns then O2 i else none)=none
    have hi':ns<=i:=hi
    rw [if_neg (by omega)]
   .show O2 i=(if i<ns then O2 i else none)
    have hi':i<ns:=hi
    rw [if_pos hi']
  -- what is behind a round
  have hend:∀ (r:Loop) (O5:Env) (vs:List SV) (bs:List Blk) (a2:Act) (W3:World),Ab B M ⟨W2,⟨fun i=>if i<ns then O2 i else none,O2.od,O2.gl⟩,ns,fun c=>if c=l then some (.loop { rec .ready none with state:=.busy }) else obR c,none⟩ O5 (Aq ns nt [] vs nx bs) a2 W3->(∀ d∈a2.defers,d≠{ target:=.collected l,args:=#[] }) ->
    Ab B M { w0 with ob:=obJ r } O5 (Aq na nt Lh va nx bs) { a with defers:=mark :: a.defers } (W3.putObj l (.loop r))/\W3.heap[l]? = some (.loop { rec .ready none with state:=.busy })/\AB O1.od O5.od /\
    (∀ b∈X,(W3.putObj l (.loop r)).heap[b]? = W2.heap[b]?)/\(∀ b∈X,Ll B M (obJ r) O5 (Ah bs) (mark :: a.defers) b/\b<(W3.putObj l (.loop r)).heap.size)/\W2.heap.size<=(W3.putObj l (.loop r)).heap.size:=by
   intro r O5 vs bs a2 W3 h5 hn2
   have hlB:B<=l:=by omega
   have h6:=h5.turnF (b:=l) (o:=.loop { rec .ready none with state:=.busy }) (o':=.loop r) (by simp) hlB hn2
   have hobz:∀ b o,obR b=some o->b≠l->(fun c=>if c=l then some (Obj.loop r) else (fun c=>if c=l then some (Obj.loop { rec .ready none with state:=.busy }) else obR c) c) b=some o:=fun b o hb hbl=>by simp [hbl,hb]
   have hXl:∀ b∈X,b≠l:=fun b hb e=>by subst e;have:=(hX _ hb).1.ob;rw [hobl] at this;cases this
   have hXh:∀ b∈X,∃ o,W2.heap[b]? = some o:=fun b hb=>⟨_,Array.getElem?_eq_getElem (hX b hb).2⟩
   have hheld:∀ b∈X,∀ o,W2.heap[b]? = some o->FU O5 (Ah bs) (W3.putObj l (.loop r)) b o:=fun b hb o ho=>h6.defs.ob b o (hobz b o (by rw [hobRX b (.inl hb)];exact ho) (hXl b hb))
   refine ⟨hS.behind h6 hst hns rfl (fun i hi=>if_pos hi) rfl rfl (ob:=obJ r) (fun b o hb=>?_) (fun d hd D e=>?_),(h5.defs.ob l _ (by simp)).at_,hode.trans h6.ext.od,fun b hb=>?_,fun b hb=>?_,by rw [World.putObj_size];exact h5.kept.size⟩
   .by_cases e:b=l
    .subst e;rw [hobl] at hb;cases hb;simp
    .rw [hobo _ _ e] at hb
     refine hobz b o ?_ e
     by_cases hc:b∈X\/{ target:=.collected b,args:=#[] }∈mark :: a.defers
     .rw [hobRX b hc]
      exact (hS.defs.ob b o (by simp only [hobo _ _ e];exact hb)).at_
     .rw [hobR];simp only;rw [if_neg hc,hobo _ _ e];exact hb
   .have hD:D≠l:=fun e2=>hnl d hd (by rw [e,e2])
    refine hobz D _ ?_ hD
    rw [hobRX D (.inr (by rw [<- e];exact hd))]
    obtain ⟨D',e',_,kk⟩:=hS.defs.at_ d hd
    rw [e] at e';cases e'
    exact kk.at_
   .obtain ⟨o,ho⟩:=hXh b hb
    rw [ho];exact (hheld b hb o ho).at_
   .obtain ⟨o,ho⟩:=hXh b hb
    have hh:=hheld b hb o ho
    have hf:=(hX b hb).1
    exact ⟨⟨hf.lo,by rw [hobo _ _ (hXl b hb),<- hobo (rec .ready none) _ (hXl b hb)];exact hf.ob,hf.nmk,hh.off,hh.nod,hh.nom⟩,hh.lt⟩
  have hnoD:∀ (ob:Nat->Option Obj) (O5:Env) (s5:A4) (a2:Act) (W3:World) (n5:Nat) (r5:Env),ob l=some (.loop { rec .ready none with state:=.busy })\/ob l=some (.loop (rec .ready none))->Ab B M ⟨W2,r5,n5,ob,none⟩ O5 s5 a2 W3->∀ d∈a2.defers,d≠{ target:=.collected l,args:=#[] }:=by
   intro ob O5 s5 a2 W3 n5 r5 hob h5 d hd e
   obtain ⟨D,e',_,kk⟩:=h5.defs.at_ d hd
   rw [e] at e';cases e'
   rcases hob with hob | hob
   .have:=(h5.defs.ob _ _ hob).at_;rw [kk.at_] at this;cases this
   .have:=(h5.defs.ob _ _ hob).at_;rw [kk.at_] at this;cases this
  refine hA (some l) n B M _ _ _ O2 _ W2 _ (.inr nA) hSr (hs k x K hkN hGk) ?_
  intro e s' O3 a3 W3 hs' hk'
  cases e with
  | exit j=>exact hk'.elim
  | ret=>exact hk'.elim
  | normal =>
   have hl3:=(hs'.defs.ob l _ hobRl).at_
   refine ⟨_,run_beginRound hl3 (by rw [hrec]),hBd (some l) n B M _ s' _ O3 a3 _ _ (.inr nB) (hs'.turnF hobRl (by omega) (hnoD _ _ _ _ _ _ _ (.inr hobRl) hs')) hk' ?_⟩
   intro e2 s2 O4 a4 W4 hs2 hk2
   have hnd4:=hnoD _ _ _ _ _ _ _ (.inl (by simp)) hs2
   cases e2 with
   | normal =>
    simp only [AJ] at hk2
    obtain ⟨r,hr,x',e1,hG'⟩:=Bk hk2
    obtain ⟨O5,h5⟩:=Cu hs2 hr
    obtain ⟨h6,h7,h8,h9,h10,h11⟩:=hend (rec .ready none) O5 _ _ a4 W4 h5 hnd4
    rw [e1] at h6 h10
    have hrl:(Obj.loop { { rec .ready none with state:=.busy } with state:=if (none:Option Code).isNone then .ready else .done,pending:=none })=.loop (rec .ready none):=by rw [hrec];rfl
    refine ⟨_,_,run_endRound none h7,true,by simp,?_,?_,?_⟩
    .rw [hrl];exact ⟨O5,x',h6,hG',h8,h10⟩
    .rw [hrl];exact h9
    .rw [hrl];exact h11
   | exit j =>
    simp only [AJ] at hk2
    obtain ⟨r,hr,hK2⟩:=Bk hk2
    obtain ⟨O5,h5⟩:=Cu hs2 hr
    obtain ⟨h6,h7,h8,h9,h10,h11⟩:=hend (rec .done (some (.exit j))) O5 _ _ a4 W4 h5 hnd4
    have hrl:(Obj.loop { { rec .ready none with state:=.busy } with state:=if (some (Code.exit j)).isNone then .ready else .done,pending:=some (.exit j) })=.loop (rec .done (some (.exit j))):=by rw [hrec];rfl
    refine ⟨_,_,run_endRound (some (.exit j)) h7,false,by simp,?_,?_,?_⟩
    .rw [hrl];exact ⟨O5,_,.exit j,.exit j,h6,⟨hK2,.inl ⟨j,rfl,rfl⟩⟩,h8,h10⟩
    .rw [hrl];exact h9
    .rw [hrl];exact h11
   | ret =>
    simp only [AJ] at hk2
    obtain ⟨r,hr,hK2⟩:=Bk hk2
    obtain ⟨O5,h5⟩:=Cu hs2 hr
    obtain ⟨h6,h7,h8,h9,h10,h11⟩:=hend (rec .done (some .ret)) O5 _ _ a4 W4 h5 hnd4
    have hrl:(Obj.loop { { rec .ready none with state:=.busy } with state:=if (some Code.ret).isNone then .ready else .done,pending:=some .ret })=.loop (rec .done (some .ret)):=by rw [hrec];rfl
    refine ⟨_,_,run_endRound (some .ret) h7,false,by simp,?_,?_,?_⟩
    .rw [hrl];exact ⟨O5,_,.ret,.ret,h6,⟨hK2,.inr ⟨rfl,rfl⟩⟩,h8,h10⟩
    .rw [hrl];exact h9
    .rw [hrl];exact h11
 ·-- behind the iterator
  rintro e W2 ⟨⟨v,rfl⟩,X,(⟨O2,x,hS,hGN,_,_⟩ | ⟨O2,bs,e,c,hS,⟨hKe,hc⟩,_,_⟩)⟩
  .have hl2:=(hS.defs.ob l _ (hobl _)).at_
   refine ⟨none,_,by have:=run_endLoop (P:=P) hl2 (by rw [hrec];simp);rw [hrec] at this;exact this,?_⟩
   have h3:=(hS.turnF (o':=.loop { rec .ready none with state:=.exhausted }) (hobl _) (by omega) hnl).lessOb (ob':=w0.ob) fun b o hb=>by
    have hbl:b≠l:=fun e=>by subst e;rw [hobn _ (by omega)] at hb;cases hb
    simp [hbl,hobo _ _ hbl,hb]
   have hKN:=hN x K hGN
   rw [<- hK] at hKN
   have:=hk .normal _ O2 _ _ h3 hKN
   rw [hrec] at this
   exact this
  .have hl2:=(hS.defs.ob l _ (hobl _)).at_
   have h3:=(hS.turnF (o':=.loop { rec .done (some c) with state:=.exhausted }) (hobl _) (by omega) hnl).lessOb (ob':=w0.ob) fun b o hb=>by
    have hbl:b≠l:=fun e=>by subst e;rw [hobn _ (by omega)] at hb;cases hb
    simp [hbl,hobo _ _ hbl,hb]
   rw [<- hK] at hKe
   have:=hk e _ O2 _ _ h3 hKe
   rw [hrec] at this
   refine ⟨some c,_,by have:=run_endLoop (P:=P) hl2 (by rw [hrec];simp);rw [hrec] at this;exact this,?_⟩
   rcases hc with ⟨j,rfl,rfl⟩ | ⟨rfl,rfl⟩
   .exact wpIn_exit this
   .exact wpIn_ret this
theorem P0{f:FuncId}{fn:Func}(hf:P.funcs[f]? = some fn)(hname:(fn.name == "runtime.NumGoroutine")=false)(hb:fn.body.isNone=false):∀ args w,(callFunc f args).run P w=.ok (.enter f args) w:=by
 intro args w
 simp only [callFunc,Sem.run_bind,run_program,Result.andThen_ok,hf,hname,Bool.false_eq_true,if_false,hb]
 rfl
def Ip:Code->Code
 | .rangeFunc _ _ a _=>a
 | _=>.skip
theorem Tn{ι τ:Type}{L:Tab}(hL:Cr P L)(hmix:P.follows .mixedOrders=true){Λ:Lam}{fuel:Nat}{c:Code}{id:Nat}(hΛ:Gq P c Λ){g:Operand}{ps:Array Tmp}(hc:Ad c id=.rangeFunc g ps (Ip (Ad c id)) (AU (Ad c id)))(ha:C6 (Ip (Ad c id))=[])(nA:Dr (Ip (Ad c id))=true)(nB:Dr (AU (Ad c id))=true){na ns nt nx:Nat}{Lh:List Nat}{gl:List GL}(hns:Nat.ble na ns=true)(hnx:Nat.ble ns nx=true){gf:Nat}(eg:∀ args w,(callFunc gf args).run P w=.ok (.enter gf args) w)(π:List Nat)(hπ:Bs π=true)(va caps caps':τ->List SV)(be:τ->List Blk)(N:τ->Nat)(y:τ->Nat->List SV)(ba:τ->ι->List Blk)(G:τ->Nat->ι->XR->Prop)(ok:τ->Bool)(hev:∀ t,ev (Aq na nt Lh (va t) nx (be t)) [] g=.fn gf (caps t))(hst:∀ t,SV.renL (fun k=>match Nat.blt k ns with | true=>some k | false=>none) (va t)=some (va t))(hcp:∀ t,SV.renL (idx π 0) (caps t)=some (caps' t))(hit:∀ t,ok t=true->Lm P gf (caps' t) (π.map (Ah (be t))) (N t) (y t))(hπk:∀ t j,j∈π->(Ah (be t) j).isUnk=false/\∀ (O:Env) (w:World) (m:Nm),(Ah (be t) j).ghost->False)(hπr:∀ t,∀ j∈π,(Ah (be t) j).ren (fun _=>none)=some (Ah (be t) j))(hy:∀ t k,(y t k).length=ps.size)(hs:∀ t k x K,k<N t->G t k x K->KS P L Λ fuel (Ip (Ad c id)) (AU (Ad c id)) (CZ (Aq ns nt Lh (va t) nx (ba t x)) ps.toList (y t k)) (AJ ns nt [] [] nx gl fun e _ bs=>match e with | .normal=>∃ x',bs=ba t x'/\G t (k+1) x' K | .exit j=>K (.exit j) [] bs | .ret=>K .ret [] bs))(hN:∀ t x K,G t (N t) x K->K .normal [] (ba t x)){gS:AX}(hg:∀ s k,gS s k->∃ t x,czv na nt Lh nx gl s=some (va t,be t)/\ba t x=MJ π (be t)/\ok t=true/\G t 0 x fun e _ bs=>AL id k e (Aq na nt Lh (va t) nx bs)):LOk P gS (.block id (Ad c id)):=by
 rw [hc]
 have hA:LOk P (AT P L Λ fuel (Ip (Ad c id))) (Ip (Ad c id)):=Cl hL hmix _ fun i b g h=>by rw [Gw,ha] at h;cases h
 have hB:LOk P (AT P L Λ fuel (AU (Ad c id))) (AU (Ad c id)):=Cl hL hmix _ (GU hΛ id)
 refine LZ (PV (U2 (ι:=ι) hA hB nA nB (na:=na) (ns:=ns) (nt:=nt) (nx:=nx) (Lh:=Lh) (gl:=gl) (by simpa using hns) (by simpa using hnx) eg π hπ (gS:=fun s k=>∃ t x,czv na nt Lh nx gl s=some (va t,be t)/\ba t x=MJ π (be t)/\ok t=true/\G t 0 x fun e _ bs=>k e (Aq na nt Lh (va t) nx bs)) ?_)) fun s k h=>hg s k h
 rintro s k ⟨t,x,h1,h0,hok,h2⟩
 exact ⟨va t,caps t,caps' t,be t,N t,y t,ba t,G t,x,h1,h0,hev t,hst t,hcp t,hit t hok,hπk t,hπr t,fun k _=>hy t k,fun k x K hk hG=>hs t k x K hk hG,fun x K h=>hN t x K h,h2⟩
end runs
end Go.Sy
namespace Go.Sy
open Go.RowKit
variable [AO]
section runs
variable {P:Program}
structure YC (P:Program) where
 l:Nat
 N:Nat
 y:Nat->List SV
 od:Od
 J:Option Nat->List Nat->World->Prop
 det:∀ k,k<N->N7 (y k)=true
 ab:∀ k X W1 W2,J k X W1->AR W1.heap.size X W1 W2->∀ Y:List Nat,(∀ b∈Y,W1.heap.size<=b/\b<W2.heap.size)->J k (Y ++ X) W2
 sl:∀ k X W1,J k X W1->Bj od W1/\Gs W1/\∀ b∈X,b<W1.heap.size/\(∀ o,od b o=none)/\od.m b=none
 rd:∀ k X W1,J (some k) X W1->k<N->∀ n,YieldAt Fence.wide n P l ⟨F1 (y k)⟩ W1 fun e W2=>∃ r,e=.returned (.bool r)/\J (bif r then some (k+1) else none) X W2/\(∀ b∈X,W2.heap[b]? = W1.heap[b]?)/\W1.heap.size<=W2.heap.size
structure OdX (od od':Od) (X:List Nat) (n:Nat):Prop where
 c:∀ b o v,od b o=some v->od' b o=some v\/b∈X
 m:∀ b v,od.m b=some v->od'.m b=some v\/b∈X
 p:od.p=od'.p
 nz:n≠0
def O6(s:A4)(O:Env)(w:World):BH:=⟨w,⟨fun i=>if i<s.na then O i else none,O.od,O.gl⟩,s.na,fun _=>none,some []⟩
def StJ(C:YC P)(k:Option Nat)(s:A4)(a:Act)(w:World):Prop :=
 ∃ O X,Ab w.heap.size X (O6 s O w) O s a w/\C.J k X w/\OdX O.od C.od X s.na
section
variable {C:YC P} {k:Option Nat} {s s':A4} {a a':Act} {w w':World}
theorem StJ.anew{O':Env}{X:List Nat}{b0:BH}(hJ:C.J k X w)(hdf:b0.df=some [])(hb:b0.w=w)(hod:OdX b0.O.od C.od X b0.n)(h:Ab w.heap.size X b0 O' s' a' w'):StJ C k s' a' w':=by
 have hk:=h.kept
 rw [hb] at hk
 have hdfs:=h.defs.same_ [] hdf
 refine ⟨O',(List.range' w.heap.size (w'.heap.size - w.heap.size)) ++ X,⟨⟨fun _ _ h=>(by cases h),fun d hd=>(by rw [hdfs] at hd;cases hd),h.defs.nd,fun d hd=>(by cases hd;exact hdfs)⟩,h.size,h.tmp,h.fresh,⟨fun i hi=>⟨fun m hm=>?_,(h.mem.at_ i hi).2⟩,h.mem.apart,h.mem.seal_,h.mem.free,h.mem.pv⟩,AR.refl _ _ _,Nat.le_refl _,⟨fun i m hm=>?_,AB.refl _⟩,fun i hi=>?_,fun i hi=>?_,rfl,?_,⟨fun _ _ _ h=>.inl h,fun _ _ h=>.inl h,rfl⟩,fun h0=>absurd (h.nab.symm.trans h0) hod.nz⟩,?_,⟨fun b o v hv=>?_,fun b v hv=>?_,h.odb.p.trans hod.p,by rw [h.nab];exact hod.nz⟩⟩
 .obtain ⟨g1,g2,g3⟩:=h.mem.get hi hm
  refine ⟨g1,g2,.inr (List.mem_append.2 ?_)⟩
  rcases g3 with g3 | g3
  .exact .inl (List.mem_range'_1.2 ⟨g3,by have:=hk.size;omega⟩)
  .exact .inr g3
 .simp only [O6] at hm
  split at hm
  .exact hm
  .cases hm
 .show (if i<s'.na then O' i else none)=none
  have hi':s'.na<=i:=hi
  rw [if_neg (by omega)]
 .show O' i=(if i<s'.na then O' i else none)
  have hi':i<s'.na:=hi
  rw [if_pos hi']
 .show s'.na<=s'.nx
  rw [h.nab];exact h.nale
 .exact C.ab k X w w' hJ hk _ fun b hb=>by
   have:=List.mem_range'_1.1 hb
   have:=hk.size
   omega
 .rcases h.odb b o v hv with h1 | h1
  .rcases hod.c b o v h1 with h2 | h2
   .exact .inl h2
   .exact .inr (List.mem_append.2 (.inr h2))
  .exact .inr (List.mem_append.2 (.inl (List.mem_range'_1.2 ⟨h1,by have:=h.mem.od_lt hv;have:=hk.size;omega⟩)))
 .rcases h.odb.m b v hv with h1 | h1
  .rcases hod.m b v h1 with h2 | h2
   .exact .inl h2
   .exact .inr (List.mem_append.2 (.inr h2))
  .exact .inr (List.mem_append.2 (.inl (List.mem_range'_1.2 ⟨h1,by have:=h.mem.seal_.m_lt hv;have:=hk.size;omega⟩)))
theorem StJ.same(h:StJ C k s a w)(f:∀ {B:Nat} {M:List Nat} {w0:BH} {O:Env},Ab B M w0 O s a w->∃ O',Ab B M w0 O' s' a' w'):StJ C k s' a' w':=by
 obtain ⟨O,X,hS,hJ,ho⟩:=h
 obtain ⟨O',hS'⟩:=f hS
 exact StJ.anew hJ rfl rfl ho hS'
end
theorem SJ{C:YC P}{g:AX}{c:Code}(hg:LOk P g c)(hn:Dr c=true){k:Option Nat}{s:A4}{a:Act}{w:World}(h:StJ C k s a w){κ:EZ}(hx:g s κ){Q:Exit->Act->World->Prop}{n:Nat}(hQ:∀ e s' a' w',StJ C k s' a' w'->κ e s'->Q e.toExit a' w'):c.wpIn Fence.wide n P Q a w:=by
 obtain ⟨O,X,hS,hJ,ho⟩:=h
 exact hg none n w.heap.size X (O6 s O w) s κ O a w Q (.inr hn) hS hx fun e s' O' a' w' hS' hk=>hQ e s' a' w' (StJ.anew hJ rfl rfl ho hS') hk
mutual
def Nn:SV->SV->Option (List Bool)
 | .int k n,.int k' n'=>if k=k' then some [decide (n=n')] else none
 | .bool a,.bool b=>some [decide (a=b)]
 | .str a,.str b=>some [decide (a=b)]
 | .agg l,.agg m=>Fq l m
 | _,_=>none
def Fq:List SV->List SV->Option (List Bool)
 | [],[]=>some []
 | v :: l,u :: m=>match Nn v u,Fq l m with
  | some x,some y=>some (x ++ y)
  | _,_=>none
 | _,_=>none
end
mutual
theorem Ph:∀ {v u:SV} {ns:List Bool},Nn v u=some ns->(∀ b∈ns,b=true)->v=u
 | v,u,ns,h,hn=>by
  cases v <;> cases u <;> simp only [Nn] at h <;> try (cases h;done)
  case int.int k n k' n' =>
   split at h <;> cases h
   rename_i e
   have:=hn _ (List.mem_singleton.2 rfl)
   simp only [decide_eq_true_eq] at this
   rw [e,this]
  case bool.bool a b=>cases h;have:=hn _ (List.mem_singleton.2 rfl);simp only [decide_eq_true_eq] at this;rw [this]
  case str.str a b=>cases h;have:=hn _ (List.mem_singleton.2 rfl);simp only [decide_eq_true_eq] at this;rw [this]
  case agg.agg l m=>rw [Hm h hn]
theorem Hm:∀ {l m:List SV} {ns:List Bool},Fq l m=some ns->(∀ b∈ns,b=true)->l=m
 | [],[],_,_,_=>rfl
 | v :: l,u :: m,ns,h,hn=>by
  simp only [Fq] at h
  split at h <;> cases h
  rename_i x y hx hy
  rw [Ph hx fun b hb=>hn b (List.mem_append.2 (.inl hb)),Hm hy fun b hb=>hn b (List.mem_append.2 (.inr hb))]
 | [],_ :: _,_,h,_=>by simp [Fq] at h
 | _ :: _,[],_,h,_=>by simp [Fq] at h
end
def OP(s:A4)(asm:Asm)(o:Oper):Option (Nat × List SV) :=
 match o.op with
 | .call c=>match c.callee with
  | .value f=>match ev s asm f with
   | .val v=>match v with
    | .func fn first cap=>match fn with
     | .yield l'=>match first.toList.isEmpty&&cap.toList.isEmpty with
      | true=>some (l',c.args.toList.map (ev s asm))
      | false=>none
     | _=>none
    | _=>none
   | _=>none
  | _=>none
 | _=>none
theorem Rw{C:YC P}{k:Nat}{s:A4}{a:Act}{w:World}(h:StJ C (some k) s a w){asm:Asm}(ha:Az asm a){o:Oper}{args:List SV}(hy:OP s asm o=some (C.l,args)){ns:List Bool}(hm:Fq args (C.y k)=some ns)(hn:∀ b∈ns,b=true)(hk:k<C.N){n:Nat}{K:Act->World->Prop}{Q:Exit->Act->World->Prop}(hK:∀ r w',StJ C (bif r then some (k+1) else none) s a w'->K (a.put o.dst (.bool r)) w'):o.wpIn Fence.wide n P a w K Q:=by
 obtain ⟨O,X,hS,hJ,ho⟩:=h
 unfold OP at hy
 split at hy <;> try (cases hy;done)
 rename_i c hc
 split at hy <;> try (cases hy;done)
 rename_i f hf
 split at hy <;> try (cases hy;done)
 rename_i v hv
 split at hy <;> try (cases hy;done)
 rename_i fn first cap
 split at hy <;> try (cases hy;done)
 rename_i l'
 split at hy <;> cases hy
 rename_i hb
 simp only [Bool.and_eq_true,List.isEmpty_iff] at hb
 obtain ⟨h1,h2⟩:=hb
 have hfv:=AF hS.tmDen ha f
 rw [hv] at hfv
 have hfv':a.eval f=.func (.yield C.l) #[] #[]:=by
  have:a.eval f=.func (.yield C.l) first cap:=hfv
  rw [this]
  congr 1 <;> (apply Array.toList_inj.1;simp [h1,h2])
 have hargs:=DZ hS.tmDen ha c.args.toList
 rw [Hm hm hn] at hargs
 have hxs:c.args.toList.map a.eval=F1 (C.y k):=(F9 (C.det k hk)).1 hargs
 obtain ⟨fn',tmps,assign,body,hyd,hR⟩:=C.rd k X w hJ hk (n - 1)
 refine ⟨fun _ _=>trivial,?_⟩
 have hrun:(execOp a.eval o).run P w=.ok (.round C.l fn' tmps assign body) w:=by
  have harr:c.args.map a.eval=⟨F1 (C.y k)⟩:=by
   apply Array.toList_inj.1
   simp only [Array.toList_map]
   exact hxs
  simp only [execOp,hc,resolve,hf,hfv',Deferred.ofValue,Sem.run_bind,Sem.run_pure,Result.andThen_ok,invoke]
  simpa [harr] using hyd
 rw [show Fence.wide.round=none from rfl,Oper.semAt_none,hrun]
 refine ⟨fun h=>(by cases h),hR.mono ?_⟩
 rintro e w' ⟨r,rfl,hJ',hX,hsz⟩
 refine hK r w' ⟨O,X,⟨⟨fun _ _ h=>(by cases h),fun d hd=>?_,hS.defs.nd,hS.defs.same_⟩,hS.size,hS.tmp,hS.fresh,⟨fun i hi=>⟨fun m hm=>?_,(hS.mem.at_ i hi).2⟩,hS.mem.apart,⟨fun b o v hv=>?_,fun b v hv=>?_,fun b i hp=>⟨(hS.mem.seal_.p b i hp).1,((C.sl _ _ _ hJ').1.p b i (by rw [<- ho.p];exact hp)).2⟩⟩,hS.mem.free,(C.sl _ _ _ hJ').2.1⟩,AR.refl _ _ _,Nat.le_refl _,hS.ext,hS.argn,hS.argl,hS.nab,hS.nale,⟨fun _ _ _ h=>.inl h,fun _ _ h=>.inl h,rfl⟩,hS.mz⟩,hJ',ho⟩
 .rw [hS.defs.same_ [] rfl] at hd;cases hd
 .obtain ⟨g1,g2,g3⟩:=hS.mem.get hi hm
  have hmX:m.blk∈X:=g3.elim (fun h=>by omega) id
  exact ⟨Nat.lt_of_lt_of_le g1 hsz,Blk.den_same g2 (hX _ hmX),.inr hmX⟩
 .rcases ho.c b o v hv with h1 | h1
  .exact (C.sl _ _ _ hJ').1 b o v h1
  .rw [World.cell?_of_block (w:=w) (hX b h1)]
   exact hS.mem.seal_ b o v hv
 .rcases ho.m b v hv with h1 | h1
  .exact (C.sl _ _ _ hJ').1.m b v h1
  .exact (hX b h1).trans (hS.mem.seal_.m b v hv)
abbrev HC:=XE->Option Nat->A4->Prop
abbrev Ij:=Option Nat->A4->HC->Prop
def yOk(q:Bool)(N:Nat)(y:Nat->List SV)(k:Nat)(args:List SV)(T:Prop):Prop :=
 match Fq args (y k) with
 | some ns=>Ay (q :: decide (k<N) :: ns) T
 | none=>False
def RY:List (Nat × Bool)->Nat->Option Bool
 | [],_=>none
 | p :: l,t=>match Nat.beq p.1 t with
  | true=>some p.2
  | false=>RY l t
def EK:List (Nat × Bool)->Option Nat->List (Nat × Bool)
 | l,none=>l
 | l,some d=>l.filter fun p=>!(Nat.beq p.1 d)
def A4.know(s:A4)(t:Nat)(b:Bool):A4:={ s with tm:=fun i=>if i=t then .bool b else s.tm i }
def Jo(s:A4)(dst:Option Nat)(t:Nat)(pol:Bool):A4:=s.put dst (.gd t pol (.bool true))
def SL(P:Program)(Γ:Gam)(s:A4)(asm:Asm)(o:Oper):Option Ez :=
 match xOp P Γ s s.nx asm o with
 | some r=>if r.fitsB s.mem s.nx then some ⟨o.dst,r.v.top,r.news,r.upds,r.need⟩ else none
 | none=>none
def JH(P:Program)(Γ:Gam)(l:Nat)(N:Nat)(y:Nat->List SV)(o:Oper)(asm:Asm)(kn:List (Nat × Bool))(k:Option Nat)(s:A4)(R:List (Nat × Bool)->Option Nat->A4->Prop):Prop :=
 match OP s asm o with
 | some (l',args)=>(match k with
  | some k=>yOk (decide (l'=l)) N y k args (R (EK kn o.dst) (some (k+1)) (s.put o.dst (.bool true))/\R (EK kn o.dst) none (s.put o.dst (.bool false)))
  | none=>False)
 | none=>(match SL P Γ s asm o with
  | some r=>Ay r.need (R (EK kn o.dst) k (s.step s.nx r))
  | none=>False)
def FC(P:Program)(Γ:Gam)(l:Nat)(N:Nat)(y:Nat->List SV)(ops:Array Oper):List Oper->List (Nat × Bool)->Option Nat->A4->(Option Nat->A4->Prop)->Prop
 | [],_,k,s,K=>K k s
 | o :: rest,kn,k,s,K=>match o.guard with
  | none=>JH P Γ l N y o [] kn k s fun kn k s=>FC P Γ l N y ops rest kn k s K
  | some (j,pol)=>match (ops[j]?).bind (·.dst) with
   | some t=>match RY kn t with
    | some v=>(match v == pol with
     | true=>JH P Γ l N y o [(t,v)] kn k s fun kn k s=>FC P Γ l N y ops rest kn k s K
     | false=>FC P Γ l N y ops rest (EK kn o.dst) k (Jo s o.dst t pol) K)
    | none=>match OP s (HF s.tm 12 t pol).1 o with
     | some _=>(match s.tm t,Nat.blt t s.nt with
      | .bool b,true=>cnd (match pol with | true=>b | false=>!b) (JH P Γ l N y o [(t,pol)] ((t,pol) :: kn) k (s.know t pol) fun kn k s=>FC P Γ l N y ops rest kn k s K) (FC P Γ l N y ops rest (EK ((t,!pol) :: kn) o.dst) k (Jo (s.know t (!pol)) o.dst t pol) K)
      | _,_=>False)
     | none=>(match Dn P Γ ops s s.nx o with
      | some r=>Ay r.need (FC P Γ l N y ops rest (EK kn o.dst) k (s.step s.nx r) K)
      | none=>False)
   | none=>False
def MS(kn:List (Nat × Bool))(a:Act):Prop:=∀ p∈kn,a.tmps[p.1]? = some (.bool p.2)
theorem RZ{kn:List (Nat × Bool)}{a:Act}(h:MS kn a){t:Nat}{v:Bool}(hv:RY kn t=some v):a.tmps[t]? = some (.bool v):=by
 induction kn with
 | nil=>cases hv
 | cons p l ih =>
  simp only [RY] at hv
  split at hv
  .rename_i e;rw [Nat.beq_eq] at e;subst e;cases hv;exact h p (by simp)
  .exact ih (fun q hq=>h q (aq _ hq)) hv
theorem MS.drop{kn:List (Nat × Bool)}{a:Act}(h:MS kn a)(dst:Option Nat)(x:Value):MS (EK kn dst) (a.put dst x):=by
 intro p hp
 cases dst with
 | none=>exact h p hp
 | some d =>
  simp only [EK,List.mem_filter,Bool.not_eq_true'] at hp
  rw [D7 a (some d) x p.1 fun d' hd' e=>by cases hd';have:=hp.2;rw [<- e] at this;simp at this]
  exact h p hp.1
section
variable {C:YC P} {k:Option Nat} {s:A4} {a:Act} {w:World}
theorem StJ.put(h:StJ C k s a w){dst:Option Nat}{v:SV}{x:Value}(hv:∀ O:Env,v.den O x)(hg:∀ t pol u,v≠.gd t pol u):StJ C k (s.put dst v) (a.put dst x) w:=by
 refine h.same (f:=fun {B M w0 O} hS=>⟨O,?_⟩)
 have hT:=hS.tmDen.put (Ext.refl O) (dst:=dst) (v:=v) (x:=x) fun d _=>H5 hg (hv O)
 have hsame:(s.put dst v).na=s.na/\(s.put dst v).nx=s.nx/\(s.put dst v).mem=s.mem:=by cases dst <;> exact ⟨rfl,rfl,rfl⟩
 exact ⟨by rw [B0,hsame.2.2];exact hS.defs,hT.size,hT.tmp,by rw [hsame.2.1];exact hS.fresh,by rw [hsame.2.2];exact hS.mem,hS.kept,hS.base,hS.ext,hS.argn,hS.argl,by rw [hsame.1];exact hS.nab,by rw [hsame.2.1];exact hS.nale,hS.odb,hS.mz⟩
theorem StJ.skip(h:StJ C k s a w){dst:Option Nat}{t:Nat}{pol:Bool}(ht:a.tmps[t]? = some (.bool (!pol))):StJ C k (Jo s dst t pol) (a.put dst undef) w:=by
 refine h.same (f:=fun {B M w0 O} hS=>⟨O,?_⟩)
 have hT:=hS.tmDen.put (Ext.refl O) (dst:=dst) (v:=.gd t pol (.bool true)) (x:=undef) fun d hd=>.inr ⟨fun e=>by
  subst hd
  by_cases hdt:d=t
  .subst hdt
   have:=Md e
   simp [undef] at this
  .rw [D7 a (some d) undef t (fun d' e'=>by cases e';exact hdt),ht] at e
   cases pol <;> simp at e,rfl⟩
 have hsame:(Jo s dst t pol).na=s.na/\(Jo s dst t pol).nx=s.nx/\(Jo s dst t pol).mem=s.mem:=by cases dst <;> exact ⟨rfl,rfl,rfl⟩
 exact ⟨by rw [B0,hsame.2.2];exact hS.defs,hT.size,hT.tmp,by rw [hsame.2.1];exact hS.fresh,by rw [hsame.2.2];exact hS.mem,hS.kept,hS.base,hS.ext,hS.argn,hS.argl,by rw [hsame.1];exact hS.nab,by rw [hsame.2.1];exact hS.nale,hS.odb,hS.mz⟩
theorem StJ.know(h:StJ C k s a w){t:Nat}{b:Bool}(ht:a.tmps[t]? = some (.bool b)):StJ C k (s.know t b) a w:=by
 refine h.same (f:=fun {B M w0 O} hS=>⟨O,⟨hS.defs,hS.size,fun i x hx=>?_,hS.fresh,hS.mem,hS.kept,hS.base,hS.ext,hS.argn,hS.argl,hS.nab,hS.nale,hS.odb,hS.mz⟩⟩)
 simp only [A4.know]
 split
 .rename_i e;subst e;rw [ht] at hx;cases hx;exact rfl
 .exact hS.tmp i x hx
end
theorem MP{Γ:Gam}(hΓ:DU P Γ){C:YC P}{ops:Array Oper}{n:Nat}{Q:Exit->Act->World->Prop}{K:Option Nat->A4->Prop}(hK:∀ k s a w,StJ C k s a w->K k s->Q .normal a w) :
  ∀ (l:List Oper) (kn:List (Nat × Bool)) (k:Option Nat) (s:A4) (a:Act) (w:World),MS kn a->StJ C k s a w->FC P Γ C.l C.N C.y ops l kn k s K->wpListIn Fence.wide n P ops Q l a w
 | [],kn,k,s,a,w,hkn,h,hx=>hK k s a w h hx
 | o :: rest,kn,k,s,a,w,hkn,h,hx=>by
  have ih:=fun kn k s a w=>MP hΓ hK (n:=n) (ops:=ops) rest kn k s a w
  -- where the operation is wanted
  have bare:∀ (asm:Asm) (kn:List (Nat × Bool)) (s:A4),Az asm a->MS kn a->StJ C k s a w->JH P Γ C.l C.N C.y o asm kn k s (fun kn k s=>FC P Γ C.l C.N C.y ops rest kn k s K)->o.wpIn Fence.wide n P a w (wpListIn Fence.wide n P ops Q rest) Q:=by
   intro asm kn s ha hkn h hx
   unfold JH at hx
   split at hx
   .rename_i l' args hy
    cases k with
    | none=>exact hx.elim
    | some k =>
     simp only [yOk] at hx
     split at hx
     .rename_i ns hm
      rw [Ac] at hx
      obtain ⟨hn,hx1,hx2⟩:=hx
      have hl:l'=C.l:=by have:=hn _ (List.mem_cons_self ..);simpa using this
      subst hl
      have hk:k<C.N:=by have:=hn _ (aq _ (List.mem_cons_self ..));simpa using this
      refine Rw h ha hy hm (fun b hb=>hn b (aq _ (aq _ hb))) hk fun r w' h'=>?_
      cases r with
      | true=>exact ih _ _ _ _ w' (hkn.drop _ _) (h'.put (v:=.bool true) (x:=.bool true) (fun _=>rfl) (by simp)) hx1
      | false=>exact ih _ _ _ _ w' (hkn.drop _ _) (h'.put (v:=.bool false) (x:=.bool false) (fun _=>rfl) (by simp)) hx2
     .exact hx.elim
   .split at hx <;> try exact hx.elim
    rename_i r hr
    rw [Ac] at hx
    obtain ⟨hn,hx⟩:=hx
    unfold SL at hr
    split at hr <;> try (cases hr;done)
    rename_i r0 hr0
    split at hr <;> cases hr
    rename_i hf
    obtain ⟨O,X,hS,hJ,ho⟩:=h
    refine Li (rd:=none) hΓ hr0 hn (Ej hf) hS.tmDen hS.mem hS.base ha (fun j _=>hS.fresh _ (by omega)) fun x w' O' hp=>?_
    refine ih _ _ _ _ w' (hkn.drop _ _) ?_ hx
    have hS':=hS.step (r:=⟨o.dst,r0.v.top,r0.news,r0.upds,r0.need⟩) (Ej (r:=⟨.any,_,_,[]⟩) hf) (x:=x) ⟨fun d _=>C9 hp.val,hp.any⟩
    exact StJ.anew hJ rfl rfl ho hS'
  -- where it is not
  have skip:∀ (kn:List (Nat × Bool)) (s:A4) (t:Nat) (pol:Bool),a.tmps[t]? = some (.bool (!pol))->MS kn a->StJ C k s a w->FC P Γ C.l C.N C.y ops rest (EK kn o.dst) k (Jo s o.dst t pol) K->(∀ f,o.about P w a.eval=some f->Fence.wide.fn f)/\wpListIn Fence.wide n P ops Q rest (a.put o.dst undef) w :=
   fun kn s t pol ht hkn h hx=>⟨fun _ _=>trivial,ih _ _ _ _ w (hkn.drop _ _) (h.skip ht) hx⟩
  unfold FC at hx
  unfold wpListIn
  split at hx
  .rename_i hg
   have hw:Region.wanted o (yielded ops a.tmps)=true:=by simp [Region.wanted,hg]
   rw [if_pos hw]
   exact bare [] kn s (Az.nil a) hkn h hx
  .rename_i j pol hg
   split at hx <;> try exact hx.elim
   rename_i t ht
   have hty:yielded ops a.tmps j=match a.tmps[t]? with | some (.bool b)=>some b | _=>none:=by
    unfold yielded
    rw [ht]
    rfl
   have hwant:∀ v,a.tmps[t]? = some (.bool v)->Region.wanted o (yielded ops a.tmps)=decide (v=pol):=fun v hv=>by
    simp only [Region.wanted,hg,hty,hv]
    cases v <;> cases pol <;> rfl
   split at hx
   .rename_i v hv
    have hav:=RZ hkn hv
    have hww:=hwant v hav
    split at hx
    .rename_i e
     rw [if_pos (by rw [hww];simpa using e)]
     exact bare _ kn s (Az.cons (Az.nil a) hav) hkn h hx
    .rename_i e
     rw [if_neg (by rw [hww];simpa using e)]
     have hvp:v=!pol:=by cases v <;> cases pol <;> simp_all
     exact skip kn s t pol (by rw [<- hvp];exact hav) hkn h hx
   .split at hx
    .split at hx <;> try exact hx.elim
     rename_i b hb hlt
     have hslot:a.tmps[t]? = some (.bool b):=by
      obtain ⟨O,X,hS,_,_⟩:=h
      have hl:t<a.tmps.size:=by rw [hS.size];simpa using hlt
      have:=hS.tmp t _ (Array.getElem?_eq_getElem hl)
      rw [hb] at this
      rw [Array.getElem?_eq_getElem hl]
      exact congrArg some this
     have hww:=hwant b hslot
     rw [DV] at hx
     by_cases hbp:b=pol
     .subst hbp
      rw [if_pos (by rw [hww];simp)]
      exact bare _ ((t,b) :: kn) (s.know t b) (Az.cons (Az.nil a) hslot) (fun p hp=>(List.mem_cons.1 hp).elim (fun e=>by subst e;exact hslot) (hkn p)) (h.know hslot) (hx.1 (by cases b <;> rfl))
     .have hbn:b=!pol:=by cases b <;> cases pol <;> simp_all
      subst hbn
      rw [if_neg (by rw [hww];simp)]
      exact skip ((t,!pol) :: kn) (s.know t (!pol)) t pol hslot (fun p hp=>(List.mem_cons.1 hp).elim (fun e=>by subst e;exact hslot) (hkn p)) (h.know hslot) (hx.2 (by cases pol <;> rfl))
    .split at hx <;> try exact hx.elim
     rename_i r hr
     rw [Ac] at hx
     obtain ⟨hn,hx⟩:=hx
     obtain ⟨hf,hd⟩:=EW hr
     obtain ⟨O,X,hS,hJ,ho⟩:=h
     have key:=Hb (rd:=none) (n:=n) hΓ hr hn hS.tmDen hS.mem hS.base (fun j _=>hS.fresh _ (by omega)) (K:=wpListIn Fence.wide n P ops Q rest) (Q:=Q) fun x w' O' hp=>by
      refine ih _ _ _ _ w' (hkn.drop _ _) ?_ hx
      have hS':=hS.step hf hp
      rw [<- hd]
      exact StJ.anew hJ rfl rfl ho hS'
     split
     .rename_i hw;rw [if_pos hw] at key;exact key
     .rename_i hw;rw [if_neg hw] at key;exact ⟨fun _ _=>trivial,key⟩
def Sc(κ:HC)(k:Option Nat)(e:XE)(s:A4):Prop:=match e with
 | .ret=>(match k with
  | none=>True
  | some k=>κ .ret (some k) s)
 | .normal=>κ .normal k s
 | .exit j=>κ (.exit j) k s
def LM:Code->Bool
 | .region _ ops _=>ops.toList.any fun o=>match o.op with
  | .call c=>(match c.callee with
   | .value f=>(match f with
    | .tmp _=>true
    | _=>false)
   | _=>false)
  | _=>false
 | .seq a b=>LM a||LM b
 | .cond _ a b=>LM a||LM b
 | .block _ a=>LM a
 | .loop a=>LM a
 | _=>false
abbrev MT:=Nat->Option Ij
def Eh(P:Program)(L:Tab)(Λ:Lam)(l N:Nat)(y:Nat->List SV)(ΛY:MT)(fuel:Nat):Code->Option Nat->A4->HC->Prop
 | .skip,k,s,κ=>κ .normal k s
 | .region id ops draw,k,s,κ=>match draw||!(LM (.region id ops draw)) with
  | true=>AT P L Λ fuel (.region id ops draw) s (Sc κ k)
  | false=>orL ((JZ (Nat.beq (fuel % 2) 1) L (M5 ops.toList)).map fun Γ=>FC P Γ l N y ops ops.toList [] k s (κ .normal))
 | .seq x z,k,s,κ=>Eh P L Λ l N y ΛY fuel x k s fun e k' s'=>match e with
  | .normal=>Eh P L Λ l N y ΛY fuel z k' s' κ
  | .exit id=>κ (.exit id) k' s'
  | .ret=>κ .ret k' s'
 | .cond c x z,k,s,κ=>match ev s [] c with
  | .bool b=>(match b with
   | true=>Eh P L Λ l N y ΛY fuel x k s κ
   | false=>Eh P L Λ l N y ΛY fuel z k s κ)
  | _=>False
 | .block id c,k,s,κ=>match ΛY id with
  | some g=>g k s κ
  | none=>match LM c||!(Dr c) with
   | false=>AT P L Λ fuel (.block id c) s (Sc κ k)
   | true=>Eh P L Λ l N y ΛY fuel c k s fun e k' s'=>match e with
    | .normal=>κ .normal k' s'
    | .exit j=>(match Nat.beq j id with
     | true=>κ .normal k' s'
     | false=>κ (.exit j) k' s')
    | .ret=>κ .ret k' s'
 | .exit id,k,s,κ=>κ (.exit id) k s
 | .ret,k,s,κ=>Sc κ k .ret s
 | _,_,_,_=>False
def Gp(C:YC P)(g:Ij)(c:Code):Prop:=∀ (n:Nat) (k:Option Nat) (s:A4) (κ:HC) (a:Act) (w:World) (Q:Exit->Act->World->Prop),StJ C k s a w->g k s κ->(∀ e k' s' a' w',StJ C k' s' a' w'->κ e k' s'->Q e.toExit a' w')->(∀ s' a' w',StJ C none s' a' w'->Q .ret a' w')->c.wpIn Fence.wide n P Q a w
theorem RN{C:YC P}{k:Option Nat}{s:A4}{a:Act}{w:World}(h:StJ C k s a w){c:Operand}{v:SV}(hv:ev s [] c=v):∃ O,v.den O (a.eval c):=by
 obtain ⟨O,X,hS,_,_⟩:=h
 exact ⟨O,by rw [<- hv];exact AF hS.tmDen (Az.nil a) c⟩
theorem LG{L:Tab}(hL:Cr P L)(hmix:P.follows .mixedOrders=true){Λ:Lam}{fuel:Nat}{C:YC P}{ΛY:MT}:∀ (c:Code),(∀ id b g,Bf c id b->Λ id=some g->LOk P g (.block id b))->(∀ id b g,Bf c id b->ΛY id=some g->Gp C g (.block id b))->Gp C (Eh P L Λ C.l C.N C.y ΛY fuel c) c:=by
 -- a SJ without a call of yield
 have pc:∀ (c:Code),(∀ id b g,Bf c id b->Λ id=some g->LOk P g (.block id b))->Dr c=true->∀ (n:Nat) (k:Option Nat) (s:A4) (κ:HC) (a:Act) (w:World) (Q:Exit->Act->World->Prop),StJ C k s a w->AT P L Λ fuel c s (Sc κ k)->(∀ e k' s' a' w',StJ C k' s' a' w'->κ e k' s'->Q e.toExit a' w')->(∀ s' a' w',StJ C none s' a' w'->Q .ret a' w')->c.wpIn Fence.wide n P Q a w:=by
  intro c hΛ hn n k s κ a w Q h hx hk hd
  refine SJ (Cl hL hmix c hΛ) hn h hx fun e s' a' w' h' hr=>?_
  cases e with
  | normal=>exact hk .normal k s' a' w' h' hr
  | exit j=>exact hk (.exit j) k s' a' w' h' hr
  | ret =>
   cases k with
   | none=>exact hd s' a' w' h'
   | some k=>exact hk .ret (some k) s' a' w' h' hr
 intro c
 induction c with
 | skip=>intro _ _ n k s κ a w Q h hx hk hd;exact wpIn_skip (hk .normal _ _ _ _ h hx)
 | region id ops draw =>
  intro hΛ _ n k s κ a w Q h hx hk hd
  simp only [Eh] at hx
  split at hx
  .exact pc _ hΛ rfl n k s κ a w Q h hx hk hd
  .rename_i hb
   simp only [Bool.or_eq_false_iff] at hb
   obtain ⟨p,hp,hx⟩:=KP hx
   obtain ⟨Γ,hΓ',rfl⟩:=List.mem_map.1 hp
   have hΓ:=Ik hL _ Γ hΓ'
   rw [hb.1]
   exact wpIn_region_list (MP hΓ (fun k s a w h hk'=>hk .normal k s a w h hk') ops.toList [] k s a w (fun p hp=>by cases hp) h hx)
 | seq x z ihx ihz =>
  intro hΛ hY n k s κ a w Q h hx hk hd
  refine wpIn_seq (ihx (fun id b g h=>hΛ id b g (.inl h)) (fun id b g h=>hY id b g (.inl h)) n k s _ a w _ h hx (fun e k' s' a' w' h' hk'=>?_) fun s' a' w' h'=>hd s' a' w' h')
  cases e with
  | normal=>exact ihz (fun id b g h=>hΛ id b g (.inr h)) (fun id b g h=>hY id b g (.inr h)) n k' s' κ a' w' Q h' hk' hk hd
  | exit id=>exact hk _ _ _ _ _ h' hk'
  | ret=>exact hk _ _ _ _ _ h' hk'
 | cond c x z ihx ihz =>
  intro hΛ hY n k s κ a w Q h hx hk hd
  simp only [Eh] at hx
  split at hx <;> try exact hx.elim
  rename_i b hb
  obtain ⟨O,hc⟩:=RN h hb
  have hc:a.eval c=.bool b:=hc
  cases b with
  | true=>exact wpIn_cond_true hc (ihx (fun id b g h=>hΛ id b g (.inl h)) (fun id b g h=>hY id b g (.inl h)) n k s κ a w Q h hx hk hd)
  | false=>exact wpIn_cond_false hc (ihz (fun id b g h=>hΛ id b g (.inr h)) (fun id b g h=>hY id b g (.inr h)) n k s κ a w Q h hx hk hd)
 | block id c ih =>
  intro hΛ hY n k s κ a w Q h hx hk hd
  simp only [Eh] at hx
  split at hx
  .rename_i g hg
   exact hY id c g (.inl ⟨rfl,rfl⟩) hg n k s κ a w Q h hx hk hd
  .split at hx
   .rename_i hb
    simp only [Bool.or_eq_false_iff,Bool.not_eq_false'] at hb
    exact pc _ hΛ hb.2 n k s κ a w Q h hx hk hd
   .refine wpIn_block (ih (fun id b g h=>hΛ id b g (.inr h)) (fun id b g h=>hY id b g (.inr h)) n k s _ a w _ h hx (fun e k' s' a' w' h' hk'=>?_) fun s' a' w' h'=>hd s' a' w' h')
    cases e with
    | normal=>exact hk .normal _ _ _ _ h' hk'
    | exit j =>
     show Exit.inBlock id Q (.exit j) a' w'
     simp only [Exit.inBlock]
     simp only at hk'
     split at hk'
     .rename_i hj;rw [Nat.beq_eq] at hj;rw [if_pos hj];exact hk .normal _ _ _ _ h' hk'
     .rename_i hj;rw [if_neg (Nat.ne_of_beq_eq_false hj)];exact hk (.exit j) _ _ _ _ h' hk'
    | ret=>exact hk .ret _ _ _ _ h' hk'
 | loop c ih=>intro _ _ n k s κ a w Q h hx hk hd;exact hx.elim
 | exit id=>intro _ _ n k s κ a w Q h hx hk hd;exact wpIn_exit (hk (.exit id) _ _ _ _ h hx)
 | ret =>
  intro _ _ n k s κ a w Q h hx hk hd
  refine wpIn_ret ?_
  cases k with
  | none=>exact hd s a w h
  | some k=>exact hk .ret (some k) s a w h hx
 | rangeFunc f ps x z _ _=>intro _ _ n k s κ a w Q h hx hk hd;exact hx.elim
 | scope c _=>intro _ _ n k s κ a w Q h hx hk hd;exact hx.elim
 | label l=>intro _ _ n k s κ a w Q h hx hk hd;exact hx.elim
 | goto l=>intro _ _ n k s κ a w Q h hx hk hd;exact hx.elim
 | refuse z=>intro _ _ n k s κ a w Q h hx hk hd;exact hx.elim
def Tb(v:Value)(l:Nat):Bool:=match v with
 | .func fn f c=>(match fn with
  | .yield l'=>f.toList.isEmpty&&(c.toList.isEmpty&&decide (l'=l))
  | _=>false)
 | _=>false
theorem RT{v:Value}{l:Nat}(h:Tb v l=true):v=.func (.yield l) #[] #[]:=by
 unfold Tb at h
 split at h <;> try (cases h;done)
 rename_i fn f c
 split at h <;> try (cases h;done)
 simp only [Bool.and_eq_true,List.isEmpty_iff,decide_eq_true_eq] at h
 obtain ⟨h1,h2,rfl⟩:=h
 congr 1 <;> (apply Array.toList_inj.1;simp [h1,h2])
abbrev XRY:=XE->Nat->List SV->List Blk->Prop
def FE(na nt:Nat)(Lh Le:List Nat)(nx:Nat)(gl:List GL)(R:XRY):HC:=fun e k s=>match k with
 | none=>False
 | some k=>match e with
  | .normal=>cz na nt Lh nx gl s (R .normal k)
  | .exit j=>cz na nt Le nx gl s (R (.exit j) k)
  | .ret=>cz na nt Le nx gl s (R .ret k)
theorem StJ.cz{C:YC P}{k:Option Nat}{s:A4}{a:Act}{w:World}(h:StJ C k s a w){na nt nx:Nat}{L:List Nat}{gl:List GL}{r:List SV × List Blk}(hr:czv na nt L nx gl s=some r):StJ C k (Aq na nt L r.1 nx r.2) a w:=h.same (fun hS=>Cu hS hr)
theorem QE{ι:Type}{C:YC P}{c:Code}{f0:Ij}(hf:Gp C f0 c){na nt nx:Nat}{Lh Le:List Nat}{gl:List GL}(G:Nat->ι->XRY->Prop)(ka:ι->Nat)(va:ι->List SV)(ba:ι->List Blk)(h0:∀ x K,¬ G 0 x K)(hs:∀ f x K,G (f+1) x K->f0 (some (ka x)) (Aq na nt Lh (va x) nx (ba x)) (FE na nt Lh Le nx gl fun e k vs bs=>match e with | .normal=>∃ y,vs=va y/\bs=ba y/\k=ka y/\G f y K | .exit j=>K (.exit j) k vs bs | .ret=>K .ret k vs bs)) :
  Gp C (fun k s κ=>∃ f x,k=some (ka x)/\czv na nt Lh nx gl s=some (va x,ba x)/\G f x fun e k vs bs=>κ e (some k) (Aq na nt Le vs nx bs)) (.loop c):=by
 rintro n k s κ a w Q h ⟨f,x,rfl,hr,hG⟩ hk hd
 have h1:=h.cz hr
 clear hr h
 have key:∀ (f:Nat) (x:ι) (a:Act) (w:World),StJ C (some (ka x)) (Aq na nt Lh (va x) nx (ba x)) a w->(G f x fun e k vs bs=>κ e (some k) (Aq na nt Le vs nx bs))->Code.roundsIn Fence.wide n P c Q f a w:=by
  intro f
  induction f with
  | zero=>intro x a w _ hG;exact (h0 x _ hG).elim
  | succ f ih =>
   intro x a w h hG
   rw [roundsIn_succ]
   refine hf n _ _ _ a w _ h (hs f x _ hG) (fun e k' s' a' w' h' hk'=>?_) fun s' a' w' h'=>hd s' a' w' h'
   cases k' with
   | none=>exact hk'.elim
   | some k' =>
    cases e with
    | normal =>
     simp only [FE] at hk'
     obtain ⟨r,hr,y,e1,e2,rfl,hG'⟩:=Bk hk'
     have h2:=h'.cz hr
     rw [e1,e2] at h2
     exact ih y a' w' h2 hG'
    | exit j =>
     simp only [FE] at hk'
     obtain ⟨r,hr,hK⟩:=Bk hk'
     exact hk (.exit j) _ _ a' w' (h'.cz hr) hK
    | ret =>
     simp only [FE] at hk'
     obtain ⟨r,hr,hK⟩:=Bk hk'
     exact hk .ret _ _ a' w' (h'.cz hr) hK
 exact wpIn_loop_rounds f (key f x a w h1 hG)
def KH(id:Nat)(κ:HC):HC:=fun e k s=>match e with
 | .normal=>κ .normal k s
 | .exit j=>match Nat.beq j id with
  | true=>κ .normal k s
  | false=>κ (.exit j) k s
 | .ret=>κ .ret k s
theorem RA{C:YC P}{g:Ij}{c:Code}{id:Nat}(hg:Gp C g c):Gp C (fun k s κ=>g k s (KH id κ)) (.block id c):=by
 intro n k s κ a w Q h hx hk hd
 refine wpIn_block (hg n k s _ a w _ h hx (fun e k' s' a' w' h' hk'=>?_) fun s' a' w' h'=>hd s' a' w' h')
 cases e with
 | normal=>exact hk .normal _ _ _ _ h' hk'
 | exit j =>
  show Exit.inBlock id Q (.exit j) a' w'
  simp only [Exit.inBlock]
  simp only [KH] at hk'
  split at hk'
  .rename_i hj;rw [Nat.beq_eq] at hj;rw [if_pos hj];exact hk .normal _ _ _ _ h' hk'
  .rename_i hj;rw [if_neg (Nat.ne_of_beq_eq_false hj)];exact hk (.exit j) _ _ _ _ h' hk'
 | ret=>exact hk .ret _ _ _ _ h' hk'
def LV:List (Nat × Ij)->MT
 | [],_=>none
 | p :: l,f=>match Nat.beq p.1 f with
  | true=>some p.2
  | false=>LV l f
def Hc(C:YC P)(c:Code)(ΛY:MT):Prop:=∀ id b g,Bf c id b->ΛY id=some g->Gp C g (.block id b)
theorem Qw{C:YC P}{c:Code}{Λ:MT}(h:Hc C c Λ)(j:Nat):Hc C (AU (Ad c j)) Λ:=by
 intro id b g hb hg
 refine h id b g ?_ hg
 rw [Gw] at hb ⊢
 unfold Ad at hb
 rcases Hk (l:=C6 c) (id:=j) with e | e
 .rw [e] at hb;simp [AU,C6] at hb
 .refine Ir e ?_
  generalize GW (C6 c) j=d at hb
  cases d <;> simp [AU,C6] at hb ⊢
  all_goals exact hb
theorem S0{C:YC P}{c:Code}(hn:Bs ((C6 c).map (·.1))=true){l:List (Nat × Ij)}(hl:∀ p∈l,Gp C p.2 (.block p.1 (Ad c p.1))):Hc C c (LV l):=by
 intro id b g hb hg
 rw [Gw] at hb
 have e:=J3 hn hb
 clear hb
 induction l with
 | nil=>cases hg
 | cons p l ih =>
  simp only [LV] at hg
  split at hg
  .rename_i h
   rw [Nat.beq_eq] at h
   cases hg
   have:=hl p (by simp)
   unfold Ad at this
   rw [h,e] at this
   exact this
  .exact ih (fun q hq=>hl q (aq _ hq)) hg
theorem Tk{C:YC P}{c:Code}:Hc C c (LV []):=fun _ _ _ _ h=>by cases h
theorem Pa{C:YC P}{c:Code}:∀ p∈([]:List (Nat × Ij)),Gp C p.2 (.block p.1 (Ad c p.1)):=fun _ h=>by cases h
theorem Nk{C:YC P}{c:Code}{id:Nat}{g:Ij}{l:List (Nat × Ij)}(h:Gp C g (.block id (Ad c id)))(hl:∀ p∈l,Gp C p.2 (.block p.1 (Ad c p.1))):∀ p∈(id,g) :: l,Gp C p.2 (.block p.1 (Ad c p.1)):=by
 intro p hp
 rcases List.mem_cons.1 hp with rfl | hp
 .exact h
 .exact hl p hp
theorem Pe{ι:Type}{L:Tab}(hL:Cr P L)(hmix:P.follows .mixedOrders=true){Λ:Lam}{fuel:Nat}{c:Code}{id:Nat}(hΛ:Gq P c Λ){C:YC P}{ΛY:MT}(hY:Hc C c ΛY)(hc:Ad c id=.loop (AU (Ad c id))){na nt nx:Nat}{Lh Le:List Nat}{gl:List GL}(G:Nat->ι->XRY->Prop)(ka:ι->Nat)(va:ι->List SV)(ba:ι->List Blk)(h0:∀ x K,¬ G 0 x K)(hs:∀ f x K,G (f+1) x K->Eh P L Λ C.l C.N C.y ΛY fuel (AU (Ad c id)) (some (ka x)) (Aq na nt Lh (va x) nx (ba x)) (FE na nt Lh Le nx gl fun e k vs bs=>match e with | .normal=>∃ y,vs=va y/\bs=ba y/\k=ka y/\G f y K | .exit j=>K (.exit j) k vs bs | .ret=>K .ret k vs bs)){g:Ij}(hg:∀ k s κ,g k s κ->∃ f x,k=some (ka x)/\czv na nt Lh nx gl s=some (va x,ba x)/\G f x fun e k vs bs=>KH id κ e (some k) (Aq na nt Le vs nx bs)) :
  Gp C g (.block id (Ad c id)):=by
 rw [hc]
 have:=RA (id:=id) (QE (gl:=gl) (LG hL hmix (C:=C) (ΛY:=ΛY) (fuel:=fuel) _ (GU hΛ id) (Qw hY id)) G ka va ba h0 hs)
 intro n k s κ a w Q h hx hk hd
 exact this n k s κ a w Q h (hg k s κ hx) hk hd
theorem RV{L:Tab}(hL:Cr P L)(hmix:P.follows .mixedOrders=true){Λ:Lam}(fuel:Nat){f:FuncId}{fn:Func}{c:Code}(hf:P.funcs[f]? = some fn)(hb:fn.body=some c)(hΛ:Gq P c Λ)(hres:fn.results.toList=[]){ΛY:Nat->MT}{caps:List SV}{bs:List Blk}{N:Nat}{y:Nat->List SV}(hdet:∀ k,k<N->N7 (y k)=true)(hY:∀ C:YC P,C.N=N->C.y=y->Hc C c (ΛY C.l))(h:∀ l,Eh P L Λ l N y (ΛY l) fuel c (some 0) (Cb fn.ntmps (.val (.func (.yield l) #[] #[]) :: caps) bs.length (Ah bs)) fun e k s=>match e with | .exit _=>False | _=>k=some N)(hz:0<bs.length:=by exact Nat.zero_lt_succ _):Lm P f caps bs N y:=by
 refine ⟨hdet,fun O xs W X hcaps hM hfr l J hab hsl hrd h0=>?_⟩
 let C:YC P:={ l:=l,N:=N,y:=y,od:=O.od,J:=J,det:=hdet,ab:=hab,sl:=hsl,rd:=hrd }
 have hargs:SV.denL O (.val (.func (.yield l) #[] #[]) :: caps) (.func (.yield l) #[] #[] :: xs):=⟨rfl,hcaps⟩
 have hlen:=Ax hargs
 have harr:(#[Value.func (.yield l) #[] #[]] ++ (⟨xs⟩:Array Value))=⟨Value.func (.yield l) #[] #[] :: xs⟩:=by apply Array.toList_inj.1;simp
 rw [harr]
 refine (callsIn_wide (n:=0)).1 (callsIn_of_wp (F:=Fence.wide) hf hb trivial (LG hL hmix (C:=C) (ΛY:=ΛY l) (fuel:=fuel) c hΛ (hY C rfl rfl) 0 (some 0) _ _ _ W _ ?_ (h l) (fun e k' s' a' w' hs hk=>?_) fun s' a' w' hs=>?_))
 .refine ⟨O,X,⟨⟨fun _ _ h=>(by cases h),fun d hd=>(by cases hd),List.nodup_nil,fun d hd=>(by cases hd;rfl)⟩,?_,fun i x hx=>?_,hfr,hM,AR.refl _ _ _,Nat.le_refl _,⟨fun i m hm=>?_,AB.refl _⟩,fun i hi=>?_,fun i hi=>?_,rfl,Nat.le_refl _,⟨fun _ _ _ h=>.inl h,fun _ _ h=>.inl h,rfl⟩,fun h0=>absurd h0 (Nat.ne_of_gt hz)⟩,h0,⟨fun _ _ _ h=>.inl h,fun _ _ h=>.inl h,rfl,Nat.ne_of_gt hz⟩⟩
  .simp only [Cb]
   rw [<- hlen]
   simp
  .simp only [Cb]
   cases ha:(SV.val (.func (.yield l) #[] #[]) :: caps)[i]? with
   | none=>trivial
   | some v =>
    obtain ⟨y,hy,hd⟩:=AP hargs ha
    have hi:i<(Value.func (.yield l) #[] #[] :: xs).length:=(List.getElem?_eq_some_iff.1 hy).1
    simp only [Array.getElem?_append] at hx
    rw [if_pos (by simpa using hi)] at hx
    have hxy:x=y:=by
     have:(Value.func (.yield l) #[] #[] :: xs)[i]? = some x:=by simpa using hx
     rw [this] at hy;cases hy;rfl
    rw [hxy]
    exact C9 hd
  .simp only [O6] at hm
   split at hm
   .exact hm
   .cases hm
  .show (if i<bs.length then O i else none)=none
   have hi':bs.length<=i:=hi
   rw [if_neg (by omega)]
  .show O i=(if i<bs.length then O i else none)
   have hi':i<bs.length:=hi
   rw [if_pos hi']
 .obtain ⟨O',X',hS,hJ,_⟩:=hs
  have key:k'=some N->bodyPost P fn (fun e W'=>(∃ v,e=.returned v)/\∃ X,J (some N) X W'\/J none X W') .ret a' w':=fun hkN=>by
   obtain ⟨x,hx,_⟩:=E3 hS fn [] [] (by rw [hres];rfl) (fun _ h=>by cases h)
   exact ⟨hS.defs.same_ [] rfl,x,hx,⟨x,rfl⟩,X',.inl (by rw [<- hkN];exact hJ)⟩
  cases e with
  | exit j=>exact hk.elim
  | normal=>exact key hk
  | ret=>exact key hk
 .obtain ⟨O',X',hS,hJ,_⟩:=hs
  obtain ⟨x,hx,_⟩:=E3 hS fn [] [] (by rw [hres];rfl) (fun _ h=>by cases h)
  exact ⟨hS.defs.same_ [] rfl,x,hx,⟨x,rfl⟩,X',.inr hJ⟩
end runs
end Go.Sy
namespace Go.Sy
open Go.RowKit
variable [AO]
section runs
variable {P:Program}
end runs
end Go.Sy
namespace Go.Sy
open Go.RowKit Go.ChangeMaps
variable [AO]
section runs
variable {P:Program} {rd:Option Nat} {n:Nat}
theorem Ab.turn{B:Nat}{M:List Nat}{w0:BH}{O:Env}{s:A4}{a:Act}{w w':World}(h:Ab B M w0 O s a w){r:Nat}(hB:B<=r)(hr:w.heap[r]? = none\/∃ b s n c,w.heap[r]? = some (.mapIter b s n c))(hob:w0.ob r=none)(keep:∀ b,b<w.heap.size->b≠r->w'.heap[b]? = w.heap[b]?)(hsz:w.heap.size<=w'.heap.size)(hos:w'.os=w.os)(htp:w'.tape=w.tape)(hout:w'.output=w.output):Ab B M w0 O s a w':=by
 have ne:∀ {b:Nat} {o:Obj},w.heap[b]? = some o->(∀ b s n c,o≠.mapIter b s n c)->b≠r:=fun {b o} hb ho e=>by
  subst e
  rcases hr with hr | ⟨b',s',n',c',hr⟩
  .rw [hr] at hb;cases hb
  .rw [hr] at hb;cases hb;exact ho _ _ _ _ rfl
 have lt:∀ {b:Nat} {o:Obj},w.heap[b]? = some o->b<w.heap.size:=fun hb=>(Array.getElem?_eq_some_iff.1 hb).1
 have kp:∀ {b:Nat} {o:Obj},w.heap[b]? = some o->(∀ b s n c,o≠.mapIter b s n c)->w'.heap[b]? = w.heap[b]?:=fun hb ho=>keep _ (lt hb) (ne hb ho)
 have kc:∀ {b o:Nat} {v:Value},w.cell? ⟨b,o,none⟩=some v->w'.heap[b]? = w.heap[b]?:=fun {b o v} hv=>by
  unfold World.cell? at hv
  split at hv
  .rename_i c e z hc
   exact kp hc (by simp)
  .cases hv
 refine ⟨⟨fun b o hb=>?_,fun d hd=>?_,h.defs.nd,h.defs.same_⟩,h.size,h.tmp,h.fresh,⟨fun i hi=>⟨fun m hm=>?_,(h.mem.at_ i hi).2⟩,h.mem.apart,⟨fun b o v hv=>?_,fun b v hv=>?_,fun b i hp=>?_⟩,h.mem.free,Gs.keep h.mem.pv O.gl (fun b o v hv=>kc (h.mem.seal_ b o v hv)) (fun b v hv=>kp (h.mem.seal_.m b v hv) (by simp))⟩,⟨hos.trans h.kept.os,htp.trans h.kept.tape,hout.trans h.kept.output,Nat.le_trans h.kept.size hsz,fun k hk hM=>?_⟩,Nat.le_trans h.base hsz,h.ext,h.argn,h.argl,h.nab,h.nale,h.odb,h.mz⟩
 .have g:=h.defs.ob b o hb
  have hbr:b≠r:=fun e=>by rw [e,hob] at hb;cases hb
  exact ⟨(keep b g.lt hbr).trans g.at_,g.off,g.nod,g.nom⟩
 .obtain ⟨D,e,hBD,g⟩:=h.defs.at_ d hd
  exact ⟨D,e,hBD,(kp g.at_ (by simp)).trans g.at_,g.off,g.nod,g.nom⟩
 .obtain ⟨g1,g2,g3⟩:=h.mem.get hi hm
  obtain ⟨c,e,hc⟩:=Blk.den_cells g2 hi
  exact ⟨by omega,Blk.den_same g2 (kp hc (by simp)),g3⟩
 .have hv':=h.mem.seal_ b o v hv
  rw [World.cell?_of_block (w:=w) (kc hv')]
  exact hv'
 .have hv':=h.mem.seal_.m b v hv
  exact (kp hv' (by simp)).trans hv'
 .obtain ⟨hv,c,t,hc⟩:=h.mem.seal_.p b i hp
  exact ⟨hv,c,t,(kp hc (by simp)).trans hc⟩
 .by_cases hlt:k<w.heap.size
  .exact (keep k hlt (by omega)).trans (h.kept.block k hk hM)
  .have:=h.base;omega
theorem Tm(s:A4)(dst:Option Nat)(v:SV):(s.put dst v).nx=s.nx/\(s.put dst v).mem=s.mem/\(s.put dst v).na=s.na:=by
 cases dst <;> exact ⟨rfl,rfl,rfl⟩
theorem Ab.putv{B:Nat}{M:List Nat}{w0:BH}{O:Env}{s:A4}{a:Act}{w:World}(h:Ab B M w0 O s a w){dst:Option Nat}{v:SV}{x:Value}(hv:v.den O x)(hg:∀ t pol u,v≠.gd t pol u):Ab B M w0 O (s.put dst v) (a.put dst x) w:=by
 have hT:=h.tmDen.put (Ext.refl O) (v:=v) (dst:=dst) (x:=x) fun d _=>H5 hg hv
 obtain ⟨e1,e2,e3⟩:=Tm s dst v
 exact ⟨by rw [B0,e2];exact h.defs,hT.size,hT.tmp,by rw [e1];exact h.fresh,by rw [e2];exact h.mem,h.kept,h.base,h.ext,h.argn,h.argl,e3.trans h.nab,by rw [e1];exact h.nale,h.odb,h.mz⟩
theorem Ai{ops:Array Oper}{o:Oper}{rest:List Oper}{a:Act}{w w':World}{x:Value}{Q:Exit->Act->World->Prop}(hg:o.guard=none)(h:(execOp a.eval o).run P w=.ok (.value x) w')(hk:wpListIn (FW rd) n P ops Q rest (a.put o.dst x) w')(hd:∀ c,o.op≠.defer c:=by intro c e;cases e):wpListIn (FW rd) n P ops Q (o :: rest) a w :=
 Dd (by rw [if_pos (by simp [Region.wanted,hg])];exact A8 h hk hd)
theorem Rr{ops:Array Oper}{o:Oper}{rest:List Oper}{a:Act}{w w':World}{Q:Exit->Act->World->Prop}(hg:o.guard=none)(h:(execOp a.eval o).run P w=.ok .skip w')(hk:wpListIn (FW rd) n P ops Q rest (a.put o.dst undef) w')(hd:∀ c,o.op≠.defer c:=by intro c e;cases e):wpListIn (FW rd) n P ops Q (o :: rest) a w :=
 Dd (by rw [if_pos (by simp [Region.wanted,hg])];exact DR h hk hd)
theorem LH{L:Tab}(hL:Cr P L)(hmix:P.follows .mixedOrders=true){fuel:Nat}{c:Code}{s:A4}{na nt nx:Nat}{Lh:List Nat}{gl:List GL}{vs:List SV}{bs:List Blk}(y:AT P L (fun _=>none) fuel c s (AJ na nt Lh [] nx gl fun e v b=>e=.normal/\v=vs/\b=bs)){B:Nat}{M:List Nat}{w0:BH}{O:Env}{a:Act}{w:World}{Q:Exit->Act->World->Prop}(hr:De rd w0.df c)(h:Ab B M w0 O s a w)(hk:∀ O' a' w',Ab B M w0 O' (Aq na nt Lh vs nx bs) a' w'->Q .normal a' w'):c.wpIn (FW rd) n P Q a w:=by
 refine Cl hL hmix c (fun id b g _ hg=>by cases hg) rd n B M w0 s _ O a w Q hr h y fun e s' O' a' w' hs hz=>?_
 cases e with
 | normal =>
  have hz:cz na nt Lh nx gl s' fun v b=>XE.normal=XE.normal/\v=vs/\b=bs:=hz
  obtain ⟨r,hr,_,e1,e2⟩:=Bk hz
  obtain ⟨O2,h2⟩:=Cu hs hr
  rw [e1,e2] at h2
  exact hk O2 a' w' h2
 | exit j =>
  have hz:cz na nt [] nx gl s' fun v b=>XE.exit j=XE.normal/\v=vs/\b=bs:=hz
  obtain ⟨r,hr,e1,_⟩:=Bk hz
  cases e1
 | ret =>
  have hz:cz na nt [] nx gl s' fun v b=>XE.ret=XE.normal/\v=vs/\b=bs:=hz
  obtain ⟨r,hr,e1,_⟩:=Bk hz
  cases e1
theorem Ab.rebase{B:Nat}{M:List Nat}{wb:World}{O0 O:Env}{ob:Nat->Option Obj}{df:Option (List Deferred)}{s:A4}{a:Act}{w:World}(h:Ab B M ⟨wb,O0,0,ob,df⟩ O s a w)(h0:s.nx=0):Ab B M ⟨wb,O,0,ob,df⟩ O s a w :=
 ⟨h.defs,h.size,h.tmp,h.fresh,h.mem,h.kept,h.base,Ext.refl _,fun i _=>h.fresh i (by omega),fun i hi=>absurd hi (Nat.not_lt_zero i),h.nab,Nat.zero_le _,⟨fun _ _ _ h=>.inl h,fun _ _ h=>.inl h,rfl⟩,h.mz⟩
theorem Ab.unbase{B:Nat}{M:List Nat}{wb:World}{O0 O1 O:Env}{ob:Nat->Option Obj}{df:Option (List Deferred)}{s:A4}{a:Act}{w:World}(he:Ext O0 O1)(ho:OdB O0.od O1.od B)(hz:∀ i,O0 i=none)(h:Ab B M ⟨wb,O1,0,ob,df⟩ O s a w):Ab B M ⟨wb,O0,0,ob,df⟩ O s a w :=
 ⟨h.defs,h.size,h.tmp,h.fresh,h.mem,h.kept,h.base,he.trans h.ext,fun i _=>hz i,fun i hi=>absurd hi (Nat.not_lt_zero i),h.nab,Nat.zero_le _,
  ⟨fun b o v hv=>(h.odb.c b o v hv).elim (fun h1=>ho.c b o v h1) .inr,fun b v hv=>(h.odb.m b v hv).elim (fun h1=>ho.m b v h1) .inr,h.odb.p.trans ho.p⟩,h.mz⟩
theorem Cw{L:Tab}(hL:Cr P L)(hmix:P.follows .mixedOrders=true){fuel:Nat}{c:Code}{s:A4}{na nt nx:Nat}{Lh:List Nat}{gl:List GL}{R:List SV->List Blk->Prop}(y:AT P L (fun _=>none) fuel c s (AJ na nt Lh [] nx gl fun e v b=>e=.normal/\R v b)){B:Nat}{M:List Nat}{w0:BH}{O:Env}{a:Act}{w:World}{Q:Exit->Act->World->Prop}(hr:De rd w0.df c)(h:Ab B M w0 O s a w)(hk:∀ vs bs O' a' w',R vs bs->Ab B M w0 O' (Aq na nt Lh vs nx bs) a' w'->Q .normal a' w'):c.wpIn (FW rd) n P Q a w:=by
 refine Cl hL hmix c (fun id b g _ hg=>by cases hg) rd n B M w0 s _ O a w Q hr h y fun e s' O' a' w' hs hz=>?_
 cases e with
 | normal =>
  have hz:cz na nt Lh nx gl s' fun v b=>XE.normal=XE.normal/\R v b:=hz
  obtain ⟨r,hr,_,e1⟩:=Bk hz
  obtain ⟨O2,h2⟩:=Cu hs hr
  exact hk _ _ O2 a' w' e1 h2
 | exit j =>
  have hz:cz na nt [] nx gl s' fun v b=>XE.exit j=XE.normal/\R v b:=hz
  obtain ⟨r,hr,e1,_⟩:=Bk hz
  cases e1
 | ret =>
  have hz:cz na nt [] nx gl s' fun v b=>XE.ret=XE.normal/\R v b:=hz
  obtain ⟨r,hr,e1,_⟩:=Bk hz
  cases e1
def HX(P:Program)(rs:List ResultVar)(B:Nat)(M:List Nat)(w0:BH)(R:SV->(Nat->Blk)->Prop):Exit->Act->World->Prop:=fun e a w=>∃ (x:XE) (O:Env) (s:A4),e=x.toExit/\Ab B M w0 O s a w/\EQ P rs R x s
theorem HX.unbase{B:Nat}{M:List Nat}{wb:World}{O0 O1:Env}{ob:Nat->Option Obj}{df:Option (List Deferred)}(he:Ext O0 O1)(ho:OdB O0.od O1.od B)(hz:∀ i,O0 i=none){rs:List ResultVar}{R:SV->(Nat->Blk)->Prop}{e:Exit}{a:Act}{w:World}(h:HX P rs B M ⟨wb,O1,0,ob,df⟩ R e a w):HX P rs B M ⟨wb,O0,0,ob,df⟩ R e a w :=
 let ⟨x,O,s,e1,h1,h2⟩:=h;⟨x,O,s,e1,h1.unbase he ho hz,h2⟩
theorem Q7{f:FuncId}{fn:Func}{c:Code}(hf:P.funcs[f]? = some fn)(hb:fn.body=some c){M:List Nat}{O0:Env}{nx0:Nat}{mem0:Nat->Blk}{args:List SV}{xs:List Value}{w:World}(hargs:SV.denL O0 args xs)(hM:Ak w.heap.size M O0 mem0 w)(hfr:∀ i,nx0<=i->O0 i=none)(hz:nx0=0->M=[]){R:SV->(Nat->Blk)->Prop}(h:∀ a,Ab w.heap.size M ⟨w,O0,nx0,fun _=>none,none⟩ O0 (Cb fn.ntmps args nx0 mem0) a w->c.wpIn (FW none) 0 P (HX P fn.results.toList w.heap.size M ⟨w,O0,nx0,fun _=>none,none⟩ R) a w) :
  Calls P f ⟨xs⟩ w fun e w'=>∃ v x O mem,e=.returned x/\v.den O x/\Ext O0 O/\(∀ i,i<nx0->O i=O0 i)/\OdB O0.od O.od w.heap.size/\Ak w.heap.size M O mem w'/\AR w.heap.size M w w'/\R v mem:=by
 have hlen:=Ax hargs
 refine (callsIn_wide (n:=0)).1 (callsIn_of_wp_marks (F:=Fence.wide) hf hb trivial (Go.wpIn_mono (h _ ?_) ?_))
 .refine ⟨EB.none _ _ _ _,?_,fun i x hx=>?_,hfr,hM,AR.refl _ _ _,Nat.le_refl _,Ext.refl _,hfr,fun _ _=>rfl,rfl,Nat.le_refl _,⟨fun _ _ _ h=>.inl h,fun _ _ h=>.inl h,rfl⟩,hz⟩
  .simp [Cb,hlen]
  .simp only [Cb]
   cases ha:args[i]? with
   | none=>trivial
   | some v =>
    obtain ⟨y,hy,hd⟩:=AP hargs ha
    have hi:i<xs.length:=(List.getElem?_eq_some_iff.1 hy).1
    simp only [Array.getElem?_append] at hx
    rw [if_pos (by simpa using hi)] at hx
    have hxy:x=y:=by
     have:xs[i]? = some x:=by simpa using hx
     rw [this] at hy;cases hy;rfl
    rw [hxy]
    exact C9 hd
 .rintro e a' w' ⟨x0,O',s',rfl,hs,hk⟩
  have key:∀ (ds:List Deferred) (a':Act) (w':World) vs ns,a'.defers=ds->Ab w.heap.size M ⟨w,O0,nx0,fun _=>none,none⟩ O' s' a' w'->Jh P s' fn.results.toList=some (vs,ns)->Ay ns (R (QW vs) s'.mem) ->
    LeavesInM Fence.wide 0 P fn a'.tmps (fun e w'=>∃ v x O mem,e=.returned x/\v.den O x/\Ext O0 O/\(∀ i,i<nx0->O i=O0 i)/\OdB O0.od O.od w.heap.size/\Ak w.heap.size M O mem w'/\AR w.heap.size M w w'/\R v mem) ds .returning w':=by
   intro ds
   induction ds with
   | nil =>
    intro a' w' vs ns _ hs hr hn
    rw [Ac] at hn
    obtain ⟨x,hx,hd⟩:=E3 hs fn vs ns hr hn.1
    exact ⟨x,hx,_,x,O',_,rfl,hd,hs.ext,hs.argl,hs.odb,hs.mem,hs.kept,hn.2⟩
   | cons d ds ih =>
    intro a' w' vs ns hd hs hr hn
    obtain ⟨D,e,ht,hs'⟩:=hs.unmark (P:=P) hd
    exact ⟨by simp,.inl ⟨D,_,by rw [e],ht,ih { a' with defers:=ds } _ vs ns rfl hs' hr hn⟩⟩
  cases x0 with
  | exit id=>exact hk.elim
  | normal =>
   simp only [EQ] at hk
   split at hk
   .exact key _ _ _ _ _ rfl hs (by assumption) hk
   .exact hk.elim
  | ret =>
   simp only [EQ] at hk
   split at hk
   .exact key _ _ _ _ _ rfl hs (by assumption) hk
   .exact hk.elim
theorem N4{f:FuncId}{fn:Func}{c:Code}(hf:P.funcs[f]? = some fn)(hb:fn.body=some c){M:List Nat}{O0:Env}{na:Nat}{mem0:Nat->Blk}{args:List SV}{xs:List Value}{w:World}{muts grs:List Nat}{rh:RH}(hargs:SV.denL O0 args xs)(hM:Ak w.heap.size M O0 mem0 w)(hfr:∀ i,na<=i->O0 i=none)(hMb:∀ b∈M,∃ q∈muts,∃ m,O0 q=some m/\m.blk=b)(hmn:∀ q∈muts,q<na){R:SV->List Blk->List Blk->Prop}(h:∀ a,Ab w.heap.size M ⟨w,O0,na,fun _=>none,none⟩ O0 (Cb fn.ntmps args na mem0) a w->c.wpIn (FW none) 0 P (HX P fn.results.toList w.heap.size M ⟨w,O0,na,fun _=>none,none⟩ (DT na muts grs rh R)) a w) :
  Calls P f ⟨xs⟩ w fun e w'=>∃ v U N x O',e=.returned x/\R v U N/\A5 O0 O' na { v:=v,news:=N,upds:=muts.zip U } w w' x:=by
 refine (Q7 hf hb hargs hM hfr (fun h0=>by
  cases M with
  | nil=>rfl
  | cons b l =>
   obtain ⟨q,hq,_⟩:=hMb b (by simp)
   have:=hmn q hq
   omega) h).mono ?_
 rintro e w' ⟨v,x,O,mem,rfl,hd,he,hlow,hodb,hm,hk,hR⟩
 unfold DT at hR
 split at hR
 .rename_i v' U N ns hout
  rw [Ac] at hR
  obtain ⟨O',hp⟩:=M7 hM hfr hMb hmn hd he hlow hodb hm hk hout hR.1 []
  exact ⟨v',U,N,x,O',rfl,hR.2,hp⟩
 .exact hR.elim
end runs
@[match_pattern] abbrev shB:List Kd:=[.int .i64,.int .i64]
@[match_pattern] abbrev shT:List Kd:=[.str,.int .i64,.int .i64,.mi [.int .i64,.int .i64,.bool],.mb,.mb,.int .i64,.bool,.m1]
@[match_pattern] abbrev BG:List Kd:=[.sl [.str,.int .i64,.int .i64],.sl [.str,.int .i64,.int .i64,.int .i64],.sl [.pt shT],.int .i64]
def OZ(L:List (Nat × Nat)):Dat:={ A3 with ii:=fun q c=>cond (decide (c=0)) (((L[q]?).getD (0,0)).1:Int) (((L[q]?).getD (0,0)).2:Int) }
end Go.Sy
namespace Go.Sy
open Go.RowKit Go.ChangeMaps
attribute [local instance 2000] Go.Sy.G0
inductive Tg where
 | shop | row
 | th (i:Nat) | ck (i:Nat) | hs (i:Nat) | hd (i:Nat) | bd (i:Nat)
 | cb (i r:Nat)
structure Th where
 ck:Nat->Option (Int × Int × Bool)
 has:Nat->Nat->Bool
 had:Nat->Nat->Bool
 pr:Nat
 st:Bool
 bad:Nat->Bool
structure Stt where
 day:Int
 th:Nat->Th
structure Kst where
 n:Nat
 di:Dat
 r:Nat
 dr:Dat
def Kst.dom(K:Kst)(i q:Nat):Bool:=decide (q<K.r)&&decide (K.dr.ii q 1=K.di.ii i 1)
def Tg.ok(K:Kst):Tg->Prop
 | .shop=>True
 | .row=>0<K.n
 | .th i | .ck i | .hs i | .hd i | .bd i=>i<K.n
 | .cb i q=>i<K.n/\K.dom i q=true
def nB:Nat:=300
structure MU (K:Kst) (st:Stt):Prop where
 ck:∀ i,i<K.n->∀ q,((st.th i).ck q).isSome=K.dom i q
 has:∀ i,i<K.n->∀ a b,(st.th i).has a b=true->a<K.n/\b<nB
 had:∀ i,i<K.n->∀ a b,(st.th i).had a b=true->a<K.n/\b<nB
structure Tys where
 shop:TypeId
 row:TypeId
 th:TypeId
 cb:TypeId
structure Lay where
 T:Tys
 at_:Tg->Nat
 xI:Value
 xR:Value
def thV(L:Lay)(K:Kst)(st:Stt)(i:Nat):Array Value :=
 #[.string (K.di.ss i 0),.int .i64 (K.di.ii i 1),.int .i64 (K.di.ii i 2),.map (some (L.at_ (.ck i))),.map (some (L.at_ (.hs i))),.map (some (L.at_ (.hd i))),.int .i64 ((st.th i).pr:Int),.bool (st.th i).st,.map (some (L.at_ (.bd i)))]
def cbV(c:Int × Int × Bool):Array Value:=#[.int .i64 c.1,.int .i64 c.2.1,.bool c.2.2]
def Pg(b:Nat->Nat->Bool)(f:Int × Int->Option Value):Prop:=∀ p:Int × Int,f p=if (decide (0<=p.1)&&decide (0<=p.2)&&b p.1.toNat p.2.toNat)=true then some (.bool true) else none
def Ul(b:Nat->Bool)(f:Int->Option Value):Prop:=∀ r:Int,f r=if (decide (0<=r)&&b r.toNat)=true then some (.bool true) else none
def Um(L:Lay)(K:Kst)(i:Nat)(f:Int->Option Value):Prop:=∀ r:Int,f r=if (decide (0<=r)&&K.dom i r.toNat)=true then some (.pointer (some ⟨L.at_ (.cb i r.toNat),0,none⟩)) else none
def Has(L:Lay)(K:Kst)(st:Stt):Tg->Obj->Prop
 | .shop,o=>∃ A cap,o=.cells #[L.xI,L.xR,.slice A K.n cap,.int .i64 st.day] L.T.shop (0,0)/\NC A K.n cap/\(0<K.n->A=some ⟨L.at_ .row,0,none⟩)
 | .row,o=>∃ c,o=.cells c L.T.row (0,0)/\∀ i,i<K.n->c[i]? = some (.pointer (some ⟨L.at_ (.th i),0,none⟩))
 | .th i,o=>o=.cells (thV L K st i) L.T.th (0,0)
 | .ck i,o=>∃ es cl f,o=.map es cl/\AZ (Value.int .i64) f es cl/\Um L K i f
 | .hs i,o=>∃ es cl f,o=.map es cl/\AZ AE f es cl/\Pg (st.th i).has f
 | .hd i,o=>∃ es cl f,o=.map es cl/\AZ AE f es cl/\Pg (st.th i).had f
 | .bd i,o=>∃ es cl f,o=.map es cl/\AZ (Value.int .i64) f es cl/\Ul (st.th i).bad f
 | .cb i q,o=>∀ c,(st.th i).ck q=some c->o=.cells (cbV c) L.T.cb (0,0)
structure Ao (L:Lay) (K:Kst) (st:Stt) (w:World):Prop where
 inj:∀ s t,Tg.ok K s->Tg.ok K t->L.at_ s=L.at_ t->s=t
 ok:MU K st
 at_:∀ t,Tg.ok K t->∃ o,w.heap[L.at_ t]? = some o/\Has L K st t o
theorem Ao.set{L:Lay}{K:Kst}{st st':Stt}{w w':World}(h:Ao L K st w)(t:Tg)(ht:Tg.ok K t)(hok:MU K st')(keep:∀ b,b≠L.at_ t->∀ o,w.heap[b]? = some o->w'.heap[b]? = some o)(hn:∃ o,w'.heap[L.at_ t]? = some o/\Has L K st' t o)(ho:∀ s o,s≠t->Has L K st s o->Has L K st' s o):Ao L K st' w':=by
 refine ⟨h.inj,hok,fun s hs=>?_⟩
 by_cases e:s=t
 .subst e;exact hn
 .obtain ⟨o,h1,h2⟩:=h.at_ s hs
  exact ⟨o,keep _ (fun ee=>e (h.inj s t hs ht ee)) o h1,ho s o e h2⟩
theorem Ao.keep{L:Lay}{K:Kst}{st:Stt}{w w':World}(h:Ao L K st w)(keep:∀ (b:Nat) (o:Obj),w.heap[b]? = some o->w'.heap[b]? = some o):Ao L K st w' :=
 ⟨h.inj,h.ok,fun s hs=>let ⟨o,h1,h2⟩:=h.at_ s hs;⟨o,keep _ o h1,h2⟩⟩
def cbD(c:Int × Int × Bool):Dat:={ A3 with ii:=fun _ k=>match k with | 0=>c.1 | _=>c.2.1,bb:=fun _ _=>c.2.2 }
def thD(K:Kst)(st:Stt)(i:Nat):Dat :=
 {ii:=fun _ k=>match k with | 1=>K.di.ii i 1 | 2=>K.di.ii i 2 | _=>((st.th i).pr:Int)
  ss:=fun _ _=>K.di.ss i 0
  bb:=fun _ _=>(st.th i).st
  sn:=fun _ _=>0
  sd:=fun _ k=>match k with
   | 3=>some { A3 with bb:=fun q _=>((st.th i).ck q).isSome,sd:=fun q _=>some (cbD (((st.th i).ck q).getD (0,0,false))) }
   | 4=>some { A3 with bb:=(st.th i).has,sn:=fun _ k=>match k with | 0=>K.n | _=>nB }
   | 5=>some { A3 with bb:=(st.th i).had,sn:=fun _ k=>match k with | 0=>K.n | _=>nB }
   | _=>some { A3 with bb:=fun q _=>(st.th i).bad q } }
def AY(K:Kst)(st:Stt):Dat :=
 {ii:=fun _ _=>st.day
  ss:=fun _ _=>.empty
  bb:=fun _ _=>false
  sn:=fun _ k=>match k with | 0=>K.n | 1=>K.r | _=>K.n
  sd:=fun _ k=>match k with
   | 0=>some K.di
   | 1=>some K.dr
   | _=>some { A3 with sn:=fun q _=>q,sd:=fun q _=>some (thD K st q) } }
abbrev shZ:List Kd:=[.sl [.str,.int .i64,.int .i64],.sl [.str,.int .i64,.int .i64,.int .i64],.sl [.pz shT],.int .i64]
structure OT (L:Lay) (K:Kst) (w:World) (od:Od):Prop where
 c:∀ t,Tg.ok K t->∀ o v,w.cell? ⟨L.at_ t,o,none⟩=some v->od (L.at_ t) o=some v
 m:∀ t,Tg.ok K t->∀ es cl,w.heap[L.at_ t]? = some (.map es cl)->od.m (L.at_ t)=some (es,cl)
theorem CG{w:World}{b o:Nat}{c:Array Value}{t:TypeId}{fr:Nat × Nat}{v:Value}(h:w.heap[b]? = some (.cells c t fr))(hv:c[o]? = some v):w.cell? ⟨b,o,none⟩=some v:=by
 simp [World.cell?,h,hv]
theorem L9{L:Lay}{K:Kst}{st:Stt}{w:World}(h:Ao L K st w){od:Od}(hs:OT L K w od){i:Nat}(hi:i<K.n):Kd.denL od shT (thD K st i) 0 0 (L.at_ (.th i)) 0:=by
 obtain ⟨o,h1,h2⟩:=h.at_ (.th i) hi
 have h2:o=.cells (thV L K st i) L.T.th (0,0):=h2
 subst h2
 have cell:∀ k v,(thV L K st i)[k]? = some v->od (L.at_ (.th i)) (0+k)=some v:=fun k v hv=>by
  rw [Nat.zero_add]
  exact hs.c (.th i) hi _ _ (CG h1 hv)
 refine ⟨⟨_,cell 0 _ rfl,rfl⟩,⟨_,cell 1 _ rfl,rfl⟩,⟨_,cell 2 _ rfl,rfl⟩,⟨_,cell 3 _ rfl,?_⟩,⟨_,cell 4 _ rfl,?_⟩,⟨_,cell 5 _ rfl,?_⟩,⟨_,cell 6 _ rfl,rfl⟩,⟨_,cell 7 _ rfl,rfl⟩,⟨_,cell 8 _ rfl,?_⟩,trivial⟩
 .obtain ⟨_,g1,es,cl,f,rfl,g2,g3⟩:=h.at_ (.ck i) hi
  refine ⟨_,es,cl,f,rfl,hs.m (.ck i) hi _ _ g1,g2,fun r=>?_,fun r y hy=>?_⟩
  .rw [g3 r]
   show _=(decide (0<=r)&&((st.th i).ck r.toNat).isSome)
   rw [h.ok.ck i hi]
   split
   .rename_i hc;rw [hc];rfl
   .rename_i hc;rw [Bool.not_eq_true] at hc;rw [hc];rfl
  .rw [g3 r] at hy
   split at hy
   .rename_i hc
    cases hy
    simp only [Bool.and_eq_true,decide_eq_true_eq] at hc
    refine ⟨_,0,rfl,?_⟩
    obtain ⟨o,c1,c2⟩:=h.at_ (.cb i r.toNat) ⟨hi,hc.2⟩
    have hsm:=h.ok.ck i hi r.toNat
    rw [hc.2] at hsm
    obtain ⟨cc,hcc⟩:=Option.isSome_iff_exists.1 hsm
    have c2:=c2 cc hcc
    subst c2
    have cell:∀ k v,(cbV cc)[k]? = some v->od (L.at_ (.cb i r.toNat)) (0+k)=some v:=fun k v hv=>by
     rw [Nat.zero_add]
     exact hs.c (.cb i r.toNat) ⟨hi,hc.2⟩ _ _ (CG c1 hv)
    show Kd.denL od [.int .i64,.int .i64,.bool] (cbD (((st.th i).ck r.toNat).getD (0,0,false))) 0 0 _ 0
    rw [hcc]
    exact ⟨⟨_,cell 0 _ rfl,rfl⟩,⟨_,cell 1 _ rfl,rfl⟩,⟨_,cell 2 _ rfl,rfl⟩,trivial⟩
   .cases hy
 .obtain ⟨_,g1,es,cl,f,rfl,g2,g3⟩:=h.at_ (.hs i) hi
  exact ⟨_,es,cl,f,rfl,hs.m (.hs i) hi _ _ g1,g2,g3,fun a b hab=>h.ok.has i hi a b hab⟩
 .obtain ⟨_,g1,es,cl,f,rfl,g2,g3⟩:=h.at_ (.hd i) hi
  exact ⟨_,es,cl,f,rfl,hs.m (.hd i) hi _ _ g1,g2,g3,fun a b hab=>h.ok.had i hi a b hab⟩
 .obtain ⟨_,g1,es,cl,f,rfl,g2,g3⟩:=h.at_ (.bd i) hi
  exact ⟨_,es,cl,f,rfl,hs.m (.bd i) hi _ _ g1,g2,g3⟩
def BB(K:Kst)(xI xR:Value)(od:Od):Prop :=
 (∃ A cap,xI=.slice A K.n cap/\NC A K.n cap/\(0<K.n->∃ b o,A=some ⟨b,o,none⟩/\∀ q,q<K.n->Kd.denL od [.str,.int .i64,.int .i64] K.di q 0 b (o+q * 3))) /\
 ∃ A cap,xR=.slice A K.r cap/\NC A K.r cap/\(0<K.r->∃ b o,A=some ⟨b,o,none⟩/\∀ q,q<K.r->Kd.denL od [.str,.int .i64,.int .i64,.int .i64] K.dr q 0 b (o+q * 4))
theorem Kj{L:Lay}{K:Kst}{st:Stt}{w:World}(h:Ao L K st w){nm:Nat->Option Nm}{od:Od}(hs:OT L K w od)(hS:BB K L.xI L.xR od)(hp:∀ i,i<K.n->od.p.f (L.at_ (.th i))=some i) :
  Kd.denL od shZ (AY K st) 0 0 (L.at_ .shop) 0:=by
 obtain ⟨_,h1,A,cap,rfl,hc,hA⟩:=h.at_ .shop trivial
 have cell:∀ k v,(#[L.xI,L.xR,.slice A K.n cap,.int .i64 st.day]:Array Value)[k]? = some v->od (L.at_ .shop) (0+k)=some v:=fun k v hv=>by
  rw [Nat.zero_add]
  exact hs.c .shop trivial _ _ (CG h1 hv)
 obtain ⟨⟨A1,c1,e1,n1,s1⟩,A2,c2,e2,n2,s2⟩:=hS
 refine ⟨⟨_,cell 0 _ rfl,?_⟩,⟨_,cell 1 _ rfl,?_⟩,⟨_,cell 2 _ rfl,?_⟩,⟨_,cell 3 _ rfl,rfl⟩,trivial⟩
 .exact ⟨A1,c1,e1,n1,s1⟩
 .exact ⟨A2,c2,e2,n2,s2⟩
 .refine ⟨A,cap,rfl,hc,fun h0=>⟨_,0,hA h0,fun q hq=>?_⟩⟩
  have hq:q<K.n:=hq
  obtain ⟨_,r1,c,rfl,r2⟩:=h.at_ .row h0
  refine ⟨⟨_,hs.c .row h0 _ _ (CG r1 (o:=0+q * 1+0) (by simpa using r2 q hq)),?_⟩,trivial⟩
  exact .inl ⟨rfl,_,rfl,hp q hq,L9 h hs hq⟩
theorem Rc{L:Lay}{K:Kst}{st:Stt}{w:World}(h:Ao L K st w){nm:Nat->Option Nm}{od:Od}(hs:OT L K w od)(hS:BB K L.xI L.xR od)(hp:∀ i,i<K.n->od.p.f (L.at_ (.th i))=some i) :
  SV.den ⟨nm,od,gl0 _⟩ (.rp shZ (AY K st) 0 0) (.pointer (some ⟨L.at_ .shop,0,none⟩)):=⟨_,0,rfl,Kj (nm:=nm) h hs hS hp⟩
def Dm(L:Lay)(K:Kst)(inj:∀ s t,Tg.ok K s->Tg.ok K t->L.at_ s=L.at_ t->s=t):Ids where
 f b:=if L.at_ .shop=b then some K.n else (List.range K.n).find? fun i=>decide (L.at_ (.th i)=b)
 inj b b' i h h':=by
  split at h
  .rename_i e
   cases h
   split at h'
   .rename_i e';rw [<- e,<- e']
   .have:=List.mem_range.1 (List.mem_of_find?_eq_some h')
    omega
  .split at h'
   .cases h'
    have:=List.mem_range.1 (List.mem_of_find?_eq_some h)
    omega
   .have h1:=List.find?_some h
    have h2:=List.find?_some h'
    simp only [decide_eq_true_eq] at h1 h2
    rw [<- h1,<- h2]
theorem GT{L:Lay}{K:Kst}{inj:∀ s t,Tg.ok K s->Tg.ok K t->L.at_ s=L.at_ t->s=t}{i:Nat}(hi:i<K.n):(Dm L K inj).f (L.at_ (.th i))=some i:=by
 have hne:¬ L.at_ .shop=L.at_ (.th i):=fun e=>by cases inj .shop (.th i) trivial hi e
 show (if L.at_ .shop=L.at_ (.th i) then some K.n else _)=_
 rw [if_neg hne]
 cases h:(List.range K.n).find? (fun j=>decide (L.at_ (.th j)=L.at_ (.th i))) with
 | none =>
  have:=List.find?_eq_none.1 h i (List.mem_range.2 hi)
  simp at this
 | some j =>
  have hj:=List.mem_range.1 (List.mem_of_find?_eq_some h)
  have:=List.find?_some h
  simp only [decide_eq_true_eq] at this
  have e:=inj (.th j) (.th i) hj hi this
  cases e;rfl
theorem Nf{L:Lay}{K:Kst}{inj:∀ s t,Tg.ok K s->Tg.ok K t->L.at_ s=L.at_ t->s=t}:(Dm L K inj).f (L.at_ .shop)=some K.n:=if_pos rfl
theorem Ge{L:Lay}{K:Kst}{inj:∀ s t,Tg.ok K s->Tg.ok K t->L.at_ s=L.at_ t->s=t}{b i:Nat}(h:(Dm L K inj).f b=some i):(i<K.n/\L.at_ (.th i)=b)\/(i=K.n/\L.at_ .shop=b):=by
 have h:(if L.at_ .shop=b then some K.n else (List.range K.n).find? fun i=>decide (L.at_ (.th i)=b))=some i:=h
 split at h
 .cases h;exact .inr ⟨rfl,by assumption⟩
 .exact .inl ⟨List.mem_range.1 (List.mem_of_find?_eq_some h),by simpa using List.find?_some h⟩
def Bn(w:World)(p:Ids):Od where
 c b o:=w.cell? ⟨b,o,none⟩
 m b:=match w.heap[b]? with
  | some (.map es cl)=>some (es,cl)
  | _=>none
 p:=p
theorem Ao.sealOk{L:Lay}{K:Kst}{st:Stt}{w:World}(h:Ao L K st w):Bj (Bn w (Dm L K h.inj)) w:=by
 refine ⟨fun b o v hv=>hv,fun b v hv=>?_,fun b i hp=>?_⟩
 .unfold Bn at hv
  simp only at hv
  split at hv
  .cases hv;assumption
  .cases hv
 .rcases Ge (inj:=h.inj) hp with ⟨hi,e⟩ | ⟨hi,e⟩
  .obtain ⟨o,h1,h2⟩:=h.at_ (.th i) hi
   have h2:o=.cells (thV L K st i) L.T.th (0,0):=h2
   subst h2
   rw [e] at h1
   exact ⟨⟨.string (K.di.ss i 0),CG h1 rfl⟩,_,_,h1⟩
  .obtain ⟨_,h1,A,cap,rfl,_⟩:=h.at_ .shop trivial
   rw [e] at h1
   exact ⟨⟨L.xI,CG h1 rfl⟩,_,_,h1⟩
theorem Ao.seen{L:Lay}{K:Kst}{st:Stt}{w:World}(h:Ao L K st w):OT L K w (Bn w (Dm L K h.inj)) :=
 ⟨fun t _ o v hv=>hv,fun t _ es cl hm=>by simp [Bn,hm]⟩
theorem Ao.mem{L:Lay}{K:Kst}{st:Stt}{w:World}(h:Ao L K st w)(B:Nat):Ak B [] ⟨fun _=>none,Bn w (Dm L K h.inj),gl0 _⟩ (Ah []) w :=
 ⟨fun i hi=>by simp [Ah,Blk.isUnk] at hi,fun i j m m' _ hi=>by simp [Ah,Blk.isUnk] at hi,h.sealOk,fun i m hi=>by simp [Ah,Blk.isUnk] at hi,pv0 _⟩
end Go.Sy
