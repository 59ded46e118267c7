/-
 A symbolic executor for the model's code: walks by hand between pieces that the executor does; ranges over maps. Conditions: none.
-/
import Derived.Test.YtldjapmfmhifkaaUSySc
namespace Go.Sy
set_option linter.unusedVariables false
set_option linter.unusedSimpArgs false
open Go.RowKit Go.ChangeMaps
section runs
variable {P:Program} {rd:Option Nat} {n:Nat}
theorem StDen.turn{B:Nat}{M:List Nat}{w0:Base}{ρ:Env}{s:SState}{a:Act}{w w':World}(h:StDen B M w0 ρ s a w){r:Nat}(hB:B<=r)(hr:w.heap[r]? = none\/∃ b s n c,w.heap[r]? = some (.mapIter b s n c))(hob:w0.ob r=none)(keep:∀ b,b<w.heap.size->b≠r->w'.heap[b]? = w.heap[b]?)(hsz:w.heap.size<=w'.heap.size)(hos:w'.os=w.os)(htp:w'.tape=w.tape)(hout:w'.output=w.output):StDen B M w0 ρ s a w':=by
 have ne:∀ {b:Nat} {o:Obj},w.heap[b]? = some o->(∀ b s n c,o≠.mapIter b s n c)->b≠r:=fun {b o} hb ho e=>by
  subst e
  rcases hr with hr | ⟨b',s',n',c',hr⟩
  ·rw [hr] at hb;cases hb
  ·rw [hr] at hb;cases hb;exact ho _ _ _ _ rfl
 have lt:∀ {b:Nat} {o:Obj},w.heap[b]? = some o->b<w.heap.size:=fun hb=>(Array.getElem?_eq_some_iff.1 hb).1
 have kp:∀ {b:Nat} {o:Obj},w.heap[b]? = some o->(∀ b s n c,o≠.mapIter b s n c)->w'.heap[b]? = w.heap[b]?:=fun hb ho=>keep _ (lt hb) (ne hb ho)
 have kc:∀ {b o:Nat} {v:Value},w.cell? ⟨b,o,none⟩=some v->w'.heap[b]? = w.heap[b]?:=fun {b o v} hv=>by
  unfold World.cell? at hv
  split at hv
  ·rename_i c e z hc
   exact kp hc (by simp)
  ·cases hv
 refine ⟨⟨fun b o hb=>?_,fun d hd=>?_,h.defs.nd,h.defs.same_⟩,h.size,h.tmp,h.fresh,⟨fun i hi=>⟨fun m hm=>?_,(h.mem.at_ i hi).2⟩,h.mem.apart,⟨fun b o v hv=>?_,fun b v hv=>?_,fun b i hp=>?_⟩,h.mem.free⟩,⟨hos.trans h.kept.os,htp.trans h.kept.tape,hout.trans h.kept.output,Nat.le_trans h.kept.size hsz,fun k hk hM=>?_⟩,Nat.le_trans h.base hsz,h.ext,h.argn,h.argl,h.nab,h.nale,h.odb,h.mz⟩
 ·have g:=h.defs.ob b o hb
  have hbr:b≠r:=fun e=>by rw [e,hob] at hb;cases hb
  exact ⟨(keep b g.lt hbr).trans g.at_,g.off,g.nod⟩
 ·obtain ⟨D,e,hBD,g⟩:=h.defs.at_ d hd
  exact ⟨D,e,hBD,(kp g.at_ (by simp)).trans g.at_,g.off,g.nod⟩
 ·obtain ⟨g1,g2,g3⟩:=h.mem.get hi hm
  obtain ⟨c,e,hc⟩:=Blk.den_cells g2 hi
  exact ⟨by omega,Blk.den_same g2 (kp hc (by simp)),g3⟩
 ·have hv':=h.mem.seal_ b o v hv
  rw [World.cell?_of_block (w:=w) (kc hv')]
  exact hv'
 ·have hv':=h.mem.seal_.m b v hv
  exact (kp hv' (by simp)).trans hv'
 ·obtain ⟨hv,c,t,hc⟩:=h.mem.seal_.p b i hp
  exact ⟨hv,c,t,(kp hc (by simp)).trans hc⟩
 ·by_cases hlt:k<w.heap.size
  ·exact (keep k hlt (by omega)).trans (h.kept.block k hk hM)
  ·have:=h.base;omega
theorem put_nx(s:SState)(dst:Option Nat)(v:SV):(s.put dst v).nx=s.nx/\(s.put dst v).mem=s.mem/\(s.put dst v).na=s.na:=by
 cases dst <;> exact ⟨rfl,rfl,rfl⟩
theorem StDen.putv{B:Nat}{M:List Nat}{w0:Base}{ρ:Env}{s:SState}{a:Act}{w:World}(h:StDen B M w0 ρ s a w){dst:Option Nat}{v:SV}{x:Value}(hv:v.den ρ x)(hg:∀ t pol u,v≠.gd t pol u):StDen B M w0 ρ (s.put dst v) (a.put dst x) w:=by
 have hT:=h.tmDen.put (Ext.refl ρ) (v:=v) (dst:=dst) (x:=x) fun d _=>slot_of hg hv
 obtain ⟨e1,e2,e3⟩:=put_nx s dst v
 exact ⟨by rw [put_defs,e2];exact h.defs,hT.size,hT.tmp,by rw [e1];exact h.fresh,by rw [e2];exact h.mem,h.kept,h.base,h.ext,h.argn,h.argl,e3.trans h.nab,by rw [e1];exact h.nale,h.odb,h.mz⟩
theorem wpL_value{ops:Array Oper}{o:Oper}{rest:List Oper}{a:Act}{w w':World}{x:Value}{Q:Exit->Act->World->Prop}(hg:o.guard=none)(h:(execOp a.eval o).run P w=.ok (.value x) w')(hk:wpListIn (FW rd) n P ops Q rest (a.put o.dst x) w')(hd:∀ c,o.op≠.defer c:=by intro c e;cases e):wpListIn (FW rd) n P ops Q (o :: rest) a w :=
 wpList_step (by rw [if_pos (by simp [Region.wanted,hg])];exact wp_of_value h hk hd)
theorem wpL_skip{ops:Array Oper}{o:Oper}{rest:List Oper}{a:Act}{w w':World}{Q:Exit->Act->World->Prop}(hg:o.guard=none)(h:(execOp a.eval o).run P w=.ok .skip w')(hk:wpListIn (FW rd) n P ops Q rest (a.put o.dst undef) w')(hd:∀ c,o.op≠.defer c:=by intro c e;cases e):wpListIn (FW rd) n P ops Q (o :: rest) a w :=
 wpList_step (by rw [if_pos (by simp [Region.wanted,hg])];exact wp_of_skip h hk hd)
theorem exec_can{L:Tab}(hL:TabOk P L)(hmix:P.follows .mixedOrders=true){fuel:Nat}{c:Code}{s:SState}{na nt nx:Nat}{Lh:List Nat}{gl:List GL}{vs:List SV}{bs:List Blk}(y:exec P L (fun _=>none) fuel c s (canonK na nt Lh [] nx gl fun e v b=>e=.normal/\v=vs/\b=bs)){B:Nat}{M:List Nat}{w0:Base}{ρ:Env}{a:Act}{w:World}{Q:Exit->Act->World->Prop}(hr:RdOk rd w0.df c)(h:StDen B M w0 ρ s a w)(hk:∀ ρ' a' w',StDen B M w0 ρ' (mkSt na nt Lh vs nx bs) a' w'->Q .normal a' w'):c.wpIn (FW rd) n P Q a w:=by
 refine exec_wp hL hmix c (fun id b g _ hg=>by cases hg) rd n B M w0 s _ ρ a w Q hr h y fun e s' ρ' a' w' hs hz=>?_
 cases e with
 | normal =>
  have hz:cz na nt Lh nx gl s' fun v b=>XE.normal=XE.normal/\v=vs/\b=bs:=hz
  obtain ⟨r,hr,_,e1,e2⟩:=cz_get hz
  obtain ⟨ρ2,h2⟩:=cz_ok hs hr
  rw [e1,e2] at h2
  exact hk ρ2 a' w' h2
 | exit j =>
  have hz:cz na nt [] nx gl s' fun v b=>XE.exit j=XE.normal/\v=vs/\b=bs:=hz
  obtain ⟨r,hr,e1,_⟩:=cz_get hz
  cases e1
 | ret =>
  have hz:cz na nt [] nx gl s' fun v b=>XE.ret=XE.normal/\v=vs/\b=bs:=hz
  obtain ⟨r,hr,e1,_⟩:=cz_get hz
  cases e1
theorem StDen.rebase{B:Nat}{M:List Nat}{wb:World}{ρ0 ρ:Env}{ob:Nat->Option Obj}{df:Option (List Deferred)}{s:SState}{a:Act}{w:World}(h:StDen B M ⟨wb,ρ0,0,ob,df⟩ ρ s a w)(h0:s.nx=0):StDen B M ⟨wb,ρ,0,ob,df⟩ ρ s a w :=
 ⟨h.defs,h.size,h.tmp,h.fresh,h.mem,h.kept,h.base,Ext.refl _,fun i _=>h.fresh i (by omega),fun i hi=>absurd hi (Nat.not_lt_zero i),h.nab,Nat.zero_le _,⟨fun _ _ _ h=>.inl h,fun _ _ h=>.inl h,rfl⟩,h.mz⟩
theorem StDen.unbase{B:Nat}{M:List Nat}{wb:World}{ρ0 ρ1 ρ:Env}{ob:Nat->Option Obj}{df:Option (List Deferred)}{s:SState}{a:Act}{w:World}(he:Ext ρ0 ρ1)(ho:OdB ρ0.od ρ1.od B)(hz:∀ i,ρ0 i=none)(h:StDen B M ⟨wb,ρ1,0,ob,df⟩ ρ s a w):StDen B M ⟨wb,ρ0,0,ob,df⟩ ρ s a w :=
 ⟨h.defs,h.size,h.tmp,h.fresh,h.mem,h.kept,h.base,he.trans h.ext,fun i _=>hz i,fun i hi=>absurd hi (Nat.not_lt_zero i),h.nab,Nat.zero_le _,
  ⟨fun b o v hv=>(h.odb.c b o v hv).elim (fun h1=>ho.c b o v h1) .inr,fun b v hv=>(h.odb.m b v hv).elim (fun h1=>ho.m b v h1) .inr,h.odb.p.trans ho.p⟩,h.mz⟩
theorem exec_canR{L:Tab}(hL:TabOk P L)(hmix:P.follows .mixedOrders=true){fuel:Nat}{c:Code}{s:SState}{na nt nx:Nat}{Lh:List Nat}{gl:List GL}{R:List SV->List Blk->Prop}(y:exec P L (fun _=>none) fuel c s (canonK na nt Lh [] nx gl fun e v b=>e=.normal/\R v b)){B:Nat}{M:List Nat}{w0:Base}{ρ:Env}{a:Act}{w:World}{Q:Exit->Act->World->Prop}(hr:RdOk rd w0.df c)(h:StDen B M w0 ρ s a w)(hk:∀ vs bs ρ' a' w',R vs bs->StDen B M w0 ρ' (mkSt na nt Lh vs nx bs) a' w'->Q .normal a' w'):c.wpIn (FW rd) n P Q a w:=by
 refine exec_wp hL hmix c (fun id b g _ hg=>by cases hg) rd n B M w0 s _ ρ a w Q hr h y fun e s' ρ' a' w' hs hz=>?_
 cases e with
 | normal =>
  have hz:cz na nt Lh nx gl s' fun v b=>XE.normal=XE.normal/\R v b:=hz
  obtain ⟨r,hr,_,e1⟩:=cz_get hz
  obtain ⟨ρ2,h2⟩:=cz_ok hs hr
  exact hk _ _ ρ2 a' w' e1 h2
 | exit j =>
  have hz:cz na nt [] nx gl s' fun v b=>XE.exit j=XE.normal/\R v b:=hz
  obtain ⟨r,hr,e1,_⟩:=cz_get hz
  cases e1
 | ret =>
  have hz:cz na nt [] nx gl s' fun v b=>XE.ret=XE.normal/\R v b:=hz
  obtain ⟨r,hr,e1,_⟩:=cz_get hz
  cases e1
def EndQ(P:Program)(rs:List ResultVar)(B:Nat)(M:List Nat)(w0:Base)(R:SV->(Nat->Blk)->Prop):Exit->Act->World->Prop:=fun e a w=>∃ (x:XE) (ρ:Env) (s:SState),e=x.toExit/\StDen B M w0 ρ s a w/\retK P rs R x s
theorem EndQ.unbase{B:Nat}{M:List Nat}{wb:World}{ρ0 ρ1:Env}{ob:Nat->Option Obj}{df:Option (List Deferred)}(he:Ext ρ0 ρ1)(ho:OdB ρ0.od ρ1.od B)(hz:∀ i,ρ0 i=none){rs:List ResultVar}{R:SV->(Nat->Blk)->Prop}{e:Exit}{a:Act}{w:World}(h:EndQ P rs B M ⟨wb,ρ1,0,ob,df⟩ R e a w):EndQ P rs B M ⟨wb,ρ0,0,ob,df⟩ R e a w :=
 let ⟨x,ρ,s,e1,h1,h2⟩:=h;⟨x,ρ,s,e1,h1.unbase he ho hz,h2⟩
theorem calls_wp{f:FuncId}{fn:Func}{c:Code}(hf:P.funcs[f]? = some fn)(hb:fn.body=some c){M:List Nat}{ρ0:Env}{nx0:Nat}{mem0:Nat->Blk}{args:List SV}{xs:List Value}{w:World}(hargs:SV.denL ρ0 args xs)(hM:MemDen w.heap.size M ρ0 mem0 w)(hfr:∀ i,nx0<=i->ρ0 i=none)(hz:nx0=0->M=[]){R:SV->(Nat->Blk)->Prop}(h:∀ a,StDen w.heap.size M ⟨w,ρ0,nx0,fun _=>none,none⟩ ρ0 (initS fn.ntmps args nx0 mem0) a w->c.wpIn (FW none) 0 P (EndQ P fn.results.toList w.heap.size M ⟨w,ρ0,nx0,fun _=>none,none⟩ R) a w) :
  Calls P f ⟨xs⟩ w fun e w'=>∃ v x ρ mem,e=.returned x/\v.den ρ x/\Ext ρ0 ρ/\(∀ i,i<nx0->ρ i=ρ0 i)/\OdB ρ0.od ρ.od w.heap.size/\MemDen w.heap.size M ρ mem w'/\Kept w.heap.size M w w'/\R v mem:=by
 have hlen:=denL_length hargs
 refine (callsIn_wide (n:=0)).1 (callsIn_of_wp_marks (F:=Fence.wide) hf hb trivial (Go.wpIn_mono (h _ ?_) ?_))
 ·refine ⟨Side.none _ _ _ _,?_,fun i x hx=>?_,hfr,hM,Kept.refl _ _ _,Nat.le_refl _,Ext.refl _,hfr,fun _ _=>rfl,rfl,Nat.le_refl _,⟨fun _ _ _ h=>.inl h,fun _ _ h=>.inl h,rfl⟩,hz⟩
  ·simp [initS,hlen]
  ·simp only [initS]
   cases ha:args[i]? with
   | none=>trivial
   | some v =>
    obtain ⟨y,hy,hd⟩:=denL_get hargs ha
    have hi:i<xs.length:=(List.getElem?_eq_some_iff.1 hy).1
    simp only [Array.getElem?_append] at hx
    rw [if_pos (by simpa using hi)] at hx
    have hxy:x=y:=by
     have:xs[i]? = some x:=by simpa using hx
     rw [this] at hy;cases hy;rfl
    rw [hxy]
    exact slotDen_top hd
 ·rintro e a' w' ⟨x0,ρ',s',rfl,hs,hk⟩
  have key:∀ (ds:List Deferred) (a':Act) (w':World) vs ns,a'.defers=ds->StDen w.heap.size M ⟨w,ρ0,nx0,fun _=>none,none⟩ ρ' s' a' w'->resL P s' fn.results.toList=some (vs,ns)->needs ns (R (resV vs) s'.mem) ->
    LeavesInM Fence.wide 0 P fn a'.tmps (fun e w'=>∃ v x ρ mem,e=.returned x/\v.den ρ x/\Ext ρ0 ρ/\(∀ i,i<nx0->ρ i=ρ0 i)/\OdB ρ0.od ρ.od w.heap.size/\MemDen w.heap.size M ρ mem w'/\Kept w.heap.size M w w'/\R v mem) ds .returning w':=by
   intro ds
   induction ds with
   | nil =>
    intro a' w' vs ns _ hs hr hn
    rw [needs_iff] at hn
    obtain ⟨x,hx,hd⟩:=results_run hs fn vs ns hr hn.1
    exact ⟨x,hx,_,x,ρ',_,rfl,hd,hs.ext,hs.argl,hs.odb,hs.mem,hs.kept,hn.2⟩
   | cons d ds ih =>
    intro a' w' vs ns hd hs hr hn
    obtain ⟨D,e,ht,hs'⟩:=hs.unmark (P:=P) hd
    exact ⟨by simp,.inl ⟨D,_,by rw [e],ht,ih { a' with defers:=ds } _ vs ns rfl hs' hr hn⟩⟩
  cases x0 with
  | exit id=>exact hk.elim
  | normal =>
   simp only [retK] at hk
   split at hk
   ·exact key _ _ _ _ _ rfl hs (by assumption) hk
   ·exact hk.elim
  | ret =>
   simp only [retK] at hk
   split at hk
   ·exact key _ _ _ _ _ rfl hs (by assumption) hk
   ·exact hk.elim
theorem calls_wout{f:FuncId}{fn:Func}{c:Code}(hf:P.funcs[f]? = some fn)(hb:fn.body=some c){M:List Nat}{ρ0:Env}{na:Nat}{mem0:Nat->Blk}{args:List SV}{xs:List Value}{w:World}{muts grs:List Nat}{rh:RH}(hargs:SV.denL ρ0 args xs)(hM:MemDen w.heap.size M ρ0 mem0 w)(hfr:∀ i,na<=i->ρ0 i=none)(hMb:∀ b∈M,∃ q∈muts,∃ m,ρ0 q=some m/\m.blk=b)(hmn:∀ q∈muts,q<na){R:SV->List Blk->List Blk->Prop}(h:∀ a,StDen w.heap.size M ⟨w,ρ0,na,fun _=>none,none⟩ ρ0 (initS fn.ntmps args na mem0) a w->c.wpIn (FW none) 0 P (EndQ P fn.results.toList w.heap.size M ⟨w,ρ0,na,fun _=>none,none⟩ (outK na muts grs rh R)) a w) :
  Calls P f ⟨xs⟩ w fun e w'=>∃ v U N x ρ',e=.returned x/\R v U N/\OpPost ρ0 ρ' na { v:=v,news:=N,upds:=muts.zip U } w w' x:=by
 refine (calls_wp hf hb hargs hM hfr (fun h0=>by
  cases M with
  | nil=>rfl
  | cons b l =>
   obtain ⟨q,hq,_⟩:=hMb b (by simp)
   have:=hmn q hq
   omega) h).mono ?_
 rintro e w' ⟨v,x,ρ,mem,rfl,hd,he,hlow,hodb,hm,hk,hR⟩
 unfold outK at hR
 split at hR
 ·rename_i v' U N ns hout
  rw [needs_iff] at hR
  obtain ⟨ρ',hp⟩:=out_post hM hfr hMb hmn hd he hlow hodb hm hk hout hR.1 []
  exact ⟨v',U,N,x,ρ',rfl,hR.2,hp⟩
 ·exact hR.elim
end runs
@[match_pattern] abbrev shB:List Kd:=[.int .i64,.int .i64]
@[match_pattern] abbrev shT:List Kd:=[.str,.int .i64,.int .i64,.mi [.int .i64,.int .i64,.bool],.mb,.mb,.int .i64,.bool,.m1]
@[match_pattern] abbrev shShop:List Kd:=[.sl [.str,.int .i64,.int .i64],.sl [.str,.int .i64,.int .i64,.int .i64],.sl [.pt shT],.int .i64]
def datB(L:List (Nat × Nat)):Dat:={ noDat with ii:=fun q c=>cond (decide (c=0)) (((L[q]?).getD (0,0)).1:Int) (((L[q]?).getD (0,0)).2:Int) }
end Go.Sy
