/-
 A symbolic executor for the model's code: a loop, one round of which is run ahead. Conditions: none.
-/
import Derived.Test.YtdcdjjogieojhaaGreatDoorKSyV
import Derived.Test.YtdcdjjogieojhaaGreatDoorProg
import Derived.KernelRfl
set_option linter.unusedVariables false
set_option linter.unusedSimpArgs false
set_option linter.unusedSectionVars false
namespace Go.Proofs.YtdcdjjogieojhaaGreatDoor
variable [Go.Sy.AO]
theorem A6:Tryz.prog.follows .mixedOrders=true:=by kernel_rfl
theorem TV:Go.Sy.Ag Tryz.prog Go.Sy.O9 3:=Go.Sy.Sm (fn:=Tryz.f3) Tryz.func3 (by kernel_rfl) (by kernel_rfl)
end Go.Proofs.YtdcdjjogieojhaaGreatDoor
namespace Go.Sy
open Go.RowKit
variable [AO]
variable {P:Program}
def Ff(F:Fence)(n:Nat)(P:Program)(c:Code)(Q:Exit->Act->World->Prop)(a:Act)(w:World):Prop :=
 ∀ (b:Frame) (k:List Item) (cs:List Frame),b.roundOf=F.round->F.fn b.fn->F.room (cs.length+1+n) ->
  ∃ e a' w',Q e a' w'/\ArrivesIn (Machine.fenced P F) P (lone (b.atR a (.code c :: .inLoop c :: k)) cs w) b k cs e a' w'
omit [AO] in
theorem G3{F:Fence}{n:Nat}{c:Code}{Q:Exit->Act->World->Prop}{a:Act}{w:World}(h:c.wpIn F n P (Exit.then (Ff F n P c Q) Q) a w):Ff F n P c Q a w:=by
 intro b k cs hro hb hr
 obtain ⟨e,a₁,w₁,hq,harr⟩:=h b (.inLoop c :: k) cs hro hb hr
 cases e with
 | normal =>
  obtain ⟨e₂,a₂,w₂,hq₂,harr₂⟩:=hq b k cs hro hb hr
  exact ⟨e₂,a₂,w₂,hq₂,.of_steps (StepsIn.trans harr (.one (fenced_calm hb hr rfl) stepR_inLoop)) harr₂⟩
 | exit id=>exact ⟨_,a₁,w₁,hq,.pass (x:=.inLoop c) rfl (fun _ _=>.inl (by simp)) harr⟩
 | goto l=>exact ⟨_,a₁,w₁,hq,.pass (x:=.inLoop c) rfl (fun _ _=>.inl (by simp)) harr⟩
 | ret=>exact ⟨_,a₁,w₁,hq,.pass (x:=.inLoop c) rfl (fun _ _=>.inl (by simp)) harr⟩
 | panic ch=>exact ⟨_,a₁,w₁,hq,.pass (x:=.inLoop c) rfl (fun _ _=>.inl (by simp)) harr⟩
 | outgrown=>exact ⟨_,a₁,w₁,hq,.pass (x:=.inLoop c) rfl (fun _ _=>.inl (by simp)) harr⟩
omit [AO] in
theorem HL{F:Fence}{n:Nat}{c:Code}{Q:Exit->Act->World->Prop}:∀ (m:Nat) (a:Act) (w:World),Code.roundsIn F n P c Q m a w->Ff F n P c Q a w
 | 0,_,_,h=>h.elim
 | m+1,a,w,h=>G3 (Code.wpIn_mono (fun e a w q=>by cases e <;> first | exact HL m a w q | exact q) h)
omit [AO] in
theorem Hl{F:Fence}{n:Nat}{c:Code}{Q:Exit->Act->World->Prop}{a:Act}{w:World}(h:Ff F n P c Q a w):(Code.loop c).wpIn F n P Q a w:=by
 intro b k cs hro hb hr
 obtain ⟨e,a',w',hq,harr⟩:=h b k cs hro hb hr
 exact ⟨e,a',w',hq,.of_steps (.one (fenced_calm hb hr rfl) stepR_loop) harr⟩
def Rx(P:Program)(g:AX)(c:Code)(id:Nat):Prop:=∀ (rd:Option Nat) (n:Nat) (B:Nat) (M:List Nat) (w0:BH) (s:A4) (k:EZ) (O:Env) (a:Act) (w:World) (Q:Exit->Act->World->Prop),De rd w0.df c->Ab B M w0 O s a w->g s k ->
 (∀ e s' O' a' w',Ab B M w0 O' s' a' w'->k e s'->Q e.toExit a' w')->Ff (FW rd) n P c (Exit.inBlock id Q) a w
theorem Oq{id:Nat}{k:EZ}{B:Nat}{M:List Nat}{w0:BH}{Q:Exit->Act->World->Prop}(hk:∀ e s' O' a' w',Ab B M w0 O' s' a' w'->k e s'->Q e.toExit a' w'):∀ e s' O' a' w',Ab B M w0 O' s' a' w'->AL id k e s'->Exit.inBlock id Q e.toExit a' w':=by
 intro e s' O' a' w' hs' hk'
 cases e with
 | normal=>exact hk .normal _ _ _ _ hs' hk'
 | exit j =>
  show Exit.inBlock id Q (.exit j) a' w'
  simp only [Exit.inBlock]
  simp only [AL] at hk'
  split at hk'
  .rename_i hj;rw [Nat.beq_eq] at hj;rw [if_pos hj];exact hk .normal _ _ _ _ hs' hk'
  .rename_i hj;rw [if_neg (Nat.ne_of_beq_eq_false hj)];exact hk (.exit j) _ _ _ _ hs' hk'
 | ret=>exact hk .ret _ _ _ _ hs' hk'
theorem Ka{ι:Type}{L:Tab}(hL:Cr P L)(hmix:P.follows .mixedOrders=true){Λ:Lam}{fuel:Nat}{c:Code}{id:Nat}(hΛ:Gq P c Λ)(hc:Ad c id=.loop (AU (Ad c id))){na nt nx:Nat}{Lh Le:List Nat}{gl:List GL}(G:Nat->ι->XR->Prop)(va:ι->List SV)(ba:ι->List Blk)(h0:∀ x K,¬ G 0 x K)(hs:∀ f x K,G (f+1) x K->AT P L Λ fuel (AU (Ad c id)) (Aq na nt Lh (va x) nx (ba x)) (AJ na nt Lh Le nx gl fun e vs bs=>match e with | .normal=>∃ y,vs=va y/\bs=ba y/\G f y K | .exit j=>K (.exit j) vs bs | .ret=>K .ret vs bs)){g:AX}(hg:∀ s k,g s k->∃ r,czv na nt Lh nx gl s=some r/\∃ f x,r.1=va x/\r.2=ba x/\G f x fun e vs bs=>AL id k e (Aq na nt Le vs nx bs)) :
  Rx P g (AU (Ad c id)) id:=by
 intro rd nn B M w0 s k O a w Q hr0 hd hx hk
 obtain ⟨r,hr,f,x,e1,e2,hG⟩:=hg s k hx
 obtain ⟨O1,hd1⟩:=Cu hd hr
 rw [e1,e2] at hd1
 clear e1 e2 hd hx hr
 have hq:=Oq (id:=id) hk
 have hf:=Cl (fuel:=fuel) hL hmix (AU (Ad c id)) (GU hΛ id)
 have key:∀ (f:Nat) (x:ι) (O:Env) (a:Act) (w:World),Ab B M w0 O (Aq na nt Lh (va x) nx (ba x)) a w->(G f x fun e vs bs=>AL id k e (Aq na nt Le vs nx bs))->Code.roundsIn (FW rd) nn P (AU (Ad c id)) (Exit.inBlock id Q) f a w:=by
  intro f
  induction f with
  | zero=>intro x O a w _ hG;exact (h0 x _ hG).elim
  | succ f ih =>
   intro x O a w hd hG
   rw [roundsIn_succ]
   refine hf rd nn B M w0 _ _ O a w _ hr0 hd (hs f x _ hG) fun e s' O' a' w' hs' hk'=>?_
   cases e with
   | normal =>
    have hk2:=hk'
    simp only [AJ] at hk2
    obtain ⟨r,hr,y,e1,e2,hG'⟩:=Bk hk2
    obtain ⟨O2,h1⟩:=Cu hs' hr
    rw [e1,e2] at h1
    exact ih y O2 a' w' h1 hG'
   | exit j =>
    have hk2:=hk'
    simp only [AJ] at hk2
    obtain ⟨r,hr,h2⟩:=Bk hk2
    obtain ⟨O2,h1⟩:=Cu hs' hr
    exact hq (.exit j) _ O2 a' w' h1 h2
   | ret =>
    have hk2:=hk'
    simp only [AJ] at hk2
    obtain ⟨r,hr,h2⟩:=Bk hk2
    obtain ⟨O2,h1⟩:=Cu hs' hr
    exact hq .ret _ O2 a' w' h1 h2
 exact HL f _ _ (key f x O1 a w hd1 hG)
def OC(P:Program)(L:Tab)(Λ:Lam)(fuel:Nat)(id:Nat)(c:Code)(p:A4->Bool)(g:AX):AX:=fun s k=>match p s with
 | true=>AT P L Λ fuel c s fun e s'=>match e with
  | .normal=>g s' k
  | .exit j=>match Nat.beq j id with
   | true=>k .normal s'
   | false=>k (.exit j) s'
  | .ret=>k .ret s'
 | false=>g s k
theorem OD{L:Tab}(hL:Cr P L)(hmix:P.follows .mixedOrders=true){Λ:Lam}{fuel:Nat}{c:Code}{id:Nat}(hΛ:Gq P c Λ)(hc:Ad c id=.loop (AU (Ad c id)))(p:A4->Bool){g:AX}(hg:Rx P g (AU (Ad c id)) id) :
  LOk P (OC P L Λ fuel id (AU (Ad c id)) p g) (.block id (Ad c id)):=by
 rw [hc]
 intro rd nn B M w0 s k O a w Q hr0 hd hx hk
 refine wpIn_block (Hl ?_)
 have hu:AU (Code.loop (AU (Ad c id)))=AU (Ad c id):=rfl
 rw [hu] at hx
 unfold OC at hx
 split at hx
 .refine G3 (Cl hL hmix (AU (Ad c id)) (GU hΛ id) rd nn B M w0 s _ O a w _ hr0.bk.lp hd hx fun e s' O' a' w' hs' hk'=>?_)
  cases e with
  | normal=>exact hg rd nn B M w0 s' k O' a' w' Q hr0.bk.lp hs' hk' hk
  | exit j=>exact Oq (id:=id) hk (.exit j) s' O' a' w' hs' hk'
  | ret=>exact hk .ret _ _ _ _ hs' hk'
 .exact hg rd nn B M w0 s k O a w Q hr0.bk.lp hd hx hk
def KG(j:Nat)(s:A4):Bool:=match s.mem j with
 | .cells _ (.val (.pointer none) :: _)=>true
 | _=>false
def A7:Dat:={ A3 with ss:=fun q _=>Fi.getD q ⟨#[]⟩ }
end Go.Sy
