/-
 Contracts of functions: models, equations by the kernel, contracts. Conditions: none.
-/
import Derived.Test.YtdcdjjogieojhaaGreatDoorK2
import Derived.KernelRfl
set_option linter.unusedVariables false
set_option linter.unusedSimpArgs false
set_option linter.unusedSectionVars false
namespace Go.Proofs.YtdcdjjogieojhaaGreatDoor
open Go Go.Sy Go.RowKit Go.ChangeMaps
noncomputable section
set_option maxRecDepth 100000
set_option maxHeartbeats 2000000
attribute [local instance 2000] Go.Sy.G0
/-! ### helpers: sorted -/
def c59:Code:=Tryz.f59.body.getD .skip
def c59a:Code:=match c59 with | .seq a _=>a | c=>c
def c59b:Code:=match c59 with | .seq _ (.seq b _)=>b | c=>c
def c59r:Code:=match c59 with | .seq _ (.seq _ (.seq (.seq r _) _))=>r | c=>c
def c59n:Code:=match c59 with | .seq _ (.seq _ (.seq (.seq _ (.block _ (.loop (.seq n _)))) _))=>n | c=>c
def c59x:Code:=match c59 with | .seq _ (.seq _ (.seq (.seq _ (.block _ (.loop (.seq _ (.seq _ (.block _ x)))))) _))=>x | c=>c
def c59t:Code:=match c59 with | .seq _ (.seq _ (.seq _ t))=>t | c=>c
theorem c59_eq:c59=.seq c59a (.seq c59b (.seq (.seq c59r (.block 0 (.loop (.seq c59n (.seq (.cond (.tmp 10) .skip (.exit 0)) (.block 1 c59x)))))) c59t)):=by kernel_rfl
theorem c59r_eq:∃ t1 p1 a1 t2 p2 a2,c59r=.region 2 #[⟨some 7,.move (.tmp 0),t1,p1,a1,none⟩,⟨some 8,.range 120 (.tmp 7),t2,p2,a2,none⟩] false:=⟨_,_,_,_,_,_,rfl⟩
theorem c59n_eq:∃ t1 p1 a1 t2 p2 a2,c59n=.region 3 #[⟨some 9,.next (.tmp 8) false,t1,p1,a1,none⟩,⟨some 10,.extract (.tmp 9) 0,t2,p2,a2,none⟩] false:=⟨_,_,_,_,_,_,rfl⟩
def c59o:List Oper:=match c59x with | .seq (.region _ o _) _=>o.toList.drop 2 | _=>[]
def c59y:Code:=match c59x with | .seq _ y=>y | c=>c
theorem c59x_eq:∃ t1 p1 a1 t2 p2 a2,c59x=.seq (.region 4 (⟨some 11,.entry (.tmp 8),t1,p1,a1,none⟩ :: ⟨some 12,.extract (.tmp 11) 0,t2,p2,a2,none⟩ :: c59o).toArray false) c59y:=⟨_,_,_,_,_,_,rfl⟩
theorem Aa{a:Act}{t:Nat}{x:Value}(h:t<a.tmps.size):(a.put (some t) x).eval (.tmp t)=x:=by
 simp [Act.eval,Act.put,Array.getD_eq_getD_getElem?,h]
theorem Ap{a:Act}{t u:Nat}{x:Value}(h:u≠t):(a.put (some u) x).eval (.tmp t)=a.eval (.tmp t):=by
 simp [Act.eval,Act.put,Array.getD_eq_getD_getElem?,Array.getElem?_setIfInBounds_ne h]
theorem J8{α:Type}[DecidableEq α]:∀ {V S:List α},V.Nodup->(∀ p∈V,p∈S)->V.length<=S.length
 | [],_,_,_=>by simp
 | a :: V,S,hV,hs=>by
  rw [List.nodup_cons] at hV
  have ha:=hs a (by simp)
  have:=J8 (V:=V) (S:=S.erase a) hV.2 fun p hp=>(List.mem_erase_of_ne (fun e=>hV.1 (by rw [<- e];exact hp))).2 (hs p (by simp [hp]))
  rw [List.length_erase_of_mem ha] at this
  have:=List.length_pos_of_mem ha
  simp only [List.length_cons]
  omega
theorem Fz:Tryz.prog.underlying 120=some (.map 156 4):=by kernel_rfl
theorem Ib:CC Tryz.prog 156 AE:=Kg (by kernel_rfl)
def Pg(d:Dat)(f:Int × Int->Option Value):Prop:=∀ p:Int × Int,f p=if (decide (0<=p.1)&&decide (0<=p.2)&&d.bb p.1.toNat p.2.toNat)=true then some (.bool true) else none
theorem Sd{O:Env}{L:List (Nat × Nat)}{n:Nat}{d:Dat}{x:Value}(hn:L.length=n)(h:∀ q (hq:q<L.length),rowB d q=((L[q].1:Int),(L[q].2:Int)))(hd:(SV.ro shB n d).den O x):(SV.ro shB L.length (OZ L)).den O x:=by
 obtain ⟨A,cap,rfl,hc,hA⟩:=hd
 subst hn
 refine ⟨A,cap,rfl,hc,fun h0=>?_⟩
 obtain ⟨b,o,ha,hq⟩:=hA h0
 refine ⟨b,o,ha,fun q hl=>?_⟩
 obtain ⟨⟨y0,hy0,h0⟩,⟨y1,hy1,h1⟩,_⟩:=hq q hl
 have hr:=h q hl
 have e0:y0=.int .i64 ((OZ L).ii q 0):=by
  have:y0=.int .i64 (d.ii q 0):=h0
  rw [this]
  have e:d.ii q 0=(L[q].1:Int):=congrArg Prod.fst hr
  simp [OZ,e,List.getElem?_eq_getElem hl]
 have e1:y1=.int .i64 ((OZ L).ii q 1):=by
  have:y1=.int .i64 (d.ii q 1):=h1
  rw [this]
  have e:d.ii q 1=(L[q].2:Int):=congrArg Prod.snd hr
  simp [OZ,e,List.getElem?_eq_getElem hl]
 exact ⟨⟨y0,hy0,e0⟩,⟨y1,hy1,e1⟩,trivial⟩
/-! ### shotline/kit.sorted with 78 -/
def p59c60(e:Dat)(d:Dat)(c n:Nat):Bool:=d.bb c n&&m60 e (c:Int) (n:Int)
def m59c60(e:Dat)(d:Dat):List (Nat × Nat):=C2 (d.sn 0 0) (d.sn 0 1) (p59c60 e d)
def n59c60(e:Dat)(d:Dat):Bool:=decide ((m59c60 e d).length<=12)&&(List.range (d.sn 0 0)).all fun c=>(List.range (d.sn 0 1)).all fun n=>!(d.bb c n)||n60 e (c:Int) (n:Int)
def g59c60:List SV->List Blk->Option Ae:=fun vs bs=>match vs,bs with
 | [.mp .mb d,.fb 60 [.rp [.sl [.str,.int .i64,.int .i64],.sl [.str,.int .i64,.int .i64,.int .i64],.sl [.pt [.str,.int .i64,.int .i64,.mi [.int .i64,.int .i64,.bool],.mb,.mb,.int .i64,.bool,.m1]],.int .i64] e 0 0]],[]=>some { v:=.ro [.int .i64,.int .i64] (m59c60 e d).length (OZ (m59c60 e d)),need:=[n59c60 e d] }
 | _,_=>none
def c59c60:Ctr:=AA [.k,.f [.rp [.sl [.str,.int .i64,.int .i64],.sl [.str,.int .i64,.int .i64,.int .i64],.sl [.pt [.str,.int .i64,.int .i64,.mi [.int .i64,.int .i64,.bool],.mb,.mb,.int .i64,.bool,.m1]],.int .i64]]] g59c60
theorem y75a78(e:Dat)(d:Dat)(R:XR):AT Tryz.prog [] (fun _=>none) 8 c59a (Cb Tryz.f59.ntmps [.mp .mb d,.fb 60 [.rp BG e 0 0]] 0 (Ah [])) (AJ 0 Tryz.f59.ntmps [0,1] [] 0 [] R)=R .normal [.mp .mb d,.fb 60 [.rp BG e 0 0]] []:=by kernel_rfl
theorem y75b78(e:Dat)(d:Dat)(R:XR):AT Tryz.prog [] (fun _=>none) 8 c59b (Aq 0 Tryz.f59.ntmps [0,1] [.mp .mb d,.fb 60 [.rp BG e 0 0]] 0 []) (AJ 0 Tryz.f59.ntmps [0,1,5] [] 0 [] R)=R .normal [.mp .mb d,.fb 60 [.rp BG e 0 0],.nsl] []:=by kernel_rfl
theorem y75z78(e:Dat)(p:Value)(d:Dat):czv 0 Tryz.f59.ntmps [1,5,8] 1 [⟨true,5,0,0,156,shB⟩] (((Aq 0 Tryz.f59.ntmps [0,1,5] [.mp .mb d,.fb 60 [.rp BG e 0 0],.nsl] 0 []).put (some 7) .any).put (some 8) (.val p))=some ([.fb 60 [.rp BG e 0 0],.gr 0 2 0,.val p],[.row 156 shB 0 A3]):=by kernel_rfl
theorem y75x78(e:Dat)(p:Value)(c k:Int)(n m:Nat)(d:Dat)(R:XR):Lj Tryz.prog (IT false [(60,c60)]) (match c59x with | .seq (.region _ o _) _=>o | _=>#[]) c59o ((((Aq 0 Tryz.f59.ntmps [1,5,8] [.fb 60 [.rp BG e 0 0],.gr 0 2 n,.val p] 1 [.row 156 shB m d]).put (some 9) .any).put (some 10) .any |>.put (some 11) .any).put (some 12) (.agg [.int .i64 c,.int .i64 k])) (fun s'=>AT Tryz.prog [(60,c60)] (fun _=>none) 8 c59y s' (AJ 0 Tryz.f59.ntmps [1,5,8] [] 1 [⟨true,5,0,0,156,shB⟩] R)) =
 cnd (n60 e c k) (cnd (m60 e c k) (cnd (decide (n<=m)) (cnd (decide (n+1<=1073741824)) (R .normal [.fb 60 [.rp BG e 0 0],.gr 0 2 (n+1),.val p] [.row 156 shB (n+1) (d.app n (Aw [SV.int IntKind.i64 c,SV.int IntKind.i64 k] 2))]) False) False)
  (R .normal [.fb 60 [.rp BG e 0 0],.gr 0 2 n,.val p] [.row 156 shB m d])) False:=by kernel_rfl
theorem y75t78(e:Dat)(p:Value)(n m:Nat)(d:Dat)(R:SV->List Blk->List Blk->Prop):AT Tryz.prog [(85,c85c86)] (fun _=>none) 8 c59t (((Aq 0 Tryz.f59.ntmps [1,5,8] [.fb 60 [.rp BG e 0 0],.gr 0 2 n,.val p] 1 [.row 156 shB m d]).put (some 9) .any).put (some 10) .any) (EQ Tryz.prog Tryz.f59.results.toList (DT 0 [] [] (.ro shB) R)) =
 cnd (n85c86 n m d) (cnd (decide (0+n<=(m85c86 n m d).1)) (R (.ro shB n (m85c86 n m d).2) [] []) False) False:=by kernel_rfl
theorem k59c60:Ag Tryz.prog c59c60 59:=by
 refine BM ⟨Tryz.f59,Tryz.func59,rfl,by kernel_rfl⟩ fun vs bs q hq hn O1 M xs w hd hm hfr hMb=>?_
 unfold g59c60 at hq
 split at hq <;> cases hq

 rename_i d e
 have hn':n59c60 e d=true:=hn _ (List.mem_singleton.2 rfl)
 simp only [n59c60,Bool.and_eq_true,decide_eq_true_eq,List.all_eq_true,List.mem_range,Bool.or_eq_true,Bool.not_eq_true'] at hn'
 obtain ⟨h12,hnd⟩:=hn'
 have hM0:M=[]:=by
  cases M with
  | nil=>rfl
  | cons b l=>obtain ⟨i,hi,_⟩:=hMb b (by simp);simp at hi
 subst hM0
 refine (N4 (fn:=Tryz.f59) (c:=c59) Tryz.func59 rfl (muts:=[]) (grs:=[]) (rh:=.ro shB) hd hm hfr (fun b hb=>by simp at hb) (fun q hq=>by simp at hq)
  (R:=fun v U N=>∃ d',v=.ro shB (m59c60 e d).length d'/\(∀ q (hq:q<(m59c60 e d).length),rowB d' q=(((m59c60 e d)[q].1:Int),((m59c60 e d)[q].2:Int)))/\U=[]/\N=[]) fun a hS=>?_).mono ?_
 rotate_left
 .rintro e' w' ⟨v,U,N,x,O',rfl,⟨d',rfl,hd',rfl,rfl⟩,hp⟩
  exact ⟨x,O',rfl,Sd rfl hd' hp.val,hp.ext,hp.old,hp.os,hp.tape,hp.output,hp.size,hp.keep,hp.odn,hp.upd,hp.new,hp.newapart⟩
 rw [c59_eq]
 refine wpIn_seq (LH AM A6 (Bu (y75a78 e d _) ⟨rfl,rfl,rfl⟩) (.inl ⟨rfl,rfl⟩) hS fun O2 a2 w2 h2=>?_)
 refine wpIn_seq (LH AM A6 (Bu (y75b78 e d _) ⟨rfl,rfl,rfl⟩) (.inl ⟨rfl,rfl⟩) h2 fun O3 a3 w3 h3=>?_)
 clear h2 hS
 refine Go.wpIn_mono (Q:=(HX Tryz.prog Tryz.f59.results.toList w.heap.size [] ⟨w,O3,0,fun _=>none,none⟩ (DT 0 [] [] (.ro shB) fun v U N=>∃ d',v=.ro shB (m59c60 e d).length d'/\(∀ q (hq:q<(m59c60 e d).length),rowB d' q=(((m59c60 e d)[q].1:Int),((m59c60 e d)[q].2:Int)))/\U=[]/\N=[]))) ?_ fun e a w h=>HX.unbase h3.ext h3.odb (fun i=>h3.argn i (Nat.zero_le i)) h
 replace h3:=h3.rebase rfl
 obtain ⟨b,es,cl,f,he0,hb,hob,hf,hbd⟩:=AF h3.tmDen (Az.nil a3) (.tmp 0)
 have hfm:Pg d f:=hf
 have hbd':∀ i j:Nat,d.bb i j=true->i<d.sn 0 0/\j<d.sn 0 1:=hbd
 have hat:B5 w3 b AE f:=⟨es,cl,h3.mem.seal_.m b _ hb,hob⟩
 obtain ⟨o,cnt,hrun,hit⟩:=hat.range Fz
 have hsz3:a3.tmps.size=23:=h3.size
 -- what follows the loop
 have rest:∀ (V:List (Nat × Nat)) (m:Nat) (dd:Dat) (p:Value) (O:Env) (a:Act) (w4:World),Ab w.heap.size [] ⟨w,O3,0,fun _=>none,none⟩ O (((Aq 0 Tryz.f59.ntmps [1,5,8] [.fb 60 [.rp BG e 0 0],.gr 0 2 V.length,.val p] 1 [.row 156 shB m dd]).put (some 9) .any).put (some 10) .any) a w4->V.Nodup->V.length<=m->m<=1000000->(∀ p:Nat × Nat,p∈V↔p59c60 e d p.1 p.2=true)->(∀ q (hq:q<V.length),rowB dd q=((V[q].1:Int),(V[q].2:Int))) ->
   c59t.wpIn (FW none) 0 Tryz.prog (HX Tryz.prog Tryz.f59.results.toList w.heap.size [] ⟨w,O3,0,fun _=>none,none⟩ (DT 0 [] [] (.ro shB) fun v U N=>∃ d',v=.ro shB (m59c60 e d).length d'/\(∀ q (hq:q<(m59c60 e d).length),rowB d' q=(((m59c60 e d)[q].1:Int),((m59c60 e d)[q].2:Int)))/\U=[]/\N=[])) a w4:=by
  intro V m dd p O a w4 hst hnod hVm hmm hV hrow
  have hVS:∀ p,p∈V->p∈m59c60 e d:=fun p hp=>by
   have h1:=(hV p).1 hp
   have h2:d.bb p.1 p.2=true:=by simp only [p59c60,Bool.and_eq_true] at h1;exact h1.1
   exact Dc.2 ⟨(hbd' _ _ h2).1,(hbd' _ _ h2).2,h1⟩
  have hlen:=J8 hnod hVS
  obtain ⟨hn97,d',hm97,hr97⟩:=Tp (n:=V.length) (m:=m) hVm hmm (by omega) dd
  obtain ⟨hl,hrows⟩:=QY (C:=d.sn 0 0) (N:=d.sn 0 1) (g:=p59c60 e d) hnod (fun p=>⟨fun hp=>Dc.1 (hVS p hp),fun h=>(hV p).2 h.2.2⟩) rfl hrow
  refine Cl (B8 k85c86 AM) A6 c59t As none 0 w.heap.size [] ⟨w,O3,0,fun _=>none,none⟩ _ _ O a w4 _ (.inl ⟨rfl,rfl⟩) hst (Bu (y75t78 e p V.length m dd _) ?_) fun e' s' O' a' w' hs hk=>⟨e',O',s',rfl,hs,hk⟩
  refine AH hn97 (AH ?_ ⟨d',?_,?_,rfl,rfl⟩)
  .rw [hm97];simpa using hVm
  .rw [hm97]
   show SV.ro shB V.length d'=SV.ro shB (C2 (d.sn 0 0) (d.sn 0 1) (p59c60 e d)).length d'
   rw [hl]
  .intro q hq
   rw [hr97]
   exact hrows q hq
 refine wpIn_seq (wpIn_seq ?_)
 obtain ⟨t1,p1,a1',t2,p2,a2',hR⟩:=c59r_eq
 rw [hR]
 refine wpIn_region_list ?_
 refine Ai rfl (x:=a3.eval (.tmp 0)) (w':=w3) (by simp [execOp]) ?_
 refine Ai rfl (x:=.pointer (some ⟨w3.heap.size,0,none⟩)) (w':=w3.alloc o) ?_ ?_
 .have e1:(a3.put (some 7) (a3.eval (.tmp 0))).eval (.tmp 7)=.map (some b):=by rw [Aa (by omega)];exact he0
  simp only [execOp,e1]
  simp [hrun]
 show Code.wpIn (FW none) 0 Tryz.prog (.block 0 _) _ _ _
 have h4:Ab w.heap.size [] ⟨w,O3,0,fun _=>none,none⟩ O3 (((Aq 0 Tryz.f59.ntmps [0,1,5] [.mp .mb d,.fb 60 [.rp BG e 0 0],.nsl] 0 []).put (some 7) .any).put (some 8) (.val (.pointer (some ⟨w3.heap.size,0,none⟩)))) ((a3.put (some 7) (a3.eval (.tmp 0))).put (some 8) (.pointer (some ⟨w3.heap.size,0,none⟩))) (w3.alloc o) :=
  ((h3.turn (r:=w3.heap.size) h3.base (.inl (by simp)) rfl (fun k hk _=>Below.heap_alloc w3 o k hk) (by simp) rfl rfl rfl).putv (dst:=some 7) (v:=.any) trivial (by intro _ _ _ e;cases e)).putv (dst:=some 8) (v:=.val _) rfl (by intro _ _ _ e;cases e)
 obtain ⟨O5,h5⟩:=Cu h4 (y75z78 e _ d)
 have hBr:w.heap.size<=w3.heap.size:=h3.base
 generalize (a3.put (some 7) (a3.eval (.tmp 0))).put (some 8) (.pointer (some ⟨w3.heap.size,0,none⟩))=a5 at h5 ⊢
 generalize w3.alloc o=w5 at h5 hit ⊢
 generalize w3.heap.size=r at h5 hit hBr ⊢
 clear h4 h3 hrun hat hR hob he0 hbd
 refine wpIn_block (wpIn_loop_rounds (cnt+1) ?_)
 -- the rounds
 have rounds:∀ (fu cnt:Nat),cnt+1<=fu->∀ (V:List (Nat × Nat)) (left:Int × Int->Bool) (m:Nat) (dd:Dat) (O:Env) (a:Act) (w6:World),Ab w.heap.size [] ⟨w,O3,0,fun _=>none,none⟩ O (Aq 0 Tryz.f59.ntmps [1,5,8] [.fb 60 [.rp BG e 0 0],.gr 0 2 V.length,.val (.pointer (some ⟨r,0,none⟩))] 1 [.row 156 shB m dd]) a w6->BL w6 r b AE f left cnt ->
   V.Nodup->V.length<=m->m=V.length->(∀ p:Nat × Nat,p∈V↔p59c60 e d p.1 p.2=true/\left ((p.1:Int),(p.2:Int))=false)->(∀ p:Int × Int,left p=true->(f p).isSome=true)->(∀ q (hq:q<V.length),rowB dd q=((V[q].1:Int),(V[q].2:Int))) ->
   Code.roundsIn (FW none) 0 Tryz.prog (.seq c59n (.seq (.cond (.tmp 10) .skip (.exit 0)) (.block 1 c59x))) (Exit.inBlock 0 (Exit.then (c59t.wpIn (FW none) 0 Tryz.prog (HX Tryz.prog Tryz.f59.results.toList w.heap.size [] ⟨w,O3,0,fun _=>none,none⟩ (DT 0 [] [] (.ro shB) fun v U N=>∃ d',v=.ro shB (m59c60 e d).length d'/\(∀ q (hq:q<(m59c60 e d).length),rowB d' q=(((m59c60 e d)[q].1:Int),((m59c60 e d)[q].2:Int)))/\U=[]/\N=[])))
    (HX Tryz.prog Tryz.f59.results.toList w.heap.size [] ⟨w,O3,0,fun _=>none,none⟩ (DT 0 [] [] (.ro shB) fun v U N=>∃ d',v=.ro shB (m59c60 e d).length d'/\(∀ q (hq:q<(m59c60 e d).length),rowB d' q=(((m59c60 e d)[q].1:Int),((m59c60 e d)[q].2:Int)))/\U=[]/\N=[])))) fu a w6:=by
  intro fu
  induction fu with
  | zero=>intro cnt h0;omega
  | succ fu ih =>
  intro cnt hfu V left m dd O a w6 h6 hit hnod hVm hmV hV hleft hrow
  have hsz:a.tmps.size=23:=h6.size
  have e8:a.eval (.tmp 8)=.pointer (some ⟨r,0,none⟩):=AF h6.tmDen (Az.nil a) (.tmp 8)
  have hVS:∀ p,p∈V->p∈m59c60 e d:=fun p hp=>by
   have h1:=((hV p).1 hp).1
   have h2:d.bb p.1 p.2=true:=by simp only [p59c60,Bool.and_eq_true] at h1;exact h1.1
   exact Dc.2 ⟨(hbd' _ _ h2).1,(hbd' _ _ h2).2,h1⟩
  have hlen:=J8 hnod hVS
  rw [roundsIn_succ]
  refine wpIn_seq ?_
  obtain ⟨t1,p1,a1',t2,p2,a2',hN⟩:=c59n_eq
  rw [hN]
  refine wpIn_region_list ?_
  rcases hit.next Ib t1 with ⟨hno,hrun⟩ | ⟨pk,v,w7,o,cnt',hl,hfv,hw7,hrun,hent,hit',hcnt⟩
  ·-- none is left
   refine Ai rfl (x:=.tuple #[.bool false]) (w':=w6) (by simp only [execOp,e8];simp [hrun]) ?_
   refine Ai rfl (x:=.bool false) (w':=w6) (by simp only [execOp,Aa (show 9<a.tmps.size by omega)];simp [Instr.extract]) ?_
   refine wpIn_seq (wpIn_cond (t:=false) (Aa (by rw [Ar];omega)) (wpIn_exit ?_))
   show Code.wpIn (FW none) 0 Tryz.prog c59t _ _ _
   refine rest V m dd (.pointer (some ⟨r,0,none⟩)) O _ w6 ((h6.putv (dst:=some 9) (v:=.any) trivial (by intro _ _ _ e;cases e)).putv (dst:=some 10) (v:=.any) trivial (by intro _ _ _ e;cases e)) hnod hVm (by omega) (fun p=>?_) hrow
   rw [hV]
   exact ⟨fun h=>h.1,fun h=>⟨h,hno _⟩⟩
  ·-- one more
   obtain ⟨b0,s0,n0,c0,hr0⟩:∃ b s n c,w6.heap[r]? = some (.mapIter b s n c):=by obtain ⟨_,_,_,_,_,_,h,_⟩:=hit;exact ⟨_,_,_,_,h⟩
   refine Ai rfl (x:=.tuple #[.bool true,AE pk,v]) (w':=setBlock w7 r o) (by simp only [execOp,e8];simp [hrun]) ?_
   refine Ai rfl (x:=.bool true) (w':=setBlock w7 r o) (by simp only [execOp,Aa (show 9<a.tmps.size by omega)];simp [Instr.extract]) ?_
   refine wpIn_seq (wpIn_cond (t:=true) (Aa (by rw [Ar];omega)) (wpIn_skip ?_))
   refine wpIn_block ?_
   have h7:Ab w.heap.size [] ⟨w,O3,0,fun _=>none,none⟩ O (Aq 0 Tryz.f59.ntmps [1,5,8] [.fb 60 [.rp BG e 0 0],.gr 0 2 V.length,.val (.pointer (some ⟨r,0,none⟩))] 1 [.row 156 shB m dd]) a (setBlock w7 r o):=by
    refine h6.turn hBr (.inr ⟨b0,s0,n0,c0,hr0⟩) rfl (fun k _ hk=>?_) ?_ ?_ ?_ ?_
    .rw [At _ _ hk];rcases hw7 with rfl | rfl <;> rfl
    .rcases hw7 with rfl | rfl <;> simp [setBlock]
    all_goals (rcases hw7 with rfl | rfl <;> rfl)
   obtain ⟨pc,pn⟩:=pk
   have hpos:=hleft _ hl
   rw [hfm] at hpos
   have hcond:(decide (0<=pc)&&decide (0<=pn)&&d.bb pc.toNat pn.toNat)=true:=by
    cases hc:(decide (0<=pc)&&decide (0<=pn)&&d.bb pc.toNat pn.toNat)
    .rw [if_neg (by show ¬ (decide (0<=pc)&&decide (0<=pn)&&d.bb pc.toNat pn.toNat)=true;rw [hc];simp)] at hpos;cases hpos
    .rfl
   simp only [Bool.and_eq_true,decide_eq_true_eq] at hcond
   obtain ⟨c,rfl⟩:=Int.eq_ofNat_of_zero_le hcond.1.1
   obtain ⟨k,rfl⟩:=Int.eq_ofNat_of_zero_le hcond.1.2
   have hbb:d.bb c k=true:=by simpa using hcond.2
   obtain ⟨t3,p3,a3',t4,p4,a4',hX⟩:=c59x_eq
   rw [hX]
   refine wpIn_seq (wpIn_region_list ?_)
   simp only [List.toList_toArray]
   refine Ai rfl (x:=.tuple #[AE ((c:Int),(k:Int)),v]) (w':=setBlock w7 r o) (by
    have e8':((a.put (some 9) (.tuple #[.bool true,AE ((c:Int),(k:Int)),v])).put (some 10) (.bool true)).eval (.tmp 8)=.pointer (some ⟨r,0,none⟩):=by rw [Ap (by omega),Ap (by omega)];exact e8
    simp only [execOp,e8'];simp [hent]) ?_
   refine Ai rfl (x:=AE ((c:Int),(k:Int))) (w':=setBlock w7 r o) (by simp only [execOp,Aa (show 11<((a.put (some 9) (.tuple #[.bool true,AE ((c:Int),(k:Int)),v])).put (some 10) (.bool true)).tmps.size by rw [Ar,Ar];omega)];simp [Instr.extract]) ?_
   have h8:=(((h7.putv (dst:=some 9) (v:=.any) (x:=.tuple #[.bool true,AE ((c:Int),(k:Int)),v]) trivial (by intro _ _ _ e;cases e)).putv (dst:=some 10) (v:=.any) (x:=.bool true) trivial (by intro _ _ _ e;cases e)).putv (dst:=some 11) (v:=.any) (x:=.tuple #[AE ((c:Int),(k:Int)),v]) trivial (by intro _ _ _ e;cases e)).putv (dst:=some 12) (v:=.agg [.int .i64 (c:Int),.int .i64 (k:Int)]) (x:=AE ((c:Int),(k:Int))) ⟨_,rfl,rfl,rfl,trivial⟩ (by intro _ _ _ e;cases e)
   have hop:(⟨some 11,.entry (.tmp 8),t3,p3,a3',none⟩ :: ⟨some 12,.extract (.tmp 11) 0,t4,p4,a4',none⟩ :: c59o:List Oper).toArray=(match c59x with | .seq (.region _ o _) _=>o | _=>#[]):=by rw [hX]
   rw [hop]
   -- the iterator stays as it is while the rest is carried out
   obtain ⟨es1,cl1,since1,seen1,c01,hbm,hrm,hmo,hold1,hs1,hs2,hl1,hc1⟩:=hit'
   have h9:Ab w.heap.size [] ⟨w,O3,0,fun x=>if x=r then some (.mapIter (some b) since1 seen1 c01) else none,none⟩ O (((((Aq 0 Tryz.f59.ntmps [1,5,8] [.fb 60 [.rp BG e 0 0],.gr 0 2 V.length,.val (.pointer (some ⟨r,0,none⟩))] 1 [.row 156 shB m dd]).put (some 9) .any).put (some 10) .any).put (some 11) .any).put (some 12) (.agg [.int .i64 (c:Int),.int .i64 (k:Int)])) _ (setBlock w7 r o) :=
    ⟨⟨fun x o' hx=>by
      have hx':(if x=r then some (Obj.mapIter (some b) since1 seen1 c01) else none)=some o':=hx
      split at hx' <;> cases hx'
      rename_i exr
      subst exr
      refine ⟨hrm,fun i mm hi hm e=>?_,fun q=>?_,?_⟩
      .obtain ⟨cc,ee,hcc⟩:=Blk.den_cells (h8.mem.get hi hm).2.1 hi
       rw [e,hrm] at hcc;cases hcc
      .cases hoq:O.od x q with
       | none=>rfl
       | some vv =>
        have:=h8.mem.seal_ x q vv hoq
        simp [World.cell?,hrm] at this
      .cases hom:O.od.m x with
       | none=>rfl
       | some vv =>
        have:=h8.mem.seal_.m x vv hom
        rw [hrm] at this
        exact absurd this (by simp),h8.defs.at_,h8.defs.nd,h8.defs.same_⟩,h8.size,h8.tmp,h8.fresh,h8.mem,h8.kept,h8.base,h8.ext,h8.argn,h8.argl,h8.nab,h8.nale,h8.odb,h8.mz⟩
   have after:∀ (V':List (Nat × Nat)) (m':Nat) (d':Dat) (O':Env) (a':Act) (w':World),Ab w.heap.size [] ⟨w,O3,0,fun x=>if x=r then some (.mapIter (some b) since1 seen1 c01) else none,none⟩ O' (Aq 0 Tryz.f59.ntmps [1,5,8] [.fb 60 [.rp BG e 0 0],.gr 0 2 V'.length,.val (.pointer (some ⟨r,0,none⟩))] 1 [.row 156 shB m' d']) a' w' ->
     O'.od.m b=some (es1,cl1)->V'.Nodup->V'.length<=m'->m'=V'.length->(∀ p:Nat × Nat,p∈V'↔p59c60 e d p.1 p.2=true/\(left ((p.1:Int),(p.2:Int))&&!decide (((p.1:Int),(p.2:Int))=((c:Int),(k:Int))))=false)->(∀ q (hq:q<V'.length),rowB d' q=((V'[q].1:Int),(V'[q].2:Int))) ->
     Code.roundsIn (FW none) 0 Tryz.prog (.seq c59n (.seq (.cond (.tmp 10) .skip (.exit 0)) (.block 1 c59x))) (Exit.inBlock 0 (Exit.then (c59t.wpIn (FW none) 0 Tryz.prog (HX Tryz.prog Tryz.f59.results.toList w.heap.size [] ⟨w,O3,0,fun _=>none,none⟩ (DT 0 [] [] (.ro shB) fun v U N=>∃ d',v=.ro shB (m59c60 e d).length d'/\(∀ q (hq:q<(m59c60 e d).length),rowB d' q=(((m59c60 e d)[q].1:Int),((m59c60 e d)[q].2:Int)))/\U=[]/\N=[])))
      (HX Tryz.prog Tryz.f59.results.toList w.heap.size [] ⟨w,O3,0,fun _=>none,none⟩ (DT 0 [] [] (.ro shB) fun v U N=>∃ d',v=.ro shB (m59c60 e d).length d'/\(∀ q (hq:q<(m59c60 e d).length),rowB d' q=(((m59c60 e d)[q].1:Int),((m59c60 e d)[q].2:Int)))/\U=[]/\N=[])))) fu a' w':=by
    intro V' m' d' O' a' w' hst hmb hnod' hVm' hmV' hV' hrow'
    have hhb:=hst.mem.seal_.m b _ hmb
    have hhr:=(hst.defs.ob r _ (show (if r=r then some (Obj.mapIter (some b) since1 seen1 c01) else none)=some _ from if_pos rfl)).at_
    have hit2:BL w' r b AE f (fun x=>left x&&!decide (x=((c:Int),(k:Int)))) cnt':=⟨es1,cl1,since1,seen1,c01,hhb,hhr,hmo,hold1,hs1,hs2,hl1,hc1⟩
    have hst':Ab w.heap.size [] ⟨w,O3,0,fun _=>none,none⟩ O' (Aq 0 Tryz.f59.ntmps [1,5,8] [.fb 60 [.rp BG e 0 0],.gr 0 2 V'.length,.val (.pointer (some ⟨r,0,none⟩))] 1 [.row 156 shB m' d']) a' w' :=
     ⟨⟨fun x o' hx=>(by cases hx),hst.defs.at_,hst.defs.nd,hst.defs.same_⟩,hst.size,hst.tmp,hst.fresh,hst.mem,hst.kept,hst.base,hst.ext,hst.argn,hst.argl,hst.nab,hst.nale,hst.odb,hst.mz⟩
    exact ih cnt' (by omega) V' (fun x=>left x&&!decide (x=((c:Int),(k:Int)))) m' d' O' a' w' hst' hit2 hnod' hVm' hmV' hV' (fun p hp=>hleft p (by simp only [Bool.and_eq_true] at hp;exact hp.1)) hrow'
   -- the rest of the round
   rw [hN,hX,hop] at after
   have hee:es1=es/\cl1=cl:=by
    have h1:=h9.mem.seal_.m b _ (h9.ext.od.m b _ hb)
    rw [hbm] at h1
    have:=Option.some.inj h1
    injection this with e1 e2
    exact ⟨e1,e2⟩
   obtain ⟨rfl,rfl⟩:=hee
   have hl1:left ((c:Int),(k:Int))=true:=hl
   have hcV:(c,k) ∉ V:=fun h=>by
    have:=((hV (c,k)).1 h).2
    rw [hl1] at this;cases this
   refine Ha (Fe (B8 k60 AM)) (k:=fun s'=>AT Tryz.prog [(60,c60)] (fun _=>none) 8 c59y s' (AJ 0 Tryz.f59.ntmps [1,5,8] [] 1 [⟨true,5,0,0,156,shB⟩] fun xe v bs=>xe=.normal/\((m60 e (c:Int) (k:Int)=true/\v=[.fb 60 [.rp BG e 0 0],.gr 0 2 (V.length+1),.val (.pointer (some ⟨r,0,none⟩))]/\bs=[.row 156 shB (V.length+1) (dd.app V.length (Aw [SV.int IntKind.i64 c,SV.int IntKind.i64 k] 2))])\/(m60 e (c:Int) (k:Int)=false/\v=[.fb 60 [.rp BG e 0 0],.gr 0 2 V.length,.val (.pointer (some ⟨r,0,none⟩))]/\bs=[.row 156 shB m dd]))))
    (fun s' O' a' w' hs hx=>?_) _ _ O _ _ h9 (Bu (y75x78 e (.pointer (some ⟨r,0,none⟩)) c k V.length m dd _) ?_)
   .refine Cw (B8 k60 AM) A6 hx (.inl ⟨rfl,rfl⟩) hs fun vs bs O2 a2 w2 hR h2=>?_
    rcases hR with ⟨hm78,rfl,rfl⟩ | ⟨hm78,rfl,rfl⟩
    .have eV:(V ++ [(c,k)]).length=V.length+1:=by simp
     rw [<- eV] at h2
     refine after (V ++ [(c,k)]) _ _ O2 a2 w2 h2 (h2.ext.od.m b _ hb) ?_ (Nat.le_refl _) rfl (fun p=>?_) fun q hq=>?_
     .rw [List.nodup_append]
      refine ⟨hnod,by simp,fun x hx y hy e=>?_⟩
      rw [List.mem_singleton] at hy
      rw [e,hy] at hx
      exact hcV hx
     .rw [List.mem_append,List.mem_singleton]
      by_cases hp:p=(c,k)
      .subst hp
       simp [p59c60,hbb,hm78]
      .have hp':¬ ((p.1:Int),(p.2:Int))=((c:Int),(k:Int)):=fun e=>hp (by
        have e1:=congrArg Prod.fst e
        have e2:=congrArg Prod.snd e
        simp only at e1 e2
        exact Prod.ext (by omega) (by omega))
       rw [hV p]
       simp [hp,hp']
     .by_cases hqV:q<V.length
      .have:=hrow q hqV
       rw [List.getElem_append_left hqV,<- this]
       simp [rowB,Dat.app,Is hqV]
      .have hqe:q=V.length:=by omega
       subst hqe
       rw [List.getElem_append_right (Nat.le_refl _)]
       simp [rowB,Dat.app,Aw,IW,O7 (Nat.lt_irrefl V.length)]
    .refine after V _ _ O2 a2 w2 h2 (h2.ext.od.m b _ hb) hnod hVm hmV (fun p=>?_) hrow
     by_cases hp:p=(c,k)
     .subst hp
      simp [hcV,p59c60,hm78]
     .have hp':¬ ((p.1:Int),(p.2:Int))=((c:Int),(k:Int)):=fun e=>hp (by
       have e1:=congrArg Prod.fst e
       have e2:=congrArg Prod.snd e
       simp only at e1 e2
       exact Prod.ext (by omega) (by omega))
      rw [hV p]
      simp [hp']
   .refine AH ((hnd c (hbd' _ _ hbb).1 k (hbd' _ _ hbb).2).resolve_left (by simp [hbb])) (Df (fun hm=>AH (decide_eq_true hVm) (AH (decide_eq_true (by omega)) ⟨rfl,.inl ⟨hm,rfl,rfl⟩⟩)) fun hm=>⟨rfl,.inr ⟨hm,rfl,rfl⟩⟩)
 refine rounds (cnt+1) cnt (Nat.le_refl _) [] (fun p=>(f p).isSome) 0 A3 O5 a5 w5 h5 hit List.nodup_nil (Nat.le_refl _) rfl (fun p=>?_) (fun p hp=>hp) (fun q hq=>absurd hq (Nat.not_lt_zero q))
 refine ⟨fun h=>(by cases h),fun ⟨h1,h2⟩=>?_⟩
 exfalso
 have hb1:d.bb p.1 p.2=true:=by simp only [p59c60,Bool.and_eq_true] at h1;exact h1.1
 have:=hfm ((p.1:Int),(p.2:Int))
 simp [hb1] at this
 simp [this] at h2
/-! ### helpers: analyse -/
def T7:Tys:=⟨129,116,123,134⟩
abbrev thS(s:BA)(k b:Int)(m1 m2 m3:Value)(p:Int)(t:Bool)(m4:Value):List SV:=[.str s,.int .i64 k,.int .i64 b,.val m1,.val m2,.val m3,.int .i64 p,.bool t,.val m4]
theorem Ju{O:Env}{c:Array Value}{s:BA}{k b:Int}{m1 m2 m3:Value}{p:Int}{t:Bool}{m4:Value}(h:SV.denL O (thS s k b m1 m2 m3 p t m4) c.toList):c=#[.string s,.int .i64 k,.int .i64 b,m1,m2,m3,.int .i64 p,.bool t,m4]:=by
 apply Array.toList_inj.1
 obtain ⟨x0,l0,e0,d0,h⟩:=A9 h
 obtain ⟨x1,l1,e1,d1,h⟩:=A9 h
 obtain ⟨x2,l2,e2,d2,h⟩:=A9 h
 obtain ⟨x3,l3,e3,d3,h⟩:=A9 h
 obtain ⟨x4,l4,e4,d4,h⟩:=A9 h
 obtain ⟨x5,l5,e5,d5,h⟩:=A9 h
 obtain ⟨x6,l6,e6,d6,h⟩:=A9 h
 obtain ⟨x7,l7,e7,d7,h⟩:=A9 h
 obtain ⟨x8,l8,e8,d8,h⟩:=A9 h
 have e9:=Bb h
 rw [e0,e1,e2,e3,e4,e5,e6,e7,e8,e9]
 cases d0;cases d1;cases d2;cases d3;cases d4;cases d5;cases d6;cases d7;cases d8
 rfl
def c108:Code:=Tryz.f108.body.getD .skip
def c108a:Code:=match c108 with | .seq a _=>a | c=>c
def c108b:Code:=match c108 with | .seq _ (.seq b _)=>b | c=>c
def c108c:Code:=match c108 with | .seq _ (.seq _ (.cond _ c _))=>c | c=>c
def c108o:Array Oper:=match c108 with | .seq _ (.seq _ (.cond _ _ (.region _ o _)))=>o | _=>#[]
def c108i:Array Oper:=c108o.toList.dropLast.toArray
def c108l:Oper:=match c108o.toList.getLast? with | some o=>o | none=>⟨none,.move (.tmp 0),0,"",#[],none⟩
theorem c108_eq:c108=.seq c108a (.seq c108b (.cond (.tmp 9) c108c (.region 3 (c108i.push c108l) true))):=by kernel_rfl
theorem c108l_op:c108l.op=.mapUpdate 121 (.tmp 20) (.tmp 24) (.const (.bool true)):=by kernel_rfl
theorem c108l_dst:c108l.dst=none:=by kernel_rfl
theorem c108l_guard:c108l.guard=none:=by kernel_rfl
theorem y108a(nm:BA)(k b pr:Int)(st t1:Bool)(m1 m2 m3 m4:Value)(R:XE->List SV->List Blk->Prop):AT Tryz.prog [] (fun _=>none) 8 (Nt [c108a,c108b]) (Aq 1 25 [0,1] [.ptr 0 0,.bool t1] 1 [.cells 123 (thS nm k b m1 m2 m3 pr st m4)]) (AJ 1 25 [0,9] [] 1 [] R) =
 (R (XE.normal) [.ptr 0 0,.bool t1] [.cells 123 (thS nm k b m1 m2 m3 pr (bif t1 then false else true) m4)]):=by kernel_rfl
theorem y108c(nm:BA)(k b pr:Int)(st t1:Bool)(m1 m2 m3 m4:Value)(R:XE->List SV->List Blk->Prop):AT Tryz.prog [] (fun _=>none) 8 c108c (Aq 1 25 [0,9] [.ptr 0 0,.bool t1] 1 [.cells 123 (thS nm k b m1 m2 m3 pr st m4)]) (AJ 1 25 [] [] 1 [] R) =
 (R (XE.normal) [] [.cells 123 (thS nm k b m1 m2 m3 (IntKind.i64.wrap (pr+1)) st m4)]):=by kernel_rfl
theorem y108d(nm:BA)(k b pr:Int)(st t1:Bool)(m1 m2 m3 m4:Value)(R:SV->SV->Blk->Prop):JK Tryz.prog (IT false []) c108i (Aq 1 25 [0,9] [.ptr 0 0,.bool t1] 1 [.cells 123 (thS nm k b m1 m2 m3 pr st m4)]) (fun s=>R (ev s [] (.tmp 20)) (ev s [] (.tmp 24)) (s.mem 0)) =
 (R (.val m4) (.int .i64 pr) (.cells 123 (thS nm k b m1 m2 m3 pr st m4))):=by kernel_rfl
def anT(t:Th)(ok:Bool):Th:=cond ok { t with st:=false,pr:=t.pr+1 } { t with st:=true,bad:=fun q=>t.bad q||decide (q=t.pr) }
theorem RS:Tryz.prog.underlying 3=some (.int .i64):=by kernel_rfl
theorem Tj:Tryz.prog.underlying 121=some (.map 3 4):=by kernel_rfl
theorem Q6{L:Lay}{K:Kst}{st:Stt}{w:World}(hL:L.T=T7)(h:Ao L K st w){i:Nat}(hi:i<K.n)(ok:Bool)(hpr:(st.th i).pr<1000000) :
  Calls Tryz.prog 108 ⟨[.pointer (some ⟨L.at_ (.th i),0,none⟩),.bool ok]⟩ w fun e w'=>∃ ys,e=.returned (Nv ys)/\Ao L K (upT st i (anT (st.th i) ok)) w'/\AS L K w w':=by
 refine Ef (fn:=Tryz.f108) (c:=c108) Tryz.func108 rfl [] rfl (xs:=[.pointer (some ⟨L.at_ (.th i),0,none⟩),.bool ok]) (show 2<=Tryz.f108.ntmps by decide) (Q:=fun _ w'=>Ao L K (upT st i (anT (st.th i) ok)) w'/\AS L K w w') fun a hsz hdf hargs=>?_
 rw [c108_eq]
 obtain ⟨o0,hb,ho⟩:=h.at_ (.th i) hi
 have ho:o0=.cells (thV L K st i) L.T.th (0,0):=ho
 subst ho
 rw [hL] at hb
 have hs0:Ab w.heap.size [L.at_ (.th i)] ⟨w,nm1 (L.at_ (.th i)) CN,1,fun _=>none,some []⟩ (nm1 (L.at_ (.th i)) CN) (Aq 1 25 [0,1] [.ptr 0 0,.bool ok] 1 [.cells 123 (thS (K.di.ss i 0) (K.di.ii i 1) (K.di.ii i 2) (.map (some (L.at_ (.ck i)))) (.map (some (L.at_ (.hs i)))) (.map (some (L.at_ (.hd i)))) ((st.th i).pr:Int) (st.th i).st (.map (some (L.at_ (.bd i)))))]) a w:=by
  refine Ab.start hsz hdf (fun d e=>by cases e;rfl) (S5 hb ⟨rfl,rfl,rfl,rfl,rfl,rfl,rfl,rfl,rfl,trivial⟩ (by simp) (H0 w) fun _=>rfl) (fun j hj=>if_neg (by omega)) (fun e=>by cases e) (fun p t v h1 h2=>?_) (fun v hv t pol u e=>?_)
  .match p,h1,h2 with
   | 0,h1,h2=>cases h1;cases h2;exact ⟨_,rfl,hargs 0 _ rfl⟩
   | 1,h1,h2=>cases h1;cases h2;exact hargs 1 _ rfl
  .simp at hv;rcases hv with rfl | rfl <;> cases e
 refine Mc (l:=[c108a,c108b]) (R:=fun e v b=>e=.normal/\v=[.ptr 0 0,.bool ok]/\b=_) AM A6 (by simp) (Bu (y108a _ _ _ _ _ _ _ _ _ _ _) ⟨rfl,rfl,rfl⟩) (fun x hx=>.inr (by simp at hx;rcases hx with rfl | rfl <;> kernel_rfl)) hs0 ?_ (fun e _ _ _ _ _ hne hR=>absurd hR.1 hne)
 rintro vs bs O1 a1 w1 ⟨_,rfl,rfl⟩ h1
 obtain ⟨c1,hb1,hd1⟩:=h1.cells1
 have hc1:=Ju hd1
 subst hc1
 have hk1:AR w.heap.size [L.at_ (.th i)] w w1:=h1.kept
 have e9:a1.eval (.tmp 9)=.bool ok:=AF h1.tmDen (Az.nil a1) (.tmp 9)
 have hsh1:Ao L K (upT st i { st.th i with st:=bif ok then false else true }) w1:=by
  refine h.up (.th i) hi (h.ok.up (fun _=>rfl) (fun a b hab hi=>h.ok.has i hi a b hab) (fun a b hab hi=>h.ok.had i hi a b hab)) hk1.keep1 ⟨_,hb1,?_⟩ (fun e=>absurd rfl e) (fun _=>rfl) (fun _=>rfl) (fun _=>rfl) (fun _ _=>rfl)
  show Obj.cells _ _ _=Obj.cells (thV L K _ i) L.T.th (0,0)
  rw [hL]
  simp only [thV,Av]
  rfl
 have ho1:AS L K w w1:=AS.of_kept hk1 fun b hb=>⟨.th i,hi,(List.mem_singleton.1 hb).symm⟩
 refine wpIn_cond e9 ?_
 cases ok with
 | true =>
  refine Cw AM A6 (R:=fun v b=>v=[]/\b=_) (Bu (y108c _ _ _ _ _ _ _ _ _ _ _) ⟨rfl,rfl,rfl⟩) (.inr (by kernel_rfl)) h1 ?_
  rintro vs bs O2 a2 w2 ⟨rfl,rfl⟩ h2
  obtain ⟨c2,hb2,hd2⟩:=h2.cells1
  have hc2:=Ju hd2
  subst hc2
  have hk2:AR w.heap.size [L.at_ (.th i)] w w2:=h2.kept
  refine ⟨.inr rfl,h2.defs.same_ [] rfl,?_,AS.of_kept hk2 fun b hb=>⟨.th i,hi,(List.mem_singleton.1 hb).symm⟩⟩
  refine h.up (.th i) hi (h.ok.up (fun _=>rfl) (fun a b hab hi=>h.ok.has i hi a b hab) (fun a b hab hi=>h.ok.had i hi a b hab)) hk2.keep1 ⟨_,hb2,?_⟩ (fun e=>absurd rfl e) (fun _=>rfl) (fun _=>rfl) (fun _=>rfl) (fun _ _=>rfl)
  show Obj.cells _ _ _=Obj.cells (thV L K _ i) L.T.th (0,0)
  rw [hL]
  have hw:IntKind.i64.wrap (((st.th i).pr:Int)+1)=(((st.th i).pr+1:Nat):Int):=by rw [wrp (by omega) (by omega)];rfl
  simp only [thV,Av,anT,cond_true,hw]
  rfl
 | false =>
  refine NS (Fe (pix:=false) AM) A6 (by kernel_rfl) (by kernel_rfl) c108l_dst (k:=fun s=>ev s [] (.tmp 20)=.val (.map (some (L.at_ (.bd i))))/\ev s [] (.tmp 24)=.int .i64 ((st.th i).pr:Int)/\s.mem 0=.cells 123 (thS (K.di.ss i 0) (K.di.ii i 1) (K.di.ii i 2) (.map (some (L.at_ (.ck i)))) (.map (some (L.at_ (.hs i)))) (.map (some (L.at_ (.hd i)))) ((st.th i).pr:Int) (bif false then false else true) (.map (some (L.at_ (.bd i)))))) (fun s O2 a2 w2 h2 hk=>?_) h1 (Bu (y108d _ _ _ _ _ _ _ _ _ _ (fun x y z=>x=.val (.map (some (L.at_ (.bd i))))/\y=.int .i64 ((st.th i).pr:Int)/\z=.cells 123 (thS (K.di.ss i 0) (K.di.ii i 1) (K.di.ii i 2) (.map (some (L.at_ (.ck i)))) (.map (some (L.at_ (.hs i)))) (.map (some (L.at_ (.hd i)))) ((st.th i).pr:Int) (bif false then false else true) (.map (some (L.at_ (.bd i))))))) ⟨rfl,rfl,rfl⟩)
  obtain ⟨k1,k2,k3⟩:=hk
  have x1:=AF h2.tmDen (Az.nil a2) (.tmp 20)
  have x2:=AF h2.tmDen (Az.nil a2) (.tmp 24)
  rw [k1] at x1
  rw [k2] at x2
  have x1:a2.eval (.tmp 20)=.map (some (L.at_ (.bd i))):=x1
  have x2:a2.eval (.tmp 24)=.int .i64 ((st.th i).pr:Int):=x2
  have e0:O2 0=some ⟨L.at_ (.th i),0,0⟩:=h2.argl 0 (Nat.lt_succ_self 0)
  obtain ⟨_,hden,_⟩:=h2.mem.get (i:=0) (by rw [k3];rfl) e0
  rw [k3] at hden
  obtain ⟨_,c2,hb2,hd2⟩:=hden
  have hc2:=Ju hd2
  subst hc2
  have hk2:AR w.heap.size [L.at_ (.th i)] w w2:=h2.kept
  have hsh2:Ao L K (upT st i { st.th i with st:=true }) w2:=by
   refine h.up (.th i) hi (h.ok.up (fun _=>rfl) (fun a b hab hi=>h.ok.has i hi a b hab) (fun a b hab hi=>h.ok.had i hi a b hab)) hk2.keep1 ⟨_,hb2,?_⟩ (fun e=>absurd rfl e) (fun _=>rfl) (fun _=>rfl) (fun _=>rfl) (fun _ _=>rfl)
   show Obj.cells _ _ _=Obj.cells (thV L K _ i) L.T.th (0,0)
   rw [hL]
   simp only [thV,Av]
   rfl
  obtain ⟨_,g1,es,cl,f,rfl,g2,g3⟩:=hsh2.at_ (.bd i) hi
  obtain ⟨o',hrun,hat⟩:=B5.update (FJ RS) Tj (w:=w2) (b:=L.at_ (.bd i)) ⟨es,cl,g1,g2⟩ ((st.th i).pr:Int) (.bool true)
  refine PJ c108l_guard (w':=setBlock w2 (L.at_ (.bd i)) o') ?_ ?_ (by rw [c108l_op];intro c e;cases e)
  .unfold execOp
   rw [c108l_op]
   have x3:a2.eval (.const (.bool true))=.bool true:=rfl
   simp only [x1,x2,x3]
   simp [hrun]
  .refine ⟨.inr rfl,?_,?_,(AS.of_kept hk2 fun b hb=>⟨.th i,hi,(List.mem_singleton.1 hb).symm⟩).trans (AS.set (t:=.bd i) hi o')⟩
   .rw [B0];exact h2.defs.same_ [] rfl
   .obtain ⟨es',cl',q1,q2⟩:=hat
    have:=hsh2.up (i:=i) (t:=anT (st.th i) false) (w':=setBlock w2 (L.at_ (.bd i)) o') (.bd i) hi ?_ G5 ⟨_,q1,es',cl',_,rfl,q2,?_⟩ (fun _=>?_) (fun _=>?_) (fun _=>?_) (fun e=>absurd rfl e) (fun q _=>?_)
    .rw [Ic] at this;exact this
    .exact hsh2.ok.up (fun q=>by rw [Av];rfl) (fun a b hab hi=>h.ok.has i hi a b hab) (fun a b hab hi=>h.ok.had i hi a b hab)
    .rw [Av] at g3
     rw [Av]
     intro r
     by_cases er:r=((st.th i).pr:Int)
     .subst er
      simp [anT]
     .simp only [if_neg er]
      rw [g3 r]
      have:(decide (0<=r)&&((st.th i).bad r.toNat||decide (r.toNat=(st.th i).pr)))=(decide (0<=r)&&(st.th i).bad r.toNat):=by
       by_cases h0:0<=r
       .have:¬ r.toNat=(st.th i).pr:=by omega
        simp [this]
       .simp [h0]
      show _=if (decide (0<=r)&&((st.th i).bad r.toNat||decide (r.toNat=(st.th i).pr)))=true then _ else _
      rw [this]
    .rw [Av];exact ⟨rfl,rfl⟩
    .rw [Av];rfl
    .rw [Av];rfl
    .rw [Av];rfl
/-! ### helpers: fill -/
def c107:Code:=Tryz.f107.body.getD .skip
def c107a:Code:=match c107 with | .seq (.seq a _) _=>a | c=>c
def c107b:Code:=match c107 with | .seq (.seq _ (.cond _ (.seq b _) _)) _=>b | c=>c
def c107p:Array Oper:=match c107 with | .seq (.seq _ (.cond _ (.seq _ (.seq (.region _ o _) _)) _)) _=>o | _=>#[]
def c107r:Code:=match c107 with | .seq _ (.seq r _)=>r | c=>c
def c107n:Code:=match c107 with | .seq _ (.seq _ (.block _ (.loop (.seq n _))))=>n | c=>c
def c107e:Code:=match c107 with | .seq _ (.seq _ (.block _ (.loop (.seq _ (.seq _ (.block _ (.seq e _)))))))=>e | c=>c
def c107q:Array Oper:=match c107 with | .seq _ (.seq _ (.block _ (.loop (.seq _ (.seq _ (.block _ (.seq _ (.region _ o _))))))))=>o | _=>#[]
theorem c107_eq:c107=.seq (.seq c107a (.cond (.tmp 13) (.seq c107b (.seq (.region 2 c107p true) .ret)) .skip)) (.seq c107r (.block 0 (.loop (.seq c107n (.seq (.cond (.tmp 45) .skip (.exit 0)) (.block 1 (.seq c107e (.region 6 c107q true)))))))):=by kernel_rfl
def D6(s x:Nat):List (Option Nat × Op × Option (Nat × Bool)) :=
 [(some s,.move (.tmp 0),none),(some (s+1),.nilCheck (.tmp s),none),(some (s+2),.fieldAddr 123 (.tmp (s+1)) 2,none),(some (s+3),.load 120 (.tmp (s+2)),none),(some (s+4),.load 156 (.tmp x),none),
  (some (s+5),.move (.tmp 0),none),(some (s+6),.nilCheck (.tmp (s+5)),none),(some (s+7),.fieldAddr 123 (.tmp (s+6)) 3,none),(some (s+8),.load 120 (.tmp (s+7)),none),(some (s+9),.load 156 (.tmp x),none),
  (some (s+10),.mapEntry 120 (.tmp (s+3)) (.tmp (s+4)),none),(some (s+11),.extract (.tmp (s+10)) 1,none),(none,.entryStore 120 (.tmp (s+3)) (.tmp (s+11)) (.const (.bool true)),none),
  (some (s+12),.mapEntry 120 (.tmp (s+8)) (.tmp (s+9)),none),(some (s+13),.extract (.tmp (s+12)) 1,none),(none,.entryStore 120 (.tmp (s+8)) (.tmp (s+13)) (.const (.bool true)),none)]
def Du:List (List Nat):=[[],[0],[1],[2],[],[],[5],[6],[7],[],[3,4,8],[10],[3,11,10,0,1,2,3,4,8,10],[8,9,12,0,1,2,3,4,8,10,11,12],[13],[8,14,13,0,1,2,3,4,5,6,7,8,9,10,11,12,13]]
def opK(o:Oper):Option Nat × Op × Option (Nat × Bool):=(o.dst,o.op,o.guard)
def edK(o:Oper):List Nat:=(o.after.toList.filter (Region.binds .any)).map (·.on)
theorem c107p_ops:c107p.toList.map opK=D6 25 6:=by kernel_rfl
theorem c107q_ops:c107q.toList.map opK=D6 48 7:=by kernel_rfl
theorem c107p_ed:c107p.toList.map edK=Du:=by kernel_rfl
theorem c107q_ed:c107q.toList.map edK=Du:=by kernel_rfl
theorem SO(w:World):(zeroValue 4).run Tryz.prog w=.ok (.bool false) w:=by kernel_rfl
def MV(t:Th)(c k:Nat):Th:={ t with has:=fun a b=>t.has a b||decide (a=c/\b=k),had:=fun a b=>t.had a b||decide (a=c/\b=k) }
theorem C0{w:World}{b:Nat}{c:Array Value}{e:TypeId}{j:Nat}{t:TypeId}{v:SV}{y:Value}(hb:w.heap[b]? = some (.cells c e (0,0)))(hx:HW Tryz.prog (Ah [.cells e (c.toList.map .val)]) t (.ptr 0 j)=some { v:=v })(hv:∀ z,v.den (nm1 b CN) z->z=y) :
  (Instr.loadAt t (.pointer (some ⟨b,j,none⟩))).run Tryz.prog w=.ok y w:=by
 have hd:SV.denL (nm1 b CN) (c.toList.map .val) c.toList:=by
  generalize c.toList=l
  induction l with
  | nil=>trivial
  | cons x l ih=>exact ⟨rfl,ih⟩
 have hm:Ak w.heap.size [b] (nm1 b CN) (Ah [.cells e (c.toList.map .val)]) w:=S5 hb hd (by simp) (H0 w) fun _=>rfl
 obtain ⟨z,hr,hp⟩:=Dx (P:=Tryz.prog) hm hx (fun b hb=>by simp at hb) (x:=.pointer (some ⟨b,j,none⟩)) ⟨⟨b,0,0⟩,rfl,by simp⟩ 1
 rw [hr,hv z hp.val]
theorem BQ{w:World}{b f j:Nat}{t:TypeId}(hx:DS Tryz.prog t (.ptr 0 0) f=some { v:=.ptr 0 j }):(Instr.fieldAt t (.pointer (some ⟨b,0,none⟩)) f).run Tryz.prog w=.ok (.pointer (some ⟨b,j,none⟩)) w:=by
 obtain ⟨z,hr,hp⟩:=Fw (P:=Tryz.prog) (w:=w) (O:=nm1 b CN) hx (x:=.pointer (some ⟨b,0,none⟩)) ⟨⟨b,0,0⟩,rfl,by simp⟩ 1
 have hv:(SV.ptr 0 j).den (nm1 b CN) z:=hp.val
 obtain ⟨m,hm,rfl⟩:=hv
 have hm:some (⟨b,0,0⟩:Nm)=some m:=hm
 cases hm
 simpa using hr
theorem M0{b:Nat->Nat->Bool}{f:Int × Int->Option Value}(h:Go.Sy.Pg b f)(c k:Nat):Go.Sy.Pg (fun x y=>b x y||decide (x=c/\y=k)) (fun x=>if x=((c:Int),(k:Int)) then some (.bool true) else f x):=by
 intro p
 by_cases e:p=((c:Int),(k:Int))
 .subst e;simp
 .simp only [if_neg e]
  rw [h p]
  have:(decide (0<=p.1)&&decide (0<=p.2)&&(b p.1.toNat p.2.toNat||decide (p.1.toNat=c/\p.2.toNat=k)))=(decide (0<=p.1)&&decide (0<=p.2)&&b p.1.toNat p.2.toNat):=by
   by_cases h1:0<=p.1
   .by_cases h2:0<=p.2
    .have:¬ (p.1.toNat=c/\p.2.toNat=k):=fun ⟨q1,q2⟩=>e (Prod.ext (by simp only;omega) (by simp only;omega))
     simp [this]
    .simp [h2]
   .simp [h1]
  rw [this]
theorem Ei{s x:Nat}:∀ (j:Nat) (t:Option Nat × Op × Option (Nat × Bool)) (d:Nat),(D6 s x)[j]? = some t->t.1=some d->j<16/\j≠12/\j≠15/\d=s+(if j<=11 then j else j - 1)
 | 0,t,d,h,e=>by
  cases h
  cases e
  simp
 | 1,t,d,h,e=>by
  cases h
  cases e
  simp
 | 2,t,d,h,e=>by
  cases h
  cases e
  simp
 | 3,t,d,h,e=>by
  cases h
  cases e
  simp
 | 4,t,d,h,e=>by
  cases h
  cases e
  simp
 | 5,t,d,h,e=>by
  cases h
  cases e
  simp
 | 6,t,d,h,e=>by
  cases h
  cases e
  simp
 | 7,t,d,h,e=>by
  cases h
  cases e
  simp
 | 8,t,d,h,e=>by
  cases h
  cases e
  simp
 | 9,t,d,h,e=>by
  cases h
  cases e
  simp
 | 10,t,d,h,e=>by
  cases h
  cases e
  simp
 | 11,t,d,h,e=>by
  cases h
  cases e
  simp
 | 12,t,d,h,e=>by
  cases h
  cases e
 | 13,t,d,h,e=>by
  cases h
  cases e
  simp
 | 14,t,d,h,e=>by
  cases h
  cases e
  simp
 | 15,t,d,h,e=>by
  cases h
  cases e
 | n+16,t,d,h,e=>by simp [D6] at h
theorem KD:∀ (j:Nat) (l:List Nat),Du[j]? = some l->∀ q∈l,q<j:=by
 intro j l h q hq
 have:j<16:=(List.getElem?_eq_some_iff.1 h).1
 have hc:((List.range 16).all fun j=>((Du[j]?).getD []).all fun q=>decide (q<j))=true:=rfl
 have h1:=List.all_eq_true.1 hc j (List.mem_range.2 this)
 rw [h] at h1
 simpa using List.all_eq_true.1 h1 q hq
theorem HI{s x:Nat}{ops:Array Oper}{id:Nat}(hops:ops.toList.map opK=D6 s x)(hed:ops.toList.map edK=Du){a0:Act}{w:World}(hsz:s+14<=a0.tmps.size)(h0:0<s)(hxs:x<s){L:Lay}{K:Kst}{st:Stt}{i:Nat}(hL:L.T=T7)(h:Ao L K st w)(hi:i<K.n){bx c k:Nat}(e0:a0.eval (.tmp 0)=.pointer (some ⟨L.at_ (.th i),0,none⟩))(ex:a0.eval (.tmp x)=.pointer (some ⟨bx,0,none⟩))(hbx:w.heap[bx]? = some (.cells #[.int .i64 (c:Int),.int .i64 (k:Int)] 156 (0,0)))(hck:c<K.n/\k<nB){Q:Exit->Act->World->Prop}(hQ:∀ a w',a.defers=a0.defers->a.tmps.size=a0.tmps.size->(∀ t,(t<s\/s+14<=t)->a.eval (.tmp t)=a0.eval (.tmp t))->Ao L K (upT st i (MV (st.th i) c k)) w'->AS L K w w' ->
   (∀ q o,q≠L.at_ (.hs i)->q≠L.at_ (.hd i)->w.heap[q]? = some o->w'.heap[q]? = some o)->Q .normal a w'):(Code.region id ops true).wpIn (FW none) 0 Tryz.prog Q a0 w:=by
 have hsize:ops.size=16:=by have:=congrArg List.length hops;simpa [D6] using this
 have opAt:∀ (j:Nat) (o:Oper),ops[j]? = some o->(D6 s x)[j]? = some (opK o):=fun j o ho=>by rw [<- hops,List.getElem?_map,Array.getElem?_toList,ho];rfl
 have edAt:∀ (j:Nat) (o:Oper),ops[j]? = some o->Du[j]? = some (edK o):=fun j o ho=>by rw [<- hed,List.getElem?_map,Array.getElem?_toList,ho];rfl
 have edM:∀ (o:Oper) (q:Nat),q∈edK o↔∃ e∈o.after.toList,Region.binds .any e=true/\e.on=q:=fun o q=>by simp [edK,and_assoc]
 -- the worlds
 obtain ⟨_,g1,es1,cl1,f1,rfl,g2,g3⟩:=h.at_ (.hs i) hi
 obtain ⟨_,d1,es2,cl2,f2,rfl,d2,d3⟩:=h.at_ (.hd i) hi
 obtain ⟨o0,t1,t2⟩:=h.at_ (.th i) hi
 have t2:o0=.cells (thV L K st i) L.T.th (0,0):=t2
 subst t2
 rw [hL] at t1
 have hne:L.at_ (.hs i)≠L.at_ (.hd i):=fun e=>by cases h.inj (.hs i) (.hd i) hi hi e
 have hnt1:L.at_ (.th i)≠L.at_ (.hs i):=fun e=>by cases h.inj (.th i) (.hs i) hi hi e
 have hnt2:L.at_ (.th i)≠L.at_ (.hd i):=fun e=>by cases h.inj (.th i) (.hd i) hi hi e
 have hnb1:bx≠L.at_ (.hs i):=fun e=>by rw [e,g1] at hbx;cases hbx
 have hnb2:bx≠L.at_ (.hd i):=fun e=>by rw [e,d1] at hbx;cases hbx
 let w0:World:={ w with drawn:=w.drawn+1 }
 obtain ⟨o1,o2,x1,s1,r1,r2,es3,cl3,rfl,m1⟩:=B5.entry_store (Ib) Fz SO (w:=w0) (b:=L.at_ (.hs i)) (f:=f1) ⟨es1,cl1,g1,g2⟩ ((c:Int),(k:Int)) (.bool true)
 let w1:=setBlock w0 (L.at_ (.hs i)) o1
 let w2:=setBlock w1 (L.at_ (.hs i)) (.map es3 cl3)
 have hw1:w1.heap[L.at_ (.hs i)]? = some o1:=Bh (w:=w0) g1 _
 have hd2:w2.heap[L.at_ (.hd i)]? = some (.map es2 cl2):=by
  show (setBlock w1 _ _).heap[_]? = _
  rw [At _ _ (Ne.symm hne)]
  show (setBlock w0 _ _).heap[_]? = _
  rw [At _ _ (Ne.symm hne)]
  exact d1
 obtain ⟨o3,o4,x2,s2,r3,r4,es4,cl4,rfl,m2⟩:=B5.entry_store (Ib) Fz SO (w:=w2) (b:=L.at_ (.hd i)) (f:=f2) ⟨es2,cl2,hd2,d2⟩ ((c:Int),(k:Int)) (.bool true)
 let w3:=setBlock w2 (L.at_ (.hd i)) o3
 let w4:=setBlock w3 (L.at_ (.hd i)) (.map es4 cl4)
 have hw3:w3.heap[L.at_ (.hd i)]? = some o3:=Bh (w:=w2) hd2 _
 let W:Nat->World:=fun p=>match p with
  | 0=>w0
  | 1=>w1
  | 2=>w2
  | 3=>w3
  | _=>w4
 let eff:Nat->Option Nat:=fun j=>match j with
  | 10=>some 0
  | 12=>some 1
  | 13=>some 2
  | 15=>some 3
  | _=>none
 let val:Nat->Value:=fun j=>match j with
  | 0 | 1 | 5 | 6=>.pointer (some ⟨L.at_ (.th i),0,none⟩)
  | 2=>.pointer (some ⟨L.at_ (.th i),4,none⟩)
  | 3=>.map (some (L.at_ (.hs i)))
  | 4 | 9=>AE ((c:Int),(k:Int))
  | 7=>.pointer (some ⟨L.at_ (.th i),5,none⟩)
  | 8=>.map (some (L.at_ (.hd i)))
  | 10=>.tuple #[x1,goInt s1]
  | 11=>goInt s1
  | 13=>.tuple #[x2,goInt s2]
  | 14=>goInt s2
  | _=>undef
 have hW:∀ ph q,q≠L.at_ (.hs i)->q≠L.at_ (.hd i)->(W ph).heap[q]? = w.heap[q]?:=fun ph q q1 q2=>by
  have a1:w1.heap[q]? = w.heap[q]?:=At w0 _ q1
  have a2:w2.heap[q]? = w.heap[q]?:=(At w1 _ q1).trans a1
  have a3:w3.heap[q]? = w.heap[q]?:=(At w2 _ q2).trans a2
  have a4:w4.heap[q]? = w.heap[q]?:=(At w3 _ q2).trans a3
  match ph with
  | 0=>rfl
  | 1=>exact a1
  | 2=>exact a2
  | 3=>exact a3
  | _+4=>exact a4
 have hWt:∀ ph,(W ph).heap[L.at_ (.th i)]? = some (.cells (thV L K st i) 123 (0,0)):=fun ph=>(hW ph _ hnt1 hnt2).trans t1
 have hWb:∀ ph,(W ph).heap[bx]? = some (.cells #[.int .i64 (c:Int),.int .i64 (k:Int)] 156 (0,0)):=fun ph=>(hW ph _ hnb1 hnb2).trans hbx
 have pv:∀ z,(SV.agg [.val (.int .i64 (c:Int)),.val (.int .i64 (k:Int))]).den (nm1 bx CN) z->z=AE ((c:Int),(k:Int)):=fun z hz=>by
  obtain ⟨xs,rfl,hx⟩:=hz
  obtain ⟨y0,l0,rfl,h0,hx⟩:=A9 hx
  obtain ⟨y1,l1,rfl,h1,hx⟩:=A9 hx
  have:=Bb hx
  subst this
  cases h0;cases h1;rfl
 refine K0 A6 (val:=val) (W:=W) (eff:=eff) (N:=4) (fun j o ho=>?_) (fun j1 j2 o1 o2 d h1 h2 e1 e2=>?_) (fun j p hp=>?_) (fun j1 j2 p h1 h2=>?_) (fun p hp=>?_) (fun j o p ho hp=>?_) (fun j o ho a ph hph hpe hdep hrest hlt=>?_) rfl (fun a hdf hsz' hrest=>?_)
 .have hm:=List.mem_of_getElem? (opAt j o ho)
  refine ⟨?_,?_,fun d hd=>?_,fun e he hb=>KD j _ (edAt j o ho) _ ((edM o e.on).2 ⟨e,he,hb,rfl⟩)⟩
  .simp only [D6,List.mem_cons,List.not_mem_nil,or_false] at hm
   rcases hm with h | h | h | h | h | h | h | h | h | h | h | h | h | h | h | h <;> exact congrArg (fun z:Option Nat × Op × Option (Nat × Bool)=>z.2.2) h
  .intro cc hc
   simp only [D6,List.mem_cons,List.not_mem_nil,or_false] at hm
   rcases hm with h | h | h | h | h | h | h | h | h | h | h | h | h | h | h | h <;> (have:=congrArg (fun z:Option Nat × Op × Option (Nat × Bool)=>z.2.1) h;simp only [opK,hc] at this;cases this)
  .have:=Ei j _ d (opAt j o ho) hd
   obtain ⟨q1,q2,q3,q4⟩:=this
   have key:∀ d':Nat,d'=s+(if j<=11 then j else j - 1)->j<16->j≠12->j≠15->d'<a0.tmps.size:=by
    intro d' h1 h2 h3 h4
    split at h1 <;> omega
   exact key d q4 q1 q2 q3
 .obtain ⟨q1,q2,q3,q4⟩:=Ei j1 _ d (opAt j1 o1 h1) e1
  obtain ⟨p1,p2,p3,p4⟩:=Ei j2 _ d (opAt j2 o2 h2) e2
  split at q4 <;> split at p4 <;> omega
 .simp only [eff] at hp
  split at hp <;> cases hp <;> simp [hsize]
 .simp only [eff] at h1 h2
  split at h1 <;> cases h1 <;> (split at h2 <;> cases h2;rfl)
 .match p,hp with
  | 0,_=>exact ⟨10,rfl⟩
  | 1,_=>exact ⟨12,rfl⟩
  | 2,_=>exact ⟨13,rfl⟩
  | 3,_=>exact ⟨15,rfl⟩
 .have hdd:=edAt j o ho
  simp only [eff] at hp
  split at hp <;> cases hp
  .have hee:edK o=[3,11,10,0,1,2,3,4,8,10]:=(Option.some.inj hdd).symm
   obtain ⟨e,he,hb,hq⟩:=(edM o 10).1 (by rw [hee];simp)
   exact ⟨e,he,hb,by rw [hq];rfl⟩
  .have hee:edK o=[8,9,12,0,1,2,3,4,8,10,11,12]:=(Option.some.inj hdd).symm
   obtain ⟨e,he,hb,hq⟩:=(edM o 12).1 (by rw [hee];simp)
   exact ⟨e,he,hb,by rw [hq];rfl⟩
  .have hee:edK o=[8,14,13,0,1,2,3,4,5,6,7,8,9,10,11,12,13]:=(Option.some.inj hdd).symm
   obtain ⟨e,he,hb,hq⟩:=(edM o 13).1 (by rw [hee];simp)
   exact ⟨e,he,hb,by rw [hq];rfl⟩
 rotate_left
 .have hst1:Ao L K (upT st i { st.th i with has:=fun a b=>(st.th i).has a b||decide (a=c/\b=k) }) w2:=by
   refine h.up (.hs i) hi (h.ok.up (fun _=>rfl) (fun a b hab hi=>?_) (fun a b hab hi=>h.ok.had i hi a b hab)) (fun q hq o ho=>?_) ⟨_,Bh (w:=w1) hw1 _,es3,cl3,_,rfl,m1,?_⟩ (fun _=>⟨rfl,rfl⟩) (fun e=>absurd rfl e) (fun _=>rfl) (fun _=>rfl) (fun _ _=>rfl)
   .simp only [Bool.or_eq_true,decide_eq_true_eq] at hab
    rcases hab with hab | ⟨rfl,rfl⟩
    .exact h.ok.has i hi a b hab
    .exact hck
   .exact (At w1 _ hq).trans ((At w0 _ hq).trans ho)
   .rw [Av];exact M0 g3 c k
  have hst2:=hst1.up (i:=i) (t:=MV (st.th i) c k) (w':=w4) (.hd i) hi ?_ (fun q hq o ho=>?_) ⟨_,Bh (w:=w3) hw3 _,es4,cl4,_,rfl,m2,?_⟩ (fun _=>?_) (fun _=>?_) (fun e=>absurd rfl e) (fun _=>?_) (fun q _=>?_)
  .rw [Ic] at hst2
   refine hQ a w4 hdf hsz' (fun t ht=>hrest t fun i' o' ho' hd=>?_) hst2 ?_ fun q o q1 q2 ho=>(hW 4 q q1 q2).trans ho
   .obtain ⟨q1,q2,q3,q4⟩:=Ei i' _ t (opAt i' o' ho') hd
    have key:∀ d':Nat,d'=s+(if i'<=11 then i' else i' - 1)->(d'<s\/s+14<=d')->i'<16->i'≠12->i'≠15->False:=by
     intro d' h1 h2 h3 h4 h5
     split at h1 <;> omega
    exact key t q4 ht q1 q2 q3
   .refine ⟨rfl,rfl,rfl,?_,fun b _ hn=>hW 4 b (fun e=>hn (.hs i) hi e.symm) (fun e=>hn (.hd i) hi e.symm)⟩
    show w.heap.size<=w4.heap.size
    simp [w4,w3,w2,w1,w0,setBlock]
  .refine hst1.ok.up (fun q=>by rw [Av];rfl) (fun a b hab hi=>?_) (fun a b hab hi=>?_)
   .simp only [MV,Bool.or_eq_true,decide_eq_true_eq] at hab
    rcases hab with hab | ⟨rfl,rfl⟩
    .exact h.ok.has i hi a b hab
    .exact hck
   .simp only [MV,Bool.or_eq_true,decide_eq_true_eq] at hab
    rcases hab with hab | ⟨rfl,rfl⟩
    .exact h.ok.had i hi a b hab
    .exact hck
  .exact (At w3 _ hq).trans ((At w2 _ hq).trans ho)
  .rw [Av];exact M0 d3 c k
  .rw [Av];exact ⟨rfl,rfl⟩
  .rw [Av];rfl
  .rw [Av];rfl
  .rw [Av];rfl
 have hk:=opAt j o ho
 have hdd:=edAt j o ho
 have dep:∀ (q d:Nat) (t:Option Nat × Op × Option (Nat × Bool)),q∈edK o->(D6 s x)[q]? = some t->t.1=some d->a.eval (.tmp d)=val q:=fun q d t hq ht hd=>by
  obtain ⟨e,he,hb,rfl⟩:=(edM o q).1 hq
  have hl:e.on<ops.size:=by rw [hsize];exact (Ei _ _ _ ht hd).1
  have hoj:=Array.getElem?_eq_getElem hl
  have:=opAt _ _ hoj
  rw [ht] at this
  cases this
  exact hdep e he hb _ d hoj hd
 have out:∀ t,(t<s\/s+14<=t)->a.eval (.tmp t)=a0.eval (.tmp t):=fun t ht=>hrest t fun i' o' ho' hd=>by
  obtain ⟨q1,q2,q3,q4⟩:=Ei i' _ t (opAt i' o' ho') hd
  split at q4 <;> omega
 have e0':=(out 0 (.inl h0)).trans e0
 have ex':=(out x (.inl hxs)).trans ex
 have hj16:j<16:=by
  have:=(Array.getElem?_eq_some_iff.1 ho).1
  omega
 have hjs:j=0\/j=1\/j=2\/j=3\/j=4\/j=5\/j=6\/j=7\/j=8\/j=9\/j=10\/j=11\/j=12\/j=13\/j=14\/j=15:=by omega
 rcases hjs with rfl | rfl | rfl | rfl | rfl | rfl | rfl | rfl | rfl | rfl | rfl | rfl | rfl | rfl | rfl | rfl
 .have hop:o.op=.move (.tmp 0):=(congrArg (fun z:Option Nat × Op × Option (Nat × Bool)=>z.2.1) (Option.some.inj hk)).symm
  have hee:edK o=[]:=(Option.some.inj hdd).symm
  exact .inl (by unfold execOp;rw [hop];simp [e0',val,eff])
 .have hop:o.op=.nilCheck (.tmp s):=(congrArg (fun z:Option Nat × Op × Option (Nat × Bool)=>z.2.1) (Option.some.inj hk)).symm
  have hee:edK o=[0]:=(Option.some.inj hdd).symm
  have v0:a.eval (.tmp (s))=val 0:=dep 0 (s) _ (by rw [hee];simp) rfl rfl
  exact .inl (by unfold execOp;rw [hop];simp [v0,val,eff])
 .have hop:o.op=.fieldAddr 123 (.tmp (s+1)) 2:=(congrArg (fun z:Option Nat × Op × Option (Nat × Bool)=>z.2.1) (Option.some.inj hk)).symm
  have hee:edK o=[1]:=(Option.some.inj hdd).symm
  have v1:a.eval (.tmp (s+1))=val 1:=dep 1 (s+1) _ (by rw [hee];simp) rfl rfl
  exact .inl (by unfold execOp;rw [hop];simp [v1,val,eff,BQ (w:=W ph) (b:=L.at_ (.th i)) (f:=2) (j:=4) (t:=123) (by kernel_rfl)])
 .have hop:o.op=.load 120 (.tmp (s+2)):=(congrArg (fun z:Option Nat × Op × Option (Nat × Bool)=>z.2.1) (Option.some.inj hk)).symm
  have hee:edK o=[2]:=(Option.some.inj hdd).symm
  have v2:a.eval (.tmp (s+2))=val 2:=dep 2 (s+2) _ (by rw [hee];simp) rfl rfl
  exact .inl (by unfold execOp;rw [hop];simp [v2,val,eff,C0 (t:=120) (hWt ph) (j:=4) (v:=.val (.map (some (L.at_ (.hs i))))) (by kernel_rfl) (fun z hz=>hz)])
 .have hop:o.op=.load 156 (.tmp x):=(congrArg (fun z:Option Nat × Op × Option (Nat × Bool)=>z.2.1) (Option.some.inj hk)).symm
  have hee:edK o=[]:=(Option.some.inj hdd).symm
  exact .inl (by unfold execOp;rw [hop];simp [ex',val,eff,C0 (t:=156) (hWb ph) (j:=0) (v:=.agg [.val (.int .i64 (c:Int)),.val (.int .i64 (k:Int))]) (by kernel_rfl) pv])
 .have hop:o.op=.move (.tmp 0):=(congrArg (fun z:Option Nat × Op × Option (Nat × Bool)=>z.2.1) (Option.some.inj hk)).symm
  have hee:edK o=[]:=(Option.some.inj hdd).symm
  exact .inl (by unfold execOp;rw [hop];simp [e0',val,eff])
 .have hop:o.op=.nilCheck (.tmp (s+5)):=(congrArg (fun z:Option Nat × Op × Option (Nat × Bool)=>z.2.1) (Option.some.inj hk)).symm
  have hee:edK o=[5]:=(Option.some.inj hdd).symm
  have v5:a.eval (.tmp (s+5))=val 5:=dep 5 (s+5) _ (by rw [hee];simp) rfl rfl
  exact .inl (by unfold execOp;rw [hop];simp [v5,val,eff])
 .have hop:o.op=.fieldAddr 123 (.tmp (s+6)) 3:=(congrArg (fun z:Option Nat × Op × Option (Nat × Bool)=>z.2.1) (Option.some.inj hk)).symm
  have hee:edK o=[6]:=(Option.some.inj hdd).symm
  have v6:a.eval (.tmp (s+6))=val 6:=dep 6 (s+6) _ (by rw [hee];simp) rfl rfl
  exact .inl (by unfold execOp;rw [hop];simp [v6,val,eff,BQ (w:=W ph) (b:=L.at_ (.th i)) (f:=3) (j:=5) (t:=123) (by kernel_rfl)])
 .have hop:o.op=.load 120 (.tmp (s+7)):=(congrArg (fun z:Option Nat × Op × Option (Nat × Bool)=>z.2.1) (Option.some.inj hk)).symm
  have hee:edK o=[7]:=(Option.some.inj hdd).symm
  have v7:a.eval (.tmp (s+7))=val 7:=dep 7 (s+7) _ (by rw [hee];simp) rfl rfl
  exact .inl (by unfold execOp;rw [hop];simp [v7,val,eff,C0 (t:=120) (hWt ph) (j:=5) (v:=.val (.map (some (L.at_ (.hd i))))) (by kernel_rfl) (fun z hz=>hz)])
 .have hop:o.op=.load 156 (.tmp x):=(congrArg (fun z:Option Nat × Op × Option (Nat × Bool)=>z.2.1) (Option.some.inj hk)).symm
  have hee:edK o=[]:=(Option.some.inj hdd).symm
  exact .inl (by unfold execOp;rw [hop];simp [ex',val,eff,C0 (t:=156) (hWb ph) (j:=0) (v:=.agg [.val (.int .i64 (c:Int)),.val (.int .i64 (k:Int))]) (by kernel_rfl) pv])
 .have hop:o.op=.mapEntry 120 (.tmp (s+3)) (.tmp (s+4)):=(congrArg (fun z:Option Nat × Op × Option (Nat × Bool)=>z.2.1) (Option.some.inj hk)).symm
  have hee:edK o=[3,4,8]:=(Option.some.inj hdd).symm
  have v3:a.eval (.tmp (s+3))=val 3:=dep 3 (s+3) _ (by rw [hee];simp) rfl rfl
  have v4:a.eval (.tmp (s+4))=val 4:=dep 4 (s+4) _ (by rw [hee];simp) rfl rfl
  have:=hpe 0 rfl
  subst this
  exact .inl (by unfold execOp;rw [hop];simp [v3,v4,val,eff,W,r1];rfl)
 .have hop:o.op=.extract (.tmp (s+10)) 1:=(congrArg (fun z:Option Nat × Op × Option (Nat × Bool)=>z.2.1) (Option.some.inj hk)).symm
  have hee:edK o=[10]:=(Option.some.inj hdd).symm
  have v10:a.eval (.tmp (s+10))=val 10:=dep 10 (s+10) _ (by rw [hee];simp) rfl rfl
  exact .inl (by unfold execOp;rw [hop];simp [v10,val,eff,Instr.extract])
 .have hop:o.op=.entryStore 120 (.tmp (s+3)) (.tmp (s+11)) (.const (.bool true)):=(congrArg (fun z:Option Nat × Op × Option (Nat × Bool)=>z.2.1) (Option.some.inj hk)).symm
  have hee:edK o=[3,11,10,0,1,2,3,4,8,10]:=(Option.some.inj hdd).symm
  have v3:a.eval (.tmp (s+3))=val 3:=dep 3 (s+3) _ (by rw [hee];simp) rfl rfl
  have v11:a.eval (.tmp (s+11))=val 11:=dep 11 (s+11) _ (by rw [hee];simp) rfl rfl
  have:=hpe 1 rfl
  subst this
  have v99:a.eval (.const (.bool true))=.bool true:=rfl
  exact .inr ⟨(congrArg (fun z:Option Nat × Op × Option (Nat × Bool)=>z.1) (Option.some.inj hk)).symm,by unfold execOp;rw [hop];simp [v3,v11,v99,eff,W,val,r2 w1 hw1];rfl⟩
 .have hop:o.op=.mapEntry 120 (.tmp (s+8)) (.tmp (s+9)):=(congrArg (fun z:Option Nat × Op × Option (Nat × Bool)=>z.2.1) (Option.some.inj hk)).symm
  have hee:edK o=[8,9,12,0,1,2,3,4,8,10,11,12]:=(Option.some.inj hdd).symm
  have v8:a.eval (.tmp (s+8))=val 8:=dep 8 (s+8) _ (by rw [hee];simp) rfl rfl
  have v9:a.eval (.tmp (s+9))=val 9:=dep 9 (s+9) _ (by rw [hee];simp) rfl rfl
  have:=hpe 2 rfl
  subst this
  exact .inl (by unfold execOp;rw [hop];simp [v8,v9,val,eff,W,r3];rfl)
 .have hop:o.op=.extract (.tmp (s+12)) 1:=(congrArg (fun z:Option Nat × Op × Option (Nat × Bool)=>z.2.1) (Option.some.inj hk)).symm
  have hee:edK o=[13]:=(Option.some.inj hdd).symm
  have v13:a.eval (.tmp (s+12))=val 13:=dep 13 (s+12) _ (by rw [hee];simp) rfl rfl
  exact .inl (by unfold execOp;rw [hop];simp [v13,val,eff,Instr.extract])
 .have hop:o.op=.entryStore 120 (.tmp (s+8)) (.tmp (s+13)) (.const (.bool true)):=(congrArg (fun z:Option Nat × Op × Option (Nat × Bool)=>z.2.1) (Option.some.inj hk)).symm
  have hee:edK o=[8,14,13,0,1,2,3,4,5,6,7,8,9,10,11,12,13]:=(Option.some.inj hdd).symm
  have v8:a.eval (.tmp (s+8))=val 8:=dep 8 (s+8) _ (by rw [hee];simp) rfl rfl
  have v14:a.eval (.tmp (s+13))=val 14:=dep 14 (s+13) _ (by rw [hee];simp) rfl rfl
  have:=hpe 3 rfl
  subst this
  have v99:a.eval (.const (.bool true))=.bool true:=rfl
  exact .inr ⟨(congrArg (fun z:Option Nat × Op × Option (Nat × Bool)=>z.1) (Option.some.inj hk)).symm,by unfold execOp;rw [hop];simp [v8,v14,v99,eff,W,val,r4 w3 hw3];rfl⟩
/-! ### helpers: begin,its regions -/
def B9(i:Nat):Code->Option Code
 | .seq a b=>match B9 i a with | some c=>some c | none=>B9 i b
 | .cond _ a b=>match B9 i a with | some c=>some c | none=>B9 i b
 | .block _ a=>B9 i a
 | .loop a=>B9 i a
 | .region k o d=>match Nat.beq k i with | true=>some (.region k o d) | false=>none
 | _=>none
def cd83:Code:=Tryz.f83.body.getD .skip
def c83_0:Code:=(B9 0 cd83).getD .skip
def c83_1:Code:=(B9 1 cd83).getD .skip
def c83_2:Code:=(B9 2 cd83).getD .skip
def c83_3:Code:=(B9 3 cd83).getD .skip
def c83_4:Code:=(B9 4 cd83).getD .skip
def c83_5:Code:=(B9 5 cd83).getD .skip
def c83_6:Code:=(B9 6 cd83).getD .skip
def c83_7:Code:=(B9 7 cd83).getD .skip
def c83_8:Code:=(B9 8 cd83).getD .skip
def c83_9:Code:=(B9 9 cd83).getD .skip
def c83_10:Code:=(B9 10 cd83).getD .skip
def c83_11:Code:=(B9 11 cd83).getD .skip
def c83_12:Code:=(B9 12 cd83).getD .skip
def c83_13:Code:=(B9 13 cd83).getD .skip
def c83_14:Code:=(B9 14 cd83).getD .skip
theorem c83_0_eq:∃ t0 p0 a0 t1 p1 a1,c83_0=.region 0 #[⟨some 1,.box 25 (.tmp 0),t0,p0,a0,none⟩,⟨some 2,.assign (.const (.pointer none)),t1,p1,a1,none⟩] false:=⟨_,_,_,_,_,_,rfl⟩
theorem c83_1_eq:∃ t0 p0 a0 t1 p1 a1 t2 p2 a2 t3 p3 a3,c83_1=.region 1 #[⟨some 9,.load 25 (.tmp 1),t0,p0,a0,none⟩,⟨some 10,.build 129 #[(0,.tmp 9)],t1,p1,a1,none⟩,⟨some 11,.box 129 (.tmp 10),t2,p2,a2,none⟩,⟨some 3,.assign (.tmp 11),t3,p3,a3,none⟩] false:=⟨_,_,_,_,_,_,_,_,_,_,_,_,rfl⟩
theorem c83_2_eq:∃ t0 p0 a0 t1 p1 a1 t2 p2 a2 t3 p3 a3,c83_2=.region 2 #[⟨some 12,.fieldAddr 25 (.tmp 1) 0,t0,p0,a0,none⟩,⟨some 13,.load 22 (.tmp 12),t1,p1,a1,none⟩,⟨some 14,.call { callee:=.builtin .len,args:=#[.tmp 13],argTypes:=#[22] },t2,p2,a2,none⟩,⟨some 15,.move (.const (.int .i64 0)),t3,p3,a3,none⟩] false:=⟨_,_,_,_,_,_,_,_,_,_,_,_,rfl⟩
theorem c83_3_eq:∃ t0 p0 a0,c83_3=.region 3 #[⟨some 16,.binOp .lss 3 (.tmp 15) (.tmp 14) 3,t0,p0,a0,none⟩] false:=⟨_,_,_,rfl⟩
theorem c83_4_eq:∃ t0 p0 a0 t1 p1 a1 t2 p2 a2 t3 p3 a3,c83_4=.region 4 #[⟨some 17,.indexAddr 22 (.tmp 13) (.tmp 15),t0,p0,a0,none⟩,⟨some 18,.load 75 (.tmp 17),t1,p1,a1,none⟩,⟨some 5,.alloc 75,t2,p2,a2,none⟩,⟨none,.store 75 (.tmp 5) (.tmp 18),t3,p3,a3,none⟩] false:=⟨_,_,_,_,_,_,_,_,_,_,_,_,rfl⟩
theorem c83_5_eq:∃ t0 p0 a0 t1 p1 a1 t2 p2 a2 t3 p3 a3 t4 p4 a4 t5 p5 a5 t6 p6 a6 t7 p7 a7,c83_5=.region 5 #[⟨some 19,.load 75 (.tmp 5),t0,p0,a0,none⟩,⟨some 20,.makeMap 119 none,t1,p1,a1,none⟩,⟨some 21,.makeMap 120 none,t2,p2,a2,none⟩,⟨some 22,.makeMap 120 none,t3,p3,a3,none⟩,⟨some 23,.makeMap 121 none,t4,p4,a4,none⟩,⟨some 24,.build 123 #[(0,.tmp 19),(1,.tmp 20),(2,.tmp 21),(3,.tmp 22),(6,.tmp 23)],t5,p5,a5,none⟩,⟨some 25,.box 123 (.tmp 24),t6,p6,a6,none⟩,⟨some 6,.assign (.tmp 25),t7,p7,a7,none⟩] false:=⟨_,_,_,_,_,_,_,_,_,_,_,_,_,_,_,_,_,_,_,_,_,_,_,_,rfl⟩
theorem c83_6_eq:∃ t0 p0 a0 t1 p1 a1 t2 p2 a2 t3 p3 a3,c83_6=.region 6 #[⟨some 26,.fieldAddr 25 (.tmp 1) 1,t0,p0,a0,none⟩,⟨some 27,.load 23 (.tmp 26),t1,p1,a1,none⟩,⟨some 28,.call { callee:=.builtin .len,args:=#[.tmp 27],argTypes:=#[23] },t2,p2,a2,none⟩,⟨some 29,.move (.const (.int .i64 0)),t3,p3,a3,none⟩] false:=⟨_,_,_,_,_,_,_,_,_,_,_,_,rfl⟩
theorem c83_7_eq:∃ t0 p0 a0,c83_7=.region 7 #[⟨some 30,.binOp .lss 3 (.tmp 29) (.tmp 28) 3,t0,p0,a0,none⟩] false:=⟨_,_,_,rfl⟩
theorem c83_8_eq:∃ t0 p0 a0 t1 p1 a1 t2 p2 a2 t3 p3 a3 t4 p4 a4 t5 p5 a5,c83_8=.region 8 #[⟨some 31,.move (.tmp 29),t0,p0,a0,none⟩,⟨some 32,.indexAddr 23 (.tmp 27) (.tmp 29),t1,p1,a1,none⟩,⟨some 33,.load 77 (.tmp 32),t2,p2,a2,none⟩,⟨some 8,.alloc 77,t3,p3,a3,none⟩,⟨some 7,.assign (.tmp 31),t4,p4,a4,none⟩,⟨none,.store 77 (.tmp 8) (.tmp 33),t5,p5,a5,none⟩] false:=⟨_,_,_,_,_,_,_,_,_,_,_,_,_,_,_,_,_,_,rfl⟩
theorem c83_9_eq:∃ t0 p0 a0 t1 p1 a1 t2 p2 a2 t3 p3 a3 t4 p4 a4,c83_9=.region 9 #[⟨some 34,.fieldAddr 77 (.tmp 8) 1,t0,p0,a0,none⟩,⟨some 35,.load 3 (.tmp 34),t1,p1,a1,none⟩,⟨some 36,.fieldAddr 75 (.tmp 5) 1,t2,p2,a2,none⟩,⟨some 37,.load 3 (.tmp 36),t3,p3,a3,none⟩,⟨some 38,.binOp .eql 3 (.tmp 35) (.tmp 37) 3,t4,p4,a4,none⟩] false:=⟨_,_,_,_,_,_,_,_,_,_,_,_,_,_,_,rfl⟩
theorem c83_11_eq:∃ t0 p0 a0 t1 p1 a1,c83_11=.region 11 #[⟨some 48,.binOp .add 3 (.tmp 29) (.const (.int .i64 1)) 3,t0,p0,a0,none⟩,⟨some 29,.move (.tmp 48),t1,p1,a1,none⟩] false:=⟨_,_,_,_,_,_,rfl⟩
theorem c83_12_eq:∃ t0 p0 a0 t1 p1 a1 t2 p2 a2 t3 p3 a3 t4 p4 a4 t5 p5 a5 t6 p6 a6 t7 p7 a7 t8 p8 a8 t9 p9 a9 t10 p10 a10,c83_12=.region 12 #[⟨some 49,.move (.tmp 3),t0,p0,a0,none⟩,⟨some 50,.move (.tmp 3),t1,p1,a1,none⟩,⟨some 51,.nilCheck (.tmp 50),t2,p2,a2,none⟩,⟨some 52,.fieldAddr 129 (.tmp 51) 1,t3,p3,a3,none⟩,⟨some 53,.load 127 (.tmp 52),t4,p4,a4,none⟩,⟨some 54,.move (.tmp 6),t5,p5,a5,none⟩,⟨some 55,.buildSlice 127 1 #[(0,.tmp 54)],t6,p6,a6,none⟩,⟨some 56,.call { callee:=.builtin .append,args:=#[.tmp 53,.tmp 55],argTypes:=#[127,127] },t7,p7,a7,none⟩,⟨some 57,.nilCheck (.tmp 49),t8,p8,a8,none⟩,⟨some 58,.fieldAddr 129 (.tmp 57) 1,t9,p9,a9,none⟩,⟨none,.store 127 (.tmp 58) (.tmp 56),t10,p10,a10,none⟩] false:=⟨_,_,_,_,_,_,_,_,_,_,_,_,_,_,_,_,_,_,_,_,_,_,_,_,_,_,_,_,_,_,_,_,_,rfl⟩
theorem c83_13_eq:∃ t0 p0 a0 t1 p1 a1,c83_13=.region 13 #[⟨some 59,.binOp .add 3 (.tmp 15) (.const (.int .i64 1)) 3,t0,p0,a0,none⟩,⟨some 15,.move (.tmp 59),t1,p1,a1,none⟩] false:=⟨_,_,_,_,_,_,rfl⟩
theorem c83_14_eq:∃ t0 p0 a0 t1 p1 a1,c83_14=.region 14 #[⟨some 60,.move (.tmp 3),t0,p0,a0,none⟩,⟨some 2,.assign (.tmp 60),t1,p1,a1,none⟩] false:=⟨_,_,_,_,_,_,rfl⟩
theorem c83_eq:cd83=.seq c83_0 (.seq c83_1 (.seq (.seq c83_2 (.block 0 (.loop (.seq c83_3 (.seq (.cond (.tmp 16) .skip (.exit 0)) (.seq (.block 1 (.seq c83_4 (.seq c83_5 (.seq (.seq c83_6 (.block 2 (.loop (.seq c83_7 (.seq (.cond (.tmp 30) .skip (.exit 2)) (.seq (.block 3 (.seq c83_8 (.seq c83_9 (.cond (.tmp 38) c83_10 .skip)))) c83_11)))))) c83_12)))) c83_13)))))) (.seq c83_14 .ret))):=by kernel_rfl
end
end Go.Proofs.YtdcdjjogieojhaaGreatDoor
