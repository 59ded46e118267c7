/-
 Contracts of functions: models, equations by the kernel, contracts. Conditions: none.
-/
import Derived.Test.YtdcdjjogieojhaaGreatDoorK4
import Derived.KernelRfl
set_option linter.unusedVariables false
set_option linter.unusedSimpArgs false
set_option linter.unusedSectionVars false
namespace Go.Proofs.YtdcdjjogieojhaaGreatDoor
open Go Go.Sy Go.RowKit Go.ChangeMaps
noncomputable section
set_option maxRecDepth 100000
set_option maxHeartbeats 2000000
attribute [local instance 2000] Go.Sy.G0
/-! ### helpers: fill,the whole -/
theorem l128{D dd:Dat}(hD:∀ q,D.sn q 0=q){n j:Nat}(hj:j<n)(hn:n<=1000000):∀ (f q:Nat),q<=j->j - q<f->l128rz_0 n D true j dd (n:Int) f (q:Int)=some (true,(j:Int),default)
 | 0,q,h1,h2=>by omega
 | f+1,q,h1,h2=>by
  unfold l128rz_0
  have e1:decide ((q:Int)<(n:Int))=true:=decide_eq_true (by omega)
  have e2:decide (0<=(q:Int)/\(q:Int)<(n:Int))=true:=decide_eq_true (by omega)
  rw [e1,e2]
  simp only [cond_true,Bool.true_and,Int.toNat_natCast,hD]
  by_cases e:j=q
  .subst e;simp
  .have:j.beq q=false:=by
    cases hb:j.beq q
    .rfl
    .exact absurd (Nat.eq_of_beq_eq_true hb) e
   rw [this,cond_false,wrS (n:=n) (by omega) (by omega)]
   exact l128 hD hj hn f (q+1) (by omega) (by omega)
theorem m128_eq{D dd:Dat}(hD:∀ q,D.sn q 0=q){n j:Nat}(hj:j<n)(hn:n<=1000000):n128rz n D j dd=true/\m128rz n D j dd=(j:Int):=by
 have h:=l128 (dd:=dd) hD hj hn (n+j+(n:Int).toNat+(0:Int).toNat+8) 0 (Nat.zero_le _) (by omega)
 have h:l128rz_0 n D true j dd (n:Int) (n+j+(n:Int).toNat+(0:Int).toNat+8) 0=some (true,(j:Int),default):=h
 have ho:o128rz_0 n D true j dd (n:Int) 0=some (true,(j:Int),default):=h
 constructor
 .show ((o128rz_0 n D true j dd (n:Int) 0).isSome&&true)=true
  rw [ho];rfl
 .show (cond (((o128rz_0 n D true j dd (n:Int) 0).getD default).fst) (((o128rz_0 n D true j dd (n:Int) 0).getD default).snd.fst) (-1))=_
  rw [ho];rfl
theorem BB.mono{K:Kst}{xI xR:Value}{od od':Od}(h:∀ b o v,od b o=some v->od' b o=some v)(hs:BB K xI xR od):BB K xI xR od':=by
 obtain ⟨⟨A,cap,e1,e2,e3⟩,A',cap',f1,f2,f3⟩:=hs
 refine ⟨⟨A,cap,e1,e2,fun h0=>?_⟩,A',cap',f1,f2,fun h0=>?_⟩
 .obtain ⟨b,o,ha,hq⟩:=e3 h0
  refine ⟨b,o,ha,fun q hl=>?_⟩
  obtain ⟨⟨y0,h0,d0⟩,⟨y1,h1,d1⟩,⟨y2,h2,d2⟩,_⟩:=hq q hl
  exact ⟨⟨y0,h _ _ _ h0,d0⟩,⟨y1,h _ _ _ h1,d1⟩,⟨y2,h _ _ _ h2,d2⟩,trivial⟩
 .obtain ⟨b,o,ha,hq⟩:=f3 h0
  refine ⟨b,o,ha,fun q hl=>?_⟩
  obtain ⟨⟨y0,h0,d0⟩,⟨y1,h1,d1⟩,⟨y2,h2,d2⟩,⟨y3,h3,d3⟩,_⟩:=hq q hl
  exact ⟨⟨y0,h _ _ _ h0,d0⟩,⟨y1,h _ _ _ h1,d1⟩,⟨y2,h _ _ _ h2,d2⟩,⟨y3,h _ _ _ h3,d3⟩,trivial⟩
def G8(K:Kst)(L:Lay)(w:World):Prop:=BB K L.xI L.xR (Bn w Br)
theorem G8.keep{K:Kst}{L:Lay}{w w':World}(h:G8 K L w)(keep:∀ (b:Nat) (c:Array Value) (t:TypeId) (fr:Nat × Nat),w.heap[b]? = some (.cells c t fr)->(∀ s,Tg.ok K s->L.at_ s≠b)->w'.heap[b]? = some (.cells c t fr)):True:=trivial
theorem y107a(i j:Nat)(d0 d1 d2:Dat)(R:XE->List SV->List Blk->Prop):AT Tryz.prog [] (fun _=>none) 8 c107a (Aq 0 62 [0,1,2] [.rz true i shT d0,.rp shZ d1 0 0,.rz true j shT d2] 0 []) (AJ 0 62 [0,1,2,13] [] 0 [] R) =
 R .normal [.rz true i shT d0,.rp shZ d1 0 0,.rz true j shT d2,.bool (decide (d2.ii 0 1=3))] []:=by kernel_rfl
theorem y107b(i j:Nat)(d0 d1 d2:Dat)(x:Bool)(R:XE->List SV->List Blk->Prop):AT Tryz.prog [(128,c128rz)] (fun _=>none) 8 c107b (Aq 0 62 [0,1,2,13] [.rz true i shT d0,.rp shZ d1 0 0,.rz true j shT d2,.bool x] 0 []) (AJ 0 62 [0,6] [] 1 [] R) =
 cnd (n128rz (d1.sn 0 2) (d1.sub 0 2) j d2) (R .normal [.rz true i shT d0,.ptr 0 0] [.cells 156 [.int .i64 (m128rz (d1.sn 0 2) (d1.sub 0 2) j d2),.int .i64 (d2.ii 0 6)]]) False:=by kernel_rfl
def GK(K:Kst)(st:Stt)(i j:Nat):Th:=if K.di.ii j 1=3 then MV (st.th i) j (st.th j).pr else
 {st.th i with has:=fun a b=>(st.th i).has a b||(st.th j).has a b,had:=fun a b=>(st.th i).had a b||(st.th j).has a b }
theorem Mo{L:Lay}{K:Kst}{inj:∀ s t,Tg.ok K s->Tg.ok K t->L.at_ s=L.at_ t->s=t}{O:Env}{i:Nat}(hi:i<K.n){sh:List Kd}{d:Dat}{x:Value}(hp:O.od.p=Dm L K inj)(h:(SV.rz true i sh d).den O x):x=.pointer (some ⟨L.at_ (.th i),0,none⟩):=by
 rcases h with ⟨_,b,rfl,hb,_⟩ | ⟨h,_⟩
 .rw [hp] at hb
  rcases Ge hb with ⟨_,e⟩ | ⟨e,_⟩
  .rw [e]
  .omega
 .cases h
theorem Sj{L:Lay}{K:Kst}{inj:∀ s t,Tg.ok K s->Tg.ok K t->L.at_ s=L.at_ t->s=t}{O:Env}{sh:List Kd}{d:Dat}{x:Value}(hp:O.od.p=Dm L K inj)(h:(SV.rz true K.n sh d).den O x):x=.pointer (some ⟨L.at_ .shop,0,none⟩):=by
 rcases h with ⟨_,b,rfl,hb,_⟩ | ⟨h,_⟩
 .rw [hp] at hb
  rcases Ge hb with ⟨e,_⟩ | ⟨_,e⟩
  .omega
  .rw [e]
 .cases h
theorem CH{w w':World}(h:AR w.heap.size [] w w'):∀ (b:Nat) (o:Obj),w.heap[b]? = some o->w'.heap[b]? = some o:=fun b o hb=>(h.block b (Array.getElem?_eq_some_iff.1 hb).1 (by simp)).trans hb
theorem c107r_eq:∃ t1 p1 a1 t2 p2 a2 t3 p3 a3 t4 p4 a4 t5 p5 a5,c107r=.region 3 #[⟨some 39,.move (.tmp 2),t1,p1,a1,none⟩,⟨some 40,.nilCheck (.tmp 39),t2,p2,a2,none⟩,⟨some 41,.fieldAddr 123 (.tmp 40) 2,t3,p3,a3,none⟩,⟨some 42,.load 120 (.tmp 41),t4,p4,a4,none⟩,⟨some 43,.range 120 (.tmp 42),t5,p5,a5,none⟩] false:=⟨_,_,_,_,_,_,_,_,_,_,_,_,_,_,_,rfl⟩
theorem c107n_eq:∃ t1 p1 a1 t2 p2 a2,c107n=.region 4 #[⟨some 44,.next (.tmp 43) false,t1,p1,a1,none⟩,⟨some 45,.extract (.tmp 44) 0,t2,p2,a2,none⟩] false:=⟨_,_,_,_,_,_,rfl⟩
def c107o:List Oper:=match c107e with | .region _ o _=>o.toList.drop 2 | _=>[]
theorem c107e_eq:∃ t1 p1 a1 t2 p2 a2,c107e=.region 5 (⟨some 46,.entry (.tmp 43),t1,p1,a1,none⟩ :: ⟨some 47,.extract (.tmp 46) 0,t2,p2,a2,none⟩ :: c107o).toArray false:=⟨_,_,_,_,_,_,rfl⟩
theorem y107e(x0 it:Value)(c k:Int)(R:List SV->List Blk->Prop):Lj Tryz.prog (IT false []) (match c107e with | .region _ o _=>o | _=>#[]) c107o (Aq 0 62 [0,43,47] [.val x0,.val it,.agg [.int .i64 c,.int .i64 k]] 0 []) (fun s=>cz 0 62 [0,7,43] 1 [] s R) =
 R [.val x0,.ptr 0 0,.val it] [.cells 156 [.int .i64 c,.int .i64 k]]:=by kernel_rfl
theorem G6{L:Lay}{K:Kst}{st:Stt}{w:World}(h:Ao L K st w){r:Nat}{b s n c}(hr:w.heap[r]? = some (.mapIter b s n c)):∀ t,Tg.ok K t->L.at_ t≠r:=by
 intro t ht e
 obtain ⟨o,h1,h2⟩:=h.at_ t ht
 rw [e,hr] at h1
 cases h1
 cases t with
 | shop=>obtain ⟨_,_,e1,_⟩:=h2;cases e1
 | row=>obtain ⟨_,e1,_⟩:=h2;cases e1
 | th i=>cases h2
 | ck i=>obtain ⟨_,_,_,e1,_⟩:=h2;cases e1
 | hs i=>obtain ⟨_,_,_,e1,_⟩:=h2;cases e1
 | hd i=>obtain ⟨_,_,_,e1,_⟩:=h2;cases e1
 | bd i=>obtain ⟨_,_,_,e1,_⟩:=h2;cases e1
 | cb i q =>
  have:=h.ok.ck i ht.1 q
  rw [ht.2] at this
  obtain ⟨cc,hcc⟩:=Option.isSome_iff_exists.1 this
  cases h2 cc hcc
def Lb(st:Stt)(i j:Nat)(left:Int × Int->Bool):Th:={ st.th i with has:=fun a b=>(st.th i).has a b||((st.th j).has a b&&!left ((a:Int),(b:Int))),had:=fun a b=>(st.th i).had a b||((st.th j).has a b&&!left ((a:Int),(b:Int))) }
theorem QG(B:Nat)(w:World):Ak B [] ⟨fun _=>none,CN,gl0 _⟩ (Ah []) w :=
 ⟨fun i hi=>by simp [Ah,Blk.isUnk] at hi,fun i j m m' _ hi=>by simp [Ah,Blk.isUnk] at hi,H0 w,fun i m hi=>by simp [Ah,Blk.isUnk] at hi,pv0 _⟩
theorem Rn{st:Stt}{i j:Nat}{left:Int × Int->Bool}{c k:Nat}(hh:(st.th j).has c k=true):MV (Lb st i j left) c k=Lb st i j (fun x=>left x&&!decide (x=((c:Int),(k:Int)))):=by
 have key:∀ (g:Nat->Nat->Bool) (a b:Nat),(g a b||((st.th j).has a b&&!left ((a:Int),(b:Int)))||decide (a=c/\b=k))=(g a b||((st.th j).has a b&&!(left ((a:Int),(b:Int))&&!decide (((a:Int),(b:Int))=((c:Int),(k:Int)))))):=by
  intro g a b
  by_cases e:a=c/\b=k
  .obtain ⟨rfl,rfl⟩:=e
   simp [hh]
  .have e':¬ (((a:Int),(b:Int))=((c:Int),(k:Int))):=fun q=>e ⟨by have:=congrArg Prod.fst q;simp only at this;omega,by have:=congrArg Prod.snd q;simp only at this;omega⟩
   simp [e,e']
 simp only [MV,Lb,Th.mk.injEq,true_and,and_true]
 exact ⟨by funext a b;exact key _ a b,by funext a b;exact key _ a b⟩
theorem Q5{L:Lay}{K:Kst}{st:Stt}{w:World}(hL:L.T=T7)(h:Ao L K st w)(hS:G8 K L w){i j:Nat}(hi:i<K.n)(hj:j<K.n)(hij:i≠j)(hn:K.n<=1000000)(hpr:(st.th j).pr<nB) :
  Calls Tryz.prog 107 ⟨[.pointer (some ⟨L.at_ (.th i),0,none⟩),.pointer (some ⟨L.at_ .shop,0,none⟩),.pointer (some ⟨L.at_ (.th j),0,none⟩)]⟩ w fun e w'=>∃ ys,e=.returned (Nv ys)/\Ao L K (upT st i (GK K st i j)) w'/\AS L K w w':=by
 refine Ef (fn:=Tryz.f107) (c:=c107) Tryz.func107 rfl [] rfl (xs:=[.pointer (some ⟨L.at_ (.th i),0,none⟩),.pointer (some ⟨L.at_ .shop,0,none⟩),.pointer (some ⟨L.at_ (.th j),0,none⟩)]) (show 3<=Tryz.f107.ntmps by decide) (Q:=fun _ w'=>Ao L K (upT st i (GK K st i j)) w'/\AS L K w w') fun a hsz hdf hargs=>?_
 rw [c107_eq]
 have hs0:Ab w.heap.size [] ⟨w,⟨fun _=>none,Bn w (Dm L K h.inj),gl0 _⟩,0,fun _=>none,some []⟩ ⟨fun _=>none,Bn w (Dm L K h.inj),gl0 _⟩ (Aq 0 62 [0,1,2] [.rz true i shT (thD K st i),.rp shZ (AY K st) 0 0,.rz true j shT (thD K st j)] 0 []) a w:=by
  refine Ab.start hsz hdf (fun d e=>by cases e;rfl) (h.mem _) (fun _ _=>rfl) (fun _=>rfl) (fun p t v h1 h2=>?_) (fun v hv t pol u e=>?_)
  .match p,h1,h2 with
   | 0,h1,h2=>cases h1;cases h2;exact .inl ⟨rfl,_,hargs 0 _ rfl,GT (inj:=h.inj) hi,L9 h h.seen hi⟩
   | 1,h1,h2 =>
    cases h1;cases h2
    rw [hargs 1 _ rfl]
    exact Rc h h.seen (BB.mono (fun _ _ _ hv=>hv) hS) fun i hi=>GT (inj:=h.inj) hi
   | 2,h1,h2=>cases h1;cases h2;exact .inl ⟨rfl,_,hargs 2 _ rfl,GT (inj:=h.inj) hj,L9 h h.seen hj⟩
  .simp at hv;rcases hv with rfl | rfl | rfl <;> cases e
 refine wpIn_seq (wpIn_seq ?_)
 refine Cw AM A6 (R:=fun v b=>v=[.rz true i shT (thD K st i),.rp shZ (AY K st) 0 0,.rz true j shT (thD K st j),.bool (decide (K.di.ii j 1=3))]/\b=[]) (Bu (y107a _ _ _ _ _ _) ⟨rfl,rfl,rfl⟩) (.inr (by kernel_rfl)) hs0 ?_
 rintro vs bs O1 a1 w1 ⟨rfl,rfl⟩ h1
 have e13:a1.eval (.tmp 13)=.bool (decide (K.di.ii j 1=3)):=AF h1.tmDen (Az.nil a1) (.tmp 13)
 refine wpIn_cond e13 ?_
 by_cases hk:K.di.ii j 1=3
 ·-- a compressor's number
  rw [decide_eq_true hk]
  rw [decide_eq_true hk] at h1
  refine wpIn_seq (Cw (B8 k128rz AM) A6 (R:=fun v b=>v=[.rz true i shT (thD K st i),.ptr 0 0]/\b=[.cells 156 [.int .i64 (j:Int),.int .i64 ((st.th j).pr:Int)]]) (Bu (y107b _ _ _ _ _ _ _) ?_) (.inr (by kernel_rfl)) h1 ?_)
  .obtain ⟨q1,q2⟩:=m128_eq (D:=(AY K st).sub 0 2) (dd:=thD K st j) (fun q=>rfl) hj hn
   refine AH q1 ⟨rfl,rfl,?_⟩
   rw [show m128rz ((AY K st).sn 0 2) ((AY K st).sub 0 2) j (thD K st j)=(j:Int) from q2]
   rfl
  .rintro vs bs O2 a2 w2 ⟨rfl,rfl⟩ h2
   have hk2:AR w.heap.size [] w w2:=h2.kept
   have hp2:O2.od.p=Dm L K h.inj:=h2.odb.p
   have e0:=Mo hi hp2 (AF h2.tmDen (Az.nil a2) (.tmp 0))
   obtain ⟨m,hm,e6⟩:∃ m,O2 0=some m/\a2.eval (.tmp 6)=.pointer (some ⟨m.blk,m.off+0,none⟩):=AF h2.tmDen (Az.nil a2) (.tmp 6)
   obtain ⟨_,⟨hoff,c,hc,hd⟩,hB⟩:=h2.mem.get (i:=0) rfl hm
   rw [hoff] at e6
   obtain ⟨y0,l0,f0,g0,hd⟩:=A9 hd
   obtain ⟨y1,l1,f1,g1,hd⟩:=A9 hd
   have f2:=Bb hd
   have hcc:c=#[.int .i64 (j:Int),.int .i64 ((st.th j).pr:Int)]:=by
    apply Array.toList_inj.1
    rw [f0,f1,f2]
    cases g0;cases g1;rfl
   subst hcc
   have hsh2:=h.keep (CH hk2)
   refine wpIn_seq (HI (s:=25) (x:=6) (bx:=m.blk) c107p_ops c107p_ed (show 25+14<=a2.tmps.size by have:a2.tmps.size=62:=h2.size;omega) (by omega) (by omega) hL hsh2 hi e0 e6 hc ⟨hj,hpr⟩ fun a3 w3 hdf3 hsz3 hout3 hsh3 ho3 hk3=>?_)
   refine wpIn_ret ⟨.inl rfl,hdf3.trans (h2.defs.same_ [] rfl),?_,(AS.of_kept hk2 fun b hb=>by simp at hb).trans ho3⟩
   rw [GK,if_pos hk]
   exact hsh3
 .rw [decide_eq_false hk]
  rw [decide_eq_false hk] at h1
  refine wpIn_skip ?_
  show Code.wpIn (FW none) 0 Tryz.prog (.seq c107r (.block 0 _)) _ _ _
  have hk1:AR w.heap.size [] w w1:=h1.kept
  have hp1:O1.od.p=Dm L K h.inj:=h1.odb.p
  have e0:=Mo hi hp1 (AF h1.tmDen (Az.nil a1) (.tmp 0))
  have e2:=Mo hj hp1 (AF h1.tmDen (Az.nil a1) (.tmp 2))
  have hz1:a1.tmps.size=62:=h1.size
  have hf1:a1.defers=[]:=h1.defs.same_ [] rfl
  have hsh1:=h.keep (CH hk1)
  have ho1:AS L K w w1:=AS.of_kept hk1 fun b hb=>by simp at hb
  clear hs0 h1 hk1 hp1
  obtain ⟨_,g1,es,cl,f,rfl,g2,g3⟩:=hsh1.at_ (.hs j) hj
  obtain ⟨o0,t1,t2⟩:=hsh1.at_ (.th j) hj
  have t2:o0=.cells (thV L K st j) L.T.th (0,0):=t2
  subst t2
  rw [hL] at t1
  have hat:B5 w1 (L.at_ (.hs j)) AE f:=⟨es,cl,g1,g2⟩
  obtain ⟨o,cnt,hrun,hit⟩:=hat.range Fz
  refine wpIn_seq ?_
  obtain ⟨u1,p1,b1,u2,p2,b2,u3,p3,b3,u4,p4,b4,u5,p5,b5,hR⟩:=c107r_eq
  rw [hR]
  refine wpIn_region_list ?_
  refine Ai rfl (x:=.pointer (some ⟨L.at_ (.th j),0,none⟩)) (w':=w1) (by simp [execOp,e2]) ?_
  refine Ai rfl (x:=.pointer (some ⟨L.at_ (.th j),0,none⟩)) (w':=w1) (by simp [execOp,Aa (show 39<a1.tmps.size by omega)]) ?_
  refine Ai rfl (x:=.pointer (some ⟨L.at_ (.th j),4,none⟩)) (w':=w1) (by simp [execOp,Aa (show 40<(a1.put (some 39) (.pointer (some ⟨L.at_ (.th j),0,none⟩))).tmps.size by rw [Ar];omega),BQ (w:=w1) (b:=L.at_ (.th j)) (f:=2) (j:=4) (t:=123) (by kernel_rfl)]) ?_
  refine Ai rfl (x:=.map (some (L.at_ (.hs j)))) (w':=w1) (by
   simp only [execOp]
   rw [Aa (by simp only [Ar];omega)]
   simp [C0 (t:=120) t1 (j:=4) (v:=.val (.map (some (L.at_ (.hs j))))) (by kernel_rfl) (fun z hz=>hz)]) ?_
  refine Ai rfl (x:=.pointer (some ⟨w1.heap.size,0,none⟩)) (w':=w1.alloc o) (by
   simp only [execOp]
   rw [Aa (by simp only [Ar];omega)]
   simp [hrun]) ?_
  show Code.wpIn (FW none) 0 Tryz.prog (.block 0 _) _ _ _
  have e0':((((((a1.put (some 39) (.pointer (some ⟨L.at_ (.th j),0,none⟩))).put (some 40) (.pointer (some ⟨L.at_ (.th j),0,none⟩))).put (some 41) (.pointer (some ⟨L.at_ (.th j),4,none⟩))).put (some 42) (.map (some (L.at_ (.hs j))))).put (some 43) (.pointer (some ⟨w1.heap.size,0,none⟩)))).eval (.tmp 0)=.pointer (some ⟨L.at_ (.th i),0,none⟩):=by
   rw [Ap (by omega),Ap (by omega),Ap (by omega),Ap (by omega),Ap (by omega)];exact e0
  have e43:((((((a1.put (some 39) (.pointer (some ⟨L.at_ (.th j),0,none⟩))).put (some 40) (.pointer (some ⟨L.at_ (.th j),0,none⟩))).put (some 41) (.pointer (some ⟨L.at_ (.th j),4,none⟩))).put (some 42) (.map (some (L.at_ (.hs j))))).put (some 43) (.pointer (some ⟨w1.heap.size,0,none⟩)))).eval (.tmp 43)=.pointer (some ⟨w1.heap.size,0,none⟩):=Aa (by simp only [Ar];omega)
  have hz5:((((((a1.put (some 39) (.pointer (some ⟨L.at_ (.th j),0,none⟩))).put (some 40) (.pointer (some ⟨L.at_ (.th j),0,none⟩))).put (some 41) (.pointer (some ⟨L.at_ (.th j),4,none⟩))).put (some 42) (.map (some (L.at_ (.hs j))))).put (some 43) (.pointer (some ⟨w1.heap.size,0,none⟩)))).tmps.size=62:=by simp only [Ar];exact hz1
  have hf5:((((((a1.put (some 39) (.pointer (some ⟨L.at_ (.th j),0,none⟩))).put (some 40) (.pointer (some ⟨L.at_ (.th j),0,none⟩))).put (some 41) (.pointer (some ⟨L.at_ (.th j),4,none⟩))).put (some 42) (.map (some (L.at_ (.hs j))))).put (some 43) (.pointer (some ⟨w1.heap.size,0,none⟩)))).defers=[]:=by simp only [B0];exact hf1
  generalize ((((((a1.put (some 39) (.pointer (some ⟨L.at_ (.th j),0,none⟩))).put (some 40) (.pointer (some ⟨L.at_ (.th j),0,none⟩))).put (some 41) (.pointer (some ⟨L.at_ (.th j),4,none⟩))).put (some 42) (.map (some (L.at_ (.hs j))))).put (some 43) (.pointer (some ⟨w1.heap.size,0,none⟩))))=a5 at e0' e43 hz5 hf5 ⊢
  have hsh5:Ao L K st (w1.alloc o):=hsh1.keep fun b q hb=>(Below.heap_alloc w1 o b (Array.getElem?_eq_some_iff.1 hb).1).trans hb
  have ho5:AS L K w (w1.alloc o):=ho1.trans ⟨rfl,rfl,rfl,by simp,fun b hb _=>Below.heap_alloc w1 o b hb⟩
  have hr5:w.heap.size<=w1.heap.size:=ho1.size
  generalize w1.alloc o=w5 at hit hsh5 ho5 ⊢
  generalize w1.heap.size=r at hit hr5 e43 ⊢
  refine wpIn_block (wpIn_loop_rounds (cnt+1) ?_)
  have rounds:∀ (fu cnt:Nat),cnt+1<=fu->∀ (left:Int × Int->Bool) (a:Act) (w6:World),a.eval (.tmp 0)=.pointer (some ⟨L.at_ (.th i),0,none⟩)->a.eval (.tmp 43)=.pointer (some ⟨r,0,none⟩)->a.tmps.size=62->a.defers=[] ->
    Ao L K (upT st i (Lb st i j left)) w6->AS L K w w6->BL w6 r (L.at_ (.hs j)) AE f left cnt->(∀ p:Int × Int,left p=true->(f p).isSome=true) ->
    Code.roundsIn (FW none) 0 Tryz.prog (.seq c107n (.seq (.cond (.tmp 45) .skip (.exit 0)) (.block 1 (.seq c107e (.region 6 c107q true))))) (Exit.inBlock 0 (fun e a' w'=>(e=.ret\/e=.normal)/\a'.defers=[]/\Ao L K (upT st i (GK K st i j)) w'/\AS L K w w')) fu a w6:=by
   intro fu
   induction fu with
   | zero=>intro cnt h0;omega
   | succ fu ih =>
   intro cnt hfu left a w6 x0 x43q hsz6 hdf6 hsh6 ho6 hit hleft
   rw [roundsIn_succ]
   refine wpIn_seq ?_
   obtain ⟨t1,p1,a1',t2,p2,a2',hN⟩:=c107n_eq
   rw [hN]
   refine wpIn_region_list ?_
   have hnit:∀ t,Tg.ok K t->L.at_ t≠r:=by obtain ⟨_,_,_,_,_,_,hrr,_⟩:=hit;exact G6 hsh6 hrr
   rcases hit.next Ib t1 with ⟨hno,hrun⟩ | ⟨pk,v,w7,o7,cnt',hl,hfv,hw7,hrun,hent,hit',hcnt⟩
   .refine Ai rfl (x:=.tuple #[.bool false]) (w':=w6) (by simp only [execOp,x43q];simp [hrun]) ?_
    refine Ai rfl (x:=.bool false) (w':=w6) (by simp only [execOp,Aa (show 44<a.tmps.size by omega)];simp [Instr.extract]) ?_
    refine wpIn_seq (wpIn_cond (t:=false) (Aa (by rw [Ar];omega)) (wpIn_exit ?_))
    show (_\/_)/\_
    refine ⟨.inr rfl,by simp only [B0];exact hdf6,?_,ho6⟩
    have:Lb st i j left=GK K st i j:=by
     rw [GK,if_neg hk]
     simp [Lb,hno]
    rw [<- this]
    exact hsh6
   .refine Ai rfl (x:=.tuple #[.bool true,AE pk,v]) (w':=setBlock w7 r o7) (by simp only [execOp,x43q];simp [hrun]) ?_
    refine Ai rfl (x:=.bool true) (w':=setBlock w7 r o7) (by simp only [execOp,Aa (show 44<a.tmps.size by omega)];simp [Instr.extract]) ?_
    refine wpIn_seq (wpIn_cond (t:=true) (Aa (by rw [Ar];omega)) (wpIn_skip ?_))
    refine wpIn_block ?_
    obtain ⟨pc,pn⟩:=pk
    have hpos:=hleft _ hl
    rw [g3] at hpos
    have hcond:(decide (0<=pc)&&decide (0<=pn)&&(st.th j).has pc.toNat pn.toNat)=true:=by
     cases hc:(decide (0<=pc)&&decide (0<=pn)&&(st.th j).has pc.toNat pn.toNat)
     .rw [if_neg (by show ¬ (decide (0<=pc)&&decide (0<=pn)&&(st.th j).has pc.toNat pn.toNat)=true;rw [hc];simp)] at hpos;cases hpos
     .rfl
    simp only [Bool.and_eq_true,decide_eq_true_eq] at hcond
    obtain ⟨c,rfl⟩:=Int.eq_ofNat_of_zero_le hcond.1.1
    obtain ⟨k,rfl⟩:=Int.eq_ofNat_of_zero_le hcond.1.2
    have hbb:(st.th j).has c k=true:=by simpa using hcond.2
    have hck:=h.ok.has j hj c k hbb
    have hw7h:w7.heap=w6.heap:=by rcases hw7 with rfl | rfl <;> rfl
    have hsh7:Ao L K (upT st i (Lb st i j left)) (setBlock w7 r o7):=⟨hsh6.inj,hsh6.ok,fun s hs=>let ⟨q,q1,q2⟩:=hsh6.at_ s hs;⟨q,(At w7 o7 (hnit s hs)).trans (by rw [hw7h];exact q1),q2⟩⟩
    have ho7:AS L K w (setBlock w7 r o7):=by
     refine ⟨?_,?_,?_,?_,fun b hb hn=>?_⟩
     .rcases hw7 with rfl | rfl <;> exact ho6.os
     .rcases hw7 with rfl | rfl <;> exact ho6.tape
     .rcases hw7 with rfl | rfl <;> exact ho6.output
     .have:=ho6.size
      simp only [setBlock,Array.size_setIfInBounds,hw7h];exact this
     .rw [At w7 o7 (by omega),hw7h];exact ho6.keep b hb hn
    obtain ⟨t3,p3,a3',t4,p4,a4',hX⟩:=c107e_eq
    rw [hX]
    refine wpIn_seq (wpIn_region_list ?_)
    simp only [List.toList_toArray]
    have x43':((a.put (some 44) (.tuple #[.bool true,AE ((c:Int),(k:Int)),v])).put (some 45) (.bool true)).eval (.tmp 43)=.pointer (some ⟨r,0,none⟩):=by rw [Ap (by omega),Ap (by omega)];exact x43q
    refine Ai rfl (x:=.tuple #[AE ((c:Int),(k:Int)),v]) (w':=setBlock w7 r o7) (by simp only [execOp,x43'];simp [hent]) ?_
    refine Ai rfl (x:=AE ((c:Int),(k:Int))) (w':=setBlock w7 r o7) (by simp only [execOp,Aa (show 46<((a.put (some 44) (.tuple #[.bool true,AE ((c:Int),(k:Int)),v])).put (some 45) (.bool true)).tmps.size by rw [Ar,Ar];omega)];simp [Instr.extract]) ?_
    have hop:(⟨some 46,.entry (.tmp 43),t3,p3,a3',none⟩ :: ⟨some 47,.extract (.tmp 46) 0,t4,p4,a4',none⟩ :: c107o:List Oper).toArray=(match c107e with | .region _ o _=>o | _=>#[]):=by rw [hX]
    rw [hop]
    have hst:Ab (setBlock w7 r o7).heap.size [] ⟨setBlock w7 r o7,⟨fun _=>none,CN,gl0 _⟩,0,fun _=>none,some []⟩ ⟨fun _=>none,CN,gl0 _⟩ (Aq 0 62 [0,43,47] [.val (.pointer (some ⟨L.at_ (.th i),0,none⟩)),.val (.pointer (some ⟨r,0,none⟩)),.agg [.int .i64 (c:Int),.int .i64 (k:Int)]] 0 [])
      ((((a.put (some 44) (.tuple #[.bool true,AE ((c:Int),(k:Int)),v])).put (some 45) (.bool true)).put (some 46) (.tuple #[AE ((c:Int),(k:Int)),v])).put (some 47) (AE ((c:Int),(k:Int)))) (setBlock w7 r o7):=by
     refine Ab.start (by simp only [Ar];exact hsz6) (by simp only [B0];exact hdf6) (fun d e=>by cases e;rfl) (QG _ _) (fun _ _=>rfl) (fun _=>rfl) (fun p t v h1 h2=>?_) (fun v hv t pol u e=>?_)
     .match p,h1,h2 with
      | 0,h1,h2=>cases h1;cases h2;show _=_;rw [Ap (by omega),Ap (by omega),Ap (by omega),Ap (by omega)];exact x0
      | 1,h1,h2=>cases h1;cases h2;show _=_;rw [Ap (by omega),Ap (by omega)];exact x43'
      | 2,h1,h2=>cases h1;cases h2;rw [Aa (by simp only [Ar];omega)];exact ⟨_,rfl,rfl,rfl,trivial⟩
     .simp at hv;rcases hv with rfl | rfl | rfl <;> cases e
    refine Ha (Fe (pix:=false) AM) (k:=fun s'=>cz 0 62 [0,7,43] 1 [] s' fun v b=>v=[.val (.pointer (some ⟨L.at_ (.th i),0,none⟩)),.ptr 0 0,.val (.pointer (some ⟨r,0,none⟩))]/\b=[.cells 156 [.int .i64 (c:Int),.int .i64 (k:Int)]]) (fun s' O' a8 w8 hs hx=>?_) _ _ _ _ _ hst (Bu (y107e _ _ _ _ _) ⟨rfl,rfl⟩)
    obtain ⟨r',hr',e1,e2⟩:=Bk hx
    obtain ⟨O2,h8⟩:=Cu hs hr'
    rw [e1,e2] at h8
    have y0:a8.eval (.tmp 0)=.pointer (some ⟨L.at_ (.th i),0,none⟩):=AF h8.tmDen (Az.nil a8) (.tmp 0)
    have y43:a8.eval (.tmp 43)=.pointer (some ⟨r,0,none⟩):=AF h8.tmDen (Az.nil a8) (.tmp 43)
    obtain ⟨m,hm,y7⟩:∃ m,O2 0=some m/\a8.eval (.tmp 7)=.pointer (some ⟨m.blk,m.off+0,none⟩):=AF h8.tmDen (Az.nil a8) (.tmp 7)
    obtain ⟨_,⟨hoff,cc,hc,hd⟩,hB⟩:=h8.mem.get (i:=0) rfl hm
    rw [hoff] at y7
    obtain ⟨z0,l0,f0,q0,hd⟩:=A9 hd
    obtain ⟨z1,l1,f1,q1,hd⟩:=A9 hd
    have f2:=Bb hd
    have hcc:cc=#[.int .i64 (c:Int),.int .i64 (k:Int)]:=by
     apply Array.toList_inj.1
     rw [f0,f1,f2]
     cases q0;cases q1;rfl
    subst hcc
    have hk8:AR (setBlock w7 r o7).heap.size [] (setBlock w7 r o7) w8:=h8.kept
    have hz8:a8.tmps.size=62:=h8.size
    have hd8:a8.defers=[]:=h8.defs.same_ [] rfl
    have hsh8:=hsh7.keep (CH hk8)
    have ho8:AS L K w w8:=ho7.trans (AS.of_kept hk8 fun b hb=>by simp at hb)
    show Code.wpIn (FW none) 0 Tryz.prog (.region 6 c107q true) _ _ _
    refine HI (s:=48) (x:=7) (bx:=m.blk) c107q_ops c107q_ed (by omega) (by omega) (by omega) hL hsh8 hi y0 y7 hc hck fun a9 w9 hdf9 hsz9 hout9 hsh9 ho9 hk9=>?_
    rw [Ic,Av,Rn hbb] at hsh9
    rw [<- hop,<- hX,<- hN]
    have same9:∀ q:Nat,q≠L.at_ (.hs i)->q≠L.at_ (.hd i)->∀ oo,(setBlock w7 r o7).heap[q]? = some oo->w9.heap[q]? = (setBlock w7 r o7).heap[q]?:=fun q n1 n2 oo hoo=>by
     rw [hoo];exact hk9 q oo n1 n2 (CH hk8 q oo hoo)
    have hit9:BL w9 r (L.at_ (.hs j)) AE f (fun x=>left x&&!decide (x=((c:Int),(k:Int)))) cnt':=by
     obtain ⟨_,_,_,_,_,hA,hBB,_⟩:=id hit'
     refine hit'.same (same9 _ (fun e=>by cases h.inj (.hs j) (.hs i) hj hi e;exact hij rfl) (fun e=>by cases h.inj (.hs j) (.hd i) hj hi e) _ hA) (same9 _ (Ne.symm (hnit (.hs i) hi)) (Ne.symm (hnit (.hd i) hi)) _ hBB)
    show Code.roundsIn (FW none) 0 Tryz.prog _ _ fu a9 w9
    exact ih cnt' (by omega) _ a9 w9 ((hout9 0 (.inl (by omega))).trans y0) ((hout9 43 (.inl (by omega))).trans y43) (hsz9.trans hz8) (hdf9.trans hd8) hsh9 (ho8.trans ho9) hit9 fun p hp=>hleft p (by simp only [Bool.and_eq_true] at hp;exact hp.1)
  refine rounds (cnt+1) cnt (Nat.le_refl _) _ a5 w5 e0' e43 hz5 hf5 ?_ ho5 hit fun p hp=>hp
  have hv:Lb st i j (fun a=>(f a).isSome)=st.th i:=by
   have:∀ a b:Nat,((st.th j).has a b&&!(f ((a:Int),(b:Int))).isSome)=false:=fun a b=>by
    rw [g3]
    cases hh:(st.th j).has a b <;> simp [hh]
   simp only [Lb,this,Bool.or_false]
  rw [hv]
  have:upT st i (st.th i)=st:=by
   cases st
   simp only [upT,Stt.mk.injEq,true_and]
   funext q
   split
   .rename_i e;rw [e]
   .rfl
  rw [this]
  exact hsh5
/-! ### helpers: do,what it reads -/
def c84:Code:=Tryz.f84.body.getD .skip
def c84a:Code:=match c84 with | .seq a _=>a | c=>c
def c84b:Code:=match c84 with | .seq _ (.seq b _)=>b | c=>c
def c84c:Code:=match c84 with | .seq _ (.seq _ (.seq c _))=>c | c=>c
def c84d:Code:=match c84 with | .seq _ (.seq _ (.seq _ (.seq d _)))=>d | c=>c
def c84r:Code:=match c84 with | .seq _ (.seq _ (.seq _ (.seq _ r)))=>r | c=>c
theorem c84_eq:c84=Sb [c84a,c84b,c84c,c84d] c84r:=by kernel_rfl
def m84p(d:Dat)(e0 e1:Int)(e2 e3 e4:BA)(e5:Bool):Option Int:=(cond (bif (decide ((m105rz d e0 e1 e2 e3 e4 e5)=0)) then false else true) (some ((m105rz d e0 e1 e2 e3 e4 e5))) ((cond (decide (e1<(d.ii 0 3))) (some (9)) ((cond (bif (decide (e1<(((m61rz d e2).snd.snd).ii 0 2))) then true else (bif (decide (e0=2)) then (decide (e1<(((m61rz d e4).snd.snd).ii 0 2))) else false)) (some (19)) ((cond (bif (decide (e0=1)) then (bif (m106 d ((m61rz d e2).snd.snd) e1) then false else true) else false) (some (24)) ((cond (bif (decide (e0=2)) then (bif (bif (m106 d ((m61rz d e4).snd.snd) e1) then false else true) then true else (bif (m106 d ((m61rz d e2).snd.snd) e1) then false else true)) else false) (some (24)) (none))))))))))
def n84p(d:Dat)(e0 e1:Int)(e2 e3 e4:BA)(e5:Bool):Bool:=((n105rz d e0 e1 e2 e3 e4 e5)&&(cond (bif (decide ((m105rz d e0 e1 e2 e3 e4 e5)=0)) then false else true) true ((n61rz d e2)&&((n61rz d e4)&&(cond (decide (e1<(d.ii 0 3))) true (((m61rz d e2).fst)&&((bif (bif (bif (bif (decide (e1<(((m61rz d e2).snd.snd).ii 0 2))) then false else true) then (decide (e0=2)) else false) then false else true) then true else ((m61rz d e4).fst))&&(cond (bif (decide (e1<(((m61rz d e2).snd.snd).ii 0 2))) then true else (bif (decide (e0=2)) then (decide (e1<(((m61rz d e4).snd.snd).ii 0 2))) else false)) true ((bif (bif (decide (e0=1)) then false else true) then true else true)&&((bif (bif (decide (e0=1)) then false else true) then true else ((m61rz d e2).fst))&&((bif (bif (decide (e0=1)) then false else true) then true else (n106 d ((m61rz d e2).snd.snd) e1))&&(cond (bif (decide (e0=1)) then (bif (m106 d ((m61rz d e2).snd.snd) e1) then false else true) else false) true ((bif (bif (decide (e0=2)) then false else true) then true else true)&&((bif (bif (decide (e0=2)) then false else true) then true else ((m61rz d e4).fst))&&((bif (bif (decide (e0=2)) then false else true) then true else (n106 d ((m61rz d e4).snd.snd) e1))&&((bif (bif (bif (decide (e0=2)) then (bif (bif (m106 d ((m61rz d e4).snd.snd) e1) then false else true) then false else true) else false) then false else true) then true else true)&&((bif (bif (bif (decide (e0=2)) then (bif (bif (m106 d ((m61rz d e4).snd.snd) e1) then false else true) then false else true) else false) then false else true) then true else ((m61rz d e2).fst))&&((bif (bif (bif (decide (e0=2)) then (bif (bif (m106 d ((m61rz d e4).snd.snd) e1) then false else true) then false else true) else false) then false else true) then true else (n106 d ((m61rz d e2).snd.snd) e1))&&(cond (bif (decide (e0=2)) then (bif (bif (m106 d ((m61rz d e4).snd.snd) e1) then false else true) then true else (bif (m106 d ((m61rz d e2).snd.snd) e1) then false else true)) else false) true true)))))))))))))))))))
theorem y84p(ns:Nat)(d:Dat)(e0 e1:Int)(e2 e3 e4:BA)(e5:Bool)(R:XE->List SV->List Blk->Prop):AT Tryz.prog [(105,c105rz),(61,c61rz),(106,c106)] (fun _=>none) 8 (Nt [c84a,c84b,c84c,c84d]) (Aq 0 151 [0,1] [.rz true ns shZ d,.agg [.int .i64 e0,.int .i64 e1,.str e2,.str e3,.str e4,.bool e5]] 0 []) (AJ 0 151 [0,3,6,7] [4] 1 [] R) =
 (cnd ((n105rz d e0 e1 e2 e3 e4 e5))
(cnd ((bif (decide ((m105rz d e0 e1 e2 e3 e4 e5)=0)) then false else true))
(R (XE.ret) [.int .i64 (m105rz d e0 e1 e2 e3 e4 e5)] [.cells 27 [.int .i64 e0,.int .i64 e1,.str e2,.str e3,.str e4,.bool e5]])
(cnd ((n61rz d e2))
(cnd ((n61rz d e4))
(cnd ((decide (e1<(d.ii 0 3))))
(R (XE.ret) [.int .i64 9] [.cells 27 [.int .i64 e0,.int .i64 e1,.str e2,.str e3,.str e4,.bool e5]])
(cnd (((m61rz d e2).fst))
(cnd ((bif (bif (bif (bif (decide (e1<(((m61rz d e2).snd.snd).ii 0 2))) then false else true) then (decide (e0=2)) else false) then false else true) then true else ((m61rz d e4).fst)))
(cnd ((bif (decide (e1<(((m61rz d e2).snd.snd).ii 0 2))) then true else (bif (decide (e0=2)) then (decide (e1<(((m61rz d e4).snd.snd).ii 0 2))) else false)))
(R (XE.ret) [.int .i64 19] [.cells 27 [.int .i64 e0,.int .i64 e1,.str e2,.str e3,.str e4,.bool e5]])
(cnd ((bif (bif (decide (e0=1)) then false else true) then true else true))
(cnd ((bif (bif (decide (e0=1)) then false else true) then true else ((m61rz d e2).fst)))
(cnd ((bif (bif (decide (e0=1)) then false else true) then true else (n106 d ((m61rz d e2).snd.snd) e1)))
(cnd ((bif (decide (e0=1)) then (bif (m106 d ((m61rz d e2).snd.snd) e1) then false else true) else false))
(R (XE.ret) [.int .i64 24] [.cells 27 [.int .i64 e0,.int .i64 e1,.str e2,.str e3,.str e4,.bool e5]])
(cnd ((bif (bif (decide (e0=2)) then false else true) then true else true))
(cnd ((bif (bif (decide (e0=2)) then false else true) then true else ((m61rz d e4).fst)))
(cnd ((bif (bif (decide (e0=2)) then false else true) then true else (n106 d ((m61rz d e4).snd.snd) e1)))
(cnd ((bif (bif (bif (decide (e0=2)) then (bif (bif (m106 d ((m61rz d e4).snd.snd) e1) then false else true) then false else true) else false) then false else true) then true else true))
(cnd ((bif (bif (bif (decide (e0=2)) then (bif (bif (m106 d ((m61rz d e4).snd.snd) e1) then false else true) then false else true) else false) then false else true) then true else ((m61rz d e2).fst)))
(cnd ((bif (bif (bif (decide (e0=2)) then (bif (bif (m106 d ((m61rz d e4).snd.snd) e1) then false else true) then false else true) else false) then false else true) then true else (n106 d ((m61rz d e2).snd.snd) e1)))
(cnd ((bif (decide (e0=2)) then (bif (bif (m106 d ((m61rz d e4).snd.snd) e1) then false else true) then true else (bif (m106 d ((m61rz d e2).snd.snd) e1) then false else true)) else false))
(R (XE.ret) [.int .i64 24] [.cells 27 [.int .i64 e0,.int .i64 e1,.str e2,.str e3,.str e4,.bool e5]])
(R (XE.normal) [.rz true ns shZ d,.ptr 0 0,.rz ((m61rz d e2).fst) ((m61rz d e2).snd.fst) shT ((m61rz d e2).snd.snd),.rz ((m61rz d e4).fst) ((m61rz d e4).snd.fst) shT ((m61rz d e4).snd.snd)] [.cells 27 [.int .i64 e0,.int .i64 e1,.str e2,.str e3,.str e4,.bool e5]]))
False)
False)
False)
False)
False)
False))
False)
False)
False))
False)
False))
False)
False))
False):=by kernel_rfl
theorem w84p(ns:Nat)(d:Dat)(e0 e1:Int)(e2 e3 e4:BA)(e5:Bool){R:XE->List SV->List Blk->Prop}(hn:n84p d e0 e1 e2 e3 e4 e5=true)(hret:∀ err,m84p d e0 e1 e2 e3 e4 e5=some err->R .ret [.int .i64 err] [.cells 27 [.int .i64 e0,.int .i64 e1,.str e2,.str e3,.str e4,.bool e5]])(hgo:m84p d e0 e1 e2 e3 e4 e5=none->R .normal [.rz true ns shZ d,.ptr 0 0,.rz ((m61rz d e2).fst) ((m61rz d e2).snd.fst) shT ((m61rz d e2).snd.snd),.rz ((m61rz d e4).fst) ((m61rz d e4).snd.fst) shT ((m61rz d e4).snd.snd)] [.cells 27 [.int .i64 e0,.int .i64 e1,.str e2,.str e3,.str e4,.bool e5]]):AT Tryz.prog [(105,c105rz),(61,c61rz),(106,c106)] (fun _=>none) 8 (Nt [c84a,c84b,c84c,c84d]) (Aq 0 151 [0,1] [.rz true ns shZ d,.agg [.int .i64 e0,.int .i64 e1,.str e2,.str e3,.str e4,.bool e5]] 0 []) (AJ 0 151 [0,3,6,7] [4] 1 [] R) :=
 Bu (y84p ns d e0 e1 e2 e3 e4 e5 R) (AH (CE hn) (Df (fun h0=>hret _ (FY h0 rfl)) (fun h0=>AH (CE (AC h0 (Al hn))) (AH (CE (Al (AC h0 (Al hn)))) (Df (fun h1=>hret _ (Cs h0 (FY h1 rfl))) (fun h1=>AH (CE (AC h1 (Al (Al (AC h0 (Al hn)))))) (AH (CE (Al (AC h1 (Al (Al (AC h0 (Al hn))))))) (Df (fun h2=>hret _ (Cs h0 (Cs h1 (FY h2 rfl)))) (fun h2=>AH (CE (AC h2 (Al (Al (AC h1 (Al (Al (AC h0 (Al hn))))))))) (AH (CE (Al (AC h2 (Al (Al (AC h1 (Al (Al (AC h0 (Al hn)))))))))) (AH (CE (Al (Al (AC h2 (Al (Al (AC h1 (Al (Al (AC h0 (Al hn))))))))))) (Df (fun h3=>hret _ (Cs h0 (Cs h1 (Cs h2 (FY h3 rfl))))) (fun h3=>AH (CE (AC h3 (Al (Al (Al (AC h2 (Al (Al (AC h1 (Al (Al (AC h0 (Al hn))))))))))))) (AH (CE (Al (AC h3 (Al (Al (Al (AC h2 (Al (Al (AC h1 (Al (Al (AC h0 (Al hn)))))))))))))) (AH (CE (Al (Al (AC h3 (Al (Al (Al (AC h2 (Al (Al (AC h1 (Al (Al (AC h0 (Al hn))))))))))))))) (AH (CE (Al (Al (Al (AC h3 (Al (Al (Al (AC h2 (Al (Al (AC h1 (Al (Al (AC h0 (Al hn)))))))))))))))) (AH (CE (Al (Al (Al (Al (AC h3 (Al (Al (Al (AC h2 (Al (Al (AC h1 (Al (Al (AC h0 (Al hn))))))))))))))))) (AH (CE (Al (Al (Al (Al (Al (AC h3 (Al (Al (Al (AC h2 (Al (Al (AC h1 (Al (Al (AC h0 (Al hn)))))))))))))))))) (Df (fun h4=>hret _ (Cs h0 (Cs h1 (Cs h2 (Cs h3 (FY h4 rfl)))))) (fun h4=>hgo (Cs h0 (Cs h1 (Cs h2 (Cs h3 (Cs h4 rfl)))))))))))))))))))))))))
/-! ### helpers: do,the day -/
def c84s:Code:=match c84r with | .seq s _=>s | c=>c
def c84t:Code:=match c84r with | .seq _ (.seq (.seq t _) _)=>t | c=>c
def c84x:Code:=match c84r with | .seq _ (.seq (.seq _ (.block _ x)) _)=>x | c=>c
def c84z:Code:=match c84r with | .seq _ (.seq _ (.seq z _))=>z | c=>c
theorem c84r_eq:c84r=.seq c84s (.seq (.seq c84t (.block 1 c84x)) (.seq c84z .ret)):=by kernel_rfl
abbrev evK:List Kd:=[.int .i64,.int .i64,.str,.str,.str,.bool]
def evD(e0 e1:Int)(e2 e3 e4:BA)(e5:Bool):Dat:={ A3 with ii:=fun _ k=>match k with | 0=>e0 | _=>e1,ss:=fun _ k=>match k with | 2=>e2 | 3=>e3 | _=>e4,bb:=fun _ _=>e5 }
def evC(e0 e1:Int)(e2 e3 e4:BA)(e5:Bool):Array Value:=#[.int .i64 e0,.int .i64 e1,.string e2,.string e3,.string e4,.bool e5]
theorem y84s(xI xR xT x6 x7:Value)(dy:Int)(d:Dat)(R:List SV->List Blk->Prop):AT Tryz.prog [] (fun _=>none) 8 c84s (Aq 1 151 [0,3,6,7] [.ptr 0 0,.rz true 0 evK d,.val x6,.val x7] 1 [.cells 129 [.val xI,.val xR,.val xT,.int .i64 dy]]) (AJ 1 151 [0,3,6,7] [] 1 [] fun e v b=>e=.normal/\R v b) =
 (XE.normal=XE.normal/\R [.ptr 0 0,.rz true 0 evK d,.val x6,.val x7] [.cells 129 [.val xI,.val xR,.val xT,.int .i64 (d.ii 0 1)]]):=by kernel_rfl
theorem y84t(xI xR xT x6 x7:Value)(dy:Int)(d:Dat)(R:List SV->List Blk->Prop):AT Tryz.prog [] (fun _=>none) 8 c84t (Aq 1 151 [0,3,6,7] [.ptr 0 0,.rz true 0 evK d,.val x6,.val x7] 1 [.cells 129 [.val xI,.val xR,.val xT,.int .i64 dy]]) (AJ 1 151 [0,3,6,7,94] [] 1 [] fun e v b=>e=.normal/\R v b) =
 (XE.normal=XE.normal/\R [.ptr 0 0,.rz true 0 evK d,.val x6,.val x7,.int .i64 (d.ii 0 0)] [.cells 129 [.val xI,.val xR,.val xT,.int .i64 dy]]):=by kernel_rfl
def TT(bx:Nat):Ids:=⟨fun b=>if b=bx then some 0 else none,fun b b' i h h'=>by
 split at h <;> cases h
 split at h' <;> cases h'
 simp_all⟩
def QK(w:World)(bx:Nat):Od:=⟨fun b o=>if b=bx then w.cell? ⟨b,o,none⟩ else none,fun _=>none,TT bx⟩
theorem S6{w:World}{bx:Nat}{e0 e1:Int}{e2 e3 e4:BA}{e5:Bool}(hb:w.heap[bx]? = some (.cells (evC e0 e1 e2 e3 e4 e5) 27 (0,0))):Bj (QK w bx) w:=by
 refine ⟨fun b o v hv=>?_,fun b v hv=>(by cases hv),fun b i hp=>?_⟩
 rotate_left
 .have hp:(if b=bx then some 0 else none)=some i:=hp
  split at hp <;> cases hp
  rename_i e
  subst e
  exact ⟨⟨.int .i64 e0,by show (if b=b then w.cell? ⟨b,0,none⟩ else none)=_;rw [if_pos rfl];exact CG hb rfl⟩,_,_,hb⟩
 have hv:(if b=bx then w.cell? ⟨b,o,none⟩ else none)=some v:=hv
 split at hv
 .exact hv
 .cases hv
theorem RO{w:World}{bx:Nat}{e0 e1:Int}{e2 e3 e4:BA}{e5:Bool}(hb:w.heap[bx]? = some (.cells (evC e0 e1 e2 e3 e4 e5) 27 (0,0))):Kd.denL (QK w bx) evK (evD e0 e1 e2 e3 e4 e5) 0 0 bx 0:=by
 have cell:∀ k v,(evC e0 e1 e2 e3 e4 e5)[k]? = some v->(QK w bx) bx (0+k)=some v:=fun k v hv=>by
  rw [Nat.zero_add]
  show (if bx=bx then w.cell? ⟨bx,k,none⟩ else none)=_
  rw [if_pos rfl]
  exact CG hb hv
 exact ⟨⟨_,cell 0 _ rfl,rfl⟩,⟨_,cell 1 _ rfl,rfl⟩,⟨_,cell 2 _ rfl,rfl⟩,⟨_,cell 3 _ rfl,rfl⟩,⟨_,cell 4 _ rfl,rfl⟩,⟨_,cell 5 _ rfl,rfl⟩,trivial⟩
def Qa(st:Stt)(dy:Int):Stt:={ st with day:=dy }
theorem Rb{L:Lay}{K:Kst}{st:Stt}{w w':World}(h:Ao L K st w){dy:Int}(keep:∀ b,b≠L.at_ .shop->∀ o,w.heap[b]? = some o->w'.heap[b]? = some o){A:Option Addr}{cap:Nat}(hb:w'.heap[L.at_ .shop]? = some (.cells #[L.xI,L.xR,.slice A K.n cap,.int .i64 dy] L.T.shop (0,0)))(hc:NC A K.n cap)(hA:0<K.n->A=some ⟨L.at_ .row,0,none⟩):Ao L K (Qa st dy) w':=by
 refine h.set .shop trivial ⟨h.ok.ck,h.ok.has,h.ok.had⟩ keep ⟨_,hb,A,cap,rfl,hc,hA⟩ fun s o hs ho=>?_
 cases s with
 | shop=>exact absurd rfl hs
 | _=>exact ho
theorem T4{L:Lay}{K:Kst}{st:Stt}{w:World}(hL:L.T=T7)(h:Ao L K st w){a:Act}{bx:Nat}{e0 e1:Int}{e2 e3 e4:BA}{e5:Bool}(hsz:a.tmps.size=151)(hdf:a.defers=[])(x0:a.eval (.tmp 0)=.pointer (some ⟨L.at_ .shop,0,none⟩))(x3:a.eval (.tmp 3)=.pointer (some ⟨bx,0,none⟩))(hb:w.heap[bx]? = some (.cells (evC e0 e1 e2 e3 e4 e5) 27 (0,0)))(hbx:∀ t,Tg.ok K t->L.at_ t≠bx){Q:Exit->Act->World->Prop}(hQ:∀ a' w',a'.tmps.size=151->a'.defers=[]->a'.eval (.tmp 0)=a.eval (.tmp 0)->a'.eval (.tmp 3)=a.eval (.tmp 3)->a'.eval (.tmp 6)=a.eval (.tmp 6)->a'.eval (.tmp 7)=a.eval (.tmp 7)->a'.eval (.tmp 94)=.int .i64 e0->Ao L K (Qa st e1) w'->AS L K w w'->w'.heap[bx]? = w.heap[bx]? ->
   Code.wpIn (FW none) 0 Tryz.prog (.block 1 c84x) (Exit.then (Code.wpIn (FW none) 0 Tryz.prog (.seq c84z .ret) Q) Q) a' w'):c84r.wpIn (FW none) 0 Tryz.prog Q a w:=by
 rw [c84r_eq]
 obtain ⟨_,hsb,A,cap,rfl,hc,hA⟩:=h.at_ .shop trivial
 rw [hL] at hsb
 have hne:L.at_ .shop≠bx:=hbx .shop trivial
 have hs0:Ab w.heap.size [L.at_ .shop] ⟨w,nm1 (L.at_ .shop) (QK w bx),1,fun _=>none,some []⟩ (nm1 (L.at_ .shop) (QK w bx)) (Aq 1 151 [0,3,6,7] [.ptr 0 0,.rz true 0 evK (evD e0 e1 e2 e3 e4 e5),.val (a.eval (.tmp 6)),.val (a.eval (.tmp 7))] 1 [.cells 129 [.val L.xI,.val L.xR,.val (.slice A K.n cap),.int .i64 st.day]]) a w:=by
  refine Ab.start hsz hdf (fun d e=>by cases e;rfl) (S5 hsb ⟨rfl,rfl,rfl,rfl,trivial⟩ (by simp) (S6 hb) fun o=>if_neg hne) (fun j hj=>if_neg (by omega)) (fun e=>by cases e) (fun p t v h1 h2=>?_) (fun v hv t pol u e=>?_)
  .match p,h1,h2 with
   | 0,h1,h2=>cases h1;cases h2;exact ⟨_,rfl,x0⟩
   | 1,h1,h2=>cases h1;cases h2;exact .inl ⟨rfl,bx,x3,if_pos rfl,RO hb⟩
   | 2,h1,h2=>cases h1;cases h2;rfl
   | 3,h1,h2=>cases h1;cases h2;rfl
  .simp at hv;rcases hv with rfl | rfl | rfl | rfl <;> cases e
 refine wpIn_seq (Cw AM A6 (R:=fun v b=>v=[.ptr 0 0,.rz true 0 evK (evD e0 e1 e2 e3 e4 e5),.val (a.eval (.tmp 6)),.val (a.eval (.tmp 7))]/\b=[.cells 129 [.val L.xI,.val L.xR,.val (.slice A K.n cap),.int .i64 e1]]) (Bu (y84s _ _ _ _ _ _ _ _) ⟨rfl,rfl,rfl⟩) (.inr (by kernel_rfl)) hs0 ?_)
 rintro vs bs O1 a1 w1 ⟨rfl,rfl⟩ h1
 refine wpIn_seq (wpIn_seq (Cw AM A6 (R:=fun v b=>v=[.ptr 0 0,.rz true 0 evK (evD e0 e1 e2 e3 e4 e5),.val (a.eval (.tmp 6)),.val (a.eval (.tmp 7)),.int .i64 e0]/\b=[.cells 129 [.val L.xI,.val L.xR,.val (.slice A K.n cap),.int .i64 e1]]) (Bu (y84t _ _ _ _ _ _ _ _) ⟨rfl,rfl,rfl⟩) (.inr (by kernel_rfl)) h1 ?_))
 rintro vs bs O2 a2 w2 ⟨rfl,rfl⟩ h2
 obtain ⟨c2,hb2,hd2⟩:=h2.cells1
 have hcc:c2=#[L.xI,L.xR,.slice A K.n cap,.int .i64 e1]:=by
  apply Array.toList_inj.1
  obtain ⟨z0,l0,f0,q0,hd⟩:=A9 hd2
  obtain ⟨z1,l1,f1,q1,hd⟩:=A9 hd
  obtain ⟨z2,l2,f2,q2,hd⟩:=A9 hd
  obtain ⟨z3,l3,f3,q3,hd⟩:=A9 hd
  have f4:=Bb hd
  rw [f0,f1,f2,f3,f4]
  cases q0;cases q1;cases q2;cases q3;rfl
 subst hcc
 have hk2:AR w.heap.size [L.at_ .shop] w w2:=h2.kept
 obtain ⟨m,hm,y0⟩:∃ m,O2 0=some m/\a2.eval (.tmp 0)=.pointer (some ⟨m.blk,m.off+0,none⟩):=AF h2.tmDen (Az.nil a2) (.tmp 0)
 have em:O2 0=some ⟨L.at_ .shop,0,0⟩:=h2.argl 0 (Nat.lt_succ_self 0)
 rw [em] at hm
 cases hm
 have y3:a2.eval (.tmp 3)=.pointer (some ⟨bx,0,none⟩):=by
  have hp2:O2.od.p=TT bx:=h2.odb.p
  rcases (AF h2.tmDen (Az.nil a2) (.tmp 3):(SV.rz true 0 evK (evD e0 e1 e2 e3 e4 e5)).den O2 (a2.eval (.tmp 3))) with ⟨_,b,e,hbb,_⟩ | ⟨e,_⟩
  .rw [hp2] at hbb
   have hbb:(if b=bx then some 0 else none)=some 0:=hbb
   split at hbb
   .rename_i ee;rw [e,ee]
   .cases hbb
  .cases e
 have y6:a2.eval (.tmp 6)=a.eval (.tmp 6):=AF h2.tmDen (Az.nil a2) (.tmp 6)
 have y7:a2.eval (.tmp 7)=a.eval (.tmp 7):=AF h2.tmDen (Az.nil a2) (.tmp 7)
 have y94:a2.eval (.tmp 94)=.int .i64 e0:=AF h2.tmDen (Az.nil a2) (.tmp 94)
 refine hQ a2 w2 h2.size (h2.defs.same_ [] rfl) (y0.trans x0.symm) (y3.trans x3.symm) y6 y7 y94 ?_ (AS.of_kept hk2 fun b hb=>⟨.shop,trivial,(List.mem_singleton.1 hb).symm⟩) (hk2.block bx (Array.getElem?_eq_some_iff.1 hb).1 (by simpa using Ne.symm hne))
 exact Rb h hk2.keep1 (by rw [hL];exact hb2) hc hA
/-! ### helpers: do,the kinds -/
theorem Er{P:Program}{a:Act}{w:World}{o:Oper}{c:Call}{f:Nat}{fn:Func}(ho:o.op=.call c)(hc:c.callee=.value (.func f))(hfun:P.funcs[f]? = some fn)(hbody:fn.body.isSome=true)(hname:(fn.name == "runtime.NumGoroutine")=false) :
  (execOp a.eval o).run P w=.ok (.enter f ⟨c.args.toList.map a.eval⟩) w:=by
 have hb:fn.body.isNone=false:=by cases hx:fn.body <;> simp_all
 have hfv:a.eval (.func f)=.func (.func f) #[] #[]:=rfl
 have harr:c.args.map a.eval=⟨c.args.toList.map a.eval⟩:=by
  apply Array.toList_inj.1;simp
 unfold execOp
 rw [ho]
 simp only [resolve,hc,hfv,Deferred.ofValue,Sem.run_bind,Sem.run_pure,Result.andThen_ok,invoke,callFunc,run_program,hfun,hname,Bool.false_eq_true,if_false,hb]
 simp [harr]
structure F3 (L:Lay) (K:Kst) (st:Stt) (bx:Nat) (e0 e1:Int) (e2 e3 e4:BA) (e5:Bool) (x6 x7:Value) (a:Act) (w:World):Prop where
 sz:a.tmps.size=151
 df:a.defers=[]
 x0:a.eval (.tmp 0)=.pointer (some ⟨L.at_ .shop,0,none⟩)
 x3:a.eval (.tmp 3)=.pointer (some ⟨bx,0,none⟩)
 x6:a.eval (.tmp 6)=x6
 x7:a.eval (.tmp 7)=x7
 x37:a.eval (.tmp 94)=.int .i64 e0
 shop:Ao L K st w
 box:w.heap[bx]? = some (.cells (evC e0 e1 e2 e3 e4 e5) 27 (0,0))
theorem Ek{c:Code}{s:Nat}{q:Int}(hc:Dr c=true)(hy:∀ (x0 x3 x6 x7:Value) (e0:Int) (R:List SV->List Blk->Prop),AT Tryz.prog [] (fun _=>none) 8 c (Aq 0 151 [0,3,6,7,94] [.val x0,.val x3,.val x6,.val x7,.int .i64 e0] 0 []) (AJ 0 151 [0,3,6,7,94,s] [] 0 [] fun e v b=>e=.normal/\R v b) =
   (XE.normal=XE.normal/\R [.val x0,.val x3,.val x6,.val x7,.int .i64 e0,.bool (decide (e0=q))] []))(hs:∀ (x0 x3 x6 x7:Value) (e0:Int) (b:Bool),ev (Aq 0 151 [0,3,6,7,94,s] [.val x0,.val x3,.val x6,.val x7,.int .i64 e0,.bool b] 0 []) [] (.tmp s)=.bool b){L:Lay}{K:Kst}{st:Stt}{bx:Nat}{e0 e1:Int}{e2 e3 e4:BA}{e5:Bool}{x6 x7:Value}{a:Act}{w w0:World}(h:F3 L K st bx e0 e1 e2 e3 e4 e5 x6 x7 a w)(ho:AS L K w0 w){Q:Exit->Act->World->Prop}(hQ:∀ a' w',F3 L K st bx e0 e1 e2 e3 e4 e5 x6 x7 a' w'->AS L K w0 w'->a'.eval (.tmp s)=.bool (decide (e0=q))->Q .normal a' w'):c.wpIn (FW none) 0 Tryz.prog Q a w:=by
 have hs0:Ab w.heap.size [] ⟨w,⟨fun _=>none,CN,gl0 _⟩,0,fun _=>none,some []⟩ ⟨fun _=>none,CN,gl0 _⟩ (Aq 0 151 [0,3,6,7,94] [.val (.pointer (some ⟨L.at_ .shop,0,none⟩)),.val (.pointer (some ⟨bx,0,none⟩)),.val x6,.val x7,.int .i64 e0] 0 []) a w:=by
  refine Ab.start h.sz h.df (fun d e=>by cases e;rfl) (QG _ _) (fun _ _=>rfl) (fun _=>rfl) (fun p t v h1 h2=>?_) (fun v hv t pol u e=>?_)
  .match p,h1,h2 with
   | 0,h1,h2=>cases h1;cases h2;exact h.x0
   | 1,h1,h2=>cases h1;cases h2;exact h.x3
   | 2,h1,h2=>cases h1;cases h2;exact h.x6
   | 3,h1,h2=>cases h1;cases h2;exact h.x7
   | 4,h1,h2=>cases h1;cases h2;exact h.x37
  .simp at hv;rcases hv with rfl | rfl | rfl | rfl | rfl <;> cases e
 refine Cw AM A6 (R:=fun v b=>v=[.val (.pointer (some ⟨L.at_ .shop,0,none⟩)),.val (.pointer (some ⟨bx,0,none⟩)),.val x6,.val x7,.int .i64 e0,.bool (decide (e0=q))]/\b=[]) (Bu (hy _ _ _ _ _ _) ⟨rfl,rfl,rfl⟩) (.inr hc) hs0 ?_
 rintro vs bs O1 a1 w1 ⟨rfl,rfl⟩ h1
 have hk1:AR w.heap.size [] w w1:=h1.kept
 have es:=AF h1.tmDen (Az.nil a1) (.tmp s)
 rw [hs] at es
 refine hQ a1 w1 ⟨h1.size,h1.defs.same_ [] rfl,?_,?_,?_,?_,?_,h.shop.keep (CH hk1),CH hk1 _ _ h.box⟩ (ho.trans (AS.of_kept hk1 fun b hb=>by simp at hb)) es
 .exact AF h1.tmDen (Az.nil a1) (.tmp 0)
 .exact AF h1.tmDen (Az.nil a1) (.tmp 3)
 .exact AF h1.tmDen (Az.nil a1) (.tmp 6)
 .exact AF h1.tmDen (Az.nil a1) (.tmp 7)
 .exact AF h1.tmDen (Az.nil a1) (.tmp 94)
def k84a:Code:=match c84x with | .seq k _=>k | c=>c
def k92A:Code:=match c84x with | .seq _ (.cond _ b _)=>b | c=>c
def k92x1:Code:=match c84x with | .seq _ (.cond _ _ x)=>x | c=>c
def k84b:Code:=match k92x1 with | .seq k _=>k | c=>c
def k92B:Code:=match k92x1 with | .seq _ (.cond _ b _)=>b | c=>c
def k92x2:Code:=match k92x1 with | .seq _ (.cond _ _ x)=>x | c=>c
def k84c:Code:=match k92x2 with | .seq k _=>k | c=>c
def k92C:Code:=match k92x2 with | .seq _ (.cond _ b _)=>b | c=>c
def k92x3:Code:=match k92x2 with | .seq _ (.cond _ _ x)=>x | c=>c
def k84d:Code:=match k92x3 with | .seq k _=>k | c=>c
def k92D:Code:=match k92x3 with | .seq _ (.cond _ b _)=>b | c=>c
def k92x4:Code:=match k92x3 with | .seq _ (.cond _ _ x)=>x | c=>c
def k84e:Code:=match k92x4 with | .seq k _=>k | c=>c
def k92E:Code:=match k92x4 with | .seq _ (.cond _ b _)=>b | c=>c
theorem c84x_eq:c84x=.seq k84a (.cond (.tmp 95) k92A (.seq k84b (.cond (.tmp 115) k92B (.seq k84c (.cond (.tmp 133) k92C (.seq k84d (.cond (.tmp 139) k92D (.seq k84e (.cond (.tmp 145) k92E .skip))))))))):=by kernel_rfl
theorem z84a(x0 x3 x6 x7:Value)(e0:Int)(R:List SV->List Blk->Prop):AT Tryz.prog [] (fun _=>none) 8 k84a (Aq 0 151 [0,3,6,7,94] [.val x0,.val x3,.val x6,.val x7,.int .i64 e0] 0 []) (AJ 0 151 [0,3,6,7,94,95] [] 0 [] fun e v b=>e=.normal/\R v b) =
   (XE.normal=XE.normal/\R [.val x0,.val x3,.val x6,.val x7,.int .i64 e0,.bool (decide (e0=0))] []):=by kernel_rfl
theorem z84b(x0 x3 x6 x7:Value)(e0:Int)(R:List SV->List Blk->Prop):AT Tryz.prog [] (fun _=>none) 8 k84b (Aq 0 151 [0,3,6,7,94] [.val x0,.val x3,.val x6,.val x7,.int .i64 e0] 0 []) (AJ 0 151 [0,3,6,7,94,115] [] 0 [] fun e v b=>e=.normal/\R v b) =
   (XE.normal=XE.normal/\R [.val x0,.val x3,.val x6,.val x7,.int .i64 e0,.bool (decide (e0=1))] []):=by kernel_rfl
theorem z84c(x0 x3 x6 x7:Value)(e0:Int)(R:List SV->List Blk->Prop):AT Tryz.prog [] (fun _=>none) 8 k84c (Aq 0 151 [0,3,6,7,94] [.val x0,.val x3,.val x6,.val x7,.int .i64 e0] 0 []) (AJ 0 151 [0,3,6,7,94,133] [] 0 [] fun e v b=>e=.normal/\R v b) =
   (XE.normal=XE.normal/\R [.val x0,.val x3,.val x6,.val x7,.int .i64 e0,.bool (decide (e0=2))] []):=by kernel_rfl
theorem z84d(x0 x3 x6 x7:Value)(e0:Int)(R:List SV->List Blk->Prop):AT Tryz.prog [] (fun _=>none) 8 k84d (Aq 0 151 [0,3,6,7,94] [.val x0,.val x3,.val x6,.val x7,.int .i64 e0] 0 []) (AJ 0 151 [0,3,6,7,94,139] [] 0 [] fun e v b=>e=.normal/\R v b) =
   (XE.normal=XE.normal/\R [.val x0,.val x3,.val x6,.val x7,.int .i64 e0,.bool (decide (e0=3))] []):=by kernel_rfl
theorem z84e(x0 x3 x6 x7:Value)(e0:Int)(R:List SV->List Blk->Prop):AT Tryz.prog [] (fun _=>none) 8 k84e (Aq 0 151 [0,3,6,7,94] [.val x0,.val x3,.val x6,.val x7,.int .i64 e0] 0 []) (AJ 0 151 [0,3,6,7,94,145] [] 0 [] fun e v b=>e=.normal/\R v b) =
   (XE.normal=XE.normal/\R [.val x0,.val x3,.val x6,.val x7,.int .i64 e0,.bool (decide (e0=4))] []):=by kernel_rfl
/-! ### helpers: do,bodies -/
theorem k92E_eq:∃ t1 p1 a1 t2 p2 a2 t3 p3 a3 t4 p4 a4,k92E=.region 27 #[⟨some 147,.move (.tmp 6),t1,p1,a1,none⟩,⟨some 148,.fieldAddr 27 (.tmp 3) 5,t2,p2,a2,none⟩,⟨some 149,.load 4 (.tmp 148),t3,p3,a3,none⟩,⟨some 150,.call { callee:=.value (.func 108),args:=#[.tmp 147,.tmp 149],argTypes:=#[116,4] },t4,p4,a4,none⟩] false:=⟨_,_,_,_,_,_,_,_,_,_,_,_,rfl⟩
theorem k92C_eq:∃ t1 p1 a1 t2 p2 a2 t3 p3 a3 t4 p4 a4,k92C=.region 23 #[⟨some 135,.move (.tmp 6),t1,p1,a1,none⟩,⟨some 136,.move (.tmp 0),t2,p2,a2,none⟩,⟨some 137,.move (.tmp 7),t3,p3,a3,none⟩,⟨some 138,.call { callee:=.value (.func 107),args:=#[.tmp 135,.tmp 136,.tmp 137],argTypes:=#[116,112,116] },t4,p4,a4,none⟩] false:=⟨_,_,_,_,_,_,_,_,_,_,_,_,rfl⟩
theorem Uh{L:Lay}{K:Kst}{st:Stt}{bx:Nat}{e0 e1:Int}{e2 e3 e4:BA}{e5:Bool}{x7:Value}{a:Act}{w w0:World}{i:Nat}(hL:L.T=T7)(hi:i<K.n)(h:F3 L K st bx e0 e1 e2 e3 e4 e5 (.pointer (some ⟨L.at_ (.th i),0,none⟩)) x7 a w)(ho:AS L K w0 w)(hpr:(st.th i).pr<1000000){Q:Exit->Act->World->Prop}(hQ:∀ a' w',a'.defers=[]->a'.tmps.size=151->Ao L K (upT st i (anT (st.th i) e5)) w'->AS L K w0 w'->Q .normal a' w'):k92E.wpIn (FW none) 0 Tryz.prog Q a w:=by
 obtain ⟨t1,p1,a1,t2,p2,a2,t3,p3,a3,t4,p4,a4,hR⟩:=k92E_eq
 rw [hR]
 have hsz:=h.sz
 refine wpIn_region_list ?_
 refine Ai rfl (x:=.pointer (some ⟨L.at_ (.th i),0,none⟩)) (w':=w) (by simp [execOp,h.x6]) ?_
 refine Ai rfl (x:=.pointer (some ⟨bx,5,none⟩)) (w':=w) (by
  simp only [execOp]
  rw [Ap (by omega),h.x3]
  simp [BQ (w:=w) (b:=bx) (f:=5) (j:=5) (t:=27) (by kernel_rfl)]) ?_
 refine Ai rfl (x:=.bool e5) (w':=w) (by
  simp only [execOp]
  rw [Aa (by simp only [Ar];omega)]
  simp [C0 (t:=4) h.box (j:=5) (v:=.val (.bool e5)) (by kernel_rfl) (fun z hz=>hz)]) ?_
 refine JF (f:=108) (fn:=Tryz.f108) (xs:=[.pointer (some ⟨L.at_ (.th i),0,none⟩),.bool e5]) rfl Tryz.func108 (by kernel_rfl) (by kernel_rfl) ?_ (fun c e=>by cases e) (R:=fun _ w'=>Ao L K (upT st i (anT (st.th i) e5)) w'/\AS L K w w') ((Q6 hL h.shop hi e5 hpr).mono ?_) fun x w' hR=>?_
 .rw [Er rfl rfl Tryz.func108 (by kernel_rfl) (by kernel_rfl)]
  simp only [List.map_cons,List.map_nil]
  rw [Ap (show (149:Nat)≠147 by omega),Ap (show (148:Nat)≠147 by omega),Aa (by omega),Aa (by simp only [Ar];omega)]
 .rintro e w' ⟨ys,rfl,hh⟩
  exact ⟨_,rfl,hh⟩
 .exact hQ _ _ (by simp only [B0];exact h.df) (by simp only [Ar];exact hsz) hR.1 (ho.trans hR.2)
theorem Uf{L:Lay}{K:Kst}{st:Stt}{bx:Nat}{e0 e1:Int}{e2 e3 e4:BA}{e5:Bool}{a:Act}{w w0:World}{i j:Nat}(hL:L.T=T7)(hi:i<K.n)(hj:j<K.n)(hij:i≠j)(hn:K.n<=1000000)(h:F3 L K st bx e0 e1 e2 e3 e4 e5 (.pointer (some ⟨L.at_ (.th i),0,none⟩)) (.pointer (some ⟨L.at_ (.th j),0,none⟩)) a w)(hS:G8 K L w)(ho:AS L K w0 w)(hpr:(st.th j).pr<nB){Q:Exit->Act->World->Prop}(hQ:∀ a' w',a'.defers=[]->a'.tmps.size=151->Ao L K (upT st i (GK K st i j)) w'->AS L K w0 w'->Q .normal a' w'):k92C.wpIn (FW none) 0 Tryz.prog Q a w:=by
 obtain ⟨t1,p1,a1,t2,p2,a2,t3,p3,a3,t4,p4,a4,hR⟩:=k92C_eq
 rw [hR]
 have hsz:=h.sz
 refine wpIn_region_list ?_
 refine Ai rfl (x:=.pointer (some ⟨L.at_ (.th i),0,none⟩)) (w':=w) (by simp [execOp,h.x6]) ?_
 refine Ai rfl (x:=.pointer (some ⟨L.at_ .shop,0,none⟩)) (w':=w) (by
  simp only [execOp]
  rw [Ap (by omega),h.x0]
  simp) ?_
 refine Ai rfl (x:=.pointer (some ⟨L.at_ (.th j),0,none⟩)) (w':=w) (by
  simp only [execOp]
  rw [Ap (by omega),Ap (by omega),h.x7]
  simp) ?_
 refine JF (f:=107) (fn:=Tryz.f107) (xs:=[.pointer (some ⟨L.at_ (.th i),0,none⟩),.pointer (some ⟨L.at_ .shop,0,none⟩),.pointer (some ⟨L.at_ (.th j),0,none⟩)]) rfl Tryz.func107 (by kernel_rfl) (by kernel_rfl) ?_ (fun c e=>by cases e) (R:=fun _ w'=>Ao L K (upT st i (GK K st i j)) w'/\AS L K w w') ((Q5 hL h.shop hS hi hj hij hn hpr).mono ?_) fun x w' hR=>?_
 .rw [Er rfl rfl Tryz.func107 (by kernel_rfl) (by kernel_rfl)]
  simp only [List.map_cons,List.map_nil]
  rw [Ap (show (137:Nat)≠135 by omega),Ap (show (136:Nat)≠135 by omega),Aa (by omega),Ap (show (137:Nat)≠136 by omega),Aa (by simp only [Ar];omega),Aa (by simp only [Ar];omega)]
 .rintro e w' ⟨ys,rfl,hh⟩
  exact ⟨_,rfl,hh⟩
 .exact hQ _ _ (by simp only [B0];exact h.df) (by simp only [Ar];exact hsz) hR.1 (ho.trans hR.2)
/-! ### helpers: do,vent -/
theorem k92D_eq:∃ t1 p1 a1 t2 p2 a2 t3 p3 a3 t4 p4 a4 t5 p5 a5,k92D=.region 25 #[⟨some 141,.move (.tmp 6),t1,p1,a1,none⟩,⟨some 142,.nilCheck (.tmp 141),t2,p2,a2,none⟩,⟨some 143,.fieldAddr 123 (.tmp 142) 2,t3,p3,a3,none⟩,⟨some 144,.load 120 (.tmp 143),t4,p4,a4,none⟩,⟨none,.call { callee:=.builtin .clear,args:=#[.tmp 144],argTypes:=#[120] },t5,p5,a5,none⟩] false:=⟨_,_,_,_,_,_,_,_,_,_,_,_,_,_,_,rfl⟩
def Rm(t:Th):Th:={ t with has:=fun _ _=>false }
theorem Ug{L:Lay}{K:Kst}{st:Stt}{bx:Nat}{e0 e1:Int}{e2 e3 e4:BA}{e5:Bool}{x7:Value}{a:Act}{w w0:World}{i:Nat}(hL:L.T=T7)(hi:i<K.n)(h:F3 L K st bx e0 e1 e2 e3 e4 e5 (.pointer (some ⟨L.at_ (.th i),0,none⟩)) x7 a w)(ho:AS L K w0 w){Q:Exit->Act->World->Prop}(hQ:∀ a' w',a'.defers=[]->a'.tmps.size=151->Ao L K (upT st i (Rm (st.th i))) w'->AS L K w0 w'->Q .normal a' w'):k92D.wpIn (FW none) 0 Tryz.prog Q a w:=by
 obtain ⟨t1,p1,a1,t2,p2,a2,t3,p3,a3,t4,p4,a4,t5,p5,a5,hR⟩:=k92D_eq
 rw [hR]
 have hsz:=h.sz
 obtain ⟨o0,c1,c2⟩:=h.shop.at_ (.th i) hi
 have c2:o0=.cells (thV L K st i) L.T.th (0,0):=c2
 subst c2
 rw [hL] at c1
 obtain ⟨_,g1,es,cl,f,rfl,g2,g3⟩:=h.shop.at_ (.hs i) hi
 refine wpIn_region_list ?_
 refine Ai rfl (x:=.pointer (some ⟨L.at_ (.th i),0,none⟩)) (w':=w) (by simp [execOp,h.x6]) ?_
 refine Ai rfl (x:=.pointer (some ⟨L.at_ (.th i),0,none⟩)) (w':=w) (by simp only [execOp];rw [Aa (by omega)];simp) ?_
 refine Ai rfl (x:=.pointer (some ⟨L.at_ (.th i),4,none⟩)) (w':=w) (by
  simp only [execOp]
  rw [Aa (by simp only [Ar];omega)]
  simp [BQ (w:=w) (b:=L.at_ (.th i)) (f:=2) (j:=4) (t:=123) (by kernel_rfl)]) ?_
 refine Ai rfl (x:=.map (some (L.at_ (.hs i)))) (w':=w) (by
  simp only [execOp]
  rw [Aa (by simp only [Ar];omega)]
  simp [C0 (t:=120) c1 (j:=4) (v:=.val (.map (some (L.at_ (.hs i))))) (by kernel_rfl) (fun z hz=>hz)]) ?_
 obtain ⟨o',hrun,hat⟩:=B5.clear Fz (w:=w) (b:=L.at_ (.hs i)) (enc:=AE) (f:=f) ⟨es,cl,g1,g2⟩ t5
 refine Ai rfl (x:=.tuple #[]) (w':=setBlock w (L.at_ (.hs i)) o') ?_ ?_
 .have e144:((((a.put (some 141) (.pointer (some ⟨L.at_ (.th i),0,none⟩))).put (some 142) (.pointer (some ⟨L.at_ (.th i),0,none⟩))).put (some 143) (.pointer (some ⟨L.at_ (.th i),4,none⟩))).put (some 144) (.map (some (L.at_ (.hs i))))).eval (.tmp 144)=.map (some (L.at_ (.hs i))):=Aa (by simp only [Ar];omega)
  simp [execOp,resolve,invoke,builtin,e144,hrun]
 .obtain ⟨es',cl',q1,q2⟩:=hat
  refine hQ _ _ (by simp only [B0];exact h.df) (by simp only [Ar];exact hsz) ?_ (ho.trans (AS.set (t:=.hs i) hi o'))
  refine h.shop.up (.hs i) hi (h.shop.ok.up (fun _=>rfl) (fun a b hab hi=>by cases hab) (fun a b hab hi=>h.shop.ok.had i hi a b hab)) G5 ⟨_,q1,es',cl',_,rfl,q2,?_⟩ (fun _=>⟨rfl,rfl⟩) (fun e=>absurd rfl e) (fun _=>rfl) (fun _=>rfl) (fun _ _=>rfl)
  rw [Av]
  intro p
  simp [Rm]
/-! ### helpers: do,dive -/
def k92Br:Code:=match k92B with | .seq r _=>r | c=>c
def k92Bn:Code:=match k92B with | .seq _ (.block _ (.loop (.seq n _)))=>n | c=>c
def k92Be:Code:=match k92B with | .seq _ (.block _ (.loop (.seq _ (.seq _ (.block _ (.seq e _))))))=>e | c=>c
def k92Bs:Code:=match k92B with | .seq _ (.block _ (.loop (.seq _ (.seq _ (.block _ (.seq _ s))))))=>s | c=>c
theorem k92B_eq:k92B=.seq k92Br (.block 2 (.loop (.seq k92Bn (.seq (.cond (.tmp 123) .skip (.exit 2)) (.block 3 (.seq k92Be k92Bs)))))):=by kernel_rfl
theorem k92Br_eq:∃ t1 p1 a1 t2 p2 a2 t3 p3 a3 t4 p4 a4 t5 p5 a5,k92Br=.region 18 #[⟨some 117,.move (.tmp 6),t1,p1,a1,none⟩,⟨some 118,.nilCheck (.tmp 117),t2,p2,a2,none⟩,⟨some 119,.fieldAddr 123 (.tmp 118) 1,t3,p3,a3,none⟩,⟨some 120,.load 119 (.tmp 119),t4,p4,a4,none⟩,⟨some 121,.range 119 (.tmp 120),t5,p5,a5,none⟩] false:=⟨_,_,_,_,_,_,_,_,_,_,_,_,_,_,_,rfl⟩
theorem k92Bn_eq:∃ t1 p1 a1 t2 p2 a2,k92Bn=.region 19 #[⟨some 122,.next (.tmp 121) false,t1,p1,a1,none⟩,⟨some 123,.extract (.tmp 122) 0,t2,p2,a2,none⟩] false:=⟨_,_,_,_,_,_,rfl⟩
theorem k92Be_eq:∃ t1 p1 a1 t2 p2 a2 t3 p3 a3,k92Be=.region 20 #[⟨some 124,.entry (.tmp 121),t1,p1,a1,none⟩,⟨some 125,.extract (.tmp 124) 1,t2,p2,a2,none⟩,⟨some 9,.assign (.tmp 125),t3,p3,a3,none⟩] false:=⟨_,_,_,_,_,_,_,_,_,rfl⟩
theorem y92B(it:Value)(dy us:Int)(ps:Bool)(R:List SV->List Blk->Prop):AT Tryz.prog [] (fun _=>none) 8 k92Bs (Aq 1 151 [9,121] [.ptr 0 0,.val it] 1 [.cells 134 [.int .i64 dy,.int .i64 us,.bool ps]]) (AJ 1 151 [121] [] 1 [] fun e v b=>e=.normal/\R v b) =
 (XE.normal=XE.normal/\R [.val it] [.cells 134 [.int .i64 dy,.int .i64 (IntKind.i64.wrap (us+1)),.bool ps]]):=by kernel_rfl
theorem Rl:∃ e,Tryz.prog.underlying 119=some (.map 3 e):=⟨131,by kernel_rfl⟩
def Qm(c:Int × Int × Bool):Int × Int × Bool:=(c.1,IntKind.i64.wrap (c.2.1+1),c.2.2)
def Oh(t:Th):Th:={ t with ck:=fun q=>(t.ck q).map Qm }
def MK(t:Th)(left:Int->Bool):Th:={ t with ck:=fun q=>cond (left (q:Int)) (t.ck q) ((t.ck q).map Qm) }
theorem Ue{L:Lay}{K:Kst}{st:Stt}{bx:Nat}{e0 e1:Int}{e2 e3 e4:BA}{e5:Bool}{x7:Value}{a:Act}{w w0:World}{i:Nat}(hL:L.T=T7)(hi:i<K.n)(h:F3 L K st bx e0 e1 e2 e3 e4 e5 (.pointer (some ⟨L.at_ (.th i),0,none⟩)) x7 a w)(ho:AS L K w0 w){Q:Exit->Act->World->Prop}(hQ:∀ a' w',a'.defers=[]->a'.tmps.size=151->Ao L K (upT st i (Oh (st.th i))) w'->AS L K w0 w'->Q .normal a' w'):k92B.wpIn (FW none) 0 Tryz.prog Q a w:=by
 rw [k92B_eq]
 have hsz:=h.sz
 obtain ⟨o0,t1,t2⟩:=h.shop.at_ (.th i) hi
 have t2:o0=.cells (thV L K st i) L.T.th (0,0):=t2
 subst t2
 rw [hL] at t1
 obtain ⟨_,g1,es,cl,f,rfl,g2,g3⟩:=h.shop.at_ (.ck i) hi
 obtain ⟨ety,hu⟩:=Rl
 have hat:B5 w (L.at_ (.ck i)) (Value.int .i64) f:=⟨es,cl,g1,g2⟩
 obtain ⟨o,cnt,hrun,hit⟩:=hat.range hu
 refine wpIn_seq ?_
 obtain ⟨u1,p1,b1,u2,p2,b2,u3,p3,b3,u4,p4,b4,u5,p5,b5,hR⟩:=k92Br_eq
 rw [hR]
 refine wpIn_region_list ?_
 refine Ai rfl (x:=.pointer (some ⟨L.at_ (.th i),0,none⟩)) (w':=w) (by simp [execOp,h.x6]) ?_
 refine Ai rfl (x:=.pointer (some ⟨L.at_ (.th i),0,none⟩)) (w':=w) (by simp only [execOp];rw [Aa (by omega)];simp) ?_
 refine Ai rfl (x:=.pointer (some ⟨L.at_ (.th i),3,none⟩)) (w':=w) (by
  simp only [execOp]
  rw [Aa (by simp only [Ar];omega)]
  simp [BQ (w:=w) (b:=L.at_ (.th i)) (f:=1) (j:=3) (t:=123) (by kernel_rfl)]) ?_
 refine Ai rfl (x:=.map (some (L.at_ (.ck i)))) (w':=w) (by
  simp only [execOp]
  rw [Aa (by simp only [Ar];omega)]
  simp [C0 (t:=119) t1 (j:=3) (v:=.val (.map (some (L.at_ (.ck i))))) (by kernel_rfl) (fun z hz=>hz)]) ?_
 refine Ai rfl (x:=.pointer (some ⟨w.heap.size,0,none⟩)) (w':=w.alloc o) (by
  simp only [execOp]
  rw [Aa (by simp only [Ar];omega)]
  simp [hrun]) ?_
 show Code.wpIn (FW none) 0 Tryz.prog (.block 2 _) _ _ _
 have e121:(((((a.put (some 117) (.pointer (some ⟨L.at_ (.th i),0,none⟩))).put (some 118) (.pointer (some ⟨L.at_ (.th i),0,none⟩))).put (some 119) (.pointer (some ⟨L.at_ (.th i),3,none⟩))).put (some 120) (.map (some (L.at_ (.ck i))))).put (some 121) (.pointer (some ⟨w.heap.size,0,none⟩))).eval (.tmp 121)=.pointer (some ⟨w.heap.size,0,none⟩):=Aa (by simp only [Ar];omega)
 have hz5:(((((a.put (some 117) (.pointer (some ⟨L.at_ (.th i),0,none⟩))).put (some 118) (.pointer (some ⟨L.at_ (.th i),0,none⟩))).put (some 119) (.pointer (some ⟨L.at_ (.th i),3,none⟩))).put (some 120) (.map (some (L.at_ (.ck i))))).put (some 121) (.pointer (some ⟨w.heap.size,0,none⟩))).tmps.size=151:=by simp only [Ar];exact hsz
 have hf5:(((((a.put (some 117) (.pointer (some ⟨L.at_ (.th i),0,none⟩))).put (some 118) (.pointer (some ⟨L.at_ (.th i),0,none⟩))).put (some 119) (.pointer (some ⟨L.at_ (.th i),3,none⟩))).put (some 120) (.map (some (L.at_ (.ck i))))).put (some 121) (.pointer (some ⟨w.heap.size,0,none⟩))).defers=[]:=by simp only [B0];exact h.df
 generalize (((((a.put (some 117) (.pointer (some ⟨L.at_ (.th i),0,none⟩))).put (some 118) (.pointer (some ⟨L.at_ (.th i),0,none⟩))).put (some 119) (.pointer (some ⟨L.at_ (.th i),3,none⟩))).put (some 120) (.map (some (L.at_ (.ck i))))).put (some 121) (.pointer (some ⟨w.heap.size,0,none⟩)))=a5 at e121 hz5 hf5 ⊢
 have hsh5:Ao L K st (w.alloc o):=h.shop.keep fun b q hb=>(Below.heap_alloc w o b (Array.getElem?_eq_some_iff.1 hb).1).trans hb
 have ho5:AS L K w0 (w.alloc o):=ho.trans ⟨rfl,rfl,rfl,by simp,fun b hb _=>Below.heap_alloc w o b hb⟩
 have hr5:w0.heap.size<=w.heap.size:=ho.size
 have hok:=h.shop.ok
 have hinj:=h.shop.inj
 generalize w.alloc o=w5 at hit hsh5 ho5 ⊢
 generalize w.heap.size=r at hit hr5 e121 ⊢
 refine wpIn_block (wpIn_loop_rounds (cnt+1) ?_)
 have rounds:∀ (fu cnt:Nat),cnt+1<=fu->∀ (left:Int->Bool) (a:Act) (w6:World),a.eval (.tmp 121)=.pointer (some ⟨r,0,none⟩)->a.tmps.size=151->a.defers=[] ->
   Ao L K (upT st i (MK (st.th i) left)) w6->AS L K w0 w6->BL w6 r (L.at_ (.ck i)) (Value.int .i64) f left cnt ->
   Code.roundsIn (FW none) 0 Tryz.prog (.seq k92Bn (.seq (.cond (.tmp 123) .skip (.exit 2)) (.block 3 (.seq k92Be k92Bs)))) (Exit.inBlock 2 Q) fu a w6:=by
  intro fu
  induction fu with
  | zero=>intro cnt h0;omega
  | succ fu ih =>
  intro cnt hfu left a w6 x121 hsz6 hdf6 hsh6 ho6 hit
  rw [roundsIn_succ]
  refine wpIn_seq ?_
  obtain ⟨t1,p1,a1',t2,p2,a2',hN⟩:=k92Bn_eq
  rw [hN]
  refine wpIn_region_list ?_
  have hnit:∀ t,Tg.ok K t->L.at_ t≠r:=by obtain ⟨_,_,_,_,_,_,hrr,_⟩:=hit;exact G6 hsh6 hrr
  rcases hit.next (FJ RS) t1 with ⟨hno,hrun⟩ | ⟨pk,v,w7,o7,cnt',hl,hfv,hw7,hrun,hent,hit',hcnt⟩
  .refine Ai rfl (x:=.tuple #[.bool false]) (w':=w6) (by simp only [execOp,x121];simp [hrun]) ?_
   refine Ai rfl (x:=.bool false) (w':=w6) (by simp only [execOp,Aa (show 122<a.tmps.size by omega)];simp [Instr.extract]) ?_
   refine wpIn_seq (wpIn_cond (t:=false) (Aa (by rw [Ar];omega)) (wpIn_exit ?_))
   show Q .normal _ w6
   refine hQ _ _ (by simp only [B0];exact hdf6) (by simp only [Ar];exact hsz6) ?_ ho6
   have:MK (st.th i) left=Oh (st.th i):=by simp [MK,Oh,hno]
   rw [<- this]
   exact hsh6
  .have hcond:(decide (0<=pk)&&K.dom i pk.toNat)=true/\v=.pointer (some ⟨L.at_ (.cb i pk.toNat),0,none⟩):=by
    have:=g3 pk
    rw [hfv] at this
    split at this
    .rename_i hc;cases this;exact ⟨hc,rfl⟩
    .cases this
   obtain ⟨hcond,rfl⟩:=hcond
   simp only [Bool.and_eq_true,decide_eq_true_eq] at hcond
   obtain ⟨q,rfl⟩:=Int.eq_ofNat_of_zero_le hcond.1
   have hdom:K.dom i q=true:=by simpa using hcond.2
   have hqt:((q:Int)).toNat=q:=by simp
   rw [hqt] at hrun hent
   have hsome:=hok.ck i hi q
   rw [hdom] at hsome
   obtain ⟨c,hcq⟩:=Option.isSome_iff_exists.1 hsome
   have hw7h:w7.heap=w6.heap:=by rcases hw7 with rfl | rfl <;> rfl
   refine Ai rfl (x:=.tuple #[.bool true,.int .i64 (q:Int),.pointer (some ⟨L.at_ (.cb i q),0,none⟩)]) (w':=setBlock w7 r o7) (by simp only [execOp,x121];simp [hrun]) ?_
   refine Ai rfl (x:=.bool true) (w':=setBlock w7 r o7) (by simp only [execOp,Aa (show 122<a.tmps.size by omega)];simp [Instr.extract]) ?_
   refine wpIn_seq (wpIn_cond (t:=true) (Aa (by rw [Ar];omega)) (wpIn_skip ?_))
   refine wpIn_block ?_
   have hsh7:Ao L K (upT st i (MK (st.th i) left)) (setBlock w7 r o7):=⟨hsh6.inj,hsh6.ok,fun s hs=>let ⟨q,q1,q2⟩:=hsh6.at_ s hs;⟨q,(At w7 o7 (hnit s hs)).trans (by rw [hw7h];exact q1),q2⟩⟩
   have ho7:AS L K w0 (setBlock w7 r o7):=by
    refine ⟨?_,?_,?_,?_,fun b hb hn=>?_⟩
    .rcases hw7 with rfl | rfl <;> exact ho6.os
    .rcases hw7 with rfl | rfl <;> exact ho6.tape
    .rcases hw7 with rfl | rfl <;> exact ho6.output
    .have:=ho6.size
     simp only [setBlock,Array.size_setIfInBounds,hw7h];exact this
    .rw [At w7 o7 (by omega),hw7h];exact ho6.keep b hb hn
   obtain ⟨t3,p3,a3',t4,p4,a4',t5,p5,a5',hX⟩:=k92Be_eq
   rw [hX]
   refine wpIn_seq (wpIn_region_list ?_)
   have x121':((a.put (some 122) (.tuple #[.bool true,.int .i64 (q:Int),.pointer (some ⟨L.at_ (.cb i q),0,none⟩)])).put (some 123) (.bool true)).eval (.tmp 121)=.pointer (some ⟨r,0,none⟩):=by rw [Ap (by omega),Ap (by omega)];exact x121
   refine Ai rfl (x:=.tuple #[.int .i64 (q:Int),.pointer (some ⟨L.at_ (.cb i q),0,none⟩)]) (w':=setBlock w7 r o7) (by simp only [execOp,x121'];simp [hent]) ?_
   refine Ai rfl (x:=.pointer (some ⟨L.at_ (.cb i q),0,none⟩)) (w':=setBlock w7 r o7) (by simp only [execOp];rw [Aa (by simp only [Ar];omega)];simp [Instr.extract]) ?_
   refine Ai rfl (x:=.pointer (some ⟨L.at_ (.cb i q),0,none⟩)) (w':=setBlock w7 r o7) (by simp only [execOp];rw [Aa (by simp only [Ar];omega)];simp) ?_
   show Code.wpIn (FW none) 0 Tryz.prog k92Bs _ _ _
   obtain ⟨o9,d1,d2⟩:=hsh7.at_ (.cb i q) ⟨hi,hdom⟩
   have d2:=d2 c (by rw [Av];show cond (left (q:Int)) ((st.th i).ck q) _=_;rw [hl];exact hcq)
   subst d2
   rw [hL] at d1
   have hst:Ab (setBlock w7 r o7).heap.size [L.at_ (.cb i q)] ⟨setBlock w7 r o7,nm1 (L.at_ (.cb i q)) CN,1,fun _=>none,some []⟩ (nm1 (L.at_ (.cb i q)) CN) (Aq 1 151 [9,121] [.ptr 0 0,.val (.pointer (some ⟨r,0,none⟩))] 1 [.cells 134 [.int .i64 c.1,.int .i64 c.2.1,.bool c.2.2]])
     (((((a.put (some 122) (.tuple #[.bool true,.int .i64 (q:Int),.pointer (some ⟨L.at_ (.cb i q),0,none⟩)])).put (some 123) (.bool true)).put (some 124) (.tuple #[.int .i64 (q:Int),.pointer (some ⟨L.at_ (.cb i q),0,none⟩)])).put (some 125) (.pointer (some ⟨L.at_ (.cb i q),0,none⟩))).put (some 9) (.pointer (some ⟨L.at_ (.cb i q),0,none⟩))) (setBlock w7 r o7):=by
    refine Ab.start (by simp only [Ar];exact hsz6) (by simp only [B0];exact hdf6) (fun d e=>by cases e;rfl) (S5 d1 ⟨rfl,rfl,rfl,trivial⟩ (by simp) (H0 _) fun _=>rfl) (fun j hj=>if_neg (by omega)) (fun e=>by cases e) (fun p t v h1 h2=>?_) (fun v hv t pol u e=>?_)
    .match p,h1,h2 with
     | 0,h1,h2=>cases h1;cases h2;exact ⟨_,rfl,by rw [Aa (by simp only [Ar];omega)]⟩
     | 1,h1,h2=>cases h1;cases h2;show _=_;rw [Ap (by omega),Ap (by omega),Ap (by omega)];exact x121'
    .simp at hv;rcases hv with rfl | rfl <;> cases e
   refine Cw AM A6 (R:=fun v b=>v=[.val (.pointer (some ⟨r,0,none⟩))]/\b=[.cells 134 [.int .i64 c.1,.int .i64 (IntKind.i64.wrap (c.2.1+1)),.bool c.2.2]]) (Bu (y92B _ _ _ _ _) ⟨rfl,rfl,rfl⟩) (.inr (by kernel_rfl)) hst ?_
   rintro vs bs O8 a8 w8 ⟨rfl,rfl⟩ h8
   obtain ⟨c8,hb8,hd8⟩:=h8.cells1
   have hcc:c8=cbV (Qm c):=by
    apply Array.toList_inj.1
    obtain ⟨z0,l0,f0,q0,hd⟩:=A9 hd8
    obtain ⟨z1,l1,f1,q1,hd⟩:=A9 hd
    obtain ⟨z2,l2,f2,q2,hd⟩:=A9 hd
    have f3:=Bb hd
    rw [f0,f1,f2,f3]
    cases q0;cases q1;cases q2;rfl
   subst hcc
   have hk8:AR (setBlock w7 r o7).heap.size [L.at_ (.cb i q)] (setBlock w7 r o7) w8:=h8.kept
   have y121:a8.eval (.tmp 121)=.pointer (some ⟨r,0,none⟩):=AF h8.tmDen (Az.nil a8) (.tmp 121)
   have hsh8:=hsh7.up (i:=i) (t:=MK (st.th i) (fun x=>left x&&!decide (x=(q:Int)))) (w':=w8) (.cb i q) ⟨hi,hdom⟩ (hsh7.ok.up (fun q'=>?_) (fun a b hab hi=>hok.has i hi a b hab) (fun a b hab hi=>hok.had i hi a b hab)) hk8.keep1 ⟨_,hb8,?_⟩ (fun _=>by rw [Av];exact ⟨rfl,rfl⟩) (fun _=>by rw [Av];rfl) (fun _=>by rw [Av];rfl) (fun _=>by rw [Av];rfl) (fun q' hne=>?_)
   .rw [Ic] at hsh8
    have hit9:BL w8 r (L.at_ (.ck i)) (Value.int .i64) f (fun x=>left x&&!decide (x=(q:Int))) cnt':=by
     obtain ⟨_,_,_,_,_,hA,hBB,_⟩:=id hit'
     have n1:L.at_ (.ck i)≠L.at_ (.cb i q):=fun e=>by cases hinj (.ck i) (.cb i q) hi ⟨hi,hdom⟩ e
     exact hit'.same (hk8.block _ (Array.getElem?_eq_some_iff.1 hA).1 (by simpa using n1)) (hk8.block _ (Array.getElem?_eq_some_iff.1 hBB).1 (by simpa using Ne.symm (hnit (.cb i q) ⟨hi,hdom⟩)))
    rw [<- hX,<- hN]
    show Code.roundsIn (FW none) 0 Tryz.prog _ _ fu a8 w8
    exact ih cnt' (by omega) _ a8 w8 y121 h8.size (h8.defs.same_ [] rfl) hsh8 (ho7.trans (AS.of_kept hk8 fun b hb=>⟨.cb i q,⟨hi,hdom⟩,(List.mem_singleton.1 hb).symm⟩)) hit9
   .rw [Av]
    simp only [MK]
    cases (left (q':Int)&&!decide ((q':Int)=(q:Int))) <;> cases left (q':Int) <;> simp
   .intro c' hc'
    rw [Av] at hc'
    have hc':cond (left (q:Int)&&!decide ((q:Int)=(q:Int))) ((st.th i).ck q) (((st.th i).ck q).map Qm)=some c':=hc'
    simp [hcq] at hc'
    subst hc'
    rw [hL]
    rfl
   .rw [Av]
    show cond (left (q':Int)&&!decide ((q':Int)=(q:Int))) _ _=cond (left (q':Int)) _ _
    have:¬ (q':Int)=(q:Int):=fun e=>hne (by rw [show q'=q by omega])
    simp [this]
 refine rounds (cnt+1) cnt (Nat.le_refl _) _ a5 w5 e121 hz5 hf5 ?_ ho5 hit
 have hv:MK (st.th i) (fun a=>(f a).isSome)=st.th i:=by
  have key:∀ q:Nat,cond ((f (q:Int)).isSome) ((st.th i).ck q) (((st.th i).ck q).map Qm)=(st.th i).ck q:=fun q=>by
   have hg:=g3 (q:Int)
   have hsome:=hok.ck i hi q
   cases hd:K.dom i q
   .rw [hd] at hsome
    have:(st.th i).ck q=none:=by
     cases hc:(st.th i).ck q with
     | none=>rfl
     | some c=>rw [hc] at hsome;cases hsome
    rw [this];cases (f (q:Int)).isSome <;> rfl
   .rw [hg];simp [hd]
  simp only [MK,key]
 rw [hv]
 have:upT st i (st.th i)=st:=by
  cases st
  simp only [upT,Stt.mk.injEq,true_and]
  funext q
  split
  .rename_i e;rw [e]
  .rfl
 rw [this]
 exact hsh5
/-! ### helpers: do,check -/
def k92Ao:Array Oper:=match k92A with | .region _ o _=>o | _=>#[]
theorem k92A_eq:k92A=.region 16 k92Ao true:=by kernel_rfl
def F7:List (Option Nat × Op × Option (Nat × Bool)) :=
 [(some 97,.move (.tmp 6),none),(some 98,.nilCheck (.tmp 97),none),(some 99,.fieldAddr 123 (.tmp 98) 1,none),(some 100,.load 119 (.tmp 99),none),
  (some 101,.move (.tmp 0),none),(some 102,.nilCheck (.tmp 101),none),(some 103,.fieldAddr 129 (.tmp 102) 0,none),(some 104,.load 25 (.tmp 103),none),
  (some 105,.fieldAddr 27 (.tmp 3) 3,none),(some 106,.load 9 (.tmp 105),none),(some 107,.call { callee:=.value (.func 49),args:=#[.tmp 104,.tmp 106],argTypes:=#[25,9] },none),
  (some 108,.lookup 119 (.tmp 100) (.tmp 107) false,none),(some 109,.fieldAddr 27 (.tmp 3) 1,none),(some 110,.load 3 (.tmp 109),none),(some 111,.fieldAddr 27 (.tmp 3) 5,none),(some 112,.load 4 (.tmp 111),none),
  (some 113,.build 134 #[(0,.tmp 110),(2,.tmp 112)],none),(some 114,.nilCheck (.tmp 108),none),(none,.store 134 (.tmp 114) (.tmp 113),none)]
def Gy:List (List Nat):=[[],[0],[1],[2],[],[4],[5],[6],[],[8],[7,9],[3,10],[],[12],[],[14],[13,15],[11,0,1,2,3,4,5,6,7,8,9,10,11,12,13,14,15,16],[17,16,10,0,1,2,3,4,5,6,7,8,9,10,11,12,13,14,15,16]]
theorem k92A_ops:k92Ao.toList.map opK=F7:=by kernel_rfl
theorem k92A_ed:k92Ao.toList.map edK=Gy:=by kernel_rfl
theorem Ly:∀ (j:Nat) (l:List Nat),Gy[j]? = some l->∀ q∈l,q<j:=by
 intro j l h q hq
 have:j<19:=(List.getElem?_eq_some_iff.1 h).1
 have hc:((List.range 19).all fun j=>((Gy[j]?).getD []).all fun q=>decide (q<j))=true:=rfl
 have h1:=List.all_eq_true.1 hc j (List.mem_range.2 this)
 rw [h] at h1
 simpa using List.all_eq_true.1 h1 q hq
def TJ(t:Th)(q:Nat)(dy:Int)(ps:Bool):Th:={ t with ck:=fun x=>if x=q then some (dy,0,ps) else t.ck x }
/-! ### helpers: do,the rule -/
theorem R4(w:World):Bj (Bn w Br) w:=by
 refine ⟨fun b o v hv=>hv,fun b v hv=>?_,fun b i hp=>by cases hp⟩
 unfold Bn at hv
 simp only at hv
 split at hv
 .cases hv;assumption
 .cases hv
theorem TX(B:Nat)(w:World):Ak B [] ⟨fun _=>none,Bn w Br,gl0 _⟩ (Ah []) w :=
 ⟨fun i hi=>by simp [Ah,Blk.isUnk] at hi,fun i j m m' _ hi=>by simp [Ah,Blk.isUnk] at hi,R4 w,fun i m hi=>by simp [Ah,Blk.isUnk] at hi,pv0 _⟩
theorem Q4{K:Kst}{L:Lay}{w:World}(hS:G8 K L w)(nm:BA)(hn:n49 K.n K.di K.r K.dr nm=true) :
  Calls Tryz.prog 49 ⟨[.agg #[L.xI,L.xR],.string nm]⟩ w fun e w'=>e=.returned (.int .i64 (m49 K.n K.di K.r K.dr nm))/\AR w.heap.size [] w w':=by
 obtain ⟨⟨A,cap,e1,e2,e3⟩,A',cap',f1,f2,f3⟩:=hS
 have hc:=k49.2 w.heap.size [] ⟨fun _=>none,Bn w Br,gl0 _⟩ (Ah []) 0 [.agg [.ro [.str,.int .i64,.int .i64] K.n K.di,.ro [.str,.int .i64,.int .i64,.int .i64] K.r K.dr],.str nm]
  {v:=.int .i64 (m49 K.n K.di K.r K.dr nm),need:=[n49 K.n K.di K.r K.dr nm] } rfl (fun b hb=>by simp at hb;rw [hb,hn]) ?_ [.agg #[L.xI,L.xR],.string nm] w
  ⟨⟨_,rfl,⟨A,cap,e1,e2,e3⟩,⟨A',cap',f1,f2,f3⟩,trivial⟩,rfl,trivial⟩ (TX _ w) (Nat.le_refl _) (fun j hj=>rfl)
 .refine hc.mono ?_
  rintro e w' ⟨x,O',rfl,hp⟩
  have hv:x=.int .i64 (m49 K.n K.di K.r K.dr nm):=hp.val
  exact ⟨by rw [hv],hp.os,hp.tape,hp.output,hp.size,fun k hk _=>hp.keep k hk (fun u hu=>by simp at hu)⟩
 .exact ⟨fun u hu=>by simp at hu,fun u hu=>by simp at hu⟩
/-! ### helpers: do,the check's body -/
open Classical in
def Mt(L:Lay)(K:Kst)(w:World):Od:=⟨fun b o=>if ∃ t,Tg.ok K t/\L.at_ t=b then none else w.cell? ⟨b,o,none⟩,fun _=>none,Br⟩
def EA(K:Kst)(L:Lay)(w:World):Prop:=BB K L.xI L.xR (Mt L K w)
theorem Jm{L:Lay}{K:Kst}{w:World}{b o:Nat}{v:Value}(h:(Mt L K w) b o=some v):(∀ t,Tg.ok K t->L.at_ t≠b)/\w.cell? ⟨b,o,none⟩=some v:=by
 unfold Mt at h
 simp only at h
 split at h
 .cases h
 .rename_i hn
  exact ⟨fun t ht e=>hn ⟨t,ht,e⟩,h⟩
theorem EA.w{L:Lay}{K:Kst}{w:World}(h:EA K L w):G8 K L w:=BB.mono (fun b o v hv=>(Jm hv).2) h
theorem EA.only{L:Lay}{K:Kst}{w w':World}(h:EA K L w)(ho:AS L K w w'):EA K L w':=by
 refine BB.mono (fun b o v hv=>?_) h
 obtain ⟨hn,hv⟩:=Jm hv
 have hb:b<w.heap.size:=by
  unfold World.cell? at hv
  split at hv
  .rename_i hc;exact (Array.getElem?_eq_some_iff.1 hc).1
  .cases hv
 unfold Mt
 simp only
 rw [if_neg (fun ⟨t,ht,e⟩=>hn t ht e),World.cell?_of_block (w:=w) (ho.keep b hb hn)]
 exact hv
theorem Kn:Tryz.prog.underlying 119=some (.map 3 131):=by kernel_rfl
theorem SB(w:World):(zeroValue 131).run Tryz.prog w=.ok (.pointer none) w:=OR (by kernel_rfl) w
theorem Lv(w:World)(dy:Int)(ps:Bool):(Instr.build 134 #[(0,.int .i64 dy),(2,.bool ps)]).run Tryz.prog w=.ok (.agg #[.int .i64 dy,.int .i64 0,.bool ps]) w:=by
 obtain ⟨y,hr,hp⟩:=ER (P:=Tryz.prog) (w:=w) (O:=⟨fun _=>none,CN,gl0 _⟩) (t:=134) (ps:=[(0,.int .i64 dy),(2,.bool ps)]) (r:={ v:=.agg [.int .i64 dy,.int .i64 0,.bool ps] }) (by kernel_rfl) (xs:=#[(0,.int .i64 dy),(2,.bool ps)]) ⟨rfl,rfl,rfl,rfl,trivial⟩ 0
 have hv:(SV.agg [.int .i64 dy,.int .i64 0,.bool ps]).den ⟨fun _=>none,CN,gl0 _⟩ y:=hp.val
 obtain ⟨xs,rfl,hx⟩:=hv
 obtain ⟨y0,l0,rfl,h0,hx⟩:=A9 hx
 obtain ⟨y1,l1,rfl,h1,hx⟩:=A9 hx
 obtain ⟨y2,l2,rfl,h2,hx⟩:=A9 hx
 have:=Bb hx
 subst this
 cases h0;cases h1;cases h2
 exact hr
theorem Rh{w:World}{L:Lay}{K:Kst}{i q:Nat}{c:Int × Int × Bool}(hc:w.heap[L.at_ (.cb i q)]? = some (.cells (cbV c) 134 (0,0)))(x y:Int)(z:Bool) :
  ∃ w',(Instr.storeAt 134 (.pointer (some ⟨L.at_ (.cb i q),0,none⟩)) (.agg #[.int .i64 x,.int .i64 y,.bool z])).run Tryz.prog w=.ok () w'/\w'.heap[L.at_ (.cb i q)]? = some (.cells (cbV (x,y,z)) 134 (0,0)) /\
   (∀ b,b≠L.at_ (.cb i q)->∀ o,w.heap[b]? = some o->w'.heap[b]? = some o)/\(Tg.ok K (.cb i q)->AS L K w w'):=by
 have hcl:(Value.agg #[.int .i64 x,.int .i64 y,.bool z]).cells.toList=[.int .i64 x,.int .i64 y,.bool z]:=rfl
 obtain ⟨g1,g2,g3,g4,g5,g6⟩:=Bi (L.at_ (.cb i q)) [.int .i64 x,.int .i64 y,.bool z] 0 w (cbV c) 134 (0,0) hc (Nat.le_refl 3)
 have hr:=BW (P:=Tryz.prog) (m:=⟨L.at_ (.cb i q),0,0⟩) (o:=0) (n:=3) (t:=134) (y:=.agg #[.int .i64 x,.int .i64 y,.bool z]) hc (by kernel_rfl) (by rw [hcl];rfl) (Nat.le_refl 3) (by rw [hcl];intro v hv;simp at hv;rcases hv with rfl | rfl | rfl <;> rfl)
 rw [hcl] at hr
 exact ⟨_,hr,g1,fun b hb o ho=>(g2 b hb).trans ho,fun hok=>⟨g4,g5,g6,by rw [g3];exact Nat.le_refl _,fun b _ hn=>g2 b (fun e=>hn _ hok e.symm)⟩⟩
theorem Gz:∀ (j:Nat) (t:Option Nat × Op × Option (Nat × Bool)) (d:Nat),F7[j]? = some t->t.1=some d->j<18/\d=97+j:=by
 intro j t d h e
 have hj:j<19:=(List.getElem?_eq_some_iff.1 h).1
 have hc:((List.range 19).all fun j=>match (F7[j]?).bind (·.1) with
  | some d=>Nat.beq d (97+j)&&Nat.blt j 18
  | none=>true)=true:=rfl
 have h1:=List.all_eq_true.1 hc j (List.mem_range.2 hj)
 rw [h] at h1
 simp only [Option.bind_some,e,Bool.and_eq_true,Nat.blt_eq] at h1
 exact ⟨h1.2,Nat.eq_of_beq_eq_true h1.1⟩
theorem Ud{L:Lay}{K:Kst}{st:Stt}{bx:Nat}{e0 e1:Int}{e2 e3 e4:BA}{e5:Bool}{x7:Value}{a:Act}{w w0:World}{i q:Nat}(hL:L.T=T7)(hi:i<K.n)(h:F3 L K st bx e0 e1 e2 e3 e4 e5 (.pointer (some ⟨L.at_ (.th i),0,none⟩)) x7 a w)(hS:EA K L w)(hbx:∀ t,Tg.ok K t->L.at_ t≠bx)(ho:AS L K w0 w)(hn:n49 K.n K.di K.r K.dr e3=true)(hq:m49 K.n K.di K.r K.dr e3=(q:Int))(hdom:K.dom i q=true){Q:Exit->Act->World->Prop}(hQ:∀ a' w',a'.defers=[]->a'.tmps.size=151->Ao L K (upT st i (TJ (st.th i) q e1 e5)) w'->AS L K w0 w'->Q .normal a' w'):k92A.wpIn (FW none) 0 Tryz.prog Q a w:=by
 rw [k92A_eq]
 have hsz:=h.sz
 have hsize:k92Ao.size=19:=by have:=congrArg List.length k92A_ops;simpa [F7] using this
 have opAt:∀ (j:Nat) (o:Oper),k92Ao[j]? = some o->F7[j]? = some (opK o):=fun j o ho=>by rw [<- k92A_ops,List.getElem?_map,Array.getElem?_toList,ho];rfl
 have edAt:∀ (j:Nat) (o:Oper),k92Ao[j]? = some o->Gy[j]? = some (edK o):=fun j o ho=>by rw [<- k92A_ed,List.getElem?_map,Array.getElem?_toList,ho];rfl
 have edM:∀ (o:Oper) (q:Nat),q∈edK o↔∃ e∈o.after.toList,Region.binds .any e=true/\e.on=q:=fun o q=>by simp [edK,and_assoc]
 have hok:Tg.ok K (.cb i q):=⟨hi,hdom⟩
 obtain ⟨o0,t1,t2⟩:=h.shop.at_ (.th i) hi
 have t2:o0=.cells (thV L K st i) L.T.th (0,0):=t2
 subst t2
 rw [hL] at t1
 obtain ⟨_,s1,A,cap,rfl,s2,s3⟩:=h.shop.at_ .shop trivial
 rw [hL] at s1
 obtain ⟨_,g1,es,cl,f,rfl,g2,g3⟩:=h.shop.at_ (.ck i) hi
 have hsome:=h.shop.ok.ck i hi q
 rw [hdom] at hsome
 obtain ⟨c,hcq⟩:=Option.isSome_iff_exists.1 hsome
 obtain ⟨o9,d1,d2⟩:=h.shop.at_ (.cb i q) hok
 have d2:=d2 c hcq
 subst d2
 rw [hL] at d1
 have n1:L.at_ (.th i)≠L.at_ (.cb i q):=fun e=>by cases h.shop.inj (.th i) (.cb i q) hi hok e
 have n2:L.at_ .shop≠L.at_ (.cb i q):=fun e=>by cases h.shop.inj .shop (.cb i q) trivial hok e
 have n3:L.at_ (.ck i)≠L.at_ (.cb i q):=fun e=>by cases h.shop.inj (.ck i) (.cb i q) hi hok e
 have n4:bx≠L.at_ (.cb i q):=Ne.symm (hbx (.cb i q) hok)
 let W:Nat->World->Prop:=fun ph w'=>AS L K w w'/\(∀ b o,(ph=2->b≠L.at_ (.cb i q))->w.heap[b]? = some o->w'.heap[b]? = some o)/\(ph=2->w'.heap[L.at_ (.cb i q)]? = some (.cells (cbV (e1,0,e5)) 134 (0,0)))
 let eff:Nat->Option Nat:=fun j=>match j with
  | 10=>some 0
  | 18=>some 1
  | _=>none
 let val:Nat->Value:=fun j=>match j with
  | 0 | 1=>.pointer (some ⟨L.at_ (.th i),0,none⟩)
  | 2=>.pointer (some ⟨L.at_ (.th i),3,none⟩)
  | 3=>.map (some (L.at_ (.ck i)))
  | 4 | 5 | 6=>.pointer (some ⟨L.at_ .shop,0,none⟩)
  | 7=>.agg #[L.xI,L.xR]
  | 8=>.pointer (some ⟨bx,3,none⟩)
  | 9=>.string e3
  | 10=>.int .i64 (q:Int)
  | 11 | 17=>.pointer (some ⟨L.at_ (.cb i q),0,none⟩)
  | 12=>.pointer (some ⟨bx,1,none⟩)
  | 13=>.int .i64 e1
  | 14=>.pointer (some ⟨bx,5,none⟩)
  | 15=>.bool e5
  | 16=>.agg #[.int .i64 e1,.int .i64 0,.bool e5]
  | _=>undef
 have pv:∀ z,(SV.agg [.val L.xI,.val L.xR]).den (nm1 (L.at_ .shop) CN) z->z=.agg #[L.xI,L.xR]:=fun z hz=>by
  obtain ⟨xs,rfl,hx⟩:=hz
  obtain ⟨y0,l0,rfl,h0,hx⟩:=A9 hx
  obtain ⟨y1,l1,rfl,h1,hx⟩:=A9 hx
  have:=Bb hx
  subst this
  cases h0;cases h1;rfl
 have hS1:∀ w1,W 0 w1->G8 K L w1:=fun w1 hw=>(hS.only hw.1).w
 refine MW A6 (val:=val) (W:=W) (eff:=eff) (N:=2) (fun j o ho=>?_) (fun j1 j2 o1 o2 d h1 h2 e1 e2=>?_) (fun j p hp=>?_) (fun j1 j2 p h1 h2=>?_) (fun p hp=>?_) (fun j o p ho hp=>?_) (fun j o ho a1 ph hph hpe hdep hrest hlt w1 hw=>?_) ⟨⟨rfl,rfl,rfl,Nat.le_refl _,fun _ _ _=>rfl⟩,fun b o _ hb=>hb,fun e=>by cases e⟩ (fun a1 w1 hw hdf hsz' hrest=>?_)
 .have hm:=List.mem_of_getElem? (opAt j o ho)
  refine ⟨?_,?_,fun d hd=>?_,fun e he hb=>Ly j _ (edAt j o ho) _ ((edM o e.on).2 ⟨e,he,hb,rfl⟩)⟩
  .have hc:(F7.all fun t=>t.2.2.isNone)=true:=rfl
   have:=List.all_eq_true.1 hc _ hm
   simpa [opK] using this
  .intro cc hcc
   have hc:(F7.all fun t=>match t.2.1 with | .defer _=>false | _=>true)=true:=rfl
   have:=List.all_eq_true.1 hc _ hm
   simp only [opK,hcc] at this
   cases this
  .obtain ⟨q1,q2⟩:=Gz j _ d (opAt j o ho) hd
   have key:∀ d':Nat,d'=97+j->d'<a.tmps.size:=fun d' e=>by omega
   exact key d q2
 .obtain ⟨q1,q2⟩:=Gz j1 _ d (opAt j1 o1 h1) e1
  obtain ⟨p1,p2⟩:=Gz j2 _ d (opAt j2 o2 h2) e2
  omega
 .simp only [eff] at hp
  split at hp <;> cases hp <;> simp [hsize]
 .simp only [eff] at h1 h2
  split at h1 <;> cases h1 <;> (split at h2 <;> cases h2;rfl)
 .match p,hp with
  | 0,_=>exact ⟨10,rfl⟩
  | 1,_=>exact ⟨18,rfl⟩
 .have hdd:=edAt j o ho
  simp only [eff] at hp
  split at hp <;> cases hp
  have hee:edK o=[17,16,10,0,1,2,3,4,5,6,7,8,9,10,11,12,13,14,15,16]:=(Option.some.inj hdd).symm
  obtain ⟨e,he,hb,hq⟩:=(edM o 10).1 (by rw [hee];simp)
  exact ⟨e,he,hb,by rw [hq];rfl⟩
 rotate_left
 .refine hQ a1 w1 (hdf.trans h.df) (hsz'.trans hsz) ?_ (ho.trans hw.1)
  refine h.shop.up (.cb i q) hok (h.shop.ok.up (fun x=>?_) (fun a b hab hi=>h.shop.ok.has i hi a b hab) (fun a b hab hi=>h.shop.ok.had i hi a b hab)) (fun b hb o ho=>hw.2.1 b o (fun _=>hb) ho) ⟨_,hw.2.2 rfl,fun c' hc'=>?_⟩ (fun _=>⟨rfl,rfl⟩) (fun _=>rfl) (fun _=>rfl) (fun _=>rfl) (fun x hne=>?_)
  .show (if x=q then some (e1,0,e5) else (st.th i).ck x).isSome=_
   split
   .rename_i e;rw [e,hcq];rfl
   .rfl
  .rw [Av] at hc'
   have hc':(if q=q then some (e1,0,e5) else (st.th i).ck q)=some c':=hc'
   rw [if_pos rfl] at hc'
   cases hc'
   rw [hL]
   rfl
  .show (if x=q then some (e1,0,e5) else (st.th i).ck x)=_
   rw [if_neg (fun e=>hne (by rw [e]))]
 have hk:=opAt j o ho
 have hdd:=edAt j o ho
 have dep:∀ (q d:Nat) (t:Option Nat × Op × Option (Nat × Bool)),q∈edK o->F7[q]? = some t->t.1=some d->a1.eval (.tmp d)=val q:=fun q d t hq ht hd=>by
  obtain ⟨e,he,hb,rfl⟩:=(edM o q).1 hq
  have hl:e.on<k92Ao.size:=by have:=(Gz _ _ _ ht hd).1;omega
  have hoj:=Array.getElem?_eq_getElem hl
  have:=opAt _ _ hoj
  rw [ht] at this
  cases this
  exact hdep e he hb _ d hoj hd
 have out:∀ t:Nat,t<97->a1.eval (.tmp t)=a.eval (.tmp t):=fun t ht=>hrest t fun i' o' ho' hd=>by
  obtain ⟨q1,q2⟩:=Gz i' _ t (opAt i' o' ho') hd
  omega
 have e0:=(out 0 (by omega)).trans h.x0
 have e3':=(out 3 (by omega)).trans h.x3
 have e6:=(out 6 (by omega)).trans h.x6
 have hth:=hw.2.1 _ _ (fun _=>n1) t1
 have hsp:=hw.2.1 _ _ (fun _=>n2) s1
 have hbx1:=hw.2.1 _ _ (fun _=>n4) h.box
 have hat:B5 w1 (L.at_ (.ck i)) (Value.int .i64) f:=⟨es,cl,hw.2.1 _ _ (fun _=>n3) g1,g2⟩
 have hlk:(Instr.lookup 119 (.map (some (L.at_ (.ck i)))) (.int .i64 (q:Int)) false).run Tryz.prog w1=.ok (.pointer (some ⟨L.at_ (.cb i q),0,none⟩)) w1:=by
  rw [hat.lookup (FJ RS) Kn (SB w1) (q:Int) false,g3 (q:Int)]
  simp [hdom]
 have hcb1:ph=1->w1.heap[L.at_ (.cb i q)]? = some (.cells (cbV c) 134 (0,0)):=fun e=>hw.2.1 _ _ (fun e'=>by omega) d1
 clear hdep hrest hlt
 have hj19:j<19:=by
  have:=(Array.getElem?_eq_some_iff.1 ho).1
  omega
 have hjs:j=0\/j=1\/j=2\/j=3\/j=4\/j=5\/j=6\/j=7\/j=8\/j=9\/j=10\/j=11\/j=12\/j=13\/j=14\/j=15\/j=16\/j=17\/j=18:=by omega
 rcases hjs with rfl | rfl | rfl | rfl | rfl | rfl | rfl | rfl | rfl | rfl | rfl | rfl | rfl | rfl | rfl | rfl | rfl | rfl | rfl
 .have hop:o.op=.move (.tmp 6):=(congrArg (fun z:Option Nat × Op × Option (Nat × Bool)=>z.2.1) (Option.some.inj hk)).symm
  have hee:edK o=[]:=(Option.some.inj hdd).symm
  exact .inl ⟨w1,hw,by unfold execOp;rw [hop];simp [e6,val,eff]⟩
 .have hop:o.op=.nilCheck (.tmp 97):=(congrArg (fun z:Option Nat × Op × Option (Nat × Bool)=>z.2.1) (Option.some.inj hk)).symm
  have hee:edK o=[0]:=(Option.some.inj hdd).symm
  have v0:a1.eval (.tmp 97)=val 0:=dep 0 97 _ (by rw [hee];simp) rfl rfl
  exact .inl ⟨w1,hw,by unfold execOp;rw [hop];simp [v0,val,eff]⟩
 .have hop:o.op=.fieldAddr 123 (.tmp 98) 1:=(congrArg (fun z:Option Nat × Op × Option (Nat × Bool)=>z.2.1) (Option.some.inj hk)).symm
  have hee:edK o=[1]:=(Option.some.inj hdd).symm
  have v1:a1.eval (.tmp 98)=val 1:=dep 1 98 _ (by rw [hee];simp) rfl rfl
  exact .inl ⟨w1,hw,by unfold execOp;rw [hop];simp [v1,val,eff,BQ (w:=w1) (b:=L.at_ (.th i)) (f:=1) (j:=3) (t:=123) (by kernel_rfl)]⟩
 .have hop:o.op=.load 119 (.tmp 99):=(congrArg (fun z:Option Nat × Op × Option (Nat × Bool)=>z.2.1) (Option.some.inj hk)).symm
  have hee:edK o=[2]:=(Option.some.inj hdd).symm
  have v2:a1.eval (.tmp 99)=val 2:=dep 2 99 _ (by rw [hee];simp) rfl rfl
  exact .inl ⟨w1,hw,by unfold execOp;rw [hop];simp [v2,val,eff,C0 (t:=119) hth (j:=3) (v:=.val (.map (some (L.at_ (.ck i))))) (by kernel_rfl) (fun z hz=>hz)]⟩
 .have hop:o.op=.move (.tmp 0):=(congrArg (fun z:Option Nat × Op × Option (Nat × Bool)=>z.2.1) (Option.some.inj hk)).symm
  have hee:edK o=[]:=(Option.some.inj hdd).symm
  exact .inl ⟨w1,hw,by unfold execOp;rw [hop];simp [e0,val,eff]⟩
 .have hop:o.op=.nilCheck (.tmp 101):=(congrArg (fun z:Option Nat × Op × Option (Nat × Bool)=>z.2.1) (Option.some.inj hk)).symm
  have hee:edK o=[4]:=(Option.some.inj hdd).symm
  have v4:a1.eval (.tmp 101)=val 4:=dep 4 101 _ (by rw [hee];simp) rfl rfl
  exact .inl ⟨w1,hw,by unfold execOp;rw [hop];simp [v4,val,eff]⟩
 .have hop:o.op=.fieldAddr 129 (.tmp 102) 0:=(congrArg (fun z:Option Nat × Op × Option (Nat × Bool)=>z.2.1) (Option.some.inj hk)).symm
  have hee:edK o=[5]:=(Option.some.inj hdd).symm
  have v5:a1.eval (.tmp 102)=val 5:=dep 5 102 _ (by rw [hee];simp) rfl rfl
  exact .inl ⟨w1,hw,by unfold execOp;rw [hop];simp [v5,val,eff,BQ (w:=w1) (b:=L.at_ .shop) (f:=0) (j:=0) (t:=129) (by kernel_rfl)]⟩
 .have hop:o.op=.load 25 (.tmp 103):=(congrArg (fun z:Option Nat × Op × Option (Nat × Bool)=>z.2.1) (Option.some.inj hk)).symm
  have hee:edK o=[6]:=(Option.some.inj hdd).symm
  have v6:a1.eval (.tmp 103)=val 6:=dep 6 103 _ (by rw [hee];simp) rfl rfl
  exact .inl ⟨w1,hw,by unfold execOp;rw [hop];simp [v6,val,eff,C0 (t:=25) hsp (j:=0) (v:=.agg [.val L.xI,.val L.xR]) (by kernel_rfl) pv]⟩
 .have hop:o.op=.fieldAddr 27 (.tmp 3) 3:=(congrArg (fun z:Option Nat × Op × Option (Nat × Bool)=>z.2.1) (Option.some.inj hk)).symm
  have hee:edK o=[]:=(Option.some.inj hdd).symm
  exact .inl ⟨w1,hw,by unfold execOp;rw [hop];simp [e3',val,eff,BQ (w:=w1) (b:=bx) (f:=3) (j:=3) (t:=27) (by kernel_rfl)]⟩
 .have hop:o.op=.load 9 (.tmp 105):=(congrArg (fun z:Option Nat × Op × Option (Nat × Bool)=>z.2.1) (Option.some.inj hk)).symm
  have hee:edK o=[8]:=(Option.some.inj hdd).symm
  have v8:a1.eval (.tmp 105)=val 8:=dep 8 105 _ (by rw [hee];simp) rfl rfl
  exact .inl ⟨w1,hw,by unfold execOp;rw [hop];simp [v8,val,eff,C0 (t:=9) hbx1 (j:=3) (v:=.val (.string e3)) (by kernel_rfl) (fun z hz=>hz)]⟩
 .have hop:o.op=.call { callee:=.value (.func 49),args:=#[.tmp 104,.tmp 106],argTypes:=#[25,9] }:=(congrArg (fun z:Option Nat × Op × Option (Nat × Bool)=>z.2.1) (Option.some.inj hk)).symm
  have hee:edK o=[7,9]:=(Option.some.inj hdd).symm
  have v7:a1.eval (.tmp 104)=val 7:=dep 7 104 _ (by rw [hee];simp) rfl rfl
  have v9:a1.eval (.tmp 106)=val 9:=dep 9 106 _ (by rw [hee];simp) rfl rfl
  have:=hpe 0 rfl
  subst this
  refine .inr (.inr ⟨49,[.agg #[L.xI,L.xR],.string e3],?_,(Q4 (hS1 w1 hw) e3 hn).mono ?_⟩)
  .rw [Er hop rfl Tryz.func49 (by kernel_rfl) (by kernel_rfl)]
   simp [v7,v9,val]
  .rintro e w2 ⟨rfl,hk2⟩
   refine ⟨congrArg (fun z=>Ending.returned (Value.int .i64 z)) hq,?_⟩
   exact ⟨hw.1.trans (AS.of_kept hk2 fun b hb=>by simp at hb),fun b o hne hb=>CH hk2 b o (hw.2.1 b o (fun e=>by cases e) hb),fun e=>by cases e⟩
 .have hop:o.op=.lookup 119 (.tmp 100) (.tmp 107) false:=(congrArg (fun z:Option Nat × Op × Option (Nat × Bool)=>z.2.1) (Option.some.inj hk)).symm
  have hee:edK o=[3,10]:=(Option.some.inj hdd).symm
  have v3:a1.eval (.tmp 100)=val 3:=dep 3 100 _ (by rw [hee];simp) rfl rfl
  have v10:a1.eval (.tmp 107)=val 10:=dep 10 107 _ (by rw [hee];simp) rfl rfl
  exact .inl ⟨w1,hw,by unfold execOp;rw [hop];simp [v3,v10,val,eff,hlk]⟩
 .have hop:o.op=.fieldAddr 27 (.tmp 3) 1:=(congrArg (fun z:Option Nat × Op × Option (Nat × Bool)=>z.2.1) (Option.some.inj hk)).symm
  have hee:edK o=[]:=(Option.some.inj hdd).symm
  exact .inl ⟨w1,hw,by unfold execOp;rw [hop];simp [e3',val,eff,BQ (w:=w1) (b:=bx) (f:=1) (j:=1) (t:=27) (by kernel_rfl)]⟩
 .have hop:o.op=.load 3 (.tmp 109):=(congrArg (fun z:Option Nat × Op × Option (Nat × Bool)=>z.2.1) (Option.some.inj hk)).symm
  have hee:edK o=[12]:=(Option.some.inj hdd).symm
  have v12:a1.eval (.tmp 109)=val 12:=dep 12 109 _ (by rw [hee];simp) rfl rfl
  exact .inl ⟨w1,hw,by unfold execOp;rw [hop];simp [v12,val,eff,C0 (t:=3) hbx1 (j:=1) (v:=.val (.int .i64 e1)) (by kernel_rfl) (fun z hz=>hz)]⟩
 .have hop:o.op=.fieldAddr 27 (.tmp 3) 5:=(congrArg (fun z:Option Nat × Op × Option (Nat × Bool)=>z.2.1) (Option.some.inj hk)).symm
  have hee:edK o=[]:=(Option.some.inj hdd).symm
  exact .inl ⟨w1,hw,by unfold execOp;rw [hop];simp [e3',val,eff,BQ (w:=w1) (b:=bx) (f:=5) (j:=5) (t:=27) (by kernel_rfl)]⟩
 .have hop:o.op=.load 4 (.tmp 111):=(congrArg (fun z:Option Nat × Op × Option (Nat × Bool)=>z.2.1) (Option.some.inj hk)).symm
  have hee:edK o=[14]:=(Option.some.inj hdd).symm
  have v14:a1.eval (.tmp 111)=val 14:=dep 14 111 _ (by rw [hee];simp) rfl rfl
  exact .inl ⟨w1,hw,by unfold execOp;rw [hop];simp [v14,val,eff,C0 (t:=4) hbx1 (j:=5) (v:=.val (.bool e5)) (by kernel_rfl) (fun z hz=>hz)]⟩
 .have hop:o.op=.build 134 #[(0,.tmp 110),(2,.tmp 112)]:=(congrArg (fun z:Option Nat × Op × Option (Nat × Bool)=>z.2.1) (Option.some.inj hk)).symm
  have hee:edK o=[13,15]:=(Option.some.inj hdd).symm
  have v13:a1.eval (.tmp 110)=val 13:=dep 13 110 _ (by rw [hee];simp) rfl rfl
  have v15:a1.eval (.tmp 112)=val 15:=dep 15 112 _ (by rw [hee];simp) rfl rfl
  exact .inl ⟨w1,hw,by unfold execOp;rw [hop];simp [v13,v15,val,eff,Lv w1 e1 e5]⟩
 .have hop:o.op=.nilCheck (.tmp 108):=(congrArg (fun z:Option Nat × Op × Option (Nat × Bool)=>z.2.1) (Option.some.inj hk)).symm
  have hee:edK o=[11,0,1,2,3,4,5,6,7,8,9,10,11,12,13,14,15,16]:=(Option.some.inj hdd).symm
  have v11:a1.eval (.tmp 108)=val 11:=dep 11 108 _ (by rw [hee];simp) rfl rfl
  exact .inl ⟨w1,hw,by unfold execOp;rw [hop];simp [v11,val,eff]⟩
 .have hop:o.op=.store 134 (.tmp 114) (.tmp 113):=(congrArg (fun z:Option Nat × Op × Option (Nat × Bool)=>z.2.1) (Option.some.inj hk)).symm
  have hee:edK o=[17,16,10,0,1,2,3,4,5,6,7,8,9,10,11,12,13,14,15,16]:=(Option.some.inj hdd).symm
  have v17:a1.eval (.tmp 114)=val 17:=dep 17 114 _ (by rw [hee];simp) rfl rfl
  have v16:a1.eval (.tmp 113)=val 16:=dep 16 113 _ (by rw [hee];simp) rfl rfl
  have:=hpe 1 rfl
  subst this
  obtain ⟨w2,hr,hb2,hk2,hn2⟩:=Rh (K:=K) (hcb1 rfl) e1 0 e5
  refine .inr (.inl ⟨(congrArg (fun z:Option Nat × Op × Option (Nat × Bool)=>z.1) (Option.some.inj hk)).symm,w2,⟨hw.1.trans (hn2 hok),fun b o hne hb=>hk2 b (hne rfl) o (hw.2.1 b o (fun e=>by cases e) hb),fun _=>hb2⟩,?_⟩)
  unfold execOp;rw [hop];simp [v17,v16,val,hr]
/-! ### helpers: do,the whole -/
theorem c84z_eq:∃ t p a,c84z=.region 28 #[⟨some 4,.assign (.const (.int .i64 0)),t,p,a,none⟩] false:=⟨_,_,_,rfl⟩
def Ln(K:Kst)(st:Stt)(i j q:Nat)(e0 e1:Int)(e5:Bool):Stt :=
 if e0=0 then upT st i (TJ (st.th i) q e1 e5) else if e0=1 then upT st i (Oh (st.th i)) else if e0=2 then upT st i (GK K st i j) else if e0=3 then upT st i (Rm (st.th i)) else if e0=4 then upT st i (anT (st.th i) e5) else st
def doT(K:Kst)(st:Stt)(e0 e1:Int)(e2 e3 e4:BA)(e5:Bool):Stt :=
 match m84p (AY K st) e0 e1 e2 e3 e4 e5 with
 | some _=>st
 | none=>Ln K (Qa st e1) (m61rz (AY K st) e2).snd.fst (m61rz (AY K st) e4).snd.fst (m49 K.n K.di K.r K.dr e3).toNat e0 e1 e5
def LF(K:Kst)(st:Stt)(e0 e1:Int)(e2 e3 e4:BA)(e5:Bool):Int:=(m84p (AY K st) e0 e1 e2 e3 e4 e5).getD 0
structure Ih (K:Kst) (st:Stt) (e0 e1:Int) (e2 e3 e4:BA) (e5:Bool):Prop where
 n:n84p (AY K st) e0 e1 e2 e3 e4 e5=true
 it:m84p (AY K st) e0 e1 e2 e3 e4 e5=none->∃ i,i<K.n/\m61rz (AY K st) e2=(true,i,thD K st i) /\
  (e0=0->n49 K.n K.di K.r K.dr e3=true/\∃ q:Nat,m49 K.n K.di K.r K.dr e3=(q:Int)/\K.dom i q=true) /\
  (e0=2->∃ j,j<K.n/\i≠j/\m61rz (AY K st) e4=(true,j,thD K st j)/\(st.th j).pr<nB)/\(e0=4->(st.th i).pr<1000000)
theorem RE{L:Lay}{K:Kst}{st:Stt}{w:World}(hL:L.T=T7)(h:Ao L K st w)(hS:EA K L w)(hn:K.n<=1000000){e0 e1:Int}{e2 e3 e4:BA}{e5:Bool}(hd:Ih K st e0 e1 e2 e3 e4 e5) :
  Calls Tryz.prog 84 ⟨[.pointer (some ⟨L.at_ .shop,0,none⟩),.agg (evC e0 e1 e2 e3 e4 e5)]⟩ w fun e w'=>∃ ys,e=.returned (Nv ys)/\ys=[.int .i64 (LF K st e0 e1 e2 e3 e4 e5)]/\Ao L K (doT K st e0 e1 e2 e3 e4 e5) w'/\AS L K w w':=by
 refine Ef (fn:=Tryz.f84) (c:=c84) Tryz.func84 rfl [4] rfl (xs:=[.pointer (some ⟨L.at_ .shop,0,none⟩),.agg (evC e0 e1 e2 e3 e4 e5)]) (show 2<=Tryz.f84.ntmps by decide) (Q:=fun ys w'=>ys=[.int .i64 (LF K st e0 e1 e2 e3 e4 e5)]/\Ao L K (doT K st e0 e1 e2 e3 e4 e5) w'/\AS L K w w') fun a hsz hdf hargs=>?_
 rw [c84_eq]
 have hSs:BB K L.xI L.xR (Bn w (Dm L K h.inj)):=BB.mono (fun _ _ _ hv=>hv) hS.w
 have hs0:Ab w.heap.size [] ⟨w,⟨fun _=>none,Bn w (Dm L K h.inj),gl0 _⟩,0,fun _=>none,some []⟩ ⟨fun _=>none,Bn w (Dm L K h.inj),gl0 _⟩ (Aq 0 151 [0,1] [.rz true K.n shZ (AY K st),.agg [.int .i64 e0,.int .i64 e1,.str e2,.str e3,.str e4,.bool e5]] 0 []) a w:=by
  refine Ab.start hsz hdf (fun d e=>by cases e;rfl) (h.mem _) (fun _ _=>rfl) (fun _=>rfl) (fun p t v h1 h2=>?_) (fun v hv t pol u e=>?_)
  .match p,h1,h2 with
   | 0,h1,h2=>cases h1;cases h2;exact .inl ⟨rfl,_,hargs 0 _ rfl,Nf (inj:=h.inj),Kj (nm:=fun _=>none) h h.seen hSs fun i hi=>GT (inj:=h.inj) hi⟩
   | 1,h1,h2=>cases h1;cases h2;exact ⟨_,hargs 1 _ rfl,rfl,rfl,rfl,rfl,rfl,rfl,trivial⟩
  .simp at hv;rcases hv with rfl | rfl <;> cases e
 refine Mc (B8 k105rz (B8 k61rz (B8 k106 AM))) A6 (R:=fun e v b=>(e=.ret/\∃ err,m84p (AY K st) e0 e1 e2 e3 e4 e5=some err/\v=[.int .i64 err]) \/
   (e=.normal/\m84p (AY K st) e0 e1 e2 e3 e4 e5=none/\v=[.rz true K.n shZ (AY K st),.ptr 0 0,.rz ((m61rz (AY K st) e2).fst) ((m61rz (AY K st) e2).snd.fst) shT ((m61rz (AY K st) e2).snd.snd),.rz ((m61rz (AY K st) e4).fst) ((m61rz (AY K st) e4).snd.fst) shT ((m61rz (AY K st) e4).snd.snd)]/\b=[.cells 27 [.int .i64 e0,.int .i64 e1,.str e2,.str e3,.str e4,.bool e5]]))
  [c84a,c84b,c84c,c84d] (by simp) (w84p K.n (AY K st) e0 e1 e2 e3 e4 e5 hd.n (fun err herr=>.inl ⟨rfl,err,herr,rfl⟩) fun hno=>.inr ⟨rfl,hno,rfl,rfl⟩) (fun x hx=>.inr (by simp at hx;rcases hx with rfl | rfl | rfl | rfl <;> kernel_rfl)) hs0 ?_ ?_
 rotate_left
 .rintro e vs bs O1 a1 w1 hne hR h1
  rcases hR with ⟨rfl,err,herr,rfl⟩ | ⟨he,_⟩
  .have hk1:AR w.heap.size [] w w1:=h1.kept
   have e4':a1.eval (.tmp 4)=.int .i64 err:=AF h1.tmDen (Az.nil a1) (.tmp 4)
   refine ⟨.inl rfl,h1.defs.same_ [] rfl,?_,?_,AS.of_kept hk1 fun b hb=>by simp at hb⟩
   .simp [e4',LF,herr]
   .rw [doT,herr];exact h.keep (CH hk1)
  .exact absurd he hne
 rintro vs bs O1 a1 w1 hR h1
 rcases hR with ⟨he,_⟩ | ⟨_,hno,rfl,rfl⟩
 .cases he
 have hk1:AR w.heap.size [] w w1:=h1.kept
 have hp1:O1.od.p=Dm L K h.inj:=h1.odb.p
 obtain ⟨i,hi,h6,hA,hC,hE⟩:=hd.it hno
 have e0':a1.eval (.tmp 0)=.pointer (some ⟨L.at_ .shop,0,none⟩):=Sj hp1 (AF h1.tmDen (Az.nil a1) (.tmp 0):(SV.rz true K.n shZ (AY K st)).den O1 _)
 have e6:a1.eval (.tmp 6)=.pointer (some ⟨L.at_ (.th i),0,none⟩):=by
  have:=(AF h1.tmDen (Az.nil a1) (.tmp 6):(SV.rz ((m61rz (AY K st) e2).fst) ((m61rz (AY K st) e2).snd.fst) shT ((m61rz (AY K st) e2).snd.snd)).den O1 _)
  rw [h6] at this
  exact Mo hi hp1 this
 have e7:∀ j,j<K.n->m61rz (AY K st) e4=(true,j,thD K st j)->a1.eval (.tmp 7)=.pointer (some ⟨L.at_ (.th j),0,none⟩):=fun j hj hm=>by
  have:=(AF h1.tmDen (Az.nil a1) (.tmp 7):(SV.rz ((m61rz (AY K st) e4).fst) ((m61rz (AY K st) e4).snd.fst) shT ((m61rz (AY K st) e4).snd.snd)).den O1 _)
  rw [hm] at this
  exact Mo hj hp1 this
 obtain ⟨m,hm,e3'⟩:∃ m,O1 0=some m/\a1.eval (.tmp 3)=.pointer (some ⟨m.blk,m.off+0,none⟩):=AF h1.tmDen (Az.nil a1) (.tmp 3)
 obtain ⟨_,⟨hoff,c,hc,hdc⟩,hB⟩:=h1.mem.get (i:=0) rfl hm
 rw [hoff] at e3'
 have hcc:c=evC e0 e1 e2 e3 e4 e5:=by
  apply Array.toList_inj.1
  obtain ⟨z0,l0,f0,q0,hx⟩:=A9 hdc
  obtain ⟨z1,l1,f1,q1,hx⟩:=A9 hx
  obtain ⟨z2,l2,f2,q2,hx⟩:=A9 hx
  obtain ⟨z3,l3,f3,q3,hx⟩:=A9 hx
  obtain ⟨z4,l4,f4,q4,hx⟩:=A9 hx
  obtain ⟨z5,l5,f5,q5,hx⟩:=A9 hx
  have f6:=Bb hx
  rw [f0,f1,f2,f3,f4,f5,f6]
  cases q0;cases q1;cases q2;cases q3;cases q4;cases q5;rfl
 subst hcc
 have hbx:∀ t,Tg.ok K t->L.at_ t≠m.blk:=fun t ht e=>by
  obtain ⟨o,g1,_⟩:=h.at_ t ht
  have:=(Array.getElem?_eq_some_iff.1 g1).1
  rcases hB with hB | hB
  .omega
  .simp at hB
 have hsh1:=h.keep (CH hk1)
 have ho1:AS L K w w1:=AS.of_kept hk1 fun b hb=>by simp at hb
 have hS1:=hS.only ho1
 have hz1:a1.tmps.size=151:=h1.size
 have hf1:a1.defers=[]:=h1.defs.same_ [] rfl
 clear hs0 h1 hk1 hp1 hdc
 generalize m.blk=bx at *
 refine T4 hL hsh1 hz1 hf1 e0' e3' hc hbx fun a2 w2 hz2 hf2 y0 y3 y6 y7 y94 hsh2 ho2 hbx2=>?_
 have ho2':=ho1.trans ho2
 have hS2:=hS1.only ho2
 have hat:F3 L K (Qa st e1) bx e0 e1 e2 e3 e4 e5 (.pointer (some ⟨L.at_ (.th i),0,none⟩)) (a2.eval (.tmp 7)) a2 w2:=⟨hz2,hf2,y0.trans e0',y3.trans e3',y6.trans e6,rfl,y94,hsh2,hbx2.trans hc⟩
 have e7':∀ j,j<K.n->m61rz (AY K st) e4=(true,j,thD K st j)->a2.eval (.tmp 7)=.pointer (some ⟨L.at_ (.th j),0,none⟩):=fun j hj hm=>y7.trans (e7 j hj hm)
 clear hsh1 hsh2 ho1 ho2 hz1 hz2 hf1 hf2 y0 y3 y6 y7 y94 e0' e6 e7 e3' hc hbx2
 have hdo:doT K st e0 e1 e2 e3 e4 e5=Ln K (Qa st e1) i (m61rz (AY K st) e4).snd.fst (m49 K.n K.di K.r K.dr e3).toNat e0 e1 e5:=by rw [doT,hno,h6]
 have herr:LF K st e0 e1 e2 e3 e4 e5=0:=by rw [LF,hno];rfl
 refine wpIn_block ?_
 have fin:∀ a' w',a'.defers=[]->a'.tmps.size=151->Ao L K (doT K st e0 e1 e2 e3 e4 e5) w'->AS L K w w' ->
   Exit.inBlock 1 (Exit.then (Code.wpIn (FW none) 0 Tryz.prog (.seq c84z .ret) (fun e a' w'=>(e=.ret\/e=.normal)/\a'.defers=[]/\(([4]:List Nat).map fun t=>a'.eval (.tmp t))=[.int .i64 (LF K st e0 e1 e2 e3 e4 e5)]/\Ao L K (doT K st e0 e1 e2 e3 e4 e5) w'/\AS L K w w')) (fun e a' w'=>(e=.ret\/e=.normal)/\a'.defers=[]/\(([4]:List Nat).map fun t=>a'.eval (.tmp t))=[.int .i64 (LF K st e0 e1 e2 e3 e4 e5)]/\Ao L K (doT K st e0 e1 e2 e3 e4 e5) w'/\AS L K w w')) .normal a' w':=fun a' w' hdf hsz hsh ho=>by
  show Code.wpIn (FW none) 0 Tryz.prog (.seq c84z .ret) _ a' w'
  obtain ⟨t1,p1,b1,hR⟩:=c84z_eq
  rw [hR]
  refine wpIn_seq (wpIn_region_list ?_)
  refine Ai rfl (x:=.int .i64 0) (w':=w') (by simp [execOp,Act.eval]) ?_
  refine wpIn_ret ⟨.inl rfl,by simp only [B0];exact hdf,?_,hsh,ho⟩
  simp [herr,Aa (show 4<a'.tmps.size by omega)]
 rw [c84x_eq]
 refine wpIn_seq (Ek (s:=95) (q:=0) (by kernel_rfl) z84a (fun _ _ _ _ _ _=>rfl) hat ho2' fun a3 w3 hat3 ho3 es=>?_)
 refine wpIn_cond es ?_
 by_cases h0:e0=0
 .rw [decide_eq_true h0]
  obtain ⟨hn102,q,hq,hdom⟩:=hA h0
  refine Ud hL hi hat3 (hS.only ho3) hbx ho3 hn102 hq hdom fun a' w' hdf hsz hsh ho=>fin a' w' hdf hsz ?_ ho
  rw [hdo,Ln,if_pos h0,hq]
  exact hsh
 rw [decide_eq_false h0]
 refine wpIn_seq (Ek (s:=115) (q:=1) (by kernel_rfl) z84b (fun _ _ _ _ _ _=>rfl) hat3 ho3 fun a4 w4 hat4 ho4 es=>?_)
 refine wpIn_cond es ?_
 by_cases h1:e0=1
 .rw [decide_eq_true h1]
  refine Ue hL hi hat4 ho4 fun a' w' hdf hsz hsh ho=>fin a' w' hdf hsz ?_ ho
  rw [hdo,Ln,if_neg h0,if_pos h1]
  exact hsh
 rw [decide_eq_false h1]
 refine wpIn_seq (Ek (s:=133) (q:=2) (by kernel_rfl) z84c (fun _ _ _ _ _ _=>rfl) hat4 ho4 fun a5 w5 hat5 ho5 es=>?_)
 refine wpIn_cond es ?_
 by_cases h2:e0=2
 .rw [decide_eq_true h2]
  obtain ⟨j,hj,hij,h7,hpr⟩:=hC h2
  rw [e7' j hj h7] at hat5
  refine Uf hL hi hj hij hn hat5 (hS.only ho5).w ho5 hpr fun a' w' hdf hsz hsh ho=>fin a' w' hdf hsz ?_ ho
  rw [hdo,Ln,if_neg h0,if_neg h1,if_pos h2,h7]
  exact hsh
 rw [decide_eq_false h2]
 refine wpIn_seq (Ek (s:=139) (q:=3) (by kernel_rfl) z84d (fun _ _ _ _ _ _=>rfl) hat5 ho5 fun a6 w6 hat6 ho6 es=>?_)
 refine wpIn_cond es ?_
 by_cases h3:e0=3
 .rw [decide_eq_true h3]
  refine Ug hL hi hat6 ho6 fun a' w' hdf hsz hsh ho=>fin a' w' hdf hsz ?_ ho
  rw [hdo,Ln,if_neg h0,if_neg h1,if_neg h2,if_pos h3]
  exact hsh
 rw [decide_eq_false h3]
 refine wpIn_seq (Ek (s:=145) (q:=4) (by kernel_rfl) z84e (fun _ _ _ _ _ _=>rfl) hat6 ho6 fun a7 w7 hat7 ho7 es=>?_)
 refine wpIn_cond es ?_
 by_cases h4:e0=4
 .rw [decide_eq_true h4]
  refine Uh hL hi hat7 ho7 (hE h4) fun a' w' hdf hsz hsh ho=>fin a' w' hdf hsz ?_ ho
  rw [hdo,Ln,if_neg h0,if_neg h1,if_neg h2,if_neg h3,if_pos h4]
  exact hsh
 rw [decide_eq_false h4]
 refine wpIn_skip (fin _ _ hat7.df hat7.sz ?_ ho7)
 rw [hdo,Ln,if_neg h0,if_neg h1,if_neg h2,if_neg h3,if_neg h4]
 exact hat7.shop
/-! ### helpers: single operations -/
section ops
variable {a:Act} {w:World} {o:Oper}
theorem NY{O:Env}:∀ {l:List Value} {xs:List Value},SV.denL O (l.map .val) xs->xs=l
 | [],xs,h=>Bb h
 | v :: l,xs,h=>by
  obtain ⟨x,ys,rfl,h0,h1⟩:=A9 h
  have h0:x=v:=h0
  rw [h0,NY h1]
theorem R.field{t:TypeId}{s f j b:Nat}(ho:o.op=.fieldAddr t (.tmp s) f)(e:a.eval (.tmp s)=.pointer (some ⟨b,0,none⟩))(hx:DS Tryz.prog t (.ptr 0 0) f=some { v:=.ptr 0 j }) :
  (execOp a.eval o).run Tryz.prog w=.ok (.value (.pointer (some ⟨b,j,none⟩))) w:=by unfold execOp;rw [ho];simp [e,BQ (w:=w) (b:=b) hx]
theorem R.load{t e:TypeId}{s b j:Nat}{c:Array Value}{v:SV}{y:Value}(ho:o.op=.load t (.tmp s))(ev:a.eval (.tmp s)=.pointer (some ⟨b,j,none⟩))(hb:w.heap[b]? = some (.cells c e (0,0)))(hx:HW Tryz.prog (Ah [.cells e (c.toList.map .val)]) t (.ptr 0 j)=some { v:=v })(hv:∀ z,v.den (nm1 b CN) z->z=y):(execOp a.eval o).run Tryz.prog w=.ok (.value y) w:=by
 unfold execOp;rw [ho];simp [ev,C0 hb hx hv]
theorem R.loadV{t e:TypeId}{s b j:Nat}{c:Array Value}{y:Value}(ho:o.op=.load t (.tmp s))(ev:a.eval (.tmp s)=.pointer (some ⟨b,j,none⟩))(hb:w.heap[b]? = some (.cells c e (0,0)))(hx:HW Tryz.prog (Ah [.cells e (c.toList.map .val)]) t (.ptr 0 j)=some { v:=.val y }):(execOp a.eval o).run Tryz.prog w=.ok (.value y) w:=R.load ho ev hb hx fun z hz=>hz
theorem R.loadA{t e:TypeId}{s b j:Nat}{c:Array Value}{l:List Value}(ho:o.op=.load t (.tmp s))(ev:a.eval (.tmp s)=.pointer (some ⟨b,j,none⟩))(hb:w.heap[b]? = some (.cells c e (0,0)))(hx:HW Tryz.prog (Ah [.cells e (c.toList.map .val)]) t (.ptr 0 j)=some { v:=.agg (l.map .val) }):(execOp a.eval o).run Tryz.prog w=.ok (.value (.agg ⟨l⟩)) w :=
 R.load ho ev hb hx fun z hz=>by
  obtain ⟨xs,rfl,h⟩:=hz
  rw [NY h]
theorem R.build{t:TypeId}{parts:Array (Nat × Operand)}{xs:Array (Nat × Value)}{y:Value}(ho:o.op=.build t parts)(hp:(parts.map fun p=>(p.1,a.eval p.2))=xs)(hb:(Instr.build t xs).run Tryz.prog w=.ok y w):(execOp a.eval o).run Tryz.prog w=.ok (.value y) w:=by
 unfold execOp;rw [ho]
 have:(parts.map fun (i,x)=>(i,a.eval x))=xs:=hp
 simp [this,hb]
theorem Kl{t e:TypeId}{b j n:Nat}{c:Array Value}{y:Value}(hc:w.heap[b]? = some (.cells c e (0,0)))(hsz:Ch Tryz.prog t=some n)(hl:y.cells.toList.length=n)(ho:j+n<=c.size)(h1:∀ v∈y.cells.toList,v.oneCell'=true) :
  ∃ w',(Instr.storeAt t (.pointer (some ⟨b,j,none⟩)) y).run Tryz.prog w=.ok () w'/\w'.heap[b]? = some (.cells ⟨Di c.toList j y.cells.toList⟩ e (0,0))/\(∀ k,k≠b->w'.heap[k]? = w.heap[k]?)/\w'.heap.size=w.heap.size/\w'.os=w.os/\w'.tape=w.tape/\w'.output=w.output :=
 ⟨_,BW (P:=Tryz.prog) (m:=⟨b,0,0⟩) hc hsz hl ho h1,Bi b y.cells.toList j w c e (0,0) hc (by rw [hl];exact ho)⟩
theorem R.store{t:TypeId}{s u:Nat}{x y:Value}{w':World}(ho:o.op=.store t (.tmp s) (.tmp u))(e1:a.eval (.tmp s)=x)(e2:a.eval (.tmp u)=y)(hr:(Instr.storeAt t x y).run Tryz.prog w=.ok () w'):(execOp a.eval o).run Tryz.prog w=.ok .skip w':=by
 unfold execOp;rw [ho];simp [e1,e2,hr]
theorem Ho{t e:TypeId}{n:Nat}{c:Array Value}{y:Value}(hsz:Ch Tryz.prog t=some n)(hl:y.cells.toList.length=n)(ho:c.size=n)(h1:∀ v∈y.cells.toList,v.oneCell'=true){w1:World}(hw:w1=w.alloc (.cells c e (0,0))) :
  ∃ w',(Instr.storeAt t (.pointer (some ⟨w.heap.size,0,none⟩)) y).run Tryz.prog w1=.ok () w'/\w'.heap[w.heap.size]? = some (.cells y.cells e (0,0))/\BY w w'/\w'.heap.size=w.heap.size+1:=by
 subst hw
 obtain ⟨w',hr,hb,hk,hs,g1,g2,g3⟩:=Kl (w:=w.alloc (.cells c e (0,0))) (b:=w.heap.size) (j:=0) (c:=c) (e:=e) (t:=t) (y:=y) (heap_alloc_new w _) hsz hl (by omega) h1
 refine ⟨w',hr,?_,⟨g1,g2,g3,by rw [hs];simp,fun k hk' _=>(hk k (by omega)).trans (Below.heap_alloc w _ k hk')⟩,by rw [hs];simp⟩
 rw [hb]
 have:Di c.toList 0 y.cells.toList=y.cells.toList:=by
  unfold Di
  have hc:c.toList.length=n:=by simpa using ho
  rw [hl,List.take_zero,List.nil_append,List.drop_of_length_le (by omega),List.append_nil]
 rw [this]
theorem R.append{t:TypeId}{s u:Nat}{x y z:Value}{w':World}(ho:o.op=.call { callee:=.builtin .append,args:=#[.tmp s,.tmp u],argTypes:=#[t,t] })(e1:a.eval (.tmp s)=x)(e2:a.eval (.tmp u)=y)(hr:(Builtin.append_ #[t,t] o.type #[x,y]).run Tryz.prog w=.ok z w'):(execOp a.eval o).run Tryz.prog w=.ok (.value z) w':=by
 unfold execOp;rw [ho];simp [resolve,invoke,builtin,e1,e2,hr]
theorem KN{s1 s2:Operand}{x y:Int}(ho:o.op=.binOp .lss 3 s1 s2 3)(e1:a.eval s1=.int .i64 x)(e2:a.eval s2=.int .i64 y):(execOp a.eval o).run Tryz.prog w=.ok (.value (.bool (decide (x<y)))) w :=
 R.bin (v1:=.int .i64 x) (v2:=.int .i64 y) (r:=.bool (decide (x<y))) ho (by kernel_rfl) e1 e2 fun z hz=>hz
theorem RM{s1 s2:Operand}{x y:Int}(ho:o.op=.binOp .eql 3 s1 s2 3)(e1:a.eval s1=.int .i64 x)(e2:a.eval s2=.int .i64 y):(execOp a.eval o).run Tryz.prog w=.ok (.value (.bool (decide (x=y)))) w :=
 R.bin (v1:=.int .i64 x) (v2:=.int .i64 y) (r:=.bool (decide (x=y))) ho (by kernel_rfl) e1 e2 fun z hz=>hz
theorem Ku{s1 s2:Operand}{x y:Int}(ho:o.op=.binOp .add 3 s1 s2 3)(e1:a.eval s1=.int .i64 x)(e2:a.eval s2=.int .i64 y):(execOp a.eval o).run Tryz.prog w=.ok (.value (.int .i64 (IntKind.i64.wrap (x+y)))) w :=
 R.bin (v1:=.int .i64 x) (v2:=.int .i64 y) (r:=.int .i64 (IntKind.i64.wrap (x+y))) ho (by kernel_rfl) e1 e2 fun z hz=>hz
abbrev shI:List Kd:=[.str,.int .i64,.int .i64]
abbrev shR:List Kd:=[.str,.int .i64,.int .i64,.int .i64]
theorem P8{od:Od}(hs:Bj od w){n:Nat}{D:Dat}{x:Value}(hx:(SV.ro shI n D).den ⟨fun _=>none,od,gl0 _⟩ x){m:Nat}(hm:m<n) :
  ∃ p,(Instr.indexAt 22 x (.int .i64 (m:Int))).run Tryz.prog w=.ok p w/\(Instr.loadAt 75 p).run Tryz.prog w=.ok (.agg #[.string (D.ss m 0),.int .i64 (D.ii m 1),.int .i64 (D.ii m 2)]) w:=by
 obtain ⟨p,hr,hp⟩:=CK (P:=Tryz.prog) (w:=w) (pix:=false) (t:=22) (p:=.ro shI n D) (ix:=.int .i64 (m:Int)) (r:={ v:=.rp shI D (m:Int).toNat 0,need:=[decide (0<=(m:Int)/\(m:Int)<(n:Int))] }) (by kernel_rfl) (fun b hb=>by simp at hb;rw [hb];simp;omega) hx rfl 0
 have hM:Ak w.heap.size [] ⟨fun _=>none,od,gl0 _⟩ (Ah []) w:=⟨fun i hi=>by simp [Ah,Blk.isUnk] at hi,fun i j m m' _ hi=>by simp [Ah,Blk.isUnk] at hi,hs,fun i m hi=>by simp [Ah,Blk.isUnk] at hi,pv0 _⟩
 obtain ⟨y,hr2,hp2⟩:=Dx (P:=Tryz.prog) hM (t:=75) (p:=.rp shI D (m:Int).toNat 0) (r:={ v:=.agg [.str (D.ss (m:Int).toNat 0),.int .i64 (D.ii (m:Int).toNat 1),.int .i64 (D.ii (m:Int).toNat 2)] }) (by kernel_rfl) (fun b hb=>by simp at hb) hp.val 0
 refine ⟨p,hr,?_⟩
 obtain ⟨xs,rfl,h⟩:(SV.agg [.str (D.ss (m:Int).toNat 0),.int .i64 (D.ii (m:Int).toNat 1),.int .i64 (D.ii (m:Int).toNat 2)]).den ⟨fun _=>none,od,gl0 _⟩ y:=hp2.val
 obtain ⟨z0,l0,rfl,h0,h⟩:=A9 h
 obtain ⟨z1,l1,rfl,h1,h⟩:=A9 h
 obtain ⟨z2,l2,rfl,h2,h⟩:=A9 h
 have:=Bb h
 subst this
 cases h0;cases h1;cases h2
 rw [hr2]
 simp
theorem Pw{od:Od}(hs:Bj od w){n:Nat}{D:Dat}{x:Value}(hx:(SV.ro shR n D).den ⟨fun _=>none,od,gl0 _⟩ x){m:Nat}(hm:m<n) :
  ∃ p,(Instr.indexAt 23 x (.int .i64 (m:Int))).run Tryz.prog w=.ok p w/\(Instr.loadAt 77 p).run Tryz.prog w=.ok (.agg #[.string (D.ss m 0),.int .i64 (D.ii m 1),.int .i64 (D.ii m 2),.int .i64 (D.ii m 3)]) w:=by
 obtain ⟨p,hr,hp⟩:=CK (P:=Tryz.prog) (w:=w) (pix:=false) (t:=23) (p:=.ro shR n D) (ix:=.int .i64 (m:Int)) (r:={ v:=.rp shR D (m:Int).toNat 0,need:=[decide (0<=(m:Int)/\(m:Int)<(n:Int))] }) (by kernel_rfl) (fun b hb=>by simp at hb;rw [hb];simp;omega) hx rfl 0
 have hM:Ak w.heap.size [] ⟨fun _=>none,od,gl0 _⟩ (Ah []) w:=⟨fun i hi=>by simp [Ah,Blk.isUnk] at hi,fun i j m m' _ hi=>by simp [Ah,Blk.isUnk] at hi,hs,fun i m hi=>by simp [Ah,Blk.isUnk] at hi,pv0 _⟩
 obtain ⟨y,hr2,hp2⟩:=Dx (P:=Tryz.prog) hM (t:=77) (p:=.rp shR D (m:Int).toNat 0) (r:={ v:=.agg [.str (D.ss (m:Int).toNat 0),.int .i64 (D.ii (m:Int).toNat 1),.int .i64 (D.ii (m:Int).toNat 2),.int .i64 (D.ii (m:Int).toNat 3)] }) (by kernel_rfl) (fun b hb=>by simp at hb) hp.val 0
 refine ⟨p,hr,?_⟩
 obtain ⟨xs,rfl,h⟩:(SV.agg [.str (D.ss (m:Int).toNat 0),.int .i64 (D.ii (m:Int).toNat 1),.int .i64 (D.ii (m:Int).toNat 2),.int .i64 (D.ii (m:Int).toNat 3)]).den ⟨fun _=>none,od,gl0 _⟩ y:=hp2.val
 obtain ⟨z0,l0,rfl,h0,h⟩:=A9 h
 obtain ⟨z1,l1,rfl,h1,h⟩:=A9 h
 obtain ⟨z2,l2,rfl,h2,h⟩:=A9 h
 obtain ⟨z3,l3,rfl,h3,h⟩:=A9 h
 have:=Bb h
 subst this
 cases h0;cases h1;cases h2;cases h3
 rw [hr2]
 simp
theorem Q2(xI xR:Value):(Instr.build 129 #[(0,.agg #[xI,xR])]).run Tryz.prog w=.ok (.agg #[xI,xR,.slice none 0 0,.int .i64 0]) w:=by
 obtain ⟨y,hr,h⟩:=ER (P:=Tryz.prog) (w:=w) (O:=⟨fun _=>none,CN,gl0 _⟩) (t:=129) (ps:=[(0,.agg [.val xI,.val xR])]) (r:={ v:=.agg [.val xI,.val xR,.nsl,.int .i64 0] }) (by kernel_rfl) (xs:=#[(0,.agg #[xI,xR])]) ⟨rfl,⟨_,rfl,rfl,rfl,trivial⟩,trivial⟩ 0
 obtain ⟨zs,rfl,hz⟩:(SV.agg [.val xI,.val xR,.nsl,.int .i64 0]).den ⟨fun _=>none,CN,gl0 _⟩ y:=h.val
 obtain ⟨z0,l0,rfl,h0,hz⟩:=A9 hz
 obtain ⟨z1,l1,rfl,h1,hz⟩:=A9 hz
 obtain ⟨z2,l2,rfl,h2,hz⟩:=A9 hz
 obtain ⟨z3,l3,rfl,h3,hz⟩:=A9 hz
 have:=Bb hz
 subst this
 cases h0;cases h1;cases h2;cases h3
 exact hr
theorem Q3(s:BA)(k b:Int)(m1 m2 m3 m4:Option Nat):(Instr.build 123 #[(0,.agg #[.string s,.int .i64 k,.int .i64 b]),(1,.map m1),(2,.map m2),(3,.map m3),(6,.map m4)]).run Tryz.prog w=.ok (.agg #[.string s,.int .i64 k,.int .i64 b,.map m1,.map m2,.map m3,.int .i64 0,.bool false,.map m4]) w:=by
 obtain ⟨y,hr,h⟩:=ER (P:=Tryz.prog) (w:=w) (O:=⟨fun _=>none,CN,gl0 _⟩) (t:=123) (ps:=[(0,.agg [.val (.string s),.val (.int .i64 k),.val (.int .i64 b)]),(1,.val (.map m1)),(2,.val (.map m2)),(3,.val (.map m3)),(6,.val (.map m4))])
  (r:={ v:=.agg [.val (.string s),.val (.int .i64 k),.val (.int .i64 b),.val (.map m1),.val (.map m2),.val (.map m3),.int .i64 0,.bool false,.val (.map m4)] }) (by kernel_rfl) (xs:=#[(0,.agg #[.string s,.int .i64 k,.int .i64 b]),(1,.map m1),(2,.map m2),(3,.map m3),(6,.map m4)]) ⟨rfl,⟨_,rfl,rfl,rfl,rfl,trivial⟩,rfl,rfl,rfl,rfl,rfl,rfl,rfl,rfl,trivial⟩ 0
 obtain ⟨zs,rfl,hz⟩:(SV.agg [.val (.string s),.val (.int .i64 k),.val (.int .i64 b),.val (.map m1),.val (.map m2),.val (.map m3),.int .i64 0,.bool false,.val (.map m4)]).den ⟨fun _=>none,CN,gl0 _⟩ y:=h.val
 obtain ⟨z0,l0,rfl,h0,hz⟩:=A9 hz
 obtain ⟨z1,l1,rfl,h1,hz⟩:=A9 hz
 obtain ⟨z2,l2,rfl,h2,hz⟩:=A9 hz
 obtain ⟨z3,l3,rfl,h3,hz⟩:=A9 hz
 obtain ⟨z4,l4,rfl,h4,hz⟩:=A9 hz
 obtain ⟨z5,l5,rfl,h5,hz⟩:=A9 hz
 obtain ⟨z6,l6,rfl,h6,hz⟩:=A9 hz
 obtain ⟨z7,l7,rfl,h7,hz⟩:=A9 hz
 obtain ⟨z8,l8,rfl,h8,hz⟩:=A9 hz
 have:=Bb hz
 subst this
 cases h0;cases h1;cases h2;cases h3;cases h4;cases h5;cases h6;cases h7;cases h8
 exact hr
end ops
/-! ### helpers: what begin has built -/
def Kst.upto(K:Kst)(m:Nat):Kst:={ K with n:=m }
def Kst.rul(K:Kst)(q:Nat):Kst:={ K with r:=q }
def th0(K:Kst)(i:Nat):Th:={ ck:=fun q=>if K.dom i q=true then some (K.di.ii i 2,0,true) else none,has:=fun _ _=>false,had:=fun _ _=>false,pr:=0,st:=false,bad:=fun _=>false }
def st0(K:Kst):Stt:=⟨0,th0 K⟩
theorem st0_ok(K:Kst)(m:Nat):MU (Kst.upto K m) (st0 K):=by
 refine ⟨fun i hi q=>?_,fun i hi a b h=>(by cases h),fun i hi a b h=>(by cases h)⟩
 show (if K.dom i q=true then some (K.di.ii i 2,(0:Int),true) else none).isSome=K.dom i q
 cases K.dom i q <;> rfl
def isN(m:Nat):Tg->Bool
 | .shop | .row=>false
 | .th i | .ck i | .hs i | .hd i | .bd i=>Nat.beq i m
 | .cb i _=>Nat.beq i m
def PM(K:Kst)(m q:Nat)(t:Tg):Prop:=isN m t=true/\Tg.ok { K with n:=m+1,r:=q } t
structure HY (L:Lay) (K:Kst) (m q B1 bX:Nat) (w:World):Prop where
 inj:∀ s t,PM K m q s->PM K m q t->L.at_ s=L.at_ t->s=t
 at_:∀ t,PM K m q t->∃ o,w.heap[L.at_ t]? = some o/\Has L (Kst.rul K q) (st0 K) t o
 low:∀ t,PM K m q t->B1<=L.at_ t/\L.at_ t≠bX
theorem HY.grow{L:Lay}{K:Kst}{m q B1 bX:Nat}{w w':World}(h:HY L K m q B1 bX w)(k:BY w w'):HY L K m q B1 bX w' :=
 ⟨h.inj,fun t ht=>let ⟨o,h1,h2⟩:=h.at_ t ht;⟨o,k.keep h1,h2⟩,h.low⟩
theorem F0(m:Nat):Nat.beq m m=true:=Nat.beq_refl m
def Qx(L:Lay)(m q bN:Nat):Lay:={ L with at_:=fun t=>match t with
 | .cb i r=>if i=m/\r=q then bN else L.at_ (.cb i r)
 | t=>L.at_ t }
theorem I4{K:Kst}{m q r:Nat}:(Kst.rul K (q+1)).dom m r=((Kst.rul K q).dom m r||(decide (r=q)&&decide (K.dr.ii q 1=K.di.ii m 1))):=by
 show (decide (r<q+1)&&decide (K.dr.ii r 1=K.di.ii m 1))=((decide (r<q)&&decide (K.dr.ii r 1=K.di.ii m 1))||_)
 by_cases h1:r<q
 .have h2:r<q+1:=by omega
  have h3:¬ r=q:=by omega
  simp [h1,h2,h3]
 .by_cases h3:r=q
  .subst h3;simp
  .have h2:¬ r<q+1:=by omega
   simp [h1,h2,h3]
theorem HY.skip{L:Lay}{K:Kst}{m q B1 bX:Nat}{w:World}(h:HY L K m q B1 bX w)(hne:¬ K.dr.ii q 1=K.di.ii m 1):HY L K m (q+1) B1 bX w:=by
 have hd:∀ r,(Kst.rul K (q+1)).dom m r=(Kst.rul K q).dom m r:=fun r=>by rw [I4];simp [hne]
 have hp:∀ t,PM K m (q+1) t->PM K m q t:=fun t ht=>by
  refine ⟨ht.1,?_⟩
  cases t with
  | cb i r =>
   obtain ⟨h1,h2⟩:=ht.2
   have e:i=m:=Nat.eq_of_beq_eq_true ht.1
   subst e
   exact ⟨h1,(hd r).symm.trans h2⟩
  | shop=>exact trivial
  | row=>exact ht.2
  | th i=>exact ht.2
  | ck i=>exact ht.2
  | hs i=>exact ht.2
  | hd i=>exact ht.2
  | bd i=>exact ht.2
 refine ⟨fun s t hs ht=>h.inj s t (hp s hs) (hp t ht),fun t ht=>?_,fun t ht=>h.low t (hp t ht)⟩
 obtain ⟨o,h1,h2⟩:=h.at_ t (hp t ht)
 refine ⟨o,h1,?_⟩
 cases t with
 | ck i =>
  have e:i=m:=Nat.eq_of_beq_eq_true ht.1
  subst e
  obtain ⟨es,cl,f,e1,e2,e3⟩:=h2
  refine ⟨es,cl,f,e1,e2,fun r=>?_⟩
  have:=e3 r
  rw [hd]
  exact this
 | shop=>exact h2
 | row=>exact h2
 | th i=>exact h2
 | hs i=>exact h2
 | hd i=>exact h2
 | bd i=>exact h2
 | cb i r=>exact h2
theorem HY.add{L:Lay}{K:Kst}{m q B1 bX:Nat}{w w':World}(h:HY L K m q B1 bX w)(hT:L.T=T7)(he:K.dr.ii q 1=K.di.ii m 1)(hq:q<K.r){bN:Nat}(hN:w.heap.size<=bN)(hB:B1<=bN)(hX:bX<w.heap.size)(hcb:w'.heap[bN]? = some (.cells (cbV (K.di.ii m 2,0,true)) 134 (0,0)))(hck:∀ f,B5 w (L.at_ (.ck m)) (Value.int .i64) f->B5 w' (L.at_ (.ck m)) (Value.int .i64) (fun x=>if x=(q:Int) then some (.pointer (some ⟨bN,0,none⟩)) else f x))(keep:∀ b o,b≠L.at_ (.ck m)->w.heap[b]? = some o->w'.heap[b]? = some o):HY (Qx L m q bN) K m (q+1) B1 bX w':=by
 have hp:∀ t,PM K m (q+1) t->t=.cb m q\/(PM K m q t/\t≠.cb m q):=fun t ht=>by
  cases t with
  | cb i r =>
   obtain ⟨h1,h2⟩:=ht.2
   have e:i=m:=Nat.eq_of_beq_eq_true ht.1
   subst e
   by_cases hr:r=q
   .subst hr;exact .inl rfl
   .have h2:(Kst.rul K (q+1)).dom i r=true:=h2
    rw [I4] at h2
    refine .inr ⟨⟨ht.1,h1,?_⟩,fun e=>by cases e;exact hr rfl⟩
    have:(Kst.rul K q).dom i r=true:=by simpa [hr] using h2
    exact this
  | shop=>exact .inr ⟨⟨ht.1,trivial⟩,fun e=>by cases e⟩
  | row=>exact .inr ⟨⟨ht.1,ht.2⟩,fun e=>by cases e⟩
  | th i=>exact .inr ⟨⟨ht.1,ht.2⟩,fun e=>by cases e⟩
  | ck i=>exact .inr ⟨⟨ht.1,ht.2⟩,fun e=>by cases e⟩
  | hs i=>exact .inr ⟨⟨ht.1,ht.2⟩,fun e=>by cases e⟩
  | hd i=>exact .inr ⟨⟨ht.1,ht.2⟩,fun e=>by cases e⟩
  | bd i=>exact .inr ⟨⟨ht.1,ht.2⟩,fun e=>by cases e⟩
 have at1:(Qx L m q bN).at_ (.cb m q)=bN:=by show (if m=m/\q=q then bN else _)=bN;rw [if_pos ⟨rfl,rfl⟩]
 have at2:∀ t,t≠.cb m q->(Qx L m q bN).at_ t=L.at_ t:=fun t ht=>by
  cases t with
  | cb i r =>
   show (if i=m/\r=q then bN else _)=_
   rw [if_neg (fun ⟨e1,e2⟩=>ht (by rw [e1,e2]))]
  | _=>rfl
 have lt:∀ t,PM K m q t->L.at_ t<w.heap.size:=fun t ht=>let ⟨o,h1,_⟩:=h.at_ t ht;(Array.getElem?_eq_some_iff.1 h1).1
 refine ⟨fun s t hs ht e=>?_,fun t ht=>?_,fun t ht=>?_⟩
 .rcases hp s hs with rfl | ⟨hs,s1⟩
  .rcases hp t ht with rfl | ⟨ht,t1⟩
   .rfl
   .rw [at1,at2 t t1] at e
    have:=lt t ht
    omega
  .rcases hp t ht with rfl | ⟨ht,t1⟩
   .rw [at1,at2 s s1] at e
    have:=lt s hs
    omega
   .rw [at2 s s1,at2 t t1] at e
    exact h.inj s t hs ht e
 .rcases hp t ht with rfl | ⟨ht,t1⟩
  .rw [at1]
   refine ⟨_,hcb,fun c hc=>?_⟩
   have hd:K.dom m q=true:=by simp [Kst.dom,hq,he]
   have hc:(if K.dom m q=true then some (K.di.ii m 2,(0:Int),true) else none)=some c:=hc
   rw [if_pos hd] at hc
   cases hc
   show _=Obj.cells _ L.T.cb _
   rw [hT]
   rfl
  .rw [at2 t t1]
   obtain ⟨o,h1,h2⟩:=h.at_ t ht
   by_cases hcc:t=.ck m
   .subst hcc
    obtain ⟨es,cl,f,rfl,e2,e3⟩:=h2
    obtain ⟨es',cl',g1,g2⟩:=hck f ⟨es,cl,h1,e2⟩
    refine ⟨_,g1,es',cl',_,rfl,g2,fun r=>?_⟩
    show _=if (decide (0<=r)&&(Kst.rul K (q+1)).dom m r.toNat)=true then _ else _
    by_cases hr:r=(q:Int)
    .subst hr
     rw [if_pos rfl,if_pos (by rw [I4];simp [he]),Int.toNat_natCast,at1]
    .rw [if_neg hr,e3 r,I4]
     by_cases h0:0<=r
     .have hne:¬ r.toNat=q:=by omega
      have e:(Qx L m q bN).at_ (.cb m r.toNat)=L.at_ (.cb m r.toNat):=at2 _ fun e=>by cases e;exact hne rfl
      rw [e]
      simp only [hne,decide_false,Bool.false_and,Bool.or_false]
     .simp [h0]
   .have hne:L.at_ t≠L.at_ (.ck m):=fun e=>hcc (h.inj t (.ck m) ht ⟨F0 m,Nat.lt_succ_self m⟩ e)
    refine ⟨o,keep _ o hne h1,?_⟩
    cases t with
    | th i=>exact h2
    | ck i =>
     have e:i=m:=Nat.eq_of_beq_eq_true ht.1
     subst e
     exact absurd rfl hcc
    | shop=>exact h2
    | row=>exact h2
    | hs i=>exact h2
    | hd i=>exact h2
    | bd i=>exact h2
    | cb i r=>exact h2
 .rcases hp t ht with rfl | ⟨ht,t1⟩
  .rw [at1];exact ⟨hB,by omega⟩
  .rw [at2 t t1];exact h.low t ht
/-! ### helpers: begin,a new check -/
def c83o:Array Oper:=match c83_10 with | .region _ o _=>o | _=>#[]
theorem N0:c83_10=.region 10 c83o true:=by kernel_rfl
def Fs:List (Option Nat × Op × Option (Nat × Bool)):=[(some 39,.move (.tmp 6),none),(some 40,.nilCheck (.tmp 39),none),(some 41,.fieldAddr 123 (.tmp 40) 1,none),(some 42,.load 119 (.tmp 41),none),(some 43,.move (.tmp 7),none),(some 44,.fieldAddr 75 (.tmp 5) 2,none),(some 45,.load 3 (.tmp 44),none),(some 46,.build 134 #[(0,.tmp 45),(2,.const (.bool true))],none),(some 47,.box 134 (.tmp 46),none),(none,.mapUpdate 119 (.tmp 42) (.tmp 43) (.tmp 47),none)]
def GZ:List (List Nat):=[[],[0],[1],[2],[],[],[5],[6],[7],[3,4,8,0,1,2,3,4,5,6,7,8]]
theorem c83o_ops:c83o.toList.map opK=Fs:=by kernel_rfl
theorem c83o_ed:c83o.toList.map edK=GZ:=by kernel_rfl
theorem M4:∀ (j:Nat) (l:List Nat),GZ[j]? = some l->∀ q∈l,q<j:=by
 intro j l h q hq
 have:j<10:=(List.getElem?_eq_some_iff.1 h).1
 have hc:((List.range 10).all fun j=>((GZ[j]?).getD []).all fun q=>decide (q<j))=true:=rfl
 have h1:=List.all_eq_true.1 hc j (List.mem_range.2 this)
 rw [h] at h1
 simpa using List.all_eq_true.1 h1 q hq
theorem FM:∀ (j:Nat) (t:Option Nat × Op × Option (Nat × Bool)) (d:Nat),Fs[j]? = some t->t.1=some d->j<9/\d=39+j:=by
 intro j t d h e
 have hj:j<10:=(List.getElem?_eq_some_iff.1 h).1
 have hc:((List.range 10).all fun j=>match (Fs[j]?).bind (·.1) with
  | some d=>Nat.beq d (39+j)&&Nat.blt j 9
  | none=>true)=true:=rfl
 have h1:=List.all_eq_true.1 hc j (List.mem_range.2 hj)
 rw [h] at h1
 simp only [Option.bind_some,e,Bool.and_eq_true,Nat.blt_eq] at h1
 exact ⟨h1.2,Nat.eq_of_beq_eq_true h1.1⟩
theorem OV{a0:Act}{w:World}(hsz:a0.tmps.size=61){bT bX bC q:Nat}{s:BA}{k by0:Int}{m2 m3 m4:Value}{pr:Int}{st:Bool}{f:Int->Option Value}(x6:a0.eval (.tmp 6)=.pointer (some ⟨bT,0,none⟩))(x7:a0.eval (.tmp 7)=.int .i64 (q:Int))(x5:a0.eval (.tmp 5)=.pointer (some ⟨bX,0,none⟩))(hT:w.heap[bT]? = some (.cells #[.string s,.int .i64 k,.int .i64 by0,.map (some bC),m2,m3,.int .i64 pr,.bool st,m4] 123 (0,0)))(hX:w.heap[bX]? = some (.cells #[.string s,.int .i64 k,.int .i64 by0] 75 (0,0)))(hC:B5 w bC (Value.int .i64) f){Q:Exit->Act->World->Prop}(hQ:∀ a w',a.defers=a0.defers->a.tmps.size=a0.tmps.size->(∀ t:Nat,t<39->a.eval (.tmp t)=a0.eval (.tmp t))->w.heap.size<w'.heap.size->w'.os=w.os->w'.tape=w.tape->w'.output=w.output->(∀ b o,b≠bC->w.heap[b]? = some o->w'.heap[b]? = some o) ->
   w'.heap[w.heap.size]? = some (.cells (cbV (by0,0,true)) 134 (0,0))->B5 w' bC (Value.int .i64) (fun x=>if x=(q:Int) then some (.pointer (some ⟨w.heap.size,0,none⟩)) else f x)->Q .normal a w'):c83_10.wpIn (FW none) 0 Tryz.prog Q a0 w:=by
 rw [N0]
 have hsize:c83o.size=10:=by have:=congrArg List.length c83o_ops;simpa [Fs] using this
 have opAt:∀ (j:Nat) (o:Oper),c83o[j]? = some o->Fs[j]? = some (opK o):=fun j o ho=>by rw [<- c83o_ops,List.getElem?_map,Array.getElem?_toList,ho];rfl
 have edAt:∀ (j:Nat) (o:Oper),c83o[j]? = some o->GZ[j]? = some (edK o):=fun j o ho=>by rw [<- c83o_ed,List.getElem?_map,Array.getElem?_toList,ho];rfl
 have edM:∀ (o:Oper) (q:Nat),q∈edK o↔∃ e∈o.after.toList,Region.binds .any e=true/\e.on=q:=fun o q=>by simp [edK,and_assoc]
 let w0:World:={ w with drawn:=w.drawn+1 }
 let w1:World:=w0.alloc (.cells (cbV (by0,0,true)) 134 (0,0))
 have hbC:bC<w.heap.size:=hC.lt
 have hC1:B5 w1 bC (Value.int .i64) f:=hC.same (Below.heap_alloc w0 _ bC hbC)
 obtain ⟨o',hup,hat⟩:=hC1.update (FJ RS) Kn (q:Int) (.pointer (some ⟨w.heap.size,0,none⟩))
 let w2:World:=setBlock w1 bC o'
 let W:Nat->World:=fun p=>match p with
  | 0=>w0
  | 1=>w1
  | _=>w2
 let eff:Nat->Option Nat:=fun j=>match j with
  | 8=>some 0
  | 9=>some 1
  | _=>none
 let val:Nat->Value:=fun j=>match j with
  | 0 | 1=>.pointer (some ⟨bT,0,none⟩)
  | 2=>.pointer (some ⟨bT,3,none⟩)
  | 3=>.map (some bC)
  | 4=>.int .i64 (q:Int)
  | 5=>.pointer (some ⟨bX,2,none⟩)
  | 6=>.int .i64 by0
  | 7=>.agg #[.int .i64 by0,.int .i64 0,.bool true]
  | 8=>.pointer (some ⟨w.heap.size,0,none⟩)
  | _=>undef
 have hlt:∀ {b:Nat} {o:Obj},w.heap[b]? = some o->b<w.heap.size:=fun h=>(Array.getElem?_eq_some_iff.1 h).1
 have hW:∀ ph b o,b≠bC->w.heap[b]? = some o->(W ph).heap[b]? = some o:=fun ph b o hb ho=>by
  have a1:w1.heap[b]? = some o:=(Below.heap_alloc w0 _ b (hlt ho)).trans ho
  have a2:w2.heap[b]? = some o:=(At w1 _ hb).trans a1
  match ph with
  | 0=>exact ho
  | 1=>exact a1
  | _+2=>exact a2
 obtain ⟨es,cl,hbC',_⟩:=id hC
 have hWt:∀ ph,(W ph).heap[bT]? = _:=fun ph=>hW ph bT _ (fun e=>by rw [e,hbC'] at hT;cases hT) hT
 have hWx:∀ ph,(W ph).heap[bX]? = _:=fun ph=>hW ph bX _ (fun e=>by rw [e,hbC'] at hX;cases hX) hX
 refine K0 A6 (val:=val) (W:=W) (eff:=eff) (N:=2) (fun j o ho=>?_) (fun j1 j2 o1 o2 d h1 h2 e1 e2=>?_) (fun j p hp=>?_) (fun j1 j2 p h1 h2=>?_) (fun p hp=>?_) (fun j o p ho hp=>?_) (fun j o ho a ph hph hpe hdep hrest hlt=>?_) rfl (fun a hdf hsz' hrest=>?_)
 .have hm:=List.mem_of_getElem? (opAt j o ho)
  refine ⟨?_,?_,fun d hd=>?_,fun e he hb=>M4 j _ (edAt j o ho) _ ((edM o e.on).2 ⟨e,he,hb,rfl⟩)⟩
  .have hc:(Fs.all fun t=>t.2.2.isNone)=true:=rfl
   have:=List.all_eq_true.1 hc _ hm
   simpa [opK] using this
  .intro cc hcc
   have hc:(Fs.all fun t=>match t.2.1 with | .defer _=>false | _=>true)=true:=rfl
   have:=List.all_eq_true.1 hc _ hm
   simp only [opK,hcc] at this
   cases this
  .obtain ⟨q1,q2⟩:=FM j _ d (opAt j o ho) hd
   have key:∀ d':Nat,d'=39+j->d'<a0.tmps.size:=fun d' e=>by omega
   exact key d q2
 .obtain ⟨q1,q2⟩:=FM j1 _ d (opAt j1 o1 h1) e1
  obtain ⟨p1,p2⟩:=FM j2 _ d (opAt j2 o2 h2) e2
  omega
 .simp only [eff] at hp
  split at hp <;> cases hp <;> simp [hsize]
 .simp only [eff] at h1 h2
  split at h1 <;> cases h1 <;> (split at h2 <;> cases h2;rfl)
 .match p,hp with
  | 0,_=>exact ⟨8,rfl⟩
  | 1,_=>exact ⟨9,rfl⟩
 .have hdd:=edAt j o ho
  simp only [eff] at hp
  split at hp <;> cases hp
  have hee:edK o=[3,4,8,0,1,2,3,4,5,6,7,8]:=(Option.some.inj hdd).symm
  obtain ⟨e,he,hb,hq⟩:=(edM o 8).1 (by rw [hee];simp)
  exact ⟨e,he,hb,by rw [hq];rfl⟩
 rotate_left
 .refine hQ a w2 hdf hsz' (fun t ht=>hrest t fun i' o' ho' hd=>?_) ?_ rfl rfl rfl (fun b o hb ho=>hW 2 b o hb ho) ?_ hat
  .obtain ⟨q1,q2⟩:=FM i' _ t (opAt i' o' ho') hd
   omega
  .show w.heap.size<(setBlock w1 bC o').heap.size
   simp [setBlock,w1,w0]
  .refine (At w1 _ (by omega)).trans ?_
   exact heap_alloc_new w0 _
 have hk:=opAt j o ho
 have hdd:=edAt j o ho
 have dep:∀ (q d:Nat) (t:Option Nat × Op × Option (Nat × Bool)),q∈edK o->Fs[q]? = some t->t.1=some d->a.eval (.tmp d)=val q:=fun q d t hq ht hd=>by
  obtain ⟨e,he,hb,rfl⟩:=(edM o q).1 hq
  have hl:e.on<c83o.size:=by have:=(FM _ _ _ ht hd).1;omega
  have hoj:=Array.getElem?_eq_getElem hl
  have:=opAt _ _ hoj
  rw [ht] at this
  cases this
  exact hdep e he hb _ d hoj hd
 have out:∀ t:Nat,t<39->a.eval (.tmp t)=a0.eval (.tmp t):=fun t ht=>hrest t fun i' o' ho' hd=>by
  obtain ⟨q1,q2⟩:=FM i' _ t (opAt i' o' ho') hd
  omega
 have e5:=(out 5 (by omega)).trans x5
 have e6:=(out 6 (by omega)).trans x6
 have e7:=(out 7 (by omega)).trans x7
 clear hdep hrest hlt
 have hj10:j<10:=by
  have:=(Array.getElem?_eq_some_iff.1 ho).1
  omega
 have hjs:j=0\/j=1\/j=2\/j=3\/j=4\/j=5\/j=6\/j=7\/j=8\/j=9:=by omega
 rcases hjs with rfl | rfl | rfl | rfl | rfl | rfl | rfl | rfl | rfl | rfl
 .have hop:o.op=.move (.tmp 6):=(congrArg (fun z:Option Nat × Op × Option (Nat × Bool)=>z.2.1) (Option.some.inj hk)).symm
  have hee:edK o=[]:=(Option.some.inj hdd).symm
  exact .inl (R.move hop e6)
 .have hop:o.op=.nilCheck (.tmp 39):=(congrArg (fun z:Option Nat × Op × Option (Nat × Bool)=>z.2.1) (Option.some.inj hk)).symm
  have hee:edK o=[0]:=(Option.some.inj hdd).symm
  have v0:a.eval (.tmp 39)=val 0:=dep 0 39 _ (by rw [hee];simp) rfl rfl
  exact .inl (R.nilc hop v0)
 .have hop:o.op=.fieldAddr 123 (.tmp 40) 1:=(congrArg (fun z:Option Nat × Op × Option (Nat × Bool)=>z.2.1) (Option.some.inj hk)).symm
  have hee:edK o=[1]:=(Option.some.inj hdd).symm
  have v1:a.eval (.tmp 40)=val 1:=dep 1 40 _ (by rw [hee];simp) rfl rfl
  exact .inl (R.field hop v1 (by kernel_rfl))
 .have hop:o.op=.load 119 (.tmp 41):=(congrArg (fun z:Option Nat × Op × Option (Nat × Bool)=>z.2.1) (Option.some.inj hk)).symm
  have hee:edK o=[2]:=(Option.some.inj hdd).symm
  have v2:a.eval (.tmp 41)=val 2:=dep 2 41 _ (by rw [hee];simp) rfl rfl
  exact .inl (R.loadV hop v2 (hWt ph) (by kernel_rfl))
 .have hop:o.op=.move (.tmp 7):=(congrArg (fun z:Option Nat × Op × Option (Nat × Bool)=>z.2.1) (Option.some.inj hk)).symm
  have hee:edK o=[]:=(Option.some.inj hdd).symm
  exact .inl (R.move hop e7)
 .have hop:o.op=.fieldAddr 75 (.tmp 5) 2:=(congrArg (fun z:Option Nat × Op × Option (Nat × Bool)=>z.2.1) (Option.some.inj hk)).symm
  have hee:edK o=[]:=(Option.some.inj hdd).symm
  exact .inl (R.field hop e5 (by kernel_rfl))
 .have hop:o.op=.load 3 (.tmp 44):=(congrArg (fun z:Option Nat × Op × Option (Nat × Bool)=>z.2.1) (Option.some.inj hk)).symm
  have hee:edK o=[5]:=(Option.some.inj hdd).symm
  have v5:a.eval (.tmp 44)=val 5:=dep 5 44 _ (by rw [hee];simp) rfl rfl
  exact .inl (R.loadV hop v5 (hWx ph) (by kernel_rfl))
 .have hop:o.op=.build 134 #[(0,.tmp 45),(2,.const (.bool true))]:=(congrArg (fun z:Option Nat × Op × Option (Nat × Bool)=>z.2.1) (Option.some.inj hk)).symm
  have hee:edK o=[6]:=(Option.some.inj hdd).symm
  have v6:a.eval (.tmp 45)=val 6:=dep 6 45 _ (by rw [hee];simp) rfl rfl
  exact .inl (R.build hop (xs:=#[(0,.int .i64 by0),(2,.bool true)]) (by simp only [List.map_toArray,List.map_cons,List.map_nil,v6];rfl) (Lv (W ph) by0 true))
 .have hop:o.op=.box 134 (.tmp 46):=(congrArg (fun z:Option Nat × Op × Option (Nat × Bool)=>z.2.1) (Option.some.inj hk)).symm
  have hee:edK o=[7]:=(Option.some.inj hdd).symm
  have v7:a.eval (.tmp 46)=val 7:=dep 7 46 _ (by rw [hee];simp) rfl rfl
  have:=hpe 0 rfl
  subst this
  exact .inl (R.box hop v7)
 .have hop:o.op=.mapUpdate 119 (.tmp 42) (.tmp 43) (.tmp 47):=(congrArg (fun z:Option Nat × Op × Option (Nat × Bool)=>z.2.1) (Option.some.inj hk)).symm
  have hee:edK o=[3,4,8,0,1,2,3,4,5,6,7,8]:=(Option.some.inj hdd).symm
  have v3:a.eval (.tmp 42)=val 3:=dep 3 42 _ (by rw [hee];simp) rfl rfl
  have v4:a.eval (.tmp 43)=val 4:=dep 4 43 _ (by rw [hee];simp) rfl rfl
  have v8:a.eval (.tmp 47)=val 8:=dep 8 47 _ (by rw [hee];simp) rfl rfl
  have:=hpe 1 rfl
  subst this
  refine .inr ⟨(congrArg (fun z:Option Nat × Op × Option (Nat × Bool)=>z.1) (Option.some.inj hk)).symm,?_⟩
  unfold execOp;rw [hop];simp [v3,v4,v8,val,eff,W,hup];rfl
/-! ### helpers: begin,one thing more -/
structure PO (L:Lay) (m:Nat) (w:World):Prop where
 ex:∃ A cap,w.heap[L.at_ .shop]? = some (.cells #[L.xI,L.xR,.slice A m cap,.int .i64 0] 129 (0,0))/\((m=0/\cap=0)\/(0<m/\∃ c,A=some ⟨L.at_ .row,0,none⟩/\w.heap[L.at_ .row]? = some (.cells c 116 (0,0))/\c.size=cap/\m<=cap/\cap<=maxLen/\∀ i,i<m->c[i]? = some (.pointer (some ⟨L.at_ (.th i),0,none⟩))))
def J1(L L2:Lay)(m rowB:Nat):Lay:={ L with at_:=fun t=>cond (isN m t) (L2.at_ t) (match t with
 | .row=>rowB
 | t=>L.at_ t) }
theorem MZ{i m:Nat}(h:i≠m):Nat.beq i m=false:=by
 cases hb:Nat.beq i m
 .rfl
 .exact absurd (Nat.eq_of_beq_eq_true hb) h
theorem Em{K:Kst}{m:Nat}{t:Tg}(h:Tg.ok (Kst.upto K (m+1)) t):PM K m K.r t\/(isN m t=false/\t=.row)\/(isN m t=false/\t≠.row/\Tg.ok (Kst.upto K m) t):=by
 have key:∀ (i:Nat),i<m+1->i≠m->i<m:=fun i h1 h2=>by omega
 cases t with
 | shop=>exact .inr (.inr ⟨rfl,(fun e=>by cases e),trivial⟩)
 | row=>exact .inr (.inl ⟨rfl,rfl⟩)
 | th i =>
  by_cases e:i=m
  .exact .inl ⟨by rw [e];exact F0 m,h⟩
  .exact .inr (.inr ⟨MZ e,(fun e=>by cases e),key i h e⟩)
 | ck i =>
  by_cases e:i=m
  .exact .inl ⟨by rw [e];exact F0 m,h⟩
  .exact .inr (.inr ⟨MZ e,(fun e=>by cases e),key i h e⟩)
 | hs i =>
  by_cases e:i=m
  .exact .inl ⟨by rw [e];exact F0 m,h⟩
  .exact .inr (.inr ⟨MZ e,(fun e=>by cases e),key i h e⟩)
 | hd i =>
  by_cases e:i=m
  .exact .inl ⟨by rw [e];exact F0 m,h⟩
  .exact .inr (.inr ⟨MZ e,(fun e=>by cases e),key i h e⟩)
 | bd i =>
  by_cases e:i=m
  .exact .inl ⟨by rw [e];exact F0 m,h⟩
  .exact .inr (.inr ⟨MZ e,(fun e=>by cases e),key i h e⟩)
 | cb i r =>
  by_cases e:i=m
  .exact .inl ⟨by rw [e];exact F0 m,h⟩
  .exact .inr (.inr ⟨MZ e,(fun e=>by cases e),key i h.1 e,h.2⟩)
theorem join{L L2:Lay}{K:Kst}{m B1 bX:Nat}{w w':World}(hT:L.T=T7)(hT2:L2.T=T7)(h:Ao L (Kst.upto K m) (st0 K) w)(hold:∀ t,Tg.ok (Kst.upto K m) t->L.at_ t<B1)(h2:HY L2 K m K.r B1 bX w){rowB cap:Nat}{c:Array Value}(keep1:∀ s o,Tg.ok (Kst.upto K m) s->s≠.row->s≠.shop->w.heap[L.at_ s]? = some o->w'.heap[L.at_ s]? = some o)(keep2:∀ s o,PM K m K.r s->w.heap[L2.at_ s]? = some o->w'.heap[L2.at_ s]? = some o)(hrow:w'.heap[rowB]? = some (.cells c 116 (0,0)))(hcs:c.size=cap)(hle:m+1<=cap)(hmx:cap<=maxLen)(hc1:∀ i,i<m->c[i]? = some (.pointer (some ⟨L.at_ (.th i),0,none⟩)))(hc2:c[m]? = some (.pointer (some ⟨L2.at_ (.th m),0,none⟩)))(hshop:w'.heap[L.at_ .shop]? = some (.cells #[L.xI,L.xR,.slice (some ⟨rowB,0,none⟩) (m+1) cap,.int .i64 0] 129 (0,0)))(hr1:∀ s,Tg.ok (Kst.upto K m) s->s≠.row->L.at_ s≠rowB)(hr2:∀ s,PM K m K.r s->L2.at_ s≠rowB) :
  Ao (J1 L L2 m rowB) (Kst.upto K (m+1)) (st0 K) w'/\PO (J1 L L2 m rowB) (m+1) w':=by
 have aN:∀ t,isN m t=true->(J1 L L2 m rowB).at_ t=L2.at_ t:=fun t ht=>by show cond (isN m t) _ _=_;rw [ht];rfl
 have aR:(J1 L L2 m rowB).at_ .row=rowB:=rfl
 have aO:∀ t,isN m t=false->t≠.row->(J1 L L2 m rowB).at_ t=L.at_ t:=fun t ht hr=>by
  show cond (isN m t) _ _=_
  rw [ht]
  cases t with
  | row=>exact absurd rfl hr
  | _=>rfl
 have thOf:∀ i,i<m+1->c[i]? = some (.pointer (some ⟨(J1 L L2 m rowB).at_ (.th i),0,none⟩)):=fun i hi=>by
  by_cases e:i=m
  .subst e;rw [aN (.th i) (F0 i)];exact hc2
  .rw [aO (.th i) (MZ e) (fun e=>by cases e)];exact hc1 i (by omega)
 refine ⟨⟨fun s t hs ht e=>?_,st0_ok K (m+1),fun t ht=>?_⟩,⟨some ⟨rowB,0,none⟩,cap,hshop,.inr ⟨Nat.succ_pos m,c,rfl,hrow,hcs,hle,hmx,thOf⟩⟩⟩
 .rcases Em hs with s1 | ⟨s1,rfl⟩ | ⟨s1,s2,s3⟩
  .rw [aN s s1.1] at e
   rcases Em ht with t1 | ⟨t1,rfl⟩ | ⟨t1,t2,t3⟩
   .rw [aN t t1.1] at e;exact h2.inj s t s1 t1 e
   .rw [aR] at e;exact absurd e (hr2 s s1)
   .rw [aO t t1 t2] at e
    have:=hold t t3;have:=(h2.low s s1).1;omega
  .rw [aR] at e
   rcases Em ht with t1 | ⟨t1,rfl⟩ | ⟨t1,t2,t3⟩
   .rw [aN t t1.1] at e;exact absurd e.symm (hr2 t t1)
   .rfl
   .rw [aO t t1 t2] at e;exact absurd e.symm (hr1 t t3 t2)
  .rw [aO s s1 s2] at e
   rcases Em ht with t1 | ⟨t1,rfl⟩ | ⟨t1,t2,t3⟩
   .rw [aN t t1.1] at e
    have:=hold s s3;have:=(h2.low t t1).1;omega
   .rw [aR] at e;exact absurd e (hr1 s s3 s2)
   .rw [aO t t1 t2] at e;exact h.inj s t s3 t3 e
 .rcases Em ht with t1 | ⟨t1,rfl⟩ | ⟨t1,t2,t3⟩
  .obtain ⟨o,g1,g2⟩:=h2.at_ t t1
   refine ⟨o,by rw [aN t t1.1];exact keep2 t o t1 g1,?_⟩
   have em:∀ i,Nat.beq i m=true->i=m:=fun i h=>Nat.eq_of_beq_eq_true h
   cases t with
   | shop=>cases t1.1
   | row=>cases t1.1
   | th i =>
    have e:=em i t1.1;subst e
    have g2:o=.cells (thV L2 K (st0 K) i) L2.T.th (0,0):=g2
    show o=.cells (thV (J1 L L2 i rowB) K (st0 K) i) L.T.th (0,0)
    rw [g2,hT,hT2]
    simp only [thV,aN (.ck i) (F0 i),aN (.hs i) (F0 i),aN (.hd i) (F0 i),aN (.bd i) (F0 i)]
   | ck i =>
    have e:=em i t1.1;subst e
    obtain ⟨es,cl,f,e1,e2,e3⟩:=g2
    refine ⟨es,cl,f,e1,e2,fun r=>?_⟩
    rw [e3 r,aN (.cb i r.toNat) (F0 i)]
    rfl
   | hs i=>exact g2
   | hd i=>exact g2
   | bd i=>exact g2
   | cb i r =>
    intro cc hcc
    have:=g2 cc hcc
    rw [hT2] at this
    show o=Obj.cells _ L.T.cb _
    rw [hT];exact this
  .exact ⟨_,by rw [aR];exact hrow,c,by show _=Obj.cells c L.T.row _;rw [hT];rfl,thOf⟩
  .obtain ⟨o,g1,g2⟩:=h.at_ t t3
   by_cases hs:t=.shop
   .subst hs
    refine ⟨_,hshop,some ⟨rowB,0,none⟩,cap,?_,⟨hle,fun e=>by cases e⟩,fun _=>rfl⟩
    show _=Obj.cells _ L.T.shop _
    rw [hT];rfl
   refine ⟨o,by rw [aO t t1 t2];exact keep1 t o t3 t2 hs g1,?_⟩
   have em:∀ i,Nat.beq i m=false->i≠m:=fun i h e=>by rw [e,F0] at h;cases h
   cases t with
   | shop=>exact absurd rfl hs
   | row=>exact absurd rfl t2
   | th i =>
    have g2:o=.cells (thV L K (st0 K) i) L.T.th (0,0):=g2
    show o=.cells (thV (J1 L L2 m rowB) K (st0 K) i) L.T.th (0,0)
    rw [g2]
    have t1:Nat.beq i m=false:=t1
    simp only [thV,aO (.ck i) t1 (fun e=>by cases e),aO (.hs i) t1 (fun e=>by cases e),aO (.hd i) t1 (fun e=>by cases e),aO (.bd i) t1 (fun e=>by cases e)]
   | ck i =>
    have t1:Nat.beq i m=false:=t1
    obtain ⟨es,cl,f,e1,e2,e3⟩:=g2
    refine ⟨es,cl,f,e1,e2,fun r=>?_⟩
    rw [e3 r,aO (.cb i r.toNat) t1 (fun e=>by cases e)]
    rfl
   | hs i=>exact g2
   | hd i=>exact g2
   | bd i=>exact g2
   | cb i r=>exact g2
/-! ### helpers: begin,the rules -/
theorem Oz{k:Nat}:∀ {l:List (Nat × Value)},(l.all fun p=>Nat.blt p.1 k)=true->∀ {t:Nat} {v:Value},EY l t=some v->t<k
 | [],_,t,v,h=>by cases h
 | (j,u) :: r,hl,t,v,h=>by
  rw [List.all_cons,Bool.and_eq_true] at hl
  unfold EY at h
  cases hk:Nat.beq j t with
  | true =>
   have e:=Nat.eq_of_beq_eq_true hk
   subst e
   simpa using hl.1
  | false =>
   rw [hk] at h
   exact Oz hl.2 h
structure SX (w0 w1:World) (K:Kst) (m q bX:Nat) (L2:Lay) (w:World):Prop where
 kept:AR w1.heap.size [] w1 w
 item:w.heap[bX]? = some (.cells #[.string (K.di.ss m 0),.int .i64 (K.di.ii m 1),.int .i64 (K.di.ii m 2)] 75 (0,0))
 bx:w1.heap.size<=bX
 th:HY L2 K m q w1.heap.size bX w
 T:L2.T=T7
def Sf(bK bS:Nat)(xI xR:Value)(n m:Nat)(bX bT:Nat)(r q:Nat):List (Nat × Value) :=
 [(1,.pointer (some ⟨bK,0,none⟩)),(3,.pointer (some ⟨bS,0,none⟩)),(5,.pointer (some ⟨bX,0,none⟩)),(6,.pointer (some ⟨bT,0,none⟩)),(13,xI),(14,.int .i64 (n:Int)),(15,.int .i64 (m:Int)),(27,xR),(28,.int .i64 (r:Int)),(29,.int .i64 (q:Int))]
theorem TC:Ca Tryz.prog 77=some (.agg #[.string .empty,.int .i64 0,.int .i64 0,.int .i64 0]):=by kernel_rfl
theorem TB:Ca Tryz.prog 75=some (.agg #[.string .empty,.int .i64 0,.int .i64 0]):=by kernel_rfl
structure Src (w0:World) (K:Kst) (xI xR:Value) (od:Od):Prop where
 c:∀ b o v,od b o=some v->b<w0.heap.size/\w0.cell? ⟨b,o,none⟩=some v
 m:∀ b,od.m b=none
 p:∀ b,od.p.f b=none
 xI:(SV.ro shI K.n K.di).den ⟨fun _=>none,od,gl0 _⟩ xI
 xR:(SV.ro shR K.r K.dr).den ⟨fun _=>none,od,gl0 _⟩ xR
theorem Src.ok{w0:World}{K:Kst}{xI xR:Value}{od:Od}(h:Src w0 K xI xR od){w:World}(hk:AR w0.heap.size [] w0 w):Bj od w:=by
 refine ⟨fun b o v hv=>?_,fun b v hv=>(by rw [h.m] at hv;cases hv),fun b i hp=>(by rw [h.p] at hp;cases hp)⟩
 obtain ⟨h1,h2⟩:=h.c b o v hv
 rw [World.cell?_of_block (w:=w0) (hk.block b h1 (by simp))]
 exact h2
theorem Lt{w0 w1:World}{K:Kst}{xR xI:Value}{od:Od}(hsrc:Src w0 K xI xR od)(hrn:K.r<=1000000){m bX bK bS n:Nat}(h01:AR w0.heap.size [] w0 w1)(hB:w0.heap.size<=w1.heap.size){Q:Exit->Act->World->Prop}(hQ:∀ a w L2,Sl a 61 (Sf bK bS xI xR n m bX (L2.at_ (.th m)) K.r K.r)->SX w0 w1 K m K.r bX L2 w->Q .normal a w) :
  ∀ (fu q:Nat),K.r - q<fu->q<=K.r->∀ (a:Act) (w:World) (L2:Lay),Sl a 61 (Sf bK bS xI xR n m bX (L2.at_ (.th m)) K.r q)->SX w0 w1 K m q bX L2 w ->
   Code.roundsIn (FW none) 0 Tryz.prog (.seq c83_7 (.seq (.cond (.tmp 30) .skip (.exit 2)) (.seq (.block 3 (.seq c83_8 (.seq c83_9 (.cond (.tmp 38) c83_10 .skip)))) c83_11))) (Exit.inBlock 2 Q) fu a w:=by
 intro fu
 induction fu with
 | zero=>intro q h;omega
 | succ fu ih =>
 intro q hf hq a w L2 h hi
 rw [roundsIn_succ]
 obtain ⟨t0,p0,b0,hR⟩:=c83_7_eq
 refine wpIn_seq (Aj hR ?_)
 refine H.val h rfl rfl rfl (KN (x:=(q:Int)) (y:=(K.r:Int)) rfl (h.g rfl) (h.g rfl)) (fun c e=>by cases e) fun a h=>?_
 show Code.wpIn (FW none) 0 Tryz.prog (.seq _ _) _ _ _
 refine wpIn_seq ?_
 by_cases hlt:q<K.r
 rotate_left
 .have e:decide ((q:Int)<(K.r:Int))=false:=decide_eq_false (by omega)
  rw [e] at h
  have hqr:q=K.r:=by omega
  subst hqr
  refine wpIn_cond (t:=false) (h.g rfl) (wpIn_exit ?_)
  exact hQ a w L2 (h.pick _ ⟨rfl,rfl,rfl,rfl,rfl,rfl,rfl,rfl,rfl,rfl,trivial⟩) hi
 have e:decide ((q:Int)<(K.r:Int))=true:=decide_eq_true (by omega)
 rw [e] at h
 refine wpIn_cond (t:=true) (h.g rfl) (wpIn_skip ?_)
 show Code.wpIn (FW none) 0 Tryz.prog (.seq _ _) _ _ _
 refine wpIn_seq (wpIn_block ?_)
 obtain ⟨t0,p0,b0,t1,p1,b1,t2,p2,b2,t3,p3,b3,t4,p4,b4,t5,p5,b5,hR8⟩:=c83_8_eq
 refine wpIn_seq (Aj hR8 ?_)
 have hw0:AR w0.heap.size [] w0 w:=AR.grow h01 hB hi.kept
 obtain ⟨p,hp1,hp2⟩:=Pw (hsrc.ok hw0) hsrc.xR hlt
 refine H.val h rfl rfl rfl (R.move rfl (h.g rfl)) (fun c e=>by cases e) fun a h=>?_
 refine H.val h rfl rfl rfl (x:=p) (w':=w) (by have g1:=h.g (t:=27) rfl;have g2:=h.g (t:=29) rfl;unfold execOp;simp [g1,g2,hp1]) (fun c e=>by cases e) fun a h=>?_
 refine H.val h rfl rfl rfl (x:=.agg #[.string (K.dr.ss q 0),.int .i64 (K.dr.ii q 1),.int .i64 (K.dr.ii q 2),.int .i64 (K.dr.ii q 3)]) (w':=w) (by have g1:=h.g (t:=32) rfl;unfold execOp;simp [g1,hp2]) (fun c e=>by cases e) fun a h=>?_
 refine H.val h rfl rfl rfl (R.alloc rfl TC) (fun c e=>by cases e) fun a h=>?_
 refine H.val h rfl rfl rfl (R.assign rfl (h.g rfl)) (fun c e=>by cases e) fun a h=>?_
 obtain ⟨w2,hr2,hb2,hg2,hs2⟩:=Ho (w:=w) (t:=77) (e:=77) (n:=4) (c:=(Value.agg #[.string .empty,.int .i64 0,.int .i64 0,.int .i64 0]).cells) (y:=.agg #[.string (K.dr.ss q 0),.int .i64 (K.dr.ii q 1),.int .i64 (K.dr.ii q 2),.int .i64 (K.dr.ii q 3)]) (by kernel_rfl) rfl rfl (by intro v hv;simp [Value.cells] at hv;rcases hv with rfl | rfl | rfl | rfl <;> rfl) rfl
 refine H.skip h rfl rfl (R.store rfl (h.g rfl) (h.g rfl) hr2) (fun c e=>by cases e) fun a h=>?_
 have hcl:(Value.agg #[.string (K.dr.ss q 0),.int .i64 (K.dr.ii q 1),.int .i64 (K.dr.ii q 2),.int .i64 (K.dr.ii q 3)]).cells=#[.string (K.dr.ss q 0),.int .i64 (K.dr.ii q 1),.int .i64 (K.dr.ii q 2),.int .i64 (K.dr.ii q 3)]:=rfl
 rw [hcl] at hb2
 have hit2:=hg2.keep hi.item
 obtain ⟨u0,p0,b0,u1,p1,b1,u2,p2,b2,u3,p3,b3,u4,p4,b4,hR9⟩:=c83_9_eq
 show Code.wpIn (FW none) 0 Tryz.prog (.seq c83_9 _) _ _ _
 refine wpIn_seq (Aj hR9 ?_)
 refine H.val h rfl rfl rfl (R.field rfl (h.g rfl) (j:=1) (by kernel_rfl)) (fun c e=>by cases e) fun a h=>?_
 refine H.val h rfl rfl rfl (R.loadV (y:=.int .i64 (K.dr.ii q 1)) rfl (h.g rfl) hb2 (by kernel_rfl)) (fun c e=>by cases e) fun a h=>?_
 refine H.val h rfl rfl rfl (R.field rfl (h.g rfl) (j:=1) (by kernel_rfl)) (fun c e=>by cases e) fun a h=>?_
 refine H.val h rfl rfl rfl (R.loadV (y:=.int .i64 (K.di.ii m 1)) rfl (h.g rfl) hit2 (by kernel_rfl)) (fun c e=>by cases e) fun a h=>?_
 refine H.val h rfl rfl rfl (RM (x:=K.dr.ii q 1) (y:=K.di.ii m 1) rfl (h.g rfl) (h.g rfl)) (fun c e=>by cases e) fun a h=>?_
 show Code.wpIn (FW none) 0 Tryz.prog (.cond _ _ _) _ _ _
 refine wpIn_cond (h.g (t:=38) rfl) ?_
 have hk2:AR w1.heap.size [] w1 w2:=hi.kept.grow hi.kept.size hg2
 have fin:∀ (a:Act) (w:World) (L3:Lay),Sl a 61 (Sf bK bS xI xR n m bX (L3.at_ (.th m)) K.r q)->SX w0 w1 K m (q+1) bX L3 w ->
   Code.wpIn (FW none) 0 Tryz.prog c83_11 (Exit.then (Code.roundsIn (FW none) 0 Tryz.prog (.seq c83_7 (.seq (.cond (.tmp 30) .skip (.exit 2)) (.seq (.block 3 (.seq c83_8 (.seq c83_9 (.cond (.tmp 38) c83_10 .skip)))) c83_11))) (Exit.inBlock 2 Q) fu) (Exit.inBlock 2 Q)) a w:=by
  intro a w L3 h hi
  obtain ⟨t0,p0,b0,t1,p1,b1,hR11⟩:=c83_11_eq
  refine Aj hR11 ?_
  refine H.val h rfl rfl rfl (Ku (x:=(q:Int)) (y:=1) rfl (h.g rfl) rfl) (fun c e=>by cases e) fun a h=>?_
  refine H.val h rfl rfl rfl (R.move rfl (h.g rfl)) (fun c e=>by cases e) fun a h=>?_
  rw [wrS hlt (Nat.le_trans hrn (by omega))] at h
  exact ih (q+1) (by omega) (by omega) a w L3 (h.pick _ ⟨rfl,rfl,rfl,rfl,rfl,rfl,rfl,rfl,rfl,rfl,trivial⟩) hi
 by_cases he:K.dr.ii q 1=K.di.ii m 1
 .rw [decide_eq_true he]
  obtain ⟨o0,g1,g2⟩:=hi.th.at_ (.th m) ⟨F0 m,Nat.lt_succ_self m⟩
  have g2:o0=.cells (thV L2 K (st0 K) m) L2.T.th (0,0):=g2
  subst g2
  rw [hi.T] at g1
  obtain ⟨_,k1,es,cl,f,rfl,k2,k3⟩:=hi.th.at_ (.ck m) ⟨F0 m,Nat.lt_succ_self m⟩
  refine OV h.sz (h.g (t:=6) rfl) (h.g (t:=7) rfl) (h.g (t:=5) rfl) (hg2.keep g1) hit2 (f:=f) ⟨es,cl,hg2.keep k1,k2⟩ fun a3 w3 hdf hsz hout hlt3 z1 z2 z3 keep3 hcb hat=>?_
  have hne:L2.at_ (.ck m)≠bX:=(hi.th.low (.ck m) ⟨F0 m,Nat.lt_succ_self m⟩).2
  have hk3:AR w1.heap.size [] w1 w3:=by
   refine ⟨z1.trans hk2.os,z2.trans hk2.tape,z3.trans hk2.output,by have:=hk2.size;omega,fun b hb hm=>?_⟩
   have hlow:=(hi.th.low (.ck m) ⟨F0 m,Nat.lt_succ_self m⟩).1
   have hbs:b<w1.heap.size:=hb
   have e1:=hk2.block b hb hm
   have e2:w2.heap[b]? = some (w1.heap[b]'hbs):=by rw [e1];simp
   rw [keep3 b _ (by omega) e2,<- e2,e1]
  have hin:=hi.th.grow hg2
  have hw2:w2.heap.size=w.heap.size+1:=hs2
  have hbX:bX<w2.heap.size:=(Array.getElem?_eq_some_iff.1 hit2).1
  refine fin a3 w3 (Qx L2 m q w2.heap.size) ⟨hsz.trans h.sz,hdf.trans h.df,fun {t v} e=>?_⟩ ⟨hk3,keep3 _ _ (Ne.symm hne) hit2,hi.bx,hin.add hi.T he hlt (Nat.le_refl _) hk2.size hbX hcb (fun f' hf'=>?_) keep3,hi.T⟩
  .have ht:t<39:=Oz (k:=39) rfl e
   rw [hout t ht]
   exact h.g (Hd (l':=Sf bK bS xI xR n m bX (L2.at_ (.th m)) K.r q) ⟨rfl,rfl,rfl,rfl,rfl,rfl,rfl,rfl,rfl,rfl,trivial⟩ e)
  .have hf:f'=f:=by
    obtain ⟨es2,cl2,q1,q2⟩:=hf'
    rw [hg2.keep k1] at q1
    cases q1
    funext x
    exact Option.ext fun v=>(q2.val x v).trans (k2.val x v).symm
   rw [hf]
   exact hat
 .rw [decide_eq_false he]
  refine wpIn_skip (fin a w2 L2 (h.pick _ ⟨rfl,rfl,rfl,rfl,rfl,rfl,rfl,rfl,rfl,rfl,trivial⟩) ⟨hk2,hit2,hi.bx,(hi.th.grow hg2).skip he,hi.T⟩)
/-! ### helpers: begin,the items -/
theorem sl109:Tryz.prog.underlying 127=some (.slice 116):=by kernel_rfl
theorem sl22q:Tryz.prog.underlying 22=some (.slice 75):=by kernel_rfl
theorem sl38:Tryz.prog.underlying 23=some (.slice 77):=by kernel_rfl
theorem Ot:∃ ie,Tryz.prog.info? 116=some ie/\ie.zero=some (.pointer none)/\ie.size=1/\ie.bytes=8:=⟨_,rfl,rfl,rfl,rfl⟩
theorem Q1(w:World)(p:Option Addr):(Instr.buildSlice 127 1 #[(0,.pointer p)]).run Tryz.prog w=.ok (.slice (some ⟨w.heap.size,0,none⟩) 1 1) (w.alloc (.cells #[.pointer p] 116 (0,0))):=by
 obtain ⟨ie,h1,h2,h3,h4⟩:=Ot
 have hz:(Value.pointer none).cells=#[.pointer none]:=rfl
 have hy:(Value.pointer p).cells=#[.pointer p]:=rfl
 simp [Instr.buildSlice,run_underlying sl109,sizeOf,typeInfo,zeroValue,h1,h2,h3,newRow,hz,Instr.fill,hy]
 congr 2
 apply Array.ext
 .simp
 .intro i g1 g2
  have:i=0:=by simp at g2;omega
  subst this
  simp
structure SU (w0:World) (K:Kst) (xI xR:Value) (m bK bS:Nat) (L:Lay) (w:World):Prop where
 kept:AR w0.heap.size [] w0 w
 le:w0.heap.size<=w.heap.size
 box:w.heap[bK]? = some (.cells #[xI,xR] 25 (0,0))
 bk:w0.heap.size<=bK
 T:L.T=T7
 xI:L.xI=xI
 xR:L.xR=xR
 bs:L.at_ .shop=bS
 shop:Ao L (Kst.upto K m) (st0 K) w
 low:∀ t,Tg.ok (Kst.upto K m) t->w0.heap.size<=L.at_ t/\L.at_ t≠bK
 row:PO L m w
def U1(bK bS:Nat)(xI:Value)(n m:Nat):List (Nat × Value) :=
 [(1,.pointer (some ⟨bK,0,none⟩)),(3,.pointer (some ⟨bS,0,none⟩)),(13,xI),(14,.int .i64 (n:Int)),(15,.int .i64 (m:Int))]
def Qy(L:Lay)(s:Nat):Lay:={ L with at_:=fun t=>match t with
 | .th _=>s+5
 | .ck _=>s+1
 | .hs _=>s+2
 | .hd _=>s+3
 | .bd _=>s+4
 | t=>L.at_ t }
theorem Nw{w:World}{L:Lay}{m bT:Nat}(hx:PO L m w)(hmax:m<1000000){bP c0:Nat}(hP:w.heap[bP]? = some (.cells #[.pointer (some ⟨bT,0,none⟩)] 116 (0,0)))(ty:TypeId) :
  ∃ A cap rowB cap' cur w',w.heap[L.at_ .shop]? = some (.cells #[L.xI,L.xR,.slice A m cap,.int .i64 0] 129 (0,0))/\(Builtin.append_ #[127,127] ty #[.slice A m cap,.slice (some ⟨bP,0,none⟩) 1 1]).run Tryz.prog w=.ok (.slice (some ⟨rowB,0,none⟩) (m+1) cap') w' /\
   w'.os=w.os/\w'.tape=w.tape/\w'.output=w.output/\w.heap.size<=w'.heap.size/\(∀ k,k<w.heap.size->(0<m->k≠L.at_ .row)->w'.heap[k]? = w.heap[k]?)/\((0<m/\rowB=L.at_ .row)\/w.heap.size<=rowB) /\
   w'.heap[rowB]? = some (.cells cur 116 (0,0))/\cur.size=cap'/\m+1<=cap'/\cap'<=maxLen/\(∀ i,i<m->cur[i]? = some (.pointer (some ⟨L.at_ (.th i),0,none⟩)))/\cur[m]? = some (.pointer (some ⟨bT,0,none⟩)):=by
 obtain ⟨ie,h1,h2,h3,h4⟩:=Ot
 obtain ⟨A,cap,hs,hc⟩:=hx.ex
 have hl:([.pointer (some ⟨bT,0,none⟩)]:List Value).length=1 * ie.size:=by rw [h3];rfl
 have hnews:∀ j u,([.pointer (some ⟨bT,0,none⟩)]:List Value)[j]? = some u->w.cell? (Addr.add ⟨bP,0,none⟩ j)=some u:=fun j u hj=>by
  rw [Addr.add_mid]
  cases j with
  | zero=>cases hj;exact CG hP rfl
  | succ j=>simp at hj
 have h1c:∀ u∈([.pointer (some ⟨bT,0,none⟩)]:List Value),u.oneCell'=true:=by intro u hu;simp at hu;subst hu;rfl
 rcases hc with ⟨rfl,rfl⟩ | ⟨hm,c,rfl,hr,hcs,hle,hmx,hci⟩
 .obtain ⟨g',cap',w',hrun,hg⟩:=F5 (P:=Tryz.prog) (ty:=ty) sl109 h1 h2 (by rw [h3];rfl) A (by omega:0<1) (c:=1) hl hnews (by unfold maxLen;omega) (by rw [h4];omega)
  obtain ⟨cur,q1,q2,q3⟩:=hg.cells
  refine ⟨A,0,g',cap',cur,w',hs,hrun,hg.grown.os,hg.grown.tape,hg.grown.output,hg.grown.size,fun k hk _=>hg.grown.block k hk (by simp),?_,q1,by rw [q2,h3,Nat.mul_one],hg.le,hg.max,fun i hi=>by omega,?_⟩
  .rcases hg.place with e | e
   .cases e
   .exact .inr e
  .rw [h3] at q3
   have:=congrArg (·[0]?) q3
   simpa using this
 .obtain ⟨g',cap',w',hrun,hg⟩:=Im (P:=Tryz.prog) (ty:=ty) sl109 h1 h2 (by rw [h3];rfl) hr hle hmx (by rw [hcs,h3,Nat.mul_one]) (c:=1) hl hnews h1c (by unfold maxLen;omega) (by rw [h4];omega)
  obtain ⟨cur,q1,q2,q3⟩:=hg.cells
  rw [h3] at q3
  simp only [Nat.mul_one] at q3
  have hcl:c.toList.length=cap:=by simpa using hcs
  have htl:(c.toList.take m).length=m:=by rw [List.length_take,hcl];omega
  refine ⟨some ⟨L.at_ .row,0,none⟩,cap,g',cap',cur,w',hs,hrun,hg.grown.os,hg.grown.tape,hg.grown.output,hg.grown.size,fun k hk hne=>hg.grown.block k hk (fun e=>hne hm (by cases e;rfl)),?_,q1,by rw [q2,h3,Nat.mul_one],hg.le,hg.max,fun i hi=>?_,?_⟩
  .rcases hg.place with e | e
   .cases e;exact .inl ⟨hm,rfl⟩
   .exact .inr e
  .have:=congrArg (·[i]?) q3
   rw [List.getElem?_take,if_pos (by omega),List.getElem?_append_left (by omega),List.getElem?_take,if_pos hi] at this
   rw [<- Array.getElem?_toList,this,Array.getElem?_toList]
   exact hci i hi
  .have:=congrArg (·[m]?) q3
   rw [List.getElem?_take,if_pos (by omega),List.getElem?_append_right (by omega),htl,Nat.sub_self] at this
   rw [<- Array.getElem?_toList,this]
   rfl
/-! ### helpers: begin,the whole -/
theorem LA{K:Kst}{i r:Nat}:(Kst.rul K 0).dom i r=false:=by
 show (decide (r<0)&&_)=false
 simp
theorem Pi{L:Lay}{K:Kst}{m s:Nat}{w:World}(hT:L.T=T7)(h1:w.heap[s+1]? = some (.map #[] 0))(h2:w.heap[s+2]? = some (.map #[] 0))(h3:w.heap[s+3]? = some (.map #[] 0))(h4:w.heap[s+4]? = some (.map #[] 0))(h5:w.heap[s+5]? = some (.cells #[.string (K.di.ss m 0),.int .i64 (K.di.ii m 1),.int .i64 (K.di.ii m 2),.map (some (s+1)),.map (some (s+2)),.map (some (s+3)),.int .i64 0,.bool false,.map (some (s+4))] 123 (0,0))):HY (Qy L s) K m 0 s s w:=by
 have nocb:∀ i r,¬ PM K m 0 (.cb i r):=fun i r h=>by
  have:=h.2.2
  have this:(Kst.rul K 0).dom i r=true:=this
  rw [LA] at this;cases this
 have em:∀ i,Nat.beq i m=true->i=m:=fun i h=>Nat.eq_of_beq_eq_true h
 refine ⟨fun x y hx hy e=>?_,fun t ht=>?_,fun t ht=>?_⟩
 .cases x with
  | shop=>cases hx.1
  | row=>cases hx.1
  | cb i r=>exact absurd hx (nocb i r)
  | _ =>
   cases y with
   | shop=>cases hy.1
   | row=>cases hy.1
   | cb i r=>exact absurd hy (nocb i r)
   | _ =>
    first
     | (have e1:=em _ hx.1;have e2:=em _ hy.1;rw [e1,e2];done)
     | (exfalso;simp only [Qy] at e;omega)
 .cases t with
  | shop=>cases ht.1
  | row=>cases ht.1
  | cb i r=>exact absurd ht (nocb i r)
  | th i =>
   have e:=em i ht.1;subst e
   refine ⟨_,h5,?_⟩
   show _=Obj.cells (thV (Qy L s) (Kst.rul K 0) (st0 K) i) L.T.th (0,0)
   rw [hT]
   rfl
  | ck i =>
   refine ⟨_,h1,#[],0,fun _=>none,rfl,AZ.empty _ 0,fun r=>?_⟩
   rw [LA];simp
  | hs i=>exact ⟨_,h2,#[],0,fun _=>none,rfl,AZ.empty _ 0,fun r=>by simp [st0,th0]⟩
  | hd i=>exact ⟨_,h3,#[],0,fun _=>none,rfl,AZ.empty _ 0,fun r=>by simp [st0,th0]⟩
  | bd i=>exact ⟨_,h4,#[],0,fun _=>none,rfl,AZ.empty _ 0,fun r=>by simp [st0,th0]⟩
 .cases t with
  | shop=>cases ht.1
  | row=>cases ht.1
  | cb i r=>exact absurd ht (nocb i r)
  | _=>simp only [Qy];omega
abbrev c91X:Code:=.seq c83_3 (.seq (.cond (.tmp 16) .skip (.exit 0)) (.seq (.block 1 (.seq c83_4 (.seq c83_5 (.seq (.seq c83_6 (.block 2 (.loop (.seq c83_7 (.seq (.cond (.tmp 30) .skip (.exit 2)) (.seq (.block 3 (.seq c83_8 (.seq c83_9 (.cond (.tmp 38) c83_10 .skip)))) c83_11)))))) c83_12)))) c83_13))
theorem c83_eqX:cd83=.seq c83_0 (.seq c83_1 (.seq (.seq c83_2 (.block 0 (.loop c91X))) (.seq c83_14 .ret))):=c83_eq
theorem Ls{w0:World}{K:Kst}{A1 A2:Option Addr}{c1 c2:Nat}{od:Od}(hsrc:Src w0 K (.slice A1 K.n c1) (.slice A2 K.r c2) od)(hn:K.n<=1000000)(hrn:K.r<=1000000){bK bS:Nat}{Q:Exit->Act->World->Prop}(hQ:∀ a w L,Sl a 61 (U1 bK bS (.slice A1 K.n c1) K.n K.n)->SU w0 K (.slice A1 K.n c1) (.slice A2 K.r c2) K.n bK bS L w->Q .normal a w) :
  ∀ (fu m:Nat),K.n - m<fu->m<=K.n->∀ (a:Act) (w:World) (L:Lay),Sl a 61 (U1 bK bS (.slice A1 K.n c1) K.n m)->SU w0 K (.slice A1 K.n c1) (.slice A2 K.r c2) m bK bS L w ->
   Code.roundsIn (FW none) 0 Tryz.prog c91X (Exit.inBlock 0 Q) fu a w:=by
 intro fu
 induction fu with
 | zero=>intro m h;omega
 | succ fu ih =>
 intro m hf hm a w L h hi
 rw [roundsIn_succ]
 obtain ⟨t0,p0,b0,hR⟩:=c83_3_eq
 refine wpIn_seq (Aj hR ?_)
 refine H.val h rfl rfl rfl (KN (x:=(m:Int)) (y:=(K.n:Int)) rfl (h.g rfl) (h.g rfl)) (fun c e=>by cases e) fun a h=>?_
 show Code.wpIn (FW none) 0 Tryz.prog (.seq _ _) _ _ _
 refine wpIn_seq ?_
 by_cases hlt:m<K.n
 rotate_left
 .have e:decide ((m:Int)<(K.n:Int))=false:=decide_eq_false (by omega)
  rw [e] at h
  have hqr:m=K.n:=by omega
  subst hqr
  refine wpIn_cond (t:=false) (h.g rfl) (wpIn_exit ?_)
  exact hQ a w L (h.pick _ ⟨rfl,rfl,rfl,rfl,rfl,trivial⟩) hi
 have e:decide ((m:Int)<(K.n:Int))=true:=decide_eq_true (by omega)
 rw [e] at h
 refine wpIn_cond (t:=true) (h.g rfl) (wpIn_skip ?_)
 show Code.wpIn (FW none) 0 Tryz.prog (.seq _ _) _ _ _
 refine wpIn_seq (wpIn_block ?_)
 -- the item's box
 obtain ⟨u0,p0,b0,u1,p1,b1,u2,p2,b2,u3,p3,b3,hR4⟩:=c83_4_eq
 refine wpIn_seq (Aj hR4 ?_)
 obtain ⟨p,hp1,hp2⟩:=P8 (hsrc.ok hi.kept) hsrc.xI hlt
 refine H.val h rfl rfl rfl (x:=p) (w':=w) (by have g1:=h.g (t:=13) rfl;have g2:=h.g (t:=15) rfl;unfold execOp;simp [g1,g2,hp1]) (fun c e=>by cases e) fun a h=>?_
 refine H.val h rfl rfl rfl (x:=.agg #[.string (K.di.ss m 0),.int .i64 (K.di.ii m 1),.int .i64 (K.di.ii m 2)]) (w':=w) (by have g1:=h.g (t:=17) rfl;unfold execOp;simp [g1,hp2]) (fun c e=>by cases e) fun a h=>?_
 refine H.val h rfl rfl rfl (R.alloc rfl TB) (fun c e=>by cases e) fun a h=>?_
 obtain ⟨w2,hr2,hb2,hg2,hs2⟩:=Ho (w:=w) (t:=75) (e:=75) (n:=3) (c:=(Value.agg #[.string .empty,.int .i64 0,.int .i64 0]).cells) (y:=.agg #[.string (K.di.ss m 0),.int .i64 (K.di.ii m 1),.int .i64 (K.di.ii m 2)]) (by kernel_rfl) rfl rfl (by intro v hv;simp [Value.cells] at hv;rcases hv with rfl | rfl | rfl <;> rfl) rfl
 refine H.skip h rfl rfl (R.store rfl (h.g rfl) (h.g rfl) hr2) (fun c e=>by cases e) fun a h=>?_
 have hcl:(Value.agg #[.string (K.di.ss m 0),.int .i64 (K.di.ii m 1),.int .i64 (K.di.ii m 2)]).cells=#[.string (K.di.ss m 0),.int .i64 (K.di.ii m 1),.int .i64 (K.di.ii m 2)]:=rfl
 rw [hcl] at hb2
 -- the thing
 obtain ⟨u0,p0,b0,u1,p1,b1,u2,p2,b2,u3,p3,b3,u4,p4,b4,u5,p5,b5,u6,p6,b6,u7,p7,b7,hR5⟩:=c83_5_eq
 show Code.wpIn (FW none) 0 Tryz.prog (.seq c83_5 _) _ _ _
 refine wpIn_seq (Aj hR5 ?_)
 refine H.val h rfl rfl rfl (R.loadA (l:=[.string (K.di.ss m 0),.int .i64 (K.di.ii m 1),.int .i64 (K.di.ii m 2)]) rfl (h.g rfl) hb2 (by kernel_rfl)) (fun c e=>by cases e) fun a h=>?_
 have q3:∃ w3,w3=w2.alloc (.map #[] 0):=⟨_,rfl⟩
 obtain ⟨w3,hw3⟩:=q3
 refine H.val h rfl rfl rfl (w':=w3) (by rw [hw3];exact R.mkmap rfl) (fun c e=>by cases e) fun a h=>?_
 obtain ⟨w4,hw4⟩:∃ w4,w4=w3.alloc (.map #[] 0):=⟨_,rfl⟩
 refine H.val h rfl rfl rfl (w':=w4) (by rw [hw4];exact R.mkmap rfl) (fun c e=>by cases e) fun a h=>?_
 obtain ⟨w5,hw5⟩:∃ w5,w5=w4.alloc (.map #[] 0):=⟨_,rfl⟩
 refine H.val h rfl rfl rfl (w':=w5) (by rw [hw5];exact R.mkmap rfl) (fun c e=>by cases e) fun a h=>?_
 obtain ⟨w6,hw6⟩:∃ w6,w6=w5.alloc (.map #[] 0):=⟨_,rfl⟩
 refine H.val h rfl rfl rfl (w':=w6) (by rw [hw6];exact R.mkmap rfl) (fun c e=>by cases e) fun a h=>?_
 have s3:w3.heap.size=w.heap.size+2:=by rw [hw3,CQ];omega
 have s4:w4.heap.size=w.heap.size+3:=by rw [hw4,CQ];omega
 have s5:w5.heap.size=w.heap.size+4:=by rw [hw5,CQ];omega
 have s6:w6.heap.size=w.heap.size+5:=by rw [hw6,CQ];omega
 refine H.val h rfl rfl rfl (w':=w6) (R.build rfl (xs:=#[(0,.agg #[.string (K.di.ss m 0),.int .i64 (K.di.ii m 1),.int .i64 (K.di.ii m 2)]),(1,.map (some (w.heap.size+1))),(2,.map (some (w.heap.size+2))),(3,.map (some (w.heap.size+3))),(6,.map (some (w.heap.size+4)))]) (by
  have g1:=h.g (t:=19) rfl;have g2:=h.g (t:=20) rfl;have g3:=h.g (t:=21) rfl;have g4:=h.g (t:=22) rfl;have g5:=h.g (t:=23) rfl
  rw [hs2] at g2;rw [s3] at g3;rw [s4] at g4;rw [s5] at g5
  simp only [List.map_toArray,List.map_cons,List.map_nil,g1,g2,g3,g4,g5]) (Q3 _ _ _ _ _ _ _)) (fun c e=>by cases e) fun a h=>?_
 obtain ⟨w7,hw7⟩:∃ w7,w7=w6.alloc (.cells (Value.agg #[.string (K.di.ss m 0),.int .i64 (K.di.ii m 1),.int .i64 (K.di.ii m 2),.map (some (w.heap.size+1)),.map (some (w.heap.size+2)),.map (some (w.heap.size+3)),.int .i64 0,.bool false,.map (some (w.heap.size+4))]).cells 123 (0,0)):=⟨_,rfl⟩
 refine H.val h rfl rfl rfl (w':=w7) (by rw [hw7];exact R.box rfl (h.g rfl)) (fun c e=>by cases e) fun a h=>?_
 refine H.val h rfl rfl rfl (R.assign rfl (h.g rfl)) (fun c e=>by cases e) fun a h=>?_
 have g38:BY w2 w3:=by rw [hw3];exact BY.alloc _ _
 have g26:BY w3 w4:=by rw [hw4];exact BY.alloc _ _
 have g45q:BY w4 w5:=by rw [hw5];exact BY.alloc _ _
 have g56q:BY w5 w6:=by rw [hw6];exact BY.alloc _ _
 have g13:BY w6 w7:=by rw [hw7];exact BY.alloc _ _
 have g57q:=g56q.trans g13
 have g42:=g45q.trans g57q
 have g7:=g26.trans g42
 have g27q:=g38.trans g7
 have gw7:BY w w7:=hg2.trans g27q
 have m1:w7.heap[w.heap.size+1]? = some (.map #[] 0):=g7.keep (by rw [hw3,<- hs2];exact heap_alloc_new _ _)
 have m2:w7.heap[w.heap.size+2]? = some (.map #[] 0):=g42.keep (by rw [hw4,<- s3];exact heap_alloc_new _ _)
 have m3:w7.heap[w.heap.size+3]? = some (.map #[] 0):=g57q.keep (by rw [hw5,<- s4];exact heap_alloc_new _ _)
 have m4:w7.heap[w.heap.size+4]? = some (.map #[] 0):=g13.keep (by rw [hw6,<- s5];exact heap_alloc_new _ _)
 have m5:w7.heap[w.heap.size+5]? = some (.cells #[.string (K.di.ss m 0),.int .i64 (K.di.ii m 1),.int .i64 (K.di.ii m 2),.map (some (w.heap.size+1)),.map (some (w.heap.size+2)),.map (some (w.heap.size+3)),.int .i64 0,.bool false,.map (some (w.heap.size+4))] 123 (0,0)):=by
  rw [hw7,<- s6];exact heap_alloc_new _ _
 have hth:=Pi (L:=L) (K:=K) (m:=m) (s:=w.heap.size) hi.T m1 m2 m3 m4 m5
 rw [s6] at h
 -- the rules
 obtain ⟨u0,p0,b0,u1,p1,b1,u2,p2,b2,u3,p3,b3,hR6⟩:=c83_6_eq
 show Code.wpIn (FW none) 0 Tryz.prog (.seq (.seq c83_6 _) c83_12) _ _ _
 refine wpIn_seq (wpIn_seq (Aj hR6 ?_))
 refine H.val h rfl rfl rfl (R.field rfl (h.g rfl) (j:=1) (by kernel_rfl)) (fun c e=>by cases e) fun a h=>?_
 refine H.val h rfl rfl rfl (R.loadV (y:=.slice A2 K.r c2) rfl (h.g rfl) (gw7.keep hi.box) (by kernel_rfl)) (fun c e=>by cases e) fun a h=>?_
 refine H.val h rfl rfl rfl (R.len rfl sl38 (h.g rfl)) (fun c e=>by cases e) fun a h=>?_
 refine H.val h rfl rfl rfl (R.cmove rfl) (fun c e=>by cases e) fun a h=>?_
 show Code.wpIn (FW none) 0 Tryz.prog (.block 2 _) _ _ _
 refine wpIn_block (wpIn_loop_rounds (K.r+1) ?_)
 refine Lt (bX:=w.heap.size) (bK:=bK) (bS:=bS) (n:=K.n) hsrc hrn hi.kept hi.le (m:=m) (fun a8 w8 L8 h hr=>?_) (K.r+1) 0 (by omega) (Nat.zero_le _) a w7 (Qy L w.heap.size) (h.pick _ ⟨rfl,rfl,rfl,rfl,rfl,rfl,rfl,rfl,rfl,rfl,trivial⟩) ⟨gw7,g27q.keep hb2,Nat.le_refl _,hth,hi.T⟩
 -- the row
 obtain ⟨u0,p0,b0,u1,p1,b1,u2,p2,b2,u3,p3,b3,u4,p4,b4,u5,p5,b5,u6,p6,b6,u7,p7,b7,u8,p8,b8,u9,p9,b9,u10,p10,b10,hR12⟩:=c83_12_eq
 show Code.wpIn (FW none) 0 Tryz.prog c83_12 _ _ _
 have hk8:BY w w8:=hr.kept
 have hsh8:Ao L (Kst.upto K m) (st0 K) w8:=hi.shop.keep fun b o hb=>hk8.keep hb
 have hrow8:PO L m w8:=by
  obtain ⟨A,cap,q1,q2⟩:=hi.row.ex
  refine ⟨A,cap,hk8.keep q1,q2.imp id fun ⟨q3,c,q4,q5,q6⟩=>⟨q3,c,q4,hk8.keep q5,q6⟩⟩
 have hold:∀ t,Tg.ok (Kst.upto K m) t->L.at_ t<w.heap.size:=fun t ht=>let ⟨o,q1,_⟩:=hi.shop.at_ t ht;(Array.getElem?_eq_some_iff.1 q1).1
 have hnew:∀ t,PM K m K.r t->L8.at_ t<w8.heap.size:=fun t ht=>let ⟨o,q1,_⟩:=hr.th.at_ t ht;(Array.getElem?_eq_some_iff.1 q1).1
 obtain ⟨w9,hw9⟩:∃ w9,w9=w8.alloc (.cells #[.pointer (some ⟨L8.at_ (.th m),0,none⟩)] 116 (0,0)):=⟨_,rfl⟩
 have g89q:BY w8 w9:=by rw [hw9];exact BY.alloc _ _
 have s9:w9.heap.size=w8.heap.size+1:=by rw [hw9,CQ]
 have hP9:w9.heap[w8.heap.size]? = some (.cells #[.pointer (some ⟨L8.at_ (.th m),0,none⟩)] 116 (0,0)):=by rw [hw9];exact heap_alloc_new _ _
 have hrow9:PO L m w9:=by
  obtain ⟨A,cap,q1,q2⟩:=hrow8.ex
  refine ⟨A,cap,g89q.keep q1,q2.imp id fun ⟨q3,c,q4,q5,q6⟩=>⟨q3,c,q4,g89q.keep q5,q6⟩⟩
 obtain ⟨A,cap,rowB,cap',cur,w10,hsc,hap,z1,z2,z3,z4,zk,zp,zc,zcs,zle,zmx,zci,zcm⟩:=Nw (bT:=L8.at_ (.th m)) hrow9 (by omega) (c0:=0) hP9 u7
 have hshopne:L.at_ .shop≠rowB:=by
  rcases zp with ⟨h0,e⟩ | e
  .rw [e];intro e';cases hi.shop.inj .shop .row trivial h0 e'
  .have:=hold .shop trivial;have:=hk8.size;omega
 have hsc10:w10.heap[L.at_ .shop]? = some (.cells #[L.xI,L.xR,.slice A m cap,.int .i64 0] 129 (0,0)):=by
  rw [zk _ (by have:=hold .shop trivial;have:=hk8.size;omega) (fun h0 e'=>by cases hi.shop.inj .shop .row trivial h0 e')]
  exact hsc
 obtain ⟨w11,hr11,hb11,hk11,hs11,y1,y2,y3⟩:=Kl (t:=127) (j:=2) (n:=1) (y:=.slice (some ⟨rowB,0,none⟩) (m+1) cap') hsc10 (by kernel_rfl) rfl (by show 3<=4;omega) (by intro v hv;simp [Value.cells] at hv;subst hv;rfl)
 have hbs:=hi.bs
 refine Aj hR12 ?_
 refine H.val h rfl rfl rfl (R.move rfl (h.g rfl)) (fun c e=>by cases e) fun a h=>?_
 refine H.val h rfl rfl rfl (R.move rfl (h.g rfl)) (fun c e=>by cases e) fun a h=>?_
 refine H.val h rfl rfl rfl (R.nilc rfl (h.g rfl)) (fun c e=>by cases e) fun a h=>?_
 refine H.val h rfl rfl rfl (R.field rfl (h.g rfl) (j:=2) (by kernel_rfl)) (fun c e=>by cases e) fun a h=>?_
 have hsc8:w8.heap[bS]? = some (.cells #[L.xI,L.xR,.slice A m cap,.int .i64 0] 129 (0,0)):=by
  have:=hsc
  rw [hbs] at this
  rw [<- this]
  exact (g89q.block bS (by rw [<- hbs];have:=hold .shop trivial;have:=hk8.size;omega) (by simp)).symm
 refine H.val h rfl rfl rfl (R.loadV (y:=.slice A m cap) rfl (h.g rfl) hsc8 (by kernel_rfl)) (fun c e=>by cases e) fun a h=>?_
 refine H.val h rfl rfl rfl (R.move rfl (h.g rfl)) (fun c e=>by cases e) fun a h=>?_
 refine H.val h rfl rfl rfl (x:=.slice (some ⟨w8.heap.size,0,none⟩) 1 1) (w':=w9) (by
  have g1:=h.g (t:=54) rfl
  unfold execOp
  simp only [List.map_toArray,List.map_cons,List.map_nil,g1]
  rw [Sem.run_bind,Q1,hw9]
  rfl) (fun c e=>by cases e) fun a h=>?_
 refine H.val h rfl rfl rfl (R.append rfl (h.g rfl) (h.g rfl) hap) (fun c e=>by cases e) fun a h=>?_
 refine H.val h rfl rfl rfl (R.nilc rfl (h.g rfl)) (fun c e=>by cases e) fun a h=>?_
 refine H.val h rfl rfl rfl (R.field rfl (h.g rfl) (j:=2) (by kernel_rfl)) (fun c e=>by cases e) fun a h=>?_
 rw [hbs] at hr11
 refine H.skip h rfl rfl (R.store rfl (h.g rfl) (h.g rfl) hr11) (fun c e=>by cases e) fun a h=>?_
 -- all together
 have hcells:(⟨Di (#[L.xI,L.xR,.slice A m cap,.int .i64 0]:Array Value).toList 2 (Value.slice (some ⟨rowB,0,none⟩) (m+1) cap').cells.toList⟩:Array Value)=#[L.xI,L.xR,.slice (some ⟨rowB,0,none⟩) (m+1) cap',.int .i64 0]:=rfl
 rw [hcells] at hb11
 have ge11:∀ k o,k<w8.heap.size->k≠L.at_ .shop->(0<m->k≠L.at_ .row)->w8.heap[k]? = some o->w11.heap[k]? = some o:=fun k o hk h1 h2 ho=>by
  rw [hk11 k h1,zk k (by omega) h2]
  exact g89q.keep ho
 have hrow11:w11.heap[rowB]? = some (.cells cur 116 (0,0)):=(hk11 rowB (Ne.symm hshopne)).trans zc
 obtain ⟨hshop',hrow'⟩:=join (L:=L) (L2:=L8) (K:=K) (m:=m) (w:=w8) (w':=w11) (rowB:=rowB) (cap:=cap') (c:=cur) hi.T hr.T hsh8 hold hr.th (fun s o hs n1 n2 ho=>ge11 _ o (Nat.lt_of_lt_of_le (hold s hs) hk8.size) (fun e=>n2 (hi.shop.inj s .shop hs trivial e)) (fun h0 e=>n1 (hi.shop.inj s .row hs h0 e)) ho)
  (fun s o hs ho=>by
   have hl:=(hr.th.low s hs).1
   exact ge11 _ o (hnew s hs) (fun e=>by have:=hold .shop trivial;omega) (fun h0 e=>by have:=hold .row h0;omega) ho) hrow11 zcs zle zmx zci zcm hb11
  (fun s hs n1 e=>by
   rcases zp with ⟨h0,e'⟩ | e'
   .rw [e'] at e;exact n1 (hi.shop.inj s .row hs h0 e)
   .have:=hold s hs;have:=hk8.size;omega)
  (fun s hs e=>by
   have hl:=(hr.th.low s hs).1
   have h9:=hnew s hs
   rcases zp with ⟨h0,e'⟩ | e'
   .have:=hold .row h0;omega
   .omega)
 have hout:SU w0 K (.slice A1 K.n c1) (.slice A2 K.r c2) (m+1) bK bS (J1 L L8 m rowB) w11:=by
  have hkB:∀ k,k<w8.heap.size->k≠L.at_ .shop->(0<m->k≠L.at_ .row)->w11.heap[k]? = w8.heap[k]?:=fun k hk h1 h2=>by
   rw [hk11 k h1,zk k (by omega) h2]
   exact g89q.block k hk (by simp)
  have hsz:w8.heap.size<=w11.heap.size:=by omega
  have hw8:=hk8.size
  have hle:=hi.le
  refine ⟨⟨?_,?_,?_,by have:=hi.kept.size;omega,fun k hk hm=>?_⟩,by omega,?_,hi.bk,hi.T,hi.xI,hi.xR,hbs,hshop',fun t ht=>?_,hrow'⟩
  .rw [y1,z1,g89q.os,hk8.os];exact hi.kept.os
  .rw [y2,z2,g89q.tape,hk8.tape];exact hi.kept.tape
  .rw [y3,z3,g89q.output,hk8.output];exact hi.kept.output
  .have hlow:=(hi.low .shop trivial).1
   rw [hkB k (by omega) (by omega) (fun h0 e=>by have:=(hi.low .row h0).1;omega),hk8.block k (by omega) (by simp)]
   exact hi.kept.block k hk hm
  .have hbk:=(Array.getElem?_eq_some_iff.1 hi.box).1
   rw [hkB bK (by omega) (Ne.symm (hi.low .shop trivial).2) (fun h0=>Ne.symm (hi.low .row h0).2),hk8.block bK hbk (by simp)]
   exact hi.box
  .have hbk:=(Array.getElem?_eq_some_iff.1 hi.box).1
   rcases Em ht with t1 | ⟨t1,rfl⟩ | ⟨t1,t2,t3⟩
   .have e:(J1 L L8 m rowB).at_ t=L8.at_ t:=by show cond (isN m t) _ _=_;rw [t1.1];rfl
    rw [e]
    have:=(hr.th.low t t1).1
    omega
   .show w0.heap.size<=rowB/\rowB≠bK
    rcases zp with ⟨h0,e'⟩ | e'
    .rw [e'];exact hi.low .row h0
    .omega
   .have e:(J1 L L8 m rowB).at_ t=L.at_ t:=by
     show cond (isN m t) _ _=_
     rw [t1]
     cases t with
     | row=>exact absurd rfl t2
     | _=>rfl
    rw [e]
    exact hi.low t t3
 obtain ⟨v0,o0,d0,v1,o1,d1,hR13⟩:=c83_13_eq
 show Code.wpIn (FW none) 0 Tryz.prog c83_13 _ _ _
 refine Aj hR13 ?_
 refine H.val h rfl rfl rfl (Ku (x:=(m:Int)) (y:=1) rfl (h.g rfl) rfl) (fun c e=>by cases e) fun a h=>?_
 refine H.val h rfl rfl rfl (R.move rfl (h.g rfl)) (fun c e=>by cases e) fun a h=>?_
 rw [wrS hlt (Nat.le_trans hn (by omega))] at h
 show Code.roundsIn (FW none) 0 Tryz.prog c91X _ fu a w11
 exact ih (m+1) (by omega) (by omega) a w11 _ (h.pick _ ⟨rfl,rfl,rfl,rfl,rfl,trivial⟩) hout
/-! ### helpers: begin -/
theorem Sl.args{a:Act}{nt:Nat}{xs:List Value}(hsz:a.tmps.size=nt)(hdf:a.defers=[])(hargs:∀ i x,xs[i]? = some x->a.eval (.tmp i)=x)(l:List (Nat × Value))(hl:∀ t v,EY l t=some v->xs[t]? = some v):Sl a nt l:=⟨hsz,hdf,fun h=>hargs _ _ (hl _ _ h)⟩
theorem Tr{K:Kst}{w:World}{xI xR:Value}(h:BB K xI xR (Bn w Br)):Src w K xI xR ⟨(Bn w Br).c,fun _=>none,Br⟩:=by
 obtain ⟨⟨A,cap,e1,e2,e3⟩,A',cap',f1,f2,f3⟩:=BB.mono (od':=⟨(Bn w Br).c,fun _=>none,Br⟩) (fun _ _ _ hv=>hv) h
 exact ⟨fun b o v hv=>⟨World.block_lt_of_cell? w _ hv,hv⟩,fun _=>rfl,fun _=>rfl,⟨A,cap,e1,e2,e3⟩,⟨A',cap',f1,f2,f3⟩⟩
theorem RD{K:Kst}{w:World}{xI xR:Value}(hS:BB K xI xR (Bn w Br))(hn:K.n<=1000000)(hrn:K.r<=1000000) :
  Calls Tryz.prog 83 ⟨[.agg #[xI,xR]]⟩ w fun e w'=>∃ ys,e=.returned (Nv ys)/\∃ L:Lay,ys=[.pointer (some ⟨L.at_ .shop,0,none⟩)]/\L.T=T7/\L.xI=xI/\L.xR=xR/\Ao L K (st0 K) w'/\(∀ t,Tg.ok K t->w.heap.size<=L.at_ t)/\AR w.heap.size [] w w':=by
 have hsrc:=Tr hS
 obtain ⟨⟨A1,c1,rfl,n1,_⟩,A2,c2,rfl,n2,_⟩:=hS
 refine Ef (fn:=Tryz.f83) (c:=cd83) Tryz.func83 rfl [2] rfl (xs:=[.agg #[.slice A1 K.n c1,.slice A2 K.r c2]]) (show 1<=Tryz.f83.ntmps by decide) (Q:=fun ys w'=>∃ L:Lay,ys=[.pointer (some ⟨L.at_ .shop,0,none⟩)]/\L.T=T7/\L.xI=.slice A1 K.n c1/\L.xR=.slice A2 K.r c2/\Ao L K (st0 K) w'/\(∀ t,Tg.ok K t->w.heap.size<=L.at_ t)/\AR w.heap.size [] w w') fun a hsz hdf hargs=>?_
 rw [c83_eqX]
 have h:Sl a 61 [(0,.agg #[.slice A1 K.n c1,.slice A2 K.r c2])]:=Sl.args hsz hdf hargs _ fun t v e=>by
  unfold EY at e
  cases t with
  | zero=>exact e
  | succ t=>cases e
 obtain ⟨u0,p0,b0,u1,p1,b1,hR0⟩:=c83_0_eq
 refine wpIn_seq (Aj hR0 ?_)
 obtain ⟨w1,hw1⟩:∃ w1,w1=w.alloc (.cells (Value.agg #[.slice A1 K.n c1,.slice A2 K.r c2]).cells 25 (0,0)):=⟨_,rfl⟩
 refine H.val h rfl rfl rfl (w':=w1) (by rw [hw1];exact R.box rfl (h.g rfl)) (fun c e=>by cases e) fun a h=>?_
 refine H.val h rfl rfl rfl (R.cassign rfl) (fun c e=>by cases e) fun a h=>?_
 have hb1:w1.heap[w.heap.size]? = some (.cells #[.slice A1 K.n c1,.slice A2 K.r c2] 25 (0,0)):=by rw [hw1];exact heap_alloc_new _ _
 have g01:BY w w1:=by rw [hw1];exact BY.alloc _ _
 have s1:w1.heap.size=w.heap.size+1:=by rw [hw1,CQ]
 obtain ⟨u0,p0,b0,u1,p1,b1,u2,p2,b2,u3,p3,b3,hR1⟩:=c83_1_eq
 show Code.wpIn (FW none) 0 Tryz.prog (.seq c83_1 _) _ _ _
 refine wpIn_seq (Aj hR1 ?_)
 refine H.val h rfl rfl rfl (R.loadA (l:=[.slice A1 K.n c1,.slice A2 K.r c2]) rfl (h.g rfl) hb1 (by kernel_rfl)) (fun c e=>by cases e) fun a h=>?_
 refine H.val h rfl rfl rfl (w':=w1) (R.build rfl (xs:=#[(0,.agg #[.slice A1 K.n c1,.slice A2 K.r c2])]) (by
  have g1:=h.g (t:=9) rfl
  simp only [List.map_toArray,List.map_cons,List.map_nil,g1]) (Q2 _ _)) (fun c e=>by cases e) fun a h=>?_
 obtain ⟨w2,hw2⟩:∃ w2,w2=w1.alloc (.cells (Value.agg #[.slice A1 K.n c1,.slice A2 K.r c2,.slice none 0 0,.int .i64 0]).cells 129 (0,0)):=⟨_,rfl⟩
 refine H.val h rfl rfl rfl (w':=w2) (by rw [hw2];exact R.box rfl (h.g rfl)) (fun c e=>by cases e) fun a h=>?_
 refine H.val h rfl rfl rfl (R.assign rfl (h.g rfl)) (fun c e=>by cases e) fun a h=>?_
 have hb2:w2.heap[w1.heap.size]? = some (.cells #[.slice A1 K.n c1,.slice A2 K.r c2,.slice none 0 0,.int .i64 0] 129 (0,0)):=by rw [hw2];exact heap_alloc_new _ _
 have g12:BY w1 w2:=by rw [hw2];exact BY.alloc _ _
 obtain ⟨u0,p0,b0,u1,p1,b1,u2,p2,b2,u3,p3,b3,hR2⟩:=c83_2_eq
 show Code.wpIn (FW none) 0 Tryz.prog (.seq (.seq c83_2 _) _) _ _ _
 refine wpIn_seq (wpIn_seq (Aj hR2 ?_))
 refine H.val h rfl rfl rfl (R.field rfl (h.g rfl) (j:=0) (by kernel_rfl)) (fun c e=>by cases e) fun a h=>?_
 refine H.val h rfl rfl rfl (R.loadV (y:=.slice A1 K.n c1) rfl (h.g rfl) (g12.keep hb1) (by kernel_rfl)) (fun c e=>by cases e) fun a h=>?_
 refine H.val h rfl rfl rfl (R.len rfl sl22q (h.g rfl)) (fun c e=>by cases e) fun a h=>?_
 refine H.val h rfl rfl rfl (R.cmove rfl) (fun c e=>by cases e) fun a h=>?_
 show Code.wpIn (FW none) 0 Tryz.prog (.block 0 _) _ _ _
 have only:∀ t,Tg.ok (Kst.upto K 0) t->t=.shop:=fun t ht=>by
  have key:∀ i,¬ i<(Kst.upto K 0).n:=fun i h=>Nat.not_lt_zero i h
  cases t with
  | shop=>rfl
  | row=>exact absurd ht (key 0)
  | th i=>exact absurd ht (key i)
  | ck i=>exact absurd ht (key i)
  | hs i=>exact absurd ht (key i)
  | hd i=>exact absurd ht (key i)
  | bd i=>exact absurd ht (key i)
  | cb i r=>exact absurd ht.1 (key i)
 refine wpIn_block (wpIn_loop_rounds (K.n+1) ?_)
 refine Ls (bK:=w.heap.size) (bS:=w1.heap.size) hsrc hn hrn (fun a w' L h hi=>?_) (K.n+1) 0 (by omega) (Nat.zero_le _) a w2 ⟨T7,fun _=>w1.heap.size,.slice A1 K.n c1,.slice A2 K.r c2⟩ (h.pick _ ⟨rfl,rfl,rfl,rfl,rfl,trivial⟩)
  ⟨g01.trans g12,(g01.trans g12).size,g12.keep hb1,Nat.le_refl _,rfl,rfl,rfl,rfl,⟨fun s t hs ht _=>(only s hs).trans (only t ht).symm,st0_ok K 0,fun t ht=>?_⟩,fun t ht=>⟨by show w.heap.size<=w1.heap.size;omega,by show w1.heap.size≠w.heap.size;omega⟩,⟨none,0,hb2,.inl ⟨rfl,rfl⟩⟩⟩
 .obtain ⟨u0,p0,b0,u1,p1,b1,hR14⟩:=c83_14_eq
  show Code.wpIn (FW none) 0 Tryz.prog (.seq c83_14 _) _ _ _
  refine wpIn_seq (Aj hR14 ?_)
  refine H.val h rfl rfl rfl (R.move rfl (h.g rfl)) (fun c e=>by cases e) fun a h=>?_
  refine H.val h rfl rfl rfl (R.assign rfl (h.g rfl)) (fun c e=>by cases e) fun a h=>?_
  show Code.wpIn (FW none) 0 Tryz.prog .ret _ _ _
  refine wpIn_ret ⟨.inl rfl,h.df,L,?_,hi.T,hi.xI,hi.xR,hi.shop,fun t ht=>(hi.low t ht).1,hi.kept⟩
  have e2:=h.g (t:=2) rfl
  simp only [List.map_cons,List.map_nil,e2,hi.bs]
 .have e:=only t ht
  subst e
  exact ⟨_,hb2,none,0,rfl,⟨Nat.le_refl _,fun _=>rfl⟩,fun h=>absurd h (Nat.lt_irrefl _)⟩
/-! ### helpers: follow,more,their regions -/
def cd56:Code:=Tryz.f56.body.getD .skip
def cd56_0:Code:=(B9 0 cd56).getD .skip
def cd56_1:Code:=(B9 1 cd56).getD .skip
def cd56_2:Code:=(B9 2 cd56).getD .skip
def cd56_3:Code:=(B9 3 cd56).getD .skip
def cd56_4:Code:=(B9 4 cd56).getD .skip
def cd56_5:Code:=(B9 5 cd56).getD .skip
def cd56_6:Code:=(B9 6 cd56).getD .skip
def cd56_7:Code:=(B9 7 cd56).getD .skip
def cd56_8:Code:=(B9 8 cd56).getD .skip
def cd56_9:Code:=(B9 9 cd56).getD .skip
def cd56_10:Code:=(B9 10 cd56).getD .skip
def cd56_11:Code:=(B9 11 cd56).getD .skip
def cd56_12:Code:=(B9 12 cd56).getD .skip
def cd56_13:Code:=(B9 13 cd56).getD .skip
def cd56_14:Code:=(B9 14 cd56).getD .skip
theorem cd56_0_eq:∃ t0 p0 a0 t1 p1 a1 t2 p2 a2 t3 p3 a3,cd56_0=.region 0 #[⟨some 2,.box 25 (.tmp 0),t0,p0,a0,none⟩,⟨some 4,.assign (.const (.pointer none)),t1,p1,a1,none⟩,⟨some 5,.assign (.const (.int .i64 0)),t2,p2,a2,none⟩,⟨some 6,.assign (.const (.int .i64 0)),t3,p3,a3,none⟩] false:=⟨_,_,_,_,_,_,_,_,_,_,_,_,rfl⟩
theorem cd56_1_eq:∃ t0 p0 a0 t1 p1 a1 t2 p2 a2,cd56_1=.region 1 #[⟨some 12,.load 25 (.tmp 2),t0,p0,a0,none⟩,⟨some 13,.call { callee:=.value (.func 16),args:=#[.tmp 12],argTypes:=#[25] },t1,p1,a1,none⟩,⟨some 7,.assign (.tmp 13),t2,p2,a2,none⟩] false:=⟨_,_,_,_,_,_,_,_,_,rfl⟩
theorem cd56_2_eq:∃ t0 p0 a0 t1 p1 a1,cd56_2=.region 2 #[⟨some 14,.move (.tmp 7),t0,p0,a0,none⟩,⟨some 15,.binOp .neq 32 (.tmp 14) (.const (.int .i64 0)) 32,t1,p1,a1,none⟩] false:=⟨_,_,_,_,_,_,rfl⟩
theorem cd56_3_eq:∃ t0 p0 a0 t1 p1 a1 t2 p2 a2 t3 p3 a3,cd56_3=.region 3 #[⟨some 16,.move (.tmp 7),t0,p0,a0,none⟩,⟨some 4,.assign (.const (.pointer none)),t1,p1,a1,none⟩,⟨some 5,.assign (.const (.int .i64 0)),t2,p2,a2,none⟩,⟨some 6,.assign (.tmp 16),t3,p3,a3,none⟩] false:=⟨_,_,_,_,_,_,_,_,_,_,_,_,rfl⟩
theorem cd56_4_eq:∃ t0 p0 a0 t1 p1 a1 t2 p2 a2,cd56_4=.region 4 #[⟨some 17,.move (.tmp 1),t0,p0,a0,none⟩,⟨some 18,.call { callee:=.builtin .len,args:=#[.tmp 17],argTypes:=#[55] },t1,p1,a1,none⟩,⟨some 19,.binOp .gtr 3 (.tmp 18) (.const (.int .i64 200)) 3,t2,p2,a2,none⟩] false:=⟨_,_,_,_,_,_,_,_,_,rfl⟩
theorem cd56_5_eq:∃ t0 p0 a0 t1 p1 a1 t2 p2 a2,cd56_5=.region 5 #[⟨some 4,.assign (.const (.pointer none)),t0,p0,a0,none⟩,⟨some 5,.assign (.const (.int .i64 0)),t1,p1,a1,none⟩,⟨some 6,.assign (.const (.int .i64 8)),t2,p2,a2,none⟩] false:=⟨_,_,_,_,_,_,_,_,_,rfl⟩
theorem cd56_6_eq:∃ t0 p0 a0 t1 p1 a1 t2 p2 a2,cd56_6=.region 6 #[⟨some 20,.load 25 (.tmp 2),t0,p0,a0,none⟩,⟨some 21,.call { callee:=.value (.func 83),args:=#[.tmp 20],argTypes:=#[25] },t1,p1,a1,none⟩,⟨some 8,.assign (.tmp 21),t2,p2,a2,none⟩] false:=⟨_,_,_,_,_,_,_,_,_,rfl⟩
theorem cd56_7_eq:∃ t0 p0 a0 t1 p1 a1 t2 p2 a2,cd56_7=.region 7 #[⟨some 22,.move (.tmp 1),t0,p0,a0,none⟩,⟨some 23,.call { callee:=.builtin .len,args:=#[.tmp 22],argTypes:=#[55] },t1,p1,a1,none⟩,⟨some 24,.move (.const (.int .i64 0)),t2,p2,a2,none⟩] false:=⟨_,_,_,_,_,_,_,_,_,rfl⟩
theorem cd56_8_eq:∃ t0 p0 a0,cd56_8=.region 8 #[⟨some 25,.binOp .lss 3 (.tmp 24) (.tmp 23) 3,t0,p0,a0,none⟩] false:=⟨_,_,_,rfl⟩
theorem cd56_9_eq:∃ t0 p0 a0 t1 p1 a1 t2 p2 a2 t3 p3 a3 t4 p4 a4 t5 p5 a5,cd56_9=.region 9 #[⟨some 26,.move (.tmp 24),t0,p0,a0,none⟩,⟨some 27,.indexAddr 55 (.tmp 22) (.tmp 24),t1,p1,a1,none⟩,⟨some 28,.load 27 (.tmp 27),t2,p2,a2,none⟩,⟨some 10,.alloc 27,t3,p3,a3,none⟩,⟨some 9,.assign (.tmp 26),t4,p4,a4,none⟩,⟨none,.store 27 (.tmp 10) (.tmp 28),t5,p5,a5,none⟩] false:=⟨_,_,_,_,_,_,_,_,_,_,_,_,_,_,_,_,_,_,rfl⟩
theorem cd56_10_eq:∃ t0 p0 a0 t1 p1 a1 t2 p2 a2 t3 p3 a3,cd56_10=.region 10 #[⟨some 29,.move (.tmp 8),t0,p0,a0,none⟩,⟨some 30,.load 27 (.tmp 10),t1,p1,a1,none⟩,⟨some 31,.call { callee:=.value (.func 84),args:=#[.tmp 29,.tmp 30],argTypes:=#[112,27] },t2,p2,a2,none⟩,⟨some 11,.assign (.tmp 31),t3,p3,a3,none⟩] false:=⟨_,_,_,_,_,_,_,_,_,_,_,_,rfl⟩
theorem cd56_11_eq:∃ t0 p0 a0 t1 p1 a1,cd56_11=.region 11 #[⟨some 32,.move (.tmp 11),t0,p0,a0,none⟩,⟨some 33,.binOp .neq 32 (.tmp 32) (.const (.int .i64 0)) 32,t1,p1,a1,none⟩] false:=⟨_,_,_,_,_,_,rfl⟩
theorem cd56_12_eq:∃ t0 p0 a0 t1 p1 a1 t2 p2 a2 t3 p3 a3 t4 p4 a4,cd56_12=.region 12 #[⟨some 34,.move (.tmp 9),t0,p0,a0,none⟩,⟨some 35,.move (.tmp 11),t1,p1,a1,none⟩,⟨some 4,.assign (.const (.pointer none)),t2,p2,a2,none⟩,⟨some 5,.assign (.tmp 34),t3,p3,a3,none⟩,⟨some 6,.assign (.tmp 35),t4,p4,a4,none⟩] false:=⟨_,_,_,_,_,_,_,_,_,_,_,_,_,_,_,rfl⟩
theorem cd56_13_eq:∃ t0 p0 a0 t1 p1 a1,cd56_13=.region 13 #[⟨some 36,.binOp .add 3 (.tmp 24) (.const (.int .i64 1)) 3,t0,p0,a0,none⟩,⟨some 24,.move (.tmp 36),t1,p1,a1,none⟩] false:=⟨_,_,_,_,_,_,rfl⟩
theorem cd56_14_eq:∃ t0 p0 a0 t1 p1 a1 t2 p2 a2 t3 p3 a3,cd56_14=.region 14 #[⟨some 37,.move (.tmp 8),t0,p0,a0,none⟩,⟨some 4,.assign (.tmp 37),t1,p1,a1,none⟩,⟨some 5,.assign (.const (.int .i64 0)),t2,p2,a2,none⟩,⟨some 6,.assign (.const (.int .i64 0)),t3,p3,a3,none⟩] false:=⟨_,_,_,_,_,_,_,_,_,_,_,_,rfl⟩
theorem cd56_eq:cd56=.seq cd56_0 (.seq (.seq cd56_1 (.seq cd56_2 (.cond (.tmp 15) (.seq cd56_3 .ret) .skip))) (.seq (.seq cd56_4 (.cond (.tmp 19) (.seq cd56_5 .ret) .skip)) (.seq cd56_6 (.seq (.seq cd56_7 (.block 0 (.loop (.seq cd56_8 (.seq (.cond (.tmp 25) .skip (.exit 0)) (.seq (.block 1 (.seq cd56_9 (.seq cd56_10 (.seq cd56_11 (.cond (.tmp 33) (.seq cd56_12 .ret) .skip))))) cd56_13)))))) (.seq cd56_14 .ret))))):=by kernel_rfl
/-! ### helpers: follow -/
section ops
variable {a:Act} {w:World} {o:Oper} {rd:Option Nat} {n nt:Nat}
theorem H.call{ops:Array Oper}{rest:List Oper}{Q:Exit->Act->World->Prop}{l:List (Nat × Value)}{d f:Nat}{fn:Func}{xs:List Value}(h:Sl a nt l)(hd:o.dst=some d)(hg:o.guard=none)(hdn:Nat.blt d nt=true)(hfun:Tryz.prog.funcs[f]? = some fn)(hbody:fn.body.isSome=true)(hname:(fn.name == "runtime.NumGoroutine")=false)(hrun:(execOp a.eval o).run Tryz.prog w=.ok (.enter f ⟨xs⟩) w)(hde:∀ c,o.op≠.defer c){R:Value->World->Prop}(hC:Calls Tryz.prog f ⟨xs⟩ w fun e w'=>∃ x,e=.returned x/\R x w')(hk:∀ a' x w',R x w'->Sl a' nt ((d,x) :: l)->wpListIn (FW rd) n Tryz.prog ops Q rest a' w'):wpListIn (FW rd) n Tryz.prog ops Q (o :: rest) a w:=by
 refine JF hg hfun hbody hname hrun hde hC fun x w' hR=>?_
 rw [hd]
 exact hk _ x w' hR (h.put hdn x)
theorem OA{s1 s2:Operand}{x y:Int}(ho:o.op=.binOp .neq 32 s1 s2 32)(e1:a.eval s1=.int .i64 x)(e2:a.eval s2=.int .i64 y):(execOp a.eval o).run Tryz.prog w=.ok (.value (.bool (cond (decide (x=y)) false true))) w :=
 R.bin (v1:=.int .i64 x) (v2:=.int .i64 y) (r:=.bool (cond (decide (x=y)) false true)) ho (by kernel_rfl) e1 e2 fun z hz=>hz
theorem RQ{s1 s2:Operand}{x y:Int}(ho:o.op=.binOp .gtr 3 s1 s2 3)(e1:a.eval s1=.int .i64 x)(e2:a.eval s2=.int .i64 y):(execOp a.eval o).run Tryz.prog w=.ok (.value (.bool (decide (y<x)))) w :=
 R.bin (v1:=.int .i64 x) (v2:=.int .i64 y) (r:=.bool (decide (y<x))) ho (by kernel_rfl) e1 e2 fun z hz=>hz
theorem Na{od:Od}(hs:Bj od w){n:Nat}{D:Dat}{x:Value}(hx:(SV.ro evK n D).den ⟨fun _=>none,od,gl0 _⟩ x){m:Nat}(hm:m<n) :
  ∃ p,(Instr.indexAt 55 x (.int .i64 (m:Int))).run Tryz.prog w=.ok p w/\(Instr.loadAt 27 p).run Tryz.prog w=.ok (.agg (evC (D.ii m 0) (D.ii m 1) (D.ss m 2) (D.ss m 3) (D.ss m 4) (D.bb m 5))) w:=by
 obtain ⟨p,hr,hp⟩:=CK (P:=Tryz.prog) (w:=w) (pix:=false) (t:=55) (p:=.ro evK n D) (ix:=.int .i64 (m:Int)) (r:={ v:=.rp evK D (m:Int).toNat 0,need:=[decide (0<=(m:Int)/\(m:Int)<(n:Int))] }) (by kernel_rfl) (fun b hb=>by simp at hb;rw [hb];simp;omega) hx rfl 0
 have hM:Ak w.heap.size [] ⟨fun _=>none,od,gl0 _⟩ (Ah []) w:=⟨fun i hi=>by simp [Ah,Blk.isUnk] at hi,fun i j m m' _ hi=>by simp [Ah,Blk.isUnk] at hi,hs,fun i m hi=>by simp [Ah,Blk.isUnk] at hi,pv0 _⟩
 obtain ⟨y,hr2,hp2⟩:=Dx (P:=Tryz.prog) hM (t:=27) (p:=.rp evK D (m:Int).toNat 0) (r:={ v:=.agg [.int .i64 (D.ii (m:Int).toNat 0),.int .i64 (D.ii (m:Int).toNat 1),.str (D.ss (m:Int).toNat 2),.str (D.ss (m:Int).toNat 3),.str (D.ss (m:Int).toNat 4),.bool (D.bb (m:Int).toNat 5)] }) (by kernel_rfl) (fun b hb=>by simp at hb) hp.val 0
 refine ⟨p,hr,?_⟩
 obtain ⟨xs,rfl,h⟩:(SV.agg [.int .i64 (D.ii (m:Int).toNat 0),.int .i64 (D.ii (m:Int).toNat 1),.str (D.ss (m:Int).toNat 2),.str (D.ss (m:Int).toNat 3),.str (D.ss (m:Int).toNat 4),.bool (D.bb (m:Int).toNat 5)]).den ⟨fun _=>none,od,gl0 _⟩ y:=hp2.val
 obtain ⟨z0,l0,rfl,h0,h⟩:=A9 h
 obtain ⟨z1,l1,rfl,h1,h⟩:=A9 h
 obtain ⟨z2,l2,rfl,h2,h⟩:=A9 h
 obtain ⟨z3,l3,rfl,h3,h⟩:=A9 h
 obtain ⟨z4,l4,rfl,h4,h⟩:=A9 h
 obtain ⟨z5,l5,rfl,h5,h⟩:=A9 h
 have:=Bb h
 subst this
 cases h0;cases h1;cases h2;cases h3;cases h4;cases h5
 rw [hr2]
 simp [evC]
end ops
theorem TA:Ca Tryz.prog 27=some (.agg #[.int .i64 0,.int .i64 0,.string .empty,.string .empty,.string .empty,.bool false]):=by kernel_rfl
theorem sl27:Tryz.prog.underlying 55=some (.slice 27):=by kernel_rfl
def doE(K:Kst)(st:Stt)(d:Dat)(i:Nat):Stt:=doT K st (d.ii i 0) (d.ii i 1) (d.ss i 2) (d.ss i 3) (d.ss i 4) (d.bb i 5)
def FV(K:Kst)(st:Stt)(d:Dat)(i:Nat):Int:=LF K st (d.ii i 0) (d.ii i 1) (d.ss i 2) (d.ss i 3) (d.ss i 4) (d.bb i 5)
def CO(K:Kst)(d:Dat):Nat->Stt
 | 0=>st0 K
 | i+1=>doE K (CO K d i) d i
def By(K:Kst)(d:Dat):Nat->Nat->Nat
 | 0,i=>i
 | f+1,i=>cond (decide (FV K (CO K d i) d i=0)) (By K d f (i+1)) i
def M3(nI:Nat)(dI:Dat)(nR:Nat)(dR:Dat)(n:Nat)(d:Dat):Bool × Dat × Int × Int :=
 cond (decide (m16 nI dI nR dR=0)) (cond (decide ((200:Int)<(n:Int))) (false,A3,0,8)
  (cond (decide (By ⟨nI,dI,nR,dR⟩ d n 0=n)) (true,AY ⟨nI,dI,nR,dR⟩ (CO ⟨nI,dI,nR,dR⟩ d n),0,0)
   (false,A3,((By ⟨nI,dI,nR,dR⟩ d n 0:Nat):Int),FV ⟨nI,dI,nR,dR⟩ (CO ⟨nI,dI,nR,dR⟩ d (By ⟨nI,dI,nR,dR⟩ d n 0)) d (By ⟨nI,dI,nR,dR⟩ d n 0)))) (false,A3,0,m16 nI dI nR dR)
def Kr(K:Kst)(n:Nat)(d:Dat):Prop:=m16 K.n K.di K.r K.dr=0->n<=200->∀ i,i<n->(∀ j,j<i->FV K (CO K d j) d j=0)->Ih K (CO K d i) (d.ii i 0) (d.ii i 1) (d.ss i 2) (d.ss i 3) (d.ss i 4) (d.bb i 5)
theorem Ct{α:Type}{c:Bool}{x y:Option α}{r:α}(h:cond c x y=some r):(c=true/\x=some r)\/(c=false/\y=some r):=by
 cases c
 .exact .inr ⟨rfl,h⟩
 .exact .inl ⟨rfl,h⟩
theorem l16_0_code{a:Nat}{b:Dat}{c:Int}{e:Dat}{g:Nat}{k:Dat}:∀ (f:Nat) (t:Int) (r:Bool × Int × Unit),l16_0 a b c e g k f t=some r->r.1=true->r.2.1≠0
 | 0,t,r,h,_=>by cases h
 | f+1,t,r,h,h1=>by
  unfold l16_0 at h
  rcases Ct h with ⟨_,h⟩ | ⟨_,h⟩
  .rcases Ct h with ⟨_,h⟩ | ⟨_,h⟩
   .rcases Ct h with ⟨_,h⟩ | ⟨_,h⟩
    .rcases Ct h with ⟨_,h⟩ | ⟨_,h⟩
     .cases h;decide
     .rcases Ct h with ⟨_,h⟩ | ⟨_,h⟩
      .rcases Ct h with ⟨_,h⟩ | ⟨_,h⟩
       .cases h;decide
       .rcases Ct h with ⟨_,h⟩ | ⟨_,h⟩
        .cases h;decide
        .rcases Ct h with ⟨_,h⟩ | ⟨_,h⟩
         .cases h;decide
         .exact l16_0_code f _ r h h1
      .cases h
    .cases h
   .cases h
  .cases h;cases h1
theorem m16_small{K:Kst}(h:m16 K.n K.di K.r K.dr=0):K.n<=30/\K.r<=20:=by
 unfold m16 at h
 by_cases h1:(30:Int)<(K.n:Int)
 .rw [decide_eq_true h1] at h;cases h
 .rw [decide_eq_false h1,cond_false] at h
  refine ⟨by omega,?_⟩
  cases h2:((o16_0 K.n K.di (K.n:Int) K.di K.r K.dr 0).getD default).fst with
  | true =>
   rw [h2,cond_true] at h
   cases ho:o16_0 K.n K.di (K.n:Int) K.di K.r K.dr 0 with
   | none=>rw [ho] at h2;cases h2
   | some r =>
    rw [ho] at h h2
    exact absurd h (l16_0_code _ _ r ho h2)
  | false =>
   rw [h2,cond_false] at h
   by_cases h3:(20:Int)<(K.r:Int)
   .rw [decide_eq_true h3] at h;cases h
   .omega
theorem RC{K:Kst}{xI xR:Value}{w:World}(hS:BB K xI xR (Bn w Br))(hn:n16 K.n K.di K.r K.dr=true) :
  Calls Tryz.prog 16 ⟨[.agg #[xI,xR]]⟩ w fun e w'=>∃ x,e=.returned x/\x=.int .i64 (m16 K.n K.di K.r K.dr)/\AR w.heap.size [] w w':=by
 obtain ⟨⟨A,cap,e1,e2,e3⟩,A',cap',f1,f2,f3⟩:=hS
 have hc:=k16.2 w.heap.size [] ⟨fun _=>none,Bn w Br,gl0 _⟩ (Ah []) 0 [.agg [.ro [.str,.int .i64,.int .i64] K.n K.di,.ro [.str,.int .i64,.int .i64,.int .i64] K.r K.dr]]
  {v:=.int .i64 (m16 K.n K.di K.r K.dr),need:=[n16 K.n K.di K.r K.dr] } rfl (fun b hb=>by simp at hb;rw [hb,hn]) ?_ [.agg #[xI,xR]] w
  ⟨⟨_,rfl,⟨A,cap,e1,e2,e3⟩,⟨A',cap',f1,f2,f3⟩,trivial⟩,trivial⟩ (TX _ w) (Nat.le_refl _) (fun j hj=>rfl)
 .refine hc.mono ?_
  rintro e w' ⟨x,O',rfl,hp⟩
  have hv:x=.int .i64 (m16 K.n K.di K.r K.dr):=hp.val
  exact ⟨x,rfl,hv,hp.os,hp.tape,hp.output,hp.size,fun k hk _=>hp.keep k hk (fun u hu=>by simp at hu)⟩
 .exact ⟨fun u hu=>by simp at hu,fun u hu=>by simp at hu⟩
theorem MC{K:Kst}{L:Lay}{w0 w:World}(h:BB K L.xI L.xR (Bn w0 Br))(hlow:∀ t,Tg.ok K t->w0.heap.size<=L.at_ t)(hk:AR w0.heap.size [] w0 w):EA K L w:=by
 refine BB.mono (fun b o v hv=>?_) h
 have hv:w0.cell? ⟨b,o,none⟩=some v:=hv
 have hb:b<w0.heap.size:=World.block_lt_of_cell? w0 _ hv
 unfold Mt
 simp only
 rw [if_neg (fun ⟨t,ht,e⟩=>by have:=hlow t ht;omega),World.cell?_of_block (w:=w0) (hk.block b hb (by simp))]
 exact hv
theorem Fb(K:Kst)(d:Dat):∀ (f i:Nat),(∀ j,j<i->FV K (CO K d j) d j=0)->i<=By K d f i/\By K d f i<=i+f/\(∀ j,j<By K d f i->FV K (CO K d j) d j=0)/\(By K d f i<i+f->FV K (CO K d (By K d f i)) d (By K d f i)≠0)
 | 0,i,h=>⟨Nat.le_refl _,Nat.le_refl _,h,fun h=>absurd h (Nat.lt_irrefl _)⟩
 | f+1,i,h=>by
  unfold By
  by_cases h0:FV K (CO K d i) d i=0
  .rw [decide_eq_true h0,cond_true]
   obtain ⟨g1,g2,g3,g4⟩:=Fb K d f (i+1) fun j hj=>by
    by_cases e:j=i
    .rw [e];exact h0
    .exact h j (by omega)
   exact ⟨by omega,by omega,g3,fun hlt=>g4 (by omega)⟩
  .rw [decide_eq_false h0,cond_false]
   exact ⟨Nat.le_refl _,by omega,h,fun _=>h0⟩
/-! ### helpers: follow,the whole -/
def TE(w0:World)(K:Kst)(xI xR:Value)(n:Nat)(d:Dat)(ys:List Value)(w:World):Prop :=
 AR w0.heap.size [] w0 w/\(((M3 K.n K.di K.r K.dr n d).fst=false/\ys=[.pointer none,.int .i64 (M3 K.n K.di K.r K.dr n d).snd.snd.fst,.int .i64 (M3 K.n K.di K.r K.dr n d).snd.snd.snd]) \/
  ((M3 K.n K.di K.r K.dr n d)=(true,AY K (CO K d n),0,0)/\∃ L:Lay,ys=[.pointer (some ⟨L.at_ .shop,0,none⟩),.int .i64 0,.int .i64 0]/\L.T=T7/\L.xI=xI/\L.xR=xR/\Ao L K (CO K d n) w/\∀ t,Tg.ok K t->w0.heap.size<=L.at_ t))
structure TD (w0:World) (K:Kst) (xI xR:Value) (d:Dat) (i:Nat) (L:Lay) (w:World):Prop where
 kept:AR w0.heap.size [] w0 w
 T:L.T=T7
 xI:L.xI=xI
 xR:L.xR=xR
 shop:Ao L K (CO K d i) w
 low:∀ t,Tg.ok K t->w0.heap.size<=L.at_ t
 good:∀ j,j<i->FV K (CO K d j) d j=0
def TN(bS:Nat)(xL:Value)(n i:Nat):List (Nat × Value):=[(8,.pointer (some ⟨bS,0,none⟩)),(22,xL),(23,.int .i64 (n:Int)),(24,.int .i64 (i:Int))]
theorem AS.keptB{L:Lay}{K:Kst}{w0 w w':World}(h:AR w0.heap.size [] w0 w)(ho:AS L K w w')(hlow:∀ t,Tg.ok K t->w0.heap.size<=L.at_ t)(hle:w0.heap.size<=w.heap.size):AR w0.heap.size [] w0 w' :=
 ⟨ho.os.trans h.os,ho.tape.trans h.tape,ho.output.trans h.output,Nat.le_trans h.size ho.size,fun b hb hm=>(ho.keep b (by omega) (fun t ht e=>by have:=hlow t ht;omega)).trans (h.block b hb hm)⟩
abbrev c62X:Code:=.seq cd56_8 (.seq (.cond (.tmp 25) .skip (.exit 0)) (.seq (.block 1 (.seq cd56_9 (.seq cd56_10 (.seq cd56_11 (.cond (.tmp 33) (.seq cd56_12 .ret) .skip))))) cd56_13))
theorem JS{w0:World}{K:Kst}{xI xR:Value}{A:Option Addr}{cL n:Nat}{d:Dat}{od:Od}(hod:∀ b o v,od b o=some v->b<w0.heap.size/\w0.cell? ⟨b,o,none⟩=some v)(hodm:∀ b,od.m b=none)(hodp:∀ b,od.p.f b=none)(hL:(SV.ro evK n d).den ⟨fun _=>none,od,gl0 _⟩ (.slice A n cL))(hS:BB K xI xR (Bn w0 Br))(h90:m16 K.n K.di K.r K.dr=0)(h200:n<=200)(hN:Kr K n d){Q:Exit->Act->World->Prop}(hret:∀ (a:Act) (w:World) (i:Nat),i<n->(∀ j,j<i->FV K (CO K d j) d j=0)->FV K (CO K d i) d i≠0->AR w0.heap.size [] w0 w->Sl a 38 [(4,.pointer none),(5,.int .i64 (i:Int)),(6,.int .i64 (FV K (CO K d i) d i))]->Q .ret a w)(hQ:∀ a w L,Sl a 38 (TN (L.at_ .shop) (.slice A n cL) n n)->TD w0 K xI xR d n L w->Q .normal a w) :
  ∀ (fu i:Nat),n - i<fu->i<=n->∀ (a:Act) (w:World) (L:Lay),Sl a 38 (TN (L.at_ .shop) (.slice A n cL) n i)->TD w0 K xI xR d i L w ->
   Code.roundsIn (FW none) 0 Tryz.prog c62X (Exit.inBlock 0 Q) fu a w:=by
 intro fu
 induction fu with
 | zero=>intro i h;omega
 | succ fu ih =>
 intro i hf hi a w L h hi'
 rw [roundsIn_succ]
 obtain ⟨t0,p0,b0,hR⟩:=cd56_8_eq
 refine wpIn_seq (Aj hR ?_)
 refine H.val h rfl rfl rfl (KN (x:=(i:Int)) (y:=(n:Int)) rfl (h.g rfl) (h.g rfl)) (fun c e=>by cases e) fun a h=>?_
 show Code.wpIn (FW none) 0 Tryz.prog (.seq _ _) _ _ _
 refine wpIn_seq ?_
 by_cases hlt:i<n
 rotate_left
 .have e:decide ((i:Int)<(n:Int))=false:=decide_eq_false (by omega)
  rw [e] at h
  have hqr:i=n:=by omega
  subst hqr
  refine wpIn_cond (t:=false) (h.g rfl) (wpIn_exit ?_)
  exact hQ a w L (h.pick _ ⟨rfl,rfl,rfl,rfl,trivial⟩) hi'
 have e:decide ((i:Int)<(n:Int))=true:=decide_eq_true (by omega)
 rw [e] at h
 refine wpIn_cond (t:=true) (h.g rfl) (wpIn_skip ?_)
 show Code.wpIn (FW none) 0 Tryz.prog (.seq _ _) _ _ _
 refine wpIn_seq (wpIn_block ?_)
 have hle:w0.heap.size<=w.heap.size:=hi'.kept.size
 have hsok:Bj od w:=by
  refine ⟨fun b o v hv=>?_,fun b v hv=>(by rw [hodm] at hv;cases hv),fun b i hp=>(by rw [hodp] at hp;cases hp)⟩
  obtain ⟨g1,g2⟩:=hod b o v hv
  rw [World.cell?_of_block (w:=w0) (hi'.kept.block b g1 (by simp))]
  exact g2
 obtain ⟨p,hp1,hp2⟩:=Na hsok hL hlt
 obtain ⟨u0,p0,b0,u1,p1,b1,u2,p2,b2,u3,p3,b3,u4,p4,b4,u5,p5,b5,hR9⟩:=cd56_9_eq
 refine wpIn_seq (Aj hR9 ?_)
 refine H.val h rfl rfl rfl (R.move rfl (h.g rfl)) (fun c e=>by cases e) fun a h=>?_
 refine H.val h rfl rfl rfl (x:=p) (w':=w) (by have g1:=h.g (t:=22) rfl;have g2:=h.g (t:=24) rfl;unfold execOp;simp [g1,g2,hp1]) (fun c e=>by cases e) fun a h=>?_
 refine H.val h rfl rfl rfl (x:=.agg (evC (d.ii i 0) (d.ii i 1) (d.ss i 2) (d.ss i 3) (d.ss i 4) (d.bb i 5))) (w':=w) (by have g1:=h.g (t:=27) rfl;unfold execOp;simp [g1,hp2]) (fun c e=>by cases e) fun a h=>?_
 refine H.val h rfl rfl rfl (R.alloc rfl TA) (fun c e=>by cases e) fun a h=>?_
 refine H.val h rfl rfl rfl (R.assign rfl (h.g rfl)) (fun c e=>by cases e) fun a h=>?_
 obtain ⟨w2,hr2,hb2,hg2,hs2⟩:=Ho (w:=w) (t:=27) (e:=27) (n:=6) (c:=(Value.agg #[.int .i64 0,.int .i64 0,.string .empty,.string .empty,.string .empty,.bool false]).cells) (y:=.agg (evC (d.ii i 0) (d.ii i 1) (d.ss i 2) (d.ss i 3) (d.ss i 4) (d.bb i 5))) (by kernel_rfl) rfl rfl (by intro v hv;simp [Value.cells,evC] at hv;rcases hv with rfl | rfl | rfl | rfl | rfl | rfl <;> rfl) rfl
 refine H.skip h rfl rfl (R.store rfl (h.g rfl) (h.g rfl) hr2) (fun c e=>by cases e) fun a h=>?_
 have hcl:(Value.agg (evC (d.ii i 0) (d.ii i 1) (d.ss i 2) (d.ss i 3) (d.ss i 4) (d.bb i 5))).cells=evC (d.ii i 0) (d.ii i 1) (d.ss i 2) (d.ss i 3) (d.ss i 4) (d.bb i 5):=rfl
 rw [hcl] at hb2
 have hk2:AR w0.heap.size [] w0 w2:=hi'.kept.grow hle hg2
 have hsh2:Ao L K (CO K d i) w2:=hi'.shop.keep fun b o hb=>hg2.keep hb
 obtain ⟨hKn,hKr⟩:=m16_small h90
 have hneed:=hN h90 h200 i hlt hi'.good
 have hSo:EA K L w2:=MC (by rw [hi'.xI,hi'.xR];exact hS) hi'.low hk2
 obtain ⟨u0,p0,b0,u1,p1,b1,u2,p2,b2,u3,p3,b3,hR10⟩:=cd56_10_eq
 show Code.wpIn (FW none) 0 Tryz.prog (.seq cd56_10 _) _ _ _
 refine wpIn_seq (Aj hR10 ?_)
 refine H.val h rfl rfl rfl (R.move rfl (h.g rfl)) (fun c e=>by cases e) fun a h=>?_
 refine H.val h rfl rfl rfl (R.loadA (l:=(evC (d.ii i 0) (d.ii i 1) (d.ss i 2) (d.ss i 3) (d.ss i 4) (d.bb i 5)).toList) rfl (h.g rfl) hb2 (by kernel_rfl)) (fun c e=>by cases e) fun a h=>?_
 refine H.call h rfl rfl rfl (f:=84) (fn:=Tryz.f84) (xs:=[.pointer (some ⟨L.at_ .shop,0,none⟩),.agg (evC (d.ii i 0) (d.ii i 1) (d.ss i 2) (d.ss i 3) (d.ss i 4) (d.bb i 5))]) Tryz.func84 (by kernel_rfl) (by kernel_rfl) (by
  rw [Er rfl rfl Tryz.func84 (by kernel_rfl) (by kernel_rfl)]
  have g1:=h.g (t:=29) rfl
  have g2:=h.g (t:=30) rfl
  simp only [List.map_cons,List.map_nil,g1,g2]) (fun c e=>by cases e) (R:=fun x w'=>x=.int .i64 (FV K (CO K d i) d i)/\Ao L K (CO K d (i+1)) w'/\AS L K w2 w') ((RE hi'.T hsh2 hSo (by omega) hneed).mono ?_) fun a x w3 hR3 h=>?_
 .rintro e w' ⟨ys,rfl,rfl,q1,q2⟩
  exact ⟨_,rfl,rfl,q1,q2⟩
 obtain ⟨rfl,hsh3,ho3⟩:=hR3
 have hk3:AR w0.heap.size [] w0 w3:=AS.keptB hk2 ho3 hi'.low hk2.size
 refine H.val h rfl rfl rfl (R.assign rfl (h.g rfl)) (fun c e=>by cases e) fun a h=>?_
 obtain ⟨u0,p0,b0,u1,p1,b1,hR11⟩:=cd56_11_eq
 show Code.wpIn (FW none) 0 Tryz.prog (.seq cd56_11 _) _ _ _
 refine wpIn_seq (Aj hR11 ?_)
 refine H.val h rfl rfl rfl (R.move rfl (h.g rfl)) (fun c e=>by cases e) fun a h=>?_
 refine H.val h rfl rfl rfl (OA (x:=FV K (CO K d i) d i) (y:=0) rfl (h.g rfl) rfl) (fun c e=>by cases e) fun a h=>?_
 show Code.wpIn (FW none) 0 Tryz.prog (.cond _ _ _) _ _ _
 refine wpIn_cond (h.g (t:=33) rfl) ?_
 by_cases h0:FV K (CO K d i) d i=0
 .rw [decide_eq_true h0]
  refine wpIn_skip ?_
  obtain ⟨u0,p0,b0,u1,p1,b1,hR13⟩:=cd56_13_eq
  show Code.wpIn (FW none) 0 Tryz.prog cd56_13 _ _ _
  refine Aj hR13 ?_
  refine H.val h rfl rfl rfl (Ku (x:=(i:Int)) (y:=1) rfl (h.g rfl) rfl) (fun c e=>by cases e) fun a h=>?_
  refine H.val h rfl rfl rfl (R.move rfl (h.g rfl)) (fun c e=>by cases e) fun a h=>?_
  rw [wrS hlt (by omega)] at h
  show Code.roundsIn (FW none) 0 Tryz.prog c62X _ fu a w3
  refine ih (i+1) (by omega) (by omega) a w3 L (h.pick _ ⟨rfl,rfl,rfl,rfl,trivial⟩) ⟨hk3,hi'.T,hi'.xI,hi'.xR,hsh3,hi'.low,fun j hj=>?_⟩
  by_cases e:j=i
  .rw [e];exact h0
  .exact hi'.good j (by omega)
 .rw [decide_eq_false h0]
  obtain ⟨u0,p0,b0,u1,p1,b1,u2,p2,b2,u3,p3,b3,u4,p4,b4,hR12⟩:=cd56_12_eq
  show Code.wpIn (FW none) 0 Tryz.prog (.seq cd56_12 .ret) _ _ _
  refine wpIn_seq (Aj hR12 ?_)
  refine H.val h rfl rfl rfl (R.move rfl (h.g rfl)) (fun c e=>by cases e) fun a h=>?_
  refine H.val h rfl rfl rfl (R.move rfl (h.g rfl)) (fun c e=>by cases e) fun a h=>?_
  refine H.val h rfl rfl rfl (R.cassign rfl) (fun c e=>by cases e) fun a h=>?_
  refine H.val h rfl rfl rfl (R.assign rfl (h.g rfl)) (fun c e=>by cases e) fun a h=>?_
  refine H.val h rfl rfl rfl (R.assign rfl (h.g rfl)) (fun c e=>by cases e) fun a h=>?_
  show Code.wpIn (FW none) 0 Tryz.prog .ret _ _ _
  exact wpIn_ret (hret a w3 i hlt hi'.good h0 hk3 (h.pick _ ⟨rfl,rfl,rfl,trivial⟩))
theorem RB{K:Kst}{w:World}{xI xR xL:Value}{n:Nat}{d:Dat}(hS:BB K xI xR (Bn w Br))(hE:(SV.ro evK n d).den ⟨fun _=>none,⟨(Bn w Br).c,fun _=>none,Br⟩,gl0 _⟩ xL)(h90:n16 K.n K.di K.r K.dr=true)(hN:Kr K n d) :
  Calls Tryz.prog 56 ⟨[.agg #[xI,xR],xL]⟩ w fun e w'=>∃ ys,e=.returned (Nv ys)/\TE w K xI xR n d ys w':=by
 obtain ⟨A,cL,rfl,hc1,hc2⟩:=id hE
 refine Ef (fn:=Tryz.f56) (c:=cd56) Tryz.func56 rfl [4,5,6] rfl (xs:=[.agg #[xI,xR],.slice A n cL]) (show 2<=Tryz.f56.ntmps by decide) (Q:=fun ys w'=>TE w K xI xR n d ys w') fun a hsz hdf hargs=>?_
 rw [cd56_eq]
 have h:Sl a 38 [(0,.agg #[xI,xR]),(1,.slice A n cL)]:=Sl.args hsz hdf hargs _ fun t v e=>by
  unfold EY at e
  cases t with
  | zero=>exact e
  | succ t =>
   cases t with
   | zero=>exact e
   | succ t=>cases e
 obtain ⟨u0,p0,b0,u1,p1,b1,u2,p2,b2,u3,p3,b3,hR0⟩:=cd56_0_eq
 refine wpIn_seq (Aj hR0 ?_)
 obtain ⟨w1,hw1⟩:∃ w1,w1=w.alloc (.cells (Value.agg #[xI,xR]).cells 25 (0,0)):=⟨_,rfl⟩
 obtain ⟨⟨A1,c1,rfl,n1,n1'⟩,A2,c2,rfl,n2,n2'⟩:=id hS
 refine H.val h rfl rfl rfl (w':=w1) (by rw [hw1];exact R.box rfl (h.g rfl)) (fun c e=>by cases e) fun a h=>?_
 refine H.val h rfl rfl rfl (R.cassign rfl) (fun c e=>by cases e) fun a h=>?_
 refine H.val h rfl rfl rfl (R.cassign rfl) (fun c e=>by cases e) fun a h=>?_
 refine H.val h rfl rfl rfl (R.cassign rfl) (fun c e=>by cases e) fun a h=>?_
 have hb1:w1.heap[w.heap.size]? = some (.cells #[.slice A1 K.n c1,.slice A2 K.r c2] 25 (0,0)):=by rw [hw1];exact heap_alloc_new _ _
 have g01:BY w w1:=by rw [hw1];exact BY.alloc _ _
 have hSup:∀ w',AR w.heap.size [] w w'->BB K (.slice A1 K.n c1) (.slice A2 K.r c2) (Bn w' Br):=fun w' hk=>BB.mono (fun b o v hv=>by
  have hv:w.cell? ⟨b,o,none⟩=some v:=hv
  have hb:b<w.heap.size:=World.block_lt_of_cell? w _ hv
  show w'.cell? ⟨b,o,none⟩=some v
  rw [World.cell?_of_block (w:=w) (hk.block b hb (by simp))]
  exact hv) hS
 obtain ⟨u0,p0,b0,u1,p1,b1,u2,p2,b2,hR1⟩:=cd56_1_eq
 show Code.wpIn (FW none) 0 Tryz.prog (.seq (.seq cd56_1 _) _) _ _ _
 refine wpIn_seq (wpIn_seq (Aj hR1 ?_))
 refine H.val h rfl rfl rfl (R.loadA (l:=[.slice A1 K.n c1,.slice A2 K.r c2]) rfl (h.g rfl) hb1 (by kernel_rfl)) (fun c e=>by cases e) fun a h=>?_
 refine H.call h rfl rfl rfl (f:=16) (fn:=Tryz.f16) (xs:=[.agg #[.slice A1 K.n c1,.slice A2 K.r c2]]) Tryz.func16 (by kernel_rfl) (by kernel_rfl) (by
  rw [Er rfl rfl Tryz.func16 (by kernel_rfl) (by kernel_rfl)]
  have g1:=h.g (t:=12) rfl
  simp only [List.map_cons,List.map_nil,g1]) (fun c e=>by cases e) (RC (hSup w1 g01) h90) fun a x w2 hR2 h=>?_
 obtain ⟨rfl,hk12⟩:=hR2
 have g02:BY w w2:=g01.trans hk12
 refine H.val h rfl rfl rfl (R.assign rfl (h.g rfl)) (fun c e=>by cases e) fun a h=>?_
 obtain ⟨u0,p0,b0,u1,p1,b1,hR2⟩:=cd56_2_eq
 show Code.wpIn (FW none) 0 Tryz.prog (.seq cd56_2 _) _ _ _
 refine wpIn_seq (Aj hR2 ?_)
 refine H.val h rfl rfl rfl (R.move rfl (h.g rfl)) (fun c e=>by cases e) fun a h=>?_
 refine H.val h rfl rfl rfl (OA (x:=m16 K.n K.di K.r K.dr) (y:=0) rfl (h.g rfl) rfl) (fun c e=>by cases e) fun a h=>?_
 show Code.wpIn (FW none) 0 Tryz.prog (.cond _ _ _) _ _ _
 refine wpIn_cond (h.g (t:=15) rfl) ?_
 by_cases hm90:m16 K.n K.di K.r K.dr=0
 rotate_left
 .rw [decide_eq_false hm90]
  obtain ⟨u0,p0,b0,u1,p1,b1,u2,p2,b2,u3,p3,b3,hR3⟩:=cd56_3_eq
  show Code.wpIn (FW none) 0 Tryz.prog (.seq cd56_3 .ret) _ _ _
  refine wpIn_seq (Aj hR3 ?_)
  refine H.val h rfl rfl rfl (R.move rfl (h.g rfl)) (fun c e=>by cases e) fun a h=>?_
  refine H.val h rfl rfl rfl (R.cassign rfl) (fun c e=>by cases e) fun a h=>?_
  refine H.val h rfl rfl rfl (R.cassign rfl) (fun c e=>by cases e) fun a h=>?_
  refine H.val h rfl rfl rfl (R.assign rfl (h.g rfl)) (fun c e=>by cases e) fun a h=>?_
  show Code.wpIn (FW none) 0 Tryz.prog .ret _ _ _
  refine wpIn_ret ⟨.inl rfl,h.df,g02,.inl ?_⟩
  have q1:=h.g (t:=4) rfl
  have q2:=h.g (t:=5) rfl
  have q3:=h.g (t:=6) rfl
  simp only [List.map_cons,List.map_nil,q1,q2,q3,M3,decide_eq_false hm90,cond_false]
  exact ⟨trivial,trivial⟩
 rw [decide_eq_true hm90]
 refine wpIn_skip ?_
 obtain ⟨u0,p0,b0,u1,p1,b1,u2,p2,b2,hR4⟩:=cd56_4_eq
 show Code.wpIn (FW none) 0 Tryz.prog (.seq (.seq cd56_4 _) _) _ _ _
 refine wpIn_seq (wpIn_seq (Aj hR4 ?_))
 refine H.val h rfl rfl rfl (R.move rfl (h.g rfl)) (fun c e=>by cases e) fun a h=>?_
 refine H.val h rfl rfl rfl (R.len rfl sl27 (h.g rfl)) (fun c e=>by cases e) fun a h=>?_
 refine H.val h rfl rfl rfl (RQ (x:=(n:Int)) (y:=200) rfl (h.g rfl) rfl) (fun c e=>by cases e) fun a h=>?_
 show Code.wpIn (FW none) 0 Tryz.prog (.cond _ _ _) _ _ _
 refine wpIn_cond (h.g (t:=19) rfl) ?_
 by_cases h200:(200:Int)<(n:Int)
 .rw [decide_eq_true h200]
  obtain ⟨u0,p0,b0,u1,p1,b1,u2,p2,b2,hR5⟩:=cd56_5_eq
  show Code.wpIn (FW none) 0 Tryz.prog (.seq cd56_5 .ret) _ _ _
  refine wpIn_seq (Aj hR5 ?_)
  refine H.val h rfl rfl rfl (R.cassign rfl) (fun c e=>by cases e) fun a h=>?_
  refine H.val h rfl rfl rfl (R.cassign rfl) (fun c e=>by cases e) fun a h=>?_
  refine H.val h rfl rfl rfl (R.cassign rfl) (fun c e=>by cases e) fun a h=>?_
  show Code.wpIn (FW none) 0 Tryz.prog .ret _ _ _
  refine wpIn_ret ⟨.inl rfl,h.df,g02,.inl ?_⟩
  have q1:=h.g (t:=4) rfl
  have q2:=h.g (t:=5) rfl
  have q3:=h.g (t:=6) rfl
  simp only [List.map_cons,List.map_nil,q1,q2,q3,M3,decide_eq_true hm90,decide_eq_true h200,cond_true]
  exact ⟨trivial,trivial⟩
 rw [decide_eq_false h200]
 refine wpIn_skip ?_
 obtain ⟨hKn,hKr⟩:=m16_small hm90
 obtain ⟨u0,p0,b0,u1,p1,b1,u2,p2,b2,hR6⟩:=cd56_6_eq
 show Code.wpIn (FW none) 0 Tryz.prog (.seq cd56_6 _) _ _ _
 refine wpIn_seq (Aj hR6 ?_)
 refine H.val h rfl rfl rfl (R.loadA (l:=[.slice A1 K.n c1,.slice A2 K.r c2]) rfl (h.g rfl) (hk12.block _ (Array.getElem?_eq_some_iff.1 hb1).1 (by simp) |>.trans hb1) (by kernel_rfl)) (fun c e=>by cases e) fun a h=>?_
 refine H.call h rfl rfl rfl (f:=83) (fn:=Tryz.f83) (xs:=[.agg #[.slice A1 K.n c1,.slice A2 K.r c2]]) Tryz.func83 (by kernel_rfl) (by kernel_rfl) (by
  rw [Er rfl rfl Tryz.func83 (by kernel_rfl) (by kernel_rfl)]
  have g1:=h.g (t:=20) rfl
  simp only [List.map_cons,List.map_nil,g1]) (fun c e=>by cases e) (R:=fun x w'=>∃ L:Lay,x=.pointer (some ⟨L.at_ .shop,0,none⟩)/\L.T=T7/\L.xI=.slice A1 K.n c1/\L.xR=.slice A2 K.r c2/\Ao L K (st0 K) w'/\(∀ t,Tg.ok K t->w2.heap.size<=L.at_ t)/\AR w2.heap.size [] w2 w')
  ((RD (hSup w2 g02) (by omega) (by omega)).mono ?_) fun a x w3 hR3 h=>?_
 .rintro e w' ⟨ys,rfl,L,rfl,hh⟩
  exact ⟨_,rfl,L,rfl,hh⟩
 obtain ⟨L,rfl,hT,hxI,hxR,hsh,hlow,hk23⟩:=hR3
 have g03:BY w w3:=g02.trans hk23
 refine H.val h rfl rfl rfl (R.assign rfl (h.g rfl)) (fun c e=>by cases e) fun a h=>?_
 obtain ⟨u0,p0,b0,u1,p1,b1,u2,p2,b2,hR7⟩:=cd56_7_eq
 show Code.wpIn (FW none) 0 Tryz.prog (.seq (.seq cd56_7 _) _) _ _ _
 refine wpIn_seq (wpIn_seq (Aj hR7 ?_))
 refine H.val h rfl rfl rfl (R.move rfl (h.g rfl)) (fun c e=>by cases e) fun a h=>?_
 refine H.val h rfl rfl rfl (R.len rfl sl27 (h.g rfl)) (fun c e=>by cases e) fun a h=>?_
 refine H.val h rfl rfl rfl (R.cmove rfl) (fun c e=>by cases e) fun a h=>?_
 show Code.wpIn (FW none) 0 Tryz.prog (.block 0 _) _ _ _
 have hs02:w.heap.size<=w2.heap.size:=g02.size
 refine wpIn_block (wpIn_loop_rounds (n+1) ?_)
 refine JS (w0:=w) (K:=K) (xI:=.slice A1 K.n c1) (xR:=.slice A2 K.r c2) (A:=A) (cL:=cL) (n:=n) (d:=d) (od:=⟨(Bn w Br).c,fun _=>none,Br⟩) (fun b o v hv=>⟨World.block_lt_of_cell? w _ hv,hv⟩) (fun _=>rfl) (fun _=>rfl) hE hS hm90 (by omega) hN ?_ ?_ (n+1) 0 (by omega) (Nat.zero_le _) a w3 L (h.pick _ ⟨rfl,rfl,rfl,rfl,trivial⟩)
  ⟨g03,hT,hxI,hxR,hsh,fun t ht=>by have:=hlow t ht;omega,fun j hj=>absurd hj (Nat.not_lt_zero j)⟩
 .intro a w4 i hi hgood hbad hk h
  refine ⟨.inl rfl,h.df,hk,.inl ?_⟩
  have q1:=h.g (t:=4) rfl
  have q2:=h.g (t:=5) rfl
  have q3:=h.g (t:=6) rfl
  obtain ⟨f1,f2,f3,f4⟩:=Fb K d n 0 fun j hj=>absurd hj (Nat.not_lt_zero j)
  have hfi:By K d n 0=i:=by
   rcases Nat.lt_trichotomy (By K d n 0) i with hh | hh | hh
   .exact absurd (hgood _ hh) (f4 (by omega))
   .exact hh
   .exact absurd (f3 i hh) hbad
  have hne:¬ i=n:=by omega
  have hm:M3 K.n K.di K.r K.dr n d=(false,A3,(i:Int),FV K (CO K d i) d i):=by
   show cond _ (cond _ _ (cond (decide (By K d n 0=n)) _ (false,A3,((By K d n 0:Nat):Int),FV K (CO K d (By K d n 0)) d (By K d n 0)))) _=_
   rw [decide_eq_true hm90,decide_eq_false h200,hfi,decide_eq_false hne]
   rfl
  simp only [List.map_cons,List.map_nil,q1,q2,q3,hm]
  exact ⟨trivial,trivial⟩
 .intro a w4 L4 h hi
  obtain ⟨u0,p0,b0,u1,p1,b1,u2,p2,b2,u3,p3,b3,hR14⟩:=cd56_14_eq
  show Code.wpIn (FW none) 0 Tryz.prog (.seq cd56_14 .ret) _ _ _
  refine wpIn_seq (Aj hR14 ?_)
  refine H.val h rfl rfl rfl (R.move rfl (h.g rfl)) (fun c e=>by cases e) fun a h=>?_
  refine H.val h rfl rfl rfl (R.assign rfl (h.g rfl)) (fun c e=>by cases e) fun a h=>?_
  refine H.val h rfl rfl rfl (R.cassign rfl) (fun c e=>by cases e) fun a h=>?_
  refine H.val h rfl rfl rfl (R.cassign rfl) (fun c e=>by cases e) fun a h=>?_
  show Code.wpIn (FW none) 0 Tryz.prog .ret _ _ _
  refine wpIn_ret ⟨.inl rfl,h.df,hi.kept,.inr ⟨?_,L4,?_,hi.T,hi.xI,hi.xR,hi.shop,hi.low⟩⟩
  .obtain ⟨f1,f2,f3,f4⟩:=Fb K d n 0 fun j hj=>absurd hj (Nat.not_lt_zero j)
   have hfi:By K d n 0=n:=by
    rcases Nat.lt_or_ge (By K d n 0) n with hh | hh
    .exact absurd (hi.good _ hh) (f4 (by omega))
    .omega
   show cond _ (cond _ _ (cond (decide (By K d n 0=n)) _ _)) _=_
   rw [decide_eq_true hm90,decide_eq_false h200,decide_eq_true hfi]
   rfl
  .have q1:=h.g (t:=4) rfl
   have q2:=h.g (t:=5) rfl
   have q3:=h.g (t:=6) rfl
   simp only [List.map_cons,List.map_nil,q1,q2,q3]
/-! ### helpers: the shop,sealed by its caller -/
theorem PC{L:Lay}{K:Kst}{st:Stt}{w:World}(h:Ao L K st w){od:Od}(hs:OT L K w od)(hS:BB K L.xI L.xR od):Kd.denL od BG (AY K st) 0 0 (L.at_ .shop) 0:=by
 obtain ⟨_,h1,A,cap,rfl,hc,hA⟩:=h.at_ .shop trivial
 have cell:∀ k v,(#[L.xI,L.xR,.slice A K.n cap,.int .i64 st.day]:Array Value)[k]? = some v->od (L.at_ .shop) (0+k)=some v:=fun k v hv=>by
  rw [Nat.zero_add]
  exact hs.c .shop trivial _ _ (CG h1 hv)
 obtain ⟨⟨A1,c1,e1,n1,s1⟩,A2,c2,e2,n2,s2⟩:=hS
 refine ⟨⟨_,cell 0 _ rfl,?_⟩,⟨_,cell 1 _ rfl,?_⟩,⟨_,cell 2 _ rfl,?_⟩,⟨_,cell 3 _ rfl,rfl⟩,trivial⟩
 .exact ⟨A1,c1,e1,n1,s1⟩
 .exact ⟨A2,c2,e2,n2,s2⟩
 .refine ⟨A,cap,rfl,hc,fun h0=>⟨_,0,hA h0,fun q hq=>?_⟩⟩
  have hq:q<K.n:=hq
  obtain ⟨_,r1,c,rfl,r2⟩:=h.at_ .row h0
  exact ⟨⟨_,hs.c .row h0 _ _ (CG r1 (o:=0+q * 1+0) (by simpa using r2 q hq)),_,0,rfl,L9 h hs hq⟩,trivial⟩
def HS(od:Od)(B:Nat)(w:World):Od where
 c b o:=if B<=b then w.cell? ⟨b,o,none⟩ else od b o
 m b:=if B<=b then (match w.heap[b]? with
  | some (.map es cl)=>some (es,cl)
  | _=>none) else od.m b
 p:=od.p
theorem Sk{od:Od}{w w':World}:OdN od (HS od w.heap.size w') w.heap.size w':=by
 refine ⟨fun b o v hv=>?_,fun b v hv=>?_,rfl⟩
 .have hv:(if w.heap.size<=b then w'.cell? ⟨b,o,none⟩ else od b o)=some v:=hv
  split at hv
  .exact .inr ⟨hv,by assumption⟩
  .exact .inl hv
 .unfold HS at hv
  simp only at hv
  split at hv
  .split at hv
   .cases hv;exact .inr ⟨by assumption,by assumption⟩
   .cases hv
  .exact .inl hv
theorem Kh{od:Od}{w w':World}(hs:Bj od w):AB od (HS od w.heap.size w'):=by
 refine ⟨fun b o v hv=>?_,fun b v hv=>?_,fun b i h=>h⟩
 .have hb:b<w.heap.size:=World.block_lt_of_cell? w _ (hs.c b o v hv)
  show (if w.heap.size<=b then w'.cell? ⟨b,o,none⟩ else od b o)=some v
  rw [if_neg (by omega)];exact hv
 .have hb:b<w.heap.size:=hs.m_lt hv
  unfold HS
  simp only
  rw [if_neg (by omega)];exact hv
theorem NH{od:Od}{L:Lay}{K:Kst}{B:Nat}{w:World}(hlow:∀ t,Tg.ok K t->B<=L.at_ t):OT L K w (HS od B w):=by
 refine ⟨fun t ht o v hv=>?_,fun t ht es cl hm=>?_⟩
 .show (if B<=L.at_ t then w.cell? ⟨L.at_ t,o,none⟩ else _)=some v
  rw [if_pos (hlow t ht)];exact hv
 .unfold HS
  simp only
  rw [if_pos (hlow t ht),hm]
theorem R6{O:Env}{nI nR:Nat}{dI dR:Dat}{xI xR:Value}(hI:(SV.ro [.str,.int .i64,.int .i64] nI dI).den O xI)(hR:(SV.ro [.str,.int .i64,.int .i64,.int .i64] nR dR).den O xR):BB ⟨nI,dI,nR,dR⟩ xI xR O.od:=by
 obtain ⟨A,cap,e1,e2,e3⟩:=hI
 obtain ⟨A',cap',f1,f2,f3⟩:=hR
 exact ⟨⟨A,cap,e1,e2,e3⟩,A',cap',f1,f2,f3⟩
theorem To{od:Od}{w:World}(h:Bj od w):∀ b o v,od b o=some v->(Bn w Br) b o=some v:=fun b o v hv=>h.c b o v hv
theorem Qf{od od':Od}(h:∀ b o v,od b o=some v->od' b o=some v){n:Nat}{d:Dat}{x:Value}{O O':Env}(hO:O.od=od)(hO':O'.od=od')(hx:(SV.ro evK n d).den O x):(SV.ro evK n d).den O' x:=by
 subst hO;subst hO'
 obtain ⟨A,cap,e1,e2,e3⟩:=hx
 refine ⟨A,cap,e1,e2,fun h0=>?_⟩
 obtain ⟨b,o,ha,hq⟩:=e3 h0
 refine ⟨b,o,ha,fun q hl=>?_⟩
 obtain ⟨⟨y0,h0,d0⟩,⟨y1,h1,d1⟩,⟨y2,h2,d2⟩,⟨y3,h3,d3⟩,⟨y4,h4,d4⟩,⟨y5,h5,d5⟩,_⟩:=hq q hl
 exact ⟨⟨y0,h _ _ _ h0,d0⟩,⟨y1,h _ _ _ h1,d1⟩,⟨y2,h _ _ _ h2,d2⟩,⟨y3,h _ _ _ h3,d3⟩,⟨y4,h _ _ _ h4,d4⟩,⟨y5,h _ _ _ h5,d5⟩,trivial⟩
theorem Ma{O1:Env}{off:Nat}{v:SV}{need:List Bool}{w w':World}{x:Value}(hs:Bj O1.od w)(hk:AR w.heap.size [] w w')(hv:v.den ⟨O1.nm,HS O1.od w.heap.size w',gl0 _⟩ x):A5 O1 ⟨O1.nm,HS O1.od w.heap.size w',gl0 _⟩ off { v:=v,need:=need } w w' x :=
 ⟨hv,⟨fun _ _ h=>h,Kh hs⟩,fun _ _=>rfl,hk.os,hk.tape,hk.output,hk.size,fun b hb _=>hk.block b hb (by simp),Sk,fun u hu=>by simp at hu,fun j b hj=>by simp at hj,fun j j' b b' m m' hne hj=>by simp at hj⟩
def toB(p:Prop):Bool:=@decide p (Classical.propDecidable p)
theorem U6{p:Prop}(h:toB p=true):p:=@of_decide_eq_true p (Classical.propDecidable p) h
theorem Rk{p:Prop}(h:p):toB p=true:=@decide_eq_true p (Classical.propDecidable p) h
/-! ### shotline/kit.follow -/
def m56(nI:Nat)(dI:Dat)(nR:Nat)(dR:Dat)(n:Nat)(d:Dat):Bool × Dat × Int × Int:=M3 nI dI nR dR n d
def n56(nI:Nat)(dI:Dat)(nR:Nat)(dR:Dat)(n:Nat)(d:Dat):Bool:=n16 nI dI nR dR&&toB (Kr ⟨nI,dI,nR,dR⟩ n d)
def q56(r:Bool × Dat × Int × Int):SV × List Blk × List Blk:=(.tup [.rq r.1 [.sl [.str,.int .i64,.int .i64],.sl [.str,.int .i64,.int .i64,.int .i64],.sl [.pt [.str,.int .i64,.int .i64,.mi [.int .i64,.int .i64,.bool],.mb,.mb,.int .i64,.bool,.m1]],.int .i64] r.2.1 0 0,.int .i64 r.2.2.1,.int .i64 r.2.2.2],[],[])
def g56:List SV->List Blk->Option Ae:=fun vs bs=>match vs,bs with
 | [.agg [.ro [.str,.int .i64,.int .i64] nI dI,.ro [.str,.int .i64,.int .i64,.int .i64] nR dR],.ro [.int .i64,.int .i64,.str,.str,.str,.bool] n d],[]=>some (Bl 0 (q56 (m56 nI dI nR dR n d)) [n56 nI dI nR dR n d])
 | _,_=>none
def c56:Ctr:=AA [.a [.ro [.str,.int .i64,.int .i64],.ro [.str,.int .i64,.int .i64,.int .i64]],.ro [.int .i64,.int .i64,.str,.str,.str,.bool]] g56
theorem k56:Ag Tryz.prog c56 56:=by
 refine BM ⟨Tryz.f56,Tryz.func56,rfl,by kernel_rfl⟩ fun vs bs q hq hn O1 M xs w hd hm hfr hMb=>?_
 unfold g56 at hq
 split at hq <;> cases hq
 rename_i nI dI nR dR n d
 have hneed:=hn _ (List.mem_singleton.2 rfl)
 unfold n56 at hneed
 rw [Bool.and_eq_true] at hneed
 obtain ⟨x0,l0,rfl,h0,hd⟩:=A9 hd
 obtain ⟨xL,l1,rfl,hL,hd⟩:=A9 hd
 have:=Bb hd
 subst this
 obtain ⟨ys,rfl,hy⟩:=h0
 obtain ⟨xI,r0,rfl,hI,hy⟩:=A9 hy
 obtain ⟨xR,r1,rfl,hR,hy⟩:=A9 hy
 have:=Bb hy
 subst this
 have hS1:BB ⟨nI,dI,nR,dR⟩ xI xR O1.od:=R6 hI hR
 have hS:BB ⟨nI,dI,nR,dR⟩ xI xR (Bn w Br):=BB.mono (To hm.seal_) hS1
 have hE:(SV.ro evK n d).den ⟨fun _=>none,⟨(Bn w Br).c,fun _=>none,Br⟩,gl0 _⟩ xL:=Qf (od:=O1.od) (od':=⟨(Bn w Br).c,fun _=>none,Br⟩) (fun b o v hv=>hm.seal_.c b o v hv) rfl rfl hL
 refine (RB hS hE hneed.1 (U6 hneed.2)).mono ?_
 rintro e w' ⟨ys,rfl,hk,hF⟩
 rcases hF with ⟨hf,rfl⟩ | ⟨hmf,L,rfl,hT,hxI,hxR,hsh,hlow⟩
 .have hf:(m56 nI dI nR dR n d).1=false:=hf
  refine ⟨_,_,rfl,Ma (v:=(q56 (m56 nI dI nR dR n d)).1) (need:=[n56 nI dI nR dR n d]) hm.seal_ hk ?_⟩
  exact ⟨_,rfl,.inr ⟨hf,rfl⟩,rfl,rfl,trivial⟩
 .have hmf:m56 nI dI nR dR n d=(true,AY ⟨nI,dI,nR,dR⟩ (CO ⟨nI,dI,nR,dR⟩ d n),0,0):=hmf
  refine ⟨_,_,rfl,Ma (v:=(q56 (m56 nI dI nR dR n d)).1) (need:=[n56 nI dI nR dR n d]) hm.seal_ hk ?_⟩
  rw [hmf]
  refine ⟨_,rfl,.inl ⟨rfl,_,0,rfl,PC hsh (NH hlow) ?_⟩,rfl,rfl,trivial⟩
  rw [hxI,hxR]
  exact BB.mono (fun b o v hv=>(Kh hm.seal_).c b o v hv) hS1
end
end Go.Proofs.YtdcdjjogieojhaaGreatDoor
