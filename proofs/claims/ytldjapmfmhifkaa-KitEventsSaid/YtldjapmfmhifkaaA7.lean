/-
 Contracts of functions: models, equations by the kernel, contracts. Conditions: none.
-/
import Derived.Test.YtldjapmfmhifkaaA6
import Derived.KernelRfl
namespace Go.Proofs.Ytldjapmfmhifkaa
open Go Go.Sy Go.RowKit Go.ChangeMaps
set_option linter.unusedVariables false
set_option linter.unusedSimpArgs false
set_option maxRecDepth 100000
set_option maxHeartbeats 2000000
/-! ### helpers: analyse -/
def T7:Tys:=⟨112,108,127,141⟩
abbrev thS (s:ByteArray) (k b:Int) (m1 m2 m3:Value) (p:Int) (t:Bool) (m4:Value):List SV:=[.str s,.int .i64 k,.int .i64 b,.val m1,.val m2,.val m3,.int .i64 p,.bool t,.val m4]
theorem th_cells {ρ:Env} {c:Array Value} {s:ByteArray} {k b:Int} {m1 m2 m3:Value} {p:Int} {t:Bool} {m4:Value} (h:SV.denL ρ (thS s k b m1 m2 m3 p t m4) c.toList):c = #[.string s,.int .i64 k,.int .i64 b,m1,m2,m3,.int .i64 p,.bool t,m4]:=by
 apply Array.toList_inj.1
 obtain ⟨x0,l0,e0,d0,h⟩:=denL_cons h
 obtain ⟨x1,l1,e1,d1,h⟩:=denL_cons h
 obtain ⟨x2,l2,e2,d2,h⟩:=denL_cons h
 obtain ⟨x3,l3,e3,d3,h⟩:=denL_cons h
 obtain ⟨x4,l4,e4,d4,h⟩:=denL_cons h
 obtain ⟨x5,l5,e5,d5,h⟩:=denL_cons h
 obtain ⟨x6,l6,e6,d6,h⟩:=denL_cons h
 obtain ⟨x7,l7,e7,d7,h⟩:=denL_cons h
 obtain ⟨x8,l8,e8,d8,h⟩:=denL_cons h
 have e9:=denL_nil h
 rw [e0,e1,e2,e3,e4,e5,e6,e7,e8,e9]
 cases d0;cases d1;cases d2;cases d3;cases d4;cases d5;cases d6;cases d7;cases d8
 rfl
def c109:Code:=Try.f109.body.getD .skip
def c109a:Code:=match c109 with | .seq a _=>a | c=>c
def c109b:Code:=match c109 with | .seq _ (.seq b _)=>b | c=>c
def c109c:Code:=match c109 with | .seq _ (.seq _ (.cond _ c _))=>c | c=>c
def c109o:Array Oper:=match c109 with | .seq _ (.seq _ (.cond _ _ (.region _ o _)))=>o | _=>#[]
def c109i:Array Oper:=c109o.toList.dropLast.toArray
def c109l:Oper:=match c109o.toList.getLast? with | some o=>o | none=>⟨none,.move (.tmp 0),0,"",#[],none⟩
theorem c109_eq:c109 = .seq c109a (.seq c109b (.cond (.tmp 9) c109c (.region 3 (c109i.push c109l) true))):=by kernel_rfl
theorem c109l_op:c109l.op = .mapUpdate 125 (.tmp 20) (.tmp 24) (.const (.bool true)):=by kernel_rfl
theorem c109l_dst:c109l.dst = none:=by kernel_rfl
theorem c109l_guard:c109l.guard = none:=by kernel_rfl
theorem y109a (nm:ByteArray) (k b pr:Int) (st t1:Bool) (m1 m2 m3 m4:Value) (R:XE→List SV→List Blk→Prop):exec Try.prog [] (fun _=>none) 8 (preC [c109a,c109b]) (mkSt 1 25 [0,1] [.ptr 0 0,.bool t1] 1 [.cells 127 (thS nm k b m1 m2 m3 pr st m4)]) (canonK 1 25 [0,9] [] 1 [] R) =
 (R (XE.normal) [.ptr 0 0,.bool t1] [.cells 127 (thS nm k b m1 m2 m3 pr (bif t1 then false else true) m4)]):=by kernel_rfl
theorem y109c (nm:ByteArray) (k b pr:Int) (st t1:Bool) (m1 m2 m3 m4:Value) (R:XE→List SV→List Blk→Prop):exec Try.prog [] (fun _=>none) 8 c109c (mkSt 1 25 [0,9] [.ptr 0 0,.bool t1] 1 [.cells 127 (thS nm k b m1 m2 m3 pr st m4)]) (canonK 1 25 [] [] 1 [] R) =
 (R (XE.normal) [] [.cells 127 (thS nm k b m1 m2 m3 (IntKind.i64.wrap (pr + 1)) st m4)]):=by kernel_rfl
theorem y109d (nm:ByteArray) (k b pr:Int) (st t1:Bool) (m1 m2 m3 m4:Value) (R:SV→SV→Blk→Prop):xDraw Try.prog (gamOf false []) c109i (mkSt 1 25 [0,9] [.ptr 0 0,.bool t1] 1 [.cells 127 (thS nm k b m1 m2 m3 pr st m4)]) (fun s=>R (ev s [] (.tmp 20)) (ev s [] (.tmp 24)) (s.mem 0)) =
 (R (.val m4) (.int .i64 pr) (.cells 127 (thS nm k b m1 m2 m3 pr st m4))):=by kernel_rfl
def anT (t:Th) (ok:Bool):Th:=cond ok { t with st:=false,pr:=t.pr + 1 } { t with st:=true,bad:=fun q=>t.bad q || decide (q = t.pr) }
theorem int3:Try.prog.underlying 3 = some (.int .i64):=by kernel_rfl
theorem map125:Try.prog.underlying 125 = some (.map 3 4):=by kernel_rfl
theorem calls109 {L:Lay} {K:Kst} {st:Stt} {w:World} (hL:L.T = T7) (h:ShopAt L K st w) {i:Nat} (hi:i < K.n) (ok:Bool) (hpr:(st.th i).pr < 1000000) :
  Calls Try.prog 109 ⟨[.pointer (some ⟨L.at_ (.th i),0,none⟩),.bool ok]⟩ w fun e w'=>∃ ys,e = .returned (retV ys)∧ShopAt L K (upT st i (anT (st.th i) ok)) w'∧Only L K w w':=by
 refine calls_raw (fn:=Try.f109) (c:=c109) Try.func109 rfl [] rfl (xs:=[.pointer (some ⟨L.at_ (.th i),0,none⟩),.bool ok]) (show 2≤Try.f109.ntmps by decide) (Q:=fun _ w'=>ShopAt L K (upT st i (anT (st.th i) ok)) w'∧Only L K w w') fun a hsz hdf hargs=>?_
 rw [c109_eq]
 obtain ⟨o0,hb,ho⟩:=h.at_ (.th i) hi
 have ho:o0 = .cells (thV L K st i) L.T.th (0,0):=ho
 subst ho
 rw [hL] at hb
 have hs0:StDen w.heap.size [L.at_ (.th i)] ⟨w,nm1 (L.at_ (.th i)) noOd,1,fun _=>none,some []⟩ (nm1 (L.at_ (.th i)) noOd) (mkSt 1 25 [0,1] [.ptr 0 0,.bool ok] 1 [.cells 127 (thS (K.di.ss i 0) (K.di.ii i 1) (K.di.ii i 2) (.map (some (L.at_ (.ck i)))) (.map (some (L.at_ (.hs i)))) (.map (some (L.at_ (.hd i)))) ((st.th i).pr:Int) (st.th i).st (.map (some (L.at_ (.bd i)))))]) a w:=by
  refine StDen.start hsz hdf (fun d e=>by cases e;rfl) (mem1 hb ⟨rfl,rfl,rfl,rfl,rfl,rfl,rfl,rfl,rfl,trivial⟩ (by simp) (noOd_ok w) fun _=>rfl) (fun j hj=>if_neg (by omega)) (fun e=>by cases e) (fun p t v h1 h2=>?_) (fun v hv t pol u e=>?_)
  ·match p,h1,h2 with
   | 0,h1,h2=>cases h1;cases h2;exact ⟨_,rfl,hargs 0 _ rfl⟩
   | 1,h1,h2=>cases h1;cases h2;exact hargs 1 _ rfl
  ·simp at hv;rcases hv with rfl | rfl <;> cases e
 refine pre_cans (l:=[c109a,c109b]) (R:=fun e v b=>e = .normal∧v = [.ptr 0 0,.bool ok]∧b = _) tabOk_nil mix_ok (by simp) (propOf (y109a _ _ _ _ _ _ _ _ _ _ _) ⟨rfl,rfl,rfl⟩) (fun x hx=>.inr (by simp at hx;rcases hx with rfl | rfl <;> kernel_rfl)) hs0 ?_ (fun e _ _ _ _ _ hne hR=>absurd hR.1 hne)
 rintro vs bs ρ1 a1 w1 ⟨_,rfl,rfl⟩ h1
 obtain ⟨c1,hb1,hd1⟩:=h1.cells1
 have hc1:=th_cells hd1
 subst hc1
 have hk1:Kept w.heap.size [L.at_ (.th i)] w w1:=h1.kept
 have e9:a1.eval (.tmp 9) = .bool ok:=ev_den h1.tmDen (AsmOk.nil a1) (.tmp 9)
 have hsh1:ShopAt L K (upT st i { st.th i with st:=bif ok then false else true }) w1:=by
  refine h.up (.th i) hi (h.ok.up (fun _=>rfl) (fun a b hab hi=>h.ok.has i hi a b hab) (fun a b hab hi=>h.ok.had i hi a b hab)) hk1.keep1 ⟨_,hb1,?_⟩ (fun e=>absurd rfl e) (fun _=>rfl) (fun _=>rfl) (fun _=>rfl) (fun _ _=>rfl)
  show Obj.cells _ _ _ = Obj.cells (thV L K _ i) L.T.th (0,0)
  rw [hL]
  simp only [thV,upT_same]
  rfl
 have ho1:Only L K w w1:=Only.of_kept hk1 fun b hb=>⟨.th i,hi,(List.mem_singleton.1 hb).symm⟩
 refine wpIn_cond e9 ?_
 cases ok with
 | true =>
  refine exec_canR tabOk_nil mix_ok (R:=fun v b=>v = []∧b = _) (propOf (y109c _ _ _ _ _ _ _ _ _ _ _) ⟨rfl,rfl,rfl⟩) (.inr (by kernel_rfl)) h1 ?_
  rintro vs bs ρ2 a2 w2 ⟨rfl,rfl⟩ h2
  obtain ⟨c2,hb2,hd2⟩:=h2.cells1
  have hc2:=th_cells hd2
  subst hc2
  have hk2:Kept w.heap.size [L.at_ (.th i)] w w2:=h2.kept
  refine ⟨.inr rfl,h2.defs.same_ [] rfl,?_,Only.of_kept hk2 fun b hb=>⟨.th i,hi,(List.mem_singleton.1 hb).symm⟩⟩
  refine h.up (.th i) hi (h.ok.up (fun _=>rfl) (fun a b hab hi=>h.ok.has i hi a b hab) (fun a b hab hi=>h.ok.had i hi a b hab)) hk2.keep1 ⟨_,hb2,?_⟩ (fun e=>absurd rfl e) (fun _=>rfl) (fun _=>rfl) (fun _=>rfl) (fun _ _=>rfl)
  show Obj.cells _ _ _ = Obj.cells (thV L K _ i) L.T.th (0,0)
  rw [hL]
  have hw:IntKind.i64.wrap (((st.th i).pr:Int) + 1) = (((st.th i).pr + 1:Nat):Int):=by rw [wrp (by omega) (by omega)];rfl
  simp only [thV,upT_same,anT,cond_true,hw]
  rfl
 | false =>
  refine xDrawL_raw (gamOf_ok (pix:=false) tabOk_nil) mix_ok (by kernel_rfl) (by kernel_rfl) c109l_dst (k:=fun s=>ev s [] (.tmp 20) = .val (.map (some (L.at_ (.bd i))))∧ev s [] (.tmp 24) = .int .i64 ((st.th i).pr:Int)∧s.mem 0 = .cells 127 (thS (K.di.ss i 0) (K.di.ii i 1) (K.di.ii i 2) (.map (some (L.at_ (.ck i)))) (.map (some (L.at_ (.hs i)))) (.map (some (L.at_ (.hd i)))) ((st.th i).pr:Int) (bif false then false else true) (.map (some (L.at_ (.bd i)))))) (fun s ρ2 a2 w2 h2 hk=>?_) h1 (propOf (y109d _ _ _ _ _ _ _ _ _ _ (fun x y z=>x = .val (.map (some (L.at_ (.bd i))))∧y = .int .i64 ((st.th i).pr:Int)∧z = .cells 127 (thS (K.di.ss i 0) (K.di.ii i 1) (K.di.ii i 2) (.map (some (L.at_ (.ck i)))) (.map (some (L.at_ (.hs i)))) (.map (some (L.at_ (.hd i)))) ((st.th i).pr:Int) (bif false then false else true) (.map (some (L.at_ (.bd i))))))) ⟨rfl,rfl,rfl⟩)
  obtain ⟨k1,k2,k3⟩:=hk
  have x1:=ev_den h2.tmDen (AsmOk.nil a2) (.tmp 20)
  have x2:=ev_den h2.tmDen (AsmOk.nil a2) (.tmp 24)
  rw [k1] at x1
  rw [k2] at x2
  have x1:a2.eval (.tmp 20) = .map (some (L.at_ (.bd i))):=x1
  have x2:a2.eval (.tmp 24) = .int .i64 ((st.th i).pr:Int):=x2
  have e0:ρ2 0 = some ⟨L.at_ (.th i),0,0⟩:=h2.argl 0 (Nat.lt_succ_self 0)
  obtain ⟨_,hden,_⟩:=h2.mem.get (i:=0) (by rw [k3];rfl) e0
  rw [k3] at hden
  obtain ⟨_,c2,hb2,hd2⟩:=hden
  have hc2:=th_cells hd2
  subst hc2
  have hk2:Kept w.heap.size [L.at_ (.th i)] w w2:=h2.kept
  have hsh2:ShopAt L K (upT st i { st.th i with st:=true }) w2:=by
   refine h.up (.th i) hi (h.ok.up (fun _=>rfl) (fun a b hab hi=>h.ok.has i hi a b hab) (fun a b hab hi=>h.ok.had i hi a b hab)) hk2.keep1 ⟨_,hb2,?_⟩ (fun e=>absurd rfl e) (fun _=>rfl) (fun _=>rfl) (fun _=>rfl) (fun _ _=>rfl)
   show Obj.cells _ _ _ = Obj.cells (thV L K _ i) L.T.th (0,0)
   rw [hL]
   simp only [thV,upT_same]
   rfl
  obtain ⟨_,g1,es,cl,f,rfl,g2,g3⟩:=hsh2.at_ (.bd i) hi
  obtain ⟨o',hrun,hat⟩:=MapAt.update (intKeys int3) map125 (w:=w2) (b:=L.at_ (.bd i)) ⟨es,cl,g1,g2⟩ ((st.th i).pr:Int) (.bool true)
  refine wpOp_skip c109l_guard (w':=setBlock w2 (L.at_ (.bd i)) o') ?_ ?_ (by rw [c109l_op];intro c e;cases e)
  ·unfold execOp
   rw [c109l_op]
   have x3:a2.eval (.const (.bool true)) = .bool true:=rfl
   simp only [x1,x2,x3]
   simp [hrun]
  ·refine ⟨.inr rfl,?_,?_,(Only.of_kept hk2 fun b hb=>⟨.th i,hi,(List.mem_singleton.1 hb).symm⟩).trans (Only.set (t:=.bd i) hi o')⟩
   ·rw [put_defs];exact h2.defs.same_ [] rfl
   ·obtain ⟨es',cl',q1,q2⟩:=hat
    have:=hsh2.up (i:=i) (t:=anT (st.th i) false) (w':=setBlock w2 (L.at_ (.bd i)) o') (.bd i) hi ?_ setBlock_keep ⟨_,q1,es',cl',_,rfl,q2,?_⟩ (fun _=>?_) (fun _=>?_) (fun _=>?_) (fun e=>absurd rfl e) (fun q _=>?_)
    ·rw [upT_upT] at this;exact this
    ·exact hsh2.ok.up (fun q=>by rw [upT_same];rfl) (fun a b hab hi=>h.ok.has i hi a b hab) (fun a b hab hi=>h.ok.had i hi a b hab)
    ·rw [upT_same] at g3
     rw [upT_same]
     intro r
     by_cases er:r = ((st.th i).pr:Int)
     ·subst er
      simp [anT]
     ·simp only [if_neg er]
      rw [g3 r]
      have:(decide (0≤r) && ((st.th i).bad r.toNat || decide (r.toNat = (st.th i).pr))) = (decide (0≤r) && (st.th i).bad r.toNat):=by
       by_cases h0:0≤r
       ·have:¬ r.toNat = (st.th i).pr:=by omega
        simp [this]
       ·simp [h0]
      show _ = if (decide (0≤r) && ((st.th i).bad r.toNat || decide (r.toNat = (st.th i).pr))) = true then _ else _
      rw [this]
    ·rw [upT_same];exact ⟨rfl,rfl⟩
    ·rw [upT_same];rfl
    ·rw [upT_same];rfl
    ·rw [upT_same];rfl
end
end Go.Proofs.Ytldjapmfmhifkaa
