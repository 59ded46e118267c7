/-
 A symbolic executor for the model's code, part H: one operation, whichever. Conditions: none.
-/
import Derived.CallsIn
import Derived.TacticsIn
import Derived.RangeFuncCalls
import Derived.OrdersIn
import Derived.LoopNIn
import Derived.RangeFuncLeaves
import Derived.RangeFuncRecord
import Derived.RangeFuncOwn
import Derived.Test.YtpfipoimpmlmoaaGreatDoorJSyLk
namespace Go.Sy
set_option linter.unusedVariables false
set_option linter.unusedSimpArgs false
open Go.RowKit
section runs
variable {P:Program} {rd:Option Nat} {n:Nat}
def xPick (s:SState) (asm:Asm) (c a b:Operand):Option OpRes :=
 match c with
 | .tmp t=>match ev s asm c,ev s ((t,true) :: asm) a,ev s ((t,false) :: asm) b with
  | .bool bc,.bool x,.bool y=>some { v:=.bool (cond bc x y) }
  | _,_,_=>none
 | _=>none
def xNil (v:SV):Option OpRes :=
 match v with
 | .ptr i o=>some { v:=.ptr i o }
 | .elt i s k j=>some { v:=.elt i s k j }
 | .rp sh d k j=>some { v:=.rp sh d k j }
 | .ra sh n d=>some { v:=.ra sh n d }
 | .rq t sh d k j=>some { v:=.rp sh d k j,need:=[t] }
 | .rz t i sh d=>some { v:=.rz true i sh d,need:=[t] }
 | .pix i o s m k j=>some { v:=.pix i o s m k j }
 | .fn f l=>some { v:=.fn f l }
 | _=>none
def xNilI (P:Program) (op:BinOp) (t:TypeId) (v:SV) (y:Operand):Option OpRes :=
 match v,y,P.underlying t with
 | .ni b,.const .nilIface,some (.interface _)=>(match op with
  | .eql=>some { v:=.bool b }
  | .neq=>some { v:=.bool (!b) }
  | _=>none)
 | _,_,_=>none
theorem run_xNilI {ρ:Env} {w:World} {op:BinOp} {t:TypeId} {v:SV} {y ox:Operand} {r:OpRes} (h:xNilI P op t v y=some r) {x:Value} (hv:v.den ρ x) (off:Nat) :
  ∃ z,(eqGuard op t ox y x .nilIface).run P w=.ok () w∧(binOp op t x .nilIface).run P w=.ok z w∧OpPost ρ ρ off r w w z∧y=.const .nilIface:=by
 unfold xNilI at h
 split at h <;> try (cases h;done)
 rename_i b ms hu
 have hg:∀ op,(eqGuard op t ox (.const .nilIface) x .nilIface).run P w=.ok () w:=fun op=>by
  rcases hv with ⟨_,rfl⟩ | ⟨_,u,v,rfl⟩
  ·unfold eqGuard
   cases op <;> simp
  ·exact run_eqGuard_plain _ _ _ _ _ _ _ (by simp) (by simp)
 have he:∀ d,(Op.equalIn (d+1) t x .nilIface).run P w=.ok b w:=fun d=>by
  rcases hv with ⟨rfl,rfl⟩ | ⟨rfl,u,v,rfl⟩ <;> simp only [Op.equalIn,Sem.run_bind,run_underlying hu,Result.andThen_ok,Sem.run_pure]
 have hb:∀ no:Bool,binOp (if no then .neq else .eql) t x .nilIface=(if no then (do pure (.bool (!(← Op.equal t x .nilIface)))) else (do pure (.bool (← Op.equal t x .nilIface))):Sem Value):=fun no=>by
  rcases hv with ⟨_,rfl⟩ | ⟨_,u,v,rfl⟩ <;> cases no <;> rfl
 split at h <;> cases h
 ·exact ⟨_,hg _,run_eqOp false (hb false) (he 9999),OpPost.pure_ rfl,rfl⟩
 ·exact ⟨_,hg _,run_eqOp true (hb true) (he 9999),OpPost.pure_ rfl,rfl⟩
def xIface (P:Program) (t:TypeId) (v:SV):Option OpRes :=
 match P.underlying t with
 | some (.interface _)=>none
 | some _=>some { v:=.ifc t [v] }
 | none=>none
theorem run_xIface {ρ:Env} {w:World} {t:TypeId} {v:SV} {r:OpRes} (h:xIface P t v=some r) {x:Value} (hv:v.den ρ x) (off:Nat) :
  (Instr.makeInterface t x).run P w=.ok (.iface t x) w∧OpPost ρ ρ off r w w (.iface t x):=by
 unfold xIface at h
 split at h <;> cases h
 rename_i u hn hu
 refine ⟨?_,OpPost.pure_ ⟨[x],⟨x,rfl,rfl⟩,hv,trivial⟩⟩
 simp only [Instr.makeInterface,Sem.run_bind,run_underlying hu,Result.andThen_ok]
 cases u <;> first | rfl | exact absurd rfl (hn _)
def xAssert (P:Program) (asserted:TypeId) (ok:Bool) (v:SV):Option OpRes :=
 match v,P.underlying asserted with
 | .ifc _ _,some (.interface _)=>none
 | .ifc t [u],some _=>(match decide (t=asserted),ok with
  | true,true=>some { v:=.tup [u,.bool true] }
  | true,false=>some { v:=u }
  | false,true=>(zeroOf P asserted).map fun z=>{ v:=.tup [.val z,.bool false] }
  | false,false=>none)
 | _,_=>none
theorem run_xAssert {ρ:Env} {w:World} {s t:TypeId} {ok:Bool} {v:SV} {r:OpRes} (h:xAssert P t ok v=some r) {x:Value} (hv:v.den ρ x) (off:Nat) :
  ∃ z,(Instr.typeAssert x s t ok).run P w=.ok z w∧OpPost ρ ρ off r w w z:=by
 unfold xAssert at h
 split at h <;> try (cases h;done)
 rename_i t' u un hn hu
 obtain ⟨xs,⟨y,rfl,rfl⟩,hy,_⟩:=hv
 have hn':∀ ms,un≠.interface ms:=fun ms e=>hn ms (by rw [e])
 have run:(Instr.typeAssert (.iface t' y) s t ok).run P w=(if t'=t then (pure (if ok then .tuple #[y,.bool true] else y):Sem Value) else (if ok then (do let z ← zeroValue t;pure (.tuple #[z,.bool false]):Sem Value) else runtimePanic (.typeAssertion (some s) (some t') t ""))).run P w:=by
  simp only [Instr.typeAssert,Sem.run_bind,run_underlying hu,Result.andThen_ok]
 split at h
 ·cases h
  rename_i e
  have e:t'=t:=by simpa using e
  exact ⟨_,by rw [run,if_pos e];rfl,OpPost.pure_ ⟨[y,.bool true],rfl,hy,rfl,trivial⟩⟩
 ·cases h
  rename_i e
  have e:t'=t:=by simpa using e
  exact ⟨_,by rw [run,if_pos e];rfl,OpPost.pure_ hy⟩
 ·rename_i e
  have e:t'≠t:=by simpa using e
  rw [Option.map_eq_some_iff] at h
  obtain ⟨z,hz,rfl⟩:=h
  refine ⟨.tuple #[z,.bool false],?_,OpPost.pure_ ⟨[z,.bool false],rfl,rfl,rfl,trivial⟩⟩
  rw [run,if_neg e]
  have:=run_zeroOf hz w
  simp only [if_true,Sem.run_bind,this,Result.andThen_ok]
  rfl
 ·cases h
def byteS (a:Int):ByteArray:=⟨#[UInt8.ofNat a.toNat]⟩
def xByteS (P:Program) (mem:Nat→Blk) (src dst:TypeId) (v:SV):Option OpRes :=
 match P.underlying src,P.underlying dst,v with
 | some (.slice e),some .string,.own i 1 1=>(match P.underlying e,mem i with
  | some (.int .u8),.row _ [.int .u8] m d=>some { v:=.str (byteS (d.ii 0 0)),need:=[decide (0<m),decide (0≤d.ii 0 0∧d.ii 0 0≤255)] }
  | _,_=>none)
 | _,_,_=>none
theorem run_xByteS {B:Nat} {M:List Nat} {ρ:Env} {mem:Nat→Blk} {w:World} (hm:MemDen B M ρ mem w) {src dst:TypeId} {v:SV} {r:OpRes} (h:xByteS P mem src dst v=some r) (hn:∀ b∈r.need,b=true) {x:Value} (hv:v.den ρ x) (off:Nat) :
  ∃ y,(convert src dst x).run P w=.ok y w∧OpPost ρ ρ off r w w y:=by
 unfold xByteS at h
 split at h <;> try (cases h;done)
 rename_i e i hs hd
 split at h <;> cases h
 rename_i e' m d he hi
 have h0:0<m:=by simpa using hn (decide (0<m)) (by simp)
 have h1:0≤d.ii 0 0∧d.ii 0 0≤255:=by simpa using hn (decide (0≤d.ii 0 0∧d.ii 0 0≤255)) (by simp)
 obtain ⟨mm,hmm,ho,hcap,rfl⟩:=hv
 obtain ⟨_,hb,_⟩:=hm.get (by rw [hi];rfl) hmm
 rw [hi] at hb
 obtain ⟨y,hy,hdy⟩:=(hb.2.2.2 0 h0).2 0 (.int .u8 (d.ii 0 0)) rfl
 cases hdy
 simp only [ho,Nat.zero_mul,Nat.zero_add,Nat.add_zero] at hy
 have hb:((UInt8.ofNat (d.ii 0 0).toNat).toNat:Int)=d.ii 0 0:=by
  rw [UInt8.toNat_ofNat'];omega
 refine ⟨.string (byteS (d.ii 0 0)),?_,OpPost.pure_ rfl⟩
 exact run_convert_bytes_back (P:=P) w src dst e ⟨mm.blk,0,none⟩ mm.cap [UInt8.ofNat (d.ii 0 0).toNat] hs he hd (by
  intro j hj
  have hj0:j=0:=by simpa using hj
  subst hj0
  rw [Addr.add_mid]
  show w.cell? _=some (Value.int IntKind.u8 ((UInt8.ofNat (d.ii 0 0).toNat).toNat:Int))
  rw [hb]
  exact hy)
def xCall (P:Program) (Γ:Gam) (s:SState) (off:Nat) (asm:Asm) (c:Call):Option OpRes :=
 match c.callee with
 | .value f=>match ev s asm f with
  | .fn n caps=>match Γ.c n with
   | some g=>g off s.mem (c.args.toList.map (ev s asm) ++ caps)
   | none=>none
  | .fb n fst=>match Γ.c n with
   | some g=>g off s.mem (fst ++ c.args.toList.map (ev s asm))
   | none=>none
  | _=>none
 | .builtin .len=>match c.argTypes.toList,c.args.toList with
  | [t],[x]=>xLen P t (ev s asm x)
  | _,_=>none
 | .builtin .append=>match c.argTypes.toList,c.args.toList with
  | [t,t'],[x,y]=>match P.underlying t' with
   | some (.slice _)=>match ev s asm x with
    | .emp=>xAppendS P s.mem t (ev s asm y)
    | v=>xAppend P s.mem off t v (ev s asm y)
   | some (.int _)=>xAppendN P off t (ev s asm x) (ev s asm y)
   | some .string=>xAppendB P s.mem off t (ev s asm x) (ev s asm y)
   | _=>none
  | _,_=>none
 | .builtin .cap=>match c.argTypes.toList,c.args.toList with
  | [t],[x]=>match P.underlying t,ev s asm x with
   | some (.slice _),.nsl=>some { v:=.int .i64 0 }
   | _,_=>none
  | _,_=>none
 | .builtin .clear=>match c.argTypes.toList,c.args.toList with
  | [t],[x]=>xClear P s.mem t (ev s asm x)
  | _,_=>none
 | .builtin .max=>(xMax imax (c.args.toList.map (ev s asm))).map fun v=>{ v:=v }
 | .builtin .min=>(xMax imin (c.args.toList.map (ev s asm))).map fun v=>{ v:=v }
 | _=>none
def xStoreF (P:Program) (mem:Nat→Blk) (t:TypeId) (p v:SV):Option OpRes:=match p,v with
 | .elt i _ _ c,.nsl=>(match mem i with
  | .row _ sh _ _=>(match sh[c]? with
   | some kd=>xStore P mem t p (kd.fit .nsl)
   | none=>none)
  | _=>xStore P mem t p v)
 | _,_=>xStore P mem t p v
theorem run_xStoreF {B:Nat} {M:List Nat} {ρ:Env} {mem:Nat→Blk} {w:World} (hm:MemDen B M ρ mem w) {t:TypeId} {p v:SV} {r:OpRes} (h:xStoreF P mem t p v=some r) (hn:∀ b∈r.need,b=true) {x y:Value} (hp:p.den ρ x) (hv:v.den ρ y) (off:Nat) :
  ∃ w',(Instr.storeAt t x y).run P w=.ok () w'∧OpPost ρ ρ off r w w' undef:=by
 unfold xStoreF at h
 split at h
 ·split at h
  ·split at h <;> try (cases h;done)
   exact run_xStore hm h hn hp (fit_den _ hv) off
  ·exact run_xStore hm h hn hp hv off
 ·exact run_xStore hm h hn hp hv off
def xOp (P:Program) (Γ:Gam) (s:SState) (off:Nat) (asm:Asm) (o:Oper):Option OpRes :=
 match o.op with
 | .move x=>some { v:=ev s asm x }
 | .assign x=>some { v:=ev s asm x }
 | .pick c a b=>xPick s asm c a b
 | .alloc t=>xAlloc P off t
 | .box t x=>xBox off t (ev s asm x)
 | .build t ps=>xBuild P t (ps.toList.map fun p=>(p.1,ev s asm p.2))
 | .buildSlice t n ps=>match Γ.c 3 with
  | some _=>match n with
   | 0=>xBuildEmp P t (ps.toList.map fun p=>(p.1,ev s asm p.2))
   | n+1=>xBuildRo P t (n+1) (ps.toList.map fun p=>(p.1,ev s asm p.2))
  | none=>xBuildSlice P off t n (ps.toList.map fun p=>(p.1,ev s asm p.2))
 | .load t x=>xLoad P s.mem t (ev s asm x)
 | .store t x y=>xStoreF P s.mem t (ev s asm x) (ev s asm y)
 | .nilCheck x=>xNil (ev s asm x)
 | .binOp op t x y _=>(match xBin P op t (ev s asm x) (ev s asm y) with
  | some r=>some r
  | none=>xNilI P op t (ev s asm x) y)
 | .unOp op _ x=>xUn op (ev s asm x)
 | .convert t u x=>(match xConvert P t u (ev s asm x) with
  | some r=>some r
  | none=>xByteS P s.mem t u (ev s asm x))
 | .makeFunc (.func f) first caps=>if first.toList.isEmpty then some { v:=.fn f (caps.toList.map (ev s asm)) } else if caps.toList.isEmpty then some { v:=.fb f (first.toList.map (ev s asm)) } else none
 | .makeSlice t l c=>xMakeSlice P off t (ev s asm l) (ev s asm c)
 | .slice t x lo hi mx=>match mx with
  | none=>xSlice P t (ev s asm x) (lo.map (ev s asm)) (hi.map (ev s asm))
  | some mx=>match hi with
   | some hi=>xSlice0 P off t (ev s asm x) (lo.map (ev s asm)) (ev s asm hi) (ev s asm mx)
   | none=>none
 | .fieldAddr t x f=>xFieldAddr P t (ev s asm x) f
 | .field t x f=>xField P t (ev s asm x) f
 | .indexAddr t x i=>xIndexAddr P Γ.pix t (ev s asm x) (ev s asm i)
 | .index t x i=>(match Γ.pix with
  | true=>xIndexX P t (ev s asm x) (ev s asm i)
  | false=>xIndex P t (ev s asm x) (ev s asm i))
 | .extract x i=>xExtract (ev s asm x) i
 | .call c=>xCall P Γ s off asm c
 | .lookup t m x ok=>xLookup P t ok (ev s asm m) (ev s asm x)
 | .makeInterface t x=>xIface P t (ev s asm x)
 | .typeAssert x _ t ok=>xAssert P t ok (ev s asm x)
 | _=>none
abbrev FW (rd:Option Nat):Fence:={ Fence.wide with round:=rd }
theorem semAt_any (rd:Option Nat) (ρ:Operand→Value) (o:Oper) (h:∀ c,o.op≠.defer c):Oper.semAt rd ρ o=execOp ρ o:=by
 cases rd with
 | none=>rfl
 | some l=>exact Oper.semAt_some l ρ o h
theorem callsIn_fw {P:Program} {rd:Option Nat} {n:Nat} {f:FuncId} {args:Array Value} {w:World} {R:Ending→World→Prop} (h:Calls P f args w R):CallsIn (FW rd) n P f args w R:=by
 cases rd with
 | none=>exact callsIn_wide.2 h
 | some l=>exact CallsIn.inRound l (callsIn_wide.2 h)
theorem wp_of_value {o:Oper} {a:Act} {w w':World} {x:Value} {K:Act→World→Prop} {Q:Exit→Act→World→Prop} (h:(execOp a.eval o).run P w=.ok (.value x) w') (hk:K (a.put o.dst x) w') (hd:∀ c,o.op≠.defer c:=by intro c e;cases e):o.wpIn (FW rd) n P a w K Q:=by
 refine ⟨fun _ _=>trivial,?_⟩
 rw [show (FW rd).round=rd from rfl,semAt_any rd _ o hd,h];exact hk
theorem wp_of_skip {o:Oper} {a:Act} {w w':World} {K:Act→World→Prop} {Q:Exit→Act→World→Prop} (h:(execOp a.eval o).run P w=.ok .skip w') (hk:K (a.put o.dst undef) w') (hd:∀ c,o.op≠.defer c:=by intro c e;cases e):o.wpIn (FW rd) n P a w K Q:=by
 refine ⟨fun _ _=>trivial,?_⟩
 rw [show (FW rd).round=rd from rfl,semAt_any rd _ o hd,h];exact hk
section
variable {ρ:Env} {s:SState} {a:Act} {asm:Asm}
theorem evs_den (hT:TmDen ρ s a) (ha:AsmOk asm a):∀ l:List Operand,SV.denL ρ (l.map (ev s asm)) (l.map a.eval)
 | []=>trivial
 | x :: l=>⟨ev_den hT ha x,evs_den hT ha l⟩
theorem evps_den (hT:TmDen ρ s a) (ha:AsmOk asm a):∀ l:List (Nat × Operand),vpairs ρ (l.map fun p=>(p.1,ev s asm p.2)) (l.map fun p=>(p.1,a.eval p.2))
 | []=>trivial
 | x :: l=>⟨rfl,ev_den hT ha x.2,evps_den hT ha l⟩
theorem evo_den (hT:TmDen ρ s a) (ha:AsmOk asm a):∀ x:Option Operand,odenO ρ (x.map (ev s asm)) (x.map a.eval)
 | none=>trivial
 | some x=>ev_den hT ha x
end
theorem xOp_wp {Γ:Gam} (hΓ:GamOk P Γ) {B:Nat} {M:List Nat} {ρ:Env} {s:SState} {a:Act} {w:World} {asm:Asm} {off:Nat} {o:Oper} {r:OpRes} (h:xOp P Γ s off asm o=some r) (hn:r.need_ok) (hfit:r.fits s.mem off)
  (hT:TmDen ρ s a) (hM:MemDen B M ρ s.mem w) (hB:B≤w.heap.size) (ha:AsmOk asm a) (hfr:∀ j,j<r.news.length→ρ (off+j)=none) {K:Act→World→Prop} {Q:Exit→Act→World→Prop}
  (hk:∀ x w' ρ',OpPost ρ ρ' off r w w' x→K (a.put o.dst x) w'):o.wpIn (FW rd) n P a w K Q:=by
 have E:=fun x=>ev_den hT ha x
 obtain ⟨dst,op,type,pos,after,guard⟩:=o
 cases op <;> simp only [xOp] at h <;> try (cases h;done)
 case move x=>cases h;exact wp_of_value (x:=a.eval x) (by simp [execOp]) (hk _ _ _ (OpPost.pure_ (E x)))
 case assign x=>cases h;exact wp_of_value (x:=a.eval x) (by simp [execOp]) (hk _ _ _ (OpPost.pure_ (E x)))
 case pick c x y =>
  unfold xPick at h
  split at h <;> try (cases h;done)
  rename_i t
  split at h <;> cases h
  rename_i bc p q hc hp hq
  have hcx:=E (.tmp t)
  rw [hc] at hcx
  have hcv:a.eval (.tmp t)=.bool bc:=hcx
  have ht:a.tmps[t]? = some (.bool bc):=by
   simp only [Act.eval,Array.getD_eq_getD_getElem?] at hcv
   cases hg:a.tmps[t]? with
   | none=>rw [hg] at hcv;simp [undef] at hcv
   | some z=>rw [hg] at hcv;simp at hcv;rw [hcv]
  cases bc
  ·have hy:=ev_den hT (AsmOk.cons ha ht) y
   rw [hq] at hy
   have hy':a.eval y=.bool q:=hy
   exact wp_of_value (x:=.bool q) (by simp [execOp,hcv,asBool,hy']) (hk _ _ _ (OpPost.pure_ rfl))
  ·have hx:=ev_den hT (AsmOk.cons ha ht) x
   rw [hp] at hx
   have hx':a.eval x=.bool p:=hx
   exact wp_of_value (x:=.bool p) (by simp [execOp,hcv,asBool,hx']) (hk _ _ _ (OpPost.pure_ rfl))
 case alloc t =>
  have hf:ρ off=none:=by
   unfold xAlloc at h;split at h <;> cases h;exact hfr 0 (by simp)
  obtain ⟨y,w',ρ',hr,hp⟩:=run_xAlloc (P:=P) (w:=w) h hf (fun _ _ _=>hM.od_lt)
  exact wp_of_value (by simp [execOp,hr]) (hk _ _ _ hp)
 case box t x =>
  have hf:ρ off=none:=by
   unfold xBox at h;split at h <;> cases h;exact hfr 0 (by simp)
  obtain ⟨y,w',ρ',hr,hp⟩:=run_xBox (P:=P) (w:=w) h (E x) hf (fun _ _ _=>hM.od_lt)
  exact wp_of_value (by simp [execOp,hr]) (hk _ _ _ hp)
 case build t ps =>
  have hps:=evps_den hT ha ps.toList
  obtain ⟨y,hr,hp⟩:=run_xBuild (P:=P) (w:=w) (xs:=ps.map fun p=>(p.1,a.eval p.2)) h (by simpa using hps) off
  exact wp_of_value (by simp [execOp,hr]) (hk _ _ _ hp)
 case buildSlice t n ps =>
  have hps:=evps_den hT ha ps.toList
  split at h
  ·split at h
   ·obtain ⟨y,w',hr,hp⟩:=run_xBuildEmp (P:=P) (w:=w) (off:=off) (xs:=ps.map fun p=>(p.1,a.eval p.2)) h (by simpa using hps)
    exact wp_of_value (by simp [execOp,hr]) (hk _ _ _ hp)
   ·obtain ⟨y,w',ρ',hr,hp⟩:=run_xBuildRo (P:=P) (w:=w) (off:=off) (xs:=ps.map fun p=>(p.1,a.eval p.2)) h (by simpa using hps) (fun _ _ _=>hM.od_lt)
    exact wp_of_value (by simp [execOp,hr]) (hk _ _ _ hp)
  ·have hf:ρ off=none:=by
    unfold xBuildSlice at h
    repeat' (split at h <;> try (cases h;done))
    all_goals (cases h;exact hfr 0 (by simp))
   obtain ⟨y,w',ρ',hr,hp⟩:=run_xBuildSlice (P:=P) (w:=w) (xs:=ps.map fun p=>(p.1,a.eval p.2)) h (by simpa using hps) hf (fun _ _ _=>hM.od_lt)
   exact wp_of_value (by simp [execOp,hr]) (hk _ _ _ hp)
 case load t x =>
  obtain ⟨y,hr,hp⟩:=run_xLoad (P:=P) hM h hn (E x) off
  exact wp_of_value (by simp [execOp,hr]) (hk _ _ _ hp)
 case store t x y =>
  obtain ⟨w',hr,hp⟩:=run_xStoreF (P:=P) hM h hn (E x) (E y) off
  exact wp_of_skip (by simp [execOp,hr]) (hk _ _ _ hp)
 case nilCheck x =>
  have hx:=E x
  unfold xNil at h
  split at h <;> cases h
  ·rename_i i o hv;rw [hv] at hx
   obtain ⟨m,hm,he⟩:=hx
   exact wp_of_value (x:=a.eval x) (by simp [execOp,he]) (hk _ _ _ (OpPost.pure_ ⟨m,hm,he⟩))
  ·rename_i i z k j hv;rw [hv] at hx
   obtain ⟨m,hm,he⟩:=hx
   exact wp_of_value (x:=a.eval x) (by simp [execOp,he]) (hk _ _ _ (OpPost.pure_ ⟨m,hm,he⟩))
  ·rename_i sh d k j hv;rw [hv] at hx
   obtain ⟨b,o,he,hL⟩:=hx
   exact wp_of_value (x:=a.eval x) (by simp [execOp,he]) (hk _ _ _ (OpPost.pure_ ⟨b,o,he,hL⟩))
  ·rename_i sh n d hv;rw [hv] at hx
   obtain ⟨b,o,he,hL⟩:=hx
   exact wp_of_value (x:=a.eval x) (by simp [execOp,he]) (hk _ _ _ (OpPost.pure_ ⟨b,o,he,hL⟩))
  ·rename_i t sh d k j hv;rw [hv] at hx
   have ht:t=true:=hn t (by simp)
   rcases hx with ⟨_,b,o,he,hL⟩ | ⟨hf,_⟩
   ·exact wp_of_value (x:=a.eval x) (by simp [execOp,he]) (hk _ _ _ (OpPost.pure_ ⟨b,o,he,hL⟩))
   ·rw [ht] at hf;cases hf
  ·rename_i t i sh d hv;rw [hv] at hx
   have ht:t=true:=hn t (by simp)
   rcases hx with ⟨_,b,he,hp,hL⟩ | ⟨hf,_⟩
   ·exact wp_of_value (x:=a.eval x) (by simp [execOp,he]) (hk _ _ _ (OpPost.pure_ (.inl ⟨rfl,b,he,hp,hL⟩)))
   ·rw [ht] at hf;cases hf
  ·rename_i i o s m k j hv;rw [hv] at hx
   obtain ⟨mm,hm,he⟩:=hx
   exact wp_of_value (x:=a.eval x) (by simp [execOp,he]) (hk _ _ _ (OpPost.pure_ ⟨mm,hm,he⟩))
  ·rename_i f l hv;rw [hv] at hx
   obtain ⟨xs,he,hd⟩:=hx
   exact wp_of_value (x:=a.eval x) (by simp [execOp,he]) (hk _ _ _ (OpPost.pure_ ⟨xs,he,hd⟩))
 case binOp op t x y ty =>
  split at h
  ·rename_i r0 hr0
   cases h
   obtain ⟨z,hg,hr,hp⟩:=run_xBin (P:=P) (w:=w) hr0 hn hM.seal_ (E x) (E y) x y off
   exact wp_of_value (by simp [execOp,hg,hr]) (hk _ _ _ hp)
  ·obtain ⟨z,hg,hr,hp,rfl⟩:=run_xNilI (P:=P) (w:=w) (ox:=x) h (E x) off
   have ec:a.eval (.const .nilIface)=.nilIface:=rfl
   exact wp_of_value (by simp [execOp,ec,hg,hr]) (hk _ _ _ hp)
 case unOp op t x =>
  obtain ⟨z,hr,hp⟩:=run_xUn (P:=P) (w:=w) h (E x) off
  exact wp_of_value (by simp [execOp,hr]) (hk _ _ _ hp)
 case convert t u x =>
  split at h
  ·rename_i r0 hr0
   cases h
   obtain ⟨z,w',ρ',hr,hp⟩:=run_xConvert (P:=P) (w:=w) hr0 (E x) off (fun _ _ _=>hM.od_lt)
   exact wp_of_value (by simp [execOp,hr]) (hk _ _ _ hp)
  ·obtain ⟨z,hr,hp⟩:=run_xByteS (P:=P) hM h hn (E x) off
   exact wp_of_value (by simp [execOp,hr]) (hk _ _ _ hp)
 case makeInterface t x =>
  obtain ⟨hr,hp⟩:=run_xIface (P:=P) (w:=w) h (E x) off
  exact wp_of_value (by simp [execOp,hr]) (hk _ _ _ hp)
 case typeAssert x s' t ok =>
  obtain ⟨z,hr,hp⟩:=run_xAssert (P:=P) (w:=w) (s:=s') h (E x) off
  exact wp_of_value (by simp [execOp,hr]) (hk _ _ _ hp)
 case makeFunc fn first caps =>
  cases fn <;> simp only at h <;> try (cases h;done)
  rename_i f
  split at h
  ·cases h
   rename_i he
   have hf:first=#[]:=by
    cases first;simp at he;simp [he]
   subst hf
   have hd:=evs_den hT ha caps.toList
   have he:(caps.map a.eval)=⟨caps.toList.map a.eval⟩:=by apply Array.toList_inj.1;simp
   exact wp_of_value (x:=.func (.func f) #[] (caps.map a.eval)) (by simp [execOp,Instr.makeFunc]) (hk _ _ _ (OpPost.pure_ ⟨caps.toList.map a.eval,by rw [he],hd⟩))
  ·split at h <;> cases h
   rename_i he
   have hf:caps=#[]:=by
    cases caps;simp at he;simp [he]
   subst hf
   have hd:=evs_den hT ha first.toList
   have he:(first.map a.eval)=⟨first.toList.map a.eval⟩:=by apply Array.toList_inj.1;simp
   exact wp_of_value (x:=.func (.func f) (first.map a.eval) #[]) (by simp [execOp,Instr.makeFunc]) (hk _ _ _ (OpPost.pure_ ⟨first.toList.map a.eval,by rw [he],hd⟩))
 case makeSlice t l c =>
  have hf:ρ off=none:=by
   unfold xMakeSlice at h
   repeat' (split at h <;> try (cases h;done))
   cases h;exact hfr 0 (by simp)
  obtain ⟨y,w',ρ',hr,hp⟩:=run_xMakeSlice (P:=P) (w:=w) h hn (E l) (E c) hf (fun _ _ _=>hM.od_lt)
  exact wp_of_value (by simp [execOp,hr]) (hk _ _ _ hp)
 case slice t x lo hi mx =>
  cases mx with
  | none =>
   simp only at h
   obtain ⟨z,hr,hp⟩:=run_xSlice (P:=P) (w:=w) h hn (E x) (evo_den hT ha lo) (evo_den hT ha hi) off
   exact wp_of_value (by simp [execOp,hr]) (hk _ _ _ hp)
  | some mx =>
   cases hi with
   | none=>cases h
   | some hi =>
    simp only at h
    have hf:ρ off=none:=by
     have h':=h
     unfold xSlice0 at h'
     repeat' (split at h' <;> try (cases h';done))
     cases h';exact hfr 0 (by simp)
    obtain ⟨z,hr,hp⟩:=run_xSlice0 (P:=P) (w:=w) h (E x) (evo_den hT ha lo) (E hi) (E mx) hf
    exact wp_of_value (by simp [execOp,hr]) (hk _ _ _ hp)
 case fieldAddr t x f =>
  obtain ⟨z,hr,hp⟩:=run_xFieldAddr (P:=P) (w:=w) h (E x) off
  exact wp_of_value (by simp [execOp,hr]) (hk _ _ _ hp)
 case field t x f =>
  obtain ⟨z,hr,hp⟩:=run_xField (P:=P) (w:=w) h (E x) off
  exact wp_of_value (by simp [execOp,hr]) (hk _ _ _ hp)
 case indexAddr t x i =>
  obtain ⟨z,hr,hp⟩:=run_xIndexAddr (P:=P) (w:=w) h hn (E x) (E i) off
  exact wp_of_value (by simp [execOp,hr]) (hk _ _ _ hp)
 case index t x i =>
  split at h
  ·obtain ⟨z,hr,hp⟩:=run_xIndexX (P:=P) (w:=w) h hn (E x) (E i) off
   exact wp_of_value (by simp [execOp,hr]) (hk _ _ _ hp)
  ·obtain ⟨z,hr,hp⟩:=run_xIndex (P:=P) (w:=w) h hn (E x) (E i) off
   exact wp_of_value (by simp [execOp,hr]) (hk _ _ _ hp)
 case extract x i =>
  obtain ⟨z,hr,hp⟩:=run_xExtract (P:=P) (w:=w) h (E x) off
  exact wp_of_value (by simp [execOp,hr]) (hk _ _ _ hp)
 case lookup t m x ok =>
  obtain ⟨z,hr,hp⟩:=run_xLookup (P:=P) hM h (E m) (E x) off
  exact wp_of_value (by simp [execOp,hr]) (hk _ _ _ hp)
 case call c =>
  unfold xCall at h
  split at h <;> try (cases h;done)
  ·rename_i f hc
   split at h <;> try (cases h;done)
   ·rename_i n caps hfn
    split at h <;> try (cases h;done)
    rename_i g hg
    obtain ⟨⟨fn,hfun,hbody,hname⟩,hcall⟩:=hΓ n g hg
    have hf:=E f
    rw [hfn] at hf
    obtain ⟨cs,hfv,hcs⟩:=hf
    have hargs:=denL_append (evs_den hT ha c.args.toList) hcs
    have hC:=hcall B M ρ s.mem off _ r h hn hfit _ w hargs hM hB hfr
    have hrun:(execOp a.eval ⟨dst,.call c,type,pos,after,guard⟩).run P w=.ok (.enter n ⟨c.args.toList.map a.eval ++ cs⟩) w:=by
     have hb:fn.body.isNone=false:=by cases hx:fn.body <;> simp_all
     have harr:c.args.map a.eval ++ (⟨cs⟩:Array Value)=⟨c.args.toList.map a.eval ++ cs⟩:=by
      apply Array.toList_inj.1;simp
     simp only [execOp,resolve,hc,hfv,Deferred.ofValue,Sem.run_bind,Sem.run_pure,Result.andThen_ok,invoke,callFunc,run_program,hfun,hname,Bool.false_eq_true,if_false,hb]
     simp [harr]
    refine ⟨fun _ _=>trivial,?_⟩
    rw [show (FW rd).round=rd from rfl,semAt_any rd _ _ (by intro c e;cases e),hrun]
    refine ⟨fun h=>(by cases h),callsIn_fw (hC.mono ?_)⟩
    rintro e w' ⟨x,ρ',rfl,hp⟩
    exact hk _ _ _ hp
   ·rename_i n fst hfn
    split at h <;> try (cases h;done)
    rename_i g hg
    obtain ⟨⟨fn,hfun,hbody,hname⟩,hcall⟩:=hΓ n g hg
    have hf:=E f
    rw [hfn] at hf
    obtain ⟨cs,hfv,hcs⟩:=hf
    have hargs:=denL_append hcs (evs_den hT ha c.args.toList)
    have hC:=hcall B M ρ s.mem off _ r h hn hfit _ w hargs hM hB hfr
    have hrun:(execOp a.eval ⟨dst,.call c,type,pos,after,guard⟩).run P w=.ok (.enter n ⟨cs ++ c.args.toList.map a.eval⟩) w:=by
     have hb:fn.body.isNone=false:=by cases hx:fn.body <;> simp_all
     have harr:(⟨cs⟩:Array Value) ++ c.args.map a.eval=⟨cs ++ c.args.toList.map a.eval⟩:=by
      apply Array.toList_inj.1;simp
     simp only [execOp,resolve,hc,hfv,Deferred.ofValue,Sem.run_bind,Sem.run_pure,Result.andThen_ok,invoke,callFunc,run_program,hfun,hname,Bool.false_eq_true,if_false,hb]
     simp [harr]
    refine ⟨fun _ _=>trivial,?_⟩
    rw [show (FW rd).round=rd from rfl,semAt_any rd _ _ (by intro c e;cases e),hrun]
    refine ⟨fun h=>(by cases h),callsIn_fw (hC.mono ?_)⟩
    rintro e w' ⟨x,ρ',rfl,hp⟩
    exact hk _ _ _ hp
  ·rename_i hc
   split at h <;> try (cases h;done)
   rename_i t x ht hx
   obtain ⟨y,hr,hp⟩:=run_xLen (P:=P) (w:=w) h (E x) type off
   refine wp_of_value (x:=y) ?_ (hk _ _ _ hp)
   have h1:c.argTypes=#[t]:=by apply Array.toList_inj.1;simpa using ht
   have h2:c.args=#[x]:=by apply Array.toList_inj.1;simpa using hx
   simp [execOp,resolve,hc,invoke,builtin,h1,h2,hr]
  ·rename_i hc
   split at h <;> try (cases h;done)
   rename_i t t' x y ht hx
   have h1:c.argTypes=#[t,t']:=by apply Array.toList_inj.1;simpa using ht
   have h2:c.args=#[x,y]:=by apply Array.toList_inj.1;simpa using hx
   split at h <;> try (cases h;done)
   ·rename_i e' hu'
    split at h
    ·rename_i hex
     have hxe:=E x
     rw [hex] at hxe
     obtain ⟨z,w',ρ',hr,hp⟩:=run_xAppendS (P:=P) (off:=off) hM ⟨_,hu'⟩ h hn hxe (E y) type
     refine wp_of_value (x:=z) ?_ (hk _ _ _ hp)
     simp [execOp,resolve,hc,invoke,builtin,h1,h2,hr]
    ·have hf:ρ off=none:=by
      have h':=h
      unfold xAppend appTo at h'
      repeat' (split at h' <;> try (cases h';done))
      all_goals (cases h';exact hfr 0 (by simp))
     obtain ⟨z,w',ρ',hr,hp⟩:=run_xAppend (P:=P) hM ⟨_,hu'⟩ h hn hf (E x) (E y) type
     refine wp_of_value (x:=z) ?_ (hk _ _ _ hp)
     simp [execOp,resolve,hc,invoke,builtin,h1,h2,hr]
   ·rename_i kn hu'
    have hf:ρ off=none:=by
     have h':=h
     unfold xAppendN at h'
     repeat' (split at h' <;> try (cases h';done))
     all_goals (cases h';exact hfr 0 (by simp))
    obtain ⟨z,w',ρ',hr,hp⟩:=run_xAppendN (P:=P) (w:=w) hu' h hn (E x) (E y) hf (fun _ _ _=>hM.od_lt) type
    refine wp_of_value (x:=z) ?_ (hk _ _ _ hp)
    simp [execOp,resolve,hc,invoke,builtin,h1,h2,hr]
   ·rename_i hu'
    have hf:ρ off=none:=by
     have h':=h
     unfold xAppendB appTo at h'
     repeat' (split at h' <;> try (cases h';done))
     all_goals (cases h';exact hfr 0 (by simp))
    obtain ⟨z,w',ρ',hr,hp⟩:=run_xAppendB (P:=P) hM hu' h hn hf (E x) (E y) type
    refine wp_of_value (x:=z) ?_ (hk _ _ _ hp)
    simp [execOp,resolve,hc,invoke,builtin,h1,h2,hr]
  ·rename_i hc
   split at h <;> try (cases h;done)
   rename_i t x ht hx
   split at h <;> try (cases h;done)
   rename_i e hu' hx0
   cases h
   have h1:c.argTypes=#[t]:=by apply Array.toList_inj.1;simpa using ht
   have h2:c.args=#[x]:=by apply Array.toList_inj.1;simpa using hx
   have hy:=E x
   rw [hx0] at hy
   have hy':a.eval x=.slice none 0 0:=hy
   refine wp_of_value (x:=.int .i64 0) ?_ (hk _ _ _ (OpPost.pure_ rfl))
   simp [execOp,resolve,hc,invoke,builtin,h1,h2,hy',Builtin.cap_,run_underlying hu',goInt]
  ·rename_i hc
   split at h <;> try (cases h;done)
   rename_i t x ht hx
   have h1:c.argTypes=#[t]:=by apply Array.toList_inj.1;simpa using ht
   have h2:c.args=#[x]:=by apply Array.toList_inj.1;simpa using hx
   obtain ⟨y,w',hr,hp⟩:=run_xClear (P:=P) hM h hn (E x) type off
   refine wp_of_value (x:=y) ?_ (hk _ _ _ hp)
   simp [execOp,resolve,hc,invoke,builtin,h1,h2,hr]
  ·rename_i hc
   rw [Option.map_eq_some_iff] at h
   obtain ⟨v,hv,rfl⟩:=h
   have hargs:=evs_den hT ha c.args.toList
   unfold xMax at hv
   split at hv <;> try (cases hv;done)
   rename_i k p l hl
   rw [hl] at hargs
   cases hxs:c.args.toList.map a.eval with
   | nil=>rw [hxs] at hargs;exact hargs.elim
   | cons x xs =>
    rw [hxs] at hargs
    obtain ⟨y,hr,hd⟩:=run_xMax (P:=P) (w:=w) max2_run hv hargs.1 hargs.2
    refine wp_of_value (x:=y) ?_ (hk _ _ _ (OpPost.pure_ hd))
    have h2:(c.args.map a.eval).toList=x :: xs:=by simpa using hxs
    simp [execOp,resolve,hc,invoke,builtin,Builtin.max_,hxs,hr]
  ·rename_i hc
   rw [Option.map_eq_some_iff] at h
   obtain ⟨v,hv,rfl⟩:=h
   have hargs:=evs_den hT ha c.args.toList
   unfold xMax at hv
   split at hv <;> try (cases hv;done)
   rename_i k p l hl
   rw [hl] at hargs
   cases hxs:c.args.toList.map a.eval with
   | nil=>rw [hxs] at hargs;exact hargs.elim
   | cons x xs =>
    rw [hxs] at hargs
    obtain ⟨y,hr,hd⟩:=run_xMax (P:=P) (w:=w) min2_run hv hargs.1 hargs.2
    refine wp_of_value (x:=y) ?_ (hk _ _ _ (OpPost.pure_ hd))
    have h2:(c.args.map a.eval).toList=x :: xs:=by simpa using hxs
    simp [execOp,resolve,hc,invoke,builtin,Builtin.min_,hxs,hr]
end runs
end Go.Sy
