/-
 A symbolic executor for the model's code, part J: regions, in the text's order and in any order. Conditions: none.
-/
import Derived.CallsIn
import Derived.TacticsIn
import Derived.RangeFuncCalls
import Derived.OrdersIn
import Derived.LoopNIn
import Derived.RangeFuncLeaves
import Derived.RangeFuncRecord
import Derived.RangeFuncOwn
import Derived.Test.YtdcdjjogieojhaaGreatDoorJSyLk
namespace Go.Sy
set_option linter.unusedVariables false
set_option linter.unusedSimpArgs false
open Go.RowKit
set_option linter.unusedSectionVars false
variable [Globs]
section runs
variable {P:Program} {rd:Option Nat} {n:Nat}
def xPick (s:SState) (asm:Asm) (c a b:Operand):Option OpRes :=
 match c with
 | .tmp t=>match ev s asm c,ev s ((t,true) :: asm) a,ev s ((t,false) :: asm) b with
  | .bool bc,.bool x,.bool y=>some { v:=.bool (cond bc x y) }
  | _,_,_=>none
 | _=>none
def xNil (v:SV):Option OpRes :=
 match v with
 | .ptr i o=>some { v:=.ptr i o }
 | .elt i s k j=>some { v:=.elt i s k j }
 | .rp sh d k j=>some { v:=.rp sh d k j }
 | .ra sh n d=>some { v:=.ra sh n d }
 | .rq t sh d k j=>some { v:=.rp sh d k j,need:=[t] }
 | .rz t i sh d=>some { v:=.rz true i sh d,need:=[t] }
 | .pix i o s m k j=>some { v:=.pix i o s m k j }
 | .fn f l=>some { v:=.fn f l }
 | _=>none
def xNilI (P:Program) (op:BinOp) (t:TypeId) (v:SV) (y:Operand):Option OpRes :=
 match v,y,P.underlying t with
 | .ni b,.const .nilIface,some (.interface _)=>(match op with
  | .eql=>some { v:=.bool b }
  | .neq=>some { v:=.bool (!b) }
  | _=>none)
 | _,_,_=>none
theorem run_xNilI {ρ:Env} {w:World} {op:BinOp} {t:TypeId} {v:SV} {y ox:Operand} {r:OpRes} (h:xNilI P op t v y=some r) {x:Value} (hv:v.den ρ x) (off:Nat) :
  ∃ z,(eqGuard op t ox y x .nilIface).run P w=.ok () w∧(binOp op t x .nilIface).run P w=.ok z w∧OpPost ρ ρ off r w w z∧y=.const .nilIface:=by
 unfold xNilI at h
 split at h <;> try (cases h;done)
 rename_i b ms hu
 have hg:∀ op,(eqGuard op t ox (.const .nilIface) x .nilIface).run P w=.ok () w:=fun op=>by
  rcases hv with ⟨_,rfl⟩ | ⟨_,u,v,rfl⟩
  ·unfold eqGuard
   cases op <;> simp
  ·exact run_eqGuard_plain _ _ _ _ _ _ _ (by simp) (by simp)
 have he:∀ d,(Op.equalIn (d+1) t x .nilIface).run P w=.ok b w:=fun d=>by
  rcases hv with ⟨rfl,rfl⟩ | ⟨rfl,u,v,rfl⟩ <;> simp only [Op.equalIn,Sem.run_bind,run_underlying hu,Result.andThen_ok,Sem.run_pure]
 have hb:∀ no:Bool,binOp (if no then .neq else .eql) t x .nilIface=(if no then (do pure (.bool (!(← Op.equal t x .nilIface)))) else (do pure (.bool (← Op.equal t x .nilIface))):Sem Value):=fun no=>by
  rcases hv with ⟨_,rfl⟩ | ⟨_,u,v,rfl⟩ <;> cases no <;> rfl
 split at h <;> cases h
 ·exact ⟨_,hg _,run_eqOp false (hb false) (he 9999),OpPost.pure_ rfl,rfl⟩
 ·exact ⟨_,hg _,run_eqOp true (hb true) (he 9999),OpPost.pure_ rfl,rfl⟩
def xIface (P:Program) (t:TypeId) (v:SV):Option OpRes :=
 match P.underlying t with
 | some (.interface _)=>none
 | some _=>some { v:=.ifc t [v] }
 | none=>none
theorem run_xIface {ρ:Env} {w:World} {t:TypeId} {v:SV} {r:OpRes} (h:xIface P t v=some r) {x:Value} (hv:v.den ρ x) (off:Nat) :
  (Instr.makeInterface t x).run P w=.ok (.iface t x) w∧OpPost ρ ρ off r w w (.iface t x):=by
 unfold xIface at h
 split at h <;> cases h
 rename_i u hn hu
 refine ⟨?_,OpPost.pure_ ⟨[x],⟨x,rfl,rfl⟩,hv,trivial⟩⟩
 simp only [Instr.makeInterface,Sem.run_bind,run_underlying hu,Result.andThen_ok]
 cases u <;> first | rfl | exact absurd rfl (hn _)
def xAssert (P:Program) (asserted:TypeId) (ok:Bool) (v:SV):Option OpRes :=
 match v,P.underlying asserted with
 | .ifc _ _,some (.interface _)=>none
 | .ifc t [u],some _=>(match decide (t=asserted),ok with
  | true,true=>some { v:=.tup [u,.bool true] }
  | true,false=>some { v:=u }
  | false,true=>(zeroOf P asserted).map fun z=>{ v:=.tup [.val z,.bool false] }
  | false,false=>none)
 | _,_=>none
theorem run_xAssert {ρ:Env} {w:World} {s t:TypeId} {ok:Bool} {v:SV} {r:OpRes} (h:xAssert P t ok v=some r) {x:Value} (hv:v.den ρ x) (off:Nat) :
  ∃ z,(Instr.typeAssert x s t ok).run P w=.ok z w∧OpPost ρ ρ off r w w z:=by
 unfold xAssert at h
 split at h <;> try (cases h;done)
 rename_i t' u un hn hu
 obtain ⟨xs,⟨y,rfl,rfl⟩,hy,_⟩:=hv
 have hn':∀ ms,un≠.interface ms:=fun ms e=>hn ms (by rw [e])
 have run:(Instr.typeAssert (.iface t' y) s t ok).run P w=(if t'=t then (pure (if ok then .tuple #[y,.bool true] else y):Sem Value) else (if ok then (do let z ← zeroValue t;pure (.tuple #[z,.bool false]):Sem Value) else runtimePanic (.typeAssertion (some s) (some t') t ""))).run P w:=by
  simp only [Instr.typeAssert,Sem.run_bind,run_underlying hu,Result.andThen_ok]
 split at h
 ·cases h
  rename_i e
  have e:t'=t:=by simpa using e
  exact ⟨_,by rw [run,if_pos e];rfl,OpPost.pure_ ⟨[y,.bool true],rfl,hy,rfl,trivial⟩⟩
 ·cases h
  rename_i e
  have e:t'=t:=by simpa using e
  exact ⟨_,by rw [run,if_pos e];rfl,OpPost.pure_ hy⟩
 ·rename_i e
  have e:t'≠t:=by simpa using e
  rw [Option.map_eq_some_iff] at h
  obtain ⟨z,hz,rfl⟩:=h
  refine ⟨.tuple #[z,.bool false],?_,OpPost.pure_ ⟨[z,.bool false],rfl,rfl,rfl,trivial⟩⟩
  rw [run,if_neg e]
  have:=run_zeroOf hz w
  simp only [if_true,Sem.run_bind,this,Result.andThen_ok]
  rfl
 ·cases h
def byteS (a:Int):ByteArray:=⟨#[UInt8.ofNat a.toNat]⟩
def xByteS (P:Program) (mem:Nat→Blk) (src dst:TypeId) (v:SV):Option OpRes :=
 match P.underlying src,P.underlying dst,v with
 | some (.slice e),some .string,.own i 1 1=>(match P.underlying e,mem i with
  | some (.int .u8),.row _ [.int .u8] m d=>some { v:=.str (byteS (d.ii 0 0)),need:=[decide (0<m),decide (0≤d.ii 0 0∧d.ii 0 0≤255)] }
  | _,_=>none)
 | _,_,_=>none
theorem run_xByteS {B:Nat} {M:List Nat} {ρ:Env} {mem:Nat→Blk} {w:World} (hm:MemDen B M ρ mem w) {src dst:TypeId} {v:SV} {r:OpRes} (h:xByteS P mem src dst v=some r) (hn:∀ b∈r.need,b=true) {x:Value} (hv:v.den ρ x) (off:Nat) :
  ∃ y,(convert src dst x).run P w=.ok y w∧OpPost ρ ρ off r w w y:=by
 unfold xByteS at h
 split at h <;> try (cases h;done)
 rename_i e i hs hd
 split at h <;> cases h
 rename_i e' m d he hi
 have h0:0<m:=by simpa using hn (decide (0<m)) (by simp)
 have h1:0≤d.ii 0 0∧d.ii 0 0≤255:=by simpa using hn (decide (0≤d.ii 0 0∧d.ii 0 0≤255)) (by simp)
 obtain ⟨mm,hmm,ho,hcap,rfl⟩:=hv
 obtain ⟨_,hb,_⟩:=hm.get (by rw [hi];rfl) hmm
 rw [hi] at hb
 obtain ⟨y,hy,hdy⟩:=(hb.2.2.2 0 h0).2 0 (.int .u8 (d.ii 0 0)) rfl
 cases hdy
 simp only [ho,Nat.zero_mul,Nat.zero_add,Nat.add_zero] at hy
 have hb:((UInt8.ofNat (d.ii 0 0).toNat).toNat:Int)=d.ii 0 0:=by
  rw [UInt8.toNat_ofNat'];omega
 refine ⟨.string (byteS (d.ii 0 0)),?_,OpPost.pure_ rfl⟩
 exact run_convert_bytes_back (P:=P) w src dst e ⟨mm.blk,0,none⟩ mm.cap [UInt8.ofNat (d.ii 0 0).toNat] hs he hd (by
  intro j hj
  have hj0:j=0:=by simpa using hj
  subst hj0
  rw [Addr.add_mid]
  show w.cell? _=some (Value.int IntKind.u8 ((UInt8.ofNat (d.ii 0 0).toNat).toNat:Int))
  rw [hb]
  exact hy)
def xCall (P:Program) (Γ:Gam) (s:SState) (off:Nat) (asm:Asm) (c:Call):Option OpRes :=
 match c.callee with
 | .value f=>match ev s asm f with
  | .fn n caps=>match Γ.c n with
   | some g=>g off s.mem (c.args.toList.map (ev s asm) ++ caps)
   | none=>none
  | .fb n fst=>match Γ.c n with
   | some g=>g off s.mem (fst ++ c.args.toList.map (ev s asm))
   | none=>none
  | _=>none
 | .builtin .len=>match c.argTypes.toList,c.args.toList with
  | [t],[x]=>xLen P t (ev s asm x)
  | _,_=>none
 | .builtin .append=>match c.argTypes.toList,c.args.toList with
  | [t,t'],[x,y]=>match P.underlying t' with
   | some (.slice _)=>match ev s asm x with
    | .emp=>xAppendS P s.mem t (ev s asm y)
    | v=>xAppend P s.mem off t v (ev s asm y)
   | some (.int _)=>xAppendN P off t (ev s asm x) (ev s asm y)
   | some .string=>xAppendB P s.mem off t (ev s asm x) (ev s asm y)
   | _=>none
  | _,_=>none
 | .builtin .cap=>match c.argTypes.toList,c.args.toList with
  | [t],[x]=>match P.underlying t,ev s asm x with
   | some (.slice _),.nsl=>some { v:=.int .i64 0 }
   | _,_=>none
  | _,_=>none
 | .builtin .clear=>match c.argTypes.toList,c.args.toList with
  | [t],[x]=>xClear P s.mem t (ev s asm x)
  | _,_=>none
 | .builtin .max=>(xMax imax (c.args.toList.map (ev s asm))).map fun v=>{ v:=v }
 | .builtin .min=>(xMax imin (c.args.toList.map (ev s asm))).map fun v=>{ v:=v }
 | _=>none
def xStoreF (P:Program) (mem:Nat→Blk) (t:TypeId) (p v:SV):Option OpRes:=match p,v with
 | .elt i _ _ c,.nsl=>(match mem i with
  | .row _ sh _ _=>(match sh[c]? with
   | some kd=>xStore P mem t p (kd.fit .nsl)
   | none=>none)
  | _=>xStore P mem t p v)
 | _,_=>xStore P mem t p v
theorem run_xStoreF {B:Nat} {M:List Nat} {ρ:Env} {mem:Nat→Blk} {w:World} (hm:MemDen B M ρ mem w) {t:TypeId} {p v:SV} {r:OpRes} (h:xStoreF P mem t p v=some r) (hn:∀ b∈r.need,b=true) {x y:Value} (hp:p.den ρ x) (hv:v.den ρ y) (off:Nat) :
  ∃ w',(Instr.storeAt t x y).run P w=.ok () w'∧OpPost ρ ρ off r w w' undef:=by
 unfold xStoreF at h
 split at h
 ·split at h
  ·split at h <;> try (cases h;done)
   exact run_xStore hm h hn hp (fit_den _ hv) off
  ·exact run_xStore hm h hn hp hv off
 ·exact run_xStore hm h hn hp hv off
def xOp (P:Program) (Γ:Gam) (s:SState) (off:Nat) (asm:Asm) (o:Oper):Option OpRes :=
 match o.op with
 | .move x=>some { v:=ev s asm x }
 | .assign x=>some { v:=ev s asm x }
 | .pick c a b=>xPick s asm c a b
 | .alloc t=>xAlloc P off t
 | .box t x=>xBox off t (ev s asm x)
 | .build t ps=>xBuild P t (ps.toList.map fun p=>(p.1,ev s asm p.2))
 | .buildSlice t n ps=>match Γ.c 3 with
  | some _=>match n with
   | 0=>xBuildEmp P t (ps.toList.map fun p=>(p.1,ev s asm p.2))
   | n+1=>xBuildRo P t (n+1) (ps.toList.map fun p=>(p.1,ev s asm p.2))
  | none=>xBuildSlice P off t n (ps.toList.map fun p=>(p.1,ev s asm p.2))
 | .load t x=>xLoad P s.mem t (ev s asm x)
 | .store t x y=>xStoreF P s.mem t (ev s asm x) (ev s asm y)
 | .nilCheck x=>xNil (ev s asm x)
 | .binOp op t x y _=>(match xBin P op t (ev s asm x) (ev s asm y) with
  | some r=>some r
  | none=>xNilI P op t (ev s asm x) y)
 | .unOp op _ x=>xUn op (ev s asm x)
 | .convert t u x=>(match xConvert P t u (ev s asm x) with
  | some r=>some r
  | none=>xByteS P s.mem t u (ev s asm x))
 | .makeFunc (.func f) first caps=>if first.toList.isEmpty then some { v:=.fn f (caps.toList.map (ev s asm)) } else if caps.toList.isEmpty then some { v:=.fb f (first.toList.map (ev s asm)) } else none
 | .makeSlice t l c=>xMakeSlice P off t (ev s asm l) (ev s asm c)
 | .slice t x lo hi mx=>match mx with
  | none=>xSlice P t (ev s asm x) (lo.map (ev s asm)) (hi.map (ev s asm))
  | some mx=>match hi with
   | some hi=>xSlice0 P off t (ev s asm x) (lo.map (ev s asm)) (ev s asm hi) (ev s asm mx)
   | none=>none
 | .fieldAddr t x f=>xFieldAddr P t (ev s asm x) f
 | .field t x f=>xField P t (ev s asm x) f
 | .indexAddr t x i=>xIndexAddr P Γ.pix t (ev s asm x) (ev s asm i)
 | .index t x i=>(match Γ.pix with
  | true=>xIndexX P t (ev s asm x) (ev s asm i)
  | false=>xIndex P t (ev s asm x) (ev s asm i))
 | .extract x i=>xExtract (ev s asm x) i
 | .call c=>xCall P Γ s off asm c
 | .lookup t m x ok=>xLookup P t ok (ev s asm m) (ev s asm x)
 | .makeInterface t x=>xIface P t (ev s asm x)
 | .typeAssert x _ t ok=>xAssert P t ok (ev s asm x)
 | _=>none
abbrev FW (rd:Option Nat):Fence:={ Fence.wide with round:=rd }
theorem semAt_any (rd:Option Nat) (ρ:Operand→Value) (o:Oper) (h:∀ c,o.op≠.defer c):Oper.semAt rd ρ o=execOp ρ o:=by
 cases rd with
 | none=>rfl
 | some l=>exact Oper.semAt_some l ρ o h
theorem callsIn_fw {P:Program} {rd:Option Nat} {n:Nat} {f:FuncId} {args:Array Value} {w:World} {R:Ending→World→Prop} (h:Calls P f args w R):CallsIn (FW rd) n P f args w R:=by
 cases rd with
 | none=>exact callsIn_wide.2 h
 | some l=>exact CallsIn.inRound l (callsIn_wide.2 h)
theorem wp_of_value {o:Oper} {a:Act} {w w':World} {x:Value} {K:Act→World→Prop} {Q:Exit→Act→World→Prop} (h:(execOp a.eval o).run P w=.ok (.value x) w') (hk:K (a.put o.dst x) w') (hd:∀ c,o.op≠.defer c:=by intro c e;cases e):o.wpIn (FW rd) n P a w K Q:=by
 refine ⟨fun _ _=>trivial,?_⟩
 rw [show (FW rd).round=rd from rfl,semAt_any rd _ o hd,h];exact hk
theorem wp_of_skip {o:Oper} {a:Act} {w w':World} {K:Act→World→Prop} {Q:Exit→Act→World→Prop} (h:(execOp a.eval o).run P w=.ok .skip w') (hk:K (a.put o.dst undef) w') (hd:∀ c,o.op≠.defer c:=by intro c e;cases e):o.wpIn (FW rd) n P a w K Q:=by
 refine ⟨fun _ _=>trivial,?_⟩
 rw [show (FW rd).round=rd from rfl,semAt_any rd _ o hd,h];exact hk
section
variable {ρ:Env} {s:SState} {a:Act} {asm:Asm}
theorem evs_den (hT:TmDen ρ s a) (ha:AsmOk asm a):∀ l:List Operand,SV.denL ρ (l.map (ev s asm)) (l.map a.eval)
 | []=>trivial
 | x :: l=>⟨ev_den hT ha x,evs_den hT ha l⟩
theorem evps_den (hT:TmDen ρ s a) (ha:AsmOk asm a):∀ l:List (Nat × Operand),vpairs ρ (l.map fun p=>(p.1,ev s asm p.2)) (l.map fun p=>(p.1,a.eval p.2))
 | []=>trivial
 | x :: l=>⟨rfl,ev_den hT ha x.2,evps_den hT ha l⟩
theorem evo_den (hT:TmDen ρ s a) (ha:AsmOk asm a):∀ x:Option Operand,odenO ρ (x.map (ev s asm)) (x.map a.eval)
 | none=>trivial
 | some x=>ev_den hT ha x
end
theorem xOp_wp {Γ:Gam} (hΓ:GamOk P Γ) {B:Nat} {M:List Nat} {ρ:Env} {s:SState} {a:Act} {w:World} {asm:Asm} {off:Nat} {o:Oper} {r:OpRes} (h:xOp P Γ s off asm o=some r) (hn:r.need_ok) (hfit:r.fits s.mem off)
  (hT:TmDen ρ s a) (hM:MemDen B M ρ s.mem w) (hB:B≤w.heap.size) (ha:AsmOk asm a) (hfr:∀ j,j<r.news.length→ρ (off+j)=none) {K:Act→World→Prop} {Q:Exit→Act→World→Prop}
  (hk:∀ x w' ρ',OpPost ρ ρ' off r w w' x→K (a.put o.dst x) w'):o.wpIn (FW rd) n P a w K Q:=by
 have E:=fun x=>ev_den hT ha x
 obtain ⟨dst,op,type,pos,after,guard⟩:=o
 cases op <;> simp only [xOp] at h <;> try (cases h;done)
 case move x=>cases h;exact wp_of_value (x:=a.eval x) (by simp [execOp]) (hk _ _ _ (OpPost.pure_ (E x)))
 case assign x=>cases h;exact wp_of_value (x:=a.eval x) (by simp [execOp]) (hk _ _ _ (OpPost.pure_ (E x)))
 case pick c x y =>
  unfold xPick at h
  split at h <;> try (cases h;done)
  rename_i t
  split at h <;> cases h
  rename_i bc p q hc hp hq
  have hcx:=E (.tmp t)
  rw [hc] at hcx
  have hcv:a.eval (.tmp t)=.bool bc:=hcx
  have ht:a.tmps[t]? = some (.bool bc):=by
   simp only [Act.eval,Array.getD_eq_getD_getElem?] at hcv
   cases hg:a.tmps[t]? with
   | none=>rw [hg] at hcv;simp [undef] at hcv
   | some z=>rw [hg] at hcv;simp at hcv;rw [hcv]
  cases bc
  ·have hy:=ev_den hT (AsmOk.cons ha ht) y
   rw [hq] at hy
   have hy':a.eval y=.bool q:=hy
   exact wp_of_value (x:=.bool q) (by simp [execOp,hcv,asBool,hy']) (hk _ _ _ (OpPost.pure_ rfl))
  ·have hx:=ev_den hT (AsmOk.cons ha ht) x
   rw [hp] at hx
   have hx':a.eval x=.bool p:=hx
   exact wp_of_value (x:=.bool p) (by simp [execOp,hcv,asBool,hx']) (hk _ _ _ (OpPost.pure_ rfl))
 case alloc t =>
  have hf:ρ off=none:=by
   unfold xAlloc at h;split at h <;> cases h;exact hfr 0 (by simp)
  obtain ⟨y,w',ρ',hr,hp⟩:=run_xAlloc (P:=P) (w:=w) h hf (fun _ _ _=>hM.od_lt)
  exact wp_of_value (by simp [execOp,hr]) (hk _ _ _ hp)
 case box t x =>
  have hf:ρ off=none:=by
   unfold xBox at h;split at h <;> cases h;exact hfr 0 (by simp)
  obtain ⟨y,w',ρ',hr,hp⟩:=run_xBox (P:=P) (w:=w) h (E x) hf (fun _ _ _=>hM.od_lt)
  exact wp_of_value (by simp [execOp,hr]) (hk _ _ _ hp)
 case build t ps =>
  have hps:=evps_den hT ha ps.toList
  obtain ⟨y,hr,hp⟩:=run_xBuild (P:=P) (w:=w) (xs:=ps.map fun p=>(p.1,a.eval p.2)) h (by simpa using hps) off
  exact wp_of_value (by simp [execOp,hr]) (hk _ _ _ hp)
 case buildSlice t n ps =>
  have hps:=evps_den hT ha ps.toList
  split at h
  ·split at h
   ·obtain ⟨y,w',hr,hp⟩:=run_xBuildEmp (P:=P) (w:=w) (off:=off) (xs:=ps.map fun p=>(p.1,a.eval p.2)) h (by simpa using hps)
    exact wp_of_value (by simp [execOp,hr]) (hk _ _ _ hp)
   ·obtain ⟨y,w',ρ',hr,hp⟩:=run_xBuildRo (P:=P) (w:=w) (off:=off) (xs:=ps.map fun p=>(p.1,a.eval p.2)) h (by simpa using hps) (fun _ _ _=>hM.od_lt)
    exact wp_of_value (by simp [execOp,hr]) (hk _ _ _ hp)
  ·have hf:ρ off=none:=by
    unfold xBuildSlice at h
    repeat' (split at h <;> try (cases h;done))
    all_goals (cases h;exact hfr 0 (by simp))
   obtain ⟨y,w',ρ',hr,hp⟩:=run_xBuildSlice (P:=P) (w:=w) (xs:=ps.map fun p=>(p.1,a.eval p.2)) h (by simpa using hps) hf (fun _ _ _=>hM.od_lt)
   exact wp_of_value (by simp [execOp,hr]) (hk _ _ _ hp)
 case load t x =>
  obtain ⟨y,hr,hp⟩:=run_xLoad (P:=P) hM h hn (E x) off
  exact wp_of_value (by simp [execOp,hr]) (hk _ _ _ hp)
 case store t x y =>
  obtain ⟨w',hr,hp⟩:=run_xStoreF (P:=P) hM h hn (E x) (E y) off
  exact wp_of_skip (by simp [execOp,hr]) (hk _ _ _ hp)
 case nilCheck x =>
  have hx:=E x
  unfold xNil at h
  split at h <;> cases h
  ·rename_i i o hv;rw [hv] at hx
   obtain ⟨m,hm,he⟩:=hx
   exact wp_of_value (x:=a.eval x) (by simp [execOp,he]) (hk _ _ _ (OpPost.pure_ ⟨m,hm,he⟩))
  ·rename_i i z k j hv;rw [hv] at hx
   obtain ⟨m,hm,he⟩:=hx
   exact wp_of_value (x:=a.eval x) (by simp [execOp,he]) (hk _ _ _ (OpPost.pure_ ⟨m,hm,he⟩))
  ·rename_i sh d k j hv;rw [hv] at hx
   obtain ⟨b,o,he,hL⟩:=hx
   exact wp_of_value (x:=a.eval x) (by simp [execOp,he]) (hk _ _ _ (OpPost.pure_ ⟨b,o,he,hL⟩))
  ·rename_i sh n d hv;rw [hv] at hx
   obtain ⟨b,o,he,hL⟩:=hx
   exact wp_of_value (x:=a.eval x) (by simp [execOp,he]) (hk _ _ _ (OpPost.pure_ ⟨b,o,he,hL⟩))
  ·rename_i t sh d k j hv;rw [hv] at hx
   have ht:t=true:=hn t (by simp)
   rcases hx with ⟨_,b,o,he,hL⟩ | ⟨hf,_⟩
   ·exact wp_of_value (x:=a.eval x) (by simp [execOp,he]) (hk _ _ _ (OpPost.pure_ ⟨b,o,he,hL⟩))
   ·rw [ht] at hf;cases hf
  ·rename_i t i sh d hv;rw [hv] at hx
   have ht:t=true:=hn t (by simp)
   rcases hx with ⟨_,b,he,hp,hL⟩ | ⟨hf,_⟩
   ·exact wp_of_value (x:=a.eval x) (by simp [execOp,he]) (hk _ _ _ (OpPost.pure_ (.inl ⟨rfl,b,he,hp,hL⟩)))
   ·rw [ht] at hf;cases hf
  ·rename_i i o s m k j hv;rw [hv] at hx
   obtain ⟨mm,hm,he⟩:=hx
   exact wp_of_value (x:=a.eval x) (by simp [execOp,he]) (hk _ _ _ (OpPost.pure_ ⟨mm,hm,he⟩))
  ·rename_i f l hv;rw [hv] at hx
   obtain ⟨xs,he,hd⟩:=hx
   exact wp_of_value (x:=a.eval x) (by simp [execOp,he]) (hk _ _ _ (OpPost.pure_ ⟨xs,he,hd⟩))
 case binOp op t x y ty =>
  split at h
  ·rename_i r0 hr0
   cases h
   obtain ⟨z,hg,hr,hp⟩:=run_xBin (P:=P) (w:=w) hr0 hn hM.seal_ (E x) (E y) x y off
   exact wp_of_value (by simp [execOp,hg,hr]) (hk _ _ _ hp)
  ·obtain ⟨z,hg,hr,hp,rfl⟩:=run_xNilI (P:=P) (w:=w) (ox:=x) h (E x) off
   have ec:a.eval (.const .nilIface)=.nilIface:=rfl
   exact wp_of_value (by simp [execOp,ec,hg,hr]) (hk _ _ _ hp)
 case unOp op t x =>
  obtain ⟨z,hr,hp⟩:=run_xUn (P:=P) (w:=w) h (E x) off
  exact wp_of_value (by simp [execOp,hr]) (hk _ _ _ hp)
 case convert t u x =>
  split at h
  ·rename_i r0 hr0
   cases h
   obtain ⟨z,w',ρ',hr,hp⟩:=run_xConvert (P:=P) (w:=w) hr0 (E x) off (fun _ _ _=>hM.od_lt)
   exact wp_of_value (by simp [execOp,hr]) (hk _ _ _ hp)
  ·obtain ⟨z,hr,hp⟩:=run_xByteS (P:=P) hM h hn (E x) off
   exact wp_of_value (by simp [execOp,hr]) (hk _ _ _ hp)
 case makeInterface t x =>
  obtain ⟨hr,hp⟩:=run_xIface (P:=P) (w:=w) h (E x) off
  exact wp_of_value (by simp [execOp,hr]) (hk _ _ _ hp)
 case typeAssert x s' t ok =>
  obtain ⟨z,hr,hp⟩:=run_xAssert (P:=P) (w:=w) (s:=s') h (E x) off
  exact wp_of_value (by simp [execOp,hr]) (hk _ _ _ hp)
 case makeFunc fn first caps =>
  cases fn <;> simp only at h <;> try (cases h;done)
  rename_i f
  split at h
  ·cases h
   rename_i he
   have hf:first=#[]:=by
    cases first;simp at he;simp [he]
   subst hf
   have hd:=evs_den hT ha caps.toList
   have he:(caps.map a.eval)=⟨caps.toList.map a.eval⟩:=by apply Array.toList_inj.1;simp
   exact wp_of_value (x:=.func (.func f) #[] (caps.map a.eval)) (by simp [execOp,Instr.makeFunc]) (hk _ _ _ (OpPost.pure_ ⟨caps.toList.map a.eval,by rw [he],hd⟩))
  ·split at h <;> cases h
   rename_i he
   have hf:caps=#[]:=by
    cases caps;simp at he;simp [he]
   subst hf
   have hd:=evs_den hT ha first.toList
   have he:(first.map a.eval)=⟨first.toList.map a.eval⟩:=by apply Array.toList_inj.1;simp
   exact wp_of_value (x:=.func (.func f) (first.map a.eval) #[]) (by simp [execOp,Instr.makeFunc]) (hk _ _ _ (OpPost.pure_ ⟨first.toList.map a.eval,by rw [he],hd⟩))
 case makeSlice t l c =>
  have hf:ρ off=none:=by
   unfold xMakeSlice at h
   repeat' (split at h <;> try (cases h;done))
   cases h;exact hfr 0 (by simp)
  obtain ⟨y,w',ρ',hr,hp⟩:=run_xMakeSlice (P:=P) (w:=w) h hn (E l) (E c) hf (fun _ _ _=>hM.od_lt)
  exact wp_of_value (by simp [execOp,hr]) (hk _ _ _ hp)
 case slice t x lo hi mx =>
  cases mx with
  | none =>
   simp only at h
   obtain ⟨z,hr,hp⟩:=run_xSlice (P:=P) (w:=w) h hn (E x) (evo_den hT ha lo) (evo_den hT ha hi) off
   exact wp_of_value (by simp [execOp,hr]) (hk _ _ _ hp)
  | some mx =>
   cases hi with
   | none=>cases h
   | some hi =>
    simp only at h
    have hf:ρ off=none:=by
     have h':=h
     unfold xSlice0 at h'
     repeat' (split at h' <;> try (cases h';done))
     cases h';exact hfr 0 (by simp)
    obtain ⟨z,hr,hp⟩:=run_xSlice0 (P:=P) (w:=w) h (E x) (evo_den hT ha lo) (E hi) (E mx) hf
    exact wp_of_value (by simp [execOp,hr]) (hk _ _ _ hp)
 case fieldAddr t x f =>
  obtain ⟨z,hr,hp⟩:=run_xFieldAddr (P:=P) (w:=w) h (E x) off
  exact wp_of_value (by simp [execOp,hr]) (hk _ _ _ hp)
 case field t x f =>
  obtain ⟨z,hr,hp⟩:=run_xField (P:=P) (w:=w) h (E x) off
  exact wp_of_value (by simp [execOp,hr]) (hk _ _ _ hp)
 case indexAddr t x i =>
  obtain ⟨z,hr,hp⟩:=run_xIndexAddr (P:=P) (w:=w) h hn (E x) (E i) off
  exact wp_of_value (by simp [execOp,hr]) (hk _ _ _ hp)
 case index t x i =>
  split at h
  ·obtain ⟨z,hr,hp⟩:=run_xIndexX (P:=P) (w:=w) h hn (E x) (E i) off
   exact wp_of_value (by simp [execOp,hr]) (hk _ _ _ hp)
  ·obtain ⟨z,hr,hp⟩:=run_xIndex (P:=P) (w:=w) h hn (E x) (E i) off
   exact wp_of_value (by simp [execOp,hr]) (hk _ _ _ hp)
 case extract x i =>
  obtain ⟨z,hr,hp⟩:=run_xExtract (P:=P) (w:=w) h (E x) off
  exact wp_of_value (by simp [execOp,hr]) (hk _ _ _ hp)
 case lookup t m x ok =>
  obtain ⟨z,hr,hp⟩:=run_xLookup (P:=P) hM h (E m) (E x) off
  exact wp_of_value (by simp [execOp,hr]) (hk _ _ _ hp)
 case call c =>
  unfold xCall at h
  split at h <;> try (cases h;done)
  ·rename_i f hc
   split at h <;> try (cases h;done)
   ·rename_i n caps hfn
    split at h <;> try (cases h;done)
    rename_i g hg
    obtain ⟨⟨fn,hfun,hbody,hname⟩,hcall⟩:=hΓ n g hg
    have hf:=E f
    rw [hfn] at hf
    obtain ⟨cs,hfv,hcs⟩:=hf
    have hargs:=denL_append (evs_den hT ha c.args.toList) hcs
    have hC:=hcall B M ρ s.mem off _ r h hn hfit _ w hargs hM hB hfr
    have hrun:(execOp a.eval ⟨dst,.call c,type,pos,after,guard⟩).run P w=.ok (.enter n ⟨c.args.toList.map a.eval ++ cs⟩) w:=by
     have hb:fn.body.isNone=false:=by cases hx:fn.body <;> simp_all
     have harr:c.args.map a.eval ++ (⟨cs⟩:Array Value)=⟨c.args.toList.map a.eval ++ cs⟩:=by
      apply Array.toList_inj.1;simp
     simp only [execOp,resolve,hc,hfv,Deferred.ofValue,Sem.run_bind,Sem.run_pure,Result.andThen_ok,invoke,callFunc,run_program,hfun,hname,Bool.false_eq_true,if_false,hb]
     simp [harr]
    refine ⟨fun _ _=>trivial,?_⟩
    rw [show (FW rd).round=rd from rfl,semAt_any rd _ _ (by intro c e;cases e),hrun]
    refine ⟨fun h=>(by cases h),callsIn_fw (hC.mono ?_)⟩
    rintro e w' ⟨x,ρ',rfl,hp⟩
    exact hk _ _ _ hp
   ·rename_i n fst hfn
    split at h <;> try (cases h;done)
    rename_i g hg
    obtain ⟨⟨fn,hfun,hbody,hname⟩,hcall⟩:=hΓ n g hg
    have hf:=E f
    rw [hfn] at hf
    obtain ⟨cs,hfv,hcs⟩:=hf
    have hargs:=denL_append hcs (evs_den hT ha c.args.toList)
    have hC:=hcall B M ρ s.mem off _ r h hn hfit _ w hargs hM hB hfr
    have hrun:(execOp a.eval ⟨dst,.call c,type,pos,after,guard⟩).run P w=.ok (.enter n ⟨cs ++ c.args.toList.map a.eval⟩) w:=by
     have hb:fn.body.isNone=false:=by cases hx:fn.body <;> simp_all
     have harr:(⟨cs⟩:Array Value) ++ c.args.map a.eval=⟨cs ++ c.args.toList.map a.eval⟩:=by
      apply Array.toList_inj.1;simp
     simp only [execOp,resolve,hc,hfv,Deferred.ofValue,Sem.run_bind,Sem.run_pure,Result.andThen_ok,invoke,callFunc,run_program,hfun,hname,Bool.false_eq_true,if_false,hb]
     simp [harr]
    refine ⟨fun _ _=>trivial,?_⟩
    rw [show (FW rd).round=rd from rfl,semAt_any rd _ _ (by intro c e;cases e),hrun]
    refine ⟨fun h=>(by cases h),callsIn_fw (hC.mono ?_)⟩
    rintro e w' ⟨x,ρ',rfl,hp⟩
    exact hk _ _ _ hp
  ·rename_i hc
   split at h <;> try (cases h;done)
   rename_i t x ht hx
   obtain ⟨y,hr,hp⟩:=run_xLen (P:=P) (w:=w) h (E x) type off
   refine wp_of_value (x:=y) ?_ (hk _ _ _ hp)
   have h1:c.argTypes=#[t]:=by apply Array.toList_inj.1;simpa using ht
   have h2:c.args=#[x]:=by apply Array.toList_inj.1;simpa using hx
   simp [execOp,resolve,hc,invoke,builtin,h1,h2,hr]
  ·rename_i hc
   split at h <;> try (cases h;done)
   rename_i t t' x y ht hx
   have h1:c.argTypes=#[t,t']:=by apply Array.toList_inj.1;simpa using ht
   have h2:c.args=#[x,y]:=by apply Array.toList_inj.1;simpa using hx
   split at h <;> try (cases h;done)
   ·rename_i e' hu'
    split at h
    ·rename_i hex
     have hxe:=E x
     rw [hex] at hxe
     obtain ⟨z,w',ρ',hr,hp⟩:=run_xAppendS (P:=P) (off:=off) hM ⟨_,hu'⟩ h hn hxe (E y) type
     refine wp_of_value (x:=z) ?_ (hk _ _ _ hp)
     simp [execOp,resolve,hc,invoke,builtin,h1,h2,hr]
    ·have hf:ρ off=none:=by
      have h':=h
      unfold xAppend appTo at h'
      repeat' (split at h' <;> try (cases h';done))
      all_goals (cases h';exact hfr 0 (by simp))
     obtain ⟨z,w',ρ',hr,hp⟩:=run_xAppend (P:=P) hM ⟨_,hu'⟩ h hn hf (E x) (E y) type
     refine wp_of_value (x:=z) ?_ (hk _ _ _ hp)
     simp [execOp,resolve,hc,invoke,builtin,h1,h2,hr]
   ·rename_i kn hu'
    have hf:ρ off=none:=by
     have h':=h
     unfold xAppendN at h'
     repeat' (split at h' <;> try (cases h';done))
     all_goals (cases h';exact hfr 0 (by simp))
    obtain ⟨z,w',ρ',hr,hp⟩:=run_xAppendN (P:=P) (w:=w) hu' h hn (E x) (E y) hf (fun _ _ _=>hM.od_lt) type
    refine wp_of_value (x:=z) ?_ (hk _ _ _ hp)
    simp [execOp,resolve,hc,invoke,builtin,h1,h2,hr]
   ·rename_i hu'
    have hf:ρ off=none:=by
     have h':=h
     unfold xAppendB appTo at h'
     repeat' (split at h' <;> try (cases h';done))
     all_goals (cases h';exact hfr 0 (by simp))
    obtain ⟨z,w',ρ',hr,hp⟩:=run_xAppendB (P:=P) hM hu' h hn hf (E x) (E y) type
    refine wp_of_value (x:=z) ?_ (hk _ _ _ hp)
    simp [execOp,resolve,hc,invoke,builtin,h1,h2,hr]
  ·rename_i hc
   split at h <;> try (cases h;done)
   rename_i t x ht hx
   split at h <;> try (cases h;done)
   rename_i e hu' hx0
   cases h
   have h1:c.argTypes=#[t]:=by apply Array.toList_inj.1;simpa using ht
   have h2:c.args=#[x]:=by apply Array.toList_inj.1;simpa using hx
   have hy:=E x
   rw [hx0] at hy
   have hy':a.eval x=.slice none 0 0:=hy
   refine wp_of_value (x:=.int .i64 0) ?_ (hk _ _ _ (OpPost.pure_ rfl))
   simp [execOp,resolve,hc,invoke,builtin,h1,h2,hy',Builtin.cap_,run_underlying hu',goInt]
  ·rename_i hc
   split at h <;> try (cases h;done)
   rename_i t x ht hx
   have h1:c.argTypes=#[t]:=by apply Array.toList_inj.1;simpa using ht
   have h2:c.args=#[x]:=by apply Array.toList_inj.1;simpa using hx
   obtain ⟨y,w',hr,hp⟩:=run_xClear (P:=P) hM h hn (E x) type off
   refine wp_of_value (x:=y) ?_ (hk _ _ _ hp)
   simp [execOp,resolve,hc,invoke,builtin,h1,h2,hr]
  ·rename_i hc
   rw [Option.map_eq_some_iff] at h
   obtain ⟨v,hv,rfl⟩:=h
   have hargs:=evs_den hT ha c.args.toList
   unfold xMax at hv
   split at hv <;> try (cases hv;done)
   rename_i k p l hl
   rw [hl] at hargs
   cases hxs:c.args.toList.map a.eval with
   | nil=>rw [hxs] at hargs;exact hargs.elim
   | cons x xs =>
    rw [hxs] at hargs
    obtain ⟨y,hr,hd⟩:=run_xMax (P:=P) (w:=w) max2_run hv hargs.1 hargs.2
    refine wp_of_value (x:=y) ?_ (hk _ _ _ (OpPost.pure_ hd))
    have h2:(c.args.map a.eval).toList=x :: xs:=by simpa using hxs
    simp [execOp,resolve,hc,invoke,builtin,Builtin.max_,hxs,hr]
  ·rename_i hc
   rw [Option.map_eq_some_iff] at h
   obtain ⟨v,hv,rfl⟩:=h
   have hargs:=evs_den hT ha c.args.toList
   unfold xMax at hv
   split at hv <;> try (cases hv;done)
   rename_i k p l hl
   rw [hl] at hargs
   cases hxs:c.args.toList.map a.eval with
   | nil=>rw [hxs] at hargs;exact hargs.elim
   | cons x xs =>
    rw [hxs] at hargs
    obtain ⟨y,hr,hd⟩:=run_xMax (P:=P) (w:=w) min2_run hv hargs.1 hargs.2
    refine wp_of_value (x:=y) ?_ (hk _ _ _ (OpPost.pure_ hd))
    have h2:(c.args.map a.eval).toList=x :: xs:=by simpa using hxs
    simp [execOp,resolve,hc,invoke,builtin,Builtin.min_,hxs,hr]
end runs
end Go.Sy
namespace Go.Sy
set_option linter.unusedVariables false
set_option linter.unusedSimpArgs false
open Go.RowKit
set_option linter.unusedSectionVars false
variable [Globs]
section runs
variable {P:Program} {rd:Option Nat} {n:Nat}
def cnd (b:Bool) (t e:Prop):Prop:=match b with | true=>t | false=>e
theorem cnd_iff {b:Bool} {t e:Prop}:cnd b t e↔(b=true→t)∧(b=false→e):=by cases b <;> simp [cnd]
def needs:List Bool→Prop→Prop
 | [],p=>p
 | b :: l,p=>cnd b (needs l p) False
theorem needs_iff:∀ {l:List Bool} {p:Prop},needs l p↔(∀ b∈l,b=true)∧p
 | [],p=>by simp [needs]
 | b :: l,p=>by cases b <;> simp [needs,cnd,needs_iff (l:=l)]
def SV.top:SV→SV
 | .gd _ _ _=>.any
 | v=>v
def SV.forget (d:Nat):SV→SV
 | .gd t pol v=>if t=d then .any else .gd t pol v
 | v=>v
def SState.put (s:SState) (dst:Option Nat) (v:SV):SState :=
 match dst with
 | none=>s
 | some d=>{ s with tm:=fun i=>if i=d then v else (s.tm i).forget d }
theorem slotDen_top {ρ:Env} {a:Act} {v:SV} {x:Value} (h:v.den ρ x):slotDen ρ a v.top x:=by
 cases v <;> first | exact h | trivial
theorem slotDen_mono {ρ ρ':Env} (he:Ext ρ ρ') {a:Act} {v:SV} {x:Value} (h:slotDen ρ a v x):slotDen ρ' a v x:=by
 cases v <;> try exact SV.den_mono he _ _ h
 rename_i t pol u
 exact h.imp (fun ⟨h1,h2⟩=>⟨h1,SV.den_mono he _ _ h2⟩) id
theorem put_get (a:Act) (dst:Option Nat) (x:Value) (i:Nat) (h:∀ d,dst=some d→d≠i):(a.put dst x).tmps[i]? = a.tmps[i]?:=by
 cases dst with
 | none=>rfl
 | some d =>
  have:=h d rfl
  simp [Act.put,Array.getElem?_setIfInBounds_ne this]
theorem put_size (a:Act) (dst:Option Nat) (x:Value):(a.put dst x).tmps.size=a.tmps.size:=by
 cases dst <;> simp [Act.put]
theorem put_defs (a:Act) (dst:Option Nat) (x:Value):(a.put dst x).defers=a.defers:=by
 cases dst <;> simp [Act.put]
theorem slotDen_forget {ρ:Env} {a:Act} {d:Nat} {v:SV} {x:Value} (y:Value) (h:slotDen ρ a v x):slotDen ρ (a.put (some d) y) (v.forget d) x:=by
 cases v <;> try exact h
 rename_i t pol u
 simp only [SV.forget]
 by_cases ht:t=d
 ·rw [if_pos ht];trivial
 ·rw [if_neg ht]
  have:=put_get a (some d) y t (fun _ e=>by cases e;exact fun e=>ht e.symm)
  show ((a.put (some d) y).tmps[t]? = some (.bool pol)∧u.den ρ x)∨((a.put (some d) y).tmps[t]?≠some (.bool pol)∧x=undef)
  rw [this]
  exact h
theorem TmDen.put {ρ ρ':Env} {s:SState} {a:Act} (h:TmDen ρ s a) (he:Ext ρ ρ') {dst:Option Nat} {v:SV} {x:Value} (hv:∀ d,dst=some d→slotDen ρ' (a.put dst x) v x):TmDen ρ' (s.put dst v) (a.put dst x):=by
 refine ⟨?_,fun i y hy=>?_⟩
 ·rw [put_size];cases dst <;> exact h.size
 ·cases dst with
  | none=>exact slotDen_mono he (h.tmp i y hy)
  | some d =>
   simp only [SState.put]
   by_cases hi:i=d
   ·rw [if_pos hi]
    subst hi
    have hxy:y=x:=by
     simp only [Act.put,Array.getElem?_setIfInBounds] at hy
     simp only [if_true] at hy
     split at hy <;> simp_all
    rw [hxy]
    exact hv _ rfl
   ·rw [if_neg hi]
    rw [put_get a (some d) x i (fun _ e=>by cases e;exact fun e=>hi e.symm)] at hy
    exact slotDen_forget x (slotDen_mono he (h.tmp i y hy))
def chain (tm:Nat→SV):Nat→Nat→Bool→Asm × Bool
 | 0,t,pol=>([(t,pol)],true)
 | n+1,t,pol=>match tm t with
  | .bool b=>([(t,pol)],cond pol b (!b))
  | .gd t' pol' (.bool b)=>((t,pol) :: (chain tm n t' pol').1,(chain tm n t' pol').2&&cond pol b (!b))
  | _=>([(t,pol)],true)
theorem chain_ok {ρ:Env} {s:SState} {a:Act} (h:TmDen ρ s a):∀ (n t:Nat) (pol:Bool),a.tmps[t]? = some (.bool pol)→AsmOk (chain s.tm n t pol).1 a∧(chain s.tm n t pol).2=true
 | 0,t,pol,ht=>⟨AsmOk.cons (AsmOk.nil a) ht,rfl⟩
 | n+1,t,pol,ht=>by
  have hd:=h.tmp t _ ht
  simp only [chain]
  split
  ·rename_i b hb
   rw [hb] at hd
   have:pol=b:=by injection hd
   subst this
   exact ⟨AsmOk.cons (AsmOk.nil a) ht,by cases pol <;> rfl⟩
  ·rename_i t' pol' b hb
   rw [hb] at hd
   rcases hd with ⟨h1,h2⟩ | ⟨_,h2⟩
   ·have:pol=b:=by injection h2
    subst this
    obtain ⟨i1,i2⟩:=chain_ok h n t' pol' h1
    exact ⟨AsmOk.cons i1 ht,by simp only [i2,Bool.true_and];cases pol <;> rfl⟩
   ·simp [undef] at h2
  ·exact ⟨AsmOk.cons (AsmOk.nil a) ht,rfl⟩
def nodupB:List Nat→Bool
 | []=>true
 | n :: l=>!(l.any fun m=>Nat.beq m n)&&nodupB l
theorem nodupB_ok {us:List (Nat × Blk)} (h:nodupB (us.map (·.1))=true):∀ u∈us,∀ u'∈us,u.1=u'.1→u.2=u'.2:=by
 induction us with
 | nil=>intro u hu;simp at hu
 | cons v us ih =>
  simp only [List.map_cons,nodupB,Bool.and_eq_true,Bool.not_eq_true',List.any_eq_false] at h
  have hno:∀ u∈us,u.1≠v.1:=fun u hu e=>h.1 u.1 (List.mem_map_of_mem hu) (by rw [Nat.beq_eq];exact e)
  intro u hu u' hu' e
  rcases List.mem_cons.1 hu with h1 | h1 <;> rcases List.mem_cons.1 hu' with h2 | h2
  ·rw [h1,h2]
  ·rw [h1] at e;exact absurd e.symm (hno u' h2)
  ·rw [h2] at e;exact absurd e (hno u h1)
  ·exact ih h.2 u h1 u' h2 e
def OpRes.fitsB (r:OpRes) (mem:Nat→Blk) (off:Nat):Bool:=(r.upds.all fun u=>(mem u.1).mine&&Nat.blt u.1 off)&&nodupB (r.upds.map (·.1))
theorem fitsB_ok {r:OpRes} {mem:Nat→Blk} {off:Nat} (h:r.fitsB mem off=true):r.fits mem off:=by
 simp only [OpRes.fitsB,Bool.and_eq_true,List.all_eq_true] at h
 exact ⟨fun u hu=>⟨(h.1 u hu).1,by have:=(h.1 u hu).2;simpa [Nat.blt_eq] using this⟩,nodupB_ok h.2⟩
structure SRes where
 dst:Option Nat
 v:SV
 news:List Blk
 upds:List (Nat × Blk)
 need:List Bool
def isNone':Option Nat→Nat→Bool
 | some d,t=>!(Nat.beq d t)
 | none,_=>true
def knowS (s:SState) (t:Nat):Option (Bool × Bool):=match s.as with
 | some (t',v)=>(match Nat.beq t t'&&Nat.blt t s.nt with
  | true=>(match s.tm t with
   | .bool b=>some (v,cond v b (!b))
   | _=>none)
  | false=>none)
 | none=>none
theorem knowS_ok {ρ:Env} {s:SState} {a:Act} (h:TmDen ρ s a) {t:Nat} {v nb:Bool} (hk:knowS s t=some (v,nb)) (hn:nb=true):a.tmps[t]? = some (.bool v):=by
 unfold knowS at hk
 split at hk <;> try (cases hk;done)
 split at hk <;> try (cases hk;done)
 rename_i hc
 simp only [Bool.and_eq_true,Nat.beq_eq] at hc
 have hlt:t<a.tmps.size:=by rw [h.size];simpa [Nat.blt_eq] using hc.2
 split at hk <;> try (cases hk;done)
 rename_i b hb
 cases hk
 have hd:=h.tmp t _ (Array.getElem?_eq_getElem hlt)
 rw [hb] at hd
 have hx:a.tmps[t]=.bool b:=hd
 rw [Array.getElem?_eq_getElem hlt,hx]
 cases v <;> cases b <;> first | rfl | cases hn
def xStep (P:Program) (Γ:Gam) (ops:Array Oper) (s:SState) (off:Nat) (o:Oper):Option SRes :=
 match o.guard with
 | none=>match xOp P Γ s off [] o with
  | some r=>if r.fitsB s.mem off then some ⟨o.dst,r.v.top,r.news,r.upds,r.need⟩ else none
  | none=>none
 | some (j,pol)=>match (ops[j]?).bind (·.dst) with
  | some t=>match knowS s t with
   | some (v,nb)=>(match cond v pol (!pol) with
    | true=>(match xOp P Γ s off [(t,pol)] o with
     | some r=>if r.fitsB s.mem off then some ⟨o.dst,r.v.top,r.news,r.upds,nb :: r.need⟩ else none
     | none=>none)
    | false=>(match isNone' o.dst t with
     | true=>some ⟨o.dst,.gd t pol (.bool true),[],[],[nb]⟩
     | false=>none))
   | none=>match xOp P Γ s off (chain s.tm 12 t pol).1 o with
    | some r=>if r.news.all Blk.isUnk&&r.upds.isEmpty&&isNone' o.dst t then some ⟨o.dst,.gd t pol r.v.top,r.news,[],r.need.map fun n=>!(chain s.tm 12 t pol).2||n⟩ else none
    | none=>none
  | none=>none
structure SPost (ρ ρ':Env) (off:Nat) (r:SRes) (a:Act) (w w':World) (x:Value):Prop where
 slot:∀ d,r.dst=some d→slotDen ρ' (a.put r.dst x) r.v x
 post:OpPost ρ ρ' off { v:=.any,news:=r.news,upds:=r.upds } w w' x
theorem OpPost.any {ρ ρ':Env} {off:Nat} {r:OpRes} {w w':World} {x:Value} (h:OpPost ρ ρ' off r w w' x):OpPost ρ ρ' off { v:=.any,news:=r.news,upds:=r.upds } w w' x :=
 ⟨trivial,h.ext,h.old,h.os,h.tape,h.output,h.size,h.keep,h.odn,h.upd,h.new,h.newapart⟩
theorem xStep_wp {Γ:Gam} (hΓ:GamOk P Γ) {B:Nat} {M:List Nat} {ρ:Env} {ops:Array Oper} {s:SState} {a:Act} {w:World} {off:Nat} {o:Oper} {r:SRes} (h:xStep P Γ ops s off o=some r) (hn:∀ b∈r.need,b=true)
  (hT:TmDen ρ s a) (hM:MemDen B M ρ s.mem w) (hB:B≤w.heap.size) (hfr:∀ j,j<r.news.length→ρ (off+j)=none) {K:Act→World→Prop} {Q:Exit→Act→World→Prop}
  (hk:∀ x w' ρ',SPost ρ ρ' off r a w w' x→K (a.put o.dst x) w') :
  if Region.wanted o (yielded ops a.tmps)=true then o.wpIn (FW rd) n P a w K Q else K (a.put o.dst undef) w:=by
 unfold xStep at h
 split at h
 ·rename_i hg
  split at h <;> try (cases h;done)
  rename_i r0 hr
  split at h <;> cases h
  rename_i hf
  have hw:Region.wanted o (yielded ops a.tmps)=true:=by simp [Region.wanted,hg]
  rw [if_pos hw]
  exact xOp_wp hΓ hr hn (fitsB_ok hf) hT hM hB (AsmOk.nil a) hfr fun x w' ρ' hp=>hk x w' ρ' ⟨fun d _=>slotDen_top hp.val,hp.any⟩
 ·rename_i j pol hg
  split at h <;> try (cases h;done)
  rename_i t ht
  have hty:yielded ops a.tmps j=match a.tmps[t]? with | some (.bool b)=>some b | _=>none:=by
   unfold yielded
   rw [ht]
   rfl
  split at h
  ·rename_i v nb hk0
   split at h
   ·rename_i hvp
    split at h <;> try (cases h;done)
    rename_i r0 hr
    split at h <;> cases h
    rename_i hf
    have hb:=knowS_ok hT hk0 (hn nb (by simp))
    have hb:a.tmps[t]? = some (.bool pol):=by rw [hb];cases v <;> cases pol <;> first | rfl | cases hvp
    have hw:Region.wanted o (yielded ops a.tmps)=true:=by
     simp [Region.wanted,hg,hty,hb]
    rw [if_pos hw]
    exact xOp_wp hΓ hr (fun b hbm=>hn b (List.mem_cons_of_mem _ hbm)) (fitsB_ok hf) hT hM hB (AsmOk.cons (AsmOk.nil a) hb) hfr fun x w' ρ' hp=>hk x w' ρ' ⟨fun d _=>slotDen_top hp.val,hp.any⟩
   ·rename_i hvp
    split at h <;> cases h
    rename_i hdt
    have hdt':∀ d,o.dst=some d→d≠t:=by
     intro d hd e
     subst e
     rw [hd] at hdt
     simp [isNone'] at hdt
    have hb:=knowS_ok hT hk0 (hn nb (by simp))
    have hb:a.tmps[t]?≠some (.bool pol):=by rw [hb];cases v <;> cases pol <;> first | (intro e;cases e;done) | cases hvp
    have hw:¬ (Region.wanted o (yielded ops a.tmps)=true):=by
     simp only [Region.wanted,hg,hty,beq_iff_eq]
     intro e
     apply hb
     split at e
     ·rename_i b hb';cases e;exact hb'
     ·cases e
    rw [if_neg hw]
    exact hk undef w ρ ⟨fun d hd=>.inr ⟨by rw [put_get a o.dst undef t hdt'];exact hb,rfl⟩,⟨trivial,Ext.refl _,fun _ _=>rfl,rfl,rfl,rfl,Nat.le_refl _,fun _ _ _=>rfl,⟨fun _ _ _ h=>.inl h,fun _ _ h=>.inl h,rfl⟩,fun u hu=>(by simp at hu),fun j b hj hk=>(by simp at hj),fun j j' b b' m m' _ hj _ hk=>(by simp at hj)⟩⟩
  split at h <;> try (cases h;done)
  rename_i r0 hr
  split at h <;> cases h
  rename_i hc
  simp only [Bool.and_eq_true,List.isEmpty_iff,List.all_eq_true] at hc
  obtain ⟨⟨hnews,hupds⟩,hdt⟩:=hc
  have hdt':∀ d,o.dst=some d→d≠t:=by
   intro d hd e
   subst e
   rw [hd] at hdt
   simp [isNone'] at hdt
  by_cases hb:a.tmps[t]? = some (.bool pol)
  ·have hw:Region.wanted o (yielded ops a.tmps)=true:=by
    simp [Region.wanted,hg,hty,hb]
   rw [if_pos hw]
   obtain ⟨hasm,hcond⟩:=chain_ok hT 12 t pol hb
   have hneed:r0.need_ok:=fun b hbm=>by
    have:=hn _ (List.mem_map_of_mem hbm)
    simpa [hcond] using this
   refine xOp_wp hΓ hr hneed ⟨fun u hu=>by rw [hupds] at hu;simp at hu,fun u hu=>by rw [hupds] at hu;simp at hu⟩ hT hM hB hasm hfr fun x w' ρ' hp=>hk x w' ρ' ⟨fun d hd=>?_,?_⟩
   ·refine .inl ⟨?_,?_⟩
    ·rw [put_get a o.dst x t hdt'];exact hb
    ·have:=hp.val
     cases hv:r0.v <;> rw [hv] at this <;> first | exact this | trivial
   ·have:=hp.any
    rw [hupds] at this
    exact this
  ·have hw:¬ (Region.wanted o (yielded ops a.tmps)=true):=by
    simp only [Region.wanted,hg,hty,beq_iff_eq]
    intro e
    apply hb
    split at e
    ·rename_i b hb';cases e;exact hb'
    ·cases e
   rw [if_neg hw]
   exact hk undef w ρ ⟨fun d hd=>.inr ⟨by rw [put_get a o.dst undef t hdt'];exact hb,rfl⟩,⟨trivial,Ext.refl _,fun _ _=>rfl,rfl,rfl,rfl,Nat.le_refl _,fun _ _ _=>rfl,⟨fun _ _ _ h=>.inl h,fun _ _ h=>.inl h,rfl⟩,fun u hu=>(by simp at hu),fun j b hj hk=>(by rw [hnews b (List.mem_of_getElem? hj)] at hk;cases hk),fun j j' b b' m m' _ hj _ hk=>(by rw [hnews b (List.mem_of_getElem? hj)] at hk;cases hk)⟩⟩
end runs
end Go.Sy
namespace Go.Sy
set_option linter.unusedVariables false
set_option linter.unusedSimpArgs false
open Go.RowKit
set_option linter.unusedSectionVars false
variable [Globs]
section runs
variable {P:Program} {rd:Option Nat} {n:Nat}
theorem wpList_step {ops:Array Oper} {o:Oper} {rest:List Oper} {a:Act} {w:World} {Q:Exit→Act→World→Prop}
  (h:if Region.wanted o (yielded ops a.tmps)=true then o.wpIn (FW rd) n P a w (wpListIn (FW rd) n P ops Q rest) Q else wpListIn (FW rd) n P ops Q rest (a.put o.dst undef) w):wpListIn (FW rd) n P ops Q (o :: rest) a w:=by
 unfold wpListIn
 split
 ·rename_i hw;rw [if_pos hw] at h;exact h
 ·rename_i hw;rw [if_neg hw] at h;exact ⟨fun _ _=>trivial,h⟩
def SState.step (s:SState) (off:Nat) (r:SRes):SState :=
 {s.put r.dst r.v with mem:=OpRes.mem { v:=.any,news:=r.news,upds:=r.upds } s.mem off,nx:=s.nx+r.news.length }
theorem xStep_fits {Γ:Gam} {ops:Array Oper} {s:SState} {off:Nat} {o:Oper} {r:SRes} (h:xStep P Γ ops s off o=some r):OpRes.fits { v:=.any,news:=r.news,upds:=r.upds } s.mem off∧r.dst=o.dst:=by
 unfold xStep at h
 split at h
 ·split at h <;> try (cases h;done)
  split at h <;> cases h
  rename_i hf
  exact ⟨fitsB_ok (r:=⟨.any,_,_,[]⟩) hf,rfl⟩
 ·split at h <;> try (cases h;done)
  split at h
  ·split at h
   ·split at h <;> try (cases h;done)
    split at h <;> cases h
    rename_i hf
    exact ⟨fitsB_ok (r:=⟨.any,_,_,[]⟩) hf,rfl⟩
   ·split at h <;> cases h
    exact ⟨⟨fun u hu=>by simp at hu,fun u hu=>by simp at hu⟩,rfl⟩
  split at h <;> try (cases h;done)
  split at h <;> cases h
  exact ⟨⟨fun u hu=>by simp at hu,fun u hu=>by simp at hu⟩,rfl⟩
theorem step_na (s:SState) (off:Nat) (r:SRes):(s.step off r).na=s.na:=by simp only [SState.step,SState.put];split <;> rfl
theorem StDen.step {B:Nat} {M:List Nat} {w0:Base} {ρ ρ':Env} {s:SState} {a:Act} {w w':World} {r:SRes} {x:Value} (h:StDen B M w0 ρ s a w) (hf:OpRes.fits { v:=.any,news:=r.news,upds:=r.upds } s.mem s.nx)
  (hp:SPost ρ ρ' s.nx r a w w' x):StDen B M w0 ρ' (s.step s.nx r) (a.put r.dst x) w':=by
 have hT:=h.tmDen.put hp.post.ext (v:=r.v) (dst:=r.dst) (x:=x) hp.slot
 exact ⟨by rw [put_defs];exact h.defs.step hp.post hf,hT.size,hT.tmp,fun i hi=>by
   have hi':s.nx+r.news.length≤i:=hi
   rw [hp.post.old i (.inr hi')]
   exact h.fresh i (by omega),hp.post.memDen h.mem hf h.base,hp.post.kept h.mem hf h.kept h.base,by have:=hp.post.size;have:=h.base;omega,h.ext.trans hp.post.ext,h.argn,fun i hi=>by
   rw [hp.post.old i (.inl (by have:=h.nale;omega))];exact h.argl i hi,(step_na s s.nx r).trans h.nab,by show w0.n≤s.nx+r.news.length;have:=h.nale;omega,h.odb.step hp.post.odn h.base,h.mz⟩
structure SealP where
 t:Nat
 j:Nat
 v:SV
 ns:List Bool
def sealRow (row:Blk) (c:Nat) (bj:Blk) (z n t j:Nat):Option SealP:=match row,bj with
 | .row _ sh' _ _,.row _ sh m d=>(match sh'[c]? with
  | some (.sl shx)=>(match kdsEq shx sh&&Nat.beq z sh.length with
   | true=>some ⟨t,j,.ro sh n d,[decide (n≤m)]⟩
   | false=>none)
  | _=>none)
 | _,_=>none
def sealAs (s:SState) (t:Nat):Option SealP:=match s.tm t with
 | .gr j z n=>(match s.mem j with
  | .row _ sh m d=>(match Nat.beq z sh.length with
   | true=>some ⟨t,j,.ro sh n d,[decide (n≤m)]⟩
   | false=>none)
  | _=>none)
 | .own j z n=>(match s.mem j with
  | .row _ sh m d=>(match Nat.beq z sh.length with
   | true=>some ⟨t,j,.ro sh n d,[decide (n≤m)]⟩
   | false=>none)
  | _=>none)
 | _=>none
def sealAt (f:Bool) (s:SState) (o:Oper):Option SealP:=match o.op with
 | .assign (.tmp t)=>(match f&&(Nat.beq s.na 0&&Nat.blt t s.nt) with
  | true=>sealAs s t
  | false=>none)
 | .store _ x (.tmp t)=>(match Nat.beq s.na 0&&Nat.blt t s.nt with
  | true=>(match ev s [] x,s.tm t with
   | .elt i _ _ c,.gr j z n=>(match Nat.beq i j with | true=>none | false=>sealRow (s.mem i) c (s.mem j) z n t j)
   | .elt i _ _ c,.own j z n=>(match Nat.beq i j with | true=>none | false=>sealRow (s.mem i) c (s.mem j) z n t j)
   | _,_=>none)
  | false=>none)
 | _=>none
def sealSt (s:SState) (p:SealP):SState:={ s with tm:=fun i=>if i=p.t then p.v else s.tm i,mem:=fun i=>if i=p.j then .unk else s.mem i }
open Classical in
theorem StDen.sealRow {B:Nat} {M:List Nat} {w0:Base} {ρ:Env} {s:SState} {a:Act} {w:World} (h:StDen B M w0 ρ s a w) (hM:M=[]) {j e m n t:Nat} {sh:List Kd} {d:Dat} (hj:s.mem j=.row e sh m d) (hnm:n≤m)
  (ht:∀ x,a.tmps[t]? = some x→(n=0∧∃ A,x=.slice A 0 0)∨∃ mm,ρ j=some mm∧mm.off=0∧n≤mm.cap∧x=.slice (some ⟨mm.blk,0,none⟩) n mm.cap) (ns:List Bool):∃ ρ',StDen B M w0 ρ' (sealSt s ⟨t,j,.ro sh n d,ns⟩) a w:=by
 let S:Nat→Prop:=fun b=>∃ mm,ρ j=some mm∧mm.blk=b
 let od':Od:=⟨fun b o=>if S b then w.cell? ⟨b,o,none⟩ else ρ.od b o,ρ.od.m,ρ.od.p⟩
 have hE:OdExt ρ.od od':=.ofC fun b o y hy=>by
  show (if S b then w.cell? ⟨b,o,none⟩ else ρ.od b o)=some y
  split
  ·exact h.mem.seal_ b o y hy
  ·exact hy
 have hX:Ext ρ ⟨ρ.nm,od',ρ.gl.ext hE⟩:=⟨fun _ _ h=>h,hE⟩
 have hjk:(s.mem j).isUnk=false:=by rw [hj];rfl
 have mk:∀ i,((sealSt s ⟨t,j,.ro sh n d,ns⟩).mem i).isUnk=false→i≠j∧(sealSt s ⟨t,j,.ro sh n d,ns⟩).mem i=s.mem i:=fun i hi=>by
  by_cases e:i=j
  ·subst e;simp [sealSt,Blk.isUnk] at hi
  ·exact ⟨e,by simp [sealSt,e]⟩
 have nS:∀ i m',i≠j→(s.mem i).isUnk=false→ρ i=some m'→¬ S m'.blk:=fun i m' hne hi hm ⟨mm,hmm,e⟩=>h.mem.apart j i mm m' (Ne.symm hne) hjk hi hmm hm e
 refine ⟨⟨ρ.nm,od',ρ.gl.ext hE⟩,h.defs.map fun b o hb=>⟨hb.at_,fun i m' hi hm=>?_,fun k=>?_,hb.nom⟩,h.size,fun i x hx=>?_,h.fresh,⟨fun i hi=>?_,fun i i' m1 m2 hne hi hi' h1 h2=>?_,⟨fun b o y hy=>?_,h.mem.seal_.m,fun b i hp=>let ⟨⟨v,hv⟩,g⟩:=h.mem.seal_.p b i hp;⟨⟨v,hE b 0 v hv⟩,g⟩⟩,fun i m' hi hm o=>?_,h.mem.pv⟩,h.kept,h.base,h.ext.trans hX,h.argn,h.argl,h.nab,h.nale,⟨fun b o y hy=>?_,h.odb.m,h.odb.p⟩,h.mz⟩
 ·obtain ⟨_,e⟩:=mk i hi
  rw [e] at hi
  exact hb.off i m' hi hm
 ·show (if S b then w.cell? ⟨b,k,none⟩ else ρ.od b k)=none
  rw [if_neg]
  ·exact hb.nod k
  ·rintro ⟨mm,hmm,e⟩;exact hb.off j mm hjk hmm e
 ·have hs:=h.tmp i x hx
  show slotDen _ a (if i=t then .ro sh n d else s.tm i) x
  split
  ·rename_i e
   subst e
   show (SV.ro sh n d).den _ x
   rcases ht x hx with ⟨rfl,A,rfl⟩ | ⟨mm,hmm,h0,hc,rfl⟩
   ·exact ⟨A,0,rfl,⟨Nat.le_refl _,fun _=>rfl⟩,fun h=>absurd h (Nat.lt_irrefl _)⟩
   ·refine ⟨_,_,rfl,⟨hc,fun h=>by cases h⟩,fun _=>⟨mm.blk,0,rfl,fun q hq=>?_⟩⟩
    obtain ⟨_,hb,_⟩:=h.mem.get hjk hmm
    rw [hj] at hb
    obtain ⟨_,_,_,hel⟩:=hb
    refine (kdE_iff (ρ:=⟨ρ.nm,od',ρ.gl.ext hE⟩)).2 fun c v hv=>?_
    obtain ⟨y,hy,hd⟩:=(hel q (by omega)).2 c v hv
    refine ⟨y,?_,SV.den_mono hX _ _ hd⟩
    show (if S mm.blk then w.cell? ⟨mm.blk,0+q * sh.length+c,none⟩ else ρ.od mm.blk (0+q * sh.length+c))=some y
    rw [if_pos ⟨mm,hmm,rfl⟩,← hy,h0,Nat.zero_add,Nat.zero_add]
  ·cases hs':s.tm i <;> rw [hs'] at hs <;> first | exact SV.den_mono hX _ _ hs | exact slotDen_mono hX hs
 ·obtain ⟨hne,e⟩:=mk i hi
  rw [e] at hi ⊢
  refine ⟨fun m' hm=>?_,(h.mem.at_ i hi).2⟩
  obtain ⟨g1,g2,g3⟩:=h.mem.get hi hm
  exact ⟨g1,Blk.den_mono g2 hX,g3⟩
 ·obtain ⟨_,e⟩:=mk i hi
  obtain ⟨_,e'⟩:=mk i' hi'
  rw [e] at hi
  rw [e'] at hi'
  exact h.mem.apart i i' m1 m2 hne hi hi' h1 h2
 ·have hy':(if S b then w.cell? ⟨b,o,none⟩ else ρ.od b o)=some y:=hy
  split at hy'
  ·exact hy'
  ·exact h.mem.seal_ b o y hy'
 ·obtain ⟨hne,e⟩:=mk i hi
  rw [e] at hi
  show (if S m'.blk then w.cell? ⟨m'.blk,o,none⟩ else ρ.od m'.blk o)=none
  rw [if_neg (nS i m' hne hi hm)]
  exact h.mem.free i m' hi hm o
 ·have hy':(if S b then w.cell? ⟨b,o,none⟩ else ρ.od b o)=some y:=hy
  split at hy'
  ·rename_i hS
   obtain ⟨mm,hmm,rfl⟩:=hS
   rcases (h.mem.get hjk hmm).2.2 with h1 | h1
   ·exact .inr h1
   ·rw [hM] at h1;cases h1
  ·exact h.odb b o y hy'
theorem StDen.sealAs {B:Nat} {M:List Nat} {w0:Base} {ρ:Env} {s:SState} {a:Act} {w:World} (h:StDen B M w0 ρ s a w) (h0:s.na=0) {t:Nat} {p:SealP} (hp:Go.Sy.sealAs s t=some p) (hn:∀ b∈p.ns,b=true):∃ ρ',StDen B M w0 ρ' (sealSt s p) a w:=by
 have hM:M=[]:=h.mz (by rw [← h.nab];exact h0)
 unfold Go.Sy.sealAs at hp
 split at hp <;> try (cases hp;done)
 ·rename_i j z n ht
  split at hp <;> try (cases hp;done)
  rename_i hj
  split at hp <;> cases hp
  refine h.sealRow hM hj (by simpa using hn) (fun x hx=>?_) _
  have hs:=h.tmp t x hx
  rw [ht] at hs
  exact hs
 ·rename_i j z n ht
  split at hp <;> try (cases hp;done)
  rename_i hj
  split at hp <;> cases hp
  refine h.sealRow hM hj (by simpa using hn) (fun x hx=>?_) _
  have hs:=h.tmp t x hx
  rw [ht] at hs
  exact .inr hs
theorem StDen.sealAt {B:Nat} {M:List Nat} {w0:Base} {ρ:Env} {s:SState} {a:Act} {w:World} (h:StDen B M w0 ρ s a w) {f:Bool} {o:Oper} {p:SealP} (hp:sealAt f s o=some p) (hn:∀ b∈p.ns,b=true):∃ ρ',StDen B M w0 ρ' (sealSt s p) a w:=by
 unfold Go.Sy.sealAt at hp
 split at hp
 ·rename_i t hop
  split at hp <;> try (cases hp;done)
  rename_i hc
  simp only [Bool.and_eq_true,Nat.beq_eq] at hc
  exact h.sealAs hc.2.1 hp hn
 rotate_left
 ·cases hp
 rename_i _ _ t hop
 split at hp <;> try (cases hp;done)
 rename_i hc
 simp only [Bool.and_eq_true,Nat.beq_eq] at hc
 have hM:M=[]:=h.mz (by rw [← h.nab];exact hc.1)
 have row:∀ {i c j z n:Nat},Go.Sy.sealRow (s.mem i) c (s.mem j) z n t j=some p→(∀ x,a.tmps[t]? = some x→(n=0∧∃ A,x=.slice A 0 0)∨∃ mm,ρ j=some mm∧mm.off=0∧n≤mm.cap∧x=.slice (some ⟨mm.blk,0,none⟩) n mm.cap)→∃ ρ',StDen B M w0 ρ' (sealSt s p) a w:=by
  intro i c j z n hr ht
  unfold Go.Sy.sealRow at hr
  split at hr <;> try (cases hr;done)
  rename_i hj
  split at hr <;> try (cases hr;done)
  split at hr <;> cases hr
  exact h.sealRow hM hj (by simpa using hn) ht _
 split at hp <;> try (cases hp;done)
 ·rename_i i _ _ c j z n _ ht
  split at hp <;> try (cases hp;done)
  refine row hp fun x hx=>?_
  have hs:=h.tmp t x hx
  rw [ht] at hs
  exact hs
 ·rename_i i _ _ c j z n _ ht
  split at hp <;> try (cases hp;done)
  refine row hp fun x hx=>?_
  have hs:=h.tmp t x hx
  rw [ht] at hs
  exact .inr hs
def xSeq0 (P:Program) (Γ:Gam) (ops:Array Oper):List Oper→SState→(SState→Prop)→Prop
 | [],s,k=>k s
 | o :: l,s,k=>match sealAt (Γ.c 4).isSome s o with
  | some p=>needs p.ns (match xStep P Γ ops (sealSt s p) s.nx o with
   | some r=>needs r.need (xSeq0 P Γ ops l ((sealSt s p).step s.nx r) k)
   | none=>False)
  | none=>match xStep P Γ ops s s.nx o with
   | some r=>needs r.need (xSeq0 P Γ ops l (s.step s.nx r) k)
   | none=>False
theorem xSeq0_wp {Γ:Gam} (hΓ:GamOk P Γ) {B:Nat} {M:List Nat} {w0:Base} {ops:Array Oper} {Q:Exit→Act→World→Prop} {k:SState→Prop} (hk:∀ s ρ a w,StDen B M w0 ρ s a w→k s→Q .normal a w) :
  ∀ (l:List Oper) (s:SState) (ρ:Env) (a:Act) (w:World),StDen B M w0 ρ s a w→xSeq0 P Γ ops l s k→wpListIn (FW rd) n P ops Q l a w
 | [],s,ρ,a,w,h,hx=>hk s ρ a w h hx
 | o :: l,s,ρ,a,w,h,hx=>by
  have go:∀ (s:SState) (ρ:Env),StDen B M w0 ρ s a w→(match xStep P Γ ops s s.nx o with
    | some r=>needs r.need (xSeq0 P Γ ops l (s.step s.nx r) k)
    | none=>False)→wpListIn (FW rd) n P ops Q (o :: l) a w:=by
   intro s ρ h hx
   split at hx <;> try exact hx.elim
   rename_i r hr
   rw [needs_iff] at hx
   obtain ⟨hn,hx⟩:=hx
   obtain ⟨hf,hd⟩:=xStep_fits hr
   apply wpList_step
   refine xStep_wp hΓ hr hn h.tmDen h.mem h.base (fun j _=>h.fresh _ (by omega)) fun x w' ρ' hp=>?_
   rw [← hd]
   exact xSeq0_wp hΓ hk l _ ρ' _ w' (h.step hf hp) hx
  simp only [xSeq0] at hx
  split at hx
  ·rename_i p hp
   rw [needs_iff] at hx
   obtain ⟨ρ',h'⟩:=h.sealAt hp hx.1
   exact go (sealSt s p) ρ' h' hx.2
  ·exact go s ρ h hx
def SState.grant (s:SState) (t:Nat) (v:Bool):SState:={ s with as:=some (t,v) }
def SState.ungrant (s:SState):SState:={ s with as:=none }
theorem StDen.grant {B:Nat} {M:List Nat} {w0:Base} {ρ:Env} {s:SState} {a:Act} {w:World} (h:StDen B M w0 ρ s a w) (t:Nat) (v:Bool):StDen B M w0 ρ (s.grant t v) a w :=
 ⟨h.defs,h.size,h.tmp,h.fresh,h.mem,h.kept,h.base,h.ext,h.argn,h.argl,h.nab,h.nale,h.odb,h.mz⟩
theorem StDen.ungrant {B:Nat} {M:List Nat} {w0:Base} {ρ:Env} {s:SState} {a:Act} {w:World} (h:StDen B M w0 ρ s a w):StDen B M w0 ρ s.ungrant a w :=
 ⟨h.defs,h.size,h.tmp,h.fresh,h.mem,h.kept,h.base,h.ext,h.argn,h.argl,h.nab,h.nale,h.odb,h.mz⟩
def gSlot (ops:Array Oper) (o:Oper):Option Nat:=match o.guard with
 | some (j,_)=>(ops[j]?).bind (·.dst)
 | none=>none
def xSeq (P:Program) (Γ:Gam) (ops:Array Oper):List Oper→SState→(SState→Prop)→Prop
 | [],s,k=>k s
 | o :: l,s,k=>match sealAt (Γ.c 4).isSome s o with
  | some p=>needs p.ns (match xStep P Γ ops (sealSt s p) s.nx o with
   | some r=>needs r.need (xSeq P Γ ops l ((sealSt s p).step s.nx r) k)
   | none=>False)
  | none=>match xStep P Γ ops s s.nx o with
   | some r=>needs r.need (xSeq P Γ ops l (s.step s.nx r) k)
   | none=>match gSlot ops o with
    | some t=>(match s.tm t with
     | .bool b=>cnd b (xSeq0 P Γ ops (o :: l) (s.grant t true) fun s'=>k s'.ungrant) (xSeq0 P Γ ops (o :: l) (s.grant t false) fun s'=>k s'.ungrant)
     | _=>False)
    | none=>False
theorem xSeq_wp {Γ:Gam} (hΓ:GamOk P Γ) {B:Nat} {M:List Nat} {w0:Base} {ops:Array Oper} {Q:Exit→Act→World→Prop} {k:SState→Prop} (hk:∀ s ρ a w,StDen B M w0 ρ s a w→k s→Q .normal a w) :
  ∀ (l:List Oper) (s:SState) (ρ:Env) (a:Act) (w:World),StDen B M w0 ρ s a w→xSeq P Γ ops l s k→wpListIn (FW rd) n P ops Q l a w
 | [],s,ρ,a,w,h,hx=>hk s ρ a w h hx
 | o :: l,s,ρ,a,w,h,hx=>by
  have go:∀ (s:SState) (ρ:Env) {r:SRes},StDen B M w0 ρ s a w→xStep P Γ ops s s.nx o=some r→needs r.need (xSeq P Γ ops l (s.step s.nx r) k)→wpListIn (FW rd) n P ops Q (o :: l) a w:=by
   intro s ρ r h hr hx
   rw [needs_iff] at hx
   obtain ⟨hn,hx⟩:=hx
   obtain ⟨hf,hd⟩:=xStep_fits hr
   apply wpList_step
   refine xStep_wp hΓ hr hn h.tmDen h.mem h.base (fun j _=>h.fresh _ (by omega)) fun x w' ρ' hp=>?_
   rw [← hd]
   exact xSeq_wp hΓ hk l _ ρ' _ w' (h.step hf hp) hx
  simp only [xSeq] at hx
  split at hx
  ·rename_i p hp
   rw [needs_iff] at hx
   obtain ⟨ρ',h'⟩:=h.sealAt hp hx.1
   have hx2:=hx.2
   split at hx2 <;> try exact hx2.elim
   rename_i r hr
   exact go (sealSt s p) ρ' h' hr hx2
  ·split at hx
   ·rename_i r hr
    exact go s ρ h hr hx
   ·split at hx <;> try exact hx.elim
    rename_i t _
    split at hx <;> try exact hx.elim
    rename_i b _
    rw [cnd_iff] at hx
    have hk':∀ s ρ a w,StDen B M w0 ρ s a w→k s.ungrant→Q .normal a w:=fun s ρ a w h hx=>hk _ ρ a w h.ungrant hx
    cases b with
    | true=>exact xSeq0_wp hΓ hk' (o :: l) _ ρ a w (h.grant t true) (hx.1 rfl)
    | false=>exact xSeq0_wp hΓ hk' (o :: l) _ ρ a w (h.grant t false) (hx.2 rfl)
theorem StDen.drew {B:Nat} {M:List Nat} {w0:Base} {ρ:Env} {s:SState} {a:Act} {w:World} (h:StDen B M w0 ρ s a w):StDen B M w0 ρ s a { w with drawn:=w.drawn+1 } :=
 ⟨h.defs.same rfl,h.size,h.tmp,h.fresh,⟨fun i hi=>⟨fun m hm=>let ⟨h2,h3,h4⟩:=h.mem.get hi hm;⟨h2,Blk.den_same h3 rfl,h4⟩,(h.mem.at_ i hi).2⟩,h.mem.apart,⟨h.mem.seal_.c,h.mem.seal_.m,h.mem.seal_.p⟩,h.mem.free,PvOk.keep h.mem.pv ρ.gl (fun _ _ _ _=>rfl) (fun _ _ _=>rfl)⟩,⟨h.kept.os,h.kept.tape,h.kept.output,h.kept.size,h.kept.block⟩,h.base,h.ext,h.argn,h.argl,h.nab,h.nale,h.odb,h.mz⟩
end runs
end Go.Sy
