/-
 A symbolic executor for the model's code, part M: a region in any order, the induction. Conditions: none.
-/
import Derived.CallsIn
import Derived.TacticsIn
import Derived.RangeFuncCalls
import Derived.OrdersIn
import Derived.LoopNIn
import Derived.RangeFuncLeaves
import Derived.RangeFuncRecord
import Derived.RangeFuncOwn
import Derived.Test.YtdcdjjogieojhaaGreatDoorKSyLk
set_option linter.unusedVariables false
set_option linter.unusedSimpArgs false
set_option linter.unusedSectionVars false
open Bool renaming and_eq_true->aq
open _root_.Array renaming getD_eq_getD_getElem?->ax,getElem?_eq_getElem->ak
open List renaming getElem?_eq_some_iff->az,getElem?_eq_getElem->aj
open Nat renaming zero_add->aw
namespace Go.Sy
open Go.RowKit
variable [AO]
section runs
variable {P:Program} {rd:Option Nat} {n:Nat}
def SN(s:A4)(asm:Asm)(c a b:Operand):Option Ae :=
 match c with
 | .tmp t=>match ev s asm c,ev s ((t,true) :: asm) a,ev s ((t,false) :: asm) b with
  | .bool bc,.bool x,.bool y=>some { v:=.bool (cond bc x y) }
  | _,_,_=>none
 | _=>none
def Ua(v:SV):Option Ae :=
 match v with
 | .ptr i o=>some { v:=.ptr i o }
 | .elt i s k j=>some { v:=.elt i s k j }
 | .rp sh d k j=>some { v:=.rp sh d k j }
 | .ra sh n d=>some { v:=.ra sh n d }
 | .rq t sh d k j=>some { v:=.rp sh d k j,need:=[t] }
 | .rz t i sh d=>some { v:=.rz true i sh d,need:=[t] }
 | .pix i o s m k j=>some { v:=.pix i o s m k j }
 | .fn f l=>some { v:=.fn f l }
 | _=>none
def Ru(P:Program)(op:BinOp)(t:TypeId)(v:SV)(y:Operand):Option Ae :=
 match v,y,P.underlying t with
 | .ni b,.const .nilIface,some (.interface _)=>(match op with
  | .eql=>some { v:=.bool b }
  | .neq=>some { v:=.bool (!b) }
  | _=>none)
 | _,_,_=>none
theorem Px{O:Env}{w:World}{op:BinOp}{t:TypeId}{v:SV}{y ox:Operand}{r:Ae}(h:Ru P op t v y=some r){x:Value}(hv:v.den O x)(off:Nat) :
  ∃ z,(eqGuard op t ox y x .nilIface).run P w=.ok () w/\(binOp op t x .nilIface).run P w=.ok z w/\A5 O O off r w w z/\y=.const .nilIface:=by
 unfold Ru at h
 split at h <;> try (cases h;done)
 rename_i b ms hu
 have hg:∀ op,(eqGuard op t ox (.const .nilIface) x .nilIface).run P w=.ok () w:=fun op=>by
  rcases hv with ⟨_,rfl⟩ | ⟨_,u,v,rfl⟩
  .unfold eqGuard
   cases op <;> simp
  .exact Am _ _ _ _ _ _ _ (by simp) (by simp)
 have he:∀ d,(Op.equalIn (d+1) t x .nilIface).run P w=.ok b w:=fun d=>by
  rcases hv with ⟨rfl,rfl⟩ | ⟨rfl,u,v,rfl⟩ <;> simp only [Op.equalIn,Sem.run_bind,run_underlying hu,Result.andThen_ok,Sem.run_pure]
 have hb:∀ no:Bool,binOp (if no then .neq else .eql) t x .nilIface=(if no then (do pure (.bool (!(<- Op.equal t x .nilIface)))) else (do pure (.bool (<- Op.equal t x .nilIface))):Sem Value):=fun no=>by
  rcases hv with ⟨_,rfl⟩ | ⟨_,u,v,rfl⟩ <;> cases no <;> rfl
 split at h <;> cases h
 .exact ⟨_,hg _,BV false (hb false) (he 9999),A5.pure_ rfl,rfl⟩
 .exact ⟨_,hg _,BV true (hb true) (he 9999),A5.pure_ rfl,rfl⟩
def NU(P:Program)(t:TypeId)(v:SV):Option Ae :=
 match P.underlying t with
 | some (.interface _)=>none
 | some _=>some { v:=.ifc t [v] }
 | none=>none
theorem ND{O:Env}{w:World}{t:TypeId}{v:SV}{r:Ae}(h:NU P t v=some r){x:Value}(hv:v.den O x)(off:Nat) :
  (Instr.makeInterface t x).run P w=.ok (.iface t x) w/\A5 O O off r w w (.iface t x):=by
 unfold NU at h
 split at h <;> cases h
 rename_i u hn hu
 refine ⟨?_,A5.pure_ ⟨[x],⟨x,rfl,rfl⟩,hv,trivial⟩⟩
 simp only [Instr.makeInterface,Sem.run_bind,run_underlying hu,Result.andThen_ok]
 cases u <;> first | rfl | exact absurd rfl (hn _)
def Ld(P:Program)(asserted:TypeId)(ok:Bool)(v:SV):Option Ae :=
 match v,P.underlying asserted with
 | .ifc _ _,some (.interface _)=>none
 | .ifc t [u],some _=>(match decide (t=asserted),ok with
  | true,true=>some { v:=.tup [u,.bool true] }
  | true,false=>some { v:=u }
  | false,true=>(Ca P asserted).map fun z=>{ v:=.tup [.val z,.bool false] }
  | false,false=>none)
 | _,_=>none
theorem Mi{O:Env}{w:World}{s t:TypeId}{ok:Bool}{v:SV}{r:Ae}(h:Ld P t ok v=some r){x:Value}(hv:v.den O x)(off:Nat) :
  ∃ z,(Instr.typeAssert x s t ok).run P w=.ok z w/\A5 O O off r w w z:=by
 unfold Ld at h
 split at h <;> try (cases h;done)
 rename_i t' u un hn hu
 obtain ⟨xs,⟨y,rfl,rfl⟩,hy,_⟩:=hv
 have hn':∀ ms,un≠.interface ms:=fun ms e=>hn ms (by rw [e])
 have run:(Instr.typeAssert (.iface t' y) s t ok).run P w=(if t'=t then (pure (if ok then .tuple #[y,.bool true] else y):Sem Value) else (if ok then (do let z <- zeroValue t;pure (.tuple #[z,.bool false]):Sem Value) else runtimePanic (.typeAssertion (some s) (some t') t ""))).run P w:=by
  simp only [Instr.typeAssert,Sem.run_bind,run_underlying hu,Result.andThen_ok]
 split at h
 .cases h
  rename_i e
  have e:t'=t:=by simpa using e
  exact ⟨_,by rw [run,if_pos e];rfl,A5.pure_ ⟨[y,.bool true],rfl,hy,rfl,trivial⟩⟩
 .cases h
  rename_i e
  have e:t'=t:=by simpa using e
  exact ⟨_,by rw [run,if_pos e];rfl,A5.pure_ hy⟩
 .rename_i e
  have e:t'≠t:=by simpa using e
  rw [Option.map_eq_some_iff] at h
  obtain ⟨z,hz,rfl⟩:=h
  refine ⟨.tuple #[z,.bool false],?_,A5.pure_ ⟨[z,.bool false],rfl,rfl,rfl,trivial⟩⟩
  rw [run,if_neg e]
  have:=BP hz w
  simp only [if_true,Sem.run_bind,this,Result.andThen_ok]
  rfl
 .cases h
def Iu(a:Int):BA:=⟨#[UInt8.ofNat a.toNat]⟩
def NO(P:Program)(mem:Nat->Blk)(src dst:TypeId)(v:SV):Option Ae :=
 match P.underlying src,P.underlying dst,v with
 | some (.slice e),some .string,.own i 1 1=>(match P.underlying e,mem i with
  | some (.int .u8),.row _ [.int .u8] m d=>some { v:=.str (Iu (d.ii 0 0)),need:=[decide (0<m),decide (0<=d.ii 0 0/\d.ii 0 0<=255)] }
  | _,_=>none)
 | _,_,_=>none
theorem Nz{B:Nat}{M:List Nat}{O:Env}{mem:Nat->Blk}{w:World}(hm:Ak B M O mem w){src dst:TypeId}{v:SV}{r:Ae}(h:NO P mem src dst v=some r)(hn:∀ b∈r.need,b=true){x:Value}(hv:v.den O x)(off:Nat) :
  ∃ y,(convert src dst x).run P w=.ok y w/\A5 O O off r w w y:=by
 unfold NO at h
 split at h <;> try (cases h;done)
 rename_i e i hs hd
 split at h <;> cases h
 rename_i e' m d he hi
 have h0:0<m:=by simpa using hn (decide (0<m)) (by simp)
 have h1:0<=d.ii 0 0/\d.ii 0 0<=255:=by simpa using hn (decide (0<=d.ii 0 0/\d.ii 0 0<=255)) (by simp)
 obtain ⟨mm,hmm,ho,hcap,rfl⟩:=hv
 obtain ⟨_,hb,_⟩:=hm.get (by rw [hi];rfl) hmm
 rw [hi] at hb
 obtain ⟨y,hy,hdy⟩:=(hb.2.2.2 0 h0).2 0 (.int .u8 (d.ii 0 0)) rfl
 cases hdy
 simp only [ho,Nat.zero_mul,aw,Nat.add_zero] at hy
 have hb:((UInt8.ofNat (d.ii 0 0).toNat).toNat:Int)=d.ii 0 0:=by
  rw [UInt8.toNat_ofNat'];omega
 refine ⟨.string (Iu (d.ii 0 0)),?_,A5.pure_ rfl⟩
 exact run_convert_bytes_back (P:=P) w src dst e ⟨mm.blk,0,none⟩ mm.cap [UInt8.ofNat (d.ii 0 0).toNat] hs he hd (by
  intro j hj
  have hj0:j=0:=by simpa using hj
  subst hj0
  rw [Addr.add_mid]
  show w.cell? _=some (Value.int IntKind.u8 ((UInt8.ofNat (d.ii 0 0).toNat).toNat:Int))
  rw [hb]
  exact hy)
def SM(P:Program)(Γ:Gam)(s:A4)(off:Nat)(asm:Asm)(c:Call):Option Ae :=
 match c.callee with
 | .value f=>match ev s asm f with
  | .fn n caps=>match Γ.c n with
   | some g=>g off s.mem (c.args.toList.map (ev s asm) ++ caps)
   | none=>none
  | .fb n fst=>match Γ.c n with
   | some g=>g off s.mem (fst ++ c.args.toList.map (ev s asm))
   | none=>none
  | _=>none
 | .builtin .len=>match c.argTypes.toList,c.args.toList with
  | [t],[x]=>Tx P t (ev s asm x)
  | _,_=>none
 | .builtin .append=>match c.argTypes.toList,c.args.toList with
  | [t,t'],[x,y]=>match P.underlying t' with
   | some (.slice _)=>match ev s asm x with
    | .emp=>JG P s.mem t (ev s asm y)
    | v=>Ie P s.mem off t v (ev s asm y)
   | some (.int _)=>H9 P off t (ev s asm x) (ev s asm y)
   | some .string=>H8 P s.mem off t (ev s asm x) (ev s asm y)
   | _=>none
  | _,_=>none
 | .builtin .cap=>match c.argTypes.toList,c.args.toList with
  | [t],[x]=>match P.underlying t,ev s asm x with
   | some (.slice _),.nsl=>some { v:=.int .i64 0 }
   | _,_=>none
  | _,_=>none
 | .builtin .clear=>match c.argTypes.toList,c.args.toList with
  | [t],[x]=>NP P s.mem t (ev s asm x)
  | _,_=>none
 | .builtin .max=>(Sz P6 (c.args.toList.map (ev s asm))).map fun v=>{ v:=v }
 | .builtin .min=>(Sz Ta (c.args.toList.map (ev s asm))).map fun v=>{ v:=v }
 | _=>none
def Lk(P:Program)(mem:Nat->Blk)(t:TypeId)(p v:SV):Option Ae:=match p,v with
 | .elt i _ _ c,.nsl=>(match mem i with
  | .row _ sh _ _=>(match sh[c]? with
   | some kd=>JP P mem t p (kd.fit .nsl)
   | none=>none)
  | _=>JP P mem t p v)
 | _,_=>JP P mem t p v
theorem Mn{B:Nat}{M:List Nat}{O:Env}{mem:Nat->Blk}{w:World}(hm:Ak B M O mem w){t:TypeId}{p v:SV}{r:Ae}(h:Lk P mem t p v=some r)(hn:∀ b∈r.need,b=true){x y:Value}(hp:p.den O x)(hv:v.den O y)(off:Nat) :
  ∃ w',(Instr.storeAt t x y).run P w=.ok () w'/\A5 O O off r w w' undef:=by
 unfold Lk at h
 split at h
 .split at h
  .split at h <;> try (cases h;done)
   exact Gf hm h hn hp (Oj _ hv) off
  .exact Gf hm h hn hp hv off
 .exact Gf hm h hn hp hv off
def xOp(P:Program)(Γ:Gam)(s:A4)(off:Nat)(asm:Asm)(o:Oper):Option Ae :=
 match o.op with
 | .move x=>some { v:=ev s asm x }
 | .assign x=>some { v:=ev s asm x }
 | .pick c a b=>SN s asm c a b
 | .alloc t=>Lc P off t
 | .box t x=>Sx off t (ev s asm x)
 | .build t ps=>NN P t (ps.toList.map fun p=>(p.1,ev s asm p.2))
 | .buildSlice t n ps=>match Γ.c 3 with
  | some _=>match n with
   | 0=>Hz P t (ps.toList.map fun p=>(p.1,ev s asm p.2))
   | n+1=>JI P t (n+1) (ps.toList.map fun p=>(p.1,ev s asm p.2))
  | none=>E7 P off t n (ps.toList.map fun p=>(p.1,ev s asm p.2))
 | .load t x=>HW P s.mem t (ev s asm x)
 | .store t x y=>Lk P s.mem t (ev s asm x) (ev s asm y)
 | .nilCheck x=>Ua (ev s asm x)
 | .binOp op t x y _=>(match Sw P op t (ev s asm x) (ev s asm y) with
  | some r=>some r
  | none=>Ru P op t (ev s asm x) y)
 | .unOp op _ x=>xUn op (ev s asm x)
 | .convert t u x=>(match JJ P t u (ev s asm x) with
  | some r=>some r
  | none=>NO P s.mem t u (ev s asm x))
 | .makeFunc (.func f) first caps=>if first.toList.isEmpty then some { v:=.fn f (caps.toList.map (ev s asm)) } else if caps.toList.isEmpty then some { v:=.fb f (first.toList.map (ev s asm)) } else none
 | .makeSlice t l c=>EV P off t (ev s asm l) (ev s asm c)
 | .slice t x lo hi mx=>match mx with
  | none=>NW P t (ev s asm x) (lo.map (ev s asm)) (hi.map (ev s asm))
  | some mx=>match hi with
   | some hi=>If P off t (ev s asm x) (lo.map (ev s asm)) (ev s asm hi) (ev s asm mx)
   | none=>none
 | .fieldAddr t x f=>DS P t (ev s asm x) f
 | .field t x f=>NT P t (ev s asm x) f
 | .indexAddr t x i=>Gm P Γ.pix t (ev s asm x) (ev s asm i)
 | .index t x i=>(match Γ.pix with
  | true=>Lf P t (ev s asm x) (ev s asm i)
  | false=>NV P t (ev s asm x) (ev s asm i))
 | .extract x i=>JM (ev s asm x) i
 | .call c=>SM P Γ s off asm c
 | .lookup t m x ok=>Lg P t ok (ev s asm m) (ev s asm x)
 | .makeInterface t x=>NU P t (ev s asm x)
 | .typeAssert x _ t ok=>Ld P t ok (ev s asm x)
 | _=>none
abbrev FW(rd:Option Nat):Fence:={ Fence.wide with round:=rd }
theorem Dy(rd:Option Nat)(O:Operand->Value)(o:Oper)(h:∀ c,o.op≠.defer c):Oper.semAt rd O o=execOp O o:=by
 cases rd with
 | none=>rfl
 | some l=>exact Oper.semAt_some l O o h
theorem EE{P:Program}{rd:Option Nat}{n:Nat}{f:FuncId}{args:Array Value}{w:World}{R:Ending->World->Prop}(h:Calls P f args w R):CallsIn (FW rd) n P f args w R:=by
 cases rd with
 | none=>exact callsIn_wide.2 h
 | some l=>exact CallsIn.inRound l (callsIn_wide.2 h)
theorem A8{o:Oper}{a:Act}{w w':World}{x:Value}{K:Act->World->Prop}{Q:Exit->Act->World->Prop}(h:(execOp a.eval o).run P w=.ok (.value x) w')(hk:K (a.put o.dst x) w')(hd:∀ c,o.op≠.defer c:=by intro c e;cases e):o.wpIn (FW rd) n P a w K Q:=by
 refine ⟨fun _ _=>trivial,?_⟩
 rw [show (FW rd).round=rd from rfl,Dy rd _ o hd,h];exact hk
theorem DR{o:Oper}{a:Act}{w w':World}{K:Act->World->Prop}{Q:Exit->Act->World->Prop}(h:(execOp a.eval o).run P w=.ok .skip w')(hk:K (a.put o.dst undef) w')(hd:∀ c,o.op≠.defer c:=by intro c e;cases e):o.wpIn (FW rd) n P a w K Q:=by
 refine ⟨fun _ _=>trivial,?_⟩
 rw [show (FW rd).round=rd from rfl,Dy rd _ o hd,h];exact hk
section
variable {O:Env} {s:A4} {a:Act} {asm:Asm}
theorem DZ(hT:Dl O s a)(ha:Az asm a):∀ l:List Operand,SV.denL O (l.map (ev s asm)) (l.map a.eval)
 | []=>trivial
 | x :: l=>⟨AF hT ha x,DZ hT ha l⟩
theorem IH(hT:Dl O s a)(ha:Az asm a):∀ l:List (Nat × Operand),Gj O (l.map fun p=>(p.1,ev s asm p.2)) (l.map fun p=>(p.1,a.eval p.2))
 | []=>trivial
 | x :: l=>⟨rfl,AF hT ha x.2,IH hT ha l⟩
theorem KB(hT:Dl O s a)(ha:Az asm a):∀ x:Option Operand,Ke O (x.map (ev s asm)) (x.map a.eval)
 | none=>trivial
 | some x=>AF hT ha x
end
theorem Li{Γ:Gam}(hΓ:DU P Γ){B:Nat}{M:List Nat}{O:Env}{s:A4}{a:Act}{w:World}{asm:Asm}{off:Nat}{o:Oper}{r:Ae}(h:xOp P Γ s off asm o=some r)(hn:r.need_ok)(hfit:r.fits s.mem off)(hT:Dl O s a)(hM:Ak B M O s.mem w)(hB:B<=w.heap.size)(ha:Az asm a)(hfr:∀ j,j<r.news.length->O (off+j)=none){K:Act->World->Prop}{Q:Exit->Act->World->Prop}(hk:∀ x w' O',A5 O O' off r w w' x->K (a.put o.dst x) w'):o.wpIn (FW rd) n P a w K Q:=by
 have E:=fun x=>AF hT ha x
 obtain ⟨dst,op,type,pos,after,guard⟩:=o
 cases op <;> simp only [xOp] at h <;> try (cases h;done)
 case move x=>cases h;exact A8 (x:=a.eval x) (by simp [execOp]) (hk _ _ _ (A5.pure_ (E x)))
 case assign x=>cases h;exact A8 (x:=a.eval x) (by simp [execOp]) (hk _ _ _ (A5.pure_ (E x)))
 case pick c x y =>
  unfold SN at h
  split at h <;> try (cases h;done)
  rename_i t
  split at h <;> cases h
  rename_i bc p q hc hp hq
  have hcx:=E (.tmp t)
  rw [hc] at hcx
  have hcv:a.eval (.tmp t)=.bool bc:=hcx
  have ht:a.tmps[t]? = some (.bool bc):=by
   simp only [Act.eval,ax] at hcv
   cases hg:a.tmps[t]? with
   | none=>rw [hg] at hcv;simp [undef] at hcv
   | some z=>rw [hg] at hcv;simp at hcv;rw [hcv]
  cases bc
  .have hy:=AF hT (Az.cons ha ht) y
   rw [hq] at hy
   have hy':a.eval y=.bool q:=hy
   exact A8 (x:=.bool q) (by simp [execOp,hcv,asBool,hy']) (hk _ _ _ (A5.pure_ rfl))
  .have hx:=AF hT (Az.cons ha ht) x
   rw [hp] at hx
   have hx':a.eval x=.bool p:=hx
   exact A8 (x:=.bool p) (by simp [execOp,hcv,asBool,hx']) (hk _ _ _ (A5.pure_ rfl))
 case alloc t =>
  have hf:O off=none:=by
   unfold Lc at h;split at h <;> cases h;exact hfr 0 (by simp)
  obtain ⟨y,w',O',hr,hp⟩:=Ny (P:=P) (w:=w) h hf (fun _ _ _=>hM.od_lt)
  exact A8 (by simp [execOp,hr]) (hk _ _ _ hp)
 case box t x =>
  have hf:O off=none:=by
   unfold Sx at h;split at h <;> cases h;exact hfr 0 (by simp)
  obtain ⟨y,w',O',hr,hp⟩:=R0 (P:=P) (w:=w) h (E x) hf (fun _ _ _=>hM.od_lt)
  exact A8 (by simp [execOp,hr]) (hk _ _ _ hp)
 case build t ps =>
  have hps:=IH hT ha ps.toList
  obtain ⟨y,hr,hp⟩:=ER (P:=P) (w:=w) (xs:=ps.map fun p=>(p.1,a.eval p.2)) h (by simpa using hps) off
  exact A8 (by simp [execOp,hr]) (hk _ _ _ hp)
 case buildSlice t n ps =>
  have hps:=IH hT ha ps.toList
  split at h
  .split at h
   .obtain ⟨y,w',hr,hp⟩:=JU (P:=P) (w:=w) (off:=off) (xs:=ps.map fun p=>(p.1,a.eval p.2)) h (by simpa using hps)
    exact A8 (by simp [execOp,hr]) (hk _ _ _ hp)
   .obtain ⟨y,w',O',hr,hp⟩:=KX (P:=P) (w:=w) (off:=off) (xs:=ps.map fun p=>(p.1,a.eval p.2)) h (by simpa using hps) (fun _ _ _=>hM.od_lt)
    exact A8 (by simp [execOp,hr]) (hk _ _ _ hp)
  .have hf:O off=none:=by
    unfold E7 at h
    repeat' (split at h <;> try (cases h;done))
    all_goals (cases h;exact hfr 0 (by simp))
   obtain ⟨y,w',O',hr,hp⟩:=I1 (P:=P) (w:=w) (xs:=ps.map fun p=>(p.1,a.eval p.2)) h (by simpa using hps) hf (fun _ _ _=>hM.od_lt)
   exact A8 (by simp [execOp,hr]) (hk _ _ _ hp)
 case load t x =>
  obtain ⟨y,hr,hp⟩:=Dx (P:=P) hM h hn (E x) off
  exact A8 (by simp [execOp,hr]) (hk _ _ _ hp)
 case store t x y =>
  obtain ⟨w',hr,hp⟩:=Mn (P:=P) hM h hn (E x) (E y) off
  exact DR (by simp [execOp,hr]) (hk _ _ _ hp)
 case nilCheck x =>
  have hx:=E x
  unfold Ua at h
  split at h <;> cases h
  .rename_i i o hv;rw [hv] at hx
   obtain ⟨m,hm,he⟩:=hx
   exact A8 (x:=a.eval x) (by simp [execOp,he]) (hk _ _ _ (A5.pure_ ⟨m,hm,he⟩))
  .rename_i i z k j hv;rw [hv] at hx
   obtain ⟨m,hm,he⟩:=hx
   exact A8 (x:=a.eval x) (by simp [execOp,he]) (hk _ _ _ (A5.pure_ ⟨m,hm,he⟩))
  .rename_i sh d k j hv;rw [hv] at hx
   obtain ⟨b,o,he,hL⟩:=hx
   exact A8 (x:=a.eval x) (by simp [execOp,he]) (hk _ _ _ (A5.pure_ ⟨b,o,he,hL⟩))
  .rename_i sh n d hv;rw [hv] at hx
   obtain ⟨b,o,he,hL⟩:=hx
   exact A8 (x:=a.eval x) (by simp [execOp,he]) (hk _ _ _ (A5.pure_ ⟨b,o,he,hL⟩))
  .rename_i t sh d k j hv;rw [hv] at hx
   have ht:t=true:=hn t (by simp)
   rcases hx with ⟨_,b,o,he,hL⟩ | ⟨hf,_⟩
   .exact A8 (x:=a.eval x) (by simp [execOp,he]) (hk _ _ _ (A5.pure_ ⟨b,o,he,hL⟩))
   .rw [ht] at hf;cases hf
  .rename_i t i sh d hv;rw [hv] at hx
   have ht:t=true:=hn t (by simp)
   rcases hx with ⟨_,b,he,hp,hL⟩ | ⟨hf,_⟩
   .exact A8 (x:=a.eval x) (by simp [execOp,he]) (hk _ _ _ (A5.pure_ (.inl ⟨rfl,b,he,hp,hL⟩)))
   .rw [ht] at hf;cases hf
  .rename_i i o s m k j hv;rw [hv] at hx
   obtain ⟨mm,hm,he⟩:=hx
   exact A8 (x:=a.eval x) (by simp [execOp,he]) (hk _ _ _ (A5.pure_ ⟨mm,hm,he⟩))
  .rename_i f l hv;rw [hv] at hx
   obtain ⟨xs,he,hd⟩:=hx
   exact A8 (x:=a.eval x) (by simp [execOp,he]) (hk _ _ _ (A5.pure_ ⟨xs,he,hd⟩))
 case binOp op t x y ty =>
  split at h
  .rename_i r0 hr0
   cases h
   obtain ⟨z,hg,hr,hp⟩:=Mj (P:=P) (w:=w) hr0 hn hM.seal_ (E x) (E y) x y off
   exact A8 (by simp [execOp,hg,hr]) (hk _ _ _ hp)
  .obtain ⟨z,hg,hr,hp,rfl⟩:=Px (P:=P) (w:=w) (ox:=x) h (E x) off
   have ec:a.eval (.const .nilIface)=.nilIface:=rfl
   exact A8 (by simp [execOp,ec,hg,hr]) (hk _ _ _ hp)
 case unOp op t x =>
  obtain ⟨z,hr,hp⟩:=Si (P:=P) (w:=w) h (E x) off
  exact A8 (by simp [execOp,hr]) (hk _ _ _ hp)
 case convert t u x =>
  split at h
  .rename_i r0 hr0
   cases h
   obtain ⟨z,w',O',hr,hp⟩:=KY (P:=P) (w:=w) hr0 (E x) off (fun _ _ _=>hM.od_lt)
   exact A8 (by simp [execOp,hr]) (hk _ _ _ hp)
  .obtain ⟨z,hr,hp⟩:=Nz (P:=P) hM h hn (E x) off
   exact A8 (by simp [execOp,hr]) (hk _ _ _ hp)
 case makeInterface t x =>
  obtain ⟨hr,hp⟩:=ND (P:=P) (w:=w) h (E x) off
  exact A8 (by simp [execOp,hr]) (hk _ _ _ hp)
 case typeAssert x s' t ok =>
  obtain ⟨z,hr,hp⟩:=Mi (P:=P) (w:=w) (s:=s') h (E x) off
  exact A8 (by simp [execOp,hr]) (hk _ _ _ hp)
 case makeFunc fn first caps =>
  cases fn <;> simp only at h <;> try (cases h;done)
  rename_i f
  split at h
  .cases h
   rename_i he
   have hf:first=#[]:=by
    cases first;simp at he;simp [he]
   subst hf
   have hd:=DZ hT ha caps.toList
   have he:(caps.map a.eval)=⟨caps.toList.map a.eval⟩:=by apply Array.toList_inj.1;simp
   exact A8 (x:=.func (.func f) #[] (caps.map a.eval)) (by simp [execOp,Instr.makeFunc]) (hk _ _ _ (A5.pure_ ⟨caps.toList.map a.eval,by rw [he],hd⟩))
  .split at h <;> cases h
   rename_i he
   have hf:caps=#[]:=by
    cases caps;simp at he;simp [he]
   subst hf
   have hd:=DZ hT ha first.toList
   have he:(first.map a.eval)=⟨first.toList.map a.eval⟩:=by apply Array.toList_inj.1;simp
   exact A8 (x:=.func (.func f) (first.map a.eval) #[]) (by simp [execOp,Instr.makeFunc]) (hk _ _ _ (A5.pure_ ⟨first.toList.map a.eval,by rw [he],hd⟩))
 case makeSlice t l c =>
  have hf:O off=none:=by
   unfold EV at h
   repeat' (split at h <;> try (cases h;done))
   cases h;exact hfr 0 (by simp)
  obtain ⟨y,w',O',hr,hp⟩:=Jk (P:=P) (w:=w) h hn (E l) (E c) hf (fun _ _ _=>hM.od_lt)
  exact A8 (by simp [execOp,hr]) (hk _ _ _ hp)
 case slice t x lo hi mx =>
  cases mx with
  | none =>
   simp only at h
   obtain ⟨z,hr,hp⟩:=NF (P:=P) (w:=w) h hn (E x) (KB hT ha lo) (KB hT ha hi) off
   exact A8 (by simp [execOp,hr]) (hk _ _ _ hp)
  | some mx =>
   cases hi with
   | none=>cases h
   | some hi =>
    simp only at h
    have hf:O off=none:=by
     have h':=h
     unfold If at h'
     repeat' (split at h' <;> try (cases h';done))
     cases h';exact hfr 0 (by simp)
    obtain ⟨z,hr,hp⟩:=Mm (P:=P) (w:=w) h (E x) (KB hT ha lo) (E hi) (E mx) hf
    exact A8 (by simp [execOp,hr]) (hk _ _ _ hp)
 case fieldAddr t x f =>
  obtain ⟨z,hr,hp⟩:=Fw (P:=P) (w:=w) h (E x) off
  exact A8 (by simp [execOp,hr]) (hk _ _ _ hp)
 case field t x f =>
  obtain ⟨z,hr,hp⟩:=NB (P:=P) (w:=w) h (E x) off
  exact A8 (by simp [execOp,hr]) (hk _ _ _ hp)
 case indexAddr t x i =>
  obtain ⟨z,hr,hp⟩:=CK (P:=P) (w:=w) h hn (E x) (E i) off
  exact A8 (by simp [execOp,hr]) (hk _ _ _ hp)
 case index t x i =>
  split at h
  .obtain ⟨z,hr,hp⟩:=Mk (P:=P) (w:=w) h hn (E x) (E i) off
   exact A8 (by simp [execOp,hr]) (hk _ _ _ hp)
  .obtain ⟨z,hr,hp⟩:=NE (P:=P) (w:=w) h hn (E x) (E i) off
   exact A8 (by simp [execOp,hr]) (hk _ _ _ hp)
 case extract x i =>
  obtain ⟨z,hr,hp⟩:=KZ (P:=P) (w:=w) h (E x) off
  exact A8 (by simp [execOp,hr]) (hk _ _ _ hp)
 case lookup t m x ok =>
  obtain ⟨z,hr,hp⟩:=Ml (P:=P) hM h (E m) (E x) off
  exact A8 (by simp [execOp,hr]) (hk _ _ _ hp)
 case call c =>
  unfold SM at h
  split at h <;> try (cases h;done)
  .rename_i f hc
   split at h <;> try (cases h;done)
   .rename_i n caps hfn
    split at h <;> try (cases h;done)
    rename_i g hg
    obtain ⟨⟨fn,hfun,hbody,hname⟩,hcall⟩:=hΓ n g hg
    have hf:=E f
    rw [hfn] at hf
    obtain ⟨cs,hfv,hcs⟩:=hf
    have hargs:=C7 (DZ hT ha c.args.toList) hcs
    have hC:=hcall B M O s.mem off _ r h hn hfit _ w hargs hM hB hfr
    have hrun:(execOp a.eval ⟨dst,.call c,type,pos,after,guard⟩).run P w=.ok (.enter n ⟨c.args.toList.map a.eval ++ cs⟩) w:=by
     have hb:fn.body.isNone=false:=by cases hx:fn.body <;> simp_all
     have harr:c.args.map a.eval ++ (⟨cs⟩:Array Value)=⟨c.args.toList.map a.eval ++ cs⟩:=by
      apply Array.toList_inj.1;simp
     simp only [execOp,resolve,hc,hfv,Deferred.ofValue,Sem.run_bind,Sem.run_pure,Result.andThen_ok,invoke,callFunc,run_program,hfun,hname,Bool.false_eq_true,if_false,hb]
     simp [harr]
    refine ⟨fun _ _=>trivial,?_⟩
    rw [show (FW rd).round=rd from rfl,Dy rd _ _ (by intro c e;cases e),hrun]
    refine ⟨fun h=>(by cases h),EE (hC.mono ?_)⟩
    rintro e w' ⟨x,O',rfl,hp⟩
    exact hk _ _ _ hp
   .rename_i n fst hfn
    split at h <;> try (cases h;done)
    rename_i g hg
    obtain ⟨⟨fn,hfun,hbody,hname⟩,hcall⟩:=hΓ n g hg
    have hf:=E f
    rw [hfn] at hf
    obtain ⟨cs,hfv,hcs⟩:=hf
    have hargs:=C7 hcs (DZ hT ha c.args.toList)
    have hC:=hcall B M O s.mem off _ r h hn hfit _ w hargs hM hB hfr
    have hrun:(execOp a.eval ⟨dst,.call c,type,pos,after,guard⟩).run P w=.ok (.enter n ⟨cs ++ c.args.toList.map a.eval⟩) w:=by
     have hb:fn.body.isNone=false:=by cases hx:fn.body <;> simp_all
     have harr:(⟨cs⟩:Array Value) ++ c.args.map a.eval=⟨cs ++ c.args.toList.map a.eval⟩:=by
      apply Array.toList_inj.1;simp
     simp only [execOp,resolve,hc,hfv,Deferred.ofValue,Sem.run_bind,Sem.run_pure,Result.andThen_ok,invoke,callFunc,run_program,hfun,hname,Bool.false_eq_true,if_false,hb]
     simp [harr]
    refine ⟨fun _ _=>trivial,?_⟩
    rw [show (FW rd).round=rd from rfl,Dy rd _ _ (by intro c e;cases e),hrun]
    refine ⟨fun h=>(by cases h),EE (hC.mono ?_)⟩
    rintro e w' ⟨x,O',rfl,hp⟩
    exact hk _ _ _ hp
  .rename_i hc
   split at h <;> try (cases h;done)
   rename_i t x ht hx
   obtain ⟨y,hr,hp⟩:=R2 (P:=P) (w:=w) h (E x) type off
   refine A8 (x:=y) ?_ (hk _ _ _ hp)
   have h1:c.argTypes=#[t]:=by apply Array.toList_inj.1;simpa using ht
   have h2:c.args=#[x]:=by apply Array.toList_inj.1;simpa using hx
   simp [execOp,resolve,hc,invoke,builtin,h1,h2,hr]
  .rename_i hc
   split at h <;> try (cases h;done)
   rename_i t t' x y ht hx
   have h1:c.argTypes=#[t,t']:=by apply Array.toList_inj.1;simpa using ht
   have h2:c.args=#[x,y]:=by apply Array.toList_inj.1;simpa using hx
   split at h <;> try (cases h;done)
   .rename_i e' hu'
    split at h
    .rename_i hex
     have hxe:=E x
     rw [hex] at hxe
     obtain ⟨z,w',O',hr,hp⟩:=KW (P:=P) (off:=off) hM ⟨_,hu'⟩ h hn hxe (E y) type
     refine A8 (x:=z) ?_ (hk _ _ _ hp)
     simp [execOp,resolve,hc,invoke,builtin,h1,h2,hr]
    .have hf:O off=none:=by
      have h':=h
      unfold Ie Eb at h'
      repeat' (split at h' <;> try (cases h';done))
      all_goals (cases h';exact hfr 0 (by simp))
     obtain ⟨z,w',O',hr,hp⟩:=Mh (P:=P) hM ⟨_,hu'⟩ h hn hf (E x) (E y) type
     refine A8 (x:=z) ?_ (hk _ _ _ hp)
     simp [execOp,resolve,hc,invoke,builtin,h1,h2,hr]
   .rename_i kn hu'
    have hf:O off=none:=by
     have h':=h
     unfold H9 at h'
     repeat' (split at h' <;> try (cases h';done))
     all_goals (cases h';exact hfr 0 (by simp))
    obtain ⟨z,w',O',hr,hp⟩:=KU (P:=P) (w:=w) hu' h hn (E x) (E y) hf (fun _ _ _=>hM.od_lt) type
    refine A8 (x:=z) ?_ (hk _ _ _ hp)
    simp [execOp,resolve,hc,invoke,builtin,h1,h2,hr]
   .rename_i hu'
    have hf:O off=none:=by
     have h':=h
     unfold H8 Eb at h'
     repeat' (split at h' <;> try (cases h';done))
     all_goals (cases h';exact hfr 0 (by simp))
    obtain ⟨z,w',O',hr,hp⟩:=KT (P:=P) hM hu' h hn hf (E x) (E y) type
    refine A8 (x:=z) ?_ (hk _ _ _ hp)
    simp [execOp,resolve,hc,invoke,builtin,h1,h2,hr]
  .rename_i hc
   split at h <;> try (cases h;done)
   rename_i t x ht hx
   split at h <;> try (cases h;done)
   rename_i e hu' hx0
   cases h
   have h1:c.argTypes=#[t]:=by apply Array.toList_inj.1;simpa using ht
   have h2:c.args=#[x]:=by apply Array.toList_inj.1;simpa using hx
   have hy:=E x
   rw [hx0] at hy
   have hy':a.eval x=.slice none 0 0:=hy
   refine A8 (x:=.int .i64 0) ?_ (hk _ _ _ (A5.pure_ rfl))
   simp [execOp,resolve,hc,invoke,builtin,h1,h2,hy',Builtin.cap_,run_underlying hu',goInt]
  .rename_i hc
   split at h <;> try (cases h;done)
   rename_i t x ht hx
   have h1:c.argTypes=#[t]:=by apply Array.toList_inj.1;simpa using ht
   have h2:c.args=#[x]:=by apply Array.toList_inj.1;simpa using hx
   obtain ⟨y,w',hr,hp⟩:=NA (P:=P) hM h hn (E x) type off
   refine A8 (x:=y) ?_ (hk _ _ _ hp)
   simp [execOp,resolve,hc,invoke,builtin,h1,h2,hr]
  .rename_i hc
   rw [Option.map_eq_some_iff] at h
   obtain ⟨v,hv,rfl⟩:=h
   have hargs:=DZ hT ha c.args.toList
   unfold Sz at hv
   split at hv <;> try (cases hv;done)
   rename_i k p l hl
   rw [hl] at hargs
   cases hxs:c.args.toList.map a.eval with
   | nil=>rw [hxs] at hargs;exact hargs.elim
   | cons x xs =>
    rw [hxs] at hargs
    obtain ⟨y,hr,hd⟩:=Jl (P:=P) (w:=w) QF hv hargs.1 hargs.2
    refine A8 (x:=y) ?_ (hk _ _ _ (A5.pure_ hd))
    have h2:(c.args.map a.eval).toList=x :: xs:=by simpa using hxs
    simp [execOp,resolve,hc,invoke,builtin,Builtin.max_,hxs,hr]
  .rename_i hc
   rw [Option.map_eq_some_iff] at h
   obtain ⟨v,hv,rfl⟩:=h
   have hargs:=DZ hT ha c.args.toList
   unfold Sz at hv
   split at hv <;> try (cases hv;done)
   rename_i k p l hl
   rw [hl] at hargs
   cases hxs:c.args.toList.map a.eval with
   | nil=>rw [hxs] at hargs;exact hargs.elim
   | cons x xs =>
    rw [hxs] at hargs
    obtain ⟨y,hr,hd⟩:=Jl (P:=P) (w:=w) QH hv hargs.1 hargs.2
    refine A8 (x:=y) ?_ (hk _ _ _ (A5.pure_ hd))
    have h2:(c.args.map a.eval).toList=x :: xs:=by simpa using hxs
    simp [execOp,resolve,hc,invoke,builtin,Builtin.min_,hxs,hr]
end runs
end Go.Sy
namespace Go.Sy
open Go.RowKit
variable [AO]
section runs
variable {P:Program} {rd:Option Nat} {n:Nat}
def cnd(b:Bool)(t e:Prop):Prop:=match b with | true=>t | false=>e
theorem DV{b:Bool}{t e:Prop}:cnd b t e↔(b=true->t)/\(b=false->e):=by cases b <;> simp [cnd]
def Ay:List Bool->Prop->Prop
 | [],p=>p
 | b :: l,p=>cnd b (Ay l p) False
theorem Ac:∀ {l:List Bool} {p:Prop},Ay l p↔(∀ b∈l,b=true)/\p
 | [],p=>by simp [Ay]
 | b :: l,p=>by cases b <;> simp [Ay,cnd,Ac (l:=l)]
def SV.top:SV->SV
 | .gd _ _ _=>.any
 | v=>v
def SV.forget(d:Nat):SV->SV
 | .gd t pol v=>if t=d then .any else .gd t pol v
 | v=>v
def A4.put(s:A4)(dst:Option Nat)(v:SV):A4 :=
 match dst with
 | none=>s
 | some d=>{ s with tm:=fun i=>if i=d then v else (s.tm i).forget d }
theorem C9{O:Env}{a:Act}{v:SV}{x:Value}(h:v.den O x):B4 O a v.top x:=by
 cases v <;> first | exact h | trivial
theorem CL{O O':Env}(he:Ext O O'){a:Act}{v:SV}{x:Value}(h:B4 O a v x):B4 O' a v x:=by
 cases v <;> try exact SV.den_mono he _ _ h
 rename_i t pol u
 exact h.imp (fun ⟨h1,h2⟩=>⟨h1,SV.den_mono he _ _ h2⟩) id
theorem D7(a:Act)(dst:Option Nat)(x:Value)(i:Nat)(h:∀ d,dst=some d->d≠i):(a.put dst x).tmps[i]? = a.tmps[i]?:=by
 cases dst with
 | none=>rfl
 | some d =>
  have:=h d rfl
  simp [Act.put,Array.getElem?_setIfInBounds_ne this]
theorem Ar(a:Act)(dst:Option Nat)(x:Value):(a.put dst x).tmps.size=a.tmps.size:=by
 cases dst <;> simp [Act.put]
theorem B0(a:Act)(dst:Option Nat)(x:Value):(a.put dst x).defers=a.defers:=by
 cases dst <;> simp [Act.put]
theorem Jp{O:Env}{a:Act}{d:Nat}{v:SV}{x:Value}(y:Value)(h:B4 O a v x):B4 O (a.put (some d) y) (v.forget d) x:=by
 cases v <;> try exact h
 rename_i t pol u
 simp only [SV.forget]
 by_cases ht:t=d
 .rw [if_pos ht];trivial
 .rw [if_neg ht]
  have:=D7 a (some d) y t (fun _ e=>by cases e;exact fun e=>ht e.symm)
  show ((a.put (some d) y).tmps[t]? = some (.bool pol)/\u.den O x)\/((a.put (some d) y).tmps[t]?≠some (.bool pol)/\x=undef)
  rw [this]
  exact h
theorem Dl.put{O O':Env}{s:A4}{a:Act}(h:Dl O s a)(he:Ext O O'){dst:Option Nat}{v:SV}{x:Value}(hv:∀ d,dst=some d->B4 O' (a.put dst x) v x):Dl O' (s.put dst v) (a.put dst x):=by
 refine ⟨?_,fun i y hy=>?_⟩
 .rw [Ar];cases dst <;> exact h.size
 .cases dst with
  | none=>exact CL he (h.tmp i y hy)
  | some d =>
   simp only [A4.put]
   by_cases hi:i=d
   .rw [if_pos hi]
    subst hi
    have hxy:y=x:=by
     simp only [Act.put,Array.getElem?_setIfInBounds] at hy
     simp only [if_true] at hy
     split at hy <;> simp_all
    rw [hxy]
    exact hv _ rfl
   .rw [if_neg hi]
    rw [D7 a (some d) x i (fun _ e=>by cases e;exact fun e=>hi e.symm)] at hy
    exact Jp x (CL he (h.tmp i y hy))
def HF(tm:Nat->SV):Nat->Nat->Bool->Asm × Bool
 | 0,t,pol=>([(t,pol)],true)
 | n+1,t,pol=>match tm t with
  | .bool b=>([(t,pol)],cond pol b (!b))
  | .gd t' pol' (.bool b)=>((t,pol) :: (HF tm n t' pol').1,(HF tm n t' pol').2&&cond pol b (!b))
  | _=>([(t,pol)],true)
theorem Lx{O:Env}{s:A4}{a:Act}(h:Dl O s a):∀ (n t:Nat) (pol:Bool),a.tmps[t]? = some (.bool pol)->Az (HF s.tm n t pol).1 a/\(HF s.tm n t pol).2=true
 | 0,t,pol,ht=>⟨Az.cons (Az.nil a) ht,rfl⟩
 | n+1,t,pol,ht=>by
  have hd:=h.tmp t _ ht
  simp only [HF]
  split
  .rename_i b hb
   rw [hb] at hd
   have:pol=b:=by injection hd
   subst this
   exact ⟨Az.cons (Az.nil a) ht,by cases pol <;> rfl⟩
  .rename_i t' pol' b hb
   rw [hb] at hd
   rcases hd with ⟨h1,h2⟩ | ⟨_,h2⟩
   .have:pol=b:=by injection h2
    subst this
    obtain ⟨i1,i2⟩:=Lx h n t' pol' h1
    exact ⟨Az.cons i1 ht,by simp only [i2,Bool.true_and];cases pol <;> rfl⟩
   .simp [undef] at h2
  .exact ⟨Az.cons (Az.nil a) ht,rfl⟩
def Bs:List Nat->Bool
 | []=>true
 | n :: l=>!(l.any fun m=>Nat.beq m n)&&Bs l
theorem Pj{us:List (Nat × Blk)}(h:Bs (us.map (·.1))=true):∀ u∈us,∀ u'∈us,u.1=u'.1->u.2=u'.2:=by
 induction us with
 | nil=>intro u hu;simp at hu
 | cons v us ih =>
  simp only [List.map_cons,Bs,aq,Bool.not_eq_true',List.any_eq_false] at h
  have hno:∀ u∈us,u.1≠v.1:=fun u hu e=>h.1 u.1 (List.mem_map_of_mem hu) (by rw [Nat.beq_eq];exact e)
  intro u hu u' hu' e
  rcases List.mem_cons.1 hu with h1 | h1 <;> rcases List.mem_cons.1 hu' with h2 | h2
  .rw [h1,h2]
  .rw [h1] at e;exact absurd e.symm (hno u' h2)
  .rw [h2] at e;exact absurd e (hno u h1)
  .exact ih h.2 u h1 u' h2 e
def Ae.fitsB(r:Ae)(mem:Nat->Blk)(off:Nat):Bool:=(r.upds.all fun u=>(mem u.1).mine&&Nat.blt u.1 off)&&Bs (r.upds.map (·.1))
theorem Ej{r:Ae}{mem:Nat->Blk}{off:Nat}(h:r.fitsB mem off=true):r.fits mem off:=by
 simp only [Ae.fitsB,aq,List.all_eq_true] at h
 exact ⟨fun u hu=>⟨(h.1 u hu).1,by have:=(h.1 u hu).2;simpa [Nat.blt_eq] using this⟩,Pj h.2⟩
structure Ez where
 dst:Option Nat
 v:SV
 news:List Blk
 upds:List (Nat × Blk)
 need:List Bool
def I9:Option Nat->Nat->Bool
 | some d,t=>!(Nat.beq d t)
 | none,_=>true
def Qv(s:A4)(t:Nat):Option (Bool × Bool):=match s.as with
 | some (t',v)=>(match Nat.beq t t'&&Nat.blt t s.nt with
  | true=>(match s.tm t with
   | .bool b=>some (v,cond v b (!b))
   | _=>none)
  | false=>none)
 | none=>none
theorem LU{O:Env}{s:A4}{a:Act}(h:Dl O s a){t:Nat}{v nb:Bool}(hk:Qv s t=some (v,nb))(hn:nb=true):a.tmps[t]? = some (.bool v):=by
 unfold Qv at hk
 split at hk <;> try (cases hk;done)
 split at hk <;> try (cases hk;done)
 rename_i hc
 simp only [aq,Nat.beq_eq] at hc
 have hlt:t<a.tmps.size:=by rw [h.size];simpa [Nat.blt_eq] using hc.2
 split at hk <;> try (cases hk;done)
 rename_i b hb
 cases hk
 have hd:=h.tmp t _ (ak hlt)
 rw [hb] at hd
 have hx:a.tmps[t]=.bool b:=hd
 rw [ak hlt,hx]
 cases v <;> cases b <;> first | rfl | cases hn
def Dn(P:Program)(Γ:Gam)(ops:Array Oper)(s:A4)(off:Nat)(o:Oper):Option Ez :=
 match o.guard with
 | none=>match xOp P Γ s off [] o with
  | some r=>if r.fitsB s.mem off then some ⟨o.dst,r.v.top,r.news,r.upds,r.need⟩ else none
  | none=>none
 | some (j,pol)=>match (ops[j]?).bind (·.dst) with
  | some t=>match Qv s t with
   | some (v,nb)=>(match cond v pol (!pol) with
    | true=>(match xOp P Γ s off [(t,pol)] o with
     | some r=>if r.fitsB s.mem off then some ⟨o.dst,r.v.top,r.news,r.upds,nb :: r.need⟩ else none
     | none=>none)
    | false=>(match I9 o.dst t with
     | true=>some ⟨o.dst,.gd t pol (.bool true),[],[],[nb]⟩
     | false=>none))
   | none=>match xOp P Γ s off (HF s.tm 12 t pol).1 o with
    | some r=>if r.news.all Blk.isUnk&&r.upds.isEmpty&&I9 o.dst t then some ⟨o.dst,.gd t pol r.v.top,r.news,[],r.need.map fun n=>!(HF s.tm 12 t pol).2||n⟩ else none
    | none=>none
  | none=>none
structure PP (O O':Env) (off:Nat) (r:Ez) (a:Act) (w w':World) (x:Value):Prop where
 slot:∀ d,r.dst=some d->B4 O' (a.put r.dst x) r.v x
 post:A5 O O' off { v:=.any,news:=r.news,upds:=r.upds } w w' x
theorem A5.any{O O':Env}{off:Nat}{r:Ae}{w w':World}{x:Value}(h:A5 O O' off r w w' x):A5 O O' off { v:=.any,news:=r.news,upds:=r.upds } w w' x :=
 ⟨trivial,h.ext,h.old,h.os,h.tape,h.output,h.size,h.keep,h.odn,h.upd,h.new,h.newapart⟩
theorem Hb{Γ:Gam}(hΓ:DU P Γ){B:Nat}{M:List Nat}{O:Env}{ops:Array Oper}{s:A4}{a:Act}{w:World}{off:Nat}{o:Oper}{r:Ez}(h:Dn P Γ ops s off o=some r)(hn:∀ b∈r.need,b=true)(hT:Dl O s a)(hM:Ak B M O s.mem w)(hB:B<=w.heap.size)(hfr:∀ j,j<r.news.length->O (off+j)=none){K:Act->World->Prop}{Q:Exit->Act->World->Prop}(hk:∀ x w' O',PP O O' off r a w w' x->K (a.put o.dst x) w') :
  if Region.wanted o (yielded ops a.tmps)=true then o.wpIn (FW rd) n P a w K Q else K (a.put o.dst undef) w:=by
 unfold Dn at h
 split at h
 .rename_i hg
  split at h <;> try (cases h;done)
  rename_i r0 hr
  split at h <;> cases h
  rename_i hf
  have hw:Region.wanted o (yielded ops a.tmps)=true:=by simp [Region.wanted,hg]
  rw [if_pos hw]
  exact Li hΓ hr hn (Ej hf) hT hM hB (Az.nil a) hfr fun x w' O' hp=>hk x w' O' ⟨fun d _=>C9 hp.val,hp.any⟩
 .rename_i j pol hg
  split at h <;> try (cases h;done)
  rename_i t ht
  have hty:yielded ops a.tmps j=match a.tmps[t]? with | some (.bool b)=>some b | _=>none:=by
   unfold yielded
   rw [ht]
   rfl
  split at h
  .rename_i v nb hk0
   split at h
   .rename_i hvp
    split at h <;> try (cases h;done)
    rename_i r0 hr
    split at h <;> cases h
    rename_i hf
    have hb:=LU hT hk0 (hn nb (by simp))
    have hb:a.tmps[t]? = some (.bool pol):=by rw [hb];cases v <;> cases pol <;> first | rfl | cases hvp
    have hw:Region.wanted o (yielded ops a.tmps)=true:=by
     simp [Region.wanted,hg,hty,hb]
    rw [if_pos hw]
    exact Li hΓ hr (fun b hbm=>hn b (List.mem_cons_of_mem _ hbm)) (Ej hf) hT hM hB (Az.cons (Az.nil a) hb) hfr fun x w' O' hp=>hk x w' O' ⟨fun d _=>C9 hp.val,hp.any⟩
   .rename_i hvp
    split at h <;> cases h
    rename_i hdt
    have hdt':∀ d,o.dst=some d->d≠t:=by
     intro d hd e
     subst e
     rw [hd] at hdt
     simp [I9] at hdt
    have hb:=LU hT hk0 (hn nb (by simp))
    have hb:a.tmps[t]?≠some (.bool pol):=by rw [hb];cases v <;> cases pol <;> first | (intro e;cases e;done) | cases hvp
    have hw:¬ (Region.wanted o (yielded ops a.tmps)=true):=by
     simp only [Region.wanted,hg,hty,beq_iff_eq]
     intro e
     apply hb
     split at e
     .rename_i b hb';cases e;exact hb'
     .cases e
    rw [if_neg hw]
    exact hk undef w O ⟨fun d hd=>.inr ⟨by rw [D7 a o.dst undef t hdt'];exact hb,rfl⟩,⟨trivial,Ext.refl _,fun _ _=>rfl,rfl,rfl,rfl,Nat.le_refl _,fun _ _ _=>rfl,⟨fun _ _ _ h=>.inl h,fun _ _ h=>.inl h,rfl⟩,fun u hu=>(by simp at hu),fun j b hj hk=>(by simp at hj),fun j j' b b' m m' _ hj _ hk=>(by simp at hj)⟩⟩
  split at h <;> try (cases h;done)
  rename_i r0 hr
  split at h <;> cases h
  rename_i hc
  simp only [aq,List.isEmpty_iff,List.all_eq_true] at hc
  obtain ⟨⟨hnews,hupds⟩,hdt⟩:=hc
  have hdt':∀ d,o.dst=some d->d≠t:=by
   intro d hd e
   subst e
   rw [hd] at hdt
   simp [I9] at hdt
  by_cases hb:a.tmps[t]? = some (.bool pol)
  .have hw:Region.wanted o (yielded ops a.tmps)=true:=by
    simp [Region.wanted,hg,hty,hb]
   rw [if_pos hw]
   obtain ⟨hasm,hcond⟩:=Lx hT 12 t pol hb
   have hneed:r0.need_ok:=fun b hbm=>by
    have:=hn _ (List.mem_map_of_mem hbm)
    simpa [hcond] using this
   refine Li hΓ hr hneed ⟨fun u hu=>by rw [hupds] at hu;simp at hu,fun u hu=>by rw [hupds] at hu;simp at hu⟩ hT hM hB hasm hfr fun x w' O' hp=>hk x w' O' ⟨fun d hd=>?_,?_⟩
   .refine .inl ⟨?_,?_⟩
    .rw [D7 a o.dst x t hdt'];exact hb
    .have:=hp.val
     cases hv:r0.v <;> rw [hv] at this <;> first | exact this | trivial
   .have:=hp.any
    rw [hupds] at this
    exact this
  .have hw:¬ (Region.wanted o (yielded ops a.tmps)=true):=by
    simp only [Region.wanted,hg,hty,beq_iff_eq]
    intro e
    apply hb
    split at e
    .rename_i b hb';cases e;exact hb'
    .cases e
   rw [if_neg hw]
   exact hk undef w O ⟨fun d hd=>.inr ⟨by rw [D7 a o.dst undef t hdt'];exact hb,rfl⟩,⟨trivial,Ext.refl _,fun _ _=>rfl,rfl,rfl,rfl,Nat.le_refl _,fun _ _ _=>rfl,⟨fun _ _ _ h=>.inl h,fun _ _ h=>.inl h,rfl⟩,fun u hu=>(by simp at hu),fun j b hj hk=>(by rw [hnews b (List.mem_of_getElem? hj)] at hk;cases hk),fun j j' b b' m m' _ hj _ hk=>(by rw [hnews b (List.mem_of_getElem? hj)] at hk;cases hk)⟩⟩
end runs
end Go.Sy
namespace Go.Sy
open Go.RowKit
variable [AO]
section runs
variable {P:Program} {rd:Option Nat} {n:Nat}
theorem Dd{ops:Array Oper}{o:Oper}{rest:List Oper}{a:Act}{w:World}{Q:Exit->Act->World->Prop}(h:if Region.wanted o (yielded ops a.tmps)=true then o.wpIn (FW rd) n P a w (wpListIn (FW rd) n P ops Q rest) Q else wpListIn (FW rd) n P ops Q rest (a.put o.dst undef) w):wpListIn (FW rd) n P ops Q (o :: rest) a w:=by
 unfold wpListIn
 split
 .rename_i hw;rw [if_pos hw] at h;exact h
 .rename_i hw;rw [if_neg hw] at h;exact ⟨fun _ _=>trivial,h⟩
def A4.step(s:A4)(off:Nat)(r:Ez):A4 :=
 {s.put r.dst r.v with mem:=Ae.mem { v:=.any,news:=r.news,upds:=r.upds } s.mem off,nx:=s.nx+r.news.length }
theorem EW{Γ:Gam}{ops:Array Oper}{s:A4}{off:Nat}{o:Oper}{r:Ez}(h:Dn P Γ ops s off o=some r):Ae.fits { v:=.any,news:=r.news,upds:=r.upds } s.mem off/\r.dst=o.dst:=by
 unfold Dn at h
 split at h
 .split at h <;> try (cases h;done)
  split at h <;> cases h
  rename_i hf
  exact ⟨Ej (r:=⟨.any,_,_,[]⟩) hf,rfl⟩
 .split at h <;> try (cases h;done)
  split at h
  .split at h
   .split at h <;> try (cases h;done)
    split at h <;> cases h
    rename_i hf
    exact ⟨Ej (r:=⟨.any,_,_,[]⟩) hf,rfl⟩
   .split at h <;> cases h
    exact ⟨⟨fun u hu=>by simp at hu,fun u hu=>by simp at hu⟩,rfl⟩
  split at h <;> try (cases h;done)
  split at h <;> cases h
  exact ⟨⟨fun u hu=>by simp at hu,fun u hu=>by simp at hu⟩,rfl⟩
theorem Sr(s:A4)(off:Nat)(r:Ez):(s.step off r).na=s.na:=by simp only [A4.step,A4.put];split <;> rfl
theorem Ab.step{B:Nat}{M:List Nat}{w0:BH}{O O':Env}{s:A4}{a:Act}{w w':World}{r:Ez}{x:Value}(h:Ab B M w0 O s a w)(hf:Ae.fits { v:=.any,news:=r.news,upds:=r.upds } s.mem s.nx)(hp:PP O O' s.nx r a w w' x):Ab B M w0 O' (s.step s.nx r) (a.put r.dst x) w':=by
 have hT:=h.tmDen.put hp.post.ext (v:=r.v) (dst:=r.dst) (x:=x) hp.slot
 exact ⟨by rw [B0];exact h.defs.step hp.post hf,hT.size,hT.tmp,fun i hi=>by
   have hi':s.nx+r.news.length<=i:=hi
   rw [hp.post.old i (.inr hi')]
   exact h.fresh i (by omega),hp.post.memDen h.mem hf h.base,hp.post.kept h.mem hf h.kept h.base,by have:=hp.post.size;have:=h.base;omega,h.ext.trans hp.post.ext,h.argn,fun i hi=>by
   rw [hp.post.old i (.inl (by have:=h.nale;omega))];exact h.argl i hi,(Sr s s.nx r).trans h.nab,by show w0.n<=s.nx+r.news.length;have:=h.nale;omega,h.odb.step hp.post.odn h.base,h.mz⟩
structure JY where
 t:Nat
 j:Nat
 v:SV
 ns:List Bool
def sealRow(row:Blk)(c:Nat)(bj:Blk)(z n t j:Nat):Option JY:=match row,bj with
 | .row _ sh' _ _,.row _ sh m d=>(match sh'[c]? with
  | some (.sl shx)=>(match Bp shx sh&&Nat.beq z sh.length with
   | true=>some ⟨t,j,.ro sh n d,[decide (n<=m)]⟩
   | false=>none)
  | _=>none)
 | _,_=>none
def sealAs(s:A4)(t:Nat):Option JY:=match s.tm t with
 | .gr j z n=>(match s.mem j with
  | .row _ sh m d=>(match Nat.beq z sh.length with
   | true=>some ⟨t,j,.ro sh n d,[decide (n<=m)]⟩
   | false=>none)
  | _=>none)
 | .own j z n=>(match s.mem j with
  | .row _ sh m d=>(match Nat.beq z sh.length with
   | true=>some ⟨t,j,.ro sh n d,[decide (n<=m)]⟩
   | false=>none)
  | _=>none)
 | _=>none
def sealAt(f:Bool)(s:A4)(o:Oper):Option JY:=match o.op with
 | .assign (.tmp t)=>(match f&&(Nat.beq s.na 0&&Nat.blt t s.nt) with
  | true=>sealAs s t
  | false=>none)
 | .store _ x (.tmp t)=>(match Nat.beq s.na 0&&Nat.blt t s.nt with
  | true=>(match ev s [] x,s.tm t with
   | .elt i _ _ c,.gr j z n=>(match Nat.beq i j with | true=>none | false=>sealRow (s.mem i) c (s.mem j) z n t j)
   | .elt i _ _ c,.own j z n=>(match Nat.beq i j with | true=>none | false=>sealRow (s.mem i) c (s.mem j) z n t j)
   | _,_=>none)
  | false=>none)
 | _=>none
def Cp(s:A4)(p:JY):A4:={ s with tm:=fun i=>if i=p.t then p.v else s.tm i,mem:=fun i=>if i=p.j then .unk else s.mem i }
open Classical in
theorem Ab.sealRow{B:Nat}{M:List Nat}{w0:BH}{O:Env}{s:A4}{a:Act}{w:World}(h:Ab B M w0 O s a w)(hM:M=[]){j e m n t:Nat}{sh:List Kd}{d:Dat}(hj:s.mem j=.row e sh m d)(hnm:n<=m)(ht:∀ x,a.tmps[t]? = some x->(n=0/\∃ A,x=.slice A 0 0)\/∃ mm,O j=some mm/\mm.off=0/\n<=mm.cap/\x=.slice (some ⟨mm.blk,0,none⟩) n mm.cap)(ns:List Bool):∃ O',Ab B M w0 O' (Cp s ⟨t,j,.ro sh n d,ns⟩) a w:=by
 let S:Nat->Prop:=fun b=>∃ mm,O j=some mm/\mm.blk=b
 let od':Od:=⟨fun b o=>if S b then w.cell? ⟨b,o,none⟩ else O.od b o,O.od.m,O.od.p⟩
 have hE:AB O.od od':=.ofC fun b o y hy=>by
  show (if S b then w.cell? ⟨b,o,none⟩ else O.od b o)=some y
  split
  .exact h.mem.seal_ b o y hy
  .exact hy
 have hX:Ext O ⟨O.nm,od',O.gl.ext hE⟩:=⟨fun _ _ h=>h,hE⟩
 have hjk:(s.mem j).isUnk=false:=by rw [hj];rfl
 have mk:∀ i,((Cp s ⟨t,j,.ro sh n d,ns⟩).mem i).isUnk=false->i≠j/\(Cp s ⟨t,j,.ro sh n d,ns⟩).mem i=s.mem i:=fun i hi=>by
  by_cases e:i=j
  .subst e;simp [Cp,Blk.isUnk] at hi
  .exact ⟨e,by simp [Cp,e]⟩
 have nS:∀ i m',i≠j->(s.mem i).isUnk=false->O i=some m'->¬ S m'.blk:=fun i m' hne hi hm ⟨mm,hmm,e⟩=>h.mem.apart j i mm m' (Ne.symm hne) hjk hi hmm hm e
 refine ⟨⟨O.nm,od',O.gl.ext hE⟩,h.defs.map fun b o hb=>⟨hb.at_,fun i m' hi hm=>?_,fun k=>?_,hb.nom⟩,h.size,fun i x hx=>?_,h.fresh,⟨fun i hi=>?_,fun i i' m1 m2 hne hi hi' h1 h2=>?_,⟨fun b o y hy=>?_,h.mem.seal_.m,fun b i hp=>let ⟨⟨v,hv⟩,g⟩:=h.mem.seal_.p b i hp;⟨⟨v,hE b 0 v hv⟩,g⟩⟩,fun i m' hi hm o=>?_,h.mem.pv⟩,h.kept,h.base,h.ext.trans hX,h.argn,h.argl,h.nab,h.nale,⟨fun b o y hy=>?_,h.odb.m,h.odb.p⟩,h.mz⟩
 .obtain ⟨_,e⟩:=mk i hi
  rw [e] at hi
  exact hb.off i m' hi hm
 .show (if S b then w.cell? ⟨b,k,none⟩ else O.od b k)=none
  rw [if_neg]
  .exact hb.nod k
  .rintro ⟨mm,hmm,e⟩;exact hb.off j mm hjk hmm e
 .have hs:=h.tmp i x hx
  show B4 _ a (if i=t then .ro sh n d else s.tm i) x
  split
  .rename_i e
   subst e
   show (SV.ro sh n d).den _ x
   rcases ht x hx with ⟨rfl,A,rfl⟩ | ⟨mm,hmm,h0,hc,rfl⟩
   .exact ⟨A,0,rfl,⟨Nat.le_refl _,fun _=>rfl⟩,fun h=>absurd h (Nat.lt_irrefl _)⟩
   .refine ⟨_,_,rfl,⟨hc,fun h=>by cases h⟩,fun _=>⟨mm.blk,0,rfl,fun q hq=>?_⟩⟩
    obtain ⟨_,hb,_⟩:=h.mem.get hjk hmm
    rw [hj] at hb
    obtain ⟨_,_,_,hel⟩:=hb
    refine (BN (O:=⟨O.nm,od',O.gl.ext hE⟩)).2 fun c v hv=>?_
    obtain ⟨y,hy,hd⟩:=(hel q (by omega)).2 c v hv
    refine ⟨y,?_,SV.den_mono hX _ _ hd⟩
    show (if S mm.blk then w.cell? ⟨mm.blk,0+q * sh.length+c,none⟩ else O.od mm.blk (0+q * sh.length+c))=some y
    rw [if_pos ⟨mm,hmm,rfl⟩,<- hy,h0,aw,aw]
  .cases hs':s.tm i <;> rw [hs'] at hs <;> first | exact SV.den_mono hX _ _ hs | exact CL hX hs
 .obtain ⟨hne,e⟩:=mk i hi
  rw [e] at hi ⊢
  refine ⟨fun m' hm=>?_,(h.mem.at_ i hi).2⟩
  obtain ⟨g1,g2,g3⟩:=h.mem.get hi hm
  exact ⟨g1,Blk.den_mono g2 hX,g3⟩
 .obtain ⟨_,e⟩:=mk i hi
  obtain ⟨_,e'⟩:=mk i' hi'
  rw [e] at hi
  rw [e'] at hi'
  exact h.mem.apart i i' m1 m2 hne hi hi' h1 h2
 .have hy':(if S b then w.cell? ⟨b,o,none⟩ else O.od b o)=some y:=hy
  split at hy'
  .exact hy'
  .exact h.mem.seal_ b o y hy'
 .obtain ⟨hne,e⟩:=mk i hi
  rw [e] at hi
  show (if S m'.blk then w.cell? ⟨m'.blk,o,none⟩ else O.od m'.blk o)=none
  rw [if_neg (nS i m' hne hi hm)]
  exact h.mem.free i m' hi hm o
 .have hy':(if S b then w.cell? ⟨b,o,none⟩ else O.od b o)=some y:=hy
  split at hy'
  .rename_i hS
   obtain ⟨mm,hmm,rfl⟩:=hS
   rcases (h.mem.get hjk hmm).2.2 with h1 | h1
   .exact .inr h1
   .rw [hM] at h1;cases h1
  .exact h.odb b o y hy'
theorem Ab.sealAs{B:Nat}{M:List Nat}{w0:BH}{O:Env}{s:A4}{a:Act}{w:World}(h:Ab B M w0 O s a w)(h0:s.na=0){t:Nat}{p:JY}(hp:Go.Sy.sealAs s t=some p)(hn:∀ b∈p.ns,b=true):∃ O',Ab B M w0 O' (Cp s p) a w:=by
 have hM:M=[]:=h.mz (by rw [<- h.nab];exact h0)
 unfold Go.Sy.sealAs at hp
 split at hp <;> try (cases hp;done)
 .rename_i j z n ht
  split at hp <;> try (cases hp;done)
  rename_i hj
  split at hp <;> cases hp
  refine h.sealRow hM hj (by simpa using hn) (fun x hx=>?_) _
  have hs:=h.tmp t x hx
  rw [ht] at hs
  exact hs
 .rename_i j z n ht
  split at hp <;> try (cases hp;done)
  rename_i hj
  split at hp <;> cases hp
  refine h.sealRow hM hj (by simpa using hn) (fun x hx=>?_) _
  have hs:=h.tmp t x hx
  rw [ht] at hs
  exact .inr hs
theorem Ab.sealAt{B:Nat}{M:List Nat}{w0:BH}{O:Env}{s:A4}{a:Act}{w:World}(h:Ab B M w0 O s a w){f:Bool}{o:Oper}{p:JY}(hp:sealAt f s o=some p)(hn:∀ b∈p.ns,b=true):∃ O',Ab B M w0 O' (Cp s p) a w:=by
 unfold Go.Sy.sealAt at hp
 split at hp
 .rename_i t hop
  split at hp <;> try (cases hp;done)
  rename_i hc
  simp only [aq,Nat.beq_eq] at hc
  exact h.sealAs hc.2.1 hp hn
 rotate_left
 .cases hp
 rename_i _ _ t hop
 split at hp <;> try (cases hp;done)
 rename_i hc
 simp only [aq,Nat.beq_eq] at hc
 have hM:M=[]:=h.mz (by rw [<- h.nab];exact hc.1)
 have row:∀ {i c j z n:Nat},Go.Sy.sealRow (s.mem i) c (s.mem j) z n t j=some p->(∀ x,a.tmps[t]? = some x->(n=0/\∃ A,x=.slice A 0 0)\/∃ mm,O j=some mm/\mm.off=0/\n<=mm.cap/\x=.slice (some ⟨mm.blk,0,none⟩) n mm.cap)->∃ O',Ab B M w0 O' (Cp s p) a w:=by
  intro i c j z n hr ht
  unfold Go.Sy.sealRow at hr
  split at hr <;> try (cases hr;done)
  rename_i hj
  split at hr <;> try (cases hr;done)
  split at hr <;> cases hr
  exact h.sealRow hM hj (by simpa using hn) ht _
 split at hp <;> try (cases hp;done)
 .rename_i i _ _ c j z n _ ht
  split at hp <;> try (cases hp;done)
  refine row hp fun x hx=>?_
  have hs:=h.tmp t x hx
  rw [ht] at hs
  exact hs
 .rename_i i _ _ c j z n _ ht
  split at hp <;> try (cases hp;done)
  refine row hp fun x hx=>?_
  have hs:=h.tmp t x hx
  rw [ht] at hs
  exact .inr hs
def JN(P:Program)(Γ:Gam)(ops:Array Oper):List Oper->A4->(A4->Prop)->Prop
 | [],s,k=>k s
 | o :: l,s,k=>match sealAt (Γ.c 4).isSome s o with
  | some p=>Ay p.ns (match Dn P Γ ops (Cp s p) s.nx o with
   | some r=>Ay r.need (JN P Γ ops l ((Cp s p).step s.nx r) k)
   | none=>False)
  | none=>match Dn P Γ ops s s.nx o with
   | some r=>Ay r.need (JN P Γ ops l (s.step s.nx r) k)
   | none=>False
theorem JO{Γ:Gam}(hΓ:DU P Γ){B:Nat}{M:List Nat}{w0:BH}{ops:Array Oper}{Q:Exit->Act->World->Prop}{k:A4->Prop}(hk:∀ s O a w,Ab B M w0 O s a w->k s->Q .normal a w) :
  ∀ (l:List Oper) (s:A4) (O:Env) (a:Act) (w:World),Ab B M w0 O s a w->JN P Γ ops l s k->wpListIn (FW rd) n P ops Q l a w
 | [],s,O,a,w,h,hx=>hk s O a w h hx
 | o :: l,s,O,a,w,h,hx=>by
  have go:∀ (s:A4) (O:Env),Ab B M w0 O s a w->(match Dn P Γ ops s s.nx o with
    | some r=>Ay r.need (JN P Γ ops l (s.step s.nx r) k)
    | none=>False)->wpListIn (FW rd) n P ops Q (o :: l) a w:=by
   intro s O h hx
   split at hx <;> try exact hx.elim
   rename_i r hr
   rw [Ac] at hx
   obtain ⟨hn,hx⟩:=hx
   obtain ⟨hf,hd⟩:=EW hr
   apply Dd
   refine Hb hΓ hr hn h.tmDen h.mem h.base (fun j _=>h.fresh _ (by omega)) fun x w' O' hp=>?_
   rw [<- hd]
   exact JO hΓ hk l _ O' _ w' (h.step hf hp) hx
  simp only [JN] at hx
  split at hx
  .rename_i p hp
   rw [Ac] at hx
   obtain ⟨O',h'⟩:=h.sealAt hp hx.1
   exact go (Cp s p) O' h' hx.2
  .exact go s O h hx
def A4.grant(s:A4)(t:Nat)(v:Bool):A4:={ s with as:=some (t,v) }
def A4.ungrant(s:A4):A4:={ s with as:=none }
theorem Ab.grant{B:Nat}{M:List Nat}{w0:BH}{O:Env}{s:A4}{a:Act}{w:World}(h:Ab B M w0 O s a w)(t:Nat)(v:Bool):Ab B M w0 O (s.grant t v) a w :=
 ⟨h.defs,h.size,h.tmp,h.fresh,h.mem,h.kept,h.base,h.ext,h.argn,h.argl,h.nab,h.nale,h.odb,h.mz⟩
theorem Ab.ungrant{B:Nat}{M:List Nat}{w0:BH}{O:Env}{s:A4}{a:Act}{w:World}(h:Ab B M w0 O s a w):Ab B M w0 O s.ungrant a w :=
 ⟨h.defs,h.size,h.tmp,h.fresh,h.mem,h.kept,h.base,h.ext,h.argn,h.argl,h.nab,h.nale,h.odb,h.mz⟩
def TO(ops:Array Oper)(o:Oper):Option Nat:=match o.guard with
 | some (j,_)=>(ops[j]?).bind (·.dst)
 | none=>none
def Lj(P:Program)(Γ:Gam)(ops:Array Oper):List Oper->A4->(A4->Prop)->Prop
 | [],s,k=>k s
 | o :: l,s,k=>match sealAt (Γ.c 4).isSome s o with
  | some p=>Ay p.ns (match Dn P Γ ops (Cp s p) s.nx o with
   | some r=>Ay r.need (Lj P Γ ops l ((Cp s p).step s.nx r) k)
   | none=>False)
  | none=>match Dn P Γ ops s s.nx o with
   | some r=>Ay r.need (Lj P Γ ops l (s.step s.nx r) k)
   | none=>match TO ops o with
    | some t=>(match s.tm t with
     | .bool b=>cnd b (JN P Γ ops (o :: l) (s.grant t true) fun s'=>k s'.ungrant) (JN P Γ ops (o :: l) (s.grant t false) fun s'=>k s'.ungrant)
     | _=>False)
    | none=>False
theorem Ha{Γ:Gam}(hΓ:DU P Γ){B:Nat}{M:List Nat}{w0:BH}{ops:Array Oper}{Q:Exit->Act->World->Prop}{k:A4->Prop}(hk:∀ s O a w,Ab B M w0 O s a w->k s->Q .normal a w) :
  ∀ (l:List Oper) (s:A4) (O:Env) (a:Act) (w:World),Ab B M w0 O s a w->Lj P Γ ops l s k->wpListIn (FW rd) n P ops Q l a w
 | [],s,O,a,w,h,hx=>hk s O a w h hx
 | o :: l,s,O,a,w,h,hx=>by
  have go:∀ (s:A4) (O:Env) {r:Ez},Ab B M w0 O s a w->Dn P Γ ops s s.nx o=some r->Ay r.need (Lj P Γ ops l (s.step s.nx r) k)->wpListIn (FW rd) n P ops Q (o :: l) a w:=by
   intro s O r h hr hx
   rw [Ac] at hx
   obtain ⟨hn,hx⟩:=hx
   obtain ⟨hf,hd⟩:=EW hr
   apply Dd
   refine Hb hΓ hr hn h.tmDen h.mem h.base (fun j _=>h.fresh _ (by omega)) fun x w' O' hp=>?_
   rw [<- hd]
   exact Ha hΓ hk l _ O' _ w' (h.step hf hp) hx
  simp only [Lj] at hx
  split at hx
  .rename_i p hp
   rw [Ac] at hx
   obtain ⟨O',h'⟩:=h.sealAt hp hx.1
   have hx2:=hx.2
   split at hx2 <;> try exact hx2.elim
   rename_i r hr
   exact go (Cp s p) O' h' hr hx2
  .split at hx
   .rename_i r hr
    exact go s O h hr hx
   .split at hx <;> try exact hx.elim
    rename_i t _
    split at hx <;> try exact hx.elim
    rename_i b _
    rw [DV] at hx
    have hk':∀ s O a w,Ab B M w0 O s a w->k s.ungrant->Q .normal a w:=fun s O a w h hx=>hk _ O a w h.ungrant hx
    cases b with
    | true=>exact JO hΓ hk' (o :: l) _ O a w (h.grant t true) (hx.1 rfl)
    | false=>exact JO hΓ hk' (o :: l) _ O a w (h.grant t false) (hx.2 rfl)
theorem Ab.drew{B:Nat}{M:List Nat}{w0:BH}{O:Env}{s:A4}{a:Act}{w:World}(h:Ab B M w0 O s a w):Ab B M w0 O s a { w with drawn:=w.drawn+1 } :=
 ⟨h.defs.same rfl,h.size,h.tmp,h.fresh,⟨fun i hi=>⟨fun m hm=>let ⟨h2,h3,h4⟩:=h.mem.get hi hm;⟨h2,Blk.den_same h3 rfl,h4⟩,(h.mem.at_ i hi).2⟩,h.mem.apart,⟨h.mem.seal_.c,h.mem.seal_.m,h.mem.seal_.p⟩,h.mem.free,Gs.keep h.mem.pv O.gl (fun _ _ _ _=>rfl) (fun _ _ _=>rfl)⟩,⟨h.kept.os,h.kept.tape,h.kept.output,h.kept.size,h.kept.block⟩,h.base,h.ext,h.argn,h.argl,h.nab,h.nale,h.odb,h.mz⟩
end runs
end Go.Sy
namespace Go.Sy
open Go.RowKit
variable [AO]
section runs
variable {P:Program}
def Nl(T:List Nat)(l:List Edge):Nat:=l.foldl (fun m e=>if Region.binds .any e then m ||| 2 ^ e.on ||| T.getD e.on 0 else m) 0
def BS:List Oper->List Nat->List Nat
 | [],acc=>acc
 | o :: l,acc=>BS l (acc ++ [Nl acc o.after.toList])
def bit(T:List Nat)(i j:Nat):Bool:=(T.getD i 0).testBit j
def Cm(T:List Nat):Nat->List Oper->Bool
 | _,[]=>true
 | i,o :: l=>Nat.beq (T.getD i 0) (Nl T o.after.toList)&&o.after.toList.all (fun e=>!Region.binds .any e||Nat.blt e.on i)&&Cm T (i+1) l
theorem D1{T:List Nat}:∀ {l:List Oper} {i0:Nat},Cm T i0 l=true->∀ {j:Nat} {o:Oper},l[j]? = some o->T.getD (i0+j) 0=Nl T o.after.toList/\∀ e∈o.after.toList,Region.binds .any e=true->e.on<i0+j
 | [],_,_,j,o,hj=>by simp at hj
 | p :: l,i0,h,j,o,hj=>by
  simp only [Cm,aq,List.all_eq_true,Bool.or_eq_true,Bool.not_eq_true'] at h
  cases j with
  | zero =>
   simp at hj;subst hj
   refine ⟨by have:=h.1.1;rw [Nat.beq_eq] at this;exact this,fun e he hb=>?_⟩
   rcases h.1.2 e he with h1 | h1
   .rw [hb] at h1;cases h1
   .simpa [Nat.blt_eq] using h1
  | succ j =>
   have:=D1 h.2 (j:=j) (o:=o) (by simpa using hj)
   rw [show i0+(j+1)=i0+1+j by omega]
   exact this
theorem J5{T:List Nat}:∀ (l:List Edge) (m:Nat) (j:Nat),(l.foldl (fun m e=>if Region.binds .any e then m ||| 2 ^ e.on ||| T.getD e.on 0 else m) m).testBit j=true ->
  m.testBit j=true\/∃ e∈l,Region.binds .any e=true/\(e.on=j\/(T.getD e.on 0).testBit j=true)
 | [],m,j,h=>.inl h
 | e :: l,m,j,h=>by
  rw [List.foldl_cons] at h
  rcases J5 l _ j h with h1 | ⟨e',he',hb,hc⟩
  .by_cases hb:Region.binds .any e=true
   .rw [if_pos hb] at h1
    simp only [Nat.testBit_or,Bool.or_eq_true,Nat.testBit_two_pow,decide_eq_true_eq] at h1
    rcases h1 with (h1 | h1) | h1
    .exact .inl h1
    .exact .inr ⟨e,by simp,hb,.inl h1⟩
    .exact .inr ⟨e,by simp,hb,.inr h1⟩
   .rw [if_neg hb] at h1;exact .inl h1
  .exact .inr ⟨e',by simp [he'],hb,hc⟩
theorem ED{T:List Nat}{ops:List Oper}(hT:Cm T 0 ops=true){D:Nat->Bool}(hcl:∀ j o,D j=true->ops[j]? = some o->∀ e∈o.after.toList,Region.binds .any e=true->D e.on=true) :
  ∀ (i:Nat) (o:Oper),ops[i]? = some o->(∀ e∈o.after.toList,Region.binds .any e=true->D e.on=true)->∀ j,bit T i j=true->D j=true/\j<i:=by
 intro i
 induction i using Nat.strongRecOn with
 | _ i ih =>
  intro o ho hpre j hb
  obtain ⟨h1,h2⟩:=D1 hT ho
  simp only [aw] at h1 h2
  unfold bit at hb
  rw [h1] at hb
  rcases J5 o.after.toList 0 j hb with h | ⟨e,he,hbd,h⟩
  .simp at h
  .have hlt:=h2 e he hbd
   rcases h with rfl | h
   .exact ⟨hpre e he hbd,hlt⟩
   .have hl:i<ops.length:=(az.1 ho).1
    have hoe:ops[e.on]? = some (ops[e.on]'(by omega)):=aj _
    obtain ⟨g1,g2⟩:=ih e.on hlt _ hoe (hcl e.on _ (hpre e he hbd) hoe) j h
    exact ⟨g1,by omega⟩
def Qd:Option Nat->Nat->Bool
 | some d,t=>Nat.beq d t
 | none,_=>false
theorem K2{d:Option Nat}{t:Nat}:Qd d t=true↔d=some t:=by
 cases d <;> simp [Qd]
def F2:List Oper->Nat->Nat->Option Nat
 | [],_,_=>none
 | o :: l,i,t=>if Qd o.dst t then some i else F2 l (i+1) t
theorem FT:∀ {l:List Oper} {i t j:Nat},F2 l i t=some j->∃ q o,j=i+q/\l[q]? = some o/\o.dst=some t
 | [],_,_,_,h=>by simp [F2] at h
 | o :: l,i,t,j,h=>by
  simp only [F2] at h
  split at h
  .rename_i hd;cases h;exact ⟨0,o,by omega,rfl,K2.1 hd⟩
  .obtain ⟨q,o',h1,h2,h3⟩:=FT h
   exact ⟨q+1,o',by omega,by simpa using h2,h3⟩
theorem FS:∀ {l:List Oper} {i t:Nat},F2 l i t=none->∀ o∈l,o.dst≠some t
 | [],_,_,_,o,ho=>by simp at ho
 | p :: l,i,t,h,o,ho=>by
  simp only [F2] at h
  split at h
  .cases h
  .rename_i hd
   rcases List.mem_cons.1 ho with rfl | ho
   .exact fun e=>hd (K2.2 e)
   .exact FS h o ho
def D9:List Oper->Bool
 | []=>true
 | o :: l=>(match o.dst with | some d=>(F2 l 0 d).isNone | none=>true)&&D9 l
theorem Fa:∀ {l:List Oper},D9 l=true->∀ {i j:Nat} {p q:Oper} {t:Nat},l[i]? = some p->l[j]? = some q->p.dst=some t->q.dst=some t->i=j
 | [],_,i,_,_,_,_,hi,_,_,_=>by simp at hi
 | o :: l,h,i,j,p,q,t,hi,hj,hp,hq=>by
  simp only [D9,aq] at h
  have hno:∀ x∈l,o.dst=some t->x.dst≠some t:=fun x hx ho=>by
   have h1:=h.1
   rw [ho] at h1
   simp only [Option.isNone_iff_eq_none] at h1
   exact FS h1 x hx
  cases i with
  | zero =>
   simp at hi;subst hi
   cases j with
   | zero=>rfl
   | succ j=>exact absurd hq (hno q (List.mem_of_getElem? (by simpa using hj)) hp)
  | succ i =>
   cases j with
   | zero=>simp at hj;subst hj;exact absurd hp (hno p (List.mem_of_getElem? (by simpa using hi)) hq)
   | succ j=>exact congrArg (·+1) (Fa h.2 (by simpa using hi) (by simpa using hj) hp hq)
abbrev CD:=List (Nat × Ez)
def Ba:CD->Nat->Nat->Option (Nat × Blk)
 | [],_,_=>none
 | (off,r) :: l,i,q=>if Nat.ble off q&&Nat.blt q (off+r.news.length) then some (i,r.news.getD (q - off) .unk) else Ba l (i+1) q
def BO:List (Nat × Blk)->Nat->Option Blk
 | [],_=>none
 | u :: l,q=>if Nat.beq u.1 q then some u.2 else BO l q
theorem CI:∀ {l:List (Nat × Blk)} {q:Nat} {b:Blk},BO l q=some b->(q,b)∈l
 | [],_,_,h=>by simp [BO] at h
 | u :: l,q,b,h=>by
  simp only [BO] at h
  split at h
  .rename_i e;cases h;rw [Nat.beq_eq] at e;subst e;simp
  .exact List.mem_cons_of_mem _ (CI h)
theorem GX:∀ {l:List (Nat × Blk)} {q:Nat},BO l q=none->∀ u∈l,u.1≠q
 | [],_,_,u,hu=>by simp at hu
 | v :: l,q,h,u,hu=>by
  simp only [BO] at h
  split at h
  .cases h
  .rename_i e
   rcases List.mem_cons.1 hu with rfl | hu
   .exact fun e'=>e (by rw [Nat.beq_eq];exact e')
   .exact GX h u hu
theorem EP:∀ {l:CD} {i q j:Nat} {b:Blk},Ba l i q=some (j,b)->∃ k off r,j=i+k/\l[k]? = some (off,r)/\off<=q/\q<off+r.news.length/\r.news[q - off]? = some b
 | [],_,_,_,_,h=>by simp [Ba] at h
 | (off,r) :: l,i,q,j,b,h=>by
  simp only [Ba] at h
  split at h
  .rename_i hc
   cases h
   simp only [aq,Nat.ble_eq,Nat.blt_eq] at hc
   have hl:q - off<r.news.length:=by omega
   refine ⟨0,off,r,by omega,rfl,hc.1,hc.2,?_⟩
   rw [List.getD_eq_getElem?_getD,aj hl]
   rfl
  .obtain ⟨k,off',r',h1,h2,h3,h4,h5⟩:=EP h
   exact ⟨k+1,off',r',by omega,by simpa using h2,h3,h4,h5⟩
end runs
end Go.Sy
namespace Go.Sy
open Go.RowKit
variable [AO]
section runs
variable {P:Program}
def Blk.weak:Blk->Blk
 | .cells e l=>.cells e (l.map fun _=>.any)
 | _=>.unk
def EC(ops:List Oper)(s:A4)(t:Nat):SV :=
 match s.tm t with
 | .gd t' pol v=>if (F2 ops 0 t').isSome then .any else .gd t' pol v
 | v=>v
def Hw(rs:CD)(j:Nat):SV:=match rs[j]? with | some r=>r.2.v | none=>.any
def Ro(ops:List Oper)(T:List Nat)(s:A4)(rs:CD)(i t:Nat):SV :=
 match F2 ops 0 t with
 | none=>EC ops s t
 | some j=>if bit T i j then Hw rs j else if bit T j i then EC ops s t else .any
def Be(D:Nat->Bool):CD->Nat->Nat->Option Blk
 | [],_,_=>none
 | (_,r) :: l,i,q=>match Be D l (i+1) q with
  | some b=>some b
  | none=>match BO r.upds q with
   | some b=>(match D i with | true=>some b | false=>none)
   | none=>none
abbrev Gr:=List (Nat × Nat)
def EN:Gr->Nat->List Nat
 | [],_=>[]
 | u :: l,q=>match Nat.beq u.1 q with
  | true=>u.2 :: EN l q
  | false=>EN l q
def SK(T:List Nat)(U:Gr)(i q:Nat):Bool:=(EN U q).all fun k=>Nat.beq k i||(bit T i k||bit T k i)
def Su(T:List Nat)(U:Gr)(rs:CD)(i q:Nat)(b0:Blk):Blk :=
 match SK T U i q with
 | true=>(Be (bit T i) rs 0 q).getD b0
 | false=>b0.weak
def JA(T:List Nat)(s:A4)(U:Gr)(rs:CD)(i q:Nat):Blk :=
 if q<s.nx then Su T U rs i q (s.mem q) else match Ba rs 0 q with
  | none=>.unk
  | some (j,b0)=>if bit T i j then Su T U rs i q b0 else .unk
def ML(ops:List Oper)(T:List Nat)(s:A4)(U:Gr)(rs:CD)(i:Nat):A4:={ na:=s.na,nt:=s.nt,tm:=Ro ops T s rs i,nx:=s.nx,mem:=JA T s U rs i,as:=s.as }
def KC(ops:List Oper)(s:A4)(rs:CD)(D:Nat->Bool)(t:Nat):SV :=
 match F2 ops 0 t with
 | none=>EC ops s t
 | some j=>if D j then Hw rs j else EC ops s t
def Bc(s:A4)(rs:CD)(D:Nat->Bool)(q:Nat):Blk :=
 if q<s.nx then (Be D rs 0 q).getD (s.mem q) else match Ba rs 0 q with
  | none=>.unk
  | some (j,b0)=>if D j then (Be D rs 0 q).getD b0 else .unk
theorem D3{D:Nat->Bool}:∀ {l:CD} {i q:Nat} {b:Blk},Be D l i q=some b->∃ k off r,l[k]? = some (off,r)/\D (i+k)=true/\BO r.upds q=some b
 | [],_,_,_,h=>by simp [Be] at h
 | (off,r) :: l,i,q,b,h=>by
  simp only [Be] at h
  split at h
  .rename_i b' hb
   cases h
   obtain ⟨k,off',r',h1,h2,h3⟩:=D3 hb
   exact ⟨k+1,off',r',by simpa using h1,by rwa [show i+(k+1)=i+1+k by omega],h3⟩
  .split at h <;> try (cases h;done)
   rename_i b' hb
   split at h <;> cases h
   rename_i hD
   exact ⟨0,off,r,rfl,hD,hb⟩
theorem E6{D D':Nat->Bool}{q:Nat}:∀ {l:CD} {i:Nat},(∀ k off r b,l[k]? = some (off,r)->BO r.upds q=some b->D (i+k)=D' (i+k))->Be D l i q=Be D' l i q
 | [],_,_=>rfl
 | (off,r) :: l,i,h=>by
  simp only [Be]
  rw [E6 (D:=D) (D':=D') (l:=l) (i:=i+1) fun k off r b hk hb=>by have:=h (k+1) off r b (by simpa using hk) hb;rwa [show i+(k+1)=i+1+k by omega] at this]
  cases hb:BO r.upds q with
  | none=>rfl
  | some b=>have:=h 0 off r b rfl hb;rw [Nat.add_zero] at this;simp only [this]
theorem Jw{D:Nat->Bool}{q:Nat}:∀ {l:CD} {n i:Nat},(∀ k,i+n<=k->D k=false)->Be D (l.take n) i q=Be D l i q
 | [],n,_,_=>by simp
 | (off,r) :: l,0,i,h=>by
  cases hu:Be D ((off,r) :: l) i q with
  | none=>rfl
  | some b =>
   obtain ⟨k,_,_,_,h2,_⟩:=D3 hu
   rw [h (i+k) (by omega)] at h2;cases h2
 | (off,r) :: l,n+1,i,h=>by
  simp only [List.take_succ_cons,Be]
  rw [Jw (l:=l) (n:=n) (i:=i+1) fun k hk=>h k (by omega)]
theorem Jv{D:Nat->Bool}{q:Nat}{b:Blk}:∀ {l:CD} {i k off:Nat} {r:Ez},l[k]? = some (off,r)->BO r.upds q=some b->D (i+k)=true->(∀ k' off' r' b',k<k'->l[k']? = some (off',r')->BO r'.upds q=some b'->D (i+k')=false)->Be D l i q=some b
 | [],_,_,_,_,h,_,_,_=>by simp at h
 | (off0,r0) :: l,i,k,off,r,hk,hb,hD,hno=>by
  simp only [Be]
  cases k with
  | zero =>
   simp at hk
   obtain ⟨rfl,rfl⟩:=hk
   have:Be D l (i+1) q=none:=by
    cases hu:Be D l (i+1) q with
    | none=>rfl
    | some b' =>
     obtain ⟨k',off',r',h1,h2,h3⟩:=D3 hu
     have:=hno (k'+1) off' r' b' (by omega) (by simpa using h1) h3
     rw [show i+(k'+1)=i+1+k' by omega,h2] at this;cases this
   rw [this,hb]
   rw [Nat.add_zero] at hD
   simp only [hD]
  | succ k =>
   rw [Jv (l:=l) (i:=i+1) (k:=k) (by simpa using hk) hb (by rwa [show i+1+k=i+(k+1) by omega]) fun k' off' r' b' hlt h1 h2=>by
    have:=hno (k'+1) off' r' b' (by omega) (by simpa using h1) h2;rwa [show i+(k'+1)=i+1+k' by omega] at this]
def JW(b b0:Blk):Prop:=b=.unk\/b=b0\/b=b0.weak
theorem MN{b b0:Blk}(h:JW b b0)(hb:b.isUnk=false):b0.isUnk=false:=by
 rcases h with rfl | rfl | rfl
 .cases hb
 .exact hb
 .cases b0 <;> simp_all [Blk.weak,Blk.isUnk]
theorem Rp{O:Env}{w:World}{m:Nm}{b:Blk}(h:b.den O w m):b.weak.den O w m:=by
 cases b <;> try trivial
 obtain ⟨h0,c,hc,hd⟩:=h
 refine ⟨h0,c,hc,Cv (by rw [Ax hd];simp) fun i v x hv _=>?_⟩
 rw [List.getElem?_map] at hv
 cases hl:(‹List SV›)[i]? <;> rw [hl] at hv <;> simp at hv
 subst hv;trivial
theorem PI{b:Blk}(h:b.weak.mine=true):b.mine=true:=by cases b <;> first | exact h | rfl
theorem JD{b:Blk}(h:b.weak.isUnk=false):b.isUnk=false/\¬ b.ghost:=by cases b <;> first | exact ⟨h,id⟩ | cases h
theorem Ak.weaken{B:Nat}{M:List Nat}{O:Env}{mem mem':Nat->Blk}{w:World}(h:Ak B M O mem w)(hw:∀ q,JW (mem' q) (mem q)):Ak B M O mem' w:=by
 have known:∀ q,(mem' q).isUnk=false->(mem q).isUnk=false/\((mem q).ghost->(mem' q).ghost)/\(∀ m,(mem q).den O w m->(mem' q).den O w m):=by
  intro q hq
  rcases hw q with e | e | e
  .rw [e] at hq;cases hq
  .rw [e];rw [e] at hq;exact ⟨hq,id,fun _ h=>h⟩
  .rw [e];rw [e] at hq;exact ⟨(JD hq).1,fun h=>((JD hq).2 h).elim,fun _ h=>Rp h⟩
 refine ⟨fun i hi=>?_,fun i j m m' hne hi hj=>?_,h.seal_,fun i m hi=>h.free i m (known i hi).1,h.pv⟩
 .obtain ⟨h1,h2,h3⟩:=known i hi
  exact ⟨fun m hm=>let ⟨g2,g3,g4⟩:=h.get h1 hm;⟨g2,h3 m g3,g4⟩,fun hn=>h2 ((h.at_ i h1).2 hn)⟩
 .exact h.apart i j m m' hne (known i hi).1 (known j hj).1
def Dp(P:Program)(Γ:Gam)(opsA:Array Oper)(ops:List Oper)(T:List Nat)(s:A4)(U:Gr):List Oper->CD->Nat->Option (CD × Nat)
 | [],rs,off=>some (rs,off)
 | o :: l,rs,off=>match Dn P Γ opsA (ML ops T s U rs rs.length) off o with
  | some r=>Dp P Γ opsA ops T s U l (rs ++ [(off,r)]) (off+r.news.length)
  | none=>none
structure Ks (P:Program) (Γ:Gam) (opsA:Array Oper) (ops:List Oper) (T:List Nat) (s:A4) (U:Gr) (rs:CD) (n:Nat) (off:Nat):Prop where
 len:rs.length=n
 at_:∀ (i:Nat) (p:Nat × Ez),rs[i]? = some p->∃ o,ops[i]? = some o/\Dn P Γ opsA (ML ops T s U (rs.take i) i) p.1 o=some p.2
 offs:∀ (i:Nat) (p:Nat × Ez),rs[i]? = some p->s.nx<=p.1/\p.1+p.2.news.length<=off/\∀ (j:Nat) (q:Nat × Ez),j<i->rs[j]? = some q->q.1+q.2.news.length<=p.1
 off:s.nx<=off
theorem IF{Γ:Gam}{opsA:Array Oper}{ops:List Oper}{T:List Nat}{s:A4}{U:Gr}:∀ (l:List Oper) (rs:CD) (off:Nat) (out:CD) (offE:Nat),(∀ j,l[j]? = ops[rs.length+j]?)->Ks P Γ opsA ops T s U rs rs.length off->Dp P Γ opsA ops T s U l rs off=some (out,offE) ->
  Ks P Γ opsA ops T s U out (rs.length+l.length) offE
 | [],rs,off,out,offE,_,hr,h=>by simp only [Dp,Option.some.injEq,Prod.mk.injEq] at h;obtain ⟨rfl,rfl⟩:=h;exact hr
 | o :: l,rs,off,out,offE,hl,hr,h=>by
  simp only [Dp] at h
  split at h <;> try (cases h;done)
  rename_i r hx
  have ho:ops[rs.length]? = some o:=by simpa using (hl 0).symm
  have hr':Ks P Γ opsA ops T s U (rs ++ [(off,r)]) (rs ++ [(off,r)]).length (off+r.news.length):=by
   refine ⟨rfl,fun i p hp=>?_,fun i p hp=>?_,by have:=hr.off;omega⟩
   .rw [List.getElem?_append] at hp
    split at hp
    .rename_i hi
     obtain ⟨o',h1,h2⟩:=hr.at_ i p hp
     exact ⟨o',h1,by rw [List.take_append_of_le_length (by omega)];exact h2⟩
    .rename_i hi
     have hi':i=rs.length:=by
      have:=(az.1 hp).1
      simp at this;omega
     subst hi'
     simp at hp;subst hp
     exact ⟨o,ho,by simpa using hx⟩
   .rw [List.getElem?_append] at hp
    split at hp
    .rename_i hi
     obtain ⟨g1,g2,g3⟩:=hr.offs i p hp
     refine ⟨g1,by omega,fun j q hj hq=>?_⟩
     rw [List.getElem?_append_left (by omega)] at hq
     exact g3 j q hj hq
    .rename_i hi
     have hi':i=rs.length:=by
      have:=(az.1 hp).1
      simp at this;omega
     subst hi'
     simp at hp;subst hp
     refine ⟨hr.off,Nat.le_refl _,fun j q hj hq=>?_⟩
     rw [List.getElem?_append_left hj] at hq
     exact (hr.offs j q hq).2.1
  have:=IF l _ _ out offE (fun j=>by have:=hl (j+1);simpa [Nat.add_assoc,Nat.add_comm 1 j] using this) hr' h
  simpa [Nat.add_assoc,Nat.add_comm 1] using this
def Blk.likeB:Blk->Blk->Bool
 | .cells e l,.cells e' l'=>Nat.beq e e'&&Nat.beq l.length l'.length
 | .row _ _ _ _,.row _ _ _ _=>true
 | .row _ _ _ _,.unk=>true
 | _,_=>false
def Da(T:List Nat):Nat->List Oper->Bool
 | _,[]=>true
 | i,o :: l=>(match o.guard with | some (g,_)=>bit T i g | none=>true)&&Da T (i+1) l
def FB(T:List Nat)(s:A4)(U:Gr)(rs:CD):Nat->CD->Bool
 | _,[]=>true
 | i,(_,r) :: l=>(r.upds.all fun u=>(match Nat.blt u.1 s.nx with
   | true=>(s.mem u.1).likeB u.2
   | false=>(match Ba rs 0 u.1 with | some (j,b0)=>bit T i j&&b0.likeB u.2 | none=>false))&&((EN U u.1).any (Nat.beq i)&&(EN U u.1).all fun k=>Nat.beq k i||(match Nat.blt k i with | true=>bit T i k | false=>bit T k i)))&&FB T s U rs (i+1) l
theorem HK{T:List Nat}:∀ {l:List Oper} {i0:Nat},Da T i0 l=true->∀ {j:Nat} {o:Oper} {g:Nat} {pol:Bool},l[j]? = some o->o.guard=some (g,pol)->bit T (i0+j) g=true
 | [],_,_,j,o,_,_,hj,_=>by simp at hj
 | p :: l,i0,h,j,o,g,pol,hj,hg=>by
  simp only [Da,aq] at h
  cases j with
  | zero=>simp at hj;subst hj;have:=h.1;rw [hg] at this;simpa using this
  | succ j=>have:=HK h.2 (j:=j) (by simpa using hj) hg;rwa [show i0+(j+1)=i0+1+j by omega]
theorem Hy{T:List Nat}{s:A4}{U:Gr}{rs:CD}:∀ {l:CD} {i0:Nat},FB T s U rs i0 l=true->∀ {j off:Nat} {r:Ez},l[j]? = some (off,r)->∀ u∈r.upds,
  ((u.1<s.nx/\(s.mem u.1).likeB u.2=true)\/(¬ u.1<s.nx/\∃ q b0,Ba rs 0 u.1=some (q,b0)/\bit T (i0+j) q=true/\b0.likeB u.2=true))/\(i0+j)∈EN U u.1/\∀ k∈EN U u.1,k≠i0+j->(k<i0+j->bit T (i0+j) k=true)/\(i0+j<k->bit T k (i0+j)=true)
 | [],_,_,j,_,_,hj=>by simp at hj
 | (off',r') :: l,i0,h,j,off,r,hj=>by
  simp only [FB,aq,List.all_eq_true] at h
  cases j with
  | zero =>
   simp at hj
   obtain ⟨rfl,rfl⟩:=hj
   intro u hu
   obtain ⟨h1,h2,h3⟩:=h.1 u hu
   refine ⟨?_,?_,fun k hk hne=>?_⟩
   .split at h1
    .rename_i hlt
     exact .inl ⟨by simpa [Nat.blt_eq] using hlt,h1⟩
    .rename_i hlt
     refine .inr ⟨fun hl=>?_,?_⟩
     .have:Nat.blt u.1 s.nx=true:=by simpa [Nat.blt_eq] using hl
      rw [this] at hlt;cases hlt
     .split at h1
      .rename_i q b0 hq;rw [aq] at h1;exact ⟨q,b0,hq,h1.1,h1.2⟩
      .cases h1
   .rw [List.any_eq_true] at h2
    obtain ⟨k,hk,he⟩:=h2
    rw [Nat.beq_eq] at he
    rw [Nat.add_zero,he];exact hk
   .have h4:=h3 k hk
    rw [Bool.or_eq_true,Nat.beq_eq] at h4
    rcases h4 with h4 | h4
    .exact absurd h4 hne
    .split at h4
     .rename_i hlt
      have hlt':k<i0:=by simpa [Nat.blt_eq] using hlt
      exact ⟨fun _=>h4,fun hh=>by omega⟩
     .rename_i hlt
      refine ⟨fun hh=>?_,fun _=>h4⟩
      have:Nat.blt k i0=true:=by simpa [Nat.blt_eq] using hh
      rw [this] at hlt;cases hlt
  | succ j=>rw [show i0+(j+1)=i0+1+j by omega];exact Hy h.2 (by simpa using hj)
end runs
end Go.Sy
namespace Go.Sy
open Go.RowKit
variable [AO]
section runs
variable {P:Program} {rd:Option Nat} {n:Nat}
theorem Rv{Γ:Gam}{ops:Array Oper}{s:A4}{off:Nat}{o:Oper}{r:Ez}(h:Dn P Γ ops s off o=some r){t:Nat}{pol:Bool}{u:SV}(hv:r.v=.gd t pol u):∃ g,o.guard=some (g,pol)/\(ops[g]?).bind (·.dst)=some t:=by
 unfold Dn at h
 split at h
 .split at h <;> try (cases h;done)
  rename_i r0 _
  split at h <;> cases h
  exfalso
  simp only at hv
  cases hr:r0.v <;> rw [hr] at hv <;> simp [SV.top] at hv
 .rename_i j pol' hg
  split at h <;> try (cases h;done)
  rename_i t' ht
  split at h
  .split at h
   .split at h <;> try (cases h;done)
    rename_i r0 _
    split at h <;> cases h
    exfalso
    simp only at hv
    cases hr:r0.v <;> rw [hr] at hv <;> simp [SV.top] at hv
   .split at h <;> cases h
    cases hv
    exact ⟨j,hg,ht⟩
  split at h <;> try (cases h;done)
  split at h <;> cases h
  cases hv
  exact ⟨j,hg,ht⟩
theorem Md{a:Act}{t:Nat}{x y:Value}(h:(a.put (some t) x).tmps[t]? = some y):y=x:=by
 simp only [Act.put,Array.getElem?_setIfInBounds] at h
 simp only [if_true] at h
 split at h
 .cases h;rfl
 .cases h
theorem J2{a b:Blk}(h:a.likeB b=true):a.weak=b.weak:=by
 cases a <;> cases b <;> simp only [Blk.likeB] at h <;> try (first | rfl | (cases h;done))
 rename_i e l e' l'
 rw [aq,Nat.beq_eq,Nat.beq_eq] at h
 obtain ⟨rfl,hl⟩:=h
 simp only [Blk.weak]
 congr 1
 apply List.ext_getElem (by simpa using hl)
 intro i h1 h2
 simp
theorem H1:∀ {rs:CD} {i i0 q j:Nat} {b:Blk},Ba (rs.take i) i0 q=some (j,b)->Ba rs i0 q=some (j,b)/\j<i0+i
 | [],i,_,_,_,_,h=>by simp [Ba] at h
 | (off,r) :: rs,0,_,_,_,_,h=>by simp [Ba] at h
 | (off,r) :: rs,i+1,i0,q,j,b,h=>by
  simp only [List.take_succ_cons,Ba] at h ⊢
  split at h
  .rename_i hc
   cases h
   rw [if_pos hc]
   exact ⟨rfl,by omega⟩
  .rename_i hc
   rw [if_neg hc]
   obtain ⟨h1,h2⟩:=H1 h
   exact ⟨h1,by omega⟩
structure Dz (P:Program) (Γ:Gam) (opsA:Array Oper) (T:List Nat) (s:A4) (U:Gr) (rs:CD) (off:Nat):Prop where
 table:Cm T 0 opsA.toList=true
 once:D9 opsA.toList=true
 guards:Da T 0 opsA.toList=true
 upds:FB T s U rs 0 rs=true
 runs:Ks P Γ opsA opsA.toList T s U rs opsA.toList.length off
 need:∀ p∈rs,∀ b∈p.2.need,b=true
structure DJ (B:Nat) (M:List Nat) (w0:BH) (opsA:Array Oper) (s:A4) (rs:CD) (D:Nat->Bool) (O:Env) (a:Act) (w:World):Prop where
 defs:EB B w0.ob w0.df O (Bc s rs D) w a.defers
 size:a.tmps.size=s.nt
 tmp:∀ t x,a.tmps[t]? = some x->B4 O a (KC opsA.toList s rs D t) x
 fresh:∀ q,s.nx<=q->(∀ j p,rs[j]? = some p->D j=true->¬ (p.1<=q/\q<p.1+p.2.news.length))->O q=none
 mem:Ak B M O (Bc s rs D) w
 kept:AR B M w0.w w
 base:B<=w.heap.size
 ext:Ext w0.O O
 argn:∀ i,w0.n<=i->w0.O i=none
 argl:∀ i,i<w0.n->O i=w0.O i
 nab:s.na=w0.n
 nale:w0.n<=s.nx
 odb:OdB w0.O.od O.od B
 mz:w0.n=0->M=[]
 closed:∀ j o,D j=true->opsA.toList[j]? = some o->∀ e∈o.after.toList,Region.binds .any e=true->D e.on=true
section
variable {Γ:Gam} {opsA:Array Oper} {T:List Nat} {s:A4} {U:Gr} {rs:CD} {offE:Nat} {B:Nat} {M:List Nat} {w0:BH} {D:Nat->Bool} {O:Env} {a:Act} {w:World}
theorem DJ.bits(hok:Dz P Γ opsA T s U rs offE)(h:DJ B M w0 opsA s rs D O a w){j:Nat}{o:Oper}(ho:opsA.toList[j]? = some o)(hj:D j=true){q:Nat}(hb:bit T j q=true):D q=true :=
 (ED hok.table h.closed j o ho (h.closed j o hj ho) q hb).1
theorem DJ.notAfter(hok:Dz P Γ opsA T s U rs offE)(h:DJ B M w0 opsA s rs D O a w){i:Nat}(hi:D i=false){k:Nat}{p:Nat × Ez}(hk:rs[k]? = some p)(hb:bit T k i=true):D k=false:=by
 cases hD:D k
 .rfl
 .obtain ⟨o,ho,_⟩:=hok.runs.at_ k _ hk
  rw [h.bits hok ho hD hb] at hi;cases hi
theorem H6(hok:Dz P Γ opsA T s U rs offE){q:Nat}{b0:Blk}(hb0:(q<s.nx/\b0=s.mem q)\/(¬ q<s.nx/\∃ j,Ba rs 0 q=some (j,b0))){k off:Nat}{r:Ez}{b:Blk}(hk:rs[k]? = some (off,r))(hb:BO r.upds q=some b):b0.weak=b.weak/\k∈EN U q/\∀ k'∈EN U q,k'≠k->(k'<k->bit T k k'=true)/\(k<k'->bit T k' k=true):=by
 obtain ⟨h1,h2,h3⟩:=Hy hok.upds hk _ (CI hb)
 rw [aw] at h2 h3
 refine ⟨?_,h2,h3⟩
 rcases hb0 with ⟨hq,rfl⟩ | ⟨hq,j,hj⟩
 .rcases h1 with h1 | h1
  .exact J2 h1.2
  .exact absurd hq h1.1
 .rcases h1 with h1 | ⟨_,q',b0',h1,_,h4⟩
  .exact absurd h1.1 hq
  .simp only at h1
   rw [hj] at h1;cases h1
   exact J2 h4
theorem RP(hok:Dz P Γ opsA T s U rs offE){q:Nat}{b0:Blk}(hb0:(q<s.nx/\b0=s.mem q)\/(¬ q<s.nx/\∃ j,Ba rs 0 q=some (j,b0)))(D:Nat->Bool):b0.weak=((Be D rs 0 q).getD b0).weak:=by
 cases hu:Be D rs 0 q with
 | none=>rfl
 | some b =>
  obtain ⟨k,off,r,h1,_,h3⟩:=D3 hu
  exact (H6 hok hb0 h1 h3).1
theorem OO(hok:Dz P Γ opsA T s U rs offE){i q:Nat}(hbits:∀ j,bit T i j=true->D j=true/\j<i)(hnot:∀ k p,rs[k]? = some p->(bit T k i=true\/k=i)->D k=false){b0:Blk}(hb0:(q<s.nx/\b0=s.mem q)\/(¬ q<s.nx/\∃ j,Ba rs 0 q=some (j,b0))):JW (Su T U (rs.take i) i q b0) ((Be D rs 0 q).getD b0):=by
 unfold Su
 cases hs:SK T U i q with
 | false=>exact .inr (.inr (RP hok hb0 D))
 | true =>
  refine .inr (.inl ?_)
  simp only
  rw [Jw fun k hk=>?_]
  .congr 1
   refine E6 fun k off r b hk hb=>?_
   rw [aw]
   obtain ⟨_,h2,_⟩:=H6 hok hb0 hk hb
   have:=(List.all_eq_true.1 hs) k h2
   simp only [Bool.or_eq_true,Nat.beq_eq] at this
   rcases this with rfl | h | h
   .rw [hnot k _ hk (.inr rfl)]
    cases hb':bit T k k with
    | false=>rfl
    | true=>exact absurd (hbits k hb').2 (Nat.lt_irrefl _)
   .rw [h,(hbits k h).1]
   .rw [hnot k _ hk (.inl h)]
    cases hb':bit T i k with
    | false=>rfl
    | true=>have:=(hbits k hb').1;rw [hnot k _ hk (.inl h)] at this;cases this
  .cases hb':bit T i k with
   | false=>rfl
   | true=>have:=(hbits k hb').2;omega
theorem ON(hok:Dz P Γ opsA T s U rs offE){i q:Nat}(hbits:∀ j,bit T i j=true->D j=true/\j<i)(hnot:∀ k p,rs[k]? = some p->(bit T k i=true\/k=i)->D k=false):JW (JA T s U (rs.take i) i q) (Bc s rs D q):=by
 unfold JA Bc
 by_cases hq:q<s.nx
 .rw [if_pos hq,if_pos hq]
  exact OO hok hbits hnot (.inl ⟨hq,rfl⟩)
 .rw [if_neg hq,if_neg hq]
  cases ho:Ba (rs.take i) 0 q with
  | none=>exact .inl rfl
  | some p =>
   obtain ⟨j,b0⟩:=p
   obtain ⟨ho',hji⟩:=H1 ho
   rw [ho']
   simp only
   by_cases hb:bit T i j=true
   .rw [if_pos hb,if_pos (hbits j hb).1]
    exact OO hok hbits hnot (.inr ⟨hq,j,ho'⟩)
   .rw [if_neg hb];exact .inl rfl
theorem Tu(hok:Dz P Γ opsA T s U rs offE)(h:DJ B M w0 opsA s rs D O a w){i:Nat}(hi:D i=false)(hbits:∀ j,bit T i j=true->D j=true/\j<i):Dl O (ML opsA.toList T s U (rs.take i) i) a:=by
 refine ⟨h.size,fun t x hx=>?_⟩
 have hd:=h.tmp t x hx
 show B4 O a (Ro opsA.toList T s (rs.take i) i t) x
 unfold KC at hd
 unfold Ro
 cases hw:F2 opsA.toList 0 t with
 | none=>rw [hw] at hd;exact hd
 | some j =>
  rw [hw] at hd
  simp only at hd ⊢
  by_cases hb:bit T i j=true
  .obtain ⟨hD,hlt⟩:=hbits j hb
   rw [if_pos hb]
   rw [if_pos hD] at hd
   unfold Hw at hd ⊢
   rw [List.getElem?_take,if_pos hlt]
   exact hd
  .rw [if_neg hb]
   by_cases hb':bit T j i=true
   .rw [if_pos hb']
    have hDj:D j=false:=by
     cases hDj:D j
     .rfl
     .obtain ⟨q,o,h1,h2,h3⟩:=FT hw
      have:j=q:=by omega
      subst this
      rw [h.bits hok h2 hDj hb'] at hi
      cases hi
    rw [hDj] at hd
    exact hd
   .rw [if_neg hb'];trivial
theorem DJ.step(hok:Dz P Γ opsA T s U rs offE)(h:DJ B M w0 opsA s rs D O a w){i:Nat}(hi:D i=false){o:Oper}(ho:opsA.toList[i]? = some o)(hpre:∀ e∈o.after.toList,Region.binds .any e=true->D e.on=true)(hDlt:∀ j,D j=true->j<opsA.toList.length){off:Nat}{r:Ez}(hr:rs[i]? = some (off,r))(hx:Dn P Γ opsA (ML opsA.toList T s U (rs.take i) i) off o=some r){O':Env}{w':World}{x:Value}(hp:PP O O' off r a w w' x) :
  DJ B M w0 opsA s rs (fun j=>if j=i then true else D j) O' (a.put o.dst x) w':=by
 have hbits:=ED hok.table h.closed i o ho hpre
 obtain ⟨hfits,hdst⟩:=EW hx
 rw [<- hdst]
 obtain ⟨hoff1,hoff2,hoff3⟩:=hok.runs.offs i _ hr
 have hnot:∀ k p,rs[k]? = some p->(bit T k i=true\/k=i)->D k=false:=fun k p hk hb=>hb.elim (h.notAfter hok hi hk) fun e=>by rw [e];exact hi
 have hwk:∀ q,JW (JA T s U (rs.take i) i q) (Bc s rs D q):=fun q=>ON hok hbits hnot
 have hF:Ae.fits { v:=.any,news:=r.news,upds:=r.upds } (Bc s rs D) off:=by
  refine ⟨fun u hu=>?_,hfits.2⟩
  obtain ⟨h1,h2⟩:=hfits.1 u hu
  refine ⟨?_,h2⟩
  have h1':(JA T s U (rs.take i) i u.1).mine=true:=h1
  rcases hwk u.1 with e | e | e
  .rw [e] at h1';cases h1'
  .rw [<- e];exact h1'
  .rw [e] at h1';exact PI h1'
 -- a known block's content behind this operation
 have contStep:∀ (q:Nat) (b0:Blk),((q<s.nx/\b0=s.mem q)\/(¬ q<s.nx/\∃ j,Ba rs 0 q=some (j,b0)))->Bc s rs D q=(Be D rs 0 q).getD b0->JW ((Be (fun k=>if k=i then true else D k) rs 0 q).getD b0) (Bo (Bc s rs D) r.upds q):=by
  intro q b0 hb0 hex
  refine .inr (.inl ?_)
  rcases E9 (Bc s rs D) r.upds q with ⟨u,hu,e',hv⟩ | ⟨hno,hv⟩
  .have hlu:∃ b,BO r.upds q=some b:=by
    cases hl:BO r.upds q with
    | some b=>exact ⟨b,rfl⟩
    | none=>exact absurd e' (GX hl u hu)
   obtain ⟨b,hlu⟩:=hlu
   have hub:b=u.2:=hfits.2 (q,b) (CI hlu) u hu e'.symm
   rw [hv,Jv hr hlu (by simp) fun k' off' r' b' hlt hk' hb'=>?_]
   .exact hub
   .rw [aw,if_neg (by omega)]
    obtain ⟨_,hmem,_⟩:=H6 hok hb0 hk' hb'
    have:=((H6 hok hb0 hr hlu).2.2 k' hmem (by omega)).2 hlt
    exact h.notAfter hok hi hk' this
  .rw [hv,hex]
   congr 1
   refine E6 fun k off' r' b' hk hb=>?_
   rw [aw]
   have hki:k≠i:=by
    intro e2
    subst e2
    rw [hr] at hk;cases hk
    exact hno _ (CI hb) rfl
   simp [hki]
 have hWk:∀ q,JW (Bc s rs (fun j=>if j=i then true else D j) q) (Ae.mem { v:=.any,news:=r.news,upds:=r.upds } (Bc s rs D) off q):=fun q=>by
  unfold Ae.mem
  by_cases hq:q<s.nx
  .have hex:Bc s rs D q=(Be D rs 0 q).getD (s.mem q):=by unfold Bc;rw [if_pos hq]
   have hL:Bc s rs (fun j=>if j=i then true else D j) q=(Be (fun j=>if j=i then true else D j) rs 0 q).getD (s.mem q):=by unfold Bc;rw [if_pos hq]
   have hR0:Ds (Bo (Bc s rs D) r.upds) off r.news q=Bo (Bc s rs D) r.upds q:=by
    rcases E8 (Bo (Bc s rs D) r.upds) off r.news q with ⟨jj,b,e,hb,_⟩ | ⟨_,e⟩
    .omega
    .exact e
   rw [hL,hR0]
   exact contStep q (s.mem q) (.inl ⟨hq,rfl⟩) hex
  .unfold Bc
   rw [if_neg hq]
   cases hown:Ba rs 0 q with
   | none=>exact .inl rfl
   | some p =>
    obtain ⟨j,b0⟩:=p
    simp only
    obtain ⟨k,offj,rj,e,hrj,hr1,hr2,hr3⟩:=EP hown
    have:j=k:=by omega
    subst this
    by_cases hji:j=i
    .subst hji
     rw [hr] at hrj;cases hrj
     rw [if_pos (by simp)]
     have hR:Ds (Bo (Bc s rs D) r.upds) off r.news q=b0:=by
      unfold Ds
      rw [if_neg (by omega),hr3]
     have hR':Ds (Bo (fun q=>Bc s rs D q) r.upds) off r.news q=b0:=hR
     have hL:(Be (fun k=>if k=j then true else D k) rs 0 q).getD b0=b0:=by
      cases hu:Be (fun k=>if k=j then true else D k) rs 0 q with
      | none=>rfl
      | some b =>
       obtain ⟨k,off',r',hk',hD',hu'⟩:=D3 hu
       rw [aw] at hD'
       obtain ⟨h1 | ⟨_,q',b0',h1,h2,_⟩,_⟩:=Hy hok.upds hk' _ (CI hu')
       .exact absurd h1.1 hq
       simp only at h1
       rw [hown] at h1;cases h1
       rw [aw] at h2
       by_cases hkj:k=j
       .subst hkj
        have:=(hbits k h2).2
        omega
       .rw [if_neg hkj,h.notAfter hok hi hk' h2] at hD';cases hD'
     rw [hL]
     exact .inr (.inl hR'.symm)
    .have hnin:q<off\/off+r.news.length<=q:=by
      rcases Nat.lt_or_gt_of_ne hji with hlt | hlt
      .have:=hoff3 j _ hlt hrj
       simp only at this
       omega
      .have:=(hok.runs.offs j _ hrj).2.2 i _ hlt hr
       simp only at this
       omega
     have hR0:Ds (Bo (Bc s rs D) r.upds) off r.news q=Bo (Bc s rs D) r.upds q:=by
      rcases E8 (Bo (Bc s rs D) r.upds) off r.news q with ⟨jj,b,e,hb,_⟩ | ⟨_,e⟩
      .have:=(az.1 hb).1
       omega
      .exact e
     have hwk':JW (if (if j=i then true else D j)=true then (Be (fun k=>if k=i then true else D k) rs 0 q).getD b0 else .unk) (Bo (Bc s rs D) r.upds q):=by
      rw [if_neg hji]
      by_cases hDj:D j=true
      .rw [if_pos hDj]
       have hex:Bc s rs D q=(Be D rs 0 q).getD b0:=by
        unfold Bc
        rw [if_neg hq,hown]
        simp only
        rw [if_pos hDj]
       exact contStep q b0 (.inr ⟨hq,j,hown⟩) hex
      .rw [if_neg hDj];exact .inl rfl
     have hgoal:=hwk'
     rw [<- hR0] at hgoal
     exact hgoal
 refine ⟨by rw [B0];exact (h.defs.step hp.post hF).unk fun q=>MN (hWk q),by rw [Ar];exact h.size,fun t y hy=>?_,fun q hq hno=>?_,?_,?_,by have:=hp.post.size;have:=h.base;simp only at *;omega,h.ext.trans hp.post.ext,h.argn,fun i hi=>by rw [hp.post.old i (.inl (by have:=h.nale;simp only at *;omega))];exact h.argl i hi,h.nab,h.nale,h.odb.step hp.post.odn h.base,h.mz,fun j oj hj hoj e he hb=>?_⟩
 ·-- Rg
  have keepBase:∀ t',(F2 opsA.toList 0 t'=none)->(a.put r.dst x).tmps[t']? = a.tmps[t']?:=fun t' hn =>
   D7 a r.dst x t' fun d hd e=>by subst e;rw [hdst] at hd;exact FS hn o (List.mem_of_getElem? ho) hd
  have baseOk:∀ y,(r.dst≠some t)->B4 O a (EC opsA.toList s t) y->B4 O' (a.put r.dst x) (EC opsA.toList s t) y:=by
   intro y _ hd
   have hd':=CL hp.post.ext hd
   unfold EC at hd' ⊢
   cases hs:s.tm t <;> rw [hs] at hd' <;> try exact hd'
   rename_i t' pol u
   simp only at hd' ⊢
   by_cases hw:(F2 opsA.toList 0 t').isSome=true
   .rw [if_pos hw];trivial
   .rw [if_neg hw] at hd' ⊢
    have hn:F2 opsA.toList 0 t'=none:=by
     cases hwt:F2 opsA.toList 0 t' <;> simp_all
    show ((a.put r.dst x).tmps[t']? = some (.bool pol)/\u.den O' y)\/((a.put r.dst x).tmps[t']?≠some (.bool pol)/\y=undef)
    rw [keepBase t' hn]
    exact hd'
  unfold KC
  cases hw:F2 opsA.toList 0 t with
  | none =>
   have hnt:r.dst≠some t:=fun e=>FS hw o (List.mem_of_getElem? ho) (by rw [<- hdst];exact e)
   rw [keepBase t hw] at hy
   have hd:=h.tmp t y hy
   unfold KC at hd
   rw [hw] at hd
   exact baseOk y hnt hd
  | some j =>
   obtain ⟨j',oj,e,hoj,hdj⟩:=FT hw
   have:j=j':=by omega
   subst this
   simp only
   by_cases hji:j=i
   .subst hji
    rw [if_pos (by simp)]
    rw [ho] at hoj;cases hoj
    have hyx:y=x:=by
     rw [hdst,hdj] at hy
     exact Md hy
    have:=hp.slot t (by rw [hdst];exact hdj)
    unfold Hw
    rw [hr,hyx]
    exact this
   .have hnt:r.dst≠some t:=fun e=>hji (Fa hok.once hoj ho hdj (by rw [<- hdst];exact e))
    rw [D7 a r.dst x t (fun d hd e=>hnt (by rw [hd,e]))] at hy
    have hd:=h.tmp t y hy
    unfold KC at hd
    rw [hw] at hd
    simp only [if_neg hji] at hd ⊢
    by_cases hDj:D j=true
    .rw [if_pos hDj] at hd ⊢
     have hjl:=hDlt j hDj
     have hrj:∃ p,rs[j]? = some p:=⟨rs[j]'(by rw [hok.runs.len];exact hjl),aj _⟩
     obtain ⟨p,hrj⟩:=hrj
     obtain ⟨oj',hoj',hxj⟩:=hok.runs.at_ j p hrj
     rw [hoj] at hoj';cases hoj'
     have hd':=CL hp.post.ext hd
     unfold Hw at hd' ⊢
     rw [hrj] at hd' ⊢
     simp only at hd' ⊢
     cases hv:p.2.v <;> rw [hv] at hd' <;> try exact hd'
     rename_i t' pol u
     obtain ⟨g,hg1,hg2⟩:=Rv hxj hv
     have hgi:r.dst≠some t':=by
      intro e
      rw [hdst] at e
      cases hog:opsA[g]? with
      | none=>rw [hog] at hg2;simp at hg2
      | some og =>
       rw [hog] at hg2
       have hgl:opsA.toList[g]? = some og:=by simpa using hog
       have:g=i:=Fa hok.once hgl ho (by simpa using hg2) e
       subst this
       have hb:=HK hok.guards hoj hg1
       rw [aw] at hb
       have:=h.bits hok hoj hDj hb
       rw [hi] at this;cases this
     show ((a.put r.dst x).tmps[t']? = some (.bool pol)/\u.den O' y)\/((a.put r.dst x).tmps[t']?≠some (.bool pol)/\y=undef)
     rw [D7 a r.dst x t' (fun d hd e=>hgi (by rw [hd,e]))]
     exact hd'
    .rw [if_neg hDj] at hd ⊢
     exact baseOk y hnt hd
 ·-- names
  have hnot:q<off\/off+r.news.length<=q:=by
   have:=hno i _ hr (by simp)
   simp only at this
   omega
  rw [hp.post.old q hnot]
  refine h.fresh q hq fun j p hj hDj=>hno j p hj ?_
  split
  .rfl
  .exact hDj
 ·-- memory
  exact (hp.post.memDen h.mem hF h.base).weaken hWk
 .exact hp.post.kept h.mem hF h.kept h.base
 .show (if e.on=i then true else D e.on)=true
  have hj:(if j=i then true else D j)=true:=hj
  by_cases hji:j=i
  .subst hji
   rw [ho] at hoj;cases hoj
   have:=hpre e he hb
   split
   .rfl
   .exact this
  .rw [if_neg hji] at hj
   have:=h.closed j oj hj hoj e he hb
   split
   .rfl
   .exact this
theorem IC{l:List Bool}{i:Nat}(h:l[i]? = some false):(l.set i true).countP (!·)+1=l.countP (!·):=by
 induction l generalizing i with
 | nil=>simp at h
 | cons b l ih =>
  cases i with
  | zero=>simp at h;subst h;simp
  | succ i =>
   have:=ih (i:=i) (by simpa using h)
   simp only [List.set_cons_succ,List.countP_cons]
   omega
theorem AQ{ops:Array Oper}{listed:Array Bool}{i:Nat}:i∈Region.ready .any ops listed↔i<ops.size/\listed.getD i true=false/\∃ o,ops[i]? = some o/\∀ e∈o.after.toList,Region.binds .any e=true->listed.getD e.on false=true:=by
 unfold Region.ready
 rw [List.mem_filter,List.mem_range]
 refine and_congr_right fun hi=>?_
 rw [aq,Bool.not_eq_true']
 refine and_congr_right fun _=>?_
 have:ops[i]? = some (ops[i]'hi):=ak hi
 rw [this]
 simp only [Option.map_some,Option.getD_some,Option.some.injEq,exists_eq_left']
 rw [Array.all_eq_true_iff_forall_mem]
 simp only [Bool.or_eq_true,Bool.not_eq_true',Array.mem_toList_iff]
 constructor
 .intro h e he hb
  rcases h e he with h1 | h1
  .rw [hb] at h1;cases h1
  .exact h1
 .intro h e he
  cases hb:Region.binds .any e
  .exact .inl rfl
  .exact .inr (h e he hb)
def I5(ops:List Oper)(s:A4)(rs:CD)(off:Nat):A4:={ na:=s.na,nt:=s.nt,tm:=KC ops s rs fun _=>true,nx:=off,mem:=Bc s rs fun _=>true }
theorem DJ.done(hok:Dz P Γ opsA T s U rs offE)(h:DJ B M w0 opsA s rs D O a w)(hall:∀ j,j<opsA.toList.length->D j=true):Ab B M w0 O (I5 opsA.toList s rs offE) a w:=by
 have hcg:Bc s rs (fun _=>true)=Bc s rs D:=by
  have hcong:∀ q,Be (fun _=>true) rs 0 q=Be D rs 0 q:=fun q=>E6 fun k off r b hk _=>by
   have hj:=hall k (by have:=(az.1 hk).1;rw [hok.runs.len] at this;exact this)
   rw [aw,hj]
  funext q
  unfold Bc
  rw [hcong]
  split
  .rfl
  .cases ho:Ba rs 0 q with
   | none=>rfl
   | some p =>
    obtain ⟨j,b0⟩:=p
    obtain ⟨k,off,r,e,hk,_⟩:=EP ho
    have hj:=hall j (by have:=(az.1 hk).1;rw [hok.runs.len] at this;omega)
    simp only [hj,if_true]
 refine ⟨by show EB B w0.ob w0.df O (Bc s rs fun _=>true) w a.defers;rw [hcg];exact h.defs,h.size,fun t x hx=>?_,fun q hq=>?_,?_,h.kept,h.base,h.ext,h.argn,h.argl,h.nab,by have:=h.nale;have:=hok.runs.off;show w0.n<=offE;omega,h.odb,h.mz⟩
 .have:=h.tmp t x hx
  show B4 O a (KC opsA.toList s rs (fun _=>true) t) x
  unfold KC at this ⊢
  cases hw:F2 opsA.toList 0 t with
  | none=>rw [hw] at this;exact this
  | some j =>
   rw [hw] at this
   obtain ⟨q,o,h1,h2,_⟩:=FT hw
   have hj:=hall j (by have:=(az.1 h2).1;omega)
   simp only [hj] at this
   exact this
 .refine h.fresh q (by have:=hok.runs.off;have:offE<=q:=hq;omega) fun j p hj _=>?_
  have:=(hok.runs.offs j p hj).2.1
  have:offE<=q:=hq
  omega
 .show Ak B M O (Bc s rs fun _=>true) w
  rw [hcg]
  exact h.mem
theorem Qc(hΓ:DU P Γ)(hok:Dz P Γ opsA T s U rs offE){Q:Exit->Act->World->Prop}(hQ:∀ O a w,Ab B M w0 O (I5 opsA.toList s rs offE) a w->Q .normal a w) :
  ∀ (fuel:Nat) (listed:Array Bool) (O:Env) (a:Act) (w:World),listed.size=opsA.size->listed.toList.countP (!·)<=fuel->DJ B M w0 opsA s rs (fun j=>listed.getD j false) O a w->wpAnyIn (FW rd) n P .any opsA Q fuel listed a w:=by
 -- nothing is ready: all has come up
 have endOf:∀ (listed:Array Bool) (O:Env) (a:Act) (w:World),listed.size=opsA.size->DJ B M w0 opsA s rs (fun j=>listed.getD j false) O a w->Region.ready .any opsA listed=[]->Q .normal a w:=by
  intro listed O a w hsz hJ hr
  refine hQ O a w (hJ.done hok fun j=>?_)
  induction j using Nat.strongRecOn with
  | _ j ih =>
   intro hj
   have hjs:j<opsA.size:=by simpa using hj
   cases hD:listed.getD j false
   .exfalso
    have:j∈Region.ready .any opsA listed:=by
     rw [AQ]
     refine ⟨hjs,?_,opsA[j],ak hjs,fun e he hb=>?_⟩
     .have hl:j<listed.size:=by omega
      simp only [ax,ak hl,Option.getD_some] at hD ⊢
      exact hD
     .have hlt:=(D1 hok.table (j:=j) (o:=opsA[j]) (by simp [hjs])).2 e he hb
      exact ih e.on (by omega) (by omega)
    rw [hr] at this
    cases this
   .rfl
 intro fuel
 induction fuel with
 | zero =>
  intro listed O a w hsz hc hJ
  have hnone:Region.ready .any opsA listed=[]:=by
   cases hr:Region.ready .any opsA listed with
   | nil=>rfl
   | cons i l =>
    have:i∈Region.ready .any opsA listed:=by rw [hr];simp
    rw [AQ] at this
    obtain ⟨h1,h2,_⟩:=this
    have hl:i<listed.size:=by omega
    have hli:listed.toList[i]? = some false:=by
     simp only [ax,ak hl,Option.getD_some] at h2
     simp [hl,h2]
    have:=IC hli
    omega
  exact ⟨hnone,endOf listed O a w hsz hJ hnone⟩
 | succ fuel ih =>
  intro listed O a w hsz hc hJ
  refine ⟨endOf listed O a w hsz hJ,fun i hi=>?_⟩
  rw [AQ] at hi
  obtain ⟨hi,hli,o,ho,hpre⟩:=hi
  have hl:i<listed.size:=by omega
  have hfi:listed.getD i false=false:=by
   simp only [ax,ak hl,Option.getD_some] at hli ⊢
   exact hli
  have hli':listed.toList[i]? = some false:=by
   simp only [ax,ak hl,Option.getD_some] at hli
   simp [hl,hli]
  have hoL:opsA.toList[i]? = some o:=by simpa using ho
  have hDlt:∀ j,listed.getD j false=true->j<opsA.toList.length:=by
   intro j hj
   rcases Nat.lt_or_ge j listed.size with h | h
   .simp;omega
   .simp [ax,h] at hj
  have hrl:i<rs.length:=by rw [hok.runs.len];simpa using hi
  obtain ⟨p,hrp⟩:∃ p,rs[i]? = some p:=⟨rs[i],aj hrl⟩
  obtain ⟨off,r⟩:=p
  obtain ⟨o',ho',hx⟩:=hok.runs.at_ i _ hrp
  rw [hoL] at ho';cases ho'
  have hbits:=ED hok.table hJ.closed i o hoL hpre
  have hT:=Tu hok hJ hfi hbits
  have hM:Ak B M O (ML opsA.toList T s U (rs.take i) i).mem w:=hJ.mem.weaken fun q=>ON hok hbits fun k p hk hb=>hb.elim (hJ.notAfter hok hfi hk) fun e=>by rw [e];exact hfi
  have hfr:∀ j,j<r.news.length->O (off+j)=none:=fun j hj=>hJ.fresh (off+j) (by have:=(hok.runs.offs i _ hrp).1;simp only at this;omega) fun k p hk hDk hin=>by
   by_cases hki:k=i
   .subst hki;rw [hfi] at hDk;cases hDk
   .rcases Nat.lt_or_gt_of_ne hki with hlt | hlt
    .have:=(hok.runs.offs i _ hrp).2.2 k p hlt hk;simp only at this;omega
    .have:=(hok.runs.offs k p hk).2.2 i _ hlt hrp;simp only at this;omega
  have key:=Hb (rd:=rd) (n:=n) hΓ hx (hok.need _ (List.mem_of_getElem? hrp)) hT hM hJ.base hfr (Q:=Q) (K:=wpAnyIn (FW rd) n P .any opsA Q fuel (listed.setIfInBounds i true)) fun x w' O' hp=>by
   refine ih (listed.setIfInBounds i true) O' _ w' (by simpa using hsz) ?_ ?_
   .have:=IC hli'
    simp only [Array.toList_setIfInBounds]
    omega
   .have hstep:=hJ.step hok hfi hoL hpre hDlt hrp hx hp
    have:(fun j=>if j=i then true else listed.getD j false)=fun j=>(listed.setIfInBounds i true).getD j false:=by
     funext j
     simp only [ax,Array.getElem?_setIfInBounds]
     by_cases hji:j=i
     .subst hji;simp [hl]
     .simp [hji,Ne.symm hji]
    rw [<- this]
    exact hstep
  unfold wpOpIn
  rw [ho]
  simp only
  split
  .rename_i hw;rw [if_pos hw] at key;exact key
  .rename_i hw;rw [if_neg hw] at key;exact ⟨fun _ _=>trivial,key⟩
end
def QL:Nat->CD->Gr
 | _,[]=>[]
 | i,(_,r) :: l=>(r.upds.map fun u=>(u.1,i)) ++ QL (i+1) l
def Cf(P:Program)(Γ:Gam)(opsA:Array Oper)(s:A4):Gr :=
 match opsA.toList.any fun o=>match o.op with | .store _ _ _ | .call _=>true | _=>false with
 | false=>[]
 | true=>match Dp P Γ opsA opsA.toList (BS opsA.toList []) s [] opsA.toList [] s.nx with
  | some (rs,_)=>QL 0 rs
  | none=>[]
def JL(P:Program)(Γ:Gam)(opsA:Array Oper)(s:A4)(k:A4->Prop):Prop :=
 match Dp P Γ opsA opsA.toList (BS opsA.toList []) s (Cf P Γ opsA s) opsA.toList [] s.nx with
 | some (rs,off)=>cnd (Cm (BS opsA.toList []) 0 opsA.toList&&(D9 opsA.toList&&(Da (BS opsA.toList []) 0 opsA.toList&&FB (BS opsA.toList []) s (Cf P Γ opsA s) rs 0 rs)))
   (Ay (rs.flatMap fun p=>p.2.need) (k (I5 opsA.toList s rs off))) False
 | none=>False
theorem Gk{Γ:Gam}(hΓ:DU P Γ){B:Nat}{M:List Nat}{w0:BH}{opsA:Array Oper}{Q:Exit->Act->World->Prop}{k:A4->Prop}(hk:∀ s O a w,Ab B M w0 O s a w->k s->Q .normal a w){s:A4}{O:Env}{a:Act}{w:World}(h:Ab B M w0 O s a w)(hx:JL P Γ opsA s k):wpAnyIn (FW rd) n P .any opsA Q opsA.size (Array.replicate opsA.size false) a { w with drawn:=w.drawn+1 }:=by
 unfold JL at hx
 split at hx <;> try exact hx.elim
 rename_i rs off hr
 rw [DV,Ac] at hx
 have hb:(Cm (BS opsA.toList []) 0 opsA.toList&&(D9 opsA.toList&&(Da (BS opsA.toList []) 0 opsA.toList&&FB (BS opsA.toList []) s (Cf P Γ opsA s) rs 0 rs)))=true:=by
  cases hc:(Cm (BS opsA.toList []) 0 opsA.toList&&(D9 opsA.toList&&(Da (BS opsA.toList []) 0 opsA.toList&&FB (BS opsA.toList []) s (Cf P Γ opsA s) rs 0 rs)))
  .exact (hx.2 hc).elim
  .rfl
 obtain ⟨hneed,hkk⟩:=hx.1 hb
 simp only [aq] at hb
 obtain ⟨hb1,hb2,hb3,hb4⟩:=hb
 have hruns:=IF (P:=P) (Γ:=Γ) (opsA:=opsA) (ops:=opsA.toList) (T:=BS opsA.toList []) (s:=s) (U:=Cf P Γ opsA s) opsA.toList [] s.nx rs off (fun j=>by simp)
  ⟨rfl,fun i p hp=>by simp at hp,fun i p hp=>by simp at hp,Nat.le_refl _⟩ hr
 have hok:Dz P Γ opsA (BS opsA.toList []) s (Cf P Γ opsA s) rs off:=⟨hb1,hb2,hb3,hb4,by simpa using hruns,fun p hp b hbm=>hneed b (List.mem_flatMap.2 ⟨p,hp,hbm⟩)⟩
 refine Qc hΓ hok (B:=B) (M:=M) (w0:=w0) (fun O a w hS=>hk _ O a w hS hkk) opsA.size (Array.replicate opsA.size false) O a _ (by simp) ?_ ?_
 .exact Nat.le_trans List.countP_le_length (by simp)
 have hd:=h.drew
 have hD:∀ j,(Array.replicate opsA.size false).getD j false=false:=by
  intro j
  simp only [ax,Array.getElem?_replicate]
  split <;> rfl
 have hWk:∀ q,JW (Bc s rs (fun j=>(Array.replicate opsA.size false).getD j false) q) (s.mem q):=fun q=>by
  unfold Bc
  split
  .have:Be (fun j=>(Array.replicate opsA.size false).getD j false) rs 0 q=none:=by
    cases hu:Be (fun j=>(Array.replicate opsA.size false).getD j false) rs 0 q with
    | none=>rfl
    | some b=>obtain ⟨k,_,_,_,h2,_⟩:=D3 hu;rw [hD] at h2;cases h2
   rw [this]
   exact .inr (.inl rfl)
  .cases ho:Ba rs 0 q with
   | none=>exact .inl rfl
   | some p=>obtain ⟨j,b0⟩:=p;simp only [hD];exact .inl rfl
 refine ⟨hd.defs.unk fun q=>MN (hWk q),hd.size,fun t x hx=>?_,fun q hq _=>hd.fresh q hq,hd.mem.weaken hWk,hd.kept,hd.base,hd.ext,hd.argn,hd.argl,hd.nab,hd.nale,hd.odb,hd.mz,fun j o hj=>by rw [hD] at hj;cases hj⟩
 .have hx':=hd.tmp t x hx
  have base:B4 O a (EC opsA.toList s t) x:=by
   unfold EC
   cases hs:s.tm t <;> rw [hs] at hx' <;> try exact hx'
   rename_i t' pol u
   simp only
   split
   .trivial
   .exact hx'
  unfold KC
  cases hw:F2 opsA.toList 0 t with
  | none=>exact base
  | some j=>simp only [hD];exact base
def SI(P:Program)(Γ:Gam)(opsA:Array Oper)(s:A4):Bool:=match Dp P Γ opsA opsA.toList (BS opsA.toList []) s (Cf P Γ opsA s) opsA.toList [] s.nx with
 | some _=>true
 | none=>false
def IJ:List Oper->Option Nat
 | []=>none
 | o :: l=>match o.guard with
  | some (j,_)=>some j
  | none=>IJ l
def Sq(P:Program)(Γ:Gam)(opsA:Array Oper)(s:A4):Option (Nat × Bool):=match IJ opsA.toList with
 | some j=>(match Dp P Γ opsA opsA.toList (BS opsA.toList []) s (Cf P Γ opsA s) (opsA.toList.take (j+1)) [] s.nx with
  | some (rs,_)=>(match (opsA[j]?).bind (·.dst) with
   | some t=>(match Hw rs j with
    | .bool b=>some (t,b)
    | _=>none)
   | none=>none)
  | none=>none)
 | none=>none
def JK(P:Program)(Γ:Gam)(opsA:Array Oper)(s:A4)(k:A4->Prop):Prop :=
 match Dp P Γ opsA opsA.toList (BS opsA.toList []) s (Cf P Γ opsA s) opsA.toList [] s.nx with
 | some (rs,off)=>cnd (Cm (BS opsA.toList []) 0 opsA.toList&&(D9 opsA.toList&&(Da (BS opsA.toList []) 0 opsA.toList&&FB (BS opsA.toList []) s (Cf P Γ opsA s) rs 0 rs)))
   (Ay (rs.flatMap fun p=>p.2.need) (k (I5 opsA.toList s rs off))) False
 | none=>(match Sq P Γ opsA s with
  | some (t,b)=>(match SI P Γ opsA (s.grant t true)&&SI P Γ opsA (s.grant t false) with
   | true=>cnd b (JL P Γ opsA (s.grant t true) k) (JL P Γ opsA (s.grant t false) k)
   | false=>False)
  | none=>False)
theorem HA{Γ:Gam}(hΓ:DU P Γ){B:Nat}{M:List Nat}{w0:BH}{opsA:Array Oper}{Q:Exit->Act->World->Prop}{k:A4->Prop}(hk:∀ s O a w,Ab B M w0 O s a w->k s->Q .normal a w){s:A4}{O:Env}{a:Act}{w:World}(h:Ab B M w0 O s a w)(hx:JK P Γ opsA s k):wpAnyIn (FW rd) n P .any opsA Q opsA.size (Array.replicate opsA.size false) a { w with drawn:=w.drawn+1 }:=by
 unfold JK at hx
 split at hx
 .rename_i rs off hr
  refine Gk hΓ hk h ?_
  unfold JL
  rw [hr]
  exact hx
 .split at hx <;> try exact hx.elim
  rename_i t b _
  split at hx <;> try exact hx.elim
  rw [DV] at hx
  cases b with
  | true=>exact Gk hΓ hk (h.grant t true) (hx.1 rfl)
  | false=>exact Gk hΓ hk (h.grant t false) (hx.2 rfl)
theorem Rt{Γ:Gam}(hΓ:DU P Γ)(hmix:P.follows .mixedOrders=true){B:Nat}{M:List Nat}{w0:BH}{opsA:Array Oper}{id:Nat}{Q:Exit->Act->World->Prop}{k:A4->Prop}(hk:∀ s O a w,Ab B M w0 O s a w->k s->Q .normal a w){s:A4}{O:Env}{a:Act}{w:World}(h:Ab B M w0 O s a w)(hx:JK P Γ opsA s k):(Code.region id opsA true).wpIn (FW rd) n P Q a w:=wpIn_region_any hmix (HA hΓ hk h hx)
def H7(Q:Exit->Act->World->Prop)(X:Act->World->Prop):Exit->Act->World->Prop
 | .normal,a,w=>X a w
 | e,a,w=>Q e a w
theorem QM{F:Fence}{o:Oper}{Q:Exit->Act->World->Prop}{X K:Act->World->Prop}{a:Act}{w:World}(h:o.wpIn F n P a w K (H7 Q X)):o.wpIn F n P a w K Q:=by
 refine ⟨h.1,?_⟩
 have hh:=h.2
 generalize (o.semAt F.round a.eval).run P w=r at *
 cases r with
 | ok x w' =>
  cases x <;> simp only [Oper.uponIn] at hh ⊢ <;>
   first
    | exact hh
    | exact ⟨hh.1,CallsIn.mono hh.2 (fun e w'' he=>by cases e <;> exact he)⟩
    | exact ⟨hh.1,RoundIn.mono hh.2 (fun e w'' he=>by cases e <;> exact he)⟩
 | halt x w'=>cases x <;> simp only [Oper.uponIn] at hh ⊢ <;> exact hh
theorem MO{F:Fence}{init:Array Oper}{o:Oper}(hd:o.dst=none){Q:Exit->Act->World->Prop}{X K:Act->World->Prop}{i:Nat}(hi:i<init.size){a:Act}{w:World}(h:wpOpIn F n P init (H7 Q X) i K a w):wpOpIn F n P (init.push o) Q i K a w:=by
 have hy:yielded (init.push o) a.tmps=yielded init a.tmps:=by
  funext j
  by_cases e:j=init.size
  .subst e;simp [yielded,hd]
  .simp only [yielded,Array.getElem?_push,if_neg e]
 unfold wpOpIn at h ⊢
 rw [Array.getElem?_push,if_neg (by omega)]
 cases ho:init[i]? with
 | none=>rw [ho] at h;exact h
 | some p =>
  rw [ho] at h
  simp only at h ⊢
  rw [hy]
  split
  .rename_i hw;rw [if_pos hw] at h;exact QM h
  .rename_i hw;rw [if_neg hw] at h;exact h
def RL(T:List Nat)(n:Nat):Bool:=(List.range n).all fun j=>bit T n j
theorem Il{F:Fence}{init:Array Oper}{o:Oper}{T:List Nat}(hT:Cm T 0 (init.push o).toList=true)(hb:RL T init.size=true)(hd:o.dst=none){Q:Exit->Act->World->Prop} :
  ∀ (fuel:Nat) (listed:Array Bool) (a:Act) (w:World),listed.size=init.size->(∀ j p,listed.getD j false=true->init[j]? = some p->∀ e∈p.after.toList,Region.binds .any e=true->listed.getD e.on false=true) ->
   wpAnyIn F n P .any init (H7 Q fun a w=>wpOpIn F n P (init.push o) Q init.size (Q .normal) a w) fuel listed a w->wpAnyIn F n P .any (init.push o) Q (fuel+1) (listed.push false) a w:=by
 have gd:∀ (listed:Array Bool) (j:Nat),listed.size=init.size->(listed.push false).getD j false=listed.getD j false:=fun listed j hs=>by
  simp only [ax,Array.getElem?_push]
  split
  .rename_i e;subst e;simp
  .rfl
 have gdt:∀ (listed:Array Bool) (j:Nat),listed.size=init.size->j<init.size->(listed.push false).getD j true=listed.getD j true:=fun listed j hs hj=>by
  simp only [ax,Array.getElem?_push]
  rw [if_neg (by omega)]
 have gft:∀ (listed:Array Bool) (j:Nat),listed.size=init.size->j<init.size->listed.getD j true=false->listed.getD j false=true->False:=fun listed j hs hj h1 h2=>by
  have hl:j<listed.size:=by omega
  simp only [ax,ak hl,Option.getD_some] at h1 h2
  rw [h1] at h2;cases h2
 have edges:∀ j p,init[j]? = some p->∀ e∈p.after.toList,Region.binds .any e=true->e.on<j:=fun j p hp e he hbe=>by
  have hlt:j<init.size:=(Array.getElem?_eq_some_iff.1 hp).1
  have:=(D1 hT (j:=j) (o:=p) (by rw [Array.getElem?_toList,Array.getElem?_push,if_neg (by omega)];exact hp)).2 e he hbe
  omega
 have all:∀ (listed:Array Bool),listed.size=init.size->Region.ready .any init listed=[]->∀ j,j<init.size->listed.getD j false=true:=by
  intro listed hs hr j
  induction j using Nat.strongRecOn with
  | _ j ih =>
   intro hj
   cases hD:listed.getD j false
   .exfalso
    have:j∈Region.ready .any init listed:=by
     rw [AQ]
     refine ⟨hj,?_,init[j],ak hj,fun e he hbe=>?_⟩
     .have hl:j<listed.size:=by omega
      simp only [ax,ak hl,Option.getD_some] at hD ⊢
      exact hD
     .have hlt:=edges j _ (ak hj) e he hbe
      exact ih e.on hlt (by omega)
    rw [hr] at this
    cases this
   .rfl
 -- the last one is ready only behind all others
 have lastAll:∀ (listed:Array Bool),listed.size=init.size->(∀ j p,listed.getD j false=true->init[j]? = some p->∀ e∈p.after.toList,Region.binds .any e=true->listed.getD e.on false=true)->init.size∈Region.ready .any (init.push o) (listed.push false)->∀ j,j<init.size->listed.getD j false=true:=by
  intro listed hs hcl hr j hj
  rw [AQ] at hr
  obtain ⟨_,_,o',ho',hpre⟩:=hr
  have hcl':∀ j p,(fun j=>listed.getD j false) j=true->(init.push o).toList[j]? = some p->∀ e∈p.after.toList,Region.binds .any e=true->(fun j=>listed.getD j false) e.on=true:=by
   intro j p hj hp e he hbe
   by_cases hjn:j<init.size
   .refine hcl j p hj ?_ e he hbe
    simp only [Array.getElem?_toList,Array.getElem?_push] at hp
    rwa [if_neg (by omega)] at hp
   .have:listed.getD j false=false:=by
     simp only [ax]
     rw [Array.getElem?_eq_none (by omega)]
     rfl
    exact absurd hj (by show ¬ listed.getD j false=true;rw [this];simp)
  have hbit:=(List.all_eq_true.1 hb) j (List.mem_range.2 hj)
  exact (ED hT hcl' init.size o' (by rw [Array.getElem?_toList];exact ho') (fun e he hbe=>by have h9:=hpre e he hbe;rw [gd listed e.on hs] at h9;exact h9) j hbit).1
 have last:∀ (fuel:Nat) (listed:Array Bool) (a:Act) (w:World),listed.size=init.size->(∀ j,j<init.size->listed.getD j false=true)->wpOpIn F n P (init.push o) Q init.size (Q .normal) a w ->
   wpOpIn F n P (init.push o) Q init.size (wpAnyIn F n P .any (init.push o) Q fuel ((listed.push false).setIfInBounds init.size true)) a w:=by
  intro fuel listed a w hs hall h
  refine wpOpIn_mono (fun a w hQ=>?_) h
  have hnone:Region.ready .any (init.push o) ((listed.push false).setIfInBounds init.size true)=[]:=by
   cases hr:Region.ready .any (init.push o) ((listed.push false).setIfInBounds init.size true) with
   | nil=>rfl
   | cons i l =>
    have:i∈Region.ready .any (init.push o) ((listed.push false).setIfInBounds init.size true):=by rw [hr];simp
    rw [AQ] at this
    obtain ⟨h1,h2,_⟩:=this
    exfalso
    simp only [Array.size_push] at h1
    rcases Nat.lt_or_ge i init.size with hi | hi
    .have:=hall i hi
     refine gft listed i hs hi ?_ this
     have h3:((listed.push false).setIfInBounds init.size true).getD i true=(listed.push false).getD i true:=by
      simp only [ax,Array.getElem?_setIfInBounds]
      rw [if_neg (by omega)]
     rw [<- gdt listed i hs hi,<- h3]
     exact h2
    .have:i=init.size:=by omega
     subst this
     simp [ax,hs] at h2
  cases fuel with
  | zero=>exact ⟨hnone,hQ⟩
  | succ fuel=>exact ⟨fun _=>hQ,fun i hi=>by rw [hnone] at hi;cases hi⟩
 intro fuel
 induction fuel with
 | zero =>
  intro listed a w hs hcl h
  obtain ⟨hr,h⟩:=h
  have hall:=all listed hs hr
  refine ⟨fun hno=>?_,fun i hi=>?_⟩
  .exfalso
   have:init.size∈Region.ready .any (init.push o) (listed.push false):=by
    rw [AQ]
    refine ⟨by simp,by simp [ax,<- hs],o,by simp,fun e he hbe=>?_⟩
    have:=(D1 hT (j:=init.size) (o:=o) (by simp)).2 e he hbe
    rw [gd listed _ hs]
    exact hall e.on (by omega)
   rw [hno] at this
   cases this
  .have hi':i=init.size:=by
    rw [AQ] at hi
    obtain ⟨h1,h2,_⟩:=hi
    simp only [Array.size_push] at h1
    rcases Nat.lt_or_ge i init.size with hlt | hge
    .exfalso
     have:=hall i hlt
     rw [gdt listed i hs hlt] at h2
     exact gft listed i hs hlt h2 this
    .omega
   subst hi'
   exact last 0 listed a w hs hall h
 | succ fuel ih =>
  intro listed a w hs hcl h
  obtain ⟨h0,h1⟩:=h
  refine ⟨fun hno=>?_,fun i hi=>?_⟩
  .exfalso
   have hr:Region.ready .any init listed=[]:=by
    cases hr:Region.ready .any init listed with
    | nil=>rfl
    | cons i l =>
     have hi:i∈Region.ready .any init listed:=by rw [hr];simp
     have:i∈Region.ready .any (init.push o) (listed.push false):=by
      rw [AQ] at hi ⊢
      obtain ⟨g1,g2,p,g3,g4⟩:=hi
      exact ⟨by simp;omega,by rw [gdt listed i hs g1];exact g2,p,by rw [Array.getElem?_push,if_neg (by omega)];exact g3,fun e he hbe=>by rw [gd listed _ hs];exact g4 e he hbe⟩
     rw [hno] at this
     cases this
   have hall:=all listed hs hr
   have:init.size∈Region.ready .any (init.push o) (listed.push false):=by
    rw [AQ]
    refine ⟨by simp,by simp [ax,<- hs],o,by simp,fun e he hbe=>?_⟩
    have:=(D1 hT (j:=init.size) (o:=o) (by simp)).2 e he hbe
    rw [gd listed _ hs]
    exact hall e.on (by omega)
   rw [hno] at this
   cases this
  .rcases Nat.lt_or_ge i init.size with hlt | hge
   .have hir:i∈Region.ready .any init listed:=by
     rw [AQ] at hi ⊢
     obtain ⟨g1,g2,p,g3,g4⟩:=hi
     exact ⟨hlt,by rw [<- gdt listed i hs hlt];exact g2,p,by rw [Array.getElem?_push,if_neg (by omega)] at g3;exact g3,fun e he hbe=>by rw [<- gd listed _ hs];exact g4 e he hbe⟩
    have hstep:=MO (o:=o) hd hlt (h1 i hir)
    refine wpOpIn_mono (fun a w hk=>?_) hstep
    have hset:(listed.push false).setIfInBounds i true=(listed.setIfInBounds i true).push false:=by
     apply Array.ext_getElem?
     intro j
     simp only [Array.getElem?_setIfInBounds,Array.getElem?_push,Array.size_setIfInBounds,Array.size_push]
     by_cases hj:i=j
     .subst hj
      have:¬ i=listed.size:=by omega
      simp [this,(by omega:i<listed.size+1),(by omega:i<listed.size)]
     .simp [hj]
    rw [hset]
    refine ih (listed.setIfInBounds i true) a w (by simpa using hs) ?_ hk
    intro j p hj hp e he hbe
    have hg:∀ q,(listed.setIfInBounds i true).getD q false=if q=i then true else listed.getD q false:=fun q=>by
     simp only [ax,Array.getElem?_setIfInBounds]
     by_cases hq:q=i
     .subst hq;simp [(by omega:q<listed.size)]
     .simp [hq,Ne.symm hq]
    rw [hg] at hj ⊢
    by_cases hq:e.on=i
    .rw [if_pos hq]
    .rw [if_neg hq]
     by_cases hji:j=i
     .subst hji
      rw [AQ] at hir
      obtain ⟨_,_,p',g3,g4⟩:=hir
      rw [hp] at g3;cases g3
      exact g4 e he hbe
     .rw [if_neg hji] at hj
      exact hcl j p hj hp e he hbe
   .have hi':i=init.size:=by
     rw [AQ] at hi
     have:=hi.1
     simp only [Array.size_push] at this
     omega
    subst hi'
    have hall:=lastAll listed hs hcl hi
    have hno:Region.ready .any init listed=[]:=by
     cases hr:Region.ready .any init listed with
     | nil=>rfl
     | cons j l =>
      have hj:j∈Region.ready .any init listed:=by rw [hr];simp
      rw [AQ] at hj
      obtain ⟨g1,g2,_⟩:=hj
      have:=hall j g1
      exact (gft listed j hs g1 g2 this).elim
    exact last (fuel+1) listed a w hs hall (h0 hno)
def L1(f:Bool)(opsA:Array Oper)(s:A4)(k:A4->Prop):Prop:=match f&&Nat.beq s.na 0 with
 | true=>(match opsA.toList.getLast? with
  | some o=>(match o.op,o.dst with
   | .assign _,some d=>(match sealAs s d with
    | some p=>Ay p.ns (k (Cp s p))
    | none=>k s)
   | _,_=>k s)
  | none=>k s)
 | false=>k s
theorem NG{f:Bool}{opsA:Array Oper}{B:Nat}{M:List Nat}{w0:BH}{k:A4->Prop}{Q:Act->World->Prop}(hk:∀ s O a w,Ab B M w0 O s a w->k s->Q a w){s:A4}{O:Env}{a:Act}{w:World}(h:Ab B M w0 O s a w)(hx:L1 f opsA s k):Q a w:=by
 unfold L1 at hx
 split at hx
 .rename_i hc
  simp only [aq,Nat.beq_eq] at hc
  split at hx
  .split at hx
   .split at hx
    .rename_i p hp
     rw [Ac] at hx
     obtain ⟨O',h'⟩:=h.sealAs hc.2 hp hx.1
     exact hk _ _ _ _ h' hx.2
    .exact hk _ _ _ _ h hx
   .exact hk _ _ _ _ h hx
  .exact hk _ _ _ _ h hx
 .exact hk _ _ _ _ h hx
def NQ(P:Program)(Γ:Gam)(opsA:Array Oper)(s:A4)(k:A4->Prop):Prop:=JK P Γ opsA s fun s'=>L1 (Γ.c 4).isSome opsA s' k
theorem Kp{Γ:Gam}(hΓ:DU P Γ)(hmix:P.follows .mixedOrders=true){B:Nat}{M:List Nat}{w0:BH}{opsA:Array Oper}{id:Nat}{Q:Exit->Act->World->Prop}{k:A4->Prop}(hk:∀ s O a w,Ab B M w0 O s a w->k s->Q .normal a w){s:A4}{O:Env}{a:Act}{w:World}(h:Ab B M w0 O s a w)(hx:NQ P Γ opsA s k):(Code.region id opsA true).wpIn (FW rd) n P Q a w:=Rt hΓ hmix (fun s O a w h1 h2=>NG hk h1 h2) h hx
def NR(P:Program)(Γ:Gam)(opsA:Array Oper)(s:A4)(k:A4->Prop):Prop :=
 match opsA.toList.getLast? with
 | some o=>(match Cm (BS opsA.toList []) 0 opsA.toList&&(RL (BS opsA.toList []) (opsA.toList.length - 1)&&(match o.dst with | none=>true | _=>false)) with
  | true=>JK P Γ opsA.toList.dropLast.toArray s fun s'=>Lj P Γ opsA [o] s' k
  | false=>NQ P Γ opsA s k)
 | none=>False
theorem PK{Γ:Gam}(hΓ:DU P Γ)(hmix:P.follows .mixedOrders=true){B:Nat}{M:List Nat}{w0:BH}{opsA:Array Oper}{id:Nat}{Q:Exit->Act->World->Prop}{k:A4->Prop}(hk:∀ s O a w,Ab B M w0 O s a w->k s->Q .normal a w){s:A4}{O:Env}{a:Act}{w:World}(h:Ab B M w0 O s a w)(hx:NR P Γ opsA s k):(Code.region id opsA true).wpIn (FW rd) n P Q a w:=by
 unfold NR at hx
 split at hx <;> try exact hx.elim
 rename_i o ho
 split at hx
 rotate_left
 .exact Kp hΓ hmix hk h hx
 .rename_i hb
  simp only [aq] at hb
  obtain ⟨hb1,hb2,hb3⟩:=hb
  have hd:o.dst=none:=by split at hb3 <;> simp_all
  have hop:opsA=opsA.toList.dropLast.toArray.push o:=by
   apply Array.toList_inj.1
   simp only [Array.toList_push]
   obtain ⟨ys,e⟩:=List.getLast?_eq_some_iff.1 ho
   rw [e,List.dropLast_concat]
  generalize hI:opsA.toList.dropLast.toArray=init at *
  have hsz:init.size=opsA.toList.length - 1:=by rw [<- hI];simp
  rw [hop] at hb1
  have hb2':RL (BS opsA.toList []) init.size=true:=by rw [hsz];exact hb2
  rw [hop] at hb2'
  refine wpIn_region_any hmix ?_
  have key:=HA (rd:=rd) (n:=n) (Q:=H7 Q fun a w=>wpOpIn (FW rd) n P (init.push o) Q init.size (Q .normal) a w) hΓ (fun s O a w hs hk'=>?_) h hx
  .have:=Il hb1 hb2' hd init.size (Array.replicate init.size false) a _ (by simp) (fun j p hj=>by
    exfalso
    simp only [ax,Array.getElem?_replicate] at hj
    split at hj <;> cases hj) key
   rw [hop]
   have e:(Array.replicate init.size false).push false=Array.replicate (init.push o).size false:=by rw [Array.size_push];exact Array.replicate_succ.symm
   rw [<- e]
   simpa using this
  .show wpOpIn (FW rd) n P (init.push o) Q init.size (Q .normal) a w
   have hl:=Ha (rd:=rd) (n:=n) hΓ (ops:=opsA) (fun s O a w h1 h2=>hk s O a w h1 h2) [o] s O a w hs hk'
   rw [hop] at hl
   unfold wpListIn at hl
   unfold wpOpIn
   rw [Array.getElem?_push_size]
   simp only
   split at hl
   .rename_i hw;rw [if_pos hw];exact hl
   .rename_i hw;rw [if_neg hw];exact hl
end runs
end Go.Sy
