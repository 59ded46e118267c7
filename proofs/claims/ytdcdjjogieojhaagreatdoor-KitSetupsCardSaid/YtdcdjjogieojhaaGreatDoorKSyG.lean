/-
 A symbolic executor for the model's code, part G: one operation as a whole. Conditions: none.
-/
import Derived.Lib.ConvBytes
import Derived.Laws.AppendOwn
import Derived.LaidEql
import Derived.Test.YtdcdjjogieojhaaGreatDoorKSyE
import Derived.Laws.MakeOwn
import Derived.ChangeKeysEq
set_option linter.unusedVariables false
set_option linter.unusedSimpArgs false
set_option linter.unusedSectionVars false
open List renaming mem_singleton->aq
namespace Go.Sy
open Go.RowKit
variable [AO]
section runs
variable {P:Program}
theorem NF{O:Env}{w:World}{t:TypeId}{v:SV}{lo hi:Option SV}{r:Ae}(h:NW P t v lo hi=some r)(hn:∀ b∈r.need,b=true){x:Value}{lo' hi':Option Value}(hv:v.den O x)(dl:Ke O lo lo')(dh:Ke O hi hi')(off:Nat) :
  ∃ z,(Instr.sliceAt t x lo' hi' none).run P w=.ok z w/\A5 O O off r w w z:=by
 unfold NW at h
 split at h <;> try (cases h;done)
 .rename_i n e i hu
  split at h <;> cases h
  rename_i s l hh hs hl hhi
  simp only [aq,forall_eq,decide_eq_true_eq] at hn
  have hb:=AG (P:=P) (w:=w) (len:=n) (cap:=n) false hl hhi dl dh hn.1 hn.2.1 hn.2.2
  obtain ⟨m,hm,rfl⟩:=hv
  refine ⟨.slice (some (if n=l.toNat then ⟨m.blk,m.off+0,none⟩ else (⟨m.blk,m.off+0,none⟩:Addr).add (l.toNat * s))) (hh.toNat - l.toNat) (n - l.toNat),?_,A5.pure_ ⟨_,n - l.toNat,by rw [show (hh - l).toNat=hh.toNat - l.toNat from by omega],⟨by omega,fun h=>by cases h⟩,fun hpos=>⟨m,hm,?_⟩⟩⟩
  .simp [Instr.sliceAt,run_underlying hu,Instr.sureAddr,hb,AI hs]
  .rw [if_neg (by omega),Addr.add_mid];simp
 .rename_i n e sh m d hu
  split at h <;> try (cases h;done)
  rename_i s l hh hs hl hhi
  split at h <;> cases h
  rename_i he
  obtain ⟨rfl,rfl⟩:=he
  simp only [aq,forall_eq,decide_eq_true_eq] at hn
  have hb:=AG (P:=P) (w:=w) (len:=m) (cap:=m) false hl hhi dl dh hn.1 hn.2.1 hn.2.2
  obtain ⟨b,o,rfl,hL⟩:=hv
  refine ⟨.slice (some (if m=l.toNat then ⟨b,o,none⟩ else (⟨b,o,none⟩:Addr).add (l.toNat * sh.length))) (hh.toNat - l.toNat) (m - l.toNat),?_,A5.pure_ ⟨_,m - l.toNat,by rw [show (hh - l).toNat=hh.toNat - l.toNat from by omega],⟨by omega,fun h=>by cases h⟩,fun hpos=>⟨b,o+l.toNat * sh.length,?_,fun q hq=>?_⟩⟩⟩
  .simp [Instr.sliceAt,run_underlying hu,Instr.sureAddr,hb,AI hs]
  .rw [if_neg (by omega),Addr.add_mid]
  .rw [K5,Nat.add_assoc,<- Nat.add_mul]
   exact hL _ (by omega)
 .rename_i e i size k n hu
  split at h <;> try (cases h;done)
  rename_i s l hh hs hl hhi
  split at h <;> cases h
  rename_i he
  subst he
  simp only [aq,forall_eq,decide_eq_true_eq] at hn
  obtain ⟨A,cap,rfl,⟨hcap,hnc⟩,hA⟩:=hv
  have hb:=AG (P:=P) (w:=w) (len:=n) (cap:=cap) true hl hhi dl dh hn.1 hn.2.1 (by omega)
  refine ⟨.slice (if cap=l.toNat then A else A.map (·.add (l.toNat * size))) (hh.toNat - l.toNat) (cap - l.toNat),?_,A5.pure_ ⟨_,cap - l.toNat,by rw [show (hh - l).toNat=hh.toNat - l.toNat from by omega],⟨by omega,fun h=>by cases A with | none=>rw [hnc rfl];omega | some a=>split at h <;> simp at h⟩,fun hpos=>?_⟩⟩
  .simp [Instr.sliceAt,Instr.slice,run_underlying hu,hb,AI hs]
  .obtain ⟨m,hm,rfl⟩:=hA (by omega)
   refine ⟨m,hm,?_⟩
   rw [if_neg (by omega),Option.map_some,Addr.add_mid,Nat.add_mul,Nat.add_assoc]
 .rename_i e i size n hu
  split at h <;> try (cases h;done)
  rename_i s l hh hs hl hhi
  split at h <;> cases h
  rename_i he
  subst he
  simp only [aq,forall_eq,decide_eq_true_eq] at hn
  obtain ⟨m,hm,h0,hcap,rfl⟩:=hv
  have hb:=AG (P:=P) (w:=w) (len:=n) (cap:=m.cap) true hl hhi dl dh hn.1 hn.2.1 (by omega)
  refine ⟨.slice (if m.cap=l.toNat then some ⟨m.blk,0,none⟩ else (some (⟨m.blk,0,none⟩:Addr)).map (·.add (l.toNat * size))) (hh.toNat - l.toNat) (m.cap - l.toNat),?_,A5.pure_ ⟨_,m.cap - l.toNat,by rw [show (hh - l).toNat=hh.toNat - l.toNat from by omega],⟨by omega,fun h=>by split at h <;> simp at h⟩,fun hpos=>?_⟩⟩
  .simp [Instr.sliceAt,Instr.slice,run_underlying hu,hb,AI hs]
  .refine ⟨m,hm,?_⟩
   rw [if_neg (by omega),Option.map_some,Addr.add_mid,h0]
 .rename_i e i size n hu
  split at h <;> try (cases h;done)
  rename_i s l hh hs hl hhi
  split at h <;> cases h
  rename_i he
  subst he
  simp only [aq,forall_eq,decide_eq_true_eq] at hn
  have e0:l=0\/lo≠none:=by
   cases lo with
   | none=>simp only [bnd,Option.some.injEq] at hl;exact .inl hl.symm
   | some v=>exact .inr (by simp)
  rcases hv with ⟨rfl,A,rfl⟩ | ⟨m,hm,h0,hcap,rfl⟩
  .have hb:=AG (P:=P) (w:=w) (len:=0) (cap:=0) true hl hhi dl dh hn.1 hn.2.1 (by omega)
   refine ⟨.slice (if 0=l.toNat then A else A.map (·.add (l.toNat * size))) (hh.toNat - l.toNat) (0 - l.toNat),?_,A5.pure_ ?_⟩
   .simp [Instr.sliceAt,Instr.slice,run_underlying hu,hb,AI hs]
   .cases lo with
    | none =>
     have el:l=0:=by rcases e0 with h | h;exact h;exact absurd rfl h
     subst el
     exact .inl ⟨by omega,A,by rw [show hh.toNat - (0:Int).toNat=hh.toNat from by omega,show hh.toNat=0 from by omega];simp⟩
    | some v=>exact ⟨_,0 - l.toNat,by rw [show (hh - l).toNat=hh.toNat - l.toNat from by omega],⟨by omega,fun _=>by omega⟩,fun hpos=>by omega⟩
  have hb:=AG (P:=P) (w:=w) (len:=n) (cap:=m.cap) true hl hhi dl dh hn.1 hn.2.1 (by omega)
  refine ⟨.slice (if m.cap=l.toNat then some ⟨m.blk,0,none⟩ else (some (⟨m.blk,0,none⟩:Addr)).map (·.add (l.toNat * size))) (hh.toNat - l.toNat) (m.cap - l.toNat),?_,A5.pure_ ?_⟩
  .simp [Instr.sliceAt,Instr.slice,run_underlying hu,hb,AI hs]
  .cases lo with
   | none =>
    have el:l=0:=by rcases e0 with h | h;exact h;exact absurd rfl h
    subst el
    exact .inr ⟨m,hm,h0,by omega,by simp [Addr.add_mid]⟩
   | some v =>
    refine ⟨_,m.cap - l.toNat,by rw [show (hh - l).toNat=hh.toNat - l.toNat from by omega],⟨by omega,fun h=>by split at h <;> simp at h⟩,fun hpos=>?_⟩
    refine ⟨m,hm,?_⟩
    rw [if_neg (by omega),Option.map_some,Addr.add_mid,h0]
 .rename_i e hu
  split at h <;> try (cases h;done)
  rename_i s l hh hs hl hhi
  cases h
  simp only [aq,forall_eq,decide_eq_true_eq] at hn
  cases hv
  have hb:=AG (P:=P) (w:=w) (len:=0) (cap:=0) true hl hhi dl dh hn.1 hn.2.1 (by omega)
  refine ⟨.slice none 0 0,?_,A5.pure_ rfl⟩
  have e1:l.toNat=0:=by omega
  have e2:hh.toNat=0:=by omega
  simp [Instr.sliceAt,Instr.slice,run_underlying hu,hb,AI hs,e1,e2]
 .rename_i e sh n d hu
  split at h <;> try (cases h;done)
  rename_i s l hh hs hl hhi
  split at h <;> cases h
  rename_i he
  subst he
  simp only [aq,forall_eq,decide_eq_true_eq] at hn
  obtain ⟨A,cap,rfl,⟨hcap,hnc⟩,hA⟩:=hv
  have hb:=AG (P:=P) (w:=w) (len:=n) (cap:=cap) true hl hhi dl dh hn.1 hn.2.1 (by omega)
  refine ⟨.slice (if cap=l.toNat then A else A.map (·.add (l.toNat * sh.length))) (hh.toNat - l.toNat) (cap - l.toNat),?_,A5.pure_ ⟨_,cap - l.toNat,by rw [show (hh - l).toNat=hh.toNat - l.toNat from by omega],⟨by omega,fun h=>by cases A with | none=>rw [hnc rfl];omega | some a=>split at h <;> simp at h⟩,fun hpos=>?_⟩⟩
  .simp [Instr.sliceAt,Instr.slice,run_underlying hu,hb,AI hs]
  .obtain ⟨b,o,rfl,hL⟩:=hA (by omega)
   refine ⟨b,o+l.toNat * sh.length,?_,fun q hq=>?_⟩
   .rw [if_neg (by omega),Option.map_some,Addr.add_mid]
   .rw [K5,Nat.add_assoc,<- Nat.add_mul]
    exact hL _ (by omega)
 .rename_i s hu
  split at h <;> cases h
  rename_i l hh hl hhi
  simp only [aq,forall_eq,decide_eq_true_eq] at hn
  cases hv
  have hb:=AG (P:=P) (w:=w) (len:=s.size) (cap:=s.size) false hl hhi dl dh hn.1 hn.2.1 hn.2.2
  refine ⟨.string (s.extract l.toNat hh.toNat),?_,A5.pure_ rfl⟩
  simp [Instr.sliceAt,Instr.slice,run_underlying hu,hb]
def kdT(P:Program):Nat->TypeId->Option (List Kd)
 | 0,_=>none
 | f+1,t=>match P.underlying t with
  | some (.int k)=>some [.int k]
  | some .bool=>some [.bool]
  | some .string=>some [.str]
  | some (.slice e)=>(kdT P f e).map fun l=>[.sl l]
  | some (.array n e)=>(kdT P f e).map fun l=>(List.range n).flatMap fun _=>l
  | some (.struct fields)=>fields.toList.foldr (fun fd acc=>match kdT P f fd.type,acc with | some a,some b=>some (a ++ b) | _,_=>none) (some [])
  | _=>none
def Kd.fit:Kd->SV->SV
 | .sl sh,.nsl=>.ro sh 0 A3
 | _,v=>v
def HZ:List Kd->List SV->List SV
 | kd :: l,v :: cs=>kd.fit v :: HZ l cs
 | _,cs=>cs
theorem Oj{O:Env}(kd:Kd){v:SV}{x:Value}(h:v.den O x):(kd.fit v).den O x:=by
 unfold Kd.fit
 split
 .exact ⟨none,0,h,⟨Nat.le_refl _,fun _=>rfl⟩,fun h=>absurd h (Nat.lt_irrefl _)⟩
 .exact h
theorem GQ{O:Env}:∀ {sh:List Kd} {cs:List SV} {xs:List Value},SV.denL O cs xs->SV.denL O (HZ sh cs) xs
 | [],[],[],h=>h
 | [],_ :: _,_ :: _,h=>h
 | _ :: _,[],[],h=>h
 | kd :: sh,v :: cs,x :: xs,⟨h,k⟩=>⟨Oj kd h,GQ k⟩
 | _,[],_ :: _,h=>h.elim
 | _,_ :: _,[],h=>h.elim
theorem BJ:∀ (sh:List Kd) (cs:List SV),(HZ sh cs).length=cs.length
 | [],cs=>by cases cs <;> rfl
 | _ :: _,[]=>rfl
 | _ :: sh,_ :: cs=>by simp [HZ,BJ sh cs]
def OM(cs:List SV)(c:Nat):Nat:=match cs[c]? with | some (.ro _ n _)=>n | some (.rz _ n _ _)=>n | _=>0
def OK(cs:List SV)(c:Nat):Option Dat:=match cs[c]? with | some (.ro _ _ d)=>some d | some (.rp _ d _ _)=>some d | some (.mp _ d)=>some d | some (.rz _ _ _ d)=>some d | _=>none
def C3(cs:List SV):Dat:={ ii:=fun _ c=>IW cs c,ss:=fun _ c=>Km cs c,bb:=fun _ c=>He cs c,sn:=fun _ c=>OM cs c,sd:=fun _ c=>OK cs c }
theorem I6{cs:List SV}{sh:List Kd}(h:DH sh cs=true)(k:Nat):el sh (C3 cs) k=cs :=
 Qe h fun c v hc=>by cases v <;> simp [Dat.has,C3,Dat.sub,IW,He,Km,OM,OK,hc]
def EV(P:Program)(off:Nat)(t:TypeId)(l c:SV):Option Ae :=
 match P.underlying t,l,c with
 | some (.slice e),.int _ n,.int _ c=>match P.info? e with
  | some i=>match i.zero with
   | some z=>match kdT P 8 e with
    | some sh=>if i.bytes<=1024/\z.cells.size=i.size/\0<i.size/\DH sh (HZ sh (z.cells.toList.map zv1))=true then some { v:=.own off i.size n.toNat,news:=[.row e sh n.toNat (C3 (HZ sh (z.cells.toList.map zv1)))],need:=[decide (0<=n/\n<=c/\c<=1073741824)] } else none
    | none=>none
   | none=>none
  | none=>none
 | _,_,_=>none
theorem Jk{O:Env}{w:World}{off:Nat}{t:TypeId}{l c:SV}{r:Ae}(h:EV P off t l c=some r)(hn:∀ b∈r.need,b=true){x y:Value}(hl:l.den O x)(hc:c.den O y)(hf:O off=none)(hod:∀ b o v,O.od b o=some v->b<w.heap.size) :
  ∃ z w' O',(Instr.makeSlice t x y).run P w=.ok z w'/\A5 O O' off r w w' z:=by
 unfold EV at h
 split at h <;> try (cases h;done)
 rename_i e kl n kc c hu
 split at h <;> try (cases h;done)
 rename_i i hi
 split at h <;> try (cases h;done)
 rename_i z hz
 split at h <;> try (cases h;done)
 rename_i sh hsh
 split at h <;> cases h
 rename_i hcond
 obtain ⟨hby,hzs,hpos,hkd⟩:=hcond
 have hshl:sh.length=i.size:=by
  have:=(Db.1 hkd).1
  simp [BJ,hzs] at this
  exact this.symm
 cases hl
 cases hc
 simp only [aq,forall_eq,decide_eq_true_eq] at hn
 obtain ⟨hn0,hnc,hc0⟩:=hn
 have hb:(i.bytes:Int) * c<=281474976710656:=by
  have h1:(i.bytes:Int) * c<=1024 * 1073741824:=Int.mul_le_mul (by omega) hc0 (by omega) (by omega)
  omega
 have hrun:=run_make (P:=P) w t e i z hu hi hz kl kc n c hn0 hnc hb (by omega)
 have hel:F4 (O.set off ⟨w.heap.size,0,c.toNat⟩) (w.alloc (.cells (madeCells z.cells (c.toNat * i.size)) e)) ⟨w.heap.size,0,c.toNat⟩ sh.length n.toNat (el sh (C3 (HZ sh (z.cells.toList.map zv1)))):=by
  intro k hk
  rw [I6 hkd,hshl]
  refine ⟨by simp [BJ,hzs],fun j v hj=>?_⟩
  have hjl:j<i.size:=by have:=(List.getElem?_eq_some_iff.1 hj).1;simp [BJ,hzs] at this;exact this
  obtain ⟨y,hy,hd⟩:=AP (GQ (sh:=sh) (zv1_denL (O.set off ⟨w.heap.size,0,c.toNat⟩) z.cells.toList)) hj
  refine ⟨y,?_,hd⟩
  rw [Nat.zero_add,cell_of_row _ w.heap.size _ _ e (0,0) (heap_alloc_new w _)]
  have hlt:k * i.size+j<c.toNat * i.size:=by
   have:(k+1) * i.size<=c.toNat * i.size:=Nat.mul_le_mul_right _ (by omega)
   rw [Nat.succ_mul] at this
   omega
  have hmod:(k * i.size+j) % i.size=j:=by rw [Nat.add_comm,Nat.add_mul_mod_self_right,Nat.mod_eq_of_lt hjl]
  have hyj:z.cells[j]? = some y:=by simpa using hy
  simp only [madeCells,Array.getElem?_map,Array.getElem?_range,hlt,if_true,Option.map_some,hzs,hmod]
  have h2:z.cells[j]! = y:=by rw [getElem!_def,hyj]
  rw [h2]
 refine ⟨_,_,_,hrun,A5.alloc (cap:=c.toNat) (b:=.row e sh n.toNat _) hf rfl hod ⟨rfl,by show n.toNat<=c.toNat;omega,⟨_,heap_alloc_new w _,by rw [size_madeCells,hshl],by show c.toNat<=maxLen;unfold maxLen;omega⟩,hel⟩ ⟨_,Env.set_same _ _ _,rfl,by show n.toNat<=c.toNat;omega,rfl⟩⟩
def Ck(s:BA):Dat:={ A3 with ii:=fun q _=>((s.data.toList.getD q 0).toNat:Int) }
def JJ(P:Program)(src dst:TypeId)(v:SV):Option Ae :=
 match P.underlying src,P.underlying dst,v with
 | some _,some (.int k),.int _ n=>some { v:=.int k (k.wrap n) }
 | some .string,some .string,.str s=>some { v:=.str s }
 | some _,some (.slice e),.str s=>match P.underlying e with
  | some (.int .u8)=>some { v:=.ro [.int .u8] s.size (Ck s) }
  | _=>none
 | _,_,_=>none
theorem KY{O:Env}{w:World}{src dst:TypeId}{v:SV}{r:Ae}(h:JJ P src dst v=some r){x:Value}(hv:v.den O x)(off:Nat)(hod:∀ b o v,O.od b o=some v->b<w.heap.size) :
  ∃ y w' O',(convert src dst x).run P w=.ok y w'/\A5 O O' off r w w' y:=by
 unfold JJ at h
 split at h
 .cases h
  rename_i d k k' n hs hd
  cases hv
  exact ⟨.int k (k.wrap n),w,O,by simp [convert,run_underlying hs,run_underlying hd,Conv.intToInt],A5.pure_ rfl⟩
 .cases h
  rename_i s hs hd
  cases hv
  exact ⟨.string s,w,O,by simp [convert,run_underlying hs,run_underlying hd],A5.pure_ rfl⟩
 .rename_i u e s hs hd
  split at h
  .rename_i he
   cases h
   cases hv
   have hodE:AB O.od ⟨fun b o=>if b=w.heap.size then (Lib.bytesWorld w e s).cell? ⟨b,o,none⟩ else O.od b o,O.od.m,O.od.p⟩:=AB.ofC fun b o v hb=>by
    have:=hod b o v hb
    have hne:b≠w.heap.size:=by omega
    simp only [if_neg hne,hb]
   refine ⟨_,_,⟨O.nm,⟨fun b o=>if b=w.heap.size then (Lib.bytesWorld w e s).cell? ⟨b,o,none⟩ else O.od b o,O.od.m,O.od.p⟩,O.gl.ext hodE⟩,Lib.run_convert_string_bytes w src dst e s hs hd he,?_⟩
   refine ⟨?_,⟨fun i m hm=>hm,hodE⟩,fun _ _=>rfl,rfl,rfl,rfl,by rw [Lib.bytesWorld_size];omega,fun b hb _=>Lib.bytesWorld_at_old w e s b hb,.ofC fun b o v hb=>?_,fun _ hu=>by simp at hu,fun _ _ hj=>by simp at hj,fun _ _ _ _ _ _ _ hj=>by simp at hj⟩
   .simp only [SV.den]
    refine ⟨_,_,rfl,⟨?_,fun hz=>by cases hz⟩,fun h0=>⟨w.heap.size,0,rfl,fun q hq=>?_⟩⟩
    .exact grownCap_ge w s.size 0 e
    .simp only [Kd.denL,Kd.den,List.length_singleton,Nat.mul_one,Nat.zero_add,Nat.add_zero,if_true]
     exact ⟨⟨_,Lib.bytesWorld_cell w e s q hq,rfl⟩,trivial⟩
   .by_cases hb':b=w.heap.size
    .subst hb'
     simp only [if_true] at hb
     exact Or.inr ⟨hb,Nat.le_refl _⟩
    .simp only [if_neg hb'] at hb
     exact Or.inl hb
  .cases h
 .cases h
def xUn(op:UnOp)(v:SV):Option Ae :=
 match op,v with
 | .neg,.int k n=>some { v:=.int k (k.wrap (0 - n)) }
 | .not,.bool b=>some { v:=.bool (!b) }
 | _,_=>none
theorem Si{O:Env}{w:World}{op:UnOp}{v:SV}{r:Ae}(h:xUn op v=some r){x:Value}(hv:v.den O x)(off:Nat) :
  ∃ y,(Op.unary op x).run P w=.ok y w/\A5 O O off r w w y:=by
 unfold xUn at h
 split at h <;> cases h
 .rename_i k n
  cases hv
  exact ⟨.int k (k.wrap (0 - n)),by simp [Op.unary,Op.intArith],A5.pure_ rfl⟩
 .rename_i b
  cases hv
  exact ⟨.bool (!b),by simp [Op.unary],A5.pure_ rfl⟩
def SE(op:BinOp)(k:IntKind)(x y:Int):Option Int :=
 match op with
 | .and=>some (k.wrap (BitVec.ofInt k.bits x &&& BitVec.ofInt k.bits y).toNat)
 | .or=>some (k.wrap (BitVec.ofInt k.bits x ||| BitVec.ofInt k.bits y).toNat)
 | .xor=>some (k.wrap (BitVec.ofInt k.bits x ^^^ BitVec.ofInt k.bits y).toNat)
 | .andNot=>some (k.wrap (BitVec.ofInt k.bits x &&& ~~~ BitVec.ofInt k.bits y).toNat)
 | _=>none
def Tw(op:BinOp)(k:IntKind)(a b:Int):Option Ae :=
 match op with
 | .add=>some { v:=.int k (k.wrap (a+b)) }
 | .sub=>some { v:=.int k (k.wrap (a - b)) }
 | .mul=>some { v:=.int k (k.wrap (a * b)) }
 | .quo=>some { v:=.int k (k.wrap (a.tdiv b)),need:=[!decide (b=0)] }
 | .rem=>some { v:=.int k (a.tmod b),need:=[!decide (b=0)] }
 | .eql=>some { v:=.bool (decide (a=b)) }
 | .neq=>some { v:=.bool (!decide (a=b)) }
 | .lss=>some { v:=.bool (decide (a<b)) }
 | .leq=>some { v:=.bool (decide (a<=b)) }
 | .gtr=>some { v:=.bool (decide (b<a)) }
 | .geq=>some { v:=.bool (decide (b<=a)) }
 | op=>(SE op k a b).map fun n=>{ v:=.int k n }
def Dg(rec:TypeId->SV->SV->Option Bool)(P:Program)(xs ys:List SV):List (TypeId × Nat)->Option Bool
 | []=>some true
 | (t,o) :: rest=>match H2 P t xs o,H2 P t ys o with
  | some a,some b=>match rec t a b,Dg rec P xs ys rest with
   | some r,some r'=>some (r&&r')
   | _,_=>none
  | _,_=>none
def eqS(P:Program):Nat->TypeId->SV->SV->Option Bool
 | 0,_,_,_=>none
 | d+1,t,x,y=>match P.underlying t,x,y with
  | some .bool,.bool a,.bool b=>some (a == b)
  | some (.int _),.int k a,.int k' b=>if k=k' then some (decide (a=b)) else none
  | some .string,.str a,.str b=>some (decide (a=b))
  | some (.struct fields),.agg xs,.agg ys=>if P.stoodInHeld t=false then Dg (eqS P d) P xs ys ((fields.toList.filter fun f=>f.name != "_").map fun f=>(f.type,f.offset)) else none
  | some (.array n e),.agg xs,.agg ys=>match Ch P e with
   | some s=>Dg (eqS P d) P xs ys ((List.range n).map fun i=>(e,i * s))
   | none=>none
  | _,_,_=>none
def QT(P:Program)(t:TypeId):Bool:=match P.underlying t with
 | some (.pointer e)=>(match Ch P e with
  | some (_+1)=>true
  | _=>false)
 | _=>false
theorem QU{t:TypeId}(h:QT P t=true):∃ e n,P.underlying t=some (.pointer e)/\Ch P e=some (n+1):=by
 unfold QT at h
 split at h <;> try (cases h;done)
 rename_i e hu
 split at h <;> try (cases h;done)
 rename_i n hs
 exact ⟨e,n,hu,hs⟩
def xEq(P:Program)(t:TypeId)(x y:SV)(no:Bool):Option Ae :=
 match x,y with
 | .bool a,.bool b=>match P.underlying t with
  | some .bool=>some { v:=.bool (if no then !(a == b) else a == b) }
  | _=>none
 | .agg _,.agg _=>if P.eqGuardType P.depth t=false then (eqS P 10000 t x y).map fun b=>{ v:=.bool (if no then !b else b) } else none
 | .nsl,.nsl=>match P.underlying t with
  | some (.slice _)=>some { v:=.bool (!no) }
  | _=>none
 | .own _ _ _,.nsl=>match P.underlying t with
  | some (.slice _)=>some { v:=.bool no }
  | _=>none
 | .rn _ _ _,.nsl=>match P.underlying t with
  | some (.slice _)=>some { v:=.bool no }
  | _=>none
 | .rp _ _ _ _,.val (.pointer none)=>match P.underlying t with
  | some (.pointer _)=>some { v:=.bool no }
  | _=>none
 | .rq b _ _ _ _,.val (.pointer none)=>match P.underlying t with
  | some (.pointer _)=>some { v:=.bool (if no then b else !b) }
  | _=>none
 | .rz b _ _ _,.val (.pointer none)=>match P.underlying t with
  | some (.pointer _)=>some { v:=.bool (if no then b else !b) }
  | _=>none
 | .rz b i _ _,.rz c j _ _=>match QT P t with
  | true=>some { v:=.bool (if no then !(cond b (c&&Nat.beq i j) (!c)) else cond b (c&&Nat.beq i j) (!c)) }
  | false=>none
 | _,_=>none
def Sw(P:Program)(op:BinOp)(t:TypeId)(x y:SV):Option Ae :=
 match op,x,y with
 | .shl,.int k a,.int _ b=>some { v:=.int k (k.wrap (a * 2 ^ (min b.toNat k.bits))),need:=[decide (0<=b)] }
 | .shr,.int k a,.int _ b=>some { v:=.int k (a.fdiv (2 ^ (min b.toNat k.bits))),need:=[decide (0<=b)] }
 | op,.int k a,.int k' b=>if k=k' then Tw op k a b else none
 | .add,.str a,.str b=>some { v:=.str (a ++ b),need:=[decide (a.size+b.size<=9223372036854775807)] }
 | .eql,.str a,.str b=>some { v:=.bool (decide (a=b)) }
 | .neq,.str a,.str b=>some { v:=.bool (!decide (a=b)) }
 | .lss,.str a,.str b=>some { v:=.bool (Op.bytesLess a.toList b.toList) }
 | .eql,x,y=>xEq P t x y false
 | .neq,x,y=>xEq P t x y true
 | _,_,_=>none
theorem Iv(a b:BA):(a.toList == b.toList)=decide (a=b):=by
 rw [Bool.eq_iff_iff]
 simp only [beq_iff_eq,decide_eq_true_eq]
 rw [ByteArray.toList_eq,ByteArray.toList_eq]
 constructor
 .intro h;obtain ⟨⟨x⟩⟩:=a;obtain ⟨⟨y⟩⟩:=b;simp at h;subst h;rfl
 .rintro rfl;rfl
abbrev SP(P:Program)(d:Nat):Prop:=∀ (t:TypeId) (x y:SV) (b:Bool),eqS P d t x y=some b->∀ (O:Env) (u v:Value) (w:World),x.den O u->y.den O v->(Op.equalIn d t u v).run P w=.ok b w
theorem EH{d:Nat}(ih:SP P d){O:Env}{xs ys:List SV}{us vs:List Value}(hx:SV.denL O xs us)(hy:SV.denL O ys vs)(w:World):∀ (fs:List Field) (b:Bool),
  Dg (eqS P d) P xs ys ((fs.filter fun f=>f.name != "_").map fun f=>(f.type,f.offset))=some b->(Op.eqFields d ⟨us⟩ ⟨vs⟩ fs).run P w=.ok b w
 | [],b,h=>by simp only [List.filter_nil,List.map_nil,Dg,Option.some.injEq] at h;subst h;simp [Op.eqFields]
 | f :: fs,b,h=>by
  by_cases hn:f.name="_"
  .have:(f.name != "_")=false:=by simp [hn]
   rw [List.filter_cons,this] at h
   have:=EH ih hx hy w fs b h
   simp [Op.eqFields,hn,this]
  .have:(f.name != "_")=true:=by simp [hn]
   rw [List.filter_cons,this] at h
   simp only [if_true,List.map_cons,Dg] at h
   split at h <;> try (cases h;done)
   rename_i a c ha hc
   split at h <;> try (cases h;done)
   rename_i r r' hr hr'
   cases h
   obtain ⟨u,hu,hdu⟩:=D0 (w:=w) ha hx
   obtain ⟨v,hv,hdv⟩:=D0 (w:=w) hc hy
   have he:=ih f.type a c r hr O u v w hdu hdv
   have hrest:=EH ih hx hy w fs r' hr'
   simp only [Op.eqFields,hn,ne_eq,not_false_eq_true,if_true,Sem.run_bind,hu,hv,he,Result.andThen_ok]
   cases r
   .simp
   .simpa using hrest
theorem HH{d:Nat}(ih:SP P d){O:Env}{e:TypeId}{s:Nat}{xs ys:List SV}{us vs:List Value}(hx:SV.denL O xs us)(hy:SV.denL O ys vs)(w:World):∀ (is:List Nat) (b:Bool),
  Dg (eqS P d) P xs ys (is.map fun i=>(e,i * s))=some b->(Op.eqItems d e s ⟨us⟩ ⟨vs⟩ is).run P w=.ok b w
 | [],b,h=>by simp only [List.map_nil,Dg,Option.some.injEq] at h;subst h;simp [Op.eqItems]
 | i :: is,b,h=>by
  simp only [List.map_cons,Dg] at h
  split at h <;> try (cases h;done)
  rename_i a c ha hc
  split at h <;> try (cases h;done)
  rename_i r r' hr hr'
  cases h
  obtain ⟨u,hu,hdu⟩:=D0 (w:=w) ha hx
  obtain ⟨v,hv,hdv⟩:=D0 (w:=w) hc hy
  have he:=ih e a c r hr O u v w hdu hdv
  have hrest:=HH ih hx hy w is r' hr'
  simp only [Op.eqItems,Sem.run_bind,hu,hv,he,Result.andThen_ok]
  cases r
  .simp
  .simpa using hrest
theorem I7:∀ d:Nat,SP P d
 | 0,t,x,y,b,h,_,_,_,_,_,_=>by simp [eqS] at h
 | d+1,t,x,y,b,h,O,u,v,w,hx,hy=>by
  simp only [eqS] at h
  split at h <;> try (cases h;done)
  .rename_i a c hu
   cases h;cases hx;cases hy
   exact run_equalIn_bool' w d t a c hu
  .rename_i kk k a k' c hu
   split at h <;> cases h
   rename_i hk
   subst hk
   cases hx;cases hy
   exact run_equalIn_int w d t k kk a c hu
  .rename_i a c hu
   cases h;cases hx;cases hy
   rw [run_equalIn_string w d t a c hu,Iv]
  .rename_i fields xs ys hu
   split at h <;> try (cases h;done)
   rename_i hst
   obtain ⟨us,rfl,hxs⟩:=hx
   obtain ⟨vs,rfl,hys⟩:=hy
   have hf:P.fieldsOf t=fields:=by unfold Program.fieldsOf;rw [hu]
   rw [run_equalIn_struct w d t _ _ (by rw [hf];exact hu) hst,hf]
   exact EH (I7 d) hxs hys w _ b h
  .rename_i n e xs ys hu
   split at h <;> try (cases h;done)
   rename_i s hs
   obtain ⟨us,rfl,hxs⟩:=hx
   obtain ⟨vs,rfl,hys⟩:=hy
   unfold Ch at hs
   cases hi:P.info? e with
   | none=>simp [hi] at hs
   | some i =>
    simp only [hi,Option.map_some,Option.some.injEq] at hs
    rw [run_equalIn_array w d _ _ hu hi]
    have hc:P.cellsOf e=s:=by simp [Program.cellsOf,hi,hs]
    rw [hc]
    exact HH (I7 d) hxs hys w _ b h
theorem R1{O:Env}{w:World}{op:BinOp}{k:IntKind}{a b:Int}{r:Ae}(hop:op≠.shl/\op≠.shr)(h:Tw op k a b=some r)(hn:∀ b∈r.need,b=true)(t:TypeId)(off:Nat) :
  ∃ z,(binOp op t (.int k a) (.int k b)).run P w=.ok z w/\A5 O O off r w w z:=by
 cases op <;> simp only [Tw,SE,Option.map_some,Option.map_none] at h <;> try (cases h;done)
 all_goals try (exact absurd rfl hop.1)
 all_goals try (exact absurd rfl hop.2)
 all_goals cases h
 case add=>exact ⟨_,by simp [binOp,Op.intArith],A5.pure_ rfl⟩
 case sub=>exact ⟨_,by simp [binOp,Op.intArith],A5.pure_ rfl⟩
 case mul=>exact ⟨_,by simp [binOp,Op.intArith],A5.pure_ rfl⟩
 case quo =>
  have hb:¬ b=0:=by simpa using hn
  exact ⟨_,by simp [binOp,Op.intDiv,hb],A5.pure_ rfl⟩
 case rem =>
  have hb:¬ b=0:=by simpa using hn
  exact ⟨_,by simp [binOp,Op.intDiv,hb],A5.pure_ rfl⟩
 case and=>exact ⟨_,by simp [binOp,Op.intBits],A5.pure_ rfl⟩
 case or=>exact ⟨_,by simp [binOp,Op.intBits],A5.pure_ rfl⟩
 case xor=>exact ⟨_,by simp [binOp,Op.intBits],A5.pure_ rfl⟩
 case andNot=>exact ⟨_,by simp [binOp,Op.intBits],A5.pure_ rfl⟩
 case eql=>exact ⟨.bool (decide (a=b)),by simp only [binOp,Op.intCmp];rw [if_neg (by simp)];rfl,A5.pure_ rfl⟩
 case neq=>exact ⟨.bool (!decide (a=b)),by simp only [binOp,Op.intCmp];rw [if_neg (by simp)];rfl,A5.pure_ rfl⟩
 case lss=>exact ⟨.bool (decide (a<b)),by simp only [binOp,Op.intCmp];rw [if_neg (by simp)];rfl,A5.pure_ rfl⟩
 case leq=>exact ⟨.bool (decide (a<=b)),by simp only [binOp,Op.intCmp];rw [if_neg (by simp)];rfl,A5.pure_ rfl⟩
 case gtr=>exact ⟨.bool (decide (b<a)),by simp only [binOp,Op.intCmp];rw [if_neg (by simp)];rfl,A5.pure_ rfl⟩
 case geq=>exact ⟨.bool (decide (b<=a)),by simp only [binOp,Op.intCmp];rw [if_neg (by simp)];rfl,A5.pure_ rfl⟩
theorem Am(op:BinOp)(t:TypeId)(x y:Operand)(u v:Value)(w:World)(h:∀ xs ys,¬ (u=.agg xs/\v=.agg ys))(h2:u≠.nilIface\/v≠.nilIface):(eqGuard op t x y u v).run P w=.ok () w:=by
 unfold eqGuard
 cases op <;> simp only [Bool.not_true,Bool.not_false,if_true,Sem.run_pure,Bool.false_eq_true,if_false] <;> try rfl
 all_goals
  cases u <;> first | rfl | skip
  all_goals cases v <;> first | rfl | (simp at h2;done) | exact absurd ⟨rfl,rfl⟩ (h _ _)
theorem Ht(d:Nat){t e:TypeId}(hu:P.underlying t=some (.slice e))(w:World)(a b:Nat)(c:Option Addr)(n m:Nat):(Op.equalIn (d+1) t (.slice none a b) (.slice c n m)).run P w=.ok c.isNone w:=by
 simp only [Op.equalIn,Sem.run_bind,run_underlying hu,Result.andThen_ok,Sem.run_pure]
theorem E4(d:Nat){t e:TypeId}(hu:P.underlying t=some (.slice e))(w:World)(p:Addr)(a b:Nat)(n m:Nat):(Op.equalIn (d+1) t (.slice (some p) a b) (.slice none n m)).run P w=.ok false w:=by
 simp only [Op.equalIn,Sem.run_bind,run_underlying hu,Result.andThen_ok,Sem.run_pure]
theorem Bm(d:Nat){t e:TypeId}(hu:P.underlying t=some (.pointer e))(w:World)(p:Option Addr):(Op.equalIn (d+1) t (.pointer p) (.pointer none)).run P w=.ok p.isNone w:=by
 cases p <;> simp only [Op.equalIn,Sem.run_bind,run_underlying hu,Result.andThen_ok,Sem.run_pure,Option.isNone]
theorem Hu(d:Nat){t e:TypeId}(hu:P.underlying t=some (.pointer e)){n:Nat}(hs:Ch P e=some (n+1))(w:World)(p q:Option Addr)(hP:∀ a,p=some a->∃ cc tt,w.heap[a.block]? = some (.cells cc tt (0,0)))(hQ:∀ a,q=some a->∃ cc tt,w.heap[a.block]? = some (.cells cc tt (0,0))):(Op.equalIn (d+1) t (.pointer p) (.pointer q)).run P w=.ok (decide (p=q)) w:=by
 cases p with
 | none=>cases q <;> simp [Op.equalIn,run_underlying hu,Result.andThen_ok,Option.isNone]
 | some a =>
  cases q with
  | none=>simp [Op.equalIn,run_underlying hu,Result.andThen_ok,Option.isNone]
  | some b =>
   have hsz:(sizeOf e).run P w=.ok (n+1) w:=AI hs w
   by_cases hab:a=b
   .subst hab
    simp [Op.equalIn,run_underlying hu,hsz,Result.andThen_ok,run_sameAddr_same]
   .obtain ⟨ca,ta,ha⟩:=hP a rfl
    obtain ⟨cb,tb,hb⟩:=hQ b rfl
    have hsa:(sameAddr a b).run P w=.ok false w:=run_sameAddr_other w hab ha hb
    simp [Op.equalIn,run_underlying hu,hsz,Result.andThen_ok,hsa,hab]
theorem BV{t:TypeId}{u v:Value}{b:Bool}{w:World}(no:Bool)(hb:binOp (if no then .neq else .eql) t u v=(if no then (do pure (.bool (!(<- Op.equal t u v)))) else (do pure (.bool (<- Op.equal t u v))):Sem Value))(h:(Op.equalIn (9999+1) t u v).run P w=.ok b w) :
  (binOp (if no then .neq else .eql) t u v).run P w=.ok (.bool (if no then !b else b)) w:=by
 rw [hb]
 have h':(Op.equal t u v).run P w=.ok b w:=h
 cases no <;> simp [h']
theorem OI{O:Env}{w:World}{t:TypeId}{a b:SV}{no:Bool}{r:Ae}(h:xEq P t a b no=some r)(hS:Bj O.od w){x y:Value}(ha:a.den O x)(hb:b.den O y)(ox oy:Operand)(off:Nat) :
  ∃ z,(eqGuard (if no then .neq else .eql) t ox oy x y).run P w=.ok () w/\(binOp (if no then .neq else .eql) t x y).run P w=.ok z w/\A5 O O off r w w z:=by
 unfold xEq at h
 split at h <;> try (cases h;done)
 .rename_i p q
  split at h <;> cases h
  rename_i hu
  cases ha;cases hb
  refine ⟨_,Am _ _ _ _ _ _ _ (by simp) (by simp),?_,A5.pure_ rfl⟩
  exact BV no (by cases no <;> rfl) (run_equalIn_bool' w 9999 t p q hu)
 .rename_i l l'
  split at h <;> try (cases h;done)
  rename_i hg
  rw [Option.map_eq_some_iff] at h
  obtain ⟨e,he,rfl⟩:=h
  have hrun:=I7 10000 t _ _ e he O x y w ha hb
  obtain ⟨xs,rfl,_⟩:=ha
  obtain ⟨ys,rfl,_⟩:=hb
  refine ⟨.bool (if no then !e else e),run_eqGuard_agg w _ _ _ _ _ _ hg,?_,A5.pure_ rfl⟩
  cases no
  .simp only [Bool.false_eq_true,if_false];rw [run_eql_struct,hrun];rfl
  .simp only [if_true];rw [run_neq_struct,hrun];rfl
 .split at h <;> cases h
  rename_i e hu
  cases ha;cases hb
  refine ⟨.bool (if no then !true else true),Am _ _ _ _ _ _ _ (by simp) (by simp),?_,A5.pure_ (by cases no <;> rfl)⟩
  exact BV no (by cases no <;> rfl) (Ht 9999 hu w 0 0 none 0 0)
 .split at h <;> cases h
  rename_i e hu
  obtain ⟨m,hm,h0,hc,rfl⟩:=ha
  cases hb
  refine ⟨.bool (if no then !false else false),Am _ _ _ _ _ _ _ (by simp) (by simp),?_,A5.pure_ (by cases no <;> rfl)⟩
  exact BV no (by cases no <;> rfl) (E4 9999 hu w _ _ _ 0 0)
 .split at h <;> cases h
  rename_i e hu
  obtain ⟨a,c,rfl,_⟩:=ha
  cases hb
  refine ⟨.bool (if no then !false else false),Am _ _ _ _ _ _ _ (by simp) (by simp),?_,A5.pure_ (by cases no <;> rfl)⟩
  exact BV no (by cases no <;> rfl) (E4 9999 hu w _ _ _ 0 0)
 .split at h <;> cases h
  rename_i e hu
  obtain ⟨b,o,rfl,_⟩:=ha
  cases hb
  refine ⟨.bool (if no then !false else false),Am _ _ _ _ _ _ _ (by simp) (by simp),?_,A5.pure_ (by cases no <;> rfl)⟩
  exact BV no (by cases no <;> rfl) (Bm 9999 hu w _)
 .rename_i q _ _ _ _
  split at h <;> cases h
  rename_i e hu
  cases hb
  rcases ha with ⟨rfl,b,o,rfl,_⟩ | ⟨rfl,rfl⟩
  .refine ⟨.bool (if no then !false else false),Am _ _ _ _ _ _ _ (by simp) (by simp),?_,A5.pure_ (by cases no <;> rfl)⟩
   exact BV no (by cases no <;> rfl) (Bm 9999 hu w _)
  .refine ⟨.bool (if no then !true else true),Am _ _ _ _ _ _ _ (by simp) (by simp),?_,A5.pure_ (by cases no <;> rfl)⟩
   exact BV no (by cases no <;> rfl) (Bm 9999 hu w _)
 .rename_i q _ _ _
  split at h <;> cases h
  rename_i e hu
  cases hb
  rcases ha with ⟨rfl,b,rfl,_⟩ | ⟨rfl,rfl⟩
  .refine ⟨.bool (if no then !false else false),Am _ _ _ _ _ _ _ (by simp) (by simp),?_,A5.pure_ (by cases no <;> rfl)⟩
   exact BV no (by cases no <;> rfl) (Bm 9999 hu w _)
  .refine ⟨.bool (if no then !true else true),Am _ _ _ _ _ _ _ (by simp) (by simp),?_,A5.pure_ (by cases no <;> rfl)⟩
   exact BV no (by cases no <;> rfl) (Bm 9999 hu w _)
 .split at h <;> cases h
  rename_i b i _ _ c j _ _ _ hz
  obtain ⟨e,n,hu,hsz⟩:=QU hz
  have key:∃ p q,x=.pointer p/\y=.pointer q/\decide (p=q)=cond b (c&&Nat.beq i j) (!c)/\(∀ a,p=some a->∃ cc tt,w.heap[a.block]? = some (.cells cc tt (0,0)))/\(∀ a,q=some a->∃ cc tt,w.heap[a.block]? = some (.cells cc tt (0,0))):=by
   rcases ha with ⟨rfl,b1,rfl,hp1,_⟩ | ⟨rfl,rfl⟩ <;> rcases hb with ⟨rfl,b2,rfl,hp2,_⟩ | ⟨rfl,rfl⟩
   .refine ⟨_,_,rfl,rfl,?_,fun a ha=>by cases ha;exact (hS.p _ _ hp1).2,fun a ha=>by cases ha;exact (hS.p _ _ hp2).2⟩
    rw [Bool.eq_iff_iff]
    simp only [decide_eq_true_eq,cond_true,Bool.true_and,Nat.beq_eq,Option.some.injEq,Addr.mk.injEq,and_true]
    constructor
    .rintro rfl;rw [hp1] at hp2;exact Option.some.inj hp2
    .rintro rfl;exact O.od.p.inj _ _ _ hp1 hp2
   .exact ⟨_,_,rfl,rfl,by simp,fun a ha=>by cases ha;exact (hS.p _ _ hp1).2,fun a ha=>by cases ha⟩
   .exact ⟨_,_,rfl,rfl,by simp,fun a ha=>(by cases ha),fun a ha=>by cases ha;exact (hS.p _ _ hp2).2⟩
   .exact ⟨_,_,rfl,rfl,by simp,fun a ha=>(by cases ha),fun a ha=>by cases ha⟩
  obtain ⟨p,q,rfl,rfl,hpq,hP,hQ⟩:=key
  rw [<- hpq]
  refine ⟨.bool (if no then !(decide (p=q)) else decide (p=q)),Am _ _ _ _ _ _ _ (by simp) (by simp),?_,A5.pure_ (by cases no <;> rfl)⟩
  exact BV no (by cases no <;> rfl) (Hu 9999 hu hsz w _ _ hP hQ)
theorem Mj{O:Env}{w:World}{op:BinOp}{t:TypeId}{a b:SV}{r:Ae}(h:Sw P op t a b=some r)(hn:∀ b∈r.need,b=true)(hS:Bj O.od w){x y:Value}(ha:a.den O x)(hb:b.den O y)(ox oy:Operand)(off:Nat) :
  ∃ z,(eqGuard op t ox oy x y).run P w=.ok () w/\(binOp op t x y).run P w=.ok z w/\A5 O O off r w w z:=by
 unfold Sw at h
 split at h <;> try (cases h;done)
 .cases h;cases ha;cases hb
  have h0:¬ (_<(0:Int)):=Int.not_lt.2 (by simpa using hn)
  exact ⟨_,Am _ _ _ _ _ _ _ (by simp) (by simp),by simp [binOp,Op.shift,h0],A5.pure_ rfl⟩
 .cases h;cases ha;cases hb
  have h0:¬ (_<(0:Int)):=Int.not_lt.2 (by simpa using hn)
  exact ⟨_,Am _ _ _ _ _ _ _ (by simp) (by simp),by simp [binOp,Op.shift,h0],A5.pure_ rfl⟩
 .rename_i h1 h2
  split at h <;> try (cases h;done)
  rename_i hk
  subst hk
  cases ha;cases hb
  obtain ⟨z,hz,hp⟩:=R1 (P:=P) (O:=O) (w:=w) ⟨h1,h2⟩ h hn t off
  exact ⟨z,Am _ _ _ _ _ _ _ (by simp) (by simp),hz,hp⟩
 .rename_i s s'
  cases h;cases ha;cases hb
  have h0:¬ (((s.size+s'.size:Nat):Int) > IntKind.i64.max):=by
   have:s.size+s'.size<=9223372036854775807:=by simpa using hn
   have e:IntKind.i64.max=9223372036854775807:=by decide
   rw [e];omega
  refine ⟨_,Am _ _ _ _ _ _ _ (by simp) (by simp),?_,A5.pure_ rfl⟩
  simp only [binOp,Op.stringOp]
  rw [if_neg h0];rfl
 .cases h;cases ha;cases hb
  refine ⟨_,Am _ _ _ _ _ _ _ (by simp) (by simp),?_,A5.pure_ rfl⟩
  simp [binOp,Op.stringOp,Iv]
 .cases h;cases ha;cases hb
  refine ⟨_,Am _ _ _ _ _ _ _ (by simp) (by simp),?_,A5.pure_ rfl⟩
  simp [binOp,Op.stringOp,Iv]
 .cases h;cases ha;cases hb
  refine ⟨_,Am _ _ _ _ _ _ _ (by simp) (by simp),?_,A5.pure_ rfl⟩
  simp [binOp,Op.stringOp]
 .exact OI (no:=false) h hS ha hb ox oy off
 .exact OI (no:=true) h hS ha hb ox oy off
end runs
end Go.Sy
namespace Go.Sy
open Go.RowKit
variable [AO]
section runs
variable {P:Program}
abbrev Ctr:=Nat->(Nat->Blk)->List SV->Option Ae
def Ae.need_ok(r:Ae):Prop:=∀ b∈r.need,b=true
def Ag(P:Program)(g:Ctr)(f:FuncId):Prop :=
 (∃ fn,P.funcs[f]? = some fn/\fn.body.isSome=true/\(fn.name == "runtime.NumGoroutine")=false) /\
 ∀ B M O mem off args r,g off mem args=some r->r.need_ok->r.fits mem off->∀ xs w,SV.denL O args xs->Ak B M O mem w->B<=w.heap.size->(∀ j,j<r.news.length->O (off+j)=none) ->
  Calls P f ⟨xs⟩ w fun e w'=>∃ x O',e=.returned x/\A5 O O' off r w w' x
structure Gam where
 c:Nat->Option Ctr
 pix:Bool
def DU(P:Program)(Γ:Gam):Prop:=∀ f g,Γ.c f=some g->Ag P g f
def Aw(out:List SV)(s:Nat):Dat:={ ii:=fun k c=>IW ((out.drop (k * s)).take s) c,ss:=fun k c=>Km ((out.drop (k * s)).take s) c,bb:=fun k c=>He ((out.drop (k * s)).take s) c,sn:=fun k c=>OM ((out.drop (k * s)).take s) c,sd:=fun k c=>OK ((out.drop (k * s)).take s) c }
theorem GJ{out:List SV}{s:Nat}{sh:List Kd}{k:Nat}(h:DH sh ((out.drop (k * s)).take s)=true):el sh (Aw out s) k=(out.drop (k * s)).take s :=
 Qe h fun c v hc=>by cases v <;> simp [Dat.has,Aw,Dat.sub,IW,He,Km,OM,OK,hc]
def IN(sh:List Kd):Nat->List SV->List SV
 | 0,cs=>cs
 | n+1,cs=>HZ sh (cs.take sh.length) ++ IN sh n (cs.drop sh.length)
theorem Fc(sh:List Kd):∀ (n:Nat) (cs:List SV),(IN sh n cs).length=cs.length
 | 0,_=>rfl
 | n+1,cs=>by simp [IN,BJ,Fc sh n];omega
theorem IP{O:Env}{sh:List Kd}:∀ (n:Nat) {cs:List SV} {xs:List Value},SV.denL O cs xs->SV.denL O (IN sh n cs) xs
 | 0,_,_,h=>h
 | n+1,cs,xs,h=>by
  have:=C7 (GQ (sh:=sh) (FH h sh.length)) (IP (sh:=sh) n (FG h sh.length))
  rwa [List.take_append_drop] at this
def E7(P:Program)(off:Nat)(t:TypeId)(n:Nat)(ps:List (Nat × SV)):Option Ae :=
 match P.underlying t with
 | some (.slice e)=>match Ch P e,Ca P e with
  | some s,some z=>if n * s<=16777216/\z.cells.size=s/\0<s then match Jn (fun i=>some (i * s,s)) ((List.range n).flatMap fun _=>z.cells.toList.map zv1) ps with
    | some out=>match kdT P 8 e with
     | some sh=>match sh.length == s&&out.length == n * s&&(List.range n).all (fun k=>DH sh (((IN sh n out).drop (k * s)).take s)) with
      | true=>some { v:=.own off s n,news:=[.row e sh n (Aw (IN sh n out) s)] }
      | false=>some { v:=.slc off s 0 n,news:=[.cells e out] }
     | none=>some { v:=.slc off s 0 n,news:=[.cells e out] }
    | none=>none
   else none
  | _,_=>none
 | _=>none
theorem Gn{O:Env}(z:Array Value):∀ n,SV.denL O ((List.range n).flatMap fun _=>z.toList.map zv1) ((List.range n).flatMap fun _=>z.toList)
 | 0=>trivial
 | n+1=>by
  rw [List.range_succ,List.flatMap_append,List.flatMap_append]
  refine C7 (Gn z n) ?_
  simp only [List.flatMap_cons,List.flatMap_nil,List.append_nil]
  exact zv1_denL O _
theorem JQ(z:Array Value)(hz:0<z.size):∀ n,(Array.range (n * z.size)).map (z[· % z.size]!)=⟨(List.range n).flatMap fun _=>z.toList⟩
 | 0=>by simp
 | n+1=>by
  have ih:=JQ z hz n
  rw [List.range_succ,List.flatMap_append]
  apply Array.toList_inj.1
  have h2:=congrArg Array.toList ih
  simp only [Array.toList_map,Array.toList_range] at h2 ⊢
  rw [Nat.succ_mul,List.range_add,List.map_append,h2]
  congr 1
  simp only [List.flatMap_cons,List.flatMap_nil,List.append_nil,List.map_map]
  apply List.ext_getElem (by simp)
  intro i h1 h2
  simp at h1
  simp [Nat.mod_eq_of_lt h1,Nat.add_mod,h1]
theorem I1{O:Env}{w:World}{off:Nat}{t:TypeId}{n:Nat}{ps:List (Nat × SV)}{r:Ae}(h:E7 P off t n ps=some r){xs:Array (Nat × Value)}(hp:Gj O ps xs.toList)(hf:O off=none)(hod:∀ b o v,O.od b o=some v->b<w.heap.size) :
  ∃ y w' O',(Instr.buildSlice t n xs).run P w=.ok y w'/\A5 O O' off r w w' y:=by
 unfold E7 at h
 split at h <;> try (cases h;done)
 rename_i e hu
 split at h <;> try (cases h;done)
 rename_i s z hs hz
 split at h <;> try (cases h;done)
 rename_i hc
 obtain ⟨hsz,hzs,hpos⟩:=hc
 split at h <;> try (cases h;done)
 rename_i out hout
 obtain ⟨ys,hys,hd⟩:=GM hp (cs:=⟨(List.range n).flatMap fun _=>z.cells.toList⟩) (Gn z.cells n) hout
 have hrun:(Instr.buildSlice t n xs).run P w=.ok (.slice (some ⟨w.heap.size,0,none⟩) n n) (w.alloc (.cells ys e)):=by
  have h24:¬ (n * s > 2 ^ 24):=by omega
  unfold Instr.buildSlice
  simp only [Sem.run_bind,run_underlying hu,Result.andThen_ok,AI hs,if_neg h24]
  by_cases h0:n * s=0
  .have hn:n=0:=by
    rcases Nat.mul_eq_zero.1 h0 with h | h
    .exact h
    .omega
   have hE:∀ f:Nat->Value,(Array.range (n * s)).map f=⟨(List.range n).flatMap fun _=>z.cells.toList⟩:=by
    intro f;subst hn;simp
   simp only [if_pos h0,hE,hys]
   simp [newRow]
  .have hb:(Array.range (n * s)).map (fun x=>z.cells[x % z.cells.size]!)=⟨(List.range n).flatMap fun _=>z.cells.toList⟩:=by
    rw [<- hzs]
    exact JQ z.cells (by omega) n
   simp only [if_neg h0,Sem.run_bind,BP hz,Result.andThen_ok,Sem.run_pure,hb,hys]
   simp [newRow]
 have plain:∀ r:Ae,r={ v:=.slc off s 0 n,news:=[.cells e out] }->∃ y w' O',(Instr.buildSlice t n xs).run P w=.ok y w'/\A5 O O' off r w w' y:=by
  rintro r rfl
  refine ⟨_,_,_,hrun,A5.alloc (cap:=n) (b:=.cells e out) hf rfl hod ⟨rfl,_,heap_alloc_new w _,SV.denL_mono (Env.set_ext hf) _ _ hd⟩ ⟨_,_,rfl,⟨Nat.le_refl _,fun h=>by cases h⟩,fun _=>⟨_,Env.set_same _ _ _,by simp⟩⟩⟩
 split at h
 .rename_i sh hsh
  split at h
  .rename_i hc2
   cases h
   simp only [Bool.and_eq_true,beq_iff_eq] at hc2
   obtain ⟨⟨hshl,hol⟩,hall⟩:=hc2
   have hkds:∀ k,k<n->DH sh (((IN sh n out).drop (k * s)).take s)=true:=fun k hk=>(List.all_eq_true.1 hall) k (List.mem_range.2 hk)
   have hd:=IP (sh:=sh) n hd
   have hysz:ys.size=n * s:=by have:=Ax hd;simp [Fc] at this;omega
   have hel:F4 (O.set off ⟨w.heap.size,0,n⟩) (w.alloc (.cells ys e)) ⟨w.heap.size,0,n⟩ sh.length n (el sh (Aw (IN sh n out) s)):=by
    intro k hk
    rw [GJ (hkds k hk),hshl]
    have hks:(k+1) * s<=n * s:=Nat.mul_le_mul_right _ (by omega)
    rw [Nat.succ_mul] at hks
    refine ⟨by simp [Fc];omega,fun j v hj=>?_⟩
    rw [List.getElem?_take] at hj
    split at hj <;> try (cases hj;done)
    rw [List.getElem?_drop] at hj
    obtain ⟨y,hy,hdy⟩:=AP hd hj
    refine ⟨y,?_,SV.den_mono (Env.set_ext hf) _ _ hdy⟩
    rw [Nat.zero_add,cell_of_row _ w.heap.size _ _ e (0,0) (heap_alloc_new w _)]
    simpa using hy
   have hn:n<=maxLen:=by
    have:n * 1<=n * s:=Nat.mul_le_mul_left _ hpos
    unfold maxLen;omega
   exact ⟨_,_,_,hrun,A5.alloc (cap:=n) (b:=.row e sh n _) hf rfl hod ⟨rfl,Nat.le_refl _,⟨_,heap_alloc_new w _,by rw [hshl];exact hysz,hn⟩,hel⟩ ⟨_,Env.set_same _ _ _,rfl,Nat.le_refl _,rfl⟩⟩
  .cases h;exact plain _ rfl
 .cases h;exact plain _ rfl
def O9:Ctr:=fun _ _ _=>none
theorem Sm{f:FuncId}{fn:Func}(h:P.funcs[f]? = some fn)(hb:fn.body.isSome=true)(hn:(fn.name == "runtime.NumGoroutine")=false):Ag P O9 f:=⟨⟨fn,h,hb,hn⟩,fun _ _ _ _ _ _ _ h=>by cases h⟩
def JI(P:Program)(t:TypeId)(n:Nat)(ps:List (Nat × SV)):Option Ae :=
 match P.underlying t with
 | some (.slice e)=>match Ch P e,Ca P e with
  | some s,some z=>if n * s<=16777216/\z.cells.size=s/\0<s then match Jn (fun i=>some (i * s,s)) ((List.range n).flatMap fun _=>z.cells.toList.map zv1) ps with
    | some out=>match kdT P 8 e with
     | some sh=>match sh.length == s&&out.length == n * s&&(List.range n).all (fun k=>DH sh (((IN sh n out).drop (k * s)).take s)) with
      | true=>some { v:=.ro sh n (Aw (IN sh n out) s) }
      | false=>none
     | none=>none
    | none=>none
   else none
  | _,_=>none
 | _=>none
theorem KX{O:Env}{w:World}{off:Nat}{t:TypeId}{n:Nat}{ps:List (Nat × SV)}{r:Ae}(h:JI P t n ps=some r){xs:Array (Nat × Value)}(hp:Gj O ps xs.toList)(hod:∀ b o v,O.od b o=some v->b<w.heap.size) :
  ∃ y w' O',(Instr.buildSlice t n xs).run P w=.ok y w'/\A5 O O' off r w w' y:=by
 unfold JI at h
 split at h <;> try (cases h;done)
 rename_i e hu
 split at h <;> try (cases h;done)
 rename_i s z hs hz
 split at h <;> try (cases h;done)
 rename_i hc
 obtain ⟨hsz,hzs,hpos⟩:=hc
 split at h <;> try (cases h;done)
 rename_i out hout
 obtain ⟨ys,hys,hd⟩:=GM hp (cs:=⟨(List.range n).flatMap fun _=>z.cells.toList⟩) (Gn z.cells n) hout
 have hrun:(Instr.buildSlice t n xs).run P w=.ok (.slice (some ⟨w.heap.size,0,none⟩) n n) (w.alloc (.cells ys e)):=by
  have h24:¬ (n * s > 2 ^ 24):=by omega
  unfold Instr.buildSlice
  simp only [Sem.run_bind,run_underlying hu,Result.andThen_ok,AI hs,if_neg h24]
  by_cases h0:n * s=0
  .have hn:n=0:=by
    rcases Nat.mul_eq_zero.1 h0 with h | h
    .exact h
    .omega
   have hE:∀ f:Nat->Value,(Array.range (n * s)).map f=⟨(List.range n).flatMap fun _=>z.cells.toList⟩:=by
    intro f;subst hn;simp
   simp only [if_pos h0,hE,hys]
   simp [newRow]
  .have hb:(Array.range (n * s)).map (fun x=>z.cells[x % z.cells.size]!)=⟨(List.range n).flatMap fun _=>z.cells.toList⟩:=by
    rw [<- hzs]
    exact JQ z.cells (by omega) n
   simp only [if_neg h0,Sem.run_bind,BP hz,Result.andThen_ok,Sem.run_pure,hb,hys]
   simp [newRow]
 split at h <;> try (cases h;done)
 rename_i sh hsh
 split at h <;> try (cases h;done)
 rename_i hc2
 cases h
 simp only [Bool.and_eq_true,beq_iff_eq] at hc2
 obtain ⟨⟨hshl,hol⟩,hall⟩:=hc2
 have hkds:∀ k,k<n->DH sh (((IN sh n out).drop (k * s)).take s)=true:=fun k hk=>(List.all_eq_true.1 hall) k (List.mem_range.2 hk)
 have hd:=IP (sh:=sh) n hd
 have hodE:AB O.od ⟨fun b o=>if b=w.heap.size then (w.alloc (.cells ys e)).cell? ⟨b,o,none⟩ else O.od b o,O.od.m,O.od.p⟩:=AB.ofC fun b o v hb=>by
  have:=hod b o v hb
  have hne:b≠w.heap.size:=by omega
  simp only [if_neg hne,hb]
 have hE:Ext O ⟨O.nm,⟨fun b o=>if b=w.heap.size then (w.alloc (.cells ys e)).cell? ⟨b,o,none⟩ else O.od b o,O.od.m,O.od.p⟩,O.gl.ext hodE⟩:=⟨fun i m hm=>hm,hodE⟩
 refine ⟨_,_,⟨O.nm,⟨fun b o=>if b=w.heap.size then (w.alloc (.cells ys e)).cell? ⟨b,o,none⟩ else O.od b o,O.od.m,O.od.p⟩,O.gl.ext hodE⟩,hrun,?_⟩
 refine ⟨?_,hE,fun _ _=>rfl,rfl,rfl,rfl,by simp,fun b hb _=>Below.heap_alloc _ _ _ hb,.ofC fun b o v hb=>?_,fun _ hu=>by simp at hu,fun _ _ hj=>by simp at hj,fun _ _ _ _ _ _ _ hj=>by simp at hj⟩
 .simp only [SV.den]
  refine ⟨_,_,rfl,⟨Nat.le_refl _,fun hz=>by cases hz⟩,fun h0=>⟨w.heap.size,0,rfl,fun q hq=>?_⟩⟩
  refine (BN (O:=⟨O.nm,⟨fun b o=>if b=w.heap.size then (w.alloc (.cells ys e)).cell? ⟨b,o,none⟩ else O.od b o,O.od.m,O.od.p⟩,O.gl.ext hodE⟩)).2 fun j v hj=>?_
  rw [GJ (hkds q hq),List.getElem?_take] at hj
  split at hj <;> try (cases hj;done)
  rw [List.getElem?_drop] at hj
  obtain ⟨y,hy,hdy⟩:=AP hd hj
  refine ⟨y,?_,SV.den_mono hE _ _ hdy⟩
  simp only [if_true]
  rw [cell_of_row _ w.heap.size _ _ e (0,0) (heap_alloc_new w _),hshl]
  simpa using hy
 .by_cases hb':b=w.heap.size
  .subst hb'
   simp only [if_true] at hb
   exact Or.inr ⟨hb,Nat.le_refl _⟩
  .simp only [if_neg hb'] at hb
   exact Or.inl hb
def Hz(P:Program)(t:TypeId)(ps:List (Nat × SV)):Option Ae :=
 match P.underlying t,ps with
 | some (.slice e),[]=>match Ch P e,Ca P e with
  | some _,some _=>some { v:=.emp }
  | _,_=>none
 | _,_=>none
theorem JU{O:Env}{w:World}{off:Nat}{t:TypeId}{ps:List (Nat × SV)}{r:Ae}(h:Hz P t ps=some r){xs:Array (Nat × Value)}(hp:Gj O ps xs.toList) :
  ∃ y w',(Instr.buildSlice t 0 xs).run P w=.ok y w'/\A5 O O off r w w' y:=by
 unfold Hz at h
 split at h <;> try (cases h;done)
 rename_i e hu
 split at h <;> cases h
 rename_i s z hs hz
 have hx:xs=#[]:=by
  cases xs with
  | mk l=>cases l with
   | nil=>rfl
   | cons a l=>exact hp.elim
 subst hx
 refine ⟨.slice (some ⟨w.heap.size,0,none⟩) 0 0,w.alloc (.cells #[] e),?_,⟨_,rfl⟩,Ext.refl _,fun _ _=>rfl,rfl,rfl,rfl,by simp,fun b hb _=>Below.heap_alloc _ _ _ hb,⟨fun b o v hb=>.inl hb,fun _ _ h=>.inl h,rfl⟩,fun _ hu=>by simp at hu,fun _ _ hj=>by simp at hj,fun _ _ _ _ _ _ _ hj=>by simp at hj⟩
 unfold Instr.buildSlice
 simp only [Sem.run_bind,run_underlying hu,Result.andThen_ok,AI hs]
 simp [newRow,Instr.fill,show Array.range 0=#[] from rfl]
def Tx(P:Program)(t:TypeId)(v:SV):Option Ae :=
 match P.underlying t,v with
 | some .string,.str s=>some { v:=.int .i64 s.size }
 | some (.slice _),.slc _ _ _ n=>some { v:=.int .i64 n }
 | some (.slice _),.own _ _ n=>some { v:=.int .i64 n }
 | some (.slice _),.nsl=>some { v:=.int .i64 0 }
 | some (.slice _),.gr _ _ n=>some { v:=.int .i64 n }
 | some (.slice _),.ro _ n _=>some { v:=.int .i64 n }
 | some (.array n _),_=>some { v:=.int .i64 n }
 | _,_=>none
theorem R2{O:Env}{w:World}{t:TypeId}{v:SV}{r:Ae}(h:Tx P t v=some r){x:Value}(hv:v.den O x)(ty:TypeId)(off:Nat) :
  ∃ y,(Builtin.len_ #[t] ty #[x]).run P w=.ok y w/\A5 O O off r w w y:=by
 unfold Tx at h
 split at h <;> cases h
 .rename_i s hu;cases hv
  exact ⟨.int .i64 s.size,by simp [Builtin.len_,run_underlying hu,goInt],A5.pure_ rfl⟩
 .rename_i e i size k n hu;obtain ⟨A,c,rfl,_⟩:=hv
  exact ⟨.int .i64 n,by simp [Builtin.len_,run_underlying hu,goInt],A5.pure_ rfl⟩
 .rename_i e i size n hu;obtain ⟨m,_,_,_,rfl⟩:=hv
  exact ⟨.int .i64 n,by simp [Builtin.len_,run_underlying hu,goInt],A5.pure_ rfl⟩
 .rename_i e hu;cases hv
  exact ⟨.int .i64 0,by simp [Builtin.len_,run_underlying hu,goInt],A5.pure_ rfl⟩
 .rename_i e i size n hu
  rcases hv with ⟨rfl,A,rfl⟩ | ⟨m,_,_,_,rfl⟩
  .exact ⟨.int .i64 0,by simp [Builtin.len_,run_underlying hu,goInt],A5.pure_ rfl⟩
  .exact ⟨.int .i64 n,by simp [Builtin.len_,run_underlying hu,goInt],A5.pure_ rfl⟩
 .rename_i e sh n d hu;obtain ⟨A,c,rfl,_⟩:=hv
  exact ⟨.int .i64 n,by simp [Builtin.len_,run_underlying hu,goInt],A5.pure_ rfl⟩
 .rename_i n e hu
  exact ⟨.int .i64 n,by simp [Builtin.len_,run_underlying hu,goInt],A5.pure_ rfl⟩
def P6(a b:Int):Int:=if a<b then b else a
def Ta(a b:Int):Int:=if b<a then b else a
def Sz(op:Int->Int->Int):List SV->Option SV
 | []=>none
 | .int k a :: l=>l.foldlM (fun (v:SV) (u:SV)=>match v,u with
  | .int k a,.int _ b=>some (.int k (op a b))
  | _,_=>none) (.int k a)
 | _=>none
theorem Jl{O:Env}{w:World}{op:Int->Int->Int}{f:Value->Value->Sem Value}(hf:∀ k a k' b w,(f (.int k a) (.int k' b)).run P w=.ok (.int k (op a b)) w):∀ {l:List SV} {v u:SV} {x:Value} {xs:List Value},l.foldlM (fun (v:SV) (u:SV)=>match v,u with
  | .int k a,.int _ b=>some (.int k (op a b))
  | _,_=>none) v=some u->v.den O x->SV.denL O l xs->∃ y,(xs.foldlM f x).run P w=.ok y w/\u.den O y
 | [],v,u,x,xs,h,hv,hl=>by
  cases xs with
  | cons _ _=>exact hl.elim
  | nil=>simp at h;subst h;exact ⟨x,by simp,hv⟩
 | z :: l,v,u,x,xs,h,hv,hl=>by
  cases xs with
  | nil=>exact hl.elim
  | cons c cs =>
   obtain ⟨hz,hl⟩:=hl
   simp only [List.foldlM_cons,Option.bind_eq_bind,Option.bind_eq_some_iff] at h
   obtain ⟨v',hv',h⟩:=h
   split at hv' <;> cases hv'
   rename_i k a k' b
   cases hv
   cases hz
   obtain ⟨y,hy,hd⟩:=Jl hf (x:=.int k (op a b)) h rfl hl
   refine ⟨y,?_,hd⟩
   rw [List.foldlM_cons,Sem.run_bind,hf]
   exact hy
theorem QF:∀ k a k' b w,(Builtin.max2 (.int k a) (.int k' b)).run P w=.ok (.int k (P6 a b)) w:=fun k a k' b w=>by simp [Builtin.max2,P6]
theorem QH:∀ k a k' b w,(Builtin.min2 (.int k a) (.int k' b)).run P w=.ok (.int k (Ta a b)) w:=fun k a k' b w=>by simp [Builtin.min2,Ta]
end runs
end Go.Sy
