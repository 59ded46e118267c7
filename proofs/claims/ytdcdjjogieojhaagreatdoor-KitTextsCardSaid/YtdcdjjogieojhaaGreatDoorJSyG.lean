/-
 A symbolic executor for the model's code, part G: one operation as a whole. Conditions: none.
-/
import Derived.Lib.ConvBytes
import Derived.Laws.AppendOwn
import Derived.LaidEql
import Derived.Test.YtdcdjjogieojhaaGreatDoorJSyE
import Derived.Laws.MakeOwn
import Derived.ChangeKeysEq
namespace Go.Sy
set_option linter.unusedVariables false
set_option linter.unusedSimpArgs false
open Go.RowKit
set_option linter.unusedSectionVars false
variable [Globs]
section runs
variable {P:Program}
theorem run_xSlice {ρ:Env} {w:World} {t:TypeId} {v:SV} {lo hi:Option SV} {r:OpRes} (h:xSlice P t v lo hi=some r) (hn:∀ b∈r.need,b=true) {x:Value} {lo' hi':Option Value} (hv:v.den ρ x) (dl:odenO ρ lo lo') (dh:odenO ρ hi hi') (off:Nat) :
  ∃ z,(Instr.sliceAt t x lo' hi' none).run P w=.ok z w∧OpPost ρ ρ off r w w z:=by
 unfold xSlice at h
 split at h <;> try (cases h;done)
 ·rename_i n e i hu
  split at h <;> cases h
  rename_i s l hh hs hl hhi
  simp only [List.mem_singleton,forall_eq,decide_eq_true_eq] at hn
  have hb:=run_sliceBounds_bnd (P:=P) (w:=w) (len:=n) (cap:=n) false hl hhi dl dh hn.1 hn.2.1 hn.2.2
  obtain ⟨m,hm,rfl⟩:=hv
  refine ⟨.slice (some (if n=l.toNat then ⟨m.blk,m.off+0,none⟩ else (⟨m.blk,m.off+0,none⟩:Addr).add (l.toNat * s))) (hh.toNat - l.toNat) (n - l.toNat),?_,OpPost.pure_ ⟨_,n - l.toNat,by rw [show (hh - l).toNat=hh.toNat - l.toNat from by omega],⟨by omega,fun h=>by cases h⟩,fun hpos=>⟨m,hm,?_⟩⟩⟩
  ·simp [Instr.sliceAt,run_underlying hu,Instr.sureAddr,hb,run_szOf hs]
  ·rw [if_neg (by omega),Addr.add_mid];simp
 ·rename_i n e sh m d hu
  split at h <;> try (cases h;done)
  rename_i s l hh hs hl hhi
  split at h <;> cases h
  rename_i he
  obtain ⟨rfl,rfl⟩:=he
  simp only [List.mem_singleton,forall_eq,decide_eq_true_eq] at hn
  have hb:=run_sliceBounds_bnd (P:=P) (w:=w) (len:=m) (cap:=m) false hl hhi dl dh hn.1 hn.2.1 hn.2.2
  obtain ⟨b,o,rfl,hL⟩:=hv
  refine ⟨.slice (some (if m=l.toNat then ⟨b,o,none⟩ else (⟨b,o,none⟩:Addr).add (l.toNat * sh.length))) (hh.toNat - l.toNat) (m - l.toNat),?_,OpPost.pure_ ⟨_,m - l.toNat,by rw [show (hh - l).toNat=hh.toNat - l.toNat from by omega],⟨by omega,fun h=>by cases h⟩,fun hpos=>⟨b,o+l.toNat * sh.length,?_,fun q hq=>?_⟩⟩⟩
  ·simp [Instr.sliceAt,run_underlying hu,Instr.sureAddr,hb,run_szOf hs]
  ·rw [if_neg (by omega),Addr.add_mid]
  ·rw [kdL_shift,Nat.add_assoc,← Nat.add_mul]
   exact hL _ (by omega)
 ·rename_i e i size k n hu
  split at h <;> try (cases h;done)
  rename_i s l hh hs hl hhi
  split at h <;> cases h
  rename_i he
  subst he
  simp only [List.mem_singleton,forall_eq,decide_eq_true_eq] at hn
  obtain ⟨A,cap,rfl,⟨hcap,hnc⟩,hA⟩:=hv
  have hb:=run_sliceBounds_bnd (P:=P) (w:=w) (len:=n) (cap:=cap) true hl hhi dl dh hn.1 hn.2.1 (by omega)
  refine ⟨.slice (if cap=l.toNat then A else A.map (·.add (l.toNat * size))) (hh.toNat - l.toNat) (cap - l.toNat),?_,OpPost.pure_ ⟨_,cap - l.toNat,by rw [show (hh - l).toNat=hh.toNat - l.toNat from by omega],⟨by omega,fun h=>by cases A with | none=>rw [hnc rfl];omega | some a=>split at h <;> simp at h⟩,fun hpos=>?_⟩⟩
  ·simp [Instr.sliceAt,Instr.slice,run_underlying hu,hb,run_szOf hs]
  ·obtain ⟨m,hm,rfl⟩:=hA (by omega)
   refine ⟨m,hm,?_⟩
   rw [if_neg (by omega),Option.map_some,Addr.add_mid,Nat.add_mul,Nat.add_assoc]
 ·rename_i e i size n hu
  split at h <;> try (cases h;done)
  rename_i s l hh hs hl hhi
  split at h <;> cases h
  rename_i he
  subst he
  simp only [List.mem_singleton,forall_eq,decide_eq_true_eq] at hn
  obtain ⟨m,hm,h0,hcap,rfl⟩:=hv
  have hb:=run_sliceBounds_bnd (P:=P) (w:=w) (len:=n) (cap:=m.cap) true hl hhi dl dh hn.1 hn.2.1 (by omega)
  refine ⟨.slice (if m.cap=l.toNat then some ⟨m.blk,0,none⟩ else (some (⟨m.blk,0,none⟩:Addr)).map (·.add (l.toNat * size))) (hh.toNat - l.toNat) (m.cap - l.toNat),?_,OpPost.pure_ ⟨_,m.cap - l.toNat,by rw [show (hh - l).toNat=hh.toNat - l.toNat from by omega],⟨by omega,fun h=>by split at h <;> simp at h⟩,fun hpos=>?_⟩⟩
  ·simp [Instr.sliceAt,Instr.slice,run_underlying hu,hb,run_szOf hs]
  ·refine ⟨m,hm,?_⟩
   rw [if_neg (by omega),Option.map_some,Addr.add_mid,h0]
 ·rename_i e i size n hu
  split at h <;> try (cases h;done)
  rename_i s l hh hs hl hhi
  split at h <;> cases h
  rename_i he
  subst he
  simp only [List.mem_singleton,forall_eq,decide_eq_true_eq] at hn
  have e0:l=0∨lo≠none:=by
   cases lo with
   | none=>simp only [bnd,Option.some.injEq] at hl;exact .inl hl.symm
   | some v=>exact .inr (by simp)
  rcases hv with ⟨rfl,A,rfl⟩ | ⟨m,hm,h0,hcap,rfl⟩
  ·have hb:=run_sliceBounds_bnd (P:=P) (w:=w) (len:=0) (cap:=0) true hl hhi dl dh hn.1 hn.2.1 (by omega)
   refine ⟨.slice (if 0=l.toNat then A else A.map (·.add (l.toNat * size))) (hh.toNat - l.toNat) (0 - l.toNat),?_,OpPost.pure_ ?_⟩
   ·simp [Instr.sliceAt,Instr.slice,run_underlying hu,hb,run_szOf hs]
   ·cases lo with
    | none =>
     have el:l=0:=by rcases e0 with h | h;exact h;exact absurd rfl h
     subst el
     exact .inl ⟨by omega,A,by rw [show hh.toNat - (0:Int).toNat=hh.toNat from by omega,show hh.toNat=0 from by omega];simp⟩
    | some v=>exact ⟨_,0 - l.toNat,by rw [show (hh - l).toNat=hh.toNat - l.toNat from by omega],⟨by omega,fun _=>by omega⟩,fun hpos=>by omega⟩
  have hb:=run_sliceBounds_bnd (P:=P) (w:=w) (len:=n) (cap:=m.cap) true hl hhi dl dh hn.1 hn.2.1 (by omega)
  refine ⟨.slice (if m.cap=l.toNat then some ⟨m.blk,0,none⟩ else (some (⟨m.blk,0,none⟩:Addr)).map (·.add (l.toNat * size))) (hh.toNat - l.toNat) (m.cap - l.toNat),?_,OpPost.pure_ ?_⟩
  ·simp [Instr.sliceAt,Instr.slice,run_underlying hu,hb,run_szOf hs]
  ·cases lo with
   | none =>
    have el:l=0:=by rcases e0 with h | h;exact h;exact absurd rfl h
    subst el
    exact .inr ⟨m,hm,h0,by omega,by simp [Addr.add_mid]⟩
   | some v =>
    refine ⟨_,m.cap - l.toNat,by rw [show (hh - l).toNat=hh.toNat - l.toNat from by omega],⟨by omega,fun h=>by split at h <;> simp at h⟩,fun hpos=>?_⟩
    refine ⟨m,hm,?_⟩
    rw [if_neg (by omega),Option.map_some,Addr.add_mid,h0]
 ·rename_i e hu
  split at h <;> try (cases h;done)
  rename_i s l hh hs hl hhi
  cases h
  simp only [List.mem_singleton,forall_eq,decide_eq_true_eq] at hn
  cases hv
  have hb:=run_sliceBounds_bnd (P:=P) (w:=w) (len:=0) (cap:=0) true hl hhi dl dh hn.1 hn.2.1 (by omega)
  refine ⟨.slice none 0 0,?_,OpPost.pure_ rfl⟩
  have e1:l.toNat=0:=by omega
  have e2:hh.toNat=0:=by omega
  simp [Instr.sliceAt,Instr.slice,run_underlying hu,hb,run_szOf hs,e1,e2]
 ·rename_i e sh n d hu
  split at h <;> try (cases h;done)
  rename_i s l hh hs hl hhi
  split at h <;> cases h
  rename_i he
  subst he
  simp only [List.mem_singleton,forall_eq,decide_eq_true_eq] at hn
  obtain ⟨A,cap,rfl,⟨hcap,hnc⟩,hA⟩:=hv
  have hb:=run_sliceBounds_bnd (P:=P) (w:=w) (len:=n) (cap:=cap) true hl hhi dl dh hn.1 hn.2.1 (by omega)
  refine ⟨.slice (if cap=l.toNat then A else A.map (·.add (l.toNat * sh.length))) (hh.toNat - l.toNat) (cap - l.toNat),?_,OpPost.pure_ ⟨_,cap - l.toNat,by rw [show (hh - l).toNat=hh.toNat - l.toNat from by omega],⟨by omega,fun h=>by cases A with | none=>rw [hnc rfl];omega | some a=>split at h <;> simp at h⟩,fun hpos=>?_⟩⟩
  ·simp [Instr.sliceAt,Instr.slice,run_underlying hu,hb,run_szOf hs]
  ·obtain ⟨b,o,rfl,hL⟩:=hA (by omega)
   refine ⟨b,o+l.toNat * sh.length,?_,fun q hq=>?_⟩
   ·rw [if_neg (by omega),Option.map_some,Addr.add_mid]
   ·rw [kdL_shift,Nat.add_assoc,← Nat.add_mul]
    exact hL _ (by omega)
 ·rename_i s hu
  split at h <;> cases h
  rename_i l hh hl hhi
  simp only [List.mem_singleton,forall_eq,decide_eq_true_eq] at hn
  cases hv
  have hb:=run_sliceBounds_bnd (P:=P) (w:=w) (len:=s.size) (cap:=s.size) false hl hhi dl dh hn.1 hn.2.1 hn.2.2
  refine ⟨.string (s.extract l.toNat hh.toNat),?_,OpPost.pure_ rfl⟩
  simp [Instr.sliceAt,Instr.slice,run_underlying hu,hb]
def kdT (P:Program):Nat→TypeId→Option (List Kd)
 | 0,_=>none
 | f+1,t=>match P.underlying t with
  | some (.int k)=>some [.int k]
  | some .bool=>some [.bool]
  | some .string=>some [.str]
  | some (.slice e)=>(kdT P f e).map fun l=>[.sl l]
  | some (.array n e)=>(kdT P f e).map fun l=>(List.range n).flatMap fun _=>l
  | some (.struct fields)=>fields.toList.foldr (fun fd acc=>match kdT P f fd.type,acc with | some a,some b=>some (a ++ b) | _,_=>none) (some [])
  | _=>none
def Kd.fit:Kd→SV→SV
 | .sl sh,.nsl=>.ro sh 0 noDat
 | _,v=>v
def fitL:List Kd→List SV→List SV
 | kd :: l,v :: cs=>kd.fit v :: fitL l cs
 | _,cs=>cs
theorem fit_den {ρ:Env} (kd:Kd) {v:SV} {x:Value} (h:v.den ρ x):(kd.fit v).den ρ x:=by
 unfold Kd.fit
 split
 ·exact ⟨none,0,h,⟨Nat.le_refl _,fun _=>rfl⟩,fun h=>absurd h (Nat.lt_irrefl _)⟩
 ·exact h
theorem fitL_den {ρ:Env}:∀ {sh:List Kd} {cs:List SV} {xs:List Value},SV.denL ρ cs xs→SV.denL ρ (fitL sh cs) xs
 | [],[],[],h=>h
 | [],_ :: _,_ :: _,h=>h
 | _ :: _,[],[],h=>h
 | kd :: sh,v :: cs,x :: xs,⟨h,k⟩=>⟨fit_den kd h,fitL_den k⟩
 | _,[],_ :: _,h=>h.elim
 | _,_ :: _,[],h=>h.elim
theorem fitL_length:∀ (sh:List Kd) (cs:List SV),(fitL sh cs).length=cs.length
 | [],cs=>by cases cs <;> rfl
 | _ :: _,[]=>rfl
 | _ :: sh,_ :: cs=>by simp [fitL,fitL_length sh cs]
def slnAt (cs:List SV) (c:Nat):Nat:=match cs[c]? with | some (.ro _ n _)=>n | some (.rz _ n _ _)=>n | _=>0
def sldAt (cs:List SV) (c:Nat):Option Dat:=match cs[c]? with | some (.ro _ _ d)=>some d | some (.rp _ d _ _)=>some d | some (.mp _ d)=>some d | some (.rz _ _ _ d)=>some d | _=>none
def datC (cs:List SV):Dat:={ ii:=fun _ c=>intAt cs c,ss:=fun _ c=>strAt cs c,bb:=fun _ c=>boolAt cs c,sn:=fun _ c=>slnAt cs c,sd:=fun _ c=>sldAt cs c }
theorem el_datC {cs:List SV} {sh:List Kd} (h:kdsB sh cs=true) (k:Nat):el sh (datC cs) k=cs :=
 el_of h fun c v hc=>by cases v <;> simp [Dat.has,datC,Dat.sub,intAt,boolAt,strAt,slnAt,sldAt,hc]
def xMakeSlice (P:Program) (off:Nat) (t:TypeId) (l c:SV):Option OpRes :=
 match P.underlying t,l,c with
 | some (.slice e),.int _ n,.int _ c=>match P.info? e with
  | some i=>match i.zero with
   | some z=>match kdT P 8 e with
    | some sh=>if i.bytes≤1024∧z.cells.size=i.size∧0<i.size∧kdsB sh (fitL sh (z.cells.toList.map zv1))=true then some { v:=.own off i.size n.toNat,news:=[.row e sh n.toNat (datC (fitL sh (z.cells.toList.map zv1)))],need:=[decide (0≤n∧n≤c∧c≤1073741824)] } else none
    | none=>none
   | none=>none
  | none=>none
 | _,_,_=>none
theorem run_xMakeSlice {ρ:Env} {w:World} {off:Nat} {t:TypeId} {l c:SV} {r:OpRes} (h:xMakeSlice P off t l c=some r) (hn:∀ b∈r.need,b=true) {x y:Value} (hl:l.den ρ x) (hc:c.den ρ y) (hf:ρ off=none) (hod:∀ b o v,ρ.od b o=some v→b<w.heap.size) :
  ∃ z w' ρ',(Instr.makeSlice t x y).run P w=.ok z w'∧OpPost ρ ρ' off r w w' z:=by
 unfold xMakeSlice at h
 split at h <;> try (cases h;done)
 rename_i e kl n kc c hu
 split at h <;> try (cases h;done)
 rename_i i hi
 split at h <;> try (cases h;done)
 rename_i z hz
 split at h <;> try (cases h;done)
 rename_i sh hsh
 split at h <;> cases h
 rename_i hcond
 obtain ⟨hby,hzs,hpos,hkd⟩:=hcond
 have hshl:sh.length=i.size:=by
  have:=(kdsB_iff.1 hkd).1
  simp [fitL_length,hzs] at this
  exact this.symm
 cases hl
 cases hc
 simp only [List.mem_singleton,forall_eq,decide_eq_true_eq] at hn
 obtain ⟨hn0,hnc,hc0⟩:=hn
 have hb:(i.bytes:Int) * c≤281474976710656:=by
  have h1:(i.bytes:Int) * c≤1024 * 1073741824:=Int.mul_le_mul (by omega) hc0 (by omega) (by omega)
  omega
 have hrun:=run_make (P:=P) w t e i z hu hi hz kl kc n c hn0 hnc hb (by omega)
 have hel:Elems (ρ.set off ⟨w.heap.size,0,c.toNat⟩) (w.alloc (.cells (madeCells z.cells (c.toNat * i.size)) e)) ⟨w.heap.size,0,c.toNat⟩ sh.length n.toNat (el sh (datC (fitL sh (z.cells.toList.map zv1)))):=by
  intro k hk
  rw [el_datC hkd,hshl]
  refine ⟨by simp [fitL_length,hzs],fun j v hj=>?_⟩
  have hjl:j<i.size:=by have:=(List.getElem?_eq_some_iff.1 hj).1;simp [fitL_length,hzs] at this;exact this
  obtain ⟨y,hy,hd⟩:=denL_get (fitL_den (sh:=sh) (zv1_denL (ρ.set off ⟨w.heap.size,0,c.toNat⟩) z.cells.toList)) hj
  refine ⟨y,?_,hd⟩
  rw [Nat.zero_add,cell_of_row _ w.heap.size _ _ e (0,0) (heap_alloc_new w _)]
  have hlt:k * i.size+j<c.toNat * i.size:=by
   have:(k+1) * i.size≤c.toNat * i.size:=Nat.mul_le_mul_right _ (by omega)
   rw [Nat.succ_mul] at this
   omega
  have hmod:(k * i.size+j) % i.size=j:=by rw [Nat.add_comm,Nat.add_mul_mod_self_right,Nat.mod_eq_of_lt hjl]
  have hyj:z.cells[j]? = some y:=by simpa using hy
  simp only [madeCells,Array.getElem?_map,Array.getElem?_range,hlt,if_true,Option.map_some,hzs,hmod]
  have h2:z.cells[j]! = y:=by rw [getElem!_def,hyj]
  rw [h2]
 refine ⟨_,_,_,hrun,OpPost.alloc (cap:=c.toNat) (b:=.row e sh n.toNat _) hf rfl hod ⟨rfl,by show n.toNat≤c.toNat;omega,⟨_,heap_alloc_new w _,by rw [size_madeCells,hshl],by show c.toNat≤maxLen;unfold maxLen;omega⟩,hel⟩ ⟨_,Env.set_same _ _ _,rfl,by show n.toNat≤c.toNat;omega,rfl⟩⟩
def byteDat (s:ByteArray):Dat:={ noDat with ii:=fun q _=>((s.data.toList.getD q 0).toNat:Int) }
def xConvert (P:Program) (src dst:TypeId) (v:SV):Option OpRes :=
 match P.underlying src,P.underlying dst,v with
 | some _,some (.int k),.int _ n=>some { v:=.int k (k.wrap n) }
 | some .string,some .string,.str s=>some { v:=.str s }
 | some _,some (.slice e),.str s=>match P.underlying e with
  | some (.int .u8)=>some { v:=.ro [.int .u8] s.size (byteDat s) }
  | _=>none
 | _,_,_=>none
theorem run_xConvert {ρ:Env} {w:World} {src dst:TypeId} {v:SV} {r:OpRes} (h:xConvert P src dst v=some r) {x:Value} (hv:v.den ρ x) (off:Nat) (hod:∀ b o v,ρ.od b o=some v→b<w.heap.size) :
  ∃ y w' ρ',(convert src dst x).run P w=.ok y w'∧OpPost ρ ρ' off r w w' y:=by
 unfold xConvert at h
 split at h
 ·cases h
  rename_i d k k' n hs hd
  cases hv
  exact ⟨.int k (k.wrap n),w,ρ,by simp [convert,run_underlying hs,run_underlying hd,Conv.intToInt],OpPost.pure_ rfl⟩
 ·cases h
  rename_i s hs hd
  cases hv
  exact ⟨.string s,w,ρ,by simp [convert,run_underlying hs,run_underlying hd],OpPost.pure_ rfl⟩
 ·rename_i u e s hs hd
  split at h
  ·rename_i he
   cases h
   cases hv
   have hodE:OdExt ρ.od ⟨fun b o=>if b=w.heap.size then (Lib.bytesWorld w e s).cell? ⟨b,o,none⟩ else ρ.od b o,ρ.od.m,ρ.od.p⟩:=OdExt.ofC fun b o v hb=>by
    have:=hod b o v hb
    have hne:b≠w.heap.size:=by omega
    simp only [if_neg hne,hb]
   refine ⟨_,_,⟨ρ.nm,⟨fun b o=>if b=w.heap.size then (Lib.bytesWorld w e s).cell? ⟨b,o,none⟩ else ρ.od b o,ρ.od.m,ρ.od.p⟩,ρ.gl.ext hodE⟩,Lib.run_convert_string_bytes w src dst e s hs hd he,?_⟩
   refine ⟨?_,⟨fun i m hm=>hm,hodE⟩,fun _ _=>rfl,rfl,rfl,rfl,by rw [Lib.bytesWorld_size];omega,fun b hb _=>Lib.bytesWorld_at_old w e s b hb,.ofC fun b o v hb=>?_,fun _ hu=>by simp at hu,fun _ _ hj=>by simp at hj,fun _ _ _ _ _ _ _ hj=>by simp at hj⟩
   ·simp only [SV.den]
    refine ⟨_,_,rfl,⟨?_,fun hz=>by cases hz⟩,fun h0=>⟨w.heap.size,0,rfl,fun q hq=>?_⟩⟩
    ·exact grownCap_ge w s.size 0 e
    ·simp only [Kd.denL,Kd.den,List.length_singleton,Nat.mul_one,Nat.zero_add,Nat.add_zero,if_true]
     exact ⟨⟨_,Lib.bytesWorld_cell w e s q hq,rfl⟩,trivial⟩
   ·by_cases hb':b=w.heap.size
    ·subst hb'
     simp only [if_true] at hb
     exact Or.inr ⟨hb,Nat.le_refl _⟩
    ·simp only [if_neg hb'] at hb
     exact Or.inl hb
  ·cases h
 ·cases h
def xUn (op:UnOp) (v:SV):Option OpRes :=
 match op,v with
 | .neg,.int k n=>some { v:=.int k (k.wrap (0 - n)) }
 | .not,.bool b=>some { v:=.bool (!b) }
 | _,_=>none
theorem run_xUn {ρ:Env} {w:World} {op:UnOp} {v:SV} {r:OpRes} (h:xUn op v=some r) {x:Value} (hv:v.den ρ x) (off:Nat) :
  ∃ y,(Op.unary op x).run P w=.ok y w∧OpPost ρ ρ off r w w y:=by
 unfold xUn at h
 split at h <;> cases h
 ·rename_i k n
  cases hv
  exact ⟨.int k (k.wrap (0 - n)),by simp [Op.unary,Op.intArith],OpPost.pure_ rfl⟩
 ·rename_i b
  cases hv
  exact ⟨.bool (!b),by simp [Op.unary],OpPost.pure_ rfl⟩
def ibits (op:BinOp) (k:IntKind) (x y:Int):Option Int :=
 match op with
 | .and=>some (k.wrap (BitVec.ofInt k.bits x &&& BitVec.ofInt k.bits y).toNat)
 | .or=>some (k.wrap (BitVec.ofInt k.bits x ||| BitVec.ofInt k.bits y).toNat)
 | .xor=>some (k.wrap (BitVec.ofInt k.bits x ^^^ BitVec.ofInt k.bits y).toNat)
 | .andNot=>some (k.wrap (BitVec.ofInt k.bits x &&& ~~~ BitVec.ofInt k.bits y).toNat)
 | _=>none
def xInt (op:BinOp) (k:IntKind) (a b:Int):Option OpRes :=
 match op with
 | .add=>some { v:=.int k (k.wrap (a+b)) }
 | .sub=>some { v:=.int k (k.wrap (a - b)) }
 | .mul=>some { v:=.int k (k.wrap (a * b)) }
 | .quo=>some { v:=.int k (k.wrap (a.tdiv b)),need:=[!decide (b=0)] }
 | .rem=>some { v:=.int k (a.tmod b),need:=[!decide (b=0)] }
 | .eql=>some { v:=.bool (decide (a=b)) }
 | .neq=>some { v:=.bool (!decide (a=b)) }
 | .lss=>some { v:=.bool (decide (a<b)) }
 | .leq=>some { v:=.bool (decide (a≤b)) }
 | .gtr=>some { v:=.bool (decide (b<a)) }
 | .geq=>some { v:=.bool (decide (b≤a)) }
 | op=>(ibits op k a b).map fun n=>{ v:=.int k n }
def eqList (rec:TypeId→SV→SV→Option Bool) (P:Program) (xs ys:List SV):List (TypeId × Nat)→Option Bool
 | []=>some true
 | (t,o) :: rest=>match partS P t xs o,partS P t ys o with
  | some a,some b=>match rec t a b,eqList rec P xs ys rest with
   | some r,some r'=>some (r&&r')
   | _,_=>none
  | _,_=>none
def eqS (P:Program):Nat→TypeId→SV→SV→Option Bool
 | 0,_,_,_=>none
 | d+1,t,x,y=>match P.underlying t,x,y with
  | some .bool,.bool a,.bool b=>some (a == b)
  | some (.int _),.int k a,.int k' b=>if k=k' then some (decide (a=b)) else none
  | some .string,.str a,.str b=>some (decide (a=b))
  | some (.struct fields),.agg xs,.agg ys=>if P.stoodInHeld t=false then eqList (eqS P d) P xs ys ((fields.toList.filter fun f=>f.name != "_").map fun f=>(f.type,f.offset)) else none
  | some (.array n e),.agg xs,.agg ys=>match szOf P e with
   | some s=>eqList (eqS P d) P xs ys ((List.range n).map fun i=>(e,i * s))
   | none=>none
  | _,_,_=>none
def ptrSz (P:Program) (t:TypeId):Bool:=match P.underlying t with
 | some (.pointer e)=>(match szOf P e with
  | some (_+1)=>true
  | _=>false)
 | _=>false
theorem ptrSz_ok {t:TypeId} (h:ptrSz P t=true):∃ e n,P.underlying t=some (.pointer e)∧szOf P e=some (n+1):=by
 unfold ptrSz at h
 split at h <;> try (cases h;done)
 rename_i e hu
 split at h <;> try (cases h;done)
 rename_i n hs
 exact ⟨e,n,hu,hs⟩
def xEq (P:Program) (t:TypeId) (x y:SV) (no:Bool):Option OpRes :=
 match x,y with
 | .bool a,.bool b=>match P.underlying t with
  | some .bool=>some { v:=.bool (if no then !(a == b) else a == b) }
  | _=>none
 | .agg _,.agg _=>if P.eqGuardType P.depth t=false then (eqS P 10000 t x y).map fun b=>{ v:=.bool (if no then !b else b) } else none
 | .nsl,.nsl=>match P.underlying t with
  | some (.slice _)=>some { v:=.bool (!no) }
  | _=>none
 | .own _ _ _,.nsl=>match P.underlying t with
  | some (.slice _)=>some { v:=.bool no }
  | _=>none
 | .rn _ _ _,.nsl=>match P.underlying t with
  | some (.slice _)=>some { v:=.bool no }
  | _=>none
 | .rp _ _ _ _,.val (.pointer none)=>match P.underlying t with
  | some (.pointer _)=>some { v:=.bool no }
  | _=>none
 | .rq b _ _ _ _,.val (.pointer none)=>match P.underlying t with
  | some (.pointer _)=>some { v:=.bool (if no then b else !b) }
  | _=>none
 | .rz b _ _ _,.val (.pointer none)=>match P.underlying t with
  | some (.pointer _)=>some { v:=.bool (if no then b else !b) }
  | _=>none
 | .rz b i _ _,.rz c j _ _=>match ptrSz P t with
  | true=>some { v:=.bool (if no then !(cond b (c&&Nat.beq i j) (!c)) else cond b (c&&Nat.beq i j) (!c)) }
  | false=>none
 | _,_=>none
def xBin (P:Program) (op:BinOp) (t:TypeId) (x y:SV):Option OpRes :=
 match op,x,y with
 | .shl,.int k a,.int _ b=>some { v:=.int k (k.wrap (a * 2 ^ (min b.toNat k.bits))),need:=[decide (0≤b)] }
 | .shr,.int k a,.int _ b=>some { v:=.int k (a.fdiv (2 ^ (min b.toNat k.bits))),need:=[decide (0≤b)] }
 | op,.int k a,.int k' b=>if k=k' then xInt op k a b else none
 | .add,.str a,.str b=>some { v:=.str (a ++ b),need:=[decide (a.size+b.size≤9223372036854775807)] }
 | .eql,.str a,.str b=>some { v:=.bool (decide (a=b)) }
 | .neq,.str a,.str b=>some { v:=.bool (!decide (a=b)) }
 | .lss,.str a,.str b=>some { v:=.bool (Op.bytesLess a.toList b.toList) }
 | .eql,x,y=>xEq P t x y false
 | .neq,x,y=>xEq P t x y true
 | _,_,_=>none
theorem bytes_eq (a b:ByteArray):(a.toList == b.toList)=decide (a=b):=by
 rw [Bool.eq_iff_iff]
 simp only [beq_iff_eq,decide_eq_true_eq]
 rw [ByteArray.toList_eq,ByteArray.toList_eq]
 constructor
 ·intro h;obtain ⟨⟨x⟩⟩:=a;obtain ⟨⟨y⟩⟩:=b;simp at h;subst h;rfl
 ·rintro rfl;rfl
abbrev EqOk (P:Program) (d:Nat):Prop:=∀ (t:TypeId) (x y:SV) (b:Bool),eqS P d t x y=some b→∀ (ρ:Env) (u v:Value) (w:World),x.den ρ u→y.den ρ v→(Op.equalIn d t u v).run P w=.ok b w
theorem eqFields_run {d:Nat} (ih:EqOk P d) {ρ:Env} {xs ys:List SV} {us vs:List Value} (hx:SV.denL ρ xs us) (hy:SV.denL ρ ys vs) (w:World):∀ (fs:List Field) (b:Bool),
  eqList (eqS P d) P xs ys ((fs.filter fun f=>f.name != "_").map fun f=>(f.type,f.offset))=some b→(Op.eqFields d ⟨us⟩ ⟨vs⟩ fs).run P w=.ok b w
 | [],b,h=>by simp only [List.filter_nil,List.map_nil,eqList,Option.some.injEq] at h;subst h;simp [Op.eqFields]
 | f :: fs,b,h=>by
  by_cases hn:f.name="_"
  ·have:(f.name != "_")=false:=by simp [hn]
   rw [List.filter_cons,this] at h
   have:=eqFields_run ih hx hy w fs b h
   simp [Op.eqFields,hn,this]
  ·have:(f.name != "_")=true:=by simp [hn]
   rw [List.filter_cons,this] at h
   simp only [if_true,List.map_cons,eqList] at h
   split at h <;> try (cases h;done)
   rename_i a c ha hc
   split at h <;> try (cases h;done)
   rename_i r r' hr hr'
   cases h
   obtain ⟨u,hu,hdu⟩:=run_partS (w:=w) ha hx
   obtain ⟨v,hv,hdv⟩:=run_partS (w:=w) hc hy
   have he:=ih f.type a c r hr ρ u v w hdu hdv
   have hrest:=eqFields_run ih hx hy w fs r' hr'
   simp only [Op.eqFields,hn,ne_eq,not_false_eq_true,if_true,Sem.run_bind,hu,hv,he,Result.andThen_ok]
   cases r
   ·simp
   ·simpa using hrest
theorem eqItems_run {d:Nat} (ih:EqOk P d) {ρ:Env} {e:TypeId} {s:Nat} {xs ys:List SV} {us vs:List Value} (hx:SV.denL ρ xs us) (hy:SV.denL ρ ys vs) (w:World):∀ (is:List Nat) (b:Bool),
  eqList (eqS P d) P xs ys (is.map fun i=>(e,i * s))=some b→(Op.eqItems d e s ⟨us⟩ ⟨vs⟩ is).run P w=.ok b w
 | [],b,h=>by simp only [List.map_nil,eqList,Option.some.injEq] at h;subst h;simp [Op.eqItems]
 | i :: is,b,h=>by
  simp only [List.map_cons,eqList] at h
  split at h <;> try (cases h;done)
  rename_i a c ha hc
  split at h <;> try (cases h;done)
  rename_i r r' hr hr'
  cases h
  obtain ⟨u,hu,hdu⟩:=run_partS (w:=w) ha hx
  obtain ⟨v,hv,hdv⟩:=run_partS (w:=w) hc hy
  have he:=ih e a c r hr ρ u v w hdu hdv
  have hrest:=eqItems_run ih hx hy w is r' hr'
  simp only [Op.eqItems,Sem.run_bind,hu,hv,he,Result.andThen_ok]
  cases r
  ·simp
  ·simpa using hrest
theorem eqS_run:∀ d:Nat,EqOk P d
 | 0,t,x,y,b,h,_,_,_,_,_,_=>by simp [eqS] at h
 | d+1,t,x,y,b,h,ρ,u,v,w,hx,hy=>by
  simp only [eqS] at h
  split at h <;> try (cases h;done)
  ·rename_i a c hu
   cases h;cases hx;cases hy
   exact run_equalIn_bool' w d t a c hu
  ·rename_i kk k a k' c hu
   split at h <;> cases h
   rename_i hk
   subst hk
   cases hx;cases hy
   exact run_equalIn_int w d t k kk a c hu
  ·rename_i a c hu
   cases h;cases hx;cases hy
   rw [run_equalIn_string w d t a c hu,bytes_eq]
  ·rename_i fields xs ys hu
   split at h <;> try (cases h;done)
   rename_i hst
   obtain ⟨us,rfl,hxs⟩:=hx
   obtain ⟨vs,rfl,hys⟩:=hy
   have hf:P.fieldsOf t=fields:=by unfold Program.fieldsOf;rw [hu]
   rw [run_equalIn_struct w d t _ _ (by rw [hf];exact hu) hst,hf]
   exact eqFields_run (eqS_run d) hxs hys w _ b h
  ·rename_i n e xs ys hu
   split at h <;> try (cases h;done)
   rename_i s hs
   obtain ⟨us,rfl,hxs⟩:=hx
   obtain ⟨vs,rfl,hys⟩:=hy
   unfold szOf at hs
   cases hi:P.info? e with
   | none=>simp [hi] at hs
   | some i =>
    simp only [hi,Option.map_some,Option.some.injEq] at hs
    rw [run_equalIn_array w d _ _ hu hi]
    have hc:P.cellsOf e=s:=by simp [Program.cellsOf,hi,hs]
    rw [hc]
    exact eqItems_run (eqS_run d) hxs hys w _ b h
theorem run_xInt {ρ:Env} {w:World} {op:BinOp} {k:IntKind} {a b:Int} {r:OpRes} (hop:op≠.shl∧op≠.shr) (h:xInt op k a b=some r) (hn:∀ b∈r.need,b=true) (t:TypeId) (off:Nat) :
  ∃ z,(binOp op t (.int k a) (.int k b)).run P w=.ok z w∧OpPost ρ ρ off r w w z:=by
 cases op <;> simp only [xInt,ibits,Option.map_some,Option.map_none] at h <;> try (cases h;done)
 all_goals try (exact absurd rfl hop.1)
 all_goals try (exact absurd rfl hop.2)
 all_goals cases h
 case add=>exact ⟨_,by simp [binOp,Op.intArith],OpPost.pure_ rfl⟩
 case sub=>exact ⟨_,by simp [binOp,Op.intArith],OpPost.pure_ rfl⟩
 case mul=>exact ⟨_,by simp [binOp,Op.intArith],OpPost.pure_ rfl⟩
 case quo =>
  have hb:¬ b=0:=by simpa using hn
  exact ⟨_,by simp [binOp,Op.intDiv,hb],OpPost.pure_ rfl⟩
 case rem =>
  have hb:¬ b=0:=by simpa using hn
  exact ⟨_,by simp [binOp,Op.intDiv,hb],OpPost.pure_ rfl⟩
 case and=>exact ⟨_,by simp [binOp,Op.intBits],OpPost.pure_ rfl⟩
 case or=>exact ⟨_,by simp [binOp,Op.intBits],OpPost.pure_ rfl⟩
 case xor=>exact ⟨_,by simp [binOp,Op.intBits],OpPost.pure_ rfl⟩
 case andNot=>exact ⟨_,by simp [binOp,Op.intBits],OpPost.pure_ rfl⟩
 case eql=>exact ⟨.bool (decide (a=b)),by simp only [binOp,Op.intCmp];rw [if_neg (by simp)];rfl,OpPost.pure_ rfl⟩
 case neq=>exact ⟨.bool (!decide (a=b)),by simp only [binOp,Op.intCmp];rw [if_neg (by simp)];rfl,OpPost.pure_ rfl⟩
 case lss=>exact ⟨.bool (decide (a<b)),by simp only [binOp,Op.intCmp];rw [if_neg (by simp)];rfl,OpPost.pure_ rfl⟩
 case leq=>exact ⟨.bool (decide (a≤b)),by simp only [binOp,Op.intCmp];rw [if_neg (by simp)];rfl,OpPost.pure_ rfl⟩
 case gtr=>exact ⟨.bool (decide (b<a)),by simp only [binOp,Op.intCmp];rw [if_neg (by simp)];rfl,OpPost.pure_ rfl⟩
 case geq=>exact ⟨.bool (decide (b≤a)),by simp only [binOp,Op.intCmp];rw [if_neg (by simp)];rfl,OpPost.pure_ rfl⟩
theorem run_eqGuard_plain (op:BinOp) (t:TypeId) (x y:Operand) (u v:Value) (w:World) (h:∀ xs ys,¬ (u=.agg xs∧v=.agg ys)) (h2:u≠.nilIface∨v≠.nilIface):(eqGuard op t x y u v).run P w=.ok () w:=by
 unfold eqGuard
 cases op <;> simp only [Bool.not_true,Bool.not_false,if_true,Sem.run_pure,Bool.false_eq_true,if_false] <;> try rfl
 all_goals
  cases u <;> first | rfl | skip
  all_goals cases v <;> first | rfl | (simp at h2;done) | exact absurd ⟨rfl,rfl⟩ (h _ _)
theorem run_equalIn_nils (d:Nat) {t e:TypeId} (hu:P.underlying t=some (.slice e)) (w:World) (a b:Nat) (c:Option Addr) (n m:Nat):(Op.equalIn (d+1) t (.slice none a b) (.slice c n m)).run P w=.ok c.isNone w:=by
 simp only [Op.equalIn,Sem.run_bind,run_underlying hu,Result.andThen_ok,Sem.run_pure]
theorem run_equalIn_slnil (d:Nat) {t e:TypeId} (hu:P.underlying t=some (.slice e)) (w:World) (p:Addr) (a b:Nat) (n m:Nat):(Op.equalIn (d+1) t (.slice (some p) a b) (.slice none n m)).run P w=.ok false w:=by
 simp only [Op.equalIn,Sem.run_bind,run_underlying hu,Result.andThen_ok,Sem.run_pure]
theorem run_equalIn_ptrnil (d:Nat) {t e:TypeId} (hu:P.underlying t=some (.pointer e)) (w:World) (p:Option Addr):(Op.equalIn (d+1) t (.pointer p) (.pointer none)).run P w=.ok p.isNone w:=by
 cases p <;> simp only [Op.equalIn,Sem.run_bind,run_underlying hu,Result.andThen_ok,Sem.run_pure,Option.isNone]
theorem run_equalIn_ptrs (d:Nat) {t e:TypeId} (hu:P.underlying t=some (.pointer e)) {n:Nat} (hs:szOf P e=some (n+1)) (w:World) (p q:Option Addr) (hP:∀ a,p=some a→∃ cc tt,w.heap[a.block]? = some (.cells cc tt (0,0))) (hQ:∀ a,q=some a→∃ cc tt,w.heap[a.block]? = some (.cells cc tt (0,0))):(Op.equalIn (d+1) t (.pointer p) (.pointer q)).run P w=.ok (decide (p=q)) w:=by
 cases p with
 | none=>cases q <;> simp [Op.equalIn,run_underlying hu,Result.andThen_ok,Option.isNone]
 | some a =>
  cases q with
  | none=>simp [Op.equalIn,run_underlying hu,Result.andThen_ok,Option.isNone]
  | some b =>
   have hsz:(sizeOf e).run P w=.ok (n+1) w:=run_szOf hs w
   by_cases hab:a=b
   ·subst hab
    simp [Op.equalIn,run_underlying hu,hsz,Result.andThen_ok,run_sameAddr_same]
   ·obtain ⟨ca,ta,ha⟩:=hP a rfl
    obtain ⟨cb,tb,hb⟩:=hQ b rfl
    have hsa:(sameAddr a b).run P w=.ok false w:=run_sameAddr_other w hab ha hb
    simp [Op.equalIn,run_underlying hu,hsz,Result.andThen_ok,hsa,hab]
theorem run_eqOp {t:TypeId} {u v:Value} {b:Bool} {w:World} (no:Bool) (hb:binOp (if no then .neq else .eql) t u v=(if no then (do pure (.bool (!(← Op.equal t u v)))) else (do pure (.bool (← Op.equal t u v))):Sem Value)) (h:(Op.equalIn (9999+1) t u v).run P w=.ok b w) :
  (binOp (if no then .neq else .eql) t u v).run P w=.ok (.bool (if no then !b else b)) w:=by
 rw [hb]
 have h':(Op.equal t u v).run P w=.ok b w:=h
 cases no <;> simp [h']
theorem run_xEq {ρ:Env} {w:World} {t:TypeId} {a b:SV} {no:Bool} {r:OpRes} (h:xEq P t a b no=some r) (hS:SealOk ρ.od w) {x y:Value} (ha:a.den ρ x) (hb:b.den ρ y) (ox oy:Operand) (off:Nat) :
  ∃ z,(eqGuard (if no then .neq else .eql) t ox oy x y).run P w=.ok () w∧(binOp (if no then .neq else .eql) t x y).run P w=.ok z w∧OpPost ρ ρ off r w w z:=by
 unfold xEq at h
 split at h <;> try (cases h;done)
 ·rename_i p q
  split at h <;> cases h
  rename_i hu
  cases ha;cases hb
  refine ⟨_,run_eqGuard_plain _ _ _ _ _ _ _ (by simp) (by simp),?_,OpPost.pure_ rfl⟩
  exact run_eqOp no (by cases no <;> rfl) (run_equalIn_bool' w 9999 t p q hu)
 ·rename_i l l'
  split at h <;> try (cases h;done)
  rename_i hg
  rw [Option.map_eq_some_iff] at h
  obtain ⟨e,he,rfl⟩:=h
  have hrun:=eqS_run 10000 t _ _ e he ρ x y w ha hb
  obtain ⟨xs,rfl,_⟩:=ha
  obtain ⟨ys,rfl,_⟩:=hb
  refine ⟨.bool (if no then !e else e),run_eqGuard_agg w _ _ _ _ _ _ hg,?_,OpPost.pure_ rfl⟩
  cases no
  ·simp only [Bool.false_eq_true,if_false];rw [run_eql_struct,hrun];rfl
  ·simp only [if_true];rw [run_neq_struct,hrun];rfl
 ·split at h <;> cases h
  rename_i e hu
  cases ha;cases hb
  refine ⟨.bool (if no then !true else true),run_eqGuard_plain _ _ _ _ _ _ _ (by simp) (by simp),?_,OpPost.pure_ (by cases no <;> rfl)⟩
  exact run_eqOp no (by cases no <;> rfl) (run_equalIn_nils 9999 hu w 0 0 none 0 0)
 ·split at h <;> cases h
  rename_i e hu
  obtain ⟨m,hm,h0,hc,rfl⟩:=ha
  cases hb
  refine ⟨.bool (if no then !false else false),run_eqGuard_plain _ _ _ _ _ _ _ (by simp) (by simp),?_,OpPost.pure_ (by cases no <;> rfl)⟩
  exact run_eqOp no (by cases no <;> rfl) (run_equalIn_slnil 9999 hu w _ _ _ 0 0)
 ·split at h <;> cases h
  rename_i e hu
  obtain ⟨a,c,rfl,_⟩:=ha
  cases hb
  refine ⟨.bool (if no then !false else false),run_eqGuard_plain _ _ _ _ _ _ _ (by simp) (by simp),?_,OpPost.pure_ (by cases no <;> rfl)⟩
  exact run_eqOp no (by cases no <;> rfl) (run_equalIn_slnil 9999 hu w _ _ _ 0 0)
 ·split at h <;> cases h
  rename_i e hu
  obtain ⟨b,o,rfl,_⟩:=ha
  cases hb
  refine ⟨.bool (if no then !false else false),run_eqGuard_plain _ _ _ _ _ _ _ (by simp) (by simp),?_,OpPost.pure_ (by cases no <;> rfl)⟩
  exact run_eqOp no (by cases no <;> rfl) (run_equalIn_ptrnil 9999 hu w _)
 ·rename_i q _ _ _ _
  split at h <;> cases h
  rename_i e hu
  cases hb
  rcases ha with ⟨rfl,b,o,rfl,_⟩ | ⟨rfl,rfl⟩
  ·refine ⟨.bool (if no then !false else false),run_eqGuard_plain _ _ _ _ _ _ _ (by simp) (by simp),?_,OpPost.pure_ (by cases no <;> rfl)⟩
   exact run_eqOp no (by cases no <;> rfl) (run_equalIn_ptrnil 9999 hu w _)
  ·refine ⟨.bool (if no then !true else true),run_eqGuard_plain _ _ _ _ _ _ _ (by simp) (by simp),?_,OpPost.pure_ (by cases no <;> rfl)⟩
   exact run_eqOp no (by cases no <;> rfl) (run_equalIn_ptrnil 9999 hu w _)
 ·rename_i q _ _ _
  split at h <;> cases h
  rename_i e hu
  cases hb
  rcases ha with ⟨rfl,b,rfl,_⟩ | ⟨rfl,rfl⟩
  ·refine ⟨.bool (if no then !false else false),run_eqGuard_plain _ _ _ _ _ _ _ (by simp) (by simp),?_,OpPost.pure_ (by cases no <;> rfl)⟩
   exact run_eqOp no (by cases no <;> rfl) (run_equalIn_ptrnil 9999 hu w _)
  ·refine ⟨.bool (if no then !true else true),run_eqGuard_plain _ _ _ _ _ _ _ (by simp) (by simp),?_,OpPost.pure_ (by cases no <;> rfl)⟩
   exact run_eqOp no (by cases no <;> rfl) (run_equalIn_ptrnil 9999 hu w _)
 ·split at h <;> cases h
  rename_i b i _ _ c j _ _ _ hz
  obtain ⟨e,n,hu,hsz⟩:=ptrSz_ok hz
  have key:∃ p q,x=.pointer p∧y=.pointer q∧decide (p=q)=cond b (c&&Nat.beq i j) (!c)∧(∀ a,p=some a→∃ cc tt,w.heap[a.block]? = some (.cells cc tt (0,0)))∧(∀ a,q=some a→∃ cc tt,w.heap[a.block]? = some (.cells cc tt (0,0))):=by
   rcases ha with ⟨rfl,b1,rfl,hp1,_⟩ | ⟨rfl,rfl⟩ <;> rcases hb with ⟨rfl,b2,rfl,hp2,_⟩ | ⟨rfl,rfl⟩
   ·refine ⟨_,_,rfl,rfl,?_,fun a ha=>by cases ha;exact (hS.p _ _ hp1).2,fun a ha=>by cases ha;exact (hS.p _ _ hp2).2⟩
    rw [Bool.eq_iff_iff]
    simp only [decide_eq_true_eq,cond_true,Bool.true_and,Nat.beq_eq,Option.some.injEq,Addr.mk.injEq,and_true]
    constructor
    ·rintro rfl;rw [hp1] at hp2;exact Option.some.inj hp2
    ·rintro rfl;exact ρ.od.p.inj _ _ _ hp1 hp2
   ·exact ⟨_,_,rfl,rfl,by simp,fun a ha=>by cases ha;exact (hS.p _ _ hp1).2,fun a ha=>by cases ha⟩
   ·exact ⟨_,_,rfl,rfl,by simp,fun a ha=>(by cases ha),fun a ha=>by cases ha;exact (hS.p _ _ hp2).2⟩
   ·exact ⟨_,_,rfl,rfl,by simp,fun a ha=>(by cases ha),fun a ha=>by cases ha⟩
  obtain ⟨p,q,rfl,rfl,hpq,hP,hQ⟩:=key
  rw [← hpq]
  refine ⟨.bool (if no then !(decide (p=q)) else decide (p=q)),run_eqGuard_plain _ _ _ _ _ _ _ (by simp) (by simp),?_,OpPost.pure_ (by cases no <;> rfl)⟩
  exact run_eqOp no (by cases no <;> rfl) (run_equalIn_ptrs 9999 hu hsz w _ _ hP hQ)
theorem run_xBin {ρ:Env} {w:World} {op:BinOp} {t:TypeId} {a b:SV} {r:OpRes} (h:xBin P op t a b=some r) (hn:∀ b∈r.need,b=true) (hS:SealOk ρ.od w) {x y:Value} (ha:a.den ρ x) (hb:b.den ρ y) (ox oy:Operand) (off:Nat) :
  ∃ z,(eqGuard op t ox oy x y).run P w=.ok () w∧(binOp op t x y).run P w=.ok z w∧OpPost ρ ρ off r w w z:=by
 unfold xBin at h
 split at h <;> try (cases h;done)
 ·cases h;cases ha;cases hb
  have h0:¬ (_<(0:Int)):=Int.not_lt.2 (by simpa using hn)
  exact ⟨_,run_eqGuard_plain _ _ _ _ _ _ _ (by simp) (by simp),by simp [binOp,Op.shift,h0],OpPost.pure_ rfl⟩
 ·cases h;cases ha;cases hb
  have h0:¬ (_<(0:Int)):=Int.not_lt.2 (by simpa using hn)
  exact ⟨_,run_eqGuard_plain _ _ _ _ _ _ _ (by simp) (by simp),by simp [binOp,Op.shift,h0],OpPost.pure_ rfl⟩
 ·rename_i h1 h2
  split at h <;> try (cases h;done)
  rename_i hk
  subst hk
  cases ha;cases hb
  obtain ⟨z,hz,hp⟩:=run_xInt (P:=P) (ρ:=ρ) (w:=w) ⟨h1,h2⟩ h hn t off
  exact ⟨z,run_eqGuard_plain _ _ _ _ _ _ _ (by simp) (by simp),hz,hp⟩
 ·rename_i s s'
  cases h;cases ha;cases hb
  have h0:¬ (((s.size+s'.size:Nat):Int) > IntKind.i64.max):=by
   have:s.size+s'.size≤9223372036854775807:=by simpa using hn
   have e:IntKind.i64.max=9223372036854775807:=by decide
   rw [e];omega
  refine ⟨_,run_eqGuard_plain _ _ _ _ _ _ _ (by simp) (by simp),?_,OpPost.pure_ rfl⟩
  simp only [binOp,Op.stringOp]
  rw [if_neg h0];rfl
 ·cases h;cases ha;cases hb
  refine ⟨_,run_eqGuard_plain _ _ _ _ _ _ _ (by simp) (by simp),?_,OpPost.pure_ rfl⟩
  simp [binOp,Op.stringOp,bytes_eq]
 ·cases h;cases ha;cases hb
  refine ⟨_,run_eqGuard_plain _ _ _ _ _ _ _ (by simp) (by simp),?_,OpPost.pure_ rfl⟩
  simp [binOp,Op.stringOp,bytes_eq]
 ·cases h;cases ha;cases hb
  refine ⟨_,run_eqGuard_plain _ _ _ _ _ _ _ (by simp) (by simp),?_,OpPost.pure_ rfl⟩
  simp [binOp,Op.stringOp]
 ·exact run_xEq (no:=false) h hS ha hb ox oy off
 ·exact run_xEq (no:=true) h hS ha hb ox oy off
end runs
end Go.Sy
namespace Go.Sy
set_option linter.unusedVariables false
set_option linter.unusedSimpArgs false
open Go.RowKit
set_option linter.unusedSectionVars false
variable [Globs]
section runs
variable {P:Program}
abbrev Ctr:=Nat→(Nat→Blk)→List SV→Option OpRes
def OpRes.need_ok (r:OpRes):Prop:=∀ b∈r.need,b=true
def CtrOk (P:Program) (g:Ctr) (f:FuncId):Prop :=
 (∃ fn,P.funcs[f]? = some fn∧fn.body.isSome=true∧(fn.name == "runtime.NumGoroutine")=false) ∧
 ∀ B M ρ mem off args r,g off mem args=some r→r.need_ok→r.fits mem off→∀ xs w,SV.denL ρ args xs→MemDen B M ρ mem w→B≤w.heap.size→(∀ j,j<r.news.length→ρ (off+j)=none) →
  Calls P f ⟨xs⟩ w fun e w'=>∃ x ρ',e=.returned x∧OpPost ρ ρ' off r w w' x
structure Gam where
 c:Nat→Option Ctr
 pix:Bool
def GamOk (P:Program) (Γ:Gam):Prop:=∀ f g,Γ.c f=some g→CtrOk P g f
def datS (out:List SV) (s:Nat):Dat:={ ii:=fun k c=>intAt ((out.drop (k * s)).take s) c,ss:=fun k c=>strAt ((out.drop (k * s)).take s) c,bb:=fun k c=>boolAt ((out.drop (k * s)).take s) c,sn:=fun k c=>slnAt ((out.drop (k * s)).take s) c,sd:=fun k c=>sldAt ((out.drop (k * s)).take s) c }
theorem el_datS {out:List SV} {s:Nat} {sh:List Kd} {k:Nat} (h:kdsB sh ((out.drop (k * s)).take s)=true):el sh (datS out s) k=(out.drop (k * s)).take s :=
 el_of h fun c v hc=>by cases v <;> simp [Dat.has,datS,Dat.sub,intAt,boolAt,strAt,slnAt,sldAt,hc]
def fitN (sh:List Kd):Nat→List SV→List SV
 | 0,cs=>cs
 | n+1,cs=>fitL sh (cs.take sh.length) ++ fitN sh n (cs.drop sh.length)
theorem fitN_length (sh:List Kd):∀ (n:Nat) (cs:List SV),(fitN sh n cs).length=cs.length
 | 0,_=>rfl
 | n+1,cs=>by simp [fitN,fitL_length,fitN_length sh n];omega
theorem fitN_den {ρ:Env} {sh:List Kd}:∀ (n:Nat) {cs:List SV} {xs:List Value},SV.denL ρ cs xs→SV.denL ρ (fitN sh n cs) xs
 | 0,_,_,h=>h
 | n+1,cs,xs,h=>by
  have:=denL_append (fitL_den (sh:=sh) (denL_take h sh.length)) (fitN_den (sh:=sh) n (denL_drop h sh.length))
  rwa [List.take_append_drop] at this
def xBuildSlice (P:Program) (off:Nat) (t:TypeId) (n:Nat) (ps:List (Nat × SV)):Option OpRes :=
 match P.underlying t with
 | some (.slice e)=>match szOf P e,zeroOf P e with
  | some s,some z=>if n * s≤16777216∧z.cells.size=s∧0<s then match sfill (fun i=>some (i * s,s)) ((List.range n).flatMap fun _=>z.cells.toList.map zv1) ps with
    | some out=>match kdT P 8 e with
     | some sh=>match sh.length == s&&out.length == n * s&&(List.range n).all (fun k=>kdsB sh (((fitN sh n out).drop (k * s)).take s)) with
      | true=>some { v:=.own off s n,news:=[.row e sh n (datS (fitN sh n out) s)] }
      | false=>some { v:=.slc off s 0 n,news:=[.cells e out] }
     | none=>some { v:=.slc off s 0 n,news:=[.cells e out] }
    | none=>none
   else none
  | _,_=>none
 | _=>none
theorem zeros_denL {ρ:Env} (z:Array Value):∀ n,SV.denL ρ ((List.range n).flatMap fun _=>z.toList.map zv1) ((List.range n).flatMap fun _=>z.toList)
 | 0=>trivial
 | n+1=>by
  rw [List.range_succ,List.flatMap_append,List.flatMap_append]
  refine denL_append (zeros_denL z n) ?_
  simp only [List.flatMap_cons,List.flatMap_nil,List.append_nil]
  exact zv1_denL ρ _
theorem zeros_eq (z:Array Value) (hz:0<z.size):∀ n,(Array.range (n * z.size)).map (z[· % z.size]!)=⟨(List.range n).flatMap fun _=>z.toList⟩
 | 0=>by simp
 | n+1=>by
  have ih:=zeros_eq z hz n
  rw [List.range_succ,List.flatMap_append]
  apply Array.toList_inj.1
  have h2:=congrArg Array.toList ih
  simp only [Array.toList_map,Array.toList_range] at h2 ⊢
  rw [Nat.succ_mul,List.range_add,List.map_append,h2]
  congr 1
  simp only [List.flatMap_cons,List.flatMap_nil,List.append_nil,List.map_map]
  apply List.ext_getElem (by simp)
  intro i h1 h2
  simp at h1
  simp [Nat.mod_eq_of_lt h1,Nat.add_mod,h1]
theorem run_xBuildSlice {ρ:Env} {w:World} {off:Nat} {t:TypeId} {n:Nat} {ps:List (Nat × SV)} {r:OpRes} (h:xBuildSlice P off t n ps=some r) {xs:Array (Nat × Value)} (hp:vpairs ρ ps xs.toList) (hf:ρ off=none) (hod:∀ b o v,ρ.od b o=some v→b<w.heap.size) :
  ∃ y w' ρ',(Instr.buildSlice t n xs).run P w=.ok y w'∧OpPost ρ ρ' off r w w' y:=by
 unfold xBuildSlice at h
 split at h <;> try (cases h;done)
 rename_i e hu
 split at h <;> try (cases h;done)
 rename_i s z hs hz
 split at h <;> try (cases h;done)
 rename_i hc
 obtain ⟨hsz,hzs,hpos⟩:=hc
 split at h <;> try (cases h;done)
 rename_i out hout
 obtain ⟨ys,hys,hd⟩:=fill_den hp (cs:=⟨(List.range n).flatMap fun _=>z.cells.toList⟩) (zeros_denL z.cells n) hout
 have hrun:(Instr.buildSlice t n xs).run P w=.ok (.slice (some ⟨w.heap.size,0,none⟩) n n) (w.alloc (.cells ys e)):=by
  have h24:¬ (n * s > 2 ^ 24):=by omega
  unfold Instr.buildSlice
  simp only [Sem.run_bind,run_underlying hu,Result.andThen_ok,run_szOf hs,if_neg h24]
  by_cases h0:n * s=0
  ·have hn:n=0:=by
    rcases Nat.mul_eq_zero.1 h0 with h | h
    ·exact h
    ·omega
   have hE:∀ f:Nat→Value,(Array.range (n * s)).map f=⟨(List.range n).flatMap fun _=>z.cells.toList⟩:=by
    intro f;subst hn;simp
   simp only [if_pos h0,hE,hys]
   simp [newRow]
  ·have hb:(Array.range (n * s)).map (fun x=>z.cells[x % z.cells.size]!)=⟨(List.range n).flatMap fun _=>z.cells.toList⟩:=by
    rw [← hzs]
    exact zeros_eq z.cells (by omega) n
   simp only [if_neg h0,Sem.run_bind,run_zeroOf hz,Result.andThen_ok,Sem.run_pure,hb,hys]
   simp [newRow]
 have plain:∀ r:OpRes,r={ v:=.slc off s 0 n,news:=[.cells e out] }→∃ y w' ρ',(Instr.buildSlice t n xs).run P w=.ok y w'∧OpPost ρ ρ' off r w w' y:=by
  rintro r rfl
  refine ⟨_,_,_,hrun,OpPost.alloc (cap:=n) (b:=.cells e out) hf rfl hod ⟨rfl,_,heap_alloc_new w _,SV.denL_mono (Env.set_ext hf) _ _ hd⟩ ⟨_,_,rfl,⟨Nat.le_refl _,fun h=>by cases h⟩,fun _=>⟨_,Env.set_same _ _ _,by simp⟩⟩⟩
 split at h
 ·rename_i sh hsh
  split at h
  ·rename_i hc2
   cases h
   simp only [Bool.and_eq_true,beq_iff_eq] at hc2
   obtain ⟨⟨hshl,hol⟩,hall⟩:=hc2
   have hkds:∀ k,k<n→kdsB sh (((fitN sh n out).drop (k * s)).take s)=true:=fun k hk=>(List.all_eq_true.1 hall) k (List.mem_range.2 hk)
   have hd:=fitN_den (sh:=sh) n hd
   have hysz:ys.size=n * s:=by have:=denL_length hd;simp [fitN_length] at this;omega
   have hel:Elems (ρ.set off ⟨w.heap.size,0,n⟩) (w.alloc (.cells ys e)) ⟨w.heap.size,0,n⟩ sh.length n (el sh (datS (fitN sh n out) s)):=by
    intro k hk
    rw [el_datS (hkds k hk),hshl]
    have hks:(k+1) * s≤n * s:=Nat.mul_le_mul_right _ (by omega)
    rw [Nat.succ_mul] at hks
    refine ⟨by simp [fitN_length];omega,fun j v hj=>?_⟩
    rw [List.getElem?_take] at hj
    split at hj <;> try (cases hj;done)
    rw [List.getElem?_drop] at hj
    obtain ⟨y,hy,hdy⟩:=denL_get hd hj
    refine ⟨y,?_,SV.den_mono (Env.set_ext hf) _ _ hdy⟩
    rw [Nat.zero_add,cell_of_row _ w.heap.size _ _ e (0,0) (heap_alloc_new w _)]
    simpa using hy
   have hn:n≤maxLen:=by
    have:n * 1≤n * s:=Nat.mul_le_mul_left _ hpos
    unfold maxLen;omega
   exact ⟨_,_,_,hrun,OpPost.alloc (cap:=n) (b:=.row e sh n _) hf rfl hod ⟨rfl,Nat.le_refl _,⟨_,heap_alloc_new w _,by rw [hshl];exact hysz,hn⟩,hel⟩ ⟨_,Env.set_same _ _ _,rfl,Nat.le_refl _,rfl⟩⟩
  ·cases h;exact plain _ rfl
 ·cases h;exact plain _ rfl
def cSeal:Ctr:=fun _ _ _=>none
theorem seal_ok {f:FuncId} {fn:Func} (h:P.funcs[f]? = some fn) (hb:fn.body.isSome=true) (hn:(fn.name == "runtime.NumGoroutine")=false):CtrOk P cSeal f:=⟨⟨fn,h,hb,hn⟩,fun _ _ _ _ _ _ _ h=>by cases h⟩
def xBuildRo (P:Program) (t:TypeId) (n:Nat) (ps:List (Nat × SV)):Option OpRes :=
 match P.underlying t with
 | some (.slice e)=>match szOf P e,zeroOf P e with
  | some s,some z=>if n * s≤16777216∧z.cells.size=s∧0<s then match sfill (fun i=>some (i * s,s)) ((List.range n).flatMap fun _=>z.cells.toList.map zv1) ps with
    | some out=>match kdT P 8 e with
     | some sh=>match sh.length == s&&out.length == n * s&&(List.range n).all (fun k=>kdsB sh (((fitN sh n out).drop (k * s)).take s)) with
      | true=>some { v:=.ro sh n (datS (fitN sh n out) s) }
      | false=>none
     | none=>none
    | none=>none
   else none
  | _,_=>none
 | _=>none
theorem run_xBuildRo {ρ:Env} {w:World} {off:Nat} {t:TypeId} {n:Nat} {ps:List (Nat × SV)} {r:OpRes} (h:xBuildRo P t n ps=some r) {xs:Array (Nat × Value)} (hp:vpairs ρ ps xs.toList) (hod:∀ b o v,ρ.od b o=some v→b<w.heap.size) :
  ∃ y w' ρ',(Instr.buildSlice t n xs).run P w=.ok y w'∧OpPost ρ ρ' off r w w' y:=by
 unfold xBuildRo at h
 split at h <;> try (cases h;done)
 rename_i e hu
 split at h <;> try (cases h;done)
 rename_i s z hs hz
 split at h <;> try (cases h;done)
 rename_i hc
 obtain ⟨hsz,hzs,hpos⟩:=hc
 split at h <;> try (cases h;done)
 rename_i out hout
 obtain ⟨ys,hys,hd⟩:=fill_den hp (cs:=⟨(List.range n).flatMap fun _=>z.cells.toList⟩) (zeros_denL z.cells n) hout
 have hrun:(Instr.buildSlice t n xs).run P w=.ok (.slice (some ⟨w.heap.size,0,none⟩) n n) (w.alloc (.cells ys e)):=by
  have h24:¬ (n * s > 2 ^ 24):=by omega
  unfold Instr.buildSlice
  simp only [Sem.run_bind,run_underlying hu,Result.andThen_ok,run_szOf hs,if_neg h24]
  by_cases h0:n * s=0
  ·have hn:n=0:=by
    rcases Nat.mul_eq_zero.1 h0 with h | h
    ·exact h
    ·omega
   have hE:∀ f:Nat→Value,(Array.range (n * s)).map f=⟨(List.range n).flatMap fun _=>z.cells.toList⟩:=by
    intro f;subst hn;simp
   simp only [if_pos h0,hE,hys]
   simp [newRow]
  ·have hb:(Array.range (n * s)).map (fun x=>z.cells[x % z.cells.size]!)=⟨(List.range n).flatMap fun _=>z.cells.toList⟩:=by
    rw [← hzs]
    exact zeros_eq z.cells (by omega) n
   simp only [if_neg h0,Sem.run_bind,run_zeroOf hz,Result.andThen_ok,Sem.run_pure,hb,hys]
   simp [newRow]
 split at h <;> try (cases h;done)
 rename_i sh hsh
 split at h <;> try (cases h;done)
 rename_i hc2
 cases h
 simp only [Bool.and_eq_true,beq_iff_eq] at hc2
 obtain ⟨⟨hshl,hol⟩,hall⟩:=hc2
 have hkds:∀ k,k<n→kdsB sh (((fitN sh n out).drop (k * s)).take s)=true:=fun k hk=>(List.all_eq_true.1 hall) k (List.mem_range.2 hk)
 have hd:=fitN_den (sh:=sh) n hd
 have hodE:OdExt ρ.od ⟨fun b o=>if b=w.heap.size then (w.alloc (.cells ys e)).cell? ⟨b,o,none⟩ else ρ.od b o,ρ.od.m,ρ.od.p⟩:=OdExt.ofC fun b o v hb=>by
  have:=hod b o v hb
  have hne:b≠w.heap.size:=by omega
  simp only [if_neg hne,hb]
 have hE:Ext ρ ⟨ρ.nm,⟨fun b o=>if b=w.heap.size then (w.alloc (.cells ys e)).cell? ⟨b,o,none⟩ else ρ.od b o,ρ.od.m,ρ.od.p⟩,ρ.gl.ext hodE⟩:=⟨fun i m hm=>hm,hodE⟩
 refine ⟨_,_,⟨ρ.nm,⟨fun b o=>if b=w.heap.size then (w.alloc (.cells ys e)).cell? ⟨b,o,none⟩ else ρ.od b o,ρ.od.m,ρ.od.p⟩,ρ.gl.ext hodE⟩,hrun,?_⟩
 refine ⟨?_,hE,fun _ _=>rfl,rfl,rfl,rfl,by simp,fun b hb _=>Below.heap_alloc _ _ _ hb,.ofC fun b o v hb=>?_,fun _ hu=>by simp at hu,fun _ _ hj=>by simp at hj,fun _ _ _ _ _ _ _ hj=>by simp at hj⟩
 ·simp only [SV.den]
  refine ⟨_,_,rfl,⟨Nat.le_refl _,fun hz=>by cases hz⟩,fun h0=>⟨w.heap.size,0,rfl,fun q hq=>?_⟩⟩
  refine (kdE_iff (ρ:=⟨ρ.nm,⟨fun b o=>if b=w.heap.size then (w.alloc (.cells ys e)).cell? ⟨b,o,none⟩ else ρ.od b o,ρ.od.m,ρ.od.p⟩,ρ.gl.ext hodE⟩)).2 fun j v hj=>?_
  rw [el_datS (hkds q hq),List.getElem?_take] at hj
  split at hj <;> try (cases hj;done)
  rw [List.getElem?_drop] at hj
  obtain ⟨y,hy,hdy⟩:=denL_get hd hj
  refine ⟨y,?_,SV.den_mono hE _ _ hdy⟩
  simp only [if_true]
  rw [cell_of_row _ w.heap.size _ _ e (0,0) (heap_alloc_new w _),hshl]
  simpa using hy
 ·by_cases hb':b=w.heap.size
  ·subst hb'
   simp only [if_true] at hb
   exact Or.inr ⟨hb,Nat.le_refl _⟩
  ·simp only [if_neg hb'] at hb
   exact Or.inl hb
def xBuildEmp (P:Program) (t:TypeId) (ps:List (Nat × SV)):Option OpRes :=
 match P.underlying t,ps with
 | some (.slice e),[]=>match szOf P e,zeroOf P e with
  | some _,some _=>some { v:=.emp }
  | _,_=>none
 | _,_=>none
theorem run_xBuildEmp {ρ:Env} {w:World} {off:Nat} {t:TypeId} {ps:List (Nat × SV)} {r:OpRes} (h:xBuildEmp P t ps=some r) {xs:Array (Nat × Value)} (hp:vpairs ρ ps xs.toList) :
  ∃ y w',(Instr.buildSlice t 0 xs).run P w=.ok y w'∧OpPost ρ ρ off r w w' y:=by
 unfold xBuildEmp at h
 split at h <;> try (cases h;done)
 rename_i e hu
 split at h <;> cases h
 rename_i s z hs hz
 have hx:xs=#[]:=by
  cases xs with
  | mk l=>cases l with
   | nil=>rfl
   | cons a l=>exact hp.elim
 subst hx
 refine ⟨.slice (some ⟨w.heap.size,0,none⟩) 0 0,w.alloc (.cells #[] e),?_,⟨_,rfl⟩,Ext.refl _,fun _ _=>rfl,rfl,rfl,rfl,by simp,fun b hb _=>Below.heap_alloc _ _ _ hb,⟨fun b o v hb=>.inl hb,fun _ _ h=>.inl h,rfl⟩,fun _ hu=>by simp at hu,fun _ _ hj=>by simp at hj,fun _ _ _ _ _ _ _ hj=>by simp at hj⟩
 unfold Instr.buildSlice
 simp only [Sem.run_bind,run_underlying hu,Result.andThen_ok,run_szOf hs]
 simp [newRow,Instr.fill,show Array.range 0=#[] from rfl]
def xLen (P:Program) (t:TypeId) (v:SV):Option OpRes :=
 match P.underlying t,v with
 | some .string,.str s=>some { v:=.int .i64 s.size }
 | some (.slice _),.slc _ _ _ n=>some { v:=.int .i64 n }
 | some (.slice _),.own _ _ n=>some { v:=.int .i64 n }
 | some (.slice _),.nsl=>some { v:=.int .i64 0 }
 | some (.slice _),.gr _ _ n=>some { v:=.int .i64 n }
 | some (.slice _),.ro _ n _=>some { v:=.int .i64 n }
 | some (.array n _),_=>some { v:=.int .i64 n }
 | _,_=>none
theorem run_xLen {ρ:Env} {w:World} {t:TypeId} {v:SV} {r:OpRes} (h:xLen P t v=some r) {x:Value} (hv:v.den ρ x) (ty:TypeId) (off:Nat) :
  ∃ y,(Builtin.len_ #[t] ty #[x]).run P w=.ok y w∧OpPost ρ ρ off r w w y:=by
 unfold xLen at h
 split at h <;> cases h
 ·rename_i s hu;cases hv
  exact ⟨.int .i64 s.size,by simp [Builtin.len_,run_underlying hu,goInt],OpPost.pure_ rfl⟩
 ·rename_i e i size k n hu;obtain ⟨A,c,rfl,_⟩:=hv
  exact ⟨.int .i64 n,by simp [Builtin.len_,run_underlying hu,goInt],OpPost.pure_ rfl⟩
 ·rename_i e i size n hu;obtain ⟨m,_,_,_,rfl⟩:=hv
  exact ⟨.int .i64 n,by simp [Builtin.len_,run_underlying hu,goInt],OpPost.pure_ rfl⟩
 ·rename_i e hu;cases hv
  exact ⟨.int .i64 0,by simp [Builtin.len_,run_underlying hu,goInt],OpPost.pure_ rfl⟩
 ·rename_i e i size n hu
  rcases hv with ⟨rfl,A,rfl⟩ | ⟨m,_,_,_,rfl⟩
  ·exact ⟨.int .i64 0,by simp [Builtin.len_,run_underlying hu,goInt],OpPost.pure_ rfl⟩
  ·exact ⟨.int .i64 n,by simp [Builtin.len_,run_underlying hu,goInt],OpPost.pure_ rfl⟩
 ·rename_i e sh n d hu;obtain ⟨A,c,rfl,_⟩:=hv
  exact ⟨.int .i64 n,by simp [Builtin.len_,run_underlying hu,goInt],OpPost.pure_ rfl⟩
 ·rename_i n e hu
  exact ⟨.int .i64 n,by simp [Builtin.len_,run_underlying hu,goInt],OpPost.pure_ rfl⟩
def imax (a b:Int):Int:=if a<b then b else a
def imin (a b:Int):Int:=if b<a then b else a
def xMax (op:Int→Int→Int):List SV→Option SV
 | []=>none
 | .int k a :: l=>l.foldlM (fun (v:SV) (u:SV)=>match v,u with
  | .int k a,.int _ b=>some (.int k (op a b))
  | _,_=>none) (.int k a)
 | _=>none
theorem run_xMax {ρ:Env} {w:World} {op:Int→Int→Int} {f:Value→Value→Sem Value} (hf:∀ k a k' b w,(f (.int k a) (.int k' b)).run P w=.ok (.int k (op a b)) w):∀ {l:List SV} {v u:SV} {x:Value} {xs:List Value},l.foldlM (fun (v:SV) (u:SV)=>match v,u with
  | .int k a,.int _ b=>some (.int k (op a b))
  | _,_=>none) v=some u→v.den ρ x→SV.denL ρ l xs→∃ y,(xs.foldlM f x).run P w=.ok y w∧u.den ρ y
 | [],v,u,x,xs,h,hv,hl=>by
  cases xs with
  | cons _ _=>exact hl.elim
  | nil=>simp at h;subst h;exact ⟨x,by simp,hv⟩
 | z :: l,v,u,x,xs,h,hv,hl=>by
  cases xs with
  | nil=>exact hl.elim
  | cons c cs =>
   obtain ⟨hz,hl⟩:=hl
   simp only [List.foldlM_cons,Option.bind_eq_bind,Option.bind_eq_some_iff] at h
   obtain ⟨v',hv',h⟩:=h
   split at hv' <;> cases hv'
   rename_i k a k' b
   cases hv
   cases hz
   obtain ⟨y,hy,hd⟩:=run_xMax hf (x:=.int k (op a b)) h rfl hl
   refine ⟨y,?_,hd⟩
   rw [List.foldlM_cons,Sem.run_bind,hf]
   exact hy
theorem max2_run:∀ k a k' b w,(Builtin.max2 (.int k a) (.int k' b)).run P w=.ok (.int k (imax a b)) w:=fun k a k' b w=>by simp [Builtin.max2,imax]
theorem min2_run:∀ k a k' b w,(Builtin.min2 (.int k a) (.int k' b)).run P w=.ok (.int k (imin a b)) w:=fun k a k' b w=>by simp [Builtin.min2,imin]
end runs
end Go.Sy
