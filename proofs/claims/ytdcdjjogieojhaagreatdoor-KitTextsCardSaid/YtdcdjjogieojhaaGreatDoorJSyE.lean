/-
 A symbolic executor for the model's code, part E: addresses, parts, slices, arithmetic, comparisons. Conditions: none.
-/
import Derived.Test.YtdcdjjogieojhaaGreatDoorJSyD
import Derived.Laws.StructEq
import Derived.Laws.Slices
namespace Go.Sy
set_option linter.unusedVariables false
set_option linter.unusedSimpArgs false
open Go.RowKit
set_option linter.unusedSectionVars false
variable [Globs]
section runs
variable {P:Program}
def xFieldAddr (P:Program) (s:TypeId) (p:SV) (f:Nat):Option OpRes :=
 match P.underlying s with
 | some (.struct fields)=>match fields[f]? with
  | some fld=>match szOf P fld.type with
   | some (_+1)=>match p with
    | .ptr i o=>some { v:=.ptr i (o+fld.offset) }
    | .elt i size k j=>some { v:=.elt i size k (j+fld.offset) }
    | .rp sh d k j=>some { v:=.rp sh d k (j+fld.offset) }
    | .rz t i sh d=>(match t with
     | true=>some { v:=.rp sh d 0 (0+fld.offset) }
     | false=>none)
    | .pix i o s m k j=>some { v:=.pix i o s m k (j+fld.offset) }
    | _=>none
   | _=>none
  | none=>none
 | _=>none
theorem run_xFieldAddr {ρ:Env} {w:World} {s:TypeId} {p:SV} {f:Nat} {r:OpRes} (h:xFieldAddr P s p f=some r) {x:Value} (hp:p.den ρ x) (off:Nat) :
  ∃ y,(Instr.fieldAt s x f).run P w=.ok y w∧OpPost ρ ρ off r w w y:=by
 unfold xFieldAddr at h
 split at h <;> try (cases h;done)
 rename_i fields hu
 split at h <;> try (cases h;done)
 rename_i fld hf
 split at h <;> try (cases h;done)
 rename_i n hsz
 have hs:(sizeOf fld.type).run P w=.ok (n+1) w:=run_szOf hsz w
 split at h <;> try (cases h;done)
 ·cases h
  rename_i i o
  obtain ⟨m,hm,rfl⟩:=hp
  refine ⟨.pointer (some ⟨m.blk,m.off+(o+fld.offset),none⟩),?_,OpPost.pure_ ⟨m,hm,rfl⟩⟩
  simp [Instr.fieldAt,run_underlying hu,hf,Instr.sureAddr,fieldPlace,hs,Addr.add_mid,Nat.add_assoc]
 ·cases h
  rename_i i size k j
  obtain ⟨m,hm,rfl⟩:=hp
  refine ⟨.pointer (some ⟨m.blk,m.off+(k * size+(j+fld.offset)),none⟩),?_,OpPost.pure_ ⟨m,hm,rfl⟩⟩
  simp [Instr.fieldAt,run_underlying hu,hf,Instr.sureAddr,fieldPlace,hs,Addr.add_mid,Nat.add_assoc]
 ·cases h
  rename_i sh d k j
  obtain ⟨b,o,rfl,hL⟩:=hp
  refine ⟨.pointer (some ⟨b,o+(j+fld.offset),none⟩),?_,OpPost.pure_ ⟨b,o,rfl,hL⟩⟩
  simp [Instr.fieldAt,run_underlying hu,hf,Instr.sureAddr,fieldPlace,hs,Addr.add_mid,Nat.add_assoc]
 ·rename_i t i sh d
  split at h <;> cases h
  rcases hp with ⟨_,b,rfl,hp,hL⟩ | ⟨h,_⟩
  ·refine ⟨.pointer (some ⟨b,0+(0+fld.offset),none⟩),?_,OpPost.pure_ ⟨b,0,rfl,hL⟩⟩
   simp [Instr.fieldAt,run_underlying hu,hf,Instr.sureAddr,fieldPlace,hs,Addr.add_mid,Nat.add_assoc]
  ·cases h
 ·cases h
  rename_i i o s m k j
  obtain ⟨mm,hm,rfl⟩:=hp
  refine ⟨.pointer (some ⟨mm.blk,mm.off+(o+k * s+(j+fld.offset)),none⟩),?_,OpPost.pure_ ⟨mm,hm,rfl⟩⟩
  simp [Instr.fieldAt,run_underlying hu,hf,Instr.sureAddr,fieldPlace,hs,Addr.add_mid,Nat.add_assoc]
def xIndexAddr (P:Program) (pix:Bool) (t:TypeId) (p ix:SV):Option OpRes :=
 match ix with
 | .int _ n=>match P.underlying t with
  | some (.array len e)=>match szOf P e,p with
   | some s,.ptr i o=>(match pix with
    | false=>some { v:=.ptr i (o+n.toNat * s),need:=[decide (0≤n∧n<len)] }
    | true=>some { v:=.pix i o s len n.toNat 0,need:=[decide (0≤n∧n<len)] })
   | some s,.pix i o s' m k j=>some { v:=.pix i o s' m k (j+n.toNat * s),need:=[decide (0≤n∧n<len)] }
   | some s,.ra sh m d=>if sh.length=s then some { v:=.rp sh d n.toNat 0,need:=[decide (0≤n∧n<len),decide (n<m)] } else none
   | some s,.rp sh d k j=>some { v:=.rp sh d k (j+n.toNat * s),need:=[decide (0≤n∧n<len)] }
   | _,_=>none
  | some (.slice e)=>match szOf P e,p with
   | some s,.slc i size k m=>if size=s then some { v:=.elt i size (k+n.toNat) 0,need:=[decide (0≤n∧n<m)] } else none
   | some s,.own i size m=>if size=s then some { v:=.elt i size n.toNat 0,need:=[decide (0≤n∧n<m)] } else none
   | some s,.gr i size m=>if size=s then some { v:=.elt i size n.toNat 0,need:=[decide (0≤n∧n<m)] } else none
   | some s,.ro sh m d=>if sh.length=s then some { v:=.rp sh d n.toNat 0,need:=[decide (0≤n∧n<m)] } else none
   | _,_=>none
  | _=>none
 | _=>none
theorem run_xIndexAddr {ρ:Env} {w:World} {t:TypeId} {p ix:SV} {r:OpRes} {pix:Bool} (h:xIndexAddr P pix t p ix=some r) (hn:∀ b∈r.need,b=true) {x y:Value} (hp:p.den ρ x) (hi:ix.den ρ y) (off:Nat) :
  ∃ z,(Instr.indexAt t x y).run P w=.ok z w∧OpPost ρ ρ off r w w z:=by
 unfold xIndexAddr at h
 split at h <;> try (cases h;done)
 rename_i kk n
 cases hi
 split at h <;> try (cases h;done)
 ·rename_i len e hu
  split at h <;> try (cases h;done)
  ·rename_i s i o hs
   obtain ⟨m,hm,rfl⟩:=hp
   have hb:0≤n∧n<len:=by
    split at h <;> cases h <;> simpa using hn
   have hrun:(Instr.indexAt t (.pointer (some ⟨m.blk,m.off+o,none⟩)) (.int kk n)).run P w=.ok (.pointer (some ⟨m.blk,m.off+(o+n.toNat * s),none⟩)) w:=by
    simp [Instr.indexAt,asIntOf,run_underlying hu,Instr.sureAddr,hb,run_szOf hs,Addr.add_mid,Nat.add_assoc]
   split at h <;> cases h
   ·exact ⟨_,hrun,OpPost.pure_ ⟨m,hm,rfl⟩⟩
   ·exact ⟨_,hrun,OpPost.pure_ ⟨m,hm,rfl⟩⟩
  ·rename_i s i o s' m0 k j hs
   cases h
   obtain ⟨m,hm,rfl⟩:=hp
   simp only [List.mem_singleton,forall_eq,decide_eq_true_eq] at hn
   refine ⟨.pointer (some ⟨m.blk,m.off+(o+k * s'+(j+n.toNat * s)),none⟩),?_,OpPost.pure_ ⟨m,hm,rfl⟩⟩
   simp [Instr.indexAt,asIntOf,run_underlying hu,Instr.sureAddr,hn,run_szOf hs,Addr.add_mid,Nat.add_assoc]
  ·rename_i s sh m0 d hs
   split at h <;> cases h
   rename_i he
   subst he
   obtain ⟨b,o,rfl,hL⟩:=hp
   have hb:0≤n∧n<len:=by simpa using hn _ (List.mem_cons_self ..)
   have hb2:n<m0:=by simpa using hn (decide (n<m0)) (by simp)
   refine ⟨.pointer (some ⟨b,o+n.toNat * sh.length+0,none⟩),?_,OpPost.pure_ ⟨b,_,rfl,hL n.toNat (by omega)⟩⟩
   simp [Instr.indexAt,asIntOf,run_underlying hu,Instr.sureAddr,hb,run_szOf hs,Addr.add_mid]
  ·rename_i s sh d k j hs
   cases h
   obtain ⟨b,o,rfl,hL⟩:=hp
   simp only [List.mem_singleton,forall_eq,decide_eq_true_eq] at hn
   refine ⟨.pointer (some ⟨b,o+(j+n.toNat * s),none⟩),?_,OpPost.pure_ ⟨b,o,rfl,hL⟩⟩
   simp [Instr.indexAt,asIntOf,run_underlying hu,Instr.sureAddr,hn,run_szOf hs,Addr.add_mid,Nat.add_assoc]
 ·rename_i e hu
  split at h <;> try (cases h;done)
  ·rename_i s i size k m hs
   split at h <;> cases h
   rename_i he
   subst he
   obtain ⟨A,cap,rfl,hc,hA⟩:=hp
   simp only [List.mem_singleton,forall_eq,decide_eq_true_eq] at hn
   obtain ⟨nm,hnm,rfl⟩:=hA (by omega)
   refine ⟨.pointer (some ⟨nm.blk,nm.off+((k+n.toNat) * size+0),none⟩),?_,OpPost.pure_ ⟨nm,hnm,rfl⟩⟩
   simp [Instr.indexAt,asIntOf,run_underlying hu,hn,run_szOf hs,Addr.add_mid,Nat.add_assoc,Nat.add_mul]
  ·rename_i s i size m hs
   split at h <;> cases h
   rename_i he
   subst he
   obtain ⟨nm,hnm,h0,hc,rfl⟩:=hp
   simp only [List.mem_singleton,forall_eq,decide_eq_true_eq] at hn
   refine ⟨.pointer (some ⟨nm.blk,nm.off+(n.toNat * size+0),none⟩),?_,OpPost.pure_ ⟨nm,hnm,rfl⟩⟩
   simp [Instr.indexAt,asIntOf,run_underlying hu,hn,run_szOf hs,Addr.add_mid,h0]
  ·rename_i s i size m hs
   split at h <;> cases h
   rename_i he
   subst he
   simp only [List.mem_singleton,forall_eq,decide_eq_true_eq] at hn
   rcases hp with ⟨hz,_⟩ | ⟨nm,hnm,h0,hc,rfl⟩
   ·omega
   refine ⟨.pointer (some ⟨nm.blk,nm.off+(n.toNat * size+0),none⟩),?_,OpPost.pure_ ⟨nm,hnm,rfl⟩⟩
   simp [Instr.indexAt,asIntOf,run_underlying hu,hn,run_szOf hs,Addr.add_mid,h0]
  ·rename_i s sh m d hs
   split at h <;> cases h
   rename_i he
   subst he
   simp only [List.mem_singleton,forall_eq,decide_eq_true_eq] at hn
   obtain ⟨A,cap,rfl,hc,hA⟩:=hp
   obtain ⟨b,o,rfl,hL⟩:=hA (by omega)
   refine ⟨.pointer (some ⟨b,o+n.toNat * sh.length+0,none⟩),?_,OpPost.pure_ ⟨b,_,rfl,hL n.toNat (by omega)⟩⟩
   simp [Instr.indexAt,asIntOf,run_underlying hu,hn,run_szOf hs,Addr.add_mid]
def partS (P:Program) (t:TypeId) (l:List SV) (o:Nat):Option SV :=
 match aggOf P t,szOf P t with
 | some true,some n=>if o+n≤l.length then some (.agg ((l.drop o).take n)) else none
 | some false,_=>l[o]?
 | _,_=>none
theorem run_partS {ρ:Env} {w:World} {t:TypeId} {l:List SV} {o:Nat} {v:SV} (h:partS P t l o=some v) {xs:List Value} (hl:SV.denL ρ l xs) :
  ∃ y,(part t ⟨xs⟩ o).run P w=.ok y w∧v.den ρ y:=by
 unfold partS at h
 split at h
 ·rename_i n ha hs
  split at h <;> cases h
  refine ⟨.agg ⟨(xs.drop o).take n⟩,?_,_,rfl,denL_take (denL_drop hl o) n⟩
  simp only [part,Sem.run_bind,run_isAgg ha,Result.andThen_ok,if_true,run_szOf hs,Sem.run_pure]
  congr 2
  apply Array.toList_inj.1
  rw [Array.toList_extract]
  simp [List.extract_eq_take_drop]
 ·rename_i ha
  obtain ⟨y,hy,hd⟩:=denL_get hl h
  exact ⟨y,by simp [part,run_isAgg ha,hy],hd⟩
 ·cases h
def xField (P:Program) (t:TypeId) (v:SV) (f:Nat):Option OpRes :=
 match P.underlying t,v with
 | some (.struct fields),.agg l=>match fields[f]? with
  | some fld=>(partS P fld.type l fld.offset).map fun v=>{ v:=v }
  | none=>none
 | _,_=>none
theorem run_xField {ρ:Env} {w:World} {t:TypeId} {v:SV} {f:Nat} {r:OpRes} (h:xField P t v f=some r) {x:Value} (hv:v.den ρ x) (off:Nat) :
  ∃ y,(Instr.field t x f).run P w=.ok y w∧OpPost ρ ρ off r w w y:=by
 unfold xField at h
 split at h <;> try (cases h;done)
 rename_i fields l hu
 obtain ⟨xs,rfl,hl⟩:=hv
 split at h <;> try (cases h;done)
 rename_i fld hf
 rw [Option.map_eq_some_iff] at h
 obtain ⟨u,hpu,rfl⟩:=h
 obtain ⟨y,hy,hd⟩:=run_partS (w:=w) hpu hl
 exact ⟨y,by simp [Instr.field,run_underlying hu,hf,asAgg,hy],OpPost.pure_ hd⟩
def byteAt (s:ByteArray) (i:Nat):Int:=((s.data.toList.getD i 0).toNat:Int)
theorem byteAt_get {s:ByteArray} {i:Nat} (h:i<s.size):s[i]? = some (s[i]'h)∧byteAt s i=((s[i]'h).toNat:Int):=by
 refine ⟨getElem?_pos _ _ _,?_⟩
 unfold byteAt
 rw [List.getD_eq_getElem?_getD,List.getElem?_eq_getElem (by simpa using h)]
 rfl
def xIndex (P:Program) (t:TypeId) (v ix:SV):Option OpRes :=
 match ix,P.underlying t,v with
 | .int _ n,some (.array len e),.agg l=>match szOf P e with
  | some s=>(partS P e l (n.toNat * s)).map fun v=>{ v:=v,need:=[decide (0≤n∧n<len)] }
  | none=>none
 | .int _ n,some .string,.str s=>some { v:=.int .u8 (byteAt s n.toNat),need:=[decide (0≤n∧n<s.size)] }
 | _,_,_=>none
theorem run_xIndex {ρ:Env} {w:World} {t:TypeId} {v ix:SV} {r:OpRes} (h:xIndex P t v ix=some r) (hn:∀ b∈r.need,b=true) {x y:Value} (hv:v.den ρ x) (hi:ix.den ρ y) (off:Nat) :
  ∃ z,(Instr.index t x y).run P w=.ok z w∧OpPost ρ ρ off r w w z:=by
 unfold xIndex at h
 split at h <;> try (cases h;done)
 ·rename_i kk n len e l hu
  split at h <;> try (cases h;done)
  rename_i s hs
  rw [Option.map_eq_some_iff] at h
  obtain ⟨u,hpu,rfl⟩:=h
  cases hi
  obtain ⟨xs,rfl,hl⟩:=hv
  simp only [List.mem_singleton,forall_eq,decide_eq_true_eq] at hn
  obtain ⟨y,hy,hd⟩:=run_partS (w:=w) hpu hl
  exact ⟨y,by simp [Instr.index,asIntOf,run_underlying hu,hn,run_szOf hs,hy],OpPost.pure_ hd⟩
 ·rename_i kk n s hu
  cases h
  cases hi
  cases hv
  simp only [List.mem_singleton,forall_eq,decide_eq_true_eq] at hn
  obtain ⟨h1,h2⟩:=byteAt_get (s:=s) (i:=n.toNat) (by omega)
  refine ⟨.int .u8 (byteAt s n.toNat),?_,OpPost.pure_ rfl⟩
  simp [Instr.index,asIntOf,run_underlying hu,hn.1,h1,h2]
def partsS (P:Program) (e:TypeId) (l:List SV) (s:Nat):Nat→Nat→Option (List SV)
 | 0,_=>some []
 | k+1,i=>match partS P e l (i * s),partsS P e l s k (i+1) with
  | some v,some vs=>some (v :: vs)
  | _,_=>none
theorem partsS_get {e:TypeId} {l:List SV} {s:Nat}:∀ {n i:Nat} {vs:List SV},partsS P e l s n i=some vs→vs.length=n∧∀ j,j<n→partS P e l ((i+j) * s)=vs[j]?
 | 0,i,vs,h=>by simp only [partsS,Option.some.injEq] at h;subst h;exact ⟨rfl,fun i hi=>absurd hi (Nat.not_lt_zero i)⟩
 | n+1,i,vs,h=>by
  simp only [partsS] at h
  split at h <;> cases h
  rename_i v us hv hu
  obtain ⟨h1,h2⟩:=partsS_get hu
  refine ⟨by simp [h1],fun j hj=>?_⟩
  cases j with
  | zero=>simpa using hv
  | succ j =>
   have:=h2 j (by omega)
   rw [show i+(j+1)=i+1+j by omega,this]
   simp
def xIndexX (P:Program) (t:TypeId) (v ix:SV):Option OpRes :=
 match ix,P.underlying t,v with
 | .int _ n,some (.array len e),.agg l=>match szOf P e with
  | some s=>(match partsS P e l s len 0 with
   | some (p :: vs)=>(match (p :: vs).all (likeSV p) with
    | true=>some { v:=selSV (p :: vs) n.toNat p,need:=[decide (0≤n∧n<len)] }
    | false=>none)
   | _=>none)
  | none=>none
 | .int _ n,some .string,.str s=>some { v:=.int .u8 (byteAt s n.toNat),need:=[decide (0≤n∧n<s.size)] }
 | _,_,_=>none
theorem run_xIndexX {ρ:Env} {w:World} {t:TypeId} {v ix:SV} {r:OpRes} (h:xIndexX P t v ix=some r) (hn:∀ b∈r.need,b=true) {x y:Value} (hv:v.den ρ x) (hi:ix.den ρ y) (off:Nat) :
  ∃ z,(Instr.index t x y).run P w=.ok z w∧OpPost ρ ρ off r w w z:=by
 unfold xIndexX at h
 split at h <;> try (cases h;done)
 ·rename_i kk n len e l hu
  split at h <;> try (cases h;done)
  rename_i s hs
  split at h <;> try (cases h;done)
  rename_i p vs hps
  split at h <;> cases h
  rename_i hall
  cases hi
  obtain ⟨xs,rfl,hl⟩:=hv
  simp only [List.mem_singleton,forall_eq,decide_eq_true_eq] at hn
  obtain ⟨hlen,hget⟩:=partsS_get hps
  have hlt:n.toNat<len:=by omega
  have hg:=hget n.toNat hlt
  rw [Nat.zero_add] at hg
  cases hu2:(p :: vs)[n.toNat]? with
  | none=>rw [List.getElem?_eq_none_iff] at hu2;omega
  | some u =>
   rw [hu2] at hg
   have hlk:likeSV p u=true:=List.all_eq_true.1 hall u (List.mem_of_getElem? hu2)
   obtain ⟨y,hy,hd⟩:=run_partS (w:=w) hg hl
   exact ⟨y,by simp [Instr.index,asIntOf,run_underlying hu,hn,run_szOf hs,hy],by rw [selSV_eq hlk hu2];exact OpPost.pure_ hd⟩
 ·rename_i kk n s hu
  cases h
  cases hi
  cases hv
  simp only [List.mem_singleton,forall_eq,decide_eq_true_eq] at hn
  obtain ⟨h1,h2⟩:=byteAt_get (s:=s) (i:=n.toNat) (by omega)
  refine ⟨.int .u8 (byteAt s n.toNat),?_,OpPost.pure_ rfl⟩
  simp [Instr.index,asIntOf,run_underlying hu,hn.1,h1,h2]
def xExtract (v:SV) (i:Nat):Option OpRes :=
 match v with
 | .tup l=>(l[i]?).map fun v=>{ v:=v }
 | _=>none
theorem run_xExtract {ρ:Env} {w:World} {v:SV} {i:Nat} {r:OpRes} (h:xExtract v i=some r) {x:Value} (hv:v.den ρ x) (off:Nat) :
  ∃ y,(Instr.extract x i).run P w=.ok y w∧OpPost ρ ρ off r w w y:=by
 unfold xExtract at h
 split at h <;> try (cases h;done)
 rename_i l
 rw [Option.map_eq_some_iff] at h
 obtain ⟨u,hpu,rfl⟩:=h
 obtain ⟨xs,rfl,hl⟩:=hv
 obtain ⟨y,hy,hd⟩:=denL_get hl hpu
 exact ⟨y,by simp [Instr.extract,hy],OpPost.pure_ hd⟩
def bnd (v:Option SV) (d:Int):Option Int :=
 match v with
 | none=>some d
 | some (.int _ n)=>some n
 | some _=>none
def Dat.shift (d:Dat):Nat→Dat
 | 0=>d
 | k+1=>{ ii:=fun q c=>d.ii (k+1+q) c,ss:=fun q c=>d.ss (k+1+q) c,bb:=fun q c=>d.bb (k+1+q) c,sn:=fun q c=>d.sn (k+1+q) c,sd:=fun q c=>d.sd (k+1+q) c }
theorem shift_ii (d:Dat) (k q c:Nat):(d.shift k).ii q c=d.ii (k+q) c:=by cases k <;> simp [Dat.shift]
theorem shift_ss (d:Dat) (k q c:Nat):(d.shift k).ss q c=d.ss (k+q) c:=by cases k <;> simp [Dat.shift]
theorem shift_bb (d:Dat) (k q c:Nat):(d.shift k).bb q c=d.bb (k+q) c:=by cases k <;> simp [Dat.shift]
theorem shift_sn (d:Dat) (k q c:Nat):(d.shift k).sn q c=d.sn (k+q) c:=by cases k <;> simp [Dat.shift]
theorem shift_sd (d:Dat) (k q c:Nat):(d.shift k).sd q c=d.sd (k+q) c:=by cases k <;> simp [Dat.shift]
theorem kdSV_shift (d:Dat) (k q c:Nat) (kd:Kd):kdSV (d.shift k) q c kd=kdSV d (k+q) c kd:=by cases kd <;> simp [kdSV,Dat.sub,shift_ii,shift_ss,shift_bb,shift_sn,shift_sd]
theorem el_shift (sh:List Kd) (d:Dat) (k q:Nat):el sh (d.shift k) q=el sh d (k+q):=by
 apply List.ext_getElem?
 intro c
 rw [el_get,el_get]
 cases sh[c]? <;> simp [kdSV_shift]
theorem kdL_shift {ρ:Env} {sh:List Kd} {d:Dat} {k q b o:Nat}:Kd.denL ρ.od sh (d.shift k) q 0 b o↔Kd.denL ρ.od sh d (k+q) 0 b o:=by rw [kdE_iff,kdE_iff,el_shift]
def xSlice (P:Program) (t:TypeId) (v:SV) (lo hi:Option SV):Option OpRes :=
 match P.underlying t,v with
 | some (.array n e),.ptr i 0=>match szOf P e,bnd lo 0,bnd hi n with
  | some s,some l,some h=>some { v:=.slc i s l.toNat (h - l).toNat,need:=[decide (0≤l∧l≤h∧h≤n)] }
  | _,_,_=>none
 | some (.array n e),.ra sh m d=>match szOf P e,bnd lo 0,bnd hi n with
  | some s,some l,some h=>if sh.length=s∧m=n then some { v:=.ro sh (h - l).toNat (d.shift l.toNat),need:=[decide (0≤l∧l≤h∧h≤n)] } else none
  | _,_,_=>none
 | some (.slice e),.slc i size k n=>match szOf P e,bnd lo 0,bnd hi n with
  | some s,some l,some h=>if size=s then some { v:=.slc i size (k+l.toNat) (h - l).toNat,need:=[decide (0≤l∧l≤h∧h≤n)] } else none
  | _,_,_=>none
 | some (.slice e),.own i size n=>match szOf P e,bnd lo 0,bnd hi n with
  | some s,some l,some h=>if size=s then some { v:=.slc i size l.toNat (h - l).toNat,need:=[decide (0≤l∧l≤h∧h≤n)] } else none
  | _,_,_=>none
 | some (.slice e),.gr i size n=>match szOf P e,bnd lo 0,bnd hi n with
  | some s,some l,some h=>if size=s then some { v:=match lo with | none=>.gr i size h.toNat | some _=>.slc i size l.toNat (h - l).toNat,need:=[decide (0≤l∧l≤h∧h≤n)] } else none
  | _,_,_=>none
 | some (.slice e),.nsl=>match szOf P e,bnd lo 0,bnd hi 0 with
  | some _,some l,some h=>some { v:=.nsl,need:=[decide (0≤l∧l≤h∧h≤0)] }
  | _,_,_=>none
 | some (.slice e),.ro sh n d=>match szOf P e,bnd lo 0,bnd hi n with
  | some s,some l,some h=>if sh.length=s then some { v:=.ro sh (h - l).toNat (d.shift l.toNat),need:=[decide (0≤l∧l≤h∧h≤n)] } else none
  | _,_,_=>none
 | some .string,.str s=>match bnd lo 0,bnd hi s.size with
  | some l,some h=>some { v:=.str (s.extract l.toNat h.toNat),need:=[decide (0≤l∧l≤h∧h≤s.size)] }
  | _,_=>none
 | _,_=>none
def odenO (ρ:Env):Option SV→Option Value→Prop
 | none,none=>True
 | some v,some x=>v.den ρ x
 | _,_=>False
theorem run_sliceBounds_bnd {ρ:Env} {w:World} {lo hi:Option SV} {lo' hi':Option Value} {l h:Int} {len cap:Nat} (b:Bool) (hl:bnd lo 0=some l) (hh:bnd hi len=some h) (dl:odenO ρ lo lo') (dh:odenO ρ hi hi') (h0:0≤l) (h1:l≤h) (h2:h≤cap) :
  (Instr.sliceBounds b len cap lo' hi' none).run P w=.ok (l.toNat,h.toNat,cap) w:=by
 have lowOk:∀ y:Nat,(h.toNat=y)→(match lo' with | some v=>Instr.sliceBound v y .sliceB | none=>pure 0:Sem Nat).run P w=.ok l.toNat w:=by
  intro y hy
  cases lo with
  | none=>cases lo' with
   | none=>simp only [bnd,Option.some.injEq] at hl;subst hl;rfl
   | some _=>exact dl.elim
  | some v=>cases lo' with
   | none=>exact dl.elim
   | some x =>
    cases v <;> simp only [bnd] at hl <;> try (cases hl;done)
    cases hl
    cases dl
    exact run_sliceBound _ _ _ _ _ h0 (by omega)
 have hiOk:(match hi' with | some v=>Instr.sliceBound v cap (if b then .sliceAcap else .sliceAlen) | none=>pure len:Sem Nat).run P w=.ok h.toNat w:=by
  cases hi with
  | none=>cases hi' with
   | none=>simp only [bnd,Option.some.injEq] at hh;subst hh;rfl
   | some _=>exact dh.elim
  | some v=>cases hi' with
   | none=>exact dh.elim
   | some x =>
    cases v <;> simp only [bnd] at hh <;> try (cases hh;done)
    cases hh
    cases dh
    exact run_sliceBound _ _ _ _ _ (by omega) h2
 unfold Instr.sliceBounds
 cases hi' with
 | none =>
  simp only at hiOk
  simp only [Sem.run_pure,Result.ok.injEq,and_true] at hiOk
  cases lo' with
  | none=>have:=lowOk _ rfl;simp only [Sem.run_pure,Result.ok.injEq,and_true] at this;simp [hiOk,← this]
  | some v=>have:=lowOk _ rfl;simp only at this;simp [hiOk,this]
 | some v =>
  simp only at hiOk
  cases lo' with
  | none=>have:=lowOk _ rfl;simp only [Sem.run_pure,Result.ok.injEq,and_true] at this;simp [hiOk,← this]
  | some v=>have:=lowOk _ rfl;simp only at this;simp [hiOk,this]
end runs
end Go.Sy
