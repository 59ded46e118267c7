/-
 A symbolic executor for the model's code, part E: addresses, parts, slices, arithmetic, comparisons. Conditions: none.
-/
import Derived.Test.YtdcdjjogieojhaaGreatDoorKSyD
import Derived.Laws.StructEq
import Derived.Laws.Slices
set_option linter.unusedVariables false
set_option linter.unusedSimpArgs false
set_option linter.unusedSectionVars false
open List renaming mem_singleton->aq
namespace Go.Sy
open Go.RowKit
variable [AO]
section runs
variable {P:Program}
def DS(P:Program)(s:TypeId)(p:SV)(f:Nat):Option Ae :=
 match P.underlying s with
 | some (.struct fields)=>match fields[f]? with
  | some fld=>match Ch P fld.type with
   | some (_+1)=>match p with
    | .ptr i o=>some { v:=.ptr i (o+fld.offset) }
    | .elt i size k j=>some { v:=.elt i size k (j+fld.offset) }
    | .rp sh d k j=>some { v:=.rp sh d k (j+fld.offset) }
    | .rz t i sh d=>(match t with
     | true=>some { v:=.rp sh d 0 (0+fld.offset) }
     | false=>none)
    | .pix i o s m k j=>some { v:=.pix i o s m k (j+fld.offset) }
    | _=>none
   | _=>none
  | none=>none
 | _=>none
theorem Fw{O:Env}{w:World}{s:TypeId}{p:SV}{f:Nat}{r:Ae}(h:DS P s p f=some r){x:Value}(hp:p.den O x)(off:Nat) :
  ∃ y,(Instr.fieldAt s x f).run P w=.ok y w/\A5 O O off r w w y:=by
 unfold DS at h
 split at h <;> try (cases h;done)
 rename_i fields hu
 split at h <;> try (cases h;done)
 rename_i fld hf
 split at h <;> try (cases h;done)
 rename_i n hsz
 have hs:(sizeOf fld.type).run P w=.ok (n+1) w:=AI hsz w
 split at h <;> try (cases h;done)
 .cases h
  rename_i i o
  obtain ⟨m,hm,rfl⟩:=hp
  refine ⟨.pointer (some ⟨m.blk,m.off+(o+fld.offset),none⟩),?_,A5.pure_ ⟨m,hm,rfl⟩⟩
  simp [Instr.fieldAt,run_underlying hu,hf,Instr.sureAddr,fieldPlace,hs,Addr.add_mid,Nat.add_assoc]
 .cases h
  rename_i i size k j
  obtain ⟨m,hm,rfl⟩:=hp
  refine ⟨.pointer (some ⟨m.blk,m.off+(k * size+(j+fld.offset)),none⟩),?_,A5.pure_ ⟨m,hm,rfl⟩⟩
  simp [Instr.fieldAt,run_underlying hu,hf,Instr.sureAddr,fieldPlace,hs,Addr.add_mid,Nat.add_assoc]
 .cases h
  rename_i sh d k j
  obtain ⟨b,o,rfl,hL⟩:=hp
  refine ⟨.pointer (some ⟨b,o+(j+fld.offset),none⟩),?_,A5.pure_ ⟨b,o,rfl,hL⟩⟩
  simp [Instr.fieldAt,run_underlying hu,hf,Instr.sureAddr,fieldPlace,hs,Addr.add_mid,Nat.add_assoc]
 .rename_i t i sh d
  split at h <;> cases h
  rcases hp with ⟨_,b,rfl,hp,hL⟩ | ⟨h,_⟩
  .refine ⟨.pointer (some ⟨b,0+(0+fld.offset),none⟩),?_,A5.pure_ ⟨b,0,rfl,hL⟩⟩
   simp [Instr.fieldAt,run_underlying hu,hf,Instr.sureAddr,fieldPlace,hs,Addr.add_mid,Nat.add_assoc]
  .cases h
 .cases h
  rename_i i o s m k j
  obtain ⟨mm,hm,rfl⟩:=hp
  refine ⟨.pointer (some ⟨mm.blk,mm.off+(o+k * s+(j+fld.offset)),none⟩),?_,A5.pure_ ⟨mm,hm,rfl⟩⟩
  simp [Instr.fieldAt,run_underlying hu,hf,Instr.sureAddr,fieldPlace,hs,Addr.add_mid,Nat.add_assoc]
def Gm(P:Program)(pix:Bool)(t:TypeId)(p ix:SV):Option Ae :=
 match ix with
 | .int _ n=>match P.underlying t with
  | some (.array len e)=>match Ch P e,p with
   | some s,.ptr i o=>(match pix with
    | false=>some { v:=.ptr i (o+n.toNat * s),need:=[decide (0<=n/\n<len)] }
    | true=>some { v:=.pix i o s len n.toNat 0,need:=[decide (0<=n/\n<len)] })
   | some s,.pix i o s' m k j=>some { v:=.pix i o s' m k (j+n.toNat * s),need:=[decide (0<=n/\n<len)] }
   | some s,.ra sh m d=>if sh.length=s then some { v:=.rp sh d n.toNat 0,need:=[decide (0<=n/\n<len),decide (n<m)] } else none
   | some s,.rp sh d k j=>some { v:=.rp sh d k (j+n.toNat * s),need:=[decide (0<=n/\n<len)] }
   | _,_=>none
  | some (.slice e)=>match Ch P e,p with
   | some s,.slc i size k m=>if size=s then some { v:=.elt i size (k+n.toNat) 0,need:=[decide (0<=n/\n<m)] } else none
   | some s,.own i size m=>if size=s then some { v:=.elt i size n.toNat 0,need:=[decide (0<=n/\n<m)] } else none
   | some s,.gr i size m=>if size=s then some { v:=.elt i size n.toNat 0,need:=[decide (0<=n/\n<m)] } else none
   | some s,.ro sh m d=>if sh.length=s then some { v:=.rp sh d n.toNat 0,need:=[decide (0<=n/\n<m)] } else none
   | _,_=>none
  | _=>none
 | _=>none
theorem CK{O:Env}{w:World}{t:TypeId}{p ix:SV}{r:Ae}{pix:Bool}(h:Gm P pix t p ix=some r)(hn:∀ b∈r.need,b=true){x y:Value}(hp:p.den O x)(hi:ix.den O y)(off:Nat) :
  ∃ z,(Instr.indexAt t x y).run P w=.ok z w/\A5 O O off r w w z:=by
 unfold Gm at h
 split at h <;> try (cases h;done)
 rename_i kk n
 cases hi
 split at h <;> try (cases h;done)
 .rename_i len e hu
  split at h <;> try (cases h;done)
  .rename_i s i o hs
   obtain ⟨m,hm,rfl⟩:=hp
   have hb:0<=n/\n<len:=by
    split at h <;> cases h <;> simpa using hn
   have hrun:(Instr.indexAt t (.pointer (some ⟨m.blk,m.off+o,none⟩)) (.int kk n)).run P w=.ok (.pointer (some ⟨m.blk,m.off+(o+n.toNat * s),none⟩)) w:=by
    simp [Instr.indexAt,asIntOf,run_underlying hu,Instr.sureAddr,hb,AI hs,Addr.add_mid,Nat.add_assoc]
   split at h <;> cases h
   .exact ⟨_,hrun,A5.pure_ ⟨m,hm,rfl⟩⟩
   .exact ⟨_,hrun,A5.pure_ ⟨m,hm,rfl⟩⟩
  .rename_i s i o s' m0 k j hs
   cases h
   obtain ⟨m,hm,rfl⟩:=hp
   simp only [aq,forall_eq,decide_eq_true_eq] at hn
   refine ⟨.pointer (some ⟨m.blk,m.off+(o+k * s'+(j+n.toNat * s)),none⟩),?_,A5.pure_ ⟨m,hm,rfl⟩⟩
   simp [Instr.indexAt,asIntOf,run_underlying hu,Instr.sureAddr,hn,AI hs,Addr.add_mid,Nat.add_assoc]
  .rename_i s sh m0 d hs
   split at h <;> cases h
   rename_i he
   subst he
   obtain ⟨b,o,rfl,hL⟩:=hp
   have hb:0<=n/\n<len:=by simpa using hn _ (List.mem_cons_self ..)
   have hb2:n<m0:=by simpa using hn (decide (n<m0)) (by simp)
   refine ⟨.pointer (some ⟨b,o+n.toNat * sh.length+0,none⟩),?_,A5.pure_ ⟨b,_,rfl,hL n.toNat (by omega)⟩⟩
   simp [Instr.indexAt,asIntOf,run_underlying hu,Instr.sureAddr,hb,AI hs,Addr.add_mid]
  .rename_i s sh d k j hs
   cases h
   obtain ⟨b,o,rfl,hL⟩:=hp
   simp only [aq,forall_eq,decide_eq_true_eq] at hn
   refine ⟨.pointer (some ⟨b,o+(j+n.toNat * s),none⟩),?_,A5.pure_ ⟨b,o,rfl,hL⟩⟩
   simp [Instr.indexAt,asIntOf,run_underlying hu,Instr.sureAddr,hn,AI hs,Addr.add_mid,Nat.add_assoc]
 .rename_i e hu
  split at h <;> try (cases h;done)
  .rename_i s i size k m hs
   split at h <;> cases h
   rename_i he
   subst he
   obtain ⟨A,cap,rfl,hc,hA⟩:=hp
   simp only [aq,forall_eq,decide_eq_true_eq] at hn
   obtain ⟨nm,hnm,rfl⟩:=hA (by omega)
   refine ⟨.pointer (some ⟨nm.blk,nm.off+((k+n.toNat) * size+0),none⟩),?_,A5.pure_ ⟨nm,hnm,rfl⟩⟩
   simp [Instr.indexAt,asIntOf,run_underlying hu,hn,AI hs,Addr.add_mid,Nat.add_assoc,Nat.add_mul]
  .rename_i s i size m hs
   split at h <;> cases h
   rename_i he
   subst he
   obtain ⟨nm,hnm,h0,hc,rfl⟩:=hp
   simp only [aq,forall_eq,decide_eq_true_eq] at hn
   refine ⟨.pointer (some ⟨nm.blk,nm.off+(n.toNat * size+0),none⟩),?_,A5.pure_ ⟨nm,hnm,rfl⟩⟩
   simp [Instr.indexAt,asIntOf,run_underlying hu,hn,AI hs,Addr.add_mid,h0]
  .rename_i s i size m hs
   split at h <;> cases h
   rename_i he
   subst he
   simp only [aq,forall_eq,decide_eq_true_eq] at hn
   rcases hp with ⟨hz,_⟩ | ⟨nm,hnm,h0,hc,rfl⟩
   .omega
   refine ⟨.pointer (some ⟨nm.blk,nm.off+(n.toNat * size+0),none⟩),?_,A5.pure_ ⟨nm,hnm,rfl⟩⟩
   simp [Instr.indexAt,asIntOf,run_underlying hu,hn,AI hs,Addr.add_mid,h0]
  .rename_i s sh m d hs
   split at h <;> cases h
   rename_i he
   subst he
   simp only [aq,forall_eq,decide_eq_true_eq] at hn
   obtain ⟨A,cap,rfl,hc,hA⟩:=hp
   obtain ⟨b,o,rfl,hL⟩:=hA (by omega)
   refine ⟨.pointer (some ⟨b,o+n.toNat * sh.length+0,none⟩),?_,A5.pure_ ⟨b,_,rfl,hL n.toNat (by omega)⟩⟩
   simp [Instr.indexAt,asIntOf,run_underlying hu,hn,AI hs,Addr.add_mid]
def H2(P:Program)(t:TypeId)(l:List SV)(o:Nat):Option SV :=
 match HD P t,Ch P t with
 | some true,some n=>if o+n<=l.length then some (.agg ((l.drop o).take n)) else none
 | some false,_=>l[o]?
 | _,_=>none
theorem D0{O:Env}{w:World}{t:TypeId}{l:List SV}{o:Nat}{v:SV}(h:H2 P t l o=some v){xs:List Value}(hl:SV.denL O l xs) :
  ∃ y,(part t ⟨xs⟩ o).run P w=.ok y w/\v.den O y:=by
 unfold H2 at h
 split at h
 .rename_i n ha hs
  split at h <;> cases h
  refine ⟨.agg ⟨(xs.drop o).take n⟩,?_,_,rfl,FH (FG hl o) n⟩
  simp only [part,Sem.run_bind,Dw ha,Result.andThen_ok,if_true,AI hs,Sem.run_pure]
  congr 2
  apply Array.toList_inj.1
  rw [Array.toList_extract]
  simp [List.extract_eq_take_drop]
 .rename_i ha
  obtain ⟨y,hy,hd⟩:=AP hl h
  exact ⟨y,by simp [part,Dw ha,hy],hd⟩
 .cases h
def NT(P:Program)(t:TypeId)(v:SV)(f:Nat):Option Ae :=
 match P.underlying t,v with
 | some (.struct fields),.agg l=>match fields[f]? with
  | some fld=>(H2 P fld.type l fld.offset).map fun v=>{ v:=v }
  | none=>none
 | _,_=>none
theorem NB{O:Env}{w:World}{t:TypeId}{v:SV}{f:Nat}{r:Ae}(h:NT P t v f=some r){x:Value}(hv:v.den O x)(off:Nat) :
  ∃ y,(Instr.field t x f).run P w=.ok y w/\A5 O O off r w w y:=by
 unfold NT at h
 split at h <;> try (cases h;done)
 rename_i fields l hu
 obtain ⟨xs,rfl,hl⟩:=hv
 split at h <;> try (cases h;done)
 rename_i fld hf
 rw [Option.map_eq_some_iff] at h
 obtain ⟨u,hpu,rfl⟩:=h
 obtain ⟨y,hy,hd⟩:=D0 (w:=w) hpu hl
 exact ⟨y,by simp [Instr.field,run_underlying hu,hf,asAgg,hy],A5.pure_ hd⟩
def An(s:BA)(i:Nat):Int:=((s.data.toList.getD i 0).toNat:Int)
theorem It{s:BA}{i:Nat}(h:i<s.size):s[i]? = some (s[i]'h)/\An s i=((s[i]'h).toNat:Int):=by
 refine ⟨getElem?_pos _ _ _,?_⟩
 unfold An
 rw [List.getD_eq_getElem?_getD,List.getElem?_eq_getElem (by simpa using h)]
 rfl
def NV(P:Program)(t:TypeId)(v ix:SV):Option Ae :=
 match ix,P.underlying t,v with
 | .int _ n,some (.array len e),.agg l=>match Ch P e with
  | some s=>(H2 P e l (n.toNat * s)).map fun v=>{ v:=v,need:=[decide (0<=n/\n<len)] }
  | none=>none
 | .int _ n,some .string,.str s=>some { v:=.int .u8 (An s n.toNat),need:=[decide (0<=n/\n<s.size)] }
 | _,_,_=>none
theorem NE{O:Env}{w:World}{t:TypeId}{v ix:SV}{r:Ae}(h:NV P t v ix=some r)(hn:∀ b∈r.need,b=true){x y:Value}(hv:v.den O x)(hi:ix.den O y)(off:Nat) :
  ∃ z,(Instr.index t x y).run P w=.ok z w/\A5 O O off r w w z:=by
 unfold NV at h
 split at h <;> try (cases h;done)
 .rename_i kk n len e l hu
  split at h <;> try (cases h;done)
  rename_i s hs
  rw [Option.map_eq_some_iff] at h
  obtain ⟨u,hpu,rfl⟩:=h
  cases hi
  obtain ⟨xs,rfl,hl⟩:=hv
  simp only [aq,forall_eq,decide_eq_true_eq] at hn
  obtain ⟨y,hy,hd⟩:=D0 (w:=w) hpu hl
  exact ⟨y,by simp [Instr.index,asIntOf,run_underlying hu,hn,AI hs,hy],A5.pure_ hd⟩
 .rename_i kk n s hu
  cases h
  cases hi
  cases hv
  simp only [aq,forall_eq,decide_eq_true_eq] at hn
  obtain ⟨h1,h2⟩:=It (s:=s) (i:=n.toNat) (by omega)
  refine ⟨.int .u8 (An s n.toNat),?_,A5.pure_ rfl⟩
  simp [Instr.index,asIntOf,run_underlying hu,hn.1,h1,h2]
def Jc(P:Program)(e:TypeId)(l:List SV)(s:Nat):Nat->Nat->Option (List SV)
 | 0,_=>some []
 | k+1,i=>match H2 P e l (i * s),Jc P e l s k (i+1) with
  | some v,some vs=>some (v :: vs)
  | _,_=>none
theorem Jd{e:TypeId}{l:List SV}{s:Nat}:∀ {n i:Nat} {vs:List SV},Jc P e l s n i=some vs->vs.length=n/\∀ j,j<n->H2 P e l ((i+j) * s)=vs[j]?
 | 0,i,vs,h=>by simp only [Jc,Option.some.injEq] at h;subst h;exact ⟨rfl,fun i hi=>absurd hi (Nat.not_lt_zero i)⟩
 | n+1,i,vs,h=>by
  simp only [Jc] at h
  split at h <;> cases h
  rename_i v us hv hu
  obtain ⟨h1,h2⟩:=Jd hu
  refine ⟨by simp [h1],fun j hj=>?_⟩
  cases j with
  | zero=>simpa using hv
  | succ j =>
   have:=h2 j (by omega)
   rw [show i+(j+1)=i+1+j by omega,this]
   simp
def Lf(P:Program)(t:TypeId)(v ix:SV):Option Ae :=
 match ix,P.underlying t,v with
 | .int _ n,some (.array len e),.agg l=>match Ch P e with
  | some s=>(match Jc P e l s len 0 with
   | some (p :: vs)=>(match (p :: vs).all (Dh p) with
    | true=>some { v:=OJ (p :: vs) n.toNat p,need:=[decide (0<=n/\n<len)] }
    | false=>none)
   | _=>none)
  | none=>none
 | .int _ n,some .string,.str s=>some { v:=.int .u8 (An s n.toNat),need:=[decide (0<=n/\n<s.size)] }
 | _,_,_=>none
theorem Mk{O:Env}{w:World}{t:TypeId}{v ix:SV}{r:Ae}(h:Lf P t v ix=some r)(hn:∀ b∈r.need,b=true){x y:Value}(hv:v.den O x)(hi:ix.den O y)(off:Nat) :
  ∃ z,(Instr.index t x y).run P w=.ok z w/\A5 O O off r w w z:=by
 unfold Lf at h
 split at h <;> try (cases h;done)
 .rename_i kk n len e l hu
  split at h <;> try (cases h;done)
  rename_i s hs
  split at h <;> try (cases h;done)
  rename_i p vs hps
  split at h <;> cases h
  rename_i hall
  cases hi
  obtain ⟨xs,rfl,hl⟩:=hv
  simp only [aq,forall_eq,decide_eq_true_eq] at hn
  obtain ⟨hlen,hget⟩:=Jd hps
  have hlt:n.toNat<len:=by omega
  have hg:=hget n.toNat hlt
  rw [Nat.zero_add] at hg
  cases hu2:(p :: vs)[n.toNat]? with
  | none=>rw [List.getElem?_eq_none_iff] at hu2;omega
  | some u =>
   rw [hu2] at hg
   have hlk:Dh p u=true:=List.all_eq_true.1 hall u (List.mem_of_getElem? hu2)
   obtain ⟨y,hy,hd⟩:=D0 (w:=w) hg hl
   exact ⟨y,by simp [Instr.index,asIntOf,run_underlying hu,hn,AI hs,hy],by rw [MB hlk hu2];exact A5.pure_ hd⟩
 .rename_i kk n s hu
  cases h
  cases hi
  cases hv
  simp only [aq,forall_eq,decide_eq_true_eq] at hn
  obtain ⟨h1,h2⟩:=It (s:=s) (i:=n.toNat) (by omega)
  refine ⟨.int .u8 (An s n.toNat),?_,A5.pure_ rfl⟩
  simp [Instr.index,asIntOf,run_underlying hu,hn.1,h1,h2]
def JM(v:SV)(i:Nat):Option Ae :=
 match v with
 | .tup l=>(l[i]?).map fun v=>{ v:=v }
 | _=>none
theorem KZ{O:Env}{w:World}{v:SV}{i:Nat}{r:Ae}(h:JM v i=some r){x:Value}(hv:v.den O x)(off:Nat) :
  ∃ y,(Instr.extract x i).run P w=.ok y w/\A5 O O off r w w y:=by
 unfold JM at h
 split at h <;> try (cases h;done)
 rename_i l
 rw [Option.map_eq_some_iff] at h
 obtain ⟨u,hpu,rfl⟩:=h
 obtain ⟨xs,rfl,hl⟩:=hv
 obtain ⟨y,hy,hd⟩:=AP hl hpu
 exact ⟨y,by simp [Instr.extract,hy],A5.pure_ hd⟩
def bnd(v:Option SV)(d:Int):Option Int :=
 match v with
 | none=>some d
 | some (.int _ n)=>some n
 | some _=>none
def Dat.shift(d:Dat):Nat->Dat
 | 0=>d
 | k+1=>{ ii:=fun q c=>d.ii (k+1+q) c,ss:=fun q c=>d.ss (k+1+q) c,bb:=fun q c=>d.bb (k+1+q) c,sn:=fun q c=>d.sn (k+1+q) c,sd:=fun q c=>d.sd (k+1+q) c }
theorem R8(d:Dat)(k q c:Nat):(d.shift k).ii q c=d.ii (k+q) c:=by cases k <;> simp [Dat.shift]
theorem ME(d:Dat)(k q c:Nat):(d.shift k).ss q c=d.ss (k+q) c:=by cases k <;> simp [Dat.shift]
theorem R7(d:Dat)(k q c:Nat):(d.shift k).bb q c=d.bb (k+q) c:=by cases k <;> simp [Dat.shift]
theorem Ra(d:Dat)(k q c:Nat):(d.shift k).sn q c=d.sn (k+q) c:=by cases k <;> simp [Dat.shift]
theorem R9(d:Dat)(k q c:Nat):(d.shift k).sd q c=d.sd (k+q) c:=by cases k <;> simp [Dat.shift]
theorem Nh(d:Dat)(k q c:Nat)(kd:Kd):Dq (d.shift k) q c kd=Dq d (k+q) c kd:=by cases kd <;> simp [Dq,Dat.sub,R8,ME,R7,Ra,R9]
theorem LB(sh:List Kd)(d:Dat)(k q:Nat):el sh (d.shift k) q=el sh d (k+q):=by
 apply List.ext_getElem?
 intro c
 rw [C8,C8]
 cases sh[c]? <;> simp [Nh]
theorem K5{O:Env}{sh:List Kd}{d:Dat}{k q b o:Nat}:Kd.denL O.od sh (d.shift k) q 0 b o↔Kd.denL O.od sh d (k+q) 0 b o:=by rw [BN,BN,LB]
def NW(P:Program)(t:TypeId)(v:SV)(lo hi:Option SV):Option Ae :=
 match P.underlying t,v with
 | some (.array n e),.ptr i 0=>match Ch P e,bnd lo 0,bnd hi n with
  | some s,some l,some h=>some { v:=.slc i s l.toNat (h - l).toNat,need:=[decide (0<=l/\l<=h/\h<=n)] }
  | _,_,_=>none
 | some (.array n e),.ra sh m d=>match Ch P e,bnd lo 0,bnd hi n with
  | some s,some l,some h=>if sh.length=s/\m=n then some { v:=.ro sh (h - l).toNat (d.shift l.toNat),need:=[decide (0<=l/\l<=h/\h<=n)] } else none
  | _,_,_=>none
 | some (.slice e),.slc i size k n=>match Ch P e,bnd lo 0,bnd hi n with
  | some s,some l,some h=>if size=s then some { v:=.slc i size (k+l.toNat) (h - l).toNat,need:=[decide (0<=l/\l<=h/\h<=n)] } else none
  | _,_,_=>none
 | some (.slice e),.own i size n=>match Ch P e,bnd lo 0,bnd hi n with
  | some s,some l,some h=>if size=s then some { v:=.slc i size l.toNat (h - l).toNat,need:=[decide (0<=l/\l<=h/\h<=n)] } else none
  | _,_,_=>none
 | some (.slice e),.gr i size n=>match Ch P e,bnd lo 0,bnd hi n with
  | some s,some l,some h=>if size=s then some { v:=match lo with | none=>.gr i size h.toNat | some _=>.slc i size l.toNat (h - l).toNat,need:=[decide (0<=l/\l<=h/\h<=n)] } else none
  | _,_,_=>none
 | some (.slice e),.nsl=>match Ch P e,bnd lo 0,bnd hi 0 with
  | some _,some l,some h=>some { v:=.nsl,need:=[decide (0<=l/\l<=h/\h<=0)] }
  | _,_,_=>none
 | some (.slice e),.ro sh n d=>match Ch P e,bnd lo 0,bnd hi n with
  | some s,some l,some h=>if sh.length=s then some { v:=.ro sh (h - l).toNat (d.shift l.toNat),need:=[decide (0<=l/\l<=h/\h<=n)] } else none
  | _,_,_=>none
 | some .string,.str s=>match bnd lo 0,bnd hi s.size with
  | some l,some h=>some { v:=.str (s.extract l.toNat h.toNat),need:=[decide (0<=l/\l<=h/\h<=s.size)] }
  | _,_=>none
 | _,_=>none
def Ke(O:Env):Option SV->Option Value->Prop
 | none,none=>True
 | some v,some x=>v.den O x
 | _,_=>False
theorem AG{O:Env}{w:World}{lo hi:Option SV}{lo' hi':Option Value}{l h:Int}{len cap:Nat}(b:Bool)(hl:bnd lo 0=some l)(hh:bnd hi len=some h)(dl:Ke O lo lo')(dh:Ke O hi hi')(h0:0<=l)(h1:l<=h)(h2:h<=cap) :
  (Instr.sliceBounds b len cap lo' hi' none).run P w=.ok (l.toNat,h.toNat,cap) w:=by
 have lowOk:∀ y:Nat,(h.toNat=y)->(match lo' with | some v=>Instr.sliceBound v y .sliceB | none=>pure 0:Sem Nat).run P w=.ok l.toNat w:=by
  intro y hy
  cases lo with
  | none=>cases lo' with
   | none=>simp only [bnd,Option.some.injEq] at hl;subst hl;rfl
   | some _=>exact dl.elim
  | some v=>cases lo' with
   | none=>exact dl.elim
   | some x =>
    cases v <;> simp only [bnd] at hl <;> try (cases hl;done)
    cases hl
    cases dl
    exact run_sliceBound _ _ _ _ _ h0 (by omega)
 have hiOk:(match hi' with | some v=>Instr.sliceBound v cap (if b then .sliceAcap else .sliceAlen) | none=>pure len:Sem Nat).run P w=.ok h.toNat w:=by
  cases hi with
  | none=>cases hi' with
   | none=>simp only [bnd,Option.some.injEq] at hh;subst hh;rfl
   | some _=>exact dh.elim
  | some v=>cases hi' with
   | none=>exact dh.elim
   | some x =>
    cases v <;> simp only [bnd] at hh <;> try (cases hh;done)
    cases hh
    cases dh
    exact run_sliceBound _ _ _ _ _ (by omega) h2
 unfold Instr.sliceBounds
 cases hi' with
 | none =>
  simp only at hiOk
  simp only [Sem.run_pure,Result.ok.injEq,and_true] at hiOk
  cases lo' with
  | none=>have:=lowOk _ rfl;simp only [Sem.run_pure,Result.ok.injEq,and_true] at this;simp [hiOk,<- this]
  | some v=>have:=lowOk _ rfl;simp only at this;simp [hiOk,this]
 | some v =>
  simp only at hiOk
  cases lo' with
  | none=>have:=lowOk _ rfl;simp only [Sem.run_pure,Result.ok.injEq,and_true] at this;simp [hiOk,<- this]
  | some v=>have:=lowOk _ rfl;simp only at this;simp [hiOk,this]
end runs
end Go.Sy
