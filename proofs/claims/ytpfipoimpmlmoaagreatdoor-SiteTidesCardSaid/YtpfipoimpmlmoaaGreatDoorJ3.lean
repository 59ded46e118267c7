/-
 Contracts of functions: models, equations by the kernel, contracts. Conditions: none.
-/
import Derived.Test.YtpfipoimpmlmoaaGreatDoorJ2
import Derived.KernelRfl
namespace Go.Proofs.YtpfipoimpmlmoaaGreatDoor
open Go Go.Sy Go.RowKit Go.ChangeMaps
noncomputable section
set_option linter.unusedVariables false
set_option linter.unusedSimpArgs false
set_option maxRecDepth 100000
set_option maxHeartbeats 2000000
/-! ### strconv.Itoa -/
def m22 (a0:Int):ByteArray:=⟨(Lib.itoa a0).toArray⟩
def n22 (a0:Int):Bool:=decide (-9223372036854775808≤a0∧a0≤9223372036854775807)
def q22 (r:ByteArray):SV × List Blk × List Blk:=(.str r,[],[])
def g22:List SV→List Blk→Option OpRes:=fun vs bs=>match vs,bs with
 | [.int .i64 a0],[]=>some (resOf 0 (q22 (m22 a0)) [n22 a0])
 | _,_=>none
def c22:Ctr:=genC [.k] g22
theorem k22:CtrOk Tryz.prog c22 22:=by
 refine ctr_gen ⟨Tryz.f22,Tryz.func22,rfl,by kernel_rfl⟩ fun vs bs q hq hn ρ1 M xs w hd hm hfr hMb=>?_
 unfold g22 at hq
 split at hq <;> cases hq
 rename_i n
 have hr:=hn _ (List.mem_singleton.2 rfl)
 have hr:-9223372036854775808≤n∧n≤9223372036854775807:=by simpa [n22] using hr
 match xs,hd with
 | [x],⟨hx,_⟩ =>
 obtain rfl:x=.int .i64 n:=hx
 refine (Any.strconv_Itoa itoaR n hr.1 hr.2 w (tab_of hm.pv)).mono ?_
 rintro e w' ⟨rfl,k,os,rfl⟩
 exact ⟨_,ρ1,rfl,post_val rfl (grow_below w k os)⟩
attribute [irreducible] m22
/-! ### strconv.Atoi -/
def m58 (s:ByteArray):Int × Bool:=match Lib.atoiAll s.data.toList with
 | .ok v=>(v,true)
 | .range=>(Lib.atoiSat s.data.toList,false)
 | _=>(0,false)
def n58 (s:ByteArray):Bool:=decide (s.size≤281474976710656)
def q58 (r:Int × Bool):SV × List Blk × List Blk:=(.tup [.int .i64 r.1,.ni r.2],[],[])
def g58:List SV→List Blk→Option OpRes:=fun vs bs=>match vs,bs with
 | [.str a0],[]=>some (resOf 0 (q58 (m58 a0)) [n58 a0])
 | _,_=>none
def c58:Ctr:=genC [.k] g58
theorem k58:CtrOk Tryz.prog c58 58:=by
 refine ctr_gen ⟨Tryz.f58,Tryz.func58,rfl,by kernel_rfl⟩ fun vs bs q hq hn ρ1 M xs w hd hm hfr hMb=>?_
 unfold g58 at hq
 split at hq <;> cases hq
 rename_i s
 have hr:=hn _ (List.mem_singleton.2 rfl)
 have hr:s.size≤281474976710656:=by simpa [n58] using hr
 match xs,hd with
 | [x],⟨hx,_⟩ =>
 obtain rfl:x=.string s:=hx
 rcases h:Lib.atoiAll s.data.toList with v | _ | _
 ·refine (Any.strconv_Atoi_ok atoiR s (by omega) v h w).mono ?_
  rintro e w' ⟨rfl,hw⟩
  have e1:m58 s=(v,true):=by unfold m58;rw [h]
  refine ⟨_,ρ1,rfl,post_val ⟨[.int .i64 v,.nilIface],rfl,?_,?_,trivial⟩ ?_⟩
  ·show _=_;rw [e1]
  ·rw [e1];exact .inl ⟨rfl,rfl⟩
  ·rcases hw with rfl | ⟨t,rfl⟩
   ·exact RowKit.Below.refl _ _
   ·exact bytes_below _ _ _
 ·obtain ⟨tp,p,hv⟩:=es_of hm.pv
  refine (Any.strconv_Atoi_syntax_var atoiR s hr h tp p w hv).mono ?_
  rintro e w' ⟨N,rfl,_,_,hB⟩
  have e1:m58 s=(0,false):=by unfold m58;rw [h]
  refine ⟨_,ρ1,rfl,post_val ⟨_,rfl,?_,?_,trivial⟩ hB⟩
  ·show _=_;rw [e1]
  ·rw [e1];exact .inr ⟨rfl,_,_,rfl⟩
 ·obtain ⟨tp,p,hv⟩:=er_of hm.pv
  refine (Any.strconv_Atoi_range_var atoiR s hr h tp p w hv).mono ?_
  rintro e w' ⟨N,rfl,_,_,hB⟩
  have e1:m58 s=(Lib.atoiSat s.data.toList,false):=by unfold m58;rw [h]
  refine ⟨_,ρ1,rfl,post_val ⟨_,rfl,?_,?_,trivial⟩ hB⟩
  ·show _=_;rw [e1]
  ·rw [e1];exact .inr ⟨rfl,_,_,rfl⟩
attribute [irreducible] m58
/-! ### strings.CutSuffix -/
def m56 (s p:ByteArray):ByteArray × Bool:=(⟨(Lib.trimSuffix s.data.toList p.data.toList).toArray⟩,Lib.hasSuffix s.data.toList p.data.toList)
def n56 (s:ByteArray):Bool:=decide (s.size≤9223372036854775807)
def q56 (r:ByteArray × Bool):SV × List Blk × List Blk:=(.tup [.str r.1,.bool r.2],[],[])
def g56:List SV→List Blk→Option OpRes:=fun vs bs=>match vs,bs with
 | [.str a0,.str a1],[]=>some (resOf 0 (q56 (m56 a0 a1)) [n56 a0])
 | _,_=>none
def c56:Ctr:=genC [.k,.k] g56
theorem k56:CtrOk Tryz.prog c56 56:=by
 refine ctr_gen ⟨Tryz.f56,Tryz.func56,rfl,by kernel_rfl⟩ fun vs bs q hq hn ρ1 M xs w hd hm hfr hMb=>?_
 unfold g56 at hq
 split at hq <;> cases hq
 rename_i s p
 have hr:=hn _ (List.mem_singleton.2 rfl)
 have hr:s.size≤9223372036854775807:=by simpa [n56] using hr
 match xs,hd with
 | [x,y],⟨hx,hy,_⟩ =>
 obtain rfl:x=.string s:=hx
 obtain rfl:y=.string p:=hy
 refine (Any.strings_CutSuffix cutR s p w hr).mono ?_
 rintro e w' ⟨rfl,rfl⟩
 exact ⟨_,ρ1,rfl,post_val ⟨_,rfl,rfl,rfl,trivial⟩ (RowKit.Below.refl _ _)⟩
attribute [irreducible] m56
/-! ### strings.TrimPrefix -/
def m59 (s p:ByteArray):ByteArray:=⟨(Lib.trimPrefix s.data.toList p.data.toList).toArray⟩
def q59 (r:ByteArray):SV × List Blk × List Blk:=(.str r,[],[])
def g59:List SV→List Blk→Option OpRes:=fun vs bs=>match vs,bs with
 | [.str a0,.str a1],[]=>some (resOf 0 (q59 (m59 a0 a1)) [])
 | _,_=>none
def c59:Ctr:=genC [.k,.k] g59
theorem k59:CtrOk Tryz.prog c59 59:=by
 refine ctr_gen ⟨Tryz.f59,Tryz.func59,rfl,by kernel_rfl⟩ fun vs bs q hq hn ρ1 M xs w hd hm hfr hMb=>?_
 unfold g59 at hq
 split at hq <;> cases hq
 rename_i s p
 match xs,hd with
 | [x,y],⟨hx,hy,_⟩ =>
 obtain rfl:x=.string s:=hx
 obtain rfl:y=.string p:=hy
 refine (Any.strings_TrimPrefix trimR s p w).mono ?_
 rintro e w' ⟨rfl,rfl⟩
 exact ⟨_,ρ1,rfl,post_val rfl (RowKit.Below.refl _ _)⟩
attribute [irreducible] m59
/-! ### strings.IndexByte -/
def m55 (s:ByteArray) (c:Int):Int:=Lib.indexByte s.data.toList c.toNat.toUInt8
def q55 (r:Int):SV × List Blk × List Blk:=(.int .i64 r,[],[])
def g55:List SV→List Blk→Option OpRes:=fun vs bs=>match vs,bs with
 | [.str a0,.int .u8 a1],[]=>some (resOf 0 (q55 (m55 a0 a1)) [])
 | _,_=>none
def c55:Ctr:=genC [.k,.k] g55
theorem k55:CtrOk Tryz.prog c55 55:=by
 refine ctr_gen ⟨Tryz.f55,Tryz.func55,rfl,by kernel_rfl⟩ fun vs bs q hq hn ρ1 M xs w hd hm hfr hMb=>?_
 unfold g55 at hq
 split at hq <;> cases hq
 rename_i s c
 match xs,hd with
 | [x,y],⟨hx,hy,_⟩ =>
 obtain rfl:x=.string s:=hx
 obtain rfl:y=.int .u8 c:=hy
 refine (Any.strings_IndexByte idxR s c w).mono ?_
 rintro e w' ⟨rfl,rfl⟩
 exact ⟨_,ρ1,rfl,post_val rfl (RowKit.Below.refl _ _)⟩
attribute [irreducible] m55
/-! ### strings.Split -/
def datT (l:List ByteArray):Dat:={ noDat with ss:=fun q _=>l.getD q ByteArray.empty }
def m57 (s p:ByteArray):Nat × Dat:=(Lib.countB s p+1,datT (Lib.splitB p 0 (Lib.countB s p) s))
def n57 (s p:ByteArray):Bool:=decide (s.size≤4000000000)&&decide (1≤p.size)
def q57 (r:Nat × Dat):SV × List Blk × List Blk:=(.ro [.str] r.1 r.2,[],[])
def g57:List SV→List Blk→Option OpRes:=fun vs bs=>match vs,bs with
 | [.str a0,.str a1],[]=>some (resOf 0 (q57 (m57 a0 a1)) [n57 a0 a1])
 | _,_=>none
def c57:Ctr:=genC [.k,.k] g57
theorem k57:CtrOk Tryz.prog c57 57:=by
 refine ctr_gen ⟨Tryz.f57,Tryz.func57,rfl,by kernel_rfl⟩ fun vs bs q hq hn ρ1 M xs w hd hm hfr hMb=>?_
 unfold g57 at hq
 split at hq <;> cases hq
 rename_i s p
 have hr:=hn _ (List.mem_singleton.2 rfl)
 simp only [n57,Bool.and_eq_true,decide_eq_true_eq] at hr
 obtain ⟨hs,h1⟩:=hr
 obtain ⟨mx,hmx⟩:=hm.pv.mx
 match xs,hd with
 | [x,y],⟨hx,hy,_⟩ =>
 obtain rfl:x=.string s:=hx
 obtain rfl:y=.string p:=hy
 refine (Any.strings_Split splitR (by kernel_rfl) s p mx w (by omega) hmx h1).mono ?_
 rintro e w' ⟨rfl,rfl⟩
 have hlen:=Lib.splitB_all p h1 0 _ s rfl
 obtain ⟨l,hl⟩:∃ l,l=Lib.splitB p 0 (Lib.countB s p) s:=⟨_,rfl⟩
 rw [← hl] at hlen
 obtain ⟨W,hW⟩:∃ W,W=w.alloc (.cells (l.map Value.string).toArray (splitR_ren.t 9)):=⟨_,rfl⟩
 rw [← hl,← hW]
 have hold:∀ b,b<w.heap.size→W.heap[b]? = w.heap[b]?:=fun b hb=>by rw [hW];exact RowKit.Below.heap_alloc _ _ _ hb
 have hnew:W.heap[w.heap.size]? = some (.cells (l.map Value.string).toArray (splitR_ren.t 9) (0,0)):=by rw [hW];exact World.alloc_heap_new w _
 have hodE:OdExt ρ1.od ⟨fun b o=>if b=w.heap.size then W.cell? ⟨b,o,none⟩ else ρ1.od b o,ρ1.od.m,ρ1.od.p⟩:=OdExt.ofC fun b o v hb=>by
  have:=hm.od_lt hb
  have hne:b≠w.heap.size:=by omega
  simp only [if_neg hne,hb]
 refine ⟨_,⟨ρ1.nm,⟨fun b o=>if b=w.heap.size then W.cell? ⟨b,o,none⟩ else ρ1.od b o,ρ1.od.m,ρ1.od.p⟩,ρ1.gl.ext hodE⟩,rfl,?_,⟨fun i m hm=>hm,hodE⟩,fun _ _=>rfl,by rw [hW];rfl,by rw [hW];rfl,by rw [hW];rfl,by rw [hW];simp,fun b hb _=>hold b hb,.ofC fun b o v hb=>?_,fun u hu=>by simp [resOf,q57] at hu,fun j b hj=>by simp [resOf,q57] at hj,fun j j' b b' m m' hne hj=>by simp [resOf,q57] at hj⟩
 ·refine ⟨_,_,rfl,⟨Nat.le_refl _,fun hz=>by cases hz⟩,fun h0=>⟨w.heap.size,0,rfl,fun q hq=>?_⟩⟩
  have hq:q<l.length:=by have:q<Lib.countB s p+1:=hq;omega
  simp only [Kd.denL,Kd.den,List.length_singleton,Nat.mul_one,Nat.zero_add,Nat.add_zero,if_true]
  refine ⟨⟨.string (l.getD q ByteArray.empty),?_,?_⟩,trivial⟩
  ·simp only [World.cell?,hnew]
   rw [List.getElem?_toArray,List.getElem?_map,List.getD_eq_getElem?_getD,List.getElem?_eq_getElem hq]
   rfl
  ·show _=Value.string ((datT (Lib.splitB p 0 (Lib.countB s p) s)).ss q 0)
   rw [← hl];rfl
 ·by_cases hb':b=w.heap.size
  ·subst hb'
   simp only [if_true] at hb
   exact Or.inr ⟨hb,Nat.le_refl _⟩
  ·simp only [if_neg hb'] at hb
   exact Or.inl hb
attribute [irreducible] m57
/-! ### (*strings.Builder).copyCheck -/
theorem ccR:Go.Proofs.Lays.n240 Tryz.prog joinR_ren:={ joinR with }
def g50u:List SV→List Blk→Option OpRes:=fun vs bs=>match vs,bs with
 | [.ptr 0 0],[.cells 66 [.ptr 0 0,.gr 1 1 n],.row 5 [.int .u8] m d]=>some (resOf 2 (.tup [],[],[]) [])
 | _,_=>none
def c50u:Ctr:=genC [.s [.gr 5 [.int .u8]]] g50u
theorem k50u:CtrOk Tryz.prog c50u 50:=by
 refine ctr_gen ⟨Tryz.f50,Tryz.func50,rfl,by kernel_rfl⟩ fun vs bs q hq hn ρ1 M xs w hd hm hfr hMb=>?_
 unfold g50u at hq
 split at hq <;> cases hq
 rename_i n m d
 match xs,hd with
 | [x],⟨hx,_⟩ =>
 obtain ⟨b,hb,rfl⟩:=hx
 obtain ⟨_,⟨h0,c,hc,hl⟩,_⟩:=hm.get (i:=0) rfl hb
 have c0:w.cell? ⟨b.blk,0,none⟩=some (.pointer (some ⟨b.blk,0,none⟩)):=by
  rw [Lib.cell_of_heap hc]
  rcases c with ⟨l⟩
  cases l with
  | nil=>exact hl.elim
  | cons y l =>
   obtain ⟨⟨b',hb',e⟩,_⟩:=hl
   rw [hb] at hb';cases hb'
   rw [h0] at e
   simpa using e
 rw [h0]
 refine (Any.Builder_copyCheck_used ccR joinRX.toX72 b.blk w c0).mono ?_
 rintro e w' ⟨rfl,rfl⟩
 exact ⟨_,ρ1,rfl,post_val ⟨[],rfl,trivial⟩ (RowKit.Below.refl _ _)⟩
def g50f:List SV→List Blk→Option OpRes:=fun vs bs=>match vs,bs with
 | [.ptr 0 0],[.cells 66 [.val (.pointer none),.gr 1 1 n],.row 5 [.int .u8] m d]=>some (resOf 2 (.tup [],[.cells 66 [.ptr 0 0,.gr 1 1 n]],[]) [])
 | _,_=>none
def c50f:Ctr:=genC [.c [.k,.gr 5 [.int .u8]]] g50f
theorem k50f:CtrOk Tryz.prog c50f 50:=by
 refine ctr_gen ⟨Tryz.f50,Tryz.func50,rfl,by kernel_rfl⟩ fun vs bs q hq hn ρ1 M xs w hd hm hfr hMb=>?_
 unfold g50f at hq
 split at hq <;> cases hq
 rename_i n m d
 match xs,hd with
 | [x],⟨hx,_⟩ =>
 obtain ⟨b,hb,rfl⟩:=hx
 obtain ⟨hlt,⟨h0,c,hc,hl⟩,_⟩:=hm.get (i:=0) rfl hb
 obtain ⟨y,rfl,hy⟩:∃ y,c=#[.pointer none,y]∧(SV.gr 1 1 n).den ρ1 y:=by
  rcases c with ⟨l⟩
  match l,hl with
  | [x,y],⟨e,h2,_⟩=>exact ⟨y,by rw [show x=.pointer none from e],h2⟩
 have c0:w.cell? ⟨b.blk,0,none⟩=some (.pointer none):=by rw [Lib.cell_of_heap hc];rfl
 have hsh:w.shape? b.blk=some (66,2):=by simp [World.shape?,hc]
 have hfz:w.frozen? ⟨b.blk,0,none⟩=false:=Lib.frozen_of_heap hc 0
 rw [h0]
 refine (Any.Builder_copyCheck_fresh ccR joinRX.toX72 b.blk w c0 hsh hfz).mono ?_
 rintro e w' ⟨rfl,rfl⟩
 have hc':(w.setCell ⟨b.blk,0,none⟩ (.pointer (some ⟨b.blk,0,none⟩))).heap[b.blk]? = some (.cells #[.pointer (some ⟨b.blk,0,none⟩),y] 66 (0,0)):=by
  rw [heap_setCell_same w b.blk 0 _ _ _ hc];rfl
 have hU:(resOf 2 ((.tup []:SV),[Blk.cells 66 [.ptr 0 0,.gr 1 1 n]],[]) []).upds=[(0,.cells 66 [.ptr 0 0,.gr 1 1 n])]:=rfl
 refine ⟨_,ρ1,rfl,⟨[],rfl,trivial⟩,Ext.refl _,fun _ _=>rfl,rfl,rfl,rfl,by simp,fun k hk hno=>?_,⟨fun _ _ _ h=>.inl h,fun _ _ h=>.inl h,rfl⟩,fun u hu _=>?_,fun j b hj=>by simp [resOf] at hj,fun j j' b b' m m' hne hj=>by simp [resOf] at hj⟩
 ·exact RowKit.Below.heap_setCell w ⟨b.blk,0,none⟩ _ k fun e=>hno _ (by rw [hU];exact List.mem_singleton.2 rfl) b hb e.symm
 ·rw [hU] at hu
  obtain rfl:=List.mem_singleton.1 hu
  refine ⟨fun m' hm'=>?_,fun hn=>by rw [hb] at hn;cases hn⟩
  rw [hb] at hm';cases hm'
  exact ⟨h0,_,hc',⟨_,hb,by rw [h0]⟩,hy,trivial⟩
/-! ### strings.Join -/
def wordsL (n:Nat) (d:Dat):List ByteArray:=(List.range n).map fun q=>d.ss q 0
def m23 (n:Nat) (d:Dat) (s:ByteArray):ByteArray:=⟨(Lib.join ((wordsL n d).map (·.data.toList)) s.data.toList).toArray⟩
def n23 (n:Nat) (d:Dat) (s:ByteArray):Bool:=decide (0<n)&&(decide (n≤1000000)&&decide ((m23 n d s).size≤1073741824))
def q23 (r:ByteArray):SV × List Blk × List Blk:=(.str r,[],[])
def g23:List SV→List Blk→Option OpRes:=fun vs bs=>match vs,bs with
 | [.ro [.str] n d,.str s],[]=>some (resOf 0 (q23 (m23 n d s)) [n23 n d s])
 | _,_=>none
def c23:Ctr:=genC [.ro [.str],.k] g23
theorem k23:CtrOk Tryz.prog c23 23:=by
 refine ctr_gen ⟨Tryz.f23,Tryz.func23,rfl,by kernel_rfl⟩ fun vs bs q hq hn ρ1 M xs w hd hm hfr hMb=>?_
 unfold g23 at hq
 split at hq <;> cases hq
 rename_i n d s
 have hr:=hn _ (List.mem_singleton.2 rfl)
 simp only [n23,Bool.and_eq_true,decide_eq_true_eq] at hr
 obtain ⟨h0,hle,hsz⟩:=hr
 match xs,hd with
 | [x,y],⟨⟨A,cap,hx,hc,hA⟩,hy,_⟩ =>
 subst hx
 obtain rfl:y=.string s:=hy
 obtain ⟨b,o,rfl,hq⟩:=hA h0
 have hlen:(wordsL n d).length=n:=by simp [wordsL]
 have hcells:∀ (j:Nat) x,(wordsL n d)[j]? = some x→w.cell? ⟨b,o+j,none⟩=some (.string x):=fun j x hj=>by
  have hlt:j<n:=by have:=(List.getElem?_eq_some_iff.1 hj).1;omega
  have h:=hq j hlt
  simp only [Kd.denL,Kd.den,List.length_singleton,Nat.mul_one] at h
  obtain ⟨⟨v,k0,e0⟩,_⟩:=h
  have e:x=d.ss j 0:=by
   simp [wordsL,List.getElem?_range hlt] at hj
   exact hj.symm
  rw [e]
  subst e0
  exact hm.seal_ _ _ _ k0
 have hblk:=World.block_lt_of_cell? w _ (hcells 0 _ (List.getElem?_eq_getElem (by omega)))
 have hsz':(Lib.join ((wordsL n d).map (·.data.toList)) s.data.toList).length≤140737488355328:=by
  have:(m23 n d s).size=(Lib.join ((wordsL n d).map (·.data.toList)) s.data.toList).length:=by
   unfold m23
   show Array.size _=_
   simp
  omega
 have:=Any.strings_Join joinR joinRX b o cap (wordsL n d) s w hcells hblk (by omega) (by have:=hc.1;omega) hsz'
 rw [hlen] at this
 refine this.mono ?_
 rintro e w' ⟨rfl,hB⟩
 exact ⟨_,ρ1,rfl,post_val rfl hB⟩
attribute [irreducible] m23
/-! ### (*strings.Builder).String -/
theorem bsR:Go.Proofs.Lays.n169 Tryz.prog joinR_ren:={ joinR with }
def bytesOf (n:Nat) (d:Dat):List UInt8:=(List.range n).map fun q=>UInt8.ofNat (d.ii q 0).toNat
section
open Go.Shelf Go.RowKit
set_option maxHeartbeats 1000000 in
theorem string_calls {b g cap:Nat} {p:Value} {cur:Array Value} {l:List UInt8} {w:World} (h0:l≠[]) (hb:w.heap[b]? = some (.cells #[p,.slice (some ⟨g,0,none⟩) l.length cap] 66 (0,0))) (hg:w.heap[g]? = some (.cells cur 5 (0,0))) (hnc:l.length≤cap) (hcm:cap≤maxLen) (hcs:cur.size=cap)
  (hl:∀ j x,l[j]? = some x→w.cell? ⟨g,j,none⟩=some (.int .u8 x.toNat)) :
  Calls Tryz.prog 24 #[.pointer (some ⟨b,0,none⟩)] w fun e w'=>e=.returned (.string ⟨l.toArray⟩)∧w'=w.drew.freeze ⟨g,0,none⟩ l.length:=by
 have hl0:l.length≠0:=by simpa using h0
 have c1:w.drew.cell? ⟨b,1,none⟩=some (.slice (some ⟨g,0,none⟩) l.length cap):=by
  have:w.drew.heap[b]? = some (.cells #[p,.slice (some ⟨g,0,none⟩) l.length cap] 66 (0,0)):=hb
  rw [Lib.cell_of_heap this];rfl
 have hSD:(Builtin.unsafeSliceData_ #[64] 109 #[.slice (some ⟨g,0,none⟩) l.length cap]).run Tryz.prog w.drew=.ok (.pointer (some ⟨g,0,none⟩)) w.drew:=Lib.run_unsafeSliceData_row _ _ _ _ _ _ (by omega)
 have hUS:(Builtin.unsafeString_ #[109,3] 9 #[.pointer (some ⟨g,0,none⟩),.int .i64 l.length]).run Tryz.prog w.drew=.ok (.string ⟨l.toArray⟩) (w.drew.freeze ⟨g,0,none⟩ l.length):=by
  refine Lib.run_unsafeString_row w.drew 109 3 9 5 Tryz.underlying109 (by kernel_rfl) g cur.size (by have hg':w.drew.heap[g]? = some (.cells cur 5 (0,0)):=hg;simp [World.shape?,hg']) l h0 (by omega) (by unfold maxLen at hcm;omega) ?_
  exact fun j x hx=>by rw [Addr.add_mid,Nat.zero_add];exact hl j x hx
 have mixed:=bsR.mixed
 have u1:=run_underlying Tryz.underlying66;have u2:=run_underlying Tryz.underlying63;have u3:=run_underlying Tryz.underlying64;have u4:=run_underlying Tryz.underlying109;have u5:=run_underlying Tryz.underlying3;have u6:=run_underlying Tryz.underlying9;have u7:=run_underlying Tryz.underlying5
 go_enter Tryz.func24,Tryz.ntmps24
 go_wp2
 go_region_o
 all_goals (go_wp2;go_ret;exact ⟨rfl,rfl⟩)
end
section
variable {w:World} {p:Addr} {n:Nat}
theorem freeze_other {k:Nat} (h:k≠p.block):(w.drew.freeze p n).heap[k]? = w.heap[k]?:=by
 unfold World.freeze
 split
 ·rfl
 ·show (w.heap.modify _ _)[k]? = _
  simp only [Array.getElem?_modify]
  rw [if_neg (fun e=>h e.symm)]
theorem freeze_size:w.heap.size≤(w.drew.freeze p n).heap.size:=by
 unfold World.freeze
 split
 ·exact Nat.le_refl _
 ·show _≤(w.heap.modify _ _).size
  simp
theorem freeze_os:(w.drew.freeze p n).os=w.os:=by unfold World.freeze;split <;> rfl
theorem freeze_tape:(w.drew.freeze p n).tape=w.tape:=by unfold World.freeze;split <;> rfl
theorem freeze_out:(w.drew.freeze p n).output=w.output:=by unfold World.freeze;split <;> rfl
end
def m24 (n:Nat) (d:Dat):ByteArray:=⟨(bytesOf n d).toArray⟩
def n24 (n m:Nat) (d:Dat):Bool:=decide (0<n)&&(decide (n≤m)&&(List.range n).all fun q=>decide (0≤d.ii q 0∧d.ii q 0≤255))
def q24 (n:Nat) (r:ByteArray):SV × List Blk × List Blk:=(.str r,[.cells 66 [.ptr 0 0,.gr 1 1 n],.unk],[])
def g24:List SV→List Blk→Option OpRes:=fun vs bs=>match vs,bs with
 | [.ptr 0 0],[.cells 66 [.ptr 0 0,.gr 1 1 n],.row 5 [.int .u8] m d]=>some (resOf 2 (q24 n (m24 n d)) [n24 n m d])
 | _,_=>none
def c24:Ctr:=genC [.s [.gr 5 [.int .u8]]] g24
theorem k24:CtrOk Tryz.prog c24 24:=by
 refine ctr_gen ⟨Tryz.f24,Tryz.func24,rfl,by kernel_rfl⟩ fun vs bs q hq hn ρ1 M xs w hd hm hfr hMb=>?_
 unfold g24 at hq
 split at hq <;> cases hq
 rename_i n m d
 have hr:=hn _ (List.mem_singleton.2 rfl)
 simp only [n24,Bool.and_eq_true,decide_eq_true_eq,List.all_eq_true,List.mem_range] at hr
 obtain ⟨hn0,hnm,hby⟩:=hr
 match xs,hd with
 | [x],⟨hx,_⟩ =>
 obtain ⟨b,hb,rfl⟩:=hx
 obtain ⟨hlt,⟨h0,c,hc,hl⟩,_⟩:=hm.get (i:=0) rfl hb
 obtain ⟨y0,y,rfl,⟨b2,hb2,e0⟩,hy⟩:∃ y0 y,c=#[y0,y]∧(SV.ptr 0 0).den ρ1 y0∧(SV.gr 1 1 n).den ρ1 y:=by
  rcases c with ⟨l⟩
  match l,hl with
  | [x,y],⟨h1,h2,_⟩=>exact ⟨x,y,rfl,h1,h2⟩
 rcases hy with ⟨e,_⟩ | ⟨g,hg,g0,hcap,rfl⟩
 ·omega
 obtain ⟨hglt,⟨_,hmc,⟨cur,hcur,hcs,hcm⟩,hel⟩,_⟩:=hm.get (i:=1) rfl hg
 have hne:b.blk≠g.blk:=hm.apart 0 1 b g (by decide) rfl rfl hb hg
 have hlen:(bytesOf n d).length=n:=by simp [bytesOf]
 have hcell:∀ j x,(bytesOf n d)[j]? = some x→w.cell? ⟨g.blk,j,none⟩=some (.int .u8 x.toNat):=fun j x hj=>by
  have hlt:j<n:=by have:=(List.getElem?_eq_some_iff.1 hj).1;omega
  obtain ⟨_,h⟩:=hel j (by omega)
  obtain ⟨y,hy,e⟩:=h 0 (.int .u8 (d.ii j 0)) rfl
  have e:y=.int .u8 (d.ii j 0):=e
  subst e
  simp only [g0,Nat.zero_add,Nat.add_zero,List.length_singleton,Nat.mul_one] at hy
  have hx:x=UInt8.ofNat (d.ii j 0).toNat:=by
   simp [bytesOf,List.getElem?_range hlt] at hj
   exact hj.symm
  have hb:=hby j hlt
  have:((x.toNat:Nat):Int)=d.ii j 0:=by
   rw [hx,UInt8.toNat_ofNat']
   omega
  rw [this];exact hy
 rw [h0]
 have hc':w.heap[b.blk]? = some (.cells #[y0,.slice (some ⟨g.blk,0,none⟩) (bytesOf n d).length g.cap] 66 (0,0)):=by rw [hlen];exact hc
 refine (string_calls (l:=bytesOf n d) (fun e=>by rw [e] at hlen;simp at hlen;omega) hc' hcur (by omega) hcm (by simpa using hcs) hcell).mono ?_
 rintro e w' ⟨rfl,rfl⟩
 have hoth:∀ k,k≠g.blk→(w.drew.freeze ⟨g.blk,0,none⟩ (bytesOf n d).length).heap[k]? = w.heap[k]?:=fun k hk=>freeze_other hk
 have hU:(resOf 2 (q24 n (m24 n d)) [n24 n m d]).upds=[(0,.cells 66 [.ptr 0 0,.gr 1 1 n]),(1,.unk)]:=rfl
 refine ⟨_,ρ1,rfl,rfl,Ext.refl _,fun _ _=>rfl,freeze_os,freeze_tape,freeze_out,freeze_size,fun k hk hno=>hoth k fun e=>hno (1,.unk) (by rw [hU];simp) g hg e.symm,⟨fun _ _ _ h=>.inl h,fun _ _ h=>.inl h,rfl⟩,fun u hu hk=>?_,fun j b hj=>by simp [resOf,q24] at hj,fun j j' b b' m m' hne hj=>by simp [resOf,q24] at hj⟩
 rw [hU] at hu
 simp only [List.mem_cons,List.not_mem_nil,or_false] at hu
 rcases hu with rfl | rfl
 ·refine ⟨fun m' hm'=>?_,fun hn=>by rw [hb] at hn;cases hn⟩
  rw [hb] at hm';cases hm'
  exact ⟨h0,_,(hoth _ hne).trans hc,⟨_,hb2,e0⟩,.inr ⟨g,hg,g0,hcap,rfl⟩,trivial⟩
 ·cases hk
attribute [irreducible] m24
end
end Go.Proofs.YtpfipoimpmlmoaaGreatDoor
