/-
 Contracts of functions: models, equations by the kernel, contracts. Conditions: none.
-/
import Derived.Test.YtdcdjjogieojhaaGreatDoorJ7
import Derived.KernelRfl
namespace Go.Proofs.YtdcdjjogieojhaaGreatDoor
open Go Go.Sy Go.RowKit Go.ChangeMaps
noncomputable section
set_option linter.unusedVariables false
set_option linter.unusedSimpArgs false
set_option maxRecDepth 100000
set_option maxHeartbeats 2000000
/-! ### strconv.Itoa -/
def m66 (a0:Int):ByteArray:=⟨(Lib.itoa a0).toArray⟩
def n66 (a0:Int):Bool:=decide (-9223372036854775808≤a0∧a0≤9223372036854775807)
def q66 (r:ByteArray):SV × List Blk × List Blk:=(.str r,[],[])
def g66:List SV→List Blk→Option OpRes:=fun vs bs=>match vs,bs with
 | [.int .i64 a0],[]=>some (resOf 0 (q66 (m66 a0)) [n66 a0])
 | _,_=>none
def c66:Ctr:=genC [.k] g66
theorem k66:CtrOk Tryz.prog c66 66:=by
 refine ctr_gen ⟨Tryz.f66,Tryz.func66,rfl,by kernel_rfl⟩ fun vs bs q hq hn ρ1 M xs w hd hm hfr hMb=>?_
 unfold g66 at hq
 split at hq <;> cases hq
 rename_i n
 have hr:=hn _ (List.mem_singleton.2 rfl)
 have hr:-9223372036854775808≤n∧n≤9223372036854775807:=by simpa [n66] using hr
 match xs,hd with
 | [x],⟨hx,_⟩ =>
 obtain rfl:x=.int .i64 n:=hx
 refine (Any.strconv_Itoa itoaR n hr.1 hr.2 w (tab_of hm.pv)).mono ?_
 rintro e w' ⟨rfl,k,os,rfl⟩
 exact ⟨_,ρ1,rfl,post_val rfl (grow_below w k os)⟩
attribute [irreducible] m66
/-! ### strconv.Atoi -/
def m69 (s:ByteArray):Int × Bool:=match Lib.atoiAll s.data.toList with
 | .ok v=>(v,true)
 | .range=>(Lib.atoiSat s.data.toList,false)
 | _=>(0,false)
def n69 (s:ByteArray):Bool:=decide (s.size≤281474976710656)
def q69 (r:Int × Bool):SV × List Blk × List Blk:=(.tup [.int .i64 r.1,.ni r.2],[],[])
def g69:List SV→List Blk→Option OpRes:=fun vs bs=>match vs,bs with
 | [.str a0],[]=>some (resOf 0 (q69 (m69 a0)) [n69 a0])
 | _,_=>none
def c69:Ctr:=genC [.k] g69
theorem k69:CtrOk Tryz.prog c69 69:=by
 refine ctr_gen ⟨Tryz.f69,Tryz.func69,rfl,by kernel_rfl⟩ fun vs bs q hq hn ρ1 M xs w hd hm hfr hMb=>?_
 unfold g69 at hq
 split at hq <;> cases hq
 rename_i s
 have hr:=hn _ (List.mem_singleton.2 rfl)
 have hr:s.size≤281474976710656:=by simpa [n69] using hr
 match xs,hd with
 | [x],⟨hx,_⟩ =>
 obtain rfl:x=.string s:=hx
 rcases h:Lib.atoiAll s.data.toList with v | _ | _
 ·refine (Any.strconv_Atoi_ok atoiR s (by omega) v h w).mono ?_
  rintro e w' ⟨rfl,hw⟩
  have e1:m69 s=(v,true):=by unfold m69;rw [h]
  refine ⟨_,ρ1,rfl,post_val ⟨[.int .i64 v,.nilIface],rfl,?_,?_,trivial⟩ ?_⟩
  ·show _=_;rw [e1]
  ·rw [e1];exact .inl ⟨rfl,rfl⟩
  ·rcases hw with rfl | ⟨t,rfl⟩
   ·exact RowKit.Below.refl _ _
   ·exact bytes_below _ _ _
 ·obtain ⟨tp,p,hv⟩:=es_of hm.pv
  refine (Any.strconv_Atoi_syntax_var atoiR s hr h tp p w hv).mono ?_
  rintro e w' ⟨N,rfl,_,_,hB⟩
  have e1:m69 s=(0,false):=by unfold m69;rw [h]
  refine ⟨_,ρ1,rfl,post_val ⟨_,rfl,?_,?_,trivial⟩ hB⟩
  ·show _=_;rw [e1]
  ·rw [e1];exact .inr ⟨rfl,_,_,rfl⟩
 ·obtain ⟨tp,p,hv⟩:=er_of hm.pv
  refine (Any.strconv_Atoi_range_var atoiR s hr h tp p w hv).mono ?_
  rintro e w' ⟨N,rfl,_,_,hB⟩
  have e1:m69 s=(Lib.atoiSat s.data.toList,false):=by unfold m69;rw [h]
  refine ⟨_,ρ1,rfl,post_val ⟨_,rfl,?_,?_,trivial⟩ hB⟩
  ·show _=_;rw [e1]
  ·rw [e1];exact .inr ⟨rfl,_,_,rfl⟩
attribute [irreducible] m69
/-! ### strings.TrimPrefix -/
def m70 (s p:ByteArray):ByteArray:=⟨(Lib.trimPrefix s.data.toList p.data.toList).toArray⟩
def q70 (r:ByteArray):SV × List Blk × List Blk:=(.str r,[],[])
def g70:List SV→List Blk→Option OpRes:=fun vs bs=>match vs,bs with
 | [.str a0,.str a1],[]=>some (resOf 0 (q70 (m70 a0 a1)) [])
 | _,_=>none
def c70:Ctr:=genC [.k,.k] g70
theorem k70:CtrOk Tryz.prog c70 70:=by
 refine ctr_gen ⟨Tryz.f70,Tryz.func70,rfl,by kernel_rfl⟩ fun vs bs q hq hn ρ1 M xs w hd hm hfr hMb=>?_
 unfold g70 at hq
 split at hq <;> cases hq
 rename_i s p
 match xs,hd with
 | [x,y],⟨hx,hy,_⟩ =>
 obtain rfl:x=.string s:=hx
 obtain rfl:y=.string p:=hy
 refine (Any.strings_TrimPrefix trimR s p w).mono ?_
 rintro e w' ⟨rfl,rfl⟩
 exact ⟨_,ρ1,rfl,post_val rfl (RowKit.Below.refl _ _)⟩
attribute [irreducible] m70
/-! ### strings.Split -/
def datT (l:List ByteArray):Dat:={ noDat with ss:=fun q _=>l.getD q ByteArray.empty }
def m30 (s p:ByteArray):Nat × Dat:=(Lib.countB s p+1,datT (Lib.splitB p 0 (Lib.countB s p) s))
def n30 (s p:ByteArray):Bool:=decide (s.size≤4000000000)&&decide (1≤p.size)
def q30 (r:Nat × Dat):SV × List Blk × List Blk:=(.ro [.str] r.1 r.2,[],[])
def g30:List SV→List Blk→Option OpRes:=fun vs bs=>match vs,bs with
 | [.str a0,.str a1],[]=>some (resOf 0 (q30 (m30 a0 a1)) [n30 a0 a1])
 | _,_=>none
def c30:Ctr:=genC [.k,.k] g30
theorem k30:CtrOk Tryz.prog c30 30:=by
 refine ctr_gen ⟨Tryz.f30,Tryz.func30,rfl,by kernel_rfl⟩ fun vs bs q hq hn ρ1 M xs w hd hm hfr hMb=>?_
 unfold g30 at hq
 split at hq <;> cases hq
 rename_i s p
 have hr:=hn _ (List.mem_singleton.2 rfl)
 simp only [n30,Bool.and_eq_true,decide_eq_true_eq] at hr
 obtain ⟨hs,h1⟩:=hr
 obtain ⟨mx,hmx⟩:=hm.pv.mx
 match xs,hd with
 | [x,y],⟨hx,hy,_⟩ =>
 obtain rfl:x=.string s:=hx
 obtain rfl:y=.string p:=hy
 refine (Any.strings_Split splitR (by kernel_rfl) s p mx w (by omega) hmx h1).mono ?_
 rintro e w' ⟨rfl,rfl⟩
 have hlen:=Lib.splitB_all p h1 0 _ s rfl
 obtain ⟨l,hl⟩:∃ l,l=Lib.splitB p 0 (Lib.countB s p) s:=⟨_,rfl⟩
 rw [← hl] at hlen
 obtain ⟨W,hW⟩:∃ W,W=w.alloc (.cells (l.map Value.string).toArray (splitR_ren.t 9)):=⟨_,rfl⟩
 rw [← hl,← hW]
 have hold:∀ b,b<w.heap.size→W.heap[b]? = w.heap[b]?:=fun b hb=>by rw [hW];exact RowKit.Below.heap_alloc _ _ _ hb
 have hnew:W.heap[w.heap.size]? = some (.cells (l.map Value.string).toArray (splitR_ren.t 9) (0,0)):=by rw [hW];exact World.alloc_heap_new w _
 have hodE:OdExt ρ1.od ⟨fun b o=>if b=w.heap.size then W.cell? ⟨b,o,none⟩ else ρ1.od b o,ρ1.od.m,ρ1.od.p⟩:=OdExt.ofC fun b o v hb=>by
  have:=hm.od_lt hb
  have hne:b≠w.heap.size:=by omega
  simp only [if_neg hne,hb]
 refine ⟨_,⟨ρ1.nm,⟨fun b o=>if b=w.heap.size then W.cell? ⟨b,o,none⟩ else ρ1.od b o,ρ1.od.m,ρ1.od.p⟩,ρ1.gl.ext hodE⟩,rfl,?_,⟨fun i m hm=>hm,hodE⟩,fun _ _=>rfl,by rw [hW];rfl,by rw [hW];rfl,by rw [hW];rfl,by rw [hW];simp,fun b hb _=>hold b hb,.ofC fun b o v hb=>?_,fun u hu=>by simp [resOf,q30] at hu,fun j b hj=>by simp [resOf,q30] at hj,fun j j' b b' m m' hne hj=>by simp [resOf,q30] at hj⟩
 ·refine ⟨_,_,rfl,⟨Nat.le_refl _,fun hz=>by cases hz⟩,fun h0=>⟨w.heap.size,0,rfl,fun q hq=>?_⟩⟩
  have hq:q<l.length:=by have:q<Lib.countB s p+1:=hq;omega
  simp only [Kd.denL,Kd.den,List.length_singleton,Nat.mul_one,Nat.zero_add,Nat.add_zero,if_true]
  refine ⟨⟨.string (l.getD q ByteArray.empty),?_,?_⟩,trivial⟩
  ·simp only [World.cell?,hnew]
   rw [List.getElem?_toArray,List.getElem?_map,List.getD_eq_getElem?_getD,List.getElem?_eq_getElem hq]
   rfl
  ·show _=Value.string ((datT (Lib.splitB p 0 (Lib.countB s p) s)).ss q 0)
   rw [← hl];rfl
 ·by_cases hb':b=w.heap.size
  ·subst hb'
   simp only [if_true] at hb
   exact Or.inr ⟨hb,Nat.le_refl _⟩
  ·simp only [if_neg hb'] at hb
   exact Or.inl hb
attribute [irreducible] m30
/-! ### strings.Join -/
def wordsL (n:Nat) (d:Dat):List ByteArray:=(List.range n).map fun q=>d.ss q 0
def m67 (n:Nat) (d:Dat) (s:ByteArray):ByteArray:=⟨(Lib.join ((wordsL n d).map (·.data.toList)) s.data.toList).toArray⟩
def n67 (n:Nat) (d:Dat) (s:ByteArray):Bool:=decide (0<n)&&(decide (n≤1000000)&&decide ((m67 n d s).size≤1073741824))
def q67 (r:ByteArray):SV × List Blk × List Blk:=(.str r,[],[])
def g67:List SV→List Blk→Option OpRes:=fun vs bs=>match vs,bs with
 | [.ro [.str] n d,.str s],[]=>some (resOf 0 (q67 (m67 n d s)) [n67 n d s])
 | _,_=>none
def c67:Ctr:=genC [.ro [.str],.k] g67
theorem k67:CtrOk Tryz.prog c67 67:=by
 refine ctr_gen ⟨Tryz.f67,Tryz.func67,rfl,by kernel_rfl⟩ fun vs bs q hq hn ρ1 M xs w hd hm hfr hMb=>?_
 unfold g67 at hq
 split at hq <;> cases hq
 rename_i n d s
 have hr:=hn _ (List.mem_singleton.2 rfl)
 simp only [n67,Bool.and_eq_true,decide_eq_true_eq] at hr
 obtain ⟨h0,hle,hsz⟩:=hr
 match xs,hd with
 | [x,y],⟨⟨A,cap,hx,hc,hA⟩,hy,_⟩ =>
 subst hx
 obtain rfl:y=.string s:=hy
 obtain ⟨b,o,rfl,hq⟩:=hA h0
 have hlen:(wordsL n d).length=n:=by simp [wordsL]
 have hcells:∀ (j:Nat) x,(wordsL n d)[j]? = some x→w.cell? ⟨b,o+j,none⟩=some (.string x):=fun j x hj=>by
  have hlt:j<n:=by have:=(List.getElem?_eq_some_iff.1 hj).1;omega
  have h:=hq j hlt
  simp only [Kd.denL,Kd.den,List.length_singleton,Nat.mul_one] at h
  obtain ⟨⟨v,k0,e0⟩,_⟩:=h
  have e:x=d.ss j 0:=by
   simp [wordsL,List.getElem?_range hlt] at hj
   exact hj.symm
  rw [e]
  subst e0
  exact hm.seal_ _ _ _ k0
 have hblk:=World.block_lt_of_cell? w _ (hcells 0 _ (List.getElem?_eq_getElem (by omega)))
 have hsz':(Lib.join ((wordsL n d).map (·.data.toList)) s.data.toList).length≤140737488355328:=by
  have:(m67 n d s).size=(Lib.join ((wordsL n d).map (·.data.toList)) s.data.toList).length:=by
   unfold m67
   show Array.size _=_
   simp
  omega
 have:=Any.strings_Join joinR joinRX b o cap (wordsL n d) s w hcells hblk (by omega) (by have:=hc.1;omega) hsz'
 rw [hlen] at this
 refine this.mono ?_
 rintro e w' ⟨rfl,hB⟩
 exact ⟨_,ρ1,rfl,post_val rfl hB⟩
attribute [irreducible] m67
/-! ### strings.Contains -/
def m32 (s p:ByteArray):Bool:=Lib.contains s.data.toList p.data.toList
def n32 (s:ByteArray):Bool:=decide (s.size<4294967281)
def q32 (r:Bool):SV × List Blk × List Blk:=(.bool r,[],[])
def g32:List SV→List Blk→Option OpRes:=fun vs bs=>match vs,bs with
 | [.str a0,.str a1],[]=>some (resOf 0 (q32 (m32 a0 a1)) [n32 a0])
 | _,_=>none
def c32:Ctr:=genC [.k,.k] g32
theorem k32:CtrOk Tryz.prog c32 32:=by
 refine ctr_gen ⟨Tryz.f32,Tryz.func32,rfl,by kernel_rfl⟩ fun vs bs q hq hn ρ1 M xs w hd hm hfr hMb=>?_
 unfold g32 at hq
 split at hq <;> cases hq
 rename_i s p
 have hr:=hn _ (List.mem_singleton.2 rfl)
 have hr:s.size<4294967281:=by simpa [n32] using hr
 match xs,hd with
 | [x,y],⟨hx,hy,_⟩ =>
 obtain rfl:x=.string s:=hx
 obtain rfl:y=.string p:=hy
 obtain ⟨m,hv⟩:=(show PvK w from hm.pv).mx
 refine (Any.strings_Contains contR s p m w hr hv).mono ?_
 rintro e w' ⟨rfl,rfl⟩
 exact ⟨_,ρ1,rfl,post_val rfl (RowKit.Below.refl _ _)⟩
attribute [irreducible] m32
/-! ### shotline/shotlinelaw07.awake -/
def m5g:Bool:=true
def q5g (r:Bool):SV × List Blk × List Blk:=(.bool r,[],[])
def g5g:List SV→List Blk→Option OpRes:=fun vs bs=>match vs,bs with
 | [],[]=>some (resOf 0 (q5g m5g) [])
 | _,_=>none
def c5g:Ctr:=genC [] g5g
theorem k5g:CtrOk Tryz.prog c5g 5:=by
 refine ctr_gen ⟨Tryz.f5,Tryz.func5,rfl,by kernel_rfl⟩ fun vs bs q hq hn ρ1 M xs w hd hm hfr hMb=>?_
 unfold g5g at hq
 split at hq <;> cases hq
 match xs,hd with
 | [],_ =>
 refine (awake_calls w).mono ?_
 rintro e w' ⟨rfl,hB⟩
 exact ⟨_,ρ1,rfl,post_val rfl hB⟩
end
end Go.Proofs.YtdcdjjogieojhaaGreatDoor
