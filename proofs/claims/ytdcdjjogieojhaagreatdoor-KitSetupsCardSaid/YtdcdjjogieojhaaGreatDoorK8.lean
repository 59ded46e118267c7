/-
 Contracts of functions: models, equations by the kernel, contracts. Conditions: none.
-/
import Derived.Test.YtdcdjjogieojhaaGreatDoorK7
import Derived.KernelRfl
set_option linter.unusedVariables false
set_option linter.unusedSimpArgs false
set_option linter.unusedSectionVars false
namespace Go.Proofs.YtdcdjjogieojhaaGreatDoor
open Go Go.Sy Go.RowKit Go.ChangeMaps
noncomputable section
set_option maxRecDepth 100000
set_option maxHeartbeats 2000000
attribute [local instance 3000] Go.Sy.G2
/-! ### strconv.Itoa -/
def m66(a0:Int):BA:=⟨(Lib.itoa a0).toArray⟩
def n66(a0:Int):Bool:=decide (-9223372036854775808<=a0/\a0<=9223372036854775807)
def q66(r:BA):SV × List Blk × List Blk:=(.str r,[],[])
def g66:List SV->List Blk->Option Ae:=fun vs bs=>match vs,bs with
 | [.int .i64 a0],[]=>some (Bl 0 (q66 (m66 a0)) [n66 a0])
 | _,_=>none
def c66:Ctr:=AA [.k] g66
theorem k66:Ag Tryz.prog c66 66:=by
 refine BM ⟨Tryz.f66,Tryz.func66,rfl,by kernel_rfl⟩ fun vs bs q hq hn O1 M xs w hd hm hfr hMb=>?_
 unfold g66 at hq
 split at hq <;> cases hq
 rename_i n
 have hr:=hn _ (List.mem_singleton.2 rfl)
 have hr:-9223372036854775808<=n/\n<=9223372036854775807:=by simpa [n66] using hr
 match xs,hd with
 | [x],⟨hx,_⟩ =>
 obtain rfl:x=.int .i64 n:=hx
 refine (Any.strconv_Itoa TU n hr.1 hr.2 w (Tt hm.pv)).mono ?_
 rintro e w' ⟨rfl,k,os,rfl⟩
 exact ⟨_,O1,rfl,Cg rfl (Nd w k os)⟩
attribute [irreducible] m66
/-! ### strconv.Atoi -/
def m69(s:BA):Int × Bool:=match Lib.atoiAll s.data.toList with
 | .ok v=>(v,true)
 | .range=>(Lib.atoiSat s.data.toList,false)
 | _=>(0,false)
def n69(s:BA):Bool:=decide (s.size<=281474976710656)
def q69(r:Int × Bool):SV × List Blk × List Blk:=(.tup [.int .i64 r.1,.ni r.2],[],[])
def g69:List SV->List Blk->Option Ae:=fun vs bs=>match vs,bs with
 | [.str a0],[]=>some (Bl 0 (q69 (m69 a0)) [n69 a0])
 | _,_=>none
def c69:Ctr:=AA [.k] g69
theorem k69:Ag Tryz.prog c69 69:=by
 refine BM ⟨Tryz.f69,Tryz.func69,rfl,by kernel_rfl⟩ fun vs bs q hq hn O1 M xs w hd hm hfr hMb=>?_
 unfold g69 at hq
 split at hq <;> cases hq
 rename_i s
 have hr:=hn _ (List.mem_singleton.2 rfl)
 have hr:s.size<=281474976710656:=by simpa [n69] using hr
 match xs,hd with
 | [x],⟨hx,_⟩ =>
 obtain rfl:x=.string s:=hx
 rcases h:Lib.atoiAll s.data.toList with v | _ | _
 .refine (Any.strconv_Atoi_ok PR s (by omega) v h w).mono ?_
  rintro e w' ⟨rfl,hw⟩
  have e1:m69 s=(v,true):=by unfold m69;rw [h]
  refine ⟨_,O1,rfl,Cg ⟨[.int .i64 v,.nilIface],rfl,?_,?_,trivial⟩ ?_⟩
  .show _=_;rw [e1]
  .rw [e1];exact .inl ⟨rfl,rfl⟩
  .rcases hw with rfl | ⟨t,rfl⟩
   .exact RowKit.Below.refl _ _
   .exact Lw _ _ _
 .obtain ⟨tp,p,hv⟩:=TM hm.pv
  refine (Any.strconv_Atoi_syntax_var PR s hr h tp p w hv).mono ?_
  rintro e w' ⟨N,rfl,_,_,hB⟩
  have e1:m69 s=(0,false):=by unfold m69;rw [h]
  refine ⟨_,O1,rfl,Cg ⟨_,rfl,?_,?_,trivial⟩ hB⟩
  .show _=_;rw [e1]
  .rw [e1];exact .inr ⟨rfl,_,_,rfl⟩
 .obtain ⟨tp,p,hv⟩:=TL hm.pv
  refine (Any.strconv_Atoi_range_var PR s hr h tp p w hv).mono ?_
  rintro e w' ⟨N,rfl,_,_,hB⟩
  have e1:m69 s=(Lib.atoiSat s.data.toList,false):=by unfold m69;rw [h]
  refine ⟨_,O1,rfl,Cg ⟨_,rfl,?_,?_,trivial⟩ hB⟩
  .show _=_;rw [e1]
  .rw [e1];exact .inr ⟨rfl,_,_,rfl⟩
attribute [irreducible] m69
/-! ### strings.CutSuffix -/
def m52(s p:BA):BA × Bool:=(⟨(Lib.trimSuffix s.data.toList p.data.toList).toArray⟩,Lib.hasSuffix s.data.toList p.data.toList)
def n52(s:BA):Bool:=decide (s.size<=9223372036854775807)
def q52(r:BA × Bool):SV × List Blk × List Blk:=(.tup [.str r.1,.bool r.2],[],[])
def g52:List SV->List Blk->Option Ae:=fun vs bs=>match vs,bs with
 | [.str a0,.str a1],[]=>some (Bl 0 (q52 (m52 a0 a1)) [n52 a0])
 | _,_=>none
def c52:Ctr:=AA [.k,.k] g52
theorem k52:Ag Tryz.prog c52 52:=by
 refine BM ⟨Tryz.f52,Tryz.func52,rfl,by kernel_rfl⟩ fun vs bs q hq hn O1 M xs w hd hm hfr hMb=>?_
 unfold g52 at hq
 split at hq <;> cases hq
 rename_i s p
 have hr:=hn _ (List.mem_singleton.2 rfl)
 have hr:s.size<=9223372036854775807:=by simpa [n52] using hr
 match xs,hd with
 | [x,y],⟨hx,hy,_⟩ =>
 obtain rfl:x=.string s:=hx
 obtain rfl:y=.string p:=hy
 refine (Any.strings_CutSuffix Uc s p w hr).mono ?_
 rintro e w' ⟨rfl,rfl⟩
 exact ⟨_,O1,rfl,Cg ⟨_,rfl,rfl,rfl,trivial⟩ (RowKit.Below.refl _ _)⟩
attribute [irreducible] m52
/-! ### strings.TrimPrefix -/
def m70(s p:BA):BA:=⟨(Lib.trimPrefix s.data.toList p.data.toList).toArray⟩
def q70(r:BA):SV × List Blk × List Blk:=(.str r,[],[])
def g70:List SV->List Blk->Option Ae:=fun vs bs=>match vs,bs with
 | [.str a0,.str a1],[]=>some (Bl 0 (q70 (m70 a0 a1)) [])
 | _,_=>none
def c70:Ctr:=AA [.k,.k] g70
theorem k70:Ag Tryz.prog c70 70:=by
 refine BM ⟨Tryz.f70,Tryz.func70,rfl,by kernel_rfl⟩ fun vs bs q hq hn O1 M xs w hd hm hfr hMb=>?_
 unfold g70 at hq
 split at hq <;> cases hq
 rename_i s p
 match xs,hd with
 | [x,y],⟨hx,hy,_⟩ =>
 obtain rfl:x=.string s:=hx
 obtain rfl:y=.string p:=hy
 refine (Any.strings_TrimPrefix U7 s p w).mono ?_
 rintro e w' ⟨rfl,rfl⟩
 exact ⟨_,O1,rfl,Cg rfl (RowKit.Below.refl _ _)⟩
attribute [irreducible] m70
/-! ### strings.IndexByte -/
def m79(s:BA)(c:Int):Int:=Lib.indexByte s.data.toList c.toNat.toUInt8
def q79(r:Int):SV × List Blk × List Blk:=(.int .i64 r,[],[])
def g79:List SV->List Blk->Option Ae:=fun vs bs=>match vs,bs with
 | [.str a0,.int .u8 a1],[]=>some (Bl 0 (q79 (m79 a0 a1)) [])
 | _,_=>none
def c79:Ctr:=AA [.k,.k] g79
theorem k79:Ag Tryz.prog c79 79:=by
 refine BM ⟨Tryz.f79,Tryz.func79,rfl,by kernel_rfl⟩ fun vs bs q hq hn O1 M xs w hd hm hfr hMb=>?_
 unfold g79 at hq
 split at hq <;> cases hq
 rename_i s c
 match xs,hd with
 | [x,y],⟨hx,hy,_⟩ =>
 obtain rfl:x=.string s:=hx
 obtain rfl:y=.int .u8 c:=hy
 refine (Any.strings_IndexByte Uj s c w).mono ?_
 rintro e w' ⟨rfl,rfl⟩
 exact ⟨_,O1,rfl,Cg rfl (RowKit.Below.refl _ _)⟩
attribute [irreducible] m79
/-! ### strings.Split -/
def T2(l:List BA):Dat:={ A3 with ss:=fun q _=>l.getD q ByteArray.empty }
def m30(s p:BA):Nat × Dat:=(Lib.countB s p+1,T2 (Lib.splitB p 0 (Lib.countB s p) s))
def n30(s p:BA):Bool:=decide (s.size<=4000000000)&&decide (1<=p.size)
def q30(r:Nat × Dat):SV × List Blk × List Blk:=(.ro [.str] r.1 r.2,[],[])
def g30:List SV->List Blk->Option Ae:=fun vs bs=>match vs,bs with
 | [.str a0,.str a1],[]=>some (Bl 0 (q30 (m30 a0 a1)) [n30 a0 a1])
 | _,_=>none
def c30:Ctr:=AA [.k,.k] g30
theorem k30:Ag Tryz.prog c30 30:=by
 refine BM ⟨Tryz.f30,Tryz.func30,rfl,by kernel_rfl⟩ fun vs bs q hq hn O1 M xs w hd hm hfr hMb=>?_
 unfold g30 at hq
 split at hq <;> cases hq
 rename_i s p
 have hr:=hn _ (List.mem_singleton.2 rfl)
 simp only [n30,Bool.and_eq_true,decide_eq_true_eq] at hr
 obtain ⟨hs,h1⟩:=hr
 obtain ⟨mx,hmx⟩:=hm.pv.mx
 match xs,hd with
 | [x,y],⟨hx,hy,_⟩ =>
 obtain rfl:x=.string s:=hx
 obtain rfl:y=.string p:=hy
 refine (Any.strings_Split Tq (by kernel_rfl) s p mx w (by omega) hmx h1).mono ?_
 rintro e w' ⟨rfl,rfl⟩
 have hlen:=Lib.splitB_all p h1 0 _ s rfl
 obtain ⟨l,hl⟩:∃ l,l=Lib.splitB p 0 (Lib.countB s p) s:=⟨_,rfl⟩
 rw [<- hl] at hlen
 obtain ⟨W,hW⟩:∃ W,W=w.alloc (.cells (l.map Value.string).toArray (Gi.t 9)):=⟨_,rfl⟩
 rw [<- hl,<- hW]
 have hold:∀ b,b<w.heap.size->W.heap[b]? = w.heap[b]?:=fun b hb=>by rw [hW];exact RowKit.Below.heap_alloc _ _ _ hb
 have hnew:W.heap[w.heap.size]? = some (.cells (l.map Value.string).toArray (Gi.t 9) (0,0)):=by rw [hW];exact World.alloc_heap_new w _
 have hodE:AB O1.od ⟨fun b o=>if b=w.heap.size then W.cell? ⟨b,o,none⟩ else O1.od b o,O1.od.m,O1.od.p⟩:=AB.ofC fun b o v hb=>by
  have:=hm.od_lt hb
  have hne:b≠w.heap.size:=by omega
  simp only [if_neg hne,hb]
 refine ⟨_,⟨O1.nm,⟨fun b o=>if b=w.heap.size then W.cell? ⟨b,o,none⟩ else O1.od b o,O1.od.m,O1.od.p⟩,O1.gl.ext hodE⟩,rfl,?_,⟨fun i m hm=>hm,hodE⟩,fun _ _=>rfl,by rw [hW];rfl,by rw [hW];rfl,by rw [hW];rfl,by rw [hW];simp,fun b hb _=>hold b hb,.ofC fun b o v hb=>?_,fun u hu=>by simp [Bl,q30] at hu,fun j b hj=>by simp [Bl,q30] at hj,fun j j' b b' m m' hne hj=>by simp [Bl,q30] at hj⟩
 .refine ⟨_,_,rfl,⟨Nat.le_refl _,fun hz=>by cases hz⟩,fun h0=>⟨w.heap.size,0,rfl,fun q hq=>?_⟩⟩
  have hq:q<l.length:=by have:q<Lib.countB s p+1:=hq;omega
  simp only [Kd.denL,Kd.den,List.length_singleton,Nat.mul_one,Nat.zero_add,Nat.add_zero,if_true]
  refine ⟨⟨.string (l.getD q ByteArray.empty),?_,?_⟩,trivial⟩
  .simp only [World.cell?,hnew]
   rw [List.getElem?_toArray,List.getElem?_map,List.getD_eq_getElem?_getD,List.getElem?_eq_getElem hq]
   rfl
  .show _=Value.string ((T2 (Lib.splitB p 0 (Lib.countB s p) s)).ss q 0)
   rw [<- hl];rfl
 .by_cases hb':b=w.heap.size
  .subst hb'
   simp only [if_true] at hb
   exact Or.inr ⟨hb,Nat.le_refl _⟩
  .simp only [if_neg hb'] at hb
   exact Or.inl hb
attribute [irreducible] m30
/-! ### (*strings.Builder).copyCheck -/
theorem ccR:Go.Proofs.Lays.n240 Tryz.prog FK:={ Qs with }
def g73u:List SV->List Blk->Option Ae:=fun vs bs=>match vs,bs with
 | [.ptr 0 0],[.cells 97 [.ptr 0 0,.gr 1 1 n],.row 5 [.int .u8] m d]=>some (Bl 2 (.tup [],[],[]) [])
 | _,_=>none
def c73u:Ctr:=AA [.s [.gr 5 [.int .u8]]] g73u
theorem k73u:Ag Tryz.prog c73u 73:=by
 refine BM ⟨Tryz.f73,Tryz.func73,rfl,by kernel_rfl⟩ fun vs bs q hq hn O1 M xs w hd hm hfr hMb=>?_
 unfold g73u at hq
 split at hq <;> cases hq
 rename_i n m d
 match xs,hd with
 | [x],⟨hx,_⟩ =>
 obtain ⟨b,hb,rfl⟩:=hx
 obtain ⟨_,⟨h0,c,hc,hl⟩,_⟩:=hm.get (i:=0) rfl hb
 have c0:w.cell? ⟨b.blk,0,none⟩=some (.pointer (some ⟨b.blk,0,none⟩)):=by
  rw [Lib.cell_of_heap hc]
  rcases c with ⟨l⟩
  cases l with
  | nil=>exact hl.elim
  | cons y l =>
   obtain ⟨⟨b',hb',e⟩,_⟩:=hl
   rw [hb] at hb';cases hb'
   rw [h0] at e
   simpa using e
 rw [h0]
 refine (Any.Builder_copyCheck_used ccR Ng.toX72 b.blk w c0).mono ?_
 rintro e w' ⟨rfl,rfl⟩
 exact ⟨_,O1,rfl,Cg ⟨[],rfl,trivial⟩ (RowKit.Below.refl _ _)⟩
def g73f:List SV->List Blk->Option Ae:=fun vs bs=>match vs,bs with
 | [.ptr 0 0],[.cells 97 [.val (.pointer none),.gr 1 1 n],.row 5 [.int .u8] m d]=>some (Bl 2 (.tup [],[.cells 97 [.ptr 0 0,.gr 1 1 n]],[]) [])
 | _,_=>none
def c73f:Ctr:=AA [.c [.k,.gr 5 [.int .u8]]] g73f
theorem k73f:Ag Tryz.prog c73f 73:=by
 refine BM ⟨Tryz.f73,Tryz.func73,rfl,by kernel_rfl⟩ fun vs bs q hq hn O1 M xs w hd hm hfr hMb=>?_
 unfold g73f at hq
 split at hq <;> cases hq
 rename_i n m d
 match xs,hd with
 | [x],⟨hx,_⟩ =>
 obtain ⟨b,hb,rfl⟩:=hx
 obtain ⟨hlt,⟨h0,c,hc,hl⟩,_⟩:=hm.get (i:=0) rfl hb
 obtain ⟨y,rfl,hy⟩:∃ y,c=#[.pointer none,y]/\(SV.gr 1 1 n).den O1 y:=by
  rcases c with ⟨l⟩
  match l,hl with
  | [x,y],⟨e,h2,_⟩=>exact ⟨y,by rw [show x=.pointer none from e],h2⟩
 have c0:w.cell? ⟨b.blk,0,none⟩=some (.pointer none):=by rw [Lib.cell_of_heap hc];rfl
 have hsh:w.shape? b.blk=some (97,2):=by simp [World.shape?,hc]
 have hfz:w.frozen? ⟨b.blk,0,none⟩=false:=Lib.frozen_of_heap hc 0
 rw [h0]
 refine (Any.Builder_copyCheck_fresh ccR Ng.toX72 b.blk w c0 hsh hfz).mono ?_
 rintro e w' ⟨rfl,rfl⟩
 have hc':(w.setCell ⟨b.blk,0,none⟩ (.pointer (some ⟨b.blk,0,none⟩))).heap[b.blk]? = some (.cells #[.pointer (some ⟨b.blk,0,none⟩),y] 97 (0,0)):=by
  rw [heap_setCell_same w b.blk 0 _ _ _ hc];rfl
 have hU:(Bl 2 ((.tup []:SV),[Blk.cells 97 [.ptr 0 0,.gr 1 1 n]],[]) []).upds=[(0,.cells 97 [.ptr 0 0,.gr 1 1 n])]:=rfl
 refine ⟨_,O1,rfl,⟨[],rfl,trivial⟩,Ext.refl _,fun _ _=>rfl,rfl,rfl,rfl,by simp,fun k hk hno=>?_,⟨fun _ _ _ h=>.inl h,fun _ _ h=>.inl h,rfl⟩,fun u hu _=>?_,fun j b hj=>by simp [Bl] at hj,fun j j' b b' m m' hne hj=>by simp [Bl] at hj⟩
 .exact RowKit.Below.heap_setCell w ⟨b.blk,0,none⟩ _ k fun e=>hno _ (by rw [hU];exact List.mem_singleton.2 rfl) b hb e.symm
 .rw [hU] at hu
  obtain rfl:=List.mem_singleton.1 hu
  refine ⟨fun m' hm'=>?_,fun hn=>by rw [hb] at hn;cases hn⟩
  rw [hb] at hm';cases hm'
  exact ⟨h0,_,hc',⟨_,hb,by rw [h0]⟩,hy,trivial⟩
/-! ### strings.Join -/
def Dk(n:Nat)(d:Dat):List BA:=(List.range n).map fun q=>d.ss q 0
def m67(n:Nat)(d:Dat)(s:BA):BA:=⟨(Lib.join ((Dk n d).map (·.data.toList)) s.data.toList).toArray⟩
def n67(n:Nat)(d:Dat)(s:BA):Bool:=decide (0<n)&&(decide (n<=1000000)&&decide ((m67 n d s).size<=1073741824))
def q67(r:BA):SV × List Blk × List Blk:=(.str r,[],[])
def g67:List SV->List Blk->Option Ae:=fun vs bs=>match vs,bs with
 | [.ro [.str] n d,.str s],[]=>some (Bl 0 (q67 (m67 n d s)) [n67 n d s])
 | _,_=>none
def c67:Ctr:=AA [.ro [.str],.k] g67
theorem k67:Ag Tryz.prog c67 67:=by
 refine BM ⟨Tryz.f67,Tryz.func67,rfl,by kernel_rfl⟩ fun vs bs q hq hn O1 M xs w hd hm hfr hMb=>?_
 unfold g67 at hq
 split at hq <;> cases hq
 rename_i n d s
 have hr:=hn _ (List.mem_singleton.2 rfl)
 simp only [n67,Bool.and_eq_true,decide_eq_true_eq] at hr
 obtain ⟨h0,hle,hsz⟩:=hr
 match xs,hd with
 | [x,y],⟨⟨A,cap,hx,hc,hA⟩,hy,_⟩ =>
 subst hx
 obtain rfl:y=.string s:=hy
 obtain ⟨b,o,rfl,hq⟩:=hA h0
 have hlen:(Dk n d).length=n:=by simp [Dk]
 have hcells:∀ (j:Nat) x,(Dk n d)[j]? = some x->w.cell? ⟨b,o+j,none⟩=some (.string x):=fun j x hj=>by
  have hlt:j<n:=by have:=(List.getElem?_eq_some_iff.1 hj).1;omega
  have h:=hq j hlt
  simp only [Kd.denL,Kd.den,List.length_singleton,Nat.mul_one] at h
  obtain ⟨⟨v,k0,e0⟩,_⟩:=h
  have e:x=d.ss j 0:=by
   simp [Dk,List.getElem?_range hlt] at hj
   exact hj.symm
  rw [e]
  subst e0
  exact hm.seal_ _ _ _ k0
 have hblk:=World.block_lt_of_cell? w _ (hcells 0 _ (List.getElem?_eq_getElem (by omega)))
 have hsz':(Lib.join ((Dk n d).map (·.data.toList)) s.data.toList).length<=140737488355328:=by
  have:(m67 n d s).size=(Lib.join ((Dk n d).map (·.data.toList)) s.data.toList).length:=by
   unfold m67
   show Array.size _=_
   simp
  omega
 have:=Any.strings_Join Qs Ng b o cap (Dk n d) s w hcells hblk (by omega) (by have:=hc.1;omega) hsz'
 rw [hlen] at this
 refine this.mono ?_
 rintro e w' ⟨rfl,hB⟩
 exact ⟨_,O1,rfl,Cg rfl hB⟩
attribute [irreducible] m67
/-! ### (*strings.Builder).String -/
theorem bsR:Go.Proofs.Lays.n169 Tryz.prog FK:={ Qs with }
def CF(n:Nat)(d:Dat):List UInt8:=(List.range n).map fun q=>UInt8.ofNat (d.ii q 0).toNat
section
open Go.Shelf Go.RowKit
set_option maxHeartbeats 1000000 in
theorem L6{b g cap:Nat}{p:Value}{cur:Array Value}{l:List UInt8}{w:World}(h0:l≠[])(hb:w.heap[b]? = some (.cells #[p,.slice (some ⟨g,0,none⟩) l.length cap] 97 (0,0)))(hg:w.heap[g]? = some (.cells cur 5 (0,0)))(hnc:l.length<=cap)(hcm:cap<=maxLen)(hcs:cur.size=cap)(hl:∀ j x,l[j]? = some x->w.cell? ⟨g,j,none⟩=some (.int .u8 x.toNat)) :
  Calls Tryz.prog 44 #[.pointer (some ⟨b,0,none⟩)] w fun e w'=>e=.returned (.string ⟨l.toArray⟩)/\w'=w.drew.freeze ⟨g,0,none⟩ l.length:=by
 have hl0:l.length≠0:=by simpa using h0
 have c1:w.drew.cell? ⟨b,1,none⟩=some (.slice (some ⟨g,0,none⟩) l.length cap):=by
  have:w.drew.heap[b]? = some (.cells #[p,.slice (some ⟨g,0,none⟩) l.length cap] 97 (0,0)):=hb
  rw [Lib.cell_of_heap this];rfl
 have hSD:(Builtin.unsafeSliceData_ #[95] 145 #[.slice (some ⟨g,0,none⟩) l.length cap]).run Tryz.prog w.drew=.ok (.pointer (some ⟨g,0,none⟩)) w.drew:=Lib.run_unsafeSliceData_row _ _ _ _ _ _ (by omega)
 have hUS:(Builtin.unsafeString_ #[145,3] 9 #[.pointer (some ⟨g,0,none⟩),.int .i64 l.length]).run Tryz.prog w.drew=.ok (.string ⟨l.toArray⟩) (w.drew.freeze ⟨g,0,none⟩ l.length):=by
  refine Lib.run_unsafeString_row w.drew 145 3 9 5 Tryz.underlying145 (by kernel_rfl) g cur.size (by have hg':w.drew.heap[g]? = some (.cells cur 5 (0,0)):=hg;simp [World.shape?,hg']) l h0 (by omega) (by unfold maxLen at hcm;omega) ?_
  exact fun j x hx=>by rw [Addr.add_mid,Nat.zero_add];exact hl j x hx
 have mixed:=bsR.mixed
 have u1:=run_underlying Tryz.underlying97;have u2:=run_underlying Tryz.underlying94;have u3:=run_underlying Tryz.underlying95;have u4:=run_underlying Tryz.underlying145;have u5:=run_underlying Tryz.underlying3;have u6:=run_underlying Tryz.underlying9;have u7:=run_underlying Tryz.underlying5
 go_enter Tryz.func44,Tryz.ntmps44
 go_wp2
 go_region_o
 all_goals (go_wp2;go_ret;exact ⟨rfl,rfl⟩)
end
section
variable {w:World} {p:Addr} {n:Nat}
theorem KF{k:Nat}(h:k≠p.block):(w.drew.freeze p n).heap[k]? = w.heap[k]?:=by
 unfold World.freeze
 split
 .rfl
 .show (w.heap.modify _ _)[k]? = _
  simp only [Array.getElem?_modify]
  rw [if_neg (fun e=>h e.symm)]
theorem LK:w.heap.size<=(w.drew.freeze p n).heap.size:=by
 unfold World.freeze
 split
 .exact Nat.le_refl _
 .show _<=(w.heap.modify _ _).size
  simp
theorem P2:(w.drew.freeze p n).os=w.os:=by unfold World.freeze;split <;> rfl
theorem LL:(w.drew.freeze p n).tape=w.tape:=by unfold World.freeze;split <;> rfl
theorem Nc:(w.drew.freeze p n).output=w.output:=by unfold World.freeze;split <;> rfl
end
def m44(n:Nat)(d:Dat):BA:=⟨(CF n d).toArray⟩
def n44(n m:Nat)(d:Dat):Bool:=decide (0<n)&&(decide (n<=m)&&(List.range n).all fun q=>decide (0<=d.ii q 0/\d.ii q 0<=255))
def q44(n:Nat)(r:BA):SV × List Blk × List Blk:=(.str r,[.cells 97 [.ptr 0 0,.gr 1 1 n],.unk],[])
def g44:List SV->List Blk->Option Ae:=fun vs bs=>match vs,bs with
 | [.ptr 0 0],[.cells 97 [.ptr 0 0,.gr 1 1 n],.row 5 [.int .u8] m d]=>some (Bl 2 (q44 n (m44 n d)) [n44 n m d])
 | _,_=>none
def c44:Ctr:=AA [.s [.gr 5 [.int .u8]]] g44
theorem k44:Ag Tryz.prog c44 44:=by
 refine BM ⟨Tryz.f44,Tryz.func44,rfl,by kernel_rfl⟩ fun vs bs q hq hn O1 M xs w hd hm hfr hMb=>?_
 unfold g44 at hq
 split at hq <;> cases hq
 rename_i n m d
 have hr:=hn _ (List.mem_singleton.2 rfl)
 simp only [n44,Bool.and_eq_true,decide_eq_true_eq,List.all_eq_true,List.mem_range] at hr
 obtain ⟨hn0,hnm,hby⟩:=hr
 match xs,hd with
 | [x],⟨hx,_⟩ =>
 obtain ⟨b,hb,rfl⟩:=hx
 obtain ⟨hlt,⟨h0,c,hc,hl⟩,_⟩:=hm.get (i:=0) rfl hb
 obtain ⟨y0,y,rfl,⟨b2,hb2,e0⟩,hy⟩:∃ y0 y,c=#[y0,y]/\(SV.ptr 0 0).den O1 y0/\(SV.gr 1 1 n).den O1 y:=by
  rcases c with ⟨l⟩
  match l,hl with
  | [x,y],⟨h1,h2,_⟩=>exact ⟨x,y,rfl,h1,h2⟩
 rcases hy with ⟨e,_⟩ | ⟨g,hg,g0,hcap,rfl⟩
 .omega
 obtain ⟨hglt,⟨_,hmc,⟨cur,hcur,hcs,hcm⟩,hel⟩,_⟩:=hm.get (i:=1) rfl hg
 have hne:b.blk≠g.blk:=hm.apart 0 1 b g (by decide) rfl rfl hb hg
 have hlen:(CF n d).length=n:=by simp [CF]
 have hcell:∀ j x,(CF n d)[j]? = some x->w.cell? ⟨g.blk,j,none⟩=some (.int .u8 x.toNat):=fun j x hj=>by
  have hlt:j<n:=by have:=(List.getElem?_eq_some_iff.1 hj).1;omega
  obtain ⟨_,h⟩:=hel j (by omega)
  obtain ⟨y,hy,e⟩:=h 0 (.int .u8 (d.ii j 0)) rfl
  have e:y=.int .u8 (d.ii j 0):=e
  subst e
  simp only [g0,Nat.zero_add,Nat.add_zero,List.length_singleton,Nat.mul_one] at hy
  have hx:x=UInt8.ofNat (d.ii j 0).toNat:=by
   simp [CF,List.getElem?_range hlt] at hj
   exact hj.symm
  have hb:=hby j hlt
  have:((x.toNat:Nat):Int)=d.ii j 0:=by
   rw [hx,UInt8.toNat_ofNat']
   omega
  rw [this];exact hy
 rw [h0]
 have hc':w.heap[b.blk]? = some (.cells #[y0,.slice (some ⟨g.blk,0,none⟩) (CF n d).length g.cap] 97 (0,0)):=by rw [hlen];exact hc
 refine (L6 (l:=CF n d) (fun e=>by rw [e] at hlen;simp at hlen;omega) hc' hcur (by omega) hcm (by simpa using hcs) hcell).mono ?_
 rintro e w' ⟨rfl,rfl⟩
 have hoth:∀ k,k≠g.blk->(w.drew.freeze ⟨g.blk,0,none⟩ (CF n d).length).heap[k]? = w.heap[k]?:=fun k hk=>KF hk
 have hU:(Bl 2 (q44 n (m44 n d)) [n44 n m d]).upds=[(0,.cells 97 [.ptr 0 0,.gr 1 1 n]),(1,.unk)]:=rfl
 refine ⟨_,O1,rfl,rfl,Ext.refl _,fun _ _=>rfl,P2,LL,Nc,LK,fun k hk hno=>hoth k fun e=>hno (1,.unk) (by rw [hU];simp) g hg e.symm,⟨fun _ _ _ h=>.inl h,fun _ _ h=>.inl h,rfl⟩,fun u hu hk=>?_,fun j b hj=>by simp [Bl,q44] at hj,fun j j' b b' m m' hne hj=>by simp [Bl,q44] at hj⟩
 rw [hU] at hu
 simp only [List.mem_cons,List.not_mem_nil,or_false] at hu
 rcases hu with rfl | rfl
 .refine ⟨fun m' hm'=>?_,fun hn=>by rw [hb] at hn;cases hn⟩
  rw [hb] at hm';cases hm'
  exact ⟨h0,_,(hoth _ hne).trans hc,⟨_,hb2,e0⟩,.inr ⟨g,hg,g0,hcap,rfl⟩,trivial⟩
 .cases hk
attribute [irreducible] m44
/-! ### shotline/shotlinelaw07.awake -/
def m5g:Bool:=true
def q5g(r:Bool):SV × List Blk × List Blk:=(.bool r,[],[])
def g5g:List SV->List Blk->Option Ae:=fun vs bs=>match vs,bs with
 | [],[]=>some (Bl 0 (q5g m5g) [])
 | _,_=>none
def c5g:Ctr:=AA [] g5g
theorem k5g:Ag Tryz.prog c5g 5:=by
 refine BM ⟨Tryz.f5,Tryz.func5,rfl,by kernel_rfl⟩ fun vs bs q hq hn O1 M xs w hd hm hfr hMb=>?_
 unfold g5g at hq
 split at hq <;> cases hq
 match xs,hd with
 | [],_ =>
 refine (Lq w).mono ?_
 rintro e w' ⟨rfl,hB⟩
 exact ⟨_,O1,rfl,Cg rfl hB⟩
/-! ### (*strings.Builder).String,fresh -/
section
open Go.Shelf Go.RowKit
set_option maxHeartbeats 1000000 in
theorem JV{b:Nat}{w:World}(hb:w.heap[b]? = some (.cells #[.pointer none,.slice none 0 0] 97 (0,0))) :
  Calls Tryz.prog 44 #[.pointer (some ⟨b,0,none⟩)] w fun e w'=>e=.returned (.string .empty)/\w'=w.drew:=by
 have c1:w.drew.cell? ⟨b,1,none⟩=some (.slice none 0 0):=by
  have:w.drew.heap[b]? = some (.cells #[.pointer none,.slice none 0 0] 97 (0,0)):=hb
  rw [Lib.cell_of_heap this];rfl
 have hSD:(Builtin.unsafeSliceData_ #[95] 145 #[.slice none 0 0]).run Tryz.prog w.drew=.ok (.pointer none) w.drew:=Lib.run_unsafeSliceData_nil _ _ _ _ _
 have hUS:(Builtin.unsafeString_ #[145,3] 9 #[.pointer none,.int .i64 0]).run Tryz.prog w.drew=.ok (.string .empty) w.drew:=Lib.run_unsafeString_none _ _ _ _ _
 have mixed:=bsR.mixed
 have u1:=run_underlying Tryz.underlying97;have u2:=run_underlying Tryz.underlying94;have u3:=run_underlying Tryz.underlying95;have u4:=run_underlying Tryz.underlying145;have u5:=run_underlying Tryz.underlying3;have u6:=run_underlying Tryz.underlying9;have u7:=run_underlying Tryz.underlying5
 go_enter Tryz.func44,Tryz.ntmps44
 go_wp2
 go_region_o
 all_goals (go_wp2;go_ret;exact ⟨rfl,rfl⟩)
end
def m44f:BA:=⟨#[]⟩
def q44f(r:BA):SV × List Blk × List Blk:=(.str r,[.cells 97 [.val (.pointer none),.nsl]],[])
def g44f:List SV->List Blk->Option Ae:=fun vs bs=>match vs,bs with
 | [.ptr 0 0],[.cells 97 [.val (.pointer none),.nsl]]=>some (Bl 1 (q44f m44f) [])
 | _,_=>none
def c44f:Ctr:=AA [.c [.k,.k]] g44f
theorem k44f:Ag Tryz.prog c44f 44:=by
 refine BM ⟨Tryz.f44,Tryz.func44,rfl,by kernel_rfl⟩ fun vs bs q hq hn O1 M xs w hd hm hfr hMb=>?_
 unfold g44f at hq
 split at hq <;> cases hq
 match xs,hd with
 | [x],⟨hx,_⟩ =>
 obtain ⟨b,hb,rfl⟩:=hx
 obtain ⟨hlt,⟨h0,c,hc,hl⟩,_⟩:=hm.get (i:=0) rfl hb
 obtain rfl:c=#[.pointer none,.slice none 0 0]:=by
  rcases c with ⟨l⟩
  match l,hl with
  | [x,y],⟨h1,h2,_⟩ =>
   have h1:x=.pointer none:=h1
   have h2:y=.slice none 0 0:=h2
   rw [h1,h2]
 rw [h0]
 refine (JV hc).mono ?_
 rintro e w' ⟨rfl,rfl⟩
 have hU:(Bl 1 (q44f m44f) []).upds=[(0,.cells 97 [.val (.pointer none),.nsl])]:=rfl
 refine ⟨_,O1,rfl,rfl,Ext.refl _,fun _ _=>rfl,rfl,rfl,rfl,Nat.le_refl _,fun k hk hno=>rfl,⟨fun _ _ _ h=>.inl h,fun _ _ h=>.inl h,rfl⟩,fun u hu hk=>?_,fun j b hj=>by simp [Bl,q44f] at hj,fun j j' b b' m m' hne hj=>by simp [Bl,q44f] at hj⟩
 rw [hU] at hu
 simp only [List.mem_cons,List.not_mem_nil,or_false] at hu
 subst hu
 refine ⟨fun m' hm'=>?_,fun hn=>by rw [hb] at hn;cases hn⟩
 rw [hb] at hm';cases hm'
 exact ⟨h0,_,hc,rfl,rfl,trivial⟩
end
end Go.Proofs.YtdcdjjogieojhaaGreatDoor
