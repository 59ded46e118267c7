/-
 The package variables are in each world that the row speaks of. Conditions: none.
-/
import Derived.Test.YtdcdjjogieojhaaGreatDoorKSyKo
import Derived.Test.YtdcdjjogieojhaaGreatDoorKSyOr
import Derived.Test.YtdcdjjogieojhaaGreatDoorRows
import Derived.LaidSub
import Derived.LaidMore
import Derived.LaidLaws
import Derived.MakeChecks
import Derived.Maps.Keyed
import Derived.Lib.LaidTab
import Derived.Shelf.Vars
import Derived.KernelRfl
import Derived.Test.YtdcdjjogieojhaaGreatDoorK11
set_option linter.unusedVariables false
set_option linter.unusedSimpArgs false
set_option linter.unusedSectionVars false
open Option.some renaming inj->aq
namespace Go.Proofs.YtdcdjjogieojhaaGreatDoor
open Go Go.Sy
set_option maxRecDepth 100000
attribute [local instance 3000] Go.Sy.G2
def Fj:List (String × DataW Unit):=[("math/bits.deBruijn32tab",Rows.laid_math_bits_deBruijn32tab),("math/bits.deBruijn64tab",Rows.laid_math_bits_deBruijn64tab),("internal/strconv.uint64pow10",Rows.laid_internal_strconv_uint64pow10),("unicode/utf8.acceptRanges",Rows.laid_unicode_utf8_acceptRanges),("strconv.ErrRange",Rows.laid_strconv_ErrRange),("strconv.ErrSyntax",Rows.laid_strconv_ErrSyntax),("shotline/kit.kinds",Rows.laid_shotline_kit_kinds),("shotline/kit.results",Rows.laid_shotline_kit_results),("unicode/utf8.first",Rows.laid_unicode_utf8_first)]
def isI(P:Program)(g:Nat):Bool:=match (P.globals[g]?).map (·.type) with
 | some t=>(match P.underlying t with
  | some (.interface _)=>true
  | _=>false)
 | none=>false
theorem IV{P:Program}{W:World}{n nm:String}{d:DataW Unit}{r:List (String × DataW Unit)}{g:Nat}(hg:P.globalNamed n=some g)(hi:isI P g=true)(h:laidMet P ((n,.iface nm d) :: r) W):∃ u v t z,W.heap[g]? = some (.cells #[.iface u v] t z):=by
 obtain ⟨ps,⟨g',t',cs,fuel,p,q,hg',ht',hvar,hd,_,_⟩,_⟩:=h
 obtain rfl:=aq (hg.symm.trans hg')
 unfold isI at hi
 rw [ht'] at hi
 dsimp only at hi
 split at hi
 .rename_i ms hu
  obtain ⟨f',u,v,e,_,_⟩:=iface_of_trod hu hd
  unfold World.var? at hvar
  rw [hg] at hvar
  simp only [Option.bind_some] at hvar
  split at hvar
  .rename_i cs' t z e2
   cases hvar
   refine ⟨u,v,t,z,?_⟩
   rw [e2]
   obtain ⟨l⟩:=cs
   dsimp only at e
   rw [e]
  .cases hvar
 .cases hi
section
open Go.WideElems Go.ChangeMaps Go.WideShapes Go.ChangeShapes Go.MapKept
theorem Hn{H:Type}{y:Lit × DataW H}:∀ {l:List (Lit × DataW H)},y∈l.foldr DataW.insert []↔y∈l
 | []=>by simp
 | a :: l=>by rw [List.foldr_cons,mem_insert_iff,Hn,List.mem_cons]
theorem N8{H:Type}{enc:TypeId × Value->H}{P:Program}{w:World}{base:Nat}{sp:Nat->Bool}{held:Bool}{n:Nat}{e:TypeId}{v:Value}{z:DataW H × List MemPlace}(he:P.underlying e=some .string)(h:elemAt enc P w base sp held n e v=some z):∃ s:BA,v=.string s/\z=(.lit (.string s.data.toList),[]):=by
 unfold elemAt at h
 split at h
 .rename_i hf
  obtain ⟨s,hc,hz,_⟩:=DataW.trod_string he h
  cases v <;> simp [Value.formed,he,Value.cells] at hf hc
  subst hc
  exact ⟨_,rfl,hz⟩
 .cases h
theorem S4{H:Type}{enc:TypeId × Value->H}{P:Program}{w:World}{base:Nat}{sp:Nat->Bool}{held:Bool}{n:Nat}{k e:TypeId}{es:Array MapEntry}{clock:Nat}(f:Bool->BA)(hk:P.underlying k=some .bool)(he:P.underlying e=some .string)(F:Fit P k (elemAt enc P w base sp held n e) es clock)(hx:(es.toList.map (rg P k (elemAt enc P w base sp held n e))).foldr DataW.insert []=[(.bool false,.lit (.string (f false).data.toList)),(.bool true,.lit (.string (f true).data.toList))]) :
  AZ (fun b:Bool=>Value.bool b) (fun b=>some (.string (f b))) es clock:=by
 obtain ⟨s1,s2,s3⟩:=F.stamped
 have key:∀ x∈es.toList,∃ b:Bool,x.key=.bool b/\x.val=.string (f b)/\rg P k (elemAt enc P w base sp held n e) x=(.bool b,.lit (.string (f b).data.toList)):=by
  intro x hm
  obtain ⟨y,hy⟩:=F.reads x hm
  have hr:=rg_of hy
  have h2:rg P k (elemAt enc P w base sp held n e) x∈(es.toList.map (rg P k (elemAt enc P w base sp held n e))).foldr DataW.insert []:=Hn.2 (List.mem_map.2 ⟨x,hm,rfl⟩)
  rw [hx,hr] at h2
  have hkk:=rd_key hy
  obtain ⟨z,hz,hyz⟩:=rd_val hy
  obtain ⟨s,hs,rfl⟩:=N8 he hz
  have:∃ b:Bool,y=(.bool b,.lit (.string (f b).data.toList)):=by
   simp only [List.mem_cons,List.not_mem_nil,or_false] at h2
   rcases h2 with h2 | h2
   .exact ⟨false,h2⟩
   .exact ⟨true,h2⟩
  obtain ⟨b,rfl⟩:=this
  refine ⟨b,(Go.Maps.bool_keyed hk).inj hkk (Go.Maps.keyOf_bool_mk hk b),?_,hr⟩
  have hd:s.data.toList=(f b).data.toList:=by
   have h3:=hyz
   simp only [DataW.lit.injEq,Lit.string.injEq] at h3
   exact h3.symm
  rw [hs]
  congr 1
  exact ByteArray.ext (Array.toList_inj.1 hd)
 refine ⟨fun x hm=>let ⟨b,h,_⟩:=key x hm;⟨b,h⟩,s3,s2,s1,fun b v=>⟨fun h=>?_,fun ⟨x,hm,hk',hv⟩=>?_⟩⟩
 .have h2:((.bool b,.lit (.string (f b).data.toList)):Lit × DataW H)∈(es.toList.map (rg P k (elemAt enc P w base sp held n e))).foldr DataW.insert []:=by
   rw [hx]
   cases b <;> simp
  obtain ⟨x,hm,hr⟩:=List.mem_map.1 (Hn.1 h2)
  obtain ⟨b',ka,kb,kc⟩:=key x hm
  rw [kc] at hr
  have:b'=b:=by simpa using congrArg Prod.fst hr
  subst this
  exact ⟨x,hm,ka,kb.trans (aq h)⟩
 .obtain ⟨b',ka,kb,_⟩:=key x hm
  rw [hk'] at ka
  cases ka
  rw [<- hv,kb]
end
theorem Ft(n:String){d:DataW Unit}{w:World}(hn:Fj.filter (fun x=>x.1 == n)=[(n,d)])(hp:laidMetH Tryz.prog [(n,d)] w=laidMet Tryz.prog [(n,d)] w)(h:laidMetH Tryz.prog Fj w):laidMet Tryz.prog [(n,d)] w:=by
 have h1:=laidMetH.filter (fun x=>x.1 == n) h
 rwa [hn,hp] at h1
section
open Go.WideElems Go.ChangeMaps Go.WideShapes Go.ChangeShapes Go.MapKept
theorem KR{w:World}(h:laidMetH Tryz.prog Fj w):(∃ b t z,w.heap[1]? = some (.cells #[.map (some b)] t z))/\∃ b es c,w.cell? ⟨1,0,none⟩=some (.map (some b))/\w.heap[b]? = some (.map es c)/\AZ (fun k:Bool=>Value.bool k) (fun k=>some (.string (Hs k))) es c:=by
 obtain ⟨ps,⟨g',t',cs,fuel,p,q,hg',ht',hvar,hd,_,_⟩,_⟩:=Ft "shotline/kit.results" (d:=Rows.laid_shotline_kit_results) (by kernel_rfl) (MakeChecks.laidMetH_plain _ _ _ (by kernel_rfl)) h
 obtain rfl:1=g':=aq ((show Tryz.prog.globalNamed "shotline/kit.results"=some 1 by kernel_rfl).symm.trans hg')
 obtain rfl:139=t':=aq ((show (Tryz.prog.globals[1]?).map (·.type)=some 139 by kernel_rfl).symm.trans ht')
 rcases open_map Tryz.underlying139 hd with ⟨_,hx⟩ | ⟨b,es,c,n,_,hcs,hb,_,F,hx⟩
 .simp [Rows.laid_shotline_kit_results] at hx
 simp only [Prod.mk.injEq] at hx
 have hm:=S4 Hs Tryz.underlying4 Tryz.underlying9 F (by
  have:=hx.1
  unfold Rows.laid_shotline_kit_results at this
  rw [DataW.map.injEq] at this
  rw [<- this]
  rfl)
 unfold World.var? at hvar
 rw [hg'] at hvar
 simp only [Option.bind_some] at hvar
 split at hvar
 .rename_i cs' t z e
  cases hvar
  obtain ⟨l⟩:=cs
  dsimp only at hcs
  subst hcs
  exact ⟨⟨b,t,z,e⟩,b,es,c,by simp only [World.cell?,e];rfl,hb,hm⟩
 .cases hvar
end
theorem OF(w:World)(hS:w.ShapedOpen Tryz.prog)(h:laidMetH Tryz.prog Fj w):SQ w:=by
 obtain ⟨r1,r2⟩:=KR h
 refine ⟨⟨r1,?_,?_,?_,?_⟩,r2⟩
 .exact Go.Proofs.cell_of_shapedOpen_int (g:=2) (t:=3) (zero:=#[.int .i64 0]) (k:=.i64) hS (Nat.le_of_ble_eq_true (by kernel_rfl)) (by kernel_rfl) rfl (by kernel_rfl) (by kernel_rfl) (by kernel_rfl)
 .exact IV (by kernel_rfl) (by kernel_rfl) (Ft "strconv.ErrSyntax" (d:=Rows.laid_strconv_ErrSyntax) (by kernel_rfl) (MakeChecks.laidMetH_plain _ _ _ (by kernel_rfl)) h)
 .exact IV (by kernel_rfl) (by kernel_rfl) (Ft "strconv.ErrRange" (d:=Rows.laid_strconv_ErrRange) (by kernel_rfl) (MakeChecks.laidMetH_plain _ _ _ (by kernel_rfl)) h)
 .have h1:=Ft "internal/strconv.uint64pow10" (d:=Lib.tabData .u64 Lib.pow10Tab) (by kernel_rfl) (MakeChecks.laidMetH_plain _ _ _ (by kernel_rfl)) h
  have h2:=Lib.tabIs_of_head (g:=5) (t:=217) (e:=197) (n:=20) (by kernel_rfl) (by kernel_rfl) (by kernel_rfl) (by kernel_rfl) (by kernel_rfl) (by kernel_rfl) h1
  unfold Lib.TabIs World.var? at h2
  rw [show Tryz.prog.globalNamed "internal/strconv.uint64pow10"=some 5 by kernel_rfl,Mb] at h2
  simp only [Option.bind_some] at h2
  split at h2
  .rename_i cs t z e
   cases h2
   exact ⟨_,_,e⟩
  .cases h2
theorem Ni{w:World}(h:laidMetH Tryz.prog Fj w)(q:Nat)(s:BA)(hq:Fi[q]? = some s):w.cell? ⟨0,q,none⟩=some (.string s):=by
 obtain ⟨ps,⟨g',t',cs,fuel,p,q',hg',ht',hvar,hd,_,_⟩,_⟩:=Ft "shotline/kit.kinds" (d:=Rows.laid_shotline_kit_kinds) (by kernel_rfl) (MakeChecks.laidMetH_plain _ _ _ (by kernel_rfl)) h
 obtain rfl:0=g':=aq ((show Tryz.prog.globalNamed "shotline/kit.kinds"=some 0 by kernel_rfl).symm.trans hg')
 obtain rfl:102=t':=aq ((show (Tryz.prog.globals[0]?).map (·.type)=some 102 by kernel_rfl).symm.trans ht')
 obtain ⟨xs,m,rfl,hx,hlen,hn,hel⟩:=DataW.trod_array Tryz.underlying102 hd
 have c9:Tryz.prog.cellsOf 9=1:=by kernel_rfl
 have hq5:q<5:=(List.getElem?_eq_some_iff.1 hq).1
 simp only [Prod.mk.injEq] at hx
 have hxs:=hx.1
 unfold Rows.laid_shotline_kit_kinds at hxs
 rw [DataW.agg.injEq] at hxs
 have hq2:=hel q hq5
 rw [c9,Nat.mul_one] at hq2
 obtain ⟨x,hxq⟩:∃ x,xs[q]? = some x:=⟨xs[q],List.getElem?_eq_getElem (by omega)⟩
 rw [hxq] at hq2
 obtain ⟨t,hc,hxt,_⟩:=DataW.trod_string Tryz.underlying9 hq2
 have hb:(xs.map (·.1))[q]? = some (.lit (.string t.data.toList)):=by rw [List.getElem?_map,hxq,hxt];rfl
 rw [<- hxs] at hb
 have ht:t=s:=by
  have e:t.data.toList=s.data.toList:=by
   match q,hq5,hq,hb with
   | 0,_,hq,hb=>cases hq;simpa using hb.symm
   | 1,_,hq,hb=>cases hq;simpa using hb.symm
   | 2,_,hq,hb=>cases hq;simpa using hb.symm
   | 3,_,hq,hb=>cases hq;simpa using hb.symm
   | 4,_,hq,hb=>cases hq;simpa using hb.symm
  exact ByteArray.ext (Array.toList_inj.1 e)
 subst ht
 have hv:=World.var?_cell hg' hvar q
 rw [hv]
 have h2:cs.toList[q]? = some (.string t):=by
  have:=congrArg (fun l:List Value=>l[0]?) hc
  simpa [List.getElem?_take,List.getElem?_drop] using this
 simpa using h2
theorem Qj(w:World)(hS:w.ShapedOpen Tryz.prog)(h:laidMetH Tryz.prog Fj w):Ea w :=
 ⟨(OF w hS h).pv,fun p=>⟨(OF w hS h).gl p,fun q s hq=>Ni h q s hq⟩⟩
end Go.Proofs.YtdcdjjogieojhaaGreatDoor
