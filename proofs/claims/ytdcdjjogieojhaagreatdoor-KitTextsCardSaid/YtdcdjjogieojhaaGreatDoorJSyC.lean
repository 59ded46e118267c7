/-
 A symbolic executor for the model's code, part C: operations that write or make memory, arithmetic, addresses. Conditions: none.
-/
import Derived.Test.YtdcdjjogieojhaaGreatDoorJSyA
namespace Go.Sy
set_option linter.unusedVariables false
set_option linter.unusedSimpArgs false
open Go.RowKit
set_option linter.unusedSectionVars false
variable [Globs]
structure SState where
 na:Nat
 nt:Nat
 tm:Nat→SV
 nx:Nat
 mem:Nat→Blk
 /-- A truth value that is taken for granted (each use asks for it). -/
 as:Option (Nat × Bool):=none
abbrev Asm:=List (Nat × Bool)
def Asm.has (asm:Asm) (t:Nat) (pol:Bool):Bool:=asm.any fun p=>p.1 == t&&p.2 == pol
def SV.res (asm:Asm):SV→SV
 | .gd t pol v=>if asm.has t pol then v else .any
 | v=>v
def ofV1:Value→SV
 | .int k n=>.int k n
 | .bool b=>.bool b
 | .string s=>.str s
 | v=>.val v
def ofV:Value→SV
 | .agg cs=>.agg (cs.toList.map ofV1)
 | .slice none 0 0=>.nsl
 | v=>ofV1 v
theorem ofV1_den (ρ:Env) (v:Value):(ofV1 v).den ρ v:=by cases v <;> simp [ofV1,SV.den]
theorem ofV1_denL (ρ:Env):∀ l:List Value,SV.denL ρ (l.map ofV1) l
 | []=>trivial
 | v :: l=>⟨ofV1_den ρ v,ofV1_denL ρ l⟩
theorem ofV_den (ρ:Env) (v:Value):(ofV v).den ρ v:=by
 unfold ofV
 split
 ·rename_i cs;exact ⟨cs.toList,by simp,ofV1_denL ρ _⟩
 ·rfl
 ·exact ofV1_den ρ _
def slotDen (ρ:Env) (a:Act):SV→Value→Prop
 | .gd t pol v,x=>(a.tmps[t]? = some (.bool pol)∧v.den ρ x)∨(a.tmps[t]?≠some (.bool pol)∧x=undef)
 | v,x=>v.den ρ x
structure Base where
 w:World
 ρ:Env
 n:Nat
 ob:Nat→Option Obj:=fun _=>none
 df:Option (List Deferred):=none
structure Held (ρ:Env) (mem:Nat→Blk) (w:World) (b:Nat) (o:Obj):Prop where
 at_:w.heap[b]? = some o
 off:∀ i m,(mem i).isUnk=false→ρ i=some m→m.blk≠b
 nod:∀ k,ρ.od b k=none
 nom:ρ.od.m b=none
structure Side (B:Nat) (ob:Nat→Option Obj) (df:Option (List Deferred)) (ρ:Env) (mem:Nat→Blk) (w:World) (ds:List Deferred):Prop where
 ob:∀ b o,ob b=some o→Held ρ mem w b o
 at_:∀ d∈ds,∃ D,d={ target:=.collected D,args:=#[] }∧B≤D∧Held ρ mem w D (.deferred (some []))
 nd:ds.Nodup
 same_:∀ d,df=some d→ds=d
theorem Held.lt {ρ:Env} {mem:Nat→Blk} {w:World} {b:Nat} {o:Obj} (h:Held ρ mem w b o):b<w.heap.size:=(Array.getElem?_eq_some_iff.1 h.at_).1
theorem Held.same {ρ:Env} {mem:Nat→Blk} {w w':World} {b:Nat} {o:Obj} (h:Held ρ mem w b o) (hb:w'.heap[b]? = w.heap[b]?):Held ρ mem w' b o:=⟨hb.trans h.at_,h.off,h.nod,h.nom⟩
theorem Held.unk {ρ:Env} {mem mem':Nat→Blk} {w:World} {b:Nat} {o:Obj} (h:Held ρ mem w b o) (hw:∀ q,(mem' q).isUnk=false→(mem q).isUnk=false):Held ρ mem' w b o:=⟨h.at_,fun i m hi hm=>h.off i m (hw i hi) hm,h.nod,h.nom⟩
theorem Held.step {ρ ρ':Env} {mem:Nat→Blk} {off:Nat} {r:OpRes} {w w':World} {x:Value} {b:Nat} {o:Obj} (h:Held ρ mem w b o) (hp:OpPost ρ ρ' off r w w' x) (hf:r.fits mem off):Held ρ' (r.mem mem off) w' b o:=by
 refine ⟨(hp.keep b h.lt fun u hu m hm=>h.off u.1 m (Blk.not_unk_of_mine (hf.1 u hu).1) hm).trans h.at_,fun i m hi hm=>?_,fun k=>?_,?_⟩
 ·rcases r.mem_cases mem off hf i hi with ⟨j,bb,rfl,hj,he⟩ | ⟨ho,_,hc⟩
  ·rw [he] at hi
   obtain ⟨_,_,_,h4⟩:=(hp.new j bb hj hi).1 m hm
   rcases h4 with h4 | ⟨u,hu,_,m',hm',e⟩
   ·have:=h.lt;omega
   ·rw [← e];exact h.off u.1 m' (Blk.not_unk_of_mine (hf.1 u hu).1) hm'
  ·rw [hp.old i ho] at hm
   refine h.off i m ?_ hm
   rcases hc with ⟨_,_,_,_,hc⟩ | ⟨_,hc⟩
   ·exact Blk.not_unk_of_mine hc
   ·rw [hc] at hi;exact hi
 ·cases hod:ρ'.od b k with
  | none=>rfl
  | some v =>
   rcases hp.odn b k v hod with h1 | ⟨_,h1⟩
   ·rw [h.nod k] at h1;cases h1
   ·have:=h.lt;omega
 ·cases hod:ρ'.od.m b with
  | none=>rfl
  | some v =>
   rcases hp.odn.m b v hod with h1 | ⟨_,h1⟩
   ·rw [h.nom] at h1;cases h1
   ·have:=h.lt;omega
section side
variable {B:Nat} {ob:Nat→Option Obj} {df:Option (List Deferred)} {ρ ρ':Env} {mem mem':Nat→Blk} {w w':World} {ds:List Deferred}
theorem Side.map (h:Side B ob df ρ mem w ds) (hh:∀ b o,Held ρ mem w b o→Held ρ' mem' w' b o):Side B ob df ρ' mem' w' ds :=
 ⟨fun b o hb=>hh b o (h.ob b o hb),fun d hd=>let ⟨D,e,hB,hD⟩:=h.at_ d hd;⟨D,e,hB,hh _ _ hD⟩,h.nd,h.same_⟩
theorem Side.step {off:Nat} {r:OpRes} {x:Value} (h:Side B ob df ρ mem w ds) (hp:OpPost ρ ρ' off r w w' x) (hf:r.fits mem off):Side B ob df ρ' (r.mem mem off) w' ds:=h.map fun _ _ k=>k.step hp hf
theorem Side.unk (h:Side B ob df ρ mem w ds) (hw:∀ q,(mem' q).isUnk=false→(mem q).isUnk=false):Side B ob df ρ mem' w ds:=h.map fun _ _ k=>k.unk hw
theorem Side.same (h:Side B ob df ρ mem w ds) (hw:w'.heap=w.heap):Side B ob df ρ mem w' ds:=h.map fun _ _ k=>k.same (by rw [hw])
theorem Side.none (B:Nat) (ρ:Env) (mem:Nat→Blk) (w:World):Side B (fun _=>Option.none) Option.none ρ mem w []:=⟨fun _ _ h=>(by cases h),fun _ h=>(by cases h),List.nodup_nil,fun _ h=>(by cases h)⟩
end side
structure StDen (B:Nat) (M:List Nat) (w0:Base) (ρ:Env) (s:SState) (a:Act) (w:World):Prop where
 defs:Side B w0.ob w0.df ρ s.mem w a.defers
 size:a.tmps.size=s.nt
 tmp:∀ i x,a.tmps[i]? = some x→slotDen ρ a (s.tm i) x
 fresh:∀ i,s.nx≤i→ρ i=none
 mem:MemDen B M ρ s.mem w
 kept:Kept B M w0.w w
 base:B≤w.heap.size
 ext:Ext w0.ρ ρ
 argn:∀ i,w0.n≤i→w0.ρ i=none
 argl:∀ i,i<w0.n→ρ i=w0.ρ i
 nab:s.na=w0.n
 nale:w0.n≤s.nx
 odb:OdB w0.ρ.od ρ.od B
 mz:w0.n=0→M=[]
def glSV (g:Nat):SV:=if Globs.onK=true∧g=0 then .ra [.str] 5 { noDat with ss:=fun q _=>kindsL.getD q ⟨#[]⟩ } else .val (.pointer (some ⟨g,0,none⟩))
theorem glSV_den (ρ:Env) (g:Nat):(glSV g).den ρ (.pointer (some ⟨g,0,none⟩)):=by
 unfold glSV
 by_cases h:Globs.onK=true∧g=0
 ·rw [if_pos h,h.2]
  refine ⟨0,0,rfl,fun q hq=>?_⟩
  have e:kindsL[q]? = some (kindsL.getD q ⟨#[]⟩):=by
   match q,hq with
   | 0,_=>rfl
   | 1,_=>rfl
   | 2,_=>rfl
   | 3,_=>rfl
   | 4,_=>rfl
  have:=Globs.honK h.1 ρ.gl q _ e
  exact ⟨⟨_,by rw [show 0+q * [Kd.str].length=q by simp];exact this,rfl⟩,trivial⟩
 ·rw [if_neg h];rfl
def ev (s:SState) (asm:Asm):Operand→SV
 | .tmp t=>if t<s.nt then (s.tm t).res asm else .any
 | .const v=>ofV v
 | .global g=>glSV g
 | .func f=>.fn f []
def AsmOk (asm:Asm) (a:Act):Prop:=∀ t pol,asm.has t pol=true→a.tmps[t]? = some (.bool pol)
theorem AsmOk.nil (a:Act):AsmOk [] a:=fun _ _ h=>by simp [Asm.has] at h
theorem AsmOk.cons {asm:Asm} {a:Act} (h:AsmOk asm a) {t:Nat} {pol:Bool} (ht:a.tmps[t]? = some (.bool pol)):AsmOk ((t,pol) :: asm) a:=fun t' pol' hh=>by
 simp only [Asm.has,List.any_cons,Bool.or_eq_true,Bool.and_eq_true,beq_iff_eq] at hh
 rcases hh with ⟨rfl,rfl⟩ | hh
 ·exact ht
 ·exact h _ _ (by simpa [Asm.has] using hh)
structure TmDen (ρ:Env) (s:SState) (a:Act):Prop where
 size:a.tmps.size=s.nt
 tmp:∀ i x,a.tmps[i]? = some x→slotDen ρ a (s.tm i) x
theorem StDen.tmDen {B:Nat} {M:List Nat} {w0:Base} {ρ:Env} {s:SState} {a:Act} {w:World} (h:StDen B M w0 ρ s a w):TmDen ρ s a:=⟨h.size,h.tmp⟩
theorem ev_den {ρ:Env} {s:SState} {a:Act} (h:TmDen ρ s a) {asm:Asm} (ha:AsmOk asm a) (x:Operand):(ev s asm x).den ρ (a.eval x):=by
 cases x with
 | tmp t =>
  show (if t<s.nt then (s.tm t).res asm else .any).den ρ (a.tmps.getD t undef)
  by_cases ht:t<s.nt
  ·rw [if_pos ht]
   have hx:a.tmps[t]? = some (a.tmps[t]'(by rw [h.size];exact ht)):=Array.getElem?_eq_getElem _
   have hd:=h.tmp t _ hx
   simp only [Array.getD_eq_getD_getElem?,hx,Option.getD_some]
   generalize s.tm t=v at hd ⊢
   cases v <;> try exact hd
   rename_i t' pol u
   simp only [SV.res]
   by_cases hh:asm.has t' pol=true
   ·rw [if_pos hh]
    rcases hd with hd | hd
    ·exact hd.2
    ·exact absurd (ha _ _ hh) hd.1
   ·rw [if_neg hh];trivial
  ·rw [if_neg ht];trivial
 | const v=>exact ofV_den ρ v
 | global g=>exact glSV_den ρ g
 | func f=>exact ⟨[],rfl,trivial⟩
def SV.cells?:SV→Option (List SV)
 | .agg l=>some l
 | .any | .tup _ | .gd _ _ _ | .gv _=>none
 | .val v=>if v.oneCell' then some [.val v] else none
 | v=>some [v]
theorem kd_one {od:Od} {kd:Kd} {d:Dat} {k c:Nat} {x:Value} (h:kd.den od d k c x):x.oneCell'=true∧x.cells.toList=[x]:=by
 cases kd <;> simp only [Kd.den] at h
 ·subst h;exact ⟨rfl,rfl⟩
 ·subst h;exact ⟨rfl,rfl⟩
 ·subst h;exact ⟨rfl,rfl⟩
 ·obtain ⟨A,cap,rfl,_⟩:=h;exact ⟨rfl,rfl⟩
 ·obtain ⟨b,o,rfl,_⟩:=h;exact ⟨rfl,rfl⟩
 ·rcases h with ⟨_,b,rfl,_⟩ | ⟨h,_⟩
  ·exact ⟨rfl,rfl⟩
  ·cases h
 ·obtain ⟨b,es,cl,f,rfl,_⟩:=h;exact ⟨rfl,rfl⟩
 ·obtain ⟨b,es,cl,f,rfl,_⟩:=h;exact ⟨rfl,rfl⟩
 ·obtain ⟨b,es,cl,f,rfl,_⟩:=h;exact ⟨rfl,rfl⟩
theorem cells?_den {ρ:Env} {v:SV} {x:Value} {l:List SV} (h:v.den ρ x) (hl:v.cells? = some l):SV.denL ρ l x.cells.toList:=by
 cases v <;> simp only [SV.cells?] at hl <;> try (cases hl;done)
 case agg l'=>cases hl;obtain ⟨xs,rfl,hd⟩:=h;exact hd
 case val v =>
  split at hl <;> cases hl
  rename_i ho
  cases h
  cases x <;> first | exact ⟨rfl,trivial⟩ | (simp [Value.oneCell'] at ho)
 case int=>cases hl;cases h;exact ⟨rfl,trivial⟩
 case bool=>cases hl;cases h;exact ⟨rfl,trivial⟩
 case str=>cases hl;cases h;exact ⟨rfl,trivial⟩
 case ptr=>cases hl;obtain ⟨m,e,rfl⟩:=h;exact ⟨⟨m,e,rfl⟩,trivial⟩
 case elt=>cases hl;obtain ⟨m,e,rfl⟩:=h;exact ⟨⟨m,e,rfl⟩,trivial⟩
 case slc=>cases hl;obtain ⟨A,c,rfl,e⟩:=h;exact ⟨⟨A,c,rfl,e⟩,trivial⟩
 case own=>cases hl;obtain ⟨m,e,e0,e1,rfl⟩:=h;exact ⟨⟨m,e,e0,e1,rfl⟩,trivial⟩
 case nsl=>cases hl;cases h;exact ⟨rfl,trivial⟩
 case emp=>cases hl;obtain ⟨A,rfl⟩:=h;exact ⟨⟨A,rfl⟩,trivial⟩
 case gr=>cases hl;rcases h with ⟨h0,A,rfl⟩ | ⟨m,e,e0,e1,rfl⟩;exact ⟨.inl ⟨h0,A,rfl⟩,trivial⟩;exact ⟨.inr ⟨m,e,e0,e1,rfl⟩,trivial⟩
 case ro=>cases hl;obtain ⟨A,c,rfl,e⟩:=h;exact ⟨⟨A,c,rfl,e⟩,trivial⟩
 case rp=>cases hl;obtain ⟨b,o,rfl,e⟩:=h;exact ⟨⟨b,o,rfl,e⟩,trivial⟩
 case rn=>cases hl;obtain ⟨a,c,rfl,e⟩:=h;exact ⟨⟨a,c,rfl,e⟩,trivial⟩
 case ra=>cases hl;obtain ⟨b,o,rfl,e⟩:=h;exact ⟨⟨b,o,rfl,e⟩,trivial⟩
 case pix=>cases hl;obtain ⟨m,e,rfl⟩:=h;exact ⟨⟨m,e,rfl⟩,trivial⟩
 case fn=>cases hl;obtain ⟨xs,rfl,e⟩:=h;exact ⟨⟨xs,rfl,e⟩,trivial⟩
 case fb=>cases hl;obtain ⟨xs,rfl,e⟩:=h;exact ⟨⟨xs,rfl,e⟩,trivial⟩
 case rq=>cases hl;rcases h with ⟨t,b,o,rfl,e⟩ | ⟨t,rfl⟩;exact ⟨.inl ⟨t,b,o,rfl,e⟩,trivial⟩;exact ⟨.inr ⟨t,rfl⟩,trivial⟩
 case rz=>cases hl;rcases h with ⟨t,b,rfl,e⟩ | ⟨t,rfl⟩;exact ⟨.inl ⟨t,b,rfl,e⟩,trivial⟩;exact ⟨.inr ⟨t,rfl⟩,trivial⟩
 case mp=>cases hl;rw [(kd_one h).2];exact ⟨h,trivial⟩
 case ni=>cases hl;rcases h with ⟨e,rfl⟩ | ⟨e,t,v,rfl⟩;exact ⟨.inl ⟨e,rfl⟩,trivial⟩;exact ⟨.inr ⟨e,t,v,rfl⟩,trivial⟩
 case ifc=>cases hl;obtain ⟨xs,⟨y,e,rfl⟩,hd⟩:=h;exact ⟨⟨xs,⟨y,e,rfl⟩,hd⟩,trivial⟩
def SV.one:SV→Bool
 | .any | .agg _ | .tup _ | .gd _ _ _ | .gv _=>false
 | .val v=>v.oneCell'
 | _=>true
theorem one_den {ρ:Env} {v:SV} {x:Value} (h:v.den ρ x) (ho:v.one=true):x.oneCell'=true:=by
 cases v <;> simp only [SV.one] at ho <;> try (cases ho;done)
 case val v=>cases h;exact ho
 case ni=>rcases h with ⟨_,rfl⟩ | ⟨_,t,v,rfl⟩ <;> rfl
 case ifc=>obtain ⟨xs,⟨y,e,rfl⟩,_⟩:=h;rfl
 case int=>cases h;rfl
 case bool=>cases h;rfl
 case str=>cases h;rfl
 case ptr=>obtain ⟨m,e,rfl⟩:=h;rfl
 case elt=>obtain ⟨m,e,rfl⟩:=h;rfl
 case slc=>obtain ⟨A,c,rfl,e⟩:=h;rfl
 case own=>obtain ⟨m,e,e0,e1,rfl⟩:=h;rfl
 case nsl=>cases h;rfl
 case emp=>obtain ⟨A,rfl⟩:=h;rfl
 case gr=>rcases h with ⟨h0,A,rfl⟩ | ⟨m,e,e0,e1,rfl⟩ <;> rfl
 case ro=>obtain ⟨A,c,rfl,e⟩:=h;rfl
 case rp=>obtain ⟨b,o,rfl,e⟩:=h;rfl
 case rn=>obtain ⟨a,c,rfl,e⟩:=h;rfl
 case ra=>obtain ⟨b,o,rfl,e⟩:=h;rfl
 case pix=>obtain ⟨m,e,rfl⟩:=h;rfl
 case fn=>obtain ⟨xs,rfl,e⟩:=h;rfl
 case fb=>obtain ⟨xs,rfl,e⟩:=h;rfl
 case rq=>rcases h with ⟨t,b,o,rfl,e⟩ | ⟨t,rfl⟩ <;> rfl
 case rz=>rcases h with ⟨t,b,rfl,e⟩ | ⟨t,rfl⟩ <;> rfl
 case mp=>exact (kd_one h).1
theorem one_denL {ρ:Env}:∀ {l:List SV} {xs:List Value},SV.denL ρ l xs→l.all SV.one=true→∀ x∈xs,x.oneCell'=true
 | [],[],_,_,_,h=>by simp at h
 | v :: l,x :: xs,⟨h,k⟩,ho,y,hy=>by
  simp only [List.all_cons,Bool.and_eq_true] at ho
  rcases List.mem_cons.1 hy with rfl | hy
  ·exact one_den h ho.1
  ·exact one_denL k ho.2 y hy
 | [],_ :: _,h,_,_,_=>h.elim
 | _ :: _,[],h,_,_,_=>h.elim
def intAt (cs:List SV) (c:Nat):Int:=match cs[c]? with | some (.int _ x)=>x | _=>0
def boolAt (cs:List SV) (c:Nat):Bool:=match cs[c]? with | some (.bool x)=>x | _=>false
def strAt (cs:List SV) (c:Nat):ByteArray:=match cs[c]? with | some (.str x)=>x | _=>.empty
def selSV (l:List SV) (c:Nat):SV→SV
 | .int k _=>.int k (intAt l c)
 | .bool _=>.bool (boolAt l c)
 | .str _=>.str (strAt l c)
 | _=>.any
def likeSV:SV→SV→Bool
 | .int k _,.int k' _=>if k=k' then true else false
 | .bool _,.bool _=>true
 | .str _,.str _=>true
 | _,_=>false
theorem selSV_eq {l:List SV} {c:Nat} {p v:SV} (h:likeSV p v=true) (hv:l[c]? = some v):selSV l c p=v:=by
 cases p <;> cases v <;> simp [likeSV] at h <;> simp [selSV,intAt,boolAt,strAt,hv]
 exact h
def homB (l:List SV) (o s m j n:Nat):Bool:=(List.range m).all fun q=>(List.range n).all fun c=>match l[o+j+c]?,l[o+q * s+j+c]? with
 | some p,some v=>likeSV p v
 | _,_=>false
theorem homB_at {l:List SV} {o s m j n:Nat} (h:homB l o s m j n=true) {q c:Nat} (hq:q<m) (hc:c<n):∃ p v,l[o+j+c]? = some p∧l[o+q * s+j+c]? = some v∧likeSV p v=true:=by
 have:=List.all_eq_true.1 ((List.all_eq_true.1 h) q (List.mem_range.2 hq)) c (List.mem_range.2 hc)
 split at this
 ·exact ⟨_,_,by assumption,by assumption,this⟩
 ·cases this
def selL (l:List SV) (o s k j n:Nat):List SV:=(List.range n).map fun c=>match l[o+j+c]? with
 | some p=>selSV l (o+k * s+j+c) p
 | none=>.any
def glCells (v:Value) (n:Nat):Option (List SV × List Bool):=match v with
 | .pointer (some ⟨1,0,none⟩)=>if Globs.on=true∧n=1 then some ([.gv 1],[]) else none
 | _=>none
def cellsAt (mem:Nat→Blk) (p:SV) (n:Nat):Option (List SV × List Bool) :=
 match p with
 | .ptr i o=>match mem i with
  | .cells _ l=>if o+n≤l.length then some ((l.drop o).take n,[]) else none
  | _=>none
 | .elt i size k j=>match mem i with
  | .cells _ l=>if k * size+j+n≤l.length then some ((l.drop (k * size+j)).take n,[]) else none
  | .row _ sh m d=>if sh.length=size then (if j+n≤sh.length then some (((el sh d k).drop j).take n,[decide (k<m)]) else none) else none
  | _=>none
 | .rp sh d k j=>if j+n≤sh.length then some (((el sh d k).drop j).take n,[]) else none
 | .ra sh m d=>if n=m * sh.length then some ((List.range m).flatMap (el sh d),[]) else none
 | .pix i o s m k j=>match mem i with
  | .cells _ l=>if homB l o s m j n=true then some (selL l o s k j n,[decide (k<m)]) else none
  | _=>none
 | .val v=>glCells v n
 | _=>none
theorem list_of_at {ρ:Env} {g:Nat→Option Value}:∀ {cs:List SV},(∀ j sv,cs[j]? = some sv→∃ x,g j=some x∧sv.den ρ x)→∃ xs:List Value,SV.denL ρ cs xs∧∀ j x,xs[j]? = some x→g j=some x
 | [],_=>⟨[],trivial,fun j x h=>by simp at h⟩
 | v :: cs,h=>by
  obtain ⟨x,hx,hd⟩:=h 0 v rfl
  obtain ⟨xs,hxs,hg⟩:=list_of_at (g:=fun j=>g (j+1)) (cs:=cs) fun j sv hj=>h (j+1) sv (by simpa using hj)
  refine ⟨x :: xs,⟨hd,hxs⟩,fun j y hj=>?_⟩
  cases j with
  | zero=>simp at hj;subst hj;exact hx
  | succ j=>exact hg j y (by simpa using hj)
theorem cellsAt_den {B:Nat} {M:List Nat} {ρ:Env} {mem:Nat→Blk} {w:World} (hm:MemDen B M ρ mem w) {p:SV} {n:Nat} {cs:List SV} {need:List Bool} (hc:cellsAt mem p n=some (cs,need)) (hn:∀ b∈need,b=true) {x:Value} (hp:p.den ρ x) :
  ∃ (b o:Nat) (xs:List Value),x=.pointer (some ⟨b,o,none⟩)∧cs.length=n∧SV.denL ρ cs xs∧w.rangeAt b o xs:=by
 have fromElems:∀ (i size k j m:Nat) (f:Nat→List SV) (nm:Nm),ρ i=some nm→Elems ρ w nm size m f→j+n≤(f k).length→k<m→cs=((f k).drop j).take n→x=.pointer (some ⟨nm.blk,nm.off+(k * size+j),none⟩) →
   ∃ (b o:Nat) (xs:List Value),x=.pointer (some ⟨b,o,none⟩)∧cs.length=n∧SV.denL ρ cs xs∧w.rangeAt b o xs:=by
  intro i size k j m f nm _ he hl hk hcs hx
  obtain ⟨xs,hd,hg⟩:=list_of_at (ρ:=ρ) (g:=fun j'=>w.cell? ⟨nm.blk,nm.off+(k * size+j)+j',none⟩) (cs:=cs) fun j' sv hj'=>by
   rw [hcs,List.getElem?_take] at hj'
   split at hj'
   ·rw [List.getElem?_drop] at hj'
    obtain ⟨y,hy,hd⟩:=(he k hk).2 _ _ hj'
    exact ⟨y,by rw [← hy];congr 2;omega,hd⟩
   ·cases hj'
  exact ⟨_,_,xs,hx,by rw [hcs];simp;omega,hd,hg⟩
 have fromCells:∀ (i o e:Nat) (l:List SV) (nm:Nm),ρ i=some nm→(Blk.cells e l).den ρ w nm→o+n≤l.length→cs=(l.drop o).take n→x=.pointer (some ⟨nm.blk,nm.off+o,none⟩) →
   ∃ (b o:Nat) (xs:List Value),x=.pointer (some ⟨b,o,none⟩)∧cs.length=n∧SV.denL ρ cs xs∧w.rangeAt b o xs:=by
  intro i o e l nm _ hb hl hcs hx
  obtain ⟨h0,c,hc,hd⟩:=hb
  refine ⟨_,_,(c.toList.drop o).take n,hx,by rw [hcs];simp;omega,by rw [hcs];exact denL_take (denL_drop hd _) _,fun j v hj=>?_⟩
  rw [List.getElem?_take] at hj
  split at hj
  ·rw [List.getElem?_drop] at hj
   rw [h0,Nat.zero_add,cell_of_row w nm.blk (o+j) c e (0,0) hc]
   simpa using hj
  ·cases hj
 cases p <;> simp only [cellsAt] at hc <;> try (cases hc;done)
 case ptr i o =>
  obtain ⟨nm,e,hx⟩:=hp
  split at hc <;> try (cases hc;done)
  rename_i e' l hmem
  split at hc <;> cases hc
  obtain ⟨_,hb,_⟩:=hm.get (by simp [hmem,Blk.isUnk]) e
  rw [hmem] at hb
  exact fromCells i o e' l nm e hb (by assumption) rfl hx
 case elt i size k j =>
  obtain ⟨nm,e,hx⟩:=hp
  split at hc <;> try (cases hc;done)
  ·rename_i e' l hmem
   split at hc <;> cases hc
   obtain ⟨_,hb,_⟩:=hm.get (by simp [hmem,Blk.isUnk]) e
   rw [hmem] at hb
   exact fromCells i _ e' l nm e hb (by assumption) rfl hx
  ·rename_i e' sh m d hmem
   split at hc <;> try (cases hc;done)
   split at hc <;> cases hc
   rename_i hs hl
   obtain ⟨_,hb,_⟩:=hm.get (by simp [hmem,Blk.isUnk]) e
   rw [hmem] at hb
   subst hs
   exact fromElems i sh.length k j m (el sh d) nm e hb.2.2.2 (by rw [el_length];exact hl) (by simpa using hn) rfl hx
 case rp sh d k j =>
  split at hc <;> cases hc
  rename_i hl
  obtain ⟨b,o,rfl,hL⟩:=hp
  rw [kdE_iff] at hL
  obtain ⟨xs,hd,hg⟩:=list_of_at (ρ:=ρ) (g:=fun j'=>w.cell? ⟨b,o+j+j',none⟩) (cs:=((el sh d k).drop j).take n) fun j' sv hj'=>by
   rw [List.getElem?_take] at hj'
   split at hj'
   ·rw [List.getElem?_drop] at hj'
    obtain ⟨y,hy,hd⟩:=hL _ _ hj'
    exact ⟨y,by rw [Nat.add_assoc];exact hm.seal_ _ _ _ hy,hd⟩
   ·cases hj'
  exact ⟨_,_,xs,rfl,by simp [el_length];omega,hd,hg⟩
 case ra sh m d =>
  split at hc <;> cases hc
  rename_i hl
  obtain ⟨b,o,rfl,hL⟩:=hp
  have key:∀ m',m'≤m→∃ xs:List Value,xs.length=m' * sh.length∧SV.denL ρ ((List.range m').flatMap (el sh d)) xs∧∀ t u,xs[t]? = some u→w.cell? ⟨b,o+t,none⟩=some u:=by
   intro m'
   induction m' with
   | zero=>intro _;exact ⟨[],by simp,by simp [SV.denL],fun t u h=>by simp at h⟩
   | succ m' ih =>
    intro hle
    obtain ⟨xs,h1,h2,h3⟩:=ih (by omega)
    obtain ⟨ys,k1,k2⟩:=list_of_at (ρ:=ρ) (g:=fun t=>w.cell? ⟨b,o+m' * sh.length+t,none⟩) (cs:=el sh d m') fun t sv ht=>by
     obtain ⟨y,hy,hd⟩:=(kdE_iff.1 (hL m' (by omega))) t sv ht
     exact ⟨y,hm.seal_ _ _ _ hy,hd⟩
    refine ⟨xs ++ ys,?_,?_,fun t u ht=>?_⟩
    ·rw [List.length_append,h1,denL_length k1,el_length,Nat.succ_mul]
    ·rw [List.range_succ,List.flatMap_append]
     simp only [List.flatMap_cons,List.flatMap_nil,List.append_nil]
     exact denL_append h2 k1
    ·rw [List.getElem?_append] at ht
     split at ht
     ·exact h3 t u ht
     ·rename_i hge
      have:=k2 _ u ht
      rw [h1] at this hge
      rw [← this]
      congr 2
      omega
  obtain ⟨xs,h1,h2,h3⟩:=key m (Nat.le_refl _)
  exact ⟨b,o,xs,rfl,by rw [← denL_length h2,h1];exact hl.symm,h2,h3⟩
 case pix i o s m k j =>
  obtain ⟨nm,e,hx⟩:=hp
  split at hc <;> try (cases hc;done)
  rename_i e' l hmem
  split at hc <;> cases hc
  rename_i hh
  have hk:k<m:=by simpa using hn
  obtain ⟨_,hb,_⟩:=hm.get (by simp [hmem,Blk.isUnk]) e
  rw [hmem] at hb
  obtain ⟨h0,c,hcc,hd⟩:=hb
  have hsel:∀ q u,(selL l o s k j n)[q]? = some u→l[o+k * s+j+q]? = some u:=by
   intro q u hq
   unfold selL at hq
   rw [List.getElem?_map] at hq
   have hqn:q<n:=by
    cases hr:(List.range n)[q]? with
    | none=>rw [hr] at hq;cases hq
    | some _=>have:=(List.getElem?_eq_some_iff.1 hr).1;simpa using this
   rw [List.getElem?_range hqn] at hq
   obtain ⟨p,v,h1,h2,h3⟩:=homB_at hh hk hqn
   simp only [Option.map_some,h1,Option.some.injEq] at hq
   rw [selSV_eq h3 h2] at hq
   rw [h2,hq]
  obtain ⟨xs,hxs,hg⟩:=list_of_at (ρ:=ρ) (g:=fun q=>w.cell? ⟨nm.blk,nm.off+(o+k * s+j)+q,none⟩) (cs:=selL l o s k j n) fun q u hq=>by
   obtain ⟨y,hy,hdy⟩:=denL_get hd (hsel q u hq)
   refine ⟨y,?_,hdy⟩
   rw [h0,Nat.zero_add,cell_of_row w nm.blk _ c e' (0,0) hcc,← Array.getElem?_toList]
   exact hy
  exact ⟨_,_,xs,hx,by simp [selL],hxs,hg⟩
 case val v =>
  unfold glCells at hc
  split at hc <;> try (cases hc;done)
  split at hc <;> cases hc
  rename_i hn1
  obtain ⟨hon,rfl⟩:=hn1
  obtain ⟨b,es,c,g1,g2,g3⟩:=(Globs.hon hon ρ.gl).rs
  cases hp
  refine ⟨1,0,[.map (some b)],rfl,rfl,⟨⟨b,es,c,rfl,g2,g3⟩,trivial⟩,fun j v hj=>?_⟩
  cases j with
  | zero=>cases hj;exact hm.seal_.c 1 0 _ g1
  | succ j=>simp at hj
section runs
variable {P:Program}
def aggOf (P:Program) (t:TypeId):Option Bool :=
 match P.underlying t with
 | some (.struct _) | some (.array _ _)=>some true
 | some _=>some false
 | none=>none
def szOf (P:Program) (t:TypeId):Option Nat:=(P.info? t).map (·.size)
theorem run_isAgg {t:TypeId} {b:Bool} (h:aggOf P t=some b) (w:World):(isAgg t).run P w=.ok b w:=by
 unfold aggOf at h
 unfold isAgg
 rw [Sem.run_bind]
 split at h
 ·rename_i d hd;cases h;rw [run_underlying hd w];rfl
 ·rename_i n e hd;cases h;rw [run_underlying hd w];rfl
 ·rename_i d h1 h2 hd
  cases h
  rw [run_underlying hd w]
  cases d <;> first | rfl | exact (h1 _ rfl).elim | exact (h2 _ _ rfl).elim
 ·cases h
theorem run_szOf {t:TypeId} {n:Nat} (h:szOf P t=some n) (w:World):(sizeOf t).run P w=.ok n w:=by
 unfold szOf at h
 cases hi:P.info? t with
 | none=>simp [hi] at h
 | some i=>simp [hi] at h;simp [sizeOf,typeInfo,hi,h]
def xLoad (P:Program) (mem:Nat→Blk) (t:TypeId) (p:SV):Option OpRes :=
 match aggOf P t,szOf P t with
 | some true,some n=>match cellsAt mem p n with
  | some (cs,need)=>some { v:=.agg cs,need:=need }
  | none=>none
 | some false,_=>match cellsAt mem p 1 with
  | some ([c],need)=>some { v:=c,need:=need }
  | _=>none
 | _,_=>none
theorem run_xLoad {B:Nat} {M:List Nat} {ρ:Env} {mem:Nat→Blk} {w:World} (hm:MemDen B M ρ mem w) {t:TypeId} {p:SV} {r:OpRes} (h:xLoad P mem t p=some r) (hn:∀ b∈r.need,b=true) {x:Value} (hp:p.den ρ x) (off:Nat) :
  ∃ y,(Instr.loadAt t x).run P w=.ok y w∧OpPost ρ ρ off r w w y:=by
 unfold xLoad at h
 split at h
 ·rename_i n hagg hsz
  split at h <;> cases h
  rename_i cs need hc
  obtain ⟨b,o,xs,rfl,hl,hd,hr⟩:=cellsAt_den hm hc hn hp
  refine ⟨.agg xs.toArray,?_,OpPost.pure_ ⟨xs,rfl,hd⟩⟩
  have hlx:=denL_length hd
  have hload:(loadCells ⟨b,o,none⟩ n).run P w=.ok xs.toArray w:=by
   have:=run_loadCells_list (P:=P) w ⟨b,o,none⟩ xs (fun j v hv=>by rw [Addr.add_mid];exact hr j v hv)
   rwa [hlx,hl] at this
  simp [Instr.loadAt,Instr.sureAddr,loadVar,run_isAgg hagg,run_szOf hsz,hload]
 ·rename_i hagg
  split at h <;> cases h
  rename_i c need hc
  obtain ⟨b,o,xs,rfl,hl,hd,hr⟩:=cellsAt_den hm hc hn hp
  match xs,hd with
  | [y],⟨hy,_⟩ =>
   refine ⟨y,?_,OpPost.pure_ hy⟩
   have h0:=hr 0 y rfl
   simp only [Nat.add_zero] at h0
   simp [Instr.loadAt,Instr.sureAddr,loadVar,run_isAgg hagg,h0]
 ·cases h
end runs
end Go.Sy
namespace Go.Sy
set_option linter.unusedVariables false
set_option linter.unusedSimpArgs false
open Go.RowKit
set_option linter.unusedSectionVars false
variable [Globs]
section runs
variable {P:Program}
def Dat.upd (d:Dat) (k j:Nat) (cs:List SV):Dat where
 ii:=fun q c=>if q=k then (if j≤c then (match cs[c - j]? with | some (.int _ x)=>x | _=>d.ii q c) else d.ii q c) else d.ii q c
 ss:=fun q c=>if q=k then (if j≤c then (match cs[c - j]? with | some (.str x)=>x | _=>d.ss q c) else d.ss q c) else d.ss q c
 bb:=fun q c=>if q=k then (if j≤c then (match cs[c - j]? with | some (.bool x)=>x | _=>d.bb q c) else d.bb q c) else d.bb q c
 sn:=fun q c=>if q=k then (if j≤c then (match cs[c - j]? with | some (.ro _ n _)=>n | some (.rz _ i _ _)=>i | _=>d.sn q c) else d.sn q c) else d.sn q c
 sd:=fun q c=>if q=k then (if j≤c then (match cs[c - j]? with | some (.ro _ _ e)=>some e | some (.rp _ e _ _)=>some e | some (.mp _ e)=>some e | some (.rz _ _ _ e)=>some e | _=>d.sd q c) else d.sd q c) else d.sd q c
def chSV (b:Bool):SV→SV→SV
 | .int k x,.int _ y=>.int k (cond b x y)
 | .bool x,.bool y=>.bool (cond b x y)
 | .str x,.str y=>.str (cond b x y)
 | _,v=>v
def pixL (l:List SV) (o s m k j n:Nat) (cs:List SV):List SV:=(List.range l.length).map fun c=>match l[c]? with
 | some old=>(match Nat.ble o c&&(Nat.blt c (o+m * s)&&(Nat.ble j ((c - o) % s)&&Nat.blt ((c - o) % s) (j+n))) with
  | true=>(match cs[(c - o) % s - j]? with | some new=>chSV (Nat.beq ((c - o) / s) k) new old | none=>old)
  | false=>old)
 | none=>.any
def xStore (P:Program) (mem:Nat→Blk) (t:TypeId) (p v:SV):Option OpRes :=
 match szOf P t,v.cells? with
 | some n,some cs=>if cs.length=n∧cs.all SV.one=true then
   (match p with
   | .ptr i o=>match mem i with
    | .cells e l=>if o+n≤l.length then some { v:=.any,upds:=[(i,.cells e (over l o cs))] } else none
    | _=>none
   | .elt i size k j=>match mem i with
    | .cells e l=>if k * size+j+n≤l.length then some { v:=.any,upds:=[(i,.cells e (over l (k * size+j) cs))] } else none
    | .row e sh m d=>if sh.length=size∧j+n≤sh.length∧kdsB ((sh.drop j).take n) cs=true then some { v:=.any,upds:=[(i,.row e sh m (d.upd k j cs))],need:=[decide (k<m)] } else none
    | _=>none
   | .pix i o s m k j=>match mem i with
    | .cells e l=>if homB l o s m j n=true∧o+m * s≤l.length∧j+n≤s∧(List.range n).all (fun c=>match l[o+j+c]?,cs[c]? with | some p,some v=>likeSV p v | _,_=>false)=true then some { v:=.any,upds:=[(i,.cells e (pixL l o s m k j n cs))],need:=[decide (k<m)] } else none
    | _=>none
   | _=>none) else none
 | _,_=>none
theorem setCells_heap (b:Nat):∀ (vs:List Value) (o:Nat) (w:World) (c:Array Value) (e:TypeId) (fz:Nat × Nat),w.heap[b]? = some (.cells c e fz)→o+vs.length≤c.size →
  (w.setCells b o vs).heap[b]? = some (.cells ⟨over c.toList o vs⟩ e fz)∧(∀ k,k≠b→(w.setCells b o vs).heap[k]? = w.heap[k]?)∧(w.setCells b o vs).heap.size=w.heap.size∧(w.setCells b o vs).os=w.os∧(w.setCells b o vs).tape=w.tape∧(w.setCells b o vs).output=w.output
 | [],o,w,c,e,fz,h,_=>by
  refine ⟨?_,fun _ _=>rfl,rfl,rfl,rfl,rfl⟩
  simp only [over,List.append_nil,List.length_nil,Nat.add_zero,List.take_append_drop]
  exact h
 | v :: vs,o,w,c,e,fz,h,hl=>by
  have h1:(w.setCell ⟨b,o,none⟩ v).heap[b]? = some (.cells (c.setIfInBounds o v) e fz):=by
   simp [World.setCell,Array.getElem?_modify,h]
  obtain ⟨g1,g2,g3,g4,g5,g6⟩:=setCells_heap b vs (o+1) (w.setCell ⟨b,o,none⟩ v) (c.setIfInBounds o v) e fz h1 (by simp at hl ⊢;omega)
  refine ⟨?_,fun k hk=>?_,?_,g4,g5,g6⟩
  ·have:(w.setCells b o (v :: vs))=((w.setCell ⟨b,o,none⟩ v).setCells b (o+1) vs):=rfl
   rw [this,g1]
   congr 2
   congr 1
   simp only [over,List.length_cons,Array.toList_setIfInBounds]
   apply List.ext_getElem?
   intro q
   simp only [List.getElem?_append,List.getElem?_take,List.getElem?_drop,List.getElem?_set,List.length_take,List.length_append,List.length_set,Array.length_toList,List.length_cons]
   simp at hl
   grind
  ·exact (g2 k hk).trans (Below.heap_setCell _ _ _ _ (by exact hk))
  ·have:(w.setCell ⟨b,o,none⟩ v).heap.size=w.heap.size:=by simp [World.setCell]
   exact g3.trans this
theorem over_get {α:Type} {l vs:List α} {o:Nat} (h:o+vs.length≤l.length) (i:Nat):(over l o vs)[i]? = if o≤i∧i<o+vs.length then vs[i - o]? else l[i]?:=by
 simp only [over,List.getElem?_append,List.getElem?_take,List.getElem?_drop,List.length_take,List.length_append]
 grind
theorem over_length {α:Type} {l vs:List α} {o:Nat} (h:o+vs.length≤l.length):(over l o vs).length=l.length:=by
 simp [over];omega
theorem el_upd_other {sh:List Kd} {d:Dat} {k j q:Nat} {cs:List SV} (h:q≠k):el sh (d.upd k j cs) q=el sh d q:=by
 apply List.ext_getElem?
 intro c
 rw [el_get,el_get]
 cases hs:sh[c]? with
 | none=>rfl
 | some kd=>cases kd <;> simp [kdSV,Dat.upd,Dat.sub,h]
theorem el_upd_same {sh:List Kd} {d:Dat} {k j:Nat} {cs:List SV} (hl:j+cs.length≤sh.length) (h:kdsB ((sh.drop j).take cs.length) cs=true):el sh (d.upd k j cs) k=over (el sh d k) j cs:=by
 rw [kdsB_iff] at h
 have hlen:=el_length sh d k
 have ov:=fun c=>over_get (l:=el sh d k) (vs:=cs) (o:=j) (by omega) c
 have inside:∀ c,j≤c∧c<j+cs.length→∀ kd v,sh[c]? = some kd→cs[c - j]? = some v→kd.ok v=true:=fun c hc kd v hk hv=>h.2 (c - j) kd v (by
  rw [List.getElem?_take,if_pos (by omega),List.getElem?_drop];rw [show j+(c - j)=c by omega];exact hk) hv
 refine el_of ?_ (fun c v hc=>?_)
 ·rw [kdsB_iff]
  refine ⟨by rw [over_length (by omega),hlen],fun c kd v hk hv=>?_⟩
  rw [ov] at hv
  split at hv
  ·exact inside c (by assumption) kd v hk hv
  ·exact (kdsB_iff.1 (el_kds sh d k)).2 c kd v hk hv
 ·rw [ov] at hc
  split at hc
  ·rename_i hin
   cases v <;> simp [Dat.has,Dat.upd,Dat.sub,hin.1,hc]
  ·rename_i hin
   rw [el_get] at hc
   have hd:d.has k c v:=by
    cases hs:sh[c]? with
    | none=>rw [hs] at hc;cases hc
    | some kd=>rw [hs] at hc;cases hc;exact kdSV_has d k c kd
   have:j≤c→cs[c - j]? = none:=fun _=>by rw [List.getElem?_eq_none_iff];omega
   cases v <;> simp only [Dat.has,Dat.upd,Dat.sub,if_true] at hd ⊢
   all_goals
    by_cases hj:j≤c
    ·simp only [if_pos hj,this hj];exact hd
    ·simp only [if_neg hj];exact hd
theorem run_store_cells {w:World} {m:Nm} {c:Array Value} {e:TypeId} {o n:Nat} {t:TypeId} {y:Value} (hc:w.heap[m.blk]? = some (.cells c e (0,0))) (hsz:szOf P t=some n) (hl:y.cells.toList.length=n) (ho:o+n≤c.size)
  (h1:∀ v∈y.cells.toList,v.oneCell'=true):(Instr.storeAt t (.pointer (some ⟨m.blk,o,none⟩)) y).run P w=.ok () (w.setCells m.blk o y.cells.toList):=by
 have:=run_storeCells_cells (P:=P) m.blk o y.cells.toList 0 w
  (fun j hj=>by rw [cell_of_row w m.blk _ c e (0,0) hc];simp;omega)
  (fun j hj=>by simp [World.frozen?,hc]) h1
 simp only [Nat.add_zero] at this
 have hs:y.cells.size=n:=by simpa using hl
 simp [Instr.storeAt,Instr.sureAddr,storeVar,run_szOf hsz,hs,this]
theorem ch_like {p a b:SV} (h:likeSV p a=true) (k:likeSV p b=true):chSV true a b=a∧chSV false a b=b:=by
 cases p <;> cases a <;> simp [likeSV] at h <;> cases b <;> simp [likeSV] at k <;> simp [chSV]
 rw [← h,← k]
theorem pix_den {ρ:Env} {l cs:List SV} {xs ys:List Value} {o s m k j n:Nat} (hl:SV.denL ρ l xs) (hc:SV.denL ρ cs ys) (hn:cs.length=n) (hk:k<m) (hom:homB l o s m j n=true) (hfit:o+m * s≤l.length) (hj:j+n≤s) (hkd:∀ c,c<n→∃ p v,l[o+j+c]? = some p∧cs[c]? = some v∧likeSV p v=true) :
  SV.denL ρ (pixL l o s m k j n cs) (over xs (o+k * s+j) ys):=by
 have hlen:=denL_length hl
 have hlc:=denL_length hc
 have hks:(k+1) * s≤m * s:=Nat.mul_le_mul_right _ hk
 rw [Nat.succ_mul] at hks
 refine denL_of_get (by rw [over_length (by omega)];simp [pixL,hlen]) fun c v x hv hx=>?_
 rw [over_get (by omega),hlc,hn] at hx
 unfold pixL at hv
 rw [List.getElem?_map] at hv
 cases hr:(List.range l.length)[c]? with
 | none=>rw [hr] at hv;cases hv
 | some c' =>
  have hcl:c<l.length:=by have:=(List.getElem?_eq_some_iff.1 hr).1;simpa using this
  rw [List.getElem?_range hcl] at hv
  have hold:l[c]? = some l[c]:=List.getElem?_eq_getElem hcl
  obtain ⟨xo,hxo,hdo⟩:=denL_get hl hold
  simp only [Option.map_some,hold,Option.some.injEq] at hv
  have outside:¬ (o+k * s+j≤c∧c<o+k * s+j+n)→v=l[c]→v.den ρ x:=by
   intro ho e
   rw [if_neg ho,hxo] at hx
   cases hx
   rw [e];exact hdo
  split at hv
  ·rename_i hin
   simp only [Bool.and_eq_true] at hin
   have h1:o≤c:=by simpa using hin.1
   have h2:c<o+m * s:=by simpa using hin.2.1
   have h3:j≤(c - o) % s:=by simpa using hin.2.2.1
   have h4:(c - o) % s<j+n:=by simpa using hin.2.2.2
   have hs:0<s:=by omega
   have hdm:(c - o) / s * s+(c - o) % s=c - o:=by rw [Nat.mul_comm];exact Nat.div_add_mod _ _
   have hq:(c - o) / s<m:=Nat.div_lt_of_lt_mul (by rw [Nat.mul_comm];omega)
   obtain ⟨p,u,hp1,hp2,hp3⟩:=homB_at hom hq (c:=(c - o) % s - j) (by omega)
   obtain ⟨p',u',hp1',hp2',hp3'⟩:=hkd ((c - o) % s - j) (by omega)
   rw [hp1] at hp1';cases hp1'
   rw [hp2'] at hv
   simp only at hv
   have hcu:l[c]=u:=by
    have:o+(c - o) / s * s+j+((c - o) % s - j)=c:=by omega
    rw [this,hold] at hp2;cases hp2;rfl
   rw [hcu] at hv
   obtain ⟨e1,e2⟩:=ch_like hp3' hp3
   by_cases hqk:(c - o) / s=k
   ·rw [hqk] at hdm
    rw [hqk,Nat.beq_refl,e1] at hv
    rw [if_pos (by omega)] at hx
    obtain ⟨y,hy,hdy⟩:=denL_get hc hp2'
    have:c - (o+k * s+j)=(c - o) % s - j:=by omega
    rw [this,hy] at hx
    cases hx
    rw [← hv];exact hdy
   ·have hb:Nat.beq ((c - o) / s) k=false:=by
     cases h:Nat.beq ((c - o) / s) k with
     | false=>rfl
     | true=>rw [Nat.beq_eq] at h;exact absurd h hqk
    rw [hb,e2] at hv
    refine outside (fun hh=>hqk ?_) (by rw [← hv,hcu])
    refine Nat.div_eq_of_lt_le ?_ ?_
    ·omega
    ·rw [Nat.succ_mul];omega
  ·rename_i hin
   refine outside (fun hh=>?_) hv.symm
   have hs:0<s:=by omega
   have hmod:(c - o) % s=c - (o+k * s):=by
    have:c - o=c - (o+k * s)+k * s:=by omega
    rw [this,Nat.add_mul_mod_self_right,Nat.mod_eq_of_lt (by omega)]
   have hcond:(Nat.ble o c&&(Nat.blt c (o+m * s)&&(Nat.ble j ((c - o) % s)&&Nat.blt ((c - o) % s) (j+n))))=true:=by
    simp only [Bool.and_eq_true,Nat.ble_eq,Nat.blt_eq,hmod]
    omega
   rw [hcond] at hin
   cases hin
theorem run_xStore {B:Nat} {M:List Nat} {ρ:Env} {mem:Nat→Blk} {w:World} (hm:MemDen B M ρ mem w) {t:TypeId} {p v:SV} {r:OpRes} (h:xStore P mem t p v=some r) (hn:∀ b∈r.need,b=true) {x y:Value} (hp:p.den ρ x) (hv:v.den ρ y) (off:Nat) :
  ∃ w',(Instr.storeAt t x y).run P w=.ok () w'∧OpPost ρ ρ off r w w' undef:=by
 unfold xStore at h
 split at h <;> try (cases h;done)
 rename_i n cs hsz hcs
 split at h <;> try (cases h;done)
 rename_i hcond
 obtain ⟨hlen,hone⟩:=hcond
 have hd:=cells?_den hv hcs
 have hly:y.cells.toList.length=n:=by rw [denL_length hd,hlen]
 have h1:=one_denL hd hone
 have post:∀ (i e:Nat) (m:Nm) (c:Array Value) (o:Nat) (b':Blk) (need:List Bool),ρ i=some m→(mem i).mine=true→w.heap[m.blk]? = some (.cells c e (0,0))→o+n≤c.size →
   (b'.den ρ (w.setCells m.blk o y.cells.toList) m)→OpPost ρ ρ off { v:=.any,upds:=[(i,b')],need:=need } w (w.setCells m.blk o y.cells.toList) undef:=by
  intro i e m c o b' need hi hmine hc ho hb
  obtain ⟨g1,g2,g3,g4,g5,g6⟩:=setCells_heap m.blk y.cells.toList o w c e (0,0) hc (by rw [hly];exact ho)
  refine ⟨trivial,Ext.refl _,fun _ _=>rfl,g4,g5,g6,by rw [g3];exact Nat.le_refl _,fun b _ hu=>g2 b fun e'=>hu (i,b') (by simp) m hi e'.symm,⟨fun _ _ _ h=>.inl h,fun _ _ h=>.inl h,rfl⟩,fun u hu _=>?_,fun _ _ hj=>by simp at hj,fun _ _ _ _ _ _ _ hj=>by simp at hj⟩
  simp at hu
  subst hu
  exact ⟨fun m' hm'=>by rw [hi] at hm';cases hm';exact hb,fun hn=>by rw [hi] at hn;cases hn⟩
 have cellsCase:∀ (i e:Nat) (l:List SV) (o:Nat),mem i=.cells e l→o+n≤l.length→(∃ m,ρ i=some m∧x=.pointer (some ⟨m.blk,m.off+o,none⟩)) →
   r={ v:=.any,upds:=[(i,.cells e (over l o cs))] }→∃ w',(Instr.storeAt t x y).run P w=.ok () w'∧OpPost ρ ρ off r w w' undef:=by
  rintro i e l o hmem ho ⟨m,hi,rfl⟩ rfl
  obtain ⟨_,hb,_⟩:=hm.get (by simp [hmem,Blk.isUnk]) hi
  rw [hmem] at hb
  obtain ⟨h0,c,hc,hd'⟩:=hb
  have hcl:c.size=l.length:=by simpa using denL_length hd'
  refine ⟨_,by rw [h0,Nat.zero_add];exact run_store_cells hc hsz hly (by omega) h1,?_⟩
  refine post i e m c o _ _ hi (by simp [hmem,Blk.mine]) hc (by omega) ⟨h0,_,(setCells_heap m.blk y.cells.toList o w c e (0,0) hc (by rw [hly];omega)).1,?_⟩
  exact denL_over hd' hd o
 split at h
 ·rename_i i o
  split at h <;> try (cases h;done)
  rename_i e l hmem
  split at h <;> cases h
  exact cellsCase i e l o hmem (by assumption) hp rfl
 ·rename_i i size k j
  split at h <;> try (cases h;done)
  ·rename_i e l hmem
   split at h <;> cases h
   exact cellsCase i e l _ hmem (by assumption) hp rfl
  ·rename_i e sh m d hmem
   split at h <;> cases h
   rename_i hs
   obtain ⟨rfl,hjn,hkd⟩:=hs
   simp only [List.mem_singleton,forall_eq,decide_eq_true_eq] at hn
   obtain ⟨nm,hi,rfl⟩:=hp
   obtain ⟨_,hb,_⟩:=hm.get (by simp [hmem,Blk.isUnk]) hi
   rw [hmem] at hb
   obtain ⟨h0,hcap,⟨c,hc,hcs',hmx⟩,hel⟩:=hb
   have hks:(k+1) * sh.length≤nm.cap * sh.length:=Nat.mul_le_mul_right _ (by omega)
   have hks':(k+1) * sh.length=k * sh.length+sh.length:=Nat.succ_mul k sh.length
   have hfit:k * sh.length+j+n≤c.size:=by omega
   have hheap:=(setCells_heap nm.blk y.cells.toList (k * sh.length+j) w c e (0,0) hc (by rw [hly];omega)).1
   refine ⟨_,by rw [h0,Nat.zero_add];exact run_store_cells hc hsz hly hfit h1,?_⟩
   have hsizes:(over c.toList (k * sh.length+j) y.cells.toList).length=c.size:=by rw [over_length (by rw [hly];simpa using hfit)];simp
   refine post i e nm c (k * sh.length+j) _ _ hi (by simp [hmem,Blk.mine]) hc hfit ⟨h0,hcap,⟨_,hheap,by simpa [hsizes] using hcs',hmx⟩,fun q hq=>⟨el_length _ _ _,?_⟩⟩
   have hcell:∀ o',(w.setCells nm.blk (k * sh.length+j) y.cells.toList).cell? ⟨nm.blk,o',none⟩=if k * sh.length+j≤o'∧o'<k * sh.length+j+n then y.cells.toList[o' - (k * sh.length+j)]? else w.cell? ⟨nm.blk,o',none⟩:=by
    intro o'
    rw [cell_of_row _ nm.blk o' _ e (0,0) hheap,cell_of_row w nm.blk o' c e (0,0) hc]
    have:=over_get (l:=c.toList) (vs:=y.cells.toList) (o:=k * sh.length+j) (by rw [hly];simpa using hfit) o'
    rw [hly] at this
    simpa using this
   by_cases hqk:q=k
   ·subst hqk
    rw [el_upd_same (by omega) (by rw [hlen];exact hkd)]
    intro j' sv hj'
    rw [over_get (by rw [el_length];omega),hlen] at hj'
    rw [h0,Nat.zero_add,hcell]
    by_cases hin:j≤j'∧j'<j+n
    ·rw [if_pos hin] at hj'
     rw [if_pos (by omega)]
     obtain ⟨z,hz,hdz⟩:=denL_get hd hj'
     exact ⟨z,by rw [← hz];congr 1;omega,hdz⟩
    ·rw [if_neg hin] at hj'
     rw [if_neg (by omega)]
     have:=(hel q hq).2 j' sv hj'
     rwa [h0,Nat.zero_add] at this
   ·rw [el_upd_other hqk]
    intro j' sv hj'
    have hjl:j'<sh.length:=by have:=(List.getElem?_eq_some_iff.1 hj').1;rw [el_length] at this;exact this
    rw [h0,Nat.zero_add,hcell]
    have hout:¬ (k * sh.length+j≤q * sh.length+j'∧q * sh.length+j'<k * sh.length+j+n):=by
     rintro ⟨ha,hb⟩
     rcases Nat.lt_or_gt_of_ne hqk with hlt | hlt
     ·have:(q+1) * sh.length≤k * sh.length:=Nat.mul_le_mul_right _ (by omega)
      rw [Nat.succ_mul] at this
      omega
     ·have:(k+1) * sh.length≤q * sh.length:=Nat.mul_le_mul_right _ (by omega)
      omega
    rw [if_neg hout]
    have:=(hel q hq).2 j' sv hj'
    rwa [h0,Nat.zero_add] at this
 ·rename_i i o s m k j
  split at h <;> try (cases h;done)
  rename_i e l hmem
  split at h <;> cases h
  rename_i hcond
  obtain ⟨hom,hfit,hj,hall⟩:=hcond
  have hkm:k<m:=by simpa using hn
  obtain ⟨nm,hi,rfl⟩:=hp
  obtain ⟨_,hb,_⟩:=hm.get (by simp [hmem,Blk.isUnk]) hi
  rw [hmem] at hb
  obtain ⟨h0,c,hc,hd'⟩:=hb
  have hcl:c.size=l.length:=by simpa using denL_length hd'
  have hks:(k+1) * s≤m * s:=Nat.mul_le_mul_right _ hkm
  rw [Nat.succ_mul] at hks
  have hfit':o+k * s+j+n≤c.size:=by omega
  refine ⟨_,by rw [h0,Nat.zero_add];exact run_store_cells hc hsz hly hfit' h1,?_⟩
  refine post i e nm c (o+k * s+j) _ _ hi (by simp [hmem,Blk.mine]) hc hfit' ⟨h0,_,(setCells_heap nm.blk y.cells.toList (o+k * s+j) w c e (0,0) hc (by rw [hly];omega)).1,?_⟩
  refine pix_den hd' hd hlen hkm hom hfit hj fun q hq=>?_
  have:=List.all_eq_true.1 hall q (List.mem_range.2 hq)
  split at this
  ·exact ⟨_,_,by assumption,by assumption,this⟩
  ·cases this
 ·cases h
end runs
end Go.Sy
