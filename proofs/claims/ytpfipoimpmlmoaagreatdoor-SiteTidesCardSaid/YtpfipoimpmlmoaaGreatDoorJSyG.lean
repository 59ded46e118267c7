/-
 A symbolic executor for the model's code, part G: one operation as a whole. Conditions: none.
-/
import Derived.Test.YtpfipoimpmlmoaaGreatDoorJSyF
namespace Go.Sy
set_option linter.unusedVariables false
set_option linter.unusedSimpArgs false
open Go.RowKit
section runs
variable {P:Program}
abbrev Ctr:=Nat→(Nat→Blk)→List SV→Option OpRes
def OpRes.need_ok (r:OpRes):Prop:=∀ b∈r.need,b=true
def CtrOk (P:Program) (g:Ctr) (f:FuncId):Prop :=
 (∃ fn,P.funcs[f]? = some fn∧fn.body.isSome=true∧(fn.name == "runtime.NumGoroutine")=false) ∧
 ∀ B M ρ mem off args r,g off mem args=some r→r.need_ok→r.fits mem off→∀ xs w,SV.denL ρ args xs→MemDen B M ρ mem w→B≤w.heap.size→(∀ j,j<r.news.length→ρ (off+j)=none) →
  Calls P f ⟨xs⟩ w fun e w'=>∃ x ρ',e=.returned x∧OpPost ρ ρ' off r w w' x
structure Gam where
 c:Nat→Option Ctr
 pix:Bool
def GamOk (P:Program) (Γ:Gam):Prop:=∀ f g,Γ.c f=some g→CtrOk P g f
def datS (out:List SV) (s:Nat):Dat:={ ii:=fun k c=>intAt ((out.drop (k * s)).take s) c,ss:=fun k c=>strAt ((out.drop (k * s)).take s) c,bb:=fun k c=>boolAt ((out.drop (k * s)).take s) c,sn:=fun k c=>slnAt ((out.drop (k * s)).take s) c,sd:=fun k c=>sldAt ((out.drop (k * s)).take s) c }
theorem el_datS {out:List SV} {s:Nat} {sh:List Kd} {k:Nat} (h:kdsB sh ((out.drop (k * s)).take s)=true):el sh (datS out s) k=(out.drop (k * s)).take s :=
 el_of h fun c v hc=>by cases v <;> simp [Dat.has,datS,Dat.sub,intAt,boolAt,strAt,slnAt,sldAt,hc]
def fitN (sh:List Kd):Nat→List SV→List SV
 | 0,cs=>cs
 | n+1,cs=>fitL sh (cs.take sh.length) ++ fitN sh n (cs.drop sh.length)
theorem fitN_length (sh:List Kd):∀ (n:Nat) (cs:List SV),(fitN sh n cs).length=cs.length
 | 0,_=>rfl
 | n+1,cs=>by simp [fitN,fitL_length,fitN_length sh n];omega
theorem fitN_den {ρ:Env} {sh:List Kd}:∀ (n:Nat) {cs:List SV} {xs:List Value},SV.denL ρ cs xs→SV.denL ρ (fitN sh n cs) xs
 | 0,_,_,h=>h
 | n+1,cs,xs,h=>by
  have:=denL_append (fitL_den (sh:=sh) (denL_take h sh.length)) (fitN_den (sh:=sh) n (denL_drop h sh.length))
  rwa [List.take_append_drop] at this
def xBuildSlice (P:Program) (off:Nat) (t:TypeId) (n:Nat) (ps:List (Nat × SV)):Option OpRes :=
 match P.underlying t with
 | some (.slice e)=>match szOf P e,zeroOf P e with
  | some s,some z=>if n * s≤16777216∧z.cells.size=s∧0<s then match sfill (fun i=>some (i * s,s)) ((List.range n).flatMap fun _=>z.cells.toList.map zv1) ps with
    | some out=>match kdT P 8 e with
     | some sh=>match sh.length == s&&out.length == n * s&&(List.range n).all (fun k=>kdsB sh (((fitN sh n out).drop (k * s)).take s)) with
      | true=>some { v:=.own off s n,news:=[.row e sh n (datS (fitN sh n out) s)] }
      | false=>some { v:=.slc off s 0 n,news:=[.cells e out] }
     | none=>some { v:=.slc off s 0 n,news:=[.cells e out] }
    | none=>none
   else none
  | _,_=>none
 | _=>none
theorem zeros_denL {ρ:Env} (z:Array Value):∀ n,SV.denL ρ ((List.range n).flatMap fun _=>z.toList.map zv1) ((List.range n).flatMap fun _=>z.toList)
 | 0=>trivial
 | n+1=>by
  rw [List.range_succ,List.flatMap_append,List.flatMap_append]
  refine denL_append (zeros_denL z n) ?_
  simp only [List.flatMap_cons,List.flatMap_nil,List.append_nil]
  exact zv1_denL ρ _
theorem zeros_eq (z:Array Value) (hz:0<z.size):∀ n,(Array.range (n * z.size)).map (z[· % z.size]!)=⟨(List.range n).flatMap fun _=>z.toList⟩
 | 0=>by simp
 | n+1=>by
  have ih:=zeros_eq z hz n
  rw [List.range_succ,List.flatMap_append]
  apply Array.toList_inj.1
  have h2:=congrArg Array.toList ih
  simp only [Array.toList_map,Array.toList_range] at h2 ⊢
  rw [Nat.succ_mul,List.range_add,List.map_append,h2]
  congr 1
  simp only [List.flatMap_cons,List.flatMap_nil,List.append_nil,List.map_map]
  apply List.ext_getElem (by simp)
  intro i h1 h2
  simp at h1
  simp [Nat.mod_eq_of_lt h1,Nat.add_mod,h1]
theorem run_xBuildSlice {ρ:Env} {w:World} {off:Nat} {t:TypeId} {n:Nat} {ps:List (Nat × SV)} {r:OpRes} (h:xBuildSlice P off t n ps=some r) {xs:Array (Nat × Value)} (hp:vpairs ρ ps xs.toList) (hf:ρ off=none) (hod:∀ b o v,ρ.od b o=some v→b<w.heap.size) :
  ∃ y w' ρ',(Instr.buildSlice t n xs).run P w=.ok y w'∧OpPost ρ ρ' off r w w' y:=by
 unfold xBuildSlice at h
 split at h <;> try (cases h;done)
 rename_i e hu
 split at h <;> try (cases h;done)
 rename_i s z hs hz
 split at h <;> try (cases h;done)
 rename_i hc
 obtain ⟨hsz,hzs,hpos⟩:=hc
 split at h <;> try (cases h;done)
 rename_i out hout
 obtain ⟨ys,hys,hd⟩:=fill_den hp (cs:=⟨(List.range n).flatMap fun _=>z.cells.toList⟩) (zeros_denL z.cells n) hout
 have hrun:(Instr.buildSlice t n xs).run P w=.ok (.slice (some ⟨w.heap.size,0,none⟩) n n) (w.alloc (.cells ys e)):=by
  have h24:¬ (n * s > 2 ^ 24):=by omega
  unfold Instr.buildSlice
  simp only [Sem.run_bind,run_underlying hu,Result.andThen_ok,run_szOf hs,if_neg h24]
  by_cases h0:n * s=0
  ·have hn:n=0:=by
    rcases Nat.mul_eq_zero.1 h0 with h | h
    ·exact h
    ·omega
   have hE:∀ f:Nat→Value,(Array.range (n * s)).map f=⟨(List.range n).flatMap fun _=>z.cells.toList⟩:=by
    intro f;subst hn;simp
   simp only [if_pos h0,hE,hys]
   simp [newRow]
  ·have hb:(Array.range (n * s)).map (fun x=>z.cells[x % z.cells.size]!)=⟨(List.range n).flatMap fun _=>z.cells.toList⟩:=by
    rw [← hzs]
    exact zeros_eq z.cells (by omega) n
   simp only [if_neg h0,Sem.run_bind,run_zeroOf hz,Result.andThen_ok,Sem.run_pure,hb,hys]
   simp [newRow]
 have plain:∀ r:OpRes,r={ v:=.slc off s 0 n,news:=[.cells e out] }→∃ y w' ρ',(Instr.buildSlice t n xs).run P w=.ok y w'∧OpPost ρ ρ' off r w w' y:=by
  rintro r rfl
  refine ⟨_,_,_,hrun,OpPost.alloc (cap:=n) (b:=.cells e out) hf rfl hod ⟨rfl,_,heap_alloc_new w _,SV.denL_mono (Env.set_ext hf) _ _ hd⟩ ⟨_,_,rfl,⟨Nat.le_refl _,fun h=>by cases h⟩,fun _=>⟨_,Env.set_same _ _ _,by simp⟩⟩⟩
 split at h
 ·rename_i sh hsh
  split at h
  ·rename_i hc2
   cases h
   simp only [Bool.and_eq_true,beq_iff_eq] at hc2
   obtain ⟨⟨hshl,hol⟩,hall⟩:=hc2
   have hkds:∀ k,k<n→kdsB sh (((fitN sh n out).drop (k * s)).take s)=true:=fun k hk=>(List.all_eq_true.1 hall) k (List.mem_range.2 hk)
   have hd:=fitN_den (sh:=sh) n hd
   have hysz:ys.size=n * s:=by have:=denL_length hd;simp [fitN_length] at this;omega
   have hel:Elems (ρ.set off ⟨w.heap.size,0,n⟩) (w.alloc (.cells ys e)) ⟨w.heap.size,0,n⟩ sh.length n (el sh (datS (fitN sh n out) s)):=by
    intro k hk
    rw [el_datS (hkds k hk),hshl]
    have hks:(k+1) * s≤n * s:=Nat.mul_le_mul_right _ (by omega)
    rw [Nat.succ_mul] at hks
    refine ⟨by simp [fitN_length];omega,fun j v hj=>?_⟩
    rw [List.getElem?_take] at hj
    split at hj <;> try (cases hj;done)
    rw [List.getElem?_drop] at hj
    obtain ⟨y,hy,hdy⟩:=denL_get hd hj
    refine ⟨y,?_,SV.den_mono (Env.set_ext hf) _ _ hdy⟩
    rw [Nat.zero_add,cell_of_row _ w.heap.size _ _ e (0,0) (heap_alloc_new w _)]
    simpa using hy
   have hn:n≤maxLen:=by
    have:n * 1≤n * s:=Nat.mul_le_mul_left _ hpos
    unfold maxLen;omega
   exact ⟨_,_,_,hrun,OpPost.alloc (cap:=n) (b:=.row e sh n _) hf rfl hod ⟨rfl,Nat.le_refl _,⟨_,heap_alloc_new w _,by rw [hshl];exact hysz,hn⟩,hel⟩ ⟨_,Env.set_same _ _ _,rfl,Nat.le_refl _,rfl⟩⟩
  ·cases h;exact plain _ rfl
 ·cases h;exact plain _ rfl
def cSeal:Ctr:=fun _ _ _=>none
theorem seal_ok {f:FuncId} {fn:Func} (h:P.funcs[f]? = some fn) (hb:fn.body.isSome=true) (hn:(fn.name == "runtime.NumGoroutine")=false):CtrOk P cSeal f:=⟨⟨fn,h,hb,hn⟩,fun _ _ _ _ _ _ _ h=>by cases h⟩
def xBuildRo (P:Program) (t:TypeId) (n:Nat) (ps:List (Nat × SV)):Option OpRes :=
 match P.underlying t with
 | some (.slice e)=>match szOf P e,zeroOf P e with
  | some s,some z=>if n * s≤16777216∧z.cells.size=s∧0<s then match sfill (fun i=>some (i * s,s)) ((List.range n).flatMap fun _=>z.cells.toList.map zv1) ps with
    | some out=>match kdT P 8 e with
     | some sh=>match sh.length == s&&out.length == n * s&&(List.range n).all (fun k=>kdsB sh (((fitN sh n out).drop (k * s)).take s)) with
      | true=>some { v:=.ro sh n (datS (fitN sh n out) s) }
      | false=>none
     | none=>none
    | none=>none
   else none
  | _,_=>none
 | _=>none
theorem run_xBuildRo {ρ:Env} {w:World} {off:Nat} {t:TypeId} {n:Nat} {ps:List (Nat × SV)} {r:OpRes} (h:xBuildRo P t n ps=some r) {xs:Array (Nat × Value)} (hp:vpairs ρ ps xs.toList) (hod:∀ b o v,ρ.od b o=some v→b<w.heap.size) :
  ∃ y w' ρ',(Instr.buildSlice t n xs).run P w=.ok y w'∧OpPost ρ ρ' off r w w' y:=by
 unfold xBuildRo at h
 split at h <;> try (cases h;done)
 rename_i e hu
 split at h <;> try (cases h;done)
 rename_i s z hs hz
 split at h <;> try (cases h;done)
 rename_i hc
 obtain ⟨hsz,hzs,hpos⟩:=hc
 split at h <;> try (cases h;done)
 rename_i out hout
 obtain ⟨ys,hys,hd⟩:=fill_den hp (cs:=⟨(List.range n).flatMap fun _=>z.cells.toList⟩) (zeros_denL z.cells n) hout
 have hrun:(Instr.buildSlice t n xs).run P w=.ok (.slice (some ⟨w.heap.size,0,none⟩) n n) (w.alloc (.cells ys e)):=by
  have h24:¬ (n * s > 2 ^ 24):=by omega
  unfold Instr.buildSlice
  simp only [Sem.run_bind,run_underlying hu,Result.andThen_ok,run_szOf hs,if_neg h24]
  by_cases h0:n * s=0
  ·have hn:n=0:=by
    rcases Nat.mul_eq_zero.1 h0 with h | h
    ·exact h
    ·omega
   have hE:∀ f:Nat→Value,(Array.range (n * s)).map f=⟨(List.range n).flatMap fun _=>z.cells.toList⟩:=by
    intro f;subst hn;simp
   simp only [if_pos h0,hE,hys]
   simp [newRow]
  ·have hb:(Array.range (n * s)).map (fun x=>z.cells[x % z.cells.size]!)=⟨(List.range n).flatMap fun _=>z.cells.toList⟩:=by
    rw [← hzs]
    exact zeros_eq z.cells (by omega) n
   simp only [if_neg h0,Sem.run_bind,run_zeroOf hz,Result.andThen_ok,Sem.run_pure,hb,hys]
   simp [newRow]
 split at h <;> try (cases h;done)
 rename_i sh hsh
 split at h <;> try (cases h;done)
 rename_i hc2
 cases h
 simp only [Bool.and_eq_true,beq_iff_eq] at hc2
 obtain ⟨⟨hshl,hol⟩,hall⟩:=hc2
 have hkds:∀ k,k<n→kdsB sh (((fitN sh n out).drop (k * s)).take s)=true:=fun k hk=>(List.all_eq_true.1 hall) k (List.mem_range.2 hk)
 have hd:=fitN_den (sh:=sh) n hd
 have hodE:OdExt ρ.od ⟨fun b o=>if b=w.heap.size then (w.alloc (.cells ys e)).cell? ⟨b,o,none⟩ else ρ.od b o,ρ.od.m,ρ.od.p⟩:=OdExt.ofC fun b o v hb=>by
  have:=hod b o v hb
  have hne:b≠w.heap.size:=by omega
  simp only [if_neg hne,hb]
 have hE:Ext ρ ⟨ρ.nm,⟨fun b o=>if b=w.heap.size then (w.alloc (.cells ys e)).cell? ⟨b,o,none⟩ else ρ.od b o,ρ.od.m,ρ.od.p⟩,ρ.gl.ext hodE⟩:=⟨fun i m hm=>hm,hodE⟩
 refine ⟨_,_,⟨ρ.nm,⟨fun b o=>if b=w.heap.size then (w.alloc (.cells ys e)).cell? ⟨b,o,none⟩ else ρ.od b o,ρ.od.m,ρ.od.p⟩,ρ.gl.ext hodE⟩,hrun,?_⟩
 refine ⟨?_,hE,fun _ _=>rfl,rfl,rfl,rfl,by simp,fun b hb _=>Below.heap_alloc _ _ _ hb,.ofC fun b o v hb=>?_,fun _ hu=>by simp at hu,fun _ _ hj=>by simp at hj,fun _ _ _ _ _ _ _ hj=>by simp at hj⟩
 ·simp only [SV.den]
  refine ⟨_,_,rfl,⟨Nat.le_refl _,fun hz=>by cases hz⟩,fun h0=>⟨w.heap.size,0,rfl,fun q hq=>?_⟩⟩
  refine (kdE_iff (ρ:=⟨ρ.nm,⟨fun b o=>if b=w.heap.size then (w.alloc (.cells ys e)).cell? ⟨b,o,none⟩ else ρ.od b o,ρ.od.m,ρ.od.p⟩,ρ.gl.ext hodE⟩)).2 fun j v hj=>?_
  rw [el_datS (hkds q hq),List.getElem?_take] at hj
  split at hj <;> try (cases hj;done)
  rw [List.getElem?_drop] at hj
  obtain ⟨y,hy,hdy⟩:=denL_get hd hj
  refine ⟨y,?_,SV.den_mono hE _ _ hdy⟩
  simp only [if_true]
  rw [cell_of_row _ w.heap.size _ _ e (0,0) (heap_alloc_new w _),hshl]
  simpa using hy
 ·by_cases hb':b=w.heap.size
  ·subst hb'
   simp only [if_true] at hb
   exact Or.inr ⟨hb,Nat.le_refl _⟩
  ·simp only [if_neg hb'] at hb
   exact Or.inl hb
def xBuildEmp (P:Program) (t:TypeId) (ps:List (Nat × SV)):Option OpRes :=
 match P.underlying t,ps with
 | some (.slice e),[]=>match szOf P e,zeroOf P e with
  | some _,some _=>some { v:=.emp }
  | _,_=>none
 | _,_=>none
theorem run_xBuildEmp {ρ:Env} {w:World} {off:Nat} {t:TypeId} {ps:List (Nat × SV)} {r:OpRes} (h:xBuildEmp P t ps=some r) {xs:Array (Nat × Value)} (hp:vpairs ρ ps xs.toList) :
  ∃ y w',(Instr.buildSlice t 0 xs).run P w=.ok y w'∧OpPost ρ ρ off r w w' y:=by
 unfold xBuildEmp at h
 split at h <;> try (cases h;done)
 rename_i e hu
 split at h <;> cases h
 rename_i s z hs hz
 have hx:xs=#[]:=by
  cases xs with
  | mk l=>cases l with
   | nil=>rfl
   | cons a l=>exact hp.elim
 subst hx
 refine ⟨.slice (some ⟨w.heap.size,0,none⟩) 0 0,w.alloc (.cells #[] e),?_,⟨_,rfl⟩,Ext.refl _,fun _ _=>rfl,rfl,rfl,rfl,by simp,fun b hb _=>Below.heap_alloc _ _ _ hb,⟨fun b o v hb=>.inl hb,fun _ _ h=>.inl h,rfl⟩,fun _ hu=>by simp at hu,fun _ _ hj=>by simp at hj,fun _ _ _ _ _ _ _ hj=>by simp at hj⟩
 unfold Instr.buildSlice
 simp only [Sem.run_bind,run_underlying hu,Result.andThen_ok,run_szOf hs]
 simp [newRow,Instr.fill,show Array.range 0=#[] from rfl]
def xLen (P:Program) (t:TypeId) (v:SV):Option OpRes :=
 match P.underlying t,v with
 | some .string,.str s=>some { v:=.int .i64 s.size }
 | some (.slice _),.slc _ _ _ n=>some { v:=.int .i64 n }
 | some (.slice _),.own _ _ n=>some { v:=.int .i64 n }
 | some (.slice _),.nsl=>some { v:=.int .i64 0 }
 | some (.slice _),.gr _ _ n=>some { v:=.int .i64 n }
 | some (.slice _),.ro _ n _=>some { v:=.int .i64 n }
 | some (.array n _),_=>some { v:=.int .i64 n }
 | _,_=>none
theorem run_xLen {ρ:Env} {w:World} {t:TypeId} {v:SV} {r:OpRes} (h:xLen P t v=some r) {x:Value} (hv:v.den ρ x) (ty:TypeId) (off:Nat) :
  ∃ y,(Builtin.len_ #[t] ty #[x]).run P w=.ok y w∧OpPost ρ ρ off r w w y:=by
 unfold xLen at h
 split at h <;> cases h
 ·rename_i s hu;cases hv
  exact ⟨.int .i64 s.size,by simp [Builtin.len_,run_underlying hu,goInt],OpPost.pure_ rfl⟩
 ·rename_i e i size k n hu;obtain ⟨A,c,rfl,_⟩:=hv
  exact ⟨.int .i64 n,by simp [Builtin.len_,run_underlying hu,goInt],OpPost.pure_ rfl⟩
 ·rename_i e i size n hu;obtain ⟨m,_,_,_,rfl⟩:=hv
  exact ⟨.int .i64 n,by simp [Builtin.len_,run_underlying hu,goInt],OpPost.pure_ rfl⟩
 ·rename_i e hu;cases hv
  exact ⟨.int .i64 0,by simp [Builtin.len_,run_underlying hu,goInt],OpPost.pure_ rfl⟩
 ·rename_i e i size n hu
  rcases hv with ⟨rfl,A,rfl⟩ | ⟨m,_,_,_,rfl⟩
  ·exact ⟨.int .i64 0,by simp [Builtin.len_,run_underlying hu,goInt],OpPost.pure_ rfl⟩
  ·exact ⟨.int .i64 n,by simp [Builtin.len_,run_underlying hu,goInt],OpPost.pure_ rfl⟩
 ·rename_i e sh n d hu;obtain ⟨A,c,rfl,_⟩:=hv
  exact ⟨.int .i64 n,by simp [Builtin.len_,run_underlying hu,goInt],OpPost.pure_ rfl⟩
 ·rename_i n e hu
  exact ⟨.int .i64 n,by simp [Builtin.len_,run_underlying hu,goInt],OpPost.pure_ rfl⟩
def imax (a b:Int):Int:=if a<b then b else a
def imin (a b:Int):Int:=if b<a then b else a
def xMax (op:Int→Int→Int):List SV→Option SV
 | []=>none
 | .int k a :: l=>l.foldlM (fun (v:SV) (u:SV)=>match v,u with
  | .int k a,.int _ b=>some (.int k (op a b))
  | _,_=>none) (.int k a)
 | _=>none
theorem run_xMax {ρ:Env} {w:World} {op:Int→Int→Int} {f:Value→Value→Sem Value} (hf:∀ k a k' b w,(f (.int k a) (.int k' b)).run P w=.ok (.int k (op a b)) w):∀ {l:List SV} {v u:SV} {x:Value} {xs:List Value},l.foldlM (fun (v:SV) (u:SV)=>match v,u with
  | .int k a,.int _ b=>some (.int k (op a b))
  | _,_=>none) v=some u→v.den ρ x→SV.denL ρ l xs→∃ y,(xs.foldlM f x).run P w=.ok y w∧u.den ρ y
 | [],v,u,x,xs,h,hv,hl=>by
  cases xs with
  | cons _ _=>exact hl.elim
  | nil=>simp at h;subst h;exact ⟨x,by simp,hv⟩
 | z :: l,v,u,x,xs,h,hv,hl=>by
  cases xs with
  | nil=>exact hl.elim
  | cons c cs =>
   obtain ⟨hz,hl⟩:=hl
   simp only [List.foldlM_cons,Option.bind_eq_bind,Option.bind_eq_some_iff] at h
   obtain ⟨v',hv',h⟩:=h
   split at hv' <;> cases hv'
   rename_i k a k' b
   cases hv
   cases hz
   obtain ⟨y,hy,hd⟩:=run_xMax hf (x:=.int k (op a b)) h rfl hl
   refine ⟨y,?_,hd⟩
   rw [List.foldlM_cons,Sem.run_bind,hf]
   exact hy
theorem max2_run:∀ k a k' b w,(Builtin.max2 (.int k a) (.int k' b)).run P w=.ok (.int k (imax a b)) w:=fun k a k' b w=>by simp [Builtin.max2,imax]
theorem min2_run:∀ k a k' b w,(Builtin.min2 (.int k a) (.int k' b)).run P w=.ok (.int k (imin a b)) w:=fun k a k' b w=>by simp [Builtin.min2,imin]
end runs
end Go.Sy
