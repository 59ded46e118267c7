/-
 A symbolic executor for the model's code, part A: symbolic values, symbolic memory, and what they mean. Conditions: none; all of it is proved for every program P.
-/
import Derived.Test.YtdcdjjogieojhaaGreatDoorJSyGl
import Derived.Tactics
import Derived.Tactics2
import Derived.WalkKit
import Derived.WalkLawsBesides
import Derived.Orders
import Derived.Deep.MidRow
import Derived.Laws.StructEq
namespace Go.Sy
set_option linter.unusedVariables false
set_option linter.unusedSimpArgs false
open Go.RowKit
set_option linter.unusedSectionVars false
variable [Globs]
structure Env where
 nm:Nat→Option Nm
 od:Od
 gl:Gl od
instance:CoeFun Env fun _=>Nat→Option Nm:=⟨Env.nm⟩
inductive Kd where
 | int (k:IntKind)
 | bool
 | str
 | sl (sh:List Kd)
 | pt (sh:List Kd)
 | pz (sh:List Kd)
 | mi (sh:List Kd)
 | mb
 | m1
structure Dat where
 ii:Nat→Nat→Int
 ss:Nat→Nat→ByteArray
 bb:Nat→Nat→Bool
 sn:Nat→Nat→Nat
 sd:Nat→Nat→Option Dat
def noDat:Dat:={ ii:=fun _ _=>0,ss:=fun _ _=>.empty,bb:=fun _ _=>false,sn:=fun _ _=>0,sd:=fun _ _=>none }
def Dat.sub (d:Dat) (k c:Nat):Dat:=(d.sd k c).getD noDat
mutual
def Kd.eqB:Kd→Kd→Bool
 | .int a,.int b=>if a=b then true else false
 | .bool,.bool=>true
 | .str,.str=>true
 | .sl a,.sl b=>kdsEq a b
 | .pt a,.pt b=>kdsEq a b
 | .pz a,.pz b=>kdsEq a b
 | .mi a,.mi b=>kdsEq a b
 | .mb,.mb=>true
 | .m1,.m1=>true
 | _,_=>false
def kdsEq:List Kd→List Kd→Bool
 | [],[]=>true
 | a :: l,b :: m=>a.eqB b&&kdsEq l m
 | _,_=>false
end
mutual
theorem Kd.eqB_ok {a b:Kd} (h:a.eqB b=true):a=b:=by
 cases a <;> cases b <;> simp only [Kd.eqB,Bool.false_eq_true] at h <;> first
  | rfl
  | (split at h <;> simp_all)
  | rw [kdsEq_ok h]
theorem kdsEq_ok:∀ {a b:List Kd},kdsEq a b=true→a=b
 | [],[],_=>rfl
 | x :: l,y :: m,h=>by
  simp only [kdsEq,Bool.and_eq_true] at h
  rw [Kd.eqB_ok h.1,kdsEq_ok h.2]
 | [],_ :: _,h=>by simp [kdsEq] at h
 | _ :: _,[],h=>by simp [kdsEq] at h
end
mutual
def Kd.le:Kd→Kd→Bool
 | .pz a,.pt b=>kdsLe a b
 | .pz a,.pz b=>kdsLe a b
 | .pt a,.pt b=>kdsLe a b
 | .sl a,.sl b=>kdsLe a b
 | a,b=>a.eqB b
def kdsLe:List Kd→List Kd→Bool
 | [],[]=>true
 | a :: l,b :: m=>a.le b&&kdsLe l m
 | _,_=>false
end
def NC (A:Option Addr) (n cap:Nat):Prop:=n≤cap∧(A=none→cap=0)
mutual
def Kd.den (od:Od):Kd→Dat→Nat→Nat→Value→Prop
 | .int kk,d,k,c,x=>x=.int kk (d.ii k c)
 | .bool,d,k,c,x=>x=.bool (d.bb k c)
 | .str,d,k,c,x=>x=.string (d.ss k c)
 | .sl sh,d,k,c,x=>∃ A cap,x=.slice A (d.sn k c) cap∧NC A (d.sn k c) cap∧(0<d.sn k c→∃ b o,A=some ⟨b,o,none⟩∧∀ q,q<d.sn k c→Kd.denL od sh (d.sub k c) q 0 b (o+q * sh.length))
 | .pt sh,d,k,c,x=>∃ b o,x=.pointer (some ⟨b,o,none⟩)∧Kd.denL od sh (d.sub k c) 0 0 b o
 | .pz sh,d,k,c,x=>(true=true∧∃ b,x=.pointer (some ⟨b,0,none⟩)∧od.p.f b=some (d.sn k c)∧Kd.denL od sh (d.sub k c) 0 0 b 0)∨(true=false∧x=.pointer none)
 | .mi sh,d,k,c,x=>∃ b es cl f,x=.map (some b)∧od.m b=some (es,cl)∧MapObj (Value.int .i64) f es cl∧(∀ r:Int,(f r).isSome=(decide (0≤r)&&(d.sub k c).bb r.toNat 0)) ∧
   ∀ (r:Int) (y:Value),f r=some y→∃ b' o',y=.pointer (some ⟨b',o',none⟩)∧Kd.denL od sh ((d.sub k c).sub r.toNat 1) 0 0 b' o'
 | .mb,d,k,c,x=>∃ b es cl f,x=.map (some b)∧od.m b=some (es,cl)∧MapObj pairV f es cl∧(∀ p:Int × Int,f p=if (decide (0≤p.1)&&decide (0≤p.2)&&(d.sub k c).bb p.1.toNat p.2.toNat)=true then some (.bool true) else none) ∧
   ∀ i j:Nat,(d.sub k c).bb i j=true→i<(d.sub k c).sn 0 0∧j<(d.sub k c).sn 0 1
 | .m1,d,k,c,x=>∃ b es cl f,x=.map (some b)∧od.m b=some (es,cl)∧MapObj (Value.int .i64) f es cl∧∀ r:Int,f r=if (decide (0≤r)&&(d.sub k c).bb r.toNat 0)=true then some (.bool true) else none
def Kd.denL (od:Od):List Kd→Dat→Nat→Nat→Nat→Nat→Prop
 | [],_,_,_,_,_=>True
 | kd :: l,d,q,c,b,o=>(∃ y,od b (o+c)=some y∧kd.den od d q c y)∧Kd.denL od l d q (c+1) b o
end
mutual
theorem Kd.den_mono {od od':Od} (he:OdExt od od'):∀ {kd:Kd} {d:Dat} {k c:Nat} {x:Value},kd.den od d k c x→kd.den od' d k c x
 | .int _,_,_,_,_,h=>h
 | .bool,_,_,_,_,h=>h
 | .str,_,_,_,_,h=>h
 | .sl sh,d,k,c,x,⟨A,cap,e,hc,h⟩=>⟨A,cap,e,hc,fun h0=>let ⟨b,o,ha,hq⟩:=h h0;⟨b,o,ha,fun q hl=>Kd.denL_mono he (hq q hl)⟩⟩
 | .pt sh,d,k,c,x,⟨b,o,e,h⟩=>⟨b,o,e,Kd.denL_mono he h⟩
 | .pz sh,d,k,c,x,.inl ⟨t,b,e,hp,h⟩=>.inl ⟨t,b,e,he.p _ _ hp,Kd.denL_mono he h⟩
 | .pz sh,d,k,c,x,.inr h=>.inr h
 | .mi sh,d,k,c,x,⟨b,es,cl,f,e,hb,ho,hs,hf⟩=>⟨b,es,cl,f,e,he.m _ _ hb,ho,hs,fun r y hy=>let ⟨b',o',e',h'⟩:=hf r y hy;⟨b',o',e',Kd.denL_mono he h'⟩⟩
 | .mb,d,k,c,x,⟨b,es,cl,f,e,hb,h⟩=>⟨b,es,cl,f,e,he.m _ _ hb,h⟩
 | .m1,d,k,c,x,⟨b,es,cl,f,e,hb,h⟩=>⟨b,es,cl,f,e,he.m _ _ hb,h⟩
theorem Kd.denL_mono {od od':Od} (he:OdExt od od'):∀ {l:List Kd} {d:Dat} {q c b o:Nat},Kd.denL od l d q c b o→Kd.denL od' l d q c b o
 | [],_,_,_,_,_,_=>trivial
 | kd :: l,_,_,_,_,_,⟨⟨y,hy,hd⟩,h⟩=>⟨⟨y,he _ _ _ hy,Kd.den_mono he hd⟩,Kd.denL_mono he h⟩
end
mutual
theorem Kd.le_ok {od:Od}:∀ {a b:Kd},a.le b=true→∀ {d:Dat} {k c:Nat} {x:Value},a.den od d k c x→b.den od d k c x
 | .pz a,.pt b,h,d,k,c,x,hd=>by
  rw [Kd.le] at h
  rcases hd with ⟨_,b',e,_,hL⟩ | ⟨h,_⟩
  ·exact ⟨b',0,e,(kdsLe_ok h).2 hL⟩
  ·cases h
 | .pz a,.pz b,h,d,k,c,x,hd=>by
  rw [Kd.le] at h
  rcases hd with ⟨_,b',e,hp,hL⟩ | ⟨h,_⟩
  ·exact .inl ⟨rfl,b',e,hp,(kdsLe_ok h).2 hL⟩
  ·cases h
 | .pt a,.pt b,h,d,k,c,x,⟨b',o,e,hL⟩=>by
  rw [Kd.le] at h
  exact ⟨b',o,e,(kdsLe_ok h).2 hL⟩
 | .sl a,.sl b,h,d,k,c,x,⟨A,cap,e,hc,hA⟩=>by
  rw [Kd.le] at h
  obtain ⟨hl,hk⟩:=kdsLe_ok (od:=od) h
  refine ⟨A,cap,e,hc,fun h0=>?_⟩
  obtain ⟨b',o,ha,hq⟩:=hA h0
  refine ⟨b',o,ha,fun q hlt=>?_⟩
  have:=hk (hq q hlt)
  rwa [hl] at this
 | .int kk,b,h,d,k,c,x,hd=>by
  have h':(Kd.int kk).eqB b=true:=by cases b <;> simpa only [Kd.le] using h
  have e:=Kd.eqB_ok h'
  subst e
  exact hd
 | .bool,b,h,d,k,c,x,hd=>by
  have h':(Kd.bool).eqB b=true:=by cases b <;> simpa only [Kd.le] using h
  have e:=Kd.eqB_ok h'
  subst e
  exact hd
 | .str,b,h,d,k,c,x,hd=>by
  have h':(Kd.str).eqB b=true:=by cases b <;> simpa only [Kd.le] using h
  have e:=Kd.eqB_ok h'
  subst e
  exact hd
 | .mi sh,b,h,d,k,c,x,hd=>by
  have h':(Kd.mi sh).eqB b=true:=by cases b <;> simpa only [Kd.le] using h
  have e:=Kd.eqB_ok h'
  subst e
  exact hd
 | .mb,b,h,d,k,c,x,hd=>by
  have h':(Kd.mb).eqB b=true:=by cases b <;> simpa only [Kd.le] using h
  have e:=Kd.eqB_ok h'
  subst e
  exact hd
 | .m1,b,h,d,k,c,x,hd=>by
  have h':(Kd.m1).eqB b=true:=by cases b <;> simpa only [Kd.le] using h
  have e:=Kd.eqB_ok h'
  subst e
  exact hd
 | .sl _,.int _,h,_,_,_,_,_ | .sl _,.bool,h,_,_,_,_,_ | .sl _,.str,h,_,_,_,_,_ | .sl _,.pt _,h,_,_,_,_,_ | .sl _,.pz _,h,_,_,_,_,_ | .sl _,.mi _,h,_,_,_,_,_ | .sl _,.mb,h,_,_,_,_,_ | .sl _,.m1,h,_,_,_,_,_=>by simp [Kd.le,Kd.eqB] at h
 | .pt _,.int _,h,_,_,_,_,_ | .pt _,.bool,h,_,_,_,_,_ | .pt _,.str,h,_,_,_,_,_ | .pt _,.sl _,h,_,_,_,_,_ | .pt _,.pz _,h,_,_,_,_,_ | .pt _,.mi _,h,_,_,_,_,_ | .pt _,.mb,h,_,_,_,_,_ | .pt _,.m1,h,_,_,_,_,_=>by simp [Kd.le,Kd.eqB] at h
 | .pz _,.int _,h,_,_,_,_,_ | .pz _,.bool,h,_,_,_,_,_ | .pz _,.str,h,_,_,_,_,_ | .pz _,.sl _,h,_,_,_,_,_ | .pz _,.mi _,h,_,_,_,_,_ | .pz _,.mb,h,_,_,_,_,_ | .pz _,.m1,h,_,_,_,_,_=>by simp [Kd.le,Kd.eqB] at h
theorem kdsLe_ok {od:Od}:∀ {l m:List Kd},kdsLe l m=true→l.length=m.length∧∀ {d:Dat} {q c b o:Nat},Kd.denL od l d q c b o→Kd.denL od m d q c b o
 | [],[],_=>⟨rfl,fun h=>h⟩
 | a :: l,b :: m,h=>by
  simp only [kdsLe,Bool.and_eq_true] at h
  obtain ⟨h1,h2⟩:=kdsLe_ok (od:=od) h.2
  refine ⟨by simp [h1],fun {d q c bb o} hd=>?_⟩
  obtain ⟨⟨y,hy,hk⟩,hL⟩:=hd
  exact ⟨⟨y,hy,Kd.le_ok h.1 hk⟩,h2 hL⟩
 | [],_ :: _,h=>by simp [kdsLe] at h
 | _ :: _,[],h=>by simp [kdsLe] at h
end
inductive SV where
 | any
 | int (k:IntKind) (n:Int)
 | bool (b:Bool)
 | str (s:ByteArray)
 | ptr (i:Nat) (o:Nat)
 | elt (i size k j:Nat)
 | slc (i size k n:Nat)
 | own (i size n:Nat)
 | gr (i size n:Nat)
 | nsl
 | emp
 | ro (sh:List Kd) (n:Nat) (d:Dat)
 | rp (sh:List Kd) (d:Dat) (k j:Nat)
 | ra (sh:List Kd) (n:Nat) (d:Dat)
 | rn (sh:List Kd) (n:Nat) (d:Dat)
 | pix (i o s m k j:Nat)
 | rq (t:Bool) (sh:List Kd) (d:Dat) (k j:Nat)
 | rz (t:Bool) (i:Nat) (sh:List Kd) (d:Dat)
 | mp (kd:Kd) (e:Dat)
 | agg (l:List SV)
 | tup (l:List SV)
 | fn (f:Nat) (cap:List SV)
 | fb (f:Nat) (fst:List SV)
 | ni (b:Bool)
 | ifc (t:Nat) (l:List SV)
 | gd (t:Nat) (pol:Bool) (v:SV)
 | gv (g:Nat)
 | val (v:Value)
def oneSub (e:Dat):Dat:={ noDat with sd:=fun _ _=>some e }
mutual
def SV.den (ρ:Env):SV→Value→Prop
 | .any,_=>True
 | .int k n,x=>x=.int k n
 | .bool b,x=>x=.bool b
 | .str s,x=>x=.string s
 | .ptr i o,x=>∃ m,ρ i=some m∧x=.pointer (some ⟨m.blk,m.off+o,none⟩)
 | .elt i size k j,x=>∃ m,ρ i=some m∧x=.pointer (some ⟨m.blk,m.off+(k * size+j),none⟩)
 | .slc i size k n,x=>∃ A cap,x=.slice A n cap∧NC A n cap∧(0<n→∃ m,ρ i=some m∧A=some ⟨m.blk,m.off+k * size,none⟩)
 | .own i _ n,x=>∃ m,ρ i=some m∧m.off=0∧n≤m.cap∧x=.slice (some ⟨m.blk,0,none⟩) n m.cap
 | .gr i _ n,x=>(n=0∧∃ A,x=.slice A 0 0)∨∃ m,ρ i=some m∧m.off=0∧n≤m.cap∧x=.slice (some ⟨m.blk,0,none⟩) n m.cap
 | .nsl,x=>x=.slice none 0 0
 | .emp,x=>∃ A,x=.slice A 0 0
 | .ro sh n d,x=>∃ A cap,x=.slice A n cap∧NC A n cap∧(0<n→∃ b o,A=some ⟨b,o,none⟩∧∀ q,q<n→Kd.denL ρ.od sh d q 0 b (o+q * sh.length))
 | .rp sh d k j,x=>∃ b o,x=.pointer (some ⟨b,o+j,none⟩)∧Kd.denL ρ.od sh d k 0 b o
 | .rn sh n d,x=>∃ a cap,x=.slice (some a) n cap∧n≤cap∧(0<n→∃ b o,a=⟨b,o,none⟩∧∀ q,q<n→Kd.denL ρ.od sh d q 0 b (o+q * sh.length))
 | .ra sh n d,x=>∃ b o,x=.pointer (some ⟨b,o,none⟩)∧∀ q,q<n→Kd.denL ρ.od sh d q 0 b (o+q * sh.length)
 | .pix i o s _ k j,x=>∃ m,ρ i=some m∧x=.pointer (some ⟨m.blk,m.off+(o+k * s+j),none⟩)
 | .rq t sh d k j,x=>(t=true∧∃ b o,x=.pointer (some ⟨b,o+j,none⟩)∧Kd.denL ρ.od sh d k 0 b o)∨(t=false∧x=.pointer none)
 | .rz t i sh d,x=>(t=true∧∃ b,x=.pointer (some ⟨b,0,none⟩)∧ρ.od.p.f b=some i∧Kd.denL ρ.od sh d 0 0 b 0)∨(t=false∧x=.pointer none)
 | .mp kd e,x=>kd.den ρ.od (oneSub e) 0 0 x
 | .agg l,x=>∃ xs,x=.agg ⟨xs⟩∧SV.denL ρ l xs
 | .tup l,x=>∃ xs,x=.tuple ⟨xs⟩∧SV.denL ρ l xs
 | .fn f cap,x=>∃ xs,x=.func (.func f) #[] ⟨xs⟩∧SV.denL ρ cap xs
 | .fb f fst,x=>∃ xs,x=.func (.func f) ⟨xs⟩ #[]∧SV.denL ρ fst xs
 | .ni b,x=>(b=true∧x=.nilIface)∨(b=false∧∃ t v,x=.iface t v)
 | .ifc t l,x=>∃ xs,(∃ y,xs=[y]∧x=.iface t y)∧SV.denL ρ l xs
 | .gd _ _ _,_=>True
 | .gv _,x=>∃ b es c,x=.map (some b)∧ρ.od.m b=some (es,c)∧MapObj (fun k:Bool=>Value.bool k) (fun k=>some (.string (resW k))) es c
 | .val v,x=>x=v
def SV.denL (ρ:Env):List SV→List Value→Prop
 | [],[]=>True
 | v :: l,x :: xs=>v.den ρ x∧SV.denL ρ l xs
 | _,_=>False
end
structure Ext (ρ ρ':Env):Prop where
 nm:∀ i m,ρ i=some m→ρ' i=some m
 od:OdExt ρ.od ρ'.od
theorem Ext.refl (ρ:Env):Ext ρ ρ:=⟨fun _ _ h=>h,⟨fun _ _ _ h=>h,fun _ _ h=>h,fun _ _ h=>h⟩⟩
theorem Ext.trans {a b c:Env} (h:Ext a b) (k:Ext b c):Ext a c:=⟨fun i m x=>k.nm i m (h.nm i m x),⟨fun b o v x=>k.od b o v (h.od b o v x),fun b v x=>k.od.m b v (h.od.m b v x),fun b v x=>k.od.p b v (h.od.p b v x)⟩⟩
mutual
theorem SV.den_mono {ρ ρ':Env} (he:Ext ρ ρ'):∀ (v:SV) (x:Value),v.den ρ x→v.den ρ' x
 | .any,_,h=>h
 | .int _ _,_,h=>h
 | .bool _,_,h=>h
 | .str _,_,h=>h
 | .ptr _ _,_,⟨m,h,e⟩=>⟨m,he.nm _ _ h,e⟩
 | .elt _ _ _ _,_,⟨m,h,e⟩=>⟨m,he.nm _ _ h,e⟩
 | .slc _ _ _ _,_,⟨A,c,e,hc,h⟩=>⟨A,c,e,hc,fun hn=>let ⟨m,hm,ha⟩:=h hn;⟨m,he.nm _ _ hm,ha⟩⟩
 | .own _ _ _,_,⟨m,h,e⟩=>⟨m,he.nm _ _ h,e⟩
 | .gr _ _ _,_,h=>h.imp id fun ⟨m,h,e⟩=>⟨m,he.nm _ _ h,e⟩
 | .nsl,_,h=>h
 | .emp,_,h=>h
 | .ro _ _ _,_,⟨A,c,e,hc,h⟩=>⟨A,c,e,hc,fun hn=>let ⟨b,o,ha,hq⟩:=h hn;⟨b,o,ha,fun q hl=>Kd.denL_mono he.od (hq q hl)⟩⟩
 | .rp _ _ _ _,_,⟨b,o,e,h⟩=>⟨b,o,e,Kd.denL_mono he.od h⟩
 | .rn _ _ _,_,⟨a,c,e,hc,h⟩=>⟨a,c,e,hc,fun h0=>let ⟨b,o,ha,hq⟩:=h h0;⟨b,o,ha,fun q hl=>Kd.denL_mono he.od (hq q hl)⟩⟩
 | .ra _ _ _,_,⟨b,o,e,h⟩=>⟨b,o,e,fun q hq=>Kd.denL_mono he.od (h q hq)⟩
 | .pix _ _ _ _ _ _,_,⟨m,h,e⟩=>⟨m,he.nm _ _ h,e⟩
 | .rq _ _ _ _ _,_,h=>h.imp (fun ⟨t,b,o,e,h⟩=>⟨t,b,o,e,Kd.denL_mono he.od h⟩) id
 | .rz _ _ _ _,_,h=>h.imp (fun ⟨t,b,e,hp,h⟩=>⟨t,b,e,he.od.p _ _ hp,Kd.denL_mono he.od h⟩) id
 | .mp _ _,_,h=>Kd.den_mono he.od h
 | .agg l,_,⟨xs,e,h⟩=>⟨xs,e,SV.denL_mono he l xs h⟩
 | .tup l,_,⟨xs,e,h⟩=>⟨xs,e,SV.denL_mono he l xs h⟩
 | .fn _ l,_,⟨xs,e,h⟩=>⟨xs,e,SV.denL_mono he l xs h⟩
 | .fb _ l,_,⟨xs,e,h⟩=>⟨xs,e,SV.denL_mono he l xs h⟩
 | .ni _,_,h=>h
 | .ifc _ l,_,⟨xs,e,h⟩=>⟨xs,e,SV.denL_mono he l xs h⟩
 | .gd _ _ _,_,_=>trivial
 | .gv _,_,⟨b,es,c,e,h,o⟩=>⟨b,es,c,e,he.od.m _ _ h,o⟩
 | .val _,_,h=>h
theorem SV.denL_mono {ρ ρ':Env} (he:Ext ρ ρ'):∀ (l:List SV) (xs:List Value),SV.denL ρ l xs→SV.denL ρ' l xs
 | [],[],h=>h
 | v :: l,x :: xs,⟨h,k⟩=>⟨SV.den_mono he v x h,SV.denL_mono he l xs k⟩
 | [],_ :: _,h=>h
 | _ :: _,[],h=>h
end
section denL
variable {ρ:Env}
theorem denL_length:∀ {l:List SV} {xs:List Value},SV.denL ρ l xs→xs.length=l.length
 | [],[],_=>rfl
 | _ :: _,_ :: _,⟨_,k⟩=>by simp [denL_length k]
 | [],_ :: _,h=>h.elim
 | _ :: _,[],h=>h.elim
theorem denL_get:∀ {l:List SV} {xs:List Value},SV.denL ρ l xs→∀ {i:Nat} {v:SV},l[i]? = some v→∃ x,xs[i]? = some x∧v.den ρ x
 | v :: l,x :: xs,⟨h,k⟩,i,u,hi=>by
  cases i with
  | zero=>simp at hi;subst hi;exact ⟨x,rfl,h⟩
  | succ i=>simpa using denL_get k (by simpa using hi)
 | [],[],_,i,u,hi=>by simp at hi
 | [],_ :: _,h,_,_,_=>h.elim
 | _ :: _,[],h,_,_,_=>h.elim
theorem denL_of_get:∀ {l:List SV} {xs:List Value},xs.length=l.length→(∀ (i:Nat) (v:SV) (x:Value),l[i]? = some v→xs[i]? = some x→v.den ρ x)→SV.denL ρ l xs
 | [],[],_,_=>trivial
 | v :: l,x :: xs,hl,h=>⟨h 0 v x rfl rfl,denL_of_get (by simpa using hl) fun i u y hu hy=>h (i+1) u y (by simpa using hu) (by simpa using hy)⟩
 | [],_ :: _,hl,_=>by simp at hl
 | _ :: _,[],hl,_=>by simp at hl
theorem denL_append {l l':List SV} {xs xs':List Value} (h:SV.denL ρ l xs) (h':SV.denL ρ l' xs'):SV.denL ρ (l ++ l') (xs ++ xs'):=by
 refine denL_of_get (by simp [denL_length h,denL_length h']) fun i v x hv hx=>?_
 have e:=denL_length h
 by_cases hi:i<l.length
 ·rw [List.getElem?_append_left hi] at hv
  rw [List.getElem?_append_left (by omega)] at hx
  obtain ⟨y,hy,hd⟩:=denL_get h hv
  rw [hx] at hy;cases hy;exact hd
 ·rw [List.getElem?_append_right (by omega)] at hv
  rw [List.getElem?_append_right (by omega),e] at hx
  obtain ⟨y,hy,hd⟩:=denL_get h' hv
  rw [hx] at hy;cases hy;exact hd
theorem denL_drop {l:List SV} {xs:List Value} (h:SV.denL ρ l xs) (n:Nat):SV.denL ρ (l.drop n) (xs.drop n):=by
 refine denL_of_get (by simp [denL_length h]) fun i v x hv hx=>?_
 rw [List.getElem?_drop] at hv hx
 obtain ⟨y,hy,hd⟩:=denL_get h hv
 rw [hx] at hy;cases hy;exact hd
theorem denL_take {l:List SV} {xs:List Value} (h:SV.denL ρ l xs) (n:Nat):SV.denL ρ (l.take n) (xs.take n):=by
 refine denL_of_get (by simp [denL_length h]) fun i v x hv hx=>?_
 rw [List.getElem?_take] at hv hx
 by_cases hi:i<n
 ·rw [if_pos hi] at hv hx
  obtain ⟨y,hy,hd⟩:=denL_get h hv
  rw [hx] at hy;cases hy;exact hd
 ·rw [if_neg hi] at hv;cases hv
end denL
def over {α:Type} (l:List α) (o:Nat) (vs:List α):List α:=l.take o ++ vs ++ l.drop (o+vs.length)
theorem denL_over {ρ:Env} {l vs:List SV} {xs ys:List Value} (h:SV.denL ρ l xs) (hv:SV.denL ρ vs ys) (o:Nat):SV.denL ρ (over l o vs) (over xs o ys):=by
 unfold over
 rw [denL_length hv]
 exact denL_append (denL_append (denL_take h o) hv) (denL_drop h _)
def kdSV (d:Dat) (k c:Nat):Kd→SV
 | .int kk=>.int kk (d.ii k c)
 | .bool=>.bool (d.bb k c)
 | .str=>.str (d.ss k c)
 | .sl sh=>.ro sh (d.sn k c) (d.sub k c)
 | .pt sh=>.rp sh (d.sub k c) 0 0
 | .pz sh=>.rz true (d.sn k c) sh (d.sub k c)
 | .mi sh=>.mp (.mi sh) (d.sub k c)
 | .mb=>.mp .mb (d.sub k c)
 | .m1=>.mp .m1 (d.sub k c)
def elFrom (d:Dat) (k:Nat):Nat→List Kd→List SV
 | _,[]=>[]
 | j,kd :: l=>kdSV d k j kd :: elFrom d k (j+1) l
def el (sh:List Kd) (d:Dat) (k:Nat):List SV:=elFrom d k 0 sh
def Kd.ok:Kd→SV→Bool
 | .int kk,.int k _=>if kk=k then true else false
 | .bool,.bool _=>true
 | .str,.str _=>true
 | .sl sh,.ro sh' _ _=>kdsEq sh sh'
 | .pt sh,.rp sh' _ 0 0=>kdsEq sh sh'
 | .pz sh,.rz true _ sh' _=>kdsEq sh sh'
 | .mi sh,.mp kd _=>(Kd.mi sh).eqB kd
 | .mb,.mp kd _=>Kd.mb.eqB kd
 | .m1,.mp kd _=>Kd.m1.eqB kd
 | _,_=>false
def kdsB:List Kd→List SV→Bool
 | [],[]=>true
 | kd :: l,v :: cs=>kd.ok v&&kdsB l cs
 | _,_=>false
theorem elFrom_length (d:Dat) (k:Nat):∀ (l:List Kd) (j:Nat),(elFrom d k j l).length=l.length
 | [],_=>rfl
 | _ :: l,j=>by simp [elFrom,elFrom_length d k l]
theorem el_length (sh:List Kd) (d:Dat) (k:Nat):(el sh d k).length=sh.length:=elFrom_length d k sh 0
theorem elFrom_get (d:Dat) (k:Nat):∀ (sh:List Kd) (j c:Nat),(elFrom d k j sh)[c]? = (sh[c]?).map (kdSV d k (j+c))
 | [],_,_=>by simp [elFrom]
 | kd :: sh,j,0=>by simp [elFrom]
 | kd :: sh,j,c+1=>by
  have:=elFrom_get d k sh (j+1) c
  rw [show j+1+c=j+(c+1) by omega] at this
  simp [elFrom,this]
theorem el_get (sh:List Kd) (d:Dat) (k c:Nat):(el sh d k)[c]? = (sh[c]?).map (kdSV d k c):=by
 have:=elFrom_get d k sh 0 c
 rw [Nat.zero_add] at this
 exact this
theorem kdsB_iff:∀ {sh:List Kd} {cs:List SV},kdsB sh cs=true↔cs.length=sh.length∧∀ (c:Nat) (kd:Kd) (v:SV),sh[c]? = some kd→cs[c]? = some v→kd.ok v=true
 | [],[]=>by simp [kdsB]
 | [],v :: cs=>by simp [kdsB]
 | kd :: sh,[]=>by simp [kdsB]
 | kd :: sh,v :: cs=>by
  simp only [kdsB,Bool.and_eq_true,kdsB_iff]
  constructor
  ·rintro ⟨h1,h2,h3⟩
   refine ⟨by simp [h2],fun c kd' v' hc hv=>?_⟩
   cases c with
   | zero=>simp at hc hv;subst hc;subst hv;exact h1
   | succ c=>exact h3 c kd' v' (by simpa using hc) (by simpa using hv)
  ·rintro ⟨h1,h2⟩
   exact ⟨h2 0 kd v rfl rfl,by simpa using h1,fun c kd' v' hc hv=>h2 (c+1) kd' v' (by simpa using hc) (by simpa using hv)⟩
def Dat.has (d:Dat) (k c:Nat):SV→Prop
 | .int _ x=>d.ii k c=x
 | .bool x=>d.bb k c=x
 | .str x=>d.ss k c=x
 | .ro _ n e=>d.sn k c=n∧d.sub k c=e
 | .rp _ e _ _=>d.sub k c=e
 | .rz _ i _ e=>d.sn k c=i∧d.sub k c=e
 | .mp _ e=>d.sub k c=e
 | _=>True
theorem kdSV_of {d:Dat} {k c:Nat} {kd:Kd} {v:SV} (h:kd.ok v=true) (hd:d.has k c v):kdSV d k c kd=v:=by
 cases kd with
 | int kk=>cases v with
  | int k' x=>simp only [Kd.ok] at h;simp only [Dat.has] at hd;split at h <;> simp_all [kdSV]
  | _=>simp [Kd.ok] at h
 | bool=>cases v with
  | bool x=>simp only [Dat.has] at hd;simp only [kdSV,hd]
  | _=>simp [Kd.ok] at h
 | str=>cases v with
  | str x=>simp only [Dat.has] at hd;simp only [kdSV,hd]
  | _=>simp [Kd.ok] at h
 | sl sh=>cases v with
  | ro sh' n e=>simp only [Kd.ok] at h;simp only [Dat.has] at hd;simp only [kdSV];rw [hd.1,hd.2,kdsEq_ok h]
  | _=>simp [Kd.ok] at h
 | pt sh=>cases v with
  | rp sh' e k' j' =>
   cases k' with
   | zero=>cases j' with
    | zero=>simp only [Kd.ok] at h;simp only [Dat.has] at hd;simp only [kdSV];rw [hd,kdsEq_ok h]
    | succ j'=>simp [Kd.ok] at h
   | succ k'=>simp [Kd.ok] at h
  | _=>simp [Kd.ok] at h
 | pz sh=>cases v with
  | rz t i sh' e =>
   cases t with
   | true=>simp only [Kd.ok] at h;simp only [Dat.has] at hd;simp only [kdSV];rw [hd.1,hd.2,kdsEq_ok h]
   | false=>simp [Kd.ok] at h
  | _=>simp [Kd.ok] at h
 | mi sh=>cases v with
  | mp kd e=>simp only [Kd.ok] at h;simp only [Dat.has] at hd;simp only [kdSV];rw [hd,Kd.eqB_ok h]
  | _=>simp [Kd.ok] at h
 | mb=>cases v with
  | mp kd e=>simp only [Kd.ok] at h;simp only [Dat.has] at hd;simp only [kdSV];rw [hd,Kd.eqB_ok h]
  | _=>simp [Kd.ok] at h
 | m1=>cases v with
  | mp kd e=>simp only [Kd.ok] at h;simp only [Dat.has] at hd;simp only [kdSV];rw [hd,Kd.eqB_ok h]
  | _=>simp [Kd.ok] at h
theorem kdSV_has (d:Dat) (k c:Nat) (kd:Kd):d.has k c (kdSV d k c kd):=by cases kd <;> simp [Dat.has,kdSV]
theorem el_of {sh:List Kd} {d:Dat} {k:Nat} {cs:List SV} (h:kdsB sh cs=true) (hd:∀ c v,cs[c]? = some v→d.has k c v):el sh d k=cs:=by
 rw [kdsB_iff] at h
 apply List.ext_getElem?
 intro c
 rw [el_get]
 cases hs:sh[c]? with
 | none =>
  have:cs[c]? = none:=by rw [List.getElem?_eq_none_iff] at hs ⊢;omega
  rw [this];rfl
 | some kd =>
  have hl:c<cs.length:=by rw [h.1];exact (List.getElem?_eq_some_iff.1 hs).1
  have hv:cs[c]? = some cs[c]:=List.getElem?_eq_getElem hl
  rw [hv]
  simp only [Option.map_some]
  rw [kdSV_of (h.2 c kd _ hs hv) (hd c _ hv)]
mutual
theorem Kd.eqB_refl:∀ kd:Kd,kd.eqB kd=true
 | .int _=>by simp [Kd.eqB]
 | .bool=>rfl
 | .str=>rfl
 | .sl l=>by simp only [Kd.eqB];exact kdsEq_refl l
 | .pt l=>by simp only [Kd.eqB];exact kdsEq_refl l
 | .pz l=>by simp only [Kd.eqB];exact kdsEq_refl l
 | .mi l=>by simp only [Kd.eqB];exact kdsEq_refl l
 | .mb=>rfl
 | .m1=>rfl
theorem kdsEq_refl:∀ l:List Kd,kdsEq l l=true
 | []=>rfl
 | kd :: l=>by simp [kdsEq,Kd.eqB_refl kd,kdsEq_refl l]
end
theorem kdSV_ok (d:Dat) (k c:Nat) (kd:Kd):kd.ok (kdSV d k c kd)=true:=by cases kd <;> simp [Kd.ok,kdSV,kdsEq_refl,Kd.eqB]
theorem el_kds (sh:List Kd) (d:Dat) (k:Nat):kdsB sh (el sh d k)=true:=by
 rw [kdsB_iff]
 refine ⟨el_length sh d k,fun c kd v hc hv=>?_⟩
 rw [el_get,hc] at hv
 cases hv
 exact kdSV_ok d k c kd
theorem kdSV_den {ρ:Env} {d:Dat} {k c:Nat} {kd:Kd} {x:Value}:(kdSV d k c kd).den ρ x↔kd.den ρ.od d k c x:=by cases kd <;> exact Iff.rfl
theorem kdL_iff {ρ:Env} {d:Dat} {q b o:Nat}:∀ {l:List Kd} {c:Nat},Kd.denL ρ.od l d q c b o↔∀ j v,(elFrom d q c l)[j]? = some v→∃ y,ρ.od b (o+(c+j))=some y∧v.den ρ y
 | [],c=>by simp [Kd.denL,elFrom]
 | kd :: l,c=>by
  simp only [Kd.denL,elFrom]
  rw [kdL_iff (l:=l)]
  constructor
  ·rintro ⟨⟨y,hy,hd⟩,h⟩ j v hj
   cases j with
   | zero=>simp at hj;subst hj;exact ⟨y,hy,kdSV_den.2 hd⟩
   | succ j=>have:=h j v (by simpa using hj);rwa [show c+1+j=c+(j+1) by omega] at this
  ·intro h
   refine ⟨?_,fun j v hj=>?_⟩
   ·obtain ⟨y,hy,hd⟩:=h 0 _ rfl;exact ⟨y,hy,kdSV_den.1 hd⟩
   ·have:=h (j+1) v (by simpa using hj);rwa [show c+(j+1)=c+1+j by omega] at this
theorem kdE_iff {ρ:Env} {sh:List Kd} {d:Dat} {q b o:Nat}:Kd.denL ρ.od sh d q 0 b o↔∀ j v,(el sh d q)[j]? = some v→∃ y,ρ.od b (o+j)=some y∧v.den ρ y:=by
 rw [kdL_iff];simp [el]
inductive Blk where
 | unk
 | cells (e:Nat) (l:List SV)
 | row (e:Nat) (sh:List Kd) (n:Nat) (d:Dat)
def Blk.mine:Blk→Bool
 | .cells _ _ | .row _ _ _ _=>true
 | _=>false
def Blk.isUnk:Blk→Bool
 | .unk=>true
 | _=>false
def Blk.ghost:Blk→Prop
 | .row _ _ n _=>n=0
 | _=>False
def Elems (ρ:Env) (w:World) (m:Nm) (size n:Nat) (f:Nat→List SV):Prop :=
 ∀ k,k<n→(f k).length=size∧∀ j v,(f k)[j]? = some v→∃ x,w.cell? ⟨m.blk,m.off+(k * size+j),none⟩=some x∧v.den ρ x
def Blk.den (ρ:Env) (w:World) (m:Nm):Blk→Prop
 | .unk=>True
 | .cells e l=>m.off=0∧∃ c,w.heap[m.blk]? = some (.cells c e (0,0))∧SV.denL ρ l c.toList
 | .row e sh n d=>m.off=0∧n≤m.cap∧(∃ c,w.heap[m.blk]? = some (.cells c e (0,0))∧c.size=m.cap * sh.length∧m.cap≤maxLen)∧Elems ρ w m sh.length n (el sh d)
theorem Elems.mono {ρ ρ':Env} {w:World} {m:Nm} {size n:Nat} {f:Nat→List SV} (h:Elems ρ w m size n f) (he:Ext ρ ρ'):Elems ρ' w m size n f :=
 fun k hk=>⟨(h k hk).1,fun j v hv=>let ⟨x,hx,hd⟩:=(h k hk).2 j v hv;⟨x,hx,SV.den_mono he _ _ hd⟩⟩
theorem Elems.same {ρ:Env} {w w':World} {m:Nm} {size n:Nat} {f:Nat→List SV} (h:Elems ρ w m size n f) (hb:w'.heap[m.blk]? = w.heap[m.blk]?):Elems ρ w' m size n f :=
 fun k hk=>⟨(h k hk).1,fun j v hv=>let ⟨x,hx,hd⟩:=(h k hk).2 j v hv;⟨x,by rw [World.cell?_of_block (w:=w) (by exact hb)];exact hx,hd⟩⟩
theorem Blk.den_mono {ρ ρ':Env} {w:World} {m:Nm} {b:Blk} (h:b.den ρ w m) (he:Ext ρ ρ'):b.den ρ' w m:=by
 cases b with
 | unk=>trivial
 | cells e l=>obtain ⟨h0,c,hc,hd⟩:=h;exact ⟨h0,c,hc,SV.denL_mono he _ _ hd⟩
 | row e size n f=>obtain ⟨h0,h1,h2,h3⟩:=h;exact ⟨h0,h1,h2,h3.mono he⟩
theorem Blk.den_same {ρ:Env} {w w':World} {m:Nm} {b:Blk} (h:b.den ρ w m) (hb:w'.heap[m.blk]? = w.heap[m.blk]?):b.den ρ w' m:=by
 cases b with
 | unk=>trivial
 | cells e l=>obtain ⟨h0,c,hc,hd⟩:=h;exact ⟨h0,c,hb.trans hc,hd⟩
 | row e size n f=>obtain ⟨h0,h1,⟨c,hc,hs⟩,h3⟩:=h;exact ⟨h0,h1,⟨c,hb.trans hc,hs⟩,h3.same hb⟩
structure Kept (B:Nat) (M:List Nat) (w w':World):Prop where
 os:w'.os=w.os
 tape:w'.tape=w.tape
 output:w'.output=w.output
 size:w.heap.size≤w'.heap.size
 block:∀ k,k<B→k ∉ M→w'.heap[k]? = w.heap[k]?
theorem Kept.refl (B:Nat) (M:List Nat) (w:World):Kept B M w w:=⟨rfl,rfl,rfl,Nat.le_refl _,fun _ _ _=>rfl⟩
theorem Kept.trans {B:Nat} {M:List Nat} {a b c:World} (h:Kept B M a b) (k:Kept B M b c):Kept B M a c :=
 ⟨k.os.trans h.os,k.tape.trans h.tape,k.output.trans h.output,Nat.le_trans h.size k.size,fun i hi hm=>(k.block i hi hm).trans (h.block i hi hm)⟩
structure SealOk (od:Od) (w:World):Prop where
 c:∀ b o v,od b o=some v→w.cell? ⟨b,o,none⟩=some v
 m:∀ b v,od.m b=some v→w.heap[b]? = some (.map v.1 v.2)
 p:∀ b i,od.p.f b=some i→(∃ v,od b 0=some v)∧∃ c t,w.heap[b]? = some (.cells c t (0,0))
instance (od:Od) (w:World):CoeFun (SealOk od w) fun _=>∀ b o v,od b o=some v→w.cell? ⟨b,o,none⟩=some v:=⟨SealOk.c⟩
theorem SealOk.m_lt {od:Od} {w:World} (h:SealOk od w) {b:Nat} {v:Array MapEntry × Nat} (hv:od.m b=some v):b<w.heap.size:=(Array.getElem?_eq_some_iff.1 (h.m b v hv)).1
structure OdN (od od':Od) (n:Nat) (w':World):Prop where
 c:∀ b o v,od' b o=some v→od b o=some v∨(w'.cell? ⟨b,o,none⟩=some v∧n≤b)
 m:∀ b v,od'.m b=some v→od.m b=some v∨(w'.heap[b]? = some (.map v.1 v.2)∧n≤b)
 p:od'.p=od.p
instance (od od':Od) (n:Nat) (w':World):CoeFun (OdN od od' n w') fun _=>∀ b o v,od' b o=some v→od b o=some v∨(w'.cell? ⟨b,o,none⟩=some v∧n≤b):=⟨OdN.c⟩
structure OdB (od od':Od) (n:Nat):Prop where
 c:∀ b o v,od' b o=some v→od b o=some v∨n≤b
 m:∀ b v,od'.m b=some v→od.m b=some v∨n≤b
 p:od'.p=od.p
instance (od od':Od) (n:Nat):CoeFun (OdB od od' n) fun _=>∀ b o v,od' b o=some v→od b o=some v∨n≤b:=⟨OdB.c⟩
theorem OdB.step {od0 od od':Od} {B n:Nat} {w':World} (h:OdB od0 od B) (k:OdN od od' n w') (hn:B≤n):OdB od0 od' B :=
 ⟨fun b o v hv=>(k b o v hv).elim (h b o v) fun h1=>.inr (Nat.le_trans hn h1.2),fun b v hv=>(k.m b v hv).elim (h.m b v) fun h1=>.inr (Nat.le_trans hn h1.2),k.p.trans h.p⟩
theorem OdExt.ofC {od:Od} {c:Nat→Nat→Option Value} (h:∀ b o v,od b o=some v→c b o=some v):OdExt od ⟨c,od.m,od.p⟩:=⟨h,fun _ _ h=>h,fun _ _ h=>h⟩
theorem OdN.ofC {od:Od} {c:Nat→Nat→Option Value} {n:Nat} {w':World} (h:∀ b o v,c b o=some v→od b o=some v∨(w'.cell? ⟨b,o,none⟩=some v∧n≤b)):OdN od ⟨c,od.m,od.p⟩ n w':=⟨h,fun _ _ h=>.inl h,rfl⟩
structure MemDen (B:Nat) (M:List Nat) (ρ:Env) (mem:Nat→Blk) (w:World):Prop where
 at_:∀ i,(mem i).isUnk=false→(∀ m,ρ i=some m→m.blk<w.heap.size∧(mem i).den ρ w m∧(B≤m.blk∨m.blk∈M))∧(ρ i=none→(mem i).ghost)
 apart:∀ i j m m',i≠j→(mem i).isUnk=false→(mem j).isUnk=false→ρ i=some m→ρ j=some m'→m.blk≠m'.blk
 seal_:SealOk ρ.od w
 free:∀ i m,(mem i).isUnk=false→ρ i=some m→∀ o,ρ.od m.blk o=none
 pv:PvOk w
theorem MemDen.get {B:Nat} {M:List Nat} {ρ:Env} {mem:Nat→Blk} {w:World} (h:MemDen B M ρ mem w) {i:Nat} {m:Nm} (hi:(mem i).isUnk=false) (hm:ρ i=some m):m.blk<w.heap.size∧(mem i).den ρ w m∧(B≤m.blk∨m.blk∈M):=(h.at_ i hi).1 m hm
theorem Blk.den_cells {ρ:Env} {w:World} {m:Nm} {b:Blk} (h:b.den ρ w m) (hk:b.isUnk=false):∃ c e,w.heap[m.blk]? = some (.cells c e (0,0)):=by
 cases b with
 | unk=>cases hk
 | cells e l=>obtain ⟨_,c,hc,_⟩:=h;exact ⟨c,e,hc⟩
 | row e size n f=>obtain ⟨_,_,⟨c,hc,_⟩,_⟩:=h;exact ⟨c,e,hc⟩
theorem MemDen.map_ne {B:Nat} {M:List Nat} {ρ:Env} {mem:Nat→Blk} {w:World} (h:MemDen B M ρ mem w) {i:Nat} {m:Nm} (hi:(mem i).isUnk=false) (hm:ρ i=some m) {b:Nat} {v:Array MapEntry × Nat} (hv:ρ.od.m b=some v):m.blk≠b:=fun e=>by
 obtain ⟨c,e',hc⟩:=Blk.den_cells (h.get hi hm).2.1 hi
 rw [e,h.seal_.m b v hv] at hc
 cases hc
theorem MemDen.od_lt {B:Nat} {M:List Nat} {ρ:Env} {mem:Nat→Blk} {w:World} (h:MemDen B M ρ mem w) {b o:Nat} {v:Value} (hv:ρ.od b o=some v):b<w.heap.size:=World.block_lt_of_cell? w _ (h.seal_ b o v hv)
structure OpRes where
 v:SV
 news:List Blk:=[]
 upds:List (Nat × Blk):=[]
 need:List Bool:=[]
structure OpPost (ρ ρ':Env) (off:Nat) (r:OpRes) (w w':World) (x:Value):Prop where
 val:r.v.den ρ' x
 ext:Ext ρ ρ'
 old:∀ i,i<off∨off+r.news.length≤i→ρ' i=ρ i
 os:w'.os=w.os
 tape:w'.tape=w.tape
 output:w'.output=w.output
 size:w.heap.size≤w'.heap.size
 keep:∀ b,b<w.heap.size→(∀ u∈r.upds,∀ m,ρ u.1=some m→m.blk≠b)→w'.heap[b]? = w.heap[b]?
 odn:OdN ρ.od ρ'.od w.heap.size w'
 upd:∀ u∈r.upds,u.2.isUnk=false→(∀ m,ρ u.1=some m→u.2.den ρ' w' m)∧(ρ u.1=none→u.2.ghost)
 new:∀ j b,r.news[j]? = some b→b.isUnk=false→(∀ m,ρ' (off+j)=some m→m.blk<w'.heap.size∧b.den ρ' w' m∧(∀ o,ρ'.od m.blk o=none)∧(w.heap.size≤m.blk∨∃ u∈r.upds,u.2.isUnk=true∧∃ m',ρ u.1=some m'∧m'.blk=m.blk))∧(ρ' (off+j)=none→b.ghost)
 newapart:∀ j j' b b' m m',j≠j'→r.news[j]? = some b→r.news[j']? = some b'→b.isUnk=false→b'.isUnk=false→ρ' (off+j)=some m→ρ' (off+j')=some m'→m.blk≠m'.blk
theorem OpPost.pure_ {ρ:Env} {off:Nat} {v:SV} {need:List Bool} {w:World} {x:Value} (h:v.den ρ x):OpPost ρ ρ off { v:=v,need:=need } w w x :=
 ⟨h,Ext.refl _,fun _ _=>rfl,rfl,rfl,rfl,Nat.le_refl _,fun _ _ _=>rfl,⟨fun _ _ _ h=>.inl h,fun _ _ h=>.inl h,rfl⟩,fun _ hu=>by simp at hu,fun _ _ hj=>by simp at hj,fun _ _ _ _ _ _ _ hj=>by simp at hj⟩
def Env.set (ρ:Env) (i:Nat) (m:Nm):Env:=⟨fun j=>if j=i then some m else ρ j,ρ.od,ρ.gl⟩
theorem Env.set_ext {ρ:Env} {i:Nat} {m:Nm} (h:ρ i=none):Ext ρ (ρ.set i m):=⟨fun j k hj=>by
 unfold Env.set
 by_cases e:j=i
 ·subst e;rw [h] at hj;cases hj
 ·simp only [if_neg e];exact hj,⟨fun _ _ _ h=>h,fun _ _ h=>h,fun _ _ h=>h⟩⟩
theorem Env.set_same (ρ:Env) (i:Nat) (m:Nm):(ρ.set i m) i=some m:=by simp [Env.set]
theorem Env.set_other {ρ:Env} {i j:Nat} {m:Nm} (h:j≠i):(ρ.set i m) j=ρ j:=by simp [Env.set,h]
theorem OpPost.alloc {ρ:Env} {off:Nat} {r:OpRes} {b:Blk} {need:List Bool} {w:World} {x:Value} {c:Array Value} {e:Nat} {cap:Nat} (hf:ρ off=none) (hr:r={ v:=r.v,news:=[b],need:=need }) (hod:∀ b o v,ρ.od b o=some v→b<w.heap.size)
  (hb:b.den (ρ.set off ⟨w.heap.size,0,cap⟩) (w.alloc (.cells c e)) ⟨w.heap.size,0,cap⟩) (hv:r.v.den (ρ.set off ⟨w.heap.size,0,cap⟩) x) :
  OpPost ρ (ρ.set off ⟨w.heap.size,0,cap⟩) off r w (w.alloc (.cells c e)) x:=by
 rw [hr] at hv ⊢
 refine ⟨hv,Env.set_ext hf,fun i hi=>Env.set_other (by simp at hi;omega),rfl,rfl,rfl,by simp,fun k hk _=>Below.heap_alloc _ _ _ hk,⟨fun _ _ _ h=>.inl h,fun _ _ h=>.inl h,rfl⟩,fun _ hu=>by simp at hu,fun j b' hj _=>?_,fun j j' b b' m m' hne hj hj'=>?_⟩
 ·cases j with
  | zero =>
   simp at hj;subst hj
   refine ⟨fun m hm=>?_,fun hn=>?_⟩
   ·rw [Nat.add_zero,Env.set_same] at hm;cases hm
    refine ⟨by simp,hb,fun o=>?_,.inl (Nat.le_refl _)⟩
    cases ho:(ρ.set off ⟨w.heap.size,0,cap⟩).od w.heap.size o with
    | none=>rfl
    | some v=>exact absurd (hod _ _ _ ho) (by simp)
   ·rw [Nat.add_zero,Env.set_same] at hn;cases hn
  | succ j=>simp at hj
 ·cases j <;> cases j' <;> simp at hj hj' hne
def setNews (mem:Nat→Blk) (off:Nat) (news:List Blk):Nat→Blk:=fun i=>if i<off then mem i else match news[i - off]? with | some b=>b | none=>mem i
def setUpds (mem:Nat→Blk):List (Nat × Blk)→Nat→Blk
 | []=>mem
 | u :: us=>fun i=>if i=u.1 then u.2 else setUpds mem us i
def OpRes.mem (r:OpRes) (mem:Nat→Blk) (off:Nat):Nat→Blk:=setNews (setUpds mem r.upds) off r.news
theorem setUpds_cases (mem:Nat→Blk):∀ (us:List (Nat × Blk)) (i:Nat),(∃ u∈us,u.1=i∧setUpds mem us i=u.2)∨((∀ u∈us,u.1≠i)∧setUpds mem us i=mem i)
 | [],i=>.inr ⟨fun _ h=>by simp at h,rfl⟩
 | u :: us,i=>by
  by_cases e:i=u.1
  ·exact .inl ⟨u,by simp,e.symm,by simp [setUpds,e]⟩
  ·rcases setUpds_cases mem us i with ⟨v,hv,h1,h2⟩ | ⟨h1,h2⟩
   ·exact .inl ⟨v,by simp [hv],h1,by simp [setUpds,e,h2]⟩
   ·refine .inr ⟨fun v hv=>?_,by simp [setUpds,e,h2]⟩
    rcases List.mem_cons.1 hv with rfl | hv
    ·exact fun h=>e h.symm
    ·exact h1 v hv
theorem setNews_cases (mem:Nat→Blk) (off:Nat) (news:List Blk) (i:Nat):(∃ j b,i=off+j∧news[j]? = some b∧setNews mem off news i=b)∨((i<off∨off+news.length≤i)∧setNews mem off news i=mem i):=by
 unfold setNews
 by_cases h:i<off
 ·exact .inr ⟨.inl h,by rw [if_pos h]⟩
 ·rw [if_neg h]
  cases hn:news[i - off]? with
  | some b=>exact .inl ⟨i - off,b,by omega,hn,rfl⟩
  | none=>exact .inr ⟨.inr (by have:=List.getElem?_eq_none_iff.1 hn;omega),rfl⟩
def OpRes.fits (r:OpRes) (mem:Nat→Blk) (off:Nat):Prop:=(∀ u∈r.upds,(mem u.1).mine=true∧u.1<off)∧∀ u∈r.upds,∀ u'∈r.upds,u.1=u'.1→u.2=u'.2
theorem Blk.not_unk_of_mine {b:Blk} (h:b.mine=true):b.isUnk=false:=by cases b <;> simp_all [Blk.mine,Blk.isUnk]
theorem OpRes.mem_cases (r:OpRes) (mem:Nat→Blk) (off:Nat) (hf:r.fits mem off) (i:Nat) (hi:(r.mem mem off i).isUnk=false) :
  (∃ j b,i=off+j∧r.news[j]? = some b∧r.mem mem off i=b) ∨
  ((i<off∨off+r.news.length≤i)∧(∀ u∈r.upds,u.2.isUnk=true→u.1≠i) ∧
   ((∃ u∈r.upds,u.1=i∧r.mem mem off i=u.2∧(mem i).mine=true)∨((∀ u∈r.upds,u.1≠i)∧r.mem mem off i=mem i))):=by
 rcases setNews_cases (setUpds mem r.upds) off r.news i with ⟨j,b,h1,hj,he⟩ | ⟨ho,he⟩
 ·exact .inl ⟨j,b,h1,hj,he⟩
 ·refine .inr ⟨ho,?_⟩
  rcases setUpds_cases mem r.upds i with ⟨u,hu,e,hv⟩ | ⟨hno,hv⟩
  ·have he':r.mem mem off i=u.2:=he.trans hv
   refine ⟨fun u' hu' hk e'=>?_,.inl ⟨u,hu,e,he',by rw [← e];exact (hf.1 u hu).1⟩⟩
   have:=hf.2 u hu u' hu' (e.trans e'.symm)
   rw [he',this,hk] at hi
   cases hi
  ·exact ⟨fun u' hu' _=>hno u' hu',.inr ⟨hno,he.trans hv⟩⟩
theorem OpPost.memDen {B:Nat} {M:List Nat} {ρ ρ':Env} {mem:Nat→Blk} {off:Nat} {r:OpRes} {w w':World} {x:Value} (hm:MemDen B M ρ mem w) (h:OpPost ρ ρ' off r w w' x) (hf:r.fits mem off)
  (hB:B≤w.heap.size):MemDen B M ρ' (r.mem mem off) w':=by
 have isOld:∀ i m,(mem i).isUnk=false→(i<off∨off+r.news.length≤i)→ρ' i=some m→ρ i=some m∧m.blk<w.heap.size:=by
  intro i m hi ho hm'
  rw [h.old _ ho] at hm'
  exact ⟨hm',(hm.get hi hm').1⟩
 have sealed:∀ b o v,ρ.od b o=some v→w'.heap[b]? = w.heap[b]?:=fun b o v hv=>h.keep b (hm.od_lt hv) fun u hu m hm' e=>by
  subst e
  rw [hm.free u.1 m (Blk.not_unk_of_mine (hf.1 u hu).1) hm' o] at hv
  cases hv
 have wasKnown:∀ i,(r.mem mem off i).isUnk=false→((∃ u∈r.upds,u.1=i∧r.mem mem off i=u.2∧(mem i).mine=true)∨((∀ u∈r.upds,u.1≠i)∧r.mem mem off i=mem i))→(mem i).isUnk=false:=by
  rintro i hi (⟨_,_,_,_,h⟩ | ⟨_,h⟩)
  ·exact Blk.not_unk_of_mine h
  ·rw [h] at hi;exact hi
 refine ⟨fun i hi=>?_,fun i j m m' hne hi hj hmi hmj=>?_,⟨fun b o v hv=>?_,fun b v hv=>?_,fun b i hp=>?_⟩,fun i m hi hmi o=>?_,hm.pv.keep ρ.gl (fun b o v hv=>sealed b o v hv) fun b v hv=>h.keep b (hm.seal_.m_lt hv) fun u hu m hm'=>hm.map_ne (Blk.not_unk_of_mine (hf.1 u hu).1) hm' hv⟩
 ·rcases r.mem_cases mem off hf i hi with ⟨j,b,rfl,hj,he⟩ | ⟨ho,_,⟨u,hu,rfl,he,hmine⟩ | ⟨hno,he⟩⟩
  ·rw [he] at hi ⊢
   obtain ⟨h1,h2⟩:=h.new j b hj hi
   refine ⟨fun m hm'=>?_,h2⟩
   obtain ⟨g1,g2,_,g4⟩:=h1 m hm'
   refine ⟨g1,g2,?_⟩
   rcases g4 with g4 | ⟨u,hu,_,m',hm',e⟩
   ·exact .inl (by omega)
   ·rw [← e];exact (hm.get (Blk.not_unk_of_mine (hf.1 u hu).1) hm').2.2
  ·rw [he] at hi ⊢
   obtain ⟨h1,h2⟩:=h.upd u hu hi
   refine ⟨fun m hm'=>?_,fun hn=>h2 (by rw [← h.old _ ho];exact hn)⟩
   rw [h.old _ ho] at hm'
   obtain ⟨g1,_,g3⟩:=hm.get (Blk.not_unk_of_mine hmine) hm'
   exact ⟨by have:=h.size;omega,h1 m hm',g3⟩
  ·rw [he] at hi ⊢
   refine ⟨fun m hm'=>?_,fun hn=>(hm.at_ i hi).2 (by rw [← h.old _ ho];exact hn)⟩
   rw [h.old _ ho] at hm'
   obtain ⟨g1,g2,g3⟩:=hm.get hi hm'
   have hkeep:w'.heap[m.blk]? = w.heap[m.blk]?:=h.keep _ g1 fun u hu m' hm''=>hm.apart u.1 i m' m (hno u hu) (Blk.not_unk_of_mine (hf.1 u hu).1) hi hm'' hm'
   exact ⟨by have:=h.size;omega,Blk.den_mono (Blk.den_same g2 hkeep) h.ext,g3⟩
 ·have newOld:∀ a b m m',(∃ j bb,a=off+j∧r.news[j]? = some bb∧r.mem mem off a=bb)→(r.mem mem off a).isUnk=false→(b<off∨off+r.news.length≤b)→(∀ u∈r.upds,u.2.isUnk=true→u.1≠b)→(mem b).isUnk=false→ρ' a=some m→ρ' b=some m'→m.blk≠m'.blk:=by
   rintro a b m m' ⟨j,bb,rfl,hj,he⟩ ha hob hnob hkb hma hmb
   obtain ⟨hmb',hlt⟩:=isOld b m' hkb hob hmb
   rw [he] at ha
   obtain ⟨_,_,_,h4⟩:=(h.new j bb hj ha).1 m hma
   rcases h4 with h4 | ⟨u,hu,hunk,m2,e2,e3⟩
   ·omega
   ·rw [← e3]
    exact hm.apart u.1 b m2 m' (hnob u hu hunk) (Blk.not_unk_of_mine (hf.1 u hu).1) hkb e2 hmb'
  rcases r.mem_cases mem off hf i hi with hn | ⟨ho,hno,hc⟩ <;> rcases r.mem_cases mem off hf j hj with hn' | ⟨ho',hno',hc'⟩
  ·obtain ⟨a,b,rfl,ha,e⟩:=hn
   obtain ⟨a',b',rfl,ha',e'⟩:=hn'
   rw [e] at hi;rw [e'] at hj
   exact h.newapart a a' b b' m m' (by omega) ha ha' hi hj hmi hmj
  ·exact newOld i j m m' hn hi ho' hno' (wasKnown j hj hc') hmi hmj
  ·exact fun e=>newOld j i m' m hn' hj ho hno (wasKnown i hi hc) hmj hmi e.symm
  ·exact hm.apart i j m m' hne (wasKnown i hi hc) (wasKnown j hj hc') (isOld i m (wasKnown i hi hc) ho hmi).1 (isOld j m' (wasKnown j hj hc') ho' hmj).1
 ·rcases h.odn b o v hv with hv | ⟨hv,_⟩
  ·rw [World.cell?_of_block (w:=w) (sealed b o v hv)];exact hm.seal_ b o v hv
  ·exact hv
 ·rcases h.odn.m b v hv with hv | ⟨hv,_⟩
  ·rw [h.keep b (hm.seal_.m_lt hv) fun u hu m hm'=>hm.map_ne (Blk.not_unk_of_mine (hf.1 u hu).1) hm' hv];exact hm.seal_.m b v hv
  ·exact hv
 ·rw [h.odn.p] at hp
  obtain ⟨⟨v,hv⟩,c,t,hc⟩:=hm.seal_.p b i hp
  exact ⟨⟨v,h.ext.od b 0 v hv⟩,c,t,(sealed b 0 v hv).trans hc⟩
 ·rcases r.mem_cases mem off hf i hi with ⟨j,b,rfl,hj,he⟩ | ⟨ho,_,hc⟩
  ·rw [he] at hi
   exact ((h.new j b hj hi).1 m hmi).2.2.1 o
  ·have hk:=wasKnown i hi hc
   obtain ⟨g1,g2⟩:=isOld i m hk ho hmi
   cases hod:ρ'.od m.blk o with
   | none=>rfl
   | some v =>
    rcases h.odn _ _ _ hod with h1 | ⟨_,h1⟩
    ·rw [hm.free i m hk g1 o] at h1;cases h1
    ·omega
theorem OpPost.kept {B:Nat} {M:List Nat} {ρ ρ':Env} {mem:Nat→Blk} {off:Nat} {r:OpRes} {w0 w w':World} {x:Value} (hm:MemDen B M ρ mem w) (h:OpPost ρ ρ' off r w w' x) (hf:r.fits mem off)
  (hk:Kept B M w0 w) (hB:B≤w.heap.size):Kept B M w0 w':=by
 refine hk.trans ⟨h.os,h.tape,h.output,h.size,fun k hk hM=>h.keep k (by omega) fun u hu m hm' e=>?_⟩
 have hmine:=(hf.1 u hu).1
 obtain ⟨_,_,hp⟩:=hm.get (Blk.not_unk_of_mine hmine) hm'
 subst e
 rcases hp with hp | hp
 ·omega
 ·exact hM hp
end Go.Sy
