/-
 A symbolic executor for the model's code, part C: operations that write or make memory, arithmetic, addresses. Conditions: none.
-/
import Derived.Test.YtdcdjjogieojhaaGreatDoorKSyGl
import Derived.Tactics
import Derived.Tactics2
import Derived.WalkKit
import Derived.WalkLawsBesides
import Derived.Orders
import Derived.Deep.MidRow
import Derived.Laws.StructEq
set_option linter.unusedVariables false
set_option linter.unusedSimpArgs false
set_option linter.unusedSectionVars false
open Bool renaming and_eq_true->aq
open List renaming getElem?_eq_some_iff->ax
open Nat renaming zero_add->az
namespace Go.Sy
open Go.RowKit
variable [AO]
structure Env where
 nm:Nat->Option Nm
 od:Od
 gl:Gl od
instance:CoeFun Env fun _=>Nat->Option Nm:=⟨Env.nm⟩
inductive Kd where
 | int (k:IntKind)
 | bool
 | str
 | sl (sh:List Kd)
 | pt (sh:List Kd)
 | pz (sh:List Kd)
 | mi (sh:List Kd)
 | mb
 | m1
structure Dat where
 ii:Nat->Nat->Int
 ss:Nat->Nat->BA
 bb:Nat->Nat->Bool
 sn:Nat->Nat->Nat
 sd:Nat->Nat->Option Dat
def A3:Dat:={ ii:=fun _ _=>0,ss:=fun _ _=>.empty,bb:=fun _ _=>false,sn:=fun _ _=>0,sd:=fun _ _=>none }
def Dat.sub(d:Dat)(k c:Nat):Dat:=(d.sd k c).getD A3
mutual
def Kd.eqB:Kd->Kd->Bool
 | .int a,.int b=>if a=b then true else false
 | .bool,.bool=>true
 | .str,.str=>true
 | .sl a,.sl b=>Bp a b
 | .pt a,.pt b=>Bp a b
 | .pz a,.pz b=>Bp a b
 | .mi a,.mi b=>Bp a b
 | .mb,.mb=>true
 | .m1,.m1=>true
 | _,_=>false
def Bp:List Kd->List Kd->Bool
 | [],[]=>true
 | a :: l,b :: m=>a.eqB b&&Bp l m
 | _,_=>false
end
mutual
theorem Kd.eqB_ok{a b:Kd}(h:a.eqB b=true):a=b:=by
 cases a <;> cases b <;> simp only [Kd.eqB,Bool.false_eq_true] at h <;> first
  | rfl
  | (split at h <;> simp_all)
  | rw [AW h]
theorem AW:∀ {a b:List Kd},Bp a b=true->a=b
 | [],[],_=>rfl
 | x :: l,y :: m,h=>by
  simp only [Bp,aq] at h
  rw [Kd.eqB_ok h.1,AW h.2]
 | [],_ :: _,h=>by simp [Bp] at h
 | _ :: _,[],h=>by simp [Bp] at h
end
mutual
def Kd.le:Kd->Kd->Bool
 | .pz a,.pt b=>Fh a b
 | .pz a,.pz b=>Fh a b
 | .pt a,.pt b=>Fh a b
 | .sl a,.sl b=>Fh a b
 | a,b=>a.eqB b
def Fh:List Kd->List Kd->Bool
 | [],[]=>true
 | a :: l,b :: m=>a.le b&&Fh l m
 | _,_=>false
end
def NC(A:Option Addr)(n cap:Nat):Prop:=n<=cap/\(A=none->cap=0)
mutual
def Kd.den(od:Od):Kd->Dat->Nat->Nat->Value->Prop
 | .int kk,d,k,c,x=>x=.int kk (d.ii k c)
 | .bool,d,k,c,x=>x=.bool (d.bb k c)
 | .str,d,k,c,x=>x=.string (d.ss k c)
 | .sl sh,d,k,c,x=>∃ A cap,x=.slice A (d.sn k c) cap/\NC A (d.sn k c) cap/\(0<d.sn k c->∃ b o,A=some ⟨b,o,none⟩/\∀ q,q<d.sn k c->Kd.denL od sh (d.sub k c) q 0 b (o+q * sh.length))
 | .pt sh,d,k,c,x=>∃ b o,x=.pointer (some ⟨b,o,none⟩)/\Kd.denL od sh (d.sub k c) 0 0 b o
 | .pz sh,d,k,c,x=>(true=true/\∃ b,x=.pointer (some ⟨b,0,none⟩)/\od.p.f b=some (d.sn k c)/\Kd.denL od sh (d.sub k c) 0 0 b 0)\/(true=false/\x=.pointer none)
 | .mi sh,d,k,c,x=>∃ b es cl f,x=.map (some b)/\od.m b=some (es,cl)/\AZ (Value.int .i64) f es cl/\(∀ r:Int,(f r).isSome=(decide (0<=r)&&(d.sub k c).bb r.toNat 0)) /\
   ∀ (r:Int) (y:Value),f r=some y->∃ b' o',y=.pointer (some ⟨b',o',none⟩)/\Kd.denL od sh ((d.sub k c).sub r.toNat 1) 0 0 b' o'
 | .mb,d,k,c,x=>∃ b es cl f,x=.map (some b)/\od.m b=some (es,cl)/\AZ AE f es cl/\(∀ p:Int × Int,f p=if (decide (0<=p.1)&&decide (0<=p.2)&&(d.sub k c).bb p.1.toNat p.2.toNat)=true then some (.bool true) else none) /\
   ∀ i j:Nat,(d.sub k c).bb i j=true->i<(d.sub k c).sn 0 0/\j<(d.sub k c).sn 0 1
 | .m1,d,k,c,x=>∃ b es cl f,x=.map (some b)/\od.m b=some (es,cl)/\AZ (Value.int .i64) f es cl/\∀ r:Int,f r=if (decide (0<=r)&&(d.sub k c).bb r.toNat 0)=true then some (.bool true) else none
def Kd.denL(od:Od):List Kd->Dat->Nat->Nat->Nat->Nat->Prop
 | [],_,_,_,_,_=>True
 | kd :: l,d,q,c,b,o=>(∃ y,od b (o+c)=some y/\kd.den od d q c y)/\Kd.denL od l d q (c+1) b o
end
mutual
theorem Kd.den_mono{od od':Od}(he:AB od od'):∀ {kd:Kd} {d:Dat} {k c:Nat} {x:Value},kd.den od d k c x->kd.den od' d k c x
 | .int _,_,_,_,_,h=>h
 | .bool,_,_,_,_,h=>h
 | .str,_,_,_,_,h=>h
 | .sl sh,d,k,c,x,⟨A,cap,e,hc,h⟩=>⟨A,cap,e,hc,fun h0=>let ⟨b,o,ha,hq⟩:=h h0;⟨b,o,ha,fun q hl=>Kd.denL_mono he (hq q hl)⟩⟩
 | .pt sh,d,k,c,x,⟨b,o,e,h⟩=>⟨b,o,e,Kd.denL_mono he h⟩
 | .pz sh,d,k,c,x,.inl ⟨t,b,e,hp,h⟩=>.inl ⟨t,b,e,he.p _ _ hp,Kd.denL_mono he h⟩
 | .pz sh,d,k,c,x,.inr h=>.inr h
 | .mi sh,d,k,c,x,⟨b,es,cl,f,e,hb,ho,hs,hf⟩=>⟨b,es,cl,f,e,he.m _ _ hb,ho,hs,fun r y hy=>let ⟨b',o',e',h'⟩:=hf r y hy;⟨b',o',e',Kd.denL_mono he h'⟩⟩
 | .mb,d,k,c,x,⟨b,es,cl,f,e,hb,h⟩=>⟨b,es,cl,f,e,he.m _ _ hb,h⟩
 | .m1,d,k,c,x,⟨b,es,cl,f,e,hb,h⟩=>⟨b,es,cl,f,e,he.m _ _ hb,h⟩
theorem Kd.denL_mono{od od':Od}(he:AB od od'):∀ {l:List Kd} {d:Dat} {q c b o:Nat},Kd.denL od l d q c b o->Kd.denL od' l d q c b o
 | [],_,_,_,_,_,_=>trivial
 | kd :: l,_,_,_,_,_,⟨⟨y,hy,hd⟩,h⟩=>⟨⟨y,he _ _ _ hy,Kd.den_mono he hd⟩,Kd.denL_mono he h⟩
end
mutual
theorem Kd.le_ok{od:Od}:∀ {a b:Kd},a.le b=true->∀ {d:Dat} {k c:Nat} {x:Value},a.den od d k c x->b.den od d k c x
 | .pz a,.pt b,h,d,k,c,x,hd=>by
  rw [Kd.le] at h
  rcases hd with ⟨_,b',e,_,hL⟩ | ⟨h,_⟩
  .exact ⟨b',0,e,(DI h).2 hL⟩
  .cases h
 | .pz a,.pz b,h,d,k,c,x,hd=>by
  rw [Kd.le] at h
  rcases hd with ⟨_,b',e,hp,hL⟩ | ⟨h,_⟩
  .exact .inl ⟨rfl,b',e,hp,(DI h).2 hL⟩
  .cases h
 | .pt a,.pt b,h,d,k,c,x,⟨b',o,e,hL⟩=>by
  rw [Kd.le] at h
  exact ⟨b',o,e,(DI h).2 hL⟩
 | .sl a,.sl b,h,d,k,c,x,⟨A,cap,e,hc,hA⟩=>by
  rw [Kd.le] at h
  obtain ⟨hl,hk⟩:=DI (od:=od) h
  refine ⟨A,cap,e,hc,fun h0=>?_⟩
  obtain ⟨b',o,ha,hq⟩:=hA h0
  refine ⟨b',o,ha,fun q hlt=>?_⟩
  have:=hk (hq q hlt)
  rwa [hl] at this
 | .int kk,b,h,d,k,c,x,hd=>by
  have h':(Kd.int kk).eqB b=true:=by cases b <;> simpa only [Kd.le] using h
  have e:=Kd.eqB_ok h'
  subst e
  exact hd
 | .bool,b,h,d,k,c,x,hd=>by
  have h':(Kd.bool).eqB b=true:=by cases b <;> simpa only [Kd.le] using h
  have e:=Kd.eqB_ok h'
  subst e
  exact hd
 | .str,b,h,d,k,c,x,hd=>by
  have h':(Kd.str).eqB b=true:=by cases b <;> simpa only [Kd.le] using h
  have e:=Kd.eqB_ok h'
  subst e
  exact hd
 | .mi sh,b,h,d,k,c,x,hd=>by
  have h':(Kd.mi sh).eqB b=true:=by cases b <;> simpa only [Kd.le] using h
  have e:=Kd.eqB_ok h'
  subst e
  exact hd
 | .mb,b,h,d,k,c,x,hd=>by
  have h':(Kd.mb).eqB b=true:=by cases b <;> simpa only [Kd.le] using h
  have e:=Kd.eqB_ok h'
  subst e
  exact hd
 | .m1,b,h,d,k,c,x,hd=>by
  have h':(Kd.m1).eqB b=true:=by cases b <;> simpa only [Kd.le] using h
  have e:=Kd.eqB_ok h'
  subst e
  exact hd
 | .sl _,.int _,h,_,_,_,_,_ | .sl _,.bool,h,_,_,_,_,_ | .sl _,.str,h,_,_,_,_,_ | .sl _,.pt _,h,_,_,_,_,_ | .sl _,.pz _,h,_,_,_,_,_ | .sl _,.mi _,h,_,_,_,_,_ | .sl _,.mb,h,_,_,_,_,_ | .sl _,.m1,h,_,_,_,_,_=>by simp [Kd.le,Kd.eqB] at h
 | .pt _,.int _,h,_,_,_,_,_ | .pt _,.bool,h,_,_,_,_,_ | .pt _,.str,h,_,_,_,_,_ | .pt _,.sl _,h,_,_,_,_,_ | .pt _,.pz _,h,_,_,_,_,_ | .pt _,.mi _,h,_,_,_,_,_ | .pt _,.mb,h,_,_,_,_,_ | .pt _,.m1,h,_,_,_,_,_=>by simp [Kd.le,Kd.eqB] at h
 | .pz _,.int _,h,_,_,_,_,_ | .pz _,.bool,h,_,_,_,_,_ | .pz _,.str,h,_,_,_,_,_ | .pz _,.sl _,h,_,_,_,_,_ | .pz _,.mi _,h,_,_,_,_,_ | .pz _,.mb,h,_,_,_,_,_ | .pz _,.m1,h,_,_,_,_,_=>by simp [Kd.le,Kd.eqB] at h
theorem DI{od:Od}:∀ {l m:List Kd},Fh l m=true->l.length=m.length/\∀ {d:Dat} {q c b o:Nat},Kd.denL od l d q c b o->Kd.denL od m d q c b o
 | [],[],_=>⟨rfl,fun h=>h⟩
 | a :: l,b :: m,h=>by
  simp only [Fh,aq] at h
  obtain ⟨h1,h2⟩:=DI (od:=od) h.2
  refine ⟨by simp [h1],fun {d q c bb o} hd=>?_⟩
  obtain ⟨⟨y,hy,hk⟩,hL⟩:=hd
  exact ⟨⟨y,hy,Kd.le_ok h.1 hk⟩,h2 hL⟩
 | [],_ :: _,h=>by simp [Fh] at h
 | _ :: _,[],h=>by simp [Fh] at h
end
inductive SV where
 | any
 | int (k:IntKind) (n:Int)
 | bool (b:Bool)
 | str (s:BA)
 | ptr (i:Nat) (o:Nat)
 | elt (i size k j:Nat)
 | slc (i size k n:Nat)
 | own (i size n:Nat)
 | gr (i size n:Nat)
 | nsl
 | emp
 | ro (sh:List Kd) (n:Nat) (d:Dat)
 | rp (sh:List Kd) (d:Dat) (k j:Nat)
 | ra (sh:List Kd) (n:Nat) (d:Dat)
 | rn (sh:List Kd) (n:Nat) (d:Dat)
 | pix (i o s m k j:Nat)
 | rq (t:Bool) (sh:List Kd) (d:Dat) (k j:Nat)
 | rz (t:Bool) (i:Nat) (sh:List Kd) (d:Dat)
 | mp (kd:Kd) (e:Dat)
 | agg (l:List SV)
 | tup (l:List SV)
 | fn (f:Nat) (cap:List SV)
 | fb (f:Nat) (fst:List SV)
 | ni (b:Bool)
 | ifc (t:Nat) (l:List SV)
 | gd (t:Nat) (pol:Bool) (v:SV)
 | gv (g:Nat)
 | val (v:Value)
def Tl(e:Dat):Dat:={ A3 with sd:=fun _ _=>some e }
mutual
def SV.den(O:Env):SV->Value->Prop
 | .any,_=>True
 | .int k n,x=>x=.int k n
 | .bool b,x=>x=.bool b
 | .str s,x=>x=.string s
 | .ptr i o,x=>∃ m,O i=some m/\x=.pointer (some ⟨m.blk,m.off+o,none⟩)
 | .elt i size k j,x=>∃ m,O i=some m/\x=.pointer (some ⟨m.blk,m.off+(k * size+j),none⟩)
 | .slc i size k n,x=>∃ A cap,x=.slice A n cap/\NC A n cap/\(0<n->∃ m,O i=some m/\A=some ⟨m.blk,m.off+k * size,none⟩)
 | .own i _ n,x=>∃ m,O i=some m/\m.off=0/\n<=m.cap/\x=.slice (some ⟨m.blk,0,none⟩) n m.cap
 | .gr i _ n,x=>(n=0/\∃ A,x=.slice A 0 0)\/∃ m,O i=some m/\m.off=0/\n<=m.cap/\x=.slice (some ⟨m.blk,0,none⟩) n m.cap
 | .nsl,x=>x=.slice none 0 0
 | .emp,x=>∃ A,x=.slice A 0 0
 | .ro sh n d,x=>∃ A cap,x=.slice A n cap/\NC A n cap/\(0<n->∃ b o,A=some ⟨b,o,none⟩/\∀ q,q<n->Kd.denL O.od sh d q 0 b (o+q * sh.length))
 | .rp sh d k j,x=>∃ b o,x=.pointer (some ⟨b,o+j,none⟩)/\Kd.denL O.od sh d k 0 b o
 | .rn sh n d,x=>∃ a cap,x=.slice (some a) n cap/\n<=cap/\(0<n->∃ b o,a=⟨b,o,none⟩/\∀ q,q<n->Kd.denL O.od sh d q 0 b (o+q * sh.length))
 | .ra sh n d,x=>∃ b o,x=.pointer (some ⟨b,o,none⟩)/\∀ q,q<n->Kd.denL O.od sh d q 0 b (o+q * sh.length)
 | .pix i o s _ k j,x=>∃ m,O i=some m/\x=.pointer (some ⟨m.blk,m.off+(o+k * s+j),none⟩)
 | .rq t sh d k j,x=>(t=true/\∃ b o,x=.pointer (some ⟨b,o+j,none⟩)/\Kd.denL O.od sh d k 0 b o)\/(t=false/\x=.pointer none)
 | .rz t i sh d,x=>(t=true/\∃ b,x=.pointer (some ⟨b,0,none⟩)/\O.od.p.f b=some i/\Kd.denL O.od sh d 0 0 b 0)\/(t=false/\x=.pointer none)
 | .mp kd e,x=>kd.den O.od (Tl e) 0 0 x
 | .agg l,x=>∃ xs,x=.agg ⟨xs⟩/\SV.denL O l xs
 | .tup l,x=>∃ xs,x=.tuple ⟨xs⟩/\SV.denL O l xs
 | .fn f cap,x=>∃ xs,x=.func (.func f) #[] ⟨xs⟩/\SV.denL O cap xs
 | .fb f fst,x=>∃ xs,x=.func (.func f) ⟨xs⟩ #[]/\SV.denL O fst xs
 | .ni b,x=>(b=true/\x=.nilIface)\/(b=false/\∃ t v,x=.iface t v)
 | .ifc t l,x=>∃ xs,(∃ y,xs=[y]/\x=.iface t y)/\SV.denL O l xs
 | .gd _ _ _,_=>True
 | .gv _,x=>∃ b es c,x=.map (some b)/\O.od.m b=some (es,c)/\AZ (fun k:Bool=>Value.bool k) (fun k=>some (.string (Hs k))) es c
 | .val v,x=>x=v
def SV.denL(O:Env):List SV->List Value->Prop
 | [],[]=>True
 | v :: l,x :: xs=>v.den O x/\SV.denL O l xs
 | _,_=>False
end
structure Ext (O O':Env):Prop where
 nm:∀ i m,O i=some m->O' i=some m
 od:AB O.od O'.od
theorem Ext.refl(O:Env):Ext O O:=⟨fun _ _ h=>h,⟨fun _ _ _ h=>h,fun _ _ h=>h,fun _ _ h=>h⟩⟩
theorem Ext.trans{a b c:Env}(h:Ext a b)(k:Ext b c):Ext a c:=⟨fun i m x=>k.nm i m (h.nm i m x),⟨fun b o v x=>k.od b o v (h.od b o v x),fun b v x=>k.od.m b v (h.od.m b v x),fun b v x=>k.od.p b v (h.od.p b v x)⟩⟩
mutual
theorem SV.den_mono{O O':Env}(he:Ext O O'):∀ (v:SV) (x:Value),v.den O x->v.den O' x
 | .any,_,h=>h
 | .int _ _,_,h=>h
 | .bool _,_,h=>h
 | .str _,_,h=>h
 | .ptr _ _,_,⟨m,h,e⟩=>⟨m,he.nm _ _ h,e⟩
 | .elt _ _ _ _,_,⟨m,h,e⟩=>⟨m,he.nm _ _ h,e⟩
 | .slc _ _ _ _,_,⟨A,c,e,hc,h⟩=>⟨A,c,e,hc,fun hn=>let ⟨m,hm,ha⟩:=h hn;⟨m,he.nm _ _ hm,ha⟩⟩
 | .own _ _ _,_,⟨m,h,e⟩=>⟨m,he.nm _ _ h,e⟩
 | .gr _ _ _,_,h=>h.imp id fun ⟨m,h,e⟩=>⟨m,he.nm _ _ h,e⟩
 | .nsl,_,h=>h
 | .emp,_,h=>h
 | .ro _ _ _,_,⟨A,c,e,hc,h⟩=>⟨A,c,e,hc,fun hn=>let ⟨b,o,ha,hq⟩:=h hn;⟨b,o,ha,fun q hl=>Kd.denL_mono he.od (hq q hl)⟩⟩
 | .rp _ _ _ _,_,⟨b,o,e,h⟩=>⟨b,o,e,Kd.denL_mono he.od h⟩
 | .rn _ _ _,_,⟨a,c,e,hc,h⟩=>⟨a,c,e,hc,fun h0=>let ⟨b,o,ha,hq⟩:=h h0;⟨b,o,ha,fun q hl=>Kd.denL_mono he.od (hq q hl)⟩⟩
 | .ra _ _ _,_,⟨b,o,e,h⟩=>⟨b,o,e,fun q hq=>Kd.denL_mono he.od (h q hq)⟩
 | .pix _ _ _ _ _ _,_,⟨m,h,e⟩=>⟨m,he.nm _ _ h,e⟩
 | .rq _ _ _ _ _,_,h=>h.imp (fun ⟨t,b,o,e,h⟩=>⟨t,b,o,e,Kd.denL_mono he.od h⟩) id
 | .rz _ _ _ _,_,h=>h.imp (fun ⟨t,b,e,hp,h⟩=>⟨t,b,e,he.od.p _ _ hp,Kd.denL_mono he.od h⟩) id
 | .mp _ _,_,h=>Kd.den_mono he.od h
 | .agg l,_,⟨xs,e,h⟩=>⟨xs,e,SV.denL_mono he l xs h⟩
 | .tup l,_,⟨xs,e,h⟩=>⟨xs,e,SV.denL_mono he l xs h⟩
 | .fn _ l,_,⟨xs,e,h⟩=>⟨xs,e,SV.denL_mono he l xs h⟩
 | .fb _ l,_,⟨xs,e,h⟩=>⟨xs,e,SV.denL_mono he l xs h⟩
 | .ni _,_,h=>h
 | .ifc _ l,_,⟨xs,e,h⟩=>⟨xs,e,SV.denL_mono he l xs h⟩
 | .gd _ _ _,_,_=>trivial
 | .gv _,_,⟨b,es,c,e,h,o⟩=>⟨b,es,c,e,he.od.m _ _ h,o⟩
 | .val _,_,h=>h
theorem SV.denL_mono{O O':Env}(he:Ext O O'):∀ (l:List SV) (xs:List Value),SV.denL O l xs->SV.denL O' l xs
 | [],[],h=>h
 | v :: l,x :: xs,⟨h,k⟩=>⟨SV.den_mono he v x h,SV.denL_mono he l xs k⟩
 | [],_ :: _,h=>h
 | _ :: _,[],h=>h
end
section denL
variable {O:Env}
theorem Ax:∀ {l:List SV} {xs:List Value},SV.denL O l xs->xs.length=l.length
 | [],[],_=>rfl
 | _ :: _,_ :: _,⟨_,k⟩=>by simp [Ax k]
 | [],_ :: _,h=>h.elim
 | _ :: _,[],h=>h.elim
theorem AP:∀ {l:List SV} {xs:List Value},SV.denL O l xs->∀ {i:Nat} {v:SV},l[i]? = some v->∃ x,xs[i]? = some x/\v.den O x
 | v :: l,x :: xs,⟨h,k⟩,i,u,hi=>by
  cases i with
  | zero=>simp at hi;subst hi;exact ⟨x,rfl,h⟩
  | succ i=>simpa using AP k (by simpa using hi)
 | [],[],_,i,u,hi=>by simp at hi
 | [],_ :: _,h,_,_,_=>h.elim
 | _ :: _,[],h,_,_,_=>h.elim
theorem Cv:∀ {l:List SV} {xs:List Value},xs.length=l.length->(∀ (i:Nat) (v:SV) (x:Value),l[i]? = some v->xs[i]? = some x->v.den O x)->SV.denL O l xs
 | [],[],_,_=>trivial
 | v :: l,x :: xs,hl,h=>⟨h 0 v x rfl rfl,Cv (by simpa using hl) fun i u y hu hy=>h (i+1) u y (by simpa using hu) (by simpa using hy)⟩
 | [],_ :: _,hl,_=>by simp at hl
 | _ :: _,[],hl,_=>by simp at hl
theorem C7{l l':List SV}{xs xs':List Value}(h:SV.denL O l xs)(h':SV.denL O l' xs'):SV.denL O (l ++ l') (xs ++ xs'):=by
 refine Cv (by simp [Ax h,Ax h']) fun i v x hv hx=>?_
 have e:=Ax h
 by_cases hi:i<l.length
 .rw [List.getElem?_append_left hi] at hv
  rw [List.getElem?_append_left (by omega)] at hx
  obtain ⟨y,hy,hd⟩:=AP h hv
  rw [hx] at hy;cases hy;exact hd
 .rw [List.getElem?_append_right (by omega)] at hv
  rw [List.getElem?_append_right (by omega),e] at hx
  obtain ⟨y,hy,hd⟩:=AP h' hv
  rw [hx] at hy;cases hy;exact hd
theorem FG{l:List SV}{xs:List Value}(h:SV.denL O l xs)(n:Nat):SV.denL O (l.drop n) (xs.drop n):=by
 refine Cv (by simp [Ax h]) fun i v x hv hx=>?_
 rw [List.getElem?_drop] at hv hx
 obtain ⟨y,hy,hd⟩:=AP h hv
 rw [hx] at hy;cases hy;exact hd
theorem FH{l:List SV}{xs:List Value}(h:SV.denL O l xs)(n:Nat):SV.denL O (l.take n) (xs.take n):=by
 refine Cv (by simp [Ax h]) fun i v x hv hx=>?_
 rw [List.getElem?_take] at hv hx
 by_cases hi:i<n
 .rw [if_pos hi] at hv hx
  obtain ⟨y,hy,hd⟩:=AP h hv
  rw [hx] at hy;cases hy;exact hd
 .rw [if_neg hi] at hv;cases hv
end denL
def Di{α:Type}(l:List α)(o:Nat)(vs:List α):List α:=l.take o ++ vs ++ l.drop (o+vs.length)
theorem K1{O:Env}{l vs:List SV}{xs ys:List Value}(h:SV.denL O l xs)(hv:SV.denL O vs ys)(o:Nat):SV.denL O (Di l o vs) (Di xs o ys):=by
 unfold Di
 rw [Ax hv]
 exact C7 (C7 (FH h o) hv) (FG h _)
def Dq(d:Dat)(k c:Nat):Kd->SV
 | .int kk=>.int kk (d.ii k c)
 | .bool=>.bool (d.bb k c)
 | .str=>.str (d.ss k c)
 | .sl sh=>.ro sh (d.sn k c) (d.sub k c)
 | .pt sh=>.rp sh (d.sub k c) 0 0
 | .pz sh=>.rz true (d.sn k c) sh (d.sub k c)
 | .mi sh=>.mp (.mi sh) (d.sub k c)
 | .mb=>.mp .mb (d.sub k c)
 | .m1=>.mp .m1 (d.sub k c)
def DE(d:Dat)(k:Nat):Nat->List Kd->List SV
 | _,[]=>[]
 | j,kd :: l=>Dq d k j kd :: DE d k (j+1) l
def el(sh:List Kd)(d:Dat)(k:Nat):List SV:=DE d k 0 sh
def Kd.ok:Kd->SV->Bool
 | .int kk,.int k _=>if kk=k then true else false
 | .bool,.bool _=>true
 | .str,.str _=>true
 | .sl sh,.ro sh' _ _=>Bp sh sh'
 | .pt sh,.rp sh' _ 0 0=>Bp sh sh'
 | .pz sh,.rz true _ sh' _=>Bp sh sh'
 | .mi sh,.mp kd _=>(Kd.mi sh).eqB kd
 | .mb,.mp kd _=>Kd.mb.eqB kd
 | .m1,.mp kd _=>Kd.m1.eqB kd
 | _,_=>false
def DH:List Kd->List SV->Bool
 | [],[]=>true
 | kd :: l,v :: cs=>kd.ok v&&DH l cs
 | _,_=>false
theorem FZ(d:Dat)(k:Nat):∀ (l:List Kd) (j:Nat),(DE d k j l).length=l.length
 | [],_=>rfl
 | _ :: l,j=>by simp [DE,FZ d k l]
theorem B2(sh:List Kd)(d:Dat)(k:Nat):(el sh d k).length=sh.length:=FZ d k sh 0
theorem IG(d:Dat)(k:Nat):∀ (sh:List Kd) (j c:Nat),(DE d k j sh)[c]? = (sh[c]?).map (Dq d k (j+c))
 | [],_,_=>by simp [DE]
 | kd :: sh,j,0=>by simp [DE]
 | kd :: sh,j,c+1=>by
  have:=IG d k sh (j+1) c
  rw [show j+1+c=j+(c+1) by omega] at this
  simp [DE,this]
theorem C8(sh:List Kd)(d:Dat)(k c:Nat):(el sh d k)[c]? = (sh[c]?).map (Dq d k c):=by
 have:=IG d k sh 0 c
 rw [az] at this
 exact this
theorem Db:∀ {sh:List Kd} {cs:List SV},DH sh cs=true↔cs.length=sh.length/\∀ (c:Nat) (kd:Kd) (v:SV),sh[c]? = some kd->cs[c]? = some v->kd.ok v=true
 | [],[]=>by simp [DH]
 | [],v :: cs=>by simp [DH]
 | kd :: sh,[]=>by simp [DH]
 | kd :: sh,v :: cs=>by
  simp only [DH,aq,Db]
  constructor
  .rintro ⟨h1,h2,h3⟩
   refine ⟨by simp [h2],fun c kd' v' hc hv=>?_⟩
   cases c with
   | zero=>simp at hc hv;subst hc;subst hv;exact h1
   | succ c=>exact h3 c kd' v' (by simpa using hc) (by simpa using hv)
  .rintro ⟨h1,h2⟩
   exact ⟨h2 0 kd v rfl rfl,by simpa using h1,fun c kd' v' hc hv=>h2 (c+1) kd' v' (by simpa using hc) (by simpa using hv)⟩
def Dat.has(d:Dat)(k c:Nat):SV->Prop
 | .int _ x=>d.ii k c=x
 | .bool x=>d.bb k c=x
 | .str x=>d.ss k c=x
 | .ro _ n e=>d.sn k c=n/\d.sub k c=e
 | .rp _ e _ _=>d.sub k c=e
 | .rz _ i _ e=>d.sn k c=i/\d.sub k c=e
 | .mp _ e=>d.sub k c=e
 | _=>True
theorem RW{d:Dat}{k c:Nat}{kd:Kd}{v:SV}(h:kd.ok v=true)(hd:d.has k c v):Dq d k c kd=v:=by
 cases kd with
 | int kk=>cases v with
  | int k' x=>simp only [Kd.ok] at h;simp only [Dat.has] at hd;split at h <;> simp_all [Dq]
  | _=>simp [Kd.ok] at h
 | bool=>cases v with
  | bool x=>simp only [Dat.has] at hd;simp only [Dq,hd]
  | _=>simp [Kd.ok] at h
 | str=>cases v with
  | str x=>simp only [Dat.has] at hd;simp only [Dq,hd]
  | _=>simp [Kd.ok] at h
 | sl sh=>cases v with
  | ro sh' n e=>simp only [Kd.ok] at h;simp only [Dat.has] at hd;simp only [Dq];rw [hd.1,hd.2,AW h]
  | _=>simp [Kd.ok] at h
 | pt sh=>cases v with
  | rp sh' e k' j' =>
   cases k' with
   | zero=>cases j' with
    | zero=>simp only [Kd.ok] at h;simp only [Dat.has] at hd;simp only [Dq];rw [hd,AW h]
    | succ j'=>simp [Kd.ok] at h
   | succ k'=>simp [Kd.ok] at h
  | _=>simp [Kd.ok] at h
 | pz sh=>cases v with
  | rz t i sh' e =>
   cases t with
   | true=>simp only [Kd.ok] at h;simp only [Dat.has] at hd;simp only [Dq];rw [hd.1,hd.2,AW h]
   | false=>simp [Kd.ok] at h
  | _=>simp [Kd.ok] at h
 | mi sh=>cases v with
  | mp kd e=>simp only [Kd.ok] at h;simp only [Dat.has] at hd;simp only [Dq];rw [hd,Kd.eqB_ok h]
  | _=>simp [Kd.ok] at h
 | mb=>cases v with
  | mp kd e=>simp only [Kd.ok] at h;simp only [Dat.has] at hd;simp only [Dq];rw [hd,Kd.eqB_ok h]
  | _=>simp [Kd.ok] at h
 | m1=>cases v with
  | mp kd e=>simp only [Kd.ok] at h;simp only [Dat.has] at hd;simp only [Dq];rw [hd,Kd.eqB_ok h]
  | _=>simp [Kd.ok] at h
theorem Qt(d:Dat)(k c:Nat)(kd:Kd):d.has k c (Dq d k c kd):=by cases kd <;> simp [Dat.has,Dq]
theorem Qe{sh:List Kd}{d:Dat}{k:Nat}{cs:List SV}(h:DH sh cs=true)(hd:∀ c v,cs[c]? = some v->d.has k c v):el sh d k=cs:=by
 rw [Db] at h
 apply List.ext_getElem?
 intro c
 rw [C8]
 cases hs:sh[c]? with
 | none =>
  have:cs[c]? = none:=by rw [List.getElem?_eq_none_iff] at hs ⊢;omega
  rw [this];rfl
 | some kd =>
  have hl:c<cs.length:=by rw [h.1];exact (ax.1 hs).1
  have hv:cs[c]? = some cs[c]:=List.getElem?_eq_getElem hl
  rw [hv]
  simp only [Option.map_some]
  rw [RW (h.2 c kd _ hs hv) (hd c _ hv)]
mutual
theorem Kd.eqB_refl:∀ kd:Kd,kd.eqB kd=true
 | .int _=>by simp [Kd.eqB]
 | .bool=>rfl
 | .str=>rfl
 | .sl l=>by simp only [Kd.eqB];exact CX l
 | .pt l=>by simp only [Kd.eqB];exact CX l
 | .pz l=>by simp only [Kd.eqB];exact CX l
 | .mi l=>by simp only [Kd.eqB];exact CX l
 | .mb=>rfl
 | .m1=>rfl
theorem CX:∀ l:List Kd,Bp l l=true
 | []=>rfl
 | kd :: l=>by simp [Bp,Kd.eqB_refl kd,CX l]
end
theorem RX(d:Dat)(k c:Nat)(kd:Kd):kd.ok (Dq d k c kd)=true:=by cases kd <;> simp [Kd.ok,Dq,CX,Kd.eqB]
theorem T5(sh:List Kd)(d:Dat)(k:Nat):DH sh (el sh d k)=true:=by
 rw [Db]
 refine ⟨B2 sh d k,fun c kd v hc hv=>?_⟩
 rw [C8,hc] at hv
 cases hv
 exact RX d k c kd
theorem DG{O:Env}{d:Dat}{k c:Nat}{kd:Kd}{x:Value}:(Dq d k c kd).den O x↔kd.den O.od d k c x:=by cases kd <;> exact Iff.rfl
theorem Ox{O:Env}{d:Dat}{q b o:Nat}:∀ {l:List Kd} {c:Nat},Kd.denL O.od l d q c b o↔∀ j v,(DE d q c l)[j]? = some v->∃ y,O.od b (o+(c+j))=some y/\v.den O y
 | [],c=>by simp [Kd.denL,DE]
 | kd :: l,c=>by
  simp only [Kd.denL,DE]
  rw [Ox (l:=l)]
  constructor
  .rintro ⟨⟨y,hy,hd⟩,h⟩ j v hj
   cases j with
   | zero=>simp at hj;subst hj;exact ⟨y,hy,DG.2 hd⟩
   | succ j=>have:=h j v (by simpa using hj);rwa [show c+1+j=c+(j+1) by omega] at this
  .intro h
   refine ⟨?_,fun j v hj=>?_⟩
   .obtain ⟨y,hy,hd⟩:=h 0 _ rfl;exact ⟨y,hy,DG.1 hd⟩
   .have:=h (j+1) v (by simpa using hj);rwa [show c+(j+1)=c+1+j by omega] at this
theorem BN{O:Env}{sh:List Kd}{d:Dat}{q b o:Nat}:Kd.denL O.od sh d q 0 b o↔∀ j v,(el sh d q)[j]? = some v->∃ y,O.od b (o+j)=some y/\v.den O y:=by
 rw [Ox];simp [el]
inductive Blk where
 | unk
 | cells (e:Nat) (l:List SV)
 | row (e:Nat) (sh:List Kd) (n:Nat) (d:Dat)
def Blk.mine:Blk->Bool
 | .cells _ _ | .row _ _ _ _=>true
 | _=>false
def Blk.isUnk:Blk->Bool
 | .unk=>true
 | _=>false
def Blk.ghost:Blk->Prop
 | .row _ _ n _=>n=0
 | _=>False
def F4(O:Env)(w:World)(m:Nm)(size n:Nat)(f:Nat->List SV):Prop :=
 ∀ k,k<n->(f k).length=size/\∀ j v,(f k)[j]? = some v->∃ x,w.cell? ⟨m.blk,m.off+(k * size+j),none⟩=some x/\v.den O x
def Blk.den(O:Env)(w:World)(m:Nm):Blk->Prop
 | .unk=>True
 | .cells e l=>m.off=0/\∃ c,w.heap[m.blk]? = some (.cells c e (0,0))/\SV.denL O l c.toList
 | .row e sh n d=>m.off=0/\n<=m.cap/\(∃ c,w.heap[m.blk]? = some (.cells c e (0,0))/\c.size=m.cap * sh.length/\m.cap<=maxLen)/\F4 O w m sh.length n (el sh d)
theorem F4.mono{O O':Env}{w:World}{m:Nm}{size n:Nat}{f:Nat->List SV}(h:F4 O w m size n f)(he:Ext O O'):F4 O' w m size n f :=
 fun k hk=>⟨(h k hk).1,fun j v hv=>let ⟨x,hx,hd⟩:=(h k hk).2 j v hv;⟨x,hx,SV.den_mono he _ _ hd⟩⟩
theorem F4.same{O:Env}{w w':World}{m:Nm}{size n:Nat}{f:Nat->List SV}(h:F4 O w m size n f)(hb:w'.heap[m.blk]? = w.heap[m.blk]?):F4 O w' m size n f :=
 fun k hk=>⟨(h k hk).1,fun j v hv=>let ⟨x,hx,hd⟩:=(h k hk).2 j v hv;⟨x,by rw [World.cell?_of_block (w:=w) (by exact hb)];exact hx,hd⟩⟩
theorem Blk.den_mono{O O':Env}{w:World}{m:Nm}{b:Blk}(h:b.den O w m)(he:Ext O O'):b.den O' w m:=by
 cases b with
 | unk=>trivial
 | cells e l=>obtain ⟨h0,c,hc,hd⟩:=h;exact ⟨h0,c,hc,SV.denL_mono he _ _ hd⟩
 | row e size n f=>obtain ⟨h0,h1,h2,h3⟩:=h;exact ⟨h0,h1,h2,h3.mono he⟩
theorem Blk.den_same{O:Env}{w w':World}{m:Nm}{b:Blk}(h:b.den O w m)(hb:w'.heap[m.blk]? = w.heap[m.blk]?):b.den O w' m:=by
 cases b with
 | unk=>trivial
 | cells e l=>obtain ⟨h0,c,hc,hd⟩:=h;exact ⟨h0,c,hb.trans hc,hd⟩
 | row e size n f=>obtain ⟨h0,h1,⟨c,hc,hs⟩,h3⟩:=h;exact ⟨h0,h1,⟨c,hb.trans hc,hs⟩,h3.same hb⟩
structure AR (B:Nat) (M:List Nat) (w w':World):Prop where
 os:w'.os=w.os
 tape:w'.tape=w.tape
 output:w'.output=w.output
 size:w.heap.size<=w'.heap.size
 block:∀ k,k<B->k ∉ M->w'.heap[k]? = w.heap[k]?
theorem AR.refl(B:Nat)(M:List Nat)(w:World):AR B M w w:=⟨rfl,rfl,rfl,Nat.le_refl _,fun _ _ _=>rfl⟩
theorem AR.trans{B:Nat}{M:List Nat}{a b c:World}(h:AR B M a b)(k:AR B M b c):AR B M a c :=
 ⟨k.os.trans h.os,k.tape.trans h.tape,k.output.trans h.output,Nat.le_trans h.size k.size,fun i hi hm=>(k.block i hi hm).trans (h.block i hi hm)⟩
structure Bj (od:Od) (w:World):Prop where
 c:∀ b o v,od b o=some v->w.cell? ⟨b,o,none⟩=some v
 m:∀ b v,od.m b=some v->w.heap[b]? = some (.map v.1 v.2)
 p:∀ b i,od.p.f b=some i->(∃ v,od b 0=some v)/\∃ c t,w.heap[b]? = some (.cells c t (0,0))
instance (od:Od) (w:World):CoeFun (Bj od w) fun _=>∀ b o v,od b o=some v->w.cell? ⟨b,o,none⟩=some v:=⟨Bj.c⟩
theorem Bj.m_lt{od:Od}{w:World}(h:Bj od w){b:Nat}{v:Array MapEntry × Nat}(hv:od.m b=some v):b<w.heap.size:=(Array.getElem?_eq_some_iff.1 (h.m b v hv)).1
structure OdN (od od':Od) (n:Nat) (w':World):Prop where
 c:∀ b o v,od' b o=some v->od b o=some v\/(w'.cell? ⟨b,o,none⟩=some v/\n<=b)
 m:∀ b v,od'.m b=some v->od.m b=some v\/(w'.heap[b]? = some (.map v.1 v.2)/\n<=b)
 p:od'.p=od.p
instance (od od':Od) (n:Nat) (w':World):CoeFun (OdN od od' n w') fun _=>∀ b o v,od' b o=some v->od b o=some v\/(w'.cell? ⟨b,o,none⟩=some v/\n<=b):=⟨OdN.c⟩
structure OdB (od od':Od) (n:Nat):Prop where
 c:∀ b o v,od' b o=some v->od b o=some v\/n<=b
 m:∀ b v,od'.m b=some v->od.m b=some v\/n<=b
 p:od'.p=od.p
instance (od od':Od) (n:Nat):CoeFun (OdB od od' n) fun _=>∀ b o v,od' b o=some v->od b o=some v\/n<=b:=⟨OdB.c⟩
theorem OdB.step{od0 od od':Od}{B n:Nat}{w':World}(h:OdB od0 od B)(k:OdN od od' n w')(hn:B<=n):OdB od0 od' B :=
 ⟨fun b o v hv=>(k b o v hv).elim (h b o v) fun h1=>.inr (Nat.le_trans hn h1.2),fun b v hv=>(k.m b v hv).elim (h.m b v) fun h1=>.inr (Nat.le_trans hn h1.2),k.p.trans h.p⟩
theorem AB.ofC{od:Od}{c:Nat->Nat->Option Value}(h:∀ b o v,od b o=some v->c b o=some v):AB od ⟨c,od.m,od.p⟩:=⟨h,fun _ _ h=>h,fun _ _ h=>h⟩
theorem OdN.ofC{od:Od}{c:Nat->Nat->Option Value}{n:Nat}{w':World}(h:∀ b o v,c b o=some v->od b o=some v\/(w'.cell? ⟨b,o,none⟩=some v/\n<=b)):OdN od ⟨c,od.m,od.p⟩ n w':=⟨h,fun _ _ h=>.inl h,rfl⟩
structure Ak (B:Nat) (M:List Nat) (O:Env) (mem:Nat->Blk) (w:World):Prop where
 at_:∀ i,(mem i).isUnk=false->(∀ m,O i=some m->m.blk<w.heap.size/\(mem i).den O w m/\(B<=m.blk\/m.blk∈M))/\(O i=none->(mem i).ghost)
 apart:∀ i j m m',i≠j->(mem i).isUnk=false->(mem j).isUnk=false->O i=some m->O j=some m'->m.blk≠m'.blk
 seal_:Bj O.od w
 free:∀ i m,(mem i).isUnk=false->O i=some m->∀ o,O.od m.blk o=none
 pv:Gs w
theorem Ak.get{B:Nat}{M:List Nat}{O:Env}{mem:Nat->Blk}{w:World}(h:Ak B M O mem w){i:Nat}{m:Nm}(hi:(mem i).isUnk=false)(hm:O i=some m):m.blk<w.heap.size/\(mem i).den O w m/\(B<=m.blk\/m.blk∈M):=(h.at_ i hi).1 m hm
theorem Ak.get'{B:Nat}{M:List Nat}{O:Env}{mem:Nat->Blk}{w:World}(h:Ak B M O mem w){i:Nat}(hi:(mem i).isUnk=false)(hg:¬ (mem i).ghost):∃ m,O i=some m/\m.blk<w.heap.size/\(mem i).den O w m/\(B<=m.blk\/m.blk∈M):=by
 cases hm:O.nm i with
 | none=>exact absurd ((h.at_ i hi).2 hm) hg
 | some m=>exact ⟨m,rfl,h.get hi hm⟩
theorem Blk.den_cells{O:Env}{w:World}{m:Nm}{b:Blk}(h:b.den O w m)(hk:b.isUnk=false):∃ c e,w.heap[m.blk]? = some (.cells c e (0,0)):=by
 cases b with
 | unk=>cases hk
 | cells e l=>obtain ⟨_,c,hc,_⟩:=h;exact ⟨c,e,hc⟩
 | row e size n f=>obtain ⟨_,_,⟨c,hc,_⟩,_⟩:=h;exact ⟨c,e,hc⟩
theorem Ak.map_ne{B:Nat}{M:List Nat}{O:Env}{mem:Nat->Blk}{w:World}(h:Ak B M O mem w){i:Nat}{m:Nm}(hi:(mem i).isUnk=false)(hm:O i=some m){b:Nat}{v:Array MapEntry × Nat}(hv:O.od.m b=some v):m.blk≠b:=fun e=>by
 obtain ⟨c,e',hc⟩:=Blk.den_cells (h.get hi hm).2.1 hi
 rw [e,h.seal_.m b v hv] at hc
 cases hc
theorem Ak.od_lt{B:Nat}{M:List Nat}{O:Env}{mem:Nat->Blk}{w:World}(h:Ak B M O mem w){b o:Nat}{v:Value}(hv:O.od b o=some v):b<w.heap.size:=World.block_lt_of_cell? w _ (h.seal_ b o v hv)
structure Ae where
 v:SV
 news:List Blk:=[]
 upds:List (Nat × Blk):=[]
 need:List Bool:=[]
structure A5 (O O':Env) (off:Nat) (r:Ae) (w w':World) (x:Value):Prop where
 val:r.v.den O' x
 ext:Ext O O'
 old:∀ i,i<off\/off+r.news.length<=i->O' i=O i
 os:w'.os=w.os
 tape:w'.tape=w.tape
 output:w'.output=w.output
 size:w.heap.size<=w'.heap.size
 keep:∀ b,b<w.heap.size->(∀ u∈r.upds,∀ m,O u.1=some m->m.blk≠b)->w'.heap[b]? = w.heap[b]?
 odn:OdN O.od O'.od w.heap.size w'
 upd:∀ u∈r.upds,u.2.isUnk=false->(∀ m,O u.1=some m->u.2.den O' w' m)/\(O u.1=none->u.2.ghost)
 new:∀ j b,r.news[j]? = some b->b.isUnk=false->(∀ m,O' (off+j)=some m->m.blk<w'.heap.size/\b.den O' w' m/\(∀ o,O'.od m.blk o=none)/\(w.heap.size<=m.blk\/∃ u∈r.upds,u.2.isUnk=true/\∃ m',O u.1=some m'/\m'.blk=m.blk))/\(O' (off+j)=none->b.ghost)
 newapart:∀ j j' b b' m m',j≠j'->r.news[j]? = some b->r.news[j']? = some b'->b.isUnk=false->b'.isUnk=false->O' (off+j)=some m->O' (off+j')=some m'->m.blk≠m'.blk
theorem A5.pure_{O:Env}{off:Nat}{v:SV}{need:List Bool}{w:World}{x:Value}(h:v.den O x):A5 O O off { v:=v,need:=need } w w x :=
 ⟨h,Ext.refl _,fun _ _=>rfl,rfl,rfl,rfl,Nat.le_refl _,fun _ _ _=>rfl,⟨fun _ _ _ h=>.inl h,fun _ _ h=>.inl h,rfl⟩,fun _ hu=>by simp at hu,fun _ _ hj=>by simp at hj,fun _ _ _ _ _ _ _ hj=>by simp at hj⟩
def Env.set(O:Env)(i:Nat)(m:Nm):Env:=⟨fun j=>if j=i then some m else O j,O.od,O.gl⟩
theorem Env.set_ext{O:Env}{i:Nat}{m:Nm}(h:O i=none):Ext O (O.set i m):=⟨fun j k hj=>by
 unfold Env.set
 by_cases e:j=i
 .subst e;rw [h] at hj;cases hj
 .simp only [if_neg e];exact hj,⟨fun _ _ _ h=>h,fun _ _ h=>h,fun _ _ h=>h⟩⟩
theorem Env.set_same(O:Env)(i:Nat)(m:Nm):(O.set i m) i=some m:=by simp [Env.set]
theorem Env.set_other{O:Env}{i j:Nat}{m:Nm}(h:j≠i):(O.set i m) j=O j:=by simp [Env.set,h]
theorem A5.alloc{O:Env}{off:Nat}{r:Ae}{b:Blk}{need:List Bool}{w:World}{x:Value}{c:Array Value}{e:Nat}{cap:Nat}(hf:O off=none)(hr:r={ v:=r.v,news:=[b],need:=need })(hod:∀ b o v,O.od b o=some v->b<w.heap.size)(hb:b.den (O.set off ⟨w.heap.size,0,cap⟩) (w.alloc (.cells c e)) ⟨w.heap.size,0,cap⟩)(hv:r.v.den (O.set off ⟨w.heap.size,0,cap⟩) x) :
  A5 O (O.set off ⟨w.heap.size,0,cap⟩) off r w (w.alloc (.cells c e)) x:=by
 rw [hr] at hv ⊢
 refine ⟨hv,Env.set_ext hf,fun i hi=>Env.set_other (by simp at hi;omega),rfl,rfl,rfl,by simp,fun k hk _=>Below.heap_alloc _ _ _ hk,⟨fun _ _ _ h=>.inl h,fun _ _ h=>.inl h,rfl⟩,fun _ hu=>by simp at hu,fun j b' hj _=>?_,fun j j' b b' m m' hne hj hj'=>?_⟩
 .cases j with
  | zero =>
   simp at hj;subst hj
   refine ⟨fun m hm=>?_,fun hn=>?_⟩
   .rw [Nat.add_zero,Env.set_same] at hm;cases hm
    refine ⟨by simp,hb,fun o=>?_,.inl (Nat.le_refl _)⟩
    cases ho:(O.set off ⟨w.heap.size,0,cap⟩).od w.heap.size o with
    | none=>rfl
    | some v=>exact absurd (hod _ _ _ ho) (by simp)
   .rw [Nat.add_zero,Env.set_same] at hn;cases hn
  | succ j=>simp at hj
 .cases j <;> cases j' <;> simp at hj hj' hne
def Ds(mem:Nat->Blk)(off:Nat)(news:List Blk):Nat->Blk:=fun i=>if i<off then mem i else match news[i - off]? with | some b=>b | none=>mem i
def Bo(mem:Nat->Blk):List (Nat × Blk)->Nat->Blk
 | []=>mem
 | u :: us=>fun i=>if i=u.1 then u.2 else Bo mem us i
def Ae.mem(r:Ae)(mem:Nat->Blk)(off:Nat):Nat->Blk:=Ds (Bo mem r.upds) off r.news
theorem E9(mem:Nat->Blk):∀ (us:List (Nat × Blk)) (i:Nat),(∃ u∈us,u.1=i/\Bo mem us i=u.2)\/((∀ u∈us,u.1≠i)/\Bo mem us i=mem i)
 | [],i=>.inr ⟨fun _ h=>by simp at h,rfl⟩
 | u :: us,i=>by
  by_cases e:i=u.1
  .exact .inl ⟨u,by simp,e.symm,by simp [Bo,e]⟩
  .rcases E9 mem us i with ⟨v,hv,h1,h2⟩ | ⟨h1,h2⟩
   .exact .inl ⟨v,by simp [hv],h1,by simp [Bo,e,h2]⟩
   .refine .inr ⟨fun v hv=>?_,by simp [Bo,e,h2]⟩
    rcases List.mem_cons.1 hv with rfl | hv
    .exact fun h=>e h.symm
    .exact h1 v hv
theorem E8(mem:Nat->Blk)(off:Nat)(news:List Blk)(i:Nat):(∃ j b,i=off+j/\news[j]? = some b/\Ds mem off news i=b)\/((i<off\/off+news.length<=i)/\Ds mem off news i=mem i):=by
 unfold Ds
 by_cases h:i<off
 .exact .inr ⟨.inl h,by rw [if_pos h]⟩
 .rw [if_neg h]
  cases hn:news[i - off]? with
  | some b=>exact .inl ⟨i - off,b,by omega,hn,rfl⟩
  | none=>exact .inr ⟨.inr (by have:=List.getElem?_eq_none_iff.1 hn;omega),rfl⟩
def Ae.fits(r:Ae)(mem:Nat->Blk)(off:Nat):Prop:=(∀ u∈r.upds,(mem u.1).mine=true/\u.1<off)/\∀ u∈r.upds,∀ u'∈r.upds,u.1=u'.1->u.2=u'.2
theorem Blk.not_unk_of_mine{b:Blk}(h:b.mine=true):b.isUnk=false:=by cases b <;> simp_all [Blk.mine,Blk.isUnk]
theorem Ae.mem_cases(r:Ae)(mem:Nat->Blk)(off:Nat)(hf:r.fits mem off)(i:Nat)(hi:(r.mem mem off i).isUnk=false) :
  (∃ j b,i=off+j/\r.news[j]? = some b/\r.mem mem off i=b) \/
  ((i<off\/off+r.news.length<=i)/\(∀ u∈r.upds,u.2.isUnk=true->u.1≠i) /\
   ((∃ u∈r.upds,u.1=i/\r.mem mem off i=u.2/\(mem i).mine=true)\/((∀ u∈r.upds,u.1≠i)/\r.mem mem off i=mem i))):=by
 rcases E8 (Bo mem r.upds) off r.news i with ⟨j,b,h1,hj,he⟩ | ⟨ho,he⟩
 .exact .inl ⟨j,b,h1,hj,he⟩
 .refine .inr ⟨ho,?_⟩
  rcases E9 mem r.upds i with ⟨u,hu,e,hv⟩ | ⟨hno,hv⟩
  .have he':r.mem mem off i=u.2:=he.trans hv
   refine ⟨fun u' hu' hk e'=>?_,.inl ⟨u,hu,e,he',by rw [<- e];exact (hf.1 u hu).1⟩⟩
   have:=hf.2 u hu u' hu' (e.trans e'.symm)
   rw [he',this,hk] at hi
   cases hi
  .exact ⟨fun u' hu' _=>hno u' hu',.inr ⟨hno,he.trans hv⟩⟩
theorem A5.memDen{B:Nat}{M:List Nat}{O O':Env}{mem:Nat->Blk}{off:Nat}{r:Ae}{w w':World}{x:Value}(hm:Ak B M O mem w)(h:A5 O O' off r w w' x)(hf:r.fits mem off)(hB:B<=w.heap.size):Ak B M O' (r.mem mem off) w':=by
 have isOld:∀ i m,(mem i).isUnk=false->(i<off\/off+r.news.length<=i)->O' i=some m->O i=some m/\m.blk<w.heap.size:=by
  intro i m hi ho hm'
  rw [h.old _ ho] at hm'
  exact ⟨hm',(hm.get hi hm').1⟩
 have sealed:∀ b o v,O.od b o=some v->w'.heap[b]? = w.heap[b]?:=fun b o v hv=>h.keep b (hm.od_lt hv) fun u hu m hm' e=>by
  subst e
  rw [hm.free u.1 m (Blk.not_unk_of_mine (hf.1 u hu).1) hm' o] at hv
  cases hv
 have wasKnown:∀ i,(r.mem mem off i).isUnk=false->((∃ u∈r.upds,u.1=i/\r.mem mem off i=u.2/\(mem i).mine=true)\/((∀ u∈r.upds,u.1≠i)/\r.mem mem off i=mem i))->(mem i).isUnk=false:=by
  rintro i hi (⟨_,_,_,_,h⟩ | ⟨_,h⟩)
  .exact Blk.not_unk_of_mine h
  .rw [h] at hi;exact hi
 refine ⟨fun i hi=>?_,fun i j m m' hne hi hj hmi hmj=>?_,⟨fun b o v hv=>?_,fun b v hv=>?_,fun b i hp=>?_⟩,fun i m hi hmi o=>?_,hm.pv.keep O.gl (fun b o v hv=>sealed b o v hv) fun b v hv=>h.keep b (hm.seal_.m_lt hv) fun u hu m hm'=>hm.map_ne (Blk.not_unk_of_mine (hf.1 u hu).1) hm' hv⟩
 .rcases r.mem_cases mem off hf i hi with ⟨j,b,rfl,hj,he⟩ | ⟨ho,_,⟨u,hu,rfl,he,hmine⟩ | ⟨hno,he⟩⟩
  .rw [he] at hi ⊢
   obtain ⟨h1,h2⟩:=h.new j b hj hi
   refine ⟨fun m hm'=>?_,h2⟩
   obtain ⟨g1,g2,_,g4⟩:=h1 m hm'
   refine ⟨g1,g2,?_⟩
   rcases g4 with g4 | ⟨u,hu,_,m',hm',e⟩
   .exact .inl (by omega)
   .rw [<- e];exact (hm.get (Blk.not_unk_of_mine (hf.1 u hu).1) hm').2.2
  .rw [he] at hi ⊢
   obtain ⟨h1,h2⟩:=h.upd u hu hi
   refine ⟨fun m hm'=>?_,fun hn=>h2 (by rw [<- h.old _ ho];exact hn)⟩
   rw [h.old _ ho] at hm'
   obtain ⟨g1,_,g3⟩:=hm.get (Blk.not_unk_of_mine hmine) hm'
   exact ⟨by have:=h.size;omega,h1 m hm',g3⟩
  .rw [he] at hi ⊢
   refine ⟨fun m hm'=>?_,fun hn=>(hm.at_ i hi).2 (by rw [<- h.old _ ho];exact hn)⟩
   rw [h.old _ ho] at hm'
   obtain ⟨g1,g2,g3⟩:=hm.get hi hm'
   have hkeep:w'.heap[m.blk]? = w.heap[m.blk]?:=h.keep _ g1 fun u hu m' hm''=>hm.apart u.1 i m' m (hno u hu) (Blk.not_unk_of_mine (hf.1 u hu).1) hi hm'' hm'
   exact ⟨by have:=h.size;omega,Blk.den_mono (Blk.den_same g2 hkeep) h.ext,g3⟩
 .have newOld:∀ a b m m',(∃ j bb,a=off+j/\r.news[j]? = some bb/\r.mem mem off a=bb)->(r.mem mem off a).isUnk=false->(b<off\/off+r.news.length<=b)->(∀ u∈r.upds,u.2.isUnk=true->u.1≠b)->(mem b).isUnk=false->O' a=some m->O' b=some m'->m.blk≠m'.blk:=by
   rintro a b m m' ⟨j,bb,rfl,hj,he⟩ ha hob hnob hkb hma hmb
   obtain ⟨hmb',hlt⟩:=isOld b m' hkb hob hmb
   rw [he] at ha
   obtain ⟨_,_,_,h4⟩:=(h.new j bb hj ha).1 m hma
   rcases h4 with h4 | ⟨u,hu,hunk,m2,e2,e3⟩
   .omega
   .rw [<- e3]
    exact hm.apart u.1 b m2 m' (hnob u hu hunk) (Blk.not_unk_of_mine (hf.1 u hu).1) hkb e2 hmb'
  rcases r.mem_cases mem off hf i hi with hn | ⟨ho,hno,hc⟩ <;> rcases r.mem_cases mem off hf j hj with hn' | ⟨ho',hno',hc'⟩
  .obtain ⟨a,b,rfl,ha,e⟩:=hn
   obtain ⟨a',b',rfl,ha',e'⟩:=hn'
   rw [e] at hi;rw [e'] at hj
   exact h.newapart a a' b b' m m' (by omega) ha ha' hi hj hmi hmj
  .exact newOld i j m m' hn hi ho' hno' (wasKnown j hj hc') hmi hmj
  .exact fun e=>newOld j i m' m hn' hj ho hno (wasKnown i hi hc) hmj hmi e.symm
  .exact hm.apart i j m m' hne (wasKnown i hi hc) (wasKnown j hj hc') (isOld i m (wasKnown i hi hc) ho hmi).1 (isOld j m' (wasKnown j hj hc') ho' hmj).1
 .rcases h.odn b o v hv with hv | ⟨hv,_⟩
  .rw [World.cell?_of_block (w:=w) (sealed b o v hv)];exact hm.seal_ b o v hv
  .exact hv
 .rcases h.odn.m b v hv with hv | ⟨hv,_⟩
  .rw [h.keep b (hm.seal_.m_lt hv) fun u hu m hm'=>hm.map_ne (Blk.not_unk_of_mine (hf.1 u hu).1) hm' hv];exact hm.seal_.m b v hv
  .exact hv
 .rw [h.odn.p] at hp
  obtain ⟨⟨v,hv⟩,c,t,hc⟩:=hm.seal_.p b i hp
  exact ⟨⟨v,h.ext.od b 0 v hv⟩,c,t,(sealed b 0 v hv).trans hc⟩
 .rcases r.mem_cases mem off hf i hi with ⟨j,b,rfl,hj,he⟩ | ⟨ho,_,hc⟩
  .rw [he] at hi
   exact ((h.new j b hj hi).1 m hmi).2.2.1 o
  .have hk:=wasKnown i hi hc
   obtain ⟨g1,g2⟩:=isOld i m hk ho hmi
   cases hod:O'.od m.blk o with
   | none=>rfl
   | some v =>
    rcases h.odn _ _ _ hod with h1 | ⟨_,h1⟩
    .rw [hm.free i m hk g1 o] at h1;cases h1
    .omega
theorem A5.kept{B:Nat}{M:List Nat}{O O':Env}{mem:Nat->Blk}{off:Nat}{r:Ae}{w0 w w':World}{x:Value}(hm:Ak B M O mem w)(h:A5 O O' off r w w' x)(hf:r.fits mem off)(hk:AR B M w0 w)(hB:B<=w.heap.size):AR B M w0 w':=by
 refine hk.trans ⟨h.os,h.tape,h.output,h.size,fun k hk hM=>h.keep k (by omega) fun u hu m hm' e=>?_⟩
 have hmine:=(hf.1 u hu).1
 obtain ⟨_,_,hp⟩:=hm.get (Blk.not_unk_of_mine hmine) hm'
 subst e
 rcases hp with hp | hp
 .omega
 .exact hM hp
end Go.Sy
namespace Go.Sy
open Go.RowKit
variable [AO]
structure A4 where
 na:Nat
 nt:Nat
 tm:Nat->SV
 nx:Nat
 mem:Nat->Blk
 /-- A truth value that is taken for granted (each use asks for it). -/
 as:Option (Nat × Bool):=none
abbrev Asm:=List (Nat × Bool)
def Asm.has(asm:Asm)(t:Nat)(pol:Bool):Bool:=asm.any fun p=>p.1 == t&&p.2 == pol
def SV.res(asm:Asm):SV->SV
 | .gd t pol v=>if asm.has t pol then v else .any
 | v=>v
def Pm:Value->SV
 | .int k n=>.int k n
 | .bool b=>.bool b
 | .string s=>.str s
 | v=>.val v
def ofV:Value->SV
 | .agg cs=>.agg (cs.toList.map Pm)
 | .slice none 0 0=>.nsl
 | v=>Pm v
theorem J9(O:Env)(v:Value):(Pm v).den O v:=by cases v <;> simp [Pm,SV.den]
theorem Kf(O:Env):∀ l:List Value,SV.denL O (l.map Pm) l
 | []=>trivial
 | v :: l=>⟨J9 O v,Kf O l⟩
theorem S7(O:Env)(v:Value):(ofV v).den O v:=by
 unfold ofV
 split
 .rename_i cs;exact ⟨cs.toList,by simp,Kf O _⟩
 .rfl
 .exact J9 O _
def B4(O:Env)(a:Act):SV->Value->Prop
 | .gd t pol v,x=>(a.tmps[t]? = some (.bool pol)/\v.den O x)\/(a.tmps[t]?≠some (.bool pol)/\x=undef)
 | v,x=>v.den O x
structure BH where
 w:World
 O:Env
 n:Nat
 ob:Nat->Option Obj:=fun _=>none
 df:Option (List Deferred):=none
structure FU (O:Env) (mem:Nat->Blk) (w:World) (b:Nat) (o:Obj):Prop where
 at_:w.heap[b]? = some o
 off:∀ i m,(mem i).isUnk=false->O i=some m->m.blk≠b
 nod:∀ k,O.od b k=none
 nom:O.od.m b=none
structure EB (B:Nat) (ob:Nat->Option Obj) (df:Option (List Deferred)) (O:Env) (mem:Nat->Blk) (w:World) (ds:List Deferred):Prop where
 ob:∀ b o,ob b=some o->FU O mem w b o
 at_:∀ d∈ds,∃ D,d={ target:=.collected D,args:=#[] }/\B<=D/\FU O mem w D (.deferred (some []))
 nd:ds.Nodup
 same_:∀ d,df=some d->ds=d
theorem FU.lt{O:Env}{mem:Nat->Blk}{w:World}{b:Nat}{o:Obj}(h:FU O mem w b o):b<w.heap.size:=(Array.getElem?_eq_some_iff.1 h.at_).1
theorem FU.same{O:Env}{mem:Nat->Blk}{w w':World}{b:Nat}{o:Obj}(h:FU O mem w b o)(hb:w'.heap[b]? = w.heap[b]?):FU O mem w' b o:=⟨hb.trans h.at_,h.off,h.nod,h.nom⟩
theorem FU.unk{O:Env}{mem mem':Nat->Blk}{w:World}{b:Nat}{o:Obj}(h:FU O mem w b o)(hw:∀ q,(mem' q).isUnk=false->(mem q).isUnk=false):FU O mem' w b o:=⟨h.at_,fun i m hi hm=>h.off i m (hw i hi) hm,h.nod,h.nom⟩
theorem FU.step{O O':Env}{mem:Nat->Blk}{off:Nat}{r:Ae}{w w':World}{x:Value}{b:Nat}{o:Obj}(h:FU O mem w b o)(hp:A5 O O' off r w w' x)(hf:r.fits mem off):FU O' (r.mem mem off) w' b o:=by
 refine ⟨(hp.keep b h.lt fun u hu m hm=>h.off u.1 m (Blk.not_unk_of_mine (hf.1 u hu).1) hm).trans h.at_,fun i m hi hm=>?_,fun k=>?_,?_⟩
 .rcases r.mem_cases mem off hf i hi with ⟨j,bb,rfl,hj,he⟩ | ⟨ho,_,hc⟩
  .rw [he] at hi
   obtain ⟨_,_,_,h4⟩:=(hp.new j bb hj hi).1 m hm
   rcases h4 with h4 | ⟨u,hu,_,m',hm',e⟩
   .have:=h.lt;omega
   .rw [<- e];exact h.off u.1 m' (Blk.not_unk_of_mine (hf.1 u hu).1) hm'
  .rw [hp.old i ho] at hm
   refine h.off i m ?_ hm
   rcases hc with ⟨_,_,_,_,hc⟩ | ⟨_,hc⟩
   .exact Blk.not_unk_of_mine hc
   .rw [hc] at hi;exact hi
 .cases hod:O'.od b k with
  | none=>rfl
  | some v =>
   rcases hp.odn b k v hod with h1 | ⟨_,h1⟩
   .rw [h.nod k] at h1;cases h1
   .have:=h.lt;omega
 .cases hod:O'.od.m b with
  | none=>rfl
  | some v =>
   rcases hp.odn.m b v hod with h1 | ⟨_,h1⟩
   .rw [h.nom] at h1;cases h1
   .have:=h.lt;omega
section side
variable {B:Nat} {ob:Nat->Option Obj} {df:Option (List Deferred)} {O O':Env} {mem mem':Nat->Blk} {w w':World} {ds:List Deferred}
theorem EB.map(h:EB B ob df O mem w ds)(hh:∀ b o,FU O mem w b o->FU O' mem' w' b o):EB B ob df O' mem' w' ds :=
 ⟨fun b o hb=>hh b o (h.ob b o hb),fun d hd=>let ⟨D,e,hB,hD⟩:=h.at_ d hd;⟨D,e,hB,hh _ _ hD⟩,h.nd,h.same_⟩
theorem EB.step{off:Nat}{r:Ae}{x:Value}(h:EB B ob df O mem w ds)(hp:A5 O O' off r w w' x)(hf:r.fits mem off):EB B ob df O' (r.mem mem off) w' ds:=h.map fun _ _ k=>k.step hp hf
theorem EB.unk(h:EB B ob df O mem w ds)(hw:∀ q,(mem' q).isUnk=false->(mem q).isUnk=false):EB B ob df O mem' w ds:=h.map fun _ _ k=>k.unk hw
theorem EB.same(h:EB B ob df O mem w ds)(hw:w'.heap=w.heap):EB B ob df O mem w' ds:=h.map fun _ _ k=>k.same (by rw [hw])
theorem EB.none(B:Nat)(O:Env)(mem:Nat->Blk)(w:World):EB B (fun _=>Option.none) Option.none O mem w []:=⟨fun _ _ h=>(by cases h),fun _ h=>(by cases h),List.nodup_nil,fun _ h=>(by cases h)⟩
end side
structure Ab (B:Nat) (M:List Nat) (w0:BH) (O:Env) (s:A4) (a:Act) (w:World):Prop where
 defs:EB B w0.ob w0.df O s.mem w a.defers
 size:a.tmps.size=s.nt
 tmp:∀ i x,a.tmps[i]? = some x->B4 O a (s.tm i) x
 fresh:∀ i,s.nx<=i->O i=none
 mem:Ak B M O s.mem w
 kept:AR B M w0.w w
 base:B<=w.heap.size
 ext:Ext w0.O O
 argn:∀ i,w0.n<=i->w0.O i=none
 argl:∀ i,i<w0.n->O i=w0.O i
 nab:s.na=w0.n
 nale:w0.n<=s.nx
 odb:OdB w0.O.od O.od B
 mz:w0.n=0->M=[]
def T9(g:Nat):SV:=if AO.onK=true/\g=0 then .ra [.str] 5 { A3 with ss:=fun q _=>Fi.getD q ⟨#[]⟩ } else .val (.pointer (some ⟨g,0,none⟩))
theorem Qi(O:Env)(g:Nat):(T9 g).den O (.pointer (some ⟨g,0,none⟩)):=by
 unfold T9
 by_cases h:AO.onK=true/\g=0
 .rw [if_pos h,h.2]
  refine ⟨0,0,rfl,fun q hq=>?_⟩
  have e:Fi[q]? = some (Fi.getD q ⟨#[]⟩):=by
   match q,hq with
   | 0,_=>rfl
   | 1,_=>rfl
   | 2,_=>rfl
   | 3,_=>rfl
   | 4,_=>rfl
  have:=AO.honK h.1 O.gl q _ e
  exact ⟨⟨_,by rw [show 0+q * [Kd.str].length=q by simp];exact this,rfl⟩,trivial⟩
 .rw [if_neg h];rfl
def ev(s:A4)(asm:Asm):Operand->SV
 | .tmp t=>if t<s.nt then (s.tm t).res asm else .any
 | .const v=>ofV v
 | .global g=>T9 g
 | .func f=>.fn f []
def Az(asm:Asm)(a:Act):Prop:=∀ t pol,asm.has t pol=true->a.tmps[t]? = some (.bool pol)
theorem Az.nil(a:Act):Az [] a:=fun _ _ h=>by simp [Asm.has] at h
theorem Az.cons{asm:Asm}{a:Act}(h:Az asm a){t:Nat}{pol:Bool}(ht:a.tmps[t]? = some (.bool pol)):Az ((t,pol) :: asm) a:=fun t' pol' hh=>by
 simp only [Asm.has,List.any_cons,Bool.or_eq_true,aq,beq_iff_eq] at hh
 rcases hh with ⟨rfl,rfl⟩ | hh
 .exact ht
 .exact h _ _ (by simpa [Asm.has] using hh)
structure Dl (O:Env) (s:A4) (a:Act):Prop where
 size:a.tmps.size=s.nt
 tmp:∀ i x,a.tmps[i]? = some x->B4 O a (s.tm i) x
theorem Ab.tmDen{B:Nat}{M:List Nat}{w0:BH}{O:Env}{s:A4}{a:Act}{w:World}(h:Ab B M w0 O s a w):Dl O s a:=⟨h.size,h.tmp⟩
theorem AF{O:Env}{s:A4}{a:Act}(h:Dl O s a){asm:Asm}(ha:Az asm a)(x:Operand):(ev s asm x).den O (a.eval x):=by
 cases x with
 | tmp t =>
  show (if t<s.nt then (s.tm t).res asm else .any).den O (a.tmps.getD t undef)
  by_cases ht:t<s.nt
  .rw [if_pos ht]
   have hx:a.tmps[t]? = some (a.tmps[t]'(by rw [h.size];exact ht)):=Array.getElem?_eq_getElem _
   have hd:=h.tmp t _ hx
   simp only [Array.getD_eq_getD_getElem?,hx,Option.getD_some]
   generalize s.tm t=v at hd ⊢
   cases v <;> try exact hd
   rename_i t' pol u
   simp only [SV.res]
   by_cases hh:asm.has t' pol=true
   .rw [if_pos hh]
    rcases hd with hd | hd
    .exact hd.2
    .exact absurd (ha _ _ hh) hd.1
   .rw [if_neg hh];trivial
  .rw [if_neg ht];trivial
 | const v=>exact S7 O v
 | global g=>exact Qi O g
 | func f=>exact ⟨[],rfl,trivial⟩
def SV.cells?:SV->Option (List SV)
 | .agg l=>some l
 | .any | .tup _ | .gd _ _ _ | .gv _=>none
 | .val v=>if v.oneCell' then some [.val v] else none
 | v=>some [v]
theorem Qu{od:Od}{kd:Kd}{d:Dat}{k c:Nat}{x:Value}(h:kd.den od d k c x):x.oneCell'=true/\x.cells.toList=[x]:=by
 cases kd <;> simp only [Kd.den] at h
 .subst h;exact ⟨rfl,rfl⟩
 .subst h;exact ⟨rfl,rfl⟩
 .subst h;exact ⟨rfl,rfl⟩
 .obtain ⟨A,cap,rfl,_⟩:=h;exact ⟨rfl,rfl⟩
 .obtain ⟨b,o,rfl,_⟩:=h;exact ⟨rfl,rfl⟩
 .rcases h with ⟨_,b,rfl,_⟩ | ⟨h,_⟩
  .exact ⟨rfl,rfl⟩
  .cases h
 .obtain ⟨b,es,cl,f,rfl,_⟩:=h;exact ⟨rfl,rfl⟩
 .obtain ⟨b,es,cl,f,rfl,_⟩:=h;exact ⟨rfl,rfl⟩
 .obtain ⟨b,es,cl,f,rfl,_⟩:=h;exact ⟨rfl,rfl⟩
theorem cells?_den{O:Env}{v:SV}{x:Value}{l:List SV}(h:v.den O x)(hl:v.cells? = some l):SV.denL O l x.cells.toList:=by
 cases v <;> simp only [SV.cells?] at hl <;> try (cases hl;done)
 case agg l'=>cases hl;obtain ⟨xs,rfl,hd⟩:=h;exact hd
 case val v =>
  split at hl <;> cases hl
  rename_i ho
  cases h
  cases x <;> first | exact ⟨rfl,trivial⟩ | (simp [Value.oneCell'] at ho)
 case int=>cases hl;cases h;exact ⟨rfl,trivial⟩
 case bool=>cases hl;cases h;exact ⟨rfl,trivial⟩
 case str=>cases hl;cases h;exact ⟨rfl,trivial⟩
 case ptr=>cases hl;obtain ⟨m,e,rfl⟩:=h;exact ⟨⟨m,e,rfl⟩,trivial⟩
 case elt=>cases hl;obtain ⟨m,e,rfl⟩:=h;exact ⟨⟨m,e,rfl⟩,trivial⟩
 case slc=>cases hl;obtain ⟨A,c,rfl,e⟩:=h;exact ⟨⟨A,c,rfl,e⟩,trivial⟩
 case own=>cases hl;obtain ⟨m,e,e0,e1,rfl⟩:=h;exact ⟨⟨m,e,e0,e1,rfl⟩,trivial⟩
 case nsl=>cases hl;cases h;exact ⟨rfl,trivial⟩
 case emp=>cases hl;obtain ⟨A,rfl⟩:=h;exact ⟨⟨A,rfl⟩,trivial⟩
 case gr=>cases hl;rcases h with ⟨h0,A,rfl⟩ | ⟨m,e,e0,e1,rfl⟩;exact ⟨.inl ⟨h0,A,rfl⟩,trivial⟩;exact ⟨.inr ⟨m,e,e0,e1,rfl⟩,trivial⟩
 case ro=>cases hl;obtain ⟨A,c,rfl,e⟩:=h;exact ⟨⟨A,c,rfl,e⟩,trivial⟩
 case rp=>cases hl;obtain ⟨b,o,rfl,e⟩:=h;exact ⟨⟨b,o,rfl,e⟩,trivial⟩
 case rn=>cases hl;obtain ⟨a,c,rfl,e⟩:=h;exact ⟨⟨a,c,rfl,e⟩,trivial⟩
 case ra=>cases hl;obtain ⟨b,o,rfl,e⟩:=h;exact ⟨⟨b,o,rfl,e⟩,trivial⟩
 case pix=>cases hl;obtain ⟨m,e,rfl⟩:=h;exact ⟨⟨m,e,rfl⟩,trivial⟩
 case fn=>cases hl;obtain ⟨xs,rfl,e⟩:=h;exact ⟨⟨xs,rfl,e⟩,trivial⟩
 case fb=>cases hl;obtain ⟨xs,rfl,e⟩:=h;exact ⟨⟨xs,rfl,e⟩,trivial⟩
 case rq=>cases hl;rcases h with ⟨t,b,o,rfl,e⟩ | ⟨t,rfl⟩;exact ⟨.inl ⟨t,b,o,rfl,e⟩,trivial⟩;exact ⟨.inr ⟨t,rfl⟩,trivial⟩
 case rz=>cases hl;rcases h with ⟨t,b,rfl,e⟩ | ⟨t,rfl⟩;exact ⟨.inl ⟨t,b,rfl,e⟩,trivial⟩;exact ⟨.inr ⟨t,rfl⟩,trivial⟩
 case mp=>cases hl;rw [(Qu h).2];exact ⟨h,trivial⟩
 case ni=>cases hl;rcases h with ⟨e,rfl⟩ | ⟨e,t,v,rfl⟩;exact ⟨.inl ⟨e,rfl⟩,trivial⟩;exact ⟨.inr ⟨e,t,v,rfl⟩,trivial⟩
 case ifc=>cases hl;obtain ⟨xs,⟨y,e,rfl⟩,hd⟩:=h;exact ⟨⟨xs,⟨y,e,rfl⟩,hd⟩,trivial⟩
def SV.one:SV->Bool
 | .any | .agg _ | .tup _ | .gd _ _ _ | .gv _=>false
 | .val v=>v.oneCell'
 | _=>true
theorem S8{O:Env}{v:SV}{x:Value}(h:v.den O x)(ho:v.one=true):x.oneCell'=true:=by
 cases v <;> simp only [SV.one] at ho <;> try (cases ho;done)
 case val v=>cases h;exact ho
 case ni=>rcases h with ⟨_,rfl⟩ | ⟨_,t,v,rfl⟩ <;> rfl
 case ifc=>obtain ⟨xs,⟨y,e,rfl⟩,_⟩:=h;rfl
 case int=>cases h;rfl
 case bool=>cases h;rfl
 case str=>cases h;rfl
 case ptr=>obtain ⟨m,e,rfl⟩:=h;rfl
 case elt=>obtain ⟨m,e,rfl⟩:=h;rfl
 case slc=>obtain ⟨A,c,rfl,e⟩:=h;rfl
 case own=>obtain ⟨m,e,e0,e1,rfl⟩:=h;rfl
 case nsl=>cases h;rfl
 case emp=>obtain ⟨A,rfl⟩:=h;rfl
 case gr=>rcases h with ⟨h0,A,rfl⟩ | ⟨m,e,e0,e1,rfl⟩ <;> rfl
 case ro=>obtain ⟨A,c,rfl,e⟩:=h;rfl
 case rp=>obtain ⟨b,o,rfl,e⟩:=h;rfl
 case rn=>obtain ⟨a,c,rfl,e⟩:=h;rfl
 case ra=>obtain ⟨b,o,rfl,e⟩:=h;rfl
 case pix=>obtain ⟨m,e,rfl⟩:=h;rfl
 case fn=>obtain ⟨xs,rfl,e⟩:=h;rfl
 case fb=>obtain ⟨xs,rfl,e⟩:=h;rfl
 case rq=>rcases h with ⟨t,b,o,rfl,e⟩ | ⟨t,rfl⟩ <;> rfl
 case rz=>rcases h with ⟨t,b,rfl,e⟩ | ⟨t,rfl⟩ <;> rfl
 case mp=>exact (Qu h).1
theorem Ja{O:Env}:∀ {l:List SV} {xs:List Value},SV.denL O l xs->l.all SV.one=true->∀ x∈xs,x.oneCell'=true
 | [],[],_,_,_,h=>by simp at h
 | v :: l,x :: xs,⟨h,k⟩,ho,y,hy=>by
  simp only [List.all_cons,aq] at ho
  rcases List.mem_cons.1 hy with rfl | hy
  .exact S8 h ho.1
  .exact Ja k ho.2 y hy
 | [],_ :: _,h,_,_,_=>h.elim
 | _ :: _,[],h,_,_,_=>h.elim
def IW(cs:List SV)(c:Nat):Int:=match cs[c]? with | some (.int _ x)=>x | _=>0
def He(cs:List SV)(c:Nat):Bool:=match cs[c]? with | some (.bool x)=>x | _=>false
def Km(cs:List SV)(c:Nat):BA:=match cs[c]? with | some (.str x)=>x | _=>.empty
def OJ(l:List SV)(c:Nat):SV->SV
 | .int k _=>.int k (IW l c)
 | .bool _=>.bool (He l c)
 | .str _=>.str (Km l c)
 | _=>.any
def Dh:SV->SV->Bool
 | .int k _,.int k' _=>if k=k' then true else false
 | .bool _,.bool _=>true
 | .str _,.str _=>true
 | _,_=>false
theorem MB{l:List SV}{c:Nat}{p v:SV}(h:Dh p v=true)(hv:l[c]? = some v):OJ l c p=v:=by
 cases p <;> cases v <;> simp [Dh] at h <;> simp [OJ,IW,He,Km,hv]
 exact h
def RR(l:List SV)(o s m j n:Nat):Bool:=(List.range m).all fun q=>(List.range n).all fun c=>match l[o+j+c]?,l[o+q * s+j+c]? with
 | some p,some v=>Dh p v
 | _,_=>false
theorem On{l:List SV}{o s m j n:Nat}(h:RR l o s m j n=true){q c:Nat}(hq:q<m)(hc:c<n):∃ p v,l[o+j+c]? = some p/\l[o+q * s+j+c]? = some v/\Dh p v=true:=by
 have:=List.all_eq_true.1 ((List.all_eq_true.1 h) q (List.mem_range.2 hq)) c (List.mem_range.2 hc)
 split at this
 .exact ⟨_,_,by assumption,by assumption,this⟩
 .cases this
def R5(l:List SV)(o s k j n:Nat):List SV:=(List.range n).map fun c=>match l[o+j+c]? with
 | some p=>OJ l (o+k * s+j+c) p
 | none=>.any
def Ol(v:Value)(n:Nat):Option (List SV × List Bool):=match v with
 | .pointer (some ⟨1,0,none⟩)=>if AO.on=true/\n=1 then some ([.gv 1],[]) else none
 | _=>none
def I3(mem:Nat->Blk)(p:SV)(n:Nat):Option (List SV × List Bool) :=
 match p with
 | .ptr i o=>match mem i with
  | .cells _ l=>if o+n<=l.length then some ((l.drop o).take n,[]) else none
  | _=>none
 | .elt i size k j=>match mem i with
  | .cells _ l=>if k * size+j+n<=l.length then some ((l.drop (k * size+j)).take n,[]) else none
  | .row _ sh m d=>if sh.length=size then (if j+n<=sh.length then some (((el sh d k).drop j).take n,[decide (k<m)]) else none) else none
  | _=>none
 | .rp sh d k j=>if j+n<=sh.length then some (((el sh d k).drop j).take n,[]) else none
 | .ra sh m d=>if n=m * sh.length then some ((List.range m).flatMap (el sh d),[]) else none
 | .pix i o s m k j=>match mem i with
  | .cells _ l=>if RR l o s m j n=true then some (R5 l o s k j n,[decide (k<m)]) else none
  | _=>none
 | .val v=>Ol v n
 | _=>none
theorem CY{O:Env}{g:Nat->Option Value}:∀ {cs:List SV},(∀ j sv,cs[j]? = some sv->∃ x,g j=some x/\sv.den O x)->∃ xs:List Value,SV.denL O cs xs/\∀ j x,xs[j]? = some x->g j=some x
 | [],_=>⟨[],trivial,fun j x h=>by simp at h⟩
 | v :: cs,h=>by
  obtain ⟨x,hx,hd⟩:=h 0 v rfl
  obtain ⟨xs,hxs,hg⟩:=CY (g:=fun j=>g (j+1)) (cs:=cs) fun j sv hj=>h (j+1) sv (by simpa using hj)
  refine ⟨x :: xs,⟨hd,hxs⟩,fun j y hj=>?_⟩
  cases j with
  | zero=>simp at hj;subst hj;exact hx
  | succ j=>exact hg j y (by simpa using hj)
theorem HE{B:Nat}{M:List Nat}{O:Env}{mem:Nat->Blk}{w:World}(hm:Ak B M O mem w){p:SV}{n:Nat}{cs:List SV}{need:List Bool}(hc:I3 mem p n=some (cs,need))(hn:∀ b∈need,b=true){x:Value}(hp:p.den O x) :
  ∃ (b o:Nat) (xs:List Value),x=.pointer (some ⟨b,o,none⟩)/\cs.length=n/\SV.denL O cs xs/\w.rangeAt b o xs:=by
 have fromElems:∀ (i size k j m:Nat) (f:Nat->List SV) (nm:Nm),O i=some nm->F4 O w nm size m f->j+n<=(f k).length->k<m->cs=((f k).drop j).take n->x=.pointer (some ⟨nm.blk,nm.off+(k * size+j),none⟩) ->
   ∃ (b o:Nat) (xs:List Value),x=.pointer (some ⟨b,o,none⟩)/\cs.length=n/\SV.denL O cs xs/\w.rangeAt b o xs:=by
  intro i size k j m f nm _ he hl hk hcs hx
  obtain ⟨xs,hd,hg⟩:=CY (O:=O) (g:=fun j'=>w.cell? ⟨nm.blk,nm.off+(k * size+j)+j',none⟩) (cs:=cs) fun j' sv hj'=>by
   rw [hcs,List.getElem?_take] at hj'
   split at hj'
   .rw [List.getElem?_drop] at hj'
    obtain ⟨y,hy,hd⟩:=(he k hk).2 _ _ hj'
    exact ⟨y,by rw [<- hy];congr 2;omega,hd⟩
   .cases hj'
  exact ⟨_,_,xs,hx,by rw [hcs];simp;omega,hd,hg⟩
 have fromCells:∀ (i o e:Nat) (l:List SV) (nm:Nm),O i=some nm->(Blk.cells e l).den O w nm->o+n<=l.length->cs=(l.drop o).take n->x=.pointer (some ⟨nm.blk,nm.off+o,none⟩) ->
   ∃ (b o:Nat) (xs:List Value),x=.pointer (some ⟨b,o,none⟩)/\cs.length=n/\SV.denL O cs xs/\w.rangeAt b o xs:=by
  intro i o e l nm _ hb hl hcs hx
  obtain ⟨h0,c,hc,hd⟩:=hb
  refine ⟨_,_,(c.toList.drop o).take n,hx,by rw [hcs];simp;omega,by rw [hcs];exact FH (FG hd _) _,fun j v hj=>?_⟩
  rw [List.getElem?_take] at hj
  split at hj
  .rw [List.getElem?_drop] at hj
   rw [h0,az,cell_of_row w nm.blk (o+j) c e (0,0) hc]
   simpa using hj
  .cases hj
 cases p <;> simp only [I3] at hc <;> try (cases hc;done)
 case ptr i o =>
  obtain ⟨nm,e,hx⟩:=hp
  split at hc <;> try (cases hc;done)
  rename_i e' l hmem
  split at hc <;> cases hc
  obtain ⟨_,hb,_⟩:=hm.get (by simp [hmem,Blk.isUnk]) e
  rw [hmem] at hb
  exact fromCells i o e' l nm e hb (by assumption) rfl hx
 case elt i size k j =>
  obtain ⟨nm,e,hx⟩:=hp
  split at hc <;> try (cases hc;done)
  .rename_i e' l hmem
   split at hc <;> cases hc
   obtain ⟨_,hb,_⟩:=hm.get (by simp [hmem,Blk.isUnk]) e
   rw [hmem] at hb
   exact fromCells i _ e' l nm e hb (by assumption) rfl hx
  .rename_i e' sh m d hmem
   split at hc <;> try (cases hc;done)
   split at hc <;> cases hc
   rename_i hs hl
   obtain ⟨_,hb,_⟩:=hm.get (by simp [hmem,Blk.isUnk]) e
   rw [hmem] at hb
   subst hs
   exact fromElems i sh.length k j m (el sh d) nm e hb.2.2.2 (by rw [B2];exact hl) (by simpa using hn) rfl hx
 case rp sh d k j =>
  split at hc <;> cases hc
  rename_i hl
  obtain ⟨b,o,rfl,hL⟩:=hp
  rw [BN] at hL
  obtain ⟨xs,hd,hg⟩:=CY (O:=O) (g:=fun j'=>w.cell? ⟨b,o+j+j',none⟩) (cs:=((el sh d k).drop j).take n) fun j' sv hj'=>by
   rw [List.getElem?_take] at hj'
   split at hj'
   .rw [List.getElem?_drop] at hj'
    obtain ⟨y,hy,hd⟩:=hL _ _ hj'
    exact ⟨y,by rw [Nat.add_assoc];exact hm.seal_ _ _ _ hy,hd⟩
   .cases hj'
  exact ⟨_,_,xs,rfl,by simp [B2];omega,hd,hg⟩
 case ra sh m d =>
  split at hc <;> cases hc
  rename_i hl
  obtain ⟨b,o,rfl,hL⟩:=hp
  have key:∀ m',m'<=m->∃ xs:List Value,xs.length=m' * sh.length/\SV.denL O ((List.range m').flatMap (el sh d)) xs/\∀ t u,xs[t]? = some u->w.cell? ⟨b,o+t,none⟩=some u:=by
   intro m'
   induction m' with
   | zero=>intro _;exact ⟨[],by simp,by simp [SV.denL],fun t u h=>by simp at h⟩
   | succ m' ih =>
    intro hle
    obtain ⟨xs,h1,h2,h3⟩:=ih (by omega)
    obtain ⟨ys,k1,k2⟩:=CY (O:=O) (g:=fun t=>w.cell? ⟨b,o+m' * sh.length+t,none⟩) (cs:=el sh d m') fun t sv ht=>by
     obtain ⟨y,hy,hd⟩:=(BN.1 (hL m' (by omega))) t sv ht
     exact ⟨y,hm.seal_ _ _ _ hy,hd⟩
    refine ⟨xs ++ ys,?_,?_,fun t u ht=>?_⟩
    .rw [List.length_append,h1,Ax k1,B2,Nat.succ_mul]
    .rw [List.range_succ,List.flatMap_append]
     simp only [List.flatMap_cons,List.flatMap_nil,List.append_nil]
     exact C7 h2 k1
    .rw [List.getElem?_append] at ht
     split at ht
     .exact h3 t u ht
     .rename_i hge
      have:=k2 _ u ht
      rw [h1] at this hge
      rw [<- this]
      congr 2
      omega
  obtain ⟨xs,h1,h2,h3⟩:=key m (Nat.le_refl _)
  exact ⟨b,o,xs,rfl,by rw [<- Ax h2,h1];exact hl.symm,h2,h3⟩
 case pix i o s m k j =>
  obtain ⟨nm,e,hx⟩:=hp
  split at hc <;> try (cases hc;done)
  rename_i e' l hmem
  split at hc <;> cases hc
  rename_i hh
  have hk:k<m:=by simpa using hn
  obtain ⟨_,hb,_⟩:=hm.get (by simp [hmem,Blk.isUnk]) e
  rw [hmem] at hb
  obtain ⟨h0,c,hcc,hd⟩:=hb
  have hsel:∀ q u,(R5 l o s k j n)[q]? = some u->l[o+k * s+j+q]? = some u:=by
   intro q u hq
   unfold R5 at hq
   rw [List.getElem?_map] at hq
   have hqn:q<n:=by
    cases hr:(List.range n)[q]? with
    | none=>rw [hr] at hq;cases hq
    | some _=>have:=(ax.1 hr).1;simpa using this
   rw [List.getElem?_range hqn] at hq
   obtain ⟨p,v,h1,h2,h3⟩:=On hh hk hqn
   simp only [Option.map_some,h1,Option.some.injEq] at hq
   rw [MB h3 h2] at hq
   rw [h2,hq]
  obtain ⟨xs,hxs,hg⟩:=CY (O:=O) (g:=fun q=>w.cell? ⟨nm.blk,nm.off+(o+k * s+j)+q,none⟩) (cs:=R5 l o s k j n) fun q u hq=>by
   obtain ⟨y,hy,hdy⟩:=AP hd (hsel q u hq)
   refine ⟨y,?_,hdy⟩
   rw [h0,az,cell_of_row w nm.blk _ c e' (0,0) hcc,<- Array.getElem?_toList]
   exact hy
  exact ⟨_,_,xs,hx,by simp [R5],hxs,hg⟩
 case val v =>
  unfold Ol at hc
  split at hc <;> try (cases hc;done)
  split at hc <;> cases hc
  rename_i hn1
  obtain ⟨hon,rfl⟩:=hn1
  obtain ⟨b,es,c,g1,g2,g3⟩:=(AO.hon hon O.gl).rs
  cases hp
  refine ⟨1,0,[.map (some b)],rfl,rfl,⟨⟨b,es,c,rfl,g2,g3⟩,trivial⟩,fun j v hj=>?_⟩
  cases j with
  | zero=>cases hj;exact hm.seal_.c 1 0 _ g1
  | succ j=>simp at hj
section runs
variable {P:Program}
def HD(P:Program)(t:TypeId):Option Bool :=
 match P.underlying t with
 | some (.struct _) | some (.array _ _)=>some true
 | some _=>some false
 | none=>none
def Ch(P:Program)(t:TypeId):Option Nat:=(P.info? t).map (·.size)
theorem Dw{t:TypeId}{b:Bool}(h:HD P t=some b)(w:World):(isAgg t).run P w=.ok b w:=by
 unfold HD at h
 unfold isAgg
 rw [Sem.run_bind]
 split at h
 .rename_i d hd;cases h;rw [run_underlying hd w];rfl
 .rename_i n e hd;cases h;rw [run_underlying hd w];rfl
 .rename_i d h1 h2 hd
  cases h
  rw [run_underlying hd w]
  cases d <;> first | rfl | exact (h1 _ rfl).elim | exact (h2 _ _ rfl).elim
 .cases h
theorem AI{t:TypeId}{n:Nat}(h:Ch P t=some n)(w:World):(sizeOf t).run P w=.ok n w:=by
 unfold Ch at h
 cases hi:P.info? t with
 | none=>simp [hi] at h
 | some i=>simp [hi] at h;simp [sizeOf,typeInfo,hi,h]
def HW(P:Program)(mem:Nat->Blk)(t:TypeId)(p:SV):Option Ae :=
 match HD P t,Ch P t with
 | some true,some n=>match I3 mem p n with
  | some (cs,need)=>some { v:=.agg cs,need:=need }
  | none=>none
 | some false,_=>match I3 mem p 1 with
  | some ([c],need)=>some { v:=c,need:=need }
  | _=>none
 | _,_=>none
theorem Dx{B:Nat}{M:List Nat}{O:Env}{mem:Nat->Blk}{w:World}(hm:Ak B M O mem w){t:TypeId}{p:SV}{r:Ae}(h:HW P mem t p=some r)(hn:∀ b∈r.need,b=true){x:Value}(hp:p.den O x)(off:Nat) :
  ∃ y,(Instr.loadAt t x).run P w=.ok y w/\A5 O O off r w w y:=by
 unfold HW at h
 split at h
 .rename_i n hagg hsz
  split at h <;> cases h
  rename_i cs need hc
  obtain ⟨b,o,xs,rfl,hl,hd,hr⟩:=HE hm hc hn hp
  refine ⟨.agg xs.toArray,?_,A5.pure_ ⟨xs,rfl,hd⟩⟩
  have hlx:=Ax hd
  have hload:(loadCells ⟨b,o,none⟩ n).run P w=.ok xs.toArray w:=by
   have:=run_loadCells_list (P:=P) w ⟨b,o,none⟩ xs (fun j v hv=>by rw [Addr.add_mid];exact hr j v hv)
   rwa [hlx,hl] at this
  simp [Instr.loadAt,Instr.sureAddr,loadVar,Dw hagg,AI hsz,hload]
 .rename_i hagg
  split at h <;> cases h
  rename_i c need hc
  obtain ⟨b,o,xs,rfl,hl,hd,hr⟩:=HE hm hc hn hp
  match xs,hd with
  | [y],⟨hy,_⟩ =>
   refine ⟨y,?_,A5.pure_ hy⟩
   have h0:=hr 0 y rfl
   simp only [Nat.add_zero] at h0
   simp [Instr.loadAt,Instr.sureAddr,loadVar,Dw hagg,h0]
 .cases h
end runs
end Go.Sy
namespace Go.Sy
open Go.RowKit
variable [AO]
section runs
variable {P:Program}
def Dat.upd(d:Dat)(k j:Nat)(cs:List SV):Dat where
 ii:=fun q c=>if q=k then (if j<=c then (match cs[c - j]? with | some (.int _ x)=>x | _=>d.ii q c) else d.ii q c) else d.ii q c
 ss:=fun q c=>if q=k then (if j<=c then (match cs[c - j]? with | some (.str x)=>x | _=>d.ss q c) else d.ss q c) else d.ss q c
 bb:=fun q c=>if q=k then (if j<=c then (match cs[c - j]? with | some (.bool x)=>x | _=>d.bb q c) else d.bb q c) else d.bb q c
 sn:=fun q c=>if q=k then (if j<=c then (match cs[c - j]? with | some (.ro _ n _)=>n | some (.rz _ i _ _)=>i | _=>d.sn q c) else d.sn q c) else d.sn q c
 sd:=fun q c=>if q=k then (if j<=c then (match cs[c - j]? with | some (.ro _ _ e)=>some e | some (.rp _ e _ _)=>some e | some (.mp _ e)=>some e | some (.rz _ _ _ e)=>some e | _=>d.sd q c) else d.sd q c) else d.sd q c
def RF(b:Bool):SV->SV->SV
 | .int k x,.int _ y=>.int k (cond b x y)
 | .bool x,.bool y=>.bool (cond b x y)
 | .str x,.str y=>.str (cond b x y)
 | _,v=>v
def S9(l:List SV)(o s m k j n:Nat)(cs:List SV):List SV:=(List.range l.length).map fun c=>match l[c]? with
 | some old=>(match Nat.ble o c&&(Nat.blt c (o+m * s)&&(Nat.ble j ((c - o) % s)&&Nat.blt ((c - o) % s) (j+n))) with
  | true=>(match cs[(c - o) % s - j]? with | some new=>RF (Nat.beq ((c - o) / s) k) new old | none=>old)
  | false=>old)
 | none=>.any
def JP(P:Program)(mem:Nat->Blk)(t:TypeId)(p v:SV):Option Ae :=
 match Ch P t,v.cells? with
 | some n,some cs=>if cs.length=n/\cs.all SV.one=true then
   (match p with
   | .ptr i o=>match mem i with
    | .cells e l=>if o+n<=l.length then some { v:=.any,upds:=[(i,.cells e (Di l o cs))] } else none
    | _=>none
   | .elt i size k j=>match mem i with
    | .cells e l=>if k * size+j+n<=l.length then some { v:=.any,upds:=[(i,.cells e (Di l (k * size+j) cs))] } else none
    | .row e sh m d=>if sh.length=size/\j+n<=sh.length/\DH ((sh.drop j).take n) cs=true then some { v:=.any,upds:=[(i,.row e sh m (d.upd k j cs))],need:=[decide (k<m)] } else none
    | _=>none
   | .pix i o s m k j=>match mem i with
    | .cells e l=>if RR l o s m j n=true/\o+m * s<=l.length/\j+n<=s/\(List.range n).all (fun c=>match l[o+j+c]?,cs[c]? with | some p,some v=>Dh p v | _,_=>false)=true then some { v:=.any,upds:=[(i,.cells e (S9 l o s m k j n cs))],need:=[decide (k<m)] } else none
    | _=>none
   | _=>none) else none
 | _,_=>none
theorem Bi(b:Nat):∀ (vs:List Value) (o:Nat) (w:World) (c:Array Value) (e:TypeId) (fz:Nat × Nat),w.heap[b]? = some (.cells c e fz)->o+vs.length<=c.size ->
  (w.setCells b o vs).heap[b]? = some (.cells ⟨Di c.toList o vs⟩ e fz)/\(∀ k,k≠b->(w.setCells b o vs).heap[k]? = w.heap[k]?)/\(w.setCells b o vs).heap.size=w.heap.size/\(w.setCells b o vs).os=w.os/\(w.setCells b o vs).tape=w.tape/\(w.setCells b o vs).output=w.output
 | [],o,w,c,e,fz,h,_=>by
  refine ⟨?_,fun _ _=>rfl,rfl,rfl,rfl,rfl⟩
  simp only [Di,List.append_nil,List.length_nil,Nat.add_zero,List.take_append_drop]
  exact h
 | v :: vs,o,w,c,e,fz,h,hl=>by
  have h1:(w.setCell ⟨b,o,none⟩ v).heap[b]? = some (.cells (c.setIfInBounds o v) e fz):=by
   simp [World.setCell,Array.getElem?_modify,h]
  obtain ⟨g1,g2,g3,g4,g5,g6⟩:=Bi b vs (o+1) (w.setCell ⟨b,o,none⟩ v) (c.setIfInBounds o v) e fz h1 (by simp at hl ⊢;omega)
  refine ⟨?_,fun k hk=>?_,?_,g4,g5,g6⟩
  .have:(w.setCells b o (v :: vs))=((w.setCell ⟨b,o,none⟩ v).setCells b (o+1) vs):=rfl
   rw [this,g1]
   congr 2
   congr 1
   simp only [Di,List.length_cons,Array.toList_setIfInBounds]
   apply List.ext_getElem?
   intro q
   simp only [List.getElem?_append,List.getElem?_take,List.getElem?_drop,List.getElem?_set,List.length_take,List.length_append,List.length_set,Array.length_toList,List.length_cons]
   simp at hl
   grind
  .exact (g2 k hk).trans (Below.heap_setCell _ _ _ _ (by exact hk))
  .have:(w.setCell ⟨b,o,none⟩ v).heap.size=w.heap.size:=by simp [World.setCell]
   exact g3.trans this
theorem DM{α:Type}{l vs:List α}{o:Nat}(h:o+vs.length<=l.length)(i:Nat):(Di l o vs)[i]? = if o<=i/\i<o+vs.length then vs[i - o]? else l[i]?:=by
 simp only [Di,List.getElem?_append,List.getElem?_take,List.getElem?_drop,List.length_take,List.length_append]
 grind
theorem E2{α:Type}{l vs:List α}{o:Nat}(h:o+vs.length<=l.length):(Di l o vs).length=l.length:=by
 simp [Di];omega
theorem Kz{sh:List Kd}{d:Dat}{k j q:Nat}{cs:List SV}(h:q≠k):el sh (d.upd k j cs) q=el sh d q:=by
 apply List.ext_getElem?
 intro c
 rw [C8,C8]
 cases hs:sh[c]? with
 | none=>rfl
 | some kd=>cases kd <;> simp [Dq,Dat.upd,Dat.sub,h]
theorem LC{sh:List Kd}{d:Dat}{k j:Nat}{cs:List SV}(hl:j+cs.length<=sh.length)(h:DH ((sh.drop j).take cs.length) cs=true):el sh (d.upd k j cs) k=Di (el sh d k) j cs:=by
 rw [Db] at h
 have hlen:=B2 sh d k
 have ov:=fun c=>DM (l:=el sh d k) (vs:=cs) (o:=j) (by omega) c
 have inside:∀ c,j<=c/\c<j+cs.length->∀ kd v,sh[c]? = some kd->cs[c - j]? = some v->kd.ok v=true:=fun c hc kd v hk hv=>h.2 (c - j) kd v (by
  rw [List.getElem?_take,if_pos (by omega),List.getElem?_drop];rw [show j+(c - j)=c by omega];exact hk) hv
 refine Qe ?_ (fun c v hc=>?_)
 .rw [Db]
  refine ⟨by rw [E2 (by omega),hlen],fun c kd v hk hv=>?_⟩
  rw [ov] at hv
  split at hv
  .exact inside c (by assumption) kd v hk hv
  .exact (Db.1 (T5 sh d k)).2 c kd v hk hv
 .rw [ov] at hc
  split at hc
  .rename_i hin
   cases v <;> simp [Dat.has,Dat.upd,Dat.sub,hin.1,hc]
  .rename_i hin
   rw [C8] at hc
   have hd:d.has k c v:=by
    cases hs:sh[c]? with
    | none=>rw [hs] at hc;cases hc
    | some kd=>rw [hs] at hc;cases hc;exact Qt d k c kd
   have:j<=c->cs[c - j]? = none:=fun _=>by rw [List.getElem?_eq_none_iff];omega
   cases v <;> simp only [Dat.has,Dat.upd,Dat.sub,if_true] at hd ⊢
   all_goals
    by_cases hj:j<=c
    .simp only [if_pos hj,this hj];exact hd
    .simp only [if_neg hj];exact hd
theorem BW{w:World}{m:Nm}{c:Array Value}{e:TypeId}{o n:Nat}{t:TypeId}{y:Value}(hc:w.heap[m.blk]? = some (.cells c e (0,0)))(hsz:Ch P t=some n)(hl:y.cells.toList.length=n)(ho:o+n<=c.size)(h1:∀ v∈y.cells.toList,v.oneCell'=true):(Instr.storeAt t (.pointer (some ⟨m.blk,o,none⟩)) y).run P w=.ok () (w.setCells m.blk o y.cells.toList):=by
 have:=run_storeCells_cells (P:=P) m.blk o y.cells.toList 0 w
  (fun j hj=>by rw [cell_of_row w m.blk _ c e (0,0) hc];simp;omega)
  (fun j hj=>by simp [World.frozen?,hc]) h1
 simp only [Nat.add_zero] at this
 have hs:y.cells.size=n:=by simpa using hl
 simp [Instr.storeAt,Instr.sureAddr,storeVar,AI hsz,hs,this]
theorem RG{p a b:SV}(h:Dh p a=true)(k:Dh p b=true):RF true a b=a/\RF false a b=b:=by
 cases p <;> cases a <;> simp [Dh] at h <;> cases b <;> simp [Dh] at k <;> simp [RF]
 rw [<- h,<- k]
theorem Sa{O:Env}{l cs:List SV}{xs ys:List Value}{o s m k j n:Nat}(hl:SV.denL O l xs)(hc:SV.denL O cs ys)(hn:cs.length=n)(hk:k<m)(hom:RR l o s m j n=true)(hfit:o+m * s<=l.length)(hj:j+n<=s)(hkd:∀ c,c<n->∃ p v,l[o+j+c]? = some p/\cs[c]? = some v/\Dh p v=true) :
  SV.denL O (S9 l o s m k j n cs) (Di xs (o+k * s+j) ys):=by
 have hlen:=Ax hl
 have hlc:=Ax hc
 have hks:(k+1) * s<=m * s:=Nat.mul_le_mul_right _ hk
 rw [Nat.succ_mul] at hks
 refine Cv (by rw [E2 (by omega)];simp [S9,hlen]) fun c v x hv hx=>?_
 rw [DM (by omega),hlc,hn] at hx
 unfold S9 at hv
 rw [List.getElem?_map] at hv
 cases hr:(List.range l.length)[c]? with
 | none=>rw [hr] at hv;cases hv
 | some c' =>
  have hcl:c<l.length:=by have:=(ax.1 hr).1;simpa using this
  rw [List.getElem?_range hcl] at hv
  have hold:l[c]? = some l[c]:=List.getElem?_eq_getElem hcl
  obtain ⟨xo,hxo,hdo⟩:=AP hl hold
  simp only [Option.map_some,hold,Option.some.injEq] at hv
  have outside:¬ (o+k * s+j<=c/\c<o+k * s+j+n)->v=l[c]->v.den O x:=by
   intro ho e
   rw [if_neg ho,hxo] at hx
   cases hx
   rw [e];exact hdo
  split at hv
  .rename_i hin
   simp only [aq] at hin
   have h1:o<=c:=by simpa using hin.1
   have h2:c<o+m * s:=by simpa using hin.2.1
   have h3:j<=(c - o) % s:=by simpa using hin.2.2.1
   have h4:(c - o) % s<j+n:=by simpa using hin.2.2.2
   have hs:0<s:=by omega
   have hdm:(c - o) / s * s+(c - o) % s=c - o:=by rw [Nat.mul_comm];exact Nat.div_add_mod _ _
   have hq:(c - o) / s<m:=Nat.div_lt_of_lt_mul (by rw [Nat.mul_comm];omega)
   obtain ⟨p,u,hp1,hp2,hp3⟩:=On hom hq (c:=(c - o) % s - j) (by omega)
   obtain ⟨p',u',hp1',hp2',hp3'⟩:=hkd ((c - o) % s - j) (by omega)
   rw [hp1] at hp1';cases hp1'
   rw [hp2'] at hv
   simp only at hv
   have hcu:l[c]=u:=by
    have:o+(c - o) / s * s+j+((c - o) % s - j)=c:=by omega
    rw [this,hold] at hp2;cases hp2;rfl
   rw [hcu] at hv
   obtain ⟨e1,e2⟩:=RG hp3' hp3
   by_cases hqk:(c - o) / s=k
   .rw [hqk] at hdm
    rw [hqk,Nat.beq_refl,e1] at hv
    rw [if_pos (by omega)] at hx
    obtain ⟨y,hy,hdy⟩:=AP hc hp2'
    have:c - (o+k * s+j)=(c - o) % s - j:=by omega
    rw [this,hy] at hx
    cases hx
    rw [<- hv];exact hdy
   .have hb:Nat.beq ((c - o) / s) k=false:=by
     cases h:Nat.beq ((c - o) / s) k with
     | false=>rfl
     | true=>rw [Nat.beq_eq] at h;exact absurd h hqk
    rw [hb,e2] at hv
    refine outside (fun hh=>hqk ?_) (by rw [<- hv,hcu])
    refine Nat.div_eq_of_lt_le ?_ ?_
    .omega
    .rw [Nat.succ_mul];omega
  .rename_i hin
   refine outside (fun hh=>?_) hv.symm
   have hs:0<s:=by omega
   have hmod:(c - o) % s=c - (o+k * s):=by
    have:c - o=c - (o+k * s)+k * s:=by omega
    rw [this,Nat.add_mul_mod_self_right,Nat.mod_eq_of_lt (by omega)]
   have hcond:(Nat.ble o c&&(Nat.blt c (o+m * s)&&(Nat.ble j ((c - o) % s)&&Nat.blt ((c - o) % s) (j+n))))=true:=by
    simp only [aq,Nat.ble_eq,Nat.blt_eq,hmod]
    omega
   rw [hcond] at hin
   cases hin
theorem Gf{B:Nat}{M:List Nat}{O:Env}{mem:Nat->Blk}{w:World}(hm:Ak B M O mem w){t:TypeId}{p v:SV}{r:Ae}(h:JP P mem t p v=some r)(hn:∀ b∈r.need,b=true){x y:Value}(hp:p.den O x)(hv:v.den O y)(off:Nat) :
  ∃ w',(Instr.storeAt t x y).run P w=.ok () w'/\A5 O O off r w w' undef:=by
 unfold JP at h
 split at h <;> try (cases h;done)
 rename_i n cs hsz hcs
 split at h <;> try (cases h;done)
 rename_i hcond
 obtain ⟨hlen,hone⟩:=hcond
 have hd:=cells?_den hv hcs
 have hly:y.cells.toList.length=n:=by rw [Ax hd,hlen]
 have h1:=Ja hd hone
 have post:∀ (i e:Nat) (m:Nm) (c:Array Value) (o:Nat) (b':Blk) (need:List Bool),O i=some m->(mem i).mine=true->w.heap[m.blk]? = some (.cells c e (0,0))->o+n<=c.size ->
   (b'.den O (w.setCells m.blk o y.cells.toList) m)->A5 O O off { v:=.any,upds:=[(i,b')],need:=need } w (w.setCells m.blk o y.cells.toList) undef:=by
  intro i e m c o b' need hi hmine hc ho hb
  obtain ⟨g1,g2,g3,g4,g5,g6⟩:=Bi m.blk y.cells.toList o w c e (0,0) hc (by rw [hly];exact ho)
  refine ⟨trivial,Ext.refl _,fun _ _=>rfl,g4,g5,g6,by rw [g3];exact Nat.le_refl _,fun b _ hu=>g2 b fun e'=>hu (i,b') (by simp) m hi e'.symm,⟨fun _ _ _ h=>.inl h,fun _ _ h=>.inl h,rfl⟩,fun u hu _=>?_,fun _ _ hj=>by simp at hj,fun _ _ _ _ _ _ _ hj=>by simp at hj⟩
  simp at hu
  subst hu
  exact ⟨fun m' hm'=>by rw [hi] at hm';cases hm';exact hb,fun hn=>by rw [hi] at hn;cases hn⟩
 have cellsCase:∀ (i e:Nat) (l:List SV) (o:Nat),mem i=.cells e l->o+n<=l.length->(∃ m,O i=some m/\x=.pointer (some ⟨m.blk,m.off+o,none⟩)) ->
   r={ v:=.any,upds:=[(i,.cells e (Di l o cs))] }->∃ w',(Instr.storeAt t x y).run P w=.ok () w'/\A5 O O off r w w' undef:=by
  rintro i e l o hmem ho ⟨m,hi,rfl⟩ rfl
  obtain ⟨_,hb,_⟩:=hm.get (by simp [hmem,Blk.isUnk]) hi
  rw [hmem] at hb
  obtain ⟨h0,c,hc,hd'⟩:=hb
  have hcl:c.size=l.length:=by simpa using Ax hd'
  refine ⟨_,by rw [h0,az];exact BW hc hsz hly (by omega) h1,?_⟩
  refine post i e m c o _ _ hi (by simp [hmem,Blk.mine]) hc (by omega) ⟨h0,_,(Bi m.blk y.cells.toList o w c e (0,0) hc (by rw [hly];omega)).1,?_⟩
  exact K1 hd' hd o
 split at h
 .rename_i i o
  split at h <;> try (cases h;done)
  rename_i e l hmem
  split at h <;> cases h
  exact cellsCase i e l o hmem (by assumption) hp rfl
 .rename_i i size k j
  split at h <;> try (cases h;done)
  .rename_i e l hmem
   split at h <;> cases h
   exact cellsCase i e l _ hmem (by assumption) hp rfl
  .rename_i e sh m d hmem
   split at h <;> cases h
   rename_i hs
   obtain ⟨rfl,hjn,hkd⟩:=hs
   simp only [List.mem_singleton,forall_eq,decide_eq_true_eq] at hn
   obtain ⟨nm,hi,rfl⟩:=hp
   obtain ⟨_,hb,_⟩:=hm.get (by simp [hmem,Blk.isUnk]) hi
   rw [hmem] at hb
   obtain ⟨h0,hcap,⟨c,hc,hcs',hmx⟩,hel⟩:=hb
   have hks:(k+1) * sh.length<=nm.cap * sh.length:=Nat.mul_le_mul_right _ (by omega)
   have hks':(k+1) * sh.length=k * sh.length+sh.length:=Nat.succ_mul k sh.length
   have hfit:k * sh.length+j+n<=c.size:=by omega
   have hheap:=(Bi nm.blk y.cells.toList (k * sh.length+j) w c e (0,0) hc (by rw [hly];omega)).1
   refine ⟨_,by rw [h0,az];exact BW hc hsz hly hfit h1,?_⟩
   have hsizes:(Di c.toList (k * sh.length+j) y.cells.toList).length=c.size:=by rw [E2 (by rw [hly];simpa using hfit)];simp
   refine post i e nm c (k * sh.length+j) _ _ hi (by simp [hmem,Blk.mine]) hc hfit ⟨h0,hcap,⟨_,hheap,by simpa [hsizes] using hcs',hmx⟩,fun q hq=>⟨B2 _ _ _,?_⟩⟩
   have hcell:∀ o',(w.setCells nm.blk (k * sh.length+j) y.cells.toList).cell? ⟨nm.blk,o',none⟩=if k * sh.length+j<=o'/\o'<k * sh.length+j+n then y.cells.toList[o' - (k * sh.length+j)]? else w.cell? ⟨nm.blk,o',none⟩:=by
    intro o'
    rw [cell_of_row _ nm.blk o' _ e (0,0) hheap,cell_of_row w nm.blk o' c e (0,0) hc]
    have:=DM (l:=c.toList) (vs:=y.cells.toList) (o:=k * sh.length+j) (by rw [hly];simpa using hfit) o'
    rw [hly] at this
    simpa using this
   by_cases hqk:q=k
   .subst hqk
    rw [LC (by omega) (by rw [hlen];exact hkd)]
    intro j' sv hj'
    rw [DM (by rw [B2];omega),hlen] at hj'
    rw [h0,az,hcell]
    by_cases hin:j<=j'/\j'<j+n
    .rw [if_pos hin] at hj'
     rw [if_pos (by omega)]
     obtain ⟨z,hz,hdz⟩:=AP hd hj'
     exact ⟨z,by rw [<- hz];congr 1;omega,hdz⟩
    .rw [if_neg hin] at hj'
     rw [if_neg (by omega)]
     have:=(hel q hq).2 j' sv hj'
     rwa [h0,az] at this
   .rw [Kz hqk]
    intro j' sv hj'
    have hjl:j'<sh.length:=by have:=(ax.1 hj').1;rw [B2] at this;exact this
    rw [h0,az,hcell]
    have hout:¬ (k * sh.length+j<=q * sh.length+j'/\q * sh.length+j'<k * sh.length+j+n):=by
     rintro ⟨ha,hb⟩
     rcases Nat.lt_or_gt_of_ne hqk with hlt | hlt
     .have:(q+1) * sh.length<=k * sh.length:=Nat.mul_le_mul_right _ (by omega)
      rw [Nat.succ_mul] at this
      omega
     .have:(k+1) * sh.length<=q * sh.length:=Nat.mul_le_mul_right _ (by omega)
      omega
    rw [if_neg hout]
    have:=(hel q hq).2 j' sv hj'
    rwa [h0,az] at this
 .rename_i i o s m k j
  split at h <;> try (cases h;done)
  rename_i e l hmem
  split at h <;> cases h
  rename_i hcond
  obtain ⟨hom,hfit,hj,hall⟩:=hcond
  have hkm:k<m:=by simpa using hn
  obtain ⟨nm,hi,rfl⟩:=hp
  obtain ⟨_,hb,_⟩:=hm.get (by simp [hmem,Blk.isUnk]) hi
  rw [hmem] at hb
  obtain ⟨h0,c,hc,hd'⟩:=hb
  have hcl:c.size=l.length:=by simpa using Ax hd'
  have hks:(k+1) * s<=m * s:=Nat.mul_le_mul_right _ hkm
  rw [Nat.succ_mul] at hks
  have hfit':o+k * s+j+n<=c.size:=by omega
  refine ⟨_,by rw [h0,az];exact BW hc hsz hly hfit' h1,?_⟩
  refine post i e nm c (o+k * s+j) _ _ hi (by simp [hmem,Blk.mine]) hc hfit' ⟨h0,_,(Bi nm.blk y.cells.toList (o+k * s+j) w c e (0,0) hc (by rw [hly];omega)).1,?_⟩
  refine Sa hd' hd hlen hkm hom hfit hj fun q hq=>?_
  have:=List.all_eq_true.1 hall q (List.mem_range.2 hq)
  split at this
  .exact ⟨_,_,by assumption,by assumption,this⟩
  .cases this
 .cases h
end runs
end Go.Sy
