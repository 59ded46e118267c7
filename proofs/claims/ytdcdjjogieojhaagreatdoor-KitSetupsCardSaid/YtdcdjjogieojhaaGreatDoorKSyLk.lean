/-
 A symbolic executor for the model's code: looking a key up in a map that nobody writes. Conditions: none.
-/
import Derived.Test.YtdcdjjogieojhaaGreatDoorKSyG
import Derived.Lib.AppendZeros
import Derived.Lib.AppendStr
set_option linter.unusedVariables false
set_option linter.unusedSimpArgs false
set_option linter.unusedSectionVars false
open Bool renaming and_eq_true->aq
open List renaming getElem?_eq_some_iff->ax
open Nat renaming zero_add->az
namespace Go.Sy
open Go.RowKit
variable [AO]
section runs
variable {P:Program}
def rdR(sh:List Kd)(size k n:Nat):Blk->Option (Nat × Dat × List Bool)
 | .row _ sh' m d=>match Bp sh' sh&&Nat.beq size sh.length with
  | true=>some (n,d.shift k,[decide (k+n<=m)])
  | false=>none
 | .cells _ l=>match Nat.beq size sh.length&&Nat.ble ((k+n) * size) l.length&&(List.range n).all (fun q=>DH sh (((l.drop (k * size)).drop (q * size)).take size)) with
  | true=>some (n,Aw (l.drop (k * size)) size,[])
  | false=>none
 | _=>none
def rdS(sh:List Kd)(mem:Nat->Blk):SV->Option (Nat × Dat × List Bool)
 | .nsl=>some (0,A3,[])
 | .ro sh' n d=>match Bp sh' sh with
  | true=>some (n,d,[])
  | false=>none
 | .rn sh' n d=>match Bp sh' sh with
  | true=>some (n,d,[])
  | false=>none
 | .own i size n=>rdR sh size 0 n (mem i)
 | .gr i size n=>rdR sh size 0 n (mem i)
 | .slc i size k n=>rdR sh size k n (mem i)
 | _=>none
def nmS:SV->List Nat
 | .own i _ _ | .gr i _ _ | .slc i _ _ _=>[i]
 | _=>[]
def SC(O:Env)(C:Nat->Nat->Value->Prop)(sh:List Kd)(n:Nat)(d:Dat)(x:Value):Prop :=
 ∃ A cap,x=.slice A n cap/\NC A n cap/\(0<n->∃ b o,A=some ⟨b,o,none⟩/\∀ q,q<n->∀ j v,(el sh d q)[j]? = some v->∃ y,C b (o+(q * sh.length+j)) y/\v.den O y)
theorem Hr{B:Nat}{M:List Nat}{O:Env}{mem:Nat->Blk}{w:World}(hm:Ak B M O mem w){sh:List Kd}{i size k n n':Nat}{d:Dat}{ns:List Bool}(h:rdR sh size k n (mem i)=some (n',d,ns))(hn:∀ b∈ns,b=true){m:Nm}(hi:O i=some m) :
  n'=n/\size=sh.length/\∀ q,q<n->∀ j v,(el sh d q)[j]? = some v->∃ y,w.cell? ⟨m.blk,m.off+k * size+(q * sh.length+j),none⟩=some y/\v.den O y:=by
 unfold rdR at h
 split at h <;> try (cases h;done)
 .rename_i e sh' m0 d0 hmem
  split at h <;> cases h
  rename_i hb
  simp only [aq] at hb
  have e1:=AW hb.1
  subst e1
  have h2:size=sh'.length:=by simpa using hb.2
  have hle:k+n<=m0:=by simpa using hn
  obtain ⟨_,g3,_⟩:=hm.get (by rw [hmem];rfl) hi
  rw [hmem] at g3
  refine ⟨rfl,h2,fun q hq j v hj=>?_⟩
  rw [LB] at hj
  obtain ⟨x,hx,hd⟩:=(g3.2.2.2 (k+q) (by omega)).2 j v hj
  refine ⟨x,?_,hd⟩
  rw [<- hx,h2,Nat.add_mul]
  congr 2
  omega
 .rename_i e l hmem
  split at h <;> cases h
  rename_i hb
  simp only [aq,List.all_eq_true,List.mem_range] at hb
  have h2:size=sh.length:=by simpa using hb.1.1
  obtain ⟨_,g3,_⟩:=hm.get (by rw [hmem];rfl) hi
  rw [hmem] at g3
  obtain ⟨h0,c,hc,hd⟩:=g3
  refine ⟨rfl,h2,fun q hq j v hj=>?_⟩
  rw [GJ (hb.2 q hq),List.getElem?_take] at hj
  split at hj <;> try (cases hj;done)
  rw [List.getElem?_drop,List.getElem?_drop] at hj
  obtain ⟨y,hy,hdy⟩:=AP hd hj
  refine ⟨y,?_,hdy⟩
  rw [h0,cell_of_row w m.blk _ c e (0,0) hc,<- h2]
  rw [<- Array.getElem?_toList,<- hy]
  congr 1
  omega
theorem Eo{B:Nat}{M:List Nat}{O:Env}{mem:Nat->Blk}{w:World}(hm:Ak B M O mem w){C:Nat->Nat->Value->Prop}(hC1:∀ b o y,O.od b o=some y->C b o y){sh:List Kd}{v:SV}(hC2:∀ i m,i∈nmS v->O i=some m->∀ o y,w.cell? ⟨m.blk,o,none⟩=some y->C m.blk o y){n:Nat}{d:Dat}{ns:List Bool}(h:rdS sh mem v=some (n,d,ns))(hn:∀ b∈ns,b=true){x:Value}(hv:v.den O x):SC O C sh n d x:=by
 cases v <;> simp only [rdS] at h <;> try (cases h;done)
 case nsl=>cases h;exact ⟨none,0,hv,⟨Nat.le_refl _,fun _=>rfl⟩,fun h=>absurd h (Nat.lt_irrefl _)⟩
 case ro sh' n' d' =>
  split at h <;> cases h
  rename_i he
  have e1:=AW he
  subst e1
  obtain ⟨A,cap,rfl,hc,hA⟩:=hv
  refine ⟨A,cap,rfl,hc,fun h0=>?_⟩
  obtain ⟨b,o,rfl,hL⟩:=hA h0
  refine ⟨b,o,rfl,fun q hq j v hj=>?_⟩
  obtain ⟨y,hy,hd⟩:=BN.1 (hL q hq) j v hj
  exact ⟨y,hC1 _ _ _ (by rw [<- Nat.add_assoc];exact hy),hd⟩
 case rn sh' n' d' =>
  split at h <;> cases h
  rename_i he
  have e1:=AW he
  subst e1
  obtain ⟨a,cap,rfl,hc,hL⟩:=hv
  refine ⟨_,cap,rfl,⟨hc,fun h=>by cases h⟩,fun h0=>?_⟩
  obtain ⟨b,o,rfl,hK⟩:=hL h0
  refine ⟨b,o,rfl,fun q hq j v hj=>?_⟩
  obtain ⟨y,hy,hd⟩:=BN.1 (hK q hq) j v hj
  exact ⟨y,hC1 _ _ _ (by rw [<- Nat.add_assoc];exact hy),hd⟩
 case own i size n0 =>
  obtain ⟨m,hi,h0,hc,rfl⟩:=hv
  obtain ⟨rfl,rfl,hr⟩:=Hr hm h hn hi
  refine ⟨_,_,rfl,⟨hc,fun h=>by cases h⟩,fun _=>⟨m.blk,0,rfl,fun q hq j v hj=>?_⟩⟩
  obtain ⟨y,hy,hd⟩:=hr q hq j v hj
  rw [h0] at hy
  exact ⟨y,hC2 i m (by simp [nmS]) hi _ _ (by simpa using hy),hd⟩
 case gr i size n0 =>
  rcases hv with ⟨hz,A,rfl⟩ | ⟨m,hi,h0,hc,rfl⟩
  .have:n=n0:=by
    unfold rdR at h
    split at h <;> try (cases h;done)
    all_goals split at h <;> cases h;rfl
   exact ⟨A,0,by rw [this,hz],⟨by omega,fun _=>rfl⟩,fun h=>by omega⟩
  obtain ⟨rfl,rfl,hr⟩:=Hr hm h hn hi
  refine ⟨_,_,rfl,⟨hc,fun h=>by cases h⟩,fun _=>⟨m.blk,0,rfl,fun q hq j v hj=>?_⟩⟩
  obtain ⟨y,hy,hd⟩:=hr q hq j v hj
  rw [h0] at hy
  exact ⟨y,hC2 i m (by simp [nmS]) hi _ _ (by simpa using hy),hd⟩
 case slc i size k n0 =>
  obtain ⟨A,cap,rfl,hc,hA⟩:=hv
  have hnn:n=n0:=by
   unfold rdR at h
   split at h <;> try (cases h;done)
   all_goals split at h <;> cases h;rfl
  subst hnn
  refine ⟨A,cap,rfl,hc,fun h0=>?_⟩
  obtain ⟨m,hi,rfl⟩:=hA h0
  obtain ⟨_,rfl,hr⟩:=Hr hm h hn hi
  refine ⟨m.blk,m.off+k * sh.length,rfl,fun q hq j v hj=>?_⟩
  obtain ⟨y,hy,hd⟩:=hr q hq j v hj
  exact ⟨y,hC2 i m (by simp [nmS]) hi _ _ hy,hd⟩
def IQ(sh:List Kd)(d:Dat)(m:Nat):List SV:=(List.range m).flatMap (el sh d)
theorem K3(sh:List Kd)(d:Dat)(m:Nat):IQ sh d (m+1)=IQ sh d m ++ el sh d m:=by simp [IQ,List.range_succ]
theorem E1(sh:List Kd)(d:Dat):∀ m,(IQ sh d m).length=m * sh.length
 | 0=>by simp [IQ]
 | m+1=>by rw [K3,List.length_append,E1 sh d m,B2,Nat.succ_mul]
theorem IR(sh:List Kd)(d:Dat):∀ (m q j:Nat),q<m->j<sh.length->(IQ sh d m)[q * sh.length+j]? = (el sh d q)[j]?
 | 0,_,_,h,_=>absurd h (Nat.not_lt_zero _)
 | m+1,q,j,hq,hj=>by
  rw [K3,List.getElem?_append,E1]
  by_cases h:q<m
  .have:(q+1) * sh.length<=m * sh.length:=Nat.mul_le_mul_right _ h
   rw [Nat.succ_mul] at this
   rw [if_pos (by omega)]
   exact IR sh d m q j h hj
  .have hqm:q=m:=by omega
   subst hqm
   rw [if_neg (by omega)]
   congr 1
   omega
theorem Ts{sh:List Kd}{d:Dat}{k j:Nat}{v:SV}(h:(el sh d k)[j]? = some v):v.one=true:=by
 rw [C8] at h
 cases hs:sh[j]? with
 | none=>rw [hs] at h;cases h
 | some kd=>rw [hs] at h;cases h;cases kd <;> rfl
theorem Jf{O:Env}{w:World}{sh:List Kd}{d:Dat}{m b o:Nat}(hpos:0<sh.length)(h:∀ q,q<m->∀ j v,(el sh d q)[j]? = some v->∃ y,w.cell? ⟨b,o+(q * sh.length+j),none⟩=some y/\v.den O y) :
  ∃ xs:List Value,xs.length=m * sh.length/\SV.denL O (IQ sh d m) xs/\(∀ t u,xs[t]? = some u->w.cell? ⟨b,o+t,none⟩=some u)/\∀ u∈xs,u.oneCell'=true:=by
 have key:∀ t sv,(IQ sh d m)[t]? = some sv->∃ q j,t=q * sh.length+j/\q<m/\(el sh d q)[j]? = some sv:=by
  intro t sv ht
  have hl:t<m * sh.length:=by have:=(ax.1 ht).1;rwa [E1] at this
  have hq:t / sh.length<m:=Nat.div_lt_of_lt_mul (by rw [Nat.mul_comm];exact hl)
  have hj:t % sh.length<sh.length:=Nat.mod_lt _ hpos
  have he:t=t / sh.length * sh.length+t % sh.length:=by rw [Nat.mul_comm];exact (Nat.div_add_mod _ _).symm
  rw [he,IR sh d m _ _ hq hj] at ht
  exact ⟨_,_,he,hq,ht⟩
 obtain ⟨xs,hd,hg⟩:=CY (O:=O) (g:=fun t=>w.cell? ⟨b,o+t,none⟩) (cs:=IQ sh d m) fun t sv ht=>by
  obtain ⟨q,j,rfl,hq,hj⟩:=key t sv ht
  exact h q hq j sv hj
 refine ⟨xs,by rw [Ax hd,E1],hd,fun t u ht=>hg t u ht,Ja hd ?_⟩
 rw [List.all_eq_true]
 intro v hv
 obtain ⟨t,ht⟩:=List.mem_iff_getElem?.1 hv
 obtain ⟨q,j,_,_,hj⟩:=key t v ht
 exact Ts hj
def Dat.app(d:Dat)(n:Nat)(e:Dat):Dat where
 ii:=fun q c=>cond (Nat.blt q n) (d.ii q c) (e.ii (q - n) c)
 ss:=fun q c=>cond (Nat.blt q n) (d.ss q c) (e.ss (q - n) c)
 bb:=fun q c=>cond (Nat.blt q n) (d.bb q c) (e.bb (q - n) c)
 sn:=fun q c=>cond (Nat.blt q n) (d.sn q c) (e.sn (q - n) c)
 sd:=fun q c=>cond (Nat.blt q n) (d.sd q c) (e.sd (q - n) c)
theorem Is{a b:Nat}(h:a<b):Nat.blt a b=true:=by simpa using h
theorem O7{a b:Nat}(h:¬ a<b):Nat.blt a b=false:=by
 cases hh:Nat.blt a b with
 | false=>rfl
 | true=>exact absurd (by simpa using hh) h
theorem Hf{sh:List Kd}{d e:Dat}{n q:Nat}(h:q<n):el sh (d.app n e) q=el sh d q:=by
 apply List.ext_getElem?
 intro c
 rw [C8,C8]
 cases sh[c]? with
 | none=>rfl
 | some kd=>cases kd <;> simp [Dq,Dat.app,Dat.sub,Is h]
theorem Eg{sh:List Kd}{d e:Dat}{n q:Nat}(h:¬ q<n):el sh (d.app n e) q=el sh e (q - n):=by
 apply List.ext_getElem?
 intro c
 rw [C8,C8]
 cases sh[c]? with
 | none=>rfl
 | some kd=>cases kd <;> simp [Dq,Dat.app,Dat.sub,O7 h]
def Eb(mem:Nat->Blk)(e:Nat)(sh:List Kd)(m:Nat)(d2:Dat)(ns:List Bool)(k size n:Nat)(v:SV):Option Ae :=
 match mem k with
 | .row e' sh' n' d=>match Nat.beq e e'&&Bp sh' sh&&Nat.beq size sh.length with
  | true=>some { v:=v,news:=[.row e sh (n+m) (d.app n d2)],upds:=[(k,.unk)],need:=ns ++ [decide (n<=n'),decide (n+m<=1073741824)] }
  | false=>none
 | _=>none
def Ie(P:Program)(mem:Nat->Blk)(off:Nat)(t:TypeId)(v x:SV):Option Ae :=
 match P.underlying t with
 | some (.slice e)=>match kdT P 8 e,P.info? e with
  | some sh,some i=>match i.zero with
   | some z=>if i.bytes<=1024/\z.cells.size=i.size/\sh.length=i.size/\0<i.size then
     match rdS sh mem x with
     | some (m,d2,ns)=>match v with
      | .nsl=>some { v:=.gr off sh.length m,news:=[.row e sh m d2],need:=ns ++ [decide (m<=1073741824)] }
      | .gr k size n=>Eb mem e sh m d2 ns k size n (.gr off size (n+m))
      | .own k size n=>Eb mem e sh m d2 ns k size n (.own off size (n+m))
      | _=>none
     | none=>none
    else none
   | none=>none
  | _,_=>none
 | _=>none
theorem F6{t t' ty e:TypeId}{i:TypeInfo}{w:World}(ht:P.underlying t=some (.slice e))(ht':∃ e',P.underlying t'=some (.slice e'))(hi:P.info? e=some i)(b:Option Addr)(n cap:Nat)(hc:n<=cap)(A:Option Addr)(c:Nat) :
  (Builtin.append_ #[t,t'] ty #[.slice b n cap,.slice A 0 c]).run P w=.ok (.slice b n cap) w:=by
 obtain ⟨e',ht'⟩:=ht'
 cases A <;> cases b <;> simp [Builtin.append_,run_underlying ht,run_underlying ht',sizeOf,typeInfo,hi,Builtin.lenOf,hc,Builtin.firstCells,loadCells,loadCellsFrom,storeCells]
theorem Gv{t t' ty e e':TypeId}{w:World}(ht:P.underlying t=some (.slice e))(ht':P.underlying t'=some (.slice e'))(x y:Value) :
  (Builtin.append_ #[t,t'] ty #[x,y]).run P w=(Builtin.append_ #[t,t] ty #[x,y]).run P w:=by
 cases x <;> simp [Builtin.append_,run_underlying ht,run_underlying ht']
structure Kq (w w':World) (g:Option Nat) (e size n m:Nat) (olds news:List Value) (g' cap':Nat):Prop where
 grown:w.grownBy w' g
 place:g=some g'\/w.heap.size<=g'
 cells:∃ cur,w'.heap[g']? = some (.cells cur e (0,0))/\cur.size=cap' * size/\cur.toList.take ((n+m) * size)=olds ++ news
 le:n+m<=cap'
 max:cap'<=maxLen
theorem Im{t ty e:TypeId}{i:TypeInfo}{z:Value}{w:World}(ht:P.underlying t=some (.slice e))(hi:P.info? e=some i)(hz:i.zero=some z)(hzs:z.cells.size=i.size){g n cap:Nat}{cur:Array Value}(hg:w.heap[g]? = some (.cells cur e (0,0)))(hnc:n<=cap)(hcm:cap<=maxLen)(hcs:cur.size=cap * i.size){a:Addr}{m c:Nat}{news:List Value}(hl:news.length=m * i.size)(hnews:∀ j u,news[j]? = some u->w.cell? (a.add j)=some u)(h1:∀ u∈news,u.oneCell'=true)(h63:n+m<=maxLen)(hbytes:(n+m) * i.bytes<=140737488355328) :
  ∃ g' cap' w',(Builtin.append_ #[t,t] ty #[.slice (some ⟨g,0,none⟩) n cap,.slice (some a) m c]).run P w=.ok (.slice (some ⟨g',0,none⟩) (n+m) cap') w'/\Kq w w' (some g) e i.size n m (cur.toList.take (n * i.size)) news g' cap':=by
 have hlo:(cur.toList.take (n * i.size)).length=n * i.size:=by
  rw [List.length_take,Array.length_toList,hcs]
  exact Nat.min_eq_left (Nat.mul_le_mul_right _ hnc)
 have hlen:(cur.toList.take (n * i.size) ++ news).length=(n+m) * i.size:=by rw [List.length_append,hlo,hl,Nat.add_mul]
 by_cases hroom:n+m<=cap
 .have hfit:n * i.size+news.length<=cur.size:=by rw [hl,hcs,<- Nat.add_mul];exact Nat.mul_le_mul_right _ hroom
  have hr:=run_append_room (P:=P) w t ty e i ht hi g n cap cur hg a m c news hl hnews h1 hroom hfit
  refine ⟨_,_,_,hr,⟨rfl,rfl,rfl,by simp,fun k _ hk=>setRow_other w g k _ (fun e=>hk (by rw [e]))⟩,.inl rfl,⟨_,setRow_heap w g cur _ e _ hg,?_,?_⟩,hroom,hcm⟩
  .simp only [List.size_toArray,List.length_append,List.length_take,List.length_drop,Array.length_toList]
   omega
  .rw [<- hlen]
   exact List.take_left
 .have holds:∀ j u,(cur.toList.take (n * i.size))[j]? = some u->w.cell? ((⟨g,0,none⟩:Addr).add j)=some u:=by
   intro j u hu
   rw [Addr.add_mid,cell_of_row w g _ cur e (0,0) hg]
   rw [List.getElem?_take] at hu
   split at hu
   .simpa using hu
   .cases hu
  have hr:=run_append_grow (P:=P) w t ty e i z ht hi hz ⟨g,0,none⟩ n cap _ hlo holds a m c news hl hnews (by omega) (by simp only [maxLen] at h63;omega) (growslice_fits (by omega) hbytes)
  refine ⟨_,_,_,hr,⟨rfl,rfl,rfl,by simp,fun _ hk _=>heap_alloc_old w.drew _ (h:=hk)⟩,.inr (Nat.le_refl _),⟨_,heap_alloc_new w.drew _,?_,?_⟩,grownCap_ge w (n+m) cap e,grownCap_le_maxLen w (n+m) cap e h63⟩
  .have hge:=grownCap_ge w (n+m) cap e
   simp only [Array.size_append,List.size_toArray,size_zeroCells,hzs,hlo,hl,<- Nat.add_mul]
   congr 1
   omega
  .simp only [Array.toList_append,List.append_assoc]
   rw [<- List.append_assoc,<- hlen]
   exact List.take_left
theorem F5{t ty e:TypeId}{i:TypeInfo}{z:Value}{w:World}(ht:P.underlying t=some (.slice e))(hi:P.info? e=some i)(hz:i.zero=some z)(hzs:z.cells.size=i.size)(b:Option Addr){a:Addr}{m c:Nat}{news:List Value}(hm:0<m)(hl:news.length=m * i.size)(hnews:∀ j u,news[j]? = some u->w.cell? (a.add j)=some u)(h63:m<=maxLen)(hbytes:m * i.bytes<=140737488355328) :
  ∃ g' cap' w',(Builtin.append_ #[t,t] ty #[.slice b 0 0,.slice (some a) m c]).run P w=.ok (.slice (some ⟨g',0,none⟩) m cap') w'/\Kq w w' none e i.size 0 m [] news g' cap':=by
 have fin:∀ w',w'=w.drew.alloc (.cells (([]:List Value).toArray ++ news.toArray ++ Builtin.zeroCells z.cells (grownCap w m 0 e - m)) e)->Kq w w' none e i.size 0 m [] news w.heap.size (grownCap w m 0 e):=by
  rintro _ rfl
  refine ⟨⟨rfl,rfl,rfl,by simp,fun _ hk _=>heap_alloc_old w.drew _ (h:=hk)⟩,.inr (Nat.le_refl _),⟨_,heap_alloc_new w.drew _,?_,?_⟩,by rw [az];exact grownCap_ge w m 0 e,grownCap_le_maxLen w m 0 e h63⟩
  .have hge:=grownCap_ge w m 0 e
   simp only [Array.size_append,List.size_toArray,List.length_nil,az,size_zeroCells,hzs,hl,<- Nat.add_mul]
   congr 1
   omega
  .simp only [Array.toList_append,List.nil_append,az]
   rw [<- hl]
   exact List.take_left
 cases b with
 | none =>
  have hr:=run_append_nil (P:=P) w t ty e i z ht hi hz a m c news hl hnews hm (by simp only [maxLen] at h63;omega) (by omega)
  exact ⟨_,_,_,hr,fin _ (by simp)⟩
 | some b =>
  have hr:=run_append_grow (P:=P) w t ty e i z ht hi hz b 0 0 [] (by simp) (fun j u hu=>by simp at hu) a m c news hl hnews (by omega) (by simp only [maxLen] at h63;omega) (by simpa using growslice_fits (need:=m) (old:=0) hm hbytes)
  simp only [az] at hr
  exact ⟨_,_,_,hr,fin _ rfl⟩
theorem Kq.post{B:Nat}{M:List Nat}{O:Env}{mem:Nat->Blk}{w w':World}(hm:Ak B M O mem w){off:Nat}(hf:O off=none){g:Option Nat}{e n m:Nat}{sh:List Kd}{olds news:List Value}{g' cap':Nat}(h:Kq w w' g e sh.length n m olds news g' cap'){d d2:Dat}{v:SV}{upds:List (Nat × Blk)}{need:List Bool}{x:Value}(hol:olds.length=n * sh.length)(hnl:news.length=m * sh.length)(hu:(g=none/\upds=[])\/∃ k mm,g=some mm.blk/\upds=[(k,.unk)]/\O k=some mm/\(mem k).isUnk=false)(hd:∀ q,q<n->∀ j u,(el sh d q)[j]? = some u->∃ y,olds[q * sh.length+j]? = some y/\u.den O y)(hd2:∀ q,q<m->∀ j u,(el sh d2 q)[j]? = some u->∃ y,news[q * sh.length+j]? = some y/\u.den O y){D:Dat}(hD1:∀ q,q<n->el sh D q=el sh d q)(hD2:∀ q,n<=q->el sh D q=el sh d2 (q - n))(hv:v.den (O.set off ⟨g',0,cap'⟩) x) :
  A5 O (O.set off ⟨g',0,cap'⟩) off { v:=v,news:=[.row e sh (n+m) D],upds:=upds,need:=need } w w' x:=by
 obtain ⟨cur,hcur,hcs,htake⟩:=h.cells
 have hlt:g'<w'.heap.size:=(Array.getElem?_eq_some_iff.1 hcur).1
 have hcell:∀ t u,(olds ++ news)[t]? = some u->w'.cell? ⟨g',0+t,none⟩=some u:=by
  intro t u ht
  rw [az,cell_of_row w' g' t cur e (0,0) hcur,<- Array.getElem?_toList]
  rw [<- htake,List.getElem?_take] at ht
  split at ht
  .exact ht
  .cases ht
 refine ⟨hv,Env.set_ext hf,fun i hi=>Env.set_other (by simp at hi;omega),h.grown.os,h.grown.tape,h.grown.output,h.grown.size,fun b hb hub=>h.grown.block b hb fun e'=>?_,⟨fun _ _ _ h=>.inl h,fun _ _ h=>.inl h,rfl⟩,fun u hu' hk=>?_,fun j b' hj _=>?_,fun j j' b b' m m' hne hj hj'=>?_⟩
 .rcases hu with ⟨h1,_⟩ | ⟨k,mm,h1,h2,h3,_⟩
  .rw [h1] at e';cases e'
  .rw [h1] at e';cases e'
   exact hub (k,.unk) (by rw [h2];simp) mm h3 rfl
 .rcases hu with ⟨_,h2⟩ | ⟨k,mm,_,h2,_,_⟩
  .simp only [h2] at hu';simp at hu'
  .simp only [h2] at hu';simp at hu';subst hu';cases hk
 .cases j with
  | succ j=>simp at hj
  | zero =>
   simp at hj;subst hj
   refine ⟨fun mm hmm=>?_,fun hn=>by rw [Nat.add_zero,Env.set_same] at hn;cases hn⟩
   rw [Nat.add_zero,Env.set_same] at hmm;cases hmm
   refine ⟨hlt,⟨rfl,h.le,⟨cur,hcur,hcs,h.max⟩,fun q hq=>⟨B2 _ _ _,fun j u hj=>?_⟩⟩,fun o=>?_,?_⟩
   .have hjl:j<sh.length:=by have:=(ax.1 hj).1;rw [B2] at this;exact this
    by_cases hqn:q<n
    .rw [hD1 q hqn] at hj
     obtain ⟨y,hy,hdy⟩:=hd q hqn j u hj
     have hb:q * sh.length+j<n * sh.length:=by
      have:(q+1) * sh.length<=n * sh.length:=Nat.mul_le_mul_right _ hqn
      rw [Nat.succ_mul] at this;omega
     exact ⟨y,hcell _ _ (by rw [List.getElem?_append_left (by omega)];exact hy),SV.den_mono (Env.set_ext hf) _ _ hdy⟩
    .rw [hD2 q (by omega)] at hj
     obtain ⟨y,hy,hdy⟩:=hd2 (q - n) (by omega) j u hj
     have hb:n * sh.length<=q * sh.length:=Nat.mul_le_mul_right _ (by omega)
     refine ⟨y,hcell _ _ ?_,SV.den_mono (Env.set_ext hf) _ _ hdy⟩
     rw [List.getElem?_append_right (by omega),<- hy]
     congr 1
     rw [hol,Nat.sub_mul]
     omega
   .show O.od g' o=none
    rcases h.place with hp | hp
    .rcases hu with ⟨h1,_⟩ | ⟨k,mm,h1,_,h3,h4⟩
     .rw [h1] at hp;cases hp
     .rw [h1] at hp;cases hp;exact hm.free k mm h4 h3 o
    .cases ho:O.od g' o with
     | none=>rfl
     | some v=>have:=hm.od_lt ho;omega
   .rcases h.place with hp | hp
    .rcases hu with ⟨h1,_⟩ | ⟨k,mm,h1,h2,h3,_⟩
     .rw [h1] at hp;cases hp
     .rw [h1] at hp;cases hp
      exact .inr ⟨(k,.unk),by rw [h2];simp,rfl,mm,h3,rfl⟩
    .exact .inl hp
 .cases j <;> cases j' <;> simp at hj hj' hne
theorem KE{O:Env}{sh:List Kd}{d:Dat}{m:Nat}{xs:List Value}(h:SV.denL O (IQ sh d m) xs){q:Nat}(hq:q<m){j:Nat}{u:SV}(hj:(el sh d q)[j]? = some u):∃ y,xs[q * sh.length+j]? = some y/\u.den O y:=by
 have hjl:j<sh.length:=by have:=(ax.1 hj).1;rw [B2] at this;exact this
 exact AP h (by rw [IR sh d m q j hq hjl];exact hj)
theorem Mh{B:Nat}{M:List Nat}{O:Env}{mem:Nat->Blk}{w:World}(hm:Ak B M O mem w){off:Nat}{t t':TypeId}(ht':∃ e',P.underlying t'=some (.slice e')){v x:SV}{r:Ae}(h:Ie P mem off t v x=some r)(hn:∀ b∈r.need,b=true)(hf:O off=none){y z:Value}(hv:v.den O y)(hx:x.den O z)(ty:TypeId) :
  ∃ u w' O',(Builtin.append_ #[t,t'] ty #[y,z]).run P w=.ok u w'/\A5 O O' off r w w' u:=by
 unfold Ie at h
 split at h <;> try (cases h;done)
 rename_i e ht
 split at h <;> try (cases h;done)
 rename_i sh i hsh hi
 split at h <;> try (cases h;done)
 rename_i z0 hz
 split at h <;> try (cases h;done)
 rename_i hc
 obtain ⟨hby,hzs,hshl,hpos⟩:=hc
 split at h <;> try (cases h;done)
 rename_i m d2 ns hrd
 have ht2:=ht'
 obtain ⟨e',ht2⟩:=ht2
 rw [Gv ht ht2]
 have hns:∀ b∈ns,b=true:=by
  intro b hb
  split at h <;> try (cases h;done)
  .cases h;exact hn b (List.mem_append.2 (.inl hb))
  .unfold Eb at h;split at h <;> try (cases h;done)
   split at h <;> cases h
   exact hn b (List.mem_append.2 (.inl hb))
  .unfold Eb at h;split at h <;> try (cases h;done)
   split at h <;> cases h
   exact hn b (List.mem_append.2 (.inl hb))
 obtain ⟨A,c,rfl,⟨hmc,_⟩,hA⟩:=Eo (C:=fun b o y=>w.cell? ⟨b,o,none⟩=some y) hm (fun b o y hy=>hm.seal_ b o y hy) (fun i mm _ _ o y hy=>hy) hrd hns hx
 -- what is appended
 have newL:0<m->∃ a news,A=some a/\news.length=m * sh.length/\SV.denL O (IQ sh d2 m) news/\(∀ j u,news[j]? = some u->w.cell? (a.add j)=some u)/\∀ u∈news,u.oneCell'=true:=by
  intro h0
  obtain ⟨b,o,rfl,hq⟩:=hA h0
  obtain ⟨xs,h1,h2,h3,h4⟩:=Jf (by omega) hq
  exact ⟨_,xs,rfl,h1,h2,fun j u hj=>by rw [Addr.add_mid];exact h3 j u hj,h4⟩
 have hbytes:∀ k:Nat,k<=1073741824->k * i.bytes<=140737488355328:=fun k hk=>by
  have:k * i.bytes<=1073741824 * 1024:=Nat.mul_le_mul hk hby
  omega
 have slen:i.size=sh.length:=hshl.symm
 -- nothing is there yet
 have fromNone:∀ (b:Option Addr) (vv:SV) (need:List Bool) (D:Dat) (upds:List (Nat × Blk)),y=.slice b 0 0->m<=1073741824->vv=.gr off sh.length m->upds=[]->(∀ q,el sh D q=el sh d2 q) ->
   ∃ u w' O',(Builtin.append_ #[t,t] ty #[y,.slice A m c]).run P w=.ok u w'/\A5 O O' off { v:=vv,news:=[.row e sh (0+m) D],upds:=upds,need:=need } w w' u:=by
  rintro b vv need D upds rfl hm30 rfl rfl hD
  by_cases h0:m=0
  .subst h0
   refine ⟨_,w,O,F6 ht ⟨e,ht⟩ hi b 0 0 (Nat.le_refl _) A c,⟨.inl ⟨rfl,b,rfl⟩,Ext.refl _,fun _ _=>rfl,rfl,rfl,rfl,Nat.le_refl _,fun _ _ _=>rfl,⟨fun _ _ _ h=>.inl h,fun _ _ h=>.inl h,rfl⟩,fun _ hu=>by simp at hu,fun j b' hj _=>?_,fun j j' b b' m m' hne hj hj'=>?_⟩⟩
   .cases j with
    | succ j=>simp at hj
    | zero=>simp at hj;subst hj;exact ⟨fun mm hmm=>(by rw [Nat.add_zero,hf] at hmm;cases hmm),fun _=>rfl⟩
   .cases j <;> cases j' <;> simp at hj hj' hne
  .obtain ⟨a,news,rfl,h1,h2,h3,h4⟩:=newL (by omega)
   obtain ⟨g',cap',w',hr,hg⟩:=F5 (P:=P) (ty:=ty) ht hi hz hzs b (by omega:0<m) (c:=c) (by rw [slen];exact h1) h3 (by unfold maxLen;omega) (hbytes _ hm30)
   rw [slen] at hg
   have hle:=hg.le
   refine ⟨_,w',_,hr,hg.post hm hf (d:=d2) (d2:=d2) (by simp) h1 (.inl ⟨rfl,rfl⟩) (fun q hq=>absurd hq (Nat.not_lt_zero _)) (fun q hq j u hj=>KE h2 hq hj) (fun q hq=>absurd hq (Nat.not_lt_zero _)) (fun q _=>by rw [hD];rfl) (.inr ⟨_,Env.set_same _ _ _,rfl,by show m<=cap';omega,rfl⟩)⟩
 -- on a slice of the call's own
 have fromOwn:∀ (k n:Nat) (mm:Nm) (vv:SV) (r:Ae),O k=some mm->mm.off=0->n<=mm.cap->y=.slice (some ⟨mm.blk,0,none⟩) n mm.cap->(∀ m':Nm,m'.off=0->n+m<=m'.cap->∀ O':Env,O' off=some m'->vv.den O' (.slice (some ⟨m'.blk,0,none⟩) (n+m) m'.cap))->(∀ b∈r.need,b=true) ->
   Eb mem e sh m d2 ns k sh.length n vv=some r->∃ u w' O',(Builtin.append_ #[t,t] ty #[y,.slice A m c]).run P w=.ok u w'/\A5 O O' off r w w' u:=by
  rintro k n mm vv r hk h0 hcap rfl hvv hn h
  unfold Eb at h
  split at h <;> try (cases h;done)
  rename_i e1 sh1 n1 d hmem
  split at h <;> cases h
  rename_i hb
  simp only [aq] at hb
  have e2:e=e1:=by simpa using hb.1.1
  subst e2
  have e3:=AW hb.1.2
  subst e3
  have n1le:n<=n1:=by simpa using hn (decide (n<=n1)) (by simp)
  have hm30:n+m<=1073741824:=by simpa using hn (decide (n+m<=1073741824)) (by simp)
  obtain ⟨_,g3,_⟩:=hm.get (by rw [hmem];rfl) hk
  rw [hmem] at g3
  obtain ⟨_,hn1,⟨cur,hcur,hcs,hcm⟩,hel⟩:=g3
  have hol:(cur.toList.take (n * sh1.length)).length=n * sh1.length:=by
   have hcl:cur.toList.length=mm.cap * sh1.length:=by simpa using hcs
   rw [List.length_take,hcl]
   exact Nat.min_eq_left (Nat.mul_le_mul_right _ hcap)
  have hold:∀ q,q<n->∀ j u,(el sh1 d q)[j]? = some u->∃ y,(cur.toList.take (n * sh1.length))[q * sh1.length+j]? = some y/\u.den O y:=by
   intro q hq j u hj
   obtain ⟨y,hy,hd⟩:=(hel q (by omega)).2 j u hj
   have hjl:j<sh1.length:=by have:=(ax.1 hj).1;rw [B2] at this;exact this
   have:(q+1) * sh1.length<=n * sh1.length:=Nat.mul_le_mul_right _ hq
   rw [Nat.succ_mul] at this
   refine ⟨y,?_,hd⟩
   rw [h0,az,cell_of_row w mm.blk _ cur e (0,0) hcur] at hy
   rw [List.getElem?_take,if_pos (by omega)]
   simpa using hy
  by_cases hz0:m=0
  .subst hz0
   have hg:Kq w w (some mm.blk) e sh1.length n 0 (cur.toList.take (n * sh1.length)) [] mm.blk mm.cap :=
    ⟨⟨rfl,rfl,rfl,Nat.le_refl _,fun _ _ _=>rfl⟩,.inl rfl,⟨cur,hcur,hcs,by simp⟩,hcap,hcm⟩
   exact ⟨_,w,_,F6 ht ⟨e,ht⟩ hi _ n mm.cap hcap A c,hg.post hm hf (d:=d) (d2:=d2) hol (by simp) (.inr ⟨k,mm,rfl,rfl,hk,by rw [hmem];rfl⟩) hold (fun q hq=>absurd hq (Nat.not_lt_zero _)) (fun q hq=>Hf hq) (fun q hq=>Eg (by omega)) (hvv ⟨mm.blk,0,mm.cap⟩ rfl hcap _ (Env.set_same _ _ _))⟩
  .obtain ⟨a,news,rfl,h1,h2,h3,h4⟩:=newL (by omega)
   obtain ⟨g',cap',w',hr,hg⟩:=Im (P:=P) (ty:=ty) ht hi hz hzs hcur hcap hcm (by rw [slen];exact hcs) (c:=c) (by rw [slen];exact h1) h3 h4 (by unfold maxLen;omega) (hbytes _ hm30)
   rw [slen] at hg
   exact ⟨_,w',_,hr,hg.post hm hf (d:=d) (d2:=d2) hol h1 (.inr ⟨k,mm,rfl,rfl,hk,by rw [hmem];rfl⟩) hold (fun q hq j u hj=>KE h2 hq hj) (fun q hq=>Hf hq) (fun q hq=>Eg (by omega)) (hvv ⟨g',0,cap'⟩ rfl hg.le _ (Env.set_same _ _ _))⟩
 have sizeOf:∀ {k size n:Nat} {vv:SV} {r:Ae},Eb mem e sh m d2 ns k size n vv=some r->size=sh.length:=by
  intro k size n vv r h
  unfold Eb at h
  split at h <;> try (cases h;done)
  split at h <;> cases h
  rename_i hb
  simp only [aq] at hb
  simpa using hb.2
 split at h <;> try (cases h;done)
 .cases h
  have hm30:m<=1073741824:=by simpa using hn (decide (m<=1073741824)) (by simp)
  have:=fromNone none (.gr off sh.length m) (ns ++ [decide (m<=1073741824)]) d2 [] hv hm30 rfl rfl (fun _=>rfl)
  rwa [az] at this
 .rename_i k size n
  have hs:=sizeOf h
  subst hs
  rcases hv with ⟨rfl,b,rfl⟩ | ⟨mm,hk,h0,hcap,rfl⟩
  .have h':=h
   unfold Eb at h
   split at h <;> try (cases h;done)
   rename_i e1 sh1 n1 d hmem
   split at h <;> cases h
   have hm30:0+m<=1073741824:=by simpa using hn (decide (0+m<=1073741824)) (by simp)
   obtain ⟨u,w',O',hr,hp⟩:=fromNone b (.gr off sh.length m) (ns ++ [decide (0<=n1),decide (0+m<=1073741824)]) (d.app 0 d2) [] rfl (by omega) rfl rfl (fun q=>by rw [Eg (Nat.not_lt_zero _)];rfl)
   refine ⟨u,w',O',hr,?_,hp.ext,hp.old,hp.os,hp.tape,hp.output,hp.size,fun b hb _=>hp.keep b hb fun u hu=>by simp at hu,hp.odn,fun u hu hk=>?_,fun j b hj hk=>?_,hp.newapart⟩
   .have:=hp.val;simp only [az];exact this
   .simp at hu;subst hu;cases hk
   .obtain ⟨g1,g2⟩:=hp.new j b hj hk
    exact ⟨fun mm hmm=>let ⟨a1,a2,a3,a4⟩:=g1 mm hmm;⟨a1,a2,a3,a4.imp id fun ⟨u,hu,_⟩=>by simp at hu⟩,g2⟩
  .exact fromOwn k n mm (.gr off sh.length (n+m)) r hk h0 hcap rfl (fun m' hm0 hle O' hO'=>.inr ⟨m',hO',hm0,hle,rfl⟩) hn h
 .rename_i k size n
  have hs:=sizeOf h
  subst hs
  obtain ⟨mm,hk,h0,hcap,rfl⟩:=hv
  exact fromOwn k n mm (.own off sh.length (n+m)) r hk h0 hcap rfl (fun m' hm0 hle O' hO'=>⟨m',hO',hm0,hle,rfl⟩) hn h
def JG(P:Program)(mem:Nat->Blk)(t:TypeId)(x:SV):Option Ae :=
 match P.underlying t with
 | some (.slice e)=>match kdT P 8 e,P.info? e with
  | some sh,some i=>match i.zero with
   | some z=>if i.bytes<=1024/\z.cells.size=i.size/\sh.length=i.size/\0<i.size then
     match rdS sh mem x with
     | some (m,d2,ns)=>some { v:=.ro sh m d2,need:=ns ++ [decide (m<=1073741824)] }
     | none=>none
    else none
   | none=>none
  | _,_=>none
 | _=>none
theorem KW{B:Nat}{M:List Nat}{O:Env}{mem:Nat->Blk}{w:World}(hm:Ak B M O mem w){off:Nat}{t t':TypeId}(ht':∃ e',P.underlying t'=some (.slice e')){x:SV}{r:Ae}(h:JG P mem t x=some r)(hn:∀ b∈r.need,b=true){y z:Value}(hv:SV.den O .emp y)(hx:x.den O z)(ty:TypeId) :
  ∃ u w' O',(Builtin.append_ #[t,t'] ty #[y,z]).run P w=.ok u w'/\A5 O O' off r w w' u:=by
 unfold JG at h
 split at h <;> try (cases h;done)
 rename_i e ht
 split at h <;> try (cases h;done)
 rename_i sh i hsh hi
 split at h <;> try (cases h;done)
 rename_i z0 hz
 split at h <;> try (cases h;done)
 rename_i hc
 obtain ⟨hby,hzs,hshl,hpos⟩:=hc
 split at h <;> cases h
 rename_i m d2 ns hrd
 have ht2:=ht'
 obtain ⟨e',ht2⟩:=ht2
 rw [Gv ht ht2]
 have hns:∀ b∈ns,b=true:=fun b hb=>hn b (List.mem_append.2 (.inl hb))
 have hm30:m<=1073741824:=by simpa using hn (decide (m<=1073741824)) (by simp)
 obtain ⟨A,c,rfl,⟨hmc,_⟩,hA⟩:=Eo (C:=fun b o y=>w.cell? ⟨b,o,none⟩=some y) hm (fun b o y hy=>hm.seal_ b o y hy) (fun i mm _ _ o y hy=>hy) hrd hns hx
 obtain ⟨A0,rfl⟩:=hv
 have hbytes:m * i.bytes<=140737488355328:=by
  have:m * i.bytes<=1073741824 * 1024:=Nat.mul_le_mul hm30 hby
  omega
 by_cases h0:m=0
 .subst h0
  exact ⟨_,w,O,F6 ht ⟨e,ht⟩ hi A0 0 0 (Nat.le_refl _) A c,⟨_,_,rfl,⟨Nat.le_refl _,fun _=>rfl⟩,fun h=>absurd h (Nat.lt_irrefl _)⟩,Ext.refl _,fun _ _=>rfl,rfl,rfl,rfl,Nat.le_refl _,fun _ _ _=>rfl,⟨fun _ _ _ h=>.inl h,fun _ _ h=>.inl h,rfl⟩,fun _ hu=>by simp at hu,fun _ _ hj=>by simp at hj,fun _ _ _ _ _ _ _ hj=>by simp at hj⟩
 .obtain ⟨b,o,rfl,hq⟩:=hA (by omega)
  obtain ⟨news,h1,h2,h3,h4⟩:=Jf (by omega) hq
  have slen:i.size=sh.length:=hshl.symm
  obtain ⟨g',cap',w',hr,hg⟩:=F5 (P:=P) (ty:=ty) ht hi hz hzs A0 (by omega:0<m) (c:=c) (by rw [slen];exact h1) (fun j u hj=>by rw [Addr.add_mid];exact h3 j u hj) (by unfold maxLen;omega) hbytes
  rw [slen] at hg
  obtain ⟨cur,hcur,hcs,htake⟩:=hg.cells
  have hge:w.heap.size<=g':=hg.place.elim (fun h=>by cases h) id
  have hodE:AB O.od ⟨fun b o=>if b=g' then w'.cell? ⟨b,o,none⟩ else O.od b o,O.od.m,O.od.p⟩:=AB.ofC fun b o v hb=>by
   have:=hm.od_lt hb
   have hne:b≠g':=by omega
   simp only [if_neg hne,hb]
  have hE:Ext O ⟨O.nm,⟨fun b o=>if b=g' then w'.cell? ⟨b,o,none⟩ else O.od b o,O.od.m,O.od.p⟩,O.gl.ext hodE⟩:=⟨fun i m hm=>hm,hodE⟩
  have hle:=hg.le
  refine ⟨_,w',⟨O.nm,⟨fun b o=>if b=g' then w'.cell? ⟨b,o,none⟩ else O.od b o,O.od.m,O.od.p⟩,O.gl.ext hodE⟩,hr,⟨_,_,rfl,⟨by omega,fun h=>by cases h⟩,fun _=>⟨g',0,rfl,fun q hq=>?_⟩⟩,hE,fun _ _=>rfl,hg.grown.os,hg.grown.tape,hg.grown.output,hg.grown.size,fun b hb _=>hg.grown.block b hb (fun e=>by cases e),.ofC fun b o v hb=>?_,fun _ hu=>by simp at hu,fun _ _ hj=>by simp at hj,fun _ _ _ _ _ _ _ hj=>by simp at hj⟩
  .refine (BN (O:=⟨O.nm,⟨fun b o=>if b=g' then w'.cell? ⟨b,o,none⟩ else O.od b o,O.od.m,O.od.p⟩,O.gl.ext hodE⟩)).2 fun j v hj=>?_
   obtain ⟨y,hy,hdy⟩:=KE h2 hq hj
   refine ⟨y,?_,SV.den_mono hE _ _ hdy⟩
   simp only [if_true]
   rw [cell_of_row w' g' _ cur e (0,0) hcur,<- Array.getElem?_toList]
   rw [az]
   simp only [az,List.nil_append] at htake
   rw [<- htake,List.getElem?_take] at hy
   split at hy
   .exact hy
   .cases hy
  .by_cases hb':b=g'
   .subst hb'
    simp only [if_true] at hb
    exact .inr ⟨hb,hge⟩
   .simp only [if_neg hb'] at hb
    exact .inl hb
def H8(P:Program)(mem:Nat->Blk)(off:Nat)(t:TypeId)(v x:SV):Option Ae :=
 match P.underlying t,x with
 | some (.slice e),.str s=>match P.underlying e,P.info? e with
  | some (.int .u8),some i=>match i.zero with
   | some (.int .u8 0)=>if i.size=1/\i.bytes=1 then match v with
     | .nsl=>some { v:=.gr off 1 s.size,news:=[.row e [.int .u8] s.size (Ck s)],need:=[decide (0<s.size),decide (s.size<=1073741824)] }
     | .gr k 1 n=>Eb mem e [.int .u8] s.size (Ck s) [decide (0<s.size)] k 1 n (.gr off 1 (n+s.size))
     | _=>none
    else none
   | _=>none
  | _,_=>none
 | _,_=>none
theorem G9{O:Env}{s:BA}{q:Nat}(hq:q<s.size):∀ j u,(el [.int .u8] (Ck s) q)[j]? = some u->∃ y,(Lib.strCells s)[q * [Kd.int IntKind.u8].length+j]? = some y/\u.den O y:=by
 intro j u hj
 have h1:s.data.toList.length=s.size:=by rw [Array.length_toList];rfl
 rw [show el [.int .u8] (Ck s) q=[.int .u8 ((s.data.toList.getD q 0).toNat:Int)] from rfl] at hj
 cases j with
 | succ j=>simp at hj
 | zero =>
  refine ⟨.int .u8 ((s.data.toList.getD q 0).toNat:Int),?_,?_⟩
  .have:s.data.toList[q]? = some (s.data.toList.getD q 0):=by
    rw [List.getD_eq_getElem?_getD,List.getElem?_eq_getElem (by omega)];rfl
   simp only [Lib.strCells,List.length_singleton,Nat.mul_one,Nat.add_zero,List.getElem?_map,this,Option.map_some]
  .simp only [List.getElem?_cons_zero,Option.some.injEq] at hj
   subst hj
   rfl
theorem KT{B:Nat}{M:List Nat}{O:Env}{mem:Nat->Blk}{w:World}(hm:Ak B M O mem w){off:Nat}{t t':TypeId}(hu:P.underlying t'=some .string){v x:SV}{r:Ae}(h:H8 P mem off t v x=some r)(hn:∀ b∈r.need,b=true){y z:Value}(hf:O off=none)(hv:v.den O y)(hx:x.den O z)(ty:TypeId) :
  ∃ u w' O',(Builtin.append_ #[t,t'] ty #[y,z]).run P w=.ok u w'/\A5 O O' off r w w' u:=by
 unfold H8 at h
 split at h <;> try (cases h;done)
 rename_i e s ht
 split at h <;> try (cases h;done)
 rename_i i he hi
 split at h <;> try (cases h;done)
 rename_i hz
 split at h <;> try (cases h;done)
 rename_i hc
 obtain ⟨hs1,hby⟩:=hc
 cases hx
 have sl:=Lib.strCells_length s
 have hz1:(Value.int IntKind.u8 0).cells.size=1:=rfl
 have fresh:∀ (g:Option Nat) (old n:Nat) (xs:List Value),xs.length=n->old<n+s.size->n+s.size<=1073741824->Kq w (w.drew.alloc (.cells (xs.toArray ++ (Lib.strCells s).toArray ++ Builtin.zeroCells (Value.int .u8 0).cells (grownCap w (n+s.size) old e - (n+s.size))) e)) g e 1 n s.size xs (Lib.strCells s) w.heap.size (grownCap w (n+s.size) old e):=by
  intro g old n xs hxl ho hm30
  have hge:=grownCap_ge w (n+s.size) old e
  refine ⟨⟨rfl,rfl,rfl,by simp,fun _ hk _=>heap_alloc_old w.drew _ (h:=hk)⟩,.inr (Nat.le_refl _),⟨_,heap_alloc_new w.drew _,?_,?_⟩,hge,grownCap_le_maxLen w (n+s.size) old e (by unfold maxLen;omega)⟩
  .simp only [Array.size_append,List.size_toArray,size_zeroCells,hz1,hxl,sl]
   omega
  .simp only [Array.toList_append,List.append_assoc]
   rw [<- List.append_assoc,Nat.mul_one,show n+s.size=(xs ++ Lib.strCells s).length by rw [List.length_append,hxl,sl]]
   exact List.take_left
 split at h <;> try (cases h;done)
 .cases h
  cases hv
  have h0:0<s.size:=by simpa using hn (decide (0<s.size)) (by simp)
  have hm30:s.size<=1073741824:=by simpa using hn (decide (s.size<=1073741824)) (by simp)
  have hr:=run_append_nil_string (P:=P) w t t' ty e i (.int .u8 0) ht hu hi hz s h0 (by omega) (by rw [hby];omega)
  have e1:(s.data.map fun b=>Value.int .u8 b.toNat)=(Lib.strCells s).toArray:=by
   apply Array.ext'
   simp [Lib.strCells]
  rw [e1] at hr
  have hg:=fresh none 0 0 [] rfl (by omega) (by omega)
  simp only [az,Array.empty_append] at hg
  have hp:=hg.post (sh:=[.int .u8]) (need:=[decide (0<s.size),decide (s.size<=1073741824)]) (v:=.gr off 1 s.size) (D:=Ck s) (x:=.slice (some ⟨w.heap.size,0,none⟩) s.size (grownCap w s.size 0 e)) hm hf (d:=Ck s) (d2:=Ck s) (by simp) (by simpa using sl) (.inl ⟨rfl,rfl⟩) (fun q hq=>absurd hq (Nat.not_lt_zero _)) (fun q hq=>G9 hq) (fun q hq=>absurd hq (Nat.not_lt_zero _)) (fun q _=>rfl) (.inr ⟨_,Env.set_same _ _ _,rfl,by have:=hg.le;simpa using this,rfl⟩)
  rw [az] at hp
  exact ⟨_,_,_,hr,hp⟩
 .rename_i k n
  unfold Eb at h
  split at h <;> try (cases h;done)
  rename_i e1 sh1 n1 d hmem
  split at h <;> cases h
  rename_i hb
  simp only [aq] at hb
  have e2:e=e1:=by simpa using hb.1.1
  subst e2
  have e3:=AW hb.1.2
  subst e3
  have hs0:0<s.size:=by simpa using hn (decide (0<s.size)) (by simp)
  have n1le:n<=n1:=by simpa using hn (decide (n<=n1)) (by simp)
  have hm30:n+s.size<=1073741824:=by simpa using hn (decide (n+s.size<=1073741824)) (by simp)
  rcases hv with ⟨rfl,A,rfl⟩ | ⟨mm,hk,h0,hcap,rfl⟩
  .have hrun:(Builtin.append_ #[t,t'] ty #[.slice A 0 0,.string s]).run P w=.ok (.slice (some ⟨w.heap.size,0,none⟩) (0+s.size) (grownCap w (0+s.size) 0 e)) (w.drew.alloc (.cells (([]:List Value).toArray ++ (Lib.strCells s).toArray ++ Builtin.zeroCells (Value.int .u8 0).cells (grownCap w (0+s.size) 0 e - (0+s.size))) e)):=by
    cases A with
    | none =>
     have hr:=run_append_nil_string (P:=P) w t t' ty e i (.int .u8 0) ht hu hi hz s hs0 (by omega) (by rw [hby];omega)
     have e1:(s.data.map fun b=>Value.int .u8 b.toNat)=(Lib.strCells s).toArray:=by
      apply Array.ext'
      simp [Lib.strCells]
     rw [e1] at hr
     simpa only [az,Array.empty_append] using hr
    | some b=>exact Lib.run_append_grow_string (P:=P) w t t' ty e i (.int .u8 0) ht hu hi hz b 0 0 [] (by simp) (fun j u hu=>by simp at hu) s (by omega) (by omega) (by rw [hby];exact growslice_fits (by omega) (by omega))
   have hp:=(fresh none 0 0 [] rfl (by omega) hm30).post (sh:=[.int .u8]) (need:=[decide (0<s.size)] ++ [decide (0<=n1),decide (0+s.size<=1073741824)]) (v:=.gr off 1 (0+s.size)) (D:=d.app 0 (Ck s)) (x:=.slice (some ⟨w.heap.size,0,none⟩) (0+s.size) (grownCap w (0+s.size) 0 e)) hm hf (d:=d) (d2:=Ck s) (by simp) (by simpa using sl) (.inl ⟨rfl,rfl⟩) (fun q hq=>absurd hq (Nat.not_lt_zero _)) (fun q hq=>G9 hq) (fun q hq=>absurd hq (Nat.not_lt_zero _)) (fun q hq=>Eg (by omega)) (.inr ⟨_,Env.set_same _ _ _,rfl,(fresh none 0 0 [] rfl (by omega) hm30).le,rfl⟩)
   refine ⟨_,_,_,hrun,hp.val,hp.ext,hp.old,hp.os,hp.tape,hp.output,hp.size,fun b hb _=>hp.keep b hb fun u hu=>by simp at hu,hp.odn,fun u hu hk=>?_,fun j b hj hk=>?_,hp.newapart⟩
   .simp at hu;subst hu;cases hk
   .obtain ⟨g1,g2⟩:=hp.new j b hj hk
    exact ⟨fun mm hmm=>let ⟨a1,a2,a3,a4⟩:=g1 mm hmm;⟨a1,a2,a3,a4.imp id fun ⟨u,hu,_⟩=>by simp at hu⟩,g2⟩
  obtain ⟨_,g3,_⟩:=hm.get (by rw [hmem];rfl) hk
  rw [hmem] at g3
  obtain ⟨_,hn1,⟨cur,hcur,hcs,hcm⟩,hel⟩:=g3
  have hcs:cur.size=mm.cap:=by simpa using hcs
  have hol:(cur.toList.take n).length=n:=by
   rw [List.length_take,Array.length_toList];omega
  have hold:∀ q,q<n->∀ j u,(el [.int .u8] d q)[j]? = some u->∃ y,(cur.toList.take n)[q * [Kd.int IntKind.u8].length+j]? = some y/\u.den O y:=by
   intro q hq j u hj
   obtain ⟨y,hy,hd⟩:=(hel q (by omega)).2 j u hj
   have hjl:j<1:=by have:=(ax.1 hj).1;rw [B2] at this;exact this
   refine ⟨y,?_,hd⟩
   rw [h0,az,cell_of_row w mm.blk _ cur e (0,0) hcur] at hy
   rw [List.getElem?_take,if_pos (by simp;omega)]
   simpa using hy
  have fin:∀ {g' cap':Nat} {w':World},(Builtin.append_ #[t,t'] ty #[.slice (some ⟨mm.blk,0,none⟩) n mm.cap,.string s]).run P w=.ok (.slice (some ⟨g',0,none⟩) (n+s.size) cap') w'->Kq w w' (some mm.blk) e 1 n s.size (cur.toList.take n) (Lib.strCells s) g' cap' ->
    ∃ u w' O',(Builtin.append_ #[t,t'] ty #[.slice (some ⟨mm.blk,0,none⟩) n mm.cap,.string s]).run P w=.ok u w'/\A5 O O' off { v:=.gr off 1 (n+s.size),news:=[.row e [.int .u8] (n+s.size) (d.app n (Ck s))],upds:=[(k,.unk)],need:=[decide (0<s.size)] ++ [decide (n<=n1),decide (n+s.size<=1073741824)] } w w' u:=by
   intro g' cap' w' hr hg
   exact ⟨_,_,_,hr,Kq.post (sh:=[.int .u8]) hm hf (d:=d) (d2:=Ck s) hg (by simpa using hol) (by simpa using sl) (.inr ⟨k,mm,rfl,rfl,hk,by rw [hmem];rfl⟩) hold (fun q hq=>G9 hq) (fun q hq=>Hf hq) (fun q hq=>Eg (by omega)) (.inr ⟨⟨g',0,cap'⟩,Env.set_same _ _ _,rfl,hg.le,rfl⟩)⟩
  by_cases hroom:n+s.size<=mm.cap
  .have hr:=Lib.run_append_room_string (P:=P) w t t' ty e i ht hu hi hs1 mm.blk n mm.cap cur hcur s hroom (by omega)
   refine fin hr ⟨⟨rfl,rfl,rfl,by simp,fun k _ hk=>setRow_other w mm.blk k _ (fun e=>hk (by rw [e]))⟩,.inl rfl,⟨_,setRow_heap w mm.blk cur _ e _ hcur,?_,?_⟩,hroom,hcm⟩
   .simp only [List.size_toArray,List.length_append,List.length_take,List.length_drop,Array.length_toList,sl]
    omega
   .rw [Nat.mul_one,show n+s.size=(cur.toList.take n ++ Lib.strCells s).length by rw [List.length_append,hol,sl]]
    exact List.take_left
  .have holds:∀ j u,(cur.toList.take n)[j]? = some u->w.cell? ((⟨mm.blk,0,none⟩:Addr).add j)=some u:=by
    intro j u hu
    rw [Addr.add_mid,cell_of_row w mm.blk _ cur e (0,0) hcur]
    rw [List.getElem?_take] at hu
    split at hu
    .simpa using hu
    .cases hu
   have hr:=Lib.run_append_grow_string (P:=P) w t t' ty e i (.int .u8 0) ht hu hi hz ⟨mm.blk,0,none⟩ n mm.cap _ (by rw [hs1];simpa using hol) holds s (by omega) (by omega) (by rw [hby];exact growslice_fits (by omega) (by omega))
   exact fin hr (fresh _ _ _ _ hol (by omega) hm30)
def H9(P:Program)(off:Nat)(t:TypeId)(v x:SV):Option Ae :=
 match P.underlying t,v,x with
 | some (.slice e),.nsl,.int _ n=>match P.info? e with
  | some i=>match i.zero with
   | some z=>match kdT P 8 e with
    | some sh=>if i.bytes<=1024/\z.cells.size=i.size/\0<i.size/\DH sh (HZ sh (z.cells.toList.map zv1))=true then some { v:=.gr off i.size n.toNat,news:=[.row e sh n.toNat (C3 (HZ sh (z.cells.toList.map zv1)))],need:=[decide (0<=n/\n<=1073741824)] } else none
    | none=>none
   | none=>none
  | none=>none
 | _,_,_=>none
theorem KU{O:Env}{w:World}{off:Nat}{t t':TypeId}{kn:IntKind}(ht':P.underlying t'=some (.int kn)){v x:SV}{r:Ae}(h:H9 P off t v x=some r)(hn:∀ b∈r.need,b=true){y z:Value}(hv:v.den O y)(hx:x.den O z)(hf:O off=none)(hod:∀ b o v,O.od b o=some v->b<w.heap.size)(ty:TypeId) :
  ∃ u w' O',(Builtin.append_ #[t,t'] ty #[y,z]).run P w=.ok u w'/\A5 O O' off r w w' u:=by
 unfold H9 at h
 split at h <;> try (cases h;done)
 rename_i e kx n hu
 split at h <;> try (cases h;done)
 rename_i i hi
 split at h <;> try (cases h;done)
 rename_i z0 hz
 split at h <;> try (cases h;done)
 rename_i sh hsh
 split at h <;> cases h
 rename_i hcond
 obtain ⟨hby,hzs,hpos,hkd⟩:=hcond
 have hshl:sh.length=i.size:=by
  have:=(Db.1 hkd).1
  simp [BJ,hzs] at this
  exact this.symm
 cases hv
 cases hx
 simp only [List.mem_singleton,forall_eq,decide_eq_true_eq] at hn
 obtain ⟨hn0,hnc⟩:=hn
 obtain ⟨m,rfl⟩:∃ m:Nat,n=m:=⟨n.toNat,by omega⟩
 have hmb:m * i.bytes<=140737488355328:=by
  have:m * i.bytes<=1073741824 * 1024:=Nat.mul_le_mul (by omega) hby
  omega
 by_cases h0:m=0
 .subst h0
  refine ⟨.slice none 0 0,w,O,?_,⟨.inl ⟨rfl,none,rfl⟩,Ext.refl _,fun _ _=>rfl,rfl,rfl,rfl,Nat.le_refl _,fun _ _ _=>rfl,⟨fun _ _ _ h=>.inl h,fun _ _ h=>.inl h,rfl⟩,fun _ hu=>by simp at hu,fun j b' hj _=>?_,fun j j' b b' m m' hne hj hj'=>?_⟩⟩
  .simp [Builtin.append_,run_underlying hu,run_underlying ht',sizeOf,typeInfo,hi,asInt,asIntOf,IntKind.wrap_i64]
  .cases j with
   | succ j=>simp at hj
   | zero=>simp at hj;subst hj;exact ⟨fun mm hmm=>(by rw [Nat.add_zero,hf] at hmm;cases hmm),fun _=>rfl⟩
  .cases j <;> cases j' <;> simp at hj hj' hne
 have hrun:=Go.Lib.run_append_nil_zeros (P:=P) w t t' ty e i z0 kx kn hu ht' hi hz m (by omega) hpos (by omega) (by omega)
 have hge:=grownCap_ge w m 0 e
 have hmax:=grownCap_le_maxLen w m 0 e (by unfold maxLen;omega)
 generalize hcap:grownCap w m 0 e=cap at hrun hge hmax
 have hel:F4 (O.set off ⟨w.heap.size,0,cap⟩) (w.drew.alloc (.cells (Builtin.zeroCells z0.cells m ++ Builtin.zeroCells z0.cells (cap - m)) e)) ⟨w.heap.size,0,cap⟩ sh.length m (el sh (C3 (HZ sh (z0.cells.toList.map zv1)))):=by
  intro k hk
  rw [I6 hkd,hshl]
  refine ⟨by simp [BJ,hzs],fun j v hj=>?_⟩
  have hjl:j<i.size:=by have:=(ax.1 hj).1;simp [BJ,hzs] at this;exact this
  obtain ⟨y,hy,hd⟩:=AP (GQ (sh:=sh) (zv1_denL (O.set off ⟨w.heap.size,0,cap⟩) z0.cells.toList)) hj
  refine ⟨y,?_,hd⟩
  rw [az,cell_of_row _ w.heap.size _ _ e (0,0) (heap_alloc_new w.drew _)]
  have hlt:k * i.size+j<m * i.size:=by
   have:(k+1) * i.size<=m * i.size:=Nat.mul_le_mul_right _ (by omega)
   rw [Nat.succ_mul] at this
   omega
  have hmod:(k * i.size+j) % i.size=j:=by rw [Nat.add_comm,Nat.add_mul_mod_self_right,Nat.mod_eq_of_lt hjl]
  have hyj:z0.cells[j]? = some y:=by simpa using hy
  rw [Array.getElem?_append_left (by rw [size_zeroCells,hzs];exact hlt)]
  simp only [Builtin.zeroCells,hzs,Array.getElem?_map,Array.getElem?_range,hlt,if_true,Option.map_some,hmod]
  have h2:z0.cells[j]! = y:=by rw [getElem!_def,hyj]
  rw [h2]
 have hsz:(Builtin.zeroCells z0.cells m ++ Builtin.zeroCells z0.cells (cap - m)).size=cap * sh.length:=by
  rw [Array.size_append,size_zeroCells,size_zeroCells,hzs,hshl,<- Nat.add_mul]
  congr 1
  omega
 have hv:SV.den (O.set off ⟨w.heap.size,0,cap⟩) (.gr off i.size m) (.slice (some ⟨w.heap.size,0,none⟩) m cap):=.inr ⟨_,Env.set_same _ _ _,rfl,by show m<=cap;omega,rfl⟩
 have hp:=A5.alloc (w:=w.drew) (cap:=cap) (r:={ v:=.gr off i.size m,news:=[.row e sh m (C3 (HZ sh (z0.cells.toList.map zv1)))],need:=[decide (0<=(m:Int)/\(m:Int)<=1073741824)] }) (x:=.slice (some ⟨w.heap.size,0,none⟩) m cap) hf rfl hod ⟨rfl,by show m<=cap;omega,⟨_,heap_alloc_new w.drew _,hsz,hmax⟩,hel⟩ hv
 exact ⟨_,_,_,hrun,hp.val,hp.ext,hp.old,hp.os,hp.tape,hp.output,hp.size,hp.keep,hp.odn,hp.upd,hp.new,hp.newapart⟩
def Qn:SV->Bool
 | .nsl | .ro _ _ _ | .own _ _ _ | .gr _ _ _ | .slc _ _ _ _=>true
 | _=>false
theorem P7{O:Env}{v:SV}{x:Value}(h:Qn v=true)(hv:v.den O x):∃ A n cap,x=.slice A n cap:=by
 cases v <;> simp [Qn] at h
 case nsl=>exact ⟨none,0,0,hv⟩
 case ro=>obtain ⟨A,c,rfl,_⟩:=hv;exact ⟨_,_,_,rfl⟩
 case slc=>obtain ⟨A,c,rfl,_⟩:=hv;exact ⟨_,_,_,rfl⟩
 case own=>obtain ⟨m,_,_,_,rfl⟩:=hv;exact ⟨_,_,_,rfl⟩
 case gr=>rcases hv with ⟨_,A,rfl⟩ | ⟨m,_,_,_,rfl⟩ <;> exact ⟨_,_,_,rfl⟩
def isZ:SV->Bool
 | .int _ 0=>true
 | _=>false
theorem KI{O:Env}{v:SV}{x:Value}(h:isZ v=true)(hv:v.den O x):∃ k,x=.int k 0:=by
 unfold isZ at h
 split at h
 .exact ⟨_,hv⟩
 .cases h
def Uk:Option SV->Bool
 | none=>true
 | some v=>isZ v
def If(P:Program)(off:Nat)(t:TypeId)(v:SV)(lo:Option SV)(hi mx:SV):Option Ae :=
 match P.underlying t with
 | some (.slice e)=>match kdT P 8 e,Qn v&&(Uk lo&&(isZ hi&&isZ mx)) with
  | some sh,true=>some { v:=.gr off sh.length 0,news:=[.row e sh 0 A3] }
  | _,_=>none
 | _=>none
theorem Mm{O:Env}{w:World}{off:Nat}{t:TypeId}{v:SV}{lo:Option SV}{hi mx:SV}{r:Ae}(h:If P off t v lo hi mx=some r){x:Value}{lo':Option Value}{hi' mx':Value}(hv:v.den O x)(dl:Ke O lo lo')(dh:hi.den O hi')(dm:mx.den O mx')(hf:O off=none) :
  ∃ z,(Instr.sliceAt t x lo' (some hi') (some mx')).run P w=.ok z w/\A5 O O off r w w z:=by
 unfold If at h
 split at h <;> try (cases h;done)
 rename_i e hu
 split at h <;> cases h
 rename_i sh hsh hb
 simp only [aq] at hb
 obtain ⟨A,n,cap,rfl⟩:=P7 hb.1 hv
 obtain ⟨k1,rfl⟩:=KI hb.2.2.1 dh
 obtain ⟨k2,rfl⟩:=KI hb.2.2.2 dm
 have low:lo'=none\/∃ k,lo'=some (.int k 0):=by
  cases lo with
  | none=>cases lo' with
   | none=>exact .inl rfl
   | some _=>exact dl.elim
  | some u=>cases lo' with
   | none=>exact dl.elim
   | some y=>obtain ⟨k,rfl⟩:=KI hb.2.1 dl;exact .inr ⟨k,rfl⟩
 have h0:∀ (k:IntKind) (y:Nat) (code:BoundsCode),(Instr.sliceBound (.int k 0) y code).run P w=.ok 0 w:=fun k y code=>by
  have:=run_sliceBound (P:=P) (w:=w) k 0 y code (Int.le_refl _) (by omega)
  simpa using this
 have hbd:(Instr.sliceBounds true n cap lo' (some (.int k1 0)) (some (.int k2 0))).run P w=.ok (0,0,0) w:=by
  rcases low with rfl | ⟨k,rfl⟩ <;> simp [Instr.sliceBounds,h0]
 have hun:∃ sz,(sizeOf e).run P w=.ok sz w:=by
  unfold kdT at hsh
  cases hi:P.info? e with
  | some i=>exact ⟨i.size,by simp [sizeOf,typeInfo,hi]⟩
  | none =>
   have:P.underlying e=none:=by simp [Program.underlying,hi]
   rw [this] at hsh
   cases hsh
 obtain ⟨sz,hsz⟩:=hun
 refine ⟨.slice A 0 0,?_,⟨.inl ⟨rfl,A,rfl⟩,Ext.refl _,fun _ _=>rfl,rfl,rfl,rfl,Nat.le_refl _,fun _ _ _=>rfl,⟨fun _ _ _ h=>.inl h,fun _ _ h=>.inl h,rfl⟩,fun _ hu=>by simp at hu,fun j b' hj _=>?_,fun j j' b b' m m' hne hj hj'=>?_⟩⟩
 .simp [Instr.sliceAt,Instr.slice,run_underlying hu,hbd,hsz]
 .cases j with
  | succ j=>simp at hj
  | zero=>simp at hj;subst hj;exact ⟨fun mm hmm=>(by rw [Nat.add_zero,hf] at hmm;cases hmm),fun _=>rfl⟩
 .cases j <;> cases j' <;> simp at hj hj' hne
def NP(P:Program)(mem:Nat->Blk)(t:TypeId)(v:SV):Option Ae :=
 match P.underlying t with
 | some (.slice e)=>match Ca P e with
  | some z=>match v with
   | .slc i size k n=>match mem i with
    | .row e' sh n' d=>if size=sh.length/\z.cells.size=sh.length/\0<sh.length/\z.cells.all (·.oneCell')=true then
      some { v:=.tup [],upds:=[(i,.row e' sh k d)],need:=[decide (k+n<=n')] } else none
    | _=>none
   | _=>none
  | none=>none
 | _=>none
theorem JX{z:Array Value}(h:z.all (·.oneCell')=true)(h0:0<z.size)(n:Nat):∀ v∈(Builtin.zeroCells z n).toList,v.oneCell'=true:=by
 intro v hv
 simp only [Builtin.zeroCells,Array.toList_map,List.mem_map] at hv
 obtain ⟨i,_,rfl⟩:=hv
 have hlt:i % z.size<z.size:=Nat.mod_lt _ h0
 have:=Array.all_eq_true.1 h (i % z.size) hlt
 simpa [hlt] using this
theorem NA{B:Nat}{M:List Nat}{O:Env}{mem:Nat->Blk}{w:World}(hm:Ak B M O mem w){t:TypeId}{v:SV}{r:Ae}(h:NP P mem t v=some r)(hn:∀ b∈r.need,b=true){x:Value}(hv:v.den O x)(ty:TypeId)(off:Nat) :
  ∃ y w',(Builtin.clear_ #[t] ty #[x]).run P w=.ok y w'/\A5 O O off r w w' y:=by
 unfold NP at h
 split at h <;> try (cases h;done)
 rename_i e ht
 split at h <;> try (cases h;done)
 rename_i z hz
 split at h <;> try (cases h;done)
 rename_i i size k n
 split at h <;> try (cases h;done)
 rename_i e' sh n' d hmem
 split at h <;> cases h
 rename_i hc
 obtain ⟨rfl,hzs,hpos,hall⟩:=hc
 simp only [List.mem_singleton,forall_eq,decide_eq_true_eq] at hn
 obtain ⟨A,cap,rfl,hnc,hA⟩:=hv
 have hunk:(mem i).isUnk=false:=by simp [hmem,Blk.isUnk]
 by_cases h0:n=0
 .subst h0
  refine ⟨.tuple #[],w,?_,⟨⟨[],rfl,trivial⟩,Ext.refl _,fun _ _=>rfl,rfl,rfl,rfl,Nat.le_refl _,fun _ _ _=>rfl,⟨fun _ _ _ h=>.inl h,fun _ _ h=>.inl h,rfl⟩,fun u hu _=>?_,fun _ _ hj=>by simp at hj,fun _ _ _ _ _ _ _ hj=>by simp at hj⟩⟩
  .cases A <;> simp [Builtin.clear_,run_underlying ht]
  .simp at hu;subst hu
   refine ⟨fun m hi=>?_,fun hi=>?_⟩
   .obtain ⟨_,hb,_⟩:=hm.get hunk hi
    rw [hmem] at hb
    obtain ⟨b0,b1,b2,b3⟩:=hb
    exact ⟨b0,by omega,b2,fun q hq=>b3 q (by omega)⟩
   .have hg:=(hm.at_ i hunk).2 hi
    rw [hmem] at hg
    have:n'=0:=hg
    show k=0
    omega
 .obtain ⟨m,hi,rfl⟩:=hA (by omega)
  obtain ⟨_,hb,_⟩:=hm.get hunk hi
  rw [hmem] at hb
  obtain ⟨b0,b1,⟨c,hc,hcs,hmx⟩,b3⟩:=hb
  have hl:(Builtin.zeroCells z.cells n).toList.length=n * sh.length:=by rw [Array.length_toList,size_zeroCells,hzs]
  have hks:(k+n) * sh.length<=m.cap * sh.length:=Nat.mul_le_mul_right _ (by omega)
  rw [Nat.add_mul] at hks
  have hfit:k * sh.length+(Builtin.zeroCells z.cells n).toList.length<=c.size:=by omega
  obtain ⟨g1,g2,g3,g4,g5,g6⟩:=Bi m.blk (Builtin.zeroCells z.cells n).toList (k * sh.length) w c e' (0,0) hc hfit
  have hrun:=run_storeCells_cells (P:=P) m.blk (k * sh.length) (Builtin.zeroCells z.cells n).toList 0 w
   (fun j hj=>by rw [cell_of_row w m.blk _ c e' (0,0) hc];simp;omega)
   (fun j hj=>by simp [World.frozen?,hc]) (JX hall (by omega) n)
  simp only [Nat.add_zero] at hrun
  refine ⟨.tuple #[],w.setCells m.blk (k * sh.length) (Builtin.zeroCells z.cells n).toList,?_,⟨⟨[],rfl,trivial⟩,Ext.refl _,fun _ _=>rfl,g4,g5,g6,by rw [g3];exact Nat.le_refl _,fun b _ hu=>g2 b fun e2=>hu (i,.row e' sh k d) (by simp) m hi e2.symm,⟨fun _ _ _ h=>.inl h,fun _ _ h=>.inl h,rfl⟩,fun u hu _=>?_,fun _ _ hj=>by simp at hj,fun _ _ _ _ _ _ _ hj=>by simp at hj⟩⟩
  .rw [b0,az]
   obtain ⟨n,rfl⟩:∃ n0,n=n0+1:=⟨n - 1,by omega⟩
   simp [Builtin.clear_,run_underlying ht,BP hz,hrun]
  .simp at hu;subst hu
   refine ⟨fun m' hi'=>?_,fun hi'=>by rw [hi] at hi';cases hi'⟩
   rw [hi] at hi';cases hi'
   have hsizes:(Di c.toList (k * sh.length) (Builtin.zeroCells z.cells n).toList).length=c.size:=by rw [E2 (by simpa using hfit)];simp
   refine ⟨b0,by omega,⟨_,g1,by simpa [hsizes] using hcs,hmx⟩,fun q hq=>⟨B2 _ _ _,fun j sv hj=>?_⟩⟩
   have hjl:j<sh.length:=by have:=(ax.1 hj).1;rw [B2] at this;exact this
   obtain ⟨y,hy,hd⟩:=(b3 q (by omega)).2 j sv hj
   refine ⟨y,?_,hd⟩
   rw [b0,az] at hy ⊢
   have hq2:(q+1) * sh.length<=k * sh.length:=Nat.mul_le_mul_right _ (by omega)
   rw [Nat.succ_mul] at hq2
   rw [cell_of_row _ m.blk _ _ e' (0,0) g1]
   rw [cell_of_row w m.blk _ c e' (0,0) hc] at hy
   have:=DM (l:=c.toList) (vs:=(Builtin.zeroCells z.cells n).toList) (o:=k * sh.length) (by simpa using hfit) (q * sh.length+j)
   rw [if_neg (by omega)] at this
   rw [<- hy]
   simpa using this
end runs
end Go.Sy
namespace Go.Sy
open Go.RowKit
variable [AO]
section runs
variable {P:Program}
def i64B(P:Program)(t:TypeId):Bool:=match P.underlying t with
 | some (.int .i64)=>true
 | _=>false
theorem i64B_ok{t:TypeId}(h:i64B P t=true):P.underlying t=some (.int .i64):=by
 unfold i64B at h;split at h
 .assumption
 .cases h
theorem N9(d:Nat){k:TypeId}{fs:Array Field}(hu:P.underlying k=some (.struct fs))(h8:P.stoodInHeld k=false)(xs ys:List SV) :
  eqS P (d+1) k (.agg xs) (.agg ys)=Dg (eqS P d) P xs ys ((fs.toList.filter fun f=>f.name != "_").map fun f=>(f.type,f.offset)):=by
 simp only [eqS,hu,h8,if_true]
theorem Oi(d:Nat){t:TypeId}(h:P.underlying t=some (.int .i64))(a b:Int):eqS P (d+1) t (.int .i64 a) (.int .i64 b)=some (decide (a=b)):=by
 simp only [eqS,h,if_true]
theorem Ob{d:Nat}{t:TypeId}(h:P.underlying t=some (.int .i64))(em:Bool)(a:Int)(w:World):(Instr.checkKey em (d+1) t (.int .i64 a)).run P w=.ok () w:=by
 unfold Instr.checkKey;simp [run_underlying h,Result.andThen]
def QP(P:Program)(k:TypeId):Bool:=match P.underlying k with
 | some (.struct fs)=>(match fs.toList with
  | [f,g]=>i64B P f.type&&i64B P g.type&&Nat.beq f.offset 0&&Nat.beq g.offset 1&&f.name != "_"&&g.name != "_"&&(match HD P f.type,HD P g.type with | some false,some false=>true | _,_=>false)&&!P.stoodInHeld k
  | _=>false)
 | _=>false
theorem Kg{k:TypeId}(h:QP P k=true):CC P k AE:=by
 unfold QP at h
 split at h <;> try (cases h;done)
 rename_i fs hu
 split at h <;> try (cases h;done)
 rename_i f g hfs
 simp only [aq,Bool.not_eq_true'] at h
 obtain ⟨⟨⟨⟨⟨⟨⟨h1,h2⟩,h3⟩,h4⟩,h5⟩,h6⟩,h7⟩,h8⟩:=h
 have e1:=i64B_ok h1
 have e2:=i64B_ok h2
 have e3:f.offset=0:=by simpa using h3
 have e4:g.offset=1:=by simpa using h4
 have e7:HD P f.type=some false/\HD P g.type=some false:=by split at h7 <;> simp_all
 have fse:fs=#[f,g]:=by apply Array.toList_inj.1;simpa using hfs
 subst fse
 have p1:∀ (w:World) (x:Int × Int),(part f.type #[Value.int .i64 x.1,.int .i64 x.2] f.offset).run P w=.ok (.int .i64 x.1) w:=fun w x=>by
  simp only [part,Sem.run_bind,Dw e7.1,Result.andThen_ok,Bool.false_eq_true,if_false,e3];rfl
 have p2:∀ (w:World) (x:Int × Int),(part g.type #[Value.int .i64 x.1,.int .i64 x.2] g.offset).run P w=.ok (.int .i64 x.2) w:=fun w x=>by
  simp only [part,Sem.run_bind,Dw e7.2,Result.andThen_ok,Bool.false_eq_true,if_false,e4];rfl
 have n1:f.name≠"_":=by simpa using h5
 have n2:g.name≠"_":=by simpa using h6
 refine QQ hu (fun w x y=>?_) fun w em x=>?_
 .have hl:Dg (eqS P 9999) P [.int .i64 x.1,.int .i64 x.2] [.int .i64 y.1,.int .i64 y.2] [(f.type,f.offset),(g.type,g.offset)]=some (decide (x.1=y.1)&&(decide (x.2=y.2)&&true)):=by
   simp only [Dg,H2,e7.1,e7.2,e3,e4,List.getElem?_cons_zero,List.getElem?_cons_succ]
   cases hsz:Ch P f.type <;> cases hsz':Ch P g.type <;> simp only [Oi 9998 e1,Oi 9998 e2]
  have hs:eqS P 10000 k (.agg [.int .i64 x.1,.int .i64 x.2]) (.agg [.int .i64 y.1,.int .i64 y.2])=some (decide (x.1=y.1)&&(decide (x.2=y.2)&&true)):=by
   rw [N9 9999 hu h8,<- hl]
   congr 1
   simp [n1,n2]
  have:=I7 10000 k _ _ _ hs ⟨fun _=>none,Lo,SZ⟩ (AE x) (AE y) w ⟨_,rfl,rfl,rfl,trivial⟩ ⟨_,rfl,rfl,rfl,trivial⟩
  show (Op.equalIn 10000 k (AE x) (AE y)).run P w=_
  rw [this]
  have hd:(decide (x.1=y.1)&&(decide (x.2=y.2)&&true))=decide (x=y):=by
   rw [Bool.eq_iff_iff];simp [Prod.ext_iff]
  rw [hd]
 .show (Instr.checkKey em (9999+1) k (AE x)).run P w=_
  unfold Instr.checkKey AE
  simp [run_underlying hu,Result.andThen,n1,n2,p1,p2]
  rw [show (9999:Nat)=9998+1 from rfl,Ob e1]
  exact Ob e2 em _ w
def Ty(P:Program)(e:TypeId):Bool:=match Ca P e with
 | some (.pointer none)=>true
 | _=>false
def OQ(P:Program)(e:TypeId):Bool:=match Ca P e with
 | some (.bool false)=>true
 | _=>false
theorem OR{e:TypeId}(h:Ty P e=true)(w:World):(zeroValue e).run P w=.ok (.pointer none) w:=by
 unfold Ty at h
 split at h
 .rename_i hz;exact BP hz w
 .cases h
theorem MQ{e:TypeId}(h:OQ P e=true)(w:World):(zeroValue e).run P w=.ok (.bool false) w:=by
 unfold OQ at h
 split at h
 .rename_i hz;exact BP hz w
 .cases h
def Tz(P:Program)(e:TypeId):Bool:=match Ca P e with
 | some (.string _)=>true
 | _=>false
theorem SA{e:TypeId}(h:Tz P e=true)(w:World):∃ s,(zeroValue e).run P w=.ok (.string s) w:=by
 unfold Tz at h
 split at h
 .rename_i hz;exact ⟨_,BP hz w⟩
 .cases h
def PW(P:Program)(k:TypeId):Bool:=match P.underlying k with
 | some .bool=>true
 | _=>false
theorem PX{k:TypeId}(h:PW P k=true):P.underlying k=some .bool:=by
 unfold PW at h
 split at h
 .assumption
 .cases h
def Lg(P:Program)(t:TypeId)(ok:Bool)(m x:SV):Option Ae :=
 match P.underlying t with
 | some (.map k e)=>(match m,x with
  | .mp (.mi sh) d,.int .i64 r=>if i64B P k&&Ty P e then some { v:=cond ok (.tup [.rq (decide (0<=r)&&d.bb r.toNat 0) sh (d.sub r.toNat 1) 0 0,.bool (decide (0<=r)&&d.bb r.toNat 0)]) (.rq (decide (0<=r)&&d.bb r.toNat 0) sh (d.sub r.toNat 1) 0 0) } else none
  | .mp .m1 d,.int .i64 r=>if i64B P k&&OQ P e&&!ok then some { v:=.bool (decide (0<=r)&&d.bb r.toNat 0) } else none
  | .mp .mb d,.agg [.int .i64 c,.int .i64 n]=>if QP P k&&OQ P e&&!ok then some { v:=.bool (decide (0<=c)&&decide (0<=n)&&d.bb c.toNat n.toNat) } else none
  | .gv 1,.bool c=>if PW P k&&Tz P e&&!ok then some { v:=.str (Hs c) } else none
  | _,_=>none)
 | _=>none
theorem Ml{B:Nat}{M:List Nat}{O:Env}{mem:Nat->Blk}{w:World}(hM:Ak B M O mem w){t:TypeId}{ok:Bool}{m x:SV}{r:Ae}(h:Lg P t ok m x=some r){u v:Value}(hm:m.den O u)(hx:x.den O v)(off:Nat) :
  ∃ y,(Instr.lookup t u v ok).run P w=.ok y w/\A5 O O off r w w y:=by
 unfold Lg at h
 split at h <;> try (cases h;done)
 rename_i k e ht
 split at h <;> try (cases h;done)
 .rename_i sh d q
  split at h <;> cases h
  rename_i hc
  simp only [aq] at hc
  obtain ⟨b,es,cl,f,rfl,hb,ho,hs,hf⟩:=hm
  cases hx
  have hat:B5 w b (Value.int .i64) f:=⟨es,cl,hM.seal_.m b _ hb,ho⟩
  refine ⟨_,hat.lookup (FJ (i64B_ok hc.1)) ht (OR hc.2 w) q ok,?_⟩
  have hsq:=hs q
  have hd:(SV.rq (decide (0<=q)&&d.bb q.toNat 0) sh (d.sub q.toNat 1) 0 0).den O ((f q).getD (.pointer none)):=by
   cases hfq:f q with
   | none=>rw [hfq] at hsq;exact .inr ⟨hsq.symm,rfl⟩
   | some y =>
    rw [hfq] at hsq
    obtain ⟨b',o',rfl,hL⟩:=hf q y hfq
    exact .inl ⟨hsq.symm,b',o',rfl,hL⟩
  cases ok
  .exact A5.pure_ hd
  .exact A5.pure_ ⟨_,rfl,hd,by rw [hsq];rfl,trivial⟩
 .rename_i d q
  split at h <;> cases h
  rename_i hc
  simp only [aq,Bool.not_eq_true'] at hc
  obtain ⟨⟨h1,h2⟩,rfl⟩:=hc
  obtain ⟨b,es,cl,f,rfl,hb,ho,hf⟩:=hm
  cases hx
  have hat:B5 w b (Value.int .i64) f:=⟨es,cl,hM.seal_.m b _ hb,ho⟩
  refine ⟨_,hat.lookup (FJ (i64B_ok h1)) ht (MQ h2 w) q false,A5.pure_ ?_⟩
  show (f q).getD (.bool false)=.bool (decide (0<=q)&&d.bb q.toNat 0)
  rw [hf q]
  show (if (decide (0<=q)&&d.bb q.toNat 0)=true then some (Value.bool true) else none).getD (.bool false)=_
  cases (decide (0<=q)&&d.bb q.toNat 0) <;> rfl
 .rename_i d c n
  split at h <;> cases h
  rename_i hc
  simp only [aq,Bool.not_eq_true'] at hc
  obtain ⟨⟨h1,h2⟩,rfl⟩:=hc
  obtain ⟨b,es,cl,f,rfl,hb,ho,hf,_⟩:=hm
  obtain ⟨xs,rfl,hxs⟩:=hx
  match xs,hxs with
  | [x1,x2],⟨e1,e2,_⟩ =>
  cases e1;cases e2
  have hat:B5 w b AE f:=⟨es,cl,hM.seal_.m b _ hb,ho⟩
  refine ⟨_,hat.lookup (Kg h1) ht (MQ h2 w) (c,n) false,A5.pure_ ?_⟩
  show (f (c,n)).getD (.bool false)=.bool (decide (0<=c)&&decide (0<=n)&&d.bb c.toNat n.toNat)
  rw [hf (c,n)]
  show (if (decide (0<=c)&&decide (0<=n)&&d.bb c.toNat n.toNat)=true then some (Value.bool true) else none).getD (.bool false)=_
  cases (decide (0<=c)&&decide (0<=n)&&d.bb c.toNat n.toNat) <;> rfl
 .rename_i c
  split at h <;> cases h
  rename_i hc
  simp only [aq,Bool.not_eq_true'] at hc
  obtain ⟨⟨h1,h2⟩,rfl⟩:=hc
  cases hx
  obtain ⟨b,es,cl,rfl,g2,g3⟩:=hm
  have hat:B5 w b Value.bool (fun k=>some (.string (Hs k))):=⟨es,cl,hM.seal_.m b _ g2,g3⟩
  obtain ⟨z,hz⟩:=SA h2 w
  exact ⟨_,hat.lookup (PY (PX h1)) ht hz c false,A5.pure_ rfl⟩
end runs
end Go.Sy
