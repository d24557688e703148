import Derived.Test.YtflgdeobcgmgnaaGreatDoorAcD
import Derived.Test.YtflgdeobcgmgnaaGreatDoorG5
import Derived.Test.YtflgdeobcgmgnaaGreatDoorG1
set_option autoImplicit false
set_option maxHeartbeats 4000000
set_option maxRecDepth 100000
namespace Go.Proofs
open Go Go.Ab Go.RowKit
variable {G:IH}
end Go.Proofs
namespace Go.Proofs
variable {ok:Ev→Bool}
end Go.Proofs
namespace Go.Proofs
def CW:List Int→Int
 | []=>0
 | a :: l=>a+CW l
theorem Xg {l m:List Int} (h:l.Perm m):CW l=CW m:=by
 induction h with
 | nil=>rfl
 | cons a _ ih=>simp only[CW,ih]
 | swap a b l=>simp only[CW];omega
 | trans _ _ h1 h2=>exact h1.trans h2
theorem YV (l m:List Int):CW (l++m)=CW l+CW m:=by
 induction l with
 | nil=>simp[CW]
 | cons a l ih=>simp only[List.cons_append,CW,ih];omega
def sm (f:Nat→Int) (n:Nat):Int:=CW ((List.range n).map f)
theorem lH (f:Nat→Int) (n:Nat):sm f (n+1)=sm f n+f n:=by
 unfold sm
 rw[List.range_succ,List.map_append,YV]
 simp[CW]
theorem KO (f:Nat→Int):sm f 0=0:=rfl
theorem Uh {f g:Nat→Int}:∀{n:Nat},(∀i,i<n→f i≤g i)→sm f n≤sm g n
 | 0,_=>Int.le_refl _
 | n+1,h=>by
  rw[lH,lH]
  have:=Uh (f:=f) (g:=g) (n:=n) fun i hi=>h i (by omega)
  have:=h n (by omega)
  omega
theorem uK {f g:Nat→Int} {n:Nat} (h:∀i,i<n→f i=g i):sm f n=sm g n:=
 Int.le_antisymm (Uh fun i hi=>Int.le_of_eq (h i hi)) (Uh fun i hi=>Int.le_of_eq (h i hi).symm)
theorem Ig {f:Nat→Int} {k:Nat}:∀{n:Nat},k≤n→(∀i,k≤i→i<n→f i=0)→sm f n=sm f k
 | 0,h,_=>by have:k=0:=by omega
             subst this;rfl
 | n+1,h,hp=>by
  by_cases c:k=n+1
  ·subst c;rfl
  ·rw[lH,Ig (f:=f) (n:=n) (by omega) fun i a b=>hp i a (by omega),hp n (by omega) (by omega)]
   omega
section
variable {κ:Nat→Int}
theorem ML (n:Nat):((List.range n).map (iQ κ n)).Perm (List.range n):=by
 rw[MJ];exact(AQ n).1
theorem QO (f:Nat→Int) (n:Nat):sm (fun p=>f (iQ κ n p)) n=sm f n:=by
 unfold sm
 have:=(ML (κ:=κ) n).map f
 rw[List.map_map] at this
 exact Xg this
end
def Xr (v:Nat→Int) (n k:Nat):Int:=sm (fun p=>v (iQ (fun i=>- v i) n p)) k
def better (v:Nat→Int) (n i:Nat):Nat:=((List.range n).filter fun k=>decide (v i<v k)||(decide (v k=v i)&&decide (k<i))).length
theorem zO (v:Nat→Int) (n p:Nat) (hp:p<n):better v n (iQ (fun i=>- v i) n p)=p:=by
 have pm:=ML (κ:=fun i=>- v i) n
 obtain ⟨⟨s,_,_⟩,_⟩:=Ry (κ:=fun i=>- v i) n
 generalize iQ (fun i=>- v i) n=σ at pm s
 unfold better
 rw[←(pm.filter _).length_eq,List.filter_map,List.length_map]
 have:(List.range n).filter ((fun k=>decide (v (σ p)<v k)||(decide (v k=v (σ p))&&decide (k<σ p))) ∘ σ)=(List.range n).filter fun q=>decide (q<p):=by
  refine List.filter_congr fun q hq=>?_
  have hq:=List.mem_range.1 hq
  simp only[Function.comp]
  by_cases c:q<p
  ·have:=s q p (Nat.zero_le _) c hp
   unfold ltK at this
   dsimp only at this
   simp only[decide_eq_true c,Bool.or_eq_true,decide_eq_true_eq,Bool.and_eq_true]
   omega
  ·rw[decide_eq_false c]
   by_cases e:q=p
   ·subst e;simp
   ·have:=s p q (Nat.zero_le _) (by omega) hq
    unfold ltK at this
    dsimp only at this
    simp only[Bool.or_eq_false_iff,decide_eq_false_iff_not,Bool.and_eq_false_iff]
    omega
 rw[this]
 have hf:∀m,m≤n→p≤m→((List.range m).filter fun q=>decide (q<p)).length=p:=by
  intro m
  induction m with
  | zero=>intro _ h;simp;omega
  | succ m ih=>
   intro h1 h2
   rw[List.range_succ,List.filter_append]
   by_cases c:p=m+1
   ·have:((List.range m).filter fun q=>decide (q<p))=List.range m:=List.filter_eq_self.2 fun q hq=>by
     have:=List.mem_range.1 hq
     simp;omega
    rw[this];simp[c]
   ·have:=ih (by omega) (by omega)
    rw[List.length_append,this]
    simp;omega
 exact hf n (Nat.le_refl _) (by omega)
theorem YD (v:Nat→Int) (n k:Nat) (hk:k≤n):sm (fun i=>if better v n i<k then v i else 0) n=Xr v n k:=by
 rw[←QO (κ:=fun i=>- v i) (fun i=>if better v n i<k then v i else 0) n,Ig hk fun i a b=>?_]
 ·exact uK fun i hi=>by rw[zO v n i (by omega),if_pos hi]
 ·rw[zO v n i b,if_neg (by omega)]
end Go.Proofs
namespace Go.Proofs
def N9 (kind:Int) (k:Nat) (v:Nat→Int) (n:Nat):Int:=if kind=1 then v (n-1) else Xr v n (min k n)
def D7 (kind:Int) (k n:Nat):Nat:=if kind=1 then 1 else min k n
def Xp (kind:Int) (k:Nat) (v:Nat→Int) (n:Nat):Int:=if n=0 then 0 else (2*N9 kind k v n+D7 kind k n) / (2*D7 kind k n)
structure At where
 n:Int
 t:Int
 h:Int
 deriving DecidableEq
structure Ru where
 kind:Int
 most:Int
 pause:Int
 keep:Int
def at0:At:=⟨0,0,0⟩
def iY (t:Int):Bool:=decide (0≤t)&&decide (t≤1099511627776)
def jK (r:Ru):Bool:=decide (0≤r.kind)&&(decide (r.kind≤2)&&(decide (1≤r.most)&&(decide (r.most≤16)&&(iY r.pause&&(if r.kind=2 then decide (1≤r.keep)&&decide (r.keep≤r.most) else decide (r.keep=0))))))
def uV (l:List At) (i:Nat):Bool:=decide ((l.getD i at0).n=i+1)&&(decide (i=0∨(l.getD (i-1) at0).t≤(l.getD i at0).t)&&(iY (l.getD i at0).t&&(decide (0≤(l.getD i at0).h)&&decide ((l.getD i at0).h≤100000000))))
def iJ (r:Ru) (l:List At):Bool:=jK r&&(decide ((l.length:Int)≤r.most)&&(List.range l.length).all (uV l))
def jo (l:List At) (i:Nat):Int:=(l.getD i at0).h
def keepA (r:Ru):Nat:=if r.kind=2 then r.keep.toNat else 1
def Em (r:Ru) (l:List At):Int:=Xp r.kind (keepA r) (jo l) l.length
def mV (r:Ru) (l:List At):Int:=if iJ r l=true then Em r l else 0
def mM (r:Ru) (l:List At):Int:=if iJ r l=true then 0 else 1
def D8 (st ex:ByteArray) (x:En):Option (Int×Int):=if x.k.st=st∧x.k.ex=ex then x.gs.getLast?.map fun g=>(x.t,g.h) else none
def gI (es:List En) (st ex:ByteArray):List (Int×Int):=es.filterMap (D8 st ex)
def gJ (l:List (Int×Int)):List At:=l.mapIdx fun i p=>⟨i+1,p.1,p.2⟩
theorem Ci (l:List (Int×Int)):(gJ l).length=l.length:=by simp[gJ]
theorem LH (l:List (Int×Int)) (p:Int×Int):gJ (l++[p])=gJ l++[⟨l.length+1,p.1,p.2⟩]:=by
 unfold gJ
 rw[List.mapIdx_append];simp
theorem WM {r:Ru} (h:jK r=true):0<keepA r:=by
 unfold jK at h
 simp only[Bool.and_eq_true,decide_eq_true_eq] at h
 obtain ⟨_,_,_,_,_,h⟩:=h
 unfold keepA
 split
 ·rename_i c
  rw[if_pos c] at h
  simp only[Bool.and_eq_true,decide_eq_true_eq] at h
  omega
 ·exact Nat.one_pos
end Go.Proofs
namespace Go.Proofs
open Go Go.Ab Go.RowKit
variable {G:IH}
abbrev LZ (a:At):DV:=.agg [di a.n,di a.t,di a.h]
def ji (l:List At) (i:Nat):DV:=LZ (l.getD i at0)
abbrev rD (l:List At):DV:=.slc 3 l.length (ji l)
abbrev Du (r:Ru):List DV:=[di r.kind,di r.most,di r.pause,di r.keep]
abbrev CY (r:Ru):DV:=.agg (Du r)
def Pv:DV→At
 | .agg [.con (.int _ a),.con (.int _ b),.con (.int _ c)]=>⟨a,b,c⟩
 | _=>at0
abbrev Dk:RK:=⟨true,57,false,none⟩
def atR (L:Nat→At) (σ:Nat→Nat) (i:Nat):DV:=LZ (L (σ i))
abbrev Pn:AV:=.d (.con (.func (.func 130) #[] #[]))
abbrev Ar (L:Nat→At) (σ:Nat→Nat):List (Nat×List AV):=[(1000000,[.arr Dk 3 (atR L σ)])]
theorem acO (L:Nat→At) (σ:Nat→Nat) (i:Nat):Pv (atR L σ i)=L (σ i):=rfl
theorem Si {L:Nat→At} {σ:Nat→Nat} {p q i1 i2:Nat} (h1:i1=p) (h2:i2=q):(fun j=>bif Nat.beq j i2 then LZ (L (σ i1)) else bif Nat.beq j i1 then LZ (L (σ i2)) else atR L σ j)=atR L (swp σ p q):=by
 subst h1 h2
 funext j
 unfold atR swp
 by_cases e2:j=i2
 ·subst e2
  rw[show Nat.beq j j=true from Nat.beq_refl j,cond_true]
  by_cases e1:j=i1
  ·rw[if_pos e1,e1]
  ·rw[if_neg e1,if_pos rfl]
 ·rw[show Nat.beq j i2=false from aQ e2,cond_false]
  by_cases e1:j=i1
  ·rw[if_pos e1,show Nat.beq j i1=true from by rw[e1];exact Nat.beq_refl _,cond_true]
  ·rw[if_neg e1,if_neg e2,show Nat.beq j i1=false from aQ e1,cond_false]
def atKey (a:At):Int:=- a.h
def Hw (x y:At):Int:=qg y.h x.h
theorem Oz (x y:At):Hw x y<0↔atKey x<atKey y:=by
 unfold Hw atKey
 rw[Vk]
 omega
theorem f130 (x y:At):aA Tryz.prog G 130 [LZ x,LZ y] (di (Hw x y)):=by
 refine aA.walk (aj:=Tf) (keep:=[]) follows Tryz.func130 rfl Tryz.call130 ?_
 refine aC (fun _ _ _ ZK=>(ZK 86 [(di y.h),(di x.h)] (di (qg y.h x.h))∧((di (qg y.h x.h)):DV)=(di (Hw x y)))) (by kernel_rfl) ?_
 exact⟨f86 _ _,rfl⟩
theorem f108 (t:Int):aA Tryz.prog G 108 [di t] (db (iY t)):=by
 refine aA.walk (aj:=bG) (keep:=[]) follows Tryz.func108 rfl Tryz.call108 ?_
 refine aC (fun _ _ _ _=>(((db (decide (t≥0)&&decide (t≤1099511627776))):DV)=(db (iY t)))) (by kernel_rfl) ?_
 rfl
def Ns:iR:=fun f a=>match f,a with
 | 108,[.con (.int _ t)]=>some (db (iY t))
 | 89,[.con (.int _ t)]=>some (db (iY t))
 | _,_=>none
theorem oM {p q:Prop} [Decidable p] [Decidable q] (h:p↔¬q):decide p = !decide q:=by
 by_cases c:q
 ·rw[decide_eq_true c,decide_eq_false (fun k=>h.1 k c)];rfl
 ·rw[decide_eq_false c,decide_eq_true (h.2 c)];rfl
theorem f107 (r:Ru):aA Tryz.prog G 107 [CY r] (db (jK r)):=by
 refine aA.walk (aj:=Ns) (keep:=[]) follows Tryz.func107 rfl Tryz.call107 ?_
 refine aC (fun _ _ _ ZK=>(fun Za=>((((!(decide (r.kind<0)||decide (r.kind>2)||decide (r.most<1)||decide (r.most>16)))=true)→ZK 108 [(di r.pause)] (db (iY r.pause)))∧((Za=true)→(((db false):DV)=(db (jK r))))∧((Za=false)→((((r.kind != 2)=true)→(((db (r.keep==0)):DV)=(db (jK r))))∧(((r.kind != 2)=false)→(((db (decide (r.keep≥1)&&decide (r.keep≤r.most))):DV)=(db (jK r)))))))) (decide (r.kind<0)||decide (r.kind>2)||decide (r.most<1)||decide (r.most>16)||!iY r.pause)) (by kernel_rfl) ?_
 try dsimp only
 have e:(decide (r.kind<0)||decide (r.kind>2)||decide (r.most<1)||decide (r.most>16)||!iY r.pause) = !(decide (0≤r.kind)&&(decide (r.kind≤2)&&(decide (1≤r.most)&&(decide (r.most≤16)&&iY r.pause)))):=by
  rw[oM (p:=r.kind<0) (q:=0≤r.kind) (by omega),oM (p:=r.kind>2) (q:=r.kind≤2) (by omega),oM (p:=r.most<1) (q:=1≤r.most) (by omega),oM (p:=r.most>16) (q:=r.most≤16) (by omega)]
  simp only[Bool.not_and,Bool.or_assoc]
 have eR:jK r=((decide (0≤r.kind)&&(decide (r.kind≤2)&&(decide (1≤r.most)&&(decide (r.most≤16)&&iY r.pause))))&&(if r.kind=2 then decide (1≤r.keep)&&decide (r.keep≤r.most) else decide (r.keep=0))):=by
  unfold jK
  simp only[Bool.and_assoc]
 rw[e]
 refine⟨fun _=>f108 _,fun c=>?_,fun c=>⟨fun k=>?_,fun k=>?_⟩⟩
 ·rw[Bool.not_eq_true'] at c
  rw[eR,c];rfl
 ·have k:r.kind≠2:=by simpa using k
  rw[Bool.not_eq_false'] at c
  rw[eR,c,if_neg k,Bool.true_and,Sv]
 ·have k:r.kind=2:=by simpa using k
  rw[Bool.not_eq_false'] at c
  rw[eR,c,if_pos k,Bool.true_and]
def uX (l:List At) (k:Nat):Int:=if k=0 then 0 else (l.getD (k-1) at0).t
noncomputable def S87 (r:Ru) (l:List At) (k:Nat):AS:=⟨regs Tryz.f87.ntmps [(2,.box 2 0),(4,vb false),(5,vi (uX l k)),(18,.d (rD l)),(19,vi l.length),(20,vi k)],[(2,(Du r).map .d)]⟩
def X5 (ok:Bool):iR:=fun f a=>match f,a with
 | 107,_=>some (db ok)
 | 108,[.con (.int _ t)]=>some (db (iY t))
 | _,_=>none
theorem IK {r:Ru} {l:List At} (hr:jK r=true) (hl:(l.length:Int)≤r.most):iJ r l=(List.range l.length).all (uV l):=by
 unfold iJ
 rw[hr,decide_eq_true hl];rfl
theorem FQ {r:Ru} (h:jK r=true):r.most≤16:=by
 unfold jK at h
 simp only[aY,eF] at h
 exact h.2.2.2.1
theorem YT (l:List At) (k:Nat):uV l k = !((l.getD k at0).n != (k:Int)+1||decide ((l.getD k at0).t<uX l k)||!iY (l.getD k at0).t||decide ((l.getD k at0).h<0)||decide ((l.getD k at0).h>100000000)):=by
 unfold uV uX iY
 rw[Bool.eq_iff_iff]
 simp only[Bool.not_eq_true',Bool.or_eq_false_iff,bne_eq_false_iff_eq,decide_eq_false_iff_not,Bool.not_eq_false',aY,eF]
 constructor
 ·rintro ⟨h1,h2,⟨h3,h4⟩,h5,h6⟩
  refine⟨⟨⟨⟨h1,?_⟩,h3,h4⟩,by omega⟩,by omega⟩
  split
  ·omega
  ·rename_i h0
   rcases h2 with h2|h2
   ·exact absurd h2 h0
   ·omega
 ·rintro ⟨⟨⟨⟨h1,h2⟩,h3,h4⟩,h5⟩,h6⟩
  refine⟨h1,?_,⟨h3,h4⟩,by omega,by omega⟩
  by_cases h0:k=0
  ·exact .inl h0
  ·rw[if_neg h0] at h2
   right;omega
theorem f87 (r:Ru) (l:List At):aA Tryz.prog G 87 [CY r,rD l] (db (iJ r l)):=by
 refine aA.qQ (aj:={ d:=X5 (jK r) }) (keep:=[]) follows Tryz.func87 rfl Tryz.call87 ?_
 refine aC (fun ZT ZW ZQ ZK=>(ZK 107 [(.agg [(di r.kind),(di r.most),(di r.pause),(di r.keep)])] (db (jK r))∧(((!jK r||decide (↑l.length>r.most))=true)→(((db false):DV)=(db (iJ r l))))∧(((!jK r||decide (↑l.length>r.most))=false)→ZW [cd Tryz.f87 [1,1,1,0,1,0],(.blk 0),cd Tryz.f87 [1,1,1,1]] (aB ZT [1]) ZQ))) (by kernel_rfl) ?_
 refine⟨f107 r,fun c=>?_,fun c=>?_⟩
 ·have:iJ r l=false:=by
   unfold iJ
   cases q:jK r with
   | false=>rfl
   | true=>
    rw[q] at c
    have c:(l.length:Int)>r.most:=by simpa using c
    rw[decide_eq_false (show ¬(l.length:Int)≤r.most by omega)];rfl
  rw[this]
 have hr:jK r=true:=by
  cases q:jK r with
  | true=>rfl
  | false=>rw[q] at c;cases c
 have hl:(l.length:Int)≤r.most:=by
  rw[hr] at c
  simpa using c
 have hm:=FQ hr
 rw[IK hr hl]
 refine aX.loop (c:=aU (au Tryz.f87) [1,1,1,0,1,0,0]) (by kernel_rfl) (S87 r l) (fun k=>k≤l.length∧∀i,i<k→uV l i=true) (fun k=>l.length-k) 0 ?_ ⟨Nat.zero_le _,fun i hi=>absurd hi (Nat.not_lt_zero _)⟩ ?_
 ·refine AS.leZ [2] [] (b:=((T0∧T0∧((vi 0):AV)=(vi (uX l 0))∧T0∧T0∧T0∧True)∧T0∧True)) (by kernel_rfl) (by kernel_rfl) ?_
  exact⟨⟨rfl,rfl,rfl,rfl,rfl,rfl,trivial⟩,rfl,trivial⟩
 rintro k ⟨hk,hs⟩
 by_cases hk2:k<l.length
 ·refine dZ (aj:={ d:=X5 true }) ?_
  refine aV (fun ZT ZW ZQ ZK ZA _=>(fun Za=>((((decide ((↑k:Int)<↑l.length))=true)→(((0≤(↑k:Int))∧((↑k:Int)<↑l.length))∧((I64 (↑k+1))∧(((!((l.getD (↑k:Int).toNat at0).n != ↑k+1||decide ((l.getD (↑k:Int).toNat at0).t<uX l k)))=true)→ZK 108 [(di (l.getD (↑k:Int).toNat at0).t)] (db (iY (l.getD (↑k:Int).toNat at0).t))))∧((Za=true)→(((db false):DV)=(db ((List.range l.length).all (uV l)))))∧((Za=false)→((I64 (↑k+1))∧(ZA (aB ZT [0,1]))))))∧(((decide ((↑k:Int)<↑l.length))=false)→ZW [cd Tryz.f87 [1,1,1,1]] (aB ZT [1]) ZQ))) ((l.getD (↑k:Int).toNat at0).n != ↑k+1||decide ((l.getD (↑k:Int).toNat at0).t<uX l k)||!iY (l.getD (↑k:Int).toNat at0).t||decide ((l.getD (↑k:Int).toNat at0).h<0)||decide ((l.getD (↑k:Int).toNat at0).h>100000000))) (by kernel_rfl) ?_
  try dsimp only
  rw[show ((k:Int)).toNat=k from rfl]
  have hq:=YT l k
  refine⟨fun _=>⟨⟨by omega,by omega⟩,⟨⟨by omega,by omega⟩,fun _=>f108 _⟩,fun c=>?_,fun c=>⟨⟨by omega,by omega⟩,Again.mk (k+1) ?_ ⟨hk2,fun i hi=>?_⟩ (by show l.length-(k+1)<l.length-k;omega)⟩⟩,fun hd=>absurd (of_decide_eq_false hd) (by omega)⟩
  ·rw[c] at hq
   rw[List.all_eq_false.2 ⟨k,List.mem_range.2 hk2,by rw[hq];decide⟩]
  ·refine AS.leZ [2] [] (b:=((T0∧T0∧((vi (l.getD (↑k:Int).toNat at0).t):AV)=(vi (uX l (k+1)))∧T0∧T0∧T0∧True)∧T0∧True)) (by kernel_rfl) (by kernel_rfl) ?_
   exact⟨⟨rfl,rfl,rfl,rfl,rfl,rfl,trivial⟩,rfl,trivial⟩
  ·by_cases h:i=k
   ·subst h;rw[hq,c];rfl
   ·exact hs i (by omega)
 ·obtain rfl:k=l.length:=by omega
  refine gK (aj:={ d:=bG }) (cuts:=[7]) ?_
  refine aV (fun ZT ZW ZQ _ _ ZR=>((((decide ((↑l.length:Int)<↑l.length))=true)→(((0≤(↑l.length:Int))∧((↑l.length:Int)<↑l.length))∧ZW [cd Tryz.f87 [1,1,1,0,1,0,0,1,1,0,0,1,0],cd Tryz.f87 [1,1,1,0,1,0,0,1,1,0,0,1,1],(.blk 1),cd Tryz.f87 [1,1,1,0,1,0,0,1,1,1]] (aB ZT [0]) ZR))∧(((decide ((↑l.length:Int)<↑l.length))=false)→ZW [cd Tryz.f87 [1,1,1,1]] (aB ZT [1]) ZQ))) (by kernel_rfl) ?_
  refine⟨fun hd=>absurd (dn hd) (by omega),fun _=>?_⟩
  refine dZ (aj:={ d:=bG }) ?_
  refine aC (fun _ _ _ _=>(((db true):DV)=(db ((List.range l.length).all (uV l))))) (by kernel_rfl) ?_
  rw[List.all_eq_true.2 fun i hi=>hs i (List.mem_range.1 hi)]
noncomputable def Cm:dU:={ d:=fun f args=>match f,args with
 | 130,[x,y]=>some (di (Hw (Pv x) (Pv y)))
 | _,_=>none }
noncomputable def acN (L:Nat→At) (n a b:Nat) (x:Nat×(Nat→Nat)):AS:=⟨regs Tryz.f182.ntmps [(0,.vec 1000000 3 0 n),(1,vi a),(2,vi b),(3,Pn),(8,vi x.1)],Ar L x.2⟩
noncomputable def abz (L:Nat→At) (n a b i:Nat) (x:Nat×(Nat→Nat)):AS:=⟨regs Tryz.f182.ntmps [(0,.vec 1000000 3 0 n),(1,vi a),(2,vi b),(3,Pn),(8,vi i),(9,vi x.1)],Ar L x.2⟩
theorem f182 (L:Nat→At) (σ:Nat→Nat) (n a b:Nat) (h1:a≤n) (h2:b≤n) (hn:n≤100000000):dD Tryz.prog G 182 [.vec 1000000 3 0 n,vi a,vi b,Pn] (Ar L σ) (.d iO) (Ar L (jQ (fun i=>atKey (L i)) a b σ)):=by
 refine dD.dA (mv:=[]) (by kernel_rfl) Tryz.func182 rfl Tryz.call182 ?_
 refine dh (aj:=bG) ?_
 refine aC (fun ZT ZW ZQ _=>((I64 (↑a+1))∧ZW [cd Tryz.f182 [1,0],(.blk 0)] (aB ZT []) ZQ)) (by kernel_rfl) ?_
 refine⟨⟨by omega,by omega⟩,?_⟩
 refine aX.loop (c:=aU (au Tryz.f182) [1,0,0]) (by kernel_rfl) (acN L n a b) (fun x=>a<x.1∧x.1≤n+1∧uT (fun i=>atKey (L i)) a (b-x.1) x.1 x.2=jQ (fun i=>atKey (L i)) a b σ) (fun x=>b-x.1) (a+1,σ) ?_ ⟨by simp only;omega,by simp only;omega,rfl⟩ ?_
 ·exact AS.bD (by kernel_rfl)
 ·rintro ⟨i,τ⟩ ⟨q1,q2,q3⟩
  simp only at q1 q2 q3
  refine dh (aj:=Cm) ?_
  refine aV (fun ZT ZW ZQ _ _ ZR=>((((decide ((↑i:Int)<↑b))=true)→ZW [cd Tryz.f182 [1,0,0,1,0,0,1,0],(.blk 2),(.blk 1),cd Tryz.f182 [1,0,0,1,1]] (aB ZT [0]) ZR)∧(((decide ((↑i:Int)<↑b))=false)→ZW [] (aB ZT [1]) ZQ))) (by kernel_rfl) ?_
  refine⟨fun h=>?_,fun h=>?_⟩
  ·have hib:i<b:=by have:=dn h;omega
   refine aX.loop (c:=aU (au Tryz.f182) [1,0,0,1,0,0,1,0,0]) (by kernel_rfl) (abz L n a b i) (fun x=>a≤x.1∧x.1≤i∧jS (fun i=>atKey (L i)) a x.1 x.2=jS (fun i=>atKey (L i)) a i τ) (fun x=>x.1) (i,τ) ?_ ⟨by simp only;omega,by simp only;omega,rfl⟩ ?_
   ·exact AS.bD (by kernel_rfl)
   ·rintro ⟨j,ρ⟩ ⟨r1,r2,r3⟩
    simp only at r1 r2 r3
    refine dh (aj:=Cm) ?_
    refine aV (fun ZT ZW ZQ ZK ZA _=>(fun Za Zb=>(((((decide ((↑j:Int)>↑a))=true)→((0≤(↑j:Int))∧((↑j:Int)<↑n)))∧(((decide ((↑j:Int)>↑a))=true)→(I64 (↑j-1)))∧(((decide ((↑j:Int)>↑a))=true)→((0≤(↑j:Int)-1)∧((↑j:Int)-1<↑n)))∧(((decide ((↑j:Int)>↑a))=true)→ZK 130 [(.agg [(di (L (ρ (0+(↑j:Int).toNat))).n),(di (L (ρ (0+(↑j:Int).toNat))).t),(di (L (ρ (0+(↑j:Int).toNat))).h)]),(.agg [(di Zb.n),(di Zb.t),(di Zb.h)])] (di (Hw (Pv (atR L ρ (0+((↑j:Int):Int).toNat))) (Pv (atR L ρ (0+((↑j:Int)-1).toNat)))))))∧((Za=true)→(((I64 (↑j-1))∧(I64 (↑j-1))∧((0≤(↑j:Int)-1)∧((↑j:Int)-1<↑n))∧((0≤(↑j:Int))∧((↑j:Int)<↑n))∧((0≤(↑j:Int))∧((↑j:Int)<↑n))∧(0≤(↑j:Int)-1)∧((↑j:Int)-1<↑n))∧(I64 (↑j-1))∧(ZA (aB ZT [0]))))∧((Za=false)→ZW [(.blk 1),cd Tryz.f182 [1,0,0,1,1]] (aB ZT [1]) ZQ))) (decide ((↑j:Int)>(↑a:Int))&&decide (Hw (Pv (atR L ρ (0+((↑j:Int):Int).toNat))) (Pv (atR L ρ (0+((↑j:Int)-1).toNat)))<0)) (L (ρ (0+((↑j:Int)-1).toNat)))) (by kernel_rfl) ?_
    try dsimp only
    simp only[acO]
    refine⟨⟨fun h=>?_,fun h=>?_,fun h=>?_,fun h=>f130 (L (ρ (0+((j:Int)).toNat))) (L (ρ (0+((j:Int)-1).toNat)))⟩,fun h=>?_,fun h=>?_⟩
    ·have:=dn h;exact⟨by omega,by omega⟩
    ·have:=dn h;exact⟨by omega,by omega⟩
    ·have:=dn h;exact⟨by omega,by omega⟩
    ·simp only[aY,eF,Nat.zero_add,gW] at h
     obtain ⟨h3,h4⟩:=h
     obtain ⟨k,rfl⟩:∃k,j=k+1:=⟨j-1,by omega⟩
     rw[show (((k+1:Nat):Int)-1).toNat=k by omega] at h4
     have e1:jS (fun i=>atKey (L i)) a (k+1) ρ=jS (fun i=>atKey (L i)) a k (swp ρ (k+1) k):=by
      rw[jS,if_pos ⟨by omega,(Oz _ _).1 h4⟩]
     refine⟨⟨⟨by omega,by omega⟩,⟨by omega,by omega⟩,⟨by omega,by omega⟩,⟨by omega,by omega⟩,⟨by omega,by omega⟩,by omega,by omega⟩,⟨by omega,by omega⟩,Again.mk (k,swp ρ (k+1) k) ?_ ⟨by simp only;omega,by simp only;omega,e1.symm.trans r3⟩ (by simp only;omega)⟩
     refine AS.leZ [5] [0] (b:=((T0∧T0∧T0∧T0∧T0∧((vi (↑(k+1)-1)):AV)=(vi (↑k))∧True)∧((some [(.arr ⟨true,57,false,none⟩ 3 (fun j=>bif j.beq (0+((↑(k+1):Int)-1).toNat) then DV.agg [DV.con (Value.int IntKind.i64 (L (ρ (0+((↑(k+1):Int)).toNat))).n),DV.con (Value.int IntKind.i64 (L (ρ (0+((↑(k+1):Int)).toNat))).t),DV.con (Value.int IntKind.i64 (L (ρ (0+((↑(k+1):Int)).toNat))).h)] else bif j.beq (0+((↑(k+1):Int)).toNat) then DV.agg [DV.con (Value.int IntKind.i64 (L (ρ (0+((↑(k+1):Int)-1).toNat))).n),DV.con (Value.int IntKind.i64 (L (ρ (0+((↑(k+1):Int)-1).toNat))).t),DV.con (Value.int IntKind.i64 (L (ρ (0+((↑(k+1):Int)-1).toNat))).h)] else atR L ρ j))]):dS)=(some [(.arr ⟨true,57,false,none⟩ 3 (atR L (swp ρ (k+1) k)))])∧True)) (by kernel_rfl) (by kernel_rfl) ?_
     refine⟨⟨rfl,rfl,rfl,rfl,rfl,nD (by omega),trivial⟩,?_,trivial⟩
     exact congrArg (fun f=>some [AV.arr Dk 3 f]) (Si (by omega) (by omega))
    ·have e1:jS (fun i=>atKey (L i)) a j ρ=ρ:=by
      rcases j with _|k
      ·rfl
      ·rw[jS,if_neg]
       rintro ⟨h3,h4⟩
       rw[Bool.and_eq_false_iff] at h
       rcases h with h|h
       ·have:=of_decide_eq_false h;omega
       ·have:=of_decide_eq_false h
        simp only[Nat.zero_add,gW] at this
        rw[show (((k+1:Nat):Int)-1).toNat=k by omega] at this
        exact this ((Oz _ _).2 h4)
     obtain ⟨k,hk⟩:∃k,b-i=k+1:=⟨b-i-1,by omega⟩
     have e2:uT (fun i=>atKey (L i)) a (b-(i+1)) (i+1) ρ=jQ (fun i=>atKey (L i)) a b σ:=by
      rw[←q3,hk,uT,show b-(i+1)=k by omega,←r3,e1]
     refine dh (aj:=Cm) ?_
     refine aV (fun ZT _ _ _ ZA _=>((I64 (↑i+1))∧(ZA (aB ZT [])))) (by kernel_rfl) ?_
     refine⟨⟨by omega,by omega⟩,Again.mk (i+1,ρ) ?_ ⟨by simp only;omega,by simp only;omega,e2⟩ (by simp only;omega)⟩
     exact AS.bD (by kernel_rfl)
  ·have hib:b-i=0:=by have:=of_decide_eq_false h;omega
   rw[hib,uT] at q3
   refine dh (aj:=Cm) ?_
   refine aC (fun _ _ _ _=>((ZS ((.d (.aN [])):AV))∧((some [(.arr ⟨true,57,false,none⟩ 3 (atR L τ))]):dS)=(some [(.arr ⟨true,57,false,none⟩ 3 (atR L (jQ (fun i=>atKey (L i)) a b σ)))])∧True)) (by kernel_rfl) ?_
   exact⟨rfl,by rw[q3],trivial⟩
theorem Xo (κ:Nat→Int) {n:Nat} (h:n<20):iQ κ n=jQ κ 0 n id:=by
 have e1:iQ κ n=nY κ n n 20 (oP κ n n 0 id):=rfl
 have e2:oP κ n n 0 id=jQ κ 0 n id:=by
  cases n with
  | zero=>rfl
  | succ k=>rw[oP,if_neg (by omega)]
 have e3:∀τ:Nat→Nat,nY κ n n 20 τ=τ:=fun τ=>by
  cases n with
  | zero=>rfl
  | succ k=>rw[nY,if_neg (by omega)]
 rw[e1,e2,e3]
def mF (n i k:Nat):Nat:=if k<i∨(k<n∧n-1-k<i) then n-1-k else k
noncomputable def mAt (L:Nat→At):FuncId→List AV→List (Nat×List AV)→Option (AV×List (Nat×List AV)):=fun f args _=>match f,args with
 | 182,[_,_,.d (.con (.int _ n)),_]=>some (.d iO,[(1000000,[.arr Dk 3 (atR L (jQ (fun i=>atKey (L i)) 0 n.toNat id))])])
 | 155,[_,.d (.con (.int _ n)),_]=>some (.d iO,[(1000000,[.arr Dk 3 (atR L (iQ (fun i=>atKey (L i)) n.toNat))])])
 | 129,[.vec _ _ _ n,_]=>some (.d iO,[(1000000,[.arr Dk 3 (atR L (iQ (fun i=>atKey (L i)) n))])])
 | 128,[.vec _ _ _ n]=>some (.d iO,[(1000000,[.arr Dk 3 (atR L (mF n (n / 2)))])])
 | _,_=>none
noncomputable def vY (L:Nat→At):dU:={ d:=bG,m:=mAt L }
noncomputable def acg (L:Nat→At) (n:Nat) (_:Unit):AS:=⟨regs Tryz.f155.ntmps [(0,.vec 1000000 3 0 n),(1,vi n),(2,Pn),(6,vi 20),(7,vi 0),(8,vi 20)],Ar L id⟩
noncomputable def acS (L:Nat→At) (n:Nat) (_:Unit):AS:=⟨regs Tryz.f155.ntmps [(0,.vec 1000000 3 0 n),(1,vi n),(2,Pn),(6,vi 20)],Ar L (jQ (fun i=>atKey (L i)) 0 n id)⟩
theorem f155 (L:Nat→At) (n:Nat) (hn:n<20):dD Tryz.prog G 155 [.vec 1000000 3 0 n,vi n,Pn] (Ar L id) (.d iO) (Ar L (iQ (fun i=>atKey (L i)) n)):=by
 rw[Xo _ hn]
 refine dD.dA (mv:=[]) (by kernel_rfl) Tryz.func155 rfl Tryz.call155 ?_
 refine dZ (aj:=vY L) ?_
 refine aC (fun ZT ZW ZQ _=>ZW [cd Tryz.f155 [1,1,0,0],(.blk 0),cd Tryz.f155 [1,1,1]] (aB ZT []) ZQ) (by kernel_rfl) ?_
 refine aX.loop (c:=aU (au Tryz.f155) [1,1,0,0,0]) (by kernel_rfl) (acg L n) (fun _=>True) (fun _=>0) () ?_ trivial ?_
 ·exact AS.bD (by kernel_rfl)
 rintro _ _
 refine gK (aj:=vY L) (cuts:=[3,6]) ?_
 refine aV (fun ZT ZW ZQ _ _ ZR=>((((decide (20≤(↑n:Int)))=true)→ZW [cd Tryz.f155 [1,1,0,0,0,1,0],(.blk 1)] (aB ZT [0]) ZR)∧(((decide (20≤(↑n:Int)))=false)→ZW [cd Tryz.f155 [1,1,1]] (aB ZT [1]) ZQ))) (by kernel_rfl) ?_
 refine⟨fun h=>absurd (dn h) (by omega),fun h=>?_⟩
 refine dZ (aj:=vY L) ?_
 refine aC (fun ZT ZW ZQ _=>(dD Tryz.prog G 182 [(.vec 1000000 3 0 n),(vi 0),(vi (↑n)),(.d (.con (.func (.func 130) ⟨[]⟩ ⟨[]⟩)))] [(1000000,[(.arr ⟨true,57,false,none⟩ 3 (atR L id))])] (.d (.aN [])) [(1000000,[(.arr ⟨true,57,false,none⟩ 3 (atR L (jQ (fun i=>atKey (L i)) 0 (↑n:Int).toNat id)))])]∧ZW [cd Tryz.f155 [1,1,1,1,0],(.blk 2)] (aB ZT []) ZQ)) (by kernel_rfl) ?_
 simp only[gW]
 refine⟨f182 L id n 0 n (Nat.zero_le _) (Nat.le_refl _) (by omega),?_⟩
 refine aX.loop (c:=aU (au Tryz.f155) [1,1,1,1,0,0]) (by kernel_rfl) (acS L n) (fun _=>True) (fun _=>0) () ?_ trivial ?_
 ·exact AS.bD (by kernel_rfl)
 rintro _ _
 refine gK (aj:=vY L) (cuts:=[8]) ?_
 refine aV (fun ZT ZW ZQ _ _ ZR=>((((decide (20<(↑n:Int)))=true)→ZW [cd Tryz.f155 [1,1,1,1,0,0,1,0],(.blk 3)] (aB ZT [0]) ZR)∧(((decide (20<(↑n:Int)))=false)→ZW [] (aB ZT [1]) ZQ))) (by kernel_rfl) ?_
 refine⟨fun h=>absurd (dn h) (by omega),fun h=>?_⟩
 refine dZ (aj:=vY L) ?_
 refine aC (fun _ _ _ _=>(fun Za=>((ZS ((.d (.aN [])):AV))∧(Za:dS)=Za∧True)) (some [(.arr ⟨true,57,false,none⟩ 3 (atR L (jQ (fun i=>atKey (L i)) 0 n id)))])) (by kernel_rfl) ?_
 exact⟨rfl,rfl,trivial⟩
theorem f129 (L:Nat→At) (n:Nat) (hn:n<20):dD Tryz.prog G 129 [.vec 1000000 3 0 n,Pn] (Ar L id) (.d iO) (Ar L (iQ (fun i=>atKey (L i)) n)):=by
 refine dD.dA (mv:=[]) (by kernel_rfl) Tryz.func129 rfl Tryz.call129 ?_
 refine dZ (aj:=vY L) ?_
 refine aC (fun _ _ _ _=>(fun Za=>(dD Tryz.prog G 155 [(.vec 1000000 3 0 n),(vi (↑n)),(.d (.con (.func (.func 130) ⟨[]⟩ ⟨[]⟩)))] [(1000000,[(.arr ⟨true,57,false,none⟩ 3 (atR L id))])] (.d (.aN [])) [(1000000,[Za])]∧(ZS ((.d (.aN [])):AV))∧((some [Za]):dS)=(some [(.arr ⟨true,57,false,none⟩ 3 (atR L (iQ (fun i=>atKey (L i)) n)))])∧True)) ((.arr ⟨true,57,false,none⟩ 3 (atR L (iQ (fun i=>atKey (L i)) (↑n:Int).toNat))):AV)) (by kernel_rfl) ?_
 try dsimp only
 simp only[gW]
 exact⟨f155 L n hn,trivial,trivial,trivial⟩
theorem rev_zero (n:Nat):mF n 0=id:=by
 funext k
 unfold mF
 rw[if_neg (by omega)];rfl
theorem WY {n i:Nat} (h:i<n-1-i):swp (mF n i) i (n-1-i)=mF n (i+1):=by
 funext k
 unfold swp mF
 repeat' split
 all_goals omega
noncomputable def aes (L:Nat→At) (n i:Nat):AS:=⟨regs Tryz.f128.ntmps [(0,.vec 1000000 3 0 n),(2,vi i),(3,vi ((n:Int)-1-i))],Ar L (mF n i)⟩
theorem f128 (L:Nat→At) (n:Nat) (hn:n≤1000000):dD Tryz.prog G 128 [.vec 1000000 3 0 n] (Ar L id) (.d iO) (Ar L (mF n (n / 2))):=by
 refine dD.dA (mv:=[]) (by kernel_rfl) Tryz.func128 rfl Tryz.call128 ?_
 refine dh (aj:=bG) ?_
 refine aC (fun ZT ZW ZQ _=>((I64 (↑n-1))∧ZW [cd Tryz.f128 [1,0],(.blk 0)] (aB ZT []) ZQ)) (by kernel_rfl) ?_
 refine⟨⟨by omega,by omega⟩,?_⟩
 refine aX.loop (c:=aU (au Tryz.f128) [1,0,0]) (by kernel_rfl) (aes L n) (fun i=>i≤n / 2) (fun i=>n / 2-i) 0 ?_ (Nat.zero_le _) ?_
 ·refine AS.leZ [2] [0] (b:=((T0∧T0∧((vi (↑n-1)):AV)=(vi (↑n-1 - ↑0))∧True)∧((some [(.arr ⟨true,57,false,none⟩ 3 (atR L id))]):dS)=(some [(.arr ⟨true,57,false,none⟩ 3 (atR L (mF n 0)))])∧True)) (by kernel_rfl) (by kernel_rfl) ?_
  exact⟨⟨rfl,rfl,nD (by omega),trivial⟩,by rw[rev_zero],trivial⟩
 intro i hi
 refine dh (aj:=bG) ?_
 refine aV (fun ZT ZW ZQ _ ZA _=>((((decide ((↑i:Int)<↑n-1 - ↑i))=true)→((((0≤(↑n:Int)-1 - ↑i)∧((↑n:Int)-1 - ↑i<↑n))∧((0≤(↑i:Int))∧((↑i:Int)<↑n))∧((0≤(↑i:Int))∧((↑i:Int)<↑n))∧(0≤(↑n:Int)-1 - ↑i)∧((↑n:Int)-1 - ↑i<↑n))∧((I64 (↑i+1))∧(I64 (↑n-1 - ↑i-1)))∧(ZA (aB ZT [0]))))∧(((decide ((↑i:Int)<↑n-1 - ↑i))=false)→ZW [] (aB ZT [1]) ZQ))) (by kernel_rfl) ?_
 refine⟨fun h=>?_,fun h=>?_⟩
 ·have h:=dn h
  refine⟨⟨⟨by omega,by omega⟩,⟨by omega,by omega⟩,⟨by omega,by omega⟩,by omega,by omega⟩,⟨⟨by omega,by omega⟩,⟨by omega,by omega⟩⟩,Again.mk (i+1) ?_ (by omega) (by omega)⟩
  refine AS.leZ [2] [0] (b:=((T0∧T0∧((vi (↑n-1 - ↑i-1)):AV)=(vi (↑n-1 - ↑(i+1)))∧True)∧((some [(.arr ⟨true,57,false,none⟩ 3 (fun j=>bif Nat.beq j (0+Int.toNat ((↑n:Int)-1-(↑i:Int))) then DV.agg [di (At.n (L (mF n i (0+Int.toNat (↑i:Int))))),di (At.t (L (mF n i (0+Int.toNat (↑i:Int))))),di (At.h (L (mF n i (0+Int.toNat (↑i:Int)))))] else bif Nat.beq j (0+Int.toNat (↑i:Int)) then DV.agg [di (At.n (L (mF n i (0+Int.toNat ((↑n:Int)-1-(↑i:Int)))))),di (At.t (L (mF n i (0+Int.toNat ((↑n:Int)-1-(↑i:Int)))))),di (At.h (L (mF n i (0+Int.toNat ((↑n:Int)-1-(↑i:Int))))))] else atR L (mF n i) j))]):dS)=(some [(.arr ⟨true,57,false,none⟩ 3 (atR L (mF n (i+1))))])∧True)) (by kernel_rfl) (by kernel_rfl) ?_
  refine⟨⟨rfl,rfl,nD (by omega),trivial⟩,?_,trivial⟩
  rw[←WY (by omega)]
  exact congrArg (fun f=>some [AV.arr Dk 3 f]) (Si (by omega) (by omega))
 ·have h:=of_decide_eq_false h
  have:i=n / 2:=by omega
  subst this
  refine dh (aj:=bG) ?_
  refine aC (fun _ _ _ _=>((ZS ((.d (.aN [])):AV))∧((some [(.arr ⟨true,57,false,none⟩ 3 (atR L (mF n (n / 2))))]):dS)=(some [(.arr ⟨true,57,false,none⟩ 3 (atR L (mF n (n / 2))))])∧True)) (by kernel_rfl) ?_
  exact⟨rfl,rfl,trivial⟩
noncomputable def sig (r:Ru) (l:List At):Nat→Nat:=if r.kind=1 then mF l.length (l.length / 2) else iQ (fun i=>atKey (l.getD i at0)) l.length
def kC (r:Ru):Nat:=if r.kind=1 then 1 else (max 1 r.keep).toNat
noncomputable def adQ (r:Ru) (l:List At):AS:=⟨regs Tryz.f109.ntmps [(2,.box 2 0),(5,.vec 9 3 0 l.length),(6,vi 1),(14,vi r.kind)],[(2,(Du r).map .d),(9,[.arr Dk 3 (atR (fun i=>l.getD i at0) id)])]⟩
theorem f109 (r:Ru) (l:List At) (hl:l.length<20) (hk:I64 r.keep):aA Tryz.prog G 109 [CY r,rD l] (.slc 3 (min (kC r) l.length) (atR (fun i=>l.getD i at0) (sig r l))):=by
 refine aA.dA Tryz.func109 rfl Tryz.call109 ?_
 refine gK (aj:=vY (fun i=>l.getD i at0)) (cuts:=[7]) ?_
 refine aC (fun ZT ZW ZQ _=>(((↑l.length:Int)=↑l.length∧(0≤(↑l.length:Int))∧((↑24:Int) * ↑l.length≤281474976710656)∧((↑l.length:Int)≤9223372036854775807))∧(∀(i:Nat),i<min l.length (↑l.length:Int).toNat→qm true 3 (ji l i)=true)∧ZW [cd Tryz.f109 [1,1,1,1,0,1,0],(.blk 0),cd Tryz.f109 [1,1,1,1,1]] (aB ZT []) ZQ)) (by kernel_rfl) ?_
 refine⟨⟨rfl,by omega,by omega,by omega⟩,fun i _=>rfl,?_⟩
 refine aX.weaken (st':=adQ r l) ?_ ?_
 ·refine AS.leZ [] [1] (b:=((T0∧T0∧T0∧T0∧True)∧T0∧((some [(.arr ⟨true,57,false,none⟩ 3 (fun i=>bif i.blt 0 then DV.agg (List.map DV.con [Value.int IntKind.i64 0,Value.int IntKind.i64 0,Value.int IntKind.i64 0]) else bif i.blt (0+min l.length (↑l.length:Int).toNat) then ji l (i-0) else DV.agg (List.map DV.con [Value.int IntKind.i64 0,Value.int IntKind.i64 0,Value.int IntKind.i64 0])))]):dS)=(some [(.arr ⟨true,57,false,none⟩ 3 (atR (fun i=>l.getD i at0) id))])∧True)) (by kernel_rfl) (by kernel_rfl) ?_
  refine⟨⟨rfl,rfl,rfl,rfl,trivial⟩,rfl,congrArg (fun f=>some [AV.arr Dk 3 f]) (funext fun i=>?_),trivial⟩
  show (bif i.blt (0+min l.length l.length) then ji l (i-0) else LZ at0)=LZ (l.getD i at0)
  rw[Nat.min_self,Nat.zero_add]
  cases h:i.blt l.length with
  | true=>rfl
  | false=>
   have h:¬i<l.length:=by rw[←Nat.blt_eq,h];decide
   rw[cond_false,List.getD,List.getElem?_eq_none (by omega)];rfl
 refine dZ (aj:=vY (fun i=>l.getD i at0)) ?_
 refine aC (fun _ _ _ _=>((((r.kind==1)=true)→(dD Tryz.prog G 128 [(.vec 1000000 3 0 l.length)] [(1000000,[(.arr ⟨true,57,false,none⟩ 3 (atR (fun i=>l.getD i at0) id))])] (.d (.aN [])) [(1000000,[(.arr ⟨true,57,false,none⟩ 3 (atR (fun i=>l.getD i at0) (mF l.length (l.length / 2))))])]∧(((0:Int)≤(0:Int))∧(0≤if (↑l.length:Int)<1 then (↑l.length:Int) else 1)∧((if (↑l.length:Int)<1 then (↑l.length:Int) else 1)≤↑l.length))∧((.slc 3 ((if (↑l.length:Int)<1 then (↑l.length:Int) else 1)-0).toNat (fun i=>atR (fun i=>l.getD i at0) (mF l.length (l.length / 2)) (0+i))):DV)=(.slc 3 (min (kC r) l.length) (atR (fun i=>l.getD i at0) (sig r l)))))∧(((r.kind==1)=false)→(dD Tryz.prog G 129 [(.vec 1000000 3 0 l.length),(.d (.con (.func (.func 130) ⟨[]⟩ ⟨[]⟩)))] [(1000000,[(.arr ⟨true,57,false,none⟩ 3 (atR (fun i=>l.getD i at0) id))])] (.d (.aN [])) [(1000000,[(.arr ⟨true,57,false,none⟩ 3 (atR (fun i=>l.getD i at0) (iQ (fun i=>atKey (l.getD i at0)) l.length)))])]∧(((0:Int)≤(0:Int))∧(0≤if ↑l.length<if r.keep>1 then r.keep else 1 then ↑l.length else if r.keep>1 then r.keep else 1)∧((if ↑l.length<if r.keep>1 then r.keep else 1 then ↑l.length else if r.keep>1 then r.keep else 1)≤↑l.length))∧((.slc 3 ((if ↑l.length<if r.keep>1 then r.keep else 1 then ↑l.length else if r.keep>1 then r.keep else 1)-0).toNat (fun i=>atR (fun i=>l.getD i at0) (iQ (fun i=>atKey (l.getD i at0)) l.length) (0+i))):DV)=(.slc 3 (min (kC r) l.length) (atR (fun i=>l.getD i at0) (sig r l))))))) (by kernel_rfl) ?_
 refine⟨fun c=>⟨f128 (fun i=>l.getD i at0) l.length (by omega),⟨Int.le_refl _,by split<;>omega,by split<;>omega⟩,?_⟩,fun c=>⟨f129 (fun i=>l.getD i at0) l.length hl,⟨Int.le_refl _,by split<;>split<;>omega,by split<;>split<;>omega⟩,?_⟩⟩
 ·have c:r.kind=1:=by simpa using c
  have e1:((if (l.length:Int)<1 then (l.length:Int) else 1)-0).toNat=min (kC r) l.length:=by
   unfold kC
   rw[if_pos c]
   split<;>omega
  rw[e1]
  unfold sig
  rw[if_pos c]
  exact congrArg (DV.slc 3 _) (funext fun i=>by rw[Nat.zero_add])
 ·have c:r.kind≠1:=by simpa using c
  have e1:((if (l.length:Int)<(if r.keep>1 then r.keep else 1) then (l.length:Int) else (if r.keep>1 then r.keep else 1))-0).toNat=min (kC r) l.length:=by
   unfold kC
   rw[if_neg c]
   split<;>split<;>omega
  rw[e1]
  unfold sig
  rw[if_neg c]
  exact congrArg (DV.slc 3 _) (funext fun i=>by rw[Nat.zero_add])
noncomputable def lV (r:Ru) (l:List At) (k:Nat):Int:=sm (fun i=>(l.getD (sig r l i) at0).h) k
noncomputable def S88 (r:Ru) (l:List At) (m k:Nat):AS:=⟨regs Tryz.f88.ntmps [(2,.box 2 0),(4,vi 0),(5,.d (.slc 3 m (atR (fun i=>l.getD i at0) (sig r l)))),(6,vi (lV r l k)),(15,.d (.slc 3 m (atR (fun i=>l.getD i at0) (sig r l)))),(16,vi m),(17,vi k)],[(2,(Du r).map .d)]⟩
def abp (x:DV):dU:={ d:=fun f _=>bif Nat.beq f 109 then some x else none }
theorem f88 (r:Ru) (l:List At) (hl:l.length<20) (hk:I64 r.keep) (hh:∀i,0≤(l.getD i at0).h∧(l.getD i at0).h≤100000000):aA Tryz.prog G 88 [CY r,rD l] (di (if min (kC r) l.length=0 then 0 else (2*lV r l (min (kC r) l.length)+(min (kC r) l.length:Nat)).tdiv (2*(min (kC r) l.length:Nat)))):=by
 obtain ⟨m,hm⟩:∃m,m=min (kC r) l.length:=⟨_,rfl⟩
 have abm:=f109 (G:=G) r l hl hk
 rw[←hm] at abm⊢
 have hm2:m<20:=by omega
 have hb:∀k,k≤m→0≤lV r l k∧lV r l k≤k*100000000:=by
  intro k
  induction k with
  | zero=>intro _;exact⟨Int.le_refl _,Int.le_refl _⟩
  | succ k ih=>
   intro hk
   have:=ih (by omega)
   have h1:=hh (sig r l k)
   have e:lV r l (k+1)=lV r l k+(l.getD (sig r l k) at0).h:=lH _ _
   rw[e]
   push_cast
   omega
 refine aA.qQ (aj:=abp (.slc 3 m (atR (fun i=>l.getD i at0) (sig r l)))) (keep:=[]) follows Tryz.func88 rfl Tryz.call88 ?_
 refine aC (fun ZT ZW ZQ ZK=>(ZK 109 [(.agg [(di r.kind),(di r.most),(di r.pause),(di r.keep)]),(.slc 3 l.length (ji l))] (.slc 3 m (atR (fun i=>l.getD i at0) (sig r l)))∧((((↑m:Int)==0)=true)→(((di 0):DV)=(di (if m=0 then 0 else (2*lV r l m + ↑m).tdiv (2 * ↑m)))))∧((((↑m:Int)==0)=false)→ZW [cd Tryz.f88 [1,1,1,1,0,1,0],(.blk 0),cd Tryz.f88 [1,1,1,1,1]] (aB ZT [1]) ZQ))) (by kernel_rfl) ?_
 refine⟨abm,fun c=>?_,fun c=>?_⟩
 ·have c:m=0:=by simpa using c
  rw[if_pos c]
 have c:m≠0:=by simpa using c
 rw[if_neg c]
 refine aX.loop (c:=aU (au Tryz.f88) [1,1,1,1,0,1,0,0]) (by kernel_rfl) (S88 r l m) (fun k=>k≤m) (fun k=>m-k) 0 ?_ (Nat.zero_le _) ?_
 ·refine AS.leZ [3] [] (b:=((T0∧T0∧T0∧((vi 0):AV)=(vi (lV r l 0))∧T0∧T0∧T0∧True)∧T0∧True)) (by kernel_rfl) (by kernel_rfl) ?_
  exact⟨⟨rfl,rfl,rfl,rfl,rfl,rfl,rfl,trivial⟩,rfl,trivial⟩
 intro k hk
 by_cases h2:k<m
 ·have hb1:=hb k hk
  have hb2:=hh (sig r l k)
  have e:lV r l (k+1)=lV r l k+(l.getD (sig r l k) at0).h:=lH _ _
  refine dZ (aj:={ d:=bG }) ?_
  refine aV (fun ZT ZW ZQ _ ZA _=>((((decide ((↑k:Int)<↑m))=true)→(((0≤(↑k:Int))∧((↑k:Int)<↑m))∧(I64 (lV r l k+(l.getD (sig r l (↑k:Int).toNat) at0).h))∧(I64 (↑k+1))∧(ZA (aB ZT [0]))))∧(((decide ((↑k:Int)<↑m))=false)→ZW [cd Tryz.f88 [1,1,1,1,1]] (aB ZT [1]) ZQ))) (by kernel_rfl) ?_
  rw[show ((k:Int)).toNat=k from rfl]
  refine⟨fun _=>⟨⟨by omega,by omega⟩,⟨by omega,by omega⟩,⟨by omega,by omega⟩,Again.mk (k+1) ?_ h2 (by omega)⟩,fun hd=>absurd (of_decide_eq_false hd) (by omega)⟩
  refine AS.leZ [3] [] (b:=((T0∧T0∧T0∧((vi (lV r l k+(l.getD (sig r l (↑k:Int).toNat) at0).h)):AV)=(vi (lV r l (k+1)))∧T0∧T0∧T0∧True)∧T0∧True)) (by kernel_rfl) (by kernel_rfl) ?_
  rw[e]
  exact⟨⟨rfl,rfl,rfl,rfl,rfl,rfl,rfl,trivial⟩,rfl,trivial⟩
 ·obtain rfl:k=m:=by omega
  have hb1:=hb k hk
  refine gK (aj:={ d:=bG }) (cuts:=[7]) ?_
  refine aV (fun ZT ZW ZQ _ _ ZR=>((((decide ((↑k:Int)<↑k))=true)→ZW [cd Tryz.f88 [1,1,1,1,0,1,0,0,1,1,0,0],(.blk 1),cd Tryz.f88 [1,1,1,1,0,1,0,0,1,1,1]] (aB ZT [0]) ZR)∧(((decide ((↑k:Int)<↑k))=false)→ZW [cd Tryz.f88 [1,1,1,1,1]] (aB ZT [1]) ZQ))) (by kernel_rfl) ?_
  refine⟨fun hd=>absurd (dn hd) (by omega),fun _=>?_⟩
  refine dZ (aj:={ d:=bG }) ?_
  refine aC (fun _ _ _ _=>(((I64 (2*lV r l k))∧(I64 (2*lV r l k + ↑k))∧(I64 (2 * ↑k))∧(2*(↑k:Int)≠0)∧(CS (2*lV r l k + ↑k)))∧(ZS ((di ((2*lV r l k + ↑k).tdiv (2 * ↑k))):DV)))) (by kernel_rfl) ?_
  exact⟨⟨⟨by omega,by omega⟩,⟨by omega,by omega⟩,⟨by omega,by omega⟩,by omega,by unfold CS;omega⟩,rfl⟩
theorem Ij {r:Ru} (h:jK r=true):(r.kind=0∨r.kind=1∨r.kind=2)∧(r.kind=2→1≤r.keep∧r.keep≤16)∧(r.kind≠2→r.keep=0):=by
 have hm:=FQ h
 unfold jK at h
 simp only[aY,eF] at h
 obtain ⟨h1,h2,_,_,_,h⟩:=h
 refine⟨by omega,fun c=>?_,fun c=>?_⟩
 ·rw[if_pos c] at h
  simp only[aY,eF] at h
  omega
 ·rw[if_neg c] at h
  simpa using h
theorem WV {r:Ru} {l:List At} (hr:jK r=true) (hb:0≤lV r l (min (kC r) l.length)):(if min (kC r) l.length=0 then 0 else (2*lV r l (min (kC r) l.length)+(min (kC r) l.length:Nat)).tdiv (2*(min (kC r) l.length:Nat)))=Em r l:=by
 obtain ⟨_,k2,k3⟩:=Ij hr
 unfold Em Xp
 have kp:0<kC r:=by unfold kC;split<;>omega
 by_cases h0:l.length=0
 ·rw[if_pos h0,if_pos (by omega)]
 rw[if_neg h0,if_neg (by omega),Int.tdiv_eq_ediv_of_nonneg (by omega)]
 have hC:D7 r.kind (keepA r) l.length=min (kC r) l.length:=by
  unfold D7 kC keepA
  by_cases c:r.kind=1
  ·rw[if_pos c,if_pos c];omega
  ·rw[if_neg c,if_neg c]
   by_cases c2:r.kind=2
   ·have:=k2 c2
    rw[if_pos c2];congr 1;omega
   ·have:=k3 c2
    rw[if_neg c2,this];rfl
 have hS:lV r l (min (kC r) l.length)=N9 r.kind (keepA r) (jo l) l.length:=by
  rw[←hC]
  unfold N9 D7 lV
  by_cases c:r.kind=1
  ·rw[if_pos c,if_pos c]
   unfold sig
   rw[if_pos c,lH,KO,Int.zero_add]
   unfold jo mF
   by_cases h1:l.length=1
   ·rw[h1];rfl
   ·rw[if_pos (by omega)];rfl
  ·rw[if_neg c,if_neg c]
   unfold sig Xr
   rw[if_neg c];rfl
 rw[hS,hC]
def acP (r:Ru) (l:List At) (x:Int):dU:={ d:=fun f _=>bif Nat.beq f 87 then some (db (iJ r l)) else bif Nat.beq f 88 then some (di x) else none }
theorem zN {r:Ru} {l:List At} (h:iJ r l=true):jK r=true∧l.length≤16∧∀i,0≤(l.getD i at0).h∧(l.getD i at0).h≤100000000:=by
 unfold iJ at h
 simp only[aY,eF,List.all_eq_true] at h
 obtain ⟨h1,h2,h3⟩:=h
 have:=FQ h1
 refine⟨h1,by omega,fun i=>?_⟩
 by_cases hi:i<l.length
 ·have:=h3 i (List.mem_range.2 hi)
  unfold uV at this
  simp only[aY,eF] at this
  exact this.2.2.2
 ·rw[List.getD,List.getElem?_eq_none (by omega)]
  exact⟨Int.le_refl _,by decide⟩
theorem adR (r:Ru) (l:List At) (h:iJ r l=true):aA Tryz.prog G 88 [CY r,rD l] (di (Em r l)):=by
 obtain ⟨h1,h2,h3⟩:=zN h
 obtain ⟨_,k2,k3⟩:=Ij h1
 have hk:I64 r.keep:=by
  by_cases c:r.kind=2
  ·have:=k2 c;exact⟨by omega,by omega⟩
  ·rw[k3 c];exact⟨by decide,by decide⟩
 have:=f88 (G:=G) r l (by omega) hk h3
 rwa [WV h1] at this
 have hb:∀k,0≤lV r l k:=by
  intro k
  induction k with
  | zero=>exact Int.le_refl _
  | succ k ih=>
   have e:lV r l (k+1)=lV r l k+(l.getD (sig r l k) at0).h:=lH _ _
   have:=(h3 (sig r l k)).1
   omega
 exact hb _
theorem f54 (r:Ru) (l:List At):aA Tryz.prog G 54 [CY r,rD l] (.aN [di (mV r l),di (mM r l)]):=by
 refine aA.qQ (aj:=acP r l (Em r l)) (keep:=[]) follows Tryz.func54 rfl Tryz.call54 ?_
 refine aC (fun _ _ _ ZK=>(ZK 87 [(.agg [(di r.kind),(di r.most),(di r.pause),(di r.keep)]),(.slc 3 l.length (ji l))] (db (iJ r l))∧(((!iJ r l)=true)→(((.aN [(di 0),(di 1)]):DV)=(.aN [(di (mV r l)),(di (mM r l))])))∧(((!iJ r l)=false)→(ZK 88 [(.agg [(di r.kind),(di r.most),(di r.pause),(di r.keep)]),(.slc 3 l.length (ji l))] (di (Em r l))∧((.aN [(di (Em r l)),(di 0)]):DV)=(.aN [(di (mV r l)),(di (mM r l))]))))) (by kernel_rfl) ?_
 refine⟨f87 r l,fun c=>?_,fun c=>⟨adR r l (by simpa using c),?_⟩⟩
 ·have c:iJ r l=false:=by simpa using c
  unfold mV mM
  rw[c];rfl
 ·have c:iJ r l=true:=by simpa using c
  unfold mV mM
  rw[c];rfl
def ru (b:Bk) (st ex:ByteArray):List At:=gJ (gI b.es st ex)
def uI (b:Bk) (st ex:ByteArray) (r:Ru):Int:=if aJ aG b=true then mV r (ru b st ex) else 0
def uF (b:Bk) (st ex:ByteArray) (r:Ru):Int:=if aJ aG b=true then mM r (ru b st ex) else 1
theorem Md {es:List En} {st ex:ByteArray} {j:Nat} (h:j<es.length):gI (es.take (j+1)) st ex=gI (es.take j) st ex++(D8 st ex (es.getD j en0)).toList:=by
 unfold gI
 rw[List.take_succ_eq_append_getElem h,List.filterMap_append,List.getD,gy h]
 show _++List.filterMap _ [es[j]]=_++(D8 st ex es[j]).toList
 rw[List.filterMap_cons]
 cases D8 st ex es[j]<;>rfl
theorem Q9 (st ex:ByteArray) (x:En):D8 st ex x=if (decide ((x.gs.length:Int)>0)&&decide (x.k.st=st)&&decide (x.k.ex=ex))=true then some (x.t,(x.gs.getD (x.gs.length-1) dR).h) else none:=by
 unfold D8
 by_cases c:x.k.st=st∧x.k.ex=ex
 ·rw[if_pos c,decide_eq_true c.1,decide_eq_true c.2,Bool.and_true,Bool.and_true]
  rcases List.eq_nil_or_concat x.gs with q|⟨l,a,q⟩
  ·rw[q];rfl
  ·rw[List.concat_eq_append] at q
   rw[q,decide_eq_true (by simp),if_pos rfl]
   simp
 ·rw[if_neg c,if_neg]
  intro h
  simp only[aY,eF] at h
  exact c ⟨h.1.2,h.2⟩
noncomputable def QL (b:Bk) (st ex:ByteArray) (r:Ru) (j:Nat) (f:Nat→DV) (m:Nat):AS:=⟨regs Tryz.f25.ntmps [(1,.d (ds st)),(2,.d (ds ex)),(4,.box 4 0),(7,.box 7 0),(8,vi 0),(9,vi 0),(10,.vec 910 3 0 m),(18,.d (jI b.es)),(19,vi b.es.length),(20,vi j)],[(4,(fQ b).map .d),(7,(Du r).map .d),(910,[.arr Dk 3 f])]⟩
noncomputable def adF (b:Bk) (st ex:ByteArray) (r:Ru):AS:=⟨regs Tryz.f25.ntmps [(1,.d (ds st)),(2,.d (ds ex)),(4,.box 4 0),(7,.box 7 0),(8,vi 0),(9,vi 0),(10,.d (.con (.slice none 0 0))),(18,.d (jI b.es)),(19,vi b.es.length),(20,vi 0)],[(4,(fQ b).map .d),(7,(Du r).map .d)]⟩
def NM (b:Bk) (n e:Int):dU:={ d:=fun f _=>bif Nat.beq f 32 then some (db (aJ aG b)) else bif Nat.beq f 54 then some (.aN [di n,di e]) else none,rows:=fun n=>Nat.beq n 57 }
theorem QS {l:List At} {a:At}:∀i,i<l.length+1→(bif i.blt l.length then ji l i else aW true 3 [di a.n,di a.t,di a.h] (0+(i-l.length)))=ji (l++[a]) i:=by
 intro i hi
 unfold ji
 by_cases c:i<l.length
 ·rw[show i.blt l.length=true from by rw[Nat.blt_eq];exact c,cond_true,List.getD,List.getD,List.getElem?_append_left c]
 ·obtain rfl:i=l.length:=by omega
  rw[show l.length.blt l.length=false from by rw[Bool.eq_false_iff,ne_eq,Nat.blt_eq];omega,cond_false,Nat.sub_self]
  have:(l++[a]).getD l.length at0=a:=by simp
  rw[this]
  rfl
theorem f25 (b:Bk) (st ex:ByteArray) (r:Ru) (h:tY b):aA Tryz.prog G 25 [cu b,ds st,ds ex,CY r] (.aN [di (uI b st ex r),di (uF b st ex r)]):=by
 have hlb:=h.sz.1
 refine aA.dA Tryz.func25 rfl Tryz.call25 ?_
 refine gK (aj:=NM b 0 0) (cuts:=[5]) ?_
 refine aC (fun ZT ZW ZQ ZK=>(ZK 32 [(.agg [(di b.t),(.slc 7 b.es.length (bK b.es))])] (db (aJ aG b))∧(((!aJ aG b)=true)→(((.aN [(di 0),(di 1)]):DV)=(.aN [(di (uI b st ex r)),(di (uF b st ex r))])))∧(((!aJ aG b)=false)→ZW [cd Tryz.f25 [1,1,1,0,1,0],(.blk 0),cd Tryz.f25 [1,1,1,1]] (aB ZT [1]) ZQ))) (by kernel_rfl) ?_
 refine⟨h.f32,fun c=>?_,fun c=>?_⟩
 ·have c:aJ aG b=false:=by simpa using c
  unfold uI uF
  rw[c];rfl
 have c:aJ aG b=true:=by simpa using c
 unfold uI uF
 rw[if_pos c,if_pos c]
 refine aX.weaken (st':=adF b st ex r) ?_ ?_
 ·exact AS.bD (by kernel_rfl)
 refine aX.pre (.nilRow _ 10 910 3 Dk (ji []) (by kernel_rfl) (by kernel_rfl)) ?_
 refine aX.loop (c:=aU (au Tryz.f25) [1,1,1,0,1,0,0]) (by kernel_rfl) (fun j=>QL b st ex r j (ji (gJ (gI (b.es.take j) st ex))) (gJ (gI (b.es.take j) st ex)).length) (fun j=>j≤b.es.length) (fun j=>b.es.length-j) 0 ?_ (Nat.zero_le _) ?_
 ·refine AS.leZ [] [2] (b:=((T0∧T0∧T0∧T0∧T0∧T0∧T0∧T0∧T0∧T0∧True)∧T0∧T0∧((some [(.arr ⟨true,57,false,none⟩ 3 (ji []))]):dS)=(some [(.arr ⟨true,57,false,none⟩ 3 (ji (gJ (gI (List.take 0 b.es) st ex))))])∧True)) (by kernel_rfl) (by kernel_rfl) ?_
  exact⟨⟨rfl,rfl,rfl,rfl,rfl,rfl,rfl,rfl,rfl,rfl,trivial⟩,rfl,rfl,rfl,trivial⟩
 intro j hj
 by_cases h2:j<b.es.length
 ·have ht:=Md (st:=st) (ex:=ex) h2
  have hxe:=Q9 st ex (b.es.getD j en0)
  have hz:=(h.sz.2 j h2).1
  have hL:(gJ (gI (b.es.take j) st ex)).length≤j:=by
   rw[Ci]
   have:=List.length_filterMap_le (D8 st ex) (b.es.take j)
   unfold gI
   rw[List.length_take] at this
   omega
  have hsn:∀p,gJ (gI (b.es.take j) st ex++[p])=gJ (gI (b.es.take j) st ex)++[⟨(gJ (gI (b.es.take j) st ex)).length+1,p.1,p.2⟩]:=fun p=>by rw[LH,Ci]
  generalize Vy:gJ (gI (b.es.take j) st ex)=L at hL hsn⊢
  refine dZ (aj:=NM b 0 0) ?_
  refine aV (fun ZT ZW ZQ _ ZA _=>(fun Za=>((((decide ((↑j:Int)<↑b.es.length))=true)→(((0≤(↑j:Int))∧((↑j:Int)<↑b.es.length))∧(((decide ((↑Za.gs.length:Int)>0)&&Za.k.st.toList==st.toList&&Za.k.ex.toList==ex.toList)=true)→(((I64 (↑L.length+1))∧(I64 (↑Za.gs.length-1))∧((0≤(↑Za.gs.length:Int)-1)∧((↑Za.gs.length:Int)-1<↑Za.gs.length))∧((L.length+1)*24≤1099511627776)∧(L.length+1≤1099511627776))∧(I64 (↑j+1))∧(ZA (aB ZT [0,0]))))∧(((decide ((↑Za.gs.length:Int)>0)&&Za.k.st.toList==st.toList&&Za.k.ex.toList==ex.toList)=false)→((I64 (↑j+1))∧(ZA (aB ZT [0,1]))))))∧(((decide ((↑j:Int)<↑b.es.length))=false)→ZW [cd Tryz.f25 [1,1,1,1]] (aB ZT [1]) ZQ))) (b.es.getD (↑j:Int).toNat en0)) (by kernel_rfl) ?_
  try dsimp only
  rw[show ((j:Int)).toNat=j from rfl,dJ,dJ]
  generalize hx:b.es.getD j en0=x at hxe hz ht⊢
  refine⟨fun _=>⟨⟨by omega,by omega⟩,fun c=>?_,fun c=>⟨⟨by omega,by omega⟩,?_⟩⟩,fun hd=>absurd (of_decide_eq_false hd) (by omega)⟩
  ·have hpos:0<x.gs.length:=by
    simp only[aY,eF] at c
    omega
   rw[if_pos c] at hxe
   rw[hxe] at ht
   refine⟨⟨⟨by omega,by omega⟩,⟨by omega,by omega⟩,⟨by omega,by omega⟩,by omega,by omega⟩,⟨by omega,by omega⟩,j+1,?_,h2,show b.es.length-(j+1)<b.es.length-j from by omega⟩
   show AS.cO _ (QL b st ex r (j+1) (ji (gJ (gI (b.es.take (j+1)) st ex))) (gJ (gI (b.es.take (j+1)) st ex)).length)
   rw[ht]
   show AS.cO _ (QL b st ex r (j+1) (ji (gJ (gI (b.es.take j) st ex++[(x.t,(x.gs.getD (x.gs.length-1) dR).h)]))) (gJ (gI (b.es.take j) st ex++[(x.t,(x.gs.getD (x.gs.length-1) dR).h)])).length)
   rw[hsn]
   refine(AS.cO.moves [(58,910)] _ rfl).trans ((AS.cO.of_le (st':=QL b st ex r (j+1) (fun i=>bif i.blt L.length then ji L i else aW true 3 [di ((L.length:Int)+1),di x.t,di (x.gs.getD (x.gs.length-1) dR).h] (0+(i-L.length))) (L.length+1)) ?_).trans ((AS.cO.l9 _ 10 910 (L.length+1) (ji (L++[⟨(L.length:Int)+1,x.t,(x.gs.getD (x.gs.length-1) dR).h⟩])) rfl rfl rfl (by kernel_rfl) fun i hi=>QS i hi).trans (.of_le ?_)))
   ·refine AS.leZ [] [2] (b:=((T0∧T0∧T0∧T0∧T0∧T0∧T0∧T0∧T0∧T0∧True)∧T0∧T0∧((some [(.arr ⟨true,57,false,none⟩ 3 (fun i=>bif i.blt L.length then ji L i else aW true 3 [di ((↑L.length:Int)+1),DV.con (Value.int IntKind.i64 (b.es.getD ((↑j:Int):Int).toNat en0).t),DV.con (Value.int IntKind.i64 ((b.es.getD ((↑j:Int):Int).toNat en0).gs.getD ((↑(b.es.getD (↑j:Int).toNat en0).gs.length:Int)-1).toNat dR).h)] (0+(i-L.length))))]):dS)=(some [(.arr ⟨true,57,false,none⟩ 3 (fun i=>bif i.blt L.length then ji L i else aW true 3 [di (↑L.length+1),di x.t,DV.con (Value.int IntKind.i64 (x.gs.getD (x.gs.length-1) dR).h)] (0+(i-L.length))))])∧True)) (by kernel_rfl) (by kernel_rfl) ?_
    rw[show ((j:Int)).toNat=j from rfl,hx,show ((x.gs.length:Int)-1).toNat=x.gs.length-1 by omega]
    exact⟨⟨rfl,rfl,rfl,rfl,rfl,rfl,rfl,rfl,rfl,rfl,trivial⟩,rfl,rfl,rfl,trivial⟩
   ·refine AS.leZ [6] [] (b:=((T0∧T0∧T0∧T0∧T0∧T0∧((.vec 910 3 0 (L.length+1)):AV)=(.vec 910 3 0 (L++[At.mk (↑L.length+1) x.t (x.gs.getD (x.gs.length-1) dR).h]).length)∧T0∧T0∧T0∧True)∧T0∧T0∧T0∧True)) (by kernel_rfl) (by kernel_rfl) ?_
    exact⟨⟨rfl,rfl,rfl,rfl,rfl,rfl,by rw[List.length_append];rfl,rfl,rfl,rfl,trivial⟩,rfl,rfl,rfl,trivial⟩
  ·rw[if_neg (by rw[c];decide)] at hxe
   rw[hxe] at ht
   refine⟨j+1,?_,h2,show b.es.length-(j+1)<b.es.length-j from by omega⟩
   show AS.cO _ (QL b st ex r (j+1) (ji (gJ (gI (b.es.take (j+1)) st ex))) (gJ (gI (b.es.take (j+1)) st ex)).length)
   rw[ht]
   show AS.cO _ (QL b st ex r (j+1) (ji (gJ (gI (b.es.take j) st ex++[]))) (gJ (gI (b.es.take j) st ex++[])).length)
   rw[List.append_nil,Vy]
   refine .of_le ?_
   exact AS.bD (by kernel_rfl)
 ·obtain rfl:j=b.es.length:=by omega
  rw[List.take_length]
  refine gK (aj:=NM b 0 0) (cuts:=[6]) ?_
  refine aV (fun ZT ZW ZQ _ _ ZR=>((((decide ((↑b.es.length:Int)<↑b.es.length))=true)→ZW [cd Tryz.f25 [1,1,1,0,1,0,0,1,1,0,0],(.blk 1),cd Tryz.f25 [1,1,1,0,1,0,0,1,1,1]] (aB ZT [0]) ZR)∧(((decide ((↑b.es.length:Int)<↑b.es.length))=false)→ZW [cd Tryz.f25 [1,1,1,1]] (aB ZT [1]) ZQ))) (by kernel_rfl) ?_
  refine⟨fun hd=>absurd (dn hd) (by omega),fun _=>?_⟩
  refine dZ (aj:=NM b (mV r (ru b st ex)) (mM r (ru b st ex))) ?_
  refine aC (fun _ _ _ ZK=>(ZK 54 [(.agg [(di r.kind),(di r.most),(di r.pause),(di r.keep)]),(.slc 3 (gJ (gI b.es st ex)).length (fun i=>ji (gJ (gI b.es st ex)) (0+i)))] (.aN [(di (mV r (ru b st ex))),(di (mM r (ru b st ex)))])∧(ZS ((.aN [(di (mV r (ru b st ex))),(di (mM r (ru b st ex)))]):DV)))) (by kernel_rfl) ?_
  refine⟨aA.args (f54 r (ru b st ex)) fun _ us hh=>DV.gU (fun _ h=>h) (DV.gU (fun _ hv=>DV.fE (fun i hi=>by rw[Nat.zero_add];rfl) hv) (fun _ h=>h)) us hh,rfl⟩
theorem f89 (t:Int):aA Tryz.prog G 89 [di t] (db (iY t)):=by
 refine aA.walk (aj:=bG) (keep:=[]) follows Tryz.func89 rfl Tryz.call89 ?_
 refine aC (fun _ _ _ _=>(((db (decide (t≥0)&&decide (t≤1099511627776))):DV)=(db (iY t)))) (by kernel_rfl) ?_
 rfl
noncomputable def S55 (r:Ru) (l:List At) (k:Nat):AS:=⟨regs Tryz.f55.ntmps [(1,.d (rD l)),(2,.box 2 0),(4,vb false),(5,vi k)],[(2,(Du r).map .d)]⟩
theorem WR (r:Ru) (n:Int):(decide (r.kind<0)||decide (r.kind>2)||decide (r.most<1)||decide (r.most>16)||!iY r.pause||decide (n>r.most)) = !(decide (0≤r.kind)&&(decide (r.kind≤2)&&(decide (1≤r.most)&&(decide (r.most≤16)&&(iY r.pause&&decide (n≤r.most)))))):=by
 rw[oM (p:=r.kind<0) (q:=0≤r.kind) (by omega),oM (p:=r.kind>2) (q:=r.kind≤2) (by omega),oM (p:=r.most<1) (q:=1≤r.most) (by omega),oM (p:=r.most>16) (q:=r.most≤16) (by omega),oM (p:=n>r.most) (q:=n≤r.most) (by omega)]
 simp only[Bool.not_and,Bool.or_assoc]
theorem XD (l:List At) (k:Nat):uV l k = !((l.getD k at0).n != (k:Int)+1||!iY (l.getD k at0).t||decide ((k:Int)>0)&&decide ((l.getD ((k:Int)-1).toNat at0).t>(l.getD k at0).t)||decide ((l.getD k at0).h<0)||decide ((l.getD k at0).h>100000000)):=by
 rw[show ((k:Int)-1).toNat=k-1 by omega]
 unfold uV
 rw[Bool.eq_iff_iff]
 simp only[Bool.not_eq_true',Bool.or_eq_false_iff,bne_eq_false_iff_eq,decide_eq_false_iff_not,Bool.not_eq_false',aY,eF,Bool.and_eq_false_iff]
 constructor
 ·rintro ⟨h1,h2,h3,h4,h5⟩
  refine⟨⟨⟨⟨h1,h3⟩,?_⟩,by omega⟩,by omega⟩
  rcases h2 with h2|h2
  ·left;omega
  ·right;omega
 ·rintro ⟨⟨⟨⟨h1,h3⟩,h2⟩,h4⟩,h5⟩
  refine⟨h1,?_,h3,by omega,by omega⟩
  rcases h2 with h2|h2
  ·left;omega
  ·right;omega
theorem f55 (r:Ru) (l:List At):aA Tryz.prog G 55 [CY r,rD l] (db (iJ r l)):=by
 refine aA.qQ (aj:={ d:=Ns }) (keep:=[]) follows Tryz.func55 rfl Tryz.call55 ?_
 refine aC (fun ZT ZW ZQ ZK=>(fun Za Zb=>((((!(decide (r.kind<0)||decide (r.kind>2)||decide (r.most<1)||decide (r.most>16)))=true)→ZK 89 [(di r.pause)] (db (iY r.pause)))∧((Za=true)→(((db false):DV)=(db (iJ r l))))∧((Za=false)→(((Zb=true)→(((db false):DV)=(db (iJ r l))))∧((Zb=false)→ZW [cd Tryz.f55 [1,1,1,0,1,0],(.blk 0),cd Tryz.f55 [1,1,1,1]] (aB ZT [1,1]) ZQ))))) (decide (r.kind<0)||decide (r.kind>2)||decide (r.most<1)||decide (r.most>16)||!iY r.pause||decide (↑l.length>r.most)) (r.kind==2&&(decide (r.keep<1)||decide (r.keep>r.most))||r.kind != 2&&r.keep != 0)) (by kernel_rfl) ?_
 try dsimp only
 rw[WR]
 have eR:(decide (0≤r.kind)&&(decide (r.kind≤2)&&(decide (1≤r.most)&&(decide (r.most≤16)&&(iY r.pause&&decide ((l.length:Int)≤r.most))))))=false∨(r.kind==2&&(decide (r.keep<1)||decide (r.keep>r.most))||r.kind != 2&&r.keep != 0)=true→iJ r l=false:=by
  intro q
  rw[Bool.eq_false_iff]
  intro h
  unfold iJ jK at h
  simp only[aY,eF] at h
  obtain ⟨⟨h1,h2,h3,h4,h5,h6⟩,h7,_⟩:=h
  rcases q with q|q
  ·simp[h1,h2,h3,h4,h5,h7] at q
  ·by_cases c:r.kind=2
   ·rw[if_pos c] at h6
    simp only[aY,eF] at h6
    simp[c] at q
    omega
   ·rw[if_neg c] at h6
    have h6:r.keep=0:=by simpa using h6
    simp[c,h6] at q
 refine⟨fun _=>f89 _,fun c=>?_,fun c=>⟨fun c2=>?_,fun c2=>?_⟩⟩
 ·rw[Bool.not_eq_true'] at c
  rw[eR (.inl c)]
 ·rw[eR (.inr c2)]
 rw[Bool.not_eq_false'] at c
 have hr:jK r=true∧(l.length:Int)≤r.most:=by
  simp only[aY,eF] at c
  obtain ⟨h1,h2,h3,h4,h5,h7⟩:=c
  refine⟨?_,h7⟩
  unfold jK
  simp only[aY,eF]
  refine⟨h1,h2,h3,h4,h5,?_⟩
  by_cases k:r.kind=2
  ·rw[if_pos k]
   simp[k] at c2
   simp only[aY,eF]
   omega
  ·rw[if_neg k]
   simp[k] at c2
   simpa using c2
 obtain ⟨hr,hl⟩:=hr
 have hm:=FQ hr
 rw[IK hr hl]
 refine aX.loop (c:=aU (au Tryz.f55) [1,1,1,0,1,0,0]) (by kernel_rfl) (S55 r l) (fun k=>k≤l.length∧∀i,i<k→uV l i=true) (fun k=>l.length-k) 0 ?_ ⟨Nat.zero_le _,fun i hi=>absurd hi (Nat.not_lt_zero _)⟩ ?_
 ·exact AS.bD (by kernel_rfl)
 rintro k ⟨hk,hs⟩
 by_cases hk2:k<l.length
 ·refine dZ (aj:={ d:=Ns }) ?_
  refine aV (fun ZT ZW ZQ ZK ZA _=>(fun Za Zb=>((((decide ((↑k:Int)<↑l.length))=true)→(((0≤(↑k:Int))∧((↑k:Int)<↑l.length))∧((I64 (↑k+1))∧(((!(l.getD (↑k:Int).toNat at0).n != ↑k+1)=true)→ZK 89 [(di (l.getD (↑k:Int).toNat at0).t)] (db (iY (l.getD (↑k:Int).toNat at0).t)))∧((Zb=true)→(I64 (↑k-1)))∧((Zb=true)→((0≤(↑k:Int)-1)∧((↑k:Int)-1<↑l.length))))∧((Za=true)→(((db false):DV)=(db ((List.range l.length).all (uV l)))))∧((Za=false)→((I64 (↑k+1))∧(ZA (aB ZT [0,1]))))))∧(((decide ((↑k:Int)<↑l.length))=false)→ZW [cd Tryz.f55 [1,1,1,1]] (aB ZT [1]) ZQ))) ((l.getD ((↑k:Int):Int).toNat at0).n != (↑k:Int)+1||!iY (l.getD ((↑k:Int):Int).toNat at0).t||decide ((↑k:Int)>0)&&decide ((l.getD ((↑k:Int)-1).toNat at0).t>(l.getD (↑k:Int).toNat at0).t)||decide ((l.getD (↑k:Int).toNat at0).h<0)||decide ((l.getD (↑k:Int).toNat at0).h>100000000)) (!((l.getD ((↑k:Int):Int).toNat at0).n != (↑k:Int)+1||!iY (l.getD ((↑k:Int):Int).toNat at0).t)&&decide ((↑k:Int)>0))) (by kernel_rfl) ?_
  try dsimp only
  rw[show ((k:Int)).toNat=k from rfl]
  have hq:=XD l k
  refine⟨fun _=>⟨⟨by omega,by omega⟩,⟨⟨by omega,by omega⟩,fun _=>f89 _,fun c=>⟨by omega,by omega⟩,fun c=>?_⟩,fun c=>?_,fun c=>⟨⟨by omega,by omega⟩,Again.mk (k+1) ?_ ⟨hk2,fun i hi=>?_⟩ (by show l.length-(k+1)<l.length-k;omega)⟩⟩,fun hd=>absurd (of_decide_eq_false hd) (by omega)⟩
  ·rw[aY] at c
   have:=dn c.2
   exact⟨by omega,by omega⟩
  ·rw[c] at hq
   rw[List.all_eq_false.2 ⟨k,List.mem_range.2 hk2,by rw[hq];decide⟩]
  ·exact AS.bD (by kernel_rfl)
  ·by_cases h:i=k
   ·subst h;rw[hq,c];rfl
   ·exact hs i (by omega)
 ·obtain rfl:k=l.length:=by omega
  refine gK (aj:={ d:=bG }) (cuts:=[8]) ?_
  refine aV (fun ZT ZW ZQ _ _ ZR=>((((decide ((↑l.length:Int)<↑l.length))=true)→ZW [cd Tryz.f55 [1,1,1,0,1,0,0,1,0,0],(.blk 1),cd Tryz.f55 [1,1,1,0,1,0,0,1,1]] (aB ZT [0]) ZR)∧(((decide ((↑l.length:Int)<↑l.length))=false)→ZW [cd Tryz.f55 [1,1,1,1]] (aB ZT [1]) ZQ))) (by kernel_rfl) ?_
  refine⟨fun hd=>absurd (dn hd) (by omega),fun _=>?_⟩
  refine dZ (aj:={ d:=bG }) ?_
  refine aC (fun _ _ _ _=>(((db true):DV)=(db ((List.range l.length).all (uV l))))) (by kernel_rfl) ?_
  rw[List.all_eq_true.2 fun i hi=>hs i (List.mem_range.1 hi)]
def yF (v:Nat→Int) (i k:Nat):Nat:=((List.range k).filter fun k=>decide (v i<v k)||(decide (v k=v i)&&decide (k<i))).length
theorem UZ (v:Nat→Int) (i k:Nat):yF v i (k+1)=yF v i k+(if (decide (v i<v k)||(decide (v k=v i)&&decide (k<i)))=true then 1 else 0):=by
 unfold yF
 rw[List.range_succ,List.filter_append,List.length_append]
 congr 1
 rw[List.filter_cons]
 split<;>rfl
noncomputable def S90 (l:List At) (i k:Nat):AS:=⟨regs Tryz.f90.ntmps [(0,.d (rD l)),(1,vi i),(4,vi 0),(5,vi (yF (jo l) i k)),(6,vi k)],[]⟩
theorem f90 (l:List At) (i:Nat) (hi:i<l.length) (hl:l.length≤16):aA Tryz.prog G 90 [rD l,di i] (di (better (jo l) l.length i)):=by
 refine aA.qQ (aj:={ d:=bG }) (keep:=[]) follows Tryz.func90 rfl Tryz.call90 ?_
 refine aC (fun ZT ZW ZQ _=>ZW [cd Tryz.f90 [1,1,0,1,0],(.blk 0),cd Tryz.f90 [1,1,1]] (aB ZT []) ZQ) (by kernel_rfl) ?_
 refine aX.loop (c:=aU (au Tryz.f90) [1,1,0,1,0,0]) (by kernel_rfl) (S90 l i) (fun k=>k≤l.length∧yF (jo l) i k≤k) (fun k=>l.length-k) 0 ?_ ⟨Nat.zero_le _,Nat.le_refl _⟩ ?_
 ·exact AS.bD (by kernel_rfl)
 rintro k ⟨hk,hb⟩
 have hs:=UZ (jo l) i k
 by_cases hk2:k<l.length
 ·refine dZ (aj:={ d:=Ns }) ?_
  refine aV (fun ZT ZW ZQ _ ZA _=>(fun Za Zb=>((((decide ((↑k:Int)<↑l.length))=true)→((((0≤(↑k:Int))∧((↑k:Int)<↑l.length))∧((0≤(↑i:Int))∧((↑i:Int)<↑l.length))∧((Zb=true)→((0≤(↑k:Int))∧((↑k:Int)<↑l.length)))∧((Zb=true)→((0≤(↑i:Int))∧((↑i:Int)<↑l.length))))∧((Za=true)→((I64 (↑(yF (jo l) i k)+1))∧(I64 (↑k+1))∧(ZA (aB ZT [0,0]))))∧((Za=false)→((I64 (↑k+1))∧(ZA (aB ZT [0,1]))))))∧(((decide ((↑k:Int)<↑l.length))=false)→ZW [cd Tryz.f90 [1,1,1]] (aB ZT [1]) ZQ))) (decide ((l.getD ((↑k:Int):Int).toNat at0).h>(l.getD ((↑i:Int):Int).toNat at0).h)||(l.getD ((↑k:Int):Int).toNat at0).h==(l.getD ((↑i:Int):Int).toNat at0).h&&decide ((↑k:Int)<↑i)) (!decide ((l.getD (↑k:Int).toNat at0).h>(l.getD (↑i:Int).toNat at0).h))) (by kernel_rfl) ?_
  try dsimp only
  rw[show ((k:Int)).toNat=k from rfl,show ((i:Int)).toNat=i from rfl]
  have e:(decide ((l.getD k at0).h>(l.getD i at0).h)||(l.getD k at0).h==(l.getD i at0).h&&decide ((k:Int)<(i:Int)))=(decide (jo l i<jo l k)||(decide (jo l k=jo l i)&&decide (k<i))):=by
   rw[Sv]
   congr 2
   exact decide_eq_decide.2 (by omega)
  rw[e]
  refine⟨fun _=>⟨⟨⟨by omega,by omega⟩,⟨by omega,by omega⟩,fun _=>⟨by omega,by omega⟩,fun _=>⟨by omega,by omega⟩⟩,fun c=>⟨⟨by omega,by omega⟩,⟨by omega,by omega⟩,Again.mk (k+1) ?_ ⟨hk2,?_⟩ (by show l.length-(k+1)<l.length-k;omega)⟩,fun c=>⟨⟨by omega,by omega⟩,Again.mk (k+1) ?_ ⟨hk2,?_⟩ (by show l.length-(k+1)<l.length-k;omega)⟩⟩,fun hd=>absurd (of_decide_eq_false hd) (by omega)⟩
  ·rw[c,if_pos rfl] at hs
   refine AS.leZ [3] [] (b:=((T0∧T0∧T0∧((vi (↑(yF (jo l) i k)+1)):AV)=(vi (↑(yF (jo l) i (k+1))))∧T0∧True)∧True)) (by kernel_rfl) (by kernel_rfl) ?_
   rw[hs]
   exact⟨⟨rfl,rfl,rfl,rfl,rfl,trivial⟩,trivial⟩
  ·rw[hs];split<;>omega
  ·rw[c,if_neg (by decide)] at hs
   refine AS.leZ [3] [] (b:=((T0∧T0∧T0∧((vi (↑(yF (jo l) i k))):AV)=(vi (↑(yF (jo l) i (k+1))))∧T0∧True)∧True)) (by kernel_rfl) (by kernel_rfl) ?_
   rw[hs]
   exact⟨⟨rfl,rfl,rfl,rfl,rfl,trivial⟩,trivial⟩
  ·rw[hs];split<;>omega
 ·obtain rfl:k=l.length:=by omega
  refine gK (aj:={ d:=bG }) (cuts:=[5]) ?_
  refine aV (fun ZT ZW ZQ _ _ ZR=>((((decide ((↑l.length:Int)<↑l.length))=true)→ZW [cd Tryz.f90 [1,1,0,1,0,0,1,0,0],(.blk 1),cd Tryz.f90 [1,1,0,1,0,0,1,1]] (aB ZT [0]) ZR)∧(((decide ((↑l.length:Int)<↑l.length))=false)→ZW [cd Tryz.f90 [1,1,1]] (aB ZT [1]) ZQ))) (by kernel_rfl) ?_
  refine⟨fun hd=>absurd (dn hd) (by omega),fun _=>?_⟩
  refine dZ (aj:={ d:=bG }) ?_
  refine aC (fun _ _ _ _=>(((di (↑(yF (jo l) i l.length))):DV)=(di ↑(better (jo l) l.length i)))) (by kernel_rfl) ?_
  rfl
def wQ (r:Ru) (l:List At) (i:Nat):Bool:=(r.kind==0&&((better (jo l) l.length i:Nat):Int)==0)||(r.kind==1&&(i:Int)==(l.length:Int)-1)||(r.kind==2&&decide (((better (jo l) l.length i:Nat):Int)<r.keep))
def jX (r:Ru) (l:List At) (k:Nat):List Nat:=(List.range k).filter (wQ r l)
theorem EF (r:Ru) (l:List At) (k:Nat):jX r l (k+1)=jX r l k++(if wQ r l k=true then [k] else []):=by
 unfold jX
 rw[List.range_succ,List.filter_append,List.filter_cons]
 split<;>rfl
abbrev Zu:RK:=⟨false,3,false,none⟩
def zh (c:List Nat) (i:Nat):DV:=di ((c.getD i 0:Nat)+1)
abbrev XR (c:List Nat):DV:=.slc 1 c.length (zh c)
def aa9 (ok:Bool) (l:List At):iR:=fun f a=>match f,a with
 | 55,_=>some (db ok)
 | 90,[_,.con (.int _ i)]=>some (di (better (jo l) l.length i.toNat))
 | _,_=>none
def X0 (ok:Bool) (l:List At):dU:={ d:=aa9 ok l,rows:=fun n=>Nat.beq n 8||Nat.beq n 58 }
noncomputable def S56 (r:Ru) (l:List At) (k:Nat) (c:List Nat):AS:=⟨regs Tryz.f56.ntmps [(1,.d (rD l)),(2,.box 2 0),(5,.vec 8 1 0 c.length),(6,vi k)],[(2,(Du r).map .d),(8,[.arr Zu 1 (zh c)])]⟩
noncomputable def adb (r:Ru) (l:List At) (k:Nat) (f:Nat→DV) (m:Nat):AS:=⟨regs Tryz.f56.ntmps [(1,.d (rD l)),(2,.box 2 0),(5,.vec 8 1 0 m),(6,vi k)],[(2,(Du r).map .d),(8,[.arr Zu 1 f])]⟩
theorem YC {cs:List Nat} {k:Nat}:∀i,i<cs.length+1→(bif i.blt cs.length then zh cs i else aW false 1 [di ((k:Int)+1)] (0+(i-cs.length)))=zh (cs++[k]) i:=by
 intro i hi
 unfold zh
 by_cases c:i<cs.length
 ·rw[show i.blt cs.length=true from by rw[Nat.blt_eq];exact c,cond_true,List.getD,List.getD,List.getElem?_append_left c]
 ·obtain rfl:i=cs.length:=by omega
  rw[show cs.length.blt cs.length=false from by rw[Bool.eq_false_iff,ne_eq,Nat.blt_eq];omega,cond_false,Nat.sub_self]
  simp[aW]
noncomputable def adk (r:Ru) (l:List At):AS:=⟨regs Tryz.f56.ntmps [(1,.d (rD l)),(2,.box 2 0),(5,.vec 8 1 0 0),(6,vi 0)],[(2,(Du r).map .d),(8,[.arr Zu 1 (fun _=>.con undef)])]⟩
theorem f56 (r:Ru) (l:List At) (hv:iJ r l=true):aA Tryz.prog G 56 [CY r,rD l] (XR (jX r l l.length)):=by
 have Xd:=(zN hv).2.1
 refine aA.dA Tryz.func56 rfl Tryz.call56 ?_
 refine gK (aj:=X0 true l) (cuts:=[3]) ?_
 have GH:=f55 (G:=G) r l
 rw[hv] at GH
 refine aC (fun ZT ZW ZQ ZK=>(ZK 55 [(.agg [(di r.kind),(di r.most),(di r.pause),(di r.keep)]),(.slc 3 l.length (ji l))] (db true)∧((false=true)→ZW [cd Tryz.f56 [1,1,0,1,0],cd Tryz.f56 [1,1,1]] (aB ZT [0]) ZQ)∧((false=false)→ZW [cd Tryz.f56 [1,1,1,0,1,0],(.blk 0),cd Tryz.f56 [1,1,1,1]] (aB ZT [1]) ZQ))) (by kernel_rfl) ?_
 refine⟨GH,fun c=>(by cases c),fun _=>?_⟩
 refine aX.weaken (st':=adk r l) ?_ ?_
 ·exact AS.bD (by kernel_rfl)
 refine aX.pre (.l9 _ 5 8 0 (zh []) rfl rfl rfl (by kernel_rfl) (fun i hi=>absurd hi (Nat.not_lt_zero i))) ?_
 refine aX.loop (c:=aU (au Tryz.f56) [1,1,1,0,1,0,0]) (by kernel_rfl) (fun k=>S56 r l k (jX r l k)) (fun k=>k≤l.length) (fun k=>l.length-k) 0 ?_ (Nat.zero_le _) ?_
 ·refine AS.leZ [] [1] (b:=((T0∧T0∧T0∧T0∧True)∧T0∧((some [(.arr ⟨false,3,false,none⟩ 1 (zh []))]):dS)=(some [(.arr ⟨false,3,false,none⟩ 1 (zh (jX r l 0)))])∧True)) (by kernel_rfl) (by kernel_rfl) ?_
  exact⟨⟨rfl,rfl,rfl,rfl,trivial⟩,rfl,rfl,trivial⟩
 intro k hk
 have hs:=EF r l k
 generalize hc0:jX r l k=cs at hs⊢
 by_cases hk2:k<l.length
 ·refine dZ (aj:=X0 true l) ?_
  refine aV (fun ZT ZW ZQ ZK ZA _=>(fun (Za:Nat)=>((((decide ((↑k:Int)<↑l.length))=true)→(((((r.kind==0)=true)→ZK 90 [(.slc 3 l.length (ji l)),(di (↑k))] (di (↑Za)))∧(((!(r.kind==0&&(↑Za:Int)==0)&&r.kind==1)=true)→(I64 (↑l.length-1)))∧(((!(r.kind==0&&(↑Za:Int)==0||r.kind==1&&(↑k:Int)==↑l.length-1)&&r.kind==2)=true)→ZK 90 [(.slc 3 l.length (ji l)),(di (↑k))] (di (↑Za))))∧(((r.kind==0&&(↑Za:Int)==0||r.kind==1&&(↑k:Int)==↑l.length-1||r.kind==2&&decide (↑Za<r.keep))=true)→(((I64 (↑k+1))∧((cs.length+1)*8≤1099511627776)∧(cs.length+1≤1099511627776))∧(I64 (↑k+1))∧(ZA (aB ZT [0,0]))))∧(((r.kind==0&&(↑Za:Int)==0||r.kind==1&&(↑k:Int)==↑l.length-1||r.kind==2&&decide (↑Za<r.keep))=false)→((I64 (↑k+1))∧(ZA (aB ZT [0,1]))))))∧(((decide ((↑k:Int)<↑l.length))=false)→ZW [cd Tryz.f56 [1,1,1,1]] (aB ZT [1]) ZQ))) (better (jo l) l.length (↑k:Int).toNat)) (by kernel_rfl) ?_
  try dsimp only
  rw[show ((k:Int)).toNat=k from rfl]
  have hcl:cs.length≤k:=by
   rw[←hc0]
   have:=List.length_filter_le (wQ r l) (List.range k)
   simpa [jX] using this
  have h90:=f90 (G:=G) l k hk2 Xd
  refine⟨fun _=>⟨⟨fun _=>h90,fun _=>⟨by omega,by omega⟩,fun _=>h90⟩,fun c=>⟨⟨⟨by omega,by omega⟩,by omega,by omega⟩,⟨by omega,by omega⟩,⟨k+1,?_,hk2,show l.length-(k+1)<l.length-k from by omega⟩⟩,fun c=>⟨⟨by omega,by omega⟩,Again.mk (k+1) ?_ hk2 (by omega)⟩⟩,fun hd=>absurd (of_decide_eq_false hd) (by omega)⟩
  ·have c:wQ r l k=true:=c
   rw[c,if_pos rfl] at hs
   show AS.cO _ (S56 r l (k+1) (jX r l (k+1)))
   rw[hs]
   refine(AS.cO.moves [(59,8)] _ rfl).trans ((AS.cO.of_le (st':=adb r l (k+1) (fun i=>bif i.blt cs.length then zh cs i else aW false 1 [di ((k:Int)+1)] (0+(i-cs.length))) (cs.length+1)) ?_).trans ((AS.cO.l9 _ 5 8 (cs.length+1) (zh (cs++[k])) rfl rfl rfl (by kernel_rfl) fun i hi=>YC i hi).trans (.of_le ?_)))
   ·exact AS.bD (by kernel_rfl)
   ·refine AS.leZ [2] [] (b:=((T0∧T0∧((.vec 8 1 0 (cs.length+1)):AV)=(.vec 8 1 0 (cs++[k]).length)∧T0∧True)∧T0∧T0∧True)) (by kernel_rfl) (by kernel_rfl) ?_
    exact⟨⟨rfl,rfl,by rw[List.length_append];rfl,rfl,trivial⟩,rfl,rfl,trivial⟩
  ·have c:wQ r l k=false:=c
   rw[c,if_neg (by decide),List.append_nil] at hs
   refine AS.leZ [2] [1] (b:=((T0∧T0∧((.vec 8 1 0 cs.length):AV)=(.vec 8 1 0 (jX r l (k+1)).length)∧T0∧True)∧T0∧((some [(.arr ⟨false,3,false,none⟩ 1 (zh cs))]):dS)=(some [(.arr ⟨false,3,false,none⟩ 1 (zh (jX r l (k+1))))])∧True)) (by kernel_rfl) (by kernel_rfl) ?_
   rw[hs]
   exact⟨⟨rfl,rfl,rfl,rfl,trivial⟩,rfl,rfl,trivial⟩
 ·obtain rfl:k=l.length:=by omega
  rw[←hc0] at *
  refine gK (aj:={ d:=bG }) (cuts:=[7]) ?_
  refine aV (fun ZT ZW ZQ _ _ ZR=>((((decide ((↑l.length:Int)<↑l.length))=true)→ZW [cd Tryz.f56 [1,1,1,0,1,0,0,1,0,0],(.blk 1),cd Tryz.f56 [1,1,1,0,1,0,0,1,1]] (aB ZT [0]) ZR)∧(((decide ((↑l.length:Int)<↑l.length))=false)→ZW [cd Tryz.f56 [1,1,1,1]] (aB ZT [1]) ZQ))) (by kernel_rfl) ?_
  refine⟨fun hd=>absurd (dn hd) (by omega),fun _=>?_⟩
  refine dZ (aj:={ d:=bG }) ?_
  refine aC (fun _ _ _ _=>(((.slc 1 (jX r l l.length).length (fun i=>zh (jX r l l.length) (0+i))):DV)=(XR (jX r l l.length)))) (by kernel_rfl) ?_
  exact congrArg (DV.slc 1 _) (funext fun i=>by rw[Nat.zero_add])
end Go.Proofs
