import Derived.Test.YtflgdeobcgmgnaaGreatDoorAcD
import Derived.Test.YtflgdeobcgmgnaaGreatDoorG6
import Derived.Test.YtflgdeobcgmgnaaGreatDoorG5
import Derived.Test.YtflgdeobcgmgnaaGreatDoorG2
import Derived.Test.YtflgdeobcgmgnaaGreatDoorG0
import Derived.Lib.AtoiAllCases
import Derived.Shelf.LaysC
import Derived.Shelf.Strconv.AtoiAll
import Derived.Shelf.Strings.Search2
import Derived.Test.YtflgdeobcgmgnaaGreatDoorProg
import Derived.WalkKit
import Derived.Test.YtflgdeobcgmgnaaGreatDoorAcE
set_option autoImplicit false
set_option maxHeartbeats 4000000
set_option maxRecDepth 100000
namespace Go.Proofs
open Go Go.Ab Go.RowKit
variable {G:IH}
theorem Rf (r:Ru) (l:List At) (v:Nat→Int):∀k,sm (fun i=>v ((jX r l k).getD i 0)) (jX r l k).length=sm (fun i=>if wQ r l i=true then v i else 0) k
 | 0=>rfl
 | k+1=>by
  rw[lH,←Rf r l v k,EF]
  by_cases c:wQ r l k=true
  ·rw[if_pos c,if_pos c,List.length_append,List.length_singleton,lH]
   congr 1
   ·refine uK fun i hi=>?_
    rw[List.getD,List.getD,List.getElem?_append_left hi]
   ·simp
  ·rw[if_neg c,if_neg c,List.append_nil];omega
theorem QD (r:Ru) (l:List At):∀k,((jX r l k).length:Int)=sm (fun i=>if wQ r l i=true then 1 else 0) k
 | 0=>rfl
 | k+1=>by
  rw[lH,←QD r l k,EF]
  by_cases c:wQ r l k=true
  ·rw[if_pos c,if_pos c,List.length_append];rfl
  ·rw[if_neg c,if_neg c,List.append_nil];omega
theorem Vj (v:Nat→Int) {n i:Nat} (h:i<n):better v n i<n:=by
 have:((List.range n).filter fun k=>decide (v i<v k)||(decide (v k=v i)&&decide (k<i))).length<(List.range n).length:=
  List.length_filter_lt_length_iff_exists.2 ⟨i,List.mem_range.2 h,by simp⟩
 rw[List.length_range] at this
 exact this
theorem I7 {r:Ru} {l:List At} (hr:jK r=true) (i:Nat) (hn:0<l.length):wQ r l i=true↔(if r.kind=1 then i=l.length-1 else better (jo l) l.length i<keepA r):=by
 obtain ⟨k1,k2,k3⟩:=Ij hr
 unfold wQ keepA
 rcases k1 with c|c|c
 ·rw[c,if_neg (by decide),if_neg (by decide)]
  simp
 ·rw[c,if_pos rfl]
  simp
  omega
 ·have:=k2 c
  rw[c,if_neg (by decide),if_pos rfl]
  simp
  all_goals omega
theorem RP (f:Nat→Int) {n:Nat} (h:0<n):sm (fun i=>if i=n-1 then f i else 0) n=f (n-1):=by
 obtain ⟨m,rfl⟩:∃m,n=m+1:=⟨n-1,by omega⟩
 rw[lH,Ig (k:=0) (Nat.zero_le _) fun i _ hi=>if_neg (by omega),if_pos (by omega)]
 simp[KO]
theorem Oy (K:Nat):∀n,sm (fun i=>if i<K then (1:Int) else 0) n=(min K n:Nat)
 | 0=>by simp[KO]
 | n+1=>by
  rw[lH,Oy K n]
  by_cases c:n<K
  ·rw[if_pos c];omega
  ·rw[if_neg c];omega
theorem XC {r:Ru} {l:List At} (hr:jK r=true) (hn:0<l.length):sm (fun i=>if wQ r l i=true then jo l i else 0) l.length=N9 r.kind (keepA r) (jo l) l.length:=by
 unfold N9
 by_cases c:r.kind=1
 ·rw[if_pos c,←RP (jo l) hn]
  refine uK fun i _=>?_
  have:=I7 hr i hn
  rw[if_pos c] at this
  by_cases q:i=l.length-1
  ·rw[if_pos (this.2 q),if_pos q]
  ·rw[if_neg (fun h=>q (this.1 h)),if_neg q]
 ·rw[if_neg c,←YD _ _ _ (Nat.min_le_right _ _)]
  refine uK fun i hi=>?_
  have:=I7 hr i hn
  rw[if_neg c] at this
  have hb:=Vj (jo l) hi
  by_cases q:better (jo l) l.length i<keepA r
  ·rw[if_pos (this.2 q),if_pos (by omega)]
  ·rw[if_neg (fun h=>q (this.1 h)),if_neg (by omega)]
theorem PE {r:Ru} {l:List At} (hr:jK r=true) (hn:0<l.length):(jX r l l.length).length=D7 r.kind (keepA r) l.length:=by
 have hl:=QD r l l.length
 unfold D7
 by_cases c:r.kind=1
 ·rw[if_pos c]
  have:sm (fun i=>if wQ r l i=true then (1:Int) else 0) l.length=1:=by
   refine Eq.trans (uK fun i _=>?_) (RP (fun _=>(1:Int)) hn)
   have:=I7 hr i hn
   rw[if_pos c] at this
   by_cases q:i=l.length-1
   ·rw[if_pos (this.2 q),if_pos q]
   ·rw[if_neg (fun h=>q (this.1 h)),if_neg q]
  omega
 ·rw[if_neg c]
  have:sm (fun i=>if wQ r l i=true then (1:Int) else 0) l.length=(min (keepA r) l.length:Nat):=by
   rw[←Oy,←QO (κ:=fun i=>- jo l i) (fun i=>if wQ r l i=true then (1:Int) else 0)]
   refine uK fun p hp=>?_
   have:=I7 hr (iQ (fun i=>- jo l i) l.length p) hn
   rw[if_neg c,zO _ _ _ hp] at this
   by_cases q:p<keepA r
   ·rw[if_pos (this.2 q),if_pos q]
   ·rw[if_neg (fun h=>q (this.1 h)),if_neg q]
  omega
noncomputable def sG (l:List At) (cs:List Nat) (k:Nat):Int:=sm (fun i=>jo l (cs.getD i 0)) k
noncomputable def S26 (l:List At) (cs:List Nat) (k:Nat):AS:=⟨regs Tryz.f26.ntmps [(1,.d (rD l)),(4,vi 0),(5,vi 0),(6,.d (XR cs)),(7,vi (sG l cs k)),(8,vi k)],[]⟩
def Yi (ok:Bool) (cs:List Nat):dU:={ d:=fun f _=>bif Nat.beq f 55 then some (db ok) else bif Nat.beq f 56 then some (XR cs) else none }
theorem f26 (r:Ru) (l:List At):aA Tryz.prog G 26 [CY r,rD l] (.aN [di (mV r l),di (mM r l)]):=by
 have GH:=f55 (G:=G) r l
 cases hv:iJ r l with
 | false=>
  rw[hv] at GH
  refine aA.dA Tryz.func26 rfl Tryz.call26 ?_
  refine gK (aj:=Yi false []) (cuts:=[3]) ?_
  refine aC (fun ZT ZW ZQ ZK=>(ZK 55 [(.agg [(di r.kind),(di r.most),(di r.pause),(di r.keep)]),(.slc 3 l.length (ji l))] (db false)∧((true=true)→(((.aN [(di 0),(di 1)]):DV)=(.aN [(di (mV r l)),(di (mM r l))])))∧((true=false)→ZW [cd Tryz.f26 [1,1]] (aB ZT [1]) ZQ))) (by kernel_rfl) ?_
  refine⟨GH,fun _=>?_,fun c=>(by cases c)⟩
  unfold mV mM
  rw[hv];rfl
 | true=>
  rw[hv] at GH
  have h56:=f56 (G:=G) r l hv
  obtain ⟨hr,Xd,hh⟩:=zN hv
  have hmem:∀i,(jX r l l.length).getD i 0<l.length∨(jX r l l.length).length≤i:=by
   intro i
   by_cases hi:i<(jX r l l.length).length
   ·left
    rw[List.getD,gy hi]
    have:=List.getElem_mem hi
    exact List.mem_range.1 (List.mem_filter.1 this).1
   ·right;omega
  have hfin:mV r l=(if l.length=0 then 0 else (2*sG l (jX r l l.length) (jX r l l.length).length+((jX r l l.length).length:Nat)) / (2*((jX r l l.length).length:Nat)))∧mM r l=0:=by
   unfold mV mM
   rw[if_pos hv,if_pos hv]
   refine⟨?_,rfl⟩
   unfold Em Xp
   by_cases h0:l.length=0
   ·rw[if_pos h0,if_pos h0]
   ·rw[if_neg h0,if_neg h0]
    unfold sG
    rw[Rf r l (jo l),XC hr (by omega),PE hr (by omega)]
  have hcl:(jX r l l.length).length≤16:=by
   have:=List.length_filter_le (wQ r l) (List.range l.length)
   rw[List.length_range] at this
   exact Nat.le_trans this Xd
  have hc0:l.length=0↔(jX r l l.length).length=0:=by
   constructor
   ·intro h;rw[h];rfl
   ·intro h
    refine Classical.byContradiction fun q=>?_
    have:=PE hr (l:=l) (by omega)
    unfold D7 at this
    have kp:=WM hr
    split at this<;>omega
  generalize jX r l l.length=cs at *
  have hb:∀k,0≤sG l cs k∧sG l cs k≤k*100000000:=by
   intro k
   induction k with
   | zero=>exact⟨Int.le_refl _,Int.le_refl _⟩
   | succ k ih=>
    have h1:=hh (cs.getD k 0)
    have e:sG l cs (k+1)=sG l cs k+(l.getD (cs.getD k 0) at0).h:=lH _ _
    rw[e]
    push_cast
    omega
  refine aA.dA Tryz.func26 rfl Tryz.call26 ?_
  refine gK (aj:=Yi true cs) (cuts:=[2]) ?_
  refine aC (fun ZT ZW ZQ ZK=>(ZK 55 [(.agg [(di r.kind),(di r.most),(di r.pause),(di r.keep)]),(.slc 3 l.length (ji l))] (db true)∧((false=true)→ZW [cd Tryz.f26 [1,0,1,0],cd Tryz.f26 [1,1]] (aB ZT [0]) ZQ)∧((false=false)→(ZK 56 [(.agg [(di r.kind),(di r.most),(di r.pause),(di r.keep)]),(.slc 3 l.length (ji l))] (.slc 1 cs.length (zh cs))∧((((↑cs.length:Int)==0)=true)→(((.aN [(di 0),(di 0)]):DV)=(.aN [(di (mV r l)),(di (mM r l))])))∧((((↑cs.length:Int)==0)=false)→ZW [cd Tryz.f26 [1,1,1,1,1,0,1,0],(.blk 0),cd Tryz.f26 [1,1,1,1,1,1]] (aB ZT [1,1]) ZQ))))) (by kernel_rfl) ?_
  refine⟨GH,fun c=>(by cases c),fun _=>⟨h56,fun c=>?_,fun c=>?_⟩⟩
  ·have c:cs.length=0:=by simpa using c
   rw[hfin.1,hfin.2,if_pos (hc0.2 c)]
  have c:cs.length≠0:=by simpa using c
  rw[hfin.1,hfin.2,if_neg (fun q=>c (hc0.1 q))]
  refine aX.loop (c:=aU (au Tryz.f26) [1,1,1,1,1,0,1,0,0]) (by kernel_rfl) (S26 l cs) (fun k=>k≤cs.length) (fun k=>cs.length-k) 0 ?_ (Nat.zero_le _) ?_
  ·refine AS.leZ [4] [] (b:=((T0∧T0∧T0∧T0∧((vi 0):AV)=(vi (sG l cs 0))∧T0∧True)∧True)) (by kernel_rfl) (by kernel_rfl) ?_
   exact⟨⟨rfl,rfl,rfl,rfl,rfl,rfl,trivial⟩,trivial⟩
  intro k hk
  by_cases h2:k<cs.length
  ·have hb1:=hb k
   have hb2:=hh (cs.getD k 0)
   have hi:=(hmem k).resolve_right (by omega)
   have e:sG l cs (k+1)=sG l cs k+(l.getD (cs.getD k 0) at0).h:=lH _ _
   refine dZ (aj:={ d:=bG }) ?_
   refine aV (fun ZT ZW ZQ _ ZA _=>(fun (Za:Int)=>((((decide ((↑k:Int)<↑cs.length))=true)→((((0≤(↑k:Int))∧((↑k:Int)<↑cs.length))∧(I64 (↑(cs.getD (↑k:Int).toNat 0)+1-1))∧((0≤Za+1-1)∧(Za+1-1<↑l.length))∧(I64 (sG l cs k+(l.getD (Za+1-1).toNat at0).h)))∧(I64 (↑k+1))∧(ZA (aB ZT [0]))))∧(((decide ((↑k:Int)<↑cs.length))=false)→ZW [cd Tryz.f26 [1,1,1,1,1,1]] (aB ZT [1]) ZQ))) (↑(cs.getD (↑k:Int).toNat 0):Int)) (by kernel_rfl) ?_
   try dsimp only
   rw[show ((k:Int)).toNat=k from rfl,show (((cs.getD k 0:Nat):Int)+1-1).toNat=cs.getD k 0 by omega]
   refine⟨fun _=>⟨⟨⟨by omega,by omega⟩,⟨by omega,by omega⟩,⟨by omega,by omega⟩,⟨by omega,by omega⟩⟩,⟨by omega,by omega⟩,Again.mk (k+1) ?_ h2 (by omega)⟩,fun hd=>absurd (of_decide_eq_false hd) (by omega)⟩
   refine AS.leZ [4] [] (b:=((T0∧T0∧T0∧T0∧((vi (sG l cs k+(l.getD ((↑(cs.getD (↑k:Int).toNat 0):Int)+1-1).toNat at0).h)):AV)=(vi (sG l cs (k+1)))∧T0∧True)∧True)) (by kernel_rfl) (by kernel_rfl) ?_
   rw[show ((k:Int)).toNat=k from rfl,show (((cs.getD k 0:Nat):Int)+1-1).toNat=cs.getD k 0 by omega,e]
   exact⟨⟨rfl,rfl,rfl,rfl,rfl,rfl,trivial⟩,trivial⟩
  ·obtain rfl:k=cs.length:=by omega
   have hb1:=hb cs.length
   refine gK (aj:={ d:=bG }) (cuts:=[10]) ?_
   refine aV (fun ZT ZW ZQ _ _ ZR=>((((decide ((↑cs.length:Int)<↑cs.length))=true)→ZW [cd Tryz.f26 [1,1,1,1,1,0,1,0,0,1,0,0],(.blk 1),cd Tryz.f26 [1,1,1,1,1,0,1,0,0,1,1]] (aB ZT [0]) ZR)∧(((decide ((↑cs.length:Int)<↑cs.length))=false)→ZW [cd Tryz.f26 [1,1,1,1,1,1]] (aB ZT [1]) ZQ))) (by kernel_rfl) ?_
   refine⟨fun hd=>absurd (dn hd) (by omega),fun _=>?_⟩
   refine dZ (aj:={ d:=bG }) ?_
   refine aC (fun _ _ _ _=>(fun Za=>(((I64 (2*sG l cs cs.length))∧(I64 Za)∧(I64 (2 * ↑cs.length))∧(2*(↑cs.length:Int)≠0)∧(CS Za))∧((.aN [(di (Za.tdiv (2 * ↑cs.length))),(di 0)]):DV)=(.aN [(di (Za / (2 * ↑cs.length))),(di 0)]))) (2*sG l cs cs.length + ↑cs.length)) (by kernel_rfl) ?_
   refine⟨⟨⟨by omega,by omega⟩,⟨by omega,by omega⟩,⟨by omega,by omega⟩,by omega,by unfold CS;omega⟩,?_⟩
   rw[Int.tdiv_eq_ediv_of_nonneg (by omega)]
noncomputable def QU (x:En) (j:Nat) (f:Nat→DV) (n:Nat):AS:=⟨regs Tryz.f57.ntmps [(1,.box 1 0),(3,.vec 903 9 0 n),(4,vi j)],[(1,(wP x).map .d),(903,[.arr mY 9 f])]⟩
noncomputable def TJ (x:En) (j:Nat) (f:Nat→DV) (n:Nat):AS:=⟨regs Tryz.f57.ntmps [(1,.box 1 0),(3,.vec 903 9 0 n),(6,vi j)],[(1,(wP x).map .d),(903,[.arr mY 9 f])]⟩
noncomputable def ZM (x:En) (j:Nat) (a:Al) (f:Nat→DV) (n:Nat):AS:=⟨regs Tryz.f57.ntmps [(1,.box 1 0),(3,.vec 903 9 0 n),(6,vi j),(7,.box 7 0)],[(1,(wP x).map .d),(903,[.arr mY 9 f]),(7,(DU a).map .d)]⟩
noncomputable def adq (x:En) (f:Nat→DV):AS:=⟨regs Tryz.f57.ntmps [(1,.box 1 0),(3,.vec 15 9 0 1),(4,vi 0)],[(1,(wP x).map .d),(15,[.arr mY 9 f])]⟩
def zf:dU:={ d:=bG,rows:=fun n=>Nat.beq n 15||(Nat.beq n 40||(Nat.beq n 62||Nat.beq n 76)) }
theorem f57 (x:En) (hx:QJ x):aA Tryz.prog G 57 [zi x] (eu (fD x)):=by
 obtain ⟨hx1,hx2⟩:=hx
 have hgl:∀j,j≤x.gs.length→(lG [] x j).length≤1000001:=fun j hj=>by
  simp only[lG,List.length_append,List.length_cons,List.length_map,List.length_take,List.length_nil]
  omega
 have hal:∀j,j≤x.ah.length→(lA [] x j).length≤3000001:=fun j hj=>by
  have h2:((x.ah.take j).map (uH x.k)).flatten.length≤2*(x.ah.take j).length:=by
   generalize x.ah.take j=m
   induction m with
   | nil=>simp
   | cons a m ih=>
    have:(uH x.k a).length≤2:=by unfold uH;split<;>simp
    simp only[List.map_cons,List.flatten_cons,List.length_append,List.length_cons]
    omega
  rw[List.length_take] at h2
  simp only[lA,List.length_append,List.length_cons,List.length_map,List.length_nil]
  omega
 refine aA.dA Tryz.func57 rfl Tryz.call57 ?_
 refine dZ (aj:=zf) ?_
 refine aC (fun ZT ZW ZQ _=>ZW [cd Tryz.f57 [1,1,0,1,0],(.blk 0),cd Tryz.f57 [1,1,1]] (aB ZT []) ZQ) (by kernel_rfl) ?_
 refine aX.weaken (st':=adq x (aW true 9 (kE (yu x)))) ?_ ?_
 ·exact AS.bD (by kernel_rfl)
 refine aX.pre ((AS.cO.moves [(15,903)] _ rfl).trans ((AS.cO.of_le (st':=QU x 0 (aW true 9 (kE (yu x))) 1) ?_).trans ((AS.cO.l9 _ 3 903 1 (bW (lG [] x 0)) rfl rfl rfl (by kernel_rfl) fun i hi=>by obtain rfl:i=0:=(by omega);rfl).trans (.of_le (st':=QU x 0 (bW (lG [] x 0)) 1) ?_)))) ?_
 ·exact AS.bD (by kernel_rfl)
 ·exact AS.bD (by kernel_rfl)
 refine aX.loop (c:=aU (au Tryz.f57) [1,1,0,1,0,0]) (by kernel_rfl) (fun j:Nat=>QU x j (bW (lG [] x j)) (lG [] x j).length) (fun j=>j≤x.gs.length) (fun j=>x.gs.length-j) 0 ?_ (Nat.zero_le _) ?_
 ·exact AS.bD (by kernel_rfl)
 intro j hj
 show aX _ _ _ (QU x j (bW (lG [] x j)) (lG [] x j).length) _
 by_cases hj2:j<x.gs.length
 ·have hg1:=hgl j hj
  have e:=Q7 (l:=[]) hj2
  refine dZ (aj:=zf) ?_
  refine aV (fun ZT ZW ZQ _ ZA _=>((((decide ((↑j:Int)<↑x.gs.length))=true)→(((0≤(↑j:Int))∧((↑j:Int)<↑x.gs.length))∧((((lG [] x j).length+1)*96≤1099511627776)∧((lG [] x j).length+1≤1099511627776))∧(I64 (↑j+1))∧(ZA (aB ZT [0]))))∧(((decide ((↑j:Int)<↑x.gs.length))=false)→ZW [cd Tryz.f57 [1,1,1]] (aB ZT [1]) ZQ))) (by kernel_rfl) ?_
  refine⟨fun _=>⟨⟨by omega,by omega⟩,⟨by omega,by omega⟩,⟨by omega,by omega⟩,j+1,?_,hj2,show x.gs.length-(j+1)<x.gs.length-j from by omega⟩,fun hd=>absurd (of_decide_eq_false hd) (by omega)⟩
  show AS.cO _ (QU x (j+1) (bW (lG [] x (j+1))) (lG [] x (j+1)).length)
  rw[e]
  refine(AS.cO.moves [(41,903)] _ rfl).trans ((AS.cO.of_le (st':=QU x (j+1) (uG (lG [] x j) (yx x.k (x.gs.getD j dR))) ((lG [] x j).length+1)) ?_).trans ((AS.cO.l9 _ 3 903 ((lG [] x j).length+1) (bW (lG [] x j++[yx x.k (x.gs.getD j dR)])) rfl rfl rfl (by kernel_rfl) fun i hi=>uZ hi).trans (.of_le ?_)))
  ·refine AS.leZ [] [1] (b:=((T0∧T0∧T0∧True)∧T0∧((some [(.arr bY 9 (fun i=>bif i.blt (lG [] x j).length then bW (lG [] x j) i else aW true 9 [di 1,ds x.k.st,ds x.k.ex,di x.k.n,DV.con (Value.int IntKind.i64 (x.gs.getD (↑j:Int).toNat dR).t),DV.con (Value.int IntKind.i64 (x.gs.getD (↑j:Int).toNat dR).v),DV.con (Value.int IntKind.i64 (x.gs.getD (↑j:Int).toNat dR).h),DV.con (Value.string (x.gs.getD (↑j:Int).toNat dR).s),DV.con (Value.bool false)] (0+(i-(lG [] x j).length))))]):dS)=(some [(.arr bY 9 (uG (lG [] x j) (yx x.k (x.gs.getD j dR))))])∧True)) (by kernel_rfl) (by kernel_rfl) ?_
   exact⟨⟨rfl,rfl,rfl,trivial⟩,rfl,rfl,trivial⟩
  ·refine AS.leZ [1] [] (b:=((T0∧((.vec 903 9 0 ((lG [] x j).length+1)):AV)=(.vec 903 9 0 (lG [] x j++[yx x.k (x.gs.getD j dR)]).length)∧T0∧True)∧T0∧T0∧True)) (by kernel_rfl) (by kernel_rfl) ?_
   exact⟨⟨rfl,congrArg (AV.vec 903 9 0) (iE _ _).symm,rfl,trivial⟩,rfl,rfl,trivial⟩
 obtain rfl:j=x.gs.length:=by have:j≤x.gs.length:=hj;omega
 rw[VE]
 refine gK (aj:=zf) (cuts:=[5,8]) ?_
 refine aV (fun ZT ZW ZQ _ _ ZR=>((((decide ((↑x.gs.length:Int)<↑x.gs.length))=true)→ZW [cd Tryz.f57 [1,1,0,1,0,0,1,0,0],(.blk 1),cd Tryz.f57 [1,1,0,1,0,0,1,1]] (aB ZT [0]) ZR)∧(((decide ((↑x.gs.length:Int)<↑x.gs.length))=false)→ZW [cd Tryz.f57 [1,1,1]] (aB ZT [1]) ZQ))) (by kernel_rfl) ?_
 refine⟨fun hd=>absurd (dn hd) (by omega),fun _=>?_⟩
 refine dZ (aj:=zf) ?_
 refine aC (fun ZT ZW ZQ _=>ZW [cd Tryz.f57 [1,1,1,0,1,0],(.blk 2),cd Tryz.f57 [1,1,1,1]] (aB ZT []) ZQ) (by kernel_rfl) ?_
 refine aX.loop (c:=aU (au Tryz.f57) [1,1,1,0,1,0,0]) (by kernel_rfl) (fun j:Nat=>TJ x j (bW (lA [] x j)) (lA [] x j).length) (fun j=>j≤x.ah.length) (fun j=>x.ah.length-j) 0 ?_ (Nat.zero_le _) ?_
 ·exact AS.bD (by kernel_rfl)
 clear hj hgl
 intro j hj
 show aX _ _ _ (TJ x j (bW (lA [] x j)) (lA [] x j).length) _
 by_cases hj2:j<x.ah.length
 ·have hg1:=hal j hj
  have e:=QE (l:=[]) hj2
  refine gK (aj:=zf) (cuts:=[12]) ?_
  refine aV (fun ZT ZW ZQ _ _ ZR=>((((decide ((↑j:Int)<↑x.ah.length))=true)→(((0≤(↑j:Int))∧((↑j:Int)<↑x.ah.length))∧((((lA [] x j).length+1)*96≤1099511627776)∧((lA [] x j).length+1≤1099511627776))∧ZW [cd Tryz.f57 [1,1,1,0,1,0,0,1,0,0,1,1],(.blk 3),cd Tryz.f57 [1,1,1,0,1,0,0,1,1]] (aB ZT [0]) ZR))∧(((decide ((↑j:Int)<↑x.ah.length))=false)→ZW [cd Tryz.f57 [1,1,1,1]] (aB ZT [1]) ZQ))) (by kernel_rfl) ?_
  refine⟨fun _=>⟨⟨by omega,by omega⟩,⟨by omega,by omega⟩,?_⟩,fun hd=>absurd (of_decide_eq_false hd) (by omega)⟩
  refine aX.pre ((AS.cO.moves [(63,903)] _ rfl).trans ((AS.cO.of_le (st':=ZM x j (x.ah.getD j bZ) (uG (lA [] x j) (lY x.k (x.ah.getD j bZ))) ((lA [] x j).length+1)) ?_).trans ((AS.cO.l9 _ 3 903 ((lA [] x j).length+1) (bW (lA [] x j++[lY x.k (x.ah.getD j bZ)])) rfl rfl rfl (by kernel_rfl) fun i hi=>uZ hi).trans (.of_le (st':=ZM x j (x.ah.getD j bZ) (bW (lA [] x j++[lY x.k (x.ah.getD j bZ)])) ((lA [] x j).length+1)) ?_)))) ?_
  ·refine AS.leZ [] [1,2] (b:=((T0∧T0∧T0∧T0∧True)∧T0∧((some [(.arr bY 9 (fun i=>bif i.blt (lA [] x j).length then bW (lA [] x j) i else aW true 9 [di 2,ds x.k.st,ds x.k.ex,di x.k.n,DV.con (Value.int IntKind.i64 (x.ah.getD (↑j:Int).toNat bZ).t),di 0,di 0,DV.con (Value.string (x.ah.getD (↑j:Int).toNat bZ).s),DV.con (Value.bool false)] (0+(i-(lA [] x j).length))))]):dS)=(some [(.arr bY 9 (uG (lA [] x j) (lY x.k (x.ah.getD j bZ))))])∧((some [(vi (x.ah.getD (↑j:Int).toNat bZ).t),(vs (x.ah.getD (↑j:Int).toNat bZ).s),(vb (x.ah.getD (↑j:Int).toNat bZ).dec),(vb (x.ah.getD (↑j:Int).toNat bZ).acc),(vi (x.ah.getD (↑j:Int).toNat bZ).at_),(vs (x.ah.getD (↑j:Int).toNat bZ).ans)]):dS)=(some [(vi (x.ah.getD j bZ).t),(vs (x.ah.getD j bZ).s),(vb (x.ah.getD j bZ).dec),(vb (x.ah.getD j bZ).acc),(vi (x.ah.getD j bZ).at_),(vs (x.ah.getD j bZ).ans)])∧True)) (by kernel_rfl) (by kernel_rfl) ?_
   exact⟨⟨rfl,rfl,rfl,rfl,trivial⟩,rfl,rfl,rfl,trivial⟩
  ·exact AS.bD (by kernel_rfl)
  have hll:(lA [] x j++[lY x.k (x.ah.getD j bZ)]).length=(lA [] x j).length+1:=iE _ _
  have e2:lA [] x (j+1)=(lA [] x j++[lY x.k (x.ah.getD j bZ)])++(if (x.ah.getD j bZ).dec=true then [y8 x.k (x.ah.getD j bZ)] else []):=by
   rw[e]
   unfold uH lY y8
   split<;>simp
  generalize lA [] x j++[lY x.k (x.ah.getD j bZ)]=m at *
  rw[←hll]
  refine dZ (aj:=zf) ?_
  refine aV (fun ZT _ _ _ ZA _=>((((x.ah.getD j bZ).dec=true)→((((m.length+1)*96≤1099511627776)∧(m.length+1≤1099511627776))∧(I64 (↑j+1))∧(ZA (aB ZT [0]))))∧(((x.ah.getD j bZ).dec=false)→((I64 (↑j+1))∧(ZA (aB ZT [1])))))) (by kernel_rfl) ?_
  refine⟨fun c=>⟨⟨by omega,by omega⟩,⟨by omega,by omega⟩,j+1,?_,hj2,show x.ah.length-(j+1)<x.ah.length-j from by omega⟩,fun c=>⟨⟨by omega,by omega⟩,Again.mk (j+1) ?_ hj2 (by omega)⟩⟩
  ·show AS.cO _ (TJ x (j+1) (bW (lA [] x (j+1))) (lA [] x (j+1)).length)
   rw[e2,if_pos c]
   refine(AS.cO.moves [(77,903)] _ rfl).trans ((AS.cO.of_le (st':=TJ x (j+1) (uG m (y8 x.k (x.ah.getD j bZ))) (m.length+1)) ?_).trans ((AS.cO.l9 _ 3 903 (m.length+1) (bW (m++[y8 x.k (x.ah.getD j bZ)])) rfl rfl rfl (by kernel_rfl) fun i hi=>uZ hi).trans (.of_le ?_)))
   ·refine AS.leZ [] [1] (b:=((T0∧T0∧T0∧True)∧T0∧((some [(.arr bY 9 (fun i=>bif i.blt m.length then bW m i else aW true 9 [di 3,ds x.k.st,ds x.k.ex,di x.k.n,DV.con (Value.int IntKind.i64 (x.ah.getD j bZ).at_),di 0,di 0,DV.con (Value.string (x.ah.getD j bZ).ans),DV.con (Value.bool (x.ah.getD j bZ).acc)] (0+(i-m.length))))]):dS)=(some [(.arr bY 9 (uG m (y8 x.k (x.ah.getD j bZ))))])∧True)) (by kernel_rfl) (by kernel_rfl) ?_
    exact⟨⟨rfl,rfl,rfl,trivial⟩,rfl,rfl,trivial⟩
   ·refine AS.leZ [1] [] (b:=((T0∧((.vec 903 9 0 (m.length+1)):AV)=(.vec 903 9 0 (m++[y8 x.k (x.ah.getD j bZ)]).length)∧T0∧True)∧T0∧T0∧True)) (by kernel_rfl) (by kernel_rfl) ?_
    exact⟨⟨rfl,congrArg (AV.vec 903 9 0) (iE _ _).symm,rfl,trivial⟩,rfl,rfl,trivial⟩
  ·rw[if_neg (by rw[c];decide),List.append_nil] at e2
   refine AS.leZ [1] [1] (b:=((T0∧((.vec 903 9 0 m.length):AV)=(.vec 903 9 0 (lA [] x (j+1)).length)∧T0∧True)∧T0∧((some [(.arr bY 9 (bW m))]):dS)=(some [(.arr bY 9 (bW (lA [] x (j+1))))])∧True)) (by kernel_rfl) (by kernel_rfl) ?_
   rw[e2]
   exact⟨⟨rfl,rfl,rfl,trivial⟩,rfl,rfl,trivial⟩
 obtain rfl:j=x.ah.length:=by have:j≤x.ah.length:=hj;omega
 have e:lA [] x x.ah.length=fD x:=by simp[lA,fD]
 rw[e]
 refine gK (aj:=zf) (cuts:=[10]) ?_
 refine aV (fun ZT ZW ZQ _ _ ZR=>((((decide ((↑x.ah.length:Int)<↑x.ah.length))=true)→ZW [cd Tryz.f57 [1,1,1,0,1,0,0,1,0,0],(.blk 3),cd Tryz.f57 [1,1,1,0,1,0,0,1,1]] (aB ZT [0]) ZR)∧(((decide ((↑x.ah.length:Int)<↑x.ah.length))=false)→ZW [cd Tryz.f57 [1,1,1,1]] (aB ZT [1]) ZQ))) (by kernel_rfl) ?_
 refine⟨fun hd=>absurd (dn hd) (by omega),fun _=>?_⟩
 refine dZ (aj:=zf) ?_
 refine aC (fun _ _ _ _=>(((.slc 9 (fD x).length (fun i=>bW (fD x) (0+i))):DV)=(eu (fD x)))) (by kernel_rfl) ?_
 exact congrArg (DV.slc 9 _) (funext fun i=>by rw[Nat.zero_add])
def uQ (es:List En) (k:Ky) (j:Nat):Nat:=iC (es.take j) k
theorem U2 {es:List En} {k:Ky} {j:Nat} (h:j<es.length):uQ es k (j+1)=uQ es k j+if wH k (es.getD j en0).k=true then 1 else 0:=by
 unfold uQ iC keyS
 rw[List.take_succ_eq_append_getElem h,List.map_append,List.filter_append,List.length_append,List.getD,gy h]
 congr 1
 show (List.filter (wH k) [es[j].k]).length=_
 rw[List.filter_cons]
 show (if wH k es[j].k=true then _ else _:List Ky).length=if wH k es[j].k=true then 1 else 0
 split<;>rfl
noncomputable def S80 (b:Bk) (k:Ky) (j:Nat):AS:=⟨regs Tryz.f80.ntmps [(2,.box 2 0),(3,.box 3 0),(4,vi 0),(5,vi (uQ b.es k j)),(6,vi j)],[(2,(fQ b).map .d),(3,(O5 k).map .d)]⟩
theorem f80 (b:Bk) (k:Ky) (hl:b.es.length≤1000000):aA Tryz.prog G 80 [cu b,XT k] (di (iC b.es k)):=by
 refine aA.dA Tryz.func80 rfl Tryz.call80 ?_
 refine dZ (aj:={ d:=bG }) ?_
 refine aC (fun ZT ZW ZQ _=>ZW [cd Tryz.f80 [1,1,0,1,0],(.blk 0),cd Tryz.f80 [1,1,1]] (aB ZT []) ZQ) (by kernel_rfl) ?_
 refine aX.loop (c:=aU (au Tryz.f80) [1,1,0,1,0,0]) (by kernel_rfl) (fun j:Nat=>S80 b k j) (fun j=>j≤b.es.length∧uQ b.es k j≤j) (fun j=>b.es.length-j) 0 ?_ ⟨Nat.zero_le _,Nat.le_refl _⟩ ?_
 ·exact AS.bD (by kernel_rfl)
 rintro j ⟨hj,hc⟩
 by_cases h2:j<b.es.length
 ·have hs:=U2 (k:=k) h2
  refine dZ (aj:={ d:=bG }) ?_
  refine aV (fun ZT ZW ZQ _ ZA _=>(fun Za=>((((decide ((↑j:Int)<↑b.es.length))=true)→(((0≤(↑j:Int))∧((↑j:Int)<↑b.es.length))∧((Za=true)→((I64 (↑(uQ b.es k j)+1))∧(I64 (↑j+1))∧(ZA (aB ZT [0,0]))))∧((Za=false)→((I64 (↑j+1))∧(ZA (aB ZT [0,1]))))))∧(((decide ((↑j:Int)<↑b.es.length))=false)→ZW [cd Tryz.f80 [1,1,1]] (aB ZT [1]) ZQ))) ((b.es.getD (↑j:Int).toNat en0).k.st.toList==k.st.toList&&(b.es.getD (↑j:Int).toNat en0).k.ex.toList==k.ex.toList)) (by kernel_rfl) ?_
  try dsimp only
  rw[show ((j:Int)).toNat=j from rfl,dJ,dJ]
  have e:(decide ((b.es.getD j en0).k.st=k.st)&&decide ((b.es.getD j en0).k.ex=k.ex))=wH k (b.es.getD j en0).k:=rfl
  rw[e]
  refine⟨fun _=>⟨⟨by omega,by omega⟩,fun c=>⟨⟨by omega,by omega⟩,⟨by omega,by omega⟩,Again.mk (j+1) ?_ ⟨h2,by rw[hs];split<;>omega⟩ (by show b.es.length-(j+1)<b.es.length-j;omega)⟩,fun c=>⟨⟨by omega,by omega⟩,Again.mk (j+1) ?_ ⟨h2,by rw[hs];split<;>omega⟩ (by show b.es.length-(j+1)<b.es.length-j;omega)⟩⟩,fun hd=>absurd (of_decide_eq_false hd) (by omega)⟩
  ·rw[if_pos c] at hs
   refine AS.leZ [3] [] (b:=((T0∧T0∧T0∧((vi (↑(uQ b.es k j)+1)):AV)=(vi (↑(uQ b.es k (j+1))))∧T0∧True)∧T0∧T0∧True)) (by kernel_rfl) (by kernel_rfl) ?_
   rw[hs]
   exact⟨⟨rfl,rfl,rfl,rfl,rfl,trivial⟩,rfl,rfl,trivial⟩
  ·rw[if_neg (by rw[c];decide)] at hs
   refine AS.leZ [3] [] (b:=((T0∧T0∧T0∧((vi (↑(uQ b.es k j))):AV)=(vi (↑(uQ b.es k (j+1))))∧T0∧True)∧T0∧T0∧True)) (by kernel_rfl) (by kernel_rfl) ?_
   rw[hs]
   exact⟨⟨rfl,rfl,rfl,rfl,rfl,trivial⟩,rfl,rfl,trivial⟩
 ·obtain rfl:j=b.es.length:=by omega
  have e:uQ b.es k b.es.length=iC b.es k:=by unfold uQ;rw[List.take_length]
  refine gK (aj:={ d:=bG }) (cuts:=[5]) ?_
  refine aV (fun ZT ZW ZQ _ _ ZR=>((((decide ((↑b.es.length:Int)<↑b.es.length))=true)→ZW [cd Tryz.f80 [1,1,0,1,0,0,1,0,0],(.blk 1),cd Tryz.f80 [1,1,0,1,0,0,1,1]] (aB ZT [0]) ZR)∧(((decide ((↑b.es.length:Int)<↑b.es.length))=false)→ZW [cd Tryz.f80 [1,1,1]] (aB ZT [1]) ZQ))) (by kernel_rfl) ?_
  refine⟨fun hd=>absurd (dn hd) (by omega),fun _=>?_⟩
  refine dZ (aj:={ d:=bG }) ?_
  refine aC (fun _ _ _ _=>(((di (↑(uQ b.es k b.es.length))):DV)=(di ↑(iC b.es k)))) (by kernel_rfl) ?_
  rw[e]
def xu (es:List En) (e:Ev):Bool:=decide (e∈bn es)
noncomputable def S50 (b:Bk) (e:Ev) (i:Nat):AS:=⟨regs Tryz.f50.ntmps [(2,.box 2 0),(3,.box 3 0),(4,vb false),(5,vi i)],[(2,(fQ b).map .d),(3,(kE e).map .d)]⟩
noncomputable def adT (b:Bk) (e:Ev) (i:Nat) (l:List Ev) (k:Nat):AS:=⟨regs Tryz.f50.ntmps [(2,.box 2 0),(3,.box 3 0),(4,vb false),(5,vi i),(6,.d (eu l)),(7,vi k)],[(2,(fQ b).map .d),(3,(kE e).map .d)]⟩
def BI (l:List Ev):dU:={ d:=fun f _=>bif Nat.beq f 57 then some (eu l) else none }
theorem Kv {x:En} (hx:QJ x):(fD x).length≤3000001:=by
 obtain ⟨h1,h2⟩:=hx
 have:∀m:List Al,((m.map (uH x.k)).flatten).length≤2*m.length:=by
  intro m
  induction m with
  | nil=>simp
  | cons a m ih=>
   have:(uH x.k a).length≤2:=by unfold uH;split<;>simp
   simp only[List.map_cons,List.flatten_cons,List.length_append,List.length_cons]
   omega
 have:=this x.ah
 simp only[fD,List.length_cons,List.length_append,List.length_map]
 omega
theorem f50 (b:Bk) (e:Ev) (hs:gq b.es):aA Tryz.prog G 50 [cu b,ig e] (db (xu b.es e)):=by
 have hl:=hs.1
 refine aA.dA Tryz.func50 rfl Tryz.call50 ?_
 refine dZ (aj:=BI []) ?_
 refine aC (fun ZT ZW ZQ _=>ZW [cd Tryz.f50 [1,0,1,0],(.blk 0),cd Tryz.f50 [1,1]] (aB ZT []) ZQ) (by kernel_rfl) ?_
 refine aX.loop (c:=aU (au Tryz.f50) [1,0,1,0,0]) (by kernel_rfl) (fun j:Nat=>S50 b e j) (fun j=>j≤b.es.length∧e∉bn (b.es.take j)) (fun j=>b.es.length-j) 0 ?_ ⟨Nat.zero_le _,by simp[bn]⟩ ?_
 ·exact AS.bD (by kernel_rfl)
 rintro j ⟨hj,hn⟩
 by_cases h2:j<b.es.length
 ·have hx:=hs.2 j h2
  have hel:=Kv hx
  have hal:bn (b.es.take (j+1))=bn (b.es.take j)++fD (b.es.getD j en0):=by
   rw[List.take_succ_eq_append_getElem h2,mJ,List.getD,gy h2]
   congr 1
   show ([b.es[j]].map fD).flatten=_
   simp
  have hfull:∀y,y∈bn (b.es.take (j+1))→y∈bn b.es:=fun y hy=>by
   have:bn b.es=bn (b.es.take (j+1))++bn (b.es.drop (j+1)):=by rw[←mJ,List.take_append_drop]
   rw[this];exact List.mem_append_left _ hy
  have h57:=f57 (G:=G) (b.es.getD j en0) hx
  generalize hlx:fD (b.es.getD j en0)=l at *
  refine dZ (aj:=BI l) ?_
  refine aV (fun ZT ZW ZQ ZK _ ZR=>(fun Za=>((((decide ((↑j:Int)<↑b.es.length))=true)→((((0≤(↑j:Int))∧((↑j:Int)<↑b.es.length))∧ZK 57 [(.agg [(ds Za.k.st),(ds Za.k.ex),(di Za.k.n),(di Za.t),(ds Za.s),(.slc 4 Za.gs.length (dP Za.gs)),(.slc 6 Za.ah.length (dI Za.ah))])] (.slc 9 l.length (bW l)))∧ZW [cd Tryz.f50 [1,0,1,0,0,1,0,0,1,1,0],(.blk 2),(.blk 1),cd Tryz.f50 [1,0,1,0,0,1,1]] (aB ZT [0]) ZR))∧(((decide ((↑j:Int)<↑b.es.length))=false)→ZW [cd Tryz.f50 [1,1]] (aB ZT [1]) ZQ))) (b.es.getD (↑j:Int).toNat en0)) (by kernel_rfl) ?_
  refine⟨fun _=>⟨⟨⟨by omega,by omega⟩,h57⟩,?_⟩,fun hd=>absurd (of_decide_eq_false hd) (by omega)⟩
  refine aX.loop (c:=aU (au Tryz.f50) [1,0,1,0,0,1,0,0,1,1,0,0]) (by kernel_rfl) (fun k:Nat=>adT b e j l k) (fun k=>k≤l.length∧e∉l.take k) (fun k=>l.length-k) 0 ?_ ⟨Nat.zero_le _,by simp⟩ ?_
  ·exact AS.bD (by kernel_rfl)
  rintro k ⟨hk,hnk⟩
  by_cases h3:k<l.length
  ·refine dZ (aj:=BI l) ?_
   refine aV (fun ZT ZW ZQ _ ZA _=>(fun Za=>((((decide ((↑k:Int)<↑l.length))=true)→(((0≤(↑k:Int))∧((↑k:Int)<↑l.length))∧((Za=true)→(((db true):DV)=(db (xu b.es e))))∧((Za=false)→((I64 (↑k+1))∧(ZA (aB ZT [0,1]))))))∧(((decide ((↑k:Int)<↑l.length))=false)→ZW [(.blk 1),cd Tryz.f50 [1,0,1,0,0,1,1]] (aB ZT [1]) ZQ))) (Bool.rec false ((l.getD (↑k:Int).toNat ev0).k.st.toList==e.k.st.toList&&((l.getD (↑k:Int).toNat ev0).k.ex.toList==e.k.ex.toList&&(l.getD (↑k:Int).toNat ev0).k.n==e.k.n)&&((l.getD (↑k:Int).toNat ev0).t==e.t&&((l.getD (↑k:Int).toNat ev0).v==e.v&&((l.getD (↑k:Int).toNat ev0).h==e.h&&((l.getD (↑k:Int).toNat ev0).s.toList==e.s.toList&&(l.getD (↑k:Int).toNat ev0).acc==e.acc))))) ((l.getD (↑k:Int).toNat ev0).kind==e.kind))) (by kernel_rfl) ?_
   try dsimp only
   simp only[gW,oq,PX]
   have hm:l.getD k ev0∈l:=by rw[List.getD,gy h3];exact List.getElem_mem h3
   refine⟨fun _=>⟨⟨by omega,by omega⟩,fun c=>?_,fun c=>⟨⟨by omega,by omega⟩,Again.mk (k+1) ?_ ⟨h3,?_⟩ (by show l.length-(k+1)<l.length-k;omega)⟩⟩,fun hd=>absurd (of_decide_eq_false hd) (by omega)⟩
   ·have c:=dn c
    have hp:xu b.es e=true:=decide_eq_true (hfull e (by rw[hal];exact List.mem_append_right _ (by rw[←c];exact hm)))
    rw[hp]
   ·exact AS.bD (by kernel_rfl)
   ·have c:=of_decide_eq_false c
    rw[List.take_succ_eq_append_getElem h3,List.mem_append]
    rintro (q|q)
    ·exact hnk q
    ·have q:=List.mem_singleton.1 q
     refine c ?_
     rw[List.getD,gy h3]
     exact q.symm
  ·obtain rfl:k=l.length:=by omega
   rw[List.take_length] at hnk
   refine gK (aj:=BI l) (cuts:=[8]) ?_
   refine aV (fun ZT ZW ZQ _ _ ZR=>((((decide ((↑l.length:Int)<↑l.length))=true)→ZW [cd Tryz.f50 [1,0,1,0,0,1,0,0,1,1,0,0,1,0,0],(.blk 3),cd Tryz.f50 [1,0,1,0,0,1,0,0,1,1,0,0,1,1]] (aB ZT [0]) ZR)∧(((decide ((↑l.length:Int)<↑l.length))=false)→ZW [(.blk 1),cd Tryz.f50 [1,0,1,0,0,1,1]] (aB ZT [1]) ZQ))) (by kernel_rfl) ?_
   refine⟨fun hd=>absurd (dn hd) (by omega),fun _=>?_⟩
   refine dZ (aj:=BI l) ?_
   refine aV (fun ZT _ _ _ ZA _=>((I64 (↑j+1))∧(ZA (aB ZT [])))) (by kernel_rfl) ?_
   refine⟨⟨by omega,by omega⟩,Again.mk (j+1) ?_ ⟨h2,by rw[hal,List.mem_append];rintro (q|q);exact hn q;exact hnk q⟩ (by show b.es.length-(j+1)<b.es.length-j;omega)⟩
   exact AS.bD (by kernel_rfl)
 ·obtain rfl:j=b.es.length:=by omega
  rw[List.take_length] at hn
  have hp:xu b.es e=false:=decide_eq_false hn
  refine gK (aj:=BI []) (cuts:=[4]) ?_
  refine aV (fun ZT ZW ZQ _ _ ZR=>((((decide ((↑b.es.length:Int)<↑b.es.length))=true)→ZW [cd Tryz.f50 [1,0,1,0,0,1,0,0],(.blk 1),cd Tryz.f50 [1,0,1,0,0,1,1]] (aB ZT [0]) ZR)∧(((decide ((↑b.es.length:Int)<↑b.es.length))=false)→ZW [cd Tryz.f50 [1,1]] (aB ZT [1]) ZQ))) (by kernel_rfl) ?_
  refine⟨fun hd=>absurd (dn hd) (by omega),fun _=>?_⟩
  refine dZ (aj:=BI []) ?_
  refine aC (fun _ _ _ _=>(((db false):DV)=(db (xu b.es e)))) (by kernel_rfl) ?_
  rw[hp]
theorem Uz {e:Ev} {P Q:List Ev} (hP:∀a∈P,a.t≤e.t) (hQ:∀a∈Q,e.t<a.t):ins e (P++Q)=P++e :: Q:=by
 rw[KT hQ (.inr (.inr trivial)),Fh hP,List.append_assoc];rfl
theorem IC {e:Ev}:∀{l:List Ev},l.Pairwise (fun a b=>a.t≤b.t)→(ins e l).Pairwise (fun a b=>a.t≤b.t)
 | [],_=>by simp[ins]
 | a :: l,h=>by
  obtain ⟨h1,h2⟩:=List.pairwise_cons.1 h
  unfold ins
  split
  ·rename_i c
   refine List.pairwise_cons.2 ⟨fun b hb=>?_,h⟩
   rcases List.mem_cons.1 hb with rfl|hb
   ·omega
   ·have:=h1 b hb;omega
  ·rename_i c
   refine List.pairwise_cons.2 ⟨fun b hb=>?_,IC h2⟩
   rcases JY.1 hb with rfl|hb
   ·omega
   ·exact h1 b hb
theorem I9 (l:List Ev):(gY l).Pairwise (fun a b=>a.t≤b.t):=by
 suffices h:∀r:List Ev,(gY r.reverse).Pairwise (fun a b=>a.t≤b.t) by
  have:=h l.reverse
  rwa [List.reverse_reverse] at this
 intro r
 induction r with
 | nil=>simp[YS]
 | cons a r ih=>rw[List.reverse_cons,su];exact IC ih
theorem aaW {e:Ev} {l:List Ev} {j:Nat} (hs:l.Pairwise (fun a b=>a.t≤b.t)) (hj:j≤l.length) (h1:∀i,j≤i→i<l.length→e.t<(l.getD i ev0).t) (h2:j=0∨(l.getD (j-1) ev0).t≤e.t):ins e l=l.take j++e :: l.drop j:=by
 conv=>lhs;rw[←List.take_append_drop j l]
 refine Uz (fun a ha=>?_) (fun a ha=>?_)
 ·obtain ⟨i,hi,rfl⟩:=List.mem_iff_getElem.1 ha
  rw[List.length_take] at hi
  rw[List.getElem_take]
  have h2:=h2.resolve_left (by omega)
  rw[List.getD,gy (show j-1<l.length by omega)] at h2
  have h2:l[j-1].t≤e.t:=h2
  by_cases c:i=j-1
  ·subst c;exact h2
  ·have:=List.pairwise_iff_getElem.1 hs i (j-1) (by omega) (by omega) (by omega)
   omega
 ·obtain ⟨i,hi,rfl⟩:=List.mem_iff_getElem.1 ha
  rw[List.length_drop] at hi
  rw[List.getElem_drop]
  have:=h1 (j+i) (by omega) (by omega)
  rw[List.getD,gy (by omega)] at this
  exact this
noncomputable def S59 (b:Bk) (i:Nat) (m:List Ev):AS:=⟨regs Tryz.f59.ntmps [(1,.box 1 0),(3,.vec 903 9 0 m.length),(4,vi i)],[(1,(fQ b).map .d),(903,[.arr mY 9 (bW m)])]⟩
noncomputable def adD (b:Bk):AS:=⟨regs Tryz.f59.ntmps [(1,.box 1 0),(3,.vec 9 9 0 0),(4,vi 0)],[(1,(fQ b).map .d),(9,[.arr mY 9 (fun _=>.con undef)])]⟩
noncomputable def aaP (b:Bk) (i:Nat) (m l:List Ev) (k:Nat):AS:=⟨regs Tryz.f59.ntmps [(1,.box 1 0),(3,.vec 903 9 0 m.length),(4,vi i),(5,.d (eu l)),(6,vi k)],[(1,(fQ b).map .d),(903,[.arr mY 9 (bW m)])]⟩
noncomputable def Tt (b:Bk) (i:Nat) (m l:List Ev) (k j:Nat):AS:=⟨regs Tryz.f59.ntmps [(1,.box 1 0),(3,.vec 903 9 0 m.length),(4,vi i),(5,.d (eu l)),(6,vi k),(7,vi j)],[(1,(fQ b).map .d),(903,[.arr mY 9 (bW m)])]⟩
def zD (l:List Ev):dU:={ d:=fun f _=>bif Nat.beq f 57 then some (eu l) else none,rows:=fun n=>Nat.beq n 9||(Nat.beq n 49||(Nat.beq n 54||Nat.beq n 63)) }
noncomputable def ad9 (b:Bk) (i:Nat) (l:List Ev) (k:Nat) (f:Nat→DV) (n:Nat):AS:=⟨regs Tryz.f59.ntmps [(1,.box 1 0),(3,.vec 903 9 0 n),(4,vi i),(5,.d (eu l)),(6,vi k)],[(1,(fQ b).map .d),(903,[.arr mY 9 f])]⟩
def SQ (m:List Ev) (e:Ev) (j:Nat):Nat→DV:=fun i=>bif Nat.blt i (0+Int.toNat ((j:Int)-0)+1) then bif Nat.blt i (0+Int.toNat ((j:Int)-0)) then bif Nat.blt i 0 then DV.con undef else bW m (0+Int.toNat 0+(i-0)) else aW true 9 (kE e) (0+(i-(0+Int.toNat ((j:Int)-0)))) else bif Nat.blt (0+(i-(0+Int.toNat ((j:Int)-0)+1))) 0 then DV.con undef else bW m (0+Int.toNat (j:Int)+(0+(i-(0+Int.toNat ((j:Int)-0)+1))-0))
theorem Yt (m:List Ev) (e:Ev) {j i:Nat} (hj:j≤m.length) (hi:i<j+1+(m.length-j)):SQ m e j i=bW (m.take j++e :: m.drop j) i:=by
 have ej:0+Int.toNat ((j:Int)-0)=j:=by omega
 unfold SQ
 rw[ej]
 have lt:(m.take j).length=j:=by rw[List.length_take];omega
 by_cases h:i<j+1
 ·rw[show Nat.blt i (j+1)=true from by rw[Nat.blt_eq];exact h,cond_true]
  by_cases h2:i<j
  ·rw[show Nat.blt i j=true from by rw[Nat.blt_eq];exact h2,cond_true,show Nat.blt i 0=false from by cases i<;>rfl,cond_false,show 0+Int.toNat 0+(i-0)=i by omega]
   unfold bW
   rw[List.getD,List.getD,List.getElem?_append_left (by omega),List.getElem?_take_of_lt h2]
  ·obtain rfl:i=j:=by omega
   rw[show Nat.blt i i=false from by rw[Bool.eq_false_iff,ne_eq,Nat.blt_eq];omega,cond_false,Nat.sub_self]
   unfold bW
   rw[List.getD,List.getElem?_append_right (by omega),lt,Nat.sub_self]
   rfl
 ·rw[show Nat.blt i (j+1)=false from by rw[Bool.eq_false_iff,ne_eq,Nat.blt_eq];omega,cond_false,show Nat.blt (0+(i-(j+1))) 0=false from by cases (0+(i-(j+1)))<;>rfl,cond_false,show 0+Int.toNat (j:Int)+(0+(i-(j+1))-0)=i-1 by omega]
  unfold bW
  rw[List.getD,List.getD,List.getElem?_append_right (by omega),lt,show i-j=(i-1-j)+1 by omega,List.getElem?_cons_succ,List.getElem?_drop,show j+(i-1-j)=i-1 by omega]
theorem aaT (b:Bk) (i:Nat) (m l:List Ev) (k:Nat) (hk:k<l.length) (hm:m.length≤1000000) (hl:l.length≤3000001) (hs:m.Pairwise (fun a b=>a.t≤b.t)) {K:List It} {Q:Exit→AS→Prop} (h:∀j,j≤m.length→ins (l.getD k ev0) m=m.take j++l.getD k ev0 :: m.drop j→aX Tryz.prog G (cd Tryz.f59 [1,1,0,1,0,0,1,0,0,1,1,0,0,1,0,0,1,1] :: K) (Tt b i m l k j) Q):aX Tryz.prog G (cd Tryz.f59 [1,1,0,1,0,0,1,0,0,1,1,0,0,1,0,0,1,0,0] :: .blk 4 :: (cd Tryz.f59 [1,1,0,1,0,0,1,0,0,1,1,0,0,1,0,0,1,1] :: K)) (Tt b i m l k m.length) Q:=by
 refine aX.loop (c:=aU (au Tryz.f59) [1,1,0,1,0,0,1,0,0,1,1,0,0,1,0,0,1,0,0,0]) (by kernel_rfl) (fun j:Nat=>Tt b i m l k j) (fun j=>j≤m.length∧∀q,j≤q→q<m.length→(l.getD k ev0).t<(m.getD q ev0).t) (fun j=>j) m.length ?_ ⟨Nat.le_refl _,fun q a c=>by omega⟩ ?_
 ·exact AS.bD (by kernel_rfl)
 rintro j ⟨hj,hq⟩
 refine gK (aj:={ d:=bG }) (cuts:=[12]) ?_
 refine aV (fun ZT ZW _ _ ZA _=>(fun Za=>(((((decide ((↑j:Int)>0))=true)→(I64 (↑j-1)))∧(((decide ((↑j:Int)>0))=true)→((0≤(↑j:Int)-1)∧((↑j:Int)-1<↑m.length)))∧(((decide ((↑j:Int)>0))=true)→((0≤(↑k:Int))∧((↑k:Int)<↑l.length))))∧((Za=true)→((I64 (↑j-1))∧(ZA (aB ZT [0]))))∧((Za=false)→ZW (cd Tryz.f59 [1,1,0,1,0,0,1,0,0,1,1,0,0,1,0,0,1,1] :: K) (aB ZT [1]) Q))) (decide ((↑j:Int)>0)&&decide ((m.getD (0+((↑j:Int)-1).toNat) ev0).t>(l.getD (↑k:Int).toNat ev0).t))) (by kernel_rfl) ?_
 refine⟨⟨fun c=>?_,fun c=>?_,fun c=>⟨by omega,by omega⟩⟩,fun c=>?_,fun c=>?_⟩
 ·have:=dn c;exact⟨by omega,by omega⟩
 ·have:=dn c;exact⟨by omega,by omega⟩
 ·rw[aY] at c
  have c1:=dn c.1
  have c2:=dn c.2
  rw[show 0+((j:Int)-1).toNat=j-1 by omega,show ((k:Int)).toNat=k from rfl] at c2
  refine⟨⟨by omega,by omega⟩,Again.mk (j-1) ?_ ⟨by omega,fun q a b=>?_⟩ (by omega)⟩
  ·refine AS.leZ [5] [] (b:=((T0∧T0∧T0∧T0∧T0∧((vi (↑j-1)):AV)=(vi (↑(j-1)))∧True)∧T0∧T0∧True)) (by kernel_rfl) (by kernel_rfl) ?_
   exact⟨⟨rfl,rfl,rfl,rfl,rfl,nD (by omega),trivial⟩,rfl,rfl,trivial⟩
  ·by_cases e:q=j-1
   ·subst e;exact c2
   ·exact hq q (by omega) b
 ·refine aX.weaken ?_ (h j hj (aaW hs hj hq ?_))
  ·exact AS.bD (by kernel_rfl)
  ·rw[Bool.and_eq_false_iff] at c
   rcases c with c|c
   ·left;have:=of_decide_eq_false c;omega
   ·right
    have:=of_decide_eq_false c
    rw[show 0+((j:Int)-1).toNat=j-1 by omega,show ((k:Int)).toNat=k from rfl] at this
    omega
theorem f59 (b:Bk) (hs:gq b.es) (hl:(bn b.es).length≤1000000):aA Tryz.prog G 59 [cu b] (eu (ak b)):=by
 refine aA.dA Tryz.func59 rfl Tryz.call59 ?_
 refine dZ (aj:=zD []) ?_
 refine aC (fun ZT ZW ZQ _=>ZW [cd Tryz.f59 [1,1,0,1,0],(.blk 0),cd Tryz.f59 [1,1,1]] (aB ZT []) ZQ) (by kernel_rfl) ?_
 refine aX.weaken (st':=adD b) ?_ ?_
 ·exact AS.bD (by kernel_rfl)
 refine aX.pre ((AS.cO.moves [(9,903)] _ rfl).trans ((AS.cO.of_le (st':=⟨(S59 b 0 []).regs,[(1,(fQ b).map .d),(903,[.arr mY 9 (fun _=>.con undef)])]⟩) ?_).trans ((AS.cO.l9 _ 3 903 0 (bW []) rfl rfl rfl (by kernel_rfl) fun i hi=>absurd hi (Nat.not_lt_zero i)).trans (.of_le (st':=S59 b 0 []) ?_)))) ?_
 ·exact AS.bD (by kernel_rfl)
 ·exact AS.bD (by kernel_rfl)
 refine aX.loop (c:=aU (au Tryz.f59) [1,1,0,1,0,0]) (by kernel_rfl) (fun i:Nat=>S59 b i (gY (bn (b.es.take i)))) (fun i=>i≤b.es.length) (fun i=>b.es.length-i) 0 ?_ (Nat.zero_le _) ?_
 ·refine AS.leZ [] [1] (b:=((T0∧T0∧T0∧True)∧T0∧((some [(.arr bY 9 (bW []))]):dS)=(some [(.arr bY 9 (bW (gY (bn (List.take 0 b.es)))))])∧True)) (by kernel_rfl) (by kernel_rfl) ?_
  exact⟨⟨rfl,rfl,rfl,trivial⟩,rfl,rfl,trivial⟩
 intro i hi
 by_cases h2:i<b.es.length
 ·have hx:=hs.2 i h2
  have h57:=f57 (G:=G) (b.es.getD i en0) hx
  generalize hlx:fD (b.es.getD i en0)=l at *
  refine dZ (aj:=zD l) ?_
  refine aV (fun ZT ZW ZQ ZK _ ZR=>(fun Za=>((((decide ((↑i:Int)<↑b.es.length))=true)→((((0≤(↑i:Int))∧((↑i:Int)<↑b.es.length))∧ZK 57 [(.agg [(ds Za.k.st),(ds Za.k.ex),(di Za.k.n),(di Za.t),(ds Za.s),(.slc 4 Za.gs.length (dP Za.gs)),(.slc 6 Za.ah.length (dI Za.ah))])] (.slc 9 l.length (bW l)))∧ZW [cd Tryz.f59 [1,1,0,1,0,0,1,0,0,1,1,0],(.blk 2),(.blk 1),cd Tryz.f59 [1,1,0,1,0,0,1,1]] (aB ZT [0]) ZR))∧(((decide ((↑i:Int)<↑b.es.length))=false)→ZW [cd Tryz.f59 [1,1,1]] (aB ZT [1]) ZQ))) (b.es.getD (↑i:Int).toNat en0)) (by kernel_rfl) ?_
  try dsimp only
  have hel:=Kv hx
  rw[hlx] at hel
  have hal:bn (b.es.take (i+1))=bn (b.es.take i)++l:=by
   rw[List.take_succ_eq_append_getElem h2,mJ,←hlx,List.getD,gy h2]
   congr 1
   show ([b.es[i]].map fD).flatten=_
   simp
  have hbl:(bn (b.es.take i)).length+l.length≤1000000:=by
   have:bn b.es=bn (b.es.take (i+1))++bn (b.es.drop (i+1)):=by rw[←mJ,List.take_append_drop]
   rw[this,hal,List.length_append,List.length_append] at hl
   omega
  refine⟨fun _=>⟨⟨⟨by omega,by omega⟩,h57⟩,?_⟩,fun hd=>absurd (of_decide_eq_false hd) (by omega)⟩
  refine aX.loop (c:=aU (au Tryz.f59) [1,1,0,1,0,0,1,0,0,1,1,0,0]) (by kernel_rfl) (fun k:Nat=>aaP b i (gY (bn (b.es.take i)++l.take k)) l k) (fun k=>k≤l.length) (fun k=>l.length-k) 0 ?_ (Nat.zero_le _) ?_
  ·refine AS.leZ [1] [1] (b:=((T0∧((.vec 903 9 0 (gY (bn (List.take i b.es))).length):AV)=(.vec 903 9 0 (gY (bn (List.take i b.es)++List.take 0 l)).length)∧T0∧T0∧T0∧True)∧T0∧((some [(.arr bY 9 (bW (gY (bn (List.take i b.es)))))]):dS)=(some [(.arr bY 9 (bW (gY (bn (List.take i b.es)++List.take 0 l))))])∧True)) (by kernel_rfl) (by kernel_rfl) ?_
   rw[List.take_zero,List.append_nil]
   exact⟨⟨rfl,rfl,rfl,rfl,rfl,trivial⟩,rfl,rfl,trivial⟩
  intro k hk
  by_cases h3:k<l.length
  ·have hm1:(gY (bn (b.es.take i)++l.take k)).length≤1000000:=by
    rw[qF,List.length_append,List.length_take];omega
   have hst:=I9 (bn (b.es.take i)++l.take k)
   have hnx:gY (bn (b.es.take i)++l.take (k+1))=ins (l.getD k ev0) (gY (bn (b.es.take i)++l.take k)):=by
    rw[List.take_succ_eq_append_getElem h3,←List.append_assoc,su,List.getD,gy h3];rfl
   generalize gY (bn (b.es.take i)++l.take k)=m at *
   refine gK (aj:=zD l) (cuts:=[10]) ?_
   refine aV (fun ZT ZW ZQ _ _ ZR=>((((decide ((↑k:Int)<↑l.length))=true)→ZW [cd Tryz.f59 [1,1,0,1,0,0,1,0,0,1,1,0,0,1,0,0,1,0,0],(.blk 4),cd Tryz.f59 [1,1,0,1,0,0,1,0,0,1,1,0,0,1,0,0,1,1],(.blk 3),cd Tryz.f59 [1,1,0,1,0,0,1,0,0,1,1,0,0,1,1]] (aB ZT [0]) ZR)∧(((decide ((↑k:Int)<↑l.length))=false)→ZW [(.blk 1),cd Tryz.f59 [1,1,0,1,0,0,1,1]] (aB ZT [1]) ZQ))) (by kernel_rfl) ?_
   refine⟨fun _=>?_,fun hd=>absurd (of_decide_eq_false hd) (by omega)⟩
   refine aX.weaken (st':=Tt b i m l k m.length) ?_ (aaT b i m l k h3 hm1 hel hst fun j hj hins=>?_)
   ·exact AS.bD (by kernel_rfl)
   refine dZ (aj:=zD l) ?_
   refine aV (fun ZT _ _ _ ZA _=>(fun Za=>((((0≤(↑j:Int))∧((↑j:Int)≤↑m.length)∧((↑m.length:Int)≤↑m.length))∧(Za*96≤1099511627776)∧(0+((↑m.length:Int) - ↑j).toNat≤1099511627776))∧((((0:Int)≤(0:Int))∧(0≤(↑j:Int))∧((↑j:Int)≤↑m.length))∧(((0+((↑j:Int)-0).toNat)*96≤1099511627776)∧(0+((↑j:Int)-0).toNat≤1099511627776))∧((0≤(↑k:Int))∧((↑k:Int)<↑l.length))∧(((0+((↑j:Int)-0).toNat+1)*96≤1099511627776)∧(0+((↑j:Int)-0).toNat+1≤1099511627776))∧((0+((↑j:Int)-0).toNat+1+Za)*96≤1099511627776)∧(0+((↑j:Int)-0).toNat+1+Za≤1099511627776))∧(I64 (↑k+1))∧(ZA (aB ZT [])))) (0+((↑m.length:Int) - ↑j).toNat)) (by kernel_rfl) ?_
   try dsimp only
   rw[show ((m.length:Int)-(j:Int)).toNat=m.length-j by omega,show ((j:Int)-0).toNat=j by omega]
   refine⟨⟨⟨by omega,by omega,by omega⟩,by omega,by omega⟩,⟨⟨by omega,by omega,by omega⟩,⟨by omega,by omega⟩,⟨by omega,by omega⟩,⟨by omega,by omega⟩,by omega,by omega⟩,⟨by omega,by omega⟩,k+1,?_,h3,show l.length-(k+1)<l.length-k from by omega⟩
   show AS.cO _ (aaP b i (gY (bn (b.es.take i)++l.take (k+1))) l (k+1))
   rw[hnx,hins]
   have hlm:(m.take j++l.getD k ev0 :: m.drop j).length=j+1+(m.length-j):=by
    rw[List.length_append,List.length_cons,List.length_take,List.length_drop];omega
   refine(AS.cO.moves [(66,903)] _ rfl).trans ((AS.cO.of_le (st':=ad9 b i l (k+1) (SQ m (l.getD k ev0) j) (j+1+(m.length-j))) ?_).trans ((AS.cO.l9 _ 3 903 (j+1+(m.length-j)) (bW (m.take j++l.getD k ev0 :: m.drop j)) rfl rfl rfl (by kernel_rfl) fun i hi=>Yt m _ hj hi).trans (.of_le ?_)))
   ·refine AS.leZ [1] [1] (b:=((T0∧((.vec 903 9 0 (0+((↑j:Int)-0).toNat+1+(0+((↑m.length:Int) - ↑j).toNat))):AV)=(.vec 903 9 0 (j+1+(m.length-j)))∧T0∧T0∧T0∧True)∧T0∧((some [(.arr bY 9 (fun i=>bif Nat.blt i (0+Int.toNat ((↑j:Int)-0)+1) then bif Nat.blt i (0+Int.toNat ((↑j:Int)-0)) then bif Nat.blt i 0 then DV.con undef else bW m (0+Int.toNat 0+(i-0)) else aW true 9 [di (Ev.kind (List.getD l (Int.toNat (↑k:Int)) ev0)),ds (Ky.st (Ev.k (List.getD l (Int.toNat (↑k:Int)) ev0))),ds (Ky.ex (Ev.k (List.getD l (Int.toNat (↑k:Int)) ev0))),di (Ky.n (Ev.k (List.getD l (Int.toNat (↑k:Int)) ev0))),di (Ev.t (List.getD l (Int.toNat (↑k:Int)) ev0)),di (Ev.v (List.getD l (Int.toNat (↑k:Int)) ev0)),di (Ev.h (List.getD l (Int.toNat (↑k:Int)) ev0)),ds (Ev.s (List.getD l (Int.toNat (↑k:Int)) ev0)),db (Ev.acc (List.getD l (Int.toNat (↑k:Int)) ev0))] (0+(i-(0+Int.toNat ((↑j:Int)-0)))) else bif Nat.blt (0+(i-(0+Int.toNat ((↑j:Int)-0)+1))) 0 then DV.con undef else bW m (0+Int.toNat (↑j:Int)+(0+(i-(0+Int.toNat ((↑j:Int)-0)+1))-0))))]):dS)=(some [(.arr bY 9 (SQ m (l.getD k ev0) j))])∧True)) (by kernel_rfl) (by kernel_rfl) ?_
    exact⟨⟨rfl,congrArg (AV.vec 903 9 0) (by omega),rfl,rfl,rfl,trivial⟩,rfl,rfl,trivial⟩
   ·refine AS.leZ [1] [] (b:=((T0∧((.vec 903 9 0 (j+1+(m.length-j))):AV)=(.vec 903 9 0 (List.take j m++l.getD k ev0 :: List.drop j m).length)∧T0∧T0∧T0∧True)∧T0∧T0∧True)) (by kernel_rfl) (by kernel_rfl) ?_
    exact⟨⟨rfl,congrArg (AV.vec 903 9 0) hlm.symm,rfl,rfl,rfl,trivial⟩,rfl,rfl,trivial⟩
  ·obtain rfl:k=l.length:=by omega
   rw[List.take_length,←hal]
   refine gK (aj:=zD l) (cuts:=[9]) ?_
   refine aV (fun ZT ZW ZQ _ _ ZR=>((((decide ((↑l.length:Int)<↑l.length))=true)→ZW [cd Tryz.f59 [1,1,0,1,0,0,1,0,0,1,1,0,0,1,0,0],(.blk 3),cd Tryz.f59 [1,1,0,1,0,0,1,0,0,1,1,0,0,1,1]] (aB ZT [0]) ZR)∧(((decide ((↑l.length:Int)<↑l.length))=false)→ZW [(.blk 1),cd Tryz.f59 [1,1,0,1,0,0,1,1]] (aB ZT [1]) ZQ))) (by kernel_rfl) ?_
   refine⟨fun hd=>absurd (dn hd) (by omega),fun _=>?_⟩
   refine dZ (aj:=zD l) ?_
   refine aV (fun ZT _ _ _ ZA _=>((I64 (↑i+1))∧(ZA (aB ZT [])))) (by kernel_rfl) ?_
   have hlb:=hs.1
   refine⟨⟨by omega,by omega⟩,Again.mk (i+1) ?_ h2 (by omega)⟩
   exact AS.bD (by kernel_rfl)
 ·obtain rfl:i=b.es.length:=by omega
  rw[List.take_length]
  refine gK (aj:=zD []) (cuts:=[5]) ?_
  refine aV (fun ZT ZW ZQ _ _ ZR=>((((decide ((↑b.es.length:Int)<↑b.es.length))=true)→ZW [cd Tryz.f59 [1,1,0,1,0,0,1,0,0],(.blk 1),cd Tryz.f59 [1,1,0,1,0,0,1,1]] (aB ZT [0]) ZR)∧(((decide ((↑b.es.length:Int)<↑b.es.length))=false)→ZW [cd Tryz.f59 [1,1,1]] (aB ZT [1]) ZQ))) (by kernel_rfl) ?_
  refine⟨fun hd=>absurd (dn hd) (by omega),fun _=>?_⟩
  refine dZ (aj:=zD []) ?_
  refine aC (fun _ _ _ _=>(((.slc 9 (gY (bn b.es)).length (fun i=>bW (gY (bn b.es)) (0+i))):DV)=(eu (ak b)))) (by kernel_rfl) ?_
  exact congrArg (DV.slc 9 _) (funext fun i=>by rw[Nat.zero_add];rfl)
def Ef (x:En):Bool:=!(decide ((x.gs.length:Int)>20)||decide ((x.ah.length:Int)>20)||!sH (fD x) 60)
def qV (b:Bk):Bool:=!decide ((b.es.length:Int)>12)&&b.es.all Ef
noncomputable def S28 (b:Bk) (j:Nat):AS:=⟨regs Tryz.f28.ntmps [(1,.box 1 0),(2,vb false),(3,vi j)],[(1,(fQ b).map .d)]⟩
def Nz (x:En):dU:={ d:=fun f _=>bif Nat.beq f 57 then some (eu (fD x)) else bif Nat.beq f 12 then some (db (sH (fD x) 60)) else none }
theorem f28 (b:Bk):aA Tryz.prog G 28 [cu b] (db (qV b)):=by
 refine aA.dA Tryz.func28 rfl Tryz.call28 ?_
 refine dZ (aj:=Nz en0) ?_
 refine aC (fun ZT ZW ZQ _=>((((decide ((↑b.es.length:Int)>12))=true)→(((db false):DV)=(db (qV b))))∧(((decide ((↑b.es.length:Int)>12))=false)→ZW [cd Tryz.f28 [1,1,0,1,0],(.blk 0),cd Tryz.f28 [1,1,1]] (aB ZT [1]) ZQ))) (by kernel_rfl) ?_
 refine⟨fun c=>?_,fun c=>?_⟩
 ·unfold qV
  rw[c];rfl
 have hl:b.es.length≤12:=by have:=of_decide_eq_false c;omega
 refine aX.loop (c:=aU (au Tryz.f28) [1,1,0,1,0,0]) (by kernel_rfl) (fun j:Nat=>S28 b j) (fun j=>j≤b.es.length∧∀i,i<j→Ef (b.es.getD i en0)=true) (fun j=>b.es.length-j) 0 ?_ ⟨Nat.zero_le _,fun i hi=>absurd hi (Nat.not_lt_zero i)⟩ ?_
 ·exact AS.bD (by kernel_rfl)
 rintro j ⟨hj,hq⟩
 by_cases h2:j<b.es.length
 ·refine dZ (aj:=Nz (b.es.getD j en0)) ?_
  refine aV (fun ZT ZW ZQ ZK ZA _=>(fun Za=>((((decide ((↑j:Int)<↑b.es.length))=true)→(((0≤(↑j:Int))∧((↑j:Int)<↑b.es.length))∧((((!(decide ((↑Za.gs.length:Int)>20)||decide ((↑Za.ah.length:Int)>20)))=true)→ZK 57 [(.agg [(ds Za.k.st),(ds Za.k.ex),(di Za.k.n),(di Za.t),(ds Za.s),(.slc 4 Za.gs.length (dP Za.gs)),(.slc 6 Za.ah.length (dI Za.ah))])] (.slc 9 (fD (b.es.getD j en0)).length (bW (fD (b.es.getD j en0)))))∧(((!(decide ((↑Za.gs.length:Int)>20)||decide ((↑Za.ah.length:Int)>20)))=true)→ZK 12 [(.slc 9 (fD (b.es.getD j en0)).length (bW (fD (b.es.getD j en0)))),(di 60)] (db (sH (fD (b.es.getD j en0)) 60))))∧(((decide ((↑Za.gs.length:Int)>20)||decide ((↑Za.ah.length:Int)>20)||!sH (fD (b.es.getD j en0)) 60)=true)→(((db false):DV)=(db (qV b))))∧(((decide ((↑Za.gs.length:Int)>20)||decide ((↑Za.ah.length:Int)>20)||!sH (fD (b.es.getD j en0)) 60)=false)→((I64 (↑j+1))∧(ZA (aB ZT [0,1]))))))∧(((decide ((↑j:Int)<↑b.es.length))=false)→ZW [cd Tryz.f28 [1,1,1]] (aB ZT [1]) ZQ))) (b.es.getD (↑j:Int).toNat en0)) (by kernel_rfl) ?_
  try dsimp only
  rw[show ((j:Int)).toNat=j from rfl]
  generalize hx:b.es.getD j en0=x
  have e1:Ef x = !(decide ((x.gs.length:Int)>20)||decide ((x.ah.length:Int)>20)||!sH (fD x) 60):=rfl
  have hz:(!(decide ((x.gs.length:Int)>20)||decide ((x.ah.length:Int)>20)))=true→QJ x:=fun c2=>by
   have c2:(decide ((x.gs.length:Int)>20)||decide ((x.ah.length:Int)>20))=false:=by simpa using c2
   obtain ⟨d1,d2⟩:=Bool.or_eq_false_iff.1 c2
   have d1:=of_decide_eq_false d1
   have d2:=of_decide_eq_false d2
   exact⟨by omega,by omega⟩
  refine⟨fun _=>⟨⟨by omega,by omega⟩,⟨fun c2=>f57 x (hz c2),fun c2=>f12 (fD x) 60 (by have:=Kv (hz c2);omega)⟩,fun c2=>?_,fun c2=>⟨⟨by omega,by omega⟩,Again.mk (j+1) ?_ ⟨h2,fun i hi=>?_⟩ (by show b.es.length-(j+1)<b.es.length-j;omega)⟩⟩,fun hd=>absurd (of_decide_eq_false hd) (by omega)⟩
  ·have h1:Ef x=false:=by rw[e1,c2];rfl
   have:qV b=false:=by
    unfold qV
    rw[c,List.all_eq_false.2 ⟨x,?_,by rw[h1];decide⟩]
    ·rfl
    ·rw[←hx,List.getD,gy h2]
     exact List.getElem_mem h2
   rw[this]
  ·exact AS.bD (by kernel_rfl)
  ·by_cases e:i=j
   ·subst e
    rw[hx,e1,c2];rfl
   ·exact hq i (by omega)
 ·obtain rfl:j=b.es.length:=by omega
  refine gK (aj:=Nz en0) (cuts:=[6]) ?_
  refine aV (fun ZT ZW ZQ _ _ ZR=>((((decide ((↑b.es.length:Int)<↑b.es.length))=true)→ZW [cd Tryz.f28 [1,1,0,1,0,0,1,0,0],(.blk 1),cd Tryz.f28 [1,1,0,1,0,0,1,1]] (aB ZT [0]) ZR)∧(((decide ((↑b.es.length:Int)<↑b.es.length))=false)→ZW [cd Tryz.f28 [1,1,1]] (aB ZT [1]) ZQ))) (by kernel_rfl) ?_
  refine⟨fun hd=>absurd (dn hd) (by omega),fun _=>?_⟩
  refine dZ (aj:=Nz en0) ?_
  refine aC (fun _ _ _ _=>(((db true):DV)=(db (qV b)))) (by kernel_rfl) ?_
  have:qV b=true:=by
   unfold qV
   rw[c]
   show List.all b.es Ef=true
   refine List.all_eq_true.2 fun a ha=>?_
   obtain ⟨i,hi,rfl⟩:=List.mem_iff_getElem.1 ha
   have:=hq i hi
   rwa [List.getD,gy hi] at this
  rw[this]
def aco (b:Bk):dU:={ d:=fun f _=>bif Nat.beq f 33 then some (db (aJ aG b)) else bif Nat.beq f 59 then some (eu (ak b)) else none }
theorem adh (b:Bk) (h:tY b) (CQ:aA Tryz.prog G 33 [cu b] (db (aJ aG b))):aA Tryz.prog G 35 [cu b] (bif aJ aG b then eu (ak b) else .con (.slice none 0 0)):=by
 refine aA.walk (aj:=aco b) (keep:=[]) follows Tryz.func35 rfl Tryz.call35 ?_
 refine aC (fun _ _ _ ZK=>(ZK 33 [(.agg [(di b.t),(.slc 7 b.es.length (bK b.es))])] (db (aJ aG b))∧(((!aJ aG b)=true)→((dG:DV)=(bif aJ aG b then eu (ak b) else dG)))∧(((!aJ aG b)=false)→(ZK 59 [(.agg [(di b.t),(.slc 7 b.es.length (bK b.es))])] (.slc 9 (ak b).length (bW (ak b)))∧((.slc 9 (ak b).length (bW (ak b))):DV)=(bif aJ aG b then eu (ak b) else dG))))) (by kernel_rfl) ?_
 refine⟨CQ,fun c=>?_,fun c=>⟨f59 b h.sz h.all,?_⟩⟩
 ·have c:aJ aG b=false:=by simpa using c
  rw[c];rfl
 ·have c:aJ aG b=true:=by simpa using c
  rw[c];rfl
theorem f35 (b:Bk) (h:tY b) (CQ:aA Tryz.prog G 33 [cu b] (db (aJ aG b))):aA Tryz.prog G 35 [cu b] (eu (if aJ aG b=true then ak b else [])):=by
 refine aA.imp (adh b h CQ) fun k v hv=>?_
 cases c:aJ aG b with
 | true=>rw[c] at hv;exact hv
 | false=>
  rw[c] at hv
  have hv:v=.slice none 0 0:=hv
  subst hv
  exact⟨none,0,rfl,Nat.le_refl _,.inl rfl⟩
noncomputable def Lj (b:Bk) (st ex:ByteArray) (r:Ru) (j:Nat) (f:Nat→DV) (m:Nat):AS:=⟨regs Tryz.f29.ntmps [(1,.d (ds st)),(2,.d (ds ex)),(4,.box 4 0),(7,.box 7 0),(8,vi 0),(9,vi 0),(10,.vec 910 3 0 m),(11,vi j)],[(4,(fQ b).map .d),(7,(Du r).map .d),(910,[.arr Dk 3 f])]⟩
def Nv (b:Bk) (n e:Int):dU:={ d:=fun f _=>bif Nat.beq f 33 then some (db (aJ aG b)) else bif Nat.beq f 26 then some (.aN [di n,di e]) else none,rows:=fun n=>Nat.beq n 17||Nat.beq n 63 }
theorem f29 (b:Bk) (st ex:ByteArray) (r:Ru) (h:tY b) (CQ:aA Tryz.prog G 33 [cu b] (db (aJ aG b))):aA Tryz.prog G 29 [cu b,ds st,ds ex,CY r] (.aN [di (uI b st ex r),di (uF b st ex r)]):=by
 have hlb:=h.sz.1
 refine aA.dA Tryz.func29 rfl Tryz.call29 ?_
 refine gK (aj:=Nv b 0 0) (cuts:=[5]) ?_
 refine aC (fun ZT ZW ZQ ZK=>(ZK 33 [(.agg [(di b.t),(.slc 7 b.es.length (bK b.es))])] (db (aJ aG b))∧(((!aJ aG b)=true)→(((.aN [(di 0),(di 1)]):DV)=(.aN [(di (uI b st ex r)),(di (uF b st ex r))])))∧(((!aJ aG b)=false)→ZW [cd Tryz.f29 [1,1,1,0,1,0],(.blk 0),cd Tryz.f29 [1,1,1,1]] (aB ZT [1]) ZQ))) (by kernel_rfl) ?_
 refine⟨CQ,fun c=>?_,fun c=>?_⟩
 ·have c:aJ aG b=false:=by simpa using c
  unfold uI uF
  rw[c];rfl
 have c:aJ aG b=true:=by simpa using c
 unfold uI uF
 rw[if_pos c,if_pos c]
 refine aX.pre ((AS.cO.moves [(17,910)] _ rfl).trans ((AS.cO.of_le (st':=Lj b st ex r 0 (fun _=>.con undef) 0) ?_).trans ((AS.cO.l9 _ 10 910 0 (ji []) rfl rfl rfl (by kernel_rfl) fun i hi=>absurd hi (Nat.not_lt_zero i)).trans (.of_le (st':=Lj b st ex r 0 (ji []) 0) ?_)))) ?_
 ·exact AS.bD (by kernel_rfl)
 ·exact AS.bD (by kernel_rfl)
 refine aX.loop (c:=aU (au Tryz.f29) [1,1,1,0,1,0,0]) (by kernel_rfl) (fun j=>Lj b st ex r j (ji (gJ (gI (b.es.take j) st ex))) (gJ (gI (b.es.take j) st ex)).length) (fun j=>j≤b.es.length) (fun j=>b.es.length-j) 0 ?_ (Nat.zero_le _) ?_
 ·refine AS.leZ [] [2] (b:=((T0∧T0∧T0∧T0∧T0∧T0∧T0∧T0∧True)∧T0∧T0∧((some [(.arr ⟨true,57,false,none⟩ 3 (ji []))]):dS)=(some [(.arr ⟨true,57,false,none⟩ 3 (ji (gJ (gI (List.take 0 b.es) st ex))))])∧True)) (by kernel_rfl) (by kernel_rfl) ?_
  exact⟨⟨rfl,rfl,rfl,rfl,rfl,rfl,rfl,rfl,trivial⟩,rfl,rfl,rfl,trivial⟩
 intro j hj
 by_cases h2:j<b.es.length
 ·have ht:=Md (st:=st) (ex:=ex) h2
  have hxe:=Q9 st ex (b.es.getD j en0)
  have hz:=(h.sz.2 j h2).1
  have hL:(gJ (gI (b.es.take j) st ex)).length≤j:=by
   rw[Ci]
   have:=List.length_filterMap_le (D8 st ex) (b.es.take j)
   unfold gI
   rw[List.length_take] at this
   omega
  have hsn:∀p,gJ (gI (b.es.take j) st ex++[p])=gJ (gI (b.es.take j) st ex)++[⟨(gJ (gI (b.es.take j) st ex)).length+1,p.1,p.2⟩]:=fun p=>by rw[LH,Ci]
  generalize Vy:gJ (gI (b.es.take j) st ex)=L at hL hsn⊢
  refine dZ (aj:=Nv b 0 0) ?_
  refine aV (fun ZT ZW ZQ _ ZA _=>(fun Za=>((((decide ((↑j:Int)<↑b.es.length))=true)→(((0≤(↑j:Int))∧((↑j:Int)<↑b.es.length))∧(((decide ((↑Za.gs.length:Int)>0)&&Za.k.st.toList==st.toList&&Za.k.ex.toList==ex.toList)=true)→(((I64 (↑L.length+1))∧(I64 (↑Za.gs.length-1))∧((0≤(↑Za.gs.length:Int)-1)∧((↑Za.gs.length:Int)-1<↑Za.gs.length))∧((L.length+1)*24≤1099511627776)∧(L.length+1≤1099511627776))∧(I64 (↑j+1))∧(ZA (aB ZT [0,0]))))∧(((decide ((↑Za.gs.length:Int)>0)&&Za.k.st.toList==st.toList&&Za.k.ex.toList==ex.toList)=false)→((I64 (↑j+1))∧(ZA (aB ZT [0,1]))))))∧(((decide ((↑j:Int)<↑b.es.length))=false)→ZW [cd Tryz.f29 [1,1,1,1]] (aB ZT [1]) ZQ))) (b.es.getD (↑j:Int).toNat en0)) (by kernel_rfl) ?_
  try dsimp only
  rw[show ((j:Int)).toNat=j from rfl,dJ,dJ]
  generalize hx:b.es.getD j en0=x at hxe hz ht⊢
  refine⟨fun _=>⟨⟨by omega,by omega⟩,fun c=>?_,fun c=>⟨⟨by omega,by omega⟩,?_⟩⟩,fun hd=>absurd (of_decide_eq_false hd) (by omega)⟩
  ·have hpos:0<x.gs.length:=by
    simp only[aY,eF] at c
    omega
   rw[if_pos c] at hxe
   rw[hxe] at ht
   refine⟨⟨⟨by omega,by omega⟩,⟨by omega,by omega⟩,⟨by omega,by omega⟩,by omega,by omega⟩,⟨by omega,by omega⟩,j+1,?_,h2,show b.es.length-(j+1)<b.es.length-j from by omega⟩
   show AS.cO _ (Lj b st ex r (j+1) (ji (gJ (gI (b.es.take (j+1)) st ex))) (gJ (gI (b.es.take (j+1)) st ex)).length)
   rw[ht]
   show AS.cO _ (Lj b st ex r (j+1) (ji (gJ (gI (b.es.take j) st ex++[(x.t,(x.gs.getD (x.gs.length-1) dR).h)]))) (gJ (gI (b.es.take j) st ex++[(x.t,(x.gs.getD (x.gs.length-1) dR).h)])).length)
   rw[hsn]
   refine(AS.cO.moves [(64,910)] _ rfl).trans ((AS.cO.of_le (st':=Lj b st ex r (j+1) (fun i=>bif i.blt L.length then ji L i else aW true 3 [di ((L.length:Int)+1),di x.t,di (x.gs.getD (x.gs.length-1) dR).h] (0+(i-L.length))) (L.length+1)) ?_).trans ((AS.cO.l9 _ 10 910 (L.length+1) (ji (L++[⟨(L.length:Int)+1,x.t,(x.gs.getD (x.gs.length-1) dR).h⟩])) rfl rfl rfl (by kernel_rfl) fun i hi=>QS i hi).trans (.of_le ?_)))
   ·refine AS.leZ [] [2] (b:=((T0∧T0∧T0∧T0∧T0∧T0∧T0∧T0∧True)∧T0∧T0∧((some [(.arr ⟨true,57,false,none⟩ 3 (fun i=>bif i.blt L.length then ji L i else aW true 3 [di ((↑L.length:Int)+1),DV.con (Value.int IntKind.i64 (b.es.getD ((↑j:Int):Int).toNat en0).t),DV.con (Value.int IntKind.i64 ((b.es.getD ((↑j:Int):Int).toNat en0).gs.getD ((↑(b.es.getD (↑j:Int).toNat en0).gs.length:Int)-1).toNat dR).h)] (0+(i-L.length))))]):dS)=(some [(.arr ⟨true,57,false,none⟩ 3 (fun i=>bif i.blt L.length then ji L i else aW true 3 [di (↑L.length+1),di x.t,DV.con (Value.int IntKind.i64 (x.gs.getD (x.gs.length-1) dR).h)] (0+(i-L.length))))])∧True)) (by kernel_rfl) (by kernel_rfl) ?_
    rw[show ((j:Int)).toNat=j from rfl,hx,show ((x.gs.length:Int)-1).toNat=x.gs.length-1 by omega]
    exact⟨⟨rfl,rfl,rfl,rfl,rfl,rfl,rfl,rfl,trivial⟩,rfl,rfl,rfl,trivial⟩
   ·refine AS.leZ [6] [] (b:=((T0∧T0∧T0∧T0∧T0∧T0∧((.vec 910 3 0 (L.length+1)):AV)=(.vec 910 3 0 (L++[At.mk (↑L.length+1) x.t (x.gs.getD (x.gs.length-1) dR).h]).length)∧T0∧True)∧T0∧T0∧T0∧True)) (by kernel_rfl) (by kernel_rfl) ?_
    exact⟨⟨rfl,rfl,rfl,rfl,rfl,rfl,by rw[List.length_append];rfl,rfl,trivial⟩,rfl,rfl,rfl,trivial⟩
  ·rw[if_neg (by rw[c];decide)] at hxe
   rw[hxe] at ht
   refine⟨j+1,?_,h2,show b.es.length-(j+1)<b.es.length-j from by omega⟩
   show AS.cO _ (Lj b st ex r (j+1) (ji (gJ (gI (b.es.take (j+1)) st ex))) (gJ (gI (b.es.take (j+1)) st ex)).length)
   rw[ht]
   show AS.cO _ (Lj b st ex r (j+1) (ji (gJ (gI (b.es.take j) st ex++[]))) (gJ (gI (b.es.take j) st ex++[])).length)
   rw[List.append_nil,Vy]
   refine .of_le ?_
   exact AS.bD (by kernel_rfl)
 ·obtain rfl:j=b.es.length:=by omega
  rw[List.take_length]
  refine gK (aj:=Nv b 0 0) (cuts:=[7]) ?_
  refine aV (fun ZT ZW ZQ _ _ ZR=>((((decide ((↑b.es.length:Int)<↑b.es.length))=true)→ZW [cd Tryz.f29 [1,1,1,0,1,0,0,1,0,0],(.blk 1),cd Tryz.f29 [1,1,1,0,1,0,0,1,1]] (aB ZT [0]) ZR)∧(((decide ((↑b.es.length:Int)<↑b.es.length))=false)→ZW [cd Tryz.f29 [1,1,1,1]] (aB ZT [1]) ZQ))) (by kernel_rfl) ?_
  refine⟨fun hd=>absurd (dn hd) (by omega),fun _=>?_⟩
  refine dZ (aj:=Nv b (mV r (ru b st ex)) (mM r (ru b st ex))) ?_
  refine aC (fun _ _ _ ZK=>(ZK 26 [(.agg [(di r.kind),(di r.most),(di r.pause),(di r.keep)]),(.slc 3 (gJ (gI b.es st ex)).length (fun i=>ji (gJ (gI b.es st ex)) (0+i)))] (.aN [(di (mV r (ru b st ex))),(di (mM r (ru b st ex)))])∧(ZS ((.aN [(di (mV r (ru b st ex))),(di (mM r (ru b st ex)))]):DV)))) (by kernel_rfl) ?_
  refine⟨aA.args (f26 r (ru b st ex)) fun _ us hh=>DV.gU (fun _ h=>h) (DV.gU (fun _ hv=>DV.fE (fun i hi=>by rw[Nat.zero_add];rfl) hv) (fun _ h=>h)) us hh,rfl⟩
end Go.Proofs
namespace Go.Proofs
open Go Go.Ab
end Go.Proofs
namespace Go.Proofs
open Go.Shelf
end Go.Proofs
namespace Go.Proofs
open Go Go.Ab Go.RowKit
variable {G:IH}
end Go.Proofs
namespace Go.Proofs
open Go Go.Ab Go.RowKit
variable {G:IH}
open Go.RowKit in
open Go.RowKit in
open Go.RowKit in
open Go.RowKit Go.Lib in
abbrev TV:RK:=⟨false,9,false,none⟩
def oG (l:List ByteArray) (i:Nat):DV:=(l.map fun s=>ds s).getD i (.con undef)
def aee (l:List ByteArray):DV:=.slc 1 l.length (oG l)
theorem PO (l:List ByteArray) (p:ByteArray):(fun i=>bif Nat.blt i l.length then oG l i else aW false 1 [ds p] (i-l.length))=oG (l++[p]):=by
 funext i
 cases h:Nat.blt i l.length with
 | true=>
  rw[Nat.blt_eq] at h
  simp only[cond_true,oG,List.map_append,List.getD_eq_getElem?_getD,List.getElem?_append_left (show i<(l.map fun s=>ds s).length by simpa using h)]
 | false=>
  have h:¬i<l.length:=by rw[←Nat.blt_eq,h];decide
  simp only[cond_false,oG,List.map_append,List.getD_eq_getElem?_getD,List.getElem?_append_right (show (l.map fun s=>ds s).length≤i by simpa using h),List.length_map]
  rfl
end Go.Proofs
namespace Go.Proofs
open Go Go.Ab Go.RowKit
variable {G:IH}
theorem LD (l:List ByteArray) {h:IH} {v:Value} (hr:(aee l).rel h v):(zI l).rel h v:=by
 refine DV.fE (fun i hi=>?_) hr
 unfold Ec
 rw[KL hi]
 simp[oG,hi]
theorem IZ {e:Ev} (h:aG e=true):og e=0∧encS e=bs (bM (iT e))∧(bM (iT e)).length≤5000:=by
 obtain ⟨b1,b2,b3,b4,b5,b6⟩:=JV h
 obtain ⟨s1,s2⟩:=Es h
 have q1:=iH _ b1
 have q2:=iH _ b2
 have q3:=iH _ b3
 have q4:=iH _ b4
 have q5:=iH _ b5
 have hf:∀f:ByteArray,f.size≤100000→(lQ f).length≤22+f.size:=fun f hf=>by
  rw[qK]
  have:=iH (f.size:Int) ⟨by omega,by omega⟩
  omega
 have hacc:(bif e.acc then (⟨#[49]⟩:ByteArray) else ⟨#[48]⟩).size=1:=by cases e.acc<;>rfl
 have hl:(bM (iT e)).length≤5000:=by
  have r1:=hf (bs (Lib.itoa e.kind)) (by rw[eX];omega)
  have r2:=hf e.k.st (by omega)
  have r3:=hf e.k.ex (by omega)
  have r4:=hf (bs (Lib.itoa e.k.n)) (by rw[eX];omega)
  have r5:=hf (bs (Lib.itoa e.t)) (by rw[eX];omega)
  have r6:=hf (bs (Lib.itoa e.v)) (by rw[eX];omega)
  have r7:=hf (bs (Lib.itoa e.h)) (by rw[eX];omega)
  have r8:=hf e.s (by omega)
  have r9:=hf (bif e.acc then ⟨#[49]⟩ else ⟨#[48]⟩) (by rw[hacc];omega)
  rw[hacc] at r9
  rw[eX] at r1 r4 r5 r6 r7
  unfold iT
  simp only[bM,List.length_append,List.length_nil]
  omega
 have hb:jg (iT e)=false:=by
  unfold jg
  rw[Bool.or_eq_false_iff]
  exact⟨decide_eq_false (by simp[iT]),decide_eq_false (by omega)⟩
 unfold og encS fH fG
 rw[h,hb]
 exact⟨rfl,rfl,hl⟩
def eH (b:Bk):List ByteArray:=(ak b).map encS
def mX (b:Bk):ByteArray:=if aJ aG b=true then fG (eH b) else .empty
def mQ (b:Bk):Int:=if aJ aG b=true then fH (eH b) else 1
noncomputable def aen (b:Bk):AS:=⟨regs Tryz.f30.ntmps [(1,.box 1 0),(2,vs ⟨#[]⟩),(3,vi 0),(4,.d (.con (.slice none 0 0))),(13,.d (eu (ak b))),(14,vi (ak b).length),(15,vi 0)],[(1,(fQ b).map .d)]⟩
noncomputable def S30 (b:Bk) (j:Nat) (l:List ByteArray):AS:=⟨regs Tryz.f30.ntmps [(1,.box 1 0),(2,vs ⟨#[]⟩),(3,vi 0),(4,.vec 904 1 0 l.length),(13,.d (eu (ak b))),(14,vi (ak b).length),(15,vi j)],[(1,(fQ b).map .d),(904,[.arr TV 1 (oG l)])]⟩
def aae (b:Bk) (S:ByteArray) (E:Int) (l:List ByteArray):iR:=fun f _=>match f with
 | 32=>some (db (aJ aG b))
 | 53=>some (eu (ak b))
 | 38=>some (.aN [ds S,di E])
 | 58=>some (.aN [ds (fG l),di (fH l)])
 | _=>none
def NG (b:Bk) (S:ByteArray) (E:Int) (l:List ByteArray):dU:={ d:=aae b S E l,rows:=fun n=>Nat.beq n 29 }
theorem IU {b:Bk} {j:Nat} (h:j<(ak b).length):(eH b).take (j+1)=(eH b).take j++[encS ((ak b).getD j ev0)]:=by
 unfold eH
 rw[←List.map_take,←List.map_take,List.take_succ_eq_append_getElem h,List.map_append,List.getD,gy h]
 rfl
theorem f30 (hT:Tab G) (b:Bk) (h:tY b):aA Tryz.prog G 30 [cu b] (.aN [ds (mX b),di (mQ b)]):=by
 refine aA.dA Tryz.func30 rfl Tryz.call30 ?_
 refine gK (aj:=NG b .empty 0 []) (cuts:=[5]) ?_
 refine aC (fun ZT ZW ZQ ZK=>(ZK 32 [(.agg [(di b.t),(.slc 7 b.es.length (bK b.es))])] (db (aJ aG b))∧(((!aJ aG b)=true)→(((.aN [(ds (ByteArray.mk #[])),(di 1)]):DV)=(.aN [(ds (mX b)),(di (mQ b))])))∧(((!aJ aG b)=false)→(ZK 53 [(.agg [(di b.t),(.slc 7 b.es.length (bK b.es))])] (.slc 9 (ak b).length (bW (ak b)))∧ZW [cd Tryz.f30 [1,1,1,0,1,0],(.blk 0),cd Tryz.f30 [1,1,1,1]] (aB ZT [1]) ZQ)))) (by kernel_rfl) ?_
 refine⟨h.f32,fun c=>?_,fun c=>⟨f53 b h.sz h.all,?_⟩⟩
 ·have c:aJ aG b=false:=by simpa using c
  unfold mX mQ
  rw[c];rfl
 have c:aJ aG b=true:=by simpa using c
 have hl:=h.evs
 have hok:∀j,j<(ak b).length→aG ((ak b).getD j ev0)=true:=fun j hj=>by
  refine val_ok c _ ((ng _).1 ?_)
  rw[List.getD,gy hj]
  exact List.getElem_mem hj
 have hall:=JL c
 have hel:(ak b).length≤12544:=by unfold ak;rw[qF];exact hall
 have hsm:rJ (eH b):=by
  refine⟨by unfold eH;rw[List.length_map];omega,fun f hf=>?_⟩
  obtain ⟨e,he,rfl⟩:=List.mem_map.1 hf
  obtain ⟨_,q1,q2⟩:=IZ (val_ok c e ((ng _).1 he))
  rw[q1,eX];omega
 unfold mX mQ
 rw[if_pos c,if_pos c]
 refine aX.weaken (st':=aen b) ?_ ?_
 ·exact AS.bD (by kernel_rfl)
 refine aX.pre (.nilRow _ 4 904 1 TV (oG []) (by kernel_rfl) (by kernel_rfl)) ?_
 refine aX.loop (c:=aU (au Tryz.f30) [1,1,1,0,1,0,0]) (by kernel_rfl) (fun j=>S30 b j ((eH b).take j)) (fun j=>j≤(ak b).length) (fun j=>(ak b).length-j) 0 ?_ (Nat.zero_le _) ?_
 ·refine AS.leZ [] [1] (b:=((T0∧T0∧T0∧T0∧T0∧T0∧T0∧True)∧T0∧((some [(.arr ⟨false,9,false,none⟩ 1 (oG []))]):dS)=(some [(.arr ⟨false,9,false,none⟩ 1 (oG (List.take 0 (eH b))))])∧True)) (by kernel_rfl) (by kernel_rfl) ?_
  exact⟨⟨rfl,rfl,rfl,rfl,rfl,rfl,rfl,trivial⟩,rfl,rfl,trivial⟩
 intro j hj
 by_cases h2:j<(ak b).length
 ·have hok:=hok j h2
  obtain ⟨e0,_,_⟩:=IZ hok
  obtain ⟨z1,z2⟩:=Es hok
  have h38:=f38 (G:=G) hT ((ak b).getD j ev0) (by omega) (by omega)
  rw[e0] at h38
  have htk:(eH b).take (j+1)=(eH b).take j++[encS ((ak b).getD j ev0)]:=IU h2
  have htl:((eH b).take j).length≤12544:=by rw[List.length_take];omega
  generalize Vy:(eH b).take j=L at htl htk⊢
  refine dZ (aj:=NG b (encS ((ak b).getD j ev0)) 0 []) ?_
  refine aV (fun ZT ZW ZQ ZK ZA _=>(fun Za=>((((decide ((↑j:Int)<↑(ak b).length))=true)→(((0≤(↑j:Int))∧((↑j:Int)<↑(ak b).length))∧ZK 38 [(.agg [(di Za.kind),(ds Za.k.st),(ds Za.k.ex),(di Za.k.n),(di Za.t),(di Za.v),(di Za.h),(ds Za.s),(db Za.acc)])] (.aN [(ds (encS ((ak b).getD j ev0))),(di 0)])∧((false=true)→(((.aN [(ds (ByteArray.mk #[])),(di 0)]):DV)=(.aN [(ds (fG (eH b))),(di (fH (eH b)))])))∧((false=false)→((((L.length+1)*16≤1099511627776)∧(L.length+1≤1099511627776))∧(I64 (↑j+1))∧(ZA (aB ZT [0,1]))))))∧(((decide ((↑j:Int)<↑(ak b).length))=false)→ZW [cd Tryz.f30 [1,1,1,1]] (aB ZT [1]) ZQ))) ((ak b).getD (↑j:Int).toNat ev0)) (by kernel_rfl) ?_
  try dsimp only
  rw[show ((j:Int)).toNat=j from rfl]
  refine⟨fun _=>⟨⟨by omega,by omega⟩,h38,fun q=>(by cases q),fun _=>⟨⟨by omega,by omega⟩,⟨by omega,by omega⟩,Again.X4 [(30,904)] rfl (j+1) ?_ h2 (by omega)⟩⟩,fun hd=>absurd (of_decide_eq_false hd) (by omega)⟩
  refine AS.leZ [3] [1] (b:=((T0∧T0∧T0∧((.vec 904 1 0 (L.length+1)):AV)=(.vec 904 1 0 (List.take (j+1) (eH b)).length)∧T0∧T0∧T0∧True)∧T0∧((some [(.arr ⟨false,9,false,none⟩ 1 (fun i=>bif i.blt L.length then oG L i else aW false 1 [ds (encS ((ak b).getD j ev0))] (0+(i-L.length))))]):dS)=(some [(.arr ⟨false,9,false,none⟩ 1 (oG (List.take (j+1) (eH b))))])∧True)) (by kernel_rfl) (by kernel_rfl) ?_
  rw[htk]
  refine⟨⟨rfl,rfl,rfl,?_,rfl,rfl,rfl,trivial⟩,rfl,?_,trivial⟩
  ·rw[List.length_append];rfl
  ·simp only[Nat.zero_add]
   rw[PO]
 ·obtain rfl:j=(ak b).length:=by omega
  rw[List.take_of_length_le (by unfold eH;rw[List.length_map];exact Nat.le_refl _)]
  refine gK (aj:=NG b .empty 0 []) (cuts:=[6]) ?_
  refine aV (fun ZT ZW ZQ _ _ ZR=>((((decide ((↑(ak b).length:Int)<↑(ak b).length))=true)→ZW [cd Tryz.f30 [1,1,1,0,1,0,0,1,1,0,0],(.blk 1),cd Tryz.f30 [1,1,1,0,1,0,0,1,1,1]] (aB ZT [0]) ZR)∧(((decide ((↑(ak b).length:Int)<↑(ak b).length))=false)→ZW [cd Tryz.f30 [1,1,1,1]] (aB ZT [1]) ZQ))) (by kernel_rfl) ?_
  refine⟨fun hd=>absurd (dn hd) (by omega),fun _=>?_⟩
  refine dZ (aj:=NG b .empty 0 (eH b)) ?_
  refine aC (fun _ _ _ ZK=>(ZK 58 [(.slc 1 (eH b).length (fun i=>oG (eH b) (0+i)))] (.aN [(ds (fG (eH b))),(di (fH (eH b)))])∧(ZS ((.aN [(ds (fG (eH b))),(di (fH (eH b)))]):DV)))) (by kernel_rfl) ?_
  exact⟨aA.args (f58 hT (eH b) hsm) fun _ us hh=>DV.gU (fun _ hv=>LD _ (DV.fE (fun i _=>by rw[Nat.zero_add]) hv)) (fun _ h=>h) us hh,rfl⟩
end Go.Proofs
namespace Go.Proofs
open Go Go.Ab Go.RowKit
variable {G:IH} {w:World}
end Go.Proofs
