import Derived.Test.YtellpkieoccljaaGreatDoorAcD
import Derived.Test.YtellpkieoccljaaGreatDoorG3
import Derived.Test.YtellpkieoccljaaGreatDoorG0
set_option autoImplicit false
namespace Go.Proofs
open Go Go.Ab Go.RowKit
set_option maxHeartbeats 4000000
set_option maxRecDepth 100000
variable {G:IH}
/-! Bounds. -/
structure Bd where
 a:Int
 b:Int
 c:Int
 d:Int
 deriving DecidableEq
/-! Corners. -/
abbrev Fr2:=Int×Int
def fr2 (l:List Fr2) (i:Nat):DV:=fr (l.getD i (0,0)).1 (l.getD i (0,0)).2
abbrev fr2D (l:List Fr2):DV:=.slc 2 l.length (fr2 l)
abbrev frK:RK:=⟨true,23,false,none⟩
/-! The greatest of some fractions. -/
def okO (a b:Int):Bool:=ok a b
noncomputable def orcAl:Oracle:=fun f a=>match f,a with
 | 137,[fr a b]=>some (db (okO a b))
 | _,_=>none
def allO (l:List Fr2):Bool:=l.all fun p=>okO p.1 p.2
noncomputable def S136 (l:List Fr2) (k:Nat):AS:=⟨regs Tryz.f136.ntmps [(5,.d (fr2D l)),(6,vi l.length),(7,vi k)],[]⟩
theorem f136 (l:List Fr2) (hl:l.length≤1000000):FnOK Tryz.prog G 136 [fr2D l] (db (allO l)):=by
 refine FnOK.walkK (orc:=orcAl) (keep:=[]) follows Tryz.func136 rfl Tryz.call136 ?_
 refine of_tr (fun ZT ZW ZQ _=>ZW [cd Tryz.f136 [1,0,1,0],(.blk 0),cd Tryz.f136 [1,1]] (stS ZT []) ZQ) (by kernel_rfl) ?_
 refine AWP.loop (c:=cAt (bodyOf Tryz.f136) [1,0,1,0,0]) (by kernel_rfl) (S136 l) (fun k=>k≤l.length∧∀i,i<k→okO (l.getD i (0,0)).1 (l.getD i (0,0)).2=true) (fun k=>l.length-k) 0 ?_ ⟨Nat.zero_le _,fun i hi=>by omega⟩ ?_
 ·exact AS.leA (by kernel_rfl)
 ·rintro k ⟨hk,hkd⟩
  refine walkK (orc:=orcAl) (keep:=[]) (cuts:=[]) (n:=1000) follows ?_
  refine of_rd (fun ZT ZW ZQ ZK ZA _=>(fun Za=>((((decide ((↑k:Int)<↑l.length))=true)→(((0≤(↑k:Int))∧((↑k:Int)<↑l.length))∧ZK 137 [(.agg [(di Za.fst),(di Za.snd)])] (db (okO Za.fst Za.snd))∧(((!okO Za.fst Za.snd)=true)→(((db false):DV)=(db (allO l))))∧(((!okO Za.fst Za.snd)=false)→((I64 (↑k+1))∧(ZA (stS ZT [0,1]))))))∧(((decide ((↑k:Int)<↑l.length))=false)→ZW [cd Tryz.f136 [1,1]] (stS ZT [1]) ZQ))) (l.getD (↑k:Int).toNat (0,0))) (by kernel_rfl) ?_
  refine⟨fun h=>?_,fun h=>?_⟩
  ·have hk2:k<l.length:=by have:=oDt h;omega
   simp only[iTn]
   refine⟨⟨by omega,by omega⟩,f137 _ _,fun h2=>?_,fun h2=>⟨⟨by omega,by omega⟩,Again.mk (k+1) ?_ ⟨hk2,fun i hi=>?_⟩ (by omega)⟩⟩
   ·have:allO l=false:=by
     unfold allO
     rw[List.all_eq_false]
     refine⟨l.getD k (0,0),?_,?_⟩
     ·rw[List.getD,gEe hk2];exact List.getElem_mem hk2
     ·have h2:okO (l.getD k (0,0)).1 (l.getD k (0,0)).2=false:=by simpa using h2
      rw[h2];decide
    rw[this]
   ·exact AS.leA (by kernel_rfl)
   ·rcases Nat.lt_or_ge i k with h4|h4
    ·exact hkd i h4
    ·obtain rfl:i=k:=by omega
     simpa using h2
  ·have h:=of_decide_eq_false h
   refine walkK (orc:=orcAl) (keep:=[]) (cuts:=[]) (n:=1000) follows ?_
   refine of_tr (fun _ _ _ _=>(((db true):DV)=(db (allO l)))) (by kernel_rfl) ?_
   have:allO l=true:=by
    unfold allO
    rw[List.all_eq_true]
    intro p hp
    obtain ⟨i,hi,rfl⟩:=List.getElem_of_mem hp
    have:=hkd i (by omega)
    rwa [List.getD,gEe hi] at this
   rw[this]
def bestK (l:List Fr2):Nat→Int
 | 0=>-1
 | k+1=>if bestK l k≥0∧cmpO (l.getD k (0,0)).1 (l.getD k (0,0)).2 (l.getD (bestK l k).toNat (0,0)).1 (l.getD (bestK l k).toNat (0,0)).2≤0 then bestK l k else k
theorem bestK_succ (l:List Fr2) (k:Nat):bestK l (k+1)=if bestK l k≥0∧cmpO (l.getD k (0,0)).1 (l.getD k (0,0)).2 (l.getD (bestK l k).toNat (0,0)).1 (l.getD (bestK l k).toNat (0,0)).2≤0 then bestK l k else k:=rfl
def bestL (l:List Fr2):Int:=if allO l then bestK l l.length else -1
theorem bestK_lt (l:List Fr2):∀k,-1≤bestK l k∧bestK l k<k
 | 0=>by simp[bestK]
 | k+1=>by
  have:=bestK_lt l k
  unfold bestK
  split<;>omega
noncomputable def orcBst (l:List Fr2):Oracle:=fun f a=>match f,a with
 | 136,[_]=>some (db (allO l))
 | 81,[fr a b,fr c d]=>some (.tup [di (cmpO a b c d),db (ok2O a b c d)])
 | _,_=>none
noncomputable def S80 (l:List Fr2) (k:Nat):AS:=⟨regs Tryz.f80.ntmps [(0,.d (fr2D l)),(3,.d (di (bestK l k))),(11,.d (fr2D l)),(12,vi l.length),(13,vi k)],[]⟩
theorem f80 (l:List Fr2) (hl:l.length≤1000000):FnOK Tryz.prog G 80 [fr2D l] (di (bestL l)):=by
 refine FnOK.walkK (orc:=orcBst l) (keep:=[]) follows Tryz.func80 rfl Tryz.call80 ?_
 refine of_tr (fun ZT ZW ZQ ZK=>(ZK 136 [(.slc 2 l.length (fr2 l))] (db (allO l))∧(((!allO l)=true)→(((di (-1)):DV)=(di (bestL l))))∧(((!allO l)=false)→ZW [cd Tryz.f80 [1,1,1,0,1,0],(.blk 0),cd Tryz.f80 [1,1,1,1]] (stS ZT [1]) ZQ))) (by kernel_rfl) ?_
 refine⟨f136 l hl,fun h=>?_,fun h=>?_⟩
 ·have h:allO l=false:=by simpa using h
  unfold bestL
  rw[h];rfl
 have hA:allO l=true:=by simpa using h
 refine AWP.loop (c:=cAt (bodyOf Tryz.f80) [1,1,1,0,1,0,0]) (by kernel_rfl) (S80 l) (fun k=>k≤l.length) (fun k=>l.length-k) 0 ?_ (Nat.zero_le _) ?_
 ·refine AS.leZ [1] [] (b:=((T0∧((vi (-1)):AV)=(vi (bestK l 0))∧T0∧T0∧T0∧True)∧True)) (by kernel_rfl) (by kernel_rfl) ?_
  exact⟨⟨rfl,rfl,rfl,rfl,rfl,trivial⟩,trivial⟩
 ·intro k hk
  refine walkK (orc:=orcBst l) (keep:=[]) (cuts:=[]) (n:=1000) follows ?_
  refine of_rd (fun ZT ZW ZQ ZK ZA _=>(fun Za Zb=>((((decide ((↑k:Int)<↑l.length))=true)→(((0≤(↑k:Int))∧((↑k:Int)<↑l.length))∧(((decide (bestK l k≥0))=true)→((((0≤bestK l k)∧(bestK l k<↑l.length))∧ZK 81 [(.agg [(di Za.fst),(di Za.snd)]),(.agg [(di Zb.fst),(di Zb.snd)])] (.tup [(di (cmpO Za.fst Za.snd Zb.fst Zb.snd)),(db (ok2O Za.fst Za.snd Zb.fst Zb.snd))]))∧(((decide (cmpO Za.fst Za.snd Zb.fst Zb.snd≤0))=true)→((I64 (↑k+1))∧(ZA (stS ZT [0,0,0]))))∧(((decide (cmpO Za.fst Za.snd Zb.fst Zb.snd≤0))=false)→((I64 (↑k+1))∧(ZA (stS ZT [0,0,1]))))))∧(((decide (bestK l k≥0))=false)→((I64 (↑k+1))∧(ZA (stS ZT [0,1]))))))∧(((decide ((↑k:Int)<↑l.length))=false)→ZW [cd Tryz.f80 [1,1,1,1]] (stS ZT [1]) ZQ))) (l.getD (↑k:Int).toNat (0,0)) (l.getD (bestK l k).toNat (0,0))) (by kernel_rfl) ?_
  refine⟨fun h=>?_,fun h=>?_⟩
  ·have hk2:k<l.length:=by have:=oDt h;omega
   have hb:=bestK_lt l k
   simp only[iTn]
   have st1:∀c:Int,bestK l (k+1)=c→S80 l (k+1)=⟨regs Tryz.f80.ntmps [(0,.d (fr2D l)),(3,.d (di c)),(11,.d (fr2D l)),(12,vi l.length),(13,vi (k+1:Nat))],[]⟩:=fun c h=>by unfold S80;rw[h]
   refine⟨⟨by omega,by omega⟩,fun h1=>⟨⟨⟨by have:=oDt h1;omega,by omega⟩,f81 _ _ _ _⟩,fun h2=>⟨⟨by omega,by omega⟩,Again.mk (k+1) ?_ hk2 (by omega)⟩,fun h2=>⟨⟨by omega,by omega⟩,Again.mk (k+1) ?_ hk2 (by omega)⟩⟩,fun h1=>⟨⟨by omega,by omega⟩,Again.mk (k+1) ?_ hk2 (by omega)⟩⟩
   ·rw[st1 (bestK l k) (by rw[bestK_succ,if_pos ⟨oDt h1,oDt h2⟩])]
    exact AS.leA (by kernel_rfl)
   ·rw[st1 (k:Int) (by rw[bestK_succ,if_neg (fun hh=>of_decide_eq_false h2 hh.2)])]
    exact AS.leA (by kernel_rfl)
   ·rw[st1 (k:Int) (by rw[bestK_succ,if_neg (fun hh=>of_decide_eq_false h1 hh.1)])]
    exact AS.leA (by kernel_rfl)
  ·have h:=of_decide_eq_false h
   obtain rfl:k=l.length:=by omega
   refine walkK (orc:=orcBst l) (keep:=[]) (cuts:=[]) (n:=1000) follows ?_
   refine of_tr (fun _ _ _ _=>(((di (bestK l l.length)):DV)=(di (bestL l)))) (by kernel_rfl) ?_
   unfold bestL
   rw[hA];rfl
end Go.Proofs
/- Kinds of nodes,plain. -/
namespace Go.Proofs
open Go Go.Ab Go.RowKit
set_option maxHeartbeats 4000000
set_option maxRecDepth 100000
variable {G:IH}
/-! Nodes of a number's kind. -/
theorem snd_many {x:Ex} (h:sndE x=true) (hk:x.k=10∨x.k=11):1≤x.kids.length:=by
 rw[sndE_eq] at h
 unfold sndK at h
 rw[if_neg (by omega),if_neg (by omega),if_neg (by omega),if_neg (by omega),if_pos hk] at h
 unfold kdK at h
 simp only[bAt,dEt] at h
 omega
theorem snd_leaf {x:Ex} (h:sndE x=true) (hk:x.k≤4):x.kids=[]:=by
 have hl:x.kids.length=0:=by
  rw[sndE_eq] at h
  unfold sndK kdK at h
  revert h
  repeat' split
  all_goals (intro h;simp only[bAt,dEt] at h)
  all_goals first|omega|(exfalso;have:=h.1;unfold opB at this;simp at this;omega)
 exact List.eq_nil_of_length_eq_zero hl
theorem snd_name {x:Ex} (h:sndE x=true) (hk:x.k=2):nameB x.s=true:=by
 rw[sndE_eq] at h
 unfold sndK at h
 rw[if_neg (by omega),if_pos hk] at h
 simp only[bAt] at h
 exact h.1.1
theorem snd_num {x:Ex} (h:sndE x=true) (hk:x.k=1):numB x.n x.d=true:=by
 rw[sndE_eq] at h
 unfold sndK at h
 rw[if_pos hk] at h
 simp only[bAt] at h
 exact h.1.1
mutual
def numE:Ex→Bool
 | .mk k _ _ _ _ l=>decide (k=1∨k=2∨(5≤k∧k≤11))&&numL l
def numL:List Ex→Bool
 | []=>true
 | x :: l=>numE x&&numL l
end
theorem numE_k {x:Ex} (h:numE x=true):x.k=1∨x.k=2∨(5≤x.k∧x.k≤11):=by
 cases x
 simp only[numE,bAt,dEt] at h
 exact h.1
theorem badR_none:∀{R:List KR},badR R=none→∀r∈R,r.2.2=0
 | [],_,r,h=>by simp at h
 | r :: R,h,y,hy=>by
  unfold badR at h
  split at h
  ·cases h
  ·rcases List.mem_cons.1 hy with rfl|hy
   ·omega
   ·exact badR_none h y hy
theorem tyE_fine {l:List Fc} {ws:List ByteArray} {x:Ex} (h:(tyE l ws x).2.2=0) :
  (∀i,i<x.kids.length→(tyE l ws (x.kids.getD i ex0)).2.2=0)∧tyE l ws x=((apK l ws x.k x.s ((tyL l ws x.kids).map (·.1)) (x.kids.getD 0 ex0).s (x.kids.getD 1 ex0).s).1,x.pos,0)∧(apK l ws x.k x.s ((tyL l ws x.kids).map (·.1)) (x.kids.getD 0 ex0).s (x.kids.getD 1 ex0).s).2=0:=by
 have e:=tyE_eq l ws x
 unfold tyC at e
 cases hb:badR (tyL l ws x.kids) with
 | some p=>
  exfalso
  rw[hb] at e
  rw[e] at h
  have:∀{R:List KR} {p:Int×Int},badR R=some p→p.2≠0:=by
   intro R
   induction R with
   | nil=>intro p h;cases h
   | cons r R ih=>
    intro p h
    unfold badR at h
    split at h
    ·obtain rfl:=Option.some.inj h;assumption
    ·exact ih h
  exact this hb h
 | none=>
  rw[hb] at e
  refine⟨fun i hi=>?_,?_,?_⟩
  ·refine badR_none hb _ ?_
   rw[tyL_map]
   exact List.mem_map_of_mem (kid_mem hi)
  ·rw[e] at h⊢
   rw[show (apK l ws x.k x.s ((tyL l ws x.kids).map (·.1)) (x.kids.getD 0 ex0).s (x.kids.getD 1 ex0).s).2=0 from h]
  ·rw[e] at h;exact h
theorem allK_get {l:List Int} {v:Int} (h:allK l v=true) {i:Nat} (hi:i<l.length):l.getD i 0=v:=by
 unfold allK at h
 rw[Bool.not_eq_true',List.any_eq_false] at h
 have:=h (l.getD i 0) (by rw[List.getD,gEe hi];exact List.getElem_mem hi)
 simpa using this
theorem kx_fine {l:List Int} {a:Int} (h:kxE l a=0):allK l a=true:=by
 unfold kxE at h
 split at h
 ·assumption
 ·omega
theorem tyK_get {l:List Fc} {ws:List ByteArray} {r:List Ex} {i:Nat} (hi:i<r.length):((tyL l ws r).map (·.1)).getD i 0=(tyE l ws (r.getD i ex0)).1:=by
 rw[tyL_map,List.map_map,List.getD,List.getD,List.getElem?_map,gEe hi];rfl
theorem tyK_len {l:List Fc} {ws:List ByteArray} {r:List Ex}:((tyL l ws r).map (·.1)).length=r.length:=by rw[tyL_map,List.length_map,List.length_map]
theorem rk_all {x:Ex} (h:sndE x=true):1≤x.k∧x.k≤20:=by
 have hrk:=snd_rk h
 refine Classical.byContradiction fun hn=>hrk ?_
 unfold rkI
 repeat' split
 all_goals omega
theorem apK_ks {l:List Fc} {ws:List ByteArray} {k:Int} {s:ByteArray} {ks:List Int} {n0 n1:ByteArray} :
  (5≤k∧k≤11→apK l ws k s ks n0 n1=(kxA ks 0 0,kxE ks 0))∧(14≤k∧k≤17→apK l ws k s ks n0 n1=(kxA ks 0 1,kxE ks 0))∧(18≤k→apK l ws k s ks n0 n1=(kxA ks 1 1,kxE ks 1))
   ∧(k=12∨k=13→apK l ws k s ks n0 n1=(if cmK l n0 n1 (ks.getD 0 0) (ks.getD 1 0) then 1 else 0,if cmK l n0 n1 (ks.getD 0 0) (ks.getD 1 0) then 0 else 5)):=by
 refine⟨fun h=>?_,fun h=>?_,fun h=>?_,fun h=>?_⟩
 ·unfold apK
  rw[if_neg (by omega),if_neg (by omega),if_neg (by omega),if_neg (by omega),if_neg (by omega),if_pos (by omega)]
 ·unfold apK
  rw[if_neg (by omega),if_neg (by omega),if_neg (by omega),if_neg (by omega),if_neg (by omega),if_neg (by omega),if_pos (by omega)]
 ·unfold apK
  rw[if_neg (by omega),if_neg (by omega),if_neg (by omega),if_neg (by omega),if_neg (by omega),if_neg (by omega),if_neg (by omega)]
 ·unfold apK
  rw[if_neg (by omega),if_neg (by omega),if_neg (by omega),if_neg (by omega),if_pos h]
theorem ty_kids {l:List Fc} {ws:List ByteArray} {x:Ex} (h:(tyE l ws x).2.2=0) :
  (5≤x.k∧x.k≤11∨14≤x.k∧x.k≤17→∀i,i<x.kids.length→(tyE l ws (x.kids.getD i ex0)).1=0)∧(18≤x.k→∀i,i<x.kids.length→(tyE l ws (x.kids.getD i ex0)).1=1):=by
 obtain ⟨h1,h2,h3⟩:=tyE_fine h
 obtain ⟨a1,a2,a3,a4⟩:=@apK_ks l ws x.k x.s ((tyL l ws x.kids).map (·.1)) (x.kids.getD 0 ex0).s (x.kids.getD 1 ex0).s
 refine⟨fun hk i hi=>?_,fun hk i hi=>?_⟩
 ·have h4:kxE ((tyL l ws x.kids).map (·.1)) 0=0:=by
   rcases hk with hk|hk
   ·rw[a1 hk] at h3;exact h3
   ·rw[a2 hk] at h3;exact h3
  have:=allK_get (kx_fine h4) (i:=i) (by rw[tyK_len];exact hi)
  rw[tyK_get hi] at this;exact this
 ·rw[a3 hk] at h3
  have:=allK_get (kx_fine h3) (i:=i) (by rw[tyK_len];exact hi)
  rw[tyK_get hi] at this;exact this
theorem ty_node {l:List Fc} {ws:List ByteArray} {x:Ex} (hs:sndE x=true) (h:(tyE l ws x).2.2=0) :
  (x.k=1∨(5≤x.k∧x.k≤11)→(tyE l ws x).1=0)∧(x.k=3∨x.k=4∨12≤x.k→(tyE l ws x).1=1)∧(x.k=2→(tyE l ws x).1=(nmK l ws x.s).1∧(nmK l ws x.s).2=0):=by
 obtain ⟨h1,h2,h3⟩:=tyE_fine h
 have hk:=rk_all hs
 obtain ⟨a1,a2,a3,a4⟩:=@apK_ks l ws x.k x.s ((tyL l ws x.kids).map (·.1)) (x.kids.getD 0 ex0).s (x.kids.getD 1 ex0).s
 rw[h2]
 refine⟨fun hh=>?_,fun hh=>?_,fun hh=>?_⟩
 ·rcases hh with hh|hh
  ·unfold apK;rw[if_pos hh]
  ·rw[a1 hh] at h3⊢
   have h3:=kx_fine h3
   show kxA _ 0 0=0
   unfold kxA;rw[if_pos h3]
 ·by_cases e3:x.k=3
  ·unfold apK;rw[if_neg (by omega),if_pos e3]
  by_cases e4:x.k=4
  ·unfold apK;rw[if_neg (by omega),if_neg e3,if_pos e4]
  by_cases e12:x.k=12∨x.k=13
  ·rw[a4 e12] at h3⊢
   simp only at h3⊢
   split at h3
   ·rename_i hc;rw[if_pos hc]
   ·omega
  by_cases e18:18≤x.k
  ·rw[a3 e18] at h3⊢
   have h3:=kx_fine h3
   show kxA _ 1 1=1
   unfold kxA;rw[if_pos h3]
  ·rw[a2 (by omega)] at h3⊢
   have h3:=kx_fine h3
   show kxA _ 0 1=1
   unfold kxA;rw[if_pos h3]
 ·have e:apK l ws x.k x.s ((tyL l ws x.kids).map (·.1)) (x.kids.getD 0 ex0).s (x.kids.getD 1 ex0).s=nmK l ws x.s:=by
   unfold apK;rw[if_neg (by omega),if_neg (by omega),if_neg (by omega),if_pos hh]
  rw[e] at h3⊢
  exact⟨rfl,h3⟩
theorem numL_of {l:List Ex} (h:∀i,i<l.length→numE (l.getD i ex0)=true):numL l=true:=by
 induction l with
 | nil=>rfl
 | cons x l ih=>
  simp only[numL,bAt]
  exact⟨h 0 (by simp),ih fun i hi=>by simpa using h (i+1) (by simpa using hi)⟩
theorem num_of {l:List Fc} {ws:List ByteArray} (n:Nat):∀x:Ex,ht x≤n→sndE x=true→(tyE l ws x).2.2=0→(tyE l ws x).1=0→numE x=true:=by
 induction n using Nat.strongRecOn with
 | _ n ih=>
 intro x hx hs h2 h1
 have hk:=rk_all hs
 obtain ⟨t1,t2,t3⟩:=ty_node hs h2
 have hc:x.k=1∨x.k=2∨(5≤x.k∧x.k≤11):=by
  refine Classical.byContradiction fun hn=>?_
  rw[t2 (by omega)] at h1;omega
 have hkids:∀i,i<x.kids.length→numE (x.kids.getD i ex0)=true:=fun i hi=>by
  have hh:=ht_kid hi
  by_cases h5:5≤x.k∧x.k≤11
  ·exact ih (n-1) (by omega) _ (by omega) (snd_kid hs hi) ((tyE_fine h2).1 i hi) ((ty_kids h2).1 (.inl h5) i hi)
  ·exfalso
   have:=@snd_leaf x hs (by omega)
   rw[this] at hi;simp at hi
 have:numE (Ex.mk x.k x.s x.n x.d x.pos x.kids)=true:=by
  simp only[numE,bAt,dEt]
  exact⟨hc,numL_of hkids⟩
 rwa [Ex.eta] at this
/-! Values of expressions. -/
def ovF (k:Int) (a b c d:Int):FE:=if k=6 then addF a b c d else if k=7 then subF a b c d else if k=8 then mulF a b c d else divF a b c d
def minK (l:List Fr2):Nat→Fr2
 | 0=>l.getD 0 (0,0)
 | k+1=>if cmpO (l.getD k (0,0)).1 (l.getD k (0,0)).2 (minK l k).1 (minK l k).2<0 then l.getD k (0,0) else minK l k
def ovR (k:Int) (l:List Fr2):FE:=ovF k (l.getD 0 (0,0)).1 (l.getD 0 (0,0)).2 (l.getD 1 (0,0)).1 (l.getD 1 (0,0)).2
def opV (k:Int) (l:List Fr2):Option Fr2:=
 if k=5 then some (-(l.getD 0 (0,0)).1,(l.getD 0 (0,0)).2)
 else if k=11 then some (l.getD (bestL l).toNat (0,0))
 else if k=10 then some (minK l l.length)
 else if (ovR k l).2.2=0 then some ((ovR k l).1,(ovR k l).2.1) else none
def nuK (F:List Ft) (k:Int) (s:ByteArray) (n d:Int) (r:Option (List Fr2)):Option Fr2:=
 if k=1 then some (n,d) else if k=2 then some ((tM F (.string s)).n,(tM F (.string s)).d) else match r with
  | none=>none
  | some l=>opV k l
mutual
def nuE (F:List Ft):Ex→Option Fr2
 | .mk k s n d _ kids=>nuK F k s n d (nuL F kids)
def nuL (F:List Ft):List Ex→Option (List Fr2)
 | []=>some []
 | x :: l=>match nuE F x,nuL F l with
  | some p,some q=>some (p :: q)
  | _,_=>none
end
theorem nuE_eq (F:List Ft) (x:Ex):nuE F x=nuK F x.k x.s x.n x.d (nuL F x.kids):=by cases x;simp only[nuE,Ex.k,Ex.s,Ex.n,Ex.d,Ex.kids]
def nvD (F:List Ft) (x:Ex):Fr2:=(nuE F x).getD (0,0)
theorem nuL_some {F:List Ft}:∀{l:List Ex},(∀i,i<l.length→nuE F (l.getD i ex0)≠none)→nuL F l=some (l.map (nvD F))
 | [],_=>rfl
 | x :: l,h=>by
  have h0:nuE F x≠none:=h 0 (by simp)
  have ih:=nuL_some (F:=F) (l:=l) fun i hi=>by simpa using h (i+1) (by simpa using hi)
  simp only[nuL,ih,List.map_cons]
  cases hx:nuE F x with
  | none=>exact absurd hx h0
  | some p=>simp only[nvD,hx];rfl
theorem nuL_none {F:List Ft}:∀{l:List Ex} {i:Nat},i<l.length→nuE F (l.getD i ex0)=none→nuL F l=none
 | [],_,h,_=>by simp at h
 | x :: l,0,_,h=>by
  have h:nuE F x=none:=h
  simp only[nuL,h]
 | x :: l,i+1,hi,h=>by
  have:=nuL_none (F:=F) (l:=l) (i:=i) (by simpa using hi) (by simpa using h)
  simp only[nuL,this]
  cases nuE F x<;>rfl
theorem nuL_kid {F:List Ft} {l:List Ex} {r:List Fr2} (h:nuL F l=some r):r=l.map (nvD F)∧∀i,i<l.length→nuE F (l.getD i ex0)=some (nvD F (l.getD i ex0)):=by
 have hh:∀i,i<l.length→nuE F (l.getD i ex0)≠none:=fun i hi hn=>by rw[nuL_none hi hn] at h;cases h
 refine⟨?_,fun i hi=>?_⟩
 ·rw[nuL_some hh] at h;exact(Option.some.inj h).symm
 ·have:=hh i hi
  unfold nvD
  cases hx:nuE F (l.getD i ex0) with
  | none=>exact absurd hx this
  | some p=>rfl
def NumF (F:List Ft) (l:List Fc):Prop:=∀s,fH l (.string s)=true→(fM l (.string s)).kind=0→ok (tM F (.string s)).n (tM F (.string s)).d=true
/-! Numbers. -/
def rdP (d:DV):Fr2:=match d with
 | .agg [.con (.int _ a),.con (.int _ b)]=>(a,b)
 | _=>(0,0)
def rdPs (d:DV):List Fr2:=match d with
 | .slc _ n f=>(List.range n).map fun i=>rdP (f i)
 | _=>[]
noncomputable def orcNu (F:List Ft):Oracle:=fun f a=>match f,a with
 | 46,[_,e]=>some (fr (nvD F (rdE e)).1 (nvD F (rdE e)).2)
 | 80,[w]=>some (di (bestL (rdPs w)))
 | 81,[fr a b,fr c d]=>some (.tup [di (cmpO a b c d),db (ok2O a b c d)])
 | 76,[fr a b,fr c d]=>some (fe' (addF a b c d))
 | 77,[fr a b,fr c d]=>some (fe' (subF a b c d))
 | 78,[fr a b,fr c d]=>some (fe' (mulF a b c d))
 | 79,[fr a b,fr c d]=>some (fe' (divF a b c d))
 | _,_=>none
def rowN (F:List Ft) (x:Ex):Nat→Nat→DV:=rowRec (fun _=>DV.con undef) true 2 fun j=>[di (nvD F (x.kids.getD j ex0)).1,di (nvD F (x.kids.getD j ex0)).2]
noncomputable def S46n (F:List Ft) (m:Nat) (x:Ex) (k:Nat):AS:=⟨regs Tryz.f46.ntmps [(0,.d (evD F)),(3,.box 3 0),(4,.box 4 0),(5,.vec 900 2 0 k),(33,.d (.slc 6 x.kids.length (lay (exG m) x.kids))),(34,vi x.kids.length),(35,vi k)],[(3,exC m x),(4,[vi 0,vi 0]),(900,[.arr frK 2 (rowN F x k)])]⟩
theorem nu_walk (F:List Ft) (Q:Exit→AS→Prop) (m:Nat) (x:Ex) (hx:ht x≤m) (hs:Sm x) (hk:5≤x.k∧x.k≤11)
  (h46:∀i,i<x.kids.length→(nuE F (x.kids.getD i ex0)≠none→FnOK Tryz.prog G 46 [evD F,kidA m x i] (fr (nvD F (x.kids.getD i ex0)).1 (nvD F (x.kids.getD i ex0)).2))∧(nuE F (x.kids.getD i ex0)=none→FnP Tryz.prog G 46 [evD F,kidA m x i] noV))
  (hp:nuL F x.kids=none→∀st,Q (.panic (pch noV)) st)
  (ht:nuL F x.kids≠none→AWP Tryz.prog G [cd Tryz.f46 [1,1,1,1]] (S46n F m x x.kids.length) Q):AWP Tryz.prog G [.code (bodyOf Tryz.f46)] (entry [evD F,exD m x] Tryz.f46.ntmps) Q:=by
 have hlen:=hs.len.1
 refine walkK (orc:=orcNu F) (keep:=[]) (cuts:=[3,5]) (n:=1000) follows ?_
 refine of_tr (fun ZT ZW ZQ _=>((((x.k==1)=true)→ZW [cd Tryz.f46 [1,0,1,0,1,0],(.blk 0),cd Tryz.f46 [1,1]] (stS ZT [0]) ZQ)∧(((x.k==1)=false)→((((x.k==2)=true)→ZW [cd Tryz.f46 [1,0,1,0,1,1,1,0],(.blk 0),cd Tryz.f46 [1,1]] (stS ZT [1,0]) ZQ)∧(((x.k==2)=false)→ZW [cd Tryz.f46 [1,1,1,0,1,0],(.blk 1),cd Tryz.f46 [1,1,1,1]] (stS ZT [1,1]) ZQ))))) (by kernel_rfl) ?_
 refine⟨fun h=>absurd (eq_of_beq h) (by omega),fun _=>⟨fun h=>absurd (eq_of_beq h) (by omega),fun _=>?_⟩⟩
 refine AWP.pre (.nilRow _ 5 900 2 frK (rowN F x 0) (by kernel_rfl) (by kernel_rfl)) ?_
 refine AWP.loop (c:=cAt (bodyOf Tryz.f46) [1,1,1,0,1,0,0]) (by kernel_rfl) (S46n F m x) (fun k=>k≤x.kids.length∧∀i,i<k→nuE F (x.kids.getD i ex0)≠none) (fun k=>x.kids.length-k) 0 ?_ ⟨Nat.zero_le _,fun i hi=>by omega⟩ ?_
 ·exact AS.leA (by kernel_rfl)
 ·rintro k ⟨hk,hkd⟩
  by_cases hk2:k<x.kids.length
  ·have er:rdE (kidA m x k)=x.kids.getD k ex0:=kid_rd hx hk2
   obtain ⟨h1,h2⟩:=h46 k hk2
   by_cases hv:nuE F (x.kids.getD k ex0)=none
   ·refine walkK (orc:=orcNu F) (keep:=[]) (cuts:=[10]) (n:=1000) follows ?_
    refine of_rd (fun ZT ZW _ _ _ ZR=>((((decide ((↑k:Int)<↑x.kids.length))=true)→(((0≤(↑k:Int))∧((↑k:Int)<↑x.kids.length))∧ZW [cd Tryz.f46 [1,1,1,0,1,0,0,1,1,0,0,1],(.blk 2),cd Tryz.f46 [1,1,1,0,1,0,0,1,1,1]] (stS ZT [0]) ZR))∧(((decide ((↑k:Int)<↑x.kids.length))=false)→ZW [cd Tryz.f46 [1,1,1,1]] (stS ZT [1]) Q))) (by kernel_rfl) ?_
    refine⟨fun _=>⟨⟨by omega,by omega⟩,?_⟩,fun h=>absurd (of_decide_eq_false h) (by omega)⟩
    refine AWP.panic follows (orcNu F) 3 (pv:=noV) ?_ ?_
    ·refine of_tr (fun _ _ _ _=>(FnP Tryz.prog G 46 [(.ptr [(.mp none (tV F) (tH F))]),(ndA m (x.kids.getD (↑k:Int).toNat ex0))] noV∧True)) (by kernel_rfl) ?_
     exact⟨h2 hv,trivial⟩
    ·exact hp (nuL_none hk2 hv) _
   ·refine walkK (orc:=orcNu F) (keep:=[]) (cuts:=[]) (n:=1000) follows ?_
    refine of_rd (fun ZT ZW _ ZK ZA _=>(fun Za=>((((decide ((↑k:Int)<↑x.kids.length))=true)→(((0≤(↑k:Int))∧((↑k:Int)<↑x.kids.length))∧(ZK 46 [(.ptr [(.mp none (tV F) (tH F))]),Za] (.agg [(di (nvD F (rdE Za)).fst),(di (nvD F (rdE Za)).snd)])∧(((k+1)*16≤1099511627776)∧(k+1≤1099511627776))∧(∀(i:Nat),i<1→elemOK true 2 (elemF true 2 [DV.con (Value.int IntKind.i64 (nvD F (rdE Za)).fst),DV.con (Value.int IntKind.i64 (nvD F (rdE Za)).snd)] i)=true))∧(I64 (↑k+1))∧(ZA (stS ZT [0]))))∧(((decide ((↑k:Int)<↑x.kids.length))=false)→ZW [cd Tryz.f46 [1,1,1,1]] (stS ZT [1]) Q))) (ndA m (x.kids.getD (↑k:Int).toNat ex0))) (by kernel_rfl) ?_
    simp only[iTn,er]
    refine⟨fun _=>⟨⟨by omega,by omega⟩,⟨h1 hv,⟨by omega,by omega⟩,fun i hi=>(by obtain rfl:i=0:=(by omega);rfl)⟩,⟨by omega,by omega⟩,Again.mkR [(44,900)] rfl (k+1) ?_ ⟨hk2,fun i hi=>?_⟩ (by omega)⟩,fun h=>absurd (of_decide_eq_false h) (by omega)⟩
    ·refine AS.leZ [] [2] (b:=((T0∧T0∧T0∧T0∧T0∧T0∧T0∧True)∧T0∧T0∧((some [(.arr ⟨true,23,false,none⟩ 2 (fun i=>bif i.blt k then rowN F x k i else elemF true 2 [DV.con (Value.int IntKind.i64 (nvD F (rdE (ndA m (x.kids.getD (↑k:Int).toNat ex0)))).fst),DV.con (Value.int IntKind.i64 (nvD F (rdE (ndA m (x.kids.getD (↑k:Int).toNat ex0)))).snd)] (i-k)))]):(Option (List AV)))=(some [(.arr ⟨true,23,false,none⟩ 2 (rowN F x (k+1)))])∧True)) (by kernel_rfl) (by kernel_rfl) ?_
     refine⟨⟨rfl,rfl,rfl,rfl,rfl,rfl,rfl,trivial⟩,rfl,rfl,?_,trivial⟩
     simp only[iTn,er]
     rfl
    ·rcases Nat.lt_or_ge i k with h4|h4
     ·exact hkd i h4
     ·obtain rfl:i=k:=by omega
      exact hv
  ·obtain rfl:k=x.kids.length:=by omega
   refine walkK (orc:=orcNu F) (keep:=[]) (cuts:=[12]) (n:=1000) follows ?_
   refine of_rd (fun ZT ZW _ ZK ZA _=>(fun Za=>((((decide ((↑x.kids.length:Int)<↑x.kids.length))=true)→(((0≤(↑x.kids.length:Int))∧((↑x.kids.length:Int)<↑x.kids.length))∧(ZK 46 [(.ptr [(.mp none (tV F) (tH F))]),Za] (.agg [(di (nvD F (rdE Za)).fst),(di (nvD F (rdE Za)).snd)])∧(((x.kids.length+1)*16≤1099511627776)∧(x.kids.length+1≤1099511627776))∧(∀(i:Nat),i<1→elemOK true 2 (elemF true 2 [DV.con (Value.int IntKind.i64 (nvD F (rdE Za)).fst),DV.con (Value.int IntKind.i64 (nvD F (rdE Za)).snd)] i)=true))∧(I64 (↑x.kids.length+1))∧(ZA (stS ZT [0]))))∧(((decide ((↑x.kids.length:Int)<↑x.kids.length))=false)→ZW [cd Tryz.f46 [1,1,1,1]] (stS ZT [1]) Q))) (ndA m (x.kids.getD (↑x.kids.length:Int).toNat ex0))) (by kernel_rfl) ?_
   refine⟨fun h=>absurd (oDt h) (by omega),fun _=>?_⟩
   refine AWP.weaken ?_ (ht (by rw[nuL_some fun i hi=>hkd i hi];exact fun h=>by cases h))
   exact AS.leA (by kernel_rfl)
noncomputable def S46t (m:Nat) (x:Ex) (l:List Fr2):AS:=⟨regs Tryz.f46.ntmps [(3,.box 3 0),(4,.box 4 0),(5,.d (fr2D l))],[(3,exC m x),(4,[vi 0,vi 0])]⟩
theorem nu_froz {F:List Ft} {m:Nat} {x:Ex} {k:List It} {Q:Exit→AS→Prop} (h:AWP Tryz.prog G k (S46t m x (x.kids.map (nvD F))) Q):AWP Tryz.prog G k (S46n F m x x.kids.length) Q:=by
 refine AWP.freeze (agg:=frK) (sz:=2) (f:=rowN F x x.kids.length) 900 (by kernel_rfl) ?_
 refine AWP.pre (.regD _ 5 (.slc 2 x.kids.length fun i=>rowN F x x.kids.length (0+i)) (fr2D (x.kids.map (nvD F))) (by kernel_rfl) fun h v hv=>?_) (AWP.weaken ?_ h)
 ·unfold fr2D
  rw[List.length_map]
  refine DV.rel_slc_congr (fun i hi=>?_) hv
  rw[Nat.zero_add]
  unfold rowN fr2
  rw[rowRec_get hi,List.getD,List.getD,List.getElem?_map,gEe hi]
  rfl
 ·exact AS.leA (by kernel_rfl)
theorem rdPs_eq (l:List Fr2):rdPs (fr2D l)=l:=by
 unfold rdPs
 refine List.ext_getElem (by simp) fun i h1 h2=>?_
 rw[List.getElem_map,List.getElem_range]
 unfold fr2
 rw[List.getD,gEe h2];rfl
noncomputable def S46z (m:Nat) (x:Ex) (a b:Int):AS:=⟨regs Tryz.f46.ntmps [(3,.box 3 0),(4,.box 4 0),(14,.box 14 0)],[(14,[vi a,vi b]),(3,exC m x),(4,[vi 0,vi 0])]⟩
theorem z46 (m:Nat) (x:Ex) (a b:Int):AWP Tryz.prog G [cd Tryz.f46 [1,1,1,1,1,1,1,1]] (S46z m x a b) (Ret Tryz.prog Tryz.f46 (fr a b)):=by
 refine walkK (orc:=orcNu []) (keep:=[]) (cuts:=[]) (n:=1000) follows ?_
 refine of_tr (fun _ _ _ _=>(ZS ((fr a b):DV))) (by kernel_rfl) ?_
 rfl
theorem t46_6 {Q:Exit→AS→Prop} (m:Nat) (x:Ex) (l:List Fr2) (hl:2≤l.length) (hk:x.k=6) (h0:(ovR 6 l).2.2=0→AWP Tryz.prog G [cd Tryz.f46 [1,1,1,1,1,1,1,1]] (S46z m x (ovR 6 l).1 (ovR 6 l).2.1) Q) (h1:(ovR 6 l).2.2≠0→∀st,Q (.panic (pch noV)) st):AWP Tryz.prog G [cd Tryz.f46 [1,1,1,1]] (S46t m x l) Q:=by
 obtain ⟨k,s,n,d,pos,kids⟩:=x
 obtain rfl:k=6:=hk
 refine walkK (orc:=orcNu []) (keep:=[]) (cuts:=[15,18,20,31,32]) (n:=1000) follows ?_
 refine of_tr (fun ZT ZW ZQ ZK=>(fun Za=>(((((Ex.mk 6 s n d pos kids).k==5)=true)→ZW [cd Tryz.f46 [1,1,1,1,1,0,1,0,1,0],(.blk 3),cd Tryz.f46 [1,1,1,1,1,1]] (stS ZT [0]) ZQ)∧((((Ex.mk 6 s n d pos kids).k==5)=false)→(((((Ex.mk 6 s n d pos kids).k==11)=true)→ZW [cd Tryz.f46 [1,1,1,1,1,0,1,0,1,1,1,0],(.blk 3),cd Tryz.f46 [1,1,1,1,1,1]] (stS ZT [1,0]) ZQ)∧((((Ex.mk 6 s n d pos kids).k==11)=false)→(((((Ex.mk 6 s n d pos kids).k==10)=true)→ZW [cd Tryz.f46 [1,1,1,1,1,0,1,0,1,1,1,1,1,0],(.blk 3),cd Tryz.f46 [1,1,1,1,1,1]] (stS ZT [1,1,0]) ZQ)∧((((Ex.mk 6 s n d pos kids).k==10)=false)→(((((putH (Value.int IntKind.i64 9) (putH (Value.int IntKind.i64 8) (putH (Value.int IntKind.i64 7) (putH (Value.int IntKind.i64 6) fun x=>false))) (Value.int IntKind.i64 (Ex.mk 6 s n d pos kids).k))=false)→((DV.con Value.nilFunc).imp (putF (Value.int IntKind.i64 9) (DV.con (Value.func (Fn.func 79) #[] #[])) (putF (Value.int IntKind.i64 8) (DV.con (Value.func (Fn.func 78) #[] #[])) (putF (Value.int IntKind.i64 7) (DV.con (Value.func (Fn.func 77) #[] #[])) (putF (Value.int IntKind.i64 6) (DV.con (Value.func (Fn.func 76) #[] #[])) fun x=>DV.con Value.nilFunc))) (Value.int IntKind.i64 (Ex.mk 6 s n d pos kids).k))))∧(((0:Int)≤(0:Int))∧(0<(↑l.length:Int)))∧(((0:Int)≤(1:Int))∧(1<(↑l.length:Int)))∧ZK 76 [(.agg [(di (l.getD (Int.toNat 0) (0,0)).fst),(di (l.getD (Int.toNat 0) (0,0)).snd)]),(.agg [(di (l.getD (Int.toNat 1) (0,0)).fst),(di (l.getD (Int.toNat 1) (0,0)).snd)])] (.tup [(.agg [(di Za.fst),(di Za.snd.fst)]),(di Za.snd.snd)]))∧(((Za.snd.snd != 0)=true)→ZW [cd Tryz.f46 [1,1,1,1,1,1,1,0,1,0],cd Tryz.f46 [1,1,1,1,1,1,1,1]] (stS ZT [1,1,1,0]) ZQ)∧(((Za.snd.snd != 0)=false)→ZW [cd Tryz.f46 [1,1,1,1,1,1,1,1]] (stS ZT [1,1,1,1]) ZQ))))))))) (addF (l.getD (Int.toNat 0) (0,0)).fst (l.getD (Int.toNat 0) (0,0)).snd (l.getD (Int.toNat 1) (0,0)).fst (l.getD (Int.toNat 1) (0,0)).snd)) (by kernel_rfl) ?_
 refine⟨fun h=>absurd (eq_of_beq h) (by show ¬(6:Int)=5;decide),fun _=>⟨fun h=>absurd (eq_of_beq h) (by show ¬(6:Int)=11;decide),fun _=>⟨fun h=>absurd (eq_of_beq h) (by show ¬(6:Int)=10;decide),fun _=>⟨⟨fun h=>absurd h (by show ¬(true=false);decide),⟨by omega,by omega⟩,⟨by omega,by omega⟩,f76' _ _ _ _⟩,fun h=>?_,fun h=>?_⟩⟩⟩⟩
 ·refine AWP.giveUp (d:=108) (e:=109) rfl ⟨⟨rfl,rfl,rfl⟩,⟨rfl,rfl,rfl⟩,rfl,rfl⟩ ⟨oDt (by kernel_rfl),oDt (by kernel_rfl)⟩ (h1 (bne_iff_ne.1 h) _)
 ·refine AWP.weaken ?_ (h0 ?_)
  ·refine AS.leZ [] [0] (b:=((T0∧T0∧T0∧True)∧((some [(vi (addF (l.getD (Int.toNat 0) (0,0)).fst (l.getD (Int.toNat 0) (0,0)).snd (l.getD (Int.toNat 1) (0,0)).fst (l.getD (Int.toNat 1) (0,0)).snd).fst),(vi (addF (l.getD (Int.toNat 0) (0,0)).fst (l.getD (Int.toNat 0) (0,0)).snd (l.getD (Int.toNat 1) (0,0)).fst (l.getD (Int.toNat 1) (0,0)).snd).snd.fst)]):(Option (List AV)))=(some [(vi (ovR 6 l).fst),(vi (ovR 6 l).snd.fst)])∧T0∧T0∧True)) (by kernel_rfl) (by kernel_rfl) ?_
   exact⟨⟨rfl,rfl,rfl,trivial⟩,rfl,rfl,rfl,trivial⟩
  ·exact bne_eq_false_iff_eq.1 h
theorem t46_7 {Q:Exit→AS→Prop} (m:Nat) (x:Ex) (l:List Fr2) (hl:2≤l.length) (hk:x.k=7) (h0:(ovR 7 l).2.2=0→AWP Tryz.prog G [cd Tryz.f46 [1,1,1,1,1,1,1,1]] (S46z m x (ovR 7 l).1 (ovR 7 l).2.1) Q) (h1:(ovR 7 l).2.2≠0→∀st,Q (.panic (pch noV)) st):AWP Tryz.prog G [cd Tryz.f46 [1,1,1,1]] (S46t m x l) Q:=by
 obtain ⟨k,s,n,d,pos,kids⟩:=x
 obtain rfl:k=7:=hk
 refine walkK (orc:=orcNu []) (keep:=[]) (cuts:=[15,18,20,31,32]) (n:=1000) follows ?_
 refine of_tr (fun ZT ZW ZQ ZK=>(fun Za=>(((((Ex.mk 7 s n d pos kids).k==5)=true)→ZW [cd Tryz.f46 [1,1,1,1,1,0,1,0,1,0],(.blk 3),cd Tryz.f46 [1,1,1,1,1,1]] (stS ZT [0]) ZQ)∧((((Ex.mk 7 s n d pos kids).k==5)=false)→(((((Ex.mk 7 s n d pos kids).k==11)=true)→ZW [cd Tryz.f46 [1,1,1,1,1,0,1,0,1,1,1,0],(.blk 3),cd Tryz.f46 [1,1,1,1,1,1]] (stS ZT [1,0]) ZQ)∧((((Ex.mk 7 s n d pos kids).k==11)=false)→(((((Ex.mk 7 s n d pos kids).k==10)=true)→ZW [cd Tryz.f46 [1,1,1,1,1,0,1,0,1,1,1,1,1,0],(.blk 3),cd Tryz.f46 [1,1,1,1,1,1]] (stS ZT [1,1,0]) ZQ)∧((((Ex.mk 7 s n d pos kids).k==10)=false)→(((((putH (Value.int IntKind.i64 9) (putH (Value.int IntKind.i64 8) (putH (Value.int IntKind.i64 7) (putH (Value.int IntKind.i64 6) fun x=>false))) (Value.int IntKind.i64 (Ex.mk 7 s n d pos kids).k))=false)→((DV.con Value.nilFunc).imp (putF (Value.int IntKind.i64 9) (DV.con (Value.func (Fn.func 79) #[] #[])) (putF (Value.int IntKind.i64 8) (DV.con (Value.func (Fn.func 78) #[] #[])) (putF (Value.int IntKind.i64 7) (DV.con (Value.func (Fn.func 77) #[] #[])) (putF (Value.int IntKind.i64 6) (DV.con (Value.func (Fn.func 76) #[] #[])) fun x=>DV.con Value.nilFunc))) (Value.int IntKind.i64 (Ex.mk 7 s n d pos kids).k))))∧(((0:Int)≤(0:Int))∧(0<(↑l.length:Int)))∧(((0:Int)≤(1:Int))∧(1<(↑l.length:Int)))∧ZK 77 [(.agg [(di (l.getD (Int.toNat 0) (0,0)).fst),(di (l.getD (Int.toNat 0) (0,0)).snd)]),(.agg [(di (l.getD (Int.toNat 1) (0,0)).fst),(di (l.getD (Int.toNat 1) (0,0)).snd)])] (.tup [(.agg [(di Za.fst),(di Za.snd.fst)]),(di Za.snd.snd)]))∧(((Za.snd.snd != 0)=true)→ZW [cd Tryz.f46 [1,1,1,1,1,1,1,0,1,0],cd Tryz.f46 [1,1,1,1,1,1,1,1]] (stS ZT [1,1,1,0]) ZQ)∧(((Za.snd.snd != 0)=false)→ZW [cd Tryz.f46 [1,1,1,1,1,1,1,1]] (stS ZT [1,1,1,1]) ZQ))))))))) (subF (l.getD (Int.toNat 0) (0,0)).fst (l.getD (Int.toNat 0) (0,0)).snd (l.getD (Int.toNat 1) (0,0)).fst (l.getD (Int.toNat 1) (0,0)).snd)) (by kernel_rfl) ?_
 refine⟨fun h=>absurd (eq_of_beq h) (by show ¬(7:Int)=5;decide),fun _=>⟨fun h=>absurd (eq_of_beq h) (by show ¬(7:Int)=11;decide),fun _=>⟨fun h=>absurd (eq_of_beq h) (by show ¬(7:Int)=10;decide),fun _=>⟨⟨fun h=>absurd h (by show ¬(true=false);decide),⟨by omega,by omega⟩,⟨by omega,by omega⟩,f77' _ _ _ _⟩,fun h=>?_,fun h=>?_⟩⟩⟩⟩
 ·refine AWP.giveUp (d:=108) (e:=109) rfl ⟨⟨rfl,rfl,rfl⟩,⟨rfl,rfl,rfl⟩,rfl,rfl⟩ ⟨oDt (by kernel_rfl),oDt (by kernel_rfl)⟩ (h1 (bne_iff_ne.1 h) _)
 ·refine AWP.weaken ?_ (h0 ?_)
  ·refine AS.leZ [] [0] (b:=((T0∧T0∧T0∧True)∧((some [(vi (subF (l.getD (Int.toNat 0) (0,0)).fst (l.getD (Int.toNat 0) (0,0)).snd (l.getD (Int.toNat 1) (0,0)).fst (l.getD (Int.toNat 1) (0,0)).snd).fst),(vi (subF (l.getD (Int.toNat 0) (0,0)).fst (l.getD (Int.toNat 0) (0,0)).snd (l.getD (Int.toNat 1) (0,0)).fst (l.getD (Int.toNat 1) (0,0)).snd).snd.fst)]):(Option (List AV)))=(some [(vi (ovR 7 l).fst),(vi (ovR 7 l).snd.fst)])∧T0∧T0∧True)) (by kernel_rfl) (by kernel_rfl) ?_
   exact⟨⟨rfl,rfl,rfl,trivial⟩,rfl,rfl,rfl,trivial⟩
  ·exact bne_eq_false_iff_eq.1 h
theorem t46_8 {Q:Exit→AS→Prop} (m:Nat) (x:Ex) (l:List Fr2) (hl:2≤l.length) (hk:x.k=8) (h0:(ovR 8 l).2.2=0→AWP Tryz.prog G [cd Tryz.f46 [1,1,1,1,1,1,1,1]] (S46z m x (ovR 8 l).1 (ovR 8 l).2.1) Q) (h1:(ovR 8 l).2.2≠0→∀st,Q (.panic (pch noV)) st):AWP Tryz.prog G [cd Tryz.f46 [1,1,1,1]] (S46t m x l) Q:=by
 obtain ⟨k,s,n,d,pos,kids⟩:=x
 obtain rfl:k=8:=hk
 refine walkK (orc:=orcNu []) (keep:=[]) (cuts:=[15,18,20,31,32]) (n:=1000) follows ?_
 refine of_tr (fun ZT ZW ZQ ZK=>(fun Za=>(((((Ex.mk 8 s n d pos kids).k==5)=true)→ZW [cd Tryz.f46 [1,1,1,1,1,0,1,0,1,0],(.blk 3),cd Tryz.f46 [1,1,1,1,1,1]] (stS ZT [0]) ZQ)∧((((Ex.mk 8 s n d pos kids).k==5)=false)→(((((Ex.mk 8 s n d pos kids).k==11)=true)→ZW [cd Tryz.f46 [1,1,1,1,1,0,1,0,1,1,1,0],(.blk 3),cd Tryz.f46 [1,1,1,1,1,1]] (stS ZT [1,0]) ZQ)∧((((Ex.mk 8 s n d pos kids).k==11)=false)→(((((Ex.mk 8 s n d pos kids).k==10)=true)→ZW [cd Tryz.f46 [1,1,1,1,1,0,1,0,1,1,1,1,1,0],(.blk 3),cd Tryz.f46 [1,1,1,1,1,1]] (stS ZT [1,1,0]) ZQ)∧((((Ex.mk 8 s n d pos kids).k==10)=false)→(((((putH (Value.int IntKind.i64 9) (putH (Value.int IntKind.i64 8) (putH (Value.int IntKind.i64 7) (putH (Value.int IntKind.i64 6) fun x=>false))) (Value.int IntKind.i64 (Ex.mk 8 s n d pos kids).k))=false)→((DV.con Value.nilFunc).imp (putF (Value.int IntKind.i64 9) (DV.con (Value.func (Fn.func 79) #[] #[])) (putF (Value.int IntKind.i64 8) (DV.con (Value.func (Fn.func 78) #[] #[])) (putF (Value.int IntKind.i64 7) (DV.con (Value.func (Fn.func 77) #[] #[])) (putF (Value.int IntKind.i64 6) (DV.con (Value.func (Fn.func 76) #[] #[])) fun x=>DV.con Value.nilFunc))) (Value.int IntKind.i64 (Ex.mk 8 s n d pos kids).k))))∧(((0:Int)≤(0:Int))∧(0<(↑l.length:Int)))∧(((0:Int)≤(1:Int))∧(1<(↑l.length:Int)))∧ZK 78 [(.agg [(di (l.getD (Int.toNat 0) (0,0)).fst),(di (l.getD (Int.toNat 0) (0,0)).snd)]),(.agg [(di (l.getD (Int.toNat 1) (0,0)).fst),(di (l.getD (Int.toNat 1) (0,0)).snd)])] (.tup [(.agg [(di Za.fst),(di Za.snd.fst)]),(di Za.snd.snd)]))∧(((Za.snd.snd != 0)=true)→ZW [cd Tryz.f46 [1,1,1,1,1,1,1,0,1,0],cd Tryz.f46 [1,1,1,1,1,1,1,1]] (stS ZT [1,1,1,0]) ZQ)∧(((Za.snd.snd != 0)=false)→ZW [cd Tryz.f46 [1,1,1,1,1,1,1,1]] (stS ZT [1,1,1,1]) ZQ))))))))) (mulF (l.getD (Int.toNat 0) (0,0)).fst (l.getD (Int.toNat 0) (0,0)).snd (l.getD (Int.toNat 1) (0,0)).fst (l.getD (Int.toNat 1) (0,0)).snd)) (by kernel_rfl) ?_
 refine⟨fun h=>absurd (eq_of_beq h) (by show ¬(8:Int)=5;decide),fun _=>⟨fun h=>absurd (eq_of_beq h) (by show ¬(8:Int)=11;decide),fun _=>⟨fun h=>absurd (eq_of_beq h) (by show ¬(8:Int)=10;decide),fun _=>⟨⟨fun h=>absurd h (by show ¬(true=false);decide),⟨by omega,by omega⟩,⟨by omega,by omega⟩,f78' _ _ _ _⟩,fun h=>?_,fun h=>?_⟩⟩⟩⟩
 ·refine AWP.giveUp (d:=108) (e:=109) rfl ⟨⟨rfl,rfl,rfl⟩,⟨rfl,rfl,rfl⟩,rfl,rfl⟩ ⟨oDt (by kernel_rfl),oDt (by kernel_rfl)⟩ (h1 (bne_iff_ne.1 h) _)
 ·refine AWP.weaken ?_ (h0 ?_)
  ·refine AS.leZ [] [0] (b:=((T0∧T0∧T0∧True)∧((some [(vi (mulF (l.getD (Int.toNat 0) (0,0)).fst (l.getD (Int.toNat 0) (0,0)).snd (l.getD (Int.toNat 1) (0,0)).fst (l.getD (Int.toNat 1) (0,0)).snd).fst),(vi (mulF (l.getD (Int.toNat 0) (0,0)).fst (l.getD (Int.toNat 0) (0,0)).snd (l.getD (Int.toNat 1) (0,0)).fst (l.getD (Int.toNat 1) (0,0)).snd).snd.fst)]):(Option (List AV)))=(some [(vi (ovR 8 l).fst),(vi (ovR 8 l).snd.fst)])∧T0∧T0∧True)) (by kernel_rfl) (by kernel_rfl) ?_
   exact⟨⟨rfl,rfl,rfl,trivial⟩,rfl,rfl,rfl,trivial⟩
  ·exact bne_eq_false_iff_eq.1 h
theorem t46_9 {Q:Exit→AS→Prop} (m:Nat) (x:Ex) (l:List Fr2) (hl:2≤l.length) (hk:x.k=9) (h0:(ovR 9 l).2.2=0→AWP Tryz.prog G [cd Tryz.f46 [1,1,1,1,1,1,1,1]] (S46z m x (ovR 9 l).1 (ovR 9 l).2.1) Q) (h1:(ovR 9 l).2.2≠0→∀st,Q (.panic (pch noV)) st):AWP Tryz.prog G [cd Tryz.f46 [1,1,1,1]] (S46t m x l) Q:=by
 obtain ⟨k,s,n,d,pos,kids⟩:=x
 obtain rfl:k=9:=hk
 refine walkK (orc:=orcNu []) (keep:=[]) (cuts:=[15,18,20,31,32]) (n:=1000) follows ?_
 refine of_tr (fun ZT ZW ZQ ZK=>(fun Za=>(((((Ex.mk 9 s n d pos kids).k==5)=true)→ZW [cd Tryz.f46 [1,1,1,1,1,0,1,0,1,0],(.blk 3),cd Tryz.f46 [1,1,1,1,1,1]] (stS ZT [0]) ZQ)∧((((Ex.mk 9 s n d pos kids).k==5)=false)→(((((Ex.mk 9 s n d pos kids).k==11)=true)→ZW [cd Tryz.f46 [1,1,1,1,1,0,1,0,1,1,1,0],(.blk 3),cd Tryz.f46 [1,1,1,1,1,1]] (stS ZT [1,0]) ZQ)∧((((Ex.mk 9 s n d pos kids).k==11)=false)→(((((Ex.mk 9 s n d pos kids).k==10)=true)→ZW [cd Tryz.f46 [1,1,1,1,1,0,1,0,1,1,1,1,1,0],(.blk 3),cd Tryz.f46 [1,1,1,1,1,1]] (stS ZT [1,1,0]) ZQ)∧((((Ex.mk 9 s n d pos kids).k==10)=false)→(((((putH (Value.int IntKind.i64 9) (putH (Value.int IntKind.i64 8) (putH (Value.int IntKind.i64 7) (putH (Value.int IntKind.i64 6) fun x=>false))) (Value.int IntKind.i64 (Ex.mk 9 s n d pos kids).k))=false)→((DV.con Value.nilFunc).imp (putF (Value.int IntKind.i64 9) (DV.con (Value.func (Fn.func 79) #[] #[])) (putF (Value.int IntKind.i64 8) (DV.con (Value.func (Fn.func 78) #[] #[])) (putF (Value.int IntKind.i64 7) (DV.con (Value.func (Fn.func 77) #[] #[])) (putF (Value.int IntKind.i64 6) (DV.con (Value.func (Fn.func 76) #[] #[])) fun x=>DV.con Value.nilFunc))) (Value.int IntKind.i64 (Ex.mk 9 s n d pos kids).k))))∧(((0:Int)≤(0:Int))∧(0<(↑l.length:Int)))∧(((0:Int)≤(1:Int))∧(1<(↑l.length:Int)))∧ZK 79 [(.agg [(di (l.getD (Int.toNat 0) (0,0)).fst),(di (l.getD (Int.toNat 0) (0,0)).snd)]),(.agg [(di (l.getD (Int.toNat 1) (0,0)).fst),(di (l.getD (Int.toNat 1) (0,0)).snd)])] (.tup [(.agg [(di Za.fst),(di Za.snd.fst)]),(di Za.snd.snd)]))∧(((Za.snd.snd != 0)=true)→ZW [cd Tryz.f46 [1,1,1,1,1,1,1,0,1,0],cd Tryz.f46 [1,1,1,1,1,1,1,1]] (stS ZT [1,1,1,0]) ZQ)∧(((Za.snd.snd != 0)=false)→ZW [cd Tryz.f46 [1,1,1,1,1,1,1,1]] (stS ZT [1,1,1,1]) ZQ))))))))) (divF (l.getD (Int.toNat 0) (0,0)).fst (l.getD (Int.toNat 0) (0,0)).snd (l.getD (Int.toNat 1) (0,0)).fst (l.getD (Int.toNat 1) (0,0)).snd)) (by kernel_rfl) ?_
 refine⟨fun h=>absurd (eq_of_beq h) (by show ¬(9:Int)=5;decide),fun _=>⟨fun h=>absurd (eq_of_beq h) (by show ¬(9:Int)=11;decide),fun _=>⟨fun h=>absurd (eq_of_beq h) (by show ¬(9:Int)=10;decide),fun _=>⟨⟨fun h=>absurd h (by show ¬(true=false);decide),⟨by omega,by omega⟩,⟨by omega,by omega⟩,f79' _ _ _ _⟩,fun h=>?_,fun h=>?_⟩⟩⟩⟩
 ·refine AWP.giveUp (d:=108) (e:=109) rfl ⟨⟨rfl,rfl,rfl⟩,⟨rfl,rfl,rfl⟩,rfl,rfl⟩ ⟨oDt (by kernel_rfl),oDt (by kernel_rfl)⟩ (h1 (bne_iff_ne.1 h) _)
 ·refine AWP.weaken ?_ (h0 ?_)
  ·refine AS.leZ [] [0] (b:=((T0∧T0∧T0∧True)∧((some [(vi (divF (l.getD (Int.toNat 0) (0,0)).fst (l.getD (Int.toNat 0) (0,0)).snd (l.getD (Int.toNat 1) (0,0)).fst (l.getD (Int.toNat 1) (0,0)).snd).fst),(vi (divF (l.getD (Int.toNat 0) (0,0)).fst (l.getD (Int.toNat 0) (0,0)).snd (l.getD (Int.toNat 1) (0,0)).fst (l.getD (Int.toNat 1) (0,0)).snd).snd.fst)]):(Option (List AV)))=(some [(vi (ovR 9 l).fst),(vi (ovR 9 l).snd.fst)])∧T0∧T0∧True)) (by kernel_rfl) (by kernel_rfl) ?_
   exact⟨⟨rfl,rfl,rfl,trivial⟩,rfl,rfl,rfl,trivial⟩
  ·exact bne_eq_false_iff_eq.1 h
/-! Numbers: the other operations. -/
theorem t46_5 (F:List Ft) (m:Nat) (x:Ex) (hl:x.kids.length=1) (hk:x.k=5) (hr:R64 (nvD F (x.kids.getD 0 ex0)).1):AWP Tryz.prog G [cd Tryz.f46 [1,1,1,1]] (S46n F m x x.kids.length) (Ret Tryz.prog Tryz.f46 (fr (-(nvD F (x.kids.getD 0 ex0)).1) (nvD F (x.kids.getD 0 ex0)).2)):=by
 obtain ⟨k,s,n,d,pos,kids⟩:=x
 obtain rfl:k=5:=hk
 match kids,hl with
 | [y],_=>
  refine walkK (orc:=orcNu F) (keep:=[]) (cuts:=[17,29]) (n:=1000) follows ?_
  refine of_tr (fun ZT ZW ZQ _=>(fun Za=>(((((Ex.mk 5 s n d pos [y]).k==5)=true)→(((((0:Int)≤(0:Int))∧(0<(↑1:Int)))∧(R64 Za.fst)∧((0:Int)≤(0:Int))∧(0<(↑1:Int)))∧(((0:Int)≤(0:Int))∧(0<(↑1:Int)))∧(ZS ((fr (-Za.fst) Za.snd):DV))))∧((((Ex.mk 5 s n d pos [y]).k==5)=false)→ZW [cd Tryz.f46 [1,1,1,1,1,0,1,0,1,1],(.blk 3),cd Tryz.f46 [1,1,1,1,1,1]] (stS ZT [1]) ZQ))) (nvD F ((Ex.mk 5 s n d pos [y]).kids.getD 0 ex0))) (by kernel_rfl) ?_
  exact⟨fun _=>⟨⟨⟨by omega,by omega⟩,hr,by omega,by omega⟩,⟨by omega,by omega⟩,rfl⟩,fun h=>absurd (show ((5:Int)==5)=false from h) (by decide)⟩
theorem t46_11 (m:Nat) (x:Ex) (l:List Fr2) (hb:0≤bestL l) (hl:l.length≤1000000) (hk:x.k=11):AWP Tryz.prog G [cd Tryz.f46 [1,1,1,1]] (S46t m x l) (Ret Tryz.prog Tryz.f46 (fr (l.getD (bestL l).toNat (0,0)).1 (l.getD (bestL l).toNat (0,0)).2)):=by
 obtain ⟨k,s,n,d,pos,kids⟩:=x
 obtain rfl:k=11:=hk
 have e:rdPs (.slc 2 l.length (fr2 l))=l:=rdPs_eq l
 have hlt:=(bestK_lt l l.length).2
 have hbl:bestL l<l.length:=by
  unfold bestL
  split
  ·exact hlt
  ·omega
 refine walkK (orc:=orcNu []) (keep:=[]) (cuts:=[15,20,29]) (n:=1000) follows ?_
 refine of_tr (fun ZT ZW ZQ ZK=>(fun Za=>(((((Ex.mk 11 s n d pos kids).k==5)=true)→ZW [cd Tryz.f46 [1,1,1,1,1,0,1,0,1,0],(.blk 3),cd Tryz.f46 [1,1,1,1,1,1]] (stS ZT [0]) ZQ)∧((((Ex.mk 11 s n d pos kids).k==5)=false)→(((((Ex.mk 11 s n d pos kids).k==11)=true)→((ZK 80 [(.slc 2 l.length (fr2 l))] (di (bestL Za))∧(0≤bestL Za)∧(bestL Za<↑l.length))∧((.agg [(di (l.getD (bestL Za).toNat (0,0)).fst),(di (l.getD (bestL Za).toNat (0,0)).snd)]):DV)=(fr (l.getD (bestL l).toNat (0,0)).fst (l.getD (bestL l).toNat (0,0)).snd)))∧((((Ex.mk 11 s n d pos kids).k==11)=false)→(((((Ex.mk 11 s n d pos kids).k==10)=true)→ZW [cd Tryz.f46 [1,1,1,1,1,0,1,0,1,1,1,1,1,0],(.blk 3),cd Tryz.f46 [1,1,1,1,1,1]] (stS ZT [1,1,0]) ZQ)∧((((Ex.mk 11 s n d pos kids).k==10)=false)→ZW [cd Tryz.f46 [1,1,1,1,1,1]] (stS ZT [1,1,1]) ZQ))))))) (rdPs (DV.slc 2 l.length (fr2 l)))) (by kernel_rfl) ?_
 simp only[e]
 exact⟨fun h=>absurd (eq_of_beq h) (by show ¬(11:Int)=5;decide),fun _=>⟨fun _=>⟨⟨f80 l hl,hb,hbl⟩,trivial⟩,fun h=>absurd (show ((11:Int)==11)=false from h) (by decide)⟩⟩
theorem minK_succ (l:List Fr2) (k:Nat):minK l (k+1)=if cmpO (l.getD k (0,0)).1 (l.getD k (0,0)).2 (minK l k).1 (minK l k).2<0 then l.getD k (0,0) else minK l k:=rfl
noncomputable def S46m (m:Nat) (x:Ex) (l:List Fr2) (k:Nat):AS:=⟨regs Tryz.f46.ntmps [(3,.box 3 0),(4,.box 4 0),(9,.box 9 0),(75,.d (fr2D l)),(76,vi l.length),(77,vi k)],[(3,exC m x),(4,[vi 0,vi 0]),(9,[vi (minK l k).1,vi (minK l k).2])]⟩
theorem t46_10 (m:Nat) (x:Ex) (l:List Fr2) (h1:1≤l.length) (hl:l.length≤1000000) (hk:x.k=10):AWP Tryz.prog G [cd Tryz.f46 [1,1,1,1]] (S46t m x l) (Ret Tryz.prog Tryz.f46 (fr (minK l l.length).1 (minK l l.length).2)):=by
 obtain ⟨k,s,n,d,pos,kids⟩:=x
 obtain rfl:k=10:=hk
 refine walkK (orc:=orcNu []) (keep:=[]) (cuts:=[15,18,29]) (n:=1000) follows ?_
 refine of_tr (fun ZT ZW ZQ _=>(((((Ex.mk 10 s n d pos kids).k==5)=true)→ZW [cd Tryz.f46 [1,1,1,1,1,0,1,0,1,0],(.blk 3),cd Tryz.f46 [1,1,1,1,1,1]] (stS ZT [0]) ZQ)∧((((Ex.mk 10 s n d pos kids).k==5)=false)→(((((Ex.mk 10 s n d pos kids).k==11)=true)→ZW [cd Tryz.f46 [1,1,1,1,1,0,1,0,1,1,1,0],(.blk 3),cd Tryz.f46 [1,1,1,1,1,1]] (stS ZT [1,0]) ZQ)∧((((Ex.mk 10 s n d pos kids).k==11)=false)→(((((Ex.mk 10 s n d pos kids).k==10)=true)→((((0:Int)≤(0:Int))∧(0<(↑l.length:Int)))∧ZW [cd Tryz.f46 [1,1,1,1,1,0,1,0,1,1,1,1,1,0,1,0,1,0],(.blk 4),cd Tryz.f46 [1,1,1,1,1,0,1,0,1,1,1,1,1,0,1,1],(.blk 3),cd Tryz.f46 [1,1,1,1,1,1]] (stS ZT [1,1,0]) ZQ))∧((((Ex.mk 10 s n d pos kids).k==10)=false)→ZW [cd Tryz.f46 [1,1,1,1,1,1]] (stS ZT [1,1,1]) ZQ))))))) (by kernel_rfl) ?_
 refine⟨fun h=>absurd (eq_of_beq h) (by show ¬(10:Int)=5;decide),fun _=>⟨fun h=>absurd (eq_of_beq h) (by show ¬(10:Int)=11;decide),fun _=>⟨fun _=>⟨⟨by omega,by omega⟩,?_⟩,fun h=>absurd (show ((10:Int)==10)=false from h) (by decide)⟩⟩⟩
 refine AWP.loop (c:=cAt (bodyOf Tryz.f46) [1,1,1,1,1,0,1,0,1,1,1,1,1,0,1,0,1,0,0]) (by kernel_rfl) (S46m m (.mk 10 s n d pos kids) l) (fun k=>k≤l.length) (fun k=>l.length-k) 0 ?_ (Nat.zero_le _) ?_
 ·refine AS.leZ [] [2] (b:=((T0∧T0∧T0∧T0∧T0∧T0∧True)∧T0∧T0∧((some [(vi (l.getD (Int.toNat 0) (0,0)).fst),(vi (l.getD (Int.toNat 0) (0,0)).snd)]):(Option (List AV)))=(some [(vi (minK l 0).fst),(vi (minK l 0).snd)])∧True)) (by kernel_rfl) (by kernel_rfl) ?_
  exact⟨⟨rfl,rfl,rfl,rfl,rfl,rfl,trivial⟩,rfl,rfl,rfl,trivial⟩
 ·intro k hk
  refine walkK (orc:=orcNu []) (keep:=[]) (cuts:=[]) (n:=1000) follows ?_
  refine of_rd (fun ZT ZW ZQ ZK ZA _=>(fun Za=>((((decide ((↑k:Int)<↑l.length))=true)→(((0≤(↑k:Int))∧((↑k:Int)<↑l.length))∧ZK 81 [(.agg [(di Za.fst),(di Za.snd)]),(.agg [(di (minK l k).fst),(di (minK l k).snd)])] (.tup [(di (cmpO Za.fst Za.snd (minK l k).fst (minK l k).snd)),(db (ok2O Za.fst Za.snd (minK l k).fst (minK l k).snd))])∧(((decide (cmpO Za.fst Za.snd (minK l k).fst (minK l k).snd<0))=true)→((I64 (↑k+1))∧(ZA (stS ZT [0,0]))))∧(((decide (cmpO Za.fst Za.snd (minK l k).fst (minK l k).snd<0))=false)→((I64 (↑k+1))∧(ZA (stS ZT [0,1]))))))∧(((decide ((↑k:Int)<↑l.length))=false)→ZW [cd Tryz.f46 [1,1,1,1,1,0,1,0,1,1,1,1,1,0,1,1],(.blk 3),cd Tryz.f46 [1,1,1,1,1,1]] (stS ZT [1]) ZQ))) (l.getD (↑k:Int).toNat (0,0))) (by kernel_rfl) ?_
  simp only[iTn]
  refine⟨fun h=>?_,fun h=>?_⟩
  ·have hk2:k<l.length:=by have:=oDt h;omega
   have st1:∀c:Fr2,minK l (k+1)=c→S46m m (.mk 10 s n d pos kids) l (k+1)=⟨regs Tryz.f46.ntmps [(3,.box 3 0),(4,.box 4 0),(9,.box 9 0),(75,.d (fr2D l)),(76,vi l.length),(77,vi (k+1:Nat))],[(3,exC m (.mk 10 s n d pos kids)),(4,[vi 0,vi 0]),(9,[vi c.1,vi c.2])]⟩:=fun c h=>by unfold S46m;rw[h]
   refine⟨⟨by omega,by omega⟩,f81 _ _ _ _,fun h2=>⟨⟨by omega,by omega⟩,Again.mk (k+1) ?_ hk2 (by omega)⟩,fun h2=>⟨⟨by omega,by omega⟩,Again.mk (k+1) ?_ hk2 (by omega)⟩⟩
   ·rw[st1 (l.getD k (0,0)) (by rw[minK_succ,if_pos (oDt h2)])]
    refine AS.leZ [] [2] (b:=((T0∧T0∧T0∧T0∧T0∧T0∧True)∧T0∧T0∧((some [(vi (l.getD (↑k:Int).toNat (0,0)).fst),(vi (l.getD (↑k:Int).toNat (0,0)).snd)]):(Option (List AV)))=(some [(vi (l.getD k (0,0)).fst),(vi (l.getD k (0,0)).snd)])∧True)) (by kernel_rfl) (by kernel_rfl) ?_
    exact⟨⟨rfl,rfl,rfl,rfl,rfl,rfl,trivial⟩,rfl,rfl,rfl,trivial⟩
   ·rw[st1 (minK l k) (by rw[minK_succ,if_neg (of_decide_eq_false h2)])]
    exact AS.leA (by kernel_rfl)
  ·have h:=of_decide_eq_false h
   obtain rfl:k=l.length:=by omega
   refine walkK (orc:=orcNu []) (keep:=[]) (cuts:=[]) (n:=1000) follows ?_
   refine of_tr (fun _ _ _ _=>(ZS ((fr (minK l l.length).fst (minK l l.length).snd):DV))) (by kernel_rfl) ?_
   rfl
theorem opr_okv {b:Bool} {x:Int×Int} (h:(opr b x).2.2=0):ok (opr b x).1 (opr b x).2.1=true:=by
 unfold opr at h⊢
 split at h
 ·rename_i hb
  rw[if_pos hb]
  split at h
  ·cases h
  ·rename_i hd
   rw[if_neg hd]
   exact((red_spec hd).2.1 h).1
 ·cases h
theorem ovF_ok {k a b c d:Int} (h:(ovF k a b c d).2.2=0):ok (ovF k a b c d).1 (ovF k a b c d).2.1=true:=by
 unfold ovF at h⊢
 split at h
 ·rename_i hk;rw[if_pos hk];exact opr_okv h
 ·rename_i hk
  rw[if_neg hk]
  split at h
  ·rename_i hk;rw[if_pos hk];exact opr_okv h
  ·rename_i hk
   rw[if_neg hk]
   split at h
   ·rename_i hk;rw[if_pos hk];exact opr_okv h
   ·rename_i hk;rw[if_neg hk];exact opr_okv h
theorem opV_ok {k:Int} {l:List Fr2} {p:Fr2} (h1:1≤l.length) (hl:∀i,i<l.length→ok (l.getD i (0,0)).1 (l.getD i (0,0)).2=true) (h:opV k l=some p):ok p.1 p.2=true:=by
 have h0:=hl 0 (by omega)
 unfold opV at h
 split at h
 ·simp only[oSi] at h;subst h
  revert h0
  unfold ok
  simp only[dEt]
  rintro ⟨a,b,c,d,e⟩
  refine⟨a,b,by show -1000000000≤-(l.getD 0 (0,0)).1;omega,by show -(l.getD 0 (0,0)).1≤1000000000;omega,by show Int.gcd (-(l.getD 0 (0,0)).1) _=1;rw[Int.neg_gcd];exact e⟩
 split at h
 ·simp only[oSi] at h;subst h
  have:=bestK_lt l l.length
  unfold bestL
  split
  ·rcases (by omega:bestK l l.length<0∨0≤bestK l l.length) with h2|h2
   ·have:(bestK l l.length).toNat=0:=by omega
    rw[this];exact h0
   ·exact hl _ (by omega)
  ·exact h0
 split at h
 ·simp only[oSi] at h;subst h
  have:∀k,k≤l.length→ok (minK l k).1 (minK l k).2=true:=by
   intro k
   induction k with
   | zero=>intro _;exact h0
   | succ k ih=>
    intro hk
    rw[minK_succ]
    split
    ·exact hl k hk
    ·exact ih (by omega)
  exact this _ (Nat.le_refl _)
 split at h
 ·rename_i hz
  simp only[oSi] at h;subst h
  exact ovF_ok hz
 ·cases h
end Go.Proofs
