import Derived.Test.YtcfclncbpeahnaaGreatDoorProg
import Derived.Test.YtcfclncbpeahnaaGreatDoorAcC
import Derived.Lib.ItoaLen
import Derived.Test.YtcfclncbpeahnaaGreatDoorAcD
import Derived.Lib.AtoiTie
import Derived.Lib.AtoiAllCases
import Derived.Lib.ItoaNum
import Derived.Lib.IndexLaws
import Derived.Lib.Bytealg
import Derived.Shelf.Small.Wraps
import Derived.Shelf.Strconv.Itoa0
import Derived.Shelf.Strconv.Itoa1
import Derived.Shelf.LaysM
import Derived.Shelf.Strconv.Itoa2
import Derived.Shelf.Strconv.Itoa3
import Derived.Shelf.Strings.Search1
import Derived.Shelf.Strings.Search2
import Derived.Shelf.Strings.Cut
import Derived.Shelf.Strings.Shaped
import Derived.Lib.CutLaws
set_option autoImplicit false
namespace Go.Proofs
open Go Go.Ab
set_option maxHeartbeats 1000000
set_option maxRecDepth 100000
theorem follows:Tryz.prog.follows .mixedOrders=true:=by kernel_rfl
@[match_pattern] abbrev fr (n d:Int):DV:=.agg [di n,di d]
def ok (n d:Int):Bool:=decide (1≤d∧d≤1000000∧-1000000000≤n∧n≤1000000000∧Int.gcd n d=1)
abbrev FE:=Int×Int×Int
def fe (x:FE):DV:=.tup [fr x.1 x.2.1,di x.2.2]
def red1 (n d:Int):FE:=if ok (n.tdiv (Int.gcd n d)) (d.tdiv (Int.gcd n d)) then (n.tdiv (Int.gcd n d),d.tdiv (Int.gcd n d),0) else (0,0,2)
def red (n d:Int):FE:=if d<0 then red1 (-n) (-d) else red1 n d
def big (n:Int):Bool:=decide (-1000000000000000≤n∧n≤1000000000000000)
def mk (n d:Int):FE:=if d=0 then (0,0,1) else if big n=true∧big d=true then red n d else (0,0,2)
abbrev str (l:List UInt8):ByteArray:=⟨l.toArray⟩
def sg (n:Int):List UInt8:=if n<0 then [45] else []
def fmt (n d:Int):List UInt8:=if ok n d then (if d=1 then Lib.itoa n else Lib.itoa n++47 :: Lib.itoa d) else []
def pt (n p:Int):List UInt8:=sg n++(Lib.itoa ((n.natAbs:Int).tdiv p)++46 :: (Lib.itoa (p+(n.natAbs:Int).tmod p)).drop 1)
def decA (n d:Int):Nat→Int→List UInt8×Bool
 | 0,_=>([],false)
 | k+1,p=>if p.tmod d=0 then (if p=1 then (Lib.itoa n,true) else (pt (n*p.tdiv d) p,true)) else decA n d k (10*p)
def decF (n d:Int):List UInt8×Bool:=if ok n d then decA n d 7 1 else ([],false)
def tailB (d:Nat):Nat→Nat→List UInt8
 | 0,_=>[]
 | k+1,r=>if r=0 then [] else Lib.decDigits (10*r / d)++tailB d k (10*r % d)
def decB (n d:Int):List UInt8×Bool:=
 if ok n d=true∧(1000000:Int).tmod d=0 then
  (sg n++(Lib.decDigits (n.natAbs / d.toNat)++(if n.natAbs % d.toNat=0 then [] else 46 :: tailB d.toNat 7 (n.natAbs % d.toNat))),true)
 else ([],false)
def sb (x:List UInt8×Bool):DV:=.tup [ds (str x.1),db x.2]
def orc:Oracle
 | 138,[di n]=>some (di (n.natAbs:Int))
 | 137,[di a,di b]=>some (di (Int.gcd a b))
 | 128,[di a,di b]=>some (di (Int.gcd a b))
 | 129,[fr a b]=>some (db (ok a b))
 | 122,[fr a b]=>some (db (ok a b))
 | 127,[di a,di b]=>some (fe (red a b))
 | 109,[di a,di b]=>some (fe (red a b))
 | 130,[di a]=>some (ds (str (Lib.itoa a)))
 | 123,[di n]=>some (.tup [ds (str (sg n)),di (n.natAbs:Int)])
 | 124,[di n]=>some (ds (str (Lib.decDigits n.toNat)))
 | 131,[di n,di p]=>some (ds (str (pt n p)))
 | 113,[fr n d]=>some (sb (decF n d))
 | 103,[fr n d]=>some (sb (decF n d))
 | _,_=>none
end Go.Proofs
/- Expressions,plain: trees,and how they lie in memory. -/
namespace Go.Proofs
open Go Go.Ab
inductive Ex where
 | mk (k:Int) (s:ByteArray) (n d at_:Int) (kids:List Ex)
def Ex.k:Ex→Int | .mk k _ _ _ _ _=>k
def Ex.s:Ex→ByteArray | .mk _ s _ _ _ _=>s
def Ex.n:Ex→Int | .mk _ _ n _ _ _=>n
def Ex.d:Ex→Int | .mk _ _ _ d _ _=>d
def Ex.pos:Ex→Int | .mk _ _ _ _ a _=>a
def Ex.kids:Ex→List Ex | .mk _ _ _ _ _ l=>l
def ex0:Ex:=.mk 0 .empty 0 0 0 []
theorem Ex.eta (x:Ex):Ex.mk x.k x.s x.n x.d x.pos x.kids=x:=by cases x;rfl
@[match_pattern] abbrev exV (k:Int) (s:ByteArray) (n d a:Int) (l:Nat) (g:Nat→DV):DV:=.agg [di k,ds s,di n,di d,di a,.slc 6 l g]
def lay (g:List Ex→Nat→DV) (l:List Ex) (i:Nat):DV:=exV (l.getD i ex0).k (l.getD i ex0).s (l.getD i ex0).n (l.getD i ex0).d (l.getD i ex0).pos (l.getD i ex0).kids.length (g (l.getD i ex0).kids)
def exG:Nat→List Ex→Nat→DV
 | 0=>fun _ _=>.con undef
 | m+1=>lay (exG m)
def exD (m:Nat) (x:Ex):DV:=exV x.k x.s x.n x.d x.pos x.kids.length (lay (exG m) x.kids)
mutual
def ht:Ex→Nat
 | .mk _ _ _ _ _ l=>htL l
def htL:List Ex→Nat
 | []=>0
 | x :: l=>max (ht x+1) (htL l)
end
mutual
def nds:Ex→Nat
 | .mk _ _ _ _ _ l=>1+ndsL l
def ndsL:List Ex→Nat
 | []=>0
 | x :: l=>nds x+ndsL l
end
theorem ht_eq (x:Ex):ht x=htL x.kids:=by cases x;simp only[ht,Ex.kids]
theorem nds_eq (x:Ex):nds x=1+ndsL x.kids:=by cases x;simp only[nds,Ex.kids]
theorem ht_mem:∀{l:List Ex} {x:Ex},x∈l→ht x+1≤htL l
 | y :: l,x,h=>by
  simp only[htL]
  rcases List.mem_cons.1 h with rfl|h
  ·omega
  ·have:=ht_mem h;omega
theorem nds_mem:∀{l:List Ex} {x:Ex},x∈l→nds x≤ndsL l
 | y :: l,x,h=>by
  simp only[ndsL]
  rcases List.mem_cons.1 h with rfl|h
  ·omega
  ·have:=nds_mem h;omega
theorem nds_len:∀l:List Ex,l.length≤ndsL l
 | []=>Nat.le_refl _
 | x :: l=>by
  have:=nds_len l
  have:=nds_eq x
  simp only[ndsL,List.length_cons];omega
theorem kid_mem {x:Ex} {i:Nat} (h:i<x.kids.length):x.kids.getD i ex0∈x.kids:=by
 rw[List.getD,gEe h];exact List.getElem_mem h
theorem ht_kid {x:Ex} {i:Nat} (h:i<x.kids.length):ht (x.kids.getD i ex0)+1≤ht x:=by
 rw[ht_eq x];exact ht_mem (kid_mem h)
theorem nds_kid {x:Ex} {i:Nat} (h:i<x.kids.length):nds (x.kids.getD i ex0)+1≤nds x:=by
 have:=nds_mem (kid_mem h)
 rw[nds_eq x];omega
mutual
theorem ht_nds:∀x:Ex,ht x+1≤nds x
 | .mk _ _ _ _ _ l=>by
  have:=htL_nds l
  simp only[ht,nds];omega
theorem htL_nds:∀l:List Ex,htL l≤ndsL l
 | []=>Nat.le_refl _
 | x :: l=>by
  have:=ht_nds x
  have:=htL_nds l
  simp only[htL,ndsL];omega
end
theorem exD_inj:∀(m m':Nat) (x y:Ex),ht x≤m→ht y≤m'→exD m x=exD m' y→x=y:=by
 intro m
 induction m with
 | zero=>
  intro m' x y hx hy h
  unfold exD exV at h
  simp only[DV.agg.injEq,List.cons.injEq,DV.con.injEq,Value.int.injEq,Value.string.injEq,DV.slc.injEq,true_and,and_true] at h
  obtain ⟨h1,h2,h3,h4,h5,h6,_⟩:=h
  have hk:x.kids=[]:=by
   refine Classical.byContradiction fun hh=>?_
   have:0<x.kids.length:=List.length_pos_iff.2 hh
   have:=ht_kid this
   omega
  have hk':y.kids=[]:=List.eq_nil_of_length_eq_zero (by rw[←h6,hk];rfl)
  rw[←Ex.eta x,←Ex.eta y,h1,h2,h3,h4,h5,hk,hk']
 | succ m ih=>
  intro m' x y hx hy h
  have h0:=h
  unfold exD exV at h
  simp only[DV.agg.injEq,List.cons.injEq,DV.con.injEq,Value.int.injEq,Value.string.injEq,DV.slc.injEq,true_and,and_true] at h
  obtain ⟨h1,h2,h3,h4,h5,h6,h7⟩:=h
  have hk:x.kids=y.kids:=by
   refine List.ext_getElem h6 fun i hi hi'=>?_
   have e:=congrFun h7 i
   have k1:=ht_kid hi
   have k2:=ht_kid hi'
   obtain ⟨m2,rfl⟩:∃m2,m'=m2+1:=⟨m' - 1,by omega⟩
   have:=ih m2 (x.kids.getD i ex0) (y.kids.getD i ex0) (by omega) (by omega) e
   rwa [List.getD,gEe hi,List.getD,gEe hi'] at this
  rw[←Ex.eta x,←Ex.eta y,h1,h2,h3,h4,h5,hk]
open Classical in
noncomputable def rdE (d:DV):Ex:=if h:∃m x,ht x≤m∧d=exD m x then (Classical.choose_spec h).choose else ex0
theorem rdE_eq {m:Nat} {x:Ex} (h:ht x≤m):rdE (exD m x)=x:=by
 have hh:∃m' x',ht x'≤m'∧exD m x=exD m' x':=⟨m,x,h,rfl⟩
 unfold rdE
 rw[dif_pos hh]
 obtain ⟨h1,h2⟩:=(Classical.choose_spec hh).choose_spec
 exact(exD_inj _ _ _ _ h h1 h2).symm
abbrev kidA (m:Nat) (x:Ex) (i:Nat):DV:=exV (x.kids.getD i ex0).k (x.kids.getD i ex0).s (x.kids.getD i ex0).n (x.kids.getD i ex0).d (x.kids.getD i ex0).pos (x.kids.getD i ex0).kids.length (exG m (x.kids.getD i ex0).kids)
theorem kidOK {Q:DV→Prop} {m:Nat} {x:Ex} (hx:ht x≤m) {i:Nat} (hi:i<x.kids.length) (ih:∀m',m' < m→ht (x.kids.getD i ex0)≤m'→Q (exD m' (x.kids.getD i ex0))):Q (kidA m x i):=by
 have:=ht_kid hi
 cases m with
 | zero=>omega
 | succ m=>exact ih m (by omega) (by omega)
theorem kid_rd {m:Nat} {x:Ex} (hx:ht x≤m) {i:Nat} (hi:i<x.kids.length):rdE (kidA m x i)=x.kids.getD i ex0:=
 kidOK (Q:=fun d=>rdE d=x.kids.getD i ex0) hx hi fun _ _ h=>rdE_eq h
abbrev ndA (m:Nat) (y:Ex):DV:=exV y.k y.s y.n y.d y.pos y.kids.length (exG m y.kids)
abbrev ndX (m:Nat) (y:Ex):DV:=exV y.k y.s y.n y.d y.pos y.kids.length (lay (exG m) y.kids)
set_option maxHeartbeats 2000000
set_option maxRecDepth 100000
open Go Go.Ab Go.RowKit
variable {G:IH}
mutual
def wfE:Ex→Prop
 | .mk _ s _ _ _ l=>s.size≤maxLen∧l.length≤8796093022208∧wfL l
def wfL:List Ex→Prop
 | []=>True
 | x :: l=>wfE x∧wfL l
end
theorem wfL_mem:∀{l:List Ex} {x:Ex},wfL l→x∈l→wfE x
 | y :: l,x,h,hx=>by
  simp only[wfL] at h
  rcases List.mem_cons.1 hx with rfl|hx
  ·exact h.1
  ·exact wfL_mem h.2 hx
theorem wf_len {x:Ex} (h:wfE x):x.kids.length≤8796093022208∧x.s.size≤9223372036854775807:=by
 cases x
 simp only[wfE] at h
 have:maxLen≤9223372036854775807:=by decide
 exact⟨h.2.1,Nat.le_trans h.1 this⟩
theorem wf_kid {x:Ex} (h:wfE x) {i:Nat} (hi:i<x.kids.length):wfE (x.kids.getD i ex0):=by
 have:=kid_mem hi
 cases x
 simp only[wfE] at h
 exact wfL_mem h.2.2 this
abbrev exC (m:Nat) (x:Ex):List AV:=[vi x.k,vs x.s,vi x.n,vi x.d,vi x.pos,.d (.slc 6 x.kids.length (lay (exG m) x.kids))]
theorem ndsL_take {l:List Ex} {k:Nat} (h:k<l.length):ndsL (l.take (k+1))=ndsL (l.take k)+nds (l.getD k ex0):=by
 have app:∀a b:List Ex,ndsL (a++b)=ndsL a+ndsL b:=by
  intro a b
  induction a with
  | nil=>simp[ndsL]
  | cons y a ih=>simp only[List.cons_append,ndsL,ih];omega
 rw[List.take_succ_eq_append_getElem h,app,List.getD,gEe h]
 simp[ndsL]
theorem wrap_eq (n:Int):IntKind.wrap .i64 n=if n % 18446744073709551616≥9223372036854775808 then n % 18446744073709551616-18446744073709551616 else n % 18446744073709551616:=by
 simp[IntKind.wrap,IntKind.bits,IntKind.signed]
theorem wrap_mod {n:Int}:∃q:Int,IntKind.wrap .i64 n=n+18446744073709551616*q:=by
 rw[wrap_eq]
 have h:=Int.emod_add_mul_ediv n 18446744073709551616
 split
 ·exact⟨-(n / 18446744073709551616)-1,by omega⟩
 ·exact⟨-(n / 18446744073709551616),by omega⟩
theorem wrap_congr {n q:Int}:IntKind.wrap .i64 (n+18446744073709551616*q)=IntKind.wrap .i64 n:=by
 rw[wrap_eq,wrap_eq,Int.add_mul_emod_self_left]
theorem wrap_add (a b:Int):IntKind.wrap .i64 (IntKind.wrap .i64 a+IntKind.wrap .i64 b)=IntKind.wrap .i64 (a+b):=by
 obtain ⟨p,hp⟩:=wrap_mod (n:=a)
 obtain ⟨q,hq⟩:=wrap_mod (n:=b)
 rw[hp,hq,show a+18446744073709551616*p+(b+18446744073709551616*q)=a+b+18446744073709551616*(p+q) by omega,wrap_congr]
def wn (x:Ex):Int:=IntKind.wrap .i64 (nds x)
noncomputable def orcNdd:Oracle:=fun f a=>match f,a with
 | 48,[e]=>some (di (wn (rdE e)))
 | _,_=>none
noncomputable def orcNd:Orc:={ d:=orcNdd,w:=true }
def wk (x:Ex) (k:Nat):Int:=IntKind.wrap .i64 (1+ndsL (x.kids.take k):Nat)
noncomputable def S63 (m:Nat) (x:Ex) (k:Nat):AS:=⟨regs Tryz.f48.ntmps [(1,.box 1 0),(3,vi (wk x k)),(4,vi k)],[(1,exC m x)]⟩
theorem f48 (m:Nat):∀(x:Ex),ht x≤m→wfE x→FnOK Tryz.prog G 48 [exD m x] (di (wn x)):=by
 induction m using Nat.strongRecOn with
 | _ m ih=>
 intro x hx hw
 refine FnOK.walk (orc:=orcNd) (keep:=[]) follows Tryz.func48 rfl Tryz.call48 ?_
 refine of_tr (fun ZT ZW ZQ _=>ZW [cd Tryz.f48 [1,1,0,1,0],(.blk 0),cd Tryz.f48 [1,1,1]] (stS ZT []) ZQ) (by kernel_rfl) ?_
 refine AWP.loop (c:=cAt (bodyOf Tryz.f48) [1,1,0,1,0,0]) (by kernel_rfl) (S63 m x) (fun k=>k≤x.kids.length) (fun k=>x.kids.length-k) 0 ?_ (Nat.zero_le _) ?_
 ·refine AS.leZ [1] [] (b:=((T0∧((vi 1):AV)=(vi (wk x 0))∧T0∧True)∧T0∧True)) (by kernel_rfl) (by kernel_rfl) ?_
  exact⟨⟨rfl,rfl,rfl,trivial⟩,rfl,trivial⟩
 ·intro k hk
  refine walk (orc:=orcNd) (keep:=[]) (cuts:=[]) (n:=1000) follows ?_
  refine of_rd (fun ZT ZW ZQ ZK ZA _=>((((decide ((↑k:Int)<↑x.kids.length))=true)→((((0≤(↑k:Int))∧((↑k:Int)<↑x.kids.length))∧ZK 48 [(ndA m (x.kids.getD (↑k:Int).toNat ex0))] (di (wn (rdE (ndA m (x.kids.getD (↑k:Int).toNat ex0))))))∧(ZA (stS ZT [0]))))∧(((decide ((↑k:Int)<↑x.kids.length))=false)→ZW [cd Tryz.f48 [1,1,1]] (stS ZT [1]) ZQ))) (by kernel_rfl) ?_
  simp only[Int.toNat_natCast]
  have hl:=(wf_len hw).1
  refine⟨fun h=>?_,fun h=>?_⟩
  ·have hk2:k<x.kids.length:=by have:=of_decide_eq_true h;omega
   have e1:IntKind.wrap .i64 ((k:Int)+1)=(k+1:Nat):=wrap_I64 ⟨by omega,by omega⟩
   refine⟨⟨⟨by omega,by omega⟩,?_⟩,Again.mk (k+1) ?_ hk2 (by omega)⟩
   ·show FnOK Tryz.prog G 48 [kidA m x k] (di (wn (rdE (kidA m x k))))
    rw[kid_rd hx hk2]
    exact kidOK (Q:=fun d=>FnOK Tryz.prog G 48 [d] _) hx hk2 fun m' h1 h2=>ih m' h1 _ h2 (wf_kid hw hk2)
   ·refine AS.leZ [1,2] [] (b:=((T0∧((vi (IntKind.i64.wrap (wk x k+wn (rdE (ndA m (x.kids.getD (↑k:Int).toNat ex0)))))):AV)=(vi (wk x (k+1)))∧((vi (IntKind.i64.wrap (↑k+1))):AV)=(vi (↑(k+1)))∧True)∧T0∧True)) (by kernel_rfl) (by kernel_rfl) ?_
    refine⟨⟨rfl,?_,?_,trivial⟩,rfl,trivial⟩
    ·show vi (IntKind.wrap .i64 (wk x k+wn (rdE (kidA m x k))))=vi (wk x (k+1))
     rw[kid_rd hx hk2]
     unfold wk wn
     rw[wrap_add,ndsL_take hk2]
     congr 4
     omega
    ·rw[e1]
  ·simp only[decide_eq_false_iff_not] at h
   have hk2:k=x.kids.length:=by omega
   refine walk (orc:=orcNd) (keep:=[]) (cuts:=[]) (n:=1000) follows ?_
   refine of_tr (fun _ _ _ _=>(((di (wk x k)):DV)=(di (wn x)))) (by kernel_rfl) ?_
   unfold wk wn
   rw[hk2,List.take_length,nds_eq]
mutual
def fewE (most:Int):Ex→Bool
 | .mk k s n d a l=>!(decide ((s.size:Int)>40)||decide (wn (.mk k s n d a l)>most))&&fewL most l
def fewL (most:Int):List Ex→Bool
 | []=>true
 | x :: l=>fewE most x&&fewL most l
end
theorem fewE_eq (most:Int) (x:Ex):fewE most x=(!(decide ((x.s.size:Int)>40)||decide (wn x>most))&&fewL most x.kids):=by cases x;simp only[fewE,Ex.s,Ex.kids];rfl
theorem fewL_iff {most:Int}:∀{l:List Ex},fewL most l=true↔∀i,i<l.length→fewE most (l.getD i ex0)=true
 | []=>by simp[fewL]
 | x :: l=>by
  simp only[fewL,bAt,fewL_iff]
  constructor
  ·rintro ⟨h1,h2⟩ i hi
   cases i with
   | zero=>exact h1
   | succ i=>exact h2 i (by simpa using hi)
  ·intro h
   exact⟨h 0 (by simp),fun i hi=>h (i+1) (by simpa using hi)⟩
noncomputable def orcFwd:Oracle:=fun f a=>match f,a with
 | 48,[e]=>some (di (wn (rdE e)))
 | 20,[e,.con (.int .i64 m)]=>some (db (fewE m (rdE e)))
 | _,_=>none
noncomputable def orcFw:Orc:={ d:=orcFwd,w:=true }
noncomputable def S32 (m:Nat) (x:Ex) (M:Int) (k:Nat):AS:=⟨regs Tryz.f20.ntmps [(1,vi M),(2,.box 2 0),(5,vi k)],[(2,exC m x)]⟩
theorem f20 (M:Int) (m:Nat):∀(x:Ex),ht x≤m→wfE x→FnOK Tryz.prog G 20 [exD m x,di M] (db (fewE M x)):=by
 induction m using Nat.strongRecOn with
 | _ m ih=>
 intro x hx hw
 have hl:=(wf_len hw).1
 refine FnOK.walk (orc:=orcFw) (keep:=[]) follows Tryz.func20 rfl Tryz.call20 ?_
 refine of_tr (fun ZT ZW ZQ ZK=>((((!decide ((↑x.s.size:Int)>40))=true)→ZK 48 [(ndX m x)] (di (wn (rdE (ndX m x)))))∧(((decide ((↑x.s.size:Int)>40)||decide (wn (rdE (ndX m x))>M))=true)→(((db false):DV)=(db (fewE M x))))∧(((decide ((↑x.s.size:Int)>40)||decide (wn (rdE (ndX m x))>M))=false)→ZW [cd Tryz.f20 [1,1,0,1,0],(.blk 0),cd Tryz.f20 [1,1,1]] (stS ZT [1]) ZQ))) (by kernel_rfl) ?_
 have h63:rdE (exD m x)=x:=rdE_eq hx
 refine⟨fun _=>?_,fun h=>?_,fun h=>?_⟩
 ·show FnOK Tryz.prog G 48 [exD m x] (di (wn (rdE (exD m x))))
  rw[h63];exact f48 m x hx hw
 ·rw[fewE_eq]
  have h:(decide ((x.s.size:Int)>40)||decide (wn (rdE (exD m x))>M))=true:=h
  rw[h63] at h
  rw[h];rfl
 ·have h:(decide ((x.s.size:Int)>40)||decide (wn (rdE (exD m x))>M))=false:=h
  rw[h63] at h
  refine AWP.loop (c:=cAt (bodyOf Tryz.f20) [1,1,0,1,0,0]) (by kernel_rfl) (S32 m x M) (fun k=>k≤x.kids.length∧∀i,i<k→fewE M (x.kids.getD i ex0)=true) (fun k=>x.kids.length-k) 0 ?_ ⟨Nat.zero_le _,fun i hi=>absurd hi (Nat.not_lt_zero _)⟩ ?_
  ·exact AS.leA (by kernel_rfl)
  ·rintro k ⟨hk,hkd⟩
   refine walk (orc:=orcFw) (keep:=[]) (cuts:=[]) (n:=1000) follows ?_
   refine of_rd (fun ZT ZW ZQ ZK ZA _=>(fun Za=>((((decide ((↑k:Int)<↑x.kids.length))=true)→((((0≤(↑k:Int))∧((↑k:Int)<↑x.kids.length))∧ZK 20 [Za,(di M)] (db (fewE M (rdE Za))))∧(((!fewE M (rdE Za))=true)→(((db false):DV)=(db (fewE M x))))∧(((!fewE M (rdE Za))=false)→(ZA (stS ZT [0,1])))))∧(((decide ((↑k:Int)<↑x.kids.length))=false)→ZW [cd Tryz.f20 [1,1,1]] (stS ZT [1]) ZQ))) (ndA m (x.kids.getD (↑k:Int).toNat ex0))) (by kernel_rfl) ?_
   try dsimp only
   simp only[Int.toNat_natCast]
   refine⟨fun h1=>?_,fun h1=>?_⟩
   ·have hk2:k<x.kids.length:=by have:=of_decide_eq_true h1;omega
    have e1:IntKind.wrap .i64 ((k:Int)+1)=(k+1:Nat):=wrap_I64 ⟨by omega,by omega⟩
    refine⟨⟨⟨by omega,by omega⟩,?_⟩,fun h2=>?_,fun h2=>Again.mk (k+1) ?_ ⟨hk2,fun i hi=>?_⟩ (by omega)⟩
    ·show FnOK Tryz.prog G 20 [kidA m x k,di M] (db (fewE M (rdE (kidA m x k))))
     rw[kid_rd hx hk2]
     exact kidOK (Q:=fun d=>FnOK Tryz.prog G 20 [d,di M] _) hx hk2 fun m' h1 h2=>ih m' h1 _ h2 (wf_kid hw hk2)
    ·have h2:(!fewE M (rdE (kidA m x k)))=true:=h2
     rw[kid_rd hx hk2] at h2
     have e2:fewL M x.kids=false:=by
      rw[Bool.eq_false_iff]
      intro hh
      rw[fewL_iff.1 hh k hk2] at h2
      cases h2
     rw[fewE_eq,e2,Bool.and_false]
    ·refine AS.leZ [2] [] (b:=((T0∧T0∧((vi (IntKind.i64.wrap (↑k+1))):AV)=(vi (↑(k+1)))∧True)∧T0∧True)) (by kernel_rfl) (by kernel_rfl) ?_
     exact⟨⟨rfl,rfl,by rw[e1],trivial⟩,rfl,trivial⟩
    ·rcases Nat.lt_or_ge i k with h3|h3
     ·exact hkd i h3
     ·obtain rfl:i=k:=by omega
      have h2:(!fewE M (rdE (kidA m x i)))=false:=h2
      rw[kid_rd hx hk2] at h2
      simpa using h2
   ·simp only[decide_eq_false_iff_not] at h1
    have hk2:k=x.kids.length:=by omega
    refine walk (orc:=orcFw) (keep:=[]) (cuts:=[]) (n:=1000) follows ?_
    refine of_tr (fun _ _ _ _=>(((db true):DV)=(db (fewE M x)))) (by kernel_rfl) ?_
    rw[fewE_eq,h,fewL_iff.2 (fun i hi=>hkd i (by omega))];rfl
mutual
theorem few_nds {M:Int} (hM:0≤M∧M≤1000000):∀x:Ex,wfE x→fewE M x=true→(nds x:Int)≤M
 | .mk k s n d a l,hw,hf=>by
  rw[fewE_eq] at hf
  simp only[bAt,Bool.not_eq_true',Bool.or_eq_false_iff,decide_eq_false_iff_not,Ex.kids] at hf
  simp only[wfE] at hw
  have h1:=few_ndsL hM l hw.2.2 hf.2
  have h2:(nds (.mk k s n d a l):Int)≤1+1000000*8796093022208:=by
   simp only[nds]
   have h3:=Int.mul_le_mul hM.2 (show (l.length:Int)≤8796093022208 by have:=hw.2.1;omega) (by omega) (by omega)
   omega
  have h3:wn (.mk k s n d a l)=nds (.mk k s n d a l):=wrap_I64 ⟨by omega,by omega⟩
  have h4:=hf.1.2
  rw[h3] at h4
  omega
theorem few_ndsL {M:Int} (hM:0≤M∧M≤1000000):∀l:List Ex,wfL l→fewL M l=true→(ndsL l:Int)≤M*l.length
 | [],_,_=>by simp[ndsL]
 | x :: l,hw,hf=>by
  simp only[fewL,bAt] at hf
  simp only[wfL] at hw
  have h1:=few_nds hM x hw.1 hf.1
  have h2:=few_ndsL hM l hw.2 hf.2
  simp only[ndsL,List.length_cons]
  rw[Int.natCast_add,Int.natCast_add,Int.mul_add]
  omega
end
mutual
def txE:Ex→Prop
 | .mk _ s _ _ _ l=>s.size≤1000∧txL l
def txL:List Ex→Prop
 | []=>True
 | x :: l=>txE x∧txL l
end
mutual
theorem few_tx {M:Int}:∀x:Ex,fewE M x=true→txE x
 | .mk k s n d a l,hf=>by
  rw[fewE_eq] at hf
  simp only[bAt,Bool.not_eq_true',Bool.or_eq_false_iff,decide_eq_false_iff_not,Ex.kids,Ex.s] at hf
  simp only[txE]
  have h0:¬((s.size:Int)>40):=of_decide_eq_false hf.1.1
  exact⟨by omega,few_txL l hf.2⟩
theorem few_txL {M:Int}:∀l:List Ex,fewL M l=true→txL l
 | [],_=>by simp only[txL]
 | x :: l,hf=>by
  simp only[fewL,bAt] at hf
  simp only[txL]
  exact⟨few_tx x hf.1,few_txL l hf.2⟩
end
structure Sm (x:Ex):Prop where
 nd:nds x≤1000
 tx:txE x
theorem txL_mem:∀{l:List Ex} {x:Ex},txL l→x∈l→txE x
 | y :: l,x,h,hx=>by
  simp only[txL] at h
  rcases List.mem_cons.1 hx with rfl|hx
  ·exact h.1
  ·exact txL_mem h.2 hx
theorem Sm.kid {x:Ex} (h:Sm x) {i:Nat} (hi:i<x.kids.length):Sm (x.kids.getD i ex0):=by
 have h1:=nds_kid hi
 refine⟨by have:=h.nd;omega,?_⟩
 have h2:=kid_mem hi
 have h3:=h.tx
 cases x
 simp only[txE] at h3
 exact txL_mem h3.2 h2
theorem Sm.len {x:Ex} (h:Sm x):x.kids.length≤1000∧x.s.size≤1000:=by
 have h1:=h.nd
 have h2:=nds_len x.kids
 have h3:=nds_eq x
 have h4:=h.tx
 cases x
 simp only[txE] at h4
 exact⟨by simp only[Ex.kids] at *;omega,h4.1⟩
theorem Sm.ht {x:Ex} (h:Sm x):Go.Proofs.ht x≤999:=by
 have:=ht_nds x
 have:=h.nd
 omega
theorem few_sm {M:Int} (hM:0≤M∧M≤1000) {x:Ex} (hw:wfE x) (h:fewE M x=true):Sm x:=
 ⟨(by have:=few_nds ⟨hM.1,by omega⟩ x hw h;omega),few_tx x h⟩
theorem htL_take {l:List Ex} {k:Nat} (h:k<l.length):htL (l.take (k+1))=max (htL (l.take k)) (ht (l.getD k ex0)+1):=by
 have app:∀a b:List Ex,htL (a++b)=max (htL a) (htL b):=by
  intro a b
  induction a with
  | nil=>simp[htL]
  | cons y a ih=>simp only[List.cons_append,htL,ih];omega
 rw[List.take_succ_eq_append_getElem h,app,List.getD,gEe h]
 simp[htL]
noncomputable def orcLv:Oracle:=fun f a=>match f,a with
 | 42,[e]=>some (di ((ht (rdE e):Int)+1))
 | 45,[e]=>some (di ((ht (rdE e):Int)+1))
 | _,_=>none
noncomputable def S72 (m:Nat) (x:Ex) (k:Nat):AS:=⟨regs Tryz.f45.ntmps [(1,.box 1 0),(3,vi (htL (x.kids.take k))),(7,.d (.slc 6 x.kids.length (lay (exG m) x.kids))),(8,vi x.kids.length),(9,vi k)],[(1,exC m x)]⟩
theorem f45 (m:Nat):∀(x:Ex),ht x≤m→Sm x→FnOK Tryz.prog G 45 [exD m x] (di ((ht x:Int)+1)):=by
 induction m using Nat.strongRecOn with
 | _ m ih=>
 intro x hx hs
 have hl:=hs.len.1
 refine FnOK.walk (orc:=orcLv) (keep:=[]) follows Tryz.func45 rfl Tryz.call45 ?_
 refine of_tr (fun ZT ZW ZQ _=>ZW [cd Tryz.f45 [1,1,0,1,0],(.blk 0),cd Tryz.f45 [1,1,1]] (stS ZT []) ZQ) (by kernel_rfl) ?_
 refine AWP.loop (c:=cAt (bodyOf Tryz.f45) [1,1,0,1,0,0]) (by kernel_rfl) (S72 m x) (fun k=>k≤x.kids.length) (fun k=>x.kids.length-k) 0 ?_ (Nat.zero_le _) ?_
 ·exact AS.leA (by kernel_rfl)
 ·intro k hk
  refine walk (orc:=orcLv) (keep:=[]) (cuts:=[]) (n:=1000) follows ?_
  refine of_eqH3 (x.kids.getD (↑k:Int).toNat ex0) ((.d (.slc 6 x.kids.length (lay (exG m) x.kids))):AV) (decide ((↑k:Int)<↑x.kids.length)) (fun Za Zb Zc=>(((Zc=true)→(((0≤(↑k:Int))∧((↑k:Int)<↑x.kids.length))∧FnOK Tryz.prog G 45 [(ndA m Za)] (di (↑(ht (rdE (ndA m Za)))+1))∧(I64 (↑k+1))∧Again (S72 m x) (fun k=>k≤x.kids.length) (fun k=>x.kids.length-k) k ⟨regs 20 [(1,(.box 1 0)),(3,(vi (if (↑(ht (rdE (ndA m Za))):Int)+1>↑(htL (List.take k x.kids)) then ↑(ht (rdE (ndA m Za)))+1 else ↑(htL (List.take k x.kids))))),(5,(.box 5 0)),(7,Zb),(8,(vi (↑x.kids.length))),(9,(vi (↑k+1))),(10,(vb Zc)),(11,(.d (.ptr [(di Za.k),(ds Za.s),(di Za.n),(di Za.d),(di Za.pos),(.slc 6 Za.kids.length (exG m Za.kids))]))),(12,(.d (ndA m Za))),(13,(vi (↑(htL (List.take k x.kids))))),(14,(.d (ndA m Za))),(15,(vi (↑(ht (rdE (ndA m Za)))+1))),(16,(vi (if (↑(ht (rdE (ndA m Za))):Int)+1>↑(htL (List.take k x.kids)) then ↑(ht (rdE (ndA m Za)))+1 else ↑(htL (List.take k x.kids))))),(17,(vi (↑k+1)))],[(5,[(vi Za.k),(vs Za.s),(vi Za.n),(vi Za.d),(vi Za.pos),(.d (.slc 6 Za.kids.length (exG m Za.kids)))]),(1,[(vi x.k),(vs x.s),(vi x.n),(vi x.d),(vi x.pos),Zb])]⟩))∧((Zc=false)→AWP Tryz.prog G [cd Tryz.f45 [1,1,1]] ⟨regs 20 [(1,(.box 1 0)),(3,(vi (↑(htL (List.take k x.kids))))),(7,Zb),(8,(vi (↑x.kids.length))),(9,(vi (↑k))),(10,(vb Zc))],[(1,[(vi x.k),(vs x.s),(vi x.n),(vi x.d),(vi x.pos),Zb])]⟩ (Ret Tryz.prog Tryz.f45 (di (↑(ht x)+1)))))) (by kernel_rfl) ?_
  try dsimp only
  simp only[Int.toNat_natCast]
  refine⟨fun h=>?_,fun h=>?_⟩
  ·have hk2:k<x.kids.length:=by have:=of_decide_eq_true h;omega
   refine⟨⟨by omega,by omega⟩,?_,⟨by omega,by omega⟩,Again.mk (k+1) ?_ hk2 (by omega)⟩
   ·show FnOK Tryz.prog G 45 [kidA m x k] (di ((ht (rdE (kidA m x k)):Int)+1))
    rw[kid_rd hx hk2]
    exact kidOK (Q:=fun d=>FnOK Tryz.prog G 45 [d] _) hx hk2 fun m' h1 h2=>ih m' h1 _ h2 (hs.kid hk2)
   ·refine of_eq1 ((.d (.slc 6 x.kids.length (lay (exG m) x.kids))):AV) (fun Za=>((((.box 1 0):AV)=(.box 1 0)∧((vi (if (↑(ht (rdE (ndA m (x.kids.getD k ex0)))):Int)+1>↑(htL (List.take k x.kids)) then ↑(ht (rdE (ndA m (x.kids.getD k ex0))))+1 else ↑(htL (List.take k x.kids)))):AV)=(vi (↑(htL (List.take (k+1) x.kids))))∧(Za:AV)=Za∧((vi (↑x.kids.length)):AV)=(vi (↑x.kids.length))∧((vi (↑k+1)):AV)=(vi (↑(k+1)))∧True)∧((some [(vi x.k),(vs x.s),(vi x.n),(vi x.d),(vi x.pos),Za]):(Option (List AV)))=(some [(vi x.k),(vs x.s),(vi x.n),(vi x.d),(vi x.pos),Za])∧True)) (by kernel_rfl) ?_
    refine⟨⟨rfl,?_,rfl,rfl,rfl,trivial⟩,rfl,trivial⟩
    rw[htL_take hk2]
    show vi (if (ht (rdE (kidA m x k)):Int)+1>htL (x.kids.take k) then _ else _)=_
    rw[kid_rd hx hk2]
    refine congrArg vi ?_
    omega
  ·simp only[decide_eq_false_iff_not] at h
   have hk2:k=x.kids.length:=by omega
   refine walk (orc:=orcLv) (keep:=[]) (cuts:=[]) (n:=1000) follows ?_
   refine of_tr (fun _ _ _ _=>((I64 (↑(htL (List.take k x.kids))+1))∧((di (↑(htL (List.take k x.kids))+1)):DV)=(di (↑(ht x)+1)))) (by kernel_rfl) ?_
   rw[hk2,List.take_length,←ht_eq]
   have:=hs.ht
   exact⟨⟨by omega,by omega⟩,rfl⟩
end Go.Proofs
/- Names,plain. -/
namespace Go.Proofs
open Go Go.Ab
def letB (c:Int):Bool:=decide (97≤c)&&decide (c≤122)
def digB (c:Int):Bool:=decide (48≤c)&&decide (c≤57)
def insB (c:Int):Bool:=letB c||digB c||c==95
def insU (c:UInt8):Bool:=insB (c.toNat:Int)
def runN (s:ByteArray):Nat:=(s.data.toList.takeWhile insU).length
theorem takeWhile_unique {p:UInt8→Bool}:∀{l:List UInt8} {k:Nat},k≤l.length→(∀i (h:i<l.length),i<k→p l[i]=true)→(∀h:k<l.length,p l[k]=false)→(l.takeWhile p).length=k
 | [],k,h,_,_=>by simp at h;subst h;rfl
 | c :: l,0,_,_,h3=>by
  have:=h3 (by simp)
  simp only[List.getElem_cons_zero] at this
  rw[List.takeWhile_cons,this];rfl
 | c :: l,k+1,h1,h2,h3=>by
  have hc:=h2 0 (by simp) (by omega)
  simp only[List.getElem_cons_zero] at hc
  rw[List.takeWhile_cons,hc]
  simp only[if_true,List.length_cons]
  rw[takeWhile_unique (l:=l) (k:=k) (by simpa using h1) (fun i h hi=>by
   have:=h2 (i+1) (by simpa using h) (by omega)
   simpa using this) (fun h=>by
   have:=h3 (by simpa using h)
   simpa using this)]
theorem byteAt_list {s:ByteArray} {k:Nat} (h:k<s.size):byteAt s k=((s.data.toList[k]'(by rw[Array.length_toList];exact h)).toNat:Int):=by
 unfold byteAt
 have h':k<s.data.size:=h
 rw[Array.getElem?_eq_getElem h',Option.getD_some,Array.getElem_toList]
theorem runN_unique {s:ByteArray} {k:Nat} (h1:k≤s.size) (h2:∀i,i<k→insB (byteAt s i)=true) (h3:k<s.size→insB (byteAt s k)=false):runN s=k:=by
 have hl:s.data.toList.length=s.size:=Array.length_toList
 refine takeWhile_unique (by omega) (fun i h hi=>?_) (fun h=>?_)
 ·have:=h2 i hi
  rw[byteAt_list (by omega)] at this;exact this
 ·have:=h3 (by omega)
  rw[byteAt_list (by omega)] at this;exact this
def kwL:List ByteArray:=[⟨#[112,111,105,110,116,115]⟩,⟨#[112,101,110,97,108,116,121]⟩,⟨#[99,97,112]⟩,⟨#[102,108,111,111,114]⟩,⟨#[105,110]⟩,⟨#[105,102]⟩,⟨#[97,110,100]⟩,⟨#[111,114]⟩,⟨#[110,111,116]⟩,⟨#[116,114,117,101]⟩,⟨#[102,97,108,115,101]⟩,⟨#[109,105,110]⟩,⟨#[109,97,120]⟩]
def kwB (s:ByteArray):Bool:=kwL.any fun x=>decide (x=s)
def nameB (s:ByteArray):Bool:=decide (1≤s.size)&&(decide (s.size≤16)&&(letB (byteAt s 0)&&(decide (runN s=s.size)&&!kwB s)))
def stF (l:List ByteArray) (i:Nat):DV:=ds (l.getD i .empty)
def indN (l:List ByteArray) (s:ByteArray):Int:=if l.any (fun x=>decide (x=s)) then ((l.takeWhile fun x=>!decide (x=s)).length:Nat) else -1
end Go.Proofs
/- Bytes,strings and decimal digits,plain;of no program. -/
namespace Go.Proofs
open Go Go.Ab
def bs (l:List UInt8):ByteArray:=⟨l.toArray⟩
theorem bs_size (l:List UInt8):(bs l).size=l.length:=by simp[bs,ByteArray.size]
theorem size_list (s:ByteArray):s.data.toList.length=s.size:=Array.length_toList
theorem toList_inj {a b:ByteArray}:a.toList=b.toList↔a=b:=by
 rw[ByteArray.toList_eq,ByteArray.toList_eq]
 constructor
 ·intro h;apply ByteArray.ext;exact Array.toList_inj.1 h
 ·rintro rfl;rfl
theorem toList_beq (a b:ByteArray):(ByteArray.toList a==ByteArray.toList b)=decide (a=b):=by
 rw[Bool.eq_iff_iff,beq_iff_eq,toList_inj,decide_eq_true_iff]
theorem extract_bs (s:ByteArray) (i j:Nat):s.extract i j=bs ((s.data.toList.drop i).take (j-i)):=by
 apply ByteArray.ext
 rw[ByteArray.data_extract]
 apply Array.ext'
 simp[bs]
theorem bs_toList (s:ByteArray):bs s.data.toList=s:=by simp[bs]
theorem bs_inj {l m:List UInt8} (h:bs l=bs m):l=m:=by
 have:=congrArg (fun s:ByteArray=>s.data.toList) h
 simpa [bs] using this
theorem toList_bs (l:List UInt8):(bs l).data.toList=l:=by simp[bs]
theorem extract_list (s:ByteArray) (i j:Nat):(s.extract i j).data.toList=(s.data.toList.drop i).take (j-i):=by
 rw[extract_bs,toList_bs]
/-! Decimal digits. -/
def isD (c:UInt8):Prop:=48≤c.toNat∧c.toNat≤57
def valD (l:List UInt8):Nat:=l.foldl (fun a c=>10*a+(c.toNat-48)) 0
theorem valD_app (l:List UInt8) (c:UInt8):valD (l++[c])=10*valD l+(c.toNat-48):=by
 simp[valD,List.foldl_append]
theorem dig_nat {k:Nat} (h:k<10):(UInt8.ofNat (48+k)).toNat=48+k:=by
 rw[UInt8.toNat_ofNat'];omega
theorem decDigits_all:∀n:Nat,(∀c∈Lib.decDigits n,isD c)∧valD (Lib.decDigits n)=n∧Lib.decDigits n≠[]∧(1<(Lib.decDigits n).length→∀c,(Lib.decDigits n).head?=some c→c.toNat≠48)∧(1≤n→∀c,(Lib.decDigits n).head?=some c→c.toNat≠48):=by
 intro n
 induction n using Nat.strongRecOn with
 | _ n ih=>
  rw[Lib.decDigits]
  by_cases h:n<10
  ·rw[dif_pos h]
   have hd:=dig_nat h
   refine⟨fun c hc=>?_,?_,by simp,fun h2=>by simp at h2,fun h2 c hc=>?_⟩
   ·rw[List.mem_singleton] at hc;subst hc;exact⟨by omega,by omega⟩
   ·show 10*0+((UInt8.ofNat (48+n)).toNat-48)=n
    rw[hd];omega
   ·simp only[List.head?_cons,oSi] at hc;subst hc;omega
  ·rw[dif_neg h]
   obtain ⟨h1,h2,h3,h4,h5⟩:=ih (n / 10) (by omega)
   have hd:=dig_nat (show n % 10<10 by omega)
   have hhead:∀c,(Lib.decDigits (n / 10)++[UInt8.ofNat (48+n % 10)]).head?=some c→c.toNat≠48:=by
    intro c hc
    refine h5 (by omega) c ?_
    cases hq:Lib.decDigits (n / 10) with
    | nil=>exact absurd hq h3
    | cons a l=>rw[hq] at hc;simpa using hc
   refine⟨fun c hc=>?_,?_,by simp,fun _=>hhead,fun _=>hhead⟩
   ·rcases List.mem_append.1 hc with hc|hc
    ·exact h1 c hc
    ·rw[List.mem_singleton] at hc;subst hc;exact⟨by omega,by omega⟩
   ·rw[valD_app,h2,hd];omega
theorem decDigits_len:∀k n:Nat,n<10 ^ (k+1)→(Lib.decDigits n).length≤k+1
 | 0,n,h=>by
  rw[Lib.decDigits,dif_pos (by omega)];simp
 | k+1,n,h=>by
  rw[Lib.decDigits]
  by_cases h2:n<10
  ·rw[dif_pos h2];simp
  ·rw[dif_neg h2,List.length_append]
   have:=decDigits_len k (n / 10) (by rw[Nat.pow_succ] at h;omega)
   simp;omega
theorem decFrom_digits {l:List UInt8}:∀(a:Nat),(∀c∈l,isD c)→Lib.decFrom a l=some (l.foldl (fun a c=>10*a+(c.toNat-48)) a):=by
 induction l with
 | nil=>intro a _;rfl
 | cons c l ih=>
  intro a hd
  have hc:=hd c (by simp)
  have e:Lib.digitVal c=some (c.toNat-48):=by
   unfold Lib.digitVal
   rw[if_pos ⟨hc.1,hc.2⟩]
  rw[Lib.decFrom,e]
  simp only
  rw[ih _ fun d hd2=>hd d (by simp[hd2]),List.foldl_cons,Nat.mul_comm]
theorem atoi_digits {l:List UInt8} (h0:l≠[]) (hd:∀c∈l,isD c) (hl:l.length≤18):Lib.atoiAll l=.ok (valD l:Int):=by
 rw[Lib.atoiAll_short l hl]
 cases l with
 | nil=>exact absurd rfl h0
 | cons c l=>
  have hc:=hd c (by simp)
  have h45:(c==45)=false:=by
   rw[beq_eq_false_iff_ne];intro e;subst e;have:=hc.1;simp at this
  have h43:(c==43)=false:=by
   rw[beq_eq_false_iff_ne];intro e;subst e;have:=hc.1;simp at this
  rw[Lib.atoi,h45,h43]
  simp only[Bool.false_eq_true,if_false]
  rw[Lib.decNat,if_neg (by simp),decFrom_digits 0 hd]
  rfl
theorem valD_ltN:∀(n:Nat) (l:List UInt8),l.length=n→(∀c∈l,isD c)→valD l<10 ^ n:=by
 intro n
 induction n with
 | zero=>intro l hn _;rw[List.eq_nil_of_length_eq_zero hn];decide
 | succ n ih=>
  intro l' hn hd
  have h0:l'≠[]:=by intro e;rw[e] at hn;simp at hn
  obtain ⟨l,c,rfl⟩:∃l c,l'=l++[c]:=⟨l'.dropLast,l'.getLast h0,(List.dropLast_concat_getLast h0).symm⟩
  have hc:=hd c (by simp)
  have:=ih l (by rw[List.length_append,List.length_singleton] at hn;omega) fun a ha=>hd a (by simp[ha])
  rw[valD_app,Nat.pow_succ]
  have h2:=hc.2
  omega
set_option maxHeartbeats 1000000
set_option maxRecDepth 100000
open Go Go.Ab Go.RowKit
variable {G:IH}
@[match_pattern] abbrev b8 (c:Int):DV:=.con (.int .u8 c)
def kwF:Nat→DV:=elemF false 1 (kwL.map fun s=>ds s)
def kwD:DV:=.slc 1 13 kwF
def anyB (l:List ByteArray) (s:ByteArray):Bool:=l.any fun x=>decide (x=s)
def orcN:Oracle:=fun f a=>match f,a with
 | 65,[b8 c]=>some (db (letB c))
 | 63,[b8 c]=>some (db (digB c))
 | 66,[b8 c]=>some (db (insB c))
 | 69,[b8 c]=>some (db (letB c))
 | 71,[b8 c]=>some (db (digB c))
 | 70,[b8 c]=>some (db (insB c))
 | 61,[.con (.string s),_]=>some (di (runN s))
 | 56,[.con (.string s)]=>some (db (nameB s))
 | 92,[.con (.string s)]=>some (db (nameB s))
 | 115,[]=>some kwD
 | 101,[]=>some kwD
 | 111,[_,.con (.string s)]=>some (db (kwB s))
 | 100,[_,.con (.string s)]=>some (db (kwB s))
 | _,_=>none
theorem f65 (c:Int):FnOK Tryz.prog G 65 [b8 c] (db (letB c)):=by
 refine FnOK.walk (orc:=orcN) (keep:=[]) follows Tryz.func65 rfl Tryz.call65 ?_
 refine of_tr (fun _ _ _ _=>(((db (decide (c≥97)&&decide (c≤122))):DV)=(db (letB c)))) (by kernel_rfl) ?_
 rfl
theorem f63 (c:Int):FnOK Tryz.prog G 63 [b8 c] (db (digB c)):=by
 refine FnOK.walk (orc:=orcN) (keep:=[]) follows Tryz.func63 rfl Tryz.call63 ?_
 refine of_tr (fun _ _ _ _=>(((db (decide (c≥48)&&decide (c≤57))):DV)=(db (digB c)))) (by kernel_rfl) ?_
 rfl
theorem f66 (c:Int):FnOK Tryz.prog G 66 [b8 c] (db (insB c)):=by
 refine FnOK.walk (orc:=orcN) (keep:=[]) follows Tryz.func66 rfl Tryz.call66 ?_
 refine of_tr (fun _ _ _ ZK=>((ZK 65 [(.con (.int .u8 c))] (db (letB c))∧(((!letB c)=true)→ZK 63 [(.con (.int .u8 c))] (db (digB c))))∧((db (letB c||digB c||c==95)):DV)=(db (insB c)))) (by kernel_rfl) ?_
 exact⟨⟨f65 c,fun _=>f63 c⟩,rfl⟩
noncomputable def S121 (s:ByteArray) (k:Nat):AS:=⟨regs Tryz.f61.ntmps [(0,vs s),(1,.d (.con (.func (.func 66) #[] #[]))),(5,vi k)],[]⟩
theorem f61 (s:ByteArray) (hs:s.size≤1000000):FnOK Tryz.prog G 61 [ds s,.con (.func (.func 66) #[] #[])] (di (runN s)):=by
 refine FnOK.walk (orc:=orcN) (keep:=[]) follows Tryz.func61 rfl Tryz.call61 ?_
 refine of_tr (fun ZT ZW ZQ _=>ZW [cd Tryz.f61 [1,1,0,0],(.blk 0),cd Tryz.f61 [1,1,1]] (stS ZT []) ZQ) (by kernel_rfl) ?_
 refine AWP.loop (c:=cAt (bodyOf Tryz.f61) [1,1,0,0,0]) (by kernel_rfl) (S121 s) (fun k=>k≤s.size∧∀i,i<k→insB (byteAt s i)=true) (fun k=>s.size-k) 0 ?_ ⟨Nat.zero_le _,fun i hi=>by omega⟩ ?_
 ·exact AS.leA (by kernel_rfl)
 ·rintro k ⟨hk,hkd⟩
  refine walk (orc:=orcN) (keep:=[]) (cuts:=[]) (n:=1000) follows ?_
  refine of_rd (fun ZT ZW ZQ ZK ZA _=>(((((decide ((↑k:Int)<↑s.size))=true)→((0≤(↑k:Int))∧((↑k:Int)<↑s.size)))∧(((decide ((↑k:Int)<↑s.size))=true)→ZK 66 [(.con (.int .u8 (byteAt s (↑k:Int).toNat)))] (db (insB (byteAt s (↑k:Int).toNat)))))∧(((decide ((↑k:Int)<↑s.size)&&insB (byteAt s (↑k:Int).toNat))=true)→((I64 (↑k+1))∧(ZA (stS ZT [0]))))∧(((decide ((↑k:Int)<↑s.size)&&insB (byteAt s (↑k:Int).toNat))=false)→ZW [cd Tryz.f61 [1,1,1]] (stS ZT [1]) ZQ))) (by kernel_rfl) ?_
  simp only[Int.toNat_natCast]
  refine⟨⟨fun h=>?_,fun _=>f66 _⟩,fun h=>?_,fun h=>?_⟩
  ·simp only[decide_eq_true_eq] at h
   exact⟨by omega,by omega⟩
  ·simp only[bAt,decide_eq_true_eq] at h
   refine⟨⟨by omega,by omega⟩,Again.mk (k+1) ?_ ⟨by omega,fun i hi=>?_⟩ (by omega)⟩
   ·exact AS.leA (by kernel_rfl)
   ·rcases Nat.lt_or_ge i k with h1|h1
    ·exact hkd i h1
    ·obtain rfl:i=k:=by omega
     exact h.2
  ·have hst:runN s=k:=runN_unique hk hkd fun h1=>by
    simp only[Bool.and_eq_false_imp,decide_eq_true_eq] at h
    exact h (by omega)
   refine walk (orc:=orcN) (keep:=[]) (cuts:=[]) (n:=1000) follows ?_
   refine of_tr (fun _ _ _ _=>(((di (↑k)):DV)=(di ↑(runN s)))) (by kernel_rfl) ?_
   rw[hst]
theorem f115:FnOK Tryz.prog G 115 [] kwD:=by
 refine FnOK.walk (orc:=orcN) (keep:=[]) follows Tryz.func115 rfl Tryz.call115 ?_
 refine of_tr (fun _ _ _ _=>(((.slc 1 13 (elemF false 1 [(ds (ByteArray.mk #[112,111,105,110,116,115])),(ds (ByteArray.mk #[112,101,110,97,108,116,121])),(ds (ByteArray.mk #[99,97,112])),(ds (ByteArray.mk #[102,108,111,111,114])),(ds (ByteArray.mk #[105,110])),(ds (ByteArray.mk #[105,102])),(ds (ByteArray.mk #[97,110,100])),(ds (ByteArray.mk #[111,114])),(ds (ByteArray.mk #[110,111,116])),(ds (ByteArray.mk #[116,114,117,101])),(ds (ByteArray.mk #[102,97,108,115,101])),(ds (ByteArray.mk #[109,105,110])),(ds (ByteArray.mk #[109,97,120]))])):DV)=kwD)) (by kernel_rfl) ?_
 rfl
theorem any_step {l:List ByteArray} {s:ByteArray} {k:Nat} (hk:k<l.length) (hno:∀i,i<k→l.getD i .empty≠s) (h:l.getD k .empty=s):anyB l s=true∧indN l s=k:=by
 have hk2:l[k]=s:=by rw[←h,List.getD,gEe hk];rfl
 have h1:anyB l s=true:=by
  unfold anyB
  rw[List.any_eq_true]
  exact⟨l[k],List.getElem_mem hk,by rw[decide_eq_true_eq];exact hk2⟩
 refine⟨h1,?_⟩
 unfold indN
 unfold anyB at h1
 rw[if_pos h1]
 have:∀(l:List ByteArray) (k:Nat) (hk:k<l.length),(∀i (h:i<l.length),i<k→l[i]≠s)→l[k]=s→(l.takeWhile fun x=>!decide (x=s)).length=k:=by
  intro l
  induction l with
  | nil=>intro k hk;simp at hk
  | cons x l ih=>
   intro k hk h2 h3
   cases k with
   | zero=>
    simp only[List.getElem_cons_zero] at h3
    rw[List.takeWhile_cons,h3];simp
   | succ k=>
    have h4:=h2 0 (by simp) (by omega)
    simp only[List.getElem_cons_zero] at h4
    rw[List.takeWhile_cons]
    simp only[h4,decide_false,Bool.not_false,if_true,List.length_cons]
    rw[ih k (by simpa using hk) (fun i h5 h6=>by
     have:=h2 (i+1) (by simpa using h5) (by omega)
     simpa using this) (by simpa using h3)]
 rw[this l k hk (fun i h5 h6=>by
  have:=hno i h6
  rw[List.getD,gEe h5] at this
  exact this) hk2]
theorem any_none {l:List ByteArray} {s:ByteArray} (hno:∀i,i<l.length→l.getD i .empty≠s):anyB l s=false∧indN l s = -1:=by
 have h1:anyB l s=false:=by
  rw[Bool.eq_false_iff]
  unfold anyB
  intro h
  obtain ⟨x,hx,hd⟩:=List.any_eq_true.1 h
  obtain ⟨i,hi,rfl⟩:=List.getElem_of_mem hx
  rw[decide_eq_true_eq] at hd
  refine hno i hi ?_
  rw[List.getD,gEe hi];exact hd
 refine⟨h1,?_⟩
 unfold indN
 unfold anyB at h1
 rw[if_neg (by rw[h1];simp)]
noncomputable def S143 (l:List ByteArray) (s:ByteArray) (k:Nat):AS:=⟨regs Tryz.f77.ntmps [(0,.d (.slc 1 l.length (stF l))),(1,vs s),(7,vi l.length),(8,vi k)],[]⟩
theorem f77 (l:List ByteArray) (s:ByteArray) (hl:l.length≤1000000):FnOK Tryz.prog G 77 [.slc 1 l.length (stF l),ds s] (di (indN l s)):=by
 refine FnOK.walk (orc:=orcN) (keep:=[]) follows Tryz.func77 rfl Tryz.call77 ?_
 refine of_tr (fun ZT ZW ZQ _=>ZW [cd Tryz.f77 [1,0,1,0],(.blk 0),cd Tryz.f77 [1,1]] (stS ZT []) ZQ) (by kernel_rfl) ?_
 refine AWP.loop (c:=cAt (bodyOf Tryz.f77) [1,0,1,0,0]) (by kernel_rfl) (S143 l s) (fun k=>k≤l.length∧∀i,i<k→l.getD i .empty≠s) (fun k=>l.length-k) 0 ?_ ⟨Nat.zero_le _,fun i hi=>by omega⟩ ?_
 ·exact AS.leA (by kernel_rfl)
 ·rintro k ⟨hk,hkd⟩
  refine walk (orc:=orcN) (keep:=[]) (cuts:=[]) (n:=1000) follows ?_
  refine of_rd (fun ZT ZW ZQ _ ZA _=>((((decide ((↑k:Int)<↑l.length))=true)→(((0≤(↑k:Int))∧((↑k:Int)<↑l.length))∧(((s.toList==(l.getD (↑k:Int).toNat ByteArray.empty).toList)=true)→(((di (↑k)):DV)=(di (indN l s))))∧(((s.toList==(l.getD (↑k:Int).toNat ByteArray.empty).toList)=false)→((I64 (↑k+1))∧(ZA (stS ZT [0,1]))))))∧(((decide ((↑k:Int)<↑l.length))=false)→ZW [cd Tryz.f77 [1,1]] (stS ZT [1]) ZQ))) (by kernel_rfl) ?_
  simp only[Int.toNat_natCast,toList_beq]
  refine⟨fun h=>?_,fun h=>?_⟩
  ·simp only[decide_eq_true_eq] at h
   refine⟨⟨by omega,by omega⟩,fun h2=>?_,fun h2=>?_⟩
   ·simp only[decide_eq_true_eq] at h2
    rw[(any_step (by omega) hkd h2.symm).2]
   ·simp only[decide_eq_false_iff_not] at h2
    refine⟨⟨by omega,by omega⟩,Again.mk (k+1) ?_ ⟨by omega,fun i hi=>?_⟩ (by omega)⟩
    ·exact AS.leA (by kernel_rfl)
    ·rcases Nat.lt_or_ge i k with h1|h1
     ·exact hkd i h1
     ·obtain rfl:i=k:=by omega
      exact fun h3=>h2 h3.symm
  ·simp only[decide_eq_false_iff_not] at h
   have hst:=any_none (l:=l) (s:=s) fun i hi=>hkd i (by omega)
   refine walk (orc:=orcN) (keep:=[]) (cuts:=[]) (n:=1000) follows ?_
   refine of_tr (fun _ _ _ _=>(((di (-1)):DV)=(di (indN l s)))) (by kernel_rfl) ?_
   rw[hst.2]
def orcI (l:List ByteArray):Oracle:=fun f a=>match f,a with
 | 77,[_,.con (.string s)]=>some (di (indN l s))
 | _,_=>none
theorem emp_beq (s:ByteArray):(ByteArray.toList s==ByteArray.toList { data:=#[] })=decide (s.size=0):=by
 rw[toList_beq,decide_eq_decide]
 constructor
 ·rintro rfl;rfl
 ·intro h
  apply ByteArray.ext
  exact Array.eq_empty_of_size_eq_zero h
theorem f111 (l:List ByteArray) (s:ByteArray) (hl:l.length≤1000000):FnOK Tryz.prog G 111 [.slc 1 l.length (stF l),ds s] (db (anyB l s)):=by
 refine FnOK.walk (orc:=orcI l) (keep:=[]) follows Tryz.func111 rfl Tryz.call111 ?_
 refine of_tr (fun _ _ _ ZK=>(ZK 77 [(.slc 1 l.length (stF l)),(ds s)] (di (indN l s))∧((db (decide (indN l s≥0))):DV)=(db (anyB l s)))) (by kernel_rfl) ?_
 refine⟨f77 l s hl,?_⟩
 unfold indN anyB
 cases h:l.any (fun x=>decide (x=s)) with
 | true=>
  rw[if_pos rfl]
  have:decide ((((l.takeWhile fun x=>!decide (x=s)).length:Nat):Int)≥0)=true:=by rw[decide_eq_true_eq];omega
  rw[this]
 | false=>rfl
theorem kw_congr:∀i,i<13→kwF i=stF kwL i:=by
 intro i hi
 unfold kwF
 match i,hi with
 | 0,_=>rfl
 | 1,_=>rfl
 | 2,_=>rfl
 | 3,_=>rfl
 | 4,_=>rfl
 | 5,_=>rfl
 | 6,_=>rfl
 | 7,_=>rfl
 | 8,_=>rfl
 | 9,_=>rfl
 | 10,_=>rfl
 | 11,_=>rfl
 | 12,_=>rfl
theorem f111kw (s:ByteArray):FnOK Tryz.prog G 111 [kwD,ds s] (db (kwB s)):=
 (f111 kwL s (by decide)).args fun _=>DV.rels_cons (fun _ h=>DV.rel_slc_congr kw_congr h) (DV.rels_cons (fun _ h=>h) (fun _ h=>h))
theorem name_eq (s:ByteArray):nameB s=(!decide (s.size=0)&&decide ((s.size:Int)≤16)&&letB (byteAt s (Int.toNat 0))&&(runN s:Int)==(s.size:Int)&&!kwB s):=by
 unfold nameB
 have e1:decide (1≤s.size) = !decide (s.size=0):=by
  by_cases h:s.size=0
  ·simp[h]
  ·simp[h];omega
 have e2:decide (s.size≤16)=decide ((s.size:Int)≤16):=by rw[decide_eq_decide];omega
 have e3:decide (runN s=s.size)=((runN s:Int)==(s.size:Int)):=by
  by_cases h:runN s=s.size
  ·rw[h];simp
  ·rw[decide_eq_false h]
   symm
   rw[beq_eq_false_iff_ne]
   omega
 rw[e1,e2,e3]
 simp only[Bool.and_assoc];rfl
theorem f92 (s:ByteArray) (hs:s.size≤1000000):FnOK Tryz.prog G 92 [ds s] (db (nameB s)):=by
 refine FnOK.walk (orc:=orcN) (keep:=[]) follows Tryz.func92 rfl Tryz.call92 ?_
 refine of_tr (fun _ _ _ ZK=>(fun Za Zb=>((((Zb=true)→(((0:Int)≤(0:Int))∧(0<(↑s.size:Int))))∧((Zb=true)→ZK 65 [(.con (.int .u8 (byteAt s (Int.toNat 0))))] (db (letB (byteAt s (Int.toNat 0)))))∧(((!s.toList==(ByteArray.mk #[]).toList&&decide ((↑s.size:Int)≤16)&&letB (byteAt s (Int.toNat 0)))=true)→ZK 61 [(ds s),(.con (.func (.func 66) ⟨[]⟩ ⟨[]⟩))] (di (↑(runN s))))∧((Za=true)→ZK 115 [] (.slc 1 13 kwF))∧((Za=true)→ZK 111 [(.slc 1 13 kwF),(ds s)] (db (kwB s))))∧((db (!s.toList==(ByteArray.mk #[]).toList&&decide ((↑s.size:Int)≤16)&&letB (byteAt s (Int.toNat 0))&&(↑(runN s):Int)==↑s.size&&!kwB s)):DV)=(db (nameB s)))) (!s.toList==(ByteArray.mk #[]).toList&&decide ((↑s.size:Int)≤16)&&letB (byteAt s (Int.toNat 0))&&(↑(runN s):Int)==↑s.size) (!s.toList==(ByteArray.mk #[]).toList&&decide ((↑s.size:Int)≤16))) (by kernel_rfl) ?_
 try dsimp only
 simp only[emp_beq]
 refine⟨⟨fun h=>?_,fun _=>f65 _,fun _=>f61 s hs,fun _=>f115,fun _=>f111kw s⟩,?_⟩
 ·simp only[bAt,Bool.not_eq_true',decide_eq_false_iff_not] at h
  exact⟨by omega,by omega⟩
 ·rw[name_eq]
set_option maxHeartbeats 2000000
/-! slices.IndexFunc and ContainsFunc over kids,for a function that keeps what it captures. -/
def kidI (p:Ex→Bool) (l:List Ex):Int:=if l.any p then ((l.takeWhile fun x=>!p x).length:Int) else -1
theorem kidI_hit {p:Ex→Bool} {L:List Ex} {k:Nat} (hk:k<L.length) (hno:∀i,i<k→p (L.getD i ex0)=false) (h:p (L.getD k ex0)=true):L.any p=true∧kidI p L=k:=by
 have e:∀i (h:i<L.length),L.getD i ex0=L[i]:=fun i h=>by rw[List.getD,gEe h];rfl
 have h1:L.any p=true:=by
  rw[List.any_eq_true]
  exact⟨L[k],List.getElem_mem hk,by rw[←e k hk];exact h⟩
 refine⟨h1,?_⟩
 unfold kidI
 rw[if_pos h1]
 have:∀(l:List Ex) (k:Nat) (hk:k<l.length),(∀i (h:i<l.length),i<k→p l[i]=false)→p l[k]=true→(l.takeWhile fun x=>!p x).length=k:=by
  intro l
  induction l with
  | nil=>intro k hk;simp at hk
  | cons x l ih=>
   intro k hk h2 h3
   cases k with
   | zero=>
    simp only[List.getElem_cons_zero] at h3
    rw[List.takeWhile_cons,h3];simp
   | succ k=>
    have h4:=h2 0 (by simp) (by omega)
    simp only[List.getElem_cons_zero] at h4
    rw[List.takeWhile_cons]
    simp only[h4,Bool.not_false,if_true,List.length_cons]
    rw[ih k (by simpa using hk) (fun i h5 h6=>by
     have:=h2 (i+1) (by simpa using h5) (by omega)
     simpa using this) (by simpa using h3)]
 rw[this L k hk (fun i h5 h6=>by rw[←e i h5];exact hno i h6) (by rw[←e k hk];exact h)]
theorem kidI_none {p:Ex→Bool} {L:List Ex} (hno:∀i,i<L.length→p (L.getD i ex0)=false):L.any p=false∧kidI p L = -1:=by
 have h1:L.any p=false:=by
  rw[Bool.eq_false_iff]
  intro h
  obtain ⟨x,hx,hd⟩:=List.any_eq_true.1 h
  obtain ⟨i,hi,rfl⟩:=List.getElem_of_mem hx
  have:=hno i hi
  rw[List.getD,gEe hi] at this
  rw[show p L[i]=false from this] at hd
  cases hd
 refine⟨h1,?_⟩
 unfold kidI
 rw[if_neg (by rw[h1];simp)]
theorem kidI_ge (p:Ex→Bool) (L:List Ex):decide (kidI p L≥0)=L.any p:=by
 unfold kidI
 cases h:L.any p with
 | true=>rw[if_pos rfl,decide_eq_true_eq];omega
 | false=>rfl
noncomputable def orcK0 (c:Nat) (p:Ex→Bool) (l:List Ex):Oracle:=fun f a=>match Nat.beq f c,f,a with
 | true,_,[e]=>some (db (p (rdE e)))
 | _,133,[_,_]=>some (di (kidI p l))
 | _,_,_=>none
noncomputable def S128 (c:Nat) (m:Nat) (x:Ex) (k:Nat):AS:=⟨regs Tryz.f133.ntmps [(0,.d (.slc 6 x.kids.length (lay (exG m) x.kids))),(1,.d (.con (.func (.func c) #[] #[]))),(7,vi x.kids.length),(8,vi k)],[]⟩
theorem f133 (p:Ex→Bool) (m:Nat) (x:Ex) (hx:ht x≤m) (hs:Sm x) (hc:∀i,i<x.kids.length→FnOK Tryz.prog G 117 [kidA m x i] (db (p (x.kids.getD i ex0)))) :
  FnOK Tryz.prog G 133 [.slc 6 x.kids.length (lay (exG m) x.kids),.con (.func (.func 117) #[] #[])] (di (kidI p x.kids)):=by
 have hl:=hs.len.1
 refine FnOK.walk (orc:=orcK0 117 p x.kids) (keep:=[]) follows Tryz.func133 rfl Tryz.call133 ?_
 refine of_tr (fun ZT ZW ZQ _=>ZW [cd Tryz.f133 [1,0,1,0],(.blk 0),cd Tryz.f133 [1,1]] (stS ZT []) ZQ) (by kernel_rfl) ?_
 refine AWP.loop (c:=cAt (bodyOf Tryz.f133) [1,0,1,0,0]) (by kernel_rfl) (S128 117 m x) (fun k=>k≤x.kids.length∧∀i,i<k→p (x.kids.getD i ex0)=false) (fun k=>x.kids.length-k) 0 ?_ ⟨Nat.zero_le _,fun i hi=>by omega⟩ ?_
 ·exact AS.leA (by kernel_rfl)
 ·rintro k ⟨hk,hkd⟩
  refine walk (orc:=orcK0 117 p x.kids) (keep:=[]) (cuts:=[]) (n:=1000) follows ?_
  refine of_rd (fun ZT ZW ZQ ZK ZA _=>(fun Za=>((((decide ((↑k:Int)<↑x.kids.length))=true)→((((0≤(↑k:Int))∧((↑k:Int)<↑x.kids.length))∧ZK 117 [Za] (db (p (rdE Za))))∧(((p (rdE Za))=true)→(((di (↑k)):DV)=(di (kidI p x.kids))))∧(((p (rdE Za))=false)→((I64 (↑k+1))∧(ZA (stS ZT [0,1]))))))∧(((decide ((↑k:Int)<↑x.kids.length))=false)→ZW [cd Tryz.f133 [1,1]] (stS ZT [1]) ZQ))) (ndA m (x.kids.getD (↑k:Int).toNat ex0))) (by kernel_rfl) ?_
  try dsimp only
  simp only[Int.toNat_natCast]
  refine⟨fun h=>?_,fun h=>?_⟩
  ·have hk2:k<x.kids.length:=by have:=of_decide_eq_true h;omega
   have e1:p (rdE (kidA m x k))=p (x.kids.getD k ex0):=by rw[kid_rd hx hk2]
   refine⟨⟨⟨by omega,by omega⟩,?_⟩,fun h2=>?_,fun h2=>⟨⟨by omega,by omega⟩,Again.mk (k+1) ?_ ⟨hk2,fun i hi=>?_⟩ (by omega)⟩⟩
   ·show FnOK Tryz.prog G 117 [kidA m x k] (db (p (rdE (kidA m x k))))
    rw[e1];exact hc k hk2
   ·have h2:p (rdE (kidA m x k))=true:=h2
    rw[e1] at h2
    rw[(kidI_hit hk2 hkd h2).2]
   ·exact AS.leA (by kernel_rfl)
   ·rcases Nat.lt_or_ge i k with h1|h1
    ·exact hkd i h1
    ·obtain rfl:i=k:=by omega
     rw[←e1];exact h2
  ·simp only[decide_eq_false_iff_not] at h
   have hst:=kidI_none (p:=p) (L:=x.kids) fun i hi=>hkd i (by omega)
   refine walk (orc:=orcK0 117 p x.kids) (keep:=[]) (cuts:=[]) (n:=1000) follows ?_
   refine of_tr (fun _ _ _ _=>(((di (-1)):DV)=(di (kidI p x.kids)))) (by kernel_rfl) ?_
   rw[hst.2]
theorem f116 (p:Ex→Bool) (m:Nat) (x:Ex) (hx:ht x≤m) (hs:Sm x) (hc:∀i,i<x.kids.length→FnOK Tryz.prog G 117 [kidA m x i] (db (p (x.kids.getD i ex0)))) :
  FnOK Tryz.prog G 116 [.slc 6 x.kids.length (lay (exG m) x.kids),.con (.func (.func 117) #[] #[])] (db (x.kids.any p)):=by
 refine FnOK.walk (orc:=orcK0 117 p x.kids) (keep:=[]) follows Tryz.func116 rfl Tryz.call116 ?_
 refine of_tr (fun _ _ _ ZK=>(ZK 133 [(.slc 6 x.kids.length (lay (exG m) x.kids)),(.con (.func (.func 117) ⟨[]⟩ ⟨[]⟩))] (di (kidI p x.kids))∧((db (decide (kidI p x.kids≥0))):DV)=(db (x.kids.any p)))) (by kernel_rfl) ?_
 refine⟨f133 p m x hx hs hc,?_⟩
 rw[kidI_ge]
theorem FnOKres {f:FuncId} {args:List DV} {r r':DV} (h:FnOK Tryz.prog G f args r) (hr:∀k v,DV.rel k r v→DV.rel k r' v):FnOK Tryz.prog G f args r':=
 ⟨h.1,fun w k vs hG hw ha=>(h.2 w k vs hG hw ha).mono fun e w' ⟨v,h',e1,h2,h3⟩=>⟨v,h',e1,hr h' v h2,h3⟩⟩
abbrev iv (n:Int):Value:=.int .i64 n
def binM (z:Value→DV):Value→DV:=putF (iv 20) (ds ⟨#[111,114]⟩) (putF (iv 19) (ds ⟨#[97,110,100]⟩) (putF (iv 17) (ds ⟨#[62,61]⟩) (putF (iv 16) (ds ⟨#[62]⟩) (putF (iv 15) (ds ⟨#[60,61]⟩) (putF (iv 14) (ds ⟨#[60]⟩) (putF (iv 13) (ds ⟨#[33,61]⟩) (putF (iv 12) (ds ⟨#[61,61]⟩) (putF (iv 9) (ds ⟨#[47]⟩) (putF (iv 8) (ds ⟨#[42]⟩) (putF (iv 7) (ds ⟨#[45]⟩) (putF (iv 6) (ds ⟨#[43]⟩) z)))))))))))
def binN:Value→Bool:=putH (iv 20) (putH (iv 19) (putH (iv 17) (putH (iv 16) (putH (iv 15) (putH (iv 14) (putH (iv 13) (putH (iv 12) (putH (iv 9) (putH (iv 8) (putH (iv 7) (putH (iv 6) fun _=>false)))))))))))
def opS (k:Int):ByteArray:=bif decide (k=20) then ⟨#[111,114]⟩ else bif decide (k=19) then ⟨#[97,110,100]⟩ else bif decide (k=17) then ⟨#[62,61]⟩ else bif decide (k=16) then ⟨#[62]⟩ else bif decide (k=15) then ⟨#[60,61]⟩ else bif decide (k=14) then ⟨#[60]⟩ else bif decide (k=13) then ⟨#[33,61]⟩ else bif decide (k=12) then ⟨#[61,61]⟩ else bif decide (k=9) then ⟨#[47]⟩ else bif decide (k=8) then ⟨#[42]⟩ else bif decide (k=7) then ⟨#[45]⟩ else bif decide (k=6) then ⟨#[43]⟩ else .empty
def opB (k:Int):Bool:=decide (6≤k∧k≤9∨12≤k∧k≤17∨19≤k∧k≤20)
def keyI (v:Value):Int:=match v with | .int _ n=>n|_=>0
abbrev binD:DV:=.mp (some .i64) (fun v=>ds (opS (keyI v))) (fun v=>opB (keyI v))
theorem ds_cond (c:Bool) (a b:ByteArray):(bif c then ds a else ds b)=ds (bif c then a else b):=by cases c<;>rfl
theorem f94:FnOK Tryz.prog G 94 [] binD:=by
 refine FnOKres (r:=.mp (some .i64) (binM fun _=>ds .empty) binN) (FnOK.walk (orc:=({ d:=fun _ _=>none }:Orc)) (keep:=[]) follows Tryz.func94 rfl Tryz.call94 ?_) fun k v hv=>?_
 ·refine of_tr (fun _ _ _ _=>(((.mp (some .i64) (putF (Value.int IntKind.i64 20) (ds (ByteArray.mk #[111,114])) (putF (Value.int IntKind.i64 19) (ds (ByteArray.mk #[97,110,100])) (putF (Value.int IntKind.i64 17) (ds (ByteArray.mk #[62,61])) (putF (Value.int IntKind.i64 16) (ds (ByteArray.mk #[62])) (putF (Value.int IntKind.i64 15) (ds (ByteArray.mk #[60,61])) (putF (Value.int IntKind.i64 14) (ds (ByteArray.mk #[60])) (putF (Value.int IntKind.i64 13) (ds (ByteArray.mk #[33,61])) (putF (Value.int IntKind.i64 12) (ds (ByteArray.mk #[61,61])) (putF (Value.int IntKind.i64 9) (ds (ByteArray.mk #[47])) (putF (Value.int IntKind.i64 8) (ds (ByteArray.mk #[42])) (putF (Value.int IntKind.i64 7) (ds (ByteArray.mk #[45])) (putF (Value.int IntKind.i64 6) (ds (ByteArray.mk #[43])) fun x=>ds (ByteArray.mk #[]))))))))))))) (putH (Value.int IntKind.i64 20) (putH (Value.int IntKind.i64 19) (putH (Value.int IntKind.i64 17) (putH (Value.int IntKind.i64 16) (putH (Value.int IntKind.i64 15) (putH (Value.int IntKind.i64 14) (putH (Value.int IntKind.i64 13) (putH (Value.int IntKind.i64 12) (putH (Value.int IntKind.i64 9) (putH (Value.int IntKind.i64 8) (putH (Value.int IntKind.i64 7) (putH (Value.int IntKind.i64 6) fun x=>false))))))))))))):DV)=(.mp (some .i64) (binM fun x=>ds ByteArray.empty) binN))) (by kernel_rfl) ?_
  rfl
 ·refine DV.rel_mp_congr (fun k hk _=>?_) (fun k hk=>?_) hv
  ·cases k<;>simp only[keyT,MapKept.IsKey] at hk
   subst hk
   simp only[binM,putF,keyEq,opS,keyI,decide_true,Bool.true_and,ds_cond]
   rfl
  ·cases k<;>simp only[keyT,MapKept.IsKey] at hk
   subst hk
   rename_i n
   simp only[binN,putH,keyEq,opB,keyI,decide_true,Bool.true_and,Bool.or_false]
   rw[Bool.eq_iff_iff]
   simp only[Bool.or_eq_true,decide_eq_true_eq]
   constructor
   ·intro h;exact decide_eq_true (by omega)
   ·intro h;have h:=of_decide_eq_true h;omega
open Go Go.Ab
set_option maxHeartbeats 1000000
variable {G:IH}
theorem gcd_step {x y:Int} (hx:0≤x) (hy:0≤y):Int.gcd y (x.tmod y)=Int.gcd x y:=by
 obtain ⟨a,rfl⟩:=Int.eq_ofNat_of_zero_le hx
 obtain ⟨b,rfl⟩:=Int.eq_ofNat_of_zero_le hy
 rw[←Int.ofNat_tmod]
 simp only[Int.gcd_natCast_natCast]
 rw[Nat.gcd_comm b,←Nat.gcd_rec,Nat.gcd_comm]
theorem f138 (n:Int) (h0:-9223372036854775807≤n) (h1:n≤9223372036854775807):FnOK Tryz.prog G 138 [di n] (di (n.natAbs:Int)):=by
 refine FnOK.walk (orc:=orc) (keep:=[]) follows Tryz.func138 rfl Tryz.call138 ?_
 refine of_tr (fun _ _ _ _=>((R64 n)∧((di (if -n>n then -n else n)):DV)=(di ↑n.natAbs))) (by kernel_rfl) ?_
 refine⟨⟨h0,h1⟩,congrArg di ?_⟩
 split<;>omega
def gcdI (a b:Int) (x:Int×Int):Prop:=0≤x.1∧0≤x.2∧Int.gcd x.1 x.2=Int.gcd a b
def gcdM (x:Int×Int):Nat:=x.2.toNat
theorem tmod_bd {x y:Int} (hx:0≤x) (hy:0<y):0≤x.tmod y∧x.tmod y<y:=by
 rw[Int.tmod_eq_emod_of_nonneg hx]
 exact⟨Int.emod_nonneg _ (by omega),Int.emod_lt_of_pos _ hy⟩
def gcdS (x:Int×Int):AS:=⟨regs 12 [(0,vi x.1),(1,vi x.2)],[]⟩
theorem f137 (a b:Int) (ha:0≤a) (hb:0≤b):FnOK Tryz.prog G 137 [di a,di b] (di (Int.gcd a b)):=by
 refine FnOK.walk (orc:=orc) (keep:=[]) follows Tryz.func137 rfl Tryz.call137 ?_
 refine of_tr (fun ZT ZW ZQ _=>ZW [cd Tryz.f137 [1,0,0],(.blk 0),cd Tryz.f137 [1,1]] (stS ZT []) ZQ) (by kernel_rfl) ?_
 refine AWP.loop (c:=cAt (bodyOf Tryz.f137) [1,0,0,0]) (by kernel_rfl) gcdS (gcdI a b) gcdM (a,b) ?_ ⟨ha,hb,rfl⟩ ?_
 ·exact AS.leA (by kernel_rfl)
 ·rintro ⟨x,y⟩ ⟨hx,hy,hg⟩
  simp only at hx hy hg
  refine walk (orc:=orc) (keep:=[]) (cuts:=[]) (n:=1000) follows ?_
  refine of_rd (fun ZT ZW ZQ _ ZA _=>((((decide (y>0))=true)→((y≠0)∧(ZA (stS ZT [0]))))∧(((decide (y>0))=false)→ZW [cd Tryz.f137 [1,1]] (stS ZT [1]) ZQ))) (by kernel_rfl) ?_
  refine⟨fun h=>?_,fun h=>?_⟩
  ·have hy':0<y:=by simpa using h
   have hb:=tmod_bd hx hy'
   refine⟨by omega,Again.mk (y,x.tmod y) ?_ ⟨hy,hb.1,by rw[←hg];exact gcd_step hx hy⟩ (by simp only[gcdM];omega)⟩
   exact AS.leA (by kernel_rfl)
  ·refine walk (orc:=orc) (keep:=[]) (cuts:=[]) (n:=1000) follows ?_
   refine of_tr (fun _ _ _ _=>(((di x):DV)=(di ↑(a.gcd b)))) (by kernel_rfl) ?_
   have:y=0:=by simp at h;omega
   subst this
   rw[←hg];simp;omega
def gcdS' (x:Int×Int):AS:=⟨regs 16 [(0,vi x.1),(1,vi x.2)],[]⟩
theorem f128 (a b:Int) (h0:-9223372036854775807≤a) (h1:a≤9223372036854775807) (hb:0≤b):FnOK Tryz.prog G 128 [di a,di b] (di (Int.gcd a b)):=by
 refine FnOK.walk (orc:=orc) (keep:=[]) follows Tryz.func128 rfl Tryz.call128 ?_
 have round:∀x,gcdI a b x→AWP Tryz.prog G [.code (cAt (bodyOf Tryz.f128) [1,1,0,0,0])] (gcdS' x) (RoundQ Tryz.prog G [.blk 0,.code (cAt (bodyOf Tryz.f128) [1,1,1])] (Ret Tryz.prog Tryz.f128 (di (Int.gcd a b))) gcdS' (gcdI a b) gcdM x):=by
  rintro ⟨x,y⟩ ⟨hx,hy,hg⟩
  simp only at hx hy hg
  refine walk (orc:=orc) (keep:=[]) (cuts:=[]) (n:=1000) follows ?_
  refine of_rd (fun ZT ZW ZQ _ ZA _=>((((decide (y>0))=true)→((y≠0)∧(ZA (stS ZT [0]))))∧(((decide (y>0))=false)→ZW [cd Tryz.f128 [1,1,1]] (stS ZT [1]) ZQ))) (by kernel_rfl) ?_
  refine⟨fun h=>?_,fun h=>?_⟩
  ·have hy':0<y:=by simpa using h
   have hb:=tmod_bd hx hy'
   refine⟨by omega,Again.mk (y,x.tmod y) ?_ ⟨hy,hb.1,by rw[←hg];exact gcd_step hx hy⟩ (by simp only[gcdM];omega)⟩
   exact AS.leA (by kernel_rfl)
  ·refine walk (orc:=orc) (keep:=[]) (cuts:=[]) (n:=1000) follows ?_
   refine of_tr (fun _ _ _ _=>(((di x):DV)=(di ↑(a.gcd b)))) (by kernel_rfl) ?_
   have:y=0:=by simp at h;omega
   subst this
   rw[←hg];simp;omega
 refine of_tr (fun ZT ZW ZQ _=>((((decide (a<0))=true)→((R64 a)∧ZW [cd Tryz.f128 [1,1,0,0],(.blk 0),cd Tryz.f128 [1,1,1]] (stS ZT [0]) ZQ))∧(((decide (a<0))=false)→ZW [cd Tryz.f128 [1,1,0,0],(.blk 0),cd Tryz.f128 [1,1,1]] (stS ZT [1]) ZQ))) (by kernel_rfl) ?_
 refine⟨fun h=>⟨⟨h0,h1⟩,?_⟩,fun h=>?_⟩
 ·have ha:a<0:=by simpa using h
  refine AWP.loop (c:=cAt (bodyOf Tryz.f128) [1,1,0,0,0]) (by kernel_rfl) gcdS' (gcdI a b) gcdM (-a,b) ?_ ⟨by simp only;omega,hb,by simp⟩ round
  exact AS.leA (by kernel_rfl)
 ·have ha:¬a<0:=by simpa using h
  refine AWP.loop (c:=cAt (bodyOf Tryz.f128) [1,1,0,0,0]) (by kernel_rfl) gcdS' (gcdI a b) gcdM (a,b) ?_ ⟨by simp only;omega,hb,rfl⟩ round
  exact AS.leA (by kernel_rfl)
theorem gcd_abs (n d:Int):Int.gcd (n.natAbs:Int) d=Int.gcd n d:=by simp[Int.gcd]
theorem f129 (n d:Int):FnOK Tryz.prog G 129 [fr n d] (db (ok n d)):=by
 refine FnOK.walk (orc:=orc) (keep:=[]) follows Tryz.func129 rfl Tryz.call129 ?_
 refine of_tr (fun _ _ _ ZK=>(fun Za=>((((Za=true)→ZK 138 [(di n)] (di (↑n.natAbs)))∧((Za=true)→ZK 137 [(di (↑n.natAbs)),(di d)] (di ((↑(Int.gcd (↑(Int.natAbs n):Int) d):Int)))))∧((db (decide (d≥1)&&decide (d≤1000000)&&decide (n≥-1000000000)&&decide (n≤1000000000)&&(↑(Int.gcd (↑(Int.natAbs n):Int) d):Int)==1)):DV)=(db (ok n d)))) (decide (d≥1)&&decide (d≤1000000)&&decide (n≥-1000000000)&&decide (n≤1000000000))) (by kernel_rfl) ?_
 refine⟨⟨fun h=>?_,fun h=>?_⟩,congrArg db ?_⟩
 ·simp at h;exact f138 n (by omega) (by omega)
 ·simp at h;exact f137 _ d (by omega) (by omega)
 ·rw[gcd_abs,Bool.eq_iff_iff];simp[ok];omega
theorem f122 (n d:Int):FnOK Tryz.prog G 122 [fr n d] (db (ok n d)):=by
 refine FnOK.walk (orc:=orc) (keep:=[]) follows Tryz.func122 rfl Tryz.call122 ?_
 refine of_tr (fun _ _ _ ZK=>((((decide (d≥1)&&decide (d≤1000000)&&decide (n≥-1000000000)&&decide (n≤1000000000))=true)→ZK 128 [(di n),(di d)] (di (↑(n.gcd d))))∧((db (decide (d≥1)&&decide (d≤1000000)&&decide (n≥-1000000000)&&decide (n≤1000000000)&&(↑(n.gcd d):Int)==1)):DV)=(db (ok n d)))) (by kernel_rfl) ?_
 refine⟨fun h=>?_,congrArg db ?_⟩
 ·simp at h;exact f128 n d (by omega) (by omega) (by omega)
 ·rw[Bool.eq_iff_iff];simp[ok];omega
theorem gcd_pos {n d:Int} (hd:d≠0):Int.gcd n d≠0:=by
 intro h;rw[Int.gcd_eq_zero_iff] at h;exact hd h.2
theorem f127 (n d:Int) (hd:d≠0) (hn:R64 n) (hd':R64 d):FnOK Tryz.prog G 127 [di n,di d] (fe (red n d)):=by
 obtain ⟨n0,n1⟩:=hn
 obtain ⟨d0,d1⟩:=hd'
 refine FnOK.walk (orc:=orc) (keep:=[]) follows Tryz.func127 rfl Tryz.call127 ?_
 refine of_tr (fun _ _ _ ZK=>(fun Za Zb=>((((decide (d<0))=true)→(((R64 n)∧(R64 d))∧(ZK 138 [(di (-n))] (di (↑(-n).natAbs))∧ZK 137 [(di (↑(-n).natAbs)),(di (-d))] (di (Za)))∧((Za≠0)∧(R64 (-n))∧(Za≠0)∧(R64 (-d)))∧ZK 129 [(.agg [(di (Int.tdiv (-n) Za)),(di (Int.tdiv (-d) Za))])] (db (ok (Int.tdiv (-n) Za) (Int.tdiv (-d) Za)))∧(((!ok (Int.tdiv (-n) Za) (Int.tdiv (-d) Za))=true)→(((.tup [(.agg [(di 0),(di 0)]),(di 2)]):DV)=(fe (red n d))))∧(((!ok (Int.tdiv (-n) Za) (Int.tdiv (-d) Za))=false)→(((.tup [(.agg [(di (Int.tdiv (-n) Za)),(di (Int.tdiv (-d) Za))]),(di 0)]):DV)=(fe (red n d))))))∧(((decide (d<0))=false)→((ZK 138 [(di n)] (di (↑n.natAbs))∧ZK 137 [(di (↑n.natAbs)),(di d)] (di (Zb)))∧((Zb≠0)∧(R64 n)∧(Zb≠0)∧(R64 d))∧ZK 129 [(.agg [(di (Int.tdiv n Zb)),(di (Int.tdiv d Zb))])] (db (ok (Int.tdiv n Zb) (Int.tdiv d Zb)))∧(((!ok (Int.tdiv n Zb) (Int.tdiv d Zb))=true)→(((.tup [(.agg [(di 0),(di 0)]),(di 2)]):DV)=(fe (red n d))))∧(((!ok (Int.tdiv n Zb) (Int.tdiv d Zb))=false)→(((.tup [(.agg [(di (Int.tdiv n Zb)),(di (Int.tdiv d Zb))]),(di 0)]):DV)=(fe (red n d)))))))) (↑(Int.gcd (↑(Int.natAbs (-n)):Int) (-d)):Int) (↑(Int.gcd (↑(Int.natAbs n):Int) d):Int)) (by kernel_rfl) ?_
 try dsimp only
 have aux:∀n d:Int,0<d→R64 n→R64 d→(FnOK Tryz.prog G 138 [di n] (di (n.natAbs:Int))∧FnOK Tryz.prog G 137 [di (n.natAbs:Int),di d] (di (Int.gcd (n.natAbs:Int) d)))∧((Int.gcd (n.natAbs:Int) d:Int)≠0):=by
  intro n d hd hn hd'
  exact⟨⟨f138 n hn.1 hn.2,f137 _ d (by omega) (by omega)⟩,by have:=gcd_pos (n:=(n.natAbs:Int)) (d:=d) (by omega);omega⟩
 refine⟨fun h=>?_,fun h=>?_⟩
 ·have hneg:d<0:=by simpa using h
  obtain ⟨h1,h2⟩:=aux (-n) (-d) (by omega) ⟨by omega,by omega⟩ ⟨by omega,by omega⟩
  refine⟨⟨⟨n0,n1⟩,d0,d1⟩,h1,⟨h2,⟨by omega,by omega⟩,h2,by omega,by omega⟩,f129 _ _,fun h=>?_,fun h=>?_⟩
  ·simp only[gcd_abs] at h
   simp only[red,if_pos hneg,red1]
   rw[if_neg (by simpa using h)];rfl
  ·simp only[gcd_abs] at h⊢
   simp only[red,if_pos hneg,red1]
   rw[if_pos (by simpa using h)];rfl
 ·have hpos:¬d<0:=by simpa using h
  obtain ⟨h1,h2⟩:=aux n d (by omega) ⟨by omega,by omega⟩ ⟨by omega,by omega⟩
  refine⟨h1,⟨h2,⟨by omega,by omega⟩,h2,by omega,by omega⟩,f129 _ _,fun h=>?_,fun h=>?_⟩
  ·simp only[gcd_abs] at h
   simp only[red,if_neg hpos,red1]
   rw[if_neg (by simpa using h)];rfl
  ·simp only[gcd_abs] at h⊢
   simp only[red,if_neg hpos,red1]
   rw[if_pos (by simpa using h)];rfl
open Go Go.Ab
variable {G:IH}
theorem ok_spec {n d:Int} (h:ok n d=true):1≤d∧d≤1000000∧-1000000000≤n∧n≤1000000000∧Int.gcd n d=1:=by simpa [ok] using h
theorem ediv_I64 {a b:Int} (hb:0<b) (h:R64 a):I64 (a / b):=by
 obtain ⟨h0,h1⟩:=h
 rcases Int.lt_or_le a 0 with h|h
 ·have h2:=Int.ediv_neg_of_neg_of_pos h hb
  have h3:a≤a / b:=by
   have h4:=Int.emod_add_mul_ediv a b
   have h5:=Int.emod_nonneg a (show b≠0 by omega)
   have h6:(a / b)*b≤(a / b)*1:=Int.mul_le_mul_of_nonpos_left (by omega) (by omega)
   have:=Int.emod_lt_of_pos a hb
   rcases Int.lt_or_le (a / b) a with h7|h7
   ·have h8:b*(a / b)≤b*(a-1):=Int.mul_le_mul_of_nonneg_left (by omega) (by omega)
    have h9:b*(a-1)≤1*(a-1):=Int.mul_le_mul_of_nonpos_right (by omega) (by omega)
    have h10:b*(a-1)=b*a-b:=by rw[Int.mul_sub,Int.mul_one]
    have h11:b*a≤1*a:=Int.mul_le_mul_of_nonpos_right (by omega) (by omega)
    omega
   ·exact h7
  exact⟨by omega,by omega⟩
 ·have h2:=Int.ediv_nonneg h (Int.le_of_lt hb)
  have h3:=Int.ediv_le_self b h
  exact⟨by omega,by omega⟩
theorem f123 (n:Int) (h:R64 n):FnOK Tryz.prog G 123 [di n] (.tup [ds (str (sg n)),di (n.natAbs:Int)]):=by
 refine FnOK.walk (orc:=orc) (keep:=[]) follows Tryz.func123 rfl Tryz.call123 ?_
 refine of_tr (fun _ _ _ _=>((((decide (n<0))=true)→((R64 n)∧((.tup [(ds (ByteArray.mk #[45])),(di (-n))]):DV)=(.tup [(ds (str (sg n))),(di ↑n.natAbs)])))∧(((decide (n<0))=false)→(((.tup [(ds (ByteArray.mk #[])),(di n)]):DV)=(.tup [(ds (str (sg n))),(di ↑n.natAbs)]))))) (by kernel_rfl) ?_
 refine⟨fun hn=>⟨h,?_⟩,fun hn=>?_⟩
 ·simp at hn;simp only[sg,if_pos hn];rw[show (n.natAbs:Int) = -n by omega]
 ·simp at hn;simp only[sg,if_neg (show ¬n<0 by omega)];rw[show (n.natAbs:Int)=n by omega]
end Go.Proofs
/-
 DERIVED: THE SHELF's CONTRACTS AT THIS DUMP,IN PLAIN WORDS (tools/lay-plain.mjs out of 'TryzShelf.lean',which tools/lay-shelf.mjs wrote): THE SAME DECLARATIONS UNDER THE SAME NAMES: 'import','namespace','open','def','theorem' AND NOTHING ELSE: no command of the shelf's: FOR A HAND-IN. Each laying: the table of numbers ('.._ren') and one theorem,a field a fact of the dump's own or the kernel's comparison;each contract: ONE APPLICATION.
-/
namespace Go.Proofs
open Go.Shelf
def Tryz.laysM171_ren:Go.Shelf.Ren:=⟨fun|171=>130|243=>139|246=>144|283=>158|284=>159|285=>160|286=>161|129=>174|317=>173|318=>175|319=>176|320=>177|337=>184|338=>185|n=>n,fun|3=>3|9=>9|2=>2|4=>4|171=>162|0=>0|53=>163|37=>51|5=>5|173=>166|212=>181|51=>168|20=>20|213=>182|46=>153|232=>202|233=>203|n=>n,fun|17=>1|18=>6|19=>7|n=>n⟩
theorem Tryz.laysM171:Go.Proofs.LaysM.n171 Tryz.prog Tryz.laysM171_ren:={
 mixed:=by kernel_rfl
 f129:=Tryz.func174.trans (congrArg some (by kernel_rfl))
 f171:=Tryz.func130.trans (congrArg some (by kernel_rfl))
 f243:=Tryz.func139.trans (congrArg some (by kernel_rfl))
 f246:=Tryz.func144.trans (congrArg some (by kernel_rfl))
 f283:=Tryz.func158.trans (congrArg some (by kernel_rfl))
 f284:=Tryz.func159.trans (congrArg some (by kernel_rfl))
 f285:=Tryz.func160.trans (congrArg some (by kernel_rfl))
 f286:=Tryz.func161.trans (congrArg some (by kernel_rfl))
 f317:=Tryz.func173.trans (congrArg some (by kernel_rfl))
 f318:=Tryz.func175.trans (congrArg some (by kernel_rfl))
 f319:=Tryz.func176.trans (congrArg some (by kernel_rfl))
 f320:=Tryz.func177.trans (congrArg some (by kernel_rfl))
 f337:=Tryz.func184.trans (congrArg some (by kernel_rfl))
 f338:=Tryz.func185.trans (congrArg some (by kernel_rfl))
 t0:=Tryz.underlying0
 a0:=Tryz.isAgg0
 z0:=Tryz.sizeOf0
 v0:=Tryz.zeroValue0
 t2:=Tryz.underlying2
 a2:=Tryz.isAgg2
 z2:=Tryz.sizeOf2
 v2:=Tryz.zeroValue2
 t3:=Tryz.underlying3
 a3:=Tryz.isAgg3
 z3:=Tryz.sizeOf3
 v3:=Tryz.zeroValue3
 t4:=Tryz.underlying4
 a4:=Tryz.isAgg4
 z4:=Tryz.sizeOf4
 v4:=Tryz.zeroValue4
 t5:=Tryz.underlying5
 a5:=Tryz.isAgg5
 z5:=Tryz.sizeOf5
 v5:=Tryz.zeroValue5
 t9:=Tryz.underlying9
 a9:=Tryz.isAgg9
 z9:=Tryz.sizeOf9
 v9:=Tryz.zeroValue9
 t20:=Tryz.underlying20
 a20:=Tryz.isAgg20
 z20:=Tryz.sizeOf20
 v20:=Tryz.zeroValue20
 t37:=Tryz.underlying51
 a37:=Tryz.isAgg51
 z37:=Tryz.sizeOf51
 v37:=Tryz.zeroValue51
 t46:=Tryz.underlying153
 a46:=Tryz.isAgg153
 z46:=Tryz.sizeOf153
 v46:=Tryz.zeroValue153
 t51:=Tryz.underlying168
 a51:=Tryz.isAgg168
 z51:=Tryz.sizeOf168
 v51:=Tryz.zeroValue168
 t53:=Tryz.underlying163
 a53:=Tryz.isAgg163
 z53:=Tryz.sizeOf163
 v53:=Tryz.zeroValue163
 t171:=Tryz.underlying162
 a171:=Tryz.isAgg162
 z171:=Tryz.sizeOf162
 v171:=Tryz.zeroValue162
 t173:=Tryz.underlying166
 a173:=Tryz.isAgg166
 z173:=Tryz.sizeOf166
 v173:=Tryz.zeroValue166
 t212:=Tryz.underlying181
 a212:=Tryz.isAgg181
 z212:=Tryz.sizeOf181
 v212:=Tryz.zeroValue181
 t213:=Tryz.underlying182
 a213:=Tryz.isAgg182
 z213:=Tryz.sizeOf182
 t232:=Tryz.underlying202
 a232:=Tryz.isAgg202
 z232:=Tryz.sizeOf202
 v232:=Tryz.zeroValue202
 t233:=Tryz.underlying203
 a233:=Tryz.isAgg203
 z233:=Tryz.sizeOf203
 v233:=Tryz.zeroValue203
 g17:=by kernel_rfl
 g18:=by kernel_rfl
 g19:=by kernel_rfl
 i0:=by kernel_rfl
 i2:=by kernel_rfl
 i3:=by kernel_rfl
 i4:=by kernel_rfl
 i5:=by kernel_rfl
 i9:=by kernel_rfl
 i20:=by kernel_rfl
 i37:=by kernel_rfl
 i46:=by kernel_rfl
 i51:=by kernel_rfl
 i53:=by kernel_rfl
 i171:=by kernel_rfl
 i173:=by kernel_rfl
 i212:=by kernel_rfl
 i232:=by kernel_rfl
 i233:=by kernel_rfl
 m17:=by kernel_rfl
 m18:=by kernel_rfl
 m19:=by kernel_rfl }
open Go.RowKit Go.Sort Go.Lib in
theorem Tryz.strconv_Itoa (n : Int) (h0 : -9223372036854775808 ≤ n) (h1 : n ≤ 9223372036854775807) (w : World) (htab : Lib.TabIs Tryz.prog w "internal/strconv.uint64pow10" .u64 Lib.pow10Tab) :
  Calls Tryz.prog 130 #[.int .i64 n] w fun e w'=>e=.returned (.string ⟨(Lib.itoa n).toArray⟩)∧∃k os,w'=grow (w.drewN k) os:=Any.strconv_Itoa Tryz.laysM171 n h0 h1 w htab
def Tryz.lays219_ren:Go.Shelf.Ren:=⟨fun|219=>140|217=>145|225=>146|224=>147|267=>148|266=>162|314=>163|n=>n,fun|9=>9|3=>3|4=>4|5=>5|46=>153|146=>169|51=>168|n=>n,fun|1=>0|n=>n⟩
theorem Tryz.lays219:Go.Proofs.Lays.n219 Tryz.prog Tryz.lays219_ren:={
 mixed:=by kernel_rfl
 f217:=Tryz.func145.trans (congrArg some (by kernel_rfl))
 f219:=Tryz.func140.trans (congrArg some (by kernel_rfl))
 f224:=Tryz.func147.trans (congrArg some (by kernel_rfl))
 f225:=Tryz.func146.trans (congrArg some (by kernel_rfl))
 f266:=Tryz.func162.trans (congrArg some (by kernel_rfl))
 f267:=Tryz.func148.trans (congrArg some (by kernel_rfl))
 f314:=Tryz.func163.trans (congrArg some (by kernel_rfl))
 t3:=Tryz.underlying3
 a3:=Tryz.isAgg3
 z3:=Tryz.sizeOf3
 v3:=Tryz.zeroValue3
 t4:=Tryz.underlying4
 a4:=Tryz.isAgg4
 z4:=Tryz.sizeOf4
 v4:=Tryz.zeroValue4
 t5:=Tryz.underlying5
 a5:=Tryz.isAgg5
 z5:=Tryz.sizeOf5
 v5:=Tryz.zeroValue5
 t9:=Tryz.underlying9
 a9:=Tryz.isAgg9
 z9:=Tryz.sizeOf9
 v9:=Tryz.zeroValue9
 t46:=Tryz.underlying153
 a46:=Tryz.isAgg153
 z46:=Tryz.sizeOf153
 v46:=Tryz.zeroValue153
 t51:=Tryz.underlying168
 a51:=Tryz.isAgg168
 z51:=Tryz.sizeOf168
 v51:=Tryz.zeroValue168
 t146:=Tryz.underlying169
 a146:=Tryz.isAgg169
 z146:=Tryz.sizeOf169
 v146:=Tryz.zeroValue169
 g1:=by kernel_rfl }
open Go.RowKit Go.Lib in
theorem Tryz.stringslite_Index_one (s:ByteArray) (c:UInt8) (w:World) :
  Calls Tryz.prog 140 #[.string s,.string ⟨#[c]⟩] w fun e w'=>e=.returned (.int .i64 (Lib.indexByte s.data.toList c))∧w'=w:=Any.stringslite_Index_one Tryz.lays219 s c w
open Go Go.Ab
set_option maxHeartbeats 1000000
set_option maxRecDepth 100000
theorem str_app (a b:List UInt8):str a++str b=str (a++b):=ByteArray.ext (by rw[ByteArray.data_append];simp)
theorem str_size (a:List UInt8):ByteArray.size (str a)=a.length:=by simp[ByteArray.size]
theorem str_toList (a:List UInt8):ByteArray.toList (str a)=a:=by simp
theorem str_extract (a:List UInt8) (i j:Nat):ByteArray.extract (str a) i j=str ((a.drop i).take (j-i)):=ByteArray.ext (by rw[ByteArray.data_extract];simp)
theorem itoa_len (n:Int) (h:I64 n):(Lib.itoa n).length≤21:=Lib.itoa_length_le n h.1 h.2
theorem dec_len (n:Int) (h:n≤9223372036854775807):(Lib.decDigits n.toNat).length≤20:=by
 rw[Lib.decDigits_length];exact Lib.nDigits_le20 _ (by omega)
theorem itoa_sg (n:Int):Lib.itoa n=sg n++Lib.decDigits n.natAbs:=by
 unfold Lib.itoa sg
 split
 ·rfl
 ·rw[show n.toNat=n.natAbs by omega];rfl
theorem sg_len (n:Int):(sg n).length≤1:=by unfold sg;split<;>simp
def Tab (G : IH) : Prop := ∀ w, G.holds w → Lib.TabIs Tryz.prog w "internal/strconv.uint64pow10" .u64 Lib.pow10Tab
variable {G:IH}
theorem f130 (hT:Tab G) (n:Int) (h:I64 n):FnOK Tryz.prog G 130 [di n] (ds (str (Lib.itoa n))):=by
 refine FnOK.of_calls (args:=[.int .i64 n]) (v:=.string (str (Lib.itoa n))) Tryz.call130 fun w hw=>?_
 refine Calls.mono (Tryz.strconv_Itoa n h.1 h.2 w (hT w hw)) ?_
 rintro e w' ⟨he,k,os,rfl⟩
 exact⟨he,below_grow w k os⟩
theorem f131 (hT:Tab G) (n p:Int) (hn:R64 n) (hp:0<p) (hp':p≤1000000000):FnOK Tryz.prog G 131 [di n,di p] (ds (str (pt n p))):=by
 obtain ⟨n0,n1⟩:=hn
 have b1:=tmod_bd (x:=(n.natAbs:Int)) (y:=p) (by omega) hp
 have hm:I64 (p+Int.tmod (n.natAbs:Int) p):=⟨by omega,by omega⟩
 have hq:I64 (Int.tdiv (n.natAbs:Int) p):=by
  rw[Int.tdiv_eq_ediv_of_nonneg (by omega)]
  exact ediv_I64 hp ⟨by omega,by omega⟩
 have l1:=itoa_len _ hm
 have l2:=itoa_len _ hq
 have l3:1≤(Lib.itoa (p+Int.tmod (n.natAbs:Int) p)).length:=by
  have h1:=Lib.decDigits_length ((p+Int.tmod (n.natAbs:Int) p).natAbs)
  have h2:1≤Lib.nDigits ((p+Int.tmod (n.natAbs:Int) p).natAbs):=by unfold Lib.nDigits;split<;>omega
  rw[itoa_sg,List.length_append];omega
 have tk:∀l:List UInt8,List.take (Int.toNat (l.length:Int)-Int.toNat 1) (List.drop (Int.toNat 1) l)=l.drop 1:=by
  intro l
  rw[List.take_of_length_le (by simp)];rfl
 refine FnOK.walk (orc:=orc) (keep:=[]) follows Tryz.func131 rfl Tryz.call131 ?_
 refine of_tr (fun _ _ _ ZK=>(fun Za Zb Zc Zd Ze=>((((decide (n<0))=true)→((ZK 138 [(di n)] (di (↑n.natAbs))∧(p≠0)∧(I64 Zd)∧ZK 130 [(di Zd)] (ds (str (Lib.itoa Zd)))∧((0:Int)≤(1:Int))∧(1≤Za)∧(Za≤Za))∧(ZK 138 [(di n)] (di (↑n.natAbs))∧(p≠0)∧(R64 ↑n.natAbs)∧ZK 130 [(di (((↑n.natAbs:Int)).tdiv p))] (ds (str Zb))∧((ByteArray.mk #[45]).size+(str Zb).size≤9223372036854775807)∧((ByteArray.mk #[45]++str Zb).size+(ByteArray.mk #[46]).size≤9223372036854775807)∧(ByteArray.size ({ data:=#[45] }++str Ze ++ { data:=#[46] })+ByteArray.size (ByteArray.extract Zc (Int.toNat 1) (Int.toNat Za))≤9223372036854775807))∧((ds ({ data:=#[45] }++str Ze ++ { data:=#[46] }++ByteArray.extract Zc (Int.toNat 1) (Int.toNat Za))):DV)=(ds (str (pt n p)))))∧(((decide (n<0))=false)→((ZK 138 [(di n)] (di (↑n.natAbs))∧(p≠0)∧(I64 Zd)∧ZK 130 [(di Zd)] (ds (str (Lib.itoa Zd)))∧((0:Int)≤(1:Int))∧(1≤Za)∧(Za≤Za))∧(ZK 138 [(di n)] (di (↑n.natAbs))∧(p≠0)∧(R64 ↑n.natAbs)∧ZK 130 [(di (((↑n.natAbs:Int)).tdiv p))] (ds (str Zb))∧((ByteArray.mk #[]).size+(str Zb).size≤9223372036854775807)∧((ByteArray.mk #[]++str Zb).size+(ByteArray.mk #[46]).size≤9223372036854775807)∧(ByteArray.size ({ data:=#[] }++str Ze ++ { data:=#[46] })+ByteArray.size (ByteArray.extract Zc (Int.toNat 1) (Int.toNat Za))≤9223372036854775807))∧((ds ({ data:=#[] }++str Ze ++ { data:=#[46] }++ByteArray.extract Zc (Int.toNat 1) (Int.toNat Za))):DV)=(ds (str (pt n p))))))) (↑(ByteArray.size (str (Lib.itoa (p+Int.tmod (↑(Int.natAbs n):Int) p)))):Int) (Lib.itoa (((↑n.natAbs:Int)).tdiv p)) (str (Lib.itoa (p+Int.tmod (↑(Int.natAbs n):Int) p))) (p+((↑n.natAbs:Int)).tmod p) (Lib.itoa (Int.tdiv (↑(Int.natAbs n):Int) p))) (by kernel_rfl) ?_
 try dsimp only
 simp only[str_app,str_size,str_extract,tk,List.length_append,List.length_cons,List.length_nil,List.length_drop]
 refine⟨fun h=>?_,fun h=>?_⟩
 ·have h:n<0:=by simpa using h
  refine⟨⟨f138 n (by omega) (by omega),by omega,hm,f130 hT _ hm,by omega,by omega,by omega⟩,⟨f138 n (by omega) (by omega),by omega,⟨by omega,by omega⟩,f130 hT _ hq,by omega,by omega,by omega⟩,?_⟩
  simp[pt,sg,h]
 ·have h:¬n<0:=by simpa using h
  refine⟨⟨f138 n (by omega) (by omega),by omega,hm,f130 hT _ hm,by omega,by omega,by omega⟩,⟨f138 n (by omega) (by omega),by omega,⟨by omega,by omega⟩,f130 hT _ hq,by omega,by omega,by omega⟩,?_⟩
  simp[pt,sg,h]
open Go Go.Ab Go.RowKit
def cI (p s:ByteArray):Int:=Lib.indexByte s.data.toList (p.data.toList.headD 0)
def cD (p s:ByteArray):ByteArray:=if 0≤cI p s then s.extract 0 (cI p s).toNat else s
def cR (p s:ByteArray):ByteArray:=if 0≤cI p s then s.extract (cI p s+1).toNat s.size else { data:=#[] }
def cB (p s:ByteArray):Bool:=decide (0≤cI p s)
theorem f140 (s:ByteArray) (c:UInt8):FnOK Tryz.prog G 140 [ds s,ds ⟨#[c]⟩] (di (cI ⟨#[c]⟩ s)):=by
 refine FnOK.of_calls (args:=[.string s,.string ⟨#[c]⟩]) (v:=.int .i64 _) Tryz.call140 fun w _=>?_
 refine Calls.mono (Tryz.stringslite_Index_one s c w) ?_
 rintro e w' ⟨he,rfl⟩
 exact⟨he,Below.refl _ _⟩
theorem cI_lt (p s:ByteArray):cI p s<s.size:=by
 rcases Int.lt_or_le (cI p s) 0 with h|h
 ·omega
 ·obtain ⟨n,hn⟩:=Int.eq_ofNat_of_zero_le h
  obtain ⟨h1,_⟩:=Lib.indexByte_some hn
  have:=(List.getElem?_eq_some_iff.1 h1).1
  rw[size_list] at this
  rw[hn];omega
def orcV:Oracle:=fun f args=>match f,args with
 | 140,[.con (.string s),.con (.string p)]=>some (di (cI p s))
 | 132,[.con (.string s),.con (.string p)]=>some (.tup [ds (cD p s),ds (cR p s),db (cB p s)])
 | 114,[.con (.string s),.con (.string p)]=>some (.tup [ds (cD p s),ds (cR p s),db (cB p s)])
 | _,_=>none
theorem f132 (s:ByteArray) (c:UInt8) (hs:s.size≤1000000):FnOK Tryz.prog G 132 [ds s,ds ⟨#[c]⟩] (.tup [ds (cD ⟨#[c]⟩ s),ds (cR ⟨#[c]⟩ s),db (cB ⟨#[c]⟩ s)]):=by
 have hlt:=cI_lt ⟨#[c]⟩ s
 have h183:=f140 (G:=G) s c
 have e1:(((⟨#[c]⟩:ByteArray).size:Nat):Int)=1:=rfl
 generalize hp:(⟨#[c]⟩:ByteArray)=p at *
 refine FnOK.walk (orc:=orcV) (keep:=[]) follows Tryz.func132 rfl Tryz.call132 ?_
 refine of_tr (fun _ _ _ ZK=>(ZK 140 [(ds s),(ds p)] (di (cI p s))∧(((decide (cI p s≥0))=true)→(((((0:Int)≤(0:Int))∧(0≤cI p s)∧(cI p s≤↑s.size))∧(I64 (cI p s + ↑p.size))∧(0≤cI p s + ↑p.size)∧(cI p s + ↑p.size≤↑s.size)∧((↑s.size:Int)≤↑s.size))∧((.tup [(ds (s.extract (Int.toNat 0) (cI p s).toNat)),(ds (s.extract (cI p s + ↑p.size).toNat (↑s.size:Int).toNat)),(db true)]):DV)=(.tup [(ds (cD p s)),(ds (cR p s)),(db (cB p s))])))∧(((decide (cI p s≥0))=false)→(((.tup [(ds s),(ds (ByteArray.mk #[])),(db false)]):DV)=(.tup [(ds (cD p s)),(ds (cR p s)),(db (cB p s))]))))) (by kernel_rfl) ?_
 have e0:Int.toNat (0:Int)=0:=rfl
 rw[e1]
 refine⟨h183,fun h=>?_,fun h=>?_⟩
 ·have h:0≤cI p s:=by simpa using h
  refine⟨⟨⟨by omega,by omega,by omega⟩,⟨by omega,by omega⟩,by omega,by omega,by omega⟩,?_⟩
  unfold cD cR cB
  rw[if_pos h,if_pos h,decide_eq_true h,e0,Int.toNat_natCast]
 ·have h:¬0≤cI p s:=by simpa using h
  unfold cD cR cB
  rw[if_neg h,if_neg h,decide_eq_false h]
theorem f114 (s:ByteArray) (c:UInt8) (hs:s.size≤1000000):FnOK Tryz.prog G 114 [ds s,ds ⟨#[c]⟩] (.tup [ds (cD ⟨#[c]⟩ s),ds (cR ⟨#[c]⟩ s),db (cB ⟨#[c]⟩ s)]):=by
 have h178:=f132 (G:=G) s c hs
 generalize hp:(⟨#[c]⟩:ByteArray)=p at *
 refine FnOK.walk (orc:=orcV) (keep:=[]) follows Tryz.func114 rfl Tryz.call114 ?_
 refine of_tr (fun _ _ _ ZK=>(ZK 132 [(ds s),(ds p)] (.tup [(ds (cD p s)),(ds (cR p s)),(db (cB p s))])∧(ZS ((.tup [(ds (cD p s)),(ds (cR p s)),(db (cB p s))]):DV)))) (by kernel_rfl) ?_
 exact⟨h178,rfl⟩
open Go Go.Ab
variable {G:IH}
theorem wrap_u8 {z:Int} (h0:0≤z) (h1:z<256):IntKind.wrap .u8 z=z:=by
 simp[IntKind.wrap,IntKind.bits,IntKind.signed];omega
theorem one_byte {z:Int} (h0:0≤z) (h1:z<256):BytesAt 1 (elemF false 1 [.con (.int .u8 (IntKind.wrap .u8 z))])∧bytesOf 1 (elemF false 1 [.con (.int .u8 (IntKind.wrap .u8 z))])=[UInt8.ofNat z.toNat]:=by
 rw[wrap_u8 h0 h1]
 refine⟨fun i hi=>?_,rfl⟩
 have:i=0:=by omega
 subst this;rfl
def numS (x:List UInt8×Int):AS:=⟨regs 21 [(0,vi x.2),(3,vs (str x.1))],[]⟩
def numI (n:Int) (x:List UInt8×Int):Prop:=0≤x.2∧x.2≤n∧((x.1=[]∧x.2=n)∨(x.1≠[]∧0<x.2∧Lib.decDigits n.toNat=Lib.decDigits x.2.toNat++x.1)∨(x.1≠[]∧x.2=0∧Lib.decDigits n.toNat=x.1))
def numM (x:List UInt8×Int):Nat:=x.2.toNat+(if x.1=[] then 1 else 0)
theorem dec_small {u:Nat} (h:u<10):Lib.decDigits u=[UInt8.ofNat (48+u)]:=by rw[Lib.decDigits,dif_pos h]
theorem dec_big {u:Nat} (h:¬u<10):Lib.decDigits u=Lib.decDigits (u / 10)++[UInt8.ofNat (48+u % 10)]:=by rw[Lib.decDigits,dif_neg h]
theorem f124 (n:Int) (h0:0≤n) (hn:n≤9223372036854775807):FnOK Tryz.prog G 124 [di n] (ds (str (Lib.decDigits n.toNat))):=by
 refine FnOK.walk (orc:=orc) (keep:=[0,2,3,9]) follows Tryz.func124 rfl Tryz.call124 ?_
 refine of_tr (fun ZT ZW ZQ _=>ZW [cd Tryz.f124 [1,1,0,0],(.blk 0),cd Tryz.f124 [1,1,1]] (stS ZT []) ZQ) (by kernel_rfl) ?_
 refine AWP.loop (c:=cAt (bodyOf Tryz.f124) [1,1,0,0,0]) (by kernel_rfl) numS (numI n) numM ([],n) ?_ ⟨h0,Int.le_refl _,.inl ⟨rfl,rfl⟩⟩ ?_
 ·exact AS.leA (by kernel_rfl)
 ·rintro ⟨l,k⟩ ⟨hk,hkn,hI⟩
  simp only at hk hkn hI
  refine walk (orc:=orc) (keep:=[0,2,3,9]) (cuts:=[]) (n:=1000) follows ?_
  refine of_eqH2 ((str l).toList==(ByteArray.mk #[]).toList||decide (k>0)) (bytesOf 1 (elemF false 1 [DV.con (Value.int IntKind.u8 (IntKind.u8.wrap (48+k.tmod 10)))])) (fun Za Zb=>(((Za=true)→(((I64 (48+k.tmod 10))∧BytesAt 1 (elemF false 1 [(.con (.int .u8 (IntKind.u8.wrap (48+k.tmod 10))))])∧((ByteArray.mk Zb.toArray).size+(str l).size≤9223372036854775807))∧(R64 k)∧Again numS (numI n) numM (l,k) ⟨regs 21 [(0,(vi (k.tdiv 10))),(3,(vs (ByteArray.mk Zb.toArray++str l))),(9,(vb Za))],[]⟩))∧((Za=false)→AWP Tryz.prog G [cd Tryz.f124 [1,1,1]] ⟨regs 21 [(0,(vi k)),(3,(vs (str l))),(9,(vb Za))],[]⟩ (Ret Tryz.prog Tryz.f124 (ds (str (Lib.decDigits n.toNat))))))) (by kernel_rfl) ?_
  try dsimp only
  simp only[str_toList]
  have hlen:=dec_len n hn
  have hll:l.length≤20:=by
   rcases hI with ⟨rfl,_⟩|⟨_,_,h⟩|⟨_,_,h⟩
   ·simp
   ·rw[h,List.length_append] at hlen;omega
   ·rw[h] at hlen;exact hlen
  have hm:=tmod_bd (x:=k) (y:=10) hk (by omega)
  have hmod:k.tmod 10=k % 10:=Int.tmod_eq_emod_of_nonneg hk
  have hdiv:k.tdiv 10=k / 10:=Int.tdiv_eq_ediv_of_nonneg hk
  obtain ⟨b1,b2⟩:=one_byte (z:=48+k.tmod 10) (by omega) (by omega)
  rw[b2,hdiv]
  simp only[str_app,str_size]
  refine⟨fun h=>⟨⟨⟨by omega,by omega⟩,b1,by simp;omega⟩,⟨by omega,by omega⟩,Again.mk ([UInt8.ofNat (48+k.tmod 10).toNat]++l,k / 10) ?_ ⟨by simp only;omega,by simp only;omega,?_⟩ ?_⟩,fun h=>?_⟩
  ·exact AS.leA (by kernel_rfl)
  ·have e1:(48+k.tmod 10).toNat=48+k.toNat % 10:=by omega
   rw[e1]
   have key:Lib.decDigits n.toNat=Lib.decDigits k.toNat++l:=by
    rcases hI with ⟨rfl,rfl⟩|⟨_,_,h⟩|⟨hl,hk0,_⟩
    ·simp
    ·exact h
    ·exfalso;revert h;simp[hl,hk0]
   by_cases hk9:k.toNat<10
   ·right;right
    refine⟨by simp,by omega,?_⟩
    rw[key,dec_small hk9,Nat.mod_eq_of_lt hk9]
   ·right;left
    refine⟨by simp,by omega,?_⟩
    rw[key,dec_big hk9,show (k / 10).toNat=k.toNat / 10 by omega]
    simp
  ·simp only[numM,if_neg (show ¬([UInt8.ofNat (48+k.tmod 10).toNat]++l=[]) by simp)]
   rcases hI with ⟨rfl,_⟩|⟨hl,hk0,_⟩|⟨hl,hk0,_⟩
   ·rw[if_pos rfl];omega
   ·rw[if_neg hl];omega
   ·exfalso;revert h;simp[hl,hk0]
  ·refine walk (orc:=orc) (keep:=[]) (cuts:=[]) (n:=1000) follows ?_
   refine of_tr (fun _ _ _ _=>(((ds (str l)):DV)=(ds (str (Lib.decDigits n.toNat))))) (by kernel_rfl) ?_
   rcases hI with ⟨rfl,_⟩|⟨hl,hk0,_⟩|⟨hl,hk0,he⟩
   ·simp at h
   ·simp at h;omega
   ·rw[he]
open Go Go.Ab
def pad:Nat→Nat→List UInt8
 | 0,_=>[]
 | k+1,r=>pad k (r / 10)++[UInt8.ofNat (48+r % 10)]
theorem pad_front:∀(k r:Nat),pad (k+1) r=UInt8.ofNat (48+r / 10 ^ k % 10) :: pad k (r % 10 ^ k)
 | 0,r=>by simp[pad]
 | k+1,r=>by
  have ih:=pad_front k (r / 10)
  rw[pad,ih]
  simp only[pad,List.cons_append]
  rw[Nat.div_div_eq_div_mul,show 10*10 ^ k=10 ^ (k+1) by rw[Nat.pow_succ,Nat.mul_comm]]
  have h1:r % 10 ^ (k+1) / 10=r / 10 % 10 ^ k:=by
   rw[Nat.pow_succ,Nat.mul_comm,Nat.mod_mul_right_div_self]
  have h2:r % 10 ^ (k+1) % 10=r % 10:=Nat.mod_mod_of_dvd _ ⟨10 ^ k,by rw[Nat.pow_succ,Nat.mul_comm]⟩
  rw[h1,h2]
theorem dec_pow:∀(k r:Nat),r<10 ^ k→Lib.decDigits (10 ^ k+r)=49 :: pad k r
 | 0,r,h=>by
  have:r=0:=by simpa using h
  subst this
  rw[dec_small (by decide)];rfl
 | k+1,r,h=>by
  have hp:0<10 ^ k:=Nat.pow_pos (by omega)
  have e:10 ^ (k+1)=10*10 ^ k:=by rw[Nat.pow_succ,Nat.mul_comm]
  rw[dec_big (by omega),show (10 ^ (k+1)+r) / 10=10 ^ k+r / 10 by omega,dec_pow k (r / 10) (by omega),show (10 ^ (k+1)+r) % 10=r % 10 by omega]
  rfl
theorem tail_pad (d:Nat) (hd:0<d):∀(m fuel r:Nat),m≤fuel→r<d→d∣r*10 ^ m→(∀i,i<m→¬d∣r*10 ^ i)→tailB d fuel r=pad m (r*10 ^ m / d)
 | 0,fuel,r,_,hr,h,_=>by
  have:r=0:=Nat.eq_zero_of_dvd_of_lt (by simpa using h) hr
  subst this
  cases fuel<;>simp[tailB,pad]
 | m+1,0,r,hf,_,_,_=>by omega
 | m+1,fuel+1,r,hf,hr,h,hmin=>by
  have hr0:r≠0:=by
   rintro rfl
   exact hmin 0 (by omega) (by simp)
  have hp:0<10 ^ m:=Nat.pow_pos (by omega)
  have hq:10*r / d<10:=by rw[Nat.div_lt_iff_lt_mul hd];omega
  have hmod:10*r % d<d:=Nat.mod_lt _ hd
  have hsplit:=Nat.div_add_mod (10*r) d
  have hdv:∀i,d∣(10*r % d)*10 ^ i↔d∣r*10 ^ (i+1):=by
   intro i
   have e:r*10 ^ (i+1)=d*(10*r / d*10 ^ i)+(10*r % d)*10 ^ i:=by
    rw[←Nat.mul_assoc,←Nat.add_mul,hsplit,Nat.pow_succ,Nat.mul_comm (10 ^ i) 10,←Nat.mul_assoc,Nat.mul_comm r 10]
   rw[e]
   exact(Nat.dvd_add_right (Nat.dvd_mul_right ..)).symm
  have hdm:=(hdv m).2 h
  obtain ⟨c,hc⟩:=hdm
  have hcl:c<10 ^ m:=by
   have:d*c<d*10 ^ m:=by rw[←hc];exact Nat.mul_lt_mul_of_pos_right hmod hp
   exact Nat.lt_of_mul_lt_mul_left this
  have hx:r*10 ^ (m+1) / d=10*r / d*10 ^ m+c:=by
   have e:r*10 ^ (m+1)=d*(10*r / d*10 ^ m+c):=by
    rw[Nat.mul_add,←hc,←Nat.mul_assoc,←Nat.add_mul,hsplit,Nat.pow_succ,Nat.mul_comm (10 ^ m) 10,←Nat.mul_assoc,Nat.mul_comm r 10]
   rw[e,Nat.mul_div_cancel_left _ hd]
  have hcd:(10*r % d)*10 ^ m / d=c:=by rw[hc,Nat.mul_div_cancel_left _ hd]
  rw[tailB,if_neg hr0,tail_pad d hd m fuel _ (by omega) hmod ⟨c,hc⟩ (fun i hi=>by rw[hdv];exact hmin (i+1) (by omega)),hcd,dec_small hq,pad_front,hx]
  have e1:(10*r / d*10 ^ m+c) / 10 ^ m=10*r / d:=by
   rw[Nat.mul_comm,Nat.mul_add_div hp,Nat.div_eq_of_lt hcl,Nat.add_zero]
  have e2:(10*r / d*10 ^ m+c) % 10 ^ m=c:=by
   rw[Nat.mul_comm,Nat.mul_add_mod,Nat.mod_eq_of_lt hcl]
  rw[e1,e2,Nat.mod_eq_of_lt hq];rfl
theorem decA_hit (n:Int) (d k:Nat) (hk:d∣10 ^ k) (hmin:∀i,i<k→¬d∣10 ^ i):∀(m f i:Nat),i+m=k→m<f→
  decA n d f ((10 ^ i:Nat):Int)=if k=0 then (Lib.itoa n,true) else (pt (n*((10 ^ k / d:Nat):Int)) ((10 ^ k:Nat):Int),true)
 | _,0,_,_,h=>by omega
 | m,f+1,i,hi,hf=>by
  rw[decA]
  by_cases hm:m=0
  ·subst hm
   have:i=k:=by omega
   subst this
   rw[if_pos (by rw[←Int.ofNat_tmod,Nat.mod_eq_zero_of_dvd hk];rfl)]
   by_cases h0:i=0
   ·subst h0;simp
   ·have h1:(10:Nat) ^ i≠1:=by
     have:10 ^ 1≤10 ^ i:=Nat.pow_le_pow_right (by omega) (by omega)
     omega
    rw[if_neg (by omega),if_neg h0,←Int.ofNat_tdiv]
  ·rw[if_neg (by
    rw[←Int.ofNat_tmod]
    intro h
    exact hmin i (by omega) (Nat.dvd_of_mod_eq_zero (by omega)))]
   have:=decA_hit n d k hk hmin (m-1) f (i+1) (by omega) (by omega)
   rw[←this]
   congr 1
   rw[Nat.pow_succ];omega
theorem decA_miss (n:Int) (d:Nat):∀(f i:Nat),(∀j,j<i+f→¬d∣10 ^ j)→decA n d f ((10 ^ i:Nat):Int)=([],false)
 | 0,_,_=>rfl
 | f+1,i,h=>by
  rw[decA,if_neg (by
    rw[←Int.ofNat_tmod]
    intro h'
    exact h i (by omega) (Nat.dvd_of_mod_eq_zero (by omega)))]
  have:=decA_miss n d f (i+1) (fun j hj=>h j (by omega))
  rw[←this]
  congr 1
  rw[Nat.pow_succ];omega
theorem least {p:Nat→Prop}:∀(m:Nat),p m→∃k,k≤m∧p k∧∀i,i<k→¬p i
 | 0,h=>⟨0,by omega,h,fun i hi=>by omega⟩
 | m+1,h=>by
  classical
  by_cases h':∃i,i<m+1∧p i
  ·obtain ⟨i,hi,hp⟩:=h'
   obtain ⟨k,hk,h1,h2⟩:=least i hp
   exact⟨k,by omega,h1,h2⟩
  ·exact⟨m+1,by omega,h,fun i hi hp=>h' ⟨i,hi,hp⟩⟩
termination_by m=>m
theorem decF_eq (n d:Int):decF n d=decB n d:=by
 unfold decF decB
 cases hok:ok n d with
 | false=>simp
 | true=>
  obtain ⟨d1,d2,-,-,hg⟩:=ok_spec hok
  obtain ⟨e,rfl⟩:=Int.eq_ofNat_of_zero_le (show 0≤d by omega)
  simp only[Int.toNat_natCast]
  have he:0<e:=by omega
  have hgn:Nat.gcd n.natAbs e=1:=by simpa [Int.gcd] using hg
  have hmod:((1000000:Int).tmod e=0)↔e∣10 ^ 6:=by
   rw[show (1000000:Int)=((10 ^ 6:Nat):Int) by rfl,←Int.ofNat_tmod]
   exact⟨fun h=>Nat.dvd_of_mod_eq_zero (by omega),fun h=>by rw[Nat.mod_eq_zero_of_dvd h];rfl⟩
  by_cases hdv:e∣10 ^ 6
  ·rw[if_pos trivial,if_pos ⟨trivial,hmod.2 hdv⟩]
   obtain ⟨k,hk6,hk,hmin⟩:=least (p:=fun k=>e∣10 ^ k) 6 hdv
   have:=decA_hit n e k hk hmin k 7 0 (by omega) (by omega)
   rw[show (((10 ^ 0:Nat):Int))=1 by rfl] at this
   rw[this]
   by_cases h0:k=0
   ·subst h0
    have:e=1:=by simpa using hk
    subst this
    rw[if_pos rfl,itoa_sg,Nat.mod_one,if_pos rfl];simp
   ·rw[if_neg h0]
    obtain ⟨q,hq⟩:=hk
    have hq0:0<q:=by
     rcases Nat.eq_zero_or_pos q with rfl|h
     ·have:0<10 ^ k:=Nat.pow_pos (by omega)
      omega
     ·exact h
    have hqe:10 ^ k / e=q:=by rw[hq,Nat.mul_div_cancel_left _ he]
    have hrd:n.natAbs % e<e:=Nat.mod_lt _ he
    have hcop:Nat.gcd e (n.natAbs % e)=1:=by rw[Nat.gcd_comm,←Nat.gcd_rec,Nat.gcd_comm];exact hgn
    have hr0:n.natAbs % e≠0:=by
     intro h
     rw[h,Nat.gcd_zero_right] at hcop
     subst hcop
     exact hmin 0 (by omega) (by simp)
    rw[if_neg hr0,hqe]
    have ha:(n*(q:Int)).natAbs=n.natAbs*q:=by rw[Int.natAbs_mul];rfl
    have hs:sg (n*(q:Int))=sg n:=by
     unfold sg
     by_cases hn:n<0
     ·rw[if_pos hn,if_pos (Int.mul_neg_of_neg_of_pos hn (by omega))]
     ·rw[if_neg hn,if_neg (by have:=Int.mul_nonneg (show 0≤n by omega) (show (0:Int)≤q by omega);omega)]
    have hdiv:n.natAbs*q / 10 ^ k=n.natAbs / e:=by rw[hq,Nat.mul_div_mul_right _ _ hq0]
    have hmd:n.natAbs*q % 10 ^ k=n.natAbs % e*q:=by rw[hq,Nat.mul_mod_mul_right]
    have hlt:n.natAbs % e*q<10 ^ k:=by rw[hq];exact Nat.mul_lt_mul_of_pos_right hrd hq0
    have ht:=tail_pad e he k 7 (n.natAbs % e) (by omega) hrd (by rw[hq];exact⟨n.natAbs % e*q,by simp only[Nat.mul_left_comm]⟩) (fun i hi h=>hmin i hi (Nat.Coprime.dvd_of_dvd_mul_left hcop h))
    rw[ht]
    have hx:n.natAbs % e*10 ^ k / e=n.natAbs % e*q:=by
     rw[hq,Nat.mul_left_comm,Nat.mul_div_cancel_left _ he]
    rw[hx]
    unfold pt
    rw[hs,ha,←Int.ofNat_tdiv,←Int.ofNat_tmod,hdiv,hmd]
    rw[Lib.itoa_nonneg,show (((10 ^ k:Nat):Int)+((n.natAbs % e*q:Nat):Int))=((10 ^ k+n.natAbs % e*q:Nat):Int) by omega,Lib.itoa_nonneg,dec_pow k _ hlt]
    rfl
  ·rw[if_pos trivial,if_neg (fun h=>hdv (hmod.1 h.2))]
   have:=decA_miss n e 7 0 (fun j hj h=>hdv (Nat.dvd_trans h (Nat.pow_dvd_pow 10 (by omega))))
   exact this
open Go Go.Ab
variable {G:IH}
def decS (n d:Int) (x:Nat×Int):AS:=⟨regs 33 [(0,.d (fr n d)),(1,.box 1 0),(2,vs (str [])),(3,vb false),(4,vi x.2)],[(1,[vi n,vi d])]⟩
def decI (n d:Int) (x:Nat×Int):Prop:=1≤x.2∧x.2*10 ^ x.1=10000000∧decF n d=decA n d x.1 x.2
theorem f113 (hT:Tab G) (n d:Int):FnOK Tryz.prog G 113 [fr n d] (sb (decF n d)):=by
 refine FnOK.walk (orc:=orc) (keep:=[0,1,2,3,4,7,9,21,27]) follows Tryz.func113 rfl Tryz.call113 ?_
 refine of_tr (fun ZT ZW ZQ ZK=>(ZK 129 [(.agg [(di n),(di d)])] (db (ok n d))∧(((!ok n d)=true)→(((.tup [(ds (ByteArray.mk #[])),(db false)]):DV)=(sb (decF n d))))∧(((!ok n d)=false)→ZW [cd Tryz.f113 [1,1,0,1,0],(.blk 0),cd Tryz.f113 [1,1,1]] (stS ZT [1]) ZQ))) (by kernel_rfl) ?_
 refine⟨f129 n d,fun h=>?_,fun h=>?_⟩
 ·have h:ok n d=false:=by simpa using h
  simp[sb,decF,h]
 ·have h:ok n d=true:=by simpa using h
  have hb:=ok_spec h
  refine AWP.loop (c:=cAt (bodyOf Tryz.f113) [1,1,0,1,0,0]) (by kernel_rfl) (decS n d) (decI n d) (fun x=>x.1) (7,1) ?_ ⟨by simp,by simp,by simp[decF,h]⟩ ?_
  ·exact AS.leA (by kernel_rfl)
  ·rintro ⟨k,p⟩ ⟨hp,hpk,hI⟩
   simp only at hp hpk hI
   refine walk (orc:=orc) (keep:=[0,1,2,3,4,7,9,21,27]) (cuts:=[]) (n:=1000) follows ?_
   refine of_rd (fun ZT ZW ZQ ZK ZA _=>((((decide (p≤1000000))=true)→((d≠0)∧(((p.tmod d != 0)=true)→((I64 (p*10))∧(ZA (stS ZT [0,0]))))∧(((p.tmod d != 0)=false)→((((p==1)=true)→(ZK 130 [(di n)] (ds (str (Lib.itoa n)))∧((.tup [(ds (str (Lib.itoa n))),(db true)]):DV)=(sb (decF n d))))∧(((p==1)=false)→(((d≠0)∧(R64 p)∧(I64 (n*p.tdiv d))∧ZK 131 [(di (n*p.tdiv d)),(di p)] (ds (str (pt (n*p.tdiv d) p))))∧((.tup [(ds (str (pt (n*p.tdiv d) p))),(db true)]):DV)=(sb (decF n d))))))))∧(((decide (p≤1000000))=false)→ZW [cd Tryz.f113 [1,1,1]] (stS ZT [1]) ZQ))) (by kernel_rfl) ?_
   have hp7:p≤10000000:=by
    have h1:(1:Int)≤10 ^ k:=by have:=Nat.one_le_pow k 10 (by omega);exact_mod_cast this
    have h2:p*1≤p*10 ^ k:=Int.mul_le_mul_of_nonneg_left h1 (by omega)
    omega
   refine⟨fun h6=>?_,fun h6=>?_⟩
   ·have h6:p≤1000000:=by simpa using h6
    obtain ⟨k,rfl⟩:∃k',k=k'+1:=by
     cases k with
     | zero=>simp at hpk;omega
     | succ k=>exact⟨k,rfl⟩
    refine⟨by omega,fun hm=>⟨⟨by omega,by omega⟩,Again.mk (k,p*10) ?_ ⟨by simp only;omega,?_,?_⟩ (by simp)⟩,fun hm=>⟨fun h1=>?_,fun h1=>?_⟩⟩
    ·exact AS.leA (by kernel_rfl)
    ·simp only
     rw[←hpk,Int.pow_succ,Int.mul_comm (10 ^ k) 10,Int.mul_assoc]
    ·have hm:p.tmod d≠0:=by simpa using hm
     rw[hI,decA,if_neg hm,Int.mul_comm]
    ·have hm:p.tmod d=0:=by simpa using hm
     have h1:p=1:=by simpa using h1
     refine⟨f130 hT n ⟨by omega,by omega⟩,?_⟩
     rw[hI,decA,if_pos hm,if_pos h1];rfl
    ·have hm:p.tmod d=0:=by simpa using hm
     have h1:p≠1:=by simpa using h1
     have hq0:0≤p.tdiv d:=Int.tdiv_nonneg (by omega) (by omega)
     have hq1:p.tdiv d≤1000000:=by
      rw[Int.tdiv_eq_ediv_of_nonneg (by omega)]
      have:=Int.ediv_le_self d (show 0≤p by omega);omega
     have hx1:n*p.tdiv d≤1000000000*p.tdiv d:=Int.mul_le_mul_of_nonneg_right (by omega) hq0
     have hx2:-1000000000*p.tdiv d≤n*p.tdiv d:=Int.mul_le_mul_of_nonneg_right (by omega) hq0
     refine⟨⟨by omega,⟨by omega,by omega⟩,⟨by omega,by omega⟩,f131 hT _ _ ⟨by omega,by omega⟩ (by omega) (by omega)⟩,?_⟩
     rw[hI,decA,if_pos hm,if_neg h1];rfl
   ·have h6:¬p≤1000000:=by simpa using h6
    have hk0:k=0:=by
     cases k with
     | zero=>rfl
     | succ k=>
      exfalso
      have h1:(1:Int)≤10 ^ k:=by have:=Nat.one_le_pow k 10 (by omega);exact_mod_cast this
      have h2:(p*10)*1≤(p*10)*10 ^ k:=Int.mul_le_mul_of_nonneg_left h1 (by omega)
      rw[Int.pow_succ,Int.mul_comm (10 ^ k) 10,←Int.mul_assoc] at hpk
      omega
    subst hk0
    refine walk (orc:=orc) (keep:=[]) (cuts:=[]) (n:=1000) follows ?_
    refine of_tr (fun _ _ _ _=>(((.tup [(ds (ByteArray.mk #[])),(db false)]):DV)=(sb (decF n d)))) (by kernel_rfl) ?_
    rw[hI];rfl
def tlS (n d:Int) (x:Nat×List UInt8×Int):AS:=⟨regs 54 [(0,.d (fr n d)),(1,.box 1 0),(2,vs (str [])),(3,vb false),(6,vs (str x.2.1)),(7,vi x.2.2)],[(1,[vi n,vi d])]⟩
def tlI (d:Int) (T:List UInt8) (x:Nat×List UInt8×Int):Prop:=0≤x.2.2∧x.2.2<d∧T=x.2.1++tailB d.toNat x.1 x.2.2.toNat∧x.2.1.length+x.1≤29∧d.toNat∣x.2.2.toNat*10 ^ x.1
theorem tail_zero (d k:Nat):tailB d k 0=[]:=by cases k<;>rfl
theorem f103 (n d:Int):FnOK Tryz.prog G 103 [fr n d] (sb (decB n d)):=by
 refine FnOK.walk (orc:=orc) (keep:=[0,1,2,3,4,5,6,7,16,35,39]) follows Tryz.func103 rfl Tryz.call103 ?_
 have round:∀T,1≤d→d≤1000000→decB n d=(T,true)→∀x,tlI d T x→AWP Tryz.prog G [.code (cAt (bodyOf Tryz.f103) [1,1,1,1,1,0,0,0])] (tlS n d x) (RoundQ Tryz.prog G [(.blk 0),.code (cAt (bodyOf Tryz.f103) [1,1,1,1,1,1])] (Ret Tryz.prog Tryz.f103 (sb (decB n d))) (tlS n d) (tlI d T) (fun x=>x.1) x):=by
  rintro T d1 d2 hT ⟨f,l,r⟩ ⟨hr0,hrd,hI,hl,hdv⟩
  simp only at hr0 hrd hI hl hdv
  refine walk (orc:=orc) (keep:=[0,1,2,3,4,5,6,7,16,35,39]) (cuts:=[]) (n:=1000) follows ?_
  refine of_rd (fun ZT ZW ZQ ZK ZA _=>((((decide (r>0))=true)→((I64 (10*r))∧((d≠0)∧(R64 (10*r))∧ZK 124 [(di ((10*r).tdiv d))] (ds (str (Lib.decDigits ((10*r).tdiv d).toNat)))∧((str l).size+(str (Lib.decDigits ((10*r).tdiv d).toNat)).size≤9223372036854775807))∧(d≠0)∧(ZA (stS ZT [0]))))∧(((decide (r>0))=false)→ZW [cd Tryz.f103 [1,1,1,1,1,1]] (stS ZT [1]) ZQ))) (by kernel_rfl) ?_
  refine⟨fun h=>?_,fun h=>?_⟩
  ·have h:0<r:=by simpa using h
   obtain ⟨e,rfl⟩:=Int.eq_ofNat_of_zero_le (show 0≤d by omega)
   obtain ⟨s,rfl⟩:=Int.eq_ofNat_of_zero_le hr0
   simp only[Int.toNat_natCast] at hI hdv
   obtain ⟨f,rfl⟩:∃f',f=f'+1:=by
    cases f with
    | zero=>
     exfalso
     have:=Nat.eq_zero_of_dvd_of_lt (by simpa using hdv) (show s<e by omega)
     omega
    | succ f=>exact⟨f,rfl⟩
   have e1:((10:Int)*(s:Int)).tdiv e=((10*s / e:Nat):Int):=by
    rw[show (10:Int)*(s:Int)=((10*s:Nat):Int) by omega,←Int.ofNat_tdiv]
   have e2:((10:Int)*(s:Int)).tmod e=((10*s % e:Nat):Int):=by
    rw[show (10:Int)*(s:Int)=((10*s:Nat):Int) by omega,←Int.ofNat_tmod]
   have hq:10*s / e<10:=by rw[Nat.div_lt_iff_lt_mul (by omega)];omega
   have hml:10*s % e<e:=Nat.mod_lt _ (by omega)
   have hdl:(Lib.decDigits (10*s / e)).length=1:=by rw[dec_small hq];rfl
   simp only[e1,e2,str_app,str_size,Int.toNat_natCast,hdl]
   refine⟨⟨by omega,by omega⟩,⟨by omega,⟨by omega,by omega⟩,f124 _ (Int.natCast_nonneg _) (by omega),by omega⟩,by omega,Again.mk (f,l++Lib.decDigits (10*s / e),((10*s % e:Nat):Int)) ?_ ⟨by simp only;omega,by simp only;omega,?_,?_,?_⟩ (by simp)⟩
   ·refine AS.leZ [4,5] [] (b:=((T0∧T0∧T0∧T0∧((vs (str l++str (Lib.decDigits ((10*(↑s:Int)).tdiv ↑e).toNat))):AV)=(vs (str (l++Lib.decDigits (10*s / e))))∧((vi ((10*(↑s:Int)).tmod ↑e)):AV)=(vi (↑(10*s % e)))∧True)∧T0∧True)) (by kernel_rfl) (by kernel_rfl) ?_
    exact⟨⟨rfl,rfl,rfl,rfl,rfl,rfl,trivial⟩,rfl,trivial⟩
   ·simp only[Int.toNat_natCast]
    rw[hI,tailB,if_neg (by omega),List.append_assoc]
   ·simp only[List.length_append,hdl];omega
   ·simp only[Int.toNat_natCast]
    have hsplit:=Nat.div_add_mod (10*s) e
    have e3:s*10 ^ (f+1)=e*(10*s / e*10 ^ f)+(10*s % e)*10 ^ f:=by
     rw[←Nat.mul_assoc,←Nat.add_mul,hsplit,Nat.pow_succ,Nat.mul_comm (10 ^ f) 10,←Nat.mul_assoc,Nat.mul_comm s 10]
    rw[e3] at hdv
    exact(Nat.dvd_add_right (Nat.dvd_mul_right ..)).1 hdv
  ·have h:r=0:=by have:¬0<r:=by simpa using h
                  omega
   subst h
   refine walk (orc:=orc) (keep:=[]) (cuts:=[]) (n:=1000) follows ?_
   refine of_tr (fun _ _ _ _=>(((.tup [(ds (str l)),(db true)]):DV)=(sb (decB n d)))) (by kernel_rfl) ?_
   rw[hT,hI]
   simp[sb,tail_zero]
 refine of_tr (fun ZT ZW ZQ ZK=>(fun Za=>((ZK 122 [(.agg [(di n),(di d)])] (db (ok n d))∧(((!!ok n d)=true)→(d≠0)))∧(((!ok n d||Int.tmod 1000000 d != 0)=true)→(((.tup [(ds (ByteArray.mk #[])),(db false)]):DV)=(sb (decB n d))))∧(((!ok n d||Int.tmod 1000000 d != 0)=false)→(ZK 123 [(di n)] (.tup [(ds (str (sg n))),(di (↑n.natAbs))])∧((d≠0)∧(R64 ↑n.natAbs)∧ZK 124 [(di (((↑n.natAbs:Int)).tdiv d))] (ds (str Za))∧((str (sg n)).size+(str Za).size≤9223372036854775807)∧(d≠0))∧(((decide (((↑n.natAbs:Int)).tmod d>0))=true)→(((str (sg n)++str Za).size+(ByteArray.mk #[46]).size≤9223372036854775807)∧ZW [cd Tryz.f103 [1,1,1,1,1,0,0],(.blk 0),cd Tryz.f103 [1,1,1,1,1,1]] (stS ZT [1,0]) ZQ))∧(((decide (((↑n.natAbs:Int)).tmod d>0))=false)→ZW [cd Tryz.f103 [1,1,1,1,1,0,0],(.blk 0),cd Tryz.f103 [1,1,1,1,1,1]] (stS ZT [1,1]) ZQ))))) (Lib.decDigits (((↑n.natAbs:Int)).tdiv d).toNat)) (by kernel_rfl) ?_
 refine⟨⟨f122 n d,fun h=>?_⟩,fun h=>?_,fun h=>?_⟩
 ·have h:ok n d=true:=by simpa using h
  have:=ok_spec h
  omega
 ·have h:¬(ok n d=true∧(1000000:Int).tmod d=0):=by
   intro hh;simp[hh.1,hh.2] at h
  unfold decB
  rw[if_neg h];rfl
 ·have h:ok n d=true∧(1000000:Int).tmod d=0:=by simpa using h
  obtain ⟨d1,d2,n1,n2,-⟩:=ok_spec h.1
  obtain ⟨e,rfl⟩:=Int.eq_ofNat_of_zero_le (show 0≤d by omega)
  have e1:(n.natAbs:Int).tdiv e=((n.natAbs / e:Nat):Int):=by rw[←Int.ofNat_tdiv]
  have e2:(n.natAbs:Int).tmod e=((n.natAbs % e:Nat):Int):=by rw[←Int.ofNat_tmod]
  have hml:n.natAbs % e<e:=Nat.mod_lt _ (by omega)
  have hdv:e∣10 ^ 6:=by
   have:=h.2
   rw[show (1000000:Int)=((10 ^ 6:Nat):Int) by rfl,←Int.ofNat_tmod] at this
   exact Nat.dvd_of_mod_eq_zero (by omega)
  have hdv':e∣n.natAbs % e*10 ^ 7:=Nat.dvd_trans hdv (Nat.dvd_trans (Nat.pow_dvd_pow 10 (by omega)) (Nat.dvd_mul_left ..))
  have hB:decB n e=(sg n++(Lib.decDigits (n.natAbs / e)++(if n.natAbs % e=0 then [] else 46 :: tailB e 7 (n.natAbs % e))),true):=by
   unfold decB;rw[if_pos h];rfl
  have l0:=sg_len n
  have hqle:n.natAbs / e≤n.natAbs:=Nat.div_le_self ..
  have l1:=dec_len ((n.natAbs / e:Nat):Int) (by omega)
  simp only[Int.toNat_natCast] at l1
  simp only[e1,e2,str_app,str_size,Int.toNat_natCast,List.length_append,List.length_cons,List.length_nil]
  refine⟨f123 n ⟨by omega,by omega⟩,⟨by omega,⟨by omega,by omega⟩,f124 _ (Int.natCast_nonneg _) (by omega),by omega,by omega⟩,fun hr=>⟨by omega,?_⟩,fun hr=>?_⟩
  ·have hr:n.natAbs % e≠0:=by have:0<((n.natAbs % e:Nat):Int):=by simpa using hr
                              omega
   refine AWP.loop (c:=cAt (bodyOf Tryz.f103) [1,1,1,1,1,0,0,0]) (by kernel_rfl) (tlS n e) (tlI e _) (fun x=>x.1) (7,sg n++Lib.decDigits (n.natAbs / e)++[46],((n.natAbs % e:Nat):Int)) ?_ ⟨by simp only;omega,by simp only;omega,?_,?_,?_⟩ (round _ d1 d2 hB)
   ·refine AS.leZ [4,5] [] (b:=((T0∧T0∧T0∧T0∧((vs (str (sg n)++str (Lib.decDigits (((↑n.natAbs:Int)).tdiv ↑e).toNat)++ByteArray.mk #[46])):AV)=(vs (str (sg n++Lib.decDigits (n.natAbs / e)++[46])))∧((vi (((↑n.natAbs:Int)).tmod ↑e)):AV)=(vi (↑(n.natAbs % e)))∧True)∧T0∧True)) (by kernel_rfl) (by kernel_rfl) ?_
    exact⟨⟨rfl,rfl,rfl,rfl,rfl,rfl,trivial⟩,rfl,trivial⟩
   ·simp only[Int.toNat_natCast,if_neg hr];simp
   ·simp only[List.length_append,List.length_cons,List.length_nil];omega
   ·simp only[Int.toNat_natCast];exact hdv'
  ·have hr:n.natAbs % e=0:=by have:¬0<((n.natAbs % e:Nat):Int):=by simpa using hr
                              omega
   refine AWP.loop (c:=cAt (bodyOf Tryz.f103) [1,1,1,1,1,0,0,0]) (by kernel_rfl) (tlS n e) (tlI e _) (fun x=>x.1) (7,sg n++Lib.decDigits (n.natAbs / e),((n.natAbs % e:Nat):Int)) ?_ ⟨by simp only;omega,by simp only;omega,?_,?_,?_⟩ (round _ d1 d2 hB)
   ·refine AS.leZ [4,5] [] (b:=((T0∧T0∧T0∧T0∧((vs (str (sg n)++str (Lib.decDigits (((↑n.natAbs:Int)).tdiv ↑e).toNat))):AV)=(vs (str (sg n++Lib.decDigits (n.natAbs / e))))∧((vi (((↑n.natAbs:Int)).tmod ↑e)):AV)=(vi (↑(n.natAbs % e)))∧True)∧T0∧True)) (by kernel_rfl) (by kernel_rfl) ?_
    exact⟨⟨rfl,rfl,rfl,rfl,rfl,rfl,trivial⟩,rfl,trivial⟩
   ·simp only[Int.toNat_natCast,hr,tail_zero];simp
   ·simp only[List.length_append];omega
   ·simp only[Int.toNat_natCast];exact hdv'
end Go.Proofs
