import Derived.Test.YteigabjdeaoaiaaGreatDoorProg
import Derived.Test.YteigabjdeaoaiaaGreatDoorAcC
import Derived.Test.YteigabjdeaoaiaaGreatDoorRows
import Derived.Lib.LaidTab
import Derived.ProofKit
import Derived.LaidMore
import Derived.OpenShut
import Derived.Stop.Joined
import Derived.Test.YteigabjdeaoaiaaGreatDoorAcD
import Derived.Lib.AtoiTie
import Derived.Lib.AtoiAllCases
import Derived.Lib.ItoaNum
import Derived.Lib.IndexLaws
import Derived.Lib.Bytealg
set_option autoImplicit false
namespace Go.Proofs
open Go Go.Ab
set_option maxHeartbeats 1000000
set_option maxRecDepth 100000
theorem follows:Tryz.prog.follows .mixedOrders=true:=by kernel_rfl
end Go.Proofs
namespace Go.Proofs.YteigabjdeaoaiaaGreatDoor
open Go Go.Ab Go.ChangeShapes Go.WideShapes Go.ChangeAt Go.RowKit
set_option maxRecDepth 100000
theorem own:ownKnob Tryz.prog.godebug=none:=by kernel_rfl
theorem laidOut:laidOutB Tryz.prog=true:=by kernel_rfl
end Go.Proofs.YteigabjdeaoaiaaGreatDoor
/- Names,plain. -/
namespace Go.Proofs
open Go Go.Ab
def letB (c:Int):Bool:=decide (97≤c)&&decide (c≤122)
def digB (c:Int):Bool:=decide (48≤c)&&decide (c≤57)
def insB (c:Int):Bool:=letB c||digB c||c==95
def insU (c:UInt8):Bool:=insB (c.toNat:Int)
def runN (s:ByteArray):Nat:=(s.data.toList.takeWhile insU).length
theorem takeWhile_unique {p:UInt8→Bool}:∀{l:List UInt8} {k:Nat},k≤l.length→(∀i (h:i<l.length),i<k→p l[i]=true)→(∀h:k<l.length,p l[k]=false)→(l.takeWhile p).length=k
 | [],k,h,_,_=>by simp at h;subst h;rfl
 | c :: l,0,_,_,h3=>by
  have:=h3 (by simp)
  simp only[List.getElem_cons_zero] at this
  rw[List.takeWhile_cons,this];rfl
 | c :: l,k+1,h1,h2,h3=>by
  have hc:=h2 0 (by simp) (by omega)
  simp only[List.getElem_cons_zero] at hc
  rw[List.takeWhile_cons,hc]
  simp only[if_true,List.length_cons]
  rw[takeWhile_unique (l:=l) (k:=k) (by simpa using h1) (fun i h hi=>by
   have:=h2 (i+1) (by simpa using h) (by omega)
   simpa using this) (fun h=>by
   have:=h3 (by simpa using h)
   simpa using this)]
theorem byteAt_list {s:ByteArray} {k:Nat} (h:k<s.size):byteAt s k=((s.data.toList[k]'(by rw[Array.length_toList];exact h)).toNat:Int):=by
 unfold byteAt
 have h':k<s.data.size:=h
 rw[Array.getElem?_eq_getElem h',Option.getD_some,Array.getElem_toList]
theorem runN_unique {s:ByteArray} {k:Nat} (h1:k≤s.size) (h2:∀i,i<k→insB (byteAt s i)=true) (h3:k<s.size→insB (byteAt s k)=false):runN s=k:=by
 have hl:s.data.toList.length=s.size:=Array.length_toList
 refine takeWhile_unique (by omega) (fun i h hi=>?_) (fun h=>?_)
 ·have:=h2 i hi
  rw[byteAt_list (by omega)] at this;exact this
 ·have:=h3 (by omega)
  rw[byteAt_list (by omega)] at this;exact this
def kwL:List ByteArray:=[⟨#[112,111,105,110,116,115]⟩,⟨#[112,101,110,97,108,116,121]⟩,⟨#[99,97,112]⟩,⟨#[102,108,111,111,114]⟩,⟨#[105,110]⟩,⟨#[105,102]⟩,⟨#[97,110,100]⟩,⟨#[111,114]⟩,⟨#[110,111,116]⟩,⟨#[116,114,117,101]⟩,⟨#[102,97,108,115,101]⟩,⟨#[109,105,110]⟩,⟨#[109,97,120]⟩]
def kwB (s:ByteArray):Bool:=kwL.any fun x=>decide (x=s)
def nameB (s:ByteArray):Bool:=decide (1≤s.size)&&(decide (s.size≤16)&&(letB (byteAt s 0)&&(decide (runN s=s.size)&&!kwB s)))
def stF (l:List ByteArray) (i:Nat):DV:=ds (l.getD i .empty)
def indN (l:List ByteArray) (s:ByteArray):Int:=if l.any (fun x=>decide (x=s)) then ((l.takeWhile fun x=>!decide (x=s)).length:Nat) else -1
end Go.Proofs
/- Bytes,strings and decimal digits,plain;of no program. -/
namespace Go.Proofs
open Go Go.Ab
def bs (l:List UInt8):ByteArray:=⟨l.toArray⟩
theorem toList_inj {a b:ByteArray}:a.toList=b.toList↔a=b:=by
 rw[ByteArray.toList_eq,ByteArray.toList_eq]
 constructor
 ·intro h;apply ByteArray.ext;exact Array.toList_inj.1 h
 ·rintro rfl;rfl
theorem toList_beq (a b:ByteArray):(ByteArray.toList a==ByteArray.toList b)=decide (a=b):=by
 rw[Bool.eq_iff_iff,beq_iff_eq,toList_inj,decide_eq_true_iff]
/-! Decimal digits. -/
set_option maxHeartbeats 1000000
set_option maxRecDepth 100000
open Go Go.Ab Go.RowKit
variable {G:IH}
@[match_pattern] abbrev b8 (c:Int):DV:=.con (.int .u8 c)
def kwF:Nat→DV:=elemF false 1 (kwL.map fun s=>ds s)
def kwD:DV:=.slc 1 13 kwF
def anyB (l:List ByteArray) (s:ByteArray):Bool:=l.any fun x=>decide (x=s)
def orcN:Oracle:=fun f a=>match f,a with
 | 86,[b8 c]=>some (db (letB c))
 | 104,[b8 c]=>some (db (digB c))
 | 88,[b8 c]=>some (db (insB c))
 | 87,[.con (.string s),_]=>some (di (runN s))
 | 77,[.con (.string s)]=>some (db (nameB s))
 | 90,[]=>some kwD
 | 89,[_,.con (.string s)]=>some (db (kwB s))
 | _,_=>none
theorem f86 (c:Int):FnOK Tryz.prog G 86 [b8 c] (db (letB c)):=by
 refine FnOK.walk (orc:=orcN) (keep:=[]) follows Tryz.func86 rfl Tryz.call86 ?_
 refine of_tr (fun _ _ _ _=>(((db (decide (c≥97)&&decide (c≤122))):DV)=(db (letB c)))) (by kernel_rfl) ?_
 rfl
theorem f104 (c:Int):FnOK Tryz.prog G 104 [b8 c] (db (digB c)):=by
 refine FnOK.walk (orc:=orcN) (keep:=[]) follows Tryz.func104 rfl Tryz.call104 ?_
 refine of_tr (fun _ _ _ _=>(((db (decide (c≥48)&&decide (c≤57))):DV)=(db (digB c)))) (by kernel_rfl) ?_
 rfl
theorem f88 (c:Int):FnOK Tryz.prog G 88 [b8 c] (db (insB c)):=by
 refine FnOK.walk (orc:=orcN) (keep:=[]) follows Tryz.func88 rfl Tryz.call88 ?_
 refine of_tr (fun _ _ _ ZK=>((ZK 86 [(.con (.int .u8 c))] (db (letB c))∧(((!letB c)=true)→ZK 104 [(.con (.int .u8 c))] (db (digB c))))∧((db (letB c||digB c||c==95)):DV)=(db (insB c)))) (by kernel_rfl) ?_
 exact⟨⟨f86 c,fun _=>f104 c⟩,rfl⟩
noncomputable def S121 (s:ByteArray) (k:Nat):AS:=⟨regs Tryz.f87.ntmps [(0,vs s),(1,.d (.con (.func (.func 88) #[] #[]))),(5,vi k)],[]⟩
theorem f87 (s:ByteArray) (hs:s.size≤1000000):FnOK Tryz.prog G 87 [ds s,.con (.func (.func 88) #[] #[])] (di (runN s)):=by
 refine FnOK.walk (orc:=orcN) (keep:=[]) follows Tryz.func87 rfl Tryz.call87 ?_
 refine of_tr (fun ZT ZW ZQ _=>ZW [cd Tryz.f87 [1,1,0,0],(.blk 0),cd Tryz.f87 [1,1,1]] (stS ZT []) ZQ) (by kernel_rfl) ?_
 refine AWP.loop (c:=cAt (bodyOf Tryz.f87) [1,1,0,0,0]) (by kernel_rfl) (S121 s) (fun k=>k≤s.size∧∀i,i<k→insB (byteAt s i)=true) (fun k=>s.size-k) 0 ?_ ⟨Nat.zero_le _,fun i hi=>by omega⟩ ?_
 ·exact AS.leA (by kernel_rfl)
 ·rintro k ⟨hk,hkd⟩
  refine walk (orc:=orcN) (keep:=[]) (cuts:=[]) (n:=1000) follows ?_
  refine of_rd (fun ZT ZW ZQ ZK ZA _=>(((((decide ((↑k:Int)<↑s.size))=true)→((0≤(↑k:Int))∧((↑k:Int)<↑s.size)))∧(((decide ((↑k:Int)<↑s.size))=true)→ZK 88 [(.con (.int .u8 (byteAt s (↑k:Int).toNat)))] (db (insB (byteAt s (↑k:Int).toNat)))))∧(((decide ((↑k:Int)<↑s.size)&&insB (byteAt s (↑k:Int).toNat))=true)→((I64 (↑k+1))∧(ZA (stS ZT [0]))))∧(((decide ((↑k:Int)<↑s.size)&&insB (byteAt s (↑k:Int).toNat))=false)→ZW [cd Tryz.f87 [1,1,1]] (stS ZT [1]) ZQ))) (by kernel_rfl) ?_
  simp only[Int.toNat_natCast]
  refine⟨⟨fun h=>?_,fun _=>f88 _⟩,fun h=>?_,fun h=>?_⟩
  ·simp only[decide_eq_true_eq] at h
   exact⟨by omega,by omega⟩
  ·simp only[bAt,decide_eq_true_eq] at h
   refine⟨⟨by omega,by omega⟩,Again.mk (k+1) ?_ ⟨by omega,fun i hi=>?_⟩ (by omega)⟩
   ·exact AS.leA (by kernel_rfl)
   ·rcases Nat.lt_or_ge i k with h1|h1
    ·exact hkd i h1
    ·obtain rfl:i=k:=by omega
     exact h.2
  ·have hst:runN s=k:=runN_unique hk hkd fun h1=>by
    simp only[Bool.and_eq_false_imp,decide_eq_true_eq] at h
    exact h (by omega)
   refine walk (orc:=orcN) (keep:=[]) (cuts:=[]) (n:=1000) follows ?_
   refine of_tr (fun _ _ _ _=>(((di (↑k)):DV)=(di ↑(runN s)))) (by kernel_rfl) ?_
   rw[hst]
theorem f90:FnOK Tryz.prog G 90 [] kwD:=by
 refine FnOK.walk (orc:=orcN) (keep:=[]) follows Tryz.func90 rfl Tryz.call90 ?_
 refine of_tr (fun _ _ _ _=>(((.slc 1 13 (elemF false 1 [(ds (ByteArray.mk #[112,111,105,110,116,115])),(ds (ByteArray.mk #[112,101,110,97,108,116,121])),(ds (ByteArray.mk #[99,97,112])),(ds (ByteArray.mk #[102,108,111,111,114])),(ds (ByteArray.mk #[105,110])),(ds (ByteArray.mk #[105,102])),(ds (ByteArray.mk #[97,110,100])),(ds (ByteArray.mk #[111,114])),(ds (ByteArray.mk #[110,111,116])),(ds (ByteArray.mk #[116,114,117,101])),(ds (ByteArray.mk #[102,97,108,115,101])),(ds (ByteArray.mk #[109,105,110])),(ds (ByteArray.mk #[109,97,120]))])):DV)=kwD)) (by kernel_rfl) ?_
 rfl
theorem any_step {l:List ByteArray} {s:ByteArray} {k:Nat} (hk:k<l.length) (hno:∀i,i<k→l.getD i .empty≠s) (h:l.getD k .empty=s):anyB l s=true∧indN l s=k:=by
 have hk2:l[k]=s:=by rw[←h,List.getD,gEe hk];rfl
 have h1:anyB l s=true:=by
  unfold anyB
  rw[List.any_eq_true]
  exact⟨l[k],List.getElem_mem hk,by rw[decide_eq_true_eq];exact hk2⟩
 refine⟨h1,?_⟩
 unfold indN
 unfold anyB at h1
 rw[if_pos h1]
 have:∀(l:List ByteArray) (k:Nat) (hk:k<l.length),(∀i (h:i<l.length),i<k→l[i]≠s)→l[k]=s→(l.takeWhile fun x=>!decide (x=s)).length=k:=by
  intro l
  induction l with
  | nil=>intro k hk;simp at hk
  | cons x l ih=>
   intro k hk h2 h3
   cases k with
   | zero=>
    simp only[List.getElem_cons_zero] at h3
    rw[List.takeWhile_cons,h3];simp
   | succ k=>
    have h4:=h2 0 (by simp) (by omega)
    simp only[List.getElem_cons_zero] at h4
    rw[List.takeWhile_cons]
    simp only[h4,decide_false,Bool.not_false,if_true,List.length_cons]
    rw[ih k (by simpa using hk) (fun i h5 h6=>by
     have:=h2 (i+1) (by simpa using h5) (by omega)
     simpa using this) (by simpa using h3)]
 rw[this l k hk (fun i h5 h6=>by
  have:=hno i h6
  rw[List.getD,gEe h5] at this
  exact this) hk2]
theorem any_none {l:List ByteArray} {s:ByteArray} (hno:∀i,i<l.length→l.getD i .empty≠s):anyB l s=false∧indN l s = -1:=by
 have h1:anyB l s=false:=by
  rw[Bool.eq_false_iff]
  unfold anyB
  intro h
  obtain ⟨x,hx,hd⟩:=List.any_eq_true.1 h
  obtain ⟨i,hi,rfl⟩:=List.getElem_of_mem hx
  rw[decide_eq_true_eq] at hd
  refine hno i hi ?_
  rw[List.getD,gEe hi];exact hd
 refine⟨h1,?_⟩
 unfold indN
 unfold anyB at h1
 rw[if_neg (by rw[h1];simp)]
noncomputable def S143 (l:List ByteArray) (s:ByteArray) (k:Nat):AS:=⟨regs Tryz.f105.ntmps [(0,.d (.slc 1 l.length (stF l))),(1,vs s),(7,vi l.length),(8,vi k)],[]⟩
theorem f105 (l:List ByteArray) (s:ByteArray) (hl:l.length≤1000000):FnOK Tryz.prog G 105 [.slc 1 l.length (stF l),ds s] (di (indN l s)):=by
 refine FnOK.walk (orc:=orcN) (keep:=[]) follows Tryz.func105 rfl Tryz.call105 ?_
 refine of_tr (fun ZT ZW ZQ _=>ZW [cd Tryz.f105 [1,0,1,0],(.blk 0),cd Tryz.f105 [1,1]] (stS ZT []) ZQ) (by kernel_rfl) ?_
 refine AWP.loop (c:=cAt (bodyOf Tryz.f105) [1,0,1,0,0]) (by kernel_rfl) (S143 l s) (fun k=>k≤l.length∧∀i,i<k→l.getD i .empty≠s) (fun k=>l.length-k) 0 ?_ ⟨Nat.zero_le _,fun i hi=>by omega⟩ ?_
 ·exact AS.leA (by kernel_rfl)
 ·rintro k ⟨hk,hkd⟩
  refine walk (orc:=orcN) (keep:=[]) (cuts:=[]) (n:=1000) follows ?_
  refine of_rd (fun ZT ZW ZQ _ ZA _=>((((decide ((↑k:Int)<↑l.length))=true)→(((0≤(↑k:Int))∧((↑k:Int)<↑l.length))∧(((s.toList==(l.getD (↑k:Int).toNat ByteArray.empty).toList)=true)→(((di (↑k)):DV)=(di (indN l s))))∧(((s.toList==(l.getD (↑k:Int).toNat ByteArray.empty).toList)=false)→((I64 (↑k+1))∧(ZA (stS ZT [0,1]))))))∧(((decide ((↑k:Int)<↑l.length))=false)→ZW [cd Tryz.f105 [1,1]] (stS ZT [1]) ZQ))) (by kernel_rfl) ?_
  simp only[Int.toNat_natCast,toList_beq]
  refine⟨fun h=>?_,fun h=>?_⟩
  ·simp only[decide_eq_true_eq] at h
   refine⟨⟨by omega,by omega⟩,fun h2=>?_,fun h2=>?_⟩
   ·simp only[decide_eq_true_eq] at h2
    rw[(any_step (by omega) hkd h2.symm).2]
   ·simp only[decide_eq_false_iff_not] at h2
    refine⟨⟨by omega,by omega⟩,Again.mk (k+1) ?_ ⟨by omega,fun i hi=>?_⟩ (by omega)⟩
    ·exact AS.leA (by kernel_rfl)
    ·rcases Nat.lt_or_ge i k with h1|h1
     ·exact hkd i h1
     ·obtain rfl:i=k:=by omega
      exact fun h3=>h2 h3.symm
  ·simp only[decide_eq_false_iff_not] at h
   have hst:=any_none (l:=l) (s:=s) fun i hi=>hkd i (by omega)
   refine walk (orc:=orcN) (keep:=[]) (cuts:=[]) (n:=1000) follows ?_
   refine of_tr (fun _ _ _ _=>(((di (-1)):DV)=(di (indN l s)))) (by kernel_rfl) ?_
   rw[hst.2]
def orcI (l:List ByteArray):Oracle:=fun f a=>match f,a with
 | 105,[_,.con (.string s)]=>some (di (indN l s))
 | _,_=>none
theorem emp_beq (s:ByteArray):(ByteArray.toList s==ByteArray.toList { data:=#[] })=decide (s.size=0):=by
 rw[toList_beq,decide_eq_decide]
 constructor
 ·rintro rfl;rfl
 ·intro h
  apply ByteArray.ext
  exact Array.eq_empty_of_size_eq_zero h
theorem f89 (l:List ByteArray) (s:ByteArray) (hl:l.length≤1000000):FnOK Tryz.prog G 89 [.slc 1 l.length (stF l),ds s] (db (anyB l s)):=by
 refine FnOK.walk (orc:=orcI l) (keep:=[]) follows Tryz.func89 rfl Tryz.call89 ?_
 refine of_tr (fun _ _ _ ZK=>(ZK 105 [(.slc 1 l.length (stF l)),(ds s)] (di (indN l s))∧((db (decide (indN l s≥0))):DV)=(db (anyB l s)))) (by kernel_rfl) ?_
 refine⟨f105 l s hl,?_⟩
 unfold indN anyB
 cases h:l.any (fun x=>decide (x=s)) with
 | true=>
  rw[if_pos rfl]
  have:decide ((((l.takeWhile fun x=>!decide (x=s)).length:Nat):Int)≥0)=true:=by rw[decide_eq_true_eq];omega
  rw[this]
 | false=>rfl
theorem kw_congr:∀i,i<13→kwF i=stF kwL i:=by
 intro i hi
 unfold kwF
 match i,hi with
 | 0,_=>rfl
 | 1,_=>rfl
 | 2,_=>rfl
 | 3,_=>rfl
 | 4,_=>rfl
 | 5,_=>rfl
 | 6,_=>rfl
 | 7,_=>rfl
 | 8,_=>rfl
 | 9,_=>rfl
 | 10,_=>rfl
 | 11,_=>rfl
 | 12,_=>rfl
theorem f89kw (s:ByteArray):FnOK Tryz.prog G 89 [kwD,ds s] (db (kwB s)):=
 (f89 kwL s (by decide)).args fun _=>DV.rels_cons (fun _ h=>DV.rel_slc_congr kw_congr h) (DV.rels_cons (fun _ h=>h) (fun _ h=>h))
theorem name_eq (s:ByteArray):nameB s=(!decide (s.size=0)&&decide ((s.size:Int)≤16)&&letB (byteAt s (Int.toNat 0))&&(runN s:Int)==(s.size:Int)&&!kwB s):=by
 unfold nameB
 have e1:decide (1≤s.size) = !decide (s.size=0):=by
  by_cases h:s.size=0
  ·simp[h]
  ·simp[h];omega
 have e2:decide (s.size≤16)=decide ((s.size:Int)≤16):=by rw[decide_eq_decide];omega
 have e3:decide (runN s=s.size)=((runN s:Int)==(s.size:Int)):=by
  by_cases h:runN s=s.size
  ·rw[h];simp
  ·rw[decide_eq_false h]
   symm
   rw[beq_eq_false_iff_ne]
   omega
 rw[e1,e2,e3]
 simp only[Bool.and_assoc];rfl
theorem f77 (s:ByteArray) (hs:s.size≤1000000):FnOK Tryz.prog G 77 [ds s] (db (nameB s)):=by
 refine FnOK.walk (orc:=orcN) (keep:=[]) follows Tryz.func77 rfl Tryz.call77 ?_
 refine of_tr (fun _ _ _ ZK=>(fun Za Zb=>((((Zb=true)→(((0:Int)≤(0:Int))∧(0<(↑s.size:Int))))∧((Zb=true)→ZK 86 [(.con (.int .u8 (byteAt s (Int.toNat 0))))] (db (letB (byteAt s (Int.toNat 0)))))∧(((!s.toList==(ByteArray.mk #[]).toList&&decide ((↑s.size:Int)≤16)&&letB (byteAt s (Int.toNat 0)))=true)→ZK 87 [(ds s),(.con (.func (.func 88) ⟨[]⟩ ⟨[]⟩))] (di (↑(runN s))))∧((Za=true)→ZK 90 [] (.slc 1 13 kwF))∧((Za=true)→ZK 89 [(.slc 1 13 kwF),(ds s)] (db (kwB s))))∧((db (!s.toList==(ByteArray.mk #[]).toList&&decide ((↑s.size:Int)≤16)&&letB (byteAt s (Int.toNat 0))&&(↑(runN s):Int)==↑s.size&&!kwB s)):DV)=(db (nameB s)))) (!s.toList==(ByteArray.mk #[]).toList&&decide ((↑s.size:Int)≤16)&&letB (byteAt s (Int.toNat 0))&&(↑(runN s):Int)==↑s.size) (!s.toList==(ByteArray.mk #[]).toList&&decide ((↑s.size:Int)≤16))) (by kernel_rfl) ?_
 dsimp only
 simp only[emp_beq]
 refine⟨⟨fun h=>?_,fun _=>f86 _,fun _=>f87 s hs,fun _=>f90,fun _=>f89kw s⟩,?_⟩
 ·simp only[bAt,Bool.not_eq_true',decide_eq_false_iff_not] at h
  exact⟨by omega,by omega⟩
 ·rw[name_eq]
set_option maxHeartbeats 4000000
/-! Names,as expressions. -/
@[match_pattern] abbrev eN (s:ByteArray):DV:=.agg [di 2,ds s,di 0,di 0,di 0,.con (.slice none 0 0)]
noncomputable def orcE:Oracle:=fun f a=>match f,a with
 | 70,[_]=>some (di 1)
 | 71,[.agg [_,.con (.string s),_,_,_,_]]=>some (db (nameB s))
 | 72,[.agg [_,.con (.string s),_,_,_,_]]=>some (ds s)
 | 77,[.con (.string s)]=>some (db (nameB s))
 | 55,[.agg [_,.con (.string s),_,_,_,_]]=>some (ds (if nameB s then s else .empty))
 | 39,[.con (.string s)]=>some (db (nameB s))
 | _,_=>none
noncomputable def S70 (s:ByteArray):AS:=⟨regs Tryz.f70.ntmps [(3,vi 0),(8,vi 0),(9,vi 0)],[]⟩
theorem f70 (s:ByteArray):FnOK Tryz.prog G 70 [eN s] (di 1):=by
 refine FnOK.walkK (orc:=orcE) (keep:=[]) follows Tryz.func70 rfl Tryz.call70 ?_
 refine of_tr (fun ZT ZW ZQ _=>ZW [cd Tryz.f70 [1,1,0,1,0],(.blk 0),cd Tryz.f70 [1,1,1]] (stS ZT []) ZQ) (by kernel_rfl) ?_
 refine AWP.loop (c:=cAt (bodyOf Tryz.f70) [1,1,0,1,0,0]) (by kernel_rfl) (fun _:Nat=>S70 s) (fun _=>True) (fun k=>k) 0 ?_ trivial ?_
 ·exact AS.leA (by kernel_rfl)
 ·intro k _
  refine walkK (orc:=orcE) (keep:=[]) (cuts:=[4]) (n:=1000) follows ?_
  refine of_rd (fun ZT ZW ZQ _ _ ZR=>(((false=true)→ZW [cd Tryz.f70 [1,1,0,1,0,0,1,1,0,0],(.blk 1),cd Tryz.f70 [1,1,0,1,0,0,1,1,1]] (stS ZT [0]) ZR)∧((false=false)→ZW [cd Tryz.f70 [1,1,1]] (stS ZT [1]) ZQ))) (by kernel_rfl) ?_
  refine⟨fun h=>Bool.noConfusion h,fun _=>?_⟩
  refine walkK (orc:=orcE) (keep:=[]) (cuts:=[]) (n:=1000) follows ?_
  refine of_tr (fun _ _ _ _=>((I64 (0+1))∧(ZS ((di 1):DV)))) (by kernel_rfl) ?_
  exact⟨⟨by decide,by decide⟩,rfl⟩
theorem name_size {s:ByteArray} (h:nameB s=true):1≤s.size∧s.size≤16:=by
 unfold nameB at h
 simp only[bAt,decide_eq_true_eq] at h
 exact⟨h.1,h.2.1⟩
theorem f71 (s:ByteArray) (hs:s.size≤1000000):FnOK Tryz.prog G 71 [eN s] (db (nameB s)):=by
 refine FnOK.of_body Tryz.func71 rfl Tryz.call71 ?_
 refine walkK (orc:=orcE) (keep:=[]) (cuts:=[3,7]) (n:=1000) follows ?_
 refine of_tr (fun ZT ZW ZQ ZK=>(((false=true)→ZW [cd Tryz.f71 [1,0,1,0,1,0],(.blk 0),cd Tryz.f71 [1,1]] (stS ZT [0]) ZQ)∧((false=false)→(((true=true)→(ZK 77 [(ds s)] (db (nameB s))∧((db (nameB s&&true&&(↑0:Int)==0)):DV)=(db (nameB s))))∧((true=false)→ZW [cd Tryz.f71 [1,0,1,0,1,1,1,1,0],cd Tryz.f71 [1,0,1,0,1,1,1,1,1],(.blk 0),cd Tryz.f71 [1,1]] (stS ZT [1,1]) ZQ))))) (by kernel_rfl) ?_
 refine⟨fun h=>Bool.noConfusion h,fun _=>⟨fun _=>⟨f77 s hs,?_⟩,fun h=>Bool.noConfusion h⟩⟩
 cases nameB s<;>rfl
theorem f72 (s:ByteArray):FnOK Tryz.prog G 72 [eN s] (ds s):=by
 refine FnOK.of_body Tryz.func72 rfl Tryz.call72 ?_
 refine walkK (orc:=orcE) (keep:=[]) (cuts:=[3,7]) (n:=1000) follows ?_
 refine of_tr (fun ZT ZW ZQ _=>(((false=true)→ZW [cd Tryz.f72 [1,0,1,0,1,0],(.blk 0),cd Tryz.f72 [1,1]] (stS ZT [0]) ZQ)∧((false=false)→(((true=true)→(ZS ((ds s):DV)))∧((true=false)→ZW [cd Tryz.f72 [1,0,1,0,1,1,1,1],(.blk 0),cd Tryz.f72 [1,1]] (stS ZT [1,1]) ZQ))))) (by kernel_rfl) ?_
 exact⟨fun h=>Bool.noConfusion h,fun _=>⟨fun _=>rfl,fun h=>Bool.noConfusion h⟩⟩
theorem f55 (s:ByteArray) (hs:s.size≤1000000):FnOK Tryz.prog G 55 [eN s] (ds (if nameB s then s else .empty)):=by
 refine FnOK.walkK (orc:=orcE) (keep:=[]) follows Tryz.func55 rfl Tryz.call55 ?_
 refine of_tr (fun _ _ _ ZK=>(fun Za=>((ZK 70 [Za] (di 1)∧((true=true)→ZK 71 [Za] (db (nameB s))))∧(((decide ((1:Int)>(32:Int))||!nameB s)=true)→(((ds (ByteArray.mk #[])):DV)=(ds (if nameB s=true then s else ByteArray.empty))))∧(((decide ((1:Int)>(32:Int))||!nameB s)=false)→(ZK 72 [Za] (ds s)∧(((decide ((↑s.size:Int)>16384))=true)→(((ds (ByteArray.mk #[])):DV)=(ds (if nameB s=true then s else ByteArray.empty))))∧(((decide ((↑s.size:Int)>16384))=false)→(((ds s):DV)=(ds (if nameB s=true then s else ByteArray.empty)))))))) ((.agg [(di 2),(ds s),(di 0),(di 0),(di 0),(.con (.slice none 0 0))]):DV)) (by kernel_rfl) ?_
 refine⟨⟨f70 s,fun _=>f71 s hs⟩,fun h=>?_,fun h=>⟨f72 s,fun h2=>?_,fun h2=>?_⟩⟩
 ·cases hn:nameB s with
  | false=>rfl
  | true=>rw[hn] at h;exact absurd h (by decide)
 ·cases hn:nameB s with
  | false=>rw[hn] at h;exact absurd h (by decide)
  | true=>
   have:=name_size hn
   have:=of_decide_eq_true h2
   omega
 ·cases hn:nameB s with
  | false=>rw[hn] at h;exact absurd h (by decide)
  | true=>rfl
theorem f39 (s:ByteArray) (hs:s.size≤1000000):FnOK Tryz.prog G 39 [ds s] (db (nameB s)):=by
 refine FnOK.walkK (orc:=orcE) (keep:=[]) follows Tryz.func39 rfl Tryz.call39 ?_
 refine of_tr (fun _ _ _ ZK=>(ZK 55 [(.agg [(di 2),(ds s),(di 0),(di 0),(di 0),(.con (.slice none 0 0))])] (ds (if nameB s=true then s else ByteArray.empty))∧((db (!(if nameB s=true then s else ByteArray.empty).toList==(ByteArray.mk #[]).toList)):DV)=(db (nameB s)))) (by kernel_rfl) ?_
 refine⟨f55 s hs,congrArg db ?_⟩
 rw[emp_beq]
 cases h:nameB s with
 | false=>rfl
 | true=>
  have:=name_size h
  show (!decide (s.size=0))=true
  rw[decide_eq_false (by omega)];rfl
end Go.Proofs
/- The queue as a value,plain. -/
namespace Go.Proofs
open Go Go.Ab
structure Jb where
 st:ByteArray
 ex:ByteArray
 no:Int
 ve:Int
 pr:Int
 deriving DecidableEq
structure Wt where
 j:Jb
 tr:Int
 ar:Int
 fr:Int
 deriving DecidableEq
structure Ls where
 no:Int
 un:Int
 wk:ByteArray
 w:Wt
 deriving DecidableEq
abbrev jb0:Jb:=⟨.empty,.empty,0,0,0⟩
abbrev wt0:Wt:=⟨jb0,0,0,0⟩
abbrev ls0:Ls:=⟨0,0,.empty,wt0⟩
abbrev jbL (j:Jb):List DV:=[ds j.st,ds j.ex,di j.no,di j.ve,di j.pr]
abbrev wtL (w:Wt):List DV:=[ds w.j.st,ds w.j.ex,di w.j.no,di w.j.ve,di w.j.pr,di w.tr,di w.ar,di w.fr]
abbrev lsL (l:Ls):List DV:=[di l.no,di l.un,ds l.wk,ds l.w.j.st,ds l.w.j.ex,di l.w.j.no,di l.w.j.ve,di l.w.j.pr,di l.w.tr,di l.w.ar,di l.w.fr]
abbrev jbD (j:Jb):DV:=.agg (jbL j)
abbrev wtD (w:Wt):DV:=.agg (wtL w)
abbrev lsD (l:Ls):DV:=.agg (lsL l)
def jbF (l:List Jb) (i:Nat):DV:=jbD (l.getD i jb0)
def wtF (l:List Wt) (i:Nat):DV:=wtD (l.getD i wt0)
def lsF (l:List Ls) (i:Nat):DV:=lsD (l.getD i ls0)
abbrev jbsD (l:List Jb):DV:=.slc 5 l.length (jbF l)
abbrev wtsD (l:List Wt):DV:=.slc 8 l.length (wtF l)
abbrev lssD (l:List Ls):DV:=.slc 11 l.length (lsF l)
def idxI {α:Type} (p:α→Bool) (l:List α):Int:=match l.findIdx? p with|some i=>i|none=>-1
theorem idxI_hit {α:Type} {p:α→Bool} {l:List α} {x0:α} {k:Nat} (hk:k<l.length) (h0:∀i,i<k→p (l.getD i x0)=false) (h1:p (l.getD k x0)=true):idxI p l=k:=by
 unfold idxI
 have:l.findIdx? p=some k:=by
  rw[List.findIdx?_eq_some_iff_getElem]
  refine⟨hk,?_,fun j hj=>?_⟩
  ·rw[List.getD,gEe hk] at h1;exact h1
  ·have:=h0 j hj
   rw[List.getD,gEe (by omega)] at this
   simpa using this
 rw[this]
theorem idxI_none {α:Type} {p:α→Bool} {l:List α} {x0:α} (h0:∀i,i<l.length→p (l.getD i x0)=false):idxI p l = -1:=by
 unfold idxI
 have:l.findIdx? p=none:=by
  rw[List.findIdx?_eq_none_iff]
  intro x hx
  obtain ⟨i,hi,rfl⟩:=List.getElem_of_mem hx
  have:=h0 i hi
  rwa [List.getD,gEe hi] at this
 rw[this]
theorem idxI_ge {α:Type} {p:α→Bool} {l:List α}:decide (idxI p l≥0)=l.any p:=by
 unfold idxI
 cases h:l.findIdx? p with
 | none=>
  rw[List.findIdx?_eq_none_iff] at h
  have:l.any p=false:=by
   rw[List.any_eq_false];intro x hx;rw[h x hx];decide
  rw[this];rfl
 | some i=>
  obtain ⟨hi,h1,_⟩:=List.findIdx?_eq_some_iff_getElem.1 h
  have:l.any p=true:=List.any_eq_true.2 ⟨l[i],List.getElem_mem hi,h1⟩
  rw[this]
  exact decide_eq_true (by show ((i:Int))≥0;omega)
theorem idxI_lt {α:Type} {p:α→Bool} {l:List α}:-1≤idxI p l∧idxI p l<l.length:=by
 unfold idxI
 cases h:l.findIdx? p with
 | none=>exact⟨Int.le_refl _,by show (-1:Int)<_;omega⟩
 | some i=>
  obtain ⟨hi,_⟩:=List.findIdx?_eq_some_iff_getElem.1 h
  exact⟨by show (-1:Int)≤(i:Int);omega,by show (i:Int)<_;omega⟩
set_option maxHeartbeats 4000000
set_option maxRecDepth 100000
open Go Go.Ab Go.RowKit
variable {G:IH}
/-! Looking for jobs. -/
def noO:Oracle:=fun _ _=>none
abbrev wK:RK:=⟨true,39,false,none⟩
abbrev lK:RK:=⟨true,41,false,none⟩
abbrev jK:RK:=⟨true,35,false,none⟩
theorem brec (c x:Bool):(Bool.rec false x c:Bool)=(c&&x):=by cases c<;>rfl
abbrev keyL (j:Jb):List DV:=[ds j.st,ds j.ex,di j.no]
def sameB (k:Jb) (v:Int) (j:Jb):Bool:=decide (j.st=k.st)&&(decide (j.ex=k.ex)&&j.no==k.no)&&j.ve==v
abbrev sameC (k:Jb) (v:Int):DV:=.clo (.func 65) [] [.ptr (keyL k),.ptr [di v]]
theorem f65 (j k:Jb) (v:Int):FnOK Tryz.prog G 65 [jbD j,.ptr (keyL k),.ptr [di v]] (db (sameB k v j)):=by
 refine FnOK.walkK (orc:=noO) (keep:=[]) follows Tryz.func65 rfl Tryz.call65 ?_
 refine of_tr (fun _ _ _ _=>(((db (Bool.rec false (j.ex.toList==k.ex.toList&&j.no==k.no) (j.st.toList==k.st.toList)&&j.ve==v)):DV)=(db (sameB k v j)))) (by kernel_rfl) ?_
 rw[brec,toList_beq,toList_beq];rfl
theorem f50 (k:Jb) (v:Int):FnOK Tryz.prog G 50 [.agg (keyL k),di v] (sameC k v):=by
 refine FnOK.walkK (orc:=noO) (keep:=[]) follows Tryz.func50 rfl Tryz.call50 ?_
 refine of_tr (fun _ _ _ _=>(ZS ((sameC k v):DV))) (by kernel_rfl) ?_
 rfl
def orcB (b:Bool):Oracle:=fun _ _=>some (db b)
def orcV (i:Int):Oracle:=fun _ _=>some (di i)
theorem f61 (b:Bool) (c1 c2:DV) (w:Wt) (h:FnOK Tryz.prog G 65 [jbD w.j,c1,c2] (db b)):FnOK Tryz.prog G 61 [wtD w,.ptr [.clo (.func 65) [] [c1,c2]]] (db b):=by
 refine FnOK.walkK (orc:=orcB b) (keep:=[]) follows Tryz.func61 rfl Tryz.call61 ?_
 refine of_tr (fun _ _ _ ZK=>(ZK 65 [(.agg [(ds w.j.st),(ds w.j.ex),(di w.j.no),(di w.j.ve),(di w.j.pr)]),c1,c2] (db b)∧(ZS ((db b):DV)))) (by kernel_rfl) ?_
 exact⟨h,rfl⟩
theorem f63 (b:Bool) (c1 c2:DV) (l:Ls) (h:FnOK Tryz.prog G 65 [jbD l.w.j,c1,c2] (db b)):FnOK Tryz.prog G 63 [lsD l,.ptr [.clo (.func 65) [] [c1,c2]]] (db b):=by
 refine FnOK.walkK (orc:=orcB b) (keep:=[]) follows Tryz.func63 rfl Tryz.call63 ?_
 refine of_tr (fun _ _ _ ZK=>(ZK 65 [(.agg [(ds l.w.j.st),(ds l.w.j.ex),(di l.w.j.no),(di l.w.j.ve),(di l.w.j.pr)]),c1,c2] (db b)∧(ZS ((db b):DV)))) (by kernel_rfl) ?_
 exact⟨h,rfl⟩
theorem f53 (b:Bool) (c1 c2:DV) (w:Wt) (h:FnOK Tryz.prog G 65 [jbD w.j,c1,c2] (db b)):FnOK Tryz.prog G 53 [wtD w,.ptr [.clo (.func 65) [] [c1,c2]]] (db b):=by
 refine FnOK.walkK (orc:=orcB b) (keep:=[]) follows Tryz.func53 rfl Tryz.call53 ?_
 refine of_tr (fun _ _ _ ZK=>(ZK 65 [(.agg [(ds w.j.st),(ds w.j.ex),(di w.j.no),(di w.j.ve),(di w.j.pr)]),c1,c2] (db b)∧(ZS ((db b):DV)))) (by kernel_rfl) ?_
 exact⟨h,rfl⟩
theorem f54 (b:Bool) (c1 c2:DV) (l:Ls) (h:FnOK Tryz.prog G 65 [jbD l.w.j,c1,c2] (db b)):FnOK Tryz.prog G 54 [lsD l,.ptr [.clo (.func 65) [] [c1,c2]]] (db b):=by
 refine FnOK.walkK (orc:=orcB b) (keep:=[]) follows Tryz.func54 rfl Tryz.call54 ?_
 refine of_tr (fun _ _ _ ZK=>(ZK 65 [(.agg [(ds l.w.j.st),(ds l.w.j.ex),(di l.w.j.no),(di l.w.j.ve),(di l.w.j.pr)]),c1,c2] (db b)∧(ZS ((db b):DV)))) (by kernel_rfl) ?_
 exact⟨h,rfl⟩
theorem f58 (n:Int) (l:Ls):FnOK Tryz.prog G 58 [lsD l,.ptr [di n]] (db (l.no==n)):=by
 refine FnOK.walkK (orc:=noO) (keep:=[]) follows Tryz.func58 rfl Tryz.call58 ?_
 refine of_tr (fun _ _ _ _=>(ZS ((db (l.no==n)):DV))) (by kernel_rfl) ?_
 rfl
noncomputable def S69 (g:FuncId) (c:DV) (l:List Wt) (k:Nat):AS:=⟨regs Tryz.f69.ntmps [(0,.d (wtsD l)),(1,.d (.clo (.func g) [] [c])),(7,vi l.length),(8,vi k)],[]⟩
theorem f69 (g:FuncId) (c:DV) (p:Wt→Bool) (l:List Wt) (hl:l.length≤1000000) (h:∀i,i<l.length→FnOK Tryz.prog G g [wtF l i,c] (db (p (l.getD i wt0)))):FnOK Tryz.prog G 69 [wtsD l,.clo (.func g) [] [c]] (di (idxI p l)):=by
 refine FnOK.walkK (orc:=noO) (keep:=[]) follows Tryz.func69 rfl Tryz.call69 ?_
 refine of_tr (fun ZT ZW ZQ _=>ZW [cd Tryz.f69 [1,0,1,0],(.blk 0),cd Tryz.f69 [1,1]] (stS ZT []) ZQ) (by kernel_rfl) ?_
 refine AWP.loop (c:=cAt (bodyOf Tryz.f69) [1,0,1,0,0]) (by kernel_rfl) (S69 g c l) (fun k=>k≤l.length∧∀i,i<k→p (l.getD i wt0)=false) (fun k=>l.length-k) 0 ?_ ⟨Nat.zero_le _,fun i hi=>absurd hi (Nat.not_lt_zero _)⟩ ?_
 ·exact AS.leA (by kernel_rfl)
 ·rintro k ⟨hk,hkd⟩
  by_cases hk2:k<l.length
  ·refine walkK (orc:=orcB (p (l.getD k wt0))) (keep:=[]) (cuts:=[7]) (n:=1000) follows ?_
   refine of_rd (fun ZT ZW ZQ ZK ZA _=>((((decide ((↑k:Int)<↑l.length))=true)→((((0≤(↑k:Int))∧((↑k:Int)<↑l.length))∧ZK g [(.agg [(ds (l.getD (↑k:Int).toNat wt0).j.st),(ds (l.getD (↑k:Int).toNat wt0).j.ex),(di (l.getD (↑k:Int).toNat wt0).j.no),(di (l.getD (↑k:Int).toNat wt0).j.ve),(di (l.getD (↑k:Int).toNat wt0).j.pr),(di (l.getD (↑k:Int).toNat wt0).tr),(di (l.getD (↑k:Int).toNat wt0).ar),(di (l.getD (↑k:Int).toNat wt0).fr)]),c] (db (p (l.getD k wt0))))∧(((p (l.getD k wt0))=true)→(((di (↑k)):DV)=(di (idxI p l))))∧(((p (l.getD k wt0))=false)→((I64 (↑k+1))∧(ZA (stS ZT [0,1]))))))∧(((decide ((↑k:Int)<↑l.length))=false)→ZW [cd Tryz.f69 [1,1]] (stS ZT [1]) ZQ))) (by kernel_rfl) ?_
   simp only[Int.toNat_natCast]
   refine⟨fun _=>⟨⟨⟨by omega,by omega⟩,h k hk2⟩,fun h2=>by rw[idxI_hit hk2 hkd h2],fun h2=>⟨⟨by omega,by omega⟩,Again.mk (k+1) ?_ ⟨hk2,fun i hi=>?_⟩ (by omega)⟩⟩,fun h=>absurd (of_decide_eq_false h) (by omega)⟩
   ·exact AS.leA (by kernel_rfl)
   ·rcases Nat.lt_or_ge i k with h1|h1
    ·exact hkd i h1
    ·obtain rfl:i=k:=by omega
     exact h2
  ·obtain rfl:k=l.length:=by omega
   refine walkK (orc:=noO) (keep:=[]) (cuts:=[3]) (n:=1000) follows ?_
   refine of_rd (fun ZT ZW ZQ _ _ ZR=>((((decide ((↑l.length:Int)<↑l.length))=true)→ZW [cd Tryz.f69 [1,0,1,0,0,1,1,0,0],(.blk 1),cd Tryz.f69 [1,0,1,0,0,1,1,1]] (stS ZT [0]) ZR)∧(((decide ((↑l.length:Int)<↑l.length))=false)→ZW [cd Tryz.f69 [1,1]] (stS ZT [1]) ZQ))) (by kernel_rfl) ?_
   refine⟨fun h=>absurd (of_decide_eq_true h) (by omega),fun _=>?_⟩
   refine walkK (orc:=noO) (keep:=[]) (cuts:=[]) (n:=1000) follows ?_
   refine of_tr (fun _ _ _ _=>(((di (-1)):DV)=(di (idxI p l)))) (by kernel_rfl) ?_
   rw[idxI_none hkd]
noncomputable def S46 (g:FuncId) (c:DV) (l:List Ls) (k:Nat):AS:=⟨regs Tryz.f46.ntmps [(0,.d (lssD l)),(1,.d (.clo (.func g) [] [c])),(7,vi l.length),(8,vi k)],[]⟩
theorem f46 (g:FuncId) (c:DV) (p:Ls→Bool) (l:List Ls) (hl:l.length≤1000000) (h:∀i,i<l.length→FnOK Tryz.prog G g [lsF l i,c] (db (p (l.getD i ls0)))):FnOK Tryz.prog G 46 [lssD l,.clo (.func g) [] [c]] (di (idxI p l)):=by
 refine FnOK.walkK (orc:=noO) (keep:=[]) follows Tryz.func46 rfl Tryz.call46 ?_
 refine of_tr (fun ZT ZW ZQ _=>ZW [cd Tryz.f46 [1,0,1,0],(.blk 0),cd Tryz.f46 [1,1]] (stS ZT []) ZQ) (by kernel_rfl) ?_
 refine AWP.loop (c:=cAt (bodyOf Tryz.f46) [1,0,1,0,0]) (by kernel_rfl) (S46 g c l) (fun k=>k≤l.length∧∀i,i<k→p (l.getD i ls0)=false) (fun k=>l.length-k) 0 ?_ ⟨Nat.zero_le _,fun i hi=>absurd hi (Nat.not_lt_zero _)⟩ ?_
 ·exact AS.leA (by kernel_rfl)
 ·rintro k ⟨hk,hkd⟩
  by_cases hk2:k<l.length
  ·refine walkK (orc:=orcB (p (l.getD k ls0))) (keep:=[]) (cuts:=[7]) (n:=1000) follows ?_
   refine of_rd (fun ZT ZW ZQ ZK ZA _=>((((decide ((↑k:Int)<↑l.length))=true)→((((0≤(↑k:Int))∧((↑k:Int)<↑l.length))∧ZK g [(.agg [(di (l.getD (↑k:Int).toNat ls0).no),(di (l.getD (↑k:Int).toNat ls0).un),(ds (l.getD (↑k:Int).toNat ls0).wk),(ds (l.getD (↑k:Int).toNat ls0).w.j.st),(ds (l.getD (↑k:Int).toNat ls0).w.j.ex),(di (l.getD (↑k:Int).toNat ls0).w.j.no),(di (l.getD (↑k:Int).toNat ls0).w.j.ve),(di (l.getD (↑k:Int).toNat ls0).w.j.pr),(di (l.getD (↑k:Int).toNat ls0).w.tr),(di (l.getD (↑k:Int).toNat ls0).w.ar),(di (l.getD (↑k:Int).toNat ls0).w.fr)]),c] (db (p (l.getD k ls0))))∧(((p (l.getD k ls0))=true)→(((di (↑k)):DV)=(di (idxI p l))))∧(((p (l.getD k ls0))=false)→((I64 (↑k+1))∧(ZA (stS ZT [0,1]))))))∧(((decide ((↑k:Int)<↑l.length))=false)→ZW [cd Tryz.f46 [1,1]] (stS ZT [1]) ZQ))) (by kernel_rfl) ?_
   simp only[Int.toNat_natCast]
   refine⟨fun _=>⟨⟨⟨by omega,by omega⟩,h k hk2⟩,fun h2=>by rw[idxI_hit hk2 hkd h2],fun h2=>⟨⟨by omega,by omega⟩,Again.mk (k+1) ?_ ⟨hk2,fun i hi=>?_⟩ (by omega)⟩⟩,fun h=>absurd (of_decide_eq_false h) (by omega)⟩
   ·exact AS.leA (by kernel_rfl)
   ·rcases Nat.lt_or_ge i k with h1|h1
    ·exact hkd i h1
    ·obtain rfl:i=k:=by omega
     exact h2
  ·obtain rfl:k=l.length:=by omega
   refine walkK (orc:=noO) (keep:=[]) (cuts:=[3]) (n:=1000) follows ?_
   refine of_rd (fun ZT ZW ZQ _ _ ZR=>((((decide ((↑l.length:Int)<↑l.length))=true)→ZW [cd Tryz.f46 [1,0,1,0,0,1,1,0,0],(.blk 1),cd Tryz.f46 [1,0,1,0,0,1,1,1]] (stS ZT [0]) ZR)∧(((decide ((↑l.length:Int)<↑l.length))=false)→ZW [cd Tryz.f46 [1,1]] (stS ZT [1]) ZQ))) (by kernel_rfl) ?_
   refine⟨fun h=>absurd (of_decide_eq_true h) (by omega),fun _=>?_⟩
   refine walkK (orc:=noO) (keep:=[]) (cuts:=[]) (n:=1000) follows ?_
   refine of_tr (fun _ _ _ _=>(((di (-1)):DV)=(di (idxI p l)))) (by kernel_rfl) ?_
   rw[idxI_none hkd]
noncomputable def S37 (g:FuncId) (c:DV) (l:List Jb) (k:Nat):AS:=⟨regs Tryz.f37.ntmps [(0,.d (jbsD l)),(1,.d (.clo (.func g) [] [c])),(7,vi l.length),(8,vi k)],[]⟩
theorem f37 (g:FuncId) (c:DV) (p:Jb→Bool) (l:List Jb) (hl:l.length≤1000000) (h:∀i,i<l.length→FnOK Tryz.prog G g [jbF l i,c] (db (p (l.getD i jb0)))):FnOK Tryz.prog G 37 [jbsD l,.clo (.func g) [] [c]] (di (idxI p l)):=by
 refine FnOK.walkK (orc:=noO) (keep:=[]) follows Tryz.func37 rfl Tryz.call37 ?_
 refine of_tr (fun ZT ZW ZQ _=>ZW [cd Tryz.f37 [1,0,1,0],(.blk 0),cd Tryz.f37 [1,1]] (stS ZT []) ZQ) (by kernel_rfl) ?_
 refine AWP.loop (c:=cAt (bodyOf Tryz.f37) [1,0,1,0,0]) (by kernel_rfl) (S37 g c l) (fun k=>k≤l.length∧∀i,i<k→p (l.getD i jb0)=false) (fun k=>l.length-k) 0 ?_ ⟨Nat.zero_le _,fun i hi=>absurd hi (Nat.not_lt_zero _)⟩ ?_
 ·exact AS.leA (by kernel_rfl)
 ·rintro k ⟨hk,hkd⟩
  by_cases hk2:k<l.length
  ·refine walkK (orc:=orcB (p (l.getD k jb0))) (keep:=[]) (cuts:=[7]) (n:=1000) follows ?_
   refine of_rd (fun ZT ZW ZQ ZK ZA _=>((((decide ((↑k:Int)<↑l.length))=true)→((((0≤(↑k:Int))∧((↑k:Int)<↑l.length))∧ZK g [(.agg [(ds (l.getD (↑k:Int).toNat jb0).st),(ds (l.getD (↑k:Int).toNat jb0).ex),(di (l.getD (↑k:Int).toNat jb0).no),(di (l.getD (↑k:Int).toNat jb0).ve),(di (l.getD (↑k:Int).toNat jb0).pr)]),c] (db (p (l.getD k jb0))))∧(((p (l.getD k jb0))=true)→(((di (↑k)):DV)=(di (idxI p l))))∧(((p (l.getD k jb0))=false)→((I64 (↑k+1))∧(ZA (stS ZT [0,1]))))))∧(((decide ((↑k:Int)<↑l.length))=false)→ZW [cd Tryz.f37 [1,1]] (stS ZT [1]) ZQ))) (by kernel_rfl) ?_
   simp only[Int.toNat_natCast]
   refine⟨fun _=>⟨⟨⟨by omega,by omega⟩,h k hk2⟩,fun h2=>by rw[idxI_hit hk2 hkd h2],fun h2=>⟨⟨by omega,by omega⟩,Again.mk (k+1) ?_ ⟨hk2,fun i hi=>?_⟩ (by omega)⟩⟩,fun h=>absurd (of_decide_eq_false h) (by omega)⟩
   ·exact AS.leA (by kernel_rfl)
   ·rcases Nat.lt_or_ge i k with h1|h1
    ·exact hkd i h1
    ·obtain rfl:i=k:=by omega
     exact h2
  ·obtain rfl:k=l.length:=by omega
   refine walkK (orc:=noO) (keep:=[]) (cuts:=[3]) (n:=1000) follows ?_
   refine of_rd (fun ZT ZW ZQ _ _ ZR=>((((decide ((↑l.length:Int)<↑l.length))=true)→ZW [cd Tryz.f37 [1,0,1,0,0,1,1,0,0],(.blk 1),cd Tryz.f37 [1,0,1,0,0,1,1,1]] (stS ZT [0]) ZR)∧(((decide ((↑l.length:Int)<↑l.length))=false)→ZW [cd Tryz.f37 [1,1]] (stS ZT [1]) ZQ))) (by kernel_rfl) ?_
   refine⟨fun h=>absurd (of_decide_eq_true h) (by omega),fun _=>?_⟩
   refine walkK (orc:=noO) (keep:=[]) (cuts:=[]) (n:=1000) follows ?_
   refine of_tr (fun _ _ _ _=>(((di (-1)):DV)=(di (idxI p l)))) (by kernel_rfl) ?_
   rw[idxI_none hkd]
noncomputable def S37b (g:FuncId) (c d:DV) (l:List Jb) (k:Nat):AS:=⟨regs Tryz.f37.ntmps [(0,.d (jbsD l)),(1,.d (.clo (.func g) [] [c,d])),(7,vi l.length),(8,vi k)],[]⟩
theorem f37b (g:FuncId) (c d:DV) (p:Jb→Bool) (l:List Jb) (hl:l.length≤1000000) (h:∀i,i<l.length→FnOK Tryz.prog G g [jbF l i,c,d] (db (p (l.getD i jb0)))):FnOK Tryz.prog G 37 [jbsD l,.clo (.func g) [] [c,d]] (di (idxI p l)):=by
 refine FnOK.walkK (orc:=noO) (keep:=[]) follows Tryz.func37 rfl Tryz.call37 ?_
 refine of_tr (fun ZT ZW ZQ _=>ZW [cd Tryz.f37 [1,0,1,0],(.blk 0),cd Tryz.f37 [1,1]] (stS ZT []) ZQ) (by kernel_rfl) ?_
 refine AWP.loop (c:=cAt (bodyOf Tryz.f37) [1,0,1,0,0]) (by kernel_rfl) (S37b g c d l) (fun k=>k≤l.length∧∀i,i<k→p (l.getD i jb0)=false) (fun k=>l.length-k) 0 ?_ ⟨Nat.zero_le _,fun i hi=>absurd hi (Nat.not_lt_zero _)⟩ ?_
 ·exact AS.leA (by kernel_rfl)
 ·rintro k ⟨hk,hkd⟩
  by_cases hk2:k<l.length
  ·refine walkK (orc:=orcB (p (l.getD k jb0))) (keep:=[]) (cuts:=[7]) (n:=1000) follows ?_
   refine of_rd (fun ZT ZW ZQ ZK ZA _=>((((decide ((↑k:Int)<↑l.length))=true)→((((0≤(↑k:Int))∧((↑k:Int)<↑l.length))∧ZK g [(.agg [(ds (l.getD (↑k:Int).toNat jb0).st),(ds (l.getD (↑k:Int).toNat jb0).ex),(di (l.getD (↑k:Int).toNat jb0).no),(di (l.getD (↑k:Int).toNat jb0).ve),(di (l.getD (↑k:Int).toNat jb0).pr)]),c,d] (db (p (l.getD k jb0))))∧(((p (l.getD k jb0))=true)→(((di (↑k)):DV)=(di (idxI p l))))∧(((p (l.getD k jb0))=false)→((I64 (↑k+1))∧(ZA (stS ZT [0,1]))))))∧(((decide ((↑k:Int)<↑l.length))=false)→ZW [cd Tryz.f37 [1,1]] (stS ZT [1]) ZQ))) (by kernel_rfl) ?_
   simp only[Int.toNat_natCast]
   refine⟨fun _=>⟨⟨⟨by omega,by omega⟩,h k hk2⟩,fun h2=>by rw[idxI_hit hk2 hkd h2],fun h2=>⟨⟨by omega,by omega⟩,Again.mk (k+1) ?_ ⟨hk2,fun i hi=>?_⟩ (by omega)⟩⟩,fun h=>absurd (of_decide_eq_false h) (by omega)⟩
   ·exact AS.leA (by kernel_rfl)
   ·rcases Nat.lt_or_ge i k with h1|h1
    ·exact hkd i h1
    ·obtain rfl:i=k:=by omega
     exact h2
  ·obtain rfl:k=l.length:=by omega
   refine walkK (orc:=noO) (keep:=[]) (cuts:=[3]) (n:=1000) follows ?_
   refine of_rd (fun ZT ZW ZQ _ _ ZR=>((((decide ((↑l.length:Int)<↑l.length))=true)→ZW [cd Tryz.f37 [1,0,1,0,0,1,1,0,0],(.blk 1),cd Tryz.f37 [1,0,1,0,0,1,1,1]] (stS ZT [0]) ZR)∧(((decide ((↑l.length:Int)<↑l.length))=false)→ZW [cd Tryz.f37 [1,1]] (stS ZT [1]) ZQ))) (by kernel_rfl) ?_
   refine⟨fun h=>absurd (of_decide_eq_true h) (by omega),fun _=>?_⟩
   refine walkK (orc:=noO) (keep:=[]) (cuts:=[]) (n:=1000) follows ?_
   refine of_tr (fun _ _ _ _=>(((di (-1)):DV)=(di (idxI p l)))) (by kernel_rfl) ?_
   rw[idxI_none hkd]
theorem f60 (g:FuncId) (c:DV) (p:Wt→Bool) (l:List Wt) (hl:l.length≤1000000) (h:∀i,i<l.length→FnOK Tryz.prog G g [wtF l i,c] (db (p (l.getD i wt0)))):FnOK Tryz.prog G 60 [wtsD l,.clo (.func g) [] [c]] (db (l.any p)):=by
 refine FnOK.walkK (orc:=orcV (idxI p l)) (keep:=[]) follows Tryz.func60 rfl Tryz.call60 ?_
 refine of_tr (fun _ _ _ ZK=>(ZK 69 [(.slc 8 l.length (wtF l)),(.clo (.func g) [] [c])] (di (idxI p l))∧((db (decide (idxI p l≥0))):DV)=(db (l.any p)))) (by kernel_rfl) ?_
 exact⟨f69 g c p l hl h,congrArg db idxI_ge⟩
theorem f62 (g:FuncId) (c:DV) (p:Ls→Bool) (l:List Ls) (hl:l.length≤1000000) (h:∀i,i<l.length→FnOK Tryz.prog G g [lsF l i,c] (db (p (l.getD i ls0)))):FnOK Tryz.prog G 62 [lssD l,.clo (.func g) [] [c]] (db (l.any p)):=by
 refine FnOK.walkK (orc:=orcV (idxI p l)) (keep:=[]) follows Tryz.func62 rfl Tryz.call62 ?_
 refine of_tr (fun _ _ _ ZK=>(ZK 46 [(.slc 11 l.length (lsF l)),(.clo (.func g) [] [c])] (di (idxI p l))∧((db (decide (idxI p l≥0))):DV)=(db (l.any p)))) (by kernel_rfl) ?_
 exact⟨f46 g c p l hl h,congrArg db idxI_ge⟩
theorem f64b (g:FuncId) (c d:DV) (p:Jb→Bool) (l:List Jb) (hl:l.length≤1000000) (h:∀i,i<l.length→FnOK Tryz.prog G g [jbF l i,c,d] (db (p (l.getD i jb0)))):FnOK Tryz.prog G 64 [jbsD l,.clo (.func g) [] [c,d]] (db (l.any p)):=by
 refine FnOK.walkK (orc:=orcV (idxI p l)) (keep:=[]) follows Tryz.func64 rfl Tryz.call64 ?_
 refine of_tr (fun _ _ _ ZK=>(ZK 37 [(.slc 5 l.length (jbF l)),(.clo (.func g) [] [c,d])] (di (idxI p l))∧((db (decide (idxI p l≥0))):DV)=(db (l.any p)))) (by kernel_rfl) ?_
 exact⟨f37b g c d p l hl h,congrArg db idxI_ge⟩
/-! Deleting. -/
def delR (F:Nat→DV) (z a:DV) (n i:Nat) (j:Nat):DV:=if j<i then F j else if j+1<n then F (j+1) else if j<n then z else a
theorem er_getD {α:Type} {l:List α} {x0:α} {i j:Nat}:(l.eraseIdx i).getD j x0=if j<i then l.getD j x0 else l.getD (j+1) x0:=by
 rw[List.getD,List.getElem?_eraseIdx]
 split<;>rfl
noncomputable def S42 (l:List Wt) (c:Nat) (f:Nat→DV):AS:=⟨regs Tryz.f42.ntmps [(0,.vec 900 8 0 (l.length-1))],[(1000000,[.dead]),(900,[.arr ⟨true,39,false,some c⟩ 8 f])]⟩
theorem f42 (l:List Wt) (i:Nat) (hi:i<l.length) (hl:l.length≤1000000):FnM Tryz.prog G 42 [.vec 1000000 8 0 l.length,vi i,vi (i+1)] [(1000000,[.arr wK 8 (wtF l)])] (.vec 900 8 0 (l.length-1)) [(1000000,[.dead]),(900,[.arr wK 8 (wtF (l.eraseIdx i))])]:=by
 refine FnM.of_body (mv:=[]) (by kernel_rfl) Tryz.func42 rfl Tryz.call42 ?_
 refine AWP.full _ 0 1000000 900 l.length (agg:=wK) (sz:=8) (f:=wtF l) (by kernel_rfl) (by kernel_rfl) rfl (by kernel_rfl) (by kernel_rfl) fun c hc=>?_
 refine walkK (orc:=noO) (keep:=[]) (cuts:=[3,7]) (n:=1000) follows ?_
 refine of_tr (fun ZT ZW ZQ _=>(fun Za=>(((0≤(↑i:Int))∧((↑i:Int)≤↑i+1)∧((↑i:Int)+1≤↑l.length)∧((↑l.length:Int)≤↑l.length))∧((((↑i:Int)==↑i+1)=true)→ZW [cd Tryz.f42 [1,1,0,1,0],cd Tryz.f42 [1,1,1]] (stS ZT [0]) ZQ)∧((((↑i:Int)==↑i+1)=false)→(((((0:Int)≤(0:Int))∧(0≤(↑i:Int))∧((↑0:Int) + ↑i≤↑c))∧((0≤(↑i:Int)+1)∧((↑i:Int)+1≤↑l.length)∧((↑0:Int) + ↑l.length≤↑c))∧(0+Int.toNat 0+((↑i:Int)-0).toNat≤0+((↑i:Int)+1).toNat)∧(0+Int.toNat 0<0+((↑i:Int)+1).toNat))∧(((0≤Za)∧(Za≤(↑(List.length l):Int))∧((↑0:Int) + ↑l.length≤↑c))∧(0<Int.toNat ((↑(List.length l):Int)-Za)))∧ZW [cd Tryz.f42 [1,1,1,1,1,1]] (stS ZT [1]) ZQ)))) (↑(Int.toNat ((↑i:Int)-0)+Int.toNat ((↑(List.length l):Int)-((↑i:Int)+1))):Int)) (by kernel_rfl) ?_
 refine⟨⟨by omega,by omega,by omega,by omega⟩,fun h=>absurd (eq_of_beq h) (by omega),fun _=>⟨?_,?_,?_⟩⟩
 ·repeat' (with_reducible refine And.intro ?_ ?_)
  all_goals omega
 ·repeat' (with_reducible refine And.intro ?_ ?_)
  all_goals omega
 refine AWP.weaken (st':=S42 l c (delR (wtF l) (wtD wt0) (anyD 8) l.length i)) ?_ ?_
 ·refine AS.leZ [0] [1] (b:=((((.vec 900 8 0 (((↑i:Int)-0).toNat+((↑l.length:Int)-(↑i+1)).toNat)):AV)=(.vec 900 8 0 (l.length-1))∧True)∧T0∧((some [(.arr ⟨true,39,false,(some c)⟩ 8 (fun i_1=>bif Nat.blt i_1 (0+Int.toNat 0+Int.toNat (↑(Int.toNat ((↑i:Int)-0)+Int.toNat ((↑(List.length l):Int)-((↑i:Int)+1))):Int)) then bif Nat.blt i_1 (0+Int.toNat 0+Int.toNat ((↑i:Int)-0)) then bif Nat.blt i_1 (List.length l) then wtF l i_1 else DV.agg (List.replicate 8 (DV.prd fun x x_1=>True)) else bif Nat.blt i_1 (0+Int.toNat 0+Int.toNat ((↑i:Int)-0)+Int.toNat ((↑(List.length l):Int)-((↑i:Int)+1))) then bif Nat.blt (0+Int.toNat ((↑i:Int)+1)+(i_1-(0+Int.toNat 0+Int.toNat ((↑i:Int)-0)))) (List.length l) then wtF l (0+Int.toNat ((↑i:Int)+1)+(i_1-(0+Int.toNat 0+Int.toNat ((↑i:Int)-0)))) else DV.agg (List.replicate 8 (DV.prd fun x x_1=>True)) else bif Nat.blt i_1 (List.length l) then wtF l i_1 else DV.agg (List.replicate 8 (DV.prd fun x x_1=>True)) else bif Nat.blt i_1 (0+Int.toNat 0+Int.toNat (↑(Int.toNat ((↑i:Int)-0)+Int.toNat ((↑(List.length l):Int)-((↑i:Int)+1))):Int)+Int.toNat ((↑(List.length l):Int)-(↑(Int.toNat ((↑i:Int)-0)+Int.toNat ((↑(List.length l):Int)-((↑i:Int)+1))):Int))) then DV.agg (List.map DV.con [Value.string { data:=#[] },Value.string { data:=#[] },Value.int IntKind.i64 0,Value.int IntKind.i64 0,Value.int IntKind.i64 0,Value.int IntKind.i64 0,Value.int IntKind.i64 0,Value.int IntKind.i64 0]) else bif Nat.blt i_1 (0+Int.toNat 0+Int.toNat ((↑i:Int)-0)) then bif Nat.blt i_1 (List.length l) then wtF l i_1 else DV.agg (List.replicate 8 (DV.prd fun x x_1=>True)) else bif Nat.blt i_1 (0+Int.toNat 0+Int.toNat ((↑i:Int)-0)+Int.toNat ((↑(List.length l):Int)-((↑i:Int)+1))) then bif Nat.blt (0+Int.toNat ((↑i:Int)+1)+(i_1-(0+Int.toNat 0+Int.toNat ((↑i:Int)-0)))) (List.length l) then wtF l (0+Int.toNat ((↑i:Int)+1)+(i_1-(0+Int.toNat 0+Int.toNat ((↑i:Int)-0)))) else DV.agg (List.replicate 8 (DV.prd fun x x_1=>True)) else bif Nat.blt i_1 (List.length l) then wtF l i_1 else DV.agg (List.replicate 8 (DV.prd fun x x_1=>True))))]):(Option (List AV)))=(some [(.arr ⟨true,39,false,(some c)⟩ 8 (delR (wtF l) (wtD wt0) (DV.agg (List.replicate 8 (DV.prd fun x x_1=>True))) l.length i))])∧True)) (by kernel_rfl) (by kernel_rfl) ?_
  refine⟨⟨?_,trivial⟩,rfl,?_,trivial⟩
  ·rw[show ((i:Int)-0).toNat+((l.length:Int)-(i+1)).toNat=l.length-1 by omega]
  ·refine congrArg (fun f=>some [AV.arr ⟨true,39,false,some c⟩ 8 f]) (funext fun j=>?_)
   unfold delR
   simp only[Bool.cond_eq_ite,Nat.blt_eq]
   repeat' split
   all_goals first|rfl|(exfalso;omega)|(refine congrArg (wtF l) ?_;omega)
 refine AWP.pre (.rowL _ 0 900 (l.length-1) (agg:=⟨true,39,false,some c⟩) (sz:=8) (f:=delR (wtF l) (wtD wt0) (anyD 8) l.length i) (wtF (l.eraseIdx i)) (by kernel_rfl) (by kernel_rfl) (by kernel_rfl) fun j hj=>?_) ?_
 ·unfold delR wtF
  rw[er_getD]
  split
  ·rfl
  ·rw[if_pos (by omega)]
 refine walkK (orc:=noO) (keep:=[]) (cuts:=[]) (n:=1000) follows ?_
 refine of_tr (fun _ _ _ _=>((ZS ((.vec 900 8 0 (l.length-1)):AV))∧((some [.dead]):(Option (List AV)))=(some [.dead])∧((some [(.arr ⟨true,39,false,none⟩ 8 (wtF (l.eraseIdx i)))]):(Option (List AV)))=(some [(.arr ⟨true,39,false,none⟩ 8 (wtF (l.eraseIdx i)))])∧True)) (by kernel_rfl) ?_
 exact⟨rfl,rfl,rfl,trivial⟩
noncomputable def S59 (l:List Ls) (c:Nat) (f:Nat→DV):AS:=⟨regs Tryz.f59.ntmps [(0,.vec 900 11 0 (l.length-1))],[(1000000,[.dead]),(900,[.arr ⟨true,41,false,some c⟩ 11 f])]⟩
theorem f59 (l:List Ls) (i:Nat) (hi:i<l.length) (hl:l.length≤1000000):FnM Tryz.prog G 59 [.vec 1000000 11 0 l.length,vi i,vi (i+1)] [(1000000,[.arr lK 11 (lsF l)])] (.vec 900 11 0 (l.length-1)) [(1000000,[.dead]),(900,[.arr lK 11 (lsF (l.eraseIdx i))])]:=by
 refine FnM.of_body (mv:=[]) (by kernel_rfl) Tryz.func59 rfl Tryz.call59 ?_
 refine AWP.full _ 0 1000000 900 l.length (agg:=lK) (sz:=11) (f:=lsF l) (by kernel_rfl) (by kernel_rfl) rfl (by kernel_rfl) (by kernel_rfl) fun c hc=>?_
 refine walkK (orc:=noO) (keep:=[]) (cuts:=[3,7]) (n:=1000) follows ?_
 refine of_tr (fun ZT ZW ZQ _=>(fun Za=>(((0≤(↑i:Int))∧((↑i:Int)≤↑i+1)∧((↑i:Int)+1≤↑l.length)∧((↑l.length:Int)≤↑l.length))∧((((↑i:Int)==↑i+1)=true)→ZW [cd Tryz.f59 [1,1,0,1,0],cd Tryz.f59 [1,1,1]] (stS ZT [0]) ZQ)∧((((↑i:Int)==↑i+1)=false)→(((((0:Int)≤(0:Int))∧(0≤(↑i:Int))∧((↑0:Int) + ↑i≤↑c))∧((0≤(↑i:Int)+1)∧((↑i:Int)+1≤↑l.length)∧((↑0:Int) + ↑l.length≤↑c))∧(0+Int.toNat 0+((↑i:Int)-0).toNat≤0+((↑i:Int)+1).toNat)∧(0+Int.toNat 0<0+((↑i:Int)+1).toNat))∧(((0≤Za)∧(Za≤(↑(List.length l):Int))∧((↑0:Int) + ↑l.length≤↑c))∧(0<Int.toNat ((↑(List.length l):Int)-Za)))∧ZW [cd Tryz.f59 [1,1,1,1,1,1]] (stS ZT [1]) ZQ)))) (↑(Int.toNat ((↑i:Int)-0)+Int.toNat ((↑(List.length l):Int)-((↑i:Int)+1))):Int)) (by kernel_rfl) ?_
 refine⟨⟨by omega,by omega,by omega,by omega⟩,fun h=>absurd (eq_of_beq h) (by omega),fun _=>⟨?_,?_,?_⟩⟩
 ·repeat' (with_reducible refine And.intro ?_ ?_)
  all_goals omega
 ·repeat' (with_reducible refine And.intro ?_ ?_)
  all_goals omega
 refine AWP.weaken (st':=S59 l c (delR (lsF l) (lsD ls0) (anyD 11) l.length i)) ?_ ?_
 ·refine AS.leZ [0] [1] (b:=((((.vec 900 11 0 (((↑i:Int)-0).toNat+((↑l.length:Int)-(↑i+1)).toNat)):AV)=(.vec 900 11 0 (l.length-1))∧True)∧T0∧((some [(.arr ⟨true,41,false,(some c)⟩ 11 (fun i_1=>bif Nat.blt i_1 (0+Int.toNat 0+Int.toNat (↑(Int.toNat ((↑i:Int)-0)+Int.toNat ((↑(List.length l):Int)-((↑i:Int)+1))):Int)) then bif Nat.blt i_1 (0+Int.toNat 0+Int.toNat ((↑i:Int)-0)) then bif Nat.blt i_1 (List.length l) then lsF l i_1 else DV.agg (List.replicate 11 (DV.prd fun x x_1=>True)) else bif Nat.blt i_1 (0+Int.toNat 0+Int.toNat ((↑i:Int)-0)+Int.toNat ((↑(List.length l):Int)-((↑i:Int)+1))) then bif Nat.blt (0+Int.toNat ((↑i:Int)+1)+(i_1-(0+Int.toNat 0+Int.toNat ((↑i:Int)-0)))) (List.length l) then lsF l (0+Int.toNat ((↑i:Int)+1)+(i_1-(0+Int.toNat 0+Int.toNat ((↑i:Int)-0)))) else DV.agg (List.replicate 11 (DV.prd fun x x_1=>True)) else bif Nat.blt i_1 (List.length l) then lsF l i_1 else DV.agg (List.replicate 11 (DV.prd fun x x_1=>True)) else bif Nat.blt i_1 (0+Int.toNat 0+Int.toNat (↑(Int.toNat ((↑i:Int)-0)+Int.toNat ((↑(List.length l):Int)-((↑i:Int)+1))):Int)+Int.toNat ((↑(List.length l):Int)-(↑(Int.toNat ((↑i:Int)-0)+Int.toNat ((↑(List.length l):Int)-((↑i:Int)+1))):Int))) then DV.agg (List.map DV.con [Value.int IntKind.i64 0,Value.int IntKind.i64 0,Value.string { data:=#[] },Value.string { data:=#[] },Value.string { data:=#[] },Value.int IntKind.i64 0,Value.int IntKind.i64 0,Value.int IntKind.i64 0,Value.int IntKind.i64 0,Value.int IntKind.i64 0,Value.int IntKind.i64 0]) else bif Nat.blt i_1 (0+Int.toNat 0+Int.toNat ((↑i:Int)-0)) then bif Nat.blt i_1 (List.length l) then lsF l i_1 else DV.agg (List.replicate 11 (DV.prd fun x x_1=>True)) else bif Nat.blt i_1 (0+Int.toNat 0+Int.toNat ((↑i:Int)-0)+Int.toNat ((↑(List.length l):Int)-((↑i:Int)+1))) then bif Nat.blt (0+Int.toNat ((↑i:Int)+1)+(i_1-(0+Int.toNat 0+Int.toNat ((↑i:Int)-0)))) (List.length l) then lsF l (0+Int.toNat ((↑i:Int)+1)+(i_1-(0+Int.toNat 0+Int.toNat ((↑i:Int)-0)))) else DV.agg (List.replicate 11 (DV.prd fun x x_1=>True)) else bif Nat.blt i_1 (List.length l) then lsF l i_1 else DV.agg (List.replicate 11 (DV.prd fun x x_1=>True))))]):(Option (List AV)))=(some [(.arr ⟨true,41,false,(some c)⟩ 11 (delR (lsF l) (lsD ls0) (DV.agg (List.replicate 11 (DV.prd fun x x_1=>True))) l.length i))])∧True)) (by kernel_rfl) (by kernel_rfl) ?_
  refine⟨⟨?_,trivial⟩,rfl,?_,trivial⟩
  ·rw[show ((i:Int)-0).toNat+((l.length:Int)-(i+1)).toNat=l.length-1 by omega]
  ·refine congrArg (fun f=>some [AV.arr ⟨true,41,false,some c⟩ 11 f]) (funext fun j=>?_)
   unfold delR
   simp only[Bool.cond_eq_ite,Nat.blt_eq]
   repeat' split
   all_goals first|rfl|(exfalso;omega)|(refine congrArg (lsF l) ?_;omega)
 refine AWP.pre (.rowL _ 0 900 (l.length-1) (agg:=⟨true,41,false,some c⟩) (sz:=11) (f:=delR (lsF l) (lsD ls0) (anyD 11) l.length i) (lsF (l.eraseIdx i)) (by kernel_rfl) (by kernel_rfl) (by kernel_rfl) fun j hj=>?_) ?_
 ·unfold delR lsF
  rw[er_getD]
  split
  ·rfl
  ·rw[if_pos (by omega)]
 refine walkK (orc:=noO) (keep:=[]) (cuts:=[]) (n:=1000) follows ?_
 refine of_tr (fun _ _ _ _=>((ZS ((.vec 900 11 0 (l.length-1)):AV))∧((some [.dead]):(Option (List AV)))=(some [.dead])∧((some [(.arr ⟨true,41,false,none⟩ 11 (lsF (l.eraseIdx i)))]):(Option (List AV)))=(some [(.arr ⟨true,41,false,none⟩ 11 (lsF (l.eraseIdx i)))])∧True)) (by kernel_rfl) ?_
 exact⟨rfl,rfl,rfl,trivial⟩
/-! Deleting all of a kind. -/
def keepN {α:Type} (p:α→Bool) (l:List α) (k:Nat):Nat:=((l.take k).filter fun x=>!p x).length
theorem filt_none {α:Type} {p:α→Bool} {l:List α} (h:idxI p l = -1):(l.filter fun x=>!p x)=l:=by
 unfold idxI at h
 cases hh:l.findIdx? p with
 | none=>
  rw[List.findIdx?_eq_none_iff] at hh
  exact List.filter_eq_self.2 fun x hx=>by rw[hh x hx];rfl
 | some i=>rw[hh] at h;have h:(i:Int) = -1:=h;omega
theorem idx_some {α:Type} {p:α→Bool} {l:List α} {x0:α} (h:idxI p l≠-1):∃i,i<l.length∧idxI p l=(i:Int)∧(∀j,j<i→p (l.getD j x0)=false)∧p (l.getD i x0)=true:=by
 unfold idxI at h⊢
 cases hh:l.findIdx? p with
 | none=>rw[hh] at h;exact absurd rfl h
 | some i=>
  obtain ⟨h1,h2,h3⟩:=List.findIdx?_eq_some_iff_getElem.1 hh
  refine⟨i,h1,rfl,fun j hj=>?_,?_⟩
  ·have:=h3 j hj
   rw[List.getD,gEe (by omega)]
   simpa using this
  ·rw[List.getD,gEe h1];exact h2
theorem keep_succ {α:Type} {p:α→Bool} {l:List α} {x0:α} {k:Nat} (h:k<l.length):((l.take (k+1)).filter fun x=>!p x)=((l.take k).filter fun x=>!p x)++(if p (l.getD k x0)=true then [] else [l.getD k x0]):=by
 rw[List.take_succ_eq_append_getElem h,List.filter_append,List.getD,gEe h]
 congr 1
 simp only[List.filter_cons,List.filter_nil,Option.getD_some]
 cases p l[k]<;>rfl
theorem keep_le {α:Type} {p:α→Bool} {l:List α} {k:Nat}:keepN p l k≤k:=by
 unfold keepN
 have:=List.length_filter_le (fun x=>!p x) (l.take k)
 simp only[List.length_take] at this
 omega
theorem keep_lt {α:Type} {p:α→Bool} {l:List α} {x0:α} {k i:Nat} (h1:i<k) (h2:k≤l.length) (hi:i<l.length) (hp:p (l.getD i x0)=true):keepN p l k<k:=by
 induction k with
 | zero=>omega
 | succ k ih=>
  unfold keepN at ih⊢
  rw[keep_succ (x0:=x0) (by omega),List.length_append]
  by_cases hik:i=k
  ·subst hik
   rw[if_pos hp]
   have:=@keep_le _ p l i
   unfold keepN at this
   simp only[List.length_nil];omega
  ·have:=ih (by omega) (by omega)
   split<;>simp only[List.length_nil,List.length_cons]<;>omega
theorem keep_front {α:Type} {p:α→Bool} {l:List α} {x0:α} {i:Nat} (hi:i≤l.length) (h:∀j,j<i→p (l.getD j x0)=false):((l.take i).filter fun x=>!p x)=l.take i:=by
 refine List.filter_eq_self.2 fun x hx=>?_
 obtain ⟨j,hj,rfl⟩:=List.getElem_of_mem hx
 have hj':j<i:=by simp at hj;omega
 have:=h j hj'
 rw[List.getD,gEe (by omega)] at this
 rw[List.getElem_take]
 have this:p l[j]=false:=this
 rw[this];rfl
theorem keep_more {α:Type} {p:α→Bool} {l:List α} {x0:α} {k:Nat} (h:k<l.length):(p (l.getD k x0)=true→((l.take (k+1)).filter fun x=>!p x)=((l.take k).filter fun x=>!p x)∧keepN p l (k+1)=keepN p l k)∧(p (l.getD k x0)=false→((l.take (k+1)).filter fun x=>!p x)=((l.take k).filter fun x=>!p x)++[l.getD k x0]∧keepN p l (k+1)=keepN p l k+1):=by
 unfold keepN
 rw[keep_succ (x0:=x0) h]
 refine⟨fun e=>?_,fun e=>?_⟩
 ·rw[if_pos e,List.append_nil];exact⟨rfl,rfl⟩
 ·rw[if_neg (by rw[e];decide),List.length_append];exact⟨rfl,rfl⟩
theorem gD_app {α:Type} {l:List α} {a x0:α} {j:Nat}:(l++[a]).getD j x0=if j<l.length then l.getD j x0 else if j=l.length then a else x0:=by
 rw[List.getD]
 split
 ·rename_i h
  rw[List.getElem?_append_left h];rfl
 ·split
  ·rename_i h1 h
   subst h
   rw[List.getElem?_append_right (Nat.le_refl _),Nat.sub_self];rfl
  ·rename_i h1 h
   rw[List.getElem?_eq_none (by simp;omega)];rfl
theorem gD_take {α:Type} {l:List α} {x0:α} {i j:Nat} (h:j<i):(l.take i).getD j x0=l.getD j x0:=by
 rw[List.getD,List.getElem?_take,if_pos h];rfl
theorem gD_out {α:Type} {l:List α} {x0:α} {j:Nat} (h:l.length≤j):l.getD j x0=x0:=by
 rw[List.getD,List.getElem?_eq_none h];rfl
def rowQ52 (p:Wt→Bool) (l:List Wt) (k j:Nat):Wt:=if j<keepN p l k then ((l.take k).filter fun x=>!p x).getD j wt0 else l.getD j wt0
noncomputable def S52 (g:FuncId) (c:DV) (p:Wt→Bool) (l:List Wt) (k:Nat):AS:=⟨regs Tryz.f52.ntmps [(0,.vec 1000000 8 0 l.length),(1,.d (.clo (.func g) [] [c])),(5,vi (keepN p l k)),(6,vi k)],[(1000000,[.arr wK 8 fun j=>wtD (rowQ52 p l k j)])]⟩
theorem f52 (g:FuncId) (c:DV) (p:Wt→Bool) (l:List Wt) (hl:l.length≤1000000) (h:∀i,i<l.length→FnOK Tryz.prog G g [wtF l i,c] (db (p (l.getD i wt0)))) :
  FnM Tryz.prog G 52 [.vec 1000000 8 0 l.length,.d (.clo (.func g) [] [c])] [(1000000,[.arr wK 8 (wtF l)])] (.vec 1000000 8 0 (l.filter fun x=>!p x).length) [(1000000,[.arr wK 8 (wtF (l.filter fun x=>!p x))])]:=by
 have hI:=f69 g c p l hl h
 have hIa:FnOK Tryz.prog G 69 [.slc 8 l.length (fun i=>wtF l (0+i)),.clo (.func g) [] [c]] (di (idxI p l)):=hI.args fun k us hu=>DV.rels_cons (fun v hv=>DV.rel_slc_congr (fun i hi=>by rw[Nat.zero_add]) hv) (fun _ h=>h) us hu
 refine FnM.of_body (mv:=[]) (by kernel_rfl) Tryz.func52 rfl Tryz.call52 ?_
 refine walkK (orc:=orcV (idxI p l)) (keep:=[]) (cuts:=[]) (n:=1000) follows ?_
 refine of_tr (fun ZT ZW ZQ ZK=>(ZK 69 [(.slc 8 l.length (fun i=>wtF l (0+i))),(.clo (.func g) [] [c])] (di (idxI p l))∧(((idxI p l==-1)=true)→(((.vec 1000000 8 0 l.length):AV)=(.vec 1000000 8 0 (List.filter (fun x=>!p x) l).length)∧((some [(.arr ⟨true,39,false,none⟩ 8 (wtF l))]):(Option (List AV)))=(some [(.arr ⟨true,39,false,none⟩ 8 (wtF (List.filter (fun x=>!p x) l)))])∧True))∧(((idxI p l==-1)=false)→((I64 (idxI p l+1))∧ZW [cd Tryz.f52 [1,1,1,0,1,0],(.blk 0),cd Tryz.f52 [1,1,1,1]] (stS ZT [1]) ZQ)))) (by kernel_rfl) ?_
 obtain ⟨b1,b2⟩:=@idxI_lt _ p l
 refine⟨hIa,fun h1=>?_,fun h1=>⟨⟨by omega,by omega⟩,?_⟩⟩
 ·have e:=filt_none (eq_of_beq h1)
  rw[e]
  exact⟨rfl,rfl,trivial⟩
 ·obtain ⟨i,hi,ei,e1,e2⟩:=idx_some (x0:=wt0) (p:=p) (l:=l) (fun hh=>by rw[hh] at h1;exact absurd h1 (by decide))
  have kn:∀k,i<k→k≤l.length→keepN p l k<k:=fun k h1 h2=>keep_lt h1 h2 hi e2
  refine AWP.loop (c:=cAt (bodyOf Tryz.f52) [1,1,1,0,1,0,0]) (by kernel_rfl) (S52 g c p l) (fun k=>i<k∧k≤l.length) (fun k=>l.length-k) (i+1) ?_ ⟨by omega,by omega⟩ ?_
  ·have e0:((l.take (i+1)).filter fun x=>!p x)=l.take i:=by rw[((keep_more (x0:=wt0) hi).1 e2).1,keep_front (x0:=wt0) (by omega) e1]
   have e3:keepN p l (i+1)=i:=by unfold keepN;rw[e0,List.length_take];omega
   refine AS.leZ [2,3] [0] (b:=((T0∧T0∧((vi (idxI p l)):AV)=(vi (↑(keepN p l (i+1))))∧((vi (idxI p l+1)):AV)=(vi (↑(i+1)))∧True)∧((some [(.arr ⟨true,39,false,none⟩ 8 (wtF l))]):(Option (List AV)))=(some [(.arr ⟨true,39,false,none⟩ 8 (fun j=>wtD (rowQ52 p l (i+1) j)))])∧True)) (by kernel_rfl) (by kernel_rfl) ?_
   rw[e3,ei]
   refine⟨⟨rfl,rfl,rfl,rfl,trivial⟩,congrArg (fun f=>some [AV.arr wK 8 f]) (funext fun j=>?_),trivial⟩
   unfold rowQ52 wtF
   rw[e3,e0]
   split
   ·rename_i hj
    rw[gD_take hj]
   ·rfl
  ·rintro k ⟨hik,hk⟩
   have hkn:=kn k hik hk
   by_cases hk2:k<l.length
   ·refine walkK (orc:=orcB (p (l.getD k wt0))) (keep:=[]) (cuts:=[11]) (n:=1000) follows ?_
    refine of_rd (fun ZT ZW ZQ ZK ZA _=>(fun Za=>((((decide ((↑k:Int)<↑l.length))=true)→(((0≤(↑k:Int))∧((↑k:Int)<↑l.length))∧ZK g [(.agg [(ds Za.j.st),(ds Za.j.ex),(di Za.j.no),(di Za.j.ve),(di Za.j.pr),(di Za.tr),(di Za.ar),(di Za.fr)]),c] (db (p (l.getD k wt0)))∧(((!p (l.getD k wt0))=true)→(((0≤(↑(keepN p l k):Int))∧((↑(keepN p l k):Int)<↑l.length))∧(I64 (↑(keepN p l k)+1))∧(I64 (↑k+1))∧(ZA (stS ZT [0,0]))))∧(((!p (l.getD k wt0))=false)→((I64 (↑k+1))∧(ZA (stS ZT [0,1]))))))∧(((decide ((↑k:Int)<↑l.length))=false)→ZW [cd Tryz.f52 [1,1,1,1]] (stS ZT [1]) ZQ))) (rowQ52 p l k (0+(↑k:Int).toNat))) (by kernel_rfl) ?_
    dsimp only
    have eQ:rowQ52 p l k k=l.getD k wt0:=by unfold rowQ52;rw[if_neg (by omega)]
    obtain ⟨m1,m2⟩:=keep_more (x0:=wt0) (p:=p) hk2
    simp only[Int.toNat_natCast,Nat.zero_add,eQ]
    refine⟨fun _=>⟨⟨by omega,by omega⟩,h k hk2,fun h2=>⟨⟨by omega,by omega⟩,⟨by omega,by omega⟩,⟨by omega,by omega⟩,Again.mk (k+1) ?_ ⟨by omega,by omega⟩ (by omega)⟩,fun h2=>⟨⟨by omega,by omega⟩,Again.mk (k+1) ?_ ⟨by omega,by omega⟩ (by omega)⟩⟩,fun h=>absurd (of_decide_eq_false h) (by omega)⟩
    ·obtain ⟨a1,a2⟩:=m2 (by simpa using h2)
     refine AS.leZ [2] [0] (b:=((T0∧T0∧((vi (↑(keepN p l k)+1)):AV)=(vi (↑(keepN p l (k+1))))∧T0∧True)∧((some [(.arr ⟨true,39,false,none⟩ 8 (fun j=>bif j.beq (0+((↑(keepN p l k):Int)).toNat) then DV.agg [DV.con (Value.string (rowQ52 p l k (0+(↑k:Int).toNat)).j.st),DV.con (Value.string (rowQ52 p l k (0+(↑k:Int).toNat)).j.ex),DV.con (Value.int IntKind.i64 (rowQ52 p l k (0+(↑k:Int).toNat)).j.no),DV.con (Value.int IntKind.i64 (rowQ52 p l k (0+(↑k:Int).toNat)).j.ve),DV.con (Value.int IntKind.i64 (rowQ52 p l k (0+(↑k:Int).toNat)).j.pr),DV.con (Value.int IntKind.i64 (rowQ52 p l k (0+(↑k:Int).toNat)).tr),DV.con (Value.int IntKind.i64 (rowQ52 p l k (0+(↑k:Int).toNat)).ar),DV.con (Value.int IntKind.i64 (rowQ52 p l k (0+(↑k:Int).toNat)).fr)] else wtD (rowQ52 p l k j)))]):(Option (List AV)))=(some [(.arr ⟨true,39,false,none⟩ 8 (fun j=>wtD (rowQ52 p l (k+1) j)))])∧True)) (by kernel_rfl) (by kernel_rfl) ?_
     refine⟨⟨rfl,rfl,?_,rfl,trivial⟩,congrArg (fun f=>some [AV.arr wK 8 f]) (funext fun j=>?_),trivial⟩
     ·rw[a2];rfl
     ·simp only[Int.toNat_natCast,Nat.zero_add,eQ]
      unfold rowQ52
      rw[a1,a2,gD_app]
      have hm:((l.take k).filter fun x=>!p x).length=keepN p l k:=rfl
      by_cases hj:j=keepN p l k
      ·subst hj
       rw[Nat.beq_refl]
       refine congrArg wtD (a₁:=l.getD k wt0) ?_
       simp only[hm]
       rw[if_pos (by omega),if_neg (Nat.lt_irrefl _)]
       exact(if_pos trivial).symm
      ·rw[show Nat.beq j (keepN p l k)=false from by rw[Bool.eq_false_iff,ne_eq,Nat.beq_eq];exact hj]
       refine congrArg wtD (a₁:=if j<keepN p l k then ((l.take k).filter fun x=>!p x).getD j wt0 else l.getD j wt0) ?_
       simp only[hm]
       by_cases hj2:j<keepN p l k
       ·rw[if_pos hj2,if_pos (by omega),if_pos hj2]
       ·rw[if_neg hj2,if_neg (by omega)]
    ·obtain ⟨a1,a2⟩:=m1 (by simpa using h2)
     refine AS.leZ [2] [0] (b:=((T0∧T0∧((vi (↑(keepN p l k))):AV)=(vi (↑(keepN p l (k+1))))∧T0∧True)∧((some [(.arr ⟨true,39,false,none⟩ 8 (fun j=>wtD (rowQ52 p l k j)))]):(Option (List AV)))=(some [(.arr ⟨true,39,false,none⟩ 8 (fun j=>wtD (rowQ52 p l (k+1) j)))])∧True)) (by kernel_rfl) (by kernel_rfl) ?_
     refine⟨⟨rfl,rfl,?_,rfl,trivial⟩,congrArg (fun f=>some [AV.arr wK 8 f]) (funext fun j=>?_),trivial⟩
     ·rw[a2]
     ·unfold rowQ52
      rw[a1,a2]
   ·obtain rfl:k=l.length:=by omega
    refine walkK (orc:=noO) (keep:=[]) (cuts:=[7]) (n:=1000) follows ?_
    refine of_rd (fun ZT ZW ZQ _ _ ZR=>((((decide ((↑l.length:Int)<↑l.length))=true)→ZW [cd Tryz.f52 [1,1,1,0,1,0,0,1,0,0],(.blk 1),cd Tryz.f52 [1,1,1,0,1,0,0,1,1]] (stS ZT [0]) ZR)∧(((decide ((↑l.length:Int)<↑l.length))=false)→ZW [cd Tryz.f52 [1,1,1,1]] (stS ZT [1]) ZQ))) (by kernel_rfl) ?_
    refine⟨fun h=>absurd (of_decide_eq_true h) (by omega),fun _=>?_⟩
    have ef:((l.take l.length).filter fun x=>!p x)=(l.filter fun x=>!p x):=by rw[List.take_length]
    have el:keepN p l l.length=(l.filter fun x=>!p x).length:=by unfold keepN;rw[ef]
    rw[←el]
    refine walkK (orc:=noO) (keep:=[]) (cuts:=[]) (n:=1000) follows ?_
    refine of_tr (fun _ _ _ _=>((((0≤(↑(keepN p l l.length):Int))∧((↑(keepN p l l.length):Int)≤↑l.length)∧((↑l.length:Int)≤↑l.length))∧(0<((↑l.length:Int) - ↑(keepN p l l.length)).toNat))∧(((0:Int)≤(0:Int))∧(0≤(↑(keepN p l l.length):Int))∧((↑(keepN p l l.length):Int)≤↑l.length))∧(ZS ((.vec 1000000 8 0 (keepN p l l.length)):AV))∧((some [(.arr ⟨true,39,false,none⟩ 8 (fun i=>bif i.blt (0+((↑(keepN p l l.length):Int)).toNat) then wtD (rowQ52 p l l.length i) else bif i.blt (0+((↑(keepN p l l.length):Int)).toNat+((↑l.length:Int) - ↑(keepN p l l.length)).toNat) then DV.agg (List.map DV.con [Value.string (ByteArray.mk #[]),Value.string (ByteArray.mk #[]),Value.int IntKind.i64 0,Value.int IntKind.i64 0,Value.int IntKind.i64 0,Value.int IntKind.i64 0,Value.int IntKind.i64 0,Value.int IntKind.i64 0]) else wtD (rowQ52 p l l.length i)))]):(Option (List AV)))=(some [(.arr ⟨true,39,false,none⟩ 8 (wtF (List.filter (fun x=>!p x) l)))])∧True)) (by kernel_rfl) ?_
    refine⟨⟨⟨by omega,by omega,by omega⟩,by omega⟩,⟨by omega,by omega,by omega⟩,rfl,congrArg (fun f=>some [AV.arr wK 8 f]) (funext fun j=>?_),trivial⟩
    simp only[Int.toNat_natCast,Nat.zero_add]
    rw[show keepN p l l.length+((l.length:Int)-keepN p l l.length).toNat=l.length by omega]
    by_cases h1:j<keepN p l l.length
    ·rw[show Nat.blt j (keepN p l l.length)=true from by rw[Nat.blt_eq];exact h1]
     refine congrArg wtD (a₁:=rowQ52 p l l.length j) ?_
     unfold rowQ52
     rw[if_pos h1,ef]
    ·rw[show Nat.blt j (keepN p l l.length)=false from by rw[Bool.eq_false_iff,ne_eq,Nat.blt_eq];exact h1]
     by_cases h2:j<l.length
     ·rw[show Nat.blt j l.length=true from by rw[Nat.blt_eq];exact h2]
      refine congrArg wtD (a₁:=wt0) ?_
      rw[gD_out (by omega)]
     ·rw[show Nat.blt j l.length=false from by rw[Bool.eq_false_iff,ne_eq,Nat.blt_eq];exact h2]
      refine congrArg wtD (a₁:=rowQ52 p l l.length j) ?_
      unfold rowQ52
      rw[if_neg h1,gD_out (by omega),gD_out (by omega)]
def rowQ28 (p:Ls→Bool) (l:List Ls) (k j:Nat):Ls:=if j<keepN p l k then ((l.take k).filter fun x=>!p x).getD j ls0 else l.getD j ls0
noncomputable def S28 (g:FuncId) (c:DV) (p:Ls→Bool) (l:List Ls) (k:Nat):AS:=⟨regs Tryz.f28.ntmps [(0,.vec 1000000 11 0 l.length),(1,.d (.clo (.func g) [] [c])),(5,vi (keepN p l k)),(6,vi k)],[(1000000,[.arr lK 11 fun j=>lsD (rowQ28 p l k j)])]⟩
theorem f28 (g:FuncId) (c:DV) (p:Ls→Bool) (l:List Ls) (hl:l.length≤1000000) (h:∀i,i<l.length→FnOK Tryz.prog G g [lsF l i,c] (db (p (l.getD i ls0)))) :
  FnM Tryz.prog G 28 [.vec 1000000 11 0 l.length,.d (.clo (.func g) [] [c])] [(1000000,[.arr lK 11 (lsF l)])] (.vec 1000000 11 0 (l.filter fun x=>!p x).length) [(1000000,[.arr lK 11 (lsF (l.filter fun x=>!p x))])]:=by
 have hI:=f46 g c p l hl h
 have hIa:FnOK Tryz.prog G 46 [.slc 11 l.length (fun i=>lsF l (0+i)),.clo (.func g) [] [c]] (di (idxI p l)):=hI.args fun k us hu=>DV.rels_cons (fun v hv=>DV.rel_slc_congr (fun i hi=>by rw[Nat.zero_add]) hv) (fun _ h=>h) us hu
 refine FnM.of_body (mv:=[]) (by kernel_rfl) Tryz.func28 rfl Tryz.call28 ?_
 refine walkK (orc:=orcV (idxI p l)) (keep:=[]) (cuts:=[]) (n:=1000) follows ?_
 refine of_tr (fun ZT ZW ZQ ZK=>(ZK 46 [(.slc 11 l.length (fun i=>lsF l (0+i))),(.clo (.func g) [] [c])] (di (idxI p l))∧(((idxI p l==-1)=true)→(((.vec 1000000 11 0 l.length):AV)=(.vec 1000000 11 0 (List.filter (fun x=>!p x) l).length)∧((some [(.arr ⟨true,41,false,none⟩ 11 (lsF l))]):(Option (List AV)))=(some [(.arr ⟨true,41,false,none⟩ 11 (lsF (List.filter (fun x=>!p x) l)))])∧True))∧(((idxI p l==-1)=false)→((I64 (idxI p l+1))∧ZW [cd Tryz.f28 [1,1,1,0,1,0],(.blk 0),cd Tryz.f28 [1,1,1,1]] (stS ZT [1]) ZQ)))) (by kernel_rfl) ?_
 obtain ⟨b1,b2⟩:=@idxI_lt _ p l
 refine⟨hIa,fun h1=>?_,fun h1=>⟨⟨by omega,by omega⟩,?_⟩⟩
 ·have e:=filt_none (eq_of_beq h1)
  rw[e]
  exact⟨rfl,rfl,trivial⟩
 ·obtain ⟨i,hi,ei,e1,e2⟩:=idx_some (x0:=ls0) (p:=p) (l:=l) (fun hh=>by rw[hh] at h1;exact absurd h1 (by decide))
  have kn:∀k,i<k→k≤l.length→keepN p l k<k:=fun k h1 h2=>keep_lt h1 h2 hi e2
  refine AWP.loop (c:=cAt (bodyOf Tryz.f28) [1,1,1,0,1,0,0]) (by kernel_rfl) (S28 g c p l) (fun k=>i<k∧k≤l.length) (fun k=>l.length-k) (i+1) ?_ ⟨by omega,by omega⟩ ?_
  ·have e0:((l.take (i+1)).filter fun x=>!p x)=l.take i:=by rw[((keep_more (x0:=ls0) hi).1 e2).1,keep_front (x0:=ls0) (by omega) e1]
   have e3:keepN p l (i+1)=i:=by unfold keepN;rw[e0,List.length_take];omega
   refine AS.leZ [2,3] [0] (b:=((T0∧T0∧((vi (idxI p l)):AV)=(vi (↑(keepN p l (i+1))))∧((vi (idxI p l+1)):AV)=(vi (↑(i+1)))∧True)∧((some [(.arr ⟨true,41,false,none⟩ 11 (lsF l))]):(Option (List AV)))=(some [(.arr ⟨true,41,false,none⟩ 11 (fun j=>lsD (rowQ28 p l (i+1) j)))])∧True)) (by kernel_rfl) (by kernel_rfl) ?_
   rw[e3,ei]
   refine⟨⟨rfl,rfl,rfl,rfl,trivial⟩,congrArg (fun f=>some [AV.arr lK 11 f]) (funext fun j=>?_),trivial⟩
   unfold rowQ28 lsF
   rw[e3,e0]
   split
   ·rename_i hj
    rw[gD_take hj]
   ·rfl
  ·rintro k ⟨hik,hk⟩
   have hkn:=kn k hik hk
   by_cases hk2:k<l.length
   ·refine walkK (orc:=orcB (p (l.getD k ls0))) (keep:=[]) (cuts:=[11]) (n:=1000) follows ?_
    refine of_rd (fun ZT ZW ZQ ZK ZA _=>(fun Za=>((((decide ((↑k:Int)<↑l.length))=true)→(((0≤(↑k:Int))∧((↑k:Int)<↑l.length))∧ZK g [(.agg [(di Za.no),(di Za.un),(ds Za.wk),(ds Za.w.j.st),(ds Za.w.j.ex),(di Za.w.j.no),(di Za.w.j.ve),(di Za.w.j.pr),(di Za.w.tr),(di Za.w.ar),(di Za.w.fr)]),c] (db (p (l.getD k ls0)))∧(((!p (l.getD k ls0))=true)→(((0≤(↑(keepN p l k):Int))∧((↑(keepN p l k):Int)<↑l.length))∧(I64 (↑(keepN p l k)+1))∧(I64 (↑k+1))∧(ZA (stS ZT [0,0]))))∧(((!p (l.getD k ls0))=false)→((I64 (↑k+1))∧(ZA (stS ZT [0,1]))))))∧(((decide ((↑k:Int)<↑l.length))=false)→ZW [cd Tryz.f28 [1,1,1,1]] (stS ZT [1]) ZQ))) (rowQ28 p l k (0+(↑k:Int).toNat))) (by kernel_rfl) ?_
    dsimp only
    have eQ:rowQ28 p l k k=l.getD k ls0:=by unfold rowQ28;rw[if_neg (by omega)]
    obtain ⟨m1,m2⟩:=keep_more (x0:=ls0) (p:=p) hk2
    simp only[Int.toNat_natCast,Nat.zero_add,eQ]
    refine⟨fun _=>⟨⟨by omega,by omega⟩,h k hk2,fun h2=>⟨⟨by omega,by omega⟩,⟨by omega,by omega⟩,⟨by omega,by omega⟩,Again.mk (k+1) ?_ ⟨by omega,by omega⟩ (by omega)⟩,fun h2=>⟨⟨by omega,by omega⟩,Again.mk (k+1) ?_ ⟨by omega,by omega⟩ (by omega)⟩⟩,fun h=>absurd (of_decide_eq_false h) (by omega)⟩
    ·obtain ⟨a1,a2⟩:=m2 (by simpa using h2)
     refine AS.leZ [2] [0] (b:=((T0∧T0∧((vi (↑(keepN p l k)+1)):AV)=(vi (↑(keepN p l (k+1))))∧T0∧True)∧((some [(.arr ⟨true,41,false,none⟩ 11 (fun j=>bif j.beq (0+((↑(keepN p l k):Int)).toNat) then DV.agg [DV.con (Value.int IntKind.i64 (rowQ28 p l k (0+(↑k:Int).toNat)).no),DV.con (Value.int IntKind.i64 (rowQ28 p l k (0+(↑k:Int).toNat)).un),DV.con (Value.string (rowQ28 p l k (0+(↑k:Int).toNat)).wk),DV.con (Value.string (rowQ28 p l k (0+(↑k:Int).toNat)).w.j.st),DV.con (Value.string (rowQ28 p l k (0+(↑k:Int).toNat)).w.j.ex),DV.con (Value.int IntKind.i64 (rowQ28 p l k (0+(↑k:Int).toNat)).w.j.no),DV.con (Value.int IntKind.i64 (rowQ28 p l k (0+(↑k:Int).toNat)).w.j.ve),DV.con (Value.int IntKind.i64 (rowQ28 p l k (0+(↑k:Int).toNat)).w.j.pr),DV.con (Value.int IntKind.i64 (rowQ28 p l k (0+(↑k:Int).toNat)).w.tr),DV.con (Value.int IntKind.i64 (rowQ28 p l k (0+(↑k:Int).toNat)).w.ar),DV.con (Value.int IntKind.i64 (rowQ28 p l k (0+(↑k:Int).toNat)).w.fr)] else lsD (rowQ28 p l k j)))]):(Option (List AV)))=(some [(.arr ⟨true,41,false,none⟩ 11 (fun j=>lsD (rowQ28 p l (k+1) j)))])∧True)) (by kernel_rfl) (by kernel_rfl) ?_
     refine⟨⟨rfl,rfl,?_,rfl,trivial⟩,congrArg (fun f=>some [AV.arr lK 11 f]) (funext fun j=>?_),trivial⟩
     ·rw[a2];rfl
     ·simp only[Int.toNat_natCast,Nat.zero_add,eQ]
      unfold rowQ28
      rw[a1,a2,gD_app]
      have hm:((l.take k).filter fun x=>!p x).length=keepN p l k:=rfl
      by_cases hj:j=keepN p l k
      ·subst hj
       rw[Nat.beq_refl]
       refine congrArg lsD (a₁:=l.getD k ls0) ?_
       simp only[hm]
       rw[if_pos (by omega),if_neg (Nat.lt_irrefl _)]
       exact(if_pos trivial).symm
      ·rw[show Nat.beq j (keepN p l k)=false from by rw[Bool.eq_false_iff,ne_eq,Nat.beq_eq];exact hj]
       refine congrArg lsD (a₁:=if j<keepN p l k then ((l.take k).filter fun x=>!p x).getD j ls0 else l.getD j ls0) ?_
       simp only[hm]
       by_cases hj2:j<keepN p l k
       ·rw[if_pos hj2,if_pos (by omega),if_pos hj2]
       ·rw[if_neg hj2,if_neg (by omega)]
    ·obtain ⟨a1,a2⟩:=m1 (by simpa using h2)
     refine AS.leZ [2] [0] (b:=((T0∧T0∧((vi (↑(keepN p l k))):AV)=(vi (↑(keepN p l (k+1))))∧T0∧True)∧((some [(.arr ⟨true,41,false,none⟩ 11 (fun j=>lsD (rowQ28 p l k j)))]):(Option (List AV)))=(some [(.arr ⟨true,41,false,none⟩ 11 (fun j=>lsD (rowQ28 p l (k+1) j)))])∧True)) (by kernel_rfl) (by kernel_rfl) ?_
     refine⟨⟨rfl,rfl,?_,rfl,trivial⟩,congrArg (fun f=>some [AV.arr lK 11 f]) (funext fun j=>?_),trivial⟩
     ·rw[a2]
     ·unfold rowQ28
      rw[a1,a2]
   ·obtain rfl:k=l.length:=by omega
    refine walkK (orc:=noO) (keep:=[]) (cuts:=[7]) (n:=1000) follows ?_
    refine of_rd (fun ZT ZW ZQ _ _ ZR=>((((decide ((↑l.length:Int)<↑l.length))=true)→ZW [cd Tryz.f28 [1,1,1,0,1,0,0,1,0,0],(.blk 1),cd Tryz.f28 [1,1,1,0,1,0,0,1,1]] (stS ZT [0]) ZR)∧(((decide ((↑l.length:Int)<↑l.length))=false)→ZW [cd Tryz.f28 [1,1,1,1]] (stS ZT [1]) ZQ))) (by kernel_rfl) ?_
    refine⟨fun h=>absurd (of_decide_eq_true h) (by omega),fun _=>?_⟩
    have ef:((l.take l.length).filter fun x=>!p x)=(l.filter fun x=>!p x):=by rw[List.take_length]
    have el:keepN p l l.length=(l.filter fun x=>!p x).length:=by unfold keepN;rw[ef]
    rw[←el]
    refine walkK (orc:=noO) (keep:=[]) (cuts:=[]) (n:=1000) follows ?_
    refine of_tr (fun _ _ _ _=>((((0≤(↑(keepN p l l.length):Int))∧((↑(keepN p l l.length):Int)≤↑l.length)∧((↑l.length:Int)≤↑l.length))∧(0<((↑l.length:Int) - ↑(keepN p l l.length)).toNat))∧(((0:Int)≤(0:Int))∧(0≤(↑(keepN p l l.length):Int))∧((↑(keepN p l l.length):Int)≤↑l.length))∧(ZS ((.vec 1000000 11 0 (keepN p l l.length)):AV))∧((some [(.arr ⟨true,41,false,none⟩ 11 (fun i=>bif i.blt (0+((↑(keepN p l l.length):Int)).toNat) then lsD (rowQ28 p l l.length i) else bif i.blt (0+((↑(keepN p l l.length):Int)).toNat+((↑l.length:Int) - ↑(keepN p l l.length)).toNat) then DV.agg (List.map DV.con [Value.int IntKind.i64 0,Value.int IntKind.i64 0,Value.string (ByteArray.mk #[]),Value.string (ByteArray.mk #[]),Value.string (ByteArray.mk #[]),Value.int IntKind.i64 0,Value.int IntKind.i64 0,Value.int IntKind.i64 0,Value.int IntKind.i64 0,Value.int IntKind.i64 0,Value.int IntKind.i64 0]) else lsD (rowQ28 p l l.length i)))]):(Option (List AV)))=(some [(.arr ⟨true,41,false,none⟩ 11 (lsF (List.filter (fun x=>!p x) l)))])∧True)) (by kernel_rfl) ?_
    refine⟨⟨⟨by omega,by omega,by omega⟩,by omega⟩,⟨by omega,by omega,by omega⟩,rfl,congrArg (fun f=>some [AV.arr lK 11 f]) (funext fun j=>?_),trivial⟩
    simp only[Int.toNat_natCast,Nat.zero_add]
    rw[show keepN p l l.length+((l.length:Int)-keepN p l l.length).toNat=l.length by omega]
    by_cases h1:j<keepN p l l.length
    ·rw[show Nat.blt j (keepN p l l.length)=true from by rw[Nat.blt_eq];exact h1]
     refine congrArg lsD (a₁:=rowQ28 p l l.length j) ?_
     unfold rowQ28
     rw[if_pos h1,ef]
    ·rw[show Nat.blt j (keepN p l l.length)=false from by rw[Bool.eq_false_iff,ne_eq,Nat.blt_eq];exact h1]
     by_cases h2:j<l.length
     ·rw[show Nat.blt j l.length=true from by rw[Nat.blt_eq];exact h2]
      refine congrArg lsD (a₁:=ls0) ?_
      rw[gD_out (by omega)]
     ·rw[show Nat.blt j l.length=false from by rw[Bool.eq_false_iff,ne_eq,Nat.blt_eq];exact h2]
      refine congrArg lsD (a₁:=rowQ28 p l l.length j) ?_
      unfold rowQ28
      rw[if_neg h1,gD_out (by omega),gD_out (by omega)]
def rowQ14 (p:Jb→Bool) (l:List Jb) (k j:Nat):Jb:=if j<keepN p l k then ((l.take k).filter fun x=>!p x).getD j jb0 else l.getD j jb0
noncomputable def S14 (g:FuncId) (c:DV) (p:Jb→Bool) (l:List Jb) (k:Nat):AS:=⟨regs Tryz.f14.ntmps [(0,.vec 1000000 5 0 l.length),(1,.d (.clo (.func g) [] [c])),(5,vi (keepN p l k)),(6,vi k)],[(1000000,[.arr jK 5 fun j=>jbD (rowQ14 p l k j)])]⟩
theorem f14 (g:FuncId) (c:DV) (p:Jb→Bool) (l:List Jb) (hl:l.length≤1000000) (h:∀i,i<l.length→FnOK Tryz.prog G g [jbF l i,c] (db (p (l.getD i jb0)))) :
  FnM Tryz.prog G 14 [.vec 1000000 5 0 l.length,.d (.clo (.func g) [] [c])] [(1000000,[.arr jK 5 (jbF l)])] (.vec 1000000 5 0 (l.filter fun x=>!p x).length) [(1000000,[.arr jK 5 (jbF (l.filter fun x=>!p x))])]:=by
 have hI:=f37 g c p l hl h
 have hIa:FnOK Tryz.prog G 37 [.slc 5 l.length (fun i=>jbF l (0+i)),.clo (.func g) [] [c]] (di (idxI p l)):=hI.args fun k us hu=>DV.rels_cons (fun v hv=>DV.rel_slc_congr (fun i hi=>by rw[Nat.zero_add]) hv) (fun _ h=>h) us hu
 refine FnM.of_body (mv:=[]) (by kernel_rfl) Tryz.func14 rfl Tryz.call14 ?_
 refine walkK (orc:=orcV (idxI p l)) (keep:=[]) (cuts:=[]) (n:=1000) follows ?_
 refine of_tr (fun ZT ZW ZQ ZK=>(ZK 37 [(.slc 5 l.length (fun i=>jbF l (0+i))),(.clo (.func g) [] [c])] (di (idxI p l))∧(((idxI p l==-1)=true)→(((.vec 1000000 5 0 l.length):AV)=(.vec 1000000 5 0 (List.filter (fun x=>!p x) l).length)∧((some [(.arr ⟨true,35,false,none⟩ 5 (jbF l))]):(Option (List AV)))=(some [(.arr ⟨true,35,false,none⟩ 5 (jbF (List.filter (fun x=>!p x) l)))])∧True))∧(((idxI p l==-1)=false)→((I64 (idxI p l+1))∧ZW [cd Tryz.f14 [1,1,1,0,1,0],(.blk 0),cd Tryz.f14 [1,1,1,1]] (stS ZT [1]) ZQ)))) (by kernel_rfl) ?_
 obtain ⟨b1,b2⟩:=@idxI_lt _ p l
 refine⟨hIa,fun h1=>?_,fun h1=>⟨⟨by omega,by omega⟩,?_⟩⟩
 ·have e:=filt_none (eq_of_beq h1)
  rw[e]
  exact⟨rfl,rfl,trivial⟩
 ·obtain ⟨i,hi,ei,e1,e2⟩:=idx_some (x0:=jb0) (p:=p) (l:=l) (fun hh=>by rw[hh] at h1;exact absurd h1 (by decide))
  have kn:∀k,i<k→k≤l.length→keepN p l k<k:=fun k h1 h2=>keep_lt h1 h2 hi e2
  refine AWP.loop (c:=cAt (bodyOf Tryz.f14) [1,1,1,0,1,0,0]) (by kernel_rfl) (S14 g c p l) (fun k=>i<k∧k≤l.length) (fun k=>l.length-k) (i+1) ?_ ⟨by omega,by omega⟩ ?_
  ·have e0:((l.take (i+1)).filter fun x=>!p x)=l.take i:=by rw[((keep_more (x0:=jb0) hi).1 e2).1,keep_front (x0:=jb0) (by omega) e1]
   have e3:keepN p l (i+1)=i:=by unfold keepN;rw[e0,List.length_take];omega
   refine AS.leZ [2,3] [0] (b:=((T0∧T0∧((vi (idxI p l)):AV)=(vi (↑(keepN p l (i+1))))∧((vi (idxI p l+1)):AV)=(vi (↑(i+1)))∧True)∧((some [(.arr ⟨true,35,false,none⟩ 5 (jbF l))]):(Option (List AV)))=(some [(.arr ⟨true,35,false,none⟩ 5 (fun j=>jbD (rowQ14 p l (i+1) j)))])∧True)) (by kernel_rfl) (by kernel_rfl) ?_
   rw[e3,ei]
   refine⟨⟨rfl,rfl,rfl,rfl,trivial⟩,congrArg (fun f=>some [AV.arr jK 5 f]) (funext fun j=>?_),trivial⟩
   unfold rowQ14 jbF
   rw[e3,e0]
   split
   ·rename_i hj
    rw[gD_take hj]
   ·rfl
  ·rintro k ⟨hik,hk⟩
   have hkn:=kn k hik hk
   by_cases hk2:k<l.length
   ·refine walkK (orc:=orcB (p (l.getD k jb0))) (keep:=[]) (cuts:=[11]) (n:=1000) follows ?_
    refine of_rd (fun ZT ZW ZQ ZK ZA _=>(fun Za=>((((decide ((↑k:Int)<↑l.length))=true)→(((0≤(↑k:Int))∧((↑k:Int)<↑l.length))∧ZK g [(.agg [(ds Za.st),(ds Za.ex),(di Za.no),(di Za.ve),(di Za.pr)]),c] (db (p (l.getD k jb0)))∧(((!p (l.getD k jb0))=true)→(((0≤(↑(keepN p l k):Int))∧((↑(keepN p l k):Int)<↑l.length))∧(I64 (↑(keepN p l k)+1))∧(I64 (↑k+1))∧(ZA (stS ZT [0,0]))))∧(((!p (l.getD k jb0))=false)→((I64 (↑k+1))∧(ZA (stS ZT [0,1]))))))∧(((decide ((↑k:Int)<↑l.length))=false)→ZW [cd Tryz.f14 [1,1,1,1]] (stS ZT [1]) ZQ))) (rowQ14 p l k (0+(↑k:Int).toNat))) (by kernel_rfl) ?_
    dsimp only
    have eQ:rowQ14 p l k k=l.getD k jb0:=by unfold rowQ14;rw[if_neg (by omega)]
    obtain ⟨m1,m2⟩:=keep_more (x0:=jb0) (p:=p) hk2
    simp only[Int.toNat_natCast,Nat.zero_add,eQ]
    refine⟨fun _=>⟨⟨by omega,by omega⟩,h k hk2,fun h2=>⟨⟨by omega,by omega⟩,⟨by omega,by omega⟩,⟨by omega,by omega⟩,Again.mk (k+1) ?_ ⟨by omega,by omega⟩ (by omega)⟩,fun h2=>⟨⟨by omega,by omega⟩,Again.mk (k+1) ?_ ⟨by omega,by omega⟩ (by omega)⟩⟩,fun h=>absurd (of_decide_eq_false h) (by omega)⟩
    ·obtain ⟨a1,a2⟩:=m2 (by simpa using h2)
     refine AS.leZ [2] [0] (b:=((T0∧T0∧((vi (↑(keepN p l k)+1)):AV)=(vi (↑(keepN p l (k+1))))∧T0∧True)∧((some [(.arr ⟨true,35,false,none⟩ 5 (fun j=>bif j.beq (0+((↑(keepN p l k):Int)).toNat) then DV.agg [DV.con (Value.string (rowQ14 p l k (0+(↑k:Int).toNat)).st),DV.con (Value.string (rowQ14 p l k (0+(↑k:Int).toNat)).ex),DV.con (Value.int IntKind.i64 (rowQ14 p l k (0+(↑k:Int).toNat)).no),DV.con (Value.int IntKind.i64 (rowQ14 p l k (0+(↑k:Int).toNat)).ve),DV.con (Value.int IntKind.i64 (rowQ14 p l k (0+(↑k:Int).toNat)).pr)] else jbD (rowQ14 p l k j)))]):(Option (List AV)))=(some [(.arr ⟨true,35,false,none⟩ 5 (fun j=>jbD (rowQ14 p l (k+1) j)))])∧True)) (by kernel_rfl) (by kernel_rfl) ?_
     refine⟨⟨rfl,rfl,?_,rfl,trivial⟩,congrArg (fun f=>some [AV.arr jK 5 f]) (funext fun j=>?_),trivial⟩
     ·rw[a2];rfl
     ·simp only[Int.toNat_natCast,Nat.zero_add,eQ]
      unfold rowQ14
      rw[a1,a2,gD_app]
      have hm:((l.take k).filter fun x=>!p x).length=keepN p l k:=rfl
      by_cases hj:j=keepN p l k
      ·subst hj
       rw[Nat.beq_refl]
       refine congrArg jbD (a₁:=l.getD k jb0) ?_
       simp only[hm]
       rw[if_pos (by omega),if_neg (Nat.lt_irrefl _)]
       exact(if_pos trivial).symm
      ·rw[show Nat.beq j (keepN p l k)=false from by rw[Bool.eq_false_iff,ne_eq,Nat.beq_eq];exact hj]
       refine congrArg jbD (a₁:=if j<keepN p l k then ((l.take k).filter fun x=>!p x).getD j jb0 else l.getD j jb0) ?_
       simp only[hm]
       by_cases hj2:j<keepN p l k
       ·rw[if_pos hj2,if_pos (by omega),if_pos hj2]
       ·rw[if_neg hj2,if_neg (by omega)]
    ·obtain ⟨a1,a2⟩:=m1 (by simpa using h2)
     refine AS.leZ [2] [0] (b:=((T0∧T0∧((vi (↑(keepN p l k))):AV)=(vi (↑(keepN p l (k+1))))∧T0∧True)∧((some [(.arr ⟨true,35,false,none⟩ 5 (fun j=>jbD (rowQ14 p l k j)))]):(Option (List AV)))=(some [(.arr ⟨true,35,false,none⟩ 5 (fun j=>jbD (rowQ14 p l (k+1) j)))])∧True)) (by kernel_rfl) (by kernel_rfl) ?_
     refine⟨⟨rfl,rfl,?_,rfl,trivial⟩,congrArg (fun f=>some [AV.arr jK 5 f]) (funext fun j=>?_),trivial⟩
     ·rw[a2]
     ·unfold rowQ14
      rw[a1,a2]
   ·obtain rfl:k=l.length:=by omega
    refine walkK (orc:=noO) (keep:=[]) (cuts:=[7]) (n:=1000) follows ?_
    refine of_rd (fun ZT ZW ZQ _ _ ZR=>((((decide ((↑l.length:Int)<↑l.length))=true)→ZW [cd Tryz.f14 [1,1,1,0,1,0,0,1,0,0],(.blk 1),cd Tryz.f14 [1,1,1,0,1,0,0,1,1]] (stS ZT [0]) ZR)∧(((decide ((↑l.length:Int)<↑l.length))=false)→ZW [cd Tryz.f14 [1,1,1,1]] (stS ZT [1]) ZQ))) (by kernel_rfl) ?_
    refine⟨fun h=>absurd (of_decide_eq_true h) (by omega),fun _=>?_⟩
    have ef:((l.take l.length).filter fun x=>!p x)=(l.filter fun x=>!p x):=by rw[List.take_length]
    have el:keepN p l l.length=(l.filter fun x=>!p x).length:=by unfold keepN;rw[ef]
    rw[←el]
    refine walkK (orc:=noO) (keep:=[]) (cuts:=[]) (n:=1000) follows ?_
    refine of_tr (fun _ _ _ _=>((((0≤(↑(keepN p l l.length):Int))∧((↑(keepN p l l.length):Int)≤↑l.length)∧((↑l.length:Int)≤↑l.length))∧(0<((↑l.length:Int) - ↑(keepN p l l.length)).toNat))∧(((0:Int)≤(0:Int))∧(0≤(↑(keepN p l l.length):Int))∧((↑(keepN p l l.length):Int)≤↑l.length))∧(ZS ((.vec 1000000 5 0 (keepN p l l.length)):AV))∧((some [(.arr ⟨true,35,false,none⟩ 5 (fun i=>bif i.blt (0+((↑(keepN p l l.length):Int)).toNat) then jbD (rowQ14 p l l.length i) else bif i.blt (0+((↑(keepN p l l.length):Int)).toNat+((↑l.length:Int) - ↑(keepN p l l.length)).toNat) then DV.agg (List.map DV.con [Value.string (ByteArray.mk #[]),Value.string (ByteArray.mk #[]),Value.int IntKind.i64 0,Value.int IntKind.i64 0,Value.int IntKind.i64 0]) else jbD (rowQ14 p l l.length i)))]):(Option (List AV)))=(some [(.arr ⟨true,35,false,none⟩ 5 (jbF (List.filter (fun x=>!p x) l)))])∧True)) (by kernel_rfl) ?_
    refine⟨⟨⟨by omega,by omega,by omega⟩,by omega⟩,⟨by omega,by omega,by omega⟩,rfl,congrArg (fun f=>some [AV.arr jK 5 f]) (funext fun j=>?_),trivial⟩
    simp only[Int.toNat_natCast,Nat.zero_add]
    rw[show keepN p l l.length+((l.length:Int)-keepN p l l.length).toNat=l.length by omega]
    by_cases h1:j<keepN p l l.length
    ·rw[show Nat.blt j (keepN p l l.length)=true from by rw[Nat.blt_eq];exact h1]
     refine congrArg jbD (a₁:=rowQ14 p l l.length j) ?_
     unfold rowQ14
     rw[if_pos h1,ef]
    ·rw[show Nat.blt j (keepN p l l.length)=false from by rw[Bool.eq_false_iff,ne_eq,Nat.blt_eq];exact h1]
     by_cases h2:j<l.length
     ·rw[show Nat.blt j l.length=true from by rw[Nat.blt_eq];exact h2]
      refine congrArg jbD (a₁:=jb0) ?_
      rw[gD_out (by omega)]
     ·rw[show Nat.blt j l.length=false from by rw[Bool.eq_false_iff,ne_eq,Nat.blt_eq];exact h2]
      refine congrArg jbD (a₁:=rowQ14 p l l.length j) ?_
      unfold rowQ14
      rw[if_neg h1,gD_out (by omega),gD_out (by omega)]
def rowQ14b (p:Jb→Bool) (l:List Jb) (k j:Nat):Jb:=if j<keepN p l k then ((l.take k).filter fun x=>!p x).getD j jb0 else l.getD j jb0
noncomputable def S14b (g:FuncId) (c d:DV) (p:Jb→Bool) (l:List Jb) (k:Nat):AS:=⟨regs Tryz.f14.ntmps [(0,.vec 1000000 5 0 l.length),(1,.d (.clo (.func g) [] [c,d])),(5,vi (keepN p l k)),(6,vi k)],[(1000000,[.arr jK 5 fun j=>jbD (rowQ14b p l k j)])]⟩
theorem f14b (g:FuncId) (c d:DV) (p:Jb→Bool) (l:List Jb) (hl:l.length≤1000000) (h:∀i,i<l.length→FnOK Tryz.prog G g [jbF l i,c,d] (db (p (l.getD i jb0)))) :
  FnM Tryz.prog G 14 [.vec 1000000 5 0 l.length,.d (.clo (.func g) [] [c,d])] [(1000000,[.arr jK 5 (jbF l)])] (.vec 1000000 5 0 (l.filter fun x=>!p x).length) [(1000000,[.arr jK 5 (jbF (l.filter fun x=>!p x))])]:=by
 have hI:=f37b g c d p l hl h
 have hIa:FnOK Tryz.prog G 37 [.slc 5 l.length (fun i=>jbF l (0+i)),.clo (.func g) [] [c,d]] (di (idxI p l)):=hI.args fun k us hu=>DV.rels_cons (fun v hv=>DV.rel_slc_congr (fun i hi=>by rw[Nat.zero_add]) hv) (fun _ h=>h) us hu
 refine FnM.of_body (mv:=[]) (by kernel_rfl) Tryz.func14 rfl Tryz.call14 ?_
 refine walkK (orc:=orcV (idxI p l)) (keep:=[]) (cuts:=[]) (n:=1000) follows ?_
 refine of_tr (fun ZT ZW ZQ ZK=>(ZK 37 [(.slc 5 l.length (fun i=>jbF l (0+i))),(.clo (.func g) [] [c,d])] (di (idxI p l))∧(((idxI p l==-1)=true)→(((.vec 1000000 5 0 l.length):AV)=(.vec 1000000 5 0 (List.filter (fun x=>!p x) l).length)∧((some [(.arr ⟨true,35,false,none⟩ 5 (jbF l))]):(Option (List AV)))=(some [(.arr ⟨true,35,false,none⟩ 5 (jbF (List.filter (fun x=>!p x) l)))])∧True))∧(((idxI p l==-1)=false)→((I64 (idxI p l+1))∧ZW [cd Tryz.f14 [1,1,1,0,1,0],(.blk 0),cd Tryz.f14 [1,1,1,1]] (stS ZT [1]) ZQ)))) (by kernel_rfl) ?_
 obtain ⟨b1,b2⟩:=@idxI_lt _ p l
 refine⟨hIa,fun h1=>?_,fun h1=>⟨⟨by omega,by omega⟩,?_⟩⟩
 ·have e:=filt_none (eq_of_beq h1)
  rw[e]
  exact⟨rfl,rfl,trivial⟩
 ·obtain ⟨i,hi,ei,e1,e2⟩:=idx_some (x0:=jb0) (p:=p) (l:=l) (fun hh=>by rw[hh] at h1;exact absurd h1 (by decide))
  have kn:∀k,i<k→k≤l.length→keepN p l k<k:=fun k h1 h2=>keep_lt h1 h2 hi e2
  refine AWP.loop (c:=cAt (bodyOf Tryz.f14) [1,1,1,0,1,0,0]) (by kernel_rfl) (S14b g c d p l) (fun k=>i<k∧k≤l.length) (fun k=>l.length-k) (i+1) ?_ ⟨by omega,by omega⟩ ?_
  ·have e0:((l.take (i+1)).filter fun x=>!p x)=l.take i:=by rw[((keep_more (x0:=jb0) hi).1 e2).1,keep_front (x0:=jb0) (by omega) e1]
   have e3:keepN p l (i+1)=i:=by unfold keepN;rw[e0,List.length_take];omega
   refine AS.leZ [2,3] [0] (b:=((T0∧T0∧((vi (idxI p l)):AV)=(vi (↑(keepN p l (i+1))))∧((vi (idxI p l+1)):AV)=(vi (↑(i+1)))∧True)∧((some [(.arr ⟨true,35,false,none⟩ 5 (jbF l))]):(Option (List AV)))=(some [(.arr ⟨true,35,false,none⟩ 5 (fun j=>jbD (rowQ14b p l (i+1) j)))])∧True)) (by kernel_rfl) (by kernel_rfl) ?_
   rw[e3,ei]
   refine⟨⟨rfl,rfl,rfl,rfl,trivial⟩,congrArg (fun f=>some [AV.arr jK 5 f]) (funext fun j=>?_),trivial⟩
   unfold rowQ14b jbF
   rw[e3,e0]
   split
   ·rename_i hj
    rw[gD_take hj]
   ·rfl
  ·rintro k ⟨hik,hk⟩
   have hkn:=kn k hik hk
   by_cases hk2:k<l.length
   ·refine walkK (orc:=orcB (p (l.getD k jb0))) (keep:=[]) (cuts:=[11]) (n:=1000) follows ?_
    refine of_rd (fun ZT ZW ZQ ZK ZA _=>(fun Za=>((((decide ((↑k:Int)<↑l.length))=true)→(((0≤(↑k:Int))∧((↑k:Int)<↑l.length))∧ZK g [(.agg [(ds Za.st),(ds Za.ex),(di Za.no),(di Za.ve),(di Za.pr)]),c,d] (db (p (l.getD k jb0)))∧(((!p (l.getD k jb0))=true)→(((0≤(↑(keepN p l k):Int))∧((↑(keepN p l k):Int)<↑l.length))∧(I64 (↑(keepN p l k)+1))∧(I64 (↑k+1))∧(ZA (stS ZT [0,0]))))∧(((!p (l.getD k jb0))=false)→((I64 (↑k+1))∧(ZA (stS ZT [0,1]))))))∧(((decide ((↑k:Int)<↑l.length))=false)→ZW [cd Tryz.f14 [1,1,1,1]] (stS ZT [1]) ZQ))) (rowQ14b p l k (0+(↑k:Int).toNat))) (by kernel_rfl) ?_
    dsimp only
    have eQ:rowQ14b p l k k=l.getD k jb0:=by unfold rowQ14b;rw[if_neg (by omega)]
    obtain ⟨m1,m2⟩:=keep_more (x0:=jb0) (p:=p) hk2
    simp only[Int.toNat_natCast,Nat.zero_add,eQ]
    refine⟨fun _=>⟨⟨by omega,by omega⟩,h k hk2,fun h2=>⟨⟨by omega,by omega⟩,⟨by omega,by omega⟩,⟨by omega,by omega⟩,Again.mk (k+1) ?_ ⟨by omega,by omega⟩ (by omega)⟩,fun h2=>⟨⟨by omega,by omega⟩,Again.mk (k+1) ?_ ⟨by omega,by omega⟩ (by omega)⟩⟩,fun h=>absurd (of_decide_eq_false h) (by omega)⟩
    ·obtain ⟨a1,a2⟩:=m2 (by simpa using h2)
     refine AS.leZ [2] [0] (b:=((T0∧T0∧((vi (↑(keepN p l k)+1)):AV)=(vi (↑(keepN p l (k+1))))∧T0∧True)∧((some [(.arr ⟨true,35,false,none⟩ 5 (fun j=>bif j.beq (0+((↑(keepN p l k):Int)).toNat) then DV.agg [DV.con (Value.string (rowQ14b p l k (0+(↑k:Int).toNat)).st),DV.con (Value.string (rowQ14b p l k (0+(↑k:Int).toNat)).ex),DV.con (Value.int IntKind.i64 (rowQ14b p l k (0+(↑k:Int).toNat)).no),DV.con (Value.int IntKind.i64 (rowQ14b p l k (0+(↑k:Int).toNat)).ve),DV.con (Value.int IntKind.i64 (rowQ14b p l k (0+(↑k:Int).toNat)).pr)] else jbD (rowQ14b p l k j)))]):(Option (List AV)))=(some [(.arr ⟨true,35,false,none⟩ 5 (fun j=>jbD (rowQ14b p l (k+1) j)))])∧True)) (by kernel_rfl) (by kernel_rfl) ?_
     refine⟨⟨rfl,rfl,?_,rfl,trivial⟩,congrArg (fun f=>some [AV.arr jK 5 f]) (funext fun j=>?_),trivial⟩
     ·rw[a2];rfl
     ·simp only[Int.toNat_natCast,Nat.zero_add,eQ]
      unfold rowQ14b
      rw[a1,a2,gD_app]
      have hm:((l.take k).filter fun x=>!p x).length=keepN p l k:=rfl
      by_cases hj:j=keepN p l k
      ·subst hj
       rw[Nat.beq_refl]
       refine congrArg jbD (a₁:=l.getD k jb0) ?_
       simp only[hm]
       rw[if_pos (by omega),if_neg (Nat.lt_irrefl _)]
       exact(if_pos trivial).symm
      ·rw[show Nat.beq j (keepN p l k)=false from by rw[Bool.eq_false_iff,ne_eq,Nat.beq_eq];exact hj]
       refine congrArg jbD (a₁:=if j<keepN p l k then ((l.take k).filter fun x=>!p x).getD j jb0 else l.getD j jb0) ?_
       simp only[hm]
       by_cases hj2:j<keepN p l k
       ·rw[if_pos hj2,if_pos (by omega),if_pos hj2]
       ·rw[if_neg hj2,if_neg (by omega)]
    ·obtain ⟨a1,a2⟩:=m1 (by simpa using h2)
     refine AS.leZ [2] [0] (b:=((T0∧T0∧((vi (↑(keepN p l k))):AV)=(vi (↑(keepN p l (k+1))))∧T0∧True)∧((some [(.arr ⟨true,35,false,none⟩ 5 (fun j=>jbD (rowQ14b p l k j)))]):(Option (List AV)))=(some [(.arr ⟨true,35,false,none⟩ 5 (fun j=>jbD (rowQ14b p l (k+1) j)))])∧True)) (by kernel_rfl) (by kernel_rfl) ?_
     refine⟨⟨rfl,rfl,?_,rfl,trivial⟩,congrArg (fun f=>some [AV.arr jK 5 f]) (funext fun j=>?_),trivial⟩
     ·rw[a2]
     ·unfold rowQ14b
      rw[a1,a2]
   ·obtain rfl:k=l.length:=by omega
    refine walkK (orc:=noO) (keep:=[]) (cuts:=[7]) (n:=1000) follows ?_
    refine of_rd (fun ZT ZW ZQ _ _ ZR=>((((decide ((↑l.length:Int)<↑l.length))=true)→ZW [cd Tryz.f14 [1,1,1,0,1,0,0,1,0,0],(.blk 1),cd Tryz.f14 [1,1,1,0,1,0,0,1,1]] (stS ZT [0]) ZR)∧(((decide ((↑l.length:Int)<↑l.length))=false)→ZW [cd Tryz.f14 [1,1,1,1]] (stS ZT [1]) ZQ))) (by kernel_rfl) ?_
    refine⟨fun h=>absurd (of_decide_eq_true h) (by omega),fun _=>?_⟩
    have ef:((l.take l.length).filter fun x=>!p x)=(l.filter fun x=>!p x):=by rw[List.take_length]
    have el:keepN p l l.length=(l.filter fun x=>!p x).length:=by unfold keepN;rw[ef]
    rw[←el]
    refine walkK (orc:=noO) (keep:=[]) (cuts:=[]) (n:=1000) follows ?_
    refine of_tr (fun _ _ _ _=>((((0≤(↑(keepN p l l.length):Int))∧((↑(keepN p l l.length):Int)≤↑l.length)∧((↑l.length:Int)≤↑l.length))∧(0<((↑l.length:Int) - ↑(keepN p l l.length)).toNat))∧(((0:Int)≤(0:Int))∧(0≤(↑(keepN p l l.length):Int))∧((↑(keepN p l l.length):Int)≤↑l.length))∧(ZS ((.vec 1000000 5 0 (keepN p l l.length)):AV))∧((some [(.arr ⟨true,35,false,none⟩ 5 (fun i=>bif i.blt (0+((↑(keepN p l l.length):Int)).toNat) then jbD (rowQ14b p l l.length i) else bif i.blt (0+((↑(keepN p l l.length):Int)).toNat+((↑l.length:Int) - ↑(keepN p l l.length)).toNat) then DV.agg (List.map DV.con [Value.string (ByteArray.mk #[]),Value.string (ByteArray.mk #[]),Value.int IntKind.i64 0,Value.int IntKind.i64 0,Value.int IntKind.i64 0]) else jbD (rowQ14b p l l.length i)))]):(Option (List AV)))=(some [(.arr ⟨true,35,false,none⟩ 5 (jbF (List.filter (fun x=>!p x) l)))])∧True)) (by kernel_rfl) ?_
    refine⟨⟨⟨by omega,by omega,by omega⟩,by omega⟩,⟨by omega,by omega,by omega⟩,rfl,congrArg (fun f=>some [AV.arr jK 5 f]) (funext fun j=>?_),trivial⟩
    simp only[Int.toNat_natCast,Nat.zero_add]
    rw[show keepN p l l.length+((l.length:Int)-keepN p l l.length).toNat=l.length by omega]
    by_cases h1:j<keepN p l l.length
    ·rw[show Nat.blt j (keepN p l l.length)=true from by rw[Nat.blt_eq];exact h1]
     refine congrArg jbD (a₁:=rowQ14b p l l.length j) ?_
     unfold rowQ14b
     rw[if_pos h1,ef]
    ·rw[show Nat.blt j (keepN p l l.length)=false from by rw[Bool.eq_false_iff,ne_eq,Nat.blt_eq];exact h1]
     by_cases h2:j<l.length
     ·rw[show Nat.blt j l.length=true from by rw[Nat.blt_eq];exact h2]
      refine congrArg jbD (a₁:=jb0) ?_
      rw[gD_out (by omega)]
     ·rw[show Nat.blt j l.length=false from by rw[Bool.eq_false_iff,ne_eq,Nat.blt_eq];exact h2]
      refine congrArg jbD (a₁:=rowQ14b p l l.length j) ?_
      unfold rowQ14b
      rw[if_neg h1,gD_out (by omega),gD_out (by omega)]
/-! slices.Insert of one element. -/
def oneF (w:Wt):Nat→DV:=elemF true 8 (wtL w)
def insW (W:List Wt) (i:Nat) (w:Wt):List Wt:=W.take i++w :: W.drop i
theorem insW_len {W:List Wt} {i:Nat} {w:Wt} (h:i≤W.length):(insW W i w).length=W.length+1:=by unfold insW;simp;omega
theorem insW_get {W:List Wt} {i j:Nat} {w:Wt} (h:i≤W.length):(insW W i w).getD j wt0=if j<i then W.getD j wt0 else if j=i then w else W.getD (j-1) wt0:=by
 unfold insW
 have hl:(W.take i).length=i:=by simp;omega
 rw[List.getD]
 by_cases h1:j<i
 ·rw[if_pos h1,List.getElem?_append_left (by omega),List.getElem?_take,if_pos h1];rfl
 ·rw[if_neg h1,List.getElem?_append_right (by omega),hl]
  by_cases h2:j=i
  ·rw[if_pos h2,h2,Nat.sub_self];rfl
  ·rw[if_neg h2,show j-i=(j-i-1)+1 by omega,List.getElem?_cons_succ,List.getElem?_drop,show i+(j-i-1)=j-1 by omega];rfl
noncomputable def orcIn:Orc:={ d:=noO,ov:=fun g=>Nat.beq g 74 }
theorem over74:OverP Tryz.prog 74 46:=⟨⟨Tryz.f74,4,39,8,Tryz.func74,by kernel_rfl,by kernel_rfl,by kernel_rfl,by kernel_rfl,by kernel_rfl,by kernel_rfl⟩⟩
theorem FnM.res {f:FuncId} {args:List AV} {pre post post':List (Nat×List AV)} {r r':AV} (hle:AS.leX ⟨[r],post⟩ ⟨[r'],post'⟩) (h:FnM Tryz.prog G f args pre r post):FnM Tryz.prog G f args pre r' post':=
 ⟨h.1,fun F w h0 β us g=>(h.2 F w h0 β us g).mono fun e w' ⟨v,β',h',e1,g1⟩=>
  let ⟨β2,g2⟩:=hle G F w h0 β' h' #[v] w' g1
  ⟨v,β2,h',e1,g2⟩⟩
noncomputable def S68 (s t m:Nat) (w:Wt) (mn:Option Nat) (f:Nat→DV):AS:=⟨regs Tryz.f68.ntmps [(t,.vec s 8 0 m)],[(1000000,[.dead]),(1000001,[.arr wK 8 (oneF w)]),(s,[.arr ⟨true,39,false,mn⟩ 8 f])]⟩
abbrev pre68 (W:List Wt) (w:Wt):List (Nat×List AV):=[(1000000,[.arr wK 8 (wtF W)]),(1000001,[.arr wK 8 (oneF w)])]
abbrev post68 (W:List Wt) (w:Wt) (i:Nat):List (Nat×List AV):=[(1000000,[.dead]),(1000001,[.arr wK 8 (oneF w)]),(900,[.arr wK 8 (wtF (insW W i w))])]
theorem f68_end (W:List Wt) (w:Wt) (hl:W.length≤1000000):FnM Tryz.prog G 68 [.vec 1000000 8 0 W.length,vi W.length,.vec 1000001 8 0 1] (pre68 W w) (.vec 900 8 0 (W.length+1)) (post68 W w W.length):=by
 refine FnM.res (post:=[(1000000,[.dead]),(1000001,[.arr wK 8 (oneF w)]),(900,[.arr wK 8 fun i=>bif Nat.blt i W.length then wtF W i else oneF w (0+(i-W.length))])]) ((AS.leX.rowL _ 0 900 (W.length+1) (agg:=wK) (sz:=8) (f:=fun i=>bif Nat.blt i W.length then wtF W i else oneF w (0+(i-W.length))) (wtF (insW W W.length w)) rfl rfl rfl fun j hj=>?_).trans (.of_le ?_)) ?_
 ·unfold wtF
  rw[insW_get (Nat.le_refl _)]
  by_cases h:j<W.length
  ·rw[show Nat.blt j W.length=true from by rw[Nat.blt_eq];exact h,if_pos h];rfl
  ·obtain rfl:j=W.length:=by omega
   rw[show Nat.blt W.length W.length=false from by rw[Bool.eq_false_iff,ne_eq,Nat.blt_eq];omega,if_neg h,if_pos rfl,Nat.sub_self];rfl
 ·exact⟨⟨rfl,trivial⟩,rfl,rfl,rfl,trivial⟩
 refine FnM.of_body (mv:=[(25,900)]) (by kernel_rfl) Tryz.func68 rfl Tryz.call68 ?_
 refine walkK (orc:=orcIn) (keep:=[]) (cuts:=[4,8]) (n:=1000) follows ?_
 refine of_tr (fun ZT ZW ZQ _=>(fun Za=>(((0≤(↑W.length:Int))∧((↑W.length:Int)≤↑W.length)∧((↑W.length:Int)≤↑W.length))∧((false=true)→ZW [cd Tryz.f68 [1,1,1,0,1,0],cd Tryz.f68 [1,1,1,1]] (stS ZT [0]) ZQ)∧((false=false)→(((((↑W.length:Int)==↑W.length)=true)→((((W.length+1)*80≤1099511627776)∧(W.length+1≤1099511627776))∧(ZS ((.vec 900 8 0 (W.length+1)):AV))∧((some [.dead]):(Option (List AV)))=(some [.dead])∧((some [(.arr ⟨true,39,false,none⟩ 8 (oneF w))]):(Option (List AV)))=(some [(.arr ⟨true,39,false,none⟩ 8 (oneF w))])∧(Za:(Option (List AV)))=Za∧True))∧((((↑W.length:Int)==↑W.length)=false)→ZW [cd Tryz.f68 [1,1,1,1,1,1,0],cd Tryz.f68 [1,1,1,1,1,1,1]] (stS ZT [1,1]) ZQ))))) (some [(.arr ⟨true,39,false,none⟩ 8 (fun i=>bif i.blt W.length then wtF W i else oneF w (0+(i-W.length))))])) (by kernel_rfl) ?_
 exact⟨⟨by omega,by omega,by omega⟩,fun h=>Bool.noConfusion h,fun _=>⟨fun _=>⟨⟨by omega,by omega⟩,rfl,rfl,rfl,rfl,trivial⟩,fun h=>absurd (beq_self_eq_true (W.length:Int)) (by rw[h];decide)⟩⟩
def insR (W:List Wt) (w:Wt) (i:Nat) (a:DV) (j:Nat):DV:=if j<i then wtF W j else if j=i then oneF w 0 else if j<W.length+1 then wtF W (j-1) else a
theorem insR_get {W:List Wt} {w:Wt} {i j:Nat} {a:DV} (hi:i<W.length) (hj:j<W.length+1):insR W w i a j=wtF (insW W i w) j:=by
 unfold insR wtF
 rw[insW_get (by omega)]
 by_cases h1:j<i
 ·rw[if_pos h1,if_pos h1]
 ·rw[if_neg h1,if_neg h1]
  by_cases h2:j=i
  ·rw[if_pos h2,if_pos h2];rfl
  ·rw[if_neg h2,if_neg h2,if_pos hj]
theorem f68_mid (W:List Wt) (w:Wt) (i:Nat) (hi:i<W.length) (hl:W.length≤1000000):FnM Tryz.prog G 68 [.vec 1000000 8 0 W.length,vi i,.vec 1000001 8 0 1] (pre68 W w) (.vec 900 8 0 (W.length+1)) (post68 W w i):=by
 refine FnM.of_body (mv:=[(40,900)]) (by kernel_rfl) Tryz.func68 rfl Tryz.call68 ?_
 refine AWP.full _ 0 1000000 800 W.length (agg:=wK) (sz:=8) (f:=wtF W) (by kernel_rfl) (by kernel_rfl) rfl (by kernel_rfl) (by kernel_rfl) fun c hc=>?_
 by_cases hr:W.length+1≤c
 ·refine walkK (orc:=orcIn) (keep:=[]) (cuts:=[4,7,9,17,18]) (n:=1000) follows ?_
  refine of_tr (fun ZT ZW ZQ _=>(fun Za=>(((0≤(↑i:Int))∧((↑i:Int)≤↑W.length)∧((↑0:Int) + ↑W.length≤↑c))∧((false=true)→ZW [cd Tryz.f68 [1,1,1,0,1,0],cd Tryz.f68 [1,1,1,1]] (stS ZT [0]) ZQ)∧((false=false)→(((((↑i:Int)==↑W.length)=true)→ZW [cd Tryz.f68 [1,1,1,1,1,0,1,0],cd Tryz.f68 [1,1,1,1,1,1]] (stS ZT [1,0]) ZQ)∧((((↑i:Int)==↑W.length)=false)→((I64 (↑W.length+1))∧(((decide ((↑W.length:Int)+1>↑(c-0)))=true)→ZW [cd Tryz.f68 [1,1,1,1,1,1,0,1,0],cd Tryz.f68 [1,1,1,1,1,1,1]] (stS ZT [1,1,0]) ZQ)∧(((decide ((↑W.length:Int)+1>↑(c-0)))=false)→(((I64 (↑W.length+1))∧((0:Int)≤(0:Int))∧(0≤(↑W.length:Int)+1)∧((↑0:Int)+(↑W.length+1)≤↑c))∧((I64 (↑i+1))∧((0≤(↑i:Int)+1)∧((↑i:Int)+1≤Za)∧((↑0:Int)+Za≤(↑c:Int)))∧(OverP Tryz.prog 74 46)∧(0<1)∧(0<Int.toNat (Za-((↑i:Int)+1))))∧((true=true)→(((I64 (↑i+1))∧((0≤(↑i:Int)+1)∧((↑i:Int)+1≤Za)∧((↑0:Int)+Za≤(↑c:Int)))∧(0≤(↑i:Int))∧((↑i:Int)≤Za)∧((↑0:Int)+Za≤(↑c:Int)))∧((0≤(↑i:Int))∧((↑i:Int)≤Za)∧((↑0:Int)+Za≤(↑c:Int)))∧ZW [cd Tryz.f68 [1,1,1,1,1,1,1,1,0,1,0,1,1],cd Tryz.f68 [1,1,1,1,1,1,1,1,1]] (stS ZT [1,1,1,0]) ZQ))∧((true=false)→ZW [cd Tryz.f68 [1,1,1,1,1,1,1,1,1]] (stS ZT [1,1,1,1]) ZQ))))))))) (↑(Int.toNat ((↑(List.length W):Int)+1-0)):Int)) (by kernel_rfl) ?_
  refine⟨⟨by omega,by omega,by omega⟩,fun h=>Bool.noConfusion h,fun _=>⟨fun h=>absurd (eq_of_beq h) (by omega),fun _=>⟨⟨by omega,by omega⟩,fun h=>absurd (of_decide_eq_true h) (by omega),fun _=>⟨?_,?_,fun _=>⟨?_,?_,?_⟩,fun h=>Bool.noConfusion h⟩⟩⟩⟩
  ·exact⟨⟨by omega,by omega⟩,by omega,by omega,by omega⟩
  ·exact⟨⟨by omega,by omega⟩,⟨by omega,by omega,by omega⟩,over74,by decide,by omega⟩
  ·exact⟨⟨by omega,by omega⟩,⟨by omega,by omega,by omega⟩,by omega,by omega,by omega⟩
  ·exact⟨by omega,by omega,by omega⟩
  refine AWP.weaken (st':=S68 800 0 (W.length+1) w (some c) (insR W w i (anyD 8))) ?_ ?_
  ·refine AS.leZ [] [2] (b:=((T0∧True)∧T0∧T0∧((some [(.arr ⟨true,39,false,(some c)⟩ 8 (fun i_1=>bif Nat.blt i_1 (0+Int.toNat 0+Int.toNat (↑i:Int)) then bif Nat.blt i_1 (0+Int.toNat 0+Int.toNat ((↑i:Int)+(↑1:Int))) then bif Nat.blt i_1 (List.length W) then wtF W i_1 else DV.agg (List.replicate 8 (DV.prd fun x x_1=>True)) else bif Nat.blt i_1 (0+Int.toNat 0+Int.toNat ((↑i:Int)+(↑1:Int))+min (Int.toNat ((↑(Int.toNat ((↑(List.length W):Int)+(↑1:Int)-0)):Int)-(↑i:Int))) (Int.toNat ((↑(Int.toNat ((↑(List.length W):Int)+(↑1:Int)-0)):Int)-((↑i:Int)+(↑1:Int))))) then bif Nat.blt (0+Int.toNat 0+Int.toNat (↑i:Int)+(i_1-(0+Int.toNat 0+Int.toNat ((↑i:Int)+(↑1:Int))))) (List.length W) then wtF W (0+Int.toNat 0+Int.toNat (↑i:Int)+(i_1-(0+Int.toNat 0+Int.toNat ((↑i:Int)+(↑1:Int))))) else DV.agg (List.replicate 8 (DV.prd fun x x_1=>True)) else bif Nat.blt i_1 (List.length W) then wtF W i_1 else DV.agg (List.replicate 8 (DV.prd fun x x_1=>True)) else bif Nat.blt i_1 (0+Int.toNat 0+Int.toNat (↑i:Int)+min 1 (Int.toNat ((↑(Int.toNat ((↑(List.length W):Int)+(↑1:Int)-0)):Int)-(↑i:Int)))) then oneF w (0+(i_1-(0+Int.toNat 0+Int.toNat (↑i:Int)))) else bif Nat.blt i_1 (0+Int.toNat 0+Int.toNat ((↑i:Int)+(↑1:Int))) then bif Nat.blt i_1 (List.length W) then wtF W i_1 else DV.agg (List.replicate 8 (DV.prd fun x x_1=>True)) else bif Nat.blt i_1 (0+Int.toNat 0+Int.toNat ((↑i:Int)+(↑1:Int))+min (Int.toNat ((↑(Int.toNat ((↑(List.length W):Int)+(↑1:Int)-0)):Int)-(↑i:Int))) (Int.toNat ((↑(Int.toNat ((↑(List.length W):Int)+(↑1:Int)-0)):Int)-((↑i:Int)+(↑1:Int))))) then bif Nat.blt (0+Int.toNat 0+Int.toNat (↑i:Int)+(i_1-(0+Int.toNat 0+Int.toNat ((↑i:Int)+(↑1:Int))))) (List.length W) then wtF W (0+Int.toNat 0+Int.toNat (↑i:Int)+(i_1-(0+Int.toNat 0+Int.toNat ((↑i:Int)+(↑1:Int))))) else DV.agg (List.replicate 8 (DV.prd fun x x_1=>True)) else bif Nat.blt i_1 (List.length W) then wtF W i_1 else DV.agg (List.replicate 8 (DV.prd fun x x_1=>True))))]):(Option (List AV)))=(some [(.arr ⟨true,39,false,(some c)⟩ 8 (insR W w i (DV.agg (List.replicate 8 (DV.prd fun x x_1=>True)))))])∧True)) (by kernel_rfl) (by kernel_rfl) ?_
   refine⟨⟨rfl,trivial⟩,rfl,rfl,?_,trivial⟩
   ·refine congrArg (fun f=>some [AV.arr ⟨true,39,false,some c⟩ 8 f]) (funext fun j=>?_)
    unfold insR
    simp only[Bool.cond_eq_ite,Nat.blt_eq]
    have h4:j<i∨j=i∨(i<j∧j<W.length+1)∨W.length+1≤j:=by omega
    rcases h4 with h4|h4|h4|h4
    all_goals
     (repeat first|rw[if_pos (by omega)] | rw[if_neg (by omega)])<;>first|rfl|exact congrArg (oneF w) (by omega)|exact congrArg (wtF W) (by omega)
  refine AWP.pre ((AS.leX.rowL _ 0 800 (W.length+1) (agg:=⟨true,39,false,some c⟩) (sz:=8) (f:=insR W w i (anyD 8)) (wtF (insW W i w)) (by kernel_rfl) (by kernel_rfl) (by kernel_rfl) fun j hj=>insR_get hi hj).trans (.moves [(800,40)] _ rfl)) ?_
  refine walkK (orc:=noO) (keep:=[]) (cuts:=[]) (n:=1000) follows ?_
  refine of_tr (fun _ _ _ _=>((ZS ((.vec 900 8 0 (W.length+1)):AV))∧((some [.dead]):(Option (List AV)))=(some [.dead])∧((some [(.arr ⟨true,39,false,none⟩ 8 (oneF w))]):(Option (List AV)))=(some [(.arr ⟨true,39,false,none⟩ 8 (oneF w))])∧((some [(.arr ⟨true,39,false,none⟩ 8 (wtF (insW W i w)))]):(Option (List AV)))=(some [(.arr ⟨true,39,false,none⟩ 8 (wtF (insW W i w)))])∧True)) (by kernel_rfl) ?_
  exact⟨rfl,rfl,rfl,rfl,trivial⟩
 ·refine walkK (orc:=orcIn) (keep:=[]) (cuts:=[4,7,12,13]) (n:=1000) follows ?_
  refine of_tr (fun ZT ZW ZQ _=>(fun Za=>(((0≤(↑i:Int))∧((↑i:Int)≤↑W.length)∧((↑0:Int) + ↑W.length≤↑c))∧((false=true)→ZW [cd Tryz.f68 [1,1,1,0,1,0],cd Tryz.f68 [1,1,1,1]] (stS ZT [0]) ZQ)∧((false=false)→(((((↑i:Int)==↑W.length)=true)→ZW [cd Tryz.f68 [1,1,1,1,1,0,1,0],cd Tryz.f68 [1,1,1,1,1,1]] (stS ZT [1,0]) ZQ)∧((((↑i:Int)==↑W.length)=false)→((I64 (↑W.length+1))∧(((decide ((↑W.length:Int)+1>↑(c-0)))=true)→(((((0:Int)≤(0:Int))∧(0≤(↑i:Int))∧((↑0:Int) + ↑i≤↑c))∧(I64 (↑W.length+1))∧(I64 (↑W.length+1 - ↑i))∧(((((↑i:Int)-0).toNat+((↑W.length:Int)+1 - ↑i).toNat)*80≤1099511627776)∧(((↑i:Int)-0).toNat+((↑W.length:Int)+1 - ↑i).toNat≤1099511627776))∧(c<((↑i:Int)-0).toNat+((↑W.length:Int)+1 - ↑i).toNat)∧(0<(↑W.length:Int)+1 - ↑i))∧((0≤(↑i:Int))∧((↑i:Int)≤Za)∧(Za≤Za))∧((I64 (↑i+1))∧((0≤(↑i:Int)+1)∧((↑i:Int)+1≤Za)∧(Za≤Za))∧(0≤(↑i:Int))∧((↑i:Int)≤↑W.length)∧((↑0:Int) + ↑W.length≤↑c))∧ZW [cd Tryz.f68 [1,1,1,1,1,1,0,1,0,1,1,1],cd Tryz.f68 [1,1,1,1,1,1,1]] (stS ZT [1,1,0]) ZQ))∧(((decide ((↑W.length:Int)+1>↑(c-0)))=false)→ZW [cd Tryz.f68 [1,1,1,1,1,1,1]] (stS ZT [1,1,1]) ZQ))))))) (↑(Int.toNat ((↑i:Int)-0)+Int.toNat ((↑(List.length W):Int)+1-(↑i:Int))):Int)) (by kernel_rfl) ?_
  refine⟨⟨by omega,by omega,by omega⟩,fun h=>Bool.noConfusion h,fun _=>⟨fun h=>absurd (eq_of_beq h) (by omega),fun _=>⟨⟨by omega,by omega⟩,fun _=>⟨?_,?_,?_,?_⟩,fun h=>absurd (of_decide_eq_false h) (by omega)⟩⟩⟩
  ·exact⟨⟨by omega,by omega,by omega⟩,⟨by omega,by omega⟩,⟨by omega,by omega⟩,⟨by omega,by omega⟩,by omega,by omega⟩
  ·exact⟨by omega,by omega,by omega⟩
  ·exact⟨⟨by omega,by omega⟩,⟨by omega,by omega,by omega⟩,by omega,by omega,by omega⟩
  refine AWP.weaken (st':=S68 40 9 (W.length+1) w none (insR W w i (wtD wt0))) ?_ ?_
  ·refine AS.leZ [0] [2] (b:=((((.vec 40 8 0 (((↑i:Int)-0).toNat+((↑W.length:Int) + ↑1 - ↑i).toNat)):AV)=(.vec 40 8 0 (W.length+1))∧True)∧T0∧T0∧((some [(.arr ⟨true,39,false,none⟩ 8 (fun i_1=>bif Nat.blt i_1 (0+Int.toNat ((↑i:Int)+(↑1:Int))) then bif Nat.blt i_1 (0+Int.toNat (↑i:Int)) then bif Nat.blt i_1 (Int.toNat ((↑i:Int)-0)) then bif Nat.blt i_1 (List.length W) then wtF W i_1 else DV.agg (List.replicate 8 (DV.prd fun x x_1=>True)) else DV.agg (List.map DV.con [Value.string { data:=#[] },Value.string { data:=#[] },Value.int IntKind.i64 0,Value.int IntKind.i64 0,Value.int IntKind.i64 0,Value.int IntKind.i64 0,Value.int IntKind.i64 0,Value.int IntKind.i64 0]) else bif Nat.blt i_1 (0+Int.toNat (↑i:Int)+min 1 (Int.toNat ((↑(Int.toNat ((↑i:Int)-0)+Int.toNat ((↑(List.length W):Int)+(↑1:Int)-(↑i:Int))):Int)-(↑i:Int)))) then oneF w (0+(i_1-(0+Int.toNat (↑i:Int)))) else bif Nat.blt i_1 (Int.toNat ((↑i:Int)-0)) then bif Nat.blt i_1 (List.length W) then wtF W i_1 else DV.agg (List.replicate 8 (DV.prd fun x x_1=>True)) else DV.agg (List.map DV.con [Value.string { data:=#[] },Value.string { data:=#[] },Value.int IntKind.i64 0,Value.int IntKind.i64 0,Value.int IntKind.i64 0,Value.int IntKind.i64 0,Value.int IntKind.i64 0,Value.int IntKind.i64 0]) else bif Nat.blt i_1 (0+Int.toNat ((↑i:Int)+(↑1:Int))+min (Int.toNat ((↑(List.length W):Int)-(↑i:Int))) (Int.toNat ((↑(Int.toNat ((↑i:Int)-0)+Int.toNat ((↑(List.length W):Int)+(↑1:Int)-(↑i:Int))):Int)-((↑i:Int)+(↑1:Int))))) then bif Nat.blt (0+Int.toNat (↑i:Int)+(i_1-(0+Int.toNat ((↑i:Int)+(↑1:Int))))) (List.length W) then wtF W (0+Int.toNat (↑i:Int)+(i_1-(0+Int.toNat ((↑i:Int)+(↑1:Int))))) else DV.agg (List.replicate 8 (DV.prd fun x x_1=>True)) else bif Nat.blt i_1 (0+Int.toNat (↑i:Int)) then bif Nat.blt i_1 (Int.toNat ((↑i:Int)-0)) then bif Nat.blt i_1 (List.length W) then wtF W i_1 else DV.agg (List.replicate 8 (DV.prd fun x x_1=>True)) else DV.agg (List.map DV.con [Value.string { data:=#[] },Value.string { data:=#[] },Value.int IntKind.i64 0,Value.int IntKind.i64 0,Value.int IntKind.i64 0,Value.int IntKind.i64 0,Value.int IntKind.i64 0,Value.int IntKind.i64 0]) else bif Nat.blt i_1 (0+Int.toNat (↑i:Int)+min 1 (Int.toNat ((↑(Int.toNat ((↑i:Int)-0)+Int.toNat ((↑(List.length W):Int)+(↑1:Int)-(↑i:Int))):Int)-(↑i:Int)))) then oneF w (0+(i_1-(0+Int.toNat (↑i:Int)))) else bif Nat.blt i_1 (Int.toNat ((↑i:Int)-0)) then bif Nat.blt i_1 (List.length W) then wtF W i_1 else DV.agg (List.replicate 8 (DV.prd fun x x_1=>True)) else DV.agg (List.map DV.con [Value.string { data:=#[] },Value.string { data:=#[] },Value.int IntKind.i64 0,Value.int IntKind.i64 0,Value.int IntKind.i64 0,Value.int IntKind.i64 0,Value.int IntKind.i64 0,Value.int IntKind.i64 0])))]):(Option (List AV)))=(some [(.arr ⟨true,39,false,none⟩ 8 (insR W w i (wtD wt0)))])∧True)) (by kernel_rfl) (by kernel_rfl) ?_
   refine⟨⟨?_,trivial⟩,rfl,rfl,?_,trivial⟩
   ·exact congrArg (AV.vec 40 8 0) (by omega)
   ·refine congrArg (fun f=>some [AV.arr ⟨true,39,false,none⟩ 8 f]) (funext fun j=>?_)
    unfold insR
    simp only[Bool.cond_eq_ite,Nat.blt_eq]
    have h4:j<i∨j=i∨(i<j∧j<W.length+1)∨W.length+1≤j:=by omega
    rcases h4 with h4|h4|h4|h4
    all_goals
     (repeat first|rw[if_pos (by omega)] | rw[if_neg (by omega)])<;>first|rfl|exact congrArg (oneF w) (by omega)|exact congrArg (wtF W) (by omega)
  refine AWP.pre (.rowL _ 9 40 (W.length+1) (agg:=wK) (sz:=8) (f:=insR W w i (wtD wt0)) (wtF (insW W i w)) (by kernel_rfl) (by kernel_rfl) (by kernel_rfl) fun j hj=>insR_get hi hj) ?_
  refine walkK (orc:=noO) (keep:=[]) (cuts:=[]) (n:=1000) follows ?_
  refine of_tr (fun _ _ _ _=>((ZS ((.vec 900 8 0 (W.length+1)):AV))∧((some [.dead]):(Option (List AV)))=(some [.dead])∧((some [(.arr ⟨true,39,false,none⟩ 8 (oneF w))]):(Option (List AV)))=(some [(.arr ⟨true,39,false,none⟩ 8 (oneF w))])∧((some [(.arr ⟨true,39,false,none⟩ 8 (wtF (insW W i w)))]):(Option (List AV)))=(some [(.arr ⟨true,39,false,none⟩ 8 (wtF (insW W i w)))])∧True)) (by kernel_rfl) ?_
  exact⟨rfl,rfl,rfl,rfl,trivial⟩
theorem f68 (W:List Wt) (w:Wt) (i:Nat) (hi:i≤W.length) (hl:W.length≤1000000):FnM Tryz.prog G 68 [.vec 1000000 8 0 W.length,vi i,.vec 1000001 8 0 1] (pre68 W w) (.vec 900 8 0 (W.length+1)) (post68 W w i):=by
 rcases Nat.lt_or_ge i W.length with h|h
 ·exact f68_mid W w i h hl
 ·obtain rfl:i=W.length:=by omega
  exact f68_end W w hl
/-! Where a job that waits belongs. -/
def cmpZ (a b:Int):Int:=if a<b then -1 else if a>b then 1 else 0
theorem f73 (a:Int):FnOK Tryz.prog G 73 [di a] (db false):=by
 refine FnOK.walkK (orc:=noO) (keep:=[]) follows Tryz.func73 rfl Tryz.call73 ?_
 refine of_tr (fun _ _ _ _=>(((db (a != a)):DV)=(db false))) (by kernel_rfl) ?_
 exact congrArg db (by simp)
def orc57:Oracle:=fun f a=>match f,a with
 | 73,[_]=>some (db false)
 | 57,[.con (.int .i64 a),.con (.int .i64 b)]=>some (di (cmpZ a b))
 | 67,[.agg [_,_,_,_,_,_,.con (.int .i64 a),_],.con (.int .i64 b)]=>some (di (cmpZ a b))
 | _,_=>none
theorem f57 (a b:Int):FnOK Tryz.prog G 57 [di a,di b] (di (cmpZ a b)):=by
 refine FnOK.of_body Tryz.func57 rfl Tryz.call57 ?_
 refine walkK (orc:=orc57) (keep:=[]) (cuts:=[4,8]) (n:=1000) follows ?_
 refine of_tr (fun ZT ZW ZQ ZK=>(ZK 73 [(di a)] (db false)∧ZK 73 [(di b)] (db false)∧((false=true)→ZW [cd Tryz.f57 [1,1,1,0,1,0,0],cd Tryz.f57 [1,1,1,0,1,0,1],cd Tryz.f57 [1,1,1,1]] (stS ZT [0]) ZQ)∧((false=false)→(((false=true)→ZW [cd Tryz.f57 [1,1,1,1,0,1,0],cd Tryz.f57 [1,1,1,1,1]] (stS ZT [1,0]) ZQ)∧((false=false)→((((decide (a<b))=true)→(((di (-1)):DV)=(di (cmpZ a b))))∧(((decide (a<b))=false)→((((decide (a>b))=true)→(((di 1):DV)=(di (cmpZ a b))))∧(((decide (a>b))=false)→(((di 0):DV)=(di (cmpZ a b)))))))))))) (by kernel_rfl) ?_
 unfold cmpZ
 refine⟨f73 a,f73 b,fun h=>Bool.noConfusion h,fun _=>⟨fun h=>Bool.noConfusion h,fun _=>⟨fun h=>?_,fun h=>⟨fun h2=>?_,fun h2=>?_⟩⟩⟩⟩
 ·rw[if_pos (of_decide_eq_true h)]
 ·rw[if_neg (of_decide_eq_false h),if_pos (of_decide_eq_true h2)]
 ·rw[if_neg (of_decide_eq_false h),if_neg (of_decide_eq_false h2)]
theorem f67 (w:Wt) (n:Int):FnOK Tryz.prog G 67 [wtD w,di n] (di (cmpZ w.ar n)):=by
 refine FnOK.walkK (orc:=orc57) (keep:=[]) follows Tryz.func67 rfl Tryz.call67 ?_
 refine of_tr (fun _ _ _ ZK=>(ZK 57 [(di w.ar),(di n)] (di (cmpZ w.ar n))∧(ZS ((di (cmpZ w.ar n)):DV)))) (by kernel_rfl) ?_
 exact⟨f57 _ _,rfl⟩
def posW (W:List Wt) (n:Int):Nat:=(W.takeWhile fun w=>decide (w.ar<n)).length
abbrev c67:DV:=.con (.func (.func 67) #[] #[])
theorem posW_eq {W:List Wt} {n:Int} {i:Nat} (h1:i≤W.length) (h2:∀t,t<i→(W.getD t wt0).ar<n) (h3:i<W.length→n≤(W.getD i wt0).ar):posW W n=i:=by
 unfold posW
 induction W generalizing i with
 | nil=>simp at h1;simp[h1]
 | cons w W ih=>
  rw[List.takeWhile_cons]
  cases i with
  | zero=>
   have h3:n≤w.ar:=h3 (by simp)
   rw[decide_eq_false (by omega)];rfl
  | succ i=>
   have h0:w.ar<n:=h2 0 (by omega)
   rw[decide_eq_true h0]
   show (_ :: _).length=_
   rw[List.length_cons,ih (by simpa using h1) (fun t ht=>by simpa using h2 (t+1) (by omega)) (fun h=>by simpa using h3 (by simpa using h))]
theorem h66 (i j:Nat) (h:i+j≤2000000):IntKind.i64.wrap ((IntKind.u64.wrap ((i:Int)+(j:Int))).fdiv (2 ^ min (Int.toNat 1) IntKind.u64.bits))=(((i+j) / 2:Nat):Int):=by
 rw[IntWalk.u64_in _ ⟨by omega,by omega⟩]
 have:(2:Int) ^ min (Int.toNat 1) IntKind.u64.bits=2:=rfl
 rw[this,wrap_I64]
 ·rw[Int.fdiv_eq_ediv_of_nonneg _ (by decide)];omega
 ·rw[Int.fdiv_eq_ediv_of_nonneg _ (by decide)];exact⟨by omega,by omega⟩
theorem cmpZ_neg (a n:Int):(cmpZ a n<0)=(a<n):=by
 unfold cmpZ
 apply propext
 split<;>(try split)<;>omega
noncomputable def S66 (W:List Wt) (n:Int) (i j:Nat):AS:=⟨regs Tryz.f66.ntmps [(0,.d (wtsD W)),(1,vi n),(2,.d c67),(8,vi W.length),(9,vi i),(10,vi j)],[]⟩
noncomputable def S66h (W:List Wt) (n:Int) (i j h:Nat):AS:=⟨regs Tryz.f66.ntmps [(0,.d (wtsD W)),(1,vi n),(2,.d c67),(8,vi W.length),(9,vi i),(10,vi j),(11,vi h)],[]⟩
theorem f66 (W:List Wt) (n:Int) (hl:W.length≤1000000) (hs:W.Pairwise fun a b=>a.ar≤b.ar):FnOK Tryz.prog G 66 [wtsD W,di n,c67] (.tup [di (posW W n),db (decide ((posW W n:Int)<W.length)&&cmpZ (W.getD (posW W n) wt0).ar n==0)]):=by
 refine FnOK.walkK (orc:=orc57) (keep:=[]) follows Tryz.func66 rfl Tryz.call66 ?_
 refine of_tr (fun ZT ZW ZQ _=>ZW [cd Tryz.f66 [1,1,1,0,0],(.blk 0),cd Tryz.f66 [1,1,1,1]] (stS ZT []) ZQ) (by kernel_rfl) ?_
 refine AWP.loop (c:=cAt (bodyOf Tryz.f66) [1,1,1,0,0,0]) (by kernel_rfl) (fun x:Nat×Nat=>S66 W n x.1 x.2) (fun x=>x.1≤x.2∧x.2≤W.length∧(∀t,t<x.1→(W.getD t wt0).ar<n)∧∀t,x.2≤t→t<W.length→n≤(W.getD t wt0).ar) (fun x=>x.2-x.1) (0,W.length) ?_ ⟨Nat.zero_le _,Nat.le_refl _,fun t ht=>absurd ht (Nat.not_lt_zero t),fun t h1 h2=>by omega⟩ ?_
 ·exact AS.leA (by kernel_rfl)
 ·rintro ⟨i,j⟩ ⟨h1,h2,h3,h4⟩
  have h1:i≤j:=h1
  have h2:j≤W.length:=h2
  have h3:∀t,t<i→(W.getD t wt0).ar<n:=h3
  have h4:∀t,j≤t→t<W.length→n≤(W.getD t wt0).ar:=h4
  have srt:∀a b,a≤b→b<W.length→(W.getD a wt0).ar≤(W.getD b wt0).ar:=fun a b hab hb=>by
   rcases Nat.lt_or_ge a b with h|h
   ·have:=List.pairwise_iff_getElem.1 hs a b (by omega) hb h
    rw[List.getD,List.getD,gEe (by omega:a<W.length),gEe hb];exact this
   ·obtain rfl:a=b:=by omega
    exact Int.le_refl _
  by_cases hij:i<j
  ·refine walkK (orc:=orc57) (keep:=[]) (cuts:=[5,8]) (n:=1000) follows ?_
   refine of_rd (fun ZT ZW ZQ _ _ ZR=>((((decide ((↑i:Int)<↑j))=true)→(((I64 (↑i + ↑j))∧((0:Int)≤(1:Int)))∧ZW [cd Tryz.f66 [1,1,1,0,0,0,1,0,1],(.blk 1)] (stS ZT [0]) ZR))∧(((decide ((↑i:Int)<↑j))=false)→ZW [cd Tryz.f66 [1,1,1,1]] (stS ZT [1]) ZQ))) (by kernel_rfl) ?_
   refine⟨fun _=>⟨⟨⟨by omega,by omega⟩,by decide⟩,?_⟩,fun h=>absurd (of_decide_eq_false h) (by omega)⟩
   obtain ⟨h,eh⟩:∃h,h=(i+j) / 2:=⟨_,rfl⟩
   refine AWP.weaken (st':=S66h W n i j h) ?_ ?_
   ·refine AS.leZ [6] [] (b:=((T0∧T0∧T0∧T0∧T0∧T0∧((vi (IntKind.i64.wrap ((IntKind.u64.wrap (↑i + ↑j)).fdiv (2 ^ min (Int.toNat 1) IntKind.u64.bits)))):AV)=(vi (↑h))∧True)∧True)) (by kernel_rfl) (by kernel_rfl) ?_
    subst eh
    have hh:=h66 i j (by omega)
    refine⟨⟨rfl,rfl,rfl,rfl,rfl,rfl,?_,trivial⟩,trivial⟩
    first|exact hh|(rw[hh])|(show _=_;rw[hh];rfl)
   refine walkK (orc:=orc57) (keep:=[]) (cuts:=[8]) (n:=1000) follows ?_
   refine of_rd (fun ZT _ _ ZK ZA _=>((((0≤(↑h:Int))∧((↑h:Int)<↑W.length))∧ZK 67 [(.agg [(ds (W.getD (↑h:Int).toNat wt0).j.st),(ds (W.getD (↑h:Int).toNat wt0).j.ex),(di (W.getD (↑h:Int).toNat wt0).j.no),(di (W.getD (↑h:Int).toNat wt0).j.ve),(di (W.getD (↑h:Int).toNat wt0).j.pr),(di (W.getD (↑h:Int).toNat wt0).tr),(di (W.getD (↑h:Int).toNat wt0).ar),(di (W.getD (↑h:Int).toNat wt0).fr)]),(di n)] (di (cmpZ (W.getD (↑h:Int).toNat wt0).ar n)))∧(((decide (cmpZ (W.getD (↑h:Int).toNat wt0).ar n<0))=true)→((I64 (↑h+1))∧(ZA (stS ZT [0]))))∧(((decide (cmpZ (W.getD (↑h:Int).toNat wt0).ar n<0))=false)→(ZA (stS ZT [1]))))) (by kernel_rfl) ?_
   have b1:i≤h:=by omega
   have b2:h<j:=by omega
   have b3:h<W.length:=by omega
   have b4:(cmpZ (W.getD h wt0).ar n<0)=((W.getD h wt0).ar<n):=cmpZ_neg _ _
   refine⟨⟨⟨by omega,by omega⟩,f67 _ _⟩,fun hc=>⟨⟨by omega,by omega⟩,?_⟩,fun hc=>?_⟩
   ·have hc:=(b4▸of_decide_eq_true hc:(W.getD h wt0).ar<n)
    refine Again.mk (h+1,j) ?_ ⟨by show h+1≤j;omega,h2,fun t ht=>?_,h4⟩ (by show j-(h+1)<j-i;omega)
    ·exact AS.leA (by kernel_rfl)
    ·have ht:t<h+1:=ht
     have:=srt t h (by omega) b3;omega
   ·have hc:=of_decide_eq_false hc
    rw[show (W.getD ((h:Int)).toNat wt0)=W.getD h wt0 from rfl,b4] at hc
    refine Again.mk (i,h) ?_ ⟨b1,by show h≤_;omega,h3,fun t h5 h6=>?_⟩ (by show h-i<j-i;omega)
    ·exact AS.leA (by kernel_rfl)
    ·have h5:h≤t:=h5
     have:=srt h t h5 h6;omega
  ·obtain rfl:i=j:=by omega
   have e:=posW_eq (W:=W) (n:=n) h2 h3 (fun h=>h4 i (Nat.le_refl _) h)
   rw[e]
   refine walkK (orc:=orc57) (keep:=[]) (cuts:=[4]) (n:=1000) follows ?_
   refine of_rd (fun ZT ZW ZQ _ _ ZR=>((((decide ((↑i:Int)<↑i))=true)→ZW [cd Tryz.f66 [1,1,1,0,0,0,1,0],(.blk 1)] (stS ZT [0]) ZR)∧(((decide ((↑i:Int)<↑i))=false)→ZW [cd Tryz.f66 [1,1,1,1]] (stS ZT [1]) ZQ))) (by kernel_rfl) ?_
   refine⟨fun h=>absurd (of_decide_eq_true h) (by omega),fun _=>?_⟩
   refine walkK (orc:=orc57) (keep:=[]) (cuts:=[]) (n:=1000) follows ?_
   refine of_tr (fun _ _ _ ZK=>(((((decide ((↑i:Int)<↑W.length))=true)→((0≤(↑i:Int))∧((↑i:Int)<↑W.length)))∧(((decide ((↑i:Int)<↑W.length))=true)→ZK 67 [(.agg [(ds (W.getD (↑i:Int).toNat wt0).j.st),(ds (W.getD (↑i:Int).toNat wt0).j.ex),(di (W.getD (↑i:Int).toNat wt0).j.no),(di (W.getD (↑i:Int).toNat wt0).j.ve),(di (W.getD (↑i:Int).toNat wt0).j.pr),(di (W.getD (↑i:Int).toNat wt0).tr),(di (W.getD (↑i:Int).toNat wt0).ar),(di (W.getD (↑i:Int).toNat wt0).fr)]),(di n)] (di (cmpZ (W.getD (↑i:Int).toNat wt0).ar n))))∧((.tup [(di (↑i)),(db (decide ((↑i:Int)<↑W.length)&&cmpZ (W.getD (↑i:Int).toNat wt0).ar n==0))]):DV)=(.tup [(di ↑i),(db (decide ((↑i:Int)<↑W.length)&&cmpZ (W.getD i wt0).ar n==0))]))) (by kernel_rfl) ?_
   exact⟨⟨fun h=>⟨by omega,of_decide_eq_true h⟩,fun _=>f67 _ _⟩,rfl⟩
end Go.Proofs
