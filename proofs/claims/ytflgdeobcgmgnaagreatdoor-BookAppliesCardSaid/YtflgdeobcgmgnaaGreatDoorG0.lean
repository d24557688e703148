import Derived.Test.YtflgdeobcgmgnaaGreatDoorProg
import Derived.Test.YtflgdeobcgmgnaaGreatDoorAcC
import Derived.Lib.ItoaLen
import Derived.Test.YtflgdeobcgmgnaaGreatDoorAcD
import Derived.Lib.AtoiTie
import Derived.Lib.AtoiAllCases
import Derived.Lib.ItoaNum
import Derived.Lib.IndexLaws
import Derived.Lib.Bytealg
import Derived.Shelf.Strings.BuilderX
import Derived.Shelf.RegionOpenPlain
import Derived.Lib.Strings
import Derived.Lib.Slices
import Derived.Lib.Walk
import Derived.Lib.Builder
import Derived.Lib.AppendStr
import Derived.Lib.UnsafeStr
import Derived.Lib.MakeNoZero
import Derived.WalkKit
import Derived.Laws.Externs
import Derived.Laws.IdiomCopy
import Derived.Laws.BitsLemmas
import Derived.Shelf.LaysM
import Derived.Shelf.Strconv.Itoa3
set_option autoImplicit false
set_option maxHeartbeats 1000000
set_option maxRecDepth 100000
namespace Go.Proofs
open Go Go.Ab
theorem follows:Tryz.prog.follows .mixedOrders=true:=by kernel_rfl
def letB (c:Int):Bool:=decide (97≤c)&&decide (c≤122)
def digB (c:Int):Bool:=decide (48≤c)&&decide (c≤57)
def insB (c:Int):Bool:=letB c||digB c||c==95
def insU (c:UInt8):Bool:=insB (c.toNat:Int)
def runN (s:ByteArray):Nat:=(s.data.toList.takeWhile insU).length
theorem takeWhile_unique {p:UInt8→Bool}:∀{l:List UInt8} {k:Nat},k≤l.length→(∀i (h:i<l.length),i<k→p l[i]=true)→(∀h:k<l.length,p l[k]=false)→(l.takeWhile p).length=k
 | [],k,h,_,_=>by simp at h;subst h;rfl
 | c :: l,0,_,_,h3=>by
  have:=h3 (by simp)
  simp only[List.getElem_cons_zero] at this
  rw[List.takeWhile_cons,this];rfl
 | c :: l,k+1,h1,h2,h3=>by
  have hc:=h2 0 (by simp) (by omega)
  simp only[List.getElem_cons_zero] at hc
  rw[List.takeWhile_cons,hc]
  simp only[if_true,List.length_cons]
  rw[takeWhile_unique (l:=l) (k:=k) (by simpa using h1) (fun i h hi=>by
   have:=h2 (i+1) (by simpa using h) (by omega)
   simpa using this) (fun h=>by
   have:=h3 (by simpa using h)
   simpa using this)]
theorem byteAt_list {s:ByteArray} {k:Nat} (h:k<s.size):byteAt s k=((s.data.toList[k]'(by rw[Array.length_toList];exact h)).toNat:Int):=by
 unfold byteAt
 have h':k<s.data.size:=h
 rw[Array.getElem?_eq_getElem h',Option.getD_some,Array.getElem_toList]
theorem runN_unique {s:ByteArray} {k:Nat} (h1:k≤s.size) (h2:∀i,i<k→insB (byteAt s i)=true) (h3:k<s.size→insB (byteAt s k)=false):runN s=k:=by
 have hl:s.data.toList.length=s.size:=Array.length_toList
 refine takeWhile_unique (by omega) (fun i h hi=>?_) (fun h=>?_)
 ·have:=h2 i hi
  rw[byteAt_list (by omega)] at this;exact this
 ·have:=h3 (by omega)
  rw[byteAt_list (by omega)] at this;exact this
def kwL:List ByteArray:=[⟨#[112,111,105,110,116,115]⟩,⟨#[112,101,110,97,108,116,121]⟩,⟨#[99,97,112]⟩,⟨#[102,108,111,111,114]⟩,⟨#[105,110]⟩,⟨#[105,102]⟩,⟨#[97,110,100]⟩,⟨#[111,114]⟩,⟨#[110,111,116]⟩,⟨#[116,114,117,101]⟩,⟨#[102,97,108,115,101]⟩,⟨#[109,105,110]⟩,⟨#[109,97,120]⟩]
def kwB (s:ByteArray):Bool:=kwL.any fun x=>decide (x=s)
def nameB (s:ByteArray):Bool:=decide (1≤s.size)&&(decide (s.size≤16)&&(letB (byteAt s 0)&&(decide (runN s=s.size)&&!kwB s)))
def stF (l:List ByteArray) (i:Nat):DV:=ds (l.getD i .empty)
def indN (l:List ByteArray) (s:ByteArray):Int:=if l.any (fun x=>decide (x=s)) then ((l.takeWhile fun x=>!decide (x=s)).length:Nat) else -1
def bs (l:List UInt8):ByteArray:=⟨l.toArray⟩
theorem bs_size (l:List UInt8):(bs l).size=l.length:=by simp[bs,ByteArray.size]
theorem size_list (s:ByteArray):s.data.toList.length=s.size:=Array.length_toList
theorem toList_inj {a b:ByteArray}:a.toList=b.toList↔a=b:=by
 rw[ByteArray.toList_eq,ByteArray.toList_eq]
 constructor
 ·intro h;apply ByteArray.ext;exact Array.toList_inj.1 h
 ·rintro rfl;rfl
theorem toList_beq (a b:ByteArray):(ByteArray.toList a==ByteArray.toList b)=decide (a=b):=by
 rw[Bool.eq_iff_iff,beq_iff_eq,toList_inj,decide_eq_true_iff]
theorem itoa_nat (n:Nat):Lib.itoa (n:Int)=Lib.decDigits n:=by
 unfold Lib.itoa
 rw[if_neg (show ¬(n:Int)<0 by omega),Int.toNat_natCast]
end Go.Proofs
namespace Go.Proofs
open Go Go.Ab Go.RowKit
variable {G:IH}
@[match_pattern] abbrev b8 (c:Int):DV:=.con (.int .u8 c)
def kwF:Nat→DV:=elemF false 1 (kwL.map fun s=>ds s)
def kwD:DV:=.slc 1 13 kwF
def anyB (l:List ByteArray) (s:ByteArray):Bool:=l.any fun x=>decide (x=s)
def orcN:Oracle:=fun f a=>match f,a with
 | 168,[b8 c]=>some (db (letB c))
 | 190,[b8 c]=>some (db (digB c))
 | 170,[b8 c]=>some (db (insB c))
 | 147,[b8 c]=>some (db (letB c))
 | 179,[b8 c]=>some (db (digB c))
 | 150,[b8 c]=>some (db (insB c))
 | 169,[.con (.string s),_]=>some (di (runN s))
 | 122,[.con (.string s)]=>some (db (nameB s))
 | 141,[.con (.string s)]=>some (db (nameB s))
 | 172,[]=>some kwD
 | 149,[]=>some kwD
 | 171,[_,.con (.string s)]=>some (db (kwB s))
 | 148,[_,.con (.string s)]=>some (db (kwB s))
 | _,_=>none
theorem f168 (c:Int):FnOK Tryz.prog G 168 [b8 c] (db (letB c)):=by
 refine FnOK.walk (orc:=orcN) (keep:=[]) follows Tryz.func168 rfl Tryz.call168 ?_
 refine of_tr (fun _ _ _ _=>(((db (decide (c≥97)&&decide (c≤122))):DV)=(db (letB c)))) (by kernel_rfl) ?_
 rfl
theorem f190 (c:Int):FnOK Tryz.prog G 190 [b8 c] (db (digB c)):=by
 refine FnOK.walk (orc:=orcN) (keep:=[]) follows Tryz.func190 rfl Tryz.call190 ?_
 refine of_tr (fun _ _ _ _=>(((db (decide (c≥48)&&decide (c≤57))):DV)=(db (digB c)))) (by kernel_rfl) ?_
 rfl
theorem f147 (c:Int):FnOK Tryz.prog G 147 [b8 c] (db (letB c)):=by
 refine FnOK.walk (orc:=orcN) (keep:=[]) follows Tryz.func147 rfl Tryz.call147 ?_
 refine of_tr (fun _ _ _ _=>(((db (decide (c≥97)&&decide (c≤122))):DV)=(db (letB c)))) (by kernel_rfl) ?_
 rfl
theorem f179 (c:Int):FnOK Tryz.prog G 179 [b8 c] (db (digB c)):=by
 refine FnOK.walk (orc:=orcN) (keep:=[]) follows Tryz.func179 rfl Tryz.call179 ?_
 refine of_tr (fun _ _ _ _=>(((db (decide (c≥48)&&decide (c≤57))):DV)=(db (digB c)))) (by kernel_rfl) ?_
 rfl
theorem f170 (c:Int):FnOK Tryz.prog G 170 [b8 c] (db (insB c)):=by
 refine FnOK.walk (orc:=orcN) (keep:=[]) follows Tryz.func170 rfl Tryz.call170 ?_
 refine of_tr (fun _ _ _ ZK=>((ZK 168 [(.con (.int .u8 c))] (db (letB c))∧(((!letB c)=true)→ZK 190 [(.con (.int .u8 c))] (db (digB c))))∧((db (letB c||digB c||c==95)):DV)=(db (insB c)))) (by kernel_rfl) ?_
 exact⟨⟨f168 c,fun _=>f190 c⟩,rfl⟩
theorem f150 (c:Int):FnOK Tryz.prog G 150 [b8 c] (db (insB c)):=by
 refine FnOK.walk (orc:=orcN) (keep:=[]) follows Tryz.func150 rfl Tryz.call150 ?_
 refine of_tr (fun _ _ _ ZK=>((ZK 147 [(.con (.int .u8 c))] (db (letB c))∧(((!letB c)=true)→ZK 179 [(.con (.int .u8 c))] (db (digB c))))∧((db (letB c||digB c||c==95)):DV)=(db (insB c)))) (by kernel_rfl) ?_
 exact⟨⟨f147 c,fun _=>f179 c⟩,rfl⟩
noncomputable def S121 (s:ByteArray) (k:Nat):AS:=⟨regs Tryz.f169.ntmps [(0,vs s),(1,.d (.con (.func (.func 170) #[] #[]))),(5,vi k)],[]⟩
theorem f169 (s:ByteArray) (hs:s.size≤1000000):FnOK Tryz.prog G 169 [ds s,.con (.func (.func 170) #[] #[])] (di (runN s)):=by
 refine FnOK.walk (orc:=orcN) (keep:=[]) follows Tryz.func169 rfl Tryz.call169 ?_
 refine of_tr (fun ZT ZW ZQ _=>ZW [cd Tryz.f169 [1,1,0,0],(.blk 0),cd Tryz.f169 [1,1,1]] (stS ZT []) ZQ) (by kernel_rfl) ?_
 refine AWP.loop (c:=cAt (bodyOf Tryz.f169) [1,1,0,0,0]) (by kernel_rfl) (S121 s) (fun k=>k≤s.size∧∀i,i<k→insB (byteAt s i)=true) (fun k=>s.size-k) 0 ?_ ⟨Nat.zero_le _,fun i hi=>by omega⟩ ?_
 ·exact AS.leA (by kernel_rfl)
 ·rintro k ⟨hk,hkd⟩
  refine walk (orc:=orcN) (keep:=[]) (cuts:=[]) (n:=1000) follows ?_
  refine of_rd (fun ZT ZW ZQ ZK ZA _=>(((((decide ((↑k:Int)<↑s.size))=true)→((0≤(↑k:Int))∧((↑k:Int)<↑s.size)))∧(((decide ((↑k:Int)<↑s.size))=true)→ZK 170 [(.con (.int .u8 (byteAt s (↑k:Int).toNat)))] (db (insB (byteAt s (↑k:Int).toNat)))))∧(((decide ((↑k:Int)<↑s.size)&&insB (byteAt s (↑k:Int).toNat))=true)→((I64 (↑k+1))∧(ZA (stS ZT [0]))))∧(((decide ((↑k:Int)<↑s.size)&&insB (byteAt s (↑k:Int).toNat))=false)→ZW [cd Tryz.f169 [1,1,1]] (stS ZT [1]) ZQ))) (by kernel_rfl) ?_
  simp only[Int.toNat_natCast]
  refine⟨⟨fun h=>?_,fun _=>f170 _⟩,fun h=>?_,fun h=>?_⟩
  ·simp only[decide_eq_true_eq] at h
   exact⟨by omega,by omega⟩
  ·simp only[bAt,decide_eq_true_eq] at h
   refine⟨⟨by omega,by omega⟩,Again.mk (k+1) ?_ ⟨by omega,fun i hi=>?_⟩ (by omega)⟩
   ·exact AS.leA (by kernel_rfl)
   ·rcases Nat.lt_or_ge i k with h1|h1
    ·exact hkd i h1
    ·obtain rfl:i=k:=by omega
     exact h.2
  ·have hst:runN s=k:=runN_unique hk hkd fun h1=>by
    simp only[Bool.and_eq_false_imp,decide_eq_true_eq] at h
    exact h (by omega)
   refine walk (orc:=orcN) (keep:=[]) (cuts:=[]) (n:=1000) follows ?_
   refine of_tr (fun _ _ _ _=>(((di (↑k)):DV)=(di ↑(runN s)))) (by kernel_rfl) ?_
   rw[hst]
theorem f172:FnOK Tryz.prog G 172 [] kwD:=by
 refine FnOK.walk (orc:=orcN) (keep:=[]) follows Tryz.func172 rfl Tryz.call172 ?_
 refine of_tr (fun _ _ _ _=>(((.slc 1 13 (elemF false 1 [(ds (ByteArray.mk #[112,111,105,110,116,115])),(ds (ByteArray.mk #[112,101,110,97,108,116,121])),(ds (ByteArray.mk #[99,97,112])),(ds (ByteArray.mk #[102,108,111,111,114])),(ds (ByteArray.mk #[105,110])),(ds (ByteArray.mk #[105,102])),(ds (ByteArray.mk #[97,110,100])),(ds (ByteArray.mk #[111,114])),(ds (ByteArray.mk #[110,111,116])),(ds (ByteArray.mk #[116,114,117,101])),(ds (ByteArray.mk #[102,97,108,115,101])),(ds (ByteArray.mk #[109,105,110])),(ds (ByteArray.mk #[109,97,120]))])):DV)=kwD)) (by kernel_rfl) ?_
 rfl
theorem f149:FnOK Tryz.prog G 149 [] kwD:=by
 refine FnOK.walk (orc:=orcN) (keep:=[]) follows Tryz.func149 rfl Tryz.call149 ?_
 refine of_tr (fun _ _ _ _=>(((.slc 1 13 (elemF false 1 [(ds (ByteArray.mk #[112,111,105,110,116,115])),(ds (ByteArray.mk #[112,101,110,97,108,116,121])),(ds (ByteArray.mk #[99,97,112])),(ds (ByteArray.mk #[102,108,111,111,114])),(ds (ByteArray.mk #[105,110])),(ds (ByteArray.mk #[105,102])),(ds (ByteArray.mk #[97,110,100])),(ds (ByteArray.mk #[111,114])),(ds (ByteArray.mk #[110,111,116])),(ds (ByteArray.mk #[116,114,117,101])),(ds (ByteArray.mk #[102,97,108,115,101])),(ds (ByteArray.mk #[109,105,110])),(ds (ByteArray.mk #[109,97,120]))])):DV)=kwD)) (by kernel_rfl) ?_
 rfl
theorem any_step {l:List ByteArray} {s:ByteArray} {k:Nat} (hk:k<l.length) (hno:∀i,i<k→l.getD i .empty≠s) (h:l.getD k .empty=s):anyB l s=true∧indN l s=k:=by
 have hk2:l[k]=s:=by rw[←h,List.getD,gEe hk];rfl
 have h1:anyB l s=true:=by
  unfold anyB
  rw[List.any_eq_true]
  exact⟨l[k],List.getElem_mem hk,by rw[decide_eq_true_eq];exact hk2⟩
 refine⟨h1,?_⟩
 unfold indN
 unfold anyB at h1
 rw[if_pos h1]
 have:∀(l:List ByteArray) (k:Nat) (hk:k<l.length),(∀i (h:i<l.length),i<k→l[i]≠s)→l[k]=s→(l.takeWhile fun x=>!decide (x=s)).length=k:=by
  intro l
  induction l with
  | nil=>intro k hk;simp at hk
  | cons x l ih=>
   intro k hk h2 h3
   cases k with
   | zero=>
    simp only[List.getElem_cons_zero] at h3
    rw[List.takeWhile_cons,h3];simp
   | succ k=>
    have h4:=h2 0 (by simp) (by omega)
    simp only[List.getElem_cons_zero] at h4
    rw[List.takeWhile_cons]
    simp only[h4,decide_false,Bool.not_false,if_true,List.length_cons]
    rw[ih k (by simpa using hk) (fun i h5 h6=>by
     have:=h2 (i+1) (by simpa using h5) (by omega)
     simpa using this) (by simpa using h3)]
 rw[this l k hk (fun i h5 h6=>by
  have:=hno i h6
  rw[List.getD,gEe h5] at this
  exact this) hk2]
theorem any_none {l:List ByteArray} {s:ByteArray} (hno:∀i,i<l.length→l.getD i .empty≠s):anyB l s=false∧indN l s = -1:=by
 have h1:anyB l s=false:=by
  rw[Bool.eq_false_iff]
  unfold anyB
  intro h
  obtain ⟨x,hx,hd⟩:=List.any_eq_true.1 h
  obtain ⟨i,hi,rfl⟩:=List.getElem_of_mem hx
  rw[decide_eq_true_eq] at hd
  refine hno i hi ?_
  rw[List.getD,gEe hi];exact hd
 refine⟨h1,?_⟩
 unfold indN
 unfold anyB at h1
 rw[if_neg (by rw[h1];simp)]
noncomputable def S143 (l:List ByteArray) (s:ByteArray) (k:Nat):AS:=⟨regs Tryz.f191.ntmps [(0,.d (.slc 1 l.length (stF l))),(1,vs s),(7,vi l.length),(8,vi k)],[]⟩
theorem f191 (l:List ByteArray) (s:ByteArray) (hl:l.length≤1000000):FnOK Tryz.prog G 191 [.slc 1 l.length (stF l),ds s] (di (indN l s)):=by
 refine FnOK.walk (orc:=orcN) (keep:=[]) follows Tryz.func191 rfl Tryz.call191 ?_
 refine of_tr (fun ZT ZW ZQ _=>ZW [cd Tryz.f191 [1,0,1,0],(.blk 0),cd Tryz.f191 [1,1]] (stS ZT []) ZQ) (by kernel_rfl) ?_
 refine AWP.loop (c:=cAt (bodyOf Tryz.f191) [1,0,1,0,0]) (by kernel_rfl) (S143 l s) (fun k=>k≤l.length∧∀i,i<k→l.getD i .empty≠s) (fun k=>l.length-k) 0 ?_ ⟨Nat.zero_le _,fun i hi=>by omega⟩ ?_
 ·exact AS.leA (by kernel_rfl)
 ·rintro k ⟨hk,hkd⟩
  refine walk (orc:=orcN) (keep:=[]) (cuts:=[]) (n:=1000) follows ?_
  refine of_rd (fun ZT ZW ZQ _ ZA _=>((((decide ((↑k:Int)<↑l.length))=true)→(((0≤(↑k:Int))∧((↑k:Int)<↑l.length))∧(((s.toList==(l.getD (↑k:Int).toNat ByteArray.empty).toList)=true)→(((di (↑k)):DV)=(di (indN l s))))∧(((s.toList==(l.getD (↑k:Int).toNat ByteArray.empty).toList)=false)→((I64 (↑k+1))∧(ZA (stS ZT [0,1]))))))∧(((decide ((↑k:Int)<↑l.length))=false)→ZW [cd Tryz.f191 [1,1]] (stS ZT [1]) ZQ))) (by kernel_rfl) ?_
  simp only[Int.toNat_natCast,toList_beq]
  refine⟨fun h=>?_,fun h=>?_⟩
  ·simp only[decide_eq_true_eq] at h
   refine⟨⟨by omega,by omega⟩,fun h2=>?_,fun h2=>?_⟩
   ·simp only[decide_eq_true_eq] at h2
    rw[(any_step (by omega) hkd h2.symm).2]
   ·simp only[decide_eq_false_iff_not] at h2
    refine⟨⟨by omega,by omega⟩,Again.mk (k+1) ?_ ⟨by omega,fun i hi=>?_⟩ (by omega)⟩
    ·exact AS.leA (by kernel_rfl)
    ·rcases Nat.lt_or_ge i k with h1|h1
     ·exact hkd i h1
     ·obtain rfl:i=k:=by omega
      exact fun h3=>h2 h3.symm
  ·simp only[decide_eq_false_iff_not] at h
   have hst:=any_none (l:=l) (s:=s) fun i hi=>hkd i (by omega)
   refine walk (orc:=orcN) (keep:=[]) (cuts:=[]) (n:=1000) follows ?_
   refine of_tr (fun _ _ _ _=>(((di (-1)):DV)=(di (indN l s)))) (by kernel_rfl) ?_
   rw[hst.2]
noncomputable def S134 (l:List ByteArray) (s:ByteArray) (k:Nat):AS:=⟨regs Tryz.f148.ntmps [(0,.d (.slc 1 l.length (stF l))),(1,vs s),(5,vi k)],[]⟩
theorem f148 (l:List ByteArray) (s:ByteArray) (hl:l.length≤1000000):FnOK Tryz.prog G 148 [.slc 1 l.length (stF l),ds s] (db (anyB l s)):=by
 refine FnOK.walk (orc:=orcN) (keep:=[]) follows Tryz.func148 rfl Tryz.call148 ?_
 refine of_tr (fun ZT ZW ZQ _=>ZW [cd Tryz.f148 [1,0,1,0],(.blk 0),cd Tryz.f148 [1,1]] (stS ZT []) ZQ) (by kernel_rfl) ?_
 refine AWP.loop (c:=cAt (bodyOf Tryz.f148) [1,0,1,0,0]) (by kernel_rfl) (S134 l s) (fun k=>k≤l.length∧∀i,i<k→l.getD i .empty≠s) (fun k=>l.length-k) 0 ?_ ⟨Nat.zero_le _,fun i hi=>by omega⟩ ?_
 ·exact AS.leA (by kernel_rfl)
 ·rintro k ⟨hk,hkd⟩
  refine walk (orc:=orcN) (keep:=[]) (cuts:=[]) (n:=1000) follows ?_
  refine of_rd (fun ZT ZW ZQ _ ZA _=>((((decide ((↑k:Int)<↑l.length))=true)→(((0≤(↑k:Int))∧((↑k:Int)<↑l.length))∧((((l.getD (↑k:Int).toNat ByteArray.empty).toList==s.toList)=true)→(((db true):DV)=(db (anyB l s))))∧((((l.getD (↑k:Int).toNat ByteArray.empty).toList==s.toList)=false)→((I64 (↑k+1))∧(ZA (stS ZT [0,1]))))))∧(((decide ((↑k:Int)<↑l.length))=false)→ZW [cd Tryz.f148 [1,1]] (stS ZT [1]) ZQ))) (by kernel_rfl) ?_
  simp only[Int.toNat_natCast,toList_beq]
  refine⟨fun h=>?_,fun h=>?_⟩
  ·simp only[decide_eq_true_eq] at h
   refine⟨⟨by omega,by omega⟩,fun h2=>?_,fun h2=>?_⟩
   ·simp only[decide_eq_true_eq] at h2
    rw[(any_step (by omega) hkd h2).1]
   ·simp only[decide_eq_false_iff_not] at h2
    refine⟨⟨by omega,by omega⟩,Again.mk (k+1) ?_ ⟨by omega,fun i hi=>?_⟩ (by omega)⟩
    ·exact AS.leA (by kernel_rfl)
    ·rcases Nat.lt_or_ge i k with h1|h1
     ·exact hkd i h1
     ·obtain rfl:i=k:=by omega
      exact h2
  ·simp only[decide_eq_false_iff_not] at h
   have hst:=any_none (l:=l) (s:=s) fun i hi=>hkd i (by omega)
   refine walk (orc:=orcN) (keep:=[]) (cuts:=[]) (n:=1000) follows ?_
   refine of_tr (fun _ _ _ _=>(((db false):DV)=(db (anyB l s)))) (by kernel_rfl) ?_
   rw[hst.1]
def orcI (l:List ByteArray):Oracle:=fun f a=>match f,a with
 | 191,[_,.con (.string s)]=>some (di (indN l s))
 | _,_=>none
theorem emp_beq (s:ByteArray):(ByteArray.toList s==ByteArray.toList { data:=#[] })=decide (s.size=0):=by
 rw[toList_beq,decide_eq_decide]
 constructor
 ·rintro rfl;rfl
 ·intro h
  apply ByteArray.ext
  exact Array.eq_empty_of_size_eq_zero h
theorem f171 (l:List ByteArray) (s:ByteArray) (hl:l.length≤1000000):FnOK Tryz.prog G 171 [.slc 1 l.length (stF l),ds s] (db (anyB l s)):=by
 refine FnOK.walk (orc:=orcI l) (keep:=[]) follows Tryz.func171 rfl Tryz.call171 ?_
 refine of_tr (fun _ _ _ ZK=>(ZK 191 [(.slc 1 l.length (stF l)),(ds s)] (di (indN l s))∧((db (decide (indN l s≥0))):DV)=(db (anyB l s)))) (by kernel_rfl) ?_
 refine⟨f191 l s hl,?_⟩
 unfold indN anyB
 cases h:l.any (fun x=>decide (x=s)) with
 | true=>
  rw[if_pos rfl]
  have:decide ((((l.takeWhile fun x=>!decide (x=s)).length:Nat):Int)≥0)=true:=by rw[decide_eq_true_eq];omega
  rw[this]
 | false=>rfl
theorem kw_congr:∀i,i<13→kwF i=stF kwL i:=by
 intro i hi
 unfold kwF
 match i,hi with
 | 0,_=>rfl
 | 1,_=>rfl
 | 2,_=>rfl
 | 3,_=>rfl
 | 4,_=>rfl
 | 5,_=>rfl
 | 6,_=>rfl
 | 7,_=>rfl
 | 8,_=>rfl
 | 9,_=>rfl
 | 10,_=>rfl
 | 11,_=>rfl
 | 12,_=>rfl
theorem f171kw (s:ByteArray):FnOK Tryz.prog G 171 [kwD,ds s] (db (kwB s)):=
 (f171 kwL s (by decide)).args fun _=>DV.rels_cons (fun _ h=>DV.rel_slc_congr kw_congr h) (DV.rels_cons (fun _ h=>h) (fun _ h=>h))
theorem f148kw (s:ByteArray):FnOK Tryz.prog G 148 [kwD,ds s] (db (kwB s)):=
 (f148 kwL s (by decide)).args fun _=>DV.rels_cons (fun _ h=>DV.rel_slc_congr kw_congr h) (DV.rels_cons (fun _ h=>h) (fun _ h=>h))
theorem name_eq (s:ByteArray):nameB s=(!decide (s.size=0)&&decide ((s.size:Int)≤16)&&letB (byteAt s (Int.toNat 0))&&(runN s:Int)==(s.size:Int)&&!kwB s):=by
 unfold nameB
 have e1:decide (1≤s.size) = !decide (s.size=0):=by
  by_cases h:s.size=0
  ·simp[h]
  ·simp[h];omega
 have e2:decide (s.size≤16)=decide ((s.size:Int)≤16):=by rw[decide_eq_decide];omega
 have e3:decide (runN s=s.size)=((runN s:Int)==(s.size:Int)):=by
  by_cases h:runN s=s.size
  ·rw[h];simp
  ·rw[decide_eq_false h]
   symm
   rw[beq_eq_false_iff_ne]
   omega
 rw[e1,e2,e3]
 simp only[Bool.and_assoc];rfl
theorem f141 (s:ByteArray) (hs:s.size≤1000000):FnOK Tryz.prog G 141 [ds s] (db (nameB s)):=by
 refine FnOK.walk (orc:=orcN) (keep:=[]) follows Tryz.func141 rfl Tryz.call141 ?_
 refine of_tr (fun _ _ _ ZK=>(fun Za Zb=>((((Zb=true)→(((0:Int)≤(0:Int))∧(0<(↑s.size:Int))))∧((Zb=true)→ZK 168 [(.con (.int .u8 (byteAt s (Int.toNat 0))))] (db (letB (byteAt s (Int.toNat 0)))))∧(((!s.toList==(ByteArray.mk #[]).toList&&decide ((↑s.size:Int)≤16)&&letB (byteAt s (Int.toNat 0)))=true)→ZK 169 [(ds s),(.con (.func (.func 170) ⟨[]⟩ ⟨[]⟩))] (di (↑(runN s))))∧((Za=true)→ZK 172 [] (.slc 1 13 kwF))∧((Za=true)→ZK 171 [(.slc 1 13 kwF),(ds s)] (db (kwB s))))∧((db (!s.toList==(ByteArray.mk #[]).toList&&decide ((↑s.size:Int)≤16)&&letB (byteAt s (Int.toNat 0))&&(↑(runN s):Int)==↑s.size&&!kwB s)):DV)=(db (nameB s)))) (!s.toList==(ByteArray.mk #[]).toList&&decide ((↑s.size:Int)≤16)&&letB (byteAt s (Int.toNat 0))&&(↑(runN s):Int)==↑s.size) (!s.toList==(ByteArray.mk #[]).toList&&decide ((↑s.size:Int)≤16))) (by kernel_rfl) ?_
 try dsimp only
 simp only[emp_beq]
 refine⟨⟨fun h=>?_,fun _=>f168 _,fun _=>f169 s hs,fun _=>f172,fun _=>f171kw s⟩,?_⟩
 ·simp only[bAt,Bool.not_eq_true',decide_eq_false_iff_not] at h
  exact⟨by omega,by omega⟩
 ·rw[name_eq]
noncomputable def S113 (s:ByteArray) (k:Nat):AS:=⟨regs Tryz.f122.ntmps [(0,vs s),(3,vi k)],[]⟩
theorem f122 (s:ByteArray) (hs:s.size≤1000000):FnOK Tryz.prog G 122 [ds s] (db (nameB s)):=by
 refine FnOK.walk (orc:=orcN) (keep:=[]) follows Tryz.func122 rfl Tryz.call122 ?_
 refine of_tr (fun ZT ZW ZQ ZK=>(fun Za Zb=>(((((!s.toList==(ByteArray.mk #[]).toList)=true)→(((0:Int)≤(0:Int))∧(0<(↑s.size:Int))))∧(((!s.toList==(ByteArray.mk #[]).toList)=true)→ZK 147 [(.con (.int .u8 (byteAt s (Int.toNat 0))))] (db (letB (byteAt s (Int.toNat 0)))))∧((Zb=true)→ZK 149 [] (.slc 1 13 kwF))∧((Zb=true)→ZK 148 [(.slc 1 13 kwF),(ds s)] (db (kwB s))))∧((Za=true)→(((db false):DV)=(db (nameB s))))∧((Za=false)→ZW [cd Tryz.f122 [1,1,0,1,0],(.blk 0),cd Tryz.f122 [1,1,1]] (stS ZT [1]) ZQ))) (s.toList==(ByteArray.mk #[]).toList||!letB (byteAt s (Int.toNat 0))||decide ((↑s.size:Int)>16)||kwB s) (!(s.toList==(ByteArray.mk #[]).toList||!letB (byteAt s (Int.toNat 0))||decide ((↑s.size:Int)>16)))) (by kernel_rfl) ?_
 try dsimp only
 simp only[emp_beq]
 refine⟨⟨fun h=>?_,fun _=>f147 _,fun _=>f149,fun _=>f148kw s⟩,fun h=>?_,fun h=>?_⟩
 ·simp only[Bool.not_eq_true',decide_eq_false_iff_not] at h
  exact⟨by omega,by omega⟩
 ·have:nameB s=false:=by
   rw[name_eq]
   by_cases h0:s.size=0
   ·simp[h0]
   ·cases h1:letB (byteAt s (Int.toNat 0)) with
    | false=>simp
    | true=>
     cases h2:kwB s with
     | true=>simp
     | false=>
      rw[h1,h2] at h
      simp[h0] at h
      have:decide ((s.size:Int)≤16)=false:=by rw[decide_eq_false_iff_not];omega
      rw[this];simp
  rw[this]
 ·simp only[Bool.or_eq_false_iff,decide_eq_false_iff_not,Bool.not_eq_false',gt_iff_lt] at h
  obtain ⟨⟨⟨h1,h2⟩,h3⟩,h4⟩:=h
  have hn:nameB s=decide (runN s=s.size):=by
   unfold nameB
   have e1:decide (1≤s.size)=true:=by rw[decide_eq_true_eq];omega
   have e2:decide (s.size≤16)=true:=by rw[decide_eq_true_eq];omega
   have h2':letB (byteAt s 0)=true:=h2
   rw[e1,e2,h2',h4];simp
  refine AWP.loop (c:=cAt (bodyOf Tryz.f122) [1,1,0,1,0,0]) (by kernel_rfl) (S113 s) (fun k=>k≤s.size∧∀i,i<k→insB (byteAt s i)=true) (fun k=>s.size-k) 0 ?_ ⟨Nat.zero_le _,fun i hi=>by omega⟩ ?_
  ·exact AS.leA (by kernel_rfl)
  ·rintro k ⟨hk,hkd⟩
   refine walk (orc:=orcN) (keep:=[]) (cuts:=[]) (n:=1000) follows ?_
   refine of_rd (fun ZT ZW ZQ ZK ZA _=>((((decide ((↑k:Int)<↑s.size))=true)→((((0≤(↑k:Int))∧((↑k:Int)<↑s.size))∧ZK 150 [(.con (.int .u8 (byteAt s (↑k:Int).toNat)))] (db (insB (byteAt s (↑k:Int).toNat))))∧(((!insB (byteAt s (↑k:Int).toNat))=true)→(((db false):DV)=(db (nameB s))))∧(((!insB (byteAt s (↑k:Int).toNat))=false)→((I64 (↑k+1))∧(ZA (stS ZT [0,1]))))))∧(((decide ((↑k:Int)<↑s.size))=false)→ZW [cd Tryz.f122 [1,1,1]] (stS ZT [1]) ZQ))) (by kernel_rfl) ?_
   simp only[Int.toNat_natCast]
   refine⟨fun h=>?_,fun h=>?_⟩
   ·simp only[decide_eq_true_eq] at h
    refine⟨⟨⟨by omega,by omega⟩,f150 _⟩,fun h5=>?_,fun h5=>⟨⟨by omega,by omega⟩,Again.mk (k+1) ?_ ⟨by omega,fun i hi=>?_⟩ (by omega)⟩⟩
    ·simp only[Bool.not_eq_true'] at h5
     have hst:runN s=k:=runN_unique hk hkd fun _=>h5
     rw[hn,decide_eq_false (by omega)]
    ·exact AS.leA (by kernel_rfl)
    ·rcases Nat.lt_or_ge i k with h1|h1
     ·exact hkd i h1
     ·obtain rfl:i=k:=by omega
      simpa using h5
   ·simp only[decide_eq_false_iff_not] at h
    have hst:runN s=k:=runN_unique hk hkd fun h1=>by omega
    refine walk (orc:=orcN) (keep:=[]) (cuts:=[]) (n:=1000) follows ?_
    refine of_tr (fun _ _ _ _=>(((db true):DV)=(db (nameB s)))) (by kernel_rfl) ?_
    rw[hn,decide_eq_true (by omega)]
def byteL (l:List UInt8) (i:Nat):DV:=.con (.int .u8 (((l[i]?).getD 0).toNat:Int))
def nilP:AV:=.d (.con (.pointer none))
def unitC:DV:=.tup []
theorem Gam.result {F:Fr} {w0:World} {h0:IH} {st:AS} {β:Nat→Nat} {h:IH} {tm:Array Value} {w:World} (g:Gam G F w0 h0 st β h tm w) {r:AV} {v:Value} (hr:r.rel β h v):Gam G F w0 h0 ⟨[r],st.boxes⟩ β h #[v] w:=
 ⟨g.glob,g.holds,g.ext,g.old,g.kept,g.fix,rfl,fun t x hx=>by
  cases t with
  | zero=>simp at hx;subst hx;exact⟨v,rfl,hr⟩
  | succ t=>simp at hx,g.box,g.inj⟩
theorem tup0_rel (h:IH):unitC.rel h (.tuple #[]):=⟨[],rfl,rfl⟩
theorem arg1 {F:Fr} {w0:World} {h0:IH} {x:AV} {bx:List (Nat×List AV)} {β:Nat→Nat} {h:IH} {us:Array Value} {w:World} (g:Gam G F w0 h0 ⟨[x],bx⟩ β h us w):∃v,us=#[v]∧x.rel β h v:=by
 have hs:us.size=1:=g.size
 obtain ⟨v,hv,hr⟩:=g.regs 0 x rfl
 refine⟨v,?_,hr⟩
 apply Array.ext
 ·simpa using hs
 ·intro i h1 h2
  have:i=0:=by simp at h2;omega
  subst this
  have:=(Array.getElem?_eq_some_iff.1 hv).2
  simpa using this
theorem look_head (s:Nat) (l:List AV) (r:List (Nat×List AV)):Go.Ab.look ((s,l) :: r) s=some l:=by simp[Go.Ab.look]
theorem i146':(Tryz.prog.info? 124).map (·.size)=some 2:=by kernel_rfl
theorem i146:∃j,Tryz.prog.info? 124=some j∧j.size=2:=Option.map_eq_some_iff.1 i146'
theorem lies146:liesAt Tryz.prog Tryz.prog.depth 124 (2 / Tryz.prog.cellsOf 124) 0 124 1=true:=by kernel_rfl
theorem copyCheck_used (b:Nat) (w:World) (h0:w.cell? ⟨b,0,none⟩=some (.pointer (some ⟨b,0,none⟩))) :
  Calls Tryz.prog 110 #[.pointer (some ⟨b,0,none⟩)] w fun e w'=>e=.returned (.tuple #[])∧w'=w:=by
 obtain ⟨j,hj,hjs⟩:=i146
 go_enter Tryz.func110,Tryz.ntmps110
 go_wp2
 rw[Lib.run_neq_ptr_same w _ Tryz.underlying121 hj]
 go_wp2
 go_end0
 exact⟨rfl,rfl⟩
theorem copyCheck_fresh (b:Nat) (w:World) (h0:w.cell? ⟨b,0,none⟩=some (.pointer none)) (hsh:w.shape? b=some (124,2)) (hfz:w.frozen? ⟨b,0,none⟩=false) :
  Calls Tryz.prog 110 #[.pointer (some ⟨b,0,none⟩)] w fun e w'=>e=.returned (.tuple #[])∧w'=w.setCell ⟨b,0,none⟩ (.pointer (some ⟨b,0,none⟩)):=by
 obtain ⟨j,hj,hjs⟩:=i146
 go_enter Tryz.func110,Tryz.ntmps110
 go_wp2
 rw[Lib.run_to_unsafe w ⟨b,0,none⟩ Tryz.underlying121 Tryz.underlying156 hj (by rw[hjs];decide) hsh (Nat.zero_lt_succ 1)]
 simp only[Result.andThen]
 rw[Oper.upon_value]
 go_wp2
 rw[run_callFunc_extern Tryz.func131 (by kernel_rfl) (by kernel_rfl) (by kernel_rfl) (e:=Extern.AbiNoEscape.same) (by kernel_rfl)]
 rw[Lib.run_noEscape]
 simp only[Result.andThen]
 rw[Oper.upon_value]
 go_wp2
 rw[Lib.run_from_unsafe w ⟨b,0,none⟩ Tryz.underlying156 Tryz.underlying121 hj hsh lies146]
 simp only[Result.andThen]
 rw[Oper.upon_value]
 go_wp2
 go_end0
 exact⟨rfl,rfl⟩
theorem builder_String (b g cap n:Nat) (T:TypeId) (p:Value) (vs:Array Value) (fz:Nat×Nat) (l:List UInt8) (h0:l≠[]) (hn:n=l.length) (w:World) (hbk:w.heap[b]?=some (.cells #[p,.slice (some ⟨g,0,none⟩) n cap] T (0,0)))
  (hg:w.heap[g]?=some (.cells vs 5 fz)) (hcap:n≤cap) (hsz:n≤vs.size) (h63:n≤9223372036854775807) (hvs:∀(j:Nat) (x:UInt8),l[j]?=some x→vs[j]?=some (Value.int .u8 x.toNat)) :
  Calls Tryz.prog 92 #[.pointer (some ⟨b,0,none⟩)] w fun e w'=>e=.returned (.string ⟨l.toArray⟩)∧w'=w.drew.freeze ⟨g,0,none⟩ n:=by
 subst hn
 have hl0:l.length≠0:=by simpa using h0
 have c1:w.drew.cell? ⟨b,1,none⟩=some (.slice (some ⟨g,0,none⟩) l.length cap):=by
  have:w.drew.heap[b]?=some (.cells #[p,.slice (some ⟨g,0,none⟩) l.length cap] T (0,0)):=hbk
  rw[Lib.cell_of_heap this];rfl
 have hSD:(Builtin.unsafeSliceData_ #[122] 138 #[.slice (some ⟨g,0,none⟩) l.length cap]).run Tryz.prog w.drew=.ok (.pointer (some ⟨g,0,none⟩)) w.drew:=
  Lib.run_unsafeSliceData_row _ _ _ _ _ _ (by omega)
 have hUS:(Builtin.unsafeString_ #[138,3] 9 #[.pointer (some ⟨g,0,none⟩),.int .i64 l.length]).run Tryz.prog w.drew=.ok (.string ⟨l.toArray⟩) (w.drew.freeze ⟨g,0,none⟩ l.length):=by
  refine Lib.run_unsafeString_row w.drew 138 3 9 5 Tryz.underlying138 (by kernel_rfl) g vs.size (by have hg':w.drew.heap[g]?=some (.cells vs 5 fz):=hg;simp[World.shape?,hg']) l h0 hsz h63 ?_
  intro j x hx
  have hg':w.drew.heap[g]?=some (.cells vs 5 fz):=hg
  have:(⟨g,0,none⟩:Addr).add j=⟨g,j,none⟩:=by rw[add_off];simp
  rw[this]
  simp only[World.cell?,hg']
  exact hvs j x hx
 have mixed:=follows
 go_enter Tryz.func92,Tryz.ntmps92
 go_wp2
 go_region_o
 all_goals (go_wp2;go_ret;exact⟨rfl,rfl⟩)
theorem builder_String_nil (b:Nat) (T:TypeId) (p:Value) (w:World) (hbk:w.heap[b]?=some (.cells #[p,.slice none 0 0] T (0,0))) :
  Calls Tryz.prog 92 #[.pointer (some ⟨b,0,none⟩)] w fun e w'=>e=.returned (.string ⟨#[]⟩)∧w'=w.drew:=by
 have c1:w.drew.cell? ⟨b,1,none⟩=some (.slice none 0 0):=by
  have:w.drew.heap[b]?=some (.cells #[p,.slice none 0 0] T (0,0)):=hbk
  rw[Lib.cell_of_heap this];rfl
 have hSD:(Builtin.unsafeSliceData_ #[122] 138 #[.slice none 0 0]).run Tryz.prog w.drew=.ok (.pointer none) w.drew:=rfl
 have hUS:(Builtin.unsafeString_ #[138,3] 9 #[.pointer none,.int .i64 0]).run Tryz.prog w.drew=.ok (.string .empty) w.drew:=Lib.run_unsafeString_none w.drew _ _ _ none
 have mixed:=follows
 go_enter Tryz.func92,Tryz.ntmps92
 go_wp2
 go_region_o
 all_goals (go_wp2;go_ret;exact⟨rfl,rfl⟩)
theorem f110_fresh (x:AV) (rest:List (Nat×List AV)):FnM Tryz.prog G 110 [.tb 1000000 0 124] ((1000000,[nilP,x]) :: rest) (.d unitC) ((1000000,[.box 1000000 0,x]) :: rest):=by
 refine⟨Tryz.call110,fun F w h β us g=>?_⟩
 obtain ⟨v,rfl,hv,hT⟩:=arg1 g
 subst hv
 have hb:(⟨[.tb 1000000 0 124],(1000000,[nilP,x]) :: rest⟩:AS).box 1000000=some [nilP,x]:=look_head ..
 have hp:plainB [nilP,x]=true:=by
  cases x<;>rfl
 obtain ⟨_,_,_,T,vs,hh,hr⟩:=g.boxP hb hp
 obtain ⟨v0,vs',rfl,h0,v1,vs'',rfl,h1,h2⟩:=hr
 simp only[AV.rels] at h2;subst h2
 simp only[nilP,AV.rel,DV.rel] at h0;subst h0
 have hTT:T.1=124:=T.2.trans hT
 rw[hTT] at hh
 have c0:w.cell? ⟨blk β 1000000,0,none⟩=some (.pointer none):=by simp[World.cell?,hh]
 refine(copyCheck_fresh (blk β 1000000) w c0 (by simp[World.shape?,hh]) (by simp[World.frozen?,hh])).mono ?_
 rintro e w' ⟨rfl,rfl⟩
 have g2:=g.store (s:=1000000) (i:=0) (x:=.box 1000000 0) (v:=.pointer (some ⟨blk β 1000000,0,none⟩)) ⟨_,hb,hp⟩ rfl
 have hset:setCells 1000000 0 (.box 1000000 0) ((1000000,[nilP,x]) :: rest)=(1000000,[.box 1000000 0,x]) :: rest:=by simp[setCells]
 rw[hset] at g2
 exact⟨_,β,h,rfl,Gam.result g2 (tup0_rel h)⟩
theorem f110_used (y x:AV) (hy:∀β h v,y.rel β h v→v=.pointer (some ⟨blk β 1000000,0,none⟩)) (rest:List (Nat×List AV)):FnM Tryz.prog G 110 [y] ((1000000,[.box 1000000 0,x]) :: rest) (.d unitC) ((1000000,[.box 1000000 0,x]) :: rest):=by
 refine⟨Tryz.call110,fun F w h β us g=>?_⟩
 obtain ⟨v,rfl,hv⟩:=arg1 g
 have hv:=hy _ _ _ hv
 subst hv
 have hb:(⟨[y],(1000000,[.box 1000000 0,x]) :: rest⟩:AS).box 1000000=some [.box 1000000 0,x]:=look_head ..
 have hp:plainB [.box 1000000 0,x]=true:=by
  cases x<;>rfl
 obtain ⟨_,_,_,T,vs,hh,hr⟩:=g.boxP hb hp
 obtain ⟨v0,vs',rfl,h0,v1,vs'',rfl,h1,h2⟩:=hr
 simp only[AV.rels] at h2;subst h2
 simp only[AV.rel] at h0;subst h0
 have c0:w.cell? ⟨blk β 1000000,0,none⟩=some (.pointer (some ⟨blk β 1000000,0,none⟩)):=by simp[World.cell?,hh]
 refine(copyCheck_used (blk β 1000000) w c0).mono ?_
 rintro e w' ⟨rfl,rfl⟩
 exact⟨_,β,h,rfl,Gam.result g (tup0_rel h)⟩
abbrev byteF:RK:=⟨false,5,true,none⟩
theorem onlyBlk_freeze {g n:Nat} {w:World}:OnlyBlk g w (w.freeze ⟨g,0,none⟩ n):=by
 unfold World.freeze
 split
 ·exact⟨rfl,rfl,rfl,rfl,fun _ _=>rfl⟩
 ·refine⟨rfl,rfl,rfl,by simp,fun k hk=>?_⟩
  simp only[Array.getElem?_modify]
  rw[if_neg (Ne.symm hk)]
theorem heap_freeze {g n:Nat} {w:World} {vs:Array Value} {T:TypeId} {fr:Nat×Nat} (h:w.heap[g]?=some (.cells vs T fr)):∃fr',(w.freeze ⟨g,0,none⟩ n).heap[g]?=some (.cells vs T fr'):=by
 unfold World.freeze
 split
 ·exact⟨fr,h⟩
 ·simp only[Array.getElem?_modify,if_true,h]
  exact⟨_,rfl⟩
theorem RowOK.frozen {h:IH} {k:RK} {sz c m:Nat} {f:Nat→DV} {o o':Option Obj} (hR:RowOK h k sz f c m o) (ho:∀(vs:Array Value) (fr:Nat×Nat),o=some (.cells vs k.ty fr)→∃fr',o'=some (.cells vs k.ty fr')):RowOK h ⟨k.agg,k.ty,true,k.mn⟩ sz f c m o':=by
 obtain ⟨h1,h2⟩:=hR
 refine⟨h1,h2.imp id ?_⟩
 rintro ⟨fr,vs,e,hf,hl,hone,r⟩
 obtain ⟨fr',e'⟩:=ho _ _ e
 exact⟨fr',vs,e',fun hh=>Bool.noConfusion hh,hl,hone,r⟩
theorem f92 (y A:AV) (hy:∀β h v,y.rel β h v→v=.pointer (some ⟨blk β 1000000,0,none⟩)) (fz:Bool) (l:List UInt8) (h0:l≠[]) (hl:l.length≤4611686018427387904) :
  FnM Tryz.prog G 92 [y] [(1000000,[A,.vec 1000001 1 0 l.length]),(1000001,[.arr ⟨false,5,fz,none⟩ 1 (byteL l)])] (.d (ds (bs l))) [(1000000,[A,.vec 1000001 1 0 l.length]),(1000001,[.arr byteF 1 (byteL l)])]:=by
 refine⟨Tryz.call92,fun F w h β us g=>?_⟩
 obtain ⟨v,rfl,hv⟩:=arg1 g
 have hv:=hy _ _ _ hv
 subst hv
 have hb:(⟨[y],[(1000000,[A,.vec 1000001 1 0 l.length]),(1000001,[.arr ⟨false,5,fz,none⟩ 1 (byteL l)])]⟩:AS).box 1000000=some [A,.vec 1000001 1 0 l.length]:=look_head ..
 have hb1:(⟨[y],[(1000000,[A,.vec 1000001 1 0 l.length]),(1000001,[.arr ⟨false,5,fz,none⟩ 1 (byteL l)])]⟩:AS).box 1000001=some [.arr ⟨false,5,fz,none⟩ 1 (byteL l)]:=by
  simp only[AS.box,Go.Ab.look];rfl
 have hp:plainB [A,.vec 1000001 1 0 l.length]=true:=by
  cases A<;>rfl
 obtain ⟨_,_,_,T,vs,hh,hr⟩:=g.boxP hb hp
 obtain ⟨v0,vs',rfl,hA,v1,vs'',rfl,⟨k1,k2,p,hv1,hpp⟩,h2⟩:=hr
 simp only[AV.rels] at h2;subst h2
 subst hv1
 have hpos:0<l.length:=List.length_pos_iff.2 h0
 have hR:=(g.box _ _ hb1).2
 simp only[Own] at hR
 obtain ⟨r1,r2⟩:=hR
 rcases r2 with r2|⟨fr,us,hu,hfr,hul,hone,hel⟩
 ·omega
 have hp':p=some ⟨blk β 1000001,0,none⟩:=by
  rcases hpp with hpp|hpp
  ·simpa using hpp
  ·omega
 subst hp'
 have hRow:RowOK h ⟨false,5,fz,none⟩ 1 (byteL l) (room β 1000001) (many β 1000001) w.heap[blk β 1000001]?:=⟨r1,.inr ⟨fr,us,hu,hfr,hul,hone,hel⟩⟩
 have hcap:l.length≤room β 1000001:=by omega
 refine(builder_String (blk β 1000000) (blk β 1000001) (room β 1000001-0) l.length T.1 v0 us.toArray fr l h0 rfl w hh hu (by omega) (by simp[hul];omega) (by omega) ?_).mono ?_
 ·intro j x hx
  have hj:j<l.length:=(List.getElem?_eq_some_iff.1 hx).1
  obtain ⟨v,a1,a2,a3,a4⟩:=hel j (by omega)
  simp only[byteL,hx,Option.getD_some,DV.rel] at a1
  subst a1
  have:=a4 0 (by omega)
  simp only[Nat.mul_one,Nat.add_zero,Value.cells] at this
  simpa using this
 ·rintro e w' ⟨rfl,rfl⟩
  have gd:=g.drew (w.drawn+1)
  have hlive:Live β 1000001 [.arr ⟨false,5,fz,none⟩ 1 (byteL l)]:=show 0<room β 1000001 by omega
  have g2:=gd.write (s:=1000001) (l:=[.arr ⟨false,5,fz,none⟩ 1 (byteL l)]) (l':=[.arr byteF 1 (byteL l)]) (w':=w.drew.freeze ⟨blk β 1000001,0,none⟩ l.length)
   (bx:=[(1000000,[A,.vec 1000001 1 0 l.length]),(1000001,[.arr byteF 1 (byteL l)])]) hb1 hlive onlyBlk_freeze (by
    simp only[Own]
    refine RowOK.frozen (k:=⟨false,5,fz,none⟩) hRow fun vs fr' he=>?_
    exact heap_freeze (w:=w.drew) he) (by
    intro t m ht
    simp only[Go.Ab.look] at ht
    by_cases h1:(1000000:Nat)=t
    ·subst h1
     simp at ht
     subst ht
     exact .inr ⟨by decide,rfl⟩
    ·rw[beq_ne h1,cond_false] at ht
     by_cases h2:(1000001:Nat)=t
     ·subst h2
      simp at ht
      subst ht
      exact .inl ⟨rfl,rfl⟩
     ·rw[beq_ne h2,cond_false] at ht
      cases ht)
  exact⟨_,β,h,rfl,Gam.result g2 (r:=.d (ds (bs l))) rfl⟩
theorem f92n (y A:AV) (hy:∀β h v,y.rel β h v→v=.pointer (some ⟨blk β 1000000,0,none⟩)) :
  FnM Tryz.prog G 92 [y] [(1000000,[A,.d (.con (.slice none 0 0))])] (.d (ds (bs []))) [(1000000,[A,.d (.con (.slice none 0 0))])]:=by
 refine⟨Tryz.call92,fun F w h β us g=>?_⟩
 obtain ⟨v,rfl,hv⟩:=arg1 g
 have hv:=hy _ _ _ hv
 subst hv
 have hb:(⟨[y],[(1000000,[A,.d (.con (.slice none 0 0))])]⟩:AS).box 1000000=some [A,.d (.con (.slice none 0 0))]:=look_head ..
 have hp:plainB [A,.d (.con (.slice none 0 0))]=true:=by
  cases A<;>rfl
 obtain ⟨_,_,_,T,vs,hh,hr⟩:=g.boxP hb hp
 obtain ⟨v0,vs',rfl,hA,v1,vs'',rfl,h1,h2⟩:=hr
 simp only[AV.rels] at h2;subst h2
 simp only[AV.rel,DV.rel] at h1;subst h1
 refine(builder_String_nil (blk β 1000000) T.1 v0 w hh).mono ?_
 rintro e w' ⟨rfl,rfl⟩
 exact⟨_,β,h,rfl,Gam.result (g.drew (w.drawn+1)) (r:=.d (ds (bs []))) rfl⟩
abbrev byteK:RK:=⟨false,5,false,none⟩
def orcCC:Orc:={ d:=fun _ _=>none,m:=fun f _ pre=>match f,pre with
 | 110,(u,[.d (.con (.pointer none)),x]) :: rest=>some (.d unitC,(u,[.box u 0,x]) :: rest)
 | 110,(u,[.box v 0,x]) :: rest=>some (.d unitC,(u,[.box v 0,x]) :: rest)
 | _,_=>none }
theorem byteD_L (s:ByteArray):byteD s=byteL s.data.toList:=by
 funext i
 simp only[byteD,byteL,byteAt,Array.getElem?_toList]
theorem byteL_app (l m:List UInt8):(fun i=>bif Nat.blt i l.length then byteL l i else byteL m (i-l.length))=byteL (l++m):=by
 funext i
 cases h:Nat.blt i l.length with
 | true=>
  rw[Nat.blt_eq] at h
  simp only[cond_true,byteL,List.getElem?_append_left h]
 | false=>
  have h:¬i<l.length:=by rw[←Nat.blt_eq,h];decide
  simp only[cond_false,byteL,List.getElem?_append_right (Nat.le_of_not_lt h)]
theorem f91_fresh (s:ByteArray) (hs:s.size≤281474976710):FnM Tryz.prog G 91 [.tb 1000000 0 124,vs s] [(1000000,[nilP,.d (.con (.slice none 0 0))])] (.d (.tup [di s.size,.con .nilIface]))
  [(1000000,[.box 1000000 0,.vec 14 1 0 s.data.toList.length]),(14,[.arr byteK 1 (byteL s.data.toList)])]:=by
 refine FnM.walk (orc:=orcCC) (keep:=[]) [] follows (by kernel_rfl) Tryz.func91 rfl Tryz.call91 ?_
 refine of_tr (fun _ _ _ _=>(FnM Tryz.prog G 110 [(.tb 1000000 0 124)] [(1000000,[(.d (.con (.pointer none))),(.d (.con (.slice none 0 0)))])] (.d (.tup [])) [(1000000,[(.box 1000000 0),(.d (.con (.slice none 0 0)))])]∧((s.size*1≤1099511627776)∧(s.size≤1099511627776))∧(ZS ((.d (.tup [(di (↑s.size)),(.con .nilIface)])):AV))∧((some [(.box 1000000 0),(.vec 14 1 0 s.size)]):(Option (List AV)))=(some [(.box 1000000 0),(.vec 14 1 0 s.data.toList.length)])∧((some [(.arr ⟨false,5,false,none⟩ 1 (byteD s))]):(Option (List AV)))=(some [(.arr ⟨false,5,false,none⟩ 1 (byteL s.data.toList))])∧True)) (by kernel_rfl) ?_
 refine⟨f110_fresh _ _,⟨by omega,by omega⟩,rfl,?_,?_,trivial⟩
 ·rw[size_list]
 ·rw[byteD_L]
theorem f91_used (s:ByteArray) (l:List UInt8) (hs:l.length+s.size≤281474976710):FnM Tryz.prog G 91 [.tb 1000000 0 124,vs s] [(1000000,[.box 1000000 0,.vec 1000001 1 0 l.length]),(1000001,[.arr byteK 1 (byteL l)])] (.d (.tup [di s.size,.con .nilIface]))
  [(1000000,[.box 1000000 0,.vec 14 1 0 (l++s.data.toList).length]),(14,[.arr byteK 1 (byteL (l++s.data.toList))])]:=by
 refine FnM.walk (orc:=orcCC) (keep:=[]) [] follows (by kernel_rfl) Tryz.func91 rfl Tryz.call91 ?_
 refine of_tr (fun _ _ _ _=>(FnM Tryz.prog G 110 [(.tb 1000000 0 124)] [(1000000,[(.box 1000000 0),(.vec 1000001 1 0 l.length)]),(1000001,[(.arr ⟨false,5,false,none⟩ 1 (byteL l))])] (.d (.tup [])) [(1000000,[(.box 1000000 0),(.vec 1000001 1 0 l.length)]),(1000001,[(.arr ⟨false,5,false,none⟩ 1 (byteL l))])]∧(((l.length+s.size)*1≤1099511627776)∧(l.length+s.size≤1099511627776))∧(ZS ((.d (.tup [(di (↑s.size)),(.con .nilIface)])):AV))∧((some [(.box 1000000 0),(.vec 14 1 0 (l.length+s.size))]):(Option (List AV)))=(some [(.box 1000000 0),(.vec 14 1 0 (l++s.data.toList).length)])∧((some [(.arr ⟨false,5,false,none⟩ 1 (fun i=>bif i.blt l.length then byteL l i else byteD s (i-l.length)))]):(Option (List AV)))=(some [(.arr ⟨false,5,false,none⟩ 1 (byteL (l++s.data.toList)))])∧True)) (by kernel_rfl) ?_
 refine⟨f110_used (.tb 1000000 0 124) _ (fun β h v hv=>hv.1) _,⟨by omega,by omega⟩,rfl,?_,?_,trivial⟩
 ·rw[List.length_append,size_list]
 ·rw[byteD_L,byteL_app]
end Go.Proofs
namespace Go.Proofs
open Go Go.Ab
def fieldL (f:ByteArray):List UInt8:=Lib.itoa (f.size:Int)++[58]++f.data.toList
def packL:List ByteArray→List UInt8
 | []=>[]
 | f :: l=>fieldL f++packL l
theorem packL_app (l m:List ByteArray):packL (l++m)=packL l++packL m:=by
 induction l with
 | nil=>rfl
 | cons f l ih=>simp only[List.cons_append,packL,ih,List.append_assoc]
def packBad (l:List ByteArray):Bool:=decide (l.length>4096)||decide ((packL l).length>30000)
def packS (l:List ByteArray):ByteArray:=bif packBad l then ByteArray.empty else bs (packL l)
def packE (l:List ByteArray):Int:=bif packBad l then 8 else 0
def SmallF (l:List ByteArray):Prop:=l.length≤100000∧∀f∈l,f.size≤100000
def sAt (l:List ByteArray) (i:Nat):ByteArray:=l.getD i ByteArray.empty
theorem sAt_get {l:List ByteArray} {i:Nat} (h:i<l.length):sAt l i=l[i]:=by
 simp[sAt,h]
theorem packL_take {l:List ByteArray} {i:Nat} (h:i<l.length):packL (l.take (i+1))=packL (l.take i)++fieldL (sAt l i):=by
 rw[List.take_succ_eq_append_getElem h,packL_app,sAt_get h]
 simp[packL]
theorem fieldL_len (f:ByteArray):(fieldL f).length=(Lib.itoa (f.size:Int)).length+1+f.size:=by
 unfold fieldL
 rw[List.length_append,List.length_append,size_list];rfl
theorem itoa_len (n:Int) (h:I64 n):(Lib.itoa n).length≤21:=Lib.itoa_length_le n h.1 h.2
theorem SmallF.at {l:List ByteArray} (hl:SmallF l) {i:Nat} (h:i<l.length):(sAt l i).size≤100000:=by
 rw[sAt_get h];exact hl.2 _ (List.getElem_mem h)
theorem SmallF.len {l:List ByteArray} (hl:SmallF l):∀i,i≤l.length→(packL (l.take i)).length≤i*100022
 | 0,_=>by simp[packL]
 | i+1,h=>by
  have:=SmallF.len hl i (by omega)
  have h1:=hl.at (i:=i) (by omega)
  have h2:=itoa_len ((sAt l i).size:Int) ⟨by omega,by omega⟩
  rw[packL_take (by omega),List.length_append,fieldL_len]
  omega
end Go.Proofs
namespace Go.Proofs
open Go.Shelf
def Tryz.laysM171_ren:Go.Shelf.Ren:=⟨fun|171=>67|243=>94|246=>111|283=>132|284=>133|285=>134|286=>135|129=>157|317=>156|318=>158|319=>159|320=>160|337=>184|338=>185|n=>n,fun|3=>3|9=>9|2=>2|4=>4|171=>158|0=>0|53=>159|37=>122|5=>5|173=>162|212=>185|51=>186|20=>20|213=>187|46=>167|232=>209|233=>210|n=>n,fun|17=>2|18=>4|19=>5|n=>n⟩
theorem Tryz.laysM171:Go.Proofs.LaysM.n171 Tryz.prog Tryz.laysM171_ren:={
 mixed:=by kernel_rfl
 f129:=Tryz.func157.trans (congrArg some (by kernel_rfl))
 f171:=Tryz.func67.trans (congrArg some (by kernel_rfl))
 f243:=Tryz.func94.trans (congrArg some (by kernel_rfl))
 f246:=Tryz.func111.trans (congrArg some (by kernel_rfl))
 f283:=Tryz.func132.trans (congrArg some (by kernel_rfl))
 f284:=Tryz.func133.trans (congrArg some (by kernel_rfl))
 f285:=Tryz.func134.trans (congrArg some (by kernel_rfl))
 f286:=Tryz.func135.trans (congrArg some (by kernel_rfl))
 f317:=Tryz.func156.trans (congrArg some (by kernel_rfl))
 f318:=Tryz.func158.trans (congrArg some (by kernel_rfl))
 f319:=Tryz.func159.trans (congrArg some (by kernel_rfl))
 f320:=Tryz.func160.trans (congrArg some (by kernel_rfl))
 f337:=Tryz.func184.trans (congrArg some (by kernel_rfl))
 f338:=Tryz.func185.trans (congrArg some (by kernel_rfl))
 t0:=Tryz.underlying0
 a0:=Tryz.isAgg0
 z0:=Tryz.sizeOf0
 v0:=Tryz.zeroValue0
 t2:=Tryz.underlying2
 a2:=Tryz.isAgg2
 z2:=Tryz.sizeOf2
 v2:=Tryz.zeroValue2
 t3:=Tryz.underlying3
 a3:=Tryz.isAgg3
 z3:=Tryz.sizeOf3
 v3:=Tryz.zeroValue3
 t4:=Tryz.underlying4
 a4:=Tryz.isAgg4
 z4:=Tryz.sizeOf4
 v4:=Tryz.zeroValue4
 t5:=Tryz.underlying5
 a5:=Tryz.isAgg5
 z5:=Tryz.sizeOf5
 v5:=Tryz.zeroValue5
 t9:=Tryz.underlying9
 a9:=Tryz.isAgg9
 z9:=Tryz.sizeOf9
 v9:=Tryz.zeroValue9
 t20:=Tryz.underlying20
 a20:=Tryz.isAgg20
 z20:=Tryz.sizeOf20
 v20:=Tryz.zeroValue20
 t37:=Tryz.underlying122
 a37:=Tryz.isAgg122
 z37:=Tryz.sizeOf122
 v37:=Tryz.zeroValue122
 t46:=Tryz.underlying167
 a46:=Tryz.isAgg167
 z46:=Tryz.sizeOf167
 v46:=Tryz.zeroValue167
 t51:=Tryz.underlying186
 a51:=Tryz.isAgg186
 z51:=Tryz.sizeOf186
 v51:=Tryz.zeroValue186
 t53:=Tryz.underlying159
 a53:=Tryz.isAgg159
 z53:=Tryz.sizeOf159
 v53:=Tryz.zeroValue159
 t171:=Tryz.underlying158
 a171:=Tryz.isAgg158
 z171:=Tryz.sizeOf158
 v171:=Tryz.zeroValue158
 t173:=Tryz.underlying162
 a173:=Tryz.isAgg162
 z173:=Tryz.sizeOf162
 v173:=Tryz.zeroValue162
 t212:=Tryz.underlying185
 a212:=Tryz.isAgg185
 z212:=Tryz.sizeOf185
 v212:=Tryz.zeroValue185
 t213:=Tryz.underlying187
 a213:=Tryz.isAgg187
 z213:=Tryz.sizeOf187
 t232:=Tryz.underlying209
 a232:=Tryz.isAgg209
 z232:=Tryz.sizeOf209
 v232:=Tryz.zeroValue209
 t233:=Tryz.underlying210
 a233:=Tryz.isAgg210
 z233:=Tryz.sizeOf210
 v233:=Tryz.zeroValue210
 g17:=by kernel_rfl
 g18:=by kernel_rfl
 g19:=by kernel_rfl
 i0:=by kernel_rfl
 i2:=by kernel_rfl
 i3:=by kernel_rfl
 i4:=by kernel_rfl
 i5:=by kernel_rfl
 i9:=by kernel_rfl
 i20:=by kernel_rfl
 i37:=by kernel_rfl
 i46:=by kernel_rfl
 i51:=by kernel_rfl
 i53:=by kernel_rfl
 i171:=by kernel_rfl
 i173:=by kernel_rfl
 i212:=by kernel_rfl
 i232:=by kernel_rfl
 i233:=by kernel_rfl
 m17:=by kernel_rfl
 m18:=by kernel_rfl
 m19:=by kernel_rfl }
open Go.RowKit Go.Sort Go.Lib in
theorem Tryz.strconv_Itoa (n : Int) (h0 : -9223372036854775808 ≤ n) (h1 : n ≤ 9223372036854775807) (w : World) (htab : Lib.TabIs Tryz.prog w "internal/strconv.uint64pow10" .u64 Lib.pow10Tab) :
  Calls Tryz.prog 67 #[.int .i64 n] w fun e w'=>e=.returned (.string ⟨(Lib.itoa n).toArray⟩)∧∃k os,w'=grow (w.drewN k) os:=Any.strconv_Itoa Tryz.laysM171 n h0 h1 w htab
end Go.Proofs
namespace Go.Proofs
open Go Go.Ab Go.RowKit
variable {G:IH}
def Tab (G : IH) : Prop := ∀ w, G.holds w → Lib.TabIs Tryz.prog w "internal/strconv.uint64pow10" .u64 Lib.pow10Tab
theorem f67 (hT:Tab G) (n:Int) (h:I64 n):FnOK Tryz.prog G 67 [di n] (ds (bs (Lib.itoa n))):=by
 refine FnOK.of_calls (args:=[.int .i64 n]) (v:=.string (bs (Lib.itoa n))) Tryz.call67 fun w hw=>?_
 refine Calls.mono (Tryz.strconv_Itoa n h.1 h.2 w (hT w hw)) ?_
 rintro e w' ⟨he,k,os,rfl⟩
 exact⟨he,below_grow w k os⟩
theorem f67' (hT:Tab G) (n:Nat) (h:n≤1000000):FnOK Tryz.prog G 67 [di n] (ds (bs (Lib.itoa n))):=f67 hT n ⟨by omega,by omega⟩
theorem bytesOf_L (l:List UInt8):bytesOf l.length (byteL l)=l:=by
 unfold bytesOf
 apply List.ext_getElem
 ·simp
 ·intro i h1 h2
  simp[byteL,byteOfD,gEe h2]
def orcBm:FuncId→List AV→List (Nat×List AV)→Option (AV×List (Nat×List AV)):=fun f args pre=>match f,args,pre with
 | 91,[_,.d (.con (.string s))],[(b,[.d (.con (.pointer none)),_])]=>some (.d (.tup [di s.size,.con .nilIface]),[(b,[.box b 0,.vec 14 1 0 s.data.toList.length]),(14,[.arr byteK 1 (byteL s.data.toList)])])
 | 91,[_,.d (.con (.string s))],[(b,[.box _ 0,.vec _ 1 0 n]),(_,[.arr _ 1 F])]=>some (.d (.tup [di s.size,.con .nilIface]),[(b,[.box b 0,.vec 14 1 0 (bytesOf n F++s.data.toList).length]),(14,[.arr byteK 1 (byteL (bytesOf n F++s.data.toList))])])
 | 92,[_],[(b,[A,.vec r 1 0 n]),(r',[.arr _ 1 F])]=>some (.d (ds (bs (bytesOf n F))),[(b,[A,.vec r 1 0 n]),(r',[.arr byteF 1 F])])
 | 92,[_],[(b,[A,.d (.con (.slice none 0 0))])]=>some (.d (ds (bs [])),[(b,[A,.d (.con (.slice none 0 0))])])
 | _,_,_=>none
def orcPkD:Oracle:=fun f args=>match f,args with
 | 67,[.con (.int .i64 n)]=>some (ds (bs (Lib.itoa n)))
 | _,_=>none
def orcPk:Orc:={ d:=orcPkD,ty:=fun T=>Nat.beq T 124,m:=orcBm }
def strF (l:List ByteArray) (i:Nat):DV:=ds (sAt l i)
abbrev sRow (l:List ByteArray):DV:=.slc 1 l.length (strF l)
noncomputable def S58 (l:List ByteArray) (i:Nat):AS:=⟨regs Tryz.f58.ntmps [(0,.d (sRow l)),(4,vi (packL (l.take i)).length),(10,.d (sRow l)),(11,vi l.length),(12,vi i)],[]⟩
def box58 (t:List UInt8):Nat→List (Nat×List AV)
 | 0=>[(7,[nilP,.d (.con (.slice none 0 0))])]
 | _+1=>[(7,[.box 7 0,.vec 500 1 0 t.length]),(500,[.arr byteK 1 (byteL t)])]
noncomputable def S58b (l:List ByteArray) (i:Nat):AS:=⟨regs Tryz.f58.ntmps [(7,.tb 7 0 124),(34,.d (sRow l)),(35,vi l.length),(36,vi i)],box58 (packL (l.take i)) i⟩
theorem f58 (hT:Tab G) (l:List ByteArray) (hl:SmallF l):FnOK Tryz.prog G 58 [sRow l] (.tup [ds (packS l),di (packE l)]):=by
 refine FnOK.walk (orc:=orcPk) (keep:=[]) follows Tryz.func58 rfl Tryz.call58 ?_
 refine of_tr (fun ZT ZW ZQ _=>ZW [cd Tryz.f58 [1,1,0,1,0],(.blk 0),cd Tryz.f58 [1,1,1]] (stS ZT []) ZQ) (by kernel_rfl) ?_
 have hll:=hl.1
 refine AWP.loop (c:=cAt (bodyOf Tryz.f58) [1,1,0,1,0,0]) (by kernel_rfl) (S58 l) (fun i=>i≤l.length) (fun i=>l.length-i) 0 ?_ (Nat.zero_le _) ?_
 ·exact AS.leA (by kernel_rfl)
 ·intro i hi
  have hlen:=hl.len i hi
  refine walk (orc:=orcPk) (keep:=[]) (cuts:=[]) (n:=1000) follows ?_
  refine of_rd (fun ZT ZW ZQ ZK ZA _=>(fun Za=>((((decide ((↑i:Int)<↑l.length))=true)→(((0≤(↑i:Int))∧((↑i:Int)<↑l.length))∧(ZK 67 [(di (↑(sAt l (↑i:Int).toNat).size))] (ds Za)∧(I64 (↑Za.size+1))∧(I64 (↑Za.size+1 + ↑(sAt l (↑i:Int).toNat).size))∧(I64 (↑(packL (List.take i l)).length+(↑Za.size+1 + ↑(sAt l (↑i:Int).toNat).size))))∧(I64 (↑i+1))∧(ZA (stS ZT [0]))))∧(((decide ((↑i:Int)<↑l.length))=false)→ZW [cd Tryz.f58 [1,1,1]] (stS ZT [1]) ZQ))) (bs (Lib.itoa ↑(sAt l (↑i:Int).toNat).size))) (by kernel_rfl) ?_
  try dsimp only
  simp only[Int.toNat_natCast]
  refine⟨fun h=>?_,fun h=>?_⟩
  ·have hi':i<l.length:=by simpa using h
   have h1:=hl.at hi'
   have h2:=itoa_len ((sAt l i).size:Int) ⟨by omega,by omega⟩
   rw[bs_size]
   refine⟨⟨by omega,by omega⟩,⟨f67' hT _ (by omega),⟨by omega,by omega⟩,⟨by omega,by omega⟩,by omega,by omega⟩,⟨by omega,by omega⟩,Again.mk (i+1) ?_ (by omega) (by omega)⟩
   refine AS.leZ [1] [] (b:=((T0∧((vi (↑(packL (List.take i l)).length+(↑(bs (Lib.itoa ↑(sAt l (↑i:Int).toNat).size)).size+1 + ↑(sAt l (↑i:Int).toNat).size))):AV)=(vi (↑(packL (List.take (i+1) l)).length))∧T0∧T0∧T0∧True)∧True)) (by kernel_rfl) (by kernel_rfl) ?_
   refine⟨⟨rfl,?_,rfl,rfl,rfl,trivial⟩,trivial⟩
   rw[packL_take hi',List.length_append,fieldL_len]
   push_cast;rfl
  ·have:i=l.length:=by simp at h;omega
   subst this
   simp only[List.take_length] at hlen⊢
   refine walk (orc:=orcPk) (keep:=[]) (cuts:=[]) (n:=1000) follows ?_
   refine of_tr (fun ZT ZW ZQ _=>(fun Za=>(((Za=true)→(((.tup [(ds (ByteArray.mk #[])),(di 8)]):DV)=(.tup [(ds (packS l)),(di (packE l))])))∧((Za=false)→ZW [cd Tryz.f58 [1,1,1,1,1,0,1,0],(.blk 2),cd Tryz.f58 [1,1,1,1,1,1]] (stS ZT [1]) ZQ))) (decide ((↑l.length:Int)>4096)||decide ((↑(packL (List.take l.length l)).length:Int)>30000))) (by kernel_rfl) ?_
   refine⟨fun h=>?_,fun h=>?_⟩
   ·have hb:packBad l=true:=by
     unfold packBad
     simp at h⊢
     omega
    unfold packS packE
    rw[hb];rfl
   have hb:packBad l=false:=by
    unfold packBad
    simp at h⊢
    omega
   have hbl:(packL l).length≤30000:=by
    simp at h
    omega
   have hR:(DV.tup [ds (packS l),di (packE l)])=.tup [ds (bs (packL l)),di 0]:=by
    unfold packS packE
    rw[hb];rfl
   rw[hR]
   refine AWP.loop (c:=cAt (bodyOf Tryz.f58) [1,1,1,1,1,0,1,0,0]) (by kernel_rfl) (S58b l) (fun i=>i≤l.length) (fun i=>l.length-i) 0 ?_ (Nat.zero_le _) ?_
   ·exact AS.leA (by kernel_rfl)
   ·intro i hi
    have hpl:∀i,i<l.length→(packL (l.take i)).length+(fieldL (sAt l i)).length≤30000:=by
     intro i hi
     have e:packL l=packL (l.take (i+1))++packL (l.drop (i+1)):=by rw[←packL_app,List.take_append_drop]
     rw[e,packL_take hi,List.length_append,List.length_append] at hbl
     omega
    have hfs:∀f:ByteArray,(bs (Lib.itoa (f.size:Int)) ++ { data:=#[58] }++f).size=(fieldL f).length:=fun f=>by
     rw[ByteArray.size_append,ByteArray.size_append,bs_size,fieldL_len];rfl
    have hfs2:∀f:ByteArray,(bs (Lib.itoa (f.size:Int)) ++ { data:=#[58] }).size=(Lib.itoa (f.size:Int)).length+1:=fun f=>by
     rw[ByteArray.size_append,bs_size];rfl
    have hz1:({ data:=#[58] }:ByteArray).size=1:=rfl
    have hy:∀(β:Nat→Nat) (h:IH) (v:Value),(AV.tb 1000000 0 124).rel β h v→v=.pointer (some ⟨blk β 1000000,0,none⟩):=fun β h v hv=>hv.1
    cases i with
    | zero=>
     refine walk (orc:=orcPk) (keep:=[]) (cuts:=[]) (n:=1000) follows ?_
     refine of_rd (fun ZT ZW ZQ ZK ZA _=>(fun Za Zb=>((((decide (0<(↑l.length:Int)))=true)→((((0:Int)≤(0:Int))∧(0<(↑l.length:Int)))∧(ZK 67 [(di (↑(sAt l (Int.toNat 0)).size))] (ds (bs Za))∧((bs Za).size+(ByteArray.mk #[58]).size≤9223372036854775807)∧((bs Za++ByteArray.mk #[58]).size+(sAt l (Int.toNat 0)).size≤9223372036854775807)∧FnM Tryz.prog G 91 [(.tb 1000000 0 124),(vs (bs Za++ByteArray.mk #[58]++sAt l (Int.toNat 0)))] [(1000000,[(.d (.con (.pointer none))),(.d (.con (.slice none 0 0)))])] (.d (.tup [(di (↑(bs Za++ByteArray.mk #[58]++sAt l (Int.toNat 0)).size)),(.con .nilIface)])) [(1000000,[(.box 1000000 0),(.vec 14 1 0 Zb.length)]),(14,[(.arr ⟨false,5,false,none⟩ 1 (byteL Zb))])])∧(I64 (0+1))∧(ZA (stS ZT [0]))))∧(((decide (0<(↑l.length:Int)))=false)→ZW [cd Tryz.f58 [1,1,1,1,1,1]] (stS ZT [1]) ZQ))) (Lib.itoa ↑(sAt l (Int.toNat 0)).size) (Lib.itoa ↑(sAt l (Int.toNat 0)).size++[58]++(sAt l (Int.toNat 0)).data.toList)) (by kernel_rfl) ?_
     try dsimp only
     have e0:Int.toNat (0:Int)=0:=rfl
     rw[e0]
     refine⟨fun h=>?_,fun h=>?_⟩
     ·have hi':0<l.length:=by simpa using h
      have h1:=hl.at hi'
      have h2:=itoa_len ((sAt l 0).size:Int) ⟨by omega,by omega⟩
      have h3:=hpl 0 hi'
      have h4:=hfs (sAt l 0)
      have h5:=hfs2 (sAt l 0)
      refine⟨⟨by omega,by omega⟩,⟨f67' hT _ (by omega),by rw[bs_size];omega,by omega,f91_fresh _ (by omega)⟩,⟨by decide,by decide⟩,Again.mkR [(47014,500)] rfl 1 ?_ (by omega) (by omega)⟩
      refine AS.leZ [] [0,1] (b:=((T0∧T0∧T0∧T0∧True)∧((some [(.box 7 0),(.vec 500 1 0 (Lib.itoa ↑(sAt l (↑0:Int).toNat).size++[58]++(sAt l (↑0:Int).toNat).data.toList).length)]):(Option (List AV)))=(some [(.box 7 0),(.vec 500 1 0 (packL (List.take 1 l)).length)])∧((some [(.arr ⟨false,5,false,none⟩ 1 (byteL (Lib.itoa ↑(sAt l (↑0:Int).toNat).size++[58]++(sAt l (↑0:Int).toNat).data.toList)))]):(Option (List AV)))=(some [(.arr ⟨false,5,false,none⟩ 1 (byteL (packL (List.take 1 l))))])∧True)) (by kernel_rfl) (by kernel_rfl) ?_
      refine⟨⟨rfl,rfl,rfl,rfl,trivial⟩,?_,?_,trivial⟩
      ·rw[packL_take hi'];rfl
      ·rw[packL_take hi'];rfl
     ·have h:l.length=0:=by simpa using h
      have hnil:l=[]:=List.eq_nil_of_length_eq_zero h
      subst hnil
      refine walk (orc:=orcPk) (keep:=[]) (cuts:=[]) (n:=1000) follows ?_
      refine of_tr (fun _ _ _ _=>(FnM Tryz.prog G 92 [(.tb 1000000 0 124)] [(1000000,[(.d (.con (.pointer none))),(.d (.con (.slice none 0 0)))])] (vs (bs [])) [(1000000,[(.d (.con (.pointer none))),(.d (.con (.slice none 0 0)))])]∧((.tup [(ds (bs [])),(di 0)]):DV)=(.tup [(ds (bs (packL []))),(di 0)]))) (by kernel_rfl) ?_
      exact⟨f92n _ nilP hy,rfl⟩
    | succ i=>
     refine walk (orc:=orcPk) (keep:=[]) (cuts:=[]) (n:=1000) follows ?_
     refine of_rd (fun ZT ZW ZQ ZK ZA _=>(fun (Za:Int) Zb=>((((decide ((↑(i+1):Int)<↑l.length))=true)→(((0≤(↑(i+1):Int))∧((↑(i+1):Int)<↑l.length))∧(ZK 67 [(di (Za))] (ds (bs (Lib.itoa Za)))∧(ByteArray.size (bs (Lib.itoa Za))+ByteArray.size { data:=#[58] }≤9223372036854775807)∧(ByteArray.size (bs (Lib.itoa Za) ++ { data:=#[58] })+ByteArray.size Zb≤9223372036854775807)∧FnM Tryz.prog G 91 [(.tb 1000000 0 124),(vs (bs (Lib.itoa Za) ++ { data:=#[58] }++sAt l (Int.toNat (↑(i+1):Int))))] [(1000000,[(.box 1000000 0),(.vec 1000001 1 0 (packL (List.take (i+1) l)).length)]),(1000001,[(.arr ⟨false,5,false,none⟩ 1 (byteL (packL (List.take (i+1) l))))])] (.d (.tup [(di ((↑(ByteArray.size (bs (Lib.itoa Za) ++ { data:=#[58] }++sAt l (Int.toNat (↑(i+1):Int)))):Int))),(.con .nilIface)])) [(1000000,[(.box 1000000 0),(.vec 14 1 0 (List.length (bytesOf (List.length (packL (List.take (i+1) l))) (byteL (packL (List.take (i+1) l)))++(Lib.itoa Za++[58]++Array.toList (ByteArray.data Zb)))))]),(14,[(.arr ⟨false,5,false,none⟩ 1 (byteL (bytesOf (List.length (packL (List.take (i+1) l))) (byteL (packL (List.take (i+1) l)))++(Lib.itoa Za++[58]++Array.toList (ByteArray.data Zb)))))])])∧(I64 (↑(i+1)+1))∧(ZA (stS ZT [0]))))∧(((decide ((↑(i+1):Int)<↑l.length))=false)→ZW [cd Tryz.f58 [1,1,1,1,1,1]] (stS ZT [1]) ZQ))) (↑(ByteArray.size (sAt l (Int.toNat (↑(i+1):Int)))):Int) (sAt l (Int.toNat (↑(i+1):Int)))) (by kernel_rfl) ?_
     try dsimp only
     simp only[Int.toNat_natCast,bytesOf_L]
     have hne:packL (l.take (i+1))≠[]:=by
      rw[packL_take (by omega)]
      unfold fieldL
      intro e
      have:=congrArg List.length e
      simp at this
     refine⟨fun h=>?_,fun h=>?_⟩
     ·have hi':i+1<l.length:=by simp at h;omega
      have h1:=hl.at hi'
      have h2:=itoa_len ((sAt l (i+1)).size:Int) ⟨by omega,by omega⟩
      have h3:=hpl (i+1) hi'
      have h4:=hfs (sAt l (i+1))
      have h5:=hfs2 (sAt l (i+1))
      refine⟨⟨by omega,by omega⟩,⟨f67' hT _ (by omega),by rw[bs_size];omega,by omega,f91_used _ _ (by omega)⟩,⟨by omega,by omega⟩,Again.mkR [(47014,500)] rfl (i+1+1) ?_ (by omega) (by omega)⟩
      refine AS.leZ [] [0,1] (b:=((T0∧T0∧T0∧T0∧True)∧((some [(.box 7 0),(.vec 500 1 0 (List.length (bytesOf (List.length (packL (List.take (i+1) l))) (byteL (packL (List.take (i+1) l)))++(Lib.itoa (↑(ByteArray.size (sAt l (Int.toNat (↑(i+1):Int)))):Int)++[58]++Array.toList (ByteArray.data (sAt l (Int.toNat (↑(i+1):Int))))))))]):(Option (List AV)))=(some [(.box 7 0),(.vec 500 1 0 (packL (List.take (i+1+1) l)).length)])∧((some [(.arr ⟨false,5,false,none⟩ 1 (byteL (bytesOf (List.length (packL (List.take (i+1) l))) (byteL (packL (List.take (i+1) l)))++(Lib.itoa (↑(ByteArray.size (sAt l (Int.toNat (↑(i+1):Int)))):Int)++[58]++Array.toList (ByteArray.data (sAt l (Int.toNat (↑(i+1):Int))))))))]):(Option (List AV)))=(some [(.arr ⟨false,5,false,none⟩ 1 (byteL (packL (List.take (i+1+1) l))))])∧True)) (by kernel_rfl) (by kernel_rfl) ?_
      refine⟨⟨rfl,rfl,rfl,rfl,trivial⟩,?_,?_,trivial⟩
      ·rw[bytesOf_L,packL_take hi'];rfl
      ·rw[bytesOf_L,packL_take hi'];rfl
     ·have:i+1=l.length:=by simp at h;omega
      have ht:packL (l.take (i+1))=packL l:=by rw[this,List.take_length]
      rw[ht] at hne
      refine walk (orc:=orcPk) (keep:=[]) (cuts:=[]) (n:=1000) follows ?_
      refine of_tr (fun _ _ _ _=>(fun Za=>(FnM Tryz.prog G 92 [(.tb 1000000 0 124)] [(1000000,[(.box 1000000 0),(.vec 1000001 1 0 (packL (List.take (i+1) l)).length)]),(1000001,[(.arr ⟨false,5,false,none⟩ 1 Za)])] (vs (bs (bytesOf (packL (List.take (i+1) l)).length Za))) [(1000000,[(.box 1000000 0),(.vec 1000001 1 0 (packL (List.take (i+1) l)).length)]),(1000001,[(.arr ⟨false,5,true,none⟩ 1 Za)])]∧((.tup [(ds (bs (bytesOf (packL (List.take (i+1) l)).length Za))),(di 0)]):DV)=(.tup [(ds (bs (packL l))),(di 0)]))) (byteL (packL (List.take (i+1) l)))) (by kernel_rfl) ?_
      try dsimp only
      simp only[bytesOf_L,ht]
      exact⟨f92 _ _ hy false _ hne (by omega),trivial⟩
end Go.Proofs
namespace Go.Proofs
structure Ky where
 st:ByteArray
 ex:ByteArray
 n:Int
 deriving DecidableEq
structure Gv where
 v:Int
 h:Int
 t:Int
 s:ByteArray
 deriving DecidableEq
structure Al where
 t:Int
 s:ByteArray
 dec:Bool
 acc:Bool
 at_:Int
 ans:ByteArray
 deriving DecidableEq
structure En where
 k:Ky
 t:Int
 s:ByteArray
 gs:List Gv
 aps:List Al
 deriving DecidableEq
structure Bk where
 t:Int
 es:List En
 deriving DecidableEq
structure Ev where
 kind:Int
 k:Ky
 t:Int
 v:Int
 h:Int
 s:ByteArray
 acc:Bool
 deriving DecidableEq
def ky0:Ky:=⟨.empty,.empty,0⟩
def en0:En:=⟨ky0,0,.empty,[],[]⟩
def ev0:Ev:=⟨0,ky0,0,0,0,.empty,false⟩
def bk0:Bk:=⟨0,[]⟩
def alE (k:Ky) (a:Al):List Ev:=⟨2,k,a.t,0,0,a.s,false⟩ :: if a.dec=true then [⟨3,k,a.at_,0,0,a.ans,a.acc⟩] else []
def gvE (k:Ky) (g:Gv):Ev:=⟨1,k,g.t,g.v,g.h,g.s,false⟩
def suE (x:En):Ev:=⟨0,x.k,x.t,0,0,x.s,false⟩
def enE (x:En):List Ev:=suE x :: (x.gs.map (gvE x.k)++(x.aps.map (alE x.k)).flatten)
def allE (es:List En):List Ev:=(es.map enE).flatten
def ins (e:Ev):List Ev→List Ev
 | []=>[e]
 | a :: l=>if e.t<a.t then e :: a :: l else a :: ins e l
def srt (l:List Ev):List Ev:=l.foldl (fun m e=>ins e m) []
def evsB (b:Bk):List Ev:=srt (allE b.es)
def keyS (es:List En):List Ky:=es.map En.k
def findB (es:List En) (k:Ky):Option Nat:=(keyS es).findIdx? fun x=>decide (x=k)
def samK (k x:Ky):Bool:=decide (x.st=k.st)&&decide (x.ex=k.ex)
def cntB (es:List En) (k:Ky):Nat:=((keyS es).filter (samK k)).length
def hasB (es:List En) (e:Ev):Bool:=match findB es e.k with
 | some i=>decide (e∈enE (es.getD i en0))
 | none=>false
def openA (x:En):Bool:=match x.aps.getLast? with|some a=>!a.dec|none=>false
def lowG (x:En) (v:Int):Bool:=match x.gs.getLast? with|some g=>decide (v≤g.v)|none=>false
def codeE (x:En) (e:Ev):Int:=
 if e.kind=1 then if lowG x e.v=true then 9 else if 16≤x.gs.length then 8 else 0
 else if e.kind=2 then if x.gs.length=0∨openA x=true then 9 else if 16≤x.aps.length then 8 else 0
 else if openA x=true then 0 else 9
def stepE (x:En) (e:Ev):En:=
 if e.kind=1 then { x with gs:=x.gs++[⟨e.v,e.h,e.t,e.s⟩] }
 else if e.kind=2 then { x with aps:=x.aps++[⟨e.t,e.s,false,false,0,.empty⟩] }
 else { x with aps:=x.aps.dropLast++(x.aps.getLast?.toList.map fun a=>{ a with dec:=true,acc:=e.acc,at_:=e.t,ans:=e.s }) }
def appC (b:Bk) (e:Ev):Int:=
 if hasB b.es e=true then 6 else if e.t<b.t then 2
 else if e.kind=0 then (if e.k.n≠(cntB b.es e.k:Int)+1 then 9 else if 256≤b.es.length then 8 else 0)
 else match findB b.es e.k with
  | none=>7
  | some i=>codeE (b.es.getD i en0) e
def appE (es:List En) (e:Ev):List En:=
 if e.kind=0 then es++[⟨e.k,e.t,e.s,[],[]⟩] else match findB es e.k with
  | some i=>es.set i (stepE (es.getD i en0) e)
  | none=>es
def appB (b:Bk) (e:Ev):Bk:=⟨e.t,appE b.es e⟩
def formE (e:Ev):Prop:=(e.kind=0∨e.kind=1∨e.kind=2∨e.kind=3)∧(e.kind≠1→e.v=0∧e.h=0)∧(e.kind≠3→e.acc=false)
def repl (ok:Ev→Bool):List Ev→Bk→Option Bk
 | [],b=>some b
 | e :: l,b=>if ok e=true∧appC b e=0 then repl ok l (appB b e) else none
def valB (ok:Ev→Bool) (b:Bk):Bool:=decide (b.es.length≤256)&&decide (repl ok (evsB b) bk0=some b)
theorem ins_max {e:Ev}:∀{l:List Ev},(∀a∈l,a.t≤e.t)→ins e l=l++[e]
 | [],_=>rfl
 | a :: l,h=>by
  have h1:=h a (by simp)
  unfold ins
  rw[if_neg (by omega),ins_max fun x hx=>h x (List.mem_cons_of_mem _ hx)];rfl
theorem ins_app {e:Ev}:∀{l m:List Ev},(∀a∈m,e.t<a.t)→(l≠[]∨m≠[]∨True)→ins e (l++m)=ins e l++m
 | [],[],_,_=>rfl
 | [],a :: m,h,_=>by
  have h1:=h a (by simp)
  show ins e (a :: m)=[e]++a :: m
  unfold ins
  rw[if_pos h1];rfl
 | a :: l,m,h,_=>by
  show ins e (a :: (l++m))=_
  unfold ins
  by_cases h1:e.t<a.t
  ·rw[if_pos h1,if_pos h1];rfl
  ·rw[if_neg h1,if_neg h1,ins_app h (.inr (.inr trivial))];rfl
theorem ins_mem {e x:Ev}:∀{l:List Ev},x∈ins e l↔x=e∨x∈l
 | []=>by simp[ins]
 | a :: l=>by
  unfold ins
  split
  ·simp
  ·simp only[List.mem_cons,ins_mem (l:=l)]
   constructor
   ·rintro (h|h|h)
    ·exact .inr (.inl h)
    ·exact .inl h
    ·exact .inr (.inr h)
   ·rintro (h|h|h)
    ·exact .inr (.inl h)
    ·exact .inl h
    ·exact .inr (.inr h)
theorem srt_snoc (l:List Ev) (e:Ev):srt (l++[e])=ins e (srt l):=by
 unfold srt
 rw[List.foldl_append];rfl
theorem srt_nil:srt []=[]:=rfl
theorem srt_mem {x:Ev} (l:List Ev):x∈srt l↔x∈l:=by
 suffices h:∀r:List Ev,(x∈srt r.reverse↔x∈r.reverse) by
  have:=h l.reverse
  rwa [List.reverse_reverse] at this
 intro r
 induction r with
 | nil=>exact Iff.rfl
 | cons a r ih=>rw[List.reverse_cons,srt_snoc,ins_mem,ih];simp[or_comm]
theorem srt_last (M:Int) (l:List Ev) (h:∀a∈l,a.t≤M):srt l=srt (l.filter fun a=>decide (a.t<M))++l.filter fun a=>decide (a.t=M):=by
 suffices h:∀r:List Ev,(∀a∈r,a.t≤M)→srt r.reverse=srt (r.reverse.filter fun a=>decide (a.t<M))++r.reverse.filter fun a=>decide (a.t=M) by
  have:=h l.reverse (fun a ha=>by rename_i q;exact q a (List.mem_reverse.1 ha))
  rwa [List.reverse_reverse] at this
 intro r
 induction r with
 | nil=>intro _;rfl
 | cons a r ih=>
  intro h
  have ih:=ih fun x hx=>h x (List.mem_cons_of_mem _ hx)
  have ha:=h a (by simp)
  rw[List.reverse_cons,srt_snoc,List.filter_append,List.filter_append,ih]
  by_cases hm:a.t=M
  ·have h1:¬a.t<M:=by omega
   rw[ins_max]
   ·simp[hm,List.append_assoc]
   ·intro x hx
    rcases List.mem_append.1 hx with hx|hx
    ·have:=(List.mem_filter.1 ((srt_mem _).1 hx)).2
     simp at this;omega
    ·have:=(List.mem_filter.1 hx).2
     simp at this;omega
  ·have h1:a.t<M:=by omega
   rw[ins_app (fun x hx=>by have:=(List.mem_filter.1 hx).2;simp at this;omega) (.inr (.inr trivial))]
   simp only[List.filter_cons,h1,hm,decide_true,decide_false,if_true,List.filter_nil,List.append_nil,Bool.false_eq_true,if_false]
   rw[srt_snoc]
theorem srt_put (P Q:List Ev) (e:Ev) (h:∀a∈P++Q,a.t≤e.t):∃pre,srt (P++Q)=pre++Q.filter (fun a=>decide (a.t=e.t))∧srt (P++e :: Q)=pre++e :: Q.filter (fun a=>decide (a.t=e.t)):=by
 have h2:∀a∈P++e :: Q,a.t≤e.t:=fun a ha=>by
  rcases List.mem_append.1 ha with ha|ha
  ·exact h a (List.mem_append_left _ ha)
  ·rcases List.mem_cons.1 ha with rfl|ha
   ·exact Int.le_refl _
   ·exact h a (List.mem_append_right _ ha)
 refine⟨srt ((P++Q).filter fun a=>decide (a.t<e.t))++P.filter fun a=>decide (a.t=e.t),?_,?_⟩
 ·have e3:(P++Q).filter (fun a=>decide (a.t=e.t))=P.filter (fun a=>decide (a.t=e.t))++Q.filter fun a=>decide (a.t=e.t):=List.filter_append ..
  rw[srt_last e.t _ h,e3,List.append_assoc]
 ·rw[srt_last e.t _ h2]
  have e1:(P++e :: Q).filter (fun a=>decide (a.t<e.t))=(P++Q).filter fun a=>decide (a.t<e.t):=by
   rw[List.filter_append,List.filter_append,List.filter_cons,if_neg (by simp)]
  have e2:(P++e :: Q).filter (fun a=>decide (a.t=e.t))=P.filter (fun a=>decide (a.t=e.t))++e :: Q.filter fun a=>decide (a.t=e.t):=by
   rw[List.filter_append,List.filter_cons,if_pos (by simp)]
  rw[e1,e2,List.append_assoc]
end Go.Proofs
namespace Go.Proofs
open Go Go.Ab Go.RowKit
variable {G:IH}
abbrev kyL (k:Ky):List DV:=[ds k.st,ds k.ex,di k.n]
abbrev kyD (k:Ky):DV:=.agg (kyL k)
abbrev evL (e:Ev):List DV:=[di e.kind,ds e.k.st,ds e.k.ex,di e.k.n,di e.t,di e.v,di e.h,ds e.s,db e.acc]
abbrev evD (e:Ev):DV:=.agg (evL e)
def evF (l:List Ev) (i:Nat):DV:=evD (l.getD i ev0)
abbrev evsD (l:List Ev):DV:=.slc 9 l.length (evF l)
def gv0:Gv:=⟨0,0,0,.empty⟩
def al0:Al:=⟨0,.empty,false,false,0,.empty⟩
abbrev gvL (g:Gv):List DV:=[di g.v,di g.h,di g.t,ds g.s]
abbrev alL (a:Al):List DV:=[di a.t,ds a.s,db a.dec,db a.acc,di a.at_,ds a.ans]
def gvF (l:List Gv) (i:Nat):DV:=.agg (gvL (l.getD i gv0))
def alF (l:List Al) (i:Nat):DV:=.agg (alL (l.getD i al0))
abbrev gvsD (l:List Gv):DV:=.slc 4 l.length (gvF l)
abbrev alsD (l:List Al):DV:=.slc 6 l.length (alF l)
abbrev enL (x:En):List DV:=[ds x.k.st,ds x.k.ex,di x.k.n,di x.t,ds x.s,gvsD x.gs,alsD x.aps]
abbrev enD (x:En):DV:=.agg (enL x)
def enF (l:List En) (i:Nat):DV:=enD (l.getD i en0)
abbrev ensD (l:List En):DV:=.slc 7 l.length (enF l)
abbrev bkL (b:Bk):List DV:=[di b.t,ensD b.es]
abbrev bkD (b:Bk):DV:=.agg (bkL b)
def xEv:DV→Ev
 | .agg [.con (.int _ a),.con (.string s1),.con (.string s2),.con (.int _ n),.con (.int _ t),.con (.int _ v),.con (.int _ h),.con (.string s),.con (.bool c)]=>⟨a,⟨s1,s2,n⟩,t,v,h,s,c⟩
 | _=>ev0
def xKy:DV→Ky
 | .agg [.con (.string s1),.con (.string s2),.con (.int _ n)]=>⟨s1,s2,n⟩
 | _=>ky0
def xGv:DV→Gv
 | .agg [.con (.int _ v),.con (.int _ h),.con (.int _ t),.con (.string s)]=>⟨v,h,t,s⟩
 | _=>gv0
def xAl:DV→Al
 | .agg [.con (.int _ t),.con (.string s),.con (.bool d),.con (.bool a),.con (.int _ q),.con (.string r)]=>⟨t,s,d,a,q,r⟩
 | _=>al0
def xL {α:Type} (g:DV→α):DV→List α
 | .slc _ n f=>(List.range n).map fun i=>g (f i)
 | _=>[]
def xEn:DV→En
 | .agg [.con (.string s1),.con (.string s2),.con (.int _ n),.con (.int _ t),.con (.string s),g,a]=>⟨⟨s1,s2,n⟩,t,s,xL xGv g,xL xAl a⟩
 | _=>en0
def xBk:DV→Bk
 | .agg [.con (.int _ t),l]=>⟨t,xL xEn l⟩
 | _=>bk0
theorem xL_eq {α:Type} {g:DV→α} {F:List α→Nat→DV} {x0:α} {sz:Nat} (hg:∀(l:List α) (i:Nat),g (F l i)=l.getD i x0) (l:List α):xL g (.slc sz l.length (F l))=l:=by
 simp only[xL,hg]
 refine List.ext_getElem (by simp) fun i h1 h2=>?_
 simp[List.getD,gEe h2]
theorem xEv_eq (e:Ev):xEv (evD e)=e:=rfl
theorem xEvs_eq (l:List Ev):xL xEv (evsD l)=l:=xL_eq (x0:=ev0) (fun _ _=>rfl) l
theorem xGvs_eq (l:List Gv):xL xGv (gvsD l)=l:=xL_eq (x0:=gv0) (fun _ _=>rfl) l
theorem xAls_eq (l:List Al):xL xAl (alsD l)=l:=xL_eq (x0:=al0) (fun _ _=>rfl) l
theorem xEn_eq (x:En):xEn (enD x)=x:=by simp only[xEn,xGvs_eq,xAls_eq]
theorem xEns_eq (l:List En):xL xEn (ensD l)=l:=xL_eq (x0:=en0) (fun l i=>xEn_eq _) l
def noO:Oracle:=fun _ _=>none
def findI (es:List En) (k:Ky):Int:=match findB es k with|some i=>(i:Int)|none=>-1
def kyE (a b:Ky):Bool:=decide (a=b)
theorem kyE_eq (a b:Ky):((ByteArray.toList a.st==ByteArray.toList b.st)&&((ByteArray.toList a.ex==ByteArray.toList b.ex)&&(a.n==b.n)))=kyE a b:=by
 rw[toList_beq,toList_beq]
 unfold kyE
 obtain ⟨a1,a2,a3⟩:=a
 obtain ⟨b1,b2,b3⟩:=b
 simp only[Ky.mk.injEq,Bool.decide_and]
 by_cases h:a3=b3<;>simp[h]
theorem rec_and (a b:Bool):(Bool.rec false b a:Bool)=(a&&b):=by cases a<;>rfl
theorem Ky.eta (k:Ky):Ky.mk k.st k.ex k.n=k:=rfl
theorem f52 (x:En) (k:Ky):FnOK Tryz.prog G 52 [enD x,.ptr (kyL k)] (db (kyE x.k k)):=by
 refine FnOK.walk (orc:=noO) (keep:=[]) follows Tryz.func52 rfl Tryz.call52 ?_
 refine of_tr (fun _ _ _ _=>(((db (Bool.rec false (x.k.ex.toList==k.ex.toList&&x.k.n==k.n) (x.k.st.toList==k.st.toList))):DV)=(db (kyE x.k k)))) (by kernel_rfl) ?_
 rw[rec_and,kyE_eq]
noncomputable def S51 (l:List En) (k:Ky) (j:Nat):AS:=⟨regs Tryz.f51.ntmps [(0,.d (ensD l)),(1,.d (.clo (.func 52) [] [.ptr (kyL k)])),(7,vi l.length),(8,vi j)],[]⟩
theorem findI_at {l:List En} {k:Ky} {j:Nat} (hj:j<l.length) (hn:∀i,i<j→(l.getD i en0).k≠k) (h:(l.getD j en0).k=k):findI l k=j:=by
 unfold findI findB
 rw[(List.findIdx?_eq_some_iff_getElem (i:=j)).2 ⟨by simpa [keyS] using hj,?_,fun i hi=>?_⟩]
 ·have:=h
  rw[List.getD,gEe hj] at this
  simpa [keyS] using this
 ·have:=hn i hi
  rw[List.getD,gEe (by omega)] at this
  simpa [keyS] using this
theorem findI_none {l:List En} {k:Ky} (hn:∀i,i<l.length→(l.getD i en0).k≠k):findI l k = -1:=by
 unfold findI findB
 rw[List.findIdx?_eq_none_iff.2]
 intro x hx
 obtain ⟨i,hi,rfl⟩:=List.getElem_of_mem hx
 have hi':i<l.length:=by simpa [keyS] using hi
 have:=hn i hi'
 rw[List.getD,gEe hi'] at this
 simpa [keyS] using this
def orcFd (k:Ky):Oracle:=fun f a=>match f,a with
 | 52,[x,_]=>some (db (kyE (xEn x).k k))
 | 51,[l,_]=>some (di (findI (xL xEn l) k))
 | 22,[b,_]=>some (di (findI (xBk b).es k))
 | _,_=>none
theorem f51 (l:List En) (k:Ky) (hl:l.length≤1000000):FnOK Tryz.prog G 51 [ensD l,.clo (.func 52) [] [.ptr (kyL k)]] (di (findI l k)):=by
 refine FnOK.walk (orc:=orcFd k) (keep:=[]) follows Tryz.func51 rfl Tryz.call51 ?_
 refine of_tr (fun ZT ZW ZQ _=>ZW [cd Tryz.f51 [1,0,1,0],(.blk 0),cd Tryz.f51 [1,1]] (stS ZT []) ZQ) (by kernel_rfl) ?_
 refine AWP.loop (c:=cAt (bodyOf Tryz.f51) [1,0,1,0,0]) (by kernel_rfl) (S51 l k) (fun j=>j≤l.length∧∀i,i<j→(l.getD i en0).k≠k) (fun j=>l.length-j) 0 ?_ ⟨Nat.zero_le _,fun i hi=>absurd hi (Nat.not_lt_zero _)⟩ ?_
 ·exact AS.leA (by kernel_rfl)
 ·rintro j ⟨hj,hn⟩
  refine walk (orc:=orcFd k) (keep:=[]) (cuts:=[]) (n:=1000) follows ?_
  refine of_rd (fun ZT ZW ZQ ZK ZA _=>(fun Za=>((((decide ((↑j:Int)<↑l.length))=true)→((((0≤(↑j:Int))∧((↑j:Int)<↑l.length))∧ZK 52 [(.agg [(ds (l.getD (↑j:Int).toNat en0).k.st),(ds (l.getD (↑j:Int).toNat en0).k.ex),(di (l.getD (↑j:Int).toNat en0).k.n),(di (l.getD (↑j:Int).toNat en0).t),(ds (l.getD (↑j:Int).toNat en0).s),(.slc 4 (l.getD (↑j:Int).toNat en0).gs.length (gvF (l.getD (↑j:Int).toNat en0).gs)),(.slc 6 (l.getD (↑j:Int).toNat en0).aps.length (alF (l.getD (↑j:Int).toNat en0).aps))]),(.ptr [(ds k.st),(ds k.ex),(di k.n)])] (db Za))∧((Za=true)→(((di (↑j)):DV)=(di (findI l k))))∧((Za=false)→((I64 (↑j+1))∧(ZA (stS ZT [0,1]))))))∧(((decide ((↑j:Int)<↑l.length))=false)→ZW [cd Tryz.f51 [1,1]] (stS ZT [1]) ZQ))) (kyE (Ky.mk (l.getD (↑j:Int).toNat en0).k.st (l.getD (↑j:Int).toNat en0).k.ex (l.getD (↑j:Int).toNat en0).k.n) k)) (by kernel_rfl) ?_
  try dsimp only
  simp only[Int.toNat_natCast,Ky.eta]
  refine⟨fun h=>?_,fun h=>?_⟩
  ·have hj2:j<l.length:=by have:=of_decide_eq_true h;omega
   refine⟨⟨⟨by omega,by omega⟩,f52 (l.getD j en0) k⟩,fun h2=>?_,fun h2=>⟨⟨by omega,by omega⟩,Again.mk (j+1) ?_ ⟨hj2,fun i hi=>?_⟩ (by omega)⟩⟩
   ·rw[findI_at hj2 hn (of_decide_eq_true h2)]
   ·exact AS.leA (by kernel_rfl)
   ·rcases Nat.lt_or_ge i j with h4|h4
    ·exact hn i h4
    ·obtain rfl:i=j:=by omega
     exact of_decide_eq_false h2
  ·refine walk (orc:=orcFd k) (keep:=[]) (cuts:=[]) (n:=1000) follows ?_
   refine of_tr (fun _ _ _ _=>(((di (-1)):DV)=(di (findI l k)))) (by kernel_rfl) ?_
   have hj2:j=l.length:=by have:=of_decide_eq_false h;omega
   subst hj2
   rw[findI_none hn]
theorem f22 (b:Bk) (k:Ky) (hl:b.es.length≤1000000):FnOK Tryz.prog G 22 [bkD b,kyD k] (di (findI b.es k)):=by
 refine FnOK.of_body Tryz.func22 rfl Tryz.call22 ?_
 refine walk (orc:=orcFd k) (keep:=[]) (cuts:=[1]) (n:=1000) follows ?_
 refine of_tr (fun ZT ZW ZQ _=>ZW [cd Tryz.f22 [1]] (stS ZT []) ZQ) (by kernel_rfl) ?_
 refine AWP.freezeB (dl:=kyL k) 3 (by kernel_rfl) rfl ?_
 refine walk (orc:=orcFd k) (keep:=[]) (cuts:=[]) (n:=1000) follows ?_
 refine of_tr (fun _ _ _ ZK=>(ZK 51 [(.slc 7 b.es.length (enF b.es)),(.clo (.func 52) [] [(.ptr [(ds k.st),(ds k.ex),(di k.n)])])] (di (findI (xL xEn (DV.slc 7 b.es.length (enF b.es))) k))∧((di (findI (xL xEn (DV.slc 7 b.es.length (enF b.es))) k)):DV)=(di (findI b.es k)))) (by kernel_rfl) ?_
 simp only[xEns_eq]
 exact⟨f51 b.es k hl,trivial⟩
abbrev eNL (s:ByteArray):List DV:=[di 2,ds s,di 0,di 0,di 0,.con (.slice none 0 0)]
abbrev eN (s:ByteArray):DV:=.agg (eNL s)
theorem nil_slc {k:IH} {sz:Nat} {f:Nat→DV} {v:Value} (h:DV.rel k (.con (.slice none 0 0)) v):DV.rel k (.slc sz 0 f) v:=by
 have h:v=.slice none 0 0:=h
 exact⟨none,0,h,Nat.le_refl _,.inl rfl⟩
theorem FnOKres {f:FuncId} {args:List DV} {r r':DV} (h:FnOK Tryz.prog G f args r) (hr:∀k v,DV.rel k r v→DV.rel k r' v):FnOK Tryz.prog G f args r':=
 ⟨h.1,fun w k vs hG hw ha=>(h.2 w k vs hG hw ha).mono fun e w' ⟨v,h',e1,h2,h3⟩=>⟨v,h',e1,hr h' v h2,h3⟩⟩
def opS (k:Int):ByteArray:=bif decide (k=20) then ⟨#[111,114]⟩ else bif decide (k=19) then ⟨#[97,110,100]⟩ else bif decide (k=17) then ⟨#[62,61]⟩ else bif decide (k=16) then ⟨#[62]⟩ else bif decide (k=15) then ⟨#[60,61]⟩ else bif decide (k=14) then ⟨#[60]⟩ else bif decide (k=13) then ⟨#[33,61]⟩ else bif decide (k=12) then ⟨#[61,61]⟩ else bif decide (k=9) then ⟨#[47]⟩ else bif decide (k=8) then ⟨#[42]⟩ else bif decide (k=7) then ⟨#[45]⟩ else bif decide (k=6) then ⟨#[43]⟩ else .empty
def inF (l:List Int) (i:Nat):DV:=di (l.getD i 0)
def opsI (v:Int):List Int:=if v=1 then [20] else if v=2 then [19] else if v=4 then [12,13,14,15,16,17] else if v=5 then [6,7] else if v=6 then [8,9] else []
def opsT (v:Int):List ByteArray:=(opsI v).map opS
abbrev opsD (v:Int):DV:=.tup [.slc 1 (opsT v).length (stF (opsT v)),.slc 1 (opsI v).length (inF (opsI v))]
theorem two_slc {n m n' m':Nat} {f f' g g':Nat→DV} (h1:n=n') (h2:m=m') (hf:∀i,i<n→f i=f' i) (hg:∀i,i<m→g i=g' i) (k:IH) (v:Value) (hv:DV.rel k (.tup [.slc 1 n f,.slc 1 m g]) v):DV.rel k (.tup [.slc 1 n' f',.slc 1 m' g']) v:=by
 subst h1;subst h2
 obtain ⟨us,rfl,a,us1,rfl,ha,b,us2,rfl,hb,h0⟩:=hv
 exact⟨_,rfl,_,_,rfl,DV.rel_slc_congr hf ha,_,_,rfl,DV.rel_slc_congr hg hb,h0⟩
theorem f125 (v:Int):FnOK Tryz.prog G 125 [di v] (opsD v):=by
 have key:∀r:DV,(∀k x,DV.rel k r x→DV.rel k (opsD v) x)→((v=1→r=.tup [.slc 1 1 (elemF false 1 [ds ⟨#[111,114]⟩]),.slc 1 1 (elemF false 1 [di 20])])∧(v=2→r=.tup [.slc 1 1 (elemF false 1 [ds ⟨#[97,110,100]⟩]),.slc 1 1 (elemF false 1 [di 19])])∧
   (v=4→r=.tup [.slc 1 6 (elemF false 1 [ds ⟨#[61,61]⟩,ds ⟨#[33,61]⟩,ds ⟨#[60]⟩,ds ⟨#[60,61]⟩,ds ⟨#[62]⟩,ds ⟨#[62,61]⟩]),.slc 1 6 (elemF false 1 [di 12,di 13,di 14,di 15,di 16,di 17])])∧
   (v=5→r=.tup [.slc 1 2 (elemF false 1 [ds ⟨#[43]⟩,ds ⟨#[45]⟩]),.slc 1 2 (elemF false 1 [di 6,di 7])])∧(v=6→r=.tup [.slc 1 2 (elemF false 1 [ds ⟨#[42]⟩,ds ⟨#[47]⟩]),.slc 1 2 (elemF false 1 [di 8,di 9])])∧
   (¬v=1→¬v=2→¬v=4→¬v=5→¬v=6→r=.tup [.con (.slice none 0 0),.con (.slice none 0 0)]))→FnOK Tryz.prog G 125 [di v] (opsD v):=by
  intro r hr ⟨h1,h2,h4,h5,h6,h0⟩
  refine FnOKres (r:=r) (FnOK.walk (orc:=({ d:=fun _ _=>none }:Orc)) (keep:=[]) follows Tryz.func125 rfl Tryz.call125 ?_) hr
  refine of_tr (fun _ _ _ _=>((((v==1)=true)→(((.tup [(.slc 1 1 (elemF false 1 [(ds (ByteArray.mk #[111,114]))])),(.slc 1 1 (elemF false 1 [(di 20)]))]):DV)=r))∧(((v==1)=false)→((((v==2)=true)→(((.tup [(.slc 1 1 (elemF false 1 [(ds (ByteArray.mk #[97,110,100]))])),(.slc 1 1 (elemF false 1 [(di 19)]))]):DV)=r))∧(((v==2)=false)→((((v==4)=true)→(((.tup [(.slc 1 6 (elemF false 1 [(ds (ByteArray.mk #[61,61])),(ds (ByteArray.mk #[33,61])),(ds (ByteArray.mk #[60])),(ds (ByteArray.mk #[60,61])),(ds (ByteArray.mk #[62])),(ds (ByteArray.mk #[62,61]))])),(.slc 1 6 (elemF false 1 [(di 12),(di 13),(di 14),(di 15),(di 16),(di 17)]))]):DV)=r))∧(((v==4)=false)→((((v==5)=true)→(((.tup [(.slc 1 2 (elemF false 1 [(ds (ByteArray.mk #[43])),(ds (ByteArray.mk #[45]))])),(.slc 1 2 (elemF false 1 [(di 6),(di 7)]))]):DV)=r))∧(((v==5)=false)→((((v==6)=true)→(((.tup [(.slc 1 2 (elemF false 1 [(ds (ByteArray.mk #[42])),(ds (ByteArray.mk #[47]))])),(.slc 1 2 (elemF false 1 [(di 8),(di 9)]))]):DV)=r))∧(((v==6)=false)→(((.tup [(.con (.slice none 0 0)),(.con (.slice none 0 0))]):DV)=r)))))))))))) (by kernel_rfl) ?_
  simp only[beq_iff_eq,beq_eq_false_iff_ne,ne_eq]
  refine⟨fun e=>(h1 e).symm,fun n1=>⟨fun e=>(h2 e).symm,fun n2=>⟨fun e=>(h4 e).symm,fun n4=>⟨fun e=>(h5 e).symm,fun n5=>⟨fun e=>(h6 e).symm,fun n6=>(h0 n1 n2 n4 n5 n6).symm⟩⟩⟩⟩⟩
 by_cases h1:v=1
 ·subst h1
  refine key _ (two_slc rfl rfl ?_ ?_) ⟨fun _=>rfl,fun h=>(by omega),fun h=>(by omega),fun h=>(by omega),fun h=>(by omega),fun h=>(by omega)⟩
  ·intro i hi;have hi:i<1:=hi;rcases i with _|i<;>first|rfl|omega
  ·intro i hi;have hi:i<1:=hi;rcases i with _|i<;>first|rfl|omega
 by_cases h2:v=2
 ·subst h2
  refine key _ (two_slc rfl rfl ?_ ?_) ⟨fun h=>(by omega),fun _=>rfl,fun h=>(by omega),fun h=>(by omega),fun h=>(by omega),fun h=>(by omega)⟩
  ·intro i hi;have hi:i<1:=hi;rcases i with _|i<;>first|rfl|omega
  ·intro i hi;have hi:i<1:=hi;rcases i with _|i<;>first|rfl|omega
 by_cases h4:v=4
 ·subst h4
  refine key _ (two_slc rfl rfl ?_ ?_) ⟨fun h=>(by omega),fun h=>(by omega),fun _=>rfl,fun h=>(by omega),fun h=>(by omega),fun h=>(by omega)⟩
  ·intro i hi;have hi:i<6:=hi;rcases i with _|_|_|_|_|_|i<;>first|rfl|omega
  ·intro i hi;have hi:i<6:=hi;rcases i with _|_|_|_|_|_|i<;>first|rfl|omega
 by_cases h5:v=5
 ·subst h5
  refine key _ (two_slc rfl rfl ?_ ?_) ⟨fun h=>(by omega),fun h=>(by omega),fun h=>(by omega),fun _=>rfl,fun h=>(by omega),fun h=>(by omega)⟩
  ·intro i hi;have hi:i<2:=hi;rcases i with _|_|i<;>first|rfl|omega
  ·intro i hi;have hi:i<2:=hi;rcases i with _|_|i<;>first|rfl|omega
 by_cases h6:v=6
 ·subst h6
  refine key _ (two_slc rfl rfl ?_ ?_) ⟨fun h=>(by omega),fun h=>(by omega),fun h=>(by omega),fun h=>(by omega),fun _=>rfl,fun h=>(by omega)⟩
  ·intro i hi;have hi:i<2:=hi;rcases i with _|_|i<;>first|rfl|omega
  ·intro i hi;have hi:i<2:=hi;rcases i with _|_|i<;>first|rfl|omega
 have e:opsI v=[]:=by unfold opsI;rw[if_neg h1,if_neg h2,if_neg h4,if_neg h5,if_neg h6]
 refine key _ (fun k x hx=>?_) ⟨fun h=>absurd h h1,fun h=>absurd h h2,fun h=>absurd h h4,fun h=>absurd h h5,fun h=>absurd h h6,fun _ _ _ _ _=>rfl⟩
 unfold opsD opsT
 rw[e]
 obtain ⟨us,rfl,a,us1,rfl,ha,b,us2,rfl,hb,h0⟩:=hx
 exact⟨_,rfl,_,_,rfl,nil_slc ha,_,_,rfl,nil_slc hb,h0⟩
def rkI (k:Int):Int:=if k=20 then 1 else if k=19 then 2 else if 12≤k∧k≤17 then 4 else if k=6∨k=7 then 5 else if k=8∨k=9 then 6 else if k=18 then 3 else if k=5 then 7 else if k=1∨k=2∨k=3∨k=4∨k=10∨k=11 then 8 else 0
theorem rk_hit {k v:Int} (hv:1≤v∧v≤6) (h:k∈opsI v):rkI k=v:=by
 have hc:v=1∨v=2∨v=3∨v=4∨v=5∨v=6:=by omega
 have q:(v=1∧k=20)∨(v=2∧k=19)∨(v=4∧12≤k∧k≤17)∨(v=5∧(k=6∨k=7))∨(v=6∧(k=8∨k=9)):=by
  rcases hc with rfl|rfl|rfl|rfl|rfl|rfl<;>simp[opsI] at h<;>omega
 clear h
 unfold rkI
 rcases q with ⟨rfl,h⟩|⟨rfl,h⟩|⟨rfl,h⟩|⟨rfl,h⟩|⟨rfl,h⟩
 ·rw[if_pos h]
 ·rw[if_neg (by omega),if_pos h]
 ·rw[if_neg (by omega),if_neg (by omega),if_pos h]
 ·rw[if_neg (by omega),if_neg (by omega),if_neg (by omega),if_pos h]
 ·rw[if_neg (by omega),if_neg (by omega),if_neg (by omega),if_neg (by omega),if_pos h]
theorem rk_miss {k:Int} (h:∀v:Int,1≤v→v≤6→k∉opsI v):rkI k=if k=18 then 3 else if k=5 then 7 else if k=1∨k=2∨k=3∨k=4∨k=10∨k=11 then 8 else 0:=by
 have h1:=h 1 (by omega) (by omega)
 have h2:=h 2 (by omega) (by omega)
 have h4:=h 4 (by omega) (by omega)
 have h5:=h 5 (by omega) (by omega)
 have h6:=h 6 (by omega) (by omega)
 simp only[opsI,if_true,List.mem_cons,List.not_mem_nil,or_false,reduceCtorEq,Int.reduceEq,if_false,not_or] at h1 h2 h4 h5 h6
 unfold rkI
 rw[if_neg h1,if_neg h2,if_neg (by omega),if_neg (by omega),if_neg (by omega)]
noncomputable def orcRk:Oracle:=fun f a=>match f,a with
 | 125,[.con (.int .i64 v)]=>some (opsD v)
 | _,_=>none
noncomputable def S137 (s:ByteArray) (i:Nat):AS:=⟨regs Tryz.f121.ntmps [(1,.box 1 0),(3,vi i)],[(1,(eNL s).map .d)]⟩
noncomputable def S137i (s:ByteArray) (i j:Nat):AS:=⟨regs Tryz.f121.ntmps [(1,.box 1 0),(3,vi i),(5,.d (.slc 1 (opsI i).length (inF (opsI i)))),(6,vi j)],[(1,(eNL s).map .d)]⟩
theorem opsI_len (v:Int):(opsI v).length≤6:=by
 unfold opsI
 split
 ·decide
 split
 ·decide
 split
 ·decide
 split
 ·decide
 split
 ·decide
 ·decide
theorem f121 (s:ByteArray):FnOK Tryz.prog G 121 [eN s] (di (rkI 2)):=by
 refine FnOK.walk (orc:=orcRk) (keep:=[]) follows Tryz.func121 rfl Tryz.call121 ?_
 refine of_tr (fun ZT ZW ZQ _=>ZW [cd Tryz.f121 [1,0,1,0],(.blk 0),cd Tryz.f121 [1,1]] (stS ZT []) ZQ) (by kernel_rfl) ?_
 refine AWP.loop (c:=cAt (bodyOf Tryz.f121) [1,0,1,0,0]) (by kernel_rfl) (S137 s) (fun i=>1≤i∧i≤7∧∀v:Int,1≤v→v<i→(2:Int)∉opsI v) (fun i=>7-i) 1 ?_ ⟨by omega,by omega,fun v h1 h2=>by omega⟩ ?_
 ·exact AS.leA (by kernel_rfl)
 ·rintro i ⟨h1,h2,hn⟩
  refine walk (orc:=orcRk) (keep:=[]) (cuts:=[]) (n:=1000) follows ?_
  refine of_rd (fun ZT ZW ZQ ZK _ ZR=>((((decide ((↑i:Int)≤6))=true)→(ZK 125 [(di (↑i))] (.tup [(.slc 1 (opsT ↑i).length (stF (opsT ↑i))),(.slc 1 (opsI ↑i).length (inF (opsI ↑i)))])∧ZW [cd Tryz.f121 [1,0,1,0,0,1,0,0,1,1,0],(.blk 2),(.blk 1),cd Tryz.f121 [1,0,1,0,0,1,1]] (stS ZT [0]) ZR))∧(((decide ((↑i:Int)≤6))=false)→ZW [cd Tryz.f121 [1,1]] (stS ZT [1]) ZQ))) (by kernel_rfl) ?_
  refine⟨fun h=>⟨f125 _,?_⟩,fun h=>?_⟩
  ·have hi6:i≤6:=by have:=of_decide_eq_true h;omega
   have hl6:=opsI_len (i:Int)
   refine AWP.loop (c:=cAt (bodyOf Tryz.f121) [1,0,1,0,0,1,0,0,1,1,0,0]) (by kernel_rfl) (S137i s i) (fun j=>j≤(opsI i).length∧∀p,p<j→(opsI i).getD p 0≠(2:Int)) (fun j=>(opsI i).length-j) 0 ?_ ⟨Nat.zero_le _,fun p hp=>absurd hp (Nat.not_lt_zero _)⟩ ?_
   ·exact AS.leA (by kernel_rfl)
   ·rintro j ⟨hj,hjn⟩
    refine walk (orc:=orcRk) (keep:=[]) (cuts:=[]) (n:=1000) follows ?_
    refine of_rd (fun ZT ZW ZQ _ ZA _=>((((decide ((↑j:Int)<↑(opsI ↑i).length))=true)→(((0≤(↑j:Int))∧((↑j:Int)<↑(opsI ↑i).length))∧((((opsI ↑i).getD (↑j:Int).toNat 0==2)=true)→(((di (↑i)):DV)=(di (rkI 2))))∧((((opsI ↑i).getD (↑j:Int).toNat 0==2)=false)→((I64 (↑j+1))∧(ZA (stS ZT [0,1]))))))∧(((decide ((↑j:Int)<↑(opsI ↑i).length))=false)→ZW [(.blk 1),cd Tryz.f121 [1,0,1,0,0,1,1]] (stS ZT [1]) ZQ))) (by kernel_rfl) ?_
    simp only[Int.toNat_natCast]
    refine⟨fun h1=>?_,fun h1=>?_⟩
    ·have hj2:j<(opsI i).length:=by have:=of_decide_eq_true h1;omega
     refine⟨⟨by omega,by omega⟩,fun h3=>?_,fun h3=>⟨⟨by omega,by omega⟩,Again.mk (j+1) ?_ ⟨hj2,fun p hp=>?_⟩ (by omega)⟩⟩
     ·have h3:(opsI i).getD j 0=(2:Int):=by simpa using h3
      rw[rk_hit (v:=i) (by omega) (by
       rw[←h3,List.getD,gEe hj2]
       exact List.getElem_mem hj2)]
     ·exact AS.leA (by kernel_rfl)
     ·rcases Nat.lt_or_ge p j with h4|h4
      ·exact hjn p h4
      ·obtain rfl:p=j:=by omega
       simpa using h3
    ·simp only[decide_eq_false_iff_not] at h1
     have hj2:j=(opsI i).length:=by omega
     refine walk (orc:=orcRk) (keep:=[]) (cuts:=[]) (n:=1000) follows ?_
     refine of_rd (fun ZT _ _ _ ZA _=>((I64 (↑i+1))∧(ZA (stS ZT [])))) (by kernel_rfl) ?_
     refine⟨⟨by omega,by omega⟩,Again.mk (i+1) ?_ ⟨by omega,by omega,fun v v1 v2 hm=>?_⟩ (by omega)⟩
     ·exact AS.leA (by kernel_rfl)
     ·by_cases hv:v=i
      ·subst hv
       obtain ⟨p,hp,hpe⟩:=List.getElem_of_mem hm
       refine hjn p (by omega) ?_
       rw[List.getD,gEe hp];exact hpe
      ·exact hn v v1 (by omega) hm
  ·simp only[decide_eq_false_iff_not] at h
   refine walk (orc:=orcRk) (keep:=[]) (cuts:=[]) (n:=1000) follows ?_
   refine of_tr (fun _ _ _ _=>(((false=true)→(((di 3):DV)=(di (rkI 2))))∧((false=false)→(((false=true)→(((di 7):DV)=(di (rkI 2))))∧((false=false)→(((false=true)→(((false=true)→(((di 8):DV)=(di (rkI 2))))∧((false=false)→(((di 0):DV)=(di (rkI 2))))))∧((false=false)→(((true=true)→(((true=true)→(((di 8):DV)=(di (rkI 2))))∧((true=false)→(((di 0):DV)=(di (rkI 2))))))∧((true=false)→(((false=true)→(((false=true)→(((di 8):DV)=(di (rkI 2))))∧((false=false)→(((di 0):DV)=(di (rkI 2))))))∧((false=false)→(((false=true)→(((false=true)→(((di 8):DV)=(di (rkI 2))))∧((false=false)→(((di 0):DV)=(di (rkI 2))))))∧((false=false)→(((false=true)→(((false=true)→(((di 8):DV)=(di (rkI 2))))∧((false=false)→(((di 0):DV)=(di (rkI 2))))))∧((false=false)→(((false=true)→(((di 8):DV)=(di (rkI 2))))∧((false=false)→(((di 0):DV)=(di (rkI 2)))))))))))))))))))) (by kernel_rfl) ?_
   rw[rk_miss (fun v v1 v2=>hn v v1 (by omega))]
   repeat' (first|(with_reducible refine And.intro ?_ ?_)|(with_reducible intro _))
   all_goals (try simp only[beq_iff_eq,beq_eq_false_iff_ne,ne_eq] at *)
   all_goals first
    | contradiction
    | (refine congrArg di ?_;simp[*];done)
def orcL:Oracle:=fun f a=>match f,a with
 | 118,_=>some (di 1)
 | 119,[.agg [_,.con (.string s),_,_,_,_]]=>some (db (nameB s))
 | 120,[.agg [_,.con (.string s),_,_,_,_]]=>some (ds s)
 | 100,[.agg [_,.con (.string s),_,_,_,_]]=>some (ds (if nameB s then s else .empty))
 | 141,[.con (.string s)]=>some (db (nameB s))
 | 122,[.con (.string s)]=>some (db (nameB s))
 | 101,[.agg [_,.con (.string s),_,_,_,_]]=>some (db (nameB s))
 | 102,_=>some (di 1)
 | 103,[.agg [_,.con (.string s),_,_,_,_]]=>some (ds s)
 | 121,_=>some (di 8)
 | 82,[.agg [_,.con (.string s),_,_,_,_]]=>some (db (nameB s))
 | 81,[.con (.string s)]=>some (db (nameB s))
 | 48,[.con (.string s)]=>some (db (nameB s))
 | 47,[k]=>some (db (nameB (xKy k).st&&(nameB (xKy k).ex&&(decide (1≤(xKy k).n)&&decide ((xKy k).n≤16)))))
 | _,_=>none
noncomputable def S118 (s:ByteArray):AS:=⟨regs Tryz.f118.ntmps [(3,vi 0),(8,vi 0),(9,vi 0)],[(1,(eNL s).map .d)]⟩
theorem f118 (s:ByteArray):FnOK Tryz.prog G 118 [eN s] (di 1):=by
 refine FnOK.walk (orc:=orcL) (keep:=[]) follows Tryz.func118 rfl Tryz.call118 ?_
 refine of_tr (fun ZT ZW ZQ _=>ZW [cd Tryz.f118 [1,1,0,1,0],(.blk 0),cd Tryz.f118 [1,1,1]] (stS ZT []) ZQ) (by kernel_rfl) ?_
 refine AWP.loop (c:=cAt (bodyOf Tryz.f118) [1,1,0,1,0,0]) (by kernel_rfl) (fun _:Nat=>S118 s) (fun _=>True) (fun j=>1-j) 0 ?_ trivial ?_
 ·exact AS.leA (by kernel_rfl)
 ·rintro j -
  refine walk (orc:=orcL) (keep:=[]) (cuts:=[4]) (n:=1000) follows ?_
  refine of_rd (fun ZT ZW ZQ _ _ ZR=>(((false=true)→ZW [cd Tryz.f118 [1,1,0,1,0,0,1,1,0,0],(.blk 1),cd Tryz.f118 [1,1,0,1,0,0,1,1,1]] (stS ZT [0]) ZR)∧((false=false)→ZW [cd Tryz.f118 [1,1,1]] (stS ZT [1]) ZQ))) (by kernel_rfl) ?_
  refine⟨fun c=>(by cases c),fun _=>?_⟩
  refine walk (orc:=orcL) (keep:=[]) (cuts:=[]) (n:=1000) follows ?_
  refine of_tr (fun _ _ _ _=>((I64 (0+1))∧(ZS ((di 1):DV)))) (by kernel_rfl) ?_
  exact⟨⟨by decide,by decide⟩,rfl⟩
noncomputable def S102 (s:ByteArray):AS:=⟨regs Tryz.f102.ntmps [(1,.box 1 0),(3,vi 0),(4,vi 0)],[(1,(eNL s).map .d)]⟩
theorem f102 (s:ByteArray):FnOK Tryz.prog G 102 [eN s] (di 1):=by
 refine FnOK.walk (orc:=orcL) (keep:=[]) follows Tryz.func102 rfl Tryz.call102 ?_
 refine of_tr (fun ZT ZW ZQ _=>ZW [cd Tryz.f102 [1,1,0,1,0],(.blk 0),cd Tryz.f102 [1,1,1]] (stS ZT []) ZQ) (by kernel_rfl) ?_
 refine AWP.loop (c:=cAt (bodyOf Tryz.f102) [1,1,0,1,0,0]) (by kernel_rfl) (fun _:Nat=>S102 s) (fun _=>True) (fun j=>1-j) 0 ?_ trivial ?_
 ·exact AS.leA (by kernel_rfl)
 ·rintro j -
  refine walk (orc:=orcL) (keep:=[]) (cuts:=[5]) (n:=1000) follows ?_
  refine of_rd (fun ZT ZW ZQ _ _ ZR=>(((false=true)→ZW [cd Tryz.f102 [1,1,0,1,0,0,1,0,0],(.blk 1),cd Tryz.f102 [1,1,0,1,0,0,1,1]] (stS ZT [0]) ZR)∧((false=false)→ZW [cd Tryz.f102 [1,1,1]] (stS ZT [1]) ZQ))) (by kernel_rfl) ?_
  refine⟨fun c=>(by cases c),fun _=>?_⟩
  refine walk (orc:=orcL) (keep:=[]) (cuts:=[]) (n:=1000) follows ?_
  refine of_tr (fun _ _ _ _=>((I64 (0+1))∧(ZS ((di 1):DV)))) (by kernel_rfl) ?_
  exact⟨⟨by decide,by decide⟩,rfl⟩
theorem f119 (s:ByteArray) (hs:s.size≤1000000):FnOK Tryz.prog G 119 [eN s] (db (nameB s)):=by
 refine FnOK.of_body Tryz.func119 rfl Tryz.call119 ?_
 refine walk (orc:=orcL) (keep:=[]) (cuts:=[3,7]) (n:=1000) follows ?_
 refine of_tr (fun ZT ZW ZQ ZK=>(((false=true)→ZW [cd Tryz.f119 [1,0,1,0,1,0],(.blk 0),cd Tryz.f119 [1,1]] (stS ZT [0]) ZQ)∧((false=false)→(((true=true)→(ZK 141 [(ds s)] (db (nameB s))∧((db (nameB s&&true&&(↑0:Int)==0)):DV)=(db (nameB s))))∧((true=false)→ZW [cd Tryz.f119 [1,0,1,0,1,1,1,1,0],cd Tryz.f119 [1,0,1,0,1,1,1,1,1],(.blk 0),cd Tryz.f119 [1,1]] (stS ZT [1,1]) ZQ))))) (by kernel_rfl) ?_
 refine⟨fun c=>(by cases c),fun _=>⟨fun _=>⟨f141 s hs,?_⟩,fun c=>(by cases c)⟩⟩
 refine congrArg db ?_
 cases nameB s<;>rfl
theorem f120 (s:ByteArray):FnOK Tryz.prog G 120 [eN s] (ds s):=by
 refine FnOK.of_body Tryz.func120 rfl Tryz.call120 ?_
 refine walk (orc:=orcL) (keep:=[]) (cuts:=[3,7]) (n:=1000) follows ?_
 refine of_tr (fun ZT ZW ZQ _=>(((false=true)→ZW [cd Tryz.f120 [1,0,1,0,1,0],(.blk 0),cd Tryz.f120 [1,1]] (stS ZT [0]) ZQ)∧((false=false)→(((true=true)→(ZS ((ds s):DV)))∧((true=false)→ZW [cd Tryz.f120 [1,0,1,0,1,1,1,1],(.blk 0),cd Tryz.f120 [1,1]] (stS ZT [1,1]) ZQ))))) (by kernel_rfl) ?_
 exact⟨fun c=>(by cases c),fun _=>⟨fun _=>rfl,fun c=>(by cases c)⟩⟩
theorem f103 (s:ByteArray):FnOK Tryz.prog G 103 [eN s] (ds s):=by
 refine FnOK.of_body Tryz.func103 rfl Tryz.call103 ?_
 refine walk (orc:=orcL) (keep:=[]) (cuts:=[4]) (n:=1000) follows ?_
 refine of_tr (fun ZT ZW ZQ _=>(((true=true)→(ZS ((ds s):DV)))∧((true=false)→ZW [cd Tryz.f103 [1,0,1,0,1,1],(.blk 0),cd Tryz.f103 [1,1]] (stS ZT [1]) ZQ))) (by kernel_rfl) ?_
 exact⟨fun _=>rfl,fun c=>(by cases c)⟩
theorem f100 (s:ByteArray) (hs:s.size≤1000000):FnOK Tryz.prog G 100 [eN s] (ds (if nameB s then s else .empty)):=by
 refine FnOK.walk (orc:=orcL) (keep:=[]) follows Tryz.func100 rfl Tryz.call100 ?_
 refine of_tr (fun _ _ _ ZK=>(fun Za=>((ZK 118 [Za] (di 1)∧((true=true)→ZK 119 [Za] (db (nameB s))))∧(((decide ((1:Int)>(32:Int))||!nameB s)=true)→(((ds (ByteArray.mk #[])):DV)=(ds (if nameB s=true then s else ByteArray.empty))))∧(((decide ((1:Int)>(32:Int))||!nameB s)=false)→(ZK 120 [Za] (ds s)∧(((decide ((↑s.size:Int)>16384))=true)→(((ds (ByteArray.mk #[])):DV)=(ds (if nameB s=true then s else ByteArray.empty))))∧(((decide ((↑s.size:Int)>16384))=false)→(((ds s):DV)=(ds (if nameB s=true then s else ByteArray.empty)))))))) ((.agg [(di 2),(ds s),(di 0),(di 0),(di 0),(.con (.slice none 0 0))]):DV)) (by kernel_rfl) ?_
 try dsimp only
 have hsz:nameB s=true→s.size≤16:=fun h=>by
  unfold nameB at h
  simp only[bAt,decide_eq_true_eq] at h
  exact h.2.1
 refine⟨⟨f118 s,fun _=>f119 s hs⟩,fun h=>?_,fun h=>⟨f120 s,fun h2=>?_,fun h2=>?_⟩⟩
 ·cases hn:nameB s with
  | true=>rw[hn] at h;cases h
  | false=>rfl
 ·have hn:nameB s=true:=by
   cases hn:nameB s with
   | true=>rfl
   | false=>rw[hn] at h;cases h
  have:=hsz hn
  have:=of_decide_eq_true h2
  omega
 ·have hn:nameB s=true:=by
   cases hn:nameB s with
   | true=>rfl
   | false=>rw[hn] at h;cases h
  rw[if_pos hn]
noncomputable def S101 (s:ByteArray):AS:=⟨regs Tryz.f101.ntmps [(1,.box 1 0),(4,vi 0),(7,vi 0)],[(1,(eNL s).map .d)]⟩
theorem f101 (s:ByteArray) (hs:s.size≤1000000):FnOK Tryz.prog G 101 [eN s] (db (nameB s)):=by
 refine FnOK.of_body Tryz.func101 rfl Tryz.call101 ?_
 refine walk (orc:=orcL) (keep:=[]) (cuts:=[10]) (n:=1000) follows ?_
 refine of_tr (fun ZT ZW ZQ ZK=>(ZK 121 [(.agg [(di 2),(ds s),(di 0),(di 0),(di 0),(.con (.slice none 0 0))])] (di 8)∧((((8:Int)==(0:Int)||(2:Int) != (2:Int)&&!ByteArray.toList s==ByteArray.toList { data:=#[] }||(2:Int) != (1:Int)&&!true)=true)→(((db false):DV)=(db (nameB s))))∧((((8:Int)==(0:Int)||(2:Int) != (2:Int)&&!ByteArray.toList s==ByteArray.toList { data:=#[] }||(2:Int) != (1:Int)&&!true)=false)→(((true=true)→(ZK 122 [(ds s)] (db (nameB s))∧(((!nameB s||decide ((0:Int)>(0:Int)))=true)→(((db false):DV)=(db (nameB s))))∧(((!nameB s||decide ((0:Int)>(0:Int)))=false)→ZW [cd Tryz.f101 [1,1,1,1,1,0,1,0],(.blk 1),cd Tryz.f101 [1,1,1,1,1,1]] (stS ZT [1,0,1]) ZQ)))∧((true=false)→ZW [cd Tryz.f101 [1,1,1,1,0,0,1,1],(.blk 0),cd Tryz.f101 [1,1,1,1,1]] (stS ZT [1,1]) ZQ))))) (by kernel_rfl) ?_
 refine⟨f121 s,fun h=>?_,fun _=>⟨fun _=>⟨f122 s hs,fun h=>?_,fun h=>?_⟩,fun c=>(by cases c)⟩⟩
 ·exfalso
  rw[emp_beq] at h
  revert h
  cases decide (s.size=0)<;>exact fun h=>absurd h (by decide)
 ·cases hn:nameB s with
  | true=>rw[hn] at h;exact absurd h (by decide)
  | false=>rfl
 ·have hn:nameB s=true:=by
   cases hn:nameB s with
   | true=>rfl
   | false=>rw[hn] at h;exact absurd h (by decide)
  refine AWP.loop (c:=cAt (bodyOf Tryz.f101) [1,1,1,1,1,0,1,0,0]) (by kernel_rfl) (fun _:Nat=>S101 s) (fun _=>True) (fun j=>1-j) 0 ?_ trivial ?_
  ·exact AS.leA (by kernel_rfl)
  ·rintro j -
   refine walk (orc:=orcL) (keep:=[]) (cuts:=[26]) (n:=1000) follows ?_
   refine of_rd (fun ZT ZW ZQ _ _ ZR=>(((false=true)→ZW [cd Tryz.f101 [1,1,1,1,1,0,1,0,0,1,0,0],(.blk 2),cd Tryz.f101 [1,1,1,1,1,0,1,0,0,1,1]] (stS ZT [0]) ZR)∧((false=false)→ZW [cd Tryz.f101 [1,1,1,1,1,1]] (stS ZT [1]) ZQ))) (by kernel_rfl) ?_
   refine⟨fun c=>(by cases c),fun _=>?_⟩
   refine walk (orc:=orcL) (keep:=[]) (cuts:=[]) (n:=1000) follows ?_
   refine of_tr (fun _ _ _ _=>(((db true):DV)=(db (nameB s)))) (by kernel_rfl) ?_
   rw[hn]
theorem f82 (s:ByteArray) (hs:s.size≤1000000):FnOK Tryz.prog G 82 [eN s] (db (nameB s)):=by
 refine FnOK.walk (orc:=orcL) (keep:=[]) follows Tryz.func82 rfl Tryz.call82 ?_
 refine of_tr (fun _ _ _ ZK=>(fun Za=>((ZK 101 [Za] (db (nameB s))∧(((nameB s)=true)→ZK 102 [Za] (di 1))∧(((nameB s&&decide ((1:Int)≤(32:Int)))=true)→ZK 103 [Za] (ds s)))∧((db (nameB s&&decide ((1:Int)≤(32:Int))&&decide ((↑(ByteArray.size s):Int)≤(16384:Int)))):DV)=(db (nameB s)))) ((.agg [(di 2),(ds s),(di 0),(di 0),(di 0),(.con (.slice none 0 0))]):DV)) (by kernel_rfl) ?_
 try dsimp only
 have hsz:nameB s=true→s.size≤16:=fun h=>by
  unfold nameB at h
  simp only[bAt,decide_eq_true_eq] at h
  exact h.2.1
 refine⟨⟨f101 s hs,fun _=>f102 s,fun _=>f103 s⟩,congrArg db ?_⟩
 cases hn:nameB s with
 | false=>rfl
 | true=>
  have:=hsz hn
  rw[decide_eq_true (show ((s.size:Nat):Int)≤16384 by omega)];rfl
theorem f81 (s:ByteArray) (hs:s.size≤1000000):FnOK Tryz.prog G 81 [ds s] (db (nameB s)):=by
 refine FnOK.walk (orc:=orcL) (keep:=[]) follows Tryz.func81 rfl Tryz.call81 ?_
 refine of_tr (fun _ _ _ ZK=>(ZK 100 [(.agg [(di 2),(ds s),(di 0),(di 0),(di 0),(.con (.slice none 0 0))])] (ds (if nameB s=true then s else ByteArray.empty))∧((db (!(if nameB s=true then s else ByteArray.empty).toList==(ByteArray.mk #[]).toList)):DV)=(db (nameB s)))) (by kernel_rfl) ?_
 refine⟨f100 s hs,congrArg db ?_⟩
 cases hn:nameB s with
 | false=>rw[if_neg (by decide),emp_beq];rfl
 | true=>
  unfold nameB at hn
  simp only[bAt,decide_eq_true_eq] at hn
  rw[if_pos rfl,emp_beq,decide_eq_false (by omega)];rfl
theorem f48 (s:ByteArray) (hs:s.size≤1000000):FnOK Tryz.prog G 48 [ds s] (db (nameB s)):=by
 refine FnOK.walk (orc:=orcL) (keep:=[]) follows Tryz.func48 rfl Tryz.call48 ?_
 refine of_tr (fun _ _ _ ZK=>(ZK 82 [(.agg [(di 2),(ds s),(di 0),(di 0),(di 0),(.con (.slice none 0 0))])] (db (nameB s))∧(ZS ((db (nameB s)):DV)))) (by kernel_rfl) ?_
 exact⟨f82 s hs,rfl⟩
theorem beqD (a b:Int):(a==b)=decide (a=b):=by rw[Bool.eq_iff_iff];simp
def okK (k:Ky):Bool:=nameB k.st&&(nameB k.ex&&(decide (1≤k.n)&&decide (k.n≤16)))
def okE (e:Ev):Bool:=decide (0≤e.kind)&&(decide (e.kind≤3)&&(okK e.k&&(decide (0≤e.t)&&(decide (e.t≤1099511627776)&&(decide (e.s.size≤4096) &&
 (if e.kind=1 then decide (1≤e.v)&&(decide (e.v≤1048576)&&(decide (0≤e.h)&&(decide (e.h≤100000000)&&!e.acc))) else decide (e.v=0)&&(decide (e.h=0)&&(!e.acc||decide (e.kind=3)))))))))
theorem ok_form {e:Ev} (h:okE e=true):formE e:=by
 unfold okE at h
 simp only[bAt,decide_eq_true_eq] at h
 obtain ⟨h1,h2,_,_,_,_,h3⟩:=h
 refine⟨by omega,fun hk=>?_,fun hk=>?_⟩
 ·rw[if_neg hk] at h3
  simp only[bAt,decide_eq_true_eq] at h3
  exact⟨h3.1,h3.2.1⟩
 ·by_cases k1:e.kind=1
  ·rw[if_pos k1] at h3
   simp only[bAt,Bool.not_eq_true'] at h3
   exact h3.2.2.2.2
  ·rw[if_neg k1] at h3
   simp only[bAt,Bool.or_eq_true,Bool.not_eq_true',decide_eq_true_eq] at h3
   exact h3.2.2.resolve_right hk
def orcE:Oracle:=fun f a=>match f,a with
 | 81,[.con (.string s)]=>some (db (nameB s))
 | 48,[.con (.string s)]=>some (db (nameB s))
 | 47,[k]=>some (db (okK (xKy k)))
 | 18,[e]=>some (db (okE (xEv e)))
 | 19,[e]=>some (db (okE (xEv e)))
 | _,_=>none
theorem f47 (k:Ky) (h1:k.st.size≤1000000) (h2:k.ex.size≤1000000):FnOK Tryz.prog G 47 [kyD k] (db (okK k)):=by
 refine FnOK.walk (orc:=orcE) (keep:=[]) follows Tryz.func47 rfl Tryz.call47 ?_
 refine of_tr (fun _ _ _ ZK=>((ZK 81 [(ds k.st)] (db (nameB k.st))∧(((nameB k.st)=true)→ZK 81 [(ds k.ex)] (db (nameB k.ex))))∧((db (nameB k.st&&nameB k.ex&&decide (k.n≥1)&&decide (k.n≤16))):DV)=(db (okK k)))) (by kernel_rfl) ?_
 refine⟨⟨f81 _ h1,fun _=>f81 _ h2⟩,congrArg db ?_⟩
 unfold okK
 simp only[Bool.and_assoc,ge_iff_le]
theorem f18 (e:Ev) (h1:e.k.st.size≤1000000) (h2:e.k.ex.size≤1000000):FnOK Tryz.prog G 18 [evD e] (db (okE e)):=by
 refine FnOK.walk (orc:=orcE) (keep:=[]) follows Tryz.func18 rfl Tryz.call18 ?_
 refine of_tr (fun _ _ _ ZK=>(fun Za=>((((!(decide (e.kind<0)||decide (e.kind>3)))=true)→ZK 47 [(.agg [(ds e.k.st),(ds e.k.ex),(di e.k.n)])] (db (okK (xKy (DV.agg [ds e.k.st,ds e.k.ex,di e.k.n])))))∧((Za=true)→(((db false):DV)=(db (okE e))))∧((Za=false)→((((e.kind==1)=true)→(((db (decide (e.v≥1)&&decide (e.v≤1048576)&&decide (e.h≥0)&&decide (e.h≤100000000)&&!e.acc)):DV)=(db (okE e))))∧(((e.kind==1)=false)→(((db (e.v==0&&e.h==0&&(!e.acc||e.kind==3))):DV)=(db (okE e)))))))) (decide (e.kind<0)||decide (e.kind>3)||!okK (xKy (DV.agg [ds e.k.st,ds e.k.ex,di e.k.n]))||decide (e.t<0)||decide (e.t>1099511627776)||decide ((↑e.s.size:Int)>4096))) (by kernel_rfl) ?_
 try dsimp only
 simp only[xKy,Ky.eta]
 refine⟨fun _=>f47 e.k h1 h2,fun h=>?_,fun h=>?_⟩
 ·refine congrArg db ?_
  symm
  rw[Bool.eq_false_iff]
  intro hk
  unfold okE at hk
  simp only[bAt,decide_eq_true_eq] at hk
  obtain ⟨q1,q2,q3,q4,q5,q6,_⟩:=hk
  simp only[Bool.or_eq_true,decide_eq_true_eq,q3] at h
  rcases h with ((((h|h)|h)|h)|h)|h
  ·omega
  ·omega
  ·cases h
  ·omega
  ·omega
  ·omega
 ·simp only[Bool.or_eq_false_iff,decide_eq_false_iff_not,Bool.not_eq_false'] at h
  obtain ⟨⟨⟨⟨⟨q1,q2⟩,q3⟩,q4⟩,q5⟩,q6⟩:=h
  have e0:okE e=if e.kind=1 then decide (1≤e.v)&&(decide (e.v≤1048576)&&(decide (0≤e.h)&&(decide (e.h≤100000000)&&!e.acc))) else decide (e.v=0)&&(decide (e.h=0)&&(!e.acc||decide (e.kind=3))):=by
   unfold okE
   rw[decide_eq_true (show 0≤e.kind by omega),decide_eq_true (show e.kind≤3 by omega),q3,decide_eq_true (show 0≤e.t by omega),decide_eq_true (show e.t≤1099511627776 by omega),decide_eq_true (show e.s.size≤4096 by omega)]
   simp only[Bool.true_and]
  rw[e0]
  refine⟨fun h=>congrArg db ?_,fun h=>congrArg db ?_⟩
  ·rw[if_pos (eq_of_beq h)]
   simp only[Bool.and_assoc,ge_iff_le]
  ·rw[if_neg (ne_of_beq_false h)]
   simp only[Bool.and_assoc,beqD]
theorem f19 (e:Ev) (h1:e.k.st.size≤1000000) (h2:e.k.ex.size≤1000000):FnOK Tryz.prog G 19 [evD e] (db (okE e)):=by
 refine FnOK.walk (orc:=orcE) (keep:=[]) follows Tryz.func19 rfl Tryz.call19 ?_
 refine of_tr (fun _ _ _ ZK=>(fun Za=>(((((!(decide (e.kind<0)||decide (e.kind>3)))=true)→ZK 48 [(ds e.k.st)] (db (nameB e.k.st)))∧(((!(decide (e.kind<0)||decide (e.kind>3)||!nameB e.k.st))=true)→ZK 48 [(ds e.k.ex)] (db (nameB e.k.ex))))∧((Za=true)→(((db false):DV)=(db (okE e))))∧((Za=false)→((((e.kind != 1)=true)→(((db (e.v==0&&e.h==0)):DV)=(db (okE e))))∧(((e.kind != 1)=false)→(((db (decide (e.v≥1)&&decide (e.v≤1048576)&&decide (e.h≥0)&&decide (e.h≤100000000))):DV)=(db (okE e)))))))) (decide (e.kind<0)||decide (e.kind>3)||!nameB e.k.st||!nameB e.k.ex||decide (e.k.n<1)||decide (e.k.n>16)||decide (e.t<0)||decide (e.t>1099511627776)||decide ((↑e.s.size:Int)>4096)||e.acc&&e.kind != 3)) (by kernel_rfl) ?_
 refine⟨⟨fun _=>f48 _ h1,fun _=>f48 _ h2⟩,fun h=>?_,fun h=>?_⟩
 ·refine congrArg db ?_
  symm
  rw[Bool.eq_false_iff]
  intro hk
  have hf:=(ok_form hk).2.2
  unfold okE okK at hk
  simp only[bAt,decide_eq_true_eq] at hk
  obtain ⟨q1,q2,⟨p1,p2,p3,p4⟩,q4,q5,q6,_⟩:=hk
  simp only[Bool.or_eq_true,bAt,decide_eq_true_eq,p1,p2,bne_iff_ne,ne_eq] at h
  rcases h with ((((((((h|h)|h)|h)|h)|h)|h)|h)|h)|h
  ·omega
  ·omega
  ·cases h
  ·cases h
  ·omega
  ·omega
  ·omega
  ·omega
  ·omega
  ·rw[hf h.2] at h;exact absurd h.1 (by decide)
 ·simp only[Bool.or_eq_false_iff,decide_eq_false_iff_not,Bool.not_eq_false'] at h
  obtain ⟨⟨⟨⟨⟨⟨⟨⟨⟨q1,q2⟩,p1⟩,p2⟩,p3⟩,p4⟩,q4⟩,q5⟩,q6⟩,q7⟩:=h
  have e0:okE e=if e.kind=1 then decide (1≤e.v)&&(decide (e.v≤1048576)&&(decide (0≤e.h)&&(decide (e.h≤100000000)&&!e.acc))) else decide (e.v=0)&&(decide (e.h=0)&&(!e.acc||decide (e.kind=3))):=by
   unfold okE okK
   rw[decide_eq_true (show 0≤e.kind by omega),decide_eq_true (show e.kind≤3 by omega),p1,p2,decide_eq_true (show 1≤e.k.n by omega),decide_eq_true (show e.k.n≤16 by omega),decide_eq_true (show 0≤e.t by omega),decide_eq_true (show e.t≤1099511627776 by omega),decide_eq_true (show e.s.size≤4096 by omega)]
   simp only[Bool.true_and]
  rw[e0]
  refine⟨fun h=>congrArg db ?_,fun h=>congrArg db ?_⟩
  ·have hk:e.kind≠1:=by simpa using h
   rw[if_neg hk]
   have:(!e.acc||decide (e.kind=3))=true:=by
    by_cases k3:e.kind=3
    ·simp[k3]
    ·have:e.acc=false:=by
      cases ha:e.acc with
      | false=>rfl
      | true=>rw[ha] at q7;simp[k3] at q7
     rw[this];rfl
   rw[this,Bool.and_true]
   simp only[beqD]
  ·have hk:e.kind=1:=by simpa using h
   rw[if_pos hk]
   have:e.acc=false:=by
    cases ha:e.acc with
    | false=>rfl
    | true=>rw[ha,hk] at q7;exact absurd q7 (by decide)
   rw[this]
   simp only[Bool.and_assoc,Bool.not_false,Bool.and_true,ge_iff_le]
theorem getD_ext {α:Type} {d:α} {a b:List α} (h:a.length=b.length) (hi:∀i,i<a.length→a.getD i d=b.getD i d):a=b:=by
 refine List.ext_getElem h fun i h1 h2=>?_
 have:=hi i h1
 rwa [List.getD,List.getD,gEe h1,gEe h2] at this
theorem evB_eq (a b:Ev):((a.kind==b.kind)&&(((ByteArray.toList a.k.st==ByteArray.toList b.k.st)&&((ByteArray.toList a.k.ex==ByteArray.toList b.k.ex)&&(a.k.n==b.k.n)))&&((a.t==b.t)&&((a.v==b.v)&&((a.h==b.h)&&((ByteArray.toList a.s==ByteArray.toList b.s)&&(a.acc==b.acc)))))))=decide (a=b):=by
 obtain ⟨a1,⟨a2,a3,a4⟩,a5,a6,a7,a8,a9⟩:=a
 obtain ⟨b1,⟨b2,b3,b4⟩,b5,b6,b7,b8,b9⟩:=b
 rw[toList_beq,toList_beq,toList_beq,Bool.eq_iff_iff]
 simp only[bAt,beq_iff_eq,decide_eq_true_eq,Ev.mk.injEq,Ky.mk.injEq,and_assoc]
theorem gvB_eq (a b:Gv):((a.v==b.v)&&((a.h==b.h)&&((a.t==b.t)&&(ByteArray.toList a.s==ByteArray.toList b.s))))=decide (a=b):=by
 obtain ⟨a1,a2,a3,a4⟩:=a
 obtain ⟨b1,b2,b3,b4⟩:=b
 rw[toList_beq,Bool.eq_iff_iff]
 simp only[bAt,beq_iff_eq,decide_eq_true_eq,Gv.mk.injEq]
theorem alB_eq (a b:Al):((a.t==b.t)&&((ByteArray.toList a.s==ByteArray.toList b.s)&&((a.dec==b.dec)&&((a.acc==b.acc)&&((a.at_==b.at_)&&(ByteArray.toList a.ans==ByteArray.toList b.ans))))))=decide (a=b):=by
 obtain ⟨a1,a2,a3,a4,a5,a6⟩:=a
 obtain ⟨b1,b2,b3,b4,b5,b6⟩:=b
 rw[toList_beq,toList_beq,Bool.eq_iff_iff]
 simp only[bAt,beq_iff_eq,decide_eq_true_eq,Al.mk.injEq]
noncomputable def S15 (a b:List Gv) (k:Nat):AS:=⟨regs Tryz.f15.ntmps [(0,.d (.slc 4 a.length (gvF a))),(1,.d (.slc 4 b.length (gvF b))),(12,vi a.length),(13,vi k)],[]⟩
theorem f15 (a b:List Gv) (ha:a.length≤1000000):FnOK Tryz.prog G 15 [.slc 4 a.length (gvF a),.slc 4 b.length (gvF b)] (db (decide (a=b))):=by
 refine FnOK.walk (orc:=noO) (keep:=[]) follows Tryz.func15 rfl Tryz.call15 ?_
 refine of_tr (fun ZT ZW ZQ _=>(((((↑a.length:Int) != ↑b.length)=true)→(((db false):DV)=(db (decide (a=b)))))∧((((↑a.length:Int) != ↑b.length)=false)→ZW [cd Tryz.f15 [1,1,0,1,0],(.blk 0),cd Tryz.f15 [1,1,1]] (stS ZT [1]) ZQ))) (by kernel_rfl) ?_
 refine⟨fun hne=>?_,fun heq=>?_⟩
 ·rw[decide_eq_false]
  rintro rfl
  simp at hne
 have heq:a.length=b.length:=by
  have h0:(a.length:Int)=b.length:=by simpa using heq
  omega
 refine AWP.loop (c:=cAt (bodyOf Tryz.f15) [1,1,0,1,0,0]) (by kernel_rfl) (S15 a b) (fun k=>k≤a.length∧∀i,i<k→a.getD i gv0=b.getD i gv0) (fun k=>a.length-k) 0 ?_ ⟨Nat.zero_le _,fun i hi=>absurd hi (Nat.not_lt_zero _)⟩ ?_
 ·exact AS.leA (by kernel_rfl)
 ·rintro k ⟨hk,hkd⟩
  refine walk (orc:=noO) (keep:=[]) (cuts:=[]) (n:=1000) follows ?_
  refine of_rd (fun ZT ZW ZQ _ ZA _=>(fun Za=>((((decide ((↑k:Int)<↑a.length))=true)→((((0≤(↑k:Int))∧((↑k:Int)<↑a.length))∧(0≤(↑k:Int))∧((↑k:Int)<↑b.length))∧((Za=true)→(((db false):DV)=(db (decide (a=b)))))∧((Za=false)→((I64 (↑k+1))∧(ZA (stS ZT [0,1]))))))∧(((decide ((↑k:Int)<↑a.length))=false)→ZW [cd Tryz.f15 [1,1,1]] (stS ZT [1]) ZQ))) (!Bool.rec false ((a.getD (↑k:Int).toNat gv0).h==(b.getD (↑k:Int).toNat gv0).h&&((a.getD (↑k:Int).toNat gv0).t==(b.getD (↑k:Int).toNat gv0).t&&(a.getD (↑k:Int).toNat gv0).s.toList==(b.getD (↑k:Int).toNat gv0).s.toList)) ((a.getD (↑k:Int).toNat gv0).v==(b.getD (↑k:Int).toNat gv0).v))) (by kernel_rfl) ?_
  try dsimp only
  simp only[Int.toNat_natCast,rec_and,gvB_eq]
  refine⟨fun h=>?_,fun h=>?_⟩
  ·have hk2:k<a.length:=by have:=of_decide_eq_true h;omega
   refine⟨⟨⟨by omega,by omega⟩,⟨by omega,by omega⟩⟩,fun h2=>?_,fun h2=>⟨⟨by omega,by omega⟩,Again.mk (k+1) ?_ ⟨hk2,fun i hi=>?_⟩ (by omega)⟩⟩
   ·rw[decide_eq_false]
    rintro rfl
    simp at h2
   ·exact AS.leA (by kernel_rfl)
   ·rcases Nat.lt_or_ge i k with h4|h4
    ·exact hkd i h4
    ·obtain rfl:i=k:=by omega
     simpa using h2
  ·simp only[decide_eq_false_iff_not] at h
   refine walk (orc:=noO) (keep:=[]) (cuts:=[]) (n:=1000) follows ?_
   refine of_tr (fun _ _ _ _=>(((db true):DV)=(db (decide (a=b))))) (by kernel_rfl) ?_
   rw[decide_eq_true (getD_ext heq fun i hi=>hkd i (by omega))]
noncomputable def S66 (a b:List Al) (k:Nat):AS:=⟨regs Tryz.f66.ntmps [(0,.d (.slc 6 a.length (alF a))),(1,.d (.slc 6 b.length (alF b))),(12,vi a.length),(13,vi k)],[]⟩
theorem f66 (a b:List Al) (ha:a.length≤1000000):FnOK Tryz.prog G 66 [.slc 6 a.length (alF a),.slc 6 b.length (alF b)] (db (decide (a=b))):=by
 refine FnOK.walk (orc:=noO) (keep:=[]) follows Tryz.func66 rfl Tryz.call66 ?_
 refine of_tr (fun ZT ZW ZQ _=>(((((↑a.length:Int) != ↑b.length)=true)→(((db false):DV)=(db (decide (a=b)))))∧((((↑a.length:Int) != ↑b.length)=false)→ZW [cd Tryz.f66 [1,1,0,1,0],(.blk 0),cd Tryz.f66 [1,1,1]] (stS ZT [1]) ZQ))) (by kernel_rfl) ?_
 refine⟨fun hne=>?_,fun heq=>?_⟩
 ·rw[decide_eq_false]
  rintro rfl
  simp at hne
 have heq:a.length=b.length:=by
  have h0:(a.length:Int)=b.length:=by simpa using heq
  omega
 refine AWP.loop (c:=cAt (bodyOf Tryz.f66) [1,1,0,1,0,0]) (by kernel_rfl) (S66 a b) (fun k=>k≤a.length∧∀i,i<k→a.getD i al0=b.getD i al0) (fun k=>a.length-k) 0 ?_ ⟨Nat.zero_le _,fun i hi=>absurd hi (Nat.not_lt_zero _)⟩ ?_
 ·exact AS.leA (by kernel_rfl)
 ·rintro k ⟨hk,hkd⟩
  refine walk (orc:=noO) (keep:=[]) (cuts:=[]) (n:=1000) follows ?_
  refine of_rd (fun ZT ZW ZQ _ ZA _=>(fun Za=>((((decide ((↑k:Int)<↑a.length))=true)→((((0≤(↑k:Int))∧((↑k:Int)<↑a.length))∧(0≤(↑k:Int))∧((↑k:Int)<↑b.length))∧((Za=true)→(((db false):DV)=(db (decide (a=b)))))∧((Za=false)→((I64 (↑k+1))∧(ZA (stS ZT [0,1]))))))∧(((decide ((↑k:Int)<↑a.length))=false)→ZW [cd Tryz.f66 [1,1,1]] (stS ZT [1]) ZQ))) (!Bool.rec false ((a.getD (↑k:Int).toNat al0).s.toList==(b.getD (↑k:Int).toNat al0).s.toList&&((a.getD (↑k:Int).toNat al0).dec==(b.getD (↑k:Int).toNat al0).dec&&((a.getD (↑k:Int).toNat al0).acc==(b.getD (↑k:Int).toNat al0).acc&&((a.getD (↑k:Int).toNat al0).at_==(b.getD (↑k:Int).toNat al0).at_&&(a.getD (↑k:Int).toNat al0).ans.toList==(b.getD (↑k:Int).toNat al0).ans.toList)))) ((a.getD (↑k:Int).toNat al0).t==(b.getD (↑k:Int).toNat al0).t))) (by kernel_rfl) ?_
  try dsimp only
  simp only[Int.toNat_natCast,rec_and,alB_eq]
  refine⟨fun h=>?_,fun h=>?_⟩
  ·have hk2:k<a.length:=by have:=of_decide_eq_true h;omega
   refine⟨⟨⟨by omega,by omega⟩,⟨by omega,by omega⟩⟩,fun h2=>?_,fun h2=>⟨⟨by omega,by omega⟩,Again.mk (k+1) ?_ ⟨hk2,fun i hi=>?_⟩ (by omega)⟩⟩
   ·rw[decide_eq_false]
    rintro rfl
    simp at h2
   ·exact AS.leA (by kernel_rfl)
   ·rcases Nat.lt_or_ge i k with h4|h4
    ·exact hkd i h4
    ·obtain rfl:i=k:=by omega
     simpa using h2
  ·simp only[decide_eq_false_iff_not] at h
   refine walk (orc:=noO) (keep:=[]) (cuts:=[]) (n:=1000) follows ?_
   refine of_tr (fun _ _ _ _=>(((db true):DV)=(db (decide (a=b))))) (by kernel_rfl) ?_
   rw[decide_eq_true (getD_ext heq fun i hi=>hkd i (by omega))]
end Go.Proofs
