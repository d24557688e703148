import Derived.Test.YtflgdeobcgmgnaaGreatDoorProg
import Derived.Test.YtflgdeobcgmgnaaGreatDoorAcC
import Derived.Lib.ItoaLen
import Derived.Test.YtflgdeobcgmgnaaGreatDoorAcD
import Derived.Lib.AtoiTie
import Derived.Lib.AtoiAllCases
import Derived.Lib.ItoaNum
import Derived.Lib.IndexLaws
import Derived.Lib.Bytealg
import Derived.Shelf.Strings.BuilderX
import Derived.Shelf.RegionOpenPlain
import Derived.Lib.Strings
import Derived.Lib.Slices
import Derived.Lib.Walk
import Derived.Lib.Builder
import Derived.Lib.AppendStr
import Derived.Lib.UnsafeStr
import Derived.Lib.MakeNoZero
import Derived.WalkKit
import Derived.Laws.Externs
import Derived.Laws.IdiomCopy
import Derived.Laws.BitsLemmas
import Derived.Shelf.LaysM
import Derived.Shelf.Strconv.Itoa3
set_option autoImplicit false
set_option maxHeartbeats 1000000
set_option maxRecDepth 100000
namespace Go.Proofs
open Go Go.Ab
theorem follows:Tryz.prog.follows .mixedOrders=true:=by kernel_rfl
def lT (c:Int):Bool:=decide (97≤c)&&decide (c≤122)
def xR (c:Int):Bool:=decide (48≤c)&&decide (c≤57)
def pV (c:Int):Bool:=lT c||xR c||c==95
def aeg (c:UInt8):Bool:=pV (c.toNat:Int)
def runN (s:ByteArray):Nat:=(s.data.toList.takeWhile aeg).length
theorem xO {p:UInt8→Bool}:∀{l:List UInt8} {k:Nat},k≤l.length→(∀i (h:i<l.length),i<k→p l[i]=true)→(∀h:k<l.length,p l[k]=false)→(l.takeWhile p).length=k
 | [],k,h,_,_=>by simp at h;subst h;rfl
 | c :: l,0,_,_,h3=>by
  have:=h3 (by simp)
  simp only[List.getElem_cons_zero] at this
  rw[List.takeWhile_cons,this];rfl
 | c :: l,k+1,h1,h2,h3=>by
  have hc:=h2 0 (by simp) (by omega)
  simp only[List.getElem_cons_zero] at hc
  rw[List.takeWhile_cons,hc]
  simp only[if_true,List.length_cons]
  rw[xO (l:=l) (k:=k) (by simpa using h1) (fun i h hi=>by
   have:=h2 (i+1) (by simpa using h) (by omega)
   simpa using this) (fun h=>by
   have:=h3 (by simpa using h)
   simpa using this)]
theorem Gn {s:ByteArray} {k:Nat} (h:k<s.size):byteAt s k=((s.data.toList[k]'(by rw[Array.length_toList];exact h)).toNat:Int):=by
 unfold byteAt
 have h':k<s.data.size:=h
 rw[Array.getElem?_eq_getElem h',Option.getD_some,Array.getElem_toList]
theorem zX {s:ByteArray} {k:Nat} (h1:k≤s.size) (h2:∀i,i<k→pV (byteAt s i)=true) (h3:k<s.size→pV (byteAt s k)=false):runN s=k:=by
 have hl:s.data.toList.length=s.size:=Array.length_toList
 refine xO (by omega) (fun i h hi=>?_) (fun h=>?_)
 ·have:=h2 i hi
  rw[Gn (by omega)] at this;exact this
 ·have:=h3 (by omega)
  rw[Gn (by omega)] at this;exact this
def U1:List ByteArray:=[⟨#[112,111,105,110,116,115]⟩,⟨#[112,101,110,97,108,116,121]⟩,⟨#[99,97,112]⟩,⟨#[102,108,111,111,114]⟩,⟨#[105,110]⟩,⟨#[105,102]⟩,⟨#[97,110,100]⟩,⟨#[111,114]⟩,⟨#[110,111,116]⟩,⟨#[116,114,117,101]⟩,⟨#[102,97,108,115,101]⟩,⟨#[109,105,110]⟩,⟨#[109,97,120]⟩]
def DK (s:ByteArray):Bool:=U1.any fun x=>decide (x=s)
def nameB (s:ByteArray):Bool:=decide (1≤s.size)&&(decide (s.size≤16)&&(lT (byteAt s 0)&&(decide (runN s=s.size)&&!DK s)))
def JG (l:List ByteArray) (i:Nat):DV:=ds (l.getD i .empty)
def xY (l:List ByteArray) (s:ByteArray):Int:=if l.any (fun x=>decide (x=s)) then ((l.takeWhile fun x=>!decide (x=s)).length:Nat) else -1
def bs (l:List UInt8):ByteArray:=⟨l.toArray⟩
theorem eX (l:List UInt8):(bs l).size=l.length:=by simp[bs,ByteArray.size]
theorem wG (l m:List UInt8):bs l++bs m=bs (l++m):=by
 apply ByteArray.ext;simp[bs]
theorem DT (s:ByteArray):s.data.toList.length=s.size:=Array.length_toList
theorem toList_inj {a b:ByteArray}:a.toList=b.toList↔a=b:=by
 rw[ByteArray.toList_eq,ByteArray.toList_eq]
 constructor
 ·intro h;apply ByteArray.ext;exact Array.toList_inj.1 h
 ·rintro rfl;rfl
theorem dJ (a b:ByteArray):(ByteArray.toList a==ByteArray.toList b)=decide (a=b):=by
 rw[Bool.eq_iff_iff,beq_iff_eq,toList_inj,decide_eq_true_iff]
theorem Me (s:ByteArray):bs s.data.toList=s:=by simp[bs]
theorem OM (n:Nat):Lib.itoa (n:Int)=Lib.decDigits n:=by
 unfold Lib.itoa
 rw[if_neg (show ¬(n:Int)<0 by omega),gW]
end Go.Proofs
namespace Go.Proofs
open Go Go.Ab Go.RowKit
variable {G:IH}
@[match_pattern] abbrev b8 (c:Int):DV:=.con (.int .u8 c)
def Qa:Nat→DV:=aW false 1 (U1.map fun s=>ds s)
def LK:DV:=.slc 1 13 Qa
def uq (l:List ByteArray) (s:ByteArray):Bool:=l.any fun x=>decide (x=s)
def nX:iR:=fun f a=>match f,a with
 | 168,[b8 c]=>some (db (lT c))
 | 190,[b8 c]=>some (db (xR c))
 | 170,[b8 c]=>some (db (pV c))
 | 147,[b8 c]=>some (db (lT c))
 | 179,[b8 c]=>some (db (xR c))
 | 150,[b8 c]=>some (db (pV c))
 | 169,[.con (.string s),_]=>some (di (runN s))
 | 122,[.con (.string s)]=>some (db (nameB s))
 | 141,[.con (.string s)]=>some (db (nameB s))
 | 172,[]=>some LK
 | 149,[]=>some LK
 | 171,[_,.con (.string s)]=>some (db (DK s))
 | 148,[_,.con (.string s)]=>some (db (DK s))
 | _,_=>none
theorem f168 (c:Int):aA Tryz.prog G 168 [b8 c] (db (lT c)):=by
 refine aA.walk (aj:=nX) (keep:=[]) follows Tryz.func168 rfl Tryz.call168 ?_
 refine aC (fun _ _ _ _=>(((db (decide (c≥97)&&decide (c≤122))):DV)=(db (lT c)))) (by kernel_rfl) ?_
 rfl
theorem f190 (c:Int):aA Tryz.prog G 190 [b8 c] (db (xR c)):=by
 refine aA.walk (aj:=nX) (keep:=[]) follows Tryz.func190 rfl Tryz.call190 ?_
 refine aC (fun _ _ _ _=>(((db (decide (c≥48)&&decide (c≤57))):DV)=(db (xR c)))) (by kernel_rfl) ?_
 rfl
theorem f147 (c:Int):aA Tryz.prog G 147 [b8 c] (db (lT c)):=by
 refine aA.walk (aj:=nX) (keep:=[]) follows Tryz.func147 rfl Tryz.call147 ?_
 refine aC (fun _ _ _ _=>(((db (decide (c≥97)&&decide (c≤122))):DV)=(db (lT c)))) (by kernel_rfl) ?_
 rfl
theorem f179 (c:Int):aA Tryz.prog G 179 [b8 c] (db (xR c)):=by
 refine aA.walk (aj:=nX) (keep:=[]) follows Tryz.func179 rfl Tryz.call179 ?_
 refine aC (fun _ _ _ _=>(((db (decide (c≥48)&&decide (c≤57))):DV)=(db (xR c)))) (by kernel_rfl) ?_
 rfl
theorem f170 (c:Int):aA Tryz.prog G 170 [b8 c] (db (pV c)):=by
 refine aA.walk (aj:=nX) (keep:=[]) follows Tryz.func170 rfl Tryz.call170 ?_
 refine aC (fun _ _ _ ZK=>((ZK 168 [(.con (.int .u8 c))] (db (lT c))∧(((!lT c)=true)→ZK 190 [(.con (.int .u8 c))] (db (xR c))))∧((db (lT c||xR c||c==95)):DV)=(db (pV c)))) (by kernel_rfl) ?_
 exact⟨⟨f168 c,fun _=>f190 c⟩,rfl⟩
theorem f150 (c:Int):aA Tryz.prog G 150 [b8 c] (db (pV c)):=by
 refine aA.walk (aj:=nX) (keep:=[]) follows Tryz.func150 rfl Tryz.call150 ?_
 refine aC (fun _ _ _ ZK=>((ZK 147 [(.con (.int .u8 c))] (db (lT c))∧(((!lT c)=true)→ZK 179 [(.con (.int .u8 c))] (db (xR c))))∧((db (lT c||xR c||c==95)):DV)=(db (pV c)))) (by kernel_rfl) ?_
 exact⟨⟨f147 c,fun _=>f179 c⟩,rfl⟩
noncomputable def aew (s:ByteArray) (k:Nat):AS:=⟨regs Tryz.f169.ntmps [(0,vs s),(1,.d (.con (.func (.func 170) #[] #[]))),(5,vi k)],[]⟩
theorem f169 (s:ByteArray) (hs:s.size≤1000000):aA Tryz.prog G 169 [ds s,.con (.func (.func 170) #[] #[])] (di (runN s)):=by
 refine aA.walk (aj:=nX) (keep:=[]) follows Tryz.func169 rfl Tryz.call169 ?_
 refine aC (fun ZT ZW ZQ _=>ZW [cd Tryz.f169 [1,1,0,0],(.blk 0),cd Tryz.f169 [1,1,1]] (aB ZT []) ZQ) (by kernel_rfl) ?_
 refine aX.loop (c:=aU (au Tryz.f169) [1,1,0,0,0]) (by kernel_rfl) (aew s) (fun k=>k≤s.size∧∀i,i<k→pV (byteAt s i)=true) (fun k=>s.size-k) 0 ?_ ⟨Nat.zero_le _,fun i hi=>by omega⟩ ?_
 ·exact AS.bD (by kernel_rfl)
 ·rintro k ⟨hk,hkd⟩
  refine walk (aj:=nX) (keep:=[]) (cuts:=[]) (n:=1000) follows ?_
  refine aV (fun ZT ZW ZQ ZK ZA _=>(((((decide ((↑k:Int)<↑s.size))=true)→((0≤(↑k:Int))∧((↑k:Int)<↑s.size)))∧(((decide ((↑k:Int)<↑s.size))=true)→ZK 170 [(.con (.int .u8 (byteAt s (↑k:Int).toNat)))] (db (pV (byteAt s (↑k:Int).toNat)))))∧(((decide ((↑k:Int)<↑s.size)&&pV (byteAt s (↑k:Int).toNat))=true)→((I64 (↑k+1))∧(ZA (aB ZT [0]))))∧(((decide ((↑k:Int)<↑s.size)&&pV (byteAt s (↑k:Int).toNat))=false)→ZW [cd Tryz.f169 [1,1,1]] (aB ZT [1]) ZQ))) (by kernel_rfl) ?_
  simp only[gW]
  refine⟨⟨fun h=>?_,fun _=>f170 _⟩,fun h=>?_,fun h=>?_⟩
  ·simp only[eF] at h
   exact⟨by omega,by omega⟩
  ·simp only[aY,eF] at h
   refine⟨⟨by omega,by omega⟩,Again.mk (k+1) ?_ ⟨by omega,fun i hi=>?_⟩ (by omega)⟩
   ·exact AS.bD (by kernel_rfl)
   ·rcases Nat.lt_or_ge i k with h1|h1
    ·exact hkd i h1
    ·obtain rfl:i=k:=by omega
     exact h.2
  ·have hst:runN s=k:=zX hk hkd fun h1=>by
    simp only[Bool.and_eq_false_imp,eF] at h
    exact h (by omega)
   refine walk (aj:=nX) (keep:=[]) (cuts:=[]) (n:=1000) follows ?_
   refine aC (fun _ _ _ _=>(((di (↑k)):DV)=(di ↑(runN s)))) (by kernel_rfl) ?_
   rw[hst]
theorem f172:aA Tryz.prog G 172 [] LK:=by
 refine aA.walk (aj:=nX) (keep:=[]) follows Tryz.func172 rfl Tryz.call172 ?_
 refine aC (fun _ _ _ _=>(((.slc 1 13 (aW false 1 [(ds (ByteArray.mk #[112,111,105,110,116,115])),(ds (ByteArray.mk #[112,101,110,97,108,116,121])),(ds (ByteArray.mk #[99,97,112])),(ds (ByteArray.mk #[102,108,111,111,114])),(ds (ByteArray.mk #[105,110])),(ds (ByteArray.mk #[105,102])),(ds (ByteArray.mk #[97,110,100])),(ds (ByteArray.mk #[111,114])),(ds (ByteArray.mk #[110,111,116])),(ds (ByteArray.mk #[116,114,117,101])),(ds (ByteArray.mk #[102,97,108,115,101])),(ds (ByteArray.mk #[109,105,110])),(ds (ByteArray.mk #[109,97,120]))])):DV)=LK)) (by kernel_rfl) ?_
 rfl
theorem f149:aA Tryz.prog G 149 [] LK:=by
 refine aA.walk (aj:=nX) (keep:=[]) follows Tryz.func149 rfl Tryz.call149 ?_
 refine aC (fun _ _ _ _=>(((.slc 1 13 (aW false 1 [(ds (ByteArray.mk #[112,111,105,110,116,115])),(ds (ByteArray.mk #[112,101,110,97,108,116,121])),(ds (ByteArray.mk #[99,97,112])),(ds (ByteArray.mk #[102,108,111,111,114])),(ds (ByteArray.mk #[105,110])),(ds (ByteArray.mk #[105,102])),(ds (ByteArray.mk #[97,110,100])),(ds (ByteArray.mk #[111,114])),(ds (ByteArray.mk #[110,111,116])),(ds (ByteArray.mk #[116,114,117,101])),(ds (ByteArray.mk #[102,97,108,115,101])),(ds (ByteArray.mk #[109,105,110])),(ds (ByteArray.mk #[109,97,120]))])):DV)=LK)) (by kernel_rfl) ?_
 rfl
theorem Pq {l:List ByteArray} {s:ByteArray} {k:Nat} (hk:k<l.length) (hno:∀i,i<k→l.getD i .empty≠s) (h:l.getD k .empty=s):uq l s=true∧xY l s=k:=by
 have hk2:l[k]=s:=by rw[←h,List.getD,gy hk];rfl
 have h1:uq l s=true:=by
  unfold uq
  rw[List.any_eq_true]
  exact⟨l[k],List.getElem_mem hk,by rw[eF];exact hk2⟩
 refine⟨h1,?_⟩
 unfold xY
 unfold uq at h1
 rw[if_pos h1]
 have:∀(l:List ByteArray) (k:Nat) (hk:k<l.length),(∀i (h:i<l.length),i<k→l[i]≠s)→l[k]=s→(l.takeWhile fun x=>!decide (x=s)).length=k:=by
  intro l
  induction l with
  | nil=>intro k hk;simp at hk
  | cons x l ih=>
   intro k hk h2 h3
   cases k with
   | zero=>
    simp only[List.getElem_cons_zero] at h3
    rw[List.takeWhile_cons,h3];simp
   | succ k=>
    have h4:=h2 0 (by simp) (by omega)
    simp only[List.getElem_cons_zero] at h4
    rw[List.takeWhile_cons]
    simp only[h4,decide_false,Bool.not_false,if_true,List.length_cons]
    rw[ih k (by simpa using hk) (fun i h5 h6=>by
     have:=h2 (i+1) (by simpa using h5) (by omega)
     simpa using this) (by simpa using h3)]
 rw[this l k hk (fun i h5 h6=>by
  have:=hno i h6
  rw[List.getD,gy h5] at this
  exact this) hk2]
theorem any_none {l:List ByteArray} {s:ByteArray} (hno:∀i,i<l.length→l.getD i .empty≠s):uq l s=false∧xY l s = -1:=by
 have h1:uq l s=false:=by
  rw[Bool.eq_false_iff]
  unfold uq
  intro h
  obtain ⟨x,hx,hd⟩:=List.any_eq_true.1 h
  obtain ⟨i,hi,rfl⟩:=List.getElem_of_mem hx
  rw[eF] at hd
  refine hno i hi ?_
  rw[List.getD,gy hi];exact hd
 refine⟨h1,?_⟩
 unfold xY
 unfold uq at h1
 rw[if_neg (by rw[h1];simp)]
noncomputable def adU (l:List ByteArray) (s:ByteArray) (k:Nat):AS:=⟨regs Tryz.f191.ntmps [(0,.d (.slc 1 l.length (JG l))),(1,vs s),(7,vi l.length),(8,vi k)],[]⟩
theorem f191 (l:List ByteArray) (s:ByteArray) (hl:l.length≤1000000):aA Tryz.prog G 191 [.slc 1 l.length (JG l),ds s] (di (xY l s)):=by
 refine aA.walk (aj:=nX) (keep:=[]) follows Tryz.func191 rfl Tryz.call191 ?_
 refine aC (fun ZT ZW ZQ _=>ZW [cd Tryz.f191 [1,0,1,0],(.blk 0),cd Tryz.f191 [1,1]] (aB ZT []) ZQ) (by kernel_rfl) ?_
 refine aX.loop (c:=aU (au Tryz.f191) [1,0,1,0,0]) (by kernel_rfl) (adU l s) (fun k=>k≤l.length∧∀i,i<k→l.getD i .empty≠s) (fun k=>l.length-k) 0 ?_ ⟨Nat.zero_le _,fun i hi=>by omega⟩ ?_
 ·exact AS.bD (by kernel_rfl)
 ·rintro k ⟨hk,hkd⟩
  refine walk (aj:=nX) (keep:=[]) (cuts:=[]) (n:=1000) follows ?_
  refine aV (fun ZT ZW ZQ _ ZA _=>((((decide ((↑k:Int)<↑l.length))=true)→(((0≤(↑k:Int))∧((↑k:Int)<↑l.length))∧(((s.toList==(l.getD (↑k:Int).toNat ByteArray.empty).toList)=true)→(((di (↑k)):DV)=(di (xY l s))))∧(((s.toList==(l.getD (↑k:Int).toNat ByteArray.empty).toList)=false)→((I64 (↑k+1))∧(ZA (aB ZT [0,1]))))))∧(((decide ((↑k:Int)<↑l.length))=false)→ZW [cd Tryz.f191 [1,1]] (aB ZT [1]) ZQ))) (by kernel_rfl) ?_
  simp only[gW,dJ]
  refine⟨fun h=>?_,fun h=>?_⟩
  ·simp only[eF] at h
   refine⟨⟨by omega,by omega⟩,fun h2=>?_,fun h2=>?_⟩
   ·simp only[eF] at h2
    rw[(Pq (by omega) hkd h2.symm).2]
   ·simp only[decide_eq_false_iff_not] at h2
    refine⟨⟨by omega,by omega⟩,Again.mk (k+1) ?_ ⟨by omega,fun i hi=>?_⟩ (by omega)⟩
    ·exact AS.bD (by kernel_rfl)
    ·rcases Nat.lt_or_ge i k with h1|h1
     ·exact hkd i h1
     ·obtain rfl:i=k:=by omega
      exact fun h3=>h2 h3.symm
  ·simp only[decide_eq_false_iff_not] at h
   have hst:=any_none (l:=l) (s:=s) fun i hi=>hkd i (by omega)
   refine walk (aj:=nX) (keep:=[]) (cuts:=[]) (n:=1000) follows ?_
   refine aC (fun _ _ _ _=>(((di (-1)):DV)=(di (xY l s)))) (by kernel_rfl) ?_
   rw[hst.2]
noncomputable def adf (l:List ByteArray) (s:ByteArray) (k:Nat):AS:=⟨regs Tryz.f148.ntmps [(0,.d (.slc 1 l.length (JG l))),(1,vs s),(5,vi k)],[]⟩
theorem f148 (l:List ByteArray) (s:ByteArray) (hl:l.length≤1000000):aA Tryz.prog G 148 [.slc 1 l.length (JG l),ds s] (db (uq l s)):=by
 refine aA.walk (aj:=nX) (keep:=[]) follows Tryz.func148 rfl Tryz.call148 ?_
 refine aC (fun ZT ZW ZQ _=>ZW [cd Tryz.f148 [1,0,1,0],(.blk 0),cd Tryz.f148 [1,1]] (aB ZT []) ZQ) (by kernel_rfl) ?_
 refine aX.loop (c:=aU (au Tryz.f148) [1,0,1,0,0]) (by kernel_rfl) (adf l s) (fun k=>k≤l.length∧∀i,i<k→l.getD i .empty≠s) (fun k=>l.length-k) 0 ?_ ⟨Nat.zero_le _,fun i hi=>by omega⟩ ?_
 ·exact AS.bD (by kernel_rfl)
 ·rintro k ⟨hk,hkd⟩
  refine walk (aj:=nX) (keep:=[]) (cuts:=[]) (n:=1000) follows ?_
  refine aV (fun ZT ZW ZQ _ ZA _=>((((decide ((↑k:Int)<↑l.length))=true)→(((0≤(↑k:Int))∧((↑k:Int)<↑l.length))∧((((l.getD (↑k:Int).toNat ByteArray.empty).toList==s.toList)=true)→(((db true):DV)=(db (uq l s))))∧((((l.getD (↑k:Int).toNat ByteArray.empty).toList==s.toList)=false)→((I64 (↑k+1))∧(ZA (aB ZT [0,1]))))))∧(((decide ((↑k:Int)<↑l.length))=false)→ZW [cd Tryz.f148 [1,1]] (aB ZT [1]) ZQ))) (by kernel_rfl) ?_
  simp only[gW,dJ]
  refine⟨fun h=>?_,fun h=>?_⟩
  ·simp only[eF] at h
   refine⟨⟨by omega,by omega⟩,fun h2=>?_,fun h2=>?_⟩
   ·simp only[eF] at h2
    rw[(Pq (by omega) hkd h2).1]
   ·simp only[decide_eq_false_iff_not] at h2
    refine⟨⟨by omega,by omega⟩,Again.mk (k+1) ?_ ⟨by omega,fun i hi=>?_⟩ (by omega)⟩
    ·exact AS.bD (by kernel_rfl)
    ·rcases Nat.lt_or_ge i k with h1|h1
     ·exact hkd i h1
     ·obtain rfl:i=k:=by omega
      exact h2
  ·simp only[decide_eq_false_iff_not] at h
   have hst:=any_none (l:=l) (s:=s) fun i hi=>hkd i (by omega)
   refine walk (aj:=nX) (keep:=[]) (cuts:=[]) (n:=1000) follows ?_
   refine aC (fun _ _ _ _=>(((db false):DV)=(db (uq l s)))) (by kernel_rfl) ?_
   rw[hst.1]
def aeo (l:List ByteArray):iR:=fun f a=>match f,a with
 | 191,[_,.con (.string s)]=>some (di (xY l s))
 | _,_=>none
theorem Af (s:ByteArray):(ByteArray.toList s==ByteArray.toList { data:=#[] })=decide (s.size=0):=by
 rw[dJ,decide_eq_decide]
 constructor
 ·rintro rfl;rfl
 ·intro h
  apply ByteArray.ext
  exact Array.eq_empty_of_size_eq_zero h
theorem f171 (l:List ByteArray) (s:ByteArray) (hl:l.length≤1000000):aA Tryz.prog G 171 [.slc 1 l.length (JG l),ds s] (db (uq l s)):=by
 refine aA.walk (aj:=aeo l) (keep:=[]) follows Tryz.func171 rfl Tryz.call171 ?_
 refine aC (fun _ _ _ ZK=>(ZK 191 [(.slc 1 l.length (JG l)),(ds s)] (di (xY l s))∧((db (decide (xY l s≥0))):DV)=(db (uq l s)))) (by kernel_rfl) ?_
 refine⟨f191 l s hl,?_⟩
 unfold xY uq
 cases h:l.any (fun x=>decide (x=s)) with
 | true=>
  rw[if_pos rfl]
  have:decide ((((l.takeWhile fun x=>!decide (x=s)).length:Nat):Int)≥0)=true:=by rw[eF];omega
  rw[this]
 | false=>rfl
theorem OW:∀i,i<13→Qa i=JG U1 i:=by
 intro i hi
 unfold Qa
 match i,hi with
 | 0,_=>rfl
 | 1,_=>rfl
 | 2,_=>rfl
 | 3,_=>rfl
 | 4,_=>rfl
 | 5,_=>rfl
 | 6,_=>rfl
 | 7,_=>rfl
 | 8,_=>rfl
 | 9,_=>rfl
 | 10,_=>rfl
 | 11,_=>rfl
 | 12,_=>rfl
theorem aaC (s:ByteArray):aA Tryz.prog G 171 [LK,ds s] (db (DK s)):=
 (f171 U1 s (by decide)).args fun _=>DV.gU (fun _ h=>DV.fE OW h) (DV.gU (fun _ h=>h) (fun _ h=>h))
theorem aal (s:ByteArray):aA Tryz.prog G 148 [LK,ds s] (db (DK s)):=
 (f148 U1 s (by decide)).args fun _=>DV.gU (fun _ h=>DV.fE OW h) (DV.gU (fun _ h=>h) (fun _ h=>h))
theorem name_eq (s:ByteArray):nameB s=(!decide (s.size=0)&&decide ((s.size:Int)≤16)&&lT (byteAt s (Int.toNat 0))&&(runN s:Int)==(s.size:Int)&&!DK s):=by
 unfold nameB
 have e1:decide (1≤s.size) = !decide (s.size=0):=by
  by_cases h:s.size=0
  ·simp[h]
  ·simp[h];omega
 have e2:decide (s.size≤16)=decide ((s.size:Int)≤16):=by rw[decide_eq_decide];omega
 have e3:decide (runN s=s.size)=((runN s:Int)==(s.size:Int)):=by
  by_cases h:runN s=s.size
  ·rw[h];simp
  ·rw[decide_eq_false h]
   symm
   rw[beq_eq_false_iff_ne]
   omega
 rw[e1,e2,e3]
 simp only[Bool.and_assoc];rfl
theorem f141 (s:ByteArray) (hs:s.size≤1000000):aA Tryz.prog G 141 [ds s] (db (nameB s)):=by
 refine aA.walk (aj:=nX) (keep:=[]) follows Tryz.func141 rfl Tryz.call141 ?_
 refine aC (fun _ _ _ ZK=>(fun Za Zb=>((((Zb=true)→(((0:Int)≤(0:Int))∧(0<(↑s.size:Int))))∧((Zb=true)→ZK 168 [(.con (.int .u8 (byteAt s (Int.toNat 0))))] (db (lT (byteAt s (Int.toNat 0)))))∧(((!s.toList==(ByteArray.mk #[]).toList&&decide ((↑s.size:Int)≤16)&&lT (byteAt s (Int.toNat 0)))=true)→ZK 169 [(ds s),(.con (.func (.func 170) ⟨[]⟩ ⟨[]⟩))] (di (↑(runN s))))∧((Za=true)→ZK 172 [] (.slc 1 13 Qa))∧((Za=true)→ZK 171 [(.slc 1 13 Qa),(ds s)] (db (DK s))))∧((db (!s.toList==(ByteArray.mk #[]).toList&&decide ((↑s.size:Int)≤16)&&lT (byteAt s (Int.toNat 0))&&(↑(runN s):Int)==↑s.size&&!DK s)):DV)=(db (nameB s)))) (!s.toList==(ByteArray.mk #[]).toList&&decide ((↑s.size:Int)≤16)&&lT (byteAt s (Int.toNat 0))&&(↑(runN s):Int)==↑s.size) (!s.toList==(ByteArray.mk #[]).toList&&decide ((↑s.size:Int)≤16))) (by kernel_rfl) ?_
 try dsimp only
 simp only[Af]
 refine⟨⟨fun h=>?_,fun _=>f168 _,fun _=>f169 s hs,fun _=>f172,fun _=>aaC s⟩,?_⟩
 ·simp only[aY,Bool.not_eq_true',decide_eq_false_iff_not] at h
  exact⟨by omega,by omega⟩
 ·rw[name_eq]
noncomputable def ad4 (s:ByteArray) (k:Nat):AS:=⟨regs Tryz.f122.ntmps [(0,vs s),(3,vi k)],[]⟩
theorem f122 (s:ByteArray) (hs:s.size≤1000000):aA Tryz.prog G 122 [ds s] (db (nameB s)):=by
 refine aA.walk (aj:=nX) (keep:=[]) follows Tryz.func122 rfl Tryz.call122 ?_
 refine aC (fun ZT ZW ZQ ZK=>(fun Za Zb=>(((((!s.toList==(ByteArray.mk #[]).toList)=true)→(((0:Int)≤(0:Int))∧(0<(↑s.size:Int))))∧(((!s.toList==(ByteArray.mk #[]).toList)=true)→ZK 147 [(.con (.int .u8 (byteAt s (Int.toNat 0))))] (db (lT (byteAt s (Int.toNat 0)))))∧((Zb=true)→ZK 149 [] (.slc 1 13 Qa))∧((Zb=true)→ZK 148 [(.slc 1 13 Qa),(ds s)] (db (DK s))))∧((Za=true)→(((db false):DV)=(db (nameB s))))∧((Za=false)→ZW [cd Tryz.f122 [1,1,0,1,0],(.blk 0),cd Tryz.f122 [1,1,1]] (aB ZT [1]) ZQ))) (s.toList==(ByteArray.mk #[]).toList||!lT (byteAt s (Int.toNat 0))||decide ((↑s.size:Int)>16)||DK s) (!(s.toList==(ByteArray.mk #[]).toList||!lT (byteAt s (Int.toNat 0))||decide ((↑s.size:Int)>16)))) (by kernel_rfl) ?_
 try dsimp only
 simp only[Af]
 refine⟨⟨fun h=>?_,fun _=>f147 _,fun _=>f149,fun _=>aal s⟩,fun h=>?_,fun h=>?_⟩
 ·simp only[Bool.not_eq_true',decide_eq_false_iff_not] at h
  exact⟨by omega,by omega⟩
 ·have:nameB s=false:=by
   rw[name_eq]
   by_cases h0:s.size=0
   ·simp[h0]
   ·cases h1:lT (byteAt s (Int.toNat 0)) with
    | false=>simp
    | true=>
     cases h2:DK s with
     | true=>simp
     | false=>
      rw[h1,h2] at h
      simp[h0] at h
      have:decide ((s.size:Int)≤16)=false:=by rw[decide_eq_false_iff_not];omega
      rw[this];simp
  rw[this]
 ·simp only[Bool.or_eq_false_iff,decide_eq_false_iff_not,Bool.not_eq_false',gt_iff_lt] at h
  obtain ⟨⟨⟨h1,h2⟩,h3⟩,h4⟩:=h
  have hn:nameB s=decide (runN s=s.size):=by
   unfold nameB
   have e1:decide (1≤s.size)=true:=by rw[eF];omega
   have e2:decide (s.size≤16)=true:=by rw[eF];omega
   have h2':lT (byteAt s 0)=true:=h2
   rw[e1,e2,h2',h4];simp
  refine aX.loop (c:=aU (au Tryz.f122) [1,1,0,1,0,0]) (by kernel_rfl) (ad4 s) (fun k=>k≤s.size∧∀i,i<k→pV (byteAt s i)=true) (fun k=>s.size-k) 0 ?_ ⟨Nat.zero_le _,fun i hi=>by omega⟩ ?_
  ·exact AS.bD (by kernel_rfl)
  ·rintro k ⟨hk,hkd⟩
   refine walk (aj:=nX) (keep:=[]) (cuts:=[]) (n:=1000) follows ?_
   refine aV (fun ZT ZW ZQ ZK ZA _=>((((decide ((↑k:Int)<↑s.size))=true)→((((0≤(↑k:Int))∧((↑k:Int)<↑s.size))∧ZK 150 [(.con (.int .u8 (byteAt s (↑k:Int).toNat)))] (db (pV (byteAt s (↑k:Int).toNat))))∧(((!pV (byteAt s (↑k:Int).toNat))=true)→(((db false):DV)=(db (nameB s))))∧(((!pV (byteAt s (↑k:Int).toNat))=false)→((I64 (↑k+1))∧(ZA (aB ZT [0,1]))))))∧(((decide ((↑k:Int)<↑s.size))=false)→ZW [cd Tryz.f122 [1,1,1]] (aB ZT [1]) ZQ))) (by kernel_rfl) ?_
   simp only[gW]
   refine⟨fun h=>?_,fun h=>?_⟩
   ·simp only[eF] at h
    refine⟨⟨⟨by omega,by omega⟩,f150 _⟩,fun h5=>?_,fun h5=>⟨⟨by omega,by omega⟩,Again.mk (k+1) ?_ ⟨by omega,fun i hi=>?_⟩ (by omega)⟩⟩
    ·simp only[Bool.not_eq_true'] at h5
     have hst:runN s=k:=zX hk hkd fun _=>h5
     rw[hn,decide_eq_false (by omega)]
    ·exact AS.bD (by kernel_rfl)
    ·rcases Nat.lt_or_ge i k with h1|h1
     ·exact hkd i h1
     ·obtain rfl:i=k:=by omega
      simpa using h5
   ·simp only[decide_eq_false_iff_not] at h
    have hst:runN s=k:=zX hk hkd fun h1=>by omega
    refine walk (aj:=nX) (keep:=[]) (cuts:=[]) (n:=1000) follows ?_
    refine aC (fun _ _ _ _=>(((db true):DV)=(db (nameB s)))) (by kernel_rfl) ?_
    rw[hn,decide_eq_true (by omega)]
def eY (l:List UInt8) (i:Nat):DV:=.con (.int .u8 (((l[i]?).getD 0).toNat:Int))
def Bj:AV:=.d (.con (.pointer none))
def IB:DV:=.aN []
theorem aO.result {F:Fr} {w0:World} {h0:IH} {st:AS} {β:Nat→Nat} {h:IH} {tm:Array Value} {w:World} (g:aO G F w0 h0 st β h tm w) {r:AV} {v:Value} (hr:r.rel β h v):aO G F w0 h0 ⟨[r],st.boxes⟩ β h #[v] w:=
 ⟨g.glob,g.holds,g.ext,g.old,g.kept,g.fix,rfl,fun t x hx=>by
  cases t with
  | zero=>simp at hx;subst hx;exact⟨v,rfl,hr⟩
  | succ t=>simp at hx,g.box,g.inj⟩
theorem OE (h:IH):IB.rel h (.tuple #[]):=⟨[],rfl,rfl⟩
theorem arg1 {F:Fr} {w0:World} {h0:IH} {x:AV} {bx:List (Nat×List AV)} {β:Nat→Nat} {h:IH} {us:Array Value} {w:World} (g:aO G F w0 h0 ⟨[x],bx⟩ β h us w):∃v,us=#[v]∧x.rel β h v:=by
 have hs:us.size=1:=g.size
 obtain ⟨v,hv,hr⟩:=g.regs 0 x rfl
 refine⟨v,?_,hr⟩
 apply Array.ext
 ·simpa using hs
 ·intro i h1 h2
  have:i=0:=by simp at h2;omega
  subst this
  have:=(Array.getElem?_eq_some_iff.1 hv).2
  simpa using this
theorem yZ (s:Nat) (l:List AV) (r:List (Nat×List AV)):Go.Ab.look ((s,l) :: r) s=some l:=by simp[Go.Ab.look]
theorem acv:(Tryz.prog.info? 124).map (·.size)=some 2:=by kernel_rfl
theorem i146:∃j,Tryz.prog.info? 124=some j∧j.size=2:=Option.map_eq_some_iff.1 acv
theorem Zm:liesAt Tryz.prog Tryz.prog.depth 124 (2 / Tryz.prog.cellsOf 124) 0 124 1=true:=by kernel_rfl
theorem KD (b:Nat) (w:World) (h0:w.cell? ⟨b,0,none⟩=some (.pointer (some ⟨b,0,none⟩))) :
  Calls Tryz.prog 110 #[.pointer (some ⟨b,0,none⟩)] w fun e w'=>e=.returned (.tuple #[])∧w'=w:=by
 obtain ⟨j,hj,hjs⟩:=i146
 go_enter Tryz.func110,Tryz.ntmps110
 go_wp2
 rw[Lib.run_neq_ptr_same w _ Tryz.underlying121 hj]
 go_wp2
 go_end0
 exact⟨rfl,rfl⟩
theorem JD (b:Nat) (w:World) (h0:w.cell? ⟨b,0,none⟩=some (.pointer none)) (hsh:w.shape? b=some (124,2)) (hfz:w.frozen? ⟨b,0,none⟩=false) :
  Calls Tryz.prog 110 #[.pointer (some ⟨b,0,none⟩)] w fun e w'=>e=.returned (.tuple #[])∧w'=w.setCell ⟨b,0,none⟩ (.pointer (some ⟨b,0,none⟩)):=by
 obtain ⟨j,hj,hjs⟩:=i146
 go_enter Tryz.func110,Tryz.ntmps110
 go_wp2
 rw[Lib.run_to_unsafe w ⟨b,0,none⟩ Tryz.underlying121 Tryz.underlying156 hj (by rw[hjs];decide) hsh (Nat.zero_lt_succ 1)]
 simp only[Result.andThen]
 rw[Oper.upon_value]
 go_wp2
 rw[run_callFunc_extern Tryz.func131 (by kernel_rfl) (by kernel_rfl) (by kernel_rfl) (e:=Extern.AbiNoEscape.same) (by kernel_rfl)]
 rw[Lib.run_noEscape]
 simp only[Result.andThen]
 rw[Oper.upon_value]
 go_wp2
 rw[Lib.run_from_unsafe w ⟨b,0,none⟩ Tryz.underlying156 Tryz.underlying121 hj hsh Zm]
 simp only[Result.andThen]
 rw[Oper.upon_value]
 go_wp2
 go_end0
 exact⟨rfl,rfl⟩
theorem KZ (b g cap n:Nat) (T:TypeId) (p:Value) (vs:Array Value) (fz:Nat×Nat) (l:List UInt8) (h0:l≠[]) (hn:n=l.length) (w:World) (hbk:w.heap[b]?=some (.cells #[p,.slice (some ⟨g,0,none⟩) n cap] T (0,0)))
  (hg:w.heap[g]?=some (.cells vs 5 fz)) (hcap:n≤cap) (hsz:n≤vs.size) (h63:n≤9223372036854775807) (hvs:∀(j:Nat) (x:UInt8),l[j]?=some x→vs[j]?=some (Value.int .u8 x.toNat)) :
  Calls Tryz.prog 92 #[.pointer (some ⟨b,0,none⟩)] w fun e w'=>e=.returned (.string ⟨l.toArray⟩)∧w'=w.drew.freeze ⟨g,0,none⟩ n:=by
 subst hn
 have hl0:l.length≠0:=by simpa using h0
 have c1:w.drew.cell? ⟨b,1,none⟩=some (.slice (some ⟨g,0,none⟩) l.length cap):=by
  have:w.drew.heap[b]?=some (.cells #[p,.slice (some ⟨g,0,none⟩) l.length cap] T (0,0)):=hbk
  rw[Lib.cell_of_heap this];rfl
 have hSD:(Builtin.unsafeSliceData_ #[122] 138 #[.slice (some ⟨g,0,none⟩) l.length cap]).run Tryz.prog w.drew=.ok (.pointer (some ⟨g,0,none⟩)) w.drew:=
  Lib.run_unsafeSliceData_row _ _ _ _ _ _ (by omega)
 have hUS:(Builtin.unsafeString_ #[138,3] 9 #[.pointer (some ⟨g,0,none⟩),.int .i64 l.length]).run Tryz.prog w.drew=.ok (.string ⟨l.toArray⟩) (w.drew.freeze ⟨g,0,none⟩ l.length):=by
  refine Lib.run_unsafeString_row w.drew 138 3 9 5 Tryz.underlying138 (by kernel_rfl) g vs.size (by have hg':w.drew.heap[g]?=some (.cells vs 5 fz):=hg;simp[World.shape?,hg']) l h0 hsz h63 ?_
  intro j x hx
  have hg':w.drew.heap[g]?=some (.cells vs 5 fz):=hg
  have:(⟨g,0,none⟩:Addr).add j=⟨g,j,none⟩:=by rw[kT];simp
  rw[this]
  simp only[World.cell?,hg']
  exact hvs j x hx
 have mixed:=follows
 go_enter Tryz.func92,Tryz.ntmps92
 go_wp2
 go_region_o
 all_goals (go_wp2;go_ret;exact⟨rfl,rfl⟩)
theorem Dv (b:Nat) (T:TypeId) (p:Value) (w:World) (hbk:w.heap[b]?=some (.cells #[p,.slice none 0 0] T (0,0))) :
  Calls Tryz.prog 92 #[.pointer (some ⟨b,0,none⟩)] w fun e w'=>e=.returned (.string ⟨#[]⟩)∧w'=w.drew:=by
 have c1:w.drew.cell? ⟨b,1,none⟩=some (.slice none 0 0):=by
  have:w.drew.heap[b]?=some (.cells #[p,.slice none 0 0] T (0,0)):=hbk
  rw[Lib.cell_of_heap this];rfl
 have hSD:(Builtin.unsafeSliceData_ #[122] 138 #[.slice none 0 0]).run Tryz.prog w.drew=.ok (.pointer none) w.drew:=rfl
 have hUS:(Builtin.unsafeString_ #[138,3] 9 #[.pointer none,.int .i64 0]).run Tryz.prog w.drew=.ok (.string .empty) w.drew:=Lib.run_unsafeString_none w.drew _ _ _ none
 have mixed:=follows
 go_enter Tryz.func92,Tryz.ntmps92
 go_wp2
 go_region_o
 all_goals (go_wp2;go_ret;exact⟨rfl,rfl⟩)
theorem SL (x:AV) (rest:List (Nat×List AV)):dD Tryz.prog G 110 [.tb 1000000 0 124] ((1000000,[Bj,x]) :: rest) (.d IB) ((1000000,[.box 1000000 0,x]) :: rest):=by
 refine⟨Tryz.call110,fun F w h β us g=>?_⟩
 obtain ⟨v,rfl,hv,hT⟩:=arg1 g
 subst hv
 have hb:(⟨[.tb 1000000 0 124],(1000000,[Bj,x]) :: rest⟩:AS).box 1000000=some [Bj,x]:=yZ ..
 have hp:bU [Bj,x]=true:=by
  cases x<;>rfl
 obtain ⟨_,_,_,T,vs,hh,hr⟩:=g.zJ hb hp
 obtain ⟨v0,vs',rfl,h0,v1,vs'',rfl,h1,h2⟩:=hr
 simp only[AV.aF] at h2;subst h2
 simp only[Bj,AV.rel,DV.rel] at h0;subst h0
 have hTT:T.1=124:=T.2.trans hT
 rw[hTT] at hh
 have c0:w.cell? ⟨blk β 1000000,0,none⟩=some (.pointer none):=by simp[World.cell?,hh]
 refine(JD (blk β 1000000) w c0 (by simp[World.shape?,hh]) (by simp[World.frozen?,hh])).mono ?_
 rintro e w' ⟨rfl,rfl⟩
 have g2:=g.store (s:=1000000) (i:=0) (x:=.box 1000000 0) (v:=.pointer (some ⟨blk β 1000000,0,none⟩)) ⟨_,hb,hp⟩ rfl
 have hset:setCells 1000000 0 (.box 1000000 0) ((1000000,[Bj,x]) :: rest)=(1000000,[.box 1000000 0,x]) :: rest:=by simp[setCells]
 rw[hset] at g2
 exact⟨_,β,h,rfl,aO.result g2 (OE h)⟩
theorem UY (y x:AV) (hy:∀β h v,y.rel β h v→v=.pointer (some ⟨blk β 1000000,0,none⟩)) (rest:List (Nat×List AV)):dD Tryz.prog G 110 [y] ((1000000,[.box 1000000 0,x]) :: rest) (.d IB) ((1000000,[.box 1000000 0,x]) :: rest):=by
 refine⟨Tryz.call110,fun F w h β us g=>?_⟩
 obtain ⟨v,rfl,hv⟩:=arg1 g
 have hv:=hy _ _ _ hv
 subst hv
 have hb:(⟨[y],(1000000,[.box 1000000 0,x]) :: rest⟩:AS).box 1000000=some [.box 1000000 0,x]:=yZ ..
 have hp:bU [.box 1000000 0,x]=true:=by
  cases x<;>rfl
 obtain ⟨_,_,_,T,vs,hh,hr⟩:=g.zJ hb hp
 obtain ⟨v0,vs',rfl,h0,v1,vs'',rfl,h1,h2⟩:=hr
 simp only[AV.aF] at h2;subst h2
 simp only[AV.rel] at h0;subst h0
 have c0:w.cell? ⟨blk β 1000000,0,none⟩=some (.pointer (some ⟨blk β 1000000,0,none⟩)):=by simp[World.cell?,hh]
 refine(KD (blk β 1000000) w c0).mono ?_
 rintro e w' ⟨rfl,rfl⟩
 exact⟨_,β,h,rfl,aO.result g (OE h)⟩
abbrev NJ:RK:=⟨false,5,true,none⟩
theorem JW {g n:Nat} {w:World}:uM g w (w.freeze ⟨g,0,none⟩ n):=by
 unfold World.freeze
 split
 ·exact⟨rfl,rfl,rfl,rfl,fun _ _=>rfl⟩
 ·refine⟨rfl,rfl,rfl,by simp,fun k hk=>?_⟩
  simp only[Array.getElem?_modify]
  rw[if_neg (Ne.symm hk)]
theorem Qg {g n:Nat} {w:World} {vs:Array Value} {T:TypeId} {fr:Nat×Nat} (h:w.heap[g]?=some (.cells vs T fr)):∃fr',(w.freeze ⟨g,0,none⟩ n).heap[g]?=some (.cells vs T fr'):=by
 unfold World.freeze
 split
 ·exact⟨fr,h⟩
 ·simp only[Array.getElem?_modify,if_true,h]
  exact⟨_,rfl⟩
theorem dw.frozen {h:IH} {k:RK} {sz c m:Nat} {f:Nat→DV} {o o':Option Obj} (hR:dw h k sz f c m o) (ho:∀(vs:Array Value) (fr:Nat×Nat),o=some (.cells vs k.ty fr)→∃fr',o'=some (.cells vs k.ty fr')):dw h ⟨k.agg,k.ty,true,k.mn⟩ sz f c m o':=by
 obtain ⟨h1,h2⟩:=hR
 refine⟨h1,h2.imp id ?_⟩
 rintro ⟨fr,vs,e,hf,hl,hone,r⟩
 obtain ⟨fr',e'⟩:=ho _ _ e
 exact⟨fr',vs,e',fun hh=>Bool.noConfusion hh,hl,hone,r⟩
theorem f92 (y A:AV) (hy:∀β h v,y.rel β h v→v=.pointer (some ⟨blk β 1000000,0,none⟩)) (fz:Bool) (l:List UInt8) (h0:l≠[]) (hl:l.length≤4611686018427387904) :
  dD Tryz.prog G 92 [y] [(1000000,[A,.vec 1000001 1 0 l.length]),(1000001,[.arr ⟨false,5,fz,none⟩ 1 (eY l)])] (.d (ds (bs l))) [(1000000,[A,.vec 1000001 1 0 l.length]),(1000001,[.arr NJ 1 (eY l)])]:=by
 refine⟨Tryz.call92,fun F w h β us g=>?_⟩
 obtain ⟨v,rfl,hv⟩:=arg1 g
 have hv:=hy _ _ _ hv
 subst hv
 have hb:(⟨[y],[(1000000,[A,.vec 1000001 1 0 l.length]),(1000001,[.arr ⟨false,5,fz,none⟩ 1 (eY l)])]⟩:AS).box 1000000=some [A,.vec 1000001 1 0 l.length]:=yZ ..
 have hb1:(⟨[y],[(1000000,[A,.vec 1000001 1 0 l.length]),(1000001,[.arr ⟨false,5,fz,none⟩ 1 (eY l)])]⟩:AS).box 1000001=some [.arr ⟨false,5,fz,none⟩ 1 (eY l)]:=by
  simp only[AS.box,Go.Ab.look];rfl
 have hp:bU [A,.vec 1000001 1 0 l.length]=true:=by
  cases A<;>rfl
 obtain ⟨_,_,_,T,vs,hh,hr⟩:=g.zJ hb hp
 obtain ⟨v0,vs',rfl,hA,v1,vs'',rfl,⟨k1,k2,p,hv1,hpp⟩,h2⟩:=hr
 simp only[AV.aF] at h2;subst h2
 subst hv1
 have hpos:0<l.length:=List.length_pos_iff.2 h0
 have hR:=(g.box _ _ hb1).2
 simp only[Own] at hR
 obtain ⟨r1,r2⟩:=hR
 rcases r2 with r2|⟨fr,us,hu,hfr,DF,hone,hel⟩
 ·omega
 have hp':p=some ⟨blk β 1000001,0,none⟩:=by
  rcases hpp with hpp|hpp
  ·simpa using hpp
  ·omega
 subst hp'
 have hRow:dw h ⟨false,5,fz,none⟩ 1 (eY l) (room β 1000001) (many β 1000001) w.heap[blk β 1000001]?:=⟨r1,.inr ⟨fr,us,hu,hfr,DF,hone,hel⟩⟩
 have hcap:l.length≤room β 1000001:=by omega
 refine(KZ (blk β 1000000) (blk β 1000001) (room β 1000001-0) l.length T.1 v0 us.toArray fr l h0 rfl w hh hu (by omega) (by simp[DF];omega) (by omega) ?_).mono ?_
 ·intro j x hx
  have hj:j<l.length:=(List.getElem?_eq_some_iff.1 hx).1
  obtain ⟨v,a1,a2,a3,a4⟩:=hel j (by omega)
  simp only[eY,hx,Option.getD_some,DV.rel] at a1
  subst a1
  have:=a4 0 (by omega)
  simp only[Nat.mul_one,Nat.add_zero,Value.cells] at this
  simpa using this
 ·rintro e w' ⟨rfl,rfl⟩
  have gd:=g.drew (w.drawn+1)
  have hlive:Live β 1000001 [.arr ⟨false,5,fz,none⟩ 1 (eY l)]:=show 0<room β 1000001 by omega
  have g2:=gd.write (s:=1000001) (l:=[.arr ⟨false,5,fz,none⟩ 1 (eY l)]) (l':=[.arr NJ 1 (eY l)]) (w':=w.drew.freeze ⟨blk β 1000001,0,none⟩ l.length)
   (bx:=[(1000000,[A,.vec 1000001 1 0 l.length]),(1000001,[.arr NJ 1 (eY l)])]) hb1 hlive JW (by
    simp only[Own]
    refine dw.frozen (k:=⟨false,5,fz,none⟩) hRow fun vs fr' he=>?_
    exact Qg (w:=w.drew) he) (by
    intro t m ht
    simp only[Go.Ab.look] at ht
    by_cases h1:(1000000:Nat)=t
    ·subst h1
     simp at ht
     subst ht
     exact .inr ⟨by decide,rfl⟩
    ·rw[aQ h1,cond_false] at ht
     by_cases h2:(1000001:Nat)=t
     ·subst h2
      simp at ht
      subst ht
      exact .inl ⟨rfl,rfl⟩
     ·rw[aQ h2,cond_false] at ht
      cases ht)
  exact⟨_,β,h,rfl,aO.result g2 (r:=.d (ds (bs l))) rfl⟩
theorem aev (y A:AV) (hy:∀β h v,y.rel β h v→v=.pointer (some ⟨blk β 1000000,0,none⟩)) :
  dD Tryz.prog G 92 [y] [(1000000,[A,.d (.con (.slice none 0 0))])] (.d (ds (bs []))) [(1000000,[A,.d (.con (.slice none 0 0))])]:=by
 refine⟨Tryz.call92,fun F w h β us g=>?_⟩
 obtain ⟨v,rfl,hv⟩:=arg1 g
 have hv:=hy _ _ _ hv
 subst hv
 have hb:(⟨[y],[(1000000,[A,.d (.con (.slice none 0 0))])]⟩:AS).box 1000000=some [A,.d (.con (.slice none 0 0))]:=yZ ..
 have hp:bU [A,.d (.con (.slice none 0 0))]=true:=by
  cases A<;>rfl
 obtain ⟨_,_,_,T,vs,hh,hr⟩:=g.zJ hb hp
 obtain ⟨v0,vs',rfl,hA,v1,vs'',rfl,h1,h2⟩:=hr
 simp only[AV.aF] at h2;subst h2
 simp only[AV.rel,DV.rel] at h1;subst h1
 refine(Dv (blk β 1000000) T.1 v0 w hh).mono ?_
 rintro e w' ⟨rfl,rfl⟩
 exact⟨_,β,h,rfl,aO.result (g.drew (w.drawn+1)) (r:=.d (ds (bs []))) rfl⟩
abbrev Fe:RK:=⟨false,5,false,none⟩
def XU:dU:={ d:=fun _ _=>none,m:=fun f _ pre=>match f,pre with
 | 110,(u,[.d (.con (.pointer none)),x]) :: rest=>some (.d IB,(u,[.box u 0,x]) :: rest)
 | 110,(u,[.box v 0,x]) :: rest=>some (.d IB,(u,[.box v 0,x]) :: rest)
 | _,_=>none }
theorem QG (s:ByteArray):uw s=eY s.data.toList:=by
 funext i
 simp only[uw,eY,byteAt,Array.getElem?_toList]
theorem VT (l m:List UInt8):(fun i=>bif Nat.blt i l.length then eY l i else eY m (i-l.length))=eY (l++m):=by
 funext i
 cases h:Nat.blt i l.length with
 | true=>
  rw[Nat.blt_eq] at h
  simp only[cond_true,eY,List.getElem?_append_left h]
 | false=>
  have h:¬i<l.length:=by rw[←Nat.blt_eq,h];decide
  simp only[cond_false,eY,List.getElem?_append_right (Nat.le_of_not_lt h)]
theorem VD (s:ByteArray) (hs:s.size≤281474976710):dD Tryz.prog G 91 [.tb 1000000 0 124,vs s] [(1000000,[Bj,.d (.con (.slice none 0 0))])] (.d (.aN [di s.size,.con .nilIface]))
  [(1000000,[.box 1000000 0,.vec 14 1 0 s.data.toList.length]),(14,[.arr Fe 1 (eY s.data.toList)])]:=by
 refine dD.walk (aj:=XU) (keep:=[]) [] follows (by kernel_rfl) Tryz.func91 rfl Tryz.call91 ?_
 refine aC (fun _ _ _ _=>(dD Tryz.prog G 110 [(.tb 1000000 0 124)] [(1000000,[(.d (.con (.pointer none))),(.d (.con (.slice none 0 0)))])] (.d (.aN [])) [(1000000,[(.box 1000000 0),(.d (.con (.slice none 0 0)))])]∧((s.size*1≤1099511627776)∧(s.size≤1099511627776))∧(ZS ((.d (.aN [(di (↑s.size)),(.con .nilIface)])):AV))∧((some [(.box 1000000 0),(.vec 14 1 0 s.size)]):(Option (List AV)))=(some [(.box 1000000 0),(.vec 14 1 0 s.data.toList.length)])∧((some [(.arr ⟨false,5,false,none⟩ 1 (uw s))]):(Option (List AV)))=(some [(.arr ⟨false,5,false,none⟩ 1 (eY s.data.toList))])∧True)) (by kernel_rfl) ?_
 refine⟨SL _ _,⟨by omega,by omega⟩,rfl,?_,?_,trivial⟩
 ·rw[DT]
 ·rw[QG]
theorem Xf (s:ByteArray) (l:List UInt8) (hs:l.length+s.size≤281474976710):dD Tryz.prog G 91 [.tb 1000000 0 124,vs s] [(1000000,[.box 1000000 0,.vec 1000001 1 0 l.length]),(1000001,[.arr Fe 1 (eY l)])] (.d (.aN [di s.size,.con .nilIface]))
  [(1000000,[.box 1000000 0,.vec 14 1 0 (l++s.data.toList).length]),(14,[.arr Fe 1 (eY (l++s.data.toList))])]:=by
 refine dD.walk (aj:=XU) (keep:=[]) [] follows (by kernel_rfl) Tryz.func91 rfl Tryz.call91 ?_
 refine aC (fun _ _ _ _=>(dD Tryz.prog G 110 [(.tb 1000000 0 124)] [(1000000,[(.box 1000000 0),(.vec 1000001 1 0 l.length)]),(1000001,[(.arr ⟨false,5,false,none⟩ 1 (eY l))])] (.d (.aN [])) [(1000000,[(.box 1000000 0),(.vec 1000001 1 0 l.length)]),(1000001,[(.arr ⟨false,5,false,none⟩ 1 (eY l))])]∧(((l.length+s.size)*1≤1099511627776)∧(l.length+s.size≤1099511627776))∧(ZS ((.d (.aN [(di (↑s.size)),(.con .nilIface)])):AV))∧((some [(.box 1000000 0),(.vec 14 1 0 (l.length+s.size))]):(Option (List AV)))=(some [(.box 1000000 0),(.vec 14 1 0 (l++s.data.toList).length)])∧((some [(.arr ⟨false,5,false,none⟩ 1 (fun i=>bif i.blt l.length then eY l i else uw s (i-l.length)))]):(Option (List AV)))=(some [(.arr ⟨false,5,false,none⟩ 1 (eY (l++s.data.toList)))])∧True)) (by kernel_rfl) ?_
 refine⟨UY (.tb 1000000 0 124) _ (fun β h v hv=>hv.1) _,⟨by omega,by omega⟩,rfl,?_,?_,trivial⟩
 ·rw[List.length_append,DT]
 ·rw[QG,VT]
end Go.Proofs
namespace Go.Proofs
open Go Go.Ab
def lQ (f:ByteArray):List UInt8:=Lib.itoa (f.size:Int)++[58]++f.data.toList
def bM:List ByteArray→List UInt8
 | []=>[]
 | f :: l=>lQ f++bM l
theorem Ei (l m:List ByteArray):bM (l++m)=bM l++bM m:=by
 induction l with
 | nil=>rfl
 | cons f l ih=>simp only[List.cons_append,bM,ih,List.append_assoc]
def jg (l:List ByteArray):Bool:=decide (l.length>4096)||decide ((bM l).length>30000)
def fG (l:List ByteArray):ByteArray:=bif jg l then ByteArray.empty else bs (bM l)
def fH (l:List ByteArray):Int:=bif jg l then 8 else 0
def rJ (l:List ByteArray):Prop:=l.length≤100000∧∀f∈l,f.size≤100000
def iq (l:List ByteArray) (i:Nat):ByteArray:=l.getD i ByteArray.empty
theorem KL {l:List ByteArray} {i:Nat} (h:i<l.length):iq l i=l[i]:=by
 simp[iq,h]
theorem jO {l:List ByteArray} {i:Nat} (h:i<l.length):bM (l.take (i+1))=bM (l.take i)++lQ (iq l i):=by
 rw[List.take_succ_eq_append_getElem h,Ei,KL h]
 simp[bM]
theorem qK (f:ByteArray):(lQ f).length=(Lib.itoa (f.size:Int)).length+1+f.size:=by
 unfold lQ
 rw[List.length_append,List.length_append,DT];rfl
theorem iH (n:Int) (h:I64 n):(Lib.itoa n).length≤21:=Lib.itoa_length_le n h.1 h.2
theorem rJ.at {l:List ByteArray} (hl:rJ l) {i:Nat} (h:i<l.length):(iq l i).size≤100000:=by
 rw[KL h];exact hl.2 _ (List.getElem_mem h)
theorem rJ.len {l:List ByteArray} (hl:rJ l):∀i,i≤l.length→(bM (l.take i)).length≤i*100022
 | 0,_=>by simp[bM]
 | i+1,h=>by
  have:=rJ.len hl i (by omega)
  have h1:=hl.at (i:=i) (by omega)
  have h2:=iH ((iq l i).size:Int) ⟨by omega,by omega⟩
  rw[jO (by omega),List.length_append,qK]
  omega
end Go.Proofs
namespace Go.Proofs
open Go.Shelf
def Tryz.laysM171_ren:Go.Shelf.Ren:=⟨fun|171=>67|243=>94|246=>111|283=>132|284=>133|285=>134|286=>135|129=>157|317=>156|318=>158|319=>159|320=>160|337=>184|338=>185|n=>n,fun|3=>3|9=>9|2=>2|4=>4|171=>158|0=>0|53=>159|37=>122|5=>5|173=>162|212=>185|51=>186|20=>20|213=>187|46=>167|232=>209|233=>210|n=>n,fun|17=>2|18=>4|19=>5|n=>n⟩
theorem Tryz.laysM171:Go.Proofs.LaysM.n171 Tryz.prog Tryz.laysM171_ren:={
 mixed:=by kernel_rfl
 f129:=Tryz.func157.trans (congrArg some (by kernel_rfl))
 f171:=Tryz.func67.trans (congrArg some (by kernel_rfl))
 f243:=Tryz.func94.trans (congrArg some (by kernel_rfl))
 f246:=Tryz.func111.trans (congrArg some (by kernel_rfl))
 f283:=Tryz.func132.trans (congrArg some (by kernel_rfl))
 f284:=Tryz.func133.trans (congrArg some (by kernel_rfl))
 f285:=Tryz.func134.trans (congrArg some (by kernel_rfl))
 f286:=Tryz.func135.trans (congrArg some (by kernel_rfl))
 f317:=Tryz.func156.trans (congrArg some (by kernel_rfl))
 f318:=Tryz.func158.trans (congrArg some (by kernel_rfl))
 f319:=Tryz.func159.trans (congrArg some (by kernel_rfl))
 f320:=Tryz.func160.trans (congrArg some (by kernel_rfl))
 f337:=Tryz.func184.trans (congrArg some (by kernel_rfl))
 f338:=Tryz.func185.trans (congrArg some (by kernel_rfl))
 t0:=Tryz.underlying0
 a0:=Tryz.isAgg0
 z0:=Tryz.sizeOf0
 v0:=Tryz.zeroValue0
 t2:=Tryz.underlying2
 a2:=Tryz.isAgg2
 z2:=Tryz.sizeOf2
 v2:=Tryz.zeroValue2
 t3:=Tryz.underlying3
 a3:=Tryz.isAgg3
 z3:=Tryz.sizeOf3
 v3:=Tryz.zeroValue3
 t4:=Tryz.underlying4
 a4:=Tryz.isAgg4
 z4:=Tryz.sizeOf4
 v4:=Tryz.zeroValue4
 t5:=Tryz.underlying5
 a5:=Tryz.isAgg5
 z5:=Tryz.sizeOf5
 v5:=Tryz.zeroValue5
 t9:=Tryz.underlying9
 a9:=Tryz.isAgg9
 z9:=Tryz.sizeOf9
 v9:=Tryz.zeroValue9
 t20:=Tryz.underlying20
 a20:=Tryz.isAgg20
 z20:=Tryz.sizeOf20
 v20:=Tryz.zeroValue20
 t37:=Tryz.underlying122
 a37:=Tryz.isAgg122
 z37:=Tryz.sizeOf122
 v37:=Tryz.zeroValue122
 t46:=Tryz.underlying167
 a46:=Tryz.isAgg167
 z46:=Tryz.sizeOf167
 v46:=Tryz.zeroValue167
 t51:=Tryz.underlying186
 a51:=Tryz.isAgg186
 z51:=Tryz.sizeOf186
 v51:=Tryz.zeroValue186
 t53:=Tryz.underlying159
 a53:=Tryz.isAgg159
 z53:=Tryz.sizeOf159
 v53:=Tryz.zeroValue159
 t171:=Tryz.underlying158
 a171:=Tryz.isAgg158
 z171:=Tryz.sizeOf158
 v171:=Tryz.zeroValue158
 t173:=Tryz.underlying162
 a173:=Tryz.isAgg162
 z173:=Tryz.sizeOf162
 v173:=Tryz.zeroValue162
 t212:=Tryz.underlying185
 a212:=Tryz.isAgg185
 z212:=Tryz.sizeOf185
 v212:=Tryz.zeroValue185
 t213:=Tryz.underlying187
 a213:=Tryz.isAgg187
 z213:=Tryz.sizeOf187
 t232:=Tryz.underlying209
 a232:=Tryz.isAgg209
 z232:=Tryz.sizeOf209
 v232:=Tryz.zeroValue209
 t233:=Tryz.underlying210
 a233:=Tryz.isAgg210
 z233:=Tryz.sizeOf210
 v233:=Tryz.zeroValue210
 g17:=by kernel_rfl
 g18:=by kernel_rfl
 g19:=by kernel_rfl
 i0:=by kernel_rfl
 i2:=by kernel_rfl
 i3:=by kernel_rfl
 i4:=by kernel_rfl
 i5:=by kernel_rfl
 i9:=by kernel_rfl
 i20:=by kernel_rfl
 i37:=by kernel_rfl
 i46:=by kernel_rfl
 i51:=by kernel_rfl
 i53:=by kernel_rfl
 i171:=by kernel_rfl
 i173:=by kernel_rfl
 i212:=by kernel_rfl
 i232:=by kernel_rfl
 i233:=by kernel_rfl
 m17:=by kernel_rfl
 m18:=by kernel_rfl
 m19:=by kernel_rfl }
open Go.RowKit Go.Sort Go.Lib in
theorem Tryz.strconv_Itoa (n : Int) (h0 : -9223372036854775808 ≤ n) (h1 : n ≤ 9223372036854775807) (w : World) (htab : Lib.TabIs Tryz.prog w "internal/strconv.uint64pow10" .u64 Lib.pow10Tab) :
  Calls Tryz.prog 67 #[.int .i64 n] w fun e w'=>e=.returned (.string ⟨(Lib.itoa n).toArray⟩)∧∃k os,w'=grow (w.drewN k) os:=Any.strconv_Itoa Tryz.laysM171 n h0 h1 w htab
end Go.Proofs
namespace Go.Proofs
open Go Go.Ab Go.RowKit
variable {G:IH}
def Tab (G : IH) : Prop := ∀ w, G.holds w → Lib.TabIs Tryz.prog w "internal/strconv.uint64pow10" .u64 Lib.pow10Tab
theorem f67 (hT:Tab G) (n:Int) (h:I64 n):aA Tryz.prog G 67 [di n] (ds (bs (Lib.itoa n))):=by
 refine aA.Wv (args:=[.int .i64 n]) (v:=.string (bs (Lib.itoa n))) Tryz.call67 fun w hw=>?_
 refine Calls.mono (Tryz.strconv_Itoa n h.1 h.2 w (hT w hw)) ?_
 rintro e w' ⟨he,k,os,rfl⟩
 exact⟨he,below_grow w k os⟩
theorem Wy (hT:Tab G) (n:Nat) (h:n≤1000000):aA Tryz.prog G 67 [di n] (ds (bs (Lib.itoa n))):=f67 hT n ⟨by omega,by omega⟩
theorem zn (l:List UInt8):bytesOf l.length (eY l)=l:=by
 unfold bytesOf
 apply List.ext_getElem
 ·simp
 ·intro i h1 h2
  simp[eY,byteOfD,gy h2]
def abK:FuncId→List AV→List (Nat×List AV)→Option (AV×List (Nat×List AV)):=fun f args pre=>match f,args,pre with
 | 91,[_,.d (.con (.string s))],[(b,[.d (.con (.pointer none)),_])]=>some (.d (.aN [di s.size,.con .nilIface]),[(b,[.box b 0,.vec 14 1 0 s.data.toList.length]),(14,[.arr Fe 1 (eY s.data.toList)])])
 | 91,[_,.d (.con (.string s))],[(b,[.box _ 0,.vec _ 1 0 n]),(_,[.arr _ 1 F])]=>some (.d (.aN [di s.size,.con .nilIface]),[(b,[.box b 0,.vec 14 1 0 (bytesOf n F++s.data.toList).length]),(14,[.arr Fe 1 (eY (bytesOf n F++s.data.toList))])])
 | 92,[_],[(b,[A,.vec r 1 0 n]),(r',[.arr _ 1 F])]=>some (.d (ds (bs (bytesOf n F))),[(b,[A,.vec r 1 0 n]),(r',[.arr NJ 1 F])])
 | 92,[_],[(b,[A,.d (.con (.slice none 0 0))])]=>some (.d (ds (bs [])),[(b,[A,.d (.con (.slice none 0 0))])])
 | _,_,_=>none
def aam:iR:=fun f args=>match f,args with
 | 67,[.con (.int .i64 n)]=>some (ds (bs (Lib.itoa n)))
 | _,_=>none
def Cb:dU:={ d:=aam,ty:=fun T=>Nat.beq T 124,m:=abK }
def Ec (l:List ByteArray) (i:Nat):DV:=ds (iq l i)
abbrev zI (l:List ByteArray):DV:=.slc 1 l.length (Ec l)
noncomputable def S58 (l:List ByteArray) (i:Nat):AS:=⟨regs Tryz.f58.ntmps [(0,.d (zI l)),(4,vi (bM (l.take i)).length),(10,.d (zI l)),(11,vi l.length),(12,vi i)],[]⟩
def abu (t:List UInt8):Nat→List (Nat×List AV)
 | 0=>[(7,[Bj,.d (.con (.slice none 0 0))])]
 | _+1=>[(7,[.box 7 0,.vec 500 1 0 t.length]),(500,[.arr Fe 1 (eY t)])]
noncomputable def adt (l:List ByteArray) (i:Nat):AS:=⟨regs Tryz.f58.ntmps [(7,.tb 7 0 124),(34,.d (zI l)),(35,vi l.length),(36,vi i)],abu (bM (l.take i)) i⟩
theorem f58 (hT:Tab G) (l:List ByteArray) (hl:rJ l):aA Tryz.prog G 58 [zI l] (.aN [ds (fG l),di (fH l)]):=by
 refine aA.walk (aj:=Cb) (keep:=[]) follows Tryz.func58 rfl Tryz.call58 ?_
 refine aC (fun ZT ZW ZQ _=>ZW [cd Tryz.f58 [1,1,0,1,0],(.blk 0),cd Tryz.f58 [1,1,1]] (aB ZT []) ZQ) (by kernel_rfl) ?_
 have hll:=hl.1
 refine aX.loop (c:=aU (au Tryz.f58) [1,1,0,1,0,0]) (by kernel_rfl) (S58 l) (fun i=>i≤l.length) (fun i=>l.length-i) 0 ?_ (Nat.zero_le _) ?_
 ·exact AS.bD (by kernel_rfl)
 ·intro i hi
  have hlen:=hl.len i hi
  refine walk (aj:=Cb) (keep:=[]) (cuts:=[]) (n:=1000) follows ?_
  refine aV (fun ZT ZW ZQ ZK ZA _=>(fun Za=>((((decide ((↑i:Int)<↑l.length))=true)→(((0≤(↑i:Int))∧((↑i:Int)<↑l.length))∧(ZK 67 [(di (↑(iq l (↑i:Int).toNat).size))] (ds Za)∧(I64 (↑Za.size+1))∧(I64 (↑Za.size+1 + ↑(iq l (↑i:Int).toNat).size))∧(I64 (↑(bM (List.take i l)).length+(↑Za.size+1 + ↑(iq l (↑i:Int).toNat).size))))∧(I64 (↑i+1))∧(ZA (aB ZT [0]))))∧(((decide ((↑i:Int)<↑l.length))=false)→ZW [cd Tryz.f58 [1,1,1]] (aB ZT [1]) ZQ))) (bs (Lib.itoa ↑(iq l (↑i:Int).toNat).size))) (by kernel_rfl) ?_
  try dsimp only
  simp only[gW]
  refine⟨fun h=>?_,fun h=>?_⟩
  ·have hi':i<l.length:=by simpa using h
   have h1:=hl.at hi'
   have h2:=iH ((iq l i).size:Int) ⟨by omega,by omega⟩
   rw[eX]
   refine⟨⟨by omega,by omega⟩,⟨Wy hT _ (by omega),⟨by omega,by omega⟩,⟨by omega,by omega⟩,by omega,by omega⟩,⟨by omega,by omega⟩,Again.mk (i+1) ?_ (by omega) (by omega)⟩
   refine AS.leZ [1] [] (b:=((T0∧((vi (↑(bM (List.take i l)).length+(↑(bs (Lib.itoa ↑(iq l (↑i:Int).toNat).size)).size+1 + ↑(iq l (↑i:Int).toNat).size))):AV)=(vi (↑(bM (List.take (i+1) l)).length))∧T0∧T0∧T0∧True)∧True)) (by kernel_rfl) (by kernel_rfl) ?_
   refine⟨⟨rfl,?_,rfl,rfl,rfl,trivial⟩,trivial⟩
   rw[jO hi',List.length_append,qK]
   push_cast;rfl
  ·have:i=l.length:=by simp at h;omega
   subst this
   simp only[List.take_length] at hlen⊢
   refine walk (aj:=Cb) (keep:=[]) (cuts:=[]) (n:=1000) follows ?_
   refine aC (fun ZT ZW ZQ _=>(fun Za=>(((Za=true)→(((.aN [(ds (ByteArray.mk #[])),(di 8)]):DV)=(.aN [(ds (fG l)),(di (fH l))])))∧((Za=false)→ZW [cd Tryz.f58 [1,1,1,1,1,0,1,0],(.blk 2),cd Tryz.f58 [1,1,1,1,1,1]] (aB ZT [1]) ZQ))) (decide ((↑l.length:Int)>4096)||decide ((↑(bM (List.take l.length l)).length:Int)>30000))) (by kernel_rfl) ?_
   refine⟨fun h=>?_,fun h=>?_⟩
   ·have hb:jg l=true:=by
     unfold jg
     simp at h⊢
     omega
    unfold fG fH
    rw[hb];rfl
   have hb:jg l=false:=by
    unfold jg
    simp at h⊢
    omega
   have hbl:(bM l).length≤30000:=by
    simp at h
    omega
   have hR:(DV.aN [ds (fG l),di (fH l)])=.aN [ds (bs (bM l)),di 0]:=by
    unfold fG fH
    rw[hb];rfl
   rw[hR]
   refine aX.loop (c:=aU (au Tryz.f58) [1,1,1,1,1,0,1,0,0]) (by kernel_rfl) (adt l) (fun i=>i≤l.length) (fun i=>l.length-i) 0 ?_ (Nat.zero_le _) ?_
   ·exact AS.bD (by kernel_rfl)
   ·intro i hi
    have hpl:∀i,i<l.length→(bM (l.take i)).length+(lQ (iq l i)).length≤30000:=by
     intro i hi
     have e:bM l=bM (l.take (i+1))++bM (l.drop (i+1)):=by rw[←Ei,List.take_append_drop]
     rw[e,jO hi,List.length_append,List.length_append] at hbl
     omega
    have hfs:∀f:ByteArray,(bs (Lib.itoa (f.size:Int)) ++ { data:=#[58] }++f).size=(lQ f).length:=fun f=>by
     rw[QW,QW,eX,qK];rfl
    have aaG:∀f:ByteArray,(bs (Lib.itoa (f.size:Int)) ++ { data:=#[58] }).size=(Lib.itoa (f.size:Int)).length+1:=fun f=>by
     rw[QW,eX];rfl
    have hz1:({ data:=#[58] }:ByteArray).size=1:=rfl
    have hy:∀(β:Nat→Nat) (h:IH) (v:Value),(AV.tb 1000000 0 124).rel β h v→v=.pointer (some ⟨blk β 1000000,0,none⟩):=fun β h v hv=>hv.1
    cases i with
    | zero=>
     refine walk (aj:=Cb) (keep:=[]) (cuts:=[]) (n:=1000) follows ?_
     refine aV (fun ZT ZW ZQ ZK ZA _=>(fun Za Zb=>((((decide (0<(↑l.length:Int)))=true)→((((0:Int)≤(0:Int))∧(0<(↑l.length:Int)))∧(ZK 67 [(di (↑(iq l (Int.toNat 0)).size))] (ds (bs Za))∧((bs Za).size+(ByteArray.mk #[58]).size≤9223372036854775807)∧((bs Za++ByteArray.mk #[58]).size+(iq l (Int.toNat 0)).size≤9223372036854775807)∧dD Tryz.prog G 91 [(.tb 1000000 0 124),(vs (bs Za++ByteArray.mk #[58]++iq l (Int.toNat 0)))] [(1000000,[(.d (.con (.pointer none))),(.d (.con (.slice none 0 0)))])] (.d (.aN [(di (↑(bs Za++ByteArray.mk #[58]++iq l (Int.toNat 0)).size)),(.con .nilIface)])) [(1000000,[(.box 1000000 0),(.vec 14 1 0 Zb.length)]),(14,[(.arr ⟨false,5,false,none⟩ 1 (eY Zb))])])∧(I64 (0+1))∧(ZA (aB ZT [0]))))∧(((decide (0<(↑l.length:Int)))=false)→ZW [cd Tryz.f58 [1,1,1,1,1,1]] (aB ZT [1]) ZQ))) (Lib.itoa ↑(iq l (Int.toNat 0)).size) (Lib.itoa ↑(iq l (Int.toNat 0)).size++[58]++(iq l (Int.toNat 0)).data.toList)) (by kernel_rfl) ?_
     try dsimp only
     have e0:Int.toNat (0:Int)=0:=rfl
     rw[e0]
     refine⟨fun h=>?_,fun h=>?_⟩
     ·have hi':0<l.length:=by simpa using h
      have h1:=hl.at hi'
      have h2:=iH ((iq l 0).size:Int) ⟨by omega,by omega⟩
      have h3:=hpl 0 hi'
      have h4:=hfs (iq l 0)
      have h5:=aaG (iq l 0)
      refine⟨⟨by omega,by omega⟩,⟨Wy hT _ (by omega),by rw[eX];omega,by omega,VD _ (by omega)⟩,⟨by decide,by decide⟩,Again.X4 [(47014,500)] rfl 1 ?_ (by omega) (by omega)⟩
      refine AS.leZ [] [0,1] (b:=((T0∧T0∧T0∧T0∧True)∧((some [(.box 7 0),(.vec 500 1 0 (Lib.itoa ↑(iq l (↑0:Int).toNat).size++[58]++(iq l (↑0:Int).toNat).data.toList).length)]):(Option (List AV)))=(some [(.box 7 0),(.vec 500 1 0 (bM (List.take 1 l)).length)])∧((some [(.arr ⟨false,5,false,none⟩ 1 (eY (Lib.itoa ↑(iq l (↑0:Int).toNat).size++[58]++(iq l (↑0:Int).toNat).data.toList)))]):(Option (List AV)))=(some [(.arr ⟨false,5,false,none⟩ 1 (eY (bM (List.take 1 l))))])∧True)) (by kernel_rfl) (by kernel_rfl) ?_
      refine⟨⟨rfl,rfl,rfl,rfl,trivial⟩,?_,?_,trivial⟩
      ·rw[jO hi'];rfl
      ·rw[jO hi'];rfl
     ·have h:l.length=0:=by simpa using h
      have hnil:l=[]:=List.eq_nil_of_length_eq_zero h
      subst hnil
      refine walk (aj:=Cb) (keep:=[]) (cuts:=[]) (n:=1000) follows ?_
      refine aC (fun _ _ _ _=>(dD Tryz.prog G 92 [(.tb 1000000 0 124)] [(1000000,[(.d (.con (.pointer none))),(.d (.con (.slice none 0 0)))])] (vs (bs [])) [(1000000,[(.d (.con (.pointer none))),(.d (.con (.slice none 0 0)))])]∧((.aN [(ds (bs [])),(di 0)]):DV)=(.aN [(ds (bs (bM []))),(di 0)]))) (by kernel_rfl) ?_
      exact⟨aev _ Bj hy,rfl⟩
    | succ i=>
     refine walk (aj:=Cb) (keep:=[]) (cuts:=[]) (n:=1000) follows ?_
     refine aV (fun ZT ZW ZQ ZK ZA _=>(fun (Za:Int) Zb=>((((decide ((↑(i+1):Int)<↑l.length))=true)→(((0≤(↑(i+1):Int))∧((↑(i+1):Int)<↑l.length))∧(ZK 67 [(di (Za))] (ds (bs (Lib.itoa Za)))∧(ByteArray.size (bs (Lib.itoa Za))+ByteArray.size { data:=#[58] }≤9223372036854775807)∧(ByteArray.size (bs (Lib.itoa Za) ++ { data:=#[58] })+ByteArray.size Zb≤9223372036854775807)∧dD Tryz.prog G 91 [(.tb 1000000 0 124),(vs (bs (Lib.itoa Za) ++ { data:=#[58] }++iq l (Int.toNat (↑(i+1):Int))))] [(1000000,[(.box 1000000 0),(.vec 1000001 1 0 (bM (List.take (i+1) l)).length)]),(1000001,[(.arr ⟨false,5,false,none⟩ 1 (eY (bM (List.take (i+1) l))))])] (.d (.aN [(di ((↑(ByteArray.size (bs (Lib.itoa Za) ++ { data:=#[58] }++iq l (Int.toNat (↑(i+1):Int)))):Int))),(.con .nilIface)])) [(1000000,[(.box 1000000 0),(.vec 14 1 0 (List.length (bytesOf (List.length (bM (List.take (i+1) l))) (eY (bM (List.take (i+1) l)))++(Lib.itoa Za++[58]++Array.toList (ByteArray.data Zb)))))]),(14,[(.arr ⟨false,5,false,none⟩ 1 (eY (bytesOf (List.length (bM (List.take (i+1) l))) (eY (bM (List.take (i+1) l)))++(Lib.itoa Za++[58]++Array.toList (ByteArray.data Zb)))))])])∧(I64 (↑(i+1)+1))∧(ZA (aB ZT [0]))))∧(((decide ((↑(i+1):Int)<↑l.length))=false)→ZW [cd Tryz.f58 [1,1,1,1,1,1]] (aB ZT [1]) ZQ))) (↑(ByteArray.size (iq l (Int.toNat (↑(i+1):Int)))):Int) (iq l (Int.toNat (↑(i+1):Int)))) (by kernel_rfl) ?_
     try dsimp only
     simp only[gW,zn]
     have hne:bM (l.take (i+1))≠[]:=by
      rw[jO (by omega)]
      unfold lQ
      intro e
      have:=congrArg List.length e
      simp at this
     refine⟨fun h=>?_,fun h=>?_⟩
     ·have hi':i+1<l.length:=by simp at h;omega
      have h1:=hl.at hi'
      have h2:=iH ((iq l (i+1)).size:Int) ⟨by omega,by omega⟩
      have h3:=hpl (i+1) hi'
      have h4:=hfs (iq l (i+1))
      have h5:=aaG (iq l (i+1))
      refine⟨⟨by omega,by omega⟩,⟨Wy hT _ (by omega),by rw[eX];omega,by omega,Xf _ _ (by omega)⟩,⟨by omega,by omega⟩,Again.X4 [(47014,500)] rfl (i+1+1) ?_ (by omega) (by omega)⟩
      refine AS.leZ [] [0,1] (b:=((T0∧T0∧T0∧T0∧True)∧((some [(.box 7 0),(.vec 500 1 0 (List.length (bytesOf (List.length (bM (List.take (i+1) l))) (eY (bM (List.take (i+1) l)))++(Lib.itoa (↑(ByteArray.size (iq l (Int.toNat (↑(i+1):Int)))):Int)++[58]++Array.toList (ByteArray.data (iq l (Int.toNat (↑(i+1):Int))))))))]):(Option (List AV)))=(some [(.box 7 0),(.vec 500 1 0 (bM (List.take (i+1+1) l)).length)])∧((some [(.arr ⟨false,5,false,none⟩ 1 (eY (bytesOf (List.length (bM (List.take (i+1) l))) (eY (bM (List.take (i+1) l)))++(Lib.itoa (↑(ByteArray.size (iq l (Int.toNat (↑(i+1):Int)))):Int)++[58]++Array.toList (ByteArray.data (iq l (Int.toNat (↑(i+1):Int))))))))]):(Option (List AV)))=(some [(.arr ⟨false,5,false,none⟩ 1 (eY (bM (List.take (i+1+1) l))))])∧True)) (by kernel_rfl) (by kernel_rfl) ?_
      refine⟨⟨rfl,rfl,rfl,rfl,trivial⟩,?_,?_,trivial⟩
      ·rw[zn,jO hi'];rfl
      ·rw[zn,jO hi'];rfl
     ·have:i+1=l.length:=by simp at h;omega
      have ht:bM (l.take (i+1))=bM l:=by rw[this,List.take_length]
      rw[ht] at hne
      refine walk (aj:=Cb) (keep:=[]) (cuts:=[]) (n:=1000) follows ?_
      refine aC (fun _ _ _ _=>(fun Za=>(dD Tryz.prog G 92 [(.tb 1000000 0 124)] [(1000000,[(.box 1000000 0),(.vec 1000001 1 0 (bM (List.take (i+1) l)).length)]),(1000001,[(.arr ⟨false,5,false,none⟩ 1 Za)])] (vs (bs (bytesOf (bM (List.take (i+1) l)).length Za))) [(1000000,[(.box 1000000 0),(.vec 1000001 1 0 (bM (List.take (i+1) l)).length)]),(1000001,[(.arr ⟨false,5,true,none⟩ 1 Za)])]∧((.aN [(ds (bs (bytesOf (bM (List.take (i+1) l)).length Za))),(di 0)]):DV)=(.aN [(ds (bs (bM l))),(di 0)]))) (eY (bM (List.take (i+1) l)))) (by kernel_rfl) ?_
      try dsimp only
      simp only[zn,ht]
      exact⟨f92 _ _ hy false _ hne (by omega),trivial⟩
end Go.Proofs
namespace Go.Proofs
structure Ky where
 st:ByteArray
 ex:ByteArray
 n:Int
 deriving DecidableEq
structure Gv where
 v:Int
 h:Int
 t:Int
 s:ByteArray
 deriving DecidableEq
structure Al where
 t:Int
 s:ByteArray
 dec:Bool
 acc:Bool
 at_:Int
 ans:ByteArray
 deriving DecidableEq
structure En where
 k:Ky
 t:Int
 s:ByteArray
 gs:List Gv
 ah:List Al
 deriving DecidableEq
structure Bk where
 t:Int
 es:List En
 deriving DecidableEq
structure Ev where
 kind:Int
 k:Ky
 t:Int
 v:Int
 h:Int
 s:ByteArray
 acc:Bool
 deriving DecidableEq
def ZH:Ky:=⟨.empty,.empty,0⟩
def en0:En:=⟨ZH,0,.empty,[],[]⟩
def ev0:Ev:=⟨0,ZH,0,0,0,.empty,false⟩
def fA:Bk:=⟨0,[]⟩
def uH (k:Ky) (a:Al):List Ev:=⟨2,k,a.t,0,0,a.s,false⟩ :: if a.dec=true then [⟨3,k,a.at_,0,0,a.ans,a.acc⟩] else []
def yx (k:Ky) (g:Gv):Ev:=⟨1,k,g.t,g.v,g.h,g.s,false⟩
def yu (x:En):Ev:=⟨0,x.k,x.t,0,0,x.s,false⟩
def fD (x:En):List Ev:=yu x :: (x.gs.map (yx x.k)++(x.ah.map (uH x.k)).flatten)
def bn (es:List En):List Ev:=(es.map fD).flatten
def ins (e:Ev):List Ev→List Ev
 | []=>[e]
 | a :: l=>if e.t<a.t then e :: a :: l else a :: ins e l
def gY (l:List Ev):List Ev:=l.foldl (fun m e=>ins e m) []
def ak (b:Bk):List Ev:=gY (bn b.es)
def keyS (es:List En):List Ky:=es.map En.k
def dB (es:List En) (k:Ky):Option Nat:=(keyS es).findIdx? fun x=>decide (x=k)
def wH (k x:Ky):Bool:=decide (x.st=k.st)&&decide (x.ex=k.ex)
def iC (es:List En) (k:Ky):Nat:=((keyS es).filter (wH k)).length
def hasB (es:List En) (e:Ev):Bool:=match dB es e.k with
 | some i=>decide (e∈fD (es.getD i en0))
 | none=>false
def bV (x:En):Bool:=match x.ah.getLast? with|some a=>!a.dec|none=>false
def wL (x:En) (v:Int):Bool:=match x.gs.getLast? with|some g=>decide (v≤g.v)|none=>false
def ku (x:En) (e:Ev):Int:=
 if e.kind=1 then if wL x e.v=true then 9 else if 16≤x.gs.length then 8 else 0
 else if e.kind=2 then if x.gs.length=0∨bV x=true then 9 else if 16≤x.ah.length then 8 else 0
 else if bV x=true then 0 else 9
def gX (x:En) (e:Ev):En:=
 if e.kind=1 then { x with gs:=x.gs++[⟨e.v,e.h,e.t,e.s⟩] }
 else if e.kind=2 then { x with ah:=x.ah++[⟨e.t,e.s,false,false,0,.empty⟩] }
 else { x with ah:=x.ah.dropLast++(x.ah.getLast?.toList.map fun a=>{ a with dec:=true,acc:=e.acc,at_:=e.t,ans:=e.s }) }
def dL (b:Bk) (e:Ev):Int:=
 if hasB b.es e=true then 6 else if e.t<b.t then 2
 else if e.kind=0 then (if e.k.n≠(iC b.es e.k:Int)+1 then 9 else if 256≤b.es.length then 8 else 0)
 else match dB b.es e.k with
  | none=>7
  | some i=>ku (b.es.getD i en0) e
def dY (es:List En) (e:Ev):List En:=
 if e.kind=0 then es++[⟨e.k,e.t,e.s,[],[]⟩] else match dB es e.k with
  | some i=>es.set i (gX (es.getD i en0) e)
  | none=>es
def gQ (b:Bk) (e:Ev):Bk:=⟨e.t,dY b.es e⟩
def lU (e:Ev):Prop:=(e.kind=0∨e.kind=1∨e.kind=2∨e.kind=3)∧(e.kind≠1→e.v=0∧e.h=0)∧(e.kind≠3→e.acc=false)
def gB (ok:Ev→Bool):List Ev→Bk→Option Bk
 | [],b=>some b
 | e :: l,b=>if ok e=true∧dL b e=0 then gB ok l (gQ b e) else none
def aJ (ok:Ev→Bool) (b:Bk):Bool:=decide (b.es.length≤256)&&decide (gB ok (ak b) fA=some b)
theorem Fh {e:Ev}:∀{l:List Ev},(∀a∈l,a.t≤e.t)→ins e l=l++[e]
 | [],_=>rfl
 | a :: l,h=>by
  have h1:=h a (by simp)
  unfold ins
  rw[if_neg (by omega),Fh fun x hx=>h x (List.mem_cons_of_mem _ hx)];rfl
theorem KT {e:Ev}:∀{l m:List Ev},(∀a∈m,e.t<a.t)→(l≠[]∨m≠[]∨True)→ins e (l++m)=ins e l++m
 | [],[],_,_=>rfl
 | [],a :: m,h,_=>by
  have h1:=h a (by simp)
  show ins e (a :: m)=[e]++a :: m
  unfold ins
  rw[if_pos h1];rfl
 | a :: l,m,h,_=>by
  show ins e (a :: (l++m))=_
  unfold ins
  by_cases h1:e.t<a.t
  ·rw[if_pos h1,if_pos h1];rfl
  ·rw[if_neg h1,if_neg h1,KT h (.inr (.inr trivial))];rfl
theorem JY {e x:Ev}:∀{l:List Ev},x∈ins e l↔x=e∨x∈l
 | []=>by simp[ins]
 | a :: l=>by
  unfold ins
  split
  ·simp
  ·simp only[List.mem_cons,JY (l:=l)]
   constructor
   ·rintro (h|h|h)
    ·exact .inr (.inl h)
    ·exact .inl h
    ·exact .inr (.inr h)
   ·rintro (h|h|h)
    ·exact .inr (.inl h)
    ·exact .inl h
    ·exact .inr (.inr h)
theorem su (l:List Ev) (e:Ev):gY (l++[e])=ins e (gY l):=by
 unfold gY
 rw[List.foldl_append];rfl
theorem YS:gY []=[]:=rfl
theorem ng {x:Ev} (l:List Ev):x∈gY l↔x∈l:=by
 suffices h:∀r:List Ev,(x∈gY r.reverse↔x∈r.reverse) by
  have:=h l.reverse
  rwa [List.reverse_reverse] at this
 intro r
 induction r with
 | nil=>exact Iff.rfl
 | cons a r ih=>rw[List.reverse_cons,su,JY,ih];simp[or_comm]
theorem OB (M:Int) (l:List Ev) (h:∀a∈l,a.t≤M):gY l=gY (l.filter fun a=>decide (a.t<M))++l.filter fun a=>decide (a.t=M):=by
 suffices h:∀r:List Ev,(∀a∈r,a.t≤M)→gY r.reverse=gY (r.reverse.filter fun a=>decide (a.t<M))++r.reverse.filter fun a=>decide (a.t=M) by
  have:=h l.reverse (fun a ha=>by rename_i q;exact q a (List.mem_reverse.1 ha))
  rwa [List.reverse_reverse] at this
 intro r
 induction r with
 | nil=>intro _;rfl
 | cons a r ih=>
  intro h
  have ih:=ih fun x hx=>h x (List.mem_cons_of_mem _ hx)
  have ha:=h a (by simp)
  rw[List.reverse_cons,su,List.filter_append,List.filter_append,ih]
  by_cases hm:a.t=M
  ·have h1:¬a.t<M:=by omega
   rw[Fh]
   ·simp[hm,List.append_assoc]
   ·intro x hx
    rcases List.mem_append.1 hx with hx|hx
    ·have:=(List.mem_filter.1 ((ng _).1 hx)).2
     simp at this;omega
    ·have:=(List.mem_filter.1 hx).2
     simp at this;omega
  ·have h1:a.t<M:=by omega
   rw[KT (fun x hx=>by have:=(List.mem_filter.1 hx).2;simp at this;omega) (.inr (.inr trivial))]
   simp only[List.filter_cons,h1,hm,decide_true,decide_false,if_true,List.filter_nil,List.append_nil,Bool.false_eq_true,if_false]
   rw[su]
theorem YW (P Q:List Ev) (e:Ev) (h:∀a∈P++Q,a.t≤e.t):∃pre,gY (P++Q)=pre++Q.filter (fun a=>decide (a.t=e.t))∧gY (P++e :: Q)=pre++e :: Q.filter (fun a=>decide (a.t=e.t)):=by
 have h2:∀a∈P++e :: Q,a.t≤e.t:=fun a ha=>by
  rcases List.mem_append.1 ha with ha|ha
  ·exact h a (List.mem_append_left _ ha)
  ·rcases List.mem_cons.1 ha with rfl|ha
   ·exact Int.le_refl _
   ·exact h a (List.mem_append_right _ ha)
 refine⟨gY ((P++Q).filter fun a=>decide (a.t<e.t))++P.filter fun a=>decide (a.t=e.t),?_,?_⟩
 ·have e3:(P++Q).filter (fun a=>decide (a.t=e.t))=P.filter (fun a=>decide (a.t=e.t))++Q.filter fun a=>decide (a.t=e.t):=List.filter_append ..
  rw[OB e.t _ h,e3,List.append_assoc]
 ·rw[OB e.t _ h2]
  have e1:(P++e :: Q).filter (fun a=>decide (a.t<e.t))=(P++Q).filter fun a=>decide (a.t<e.t):=by
   rw[List.filter_append,List.filter_append,List.filter_cons,if_neg (by simp)]
  have e2:(P++e :: Q).filter (fun a=>decide (a.t=e.t))=P.filter (fun a=>decide (a.t=e.t))++e :: Q.filter fun a=>decide (a.t=e.t):=by
   rw[List.filter_append,List.filter_cons,if_pos (by simp)]
  rw[e1,e2,List.append_assoc]
end Go.Proofs
namespace Go.Proofs
open Go Go.Ab Go.RowKit
variable {G:IH}
abbrev O5 (k:Ky):List DV:=[ds k.st,ds k.ex,di k.n]
abbrev XT (k:Ky):DV:=.agg (O5 k)
abbrev kE (e:Ev):List DV:=[di e.kind,ds e.k.st,ds e.k.ex,di e.k.n,di e.t,di e.v,di e.h,ds e.s,db e.acc]
abbrev fJ (e:Ev):List AV:=[vi e.kind,vs e.k.st,vs e.k.ex,vi e.k.n,vi e.t,vi e.v,vi e.h,vs e.s,vb e.acc]
abbrev dG:DV:=.con (.slice none 0 0)
abbrev bY:RK:=⟨true,26,false,none⟩
abbrev eP:RK:=⟨true,39,false,none⟩
abbrev qW:RK:=⟨true,42,false,none⟩
abbrev oz:RK:=⟨true,44,false,none⟩
abbrev dS:=Option (List AV)
theorem gK {G:IH} {aj:dU} {cuts:List Nat} {k:List It} {st:AS} {Q:Exit→AS→Prop} (h:Holds ((lu Tryz.prog G aj [] cuts [] 1000 k st).ok Tryz.prog G Q)):aX Tryz.prog G k st Q:=qQ follows h
theorem dZ {G:IH} {aj:dU} {k:List It} {st:AS} {Q:Exit→AS→Prop} (h:Holds ((lu Tryz.prog G aj [] [] [] 1000 k st).ok Tryz.prog G Q)):aX Tryz.prog G k st Q:=qQ follows h
theorem dh {G:IH} {aj:dU} {k:List It} {st:AS} {Q:Exit→AS→Prop} (h:Holds ((mO Tryz.prog G aj [] [] 1000 k st).ok Tryz.prog G Q)):aX Tryz.prog G k st Q:=walk follows h
abbrev ig (e:Ev):DV:=.agg (kE e)
def bW (l:List Ev) (i:Nat):DV:=ig (l.getD i ev0)
abbrev eu (l:List Ev):DV:=.slc 9 l.length (bW l)
def dR:Gv:=⟨0,0,0,.empty⟩
def bZ:Al:=⟨0,.empty,false,false,0,.empty⟩
abbrev ZC (g:Gv):List DV:=[di g.v,di g.h,di g.t,ds g.s]
abbrev DU (a:Al):List DV:=[di a.t,ds a.s,db a.dec,db a.acc,di a.at_,ds a.ans]
def dP (l:List Gv) (i:Nat):DV:=.agg (ZC (l.getD i dR))
def dI (l:List Al) (i:Nat):DV:=.agg (DU (l.getD i bZ))
abbrev jZ (l:List Gv):DV:=.slc 4 l.length (dP l)
abbrev iD (l:List Al):DV:=.slc 6 l.length (dI l)
abbrev wP (x:En):List DV:=[ds x.k.st,ds x.k.ex,di x.k.n,di x.t,ds x.s,jZ x.gs,iD x.ah]
abbrev zi (x:En):DV:=.agg (wP x)
def bK (l:List En) (i:Nat):DV:=zi (l.getD i en0)
abbrev jI (l:List En):DV:=.slc 7 l.length (bK l)
abbrev fQ (b:Bk):List DV:=[di b.t,jI b.es]
abbrev cu (b:Bk):DV:=.agg (fQ b)
def jD:DV→Ev
 | .agg [.con (.int _ a),.con (.string s1),.con (.string s2),.con (.int _ n),.con (.int _ t),.con (.int _ v),.con (.int _ h),.con (.string s),.con (.bool c)]=>⟨a,⟨s1,s2,n⟩,t,v,h,s,c⟩
 | _=>ev0
def Ej:DV→Ky
 | .agg [.con (.string s1),.con (.string s2),.con (.int _ n)]=>⟨s1,s2,n⟩
 | _=>ZH
def GV:DV→Gv
 | .agg [.con (.int _ v),.con (.int _ h),.con (.int _ t),.con (.string s)]=>⟨v,h,t,s⟩
 | _=>dR
def MG:DV→Al
 | .agg [.con (.int _ t),.con (.string s),.con (.bool d),.con (.bool a),.con (.int _ q),.con (.string r)]=>⟨t,s,d,a,q,r⟩
 | _=>bZ
def xL {α:Type} (g:DV→α):DV→List α
 | .slc _ n f=>(List.range n).map fun i=>g (f i)
 | _=>[]
def qU:DV→En
 | .agg [.con (.string s1),.con (.string s2),.con (.int _ n),.con (.int _ t),.con (.string s),g,a]=>⟨⟨s1,s2,n⟩,t,s,xL GV g,xL MG a⟩
 | _=>en0
def jJ:DV→Bk
 | .agg [.con (.int _ t),l]=>⟨t,xL qU l⟩
 | _=>fA
theorem JC {α:Type} {g:DV→α} {F:List α→Nat→DV} {x0:α} {sz:Nat} (hg:∀(l:List α) (i:Nat),g (F l i)=l.getD i x0) (l:List α):xL g (.slc sz l.length (F l))=l:=by
 simp only[xL,hg]
 refine List.ext_getElem (by simp) fun i h1 h2=>?_
 simp[List.getD,gy h2]
theorem aau (e:Ev):jD (ig e)=e:=rfl
theorem Rw (l:List Ev):xL jD (eu l)=l:=JC (x0:=ev0) (fun _ _=>rfl) l
theorem RZ (l:List Gv):xL GV (jZ l)=l:=JC (x0:=dR) (fun _ _=>rfl) l
theorem Ri (l:List Al):xL MG (iD l)=l:=JC (x0:=bZ) (fun _ _=>rfl) l
theorem UR (x:En):qU (zi x)=x:=by simp only[qU,RZ,Ri]
theorem KE (l:List En):xL qU (jI l)=l:=JC (x0:=en0) (fun l i=>UR _) l
theorem aaf (b:Bk):jJ (cu b)=b:=by simp only[jJ,KE]
def bG:iR:=fun _ _=>none
def dQ (es:List En) (k:Ky):Int:=match dB es k with|some i=>(i:Int)|none=>-1
def IE (a b:Ky):Bool:=decide (a=b)
theorem II (a b:Ky):((ByteArray.toList a.st==ByteArray.toList b.st)&&((ByteArray.toList a.ex==ByteArray.toList b.ex)&&(a.n==b.n)))=IE a b:=by
 rw[dJ,dJ]
 unfold IE
 obtain ⟨a1,a2,a3⟩:=a
 obtain ⟨b1,b2,b3⟩:=b
 simp only[Ky.mk.injEq,Bool.decide_and]
 by_cases h:a3=b3<;>simp[h]
theorem oq (a b:Bool):(Bool.rec false b a:Bool)=(a&&b):=by cases a<;>rfl
theorem Ky.eta (k:Ky):Ky.mk k.st k.ex k.n=k:=rfl
theorem f52 (x:En) (k:Ky):aA Tryz.prog G 52 [zi x,.ptr (O5 k)] (db (IE x.k k)):=by
 refine aA.walk (aj:=bG) (keep:=[]) follows Tryz.func52 rfl Tryz.call52 ?_
 refine aC (fun _ _ _ _=>(((db (Bool.rec false (x.k.ex.toList==k.ex.toList&&x.k.n==k.n) (x.k.st.toList==k.st.toList))):DV)=(db (IE x.k k)))) (by kernel_rfl) ?_
 rw[oq,II]
noncomputable def S51 (l:List En) (k:Ky) (j:Nat):AS:=⟨regs Tryz.f51.ntmps [(0,.d (jI l)),(1,.d (.clo (.func 52) [] [.ptr (O5 k)])),(7,vi l.length),(8,vi j)],[]⟩
theorem Po {l:List En} {k:Ky} {j:Nat} (hj:j<l.length) (hn:∀i,i<j→(l.getD i en0).k≠k) (h:(l.getD j en0).k=k):dQ l k=j:=by
 unfold dQ dB
 rw[(List.findIdx?_eq_some_iff_getElem (i:=j)).2 ⟨by simpa [keyS] using hj,?_,fun i hi=>?_⟩]
 ·have:=h
  rw[List.getD,gy hj] at this
  simpa [keyS] using this
 ·have:=hn i hi
  rw[List.getD,gy (by omega)] at this
  simpa [keyS] using this
theorem Jj {l:List En} {k:Ky} (hn:∀i,i<l.length→(l.getD i en0).k≠k):dQ l k = -1:=by
 unfold dQ dB
 rw[List.findIdx?_eq_none_iff.2]
 intro x hx
 obtain ⟨i,hi,rfl⟩:=List.getElem_of_mem hx
 have hi':i<l.length:=by simpa [keyS] using hi
 have:=hn i hi'
 rw[List.getD,gy hi'] at this
 simpa [keyS] using this
def Ir (k:Ky):iR:=fun f a=>match f,a with
 | 52,[x,_]=>some (db (IE (qU x).k k))
 | 51,[l,_]=>some (di (dQ (xL qU l) k))
 | 22,[b,_]=>some (di (dQ (jJ b).es k))
 | _,_=>none
theorem f51 (l:List En) (k:Ky) (hl:l.length≤1000000):aA Tryz.prog G 51 [jI l,.clo (.func 52) [] [.ptr (O5 k)]] (di (dQ l k)):=by
 refine aA.walk (aj:=Ir k) (keep:=[]) follows Tryz.func51 rfl Tryz.call51 ?_
 refine aC (fun ZT ZW ZQ _=>ZW [cd Tryz.f51 [1,0,1,0],(.blk 0),cd Tryz.f51 [1,1]] (aB ZT []) ZQ) (by kernel_rfl) ?_
 refine aX.loop (c:=aU (au Tryz.f51) [1,0,1,0,0]) (by kernel_rfl) (S51 l k) (fun j=>j≤l.length∧∀i,i<j→(l.getD i en0).k≠k) (fun j=>l.length-j) 0 ?_ ⟨Nat.zero_le _,fun i hi=>absurd hi (Nat.not_lt_zero _)⟩ ?_
 ·exact AS.bD (by kernel_rfl)
 ·rintro j ⟨hj,hn⟩
  refine dh (aj:=Ir k) ?_
  refine aV (fun ZT ZW ZQ ZK ZA _=>(fun Za=>((((decide ((↑j:Int)<↑l.length))=true)→((((0≤(↑j:Int))∧((↑j:Int)<↑l.length))∧ZK 52 [(.agg [(ds (l.getD (↑j:Int).toNat en0).k.st),(ds (l.getD (↑j:Int).toNat en0).k.ex),(di (l.getD (↑j:Int).toNat en0).k.n),(di (l.getD (↑j:Int).toNat en0).t),(ds (l.getD (↑j:Int).toNat en0).s),(.slc 4 (l.getD (↑j:Int).toNat en0).gs.length (dP (l.getD (↑j:Int).toNat en0).gs)),(.slc 6 (l.getD (↑j:Int).toNat en0).ah.length (dI (l.getD (↑j:Int).toNat en0).ah))]),(.ptr [(ds k.st),(ds k.ex),(di k.n)])] (db Za))∧((Za=true)→(((di (↑j)):DV)=(di (dQ l k))))∧((Za=false)→((I64 (↑j+1))∧(ZA (aB ZT [0,1]))))))∧(((decide ((↑j:Int)<↑l.length))=false)→ZW [cd Tryz.f51 [1,1]] (aB ZT [1]) ZQ))) (IE (Ky.mk (l.getD (↑j:Int).toNat en0).k.st (l.getD (↑j:Int).toNat en0).k.ex (l.getD (↑j:Int).toNat en0).k.n) k)) (by kernel_rfl) ?_
  try dsimp only
  simp only[gW,Ky.eta]
  refine⟨fun h=>?_,fun h=>?_⟩
  ·have hj2:j<l.length:=by have:=dn h;omega
   refine⟨⟨⟨by omega,by omega⟩,f52 (l.getD j en0) k⟩,fun h2=>?_,fun h2=>⟨⟨by omega,by omega⟩,Again.mk (j+1) ?_ ⟨hj2,fun i hi=>?_⟩ (by omega)⟩⟩
   ·rw[Po hj2 hn (dn h2)]
   ·exact AS.bD (by kernel_rfl)
   ·rcases Nat.lt_or_ge i j with h4|h4
    ·exact hn i h4
    ·obtain rfl:i=j:=by omega
     exact of_decide_eq_false h2
  ·refine dh (aj:=Ir k) ?_
   refine aC (fun _ _ _ _=>(((di (-1)):DV)=(di (dQ l k)))) (by kernel_rfl) ?_
   have hj2:j=l.length:=by have:=of_decide_eq_false h;omega
   subst hj2
   rw[Jj hn]
theorem f22 (b:Bk) (k:Ky) (hl:b.es.length≤1000000):aA Tryz.prog G 22 [cu b,XT k] (di (dQ b.es k)):=by
 refine aA.dA Tryz.func22 rfl Tryz.call22 ?_
 refine walk (aj:=Ir k) (keep:=[]) (cuts:=[1]) (n:=1000) follows ?_
 refine aC (fun ZT ZW ZQ _=>ZW [cd Tryz.f22 [1]] (aB ZT []) ZQ) (by kernel_rfl) ?_
 refine aX.vM (dl:=O5 k) 3 (by kernel_rfl) rfl ?_
 refine dh (aj:=Ir k) ?_
 refine aC (fun _ _ _ ZK=>(ZK 51 [(.slc 7 b.es.length (bK b.es)),(.clo (.func 52) [] [(.ptr [(ds k.st),(ds k.ex),(di k.n)])])] (di (dQ (xL qU (DV.slc 7 b.es.length (bK b.es))) k))∧((di (dQ (xL qU (DV.slc 7 b.es.length (bK b.es))) k)):DV)=(di (dQ b.es k)))) (by kernel_rfl) ?_
 simp only[KE]
 exact⟨f51 b.es k hl,trivial⟩
abbrev QF (s:ByteArray):List DV:=[di 2,ds s,di 0,di 0,di 0,.con (.slice none 0 0)]
abbrev eN (s:ByteArray):DV:=.agg (QF s)
theorem QI {k:IH} {sz:Nat} {f:Nat→DV} {v:Value} (h:DV.rel k (.con (.slice none 0 0)) v):DV.rel k (.slc sz 0 f) v:=by
 have h:v=.slice none 0 0:=h
 exact⟨none,0,h,Nat.le_refl _,.inl rfl⟩
theorem Y9 {f:FuncId} {args:List DV} {r r':DV} (h:aA Tryz.prog G f args r) (hr:∀k v,DV.rel k r v→DV.rel k r' v):aA Tryz.prog G f args r':=
 ⟨h.1,fun w k vs hG hw ha=>(h.2 w k vs hG hw ha).mono fun e w' ⟨v,h',e1,h2,h3⟩=>⟨v,h',e1,hr h' v h2,h3⟩⟩
def opS (k:Int):ByteArray:=bif decide (k=20) then ⟨#[111,114]⟩ else bif decide (k=19) then ⟨#[97,110,100]⟩ else bif decide (k=17) then ⟨#[62,61]⟩ else bif decide (k=16) then ⟨#[62]⟩ else bif decide (k=15) then ⟨#[60,61]⟩ else bif decide (k=14) then ⟨#[60]⟩ else bif decide (k=13) then ⟨#[33,61]⟩ else bif decide (k=12) then ⟨#[61,61]⟩ else bif decide (k=9) then ⟨#[47]⟩ else bif decide (k=8) then ⟨#[42]⟩ else bif decide (k=7) then ⟨#[45]⟩ else bif decide (k=6) then ⟨#[43]⟩ else .empty
def inF (l:List Int) (i:Nat):DV:=di (l.getD i 0)
def kK (v:Int):List Int:=if v=1 then [20] else if v=2 then [19] else if v=4 then [12,13,14,15,16,17] else if v=5 then [6,7] else if v=6 then [8,9] else []
def opsT (v:Int):List ByteArray:=(kK v).map opS
abbrev PZ (v:Int):DV:=.aN [.slc 1 (opsT v).length (JG (opsT v)),.slc 1 (kK v).length (inF (kK v))]
theorem Ae {n m n' m':Nat} {f f' g g':Nat→DV} (h1:n=n') (h2:m=m') (hf:∀i,i<n→f i=f' i) (hg:∀i,i<m→g i=g' i) (k:IH) (v:Value) (hv:DV.rel k (.aN [.slc 1 n f,.slc 1 m g]) v):DV.rel k (.aN [.slc 1 n' f',.slc 1 m' g']) v:=by
 subst h1;subst h2
 obtain ⟨us,rfl,a,us1,rfl,ha,b,XO,rfl,hb,h0⟩:=hv
 exact⟨_,rfl,_,_,rfl,DV.fE hf ha,_,_,rfl,DV.fE hg hb,h0⟩
theorem f125 (v:Int):aA Tryz.prog G 125 [di v] (PZ v):=by
 have key:∀r:DV,(∀k x,DV.rel k r x→DV.rel k (PZ v) x)→((v=1→r=.aN [.slc 1 1 (aW false 1 [ds ⟨#[111,114]⟩]),.slc 1 1 (aW false 1 [di 20])])∧(v=2→r=.aN [.slc 1 1 (aW false 1 [ds ⟨#[97,110,100]⟩]),.slc 1 1 (aW false 1 [di 19])])∧
   (v=4→r=.aN [.slc 1 6 (aW false 1 [ds ⟨#[61,61]⟩,ds ⟨#[33,61]⟩,ds ⟨#[60]⟩,ds ⟨#[60,61]⟩,ds ⟨#[62]⟩,ds ⟨#[62,61]⟩]),.slc 1 6 (aW false 1 [di 12,di 13,di 14,di 15,di 16,di 17])])∧
   (v=5→r=.aN [.slc 1 2 (aW false 1 [ds ⟨#[43]⟩,ds ⟨#[45]⟩]),.slc 1 2 (aW false 1 [di 6,di 7])])∧(v=6→r=.aN [.slc 1 2 (aW false 1 [ds ⟨#[42]⟩,ds ⟨#[47]⟩]),.slc 1 2 (aW false 1 [di 8,di 9])])∧
   (¬v=1→¬v=2→¬v=4→¬v=5→¬v=6→r=.aN [.con (.slice none 0 0),.con (.slice none 0 0)]))→aA Tryz.prog G 125 [di v] (PZ v):=by
  intro r hr ⟨h1,h2,h4,h5,h6,h0⟩
  refine Y9 (r:=r) (aA.walk (aj:=({ d:=fun _ _=>none }:dU)) (keep:=[]) follows Tryz.func125 rfl Tryz.call125 ?_) hr
  refine aC (fun _ _ _ _=>((((v==1)=true)→(((.aN [(.slc 1 1 (aW false 1 [(ds (ByteArray.mk #[111,114]))])),(.slc 1 1 (aW false 1 [(di 20)]))]):DV)=r))∧(((v==1)=false)→((((v==2)=true)→(((.aN [(.slc 1 1 (aW false 1 [(ds (ByteArray.mk #[97,110,100]))])),(.slc 1 1 (aW false 1 [(di 19)]))]):DV)=r))∧(((v==2)=false)→((((v==4)=true)→(((.aN [(.slc 1 6 (aW false 1 [(ds (ByteArray.mk #[61,61])),(ds (ByteArray.mk #[33,61])),(ds (ByteArray.mk #[60])),(ds (ByteArray.mk #[60,61])),(ds (ByteArray.mk #[62])),(ds (ByteArray.mk #[62,61]))])),(.slc 1 6 (aW false 1 [(di 12),(di 13),(di 14),(di 15),(di 16),(di 17)]))]):DV)=r))∧(((v==4)=false)→((((v==5)=true)→(((.aN [(.slc 1 2 (aW false 1 [(ds (ByteArray.mk #[43])),(ds (ByteArray.mk #[45]))])),(.slc 1 2 (aW false 1 [(di 6),(di 7)]))]):DV)=r))∧(((v==5)=false)→((((v==6)=true)→(((.aN [(.slc 1 2 (aW false 1 [(ds (ByteArray.mk #[42])),(ds (ByteArray.mk #[47]))])),(.slc 1 2 (aW false 1 [(di 8),(di 9)]))]):DV)=r))∧(((v==6)=false)→(((.aN [dG,dG]):DV)=r)))))))))))) (by kernel_rfl) ?_
  simp only[beq_iff_eq,beq_eq_false_iff_ne,ne_eq]
  refine⟨fun e=>(h1 e).symm,fun n1=>⟨fun e=>(h2 e).symm,fun n2=>⟨fun e=>(h4 e).symm,fun n4=>⟨fun e=>(h5 e).symm,fun n5=>⟨fun e=>(h6 e).symm,fun n6=>(h0 n1 n2 n4 n5 n6).symm⟩⟩⟩⟩⟩
 by_cases h1:v=1
 ·subst h1
  refine key _ (Ae rfl rfl ?_ ?_) ⟨fun _=>rfl,fun h=>(by omega),fun h=>(by omega),fun h=>(by omega),fun h=>(by omega),fun h=>(by omega)⟩
  ·intro i hi;have hi:i<1:=hi;rcases i with _|i<;>first|rfl|omega
  ·intro i hi;have hi:i<1:=hi;rcases i with _|i<;>first|rfl|omega
 by_cases h2:v=2
 ·subst h2
  refine key _ (Ae rfl rfl ?_ ?_) ⟨fun h=>(by omega),fun _=>rfl,fun h=>(by omega),fun h=>(by omega),fun h=>(by omega),fun h=>(by omega)⟩
  ·intro i hi;have hi:i<1:=hi;rcases i with _|i<;>first|rfl|omega
  ·intro i hi;have hi:i<1:=hi;rcases i with _|i<;>first|rfl|omega
 by_cases h4:v=4
 ·subst h4
  refine key _ (Ae rfl rfl ?_ ?_) ⟨fun h=>(by omega),fun h=>(by omega),fun _=>rfl,fun h=>(by omega),fun h=>(by omega),fun h=>(by omega)⟩
  ·intro i hi;have hi:i<6:=hi;rcases i with _|_|_|_|_|_|i<;>first|rfl|omega
  ·intro i hi;have hi:i<6:=hi;rcases i with _|_|_|_|_|_|i<;>first|rfl|omega
 by_cases h5:v=5
 ·subst h5
  refine key _ (Ae rfl rfl ?_ ?_) ⟨fun h=>(by omega),fun h=>(by omega),fun h=>(by omega),fun _=>rfl,fun h=>(by omega),fun h=>(by omega)⟩
  ·intro i hi;have hi:i<2:=hi;rcases i with _|_|i<;>first|rfl|omega
  ·intro i hi;have hi:i<2:=hi;rcases i with _|_|i<;>first|rfl|omega
 by_cases h6:v=6
 ·subst h6
  refine key _ (Ae rfl rfl ?_ ?_) ⟨fun h=>(by omega),fun h=>(by omega),fun h=>(by omega),fun h=>(by omega),fun _=>rfl,fun h=>(by omega)⟩
  ·intro i hi;have hi:i<2:=hi;rcases i with _|_|i<;>first|rfl|omega
  ·intro i hi;have hi:i<2:=hi;rcases i with _|_|i<;>first|rfl|omega
 have e:kK v=[]:=by unfold kK;rw[if_neg h1,if_neg h2,if_neg h4,if_neg h5,if_neg h6]
 refine key _ (fun k x hx=>?_) ⟨fun h=>absurd h h1,fun h=>absurd h h2,fun h=>absurd h h4,fun h=>absurd h h5,fun h=>absurd h h6,fun _ _ _ _ _=>rfl⟩
 unfold PZ opsT
 rw[e]
 obtain ⟨us,rfl,a,us1,rfl,ha,b,XO,rfl,hb,h0⟩:=hx
 exact⟨_,rfl,_,_,rfl,QI ha,_,_,rfl,QI hb,h0⟩
def sW (k:Int):Int:=if k=20 then 1 else if k=19 then 2 else if 12≤k∧k≤17 then 4 else if k=6∨k=7 then 5 else if k=8∨k=9 then 6 else if k=18 then 3 else if k=5 then 7 else if k=1∨k=2∨k=3∨k=4∨k=10∨k=11 then 8 else 0
theorem aak {k v:Int} (hv:1≤v∧v≤6) (h:k∈kK v):sW k=v:=by
 have hc:v=1∨v=2∨v=3∨v=4∨v=5∨v=6:=by omega
 have q:(v=1∧k=20)∨(v=2∧k=19)∨(v=4∧12≤k∧k≤17)∨(v=5∧(k=6∨k=7))∨(v=6∧(k=8∨k=9)):=by
  rcases hc with rfl|rfl|rfl|rfl|rfl|rfl<;>simp[kK] at h<;>omega
 clear h
 unfold sW
 rcases q with ⟨rfl,h⟩|⟨rfl,h⟩|⟨rfl,h⟩|⟨rfl,h⟩|⟨rfl,h⟩
 ·rw[if_pos h]
 ·rw[if_neg (by omega),if_pos h]
 ·rw[if_neg (by omega),if_neg (by omega),if_pos h]
 ·rw[if_neg (by omega),if_neg (by omega),if_neg (by omega),if_pos h]
 ·rw[if_neg (by omega),if_neg (by omega),if_neg (by omega),if_neg (by omega),if_pos h]
theorem YB {k:Int} (h:∀v:Int,1≤v→v≤6→k∉kK v):sW k=if k=18 then 3 else if k=5 then 7 else if k=1∨k=2∨k=3∨k=4∨k=10∨k=11 then 8 else 0:=by
 have h1:=h 1 (by omega) (by omega)
 have h2:=h 2 (by omega) (by omega)
 have h4:=h 4 (by omega) (by omega)
 have h5:=h 5 (by omega) (by omega)
 have h6:=h 6 (by omega) (by omega)
 simp only[kK,if_true,List.mem_cons,List.not_mem_nil,or_false,reduceCtorEq,Int.reduceEq,if_false,not_or] at h1 h2 h4 h5 h6
 unfold sW
 rw[if_neg h1,if_neg h2,if_neg (by omega),if_neg (by omega),if_neg (by omega)]
noncomputable def IY:iR:=fun f a=>match f,a with
 | 125,[.con (.int .i64 v)]=>some (PZ v)
 | _,_=>none
noncomputable def ael (s:ByteArray) (i:Nat):AS:=⟨regs Tryz.f121.ntmps [(1,.box 1 0),(3,vi i)],[(1,(QF s).map .d)]⟩
noncomputable def abA (s:ByteArray) (i j:Nat):AS:=⟨regs Tryz.f121.ntmps [(1,.box 1 0),(3,vi i),(5,.d (.slc 1 (kK i).length (inF (kK i)))),(6,vi j)],[(1,(QF s).map .d)]⟩
theorem WI (v:Int):(kK v).length≤6:=by
 unfold kK
 split
 ·decide
 split
 ·decide
 split
 ·decide
 split
 ·decide
 split
 ·decide
 ·decide
theorem f121 (s:ByteArray):aA Tryz.prog G 121 [eN s] (di (sW 2)):=by
 refine aA.walk (aj:=IY) (keep:=[]) follows Tryz.func121 rfl Tryz.call121 ?_
 refine aC (fun ZT ZW ZQ _=>ZW [cd Tryz.f121 [1,0,1,0],(.blk 0),cd Tryz.f121 [1,1]] (aB ZT []) ZQ) (by kernel_rfl) ?_
 refine aX.loop (c:=aU (au Tryz.f121) [1,0,1,0,0]) (by kernel_rfl) (ael s) (fun i=>1≤i∧i≤7∧∀v:Int,1≤v→v<i→(2:Int)∉kK v) (fun i=>7-i) 1 ?_ ⟨by omega,by omega,fun v h1 h2=>by omega⟩ ?_
 ·exact AS.bD (by kernel_rfl)
 ·rintro i ⟨h1,h2,hn⟩
  refine dh (aj:=IY) ?_
  refine aV (fun ZT ZW ZQ ZK _ ZR=>((((decide ((↑i:Int)≤6))=true)→(ZK 125 [(di (↑i))] (.aN [(.slc 1 (opsT ↑i).length (JG (opsT ↑i))),(.slc 1 (kK ↑i).length (inF (kK ↑i)))])∧ZW [cd Tryz.f121 [1,0,1,0,0,1,0,0,1,1,0],(.blk 2),(.blk 1),cd Tryz.f121 [1,0,1,0,0,1,1]] (aB ZT [0]) ZR))∧(((decide ((↑i:Int)≤6))=false)→ZW [cd Tryz.f121 [1,1]] (aB ZT [1]) ZQ))) (by kernel_rfl) ?_
  refine⟨fun h=>⟨f125 _,?_⟩,fun h=>?_⟩
  ·have hi6:i≤6:=by have:=dn h;omega
   have hl6:=WI (i:Int)
   refine aX.loop (c:=aU (au Tryz.f121) [1,0,1,0,0,1,0,0,1,1,0,0]) (by kernel_rfl) (abA s i) (fun j=>j≤(kK i).length∧∀p,p<j→(kK i).getD p 0≠(2:Int)) (fun j=>(kK i).length-j) 0 ?_ ⟨Nat.zero_le _,fun p hp=>absurd hp (Nat.not_lt_zero _)⟩ ?_
   ·exact AS.bD (by kernel_rfl)
   ·rintro j ⟨hj,hjn⟩
    refine dh (aj:=IY) ?_
    refine aV (fun ZT ZW ZQ _ ZA _=>((((decide ((↑j:Int)<↑(kK ↑i).length))=true)→(((0≤(↑j:Int))∧((↑j:Int)<↑(kK ↑i).length))∧((((kK ↑i).getD (↑j:Int).toNat 0==2)=true)→(((di (↑i)):DV)=(di (sW 2))))∧((((kK ↑i).getD (↑j:Int).toNat 0==2)=false)→((I64 (↑j+1))∧(ZA (aB ZT [0,1]))))))∧(((decide ((↑j:Int)<↑(kK ↑i).length))=false)→ZW [(.blk 1),cd Tryz.f121 [1,0,1,0,0,1,1]] (aB ZT [1]) ZQ))) (by kernel_rfl) ?_
    simp only[gW]
    refine⟨fun h1=>?_,fun h1=>?_⟩
    ·have hj2:j<(kK i).length:=by have:=dn h1;omega
     refine⟨⟨by omega,by omega⟩,fun h3=>?_,fun h3=>⟨⟨by omega,by omega⟩,Again.mk (j+1) ?_ ⟨hj2,fun p hp=>?_⟩ (by omega)⟩⟩
     ·have h3:(kK i).getD j 0=(2:Int):=by simpa using h3
      rw[aak (v:=i) (by omega) (by
       rw[←h3,List.getD,gy hj2]
       exact List.getElem_mem hj2)]
     ·exact AS.bD (by kernel_rfl)
     ·rcases Nat.lt_or_ge p j with h4|h4
      ·exact hjn p h4
      ·obtain rfl:p=j:=by omega
       simpa using h3
    ·simp only[decide_eq_false_iff_not] at h1
     have hj2:j=(kK i).length:=by omega
     refine dh (aj:=IY) ?_
     refine aV (fun ZT _ _ _ ZA _=>((I64 (↑i+1))∧(ZA (aB ZT [])))) (by kernel_rfl) ?_
     refine⟨⟨by omega,by omega⟩,Again.mk (i+1) ?_ ⟨by omega,by omega,fun v v1 v2 hm=>?_⟩ (by omega)⟩
     ·exact AS.bD (by kernel_rfl)
     ·by_cases hv:v=i
      ·subst hv
       obtain ⟨p,hp,hpe⟩:=List.getElem_of_mem hm
       refine hjn p (by omega) ?_
       rw[List.getD,gy hp];exact hpe
      ·exact hn v v1 (by omega) hm
  ·simp only[decide_eq_false_iff_not] at h
   refine dh (aj:=IY) ?_
   refine aC (fun _ _ _ _=>(((false=true)→(((di 3):DV)=(di (sW 2))))∧((false=false)→(((false=true)→(((di 7):DV)=(di (sW 2))))∧((false=false)→(((false=true)→(((false=true)→(((di 8):DV)=(di (sW 2))))∧((false=false)→(((di 0):DV)=(di (sW 2))))))∧((false=false)→(((true=true)→(((true=true)→(((di 8):DV)=(di (sW 2))))∧((true=false)→(((di 0):DV)=(di (sW 2))))))∧((true=false)→(((false=true)→(((false=true)→(((di 8):DV)=(di (sW 2))))∧((false=false)→(((di 0):DV)=(di (sW 2))))))∧((false=false)→(((false=true)→(((false=true)→(((di 8):DV)=(di (sW 2))))∧((false=false)→(((di 0):DV)=(di (sW 2))))))∧((false=false)→(((false=true)→(((false=true)→(((di 8):DV)=(di (sW 2))))∧((false=false)→(((di 0):DV)=(di (sW 2))))))∧((false=false)→(((false=true)→(((di 8):DV)=(di (sW 2))))∧((false=false)→(((di 0):DV)=(di (sW 2)))))))))))))))))))) (by kernel_rfl) ?_
   rw[YB (fun v v1 v2=>hn v v1 (by omega))]
   repeat' (first|(with_reducible refine And.intro ?_ ?_)|(with_reducible intro _))
   all_goals (try simp only[beq_iff_eq,beq_eq_false_iff_ne,ne_eq] at *)
   all_goals first
    | contradiction
    | (refine congrArg di ?_;simp[*];done)
def qY:iR:=fun f a=>match f,a with
 | 118,_=>some (di 1)
 | 119,[.agg [_,.con (.string s),_,_,_,_]]=>some (db (nameB s))
 | 120,[.agg [_,.con (.string s),_,_,_,_]]=>some (ds s)
 | 100,[.agg [_,.con (.string s),_,_,_,_]]=>some (ds (if nameB s then s else .empty))
 | 141,[.con (.string s)]=>some (db (nameB s))
 | 122,[.con (.string s)]=>some (db (nameB s))
 | 101,[.agg [_,.con (.string s),_,_,_,_]]=>some (db (nameB s))
 | 102,_=>some (di 1)
 | 103,[.agg [_,.con (.string s),_,_,_,_]]=>some (ds s)
 | 121,_=>some (di 8)
 | 82,[.agg [_,.con (.string s),_,_,_,_]]=>some (db (nameB s))
 | 81,[.con (.string s)]=>some (db (nameB s))
 | 48,[.con (.string s)]=>some (db (nameB s))
 | 47,[k]=>some (db (nameB (Ej k).st&&(nameB (Ej k).ex&&(decide (1≤(Ej k).n)&&decide ((Ej k).n≤16)))))
 | _,_=>none
noncomputable def aer (s:ByteArray):AS:=⟨regs Tryz.f118.ntmps [(3,vi 0),(8,vi 0),(9,vi 0)],[(1,(QF s).map .d)]⟩
theorem f118 (s:ByteArray):aA Tryz.prog G 118 [eN s] (di 1):=by
 refine aA.walk (aj:=qY) (keep:=[]) follows Tryz.func118 rfl Tryz.call118 ?_
 refine aC (fun ZT ZW ZQ _=>ZW [cd Tryz.f118 [1,1,0,1,0],(.blk 0),cd Tryz.f118 [1,1,1]] (aB ZT []) ZQ) (by kernel_rfl) ?_
 refine aX.loop (c:=aU (au Tryz.f118) [1,1,0,1,0,0]) (by kernel_rfl) (fun _:Nat=>aer s) (fun _=>True) (fun j=>1-j) 0 ?_ trivial ?_
 ·exact AS.bD (by kernel_rfl)
 ·rintro j -
  refine walk (aj:=qY) (keep:=[]) (cuts:=[4]) (n:=1000) follows ?_
  refine aV (fun ZT ZW ZQ _ _ ZR=>(((false=true)→ZW [cd Tryz.f118 [1,1,0,1,0,0,1,1,0,0],(.blk 1),cd Tryz.f118 [1,1,0,1,0,0,1,1,1]] (aB ZT [0]) ZR)∧((false=false)→ZW [cd Tryz.f118 [1,1,1]] (aB ZT [1]) ZQ))) (by kernel_rfl) ?_
  refine⟨fun c=>(by cases c),fun _=>?_⟩
  refine dh (aj:=qY) ?_
  refine aC (fun _ _ _ _=>((I64 (0+1))∧(ZS ((di 1):DV)))) (by kernel_rfl) ?_
  exact⟨⟨by decide,by decide⟩,rfl⟩
noncomputable def ad6 (s:ByteArray):AS:=⟨regs Tryz.f102.ntmps [(1,.box 1 0),(3,vi 0),(4,vi 0)],[(1,(QF s).map .d)]⟩
theorem f102 (s:ByteArray):aA Tryz.prog G 102 [eN s] (di 1):=by
 refine aA.walk (aj:=qY) (keep:=[]) follows Tryz.func102 rfl Tryz.call102 ?_
 refine aC (fun ZT ZW ZQ _=>ZW [cd Tryz.f102 [1,1,0,1,0],(.blk 0),cd Tryz.f102 [1,1,1]] (aB ZT []) ZQ) (by kernel_rfl) ?_
 refine aX.loop (c:=aU (au Tryz.f102) [1,1,0,1,0,0]) (by kernel_rfl) (fun _:Nat=>ad6 s) (fun _=>True) (fun j=>1-j) 0 ?_ trivial ?_
 ·exact AS.bD (by kernel_rfl)
 ·rintro j -
  refine walk (aj:=qY) (keep:=[]) (cuts:=[5]) (n:=1000) follows ?_
  refine aV (fun ZT ZW ZQ _ _ ZR=>(((false=true)→ZW [cd Tryz.f102 [1,1,0,1,0,0,1,0,0],(.blk 1),cd Tryz.f102 [1,1,0,1,0,0,1,1]] (aB ZT [0]) ZR)∧((false=false)→ZW [cd Tryz.f102 [1,1,1]] (aB ZT [1]) ZQ))) (by kernel_rfl) ?_
  refine⟨fun c=>(by cases c),fun _=>?_⟩
  refine dh (aj:=qY) ?_
  refine aC (fun _ _ _ _=>((I64 (0+1))∧(ZS ((di 1):DV)))) (by kernel_rfl) ?_
  exact⟨⟨by decide,by decide⟩,rfl⟩
theorem f119 (s:ByteArray) (hs:s.size≤1000000):aA Tryz.prog G 119 [eN s] (db (nameB s)):=by
 refine aA.dA Tryz.func119 rfl Tryz.call119 ?_
 refine walk (aj:=qY) (keep:=[]) (cuts:=[3,7]) (n:=1000) follows ?_
 refine aC (fun ZT ZW ZQ ZK=>(((false=true)→ZW [cd Tryz.f119 [1,0,1,0,1,0],(.blk 0),cd Tryz.f119 [1,1]] (aB ZT [0]) ZQ)∧((false=false)→(((true=true)→(ZK 141 [(ds s)] (db (nameB s))∧((db (nameB s&&true&&(↑0:Int)==0)):DV)=(db (nameB s))))∧((true=false)→ZW [cd Tryz.f119 [1,0,1,0,1,1,1,1,0],cd Tryz.f119 [1,0,1,0,1,1,1,1,1],(.blk 0),cd Tryz.f119 [1,1]] (aB ZT [1,1]) ZQ))))) (by kernel_rfl) ?_
 refine⟨fun c=>(by cases c),fun _=>⟨fun _=>⟨f141 s hs,?_⟩,fun c=>(by cases c)⟩⟩
 refine congrArg db ?_
 cases nameB s<;>rfl
theorem f120 (s:ByteArray):aA Tryz.prog G 120 [eN s] (ds s):=by
 refine aA.dA Tryz.func120 rfl Tryz.call120 ?_
 refine walk (aj:=qY) (keep:=[]) (cuts:=[3,7]) (n:=1000) follows ?_
 refine aC (fun ZT ZW ZQ _=>(((false=true)→ZW [cd Tryz.f120 [1,0,1,0,1,0],(.blk 0),cd Tryz.f120 [1,1]] (aB ZT [0]) ZQ)∧((false=false)→(((true=true)→(ZS ((ds s):DV)))∧((true=false)→ZW [cd Tryz.f120 [1,0,1,0,1,1,1,1],(.blk 0),cd Tryz.f120 [1,1]] (aB ZT [1,1]) ZQ))))) (by kernel_rfl) ?_
 exact⟨fun c=>(by cases c),fun _=>⟨fun _=>rfl,fun c=>(by cases c)⟩⟩
theorem f103 (s:ByteArray):aA Tryz.prog G 103 [eN s] (ds s):=by
 refine aA.dA Tryz.func103 rfl Tryz.call103 ?_
 refine walk (aj:=qY) (keep:=[]) (cuts:=[4]) (n:=1000) follows ?_
 refine aC (fun ZT ZW ZQ _=>(((true=true)→(ZS ((ds s):DV)))∧((true=false)→ZW [cd Tryz.f103 [1,0,1,0,1,1],(.blk 0),cd Tryz.f103 [1,1]] (aB ZT [1]) ZQ))) (by kernel_rfl) ?_
 exact⟨fun _=>rfl,fun c=>(by cases c)⟩
theorem f100 (s:ByteArray) (hs:s.size≤1000000):aA Tryz.prog G 100 [eN s] (ds (if nameB s then s else .empty)):=by
 refine aA.walk (aj:=qY) (keep:=[]) follows Tryz.func100 rfl Tryz.call100 ?_
 refine aC (fun _ _ _ ZK=>(fun Za=>((ZK 118 [Za] (di 1)∧((true=true)→ZK 119 [Za] (db (nameB s))))∧(((decide ((1:Int)>(32:Int))||!nameB s)=true)→(((ds (ByteArray.mk #[])):DV)=(ds (if nameB s=true then s else ByteArray.empty))))∧(((decide ((1:Int)>(32:Int))||!nameB s)=false)→(ZK 120 [Za] (ds s)∧(((decide ((↑s.size:Int)>16384))=true)→(((ds (ByteArray.mk #[])):DV)=(ds (if nameB s=true then s else ByteArray.empty))))∧(((decide ((↑s.size:Int)>16384))=false)→(((ds s):DV)=(ds (if nameB s=true then s else ByteArray.empty)))))))) ((.agg [(di 2),(ds s),(di 0),(di 0),(di 0),dG]):DV)) (by kernel_rfl) ?_
 try dsimp only
 have hsz:nameB s=true→s.size≤16:=fun h=>by
  unfold nameB at h
  simp only[aY,eF] at h
  exact h.2.1
 refine⟨⟨f118 s,fun _=>f119 s hs⟩,fun h=>?_,fun h=>⟨f120 s,fun h2=>?_,fun h2=>?_⟩⟩
 ·cases hn:nameB s with
  | true=>rw[hn] at h;cases h
  | false=>rfl
 ·have hn:nameB s=true:=by
   cases hn:nameB s with
   | true=>rfl
   | false=>rw[hn] at h;cases h
  have:=hsz hn
  have:=dn h2
  omega
 ·have hn:nameB s=true:=by
   cases hn:nameB s with
   | true=>rfl
   | false=>rw[hn] at h;cases h
  rw[if_pos hn]
noncomputable def adl (s:ByteArray):AS:=⟨regs Tryz.f101.ntmps [(1,.box 1 0),(4,vi 0),(7,vi 0)],[(1,(QF s).map .d)]⟩
theorem f101 (s:ByteArray) (hs:s.size≤1000000):aA Tryz.prog G 101 [eN s] (db (nameB s)):=by
 refine aA.dA Tryz.func101 rfl Tryz.call101 ?_
 refine walk (aj:=qY) (keep:=[]) (cuts:=[10]) (n:=1000) follows ?_
 refine aC (fun ZT ZW ZQ ZK=>(ZK 121 [(.agg [(di 2),(ds s),(di 0),(di 0),(di 0),dG])] (di 8)∧((((8:Int)==(0:Int)||(2:Int) != (2:Int)&&!ByteArray.toList s==ByteArray.toList { data:=#[] }||(2:Int) != (1:Int)&&!true)=true)→(((db false):DV)=(db (nameB s))))∧((((8:Int)==(0:Int)||(2:Int) != (2:Int)&&!ByteArray.toList s==ByteArray.toList { data:=#[] }||(2:Int) != (1:Int)&&!true)=false)→(((true=true)→(ZK 122 [(ds s)] (db (nameB s))∧(((!nameB s||decide ((0:Int)>(0:Int)))=true)→(((db false):DV)=(db (nameB s))))∧(((!nameB s||decide ((0:Int)>(0:Int)))=false)→ZW [cd Tryz.f101 [1,1,1,1,1,0,1,0],(.blk 1),cd Tryz.f101 [1,1,1,1,1,1]] (aB ZT [1,0,1]) ZQ)))∧((true=false)→ZW [cd Tryz.f101 [1,1,1,1,0,0,1,1],(.blk 0),cd Tryz.f101 [1,1,1,1,1]] (aB ZT [1,1]) ZQ))))) (by kernel_rfl) ?_
 refine⟨f121 s,fun h=>?_,fun _=>⟨fun _=>⟨f122 s hs,fun h=>?_,fun h=>?_⟩,fun c=>(by cases c)⟩⟩
 ·exfalso
  rw[Af] at h
  revert h
  cases decide (s.size=0)<;>exact fun h=>absurd h (by decide)
 ·cases hn:nameB s with
  | true=>rw[hn] at h;exact absurd h (by decide)
  | false=>rfl
 ·have hn:nameB s=true:=by
   cases hn:nameB s with
   | true=>rfl
   | false=>rw[hn] at h;exact absurd h (by decide)
  refine aX.loop (c:=aU (au Tryz.f101) [1,1,1,1,1,0,1,0,0]) (by kernel_rfl) (fun _:Nat=>adl s) (fun _=>True) (fun j=>1-j) 0 ?_ trivial ?_
  ·exact AS.bD (by kernel_rfl)
  ·rintro j -
   refine walk (aj:=qY) (keep:=[]) (cuts:=[26]) (n:=1000) follows ?_
   refine aV (fun ZT ZW ZQ _ _ ZR=>(((false=true)→ZW [cd Tryz.f101 [1,1,1,1,1,0,1,0,0,1,0,0],(.blk 2),cd Tryz.f101 [1,1,1,1,1,0,1,0,0,1,1]] (aB ZT [0]) ZR)∧((false=false)→ZW [cd Tryz.f101 [1,1,1,1,1,1]] (aB ZT [1]) ZQ))) (by kernel_rfl) ?_
   refine⟨fun c=>(by cases c),fun _=>?_⟩
   refine dh (aj:=qY) ?_
   refine aC (fun _ _ _ _=>(((db true):DV)=(db (nameB s)))) (by kernel_rfl) ?_
   rw[hn]
theorem f82 (s:ByteArray) (hs:s.size≤1000000):aA Tryz.prog G 82 [eN s] (db (nameB s)):=by
 refine aA.walk (aj:=qY) (keep:=[]) follows Tryz.func82 rfl Tryz.call82 ?_
 refine aC (fun _ _ _ ZK=>(fun Za=>((ZK 101 [Za] (db (nameB s))∧(((nameB s)=true)→ZK 102 [Za] (di 1))∧(((nameB s&&decide ((1:Int)≤(32:Int)))=true)→ZK 103 [Za] (ds s)))∧((db (nameB s&&decide ((1:Int)≤(32:Int))&&decide ((↑(ByteArray.size s):Int)≤(16384:Int)))):DV)=(db (nameB s)))) ((.agg [(di 2),(ds s),(di 0),(di 0),(di 0),dG]):DV)) (by kernel_rfl) ?_
 try dsimp only
 have hsz:nameB s=true→s.size≤16:=fun h=>by
  unfold nameB at h
  simp only[aY,eF] at h
  exact h.2.1
 refine⟨⟨f101 s hs,fun _=>f102 s,fun _=>f103 s⟩,congrArg db ?_⟩
 cases hn:nameB s with
 | false=>rfl
 | true=>
  have:=hsz hn
  rw[decide_eq_true (show ((s.size:Nat):Int)≤16384 by omega)];rfl
theorem f81 (s:ByteArray) (hs:s.size≤1000000):aA Tryz.prog G 81 [ds s] (db (nameB s)):=by
 refine aA.walk (aj:=qY) (keep:=[]) follows Tryz.func81 rfl Tryz.call81 ?_
 refine aC (fun _ _ _ ZK=>(ZK 100 [(.agg [(di 2),(ds s),(di 0),(di 0),(di 0),dG])] (ds (if nameB s=true then s else ByteArray.empty))∧((db (!(if nameB s=true then s else ByteArray.empty).toList==(ByteArray.mk #[]).toList)):DV)=(db (nameB s)))) (by kernel_rfl) ?_
 refine⟨f100 s hs,congrArg db ?_⟩
 cases hn:nameB s with
 | false=>rw[if_neg (by decide),Af];rfl
 | true=>
  unfold nameB at hn
  simp only[aY,eF] at hn
  rw[if_pos rfl,Af,decide_eq_false (by omega)];rfl
theorem f48 (s:ByteArray) (hs:s.size≤1000000):aA Tryz.prog G 48 [ds s] (db (nameB s)):=by
 refine aA.walk (aj:=qY) (keep:=[]) follows Tryz.func48 rfl Tryz.call48 ?_
 refine aC (fun _ _ _ ZK=>(ZK 82 [(.agg [(di 2),(ds s),(di 0),(di 0),(di 0),dG])] (db (nameB s))∧(ZS ((db (nameB s)):DV)))) (by kernel_rfl) ?_
 exact⟨f82 s hs,rfl⟩
theorem Sv (a b:Int):(a==b)=decide (a=b):=by rw[Bool.eq_iff_iff];simp
def Dj (k:Ky):Bool:=nameB k.st&&(nameB k.ex&&(decide (1≤k.n)&&decide (k.n≤16)))
def aG (e:Ev):Bool:=decide (0≤e.kind)&&(decide (e.kind≤3)&&(Dj e.k&&(decide (0≤e.t)&&(decide (e.t≤1099511627776)&&(decide (e.s.size≤4096) &&
 (if e.kind=1 then decide (1≤e.v)&&(decide (e.v≤1048576)&&(decide (0≤e.h)&&(decide (e.h≤100000000)&&!e.acc))) else decide (e.v=0)&&(decide (e.h=0)&&(!e.acc||decide (e.kind=3)))))))))
theorem ny {e:Ev} (h:aG e=true):lU e:=by
 unfold aG at h
 simp only[aY,eF] at h
 obtain ⟨h1,h2,_,_,_,_,h3⟩:=h
 refine⟨by omega,fun hk=>?_,fun hk=>?_⟩
 ·rw[if_neg hk] at h3
  simp only[aY,eF] at h3
  exact⟨h3.1,h3.2.1⟩
 ·by_cases k1:e.kind=1
  ·rw[if_pos k1] at h3
   simp only[aY,Bool.not_eq_true'] at h3
   exact h3.2.2.2.2
  ·rw[if_neg k1] at h3
   simp only[aY,Bool.or_eq_true,Bool.not_eq_true',eF] at h3
   exact h3.2.2.resolve_right hk
def WS:iR:=fun f a=>match f,a with
 | 81,[.con (.string s)]=>some (db (nameB s))
 | 48,[.con (.string s)]=>some (db (nameB s))
 | 47,[k]=>some (db (Dj (Ej k)))
 | 18,[e]=>some (db (aG (jD e)))
 | 19,[e]=>some (db (aG (jD e)))
 | _,_=>none
theorem f47 (k:Ky) (h1:k.st.size≤1000000) (h2:k.ex.size≤1000000):aA Tryz.prog G 47 [XT k] (db (Dj k)):=by
 refine aA.walk (aj:=WS) (keep:=[]) follows Tryz.func47 rfl Tryz.call47 ?_
 refine aC (fun _ _ _ ZK=>((ZK 81 [(ds k.st)] (db (nameB k.st))∧(((nameB k.st)=true)→ZK 81 [(ds k.ex)] (db (nameB k.ex))))∧((db (nameB k.st&&nameB k.ex&&decide (k.n≥1)&&decide (k.n≤16))):DV)=(db (Dj k)))) (by kernel_rfl) ?_
 refine⟨⟨f81 _ h1,fun _=>f81 _ h2⟩,congrArg db ?_⟩
 unfold Dj
 simp only[Bool.and_assoc,ge_iff_le]
theorem f18 (e:Ev) (h1:e.k.st.size≤1000000) (h2:e.k.ex.size≤1000000):aA Tryz.prog G 18 [ig e] (db (aG e)):=by
 refine aA.walk (aj:=WS) (keep:=[]) follows Tryz.func18 rfl Tryz.call18 ?_
 refine aC (fun _ _ _ ZK=>(fun Za=>((((!(decide (e.kind<0)||decide (e.kind>3)))=true)→ZK 47 [(.agg [(ds e.k.st),(ds e.k.ex),(di e.k.n)])] (db (Dj (Ej (DV.agg [ds e.k.st,ds e.k.ex,di e.k.n])))))∧((Za=true)→(((db false):DV)=(db (aG e))))∧((Za=false)→((((e.kind==1)=true)→(((db (decide (e.v≥1)&&decide (e.v≤1048576)&&decide (e.h≥0)&&decide (e.h≤100000000)&&!e.acc)):DV)=(db (aG e))))∧(((e.kind==1)=false)→(((db (e.v==0&&e.h==0&&(!e.acc||e.kind==3))):DV)=(db (aG e)))))))) (decide (e.kind<0)||decide (e.kind>3)||!Dj (Ej (DV.agg [ds e.k.st,ds e.k.ex,di e.k.n]))||decide (e.t<0)||decide (e.t>1099511627776)||decide ((↑e.s.size:Int)>4096))) (by kernel_rfl) ?_
 try dsimp only
 simp only[Ej,Ky.eta]
 refine⟨fun _=>f47 e.k h1 h2,fun h=>?_,fun h=>?_⟩
 ·refine congrArg db ?_
  symm
  rw[Bool.eq_false_iff]
  intro hk
  unfold aG at hk
  simp only[aY,eF] at hk
  obtain ⟨q1,q2,q3,q4,q5,q6,_⟩:=hk
  simp only[Bool.or_eq_true,eF,q3] at h
  rcases h with ((((h|h)|h)|h)|h)|h
  ·omega
  ·omega
  ·cases h
  ·omega
  ·omega
  ·omega
 ·simp only[Bool.or_eq_false_iff,decide_eq_false_iff_not,Bool.not_eq_false'] at h
  obtain ⟨⟨⟨⟨⟨q1,q2⟩,q3⟩,q4⟩,q5⟩,q6⟩:=h
  have e0:aG e=if e.kind=1 then decide (1≤e.v)&&(decide (e.v≤1048576)&&(decide (0≤e.h)&&(decide (e.h≤100000000)&&!e.acc))) else decide (e.v=0)&&(decide (e.h=0)&&(!e.acc||decide (e.kind=3))):=by
   unfold aG
   rw[decide_eq_true (show 0≤e.kind by omega),decide_eq_true (show e.kind≤3 by omega),q3,decide_eq_true (show 0≤e.t by omega),decide_eq_true (show e.t≤1099511627776 by omega),decide_eq_true (show e.s.size≤4096 by omega)]
   simp only[Bool.true_and]
  rw[e0]
  refine⟨fun h=>congrArg db ?_,fun h=>congrArg db ?_⟩
  ·rw[if_pos (eq_of_beq h)]
   simp only[Bool.and_assoc,ge_iff_le]
  ·rw[if_neg (ne_of_beq_false h)]
   simp only[Bool.and_assoc,Sv]
theorem f19 (e:Ev) (h1:e.k.st.size≤1000000) (h2:e.k.ex.size≤1000000):aA Tryz.prog G 19 [ig e] (db (aG e)):=by
 refine aA.walk (aj:=WS) (keep:=[]) follows Tryz.func19 rfl Tryz.call19 ?_
 refine aC (fun _ _ _ ZK=>(fun Za=>(((((!(decide (e.kind<0)||decide (e.kind>3)))=true)→ZK 48 [(ds e.k.st)] (db (nameB e.k.st)))∧(((!(decide (e.kind<0)||decide (e.kind>3)||!nameB e.k.st))=true)→ZK 48 [(ds e.k.ex)] (db (nameB e.k.ex))))∧((Za=true)→(((db false):DV)=(db (aG e))))∧((Za=false)→((((e.kind != 1)=true)→(((db (e.v==0&&e.h==0)):DV)=(db (aG e))))∧(((e.kind != 1)=false)→(((db (decide (e.v≥1)&&decide (e.v≤1048576)&&decide (e.h≥0)&&decide (e.h≤100000000))):DV)=(db (aG e)))))))) (decide (e.kind<0)||decide (e.kind>3)||!nameB e.k.st||!nameB e.k.ex||decide (e.k.n<1)||decide (e.k.n>16)||decide (e.t<0)||decide (e.t>1099511627776)||decide ((↑e.s.size:Int)>4096)||e.acc&&e.kind != 3)) (by kernel_rfl) ?_
 refine⟨⟨fun _=>f48 _ h1,fun _=>f48 _ h2⟩,fun h=>?_,fun h=>?_⟩
 ·refine congrArg db ?_
  symm
  rw[Bool.eq_false_iff]
  intro hk
  have hf:=(ny hk).2.2
  unfold aG Dj at hk
  simp only[aY,eF] at hk
  obtain ⟨q1,q2,⟨p1,p2,p3,p4⟩,q4,q5,q6,_⟩:=hk
  simp only[Bool.or_eq_true,aY,eF,p1,p2,bne_iff_ne,ne_eq] at h
  rcases h with ((((((((h|h)|h)|h)|h)|h)|h)|h)|h)|h
  ·omega
  ·omega
  ·cases h
  ·cases h
  ·omega
  ·omega
  ·omega
  ·omega
  ·omega
  ·rw[hf h.2] at h;exact absurd h.1 (by decide)
 ·simp only[Bool.or_eq_false_iff,decide_eq_false_iff_not,Bool.not_eq_false'] at h
  obtain ⟨⟨⟨⟨⟨⟨⟨⟨⟨q1,q2⟩,p1⟩,p2⟩,p3⟩,p4⟩,q4⟩,q5⟩,q6⟩,q7⟩:=h
  have e0:aG e=if e.kind=1 then decide (1≤e.v)&&(decide (e.v≤1048576)&&(decide (0≤e.h)&&(decide (e.h≤100000000)&&!e.acc))) else decide (e.v=0)&&(decide (e.h=0)&&(!e.acc||decide (e.kind=3))):=by
   unfold aG Dj
   rw[decide_eq_true (show 0≤e.kind by omega),decide_eq_true (show e.kind≤3 by omega),p1,p2,decide_eq_true (show 1≤e.k.n by omega),decide_eq_true (show e.k.n≤16 by omega),decide_eq_true (show 0≤e.t by omega),decide_eq_true (show e.t≤1099511627776 by omega),decide_eq_true (show e.s.size≤4096 by omega)]
   simp only[Bool.true_and]
  rw[e0]
  refine⟨fun h=>congrArg db ?_,fun h=>congrArg db ?_⟩
  ·have hk:e.kind≠1:=by simpa using h
   rw[if_neg hk]
   have:(!e.acc||decide (e.kind=3))=true:=by
    by_cases k3:e.kind=3
    ·simp[k3]
    ·have:e.acc=false:=by
      cases ha:e.acc with
      | false=>rfl
      | true=>rw[ha] at q7;simp[k3] at q7
     rw[this];rfl
   rw[this,Bool.and_true]
   simp only[Sv]
  ·have hk:e.kind=1:=by simpa using h
   rw[if_pos hk]
   have:e.acc=false:=by
    cases ha:e.acc with
    | false=>rfl
    | true=>rw[ha,hk] at q7;exact absurd q7 (by decide)
   rw[this]
   simp only[Bool.and_assoc,Bool.not_false,Bool.and_true,ge_iff_le]
theorem rX {α:Type} {d:α} {a b:List α} (h:a.length=b.length) (hi:∀i,i<a.length→a.getD i d=b.getD i d):a=b:=by
 refine List.ext_getElem h fun i h1 h2=>?_
 have:=hi i h1
 rwa [List.getD,List.getD,gy h1,gy h2] at this
theorem PX (a b:Ev):((a.kind==b.kind)&&(((ByteArray.toList a.k.st==ByteArray.toList b.k.st)&&((ByteArray.toList a.k.ex==ByteArray.toList b.k.ex)&&(a.k.n==b.k.n)))&&((a.t==b.t)&&((a.v==b.v)&&((a.h==b.h)&&((ByteArray.toList a.s==ByteArray.toList b.s)&&(a.acc==b.acc)))))))=decide (a=b):=by
 obtain ⟨a1,⟨a2,a3,a4⟩,a5,a6,a7,a8,a9⟩:=a
 obtain ⟨b1,⟨b2,b3,b4⟩,b5,b6,b7,b8,b9⟩:=b
 rw[dJ,dJ,dJ,Bool.eq_iff_iff]
 simp only[aY,beq_iff_eq,eF,Ev.mk.injEq,Ky.mk.injEq,and_assoc]
theorem VG (a b:Gv):((a.v==b.v)&&((a.h==b.h)&&((a.t==b.t)&&(ByteArray.toList a.s==ByteArray.toList b.s))))=decide (a=b):=by
 obtain ⟨a1,a2,a3,a4⟩:=a
 obtain ⟨b1,b2,b3,b4⟩:=b
 rw[dJ,Bool.eq_iff_iff]
 simp only[aY,beq_iff_eq,eF,Gv.mk.injEq]
theorem UE (a b:Al):((a.t==b.t)&&((ByteArray.toList a.s==ByteArray.toList b.s)&&((a.dec==b.dec)&&((a.acc==b.acc)&&((a.at_==b.at_)&&(ByteArray.toList a.ans==ByteArray.toList b.ans))))))=decide (a=b):=by
 obtain ⟨a1,a2,a3,a4,a5,a6⟩:=a
 obtain ⟨b1,b2,b3,b4,b5,b6⟩:=b
 rw[dJ,dJ,Bool.eq_iff_iff]
 simp only[aY,beq_iff_eq,eF,Al.mk.injEq]
noncomputable def S62 (a b:List Ev) (k:Nat):AS:=⟨regs Tryz.f62.ntmps [(0,.d (.slc 9 a.length (bW a))),(1,.d (.slc 9 b.length (bW b))),(12,vi a.length),(13,vi k)],[]⟩
theorem f62 (a b:List Ev) (ha:a.length≤1000000):aA Tryz.prog G 62 [.slc 9 a.length (bW a),.slc 9 b.length (bW b)] (db (decide (a=b))):=by
 refine aA.walk (aj:=bG) (keep:=[]) follows Tryz.func62 rfl Tryz.call62 ?_
 refine aC (fun ZT ZW ZQ _=>(((((↑a.length:Int) != ↑b.length)=true)→(((db false):DV)=(db (decide (a=b)))))∧((((↑a.length:Int) != ↑b.length)=false)→ZW [cd Tryz.f62 [1,1,0,1,0],(.blk 0),cd Tryz.f62 [1,1,1]] (aB ZT [1]) ZQ))) (by kernel_rfl) ?_
 refine⟨fun hne=>?_,fun heq=>?_⟩
 ·rw[decide_eq_false]
  rintro rfl
  simp at hne
 have heq:a.length=b.length:=by
  have h0:(a.length:Int)=b.length:=by simpa using heq
  omega
 refine aX.loop (c:=aU (au Tryz.f62) [1,1,0,1,0,0]) (by kernel_rfl) (S62 a b) (fun k=>k≤a.length∧∀i,i<k→a.getD i ev0=b.getD i ev0) (fun k=>a.length-k) 0 ?_ ⟨Nat.zero_le _,fun i hi=>absurd hi (Nat.not_lt_zero _)⟩ ?_
 ·exact AS.bD (by kernel_rfl)
 ·rintro k ⟨hk,hkd⟩
  refine dh (aj:=bG) ?_
  refine aV (fun ZT ZW ZQ _ ZA _=>(fun Za=>((((decide ((↑k:Int)<↑a.length))=true)→((((0≤(↑k:Int))∧((↑k:Int)<↑a.length))∧(0≤(↑k:Int))∧((↑k:Int)<↑b.length))∧((Za=true)→(((db false):DV)=(db (decide (a=b)))))∧((Za=false)→((I64 (↑k+1))∧(ZA (aB ZT [0,1]))))))∧(((decide ((↑k:Int)<↑a.length))=false)→ZW [cd Tryz.f62 [1,1,1]] (aB ZT [1]) ZQ))) (!Bool.rec false ((a.getD (↑k:Int).toNat ev0).k.st.toList==(b.getD (↑k:Int).toNat ev0).k.st.toList&&((a.getD (↑k:Int).toNat ev0).k.ex.toList==(b.getD (↑k:Int).toNat ev0).k.ex.toList&&(a.getD (↑k:Int).toNat ev0).k.n==(b.getD (↑k:Int).toNat ev0).k.n)&&((a.getD (↑k:Int).toNat ev0).t==(b.getD (↑k:Int).toNat ev0).t&&((a.getD (↑k:Int).toNat ev0).v==(b.getD (↑k:Int).toNat ev0).v&&((a.getD (↑k:Int).toNat ev0).h==(b.getD (↑k:Int).toNat ev0).h&&((a.getD (↑k:Int).toNat ev0).s.toList==(b.getD (↑k:Int).toNat ev0).s.toList&&(a.getD (↑k:Int).toNat ev0).acc==(b.getD (↑k:Int).toNat ev0).acc))))) ((a.getD (↑k:Int).toNat ev0).kind==(b.getD (↑k:Int).toNat ev0).kind))) (by kernel_rfl) ?_
  try dsimp only
  simp only[gW,oq,PX]
  refine⟨fun h=>?_,fun h=>?_⟩
  ·have hk2:k<a.length:=by have:=dn h;omega
   refine⟨⟨⟨by omega,by omega⟩,⟨by omega,by omega⟩⟩,fun h2=>?_,fun h2=>⟨⟨by omega,by omega⟩,Again.mk (k+1) ?_ ⟨hk2,fun i hi=>?_⟩ (by omega)⟩⟩
   ·rw[decide_eq_false]
    rintro rfl
    simp at h2
   ·exact AS.bD (by kernel_rfl)
   ·rcases Nat.lt_or_ge i k with h4|h4
    ·exact hkd i h4
    ·obtain rfl:i=k:=by omega
     simpa using h2
  ·simp only[decide_eq_false_iff_not] at h
   refine dh (aj:=bG) ?_
   refine aC (fun _ _ _ _=>(((db true):DV)=(db (decide (a=b))))) (by kernel_rfl) ?_
   rw[decide_eq_true (rX heq fun i hi=>hkd i (by omega))]
noncomputable def S15 (a b:List Gv) (k:Nat):AS:=⟨regs Tryz.f15.ntmps [(0,.d (.slc 4 a.length (dP a))),(1,.d (.slc 4 b.length (dP b))),(12,vi a.length),(13,vi k)],[]⟩
theorem f15 (a b:List Gv) (ha:a.length≤1000000):aA Tryz.prog G 15 [.slc 4 a.length (dP a),.slc 4 b.length (dP b)] (db (decide (a=b))):=by
 refine aA.walk (aj:=bG) (keep:=[]) follows Tryz.func15 rfl Tryz.call15 ?_
 refine aC (fun ZT ZW ZQ _=>(((((↑a.length:Int) != ↑b.length)=true)→(((db false):DV)=(db (decide (a=b)))))∧((((↑a.length:Int) != ↑b.length)=false)→ZW [cd Tryz.f15 [1,1,0,1,0],(.blk 0),cd Tryz.f15 [1,1,1]] (aB ZT [1]) ZQ))) (by kernel_rfl) ?_
 refine⟨fun hne=>?_,fun heq=>?_⟩
 ·rw[decide_eq_false]
  rintro rfl
  simp at hne
 have heq:a.length=b.length:=by
  have h0:(a.length:Int)=b.length:=by simpa using heq
  omega
 refine aX.loop (c:=aU (au Tryz.f15) [1,1,0,1,0,0]) (by kernel_rfl) (S15 a b) (fun k=>k≤a.length∧∀i,i<k→a.getD i dR=b.getD i dR) (fun k=>a.length-k) 0 ?_ ⟨Nat.zero_le _,fun i hi=>absurd hi (Nat.not_lt_zero _)⟩ ?_
 ·exact AS.bD (by kernel_rfl)
 ·rintro k ⟨hk,hkd⟩
  refine dh (aj:=bG) ?_
  refine aV (fun ZT ZW ZQ _ ZA _=>(fun Za=>((((decide ((↑k:Int)<↑a.length))=true)→((((0≤(↑k:Int))∧((↑k:Int)<↑a.length))∧(0≤(↑k:Int))∧((↑k:Int)<↑b.length))∧((Za=true)→(((db false):DV)=(db (decide (a=b)))))∧((Za=false)→((I64 (↑k+1))∧(ZA (aB ZT [0,1]))))))∧(((decide ((↑k:Int)<↑a.length))=false)→ZW [cd Tryz.f15 [1,1,1]] (aB ZT [1]) ZQ))) (!Bool.rec false ((a.getD (↑k:Int).toNat dR).h==(b.getD (↑k:Int).toNat dR).h&&((a.getD (↑k:Int).toNat dR).t==(b.getD (↑k:Int).toNat dR).t&&(a.getD (↑k:Int).toNat dR).s.toList==(b.getD (↑k:Int).toNat dR).s.toList)) ((a.getD (↑k:Int).toNat dR).v==(b.getD (↑k:Int).toNat dR).v))) (by kernel_rfl) ?_
  try dsimp only
  simp only[gW,oq,VG]
  refine⟨fun h=>?_,fun h=>?_⟩
  ·have hk2:k<a.length:=by have:=dn h;omega
   refine⟨⟨⟨by omega,by omega⟩,⟨by omega,by omega⟩⟩,fun h2=>?_,fun h2=>⟨⟨by omega,by omega⟩,Again.mk (k+1) ?_ ⟨hk2,fun i hi=>?_⟩ (by omega)⟩⟩
   ·rw[decide_eq_false]
    rintro rfl
    simp at h2
   ·exact AS.bD (by kernel_rfl)
   ·rcases Nat.lt_or_ge i k with h4|h4
    ·exact hkd i h4
    ·obtain rfl:i=k:=by omega
     simpa using h2
  ·simp only[decide_eq_false_iff_not] at h
   refine dh (aj:=bG) ?_
   refine aC (fun _ _ _ _=>(((db true):DV)=(db (decide (a=b))))) (by kernel_rfl) ?_
   rw[decide_eq_true (rX heq fun i hi=>hkd i (by omega))]
noncomputable def S66 (a b:List Al) (k:Nat):AS:=⟨regs Tryz.f66.ntmps [(0,.d (.slc 6 a.length (dI a))),(1,.d (.slc 6 b.length (dI b))),(12,vi a.length),(13,vi k)],[]⟩
theorem f66 (a b:List Al) (ha:a.length≤1000000):aA Tryz.prog G 66 [.slc 6 a.length (dI a),.slc 6 b.length (dI b)] (db (decide (a=b))):=by
 refine aA.walk (aj:=bG) (keep:=[]) follows Tryz.func66 rfl Tryz.call66 ?_
 refine aC (fun ZT ZW ZQ _=>(((((↑a.length:Int) != ↑b.length)=true)→(((db false):DV)=(db (decide (a=b)))))∧((((↑a.length:Int) != ↑b.length)=false)→ZW [cd Tryz.f66 [1,1,0,1,0],(.blk 0),cd Tryz.f66 [1,1,1]] (aB ZT [1]) ZQ))) (by kernel_rfl) ?_
 refine⟨fun hne=>?_,fun heq=>?_⟩
 ·rw[decide_eq_false]
  rintro rfl
  simp at hne
 have heq:a.length=b.length:=by
  have h0:(a.length:Int)=b.length:=by simpa using heq
  omega
 refine aX.loop (c:=aU (au Tryz.f66) [1,1,0,1,0,0]) (by kernel_rfl) (S66 a b) (fun k=>k≤a.length∧∀i,i<k→a.getD i bZ=b.getD i bZ) (fun k=>a.length-k) 0 ?_ ⟨Nat.zero_le _,fun i hi=>absurd hi (Nat.not_lt_zero _)⟩ ?_
 ·exact AS.bD (by kernel_rfl)
 ·rintro k ⟨hk,hkd⟩
  refine dh (aj:=bG) ?_
  refine aV (fun ZT ZW ZQ _ ZA _=>(fun Za=>((((decide ((↑k:Int)<↑a.length))=true)→((((0≤(↑k:Int))∧((↑k:Int)<↑a.length))∧(0≤(↑k:Int))∧((↑k:Int)<↑b.length))∧((Za=true)→(((db false):DV)=(db (decide (a=b)))))∧((Za=false)→((I64 (↑k+1))∧(ZA (aB ZT [0,1]))))))∧(((decide ((↑k:Int)<↑a.length))=false)→ZW [cd Tryz.f66 [1,1,1]] (aB ZT [1]) ZQ))) (!Bool.rec false ((a.getD (↑k:Int).toNat bZ).s.toList==(b.getD (↑k:Int).toNat bZ).s.toList&&((a.getD (↑k:Int).toNat bZ).dec==(b.getD (↑k:Int).toNat bZ).dec&&((a.getD (↑k:Int).toNat bZ).acc==(b.getD (↑k:Int).toNat bZ).acc&&((a.getD (↑k:Int).toNat bZ).at_==(b.getD (↑k:Int).toNat bZ).at_&&(a.getD (↑k:Int).toNat bZ).ans.toList==(b.getD (↑k:Int).toNat bZ).ans.toList)))) ((a.getD (↑k:Int).toNat bZ).t==(b.getD (↑k:Int).toNat bZ).t))) (by kernel_rfl) ?_
  try dsimp only
  simp only[gW,oq,UE]
  refine⟨fun h=>?_,fun h=>?_⟩
  ·have hk2:k<a.length:=by have:=dn h;omega
   refine⟨⟨⟨by omega,by omega⟩,⟨by omega,by omega⟩⟩,fun h2=>?_,fun h2=>⟨⟨by omega,by omega⟩,Again.mk (k+1) ?_ ⟨hk2,fun i hi=>?_⟩ (by omega)⟩⟩
   ·rw[decide_eq_false]
    rintro rfl
    simp at h2
   ·exact AS.bD (by kernel_rfl)
   ·rcases Nat.lt_or_ge i k with h4|h4
    ·exact hkd i h4
    ·obtain rfl:i=k:=by omega
     simpa using h2
  ·simp only[decide_eq_false_iff_not] at h
   refine dh (aj:=bG) ?_
   refine aC (fun _ _ _ _=>(((db true):DV)=(db (decide (a=b))))) (by kernel_rfl) ?_
   rw[decide_eq_true (rX heq fun i hi=>hkd i (by omega))]
end Go.Proofs
