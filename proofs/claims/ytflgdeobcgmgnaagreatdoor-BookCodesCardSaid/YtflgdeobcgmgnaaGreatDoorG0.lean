import Derived.Test.YtflgdeobcgmgnaaGreatDoorProg
import Derived.Test.YtflgdeobcgmgnaaGreatDoorAcC
import Derived.Lib.ItoaLen
import Derived.Test.YtflgdeobcgmgnaaGreatDoorAcD
import Derived.Lib.AtoiTie
import Derived.Lib.AtoiAllCases
import Derived.Lib.ItoaNum
import Derived.Lib.IndexLaws
import Derived.Lib.Bytealg
import Derived.Shelf.Strings.BuilderX
import Derived.Shelf.RegionOpenPlain
import Derived.Lib.Strings
import Derived.Lib.Slices
import Derived.Lib.Walk
import Derived.Lib.Builder
import Derived.Lib.AppendStr
import Derived.Lib.UnsafeStr
import Derived.Lib.MakeNoZero
import Derived.WalkKit
import Derived.Laws.Externs
import Derived.Laws.IdiomCopy
import Derived.Laws.BitsLemmas
import Derived.Shelf.LaysM
import Derived.Shelf.Strconv.Itoa3
set_option autoImplicit false
set_option maxHeartbeats 1000000
set_option maxRecDepth 100000
namespace Go.Proofs
open Go Go.Ab
theorem follows:Tryz.prog.follows .mixedOrders=true:=by kernel_rfl
def lV (c:Int):Bool:=decide (97≤c)&&decide (c≤122)
def xU (c:Int):Bool:=decide (48≤c)&&decide (c≤57)
def qw (c:Int):Bool:=lV c||xU c||c==95
def adB (c:UInt8):Bool:=qw (c.toNat:Int)
def runN (s:ByteArray):Nat:=(s.data.toList.takeWhile adB).length
theorem yT {p:UInt8→Bool}:∀{l:List UInt8} {k:Nat},k≤l.length→(∀i (h:i<l.length),i<k→p l[i]=true)→(∀h:k<l.length,p l[k]=false)→(l.takeWhile p).length=k
 | [],k,h,_,_=>by simp at h;subst h;rfl
 | c :: l,0,_,_,h3=>by
  have:=h3 (by simp)
  simp only[List.getElem_cons_zero] at this
  rw[List.takeWhile_cons,this];rfl
 | c :: l,k+1,h1,h2,h3=>by
  have hc:=h2 0 (by simp) (by omega)
  simp only[List.getElem_cons_zero] at hc
  rw[List.takeWhile_cons,hc]
  simp only[if_true,List.length_cons]
  rw[yT (l:=l) (k:=k) (by simpa using h1) (fun i h hi=>by
   have:=h2 (i+1) (by simpa using h) (by omega)
   simpa using this) (fun h=>by
   have:=h3 (by simpa using h)
   simpa using this)]
theorem GL {s:ByteArray} {k:Nat} (h:k<s.size):byteAt s k=((s.data.toList[k]'(by rw[Array.length_toList];exact h)).toNat:Int):=by
 unfold byteAt
 have h':k<s.data.size:=h
 rw[Array.getElem?_eq_getElem h',Option.getD_some,Array.getElem_toList]
theorem Aq {s:ByteArray} {k:Nat} (h1:k≤s.size) (h2:∀i,i<k→qw (byteAt s i)=true) (h3:k<s.size→qw (byteAt s k)=false):runN s=k:=by
 have hl:s.data.toList.length=s.size:=Array.length_toList
 refine yT (by omega) (fun i h hi=>?_) (fun h=>?_)
 ·have:=h2 i hi
  rw[GL (by omega)] at this;exact this
 ·have:=h3 (by omega)
  rw[GL (by omega)] at this;exact this
def VU:List ByteArray:=[⟨#[112,111,105,110,116,115]⟩,⟨#[112,101,110,97,108,116,121]⟩,⟨#[99,97,112]⟩,⟨#[102,108,111,111,114]⟩,⟨#[105,110]⟩,⟨#[105,102]⟩,⟨#[97,110,100]⟩,⟨#[111,114]⟩,⟨#[110,111,116]⟩,⟨#[116,114,117,101]⟩,⟨#[102,97,108,115,101]⟩,⟨#[109,105,110]⟩,⟨#[109,97,120]⟩]
def EX (s:ByteArray):Bool:=VU.any fun x=>decide (x=s)
def nameB (s:ByteArray):Bool:=decide (1≤s.size)&&(decide (s.size≤16)&&(lV (byteAt s 0)&&(decide (runN s=s.size)&&!EX s)))
def I8 (l:List ByteArray) (i:Nat):DV:=ds (l.getD i .empty)
def yG (l:List ByteArray) (s:ByteArray):Int:=if l.any (fun x=>decide (x=s)) then ((l.takeWhile fun x=>!decide (x=s)).length:Nat) else -1
def bs (l:List UInt8):ByteArray:=⟨l.toArray⟩
theorem dR (l:List UInt8):(bs l).size=l.length:=by simp[bs,ByteArray.size]
theorem wH (l m:List UInt8):bs l++bs m=bs (l++m):=by
 apply ByteArray.ext;simp[bs]
theorem dZ (s:ByteArray):s.data.toList.length=s.size:=Array.length_toList
theorem toList_inj {a b:ByteArray}:a.toList=b.toList↔a=b:=by
 rw[ByteArray.toList_eq,ByteArray.toList_eq]
 constructor
 ·intro h;apply ByteArray.ext;exact Array.toList_inj.1 h
 ·rintro rfl;rfl
theorem dO (a b:ByteArray):(ByteArray.toList a==ByteArray.toList b)=decide (a=b):=by
 rw[Bool.eq_iff_iff,beq_iff_eq,toList_inj,decide_eq_true_iff]
theorem Ux (l:List UInt8) (i:Nat):byteAt (bs l) i=(((l[i]?).getD 0).toNat:Int):=by
 simp[byteAt,bs]
theorem oU (s:ByteArray) (i j:Nat):s.extract i j=bs ((s.data.toList.drop i).take (j-i)):=by
 apply ByteArray.ext
 rw[ByteArray.data_extract]
 apply Array.ext'
 simp[bs]
theorem oK (s:ByteArray):bs s.data.toList=s:=by simp[bs]
theorem aas {l m:List UInt8} (h:bs l=bs m):l=m:=by
 have:=congrArg (fun s:ByteArray=>s.data.toList) h
 simpa [bs] using this
theorem jc (l:List UInt8):(bs l).data.toList=l:=by simp[bs]
theorem WU {l:List UInt8} {c:UInt8} {o:Nat} (h:l[o]?=some c) (h2:∀k,k<o→l[k]?≠some c):Lib.indexByte l c=o:=by
 rcases Int.lt_or_le (Lib.indexByte l c) 0 with h3|h3
 ·have:=Lib.indexByte_ge l c
  exact absurd h (Lib.indexByte_none (show Lib.indexByte l c = -1 by omega) o)
 ·obtain ⟨n,hn⟩:=Int.eq_ofNat_of_zero_le h3
  obtain ⟨h4,h5⟩:=Lib.indexByte_some hn
  rcases Nat.lt_trichotomy n o with h6|h6|h6
  ·exact absurd h4 (h2 n h6)
  ·rw[hn,h6]
  ·exact absurd h (h5 o h6)
theorem uq (s:ByteArray) (i j:Nat):(s.extract i j).data.toList=(s.data.toList.drop i).take (j-i):=by
 rw[oU,jc]
def yK (c:UInt8):Prop:=48≤c.toNat∧c.toNat≤57
def fH (l:List UInt8):Nat:=l.foldl (fun a c=>10*a+(c.toNat-48)) 0
theorem Cm (l:List UInt8) (c:UInt8):fH (l++[c])=10*fH l+(c.toNat-48):=by
 simp[fH,List.foldl_append]
theorem Rj {k:Nat} (h:k<10):(UInt8.ofNat (48+k)).toNat=48+k:=by
 rw[UInt8.toNat_ofNat'];omega
theorem oV:∀n:Nat,(∀c∈Lib.decDigits n,yK c)∧fH (Lib.decDigits n)=n∧Lib.decDigits n≠[]∧(1<(Lib.decDigits n).length→∀c,(Lib.decDigits n).head?=some c→c.toNat≠48)∧(1≤n→∀c,(Lib.decDigits n).head?=some c→c.toNat≠48):=by
 intro n
 induction n using Nat.strongRecOn with
 | _ n ih=>
  rw[Lib.decDigits]
  by_cases h:n<10
  ·rw[dif_pos h]
   have hd:=Rj h
   refine⟨fun c hc=>?_,?_,by simp,fun h2=>by simp at h2,fun h2 c hc=>?_⟩
   ·rw[List.mem_singleton] at hc;subst hc;exact⟨by omega,by omega⟩
   ·show 10*0+((UInt8.ofNat (48+n)).toNat-48)=n
    rw[hd];omega
   ·simp only[List.head?_cons,aG] at hc;subst hc;omega
  ·rw[dif_neg h]
   obtain ⟨h1,h2,h3,h4,h5⟩:=ih (n / 10) (by omega)
   have hd:=Rj (show n % 10<10 by omega)
   have hhead:∀c,(Lib.decDigits (n / 10)++[UInt8.ofNat (48+n % 10)]).head?=some c→c.toNat≠48:=by
    intro c hc
    refine h5 (by omega) c ?_
    cases hq:Lib.decDigits (n / 10) with
    | nil=>exact absurd hq h3
    | cons a l=>rw[hq] at hc;simpa using hc
   refine⟨fun c hc=>?_,?_,by simp,fun _=>hhead,fun _=>hhead⟩
   ·rcases List.mem_append.1 hc with hc|hc
    ·exact h1 c hc
    ·rw[List.mem_singleton] at hc;subst hc;exact⟨by omega,by omega⟩
   ·rw[Cm,h2,hd];omega
theorem oZ:∀k n:Nat,n<10 ^ (k+1)→(Lib.decDigits n).length≤k+1
 | 0,n,h=>by
  rw[Lib.decDigits,dif_pos (by omega)];simp
 | k+1,n,h=>by
  rw[Lib.decDigits]
  by_cases h2:n<10
  ·rw[dif_pos h2];simp
  ·rw[dif_neg h2,List.length_append]
   have:=oZ k (n / 10) (by rw[Nat.pow_succ] at h;omega)
   simp;omega
theorem KP:∀(n:Nat) (l:List UInt8),l.length=n→l≠[]→(∀c∈l,yK c)→(1<l.length→∀c,l.head?=some c→c.toNat≠48)→Lib.decDigits (fH l)=l:=by
 intro n
 induction n with
 | zero=>intro l hn h0;exact absurd (List.eq_nil_of_length_eq_zero hn) h0
 | succ n ih=>
  intro l' hn h0 hd hz
  obtain ⟨l,c,rfl⟩:∃l c,l'=l++[c]:=⟨l'.dropLast,l'.getLast h0,(List.dropLast_concat_getLast h0).symm⟩
  have hc:=hd c (by simp)
  have hc':UInt8.ofNat (48+(c.toNat-48))=c:=by
   rw[Nat.add_sub_cancel' hc.1];exact UInt8.ofNat_toNat
  have hll:l.length=n:=by rw[List.length_append,List.length_singleton] at hn;omega
  rw[Cm]
  by_cases hl:l=[]
  ·subst hl
   have e:10*fH []+(c.toNat-48)=c.toNat-48:=by
    show 10*0+(c.toNat-48)=_
    omega
   rw[e,Lib.decDigits,dif_pos (by have:=hc.2;omega),hc',List.nil_append]
  ·have hh:∀a,l.head?=some a→a.toNat≠48:=by
    intro a ha
    refine hz (by rw[List.length_append];have:=List.length_pos_iff.2 hl;simp;omega) a ?_
    cases l with
    | nil=>exact absurd rfl hl
    | cons x l=>simpa using ha
   have ihl:=ih l hll hl (fun a ha=>hd a (by simp[ha])) (fun _=>hh)
   have hv:1≤fH l:=by
    rcases Nat.eq_zero_or_pos (fH l) with h|h
    ·rw[h,Lib.decDigits,dif_pos (by decide)] at ihl
     rw[←ihl] at hh
     exact absurd rfl (hh _ rfl)
    ·exact h
   rw[Lib.decDigits,dif_neg (by omega),show (10*fH l+(c.toNat-48)) / 10=fH l by have:=hc.2;omega,show (10*fH l+(c.toNat-48)) % 10=c.toNat-48 by have:=hc.2;omega,ihl,hc']
theorem MV {l:List UInt8} (h0:l≠[]) (hd:∀c∈l,yK c) (hz:1<l.length→∀c,l.head?=some c→c.toNat≠48):Lib.decDigits (fH l)=l:=KP _ l rfl h0 hd hz
theorem KJ {l:List UInt8}:∀(a:Nat),(∀c∈l,yK c)→Lib.decFrom a l=some (l.foldl (fun a c=>10*a+(c.toNat-48)) a):=by
 induction l with
 | nil=>intro a _;rfl
 | cons c l ih=>
  intro a hd
  have hc:=hd c (by simp)
  have e:Lib.digitVal c=some (c.toNat-48):=by
   unfold Lib.digitVal
   rw[if_pos ⟨hc.1,hc.2⟩]
  rw[Lib.decFrom,e]
  simp only
  rw[ih _ fun d hd2=>hd d (by simp[hd2]),List.foldl_cons,Nat.mul_comm]
theorem GI {l:List UInt8} (h0:l≠[]) (hd:∀c∈l,yK c) (hl:l.length≤18):Lib.atoiAll l=.ok (fH l:Int):=by
 rw[Lib.atoiAll_short l hl]
 cases l with
 | nil=>exact absurd rfl h0
 | cons c l=>
  have hc:=hd c (by simp)
  have h45:(c==45)=false:=by
   rw[beq_eq_false_iff_ne];intro e;subst e;have:=hc.1;simp at this
  have h43:(c==43)=false:=by
   rw[beq_eq_false_iff_ne];intro e;subst e;have:=hc.1;simp at this
  rw[Lib.atoi,h45,h43]
  simp only[Bool.false_eq_true,if_false]
  rw[Lib.decNat,if_neg (by simp),KJ 0 hd]
  rfl
theorem nM (n:Nat):Lib.itoa (n:Int)=Lib.decDigits n:=by
 unfold Lib.itoa
 rw[if_neg (show ¬(n:Int)<0 by omega),gZ]
theorem PG:∀(n:Nat) (l:List UInt8),l.length=n→(∀c∈l,yK c)→fH l<10 ^ n:=by
 intro n
 induction n with
 | zero=>intro l hn _;rw[List.eq_nil_of_length_eq_zero hn];decide
 | succ n ih=>
  intro l' hn hd
  have h0:l'≠[]:=by intro e;rw[e] at hn;simp at hn
  obtain ⟨l,c,rfl⟩:∃l c,l'=l++[c]:=⟨l'.dropLast,l'.getLast h0,(List.dropLast_concat_getLast h0).symm⟩
  have hc:=hd c (by simp)
  have:=ih l (by rw[List.length_append,List.length_singleton] at hn;omega) fun a ha=>hd a (by simp[ha])
  rw[Cm,Nat.pow_succ]
  have h2:=hc.2
  omega
theorem Ea {l:List UInt8} {k:Nat} (hk:k<l.length):fH (l.take (k+1))=10*fH (l.take k)+((l[k]).toNat-48):=by
 rw[List.take_succ_eq_append_getElem hk,Cm]
theorem oP {s:ByteArray} {k:Nat} (hk:k<s.data.toList.length):byteAt s k=((s.data.toList[k]).toNat:Int):=by
 have:=Ux s.data.toList k
 rw[oK,iy hk] at this
 exact this
theorem Wq {l:List UInt8} {v:Int} (h:Lib.atoiAll l=.ok v):I64 v:=Lib.atoiAll_bounds h
end Go.Proofs
namespace Go.Proofs
open Go Go.Ab Go.RowKit
variable {G:IH}
@[match_pattern] abbrev b8 (c:Int):DV:=.con (.int .u8 c)
def Qi:Nat→DV:=aY false 1 (VU.map fun s=>ds s)
def MH:DV:=.slc 1 13 Qi
def tZ (l:List ByteArray) (s:ByteArray):Bool:=l.any fun x=>decide (x=s)
def nP:iw:=fun f a=>match f,a with
 | 168,[b8 c]=>some (db (lV c))
 | 190,[b8 c]=>some (db (xU c))
 | 170,[b8 c]=>some (db (qw c))
 | 147,[b8 c]=>some (db (lV c))
 | 179,[b8 c]=>some (db (xU c))
 | 150,[b8 c]=>some (db (qw c))
 | 169,[.con (.string s),_]=>some (di (runN s))
 | 122,[.con (.string s)]=>some (db (nameB s))
 | 141,[.con (.string s)]=>some (db (nameB s))
 | 172,[]=>some MH
 | 149,[]=>some MH
 | 171,[_,.con (.string s)]=>some (db (EX s))
 | 148,[_,.con (.string s)]=>some (db (EX s))
 | _,_=>none
theorem f168 (c:Int):au Tryz.prog G 168 [b8 c] (db (lV c)):=by
 refine au.walk (aj:=nP) (keep:=[]) follows Tryz.func168 rfl Tryz.call168 ?_
 refine aJ (fun _ _ _ _=>(((db (decide (c≥97)&&decide (c≤122))):DV)=(db (lV c)))) (by kernel_rfl) ?_
 rfl
theorem f190 (c:Int):au Tryz.prog G 190 [b8 c] (db (xU c)):=by
 refine au.walk (aj:=nP) (keep:=[]) follows Tryz.func190 rfl Tryz.call190 ?_
 refine aJ (fun _ _ _ _=>(((db (decide (c≥48)&&decide (c≤57))):DV)=(db (xU c)))) (by kernel_rfl) ?_
 rfl
theorem f147 (c:Int):au Tryz.prog G 147 [b8 c] (db (lV c)):=by
 refine au.walk (aj:=nP) (keep:=[]) follows Tryz.func147 rfl Tryz.call147 ?_
 refine aJ (fun _ _ _ _=>(((db (decide (c≥97)&&decide (c≤122))):DV)=(db (lV c)))) (by kernel_rfl) ?_
 rfl
theorem f179 (c:Int):au Tryz.prog G 179 [b8 c] (db (xU c)):=by
 refine au.walk (aj:=nP) (keep:=[]) follows Tryz.func179 rfl Tryz.call179 ?_
 refine aJ (fun _ _ _ _=>(((db (decide (c≥48)&&decide (c≤57))):DV)=(db (xU c)))) (by kernel_rfl) ?_
 rfl
theorem f170 (c:Int):au Tryz.prog G 170 [b8 c] (db (qw c)):=by
 refine au.walk (aj:=nP) (keep:=[]) follows Tryz.func170 rfl Tryz.call170 ?_
 refine aJ (fun _ _ _ ZK=>((ZK 168 [(.con (.int .u8 c))] (db (lV c))∧(((!lV c)=true)→ZK 190 [(.con (.int .u8 c))] (db (xU c))))∧((db (lV c||xU c||c==95)):DV)=(db (qw c)))) (by kernel_rfl) ?_
 exact⟨⟨f168 c,fun _=>f190 c⟩,rfl⟩
theorem f150 (c:Int):au Tryz.prog G 150 [b8 c] (db (qw c)):=by
 refine au.walk (aj:=nP) (keep:=[]) follows Tryz.func150 rfl Tryz.call150 ?_
 refine aJ (fun _ _ _ ZK=>((ZK 147 [(.con (.int .u8 c))] (db (lV c))∧(((!lV c)=true)→ZK 179 [(.con (.int .u8 c))] (db (xU c))))∧((db (lV c||xU c||c==95)):DV)=(db (qw c)))) (by kernel_rfl) ?_
 exact⟨⟨f147 c,fun _=>f179 c⟩,rfl⟩
noncomputable def adL (s:ByteArray) (k:Nat):AS:=⟨regs Tryz.f169.ntmps [(0,vs s),(1,.d (.con (.func (.func 170) #[] #[]))),(5,vi k)],[]⟩
theorem f169 (s:ByteArray) (hs:s.size≤1000000):au Tryz.prog G 169 [ds s,.con (.func (.func 170) #[] #[])] (di (runN s)):=by
 refine au.walk (aj:=nP) (keep:=[]) follows Tryz.func169 rfl Tryz.call169 ?_
 refine aJ (fun ZT ZW ZQ _=>ZW [cd Tryz.f169 [1,1,0,0],(.blk 0),cd Tryz.f169 [1,1,1]] (aI ZT []) ZQ) (by kernel_rfl) ?_
 refine bK.loop (c:=aU (ak Tryz.f169) [1,1,0,0,0]) (by kernel_rfl) (adL s) (fun k=>k≤s.size∧∀i,i<k→qw (byteAt s i)=true) (fun k=>s.size-k) 0 ?_ ⟨Nat.zero_le _,fun i hi=>by omega⟩ ?_
 ·exact AS.bJ (by kernel_rfl)
 ·rintro k ⟨hk,hkd⟩
  refine walk (aj:=nP) (keep:=[]) (cuts:=[]) (n:=1000) follows ?_
  refine bD (fun ZT ZW ZQ ZK ZA _=>(((((decide ((↑k:Int)<↑s.size))=true)→((0≤(↑k:Int))∧((↑k:Int)<↑s.size)))∧(((decide ((↑k:Int)<↑s.size))=true)→ZK 170 [(.con (.int .u8 (byteAt s (↑k:Int).toNat)))] (db (qw (byteAt s (↑k:Int).toNat)))))∧(((decide ((↑k:Int)<↑s.size)&&qw (byteAt s (↑k:Int).toNat))=true)→((I64 (↑k+1))∧(ZA (aI ZT [0]))))∧(((decide ((↑k:Int)<↑s.size)&&qw (byteAt s (↑k:Int).toNat))=false)→ZW [cd Tryz.f169 [1,1,1]] (aI ZT [1]) ZQ))) (by kernel_rfl) ?_
  simp only[gZ]
  refine⟨⟨fun h=>?_,fun _=>f170 _⟩,fun h=>?_,fun h=>?_⟩
  ·simp only[eF] at h
   exact⟨by omega,by omega⟩
  ·simp only[aV,eF] at h
   refine⟨⟨by omega,by omega⟩,Again.mk (k+1) ?_ ⟨by omega,fun i hi=>?_⟩ (by omega)⟩
   ·exact AS.bJ (by kernel_rfl)
   ·rcases Nat.lt_or_ge i k with h1|h1
    ·exact hkd i h1
    ·obtain rfl:i=k:=by omega
     exact h.2
  ·have hst:runN s=k:=Aq hk hkd fun h1=>by
    simp only[Bool.and_eq_false_imp,eF] at h
    exact h (by omega)
   refine walk (aj:=nP) (keep:=[]) (cuts:=[]) (n:=1000) follows ?_
   refine aJ (fun _ _ _ _=>(((di (↑k)):DV)=(di ↑(runN s)))) (by kernel_rfl) ?_
   rw[hst]
theorem f172:au Tryz.prog G 172 [] MH:=by
 refine au.walk (aj:=nP) (keep:=[]) follows Tryz.func172 rfl Tryz.call172 ?_
 refine aJ (fun _ _ _ _=>(((.slc 1 13 (aY false 1 [(ds (ByteArray.mk #[112,111,105,110,116,115])),(ds (ByteArray.mk #[112,101,110,97,108,116,121])),(ds (ByteArray.mk #[99,97,112])),(ds (ByteArray.mk #[102,108,111,111,114])),(ds (ByteArray.mk #[105,110])),(ds (ByteArray.mk #[105,102])),(ds (ByteArray.mk #[97,110,100])),(ds (ByteArray.mk #[111,114])),(ds (ByteArray.mk #[110,111,116])),(ds (ByteArray.mk #[116,114,117,101])),(ds (ByteArray.mk #[102,97,108,115,101])),(ds (ByteArray.mk #[109,105,110])),(ds (ByteArray.mk #[109,97,120]))])):DV)=MH)) (by kernel_rfl) ?_
 rfl
theorem f149:au Tryz.prog G 149 [] MH:=by
 refine au.walk (aj:=nP) (keep:=[]) follows Tryz.func149 rfl Tryz.call149 ?_
 refine aJ (fun _ _ _ _=>(((.slc 1 13 (aY false 1 [(ds (ByteArray.mk #[112,111,105,110,116,115])),(ds (ByteArray.mk #[112,101,110,97,108,116,121])),(ds (ByteArray.mk #[99,97,112])),(ds (ByteArray.mk #[102,108,111,111,114])),(ds (ByteArray.mk #[105,110])),(ds (ByteArray.mk #[105,102])),(ds (ByteArray.mk #[97,110,100])),(ds (ByteArray.mk #[111,114])),(ds (ByteArray.mk #[110,111,116])),(ds (ByteArray.mk #[116,114,117,101])),(ds (ByteArray.mk #[102,97,108,115,101])),(ds (ByteArray.mk #[109,105,110])),(ds (ByteArray.mk #[109,97,120]))])):DV)=MH)) (by kernel_rfl) ?_
 rfl
theorem PK {l:List ByteArray} {s:ByteArray} {k:Nat} (hk:k<l.length) (hno:∀i,i<k→l.getD i .empty≠s) (h:l.getD k .empty=s):tZ l s=true∧yG l s=k:=by
 have hk2:l[k]=s:=by rw[←h,List.getD,iy hk];rfl
 have h1:tZ l s=true:=by
  unfold tZ
  rw[List.any_eq_true]
  exact⟨l[k],List.getElem_mem hk,by rw[eF];exact hk2⟩
 refine⟨h1,?_⟩
 unfold yG
 unfold tZ at h1
 rw[if_pos h1]
 have:∀(l:List ByteArray) (k:Nat) (hk:k<l.length),(∀i (h:i<l.length),i<k→l[i]≠s)→l[k]=s→(l.takeWhile fun x=>!decide (x=s)).length=k:=by
  intro l
  induction l with
  | nil=>intro k hk;simp at hk
  | cons x l ih=>
   intro k hk h2 h3
   cases k with
   | zero=>
    simp only[List.getElem_cons_zero] at h3
    rw[List.takeWhile_cons,h3];simp
   | succ k=>
    have h4:=h2 0 (by simp) (by omega)
    simp only[List.getElem_cons_zero] at h4
    rw[List.takeWhile_cons]
    simp only[h4,decide_false,Bool.not_false,if_true,List.length_cons]
    rw[ih k (by simpa using hk) (fun i h5 h6=>by
     have:=h2 (i+1) (by simpa using h5) (by omega)
     simpa using this) (by simpa using h3)]
 rw[this l k hk (fun i h5 h6=>by
  have:=hno i h6
  rw[List.getD,iy h5] at this
  exact this) hk2]
theorem any_none {l:List ByteArray} {s:ByteArray} (hno:∀i,i<l.length→l.getD i .empty≠s):tZ l s=false∧yG l s = -1:=by
 have h1:tZ l s=false:=by
  rw[Bool.eq_false_iff]
  unfold tZ
  intro h
  obtain ⟨x,hx,hd⟩:=List.any_eq_true.1 h
  obtain ⟨i,hi,rfl⟩:=List.getElem_of_mem hx
  rw[eF] at hd
  refine hno i hi ?_
  rw[List.getD,iy hi];exact hd
 refine⟨h1,?_⟩
 unfold yG
 unfold tZ at h1
 rw[if_neg (by rw[h1];simp)]
noncomputable def adF (l:List ByteArray) (s:ByteArray) (k:Nat):AS:=⟨regs Tryz.f191.ntmps [(0,.d (.slc 1 l.length (I8 l))),(1,vs s),(7,vi l.length),(8,vi k)],[]⟩
theorem f191 (l:List ByteArray) (s:ByteArray) (hl:l.length≤1000000):au Tryz.prog G 191 [.slc 1 l.length (I8 l),ds s] (di (yG l s)):=by
 refine au.walk (aj:=nP) (keep:=[]) follows Tryz.func191 rfl Tryz.call191 ?_
 refine aJ (fun ZT ZW ZQ _=>ZW [cd Tryz.f191 [1,0,1,0],(.blk 0),cd Tryz.f191 [1,1]] (aI ZT []) ZQ) (by kernel_rfl) ?_
 refine bK.loop (c:=aU (ak Tryz.f191) [1,0,1,0,0]) (by kernel_rfl) (adF l s) (fun k=>k≤l.length∧∀i,i<k→l.getD i .empty≠s) (fun k=>l.length-k) 0 ?_ ⟨Nat.zero_le _,fun i hi=>by omega⟩ ?_
 ·exact AS.bJ (by kernel_rfl)
 ·rintro k ⟨hk,hkd⟩
  refine walk (aj:=nP) (keep:=[]) (cuts:=[]) (n:=1000) follows ?_
  refine bD (fun ZT ZW ZQ _ ZA _=>((((decide ((↑k:Int)<↑l.length))=true)→(((0≤(↑k:Int))∧((↑k:Int)<↑l.length))∧(((s.toList==(l.getD (↑k:Int).toNat ByteArray.empty).toList)=true)→(((di (↑k)):DV)=(di (yG l s))))∧(((s.toList==(l.getD (↑k:Int).toNat ByteArray.empty).toList)=false)→((I64 (↑k+1))∧(ZA (aI ZT [0,1]))))))∧(((decide ((↑k:Int)<↑l.length))=false)→ZW [cd Tryz.f191 [1,1]] (aI ZT [1]) ZQ))) (by kernel_rfl) ?_
  simp only[gZ,dO]
  refine⟨fun h=>?_,fun h=>?_⟩
  ·simp only[eF] at h
   refine⟨⟨by omega,by omega⟩,fun h2=>?_,fun h2=>?_⟩
   ·simp only[eF] at h2
    rw[(PK (by omega) hkd h2.symm).2]
   ·simp only[decide_eq_false_iff_not] at h2
    refine⟨⟨by omega,by omega⟩,Again.mk (k+1) ?_ ⟨by omega,fun i hi=>?_⟩ (by omega)⟩
    ·exact AS.bJ (by kernel_rfl)
    ·rcases Nat.lt_or_ge i k with h1|h1
     ·exact hkd i h1
     ·obtain rfl:i=k:=by omega
      exact fun h3=>h2 h3.symm
  ·simp only[decide_eq_false_iff_not] at h
   have hst:=any_none (l:=l) (s:=s) fun i hi=>hkd i (by omega)
   refine walk (aj:=nP) (keep:=[]) (cuts:=[]) (n:=1000) follows ?_
   refine aJ (fun _ _ _ _=>(((di (-1)):DV)=(di (yG l s)))) (by kernel_rfl) ?_
   rw[hst.2]
noncomputable def ac7 (l:List ByteArray) (s:ByteArray) (k:Nat):AS:=⟨regs Tryz.f148.ntmps [(0,.d (.slc 1 l.length (I8 l))),(1,vs s),(5,vi k)],[]⟩
theorem f148 (l:List ByteArray) (s:ByteArray) (hl:l.length≤1000000):au Tryz.prog G 148 [.slc 1 l.length (I8 l),ds s] (db (tZ l s)):=by
 refine au.walk (aj:=nP) (keep:=[]) follows Tryz.func148 rfl Tryz.call148 ?_
 refine aJ (fun ZT ZW ZQ _=>ZW [cd Tryz.f148 [1,0,1,0],(.blk 0),cd Tryz.f148 [1,1]] (aI ZT []) ZQ) (by kernel_rfl) ?_
 refine bK.loop (c:=aU (ak Tryz.f148) [1,0,1,0,0]) (by kernel_rfl) (ac7 l s) (fun k=>k≤l.length∧∀i,i<k→l.getD i .empty≠s) (fun k=>l.length-k) 0 ?_ ⟨Nat.zero_le _,fun i hi=>by omega⟩ ?_
 ·exact AS.bJ (by kernel_rfl)
 ·rintro k ⟨hk,hkd⟩
  refine walk (aj:=nP) (keep:=[]) (cuts:=[]) (n:=1000) follows ?_
  refine bD (fun ZT ZW ZQ _ ZA _=>((((decide ((↑k:Int)<↑l.length))=true)→(((0≤(↑k:Int))∧((↑k:Int)<↑l.length))∧((((l.getD (↑k:Int).toNat ByteArray.empty).toList==s.toList)=true)→(((db true):DV)=(db (tZ l s))))∧((((l.getD (↑k:Int).toNat ByteArray.empty).toList==s.toList)=false)→((I64 (↑k+1))∧(ZA (aI ZT [0,1]))))))∧(((decide ((↑k:Int)<↑l.length))=false)→ZW [cd Tryz.f148 [1,1]] (aI ZT [1]) ZQ))) (by kernel_rfl) ?_
  simp only[gZ,dO]
  refine⟨fun h=>?_,fun h=>?_⟩
  ·simp only[eF] at h
   refine⟨⟨by omega,by omega⟩,fun h2=>?_,fun h2=>?_⟩
   ·simp only[eF] at h2
    rw[(PK (by omega) hkd h2).1]
   ·simp only[decide_eq_false_iff_not] at h2
    refine⟨⟨by omega,by omega⟩,Again.mk (k+1) ?_ ⟨by omega,fun i hi=>?_⟩ (by omega)⟩
    ·exact AS.bJ (by kernel_rfl)
    ·rcases Nat.lt_or_ge i k with h1|h1
     ·exact hkd i h1
     ·obtain rfl:i=k:=by omega
      exact h2
  ·simp only[decide_eq_false_iff_not] at h
   have hst:=any_none (l:=l) (s:=s) fun i hi=>hkd i (by omega)
   refine walk (aj:=nP) (keep:=[]) (cuts:=[]) (n:=1000) follows ?_
   refine aJ (fun _ _ _ _=>(((db false):DV)=(db (tZ l s)))) (by kernel_rfl) ?_
   rw[hst.1]
def ad1 (l:List ByteArray):iw:=fun f a=>match f,a with
 | 191,[_,.con (.string s)]=>some (di (yG l s))
 | _,_=>none
theorem Bo (s:ByteArray):(ByteArray.toList s==ByteArray.toList { data:=#[] })=decide (s.size=0):=by
 rw[dO,decide_eq_decide]
 constructor
 ·rintro rfl;rfl
 ·intro h
  apply ByteArray.ext
  exact Array.eq_empty_of_size_eq_zero h
theorem f171 (l:List ByteArray) (s:ByteArray) (hl:l.length≤1000000):au Tryz.prog G 171 [.slc 1 l.length (I8 l),ds s] (db (tZ l s)):=by
 refine au.walk (aj:=ad1 l) (keep:=[]) follows Tryz.func171 rfl Tryz.call171 ?_
 refine aJ (fun _ _ _ ZK=>(ZK 191 [(.slc 1 l.length (I8 l)),(ds s)] (di (yG l s))∧((db (decide (yG l s≥0))):DV)=(db (tZ l s)))) (by kernel_rfl) ?_
 refine⟨f191 l s hl,?_⟩
 unfold yG tZ
 cases h:l.any (fun x=>decide (x=s)) with
 | true=>
  rw[if_pos rfl]
  have:decide ((((l.takeWhile fun x=>!decide (x=s)).length:Nat):Int)≥0)=true:=by rw[eF];omega
  rw[this]
 | false=>rfl
theorem OC:∀i,i<13→Qi i=I8 VU i:=by
 intro i hi
 unfold Qi
 match i,hi with
 | 0,_=>rfl
 | 1,_=>rfl
 | 2,_=>rfl
 | 3,_=>rfl
 | 4,_=>rfl
 | 5,_=>rfl
 | 6,_=>rfl
 | 7,_=>rfl
 | 8,_=>rfl
 | 9,_=>rfl
 | 10,_=>rfl
 | 11,_=>rfl
 | 12,_=>rfl
theorem aa2 (s:ByteArray):au Tryz.prog G 171 [MH,ds s] (db (EX s)):=
 (f171 VU s (by decide)).args fun _=>DV.jJ (fun _ h=>DV.gK OC h) (DV.jJ (fun _ h=>h) (fun _ h=>h))
theorem abf (s:ByteArray):au Tryz.prog G 148 [MH,ds s] (db (EX s)):=
 (f148 VU s (by decide)).args fun _=>DV.jJ (fun _ h=>DV.gK OC h) (DV.jJ (fun _ h=>h) (fun _ h=>h))
theorem name_eq (s:ByteArray):nameB s=(!decide (s.size=0)&&decide ((s.size:Int)≤16)&&lV (byteAt s (Int.toNat 0))&&(runN s:Int)==(s.size:Int)&&!EX s):=by
 unfold nameB
 have e1:decide (1≤s.size) = !decide (s.size=0):=by
  by_cases h:s.size=0
  ·simp[h]
  ·simp[h];omega
 have e2:decide (s.size≤16)=decide ((s.size:Int)≤16):=by rw[decide_eq_decide];omega
 have e3:decide (runN s=s.size)=((runN s:Int)==(s.size:Int)):=by
  by_cases h:runN s=s.size
  ·rw[h];simp
  ·rw[decide_eq_false h]
   symm
   rw[beq_eq_false_iff_ne]
   omega
 rw[e1,e2,e3]
 simp only[Bool.and_assoc];rfl
theorem f141 (s:ByteArray) (hs:s.size≤1000000):au Tryz.prog G 141 [ds s] (db (nameB s)):=by
 refine au.walk (aj:=nP) (keep:=[]) follows Tryz.func141 rfl Tryz.call141 ?_
 refine aJ (fun _ _ _ ZK=>(fun Za Zb=>((((Zb=true)→(((0:Int)≤(0:Int))∧(0<(↑s.size:Int))))∧((Zb=true)→ZK 168 [(.con (.int .u8 (byteAt s (Int.toNat 0))))] (db (lV (byteAt s (Int.toNat 0)))))∧(((!s.toList==(ByteArray.mk #[]).toList&&decide ((↑s.size:Int)≤16)&&lV (byteAt s (Int.toNat 0)))=true)→ZK 169 [(ds s),(.con (.func (.func 170) ⟨[]⟩ ⟨[]⟩))] (di (↑(runN s))))∧((Za=true)→ZK 172 [] (.slc 1 13 Qi))∧((Za=true)→ZK 171 [(.slc 1 13 Qi),(ds s)] (db (EX s))))∧((db (!s.toList==(ByteArray.mk #[]).toList&&decide ((↑s.size:Int)≤16)&&lV (byteAt s (Int.toNat 0))&&(↑(runN s):Int)==↑s.size&&!EX s)):DV)=(db (nameB s)))) (!s.toList==(ByteArray.mk #[]).toList&&decide ((↑s.size:Int)≤16)&&lV (byteAt s (Int.toNat 0))&&(↑(runN s):Int)==↑s.size) (!s.toList==(ByteArray.mk #[]).toList&&decide ((↑s.size:Int)≤16))) (by kernel_rfl) ?_
 try dsimp only
 simp only[Bo]
 refine⟨⟨fun h=>?_,fun _=>f168 _,fun _=>f169 s hs,fun _=>f172,fun _=>aa2 s⟩,?_⟩
 ·simp only[aV,Bool.not_eq_true',decide_eq_false_iff_not] at h
  exact⟨by omega,by omega⟩
 ·rw[name_eq]
noncomputable def adf (s:ByteArray) (k:Nat):AS:=⟨regs Tryz.f122.ntmps [(0,vs s),(3,vi k)],[]⟩
theorem f122 (s:ByteArray) (hs:s.size≤1000000):au Tryz.prog G 122 [ds s] (db (nameB s)):=by
 refine au.walk (aj:=nP) (keep:=[]) follows Tryz.func122 rfl Tryz.call122 ?_
 refine aJ (fun ZT ZW ZQ ZK=>(fun Za Zb=>(((((!s.toList==(ByteArray.mk #[]).toList)=true)→(((0:Int)≤(0:Int))∧(0<(↑s.size:Int))))∧(((!s.toList==(ByteArray.mk #[]).toList)=true)→ZK 147 [(.con (.int .u8 (byteAt s (Int.toNat 0))))] (db (lV (byteAt s (Int.toNat 0)))))∧((Zb=true)→ZK 149 [] (.slc 1 13 Qi))∧((Zb=true)→ZK 148 [(.slc 1 13 Qi),(ds s)] (db (EX s))))∧((Za=true)→(((db false):DV)=(db (nameB s))))∧((Za=false)→ZW [cd Tryz.f122 [1,1,0,1,0],(.blk 0),cd Tryz.f122 [1,1,1]] (aI ZT [1]) ZQ))) (s.toList==(ByteArray.mk #[]).toList||!lV (byteAt s (Int.toNat 0))||decide ((↑s.size:Int)>16)||EX s) (!(s.toList==(ByteArray.mk #[]).toList||!lV (byteAt s (Int.toNat 0))||decide ((↑s.size:Int)>16)))) (by kernel_rfl) ?_
 try dsimp only
 simp only[Bo]
 refine⟨⟨fun h=>?_,fun _=>f147 _,fun _=>f149,fun _=>abf s⟩,fun h=>?_,fun h=>?_⟩
 ·simp only[Bool.not_eq_true',decide_eq_false_iff_not] at h
  exact⟨by omega,by omega⟩
 ·have:nameB s=false:=by
   rw[name_eq]
   by_cases h0:s.size=0
   ·simp[h0]
   ·cases h1:lV (byteAt s (Int.toNat 0)) with
    | false=>simp
    | true=>
     cases h2:EX s with
     | true=>simp
     | false=>
      rw[h1,h2] at h
      simp[h0] at h
      have:decide ((s.size:Int)≤16)=false:=by rw[decide_eq_false_iff_not];omega
      rw[this];simp
  rw[this]
 ·simp only[Bool.or_eq_false_iff,decide_eq_false_iff_not,Bool.not_eq_false',gt_iff_lt] at h
  obtain ⟨⟨⟨h1,h2⟩,h3⟩,h4⟩:=h
  have hn:nameB s=decide (runN s=s.size):=by
   unfold nameB
   have e1:decide (1≤s.size)=true:=by rw[eF];omega
   have e2:decide (s.size≤16)=true:=by rw[eF];omega
   have h2':lV (byteAt s 0)=true:=h2
   rw[e1,e2,h2',h4];simp
  refine bK.loop (c:=aU (ak Tryz.f122) [1,1,0,1,0,0]) (by kernel_rfl) (adf s) (fun k=>k≤s.size∧∀i,i<k→qw (byteAt s i)=true) (fun k=>s.size-k) 0 ?_ ⟨Nat.zero_le _,fun i hi=>by omega⟩ ?_
  ·exact AS.bJ (by kernel_rfl)
  ·rintro k ⟨hk,hkd⟩
   refine walk (aj:=nP) (keep:=[]) (cuts:=[]) (n:=1000) follows ?_
   refine bD (fun ZT ZW ZQ ZK ZA _=>((((decide ((↑k:Int)<↑s.size))=true)→((((0≤(↑k:Int))∧((↑k:Int)<↑s.size))∧ZK 150 [(.con (.int .u8 (byteAt s (↑k:Int).toNat)))] (db (qw (byteAt s (↑k:Int).toNat))))∧(((!qw (byteAt s (↑k:Int).toNat))=true)→(((db false):DV)=(db (nameB s))))∧(((!qw (byteAt s (↑k:Int).toNat))=false)→((I64 (↑k+1))∧(ZA (aI ZT [0,1]))))))∧(((decide ((↑k:Int)<↑s.size))=false)→ZW [cd Tryz.f122 [1,1,1]] (aI ZT [1]) ZQ))) (by kernel_rfl) ?_
   simp only[gZ]
   refine⟨fun h=>?_,fun h=>?_⟩
   ·simp only[eF] at h
    refine⟨⟨⟨by omega,by omega⟩,f150 _⟩,fun h5=>?_,fun h5=>⟨⟨by omega,by omega⟩,Again.mk (k+1) ?_ ⟨by omega,fun i hi=>?_⟩ (by omega)⟩⟩
    ·simp only[Bool.not_eq_true'] at h5
     have hst:runN s=k:=Aq hk hkd fun _=>h5
     rw[hn,decide_eq_false (by omega)]
    ·exact AS.bJ (by kernel_rfl)
    ·rcases Nat.lt_or_ge i k with h1|h1
     ·exact hkd i h1
     ·obtain rfl:i=k:=by omega
      simpa using h5
   ·simp only[decide_eq_false_iff_not] at h
    have hst:runN s=k:=Aq hk hkd fun h1=>by omega
    refine walk (aj:=nP) (keep:=[]) (cuts:=[]) (n:=1000) follows ?_
    refine aJ (fun _ _ _ _=>(((db true):DV)=(db (nameB s)))) (by kernel_rfl) ?_
    rw[hn,decide_eq_true (by omega)]
def fD (l:List UInt8) (i:Nat):DV:=.con (.int .u8 (((l[i]?).getD 0).toNat:Int))
def Cc:AV:=.d (.con (.pointer none))
def IX:DV:=.aC []
theorem aN.result {F:Fr} {w0:World} {h0:IH} {st:AS} {β:Nat→Nat} {h:IH} {tm:Array Value} {w:World} (g:aN G F w0 h0 st β h tm w) {r:AV} {v:Value} (hr:r.rel β h v):aN G F w0 h0 ⟨[r],st.boxes⟩ β h #[v] w:=
 ⟨g.glob,g.holds,g.ext,g.old,g.kept,g.fix,rfl,fun t x hx=>by
  cases t with
  | zero=>simp at hx;subst hx;exact⟨v,rfl,hr⟩
  | succ t=>simp at hx,g.box,g.inj⟩
theorem PO (h:IH):IX.rel h (.tuple #[]):=⟨[],rfl,rfl⟩
theorem arg1 {F:Fr} {w0:World} {h0:IH} {x:AV} {bx:List (Nat×List AV)} {β:Nat→Nat} {h:IH} {us:Array Value} {w:World} (g:aN G F w0 h0 ⟨[x],bx⟩ β h us w):∃v,us=#[v]∧x.rel β h v:=by
 have hs:us.size=1:=g.size
 obtain ⟨v,hv,hr⟩:=g.regs 0 x rfl
 refine⟨v,?_,hr⟩
 apply Array.ext
 ·simpa using hs
 ·intro i h1 h2
  have:i=0:=by simp at h2;omega
  subst this
  have:=(Array.getElem?_eq_some_iff.1 hv).2
  simpa using this
theorem zM (s:Nat) (l:List AV) (r:List (Nat×List AV)):Go.Ab.look ((s,l) :: r) s=some l:=by simp[Go.Ab.look]
theorem abH:(Tryz.prog.info? 124).map (·.size)=some 2:=by kernel_rfl
theorem i146:∃j,Tryz.prog.info? 124=some j∧j.size=2:=Option.map_eq_some_iff.1 abH
theorem Yl:liesAt Tryz.prog Tryz.prog.depth 124 (2 / Tryz.prog.cellsOf 124) 0 124 1=true:=by kernel_rfl
theorem J6 (b:Nat) (w:World) (h0:w.cell? ⟨b,0,none⟩=some (.pointer (some ⟨b,0,none⟩))) :
  Calls Tryz.prog 110 #[.pointer (some ⟨b,0,none⟩)] w fun e w'=>e=.returned (.tuple #[])∧w'=w:=by
 obtain ⟨j,hj,hjs⟩:=i146
 go_enter Tryz.func110,Tryz.ntmps110
 go_wp2
 rw[Lib.run_neq_ptr_same w _ Tryz.underlying121 hj]
 go_wp2
 go_end0
 exact⟨rfl,rfl⟩
theorem IU (b:Nat) (w:World) (h0:w.cell? ⟨b,0,none⟩=some (.pointer none)) (hsh:w.shape? b=some (124,2)) (hfz:w.frozen? ⟨b,0,none⟩=false) :
  Calls Tryz.prog 110 #[.pointer (some ⟨b,0,none⟩)] w fun e w'=>e=.returned (.tuple #[])∧w'=w.setCell ⟨b,0,none⟩ (.pointer (some ⟨b,0,none⟩)):=by
 obtain ⟨j,hj,hjs⟩:=i146
 go_enter Tryz.func110,Tryz.ntmps110
 go_wp2
 rw[Lib.run_to_unsafe w ⟨b,0,none⟩ Tryz.underlying121 Tryz.underlying156 hj (by rw[hjs];decide) hsh (Nat.zero_lt_succ 1)]
 simp only[Result.andThen]
 rw[Oper.upon_value]
 go_wp2
 rw[run_callFunc_extern Tryz.func131 (by kernel_rfl) (by kernel_rfl) (by kernel_rfl) (e:=Extern.AbiNoEscape.same) (by kernel_rfl)]
 rw[Lib.run_noEscape]
 simp only[Result.andThen]
 rw[Oper.upon_value]
 go_wp2
 rw[Lib.run_from_unsafe w ⟨b,0,none⟩ Tryz.underlying156 Tryz.underlying121 hj hsh Yl]
 simp only[Result.andThen]
 rw[Oper.upon_value]
 go_wp2
 go_end0
 exact⟨rfl,rfl⟩
theorem KE (b g cap n:Nat) (T:TypeId) (p:Value) (vs:Array Value) (fz:Nat×Nat) (l:List UInt8) (h0:l≠[]) (hn:n=l.length) (w:World) (hbk:w.heap[b]?=some (.cells #[p,.slice (some ⟨g,0,none⟩) n cap] T (0,0)))
  (hg:w.heap[g]?=some (.cells vs 5 fz)) (hcap:n≤cap) (hsz:n≤vs.size) (h63:n≤9223372036854775807) (hvs:∀(j:Nat) (x:UInt8),l[j]?=some x→vs[j]?=some (Value.int .u8 x.toNat)) :
  Calls Tryz.prog 92 #[.pointer (some ⟨b,0,none⟩)] w fun e w'=>e=.returned (.string ⟨l.toArray⟩)∧w'=w.drew.freeze ⟨g,0,none⟩ n:=by
 subst hn
 have hl0:l.length≠0:=by simpa using h0
 have c1:w.drew.cell? ⟨b,1,none⟩=some (.slice (some ⟨g,0,none⟩) l.length cap):=by
  have:w.drew.heap[b]?=some (.cells #[p,.slice (some ⟨g,0,none⟩) l.length cap] T (0,0)):=hbk
  rw[Lib.cell_of_heap this];rfl
 have hSD:(Builtin.unsafeSliceData_ #[122] 138 #[.slice (some ⟨g,0,none⟩) l.length cap]).run Tryz.prog w.drew=.ok (.pointer (some ⟨g,0,none⟩)) w.drew:=
  Lib.run_unsafeSliceData_row _ _ _ _ _ _ (by omega)
 have hUS:(Builtin.unsafeString_ #[138,3] 9 #[.pointer (some ⟨g,0,none⟩),.int .i64 l.length]).run Tryz.prog w.drew=.ok (.string ⟨l.toArray⟩) (w.drew.freeze ⟨g,0,none⟩ l.length):=by
  refine Lib.run_unsafeString_row w.drew 138 3 9 5 Tryz.underlying138 (by kernel_rfl) g vs.size (by have hg':w.drew.heap[g]?=some (.cells vs 5 fz):=hg;simp[World.shape?,hg']) l h0 hsz h63 ?_
  intro j x hx
  have hg':w.drew.heap[g]?=some (.cells vs 5 fz):=hg
  have:(⟨g,0,none⟩:Addr).add j=⟨g,j,none⟩:=by rw[kW];simp
  rw[this]
  simp only[World.cell?,hg']
  exact hvs j x hx
 have mixed:=follows
 go_enter Tryz.func92,Tryz.ntmps92
 go_wp2
 go_region_o
 all_goals (go_wp2;go_ret;exact⟨rfl,rfl⟩)
theorem Ee (b:Nat) (T:TypeId) (p:Value) (w:World) (hbk:w.heap[b]?=some (.cells #[p,.slice none 0 0] T (0,0))) :
  Calls Tryz.prog 92 #[.pointer (some ⟨b,0,none⟩)] w fun e w'=>e=.returned (.string ⟨#[]⟩)∧w'=w.drew:=by
 have c1:w.drew.cell? ⟨b,1,none⟩=some (.slice none 0 0):=by
  have:w.drew.heap[b]?=some (.cells #[p,.slice none 0 0] T (0,0)):=hbk
  rw[Lib.cell_of_heap this];rfl
 have hSD:(Builtin.unsafeSliceData_ #[122] 138 #[.slice none 0 0]).run Tryz.prog w.drew=.ok (.pointer none) w.drew:=rfl
 have hUS:(Builtin.unsafeString_ #[138,3] 9 #[.pointer none,.int .i64 0]).run Tryz.prog w.drew=.ok (.string .empty) w.drew:=Lib.run_unsafeString_none w.drew _ _ _ none
 have mixed:=follows
 go_enter Tryz.func92,Tryz.ntmps92
 go_wp2
 go_region_o
 all_goals (go_wp2;go_ret;exact⟨rfl,rfl⟩)
theorem TP (x:AV) (rest:List (Nat×List AV)):dV Tryz.prog G 110 [.tb 1000000 0 124] ((1000000,[Cc,x]) :: rest) (.d IX) ((1000000,[.box 1000000 0,x]) :: rest):=by
 refine⟨Tryz.call110,fun F w h β us g=>?_⟩
 obtain ⟨v,rfl,hv,hT⟩:=arg1 g
 subst hv
 have hb:(⟨[.tb 1000000 0 124],(1000000,[Cc,x]) :: rest⟩:AS).box 1000000=some [Cc,x]:=zM ..
 have hp:bZ [Cc,x]=true:=by
  cases x<;>rfl
 obtain ⟨_,_,_,T,vs,hh,hr⟩:=g.Am hb hp
 obtain ⟨v0,vs',rfl,h0,v1,vs'',rfl,h1,h2⟩:=hr
 simp only[AV.aB] at h2;subst h2
 simp only[Cc,AV.rel,DV.rel] at h0;subst h0
 have hTT:T.1=124:=T.2.trans hT
 rw[hTT] at hh
 have c0:w.cell? ⟨blk β 1000000,0,none⟩=some (.pointer none):=by simp[World.cell?,hh]
 refine(IU (blk β 1000000) w c0 (by simp[World.shape?,hh]) (by simp[World.frozen?,hh])).mono ?_
 rintro e w' ⟨rfl,rfl⟩
 have g2:=g.store (s:=1000000) (i:=0) (x:=.box 1000000 0) (v:=.pointer (some ⟨blk β 1000000,0,none⟩)) ⟨_,hb,hp⟩ rfl
 have hset:setCells 1000000 0 (.box 1000000 0) ((1000000,[Cc,x]) :: rest)=(1000000,[.box 1000000 0,x]) :: rest:=by simp[setCells]
 rw[hset] at g2
 exact⟨_,β,h,rfl,aN.result g2 (PO h)⟩
theorem Vs (y x:AV) (hy:∀β h v,y.rel β h v→v=.pointer (some ⟨blk β 1000000,0,none⟩)) (rest:List (Nat×List AV)):dV Tryz.prog G 110 [y] ((1000000,[.box 1000000 0,x]) :: rest) (.d IX) ((1000000,[.box 1000000 0,x]) :: rest):=by
 refine⟨Tryz.call110,fun F w h β us g=>?_⟩
 obtain ⟨v,rfl,hv⟩:=arg1 g
 have hv:=hy _ _ _ hv
 subst hv
 have hb:(⟨[y],(1000000,[.box 1000000 0,x]) :: rest⟩:AS).box 1000000=some [.box 1000000 0,x]:=zM ..
 have hp:bZ [.box 1000000 0,x]=true:=by
  cases x<;>rfl
 obtain ⟨_,_,_,T,vs,hh,hr⟩:=g.Am hb hp
 obtain ⟨v0,vs',rfl,h0,v1,vs'',rfl,h1,h2⟩:=hr
 simp only[AV.aB] at h2;subst h2
 simp only[AV.rel] at h0;subst h0
 have c0:w.cell? ⟨blk β 1000000,0,none⟩=some (.pointer (some ⟨blk β 1000000,0,none⟩)):=by simp[World.cell?,hh]
 refine(J6 (blk β 1000000) w c0).mono ?_
 rintro e w' ⟨rfl,rfl⟩
 exact⟨_,β,h,rfl,aN.result g (PO h)⟩
abbrev ND:RK:=⟨false,5,true,none⟩
theorem Ld {g n:Nat} {w:World}:vF g w (w.freeze ⟨g,0,none⟩ n):=by
 unfold World.freeze
 split
 ·exact⟨rfl,rfl,rfl,rfl,fun _ _=>rfl⟩
 ·refine⟨rfl,rfl,rfl,by simp,fun k hk=>?_⟩
  simp only[Array.getElem?_modify]
  rw[if_neg (Ne.symm hk)]
theorem QD {g n:Nat} {w:World} {vs:Array Value} {T:TypeId} {fr:Nat×Nat} (h:w.heap[g]?=some (.cells vs T fr)):∃fr',(w.freeze ⟨g,0,none⟩ n).heap[g]?=some (.cells vs T fr'):=by
 unfold World.freeze
 split
 ·exact⟨fr,h⟩
 ·simp only[Array.getElem?_modify,if_true,h]
  exact⟨_,rfl⟩
theorem dA.frozen {h:IH} {k:RK} {sz c m:Nat} {f:Nat→DV} {o o':Option Obj} (hR:dA h k sz f c m o) (ho:∀(vs:Array Value) (fr:Nat×Nat),o=some (.cells vs k.ty fr)→∃fr',o'=some (.cells vs k.ty fr')):dA h ⟨k.agg,k.ty,true,k.mn⟩ sz f c m o':=by
 obtain ⟨h1,h2⟩:=hR
 refine⟨h1,h2.imp id ?_⟩
 rintro ⟨fr,vs,e,hf,hl,hone,r⟩
 obtain ⟨fr',e'⟩:=ho _ _ e
 exact⟨fr',vs,e',fun hh=>Bool.noConfusion hh,hl,hone,r⟩
theorem f92 (y A:AV) (hy:∀β h v,y.rel β h v→v=.pointer (some ⟨blk β 1000000,0,none⟩)) (fz:Bool) (l:List UInt8) (h0:l≠[]) (hl:l.length≤4611686018427387904) :
  dV Tryz.prog G 92 [y] [(1000000,[A,.vec 1000001 1 0 l.length]),(1000001,[.arr ⟨false,5,fz,none⟩ 1 (fD l)])] (.d (ds (bs l))) [(1000000,[A,.vec 1000001 1 0 l.length]),(1000001,[.arr ND 1 (fD l)])]:=by
 refine⟨Tryz.call92,fun F w h β us g=>?_⟩
 obtain ⟨v,rfl,hv⟩:=arg1 g
 have hv:=hy _ _ _ hv
 subst hv
 have hb:(⟨[y],[(1000000,[A,.vec 1000001 1 0 l.length]),(1000001,[.arr ⟨false,5,fz,none⟩ 1 (fD l)])]⟩:AS).box 1000000=some [A,.vec 1000001 1 0 l.length]:=zM ..
 have hb1:(⟨[y],[(1000000,[A,.vec 1000001 1 0 l.length]),(1000001,[.arr ⟨false,5,fz,none⟩ 1 (fD l)])]⟩:AS).box 1000001=some [.arr ⟨false,5,fz,none⟩ 1 (fD l)]:=by
  simp only[AS.box,Go.Ab.look];rfl
 have hp:bZ [A,.vec 1000001 1 0 l.length]=true:=by
  cases A<;>rfl
 obtain ⟨_,_,_,T,vs,hh,hr⟩:=g.Am hb hp
 obtain ⟨v0,vs',rfl,hA,v1,vs'',rfl,⟨k1,k2,p,hv1,hpp⟩,h2⟩:=hr
 simp only[AV.aB] at h2;subst h2
 subst hv1
 have hpos:0<l.length:=List.length_pos_iff.2 h0
 have hR:=(g.box _ _ hb1).2
 simp only[Own] at hR
 obtain ⟨r1,r2⟩:=hR
 rcases r2 with r2|⟨fr,us,hu,hfr,Eu,hone,hel⟩
 ·omega
 have hp':p=some ⟨blk β 1000001,0,none⟩:=by
  rcases hpp with hpp|hpp
  ·simpa using hpp
  ·omega
 subst hp'
 have hRow:dA h ⟨false,5,fz,none⟩ 1 (fD l) (room β 1000001) (many β 1000001) w.heap[blk β 1000001]?:=⟨r1,.inr ⟨fr,us,hu,hfr,Eu,hone,hel⟩⟩
 have hcap:l.length≤room β 1000001:=by omega
 refine(KE (blk β 1000000) (blk β 1000001) (room β 1000001-0) l.length T.1 v0 us.toArray fr l h0 rfl w hh hu (by omega) (by simp[Eu];omega) (by omega) ?_).mono ?_
 ·intro j x hx
  have hj:j<l.length:=(List.getElem?_eq_some_iff.1 hx).1
  obtain ⟨v,a1,a2,a3,a4⟩:=hel j (by omega)
  simp only[fD,hx,Option.getD_some,DV.rel] at a1
  subst a1
  have:=a4 0 (by omega)
  simp only[Nat.mul_one,Nat.add_zero,Value.cells] at this
  simpa using this
 ·rintro e w' ⟨rfl,rfl⟩
  have gd:=g.drew (w.drawn+1)
  have hlive:Live β 1000001 [.arr ⟨false,5,fz,none⟩ 1 (fD l)]:=show 0<room β 1000001 by omega
  have g2:=gd.write (s:=1000001) (l:=[.arr ⟨false,5,fz,none⟩ 1 (fD l)]) (l':=[.arr ND 1 (fD l)]) (w':=w.drew.freeze ⟨blk β 1000001,0,none⟩ l.length)
   (bx:=[(1000000,[A,.vec 1000001 1 0 l.length]),(1000001,[.arr ND 1 (fD l)])]) hb1 hlive Ld (by
    simp only[Own]
    refine dA.frozen (k:=⟨false,5,fz,none⟩) hRow fun vs fr' he=>?_
    exact QD (w:=w.drew) he) (by
    intro t m ht
    simp only[Go.Ab.look] at ht
    by_cases h1:(1000000:Nat)=t
    ·subst h1
     simp at ht
     subst ht
     exact .inr ⟨by decide,rfl⟩
    ·rw[aP h1,cond_false] at ht
     by_cases h2:(1000001:Nat)=t
     ·subst h2
      simp at ht
      subst ht
      exact .inl ⟨rfl,rfl⟩
     ·rw[aP h2,cond_false] at ht
      cases ht)
  exact⟨_,β,h,rfl,aN.result g2 (r:=.d (ds (bs l))) rfl⟩
theorem adp (y A:AV) (hy:∀β h v,y.rel β h v→v=.pointer (some ⟨blk β 1000000,0,none⟩)) :
  dV Tryz.prog G 92 [y] [(1000000,[A,.d (.con (.slice none 0 0))])] (.d (ds (bs []))) [(1000000,[A,.d (.con (.slice none 0 0))])]:=by
 refine⟨Tryz.call92,fun F w h β us g=>?_⟩
 obtain ⟨v,rfl,hv⟩:=arg1 g
 have hv:=hy _ _ _ hv
 subst hv
 have hb:(⟨[y],[(1000000,[A,.d (.con (.slice none 0 0))])]⟩:AS).box 1000000=some [A,.d (.con (.slice none 0 0))]:=zM ..
 have hp:bZ [A,.d (.con (.slice none 0 0))]=true:=by
  cases A<;>rfl
 obtain ⟨_,_,_,T,vs,hh,hr⟩:=g.Am hb hp
 obtain ⟨v0,vs',rfl,hA,v1,vs'',rfl,h1,h2⟩:=hr
 simp only[AV.aB] at h2;subst h2
 simp only[AV.rel,DV.rel] at h1;subst h1
 refine(Ee (blk β 1000000) T.1 v0 w hh).mono ?_
 rintro e w' ⟨rfl,rfl⟩
 exact⟨_,β,h,rfl,aN.result (g.drew (w.drawn+1)) (r:=.d (ds (bs []))) rfl⟩
abbrev F8:RK:=⟨false,5,false,none⟩
def X3:eU:={ d:=fun _ _=>none,m:=fun f _ pre=>match f,pre with
 | 110,(u,[.d (.con (.pointer none)),x]) :: rest=>some (.d IX,(u,[.box u 0,x]) :: rest)
 | 110,(u,[.box v 0,x]) :: rest=>some (.d IX,(u,[.box v 0,x]) :: rest)
 | _,_=>none }
theorem QO (s:ByteArray):uw s=fD s.data.toList:=by
 funext i
 simp only[uw,fD,byteAt,Array.getElem?_toList]
theorem VI (l m:List UInt8):(fun i=>bif Nat.blt i l.length then fD l i else fD m (i-l.length))=fD (l++m):=by
 funext i
 cases h:Nat.blt i l.length with
 | true=>
  rw[Nat.blt_eq] at h
  simp only[cond_true,fD,List.getElem?_append_left h]
 | false=>
  have h:¬i<l.length:=by rw[←Nat.blt_eq,h];decide
  simp only[cond_false,fD,List.getElem?_append_right (Nat.le_of_not_lt h)]
theorem Vg (s:ByteArray) (hs:s.size≤281474976710):dV Tryz.prog G 91 [.tb 1000000 0 124,vs s] [(1000000,[Cc,.d (.con (.slice none 0 0))])] (.d (.aC [di s.size,.con .nilIface]))
  [(1000000,[.box 1000000 0,.vec 14 1 0 s.data.toList.length]),(14,[.arr F8 1 (fD s.data.toList)])]:=by
 refine dV.walk (aj:=X3) (keep:=[]) [] follows (by kernel_rfl) Tryz.func91 rfl Tryz.call91 ?_
 refine aJ (fun _ _ _ _=>(dV Tryz.prog G 110 [(.tb 1000000 0 124)] [(1000000,[(.d (.con (.pointer none))),(.d (.con (.slice none 0 0)))])] (.d (.aC [])) [(1000000,[(.box 1000000 0),(.d (.con (.slice none 0 0)))])]∧((s.size*1≤1099511627776)∧(s.size≤1099511627776))∧(ZS ((.d (.aC [(di (↑s.size)),(.con .nilIface)])):AV))∧((some [(.box 1000000 0),(.vec 14 1 0 s.size)]):(Option (List AV)))=(some [(.box 1000000 0),(.vec 14 1 0 s.data.toList.length)])∧((some [(.arr ⟨false,5,false,none⟩ 1 (uw s))]):(Option (List AV)))=(some [(.arr ⟨false,5,false,none⟩ 1 (fD s.data.toList))])∧True)) (by kernel_rfl) ?_
 refine⟨TP _ _,⟨by omega,by omega⟩,rfl,?_,?_,trivial⟩
 ·rw[dZ]
 ·rw[QO]
theorem Wx (s:ByteArray) (l:List UInt8) (hs:l.length+s.size≤281474976710):dV Tryz.prog G 91 [.tb 1000000 0 124,vs s] [(1000000,[.box 1000000 0,.vec 1000001 1 0 l.length]),(1000001,[.arr F8 1 (fD l)])] (.d (.aC [di s.size,.con .nilIface]))
  [(1000000,[.box 1000000 0,.vec 14 1 0 (l++s.data.toList).length]),(14,[.arr F8 1 (fD (l++s.data.toList))])]:=by
 refine dV.walk (aj:=X3) (keep:=[]) [] follows (by kernel_rfl) Tryz.func91 rfl Tryz.call91 ?_
 refine aJ (fun _ _ _ _=>(dV Tryz.prog G 110 [(.tb 1000000 0 124)] [(1000000,[(.box 1000000 0),(.vec 1000001 1 0 l.length)]),(1000001,[(.arr ⟨false,5,false,none⟩ 1 (fD l))])] (.d (.aC [])) [(1000000,[(.box 1000000 0),(.vec 1000001 1 0 l.length)]),(1000001,[(.arr ⟨false,5,false,none⟩ 1 (fD l))])]∧(((l.length+s.size)*1≤1099511627776)∧(l.length+s.size≤1099511627776))∧(ZS ((.d (.aC [(di (↑s.size)),(.con .nilIface)])):AV))∧((some [(.box 1000000 0),(.vec 14 1 0 (l.length+s.size))]):(Option (List AV)))=(some [(.box 1000000 0),(.vec 14 1 0 (l++s.data.toList).length)])∧((some [(.arr ⟨false,5,false,none⟩ 1 (fun i=>bif i.blt l.length then fD l i else uw s (i-l.length)))]):(Option (List AV)))=(some [(.arr ⟨false,5,false,none⟩ 1 (fD (l++s.data.toList)))])∧True)) (by kernel_rfl) ?_
 refine⟨Vs (.tb 1000000 0 124) _ (fun β h v hv=>hv.1) _,⟨by omega,by omega⟩,rfl,?_,?_,trivial⟩
 ·rw[List.length_append,dZ]
 ·rw[QO,VI]
end Go.Proofs
namespace Go.Proofs
open Go Go.Ab
def dn (f:ByteArray):List UInt8:=Lib.itoa (f.size:Int)++[58]++f.data.toList
def aT:List ByteArray→List UInt8
 | []=>[]
 | f :: l=>dn f++aT l
theorem wG (l m:List ByteArray):aT (l++m)=aT l++aT m:=by
 induction l with
 | nil=>rfl
 | cons f l ih=>simp only[List.cons_append,aT,ih,List.append_assoc]
def jq (l:List ByteArray):Bool:=decide (l.length>4096)||decide ((aT l).length>30000)
def fV (l:List ByteArray):ByteArray:=bif jq l then ByteArray.empty else bs (aT l)
def fU (l:List ByteArray):Int:=bif jq l then 8 else 0
def rQ (l:List ByteArray):Prop:=l.length≤100000∧∀f∈l,f.size≤100000
def bn (l:List ByteArray) (i:Nat):ByteArray:=l.getD i ByteArray.empty
theorem tN {l:List ByteArray} {i:Nat} (h:i<l.length):bn l i=l[i]:=by
 simp[bn,h]
theorem jS {l:List ByteArray} {i:Nat} (h:i<l.length):aT (l.take (i+1))=aT (l.take i)++dn (bn l i):=by
 rw[List.take_succ_eq_append_getElem h,wG,tN h]
 simp[aT]
theorem jf (f:ByteArray):(dn f).length=(Lib.itoa (f.size:Int)).length+1+f.size:=by
 unfold dn
 rw[List.length_append,List.length_append,dZ];rfl
theorem iR (n:Int) (h:I64 n):(Lib.itoa n).length≤21:=Lib.itoa_length_le n h.1 h.2
theorem rQ.at {l:List ByteArray} (hl:rQ l) {i:Nat} (h:i<l.length):(bn l i).size≤100000:=by
 rw[tN h];exact hl.2 _ (List.getElem_mem h)
theorem rQ.len {l:List ByteArray} (hl:rQ l):∀i,i≤l.length→(aT (l.take i)).length≤i*100022
 | 0,_=>by simp[aT]
 | i+1,h=>by
  have:=rQ.len hl i (by omega)
  have h1:=hl.at (i:=i) (by omega)
  have h2:=iR ((bn l i).size:Int) ⟨by omega,by omega⟩
  rw[jS (by omega),List.length_append,jf]
  omega
end Go.Proofs
namespace Go.Proofs
open Go.Shelf
def Tryz.laysM171_ren:Go.Shelf.Ren:=⟨fun|171=>67|243=>94|246=>111|283=>132|284=>133|285=>134|286=>135|129=>157|317=>156|318=>158|319=>159|320=>160|337=>184|338=>185|n=>n,fun|3=>3|9=>9|2=>2|4=>4|171=>158|0=>0|53=>159|37=>122|5=>5|173=>162|212=>185|51=>186|20=>20|213=>187|46=>167|232=>209|233=>210|n=>n,fun|17=>2|18=>4|19=>5|n=>n⟩
theorem Tryz.laysM171:Go.Proofs.LaysM.n171 Tryz.prog Tryz.laysM171_ren:={
 mixed:=by kernel_rfl
 f129:=Tryz.func157.trans (congrArg some (by kernel_rfl))
 f171:=Tryz.func67.trans (congrArg some (by kernel_rfl))
 f243:=Tryz.func94.trans (congrArg some (by kernel_rfl))
 f246:=Tryz.func111.trans (congrArg some (by kernel_rfl))
 f283:=Tryz.func132.trans (congrArg some (by kernel_rfl))
 f284:=Tryz.func133.trans (congrArg some (by kernel_rfl))
 f285:=Tryz.func134.trans (congrArg some (by kernel_rfl))
 f286:=Tryz.func135.trans (congrArg some (by kernel_rfl))
 f317:=Tryz.func156.trans (congrArg some (by kernel_rfl))
 f318:=Tryz.func158.trans (congrArg some (by kernel_rfl))
 f319:=Tryz.func159.trans (congrArg some (by kernel_rfl))
 f320:=Tryz.func160.trans (congrArg some (by kernel_rfl))
 f337:=Tryz.func184.trans (congrArg some (by kernel_rfl))
 f338:=Tryz.func185.trans (congrArg some (by kernel_rfl))
 t0:=Tryz.underlying0
 a0:=Tryz.isAgg0
 z0:=Tryz.sizeOf0
 v0:=Tryz.zeroValue0
 t2:=Tryz.underlying2
 a2:=Tryz.isAgg2
 z2:=Tryz.sizeOf2
 v2:=Tryz.zeroValue2
 t3:=Tryz.underlying3
 a3:=Tryz.isAgg3
 z3:=Tryz.sizeOf3
 v3:=Tryz.zeroValue3
 t4:=Tryz.underlying4
 a4:=Tryz.isAgg4
 z4:=Tryz.sizeOf4
 v4:=Tryz.zeroValue4
 t5:=Tryz.underlying5
 a5:=Tryz.isAgg5
 z5:=Tryz.sizeOf5
 v5:=Tryz.zeroValue5
 t9:=Tryz.underlying9
 a9:=Tryz.isAgg9
 z9:=Tryz.sizeOf9
 v9:=Tryz.zeroValue9
 t20:=Tryz.underlying20
 a20:=Tryz.isAgg20
 z20:=Tryz.sizeOf20
 v20:=Tryz.zeroValue20
 t37:=Tryz.underlying122
 a37:=Tryz.isAgg122
 z37:=Tryz.sizeOf122
 v37:=Tryz.zeroValue122
 t46:=Tryz.underlying167
 a46:=Tryz.isAgg167
 z46:=Tryz.sizeOf167
 v46:=Tryz.zeroValue167
 t51:=Tryz.underlying186
 a51:=Tryz.isAgg186
 z51:=Tryz.sizeOf186
 v51:=Tryz.zeroValue186
 t53:=Tryz.underlying159
 a53:=Tryz.isAgg159
 z53:=Tryz.sizeOf159
 v53:=Tryz.zeroValue159
 t171:=Tryz.underlying158
 a171:=Tryz.isAgg158
 z171:=Tryz.sizeOf158
 v171:=Tryz.zeroValue158
 t173:=Tryz.underlying162
 a173:=Tryz.isAgg162
 z173:=Tryz.sizeOf162
 v173:=Tryz.zeroValue162
 t212:=Tryz.underlying185
 a212:=Tryz.isAgg185
 z212:=Tryz.sizeOf185
 v212:=Tryz.zeroValue185
 t213:=Tryz.underlying187
 a213:=Tryz.isAgg187
 z213:=Tryz.sizeOf187
 t232:=Tryz.underlying209
 a232:=Tryz.isAgg209
 z232:=Tryz.sizeOf209
 v232:=Tryz.zeroValue209
 t233:=Tryz.underlying210
 a233:=Tryz.isAgg210
 z233:=Tryz.sizeOf210
 v233:=Tryz.zeroValue210
 g17:=by kernel_rfl
 g18:=by kernel_rfl
 g19:=by kernel_rfl
 i0:=by kernel_rfl
 i2:=by kernel_rfl
 i3:=by kernel_rfl
 i4:=by kernel_rfl
 i5:=by kernel_rfl
 i9:=by kernel_rfl
 i20:=by kernel_rfl
 i37:=by kernel_rfl
 i46:=by kernel_rfl
 i51:=by kernel_rfl
 i53:=by kernel_rfl
 i171:=by kernel_rfl
 i173:=by kernel_rfl
 i212:=by kernel_rfl
 i232:=by kernel_rfl
 i233:=by kernel_rfl
 m17:=by kernel_rfl
 m18:=by kernel_rfl
 m19:=by kernel_rfl }
open Go.RowKit Go.Sort Go.Lib in
theorem Tryz.strconv_Itoa (n : Int) (h0 : -9223372036854775808 ≤ n) (h1 : n ≤ 9223372036854775807) (w : World) (htab : Lib.TabIs Tryz.prog w "internal/strconv.uint64pow10" .u64 Lib.pow10Tab) :
  Calls Tryz.prog 67 #[.int .i64 n] w fun e w'=>e=.returned (.string ⟨(Lib.itoa n).toArray⟩)∧∃k os,w'=grow (w.drewN k) os:=Any.strconv_Itoa Tryz.laysM171 n h0 h1 w htab
end Go.Proofs
namespace Go.Proofs
open Go Go.Ab Go.RowKit
variable {G:IH}
def Tab (G : IH) : Prop := ∀ w, G.holds w → Lib.TabIs Tryz.prog w "internal/strconv.uint64pow10" .u64 Lib.pow10Tab
theorem f67 (hT:Tab G) (n:Int) (h:I64 n):au Tryz.prog G 67 [di n] (ds (bs (Lib.itoa n))):=by
 refine au.yY (args:=[.int .i64 n]) (v:=.string (bs (Lib.itoa n))) Tryz.call67 fun w hw=>?_
 refine Calls.mono (Tryz.strconv_Itoa n h.1 h.2 w (hT w hw)) ?_
 rintro e w' ⟨he,k,os,rfl⟩
 exact⟨he,below_grow w k os⟩
theorem WL (hT:Tab G) (n:Nat) (h:n≤1000000):au Tryz.prog G 67 [di n] (ds (bs (Lib.itoa n))):=f67 hT n ⟨by omega,by omega⟩
theorem zx (l:List UInt8):bytesOf l.length (fD l)=l:=by
 unfold bytesOf
 apply List.ext_getElem
 ·simp
 ·intro i h1 h2
  simp[fD,byteOfD,iy h2]
def abE:FuncId→List AV→List (Nat×List AV)→Option (AV×List (Nat×List AV)):=fun f args pre=>match f,args,pre with
 | 91,[_,.d (.con (.string s))],[(b,[.d (.con (.pointer none)),_])]=>some (.d (.aC [di s.size,.con .nilIface]),[(b,[.box b 0,.vec 14 1 0 s.data.toList.length]),(14,[.arr F8 1 (fD s.data.toList)])])
 | 91,[_,.d (.con (.string s))],[(b,[.box _ 0,.vec _ 1 0 n]),(_,[.arr _ 1 F])]=>some (.d (.aC [di s.size,.con .nilIface]),[(b,[.box b 0,.vec 14 1 0 (bytesOf n F++s.data.toList).length]),(14,[.arr F8 1 (fD (bytesOf n F++s.data.toList))])])
 | 92,[_],[(b,[A,.vec r 1 0 n]),(r',[.arr _ 1 F])]=>some (.d (ds (bs (bytesOf n F))),[(b,[A,.vec r 1 0 n]),(r',[.arr ND 1 F])])
 | 92,[_],[(b,[A,.d (.con (.slice none 0 0))])]=>some (.d (ds (bs [])),[(b,[A,.d (.con (.slice none 0 0))])])
 | _,_,_=>none
def aa9:iw:=fun f args=>match f,args with
 | 67,[.con (.int .i64 n)]=>some (ds (bs (Lib.itoa n)))
 | _,_=>none
def BX:eU:={ d:=aa9,ty:=fun T=>Nat.beq T 124,m:=abE }
def nJ (l:List ByteArray) (i:Nat):DV:=ds (bn l i)
abbrev lZ (l:List ByteArray):DV:=.slc 1 l.length (nJ l)
noncomputable def S58 (l:List ByteArray) (i:Nat):AS:=⟨regs Tryz.f58.ntmps [(0,.d (lZ l)),(4,vi (aT (l.take i)).length),(10,.d (lZ l)),(11,vi l.length),(12,vi i)],[]⟩
def acy (t:List UInt8):Nat→List (Nat×List AV)
 | 0=>[(7,[Cc,.d (.con (.slice none 0 0))])]
 | _+1=>[(7,[.box 7 0,.vec 500 1 0 t.length]),(500,[.arr F8 1 (fD t)])]
noncomputable def adw (l:List ByteArray) (i:Nat):AS:=⟨regs Tryz.f58.ntmps [(7,.tb 7 0 124),(34,.d (lZ l)),(35,vi l.length),(36,vi i)],acy (aT (l.take i)) i⟩
theorem f58 (hT:Tab G) (l:List ByteArray) (hl:rQ l):au Tryz.prog G 58 [lZ l] (.aC [ds (fV l),di (fU l)]):=by
 refine au.walk (aj:=BX) (keep:=[]) follows Tryz.func58 rfl Tryz.call58 ?_
 refine aJ (fun ZT ZW ZQ _=>ZW [cd Tryz.f58 [1,1,0,1,0],(.blk 0),cd Tryz.f58 [1,1,1]] (aI ZT []) ZQ) (by kernel_rfl) ?_
 have hll:=hl.1
 refine bK.loop (c:=aU (ak Tryz.f58) [1,1,0,1,0,0]) (by kernel_rfl) (S58 l) (fun i=>i≤l.length) (fun i=>l.length-i) 0 ?_ (Nat.zero_le _) ?_
 ·exact AS.bJ (by kernel_rfl)
 ·intro i hi
  have hlen:=hl.len i hi
  refine walk (aj:=BX) (keep:=[]) (cuts:=[]) (n:=1000) follows ?_
  refine bD (fun ZT ZW ZQ ZK ZA _=>(fun Za=>((((decide ((↑i:Int)<↑l.length))=true)→(((0≤(↑i:Int))∧((↑i:Int)<↑l.length))∧(ZK 67 [(di (↑(bn l (↑i:Int).toNat).size))] (ds Za)∧(I64 (↑Za.size+1))∧(I64 (↑Za.size+1 + ↑(bn l (↑i:Int).toNat).size))∧(I64 (↑(aT (List.take i l)).length+(↑Za.size+1 + ↑(bn l (↑i:Int).toNat).size))))∧(I64 (↑i+1))∧(ZA (aI ZT [0]))))∧(((decide ((↑i:Int)<↑l.length))=false)→ZW [cd Tryz.f58 [1,1,1]] (aI ZT [1]) ZQ))) (bs (Lib.itoa ↑(bn l (↑i:Int).toNat).size))) (by kernel_rfl) ?_
  try dsimp only
  simp only[gZ]
  refine⟨fun h=>?_,fun h=>?_⟩
  ·have hi':i<l.length:=by simpa using h
   have h1:=hl.at hi'
   have h2:=iR ((bn l i).size:Int) ⟨by omega,by omega⟩
   rw[dR]
   refine⟨⟨by omega,by omega⟩,⟨WL hT _ (by omega),⟨by omega,by omega⟩,⟨by omega,by omega⟩,by omega,by omega⟩,⟨by omega,by omega⟩,Again.mk (i+1) ?_ (by omega) (by omega)⟩
   refine AS.leZ [1] [] (b:=((T0∧((vi (↑(aT (List.take i l)).length+(↑(bs (Lib.itoa ↑(bn l (↑i:Int).toNat).size)).size+1 + ↑(bn l (↑i:Int).toNat).size))):AV)=(vi (↑(aT (List.take (i+1) l)).length))∧T0∧T0∧T0∧True)∧True)) (by kernel_rfl) (by kernel_rfl) ?_
   refine⟨⟨rfl,?_,rfl,rfl,rfl,trivial⟩,trivial⟩
   rw[jS hi',List.length_append,jf]
   push_cast;rfl
  ·have:i=l.length:=by simp at h;omega
   subst this
   simp only[List.take_length] at hlen⊢
   refine walk (aj:=BX) (keep:=[]) (cuts:=[]) (n:=1000) follows ?_
   refine aJ (fun ZT ZW ZQ _=>(fun Za=>(((Za=true)→(((.aC [(ds (ByteArray.mk #[])),(di 8)]):DV)=(.aC [(ds (fV l)),(di (fU l))])))∧((Za=false)→ZW [cd Tryz.f58 [1,1,1,1,1,0,1,0],(.blk 2),cd Tryz.f58 [1,1,1,1,1,1]] (aI ZT [1]) ZQ))) (decide ((↑l.length:Int)>4096)||decide ((↑(aT (List.take l.length l)).length:Int)>30000))) (by kernel_rfl) ?_
   refine⟨fun h=>?_,fun h=>?_⟩
   ·have hb:jq l=true:=by
     unfold jq
     simp at h⊢
     omega
    unfold fV fU
    rw[hb];rfl
   have hb:jq l=false:=by
    unfold jq
    simp at h⊢
    omega
   have hbl:(aT l).length≤30000:=by
    simp at h
    omega
   have hR:(DV.aC [ds (fV l),di (fU l)])=.aC [ds (bs (aT l)),di 0]:=by
    unfold fV fU
    rw[hb];rfl
   rw[hR]
   refine bK.loop (c:=aU (ak Tryz.f58) [1,1,1,1,1,0,1,0,0]) (by kernel_rfl) (adw l) (fun i=>i≤l.length) (fun i=>l.length-i) 0 ?_ (Nat.zero_le _) ?_
   ·exact AS.bJ (by kernel_rfl)
   ·intro i hi
    have hpl:∀i,i<l.length→(aT (l.take i)).length+(dn (bn l i)).length≤30000:=by
     intro i hi
     have e:aT l=aT (l.take (i+1))++aT (l.drop (i+1)):=by rw[←wG,List.take_append_drop]
     rw[e,jS hi,List.length_append,List.length_append] at hbl
     omega
    have hfs:∀f:ByteArray,(bs (Lib.itoa (f.size:Int)) ++ { data:=#[58] }++f).size=(dn f).length:=fun f=>by
     rw[QM,QM,dR,jf];rfl
    have aam:∀f:ByteArray,(bs (Lib.itoa (f.size:Int)) ++ { data:=#[58] }).size=(Lib.itoa (f.size:Int)).length+1:=fun f=>by
     rw[QM,dR];rfl
    have hz1:({ data:=#[58] }:ByteArray).size=1:=rfl
    have hy:∀(β:Nat→Nat) (h:IH) (v:Value),(AV.tb 1000000 0 124).rel β h v→v=.pointer (some ⟨blk β 1000000,0,none⟩):=fun β h v hv=>hv.1
    cases i with
    | zero=>
     refine walk (aj:=BX) (keep:=[]) (cuts:=[]) (n:=1000) follows ?_
     refine bD (fun ZT ZW ZQ ZK ZA _=>(fun Za Zb=>((((decide (0<(↑l.length:Int)))=true)→((((0:Int)≤(0:Int))∧(0<(↑l.length:Int)))∧(ZK 67 [(di (↑(bn l (Int.toNat 0)).size))] (ds (bs Za))∧((bs Za).size+(ByteArray.mk #[58]).size≤9223372036854775807)∧((bs Za++ByteArray.mk #[58]).size+(bn l (Int.toNat 0)).size≤9223372036854775807)∧dV Tryz.prog G 91 [(.tb 1000000 0 124),(vs (bs Za++ByteArray.mk #[58]++bn l (Int.toNat 0)))] [(1000000,[(.d (.con (.pointer none))),(.d (.con (.slice none 0 0)))])] (.d (.aC [(di (↑(bs Za++ByteArray.mk #[58]++bn l (Int.toNat 0)).size)),(.con .nilIface)])) [(1000000,[(.box 1000000 0),(.vec 14 1 0 Zb.length)]),(14,[(.arr ⟨false,5,false,none⟩ 1 (fD Zb))])])∧(I64 (0+1))∧(ZA (aI ZT [0]))))∧(((decide (0<(↑l.length:Int)))=false)→ZW [cd Tryz.f58 [1,1,1,1,1,1]] (aI ZT [1]) ZQ))) (Lib.itoa ↑(bn l (Int.toNat 0)).size) (Lib.itoa ↑(bn l (Int.toNat 0)).size++[58]++(bn l (Int.toNat 0)).data.toList)) (by kernel_rfl) ?_
     try dsimp only
     have e0:Int.toNat (0:Int)=0:=rfl
     rw[e0]
     refine⟨fun h=>?_,fun h=>?_⟩
     ·have hi':0<l.length:=by simpa using h
      have h1:=hl.at hi'
      have h2:=iR ((bn l 0).size:Int) ⟨by omega,by omega⟩
      have h3:=hpl 0 hi'
      have h4:=hfs (bn l 0)
      have h5:=aam (bn l 0)
      refine⟨⟨by omega,by omega⟩,⟨WL hT _ (by omega),by rw[dR];omega,by omega,Vg _ (by omega)⟩,⟨by decide,by decide⟩,Again.Rf [(47014,500)] rfl 1 ?_ (by omega) (by omega)⟩
      refine AS.leZ [] [0,1] (b:=((T0∧T0∧T0∧T0∧True)∧((some [(.box 7 0),(.vec 500 1 0 (Lib.itoa ↑(bn l (↑0:Int).toNat).size++[58]++(bn l (↑0:Int).toNat).data.toList).length)]):(Option (List AV)))=(some [(.box 7 0),(.vec 500 1 0 (aT (List.take 1 l)).length)])∧((some [(.arr ⟨false,5,false,none⟩ 1 (fD (Lib.itoa ↑(bn l (↑0:Int).toNat).size++[58]++(bn l (↑0:Int).toNat).data.toList)))]):(Option (List AV)))=(some [(.arr ⟨false,5,false,none⟩ 1 (fD (aT (List.take 1 l))))])∧True)) (by kernel_rfl) (by kernel_rfl) ?_
      refine⟨⟨rfl,rfl,rfl,rfl,trivial⟩,?_,?_,trivial⟩
      ·rw[jS hi'];rfl
      ·rw[jS hi'];rfl
     ·have h:l.length=0:=by simpa using h
      have hnil:l=[]:=List.eq_nil_of_length_eq_zero h
      subst hnil
      refine walk (aj:=BX) (keep:=[]) (cuts:=[]) (n:=1000) follows ?_
      refine aJ (fun _ _ _ _=>(dV Tryz.prog G 92 [(.tb 1000000 0 124)] [(1000000,[(.d (.con (.pointer none))),(.d (.con (.slice none 0 0)))])] (vs (bs [])) [(1000000,[(.d (.con (.pointer none))),(.d (.con (.slice none 0 0)))])]∧((.aC [(ds (bs [])),(di 0)]):DV)=(.aC [(ds (bs (aT []))),(di 0)]))) (by kernel_rfl) ?_
      exact⟨adp _ Cc hy,rfl⟩
    | succ i=>
     refine walk (aj:=BX) (keep:=[]) (cuts:=[]) (n:=1000) follows ?_
     refine bD (fun ZT ZW ZQ ZK ZA _=>(fun (Za:Int) Zb=>((((decide ((↑(i+1):Int)<↑l.length))=true)→(((0≤(↑(i+1):Int))∧((↑(i+1):Int)<↑l.length))∧(ZK 67 [(di (Za))] (ds (bs (Lib.itoa Za)))∧(ByteArray.size (bs (Lib.itoa Za))+ByteArray.size { data:=#[58] }≤9223372036854775807)∧(ByteArray.size (bs (Lib.itoa Za) ++ { data:=#[58] })+ByteArray.size Zb≤9223372036854775807)∧dV Tryz.prog G 91 [(.tb 1000000 0 124),(vs (bs (Lib.itoa Za) ++ { data:=#[58] }++bn l (Int.toNat (↑(i+1):Int))))] [(1000000,[(.box 1000000 0),(.vec 1000001 1 0 (aT (List.take (i+1) l)).length)]),(1000001,[(.arr ⟨false,5,false,none⟩ 1 (fD (aT (List.take (i+1) l))))])] (.d (.aC [(di ((↑(ByteArray.size (bs (Lib.itoa Za) ++ { data:=#[58] }++bn l (Int.toNat (↑(i+1):Int)))):Int))),(.con .nilIface)])) [(1000000,[(.box 1000000 0),(.vec 14 1 0 (List.length (bytesOf (List.length (aT (List.take (i+1) l))) (fD (aT (List.take (i+1) l)))++(Lib.itoa Za++[58]++Array.toList (ByteArray.data Zb)))))]),(14,[(.arr ⟨false,5,false,none⟩ 1 (fD (bytesOf (List.length (aT (List.take (i+1) l))) (fD (aT (List.take (i+1) l)))++(Lib.itoa Za++[58]++Array.toList (ByteArray.data Zb)))))])])∧(I64 (↑(i+1)+1))∧(ZA (aI ZT [0]))))∧(((decide ((↑(i+1):Int)<↑l.length))=false)→ZW [cd Tryz.f58 [1,1,1,1,1,1]] (aI ZT [1]) ZQ))) (↑(ByteArray.size (bn l (Int.toNat (↑(i+1):Int)))):Int) (bn l (Int.toNat (↑(i+1):Int)))) (by kernel_rfl) ?_
     try dsimp only
     simp only[gZ,zx]
     have hne:aT (l.take (i+1))≠[]:=by
      rw[jS (by omega)]
      unfold dn
      intro e
      have:=congrArg List.length e
      simp at this
     refine⟨fun h=>?_,fun h=>?_⟩
     ·have hi':i+1<l.length:=by simp at h;omega
      have h1:=hl.at hi'
      have h2:=iR ((bn l (i+1)).size:Int) ⟨by omega,by omega⟩
      have h3:=hpl (i+1) hi'
      have h4:=hfs (bn l (i+1))
      have h5:=aam (bn l (i+1))
      refine⟨⟨by omega,by omega⟩,⟨WL hT _ (by omega),by rw[dR];omega,by omega,Wx _ _ (by omega)⟩,⟨by omega,by omega⟩,Again.Rf [(47014,500)] rfl (i+1+1) ?_ (by omega) (by omega)⟩
      refine AS.leZ [] [0,1] (b:=((T0∧T0∧T0∧T0∧True)∧((some [(.box 7 0),(.vec 500 1 0 (List.length (bytesOf (List.length (aT (List.take (i+1) l))) (fD (aT (List.take (i+1) l)))++(Lib.itoa (↑(ByteArray.size (bn l (Int.toNat (↑(i+1):Int)))):Int)++[58]++Array.toList (ByteArray.data (bn l (Int.toNat (↑(i+1):Int))))))))]):(Option (List AV)))=(some [(.box 7 0),(.vec 500 1 0 (aT (List.take (i+1+1) l)).length)])∧((some [(.arr ⟨false,5,false,none⟩ 1 (fD (bytesOf (List.length (aT (List.take (i+1) l))) (fD (aT (List.take (i+1) l)))++(Lib.itoa (↑(ByteArray.size (bn l (Int.toNat (↑(i+1):Int)))):Int)++[58]++Array.toList (ByteArray.data (bn l (Int.toNat (↑(i+1):Int))))))))]):(Option (List AV)))=(some [(.arr ⟨false,5,false,none⟩ 1 (fD (aT (List.take (i+1+1) l))))])∧True)) (by kernel_rfl) (by kernel_rfl) ?_
      refine⟨⟨rfl,rfl,rfl,rfl,trivial⟩,?_,?_,trivial⟩
      ·rw[zx,jS hi'];rfl
      ·rw[zx,jS hi'];rfl
     ·have:i+1=l.length:=by simp at h;omega
      have ht:aT (l.take (i+1))=aT l:=by rw[this,List.take_length]
      rw[ht] at hne
      refine walk (aj:=BX) (keep:=[]) (cuts:=[]) (n:=1000) follows ?_
      refine aJ (fun _ _ _ _=>(fun Za=>(dV Tryz.prog G 92 [(.tb 1000000 0 124)] [(1000000,[(.box 1000000 0),(.vec 1000001 1 0 (aT (List.take (i+1) l)).length)]),(1000001,[(.arr ⟨false,5,false,none⟩ 1 Za)])] (vs (bs (bytesOf (aT (List.take (i+1) l)).length Za))) [(1000000,[(.box 1000000 0),(.vec 1000001 1 0 (aT (List.take (i+1) l)).length)]),(1000001,[(.arr ⟨false,5,true,none⟩ 1 Za)])]∧((.aC [(ds (bs (bytesOf (aT (List.take (i+1) l)).length Za))),(di 0)]):DV)=(.aC [(ds (bs (aT l))),(di 0)]))) (fD (aT (List.take (i+1) l)))) (by kernel_rfl) ?_
      try dsimp only
      simp only[zx,ht]
      exact⟨f92 _ _ hy false _ hne (by omega),trivial⟩
end Go.Proofs
namespace Go.Proofs
structure Ky where
 st:ByteArray
 ex:ByteArray
 n:Int
 deriving DecidableEq
structure Gv where
 v:Int
 h:Int
 t:Int
 s:ByteArray
 deriving DecidableEq
structure Al where
 t:Int
 s:ByteArray
 dec:Bool
 acc:Bool
 at_:Int
 ans:ByteArray
 deriving DecidableEq
structure En where
 k:Ky
 t:Int
 s:ByteArray
 gs:List Gv
 ah:List Al
 deriving DecidableEq
structure Bk where
 t:Int
 es:List En
 deriving DecidableEq
structure Ev where
 kind:Int
 k:Ky
 t:Int
 v:Int
 h:Int
 s:ByteArray
 acc:Bool
 deriving DecidableEq
def ky0:Ky:=⟨.empty,.empty,0⟩
def en0:En:=⟨ky0,0,.empty,[],[]⟩
def ev0:Ev:=⟨0,ky0,0,0,0,.empty,false⟩
def eP:Bk:=⟨0,[]⟩
def uQ (k:Ky) (a:Al):List Ev:=⟨2,k,a.t,0,0,a.s,false⟩ :: if a.dec=true then [⟨3,k,a.at_,0,0,a.ans,a.acc⟩] else []
def yL (k:Ky) (g:Gv):Ev:=⟨1,k,g.t,g.v,g.h,g.s,false⟩
def yA (x:En):Ev:=⟨0,x.k,x.t,0,0,x.s,false⟩
def iL (x:En):List Ev:=yA x :: (x.gs.map (yL x.k)++(x.ah.map (uQ x.k)).flatten)
def bG (es:List En):List Ev:=(es.map iL).flatten
def ins (e:Ev):List Ev→List Ev
 | []=>[e]
 | a :: l=>if e.t<a.t then e :: a :: l else a :: ins e l
def iK (l:List Ev):List Ev:=l.foldl (fun m e=>ins e m) []
def aA (b:Bk):List Ev:=iK (bG b.es)
def keyS (es:List En):List Ky:=es.map En.k
def dB (es:List En) (k:Ky):Option Nat:=(keyS es).findIdx? fun x=>decide (x=k)
def wQ (k x:Ky):Bool:=decide (x.st=k.st)&&decide (x.ex=k.ex)
def iI (es:List En) (k:Ky):Nat:=((keyS es).filter (wQ k)).length
def hasB (es:List En) (e:Ev):Bool:=match dB es e.k with
 | some i=>decide (e∈iL (es.getD i en0))
 | none=>false
def bW (x:En):Bool:=match x.ah.getLast? with|some a=>!a.dec|none=>false
def wR (x:En) (v:Int):Bool:=match x.gs.getLast? with|some g=>decide (v≤g.v)|none=>false
def kF (x:En) (e:Ev):Int:=
 if e.kind=1 then if wR x e.v=true then 9 else if 16≤x.gs.length then 8 else 0
 else if e.kind=2 then if x.gs.length=0∨bW x=true then 9 else if 16≤x.ah.length then 8 else 0
 else if bW x=true then 0 else 9
def iE (x:En) (e:Ev):En:=
 if e.kind=1 then { x with gs:=x.gs++[⟨e.v,e.h,e.t,e.s⟩] }
 else if e.kind=2 then { x with ah:=x.ah++[⟨e.t,e.s,false,false,0,.empty⟩] }
 else { x with ah:=x.ah.dropLast++(x.ah.getLast?.toList.map fun a=>{ a with dec:=true,acc:=e.acc,at_:=e.t,ans:=e.s }) }
def cZ (b:Bk) (e:Ev):Int:=
 if hasB b.es e=true then 6 else if e.t<b.t then 2
 else if e.kind=0 then (if e.k.n≠(iI b.es e.k:Int)+1 then 9 else if 256≤b.es.length then 8 else 0)
 else match dB b.es e.k with
  | none=>7
  | some i=>kF (b.es.getD i en0) e
def eu (es:List En) (e:Ev):List En:=
 if e.kind=0 then es++[⟨e.k,e.t,e.s,[],[]⟩] else match dB es e.k with
  | some i=>es.set i (iE (es.getD i en0) e)
  | none=>es
def fK (b:Bk) (e:Ev):Bk:=⟨e.t,eu b.es e⟩
def lY (e:Ev):Prop:=(e.kind=0∨e.kind=1∨e.kind=2∨e.kind=3)∧(e.kind≠1→e.v=0∧e.h=0)∧(e.kind≠3→e.acc=false)
def fE (ok:Ev→Bool):List Ev→Bk→Option Bk
 | [],b=>some b
 | e :: l,b=>if ok e=true∧cZ b e=0 then fE ok l (fK b e) else none
def dh (ok:Ev→Bool) (b:Bk):Bool:=decide (b.es.length≤256)&&decide (fE ok (aA b) eP=some b)
theorem FX {e:Ev}:∀{l:List Ev},(∀a∈l,a.t≤e.t)→ins e l=l++[e]
 | [],_=>rfl
 | a :: l,h=>by
  have h1:=h a (by simp)
  unfold ins
  rw[if_neg (by omega),FX fun x hx=>h x (List.mem_cons_of_mem _ hx)];rfl
theorem J3 {e:Ev}:∀{l m:List Ev},(∀a∈m,e.t<a.t)→(l≠[]∨m≠[]∨True)→ins e (l++m)=ins e l++m
 | [],[],_,_=>rfl
 | [],a :: m,h,_=>by
  have h1:=h a (by simp)
  show ins e (a :: m)=[e]++a :: m
  unfold ins
  rw[if_pos h1];rfl
 | a :: l,m,h,_=>by
  show ins e (a :: (l++m))=_
  unfold ins
  by_cases h1:e.t<a.t
  ·rw[if_pos h1,if_pos h1];rfl
  ·rw[if_neg h1,if_neg h1,J3 h (.inr (.inr trivial))];rfl
theorem Lh {e x:Ev}:∀{l:List Ev},x∈ins e l↔x=e∨x∈l
 | []=>by simp[ins]
 | a :: l=>by
  unfold ins
  split
  ·simp
  ·simp only[List.mem_cons,Lh (l:=l)]
   constructor
   ·rintro (h|h|h)
    ·exact .inr (.inl h)
    ·exact .inl h
    ·exact .inr (.inr h)
   ·rintro (h|h|h)
    ·exact .inr (.inl h)
    ·exact .inl h
    ·exact .inr (.inr h)
theorem sG (l:List Ev) (e:Ev):iK (l++[e])=ins e (iK l):=by
 unfold iK
 rw[List.foldl_append];rfl
theorem YW:iK []=[]:=rfl
theorem pF {x:Ev} (l:List Ev):x∈iK l↔x∈l:=by
 suffices h:∀r:List Ev,(x∈iK r.reverse↔x∈r.reverse) by
  have:=h l.reverse
  rwa [List.reverse_reverse] at this
 intro r
 induction r with
 | nil=>exact Iff.rfl
 | cons a r ih=>rw[List.reverse_cons,sG,Lh,ih];simp[or_comm]
theorem PV (M:Int) (l:List Ev) (h:∀a∈l,a.t≤M):iK l=iK (l.filter fun a=>decide (a.t<M))++l.filter fun a=>decide (a.t=M):=by
 suffices h:∀r:List Ev,(∀a∈r,a.t≤M)→iK r.reverse=iK (r.reverse.filter fun a=>decide (a.t<M))++r.reverse.filter fun a=>decide (a.t=M) by
  have:=h l.reverse (fun a ha=>by rename_i q;exact q a (List.mem_reverse.1 ha))
  rwa [List.reverse_reverse] at this
 intro r
 induction r with
 | nil=>intro _;rfl
 | cons a r ih=>
  intro h
  have ih:=ih fun x hx=>h x (List.mem_cons_of_mem _ hx)
  have ha:=h a (by simp)
  rw[List.reverse_cons,sG,List.filter_append,List.filter_append,ih]
  by_cases hm:a.t=M
  ·have h1:¬a.t<M:=by omega
   rw[FX]
   ·simp[hm,List.append_assoc]
   ·intro x hx
    rcases List.mem_append.1 hx with hx|hx
    ·have:=(List.mem_filter.1 ((pF _).1 hx)).2
     simp at this;omega
    ·have:=(List.mem_filter.1 hx).2
     simp at this;omega
  ·have h1:a.t<M:=by omega
   rw[J3 (fun x hx=>by have:=(List.mem_filter.1 hx).2;simp at this;omega) (.inr (.inr trivial))]
   simp only[List.filter_cons,h1,hm,decide_true,decide_false,if_true,List.filter_nil,List.append_nil,Bool.false_eq_true,if_false]
   rw[sG]
theorem Yr (P Q:List Ev) (e:Ev) (h:∀a∈P++Q,a.t≤e.t):∃pre,iK (P++Q)=pre++Q.filter (fun a=>decide (a.t=e.t))∧iK (P++e :: Q)=pre++e :: Q.filter (fun a=>decide (a.t=e.t)):=by
 have h2:∀a∈P++e :: Q,a.t≤e.t:=fun a ha=>by
  rcases List.mem_append.1 ha with ha|ha
  ·exact h a (List.mem_append_left _ ha)
  ·rcases List.mem_cons.1 ha with rfl|ha
   ·exact Int.le_refl _
   ·exact h a (List.mem_append_right _ ha)
 refine⟨iK ((P++Q).filter fun a=>decide (a.t<e.t))++P.filter fun a=>decide (a.t=e.t),?_,?_⟩
 ·have e3:(P++Q).filter (fun a=>decide (a.t=e.t))=P.filter (fun a=>decide (a.t=e.t))++Q.filter fun a=>decide (a.t=e.t):=List.filter_append ..
  rw[PV e.t _ h,e3,List.append_assoc]
 ·rw[PV e.t _ h2]
  have e1:(P++e :: Q).filter (fun a=>decide (a.t<e.t))=(P++Q).filter fun a=>decide (a.t<e.t):=by
   rw[List.filter_append,List.filter_append,List.filter_cons,if_neg (by simp)]
  have e2:(P++e :: Q).filter (fun a=>decide (a.t=e.t))=P.filter (fun a=>decide (a.t=e.t))++e :: Q.filter fun a=>decide (a.t=e.t):=by
   rw[List.filter_append,List.filter_cons,if_pos (by simp)]
  rw[e1,e2,List.append_assoc]
end Go.Proofs
namespace Go.Proofs
open Go Go.Ab Go.RowKit
variable {G:IH}
abbrev O9 (k:Ky):List DV:=[ds k.st,ds k.ex,di k.n]
abbrev XV (k:Ky):DV:=.agg (O9 k)
abbrev kC (e:Ev):List DV:=[di e.kind,ds e.k.st,ds e.k.ex,di e.k.n,di e.t,di e.v,di e.h,ds e.s,db e.acc]
abbrev fJ (e:Ev):List AV:=[vi e.kind,vs e.k.st,vs e.k.ex,vi e.k.n,vi e.t,vi e.v,vi e.h,vs e.s,vb e.acc]
abbrev bY:DV:=.con (.slice none 0 0)
abbrev bV:RK:=⟨true,26,false,none⟩
abbrev gq:RK:=⟨true,39,false,none⟩
abbrev rE:RK:=⟨true,42,false,none⟩
abbrev oC:RK:=⟨true,44,false,none⟩
abbrev fO:=Option (List AV)
theorem kD {G:IH} {aj:eU} {cuts:List Nat} {k:List It} {st:AS} {Q:Exit→AS→Prop} (h:Holds ((lI Tryz.prog G aj [] cuts [] 1000 k st).ok Tryz.prog G Q)):bK Tryz.prog G k st Q:=zX follows h
theorem gV {G:IH} {aj:eU} {k:List It} {st:AS} {Q:Exit→AS→Prop} (h:Holds ((lI Tryz.prog G aj [] [] [] 1000 k st).ok Tryz.prog G Q)):bK Tryz.prog G k st Q:=zX follows h
theorem dI {G:IH} {aj:eU} {k:List It} {st:AS} {Q:Exit→AS→Prop} (h:Holds ((mV Tryz.prog G aj [] [] 1000 k st).ok Tryz.prog G Q)):bK Tryz.prog G k st Q:=walk follows h
abbrev fQ (e:Ev):DV:=.agg (kC e)
def dw (l:List Ev) (i:Nat):DV:=fQ (l.getD i ev0)
abbrev iO (l:List Ev):DV:=.slc 9 l.length (dw l)
def fC:Gv:=⟨0,0,0,.empty⟩
def cu:Al:=⟨0,.empty,false,false,0,.empty⟩
abbrev gvL (g:Gv):List DV:=[di g.v,di g.h,di g.t,ds g.s]
abbrev Ef (a:Al):List DV:=[di a.t,ds a.s,db a.dec,db a.acc,di a.at_,ds a.ans]
def dX (l:List Gv) (i:Nat):DV:=.agg (gvL (l.getD i fC))
def dN (l:List Al) (i:Nat):DV:=.agg (Ef (l.getD i cu))
abbrev kT (l:List Gv):DV:=.slc 4 l.length (dX l)
abbrev iM (l:List Al):DV:=.slc 6 l.length (dN l)
abbrev Bv (x:En):List DV:=[ds x.k.st,ds x.k.ex,di x.k.n,di x.t,ds x.s,kT x.gs,iM x.ah]
abbrev AY (x:En):DV:=.agg (Bv x)
def dM (l:List En) (i:Nat):DV:=AY (l.getD i en0)
abbrev nN (l:List En):DV:=.slc 7 l.length (dM l)
abbrev iD (b:Bk):List DV:=[di b.t,nN b.es]
abbrev eY (b:Bk):DV:=.agg (iD b)
def jH:DV→Ev
 | .agg [.con (.int _ a),.con (.string s1),.con (.string s2),.con (.int _ n),.con (.int _ t),.con (.int _ v),.con (.int _ h),.con (.string s),.con (.bool c)]=>⟨a,⟨s1,s2,n⟩,t,v,h,s,c⟩
 | _=>ev0
def FB:DV→Ky
 | .agg [.con (.string s1),.con (.string s2),.con (.int _ n)]=>⟨s1,s2,n⟩
 | _=>ky0
def GH:DV→Gv
 | .agg [.con (.int _ v),.con (.int _ h),.con (.int _ t),.con (.string s)]=>⟨v,h,t,s⟩
 | _=>fC
def L9:DV→Al
 | .agg [.con (.int _ t),.con (.string s),.con (.bool d),.con (.bool a),.con (.int _ q),.con (.string r)]=>⟨t,s,d,a,q,r⟩
 | _=>cu
def xL {α:Type} (g:DV→α):DV→List α
 | .slc _ n f=>(List.range n).map fun i=>g (f i)
 | _=>[]
def qZ:DV→En
 | .agg [.con (.string s1),.con (.string s2),.con (.int _ n),.con (.int _ t),.con (.string s),g,a]=>⟨⟨s1,s2,n⟩,t,s,xL GH g,xL L9 a⟩
 | _=>en0
def Gy:DV→Bk
 | .agg [.con (.int _ t),l]=>⟨t,xL qZ l⟩
 | _=>eP
theorem JC {α:Type} {g:DV→α} {F:List α→Nat→DV} {x0:α} {sz:Nat} (hg:∀(l:List α) (i:Nat),g (F l i)=l.getD i x0) (l:List α):xL g (.slc sz l.length (F l))=l:=by
 simp only[xL,hg]
 refine List.ext_getElem (by simp) fun i h1 h2=>?_
 simp[List.getD,iy h2]
theorem VX (e:Ev):jH (fQ e)=e:=rfl
theorem Y3 (l:List Ev):xL jH (iO l)=l:=JC (x0:=ev0) (fun _ _=>rfl) l
theorem RF (l:List Gv):xL GH (kT l)=l:=JC (x0:=fC) (fun _ _=>rfl) l
theorem QJ (l:List Al):xL L9 (iM l)=l:=JC (x0:=cu) (fun _ _=>rfl) l
theorem U7 (x:En):qZ (AY x)=x:=by simp only[qZ,RF,QJ]
theorem RS (l:List En):xL qZ (nN l)=l:=JC (x0:=en0) (fun l i=>U7 _) l
def bU:iw:=fun _ _=>none
def dP (es:List En) (k:Ky):Int:=match dB es k with|some i=>(i:Int)|none=>-1
def IZ (a b:Ky):Bool:=decide (a=b)
theorem Jr (a b:Ky):((ByteArray.toList a.st==ByteArray.toList b.st)&&((ByteArray.toList a.ex==ByteArray.toList b.ex)&&(a.n==b.n)))=IZ a b:=by
 rw[dO,dO]
 unfold IZ
 obtain ⟨a1,a2,a3⟩:=a
 obtain ⟨b1,b2,b3⟩:=b
 simp only[Ky.mk.injEq,Bool.decide_and]
 by_cases h:a3=b3<;>simp[h]
theorem nY (a b:Bool):(Bool.rec false b a:Bool)=(a&&b):=by cases a<;>rfl
theorem Ky.eta (k:Ky):Ky.mk k.st k.ex k.n=k:=rfl
theorem f52 (x:En) (k:Ky):au Tryz.prog G 52 [AY x,.ptr (O9 k)] (db (IZ x.k k)):=by
 refine au.walk (aj:=bU) (keep:=[]) follows Tryz.func52 rfl Tryz.call52 ?_
 refine aJ (fun _ _ _ _=>(((db (Bool.rec false (x.k.ex.toList==k.ex.toList&&x.k.n==k.n) (x.k.st.toList==k.st.toList))):DV)=(db (IZ x.k k)))) (by kernel_rfl) ?_
 rw[nY,Jr]
noncomputable def S51 (l:List En) (k:Ky) (j:Nat):AS:=⟨regs Tryz.f51.ntmps [(0,.d (nN l)),(1,.d (.clo (.func 52) [] [.ptr (O9 k)])),(7,vi l.length),(8,vi j)],[]⟩
theorem OM {l:List En} {k:Ky} {j:Nat} (hj:j<l.length) (hn:∀i,i<j→(l.getD i en0).k≠k) (h:(l.getD j en0).k=k):dP l k=j:=by
 unfold dP dB
 rw[(List.findIdx?_eq_some_iff_getElem (i:=j)).2 ⟨by simpa [keyS] using hj,?_,fun i hi=>?_⟩]
 ·have:=h
  rw[List.getD,iy hj] at this
  simpa [keyS] using this
 ·have:=hn i hi
  rw[List.getD,iy (by omega)] at this
  simpa [keyS] using this
theorem JX {l:List En} {k:Ky} (hn:∀i,i<l.length→(l.getD i en0).k≠k):dP l k = -1:=by
 unfold dP dB
 rw[List.findIdx?_eq_none_iff.2]
 intro x hx
 obtain ⟨i,hi,rfl⟩:=List.getElem_of_mem hx
 have hi':i<l.length:=by simpa [keyS] using hi
 have:=hn i hi'
 rw[List.getD,iy hi'] at this
 simpa [keyS] using this
def JM (k:Ky):iw:=fun f a=>match f,a with
 | 52,[x,_]=>some (db (IZ (qZ x).k k))
 | 51,[l,_]=>some (di (dP (xL qZ l) k))
 | 22,[b,_]=>some (di (dP (Gy b).es k))
 | _,_=>none
theorem f51 (l:List En) (k:Ky) (hl:l.length≤1000000):au Tryz.prog G 51 [nN l,.clo (.func 52) [] [.ptr (O9 k)]] (di (dP l k)):=by
 refine au.walk (aj:=JM k) (keep:=[]) follows Tryz.func51 rfl Tryz.call51 ?_
 refine aJ (fun ZT ZW ZQ _=>ZW [cd Tryz.f51 [1,0,1,0],(.blk 0),cd Tryz.f51 [1,1]] (aI ZT []) ZQ) (by kernel_rfl) ?_
 refine bK.loop (c:=aU (ak Tryz.f51) [1,0,1,0,0]) (by kernel_rfl) (S51 l k) (fun j=>j≤l.length∧∀i,i<j→(l.getD i en0).k≠k) (fun j=>l.length-j) 0 ?_ ⟨Nat.zero_le _,fun i hi=>absurd hi (Nat.not_lt_zero _)⟩ ?_
 ·exact AS.bJ (by kernel_rfl)
 ·rintro j ⟨hj,hn⟩
  refine dI (aj:=JM k) ?_
  refine bD (fun ZT ZW ZQ ZK ZA _=>(fun Za=>((((decide ((↑j:Int)<↑l.length))=true)→((((0≤(↑j:Int))∧((↑j:Int)<↑l.length))∧ZK 52 [(.agg [(ds (l.getD (↑j:Int).toNat en0).k.st),(ds (l.getD (↑j:Int).toNat en0).k.ex),(di (l.getD (↑j:Int).toNat en0).k.n),(di (l.getD (↑j:Int).toNat en0).t),(ds (l.getD (↑j:Int).toNat en0).s),(.slc 4 (l.getD (↑j:Int).toNat en0).gs.length (dX (l.getD (↑j:Int).toNat en0).gs)),(.slc 6 (l.getD (↑j:Int).toNat en0).ah.length (dN (l.getD (↑j:Int).toNat en0).ah))]),(.ptr [(ds k.st),(ds k.ex),(di k.n)])] (db Za))∧((Za=true)→(((di (↑j)):DV)=(di (dP l k))))∧((Za=false)→((I64 (↑j+1))∧(ZA (aI ZT [0,1]))))))∧(((decide ((↑j:Int)<↑l.length))=false)→ZW [cd Tryz.f51 [1,1]] (aI ZT [1]) ZQ))) (IZ (Ky.mk (l.getD (↑j:Int).toNat en0).k.st (l.getD (↑j:Int).toNat en0).k.ex (l.getD (↑j:Int).toNat en0).k.n) k)) (by kernel_rfl) ?_
  try dsimp only
  simp only[gZ,Ky.eta]
  refine⟨fun h=>?_,fun h=>?_⟩
  ·have hj2:j<l.length:=by have:=dW h;omega
   refine⟨⟨⟨by omega,by omega⟩,f52 (l.getD j en0) k⟩,fun h2=>?_,fun h2=>⟨⟨by omega,by omega⟩,Again.mk (j+1) ?_ ⟨hj2,fun i hi=>?_⟩ (by omega)⟩⟩
   ·rw[OM hj2 hn (dW h2)]
   ·exact AS.bJ (by kernel_rfl)
   ·rcases Nat.lt_or_ge i j with h4|h4
    ·exact hn i h4
    ·obtain rfl:i=j:=by omega
     exact of_decide_eq_false h2
  ·refine dI (aj:=JM k) ?_
   refine aJ (fun _ _ _ _=>(((di (-1)):DV)=(di (dP l k)))) (by kernel_rfl) ?_
   have hj2:j=l.length:=by have:=of_decide_eq_false h;omega
   subst hj2
   rw[JX hn]
theorem f22 (b:Bk) (k:Ky) (hl:b.es.length≤1000000):au Tryz.prog G 22 [eY b,XV k] (di (dP b.es k)):=by
 refine au.eG Tryz.func22 rfl Tryz.call22 ?_
 refine walk (aj:=JM k) (keep:=[]) (cuts:=[1]) (n:=1000) follows ?_
 refine aJ (fun ZT ZW ZQ _=>ZW [cd Tryz.f22 [1]] (aI ZT []) ZQ) (by kernel_rfl) ?_
 refine bK.vM (dl:=O9 k) 3 (by kernel_rfl) rfl ?_
 refine dI (aj:=JM k) ?_
 refine aJ (fun _ _ _ ZK=>(ZK 51 [(.slc 7 b.es.length (dM b.es)),(.clo (.func 52) [] [(.ptr [(ds k.st),(ds k.ex),(di k.n)])])] (di (dP (xL qZ (DV.slc 7 b.es.length (dM b.es))) k))∧((di (dP (xL qZ (DV.slc 7 b.es.length (dM b.es))) k)):DV)=(di (dP b.es k)))) (by kernel_rfl) ?_
 simp only[RS]
 exact⟨f51 b.es k hl,trivial⟩
abbrev Q9 (s:ByteArray):List DV:=[di 2,ds s,di 0,di 0,di 0,.con (.slice none 0 0)]
abbrev eN (s:ByteArray):DV:=.agg (Q9 s)
theorem QU {k:IH} {sz:Nat} {f:Nat→DV} {v:Value} (h:DV.rel k (.con (.slice none 0 0)) v):DV.rel k (.slc sz 0 f) v:=by
 have h:v=.slice none 0 0:=h
 exact⟨none,0,h,Nat.le_refl _,.inl rfl⟩
theorem YR {f:FuncId} {args:List DV} {r r':DV} (h:au Tryz.prog G f args r) (hr:∀k v,DV.rel k r v→DV.rel k r' v):au Tryz.prog G f args r':=
 ⟨h.1,fun w k vs hG hw ha=>(h.2 w k vs hG hw ha).mono fun e w' ⟨v,h',e1,h2,h3⟩=>⟨v,h',e1,hr h' v h2,h3⟩⟩
def opS (k:Int):ByteArray:=bif decide (k=20) then ⟨#[111,114]⟩ else bif decide (k=19) then ⟨#[97,110,100]⟩ else bif decide (k=17) then ⟨#[62,61]⟩ else bif decide (k=16) then ⟨#[62]⟩ else bif decide (k=15) then ⟨#[60,61]⟩ else bif decide (k=14) then ⟨#[60]⟩ else bif decide (k=13) then ⟨#[33,61]⟩ else bif decide (k=12) then ⟨#[61,61]⟩ else bif decide (k=9) then ⟨#[47]⟩ else bif decide (k=8) then ⟨#[42]⟩ else bif decide (k=7) then ⟨#[45]⟩ else bif decide (k=6) then ⟨#[43]⟩ else .empty
def inF (l:List Int) (i:Nat):DV:=di (l.getD i 0)
def kR (v:Int):List Int:=if v=1 then [20] else if v=2 then [19] else if v=4 then [12,13,14,15,16,17] else if v=5 then [6,7] else if v=6 then [8,9] else []
def opsT (v:Int):List ByteArray:=(kR v).map opS
abbrev Pn (v:Int):DV:=.aC [.slc 1 (opsT v).length (I8 (opsT v)),.slc 1 (kR v).length (inF (kR v))]
theorem AX {n m n' m':Nat} {f f' g g':Nat→DV} (h1:n=n') (h2:m=m') (hf:∀i,i<n→f i=f' i) (hg:∀i,i<m→g i=g' i) (k:IH) (v:Value) (hv:DV.rel k (.aC [.slc 1 n f,.slc 1 m g]) v):DV.rel k (.aC [.slc 1 n' f',.slc 1 m' g']) v:=by
 subst h1;subst h2
 obtain ⟨us,rfl,a,us1,rfl,ha,b,XW,rfl,hb,h0⟩:=hv
 exact⟨_,rfl,_,_,rfl,DV.gK hf ha,_,_,rfl,DV.gK hg hb,h0⟩
theorem f125 (v:Int):au Tryz.prog G 125 [di v] (Pn v):=by
 have key:∀r:DV,(∀k x,DV.rel k r x→DV.rel k (Pn v) x)→((v=1→r=.aC [.slc 1 1 (aY false 1 [ds ⟨#[111,114]⟩]),.slc 1 1 (aY false 1 [di 20])])∧(v=2→r=.aC [.slc 1 1 (aY false 1 [ds ⟨#[97,110,100]⟩]),.slc 1 1 (aY false 1 [di 19])])∧
   (v=4→r=.aC [.slc 1 6 (aY false 1 [ds ⟨#[61,61]⟩,ds ⟨#[33,61]⟩,ds ⟨#[60]⟩,ds ⟨#[60,61]⟩,ds ⟨#[62]⟩,ds ⟨#[62,61]⟩]),.slc 1 6 (aY false 1 [di 12,di 13,di 14,di 15,di 16,di 17])])∧
   (v=5→r=.aC [.slc 1 2 (aY false 1 [ds ⟨#[43]⟩,ds ⟨#[45]⟩]),.slc 1 2 (aY false 1 [di 6,di 7])])∧(v=6→r=.aC [.slc 1 2 (aY false 1 [ds ⟨#[42]⟩,ds ⟨#[47]⟩]),.slc 1 2 (aY false 1 [di 8,di 9])])∧
   (¬v=1→¬v=2→¬v=4→¬v=5→¬v=6→r=.aC [.con (.slice none 0 0),.con (.slice none 0 0)]))→au Tryz.prog G 125 [di v] (Pn v):=by
  intro r hr ⟨h1,h2,h4,h5,h6,h0⟩
  refine YR (r:=r) (au.walk (aj:=({ d:=fun _ _=>none }:eU)) (keep:=[]) follows Tryz.func125 rfl Tryz.call125 ?_) hr
  refine aJ (fun _ _ _ _=>((((v==1)=true)→(((.aC [(.slc 1 1 (aY false 1 [(ds (ByteArray.mk #[111,114]))])),(.slc 1 1 (aY false 1 [(di 20)]))]):DV)=r))∧(((v==1)=false)→((((v==2)=true)→(((.aC [(.slc 1 1 (aY false 1 [(ds (ByteArray.mk #[97,110,100]))])),(.slc 1 1 (aY false 1 [(di 19)]))]):DV)=r))∧(((v==2)=false)→((((v==4)=true)→(((.aC [(.slc 1 6 (aY false 1 [(ds (ByteArray.mk #[61,61])),(ds (ByteArray.mk #[33,61])),(ds (ByteArray.mk #[60])),(ds (ByteArray.mk #[60,61])),(ds (ByteArray.mk #[62])),(ds (ByteArray.mk #[62,61]))])),(.slc 1 6 (aY false 1 [(di 12),(di 13),(di 14),(di 15),(di 16),(di 17)]))]):DV)=r))∧(((v==4)=false)→((((v==5)=true)→(((.aC [(.slc 1 2 (aY false 1 [(ds (ByteArray.mk #[43])),(ds (ByteArray.mk #[45]))])),(.slc 1 2 (aY false 1 [(di 6),(di 7)]))]):DV)=r))∧(((v==5)=false)→((((v==6)=true)→(((.aC [(.slc 1 2 (aY false 1 [(ds (ByteArray.mk #[42])),(ds (ByteArray.mk #[47]))])),(.slc 1 2 (aY false 1 [(di 8),(di 9)]))]):DV)=r))∧(((v==6)=false)→(((.aC [bY,bY]):DV)=r)))))))))))) (by kernel_rfl) ?_
  simp only[beq_iff_eq,beq_eq_false_iff_ne,ne_eq]
  refine⟨fun e=>(h1 e).symm,fun n1=>⟨fun e=>(h2 e).symm,fun n2=>⟨fun e=>(h4 e).symm,fun n4=>⟨fun e=>(h5 e).symm,fun n5=>⟨fun e=>(h6 e).symm,fun n6=>(h0 n1 n2 n4 n5 n6).symm⟩⟩⟩⟩⟩
 by_cases h1:v=1
 ·subst h1
  refine key _ (AX rfl rfl ?_ ?_) ⟨fun _=>rfl,fun h=>(by omega),fun h=>(by omega),fun h=>(by omega),fun h=>(by omega),fun h=>(by omega)⟩
  ·intro i hi;have hi:i<1:=hi;rcases i with _|i<;>first|rfl|omega
  ·intro i hi;have hi:i<1:=hi;rcases i with _|i<;>first|rfl|omega
 by_cases h2:v=2
 ·subst h2
  refine key _ (AX rfl rfl ?_ ?_) ⟨fun h=>(by omega),fun _=>rfl,fun h=>(by omega),fun h=>(by omega),fun h=>(by omega),fun h=>(by omega)⟩
  ·intro i hi;have hi:i<1:=hi;rcases i with _|i<;>first|rfl|omega
  ·intro i hi;have hi:i<1:=hi;rcases i with _|i<;>first|rfl|omega
 by_cases h4:v=4
 ·subst h4
  refine key _ (AX rfl rfl ?_ ?_) ⟨fun h=>(by omega),fun h=>(by omega),fun _=>rfl,fun h=>(by omega),fun h=>(by omega),fun h=>(by omega)⟩
  ·intro i hi;have hi:i<6:=hi;rcases i with _|_|_|_|_|_|i<;>first|rfl|omega
  ·intro i hi;have hi:i<6:=hi;rcases i with _|_|_|_|_|_|i<;>first|rfl|omega
 by_cases h5:v=5
 ·subst h5
  refine key _ (AX rfl rfl ?_ ?_) ⟨fun h=>(by omega),fun h=>(by omega),fun h=>(by omega),fun _=>rfl,fun h=>(by omega),fun h=>(by omega)⟩
  ·intro i hi;have hi:i<2:=hi;rcases i with _|_|i<;>first|rfl|omega
  ·intro i hi;have hi:i<2:=hi;rcases i with _|_|i<;>first|rfl|omega
 by_cases h6:v=6
 ·subst h6
  refine key _ (AX rfl rfl ?_ ?_) ⟨fun h=>(by omega),fun h=>(by omega),fun h=>(by omega),fun h=>(by omega),fun _=>rfl,fun h=>(by omega)⟩
  ·intro i hi;have hi:i<2:=hi;rcases i with _|_|i<;>first|rfl|omega
  ·intro i hi;have hi:i<2:=hi;rcases i with _|_|i<;>first|rfl|omega
 have e:kR v=[]:=by unfold kR;rw[if_neg h1,if_neg h2,if_neg h4,if_neg h5,if_neg h6]
 refine key _ (fun k x hx=>?_) ⟨fun h=>absurd h h1,fun h=>absurd h h2,fun h=>absurd h h4,fun h=>absurd h h5,fun h=>absurd h h6,fun _ _ _ _ _=>rfl⟩
 unfold Pn opsT
 rw[e]
 obtain ⟨us,rfl,a,us1,rfl,ha,b,XW,rfl,hb,h0⟩:=hx
 exact⟨_,rfl,_,_,rfl,QU ha,_,_,rfl,QU hb,h0⟩
def tH (k:Int):Int:=if k=20 then 1 else if k=19 then 2 else if 12≤k∧k≤17 then 4 else if k=6∨k=7 then 5 else if k=8∨k=9 then 6 else if k=18 then 3 else if k=5 then 7 else if k=1∨k=2∨k=3∨k=4∨k=10∨k=11 then 8 else 0
theorem ZG {k v:Int} (hv:1≤v∧v≤6) (h:k∈kR v):tH k=v:=by
 have hc:v=1∨v=2∨v=3∨v=4∨v=5∨v=6:=by omega
 have q:(v=1∧k=20)∨(v=2∧k=19)∨(v=4∧12≤k∧k≤17)∨(v=5∧(k=6∨k=7))∨(v=6∧(k=8∨k=9)):=by
  rcases hc with rfl|rfl|rfl|rfl|rfl|rfl<;>simp[kR] at h<;>omega
 clear h
 unfold tH
 rcases q with ⟨rfl,h⟩|⟨rfl,h⟩|⟨rfl,h⟩|⟨rfl,h⟩|⟨rfl,h⟩
 ·rw[if_pos h]
 ·rw[if_neg (by omega),if_pos h]
 ·rw[if_neg (by omega),if_neg (by omega),if_pos h]
 ·rw[if_neg (by omega),if_neg (by omega),if_neg (by omega),if_pos h]
 ·rw[if_neg (by omega),if_neg (by omega),if_neg (by omega),if_neg (by omega),if_pos h]
theorem YX {k:Int} (h:∀v:Int,1≤v→v≤6→k∉kR v):tH k=if k=18 then 3 else if k=5 then 7 else if k=1∨k=2∨k=3∨k=4∨k=10∨k=11 then 8 else 0:=by
 have h1:=h 1 (by omega) (by omega)
 have h2:=h 2 (by omega) (by omega)
 have h4:=h 4 (by omega) (by omega)
 have h5:=h 5 (by omega) (by omega)
 have h6:=h 6 (by omega) (by omega)
 simp only[kR,if_true,List.mem_cons,List.not_mem_nil,or_false,reduceCtorEq,Int.reduceEq,if_false,not_or] at h1 h2 h4 h5 h6
 unfold tH
 rw[if_neg h1,if_neg h2,if_neg (by omega),if_neg (by omega),if_neg (by omega)]
noncomputable def Ji:iw:=fun f a=>match f,a with
 | 125,[.con (.int .i64 v)]=>some (Pn v)
 | _,_=>none
noncomputable def adW (s:ByteArray) (i:Nat):AS:=⟨regs Tryz.f121.ntmps [(1,.box 1 0),(3,vi i)],[(1,(Q9 s).map .d)]⟩
noncomputable def abG (s:ByteArray) (i j:Nat):AS:=⟨regs Tryz.f121.ntmps [(1,.box 1 0),(3,vi i),(5,.d (.slc 1 (kR i).length (inF (kR i)))),(6,vi j)],[(1,(Q9 s).map .d)]⟩
theorem Ws (v:Int):(kR v).length≤6:=by
 unfold kR
 split
 ·decide
 split
 ·decide
 split
 ·decide
 split
 ·decide
 split
 ·decide
 ·decide
theorem f121 (s:ByteArray):au Tryz.prog G 121 [eN s] (di (tH 2)):=by
 refine au.walk (aj:=Ji) (keep:=[]) follows Tryz.func121 rfl Tryz.call121 ?_
 refine aJ (fun ZT ZW ZQ _=>ZW [cd Tryz.f121 [1,0,1,0],(.blk 0),cd Tryz.f121 [1,1]] (aI ZT []) ZQ) (by kernel_rfl) ?_
 refine bK.loop (c:=aU (ak Tryz.f121) [1,0,1,0,0]) (by kernel_rfl) (adW s) (fun i=>1≤i∧i≤7∧∀v:Int,1≤v→v<i→(2:Int)∉kR v) (fun i=>7-i) 1 ?_ ⟨by omega,by omega,fun v h1 h2=>by omega⟩ ?_
 ·exact AS.bJ (by kernel_rfl)
 ·rintro i ⟨h1,h2,hn⟩
  refine dI (aj:=Ji) ?_
  refine bD (fun ZT ZW ZQ ZK _ ZR=>((((decide ((↑i:Int)≤6))=true)→(ZK 125 [(di (↑i))] (.aC [(.slc 1 (opsT ↑i).length (I8 (opsT ↑i))),(.slc 1 (kR ↑i).length (inF (kR ↑i)))])∧ZW [cd Tryz.f121 [1,0,1,0,0,1,0,0,1,1,0],(.blk 2),(.blk 1),cd Tryz.f121 [1,0,1,0,0,1,1]] (aI ZT [0]) ZR))∧(((decide ((↑i:Int)≤6))=false)→ZW [cd Tryz.f121 [1,1]] (aI ZT [1]) ZQ))) (by kernel_rfl) ?_
  refine⟨fun h=>⟨f125 _,?_⟩,fun h=>?_⟩
  ·have hi6:i≤6:=by have:=dW h;omega
   have hl6:=Ws (i:Int)
   refine bK.loop (c:=aU (ak Tryz.f121) [1,0,1,0,0,1,0,0,1,1,0,0]) (by kernel_rfl) (abG s i) (fun j=>j≤(kR i).length∧∀p,p<j→(kR i).getD p 0≠(2:Int)) (fun j=>(kR i).length-j) 0 ?_ ⟨Nat.zero_le _,fun p hp=>absurd hp (Nat.not_lt_zero _)⟩ ?_
   ·exact AS.bJ (by kernel_rfl)
   ·rintro j ⟨hj,hjn⟩
    refine dI (aj:=Ji) ?_
    refine bD (fun ZT ZW ZQ _ ZA _=>((((decide ((↑j:Int)<↑(kR ↑i).length))=true)→(((0≤(↑j:Int))∧((↑j:Int)<↑(kR ↑i).length))∧((((kR ↑i).getD (↑j:Int).toNat 0==2)=true)→(((di (↑i)):DV)=(di (tH 2))))∧((((kR ↑i).getD (↑j:Int).toNat 0==2)=false)→((I64 (↑j+1))∧(ZA (aI ZT [0,1]))))))∧(((decide ((↑j:Int)<↑(kR ↑i).length))=false)→ZW [(.blk 1),cd Tryz.f121 [1,0,1,0,0,1,1]] (aI ZT [1]) ZQ))) (by kernel_rfl) ?_
    simp only[gZ]
    refine⟨fun h1=>?_,fun h1=>?_⟩
    ·have hj2:j<(kR i).length:=by have:=dW h1;omega
     refine⟨⟨by omega,by omega⟩,fun h3=>?_,fun h3=>⟨⟨by omega,by omega⟩,Again.mk (j+1) ?_ ⟨hj2,fun p hp=>?_⟩ (by omega)⟩⟩
     ·have h3:(kR i).getD j 0=(2:Int):=by simpa using h3
      rw[ZG (v:=i) (by omega) (by
       rw[←h3,List.getD,iy hj2]
       exact List.getElem_mem hj2)]
     ·exact AS.bJ (by kernel_rfl)
     ·rcases Nat.lt_or_ge p j with h4|h4
      ·exact hjn p h4
      ·obtain rfl:p=j:=by omega
       simpa using h3
    ·simp only[decide_eq_false_iff_not] at h1
     have hj2:j=(kR i).length:=by omega
     refine dI (aj:=Ji) ?_
     refine bD (fun ZT _ _ _ ZA _=>((I64 (↑i+1))∧(ZA (aI ZT [])))) (by kernel_rfl) ?_
     refine⟨⟨by omega,by omega⟩,Again.mk (i+1) ?_ ⟨by omega,by omega,fun v v1 v2 hm=>?_⟩ (by omega)⟩
     ·exact AS.bJ (by kernel_rfl)
     ·by_cases hv:v=i
      ·subst hv
       obtain ⟨p,hp,hpe⟩:=List.getElem_of_mem hm
       refine hjn p (by omega) ?_
       rw[List.getD,iy hp];exact hpe
      ·exact hn v v1 (by omega) hm
  ·simp only[decide_eq_false_iff_not] at h
   refine dI (aj:=Ji) ?_
   refine aJ (fun _ _ _ _=>(((false=true)→(((di 3):DV)=(di (tH 2))))∧((false=false)→(((false=true)→(((di 7):DV)=(di (tH 2))))∧((false=false)→(((false=true)→(((false=true)→(((di 8):DV)=(di (tH 2))))∧((false=false)→(((di 0):DV)=(di (tH 2))))))∧((false=false)→(((true=true)→(((true=true)→(((di 8):DV)=(di (tH 2))))∧((true=false)→(((di 0):DV)=(di (tH 2))))))∧((true=false)→(((false=true)→(((false=true)→(((di 8):DV)=(di (tH 2))))∧((false=false)→(((di 0):DV)=(di (tH 2))))))∧((false=false)→(((false=true)→(((false=true)→(((di 8):DV)=(di (tH 2))))∧((false=false)→(((di 0):DV)=(di (tH 2))))))∧((false=false)→(((false=true)→(((false=true)→(((di 8):DV)=(di (tH 2))))∧((false=false)→(((di 0):DV)=(di (tH 2))))))∧((false=false)→(((false=true)→(((di 8):DV)=(di (tH 2))))∧((false=false)→(((di 0):DV)=(di (tH 2)))))))))))))))))))) (by kernel_rfl) ?_
   rw[YX (fun v v1 v2=>hn v v1 (by omega))]
   repeat' (first|(with_reducible refine And.intro ?_ ?_)|(with_reducible intro _))
   all_goals (try simp only[beq_iff_eq,beq_eq_false_iff_ne,ne_eq] at *)
   all_goals first
    | contradiction
    | (refine congrArg di ?_;simp[*];done)
def rG:iw:=fun f a=>match f,a with
 | 118,_=>some (di 1)
 | 119,[.agg [_,.con (.string s),_,_,_,_]]=>some (db (nameB s))
 | 120,[.agg [_,.con (.string s),_,_,_,_]]=>some (ds s)
 | 100,[.agg [_,.con (.string s),_,_,_,_]]=>some (ds (if nameB s then s else .empty))
 | 141,[.con (.string s)]=>some (db (nameB s))
 | 122,[.con (.string s)]=>some (db (nameB s))
 | 101,[.agg [_,.con (.string s),_,_,_,_]]=>some (db (nameB s))
 | 102,_=>some (di 1)
 | 103,[.agg [_,.con (.string s),_,_,_,_]]=>some (ds s)
 | 121,_=>some (di 8)
 | 82,[.agg [_,.con (.string s),_,_,_,_]]=>some (db (nameB s))
 | 81,[.con (.string s)]=>some (db (nameB s))
 | 48,[.con (.string s)]=>some (db (nameB s))
 | 47,[k]=>some (db (nameB (FB k).st&&(nameB (FB k).ex&&(decide (1≤(FB k).n)&&decide ((FB k).n≤16)))))
 | _,_=>none
noncomputable def adx (s:ByteArray):AS:=⟨regs Tryz.f118.ntmps [(3,vi 0),(8,vi 0),(9,vi 0)],[(1,(Q9 s).map .d)]⟩
theorem f118 (s:ByteArray):au Tryz.prog G 118 [eN s] (di 1):=by
 refine au.walk (aj:=rG) (keep:=[]) follows Tryz.func118 rfl Tryz.call118 ?_
 refine aJ (fun ZT ZW ZQ _=>ZW [cd Tryz.f118 [1,1,0,1,0],(.blk 0),cd Tryz.f118 [1,1,1]] (aI ZT []) ZQ) (by kernel_rfl) ?_
 refine bK.loop (c:=aU (ak Tryz.f118) [1,1,0,1,0,0]) (by kernel_rfl) (fun _:Nat=>adx s) (fun _=>True) (fun j=>1-j) 0 ?_ trivial ?_
 ·exact AS.bJ (by kernel_rfl)
 ·rintro j -
  refine walk (aj:=rG) (keep:=[]) (cuts:=[4]) (n:=1000) follows ?_
  refine bD (fun ZT ZW ZQ _ _ ZR=>(((false=true)→ZW [cd Tryz.f118 [1,1,0,1,0,0,1,1,0,0],(.blk 1),cd Tryz.f118 [1,1,0,1,0,0,1,1,1]] (aI ZT [0]) ZR)∧((false=false)→ZW [cd Tryz.f118 [1,1,1]] (aI ZT [1]) ZQ))) (by kernel_rfl) ?_
  refine⟨fun c=>(by cases c),fun _=>?_⟩
  refine dI (aj:=rG) ?_
  refine aJ (fun _ _ _ _=>((I64 (0+1))∧(ZS ((di 1):DV)))) (by kernel_rfl) ?_
  exact⟨⟨by decide,by decide⟩,rfl⟩
noncomputable def ad9 (s:ByteArray):AS:=⟨regs Tryz.f102.ntmps [(1,.box 1 0),(3,vi 0),(4,vi 0)],[(1,(Q9 s).map .d)]⟩
theorem f102 (s:ByteArray):au Tryz.prog G 102 [eN s] (di 1):=by
 refine au.walk (aj:=rG) (keep:=[]) follows Tryz.func102 rfl Tryz.call102 ?_
 refine aJ (fun ZT ZW ZQ _=>ZW [cd Tryz.f102 [1,1,0,1,0],(.blk 0),cd Tryz.f102 [1,1,1]] (aI ZT []) ZQ) (by kernel_rfl) ?_
 refine bK.loop (c:=aU (ak Tryz.f102) [1,1,0,1,0,0]) (by kernel_rfl) (fun _:Nat=>ad9 s) (fun _=>True) (fun j=>1-j) 0 ?_ trivial ?_
 ·exact AS.bJ (by kernel_rfl)
 ·rintro j -
  refine walk (aj:=rG) (keep:=[]) (cuts:=[5]) (n:=1000) follows ?_
  refine bD (fun ZT ZW ZQ _ _ ZR=>(((false=true)→ZW [cd Tryz.f102 [1,1,0,1,0,0,1,0,0],(.blk 1),cd Tryz.f102 [1,1,0,1,0,0,1,1]] (aI ZT [0]) ZR)∧((false=false)→ZW [cd Tryz.f102 [1,1,1]] (aI ZT [1]) ZQ))) (by kernel_rfl) ?_
  refine⟨fun c=>(by cases c),fun _=>?_⟩
  refine dI (aj:=rG) ?_
  refine aJ (fun _ _ _ _=>((I64 (0+1))∧(ZS ((di 1):DV)))) (by kernel_rfl) ?_
  exact⟨⟨by decide,by decide⟩,rfl⟩
theorem f119 (s:ByteArray) (hs:s.size≤1000000):au Tryz.prog G 119 [eN s] (db (nameB s)):=by
 refine au.eG Tryz.func119 rfl Tryz.call119 ?_
 refine walk (aj:=rG) (keep:=[]) (cuts:=[3,7]) (n:=1000) follows ?_
 refine aJ (fun ZT ZW ZQ ZK=>(((false=true)→ZW [cd Tryz.f119 [1,0,1,0,1,0],(.blk 0),cd Tryz.f119 [1,1]] (aI ZT [0]) ZQ)∧((false=false)→(((true=true)→(ZK 141 [(ds s)] (db (nameB s))∧((db (nameB s&&true&&(↑0:Int)==0)):DV)=(db (nameB s))))∧((true=false)→ZW [cd Tryz.f119 [1,0,1,0,1,1,1,1,0],cd Tryz.f119 [1,0,1,0,1,1,1,1,1],(.blk 0),cd Tryz.f119 [1,1]] (aI ZT [1,1]) ZQ))))) (by kernel_rfl) ?_
 refine⟨fun c=>(by cases c),fun _=>⟨fun _=>⟨f141 s hs,?_⟩,fun c=>(by cases c)⟩⟩
 refine congrArg db ?_
 cases nameB s<;>rfl
theorem f120 (s:ByteArray):au Tryz.prog G 120 [eN s] (ds s):=by
 refine au.eG Tryz.func120 rfl Tryz.call120 ?_
 refine walk (aj:=rG) (keep:=[]) (cuts:=[3,7]) (n:=1000) follows ?_
 refine aJ (fun ZT ZW ZQ _=>(((false=true)→ZW [cd Tryz.f120 [1,0,1,0,1,0],(.blk 0),cd Tryz.f120 [1,1]] (aI ZT [0]) ZQ)∧((false=false)→(((true=true)→(ZS ((ds s):DV)))∧((true=false)→ZW [cd Tryz.f120 [1,0,1,0,1,1,1,1],(.blk 0),cd Tryz.f120 [1,1]] (aI ZT [1,1]) ZQ))))) (by kernel_rfl) ?_
 exact⟨fun c=>(by cases c),fun _=>⟨fun _=>rfl,fun c=>(by cases c)⟩⟩
theorem f103 (s:ByteArray):au Tryz.prog G 103 [eN s] (ds s):=by
 refine au.eG Tryz.func103 rfl Tryz.call103 ?_
 refine walk (aj:=rG) (keep:=[]) (cuts:=[4]) (n:=1000) follows ?_
 refine aJ (fun ZT ZW ZQ _=>(((true=true)→(ZS ((ds s):DV)))∧((true=false)→ZW [cd Tryz.f103 [1,0,1,0,1,1],(.blk 0),cd Tryz.f103 [1,1]] (aI ZT [1]) ZQ))) (by kernel_rfl) ?_
 exact⟨fun _=>rfl,fun c=>(by cases c)⟩
theorem f100 (s:ByteArray) (hs:s.size≤1000000):au Tryz.prog G 100 [eN s] (ds (if nameB s then s else .empty)):=by
 refine au.walk (aj:=rG) (keep:=[]) follows Tryz.func100 rfl Tryz.call100 ?_
 refine aJ (fun _ _ _ ZK=>(fun Za=>((ZK 118 [Za] (di 1)∧((true=true)→ZK 119 [Za] (db (nameB s))))∧(((decide ((1:Int)>(32:Int))||!nameB s)=true)→(((ds (ByteArray.mk #[])):DV)=(ds (if nameB s=true then s else ByteArray.empty))))∧(((decide ((1:Int)>(32:Int))||!nameB s)=false)→(ZK 120 [Za] (ds s)∧(((decide ((↑s.size:Int)>16384))=true)→(((ds (ByteArray.mk #[])):DV)=(ds (if nameB s=true then s else ByteArray.empty))))∧(((decide ((↑s.size:Int)>16384))=false)→(((ds s):DV)=(ds (if nameB s=true then s else ByteArray.empty)))))))) ((.agg [(di 2),(ds s),(di 0),(di 0),(di 0),bY]):DV)) (by kernel_rfl) ?_
 try dsimp only
 have hsz:nameB s=true→s.size≤16:=fun h=>by
  unfold nameB at h
  simp only[aV,eF] at h
  exact h.2.1
 refine⟨⟨f118 s,fun _=>f119 s hs⟩,fun h=>?_,fun h=>⟨f120 s,fun h2=>?_,fun h2=>?_⟩⟩
 ·cases hn:nameB s with
  | true=>rw[hn] at h;cases h
  | false=>rfl
 ·have hn:nameB s=true:=by
   cases hn:nameB s with
   | true=>rfl
   | false=>rw[hn] at h;cases h
  have:=hsz hn
  have:=dW h2
  omega
 ·have hn:nameB s=true:=by
   cases hn:nameB s with
   | true=>rfl
   | false=>rw[hn] at h;cases h
  rw[if_pos hn]
noncomputable def aee (s:ByteArray):AS:=⟨regs Tryz.f101.ntmps [(1,.box 1 0),(4,vi 0),(7,vi 0)],[(1,(Q9 s).map .d)]⟩
theorem f101 (s:ByteArray) (hs:s.size≤1000000):au Tryz.prog G 101 [eN s] (db (nameB s)):=by
 refine au.eG Tryz.func101 rfl Tryz.call101 ?_
 refine walk (aj:=rG) (keep:=[]) (cuts:=[10]) (n:=1000) follows ?_
 refine aJ (fun ZT ZW ZQ ZK=>(ZK 121 [(.agg [(di 2),(ds s),(di 0),(di 0),(di 0),bY])] (di 8)∧((((8:Int)==(0:Int)||(2:Int) != (2:Int)&&!ByteArray.toList s==ByteArray.toList { data:=#[] }||(2:Int) != (1:Int)&&!true)=true)→(((db false):DV)=(db (nameB s))))∧((((8:Int)==(0:Int)||(2:Int) != (2:Int)&&!ByteArray.toList s==ByteArray.toList { data:=#[] }||(2:Int) != (1:Int)&&!true)=false)→(((true=true)→(ZK 122 [(ds s)] (db (nameB s))∧(((!nameB s||decide ((0:Int)>(0:Int)))=true)→(((db false):DV)=(db (nameB s))))∧(((!nameB s||decide ((0:Int)>(0:Int)))=false)→ZW [cd Tryz.f101 [1,1,1,1,1,0,1,0],(.blk 1),cd Tryz.f101 [1,1,1,1,1,1]] (aI ZT [1,0,1]) ZQ)))∧((true=false)→ZW [cd Tryz.f101 [1,1,1,1,0,0,1,1],(.blk 0),cd Tryz.f101 [1,1,1,1,1]] (aI ZT [1,1]) ZQ))))) (by kernel_rfl) ?_
 refine⟨f121 s,fun h=>?_,fun _=>⟨fun _=>⟨f122 s hs,fun h=>?_,fun h=>?_⟩,fun c=>(by cases c)⟩⟩
 ·exfalso
  rw[Bo] at h
  revert h
  cases decide (s.size=0)<;>exact fun h=>absurd h (by decide)
 ·cases hn:nameB s with
  | true=>rw[hn] at h;exact absurd h (by decide)
  | false=>rfl
 ·have hn:nameB s=true:=by
   cases hn:nameB s with
   | true=>rfl
   | false=>rw[hn] at h;exact absurd h (by decide)
  refine bK.loop (c:=aU (ak Tryz.f101) [1,1,1,1,1,0,1,0,0]) (by kernel_rfl) (fun _:Nat=>aee s) (fun _=>True) (fun j=>1-j) 0 ?_ trivial ?_
  ·exact AS.bJ (by kernel_rfl)
  ·rintro j -
   refine walk (aj:=rG) (keep:=[]) (cuts:=[26]) (n:=1000) follows ?_
   refine bD (fun ZT ZW ZQ _ _ ZR=>(((false=true)→ZW [cd Tryz.f101 [1,1,1,1,1,0,1,0,0,1,0,0],(.blk 2),cd Tryz.f101 [1,1,1,1,1,0,1,0,0,1,1]] (aI ZT [0]) ZR)∧((false=false)→ZW [cd Tryz.f101 [1,1,1,1,1,1]] (aI ZT [1]) ZQ))) (by kernel_rfl) ?_
   refine⟨fun c=>(by cases c),fun _=>?_⟩
   refine dI (aj:=rG) ?_
   refine aJ (fun _ _ _ _=>(((db true):DV)=(db (nameB s)))) (by kernel_rfl) ?_
   rw[hn]
theorem f82 (s:ByteArray) (hs:s.size≤1000000):au Tryz.prog G 82 [eN s] (db (nameB s)):=by
 refine au.walk (aj:=rG) (keep:=[]) follows Tryz.func82 rfl Tryz.call82 ?_
 refine aJ (fun _ _ _ ZK=>(fun Za=>((ZK 101 [Za] (db (nameB s))∧(((nameB s)=true)→ZK 102 [Za] (di 1))∧(((nameB s&&decide ((1:Int)≤(32:Int)))=true)→ZK 103 [Za] (ds s)))∧((db (nameB s&&decide ((1:Int)≤(32:Int))&&decide ((↑(ByteArray.size s):Int)≤(16384:Int)))):DV)=(db (nameB s)))) ((.agg [(di 2),(ds s),(di 0),(di 0),(di 0),bY]):DV)) (by kernel_rfl) ?_
 try dsimp only
 have hsz:nameB s=true→s.size≤16:=fun h=>by
  unfold nameB at h
  simp only[aV,eF] at h
  exact h.2.1
 refine⟨⟨f101 s hs,fun _=>f102 s,fun _=>f103 s⟩,congrArg db ?_⟩
 cases hn:nameB s with
 | false=>rfl
 | true=>
  have:=hsz hn
  rw[decide_eq_true (show ((s.size:Nat):Int)≤16384 by omega)];rfl
theorem f81 (s:ByteArray) (hs:s.size≤1000000):au Tryz.prog G 81 [ds s] (db (nameB s)):=by
 refine au.walk (aj:=rG) (keep:=[]) follows Tryz.func81 rfl Tryz.call81 ?_
 refine aJ (fun _ _ _ ZK=>(ZK 100 [(.agg [(di 2),(ds s),(di 0),(di 0),(di 0),bY])] (ds (if nameB s=true then s else ByteArray.empty))∧((db (!(if nameB s=true then s else ByteArray.empty).toList==(ByteArray.mk #[]).toList)):DV)=(db (nameB s)))) (by kernel_rfl) ?_
 refine⟨f100 s hs,congrArg db ?_⟩
 cases hn:nameB s with
 | false=>rw[if_neg (by decide),Bo];rfl
 | true=>
  unfold nameB at hn
  simp only[aV,eF] at hn
  rw[if_pos rfl,Bo,decide_eq_false (by omega)];rfl
theorem f48 (s:ByteArray) (hs:s.size≤1000000):au Tryz.prog G 48 [ds s] (db (nameB s)):=by
 refine au.walk (aj:=rG) (keep:=[]) follows Tryz.func48 rfl Tryz.call48 ?_
 refine aJ (fun _ _ _ ZK=>(ZK 82 [(.agg [(di 2),(ds s),(di 0),(di 0),(di 0),bY])] (db (nameB s))∧(ZS ((db (nameB s)):DV)))) (by kernel_rfl) ?_
 exact⟨f82 s hs,rfl⟩
theorem aaW (a b:Int):(a==b)=decide (a=b):=by rw[Bool.eq_iff_iff];simp
def Bh (k:Ky):Bool:=nameB k.st&&(nameB k.ex&&(decide (1≤k.n)&&decide (k.n≤16)))
def aS (e:Ev):Bool:=decide (0≤e.kind)&&(decide (e.kind≤3)&&(Bh e.k&&(decide (0≤e.t)&&(decide (e.t≤1099511627776)&&(decide (e.s.size≤4096) &&
 (if e.kind=1 then decide (1≤e.v)&&(decide (e.v≤1048576)&&(decide (0≤e.h)&&(decide (e.h≤100000000)&&!e.acc))) else decide (e.v=0)&&(decide (e.h=0)&&(!e.acc||decide (e.kind=3)))))))))
theorem jX {e:Ev} (h:aS e=true):lY e:=by
 unfold aS at h
 simp only[aV,eF] at h
 obtain ⟨h1,h2,_,_,_,_,h3⟩:=h
 refine⟨by omega,fun hk=>?_,fun hk=>?_⟩
 ·rw[if_neg hk] at h3
  simp only[aV,eF] at h3
  exact⟨h3.1,h3.2.1⟩
 ·by_cases k1:e.kind=1
  ·rw[if_pos k1] at h3
   simp only[aV,Bool.not_eq_true'] at h3
   exact h3.2.2.2.2
  ·rw[if_neg k1] at h3
   simp only[aV,Bool.or_eq_true,Bool.not_eq_true',eF] at h3
   exact h3.2.2.resolve_right hk
def V4:iw:=fun f a=>match f,a with
 | 81,[.con (.string s)]=>some (db (nameB s))
 | 48,[.con (.string s)]=>some (db (nameB s))
 | 47,[k]=>some (db (Bh (FB k)))
 | 18,[e]=>some (db (aS (jH e)))
 | 19,[e]=>some (db (aS (jH e)))
 | _,_=>none
theorem f47 (k:Ky) (h1:k.st.size≤1000000) (h2:k.ex.size≤1000000):au Tryz.prog G 47 [XV k] (db (Bh k)):=by
 refine au.walk (aj:=V4) (keep:=[]) follows Tryz.func47 rfl Tryz.call47 ?_
 refine aJ (fun _ _ _ ZK=>((ZK 81 [(ds k.st)] (db (nameB k.st))∧(((nameB k.st)=true)→ZK 81 [(ds k.ex)] (db (nameB k.ex))))∧((db (nameB k.st&&nameB k.ex&&decide (k.n≥1)&&decide (k.n≤16))):DV)=(db (Bh k)))) (by kernel_rfl) ?_
 refine⟨⟨f81 _ h1,fun _=>f81 _ h2⟩,congrArg db ?_⟩
 unfold Bh
 simp only[Bool.and_assoc,ge_iff_le]
theorem f18 (e:Ev) (h1:e.k.st.size≤1000000) (h2:e.k.ex.size≤1000000):au Tryz.prog G 18 [fQ e] (db (aS e)):=by
 refine au.walk (aj:=V4) (keep:=[]) follows Tryz.func18 rfl Tryz.call18 ?_
 refine aJ (fun _ _ _ ZK=>(fun Za=>((((!(decide (e.kind<0)||decide (e.kind>3)))=true)→ZK 47 [(.agg [(ds e.k.st),(ds e.k.ex),(di e.k.n)])] (db (Bh (FB (DV.agg [ds e.k.st,ds e.k.ex,di e.k.n])))))∧((Za=true)→(((db false):DV)=(db (aS e))))∧((Za=false)→((((e.kind==1)=true)→(((db (decide (e.v≥1)&&decide (e.v≤1048576)&&decide (e.h≥0)&&decide (e.h≤100000000)&&!e.acc)):DV)=(db (aS e))))∧(((e.kind==1)=false)→(((db (e.v==0&&e.h==0&&(!e.acc||e.kind==3))):DV)=(db (aS e)))))))) (decide (e.kind<0)||decide (e.kind>3)||!Bh (FB (DV.agg [ds e.k.st,ds e.k.ex,di e.k.n]))||decide (e.t<0)||decide (e.t>1099511627776)||decide ((↑e.s.size:Int)>4096))) (by kernel_rfl) ?_
 try dsimp only
 simp only[FB,Ky.eta]
 refine⟨fun _=>f47 e.k h1 h2,fun h=>?_,fun h=>?_⟩
 ·refine congrArg db ?_
  symm
  rw[Bool.eq_false_iff]
  intro hk
  unfold aS at hk
  simp only[aV,eF] at hk
  obtain ⟨q1,q2,q3,q4,q5,q6,_⟩:=hk
  simp only[Bool.or_eq_true,eF,q3] at h
  rcases h with ((((h|h)|h)|h)|h)|h
  ·omega
  ·omega
  ·cases h
  ·omega
  ·omega
  ·omega
 ·simp only[Bool.or_eq_false_iff,decide_eq_false_iff_not,Bool.not_eq_false'] at h
  obtain ⟨⟨⟨⟨⟨q1,q2⟩,q3⟩,q4⟩,q5⟩,q6⟩:=h
  have e0:aS e=if e.kind=1 then decide (1≤e.v)&&(decide (e.v≤1048576)&&(decide (0≤e.h)&&(decide (e.h≤100000000)&&!e.acc))) else decide (e.v=0)&&(decide (e.h=0)&&(!e.acc||decide (e.kind=3))):=by
   unfold aS
   rw[decide_eq_true (show 0≤e.kind by omega),decide_eq_true (show e.kind≤3 by omega),q3,decide_eq_true (show 0≤e.t by omega),decide_eq_true (show e.t≤1099511627776 by omega),decide_eq_true (show e.s.size≤4096 by omega)]
   simp only[Bool.true_and]
  rw[e0]
  refine⟨fun h=>congrArg db ?_,fun h=>congrArg db ?_⟩
  ·rw[if_pos (eq_of_beq h)]
   simp only[Bool.and_assoc,ge_iff_le]
  ·rw[if_neg (ne_of_beq_false h)]
   simp only[Bool.and_assoc,aaW]
theorem f19 (e:Ev) (h1:e.k.st.size≤1000000) (h2:e.k.ex.size≤1000000):au Tryz.prog G 19 [fQ e] (db (aS e)):=by
 refine au.walk (aj:=V4) (keep:=[]) follows Tryz.func19 rfl Tryz.call19 ?_
 refine aJ (fun _ _ _ ZK=>(fun Za=>(((((!(decide (e.kind<0)||decide (e.kind>3)))=true)→ZK 48 [(ds e.k.st)] (db (nameB e.k.st)))∧(((!(decide (e.kind<0)||decide (e.kind>3)||!nameB e.k.st))=true)→ZK 48 [(ds e.k.ex)] (db (nameB e.k.ex))))∧((Za=true)→(((db false):DV)=(db (aS e))))∧((Za=false)→((((e.kind != 1)=true)→(((db (e.v==0&&e.h==0)):DV)=(db (aS e))))∧(((e.kind != 1)=false)→(((db (decide (e.v≥1)&&decide (e.v≤1048576)&&decide (e.h≥0)&&decide (e.h≤100000000))):DV)=(db (aS e)))))))) (decide (e.kind<0)||decide (e.kind>3)||!nameB e.k.st||!nameB e.k.ex||decide (e.k.n<1)||decide (e.k.n>16)||decide (e.t<0)||decide (e.t>1099511627776)||decide ((↑e.s.size:Int)>4096)||e.acc&&e.kind != 3)) (by kernel_rfl) ?_
 refine⟨⟨fun _=>f48 _ h1,fun _=>f48 _ h2⟩,fun h=>?_,fun h=>?_⟩
 ·refine congrArg db ?_
  symm
  rw[Bool.eq_false_iff]
  intro hk
  have hf:=(jX hk).2.2
  unfold aS Bh at hk
  simp only[aV,eF] at hk
  obtain ⟨q1,q2,⟨p1,p2,p3,p4⟩,q4,q5,q6,_⟩:=hk
  simp only[Bool.or_eq_true,aV,eF,p1,p2,bne_iff_ne,ne_eq] at h
  rcases h with ((((((((h|h)|h)|h)|h)|h)|h)|h)|h)|h
  ·omega
  ·omega
  ·cases h
  ·cases h
  ·omega
  ·omega
  ·omega
  ·omega
  ·omega
  ·rw[hf h.2] at h;exact absurd h.1 (by decide)
 ·simp only[Bool.or_eq_false_iff,decide_eq_false_iff_not,Bool.not_eq_false'] at h
  obtain ⟨⟨⟨⟨⟨⟨⟨⟨⟨q1,q2⟩,p1⟩,p2⟩,p3⟩,p4⟩,q4⟩,q5⟩,q6⟩,q7⟩:=h
  have e0:aS e=if e.kind=1 then decide (1≤e.v)&&(decide (e.v≤1048576)&&(decide (0≤e.h)&&(decide (e.h≤100000000)&&!e.acc))) else decide (e.v=0)&&(decide (e.h=0)&&(!e.acc||decide (e.kind=3))):=by
   unfold aS Bh
   rw[decide_eq_true (show 0≤e.kind by omega),decide_eq_true (show e.kind≤3 by omega),p1,p2,decide_eq_true (show 1≤e.k.n by omega),decide_eq_true (show e.k.n≤16 by omega),decide_eq_true (show 0≤e.t by omega),decide_eq_true (show e.t≤1099511627776 by omega),decide_eq_true (show e.s.size≤4096 by omega)]
   simp only[Bool.true_and]
  rw[e0]
  refine⟨fun h=>congrArg db ?_,fun h=>congrArg db ?_⟩
  ·have hk:e.kind≠1:=by simpa using h
   rw[if_neg hk]
   have:(!e.acc||decide (e.kind=3))=true:=by
    by_cases k3:e.kind=3
    ·simp[k3]
    ·have:e.acc=false:=by
      cases ha:e.acc with
      | false=>rfl
      | true=>rw[ha] at q7;simp[k3] at q7
     rw[this];rfl
   rw[this,Bool.and_true]
   simp only[aaW]
  ·have hk:e.kind=1:=by simpa using h
   rw[if_pos hk]
   have:e.acc=false:=by
    cases ha:e.acc with
    | false=>rfl
    | true=>rw[ha,hk] at q7;exact absurd q7 (by decide)
   rw[this]
   simp only[Bool.and_assoc,Bool.not_false,Bool.and_true,ge_iff_le]
theorem vg {α:Type} {d:α} {a b:List α} (h:a.length=b.length) (hi:∀i,i<a.length→a.getD i d=b.getD i d):a=b:=by
 refine List.ext_getElem h fun i h1 h2=>?_
 have:=hi i h1
 rwa [List.getD,List.getD,iy h1,iy h2] at this
theorem OH (a b:Ev):((a.kind==b.kind)&&(((ByteArray.toList a.k.st==ByteArray.toList b.k.st)&&((ByteArray.toList a.k.ex==ByteArray.toList b.k.ex)&&(a.k.n==b.k.n)))&&((a.t==b.t)&&((a.v==b.v)&&((a.h==b.h)&&((ByteArray.toList a.s==ByteArray.toList b.s)&&(a.acc==b.acc)))))))=decide (a=b):=by
 obtain ⟨a1,⟨a2,a3,a4⟩,a5,a6,a7,a8,a9⟩:=a
 obtain ⟨b1,⟨b2,b3,b4⟩,b5,b6,b7,b8,b9⟩:=b
 rw[dO,dO,dO,Bool.eq_iff_iff]
 simp only[aV,beq_iff_eq,eF,Ev.mk.injEq,Ky.mk.injEq,and_assoc]
theorem Vo (a b:Gv):((a.v==b.v)&&((a.h==b.h)&&((a.t==b.t)&&(ByteArray.toList a.s==ByteArray.toList b.s))))=decide (a=b):=by
 obtain ⟨a1,a2,a3,a4⟩:=a
 obtain ⟨b1,b2,b3,b4⟩:=b
 rw[dO,Bool.eq_iff_iff]
 simp only[aV,beq_iff_eq,eF,Gv.mk.injEq]
theorem VY (a b:Al):((a.t==b.t)&&((ByteArray.toList a.s==ByteArray.toList b.s)&&((a.dec==b.dec)&&((a.acc==b.acc)&&((a.at_==b.at_)&&(ByteArray.toList a.ans==ByteArray.toList b.ans))))))=decide (a=b):=by
 obtain ⟨a1,a2,a3,a4,a5,a6⟩:=a
 obtain ⟨b1,b2,b3,b4,b5,b6⟩:=b
 rw[dO,dO,Bool.eq_iff_iff]
 simp only[aV,beq_iff_eq,eF,Al.mk.injEq]
noncomputable def S15 (a b:List Gv) (k:Nat):AS:=⟨regs Tryz.f15.ntmps [(0,.d (.slc 4 a.length (dX a))),(1,.d (.slc 4 b.length (dX b))),(12,vi a.length),(13,vi k)],[]⟩
theorem f15 (a b:List Gv) (ha:a.length≤1000000):au Tryz.prog G 15 [.slc 4 a.length (dX a),.slc 4 b.length (dX b)] (db (decide (a=b))):=by
 refine au.walk (aj:=bU) (keep:=[]) follows Tryz.func15 rfl Tryz.call15 ?_
 refine aJ (fun ZT ZW ZQ _=>(((((↑a.length:Int) != ↑b.length)=true)→(((db false):DV)=(db (decide (a=b)))))∧((((↑a.length:Int) != ↑b.length)=false)→ZW [cd Tryz.f15 [1,1,0,1,0],(.blk 0),cd Tryz.f15 [1,1,1]] (aI ZT [1]) ZQ))) (by kernel_rfl) ?_
 refine⟨fun hne=>?_,fun heq=>?_⟩
 ·rw[decide_eq_false]
  rintro rfl
  simp at hne
 have heq:a.length=b.length:=by
  have h0:(a.length:Int)=b.length:=by simpa using heq
  omega
 refine bK.loop (c:=aU (ak Tryz.f15) [1,1,0,1,0,0]) (by kernel_rfl) (S15 a b) (fun k=>k≤a.length∧∀i,i<k→a.getD i fC=b.getD i fC) (fun k=>a.length-k) 0 ?_ ⟨Nat.zero_le _,fun i hi=>absurd hi (Nat.not_lt_zero _)⟩ ?_
 ·exact AS.bJ (by kernel_rfl)
 ·rintro k ⟨hk,hkd⟩
  refine dI (aj:=bU) ?_
  refine bD (fun ZT ZW ZQ _ ZA _=>(fun Za=>((((decide ((↑k:Int)<↑a.length))=true)→((((0≤(↑k:Int))∧((↑k:Int)<↑a.length))∧(0≤(↑k:Int))∧((↑k:Int)<↑b.length))∧((Za=true)→(((db false):DV)=(db (decide (a=b)))))∧((Za=false)→((I64 (↑k+1))∧(ZA (aI ZT [0,1]))))))∧(((decide ((↑k:Int)<↑a.length))=false)→ZW [cd Tryz.f15 [1,1,1]] (aI ZT [1]) ZQ))) (!Bool.rec false ((a.getD (↑k:Int).toNat fC).h==(b.getD (↑k:Int).toNat fC).h&&((a.getD (↑k:Int).toNat fC).t==(b.getD (↑k:Int).toNat fC).t&&(a.getD (↑k:Int).toNat fC).s.toList==(b.getD (↑k:Int).toNat fC).s.toList)) ((a.getD (↑k:Int).toNat fC).v==(b.getD (↑k:Int).toNat fC).v))) (by kernel_rfl) ?_
  try dsimp only
  simp only[gZ,nY,Vo]
  refine⟨fun h=>?_,fun h=>?_⟩
  ·have hk2:k<a.length:=by have:=dW h;omega
   refine⟨⟨⟨by omega,by omega⟩,⟨by omega,by omega⟩⟩,fun h2=>?_,fun h2=>⟨⟨by omega,by omega⟩,Again.mk (k+1) ?_ ⟨hk2,fun i hi=>?_⟩ (by omega)⟩⟩
   ·rw[decide_eq_false]
    rintro rfl
    simp at h2
   ·exact AS.bJ (by kernel_rfl)
   ·rcases Nat.lt_or_ge i k with h4|h4
    ·exact hkd i h4
    ·obtain rfl:i=k:=by omega
     simpa using h2
  ·simp only[decide_eq_false_iff_not] at h
   refine dI (aj:=bU) ?_
   refine aJ (fun _ _ _ _=>(((db true):DV)=(db (decide (a=b))))) (by kernel_rfl) ?_
   rw[decide_eq_true (vg heq fun i hi=>hkd i (by omega))]
noncomputable def S66 (a b:List Al) (k:Nat):AS:=⟨regs Tryz.f66.ntmps [(0,.d (.slc 6 a.length (dN a))),(1,.d (.slc 6 b.length (dN b))),(12,vi a.length),(13,vi k)],[]⟩
theorem f66 (a b:List Al) (ha:a.length≤1000000):au Tryz.prog G 66 [.slc 6 a.length (dN a),.slc 6 b.length (dN b)] (db (decide (a=b))):=by
 refine au.walk (aj:=bU) (keep:=[]) follows Tryz.func66 rfl Tryz.call66 ?_
 refine aJ (fun ZT ZW ZQ _=>(((((↑a.length:Int) != ↑b.length)=true)→(((db false):DV)=(db (decide (a=b)))))∧((((↑a.length:Int) != ↑b.length)=false)→ZW [cd Tryz.f66 [1,1,0,1,0],(.blk 0),cd Tryz.f66 [1,1,1]] (aI ZT [1]) ZQ))) (by kernel_rfl) ?_
 refine⟨fun hne=>?_,fun heq=>?_⟩
 ·rw[decide_eq_false]
  rintro rfl
  simp at hne
 have heq:a.length=b.length:=by
  have h0:(a.length:Int)=b.length:=by simpa using heq
  omega
 refine bK.loop (c:=aU (ak Tryz.f66) [1,1,0,1,0,0]) (by kernel_rfl) (S66 a b) (fun k=>k≤a.length∧∀i,i<k→a.getD i cu=b.getD i cu) (fun k=>a.length-k) 0 ?_ ⟨Nat.zero_le _,fun i hi=>absurd hi (Nat.not_lt_zero _)⟩ ?_
 ·exact AS.bJ (by kernel_rfl)
 ·rintro k ⟨hk,hkd⟩
  refine dI (aj:=bU) ?_
  refine bD (fun ZT ZW ZQ _ ZA _=>(fun Za=>((((decide ((↑k:Int)<↑a.length))=true)→((((0≤(↑k:Int))∧((↑k:Int)<↑a.length))∧(0≤(↑k:Int))∧((↑k:Int)<↑b.length))∧((Za=true)→(((db false):DV)=(db (decide (a=b)))))∧((Za=false)→((I64 (↑k+1))∧(ZA (aI ZT [0,1]))))))∧(((decide ((↑k:Int)<↑a.length))=false)→ZW [cd Tryz.f66 [1,1,1]] (aI ZT [1]) ZQ))) (!Bool.rec false ((a.getD (↑k:Int).toNat cu).s.toList==(b.getD (↑k:Int).toNat cu).s.toList&&((a.getD (↑k:Int).toNat cu).dec==(b.getD (↑k:Int).toNat cu).dec&&((a.getD (↑k:Int).toNat cu).acc==(b.getD (↑k:Int).toNat cu).acc&&((a.getD (↑k:Int).toNat cu).at_==(b.getD (↑k:Int).toNat cu).at_&&(a.getD (↑k:Int).toNat cu).ans.toList==(b.getD (↑k:Int).toNat cu).ans.toList)))) ((a.getD (↑k:Int).toNat cu).t==(b.getD (↑k:Int).toNat cu).t))) (by kernel_rfl) ?_
  try dsimp only
  simp only[gZ,nY,VY]
  refine⟨fun h=>?_,fun h=>?_⟩
  ·have hk2:k<a.length:=by have:=dW h;omega
   refine⟨⟨⟨by omega,by omega⟩,⟨by omega,by omega⟩⟩,fun h2=>?_,fun h2=>⟨⟨by omega,by omega⟩,Again.mk (k+1) ?_ ⟨hk2,fun i hi=>?_⟩ (by omega)⟩⟩
   ·rw[decide_eq_false]
    rintro rfl
    simp at h2
   ·exact AS.bJ (by kernel_rfl)
   ·rcases Nat.lt_or_ge i k with h4|h4
    ·exact hkd i h4
    ·obtain rfl:i=k:=by omega
     simpa using h2
  ·simp only[decide_eq_false_iff_not] at h
   refine dI (aj:=bU) ?_
   refine aJ (fun _ _ _ _=>(((db true):DV)=(db (decide (a=b))))) (by kernel_rfl) ?_
   rw[decide_eq_true (vg heq fun i hi=>hkd i (by omega))]
end Go.Proofs
