import Derived.Test.YtcfclncbpeahnaaGreatDoorAcD
import Derived.Test.YtcfclncbpeahnaaGreatDoorG0
import Derived.Test.YtcfclncbpeahnaaGreatDoorG3
import Derived.Shelf.Strings.Prefix
import Derived.Test.YtcfclncbpeahnaaGreatDoorProg
import Derived.Test.YtcfclncbpeahnaaGreatDoorG2
/- ae2,the program's side: runs of bytes,white space,numbers. -/
set_option autoImplicit false
namespace Go.Proofs
open Go Go.Ab Go.RowKit
set_option maxHeartbeats 1000000
set_option maxRecDepth 100000
variable {G:IH}
def jM (p:Int→Bool) (s:ByteArray):Nat:=bC (fun c=>p (c.toNat:Int)) s.data.toList
theorem rG {p:Int→Bool} {s:ByteArray} {k:Nat} (h1:k≤s.size) (h2:∀i,i<k→p (byteAt s i)=true) (h3:k<s.size→p (byteAt s k)=false):jM p s=k:=by
 have hl:s.data.toList.length=s.size:=Array.length_toList
 refine rX (by omega) (fun i h hi=>?_) (fun h=>?_)
 ·have:=h2 i hi
  rw[dU (by omega)] at this;exact this
 ·have:=h3 (by omega)
  rw[dU (by omega)] at this;exact this
def XT (p:Int→Bool):cZ:=fun _ a=>match a with
 | [b8 c]=>some (db (p c))
 | _=>none
noncomputable def aen (q:FuncId) (s:ByteArray) (k:Nat):AS:=⟨regs Tryz.f61.ntmps [(0,vs s),(1,.d (.con (.func (.func q) #[] #[]))),(5,vi k)],[]⟩
theorem Yq (p:Int→Bool) (q:FuncId) (hq:∀c,ay Tryz.prog G q [b8 c] (db (p c))) (s:ByteArray) (hs:s.size≤1000000):ay Tryz.prog G 61 [ds s,.con (.func (.func q) #[] #[])] (di (jM p s)):=by
 refine ay.walk (aj:=XT p) (keep:=[]) follows Tryz.func61 rfl Tryz.call61 ?_
 refine au (fun ZT ZW ZQ _=>ZW [cd Tryz.f61 [1,1,0,0],(.blk 0),cd Tryz.f61 [1,1,1]] (aB ZT []) ZQ) (by kernel_rfl) ?_
 refine aK.loop (c:=aY (aC Tryz.f61) [1,1,0,0,0]) (by kernel_rfl) (aen q s) (fun k=>k≤s.size∧∀i,i<k→p (byteAt s i)=true) (fun k=>s.size-k) 0 ?_ ⟨Nat.zero_le _,fun i hi=>by omega⟩ ?_
 ·exact AS.bV (by kernel_rfl)
 ·rintro k ⟨hk,hkd⟩
  refine walk (aj:=XT p) (keep:=[]) (cuts:=[]) (n:=1000) follows ?_
  refine bZ (fun ZT ZW ZQ ZK ZA _=>(((((decide ((↑k:Int)<↑s.size))=true)→((0≤(↑k:Int))∧((↑k:Int)<↑s.size)))∧(((decide ((↑k:Int)<↑s.size))=true)→ZK q [(.con (.int .u8 (byteAt s (↑k:Int).toNat)))] (db (p (byteAt s (↑k:Int).toNat)))))∧(((decide ((↑k:Int)<↑s.size)&&p (byteAt s (↑k:Int).toNat))=true)→((I64 (↑k+1))∧(ZA (aB ZT [0]))))∧(((decide ((↑k:Int)<↑s.size)&&p (byteAt s (↑k:Int).toNat))=false)→ZW [cd Tryz.f61 [1,1,1]] (aB ZT [1]) ZQ))) (by kernel_rfl) ?_
  simp only[Int.toNat_natCast]
  refine⟨⟨fun h=>?_,fun _=>hq _⟩,fun h=>?_,fun h=>?_⟩
  ·simp only[decide_eq_true_eq] at h
   exact⟨by omega,by omega⟩
  ·simp only[aV,decide_eq_true_eq] at h
   refine⟨⟨by omega,by omega⟩,Again.mk (k+1) ?_ ⟨by omega,fun i hi=>?_⟩ (by omega)⟩
   ·exact AS.bV (by kernel_rfl)
   ·rcases Nat.lt_or_ge i k with h1|h1
    ·exact hkd i h1
    ·obtain rfl:i=k:=by omega
     exact h.2
  ·have hst:jM p s=k:=rG hk hkd fun h1=>by
    simp only[Bool.and_eq_false_imp,decide_eq_true_eq] at h
    exact h (by omega)
   refine walk (aj:=XT p) (keep:=[]) (cuts:=[]) (n:=1000) follows ?_
   refine au (fun _ _ _ _=>(((di (↑k)):DV)=(di ↑(jM p s)))) (by kernel_rfl) ?_
   rw[hst]
def iM (c:Int):Bool:=c != 10
theorem f62 (c:Int):ay Tryz.prog G 62 [b8 c] (db (iM c)):=by
 refine ay.walk (aj:=nV) (keep:=[]) follows Tryz.func62 rfl Tryz.call62 ?_
 refine au (fun _ _ _ _=>(((db (c != 10)):DV)=(db (iM c)))) (by kernel_rfl) ?_
 rfl
theorem adU (s:ByteArray) (hs:s.size≤1000000):ay Tryz.prog G 61 [ds s,.con (.func (.func 62) #[] #[])] (di (jM iM s)):=Yq iM 62 f62 s hs
theorem aaZ (s:ByteArray) (hs:s.size≤1000000):ay Tryz.prog G 61 [ds s,.con (.func (.func 63) #[] #[])] (di (jM bQ s)):=Yq bQ 63 f63 s hs
theorem aeM (s:ByteArray) (hs:s.size≤1000000):ay Tryz.prog G 61 [ds s,.con (.func (.func 66) #[] #[])] (di (jM fP s)):=Yq fP 66 f66 s hs
def yL (s:ByteArray):Nat:=bH false s.data.toList
theorem Hz (p:UInt8→Bool) (l:List UInt8):bC p l≤l.length:=(List.takeWhile_prefix p).length_le
theorem abH {c:UInt8}:iM (c.toNat:Int) = !(c==10):=by
 unfold iM
 rw[Bool.eq_iff_iff]
 simp only[bne_iff_ne,ne_eq,Bool.not_eq_true',beq_eq_false_iff_ne]
 refine not_congr ⟨fun h=>UInt8.toNat_inj.1 (by show c.toNat=10;omega),fun h=>by rw[h];rfl⟩
theorem JJ:∀l:List UInt8,bH true l=bC (fun c=>iM (c.toNat:Int)) l+bH false (l.drop (bC (fun c=>iM (c.toNat:Int)) l))
 | []=>rfl
 | c :: l=>by
  unfold bC
  rw[List.takeWhile_cons,bH,abH]
  cases hc:c==10 with
  | true=>
   simp only[Bool.not_true,Bool.false_eq_true,if_false,if_true,List.length_nil,List.drop_zero]
   rw[bH]
   have:D7 c=true:=by unfold D7;rw[hc];simp
   rw[this];simp
  | false=>
   simp only[Bool.not_false,if_true,Bool.false_eq_true,if_false,List.length_cons,List.drop_succ_cons]
   have:=JJ l
   unfold bC at this
   omega
theorem EL:∀(b:Bool) (l:List UInt8),bH b l≤l.length
 | _,[]=>by cases ‹Bool›<;>exact Nat.le_refl _
 | false,c :: l=>by
  have h1:=EL false l
  have h2:=EL true l
  rw[bH,List.length_cons];split
  ·omega
  ·split<;>omega
 | true,c :: l=>by
  have h1:=EL false l
  have h2:=EL true l
  rw[bH,List.length_cons];split<;>omega
theorem Oj {s:ByteArray} {k:Nat} (hk:k<s.size) (h:D7 (s.data.toList[k]'(by rw[Array.length_toList];exact hk))=true):bH false (s.data.toList.drop k)=1+bH false (s.data.toList.drop (k+1)):=by
 rw[List.drop_eq_getElem_cons (by rw[Array.length_toList];exact hk),bH,h];rfl
theorem Vs (c:UInt8):D7 c=(((c.toNat:Int)==32||(c.toNat:Int)==9)||(c.toNat:Int)==10||(c.toNat:Int)==13):=by
 have h:∀k:UInt8,(c==k)=((c.toNat:Int)==(k.toNat:Int)):=fun k=>by
  rw[Bool.eq_iff_iff,beq_iff_eq,beq_iff_eq]
  exact⟨fun h=>by rw[h],fun h=>UInt8.toNat_inj.1 (by omega)⟩
 unfold D7
 rw[h 32,h 9,h 10,h 13];rfl
noncomputable def SX:cZ:=fun f a=>match f,a with
 | 61,[.con (.string s),_]=>some (di (jM iM s))
 | _,_=>none
noncomputable def S31 (s:ByteArray) (k:Nat):AS:=⟨regs Tryz.f31.ntmps [(0,vs s),(3,vi k)],[]⟩
end Go.Proofs
/- White space in front of a text,the program's side. -/
namespace Go.Proofs
open Go Go.Ab Go.RowKit
set_option maxHeartbeats 1000000
set_option maxRecDepth 100000
variable {G:IH}
theorem kL (s:ByteArray) (k:Nat):(s.extract k s.size).data.toList=s.data.toList.drop k:=by
 have hl:s.data.toList.length=s.size:=Array.length_toList
 rw[kQ,List.take_of_length_le (by rw[List.length_drop];omega)]
theorem f31 (s:ByteArray) (hs:s.size≤1000000):ay Tryz.prog G 31 [ds s] (di (yL s)):=by
 have hl:s.data.toList.length=s.size:=Array.length_toList
 refine ay.aP Tryz.func31 rfl Tryz.call31 ?_
 refine aF (aj:=SX) (keep:=[]) (cuts:=[]) (n:=1000) follows ?_
 refine au (fun ZT ZW ZQ _=>ZW [cd Tryz.f31 [1,1,0,0],(.blk 0),cd Tryz.f31 [1,1,1]] (aB ZT []) ZQ) (by kernel_rfl) ?_
 refine aK.loop (c:=aY (aC Tryz.f31) [1,1,0,0,0]) (by kernel_rfl) (S31 s) (fun k=>k≤s.size∧yL s=k+bH false (s.data.toList.drop k)) (fun k=>s.size-k) 0 ?_ ⟨Nat.zero_le _,by simp[yL]⟩ ?_
 ·exact AS.bV (by kernel_rfl)
 ·rintro k ⟨hk,hkd⟩
  refine aF (aj:=SX) (keep:=[]) (cuts:=[]) (n:=1000) follows ?_
  refine bZ (fun ZT ZW ZQ ZK ZA _=>(fun Za=>((((decide ((↑k:Int)<↑s.size))=true)→(((0≤(↑k:Int))∧((↑k:Int)<↑s.size))∧(((byteAt s (↑k:Int).toNat==32)=true)→((I64 (↑k+1))∧(ZA (aB ZT [0,0]))))∧(((byteAt s (↑k:Int).toNat==32)=false)→((((byteAt s (↑k:Int).toNat==9)=true)→((I64 (↑k+1))∧(ZA (aB ZT [0,1,0]))))∧(((byteAt s (↑k:Int).toNat==9)=false)→((((byteAt s (↑k:Int).toNat==10)=true)→((I64 (↑k+1))∧(ZA (aB ZT [0,1,1,0]))))∧(((byteAt s (↑k:Int).toNat==10)=false)→((((byteAt s (↑k:Int).toNat==13)=true)→((I64 (↑k+1))∧(ZA (aB ZT [0,1,1,1,0]))))∧(((byteAt s (↑k:Int).toNat==13)=false)→((((byteAt s (↑k:Int).toNat==35)=true)→((((0≤(↑k:Int))∧((↑k:Int)≤↑s.size)∧((↑s.size:Int)≤↑s.size))∧ZK 61 [(ds Za),(.con (.func (.func 62) ⟨[]⟩ ⟨[]⟩))] (di (↑(jM iM Za)))∧(I64 (↑k + ↑(jM iM Za))))∧(ZA (aB ZT [0,1,1,1,1,0]))))∧(((byteAt s (↑k:Int).toNat==35)=false)→(((di (↑k)):DV)=(di ↑(yL s))))))))))))))∧(((decide ((↑k:Int)<↑s.size))=false)→ZW [cd Tryz.f31 [1,1,1]] (aB ZT [1]) ZQ))) (s.extract (↑k:Int).toNat (↑s.size:Int).toNat)) (by kernel_rfl) ?_
  try dsimp only
  have hex:s.extract (k:Int).toNat (s.size:Int).toNat=s.extract k s.size:=by rw[Int.toNat_natCast,Int.toNat_natCast]
  refine⟨fun h0=>?_,fun h0=>?_⟩
  ·have hk1:k<s.size:=by simp only[decide_eq_true_eq] at h0;omega
   have hb:=dU hk1
   have hkn:(k:Int).toNat=k:=Int.toNat_natCast k
   rw[hkn]
   have hwh:=Vs (s.data.toList[k]'(by rw[hl];exact hk1))
   rw[←hb] at hwh
   have YE:D7 (s.data.toList[k]'(by rw[hl];exact hk1))=true→(k+1≤s.size∧yL s=((k+1:Nat):Nat)+bH false (s.data.toList.drop (k+1))):=fun h=>⟨by omega,by rw[hkd,Oj hk1 h];omega⟩
   refine⟨⟨by omega,by omega⟩,fun h1=>⟨⟨by omega,by omega⟩,?_⟩,fun h1=>⟨fun h2=>⟨⟨by omega,by omega⟩,?_⟩,fun h2=>⟨fun h3=>⟨⟨by omega,by omega⟩,?_⟩,fun h3=>⟨fun h4=>⟨⟨by omega,by omega⟩,?_⟩,fun h4=>⟨fun h5=>?_,fun h5=>?_⟩⟩⟩⟩⟩
   ·refine Again.mk (k+1) ?_ (YE (by rw[hwh,h1];rfl)) (by omega)
    exact AS.bV (by kernel_rfl)
   ·refine Again.mk (k+1) ?_ (YE (by rw[hwh,h1,h2];rfl)) (by omega)
    exact AS.bV (by kernel_rfl)
   ·refine Again.mk (k+1) ?_ (YE (by rw[hwh,h1,h2,h3];rfl)) (by omega)
    exact AS.bV (by kernel_rfl)
   ·refine Again.mk (k+1) ?_ (YE (by rw[hwh,h1,h2,h3,h4];rfl)) (by omega)
    exact AS.bV (by kernel_rfl)
   ·rw[Int.toNat_natCast]
    have hc:s.data.toList[k]'(by rw[hl];exact hk1)=35:=by
     rw[hb] at h5
     simp only[beq_iff_eq] at h5
     exact UInt8.toNat_inj.1 (by show _=35;omega)
    have hr:jM iM (s.extract k s.size)=bC (fun c=>iM (c.toNat:Int)) (s.data.toList.drop k):=by unfold jM;rw[kL]
    have hd:s.data.toList.drop k=35 :: s.data.toList.drop (k+1):=by rw[List.drop_eq_getElem_cons (by rw[hl];exact hk1),hc]
    have hle:=Hz (fun c=>iM (c.toNat:Int)) (s.data.toList.drop k)
    rw[List.length_drop,hl] at hle
    have hpos:bC (fun c=>iM (c.toNat:Int)) (s.data.toList.drop k)=1+bC (fun c=>iM (c.toNat:Int)) (s.data.toList.drop (k+1)):=by
     rw[hd];unfold bC
     rw[List.takeWhile_cons,show iM (((35:UInt8).toNat:Nat):Int)=true from by decide]
     simp only[if_true,List.length_cons];omega
    have hs1:bH false (s.data.toList.drop k)=1+bH true (s.data.toList.drop (k+1)):=by
     rw[hd,bH,show D7 35=false from by decide];rfl
    refine⟨⟨⟨by omega,by omega,by omega⟩,adU _ (by rw[ByteArray.size_extract];omega),by rw[hr];omega,by rw[hr];omega⟩,Again.mk (k+jM iM (s.extract k s.size)) ?_ ⟨by rw[hr];omega,?_⟩ (by rw[hr];omega)⟩
    ·exact AS.bV (by kernel_rfl)
    ·rw[hkd,hs1,JJ,hr,hpos,←Nat.add_assoc,←Nat.add_assoc,List.drop_drop]
     rw[show k+1+bC (fun c=>iM (c.toNat:Int)) (s.data.toList.drop (k+1))=k+(1+bC (fun c=>iM (c.toNat:Int)) (s.data.toList.drop (k+1))) by omega]
   ·have:bH false (s.data.toList.drop k)=0:=by
     rw[List.drop_eq_getElem_cons (by rw[hl];exact hk1),bH,hwh,h1,h2,h3,h4]
     have hn:(s.data.toList[k]'(by rw[hl];exact hk1)==35)=false:=by
      rw[beq_eq_false_iff_ne];intro hh
      rw[hb,hh] at h5;exact absurd h5 (by decide)
     rw[hn];rfl
    rw[hkd,this];rfl
  ·have hk1:k=s.size:=by simp only[decide_eq_false_iff_not] at h0;omega
   refine aF (aj:=SX) (keep:=[]) (cuts:=[]) (n:=1000) follows ?_
   refine au (fun _ _ _ _=>(((di (↑k)):DV)=(di ↑(yL s)))) (by kernel_rfl) ?_
   have:bH false (s.data.toList.drop k)=0:=by rw[List.drop_of_length_le (by omega)];rfl
   rw[hkd,this];rfl
open Go.Shelf
def Tryz.lays99_ren:Go.Shelf.Ren:=⟨fun|99=>68|206=>107|n=>n,fun|9=>9|4=>4|3=>3|n=>n,fun|n=>n⟩
theorem Tryz.lays99:Go.Proofs.Lays.n99 Tryz.prog Tryz.lays99_ren:={
 mixed:=by kernel_rfl
 f99:=Tryz.func68.trans (congrArg some (by kernel_rfl))
 f206:=Tryz.func107.trans (congrArg some (by kernel_rfl))
 t3:=Tryz.underlying3
 a3:=Tryz.isAgg3
 z3:=Tryz.sizeOf3
 v3:=Tryz.zeroValue3
 t4:=Tryz.underlying4
 a4:=Tryz.isAgg4
 z4:=Tryz.sizeOf4
 v4:=Tryz.zeroValue4
 t9:=Tryz.underlying9
 a9:=Tryz.isAgg9
 z9:=Tryz.sizeOf9
 v9:=Tryz.zeroValue9 }
open Go.RowKit Go.Lib in
theorem Tryz.strings_HasPrefix (s p:ByteArray) (w:World) :
  Calls Tryz.prog 68 #[.string s,.string p] w fun e w'=>e=.returned (.bool (Lib.hasPrefix s.data.toList p.data.toList))∧w'=w:=Any.strings_HasPrefix Tryz.lays99 s p w
end Go.Proofs
/- Numbers and words in front of a text,the program's side. -/
namespace Go.Proofs
open Go Go.Ab Go.RowKit
set_option maxHeartbeats 1000000
set_option maxRecDepth 100000
variable {G:IH}
noncomputable def Ti (n d e:Int) (r:Nat):cZ:=fun f a=>match f,a with
 | 61,[.con (.string _),_]=>some (di r)
 | 63,[b8 c]=>some (db (bQ c))
 | 66,[b8 c]=>some (db (fP c))
 | 106,[.con (.string _)]=>some (.ak [fr n d,di e])
 | _,_=>none
def SS (l:List UInt8) (n:Nat):Int×Int:=
 if l[n]?.any (fun c=>dM c||c==46) then (0,3) else if (fK (iZ (l.take n))).2.2≠0 then (0,(fK (iZ (l.take n))).2.2) else (n,0)
theorem Rn (l:List UInt8):rY l=SS l (fQ l):=rfl
noncomputable def S64 (s:ByteArray) (n:Nat):AS:=⟨regs Tryz.f64.ntmps [(0,vs s),(4,vi n)],[]⟩
theorem qw {s:ByteArray} {k:Nat} (h:k<s.size):∃c,s.data.toList[k]?=some c∧byteAt s k=(c.toNat:Int):=by
 have hl:s.data.toList.length=s.size:=Array.length_toList
 exact⟨s.data.toList[k]'(by omega),iT (by omega),dU h⟩
theorem eq_46 (c:UInt8):(c==46)=((c.toNat:Int)==46):=by
 rw[Bool.eq_iff_iff,beq_iff_eq,beq_iff_eq]
 exact⟨fun h=>by rw[h];rfl,fun h=>UInt8.toNat_inj.1 (by show c.toNat=46;omega)⟩
theorem yZ (s:ByteArray) (k:Nat):s.extract 0 k=iZ (s.data.toList.take k):=by
 have:(s.extract 0 k).data.toList=s.data.toList.take k:=by rw[kQ];rfl
 rw[←this,IK]
theorem YG (s:ByteArray) (hs:s.size≤900000) (n:Nat) (hn:n≤s.size):aK Tryz.prog G [.code (aY (aC Tryz.f64) [1,1,1,0]),.code (aY (aC Tryz.f64) [1,1,1,1])] (S64 s n) (tC Tryz.prog Tryz.f64 (.ak [di (SS s.data.toList n).1,di (SS s.data.toList n).2])):=by
 have hl:s.data.toList.length=s.size:=Array.length_toList
 have hp:ay Tryz.prog G 106 [ds (s.extract 0 n)] (fe (fK (s.extract 0 n))):=f106 _ (by rw[ByteArray.size_extract];omega)
 rw[yZ] at hp
 have hC:SS s.data.toList n=if s.data.toList[n]?.any (fun c=>dM c||c==46) then ((0,3):Int×Int) else if (fK (iZ (s.data.toList.take n))).2.2≠0 then (0,(fK (iZ (s.data.toList.take n))).2.2) else (n,0):=rfl
 rw[hC]
 revert hp
 rcases fK (iZ (s.data.toList.take n)) with ⟨a,b,e⟩
 intro hp
 refine aF (aj:=Ti a b e 0) (keep:=[]) (cuts:=[]) (n:=1000) follows ?_
 refine au (fun _ _ _ ZK=>(fun Za=>(((((decide ((↑n:Int)<↑s.size))=true)→((0≤(↑n:Int))∧((↑n:Int)<↑s.size)))∧(((decide ((↑n:Int)<↑s.size))=true)→ZK 66 [(.con (.int .u8 (byteAt s (↑n:Int).toNat)))] (db (fP (byteAt s (↑n:Int).toNat))))∧(((decide ((↑n:Int)<↑s.size)&&!fP (byteAt s (↑n:Int).toNat))=true)→((0≤(↑n:Int))∧((↑n:Int)<↑s.size))))∧((Za=true)→(((.ak [(di 0),(di 3)]):DV)=(.ak [(di (if Option.any (fun c=>dM c||c==46) s.data.toList[n]?=true then (0,3) else if (a,b,e).snd.snd≠0 then (0,(a,b,e).snd.snd) else (↑n,0)).fst),(di (if Option.any (fun c=>dM c||c==46) s.data.toList[n]?=true then (0,3) else if (a,b,e).snd.snd≠0 then (0,(a,b,e).snd.snd) else ((↑n:Int),0)).snd)])))∧((Za=false)→(((((0:Int)≤(0:Int))∧(0≤(↑n:Int))∧((↑n:Int)≤↑s.size))∧ZK 106 [(ds (s.extract (Int.toNat 0) (↑n:Int).toNat))] (.ak [(.agg [(di a),(di b)]),(di e)]))∧(((e != 0)=true)→(((.ak [(di 0),(di e)]):DV)=(.ak [(di (if Option.any (fun c=>dM c||c==46) s.data.toList[n]?=true then (0,3) else if (a,b,e).snd.snd≠0 then (0,(a,b,e).snd.snd) else (↑n,0)).fst),(di (if Option.any (fun c=>dM c||c==46) s.data.toList[n]?=true then (0,3) else if (a,b,e).snd.snd≠0 then (0,(a,b,e).snd.snd) else ((↑n:Int),0)).snd)])))∧(((e != 0)=false)→(((.ak [(di (↑n)),(di 0)]):DV)=(.ak [(di (if Option.any (fun c=>dM c||c==46) s.data.toList[n]?=true then (0,3) else if (a,b,e).snd.snd≠0 then (0,(a,b,e).snd.snd) else (↑n,0)).fst),(di (if Option.any (fun c=>dM c||c==46) s.data.toList[n]?=true then (0,3) else if (a,b,e).snd.snd≠0 then (0,(a,b,e).snd.snd) else ((↑n:Int),0)).snd)]))))))) (decide ((↑n:Int)<↑s.size)&&(fP (byteAt s (↑n:Int).toNat)||byteAt s (↑n:Int).toNat==46))) (by kernel_rfl) ?_
 try dsimp only
 have z0:Int.toNat (0:Int)=0:=rfl
 rw[Int.toNat_natCast,z0,yZ]
 try dsimp only
 have hany:∀b:Bool,(decide ((n:Int)<s.size)&&(fP (byteAt s n)||byteAt s n==46))=b→s.data.toList[n]?.any (fun c=>dM c||c==46)=b:=by
  rintro b rfl
  by_cases h:n<s.size
  ·obtain ⟨c,h1,h2⟩:=qw h
   rw[h1,h2,decide_eq_true (by omega:(n:Int)<s.size),Option.any_some,eq_46];rfl
  ·rw[List.getElem?_eq_none (by omega),decide_eq_false (by omega:¬(n:Int)<s.size)];rfl
 refine⟨⟨fun h=>?_,fun _=>f66 _,fun h=>?_⟩,fun h=>?_,fun h=>⟨⟨⟨by omega,by omega,by omega⟩,hp⟩,fun h2=>?_,fun h2=>?_⟩⟩
 ·simp only[decide_eq_true_eq] at h;omega
 ·simp only[aV,decide_eq_true_eq] at h;omega
 ·rw[if_pos (hany true h)]
 ·rw[if_neg (by rw[hany false h];decide),if_pos (by simpa using h2)]
 ·rw[if_neg (by rw[hany false h];decide),if_neg (by simpa using h2)]
theorem VF (l:List UInt8) (n:Nat) (hn:n=min (bC bJ l) 9) (b:Bool) (hb:b=((l[n]?.any fun c=>c==46)&&l[n+1]?.any bJ)):fQ l=if b=true then n+(1+min (bC bJ (l.drop (n+1))) 6) else n:=by
 subst hn;subst hb
 unfold fQ
 split<;>omega
theorem acM (s:ByteArray) (hs:s.size≤900000) (n:Nat) (hnn:n=min (jM bQ s) 9):aK Tryz.prog G [.code (aY (aC Tryz.f64) [1,1,0]),.code (aY (aC Tryz.f64) [1,1,1])] (S64 s n) (tC Tryz.prog Tryz.f64 (.ak [di (rY s.data.toList).1,di (rY s.data.toList).2])):=by
 have hl:s.data.toList.length=s.size:=Array.length_toList
 have hrl:jM bQ s≤s.size:=by unfold jM;rw[←hl];exact Hz _ _
 have hn:n≤s.size:=by omega
 obtain ⟨m,hm⟩:∃m,m=jM bQ (s.extract (n+1) s.size):=⟨_,rfl⟩
 have hm2:m=bC bJ (s.data.toList.drop (n+1)):=by rw[hm];unfold jM;rw[kL];rfl
 have hml:m≤s.size-(n+1):=by
  rw[hm2]
  have:=Hz bJ (s.data.toList.drop (n+1))
  rw[List.length_drop,hl] at this;exact this
 have Qv:=aaZ (G:=G) (s.extract (n+1) s.size) (by rw[ByteArray.size_extract];omega)
 rw[←hm] at Qv
 refine aF (aj:=Ti 0 0 0 m) (keep:=[]) (cuts:=[4]) (n:=1000) follows ?_
 refine au (fun ZT ZW ZQ ZK=>(fun Za Zb=>(((I64 (↑n+1))∧(((decide ((↑n:Int)+1<↑s.size))=true)→((0≤(↑n:Int))∧((↑n:Int)<↑s.size)))∧((Za=true)→(I64 (↑n+1)))∧((Za=true)→((0≤(↑n:Int)+1)∧((↑n:Int)+1<↑s.size)))∧((Za=true)→ZK 63 [(.con (.int .u8 (byteAt s ((↑n:Int)+1).toNat)))] (db (bQ (byteAt s ((↑n:Int)+1).toNat)))))∧((Zb=true)→(((I64 (↑n+1))∧((0≤(↑n:Int)+1)∧((↑n:Int)+1≤↑s.size)∧((↑s.size:Int)≤↑s.size))∧ZK 61 [(ds (s.extract ((↑n:Int)+1).toNat (↑s.size:Int).toNat)),(.con (.func (.func 63) ⟨[]⟩ ⟨[]⟩))] (di (↑m))∧(I64 (1+if 6<(↑m:Int) then 6 else ↑m))∧(I64 ((↑n:Int)+(1+if 6<(↑m:Int) then 6 else ↑m))))∧ZW [cd Tryz.f64 [1,1,1,0],cd Tryz.f64 [1,1,1,1]] (aB ZT [0]) ZQ))∧((Zb=false)→ZW [cd Tryz.f64 [1,1,1,0],cd Tryz.f64 [1,1,1,1]] (aB ZT [1]) ZQ))) (decide ((↑n:Int)+1<↑s.size)&&byteAt s (↑n:Int).toNat==46) (decide ((↑n:Int)+1<(↑s.size:Int))&&byteAt s ((↑n:Int):Int).toNat==46&&bQ (byteAt s ((↑n:Int)+1).toNat))) (by kernel_rfl) ?_
 try dsimp only
 have e1:((n:Int)+1).toNat=n+1:=by omega
 rw[Int.toNat_natCast,e1,Int.toNat_natCast]
 have key:(decide ((n:Int)+1<s.size)&&byteAt s n==46&&bQ (byteAt s (n+1)))=((s.data.toList[n]?.any fun c=>c==46)&&s.data.toList[n+1]?.any bJ):=by
  by_cases h:n+1<s.size
  ·obtain ⟨c,h1,h2⟩:=qw (show n<s.size by omega)
   obtain ⟨d,h3,h4⟩:=qw h
   rw[h1,h3,h2,h4,decide_eq_true (by omega:(n:Int)+1<s.size),Option.any_some,Option.any_some,eq_46,Bool.true_and];rfl
  ·rw[decide_eq_false (by omega:¬(n:Int)+1<s.size),List.getElem?_eq_none (l:=s.data.toList) (i:=n+1) (by omega)];simp
 have hE:=VF s.data.toList n (by rw[hnn];rfl) _ key
 refine⟨⟨⟨by omega,by omega⟩,fun h=>?_,fun _=>⟨by omega,by omega⟩,fun h=>?_,fun _=>f63 _⟩,fun h=>⟨⟨⟨by omega,by omega⟩,⟨by omega,?_,by omega⟩,Qv,?_,?_⟩,?_⟩,fun h=>?_⟩
 ·simp only[decide_eq_true_eq] at h;omega
 ·simp only[aV,decide_eq_true_eq] at h;omega
 ·simp only[aV,decide_eq_true_eq] at h;omega
 ·split<;>exact⟨by omega,by omega⟩
 ·split<;>exact⟨by omega,by omega⟩
 ·rw[h,if_pos rfl,←hm2] at hE
  have h6:((n:Int)+(1+if 6<(m:Int) then 6 else (m:Int)))=((n+(1+min m 6):Nat):Int):=by split<;>omega
  simp only[aV,decide_eq_true_eq] at h
  rw[Rn,hE]
  refine aK.weaken ?_ (YG s hs (n+(1+min m 6)) (by omega))
  refine AS.leZ [1] [] (b:=((T0∧((vi ((↑n:Int)+(1+if 6<(↑m:Int) then 6 else ↑m))):AV)=(vi (↑(n+(1+min m 6))))∧True)∧True)) (by kernel_rfl) (by kernel_rfl) ?_
  rw[h6]
  exact⟨⟨rfl,rfl,trivial⟩,trivial⟩
 ·rw[h,if_neg (by decide)] at hE
  rw[Rn,hE]
  refine aK.weaken ?_ (YG s hs n hn)
  exact AS.bV (by kernel_rfl)
theorem f64 (s:ByteArray) (hs:s.size≤900000):ay Tryz.prog G 64 [ds s] (.ak [di (rY s.data.toList).1,di (rY s.data.toList).2]):=by
 refine ay.aP Tryz.func64 rfl Tryz.call64 ?_
 have Qv:=aaZ (G:=G) s (by omega)
 revert Qv
 obtain ⟨r,hr⟩:∃r,r=jM bQ s:=⟨_,rfl⟩
 rw[←hr];intro Qv
 refine aF (aj:=Ti 0 0 0 r) (keep:=[]) (cuts:=[2]) (n:=1000) follows ?_
 refine au (fun ZT ZW ZQ ZK=>(ZK 61 [(ds s),(.con (.func (.func 63) ⟨[]⟩ ⟨[]⟩))] (di (↑r))∧ZW [cd Tryz.f64 [1,1,0],cd Tryz.f64 [1,1,1]] (aB ZT []) ZQ)) (by kernel_rfl) ?_
 refine⟨Qv,?_⟩
 refine aK.weaken ?_ (acM s hs (min r 9) (by rw[hr]))
 refine AS.leZ [1] [] (b:=((T0∧((vi (if 9<(↑r:Int) then 9 else ↑r)):AV)=(vi (↑(min r 9)))∧True)∧True)) (by kernel_rfl) (by kernel_rfl) ?_
 have h9:(if 9<(r:Int) then 9 else (r:Int))=((min r 9:Nat):Int):=by split<;>omega
 rw[h9]
 exact⟨⟨rfl,rfl,trivial⟩,trivial⟩
end Go.Proofs
/- Words in front of a text,the program's side. -/
namespace Go.Proofs
open Go Go.Ab Go.RowKit
set_option maxHeartbeats 1000000
set_option maxRecDepth 100000
variable {G:IH}
def qp:List ByteArray:=[⟨#[61,61]⟩,⟨#[33,61]⟩,⟨#[60,61]⟩,⟨#[62,61]⟩,⟨#[60]⟩,⟨#[62]⟩,⟨#[43]⟩,⟨#[45]⟩,⟨#[42]⟩,⟨#[47]⟩,⟨#[40]⟩,⟨#[41]⟩,⟨#[44]⟩,⟨#[58]⟩,⟨#[59]⟩]
theorem aac:qp.map (fun s=>s.data.toList)=wF:=by decide +kernel
theorem f67:ay Tryz.prog G 67 [] (xU qp):=by
 refine ay.res (r:=st1 qp) ?_ fun k v hv=>tu hv
 refine ay.aF (aj:=Fa) (keep:=[]) follows Tryz.func67 rfl Tryz.call67 ?_
 refine au (fun _ _ _ _=>(((.slc 1 15 (aS false 1 [(ds (ByteArray.mk #[61,61])),(ds (ByteArray.mk #[33,61])),(ds (ByteArray.mk #[60,61])),(ds (ByteArray.mk #[62,61])),(ds (ByteArray.mk #[60])),(ds (ByteArray.mk #[62])),(ds (ByteArray.mk #[43])),(ds (ByteArray.mk #[45])),(ds (ByteArray.mk #[42])),(ds (ByteArray.mk #[47])),(ds (ByteArray.mk #[40])),(ds (ByteArray.mk #[41])),(ds (ByteArray.mk #[44])),(ds (ByteArray.mk #[58])),(ds (ByteArray.mk #[59]))])):DV)=(st1 qp))) (by kernel_rfl) ?_
 rfl
def F9 (s p:ByteArray):Bool:=Lib.hasPrefix s.data.toList p.data.toList
theorem f68 (s p:ByteArray):ay Tryz.prog G 68 [ds s,ds p] (db (F9 s p)):=by
 refine ay.vg (args:=[.string s,.string p]) (v:=.bool _) Tryz.call68 fun w _=>?_
 refine Calls.mono (Tryz.strings_HasPrefix s p w) ?_
 rintro e w' ⟨he,rfl⟩
 exact⟨he,Below.refl _ _⟩
theorem BD {α:Type} {p:α→Bool} {d:α}:∀{l:List α} {k:Nat},k<l.length→(∀i,i<k→p (l.getD i d)=false)→p (l.getD k d)=true→l.find? p=some (l.getD k d)
 | [],k,h,_,_=>by simp at h
 | x :: l,0,_,_,h=>by
  have h:p x=true:=h
  rw[List.find?_cons,h];rfl
 | x :: l,k+1,hk,h1,h2=>by
  have h0:p x=false:=h1 0 (by omega)
  rw[List.find?_cons,h0]
  exact BD (l:=l) (by simpa using hk) (fun i hi=>h1 (i+1) (by omega)) h2
theorem Qy {α:Type} {p:α→Bool} {d:α} {l:List α} (h:∀i,i<l.length→p (l.getD i d)=false):l.find? p=none:=by
 rw[List.find?_eq_none]
 intro x hx
 obtain ⟨i,hi,rfl⟩:=List.getElem_of_mem hx
 have:=h i hi
 rw[List.getD,iT hi] at this
 rw[show p l[i]=false from this];decide
theorem EM (i:Nat):(qp.getD i .empty).data.toList=wF.getD i []:=by
 rw[←aac,List.getD,List.getD,List.getElem?_map]
 cases qp[i]?<;>rfl
noncomputable def SB (a b:Int):cZ:=fun f x=>match f,x with
 | 61,[.con (.string s),_]=>some (di (jM fP s))
 | 63,[b8 c]=>some (db (bQ c))
 | 65,[b8 c]=>some (db (eu c))
 | 64,[_]=>some (.ak [di a,di b])
 | 67,[]=>some (xU qp)
 | 68,[.con (.string s),.con (.string p)]=>some (db (F9 s p))
 | _,_=>none
noncomputable def aee (s:ByteArray) (k:Nat):AS:=⟨regs Tryz.f32.ntmps [(0,vs s),(24,.d (.slc 1 15 (iY qp))),(25,vi 15),(26,vi k)],[]⟩
theorem f32 (s:ByteArray) (hs:s.size≤900000) (h0:0<s.size):ay Tryz.prog G 32 [ds s] (.ak [di (dB s.data.toList).1,di (dB s.data.toList).2]):=by
 have h64:=f64 (G:=G) s hs
 obtain ⟨W,xK⟩:∃W,W=dB s.data.toList:=⟨_,rfl⟩
 obtain ⟨N,hNe⟩:∃N,N=rY s.data.toList:=⟨_,rfl⟩
 have hW:W=if bJ (s.data.toList.headD 0) then N else if oz (s.data.toList.headD 0) then if bC dM s.data.toList≤16 then ((bC dM s.data.toList,0):Int×Int) else (0,3) else match wF.find? fun x=>x.isPrefixOf s.data.toList with
  | some x=>(x.length,0)
  | none=>(0,3):=by rw[xK,hNe];rfl
 rw[←xK];rw[←hNe] at h64
 obtain ⟨c,hc,hb⟩:=qw h0
 have hh:s.data.toList.headD 0=c:=by
  cases e:s.data.toList with
  | nil=>rw[e] at hc;cases hc
  | cons x l=>rw[e] at hc;simpa using hc
 rw[hh] at hW
 have z0:Int.toNat (0:Int)=0:=rfl
 refine ay.aP Tryz.func32 rfl Tryz.call32 ?_
 refine aF (aj:=SB N.1 N.2) (keep:=[]) (cuts:=[]) (n:=1000) follows ?_
 refine au (fun ZT ZW ZQ ZK=>(((((0:Int)≤(0:Int))∧(0<(↑s.size:Int)))∧ZK 63 [(.con (.int .u8 (byteAt s (Int.toNat 0))))] (db (bQ (byteAt s (Int.toNat 0)))))∧(((bQ (byteAt s (Int.toNat 0)))=true)→(ZK 64 [(ds s)] (.ak [(di N.fst),(di N.snd)])∧((.ak [(di N.fst),(di N.snd)]):DV)=(.ak [(di W.fst),(di W.snd)])))∧(((bQ (byteAt s (Int.toNat 0)))=false)→(((((0:Int)≤(0:Int))∧(0<(↑s.size:Int)))∧ZK 65 [(.con (.int .u8 (byteAt s (Int.toNat 0))))] (db (eu (byteAt s (Int.toNat 0)))))∧(((eu (byteAt s (Int.toNat 0)))=true)→(ZK 61 [(ds s),(.con (.func (.func 66) ⟨[]⟩ ⟨[]⟩))] (di (↑(jM fP s)))∧(((decide ((↑(jM fP s):Int)≤16))=true)→(((.ak [(di (↑(jM fP s))),(di 0)]):DV)=(.ak [(di W.fst),(di W.snd)])))∧(((decide ((↑(jM fP s):Int)≤16))=false)→(((.ak [(di 0),(di 3)]):DV)=(.ak [(di W.fst),(di W.snd)])))))∧(((eu (byteAt s (Int.toNat 0)))=false)→(ZK 67 [] (.slc 1 15 (iY qp))∧ZW [cd Tryz.f32 [1,1,0,1,0],(.blk 1),cd Tryz.f32 [1,1,1]] (aB ZT [1,1]) ZQ)))))) (by kernel_rfl) ?_
 rw[z0,hb]
 refine⟨⟨⟨by omega,by omega⟩,f63 _⟩,fun h1=>⟨h64,?_⟩,fun h1=>⟨⟨⟨by omega,by omega⟩,f65 _⟩,fun h2=>⟨aeM s (by omega),fun h3=>?_,fun h3=>?_⟩,fun h2=>⟨f67,?_⟩⟩⟩
 ·rw[hW,if_pos (show bJ c=true from h1)]
 ·rw[hW,if_neg (by rw[show bJ c=false from h1];decide),if_pos (show oz c=true from h2),if_pos]
  ·rfl
  ·simp only[decide_eq_true_eq] at h3
   have:bC dM s.data.toList=jM fP s:=rfl
   omega
 ·rw[hW,if_neg (by rw[show bJ c=false from h1];decide),if_pos (show oz c=true from h2),if_neg]
  simp only[decide_eq_false_iff_not] at h3
  have:bC dM s.data.toList=jM fP s:=rfl
  omega
 ·rw[if_neg (by rw[show bJ c=false from h1];decide),if_neg (by rw[show oz c=false from h2];decide)] at hW
  refine aK.loop (c:=aY (aC Tryz.f32) [1,1,0,1,0,0]) (by kernel_rfl) (aee s) (fun k=>k≤15∧∀i,i<k→(wF.getD i []).isPrefixOf s.data.toList=false) (fun k=>15-k) 0 ?_ ⟨Nat.zero_le _,fun i hi=>by omega⟩ ?_
  ·exact AS.bV (by kernel_rfl)
  ·rintro k ⟨hk,hkd⟩
   refine aF (aj:=SB 0 0) (keep:=[]) (cuts:=[]) (n:=1000) follows ?_
   refine bZ (fun ZT ZW ZQ ZK ZA _=>(fun Za=>((((decide ((↑k:Int)<15))=true)→(((0≤(↑k:Int))∧((↑k:Int)<↑15))∧ZK 68 [(ds s),(ds Za)] (db (F9 s Za))∧(((F9 s Za)=true)→(((.ak [(di (↑Za.size)),(di 0)]):DV)=(.ak [(di W.fst),(di W.snd)])))∧(((F9 s Za)=false)→((I64 (↑k+1))∧(ZA (aB ZT [0,1]))))))∧(((decide ((↑k:Int)<15))=false)→ZW [cd Tryz.f32 [1,1,1]] (aB ZT [1]) ZQ))) (qp.getD (↑k:Int).toNat ByteArray.empty)) (by kernel_rfl) ?_
   try dsimp only
   have hP:F9 s (qp.getD k .empty)=(wF.getD k []).isPrefixOf s.data.toList:=by
    unfold F9 Lib.hasPrefix;rw[EM]
   have hz:((qp.getD k .empty).size:Int)=((wF.getD k []).length:Nat):=by
    rw[←EM];rfl
   rw[Int.toNat_natCast,hP]
   refine⟨fun h3=>?_,fun h3=>?_⟩
   ·simp only[decide_eq_true_eq] at h3
    refine⟨⟨by omega,by omega⟩,by rw[←hP];exact f68 _ _,fun h4=>?_,fun h4=>⟨⟨by omega,by omega⟩,?_⟩⟩
    ·rw[hW,BD (d:=[]) (k:=k) (by show k<15;omega) (fun i hi=>hkd i hi) h4]
     try dsimp only
     rw[←hz]
    ·refine Again.mk (k+1) ?_ ⟨by omega,fun i hi=>?_⟩ (by omega)
     ·exact AS.bV (by kernel_rfl)
     ·rcases Nat.lt_or_ge i k with h5|h5
      ·exact hkd i h5
      ·obtain rfl:i=k:=by omega
       exact h4
   ·simp only[decide_eq_false_iff_not] at h3
    have XZ:k=15:=by omega
    refine aF (aj:=SB 0 0) (keep:=[]) (cuts:=[]) (n:=1000) follows ?_
    refine au (fun _ _ _ _=>(((.ak [(di 0),(di 3)]):DV)=(.ak [(di W.fst),(di W.snd)]))) (by kernel_rfl) ?_
    rw[hW,Qy (d:=[]) (fun i hi=>hkd i (by rw[XZ];exact hi))]
end Go.Proofs
/- The words of a written expression,of written rules. -/
set_option maxRecDepth 100000
namespace Go.Proofs
open Go Go.Ab
theorem KN {c:UInt8} (h:oz c=true):bJ c=false∧D7 c=false∧(c==35)=false:=by
 unfold oz eu at h
 simp only[aV,decide_eq_true_eq] at h
 have hn:∀k:UInt8,k.toNat<97→(c==k)=false:=fun k hk=>by
  rw[beq_eq_false_iff_ne];rintro rfl;omega
 refine⟨?_,?_,hn 35 (by decide)⟩
 ·unfold bJ bQ
  rw[decide_eq_false (p:=(c.toNat:Int)≤57) (by omega),Bool.and_false]
 ·unfold D7
  rw[hn 32 (by decide),hn 9 (by decide),hn 10 (by decide),hn 13 (by decide)];rfl
end Go.Proofs
/- Words,plain: they take at least a byte;what comes in front of them. -/
namespace Go.Proofs
open Go Go.Ab
theorem uI (p:UInt8→Bool) (l:List UInt8):bC p l≤l.length:=(List.takeWhile_prefix p).length_le
theorem BN {p:UInt8→Bool} {c:UInt8} {l:List UInt8} (h:p c=true):1≤bC p (c :: l):=by
 unfold bC;rw[List.takeWhile_cons,h];simp
theorem V7 (l:List UInt8):fQ l≤l.length:=by
 have h1:=uI bJ l
 unfold fQ
 split
 ·rename_i h
  simp only[aV] at h
  have h2:=uI bJ (l.drop (min (bC bJ l) 9+1))
  rw[List.length_drop] at h2
  have h3:min (bC bJ l) 9+1<l.length:=by
   refine Nat.lt_of_not_le fun hn=>?_
   rw[List.getElem?_eq_none hn] at h
   simp at h
  omega
 ·omega
theorem TB {c:UInt8} {l:List UInt8} (h:bJ c=true):1≤fQ (c :: l):=by
 have:=BN (l:=l) h
 unfold fQ
 split<;>omega
theorem tV {l:List UInt8} (hl:l≠[]) (h:(dB l).2=0):1≤(dB l).1∧(dB l).1≤l.length:=by
 obtain ⟨c,l,rfl⟩:∃c t,l=c :: t:=by
  cases l with
  | nil=>exact absurd rfl hl
  | cons c t=>exact⟨c,t,rfl⟩
 unfold dB at h⊢
 rw[List.headD_cons] at h⊢
 by_cases hd:bJ c=true
 ·rw[if_pos hd] at h⊢
  have h1:=V7 (c :: l)
  have h2:=TB (l:=l) hd
  unfold rY at h⊢
  split at h
  ·cases h
  ·rename_i h3
   rw[if_neg h3]
   split at h
   ·rename_i h4;exact absurd h h4
   ·rename_i h4
    rw[if_neg h4]
    try dsimp only
    omega
 ·rw[if_neg hd] at h⊢
  by_cases hc:oz c=true
  ·rw[if_pos hc] at h⊢
   have h1:=uI dM (c :: l)
   have h2:1≤bC dM (c :: l):=BN (by unfold oz at hc;unfold dM fP;rw[hc];rfl)
   split at h
   ·rename_i h3
    rw[if_pos h3];dsimp only;omega
   ·cases h
  ·rw[if_neg hc] at h⊢
   cases e:wF.find? fun x=>x.isPrefixOf (c :: l) with
   | none=>rw[e] at h;cases h
   | some x=>
    rw[e] at h
    try dsimp only
    have hp:=List.find?_some e
    have hm:=List.mem_of_find?_eq_some e
    have h1:x.length≤(c :: l).length:=(List.isPrefixOf_iff_prefix.1 hp).length_le
    have h2:∀x∈wF,1≤x.length:=by decide +kernel
    have h2:=h2 x hm
    omega
def Ws.app (T:List Tk):Ws→Ws
 | .ok t=>.ok (T++t)
 | .bad a e=>.bad a e
theorem uV (T:List Tk) (w:Tk) (x:Ws):(x.cons w).app T=x.app (T++[w]):=by
 cases x with
 | ok t=>simp[Ws.cons,Ws.app]
 | bad a e=>rfl
theorem ET (x:Ws):x.app []=x:=by cases x<;>rfl
def bG (s:ByteArray):List Tk×Int×Int:=if 16384<s.size then ([],0,8) else match toks (s.size+1) 0 s.data.toList with
 | .ok t=>(t,0,0)
 | .bad a e=>([],a,e)
end Go.Proofs
/- The words of a text,the program's side. -/
namespace Go.Proofs
open Go Go.Ab Go.RowKit
set_option maxHeartbeats 1000000
set_option maxRecDepth 100000
variable {G:IH}
theorem tq {α:Type} {a b:List α} {i:Nat} {x0:α} (h:i<a.length):(a++b).getD i x0=a.getD i x0:=by
 rw[List.getD,List.getD,List.getElem?_append_left h]
theorem tJ {α:Type} {a b:List α} {i:Nat} {x0:α} (h:a.length≤i):(a++b).getD i x0=b.getD (i-a.length) x0:=by
 rw[List.getD,List.getD,List.getElem?_append_right h]
abbrev Jy:RK:=⟨true,54,false,none⟩
abbrev fU:Tk:=(.empty,0)
abbrev qh (w:Tk):DV:=.agg [ds w.1,di w.2]
def aG (t:List Tk) (i:Nat):DV:=qh (t.getD i fU)
abbrev kJ (t:List Tk):DV:=.slc 2 t.length (aG t)
noncomputable def Tj (a b:Int):cZ:=fun f x=>match f,x with
 | 31,[.con (.string s)]=>some (di (yL s))
 | 32,[_]=>some (.ak [di a,di b])
 | _,_=>none
noncomputable def aeb (s:ByteArray) (x:List Tk×Nat):AS:=⟨regs Tryz.f11.ntmps [(0,vs s),(5,.vec 900 2 0 x.1.length),(6,vi (x.2+bH false (s.data.toList.drop x.2):Nat))],[(900,[.arr Jy 2 (aG x.1)])]⟩
def yN (x:List Tk×Int×Int):DV:=.ak [if x.2.2=0 then kJ x.1 else .con (.slice none 0 0),di x.2.1,di x.2.2]
theorem zU {s:ByteArray} (h:(bG s).2.2≠0):(bG s).1=[]:=by
 unfold bG at h⊢
 split
 ·rfl
 ·rename_i h0
  rw[if_neg h0] at h
  cases e:toks (s.size+1) 0 s.data.toList with
  | ok t=>rw[e] at h;exact absurd rfl h
  | bad a e=>rfl
theorem Vf {s:ByteArray} (h0:¬16384<s.size) {T:List Tk} (h:toks (s.size+1) 0 s.data.toList=.ok T):bG s=(T,0,0):=by
 unfold bG;rw[if_neg h0,h]
theorem QB {s:ByteArray} (h0:¬16384<s.size) {a e:Int} (h:toks (s.size+1) 0 s.data.toList=.bad a e):bG s=([],a,e):=by
 unfold bG;rw[if_neg h0,h]
theorem Q9 {s:ByteArray} (h0:16384<s.size):bG s=([],0,8):=by
 unfold bG;rw[if_pos h0]
theorem OA (s:ByteArray) (a n:Nat):s.extract a (a+n)=iZ ((s.data.toList.drop a).take n):=by
 have:(s.extract a (a+n)).data.toList=(s.data.toList.drop a).take n:=by rw[kQ,Nat.add_sub_cancel_left]
 rw[←this,IK]
theorem f11' (s:ByteArray) (hs:s.size≤900000):ay Tryz.prog G 11 [ds s] (yN (bG s)):=by
 have hl:s.data.toList.length=s.size:=Array.length_toList
 refine ay.aP Tryz.func11 rfl Tryz.call11 ?_
 refine aF (aj:=Tj 0 0) (keep:=[]) (cuts:=[]) (n:=1000) follows ?_
 refine au (fun ZT ZW ZQ ZK=>((((decide ((↑s.size:Int)>16384))=true)→(((.ak [(.con (.slice none 0 0)),(di 0),(di 8)]):DV)=(yN (bG s))))∧(((decide ((↑s.size:Int)>16384))=false)→(ZK 31 [(ds s)] (di (↑(yL s)))∧ZW [cd Tryz.f11 [1,1,1,0,1,0],(.blk 0),cd Tryz.f11 [1,1,1,1]] (aB ZT [1]) ZQ)))) (by kernel_rfl) ?_
 refine⟨fun h=>?_,fun h=>⟨f31 s (by omega),?_⟩⟩
 ·simp only[decide_eq_true_eq] at h
  rw[Q9 (by omega)];rfl
 ·have h0:¬16384<s.size:=by simp only[decide_eq_false_iff_not] at h;omega
  refine aK.pre (.nilRow _ 5 900 2 Jy (aG []) (by kernel_rfl) (by kernel_rfl)) ?_
  refine aK.loop (c:=aY (aC Tryz.f11) [1,1,1,0,1,0,0]) (by kernel_rfl) (aeb s) (fun x=>x.2≤s.size∧x.1.length≤x.2∧∃k,s.size-x.2<k∧toks (s.size+1) 0 s.data.toList=(toks k x.2 (s.data.toList.drop x.2)).app x.1) (fun x=>s.size-x.2) ([],0) ?_ ⟨Nat.zero_le _,Nat.zero_le _,s.size+1,by show s.size-0<s.size+1;omega,by rw[ET];rfl⟩ ?_
  ·refine AS.leZ [2] [] (b:=((T0∧T0∧((vi (↑(yL s))):AV)=(vi (↑(0+bH false (List.drop 0 s.data.toList))))∧True)∧T0∧True)) (by kernel_rfl) (by kernel_rfl) ?_
   exact⟨⟨rfl,rfl,by rw[Nat.zero_add];rfl,trivial⟩,rfl,trivial⟩
  ·rintro ⟨T,q⟩ ⟨hq,hT,k,hk,he⟩
   dsimp only at hq hT hk he
   obtain ⟨k,rfl⟩:∃j,k=j+1:=⟨k-1,by omega⟩
   obtain ⟨b,hbe⟩:∃b,b=bH false (s.data.toList.drop q):=⟨_,rfl⟩
   have aeB:=EL false (s.data.toList.drop q)
   rw[←hbe,List.length_drop,hl] at aeB
   obtain ⟨W,xK⟩:∃W,W=dB (s.data.toList.drop (q+b)):=⟨_,rfl⟩
   have htk:toks (k+1) q (s.data.toList.drop q)=if (s.data.toList.drop q).length≤bH false (s.data.toList.drop q) then .ok [] else if (dB ((s.data.toList.drop q).drop (bH false (s.data.toList.drop q)))).2≠0 then .bad (q+bH false (s.data.toList.drop q):Nat) (dB ((s.data.toList.drop q).drop (bH false (s.data.toList.drop q)))).2
    else (toks k (q+bH false (s.data.toList.drop q)+(dB ((s.data.toList.drop q).drop (bH false (s.data.toList.drop q)))).1.toNat) ((s.data.toList.drop q).drop (bH false (s.data.toList.drop q)+(dB ((s.data.toList.drop q).drop (bH false (s.data.toList.drop q)))).1.toNat))).cons (iZ (((s.data.toList.drop q).drop (bH false (s.data.toList.drop q))).take (dB ((s.data.toList.drop q).drop (bH false (s.data.toList.drop q)))).1.toNat),(q+bH false (s.data.toList.drop q):Nat)):=rfl
   rw[←hbe,List.drop_drop,←xK,List.drop_drop,List.length_drop,hl] at htk
   rw[htk] at he
   refine aF (aj:=Tj W.1 W.2) (keep:=[]) (cuts:=[]) (n:=1000) follows ?_
   refine bZ (fun ZT ZW ZQ ZK ZA _=>(fun (Za:Nat)=>((((decide ((↑Za:Int)<↑s.size))=true)→((((0≤(↑Za:Int))∧((↑Za:Int)≤↑s.size)∧((↑s.size:Int)≤↑s.size))∧ZK 32 [(ds (s.extract ((↑Za:Int)).toNat (↑s.size:Int).toNat))] (.ak [(di W.fst),(di W.snd)]))∧(((W.snd != 0)=true)→(((.ak [(.con (.slice none 0 0)),(di (↑Za)),(di W.snd)]):DV)=(yN (bG s))))∧(((W.snd != 0)=false)→(((I64 (↑Za+W.fst))∧((0≤(↑Za:Int))∧(↑Za≤↑Za+W.fst)∧(↑Za+W.fst≤↑s.size))∧(((T.length+1)*24≤1099511627776)∧(T.length+1≤1099511627776))∧(∀(i:Nat),i<1→lC true 2 (aS true 2 [DV.con (Value.string (s.extract ((↑Za:Int)).toNat (↑Za+W.fst).toNat)),DV.con (Value.int IntKind.i64 ↑Za)] i)=true))∧(I64 (↑Za+W.fst))∧(((0≤↑Za+W.fst)∧(↑Za+W.fst≤↑s.size)∧((↑s.size:Int)≤↑s.size))∧ZK 31 [(ds (s.extract (↑Za+W.fst).toNat (↑s.size:Int).toNat))] (di (↑(yL (s.extract (↑Za+W.fst).toNat (↑s.size:Int).toNat))))∧(I64 (↑Za+W.fst + ↑(yL (s.extract (↑Za+W.fst).toNat (↑s.size:Int).toNat)))))∧(ZA (aB ZT [0,1]))))))∧(((decide ((↑Za:Int)<↑s.size))=false)→ZW [cd Tryz.f11 [1,1,1,1]] (aB ZT [1]) ZQ))) (q+bH false (List.drop q s.data.toList))) (by kernel_rfl) ?_
   try dsimp only
   rw[←hbe]
   rw[Int.toNat_natCast,Int.toNat_natCast]
   refine⟨fun h1=>?_,fun h1=>?_⟩
   ·have h1:q+b<s.size:=by simp only[decide_eq_true_eq] at h1;omega
    rw[if_neg (by omega)] at he
    have h32:=f32 (G:=G) (s.extract (q+b) s.size) (by rw[ByteArray.size_extract];omega) (by rw[ByteArray.size_extract];omega)
    rw[kL,←xK] at h32
    have hlen:(s.data.toList.drop (q+b)).length=s.size-(q+b):=by rw[List.length_drop,hl]
    refine⟨⟨⟨by omega,by omega,by omega⟩,h32⟩,fun h2=>?_,fun h2=>?_⟩
    ·have h2:W.2≠0:=by simpa using h2
     rw[if_pos h2] at he
     rw[QB h0 (he.trans rfl)]
     unfold yN
     rw[if_neg h2]
    ·have h2:W.2=0:=by simpa using h2
     rw[if_neg (by rw[h2];decide),uV] at he
     obtain ⟨p1,p2⟩:=tV (l:=s.data.toList.drop (q+b)) (fun hh=>by rw[hh] at hlen;simp at hlen;omega) (by rw[←xK];exact h2)
     rw[←xK] at p1 p2
     rw[hlen] at p2
     obtain ⟨n,hn⟩:=Int.eq_ofNat_of_zero_le (show 0≤W.1 by omega)
     rw[hn] at p1 p2 he⊢
     have e1:(((q+b:Nat):Int)+(n:Int)).toNat=q+b+n:=by omega
     rw[e1]
     have e3:(n:Int).toNat=n:=Int.toNat_natCast n
     rw[e3,←Nat.add_assoc] at he
     have hsp:=EL false (s.data.toList.drop (q+b+n))
     rw[List.length_drop,hl] at hsp
     have h31:yL (s.extract (q+b+n) s.size)=bH false (s.data.toList.drop (q+b+n)):=by unfold yL;rw[kL]
     rw[h31]
     have hk31:=f31 (G:=G) (s.extract (q+b+n) s.size) (by rw[ByteArray.size_extract];omega)
     rw[h31] at hk31
     refine⟨⟨⟨by omega,by omega⟩,⟨by omega,by omega,by omega⟩,⟨by omega,by omega⟩,fun i hi=>?_⟩,⟨by omega,by omega⟩,⟨⟨by omega,by omega,by omega⟩,hk31,⟨by omega,by omega⟩⟩,?_⟩
     ·obtain rfl:i=0:=by omega
      rfl
     ·refine⟨(T++[(iZ ((s.data.toList.drop (q+b)).take n),((q+b:Nat):Int))],q+b+n),(AS.dZ.moves [(45,900)] _ rfl).trans ((AS.dZ.AQ _ 5 900 (T.length+1) (agg:=Jy) (sz:=2) (f:=fun i=>bif Nat.blt i T.length then aG T i else aS true 2 [ds (s.extract ((q+bH false (s.data.toList.drop q):Nat):Int).toNat (((q+bH false (s.data.toList.drop q):Nat):Int)+(n:Int)).toNat),di ((q+bH false (s.data.toList.drop q):Nat):Int)] (i-T.length)) (aG (T++[(iZ ((s.data.toList.drop (q+b)).take n),((q+b:Nat):Int))])) (by kernel_rfl) (by kernel_rfl) rfl (by kernel_rfl) (fun i hi=>?_)).trans (.of_le ?_)),⟨by show q+b+n≤s.size;omega,by simp only[List.length_append,List.length_singleton];omega,k,by show s.size-(q+b+n)<k;omega,he⟩,(by show s.size-(q+b+n)<s.size-q;omega)⟩
      ·unfold aG
       rcases Nat.lt_or_ge i T.length with h4|h4
       ·rw[show Nat.blt i T.length=true from by rw[Nat.blt_eq];exact h4,tq h4];rfl
       ·obtain rfl:i=T.length:=by omega
        rw[show Nat.blt T.length T.length=false from by rw[Bool.eq_false_iff,ne_eq,Nat.blt_eq];omega,tJ (Nat.le_refl _),Nat.sub_self]
        rw[←hbe,Int.toNat_natCast,e1,OA];rfl
      ·refine AS.leZ [1,2] [] (b:=((T0∧((.vec 900 2 0 (T.length+1)):AV)=(.vec 900 2 0 (T++[(iZ (List.take n (List.drop (q+b) s.data.toList)),(↑(q+b):Int))]).length)∧((vi ((↑(q+bH false (List.drop q (Array.toList (ByteArray.data s)))):Int)+(↑n:Int)+(↑(yL (ByteArray.extract s (Int.toNat ((↑(q+bH false (List.drop q (Array.toList (ByteArray.data s)))):Int)+(↑n:Int))) (Int.toNat (↑(ByteArray.size s):Int)))):Int))):AV)=(vi (↑(q+b+n+bH false (List.drop (q+b+n) s.data.toList))))∧True)∧T0∧True)) (by kernel_rfl) (by kernel_rfl) ?_
       refine⟨⟨rfl,congrArg (fun n=>AV.vec 900 2 0 n) (by simp),?_,trivial⟩,rfl,trivial⟩
       rw[←hbe,Int.toNat_natCast,e1,h31]
       exact congrArg (fun n:Int=>AV.d (di n)) (by omega)
   ·have h1:¬q+b<s.size:=by simp only[decide_eq_false_iff_not] at h1;omega
    rw[if_pos (by omega)] at he
    have he2:bG s=(T,0,0):=Vf h0 (by rw[he];simp[Ws.app])
    refine aF (aj:=Tj 0 0) (keep:=[]) (cuts:=[]) (n:=1000) follows ?_
    refine au (fun _ _ _ _=>(((.ak [(.slc 2 T.length (fun i=>aG T (0+i))),(di 0),(di 0)]):DV)=(yN (bG s)))) (by kernel_rfl) ?_
    rw[he2]
    unfold yN
    rw[if_pos rfl]
    have:(fun i=>aG T (0+i))=aG T:=funext fun i=>by rw[Nat.zero_add]
    rw[this]
theorem f11 (s:ByteArray) (hs:s.size≤900000):ay Tryz.prog G 11 [ds s] (.ak [kJ (bG s).1,di (bG s).2.1,di (bG s).2.2]):=by
 refine ay.res (f11' s hs) fun k v hv=>?_
 unfold yN at hv
 by_cases h:(bG s).2.2=0
 ·rw[if_pos h] at hv;exact hv
 ·rw[if_neg h] at hv
  obtain ⟨us,rfl,a1,u1,rfl,h1,r⟩:=hv
  refine⟨_,rfl,a1,u1,rfl,?_,r⟩
  rw[zU h]
  exact lV h1
end Go.Proofs
/- What is read is the expression of a text. -/
set_option maxRecDepth 100000
namespace Go.Proofs
open Go Go.Ab
def GV (t:List Tk):Prop:=∀w∈t,bQ (byteAt w.1 0)=true→nP (fK w.1).1 (fK w.1).2.1=true
theorem GV.tail {t:List Tk} (h:GV t):GV t.tail:=fun w hw=>h w (List.mem_of_mem_tail hw)
theorem GV.hd {t:List Tk} (h:GV t) (hd:bQ (byteAt (ah t) 0)=true):nP (fK (ah t)).1 (fK (ah t)).2.1=true:=by
 cases t with
 | nil=>exact absurd hd (by decide +kernel)
 | cons w t=>exact h w (by simp) hd
end Go.Proofs
/- A rule that is read is one of a text,where it is shallow. -/
set_option maxRecDepth 100000
namespace Go.Proofs
open Go Go.Ab
theorem Vp {s:ByteArray} (h:dN bP s=true):0≤eF bP s∧eF bP s<4:=by
 obtain ⟨x,hx,he⟩:=List.any_eq_true.1 h
 obtain rfl:x=s:=by simpa using he
 have:∀x∈bP,0≤eF bP x∧eF bP x<4:=by decide +kernel
 exact this x hx
end Go.Proofs
/- Numbers that are read: they can be written. -/
namespace Go.Proofs
open Go Go.Ab
theorem Ro (c:UInt8):bJ c=true↔eP c=true:=by
 unfold bJ bQ eP
 simp only[aV,decide_eq_true_eq];omega
theorem YV {l:List UInt8} (h:∀c∈l,bJ c=true) {k:UInt8} (hk:bJ k=false):k∉l:=fun hm=>by rw[h k hm] at hk;cases hk
theorem NZ {l:List UInt8} {m:Nat} (h:∀c∈l,bJ c=true) (h1:1≤l.length) (h2:l.length≤m):jq l m=some (bM l):=by
 rw[vk fun c hc=>(Ro c).1 (h c hc),if_pos ⟨h1,h2⟩]
theorem RV {l:List UInt8} (h:∀c∈l,bJ c=true):bM l<10 ^ l.length:=sG _ _ rfl fun c hc=>(kX c).1 ((Ro c).1 (h c hc))
theorem QG {D T:List UInt8} (hD:∀c∈D,bJ c=true) (hT:∀c∈T,bJ c=true) (h1:1≤D.length) (h9:D.length≤9) (h6:T.length≤6):∃a j:Nat,j≤6∧a / 10 ^ j<1000000000∧fK (iZ (D++if T=[] then [] else 46 :: T))=red (a:Int) ((10 ^ j:Nat):Int):=by
 have hv:bM D<1000000000:=by
  have:=RV hD
  have h3:10 ^ D.length≤10 ^ 9:=Nat.pow_le_pow_right (by decide) h9
  have e9:(10:Nat) ^ 9=1000000000:=by decide
  omega
 obtain ⟨l,hl⟩:∃l,l=D++if T=[] then [] else 46 :: T:=⟨_,rfl⟩
 have hp:∃a j:Nat,j≤6∧a / 10 ^ j<1000000000∧dO l=some (a,10 ^ j):=by
  by_cases hn:T=[]
  ·refine⟨bM D,0,by omega,by simpa using hv,?_⟩
   rw[hl,if_pos hn,List.append_nil,zC (YV hD (by decide)) (YV hD (by decide)),NZ hD h1 (by omega)];rfl
  ·have hT1:1≤T.length:=List.length_pos_iff.2 hn
   refine⟨bM D*10 ^ T.length+bM T,T.length,h6,?_,?_⟩
   ·have:=RV hT
    rw[Nat.mul_comm,Nat.mul_add_div (Nat.pow_pos (by decide)),Nat.div_eq_of_lt this];omega
   ·rw[hl,if_neg hn,Em,NZ hD h1 (by omega),NZ hT hT1 h6];rfl
 obtain ⟨a,j,hj,ha,hp⟩:=hp
 refine⟨a,j,hj,ha,?_⟩
 rw[←hl]
 obtain ⟨c,D',rfl⟩:∃c D',D=c :: D':=by
  cases D with
  | nil=>simp at h1
  | cons c D'=>exact⟨c,D',rfl⟩
 have hc:c≠45:=by rintro rfl;exact absurd (hD 45 (by simp)) (by decide)
 have hpre:Lib.hasPrefix l [45]=false:=by
  rw[hl,List.cons_append]
  unfold Lib.hasPrefix
  rw[List.isPrefixOf_cons_cons,beq_eq_false_iff_ne.2 (Ne.symm hc),Bool.false_and]
 have e45:minus.data.toList=[45]:=rfl
 have h1:preB minus (iZ l)=false:=by unfold preB;rw[e45,wQ];exact hpre
 have h2:(preS minus (iZ l)).data.toList=l:=by
  unfold preS Lib.trimPrefix
  rw[e45,wQ,hpre]
  exact zq l
 have hpos:10 ^ j≠0:=Nat.ne_of_gt (Nat.pow_pos (by decide))
 unfold fK
 rw[h2,hp,h1]
 simp only[Bool.false_eq_true,if_false,if_neg hpos]
theorem Zn (a:Nat) (j:Nat):(red (a:Int) ((10 ^ j:Nat):Int)).2.2=0∨(red (a:Int) ((10 ^ j:Nat):Int)).2.2=2:=by
 unfold red uH
 split<;>split<;>simp
theorem Xg {D R:List UInt8} (hD:∀c∈D,c≠46) (hR:R=[]∨∃T,R=46 :: T):(cD Ky (str (D++R))).size=D.length:=by
 unfold cD cI
 have e0:(str (D++R)).data.toList=D++R:=by simp
 have e1:Ky.data.toList.headD 0=46:=rfl
 rw[e0,e1]
 rcases hR with rfl|⟨T,rfl⟩
 ·have hn:Lib.indexByte (D++[]) 46<0:=by
   rcases Int.lt_or_le (Lib.indexByte (D++[]) 46) 0 with h1|h1
   ·exact h1
   ·obtain ⟨k,hk⟩:=Int.eq_ofNat_of_zero_le h1
    obtain ⟨h2,_⟩:=Lib.indexByte_some hk
    rw[List.append_nil] at h2
    exact absurd rfl (hD 46 (List.mem_of_getElem? h2))
  rw[if_neg (by omega),oH,List.append_nil]
 ·have hat:(D++46 :: T)[D.length]?=some 46:=by rw[List.getElem?_append_right (Nat.le_refl _),Nat.sub_self];rfl
  have hn:Lib.indexByte (D++46 :: T) 46=D.length:=by
   rcases Int.lt_or_le (Lib.indexByte (D++46 :: T) 46) 0 with h1|h1
   ·have:=Lib.indexByte_ge (D++46 :: T) 46
    exact absurd hat (Lib.indexByte_none (by omega) _)
   ·obtain ⟨o,ho⟩:=Int.eq_ofNat_of_zero_le h1
    obtain ⟨g1,g2⟩:=Lib.indexByte_some ho
    rw[ho]
    rcases Nat.lt_trichotomy o D.length with hlt|heq|hgt
    ·rw[List.getElem?_append_left hlt] at g1
     exact absurd rfl (hD 46 (List.mem_of_getElem? g1))
    ·rw[heq]
    ·exact absurd hat (g2 _ hgt)
  rw[hn,if_pos (by omega),ByteArray.size_extract,oH,List.length_append,List.length_cons,Int.toNat_natCast];omega
theorem ZC {a j:Nat} (hj:j≤6) (ha:a / 10 ^ j<1000000000) (h:(red (a:Int) ((10 ^ j:Nat):Int)).2.2=0):nP (red (a:Int) ((10 ^ j:Nat):Int)).1 (red (a:Int) ((10 ^ j:Nat):Int)).2.1=true:=by
 have hp:0<10 ^ j:=Nat.pow_pos (by decide)
 obtain ⟨g,hg⟩:∃g,g=Nat.gcd a (10 ^ j):=⟨_,rfl⟩
 have hgp:0<g:=by rw[hg];exact Nat.gcd_pos_of_pos_right _ hp
 obtain ⟨n,hn⟩:g∣a:=by rw[hg];exact Nat.gcd_dvd_left _ _
 obtain ⟨d,hd⟩:g∣10 ^ j:=by rw[hg];exact Nat.gcd_dvd_right _ _
 have hgi:Int.gcd (a:Int) ((10 ^ j:Nat):Int)=g:=by rw[hg];rfl
 have e1:(a:Int).tdiv (g:Nat)=n:=by
  rw[←Int.ofNat_tdiv]
  exact congrArg Nat.cast (show a / g=n by rw[hn,Nat.mul_div_cancel_left _ hgp])
 have e2:((10 ^ j:Nat):Int).tdiv (g:Nat)=d:=by
  rw[←Int.ofNat_tdiv]
  exact congrArg Nat.cast (show 10 ^ j / g=d by rw[hd,Nat.mul_div_cancel_left _ hgp])
 have hr:red (a:Int) ((10 ^ j:Nat):Int)=if ok n d=true then ((n:Int),(d:Int),0) else (0,0,2):=by
  unfold red uH
  rw[if_neg (by omega),hgi,e1,e2]
 rw[hr] at h⊢
 by_cases hok:ok n d=true
 ·rw[if_pos hok]
  try dsimp only
  have hdv:d∣10 ^ 6:=Nat.dvd_trans ⟨g,by rw[hd,Nat.mul_comm]⟩ (Nat.pow_dvd_pow 10 hj)
  have afK:0<d:=Nat.pos_of_ne_zero fun h0=>by rw[h0,Nat.mul_zero] at hd;omega
  have hm:(1000000:Int).tmod (d:Int)=0:=by
   rw[show (1000000:Int)=((10 ^ 6:Nat):Int) by rfl,←Int.ofNat_tmod,Nat.mod_eq_zero_of_dvd hdv];rfl
  have h2:(jB n d).2=true:=(Qz hok).1.2 hm
  have hdec:qR (n:Int) (d:Int)=(Lib.decDigits (n / d)++(if n % d=0 then [] else 46 :: oD d 7 (n % d)),true):=by
   unfold qR
   rw[if_pos ⟨hok,hm⟩,show sg (n:Int)=[] by unfold sg;rw[if_neg (by omega)]]
   simp
  have hq:n / d<10 ^ (8+1):=by
   have:a / 10 ^ j=n / d:=by rw[hn,hd,Nat.mul_div_mul_left _ _ hgp]
   rw[←this]
   have e9:(10:Nat) ^ (8+1)=1000000000:=by decide
   omega
  have hlen:=iG 8 _ hq
  have hsz:(cD Ky (str (jB n d).1)).size≤9:=by
   rw[Aa,hdec]
   try dsimp only
   rw[Xg]
   ·exact hlen
   ·exact fun c hc=>Iw (QS _ c hc)
   ·split
    ·exact .inl rfl
    ·exact .inr ⟨_,rfl⟩
  unfold nP
  rw[h2,decide_eq_true (by omega:(n:Int)≥0),decide_eq_true (by omega)];rfl
 ·rw[if_neg hok] at h;cases h
end Go.Proofs
/- Words that are read have numbers that can be written;numbers as the reference reads them. -/
namespace Go.Proofs
open Go Go.Ab
theorem run_get {p:UInt8→Bool} {l:List UInt8} {i:Nat} (h:i<bC p l):∃c,l[i]?=some c∧p c=true:=by
 unfold bC at h
 have hm:(l.takeWhile p)[i]∈l.takeWhile p:=List.getElem_mem h
 refine⟨(l.takeWhile p)[i],?_,List.all_eq_true.1 List.all_takeWhile _ hm⟩
 have:=List.IsPrefix.getElem (List.takeWhile_prefix p) h
 rw[this]
 exact iT _
theorem Ob {p:UInt8→Bool} {l:List UInt8} {k:Nat} (h:k≤bC p l):∀c∈l.take k,p c=true:=by
 intro c hc
 obtain ⟨i,hi,rfl⟩:=List.getElem_of_mem hc
 rw[List.length_take] at hi
 obtain ⟨d,h1,h2⟩:=run_get (p:=p) (l:=l) (i:=i) (by omega)
 rw[List.getElem_take]
 rw[iT (by omega)] at h1
 rw[Option.some.inj h1];exact h2
theorem any_some {o:Option UInt8} {p:UInt8→Bool} (h:o.any p=true):∃c,o=some c∧p c=true:=by
 cases o with
 | none=>cases h
 | some c=>exact⟨c,rfl,h⟩
theorem Yo {p:UInt8→Bool} {l:List UInt8} {c:UInt8} (h0:l[0]?=some c) (h:p c=true):1≤bC p l:=by
 cases l with
 | nil=>cases h0
 | cons d l=>
  simp at h0;subst h0
  exact BN h
theorem OE {l:List UInt8} (hd:bJ (l.headD 0)=true):∃D T:List UInt8,(∀c∈D,bJ c=true)∧(∀c∈T,bJ c=true)∧1≤D.length∧D.length≤9∧T.length≤6∧l.take (fQ l)=D++if T=[] then [] else 46 :: T:=by
 have h1:1≤bC bJ l:=by
  cases l with
  | nil=>exact absurd hd (by decide)
  | cons c l=>exact BN hd
 have h2:=uI bJ l
 obtain ⟨n,hn⟩:∃n,n=min (bC bJ l) 9:=⟨_,rfl⟩
 have hD:∀c∈l.take n,bJ c=true:=Ob (by omega)
 have hDl:(l.take n).length=n:=by rw[List.length_take];omega
 by_cases hc:((l[n]?.any fun c=>c==46)&&l[n+1]?.any bJ)=true
 ·have hc2:=hc
  simp only[aV] at hc2
  obtain ⟨x,hx,hx2⟩:=any_some hc2.1
  obtain ⟨y,hy,hy2⟩:=any_some hc2.2
  have hx3:x=46:=by simpa using hx2
  subst hx3
  have hr:1≤bC bJ (l.drop (n+1)):=Yo (c:=y) (by rw[List.getElem?_drop];exact hy) hy2
  obtain ⟨m,hm⟩:∃m,m=min (bC bJ (l.drop (n+1))) 6:=⟨_,rfl⟩
  have hrl:=uI bJ (l.drop (n+1))
  have hTl:((l.drop (n+1)).take m).length=m:=by rw[List.length_take];omega
  refine⟨l.take n,(l.drop (n+1)).take m,hD,Ob (by omega),by omega,by omega,by omega,?_⟩
  have hne:(l.drop (n+1)).take m≠[]:=fun h=>by rw[h] at hTl;simp at hTl;omega
  have hE:fQ l=n+1+m:=by
   unfold fQ
   rw[←hn,if_pos hc,←hm]
  have hnl:n<l.length:=by
   refine Nat.lt_of_not_le fun h=>?_
   rw[List.getElem?_eq_none h] at hx;cases hx
  have hd:l.drop n=46 :: l.drop (n+1):=by
   rw[List.drop_eq_getElem_cons hnl]
   rw[iT hnl] at hx
   rw[Option.some.inj hx]
  rw[if_neg hne,hE,Nat.add_assoc,List.take_add,hd,Nat.add_comm 1 m,List.take_succ_cons]
 ·refine⟨l.take n,[],hD,by simp,by omega,by omega,by simp,?_⟩
  have hE:fQ l=n:=by
   unfold fQ
   rw[←hn,if_neg hc]
  rw[hE,if_pos rfl,List.append_nil]
theorem VZ {l:List UInt8} (hd:bJ (l.headD 0)=true) (h:(dB l).2=0):nP (fK (iZ (l.take (dB l).1.toNat))).1 (fK (iZ (l.take (dB l).1.toNat))).2.1=true:=by
 obtain ⟨D,T,hD,hT,h1,h9,h6,he⟩:=OE hd
 obtain ⟨a,j,hj,ha,hp⟩:=QG hD hT h1 h9 h6
 rw[←he] at hp
 unfold dB at h⊢
 rw[if_pos hd] at h⊢
 unfold rY at h⊢
 split at h
 ·cases h
 ·rename_i h3
  rw[if_neg h3]
  split at h
  ·rename_i h4;exact absurd h h4
  ·rename_i h4
   rw[if_neg h4]
   try dsimp only
   rw[Int.toNat_natCast,hp]
   rw[hp] at h4
   exact ZC hj ha (by simpa using h4)
theorem GL {l:List UInt8} {n:Nat} (hn:1≤n) (hl:l≠[]):byteAt (iZ (l.take n)) 0=((l.headD 0).toNat:Int):=by
 obtain ⟨c,l,rfl⟩:∃c t,l=c :: t:=by
  cases l with
  | nil=>exact absurd rfl hl
  | cons c t=>exact⟨c,t,rfl⟩
 obtain ⟨n,rfl⟩:∃m,n=m+1:=⟨n-1,by omega⟩
 exact FQ (s:=iZ ((c :: l).take (n+1))) (by rw[wQ];rfl)
theorem ZY:∀(k at_:Nat) (l:List UInt8) (t:List Tk),toks k at_ l=.ok t→GV t:=by
 intro k
 induction k with
 | zero=>intro at_ l t h;cases h
 | succ k ih=>
  intro at_ l t h
  unfold toks at h
  split at h
  ·injection h with h;subst h
   intro w hw;cases hw
  ·rename_i h1
   split at h
   ·cases h
   ·rename_i h2
    have h2:(dB (l.drop (bH false l))).2=0:=by simpa using h2
    have hne:l.drop (bH false l)≠[]:=fun hh=>by
     have:=congrArg List.length hh
     rw[List.length_drop] at this;simp at this;omega
    obtain ⟨p1,p2⟩:=tV hne h2
    cases e:toks k (at_+bH false l+(dB (l.drop (bH false l))).1.toNat) (l.drop (bH false l+(dB (l.drop (bH false l))).1.toNat)) with
    | bad a b=>rw[e] at h;cases h
    | ok T=>
     rw[e] at h
     injection h with h
     subst h
     intro w hw
     rcases List.mem_cons.1 hw with rfl|hw
     ·intro hd
      dsimp only at hd⊢
      rw[GL (by omega) hne] at hd
      exact VZ hd h2
     ·exact ih _ _ _ e w hw
def qP (l:List UInt8):Nat:=if ((l[bC bJ l]?.any fun c=>c==46)&&l[bC bJ l+1]?.any bJ)=true then bC bJ l+1+bC bJ (l.drop (bC bJ l+1)) else bC bJ l
def zB (l:List UInt8):Int×Int:=
 if 9<bC bJ l∨7<qP l-bC bJ l∨(l[qP l]?.any fun c=>dM c||c==46)=true then (0,3) else if (fK (iZ (l.take (qP l)))).2.2≠0 then (0,2) else (qP l,0)
theorem Zz {c:UInt8} (h:bJ c=true):dM c=true:=by
 unfold dM fP;unfold bJ at h;rw[h];simp
theorem aaw {l:List UInt8} (hd:bJ (l.headD 0)=true):zB l=rY l:=by
 obtain ⟨r,hr⟩:∃r,r=bC bJ l:=⟨_,rfl⟩
 have bad:∀{n:Nat} {c:UInt8},fQ l=n→l[n]?=some c→bJ c=true→rY l=(0,3):=by
  intro n c h1 h2 h3
  unfold rY
  rw[h1,h2,if_pos]
  simp[Zz h3]
 by_cases h9:9<r
 ·obtain ⟨c,hc1,hc2⟩:=run_get (p:=bJ) (l:=l) (i:=9) (by omega)
  have hE:fQ l=9:=by
   unfold fQ
   rw[←hr,Nat.min_eq_right (by omega),if_neg]
   rw[hc1]
   have:(c==46)=false:=beq_eq_false_iff_ne.2 (Iw hc2)
   simp[this]
  rw[bad hE hc1 hc2]
  unfold zB
  rw[if_pos (.inl (by rw[←hr];exact h9))]
 ·have hmin:min (bC bJ l) 9=r:=by omega
  by_cases hc:((l[r]?.any fun c=>c==46)&&l[r+1]?.any bJ)=true
  ·obtain ⟨m,hm⟩:∃m,m=bC bJ (l.drop (r+1)):=⟨_,rfl⟩
   have hK:qP l=r+1+m:=by unfold qP;rw[←hr,if_pos hc,←hm]
   by_cases h6:6<m
   ·obtain ⟨c,hc1,hc2⟩:=run_get (p:=bJ) (l:=l.drop (r+1)) (i:=6) (by omega)
    rw[List.getElem?_drop] at hc1
    have hE:fQ l=r+1+6:=by
     unfold fQ
     rw[hmin,if_pos hc,←hm,Nat.min_eq_right (by omega)]
    rw[bad hE hc1 hc2]
    unfold zB
    rw[if_pos (.inr (.inl (by rw[←hr,hK];omega)))]
   ·have hE:fQ l=qP l:=by
     unfold fQ
     rw[hmin,if_pos hc,←hm,hK,Nat.min_eq_left (by omega)]
    exact fin hd hr hE (by omega) (by rw[hK];omega)
  ·have hK:qP l=r:=by unfold qP;rw[←hr,if_neg hc]
   have hE:fQ l=qP l:=by
    unfold fQ
    rw[hmin,if_neg hc,hK]
   exact fin hd hr hE (by omega) (by rw[hK];omega)
where
 fin {l:List UInt8} {r:Nat} (hd:bJ (l.headD 0)=true) (hr:r=bC bJ l) (hE:fQ l=qP l) (h9:¬9<r) (h7:¬7<qP l-r):zB l=rY l:=by
  obtain ⟨D,T,hD,hT,h1,hd9,h6,he⟩:=OE hd
  obtain ⟨a,j,hj,ha,hp⟩:=QG hD hT h1 hd9 h6
  rw[←he,hE] at hp
  have he2:=Zn a j
  rw[←hp] at he2
  unfold zB rY
  rw[hE,←hr]
  by_cases hc:(l[qP l]?.any fun c=>dM c||c==46)=true
  ·rw[if_pos (.inr (.inr hc)),if_pos hc]
  ·rw[if_neg (by rintro (h|h|h);exact h9 h;exact h7 h;exact hc h),if_neg hc]
   by_cases h0:(fK (iZ (l.take (qP l)))).2.2=0
   ·rw[if_neg (by simp[h0]),if_neg (by simp[h0])]
   ·rw[if_pos h0,if_pos h0,he2.resolve_left h0]
set_option maxHeartbeats 1000000
set_option maxRecDepth 100000
open Go Go.Ab Go.RowKit
variable {G:IH}
def lu (s:ByteArray):Int:=((spl s.data.toList).1.length:Nat)
def nT (s:ByteArray):Int:=(bM ((spl s.data.toList).1.take 12):Nat)
noncomputable def aek (s:ByteArray) (k:Nat):AS:=⟨regs Tryz.f108.ntmps [(0,vs s),(4,vi k),(5,vi (bM ((s.data.toList.take k).take 12):Nat))],[]⟩
def NC:cZ:=fun _ _=>none
theorem Xd {S:List UInt8} {k:Nat} (hk:k≤S.length) (hd:∀c∈S.take k,eP c=true) (hs:∀h:k<S.length,eP S[k]=false):(spl S).1=S.take k:=by
 have:=wL (D:=S.take k) (R:=S.drop k) hd (fun c T h=>by
  have hl:k<S.length:=by
   rcases Nat.lt_or_ge k S.length with h2|h2
   ·exact h2
   ·rw[List.drop_eq_nil_of_le h2] at h;cases h
  rw[List.drop_eq_getElem_cons hl] at h
  injection h with h1 h2
  rw[←h1];exact hs hl)
 rw[List.take_append_drop] at this
 rw[this]
theorem f108 (s:ByteArray) (hs:s.size≤900000):ay Tryz.prog G 108 [ds s] (.ak [di (lu s),di (nT s)]):=by
 refine ay.walk (aj:=NC) (keep:=[]) follows Tryz.func108 rfl Tryz.call108 ?_
 refine au (fun ZT ZW ZQ _=>ZW [cd Tryz.f108 [1,1,0,0],(.blk 0),cd Tryz.f108 [1,1,1]] (aB ZT []) ZQ) (by kernel_rfl) ?_
 refine aK.loop (c:=aY (aC Tryz.f108) [1,1,0,0,0]) (by kernel_rfl) (aek s) (fun k=>k≤s.size∧∀c∈s.data.toList.take k,eP c=true) (fun k=>s.size-k) 0 ?_ ⟨Nat.zero_le _,fun c hc=>by simp at hc⟩ ?_
 ·exact AS.bV (by kernel_rfl)
 ·rintro k ⟨hk,hkd⟩
  refine walk (aj:=NC) (keep:=[]) (cuts:=[]) (n:=1000) follows ?_
  refine bZ (fun ZT ZW ZQ _ ZA _=>(fun Za=>(((((decide ((↑k:Int)<↑s.size))=true)→((0≤(↑k:Int))∧((↑k:Int)<↑s.size)))∧(((decide ((↑k:Int)<↑s.size)&&decide (byteAt s (↑k:Int).toNat≥48))=true)→((0≤(↑k:Int))∧((↑k:Int)<↑s.size))))∧((Za=true)→((((decide ((↑k:Int)<12))=true)→(((I64 (10 * ↑(bM (List.take 12 (List.take k s.data.toList)))))∧((0≤(↑k:Int))∧((↑k:Int)<↑s.size))∧(I64 (10 * ↑(bM (List.take 12 (List.take k s.data.toList)))+IntKind.i64.wrap (IntKind.u8.wrap (byteAt s (↑k:Int).toNat-48)))))∧(I64 (↑k+1))∧(ZA (aB ZT [0,0]))))∧(((decide ((↑k:Int)<12))=false)→((I64 (↑k+1))∧(ZA (aB ZT [0,1]))))))∧((Za=false)→ZW [cd Tryz.f108 [1,1,1]] (aB ZT [1]) ZQ))) (decide ((↑k:Int)<↑s.size)&&decide (byteAt s (↑k:Int).toNat≥48)&&decide (byteAt s (↑k:Int).toNat≤57))) (by kernel_rfl) ?_
  try dsimp only
  have hsl:s.data.toList.length=s.size:=dG s
  have hkD:∀c∈(s.data.toList.take k).take 12,FK c:=fun c hc=>(kX c).1 (hkd c (List.mem_of_mem_take hc))
  have hvl:bM ((s.data.toList.take k).take 12)<1000000000000:=by
   have h1:=sG _ _ rfl hkD
   have h2:(10:Nat) ^ ((s.data.toList.take k).take 12).length≤10 ^ 12:=Nat.pow_le_pow_right (by decide) (by rw[List.length_take];omega)
   have e12:(10:Nat) ^ 12=1000000000000:=by decide
   omega
  simp only[Int.toNat_natCast]
  refine⟨⟨fun h=>?_,fun h=>?_⟩,fun h=>?_,fun h=>?_⟩
  ·simp only[decide_eq_true_eq] at h;omega
  ·simp only[aV,decide_eq_true_eq] at h;omega
  ·simp only[aV,decide_eq_true_eq] at h
   obtain ⟨⟨h1,h3⟩,h4⟩:=h
   have hks:k<s.data.toList.length:=by omega
   have hb:=wS hks
   rw[hb] at h3 h4
   have e1:IntKind.wrap .u8 (((s.data.toList[k]).toNat:Int)-48)=(((s.data.toList[k]).toNat-48:Nat):Int):=by
    rw[show (((s.data.toList[k]).toNat:Int)-48)=(((s.data.toList[k]).toNat-48:Nat):Int) by omega]
    exact IntWalk.u8_in _ ⟨by omega,by omega⟩
   have e2:IntKind.wrap .i64 (((s.data.toList[k]).toNat-48:Nat):Int)=(((s.data.toList[k]).toNat-48:Nat):Int):=IntWalk.i64_in _ ⟨by omega,by omega⟩
   have hnext:∀c∈s.data.toList.take (k+1),eP c=true:=fun c hc=>by
    rw[List.take_succ_eq_append_getElem hks] at hc
    rcases List.mem_append.1 hc with hc|hc
    ·exact hkd c hc
    ·rw[List.mem_singleton] at hc;subst hc
     exact(kX _).2 ⟨by omega,by omega⟩
   simp only[hb,e1,e2]
   refine⟨fun h5=>⟨⟨⟨by omega,by omega⟩,⟨by omega,by omega⟩,by omega,by omega⟩,⟨by omega,by omega⟩,Again.mk (k+1) ?_ ⟨by omega,hnext⟩ (by omega)⟩,fun h5=>⟨⟨by omega,by omega⟩,Again.mk (k+1) ?_ ⟨by omega,hnext⟩ (by omega)⟩⟩
   ·have h5:k<12:=by simp only[decide_eq_true_eq] at h5;omega
    refine AS.leZ [2] [] (b:=((T0∧T0∧((vi (10 * ↑(bM (List.take 12 (List.take k s.data.toList)))+IntKind.i64.wrap (IntKind.u8.wrap (byteAt s (↑k:Int).toNat-48)))):AV)=(vi (↑(bM (List.take 12 (List.take (k+1) s.data.toList)))))∧True)∧True)) (by kernel_rfl) (by kernel_rfl) ?_
    refine⟨⟨rfl,rfl,?_,trivial⟩,trivial⟩
    rw[List.take_of_length_le (l:=s.data.toList.take (k+1)) (by rw[List.length_take];omega),List.take_of_length_le (l:=s.data.toList.take k) (by rw[List.length_take];omega),Uz hks]
    rw[Int.toNat_natCast,hb,e1,e2]
    push_cast;rfl
   ·have h5:12≤k:=by simp only[decide_eq_false_iff_not] at h5;omega
    refine AS.leZ [2] [] (b:=((T0∧T0∧((vi (↑(bM (List.take 12 (List.take k s.data.toList))))):AV)=(vi (↑(bM (List.take 12 (List.take (k+1) s.data.toList)))))∧True)∧True)) (by kernel_rfl) (by kernel_rfl) ?_
    refine⟨⟨rfl,rfl,?_,trivial⟩,trivial⟩
    rw[List.take_take,List.take_take,Nat.min_eq_left (by omega),Nat.min_eq_left (by omega)]
  ·have hst:∀h:k<s.data.toList.length,eP s.data.toList[k]=false:=by
    intro h1
    have hb:=wS h1
    rw[Bool.eq_false_iff]
    intro hD
    have hD:=(kX _).1 hD
    have h3:=hD.1
    have h4:=hD.2
    simp only[Bool.and_eq_false_imp,decide_eq_true_eq,decide_eq_false_iff_not,aV] at h
    have:=h ⟨by omega,by omega⟩
    omega
   have hsp:=Xd (by omega) hkd hst
   refine walk (aj:=NC) (keep:=[]) (cuts:=[]) (n:=1000) follows ?_
   refine au (fun _ _ _ _=>(((.ak [(di (↑k)),(di (↑(bM (List.take 12 (List.take k s.data.toList)))))]):DV)=(.ak [(di (lu s)),(di (nT s))]))) (by kernel_rfl) ?_
   unfold lu nT
   rw[hsp,List.length_take,Nat.min_eq_left (by omega)]
end Go.Proofs
/- What a text says,by cases as the reference asks them,plain. -/
namespace Go.Proofs
open Go Go.Ab
theorem ab1 {T:List UInt8} (h:(spl T).1.length<1∨10<(spl T).1.length):dO T=none:=by
 unfold dO
 rw[if_neg (by omega)]
theorem Ey {U:List UInt8} {m:Nat}:jq U m=if (spl U).1.length=U.length∧1≤U.length∧U.length≤m then some (bM U) else none:=by
 have e:=oV U
 have el:=congrArg List.length e
 rw[List.length_append] at el
 by_cases h:(spl U).1.length=U.length
 ·have h2:(spl U).2=[]:=List.eq_nil_of_length_eq_zero (by omega)
  have h3:∀c∈U,eP c=true:=fun c hc=>List.all_eq_true.1 (FZ.2 h2) c hc
  rw[vk h3]
  simp only[h,true_and]
 ·rw[if_neg (fun hh=>h hh.1)]
  unfold jq
  rw[if_neg]
  rintro ⟨_,_,h3⟩
  rw[JZ h3] at h
  exact h rfl
theorem Qe {U:List UInt8} (q1:(spl U).1.length=U.length):(spl U).1=U:=by
 have e:=oV U
 have el:=congrArg List.length e
 rw[List.length_append] at el
 have h2:(spl U).2=[]:=List.eq_nil_of_length_eq_zero (by omega)
 rw[h2,List.append_nil] at e
 exact e
theorem aam {T:List UInt8}:(spl T).2=T.drop (spl T).1.length:=by
 have h:=List.drop_left (l₁:=(spl T).1) (l₂:=(spl T).2)
 rw[oV] at h
 exact h.symm
set_option maxHeartbeats 1000000
set_option maxRecDepth 100000
open Go Go.Ab Go.RowKit
variable {G:IH}
def Di (t:ByteArray) (g:Int):FE:=match dO t.data.toList with
 | none=>(0,0,3)
 | some (a,b)=>if b=0 then (0,0,2) else red (g*a) b
def Dp:cZ:=fun f args=>match f,args with
 | 108,[.con (.string s)]=>some (.ak [di (lu s),di (nT s)])
 | 109,[.con (.int .i64 a),.con (.int .i64 b)]=>some (fe (red a b))
 | _,_=>none
noncomputable def aeL (t:ByteArray) (g:Int):AS:=⟨regs Tryz.f72.ntmps [(0,vs t),(2,.box 2 0),(3,vi 0),(4,vi g)],[(2,[vi 0,vi 0])]⟩
theorem J8 (D U:List UInt8) (c:UInt8):mP D (c :: U)=if c=47 then (jq U 7).map fun b=>(bM D,b) else if c=46 then (jq U 6).map fun b=>(bM D*10 ^ U.length+b,10 ^ U.length) else none:=rfl
theorem ZU {D U:List UInt8} {c:UInt8} (h:(spl U).1.length≠U.length∨(spl U).1.length<1∨(c≠46∧c≠47)∨(c=46∧6<(spl U).1.length)∨7<(spl U).1.length):mP D (c :: U)=none:=by
 rw[J8,Ey,Ey]
 by_cases c1:c=47
 ·rw[if_pos c1,if_neg]
  ·rfl
  ·rintro ⟨q1,q2,q3⟩
   rcases h with h|h|h|h|h
   ·omega
   ·omega
   ·exact h.2 c1
   ·rw[c1] at h;exact absurd h.1 (by decide)
   ·omega
 ·rw[if_neg c1]
  by_cases c2:c=46
  ·rw[if_pos c2,if_neg]
   ·rfl
   ·rintro ⟨q1,q2,q3⟩
    rcases h with h|h|h|h|h
    ·omega
    ·omega
    ·exact h.1 c2
    ·omega
    ·omega
  ·rw[if_neg c2]
theorem Yg {D U:List UInt8} (q1:(spl U).1.length=U.length) (q2:1≤U.length) (q3:U.length≤7):mP D (47 :: U)=some (bM D,bM U):=by
 rw[J8,if_pos rfl,Ey,if_pos ⟨q1,q2,q3⟩];rfl
theorem aaV {D U:List UInt8} (q1:(spl U).1.length=U.length) (q2:1≤U.length) (q3:U.length≤6):mP D (46 :: U)=some (bM D*10 ^ U.length+bM U,10 ^ U.length):=by
 rw[J8,if_neg (by decide),if_pos rfl,Ey,if_pos ⟨q1,q2,q3⟩];rfl
def Dq (o:Option (Nat×Nat)) (g:Int):FE:=match o with
 | none=>(0,0,3)
 | some (a,b)=>if b=0 then (0,0,2) else red (g*a) b
theorem Zq (t:ByteArray) (g:Int):Di t g=Dq (dO t.data.toList) g:=rfl
noncomputable def ac2 (r:ByteArray) (n g:Int):AS:=⟨regs Tryz.f72.ntmps [(2,.box 2 0),(3,vi 0),(4,vi g),(6,vi n),(7,vs r)],[(2,[vi 0,vi 0])]⟩
noncomputable def acS (n g j m:Int) (i:Nat):AS:=⟨regs Tryz.f72.ntmps [(2,.box 2 0),(3,vi 0),(4,vi g),(6,vi n),(8,vi j),(9,vi m),(10,vi ((10 ^ i:Nat):Int)),(11,vi i)],[(2,[vi 0,vi 0])]⟩
theorem TL {g x:Int} (hg:g=1∨g = -1) (h0:0≤x) (h1:x<1000000000000000000):I64 (g*x)∧jc (g*x):=by
 rcases hg with rfl|rfl
 ·exact⟨⟨by omega,by omega⟩,by omega,by omega⟩
 ·exact⟨⟨by omega,by omega⟩,by omega,by omega⟩
theorem JX {p:Nat} (h:p<1000000000000000000):I64 (p:Int)∧jc (p:Int):=⟨⟨by omega,by omega⟩,by omega,by omega⟩
theorem ZP {p:Nat} (h:p≤1000000):I64 (10*(p:Int)):=⟨by omega,by omega⟩
theorem XU (r:ByteArray) (hs:r.size≤900000) (D U:List UInt8) (c:UInt8) (hr:r.data.toList=c :: U) (hn:bM D<10000000000) (g:Int) (hg:g=1∨g = -1) :
  aK Tryz.prog G [.code (aY (aC Tryz.f72) [1,1,1,1,1,1,1])] (ac2 r (bM D:Nat) g) (tC Tryz.prog Tryz.f72 (fe (Dq (mP D (c :: U)) g))):=by
 have hsz:r.size=U.length+1:=by rw[←dG,hr];rfl
 have hu:(ByteArray.extract r (Int.toNat 1) (Int.toNat (r.size:Int))).data.toList=U:=by
  rw[kQ,hr]
  show (U.take _)=U
  rw[List.take_of_length_le]
  show U.length≤Int.toNat (r.size:Int)-1
  omega
 have hz:byteAt r 0=(c.toNat:Int):=by
  have:=wS (s:=r) (k:=0) (by rw[hr];simp)
  rw[this]
  simp only[hr,List.getElem_cons_zero]
 refine walk (aj:=Dp) (keep:=[]) (cuts:=[]) (n:=1000) follows ?_
 refine au (fun ZT ZW ZQ ZK=>(fun Za=>(((((0:Int)≤(1:Int))∧(1≤(↑r.size:Int))∧((↑r.size:Int)≤↑r.size))∧ZK 108 [(ds Za)] (.ak [(di (lu Za)),(di (nT Za))]))∧((I64 (lu Za+1))∧(((!(lu Za+1 != ↑r.size||decide (lu Za<1)))=true)→(((0:Int)≤(0:Int))∧(0<(↑r.size:Int))))∧(((!(lu Za+1 != ↑r.size||decide (lu Za<1))&&byteAt r (Int.toNat 0) != 46)=true)→(((0:Int)≤(0:Int))∧(0<(↑r.size:Int))))∧(((!(lu Za+1 != ↑r.size||decide (lu Za<1)||byteAt r (Int.toNat 0) != 46&&byteAt r (Int.toNat 0) != 47))=true)→(((0:Int)≤(0:Int))∧(0<(↑r.size:Int)))))∧(((lu Za+1 != ↑r.size||decide (lu Za<1)||byteAt r (Int.toNat 0) != 46&&byteAt r (Int.toNat 0) != 47||byteAt r (Int.toNat 0)==46&&decide (lu Za>6)||decide (lu Za>7))=true)→(((.ak [(.agg [(di 0),(di 0)]),(di 3)]):DV)=(fe (Dq (mP D (c :: U)) g))))∧(((lu Za+1 != ↑r.size||decide (lu Za<1)||byteAt r (Int.toNat 0) != 46&&byteAt r (Int.toNat 0) != 47||byteAt r (Int.toNat 0)==46&&decide (lu Za>6)||decide (lu Za>7))=false)→((((0:Int)≤(0:Int))∧(0<(↑r.size:Int)))∧(((byteAt r (Int.toNat 0)==47)=true)→((((nT Za==0)=true)→(((.ak [(.agg [(di 0),(di 0)]),(di 2)]):DV)=(fe (Dq (mP D (c :: U)) g))))∧(((nT Za==0)=false)→(((I64 (g * ↑(bM D)))∧ZK 109 [(di (g * ↑(bM D))),(di (nT Za))] (.ak [(.agg [(di (red (g * ↑(bM D)) (nT Za)).fst),(di (red (g * ↑(bM D)) (nT Za)).snd.fst)]),(di (red (g * ↑(bM D)) (nT Za)).snd.snd)]))∧((.ak [(.agg [(di (red (g * ↑(bM D)) (nT Za)).fst),(di (red (g * ↑(bM D)) (nT Za)).snd.fst)]),(di (red (g * ↑(bM D)) (nT Za)).snd.snd)]):DV)=(fe (Dq (mP D (c :: U)) g))))))∧(((byteAt r (Int.toNat 0)==47)=false)→ZW [cd Tryz.f72 [1,1,1,1,1,1,1,1,1,1,1,0,1,0],(.blk 0),cd Tryz.f72 [1,1,1,1,1,1,1,1,1,1,1,1]] (aB ZT [1,1]) ZQ))))) (r.extract (Int.toNat 1) (↑r.size:Int).toNat)) (by kernel_rfl) ?_
 try dsimp only
 obtain ⟨u,hue⟩:∃u,u=ByteArray.extract r (Int.toNat 1) (Int.toNat (r.size:Int)):=⟨_,rfl⟩
 rw[←hue] at hu⊢
 have hus:u.size≤900000:=by rw[←dG,hu];omega
 have Nr:=f108 (G:=G) u hus
 have hK:lu u=((spl U).1.length:Nat):=by unfold lu;rw[hu]
 have hV:nT u=(bM ((spl U).1.take 12):Nat):=by unfold nT;rw[hu]
 have aev:(spl U).1.length≤U.length:=by
  have:=congrArg List.length (oV U)
  rw[List.length_append] at this;omega
 have hc1:(c=46↔(c.toNat:Int)=46):=⟨fun h=>by rw[h];rfl,fun h=>UInt8.toNat_inj.1 (by show c.toNat=46;omega)⟩
 have hc2:(c=47↔(c.toNat:Int)=47):=⟨fun h=>by rw[h];rfl,fun h=>UInt8.toNat_inj.1 (by show c.toNat=47;omega)⟩
 have ez:Int.toNat (0:Int)=0:=rfl
 simp only[ez,hz,hK,hsz] at Nr⊢
 refine⟨⟨⟨by omega,by omega,by omega⟩,Nr⟩,⟨⟨by omega,by omega⟩,fun _=>⟨by omega,by omega⟩,fun _=>⟨by omega,by omega⟩,fun _=>⟨by omega,by omega⟩⟩,fun h=>?_,fun h=>⟨⟨by omega,by omega⟩,?_⟩⟩
 ·have hno:mP D (c :: U)=none:=by
   refine ZU ?_
   simp only[Bool.or_eq_true,aV,bne_iff_ne,ne_eq,decide_eq_true_eq,beq_iff_eq] at h
   simp only[ne_eq,hc1,hc2]
   omega
  rw[hno];rfl
 ·simp only[Bool.or_eq_false_iff,Bool.and_eq_false_iff,bne_eq_false_iff_eq,decide_eq_false_iff_not,beq_eq_false_iff_ne,ne_eq] at h
  have q1:(spl U).1.length=U.length:=by omega
  have q2:1≤U.length:=by omega
  have q3:U.length≤7:=by omega
  have hU:=Qe q1
  have hV2:nT u=(bM U:Nat):=by rw[hV,hU,List.take_of_length_le (by omega)]
  have hUd:∀x∈U,FK x:=fun x hx=>(kX x).1 (uf U x (by rw[hU];exact hx))
  have hVb:bM U<10000000:=by
   have h1:=sG _ _ rfl hUd
   have h3:10 ^ U.length≤10 ^ 7:=Nat.pow_le_pow_right (by decide) q3
   have e7:(10:Nat) ^ 7=10000000:=by decide
   omega
  simp only[hV2]
  refine⟨fun h2=>?_,fun h2=>?_⟩
  ·simp only[beq_iff_eq] at h2
   obtain rfl:=hc2.2 h2
   rw[Yg q1 q2 q3]
   refine⟨fun h3=>?_,fun h3=>?_⟩
   ·simp only[beq_iff_eq] at h3
    have:bM U=0:=by omega
    unfold Dq
    simp only[this,if_true];rfl
   ·simp only[beq_eq_false_iff_ne,ne_eq] at h3
    have:bM U≠0:=by omega
    obtain ⟨b1,b2⟩:=TL (x:=((bM D:Nat):Int)) hg (by omega) (by omega)
    refine⟨⟨b1,f109 _ _ (by omega) b2 ⟨by omega,by omega⟩⟩,?_⟩
    unfold Dq
    simp only[if_neg this];rfl
  ·simp only[beq_eq_false_iff_ne,ne_eq] at h2
   have hc:c=46:=hc1.2 (by omega)
   subst hc
   have q6:U.length≤6:=by omega
   rw[aaV q1 q2 q6]
   have hpj:∀i,i≤U.length→10 ^ i≤1000000:=fun i hi=>by
    have h3:10 ^ i≤10 ^ 6:=Nat.pow_le_pow_right (by decide) (by omega)
    have e7:(10:Nat) ^ 6=1000000:=by decide
    omega
   refine aK.loop (c:=aY (aC Tryz.f72) [1,1,1,1,1,1,1,1,1,1,1,0,1,0,0]) (by kernel_rfl) (acS (bM D:Nat) g (U.length:Nat) (bM U:Nat)) (fun i=>i≤U.length) (fun i=>U.length-i) 0 ?_ (Nat.zero_le _) ?_
   ·refine AS.leZ [4,5] [] (b:=((T0∧T0∧T0∧T0∧((vi (lu (r.extract (Int.toNat 1) (↑r.size:Int).toNat))):AV)=(vi (↑U.length))∧((vi (nT (r.extract (Int.toNat 1) (↑r.size:Int).toNat))):AV)=(vi (↑(bM U)))∧T0∧T0∧True)∧T0∧True)) (by kernel_rfl) (by kernel_rfl) ?_
    rw[←hue,hK,hV2,q1]
    exact⟨⟨rfl,rfl,rfl,rfl,rfl,rfl,rfl,rfl,trivial⟩,rfl,trivial⟩
   ·intro i hi
    have hpi:=hpj i hi
    refine walk (aj:=Dp) (keep:=[]) (cuts:=[]) (n:=1000) follows ?_
    refine bZ (fun ZT ZW ZQ _ ZA _=>((((decide ((↑i:Int)<↑U.length))=true)→((I64 ((10:Int)*(↑((10:Nat) ^ i):Int)))∧(I64 (↑i+1))∧(ZA (aB ZT [0]))))∧(((decide ((↑i:Int)<↑U.length))=false)→ZW [cd Tryz.f72 [1,1,1,1,1,1,1,1,1,1,1,1]] (aB ZT [1]) ZQ))) (by kernel_rfl) ?_
    refine⟨fun h5=>?_,fun h5=>?_⟩
    ·simp only[decide_eq_true_eq] at h5
     refine⟨ZP hpi,⟨by omega,by omega⟩,Again.mk (i+1) ?_ (by omega) (by omega)⟩
     refine AS.leZ [6] [] (b:=((T0∧T0∧T0∧T0∧T0∧T0∧((vi ((10:Int)*(↑((10:Nat) ^ i):Int))):AV)=(vi ((↑((10:Nat) ^ (i+(1:Nat))):Int)))∧T0∧True)∧T0∧True)) (by kernel_rfl) (by kernel_rfl) ?_
     refine⟨⟨rfl,rfl,rfl,rfl,rfl,rfl,?_,?_,trivial⟩,rfl,trivial⟩
     ·rw[Nat.pow_succ];push_cast;rw[Int.mul_comm]
     ·push_cast;rfl
    ·simp only[decide_eq_false_iff_not] at h5
     have hi2:i=U.length:=by omega
     subst hi2
     have hm1:bM D*10 ^ U.length≤10000000000*1000000:=Nat.mul_le_mul (by omega) hpi
     have hcast:((bM D:Nat):Int)*((10 ^ U.length:Nat):Int)=((bM D*10 ^ U.length:Nat):Int):=by rw[Int.natCast_mul]
     have hp0:0<10 ^ U.length:=Nat.pow_pos (by decide)
     obtain ⟨b1,b2⟩:=TL (x:=((bM D*10 ^ U.length+bM U:Nat):Int)) hg (Int.natCast_nonneg _) (Int.ofNat_lt.2 (by omega:bM D*10 ^ U.length+bM U<1000000000000000000))
     refine walk (aj:=Dp) (keep:=[]) (cuts:=[]) (n:=1000) follows ?_
     refine au (fun _ _ _ ZK=>(fun Za Zb=>(((I64 ((↑(bM D):Int)*(↑((10:Nat) ^ List.length U):Int)))∧(I64 Zb)∧(I64 (g*Zb))∧ZK 109 [(di (g*Zb)),(di ((↑((10:Nat) ^ List.length U):Int)))] (.ak [(.agg [(di (Prod.fst Za)),(di (Prod.fst (Prod.snd Za)))]),(di (Prod.snd (Prod.snd Za)))]))∧((.ak [(.agg [(di (Prod.fst Za)),(di (Prod.fst (Prod.snd Za)))]),(di (Prod.snd (Prod.snd Za)))]):DV)=(fe (Dq (some (bM D*10 ^ U.length+bM U,10 ^ U.length)) g)))) (red (g*((↑(bM D):Int)*(↑((10:Nat) ^ List.length U):Int)+(↑(bM U):Int))) (↑((10:Nat) ^ List.length U):Int)) ((↑(bM D):Int)*(↑((10:Nat) ^ List.length U):Int)+(↑(bM U):Int))) (by kernel_rfl) ?_
     try dsimp only
     simp only[hcast,←Int.natCast_add]
     have hne:((10 ^ U.length:Nat):Int)≠0:=by
      intro h
      exact absurd (Int.ofNat.inj h) (by omega)
     refine⟨⟨(JX (by omega)).1,(JX (by omega)).1,b1,f109 _ _ hne b2 (JX (by omega)).2⟩,?_⟩
     unfold Dq
     simp only[if_neg (show ¬10 ^ U.length=0 by omega)]
     rfl
theorem GK (t:ByteArray) (ht:t.size≤900000) (g:Int) (hg:g=1∨g = -1):aK Tryz.prog G [.code (aY (aC Tryz.f72) [1,1,1])] (aeL t g) (tC Tryz.prog Tryz.f72 (fe (Di t g))):=by
 have Nr:=f108 (G:=G) t ht
 have eK:lu t=((spl t.data.toList).1.length:Nat):=rfl
 have eV:nT t=(bM ((spl t.data.toList).1.take 12):Nat):=rfl
 have aev:(spl t.data.toList).1.length≤t.size:=by
  have:=congrArg List.length (oV t.data.toList)
  rw[List.length_append,dG] at this;omega
 rw[Zq]
 refine walk (aj:=Dp) (keep:=[]) (cuts:=[10]) (n:=1000) follows ?_
 refine au (fun ZT ZW ZQ ZK=>(fun Za Zb=>(ZK 108 [(ds t)] (.ak [(di (lu t)),(di (nT t))])∧(((decide (lu t<1)||decide (lu t>10))=true)→(((.ak [(.agg [(di 0),(di 0)]),(di 3)]):DV)=(fe (Dq (dO t.data.toList) g))))∧(((decide (lu t<1)||decide (lu t>10))=false)→(((0≤lu t)∧(lu t≤↑t.size)∧((↑t.size:Int)≤↑t.size))∧((Zb=true)→(((I64 (g*nT t))∧ZK 109 [(di (g*nT t)),(di 1)] Za)∧(Za:DV)=(fe (Dq (dO t.data.toList) g))))∧((Zb=false)→ZW [cd Tryz.f72 [1,1,1,1,1,1,1]] (aB ZT [1,1]) ZQ))))) ((.ak [(.agg [(di (red (g*nT t) 1).fst),(di (red (g*nT t) 1).snd.fst)]),(di (red (g*nT t) 1).snd.snd)]):DV) ((t.extract (lu t).toNat (↑t.size:Int).toNat).toList==(ByteArray.mk #[]).toList)) (by kernel_rfl) ?_
 try dsimp only
 simp only[eK] at Nr⊢
 refine⟨Nr,fun h=>?_,fun h=>?_⟩
 ·simp only[Bool.or_eq_true,decide_eq_true_eq] at h
  rw[ab1 (by omega)];rfl
 ·simp only[Bool.or_eq_false_iff,decide_eq_false_iff_not] at h
  have h1:1≤(spl t.data.toList).1.length:=by omega
  have h2:(spl t.data.toList).1.length≤10:=by omega
  have eV2:nT t=(bM (spl t.data.toList).1:Nat):=by rw[eV,List.take_of_length_le (by omega)]
  have hDb:bM (spl t.data.toList).1<10000000000:=by
   have h1:=sG _ _ rfl fun c hc=>(kX c).1 (uf t.data.toList c hc)
   have h3:10 ^ (spl t.data.toList).1.length≤10 ^ 10:=Nat.pow_le_pow_right (by decide) h2
   have e10:(10:Nat) ^ 10=10000000000:=by decide
   omega
  have hx:∀r:ByteArray,r=ByteArray.extract t (Int.toNat (((spl t.data.toList).1.length:Nat):Int)) (Int.toNat (t.size:Int))→r.data.toList=(spl t.data.toList).2:=by
   rintro r rfl
   rw[kQ,Int.toNat_natCast,Int.toNat_natCast,←aam,List.take_of_length_le]
   have:=congrArg List.length (oV t.data.toList)
   rw[List.length_append,dG] at this;omega
  obtain ⟨r,hre⟩:∃r,r=ByteArray.extract t (Int.toNat (((spl t.data.toList).1.length:Nat):Int)) (Int.toNat (t.size:Int)):=⟨_,rfl⟩
  rw[←hre] at hx⊢
  have hx:=hx r rfl
  have hpo:dO t.data.toList=mP (spl t.data.toList).1 (spl t.data.toList).2:=by unfold dO;rw[if_pos ⟨h1,h2⟩]
  rw[hpo]
  refine⟨⟨by omega,by omega,by omega⟩,fun h3=>?_,fun h3=>?_⟩
  ·have h3:(spl t.data.toList).2=[]:=by
    rw[beq_iff_eq,ByteArray.toList_eq,ByteArray.toList_eq,hx] at h3
    exact h3
   rw[h3,eV2]
   obtain ⟨b1,b2⟩:=TL (x:=((bM (spl t.data.toList).1:Nat):Int)) hg (by omega) (by omega)
   exact⟨⟨b1,f109 _ _ (by decide) b2 ⟨by decide,by decide⟩⟩,rfl⟩
  ·obtain ⟨c,U,hcU⟩:∃c U,(spl t.data.toList).2=c :: U:=by
    cases hc:(spl t.data.toList).2 with
    | nil=>
     rw[hc] at hx
     rw[ByteArray.toList_eq,ByteArray.toList_eq,hx] at h3
     cases h3
    | cons c U=>exact⟨c,U,rfl⟩
   have hrs:r.size≤900000:=by
    rw[←dG,hx]
    have:=congrArg List.length (oV t.data.toList)
    rw[List.length_append,dG] at this;omega
   rw[hcU]
   refine aK.weaken ?_ (XU r hrs (spl t.data.toList).1 U c (by rw[hx,hcU]) hDb g hg)
   refine AS.leZ [3,4] [] (b:=((T0∧T0∧T0∧((vi (nT t)):AV)=(vi (↑(bM (spl t.data.toList).fst)))∧((vs (t.extract (lu t).toNat (↑t.size:Int).toNat)):AV)=(vs r)∧True)∧T0∧True)) (by kernel_rfl) (by kernel_rfl) ?_
   rw[eK,←hre,eV2]
   exact⟨⟨rfl,rfl,rfl,rfl,rfl,trivial⟩,rfl,trivial⟩
theorem f72 (s:ByteArray) (hs:s.size≤900000):ay Tryz.prog G 72 [ds s] (fe (fK s)):=by
 refine ay.aP (show Tryz.prog.funcs[72]?=some Tryz.f72 from Tryz.func72) rfl Tryz.call72 ?_
 refine walk (aj:=Dp) (keep:=[]) (cuts:=[4]) (n:=1000) follows ?_
 refine au (fun ZT ZW ZQ _=>((((decide ((↑s.size:Int)>0))=true)→(((0:Int)≤(0:Int))∧(0<(↑s.size:Int))))∧(((decide ((↑s.size:Int)>0)&&byteAt s (Int.toNat 0)==45)=true)→((((0:Int)≤(1:Int))∧(1≤(↑s.size:Int))∧((↑s.size:Int)≤↑s.size))∧ZW [cd Tryz.f72 [1,1,1]] (aB ZT [0]) ZQ))∧(((decide ((↑s.size:Int)>0)&&byteAt s (Int.toNat 0)==45)=false)→ZW [cd Tryz.f72 [1,1,1]] (aB ZT [1]) ZQ))) (by kernel_rfl) ?_
 have ez:Int.toNat (0:Int)=0:=rfl
 have e1:Int.toNat (1:Int)=1:=rfl
 simp only[ez,e1,Int.toNat_natCast]
 cases hl:s.data.toList with
 | nil=>
  have h0:s.size=0:=by rw[←dG,hl];rfl
  have e2:fK s=Di s 1:=by
   have h1:preB minus s=false:=by unfold preB;rw[hl];rfl
   have h2:preS minus s=s:=by unfold preS Lib.trimPrefix;rw[hl];exact(congrArg bs hl).symm.trans (yT s)
   unfold fK Di
   rw[h1,h2]
   simp only[Bool.false_eq_true,if_false,Int.one_mul]
   rcases dO s.data.toList with _|⟨a,b⟩<;>rfl
  refine⟨fun h=>?_,fun h=>?_,fun h=>?_⟩
  ·simp only[decide_eq_true_eq] at h;omega
  ·simp only[aV,decide_eq_true_eq] at h;omega
  ·rw[e2]
   refine aK.weaken ?_ (GK s hs 1 (Or.inl rfl))
   exact AS.bV (by kernel_rfl)
 | cons c T=>
  have h0:s.size=T.length+1:=by rw[←dG,hl];rfl
  have hz:byteAt s 0=(c.toNat:Int):=by
   have:=wS (s:=s) (k:=0) (by rw[hl];simp)
   rw[this]
   simp only[hl,List.getElem_cons_zero]
  have hc1:(c=45↔(c.toNat:Int)=45):=⟨fun h=>by rw[h];rfl,fun h=>UInt8.toNat_inj.1 (by show c.toNat=45;omega)⟩
  simp only[hz]
  refine⟨fun h=>?_,fun h=>?_,fun h=>?_⟩
  ·exact⟨by omega,by omega⟩
  ·simp only[aV,decide_eq_true_eq,beq_iff_eq] at h
   obtain rfl:=hc1.2 h.2
   have hx:ByteArray.extract s 1 s.size=preS minus s:=by
    unfold preS Lib.trimPrefix
    rw[hl,if_pos (by simp[minus,Lib.hasPrefix,List.isPrefixOf]),Ig,hl]
    show bs (T.take _)=bs T
    rw[List.take_of_length_le (by omega)]
   have e2:fK s=Di (preS minus s) (-1):=by
    have h1:preB minus s=true:=by unfold preB;rw[hl];simp[minus,Lib.hasPrefix,List.isPrefixOf]
    unfold fK Di
    rw[h1]
    simp only[if_true,Int.neg_one_mul]
    rcases dO (preS minus s).data.toList with _|⟨a,b⟩<;>rfl
   rw[e2]
   have hps:(preS minus s).size≤900000:=by rw[←hx,ByteArray.size_extract];omega
   refine⟨⟨by omega,by omega,by omega⟩,aK.weaken ?_ (GK (preS minus s) hps (-1) (Or.inr rfl))⟩
   refine AS.leZ [0] [] (b:=((((vs (s.extract (Int.toNat 1) (↑s.size:Int).toNat)):AV)=(vs (preS minus s))∧T0∧T0∧T0∧True)∧T0∧True)) (by kernel_rfl) (by kernel_rfl) ?_
   rw[e1,Int.toNat_natCast,hx]
   exact⟨⟨rfl,rfl,rfl,rfl,trivial⟩,rfl,trivial⟩
  ·simp only[Bool.and_eq_false_iff,decide_eq_false_iff_not,beq_eq_false_iff_ne,ne_eq] at h
   have hc:c≠45:=fun hc=>by
    have:=hc1.1 hc
    omega
   have hh:Lib.hasPrefix s.data.toList minus.data.toList=false:=by
    rw[hl]
    simp[minus,Lib.hasPrefix,List.isPrefixOf]
    exact fun h=>hc h.symm
   have e2:fK s=Di s 1:=by
    have h1:preB minus s=false:=hh
    have h2:preS minus s=s:=by unfold preS Lib.trimPrefix;rw[hh];exact yT s
    unfold fK Di
    rw[h1,h2]
    simp only[Bool.false_eq_true,if_false,Int.one_mul]
    rcases dO s.data.toList with _|⟨a,b⟩<;>rfl
   rw[e2]
   refine aK.weaken ?_ (GK s hs 1 (Or.inl rfl))
   exact AS.bV (by kernel_rfl)
end Go.Proofs
/- Words in front of a text,the reference's side. -/
namespace Go.Proofs
open Go Go.Ab Go.RowKit
set_option maxHeartbeats 1000000
set_option maxRecDepth 100000
variable {G:IH}
def KJ (c:Int):Bool:=((c==32||c==9)||c==10||c==13)
theorem f33 (c:Int):ay Tryz.prog G 33 [b8 c] (db (KJ c)):=by
 refine ay.walk (aj:=nV) (keep:=[]) follows Tryz.func33 rfl Tryz.call33 ?_
 refine au (fun _ _ _ _=>(((db (c==32||c==9||c==10||c==13)):DV)=(db (KJ c)))) (by kernel_rfl) ?_
 unfold KJ
 simp only[Bool.or_assoc]
noncomputable def vI (n d e:Int):cZ:=fun f a=>match f,a with
 | 69,[b8 c]=>some (db (eu c))
 | 71,[b8 c]=>some (db (bQ c))
 | 70,[b8 c]=>some (db (fP c))
 | 72,[.con (.string _)]=>some (.ak [fr n d,di e])
 | _,_=>none
noncomputable def S34 (s:ByteArray) (k:Nat):AS:=⟨regs Tryz.f34.ntmps [(0,vs s),(4,vi k)],[]⟩
noncomputable def abV (s:ByteArray) (r k:Nat):AS:=⟨regs Tryz.f34.ntmps [(0,vs s),(4,vi k),(5,vi r)],[]⟩
noncomputable def aej (s:ByteArray) (k:Nat):AS:=⟨regs Tryz.f34.ntmps [(0,vs s),(8,.d (xU qp)),(9,vi k)],[]⟩
theorem Yu {st:AS} {t:Nat} {x y:AV} (hx:st.reg t=x) (hxy:∀(β:Nat→Nat) (h:IH) (v:Value),x.rel β h v→y.rel β h v):st.dZ ⟨st.regs.set t y,st.boxes⟩:=AS.dZ.reg st t y (by rw[hx];exact hxy)
theorem X4 (l p:List UInt8):(decide (p.length≤l.length)&&(l.take p.length==p))=p.isPrefixOf l:=by
 rw[Bool.eq_iff_iff,List.isPrefixOf_iff_prefix,List.prefix_iff_eq_take]
 simp only[aV,decide_eq_true_eq,beq_iff_eq]
 constructor
 ·exact fun h=>h.2.symm
 ·intro h
  refine⟨?_,h.symm⟩
  have:=congrArg List.length h
  rw[List.length_take] at this;omega
theorem WU (s p:ByteArray):(decide ((p.size:Int)≤(s.size:Int))&&(s.extract (Int.toNat 0) ((p.size:Int)).toNat).toList==p.toList)=p.data.toList.isPrefixOf s.data.toList:=by
 have hl:s.data.toList.length=s.size:=Array.length_toList
 have hp:p.data.toList.length=p.size:=Array.length_toList
 rw[←X4,ByteArray.toList_eq,ByteArray.toList_eq,Int.toNat_natCast,show Int.toNat (0:Int)=0 from rfl,kQ,hp,hl]
 congr 1
 rw[decide_eq_decide];omega
theorem aaJ (s:ByteArray) (n:Nat) (p:UInt8→Bool) (q:Int→Bool) (hpq:∀c:UInt8,p c=q (c.toNat:Int)):(decide ((n:Int)<s.size)&&q (byteAt s n))=s.data.toList[n]?.any p:=by
 have hl:s.data.toList.length=s.size:=Array.length_toList
 by_cases h:n<s.size
 ·obtain ⟨c,h1,h2⟩:=qw h
  rw[h1,h2,decide_eq_true (by omega:(n:Int)<s.size),Option.any_some,hpq];rfl
 ·rw[List.getElem?_eq_none (by omega),decide_eq_false (by omega:¬(n:Int)<s.size)];rfl
theorem acB (s:ByteArray) (hs:s.size≤900000) (k:Nat) (hk:k≤s.size) (hke:qP s.data.toList=k) (hrl:bC bJ s.data.toList≤k):aK Tryz.prog G [.code (aY (aC Tryz.f34) [1,1,1,0,1,0,1,1,1,0]),.code (aY (aC Tryz.f34) [1,1,1,0,1,0,1,1,1,1]),.code (aY (aC Tryz.f34) [1,1,1,1])] (abV s (bC bJ s.data.toList) k) (tC Tryz.prog Tryz.f34 (.ak [di (zB s.data.toList).1,di (zB s.data.toList).2])):=by
 have hp:ay Tryz.prog G 72 [ds (s.extract 0 k)] (fe (fK (s.extract 0 k))):=f72 _ (by rw[ByteArray.size_extract];omega)
 rw[yZ] at hp
 have hR:zB s.data.toList=if 9<bC bJ s.data.toList∨7<k-bC bJ s.data.toList∨(s.data.toList[k]?.any fun c=>dM c||c==46)=true then ((0,3):Int×Int) else if (fK (iZ (s.data.toList.take k))).2.2≠0 then (0,2) else (k,0):=by rw[←hke];rfl
 rw[hR]
 revert hp
 obtain ⟨x,hx⟩:∃x,x=fK (iZ (s.data.toList.take k)):=⟨_,rfl⟩
 rw[←hx]
 intro hp
 revert hrl
 obtain ⟨r,hr⟩:∃r,r=bC bJ s.data.toList:=⟨_,rfl⟩
 rw[←hr]
 intro hrl
 refine aF (aj:=vI x.1 x.2.1 x.2.2) (keep:=[]) (cuts:=[]) (n:=1000) follows ?_
 refine au (fun _ _ _ ZK=>(fun Za Zb=>(((((!decide ((↑r:Int)>9))=true)→(I64 (↑k - ↑r)))∧(((!Zb&&decide ((↑k:Int)<↑s.size))=true)→((0≤(↑k:Int))∧((↑k:Int)<↑s.size)))∧(((!Zb&&decide ((↑k:Int)<↑s.size))=true)→ZK 70 [(.con (.int .u8 (byteAt s (↑k:Int).toNat)))] (db (fP (byteAt s (↑k:Int).toNat))))∧(((!Zb&&decide ((↑k:Int)<↑s.size)&&!fP (byteAt s (↑k:Int).toNat))=true)→((0≤(↑k:Int))∧((↑k:Int)<↑s.size))))∧((Za=true)→(((.ak [(di 0),(di 3)]):DV)=(.ak [(di (Prod.fst (if (9:Nat)<r∨(7:Nat)<k-r∨Option.any (fun c=>dM c||c==(46:UInt8)) (Array.toList (ByteArray.data s))[k]?=true then ((0:Int),(3:Int)) else if Prod.snd (Prod.snd x)≠(0:Int) then ((0:Int),(2:Int)) else ((↑k:Int),(0:Int))))),(di (if 9<r∨7<k-r∨Option.any (fun c=>dM c||c==46) s.data.toList[k]?=true then (0,3) else if x.snd.snd≠0 then (0,2) else ((↑k:Int),0)).snd)])))∧((Za=false)→(((((0:Int)≤(0:Int))∧(0≤(↑k:Int))∧((↑k:Int)≤↑s.size))∧ZK 72 [(ds (s.extract (Int.toNat 0) (↑k:Int).toNat))] (.ak [(.agg [(di x.fst),(di x.snd.fst)]),(di x.snd.snd)]))∧(((x.snd.snd != 0)=true)→(((.ak [(di 0),(di 2)]):DV)=(.ak [(di (Prod.fst (if (9:Nat)<r∨(7:Nat)<k-r∨Option.any (fun c=>dM c||c==(46:UInt8)) (Array.toList (ByteArray.data s))[k]?=true then ((0:Int),(3:Int)) else if Prod.snd (Prod.snd x)≠(0:Int) then ((0:Int),(2:Int)) else ((↑k:Int),(0:Int))))),(di (if 9<r∨7<k-r∨Option.any (fun c=>dM c||c==46) s.data.toList[k]?=true then (0,3) else if x.snd.snd≠0 then (0,2) else ((↑k:Int),0)).snd)])))∧(((x.snd.snd != 0)=false)→(((.ak [(di (↑k)),(di 0)]):DV)=(.ak [(di (Prod.fst (if (9:Nat)<r∨(7:Nat)<k-r∨Option.any (fun c=>dM c||c==(46:UInt8)) (Array.toList (ByteArray.data s))[k]?=true then ((0:Int),(3:Int)) else if Prod.snd (Prod.snd x)≠(0:Int) then ((0:Int),(2:Int)) else ((↑k:Int),(0:Int))))),(di (if 9<r∨7<k-r∨Option.any (fun c=>dM c||c==46) s.data.toList[k]?=true then (0,3) else if x.snd.snd≠0 then (0,2) else ((↑k:Int),0)).snd)]))))))) (decide ((↑r:Int)>9)||decide ((↑k:Int)-(↑r:Int)>7)||decide ((↑k:Int)<↑s.size)&&(fP (byteAt s (↑k:Int).toNat)||byteAt s (↑k:Int).toNat==46)) (decide ((↑r:Int)>9)||decide ((↑k:Int)-(↑r:Int)>7))) (by kernel_rfl) ?_
 try dsimp only
 have z0:Int.toNat (0:Int)=0:=rfl
 have ha:=aaJ s k (fun c=>dM c||c==46) (fun c=>fP c||c==46) fun c=>by rw[eq_46];rfl
 rw[Int.toNat_natCast,z0,yZ]
 rw[ha]
 refine⟨⟨fun _=>⟨by omega,by omega⟩,fun h=>?_,fun _=>f70 _,fun h=>?_⟩,fun h=>?_,fun h=>⟨⟨⟨by omega,by omega,by omega⟩,hp⟩,fun h2=>?_,fun h2=>?_⟩⟩
 ·simp only[aV,decide_eq_true_eq] at h;omega
 ·simp only[aV,decide_eq_true_eq] at h;omega
 ·rw[if_pos]
  simp only[Bool.or_eq_true,decide_eq_true_eq] at h
  rcases h with (h|h)|h
  ·left;omega
  ·right;left;omega
  ·right;right;exact h
 ·simp only[Bool.or_eq_false_iff,decide_eq_false_iff_not] at h
  rw[if_neg,if_pos (by simpa using h2)]
  rintro (h3|h3|h3)
  ·omega
  ·omega
  ·rw[h.2] at h3;cases h3
 ·simp only[Bool.or_eq_false_iff,decide_eq_false_iff_not] at h
  rw[if_neg,if_neg (by simpa using h2)]
  rintro (h3|h3|h3)
  ·omega
  ·omega
  ·rw[h.2] at h3;cases h3
theorem acL (s:ByteArray) (hs:s.size≤900000):aK Tryz.prog G [.code (aY (aC Tryz.f34) [1,1,1,0,1,0,1]),.code (aY (aC Tryz.f34) [1,1,1,1])] (S34 s (bC bJ s.data.toList)) (tC Tryz.prog Tryz.f34 (.ak [di (zB s.data.toList).1,di (zB s.data.toList).2])):=by
 have hl:s.data.toList.length=s.size:=Array.length_toList
 have hrs:=uI bJ s.data.toList
 rw[hl] at hrs
 have hrec:∀r,r=bC bJ s.data.toList→qP s.data.toList=if ((s.data.toList[r]?.any fun c=>c==46)&&s.data.toList[r+1]?.any bJ)=true then r+1+bC bJ (s.data.toList.drop (r+1)) else r:=by rintro r rfl;rfl
 have hd:=fun k=>acB (G:=G) s hs k
 revert hrs hrec hd
 generalize bC bJ s.data.toList=r
 intro hrs hrec hd
 refine aF (aj:=vI 0 0 0) (keep:=[]) (cuts:=[16]) (n:=1000) follows ?_
 refine au (fun ZT ZW ZQ ZK=>(fun Za Zb=>(((I64 (↑r+1))∧(((decide ((↑r:Int)+1<↑s.size))=true)→((0≤(↑r:Int))∧((↑r:Int)<↑s.size)))∧((Za=true)→(I64 (↑r+1)))∧((Za=true)→((0≤(↑r:Int)+1)∧((↑r:Int)+1<↑s.size)))∧((Za=true)→ZK 71 [(.con (.int .u8 (byteAt s ((↑r:Int)+1).toNat)))] (db (bQ (byteAt s ((↑r:Int)+1).toNat)))))∧((Zb=true)→((I64 (↑r+1))∧ZW [cd Tryz.f34 [1,1,1,0,1,0,1,1,0,1,0,1,0],(.blk 4),cd Tryz.f34 [1,1,1,0,1,0,1,1,1],cd Tryz.f34 [1,1,1,1]] (aB ZT [0]) ZQ))∧((Zb=false)→ZW [cd Tryz.f34 [1,1,1,0,1,0,1,1,1,0],cd Tryz.f34 [1,1,1,0,1,0,1,1,1,1],cd Tryz.f34 [1,1,1,1]] (aB ZT [1]) ZQ))) (decide ((↑r:Int)+1<↑s.size)&&byteAt s (↑r:Int).toNat==46) (decide ((↑r:Int)+1<(↑s.size:Int))&&byteAt s ((↑r:Int):Int).toNat==46&&bQ (byteAt s ((↑r:Int)+1).toNat))) (by kernel_rfl) ?_
 try dsimp only
 have e1:((r:Int)+1).toNat=r+1:=by omega
 rw[Int.toNat_natCast,e1]
 have key:(decide ((r:Int)+1<s.size)&&byteAt s r==46&&bQ (byteAt s (r+1)))=((s.data.toList[r]?.any fun c=>c==46)&&s.data.toList[r+1]?.any bJ):=by
  by_cases h:r+1<s.size
  ·obtain ⟨c,h1,h2⟩:=qw (show r<s.size by omega)
   obtain ⟨d,h3,h4⟩:=qw h
   rw[h1,h3,h2,h4,decide_eq_true (by omega:(r:Int)+1<s.size),Option.any_some,Option.any_some,eq_46,Bool.true_and];rfl
  ·rw[decide_eq_false (by omega:¬(r:Int)+1<s.size),List.getElem?_eq_none (l:=s.data.toList) (i:=r+1) (by omega)];simp
 have hrec:=hrec r rfl
 rw[←key] at hrec
 refine⟨⟨⟨by omega,by omega⟩,fun h=>?_,fun _=>⟨by omega,by omega⟩,fun h=>?_,fun _=>f71 _⟩,fun h=>⟨⟨by omega,by omega⟩,?_⟩,fun h=>?_⟩
 ·simp only[decide_eq_true_eq] at h;omega
 ·simp only[aV,decide_eq_true_eq] at h;omega
 ·rw[if_pos h] at hrec
  simp only[aV,decide_eq_true_eq] at h
  have hml:=uI bJ (s.data.toList.drop (r+1))
  rw[List.length_drop,hl] at hml
  refine aK.loop (c:=aY (aC Tryz.f34) [1,1,1,0,1,0,1,1,0,1,0,1,0,0]) (by kernel_rfl) (abV s r) (fun k=>r+1≤k∧k≤s.size∧∀i,r+1≤i→i<k→bQ (byteAt s i)=true) (fun k=>s.size-k) (r+1) ?_ ⟨Nat.le_refl _,by omega,fun i hi hi2=>by omega⟩ ?_
  ·exact AS.bV (by kernel_rfl)
  ·rintro k ⟨hk0,hk,hkd⟩
   refine aF (aj:=vI 0 0 0) (keep:=[]) (cuts:=[16]) (n:=1000) follows ?_
   refine bZ (fun ZT ZW ZQ ZK ZA _=>(((((decide ((↑k:Int)<↑s.size))=true)→((0≤(↑k:Int))∧((↑k:Int)<↑s.size)))∧(((decide ((↑k:Int)<↑s.size))=true)→ZK 71 [(.con (.int .u8 (byteAt s (↑k:Int).toNat)))] (db (bQ (byteAt s (↑k:Int).toNat)))))∧(((decide ((↑k:Int)<↑s.size)&&bQ (byteAt s (↑k:Int).toNat))=true)→((I64 (↑k+1))∧(ZA (aB ZT [0]))))∧(((decide ((↑k:Int)<↑s.size)&&bQ (byteAt s (↑k:Int).toNat))=false)→ZW [cd Tryz.f34 [1,1,1,0,1,0,1,1,1],cd Tryz.f34 [1,1,1,1]] (aB ZT [1]) ZQ))) (by kernel_rfl) ?_
   rw[Int.toNat_natCast]
   refine⟨⟨fun h=>?_,fun _=>f71 _⟩,fun h=>?_,fun h=>?_⟩
   ·simp only[decide_eq_true_eq] at h
    exact⟨by omega,by omega⟩
   ·simp only[aV,decide_eq_true_eq] at h
    refine⟨⟨by omega,by omega⟩,Again.mk (k+1) ?_ ⟨by omega,by omega,fun i hi hi2=>?_⟩ (by omega)⟩
    ·exact AS.bV (by kernel_rfl)
    ·rcases Nat.lt_or_ge i k with h1|h1
     ·exact hkd i hi h1
     ·obtain rfl:i=k:=by omega
      exact h.2
   ·have hst:bC bJ (s.data.toList.drop (r+1))=k-(r+1):=by
     have:=rG (p:=bQ) (s:=s.extract (r+1) s.size) (k:=k-(r+1)) (by rw[ByteArray.size_extract];omega) (fun i hi=>?_) (fun hi=>?_)
     ·unfold jM at this;rw[kL] at this;exact this
     ·have:=hkd (r+1+i) (by omega) (by omega)
      rw[dU (by omega)] at this
      rw[dU (by rw[ByteArray.size_extract];omega)]
      simp only[kL,List.getElem_drop];exact this
     ·rw[ByteArray.size_extract] at hi
      simp only[Bool.and_eq_false_imp,decide_eq_true_eq] at h
      have:=h (by omega)
      rw[dU (by omega)] at this
      rw[dU (by rw[ByteArray.size_extract];omega)]
      simp only[kL,List.getElem_drop,show r+1+(k-(r+1))=k from by omega];exact this
    rw[hst] at hrec
    refine aF (aj:=vI 0 0 0) (keep:=[]) (cuts:=[16]) (n:=1000) follows ?_
    refine au (fun ZT ZW ZQ _=>ZW [cd Tryz.f34 [1,1,1,0,1,0,1,1,1,0],cd Tryz.f34 [1,1,1,0,1,0,1,1,1,1],cd Tryz.f34 [1,1,1,1]] (aB ZT []) ZQ) (by kernel_rfl) ?_
    refine aK.weaken ?_ (hd k hk (by rw[hrec];omega) (by omega))
    exact AS.bV (by kernel_rfl)
 ·rw[if_neg (by rw[h];decide)] at hrec
  refine aK.weaken ?_ (hd r hrs hrec (Nat.le_refl _))
  exact AS.bV (by kernel_rfl)
theorem f34 (s:ByteArray) (hs:s.size≤900000) (h0:0<s.size):ay Tryz.prog G 34 [ds s] (.ak [di (dB s.data.toList).1,di (dB s.data.toList).2]):=by
 have hl:s.data.toList.length=s.size:=Array.length_toList
 obtain ⟨W,xK⟩:∃W,W=dB s.data.toList:=⟨_,rfl⟩
 have hW:W=if bJ (s.data.toList.headD 0) then rY s.data.toList else if oz (s.data.toList.headD 0) then if bC dM s.data.toList≤16 then ((bC dM s.data.toList,0):Int×Int) else (0,3) else match wF.find? fun x=>x.isPrefixOf s.data.toList with
  | some x=>(x.length,0)
  | none=>(0,3):=by rw[xK];rfl
 rw[←xK]
 refine ay.aP Tryz.func34 rfl Tryz.call34 ?_
 refine aF (aj:=vI 0 0 0) (keep:=[]) (cuts:=[]) (n:=1000) follows ?_
 refine au (fun ZT ZW ZQ ZK=>(((((0:Int)≤(0:Int))∧(0<(↑s.size:Int)))∧ZK 69 [(.con (.int .u8 (byteAt s (Int.toNat 0))))] (db (eu (byteAt s (Int.toNat 0)))))∧(((eu (byteAt s (Int.toNat 0)))=true)→ZW [cd Tryz.f34 [1,1,0,1,0,0,0],(.blk 0),cd Tryz.f34 [1,1,0,1,0,1],cd Tryz.f34 [1,1,1]] (aB ZT [0]) ZQ)∧(((eu (byteAt s (Int.toNat 0)))=false)→(((((0:Int)≤(0:Int))∧(0<(↑s.size:Int)))∧ZK 71 [(.con (.int .u8 (byteAt s (Int.toNat 0))))] (db (bQ (byteAt s (Int.toNat 0)))))∧(((bQ (byteAt s (Int.toNat 0)))=true)→ZW [cd Tryz.f34 [1,1,1,0,1,0,0,0],(.blk 2),cd Tryz.f34 [1,1,1,0,1,0,1],cd Tryz.f34 [1,1,1,1]] (aB ZT [1,0]) ZQ)∧(((bQ (byteAt s (Int.toNat 0)))=false)→ZW [cd Tryz.f34 [1,1,1,1,1,0,1,0],(.blk 6),cd Tryz.f34 [1,1,1,1,1,1]] (aB ZT [1,1]) ZQ))))) (by kernel_rfl) ?_
 obtain ⟨c,hc,hb⟩:=qw h0
 have hh:s.data.toList.headD 0=c:=by
  cases e:s.data.toList with
  | nil=>rw[e] at hc;cases hc
  | cons x l=>rw[e] at hc;simpa using hc
 rw[hh] at hW
 have z0:Int.toNat (0:Int)=0:=rfl
 rw[z0,hb]
 refine⟨⟨⟨by omega,by omega⟩,f69 _⟩,fun h1=>?_,fun h1=>⟨⟨⟨by omega,by omega⟩,f71 _⟩,fun h2=>?_,fun h2=>?_⟩⟩
 ·have hnd:bJ c=false:=(KN (show oz c=true from h1)).1
  rw[if_neg (by rw[hnd];decide),if_pos (show oz c=true from h1)] at hW
  refine aK.loop (c:=aY (aC Tryz.f34) [1,1,0,1,0,0,0,0]) (by kernel_rfl) (S34 s) (fun k=>k≤s.size∧∀i,i<k→fP (byteAt s i)=true) (fun k=>s.size-k) 0 ?_ ⟨Nat.zero_le _,fun i hi=>by omega⟩ ?_
  ·exact AS.bV (by kernel_rfl)
  ·rintro k ⟨hk,hkd⟩
   refine aF (aj:=vI 0 0 0) (keep:=[]) (cuts:=[]) (n:=1000) follows ?_
   refine bZ (fun ZT ZW ZQ ZK ZA _=>(((((decide ((↑k:Int)<↑s.size))=true)→((0≤(↑k:Int))∧((↑k:Int)<↑s.size)))∧(((decide ((↑k:Int)<↑s.size))=true)→ZK 70 [(.con (.int .u8 (byteAt s (↑k:Int).toNat)))] (db (fP (byteAt s (↑k:Int).toNat)))))∧(((decide ((↑k:Int)<↑s.size)&&fP (byteAt s (↑k:Int).toNat))=true)→((I64 (↑k+1))∧(ZA (aB ZT [0]))))∧(((decide ((↑k:Int)<↑s.size)&&fP (byteAt s (↑k:Int).toNat))=false)→ZW [cd Tryz.f34 [1,1,0,1,0,1],cd Tryz.f34 [1,1,1]] (aB ZT [1]) ZQ))) (by kernel_rfl) ?_
   rw[Int.toNat_natCast]
   refine⟨⟨fun h=>?_,fun _=>f70 _⟩,fun h=>?_,fun h=>?_⟩
   ·simp only[decide_eq_true_eq] at h
    exact⟨by omega,by omega⟩
   ·simp only[aV,decide_eq_true_eq] at h
    refine⟨⟨by omega,by omega⟩,Again.mk (k+1) ?_ ⟨by omega,fun i hi=>?_⟩ (by omega)⟩
    ·exact AS.bV (by kernel_rfl)
    ·rcases Nat.lt_or_ge i k with h1|h1
     ·exact hkd i h1
     ·obtain rfl:i=k:=by omega
      exact h.2
   ·have hst:bC dM s.data.toList=k:=rG (p:=fP) hk hkd fun h1=>by
     simp only[Bool.and_eq_false_imp,decide_eq_true_eq] at h
     exact h (by omega)
    rw[hst] at hW
    refine aF (aj:=vI 0 0 0) (keep:=[]) (cuts:=[]) (n:=1000) follows ?_
    refine au (fun _ _ _ _=>((((decide ((↑k:Int)>16))=true)→(((.ak [(di 0),(di 3)]):DV)=(.ak [(di W.fst),(di W.snd)])))∧(((decide ((↑k:Int)>16))=false)→(((.ak [(di (↑k)),(di 0)]):DV)=(.ak [(di W.fst),(di W.snd)]))))) (by kernel_rfl) ?_
    refine⟨fun h=>?_,fun h=>?_⟩
    ·rw[hW,if_neg (by simp only[decide_eq_true_eq] at h;omega)]
    ·rw[hW,if_pos (by simp only[decide_eq_false_iff_not] at h;omega)]
 ·have hdg:bJ c=true:=h2
  rw[if_pos hdg,←aaw (by rw[hh];exact hdg)] at hW
  rw[hW]
  refine aK.loop (c:=aY (aC Tryz.f34) [1,1,1,0,1,0,0,0,0]) (by kernel_rfl) (S34 s) (fun k=>k≤s.size∧∀i,i<k→bQ (byteAt s i)=true) (fun k=>s.size-k) 0 ?_ ⟨Nat.zero_le _,fun i hi=>by omega⟩ ?_
  ·exact AS.bV (by kernel_rfl)
  ·rintro k ⟨hk,hkd⟩
   refine aF (aj:=vI 0 0 0) (keep:=[]) (cuts:=[]) (n:=1000) follows ?_
   refine bZ (fun ZT ZW ZQ ZK ZA _=>(((((decide ((↑k:Int)<↑s.size))=true)→((0≤(↑k:Int))∧((↑k:Int)<↑s.size)))∧(((decide ((↑k:Int)<↑s.size))=true)→ZK 71 [(.con (.int .u8 (byteAt s (↑k:Int).toNat)))] (db (bQ (byteAt s (↑k:Int).toNat)))))∧(((decide ((↑k:Int)<↑s.size)&&bQ (byteAt s (↑k:Int).toNat))=true)→((I64 (↑k+1))∧(ZA (aB ZT [0]))))∧(((decide ((↑k:Int)<↑s.size)&&bQ (byteAt s (↑k:Int).toNat))=false)→ZW [cd Tryz.f34 [1,1,1,0,1,0,1],cd Tryz.f34 [1,1,1,1]] (aB ZT [1]) ZQ))) (by kernel_rfl) ?_
   rw[Int.toNat_natCast]
   refine⟨⟨fun h=>?_,fun _=>f71 _⟩,fun h=>?_,fun h=>?_⟩
   ·simp only[decide_eq_true_eq] at h
    exact⟨by omega,by omega⟩
   ·simp only[aV,decide_eq_true_eq] at h
    refine⟨⟨by omega,by omega⟩,Again.mk (k+1) ?_ ⟨by omega,fun i hi=>?_⟩ (by omega)⟩
    ·exact AS.bV (by kernel_rfl)
    ·rcases Nat.lt_or_ge i k with h1|h1
     ·exact hkd i h1
     ·obtain rfl:i=k:=by omega
      exact h.2
   ·have hst:bC bJ s.data.toList=k:=rG (p:=bQ) hk hkd fun h1=>by
     simp only[Bool.and_eq_false_imp,decide_eq_true_eq] at h
     exact h (by omega)
    refine aK.weaken ?_ (acL s hs)
    rw[hst]
    exact AS.bV (by kernel_rfl)
 ·rw[if_neg (by rw[show bJ c=false from h2];decide),if_neg (by rw[show oz c=false from h1];decide)] at hW
  refine aK.pre (Yu (t:=8) (x:=.d (st1 qp)) (y:=.d (xU qp)) (by kernel_rfl) fun β h v hv=>tu hv) ?_
  refine aK.loop (c:=aY (aC Tryz.f34) [1,1,1,1,1,0,1,0,0]) (by kernel_rfl) (aej s) (fun k=>k≤15∧∀i,i<k→(wF.getD i []).isPrefixOf s.data.toList=false) (fun k=>15-k) 0 ?_ ⟨Nat.zero_le _,fun i hi=>by omega⟩ ?_
  ·exact AS.bV (by kernel_rfl)
  ·rintro k ⟨hk,hkd⟩
   refine aF (aj:=vI 0 0 0) (keep:=[]) (cuts:=[]) (n:=1000) follows ?_
   refine bZ (fun ZT ZW ZQ _ ZA _=>(fun Za=>((((decide ((↑k:Int)<↑15))=true)→(((0≤(↑k:Int))∧((↑k:Int)<↑15))∧((((decide ((↑Za.size:Int)≤↑s.size))=true)→(((0:Int)≤(0:Int))∧(0≤(↑Za.size:Int))∧((↑Za.size:Int)≤↑s.size)))∧(((decide ((↑Za.size:Int)≤↑s.size))=true)→((0≤(↑k:Int))∧((↑k:Int)<↑15))))∧(((decide ((↑Za.size:Int)≤(↑s.size:Int))&&(s.extract (Int.toNat 0) ((↑Za.size:Int)).toNat).toList==Za.toList)=true)→(((.ak [(di (↑Za.size)),(di 0)]):DV)=(.ak [(di W.fst),(di W.snd)])))∧(((decide ((↑Za.size:Int)≤(↑s.size:Int))&&(s.extract (Int.toNat 0) ((↑Za.size:Int)).toNat).toList==Za.toList)=false)→((I64 (↑k+1))∧(ZA (aB ZT [0,1]))))))∧(((decide ((↑k:Int)<↑15))=false)→ZW [cd Tryz.f34 [1,1,1,1,1,1]] (aB ZT [1]) ZQ))) (qp.getD (↑k:Int).toNat ByteArray.empty)) (by kernel_rfl) ?_
   try dsimp only
   have hz:((qp.getD k .empty).size:Int)=((wF.getD k []).length:Nat):=by
    rw[←EM];rfl
   rw[Int.toNat_natCast,WU,EM]
   refine⟨fun h3=>?_,fun h3=>?_⟩
   ·simp only[decide_eq_true_eq] at h3
    refine⟨⟨by omega,by omega⟩,⟨fun h4=>⟨by omega,by omega,of_decide_eq_true h4⟩,fun _=>⟨by omega,by omega⟩⟩,fun h4=>?_,fun h4=>⟨⟨by omega,by omega⟩,?_⟩⟩
    ·rw[hW,BD (d:=[]) (k:=k) (by show k<15;omega) (fun i hi=>hkd i hi) h4]
     try dsimp only
     rw[←hz]
    ·refine Again.mk (k+1) ?_ ⟨by omega,fun i hi=>?_⟩ (by omega)
     ·exact AS.bV (by kernel_rfl)
     ·rcases Nat.lt_or_ge i k with h5|h5
      ·exact hkd i h5
      ·obtain rfl:i=k:=by omega
       exact h4
   ·simp only[decide_eq_false_iff_not] at h3
    have XZ:k=15:=by omega
    refine aF (aj:=vI 0 0 0) (keep:=[]) (cuts:=[]) (n:=1000) follows ?_
    refine au (fun _ _ _ _=>(((.ak [(di 0),(di 3)]):DV)=(.ak [(di W.fst),(di W.snd)]))) (by kernel_rfl) ?_
    rw[hW,Qy (d:=[]) (fun i hi=>hkd i (by rw[XZ];exact hi))]
end Go.Proofs
