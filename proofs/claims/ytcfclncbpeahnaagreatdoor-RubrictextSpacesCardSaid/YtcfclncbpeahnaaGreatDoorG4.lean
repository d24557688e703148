import Derived.Test.YtcfclncbpeahnaaGreatDoorAcD
import Derived.Test.YtcfclncbpeahnaaGreatDoorG0
import Derived.Test.YtcfclncbpeahnaaGreatDoorG3
import Derived.Shelf.Strings.Prefix
import Derived.Test.YtcfclncbpeahnaaGreatDoorProg
import Derived.Test.YtcfclncbpeahnaaGreatDoorG2
/- Lexing,the program's side: runs of bytes,white space,numbers. -/
set_option autoImplicit false
namespace Go.Proofs
open Go Go.Ab Go.RowKit
set_option maxHeartbeats 1000000
set_option maxRecDepth 100000
variable {G:IH}
def runI (p:Int→Bool) (s:ByteArray):Nat:=runU (fun c=>p (c.toNat:Int)) s.data.toList
theorem runI_unique {p:Int→Bool} {s:ByteArray} {k:Nat} (h1:k≤s.size) (h2:∀i,i<k→p (byteAt s i)=true) (h3:k<s.size→p (byteAt s k)=false):runI p s=k:=by
 have hl:s.data.toList.length=s.size:=Array.length_toList
 refine takeWhile_unique (by omega) (fun i h hi=>?_) (fun h=>?_)
 ·have:=h2 i hi
  rw[byteAt_list (by omega)] at this;exact this
 ·have:=h3 (by omega)
  rw[byteAt_list (by omega)] at this;exact this
def orcR (p:Int→Bool):Oracle:=fun _ a=>match a with
 | [b8 c]=>some (db (p c))
 | _=>none
noncomputable def S61g (q:FuncId) (s:ByteArray) (k:Nat):AS:=⟨regs Tryz.f61.ntmps [(0,vs s),(1,.d (.con (.func (.func q) #[] #[]))),(5,vi k)],[]⟩
theorem f61g (p:Int→Bool) (q:FuncId) (hq:∀c,FnOK Tryz.prog G q [b8 c] (db (p c))) (s:ByteArray) (hs:s.size≤1000000):FnOK Tryz.prog G 61 [ds s,.con (.func (.func q) #[] #[])] (di (runI p s)):=by
 refine FnOK.walk (orc:=orcR p) (keep:=[]) follows Tryz.func61 rfl Tryz.call61 ?_
 refine of_tr (fun ZT ZW ZQ _=>ZW [cd Tryz.f61 [1,1,0,0],(.blk 0),cd Tryz.f61 [1,1,1]] (stS ZT []) ZQ) (by kernel_rfl) ?_
 refine AWP.loop (c:=cAt (bodyOf Tryz.f61) [1,1,0,0,0]) (by kernel_rfl) (S61g q s) (fun k=>k≤s.size∧∀i,i<k→p (byteAt s i)=true) (fun k=>s.size-k) 0 ?_ ⟨Nat.zero_le _,fun i hi=>by omega⟩ ?_
 ·exact AS.leA (by kernel_rfl)
 ·rintro k ⟨hk,hkd⟩
  refine walk (orc:=orcR p) (keep:=[]) (cuts:=[]) (n:=1000) follows ?_
  refine of_rd (fun ZT ZW ZQ ZK ZA _=>(((((decide ((↑k:Int)<↑s.size))=true)→((0≤(↑k:Int))∧((↑k:Int)<↑s.size)))∧(((decide ((↑k:Int)<↑s.size))=true)→ZK q [(.con (.int .u8 (byteAt s (↑k:Int).toNat)))] (db (p (byteAt s (↑k:Int).toNat)))))∧(((decide ((↑k:Int)<↑s.size)&&p (byteAt s (↑k:Int).toNat))=true)→((I64 (↑k+1))∧(ZA (stS ZT [0]))))∧(((decide ((↑k:Int)<↑s.size)&&p (byteAt s (↑k:Int).toNat))=false)→ZW [cd Tryz.f61 [1,1,1]] (stS ZT [1]) ZQ))) (by kernel_rfl) ?_
  simp only[Int.toNat_natCast]
  refine⟨⟨fun h=>?_,fun _=>hq _⟩,fun h=>?_,fun h=>?_⟩
  ·simp only[decide_eq_true_eq] at h
   exact⟨by omega,by omega⟩
  ·simp only[bAt,decide_eq_true_eq] at h
   refine⟨⟨by omega,by omega⟩,Again.mk (k+1) ?_ ⟨by omega,fun i hi=>?_⟩ (by omega)⟩
   ·exact AS.leA (by kernel_rfl)
   ·rcases Nat.lt_or_ge i k with h1|h1
    ·exact hkd i h1
    ·obtain rfl:i=k:=by omega
     exact h.2
  ·have hst:runI p s=k:=runI_unique hk hkd fun h1=>by
    simp only[Bool.and_eq_false_imp,decide_eq_true_eq] at h
    exact h (by omega)
   refine walk (orc:=orcR p) (keep:=[]) (cuts:=[]) (n:=1000) follows ?_
   refine of_tr (fun _ _ _ _=>(((di (↑k)):DV)=(di ↑(runI p s)))) (by kernel_rfl) ?_
   rw[hst]
def neNl (c:Int):Bool:=c != 10
theorem f62 (c:Int):FnOK Tryz.prog G 62 [b8 c] (db (neNl c)):=by
 refine FnOK.walk (orc:=orcN) (keep:=[]) follows Tryz.func62 rfl Tryz.call62 ?_
 refine of_tr (fun _ _ _ _=>(((db (c != 10)):DV)=(db (neNl c)))) (by kernel_rfl) ?_
 rfl
theorem f61n (s:ByteArray) (hs:s.size≤1000000):FnOK Tryz.prog G 61 [ds s,.con (.func (.func 62) #[] #[])] (di (runI neNl s)):=f61g neNl 62 f62 s hs
theorem f61d (s:ByteArray) (hs:s.size≤1000000):FnOK Tryz.prog G 61 [ds s,.con (.func (.func 63) #[] #[])] (di (runI digB s)):=f61g digB 63 f63 s hs
theorem f61i (s:ByteArray) (hs:s.size≤1000000):FnOK Tryz.prog G 61 [ds s,.con (.func (.func 66) #[] #[])] (di (runI insB s)):=f61g insB 66 f66 s hs
def spS (s:ByteArray):Nat:=spF false s.data.toList
theorem run_le (p:UInt8→Bool) (l:List UInt8):runU p l≤l.length:=(List.takeWhile_prefix p).length_le
theorem nl_not {c:UInt8}:neNl (c.toNat:Int) = !(c==10):=by
 unfold neNl
 rw[Bool.eq_iff_iff]
 simp only[bne_iff_ne,ne_eq,Bool.not_eq_true',beq_eq_false_iff_ne]
 refine not_congr ⟨fun h=>UInt8.toNat_inj.1 (by show c.toNat=10;omega),fun h=>by rw[h];rfl⟩
theorem sp_true:∀l:List UInt8,spF true l=runU (fun c=>neNl (c.toNat:Int)) l+spF false (l.drop (runU (fun c=>neNl (c.toNat:Int)) l))
 | []=>rfl
 | c :: l=>by
  unfold runU
  rw[List.takeWhile_cons,spF,nl_not]
  cases hc:c==10 with
  | true=>
   simp only[Bool.not_true,Bool.false_eq_true,if_false,if_true,List.length_nil,List.drop_zero]
   rw[spF]
   have:whU c=true:=by unfold whU;rw[hc];simp
   rw[this];simp
  | false=>
   simp only[Bool.not_false,if_true,Bool.false_eq_true,if_false,List.length_cons,List.drop_succ_cons]
   have:=sp_true l
   unfold runU at this
   omega
theorem sp_le:∀(b:Bool) (l:List UInt8),spF b l≤l.length
 | _,[]=>by cases ‹Bool›<;>exact Nat.le_refl _
 | false,c :: l=>by
  have h1:=sp_le false l
  have h2:=sp_le true l
  rw[spF,List.length_cons];split
  ·omega
  ·split<;>omega
 | true,c :: l=>by
  have h1:=sp_le false l
  have h2:=sp_le true l
  rw[spF,List.length_cons];split<;>omega
theorem sp_white {s:ByteArray} {k:Nat} (hk:k<s.size) (h:whU (s.data.toList[k]'(by rw[Array.length_toList];exact hk))=true):spF false (s.data.toList.drop k)=1+spF false (s.data.toList.drop (k+1)):=by
 rw[List.drop_eq_getElem_cons (by rw[Array.length_toList];exact hk),spF,h];rfl
theorem wh_int (c:UInt8):whU c=(((c.toNat:Int)==32||(c.toNat:Int)==9)||(c.toNat:Int)==10||(c.toNat:Int)==13):=by
 have h:∀k:UInt8,(c==k)=((c.toNat:Int)==(k.toNat:Int)):=fun k=>by
  rw[Bool.eq_iff_iff,beq_iff_eq,beq_iff_eq]
  exact⟨fun h=>by rw[h],fun h=>UInt8.toNat_inj.1 (by omega)⟩
 unfold whU
 rw[h 32,h 9,h 10,h 13];rfl
noncomputable def orcSp:Oracle:=fun f a=>match f,a with
 | 61,[.con (.string s),_]=>some (di (runI neNl s))
 | _,_=>none
noncomputable def S31 (s:ByteArray) (k:Nat):AS:=⟨regs Tryz.f31.ntmps [(0,vs s),(3,vi k)],[]⟩
end Go.Proofs
/- White space in front of a text,the program's side. -/
namespace Go.Proofs
open Go Go.Ab Go.RowKit
set_option maxHeartbeats 1000000
set_option maxRecDepth 100000
variable {G:IH}
theorem extr_drop (s:ByteArray) (k:Nat):(s.extract k s.size).data.toList=s.data.toList.drop k:=by
 have hl:s.data.toList.length=s.size:=Array.length_toList
 rw[extract_list,List.take_of_length_le (by rw[List.length_drop];omega)]
theorem f31 (s:ByteArray) (hs:s.size≤1000000):FnOK Tryz.prog G 31 [ds s] (di (spS s)):=by
 have hl:s.data.toList.length=s.size:=Array.length_toList
 refine FnOK.of_body Tryz.func31 rfl Tryz.call31 ?_
 refine walkK (orc:=orcSp) (keep:=[]) (cuts:=[]) (n:=1000) follows ?_
 refine of_tr (fun ZT ZW ZQ _=>ZW [cd Tryz.f31 [1,1,0,0],(.blk 0),cd Tryz.f31 [1,1,1]] (stS ZT []) ZQ) (by kernel_rfl) ?_
 refine AWP.loop (c:=cAt (bodyOf Tryz.f31) [1,1,0,0,0]) (by kernel_rfl) (S31 s) (fun k=>k≤s.size∧spS s=k+spF false (s.data.toList.drop k)) (fun k=>s.size-k) 0 ?_ ⟨Nat.zero_le _,by simp[spS]⟩ ?_
 ·exact AS.leA (by kernel_rfl)
 ·rintro k ⟨hk,hkd⟩
  refine walkK (orc:=orcSp) (keep:=[]) (cuts:=[]) (n:=1000) follows ?_
  refine of_rd (fun ZT ZW ZQ ZK ZA _=>(fun Za=>((((decide ((↑k:Int)<↑s.size))=true)→(((0≤(↑k:Int))∧((↑k:Int)<↑s.size))∧(((byteAt s (↑k:Int).toNat==32)=true)→((I64 (↑k+1))∧(ZA (stS ZT [0,0]))))∧(((byteAt s (↑k:Int).toNat==32)=false)→((((byteAt s (↑k:Int).toNat==9)=true)→((I64 (↑k+1))∧(ZA (stS ZT [0,1,0]))))∧(((byteAt s (↑k:Int).toNat==9)=false)→((((byteAt s (↑k:Int).toNat==10)=true)→((I64 (↑k+1))∧(ZA (stS ZT [0,1,1,0]))))∧(((byteAt s (↑k:Int).toNat==10)=false)→((((byteAt s (↑k:Int).toNat==13)=true)→((I64 (↑k+1))∧(ZA (stS ZT [0,1,1,1,0]))))∧(((byteAt s (↑k:Int).toNat==13)=false)→((((byteAt s (↑k:Int).toNat==35)=true)→((((0≤(↑k:Int))∧((↑k:Int)≤↑s.size)∧((↑s.size:Int)≤↑s.size))∧ZK 61 [(ds Za),(.con (.func (.func 62) ⟨[]⟩ ⟨[]⟩))] (di (↑(runI neNl Za)))∧(I64 (↑k + ↑(runI neNl Za))))∧(ZA (stS ZT [0,1,1,1,1,0]))))∧(((byteAt s (↑k:Int).toNat==35)=false)→(((di (↑k)):DV)=(di ↑(spS s))))))))))))))∧(((decide ((↑k:Int)<↑s.size))=false)→ZW [cd Tryz.f31 [1,1,1]] (stS ZT [1]) ZQ))) (s.extract (↑k:Int).toNat (↑s.size:Int).toNat)) (by kernel_rfl) ?_
  try dsimp only
  have hex:s.extract (k:Int).toNat (s.size:Int).toNat=s.extract k s.size:=by rw[Int.toNat_natCast,Int.toNat_natCast]
  refine⟨fun h0=>?_,fun h0=>?_⟩
  ·have hk1:k<s.size:=by simp only[decide_eq_true_eq] at h0;omega
   have hb:=byteAt_list hk1
   have hkn:(k:Int).toNat=k:=Int.toNat_natCast k
   rw[hkn]
   have hwh:=wh_int (s.data.toList[k]'(by rw[hl];exact hk1))
   rw[←hb] at hwh
   have nxt:whU (s.data.toList[k]'(by rw[hl];exact hk1))=true→(k+1≤s.size∧spS s=((k+1:Nat):Nat)+spF false (s.data.toList.drop (k+1))):=fun h=>⟨by omega,by rw[hkd,sp_white hk1 h];omega⟩
   refine⟨⟨by omega,by omega⟩,fun h1=>⟨⟨by omega,by omega⟩,?_⟩,fun h1=>⟨fun h2=>⟨⟨by omega,by omega⟩,?_⟩,fun h2=>⟨fun h3=>⟨⟨by omega,by omega⟩,?_⟩,fun h3=>⟨fun h4=>⟨⟨by omega,by omega⟩,?_⟩,fun h4=>⟨fun h5=>?_,fun h5=>?_⟩⟩⟩⟩⟩
   ·refine Again.mk (k+1) ?_ (nxt (by rw[hwh,h1];rfl)) (by omega)
    exact AS.leA (by kernel_rfl)
   ·refine Again.mk (k+1) ?_ (nxt (by rw[hwh,h1,h2];rfl)) (by omega)
    exact AS.leA (by kernel_rfl)
   ·refine Again.mk (k+1) ?_ (nxt (by rw[hwh,h1,h2,h3];rfl)) (by omega)
    exact AS.leA (by kernel_rfl)
   ·refine Again.mk (k+1) ?_ (nxt (by rw[hwh,h1,h2,h3,h4];rfl)) (by omega)
    exact AS.leA (by kernel_rfl)
   ·rw[Int.toNat_natCast]
    have hc:s.data.toList[k]'(by rw[hl];exact hk1)=35:=by
     rw[hb] at h5
     simp only[beq_iff_eq] at h5
     exact UInt8.toNat_inj.1 (by show _=35;omega)
    have hr:runI neNl (s.extract k s.size)=runU (fun c=>neNl (c.toNat:Int)) (s.data.toList.drop k):=by unfold runI;rw[extr_drop]
    have hd:s.data.toList.drop k=35 :: s.data.toList.drop (k+1):=by rw[List.drop_eq_getElem_cons (by rw[hl];exact hk1),hc]
    have hle:=run_le (fun c=>neNl (c.toNat:Int)) (s.data.toList.drop k)
    rw[List.length_drop,hl] at hle
    have hpos:runU (fun c=>neNl (c.toNat:Int)) (s.data.toList.drop k)=1+runU (fun c=>neNl (c.toNat:Int)) (s.data.toList.drop (k+1)):=by
     rw[hd];unfold runU
     rw[List.takeWhile_cons,show neNl (((35:UInt8).toNat:Nat):Int)=true from by decide]
     simp only[if_true,List.length_cons];omega
    have hs1:spF false (s.data.toList.drop k)=1+spF true (s.data.toList.drop (k+1)):=by
     rw[hd,spF,show whU 35=false from by decide];rfl
    refine⟨⟨⟨by omega,by omega,by omega⟩,f61n _ (by rw[ByteArray.size_extract];omega),by rw[hr];omega,by rw[hr];omega⟩,Again.mk (k+runI neNl (s.extract k s.size)) ?_ ⟨by rw[hr];omega,?_⟩ (by rw[hr];omega)⟩
    ·exact AS.leA (by kernel_rfl)
    ·rw[hkd,hs1,sp_true,hr,hpos,←Nat.add_assoc,←Nat.add_assoc,List.drop_drop]
     rw[show k+1+runU (fun c=>neNl (c.toNat:Int)) (s.data.toList.drop (k+1))=k+(1+runU (fun c=>neNl (c.toNat:Int)) (s.data.toList.drop (k+1))) by omega]
   ·have:spF false (s.data.toList.drop k)=0:=by
     rw[List.drop_eq_getElem_cons (by rw[hl];exact hk1),spF,hwh,h1,h2,h3,h4]
     have hn:(s.data.toList[k]'(by rw[hl];exact hk1)==35)=false:=by
      rw[beq_eq_false_iff_ne];intro hh
      rw[hb,hh] at h5;exact absurd h5 (by decide)
     rw[hn];rfl
    rw[hkd,this];rfl
  ·have hk1:k=s.size:=by simp only[decide_eq_false_iff_not] at h0;omega
   refine walkK (orc:=orcSp) (keep:=[]) (cuts:=[]) (n:=1000) follows ?_
   refine of_tr (fun _ _ _ _=>(((di (↑k)):DV)=(di ↑(spS s)))) (by kernel_rfl) ?_
   have:spF false (s.data.toList.drop k)=0:=by rw[List.drop_of_length_le (by omega)];rfl
   rw[hkd,this];rfl
open Go.Shelf
def Tryz.lays99_ren:Go.Shelf.Ren:=⟨fun|99=>68|206=>107|n=>n,fun|9=>9|4=>4|3=>3|n=>n,fun|n=>n⟩
theorem Tryz.lays99:Go.Proofs.Lays.n99 Tryz.prog Tryz.lays99_ren:={
 mixed:=by kernel_rfl
 f99:=Tryz.func68.trans (congrArg some (by kernel_rfl))
 f206:=Tryz.func107.trans (congrArg some (by kernel_rfl))
 t3:=Tryz.underlying3
 a3:=Tryz.isAgg3
 z3:=Tryz.sizeOf3
 v3:=Tryz.zeroValue3
 t4:=Tryz.underlying4
 a4:=Tryz.isAgg4
 z4:=Tryz.sizeOf4
 v4:=Tryz.zeroValue4
 t9:=Tryz.underlying9
 a9:=Tryz.isAgg9
 z9:=Tryz.sizeOf9
 v9:=Tryz.zeroValue9 }
open Go.RowKit Go.Lib in
theorem Tryz.strings_HasPrefix (s p:ByteArray) (w:World) :
  Calls Tryz.prog 68 #[.string s,.string p] w fun e w'=>e=.returned (.bool (Lib.hasPrefix s.data.toList p.data.toList))∧w'=w:=Any.strings_HasPrefix Tryz.lays99 s p w
end Go.Proofs
/- Numbers and words in front of a text,the program's side. -/
namespace Go.Proofs
open Go Go.Ab Go.RowKit
set_option maxHeartbeats 1000000
set_option maxRecDepth 100000
variable {G:IH}
noncomputable def orcNu (n d e:Int) (r:Nat):Oracle:=fun f a=>match f,a with
 | 61,[.con (.string _),_]=>some (di r)
 | 63,[b8 c]=>some (db (digB c))
 | 66,[b8 c]=>some (db (insB c))
 | 106,[.con (.string _)]=>some (.tup [fr n d,di e])
 | _,_=>none
def numC (l:List UInt8) (n:Nat):Int×Int:=
 if l[n]?.any (fun c=>insU c||c==46) then (0,3) else if (prs (bsL (l.take n))).2.2≠0 then (0,(prs (bsL (l.take n))).2.2) else (n,0)
theorem numW_eq (l:List UInt8):numW l=numC l (numEnd l):=rfl
noncomputable def S64 (s:ByteArray) (n:Nat):AS:=⟨regs Tryz.f64.ntmps [(0,vs s),(4,vi n)],[]⟩
theorem get_byte {s:ByteArray} {k:Nat} (h:k<s.size):∃c,s.data.toList[k]?=some c∧byteAt s k=(c.toNat:Int):=by
 have hl:s.data.toList.length=s.size:=Array.length_toList
 exact⟨s.data.toList[k]'(by omega),gEe (by omega),byteAt_list h⟩
theorem eq_46 (c:UInt8):(c==46)=((c.toNat:Int)==46):=by
 rw[Bool.eq_iff_iff,beq_iff_eq,beq_iff_eq]
 exact⟨fun h=>by rw[h];rfl,fun h=>UInt8.toNat_inj.1 (by show c.toNat=46;omega)⟩
theorem extr_take (s:ByteArray) (k:Nat):s.extract 0 k=bsL (s.data.toList.take k):=by
 have:(s.extract 0 k).data.toList=s.data.toList.take k:=by rw[extract_list];rfl
 rw[←this,toList_bsL]
theorem f64_c (s:ByteArray) (hs:s.size≤900000) (n:Nat) (hn:n≤s.size):AWP Tryz.prog G [.code (cAt (bodyOf Tryz.f64) [1,1,1,0]),.code (cAt (bodyOf Tryz.f64) [1,1,1,1])] (S64 s n) (Ret Tryz.prog Tryz.f64 (.tup [di (numC s.data.toList n).1,di (numC s.data.toList n).2])):=by
 have hl:s.data.toList.length=s.size:=Array.length_toList
 have hp:FnOK Tryz.prog G 106 [ds (s.extract 0 n)] (fe (prs (s.extract 0 n))):=f106 _ (by rw[ByteArray.size_extract];omega)
 rw[extr_take] at hp
 have hC:numC s.data.toList n=if s.data.toList[n]?.any (fun c=>insU c||c==46) then ((0,3):Int×Int) else if (prs (bsL (s.data.toList.take n))).2.2≠0 then (0,(prs (bsL (s.data.toList.take n))).2.2) else (n,0):=rfl
 rw[hC]
 revert hp
 rcases prs (bsL (s.data.toList.take n)) with ⟨a,b,e⟩
 intro hp
 refine walkK (orc:=orcNu a b e 0) (keep:=[]) (cuts:=[]) (n:=1000) follows ?_
 refine of_tr (fun _ _ _ ZK=>(fun Za=>(((((decide ((↑n:Int)<↑s.size))=true)→((0≤(↑n:Int))∧((↑n:Int)<↑s.size)))∧(((decide ((↑n:Int)<↑s.size))=true)→ZK 66 [(.con (.int .u8 (byteAt s (↑n:Int).toNat)))] (db (insB (byteAt s (↑n:Int).toNat))))∧(((decide ((↑n:Int)<↑s.size)&&!insB (byteAt s (↑n:Int).toNat))=true)→((0≤(↑n:Int))∧((↑n:Int)<↑s.size))))∧((Za=true)→(((.tup [(di 0),(di 3)]):DV)=(.tup [(di (if Option.any (fun c=>insU c||c==46) s.data.toList[n]?=true then (0,3) else if (a,b,e).snd.snd≠0 then (0,(a,b,e).snd.snd) else (↑n,0)).fst),(di (if Option.any (fun c=>insU c||c==46) s.data.toList[n]?=true then (0,3) else if (a,b,e).snd.snd≠0 then (0,(a,b,e).snd.snd) else ((↑n:Int),0)).snd)])))∧((Za=false)→(((((0:Int)≤(0:Int))∧(0≤(↑n:Int))∧((↑n:Int)≤↑s.size))∧ZK 106 [(ds (s.extract (Int.toNat 0) (↑n:Int).toNat))] (.tup [(.agg [(di a),(di b)]),(di e)]))∧(((e != 0)=true)→(((.tup [(di 0),(di e)]):DV)=(.tup [(di (if Option.any (fun c=>insU c||c==46) s.data.toList[n]?=true then (0,3) else if (a,b,e).snd.snd≠0 then (0,(a,b,e).snd.snd) else (↑n,0)).fst),(di (if Option.any (fun c=>insU c||c==46) s.data.toList[n]?=true then (0,3) else if (a,b,e).snd.snd≠0 then (0,(a,b,e).snd.snd) else ((↑n:Int),0)).snd)])))∧(((e != 0)=false)→(((.tup [(di (↑n)),(di 0)]):DV)=(.tup [(di (if Option.any (fun c=>insU c||c==46) s.data.toList[n]?=true then (0,3) else if (a,b,e).snd.snd≠0 then (0,(a,b,e).snd.snd) else (↑n,0)).fst),(di (if Option.any (fun c=>insU c||c==46) s.data.toList[n]?=true then (0,3) else if (a,b,e).snd.snd≠0 then (0,(a,b,e).snd.snd) else ((↑n:Int),0)).snd)]))))))) (decide ((↑n:Int)<↑s.size)&&(insB (byteAt s (↑n:Int).toNat)||byteAt s (↑n:Int).toNat==46))) (by kernel_rfl) ?_
 try dsimp only
 have z0:Int.toNat (0:Int)=0:=rfl
 rw[Int.toNat_natCast,z0,extr_take]
 try dsimp only
 have hany:∀b:Bool,(decide ((n:Int)<s.size)&&(insB (byteAt s n)||byteAt s n==46))=b→s.data.toList[n]?.any (fun c=>insU c||c==46)=b:=by
  rintro b rfl
  by_cases h:n<s.size
  ·obtain ⟨c,h1,h2⟩:=get_byte h
   rw[h1,h2,decide_eq_true (by omega:(n:Int)<s.size),Option.any_some,eq_46];rfl
  ·rw[List.getElem?_eq_none (by omega),decide_eq_false (by omega:¬(n:Int)<s.size)];rfl
 refine⟨⟨fun h=>?_,fun _=>f66 _,fun h=>?_⟩,fun h=>?_,fun h=>⟨⟨⟨by omega,by omega,by omega⟩,hp⟩,fun h2=>?_,fun h2=>?_⟩⟩
 ·simp only[decide_eq_true_eq] at h;omega
 ·simp only[bAt,decide_eq_true_eq] at h;omega
 ·rw[if_pos (hany true h)]
 ·rw[if_neg (by rw[hany false h];decide),if_pos (by simpa using h2)]
 ·rw[if_neg (by rw[hany false h];decide),if_neg (by simpa using h2)]
theorem numEnd_eq (l:List UInt8) (n:Nat) (hn:n=min (runU digU l) 9) (b:Bool) (hb:b=((l[n]?.any fun c=>c==46)&&l[n+1]?.any digU)):numEnd l=if b=true then n+(1+min (runU digU (l.drop (n+1))) 6) else n:=by
 subst hn;subst hb
 unfold numEnd
 split<;>omega
theorem f64_b (s:ByteArray) (hs:s.size≤900000) (n:Nat) (hnn:n=min (runI digB s) 9):AWP Tryz.prog G [.code (cAt (bodyOf Tryz.f64) [1,1,0]),.code (cAt (bodyOf Tryz.f64) [1,1,1])] (S64 s n) (Ret Tryz.prog Tryz.f64 (.tup [di (numW s.data.toList).1,di (numW s.data.toList).2])):=by
 have hl:s.data.toList.length=s.size:=Array.length_toList
 have hrl:runI digB s≤s.size:=by unfold runI;rw[←hl];exact run_le _ _
 have hn:n≤s.size:=by omega
 obtain ⟨m,hm⟩:∃m,m=runI digB (s.extract (n+1) s.size):=⟨_,rfl⟩
 have hm2:m=runU digU (s.data.toList.drop (n+1)):=by rw[hm];unfold runI;rw[extr_drop];rfl
 have hml:m≤s.size-(n+1):=by
  rw[hm2]
  have:=run_le digU (s.data.toList.drop (n+1))
  rw[List.length_drop,hl] at this;exact this
 have h61:=f61d (G:=G) (s.extract (n+1) s.size) (by rw[ByteArray.size_extract];omega)
 rw[←hm] at h61
 refine walkK (orc:=orcNu 0 0 0 m) (keep:=[]) (cuts:=[4]) (n:=1000) follows ?_
 refine of_tr (fun ZT ZW ZQ ZK=>(fun Za Zb=>(((I64 (↑n+1))∧(((decide ((↑n:Int)+1<↑s.size))=true)→((0≤(↑n:Int))∧((↑n:Int)<↑s.size)))∧((Za=true)→(I64 (↑n+1)))∧((Za=true)→((0≤(↑n:Int)+1)∧((↑n:Int)+1<↑s.size)))∧((Za=true)→ZK 63 [(.con (.int .u8 (byteAt s ((↑n:Int)+1).toNat)))] (db (digB (byteAt s ((↑n:Int)+1).toNat)))))∧((Zb=true)→(((I64 (↑n+1))∧((0≤(↑n:Int)+1)∧((↑n:Int)+1≤↑s.size)∧((↑s.size:Int)≤↑s.size))∧ZK 61 [(ds (s.extract ((↑n:Int)+1).toNat (↑s.size:Int).toNat)),(.con (.func (.func 63) ⟨[]⟩ ⟨[]⟩))] (di (↑m))∧(I64 (1+if 6<(↑m:Int) then 6 else ↑m))∧(I64 ((↑n:Int)+(1+if 6<(↑m:Int) then 6 else ↑m))))∧ZW [cd Tryz.f64 [1,1,1,0],cd Tryz.f64 [1,1,1,1]] (stS ZT [0]) ZQ))∧((Zb=false)→ZW [cd Tryz.f64 [1,1,1,0],cd Tryz.f64 [1,1,1,1]] (stS ZT [1]) ZQ))) (decide ((↑n:Int)+1<↑s.size)&&byteAt s (↑n:Int).toNat==46) (decide ((↑n:Int)+1<(↑s.size:Int))&&byteAt s ((↑n:Int):Int).toNat==46&&digB (byteAt s ((↑n:Int)+1).toNat))) (by kernel_rfl) ?_
 try dsimp only
 have e1:((n:Int)+1).toNat=n+1:=by omega
 rw[Int.toNat_natCast,e1,Int.toNat_natCast]
 have key:(decide ((n:Int)+1<s.size)&&byteAt s n==46&&digB (byteAt s (n+1)))=((s.data.toList[n]?.any fun c=>c==46)&&s.data.toList[n+1]?.any digU):=by
  by_cases h:n+1<s.size
  ·obtain ⟨c,h1,h2⟩:=get_byte (show n<s.size by omega)
   obtain ⟨d,h3,h4⟩:=get_byte h
   rw[h1,h3,h2,h4,decide_eq_true (by omega:(n:Int)+1<s.size),Option.any_some,Option.any_some,eq_46,Bool.true_and];rfl
  ·rw[decide_eq_false (by omega:¬(n:Int)+1<s.size),List.getElem?_eq_none (l:=s.data.toList) (i:=n+1) (by omega)];simp
 have hE:=numEnd_eq s.data.toList n (by rw[hnn];rfl) _ key
 refine⟨⟨⟨by omega,by omega⟩,fun h=>?_,fun _=>⟨by omega,by omega⟩,fun h=>?_,fun _=>f63 _⟩,fun h=>⟨⟨⟨by omega,by omega⟩,⟨by omega,?_,by omega⟩,h61,?_,?_⟩,?_⟩,fun h=>?_⟩
 ·simp only[decide_eq_true_eq] at h;omega
 ·simp only[bAt,decide_eq_true_eq] at h;omega
 ·simp only[bAt,decide_eq_true_eq] at h;omega
 ·split<;>exact⟨by omega,by omega⟩
 ·split<;>exact⟨by omega,by omega⟩
 ·rw[h,if_pos rfl,←hm2] at hE
  have h6:((n:Int)+(1+if 6<(m:Int) then 6 else (m:Int)))=((n+(1+min m 6):Nat):Int):=by split<;>omega
  simp only[bAt,decide_eq_true_eq] at h
  rw[numW_eq,hE]
  refine AWP.weaken ?_ (f64_c s hs (n+(1+min m 6)) (by omega))
  refine AS.leZ [1] [] (b:=((T0∧((vi ((↑n:Int)+(1+if 6<(↑m:Int) then 6 else ↑m))):AV)=(vi (↑(n+(1+min m 6))))∧True)∧True)) (by kernel_rfl) (by kernel_rfl) ?_
  rw[h6]
  exact⟨⟨rfl,rfl,trivial⟩,trivial⟩
 ·rw[h,if_neg (by decide)] at hE
  rw[numW_eq,hE]
  refine AWP.weaken ?_ (f64_c s hs n hn)
  exact AS.leA (by kernel_rfl)
theorem f64 (s:ByteArray) (hs:s.size≤900000):FnOK Tryz.prog G 64 [ds s] (.tup [di (numW s.data.toList).1,di (numW s.data.toList).2]):=by
 refine FnOK.of_body Tryz.func64 rfl Tryz.call64 ?_
 have h61:=f61d (G:=G) s (by omega)
 revert h61
 obtain ⟨r,hr⟩:∃r,r=runI digB s:=⟨_,rfl⟩
 rw[←hr];intro h61
 refine walkK (orc:=orcNu 0 0 0 r) (keep:=[]) (cuts:=[2]) (n:=1000) follows ?_
 refine of_tr (fun ZT ZW ZQ ZK=>(ZK 61 [(ds s),(.con (.func (.func 63) ⟨[]⟩ ⟨[]⟩))] (di (↑r))∧ZW [cd Tryz.f64 [1,1,0],cd Tryz.f64 [1,1,1]] (stS ZT []) ZQ)) (by kernel_rfl) ?_
 refine⟨h61,?_⟩
 refine AWP.weaken ?_ (f64_b s hs (min r 9) (by rw[hr]))
 refine AS.leZ [1] [] (b:=((T0∧((vi (if 9<(↑r:Int) then 9 else ↑r)):AV)=(vi (↑(min r 9)))∧True)∧True)) (by kernel_rfl) (by kernel_rfl) ?_
 have h9:(if 9<(r:Int) then 9 else (r:Int))=((min r 9:Nat):Int):=by split<;>omega
 rw[h9]
 exact⟨⟨rfl,rfl,trivial⟩,trivial⟩
end Go.Proofs
/- Words in front of a text,the program's side. -/
namespace Go.Proofs
open Go Go.Ab Go.RowKit
set_option maxHeartbeats 1000000
set_option maxRecDepth 100000
variable {G:IH}
def symB:List ByteArray:=[⟨#[61,61]⟩,⟨#[33,61]⟩,⟨#[60,61]⟩,⟨#[62,61]⟩,⟨#[60]⟩,⟨#[62]⟩,⟨#[43]⟩,⟨#[45]⟩,⟨#[42]⟩,⟨#[47]⟩,⟨#[40]⟩,⟨#[41]⟩,⟨#[44]⟩,⟨#[58]⟩,⟨#[59]⟩]
theorem sym_map:symB.map (fun s=>s.data.toList)=symL:=by decide +kernel
theorem f67:FnOK Tryz.prog G 67 [] (wdD symB):=by
 refine FnOK.res (r:=st1 symB) ?_ fun k v hv=>st1_rel hv
 refine FnOK.walkK (orc:=noO) (keep:=[]) follows Tryz.func67 rfl Tryz.call67 ?_
 refine of_tr (fun _ _ _ _=>(((.slc 1 15 (elemF false 1 [(ds (ByteArray.mk #[61,61])),(ds (ByteArray.mk #[33,61])),(ds (ByteArray.mk #[60,61])),(ds (ByteArray.mk #[62,61])),(ds (ByteArray.mk #[60])),(ds (ByteArray.mk #[62])),(ds (ByteArray.mk #[43])),(ds (ByteArray.mk #[45])),(ds (ByteArray.mk #[42])),(ds (ByteArray.mk #[47])),(ds (ByteArray.mk #[40])),(ds (ByteArray.mk #[41])),(ds (ByteArray.mk #[44])),(ds (ByteArray.mk #[58])),(ds (ByteArray.mk #[59]))])):DV)=(st1 symB))) (by kernel_rfl) ?_
 rfl
def hasP (s p:ByteArray):Bool:=Lib.hasPrefix s.data.toList p.data.toList
theorem f68 (s p:ByteArray):FnOK Tryz.prog G 68 [ds s,ds p] (db (hasP s p)):=by
 refine FnOK.of_calls (args:=[.string s,.string p]) (v:=.bool _) Tryz.call68 fun w _=>?_
 refine Calls.mono (Tryz.strings_HasPrefix s p w) ?_
 rintro e w' ⟨he,rfl⟩
 exact⟨he,Below.refl _ _⟩
theorem find_first {α:Type} {p:α→Bool} {d:α}:∀{l:List α} {k:Nat},k<l.length→(∀i,i<k→p (l.getD i d)=false)→p (l.getD k d)=true→l.find? p=some (l.getD k d)
 | [],k,h,_,_=>by simp at h
 | x :: l,0,_,_,h=>by
  have h:p x=true:=h
  rw[List.find?_cons,h];rfl
 | x :: l,k+1,hk,h1,h2=>by
  have h0:p x=false:=h1 0 (by omega)
  rw[List.find?_cons,h0]
  exact find_first (l:=l) (by simpa using hk) (fun i hi=>h1 (i+1) (by omega)) h2
theorem find_no {α:Type} {p:α→Bool} {d:α} {l:List α} (h:∀i,i<l.length→p (l.getD i d)=false):l.find? p=none:=by
 rw[List.find?_eq_none]
 intro x hx
 obtain ⟨i,hi,rfl⟩:=List.getElem_of_mem hx
 have:=h i hi
 rw[List.getD,gEe hi] at this
 rw[show p l[i]=false from this];decide
theorem sym_get (i:Nat):(symB.getD i .empty).data.toList=symL.getD i []:=by
 rw[←sym_map,List.getD,List.getD,List.getElem?_map]
 cases symB[i]?<;>rfl
noncomputable def orcWo (a b:Int):Oracle:=fun f x=>match f,x with
 | 61,[.con (.string s),_]=>some (di (runI insB s))
 | 63,[b8 c]=>some (db (digB c))
 | 65,[b8 c]=>some (db (letB c))
 | 64,[_]=>some (.tup [di a,di b])
 | 67,[]=>some (wdD symB)
 | 68,[.con (.string s),.con (.string p)]=>some (db (hasP s p))
 | _,_=>none
noncomputable def S32w (s:ByteArray) (k:Nat):AS:=⟨regs Tryz.f32.ntmps [(0,vs s),(24,.d (.slc 1 15 (stF symB))),(25,vi 15),(26,vi k)],[]⟩
theorem f32 (s:ByteArray) (hs:s.size≤900000) (h0:0<s.size):FnOK Tryz.prog G 32 [ds s] (.tup [di (wordW s.data.toList).1,di (wordW s.data.toList).2]):=by
 have h64:=f64 (G:=G) s hs
 obtain ⟨W,hWe⟩:∃W,W=wordW s.data.toList:=⟨_,rfl⟩
 obtain ⟨N,hNe⟩:∃N,N=numW s.data.toList:=⟨_,rfl⟩
 have hW:W=if digU (s.data.toList.headD 0) then N else if letU (s.data.toList.headD 0) then if runU insU s.data.toList≤16 then ((runU insU s.data.toList,0):Int×Int) else (0,3) else match symL.find? fun x=>x.isPrefixOf s.data.toList with
  | some x=>(x.length,0)
  | none=>(0,3):=by rw[hWe,hNe];rfl
 rw[←hWe];rw[←hNe] at h64
 obtain ⟨c,hc,hb⟩:=get_byte h0
 have hh:s.data.toList.headD 0=c:=by
  cases e:s.data.toList with
  | nil=>rw[e] at hc;cases hc
  | cons x l=>rw[e] at hc;simpa using hc
 rw[hh] at hW
 have z0:Int.toNat (0:Int)=0:=rfl
 refine FnOK.of_body Tryz.func32 rfl Tryz.call32 ?_
 refine walkK (orc:=orcWo N.1 N.2) (keep:=[]) (cuts:=[]) (n:=1000) follows ?_
 refine of_tr (fun ZT ZW ZQ ZK=>(((((0:Int)≤(0:Int))∧(0<(↑s.size:Int)))∧ZK 63 [(.con (.int .u8 (byteAt s (Int.toNat 0))))] (db (digB (byteAt s (Int.toNat 0)))))∧(((digB (byteAt s (Int.toNat 0)))=true)→(ZK 64 [(ds s)] (.tup [(di N.fst),(di N.snd)])∧((.tup [(di N.fst),(di N.snd)]):DV)=(.tup [(di W.fst),(di W.snd)])))∧(((digB (byteAt s (Int.toNat 0)))=false)→(((((0:Int)≤(0:Int))∧(0<(↑s.size:Int)))∧ZK 65 [(.con (.int .u8 (byteAt s (Int.toNat 0))))] (db (letB (byteAt s (Int.toNat 0)))))∧(((letB (byteAt s (Int.toNat 0)))=true)→(ZK 61 [(ds s),(.con (.func (.func 66) ⟨[]⟩ ⟨[]⟩))] (di (↑(runI insB s)))∧(((decide ((↑(runI insB s):Int)≤16))=true)→(((.tup [(di (↑(runI insB s))),(di 0)]):DV)=(.tup [(di W.fst),(di W.snd)])))∧(((decide ((↑(runI insB s):Int)≤16))=false)→(((.tup [(di 0),(di 3)]):DV)=(.tup [(di W.fst),(di W.snd)])))))∧(((letB (byteAt s (Int.toNat 0)))=false)→(ZK 67 [] (.slc 1 15 (stF symB))∧ZW [cd Tryz.f32 [1,1,0,1,0],(.blk 1),cd Tryz.f32 [1,1,1]] (stS ZT [1,1]) ZQ)))))) (by kernel_rfl) ?_
 rw[z0,hb]
 refine⟨⟨⟨by omega,by omega⟩,f63 _⟩,fun h1=>⟨h64,?_⟩,fun h1=>⟨⟨⟨by omega,by omega⟩,f65 _⟩,fun h2=>⟨f61i s (by omega),fun h3=>?_,fun h3=>?_⟩,fun h2=>⟨f67,?_⟩⟩⟩
 ·rw[hW,if_pos (show digU c=true from h1)]
 ·rw[hW,if_neg (by rw[show digU c=false from h1];decide),if_pos (show letU c=true from h2),if_pos]
  ·rfl
  ·simp only[decide_eq_true_eq] at h3
   have:runU insU s.data.toList=runI insB s:=rfl
   omega
 ·rw[hW,if_neg (by rw[show digU c=false from h1];decide),if_pos (show letU c=true from h2),if_neg]
  simp only[decide_eq_false_iff_not] at h3
  have:runU insU s.data.toList=runI insB s:=rfl
  omega
 ·rw[if_neg (by rw[show digU c=false from h1];decide),if_neg (by rw[show letU c=false from h2];decide)] at hW
  refine AWP.loop (c:=cAt (bodyOf Tryz.f32) [1,1,0,1,0,0]) (by kernel_rfl) (S32w s) (fun k=>k≤15∧∀i,i<k→(symL.getD i []).isPrefixOf s.data.toList=false) (fun k=>15-k) 0 ?_ ⟨Nat.zero_le _,fun i hi=>by omega⟩ ?_
  ·exact AS.leA (by kernel_rfl)
  ·rintro k ⟨hk,hkd⟩
   refine walkK (orc:=orcWo 0 0) (keep:=[]) (cuts:=[]) (n:=1000) follows ?_
   refine of_rd (fun ZT ZW ZQ ZK ZA _=>(fun Za=>((((decide ((↑k:Int)<15))=true)→(((0≤(↑k:Int))∧((↑k:Int)<↑15))∧ZK 68 [(ds s),(ds Za)] (db (hasP s Za))∧(((hasP s Za)=true)→(((.tup [(di (↑Za.size)),(di 0)]):DV)=(.tup [(di W.fst),(di W.snd)])))∧(((hasP s Za)=false)→((I64 (↑k+1))∧(ZA (stS ZT [0,1]))))))∧(((decide ((↑k:Int)<15))=false)→ZW [cd Tryz.f32 [1,1,1]] (stS ZT [1]) ZQ))) (symB.getD (↑k:Int).toNat ByteArray.empty)) (by kernel_rfl) ?_
   try dsimp only
   have hP:hasP s (symB.getD k .empty)=(symL.getD k []).isPrefixOf s.data.toList:=by
    unfold hasP Lib.hasPrefix;rw[sym_get]
   have hz:((symB.getD k .empty).size:Int)=((symL.getD k []).length:Nat):=by
    rw[←sym_get];rfl
   rw[Int.toNat_natCast,hP]
   refine⟨fun h3=>?_,fun h3=>?_⟩
   ·simp only[decide_eq_true_eq] at h3
    refine⟨⟨by omega,by omega⟩,by rw[←hP];exact f68 _ _,fun h4=>?_,fun h4=>⟨⟨by omega,by omega⟩,?_⟩⟩
    ·rw[hW,find_first (d:=[]) (k:=k) (by show k<15;omega) (fun i hi=>hkd i hi) h4]
     try dsimp only
     rw[←hz]
    ·refine Again.mk (k+1) ?_ ⟨by omega,fun i hi=>?_⟩ (by omega)
     ·exact AS.leA (by kernel_rfl)
     ·rcases Nat.lt_or_ge i k with h5|h5
      ·exact hkd i h5
      ·obtain rfl:i=k:=by omega
       exact h4
   ·simp only[decide_eq_false_iff_not] at h3
    have hk15:k=15:=by omega
    refine walkK (orc:=orcWo 0 0) (keep:=[]) (cuts:=[]) (n:=1000) follows ?_
    refine of_tr (fun _ _ _ _=>(((.tup [(di 0),(di 3)]):DV)=(.tup [(di W.fst),(di W.snd)]))) (by kernel_rfl) ?_
    rw[hW,find_no (d:=[]) (fun i hi=>hkd i (by rw[hk15];exact hi))]
end Go.Proofs
/- The words of a written expression,of written rules. -/
set_option maxRecDepth 100000
namespace Go.Proofs
open Go Go.Ab
def hdE (l:List UInt8):Prop:=l.head?=none∨l.head?=some 32∨l.head?=some 41∨l.head?=some 44∨l.head?=some 59∨l.head?=some 9∨l.head?=some 10∨l.head?=some 35
theorem run_stop {p:UInt8→Bool}:∀{w l:List UInt8},(∀c∈w,p c=true)→(∀c,l.head?=some c→p c=false)→runU p (w++l)=w.length
 | [],l,_,hl=>by
  cases l with
  | nil=>rfl
  | cons c l=>simp[runU,hl c rfl]
 | c :: w,l,hw,hl=>by
  have:=run_stop (w:=w) (l:=l) (fun d hd=>hw d (by simp[hd])) hl
  unfold runU at this⊢
  rw[List.cons_append,List.takeWhile_cons,hw c (by simp)]
  simp only[if_true,List.length_cons,this]
theorem hdE_no {l:List UInt8} (h:hdE l):∀c,l.head?=some c→digU c=false∧(insU c||c==46)=false:=by
 intro c hc
 unfold hdE at h
 rw[hc] at h
 simp only[oSi,reduceCtorEq,false_or] at h
 rcases h with rfl|rfl|rfl|rfl|rfl|rfl|rfl<;>decide
theorem num_end {D T l:List UInt8} (hD:∀c∈D,digU c=true) (hT:∀c∈T,digU c=true) (h9:D.length≤9) (h6:T.length≤6) (hl:hdE l):numEnd (D++((if T=[] then [] else 46 :: T)++l))=(D++(if T=[] then [] else 46 :: T)).length:=by
 have hE:=hdE_no hl
 by_cases hn:T=[]
 ·subst hn
  simp only[if_true,List.nil_append,List.append_nil]
  have hr:runU digU (D++l)=D.length:=run_stop hD fun c hc=>(hE c hc).1
  unfold numEnd
  rw[hr,Nat.min_eq_left h9,if_neg]
  rw[List.getElem?_append_right (Nat.le_refl _),Nat.sub_self]
  cases l with
  | nil=>simp
  | cons c l=>
   have:=(hE c rfl).2
   simp only[Bool.or_eq_false_iff] at this
   simp[this.2]
 ·rw[if_neg hn]
  have hr:runU digU (D++((46 :: T)++l))=D.length:=run_stop hD fun c hc=>by
   simp at hc;subst hc;decide
  have hdr:(D++((46 :: T)++l)).drop (D.length+1)=T++l:=by
   rw[←List.drop_drop,List.drop_left];rfl
  have hr2:runU digU (T++l)=T.length:=run_stop hT fun c hc=>(hE c hc).1
  obtain ⟨c,T',rfl⟩:∃c T',T=c :: T':=by
   cases T with
   | nil=>exact absurd rfl hn
   | cons c T'=>exact⟨c,T',rfl⟩
  unfold numEnd
  rw[hr,Nat.min_eq_left h9,hdr,hr2,Nat.min_eq_left h6,if_pos]
  ·simp;omega
  ·have g1:(D++(46 :: c :: T'++l))[D.length]?=some 46:=by rw[List.getElem?_append_right (Nat.le_refl _),Nat.sub_self];rfl
   have g2:(D++(46 :: c :: T'++l))[D.length+1]?=some c:=by rw[List.getElem?_append_right (by omega),show D.length+1-D.length=1 by omega];rfl
   rw[g1,g2]
   simp[hT c (by simp)]
theorem num_word {n d:Int} (h:numB n d=true) {l:List UInt8} (hl:hdE l):wordAt (numT n d).data.toList l:=by
 obtain ⟨D,T,hD,hT,hD1,h9,h6,he⟩:=(num_look h).dec
 have hE:=num_end hD hT h9 h6 hl
 rw[←List.append_assoc,←he] at hE
 have hp:=(num_reads h).2
 obtain ⟨c,D',rfl⟩:∃c D',D=c :: D':=by
  cases D with
  | nil=>simp at hD1
  | cons c D'=>exact⟨c,D',rfl⟩
 obtain ⟨w,hw⟩:∃w,w=(numT n d).data.toList:=⟨_,rfl⟩
 have hbs:bsL w=numT n d:=by rw[hw,toList_bsL]
 rw[←hw] at hE he⊢
 have hc:digU c=true:=hD c (by simp)
 have hwc:w=c :: (D'++if T=[] then [] else 46 :: T):=he
 refine⟨by rw[hwc];simp,?_,?_⟩
 ·rw[hwc,List.cons_append,spF]
  have h1:whU c=false∧(c==35)=false:=by
   unfold digU digB at hc
   simp only[bAt,decide_eq_true_eq] at hc
   have hn:∀k:UInt8,k.toNat<48→(c==k)=false:=fun k hk=>by
    rw[beq_eq_false_iff_ne];rintro rfl;omega
   refine⟨?_,hn 35 (by decide)⟩
   unfold whU
   rw[hn 32 (by decide),hn 9 (by decide),hn 10 (by decide),hn 13 (by decide)];rfl
  rw[h1.1,h1.2];rfl
 ·have hd:digU ((w++l).headD 0)=true:=by rw[hwc];exact hc
  have ht:(w++l).take w.length=w:=List.take_left
  unfold wordW
  rw[if_pos hd]
  unfold numW
  rw[hE,ht,hbs,hp,if_neg,if_neg (by simp)]
  rw[List.getElem?_append_right (Nat.le_refl _),Nat.sub_self]
  cases l with
  | nil=>simp
  | cons e l=>simpa using (hdE_no hl e rfl).2
theorem hdE_ins {l:List UInt8} (h:hdE l):∀c,l.head?=some c→insU c=false:=by
 intro c hc
 unfold hdE at h
 rw[hc] at h
 simp only[oSi,reduceCtorEq,false_or] at h
 rcases h with rfl|rfl|rfl|rfl|rfl|rfl|rfl<;>decide
def idW (w:List UInt8):Bool:=letU (w.headD 0)&&w.all insU&&decide (w.length≤16)
theorem run_all {p:UInt8→Bool}:∀{w l:List UInt8},w.all p=true→(∀c,l.head?=some c→p c=false)→runU p (w++l)=w.length
 | [],l,_,hl=>by
  cases l with
  | nil=>rfl
  | cons c l=>simp[runU,hl c rfl]
 | c :: w,l,hw,hl=>by
  simp only[List.all_cons,bAt] at hw
  have:=run_all hw.2 hl
  unfold runU at this⊢
  rw[List.cons_append,List.takeWhile_cons,hw.1]
  simp only[if_true,List.length_cons,this]
theorem let_facts {c:UInt8} (h:letU c=true):digU c=false∧whU c=false∧(c==35)=false:=by
 unfold letU letB at h
 simp only[bAt,decide_eq_true_eq] at h
 have hn:∀k:UInt8,k.toNat<97→(c==k)=false:=fun k hk=>by
  rw[beq_eq_false_iff_ne];rintro rfl;omega
 refine⟨?_,?_,hn 35 (by decide)⟩
 ·unfold digU digB
  rw[decide_eq_false (p:=(c.toNat:Int)≤57) (by omega),Bool.and_false]
 ·unfold whU
  rw[hn 32 (by decide),hn 9 (by decide),hn 10 (by decide),hn 13 (by decide)];rfl
theorem wordAt_id {w l:List UInt8} (h:idW w=true) (hl:∀c,l.head?=some c→insU c=false):wordAt w l:=by
 unfold idW at h
 simp only[bAt,decide_eq_true_eq] at h
 obtain ⟨⟨h1,h2⟩,h3⟩:=h
 cases w with
 | nil=>exact absurd h1 (by decide)
 | cons c w=>
  simp only[List.headD_cons] at h1
  obtain ⟨g1,g2,g3⟩:=let_facts h1
  refine⟨by simp,?_,?_⟩
  ·rw[List.cons_append,spF,g2,g3];rfl
  ·unfold wordW
   rw[List.cons_append,List.headD_cons,g1,h1,←List.cons_append,run_all h2 hl,if_pos h3];rfl
theorem wordAt_sym {w l:List UInt8} (h:w∈symL) (hl:(w=[60]∨w=[62])→l.head?≠some 61):wordAt w l:=by
 have hne:(w=[60]∨w=[62])→∀x,([x,61]:List UInt8).isPrefixOf (w++l)=false:=by
  intro hw x
  have:=hl hw
  rcases hw with rfl|rfl<;>cases l with
   | nil=>simp[List.isPrefixOf]
   | cons c l=>
    have hc:¬(61:UInt8)=c:=fun e=>this (by rw[←e];rfl)
    simp[List.isPrefixOf,hc]
 unfold symL at h
 simp only[List.mem_cons,List.not_mem_nil,or_false] at h
 rcases h with rfl|rfl|rfl|rfl|rfl|rfl|rfl|rfl|rfl|rfl|rfl|rfl|rfl|rfl|rfl
 case inr.inr.inr.inr.inl=>
  have:=hne (Or.inl rfl)
  refine⟨by simp,rfl,?_⟩
  unfold wordW symL
  simp only[List.find?,this]
  rfl
 case inr.inr.inr.inr.inr.inl=>
  have:=hne (Or.inr rfl)
  refine⟨by simp,rfl,?_⟩
  unfold wordW symL
  simp only[List.find?,this]
  rfl
 all_goals exact⟨by simp,rfl,rfl⟩
theorem hd_id {l:List UInt8} {c:UInt8} (h:insU c=false):∀c',(c :: l).head?=some c'→insU c'=false:=by
 intro c' e
 simp only[List.head?_cons,oSi] at e
 rw[←e];exact h
def LexC (s:List UInt8) (T:List ByteArray):Prop:=∀l T',hdE l→Lex l T'→Lex (s++l) (T++T')
theorem hdE_cons {c:UInt8} (l:List UInt8) (h:c=32∨c=41∨c=44∨c=59):hdE (c :: l):=by
 unfold hdE
 rcases h with rfl|rfl|rfl|rfl<;>simp
theorem lex_sym {w:List UInt8} {l:List UInt8} {T:List ByteArray} (h:w∈symL) (hl:(w=[60]∨w=[62])→l.head?≠some 61) (hL:Lex l T):Lex (w++l) (bsL w :: T):=.word (wordAt_sym h hl) hL
theorem lex_s {w:List UInt8} {l:List UInt8} {T:List ByteArray} (h:w∈symL) (hn:w≠[60]∧w≠[62]) (hL:Lex l T):Lex (w++l) (bsL w :: T):=lex_sym h (fun h=>absurd h (not_or.2 hn)) hL
theorem lex_w {s:ByteArray} {T:List ByteArray} (v:Int) (lv:Int) (h:LexC s.data.toList T):LexC (wth v (lv,s)).data.toList (wtk v (lv,T)):=by
 intro l T' hl hL
 unfold wth wtk
 try dsimp only
 split
 ·rw[app_toList,app_toList,List.append_assoc,List.append_assoc,show opnS :: (T++[clsS])++T'=opnS :: (T++clsS :: T') by simp]
  refine lex_s (w:=[40]) (by decide) (by decide) ?_
  refine h _ _ (hdE_cons _ (by simp)) ?_
  exact lex_s (w:=[41]) (by decide) (by decide) hL
 ·exact h l T' hl hL
theorem lex_leaf {s:ByteArray} (h:∀l,hdE l→wordAt s.data.toList l):LexC s.data.toList [s]:=by
 intro l T' hl hL
 have:=Lex.word (h l hl) hL
 rwa [toList_bsL] at this
theorem name_id {s:ByteArray} (h:nameB s=true):idW s.data.toList=true:=by
 have hl:s.data.toList.length=s.size:=Array.length_toList
 unfold nameB at h
 simp only[bAt,decide_eq_true_eq] at h
 obtain ⟨h1,h2,h3,h4,_⟩:=h
 unfold idW
 simp only[bAt,decide_eq_true_eq]
 refine⟨⟨?_,?_⟩,by omega⟩
 ·rw[byteAt_list (by omega)] at h3
  unfold letU
  cases e:s.data.toList with
  | nil=>rw[e] at hl;simp at hl;omega
  | cons c l=>simp only[e,List.getElem_cons_zero] at h3;exact h3
 ·rw[List.all_eq_true]
  intro c hc
  unfold runN at h4
  rw[←hl] at h4
  have:s.data.toList.takeWhile insU=s.data.toList:=(List.takeWhile_prefix insU).eq_of_length h4
  rw[←this] at hc
  exact List.all_eq_true.1 (List.all_takeWhile (p:=insU) (l:=s.data.toList)) c hc
theorem lex_join:∀(L:List Ex),L≠[]→(∀a∈L,LexC (fmtE a).data.toList (tkE a))→LexC (Lib.join ((L.map fmtE).map (·.data.toList)) [44,32]) (sepC (L.map tkE)):=by
 intro L
 induction L with
 | nil=>intro h;exact absurd rfl h
 | cons a L ih=>
  intro _ h
  cases L with
  | nil=>
   have:=h a (by simp)
   simpa [Lib.join,List.intercalate,sepC] using this
  | cons b L=>
   have ih:=ih (by simp) fun c hc=>h c (List.mem_cons_of_mem _ hc)
   intro l T' hl hL
   have e:Lib.join (((a :: b :: L).map fmtE).map (·.data.toList)) [44,32]=(fmtE a).data.toList++44 :: 32 :: Lib.join (((b :: L).map fmtE).map (·.data.toList)) [44,32]:=by
    simp[Lib.join,List.intercalate]
   rw[e,List.append_assoc]
   have e2:sepC ((a :: b :: L).map tkE)++T'=tkE a++commaS :: (sepC ((b :: L).map tkE)++T'):=by simp[sepC]
   rw[e2]
   refine h a (by simp) _ _ (hdE_cons _ (by simp)) ?_
   exact lex_s (w:=[44]) (by decide) (by decide) (Lex.blank blank_sp (ih l T' hl hL))
theorem op_sym {k:Int} (h:opB k=true) {l:List UInt8} {T:List ByteArray} (hL:Lex (32 :: l) T):Lex ((opS k).data.toList++32 :: l) (opS k :: T):=by
 have hk:k=6∨k=7∨k=8∨k=9∨k=12∨k=13∨k=14∨k=15∨k=16∨k=17∨k=19∨k=20:=by
  unfold opB at h;simp only[decide_eq_true_eq] at h;omega
 have hw:wordAt (opS k).data.toList (32 :: l):=by
  by_cases h19:k=19∨k=20
  ·refine wordAt_id ?_ (hd_id (by decide))
   rcases h19 with rfl|rfl<;>decide +kernel
  ·refine wordAt_sym ?_ fun _=>by simp
   rcases hk with rfl|rfl|rfl|rfl|rfl|rfl|rfl|rfl|rfl|rfl|rfl|rfl<;>first|decide +kernel|omega
 have:=Lex.word hw hL
 rwa [toList_bsL] at this
theorem lex_fmt:∀(m:Nat) (x:Ex),ht x≤m→sndE x=true→LexC (fmtE x).data.toList (tkE x):=by
 intro m
 induction m with
 | zero=>?_
 | succ m ih=>?_
 all_goals
  intro x hx hsn
  have ih':∀a∈x.kids,sndE a=true→LexC (fmtE a).data.toList (tkE a):=by
   intro a ha hs
   have:=ht_mem ha
   rw[←ht_eq] at this
   first
    | exact ih a (by omega) hs
    | omega
  clear hx
  rw[fmtE_eq,tkE_eq]
  rcases snd_cases hsn with ⟨hk,h,hs,hl⟩|⟨hk,h,hn,hd,hl⟩|⟨hk,hs,hn,hd,hl⟩|⟨hk,hs,hn,hd,a,hl,ha⟩|⟨hk,hs,hn,hd,hl,ha⟩|⟨hk,hs,hn,hd,a,b,hl,ha,hb⟩
  ·simp only[fmtK,tkK,hk,if_true]
   exact lex_leaf fun l hl=>num_word h hl
  ·simp only[fmtK,tkK,hk,if_true,show ¬(2:Int)=1 by omega,if_false]
   exact lex_leaf fun l hl=>wordAt_id (name_id h) (hdE_ins hl)
  ·rcases hk with hk|hk
   ·simp only[fmtK,tkK,hk,if_true,show ¬(3:Int)=1 by omega,show ¬(3:Int)=2 by omega,if_false]
    exact lex_leaf (s:=trueS) fun l hl=>wordAt_id (by decide +kernel) (hdE_ins hl)
   ·simp only[fmtK,tkK,hk,if_true,show ¬(4:Int)=1 by omega,show ¬(4:Int)=2 by omega,show ¬(4:Int)=3 by omega,if_false]
    exact lex_leaf (s:=falseS) fun l hl=>wordAt_id (by decide +kernel) (hdE_ins hl)
  ·have hA:=ih' a (by rw[hl];simp) ha
   intro l T' hl' hL
   rcases hk with hk|hk
   ·have e1:fmtK x.k x.s x.n x.d (fmtL x.kids)=(⟨#[45]⟩:ByteArray)++wth 6 (lvI a.k,fmtE a):=by rw[hl];simp[fmtK,hk,fmtL,g0]
    have e2:tkK x.k x.s x.n x.d (tkL x.kids)=minusS :: wtk 6 (lvI a.k,tkE a):=by rw[hl];simp[tkK,hk,tkL,k0]
    rw[e1,e2,app_toList,List.append_assoc]
    exact lex_s (w:=[45]) (by decide) (by decide) (lex_w 6 _ hA l T' hl' hL)
   ·have e1:fmtK x.k x.s x.n x.d (fmtL x.kids)=(⟨#[110,111,116,32]⟩:ByteArray)++wth 2 (lvI a.k,fmtE a):=by rw[hl];simp[fmtK,hk,fmtL,g0]
    have e2:tkK x.k x.s x.n x.d (tkL x.kids)=notS :: wtk 2 (lvI a.k,tkE a):=by rw[hl];simp[tkK,hk,tkL,k0]
    rw[e1,e2,app_toList,List.append_assoc]
    exact Lex.word (w:=[110,111,116]) (wordAt_id (by decide +kernel) (hd_id (by decide))) (Lex.blank blank_sp (lex_w 2 _ hA l T' hl' hL))
  ·have hA:∀a∈x.kids,LexC (fmtE a).data.toList (tkE a):=fun a h=>ih' a h (ha a h)
   have hj:=lex_join x.kids hl hA
   have e0:(fmtL x.kids).map (·.2)=x.kids.map fmtE:=by rw[fmtL_map,List.map_map];rfl
   have ej:(joinS (x.kids.map fmtE) comS).data.toList=Lib.join ((x.kids.map fmtE).map (·.data.toList)) [44,32]:=rfl
   intro l T' hl' hL
   rcases hk with hk|hk
   ·have e1:fmtK x.k x.s x.n x.d (fmtL x.kids)=(⟨#[109,105,110,40]⟩:ByteArray)++joinS (x.kids.map fmtE) comS++(⟨#[41]⟩:ByteArray):=by rw[←e0];simp[fmtK,hk]
    have e2:tkK x.k x.s x.n x.d (tkL x.kids)++T'=minS :: opnS :: (sepC (x.kids.map tkE)++clsS :: T'):=by rw[←tkL_two];simp[tkK,hk]
    rw[e1,e2,app_toList,app_toList,ej,List.append_assoc,List.append_assoc]
    refine Lex.word (w:=[109,105,110]) (wordAt_id (by decide +kernel) (hd_id (by decide))) (lex_s (w:=[40]) (by decide) (by decide) ?_)
    exact hj _ _ (hdE_cons _ (by simp)) (lex_s (w:=[41]) (by decide) (by decide) hL)
   ·have e1:fmtK x.k x.s x.n x.d (fmtL x.kids)=(⟨#[109,97,120,40]⟩:ByteArray)++joinS (x.kids.map fmtE) comS++(⟨#[41]⟩:ByteArray):=by rw[←e0];simp[fmtK,hk]
    have e2:tkK x.k x.s x.n x.d (tkL x.kids)++T'=maxS :: opnS :: (sepC (x.kids.map tkE)++clsS :: T'):=by rw[←tkL_two];simp[tkK,hk]
    rw[e1,e2,app_toList,app_toList,ej,List.append_assoc,List.append_assoc]
    refine Lex.word (w:=[109,97,120]) (wordAt_id (by decide +kernel) (hd_id (by decide))) (lex_s (w:=[40]) (by decide) (by decide) ?_)
    exact hj _ _ (hdE_cons _ (by simp)) (lex_s (w:=[41]) (by decide) (by decide) hL)
  ·have hA:=ih' a (by rw[hl];simp) ha
   have hB:=ih' b (by rw[hl];simp) hb
   obtain ⟨n,F⟩:=op_facts hk
   obtain ⟨h1,h2,h3,h4,h5,h6,h7,h8⟩:=F.no
   have e1:fmtK x.k x.s x.n x.d (fmtL x.kids)=wth (fstL x.k) (lvI a.k,fmtE a)++(⟨#[32]⟩:ByteArray)++opS x.k++(⟨#[32]⟩:ByteArray)++wth (lvI x.k+1) (lvI b.k,fmtE b):=by
    rw[hl];simp[fmtK,h1,h2,h3,h4,h5,h6,h7,h8,fmtL,g0]
   have e2:tkK x.k x.s x.n x.d (tkL x.kids)=wtk (fstL x.k) (lvI a.k,tkE a)++opS x.k :: wtk (lvI x.k+1) (lvI b.k,tkE b):=by
    rw[hl];simp[tkK,h1,h2,h3,h4,h5,h6,h7,h8,tkL,k0]
   intro l T' hl' hL
   rw[e1,e2]
   simp only[app_toList,List.append_assoc]
   refine lex_w _ _ hA _ _ (hdE_cons _ (by simp)) (Lex.blank blank_sp ?_)
   exact op_sym hk (Lex.blank blank_sp (lex_w _ _ hB l T' hl' hL))
end Go.Proofs
/- Words,plain: they take at least a byte;what comes in front of them. -/
namespace Go.Proofs
open Go Go.Ab
theorem runU_le (p:UInt8→Bool) (l:List UInt8):runU p l≤l.length:=(List.takeWhile_prefix p).length_le
theorem runU_pos {p:UInt8→Bool} {c:UInt8} {l:List UInt8} (h:p c=true):1≤runU p (c :: l):=by
 unfold runU;rw[List.takeWhile_cons,h];simp
theorem numEnd_le (l:List UInt8):numEnd l≤l.length:=by
 have h1:=runU_le digU l
 unfold numEnd
 split
 ·rename_i h
  simp only[bAt] at h
  have h2:=runU_le digU (l.drop (min (runU digU l) 9+1))
  rw[List.length_drop] at h2
  have h3:min (runU digU l) 9+1<l.length:=by
   refine Nat.lt_of_not_le fun hn=>?_
   rw[List.getElem?_eq_none hn] at h
   simp at h
  omega
 ·omega
theorem numEnd_pos {c:UInt8} {l:List UInt8} (h:digU c=true):1≤numEnd (c :: l):=by
 have:=runU_pos (l:=l) h
 unfold numEnd
 split<;>omega
theorem wordW_pos {l:List UInt8} (hl:l≠[]) (h:(wordW l).2=0):1≤(wordW l).1∧(wordW l).1≤l.length:=by
 obtain ⟨c,l,rfl⟩:∃c t,l=c :: t:=by
  cases l with
  | nil=>exact absurd rfl hl
  | cons c t=>exact⟨c,t,rfl⟩
 unfold wordW at h⊢
 rw[List.headD_cons] at h⊢
 by_cases hd:digU c=true
 ·rw[if_pos hd] at h⊢
  have h1:=numEnd_le (c :: l)
  have h2:=numEnd_pos (l:=l) hd
  unfold numW at h⊢
  split at h
  ·cases h
  ·rename_i h3
   rw[if_neg h3]
   split at h
   ·rename_i h4;exact absurd h h4
   ·rename_i h4
    rw[if_neg h4]
    try dsimp only
    omega
 ·rw[if_neg hd] at h⊢
  by_cases hc:letU c=true
  ·rw[if_pos hc] at h⊢
   have h1:=runU_le insU (c :: l)
   have h2:1≤runU insU (c :: l):=runU_pos (by unfold letU at hc;unfold insU insB;rw[hc];rfl)
   split at h
   ·rename_i h3
    rw[if_pos h3];dsimp only;omega
   ·cases h
  ·rw[if_neg hc] at h⊢
   cases e:symL.find? fun x=>x.isPrefixOf (c :: l) with
   | none=>rw[e] at h;cases h
   | some x=>
    rw[e] at h
    try dsimp only
    have hp:=List.find?_some e
    have hm:=List.mem_of_find?_eq_some e
    have h1:x.length≤(c :: l).length:=(List.isPrefixOf_iff_prefix.1 hp).length_le
    have h2:∀x∈symL,1≤x.length:=by decide +kernel
    have h2:=h2 x hm
    omega
def Ws.app (T:List Tk):Ws→Ws
 | .ok t=>.ok (T++t)
 | .bad a e=>.bad a e
theorem app_cons (T:List Tk) (w:Tk) (x:Ws):(x.cons w).app T=x.app (T++[w]):=by
 cases x with
 | ok t=>simp[Ws.cons,Ws.app]
 | bad a e=>rfl
theorem app_nil (x:Ws):x.app []=x:=by cases x<;>rfl
def wrdL (s:ByteArray):List Tk×Int×Int:=if 16384<s.size then ([],0,8) else match toks (s.size+1) 0 s.data.toList with
 | .ok t=>(t,0,0)
 | .bad a e=>([],a,e)
end Go.Proofs
/- The words of a text,the program's side. -/
namespace Go.Proofs
open Go Go.Ab Go.RowKit
set_option maxHeartbeats 1000000
set_option maxRecDepth 100000
variable {G:IH}
theorem getD_appL {α:Type} {a b:List α} {i:Nat} {x0:α} (h:i<a.length):(a++b).getD i x0=a.getD i x0:=by
 rw[List.getD,List.getD,List.getElem?_append_left h]
theorem getD_appR {α:Type} {a b:List α} {i:Nat} {x0:α} (h:a.length≤i):(a++b).getD i x0=b.getD (i-a.length) x0:=by
 rw[List.getD,List.getD,List.getElem?_append_right h]
abbrev tkRK:RK:=⟨true,54,false,none⟩
abbrev tk0:Tk:=(.empty,0)
abbrev tkD (w:Tk):DV:=.agg [ds w.1,di w.2]
def tkF (t:List Tk) (i:Nat):DV:=tkD (t.getD i tk0)
abbrev wdsD (t:List Tk):DV:=.slc 2 t.length (tkF t)
noncomputable def orcWd (a b:Int):Oracle:=fun f x=>match f,x with
 | 31,[.con (.string s)]=>some (di (spS s))
 | 32,[_]=>some (.tup [di a,di b])
 | _,_=>none
noncomputable def S11w (s:ByteArray) (x:List Tk×Nat):AS:=⟨regs Tryz.f11.ntmps [(0,vs s),(5,.vec 900 2 0 x.1.length),(6,vi (x.2+spF false (s.data.toList.drop x.2):Nat))],[(900,[.arr tkRK 2 (tkF x.1)])]⟩
def wrD (x:List Tk×Int×Int):DV:=.tup [if x.2.2=0 then wdsD x.1 else .con (.slice none 0 0),di x.2.1,di x.2.2]
theorem wrd_nil {s:ByteArray} (h:(wrdL s).2.2≠0):(wrdL s).1=[]:=by
 unfold wrdL at h⊢
 split
 ·rfl
 ·rename_i h0
  rw[if_neg h0] at h
  cases e:toks (s.size+1) 0 s.data.toList with
  | ok t=>rw[e] at h;exact absurd rfl h
  | bad a e=>rfl
theorem wrd_ok {s:ByteArray} (h0:¬16384<s.size) {T:List Tk} (h:toks (s.size+1) 0 s.data.toList=.ok T):wrdL s=(T,0,0):=by
 unfold wrdL;rw[if_neg h0,h]
theorem wrd_bad {s:ByteArray} (h0:¬16384<s.size) {a e:Int} (h:toks (s.size+1) 0 s.data.toList=.bad a e):wrdL s=([],a,e):=by
 unfold wrdL;rw[if_neg h0,h]
theorem wrd_big {s:ByteArray} (h0:16384<s.size):wrdL s=([],0,8):=by
 unfold wrdL;rw[if_pos h0]
theorem extr_mid (s:ByteArray) (a n:Nat):s.extract a (a+n)=bsL ((s.data.toList.drop a).take n):=by
 have:(s.extract a (a+n)).data.toList=(s.data.toList.drop a).take n:=by rw[extract_list,Nat.add_sub_cancel_left]
 rw[←this,toList_bsL]
theorem f11' (s:ByteArray) (hs:s.size≤900000):FnOK Tryz.prog G 11 [ds s] (wrD (wrdL s)):=by
 have hl:s.data.toList.length=s.size:=Array.length_toList
 refine FnOK.of_body Tryz.func11 rfl Tryz.call11 ?_
 refine walkK (orc:=orcWd 0 0) (keep:=[]) (cuts:=[]) (n:=1000) follows ?_
 refine of_tr (fun ZT ZW ZQ ZK=>((((decide ((↑s.size:Int)>16384))=true)→(((.tup [(.con (.slice none 0 0)),(di 0),(di 8)]):DV)=(wrD (wrdL s))))∧(((decide ((↑s.size:Int)>16384))=false)→(ZK 31 [(ds s)] (di (↑(spS s)))∧ZW [cd Tryz.f11 [1,1,1,0,1,0],(.blk 0),cd Tryz.f11 [1,1,1,1]] (stS ZT [1]) ZQ)))) (by kernel_rfl) ?_
 refine⟨fun h=>?_,fun h=>⟨f31 s (by omega),?_⟩⟩
 ·simp only[decide_eq_true_eq] at h
  rw[wrd_big (by omega)];rfl
 ·have h0:¬16384<s.size:=by simp only[decide_eq_false_iff_not] at h;omega
  refine AWP.pre (.nilRow _ 5 900 2 tkRK (tkF []) (by kernel_rfl) (by kernel_rfl)) ?_
  refine AWP.loop (c:=cAt (bodyOf Tryz.f11) [1,1,1,0,1,0,0]) (by kernel_rfl) (S11w s) (fun x=>x.2≤s.size∧x.1.length≤x.2∧∃k,s.size-x.2<k∧toks (s.size+1) 0 s.data.toList=(toks k x.2 (s.data.toList.drop x.2)).app x.1) (fun x=>s.size-x.2) ([],0) ?_ ⟨Nat.zero_le _,Nat.zero_le _,s.size+1,by show s.size-0<s.size+1;omega,by rw[app_nil];rfl⟩ ?_
  ·refine AS.leZ [2] [] (b:=((T0∧T0∧((vi (↑(spS s))):AV)=(vi (↑(0+spF false (List.drop 0 s.data.toList))))∧True)∧T0∧True)) (by kernel_rfl) (by kernel_rfl) ?_
   exact⟨⟨rfl,rfl,by rw[Nat.zero_add];rfl,trivial⟩,rfl,trivial⟩
  ·rintro ⟨T,q⟩ ⟨hq,hT,k,hk,he⟩
   dsimp only at hq hT hk he
   obtain ⟨k,rfl⟩:∃j,k=j+1:=⟨k-1,by omega⟩
   obtain ⟨b,hbe⟩:∃b,b=spF false (s.data.toList.drop q):=⟨_,rfl⟩
   have hble:=sp_le false (s.data.toList.drop q)
   rw[←hbe,List.length_drop,hl] at hble
   obtain ⟨W,hWe⟩:∃W,W=wordW (s.data.toList.drop (q+b)):=⟨_,rfl⟩
   have htk:toks (k+1) q (s.data.toList.drop q)=if (s.data.toList.drop q).length≤spF false (s.data.toList.drop q) then .ok [] else if (wordW ((s.data.toList.drop q).drop (spF false (s.data.toList.drop q)))).2≠0 then .bad (q+spF false (s.data.toList.drop q):Nat) (wordW ((s.data.toList.drop q).drop (spF false (s.data.toList.drop q)))).2
    else (toks k (q+spF false (s.data.toList.drop q)+(wordW ((s.data.toList.drop q).drop (spF false (s.data.toList.drop q)))).1.toNat) ((s.data.toList.drop q).drop (spF false (s.data.toList.drop q)+(wordW ((s.data.toList.drop q).drop (spF false (s.data.toList.drop q)))).1.toNat))).cons (bsL (((s.data.toList.drop q).drop (spF false (s.data.toList.drop q))).take (wordW ((s.data.toList.drop q).drop (spF false (s.data.toList.drop q)))).1.toNat),(q+spF false (s.data.toList.drop q):Nat)):=rfl
   rw[←hbe,List.drop_drop,←hWe,List.drop_drop,List.length_drop,hl] at htk
   rw[htk] at he
   refine walkK (orc:=orcWd W.1 W.2) (keep:=[]) (cuts:=[]) (n:=1000) follows ?_
   refine of_rd (fun ZT ZW ZQ ZK ZA _=>(fun (Za:Nat)=>((((decide ((↑Za:Int)<↑s.size))=true)→((((0≤(↑Za:Int))∧((↑Za:Int)≤↑s.size)∧((↑s.size:Int)≤↑s.size))∧ZK 32 [(ds (s.extract ((↑Za:Int)).toNat (↑s.size:Int).toNat))] (.tup [(di W.fst),(di W.snd)]))∧(((W.snd != 0)=true)→(((.tup [(.con (.slice none 0 0)),(di (↑Za)),(di W.snd)]):DV)=(wrD (wrdL s))))∧(((W.snd != 0)=false)→(((I64 (↑Za+W.fst))∧((0≤(↑Za:Int))∧(↑Za≤↑Za+W.fst)∧(↑Za+W.fst≤↑s.size))∧(((T.length+1)*24≤1099511627776)∧(T.length+1≤1099511627776))∧(∀(i:Nat),i<1→elemOK true 2 (elemF true 2 [DV.con (Value.string (s.extract ((↑Za:Int)).toNat (↑Za+W.fst).toNat)),DV.con (Value.int IntKind.i64 ↑Za)] i)=true))∧(I64 (↑Za+W.fst))∧(((0≤↑Za+W.fst)∧(↑Za+W.fst≤↑s.size)∧((↑s.size:Int)≤↑s.size))∧ZK 31 [(ds (s.extract (↑Za+W.fst).toNat (↑s.size:Int).toNat))] (di (↑(spS (s.extract (↑Za+W.fst).toNat (↑s.size:Int).toNat))))∧(I64 (↑Za+W.fst + ↑(spS (s.extract (↑Za+W.fst).toNat (↑s.size:Int).toNat)))))∧(ZA (stS ZT [0,1]))))))∧(((decide ((↑Za:Int)<↑s.size))=false)→ZW [cd Tryz.f11 [1,1,1,1]] (stS ZT [1]) ZQ))) (q+spF false (List.drop q s.data.toList))) (by kernel_rfl) ?_
   try dsimp only
   rw[←hbe]
   rw[Int.toNat_natCast,Int.toNat_natCast]
   refine⟨fun h1=>?_,fun h1=>?_⟩
   ·have h1:q+b<s.size:=by simp only[decide_eq_true_eq] at h1;omega
    rw[if_neg (by omega)] at he
    have h32:=f32 (G:=G) (s.extract (q+b) s.size) (by rw[ByteArray.size_extract];omega) (by rw[ByteArray.size_extract];omega)
    rw[extr_drop,←hWe] at h32
    have hlen:(s.data.toList.drop (q+b)).length=s.size-(q+b):=by rw[List.length_drop,hl]
    refine⟨⟨⟨by omega,by omega,by omega⟩,h32⟩,fun h2=>?_,fun h2=>?_⟩
    ·have h2:W.2≠0:=by simpa using h2
     rw[if_pos h2] at he
     rw[wrd_bad h0 (he.trans rfl)]
     unfold wrD
     rw[if_neg h2]
    ·have h2:W.2=0:=by simpa using h2
     rw[if_neg (by rw[h2];decide),app_cons] at he
     obtain ⟨p1,p2⟩:=wordW_pos (l:=s.data.toList.drop (q+b)) (fun hh=>by rw[hh] at hlen;simp at hlen;omega) (by rw[←hWe];exact h2)
     rw[←hWe] at p1 p2
     rw[hlen] at p2
     obtain ⟨n,hn⟩:=Int.eq_ofNat_of_zero_le (show 0≤W.1 by omega)
     rw[hn] at p1 p2 he⊢
     have e1:(((q+b:Nat):Int)+(n:Int)).toNat=q+b+n:=by omega
     rw[e1]
     have e3:(n:Int).toNat=n:=Int.toNat_natCast n
     rw[e3,←Nat.add_assoc] at he
     have hsp:=sp_le false (s.data.toList.drop (q+b+n))
     rw[List.length_drop,hl] at hsp
     have h31:spS (s.extract (q+b+n) s.size)=spF false (s.data.toList.drop (q+b+n)):=by unfold spS;rw[extr_drop]
     rw[h31]
     have hk31:=f31 (G:=G) (s.extract (q+b+n) s.size) (by rw[ByteArray.size_extract];omega)
     rw[h31] at hk31
     refine⟨⟨⟨by omega,by omega⟩,⟨by omega,by omega,by omega⟩,⟨by omega,by omega⟩,fun i hi=>?_⟩,⟨by omega,by omega⟩,⟨⟨by omega,by omega,by omega⟩,hk31,⟨by omega,by omega⟩⟩,?_⟩
     ·obtain rfl:i=0:=by omega
      rfl
     ·refine⟨(T++[(bsL ((s.data.toList.drop (q+b)).take n),((q+b:Nat):Int))],q+b+n),(AS.leX.moves [(45,900)] _ rfl).trans ((AS.leX.rowF _ 5 900 (T.length+1) (agg:=tkRK) (sz:=2) (f:=fun i=>bif Nat.blt i T.length then tkF T i else elemF true 2 [ds (s.extract ((q+spF false (s.data.toList.drop q):Nat):Int).toNat (((q+spF false (s.data.toList.drop q):Nat):Int)+(n:Int)).toNat),di ((q+spF false (s.data.toList.drop q):Nat):Int)] (i-T.length)) (tkF (T++[(bsL ((s.data.toList.drop (q+b)).take n),((q+b:Nat):Int))])) (by kernel_rfl) (by kernel_rfl) rfl (by kernel_rfl) (fun i hi=>?_)).trans (.of_le ?_)),⟨by show q+b+n≤s.size;omega,by simp only[List.length_append,List.length_singleton];omega,k,by show s.size-(q+b+n)<k;omega,he⟩,(by show s.size-(q+b+n)<s.size-q;omega)⟩
      ·unfold tkF
       rcases Nat.lt_or_ge i T.length with h4|h4
       ·rw[show Nat.blt i T.length=true from by rw[Nat.blt_eq];exact h4,getD_appL h4];rfl
       ·obtain rfl:i=T.length:=by omega
        rw[show Nat.blt T.length T.length=false from by rw[Bool.eq_false_iff,ne_eq,Nat.blt_eq];omega,getD_appR (Nat.le_refl _),Nat.sub_self]
        rw[←hbe,Int.toNat_natCast,e1,extr_mid];rfl
      ·refine AS.leZ [1,2] [] (b:=((T0∧((.vec 900 2 0 (T.length+1)):AV)=(.vec 900 2 0 (T++[(bsL (List.take n (List.drop (q+b) s.data.toList)),(↑(q+b):Int))]).length)∧((vi ((↑(q+spF false (List.drop q (Array.toList (ByteArray.data s)))):Int)+(↑n:Int)+(↑(spS (ByteArray.extract s (Int.toNat ((↑(q+spF false (List.drop q (Array.toList (ByteArray.data s)))):Int)+(↑n:Int))) (Int.toNat (↑(ByteArray.size s):Int)))):Int))):AV)=(vi (↑(q+b+n+spF false (List.drop (q+b+n) s.data.toList))))∧True)∧T0∧True)) (by kernel_rfl) (by kernel_rfl) ?_
       refine⟨⟨rfl,congrArg (fun n=>AV.vec 900 2 0 n) (by simp),?_,trivial⟩,rfl,trivial⟩
       rw[←hbe,Int.toNat_natCast,e1,h31]
       exact congrArg (fun n:Int=>AV.d (di n)) (by omega)
   ·have h1:¬q+b<s.size:=by simp only[decide_eq_false_iff_not] at h1;omega
    rw[if_pos (by omega)] at he
    have he2:wrdL s=(T,0,0):=wrd_ok h0 (by rw[he];simp[Ws.app])
    refine walkK (orc:=orcWd 0 0) (keep:=[]) (cuts:=[]) (n:=1000) follows ?_
    refine of_tr (fun _ _ _ _=>(((.tup [(.slc 2 T.length (fun i=>tkF T (0+i))),(di 0),(di 0)]):DV)=(wrD (wrdL s)))) (by kernel_rfl) ?_
    rw[he2]
    unfold wrD
    rw[if_pos rfl]
    have:(fun i=>tkF T (0+i))=tkF T:=funext fun i=>by rw[Nat.zero_add]
    rw[this]
theorem f11 (s:ByteArray) (hs:s.size≤900000):FnOK Tryz.prog G 11 [ds s] (.tup [wdsD (wrdL s).1,di (wrdL s).2.1,di (wrdL s).2.2]):=by
 refine FnOK.res (f11' s hs) fun k v hv=>?_
 unfold wrD at hv
 by_cases h:(wrdL s).2.2=0
 ·rw[if_pos h] at hv;exact hv
 ·rw[if_neg h] at hv
  obtain ⟨us,rfl,a1,u1,rfl,h1,r⟩:=hv
  refine⟨_,rfl,a1,u1,rfl,?_,r⟩
  rw[wrd_nil h]
  exact nil_slc h1
end Go.Proofs
/- What is read is the expression of a text. -/
set_option maxRecDepth 100000
namespace Go.Proofs
open Go Go.Ab
def tkOK (t:List Tk):Prop:=∀w∈t,digB (byteAt w.1 0)=true→numB (prs w.1).1 (prs w.1).2.1=true
theorem tkOK.tail {t:List Tk} (h:tkOK t):tkOK t.tail:=fun w hw=>h w (List.mem_of_mem_tail hw)
theorem tkOK.hd {t:List Tk} (h:tkOK t) (hd:digB (byteAt (hdS t) 0)=true):numB (prs (hdS t)).1 (prs (hdS t)).2.1=true:=by
 cases t with
 | nil=>exact absurd hd (by decide +kernel)
 | cons w t=>exact h w (by simp) hd
end Go.Proofs
/- A rule that is read is one of a text,where it is shallow. -/
set_option maxRecDepth 100000
namespace Go.Proofs
open Go Go.Ab
end Go.Proofs
/- Numbers that are read: they can be written. -/
namespace Go.Proofs
open Go Go.Ab
theorem dgU_iff (c:UInt8):digU c=true↔isDb c=true:=by
 unfold digU digB isDb
 simp only[bAt,decide_eq_true_eq];omega
theorem no_of {l:List UInt8} (h:∀c∈l,digU c=true) {k:UInt8} (hk:digU k=false):k∉l:=fun hm=>by rw[h k hm] at hk;cases hk
theorem dgO_of {l:List UInt8} {m:Nat} (h:∀c∈l,digU c=true) (h1:1≤l.length) (h2:l.length≤m):dgO l m=some (valD l):=by
 rw[dgO_iff fun c hc=>(dgU_iff c).1 (h c hc),if_pos ⟨h1,h2⟩]
theorem valD_lt {l:List UInt8} (h:∀c∈l,digU c=true):valD l<10 ^ l.length:=valD_ltN _ _ rfl fun c hc=>(isDb_iff c).1 ((dgU_iff c).1 (h c hc))
theorem num_prs {D T:List UInt8} (hD:∀c∈D,digU c=true) (hT:∀c∈T,digU c=true) (h1:1≤D.length) (h9:D.length≤9) (h6:T.length≤6):∃a j:Nat,j≤6∧a / 10 ^ j<1000000000∧prs (bsL (D++if T=[] then [] else 46 :: T))=red (a:Int) ((10 ^ j:Nat):Int):=by
 have hv:valD D<1000000000:=by
  have:=valD_lt hD
  have h3:10 ^ D.length≤10 ^ 9:=Nat.pow_le_pow_right (by decide) h9
  have e9:(10:Nat) ^ 9=1000000000:=by decide
  omega
 obtain ⟨l,hl⟩:∃l,l=D++if T=[] then [] else 46 :: T:=⟨_,rfl⟩
 have hp:∃a j:Nat,j≤6∧a / 10 ^ j<1000000000∧partsO l=some (a,10 ^ j):=by
  by_cases hn:T=[]
  ·refine⟨valD D,0,by omega,by simpa using hv,?_⟩
   rw[hl,if_pos hn,List.append_nil,parts_whole (no_of hD (by decide)) (no_of hD (by decide)),dgO_of hD h1 (by omega)];rfl
  ·have hT1:1≤T.length:=List.length_pos_iff.2 hn
   refine⟨valD D*10 ^ T.length+valD T,T.length,h6,?_,?_⟩
   ·have:=valD_lt hT
    rw[Nat.mul_comm,Nat.mul_add_div (Nat.pow_pos (by decide)),Nat.div_eq_of_lt this];omega
   ·rw[hl,if_neg hn,parts_dot,dgO_of hD h1 (by omega),dgO_of hT hT1 h6];rfl
 obtain ⟨a,j,hj,ha,hp⟩:=hp
 refine⟨a,j,hj,ha,?_⟩
 rw[←hl]
 obtain ⟨c,D',rfl⟩:∃c D',D=c :: D':=by
  cases D with
  | nil=>simp at h1
  | cons c D'=>exact⟨c,D',rfl⟩
 have hc:c≠45:=by rintro rfl;exact absurd (hD 45 (by simp)) (by decide)
 have hpre:Lib.hasPrefix l [45]=false:=by
  rw[hl,List.cons_append]
  unfold Lib.hasPrefix
  rw[List.isPrefixOf_cons_cons,beq_eq_false_iff_ne.2 (Ne.symm hc),Bool.false_and]
 have e45:minus.data.toList=[45]:=rfl
 have h1:preB minus (bsL l)=false:=by unfold preB;rw[e45,bsL_toList];exact hpre
 have h2:(preS minus (bsL l)).data.toList=l:=by
  unfold preS Lib.trimPrefix
  rw[e45,bsL_toList,hpre]
  exact toList_bs l
 have hpos:10 ^ j≠0:=Nat.ne_of_gt (Nat.pow_pos (by decide))
 unfold prs
 rw[h2,hp,h1]
 simp only[Bool.false_eq_true,if_false,if_neg hpos]
theorem cut_size {D R:List UInt8} (hD:∀c∈D,c≠46) (hR:R=[]∨∃T,R=46 :: T):(cD dotS (str (D++R))).size=D.length:=by
 unfold cD cI
 have e0:(str (D++R)).data.toList=D++R:=by simp
 have e1:dotS.data.toList.headD 0=46:=rfl
 rw[e0,e1]
 rcases hR with rfl|⟨T,rfl⟩
 ·have hn:Lib.indexByte (D++[]) 46<0:=by
   rcases Int.lt_or_le (Lib.indexByte (D++[]) 46) 0 with h1|h1
   ·exact h1
   ·obtain ⟨k,hk⟩:=Int.eq_ofNat_of_zero_le h1
    obtain ⟨h2,_⟩:=Lib.indexByte_some hk
    rw[List.append_nil] at h2
    exact absurd rfl (hD 46 (List.mem_of_getElem? h2))
  rw[if_neg (by omega),str_size,List.append_nil]
 ·have hat:(D++46 :: T)[D.length]?=some 46:=by rw[List.getElem?_append_right (Nat.le_refl _),Nat.sub_self];rfl
  have hn:Lib.indexByte (D++46 :: T) 46=D.length:=by
   rcases Int.lt_or_le (Lib.indexByte (D++46 :: T) 46) 0 with h1|h1
   ·have:=Lib.indexByte_ge (D++46 :: T) 46
    exact absurd hat (Lib.indexByte_none (by omega) _)
   ·obtain ⟨o,ho⟩:=Int.eq_ofNat_of_zero_le h1
    obtain ⟨g1,g2⟩:=Lib.indexByte_some ho
    rw[ho]
    rcases Nat.lt_trichotomy o D.length with hlt|heq|hgt
    ·rw[List.getElem?_append_left hlt] at g1
     exact absurd rfl (hD 46 (List.mem_of_getElem? g1))
    ·rw[heq]
    ·exact absurd hat (g2 _ hgt)
  rw[hn,if_pos (by omega),ByteArray.size_extract,str_size,List.length_append,List.length_cons,Int.toNat_natCast];omega
theorem red_num {a j:Nat} (hj:j≤6) (ha:a / 10 ^ j<1000000000) (h:(red (a:Int) ((10 ^ j:Nat):Int)).2.2=0):numB (red (a:Int) ((10 ^ j:Nat):Int)).1 (red (a:Int) ((10 ^ j:Nat):Int)).2.1=true:=by
 have hp:0<10 ^ j:=Nat.pow_pos (by decide)
 obtain ⟨g,hg⟩:∃g,g=Nat.gcd a (10 ^ j):=⟨_,rfl⟩
 have hgp:0<g:=by rw[hg];exact Nat.gcd_pos_of_pos_right _ hp
 obtain ⟨n,hn⟩:g∣a:=by rw[hg];exact Nat.gcd_dvd_left _ _
 obtain ⟨d,hd⟩:g∣10 ^ j:=by rw[hg];exact Nat.gcd_dvd_right _ _
 have hgi:Int.gcd (a:Int) ((10 ^ j:Nat):Int)=g:=by rw[hg];rfl
 have e1:(a:Int).tdiv (g:Nat)=n:=by
  rw[←Int.ofNat_tdiv]
  exact congrArg Nat.cast (show a / g=n by rw[hn,Nat.mul_div_cancel_left _ hgp])
 have e2:((10 ^ j:Nat):Int).tdiv (g:Nat)=d:=by
  rw[←Int.ofNat_tdiv]
  exact congrArg Nat.cast (show 10 ^ j / g=d by rw[hd,Nat.mul_div_cancel_left _ hgp])
 have hr:red (a:Int) ((10 ^ j:Nat):Int)=if ok n d=true then ((n:Int),(d:Int),0) else (0,0,2):=by
  unfold red red1
  rw[if_neg (by omega),hgi,e1,e2]
 rw[hr] at h⊢
 by_cases hok:ok n d=true
 ·rw[if_pos hok]
  try dsimp only
  have hdv:d∣10 ^ 6:=Nat.dvd_trans ⟨g,by rw[hd,Nat.mul_comm]⟩ (Nat.pow_dvd_pow 10 hj)
  have hdpos:0<d:=Nat.pos_of_ne_zero fun h0=>by rw[h0,Nat.mul_zero] at hd;omega
  have hm:(1000000:Int).tmod (d:Int)=0:=by
   rw[show (1000000:Int)=((10 ^ 6:Nat):Int) by rfl,←Int.ofNat_tmod,Nat.mod_eq_zero_of_dvd hdv];rfl
  have h2:(decF n d).2=true:=(dec_law hok).1.2 hm
  have hdec:decB (n:Int) (d:Int)=(Lib.decDigits (n / d)++(if n % d=0 then [] else 46 :: tailB d 7 (n % d)),true):=by
   unfold decB
   rw[if_pos ⟨hok,hm⟩,show sg (n:Int)=[] by unfold sg;rw[if_neg (by omega)]]
   simp
  have hq:n / d<10 ^ (8+1):=by
   have:a / 10 ^ j=n / d:=by rw[hn,hd,Nat.mul_div_mul_left _ _ hgp]
   rw[←this]
   have e9:(10:Nat) ^ (8+1)=1000000000:=by decide
   omega
  have hlen:=decDigits_len 8 _ hq
  have hsz:(cD dotS (str (decF n d).1)).size≤9:=by
   rw[decF_eq,hdec]
   try dsimp only
   rw[cut_size]
   ·exact hlen
   ·exact fun c hc=>dig_46 (dec_dig _ c hc)
   ·split
    ·exact .inl rfl
    ·exact .inr ⟨_,rfl⟩
  unfold numB
  rw[h2,decide_eq_true (by omega:(n:Int)≥0),decide_eq_true (by omega)];rfl
 ·rw[if_neg hok] at h;cases h
end Go.Proofs
/- Words that are read have numbers that can be written;numbers as the reference reads them. -/
namespace Go.Proofs
open Go Go.Ab
theorem run_get {p:UInt8→Bool} {l:List UInt8} {i:Nat} (h:i<runU p l):∃c,l[i]?=some c∧p c=true:=by
 unfold runU at h
 have hm:(l.takeWhile p)[i]∈l.takeWhile p:=List.getElem_mem h
 refine⟨(l.takeWhile p)[i],?_,List.all_eq_true.1 List.all_takeWhile _ hm⟩
 have:=List.IsPrefix.getElem (List.takeWhile_prefix p) h
 rw[this]
 exact gEe _
theorem run_take {p:UInt8→Bool} {l:List UInt8} {k:Nat} (h:k≤runU p l):∀c∈l.take k,p c=true:=by
 intro c hc
 obtain ⟨i,hi,rfl⟩:=List.getElem_of_mem hc
 rw[List.length_take] at hi
 obtain ⟨d,h1,h2⟩:=run_get (p:=p) (l:=l) (i:=i) (by omega)
 rw[List.getElem_take]
 rw[gEe (by omega)] at h1
 rw[Option.some.inj h1];exact h2
theorem any_some {o:Option UInt8} {p:UInt8→Bool} (h:o.any p=true):∃c,o=some c∧p c=true:=by
 cases o with
 | none=>cases h
 | some c=>exact⟨c,rfl,h⟩
theorem run_head {p:UInt8→Bool} {l:List UInt8} {c:UInt8} (h0:l[0]?=some c) (h:p c=true):1≤runU p l:=by
 cases l with
 | nil=>cases h0
 | cons d l=>
  simp at h0;subst h0
  exact runU_pos h
theorem take_num {l:List UInt8} (hd:digU (l.headD 0)=true):∃D T:List UInt8,(∀c∈D,digU c=true)∧(∀c∈T,digU c=true)∧1≤D.length∧D.length≤9∧T.length≤6∧l.take (numEnd l)=D++if T=[] then [] else 46 :: T:=by
 have h1:1≤runU digU l:=by
  cases l with
  | nil=>exact absurd hd (by decide)
  | cons c l=>exact runU_pos hd
 have h2:=runU_le digU l
 obtain ⟨n,hn⟩:∃n,n=min (runU digU l) 9:=⟨_,rfl⟩
 have hD:∀c∈l.take n,digU c=true:=run_take (by omega)
 have hDl:(l.take n).length=n:=by rw[List.length_take];omega
 by_cases hc:((l[n]?.any fun c=>c==46)&&l[n+1]?.any digU)=true
 ·have hc2:=hc
  simp only[bAt] at hc2
  obtain ⟨x,hx,hx2⟩:=any_some hc2.1
  obtain ⟨y,hy,hy2⟩:=any_some hc2.2
  have hx3:x=46:=by simpa using hx2
  subst hx3
  have hr:1≤runU digU (l.drop (n+1)):=run_head (c:=y) (by rw[List.getElem?_drop];exact hy) hy2
  obtain ⟨m,hm⟩:∃m,m=min (runU digU (l.drop (n+1))) 6:=⟨_,rfl⟩
  have hrl:=runU_le digU (l.drop (n+1))
  have hTl:((l.drop (n+1)).take m).length=m:=by rw[List.length_take];omega
  refine⟨l.take n,(l.drop (n+1)).take m,hD,run_take (by omega),by omega,by omega,by omega,?_⟩
  have hne:(l.drop (n+1)).take m≠[]:=fun h=>by rw[h] at hTl;simp at hTl;omega
  have hE:numEnd l=n+1+m:=by
   unfold numEnd
   rw[←hn,if_pos hc,←hm]
  have hnl:n<l.length:=by
   refine Nat.lt_of_not_le fun h=>?_
   rw[List.getElem?_eq_none h] at hx;cases hx
  have hd:l.drop n=46 :: l.drop (n+1):=by
   rw[List.drop_eq_getElem_cons hnl]
   rw[gEe hnl] at hx
   rw[Option.some.inj hx]
  rw[if_neg hne,hE,Nat.add_assoc,List.take_add,hd,Nat.add_comm 1 m,List.take_succ_cons]
 ·refine⟨l.take n,[],hD,by simp,by omega,by omega,by simp,?_⟩
  have hE:numEnd l=n:=by
   unfold numEnd
   rw[←hn,if_neg hc]
  rw[hE,if_pos rfl,List.append_nil]
theorem wordW_num {l:List UInt8} (hd:digU (l.headD 0)=true) (h:(wordW l).2=0):numB (prs (bsL (l.take (wordW l).1.toNat))).1 (prs (bsL (l.take (wordW l).1.toNat))).2.1=true:=by
 obtain ⟨D,T,hD,hT,h1,h9,h6,he⟩:=take_num hd
 obtain ⟨a,j,hj,ha,hp⟩:=num_prs hD hT h1 h9 h6
 rw[←he] at hp
 unfold wordW at h⊢
 rw[if_pos hd] at h⊢
 unfold numW at h⊢
 split at h
 ·cases h
 ·rename_i h3
  rw[if_neg h3]
  split at h
  ·rename_i h4;exact absurd h h4
  ·rename_i h4
   rw[if_neg h4]
   try dsimp only
   rw[Int.toNat_natCast,hp]
   rw[hp] at h4
   exact red_num hj ha (by simpa using h4)
theorem byte_bsL {l:List UInt8} {n:Nat} (hn:1≤n) (hl:l≠[]):byteAt (bsL (l.take n)) 0=((l.headD 0).toNat:Int):=by
 obtain ⟨c,l,rfl⟩:∃c t,l=c :: t:=by
  cases l with
  | nil=>exact absurd rfl hl
  | cons c t=>exact⟨c,t,rfl⟩
 obtain ⟨n,rfl⟩:∃m,n=m+1:=⟨n-1,by omega⟩
 exact byteAt_cons (s:=bsL ((c :: l).take (n+1))) (by rw[bsL_toList];rfl)
theorem toks_ok:∀(k at_:Nat) (l:List UInt8) (t:List Tk),toks k at_ l=.ok t→tkOK t:=by
 intro k
 induction k with
 | zero=>intro at_ l t h;cases h
 | succ k ih=>
  intro at_ l t h
  unfold toks at h
  split at h
  ·injection h with h;subst h
   intro w hw;cases hw
  ·rename_i h1
   split at h
   ·cases h
   ·rename_i h2
    have h2:(wordW (l.drop (spF false l))).2=0:=by simpa using h2
    have hne:l.drop (spF false l)≠[]:=fun hh=>by
     have:=congrArg List.length hh
     rw[List.length_drop] at this;simp at this;omega
    obtain ⟨p1,p2⟩:=wordW_pos hne h2
    cases e:toks k (at_+spF false l+(wordW (l.drop (spF false l))).1.toNat) (l.drop (spF false l+(wordW (l.drop (spF false l))).1.toNat)) with
    | bad a b=>rw[e] at h;cases h
    | ok T=>
     rw[e] at h
     injection h with h
     subst h
     intro w hw
     rcases List.mem_cons.1 hw with rfl|hw
     ·intro hd
      dsimp only at hd⊢
      rw[byte_bsL (by omega) hne] at hd
      exact wordW_num hd h2
     ·exact ih _ _ _ e w hw
set_option maxHeartbeats 1000000
set_option maxRecDepth 100000
open Go Go.Ab Go.RowKit
variable {G:IH}
end Go.Proofs
/- What a text says,by cases as the reference asks them,plain. -/
namespace Go.Proofs
open Go Go.Ab
set_option maxHeartbeats 1000000
set_option maxRecDepth 100000
open Go Go.Ab Go.RowKit
variable {G:IH}
end Go.Proofs
/- Words in front of a text,the reference's side. -/
namespace Go.Proofs
open Go Go.Ab Go.RowKit
set_option maxHeartbeats 1000000
set_option maxRecDepth 100000
variable {G:IH}
theorem leX_regE {st:AS} {t:Nat} {x y:AV} (hx:st.reg t=x) (hxy:∀(β:Nat→Nat) (h:IH) (v:Value),x.rel β h v→y.rel β h v):st.leX ⟨st.regs.set t y,st.boxes⟩:=AS.leX.reg st t y (by rw[hx];exact hxy)
end Go.Proofs
