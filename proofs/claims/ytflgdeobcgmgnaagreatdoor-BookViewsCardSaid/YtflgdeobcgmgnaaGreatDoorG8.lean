import Derived.Test.YtflgdeobcgmgnaaGreatDoorAcD
import Derived.Test.YtflgdeobcgmgnaaGreatDoorAcE
import Derived.Test.YtflgdeobcgmgnaaGreatDoorG7
import Derived.Test.YtflgdeobcgmgnaaGreatDoorG0
import Derived.Test.YtflgdeobcgmgnaaGreatDoorG5
import Derived.Test.YtflgdeobcgmgnaaGreatDoorG6
set_option autoImplicit false
set_option maxHeartbeats 4000000
set_option maxRecDepth 100000
namespace Go.Proofs
open Go Go.Ab Go.RowKit
variable {G:IH} {w:World}
end Go.Proofs
namespace Go.Proofs
open Go Go.Ab Go.RowKit
end Go.Proofs
namespace Go.Proofs
open Go Go.Ab
end Go.Proofs
namespace Go.Proofs
open Go Go.Ab
variable {G:IH}
theorem Jo (n:Nat) (h:n<256):IntKind.wrap .u8 (n:Int)=n:=IntWalk.u8_in n ⟨by omega,by omega⟩
theorem L8 (v:Int) (c:UInt8) (hv:v=c.toNat):bytesOf 1 (aW false 1 [.con (.int .u8 v)])=[c]:=by
 subst hv
 show [UInt8.ofNat (c.toNat:Int).toNat]=[c]
 simp
theorem Gx (v:Int) (c:UInt8) (hv:v=c.toNat):BytesAt 1 (aW false 1 [.con (.int .u8 v)]):=by
 subst hv
 intro i hi
 obtain rfl:i=0:=by omega
 rfl
def zH (n:Nat):List UInt8:=if h:n=0 then [] else zH (n / 10)++[UInt8.ofNat (48+n % 10)]
termination_by n
decreasing_by omega
def decP (n:Nat):List UInt8:=if n=0 then [48] else zH n
theorem y9:zH 0=[]:=by rw[zH];rfl
theorem Bz {n:Nat} (h:n≠0):zH n=zH (n / 10)++[UInt8.ofNat (48+n % 10)]:=by rw[zH,dif_neg h]
theorem Ld (n:Nat):zH (n / 10)++[UInt8.ofNat (48+n % 10)]=decP n:=by
 unfold decP
 split
 ·rename_i h;subst h;rw[show 0 / 10=0 from rfl,y9];rfl
 ·rename_i h;rw[Bz h]
theorem zx (n:Nat):decP n=Lib.itoa (n:Int):=by
 have key:∀n:Nat,n≠0→zH n=Lib.decDigits n:=by
  intro n
  induction n using Nat.strongRecOn with
  | _ n ih=>
   intro hn
   rw[Bz hn,Lib.decDigits]
   by_cases h:n<10
   ·rw[dif_pos h]
    have e:n / 10=0:=by omega
    rw[e,y9,Nat.mod_eq_of_lt h];rfl
   ·rw[dif_neg h,ih (n / 10) (by omega) (by omega)]
 rw[OM]
 unfold decP
 by_cases h:n=0
 ·subst h;rw[if_pos rfl,Lib.decDigits];rfl
 ·rw[if_neg h,key n h]
def aaR (n:Nat) (x:Nat×List UInt8):Prop:=x.1≤n∧((x.2=[]∧x.1=n)∨(x.2≠[]∧zH x.1++x.2=decP n))
def TM (x:Nat×List UInt8):Nat:=2*x.1+(if x.2=[] then 1 else 0)
noncomputable def S93 (x:Nat×List UInt8):AS:=⟨regs Tryz.f93.ntmps [(0,vi x.1),(3,vs (bs x.2))],[]⟩
theorem aep (n:Nat) (hn:n≤9223372036854775807):aA Tryz.prog G 93 [di n] (ds (bs (decP n))):=by
 have hP:(decP n).length≤21:=by rw[zx];exact iH _ ⟨by omega,by omega⟩
 refine aA.walk (aj:={ d:=bG }) (keep:=[]) follows Tryz.func93 rfl Tryz.call93 ?_
 refine aC (fun ZT ZW ZQ _=>ZW [cd Tryz.f93 [1,1,0,0],(.blk 0),cd Tryz.f93 [1,1,1]] (aB ZT []) ZQ) (by kernel_rfl) ?_
 refine aX.loop (c:=aU (au Tryz.f93) [1,1,0,0,0]) (by kernel_rfl) S93 (aaR n) TM (n,[]) ?_ ⟨Nat.le_refl _,.inl ⟨rfl,rfl⟩⟩ ?_
 ·refine AS.leZ [1] [] (b:=((T0∧((vs (ByteArray.mk #[])):AV)=(vs (bs []))∧True)∧True)) (by kernel_rfl) (by kernel_rfl) ?_
  exact⟨⟨rfl,rfl,trivial⟩,trivial⟩
 ·rintro ⟨m,l⟩ ⟨hm,hI⟩
  simp only at hm hI
  refine dh (aj:={ d:=bG }) ?_
  refine aV (fun ZT ZW ZQ _ ZA _=>(((((bs l).toList==(ByteArray.mk #[]).toList||decide ((↑m:Int)>0))=true)→(((I64 (48+((↑m:Int)).tmod 10))∧BytesAt 1 (aW false 1 [(.con (.int .u8 (IntKind.u8.wrap (48+((↑m:Int)).tmod 10))))])∧((ByteArray.mk (bytesOf 1 (aW false 1 [DV.con (Value.int IntKind.u8 (IntKind.u8.wrap (48+((↑m:Int)).tmod 10)))])).toArray).size+(bs l).size≤9223372036854775807))∧(CS ↑m)∧(ZA (aB ZT [0]))))∧((((bs l).toList==(ByteArray.mk #[]).toList||decide ((↑m:Int)>0))=false)→ZW [cd Tryz.f93 [1,1,1]] (aB ZT [1]) ZQ))) (by kernel_rfl) ?_
  have hll:l.length≤21:=by
   rcases hI with ⟨rfl,_⟩|⟨_,hI⟩
   ·exact Nat.zero_le _
   ·rw[←hI,List.length_append] at hP;omega
  have el:(ByteArray.toList (bs l)==ByteArray.toList { data:=#[] })=decide (l=[]):=by
   rw[Bool.eq_iff_iff,beq_iff_eq,eF,toList_inj]
   constructor
   ·intro h
    have:=congrArg ByteArray.size h
    rw[eX] at this
    exact List.length_eq_zero_iff.1 this
   ·rintro rfl;rfl
  rw[el]
  refine⟨fun h=>?_,fun h=>?_⟩
  ·have h2:m % 10<10:=Nat.mod_lt _ (by decide)
   have e:(48:Int)+Int.tmod (m:Int) 10=((48+m % 10:Nat):Int):=by push_cast;rfl
   rw[e,Jo _ (by omega)]
   have e5:((48+m % 10:Nat):Int)=((UInt8.ofNat (48+m % 10)).toNat:Int):=by
    simp only[UInt8.toNat_ofNat'];omega
   have e4:(⟨(bytesOf 1 (aW false 1 [DV.con (Value.int IntKind.u8 ((48+m % 10:Nat):Int))])).toArray⟩:ByteArray)=bs [UInt8.ofNat (48+m % 10)]:=by rw[L8 _ _ e5];rfl
   rw[e4]
   refine⟨⟨⟨by omega,by omega⟩,Gx _ _ e5,?_⟩,⟨by omega,by omega⟩,Again.mk (m / 10,UInt8.ofNat (48+m % 10) :: l) ?_ ⟨by simp only;omega,.inr ⟨by simp,?_⟩⟩ ?_⟩
   ·rw[eX,eX,List.length_singleton];omega
   ·refine AS.leZ [0,1] [] (b:=((((vi (((↑m:Int)).tdiv 10)):AV)=(vi (↑(m / 10)))∧((vs (ByteArray.mk (bytesOf 1 (aW false 1 [DV.con (Value.int IntKind.u8 (IntKind.u8.wrap (48+((↑m:Int)).tmod 10)))])).toArray++bs l)):AV)=(vs (bs (UInt8.ofNat (48+m % 10) :: l)))∧True)∧True)) (by kernel_rfl) (by kernel_rfl) ?_
    rw[e,Jo _ (by omega),e4,wG,List.singleton_append]
    exact⟨⟨rfl,rfl,trivial⟩,trivial⟩
   ·have hp:l=[]∨0<m:=by simpa using h
    simp only
    rcases hI with ⟨rfl,rfl⟩|⟨hl,hI⟩
    ·exact Ld m
    ·have hp:m≠0:=by rcases hp with h|h;exact absurd h hl;omega
     rw[←hI,Bz hp,List.append_assoc];rfl
   ·have hp:l=[]∨0<m:=by simpa using h
    simp only[TM]
    rw[if_neg (by simp)]
    rcases hp with rfl|hp
    ·rw[if_pos rfl];omega
    ·omega
  ·have hp:¬l=[]∧m=0:=by simpa using h
   obtain ⟨hl,rfl⟩:=hp
   rcases hI with ⟨h,_⟩|⟨_,hI⟩
   ·exact absurd h hl
   rw[y9,List.nil_append] at hI
   refine dh (aj:={ d:=bG }) ?_
   refine aC (fun _ _ _ _=>(((ds (bs l)):DV)=(ds (bs (decP n))))) (by kernel_rfl) ?_
   rw[hI]
noncomputable def S68 (x:Nat×List UInt8):AS:=⟨regs Tryz.f68.ntmps [(0,vi x.1),(3,vs (bs x.2))],[]⟩
theorem adG (n:Nat) (hn:n≤9223372036854775807):aA Tryz.prog G 68 [di n] (ds (bs (decP n))):=by
 have hP:(decP n).length≤21:=by rw[zx];exact iH _ ⟨by omega,by omega⟩
 refine aA.walk (aj:={ d:=bG }) (keep:=[]) follows Tryz.func68 rfl Tryz.call68 ?_
 refine aC (fun ZT ZW ZQ _=>ZW [cd Tryz.f68 [1,1,0,0],(.blk 0),cd Tryz.f68 [1,1,1]] (aB ZT []) ZQ) (by kernel_rfl) ?_
 refine aX.loop (c:=aU (au Tryz.f68) [1,1,0,0,0]) (by kernel_rfl) S68 (aaR n) TM (n,[]) ?_ ⟨Nat.le_refl _,.inl ⟨rfl,rfl⟩⟩ ?_
 ·refine AS.leZ [1] [] (b:=((T0∧((vs (ByteArray.mk #[])):AV)=(vs (bs []))∧True)∧True)) (by kernel_rfl) (by kernel_rfl) ?_
  exact⟨⟨rfl,rfl,trivial⟩,trivial⟩
 ·rintro ⟨m,l⟩ ⟨hm,hI⟩
  simp only at hm hI
  refine dh (aj:={ d:=bG }) ?_
  refine aV (fun ZT ZW ZQ _ ZA _=>(((((bs l).toList==(ByteArray.mk #[]).toList||decide ((↑m:Int)>0))=true)→(((I64 (48+((↑m:Int)).tmod 10))∧BytesAt 1 (aW false 1 [(.con (.int .u8 (IntKind.u8.wrap (48+((↑m:Int)).tmod 10))))])∧((ByteArray.mk (bytesOf 1 (aW false 1 [DV.con (Value.int IntKind.u8 (IntKind.u8.wrap (48+((↑m:Int)).tmod 10)))])).toArray).size+(bs l).size≤9223372036854775807))∧(CS ↑m)∧(ZA (aB ZT [0]))))∧((((bs l).toList==(ByteArray.mk #[]).toList||decide ((↑m:Int)>0))=false)→ZW [cd Tryz.f68 [1,1,1]] (aB ZT [1]) ZQ))) (by kernel_rfl) ?_
  have hll:l.length≤21:=by
   rcases hI with ⟨rfl,_⟩|⟨_,hI⟩
   ·exact Nat.zero_le _
   ·rw[←hI,List.length_append] at hP;omega
  have el:(ByteArray.toList (bs l)==ByteArray.toList { data:=#[] })=decide (l=[]):=by
   rw[Bool.eq_iff_iff,beq_iff_eq,eF,toList_inj]
   constructor
   ·intro h
    have:=congrArg ByteArray.size h
    rw[eX] at this
    exact List.length_eq_zero_iff.1 this
   ·rintro rfl;rfl
  rw[el]
  refine⟨fun h=>?_,fun h=>?_⟩
  ·have h2:m % 10<10:=Nat.mod_lt _ (by decide)
   have e:(48:Int)+Int.tmod (m:Int) 10=((48+m % 10:Nat):Int):=by push_cast;rfl
   rw[e,Jo _ (by omega)]
   have e5:((48+m % 10:Nat):Int)=((UInt8.ofNat (48+m % 10)).toNat:Int):=by
    simp only[UInt8.toNat_ofNat'];omega
   have e4:(⟨(bytesOf 1 (aW false 1 [DV.con (Value.int IntKind.u8 ((48+m % 10:Nat):Int))])).toArray⟩:ByteArray)=bs [UInt8.ofNat (48+m % 10)]:=by rw[L8 _ _ e5];rfl
   rw[e4]
   refine⟨⟨⟨by omega,by omega⟩,Gx _ _ e5,?_⟩,⟨by omega,by omega⟩,Again.mk (m / 10,UInt8.ofNat (48+m % 10) :: l) ?_ ⟨by simp only;omega,.inr ⟨by simp,?_⟩⟩ ?_⟩
   ·rw[eX,eX,List.length_singleton];omega
   ·refine AS.leZ [0,1] [] (b:=((((vi (((↑m:Int)).tdiv 10)):AV)=(vi (↑(m / 10)))∧((vs (ByteArray.mk (bytesOf 1 (aW false 1 [DV.con (Value.int IntKind.u8 (IntKind.u8.wrap (48+((↑m:Int)).tmod 10)))])).toArray++bs l)):AV)=(vs (bs (UInt8.ofNat (48+m % 10) :: l)))∧True)∧True)) (by kernel_rfl) (by kernel_rfl) ?_
    rw[e,Jo _ (by omega),e4,wG,List.singleton_append]
    exact⟨⟨rfl,rfl,trivial⟩,trivial⟩
   ·have hp:l=[]∨0<m:=by simpa using h
    simp only
    rcases hI with ⟨rfl,rfl⟩|⟨hl,hI⟩
    ·exact Ld m
    ·have hp:m≠0:=by rcases hp with h|h;exact absurd h hl;omega
     rw[←hI,Bz hp,List.append_assoc];rfl
   ·have hp:l=[]∨0<m:=by simpa using h
    simp only[TM]
    rw[if_neg (by simp)]
    rcases hp with rfl|hp
    ·rw[if_pos rfl];omega
    ·omega
  ·have hp:¬l=[]∧m=0:=by simpa using h
   obtain ⟨hl,rfl⟩:=hp
   rcases hI with ⟨h,_⟩|⟨_,hI⟩
   ·exact absurd h hl
   rw[y9,List.nil_append] at hI
   refine dh (aj:={ d:=bG }) ?_
   refine aC (fun _ _ _ _=>(((ds (bs l)):DV)=(ds (bs (decP n))))) (by kernel_rfl) ?_
   rw[hI]
theorem f68 (n:Int) (h0:0≤n) (hn:n≤9223372036854775807):aA Tryz.prog G 68 [di n] (ds (bs (Lib.itoa n))):=by
 obtain ⟨m,rfl⟩:=Int.eq_ofNat_of_zero_le h0
 have:=adG (G:=G) m (by omega)
 rwa [zx] at this
end Go.Proofs
namespace Go.Proofs
open Go Go.Ab Go.RowKit
variable {G:IH}
def TK:dU:={ d:=fun f args=>match f,args with
 | 93,[.con (.int .i64 n)]=>some (ds (bs (Lib.itoa n)))
 | _,_=>none }
noncomputable def S60 (l:List ByteArray) (i:Nat):AS:=⟨regs Tryz.f60.ntmps [(0,.d (zI l)),(4,vs (bs (bM (l.take i)))),(5,vi i)],[]⟩
theorem f60 (l:List ByteArray) (hl:rJ l):aA Tryz.prog G 60 [zI l] (.aN [ds (fG l),di (fH l)]):=by
 refine aA.walk (aj:=TK) (keep:=[]) follows Tryz.func60 rfl Tryz.call60 ?_
 refine aC (fun ZT ZW ZQ _=>((((decide ((↑l.length:Int)>4096))=true)→(((.aN [(ds (ByteArray.mk #[])),(di 8)]):DV)=(.aN [(ds (fG l)),(di (fH l))])))∧(((decide ((↑l.length:Int)>4096))=false)→ZW [cd Tryz.f60 [1,1,1,0,1,0],(.blk 0),cd Tryz.f60 [1,1,1,1]] (aB ZT [1]) ZQ))) (by kernel_rfl) ?_
 have hll:=hl.1
 refine⟨fun h=>?_,fun h=>?_⟩
 ·have hb:jg l=true:=by
   unfold jg
   simp at h⊢
   omega
  unfold fG fH
  rw[hb];rfl
 have h4:l.length≤4096:=by simp at h;omega
 refine aX.loop (c:=aU (au Tryz.f60) [1,1,1,0,1,0,0]) (by kernel_rfl) (S60 l) (fun i=>i≤l.length∧(bM (l.take i)).length≤200022) (fun i=>l.length-i) 0 ?_ ⟨Nat.zero_le _,by simp[bM]⟩ ?_
 ·refine AS.leZ [1] [] (b:=((T0∧((vs (ByteArray.mk #[])):AV)=(vs (bs (bM (List.take 0 l))))∧T0∧True)∧True)) (by kernel_rfl) (by kernel_rfl) ?_
  exact⟨⟨rfl,rfl,rfl,trivial⟩,trivial⟩
 ·rintro i ⟨hi,hpi⟩
  refine dh (aj:=TK) ?_
  refine aV (fun ZT ZW ZQ ZK ZA _=>(fun Za Zb=>((((decide ((↑i:Int)<↑l.length))=true)→((((0≤(↑i:Int))∧((↑i:Int)<↑l.length))∧(I64 (↑(bs (bM (List.take i l))).size + ↑(iq l (↑i:Int).toNat).size)))∧((Zb=true)→(((.aN [(ds (ByteArray.mk #[])),(di 8)]):DV)=(.aN [(ds (fG l)),(di (fH l))])))∧((Zb=false)→((((0≤(↑i:Int))∧((↑i:Int)<↑l.length))∧ZK 93 [(di (↑(iq l (↑i:Int).toNat).size))] (ds (bs Za))∧((bs (bM (List.take i l))).size+(bs Za).size≤9223372036854775807)∧((bs (bM (List.take i l))++bs Za).size+(ByteArray.mk #[58]).size≤9223372036854775807)∧((0≤(↑i:Int))∧((↑i:Int)<↑l.length))∧((bs (bM (List.take i l))++bs Za++ByteArray.mk #[58]).size+(iq l (↑i:Int).toNat).size≤9223372036854775807))∧(I64 (↑i+1))∧(ZA (aB ZT [0,1]))))))∧(((decide ((↑i:Int)<↑l.length))=false)→ZW [cd Tryz.f60 [1,1,1,1]] (aB ZT [1]) ZQ))) (Lib.itoa ↑(iq l (↑i:Int).toNat).size) (decide ((↑(bs (bM (List.take i l))).size:Int) + ↑(iq l (↑i:Int).toNat).size>30000))) (by kernel_rfl) ?_
  try dsimp only
  simp only[gW]
  refine⟨fun h=>?_,fun h=>?_⟩
  ·have hi':i<l.length:=by simpa using h
   have h1:=hl.at hi'
   have h2:=iH ((iq l i).size:Int) ⟨by omega,by omega⟩
   have aeu:(bM l).length=(bM (l.take i)).length+(lQ (iq l i)).length+(bM (l.drop (i+1))).length:=by
    have e:bM l=bM (l.take (i+1))++bM (l.drop (i+1)):=by rw[←Ei,List.take_append_drop]
    rw[e,jO hi',List.length_append,List.length_append]
   rw[qK] at aeu
   rw[eX]
   refine⟨⟨⟨by omega,by omega⟩,by omega,by omega⟩,fun h=>?_,fun h=>?_⟩
   ·have hb:jg l=true:=by
     unfold jg
     simp at h⊢
     omega
    unfold fG fH
    rw[hb];rfl
   ·have h:(bM (l.take i)).length+(iq l i).size≤30000:=by simp at h;omega
    have k93:=aep (G:=G) (iq l i).size (by omega)
    rw[zx] at k93
    have e58:({ data:=#[58] }:ByteArray).size=1:=rfl
    rw[eX]
    refine⟨⟨⟨by omega,by omega⟩,k93,by omega,?_,⟨by omega,by omega⟩,?_⟩,⟨by omega,by omega⟩,Again.mk (i+1) ?_ ⟨by omega,?_⟩ (by omega)⟩
    ·rw[QW,eX,eX,e58];omega
    ·rw[QW,QW,eX,eX,e58];omega
    ·refine AS.leZ [1] [] (b:=((T0∧((vs (bs (bM (List.take i l))++bs (Lib.itoa ↑(iq l (↑i:Int).toNat).size)++ByteArray.mk #[58]++iq l (↑i:Int).toNat)):AV)=(vs (bs (bM (List.take (i+1) l))))∧T0∧True)∧True)) (by kernel_rfl) (by kernel_rfl) ?_
     refine⟨⟨rfl,?_,rfl,trivial⟩,trivial⟩
     have e1:bs (bM (l.take (i+1)))=bs (bM (l.take i))++bs (Lib.itoa ((iq l i).size:Int)) ++ { data:=#[58] }++iq l i:=by
      have e2:({ data:=#[58] }:ByteArray)=bs [58]:=rfl
      rw[jO hi',e2,wG,wG]
      conv=>rhs;rw[←Me (iq l i)]
      rw[wG]
      unfold lQ
      simp only[List.append_assoc,Me]
     rw[e1]
     rfl
    ·rw[jO hi',List.length_append,qK];omega
  ·have:i=l.length:=by simp at h;omega
   subst this
   rw[List.take_length] at hpi
   refine dh (aj:=TK) ?_
   refine aC (fun _ _ _ _=>((((decide ((↑(bs (bM (List.take l.length l))).size:Int)>30000))=true)→(((.aN [(ds (ByteArray.mk #[])),(di 8)]):DV)=(.aN [(ds (fG l)),(di (fH l))])))∧(((decide ((↑(bs (bM (List.take l.length l))).size:Int)>30000))=false)→(((.aN [(ds (bs (bM (List.take l.length l)))),(di 0)]):DV)=(.aN [(ds (fG l)),(di (fH l))]))))) (by kernel_rfl) ?_
   rw[eX,List.take_length]
   refine⟨fun h=>?_,fun h=>?_⟩
   ·have hb:jg l=true:=by
     unfold jg
     simp at h⊢
     omega
    unfold fG fH
    rw[hb];rfl
   ·have hb:jg l=false:=by
     unfold jg
     simp at h⊢
     omega
    unfold fG fH
    rw[hb];rfl
theorem Vb {e:Ev} (h:aG e=true):(0≤e.kind∧e.kind≤3)∧(1≤e.k.n∧e.k.n≤1000000)∧(0≤e.t∧e.t≤1099511627776)∧(0≤e.v∧e.v≤1099511627776)∧(0≤e.h∧e.h≤1099511627776):=by
 unfold aG Dj at h
 simp only[aY,eF] at h
 obtain ⟨h1,h2,⟨_,_,h3,h4⟩,h5,h6,h7,h8⟩:=h
 refine⟨⟨by omega,by omega⟩,⟨by omega,by omega⟩,⟨by omega,by omega⟩,?_⟩
 by_cases c:e.kind=1
 ·rw[if_pos c] at h8
  simp only[aY,eF] at h8
  obtain ⟨a1,a2,a3,a4,_⟩:=h8
  exact⟨⟨by omega,by omega⟩,⟨by omega,by omega⟩⟩
 ·rw[if_neg c] at h8
  simp only[aY,eF] at h8
  obtain ⟨a1,a2,_⟩:=h8
  rw[a1,a2]
  exact⟨⟨by decide,by decide⟩,⟨by decide,by decide⟩⟩
def Zq (ok:Bool):iR:=fun f a=>match f,a with
 | 68,[.con (.int .i64 n)]=>some (ds (bs (Lib.itoa n)))
 | 19,_=>some (db ok)
 | 60,[l]=>some (.aN [ds (fG (xL rZ l)),di (fH (xL rZ l))])
 | _,_=>none
def abS (ok:Bool):dU:={ d:=Zq ok,rows:=fun n=>Nat.beq n 35 }
theorem aec {e:Ev} (h:aG e=true) (f:Nat→DV) (hf:∀i,i<9→f i=Ec (iT e) i):aA Tryz.prog G 60 [.slc 1 9 f] (.aN [ds (fG (iT e)),di (fH (iT e))]):=
 aA.args (f60 (iT e) (Jl h)) fun _ us hh=>DV.gU (fun _ hv=>DV.fE hf hv) (fun _ h=>h) us hh
theorem f39 (e:Ev) (h1:e.k.st.size≤1000000) (h2:e.k.ex.size≤1000000):aA Tryz.prog G 39 [ig e] (.aN [ds (encS e),di (og e)]):=by
 refine aA.qQ (aj:=abS (aG e)) (keep:=[]) follows Tryz.func39 rfl Tryz.call39 ?_
 refine aC (fun _ _ _ ZK=>(fun Za Zb=>(ZK 19 [(.agg [(di e.kind),(ds e.k.st),(ds e.k.ex),(di e.k.n),(di e.t),(di e.v),(di e.h),(ds e.s),(db e.acc)])] (db (aG e))∧(((!aG e)=true)→(((.aN [(ds (ByteArray.mk #[])),(di 1)]):DV)=(.aN [(ds (encS e)),(di (og e))])))∧(((!aG e)=false)→(((e.acc=true)→((ZK 68 [(di e.kind)] (ds (bs (Lib.itoa e.kind)))∧ZK 68 [(di e.k.n)] (ds (bs (Lib.itoa e.k.n)))∧ZK 68 [(di e.t)] (ds (bs (Lib.itoa e.t)))∧ZK 68 [(di e.v)] (ds (bs (Lib.itoa e.v)))∧ZK 68 [(di e.h)] (ds (bs (Lib.itoa e.h)))∧ZK 60 [(.slc 1 9 (fun i=>aW false 1 [ds (bs (Lib.itoa e.kind)),ds e.k.st,ds e.k.ex,ds (bs (Lib.itoa e.k.n)),ds (bs (Lib.itoa e.t)),ds (bs (Lib.itoa e.v)),ds (bs (Lib.itoa e.h)),ds e.s,ds (ByteArray.mk #[49])] (0+i)))] (.aN [(ds (fG Za)),(di (fH Za))]))∧((.aN [(ds (fG Za)),(di (fH Za))]):DV)=(.aN [(ds (encS e)),(di (og e))])))∧((e.acc=false)→((ZK 68 [(di e.kind)] (ds (bs (Lib.itoa e.kind)))∧ZK 68 [(di e.k.n)] (ds (bs (Lib.itoa e.k.n)))∧ZK 68 [(di e.t)] (ds (bs (Lib.itoa e.t)))∧ZK 68 [(di e.v)] (ds (bs (Lib.itoa e.v)))∧ZK 68 [(di e.h)] (ds (bs (Lib.itoa e.h)))∧ZK 60 [(.slc 1 9 (fun i=>aW false 1 [ds (bs (Lib.itoa e.kind)),ds e.k.st,ds e.k.ex,ds (bs (Lib.itoa e.k.n)),ds (bs (Lib.itoa e.t)),ds (bs (Lib.itoa e.v)),ds (bs (Lib.itoa e.h)),ds e.s,ds (ByteArray.mk #[48])] (0+i)))] (.aN [(ds (fG Zb)),(di (fH Zb))]))∧((.aN [(ds (fG Zb)),(di (fH Zb))]):DV)=(.aN [(ds (encS e)),(di (og e))]))))))) (xL rZ (DV.slc 1 9 fun i=>aW false 1 [ds (bs (Lib.itoa e.kind)),ds e.k.st,ds e.k.ex,ds (bs (Lib.itoa e.k.n)),ds (bs (Lib.itoa e.t)),ds (bs (Lib.itoa e.v)),ds (bs (Lib.itoa e.h)),ds e.s,ds (ByteArray.mk #[49])] (0+i))) (xL rZ (DV.slc 1 9 fun i=>aW false 1 [ds (bs (Lib.itoa e.kind)),ds e.k.st,ds e.k.ex,ds (bs (Lib.itoa e.k.n)),ds (bs (Lib.itoa e.t)),ds (bs (Lib.itoa e.v)),ds (bs (Lib.itoa e.h)),ds e.s,ds (ByteArray.mk #[48])] (0+i)))) (by kernel_rfl) ?_
 refine⟨f19 e h1 h2,fun c=>?_,fun c=>?_⟩
 ·have c:aG e=false:=by simpa using c
  unfold encS og
  rw[c];rfl
 ·have c:aG e=true:=by simpa using c
  obtain ⟨⟨b1,b1'⟩,⟨b2,b2'⟩,⟨b3,b3'⟩,⟨b4,b4'⟩,b5,b5'⟩:=Vb c
  have hS:encS e=fG (iT e):=by unfold encS;rw[c];rfl
  have hE:og e=fH (iT e):=by unfold og;rw[c];rfl
  have hl:∀f:Nat→DV,(∀i,i<9→f i=Ec (iT e) i)→xL rZ (.slc 1 9 f)=iT e:=fun f hf=>by
   have:xL rZ (.slc 1 9 f)=xL rZ (zI (iT e)):=by
    unfold xL
    exact List.map_congr_left fun i hi=>by rw[hf i (List.mem_range.1 hi)]
   rw[this,P6]
  refine⟨fun ca=>?_,fun ca=>?_⟩
  all_goals
   have hf:∀i,i<9→(fun i=>aW false 1 [ds (bs (Lib.itoa e.kind)),ds e.k.st,ds e.k.ex,ds (bs (Lib.itoa e.k.n)),ds (bs (Lib.itoa e.t)),ds (bs (Lib.itoa e.v)),ds (bs (Lib.itoa e.h)),ds e.s,ds (bif e.acc then ⟨#[49]⟩ else ⟨#[48]⟩)] (0+i)) i=Ec (iT e) i:=fun i hi=>by
    match i,hi with
    | 0,_=>rfl
    | 1,_=>rfl
    | 2,_=>rfl
    | 3,_=>rfl
    | 4,_=>rfl
    | 5,_=>rfl
    | 6,_=>rfl
    | 7,_=>rfl
    | 8,_=>rfl
   rw[ca] at hf
   have hl:=hl _ hf
   have h60:=aec (G:=G) c _ hf
   rw[hS,hE]
   simp only[cond_true,cond_false] at hl h60
   rw[hl]
   exact⟨⟨f68 _ b1 (by omega),f68 _ (by omega) (by omega),f68 _ b3 (by omega),f68 _ b4 (by omega),f68 _ b5 (by omega),h60⟩,rfl⟩
noncomputable def S31 (b:Bk) (j:Nat) (l:List ByteArray):AS:=⟨regs Tryz.f31.ntmps [(2,vs ⟨#[]⟩),(3,vi 0),(4,.d (eu (ak b))),(5,.vec 904 1 0 l.length),(6,vi j)],[(904,[.arr TV 1 (oG l)])]⟩
noncomputable def ads (b:Bk):AS:=⟨regs Tryz.f31.ntmps [(2,vs ⟨#[]⟩),(3,vi 0),(4,.d (eu (ak b))),(5,.vec 904 1 0 0),(6,vi 0)],[(904,[.arr TV 1 (fun _=>.con undef)])]⟩
def abj (b:Bk) (S:ByteArray) (E:Int) (l:List ByteArray):iR:=fun f _=>match f with
 | 33=>some (db (aJ aG b))
 | 59=>some (eu (ak b))
 | 39=>some (.aN [ds S,di E])
 | 60=>some (.aN [ds (fG l),di (fH l)])
 | _=>none
def Nu (b:Bk) (S:ByteArray) (E:Int) (l:List ByteArray):dU:={ d:=abj b S E l,rows:=fun n=>Nat.beq n 14||Nat.beq n 31 }
theorem f31 (b:Bk) (h:tY b) (CQ:aA Tryz.prog G 33 [cu b] (db (aJ aG b))):aA Tryz.prog G 31 [cu b] (.aN [ds (mX b),di (mQ b)]):=by
 refine aA.dA Tryz.func31 rfl Tryz.call31 ?_
 refine gK (aj:=Nu b .empty 0 []) (cuts:=[6]) ?_
 refine aC (fun ZT ZW ZQ ZK=>(ZK 33 [(.agg [(di b.t),(.slc 7 b.es.length (bK b.es))])] (db (aJ aG b))∧(((!aJ aG b)=true)→(((.aN [(ds (ByteArray.mk #[])),(di 1)]):DV)=(.aN [(ds (mX b)),(di (mQ b))])))∧(((!aJ aG b)=false)→(ZK 59 [(.agg [(di b.t),(.slc 7 b.es.length (bK b.es))])] (.slc 9 (ak b).length (bW (ak b)))∧ZW [cd Tryz.f31 [1,1,1,1,0,1,0],(.blk 0),cd Tryz.f31 [1,1,1,1,1]] (aB ZT [1]) ZQ)))) (by kernel_rfl) ?_
 refine⟨CQ,fun c=>?_,fun c=>⟨f59 b h.sz h.all,?_⟩⟩
 ·have c:aJ aG b=false:=by simpa using c
  unfold mX mQ
  rw[c];rfl
 have c:aJ aG b=true:=by simpa using c
 have hl:=h.evs
 have hok:∀j,j<(ak b).length→aG ((ak b).getD j ev0)=true:=fun j hj=>by
  refine val_ok c _ ((ng _).1 ?_)
  rw[List.getD,gy hj]
  exact List.getElem_mem hj
 have hall:=JL c
 have hel:(ak b).length≤12544:=by unfold ak;rw[qF];exact hall
 have hsm:rJ (eH b):=by
  refine⟨by unfold eH;rw[List.length_map];omega,fun f hf=>?_⟩
  obtain ⟨e,he,rfl⟩:=List.mem_map.1 hf
  obtain ⟨_,q1,q2⟩:=IZ (val_ok c e ((ng _).1 he))
  rw[q1,eX];omega
 unfold mX mQ
 rw[if_pos c,if_pos c]
 refine aX.pre ((AS.cO.moves [(14,904)] _ rfl).trans ((AS.cO.of_le (st':=ads b) ?_).trans ((AS.cO.l9 _ 5 904 0 (oG []) rfl rfl rfl (by kernel_rfl) fun i hi=>absurd hi (Nat.not_lt_zero i)).trans (.of_le (st':=S31 b 0 []) ?_)))) ?_
 ·exact AS.bD (by kernel_rfl)
 ·exact AS.bD (by kernel_rfl)
 refine aX.loop (c:=aU (au Tryz.f31) [1,1,1,1,0,1,0,0]) (by kernel_rfl) (fun j=>S31 b j ((eH b).take j)) (fun j=>j≤(ak b).length) (fun j=>(ak b).length-j) 0 ?_ (Nat.zero_le _) ?_
 ·refine AS.leZ [] [0] (b:=((T0∧T0∧T0∧T0∧T0∧True)∧((some [(.arr ⟨false,9,false,none⟩ 1 (oG []))]):dS)=(some [(.arr ⟨false,9,false,none⟩ 1 (oG (List.take 0 (eH b))))])∧True)) (by kernel_rfl) (by kernel_rfl) ?_
  exact⟨⟨rfl,rfl,rfl,rfl,rfl,trivial⟩,rfl,trivial⟩
 intro j hj
 by_cases h2:j<(ak b).length
 ·have hok:=hok j h2
  obtain ⟨e0,_,_⟩:=IZ hok
  obtain ⟨z1,z2⟩:=Es hok
  have h39:=f39 (G:=G) ((ak b).getD j ev0) (by omega) (by omega)
  have htk:(eH b).take (j+1)=(eH b).take j++[encS ((ak b).getD j ev0)]:=IU h2
  have htl:((eH b).take j).length≤12544:=by rw[List.length_take];omega
  generalize Vy:(eH b).take j=L at htl htk⊢
  refine dZ (aj:=Nu b (encS ((ak b).getD j ev0)) (og ((ak b).getD j ev0)) []) ?_
  refine aV (fun ZT ZW ZQ ZK ZA _=>(fun Za=>((((decide ((↑j:Int)<↑(ak b).length))=true)→((((0≤(↑j:Int))∧((↑j:Int)<↑(ak b).length))∧ZK 39 [(.agg [(di Za.kind),(ds Za.k.st),(ds Za.k.ex),(di Za.k.n),(di Za.t),(di Za.v),(di Za.h),(ds Za.s),(db Za.acc)])] (.aN [(ds (encS ((ak b).getD j ev0))),(di (og ((ak b).getD j ev0)))]))∧(((L.length+1)*16≤1099511627776)∧(L.length+1≤1099511627776))∧(I64 (↑j+1))∧(ZA (aB ZT [0]))))∧(((decide ((↑j:Int)<↑(ak b).length))=false)→ZW [cd Tryz.f31 [1,1,1,1,1]] (aB ZT [1]) ZQ))) ((ak b).getD (↑j:Int).toNat ev0)) (by kernel_rfl) ?_
  try dsimp only
  rw[show ((j:Int)).toNat=j from rfl]
  refine⟨fun _=>⟨⟨⟨by omega,by omega⟩,h39⟩,⟨by omega,by omega⟩,⟨by omega,by omega⟩,Again.X4 [(32,904)] rfl (j+1) ?_ h2 (by omega)⟩,fun hd=>absurd (of_decide_eq_false hd) (by omega)⟩
  refine AS.leZ [3] [0] (b:=((T0∧T0∧T0∧((.vec 904 1 0 (L.length+1)):AV)=(.vec 904 1 0 (List.take (j+1) (eH b)).length)∧T0∧True)∧((some [(.arr ⟨false,9,false,none⟩ 1 (fun i=>bif i.blt L.length then oG L i else aW false 1 [ds (encS ((ak b).getD j ev0))] (0+(i-L.length))))]):dS)=(some [(.arr ⟨false,9,false,none⟩ 1 (oG (List.take (j+1) (eH b))))])∧True)) (by kernel_rfl) (by kernel_rfl) ?_
  rw[htk]
  refine⟨⟨rfl,rfl,rfl,?_,rfl,trivial⟩,?_,trivial⟩
  ·rw[List.length_append];rfl
  ·simp only[Nat.zero_add]
   rw[PO]
 ·obtain rfl:j=(ak b).length:=by omega
  rw[List.take_of_length_le (by unfold eH;rw[List.length_map];exact Nat.le_refl _)]
  refine gK (aj:=Nu b .empty 0 []) (cuts:=[8]) ?_
  refine aV (fun ZT ZW ZQ _ _ ZR=>((((decide ((↑(ak b).length:Int)<↑(ak b).length))=true)→ZW [cd Tryz.f31 [1,1,1,1,0,1,0,0,1,0,0],(.blk 1),cd Tryz.f31 [1,1,1,1,0,1,0,0,1,1]] (aB ZT [0]) ZR)∧(((decide ((↑(ak b).length:Int)<↑(ak b).length))=false)→ZW [cd Tryz.f31 [1,1,1,1,1]] (aB ZT [1]) ZQ))) (by kernel_rfl) ?_
  refine⟨fun hd=>absurd (dn hd) (by omega),fun _=>?_⟩
  refine dZ (aj:=Nu b .empty 0 (eH b)) ?_
  refine aC (fun _ _ _ ZK=>(ZK 60 [(.slc 1 (eH b).length (fun i=>oG (eH b) (0+i)))] (.aN [(ds (fG (eH b))),(di (fH (eH b)))])∧(ZS ((.aN [(ds (fG (eH b))),(di (fH (eH b)))]):DV)))) (by kernel_rfl) ?_
  exact⟨aA.args (f60 (eH b) hsm) fun _ us hh=>DV.gU (fun _ hv=>LD _ (DV.fE (fun i _=>by rw[Nat.zero_add]) hv)) (fun _ h=>h) us hh,rfl⟩
def rB (b:Bk) (e:Ev):Bk:=if jm b e=0 then gQ b e else fA
def PU (G:IH):Prop:=∀b e,gq b.es→rH b.es→aG e=true→aA Tryz.prog G 46 [cu b,ig e] (.aN [cu (rB b e),di (jm b e)])
noncomputable def S61 (l:List Ev) (j:Nat) (b:Bk):AS:=⟨regs Tryz.f61.ntmps [(0,.d (eu l)),(2,.box 2 0),(3,vb false),(4,.box 4 0),(5,vi j)],[(2,[.d (di 0),.d (.con (.slice none 0 0))]),(4,(fQ b).map .d)]⟩
noncomputable def adL (l:List Ev):AS:=⟨regs Tryz.f61.ntmps [(0,.d (eu l)),(2,.box 2 0),(3,vb false),(4,.box 4 0),(5,vi 0)],[(2,[.d (di 0),.d (.con (.slice none 0 0))]),(4,[.d (di 0),.d (.con (.slice none 0 0))])]⟩
def acu (b:Bk) (e:Ev):dU:={ d:=fun f _=>bif Nat.beq f 19 then some (db (aG e)) else bif Nat.beq f 50 then some (db (xu b.es e)) else bif Nat.beq f 46 then some (.aN [cu (rB b e),di (jm b e)]) else none }
def Mc (l:List Ev):DV:=match gB aG l fA with
 | some b=>.aN [cu b,db true]
 | none=>.aN [.agg [di 0,.con (.slice none 0 0)],db false]
theorem Uu {l:List Ev} {j:Nat} {b:Bk} (hj:j<l.length) (h:gB aG (l.take j) fA=some b) (hn:¬(aG (l.getD j ev0)=true∧dL b (l.getD j ev0)=0)):gB aG l fA=none:=by
 cases hr:gB aG l fA with
 | none=>rfl
 | some c=>
  exfalso
  have e:l=l.take j++(l.getD j ev0 :: l.drop (j+1)):=by
   rw[List.getD,gy hj]
   show l=l.take j++(l[j] :: l.drop (j+1))
   rw[←List.drop_eq_getElem_cons hj,List.take_append_drop]
  rw[e] at hr
  obtain ⟨c1,h1,h2⟩:=x9.1 hr
  rw[h] at h1
  cases h1
  exact hn (jV.1 h2).1
theorem VO {l:List Ev} {j:Nat} {b:Bk} (hj:j<l.length) (h:gB aG (l.take j) fA=some b) (h1:aG (l.getD j ev0)=true) (h2:dL b (l.getD j ev0)=0):gB aG (l.take (j+1)) fA=some (gQ b (l.getD j ev0)):=by
 rw[List.take_succ_eq_append_getElem hj]
 refine x9.2 ⟨b,h,?_⟩
 have e:l.getD j ev0=l[j]:=by rw[List.getD,gy hj];rfl
 rw[←e]
 exact OG.2 ⟨⟨h1,h2⟩,rfl⟩
theorem ad5 (h46:PU G) (l:List Ev) (hl:l.length≤1000000) (hs:∀e∈l,e.k.st.size≤1000000∧e.k.ex.size≤1000000):aA Tryz.prog G 61 [eu l] (Mc l):=by
 refine aA.dA Tryz.func61 rfl Tryz.call61 ?_
 refine dZ (aj:={ d:=bG }) ?_
 refine aC (fun ZT ZW ZQ _=>ZW [cd Tryz.f61 [1,1,0,1,0],(.blk 0),cd Tryz.f61 [1,1,1]] (aB ZT []) ZQ) (by kernel_rfl) ?_
 refine aX.weaken (st':=adL l) ?_ ?_
 ·exact AS.bD (by kernel_rfl)
 refine aX.pre (.cell _ 4 1 (.d (jI [])) (l:=[.d (di 0),.d (.con (.slice none 0 0))]) rfl rfl rfl fun β h v hv=>?_) ?_
 ·have hv:v=.slice none 0 0:=hv
  subst hv
  exact⟨none,0,rfl,Nat.le_refl _,.inl rfl⟩
 refine aX.loop (c:=aU (au Tryz.f61) [1,1,0,1,0,0]) (by kernel_rfl) (fun x:Nat×Bk=>S61 l x.1 x.2) (fun x=>x.1≤l.length∧gB aG (l.take x.1) fA=some x.2) (fun x=>l.length-x.1) (0,fA) ?_ ⟨Nat.zero_le _,rfl⟩ ?_
 ·exact AS.bD (by kernel_rfl)
 rintro ⟨j,b⟩ ⟨hj,hr⟩
 have hj:j≤l.length:=hj
 have hr:gB aG (l.take j) fA=some b:=hr
 have hg:Good b:=yS Iw hr
 have hb:rH b.es:=yB (fun i h=>by cases h) hr
 have hz:=DC hg hb
 by_cases h2:j<l.length
 ·refine dZ (aj:=acu b (l.getD j ev0)) ?_
  refine aV (fun ZT ZW ZQ ZK ZA _=>(fun Za=>((((decide ((↑j:Int)<↑l.length))=true)→((((0≤(↑j:Int))∧((↑j:Int)<↑l.length))∧ZK 19 [Za] (db (aG (l.getD j ev0)))∧(((!!aG (l.getD j ev0))=true)→((0≤(↑j:Int))∧((↑j:Int)<↑l.length)))∧(((!!aG (l.getD j ev0))=true)→ZK 50 [(.agg [(di b.t),(.slc 7 b.es.length (bK b.es))]),Za] (db (xu b.es (l.getD j ev0)))))∧(((!aG (l.getD j ev0)||xu b.es (l.getD j ev0))=true)→(((.aN [(.agg [(di 0),dG]),(db false)]):DV)=(Mc l)))∧(((!aG (l.getD j ev0)||xu b.es (l.getD j ev0))=false)→((((0≤(↑j:Int))∧((↑j:Int)<↑l.length))∧ZK 46 [(.agg [(di b.t),(.slc 7 b.es.length (bK b.es))]),Za] (.aN [(.agg [(di (rB b (l.getD j ev0)).t),(.slc 7 (rB b (l.getD j ev0)).es.length (bK (rB b (l.getD j ev0)).es))]),(di (jm b (l.getD j ev0)))]))∧(((jm b (l.getD j ev0) != 0)=true)→(((.aN [(.agg [(di 0),dG]),(db false)]):DV)=(Mc l)))∧(((jm b (l.getD j ev0) != 0)=false)→((I64 (↑j+1))∧(ZA (aB ZT [0,1,1]))))))))∧(((decide ((↑j:Int)<↑l.length))=false)→ZW [cd Tryz.f61 [1,1,1]] (aB ZT [1]) ZQ))) ((.agg [(di (l.getD (↑j:Int).toNat ev0).kind),(ds (l.getD (↑j:Int).toNat ev0).k.st),(ds (l.getD (↑j:Int).toNat ev0).k.ex),(di (l.getD (↑j:Int).toNat ev0).k.n),(di (l.getD (↑j:Int).toNat ev0).t),(di (l.getD (↑j:Int).toNat ev0).v),(di (l.getD (↑j:Int).toNat ev0).h),(ds (l.getD (↑j:Int).toNat ev0).s),(db (l.getD (↑j:Int).toNat ev0).acc)]):DV)) (by kernel_rfl) ?_
  try dsimp only
  rw[show ((j:Int)).toNat=j from rfl]
  have hse:=hs _ (LV h2)
  have hst:=Uu (l:=l) h2 hr
  have hnx:=VO (l:=l) h2 hr
  generalize l.getD j ev0=e at *
  have hnone:¬(aG e=true∧dL b e=0)→DV.aN [.agg [di 0,.con (.slice none 0 0)],db false]=Mc l:=fun hn=>by
   unfold Mc;rw[hst hn]
  refine⟨fun _=>⟨⟨⟨by omega,by omega⟩,f19 e hse.1 hse.2,fun _=>⟨by omega,by omega⟩,fun _=>f50 b e hz⟩,fun c=>hnone ?_,fun c=>?_⟩,fun hd=>absurd (of_decide_eq_false hd) (by omega)⟩
  ·rintro ⟨q1,q2⟩
   rw[q1,Bool.not_true,Bool.false_or] at c
   have q3:e∈bn b.es:=dn c
   have q4:dL b e=6:=by unfold dL;rw[if_pos ((FT hg e).2 q3)]
   rw[q4] at q2;exact absurd q2 (by decide)
  ·obtain ⟨c1,c2⟩:=Bool.or_eq_false_iff.1 c
   have ok:aG e=true:=by simpa using c1
   have hni:e∉bn b.es:=of_decide_eq_false c2
   have hh:hasB b.es e=false:=by
    rw[Bool.eq_false_iff];exact fun q=>hni ((FT hg e).1 q)
   have ha:=RJ (ny ok) hg.few hb hh
   refine⟨⟨⟨by omega,by omega⟩,h46 b e hz hb ok⟩,fun c3=>hnone ?_,fun c3=>?_⟩
   ·have c3:jm b e≠0:=by simpa using c3
    rw[←ha]
    exact fun q=>c3 q.2
   ·have c3:jm b e=0:=by simpa using c3
    have hB:rB b e=gQ b e:=by unfold rB;rw[if_pos c3]
    refine⟨⟨by omega,by omega⟩,Again.mk (j+1,gQ b e) ?_ ⟨h2,hnx ok (by rw[←ha];exact c3)⟩ (by show l.length-(j+1)<l.length-j;omega)⟩
    refine AS.leZ [] [1] (b:=((T0∧T0∧T0∧T0∧T0∧True)∧T0∧((some [(vi (rB b e).t),(.d (.slc 7 (rB b e).es.length (bK (rB b e).es)))]):dS)=(some [(vi e.t),(.d (.slc 7 (dY b.es e).length (bK (dY b.es e))))])∧True)) (by kernel_rfl) (by kernel_rfl) ?_
    rw[hB]
    exact⟨⟨rfl,rfl,rfl,rfl,rfl,trivial⟩,rfl,rfl,trivial⟩
 ·obtain rfl:j=l.length:=by omega
  rw[List.take_length] at hr
  refine gK (aj:={ d:=bG }) (cuts:=[5]) ?_
  refine aV (fun ZT ZW ZQ _ _ ZR=>((((decide ((↑l.length:Int)<↑l.length))=true)→ZW [cd Tryz.f61 [1,1,0,1,0,0,1,0,0,0],cd Tryz.f61 [1,1,0,1,0,0,1,0,0,1],(.blk 1),cd Tryz.f61 [1,1,0,1,0,0,1,1]] (aB ZT [0]) ZR)∧(((decide ((↑l.length:Int)<↑l.length))=false)→ZW [cd Tryz.f61 [1,1,1]] (aB ZT [1]) ZQ))) (by kernel_rfl) ?_
  refine⟨fun hd=>absurd (dn hd) (by omega),fun _=>?_⟩
  refine dZ (aj:={ d:=bG }) ?_
  refine aC (fun _ _ _ _=>(((.aN [(.agg [(di b.t),(.slc 7 b.es.length (bK b.es))]),(db true)]):DV)=(Mc l))) (by kernel_rfl) ?_
  unfold Mc
  rw[hr]
def uS (l:List Ev):Bk:=(gB aG l fA).getD fA
theorem f61 (h46:PU G) (l:List Ev) (hl:l.length≤1000000) (hs:∀e∈l,e.k.st.size≤1000000∧e.k.ex.size≤1000000):aA Tryz.prog G 61 [eu l] (.aN [cu (uS l),db (gB aG l fA).isSome]):=by
 refine aA.imp (ad5 h46 l hl hs) fun k v hv=>?_
 unfold Mc at hv
 unfold uS
 cases hr:gB aG l fA with
 | some b=>rw[hr] at hv;exact hv
 | none=>
  rw[hr] at hv
  obtain ⟨vs,e,x0,u0,e0,h0,rest⟩:=hv
  refine⟨vs,e,x0,u0,e0,?_,rest⟩
  obtain ⟨ws,e1,y0,w0,e2,k0,y1,w1,e3,k1,k2⟩:=h0
  refine⟨ws,e1,y0,w0,e2,k0,y1,w1,e3,?_,k2⟩
  have k1:y1=.slice none 0 0:=k1
  subst k1
  exact⟨none,0,rfl,Nat.le_refl _,.inl rfl⟩
noncomputable def S33 (b:Bk) (j:Nat):AS:=⟨regs Tryz.f33.ntmps [(1,.box 1 0),(2,vb false),(3,vi j)],[(1,(fQ b).map .d)]⟩
def Nw (b:Bk):dU:={ d:=fun f _=>bif Nat.beq f 59 then some (eu (ak b)) else bif Nat.beq f 61 then some (.aN [cu (uS (ak b)),db (gB aG (ak b) fA).isSome]) else bif Nat.beq f 17 then some (db (decide (uS (ak b)=b))) else none }
theorem SI (b:Bk) (h:b.es.length≤256):((gB aG (ak b) fA).isSome&&decide (uS (ak b)=b))=aJ aG b:=by
 unfold aJ uS
 rw[decide_eq_true h,Bool.true_and]
 cases hr:gB aG (ak b) fA with
 | none=>rfl
 | some c=>
  rw[Bool.eq_iff_iff]
  simp
theorem f33 (h46:PU G) (b:Bk) (h:tY b):aA Tryz.prog G 33 [cu b] (db (aJ aG b)):=by
 have hz:=h.sz
 have hv:=YR (ok:=aG) (fun _=>ny) b
 refine aA.dA Tryz.func33 rfl Tryz.call33 ?_
 refine dZ (aj:=Nw b) ?_
 refine aC (fun ZT ZW ZQ _=>((((decide ((↑b.es.length:Int)>256))=true)→(((db false):DV)=(db (aJ aG b))))∧(((decide ((↑b.es.length:Int)>256))=false)→ZW [cd Tryz.f33 [1,1,0,1,0],(.blk 0),cd Tryz.f33 [1,1,1]] (aB ZT [1]) ZQ))) (by kernel_rfl) ?_
 refine⟨fun c=>?_,fun c=>?_⟩
 ·unfold aJ
  rw[decide_eq_false (by have:=dn c;omega),Bool.false_and]
 have hl:b.es.length≤256:=by have:=of_decide_eq_false c;omega
 refine aX.loop (c:=aU (au Tryz.f33) [1,1,0,1,0,0]) (by kernel_rfl) (fun j:Nat=>S33 b j) (fun j=>j≤b.es.length) (fun j=>b.es.length-j) 0 ?_ (Nat.zero_le _) ?_
 ·exact AS.bD (by kernel_rfl)
 intro j hj
 by_cases h2:j<b.es.length
 ·refine dZ (aj:=Nw b) ?_
  refine aV (fun ZT ZW ZQ _ ZA _=>(fun Za=>((((decide ((↑j:Int)<↑b.es.length))=true)→((((0≤(↑j:Int))∧((↑j:Int)<↑b.es.length))∧(((!decide ((↑(b.es.getD (↑j:Int).toNat en0).gs.length:Int)>16))=true)→((0≤(↑j:Int))∧((↑j:Int)<↑b.es.length))))∧((Za=true)→(((db false):DV)=(db (aJ aG b))))∧((Za=false)→((I64 (↑j+1))∧(ZA (aB ZT [0,1]))))))∧(((decide ((↑j:Int)<↑b.es.length))=false)→ZW [cd Tryz.f33 [1,1,1]] (aB ZT [1]) ZQ))) (decide ((↑(b.es.getD (↑j:Int).toNat en0).gs.length:Int)>16)||decide ((↑(b.es.getD (↑j:Int).toNat en0).ah.length:Int)>16))) (by kernel_rfl) ?_
  try dsimp only
  rw[show ((j:Int)).toNat=j from rfl]
  generalize hx:b.es.getD j en0=x
  refine⟨fun _=>⟨⟨⟨by omega,by omega⟩,fun _=>⟨by omega,by omega⟩⟩,fun c2=>?_,fun c2=>⟨⟨by omega,by omega⟩,Again.mk (j+1) ?_ h2 (by show b.es.length-(j+1)<b.es.length-j;omega)⟩⟩,fun hd=>absurd (of_decide_eq_false hd) (by omega)⟩
  ·have:aJ aG b=false:=by
    rw[←hv]
    unfold Wn
    rw[List.all_eq_false.2 ⟨x,?_,?_⟩,Bool.false_and,Bool.and_false]
    ·rw[←hx,List.getD,gy h2]
     exact List.getElem_mem h2
    ·unfold vI
     rw[Bool.or_eq_true,eF,eF] at c2
     intro q
     rw[aY,eF,eF] at q
     omega
   rw[this]
  ·exact AS.bD (by kernel_rfl)
 ·obtain rfl:j=b.es.length:=by omega
  refine gK (aj:=Nw b) (cuts:=[8]) ?_
  refine aV (fun ZT ZW ZQ _ ZA _=>(fun Za=>((((decide ((↑b.es.length:Int)<↑b.es.length))=true)→((((0≤(↑b.es.length:Int))∧((↑b.es.length:Int)<↑b.es.length))∧(((!decide ((↑Za.gs.length:Int)>16))=true)→((0≤(↑b.es.length:Int))∧((↑b.es.length:Int)<↑b.es.length))))∧(((decide ((↑Za.gs.length:Int)>16)||decide ((↑Za.ah.length:Int)>16))=true)→(((db false):DV)=(db (aJ aG b))))∧(((decide ((↑Za.gs.length:Int)>16)||decide ((↑Za.ah.length:Int)>16))=false)→((I64 (↑b.es.length+1))∧(ZA (aB ZT [0,1]))))))∧(((decide ((↑b.es.length:Int)<↑b.es.length))=false)→ZW [cd Tryz.f33 [1,1,1]] (aB ZT [1]) ZQ))) (b.es.getD (↑b.es.length:Int).toNat en0)) (by kernel_rfl) ?_
  refine⟨fun hd=>absurd (dn hd) (by omega),fun _=>?_⟩
  refine dZ (aj:=Nw b) ?_
  refine aC (fun _ _ _ ZK=>(fun Za=>((ZK 59 [(.agg [(di b.t),(.slc 7 b.es.length (bK b.es))])] (.slc 9 (ak b).length (bW (ak b)))∧ZK 61 [(.slc 9 (ak b).length (bW (ak b)))] (.aN [Za,(db (gB aG (ak b) fA).isSome)]))∧(((gB aG (ak b) fA).isSome=true)→ZK 17 [Za,(.agg [(di b.t),(.slc 7 b.es.length (bK b.es))])] (db (decide (uS (ak b)=b))))∧((db ((gB aG (ak b) fA).isSome&&decide (uS (ak b)=b))):DV)=(db (aJ aG b)))) ((.agg [(di (uS (ak b)).t),(.slc 7 (uS (ak b)).es.length (bK (uS (ak b)).es))]):DV)) (by kernel_rfl) ?_
  try dsimp only
  have hse:∀e∈ak b,e.k.st.size≤1000000∧e.k.ex.size≤1000000:=fun e he=>by
   obtain ⟨i,hi,rfl⟩:=List.mem_iff_getElem.1 he
   have:=h.str i
   rwa [List.getD,gy hi] at this
  refine⟨⟨f59 b hz h.all,f61 h46 (ak b) h.evs hse⟩,fun q=>f17 _ b ?_,congrArg db (SI b hl)⟩
  obtain ⟨c,hc⟩:=Option.isSome_iff_exists.1 q
  have hR:uS (ak b)=c:=by unfold uS;rw[hc];rfl
  rw[hR]
  exact DC (yS Iw hc) (yB (fun i h=>by cases h) hc)
end Go.Proofs
