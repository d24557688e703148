import Derived.Test.YtflgdeobcgmgnaaGreatDoorG0
import Derived.Lib.AtoiAllCases
import Derived.Shelf.LaysC
import Derived.Shelf.Strconv.AtoiAll
import Derived.Shelf.Strings.Search2
import Derived.Test.YtflgdeobcgmgnaaGreatDoorProg
import Derived.Test.YtflgdeobcgmgnaaGreatDoorAcD
import Derived.Test.YtflgdeobcgmgnaaGreatDoorG5
import Derived.WalkKit
import Derived.Test.YtflgdeobcgmgnaaGreatDoorAcE
import Derived.Test.YtflgdeobcgmgnaaGreatDoorRows
import Derived.Lib.LaidTab
import Derived.ProofKit
import Derived.LaidMore
import Derived.OpenShut
import Derived.Stop.Joined
import Derived.LaidLaws
/- Packing,plain: what unpacking finds. -/
set_option autoImplicit false
namespace Go.Proofs
open Go Go.Ab
abbrev colon:ByteArray:={ data:=#[58] }
def cutI (s:ByteArray):Int:=Lib.indexByte s.data.toList 58
def cutD (s:ByteArray):ByteArray:=if 0≤cutI s then s.extract 0 (cutI s).toNat else s
def cutR (s:ByteArray):ByteArray:=if 0≤cutI s then s.extract (cutI s+1).toNat s.size else { data:=#[] }
def cutB (s:ByteArray):Bool:=decide (0≤cutI s)
theorem cutI_lt (s:ByteArray):cutI s<s.size:=by
 rcases Int.lt_or_le (cutI s) 0 with h|h
 ·omega
 ·obtain ⟨n,hn⟩:=Int.eq_ofNat_of_zero_le h
  obtain ⟨h1,_⟩:=Lib.indexByte_some hn
  have:=(List.getElem?_eq_some_iff.1 h1).1
  rw[size_list] at this
  rw[hn];omega
def sizeN (s:ByteArray):Int:=match Lib.atoiAll s.data.toList with
 | .ok v=>v
 | .range=>Lib.atoiSat s.data.toList
 | _=>0
def sizeB (s:ByteArray):Bool:=match Lib.atoiAll s.data.toList with
 | .ok v=>decide (0≤v)&&decide (bs (Lib.itoa v)=s)
 | _=>false
def okU (s:ByteArray):Bool:=cutB s&&sizeB (cutD s)&&decide (sizeN (cutD s)≤(cutR s).size)
def fieldU (s:ByteArray):ByteArray:=(cutR s).extract 0 (sizeN (cutD s)).toNat
def restU (s:ByteArray):ByteArray:=(cutR s).extract (sizeN (cutD s)).toNat (cutR s).size
theorem okU_field {s:ByteArray} (h:okU s=true):s.data.toList=fieldL (fieldU s)++(restU s).data.toList:=by
 unfold okU at h
 rw[bAt,bAt] at h
 obtain ⟨⟨h1,h2⟩,h3⟩:=h
 have h1:0≤cutI s:=by simpa [cutB] using h1
 have h3:sizeN (cutD s)≤(cutR s).size:=by simpa using h3
 obtain ⟨k,hk⟩:=Int.eq_ofNat_of_zero_le h1
 obtain ⟨h4,_⟩:=Lib.indexByte_some (show Lib.indexByte s.data.toList 58=(k:Int) from hk)
 obtain ⟨h5,h6⟩:=List.getElem?_eq_some_iff.1 h4
 have hD:(cutD s).data.toList=s.data.toList.take k:=by
  unfold cutD
  rw[if_pos h1,hk,Int.toNat_natCast,extract_list,List.drop_zero,Nat.sub_zero]
 have hR:(cutR s).data.toList=s.data.toList.drop (k+1):=by
  unfold cutR
  rw[if_pos h1,hk,show Int.toNat ((k:Int)+1)=k+1 by omega,extract_list,List.take_of_length_le (by rw[List.length_drop,size_list];omega)]
 have hs:s.data.toList=s.data.toList.take k++([58]++s.data.toList.drop (k+1)):=by
  have e:s.data.toList.drop k=58 :: s.data.toList.drop (k+1):=by
   rw[List.drop_eq_getElem_cons h5,h6]
  rw[List.singleton_append,←e,List.take_append_drop]
 unfold sizeB at h2
 rcases ha:Lib.atoiAll (cutD s).data.toList with v|_|_
 rotate_left
 ·rw[ha] at h2;cases h2
 ·rw[ha] at h2;cases h2
 ·skip
  rw[ha] at h2
  simp only[bAt,decide_eq_true_eq] at h2
  obtain ⟨h7,h8⟩:=h2
  have hn:sizeN (cutD s)=v:=by unfold sizeN;rw[ha]
  rw[hn] at h3
  obtain ⟨n,rfl⟩:=Int.eq_ofNat_of_zero_le h7
  have hF:(fieldU s).data.toList=(s.data.toList.drop (k+1)).take n:=by
   unfold fieldU
   rw[hn,Int.toNat_natCast,extract_list,hR,List.drop_zero,Nat.sub_zero]
  have hRl:(s.data.toList.drop (k+1)).length=(cutR s).size:=by rw[←hR,size_list]
  have hFs:(fieldU s).size=n:=by
   rw[←size_list,hF,List.length_take,hRl];omega
  have hT:(restU s).data.toList=(s.data.toList.drop (k+1)).drop n:=by
   unfold restU
   rw[hn,Int.toNat_natCast,extract_list,hR,List.take_of_length_le (by rw[List.length_drop,hRl];omega)]
  have hI:Lib.itoa (n:Int)=s.data.toList.take k:=by
   rw[←hD,←h8,toList_bs]
  unfold fieldL
  rw[hFs,hI,hF,hT,List.append_assoc,List.append_assoc,List.take_append_drop]
  exact hs
theorem field_okU {f:ByteArray} {R:List UInt8} (hf:f.size≤900000):okU (bs (fieldL f++R))=true∧fieldU (bs (fieldL f++R))=f∧restU (bs (fieldL f++R))=bs R:=by
 obtain ⟨d1,d2,d3,d4,_⟩:=decDigits_all f.size
 have dl:=decDigits_len 5 f.size (by omega)
 have hX:fieldL f++R=Lib.decDigits f.size++([58]++(f.data.toList++R)):=by
  unfold fieldL;rw[itoa_nat];simp only[List.append_assoc]
 have hI:cutI (bs (fieldL f++R))=((Lib.decDigits f.size).length:Int):=by
  unfold cutI
  rw[toList_bs,hX]
  refine index_at ?_ fun k hk h=>?_
  ·rw[List.getElem?_append_right (Nat.le_refl _),Nat.sub_self];rfl
  ·rw[List.getElem?_append_left hk] at h
   have:=d1 58 (List.mem_of_getElem? h)
   exact absurd this.2 (by decide)
 have hD:cutD (bs (fieldL f++R))=bs (Lib.decDigits f.size):=by
  unfold cutD
  rw[if_pos (by omega),hI,Int.toNat_natCast,extract_bs,toList_bs,hX,List.drop_zero,Nat.sub_zero,List.take_left' rfl]
 have hR:cutR (bs (fieldL f++R))=bs (f.data.toList++R):=by
  unfold cutR
  rw[if_pos (by omega),hI,show Int.toNat (((Lib.decDigits f.size).length:Int)+1)=(Lib.decDigits f.size).length+1 by omega,extract_bs,toList_bs,bs_size,List.take_of_length_le (by rw[List.length_drop];omega),hX,←List.drop_drop,List.drop_left' rfl]
  rfl
 have hA:=atoi_digits d3 d1 (by omega)
 rw[d2] at hA
 have hN:sizeN (bs (Lib.decDigits f.size))=(f.size:Int):=by
  unfold sizeN;rw[toList_bs,hA]
 have hB:sizeB (bs (Lib.decDigits f.size))=true:=by
  unfold sizeB;rw[toList_bs,hA]
  simp only[itoa_nat]
  simp
 have hfl:f.data.toList.length=f.size:=size_list f
 refine⟨?_,?_,?_⟩
 ·unfold okU cutB
  rw[hD,hB,hN,hR,hI,bs_size,List.length_append,hfl]
  simp;omega
 ·unfold fieldU
  rw[hD,hN,hR,Int.toNat_natCast,extract_bs,toList_bs,List.drop_zero,Nat.sub_zero,List.take_left' hfl,bs_toList]
 ·unfold restU
  rw[hD,hN,hR,Int.toNat_natCast,extract_bs,toList_bs,bs_size,List.take_of_length_le (by rw[List.length_drop];omega),List.drop_left' hfl]
theorem fieldL_ne (f:ByteArray) (R:List UInt8):fieldL f++R≠[]:=by
 unfold fieldL;simp
theorem field_unique {f g:ByteArray} {R T:List UInt8} (h:fieldL f++R=fieldL g++T) (hf:f.size≤900000) (hg:g.size≤900000):f=g∧R=T:=by
 obtain ⟨_,h1,h2⟩:=field_okU (R:=R) hf
 obtain ⟨_,h3,h4⟩:=field_okU (R:=T) hg
 rw[h] at h1 h2
 exact⟨h1.symm.trans h3,bs_inj (h2.symm.trans h4)⟩
theorem packL_small:∀(l:List ByteArray),∀f∈l,f.size≤(packL l).length
 | [],f,h=>by simp at h
 | g :: l,f,h=>by
  rw[packL,List.length_append,fieldL_len]
  rcases List.mem_cons.1 h with rfl|h
  ·omega
  ·have:=packL_small l f h;omega
theorem packL_cancel {X:List UInt8}:∀(l0 l:List ByteArray),packL l=packL l0++X→(packL l).length≤900000→∃m,l=l0++m∧packL m=X
 | [],l,h,_=>⟨l,rfl,h⟩
 | f :: l0,l,h,hl=>by
  cases l with
  | nil=>
   exfalso
   rw[packL,packL,List.append_assoc] at h
   exact fieldL_ne _ _ h.symm
  | cons g l=>
   have hg:=packL_small (g :: l) g (by simp)
   have hf:f.size≤(packL (g :: l)).length:=by
    rw[h,packL,List.length_append,List.length_append,fieldL_len];omega
   rw[packL,packL,List.append_assoc] at h
   obtain ⟨rfl,h2⟩:=field_unique h (by omega) (by omega)
   rw[packL,List.length_append] at hl
   obtain ⟨m,rfl,hm⟩:=packL_cancel l0 l h2 (by omega)
   exact⟨m,rfl,hm⟩
noncomputable def unp (X:List UInt8):Option (List ByteArray):=open Classical in if h:∃l,packL l=X then some h.choose else none
theorem unp_some {l:List ByteArray} (h:(packL l).length≤900000):unp (packL l)=some l:=by
 have hex:∃m,packL m=packL l:=⟨l,rfl⟩
 unfold unp
 rw[dif_pos hex]
 have hc:=hex.choose_spec
 obtain ⟨m,h1,h2⟩:=packL_cancel (X:=[]) l hex.choose (by rw[hc,List.append_nil]) (by rw[hc];exact h)
 have:m=[]:=by
  cases m with
  | nil=>rfl
  | cons a m=>rw[packL] at h2;exact absurd h2 (fieldL_ne _ _)
 rw[h1,this,List.append_nil]
theorem unp_none {X:List UInt8} (h:∀l,packL l≠X):unp X=none:=by
 unfold unp
 rw[dif_neg (by rintro ⟨l,hl⟩;exact h l hl)]
theorem unp_pack {X:List UInt8} {l:List ByteArray} (h:unp X=some l):packL l=X:=by
 unfold unp at h
 split at h
 ·rename_i hex
  injection h with h
  rw[←h];exact hex.choose_spec
 ·cases h
theorem unp_stop {l0:List ByteArray} {X:List UInt8} (hl:(packL l0++X).length≤900000) (h0:X≠[]) (h:∀f R,X≠fieldL f++R):unp (packL l0++X)=none:=by
 refine unp_none fun l hc=>?_
 obtain ⟨m,rfl,hm⟩:=packL_cancel l0 l hc (by rw[hc];exact hl)
 cases m with
 | nil=>exact h0 hm.symm
 | cons f m=>exact h f _ hm.symm
theorem packL_count:∀l:List ByteArray,2*l.length≤(packL l).length
 | []=>Nat.zero_le _
 | f :: l=>by
  have:=packL_count l
  have h1:1≤(Lib.itoa (f.size:Int)).length:=by
   rw[itoa_nat]
   exact List.length_pos_iff.2 (decDigits_all f.size).2.2.1
  rw[packL,List.length_append,fieldL_len,List.length_cons];omega
theorem okU_n {s:ByteArray} (h:okU s=true):0≤sizeN (cutD s)∧sizeN (cutD s)≤(cutR s).size:=by
 unfold okU at h
 rw[bAt,bAt] at h
 obtain ⟨⟨_,h2⟩,h3⟩:=h
 refine⟨?_,by simpa using h3⟩
 unfold sizeB at h2
 unfold sizeN
 rcases ha:Lib.atoiAll (cutD s).data.toList with v|_|_
 rotate_left
 ·rw[ha] at h2;cases h2
 ·rw[ha] at h2;cases h2
 ·skip
  rw[ha] at h2
  simp only[bAt,decide_eq_true_eq] at h2
  exact h2.1
theorem okU_rest {s:ByteArray} (h:okU s=true):(restU s).size<s.size:=by
 have:=congrArg List.length (okU_field h)
 rw[size_list,List.length_append,fieldL_len,size_list] at this
 omega
theorem okU_not {s:ByteArray} (hs:s.size≤900000) (h:okU s=false):∀f R,s.data.toList≠fieldL f++R:=by
 intro f R he
 have hl:=congrArg List.length he
 rw[size_list,List.length_append,fieldL_len] at hl
 have:=(field_okU (f:=f) (R:=R) (by omega)).1
 rw[←he,bs_toList,h] at this
 cases this
end Go.Proofs
/- strings.Index of one byte,strconv.Atoi (written by the kit's tool,cut). -/
namespace Go.Proofs
open Go.Shelf
def Tryz.laysC172_ren:Go.Shelf.Ren:=⟨fun|172=>71|244=>97|245=>98|247=>113|279=>114|280=>115|281=>116|282=>117|287=>137|316=>138|171=>67|205=>139|321=>165|322=>166|243=>94|246=>111|283=>132|284=>133|285=>134|286=>135|129=>157|317=>156|318=>158|319=>159|320=>160|337=>184|338=>185|n=>n,fun|9=>9|3=>3|75=>98|76=>99|4=>4|5=>5|167=>140|37=>122|0=>0|85=>141|2=>2|168=>143|53=>159|175=>165|46=>167|210=>170|127=>138|145=>193|143=>191|21=>21|171=>158|173=>162|212=>185|51=>186|20=>20|213=>187|232=>209|233=>210|80=>125|n=>n,fun|15=>0|16=>1|17=>2|18=>4|19=>5|n=>n⟩
theorem Tryz.laysC172:Go.Proofs.LaysC.n172 Tryz.prog Tryz.laysC172_ren:={
 mixed:=by kernel_rfl
 f129:=Tryz.func157.trans (congrArg some (by kernel_rfl))
 f171:=Tryz.func67.trans (congrArg some (by kernel_rfl))
 f172:=Tryz.func71.trans (congrArg some (by kernel_rfl))
 f205:=Tryz.func139.trans (congrArg some (by kernel_rfl))
 f243:=Tryz.func94.trans (congrArg some (by kernel_rfl))
 f244:=Tryz.func97.trans (congrArg some (by kernel_rfl))
 f245:=Tryz.func98.trans (congrArg some (by kernel_rfl))
 f246:=Tryz.func111.trans (congrArg some (by kernel_rfl))
 f247:=Tryz.func113.trans (congrArg some (by kernel_rfl))
 f279:=Tryz.func114.trans (congrArg some (by kernel_rfl))
 f280:=Tryz.func115.trans (congrArg some (by kernel_rfl))
 f281:=Tryz.func116.trans (congrArg some (by kernel_rfl))
 f282:=Tryz.func117.trans (congrArg some (by kernel_rfl))
 f283:=Tryz.func132.trans (congrArg some (by kernel_rfl))
 f284:=Tryz.func133.trans (congrArg some (by kernel_rfl))
 f285:=Tryz.func134.trans (congrArg some (by kernel_rfl))
 f286:=Tryz.func135.trans (congrArg some (by kernel_rfl))
 f287:=Tryz.func137.trans (congrArg some (by kernel_rfl))
 f316:=Tryz.func138.trans (congrArg some (by kernel_rfl))
 f317:=Tryz.func156.trans (congrArg some (by kernel_rfl))
 f318:=Tryz.func158.trans (congrArg some (by kernel_rfl))
 f319:=Tryz.func159.trans (congrArg some (by kernel_rfl))
 f320:=Tryz.func160.trans (congrArg some (by kernel_rfl))
 f321:=Tryz.func165.trans (congrArg some (by kernel_rfl))
 f322:=Tryz.func166.trans (congrArg some (by kernel_rfl))
 f337:=Tryz.func184.trans (congrArg some (by kernel_rfl))
 f338:=Tryz.func185.trans (congrArg some (by kernel_rfl))
 t0:=Tryz.underlying0
 a0:=Tryz.isAgg0
 z0:=Tryz.sizeOf0
 v0:=Tryz.zeroValue0
 t2:=Tryz.underlying2
 a2:=Tryz.isAgg2
 z2:=Tryz.sizeOf2
 v2:=Tryz.zeroValue2
 t3:=Tryz.underlying3
 a3:=Tryz.isAgg3
 z3:=Tryz.sizeOf3
 v3:=Tryz.zeroValue3
 t4:=Tryz.underlying4
 a4:=Tryz.isAgg4
 z4:=Tryz.sizeOf4
 v4:=Tryz.zeroValue4
 t5:=Tryz.underlying5
 a5:=Tryz.isAgg5
 z5:=Tryz.sizeOf5
 v5:=Tryz.zeroValue5
 t9:=Tryz.underlying9
 a9:=Tryz.isAgg9
 z9:=Tryz.sizeOf9
 v9:=Tryz.zeroValue9
 t20:=Tryz.underlying20
 a20:=Tryz.isAgg20
 z20:=Tryz.sizeOf20
 v20:=Tryz.zeroValue20
 t21:=Tryz.underlying21
 a21:=Tryz.isAgg21
 z21:=Tryz.sizeOf21
 v21:=Tryz.zeroValue21
 t37:=Tryz.underlying122
 a37:=Tryz.isAgg122
 z37:=Tryz.sizeOf122
 v37:=Tryz.zeroValue122
 t46:=Tryz.underlying167
 a46:=Tryz.isAgg167
 z46:=Tryz.sizeOf167
 v46:=Tryz.zeroValue167
 t51:=Tryz.underlying186
 a51:=Tryz.isAgg186
 z51:=Tryz.sizeOf186
 v51:=Tryz.zeroValue186
 t53:=Tryz.underlying159
 a53:=Tryz.isAgg159
 z53:=Tryz.sizeOf159
 v53:=Tryz.zeroValue159
 t75:=Tryz.underlying98
 a75:=Tryz.isAgg98
 z75:=Tryz.sizeOf98
 v75:=Tryz.zeroValue98
 t76:=Tryz.underlying99
 a76:=Tryz.isAgg99
 z76:=Tryz.sizeOf99
 v76:=Tryz.zeroValue99
 t85:=Tryz.underlying141
 a85:=Tryz.isAgg141
 z85:=Tryz.sizeOf141
 v85:=Tryz.zeroValue141
 t127:=Tryz.underlying138
 a127:=Tryz.isAgg138
 z127:=Tryz.sizeOf138
 v127:=Tryz.zeroValue138
 t143:=Tryz.underlying191
 a143:=Tryz.isAgg191
 z143:=Tryz.sizeOf191
 v143:=Tryz.zeroValue191
 t145:=Tryz.underlying193
 a145:=Tryz.isAgg193
 z145:=Tryz.sizeOf193
 v145:=Tryz.zeroValue193
 t167:=Tryz.underlying140
 a167:=Tryz.isAgg140
 z167:=Tryz.sizeOf140
 v167:=Tryz.zeroValue140
 t168:=Tryz.underlying143
 a168:=Tryz.isAgg143
 z168:=Tryz.sizeOf143
 v168:=Tryz.zeroValue143
 t171:=Tryz.underlying158
 a171:=Tryz.isAgg158
 z171:=Tryz.sizeOf158
 v171:=Tryz.zeroValue158
 t173:=Tryz.underlying162
 a173:=Tryz.isAgg162
 z173:=Tryz.sizeOf162
 v173:=Tryz.zeroValue162
 t175:=Tryz.underlying165
 a175:=Tryz.isAgg165
 z175:=Tryz.sizeOf165
 v175:=Tryz.zeroValue165
 t210:=Tryz.underlying170
 a210:=Tryz.isAgg170
 z210:=Tryz.sizeOf170
 v210:=Tryz.zeroValue170
 t212:=Tryz.underlying185
 a212:=Tryz.isAgg185
 z212:=Tryz.sizeOf185
 v212:=Tryz.zeroValue185
 t213:=Tryz.underlying187
 a213:=Tryz.isAgg187
 z213:=Tryz.sizeOf187
 t232:=Tryz.underlying209
 a232:=Tryz.isAgg209
 z232:=Tryz.sizeOf209
 v232:=Tryz.zeroValue209
 t233:=Tryz.underlying210
 a233:=Tryz.isAgg210
 z233:=Tryz.sizeOf210
 v233:=Tryz.zeroValue210
 g15:=by kernel_rfl
 g16:=by kernel_rfl
 g17:=by kernel_rfl
 g18:=by kernel_rfl
 g19:=by kernel_rfl
 t80:=Tryz.underlying125
 a80:=Tryz.isAgg125
 z80:=Tryz.sizeOf125
 v80:=Tryz.zeroValue125
 i0:=by kernel_rfl
 i2:=by kernel_rfl
 i3:=by kernel_rfl
 i4:=by kernel_rfl
 i5:=by kernel_rfl
 i9:=by kernel_rfl
 i20:=by kernel_rfl
 i21:=by kernel_rfl
 i37:=by kernel_rfl
 i46:=by kernel_rfl
 i51:=by kernel_rfl
 i53:=by kernel_rfl
 i75:=by kernel_rfl
 i76:=by kernel_rfl
 i80:=by kernel_rfl
 i85:=by kernel_rfl
 i127:=by kernel_rfl
 i143:=by kernel_rfl
 i145:=by kernel_rfl
 i167:=by kernel_rfl
 i168:=by kernel_rfl
 i171:=by kernel_rfl
 i173:=by kernel_rfl
 i175:=by kernel_rfl
 i210:=by kernel_rfl
 i212:=by kernel_rfl
 i232:=by kernel_rfl
 i233:=by kernel_rfl
 m15:=by kernel_rfl
 m16:=by kernel_rfl
 m17:=by kernel_rfl
 m18:=by kernel_rfl
 m19:=by kernel_rfl
 c0:=by kernel_rfl
 c2:=by kernel_rfl
 c3:=by kernel_rfl
 c4:=by kernel_rfl
 c5:=by kernel_rfl
 c9:=by kernel_rfl
 c20:=by kernel_rfl
 c21:=by kernel_rfl
 c37:=by kernel_rfl
 c46:=by kernel_rfl
 c51:=by kernel_rfl
 c53:=by kernel_rfl
 c75:=by kernel_rfl
 c76:=by kernel_rfl
 c80:=by kernel_rfl
 c85:=by kernel_rfl
 c127:=by kernel_rfl
 c143:=by kernel_rfl
 c145:=by kernel_rfl
 c167:=by kernel_rfl
 c168:=by kernel_rfl
 c171:=by kernel_rfl
 c173:=by kernel_rfl
 c175:=by kernel_rfl
 c210:=by kernel_rfl
 c212:=by kernel_rfl
 c213:=by kernel_rfl
 c232:=by kernel_rfl
 c233:=by kernel_rfl }
open Go.RowKit in
theorem Tryz.strconv_Atoi_ok (s:ByteArray) (hmax:s.size≤9223372036854775806) (v:Int) (h:Lib.atoiAll s.data.toList=.ok v) (w:World) :
  Calls Tryz.prog 71 #[.string s] w fun e w'=>e=.returned (.tuple #[.int .i64 v,.nilIface])∧(w'=w∨∃t,w'=Lib.bytesWorld w 5 t):=Any.strconv_Atoi_ok Tryz.laysC172 s hmax v h w
open Go.RowKit in
theorem Tryz.strconv_Atoi_syntax (s:ByteArray) (hlim:s.size≤281474976710656) (h:Lib.atoiAll s.data.toList=Lib.NumEnd.syntax) (ev:Value) (w:World) (hv:w.cell? ⟨0,0,none⟩=some ev) (hev:ev=.nilIface∨∃te pe,ev=.iface te pe) :
  Calls Tryz.prog 71 #[.string s] w fun e w'=>∃N,e=.returned (.tuple #[.int .i64 (0),.iface 143 (.pointer (some ⟨N,0,none⟩))])∧w.heap.size≤N∧w'.heap[N]?=some (.cells #[.string ⟨#[65,116,111,105]⟩,.string s,ev] 170 (0,0))∧Below w.heap.size w w':=Any.strconv_Atoi_syntax Tryz.laysC172 s hlim h ev w hv hev
open Go.RowKit in
theorem Tryz.strconv_Atoi_range (s:ByteArray) (hlim:s.size≤281474976710656) (h:Lib.atoiAll s.data.toList=.range) (ev:Value) (w:World) (hv:w.cell? ⟨1,0,none⟩=some ev) (hev:ev=.nilIface∨∃te pe,ev=.iface te pe) :
  Calls Tryz.prog 71 #[.string s] w fun e w'=>∃N,e=.returned (.tuple #[.int .i64 (Lib.atoiSat s.data.toList),.iface 143 (.pointer (some ⟨N,0,none⟩))])∧w.heap.size≤N∧w'.heap[N]?=some (.cells #[.string ⟨#[65,116,111,105]⟩,.string s,ev] 170 (0,0))∧Below w.heap.size w w':=Any.strconv_Atoi_range Tryz.laysC172 s hlim h ev w hv hev
def Tryz.lays219_ren:Go.Shelf.Ren:=⟨fun|219=>136|217=>161|225=>162|224=>163|267=>164|266=>186|314=>187|n=>n,fun|9=>9|3=>3|4=>4|5=>5|46=>167|146=>204|51=>186|n=>n,fun|1=>3|n=>n⟩
theorem Tryz.lays219:Go.Proofs.Lays.n219 Tryz.prog Tryz.lays219_ren:={
 mixed:=by kernel_rfl
 f217:=Tryz.func161.trans (congrArg some (by kernel_rfl))
 f219:=Tryz.func136.trans (congrArg some (by kernel_rfl))
 f224:=Tryz.func163.trans (congrArg some (by kernel_rfl))
 f225:=Tryz.func162.trans (congrArg some (by kernel_rfl))
 f266:=Tryz.func186.trans (congrArg some (by kernel_rfl))
 f267:=Tryz.func164.trans (congrArg some (by kernel_rfl))
 f314:=Tryz.func187.trans (congrArg some (by kernel_rfl))
 t3:=Tryz.underlying3
 a3:=Tryz.isAgg3
 z3:=Tryz.sizeOf3
 v3:=Tryz.zeroValue3
 t4:=Tryz.underlying4
 a4:=Tryz.isAgg4
 z4:=Tryz.sizeOf4
 v4:=Tryz.zeroValue4
 t5:=Tryz.underlying5
 a5:=Tryz.isAgg5
 z5:=Tryz.sizeOf5
 v5:=Tryz.zeroValue5
 t9:=Tryz.underlying9
 a9:=Tryz.isAgg9
 z9:=Tryz.sizeOf9
 v9:=Tryz.zeroValue9
 t46:=Tryz.underlying167
 a46:=Tryz.isAgg167
 z46:=Tryz.sizeOf167
 v46:=Tryz.zeroValue167
 t51:=Tryz.underlying186
 a51:=Tryz.isAgg186
 z51:=Tryz.sizeOf186
 v51:=Tryz.zeroValue186
 t146:=Tryz.underlying204
 a146:=Tryz.isAgg204
 z146:=Tryz.sizeOf204
 v146:=Tryz.zeroValue204
 g1:=by kernel_rfl }
open Go.RowKit Go.Lib in
theorem Tryz.stringslite_Index_one (s:ByteArray) (c:UInt8) (w:World) :
  Calls Tryz.prog 136 #[.string s,.string ⟨#[c]⟩] w fun e w'=>e=.returned (.int .i64 (Lib.indexByte s.data.toList c))∧w'=w:=Any.stringslite_Index_one Tryz.lays219 s c w
end Go.Proofs
/- Cut,and sizes read. -/
namespace Go.Proofs
open Go Go.Ab Go.RowKit
set_option maxHeartbeats 1000000
set_option maxRecDepth 100000
variable {G:IH}
theorem f136 (s:ByteArray):FnOK Tryz.prog G 136 [ds s,ds colon] (di (cutI s)):=by
 refine FnOK.of_calls (args:=[.string s,.string colon]) (v:=.int .i64 _) Tryz.call136 fun w _=>?_
 refine Calls.mono (Tryz.stringslite_Index_one s 58 w) ?_
 rintro e w' ⟨he,rfl⟩
 exact⟨he,Below.refl _ _⟩
def orcCut:Oracle:=fun f args=>match f,args with
 | 136,[.con (.string s),.con (.string _)]=>some (di (cutI s))
 | 112,[.con (.string s),.con (.string _)]=>some (.tup [ds (cutD s),ds (cutR s),db (cutB s)])
 | _,_=>none
theorem f112 (s:ByteArray) (hs:s.size≤1000000):FnOK Tryz.prog G 112 [ds s,ds colon] (.tup [ds (cutD s),ds (cutR s),db (cutB s)]):=by
 refine FnOK.walk (orc:=orcCut) (keep:=[]) follows Tryz.func112 rfl Tryz.call112 ?_
 refine of_tr (fun _ _ _ ZK=>(ZK 136 [(ds s),(ds colon)] (di (cutI s))∧(((decide (cutI s≥0))=true)→(((((0:Int)≤(0:Int))∧(0≤cutI s)∧(cutI s≤↑s.size))∧(I64 (cutI s + ↑colon.size))∧(0≤cutI s + ↑colon.size)∧(cutI s + ↑colon.size≤↑s.size)∧((↑s.size:Int)≤↑s.size))∧((.tup [(ds (s.extract (Int.toNat 0) (cutI s).toNat)),(ds (s.extract (cutI s + ↑colon.size).toNat (↑s.size:Int).toNat)),(db true)]):DV)=(.tup [(ds (cutD s)),(ds (cutR s)),(db (cutB s))])))∧(((decide (cutI s≥0))=false)→(((.tup [(ds s),(ds (ByteArray.mk #[])),(db false)]):DV)=(.tup [(ds (cutD s)),(ds (cutR s)),(db (cutB s))]))))) (by kernel_rfl) ?_
 have hlt:=cutI_lt s
 have e1:(colon.size:Int)=1:=rfl
 have e0:Int.toNat (0:Int)=0:=rfl
 rw[e1]
 refine⟨f136 s,fun h=>?_,fun h=>?_⟩
 ·have h:0≤cutI s:=by simpa using h
  refine⟨⟨⟨by omega,by omega,by omega⟩,⟨by omega,by omega⟩,by omega,by omega,by omega⟩,?_⟩
  unfold cutD cutR cutB
  rw[if_pos h,if_pos h,decide_eq_true h,e0,Int.toNat_natCast]
 ·have h:¬0≤cutI s:=by simpa using h
  unfold cutD cutR cutB
  rw[if_neg h,if_neg h,decide_eq_false h]
theorem f95 (s:ByteArray) (hs:s.size≤1000000):FnOK Tryz.prog G 95 [ds s,ds colon] (.tup [ds (cutD s),ds (cutR s),db (cutB s)]):=by
 refine FnOK.walk (orc:=orcCut) (keep:=[]) follows Tryz.func95 rfl Tryz.call95 ?_
 refine of_tr (fun _ _ _ ZK=>(ZK 112 [(ds s),(ds colon)] (.tup [(ds (cutD s)),(ds (cutR s)),(db (cutB s))])∧(ZS ((.tup [(ds (cutD s)),(ds (cutR s)),(db (cutB s))]):DV)))) (by kernel_rfl) ?_
 exact⟨f112 s hs,rfl⟩
theorem size_bad (s:ByteArray) (n:Int) (w:World) (h:Calls Tryz.prog 71 #[.string s] w fun e w'=>∃p,e=.returned (.tuple #[.int .i64 n,.iface 143 p])∧Below w.heap.size w w') :
  Calls Tryz.prog 96 #[.string s] w fun e w'=>e=.returned (.tuple #[.int .i64 n,.bool false])∧Below w.heap.size w w':=by
 go_enter Tryz.func96,Tryz.ntmps96
 go_wp2_with (go_at_call 71;refine h.mono ?_;rintro e w' ⟨p,rfl,hb⟩)
 go_ret2
 exact⟨rfl,hb⟩
def Errs (G:IH):Prop:=∀w,G.holds w→(∃te pe,w.cell? ⟨0,0,none⟩=some (.iface te pe))∧∃te pe,w.cell? ⟨1,0,none⟩=some (.iface te pe)
def orcSz (v:Int):Oracle:=fun f args=>match f,args with
 | 71,[.con (.string _)]=>some (.tup [di v,.con .nilIface])
 | 67,[.con (.int .i64 n)]=>some (ds (bs (Lib.itoa n)))
 | _,_=>none
theorem tup_of_con {f:FuncId} {xs:List DV} {n:Int} {b:Bool} (h:FnOK Tryz.prog G f xs (.con (.tuple #[.int .i64 n,.bool b]))):FnOK Tryz.prog G f xs (.tup [di n,db b]):=by
 refine FnOK.imp h fun k v hv=>?_
 have hv:v=.tuple #[.int .i64 n,.bool b]:=hv
 subst hv
 exact⟨[.int .i64 n,.bool b],rfl,_,_,rfl,rfl,_,_,rfl,rfl,rfl⟩
theorem f96_bad (s:ByteArray) (n:Int) (h:∀w,G.holds w→Calls Tryz.prog 71 #[.string s] w fun e w'=>∃p,e=.returned (.tuple #[.int .i64 n,.iface 143 p])∧Below w.heap.size w w'):FnOK Tryz.prog G 96 [ds s] (.tup [di n,db false]):=by
 refine tup_of_con (FnOK.of_calls (args:=[.string s]) (v:=.tuple #[.int .i64 n,.bool false]) Tryz.call96 fun w hw=>?_)
 exact size_bad s n w (h w hw)
theorem f71_ok (s:ByteArray) (hs:s.size≤1000000) (v:Int) (h:Lib.atoiAll s.data.toList=.ok v):FnOK Tryz.prog G 71 [ds s] (.tup [di v,.con .nilIface]):=by
 have:FnOK Tryz.prog G 71 [ds s] (.con (.tuple #[.int .i64 v,.nilIface])):=by
  refine FnOK.of_calls (args:=[.string s]) (v:=.tuple #[.int .i64 v,.nilIface]) Tryz.call71 fun w _=>?_
  refine Calls.mono (Tryz.strconv_Atoi_ok s (by omega) v h w) ?_
  rintro e w' ⟨he,hb⟩
  refine⟨he,?_⟩
  rcases hb with rfl|⟨t,rfl⟩
  ·exact Below.refl _ _
  ·exact Lib.bytesWorld_below _ _ _
 refine FnOK.imp this fun k u hu=>?_
 have hu:u=.tuple #[.int .i64 v,.nilIface]:=hu
 subst hu
 exact⟨[.int .i64 v,.nilIface],rfl,_,_,rfl,rfl,_,_,rfl,rfl,rfl⟩
theorem f96 (hT:Tab G) (hE:Errs G) (s:ByteArray) (hs:s.size≤1000000):FnOK Tryz.prog G 96 [ds s] (.tup [di (sizeN s),db (sizeB s)]):=by
 unfold sizeN sizeB
 rcases h:Lib.atoiAll s.data.toList with v|_|_
 rotate_left
 ·-- no numeral
  refine f96_bad s 0 fun w hw=>?_
  obtain ⟨⟨te,pe,h2⟩,_⟩:=hE w hw
  refine(Tryz.strconv_Atoi_syntax s (by omega) h (.iface te pe) w h2 (.inr ⟨te,pe,rfl⟩)).mono ?_
  rintro e w' ⟨N,rfl,_,_,hb⟩
  exact⟨_,rfl,hb⟩
 ·-- none that is held
  refine f96_bad s _ fun w hw=>?_
  obtain ⟨_,te,pe,h2⟩:=hE w hw
  refine(Tryz.strconv_Atoi_range s (by omega) h (.iface te pe) w h2 (.inr ⟨te,pe,rfl⟩)).mono ?_
  rintro e w' ⟨N,rfl,_,_,hb⟩
  exact⟨_,rfl,hb⟩
 ·-- a number
  refine FnOK.walk (orc:=orcSz v) (keep:=[]) follows Tryz.func96 rfl Tryz.call96 ?_
  refine of_tr (fun _ _ _ ZK=>(ZK 71 [(ds s)] (.tup [(di v),(.con .nilIface)])∧(((true&&decide (v≥0))=true)→ZK 67 [(di v)] (ds (bs (Lib.itoa v))))∧((.tup [(di v),(db (true&&decide (v≥0)&&(bs (Lib.itoa v)).toList==s.toList))]):DV)=(.tup [(di (match Lib.NumEnd.ok v with|Lib.NumEnd.ok v=>v|Lib.NumEnd.range=>Lib.atoiSat s.data.toList|x=>0)),(db (match Lib.NumEnd.ok v with|Lib.NumEnd.ok v=>decide (0≤v)&&decide (bs (Lib.itoa v)=s)|x=>false))]))) (by kernel_rfl) ?_
  have hv:=atoi_i64 h
  refine⟨f71_ok s hs v h,fun _=>f67 hT v hv,?_⟩
  rw[toList_beq]
  simp only[Bool.true_and,ge_iff_le]
end Go.Proofs
/- The law BookTwice. -/
namespace Go.Proofs
open Go Go.Ab Go.RowKit
set_option maxHeartbeats 4000000
set_option maxRecDepth 100000
variable {G:IH}
def orc55D (few:Bool) (b c:Bk) (x:Ev) (h:Bool):Oracle:=fun f a=>match f,a with
 | 11,_=>some (db true)
 | 12,[_,.con (.int _ n)]=>some (db (if n=24 then few else fewE [x] 1))
 | 13,_=>some (bkD b)
 | 14,_=>some (.tup [bkD (apB okE c x),di (apC okE c x)])
 | 20,_=>some (db h)
 | 24,[y]=>some (evsD (evsB (xBk y)))
 | _,_=>none
def orc55 (few:Bool) (b c:Bk) (x:Ev) (h:Bool):Orc:={ d:=orc55D few b c x h,rows:=fun n=>Nat.beq n 17 }
theorem f12e (e:Ev) {f:Nat→DV} (hf:f 0=evD e):FnOK Tryz.prog G 12 [.slc 9 1 f,di 1] (db (fewE [e] 1)):=
 FnOK.args (f12 [e] 1 (show 1≤9223372036854775807 by decide)) fun _ us hh=>DV.rels_cons (fun _ hv=>DV.rel_slc_congr (fun i hi=>by
  have hi:i<1:=hi
  obtain rfl:i=0:=by omega
  exact hf) hv) (fun _ h=>h) us hh
theorem few_one {x:Ev} (h:fewE [x] 1=true):x.k.st.size≤1000000∧x.k.ex.size≤1000000:=by
 have:=(few_of h).1 x (by simp)
 exact⟨by omega,by omega⟩
theorem few_l {l:List Ev} (h:fewE l 24=true):l.length≤24∧∀e∈l,e.k.st.size≤1000000∧e.k.ex.size≤1000000:=by
 obtain ⟨h1,h2⟩:=few_of h
 refine⟨by omega,fun e he=>?_⟩
 have:=h1 e he
 exact⟨by omega,by omega⟩
theorem f24v (b:Bk) (h:valB okE b=true):FnOK Tryz.prog G 24 [bkD b] (evsD (evsB b)):=by
 have:=f24 (G:=G) b (bkS_val h)
 rwa [if_pos h] at this
noncomputable def S5 (x:Ev) (b c:Bk):AS:=⟨regs Tryz.f5.ntmps [(3,.box 3 0),(4,vb false),(5,.box 5 0),(6,.box 6 0)],[(3,(evL x).map .d),(5,(bkL b).map .d),(6,(bkL c).map .d)]⟩
theorem f5 (hT:Tab G) (l:List Ev) (x:Ev) (hl:l.length≤9223372036854775807):FnOK Tryz.prog G 5 [evsD l,evD x] (db true):=by
 cases hf:fewE l 24 with
 | false=>
  refine FnOK.walkK (orc:=orc55 false bk0 bk0 x true) (keep:=[]) follows Tryz.func5 rfl Tryz.call5 ?_
  have h12:=f12 (G:=G) l 24 hl
  rw[hf] at h12
  refine of_tr (fun _ _ _ ZK=>(fun Za Zb Zc Zd Ze Zf=>(ZK 11 [] (db true)∧((false=true)→(((db false):DV)=(db true)))∧((false=false)→((ZK 12 [(.slc 9 l.length (evF l)),(di 24)] (db (if (24:Int)=(24:Int) then false else fewE [x] (1:Int)))∧(((!!if (24:Int)=(24:Int) then false else fewE [x] (1:Int))=true)→ZK 12 [(db false),(di 1)] (db (if (1:Int)=(24:Int) then false else fewE [x] (1:Int)))))∧((((!if (24:Int)=(24:Int) then false else fewE [x] (1:Int))||!if (1:Int)=(24:Int) then false else fewE [x] (1:Int))=true)→(ZS ((db true):DV)))∧((((!if (24:Int)=(24:Int) then false else fewE [x] (1:Int))||!if (1:Int)=(24:Int) then false else fewE [x] (1:Int))=false)→(ZK 13 [(.slc 9 l.length (evF l))] Zf∧ZK 14 [Zf,Zb] (.tup [Za,(di (apC okE bk0 x))])∧ZK 20 [Zf,Zb] (db true)∧(((!(apC okE bk0 x==6)==true)=true)→(((db false):DV)=(db true)))∧(((!(apC okE bk0 x==6)==true)=false)→((((apC okE bk0 x != 0)=true)→(((db ((↑(apB okE bk0 x).es.length:Int)==0&&(apB okE bk0 x).t==0)):DV)=(db true)))∧(((apC okE bk0 x != 0)=false)→(ZK 14 [Za,Zb] (.tup [Za,(di (apC okE bk0 x))])∧(ZK 20 [Za,Zb] (db true)∧((Ze=true)→ZK 24 [Za] (.slc 9 Zc.length (evF Zc)))∧((Ze=true)→ZK 24 [Zf] (.slc 9 0 (evF Zd)))∧((Ze=true)→(I64 (↑Zd.length+1))))∧((db (true&&apC okE bk0 x==6&&(↑(apB okE bk0 x).es.length:Int)==0&&(↑Zc.length:Int)==↑Zd.length+1)):DV)=(db true))))))))))) ((.agg [(di (apB okE bk0 x).t),(.slc 7 (apB okE bk0 x).es.length (enF (apB okE bk0 x).es))]):DV) ((.agg [(di x.kind),(ds x.k.st),(ds x.k.ex),(di x.k.n),(di x.t),(di x.v),(di x.h),(ds x.s),(db x.acc)]):DV) (evsB (xBk (DV.agg [DV.con (Value.int IntKind.i64 (apB okE bk0 x).t),DV.slc 7 (apB okE bk0 x).es.length (enF (apB okE bk0 x).es)]))) (evsB (xBk (DV.agg [di 0,DV.slc 7 0 (enF [])]))) (true&&apC okE bk0 x==6&&(↑(apB okE bk0 x).es.length:Int)==0) ((.agg [(di 0),(.slc 7 0 (enF []))]):DV)) (by kernel_rfl) ?_
  exact⟨f11 hT,fun c=>(by cases c),fun _=>⟨⟨h12,fun c=>(by cases c)⟩,fun _=>rfl,fun c=>(by cases c)⟩⟩
 | true=>
  obtain ⟨l24,lk⟩:=few_l hf
  have hv:=mk_valE l
  have tw:=twice (ok:=okE) (fun _=>ok_form) l x
  have h13:=f13 (G:=G) l (by omega) lk
  have h12:=f12 (G:=G) l 24 hl
  rw[hf] at h12
  generalize mkB okE l=b at hv tw h13
  obtain ⟨t6,t0⟩:=tw
  refine FnOK.of_body Tryz.func5 rfl Tryz.call5 ?_
  refine walkK (orc:=orc55 true b b x (okE x&&(valB okE b&&hasB b.es x))) (keep:=[]) (cuts:=[11]) (n:=1000) follows ?_
  refine of_tr (fun ZT ZW ZQ ZK=>(fun Za Zb Zc=>(ZK 11 [] (db true)∧((false=true)→(((db false):DV)=(db true)))∧((false=false)→((ZK 12 [(.slc 9 l.length (evF l)),(di 24)] (db (if (24:Int)=(24:Int) then true else fewE [x] (1:Int)))∧(((!!if (24:Int)=(24:Int) then true else fewE [x] (1:Int))=true)→ZK 12 [(.slc 9 1 (fun i=>elemF true 9 [di x.kind,ds x.k.st,ds x.k.ex,di x.k.n,di x.t,di x.v,di x.h,ds x.s,DV.con (Value.bool x.acc)] (0+i))),(di 1)] (db (if (1:Int)=(24:Int) then true else fewE [x] (1:Int)))))∧((((!if (24:Int)=(24:Int) then true else fewE [x] (1:Int))||!if (1:Int)=(24:Int) then true else fewE [x] (1:Int))=true)→(ZS ((db true):DV)))∧((((!if (24:Int)=(24:Int) then true else fewE [x] (1:Int))||!if (1:Int)=(24:Int) then true else fewE [x] (1:Int))=false)→(ZK 13 [(.slc 9 l.length (evF l))] Zb∧ZK 14 [Zb,Za] (.tup [(.agg [(di (apB okE b x).t),(.slc 7 (apB okE b x).es.length (enF (apB okE b x).es))]),(di (apC okE b x))])∧ZK 20 [Zb,Za] (db Zc)∧(((!(apC okE b x==6)==Zc)=true)→(((db false):DV)=(db true)))∧(((!(apC okE b x==6)==Zc)=false)→((((apC okE b x != 0)=true)→(((db ((↑(apB okE b x).es.length:Int)==0&&(apB okE b x).t==0)):DV)=(db true)))∧(((apC okE b x != 0)=false)→ZW [cd Tryz.f5 [1,1,1,1,1,1,1]] (stS ZT [1,1,1,1]) ZQ))))))))) ((.agg [(di x.kind),(ds x.k.st),(ds x.k.ex),(di x.k.n),(di x.t),(di x.v),(di x.h),(ds x.s),(db x.acc)]):DV) ((.agg [(di b.t),(.slc 7 b.es.length (enF b.es))]):DV) (okE x&&(valB okE b&&hasB b.es x))) (by kernel_rfl) ?_
  refine⟨f11 hT,fun c=>(by cases c),fun _=>⟨⟨h12,fun _=>f12e x rfl⟩,fun _=>rfl,fun c=>?_⟩⟩
  have hx:fewE [x] 1=true:=by
   cases q:fewE [x] 1 with
   | true=>rfl
   | false=>rw[q] at c;cases c
  obtain ⟨x1,x2⟩:=few_one hx
  refine⟨h13,f14 b x (bkS_val hv) x1 x2,f20 b x (bkS_val hv) x1 x2,fun c=>?_,fun _=>⟨fun c=>?_,fun c=>?_⟩⟩
  ·exfalso
   rw[hv,Bool.true_and] at c
   by_cases h6:apC okE b x=6
   ·obtain ⟨a1,a2⟩:=t6.1 h6
    rw[h6,a1,a2] at c;cases c
   ·have:(okE x&&hasB b.es x)=false:=by
     rw[Bool.eq_false_iff]
     intro q
     rw[bAt] at q
     exact h6 (t6.2 q)
    rw[this] at c
    have e6:(apC okE b x==6)=false:=by simpa using h6
    rw[e6] at c;cases c
  ·have c:apC okE b x≠0:=by simpa using c
   have:apB okE b x=bk0:=by unfold apB;rw[if_neg c]
   rw[this];rfl
  ·have c:apC okE b x=0:=by simpa using c
   obtain ⟨p6,ph,po,pv,pl⟩:=t0 c
   have hab:apB okE b x=appB b x:=by unfold apB;rw[if_pos c]
   refine AWP.weaken (st':=S5 x b (apB okE b x)) ?_ ?_
   ·exact AS.leA (by kernel_rfl)
   rw[hab]
   generalize appB b x=d at p6 ph pv pl⊢
   refine walkK (orc:=orc55 true b d x true) (keep:=[]) (cuts:=[]) (n:=1000) follows ?_
   refine of_tr (fun _ _ _ ZK=>(fun Za Zb Zc Zd Ze=>(ZK 14 [Ze,Zd] (.tup [(.agg [(di (apB okE d x).t),(.slc 7 (apB okE d x).es.length (enF (apB okE d x).es))]),(di (apC okE d x))])∧(ZK 20 [Ze,Zd] (db true)∧((Zc=true)→ZK 24 [Ze] (.slc 9 Zb.length (evF Zb)))∧((Zc=true)→ZK 24 [(.agg [(di b.t),(.slc 7 b.es.length (enF b.es))])] (.slc 9 Za.length (evF Za)))∧((Zc=true)→(I64 (↑Za.length+1))))∧((db (true&&apC okE d x==6&&(↑(apB okE d x).es.length:Int)==0&&(↑Zb.length:Int)==↑Za.length+1)):DV)=(db true))) (evsB (xBk (DV.agg [di b.t,DV.slc 7 b.es.length (enF b.es)]))) (evsB (xBk (DV.agg [di d.t,DV.slc 7 d.es.length (enF d.es)]))) (true&&apC okE d x==6&&(↑(apB okE d x).es.length:Int)==0) ((.agg [(di x.kind),(ds x.k.st),(ds x.k.ex),(di x.k.n),(di x.t),(di x.v),(di x.h),(ds x.s),(db x.acc)]):DV) ((.agg [(di d.t),(.slc 7 d.es.length (enF d.es))]):DV)) (by kernel_rfl) ?_
   try dsimp only
   simp only[xBk_eq]
   have h20:=f20 (G:=G) d x (bkS_val pv) x1 x2
   rw[po,pv,ph] at h20
   have hd0:apB okE d x=bk0:=by unfold apB;rw[if_neg (by rw[p6];decide)]
   have hb:=(bkS_val hv).evs
   refine⟨f14 d x (bkS_val pv) x1 x2,⟨h20,fun _=>f24v d pv,fun _=>f24v b hv,fun _=>⟨by omega,by omega⟩⟩,congrArg db ?_⟩
   rw[p6,hd0,pl]
   show (true&&true&&true&&_)=true
   simp
end Go.Proofs
/- Unpack. -/
namespace Go.Proofs
open Go Go.Ab Go.RowKit
set_option maxHeartbeats 1000000
set_option maxRecDepth 100000
variable {G:IH}
abbrev strK:RK:=⟨false,9,false,none⟩
def rowS (l:List ByteArray) (i:Nat):DV:=(l.map fun s=>ds s).getD i (.con undef)
def strL (l:List ByteArray):DV:=.slc 1 l.length (rowS l)
theorem rowS_app (l:List ByteArray) (p:ByteArray):(fun i=>bif Nat.blt i l.length then rowS l i else elemF false 1 [ds p] (i-l.length))=rowS (l++[p]):=by
 funext i
 cases h:Nat.blt i l.length with
 | true=>
  rw[Nat.blt_eq] at h
  simp only[cond_true,rowS,List.map_append,List.getD_eq_getElem?_getD,List.getElem?_append_left (show i<(l.map fun s=>ds s).length by simpa using h)]
 | false=>
  have h:¬i<l.length:=by rw[←Nat.blt_eq,h];decide
  simp only[cond_false,rowS,List.map_append,List.getD_eq_getElem?_getD,List.getElem?_append_right (show (l.map fun s=>ds s).length≤i by simpa using h),List.length_map]
  rfl
theorem rowS_zero (ps:List ByteArray):(fun i=>rowS ps (0+i))=rowS ps:=by
 funext i;rw[Nat.zero_add]
theorem one_ok (x:DV) (h:elemOK false 1 x=true):∀i:Nat,i<1→elemOK false 1 (elemF false 1 [x] i)=true:=by
 intro i hi
 obtain rfl:i=0:=by omega
 exact h
def orcUn:Oracle:=fun f args=>match f,args with
 | 95,[.con (.string s),.con (.string _)]=>some (.tup [ds (cutD s),ds (cutR s),db (cutB s)])
 | 96,[.con (.string s)]=>some (.tup [di (sizeN s),db (sizeB s)])
 | _,_=>none
noncomputable def unR (X:List UInt8):DV:=match unp X with
 | none=>.tup [.con (.slice none 0 0),di 11]
 | some l=>.tup [strL l,di 0]
noncomputable def S69 (x:List ByteArray×ByteArray):AS:=⟨regs Tryz.f69.ntmps [(0,vs x.2),(4,.vec 600 1 0 x.1.length)],[(600,[.arr strK 1 (rowS x.1)])]⟩
theorem f69r (hT:Tab G) (hE:Errs G) (d:ByteArray) (hd:d.size≤8000):FnOK Tryz.prog G 69 [ds d] (unR d.data.toList):=by
 refine FnOK.walk (orc:=orcUn) (keep:=[]) follows Tryz.func69 rfl Tryz.call69 ?_
 refine of_tr (fun ZT ZW ZQ _=>((((decide ((↑d.size:Int)>30000))=true)→(((.tup [(.con (.slice none 0 0)),(di 8)]):DV)=(unR d.data.toList)))∧(((decide ((↑d.size:Int)>30000))=false)→ZW [cd Tryz.f69 [1,1,1,0,0],(.blk 0),cd Tryz.f69 [1,1,1,1]] (stS ZT [1]) ZQ))) (by kernel_rfl) ?_
 refine⟨fun h=>?_,fun _=>?_⟩
 ·simp at h;omega
 refine AWP.pre (.nilRow _ 4 600 1 strK (rowS []) (by kernel_rfl) (by kernel_rfl)) ?_
 refine AWP.loop (c:=cAt (bodyOf Tryz.f69) [1,1,1,0,0,0]) (by kernel_rfl) S69 (fun x=>d.data.toList=packL x.1++x.2.data.toList) (fun x=>x.2.size) ([],d) ?_ rfl ?_
 ·exact AS.leA (by kernel_rfl)
 ·rintro ⟨l0,s⟩ hI
  refine walk (orc:=orcUn) (keep:=[]) (cuts:=[]) (n:=1000) follows ?_
  refine of_rd (fun ZT ZW ZQ ZK ZA _=>(fun Za=>((((!s.toList==(ByteArray.mk #[]).toList)=true)→(ZK 95 [(ds s),(ds (ByteArray.mk #[58]))] (.tup [(ds (cutD s)),(ds (cutR s)),(db (cutB s))])∧ZK 96 [(ds (cutD s))] (.tup [(di (sizeN (cutD s))),(db (sizeB (cutD s)))])∧((Za=true)→(((.tup [(.con (.slice none 0 0)),(di 11)]):DV)=(unR d.data.toList)))∧((Za=false)→(((((0:Int)≤(0:Int))∧(0≤sizeN (cutD s))∧(sizeN (cutD s)≤↑(cutR s).size))∧(((l0.length+1)*16≤1099511627776)∧(l0.length+1≤1099511627776))∧(∀(i:Nat),i<1→elemOK false 1 (elemF false 1 [DV.con (Value.string ((cutR s).extract (Int.toNat 0) (sizeN (cutD s)).toNat))] i)=true))∧((0≤sizeN (cutD s))∧(sizeN (cutD s)≤↑(cutR s).size)∧((↑(cutR s).size:Int)≤↑(cutR s).size))∧(ZA (stS ZT [0,1]))))))∧(((!s.toList==(ByteArray.mk #[]).toList)=false)→ZW [cd Tryz.f69 [1,1,1,1]] (stS ZT [1]) ZQ))) (!cutB s||!sizeB (cutD s)||decide (sizeN (cutD s)>(↑(cutR s).size:Int))||(↑l0.length:Int)==4096)) (by kernel_rfl) ?_
  try dsimp only
  have hI:d.data.toList=packL l0++s.data.toList:=hI
  have hlen:=congrArg List.length hI
  rw[size_list,List.length_append,size_list] at hlen
  have hcnt:=packL_count l0
  have hcut:cutD s=cutD s:=rfl
  have hnn:((l0.length:Int)==4096)=false:=by rw[beq_eq_false_iff_ne];omega
  have hcond:(!cutB s||!sizeB (cutD s)||decide (sizeN (cutD s)>(((cutR s).size:Nat):Int))||(l0.length:Int)==4096) = !okU s:=by
   rw[hnn,Bool.or_false]
   unfold okU
   rw[Bool.not_and,Bool.not_and]
   congr 1
   rw[Bool.eq_iff_iff]
   simp
  refine⟨fun h=>?_,fun h=>?_⟩
  ·have h0:s.data.toList≠[]:=by
    intro e
    have:s={ data:=#[] }:=by rw[←bs_toList s,e];rfl
    rw[this] at h
    simp at h
   have hcs:(cutD s).size≤1000000:=by
    unfold cutD
    split
    ·rw[ByteArray.size_extract];omega
    ·omega
   refine⟨f95 s (by omega),f96 hT hE _ hcs,fun h2=>?_,fun h2=>?_⟩
   ·rw[hcond] at h2
    have h2:okU s=false:=by simpa using h2
    have hu:unp d.data.toList=none:=by
     rw[hI]
     exact unp_stop (by rw[List.length_append,size_list];omega) h0 (okU_not (by omega) h2)
    unfold unR
    rw[hu]
   ·rw[hcond] at h2
    have h2:okU s=true:=by simpa using h2
    obtain ⟨hn1,hn2⟩:=okU_n h2
    have hf:=okU_field h2
    have hr:=okU_rest h2
    refine⟨⟨⟨by omega,by omega,by omega⟩,⟨by omega,by omega⟩,one_ok _ rfl⟩,⟨by omega,by omega,by omega⟩,Again.mkR [(48,600)] rfl (l0++[fieldU s],restU s) ?_ ?_ hr⟩
    ·refine AS.leZ [0,1] [0] (b:=((((vs ((cutR s).extract (sizeN (cutD s)).toNat ((↑(cutR s).size:Int)).toNat)):AV)=(vs (restU s))∧((.vec 600 1 0 (l0.length+1)):AV)=(.vec 600 1 0 (l0++[fieldU s]).length)∧True)∧((some [(.arr ⟨false,9,false,none⟩ 1 (fun i=>bif i.blt l0.length then rowS l0 i else elemF false 1 [DV.con (Value.string ((cutR s).extract (Int.toNat 0) (sizeN (cutD s)).toNat))] (i-l0.length)))]):(Option (List AV)))=(some [(.arr ⟨false,9,false,none⟩ 1 (rowS (l0++[fieldU s])))])∧True)) (by kernel_rfl) (by kernel_rfl) ?_
     refine⟨⟨?_,?_,trivial⟩,?_,trivial⟩
     ·unfold restU;rw[Int.toNat_natCast]
     ·rw[List.length_append];rfl
     ·rw[rowS_app]
      unfold fieldU;rfl
    ·show d.data.toList=packL (l0++[fieldU s])++(restU s).data.toList
     rw[hI,packL_app,packL,packL,List.append_nil,List.append_assoc,←hf]
  ·have hs0:s.data.toList=[]:=by
    have:s={ data:=#[] }:=by
     rw[Bool.not_eq_false',beq_iff_eq,toList_inj] at h
     exact h
    rw[this]
   rw[hs0,List.append_nil] at hI
   have hu:unp d.data.toList=some l0:=by
    rw[hI]
    exact unp_some (by rw[←hI,size_list];omega)
   refine walk (orc:=orcUn) (keep:=[]) (cuts:=[]) (n:=1000) follows ?_
   refine of_tr (fun _ _ _ _=>(((.tup [(.slc 1 l0.length (fun i=>rowS l0 (0+i))),(di 0)]):DV)=(unR d.data.toList))) (by kernel_rfl) ?_
   unfold unR
   rw[hu]
   simp only[rowS_zero]
   rfl
end Go.Proofs
/- DecodeEvent. -/
namespace Go.Proofs
open Go Go.Ab Go.RowKit
set_option maxHeartbeats 1000000
set_option maxRecDepth 100000
variable {G:IH}
theorem strL_sRow (l:List ByteArray) {h:IH} {v:Value} (hr:(strL l).rel h v):(sRow l).rel h v:=by
 refine DV.rel_slc_congr (fun i hi=>?_) hr
 unfold strF
 rw[sAt_get hi]
 simp[rowS,hi]
noncomputable def unL (X:List UInt8):List ByteArray:=(unp X).getD []
noncomputable def unE (X:List UInt8):Int:=if (unp X).isSome then 0 else 11
theorem f69 (hT:Tab G) (hE:Errs G) (d:ByteArray) (hd:d.size≤8000):FnOK Tryz.prog G 69 [ds d] (.tup [sRow (unL d.data.toList),di (unE d.data.toList)]):=by
 refine FnOK.imp (f69r hT hE d hd) fun k v hv=>?_
 unfold unR at hv
 unfold unL unE
 cases hu:unp d.data.toList with
 | some l=>
  rw[hu] at hv
  obtain ⟨vs,e,x0,u0,e0,h0,rest⟩:=hv
  exact⟨vs,e,x0,u0,e0,strL_sRow l h0,rest⟩
 | none=>
  rw[hu] at hv
  obtain ⟨vs,e,x0,u0,e0,h0,rest⟩:=hv
  refine⟨vs,e,x0,u0,e0,?_,rest⟩
  have h0:x0=.slice none 0 0:=h0
  subst h0
  exact⟨none,0,rfl,Nat.le_refl _,.inl rfl⟩
theorem num_bad (s:ByteArray) (n:Int) (w:World) (h:Calls Tryz.prog 71 #[.string s] w fun e w'=>∃p,e=.returned (.tuple #[.int .i64 n,.iface 143 p])∧Below w.heap.size w w') :
  Calls Tryz.prog 70 #[.string s] w fun e w'=>e=.returned (.int .i64 n)∧Below w.heap.size w w':=by
 go_enter Tryz.func70,Tryz.ntmps70
 go_wp2_with (go_at_call 71;refine h.mono ?_;rintro e w' ⟨p,rfl,hb⟩)
 go_ret
 exact⟨rfl,hb⟩
theorem f70_bad (s:ByteArray) (n:Int) (h:∀w,G.holds w→Calls Tryz.prog 71 #[.string s] w fun e w'=>∃p,e=.returned (.tuple #[.int .i64 n,.iface 143 p])∧Below w.heap.size w w'):FnOK Tryz.prog G 70 [ds s] (di n):=
 FnOK.of_calls (args:=[.string s]) (v:=.int .i64 n) Tryz.call70 fun w hw=>num_bad s n w (h w hw)
theorem f70 (hE:Errs G) (s:ByteArray) (hs:s.size≤1000000):FnOK Tryz.prog G 70 [ds s] (di (sizeN s)):=by
 unfold sizeN
 rcases h:Lib.atoiAll s.data.toList with v|_|_
 rotate_left
 ·refine f70_bad s 0 fun w hw=>?_
  obtain ⟨⟨te,pe,h2⟩,_⟩:=hE w hw
  refine(Tryz.strconv_Atoi_syntax s (by omega) h (.iface te pe) w h2 (.inr ⟨te,pe,rfl⟩)).mono ?_
  rintro e w' ⟨N,rfl,_,_,hb⟩
  exact⟨_,rfl,hb⟩
 ·refine f70_bad s _ fun w hw=>?_
  obtain ⟨_,te,pe,h2⟩:=hE w hw
  refine(Tryz.strconv_Atoi_range s (by omega) h (.iface te pe) w h2 (.inr ⟨te,pe,rfl⟩)).mono ?_
  rintro e w' ⟨N,rfl,_,_,hb⟩
  exact⟨_,rfl,hb⟩
 ·refine FnOK.walk (orc:=orcSz v) (keep:=[]) follows Tryz.func70 rfl Tryz.call70 ?_
  refine of_tr (fun _ _ _ ZK=>(ZK 71 [(ds s)] (.tup [(di v),(.con .nilIface)])∧(ZS ((di (match Lib.NumEnd.ok v with|Lib.NumEnd.ok v=>v|Lib.NumEnd.range=>Lib.atoiSat s.data.toList|x=>0)):DV)))) (by kernel_rfl) ?_
  exact⟨f71_ok s hs v h,rfl⟩
def evOf (l:List ByteArray):Ev:=⟨sizeN (sAt l 0),⟨sAt l 1,sAt l 2,sizeN (sAt l 3)⟩,sizeN (sAt l 4),sizeN (sAt l 5),sizeN (sAt l 6),sAt l 7,decide (sAt l 8=⟨#[49]⟩)⟩
noncomputable def decOK (d:ByteArray):Bool:=decide (unE d.data.toList=0)&&(decide ((unL d.data.toList).length=9)&&(decide (encE (evOf (unL d.data.toList))=0)&&decide (encS (evOf (unL d.data.toList))=d)))
noncomputable def decV (d:ByteArray):Ev:=if decOK d=true then evOf (unL d.data.toList) else ev0
noncomputable def decC (d:ByteArray):Int:=if decOK d=true then 0 else 11
noncomputable def orc40D (L:List ByteArray) (c:Int) (S:ByteArray) (E:Int):Oracle:=fun f a=>match f,a with
 | 69,_=>some (.tup [sRow L,di c])
 | 70,[.con (.string s)]=>some (di (sizeN s))
 | 38,_=>some (.tup [ds S,di E])
 | _,_=>none
theorem un_small {X:List UInt8} (hX:X.length≤8000):∀i,(sAt (unL X) i).size≤8000:=by
 intro i
 unfold unL
 cases hu:unp X with
 | none=>exact Nat.zero_le _
 | some l=>
  show (sAt l i).size≤8000
  by_cases hi:i<l.length
  ·rw[sAt_get hi]
   have:=packL_small l _ (List.getElem_mem hi)
   rw[unp_pack hu] at this
   omega
  ·unfold sAt
   rw[List.getD,List.getElem?_eq_none (by omega)]
   exact Nat.zero_le _
theorem f40 (hT:Tab G) (hE:Errs G) (d:ByteArray) (hd:d.size≤8000):FnOK Tryz.prog G 40 [ds d] (.tup [evD (decV d),di (decC d)]):=by
 have h69:=f69 (G:=G) hT hE d hd
 have hsm:=un_small (X:=d.data.toList) (by rw[size_list];exact hd)
 have hD:decOK d=(decide (unE d.data.toList=0)&&(decide ((unL d.data.toList).length=9)&&(decide (encE (evOf (unL d.data.toList))=0)&&decide (encS (evOf (unL d.data.toList))=d)))):=rfl
 have hV:decV d=if decOK d=true then evOf (unL d.data.toList) else ev0:=rfl
 have hC:decC d=if decOK d=true then 0 else 11:=rfl
 have h38:=f38 (G:=G) hT (evOf (unL d.data.toList)) (by have:=hsm 1;show (sAt _ 1).size≤_;omega) (by have:=hsm 2;show (sAt _ 2).size≤_;omega)
 generalize unL d.data.toList=L at *
 generalize unE d.data.toList=c at *
 have hev:evOf L=⟨sizeN (sAt L 0),⟨sAt L 1,sAt L 2,sizeN (sAt L 3)⟩,sizeN (sAt L 4),sizeN (sAt L 5),sizeN (sAt L 6),sAt L 7,decide (sAt L 8=⟨#[49]⟩)⟩:=rfl
 generalize hSd:encS (evOf L)=S at *
 generalize hEd:encE (evOf L)=E at *
 refine FnOK.of_body Tryz.func40 rfl Tryz.call40 ?_
 refine walkK (orc:={ d:=orc40D L c S E }) (keep:=[]) (cuts:=[]) (n:=1000) follows ?_
 refine of_tr (fun _ _ _ ZK=>(fun Za Zb Zc=>(ZK 69 [(ds d)] (.tup [(.slc 1 L.length (strF L)),(di c)])∧(((c != 0||(↑L.length:Int) != 9)=true)→(Zb=Zc))∧(((c != 0||(↑L.length:Int) != 9)=false)→(((((0:Int)≤(0:Int))∧(0<(↑L.length:Int)))∧ZK 70 [(ds (sAt L (Int.toNat 0)))] (di (sizeN (sAt L (Int.toNat 0))))∧(((0:Int)≤(1:Int))∧(1<(↑L.length:Int)))∧(((0:Int)≤(2:Int))∧(2<(↑L.length:Int)))∧(((0:Int)≤(3:Int))∧(3<(↑L.length:Int)))∧ZK 70 [(ds (sAt L (Int.toNat 3)))] (di (sizeN (sAt L (Int.toNat 3))))∧(((0:Int)≤(4:Int))∧(4<(↑L.length:Int)))∧ZK 70 [(ds (sAt L (Int.toNat 4)))] (di (sizeN (sAt L (Int.toNat 4))))∧(((0:Int)≤(5:Int))∧(5<(↑L.length:Int)))∧ZK 70 [(ds (sAt L (Int.toNat 5)))] (di (sizeN (sAt L (Int.toNat 5))))∧(((0:Int)≤(6:Int))∧(6<(↑L.length:Int)))∧ZK 70 [(ds (sAt L (Int.toNat 6)))] (di (sizeN (sAt L (Int.toNat 6))))∧(((0:Int)≤(7:Int))∧(7<(↑L.length:Int)))∧((0:Int)≤(8:Int))∧(8<(↑L.length:Int)))∧ZK 38 [Za] (.tup [(ds S),(di E)])∧(((E != 0||!S.toList==d.toList)=true)→(Zb=Zc))∧(((E != 0||!S.toList==d.toList)=false)→(((.tup [Za,(di 0)]):DV)=Zc)))))) ((.agg [(di (sizeN (sAt L (Int.toNat 0)))),(ds (sAt L (Int.toNat 1))),(ds (sAt L (Int.toNat 2))),(di (sizeN (sAt L (Int.toNat 3)))),(di (sizeN (sAt L (Int.toNat 4)))),(di (sizeN (sAt L (Int.toNat 5)))),(di (sizeN (sAt L (Int.toNat 6)))),(ds (sAt L (Int.toNat 7))),(db ((sAt L (Int.toNat 8)).toList==(ByteArray.mk #[49]).toList))]):DV) ((.tup [(.agg [(di 0),(ds (ByteArray.mk #[])),(ds (ByteArray.mk #[])),(di 0),(di 0),(di 0),(di 0),(ds (ByteArray.mk #[])),(db false)]),(di 11)]):DV) ((.tup [(evD (decV d)),(di (decC d))]):DV)) (by kernel_rfl) ?_
 try dsimp only
 simp only[toList_beq]
 have ht:Int.toNat (0:Int)=0∧Int.toNat (1:Int)=1∧Int.toNat (2:Int)=2∧Int.toNat (3:Int)=3∧Int.toNat (4:Int)=4∧Int.toNat (5:Int)=5∧Int.toNat (6:Int)=6∧Int.toNat (7:Int)=7∧Int.toNat (8:Int)=8:=⟨rfl,rfl,rfl,rfl,rfl,rfl,rfl,rfl,rfl⟩
 obtain ⟨t0,t1,t2,t3,t4,t5,t6,t7,t8⟩:=ht
 rw[t0,t1,t2,t3,t4,t5,t6,t7,t8]
 have h70:∀i,FnOK Tryz.prog G 70 [ds (sAt L i)] (di (sizeN (sAt L i))):=fun i=>f70 hE _ (by have:=hsm i;omega)
 refine⟨h69,fun q=>?_,fun q=>?_⟩
 ·have hf:decOK d=false:=by
   rw[hD]
   rw[Bool.or_eq_true] at q
   rcases q with q|q
   ·have q:c≠0:=by simpa using q
    rw[decide_eq_false q];rfl
   ·have q:L.length≠9:=by
     intro e;rw[e] at q;exact absurd q (by decide)
    rw[decide_eq_false q,Bool.false_and,Bool.and_false]
  rw[hV,hC,hf];rfl
 ·have hc0:c=0∧L.length=9:=by
   rw[Bool.or_eq_false_iff] at q
   have q1:c=0:=by simpa using q.1
   have q2:(L.length:Int)=9:=by simpa using q.2
   exact⟨q1,by omega⟩
  obtain ⟨c0,l9⟩:=hc0
  rw[l9,decide_eq_true c0,Bool.true_and] at hD
  refine⟨⟨⟨by decide,by omega⟩,h70 0,⟨by decide,by omega⟩,⟨by decide,by omega⟩,⟨by decide,by omega⟩,h70 3,⟨by decide,by omega⟩,h70 4,⟨by decide,by omega⟩,h70 5,⟨by decide,by omega⟩,h70 6,⟨by decide,by omega⟩,by decide,by omega⟩,h38,fun q=>?_,fun q=>?_⟩
  ·have hf:decOK d=false:=by
    rw[hD]
    rw[Bool.or_eq_true] at q
    rcases q with q|q
    ·have q:E≠0:=by simpa using q
     rw[decide_eq_false q];rfl
    ·have q:S≠d:=by simpa using q
     rw[decide_eq_false q,Bool.and_false,Bool.and_false]
   rw[hV,hC,hf];rfl
  ·have ht:decOK d=true:=by
    rw[hD]
    rw[Bool.or_eq_false_iff] at q
    have q1:E=0:=by simpa using q.1
    have q2:S=d:=by simpa using q.2
    rw[decide_eq_true q1,decide_eq_true q2];rfl
   rw[hV,hC,ht];rfl
end Go.Proofs
/- Encode. -/
namespace Go.Proofs
open Go Go.Ab Go.RowKit
set_option maxHeartbeats 1000000
set_option maxRecDepth 100000
variable {G:IH}
theorem enc_ok {e:Ev} (h:okE e=true):encE e=0∧encS e=bs (packL (encF e))∧(packL (encF e)).length≤5000:=by
 obtain ⟨b1,b2,b3,b4,b5,b6⟩:=okE_bnd h
 obtain ⟨s1,s2⟩:=okE_sz h
 have q1:=itoa_len _ b1
 have q2:=itoa_len _ b2
 have q3:=itoa_len _ b3
 have q4:=itoa_len _ b4
 have q5:=itoa_len _ b5
 have hf:∀f:ByteArray,f.size≤100000→(fieldL f).length≤22+f.size:=fun f hf=>by
  rw[fieldL_len]
  have:=itoa_len (f.size:Int) ⟨by omega,by omega⟩
  omega
 have hacc:(bif e.acc then (⟨#[49]⟩:ByteArray) else ⟨#[48]⟩).size=1:=by cases e.acc<;>rfl
 have hl:(packL (encF e)).length≤5000:=by
  have r1:=hf (bs (Lib.itoa e.kind)) (by rw[bs_size];omega)
  have r2:=hf e.k.st (by omega)
  have r3:=hf e.k.ex (by omega)
  have r4:=hf (bs (Lib.itoa e.k.n)) (by rw[bs_size];omega)
  have r5:=hf (bs (Lib.itoa e.t)) (by rw[bs_size];omega)
  have r6:=hf (bs (Lib.itoa e.v)) (by rw[bs_size];omega)
  have r7:=hf (bs (Lib.itoa e.h)) (by rw[bs_size];omega)
  have r8:=hf e.s (by omega)
  have r9:=hf (bif e.acc then ⟨#[49]⟩ else ⟨#[48]⟩) (by rw[hacc];omega)
  rw[hacc] at r9
  rw[bs_size] at r1 r4 r5 r6 r7
  unfold encF
  simp only[packL,List.length_append,List.length_nil]
  omega
 have hb:packBad (encF e)=false:=by
  unfold packBad
  rw[Bool.or_eq_false_iff]
  exact⟨decide_eq_false (by simp[encF]),decide_eq_false (by omega)⟩
 unfold encE encS packE packS
 rw[h,hb]
 exact⟨rfl,rfl,hl⟩
def encBL (b:Bk):List ByteArray:=(evsB b).map encS
def encBS (b:Bk):ByteArray:=if valB okE b=true then packS (encBL b) else .empty
def encBE (b:Bk):Int:=if valB okE b=true then packE (encBL b) else 1
noncomputable def S30n (b:Bk):AS:=⟨regs Tryz.f30.ntmps [(1,.box 1 0),(2,vs ⟨#[]⟩),(3,vi 0),(4,.d (.con (.slice none 0 0))),(13,.d (evsD (evsB b))),(14,vi (evsB b).length),(15,vi 0)],[(1,(bkL b).map .d)]⟩
noncomputable def S30 (b:Bk) (j:Nat) (l:List ByteArray):AS:=⟨regs Tryz.f30.ntmps [(1,.box 1 0),(2,vs ⟨#[]⟩),(3,vi 0),(4,.vec 904 1 0 l.length),(13,.d (evsD (evsB b))),(14,vi (evsB b).length),(15,vi j)],[(1,(bkL b).map .d),(904,[.arr strK 1 (rowS l)])]⟩
def orc30D (b:Bk) (S:ByteArray) (E:Int) (l:List ByteArray):Oracle:=fun f _=>match f with
 | 32=>some (db (valB okE b))
 | 53=>some (evsD (evsB b))
 | 38=>some (.tup [ds S,di E])
 | 58=>some (.tup [ds (packS l),di (packE l)])
 | _=>none
def orc30 (b:Bk) (S:ByteArray) (E:Int) (l:List ByteArray):Orc:={ d:=orc30D b S E l,rows:=fun n=>Nat.beq n 29 }
theorem encBL_take {b:Bk} {j:Nat} (h:j<(evsB b).length):(encBL b).take (j+1)=(encBL b).take j++[encS ((evsB b).getD j ev0)]:=by
 unfold encBL
 rw[←List.map_take,←List.map_take,List.take_succ_eq_append_getElem h,List.map_append,List.getD,gEe h]
 rfl
theorem f30 (hT:Tab G) (b:Bk) (h:BkS b):FnOK Tryz.prog G 30 [bkD b] (.tup [ds (encBS b),di (encBE b)]):=by
 refine FnOK.of_body Tryz.func30 rfl Tryz.call30 ?_
 refine walkK (orc:=orc30 b .empty 0 []) (keep:=[]) (cuts:=[5]) (n:=1000) follows ?_
 refine of_tr (fun ZT ZW ZQ ZK=>(ZK 32 [(.agg [(di b.t),(.slc 7 b.es.length (enF b.es))])] (db (valB okE b))∧(((!valB okE b)=true)→(((.tup [(ds (ByteArray.mk #[])),(di 1)]):DV)=(.tup [(ds (encBS b)),(di (encBE b))])))∧(((!valB okE b)=false)→(ZK 53 [(.agg [(di b.t),(.slc 7 b.es.length (enF b.es))])] (.slc 9 (evsB b).length (evF (evsB b)))∧ZW [cd Tryz.f30 [1,1,1,0,1,0],(.blk 0),cd Tryz.f30 [1,1,1,1]] (stS ZT [1]) ZQ)))) (by kernel_rfl) ?_
 refine⟨h.f32,fun c=>?_,fun c=>⟨f53 b h.sz h.all,?_⟩⟩
 ·have c:valB okE b=false:=by simpa using c
  unfold encBS encBE
  rw[c];rfl
 have c:valB okE b=true:=by simpa using c
 have hl:=h.evs
 have hok:∀j,j<(evsB b).length→okE ((evsB b).getD j ev0)=true:=fun j hj=>by
  refine val_ok c _ ((srt_mem _).1 ?_)
  rw[List.getD,gEe hj]
  exact List.getElem_mem hj
 have hall:=val_all c
 have hel:(evsB b).length≤12544:=by unfold evsB;rw[srt_len];exact hall
 have hsm:SmallF (encBL b):=by
  refine⟨by unfold encBL;rw[List.length_map];omega,fun f hf=>?_⟩
  obtain ⟨e,he,rfl⟩:=List.mem_map.1 hf
  obtain ⟨_,q1,q2⟩:=enc_ok (val_ok c e ((srt_mem _).1 he))
  rw[q1,bs_size];omega
 unfold encBS encBE
 rw[if_pos c,if_pos c]
 refine AWP.weaken (st':=S30n b) ?_ ?_
 ·exact AS.leA (by kernel_rfl)
 refine AWP.pre (.nilRow _ 4 904 1 strK (rowS []) (by kernel_rfl) (by kernel_rfl)) ?_
 refine AWP.loop (c:=cAt (bodyOf Tryz.f30) [1,1,1,0,1,0,0]) (by kernel_rfl) (fun j=>S30 b j ((encBL b).take j)) (fun j=>j≤(evsB b).length) (fun j=>(evsB b).length-j) 0 ?_ (Nat.zero_le _) ?_
 ·refine AS.leZ [] [1] (b:=((T0∧T0∧T0∧T0∧T0∧T0∧T0∧True)∧T0∧((some [(.arr ⟨false,9,false,none⟩ 1 (rowS []))]):(Option (List AV)))=(some [(.arr ⟨false,9,false,none⟩ 1 (rowS (List.take 0 (encBL b))))])∧True)) (by kernel_rfl) (by kernel_rfl) ?_
  exact⟨⟨rfl,rfl,rfl,rfl,rfl,rfl,rfl,trivial⟩,rfl,rfl,trivial⟩
 intro j hj
 by_cases h2:j<(evsB b).length
 ·have hok:=hok j h2
  obtain ⟨e0,_,_⟩:=enc_ok hok
  obtain ⟨z1,z2⟩:=okE_sz hok
  have h38:=f38 (G:=G) hT ((evsB b).getD j ev0) (by omega) (by omega)
  rw[e0] at h38
  have htk:(encBL b).take (j+1)=(encBL b).take j++[encS ((evsB b).getD j ev0)]:=encBL_take h2
  have htl:((encBL b).take j).length≤12544:=by rw[List.length_take];omega
  generalize hLd:(encBL b).take j=L at htl htk⊢
  refine walkK (orc:=orc30 b (encS ((evsB b).getD j ev0)) 0 []) (keep:=[]) (cuts:=[]) (n:=1000) follows ?_
  refine of_rd (fun ZT ZW ZQ ZK ZA _=>(fun Za=>((((decide ((↑j:Int)<↑(evsB b).length))=true)→(((0≤(↑j:Int))∧((↑j:Int)<↑(evsB b).length))∧ZK 38 [(.agg [(di Za.kind),(ds Za.k.st),(ds Za.k.ex),(di Za.k.n),(di Za.t),(di Za.v),(di Za.h),(ds Za.s),(db Za.acc)])] (.tup [(ds (encS ((evsB b).getD j ev0))),(di 0)])∧((false=true)→(((.tup [(ds (ByteArray.mk #[])),(di 0)]):DV)=(.tup [(ds (packS (encBL b))),(di (packE (encBL b)))])))∧((false=false)→((((L.length+1)*16≤1099511627776)∧(L.length+1≤1099511627776))∧(I64 (↑j+1))∧(ZA (stS ZT [0,1]))))))∧(((decide ((↑j:Int)<↑(evsB b).length))=false)→ZW [cd Tryz.f30 [1,1,1,1]] (stS ZT [1]) ZQ))) ((evsB b).getD (↑j:Int).toNat ev0)) (by kernel_rfl) ?_
  try dsimp only
  rw[show ((j:Int)).toNat=j from rfl]
  refine⟨fun _=>⟨⟨by omega,by omega⟩,h38,fun q=>(by cases q),fun _=>⟨⟨by omega,by omega⟩,⟨by omega,by omega⟩,Again.mkR [(30,904)] rfl (j+1) ?_ h2 (by omega)⟩⟩,fun hd=>absurd (of_decide_eq_false hd) (by omega)⟩
  refine AS.leZ [3] [1] (b:=((T0∧T0∧T0∧((.vec 904 1 0 (L.length+1)):AV)=(.vec 904 1 0 (List.take (j+1) (encBL b)).length)∧T0∧T0∧T0∧True)∧T0∧((some [(.arr ⟨false,9,false,none⟩ 1 (fun i=>bif i.blt L.length then rowS L i else elemF false 1 [DV.con (Value.string (encS ((evsB b).getD j ev0)))] (0+(i-L.length))))]):(Option (List AV)))=(some [(.arr ⟨false,9,false,none⟩ 1 (rowS (List.take (j+1) (encBL b))))])∧True)) (by kernel_rfl) (by kernel_rfl) ?_
  rw[htk]
  refine⟨⟨rfl,rfl,rfl,?_,rfl,rfl,rfl,trivial⟩,rfl,?_,trivial⟩
  ·rw[List.length_append];rfl
  ·simp only[Nat.zero_add]
   rw[rowS_app]
 ·obtain rfl:j=(evsB b).length:=by omega
  rw[List.take_of_length_le (by unfold encBL;rw[List.length_map];exact Nat.le_refl _)]
  refine walkK (orc:=orc30 b .empty 0 []) (keep:=[]) (cuts:=[6]) (n:=1000) follows ?_
  refine of_rd (fun ZT ZW ZQ _ _ ZR=>((((decide ((↑(evsB b).length:Int)<↑(evsB b).length))=true)→ZW [cd Tryz.f30 [1,1,1,0,1,0,0,1,1,0,0],(.blk 1),cd Tryz.f30 [1,1,1,0,1,0,0,1,1,1]] (stS ZT [0]) ZR)∧(((decide ((↑(evsB b).length:Int)<↑(evsB b).length))=false)→ZW [cd Tryz.f30 [1,1,1,1]] (stS ZT [1]) ZQ))) (by kernel_rfl) ?_
  refine⟨fun hd=>absurd (of_decide_eq_true hd) (by omega),fun _=>?_⟩
  refine walkK (orc:=orc30 b .empty 0 (encBL b)) (keep:=[]) (cuts:=[]) (n:=1000) follows ?_
  refine of_tr (fun _ _ _ ZK=>(ZK 58 [(.slc 1 (encBL b).length (fun i=>rowS (encBL b) (0+i)))] (.tup [(ds (packS (encBL b))),(di (packE (encBL b)))])∧(ZS ((.tup [(ds (packS (encBL b))),(di (packE (encBL b)))]):DV)))) (by kernel_rfl) ?_
  exact⟨FnOK.args (f58 hT (encBL b) hsm) fun _ us hh=>DV.rels_cons (fun _ hv=>strL_sRow _ (DV.rel_slc_congr (fun i _=>by rw[Nat.zero_add]) hv)) (fun _ h=>h) us hh,rfl⟩
end Go.Proofs
/- Decode: what it answers;the loop's states. -/
namespace Go.Proofs
open Go Go.Ab Go.RowKit
set_option maxHeartbeats 4000000
set_option maxRecDepth 100000
variable {G:IH} {w:World}
noncomputable def repD:List ByteArray→Bk→Option Bk
 | [],b=>some b
 | s :: l,b=>if decOK s=true∧appC b (decV s)=0 then repD l (appB b (decV s)) else none
theorem decV_ok {s:ByteArray} (h:decOK s=true):okE (decV s)=true:=by
 unfold decV
 rw[if_pos h]
 unfold decOK at h
 simp only[bAt,decide_eq_true_eq] at h
 obtain ⟨_,_,h,_⟩:=h
 unfold encE at h
 cases c:okE (evOf (unL s.data.toList)) with
 | true=>rfl
 | false=>rw[c] at h;cases h
noncomputable def dcO (D:ByteArray):Bool:=decide (unE D.data.toList=0)&&(match repD (unL D.data.toList) bk0 with|some b=>decide (encBE b=0)&&decide (encBS b=D)|none=>false)
noncomputable def dcB (D:ByteArray):Bk:=if dcO D=true then (repD (unL D.data.toList) bk0).getD bk0 else bk0
noncomputable def dcC (D:ByteArray):Int:=if dcO D=true then 0 else 11
noncomputable def S42 (D:ByteArray) (L:List ByteArray) (p:Value) (j:Nat):AS:=⟨regs Tryz.f42.ntmps [(0,vs D),(2,.box 2 0),(3,vi 0),(6,.d (.con p)),(23,.d (sRow L)),(24,vi L.length),(25,vi j)],[(2,[.d (di 0),.d (.con (.slice none 0 0))])]⟩
def R42 (D:ByteArray) (w:World) (h:IH) (v:Value) (w':World):Prop:=∃u k,v=.tuple #[u,.int .i64 (dcC D)]∧DV.rel k (bkD (dcB D)) u∧h.le k∧k.holds w'∧Kept (fun _=>False) w w'∧∀c,c<w.heap.size→(∀o,k.cell c o=h.cell c o)∧k.obj c=h.obj c
structure Inv42 (L:List ByteArray) (w0:World) (h0:IH) (j:Nat) (hh:IH) (on:Nat→Prop) (β1 β:Nat→Nat) (V:Nat→Option Addr×Nat) (bj:Bk) (w:World):Prop where
 le:j≤L.length
 book:BkIn hh β V bj w
 apart:∀c,on c→w0.heap.size≤c∧¬Blks β bj.es.length c
 new:∀c,Blks β bj.es.length c→w0.heap.size≤c
 kept:Kept (fun _=>False) w0 w
 run:repD (L.drop j) bj=repD L bk0
 good:Good bj
 bnd:Bnd bj.es
 val:valB okE bj=true
 ext:h0.le hh
 old:∀c,c<w0.heap.size→(∀o,hh.cell c o=h0.cell c o)∧hh.obj c=h0.obj c
def orc42D (L:List ByteArray) (c:Int) (e:Ev) (code:Int) (S:ByteArray) (E:Int):Oracle:=fun f _=>match f with
 | 69=>some (.tup [sRow L,di c])
 | 40=>some (.tup [evD e,di code])
 | 30=>some (.tup [ds S,di E])
 | _=>none
def orc42 (L:List ByteArray) (c:Int) (e:Ev) (code:Int) (S:ByteArray) (E:Int):Orc:={ d:=orc42D L c e code S E }
noncomputable def S42i (D:ByteArray) (L:List ByteArray):AS:=⟨regs Tryz.f42.ntmps [(0,vs D),(2,.box 2 0),(3,vi 0),(6,.box 22 0),(23,.d (sRow L)),(24,vi L.length),(25,vi 0)],[(22,[.d (di 0),.d (.con (.slice none 0 0))]),(2,[.d (di 0),.d (.con (.slice none 0 0))])]⟩
theorem dcO_no {D:ByteArray} (h:repD (unL D.data.toList) bk0=none):dcO D=false:=by
 unfold dcO
 rw[h,Bool.and_false]
theorem dcO_iff {D:ByteArray} {b:Bk} (h0:unE D.data.toList=0) (h:repD (unL D.data.toList) bk0=some b):dcO D=(decide (encBE b=0)&&decide (encBS b=D)):=by
 unfold dcO
 rw[h,decide_eq_true h0,Bool.true_and]
def vw42 (b:Bk):Nat→Option AV
 | 45=>some (.d (.ptr (bkL b)))
 | 60=>some (.d (.ptr (bkL b)))
 | _=>none
theorem nil_book {k:IH} {v:Value} (h:DV.rel k (.agg [di 0,.con (.slice none 0 0)]) v):DV.rel k (bkD bk0) v:=by
 obtain ⟨vs,rfl,v0,vs1,rfl,r0,v1,vs2,rfl,r1,r2⟩:=h
 exact⟨_,rfl,_,_,rfl,r0,_,_,rfl,⟨none,0,r1,Nat.le_refl _,.inl rfl⟩,r2⟩
theorem holds_le {a b:IH} {w:World} (h:a.le b) (hw:b.holds w):a.holds w:=⟨fun x o v e=>hw.1 x o v (h.1 x o v e),fun x o e=>hw.2 x o (h.2 x o e)⟩
theorem f42_none {D:ByteArray} {w0 w:World} {h0 hh:IH} {on:Nat→Prop} {β1:Nat→Nat} (hD:dcO D=false) (hon:∀c,on c→w0.heap.size≤c) (hk:Kept (fun _=>False) w0 w) (hext:h0.le hh) (hold:∀c,c<w0.heap.size→(∀o,hh.cell c o=h0.cell c o)∧hh.obj c=h0.obj c) {st:AS} (hr:resVars Tryz.prog st Tryz.f42.results.toList=some [.d (.agg [di 0,.con (.slice none 0 0)]),.d (di 11)]):LeafR hh ⟨on,β1⟩ w hh (RetR Tryz.prog Tryz.f42 (R42 D w0 h0)) .ret st:=by
 refine leafRet2 rfl hr fun β3 k3 tm w3 v u g3 hv hu=>?_
 have hu:u=.int .i64 11:=hu
 subst hu
 have e1:dcB D=bk0:=by unfold dcB;rw[hD];rfl
 have e2:dcC D=11:=by unfold dcC;rw[hD];rfl
 refine⟨v,k3,by rw[e2],by rw[e1];exact nil_book hv,hext.trans g3.glob,g3.holds,keptCut ((hk.mono fun _ hc=>hc.elim).trans (g3.kept.mono fun c hc=>.inr (hon c hc))),fun c hlt=>?_⟩
 obtain ⟨o1,o2⟩:=g3.old c (Nat.lt_of_lt_of_le hlt hk.size) (fun hc=>by have:=hon c hc;omega)
 exact⟨fun o=>(o1 o).trans ((hold c hlt).1 o),o2.trans (hold c hlt).2⟩
theorem f42_end (hT:Tab G) {D:ByteArray} {w0 w:World} {hh:IH} {on:Nat→Prop} {β1 β:Nat→Nat} {V:Nat→Option Addr×Nat} {bj:Bk} {j:Nat} (hE0:unE D.data.toList=0) (q:Inv42 (unL D.data.toList) w0 G j hh on β1 β V bj w) (hj:(unL D.data.toList).length≤j) {β2:Nat→Nat} {h2:IH} {a:Act} {w2:World} (g:Gam hh ⟨on,β1⟩ w hh (S42 D (unL D.data.toList) (ptr0 β) j) β2 h2 a.tmps w2) (hd:a.defers=[]) :
  wpS Tryz.prog [cd Tryz.f42 [1,1,1,1,1]] (RetR Tryz.prog Tryz.f42 (R42 D w0 G)) .normal a w2:=by
 have hB:=q.book.next g fun c hc=>(q.apart c hc).2
 obtain ⟨k,hk,hle,hkw,_,hp⟩:=hB.data
 have hlk:∀s l,(S42 D (unL D.data.toList) (ptr0 β) j).box s=some l→s=2∧Live β2 s l:=by
  intro s l hl
  simp only[S42,AS.box,Go.Ab.look] at hl
  by_cases e2:(2:Nat)=s
  ·subst e2;simp at hl;subst hl;exact⟨rfl,trivial⟩
  ·rw[beq_ne e2,cond_false] at hl;cases hl
 have hnot:∀s l,(S42 D (unL D.data.toList) (ptr0 β) j).box s=some l→w0.heap.size≤blk β2 s∧¬Blks β bj.es.length (blk β2 s):=fun s l hl=>by
  obtain ⟨q1,_⟩:=(g.box s l hl).1 (hlk s l hl).2
  rcases q1 with q1|q1
  ·exact q.apart _ q1
  ·refine⟨Nat.le_trans q.kept.size q1,?_⟩
   rintro ⟨t,t1,t2,t3⟩
   have:=q.book.lt t1 t2
   omega
 have g2:=gamUp (gamRestart g) hle hkw (fun s l hl hv=>by
  obtain ⟨_,r1,r2⟩:=(g.box s l hl).1 hv
  rw[hk]
  exact⟨fun o=>by rw[IH.add_out (hnot s l hl).2];exact r1 o,r2⟩)
 have hr:=q.run
 rw[List.drop_eq_nil_of_le hj] at hr
 have hr:repD (unL D.data.toList) bk0=some bj:=hr.symm
 have hdc:=dcO_iff hE0 hr
 have hkw2:Kept (fun _=>False) w0 w2:=keptCut ((q.kept.mono fun _ hc=>hc.elim).trans (g.kept.mono fun c hc=>.inr (q.apart c hc).1))
 have hext:G.le k:=(q.ext.trans g.glob).trans hle
 have hold:∀c,c<w0.heap.size→(∀o,k.cell c o=G.cell c o)∧k.obj c=G.obj c:=fun c hlt=>by
  obtain ⟨o1,o2⟩:=g.old c (Nat.lt_of_lt_of_le hlt q.kept.size) (fun hc=>by have:=(q.apart c hc).1;omega)
  have hnb:¬Blks β bj.es.length c:=fun hc=>by have:=q.new c hc;omega
  rw[hk]
  exact⟨fun o=>by rw[IH.add_out hnb];exact(o1 o).trans ((q.old c hlt).1 o),o2.trans (q.old c hlt).2⟩
 have h30:FnOK Tryz.prog k 30 [bkD bj] (.tup [ds (encBS bj),di (encBE bj)]):=f30 (fun w hw=>hT w (holds_le hext hw)) bj (bkS_val q.val)
 have hA:AWPR Tryz.prog k ⟨fun c=>∃s l,(S42 D (unL D.data.toList) (ptr0 β) j).box s=some l∧Live β2 s l∧blk β2 s=c,β2⟩ w2 k [cd Tryz.f42 [1,1,1,1,1]] (S42 D (unL D.data.toList) (ptr0 β) j) (RetR Tryz.prog Tryz.f42 (R42 D w0 G)):=by
  refine walkRV (orc:=orc42 [] 0 ev0 0 (encBS bj) (encBE bj)) follows (vw42 bj) (cuts:=[]) (n:=1000) ?_
  refine of_eqH6 ((.d (.ptr [(di bj.t),(.slc 7 bj.es.length (enF bj.es))])):AV) ((.d (.con (.pointer (some (Addr.mk (β (3*0)) 0 none))))):AV) ((.tup [(ds (encBS bj)),(di (encBE bj))]):DV) ((.agg [(di bj.t),(.slc 7 bj.es.length (enF bj.es))]):DV) (encBE bj != 0||!(encBS bj).toList==D.toList) (S42 D (unL D.data.toList) (ptr0 β) j) (fun Za Zb Zc Zd Ze Zf=>((ViewF k (Fr.mk (fun c=>∃s l,Zf.box s=some l∧Live β2 s l∧blk β2 s=c) β2) Zb Za∧FnOK Tryz.prog k 30 [Zd] Zc)∧((Ze=true)→LeafR k (Fr.mk (fun c=>∃s l,Zf.box s=some l∧Live β2 s l∧blk β2 s=c) β2) w2 k (RetR Tryz.prog Tryz.f42 (R42 D w0 G)) .ret ⟨regs 64 [(0,(vs D)),(2,(.box 2 0)),(3,(vi 11)),(6,Zb),(11,(vs (encBS bj))),(12,(vi (encBE bj))),(23,(.d (.slc 1 (unL D.data.toList).length (strF (unL D.data.toList))))),(24,(vi (↑(unL D.data.toList).length))),(25,(vi (↑j))),(44,(.d Zc)),(45,Za),(46,Za),(47,Za),(48,(.d Zd)),(49,(.d Zc)),(50,(vs (encBS bj))),(51,(vi (encBE bj))),(52,(vi (encBE bj))),(53,(vb (encBE bj != 0))),(54,(vb (encBE bj != 0))),(58,(vb Ze)),(59,(.d (.agg [(di 0),(.con (.slice none 0 0))])))],[(2,[(vi 0),(.d (.con (.slice none 0 0)))])]⟩)∧((Ze=false)→(ViewF k (Fr.mk (fun c=>∃s l,Zf.box s=some l∧Live β2 s l∧blk β2 s=c) β2) Zb Za∧LeafR k (Fr.mk (fun c=>∃s l,Zf.box s=some l∧Live β2 s l∧blk β2 s=c) β2) w2 k (RetR Tryz.prog Tryz.f42 (R42 D w0 G)) .ret ⟨regs 64 [(0,(vs D)),(2,(.box 2 0)),(3,(vi 0)),(6,Zb),(11,(vs (encBS bj))),(12,(vi (encBE bj))),(23,(.d (.slc 1 (unL D.data.toList).length (strF (unL D.data.toList))))),(24,(vi (↑(unL D.data.toList).length))),(25,(vi (↑j))),(44,(.d Zc)),(45,Za),(46,Za),(47,Za),(48,(.d Zd)),(49,(.d Zc)),(50,(vs (encBS bj))),(51,(vi (encBE bj))),(52,(vi (encBE bj))),(53,(vb (encBE bj != 0))),(54,(vb (encBE bj != 0))),(58,(vb Ze)),(60,Za),(61,Za),(62,Za),(63,(.d Zd))],[(2,[(vi bj.t),(.d (.slc 7 bj.es.length (enF bj.es)))])]⟩)))) (by kernel_rfl) ?_
  try dsimp only
  have hon:∀c,(∃s l,(S42 D (unL D.data.toList) (ptr0 β) j).box s=some l∧Live β2 s l∧blk β2 s=c)→w0.heap.size≤c:=by
   rintro c ⟨s,l,hl,_,rfl⟩
   exact(hnot s l hl).1
  have hview:∀(β3:Nat→Nat) (h3:IH) (v:Value),k.le h3→(AV.d (.con (ptr0 β))).rel β3 h3 v→(AV.d (.ptr (bkL bj))).rel β3 h3 v:=fun β3 h3 v hG r=>by
   have r:v=_:=r
   subst r
   exact DV.rel.mono hG _ _ hp
  refine⟨⟨fun β3 h3 v hG _ r=>hview β3 h3 v hG r,h30⟩,fun c=>?_,fun c=>⟨fun β3 h3 v hG _ r=>hview β3 h3 v hG r,?_⟩⟩
  ·have hno:dcO D=false:=by
    rw[hdc]
    rw[toList_beq,Bool.or_eq_true] at c
    rcases c with c|c
    ·have c:encBE bj≠0:=by simpa using c
     rw[decide_eq_false c];rfl
    ·have c:encBS bj≠D:=by simpa using c
     rw[decide_eq_false c,Bool.and_false]
   exact f42_none hno hon hkw2 hext hold rfl
  ·have hyes:dcO D=true:=by
    rw[hdc]
    rw[toList_beq,Bool.or_eq_false_iff] at c
    have c1:encBE bj=0:=by simpa using c.1
    have c2:encBS bj=D:=by simpa using c.2
    rw[decide_eq_true c1,decide_eq_true c2];rfl
   refine leafRet2 (x:=.d (bkD bj)) (y:=.d (di 0)) rfl rfl fun β3 k3 tm w3 v u g3 hv hu=>?_
   have hu:u=.int .i64 0:=hu
   subst hu
   have e1:dcB D=bj:=by unfold dcB;rw[if_pos hyes,hr];rfl
   have e2:dcC D=0:=by unfold dcC;rw[if_pos hyes]
   refine⟨v,k3,by rw[e2],by rw[e1];exact hv,hext.trans g3.glob,g3.holds,keptCut ((hkw2.mono fun _ hc=>hc.elim).trans (g3.kept.mono fun c hc=>.inr (hon c hc))),fun c hlt=>?_⟩
   obtain ⟨o1,o2⟩:=g3.old c (Nat.lt_of_lt_of_le hlt hkw2.size) (fun hc=>by have:=hon c hc;omega)
   exact⟨fun o=>(o1 o).trans ((hold c hlt).1 o),o2.trans (hold c hlt).2⟩
 exact hA β2 k a w2 g2 hd
end Go.Proofs
/- Decode: a round. -/
namespace Go.Proofs
open Go Go.Ab Go.RowKit
set_option maxHeartbeats 4000000
set_option maxRecDepth 100000
variable {G:IH} {w:World}
noncomputable abbrev body42:List It:=[cd Tryz.f42 [1,1,1,1,0,1,0,0]]
noncomputable abbrev rest42:List It:=[.blk 0,cd Tryz.f42 [1,1,1,1,1]]
def I42 (D:ByteArray) (L:List ByteArray) (w0:World) (h0:IH) (n:Nat) (a:Act) (w:World):Prop:=∃j hh on β1 β V bj,n=L.length-j∧Inv42 L w0 h0 j hh on β1 β V bj w∧Gam hh ⟨on,β1⟩ w hh (S42 D L (ptr0 β) j) β1 hh a.tmps w∧a.defers=[]
noncomputable abbrev Q42 (D:ByteArray) (L:List ByteArray) (w0:World) (h0:IH) (n:Nat):Exit→Act→World→Prop:=RoundR Tryz.prog rest42 (RetR Tryz.prog Tryz.f42 (R42 D w0 h0)) (I42 D L w0 h0) n
noncomputable def S42k (D:ByteArray) (L:List ByteArray) (p:Value) (j:Nat) (e:Ev):AS:=⟨regs Tryz.f42.ntmps [(0,vs D),(2,.box 2 0),(3,vi 0),(6,.d (.con p)),(23,.d (sRow L)),(24,vi L.length),(25,vi j),(36,.d (db false)),(37,.gate 36 false true (.d (.con p))),(38,.gate 36 false true (.d (evD e)))],[(2,[.d (di 0),.d (.con (.slice none 0 0))])]⟩
noncomputable def S42l (D:ByteArray) (L:List ByteArray) (p:Value) (j:Nat):AS:=⟨regs Tryz.f42.ntmps [(0,vs D),(2,.box 2 0),(3,vi 0),(6,.d (.con p)),(23,.d (sRow L)),(24,vi L.length),(25,vi j),(36,.d (db false))],[(2,[.d (di 0),.d (.con (.slice none 0 0))])]⟩
noncomputable def S42m (D:ByteArray) (L:List ByteArray) (p:Value) (j:Nat) (code:Int):AS:=⟨regs Tryz.f42.ntmps [(0,vs D),(2,.box 2 0),(3,vi 0),(6,.d (.con p)),(23,.d (sRow L)),(24,vi L.length),(25,vi j),(36,.d (db false)),(39,.d (di code))],[(2,[.d (di 0),.d (.con (.slice none 0 0))])]⟩
noncomputable def S42n (D:ByteArray) (L:List ByteArray) (p:Value) (j:Nat) (e:Ev):AS:=⟨regs Tryz.f42.ntmps [(0,vs D),(2,.box 2 0),(3,vi 0),(6,.d (.con p)),(9,.box 9 0),(10,vi 0),(23,.d (sRow L)),(24,vi L.length),(25,vi j)],[(9,(evL e).map .d),(2,[.d (di 0),.d (.con (.slice none 0 0))])]⟩
theorem dcO_drop {D:ByteArray} {w0:World} {j:Nat} {hh:IH} {on:Nat→Prop} {β1 β:Nat→Nat} {V:Nat→Option Addr×Nat} {bj:Bk} {w:World} (q:Inv42 (unL D.data.toList) w0 G j hh on β1 β V bj w) (hj:j<(unL D.data.toList).length) (h:¬(decOK (sAt (unL D.data.toList) j)=true∧appC bj (decV (sAt (unL D.data.toList) j))=0)):dcO D=false:=by
 have hr:=q.run
 rw[List.drop_eq_getElem_cons hj,←sAt_get hj] at hr
 have:repD (sAt (unL D.data.toList) j :: (unL D.data.toList).drop (j+1)) bj=none:=by
  show (if _ then _ else _)=_
  rw[if_neg h]
 rw[this] at hr
 exact dcO_no hr.symm
theorem f42_post {D:ByteArray} {w0:World} {j:Nat} {hh:IH} {on:Nat→Prop} {β1 β:Nat→Nat} {V:Nat→Option Addr×Nat} {bj:Bk} {w:World} (q:Inv42 (unL D.data.toList) w0 G j hh on β1 β V bj w) (hj:j<(unL D.data.toList).length) (hlen:(unL D.data.toList).length≤1000000) {e:Ev} (hde:decOK (sAt (unL D.data.toList) j)=true) (he:e=decV (sAt (unL D.data.toList) j)) {F:Fr} {hx:IH} {β':Nat→Nat} {V':Nat→Option Addr×Nat} {w3:World} {code:Int} (h0':blk β' 0=blk β 0) (hc:code=appC bj e)
  (hB:BkIn hx β' V' (if appC bj e=0 then appB bj e else bj) w3) (hon:∀c,F.on c→w0.heap.size≤c∧¬Blks β' (if appC bj e=0 then appB bj e else bj).es.length c) (hnew:∀c,Blks β' (if appC bj e=0 then appB bj e else bj).es.length c→w0.heap.size≤c) (hk:Kept (fun _=>False) w0 w3) (hext:G.le hx) (hold:∀c,c<w0.heap.size→(∀o,hx.cell c o=G.cell c o)∧hx.obj c=G.obj c) :
  SeqR Tryz.prog hx F w3 hx (opsOf (cAt (bodyOf Tryz.f42) [1,1,1,1,0,1,0,0,1,1,0,0,1,1,0])).toList 6 (2+0) (S42m D (unL D.data.toList) (ptr0 β) j code) (wpS Tryz.prog [cd Tryz.f42 [1,1,1,1,0,1,0,0,1,1,0,0,1,1,1],.blk 1,cd Tryz.f42 [1,1,1,1,0,1,0,0,1,1,1]] (Q42 D (unL D.data.toList) w0 G ((unL D.data.toList).length-j))):=by
 refine SeqR.tree (orc:={ d:=noO }) ?_
 refine of_eqH (b:=LeafR hx F w3 hx (seqQ Tryz.prog (opsOf (cAt (bodyOf Tryz.f42) [1,1,1,1,0,1,0,0,1,1,0,0,1,1,0])).toList (6+2) 0 (wpS Tryz.prog [cd Tryz.f42 [1,1,1,1,0,1,0,0,1,1,0,0,1,1,1],It.blk 1,cd Tryz.f42 [1,1,1,1,0,1,0,0,1,1,1]] (Q42 D (unL D.data.toList) w0 G ((unL D.data.toList).length-j)))) .normal ⟨regs 64 [(0,(vs D)),(2,(.box 2 0)),(3,(vi 0)),(6,(.d (.con (.pointer (some (Addr.mk (β (3*0)) 0 none)))))),(23,(.d (.slc 1 (unL D.data.toList).length (strF (unL D.data.toList))))),(24,(vi (↑(unL D.data.toList).length))),(25,(vi (↑j))),(36,(vb false)),(39,(vi code)),(40,(.gate 36 false true (vb (code != 0)))),(41,(vb (false||code != 0)))],[(2,[(vi 0),(.d (.con (.slice none 0 0)))])]⟩) (by kernel_rfl) ?_
 refine LeafR.seq_done ?_
 refine walkRV (orc:={ d:=noO }) follows (fun _=>none) (cuts:=[]) (n:=1000) ?_
 refine of_eqH (b:=((((false||code != 0)=true)→LeafR hx F w3 hx (Q42 D (unL D.data.toList) w0 G ((unL D.data.toList).length-j)) .ret ⟨regs 64 [(0,(vs D)),(2,(.box 2 0)),(3,(vi 11)),(6,(.d (.con (.pointer (some (Addr.mk (β (3*0)) 0 none)))))),(23,(.d (.slc 1 (unL D.data.toList).length (strF (unL D.data.toList))))),(24,(vi (↑(unL D.data.toList).length))),(25,(vi (↑j))),(36,(vb false)),(39,(vi code)),(41,(vb (false||code != 0))),(42,(.d (.agg [(di 0),(.con (.slice none 0 0))])))],[(2,[(vi 0),(.d (.con (.slice none 0 0)))])]⟩)∧(((false||code != 0)=false)→((I64 (↑j+1))∧LeafR hx F w3 hx (Q42 D (unL D.data.toList) w0 G ((unL D.data.toList).length-j)) .normal ⟨regs 64 [(0,(vs D)),(2,(.box 2 0)),(3,(vi 0)),(6,(.d (.con (.pointer (some (Addr.mk (β (3*0)) 0 none)))))),(23,(.d (.slc 1 (unL D.data.toList).length (strF (unL D.data.toList))))),(24,(vi (↑(unL D.data.toList).length))),(25,(vi (↑j+1))),(36,(vb false)),(39,(vi code)),(41,(vb (false||code != 0))),(43,(vi (↑j+1)))],[(2,[(vi 0),(.d (.con (.slice none 0 0)))])]⟩)))) (by kernel_rfl) ?_
 refine⟨fun c=>?_,fun c=>⟨⟨by omega,by omega⟩,?_⟩⟩
 ·have c:code≠0:=by simpa using c
  exact f42_none (dcO_drop q hj (by rw[←he];exact fun ⟨_,x⟩=>c (hc.trans x))) (fun c hc=>(hon c hc).1) hk hext hold rfl
 ·have c:code=0:=by simpa using c
  rw[c] at hc
  rw[if_pos hc.symm] at hB hon hnew
  have hoke:okE e=true:=by rw[he];exact decV_ok hde
  intro β4 h4 a4 w4 g4 hd4
  have hw4:Kept (fun _=>False) w0 w4:=keptCut ((hk.mono fun _ hc=>hc.elim).trans (g4.kept.mono fun c hc=>.inr (hon c hc).1))
  have hB4:BkIn h4 β' V' (appB bj e) w4:=hB.next g4 fun c hc=>(hon c hc).2
  have hp0:ptr0 β'=ptr0 β:=by
   show Value.pointer _=Value.pointer _
   rw[h0']
  have gr:=(gamRestart g4).weaken (st':=S42 D (unL D.data.toList) (ptr0 β') (j+1)) (by
   refine AS.leZ [3] [] (b:=((T0∧T0∧T0∧((.d (.con (.pointer (some (Addr.mk (β (3*0)) 0 none))))):AV)=(.d (.con (.pointer (some (Addr.mk (β' (3*0)) 0 none)))))∧T0∧T0∧T0∧True)∧T0∧True)) (by kernel_rfl) (by kernel_rfl) ?_
   exact⟨⟨rfl,rfl,rfl,congrArg (fun p=>AV.d (.con p)) hp0.symm,rfl,rfl,rfl,trivial⟩,rfl,trivial⟩)
  have hlk:∀s l,Go.Ab.look [(2,[AV.d (di 0),.d (.con (.slice none 0 0))])] s=some l→s=2∧Live β4 s l:=by
   intro s l hl
   simp only[Go.Ab.look] at hl
   by_cases e2:(2:Nat)=s
   ·subst e2;simp at hl;subst hl;exact⟨rfl,trivial⟩
   ·rw[beq_ne e2,cond_false] at hl;cases hl
  refine⟨(unL D.data.toList).length-(j+1),by omega,j+1,h4,_,β4,β',V',appB bj e,rfl,⟨by omega,hB4,fun c hc'=>?_,hnew,hw4,?_,good_step q.good hc.symm,bnd_step q.bnd hc.symm,val_step (fun _=>ok_form) q.val hoke hc.symm,hext.trans g4.glob,fun c hlt=>?_⟩,gr,hd4⟩
  ·obtain ⟨s,l,hl,hv,rfl⟩:=hc'
   rcases ((g4.box s l hl).1 hv).1 with q1|q1
   ·exact hon _ q1
   ·refine⟨Nat.le_trans hk.size q1,?_⟩
    rintro ⟨t,t1,t2,t3⟩
    have:=hB.lt t1 t2
    omega
  ·rw[←q.run,List.drop_eq_getElem_cons hj,←sAt_get hj]
   show _=if _ then _ else _
   rw[←he,if_pos ⟨hde,hc.symm⟩]
  ·obtain ⟨o1,o2⟩:=g4.old c (Nat.lt_of_lt_of_le hlt hk.size) (fun hc=>by have:=(hon c hc).1;omega)
   exact⟨fun o=>(o1 o).trans ((hold c hlt).1 o),o2.trans (hold c hlt).2⟩
theorem f42_exit (hT:Tab G) {D:ByteArray} {w0 w:World} {hh:IH} {on:Nat→Prop} {β1 β:Nat→Nat} {V:Nat→Option Addr×Nat} {bj:Bk} {j:Nat} (hE0:unE D.data.toList=0) (q:Inv42 (unL D.data.toList) w0 G j hh on β1 β V bj w) (hj:(unL D.data.toList).length≤j) {st:AS} (hst:st.le (S42 D (unL D.data.toList) (ptr0 β) j)) {m:Nat}:LeafR hh ⟨on,β1⟩ w hh (Q42 D (unL D.data.toList) w0 G m) (.exit 0) st:=by
 intro β2 h2 a2 w2 g2 hd2
 show wpS Tryz.prog rest42 (RetR Tryz.prog Tryz.f42 (R42 D w0 G)) (.exit 0) a2 w2
 refine wpS_exit (k:=rest42) ?_
 show wpS Tryz.prog [cd Tryz.f42 [1,1,1,1,1]] (RetR Tryz.prog Tryz.f42 (R42 D w0 G)) .normal a2 w2
 exact f42_end hT hE0 q hj (g2.weaken hst) hd2
theorem f42_call {D:ByteArray} {w0 w:World} {hh:IH} {on:Nat→Prop} {β1 β:Nat→Nat} {V:Nat→Option Addr×Nat} {bj:Bk} {j:Nat} (q:Inv42 (unL D.data.toList) w0 G j hh on β1 β V bj w) (hj:j<(unL D.data.toList).length) (hlen:(unL D.data.toList).length≤1000000) {e:Ev} (hde:decOK (sAt (unL D.data.toList) j)=true) (he:e=decV (sAt (unL D.data.toList) j)) :
  SeqR Tryz.prog hh ⟨on,β1⟩ w hh (opsOf (cAt (bodyOf Tryz.f42) [1,1,1,1,0,1,0,0,1,1,0,0,1,1,0])).toList 5 (2+1) (S42k D (unL D.data.toList) (ptr0 β) j e) (wpS Tryz.prog [cd Tryz.f42 [1,1,1,1,0,1,0,0,1,1,0,0,1,1,1],.blk 1,cd Tryz.f42 [1,1,1,1,0,1,0,0,1,1,1]] (Q42 D (unL D.data.toList) w0 G ((unL D.data.toList).length-j))):=by
 have hoke:okE e=true:=by rw[he];exact decV_ok hde
 refine SeqR.call (c:={ callee:=.value (.func 45),args:=#[.tmp 37,.tmp 38],argTypes:=#[73,26] }) (g:=45) (a1:=[]) (a2:=[]) (γ:=some (36,false,true)) rfl rfl rfl (by kernel_rfl) (fun _ _ _ hq=>by cases hq;rfl) (by kernel_rfl) Tryz.call45 ?_
 intro β2 h2 a w3 vs g1 hd hvs
 obtain ⟨v0,vs1,rfl,r0,v1,vs2,rfl,r1,r3⟩:=hvs
 have r3:vs2=[]:=r3
 subst r3
 have r0:v0=ptr0 β:=r0.1 rfl
 subst r0
 have r1:DV.rel h2 (evD e) v1:=r1.1 rfl
 have hB:=q.book.next g1 fun c hc=>(q.apart c hc).2
 have hk3:Kept (fun _=>False) w0 w3:=keptCut ((q.kept.mono fun _ hc=>hc.elim).trans (g1.kept.mono fun c hc=>.inr (q.apart c hc).1))
 refine(f45_W hB (szB_of q.good q.bnd) (by have:=allE_len q.bnd;have:=q.good.few;omega) q.bnd e (ok_form hoke) r1).mono ?_
 rintro r w' ⟨v,rfl,hp⟩
 refine⟨v,rfl,?_⟩
 obtain ⟨hpc,hpk,β',V',h0',hB',hbl⟩:=hp
 subst hpc
 have gz:=(gamRestart g1).weaken (st':=S42l D (unL D.data.toList) (ptr0 β) j) (by refine AS.leZ [] [] (b:=((T0∧T0∧T0∧T0∧T0∧T0∧T0∧T0∧True)∧T0∧True)) (by kernel_rfl) (by kernel_rfl) ?_;exact⟨⟨rfl,rfl,rfl,rfl,rfl,rfl,rfl,rfl,trivial⟩,rfl,trivial⟩)
 have hl1:(S42k D (unL D.data.toList) (ptr0 β) j e).box 2=some [.d (di 0),.d (.con (.slice none 0 0))]:=rfl
 have hb1:=(g1.box 2 _ hl1)
 have hlt1:blk β2 2<w3.heap.size:=Own.lt (show Live β2 2 [.d (di 0),.d (.con (.slice none 0 0))] from trivial) hb1.2
 have h1n:w0.heap.size≤blk β2 2∧¬Blks β bj.es.length (blk β2 2):=by
  rcases (hb1.1 trivial).1 with q1|q1
  ·exact q.apart _ q1
  ·refine⟨Nat.le_trans q.kept.size q1,?_⟩
   rintro ⟨t,t1,t2,t3⟩
   have:=q.book.lt t1 t2
   omega
 have hlz:∀s l,Go.Ab.look [(2,[AV.d (di 0),.d (.con (.slice none 0 0))])] s=some l→s=2∧Live β2 s l:=by
  intro s l hl
  simp only[Go.Ab.look] at hl
  by_cases e2:(2:Nat)=s
  ·subst e2;simp at hl;subst hl;exact⟨rfl,trivial⟩
  ·rw[beq_ne e2,cond_false] at hl;cases hl
 have gb:=gamWorld gz hB'.hold hpk (fun s l hl=>by
  obtain ⟨e1,e2⟩:=hlz s l hl
  subst e1
  exact⟨e2,h1n.2⟩)
 have gc:=gb.put (t:=some 39) (x:=.d (di (appC bj e))) (v:=.int .i64 (appC bj e)) rfl
 have ge:=gc.weaken (st':=S42m D (unL D.data.toList) (ptr0 β) j (appC bj e)) (by refine AS.leZ [] [] (b:=((T0∧T0∧T0∧T0∧T0∧T0∧T0∧T0∧T0∧True)∧T0∧True)) (by kernel_rfl) (by kernel_rfl) ?_;exact⟨⟨rfl,rfl,rfl,rfl,rfl,rfl,rfl,rfl,rfl,trivial⟩,rfl,trivial⟩)
 have hw3:=hk3.size
 refine f42_post q hj hlen hde he h0' rfl hB' (fun c hc=>?_) (fun c hc=>?_) (keptCut ((hk3.mono fun _ hc=>hc.elim).trans (hpk.mono fun c hc=>.inr (q.new c hc)))) (q.ext.trans g1.glob) (fun c hlt=>?_) _ _ _ _ ge hd
 ·obtain ⟨s,l,hl,_,rfl⟩:=hc
  obtain ⟨e1,_⟩:=hlz s l hl
  subst e1
  refine⟨h1n.1,fun hq=>?_⟩
  rcases hbl _ hq with q1|q1
  ·exact h1n.2 q1
  ·omega
 ·rcases hbl _ hc with q1|q1
  ·exact q.new _ q1
  ·omega
 ·obtain ⟨o1,o2⟩:=g1.old c (Nat.lt_of_lt_of_le hlt q.kept.size) (fun hc=>by have:=(q.apart c hc).1;omega)
  exact⟨fun o=>(o1 o).trans ((q.old c hlt).1 o),o2.trans (q.old c hlt).2⟩
end Go.Proofs
/- Decode: the whole. -/
namespace Go.Proofs
open Go Go.Ab Go.RowKit
set_option maxHeartbeats 4000000
set_option maxRecDepth 100000
variable {G:IH} {w:World}
theorem decC_iff (d:ByteArray):decC d=if decOK d=true then 0 else 11:=rfl
theorem f42_round (hT:Tab G) (hE:Errs G) {D:ByteArray} {w0 w:World} {hh:IH} {on:Nat→Prop} {β1 β:Nat→Nat} {V:Nat→Option Addr×Nat} {bj:Bk} {j:Nat} (hE0:unE D.data.toList=0) (hD:D.size≤8000) (q:Inv42 (unL D.data.toList) w0 G j hh on β1 β V bj w) (hlen:(unL D.data.toList).length≤1000000) {a:Act} (g:Gam hh ⟨on,β1⟩ w hh (S42 D (unL D.data.toList) (ptr0 β) j) β1 hh a.tmps w) (hd:a.defers=[]) :
  wpS Tryz.prog body42 (Q42 D (unL D.data.toList) w0 G ((unL D.data.toList).length-j)) .normal a w:=by
 have hsm:=un_small (X:=D.data.toList) (by rw[size_list];exact hD) j
 have h40:FnOK Tryz.prog hh 40 [ds (sAt (unL D.data.toList) j)] (.tup [evD (decV (sAt (unL D.data.toList) j)),di (decC (sAt (unL D.data.toList) j))]):=f40 (fun w hw=>hT w (holds_le q.ext hw)) (fun w hw=>hE w (holds_le q.ext hw)) _ hsm
 obtain ⟨e,he⟩:∃e,e=decV (sAt (unL D.data.toList) j):=⟨_,rfl⟩
 rw[←he,decC_iff] at h40
 cases hde:decOK (sAt (unL D.data.toList) j) with
 | false=>
  rw[hde] at h40
  have hA:AWPR Tryz.prog hh ⟨on,β1⟩ w hh body42 (S42 D (unL D.data.toList) (ptr0 β) j) (Q42 D (unL D.data.toList) w0 G ((unL D.data.toList).length-j)):=by
   refine walkRV (orc:=orc42 [] 0 e 11 .empty 0) follows (fun _=>none) (cuts:=[]) (n:=1000) ?_
   refine of_eqH6 ((.agg [(di e.kind),(ds e.k.st),(ds e.k.ex),(di e.k.n),(di e.t),(di e.v),(di e.h),(ds e.s),(db e.acc)]):DV) (sAt (unL D.data.toList) (↑j:Int).toNat) (decide ((↑j:Int)<↑(unL D.data.toList).length)) ((.d (.slc 1 (unL D.data.toList).length (strF (unL D.data.toList)))):AV) (Q42 D (unL D.data.toList) w0 G ((unL D.data.toList).length-j)) ((.d (.con (.pointer (some (Addr.mk (β (3*0)) 0 none))))):AV) (fun Za Zb Zc Zd Ze Zf=>(((Zc=true)→(((0≤(↑j:Int))∧((↑j:Int)<↑(unL D.data.toList).length))∧FnOK Tryz.prog hh 40 [(ds Zb)] (.tup [Za,(di 11)])∧((true=true)→LeafR hh (Fr.mk on β1) w hh Ze .ret ⟨regs 64 [(0,(vs D)),(2,(.box 2 0)),(3,(vi 11)),(6,Zf),(8,(vs Zb)),(9,(.box 9 0)),(10,(vi 11)),(23,Zd),(24,(vi (↑(unL D.data.toList).length))),(25,(vi (↑j))),(26,(vb Zc)),(27,(.d (.ptr [(ds Zb)]))),(28,(vs Zb)),(29,(.d (.tup [Za,(di 11)]))),(30,(vs Zb)),(31,(.d (.tup [Za,(di 11)]))),(32,(.d Za)),(33,(vi 11)),(34,(vi 11)),(35,(vb true)),(36,(vb true)),(41,(vb true)),(42,(.d (.agg [(di 0),(.con (.slice none 0 0))])))],[(9,[(vi e.kind),(vs e.k.st),(vs e.k.ex),(vi e.k.n),(vi e.t),(vi e.v),(vi e.h),(vs e.s),(vb e.acc)]),(2,[(vi 0),(.d (.con (.slice none 0 0)))])]⟩)∧((true=false)→((I64 (↑j+1))∧LeafR hh (Fr.mk on β1) w hh Ze .normal ⟨regs 64 [(0,(vs D)),(2,(.box 2 0)),(3,(vi 0)),(6,Zf),(8,(vs Zb)),(9,(.box 9 0)),(10,(vi 11)),(23,Zd),(24,(vi (↑(unL D.data.toList).length))),(25,(vi (↑j+1))),(26,(vb Zc)),(27,(.d (.ptr [(ds Zb)]))),(28,(vs Zb)),(29,(.d (.tup [Za,(di 11)]))),(30,(vs Zb)),(31,(.d (.tup [Za,(di 11)]))),(32,(.d Za)),(33,(vi 11)),(34,(vi 11)),(35,(vb true)),(36,(vb true)),(41,(vb true)),(43,(vi (↑j+1)))],[(9,[(vi e.kind),(vs e.k.st),(vs e.k.ex),(vi e.k.n),(vi e.t),(vi e.v),(vi e.h),(vs e.s),(vb e.acc)]),(2,[(vi 0),(.d (.con (.slice none 0 0)))])]⟩))))∧((Zc=false)→LeafR hh (Fr.mk on β1) w hh Ze (.exit 0) ⟨regs 64 [(0,(vs D)),(2,(.box 2 0)),(3,(vi 0)),(6,Zf),(23,Zd),(24,(vi (↑(unL D.data.toList).length))),(25,(vi (↑j))),(26,(vb Zc))],[(2,[(vi 0),(.d (.con (.slice none 0 0)))])]⟩))) (by kernel_rfl) ?_
   try dsimp only
   simp only[Int.toNat_natCast]
   refine⟨fun c=>?_,fun c=>f42_exit hT hE0 q (by have:=of_decide_eq_false c;omega) ?_⟩
   ·have hj:j<(unL D.data.toList).length:=by have:=of_decide_eq_true c;omega
    exact⟨⟨by omega,by omega⟩,h40,fun _=>f42_none (dcO_drop q hj (by rw[hde];exact fun ⟨x,_⟩=>by cases x)) (fun c hc=>(q.apart c hc).1) q.kept q.ext q.old rfl,fun c=>(by cases c)⟩
   ·exact AS.leA (by kernel_rfl)
  exact hA β1 hh a w g hd
 | true=>
  rw[hde] at h40
  have hA:AWPR Tryz.prog hh ⟨on,β1⟩ w hh body42 (S42 D (unL D.data.toList) (ptr0 β) j) (Q42 D (unL D.data.toList) w0 G ((unL D.data.toList).length-j)):=by
   refine walkRV (orc:=orc42 [] 0 e 0 .empty 0) follows (fun _=>none) (cuts:=[9]) (n:=1000) ?_
   refine of_eqH3 ((.agg [(di e.kind),(ds e.k.st),(ds e.k.ex),(di e.k.n),(di e.t),(di e.v),(di e.h),(ds e.s),(db e.acc)]):DV) (sAt (unL D.data.toList) (↑j:Int).toNat) (decide ((↑j:Int)<↑(unL D.data.toList).length)) (fun Za Zb Zc=>(((Zc=true)→(((0≤(↑j:Int))∧((↑j:Int)<↑(unL D.data.toList).length))∧FnOK Tryz.prog hh 40 [(ds Zb)] (.tup [Za,(di 0)])∧AWPR Tryz.prog hh (Fr.mk on β1) w hh [cd Tryz.f42 [1,1,1,1,0,1,0,0,1,1,0,0,1,1],(.blk 1),cd Tryz.f42 [1,1,1,1,0,1,0,0,1,1,1]] ⟨regs 64 [(0,(vs D)),(2,(.box 2 0)),(3,(vi 0)),(6,(.d (.con (.pointer (some (Addr.mk (β (3*0)) 0 none)))))),(8,(vs Zb)),(9,(.box 9 0)),(10,(vi 0)),(23,(.d (.slc 1 (unL D.data.toList).length (strF (unL D.data.toList))))),(24,(vi (↑(unL D.data.toList).length))),(25,(vi (↑j))),(26,(vb Zc)),(27,(.d (.ptr [(ds Zb)]))),(28,(vs Zb)),(29,(.d (.tup [Za,(di 0)]))),(30,(vs Zb)),(31,(.d (.tup [Za,(di 0)]))),(32,(.d Za)),(33,(vi 0))],[(9,[(vi e.kind),(vs e.k.st),(vs e.k.ex),(vi e.k.n),(vi e.t),(vi e.v),(vi e.h),(vs e.s),(vb e.acc)]),(2,[(vi 0),(.d (.con (.slice none 0 0)))])]⟩ (Q42 D (unL D.data.toList) w0 G ((unL D.data.toList).length-j))))∧((Zc=false)→LeafR hh (Fr.mk on β1) w hh (Q42 D (unL D.data.toList) w0 G ((unL D.data.toList).length-j)) (.exit 0) ⟨regs 64 [(0,(vs D)),(2,(.box 2 0)),(3,(vi 0)),(6,(.d (.con (.pointer (some (Addr.mk (β (3*0)) 0 none)))))),(23,(.d (.slc 1 (unL D.data.toList).length (strF (unL D.data.toList))))),(24,(vi (↑(unL D.data.toList).length))),(25,(vi (↑j))),(26,(vb Zc))],[(2,[(vi 0),(.d (.con (.slice none 0 0)))])]⟩))) (by kernel_rfl) ?_
   try dsimp only
   simp only[Int.toNat_natCast]
   refine⟨fun c=>?_,fun c=>f42_exit hT hE0 q (by have:=of_decide_eq_false c;omega) ?_⟩
   ·have hj:j<(unL D.data.toList).length:=by have:=of_decide_eq_true c;omega
    refine⟨⟨by omega,by omega⟩,h40,?_⟩
    refine AWPR.weaken (st':=S42n D (unL D.data.toList) (ptr0 β) j e) ?_ ?_
    ·exact AS.leA (by kernel_rfl)
    refine AWPR.seq (a:=cAt (bodyOf Tryz.f42) [1,1,1,1,0,1,0,0,1,1,0,0,1,1,0]) (b:=cAt (bodyOf Tryz.f42) [1,1,1,1,0,1,0,0,1,1,0,0,1,1,1]) (by kernel_rfl) ?_
    refine AWPR.tailX (orc:={ d:=noO }) follows (fun _=>none) 5 (by kernel_rfl) ?_
    refine of_eqH1 (opsOf (cAt (bodyOf Tryz.f42) [1, 1, 1, 1, 0, 1, 0, 0, 1, 1, 0, 0, 1, 1, 0])) (fun Za => LeafR hh (Fr.mk on β1) w hh (seqQ Tryz.prog Za.toList 5 (Za.toList.length - 5) (wpS Tryz.prog [It.code (cAt (bodyOf Tryz.f42) [1, 1, 1, 1, 0, 1, 0, 0, 1, 1, 0, 0, 1, 1, 1]), It.blk 1, It.code (Code.region 11 #[Oper.mk (some 43) (Op.binOp BinOp.add 3 (Operand.tmp 25) (Operand.const (Value.int IntKind.i64 1)) 3) 3 "book.go:289" #[] none, Oper.mk (some 25) (Op.move (Operand.tmp 43)) 3 "book.go:289" #[Edge.mk 0 Ground.data] none] false)] (Q42 D (unL D.data.toList) w0 G ((unL D.data.toList).length - j)))) .normal ⟨regs 64 [(0, (vs D)), (2, (.box 2 0)), (3, (vi 0)), (6, (.d (.con (.pointer (some (Addr.mk (β (3 * 0)) 0 none)))))), (9, (.box 9 0)), (10, (vi 0)), (23, (.d (.slc 1 (unL D.data.toList).length (strF (unL D.data.toList))))), (24, (vi (↑(unL D.data.toList).length))), (25, (vi (↑j))), (34, (vi 0)), (35, (vb false)), (36, (vb false)), (37, (.gate 36 false true (.d (.con (.pointer (some (Addr.mk (β (3 * 0)) 0 none))))))), (38, (.gate 36 false true (.d (.agg [(di e.kind), (ds e.k.st), (ds e.k.ex), (di e.k.n), (di e.t), (di e.v), (di e.h), (ds e.s), (db e.acc)]))))], [(9, [(vi e.kind), (vs e.k.st), (vs e.k.ex), (vi e.k.n), (vi e.t), (vi e.v), (vi e.h), (vs e.s), (vb e.acc)]), (2, [(vi 0), (.d (.con (.slice none 0 0)))])]⟩) (by kernel_rfl) ?_
    intro β3 h3 a3 w3 g3 hd3
    have g4:=g3.weaken (st':=S42k D (unL D.data.toList) (ptr0 β) j e) (by refine AS.leZ [] [] (b:=((T0∧T0∧T0∧T0∧T0∧T0∧T0∧T0∧T0∧T0∧True)∧T0∧True)) (by kernel_rfl) (by kernel_rfl) ?_;exact⟨⟨rfl,rfl,rfl,rfl,rfl,rfl,rfl,rfl,rfl,rfl,trivial⟩,rfl,trivial⟩)
    exact(f42_call q hj hlen hde he) _ _ _ _ g4 hd3
   ·exact AS.leA (by kernel_rfl)
  exact hA β1 hh a w g hd
theorem f42_W (hT:Tab G) (hE:Errs G) (D:ByteArray) (hD:D.size≤8000) (hw:G.holds w) {u:Value} (hu:DV.rel G (ds D) u):Calls Tryz.prog 42 #[u] w fun r w'=>∃v,r=.returned v∧R42 D w G v w':=by
 have g:=Gam.bare (G:=G) (rs:=[.d (ds D)]) (β:=fun _=>0) (tm:=#[u]) (IH.le.refl G) hw rfl (fun t x hx=>by
  rcases t with _|t
  ·simp at hx;subst hx;exact⟨_,rfl,hu⟩
  ·simp at hx) (fun _=>False)
 refine Calls.of_R Tryz.func42 rfl g ?_
 refine walkRV (orc:=orc42 (unL D.data.toList) (unE D.data.toList) ev0 0 .empty 0) follows (fun _=>none) (cuts:=[6]) (n:=1000) ?_
 refine of_eqH1 ((.slc 1 (unL D.data.toList).length (strF (unL D.data.toList))):DV) (fun Za=>(FnOK Tryz.prog G 69 [(ds D)] (.tup [Za,(di (unE D.data.toList))])∧(((unE D.data.toList != 0)=true)→LeafR G (Fr.mk (fun x=>False) fun x=>0) w G (RetR Tryz.prog Tryz.f42 (R42 D w G)) .ret ⟨regs 64 [(0,(vs D)),(2,(.box 2 0)),(3,(vi 11)),(4,(.d Za)),(5,(vi (unE D.data.toList))),(13,(.d (.tup [Za,(di (unE D.data.toList))]))),(14,(vs D)),(15,(.d (.tup [Za,(di (unE D.data.toList))]))),(16,(.d Za)),(17,(vi (unE D.data.toList))),(18,(vi (unE D.data.toList))),(19,(vb (unE D.data.toList != 0))),(20,(.d (.agg [(di 0),(.con (.slice none 0 0))])))],[(2,[(vi 0),(.d (.con (.slice none 0 0)))])]⟩)∧(((unE D.data.toList != 0)=false)→AWPR Tryz.prog G (Fr.mk (fun x=>False) fun x=>0) w G [cd Tryz.f42 [1,1,1,1,0,1,0],(.blk 0),cd Tryz.f42 [1,1,1,1,1]] ⟨regs 64 [(0,(vs D)),(2,(.box 2 0)),(3,(vi 0)),(4,(.d Za)),(5,(vi (unE D.data.toList))),(6,(.box 22 0)),(13,(.d (.tup [Za,(di (unE D.data.toList))]))),(14,(vs D)),(15,(.d (.tup [Za,(di (unE D.data.toList))]))),(16,(.d Za)),(17,(vi (unE D.data.toList))),(18,(vi (unE D.data.toList))),(19,(vb (unE D.data.toList != 0))),(21,(.d (.agg [(di 0),(.con (.slice none 0 0))]))),(22,(.box 22 0)),(23,(.d Za)),(24,(vi (↑(unL D.data.toList).length))),(25,(vi 0))],[(22,[(vi 0),(.d (.con (.slice none 0 0)))]),(2,[(vi 0),(.d (.con (.slice none 0 0)))])]⟩ (RetR Tryz.prog Tryz.f42 (R42 D w G))))) (by kernel_rfl) ?_
 refine⟨f69 hT hE D hD,fun c=>?_,fun c=>?_⟩
 ·have c:unE D.data.toList≠0:=by simpa using c
  have hno:dcO D=false:=by
   unfold dcO
   rw[decide_eq_false c,Bool.false_and]
  exact f42_none hno (fun c hc=>hc.elim) (Kept.refl _ _) (IH.le.refl _) (fun c _=>⟨fun _=>rfl,rfl⟩) rfl
 have hE0:unE D.data.toList=0:=by simpa using c
 have hlen:(unL D.data.toList).length≤1000000:=by
  unfold unL
  cases hu:unp D.data.toList with
  | none=>exact Nat.zero_le _
  | some l=>
   have h1:=packL_count l
   rw[unp_pack hu,size_list] at h1
   show l.length≤_
   omega
 refine AWPR.weaken (st':=S42i D (unL D.data.toList)) ?_ ?_
 ·exact AS.leA (by kernel_rfl)
 intro β1 h1 a w1 g1 hd
 have hb11:(S42i D (unL D.data.toList)).box 22=some [.d (di 0),.d (.con (.slice none 0 0))]:=rfl
 have hb1:(S42i D (unL D.data.toList)).box 2=some [.d (di 0),.d (.con (.slice none 0 0))]:=rfl
 obtain ⟨q1,⟨⟨T,hT'⟩,vs,ho,v0,vs1,rfl,r0,v1,vs2,rfl,r1,r2⟩⟩:=g1.box 22 _ hb11
 have r2:vs2=[]:=r2
 have r0:v0=.int .i64 0:=r0
 have r1:v1=.slice none 0 0:=r1
 subst r2 r0 r1
 have hT':T=room β1 22:=hT'
 subst hT'
 obtain ⟨q2,q3⟩:=q1 trivial
 have q2:w.heap.size≤blk β1 22:=q2.resolve_left id
 have hB:=BkIn.fresh g1.holds ho q3
 have hne:blk β1 2≠blk β1 22:=fun hq=>absurd (g1.inj 2 22 _ _ hb1 hb11 trivial trivial hq) (by decide)
 have n1:w.heap.size≤blk β1 2:=((g1.box 2 _ hb1).1 trivial).1.resolve_left id
 have hBl:∀c,Blks (upd (fun _=>0) 0 (blk β1 22) (room β1 22) 0) bk0.es.length c→c=blk β1 22:=by
  rintro c ⟨s,s1,s2,s3⟩
  have hs:s<2:=s1
  have:s=0∨s=1:=by omega
  rcases this with rfl|rfl
  ·rw[blk_upd] at s3;exact s3.symm
  ·rcases s2 with s2|s2
   ·cases s2
   ·rw[room_other (by decide)] at s2;cases s2
 obtain ⟨v3,hv3,hr3⟩:=g1.regs 6 (.box 22 0) rfl
 have hr3:v3=.pointer (some ⟨blk β1 22,0,none⟩):=hr3
 subst hr3
 have hp0:ptr0 (upd (fun _=>0) 0 (blk β1 22) (room β1 22) 0)=.pointer (some ⟨blk β1 22,0,none⟩):=by
  show Value.pointer _=Value.pointer _
  rw[blk_upd]
 have g2:=(gamPin (rs:=(S42i D (unL D.data.toList)).regs) (bs:=(S42i D (unL D.data.toList)).boxes) g1 hv3).weaken (st':=S42 D (unL D.data.toList) (ptr0 (upd (fun _=>0) 0 (blk β1 22) (room β1 22) 0)) 0) (by
  rw[hp0]
  exact AS.leA (by kernel_rfl))
 have g3:=gamRestart g2
 have hlz:∀s l,Go.Ab.look [(2,[AV.d (di 0),.d (.con (.slice none 0 0))])] s=some l→s=2:=by
  intro s l hl
  simp only[Go.Ab.look] at hl
  by_cases e2:(2:Nat)=s
  ·exact e2.symm
  ·rw[beq_ne e2,cond_false] at hl;cases hl
 have hkk:Kept (fun _=>False) w w1:=g1.kept
 refine wpS_loop (c:=cAt (bodyOf Tryz.f42) [1,1,1,1,0,1,0,0]) (by kernel_rfl) (I42 D (unL D.data.toList) w G) ((unL D.data.toList).length-0) ⟨0,h1,_,β1,_,_,bk0,rfl,⟨Nat.zero_le _,hB,?_,fun c hc=>by rw[hBl c hc];exact q2,hkk,rfl,good0,fun i hi=>(by cases hi),val0,g1.glob,fun c hlt=>g1.old c hlt id⟩,g3,hd⟩ ?_
 ·rintro c ⟨s,l,hl,_,rfl⟩
  rw[hlz s l hl]
  exact⟨n1,fun hc=>hne (hBl _ hc)⟩
 ·rintro n a2 w2 ⟨j,hh,on,β2,β,V,bj,rfl,q,g,hd2⟩
  exact f42_round hT hE hE0 hD q hlen g hd2
theorem f42 (hT:Tab G) (hE:Errs G) (D:ByteArray) (hD:D.size≤8000):FnOK Tryz.prog G 42 [ds D] (.tup [bkD (dcB D),di (dcC D)]):=by
 refine⟨Tryz.call42,fun w h vs hG hw hr=>?_⟩
 obtain ⟨u,vs1,rfl,r,hn⟩:=hr
 have hn:vs1=[]:=hn
 subst hn
 refine(f42_W (G:=h) (fun w hw=>hT w (holds_le hG hw)) (fun w hw=>hE w (holds_le hG hw)) D hD hw r).mono ?_
 rintro _ w' ⟨v,rfl,u',k,rfl,hu,hle,hkw,hk,hold⟩
 exact⟨_,k,rfl,⟨_,rfl,_,_,rfl,hu,_,_,rfl,rfl,rfl⟩,hle,hkw,hk,hold⟩
end Go.Proofs
/- Codes,plain: what is encoded is decoded;a book's events make it. -/
namespace Go.Proofs
open Go Go.Ab Go.RowKit
set_option maxHeartbeats 1000000
set_option maxRecDepth 100000
theorem itoa_two {n:Nat} (h:n<100):(Lib.itoa (n:Int)).length≤2:=by
 rw[itoa_nat]
 exact decDigits_len 1 n (by omega)
theorem size_itoa {n:Int} (h0:0≤n) (h1:n<1000000000000000000):sizeN (bs (Lib.itoa n))=n:=by
 obtain ⟨k,rfl⟩:=Int.eq_ofNat_of_zero_le h0
 obtain ⟨d1,d2,d3,_⟩:=decDigits_all k
 have dl:=decDigits_len 17 k (by omega)
 unfold sizeN
 rw[toList_bs,itoa_nat,atoi_digits d3 d1 (by omega),d2]
theorem okE_pos {e:Ev} (h:okE e=true):(0≤e.kind∧e.kind≤3)∧(0≤e.k.n∧e.k.n≤16)∧(0≤e.t∧e.t≤1099511627776)∧(0≤e.v∧e.v≤1048576)∧(0≤e.h∧e.h≤100000000):=by
 unfold okE okK at h
 simp only[bAt,decide_eq_true_eq] at h
 obtain ⟨h1,h2,⟨_,_,h3,h4⟩,h5,h6,h7,h8⟩:=h
 refine⟨⟨h1,h2⟩,⟨by omega,h4⟩,⟨h5,h6⟩,?_⟩
 by_cases c:e.kind=1
 ·rw[if_pos c] at h8
  simp only[bAt,decide_eq_true_eq] at h8
  obtain ⟨a1,a2,a3,a4,_⟩:=h8
  exact⟨⟨by omega,a2⟩,⟨a3,a4⟩⟩
 ·rw[if_neg c] at h8
  simp only[bAt,decide_eq_true_eq] at h8
  obtain ⟨a1,a2,_⟩:=h8
  rw[a1,a2]
  exact⟨⟨by decide,by decide⟩,⟨by decide,by decide⟩⟩
theorem evOf_enc {e:Ev} (h:okE e=true):evOf (encF e)=e:=by
 obtain ⟨⟨a1,a2⟩,⟨b1,b2⟩,⟨c1,c2⟩,⟨d1,d2⟩,⟨e1,e2⟩⟩:=okE_pos h
 have hacc:decide ((bif e.acc then (⟨#[49]⟩:ByteArray) else ⟨#[48]⟩)=⟨#[49]⟩)=e.acc:=by
  cases e.acc<;>decide
 show (⟨sizeN (bs (Lib.itoa e.kind)),⟨e.k.st,e.k.ex,sizeN (bs (Lib.itoa e.k.n))⟩,sizeN (bs (Lib.itoa e.t)),sizeN (bs (Lib.itoa e.v)),sizeN (bs (Lib.itoa e.h)),e.s,decide ((bif e.acc then (⟨#[49]⟩:ByteArray) else ⟨#[48]⟩)=⟨#[49]⟩)⟩:Ev)=e
 rw[size_itoa a1 (by omega),size_itoa b1 (by omega),size_itoa c1 (by omega),size_itoa d1 (by omega),size_itoa e1 (by omega),hacc]
theorem un_pack {l:List ByteArray} (h:(packL l).length≤900000):unL (packL l)=l∧unE (packL l)=0:=by
 unfold unL unE
 rw[unp_some h]
 exact⟨rfl,rfl⟩
theorem dec_enc {e:Ev} (h:okE e=true):decOK (encS e)=true∧decV (encS e)=e:=by
 obtain ⟨e0,eS,eL⟩:=enc_ok h
 have hb:(encS e).data.toList=packL (encF e):=by rw[eS,toList_bs]
 obtain ⟨u1,u2⟩:=un_pack (l:=encF e) (by omega)
 have hd:decOK (encS e)=true:=by
  unfold decOK
  rw[hb,u1,u2,evOf_enc h,e0]
  simp[encF]
 refine⟨hd,?_⟩
 unfold decV
 rw[if_pos hd,hb,u1,evOf_enc h]
theorem repD_enc:∀(l:List Ev) (b:Bk),(∀e∈l,okE e=true)→repD (l.map encS) b=repl okE l b
 | [],_,_=>rfl
 | e :: l,b,h=>by
  have he:=h e (by simp)
  obtain ⟨d1,d2⟩:=dec_enc he
  show (if decOK (encS e)=true∧appC b (decV (encS e))=0 then repD (l.map encS) (appB b (decV (encS e))) else none)=(if okE e=true∧appC b e=0 then repl okE l (appB b e) else none)
  rw[d1,d2,he,repD_enc l _ fun x hx=>h x (List.mem_cons_of_mem _ hx)]
theorem encS_len {e:Ev} (h:okE e=true) (hs:e.s.size≤60):(encS e).size≤225:=by
 obtain ⟨b1,b2,b3,b4,b5,_⟩:=okE_bnd h
 obtain ⟨s1,s2⟩:=okE_sz h
 have q1:=itoa_len _ b1
 have q2:=itoa_len _ b2
 have q3:=itoa_len _ b3
 have q4:=itoa_len _ b4
 have q5:=itoa_len _ b5
 have hf:∀f:ByteArray,f.size≤60→(fieldL f).length≤3+f.size:=fun f hf=>by
  rw[fieldL_len]
  have:=itoa_two (n:=f.size) (by omega)
  omega
 have hacc:(bif e.acc then (⟨#[49]⟩:ByteArray) else ⟨#[48]⟩).size=1:=by cases e.acc<;>rfl
 have r1:=hf (bs (Lib.itoa e.kind)) (by rw[bs_size];omega)
 have r2:=hf e.k.st (by omega)
 have r3:=hf e.k.ex (by omega)
 have r4:=hf (bs (Lib.itoa e.k.n)) (by rw[bs_size];omega)
 have r5:=hf (bs (Lib.itoa e.t)) (by rw[bs_size];omega)
 have r6:=hf (bs (Lib.itoa e.v)) (by rw[bs_size];omega)
 have r7:=hf (bs (Lib.itoa e.h)) (by rw[bs_size];omega)
 have r8:=hf e.s (by omega)
 have r9:=hf (bif e.acc then ⟨#[49]⟩ else ⟨#[48]⟩) (by rw[hacc];omega)
 rw[hacc] at r9
 rw[bs_size] at r1 r4 r5 r6 r7
 rw[(enc_ok h).2.1,bs_size]
 unfold encF
 simp only[packL,List.length_append,List.length_nil]
 omega
theorem packL_le {m:Nat} (hm:m≤100000):∀{l:List ByteArray},(∀f∈l,f.size≤m)→(packL l).length≤l.length*(m+22)
 | [],_=>by simp[packL]
 | f :: l,h=>by
  have h1:=h f (by simp)
  have h2:=packL_le hm (l:=l) fun x hx=>h x (List.mem_cons_of_mem _ hx)
  have h3:=itoa_len (f.size:Int) ⟨by omega,by omega⟩
  rw[packL,List.length_append,fieldL_len,List.length_cons,Nat.add_mul]
  omega
theorem mk_evs (l:List Ev):(evsB (mkB okE l)).length≤l.length∧∀e∈allE (mkB okE l).es,e∈l:=by
 suffices h:∀(r m:List Ev) (b:Bk),valB okE b=true→(evsB b).length≤m.length→(∀e∈allE b.es,e∈m)→
   (evsB (r.foldl (fun b e=>if apC okE b e=0 then appB b e else b) b)).length≤(m++r).length∧∀e∈allE (r.foldl (fun b e=>if apC okE b e=0 then appB b e else b) b).es,e∈m++r by
  have:=h l [] bk0 val0 (by simp[evsB,allE,bk0,srt]) (fun e he=>by simp[allE,bk0] at he)
  simpa [mkB] using this
 intro r
 induction r with
 | nil=>intro m b _ h1 h2;simpa using ⟨h1,h2⟩
 | cons x r ih=>
  intro m b hv h1 h2
  rw[List.foldl_cons,show m++x :: r=(m++[x])++r by simp]
  by_cases c:apC okE b x=0
  ·rw[if_pos c]
   obtain ⟨_,ox,ax,vx⟩:=ap_val (fun _=>ok_form) c
   have g:=val_good hv
   refine ih (m++[x]) _ vx ?_ fun e he=>?_
   ·rw[evs_put g (ok_form ox) ax];simp;omega
   ·have h3:=(has_iff (good_step g ax) e).2 he
    rcases (has_step g (ok_form ox) ax e).1 h3 with q|q
    ·rw[q];simp
    ·exact List.mem_append_left _ (h2 e ((has_iff g e).1 q))
  ·rw[if_neg c]
   exact ih (m++[x]) b hv (by simp;omega) fun e he=>List.mem_append_left _ (h2 e he)
def foB (l:List Ev):Bk:=l.foldl appB bk0
theorem repl_fold {ok:Ev→Bool}:∀{l:List Ev} {a b:Bk},repl ok l a=some b→l.foldl appB a=b∧∀i,i<l.length→ok (l.getD i ev0)=true∧appC ((l.take i).foldl appB a) (l.getD i ev0)=0
 | [],_,_,h=>by
  cases h
  exact⟨rfl,fun i hi=>by simp at hi⟩
 | e :: l,a,b,h=>by
  obtain ⟨⟨h1,h2⟩,h3⟩:=repl_cons.1 h
  obtain ⟨q1,q2⟩:=repl_fold h3
  refine⟨q1,fun i hi=>?_⟩
  cases i with
  | zero=>exact⟨h1,h2⟩
  | succ i=>exact q2 i (by simpa using hi)
theorem foB_val {l:List Ev} (h:∀i,i<l.length→okE (l.getD i ev0)=true∧appC (foB (l.take i)) (l.getD i ev0)=0):∀i,i≤l.length→valB okE (foB (l.take i))=true
 | 0,_=>val0
 | i+1,hi=>by
  obtain ⟨h1,h2⟩:=h i (by omega)
  have ih:=foB_val h i (by omega)
  have e:foB (l.take (i+1))=appB (foB (l.take i)) (l.getD i ev0):=by
   unfold foB
   rw[List.take_succ_eq_append_getElem (show i<l.length by omega),List.foldl_append,List.getD,gEe (show i<l.length by omega)]
   rfl
  rw[e]
  exact val_step (fun _=>ok_form) ih h1 h2
theorem foB_succ {l:List Ev} {i:Nat} (hi:i<l.length):foB (l.take (i+1))=appB (foB (l.take i)) (l.getD i ev0):=by
 unfold foB
 rw[List.take_succ_eq_append_getElem hi,List.foldl_append,List.getD,gEe hi]
 rfl
end Go.Proofs
/- The law BookReplays. -/
namespace Go.Proofs
open Go Go.Ab Go.RowKit
set_option maxHeartbeats 4000000
set_option maxRecDepth 100000
variable {G:IH}
noncomputable def S10 (b:Bk) (E:List Ev) (j:Nat) (c:Bk):AS:=⟨regs Tryz.f10.ntmps [(2,vb false),(3,.box 3 0),(4,.d (evsD E)),(5,.box 5 0),(24,.d (evsD E)),(25,vi E.length),(26,vi j)],[(3,(bkL b).map .d),(5,(bkL c).map .d)]⟩
noncomputable def S10n (b:Bk) (E:List Ev):AS:=⟨regs Tryz.f10.ntmps [(2,vb false),(3,.box 3 0),(4,.d (evsD E)),(5,.box 5 0),(24,.d (evsD E)),(25,vi E.length),(26,vi 0)],[(3,(bkL b).map .d),(5,[.d (di 0),.d (.con (.slice none 0 0))])]⟩
def orc10D (few:Bool) (b c:Bk) (x:Ev) (s:ByteArray):Oracle:=fun f a=>match f,a with
 | 11,_=>some (db true)
 | 12,_=>some (db few)
 | 13,_=>some (bkD b)
 | 24,_=>some (evsD (evsB b))
 | 14,_=>some (.tup [bkD c,di 0])
 | 20,[y,_]=>some (db (hasB (xBk y).es x))
 | 17,_=>some (db true)
 | 32,_=>some (db true)
 | 30,_=>some (.tup [ds s,di 0])
 | 42,_=>some (.tup [bkD b,di 0])
 | _,_=>none
def orc10 (few:Bool) (b c:Bk) (x:Ev) (s:ByteArray):Orc:={ d:=orc10D few b c x s }
theorem f20v {b:Bk} {x:Ev} (h:valB okE b=true) (hx:okE x=true):FnOK Tryz.prog G 20 [bkD b,evD x] (db (hasB b.es x)):=by
 obtain ⟨z1,z2⟩:=okE_sz hx
 have:=f20 (G:=G) b x (bkS_val h) (by omega) (by omega)
 rw[hx,h,Bool.true_and,Bool.true_and] at this
 exact this
theorem f10 (hT:Tab G) (hE:Errs G) (l:List Ev) (hl:l.length≤9223372036854775807):FnOK Tryz.prog G 10 [evsD l] (db true):=by
 have h12:=f12 (G:=G) l 24 hl
 cases hf:fewE l 24 with
 | false=>
  rw[hf] at h12
  refine FnOK.of_body Tryz.func10 rfl Tryz.call10 ?_
  refine walkK (orc:=orc10 false bk0 bk0 ev0 .empty) (keep:=[]) (cuts:=[5]) (n:=1000) follows ?_
  refine of_tr (fun ZT ZW ZQ ZK=>(ZK 11 [] (db true)∧((false=true)→(((db false):DV)=(db true)))∧((false=false)→(ZK 12 [(.slc 9 l.length (evF l)),(di 24)] (db false)∧((true=true)→(ZS ((db true):DV)))∧((true=false)→ZW [cd Tryz.f10 [1,1,1]] (stS ZT [1,1]) ZQ))))) (by kernel_rfl) ?_
  exact⟨f11 hT,fun c=>(by cases c),fun _=>⟨h12,fun _=>rfl,fun c=>(by cases c)⟩⟩
 | true=>
  rw[hf] at h12
  obtain ⟨l24,lk⟩:=few_l hf
  have hfew:=(few_of hf).1
  have hv:=mk_valE l
  have h13:=f13 (G:=G) l (by omega) lk
  obtain ⟨m1,m2⟩:=mk_evs l
  generalize mkB okE l=b at hv h13 m1 m2
  have hS:=bkS_val hv
  have hg:=val_good hv
  have h24:=f24v (G:=G) b hv
  have hrep:=(val_iff.1 hv).2
  obtain ⟨q1,q2⟩:=repl_fold hrep
  have hval:=foB_val (l:=evsB b) q2
  have hmem:∀i,i<(evsB b).length→(evsB b).getD i ev0∈allE b.es:=fun i hi=>(srt_mem _).1 (by
   rw[List.getD,gEe hi];exact List.getElem_mem hi)
  have henc:packBad (encBL b)=false∧(packL (encBL b)).length≤5928:=by
   have hb:(packL (encBL b)).length≤(encBL b).length*(225+22):=packL_le (by decide) fun f hf=>by
    obtain ⟨e,he,rfl⟩:=List.mem_map.1 hf
    have he:=(srt_mem _).1 he
    exact encS_len (val_ok hv e he) (hfew e (m2 e he)).1
   have hlen:(encBL b).length≤24:=by unfold encBL;rw[List.length_map];omega
   have h2:(packL (encBL b)).length≤5928:=by
    have:(encBL b).length*(225+22)≤24*247:=Nat.mul_le_mul hlen (by decide)
    omega
   refine⟨?_,h2⟩
   unfold packBad
   rw[Bool.or_eq_false_iff]
   exact⟨decide_eq_false (by omega),decide_eq_false (by omega)⟩
  have hbs:encBS b=bs (packL (encBL b)):=by unfold encBS packS;rw[if_pos hv,henc.1];rfl
  have hbe:encBE b=0:=by unfold encBE packE;rw[if_pos hv,henc.1];rfl
  have h30:=f30 (G:=G) hT b hS
  rw[hbe] at h30
  have hun:=un_pack (l:=encBL b) (by have:=henc.2;omega)
  have hdat:(encBS b).data.toList=packL (encBL b):=by rw[hbs,toList_bs]
  have hrd:repD (unL (encBS b).data.toList) bk0=some b:=by
   rw[hdat,hun.1]
   unfold encBL
   rw[repD_enc (evsB b) bk0 (fun e he=>val_ok hv e ((srt_mem _).1 he))]
   exact hrep
  have hdo:dcO (encBS b)=true:=by
   rw[dcO_iff (by rw[hdat];exact hun.2) hrd,hbe]
   simp
  have hdb:dcB (encBS b)=b∧dcC (encBS b)=0:=by
   unfold dcB dcC
   rw[if_pos hdo,if_pos hdo,hrd]
   exact⟨rfl,rfl⟩
  have h42:=f42 (G:=G) hT hE (encBS b) (by rw[hbs,bs_size];have:=henc.2;omega)
  rw[hdb.1,hdb.2] at h42
  have h32:=hS.f32 (G:=G)
  rw[hv] at h32
  have h17:=f17 (G:=G) b b hS.sz
  rw[decide_eq_true rfl] at h17
  have hEl:=hS.evs
  refine FnOK.of_body Tryz.func10 rfl Tryz.call10 ?_
  refine walkK (orc:=orc10 true b bk0 ev0 .empty) (keep:=[]) (cuts:=[9]) (n:=1000) follows ?_
  refine of_tr (fun ZT ZW ZQ ZK=>(ZK 11 [] (db true)∧((false=true)→(((db false):DV)=(db true)))∧((false=false)→(ZK 12 [(.slc 9 l.length (evF l)),(di 24)] (db true)∧((false=true)→(ZS ((db true):DV)))∧((false=false)→(ZK 13 [(.slc 9 l.length (evF l))] (.agg [(di b.t),(.slc 7 b.es.length (enF b.es))])∧ZK 24 [(.agg [(di b.t),(.slc 7 b.es.length (enF b.es))])] (.slc 9 (evsB b).length (evF (evsB b)))∧ZW [cd Tryz.f10 [1,1,1,1,1,1,0,1,0],(.blk 0),cd Tryz.f10 [1,1,1,1,1,1,1]] (stS ZT [1,1]) ZQ)))))) (by kernel_rfl) ?_
  refine⟨f11 hT,fun c=>(by cases c),fun _=>⟨h12,fun c=>(by cases c),fun _=>⟨h13,h24,?_⟩⟩⟩
  refine AWP.weaken (st':=S10n b (evsB b)) ?_ ?_
  ·exact AS.leA (by kernel_rfl)
  refine AWP.pre (.cell _ 5 1 (.d (ensD [])) (l:=[.d (di 0),.d (.con (.slice none 0 0))]) rfl rfl rfl fun β h v hv=>?_) ?_
  ·have hv:v=.slice none 0 0:=hv
   subst hv
   exact⟨none,0,rfl,Nat.le_refl _,.inl rfl⟩
  refine AWP.loop (c:=cAt (bodyOf Tryz.f10) [1,1,1,1,1,1,0,1,0,0]) (by kernel_rfl) (fun j=>S10 b (evsB b) j (foB ((evsB b).take j))) (fun j=>j≤(evsB b).length) (fun j=>(evsB b).length-j) 0 ?_ (Nat.zero_le _) ?_
  ·exact AS.leA (by kernel_rfl)
  intro j hj
  by_cases h2:j<(evsB b).length
  ·obtain ⟨ok1,ap1⟩:=q2 j h2
   have vc:=hval j hj
   have hs:=foB_succ h2
   have hprev:0<j→((evsB b).getD (j-1) ev0).t≤((evsB b).getD j ev0).t:=by
    intro h0
    have e:=foB_succ (l:=evsB b) (i:=j-1) (by omega)
    rw[show j-1+1=j by omega] at e
    have:=(app_ok (b:=foB ((evsB b).take j)) ap1).2
    rw[e] at this
    exact this
   have hb1:hasB b.es ((evsB b).getD j ev0)=true:=(has_iff hg _).2 (hmem j h2)
   have hb2:hasB (foB ((evsB b).take j)).es ((evsB b).getD j ev0)=false:=(app_ok ap1).1
   obtain ⟨z1,z2⟩:=okE_sz ok1
   have hac:apC okE (foB ((evsB b).take j)) ((evsB b).getD j ev0)=0:=by unfold apC;rw[if_pos ⟨vc,ok1⟩];exact ap1
   have hab:apB okE (foB ((evsB b).take j)) ((evsB b).getD j ev0)=appB (foB ((evsB b).take j)) ((evsB b).getD j ev0):=by unfold apB;rw[if_pos hac]
   have h14:=f14 (G:=G) (foB ((evsB b).take j)) ((evsB b).getD j ev0) (bkS_val vc) (by omega) (by omega)
   rw[hac,hab,←hs] at h14
   have h20a:=f20v (G:=G) hv ok1
   have h20b:=f20v (G:=G) vc ok1
   generalize foB ((evsB b).take j)=c at *
   generalize hc2:foB ((evsB b).take (j+1))=c2 at *
   refine walkK (orc:=orc10 true b c2 ((evsB b).getD j ev0) .empty) (keep:=[]) (cuts:=[]) (n:=1000) follows ?_
   refine of_rd (fun ZT ZW ZQ ZK ZA _=>(fun Za Zb Zc=>((((decide ((↑j:Int)<↑(evsB b).length))=true)→(((0≤(↑j:Int))∧((↑j:Int)<↑(evsB b).length))∧ZK 14 [(.agg [(di c.t),(.slc 7 c.es.length (enF c.es))]),(.agg [(di Za.kind),(ds Za.k.st),(ds Za.k.ex),(di Za.k.n),(di Za.t),(di Za.v),(di Za.h),(ds Za.s),(db Za.acc)])] (.tup [(.agg [(di c2.t),(.slc 7 c2.es.length (enF c2.es))]),(di 0)])∧(((true=true)→ZK 20 [(.agg [(di b.t),(.slc 7 b.es.length (enF b.es))]),(.agg [(di Za.kind),(ds Za.k.st),(ds Za.k.ex),(di Za.k.n),(di Za.t),(di Za.v),(di Za.h),(ds Za.s),(db Za.acc)])] (db (hasB (xL xEn (DV.slc 7 b.es.length (enF b.es))) ((evsB b).getD j ev0))))∧(((!((0:Int) != (0:Int)||!hasB (xL xEn (DV.slc (7:Nat) (List.length (Bk.es b)) (enF (Bk.es b)))) (List.getD (evsB b) j ev0)))=true)→ZK 20 [(.agg [(di c.t),(.slc 7 c.es.length (enF c.es))]),(.agg [(di Za.kind),(ds Za.k.st),(ds Za.k.ex),(di Za.k.n),(di Za.t),(di Za.v),(di Za.h),(ds Za.s),(db Za.acc)])] (db (hasB (xL xEn (DV.slc 7 c.es.length (enF c.es))) ((evsB b).getD j ev0))))∧((Zc=true)→(I64 (↑j-1)))∧((Zc=true)→((0≤(↑j:Int)-1)∧((↑j:Int)-1<↑(evsB b).length))))∧((Zb=true)→(((db false):DV)=(db true)))∧((Zb=false)→((I64 (↑j+1))∧(ZA (stS ZT [0,1]))))))∧(((decide ((↑j:Int)<↑(evsB b).length))=false)→ZW [cd Tryz.f10 [1,1,1,1,1,1,1]] (stS ZT [1]) ZQ))) ((evsB b).getD (↑j:Int).toNat ev0) ((0:Int) != (0:Int)||!hasB (xL xEn (DV.slc (7:Nat) (List.length (Bk.es b)) (enF (Bk.es b)))) (List.getD (evsB b) j ev0)||hasB (xL xEn (DV.slc (7:Nat) (List.length (Bk.es c)) (enF (Bk.es c)))) (List.getD (evsB b) j ev0)||decide ((↑j:Int)>(0:Int))&&decide (Ev.t (List.getD (evsB b) (Int.toNat ((↑j:Int)-(1:Int))) ev0)>Ev.t (List.getD (evsB b) (Int.toNat (↑j:Int)) ev0))) (!((0:Int) != (0:Int)||!hasB (xL xEn (DV.slc (7:Nat) (List.length (Bk.es b)) (enF (Bk.es b)))) (List.getD (evsB b) j ev0)||hasB (xL xEn (DV.slc (7:Nat) (List.length (Bk.es c)) (enF (Bk.es c)))) (List.getD (evsB b) j ev0))&&decide ((↑j:Int)>(0:Int)))) (by kernel_rfl) ?_
   try dsimp only
   simp only[show ((j:Int)).toNat=j from rfl,xBk_eq,xEns_eq]
   rw[hb1] at h20a
   rw[hb2] at h20b
   have hD:(decide ((j:Int)>0)&&decide (((evsB b).getD ((j:Int)-1).toNat ev0).t>((evsB b).getD j ev0).t))=false:=by
    rw[Bool.and_eq_false_iff]
    by_cases h0:0<j
    ·right
     rw[show ((j:Int)-1).toNat=j-1 by omega]
     exact decide_eq_false (by have:=hprev h0;omega)
    ·left
     exact decide_eq_false (by omega)
   rw[hb1,hb2,hD]
   refine⟨fun _=>⟨⟨by omega,by omega⟩,h14,⟨fun _=>h20a,fun _=>h20b,fun c=>⟨by omega,by omega⟩,fun c=>?_⟩,fun c=>(by cases c),fun _=>⟨⟨by omega,by omega⟩,Again.mk (j+1) ?_ h2 (by omega)⟩⟩,fun hd=>absurd (of_decide_eq_false hd) (by omega)⟩
   ·rw[bAt] at c
    have:=of_decide_eq_true c.2
    exact⟨by omega,by omega⟩
   ·refine AS.leZ [] [1] (b:=((T0∧T0∧T0∧T0∧T0∧T0∧T0∧True)∧T0∧((some [(vi c2.t),(.d (.slc 7 c2.es.length (enF c2.es)))]):(Option (List AV)))=(some [(vi (foB (List.take (j+1) (evsB b))).t),(.d (.slc 7 (foB (List.take (j+1) (evsB b))).es.length (enF (foB (List.take (j+1) (evsB b))).es)))])∧True)) (by kernel_rfl) (by kernel_rfl) ?_
    rw[hc2]
    exact⟨⟨rfl,rfl,rfl,rfl,rfl,rfl,rfl,trivial⟩,rfl,rfl,trivial⟩
  ·obtain rfl:j=(evsB b).length:=by omega
   rw[List.take_length]
   have:foB (evsB b)=b:=q1
   rw[this]
   refine walkK (orc:=orc10 true b bk0 ev0 (encBS b)) (keep:=[]) (cuts:=[10]) (n:=1000) follows ?_
   refine of_rd (fun ZT ZW ZQ _ _ ZR=>((((decide ((↑(evsB b).length:Int)<↑(evsB b).length))=true)→ZW [cd Tryz.f10 [1,1,1,1,1,1,0,1,0,0,1,1,0,0],(.blk 1),cd Tryz.f10 [1,1,1,1,1,1,0,1,0,0,1,1,1]] (stS ZT [0]) ZR)∧(((decide ((↑(evsB b).length:Int)<↑(evsB b).length))=false)→ZW [cd Tryz.f10 [1,1,1,1,1,1,1]] (stS ZT [1]) ZQ))) (by kernel_rfl) ?_
   refine⟨fun hd=>absurd (of_decide_eq_true hd) (by omega),fun _=>?_⟩
   refine walkK (orc:=orc10 true b bk0 ev0 (encBS b)) (keep:=[]) (cuts:=[]) (n:=1000) follows ?_
   refine of_tr (fun _ _ _ ZK=>(fun Za=>((ZK 17 [Za,Za] (db true)∧((true=true)→ZK 32 [Za] (db true)))∧((false=true)→(((db false):DV)=(db true)))∧((false=false)→(ZK 30 [Za] (.tup [(ds (encBS b)),(di 0)])∧ZK 42 [(ds (encBS b))] (.tup [Za,(di 0)])∧((true=true)→ZK 17 [Za,Za] (db true))∧(ZS ((db true):DV)))))) ((.agg [(di b.t),(.slc 7 b.es.length (enF b.es))]):DV)) (by kernel_rfl) ?_
   exact⟨⟨h17,fun _=>h32⟩,fun c=>(by cases c),fun _=>⟨h30,h42,fun _=>h17,rfl⟩⟩
end Go.Proofs
namespace Go.Proofs.YtflgdeobcgmgnaaGreatDoor
open Go Go.Ab Go.ChangeShapes Go.WideShapes Go.ChangeAt Go.RowKit
set_option maxRecDepth 100000
theorem own:ownKnob Tryz.prog.godebug=none:=by kernel_rfl
theorem laidOut:laidOutB Tryz.prog=true:=by kernel_rfl
theorem gPow : Tryz.prog.globalNamed "internal/strconv.uint64pow10" = some 2 := by kernel_rfl
theorem tPow:(Tryz.prog.globals[2]?).map (·.type)=some 185:=by kernel_rfl
theorem laidVars_get {P:Program} {W:World}:∀{l:List (String×DataW Unit)} {ps:List MemPlace},DataW.LaidVars P W l ps→
  ∀{i:Nat} {n:String} {d:DataW Unit},l[i]?=some (n,d)→∃g t cs fuel p,P.globalNamed n=some g∧(P.globals[g]?).map (·.type)=some t∧W.var? P n=some cs∧DataW.trod (fun _=>()) P W 0 (fun _=>true) false fuel t cs.toList=some (d,p)
 | [],ps,h,i,n,d,h1=>by simp at h1
 | (m,e) :: l,ps,⟨g,t,cs,fuel,p,q,a1,a2,a3,a4,a5,a6⟩,i,n,d,h1=>by
  cases i with
  | zero=>
   simp at h1;obtain ⟨rfl,rfl⟩:=h1
   exact⟨g,t,cs,fuel,p,a1,a2,a3,a4⟩
  | succ i=>exact laidVars_get a5 (i:=i) (by simpa using h1)
theorem tab_of_laid {laid : List (String × DataW Unit)} {W : World} (h : laidMetH Tryz.prog laid W) (hm : laidMetH Tryz.prog laid W = laidMet Tryz.prog laid W) {i : Nat} (hi : laid[i]? = some ("internal/strconv.uint64pow10", Rows.laid_internal_strconv_uint64pow10)) : Tab (allOf W) := by
 rw[hm] at h
 obtain ⟨ps,h,_⟩:=h
 obtain ⟨g2,t2,cs2,f2,p2,hg2,ht2,hv2,hd2⟩:=laidVars_get h hi
 obtain rfl:=Option.some.inj (gPow.symm.trans hg2)
 obtain rfl:=Option.some.inj (tPow.symm.trans ht2)
 have hT : Lib.TabIs Tryz.prog W "internal/strconv.uint64pow10" .u64 Lib.pow10Tab := by
  unfold Lib.TabIs
  rw[hv2,←Lib.cells_of_tab Tryz.underlying185 (by kernel_rfl) (by kernel_rfl) (by kernel_rfl) (k:=.u64) (zs:=Lib.pow10Tab) hd2]
 intro w hw
 unfold Lib.TabIs at hT⊢
 rw[←hT]
 unfold World.var? at hT⊢
 rw[gPow] at hT⊢
 simp only[Option.bind_some] at hT⊢
 cases ho:W.heap[2]? with
 | none=>rw[ho] at hT;cases hT
 | some o=>rw[hw.2 2 o ho]
end Go.Proofs.YtflgdeobcgmgnaaGreatDoor
namespace Go.Proofs.YtflgdeobcgmgnaaGreatDoor
open Go Go.Ab Go.ChangeShapes Go.WideShapes Go.ChangeAt Go.RowKit
theorem gSyn : Tryz.prog.globalNamed "strconv.ErrSyntax" = some 0 := by kernel_rfl
theorem gRan : Tryz.prog.globalNamed "strconv.ErrRange" = some 1 := by kernel_rfl
theorem tSyn:(Tryz.prog.globals[0]?).map (·.type)=some 98:=by kernel_rfl
theorem tRan:(Tryz.prog.globals[1]?).map (·.type)=some 98:=by kernel_rfl
theorem err_of_laid {laid:List (String×DataW Unit)} {W:World} {ps:List MemPlace} (h:DataW.LaidVars Tryz.prog W laid ps) {i g:Nat} {nm ty:String} {d:DataW Unit} (hi:laid[i]?=some (nm,.iface ty d)) (hg:Tryz.prog.globalNamed nm=some g) (ht:(Tryz.prog.globals[g]?).map (·.type)=some 98):∃te pe,W.cell? ⟨g,0,none⟩=some (.iface te pe):=by
 obtain ⟨g2,t2,cs2,f2,p2,hg2,ht2,hv2,hd2⟩:=laidVars_get h hi
 obtain rfl:=Option.some.inj (hg.symm.trans hg2)
 obtain rfl:=Option.some.inj (ht.symm.trans ht2)
 obtain ⟨_,u,v,hc,_,_⟩:=iface_of_trod Tryz.underlying98 hd2
 refine⟨u,v,?_⟩
 rw[World.var?_cell hg hv2 0,←Array.getElem?_toList,hc]
 rfl
theorem errs_of_laid {laid : List (String × DataW Unit)} {W : World} (h : laidMetH Tryz.prog laid W) (hm : laidMetH Tryz.prog laid W = laidMet Tryz.prog laid W) {i j : Nat} (hi : laid[i]? = some ("strconv.ErrRange", Rows.laid_strconv_ErrRange)) (hj : laid[j]? = some ("strconv.ErrSyntax", Rows.laid_strconv_ErrSyntax)) : Errs (allOf W) := by
 rw[hm] at h
 obtain ⟨ps,h,_⟩:=h
 have h3:=err_of_laid h hi gRan tRan
 have h2:=err_of_laid h hj gSyn tSyn
 intro w hw
 have key:∀g,(∃te pe,W.cell? ⟨g,0,none⟩=some (.iface te pe))→∃te pe,w.cell? ⟨g,0,none⟩=some (.iface te pe):=by
  rintro g ⟨te,pe,hc⟩
  refine⟨te,pe,?_⟩
  unfold World.cell? at hc⊢
  cases ho:W.heap[g]? with
  | none=>rw[ho] at hc;cases hc
  | some o=>rw[hw.2 g o ho,←ho];exact hc
 exact⟨key 0 h2,key 1 h3⟩
end Go.Proofs.YtflgdeobcgmgnaaGreatDoor
