import Derived.Test.YtflgdeobcgmgnaaGreatDoorG0
import Derived.Lib.AtoiAllCases
import Derived.Shelf.LaysC
import Derived.Shelf.Strconv.AtoiAll
import Derived.Shelf.Strings.Search2
import Derived.Test.YtflgdeobcgmgnaaGreatDoorProg
import Derived.Test.YtflgdeobcgmgnaaGreatDoorAcD
import Derived.Test.YtflgdeobcgmgnaaGreatDoorG5
import Derived.WalkKit
import Derived.Test.YtflgdeobcgmgnaaGreatDoorG1
set_option autoImplicit false
set_option maxHeartbeats 4000000
set_option maxRecDepth 100000
namespace Go.Proofs
open Go Go.Ab
abbrev colon:ByteArray:={ data:=#[58] }
def lW (s:ByteArray):Int:=Lib.indexByte s.data.toList 58
def gX (s:ByteArray):ByteArray:=if 0≤lW s then s.extract 0 (lW s).toNat else s
def jy (s:ByteArray):ByteArray:=if 0≤lW s then s.extract (lW s+1).toNat s.size else { data:=#[] }
def rD (s:ByteArray):Bool:=decide (0≤lW s)
theorem YH (s:ByteArray):lW s<s.size:=by
 rcases Int.lt_or_le (lW s) 0 with h|h
 ·omega
 ·obtain ⟨n,hn⟩:=Int.eq_ofNat_of_zero_le h
  obtain ⟨h1,_⟩:=Lib.indexByte_some hn
  have:=(List.getElem?_eq_some_iff.1 h1).1
  rw[dZ] at this
  rw[hn];omega
def dJ (s:ByteArray):Int:=match Lib.atoiAll s.data.toList with
 | .ok v=>v
 | .range=>Lib.atoiSat s.data.toList
 | _=>0
def uO (s:ByteArray):Bool:=match Lib.atoiAll s.data.toList with
 | .ok v=>decide (0≤v)&&decide (bs (Lib.itoa v)=s)
 | _=>false
def Dx (s:ByteArray):Bool:=rD s&&uO (gX s)&&decide (dJ (gX s)≤(jy s).size)
def qp (s:ByteArray):ByteArray:=(jy s).extract 0 (dJ (gX s)).toNat
def vZ (s:ByteArray):ByteArray:=(jy s).extract (dJ (gX s)).toNat (jy s).size
theorem ML {s:ByteArray} (h:Dx s=true):s.data.toList=dn (qp s)++(vZ s).data.toList:=by
 unfold Dx at h
 rw[aV,aV] at h
 obtain ⟨⟨h1,h2⟩,h3⟩:=h
 have h1:0≤lW s:=by simpa [rD] using h1
 have h3:dJ (gX s)≤(jy s).size:=by simpa using h3
 obtain ⟨k,hk⟩:=Int.eq_ofNat_of_zero_le h1
 obtain ⟨h4,_⟩:=Lib.indexByte_some (show Lib.indexByte s.data.toList 58=(k:Int) from hk)
 obtain ⟨h5,h6⟩:=List.getElem?_eq_some_iff.1 h4
 have hD:(gX s).data.toList=s.data.toList.take k:=by
  unfold gX
  rw[if_pos h1,hk,gZ,uq,List.drop_zero,Nat.sub_zero]
 have hR:(jy s).data.toList=s.data.toList.drop (k+1):=by
  unfold jy
  rw[if_pos h1,hk,show Int.toNat ((k:Int)+1)=k+1 by omega,uq,List.take_of_length_le (by rw[List.length_drop,dZ];omega)]
 have hs:s.data.toList=s.data.toList.take k++([58]++s.data.toList.drop (k+1)):=by
  have e:s.data.toList.drop k=58 :: s.data.toList.drop (k+1):=by
   rw[List.drop_eq_getElem_cons h5,h6]
  rw[List.singleton_append,←e,List.take_append_drop]
 unfold uO at h2
 rcases ha:Lib.atoiAll (gX s).data.toList with v|_|_
 rotate_left
 ·rw[ha] at h2;cases h2
 ·rw[ha] at h2;cases h2
 ·skip
  rw[ha] at h2
  simp only[aV,eF] at h2
  obtain ⟨h7,h8⟩:=h2
  have hn:dJ (gX s)=v:=by unfold dJ;rw[ha]
  rw[hn] at h3
  obtain ⟨n,rfl⟩:=Int.eq_ofNat_of_zero_le h7
  have hF:(qp s).data.toList=(s.data.toList.drop (k+1)).take n:=by
   unfold qp
   rw[hn,gZ,uq,hR,List.drop_zero,Nat.sub_zero]
  have hRl:(s.data.toList.drop (k+1)).length=(jy s).size:=by rw[←hR,dZ]
  have hFs:(qp s).size=n:=by
   rw[←dZ,hF,List.length_take,hRl];omega
  have hT:(vZ s).data.toList=(s.data.toList.drop (k+1)).drop n:=by
   unfold vZ
   rw[hn,gZ,uq,hR,List.take_of_length_le (by rw[List.length_drop,hRl];omega)]
  have hI:Lib.itoa (n:Int)=s.data.toList.take k:=by
   rw[←hD,←h8,jc]
  unfold dn
  rw[hFs,hI,hF,hT,List.append_assoc,List.append_assoc,List.take_append_drop]
  exact hs
theorem Fp {f:ByteArray} {R:List UInt8} (hf:f.size≤900000):Dx (bs (dn f++R))=true∧qp (bs (dn f++R))=f∧vZ (bs (dn f++R))=bs R:=by
 obtain ⟨d1,d2,d3,d4,_⟩:=oV f.size
 have dl:=oZ 5 f.size (by omega)
 have hX:dn f++R=Lib.decDigits f.size++([58]++(f.data.toList++R)):=by
  unfold dn;rw[nM];simp only[List.append_assoc]
 have hI:lW (bs (dn f++R))=((Lib.decDigits f.size).length:Int):=by
  unfold lW
  rw[jc,hX]
  refine WU ?_ fun k hk h=>?_
  ·rw[List.getElem?_append_right (Nat.le_refl _),Nat.sub_self];rfl
  ·rw[List.getElem?_append_left hk] at h
   have:=d1 58 (List.mem_of_getElem? h)
   exact absurd this.2 (by decide)
 have hD:gX (bs (dn f++R))=bs (Lib.decDigits f.size):=by
  unfold gX
  rw[if_pos (by omega),hI,gZ,oU,jc,hX,List.drop_zero,Nat.sub_zero,List.take_left' rfl]
 have hR:jy (bs (dn f++R))=bs (f.data.toList++R):=by
  unfold jy
  rw[if_pos (by omega),hI,show Int.toNat (((Lib.decDigits f.size).length:Int)+1)=(Lib.decDigits f.size).length+1 by omega,oU,jc,dR,List.take_of_length_le (by rw[List.length_drop];omega),hX,←List.drop_drop,List.drop_left' rfl]
  rfl
 have hA:=GI d3 d1 (by omega)
 rw[d2] at hA
 have hN:dJ (bs (Lib.decDigits f.size))=(f.size:Int):=by
  unfold dJ;rw[jc,hA]
 have hB:uO (bs (Lib.decDigits f.size))=true:=by
  unfold uO;rw[jc,hA]
  simp only[nM]
  simp
 have hfl:f.data.toList.length=f.size:=dZ f
 refine⟨?_,?_,?_⟩
 ·unfold Dx rD
  rw[hD,hB,hN,hR,hI,dR,List.length_append,hfl]
  simp;omega
 ·unfold qp
  rw[hD,hN,hR,gZ,oU,jc,List.drop_zero,Nat.sub_zero,List.take_left' hfl,oK]
 ·unfold vZ
  rw[hD,hN,hR,gZ,oU,jc,dR,List.take_of_length_le (by rw[List.length_drop];omega),List.drop_left' hfl]
theorem LG (f:ByteArray) (R:List UInt8):dn f++R≠[]:=by
 unfold dn;simp
theorem Ox {f g:ByteArray} {R T:List UInt8} (h:dn f++R=dn g++T) (hf:f.size≤900000) (hg:g.size≤900000):f=g∧R=T:=by
 obtain ⟨_,h1,h2⟩:=Fp (R:=R) hf
 obtain ⟨_,h3,h4⟩:=Fp (R:=T) hg
 rw[h] at h1 h2
 exact⟨h1.symm.trans h3,aas (h2.symm.trans h4)⟩
theorem Ah:∀(l:List ByteArray),∀f∈l,f.size≤(aT l).length
 | [],f,h=>by simp at h
 | g :: l,f,h=>by
  rw[aT,List.length_append,jf]
  rcases List.mem_cons.1 h with rfl|h
  ·omega
  ·have:=Ah l f h;omega
theorem xX {X:List UInt8}:∀(l0 l:List ByteArray),aT l=aT l0++X→(aT l).length≤900000→∃m,l=l0++m∧aT m=X
 | [],l,h,_=>⟨l,rfl,h⟩
 | f :: l0,l,h,hl=>by
  cases l with
  | nil=>
   exfalso
   rw[aT,aT,List.append_assoc] at h
   exact LG _ _ h.symm
  | cons g l=>
   have hg:=Ah (g :: l) g (by simp)
   have hf:f.size≤(aT (g :: l)).length:=by
    rw[h,aT,List.length_append,List.length_append,jf];omega
   rw[aT,aT,List.append_assoc] at h
   obtain ⟨rfl,h2⟩:=Ox h (by omega) (by omega)
   rw[aT,List.length_append] at hl
   obtain ⟨m,rfl,hm⟩:=xX l0 l h2 (by omega)
   exact⟨m,rfl,hm⟩
noncomputable def uM (X:List UInt8):Option (List ByteArray):=open Classical in if h:∃l,aT l=X then some h.choose else none
theorem Hy {l:List ByteArray} (h:(aT l).length≤900000):uM (aT l)=some l:=by
 have hex:∃m,aT m=aT l:=⟨l,rfl⟩
 unfold uM
 rw[dif_pos hex]
 have hc:=hex.choose_spec
 obtain ⟨m,h1,h2⟩:=xX (X:=[]) l hex.choose (by rw[hc,List.append_nil]) (by rw[hc];exact h)
 have:m=[]:=by
  cases m with
  | nil=>rfl
  | cons a m=>rw[aT] at h2;exact absurd h2 (LG _ _)
 rw[h1,this,List.append_nil]
theorem WV {X:List UInt8} (h:∀l,aT l≠X):uM X=none:=by
 unfold uM
 rw[dif_neg (by rintro ⟨l,hl⟩;exact h l hl)]
theorem Iy {X:List UInt8} {l:List ByteArray} (h:uM X=some l):aT l=X:=by
 unfold uM at h
 split at h
 ·rename_i hex
  injection h with h
  rw[←h];exact hex.choose_spec
 ·cases h
theorem Po {l0:List ByteArray} {X:List UInt8} (hl:(aT l0++X).length≤900000) (h0:X≠[]) (h:∀f R,X≠dn f++R):uM (aT l0++X)=none:=by
 refine WV fun l hc=>?_
 obtain ⟨m,rfl,hm⟩:=xX l0 l hc (by rw[hc];exact hl)
 cases m with
 | nil=>exact h0 hm.symm
 | cons f m=>exact h f _ hm.symm
theorem rV:∀l:List ByteArray,2*l.length≤(aT l).length
 | []=>Nat.zero_le _
 | f :: l=>by
  have:=rV l
  have h1:1≤(Lib.itoa (f.size:Int)).length:=by
   rw[nM]
   exact List.length_pos_iff.2 (oV f.size).2.2.1
  rw[aT,List.length_append,jf,List.length_cons];omega
theorem abQ {s:ByteArray} (h:Dx s=true):0≤dJ (gX s)∧dJ (gX s)≤(jy s).size:=by
 unfold Dx at h
 rw[aV,aV] at h
 obtain ⟨⟨_,h2⟩,h3⟩:=h
 refine⟨?_,by simpa using h3⟩
 unfold uO at h2
 unfold dJ
 rcases ha:Lib.atoiAll (gX s).data.toList with v|_|_
 rotate_left
 ·rw[ha] at h2;cases h2
 ·rw[ha] at h2;cases h2
 ·skip
  rw[ha] at h2
  simp only[aV,eF] at h2
  exact h2.1
theorem V9 {s:ByteArray} (h:Dx s=true):(vZ s).size<s.size:=by
 have:=congrArg List.length (ML h)
 rw[dZ,List.length_append,jf,dZ] at this
 omega
theorem YF {s:ByteArray} (hs:s.size≤900000) (h:Dx s=false):∀f R,s.data.toList≠dn f++R:=by
 intro f R he
 have hl:=congrArg List.length he
 rw[dZ,List.length_append,jf] at hl
 have:=(Fp (f:=f) (R:=R) (by omega)).1
 rw[←he,oK,h] at this
 cases this
end Go.Proofs
namespace Go.Proofs
open Go.Shelf
def Tryz.laysC172_ren:Go.Shelf.Ren:=⟨fun|172=>71|244=>97|245=>98|247=>113|279=>114|280=>115|281=>116|282=>117|287=>137|316=>138|171=>67|205=>139|321=>165|322=>166|243=>94|246=>111|283=>132|284=>133|285=>134|286=>135|129=>157|317=>156|318=>158|319=>159|320=>160|337=>184|338=>185|n=>n,fun|9=>9|3=>3|75=>98|76=>99|4=>4|5=>5|167=>140|37=>122|0=>0|85=>141|2=>2|168=>143|53=>159|175=>165|46=>167|210=>170|127=>138|145=>193|143=>191|21=>21|171=>158|173=>162|212=>185|51=>186|20=>20|213=>187|232=>209|233=>210|80=>125|n=>n,fun|15=>0|16=>1|17=>2|18=>4|19=>5|n=>n⟩
theorem Tryz.laysC172:Go.Proofs.LaysC.n172 Tryz.prog Tryz.laysC172_ren:={
 mixed:=by kernel_rfl
 f129:=Tryz.func157.trans (congrArg some (by kernel_rfl))
 f171:=Tryz.func67.trans (congrArg some (by kernel_rfl))
 f172:=Tryz.func71.trans (congrArg some (by kernel_rfl))
 f205:=Tryz.func139.trans (congrArg some (by kernel_rfl))
 f243:=Tryz.func94.trans (congrArg some (by kernel_rfl))
 f244:=Tryz.func97.trans (congrArg some (by kernel_rfl))
 f245:=Tryz.func98.trans (congrArg some (by kernel_rfl))
 f246:=Tryz.func111.trans (congrArg some (by kernel_rfl))
 f247:=Tryz.func113.trans (congrArg some (by kernel_rfl))
 f279:=Tryz.func114.trans (congrArg some (by kernel_rfl))
 f280:=Tryz.func115.trans (congrArg some (by kernel_rfl))
 f281:=Tryz.func116.trans (congrArg some (by kernel_rfl))
 f282:=Tryz.func117.trans (congrArg some (by kernel_rfl))
 f283:=Tryz.func132.trans (congrArg some (by kernel_rfl))
 f284:=Tryz.func133.trans (congrArg some (by kernel_rfl))
 f285:=Tryz.func134.trans (congrArg some (by kernel_rfl))
 f286:=Tryz.func135.trans (congrArg some (by kernel_rfl))
 f287:=Tryz.func137.trans (congrArg some (by kernel_rfl))
 f316:=Tryz.func138.trans (congrArg some (by kernel_rfl))
 f317:=Tryz.func156.trans (congrArg some (by kernel_rfl))
 f318:=Tryz.func158.trans (congrArg some (by kernel_rfl))
 f319:=Tryz.func159.trans (congrArg some (by kernel_rfl))
 f320:=Tryz.func160.trans (congrArg some (by kernel_rfl))
 f321:=Tryz.func165.trans (congrArg some (by kernel_rfl))
 f322:=Tryz.func166.trans (congrArg some (by kernel_rfl))
 f337:=Tryz.func184.trans (congrArg some (by kernel_rfl))
 f338:=Tryz.func185.trans (congrArg some (by kernel_rfl))
 t0:=Tryz.underlying0
 a0:=Tryz.isAgg0
 z0:=Tryz.sizeOf0
 v0:=Tryz.zeroValue0
 t2:=Tryz.underlying2
 a2:=Tryz.isAgg2
 z2:=Tryz.sizeOf2
 v2:=Tryz.zeroValue2
 t3:=Tryz.underlying3
 a3:=Tryz.isAgg3
 z3:=Tryz.sizeOf3
 v3:=Tryz.zeroValue3
 t4:=Tryz.underlying4
 a4:=Tryz.isAgg4
 z4:=Tryz.sizeOf4
 v4:=Tryz.zeroValue4
 t5:=Tryz.underlying5
 a5:=Tryz.isAgg5
 z5:=Tryz.sizeOf5
 v5:=Tryz.zeroValue5
 t9:=Tryz.underlying9
 a9:=Tryz.isAgg9
 z9:=Tryz.sizeOf9
 v9:=Tryz.zeroValue9
 t20:=Tryz.underlying20
 a20:=Tryz.isAgg20
 z20:=Tryz.sizeOf20
 v20:=Tryz.zeroValue20
 t21:=Tryz.underlying21
 a21:=Tryz.isAgg21
 z21:=Tryz.sizeOf21
 v21:=Tryz.zeroValue21
 t37:=Tryz.underlying122
 a37:=Tryz.isAgg122
 z37:=Tryz.sizeOf122
 v37:=Tryz.zeroValue122
 t46:=Tryz.underlying167
 a46:=Tryz.isAgg167
 z46:=Tryz.sizeOf167
 v46:=Tryz.zeroValue167
 t51:=Tryz.underlying186
 a51:=Tryz.isAgg186
 z51:=Tryz.sizeOf186
 v51:=Tryz.zeroValue186
 t53:=Tryz.underlying159
 a53:=Tryz.isAgg159
 z53:=Tryz.sizeOf159
 v53:=Tryz.zeroValue159
 t75:=Tryz.underlying98
 a75:=Tryz.isAgg98
 z75:=Tryz.sizeOf98
 v75:=Tryz.zeroValue98
 t76:=Tryz.underlying99
 a76:=Tryz.isAgg99
 z76:=Tryz.sizeOf99
 v76:=Tryz.zeroValue99
 t85:=Tryz.underlying141
 a85:=Tryz.isAgg141
 z85:=Tryz.sizeOf141
 v85:=Tryz.zeroValue141
 t127:=Tryz.underlying138
 a127:=Tryz.isAgg138
 z127:=Tryz.sizeOf138
 v127:=Tryz.zeroValue138
 t143:=Tryz.underlying191
 a143:=Tryz.isAgg191
 z143:=Tryz.sizeOf191
 v143:=Tryz.zeroValue191
 t145:=Tryz.underlying193
 a145:=Tryz.isAgg193
 z145:=Tryz.sizeOf193
 v145:=Tryz.zeroValue193
 t167:=Tryz.underlying140
 a167:=Tryz.isAgg140
 z167:=Tryz.sizeOf140
 v167:=Tryz.zeroValue140
 t168:=Tryz.underlying143
 a168:=Tryz.isAgg143
 z168:=Tryz.sizeOf143
 v168:=Tryz.zeroValue143
 t171:=Tryz.underlying158
 a171:=Tryz.isAgg158
 z171:=Tryz.sizeOf158
 v171:=Tryz.zeroValue158
 t173:=Tryz.underlying162
 a173:=Tryz.isAgg162
 z173:=Tryz.sizeOf162
 v173:=Tryz.zeroValue162
 t175:=Tryz.underlying165
 a175:=Tryz.isAgg165
 z175:=Tryz.sizeOf165
 v175:=Tryz.zeroValue165
 t210:=Tryz.underlying170
 a210:=Tryz.isAgg170
 z210:=Tryz.sizeOf170
 v210:=Tryz.zeroValue170
 t212:=Tryz.underlying185
 a212:=Tryz.isAgg185
 z212:=Tryz.sizeOf185
 v212:=Tryz.zeroValue185
 t213:=Tryz.underlying187
 a213:=Tryz.isAgg187
 z213:=Tryz.sizeOf187
 t232:=Tryz.underlying209
 a232:=Tryz.isAgg209
 z232:=Tryz.sizeOf209
 v232:=Tryz.zeroValue209
 t233:=Tryz.underlying210
 a233:=Tryz.isAgg210
 z233:=Tryz.sizeOf210
 v233:=Tryz.zeroValue210
 g15:=by kernel_rfl
 g16:=by kernel_rfl
 g17:=by kernel_rfl
 g18:=by kernel_rfl
 g19:=by kernel_rfl
 t80:=Tryz.underlying125
 a80:=Tryz.isAgg125
 z80:=Tryz.sizeOf125
 v80:=Tryz.zeroValue125
 i0:=by kernel_rfl
 i2:=by kernel_rfl
 i3:=by kernel_rfl
 i4:=by kernel_rfl
 i5:=by kernel_rfl
 i9:=by kernel_rfl
 i20:=by kernel_rfl
 i21:=by kernel_rfl
 i37:=by kernel_rfl
 i46:=by kernel_rfl
 i51:=by kernel_rfl
 i53:=by kernel_rfl
 i75:=by kernel_rfl
 i76:=by kernel_rfl
 i80:=by kernel_rfl
 i85:=by kernel_rfl
 i127:=by kernel_rfl
 i143:=by kernel_rfl
 i145:=by kernel_rfl
 i167:=by kernel_rfl
 i168:=by kernel_rfl
 i171:=by kernel_rfl
 i173:=by kernel_rfl
 i175:=by kernel_rfl
 i210:=by kernel_rfl
 i212:=by kernel_rfl
 i232:=by kernel_rfl
 i233:=by kernel_rfl
 m15:=by kernel_rfl
 m16:=by kernel_rfl
 m17:=by kernel_rfl
 m18:=by kernel_rfl
 m19:=by kernel_rfl
 c0:=by kernel_rfl
 c2:=by kernel_rfl
 c3:=by kernel_rfl
 c4:=by kernel_rfl
 c5:=by kernel_rfl
 c9:=by kernel_rfl
 c20:=by kernel_rfl
 c21:=by kernel_rfl
 c37:=by kernel_rfl
 c46:=by kernel_rfl
 c51:=by kernel_rfl
 c53:=by kernel_rfl
 c75:=by kernel_rfl
 c76:=by kernel_rfl
 c80:=by kernel_rfl
 c85:=by kernel_rfl
 c127:=by kernel_rfl
 c143:=by kernel_rfl
 c145:=by kernel_rfl
 c167:=by kernel_rfl
 c168:=by kernel_rfl
 c171:=by kernel_rfl
 c173:=by kernel_rfl
 c175:=by kernel_rfl
 c210:=by kernel_rfl
 c212:=by kernel_rfl
 c213:=by kernel_rfl
 c232:=by kernel_rfl
 c233:=by kernel_rfl }
open Go.RowKit in
theorem Tryz.strconv_Atoi_ok (s:ByteArray) (hmax:s.size≤9223372036854775806) (v:Int) (h:Lib.atoiAll s.data.toList=.ok v) (w:World) :
  Calls Tryz.prog 71 #[.string s] w fun e w'=>e=.returned (.tuple #[.int .i64 v,.nilIface])∧(w'=w∨∃t,w'=Lib.bytesWorld w 5 t):=Any.strconv_Atoi_ok Tryz.laysC172 s hmax v h w
open Go.RowKit in
theorem Tryz.strconv_Atoi_syntax (s:ByteArray) (hlim:s.size≤281474976710656) (h:Lib.atoiAll s.data.toList=Lib.NumEnd.syntax) (ev:Value) (w:World) (hv:w.cell? ⟨0,0,none⟩=some ev) (hev:ev=.nilIface∨∃te pe,ev=.iface te pe) :
  Calls Tryz.prog 71 #[.string s] w fun e w'=>∃N,e=.returned (.tuple #[.int .i64 (0),.iface 143 (.pointer (some ⟨N,0,none⟩))])∧w.heap.size≤N∧w'.heap[N]?=some (.cells #[.string ⟨#[65,116,111,105]⟩,.string s,ev] 170 (0,0))∧Below w.heap.size w w':=Any.strconv_Atoi_syntax Tryz.laysC172 s hlim h ev w hv hev
open Go.RowKit in
theorem Tryz.strconv_Atoi_range (s:ByteArray) (hlim:s.size≤281474976710656) (h:Lib.atoiAll s.data.toList=.range) (ev:Value) (w:World) (hv:w.cell? ⟨1,0,none⟩=some ev) (hev:ev=.nilIface∨∃te pe,ev=.iface te pe) :
  Calls Tryz.prog 71 #[.string s] w fun e w'=>∃N,e=.returned (.tuple #[.int .i64 (Lib.atoiSat s.data.toList),.iface 143 (.pointer (some ⟨N,0,none⟩))])∧w.heap.size≤N∧w'.heap[N]?=some (.cells #[.string ⟨#[65,116,111,105]⟩,.string s,ev] 170 (0,0))∧Below w.heap.size w w':=Any.strconv_Atoi_range Tryz.laysC172 s hlim h ev w hv hev
def Tryz.lays219_ren:Go.Shelf.Ren:=⟨fun|219=>136|217=>161|225=>162|224=>163|267=>164|266=>186|314=>187|n=>n,fun|9=>9|3=>3|4=>4|5=>5|46=>167|146=>204|51=>186|n=>n,fun|1=>3|n=>n⟩
theorem Tryz.lays219:Go.Proofs.Lays.n219 Tryz.prog Tryz.lays219_ren:={
 mixed:=by kernel_rfl
 f217:=Tryz.func161.trans (congrArg some (by kernel_rfl))
 f219:=Tryz.func136.trans (congrArg some (by kernel_rfl))
 f224:=Tryz.func163.trans (congrArg some (by kernel_rfl))
 f225:=Tryz.func162.trans (congrArg some (by kernel_rfl))
 f266:=Tryz.func186.trans (congrArg some (by kernel_rfl))
 f267:=Tryz.func164.trans (congrArg some (by kernel_rfl))
 f314:=Tryz.func187.trans (congrArg some (by kernel_rfl))
 t3:=Tryz.underlying3
 a3:=Tryz.isAgg3
 z3:=Tryz.sizeOf3
 v3:=Tryz.zeroValue3
 t4:=Tryz.underlying4
 a4:=Tryz.isAgg4
 z4:=Tryz.sizeOf4
 v4:=Tryz.zeroValue4
 t5:=Tryz.underlying5
 a5:=Tryz.isAgg5
 z5:=Tryz.sizeOf5
 v5:=Tryz.zeroValue5
 t9:=Tryz.underlying9
 a9:=Tryz.isAgg9
 z9:=Tryz.sizeOf9
 v9:=Tryz.zeroValue9
 t46:=Tryz.underlying167
 a46:=Tryz.isAgg167
 z46:=Tryz.sizeOf167
 v46:=Tryz.zeroValue167
 t51:=Tryz.underlying186
 a51:=Tryz.isAgg186
 z51:=Tryz.sizeOf186
 v51:=Tryz.zeroValue186
 t146:=Tryz.underlying204
 a146:=Tryz.isAgg204
 z146:=Tryz.sizeOf204
 v146:=Tryz.zeroValue204
 g1:=by kernel_rfl }
open Go.RowKit Go.Lib in
theorem Tryz.stringslite_Index_one (s:ByteArray) (c:UInt8) (w:World) :
  Calls Tryz.prog 136 #[.string s,.string ⟨#[c]⟩] w fun e w'=>e=.returned (.int .i64 (Lib.indexByte s.data.toList c))∧w'=w:=Any.stringslite_Index_one Tryz.lays219 s c w
end Go.Proofs
namespace Go.Proofs
open Go Go.Ab Go.RowKit
variable {G:IH}
theorem f136 (s:ByteArray):au Tryz.prog G 136 [ds s,ds colon] (di (lW s)):=by
 refine au.yY (args:=[.string s,.string colon]) (v:=.int .i64 _) Tryz.call136 fun w _=>?_
 refine Calls.mono (Tryz.stringslite_Index_one s 58 w) ?_
 rintro e w' ⟨he,rfl⟩
 exact⟨he,Below.refl _ _⟩
def Uz:iw:=fun f args=>match f,args with
 | 136,[.con (.string s),.con (.string _)]=>some (di (lW s))
 | 112,[.con (.string s),.con (.string _)]=>some (.aC [ds (gX s),ds (jy s),db (rD s)])
 | _,_=>none
theorem f112 (s:ByteArray) (hs:s.size≤1000000):au Tryz.prog G 112 [ds s,ds colon] (.aC [ds (gX s),ds (jy s),db (rD s)]):=by
 refine au.walk (aj:=Uz) (keep:=[]) follows Tryz.func112 rfl Tryz.call112 ?_
 refine aJ (fun _ _ _ ZK=>(ZK 136 [(ds s),(ds colon)] (di (lW s))∧(((decide (lW s≥0))=true)→(((((0:Int)≤(0:Int))∧(0≤lW s)∧(lW s≤↑s.size))∧(I64 (lW s + ↑colon.size))∧(0≤lW s + ↑colon.size)∧(lW s + ↑colon.size≤↑s.size)∧((↑s.size:Int)≤↑s.size))∧((.aC [(ds (s.extract (Int.toNat 0) (lW s).toNat)),(ds (s.extract (lW s + ↑colon.size).toNat (↑s.size:Int).toNat)),(db true)]):DV)=(.aC [(ds (gX s)),(ds (jy s)),(db (rD s))])))∧(((decide (lW s≥0))=false)→(((.aC [(ds s),(ds (ByteArray.mk #[])),(db false)]):DV)=(.aC [(ds (gX s)),(ds (jy s)),(db (rD s))]))))) (by kernel_rfl) ?_
 have hlt:=YH s
 have e1:(colon.size:Int)=1:=rfl
 have e0:Int.toNat (0:Int)=0:=rfl
 rw[e1]
 refine⟨f136 s,fun h=>?_,fun h=>?_⟩
 ·have h:0≤lW s:=by simpa using h
  refine⟨⟨⟨by omega,by omega,by omega⟩,⟨by omega,by omega⟩,by omega,by omega,by omega⟩,?_⟩
  unfold gX jy rD
  rw[if_pos h,if_pos h,decide_eq_true h,e0,gZ]
 ·have h:¬0≤lW s:=by simpa using h
  unfold gX jy rD
  rw[if_neg h,if_neg h,decide_eq_false h]
theorem f95 (s:ByteArray) (hs:s.size≤1000000):au Tryz.prog G 95 [ds s,ds colon] (.aC [ds (gX s),ds (jy s),db (rD s)]):=by
 refine au.walk (aj:=Uz) (keep:=[]) follows Tryz.func95 rfl Tryz.call95 ?_
 refine aJ (fun _ _ _ ZK=>(ZK 112 [(ds s),(ds colon)] (.aC [(ds (gX s)),(ds (jy s)),(db (rD s))])∧(ZS ((.aC [(ds (gX s)),(ds (jy s)),(db (rD s))]):DV)))) (by kernel_rfl) ?_
 exact⟨f112 s hs,rfl⟩
theorem Wj (s:ByteArray) (n:Int) (w:World) (h:Calls Tryz.prog 71 #[.string s] w fun e w'=>∃p,e=.returned (.tuple #[.int .i64 n,.iface 143 p])∧Below w.heap.size w w') :
  Calls Tryz.prog 96 #[.string s] w fun e w'=>e=.returned (.tuple #[.int .i64 n,.bool false])∧Below w.heap.size w w':=by
 go_enter Tryz.func96,Tryz.ntmps96
 go_wp2_with (go_at_call 71;refine h.mono ?_;rintro e w' ⟨p,rfl,hb⟩)
 go_ret2
 exact⟨rfl,hb⟩
def Errs (G:IH):Prop:=∀w,G.holds w→(∃te pe,w.cell? ⟨0,0,none⟩=some (.iface te pe))∧∃te pe,w.cell? ⟨1,0,none⟩=some (.iface te pe)
def Yd (v:Int):iw:=fun f args=>match f,args with
 | 71,[.con (.string _)]=>some (.aC [di v,.con .nilIface])
 | 67,[.con (.int .i64 n)]=>some (ds (bs (Lib.itoa n)))
 | _,_=>none
theorem Tc {f:FuncId} {xs:List DV} {n:Int} {b:Bool} (h:au Tryz.prog G f xs (.con (.tuple #[.int .i64 n,.bool b]))):au Tryz.prog G f xs (.aC [di n,db b]):=by
 refine au.imp h fun k v hv=>?_
 have hv:v=.tuple #[.int .i64 n,.bool b]:=hv
 subst hv
 exact⟨[.int .i64 n,.bool b],rfl,_,_,rfl,rfl,_,_,rfl,rfl,rfl⟩
theorem Q8 (s:ByteArray) (n:Int) (h:∀w,G.holds w→Calls Tryz.prog 71 #[.string s] w fun e w'=>∃p,e=.returned (.tuple #[.int .i64 n,.iface 143 p])∧Below w.heap.size w w'):au Tryz.prog G 96 [ds s] (.aC [di n,db false]):=by
 refine Tc (au.yY (args:=[.string s]) (v:=.tuple #[.int .i64 n,.bool false]) Tryz.call96 fun w hw=>?_)
 exact Wj s n w (h w hw)
theorem UM (s:ByteArray) (hs:s.size≤1000000) (v:Int) (h:Lib.atoiAll s.data.toList=.ok v):au Tryz.prog G 71 [ds s] (.aC [di v,.con .nilIface]):=by
 have:au Tryz.prog G 71 [ds s] (.con (.tuple #[.int .i64 v,.nilIface])):=by
  refine au.yY (args:=[.string s]) (v:=.tuple #[.int .i64 v,.nilIface]) Tryz.call71 fun w _=>?_
  refine Calls.mono (Tryz.strconv_Atoi_ok s (by omega) v h w) ?_
  rintro e w' ⟨he,hb⟩
  refine⟨he,?_⟩
  rcases hb with rfl|⟨t,rfl⟩
  ·exact Below.refl _ _
  ·exact Lib.bytesWorld_below _ _ _
 refine au.imp this fun k u hu=>?_
 have hu:u=.tuple #[.int .i64 v,.nilIface]:=hu
 subst hu
 exact⟨[.int .i64 v,.nilIface],rfl,_,_,rfl,rfl,_,_,rfl,rfl,rfl⟩
theorem f96 (hT:Tab G) (hE:Errs G) (s:ByteArray) (hs:s.size≤1000000):au Tryz.prog G 96 [ds s] (.aC [di (dJ s),db (uO s)]):=by
 unfold dJ uO
 rcases h:Lib.atoiAll s.data.toList with v|_|_
 rotate_left
 ·-- no numeral
  refine Q8 s 0 fun w hw=>?_
  obtain ⟨⟨te,pe,h2⟩,_⟩:=hE w hw
  refine(Tryz.strconv_Atoi_syntax s (by omega) h (.iface te pe) w h2 (.inr ⟨te,pe,rfl⟩)).mono ?_
  rintro e w' ⟨N,rfl,_,_,hb⟩
  exact⟨_,rfl,hb⟩
 ·-- none that is held
  refine Q8 s _ fun w hw=>?_
  obtain ⟨_,te,pe,h2⟩:=hE w hw
  refine(Tryz.strconv_Atoi_range s (by omega) h (.iface te pe) w h2 (.inr ⟨te,pe,rfl⟩)).mono ?_
  rintro e w' ⟨N,rfl,_,_,hb⟩
  exact⟨_,rfl,hb⟩
 ·-- a number
  refine au.walk (aj:=Yd v) (keep:=[]) follows Tryz.func96 rfl Tryz.call96 ?_
  refine aJ (fun _ _ _ ZK=>(ZK 71 [(ds s)] (.aC [(di v),(.con .nilIface)])∧(((true&&decide (v≥0))=true)→ZK 67 [(di v)] (ds (bs (Lib.itoa v))))∧((.aC [(di v),(db (true&&decide (v≥0)&&(bs (Lib.itoa v)).toList==s.toList))]):DV)=(.aC [(di (match Lib.NumEnd.ok v with|Lib.NumEnd.ok v=>v|Lib.NumEnd.range=>Lib.atoiSat s.data.toList|x=>0)),(db (match Lib.NumEnd.ok v with|Lib.NumEnd.ok v=>decide (0≤v)&&decide (bs (Lib.itoa v)=s)|x=>false))]))) (by kernel_rfl) ?_
  have hv:=Wq h
  refine⟨UM s hs v h,fun _=>f67 hT v hv,?_⟩
  rw[dO]
  simp only[Bool.true_and,ge_iff_le]
theorem ade (e:Ev) {f:Nat→DV} (hf:f 0=fQ e):au Tryz.prog G 12 [.slc 9 1 f,di 1] (db (sN [e] 1)):=
 au.args (f12 [e] 1 (show 1≤9223372036854775807 by decide)) fun _ us hh=>DV.jJ (fun _ hv=>DV.gK (fun i hi=>by
  have hi:i<1:=hi
  obtain rfl:i=0:=by omega
  exact hf) hv) (fun _ h=>h) us hh
theorem Zo {x:Ev} (h:sN [x] 1=true):x.k.st.size≤1000000∧x.k.ex.size≤1000000:=by
 have:=(ZI h).1 x (by simp)
 exact⟨by omega,by omega⟩
end Go.Proofs
namespace Go.Proofs
variable {ok:Ev→Bool}
end Go.Proofs
namespace Go.Proofs
section
variable {κ:Nat→Int}
end
end Go.Proofs
namespace Go.Proofs
end Go.Proofs
namespace Go.Proofs
open Go Go.Ab Go.RowKit
variable {G:IH}
end Go.Proofs
