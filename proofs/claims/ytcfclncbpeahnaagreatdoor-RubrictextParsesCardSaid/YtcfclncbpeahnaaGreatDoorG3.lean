import Derived.Test.YtcfclncbpeahnaaGreatDoorAcD
import Derived.Test.YtcfclncbpeahnaaGreatDoorG2
import Derived.Test.YtcfclncbpeahnaaGreatDoorG0
import Derived.Lib.SlTrimSet
import Derived.Shelf.Strings.SlTrimAscii
import Derived.Shelf.Strings.Trim
import Derived.Shelf.Small.Utf8
import Derived.Shelf.Small.Strs
import Derived.Shelf.Small.Wraps
import Derived.Shelf.LaysM
import Derived.Shelf.LaysC
import Derived.Shelf.Strconv.AtoiAll
import Derived.Shelf.Strings.Search1
import Derived.Shelf.Strings.Search2
import Derived.Shelf.Strings.Prefix
import Derived.Test.YtcfclncbpeahnaaGreatDoorProg
import Derived.Test.YtcfclncbpeahnaaGreatDoorG1
set_option autoImplicit false
namespace Go.Proofs
open Go Go.Ab Go.RowKit
set_option maxHeartbeats 4000000
set_option maxRecDepth 100000
variable {G:IH}
/-! The reference's rules. -/
theorem f82:ay Tryz.prog G 82 [] (xU bP):=by
 refine ay.res ?_ fun k v hv=>Wx hv
 refine ay.aF (aj:=Fa) (keep:=[]) follows Tryz.func82 rfl Tryz.call82 ?_
 refine au (fun _ _ _ _=>(ZS ((.slc 1 4 (aS false 1 [(ds (ByteArray.mk #[112,111,105,110,116,115])),(ds (ByteArray.mk #[112,101,110,97,108,116,121])),(ds (ByteArray.mk #[99,97,112])),(ds (ByteArray.mk #[102,108,111,111,114]))])):DV))) (by kernel_rfl) ?_
 rfl
end Go.Proofs
/- What the text of a fraction says,plain. -/
namespace Go.Proofs
open Go Go.Ab
def eP (c:UInt8):Bool:=decide (48≤c.toNat)&&decide (c.toNat≤57)
theorem kX (c:UInt8):eP c=true↔FK c:=by
 unfold eP FK;rw[aV,decide_eq_true_eq,decide_eq_true_eq]
def spl:List UInt8→List UInt8×List UInt8
 | []=>([],[])
 | c :: l=>bif eP c then (c :: (spl l).1,(spl l).2) else ([],c :: l)
theorem oV:∀S,(spl S).1++(spl S).2=S
 | []=>rfl
 | c :: l=>by
  rw[spl]
  cases eP c with
  | true=>simp only[cond_true,List.cons_append,oV l]
  | false=>rfl
theorem uf:∀S,∀c∈(spl S).1,eP c=true
 | [],c,h=>by simp[spl] at h
 | d :: l,c,h=>by
  rw[spl] at h
  cases hd:eP d with
  | true=>
   rw[hd,cond_true] at h
   rcases List.mem_cons.1 h with rfl|h
   ·exact hd
   ·exact uf l c h
  | false=>rw[hd,cond_false] at h;simp at h
theorem wL:∀{D R:List UInt8},(∀c∈D,eP c=true)→(∀c T,R=c :: T→eP c=false)→spl (D++R)=(D,R)
 | [],[],_,_=>rfl
 | [],c :: R,_,h=>by rw[List.nil_append,spl,h c R rfl];rfl
 | d :: D,R,hd,h=>by
  rw[List.cons_append,spl,hd d (by simp),cond_true,wL (fun c hc=>hd c (by simp[hc])) h]
theorem JZ {S:List UInt8} (h:S.all eP=true):spl S=(S,[]):=by
 have:=wL (D:=S) (R:=[]) (fun c hc=>List.all_eq_true.1 h c hc) (fun c T h=>by cases h)
 rwa [List.append_nil] at this
theorem FZ {S:List UInt8}:S.all eP=true↔(spl S).2=[]:=by
 refine⟨fun h=>by rw[JZ h],fun h=>?_⟩
 have e:=oV S
 rw[h,List.append_nil] at e
 rw[←e,List.all_eq_true]
 exact fun c hc=>uf S c hc
def jq (l:List UInt8) (most:Nat):Option Nat:=if 1≤l.length∧l.length≤most∧l.all eP=true then some (bM l) else none
def mP (D:List UInt8):List UInt8→Option (Nat×Nat)
 | []=>some (bM D,1)
 | c :: T=>if c=47 then (jq T 7).map fun b=>(bM D,b) else if c=46 then (jq T 6).map fun b=>(bM D*10 ^ T.length+b,10 ^ T.length) else none
def dO (S:List UInt8):Option (Nat×Nat):=if 1≤(spl S).1.length∧(spl S).1.length≤10 then mP (spl S).1 (spl S).2 else none
theorem ZM {l:List UInt8} {m:Nat} {c:UInt8} (h:c∈l) (hc:eP c=false):jq l m=none:=by
 unfold jq
 rw[if_neg]
 rintro ⟨_,_,h3⟩
 have:=List.all_eq_true.1 h3 c h
 rw[hc] at this;cases this
theorem La {D T:List UInt8} {c d:UInt8} (hd:d∈T) (hb:eP d=false):mP D (c :: T)=none:=by
 unfold mP
 simp only[ZM hd hb,Option.map_none]
 split
 ·rfl
 ·split<;>rfl
theorem UZ {w r:List UInt8} {d:UInt8} (hd:eP d=false) (hw:∀c∈w,eP c=true):spl (w++d :: r)=(w,d :: r):=
 wL hw fun c T h=>by simp at h;rw[←h.1];exact hd
theorem RH {w r:List UInt8} {d:UInt8} (hw:¬∀c∈w,eP c=true):∃D c T,spl (w++d :: r)=(D,c :: T)∧eP c=false∧c∈w∧d∈T:=by
 induction w with
 | nil=>exact absurd (fun c hc=>by simp at hc) hw
 | cons x w ih=>
  cases hx:eP x with
  | false=>exact⟨[],x,w++d :: r,by rw[List.cons_append,spl,hx];rfl,hx,by simp,by simp⟩
  | true=>
   obtain ⟨D,c,T,h1,h2,h3,h4⟩:=ih (fun h=>hw fun c hc=>by
    rcases List.mem_cons.1 hc with rfl|hc
    ·exact hx
    ·exact h c hc)
   exact⟨x :: D,c,T,by rw[List.cons_append,spl,hx,cond_true,h1],h2,by simp[h3],h4⟩
theorem GX {l:List UInt8} {m:Nat} (h:¬∀c∈l,eP c=true):jq l m=none:=by
 unfold jq
 rw[if_neg]
 rintro ⟨_,_,h3⟩
 exact h fun c hc=>List.all_eq_true.1 h3 c hc
theorem vk {l:List UInt8} {m:Nat} (h:∀c∈l,eP c=true):jq l m=if 1≤l.length∧l.length≤m then some (bM l) else none:=by
 unfold jq
 have:=List.all_eq_true.2 h
 simp only[this,and_true]
theorem FM {w r:List UInt8}:dO (w++47 :: r)=(jq w 10).bind fun a=>(jq r 7).map fun b=>(a,b):=by
 by_cases h:∀c∈w,eP c=true
 ·unfold dO
  rw[UZ rfl h,vk h]
  simp only
  by_cases h2:1≤w.length∧w.length≤10
  ·rw[if_pos h2,if_pos h2];rfl
  ·rw[if_neg h2,if_neg h2];rfl
 ·obtain ⟨D,c,T,h1,_,_,h4⟩:=RH (r:=r) (d:=47) h
  unfold dO
  rw[h1,GX h]
  simp only
  rw[La h4 rfl]
  split<;>rfl
theorem Em {w r:List UInt8}:dO (w++46 :: r)=(jq w 10).bind fun a=>(jq r 6).map fun b=>(a*10 ^ r.length+b,10 ^ r.length):=by
 by_cases h:∀c∈w,eP c=true
 ·unfold dO
  rw[UZ rfl h,vk h]
  simp only
  by_cases h2:1≤w.length∧w.length≤10
  ·rw[if_pos h2,if_pos h2];rfl
  ·rw[if_neg h2,if_neg h2];rfl
 ·obtain ⟨D,c,T,h1,_,_,h4⟩:=RH (r:=r) (d:=46) h
  unfold dO
  rw[h1,GX h]
  simp only
  rw[La h4 rfl]
  split<;>rfl
theorem zC {S:List UInt8} (hs:(47:UInt8)∉S) (hw:(46:UInt8)∉S):dO S=(jq S 10).map fun a=>(a,1):=by
 by_cases h:S.all eP=true
 ·unfold dO
  rw[JZ h,vk (fun c hc=>List.all_eq_true.1 h c hc)]
  simp only
  by_cases h2:1≤S.length∧S.length≤10
  ·rw[if_pos h2,if_pos h2];rfl
  ·rw[if_neg h2,if_neg h2];rfl
 ·have h':¬∀c∈S,eP c=true:=fun h2=>h (List.all_eq_true.2 h2)
  rw[GX h']
  have hn:(spl S).2≠[]:=fun e=>h (FZ.2 e)
  obtain ⟨c,T,hc⟩:=List.exists_cons_of_ne_nil hn
  have hm:c∈S:=by rw[←oV S,hc];simp
  unfold dO
  rw[hc]
  have h1:c≠47:=fun e=>hs (e▸hm)
  have h2:c≠46:=fun e=>hw (e▸hm)
  simp only[mP,if_neg h1,if_neg h2,Option.map_none]
  split<;>rfl
end Go.Proofs
/- The texts that are written are read again,plain. -/
namespace Go.Proofs
open Go Go.Ab
theorem JF (n:Nat):∀c∈Lib.decDigits n,eP c=true:=fun c hc=>(kX c).2 ((oO n).1 c hc)
theorem Ry (n:Nat):1≤(Lib.decDigits n).length:=List.length_pos_iff.2 (oO n).2.2.1
theorem EO {n m:Nat} (h:(Lib.decDigits n).length≤m):jq (Lib.decDigits n) m=some n:=by
 rw[vk (JF n),if_pos ⟨Ry n,h⟩,(oO n).2.1]
theorem UE {n:Nat} {c:UInt8} (hc:eP c=false):c∉Lib.decDigits n:=fun h=>by
 rw[JF n c h] at hc;cases hc
theorem WR {n:Nat} (h:n<10000000000):dO (Lib.decDigits n)=some (n,1):=by
 rw[zC (UE rfl) (UE rfl),EO (iG 9 n (by omega))];rfl
theorem S9 {n d:Nat} (h:n<10000000000) (hd:d<10000000):dO (Lib.decDigits n++47 :: Lib.decDigits d)=some (n,d):=by
 rw[FM,EO (iG 9 n (by omega)),EO (iG 6 d (by omega))];rfl
theorem Qm {n:Nat} {T:List UInt8} (h:n<10000000000) (hT:∀c∈T,eP c=true) (h1:1≤T.length) (h6:T.length≤6):dO (Lib.decDigits n++46 :: T)=some (n*10 ^ T.length+bM T,10 ^ T.length):=by
 rw[Em,EO (iG 9 n (by omega)),vk hT,if_pos ⟨h1,h6⟩];rfl
theorem Rf:∀(j r:Nat),r<10 ^ j→∃T,Lib.decDigits (10 ^ j+r)=49 :: T∧T.length=j∧(∀c∈T,eP c=true)∧bM T=r
 | 0,r,h=>⟨[],by
   have:r=0:=by simpa using h
   subst this
   rw[Lib.decDigits,dif_pos (by decide)];rfl,rfl,fun c hc=>by simp at hc,by
   have:r=0:=by simpa using h
   subst this;rfl⟩
 | j+1,r,h=>by
  rw[Nat.pow_succ] at h
  obtain ⟨T,h1,h2,h3,h4⟩:=Rf j (r / 10) (by omega)
  have hp:0<10 ^ j:=Nat.pow_pos (by decide)
  have hd:=JG (show r % 10<10 by omega)
  have e1:(10 ^ (j+1)+r) / 10=10 ^ j+r / 10:=by rw[Nat.pow_succ];omega
  have e2:(10 ^ (j+1)+r) % 10=r % 10:=by rw[Nat.pow_succ];omega
  refine⟨T++[UInt8.ofNat (48+r % 10)],?_,by rw[List.length_append,h2];rfl,fun c hc=>?_,?_⟩
  ·rw[Lib.decDigits,dif_neg (by rw[Nat.pow_succ];omega),e1,e2,h1];rfl
  ·rcases List.mem_append.1 hc with hc|hc
   ·exact h3 c hc
   ·rw[List.mem_singleton] at hc;subst hc
    exact(kX _).2 ⟨by omega,by omega⟩
  ·rw[Bc,h4,hd];omega
theorem PZ {n j r:Nat} (h:n<10000000000) (hj:1≤j) (hj6:j≤6) (hr:r<10 ^ j):dO (Lib.decDigits n++46 :: (Lib.decDigits (10 ^ j+r)).tail)=some (n*10 ^ j+r,10 ^ j):=by
 obtain ⟨T,h1,h2,h3,h4⟩:=Rf j r hr
 rw[h1,List.tail_cons,Qm h h3 (by omega) (by omega),h2,h4]
end Go.Proofs
/- Trimming digits leaves nothing exactly of digits,plain. -/
namespace Go.Proofs
open Go Go.Ab
theorem KY {p:UInt8→Bool}:∀{l:List UInt8} {c:UInt8} {t:List UInt8},l.dropWhile p=c :: t→p c=false
 | [],c,t,h=>by cases h
 | d :: l,c,t,h=>by
  rw[List.dropWhile_cons] at h
  by_cases hd:p d=true
  ·rw[if_pos hd] at h;exact KY h
  ·rw[if_neg hd] at h
   injection h with h1 h2
   rw[←h1];simpa using hd
theorem drop_nil {p:UInt8→Bool}:∀{l:List UInt8},l.dropWhile p=[]↔∀c∈l,p c=true
 | []=>by simp
 | d :: l=>by
  rw[List.dropWhile_cons]
  by_cases hd:p d=true
  ·rw[if_pos hd,drop_nil]
   simp[hd]
  ·rw[if_neg hd]
   simp[hd]
theorem Yp (l cs:List UInt8):Lib.trimS l cs=[]↔∀c∈l,cs.contains c=true:=by
 unfold Lib.trimS Lib.trimLeftS Lib.trimRightS
 rw[drop_nil]
 refine⟨fun h=>?_,fun h c hc=>?_⟩
 ·cases hr:l.reverse.dropWhile (cs.contains ·) with
  | nil=>intro c hc;exact drop_nil.1 hr c (List.mem_reverse.2 hc)
  | cons d t=>
   have h1:=KY hr
   have h2:=h d (by rw[hr];simp)
   rw[h2] at h1;cases h1
 ·have:l.reverse.dropWhile (cs.contains ·)=[]:=drop_nil.2 fun c hc=>h c (List.mem_reverse.1 hc)
  rw[this] at hc;simp at hc
def Hy:List UInt8:=[48,49,50,51,52,53,54,55,56,57]
theorem SC (c:UInt8):Hy.contains c=eP c:=by
 revert c
 have:∀n:Nat,n<256→Hy.contains (UInt8.ofNat n)=eP (UInt8.ofNat n):=by decide +kernel
 intro c
 have h:=this c.toNat c.toNat_lt
 rwa [UInt8.ofNat_toNat] at h
theorem Qj (l:List UInt8):Lib.trimS l Hy=[]↔l.all eP=true:=by
 rw[Yp,List.all_eq_true]
 simp only[SC]
open Go.Shelf
def Tryz.lays160_ren:Go.Shelf.Ren:=⟨fun|160=>142|232=>150|231=>149|227=>151|234=>153|233=>152|236=>155|235=>154|228=>164|271=>167|151=>166|197=>165|120=>180|152=>179|260=>178|137=>186|119=>187|224=>147|225=>146|217=>145|266=>162|n=>n,fun|9=>9|4=>4|3=>3|5=>5|117=>157|116=>156|0=>0|124=>160|21=>21|105=>171|46=>153|119=>193|139=>196|138=>195|n=>n,fun|3=>4|4=>5|n=>n⟩
theorem Tryz.lays160:Go.Proofs.Lays.n160 Tryz.prog Tryz.lays160_ren:={
 mixed:=by kernel_rfl
 f119:=Tryz.func187.trans (congrArg some (by kernel_rfl))
 f120:=Tryz.func180.trans (congrArg some (by kernel_rfl))
 f137:=Tryz.func186.trans (congrArg some (by kernel_rfl))
 f151:=Tryz.func166.trans (congrArg some (by kernel_rfl))
 f152:=Tryz.func179.trans (congrArg some (by kernel_rfl))
 f160:=Tryz.func142.trans (congrArg some (by kernel_rfl))
 f197:=Tryz.func165.trans (congrArg some (by kernel_rfl))
 f217:=Tryz.func145.trans (congrArg some (by kernel_rfl))
 f224:=Tryz.func147.trans (congrArg some (by kernel_rfl))
 f225:=Tryz.func146.trans (congrArg some (by kernel_rfl))
 f227:=Tryz.func151.trans (congrArg some (by kernel_rfl))
 f228:=Tryz.func164.trans (congrArg some (by kernel_rfl))
 f231:=Tryz.func149.trans (congrArg some (by kernel_rfl))
 f232:=Tryz.func150.trans (congrArg some (by kernel_rfl))
 f233:=Tryz.func152.trans (congrArg some (by kernel_rfl))
 f234:=Tryz.func153.trans (congrArg some (by kernel_rfl))
 f235:=Tryz.func154.trans (congrArg some (by kernel_rfl))
 f236:=Tryz.func155.trans (congrArg some (by kernel_rfl))
 f260:=Tryz.func178.trans (congrArg some (by kernel_rfl))
 f266:=Tryz.func162.trans (congrArg some (by kernel_rfl))
 f271:=Tryz.func167.trans (congrArg some (by kernel_rfl))
 t0:=Tryz.underlying0
 a0:=Tryz.isAgg0
 z0:=Tryz.sizeOf0
 v0:=Tryz.zeroValue0
 t3:=Tryz.underlying3
 a3:=Tryz.isAgg3
 z3:=Tryz.sizeOf3
 v3:=Tryz.zeroValue3
 t4:=Tryz.underlying4
 a4:=Tryz.isAgg4
 z4:=Tryz.sizeOf4
 v4:=Tryz.zeroValue4
 t5:=Tryz.underlying5
 a5:=Tryz.isAgg5
 z5:=Tryz.sizeOf5
 v5:=Tryz.zeroValue5
 t9:=Tryz.underlying9
 a9:=Tryz.isAgg9
 z9:=Tryz.sizeOf9
 v9:=Tryz.zeroValue9
 t21:=Tryz.underlying21
 a21:=Tryz.isAgg21
 z21:=Tryz.sizeOf21
 v21:=Tryz.zeroValue21
 t46:=Tryz.underlying153
 a46:=Tryz.isAgg153
 z46:=Tryz.sizeOf153
 v46:=Tryz.zeroValue153
 t105:=Tryz.underlying171
 a105:=Tryz.isAgg171
 z105:=Tryz.sizeOf171
 v105:=Tryz.zeroValue171
 t116:=Tryz.underlying156
 a116:=Tryz.isAgg156
 z116:=Tryz.sizeOf156
 t117:=Tryz.underlying157
 a117:=Tryz.isAgg157
 z117:=Tryz.sizeOf157
 v117:=Tryz.zeroValue157
 t119:=Tryz.underlying193
 a119:=Tryz.isAgg193
 z119:=Tryz.sizeOf193
 t124:=Tryz.underlying160
 a124:=Tryz.isAgg160
 z124:=Tryz.sizeOf160
 v124:=Tryz.zeroValue160
 t138:=Tryz.underlying195
 a138:=Tryz.isAgg195
 z138:=Tryz.sizeOf195
 v138:=Tryz.zeroValue195
 t139:=Tryz.underlying196
 a139:=Tryz.isAgg196
 z139:=Tryz.sizeOf196
 v139:=Tryz.zeroValue196
 g3:=by kernel_rfl
 g4:=by kernel_rfl }
def Tryz.lays103_ren:Go.Shelf.Ren:=⟨fun|103=>125|210=>135|206=>107|n=>n,fun|9=>9|4=>4|24=>114|3=>3|n=>n,fun|n=>n⟩
theorem Tryz.lays103:Go.Proofs.Lays.n103 Tryz.prog Tryz.lays103_ren:={
 mixed:=by kernel_rfl
 f103:=Tryz.func125.trans (congrArg some (by kernel_rfl))
 f206:=Tryz.func107.trans (congrArg some (by kernel_rfl))
 f210:=Tryz.func135.trans (congrArg some (by kernel_rfl))
 t3:=Tryz.underlying3
 a3:=Tryz.isAgg3
 z3:=Tryz.sizeOf3
 v3:=Tryz.zeroValue3
 t4:=Tryz.underlying4
 a4:=Tryz.isAgg4
 z4:=Tryz.sizeOf4
 v4:=Tryz.zeroValue4
 t9:=Tryz.underlying9
 a9:=Tryz.isAgg9
 z9:=Tryz.sizeOf9
 v9:=Tryz.zeroValue9
 t24:=Tryz.underlying114
 a24:=Tryz.isAgg114
 z24:=Tryz.sizeOf114
 v24:=Tryz.zeroValue114 }
open Go.RowKit in
theorem Tryz.strings_CutPrefix (s p:ByteArray) (w:World) :
  Calls Tryz.prog 125 #[.string s,.string p] w fun e w'=>e=.returned (.tuple #[.string ⟨(Lib.trimPrefix s.data.toList p.data.toList).toArray⟩,.bool (Lib.hasPrefix s.data.toList p.data.toList)])∧w'=w:=Any.strings_CutPrefix Tryz.lays103 s p w
def Tryz.laysC172_ren:Go.Shelf.Ren:=⟨fun|172=>143|244=>156|245=>157|247=>168|279=>169|280=>170|281=>171|282=>172|287=>181|316=>182|171=>130|205=>183|321=>188|322=>189|243=>139|246=>144|283=>158|284=>159|285=>160|286=>161|129=>174|317=>173|318=>175|319=>176|320=>177|337=>184|338=>185|n=>n,fun|9=>9|3=>3|75=>85|76=>86|4=>4|5=>5|167=>174|37=>51|0=>0|85=>175|2=>2|168=>177|53=>163|175=>186|46=>153|210=>190|127=>121|145=>201|143=>199|21=>21|171=>162|173=>166|212=>181|51=>168|20=>20|213=>182|232=>202|233=>203|80=>90|n=>n,fun|15=>2|16=>3|17=>1|18=>6|19=>7|n=>n⟩
theorem Tryz.laysC172:Go.Proofs.LaysC.n172 Tryz.prog Tryz.laysC172_ren:={
 mixed:=by kernel_rfl
 f129:=Tryz.func174.trans (congrArg some (by kernel_rfl))
 f171:=Tryz.func130.trans (congrArg some (by kernel_rfl))
 f172:=Tryz.func143.trans (congrArg some (by kernel_rfl))
 f205:=Tryz.func183.trans (congrArg some (by kernel_rfl))
 f243:=Tryz.func139.trans (congrArg some (by kernel_rfl))
 f244:=Tryz.func156.trans (congrArg some (by kernel_rfl))
 f245:=Tryz.func157.trans (congrArg some (by kernel_rfl))
 f246:=Tryz.func144.trans (congrArg some (by kernel_rfl))
 f247:=Tryz.func168.trans (congrArg some (by kernel_rfl))
 f279:=Tryz.func169.trans (congrArg some (by kernel_rfl))
 f280:=Tryz.func170.trans (congrArg some (by kernel_rfl))
 f281:=Tryz.func171.trans (congrArg some (by kernel_rfl))
 f282:=Tryz.func172.trans (congrArg some (by kernel_rfl))
 f283:=Tryz.func158.trans (congrArg some (by kernel_rfl))
 f284:=Tryz.func159.trans (congrArg some (by kernel_rfl))
 f285:=Tryz.func160.trans (congrArg some (by kernel_rfl))
 f286:=Tryz.func161.trans (congrArg some (by kernel_rfl))
 f287:=Tryz.func181.trans (congrArg some (by kernel_rfl))
 f316:=Tryz.func182.trans (congrArg some (by kernel_rfl))
 f317:=Tryz.func173.trans (congrArg some (by kernel_rfl))
 f318:=Tryz.func175.trans (congrArg some (by kernel_rfl))
 f319:=Tryz.func176.trans (congrArg some (by kernel_rfl))
 f320:=Tryz.func177.trans (congrArg some (by kernel_rfl))
 f321:=Tryz.func188.trans (congrArg some (by kernel_rfl))
 f322:=Tryz.func189.trans (congrArg some (by kernel_rfl))
 f337:=Tryz.func184.trans (congrArg some (by kernel_rfl))
 f338:=Tryz.func185.trans (congrArg some (by kernel_rfl))
 t0:=Tryz.underlying0
 a0:=Tryz.isAgg0
 z0:=Tryz.sizeOf0
 v0:=Tryz.zeroValue0
 t2:=Tryz.underlying2
 a2:=Tryz.isAgg2
 z2:=Tryz.sizeOf2
 v2:=Tryz.zeroValue2
 t3:=Tryz.underlying3
 a3:=Tryz.isAgg3
 z3:=Tryz.sizeOf3
 v3:=Tryz.zeroValue3
 t4:=Tryz.underlying4
 a4:=Tryz.isAgg4
 z4:=Tryz.sizeOf4
 v4:=Tryz.zeroValue4
 t5:=Tryz.underlying5
 a5:=Tryz.isAgg5
 z5:=Tryz.sizeOf5
 v5:=Tryz.zeroValue5
 t9:=Tryz.underlying9
 a9:=Tryz.isAgg9
 z9:=Tryz.sizeOf9
 v9:=Tryz.zeroValue9
 t20:=Tryz.underlying20
 a20:=Tryz.isAgg20
 z20:=Tryz.sizeOf20
 v20:=Tryz.zeroValue20
 t21:=Tryz.underlying21
 a21:=Tryz.isAgg21
 z21:=Tryz.sizeOf21
 v21:=Tryz.zeroValue21
 t37:=Tryz.underlying51
 a37:=Tryz.isAgg51
 z37:=Tryz.sizeOf51
 v37:=Tryz.zeroValue51
 t46:=Tryz.underlying153
 a46:=Tryz.isAgg153
 z46:=Tryz.sizeOf153
 v46:=Tryz.zeroValue153
 t51:=Tryz.underlying168
 a51:=Tryz.isAgg168
 z51:=Tryz.sizeOf168
 v51:=Tryz.zeroValue168
 t53:=Tryz.underlying163
 a53:=Tryz.isAgg163
 z53:=Tryz.sizeOf163
 v53:=Tryz.zeroValue163
 t75:=Tryz.underlying85
 a75:=Tryz.isAgg85
 z75:=Tryz.sizeOf85
 v75:=Tryz.zeroValue85
 t76:=Tryz.underlying86
 a76:=Tryz.isAgg86
 z76:=Tryz.sizeOf86
 v76:=Tryz.zeroValue86
 t85:=Tryz.underlying175
 a85:=Tryz.isAgg175
 z85:=Tryz.sizeOf175
 v85:=Tryz.zeroValue175
 t127:=Tryz.underlying121
 a127:=Tryz.isAgg121
 z127:=Tryz.sizeOf121
 v127:=Tryz.zeroValue121
 t143:=Tryz.underlying199
 a143:=Tryz.isAgg199
 z143:=Tryz.sizeOf199
 v143:=Tryz.zeroValue199
 t145:=Tryz.underlying201
 a145:=Tryz.isAgg201
 z145:=Tryz.sizeOf201
 v145:=Tryz.zeroValue201
 t167:=Tryz.underlying174
 a167:=Tryz.isAgg174
 z167:=Tryz.sizeOf174
 v167:=Tryz.zeroValue174
 t168:=Tryz.underlying177
 a168:=Tryz.isAgg177
 z168:=Tryz.sizeOf177
 v168:=Tryz.zeroValue177
 t171:=Tryz.underlying162
 a171:=Tryz.isAgg162
 z171:=Tryz.sizeOf162
 v171:=Tryz.zeroValue162
 t173:=Tryz.underlying166
 a173:=Tryz.isAgg166
 z173:=Tryz.sizeOf166
 v173:=Tryz.zeroValue166
 t175:=Tryz.underlying186
 a175:=Tryz.isAgg186
 z175:=Tryz.sizeOf186
 v175:=Tryz.zeroValue186
 t210:=Tryz.underlying190
 a210:=Tryz.isAgg190
 z210:=Tryz.sizeOf190
 v210:=Tryz.zeroValue190
 t212:=Tryz.underlying181
 a212:=Tryz.isAgg181
 z212:=Tryz.sizeOf181
 v212:=Tryz.zeroValue181
 t213:=Tryz.underlying182
 a213:=Tryz.isAgg182
 z213:=Tryz.sizeOf182
 t232:=Tryz.underlying202
 a232:=Tryz.isAgg202
 z232:=Tryz.sizeOf202
 v232:=Tryz.zeroValue202
 t233:=Tryz.underlying203
 a233:=Tryz.isAgg203
 z233:=Tryz.sizeOf203
 v233:=Tryz.zeroValue203
 g15:=by kernel_rfl
 g16:=by kernel_rfl
 g17:=by kernel_rfl
 g18:=by kernel_rfl
 g19:=by kernel_rfl
 t80:=Tryz.underlying90
 a80:=Tryz.isAgg90
 z80:=Tryz.sizeOf90
 v80:=Tryz.zeroValue90
 i0:=by kernel_rfl
 i2:=by kernel_rfl
 i3:=by kernel_rfl
 i4:=by kernel_rfl
 i5:=by kernel_rfl
 i9:=by kernel_rfl
 i20:=by kernel_rfl
 i21:=by kernel_rfl
 i37:=by kernel_rfl
 i46:=by kernel_rfl
 i51:=by kernel_rfl
 i53:=by kernel_rfl
 i75:=by kernel_rfl
 i76:=by kernel_rfl
 i80:=by kernel_rfl
 i85:=by kernel_rfl
 i127:=by kernel_rfl
 i143:=by kernel_rfl
 i145:=by kernel_rfl
 i167:=by kernel_rfl
 i168:=by kernel_rfl
 i171:=by kernel_rfl
 i173:=by kernel_rfl
 i175:=by kernel_rfl
 i210:=by kernel_rfl
 i212:=by kernel_rfl
 i232:=by kernel_rfl
 i233:=by kernel_rfl
 m15:=by kernel_rfl
 m16:=by kernel_rfl
 m17:=by kernel_rfl
 m18:=by kernel_rfl
 m19:=by kernel_rfl
 c0:=by kernel_rfl
 c2:=by kernel_rfl
 c3:=by kernel_rfl
 c4:=by kernel_rfl
 c5:=by kernel_rfl
 c9:=by kernel_rfl
 c20:=by kernel_rfl
 c21:=by kernel_rfl
 c37:=by kernel_rfl
 c46:=by kernel_rfl
 c51:=by kernel_rfl
 c53:=by kernel_rfl
 c75:=by kernel_rfl
 c76:=by kernel_rfl
 c80:=by kernel_rfl
 c85:=by kernel_rfl
 c127:=by kernel_rfl
 c143:=by kernel_rfl
 c145:=by kernel_rfl
 c167:=by kernel_rfl
 c168:=by kernel_rfl
 c171:=by kernel_rfl
 c173:=by kernel_rfl
 c175:=by kernel_rfl
 c210:=by kernel_rfl
 c212:=by kernel_rfl
 c213:=by kernel_rfl
 c232:=by kernel_rfl
 c233:=by kernel_rfl }
open Go.RowKit in
theorem Tryz.strconv_Atoi_ok (s:ByteArray) (hmax:s.size≤9223372036854775806) (v:Int) (h:Lib.atoiAll s.data.toList=.ok v) (w:World) :
  Calls Tryz.prog 143 #[.string s] w fun e w'=>e=.returned (.tuple #[.int .i64 v,.nilIface])∧(w'=w∨∃t,w'=Lib.bytesWorld w 5 t):=Any.strconv_Atoi_ok Tryz.laysC172 s hmax v h w
set_option maxHeartbeats 1000000
set_option maxRecDepth 100000
open Go Go.Ab Go.RowKit
variable {G:IH}
def XD:ByteArray:={ data:=#[48,49,50,51,52,53,54,55,56,57] }
def preS (p s:ByteArray):ByteArray:=bs (Lib.trimPrefix s.data.toList p.data.toList)
def preB (p s:ByteArray):Bool:=Lib.hasPrefix s.data.toList p.data.toList
def EK (s:ByteArray):ByteArray:=bs (Lib.trimS s.data.toList Hy)
def gJ (s:ByteArray) (m:Int):Int:=((jq s.data.toList m.toNat).getD 0:Nat)
def iV (s:ByteArray) (m:Int):Bool:=(jq s.data.toList m.toNat).isSome
def IC:cZ:=fun f args=>match f,args with
 | 140,[.con (.string s),.con (.string p)]=>some (di (cI p s))
 | 132,[.con (.string s),.con (.string p)]=>some (.ak [ds (cD p s),ds (cR p s),db (cB p s)])
 | 114,[.con (.string s),.con (.string p)]=>some (.ak [ds (cD p s),ds (cR p s),db (cB p s)])
 | 125,[.con (.string s),.con (.string p)]=>some (.ak [ds (preS p s),db (preB p s)])
 | 142,[.con (.string s),.con (.string _)]=>some (ds (EK s))
 | 143,[.con (.string s)]=>some (.ak [di (bM s.data.toList:Nat),.con .nilIface])
 | 136,[.con (.string s),.con (.int .i64 m)]=>some (.ak [di (gJ s m),db (iV s m)])
 | _,_=>none
theorem FY {P:Program} {f:FuncId} {xs:List DV} {a b:Value} (h:ay P G f xs (.con (.tuple #[a,b]))):ay P G f xs (.ak [.con a,.con b]):=by
 refine⟨h.1,fun w k us hG hw hu=>(h.2 w k us hG hw hu).mono ?_⟩
 rintro e w' ⟨v,h',he,hv,rest⟩
 have hv:v=.tuple #[a,b]:=hv
 subst hv
 exact⟨_,h',he,⟨[a,b],rfl,_,_,rfl,rfl,_,_,rfl,rfl,rfl⟩,rest⟩
theorem f125 (s p:ByteArray):ay Tryz.prog G 125 [ds s,ds p] (.ak [ds (preS p s),db (preB p s)]):=by
 refine FY (ay.vg (args:=[.string s,.string p]) (v:=.tuple #[_,_]) Tryz.call125 fun w _=>?_)
 refine Calls.mono (Tryz.strings_CutPrefix s p w) ?_
 rintro e w' ⟨he,rfl⟩
 exact⟨he,Below.refl _ _⟩
theorem f142 (s:ByteArray) (hs:s.size≤1000000):ay Tryz.prog G 142 [ds s,ds XD] (ds (EK s)):=by
 refine ay.vg (args:=[.string s,.string XD]) (v:=.string _) Tryz.call142 fun w _=>?_
 refine Calls.mono (Any.strings_Trim_laid Tryz.lays160 (by kernel_rfl) s XD w (by omega) (by decide) (ascii_of_all (by decide))) ?_
 rintro e w' ⟨he,hb⟩
 exact⟨he,hb⟩
theorem f143 (s:ByteArray) (hs:s.size≤18) (h0:s.data.toList≠[]) (hd:∀c∈s.data.toList,FK c):ay Tryz.prog G 143 [ds s] (.ak [di (bM s.data.toList:Nat),.con .nilIface]):=by
 refine FY (ay.vg (args:=[.string s]) (v:=.tuple #[.int .i64 _,.nilIface]) Tryz.call143 fun w _=>?_)
 refine Calls.mono (Tryz.strconv_Atoi_ok s (by omega) _ (Qa h0 hd (by rw[dG];exact hs)) w) ?_
 rintro e w' ⟨he,hb⟩
 refine⟨he,?_⟩
 rcases hb with rfl|⟨t,rfl⟩
 ·exact Below.refl _ _
 ·exact Lib.bytesWorld_below _ _ _
theorem f136 (s:ByteArray) (m:Nat) (hm:m≤18) (hs:s.size≤1000000):ay Tryz.prog G 136 [ds s,di m] (.ak [di (gJ s m),db (iV s m)]):=by
 refine ay.walk (aj:=IC) (keep:=[]) follows Tryz.func136 rfl Tryz.call136 ?_
 refine au (fun _ _ _ ZK=>(fun Za=>((((!(s.toList==(ByteArray.mk #[]).toList||decide ((↑s.size:Int)>↑m)))=true)→ZK 142 [(ds s),(ds (ByteArray.mk #[48,49,50,51,52,53,54,55,56,57]))] (ds (EK s)))∧((Za=true)→(((.ak [(di 0),(db false)]):DV)=(.ak [(di (gJ s ↑m)),(db (iV s ↑m))])))∧((Za=false)→(ZK 143 [(ds s)] (.ak [(di (↑(bM s.data.toList))),(.con .nilIface)])∧((.ak [(di (↑(bM s.data.toList))),(db true)]):DV)=(.ak [(di (gJ s ↑m)),(db (iV s ↑m))]))))) (s.toList==(ByteArray.mk #[]).toList||decide ((↑s.size:Int)>↑m)||!(EK s).toList==(ByteArray.mk #[]).toList)) (by kernel_rfl) ?_
 try dsimp only
 have hsl:=dG s
 have hempty:(ByteArray.toList s==ByteArray.toList { data:=#[] })=decide (s.size=0):=by
  rw[gQ]
  refine decide_eq_decide.2 ⟨fun h=>by rw[h];rfl,fun h=>?_⟩
  have hn:s.data.toList=[]:=List.eq_nil_of_length_eq_zero (by rw[hsl];exact h)
  rw[←yT s,hn];rfl
 have acX:(ByteArray.toList (EK s)==ByteArray.toList { data:=#[] })=s.data.toList.all eP:=by
  rw[gQ,Bool.eq_iff_iff,decide_eq_true_iff,←Qj]
  unfold EK
  refine⟨fun h=>abZ (m:=[]) h,fun h=>by rw[h];rfl⟩
 have hO:jq s.data.toList m=if s.size=0∨m<s.size∨s.data.toList.all eP=false then none else some (bM s.data.toList):=by
  unfold jq
  rw[hsl]
  by_cases h:1≤s.size∧s.size≤m∧s.data.toList.all eP=true
  ·rw[if_pos h,if_neg]
   rintro (h1|h1|h1)
   ·omega
   ·omega
   ·rw[h.2.2] at h1;cases h1
  ·rw[if_neg h,if_pos]
   rcases Nat.eq_zero_or_pos s.size with h1|h1
   ·exact .inl h1
   ·rcases Nat.lt_or_ge m s.size with h2|h2
    ·exact .inr (.inl h2)
    ·refine .inr (.inr ?_)
     rw[Bool.eq_false_iff]
     exact fun h3=>h ⟨h1,h2,h3⟩
 rw[hempty,acX]
 unfold gJ iV
 rw[Int.toNat_natCast,hO]
 refine⟨fun _=>f142 s hs,fun h=>?_,fun h=>?_⟩
 ·have h:s.size=0∨m<s.size∨s.data.toList.all eP=false:=by
   simp only[Bool.or_eq_true,decide_eq_true_eq,Bool.not_eq_true'] at h
   rcases h with (h|h)|h
   ·exact .inl h
   ·exact .inr (.inl (by omega))
   ·exact .inr (.inr h)
  rw[if_pos h];rfl
 ·have h:¬(s.size=0∨m<s.size∨s.data.toList.all eP=false):=by
   simp only[Bool.or_eq_false_iff,decide_eq_false_iff_not,Bool.not_eq_false'] at h
   rintro (h1|h1|h1)
   ·exact h.1.1 h1
   ·exact h.1.2 (by omega)
   ·rw[h.2] at h1;cases h1
  rw[if_neg h]
  have h3:s.data.toList.all eP=true:=by
   cases hq:s.data.toList.all eP with
   | true=>rfl
   | false=>exact absurd (.inr (.inr hq)) h
  refine⟨f143 s (by omega) (fun e=>h (.inl ?_)) (fun c hc=>(kX c).1 (List.all_eq_true.1 h3 c hc)),rfl⟩
  rw[←hsl,e];rfl
def slash:ByteArray:={ data:=#[47] }
def dot:ByteArray:={ data:=#[46] }
def pR (s:ByteArray):Int×Int×Bool:=
 if cB slash s then (gJ (cD slash s) 10,gJ (cR slash s) 7,iV (cD slash s) 10&&iV (cR slash s) 7)
 else if cB dot s then (gJ (cD dot s) 10*10 ^ (min (cR dot s).size 7)+gJ (cR dot s) 6,10 ^ (min (cR dot s).size 7),iV (cD dot s) 10&&iV (cR dot s) 6)
 else (gJ (cD dot s) 10,1,iV (cD dot s) 10)
theorem U5 (s:ByteArray) (m:Nat):0≤gJ s m∧gJ s m<((10 ^ m:Nat):Int):=by
 unfold gJ jq
 rw[Int.toNat_natCast]
 have hp:0<10 ^ m:=Nat.pow_pos (by decide)
 split
 ·rename_i h
  have h1:=sG _ _ rfl fun c hc=>(kX c).1 (List.all_eq_true.1 h.2.2 c hc)
  have h2:(10:Nat) ^ s.data.toList.length≤10 ^ m:=Nat.pow_le_pow_right (by decide) h.2.1
  rw[Option.getD_some]
  omega
 ·rw[Option.getD_none];omega
noncomputable def aeK (s:ByteArray) (i:Nat):AS:=⟨regs Tryz.f126.ntmps [(15,vi (gJ (cD dot s) 10)),(16,vb (iV (cD dot s) 10)),(17,vi (gJ (cR dot s) 6)),(18,vb (iV (cR dot s) 6)),(19,vi ((10 ^ i:Nat):Int)),(64,vi (cR dot s).size),(65,vi i)],[]⟩
theorem QN {i:Nat} (h:i≤7):10 ^ i≤10000000:=Nat.pow_le_pow_right (by decide) h
theorem f126 (s:ByteArray) (hs:s.size≤1000000):ay Tryz.prog G 126 [ds s] (.ak [di (pR s).1,di (pR s).2.1,db (pR s).2.2]):=by
 refine ay.walk (aj:=IC) (keep:=[]) follows Tryz.func126 rfl Tryz.call126 ?_
 refine au (fun ZT ZW ZQ ZK=>(ZK 114 [(ds s),(ds (ByteArray.mk #[47]))] (.ak [(ds (cD (ByteArray.mk #[47]) s)),(ds (cR (ByteArray.mk #[47]) s)),(db (cB (ByteArray.mk #[47]) s))])∧(((cB (ByteArray.mk #[47]) s)=true)→(ZK 136 [(ds (cD (ByteArray.mk #[47]) s)),(di 10)] (.ak [(di (gJ (cD (ByteArray.mk #[47]) s) 10)),(db (iV (cD (ByteArray.mk #[47]) s) 10))])∧ZK 136 [(ds (cR (ByteArray.mk #[47]) s)),(di 7)] (.ak [(di (gJ (cR (ByteArray.mk #[47]) s) 7)),(db (iV (cR (ByteArray.mk #[47]) s) 7))])∧((.ak [(di (gJ (cD (ByteArray.mk #[47]) s) 10)),(di (gJ (cR (ByteArray.mk #[47]) s) 7)),(db (iV (cD (ByteArray.mk #[47]) s) 10&&iV (cR (ByteArray.mk #[47]) s) 7))]):DV)=(.ak [(di (pR s).fst),(di (pR s).snd.fst),(db (pR s).snd.snd)])))∧(((cB (ByteArray.mk #[47]) s)=false)→(ZK 114 [(ds s),(ds (ByteArray.mk #[46]))] (.ak [(ds (cD (ByteArray.mk #[46]) s)),(ds (cR (ByteArray.mk #[46]) s)),(db (cB (ByteArray.mk #[46]) s))])∧ZK 136 [(ds (cD (ByteArray.mk #[46]) s)),(di 10)] (.ak [(di (gJ (cD (ByteArray.mk #[46]) s) 10)),(db (iV (cD (ByteArray.mk #[46]) s) 10))])∧(((!cB (ByteArray.mk #[46]) s)=true)→(((.ak [(di (gJ (cD (ByteArray.mk #[46]) s) 10)),(di 1),(db (iV (cD (ByteArray.mk #[46]) s) 10))]):DV)=(.ak [(di (pR s).fst),(di (pR s).snd.fst),(db (pR s).snd.snd)])))∧(((!cB (ByteArray.mk #[46]) s)=false)→(ZK 136 [(ds (cR (ByteArray.mk #[46]) s)),(di 6)] (.ak [(di (gJ (cR (ByteArray.mk #[46]) s) 6)),(db (iV (cR (ByteArray.mk #[46]) s) 6))])∧ZW [cd Tryz.f126 [1,1,1,1,1,1,1,0,1,0],(.blk 0),cd Tryz.f126 [1,1,1,1,1,1,1,1]] (aB ZT [1,1]) ZQ)))))) (by kernel_rfl) ?_
 have hRs:∀p,(cR p s).size≤s.size:=fun p=>by
  unfold cR;split
  ·rw[ByteArray.size_extract];omega
  ·exact Nat.zero_le _
 have hDs:∀p,(cD p s).size≤s.size:=fun p=>by
  unfold cD;split
  ·rw[ByteArray.size_extract];omega
  ·exact Nat.le_refl _
 have r1:=hRs slash
 have r2:=hRs dot
 have r3:=hDs slash
 have r4:=hDs dot
 refine⟨f114 s 47 hs,fun h=>⟨f136 _ 10 (by omega) (by show (cD slash s).size≤_;omega),f136 _ 7 (by omega) (by show (cR slash s).size≤_;omega),?_⟩,fun h=>⟨f114 s 46 hs,f136 _ 10 (by omega) (by show (cD dot s).size≤_;omega),fun h2=>?_,fun h2=>⟨f136 _ 6 (by omega) (by show (cR dot s).size≤_;omega),?_⟩⟩⟩
 ·have h:cB slash s=true:=h
  unfold pR
  rw[if_pos h];rfl
 ·have h:cB slash s=false:=h
  have h2':(!cB dot s)=true:=h2
  have h2:cB dot s=false:=by simpa using h2'
  unfold pR
  rw[h,h2];rfl
 ·have h:cB slash s=false:=h
  have h2':(!cB dot s)=false:=h2
  have h2:cB dot s=true:=by simpa using h2'
  have hpr:pR s=(gJ (cD dot s) 10*10 ^ (min (cR dot s).size 7)+gJ (cR dot s) 6,10 ^ (min (cR dot s).size 7),iV (cD dot s) 10&&iV (cR dot s) 6):=by
   unfold pR
   rw[h,h2];rfl
  obtain ⟨a0,a1⟩:=U5 (cD dot s) 10
  obtain ⟨b0,b1⟩:=U5 (cR dot s) 6
  refine aK.loop (c:=aY (aC Tryz.f126) [1,1,1,1,1,1,1,0,1,0,0]) (by kernel_rfl) (aeK s) (fun i=>i≤(cR dot s).size∧i≤6) (fun i=>(cR dot s).size-i) 0 ?_ ⟨Nat.zero_le _,Nat.zero_le _⟩ ?_
  ·refine AS.leZ [0,
 1,
 2,
 3] [] (b:=((((vi (gJ (cD (ByteArray.mk #[46]) s) 10)):AV)=(vi (gJ (cD dot s) 10))∧((vb (iV (cD (ByteArray.mk #[46]) s) 10)):AV)=(vb (iV (cD dot s) 10))∧((vi (gJ (cR (ByteArray.mk #[46]) s) 6)):AV)=(vi (gJ (cR dot s) 6))∧((vb (iV (cR (ByteArray.mk #[46]) s) 6)):AV)=(vb (iV (cR dot s) 6))∧T0∧T0∧T0∧True)∧True)) (by kernel_rfl) (by kernel_rfl) ?_
   exact⟨⟨rfl,rfl,rfl,rfl,rfl,rfl,rfl,trivial⟩,trivial⟩
  ·rintro i ⟨hi,hi6⟩
   refine walk (aj:=IC) (keep:=[]) (cuts:=[]) (n:=1000) follows ?_
   refine bZ (fun ZT ZW ZQ _ ZA _=>((((decide ((↑i:Int)<↑(cR dot s).size))=true)→((I64 ((↑((10:Nat) ^ i):Int)*(10:Int)))∧(((decide ((↑((10:Nat) ^ i):Int)*(10:Int)>(1000000:Int)))=true)→ZW [cd Tryz.f126 [1,1,1,1,1,1,1,1]] (aB ZT [0,0]) ZQ)∧(((decide ((↑((10:Nat) ^ i):Int)*(10:Int)>(1000000:Int)))=false)→((I64 (↑i+1))∧(ZA (aB ZT [0,1]))))))∧(((decide ((↑i:Int)<↑(cR dot s).size))=false)→ZW [cd Tryz.f126 [1,1,1,1,1,1,1,1]] (aB ZT [1]) ZQ))) (by kernel_rfl) ?_
   have hp1:0<10 ^ i:=Nat.pow_pos (by decide)
   have hp2:=QN (i:=i) (by omega)
   have hps:10 ^ (i+1)=10 ^ i*10:=Nat.pow_succ ..
   have e10:((10 ^ 10:Nat):Int)=10000000000:=by decide
   have e6:((10 ^ 6:Nat):Int)=1000000:=by decide
   have adR:(10:Nat) ^ 10=10000000000:=by decide
   have e6':(10:Nat) ^ 6=1000000:=by decide
   rw[adR] at a1
   rw[e6'] at b1
   have a0:0≤gJ (cD dot s) 10:=a0
   have b0:0≤gJ (cR dot s) 6:=b0
   have a1:gJ (cD dot s) 10<10000000000:=a1
   have b1:gJ (cR dot s) 6<1000000:=b1
   have fin:∀D:Nat,D≤100000000→D=10 ^ (min (cR dot s).size 7)→(I64 (gJ (cD dot s) 10*(D:Int))∧I64 (gJ (cD dot s) 10*(D:Int)+gJ (cR dot s) 6))∧(DV.ak [di (gJ (cD dot s) 10*(D:Int)+gJ (cR dot s) 6),di (D:Int),db (iV (cD dot s) 10&&iV (cR dot s) 6)])=.ak [di (pR s).1,di (pR s).2.1,db (pR s).2.2]:=by
    intro D hD hDe
    have hm:0≤gJ (cD dot s) 10*(D:Int):=Int.mul_nonneg a0 (by omega)
    have hm2:gJ (cD dot s) 10*(D:Int)≤10000000000*100000000:=Int.mul_le_mul (by omega) (by omega) (by omega) (by omega)
    refine⟨⟨⟨by omega,by omega⟩,by omega,by omega⟩,?_⟩
    rw[hpr,hDe]
    simp only[Int.natCast_pow]
    rfl
   refine⟨fun h3=>⟨⟨by omega,by omega⟩,fun h4=>?_,fun h4=>?_⟩,fun h3=>?_⟩
   ·have h3:i<(cR dot s).size:=by simp at h3;omega
    have h4:1000000<10 ^ i*10:=by simp only[decide_eq_true_eq] at h4;omega
    have aeJ:i=6:=by
     rcases Nat.lt_or_ge i 6 with h5|h5
     ·have:10 ^ i≤10 ^ 5:=Nat.pow_le_pow_right (by decide) (by omega)
      have e5:(10:Nat) ^ 5=100000:=by decide
      omega
     ·omega
    subst aeJ
    refine walk (aj:=IC) (keep:=[]) (cuts:=[]) (n:=1000) follows ?_
    refine au (fun _ _ _ _=>(((I64 (gJ (cD dot s) 10*10000000))∧(I64 (gJ (cD dot s) 10*10000000+gJ (cR dot s) 6)))∧((.ak [(di (gJ (cD dot s) 10*10000000+gJ (cR dot s) 6)),(di 10000000),(db (iV (cD dot s) 10&&iV (cR dot s) 6))]):DV)=(.ak [(di (pR s).fst),(di (pR s).snd.fst),(db (pR s).snd.snd)]))) (by kernel_rfl) ?_
    have:=fin 10000000 (by decide) (by rw[Nat.min_eq_right (by omega)])
    exact this
   ·have h3:i<(cR dot s).size:=by simp at h3;omega
    have h4:10 ^ i*10≤1000000:=by simp only[decide_eq_false_iff_not] at h4;omega
    refine⟨⟨by omega,by omega⟩,Again.mk (i+1) ?_ ⟨by omega,?_⟩ (by omega)⟩
    ·refine AS.leZ [4] [] (b:=((T0∧T0∧T0∧T0∧((vi ((↑((10:Nat) ^ i):Int)*(10:Int))):AV)=(vi ((↑((10:Nat) ^ (i+(1:Nat))):Int)))∧T0∧T0∧True)∧True)) (by kernel_rfl) (by kernel_rfl) ?_
     refine⟨⟨rfl,rfl,rfl,rfl,?_,rfl,rfl,trivial⟩,trivial⟩
     rw[hps];rfl
    ·rcases Nat.lt_or_ge i 6 with h5|h5
     ·omega
     ·have:i=6:=by omega
      subst this
      exact absurd h4 (by decide)
   ·have h3:i=(cR dot s).size:=by simp at h3;omega
    refine walk (aj:=IC) (keep:=[]) (cuts:=[]) (n:=1000) follows ?_
    refine au (fun _ _ _ _=>(fun Za=>(((I64 (gJ (cD dot s) (10:Int)*(↑((10:Nat) ^ i):Int)))∧(I64 Za))∧((.ak [(di Za),(di ((↑((10:Nat) ^ i):Int))),(db (iV (cD dot s) 10&&iV (cR dot s) 6))]):DV)=(.ak [(di (pR s).fst),(di (pR s).snd.fst),(db (pR s).snd.snd)]))) (gJ (cD dot s) (10:Int)*(↑((10:Nat) ^ i):Int)+gJ (cR dot s) (6:Int))) (by kernel_rfl) ?_
    try dsimp only
    have:=fin (10 ^ i) (by omega) (by rw[←h3,Nat.min_eq_left (by omega)])
    exact this
open Go Go.Ab
theorem OQ {s:ByteArray} {c:UInt8} (h:cB ⟨#[c]⟩ s=true):s.data.toList=(cD ⟨#[c]⟩ s).data.toList++c :: (cR ⟨#[c]⟩ s).data.toList:=by
 have h1:0≤cI ⟨#[c]⟩ s:=by simpa [cB] using h
 obtain ⟨k,hk⟩:=Int.eq_ofNat_of_zero_le h1
 obtain ⟨h4,_⟩:=Lib.indexByte_some (show Lib.indexByte s.data.toList c=(k:Int) from hk)
 obtain ⟨h5,h6⟩:=List.getElem?_eq_some_iff.1 h4
 have hD:(cD ⟨#[c]⟩ s).data.toList=s.data.toList.take k:=by
  unfold cD
  rw[if_pos h1,hk,Int.toNat_natCast,kQ,List.drop_zero,Nat.sub_zero]
 have hR:(cR ⟨#[c]⟩ s).data.toList=s.data.toList.drop (k+1):=by
  unfold cR
  rw[if_pos h1,hk,show Int.toNat ((k:Int)+1)=k+1 by omega,kQ,List.take_of_length_le (by rw[List.length_drop,dG];omega)]
 have e:s.data.toList.drop k=c :: s.data.toList.drop (k+1):=by
  rw[List.drop_eq_getElem_cons h5,h6]
 rw[hD,hR,←e,List.take_append_drop]
theorem Na {s:ByteArray} {c:UInt8} (h:cB ⟨#[c]⟩ s=false):c∉s.data.toList∧cD ⟨#[c]⟩ s=s:=by
 have h1:¬0≤cI ⟨#[c]⟩ s:=by simpa [cB] using h
 refine⟨fun hm=>?_,by unfold cD;rw[if_neg h1]⟩
 have hge:-1≤cI ⟨#[c]⟩ s:=Lib.indexByte_ge s.data.toList c
 have hn:Lib.indexByte s.data.toList c = -1:=by
  have:cI ⟨#[c]⟩ s = -1:=by omega
  exact this
 obtain ⟨k,hk,rfl⟩:=List.getElem_of_mem hm
 exact Lib.indexByte_none hn k (iT hk)
theorem Q5 {l:List UInt8} {m a:Nat} (h:jq l m=some a):l.length≤m:=by
 unfold jq at h
 split at h
 ·rename_i h2;exact h2.2.1
 ·cases h
theorem Au {s:ByteArray} {m:Nat} {a:Nat} (h:jq s.data.toList m=some a):gJ s m=a∧iV s m=true:=by
 unfold gJ iV
 rw[Int.toNat_natCast,h];exact⟨rfl,rfl⟩
theorem zO {s:ByteArray} {m:Nat} (h:jq s.data.toList m=none):iV s m=false:=by
 unfold iV
 rw[Int.toNat_natCast,h];rfl
theorem abN (s:ByteArray):(pR s).2.2=(dO s.data.toList).isSome∧∀a b,dO s.data.toList=some (a,b)→(pR s).1=a∧(pR s).2.1=b:=by
 unfold pR
 cases h1:cB slash s with
 | true=>
  rw[if_pos rfl,OQ (c:=47) h1,FM]
  cases hw:jq (cD ⟨#[47]⟩ s).data.toList 10 with
  | none=>
   have:=zO hw
   refine⟨?_,fun a b h=>by cases h⟩
   show (iV (cD slash s) (10:Nat)&&_)=_
   rw[show cD slash s=cD ⟨#[47]⟩ s from rfl,this];rfl
  | some a=>
   obtain ⟨w1,w2⟩:=Au hw
   cases hr:jq (cR ⟨#[47]⟩ s).data.toList 7 with
   | none=>
    have:=zO hr
    refine⟨?_,fun a b h=>by cases h⟩
    show (_&&iV (cR slash s) (7:Nat))=_
    rw[show cR slash s=cR ⟨#[47]⟩ s from rfl,this,Bool.and_false];rfl
   | some b=>
    obtain ⟨r1,r2⟩:=Au hr
    refine⟨?_,fun a' b' h=>?_⟩
    ·show (iV (cD ⟨#[47]⟩ s) (10:Nat)&&iV (cR ⟨#[47]⟩ s) (7:Nat))=true
     rw[w2,r2];rfl
    ·simp at h
     rw[←h.1,←h.2]
     exact⟨w1,r1⟩
 | false=>
  rw[if_neg (by simp)]
  obtain ⟨n1,_⟩:=Na (c:=47) h1
  cases h2:cB dot s with
  | true=>
   rw[if_pos rfl,OQ (c:=46) h2,Em]
   cases hw:jq (cD ⟨#[46]⟩ s).data.toList 10 with
   | none=>
    have:=zO hw
    refine⟨?_,fun a b h=>by cases h⟩
    show (iV (cD dot s) (10:Nat)&&_)=_
    rw[show cD dot s=cD ⟨#[46]⟩ s from rfl,this];rfl
   | some a=>
    obtain ⟨w1,w2⟩:=Au hw
    cases hr:jq (cR ⟨#[46]⟩ s).data.toList 6 with
    | none=>
     have:=zO hr
     refine⟨?_,fun a b h=>by cases h⟩
     show (_&&iV (cR dot s) (6:Nat))=_
     rw[show cR dot s=cR ⟨#[46]⟩ s from rfl,this,Bool.and_false];rfl
    | some b=>
     obtain ⟨r1,r2⟩:=Au hr
     have hl:=Q5 hr
     have hm:min (cR dot s).size 7=(cR ⟨#[46]⟩ s).data.toList.length:=by
      rw[dG] at hl⊢
      exact Nat.min_eq_left (by show (cR ⟨#[46]⟩ s).size≤7;omega)
     refine⟨?_,fun a' b' h=>?_⟩
     ·show (iV (cD ⟨#[46]⟩ s) (10:Nat)&&iV (cR ⟨#[46]⟩ s) (6:Nat))=true
      rw[w2,r2];rfl
     ·simp only[Option.bind_some,Option.map_some,aI,aW] at h
      rw[←h.1,←h.2]
      refine⟨?_,?_⟩
      ·show gJ (cD ⟨#[46]⟩ s) (10:Nat)*10 ^ (min (cR dot s).size 7)+gJ (cR ⟨#[46]⟩ s) (6:Nat)=_
       rw[w1,r1,hm];push_cast;rfl
      ·show (10:Int) ^ (min (cR dot s).size 7)=_
       rw[hm];push_cast;rfl
  | false=>
   rw[if_neg (by simp)]
   obtain ⟨n2,e2⟩:=Na (c:=46) h2
   have e2:cD dot s=s:=e2
   rw[zC n1 n2,e2]
   cases hw:jq s.data.toList 10 with
   | none=>exact⟨zO hw,fun a b h=>by cases h⟩
   | some a=>
    obtain ⟨w1,w2⟩:=Au hw
    refine⟨w2,fun a' b' h=>?_⟩
    simp at h
    rw[←h.1,←h.2]
    exact⟨w1,rfl⟩
def minus:ByteArray:={ data:=#[45] }
def acy:cZ:=fun f args=>match f,args with
 | 125,[.con (.string s),.con (.string p)]=>some (.ak [ds (preS p s),db (preB p s)])
 | 126,[.con (.string s)]=>some (.ak [di (pR s).1,di (pR s).2.1,db (pR s).2.2])
 | 127,[.con (.int .i64 a),.con (.int .i64 b)]=>some (fe (red a b))
 | 109,[.con (.int .i64 a),.con (.int .i64 b)]=>some (fe (red a b))
 | _,_=>none
theorem Xa {D R:List UInt8} {a b:Nat} (hD:bM D<10000000000) (h:mP D R=some (a,b)):a<100000000000000000∧b<100000000:=by
 have hdg:∀(l:List UInt8) (m x:Nat),m≤7→jq l m=some x→x<10000000∧l.length≤m:=by
  intro l m x hm h
  have hl:=Q5 h
  unfold jq at h
  split at h
  ·rename_i h2
   injection h with h
   have h1:=sG _ _ rfl fun c hc=>(kX c).1 (List.all_eq_true.1 h2.2.2 c hc)
   have h3:=QN (i:=l.length) (by omega)
   omega
  ·cases h
 cases R with
 | nil=>simp[mP] at h;omega
 | cons c T=>
  have e:mP D (c :: T)=if c=47 then (jq T 7).map fun b=>(bM D,b) else if c=46 then (jq T 6).map fun b=>(bM D*10 ^ T.length+b,10 ^ T.length) else none:=rfl
  rw[e] at h
  split at h
  ·cases hq:jq T 7 with
   | none=>rw[hq] at h;cases h
   | some x=>
    rw[hq] at h
    simp at h
    have:=hdg T 7 x (by omega) hq
    omega
  ·split at h
   ·cases hq:jq T 6 with
    | none=>rw[hq] at h;cases h
    | some x=>
     rw[hq] at h
     simp only[Option.map_some,aI,aW] at h
     have h1:=hdg T 6 x (by omega) hq
     have h3:10 ^ T.length≤10 ^ 6:=Nat.pow_le_pow_right (by decide) h1.2
     have e6:(10:Nat) ^ 6=1000000:=by decide
     have h4:bM D*10 ^ T.length≤10000000000*1000000:=Nat.mul_le_mul (by omega) (by omega)
     omega
   ·cases h
theorem KP {S:List UInt8} {a b:Nat} (h:dO S=some (a,b)):a<100000000000000000∧b<100000000:=by
 unfold dO at h
 split at h
 ·rename_i h2
  refine Xa ?_ h
  have h1:=sG _ _ rfl fun c hc=>(kX c).1 (uf S c hc)
  have h3:10 ^ (spl S).1.length≤10 ^ 10:=Nat.pow_le_pow_right (by decide) h2.2
  have e10:(10:Nat) ^ 10=10000000000:=by decide
  omega
 ·cases h
def fK (s:ByteArray):FE:=match dO (preS minus s).data.toList with
 | none=>(0,0,3)
 | some (a,b)=>if b=0 then (0,0,2) else red (if preB minus s then -(a:Int) else a) b
theorem f106 (s:ByteArray) (hs:s.size≤900000):ay Tryz.prog G 106 [ds s] (fe (fK s)):=by
 have hps:(preS minus s).size≤1000000:=by
  unfold preS
  rw[ZE]
  have:(Lib.trimPrefix s.data.toList minus.data.toList).length≤s.data.toList.length:=by
   unfold Lib.trimPrefix
   split
   ·rw[List.length_drop];omega
   ·exact Nat.le_refl _
  rw[dG] at this
  omega
 have adL:=f125 (G:=G) s minus
 have aex:=f126 (G:=G) (preS minus s) hps
 obtain ⟨l1,l2⟩:=abN (preS minus s)
 have TY:fK s=match dO (preS minus s).data.toList with
  | none=>(0,0,3)
  | some (a,b)=>if b=0 then (0,0,2) else red (if preB minus s then -(a:Int) else a) b:=rfl
 refine ay.walk (aj:=acy) (keep:=[]) follows Tryz.func106 rfl Tryz.call106 ?_
 refine au (fun _ _ _ ZK=>(fun Za=>(ZK 125 [(ds s),(ds (ByteArray.mk #[45]))] (.ak [(ds (preS (ByteArray.mk #[45]) s)),(db (preB (ByteArray.mk #[45]) s))])∧ZK 126 [(ds (preS (ByteArray.mk #[45]) s))] (.ak [(di Za.fst),(di Za.snd.fst),(db Za.snd.snd)])∧(((!Za.snd.snd)=true)→(((.ak [(.agg [(di 0),(di 0)]),(di 3)]):DV)=(fe (fK s))))∧(((!Za.snd.snd)=false)→((((Za.snd.fst==0)=true)→(((.ak [(.agg [(di 0),(di 0)]),(di 2)]):DV)=(fe (fK s))))∧(((Za.snd.fst==0)=false)→((((preB (ByteArray.mk #[45]) s)=true)→((jc Za.fst)∧ZK 127 [(di (-Za.fst)),(di Za.snd.fst)] (.ak [(.agg [(di (red (-Za.fst) Za.snd.fst).fst),(di (red (-Za.fst) Za.snd.fst).snd.fst)]),(di (red (-Za.fst) Za.snd.fst).snd.snd)])∧((.ak [(.agg [(di (red (-Za.fst) Za.snd.fst).fst),(di (red (-Za.fst) Za.snd.fst).snd.fst)]),(di (red (-Za.fst) Za.snd.fst).snd.snd)]):DV)=(fe (fK s))))∧(((preB (ByteArray.mk #[45]) s)=false)→(ZK 127 [(di Za.fst),(di Za.snd.fst)] (.ak [(.agg [(di (red Za.fst Za.snd.fst).fst),(di (red Za.fst Za.snd.fst).snd.fst)]),(di (red Za.fst Za.snd.fst).snd.snd)])∧((.ak [(.agg [(di (red Za.fst Za.snd.fst).fst),(di (red Za.fst Za.snd.fst).snd.fst)]),(di (red Za.fst Za.snd.fst).snd.snd)]):DV)=(fe (fK s)))))))))) (pR (preS (ByteArray.mk #[45]) s))) (by kernel_rfl) ?_
 refine⟨adL,aex,fun h=>?_,fun h=>⟨fun h2=>?_,fun h2=>⟨fun h3=>?_,fun h3=>?_⟩⟩⟩
 ·have h':(!(pR (preS minus s)).2.2)=true:=h
  rw[l1] at h'
  cases hp:dO (preS minus s).data.toList with
  | none=>rw[TY,hp];rfl
  | some x=>rw[hp] at h';simp at h'
 ·have h':(!(pR (preS minus s)).2.2)=false:=h
  rw[l1] at h'
  cases hp:dO (preS minus s).data.toList with
  | none=>rw[hp] at h';simp at h'
  | some x=>
   obtain ⟨a,b⟩:=x
   obtain ⟨q1,q2⟩:=l2 a b hp
   have h2':((pR (preS minus s)).2.1==0)=true:=h2
   rw[q2] at h2'
   have hb:b=0:=by simp at h2';omega
   rw[TY,hp]
   simp only[hb,if_true]
   rfl
 ·have h':(!(pR (preS minus s)).2.2)=false:=h
  rw[l1] at h'
  cases hp:dO (preS minus s).data.toList with
  | none=>rw[hp] at h';simp at h'
  | some x=>
   obtain ⟨a,b⟩:=x
   obtain ⟨q1,q2⟩:=l2 a b hp
   obtain ⟨b1,b2⟩:=KP hp
   have h2':((pR (preS minus s)).2.1==0)=false:=h2
   rw[q2] at h2'
   have hb:b≠0:=by simp at h2';omega
   have h3':preB minus s=true:=h3
   have Yf:=f127 (G:=G) (-(a:Int)) (b:Int) (by omega) ⟨by omega,by omega⟩ ⟨by omega,by omega⟩
   rw[TY,hp]
   simp only[h3',if_true,if_neg hb]
   show jc (pR (preS minus s)).1∧ay Tryz.prog G 127 [di (-(pR (preS minus s)).1),di (pR (preS minus s)).2.1] (fe (red (-(pR (preS minus s)).1) (pR (preS minus s)).2.1))∧fe (red (-(pR (preS minus s)).1) (pR (preS minus s)).2.1)=_
   rw[q1,q2]
   exact⟨⟨by omega,by omega⟩,Yf,rfl⟩
 ·have h':(!(pR (preS minus s)).2.2)=false:=h
  rw[l1] at h'
  cases hp:dO (preS minus s).data.toList with
  | none=>rw[hp] at h';simp at h'
  | some x=>
   obtain ⟨a,b⟩:=x
   obtain ⟨q1,q2⟩:=l2 a b hp
   obtain ⟨b1,b2⟩:=KP hp
   have h2':((pR (preS minus s)).2.1==0)=false:=h2
   rw[q2] at h2'
   have hb:b≠0:=by simp at h2';omega
   have h3':preB minus s=false:=h3
   have Yf:=f127 (G:=G) (a:Int) (b:Int) (by omega) ⟨by omega,by omega⟩ ⟨by omega,by omega⟩
   rw[TY,hp]
   simp only[h3',Bool.false_eq_true,if_false,if_neg hb]
   show ay Tryz.prog G 127 [di (pR (preS minus s)).1,di (pR (preS minus s)).2.1] (fe (red (pR (preS minus s)).1 (pR (preS minus s)).2.1))∧fe (red (pR (preS minus s)).1 (pR (preS minus s)).2.1)=_
   rw[q1,q2]
   exact⟨Yf,rfl⟩
end Go.Proofs
/- Written adA are read again,plain. -/
namespace Go.Proofs
open Go Go.Ab
theorem Uy {n d:Int} (h:ok n d=true) {q:Nat} (hq:0<q):red (n*(q:Int)) (d*(q:Int))=(n,d,0):=by
 obtain ⟨d1,d2,n1,n2,hg⟩:=qx h
 have hd:0<d*(q:Int):=Int.mul_pos (by omega) (by omega)
 have hg2:Int.gcd (n*(q:Int)) (d*(q:Int))=q:=by
  rw[Int.gcd_mul_right,hg,Nat.one_mul];rfl
 have hq0:(q:Int)≠0:=by omega
 unfold red uH
 rw[if_neg (by omega),hg2,Int.mul_tdiv_cancel n hq0,Int.mul_tdiv_cancel d hq0,if_pos h]
theorem Pz {n:Int} {S:List UInt8} {a b:Nat} (hS:∀c T,S=c :: T→c≠45) (hp:dO S=some (a,b)) (hb:b≠0) :
  fK (str (sg n++S))=red (if n<0 then -(a:Int) else a) b:=by
 have key:∀s:ByteArray,∀neg:Bool,preB minus s=neg→(preS minus s).data.toList=S→fK s=red (if neg=true then -(a:Int) else a) b:=by
  intro s neg h1 h2
  unfold fK
  rw[h1,h2,hp]
  simp only[if_neg hb]
 have e45:minus.data.toList=[45]:=rfl
 by_cases hn:n<0
 ·rw[if_pos hn]
  have:=key (str (sg n++S)) true (by
   unfold preB sg;rw[if_pos hn,e45]
   show Lib.hasPrefix ([45]++S) [45]=true
   simp[Lib.hasPrefix,List.isPrefixOf]) (by
   unfold preS sg;rw[if_pos hn,e45,zq]
   show Lib.trimPrefix ([45]++S) [45]=S
   simp[Lib.trimPrefix,Lib.hasPrefix,List.isPrefixOf])
  rw[this,if_pos rfl]
 ·rw[if_neg hn]
  have hh:Lib.hasPrefix S [45]=false:=by
   cases S with
   | nil=>rfl
   | cons c T=>
    have:=hS c T rfl
    simp[Lib.hasPrefix,List.isPrefixOf]
    exact fun h=>this h.symm
  have:=key (str (sg n++S)) false (by
   unfold preB sg;rw[if_neg hn,e45]
   show Lib.hasPrefix ([]++S) [45]=false
   rw[List.nil_append,hh]) (by
   unfold preS sg;rw[if_neg hn,e45,zq]
   show Lib.trimPrefix ([]++S) [45]=S
   rw[List.nil_append];unfold Lib.trimPrefix;rw[hh];rfl)
  rw[this,if_neg (by simp)]
theorem F6 {m:Nat} {R:List UInt8}:∀c T,Lib.decDigits m++R=c :: T→c≠45:=by
 intro c T h
 have h1:=Ry m
 cases hd:Lib.decDigits m with
 | nil=>rw[hd] at h1;simp at h1
 | cons x l=>
  rw[hd] at h
  injection h with h2 h3
  have:=JF m x (by rw[hd];simp)
  rintro rfl
  rw[h2] at this
  exact absurd this (by decide)
theorem Jh (n:Int):(if n<0 then -((n.natAbs:Nat):Int) else (n.natAbs:Nat))=n:=by split<;>omega
theorem XI {n d:Int} (h:ok n d=true):fK (str (fmt n d))=(n,d,0):=by
 obtain ⟨d1,d2,n1,n2,hg⟩:=qx h
 unfold fmt
 rw[if_pos h]
 have hr:=Uy h (q:=1) (by decide)
 rw[show ((1:Nat):Int)=1 from rfl,Int.mul_one,Int.mul_one] at hr
 by_cases h1:d=1
 ·rw[if_pos h1,Aw]
  have hp:=WR (n:=n.natAbs) (by omega)
  have:=Pz (n:=n) (S:=Lib.decDigits n.natAbs) (by have:=F6 (m:=n.natAbs) (R:=[]);rwa [List.append_nil] at this) hp (by decide)
  rw[this,Jh]
  rw[h1] at hr⊢
  exact hr
 ·rw[if_neg h1,Aw n]
  obtain ⟨e,rfl⟩:=Int.eq_ofNat_of_zero_le (show 0≤d by omega)
  have hp:=S9 (n:=n.natAbs) (d:=e) (by omega) (by omega)
  rw[Lib.itoa_nonneg,List.append_assoc,Pz F6 hp (by omega),Jh]
  exact hr
theorem Qz {n d:Int} (h:ok n d=true):((jB n d).2=true↔(1000000:Int).tmod d=0)∧((jB n d).2=false→(jB n d).1=[]∧d≠1):=by
 rw[Aa]
 unfold qR
 by_cases h2:(1000000:Int).tmod d=0
 ·rw[if_pos ⟨h,h2⟩]
  exact⟨⟨fun _=>h2,fun _=>rfl⟩,fun h3=>by cases h3⟩
 ·rw[if_neg (fun h3=>h2 h3.2)]
  refine⟨⟨fun h3=>(by cases h3),fun h3=>absurd h3 h2⟩,fun _=>⟨rfl,?_⟩⟩
  rintro rfl
  exact h2 rfl
theorem XC {n d:Int} (h:ok n d=true) (h2:(jB n d).2=true):fK (str (jB n d).1)=(n,d,0)∧(jB n d).1.length≤30:=by
 obtain ⟨d1,d2,n1,n2,hg⟩:=qx h
 obtain ⟨e,rfl⟩:=Int.eq_ofNat_of_zero_le (show 0≤d by omega)
 have he:0<e:=by omega
 have hdv:e∣10 ^ 6:=by
  have:=(Qz h).1.1 h2
  rw[show (1000000:Int)=((10 ^ 6:Nat):Int) by rfl,←Int.ofNat_tmod] at this
  exact Nat.dvd_of_mod_eq_zero (by omega)
 obtain ⟨k,hk6,hk,hmin⟩:=least (p:=fun k=>e∣10 ^ k) 6 hdv
 have hA:=Gi n e k hk hmin k 7 0 (by omega) (by omega)
 rw[show (((10 ^ 0:Nat):Int))=1 by rfl] at hA
 unfold jB
 rw[if_pos h,hA]
 by_cases h0:k=0
 ·subst h0
  have he1:e=1:=by simpa using hk
  subst he1
  have:=XI h
  unfold fmt at this
  rw[if_pos h,if_pos (show ((1:Nat):Int)=1 from rfl)] at this
  refine⟨this,?_⟩
  show (Lib.itoa n).length≤30
  rw[Aw,List.length_append]
  have:=Pg n
  have:=iG 9 n.natAbs (by omega)
  omega
 ·rw[if_neg h0]
  obtain ⟨q,hq⟩:=hk
  have hq0:0<q:=by
   rcases Nat.eq_zero_or_pos q with rfl|h
   ·have:0<10 ^ k:=Nat.pow_pos (by omega)
    omega
   ·exact h
  have hqe:10 ^ k / e=q:=by rw[hq,Nat.mul_div_cancel_left _ he]
  rw[hqe]
  have ha:(n*(q:Int)).natAbs=n.natAbs*q:=by rw[Int.natAbs_mul];rfl
  have hp0:0<10 ^ k:=Nat.pow_pos (by omega)
  have hk10:10 ^ k≤10 ^ 6:=Nat.pow_le_pow_right (by decide) hk6
  have hqs:n.natAbs*q / 10 ^ k<10000000000:=by
   have:n.natAbs*q / 10 ^ k=n.natAbs / e:=by rw[hq,Nat.mul_div_mul_right _ _ hq0]
   rw[this]
   have:=Nat.div_le_self n.natAbs e
   omega
  have hp:=PZ (n:=n.natAbs*q / 10 ^ k) (j:=k) (r:=n.natAbs*q % 10 ^ k) hqs (by omega) hk6 (Nat.mod_lt _ hp0)
  have hpt:pt (n*(q:Int)) ((10 ^ k:Nat):Int)=sg (n*(q:Int))++(Lib.decDigits (n.natAbs*q / 10 ^ k)++46 :: (Lib.decDigits (10 ^ k+n.natAbs*q % 10 ^ k)).tail):=by
   unfold pt
   rw[ha,←Int.ofNat_tdiv,←Int.ofNat_tmod,Lib.itoa_nonneg,show (((10 ^ k:Nat):Int)+((n.natAbs*q % 10 ^ k:Nat):Int))=((10 ^ k+n.natAbs*q % 10 ^ k:Nat):Int) by omega,Lib.itoa_nonneg,List.drop_one]
  have hrl:n.natAbs*q % 10 ^ k<10 ^ k:=Nat.mod_lt _ hp0
  refine⟨?_,?_⟩
  rotate_left
  ·show (pt (n*(q:Int)) ((10 ^ k:Nat):Int)).length≤30
   rw[hpt,List.length_append,List.length_append,List.length_cons,List.length_tail]
   have:=Pg (n*(q:Int))
   have:=iG 9 (n.natAbs*q / 10 ^ k) (by omega)
   have:=iG 9 (10 ^ k+n.natAbs*q % 10 ^ k) (by have e6:(10:Nat) ^ 6=1000000:=by decide
                                               omega)
   omega
  show fK (str (pt (n*(q:Int)) ((10 ^ k:Nat):Int)))=_
  rw[hpt,Pz F6 hp (by omega)]
  have hdm:n.natAbs*q / 10 ^ k*10 ^ k+n.natAbs*q % 10 ^ k=n.natAbs*q:=by rw[Nat.mul_comm];exact Nat.div_add_mod ..
  rw[hdm,←ha,Jh,hq]
  have:=Uy h hq0
  rw[←Int.natCast_mul] at this
  exact this
end Go.Proofs
/- Written numbers: how they look. -/
namespace Go.Proofs
open Go Go.Ab
theorem JD:∀(k r:Nat),(pad k r).length=k
 | 0,_=>rfl
 | k+1,r=>by simp[pad,JD k]
theorem U4 {u:Nat} (h:u<10):(UInt8.ofNat (48+u)).toNat=48+u:=by
 simp;omega
theorem X5 {u:Nat} (h:u<10):bQ ((UInt8.ofNat (48+u)).toNat:Int)=true:=by
 rw[U4 h];unfold bQ
 simp only[aV,decide_eq_true_eq];omega
theorem QV:∀(k r:Nat),∀c∈pad k r,bQ (c.toNat:Int)=true
 | 0,_,c,h=>by simp[pad] at h
 | k+1,r,c,h=>by
  rw[pad] at h
  rcases List.mem_append.1 h with h|h
  ·exact QV k _ c h
  ·rw[List.mem_singleton.1 h];exact X5 (Nat.mod_lt _ (by decide))
theorem QS (n:Nat):∀c∈Lib.decDigits n,bQ (c.toNat:Int)=true:=by
 intro c hc
 have h:=(oO n).1 c hc
 unfold FK at h;unfold bQ
 simp only[aV,decide_eq_true_eq];omega
structure adX (l:List UInt8):Prop where
 dec:∃D T:List UInt8,(∀c∈D,bQ (c.toNat:Int)=true)∧(∀c∈T,bQ (c.toNat:Int)=true)∧1≤D.length∧D.length≤9∧T.length≤6∧l=D++(if T=[] then [] else 46 :: T)
theorem JR {n d:Int} (h:nP n d=true):ok n d=true∧(jB n d).2=true∧0≤n:=by
 unfold nP at h
 simp only[aV,decide_eq_true_eq] at h
 refine⟨?_,h.1.1,h.1.2⟩
 have h2:=h.1.1
 unfold jB at h2
 split at h2
 ·assumption
 ·cases h2
theorem Zk {n d:Int} (h:nP n d=true):(1000000:Int).tmod d=0∧qR n d=(Lib.decDigits (n.natAbs / d.toNat)++(if n.natAbs % d.toNat=0 then [] else 46 :: oD d.toNat 7 (n.natAbs % d.toNat)),true):=by
 obtain ⟨h1,h2,h3⟩:=JR h
 rw[Aa] at h2
 unfold qR at h2⊢
 by_cases hc:ok n d=true∧(1000000:Int).tmod d=0
 ·refine⟨hc.2,?_⟩
  rw[if_pos hc,show sg n=[] by unfold sg;rw[if_neg (by omega)]];rfl
 ·rw[if_neg hc] at h2;cases h2
theorem KD {D R:List UInt8} (hD:∀c∈D,c≠46) (h:((cD Ky (str (D++R))).size:Int)≤9) (hR:R=[]∨∃T,R=46 :: T):D.length≤9:=by
 unfold cD cI at h
 have e0:(str (D++R)).data.toList=D++R:=by simp
 have e1:Ky.data.toList.headD 0=46:=rfl
 rw[e0,e1] at h
 rcases hR with rfl|⟨T,rfl⟩
 ·have hn:Lib.indexByte (D++[]) 46<0:=by
   rcases Int.lt_or_le (Lib.indexByte (D++[]) 46) 0 with h1|h1
   ·exact h1
   ·obtain ⟨k,hk⟩:=Int.eq_ofNat_of_zero_le h1
    obtain ⟨h2,_⟩:=Lib.indexByte_some hk
    rw[List.append_nil] at h2
    exact absurd rfl (hD 46 (List.mem_of_getElem? h2))
  rw[if_neg (by omega),oH] at h
  simp at h;omega
 ·have hn:Lib.indexByte (D++46 :: T) 46=D.length:=by
   have hat:(D++46 :: T)[D.length]?=some 46:=by rw[List.getElem?_append_right (Nat.le_refl _),Nat.sub_self];rfl
   rcases Int.lt_or_le (Lib.indexByte (D++46 :: T) 46) 0 with h1|h1
   ·have:=Lib.indexByte_ge (D++46 :: T) 46
    exact absurd hat (Lib.indexByte_none (by omega) _)
   ·obtain ⟨o,ho⟩:=Int.eq_ofNat_of_zero_le h1
    obtain ⟨g1,g2⟩:=Lib.indexByte_some ho
    rw[ho]
    rcases Nat.lt_trichotomy o D.length with hlt|heq|hgt
    ·rw[List.getElem?_append_left hlt] at g1
     exact absurd rfl (hD 46 (List.mem_of_getElem? g1))
    ·rw[heq]
    ·exact absurd hat (g2 _ hgt)
  rw[hn,if_pos (by omega),ByteArray.size_extract,oH] at h
  simp at h;omega
theorem Iw {c:UInt8} (h:bQ (c.toNat:Int)=true):c≠46:=by
 rintro rfl;exact absurd h (by decide)
theorem Yv {n d:Int} (h:nP n d=true):adX (lH n d).data.toList:=by
 obtain ⟨hok,h2,h3⟩:=JR h
 obtain ⟨hm,he⟩:=Zk h
 obtain ⟨d1,d2,n1,n2,hg⟩:=qx hok
 obtain ⟨e,rfl⟩:=Int.eq_ofNat_of_zero_le (show 0≤d by omega)
 have he0:0<e:=by omega
 have hdv:e∣10 ^ 6:=by
  rw[show (1000000:Int)=((10 ^ 6:Nat):Int) by rfl,←Int.ofNat_tmod] at hm
  exact Nat.dvd_of_mod_eq_zero (by omega)
 have hcut:=h
 unfold nP at hcut
 simp only[aV,decide_eq_true_eq] at hcut
 have hcut:=hcut.2
 unfold lH
 rw[Aa,he] at hcut⊢
 have e0:∀l:List UInt8,(str l).data.toList=l:=fun l=>by simp
 rw[e0]
 dsimp only at hcut⊢
 rw[Int.toNat_natCast] at hcut⊢
 have hD:=QS (n.natAbs / e)
 have hD1:1≤(Lib.decDigits (n.natAbs / e)).length:=List.length_pos_iff.2 (oO _).2.2.1
 by_cases hr:n.natAbs % e=0
 ·rw[if_pos hr] at hcut⊢
  exact⟨_,[],hD,by simp,hD1,KD (R:=[]) (fun c hc=>Iw (hD c hc)) hcut (.inl rfl),by simp,by simp⟩
 ·rw[if_neg hr] at hcut⊢
  have hdr:e∣(n.natAbs % e)*10 ^ 6:=Nat.dvd_trans hdv (Nat.dvd_mul_left _ _)
  obtain ⟨k,hk6,hk,hmin⟩:=least (p:=fun k=>e∣(n.natAbs % e)*10 ^ k) 6 hdr
  have ht:=G8 e he0 k 7 (n.natAbs % e) (by omega) (Nat.mod_lt _ he0) hk hmin
  have hk0:k≠0:=by
   rintro rfl
   rw[Nat.pow_zero,Nat.mul_one] at hk
   exact hr (Nat.eq_zero_of_dvd_of_lt hk (Nat.mod_lt _ he0))
  refine⟨_,oD e 7 (n.natAbs % e),hD,?_,hD1,KD (fun c hc=>Iw (hD c hc)) hcut (.inr ⟨_,rfl⟩),?_,?_⟩
  ·rw[ht];exact QV _ _
  ·rw[ht,JD];exact hk6
  ·rw[if_neg]
   rw[ht]
   intro h0
   have:=congrArg List.length h0
   rw[JD] at this
   exact hk0 (by simpa using this)
end Go.Proofs
/- What the plain part of reading asks of the seat. -/
namespace Go.Proofs
open Go Go.Ab
theorem FQ {c:UInt8} {l:List UInt8} {s:ByteArray} (h:s.data.toList=c :: l):byteAt s 0=(c.toNat:Int):=by
 have hl:s.data.toList.length=s.size:=Array.length_toList
 rw[dU (by rw[←hl,h];simp)]
 simp only[h,List.getElem_cons_zero]
theorem Vj {n d:Int} (h:nP n d=true):bQ (byteAt (lH n d) 0)=true∧fK (lH n d)=(n,d,0):=by
 obtain ⟨h1,h2,_⟩:=JR h
 refine⟨?_,(XC h1 h2).1⟩
 obtain ⟨D,T,hD,_,hD1,_,_,he⟩:=(Yv h).dec
 cases D with
 | nil=>simp at hD1
 | cons c D=>
  rw[FQ he]
  exact hD c (by simp)
end Go.Proofs
/- Reading expressions,plain: what the parser does,by fuel,and without. -/
namespace Go.Proofs
open Go Go.Ab
abbrev Tk:=ByteArray×Int
inductive Rs where
 | ok (x:Ex) (r:List Tk)
 | bad (r:List Tk)
def ah (t:List Tk):ByteArray:=match t with | []=>.empty|w :: _=>w.1
def hdA (e:Int) (t:List Tk):Int:=match t with | []=>e|w :: _=>w.2
def notS:ByteArray:=⟨#[110,111,116]⟩
def gV:ByteArray:=⟨#[45]⟩
def dV:ByteArray:=⟨#[40]⟩
def fA:ByteArray:=⟨#[41]⟩
def dF:ByteArray:=⟨#[44]⟩
def kE:ByteArray:=⟨#[116,114,117,101]⟩
def jR:ByteArray:=⟨#[102,97,108,115,101]⟩
def minS:ByteArray:=⟨#[109,105,110]⟩
def maxS:ByteArray:=⟨#[109,97,120]⟩
def gq (s:ByteArray):Int:=((([6,7,8,9,12,13,14,15,16,17,19,20]:List Int).find? fun k=>decide (dQ k=s)).getD 0)
def opAt (n:Nat) (s:ByteArray):Bool:=decide (s.size≠0)&&dN (ku.getD n []) s
inductive Md where
 | lvl (n:Nat)
 | loop (n:Nat) (x:Ex)
 | args (x:Ex)
 | gI
def Rs.yG (f:Ex→Ex):Rs→Rs
 | .ok x r=>.ok (f x) r
 | .bad r=>.bad r
def mZ (t:List Tk):Rs:=
 if ah t=kE then .ok (.mk 3 .empty 0 0 (hdA 0 t) []) t.tail
 else if ah t=jR then .ok (.mk 4 .empty 0 0 (hdA 0 t) []) t.tail
 else if bQ (byteAt (ah t) 0)=true then .ok (.mk 1 .empty (fK (ah t)).1 (fK (ah t)).2.1 (hdA 0 t) []) t.tail
 else if nameB (ah t)=true then .ok (.mk 2 (ah t) 0 0 (hdA 0 t) []) t.tail
 else .bad t
def uo (x y:Ex):Ex:=.mk x.k x.s x.n x.d x.pos (x.kids++[y])
def rd:Nat→Md→List Tk→Rs
 | 0,_,t=>.bad t
 | k+1,.lvl n,t=>
  if n=2 then if ah t=notS then (rd k (.lvl 2) t.tail).yG fun x=>.mk 18 .empty 0 0 (hdA 0 t) [x] else rd k (.lvl 3) t
  else if n=6 then if ah t=gV then (rd k (.lvl 6) t.tail).yG fun x=>.mk 5 .empty 0 0 (hdA 0 t) [x] else rd k (.lvl 7) t
  else if n=7 then rd k .gI t
  else match rd k (.lvl (n+1)) t with
   | .ok x r=>rd k (.loop n x) r
   | .bad r=>.bad r
 | k+1,.loop n x,t=>
  if opAt n (ah t)=true then match rd k (.lvl (n+1)) t.tail with
   | .ok y r=>if n=3 then .ok (.mk (gq (ah t)) .empty 0 0 (hdA 0 t) [x,y]) r else rd k (.loop n (.mk (gq (ah t)) .empty 0 0 (hdA 0 t) [x,y])) r
   | .bad r=>.bad r
  else .ok x t
 | k+1,.args x,t=>match rd k (.lvl 0) t with
   | .ok y r=>if ah r=dF then rd k (.args (uo x y)) r.tail else if ah r=fA then .ok (uo x y) r.tail else .bad r
   | .bad r=>.bad r
 | k+1,.gI,t=>
  if ah t=dV then match rd k (.lvl 0) t.tail with
   | .ok x r=>if ah r=fA then .ok x r.tail else .bad r
   | .bad r=>.bad r
  else if ah t=minS∨ah t=maxS then
   if ah t.tail=dV then rd k (.args (.mk (if ah t=maxS then 11 else 10) .empty 0 0 (hdA 0 t) [])) t.tail.tail else .bad t.tail
  else mZ t
def ms:Md→List Tk→Nat
 | .lvl n,t=>10*t.length+9-n
 | .loop _ _,t=>10*t.length
 | .args _,t=>10*t.length+10
 | .gI,t=>10*t.length+1
def nM:Md→Prop
 | .lvl n=>n≤7
 | .loop n _=>n≤5
 | _=>True
def aQ:Rs→List Tk
 | .ok _ r=>r
 | .bad r=>r
theorem bK {t:List Tk} (h:ah t≠.empty):t.tail.length+1=t.length:=by
 cases t with
 | nil=>exact absurd rfl h
 | cons w t=>rfl
theorem dR (t:List Tk):t.tail.length≤t.length:=by simp
theorem oW {n:Nat} {s:ByteArray} (h:opAt n s=true):s≠.empty:=by
 rintro rfl;simp[opAt] at h
theorem sV (f:Ex→Ex) (r:Rs):aQ (r.yG f)=aQ r:=by cases r<;>rfl
theorem MI:∀(k:Nat) (md:Md) (t:List Tk),(aQ (rd k md t)).length≤t.length:=by
 intro k
 induction k with
 | zero=>intro md t;exact Nat.le_refl _
 | succ k ih=>
  intro md t
  have tl:=dR t
  have YK:=dR t.tail
  cases md with
  | lvl n=>
   simp only[rd]
   split
   ·split
    ·rw[sV];have:=ih (.lvl 2) t.tail;omega
    ·exact ih _ _
   split
   ·split
    ·rw[sV];have:=ih (.lvl 6) t.tail;omega
    ·exact ih _ _
   split
   ·exact ih _ _
   ·have h1:=ih (.lvl (n+1)) t
    split
    ·rename_i x r e
     rw[e] at h1
     have:=ih (.loop n x) r
     simp only[aQ] at h1;omega
    ·rename_i r e
     rw[e] at h1;exact h1
  | loop n x=>
   simp only[rd]
   split
   ·have h1:=ih (.lvl (n+1)) t.tail
    split
    ·rename_i y r e
     rw[e] at h1;simp only[aQ] at h1
     split
     ·simp only[aQ];omega
     ·have:=ih (.loop n (.mk (gq (ah t)) .empty 0 0 (hdA 0 t) [x,y])) r;omega
    ·rename_i r e
     rw[e] at h1;simp only[aQ] at h1⊢;omega
   ·exact Nat.le_refl _
  | args x=>
   simp only[rd]
   have h1:=ih (.lvl 0) t
   split
   ·rename_i y r e
    rw[e] at h1;simp only[aQ] at h1
    have:=dR r
    split
    ·have:=ih (.args (uo x y)) r.tail;omega
    ·split
     ·simp only[aQ];omega
     ·exact h1
   ·rename_i r e
    rw[e] at h1;exact h1
  | gI=>
   simp only[rd]
   split
   ·have h1:=ih (.lvl 0) t.tail
    split
    ·rename_i x r e
     rw[e] at h1;simp only[aQ] at h1
     have:=dR r
     split<;>simp only[aQ]<;>omega
    ·rename_i r e
     rw[e] at h1;simp only[aQ] at h1⊢;omega
   split
   ·split
    ·refine Nat.le_trans (ih _ _) ?_;omega
    ·exact tl
   ·unfold mZ
    split
    ·exact tl
    split
    ·exact tl
    split
    ·exact tl
    split
    ·exact tl
    ·exact Nat.le_refl _
theorem Wp:∀(k k':Nat) (md:Md) (t:List Tk),nM md→ms md t<k→ms md t<k'→rd k md t=rd k' md t:=by
 intro k
 induction k with
 | zero=>intro k' md t _ h;omega
 | succ k ih=>
  intro k' md t hm h h'
  obtain ⟨k',rfl⟩:∃j,k'=j+1:=⟨k' - 1,by omega⟩
  cases md with
  | lvl n=>
   simp only[nM] at hm
   simp only[ms] at h h'
   simp only[rd]
   split
   ·rename_i hn
    split
    ·rename_i hh
     have:=bK (t:=t) (by rw[hh];decide)
     rw[ih k' (.lvl 2) t.tail (by simp[nM]) (by simp only[ms];omega) (by simp only[ms];omega)]
    ·exact ih k' _ _ (by simp[nM]) (by simp only[ms];omega) (by simp only[ms];omega)
   split
   ·rename_i hn
    split
    ·rename_i hh
     have:=bK (t:=t) (by rw[hh];decide)
     rw[ih k' (.lvl 6) t.tail (by simp[nM]) (by simp only[ms];omega) (by simp only[ms];omega)]
    ·exact ih k' _ _ (by simp[nM]) (by simp only[ms];omega) (by simp only[ms];omega)
   split
   ·exact ih k' _ _ (by simp[nM]) (by simp only[ms];omega) (by simp only[ms];omega)
   ·have h1:=MI k (.lvl (n+1)) t
    rw[ih k' (.lvl (n+1)) t (by simp only[nM];omega) (by simp only[ms];omega) (by simp only[ms];omega)] at h1⊢
    split
    ·rename_i x r e
     rw[e] at h1;simp only[aQ] at h1
     exact ih k' _ _ (by simp only[nM];omega) (by simp only[ms];omega) (by simp only[ms];omega)
    ·rfl
  | loop n x=>
   simp only[nM] at hm
   simp only[ms] at h h'
   simp only[rd]
   split
   ·rename_i hh
    have:=bK (oW hh)
    have h1:=MI k (.lvl (n+1)) t.tail
    rw[ih k' (.lvl (n+1)) t.tail (by simp only[nM];omega) (by simp only[ms];omega) (by simp only[ms];omega)] at h1⊢
    split
    ·rename_i y r e
     rw[e] at h1;simp only[aQ] at h1
     split
     ·rfl
     ·exact ih k' _ _ (by simp only[nM];omega) (by simp only[ms];omega) (by simp only[ms];omega)
    ·rfl
   ·rfl
  | args x=>
   simp only[ms] at h h'
   simp only[rd]
   have h1:=MI k (.lvl 0) t
   rw[ih k' (.lvl 0) t (by simp[nM]) (by simp only[ms];omega) (by simp only[ms];omega)] at h1⊢
   split
   ·rename_i y r e
    rw[e] at h1;simp only[aQ] at h1
    split
    ·rename_i hh
     have:=bK (t:=r) (by rw[hh];decide)
     exact ih k' _ _ trivial (by simp only[ms];omega) (by simp only[ms];omega)
    ·rfl
   ·rfl
  | gI=>
   simp only[ms] at h h'
   simp only[rd]
   split
   ·rename_i hh
    have:=bK (t:=t) (by rw[hh];decide)
    rw[ih k' (.lvl 0) t.tail (by simp[nM]) (by simp only[ms];omega) (by simp only[ms];omega)]
   split
   ·rename_i hh
    have:=bK (t:=t) (by rcases hh with hh|hh<;>rw[hh]<;>decide)
    split
    ·rename_i h2
     have:=bK (t:=t.tail) (by rw[h2];decide)
     exact ih k' _ _ trivial (by simp only[ms];omega) (by simp only[ms];omega)
    ·rfl
   ·rfl
def pr (md:Md) (t:List Tk):Rs:=rd (10*t.length+11) md t
theorem acw (md:Md) (t:List Tk):ms md t<10*t.length+11:=by cases md<;>simp only[ms]<;>omega
theorem ac8 {k:Nat} {md:Md} {t:List Tk} (hm:nM md) (h:ms md t<k):rd k md t=pr md t:=Wp _ _ _ _ hm h (acw _ _)
theorem mg (md:Md) (t:List Tk):(aQ (pr md t)).length≤t.length:=MI _ _ _
end Go.Proofs
/- Reading,without fuel. -/
namespace Go.Proofs
open Go Go.Ab
theorem vH (md:Md) (t:List Tk):∃k,(∀md' t',nM md'→ms md' t' < 10*t.length+10→rd k md' t'=pr md' t')∧pr md t=rd (k+1) md t:=⟨10*t.length+10,fun _ _ h1 h2=>ac8 h1 h2,rfl⟩
theorem NI {t:List Tk} (h:ah t=notS):pr (.lvl 2) t=(pr (.lvl 2) t.tail).yG fun x=>.mk 18 .empty 0 0 (hdA 0 t) [x]:=by
 have:=bK (t:=t) (by rw[h];decide)
 obtain ⟨k,hk,e0⟩:=vH _ t
 rw[e0]
 simp only[rd,if_pos h,if_true]
 rw[hk (.lvl 2) _ (by simp[nM]) (by simp only[ms];omega)]
theorem Jk {t:List Tk} (h:ah t≠notS):pr (.lvl 2) t=pr (.lvl 3) t:=by
 obtain ⟨k,hk,e0⟩:=vH _ t
 rw[e0]
 simp only[rd,if_neg h,if_true]
 exact hk _ _ (by simp[nM]) (by simp only[ms];omega)
theorem NK {t:List Tk} (h:ah t=gV):pr (.lvl 6) t=(pr (.lvl 6) t.tail).yG fun x=>.mk 5 .empty 0 0 (hdA 0 t) [x]:=by
 have:=bK (t:=t) (by rw[h];decide)
 obtain ⟨k,hk,e0⟩:=vH _ t
 rw[e0]
 simp only[rd,if_pos h,if_true,show ¬(6:Nat)=2 by omega,if_false]
 rw[hk (.lvl 6) _ (by simp[nM]) (by simp only[ms];omega)]
theorem Jd {t:List Tk} (h:ah t≠gV):pr (.lvl 6) t=pr (.lvl 7) t:=by
 obtain ⟨k,hk,e0⟩:=vH _ t
 rw[e0]
 simp only[rd,if_neg h,if_true,show ¬(6:Nat)=2 by omega,if_false]
 exact hk _ _ (by simp[nM]) (by simp only[ms];omega)
theorem uU (t:List Tk):pr (.lvl 7) t=pr .gI t:=by
 obtain ⟨k,hk,e0⟩:=vH _ t
 rw[e0]
 simp only[rd,if_true,show ¬(7:Nat)=2 by omega,show ¬(7:Nat)=6 by omega,if_false]
 exact hk _ _ (by simp[nM]) (by simp only[ms];omega)
def fB (n:Nat):Prop:=n=0∨n=1∨n=3∨n=4∨n=5
theorem Dl {n:Nat} (hn:fB n) (t:List Tk):pr (.lvl n) t=match pr (.lvl (n+1)) t with
  | .ok x r=>pr (.loop n x) r
  | .bad r=>.bad r:=by
 have h5:n≤5∧n≠2∧n≠6∧n≠7:=by unfold fB at hn;omega
 have hl:=mg (.lvl (n+1)) t
 obtain ⟨k,hk,e0⟩:=vH _ t
 rw[e0]
 simp only[rd,if_neg h5.2.1,if_neg h5.2.2.1,if_neg h5.2.2.2]
 rw[hk (.lvl (n+1)) _ (by simp only[nM];omega) (by simp only[ms];omega)]
 cases e:pr (.lvl (n+1)) t with
 | ok x r=>
  rw[e] at hl;simp only[aQ] at hl
  exact hk _ _ (by simp only[nM];omega) (by simp only[ms];omega)
 | bad r=>rfl
theorem Az {n:Nat} {x:Ex} {t:List Tk} (h:opAt n (ah t)=false):pr (.loop n x) t=.ok x t:=by
 obtain ⟨k,hk,e0⟩:=vH _ t
 rw[e0]
 simp only[rd,h,Bool.false_eq_true,if_false]
theorem MP {n:Nat} (hn:n≤5) {x:Ex} {t:List Tk} (h:opAt n (ah t)=true):pr (.loop n x) t=match pr (.lvl (n+1)) t.tail with
  | .ok y r=>if n=3 then .ok (.mk (gq (ah t)) .empty 0 0 (hdA 0 t) [x,y]) r else pr (.loop n (.mk (gq (ah t)) .empty 0 0 (hdA 0 t) [x,y])) r
  | .bad r=>.bad r:=by
 have:=bK (oW h)
 have hl:=mg (.lvl (n+1)) t.tail
 obtain ⟨k,hk,e0⟩:=vH _ t
 rw[e0]
 simp only[rd,h,if_true]
 rw[hk (.lvl (n+1)) _ (by simp only[nM];omega) (by simp only[ms];omega)]
 cases e:pr (.lvl (n+1)) t.tail with
 | ok y r=>
  rw[e] at hl;simp only[aQ] at hl
  try dsimp only
  split
  ·rfl
  ·exact hk _ _ (by simp only[nM];omega) (by simp only[ms];omega)
 | bad r=>rfl
theorem zX (x:Ex) (t:List Tk):pr (.args x) t=match pr (.lvl 0) t with
  | .ok y r=>if ah r=dF then pr (.args (uo x y)) r.tail else if ah r=fA then .ok (uo x y) r.tail else .bad r
  | .bad r=>.bad r:=by
 have hl:=mg (.lvl 0) t
 obtain ⟨k,hk,e0⟩:=vH _ t
 rw[e0]
 simp only[rd]
 rw[hk (.lvl 0) _ (by simp[nM]) (by simp only[ms];omega)]
 cases e:pr (.lvl 0) t with
 | ok y r=>
  rw[e] at hl;simp only[aQ] at hl
  try dsimp only
  split
  ·rename_i hh
   have:=bK (t:=r) (by rw[hh];decide)
   exact hk _ _ trivial (by simp only[ms];omega)
  ·rfl
 | bad r=>rfl
theorem mJ (t:List Tk):pr .gI t =
  if ah t=dV then match pr (.lvl 0) t.tail with
   | .ok x r=>if ah r=fA then .ok x r.tail else .bad r
   | .bad r=>.bad r
  else if ah t=minS∨ah t=maxS then
   if ah t.tail=dV then pr (.args (.mk (if ah t=maxS then 11 else 10) .empty 0 0 (hdA 0 t) [])) t.tail.tail else .bad t.tail
  else mZ t:=by
 obtain ⟨k,hk,e0⟩:=vH _ t
 rw[e0]
 simp only[rd]
 by_cases hh:ah t=dV
 ·have:=bK (t:=t) (by rw[hh];decide)
  rw[if_pos hh,if_pos hh,hk (.lvl 0) _ (by simp[nM]) (by simp only[ms];omega)]
  try rfl
 rw[if_neg hh,if_neg hh]
 by_cases h2:ah t=minS∨ah t=maxS
 ·have:=bK (t:=t) (by rcases h2 with hh|hh<;>rw[hh]<;>decide)
  rw[if_pos h2,if_pos h2]
  by_cases h3:ah t.tail=dV
  ·have:=bK (t:=t.tail) (by rw[h3];decide)
   rw[if_pos h3,if_pos h3]
   exact hk _ _ trivial (by simp only[ms];omega)
  ·rw[if_neg h3,if_neg h3]
 ·rw[if_neg h2,if_neg h2]
def stop (n:Nat) (s:ByteArray):Prop:=∀m,n≤m→m≤5→opAt m s=false
theorem vS {n m:Nat} {s:ByteArray} (h:stop n s) (hn:n≤m):stop m s:=fun j h1 h2=>h j (by omega) h2
theorem Tv {m:Nat} (hm:m≤7) {t:List Tk} {y:Ex} {r:List Tk} (h:pr (.lvl m) t=.ok y r) :
  ∀n,n≤m→(n≤2→2<m→ah t≠notS)→(n≤6→6<m→ah t≠gV)→stop n (ah r)→pr (.lvl n) t=.ok y r:=by
 have key:∀d n,m-n=d→n≤m→(n≤2→2<m→ah t≠notS)→(n≤6→6<m→ah t≠gV)→stop n (ah r)→pr (.lvl n) t=.ok y r:=by
  intro d
  induction d with
  | zero=>intro n hd hn _ _ _;obtain rfl:n=m:=by omega
          exact h
  | succ d ih=>
   intro n hd hn h2 h6 hs
   have ih':=ih (n+1) (by omega) (by omega) (fun a b=>h2 (by omega) b) (fun a b=>h6 (by omega) b) (vS hs (by omega))
   by_cases e2:n=2
   ·subst e2
    rw[Jk (h2 (by omega) (by omega))];exact ih'
   by_cases e6:n=6
   ·subst e6
    rw[Jd (h6 (by omega) (by omega))];exact ih'
   rw[Dl (by unfold fB;omega),ih']
   exact Az (hs n (Nat.le_refl _) (by omega))
 exact fun n=>key _ n rfl
theorem VJ {m:Nat} (hm:m≤7) {t:List Tk} {y:Ex} {r:List Tk} (h:pr (.lvl m) t=.ok y r) {n:Nat} (hb:fB n) (hn:n<m) (h2:n≤2→2<m→ah t≠notS) (h6:n≤6→6<m→ah t≠gV)
  (hs:stop (n+1) (ah r)):pr (.lvl n) t=pr (.loop n y) r:=by
 rw[Dl hb,Tv hm h (n+1) (by omega) (fun a b=>h2 (by omega) b) (fun a b=>h6 (by omega) b) hs]
end Go.Proofs
/- The words of an expression are read as the expression. -/
set_option maxRecDepth 100000
namespace Go.Proofs
open Go Go.Ab
/-! Expressions without offsets. -/
mutual
def sZ:Ex→Ex
 | .mk k s n d _ l=>.mk k s n d 0 (zK l)
def zK:List Ex→List Ex
 | []=>[]
 | x :: l=>sZ x :: zK l
end
theorem uy (x:Ex):sZ x=.mk x.k x.s x.n x.d 0 (zK x.kids):=by cases x;simp only[sZ,Ex.k,Ex.s,Ex.n,Ex.d,Ex.kids]
/-! The words of an expression. -/
def x9 (v:Int) (p:Int×List ByteArray):List ByteArray:=if p.1<v then dV :: (p.2++[fA]) else p.2
def k0 (l:List (Int×List ByteArray)) (i:Nat):Int×List ByteArray:=l.getD i (0,[])
def CV:List (List ByteArray)→List ByteArray
 | []=>[]
 | [x]=>x
 | x :: y :: l=>x++dF :: CV (y :: l)
def DZ (k:Int) (s:ByteArray) (n d:Int) (fl:List (Int×List ByteArray)):List ByteArray:=
 if k=1 then [lH n d] else if k=2 then [s] else if k=3 then [kE] else if k=4 then [jR]
 else if k=5 then gV :: x9 6 (k0 fl 0) else if k=18 then notS :: x9 2 (k0 fl 0)
 else if k=10 then minS :: dV :: (CV (fl.map (·.2))++[fA])
 else if k=11 then maxS :: dV :: (CV (fl.map (·.2))++[fA])
 else x9 (zM k) (k0 fl 0)++dQ k :: x9 (bU k+1) (k0 fl 1)
mutual
def lq:Ex→List ByteArray
 | .mk k s n d _ l=>DZ k s n d (Ls l)
def Ls:List Ex→List (Int×List ByteArray)
 | []=>[]
 | x :: l=>(bU x.k,lq x) :: Ls l
end
theorem um (x:Ex):lq x=DZ x.k x.s x.n x.d (Ls x.kids):=by cases x;simp only[lq,Ex.k,Ex.s,Ex.n,Ex.d,Ex.kids]
/-! What kinds there are. -/
inductive ad6 (x:Ex):Prop
 | num (hk:x.k=1) (h:nP x.n x.d=true) (hs:x.s=.empty) (hl:x.kids=[])
 | name (hk:x.k=2) (h:nameB x.s=true) (hn:x.n=0) (hd:x.d=0) (hl:x.kids=[])
 | truth (hk:x.k=3∨x.k=4) (hs:x.s=.empty) (hn:x.n=0) (hd:x.d=0) (hl:x.kids=[])
 | one (hk:x.k=5∨x.k=18) (hs:x.s=.empty) (hn:x.n=0) (hd:x.d=0) (a:Ex) (hl:x.kids=[a]) (ha:cO a=true)
 | many (hk:x.k=10∨x.k=11) (hs:x.s=.empty) (hn:x.n=0) (hd:x.d=0) (hl:x.kids≠[]) (ha:∀a∈x.kids,cO a=true)
 | two (hk:dY x.k=true) (hs:x.s=.empty) (hn:x.n=0) (hd:x.d=0) (a b:Ex) (hl:x.kids=[a,b]) (ha:cO a=true) (hb:cO b=true)
theorem yE:∀l:List Ex,yI l=true→∀a∈l,cO a=true
 | [],_,a,h=>by simp at h
 | x :: l,h,a,ha=>by
  simp only[yI,aV] at h
  rcases List.mem_cons.1 ha with rfl|ha
  ·exact h.1
  ·exact yE l h.2 a ha
theorem empty_of {s:ByteArray} (h:s.size=0):s=.empty:=by
 rcases s with ⟨⟨l⟩⟩
 have:l.length=0:=h
 obtain rfl:=List.length_eq_zero_iff.1 this
 rfl
theorem aak {l:List Ex} (h:l.length=2):∃a b,l=[a,b]:=by
 match l,h with
 | [a,b],_=>exact⟨a,b,rfl⟩
theorem VA {x:Ex} (h:cO x=true):ad6 x:=by
 rw[tH] at h
 unfold zA DY at h
 split at h
 ·simp only[aV,decide_eq_true_eq] at h
  exact .num (by assumption) h.1.1 (empty_of h.1.2) (List.eq_nil_of_length_eq_zero h.2)
 split at h
 ·simp only[aV,decide_eq_true_eq,beq_iff_eq] at h
  exact .name (by assumption) h.1.1 h.1.2.1 h.1.2.2 (List.eq_nil_of_length_eq_zero h.2)
 split at h
 ·simp only[aV,decide_eq_true_eq,beq_iff_eq] at h
  exact .truth (by assumption) (empty_of h.1.1.1.1) h.1.1.1.2.1 h.1.1.1.2.2 (List.eq_nil_of_length_eq_zero (by omega))
 split at h
 ·simp only[aV,decide_eq_true_eq,beq_iff_eq] at h
  obtain ⟨a,ha⟩:=List.length_eq_one_iff.1 (show x.kids.length=1 by omega)
  exact .one (by assumption) (empty_of h.1.1.1.1) h.1.1.1.2.1 h.1.1.1.2.2 a ha (yE _ h.2 a (by rw[ha];simp))
 split at h
 ·simp only[aV,decide_eq_true_eq,beq_iff_eq] at h
  exact .many (by assumption) (empty_of h.1.1.1.1) h.1.1.1.2.1 h.1.1.1.2.2 (fun e=>by rw[e] at h;simp at h) (yE _ h.2)
 ·simp only[aV,decide_eq_true_eq,beq_iff_eq] at h
  obtain ⟨h0,h⟩:=h
  obtain ⟨a,b,ha⟩:=aak (show x.kids.length=2 by omega)
  exact .two h0 (empty_of h.1.1.1.1) h.1.1.1.2.1 h.1.1.1.2.2 a b ha (yE _ h.2 a (by rw[ha];simp)) (yE _ h.2 b (by rw[ha];simp))
def acV (n:Nat) (s:ByteArray):Bool:=(List.range 6).all fun m=>decide (m<n)||!opAt m s
theorem kS {n:Nat} {s:ByteArray} (h:acV n s=true):stop n s:=by
 intro m h1 h2
 have:=List.all_eq_true.1 h m (List.mem_range.2 (by omega))
 simp only[Bool.or_eq_true,decide_eq_true_eq,Bool.not_eq_true'] at this
 rcases this with h|h
 ·omega
 ·exact h
structure OpF (k:Int) (n:Nat):Prop where
 bin:fB n
 lv:bU k=n
 at_:opAt n (dQ k)=true
 st:stop (n+1) (dQ k)
 kd:gq (dQ k)=k
 fs:zM k=(if n=3 then 4 else n:Nat)
 no:k≠1∧k≠2∧k≠3∧k≠4∧k≠5∧k≠18∧k≠10∧k≠11
theorem X0 {k:Int} (h:dY k=true):∃n,OpF k n:=by
 have:k=6∨k=7∨k=8∨k=9∨k=12∨k=13∨k=14∨k=15∨k=16∨k=17∨k=19∨k=20:=by
  unfold dY at h;simp only[decide_eq_true_eq] at h;omega
 rcases this with rfl|rfl|rfl|rfl|rfl|rfl|rfl|rfl|rfl|rfl|rfl|rfl
 ·exact⟨4,by simp[fB],by decide +kernel,by decide +kernel,kS (by decide +kernel),by decide +kernel,by decide +kernel,by decide⟩
 ·exact⟨4,by simp[fB],by decide +kernel,by decide +kernel,kS (by decide +kernel),by decide +kernel,by decide +kernel,by decide⟩
 ·exact⟨5,by simp[fB],by decide +kernel,by decide +kernel,kS (by decide +kernel),by decide +kernel,by decide +kernel,by decide⟩
 ·exact⟨5,by simp[fB],by decide +kernel,by decide +kernel,kS (by decide +kernel),by decide +kernel,by decide +kernel,by decide⟩
 ·exact⟨3,by simp[fB],by decide +kernel,by decide +kernel,kS (by decide +kernel),by decide +kernel,by decide +kernel,by decide⟩
 ·exact⟨3,by simp[fB],by decide +kernel,by decide +kernel,kS (by decide +kernel),by decide +kernel,by decide +kernel,by decide⟩
 ·exact⟨3,by simp[fB],by decide +kernel,by decide +kernel,kS (by decide +kernel),by decide +kernel,by decide +kernel,by decide⟩
 ·exact⟨3,by simp[fB],by decide +kernel,by decide +kernel,kS (by decide +kernel),by decide +kernel,by decide +kernel,by decide⟩
 ·exact⟨3,by simp[fB],by decide +kernel,by decide +kernel,kS (by decide +kernel),by decide +kernel,by decide +kernel,by decide⟩
 ·exact⟨3,by simp[fB],by decide +kernel,by decide +kernel,kS (by decide +kernel),by decide +kernel,by decide +kernel,by decide⟩
 ·exact⟨1,by simp[fB],by decide +kernel,by decide +kernel,kS (by decide +kernel),by decide +kernel,by decide +kernel,by decide⟩
 ·exact⟨0,by simp[fB],by decide +kernel,by decide +kernel,kS (by decide +kernel),by decide +kernel,by decide +kernel,by decide⟩
theorem uY {k:Int} (h:k=1∨k=2∨k=3∨k=4∨k=10∨k=11):bU k=7:=by
 rcases h with rfl|rfl|rfl|rfl|rfl|rfl<;>decide +kernel
/-! Reading the words. -/
theorem jU (t:List Tk):ah t=(t.map (·.1)).headD .empty:=by cases t<;>rfl
theorem mO (t:List Tk):t.tail.map (·.1)=(t.map (·.1)).tail:=by cases t<;>rfl
def Rd (n:Nat) (T:List ByteArray) (x:Ex):Prop:=∀(t:List Tk) (R:List ByteArray),t.map (·.1)=T++R→stop n (R.headD .empty)→∃y r,pr (.lvl n) t=.ok y r∧sZ y=sZ x∧r.map (·.1)=R
def Vb (n:Nat) (T:List ByteArray) (x:Ex):Prop:=∀(t:List Tk) (R:List ByteArray),t.map (·.1)=T++R→stop (n+1) (R.headD .empty)→∃y r,pr (.lvl n) t=pr (.loop n y) r∧sZ y=sZ x∧r.map (·.1)=R
def YN (x:Ex):Prop:=∃c L,lq x=c :: L∧(bU x.k>2→c≠notS)∧(bU x.k>6→c≠gV)
def rW (n:Nat):Prop:=n=0∨n=1∨n=4∨n=5
theorem rW.L {n:Nat} (h:rW n):fB n:=by unfold rW at h;unfold fB;omega
structure Reads (x:Ex):Prop where
 lv:∃n:Nat,n≤7∧bU x.k=n
 hd:YN x
 rd:∀n:Nat,(n:Int)≤bU x.k→Rd n (lq x) x∧(rW n→Vb n (lq x) x)
theorem sF {x:Ex} {m:Nat} (hm:m≤7) (hl:bU x.k=m) (hd:YN x) (h:Rd m (lq x) x) (hL:rW m→Vb m (lq x) x):Reads x:=by
 refine⟨⟨m,hm,hl⟩,hd,fun n hn=>?_⟩
 have hn:n≤m:=by omega
 obtain ⟨c,L,hc,h2,h6⟩:=hd
 have hh:∀(t:List Tk) (R:List ByteArray),t.map (·.1)=lq x++R→ah t=c:=fun t R e=>by rw[jU,e,hc];rfl
 refine⟨fun t R e hs=>?_,fun hb=>?_⟩
 ·obtain ⟨y,r,e1,e2,e3⟩:=h t R e (vS hs hn)
  exact⟨y,r,Tv hm e1 n hn (fun _ b=>by rw[hh t R e];exact h2 (by omega)) (fun _ b=>by rw[hh t R e];exact h6 (by omega)) (by rw[jU,e3];exact hs),e2,e3⟩
 ·by_cases hnm:n=m
  ·subst hnm;exact hL hb
  intro t R e hs
  obtain ⟨y,r,e1,e2,e3⟩:=h t R e (vS hs (by omega))
  exact⟨y,r,VJ hm e1 hb.L (by omega) (fun _ b=>by rw[hh t R e];exact h2 (by omega)) (fun _ b=>by rw[hh t R e];exact h6 (by omega)) (by rw[jU,e3];exact hs),e2,e3⟩
theorem Pn:stop 0 fA:=kS (by decide +kernel)
theorem SN:stop 0 dF:=kS (by decide +kernel)
theorem WI {x:Ex} (h:Reads x) {n:Nat} (hn:n≤7):Rd n (dV :: (lq x++[fA])) x∧(rW n→Vb n (dV :: (lq x++[fA])) x):=by
 have key:∀(t:List Tk) (R:List ByteArray),t.map (·.1)=dV :: (lq x++[fA])++R→ah t=dV∧∃y r,pr (.lvl 7) t=.ok y r∧sZ y=sZ x∧r.map (·.1)=R:=by
  intro t R e
  have h1:ah t=dV:=by rw[jU,e];rfl
  obtain ⟨m,_,hm⟩:=h.lv
  obtain ⟨y,r,e1,e2,e3⟩:=(h.rd 0 (by omega)).1 t.tail (fA :: R) (by rw[mO,e];simp) Pn
  refine⟨h1,y,r.tail,?_,e2,by rw[mO,e3];rfl⟩
  rw[uU,mJ,if_pos h1,e1]
  try dsimp only
  rw[if_pos (by rw[jU,e3];rfl)]
 have hno:dV≠notS:=by decide
 have hmi:dV≠gV:=by decide
 refine⟨fun t R e hs=>?_,fun hb t R e hs=>?_⟩
 ·obtain ⟨h1,y,r,e1,e2,e3⟩:=key t R e
  exact⟨y,r,Tv (Nat.le_refl 7) e1 n hn (fun _ _=>by rw[h1];exact hno) (fun _ _=>by rw[h1];exact hmi) (by rw[jU,e3];exact hs),e2,e3⟩
 ·obtain ⟨h1,y,r,e1,e2,e3⟩:=key t R e
  exact⟨y,r,VJ (Nat.le_refl 7) e1 hb.L (by unfold rW at hb;omega) (fun _ _=>by rw[h1];exact hno) (fun _ _=>by rw[h1];exact hmi) (by rw[jU,e3];exact hs),e2,e3⟩
theorem zZ {x:Ex} (h:Reads x) {v:Int} {n:Nat} (hv:(n:Int)≤v) (hn:n≤7):Rd n (x9 v (bU x.k,lq x)) x∧(rW n→Vb n (x9 v (bU x.k,lq x)) x):=by
 unfold x9
 split
 ·exact WI h hn
 ·rename_i hlt
  exact h.rd n (by omega)
end Go.Proofs
/- The words of an expression are read as the expression: all kinds. -/
set_option maxRecDepth 100000
namespace Go.Proofs
open Go Go.Ab
theorem oK {s u:ByteArray} (h:bQ (byteAt s 0)=true) (hu:bQ (byteAt u 0)=false):s≠u:=by
 rintro rfl;rw[h] at hu;cases hu
theorem uT {s u:ByteArray} (h:nameB s=true) (hu:nameB u=false):s≠u:=by
 rintro rfl;rw[h] at hu;cases hu
theorem XE {s:ByteArray} (h:nameB s=true):bQ (byteAt s 0)=false:=by
 unfold nameB eu at h
 simp only[aV,decide_eq_true_eq] at h
 obtain ⟨_,_,h,_⟩:=h
 unfold bQ
 rw[decide_eq_false (p:=byteAt s 0≤57) (by omega),Bool.and_false]
theorem Gh:¬rW 7:=by unfold rW;omega
theorem wM {x:Ex} {c:ByteArray} (hl:bU x.k=7) (ht:lq x=[c]) (h1:c≠notS∧c≠gV∧c≠dV∧c≠minS∧c≠maxS)
  (hr:∀t:List Tk,ah t=c→∃y,mZ t=.ok y t.tail∧sZ y=sZ x):Reads x:=by
 refine sF (m:=7) (by omega) hl ⟨c,[],ht,fun _=>h1.1,fun _=>h1.2.1⟩ (fun t R e hs=>?_) fun hb=>absurd hb Gh
 have hh:ah t=c:=by rw[jU,e,ht];rfl
 obtain ⟨y,e1,e2⟩:=hr t hh
 refine⟨y,t.tail,?_,e2,by rw[mO,e,ht];rfl⟩
 rw[uU,mJ,if_neg (by rw[hh];exact h1.2.2.1),if_neg (by rw[hh];exact fun h=>h.elim h1.2.2.2.1 h1.2.2.2.2)]
 exact e1
theorem Rh (l:List Ex):(Ls l).map (·.2)=l.map lq:=by
 induction l with
 | nil=>rfl
 | cons x l ih=>simp only[Ls,List.map_cons,ih]
theorem Jb:∀(L:List Ex) (x:Ex),L≠[]→(∀a∈L,Reads a)→∀(t:List Tk) (R:List ByteArray),t.map (·.1)=CV (L.map lq)++fA :: R→
  ∃l r,pr (.args x) t=.ok (.mk x.k x.s x.n x.d x.pos (x.kids++l)) r∧zK l=zK L∧r.map (·.1)=R:=by
 intro L
 induction L with
 | nil=>intro x h;exact absurd rfl h
 | cons a L ih=>
  intro x _ hr t R e
  have ha:=hr a (by simp)
  obtain ⟨m,_,hm⟩:=ha.lv
  have hR:=(ha.rd 0 (by omega)).1
  cases L with
  | nil=>
   obtain ⟨y,r,e1,e2,e3⟩:=hR t (fA :: R) (by rw[e];rfl) Pn
   refine⟨[y],r.tail,?_,by simp only[zK,e2],by rw[mO,e3];rfl⟩
   rw[zX,e1]
   have h1:ah r=fA:=by rw[jU,e3];rfl
   try dsimp only
   rw[if_neg (by rw[h1];decide),if_pos h1];rfl
  | cons b L=>
   obtain ⟨y,r,e1,e2,e3⟩:=hR t (dF :: (CV ((b :: L).map lq)++fA :: R)) (by rw[e];simp[CV]) SN
   have h1:ah r=dF:=by rw[jU,e3];rfl
   obtain ⟨l,r',f1,f2,f3⟩:=ih (uo x y) (by simp) (fun c hc=>hr c (List.mem_cons_of_mem _ hc)) r.tail R (by rw[mO,e3];rfl)
   refine⟨y :: l,r',?_,by simp only[zK,e2,f2],f3⟩
   rw[zX,e1]
   try dsimp only
   rw[if_pos h1,f1]
   simp only[uo,Ex.k,Ex.s,Ex.n,Ex.d,Ex.pos,Ex.kids,List.append_assoc,List.singleton_append]
theorem reads:∀(m:Nat) (x:Ex),ht x≤m→cO x=true→Reads x:=by
 intro m
 induction m with
 | zero=>?_
 | succ m ih=>?_
 all_goals
  intro x hx hsn
  have ih':∀a∈x.kids,cO a=true→Reads a:=by
   intro a ha hs
   have:=OD ha
   rw[←Hq] at this
   first
    | exact ih a (by omega) hs
    | omega
  clear hx
  rcases VA hsn with ⟨hk,h,hs,hl⟩|⟨hk,h,hn,hd,hl⟩|⟨hk,hs,hn,hd,hl⟩|⟨hk,hs,hn,hd,a,hl,ha⟩|⟨hk,hs,hn,hd,hl,ha⟩|⟨hk,hs,hn,hd,a,b,hl,ha,hb⟩
  ·obtain ⟨q1,q2⟩:=Vj h
   refine wM (c:=lH x.n x.d) (uY (by omega)) (by rw[um];simp[DZ,hk]) ⟨oK q1 (by decide +kernel),oK q1 (by decide +kernel),oK q1 (by decide +kernel),oK q1 (by decide +kernel),oK q1 (by decide +kernel)⟩ fun t e=>?_
   refine⟨_,by unfold mZ;rw[if_neg (by rw[e];exact oK q1 (by decide +kernel)),if_neg (by rw[e];exact oK q1 (by decide +kernel)),if_pos (by rw[e];exact q1)],?_⟩
   rw[uy x,hk,hs,hl,e,q2];rfl
  ·refine wM (c:=x.s) (uY (by omega)) (by rw[um];simp[DZ,hk]) ⟨uT h (by decide +kernel),uT h (by decide +kernel),uT h (by decide +kernel),uT h (by decide +kernel),uT h (by decide +kernel)⟩ fun t e=>?_
   refine⟨_,by unfold mZ;rw[if_neg (by rw[e];exact uT h (by decide +kernel)),if_neg (by rw[e];exact uT h (by decide +kernel)),if_neg (by rw[e,XE h];decide),if_pos (by rw[e];exact h)],?_⟩
   rw[uy x,hk,hn,hd,hl,e];rfl
  ·rcases hk with hk|hk
   ·refine wM (c:=kE) (uY (by omega)) (by rw[um];simp[DZ,hk]) (by decide +kernel) fun t e=>?_
    refine⟨_,by unfold mZ;rw[if_pos e],?_⟩
    rw[uy x,hk,hs,hn,hd,hl];rfl
   ·refine wM (c:=jR) (uY (by omega)) (by rw[um];simp[DZ,hk]) (by decide +kernel) fun t e=>?_
    refine⟨_,by unfold mZ;rw[if_neg (by rw[e];decide +kernel),if_pos e],?_⟩
    rw[uy x,hk,hs,hn,hd,hl];rfl
  ·have hA:=ih' a (by rw[hl];simp) ha
   rcases hk with hk|hk
   ·have ht:lq x=gV :: x9 6 (bU a.k,lq a):=by rw[um,hl];simp[DZ,hk,Ls,k0]
    refine sF (m:=6) (by omega) (by rw[hk];decide +kernel) ⟨_,_,ht,fun _=>by decide,fun h=>absurd h (by rw[hk];decide +kernel)⟩ (fun t R e hs'=>?_) fun hb=>absurd hb (by unfold rW;omega)
    obtain ⟨y,r,e1,e2,e3⟩:=(zZ hA (v:=6) (n:=6) (by omega) (by omega)).1 t.tail R (by rw[mO,e,ht];rfl) hs'
    refine⟨_,r,by rw[NK (by rw[jU,e,ht];rfl),e1];rfl,?_,e3⟩
    rw[uy x,hk,hs,hn,hd,hl]
    simp only[sZ,zK,e2]
   ·have ht:lq x=notS :: x9 2 (bU a.k,lq a):=by rw[um,hl];simp[DZ,hk,Ls,k0]
    refine sF (m:=2) (by omega) (by rw[hk];decide +kernel) ⟨_,_,ht,fun h=>absurd h (by rw[hk];decide +kernel),fun h=>absurd h (by rw[hk];decide +kernel)⟩ (fun t R e hs'=>?_) fun hb=>absurd hb (by unfold rW;omega)
    obtain ⟨y,r,e1,e2,e3⟩:=(zZ hA (v:=2) (n:=2) (by omega) (by omega)).1 t.tail R (by rw[mO,e,ht];rfl) hs'
    refine⟨_,r,by rw[NI (by rw[jU,e,ht];rfl),e1];rfl,?_,e3⟩
    rw[uy x,hk,hs,hn,hd,hl]
    simp only[sZ,zK,e2]
  ·have hA:∀a∈x.kids,Reads a:=fun a h=>ih' a h (ha a h)
   rcases hk with hk|hk
   ·have ht:lq x=minS :: dV :: (CV (x.kids.map lq)++[fA]):=by rw[um,←Rh];simp[DZ,hk]
    refine sF (m:=7) (by omega) (uY (by omega)) ⟨_,_,ht,fun _=>by decide,fun _=>by decide⟩ (fun t R e hs'=>?_) fun hb=>absurd hb Gh
    have h1:ah t=minS:=by rw[jU,e,ht];rfl
    obtain ⟨l,r,e1,e2,e3⟩:=Jb x.kids (.mk 10 .empty 0 0 (hdA 0 t) []) hl hA t.tail.tail R (by rw[mO,mO,e,ht];simp)
    refine⟨.mk 10 .empty 0 0 (hdA 0 t) l,r,?_,?_,e3⟩
    ·rw[uU,mJ,if_neg (by rw[h1];decide),if_pos (Or.inl h1),if_pos (by rw[jU,mO,e,ht];rfl),if_neg (by rw[h1];decide),e1];rfl
    ·rw[uy x,hk,hs,hn,hd]
     simp only[sZ,e2]
   ·have ht:lq x=maxS :: dV :: (CV (x.kids.map lq)++[fA]):=by rw[um,←Rh];simp[DZ,hk]
    refine sF (m:=7) (by omega) (uY (by omega)) ⟨_,_,ht,fun _=>by decide,fun _=>by decide⟩ (fun t R e hs'=>?_) fun hb=>absurd hb Gh
    have h1:ah t=maxS:=by rw[jU,e,ht];rfl
    obtain ⟨l,r,e1,e2,e3⟩:=Jb x.kids (.mk 11 .empty 0 0 (hdA 0 t) []) hl hA t.tail.tail R (by rw[mO,mO,e,ht];simp)
    refine⟨.mk 11 .empty 0 0 (hdA 0 t) l,r,?_,?_,e3⟩
    ·rw[uU,mJ,if_neg (by rw[h1];decide),if_pos (Or.inr h1),if_pos (by rw[jU,mO,e,ht];rfl),if_pos h1,e1];rfl
    ·rw[uy x,hk,hs,hn,hd]
     simp only[sZ,e2]
  ·have hA:=ih' a (by rw[hl];simp) ha
   have hB:=ih' b (by rw[hl];simp) hb
   obtain ⟨n,F⟩:=X0 hk
   have n5:n≤5:=by have:=F.bin;unfold fB at this;omega
   have ht:lq x=x9 (zM x.k) (bU a.k,lq a)++dQ x.k :: x9 (bU x.k+1) (bU b.k,lq b):=by
    rw[um,hl]
    obtain ⟨h1,h2,h3,h4,h5,h6,h7,h8⟩:=F.no
    simp[DZ,h1,h2,h3,h4,h5,h6,h7,h8,Ls,k0]
   have hd':YN x:=by
    obtain ⟨c,L,hc,h2,h6⟩:=hA.hd
    unfold YN
    rw[ht]
    unfold x9
    split
    ·exact⟨_,_,rfl,fun _=>by decide,fun _=>by decide⟩
    ·rename_i hlt
     have hf:=F.fs
     have hv:=F.lv
     have:bU x.k≤bU a.k:=by
      rw[hf] at hlt;split at hlt<;>omega
     try dsimp only
     rw[hc]
     exact⟨c,_,rfl,fun h=>h2 (by omega),fun h=>h6 (by omega)⟩
   have go:∀(R:List ByteArray) (y:Ex) (r:List Tk),r.map (·.1)=dQ x.k :: (x9 (bU x.k+1) (bU b.k,lq b)++R)→sZ y=sZ a→stop (n+1) (R.headD .empty)→
     ∃z r',pr (.loop n y) r=(if n=3 then .ok (.mk x.k .empty 0 0 (hdA 0 r) [y,z]) r' else pr (.loop n (.mk x.k .empty 0 0 (hdA 0 r) [y,z])) r')∧sZ (.mk x.k .empty 0 0 (hdA 0 r) [y,z])=sZ x∧r'.map (·.1)=R:=by
    intro R y r er hy hs'
    have hh:ah r=dQ x.k:=by rw[jU,er];rfl
    obtain ⟨z,r',e1,e2,e3⟩:=(zZ hB (v:=bU x.k+1) (n:=n+1) (by have:=F.lv;omega) (by omega)).1 r.tail R (by rw[mO,er];rfl) hs'
    refine⟨z,r',?_,?_,e3⟩
    ·rw[MP n5 (by rw[hh];exact F.at_),e1]
     try dsimp only
     rw[hh,F.kd]
    ·rw[uy x,hs,hn,hd,hl]
     simp only[sZ,zK,hy,e2]
   have hfs:=F.fs
   by_cases h3:n=3
   ·subst h3
    refine sF (m:=3) (by omega) F.lv hd' (fun t R e hs'=>?_) fun hb=>absurd hb (by unfold rW;omega)
    ·obtain ⟨y,r,e1,e2,e3⟩:=(zZ hA (v:=zM x.k) (n:=4) (by rw[hfs];simp) (by omega)).1 t (dQ x.k :: (x9 (bU x.k+1) (bU b.k,lq b)++R)) (by rw[e,ht];simp) F.st
     obtain ⟨z,r',f1,f2,f3⟩:=go R y r e3 e2 (vS hs' (by omega))
     rw[if_pos rfl] at f1
     exact⟨_,r',by rw[Dl F.bin,e1];exact f1,f2,f3⟩
   ·have hA':rW n:=by have:=F.bin;unfold fB at this;unfold rW;omega
    rw[if_neg h3] at hfs
    have hL:Vb n (lq x) x:=by
     intro t R e hs'
     obtain ⟨y,r,e1,e2,e3⟩:=(zZ hA (v:=zM x.k) (n:=n) (by omega) (by omega)).2 hA' t (dQ x.k :: (x9 (bU x.k+1) (bU b.k,lq b)++R)) (by rw[e,ht];simp) F.st
     obtain ⟨z,r',f1,f2,f3⟩:=go R y r e3 e2 hs'
     rw[if_neg h3] at f1
     exact⟨_,r',by rw[e1,f1],f2,f3⟩
    refine sF (m:=n) (by omega) F.lv hd' (fun t R e hs'=>?_) fun _=>hL
    obtain ⟨y,r,e1,e2,e3⟩:=hL t R e (vS hs' (by omega))
    exact⟨y,r,by rw[e1];exact Az (by rw[jU,e3];exact hs' n (Nat.le_refl _) n5),e2,e3⟩
end Go.Proofs
/- Rules,read. -/
set_option maxRecDepth 100000
namespace Go.Proofs
open Go Go.Ab
def yu:ByteArray:=⟨#[105,110]⟩
def ng:ByteArray:=⟨#[105,102]⟩
def colonS:ByteArray:=⟨#[58]⟩
def jA:ByteArray:=⟨#[59]⟩
inductive Rr where
 | ok (x:Rl) (r:List Tk)
 | bad (r:List Tk)
def jm:Rr→List Tk
 | .ok _ r=>r
 | .bad r=>r
def Cc (kd:Int) (nm gr:ByteArray) (pos:Int) (am wh:Ex) (t:List Tk):Rr:=
 if ah t=jA then .ok ⟨kd,nm,gr,am,wh,pos,ht am,ht wh⟩ t.tail else .bad t
def DJ (kd:Int) (nm gr:ByteArray) (pos:Int) (am:Ex) (t:List Tk):Rr:=
 if ah t=ng then match pr (.lvl 0) t.tail with
  | .ok wh r=>Cc kd nm gr pos am wh r
  | .bad r=>.bad r
 else Cc kd nm gr pos am aJ t
def BZ (kd:Int) (nm gr:ByteArray) (pos:Int) (t:List Tk):Rr:=
 if ah t=colonS then match pr (.lvl 0) t.tail with
  | .ok am r=>DJ kd nm gr pos am r
  | .bad r=>.bad r
 else .bad t
def Ef (kd:Int) (nm:ByteArray) (pos:Int) (t:List Tk):Rr:=
 if ah t=yu then if nameB (ah t.tail)=true then BZ kd nm (ah t.tail) pos t.tail.tail else .bad t.tail
 else BZ kd nm .empty pos t
def jg (t:List Tk):Rr:=
 if dN bP (ah t)=true then if nameB (ah t.tail)=true then Ef (eF bP (ah t)) (ah t.tail) (hdA 0 t) t.tail.tail else .bad t.tail
 else .bad t
theorem WM (kd:Int) (nm gr:ByteArray) (pos:Int) (am wh:Ex) (t:List Tk):(jm (Cc kd nm gr pos am wh t)).length≤t.length:=by
 unfold Cc;split
 ·exact dR t
 ·exact Nat.le_refl _
theorem abj (kd:Int) (nm gr:ByteArray) (pos:Int) (am:Ex) (t:List Tk):(jm (DJ kd nm gr pos am t)).length≤t.length:=by
 have:=dR t
 have h:=mg (.lvl 0) t.tail
 unfold DJ;split
 ·cases e:pr (.lvl 0) t.tail with
  | ok wh r=>
   rw[e] at h;simp only[aQ] at h
   have:=WM kd nm gr pos am wh r
   dsimp only;omega
  | bad r=>rw[e] at h;simp only[aQ,jm] at h⊢;omega
 ·exact WM _ _ _ _ _ _ _
theorem VX (kd:Int) (nm gr:ByteArray) (pos:Int) (t:List Tk):(jm (BZ kd nm gr pos t)).length≤t.length:=by
 have:=dR t
 have h:=mg (.lvl 0) t.tail
 unfold BZ;split
 ·cases e:pr (.lvl 0) t.tail with
  | ok am r=>
   rw[e] at h;simp only[aQ] at h
   have:=abj kd nm gr pos am r
   dsimp only;omega
  | bad r=>rw[e] at h;simp only[aQ,jm] at h⊢;omega
 ·exact Nat.le_refl _
theorem aaT (kd:Int) (nm:ByteArray) (pos:Int) (t:List Tk):(jm (Ef kd nm pos t)).length≤t.length:=by
 have:=dR t
 have:=dR t.tail
 unfold Ef;split
 ·split
  ·have:=VX kd nm (ah t.tail) pos t.tail.tail;omega
  ·simpa only[jm] using dR t
 ·exact VX _ _ _ _ _
theorem Ib {s:ByteArray} (h:dN bP s=true):s≠.empty:=by
 rintro rfl;exact absurd h (by decide +kernel)
theorem rE {t:List Tk} {x:Rl} {r:List Tk} (h:jg t=.ok x r):r.length<t.length:=by
 unfold jg at h
 split at h
 ·rename_i hk
  have h1:=bK (Ib hk)
  have h2:=dR t.tail
  split at h
  ·have:=aaT (eF bP (ah t)) (ah t.tail) (hdA 0 t) t.tail.tail
   rw[h] at this;simp only[jm] at this;omega
  ·cases h
 ·cases h
inductive Ps where
 | ok (l:List Rl)
 | bad (r:List Tk)
def Ps.cons (x:Rl):Ps→Ps
 | .ok l=>.ok (x :: l)
 | .bad r=>.bad r
def Ri:Nat→List Tk→Ps
 | _,[]=>.ok []
 | 0,t=>.bad t
 | k+1,w :: t=>match jg (w :: t) with
  | .ok x r=>(Ri k r).cons x
  | .bad r=>.bad r
theorem abz:∀(k k':Nat) (t:List Tk),t.length≤k→t.length≤k'→Ri k t=Ri k' t:=by
 intro k
 induction k with
 | zero=>
  intro k' t h _
  obtain rfl:=List.length_eq_zero_iff.1 (Nat.le_zero.1 h)
  cases k'<;>rfl
 | succ k ih=>
  intro k' t h h'
  cases t with
  | nil=>cases k'<;>rfl
  | cons w t=>
   obtain ⟨k',rfl⟩:∃j,k'=j+1:=⟨k' - 1,by simp only[List.length_cons] at h';omega⟩
   simp only[List.length_cons] at h h'
   simp only[Ri]
   cases e:jg (w :: t) with
   | ok x r=>
    have:=rE e
    simp only[List.length_cons] at this
    try dsimp only
    rw[ih k' r (by omega) (by omega)]
   | bad r=>rfl
def oL (t:List Tk):Ps:=Ri t.length t
theorem aai:oL []=.ok []:=rfl
theorem NY {t:List Tk} (h:t≠[]):oL t=match jg t with
  | .ok x r=>(oL r).cons x
  | .bad r=>.bad r:=by
 cases t with
 | nil=>exact absurd rfl h
 | cons w t=>
  unfold oL
  simp only[List.length_cons,Ri]
  cases e:jg (w :: t) with
  | ok x r=>
   have:=rE e
   simp only[List.length_cons] at this
   try dsimp only
   rw[abz t.length r.length r (by omega) (Nat.le_refl _)]
  | bad r=>rfl
/-! Written rules are read again. -/
end Go.Proofs
/- The words of a text,plain. -/
set_option maxRecDepth 100000
namespace Go.Proofs
open Go Go.Ab
def iZ (l:List UInt8):ByteArray:=⟨l.toArray⟩
theorem wQ (l:List UInt8):(iZ l).data.toList=l:=by simp[iZ]
theorem IK (s:ByteArray):iZ s.data.toList=s:=by rcases s with ⟨⟨l⟩⟩;rfl
def D7 (c:UInt8):Bool:=c==32||c==9||c==10||c==13
def bH:Bool→List UInt8→Nat
 | _,[]=>0
 | false,c :: l=>if D7 c then 1+bH false l else if c==35 then 1+bH true l else 0
 | true,c :: l=>if c==10 then 1+bH false l else 1+bH true l
def bJ (c:UInt8):Bool:=bQ (c.toNat:Int)
def oz (c:UInt8):Bool:=eu (c.toNat:Int)
def bC (p:UInt8→Bool) (l:List UInt8):Nat:=(l.takeWhile p).length
def fQ (l:List UInt8):Nat:=
 if (l[min (bC bJ l) 9]?.any fun c=>c==46)&&l[min (bC bJ l) 9+1]?.any bJ then min (bC bJ l) 9+1+min (bC bJ (l.drop (min (bC bJ l) 9+1))) 6 else min (bC bJ l) 9
def rY (l:List UInt8):Int×Int:=
 if l[fQ l]?.any (fun c=>dM c||c==46) then (0,3) else if (fK (iZ (l.take (fQ l)))).2.2≠0 then (0,(fK (iZ (l.take (fQ l)))).2.2) else (fQ l,0)
def wF:List (List UInt8):=[[61,61],[33,61],[60,61],[62,61],[60],[62],[43],[45],[42],[47],[40],[41],[44],[58],[59]]
def dB (l:List UInt8):Int×Int:=
 if bJ (l.headD 0) then rY l else if oz (l.headD 0) then if bC dM l≤16 then (bC dM l,0) else (0,3)
 else match wF.find? fun x=>x.isPrefixOf l with
  | some x=>(x.length,0)
  | none=>(0,3)
inductive Ws where
 | ok (t:List Tk)
 | bad (at_:Int) (e:Int)
def Ws.cons (w:Tk):Ws→Ws
 | .ok t=>.ok (w :: t)
 | .bad a e=>.bad a e
def toks:Nat→Nat→List UInt8→Ws
 | 0,at_,_=>.bad at_ 3
 | k+1,at_,l=>
  if l.length≤bH false l then .ok []
  else if (dB (l.drop (bH false l))).2≠0 then .bad (at_+bH false l:Nat) (dB (l.drop (bH false l))).2
  else (toks k (at_+bH false l+(dB (l.drop (bH false l))).1.toNat) (l.drop (bH false l+(dB (l.drop (bH false l))).1.toNat))).cons (iZ ((l.drop (bH false l)).take (dB (l.drop (bH false l))).1.toNat),(at_+bH false l:Nat))
def wordAt (w l:List UInt8):Prop:=w≠[]∧bH false (w++l)=0∧dB (w++l)=((w.length:Int),0)
def VP (b:List UInt8):Prop:=∀l,bH false (b++l)=b.length+bH false l
inductive Lex:List UInt8→List ByteArray→Prop
 | nil {b:List UInt8} (h:bH false b=b.length):Lex b []
 | cons {b w l:List UInt8} {T:List ByteArray} (hb:VP b) (hw:wordAt w l) (h:Lex l T):Lex (b++(w++l)) (iZ w :: T)
theorem Lex.toks {l:List UInt8} {T:List ByteArray} (h:Lex l T):∀(k at_:Nat),l.length<k→∃ts,Go.Proofs.toks k at_ l=.ok ts∧ts.map (·.1)=T:=by
 induction h with
 | nil h=>
  intro k at_ hk
  obtain ⟨k,rfl⟩:∃j,k=j+1:=⟨k-1,by omega⟩
  exact⟨[],by unfold Go.Proofs.toks;rw[if_pos (by omega)],rfl⟩
 | @cons b w l T hb hw h ih=>
  intro k at_ hk
  obtain ⟨k,rfl⟩:∃j,k=j+1:=⟨k-1,by omega⟩
  obtain ⟨h0,h1,h2⟩:=hw
  have hlw:0<w.length:=List.length_pos_iff.2 h0
  simp only[List.length_append] at hk
  have hs:bH false (b++(w++l))=b.length:=by rw[hb,h1];rfl
  have hd:(b++(w++l)).drop b.length=w++l:=List.drop_left
  obtain ⟨ts,e1,e2⟩:=ih k (at_+b.length+w.length) (by omega)
  refine⟨(iZ w,((at_+b.length:Nat):Int)) :: ts,?_,by rw[List.map_cons,e2]⟩
  unfold Go.Proofs.toks
  rw[hs,if_neg (by simp only[List.length_append];omega),hd,h2,if_neg (by simp)]
  have e3:(b++(w++l)).drop (b.length+((w.length:Int)).toNat)=l:=by
   rw[←List.drop_drop,hd]
   exact List.drop_left' (by simp)
  have e4:(w++l).take ((w.length:Int)).toNat=w:=List.take_left' (by simp)
  try dsimp only
  rw[e3,e4,show ((w.length:Int)).toNat=w.length by simp,e1]
  rfl
theorem UA:VP []:=fun l=>by simp
theorem Lex.word {w l:List UInt8} {T:List ByteArray} (hw:wordAt w l) (h:Lex l T):Lex (w++l) (iZ w :: T):=by
 have:=Lex.cons UA hw h
 simpa using this
end Go.Proofs
