import Derived.Test.YtcfclncbpeahnaaGreatDoorAcD
import Derived.Test.YtcfclncbpeahnaaGreatDoorG2
import Derived.Test.YtcfclncbpeahnaaGreatDoorG0
import Derived.Lib.SlTrimSet
import Derived.Shelf.Strings.SlTrimAscii
import Derived.Shelf.Strings.Trim
import Derived.Shelf.Small.Utf8
import Derived.Shelf.Small.Strs
import Derived.Shelf.Small.Wraps
import Derived.Shelf.LaysM
import Derived.Shelf.LaysC
import Derived.Shelf.Strconv.AtoiAll
import Derived.Shelf.Strings.Search1
import Derived.Shelf.Strings.Search2
import Derived.Shelf.Strings.Prefix
import Derived.Test.YtcfclncbpeahnaaGreatDoorProg
import Derived.Test.YtcfclncbpeahnaaGreatDoorG1
set_option autoImplicit false
namespace Go.Proofs
open Go Go.Ab Go.RowKit
set_option maxHeartbeats 4000000
set_option maxRecDepth 100000
variable {G:IH}
/-! The reference's rules. -/
theorem ru_snd {r:Rl} (h:ruB r=true):sndE r.am=true∧(r.wh.k≠0→sndE r.wh=true):=by
 unfold ruB at h
 simp only[bAt] at h
 refine⟨h.1.2,fun hk=>?_⟩
 rcases (Bool.or_eq_true ..).mp h.2 with h1|h1
 ·unfold nonB at h1
  simp only[bAt,beq_iff_eq] at h1
  exact absurd h1.1.1.1 hk
 ·exact h1
end Go.Proofs
/- What the text of a fraction says,plain. -/
namespace Go.Proofs
open Go Go.Ab
def isDb (c:UInt8):Bool:=decide (48≤c.toNat)&&decide (c.toNat≤57)
theorem isDb_iff (c:UInt8):isDb c=true↔isD c:=by
 unfold isDb isD;rw[bAt,decide_eq_true_eq,decide_eq_true_eq]
def spl:List UInt8→List UInt8×List UInt8
 | []=>([],[])
 | c :: l=>bif isDb c then (c :: (spl l).1,(spl l).2) else ([],c :: l)
theorem spl_app:∀S,(spl S).1++(spl S).2=S
 | []=>rfl
 | c :: l=>by
  rw[spl]
  cases isDb c with
  | true=>simp only[cond_true,List.cons_append,spl_app l]
  | false=>rfl
theorem spl_digits:∀S,∀c∈(spl S).1,isDb c=true
 | [],c,h=>by simp[spl] at h
 | d :: l,c,h=>by
  rw[spl] at h
  cases hd:isDb d with
  | true=>
   rw[hd,cond_true] at h
   rcases List.mem_cons.1 h with rfl|h
   ·exact hd
   ·exact spl_digits l c h
  | false=>rw[hd,cond_false] at h;simp at h
theorem spl_unique:∀{D R:List UInt8},(∀c∈D,isDb c=true)→(∀c T,R=c :: T→isDb c=false)→spl (D++R)=(D,R)
 | [],[],_,_=>rfl
 | [],c :: R,_,h=>by rw[List.nil_append,spl,h c R rfl];rfl
 | d :: D,R,hd,h=>by
  rw[List.cons_append,spl,hd d (by simp),cond_true,spl_unique (fun c hc=>hd c (by simp[hc])) h]
theorem spl_all {S:List UInt8} (h:S.all isDb=true):spl S=(S,[]):=by
 have:=spl_unique (D:=S) (R:=[]) (fun c hc=>List.all_eq_true.1 h c hc) (fun c T h=>by cases h)
 rwa [List.append_nil] at this
theorem spl_all_iff {S:List UInt8}:S.all isDb=true↔(spl S).2=[]:=by
 refine⟨fun h=>by rw[spl_all h],fun h=>?_⟩
 have e:=spl_app S
 rw[h,List.append_nil] at e
 rw[←e,List.all_eq_true]
 exact fun c hc=>spl_digits S c hc
def dgO (l:List UInt8) (most:Nat):Option Nat:=if 1≤l.length∧l.length≤most∧l.all isDb=true then some (valD l) else none
def restO (D:List UInt8):List UInt8→Option (Nat×Nat)
 | []=>some (valD D,1)
 | c :: T=>if c=47 then (dgO T 7).map fun b=>(valD D,b) else if c=46 then (dgO T 6).map fun b=>(valD D*10 ^ T.length+b,10 ^ T.length) else none
def partsO (S:List UInt8):Option (Nat×Nat):=if 1≤(spl S).1.length∧(spl S).1.length≤10 then restO (spl S).1 (spl S).2 else none
theorem dgO_bad {l:List UInt8} {m:Nat} {c:UInt8} (h:c∈l) (hc:isDb c=false):dgO l m=none:=by
 unfold dgO
 rw[if_neg]
 rintro ⟨_,_,h3⟩
 have:=List.all_eq_true.1 h3 c h
 rw[hc] at this;cases this
theorem restO_bad {D T:List UInt8} {c d:UInt8} (hd:d∈T) (hb:isDb d=false):restO D (c :: T)=none:=by
 unfold restO
 simp only[dgO_bad hd hb,Option.map_none]
 split
 ·rfl
 ·split<;>rfl
theorem spl_at {w r:List UInt8} {d:UInt8} (hd:isDb d=false) (hw:∀c∈w,isDb c=true):spl (w++d :: r)=(w,d :: r):=
 spl_unique hw fun c T h=>by simp at h;rw[←h.1];exact hd
theorem spl_not {w r:List UInt8} {d:UInt8} (hw:¬∀c∈w,isDb c=true):∃D c T,spl (w++d :: r)=(D,c :: T)∧isDb c=false∧c∈w∧d∈T:=by
 induction w with
 | nil=>exact absurd (fun c hc=>by simp at hc) hw
 | cons x w ih=>
  cases hx:isDb x with
  | false=>exact⟨[],x,w++d :: r,by rw[List.cons_append,spl,hx];rfl,hx,by simp,by simp⟩
  | true=>
   obtain ⟨D,c,T,h1,h2,h3,h4⟩:=ih (fun h=>hw fun c hc=>by
    rcases List.mem_cons.1 hc with rfl|hc
    ·exact hx
    ·exact h c hc)
   exact⟨x :: D,c,T,by rw[List.cons_append,spl,hx,cond_true,h1],h2,by simp[h3],h4⟩
theorem dgO_none {l:List UInt8} {m:Nat} (h:¬∀c∈l,isDb c=true):dgO l m=none:=by
 unfold dgO
 rw[if_neg]
 rintro ⟨_,_,h3⟩
 exact h fun c hc=>List.all_eq_true.1 h3 c hc
theorem dgO_iff {l:List UInt8} {m:Nat} (h:∀c∈l,isDb c=true):dgO l m=if 1≤l.length∧l.length≤m then some (valD l) else none:=by
 unfold dgO
 have:=List.all_eq_true.2 h
 simp only[this,and_true]
theorem parts_slash {w r:List UInt8}:partsO (w++47 :: r)=(dgO w 10).bind fun a=>(dgO r 7).map fun b=>(a,b):=by
 by_cases h:∀c∈w,isDb c=true
 ·unfold partsO
  rw[spl_at rfl h,dgO_iff h]
  simp only
  by_cases h2:1≤w.length∧w.length≤10
  ·rw[if_pos h2,if_pos h2];rfl
  ·rw[if_neg h2,if_neg h2];rfl
 ·obtain ⟨D,c,T,h1,_,_,h4⟩:=spl_not (r:=r) (d:=47) h
  unfold partsO
  rw[h1,dgO_none h]
  simp only
  rw[restO_bad h4 rfl]
  split<;>rfl
theorem parts_dot {w r:List UInt8}:partsO (w++46 :: r)=(dgO w 10).bind fun a=>(dgO r 6).map fun b=>(a*10 ^ r.length+b,10 ^ r.length):=by
 by_cases h:∀c∈w,isDb c=true
 ·unfold partsO
  rw[spl_at rfl h,dgO_iff h]
  simp only
  by_cases h2:1≤w.length∧w.length≤10
  ·rw[if_pos h2,if_pos h2];rfl
  ·rw[if_neg h2,if_neg h2];rfl
 ·obtain ⟨D,c,T,h1,_,_,h4⟩:=spl_not (r:=r) (d:=46) h
  unfold partsO
  rw[h1,dgO_none h]
  simp only
  rw[restO_bad h4 rfl]
  split<;>rfl
theorem parts_whole {S:List UInt8} (hs:(47:UInt8)∉S) (hw:(46:UInt8)∉S):partsO S=(dgO S 10).map fun a=>(a,1):=by
 by_cases h:S.all isDb=true
 ·unfold partsO
  rw[spl_all h,dgO_iff (fun c hc=>List.all_eq_true.1 h c hc)]
  simp only
  by_cases h2:1≤S.length∧S.length≤10
  ·rw[if_pos h2,if_pos h2];rfl
  ·rw[if_neg h2,if_neg h2];rfl
 ·have h':¬∀c∈S,isDb c=true:=fun h2=>h (List.all_eq_true.2 h2)
  rw[dgO_none h']
  have hn:(spl S).2≠[]:=fun e=>h (spl_all_iff.2 e)
  obtain ⟨c,T,hc⟩:=List.exists_cons_of_ne_nil hn
  have hm:c∈S:=by rw[←spl_app S,hc];simp
  unfold partsO
  rw[hc]
  have h1:c≠47:=fun e=>hs (e▸hm)
  have h2:c≠46:=fun e=>hw (e▸hm)
  simp only[restO,if_neg h1,if_neg h2,Option.map_none]
  split<;>rfl
end Go.Proofs
/- The texts that are written are read again,plain. -/
namespace Go.Proofs
open Go Go.Ab
theorem dec_all (n:Nat):∀c∈Lib.decDigits n,isDb c=true:=fun c hc=>(isDb_iff c).2 ((decDigits_all n).1 c hc)
theorem dec_pos (n:Nat):1≤(Lib.decDigits n).length:=List.length_pos_iff.2 (decDigits_all n).2.2.1
theorem dgO_dec {n m:Nat} (h:(Lib.decDigits n).length≤m):dgO (Lib.decDigits n) m=some n:=by
 rw[dgO_iff (dec_all n),if_pos ⟨dec_pos n,h⟩,(decDigits_all n).2.1]
theorem no_dig {n:Nat} {c:UInt8} (hc:isDb c=false):c∉Lib.decDigits n:=fun h=>by
 rw[dec_all n c h] at hc;cases hc
theorem parts_int {n:Nat} (h:n<10000000000):partsO (Lib.decDigits n)=some (n,1):=by
 rw[parts_whole (no_dig rfl) (no_dig rfl),dgO_dec (decDigits_len 9 n (by omega))];rfl
theorem parts_frac {n d:Nat} (h:n<10000000000) (hd:d<10000000):partsO (Lib.decDigits n++47 :: Lib.decDigits d)=some (n,d):=by
 rw[parts_slash,dgO_dec (decDigits_len 9 n (by omega)),dgO_dec (decDigits_len 6 d (by omega))];rfl
theorem parts_point {n:Nat} {T:List UInt8} (h:n<10000000000) (hT:∀c∈T,isDb c=true) (h1:1≤T.length) (h6:T.length≤6):partsO (Lib.decDigits n++46 :: T)=some (n*10 ^ T.length+valD T,10 ^ T.length):=by
 rw[parts_dot,dgO_dec (decDigits_len 9 n (by omega)),dgO_iff hT,if_pos ⟨h1,h6⟩];rfl
theorem dec_one:∀(j r:Nat),r<10 ^ j→∃T,Lib.decDigits (10 ^ j+r)=49 :: T∧T.length=j∧(∀c∈T,isDb c=true)∧valD T=r
 | 0,r,h=>⟨[],by
   have:r=0:=by simpa using h
   subst this
   rw[Lib.decDigits,dif_pos (by decide)];rfl,rfl,fun c hc=>by simp at hc,by
   have:r=0:=by simpa using h
   subst this;rfl⟩
 | j+1,r,h=>by
  rw[Nat.pow_succ] at h
  obtain ⟨T,h1,h2,h3,h4⟩:=dec_one j (r / 10) (by omega)
  have hp:0<10 ^ j:=Nat.pow_pos (by decide)
  have hd:=dig_nat (show r % 10<10 by omega)
  have e1:(10 ^ (j+1)+r) / 10=10 ^ j+r / 10:=by rw[Nat.pow_succ];omega
  have e2:(10 ^ (j+1)+r) % 10=r % 10:=by rw[Nat.pow_succ];omega
  refine⟨T++[UInt8.ofNat (48+r % 10)],?_,by rw[List.length_append,h2];rfl,fun c hc=>?_,?_⟩
  ·rw[Lib.decDigits,dif_neg (by rw[Nat.pow_succ];omega),e1,e2,h1];rfl
  ·rcases List.mem_append.1 hc with hc|hc
   ·exact h3 c hc
   ·rw[List.mem_singleton] at hc;subst hc
    exact(isDb_iff _).2 ⟨by omega,by omega⟩
  ·rw[valD_app,h4,hd];omega
theorem parts_place {n j r:Nat} (h:n<10000000000) (hj:1≤j) (hj6:j≤6) (hr:r<10 ^ j):partsO (Lib.decDigits n++46 :: (Lib.decDigits (10 ^ j+r)).tail)=some (n*10 ^ j+r,10 ^ j):=by
 obtain ⟨T,h1,h2,h3,h4⟩:=dec_one j r hr
 rw[h1,List.tail_cons,parts_point h h3 (by omega) (by omega),h2,h4]
end Go.Proofs
/- Trimming digits leaves nothing exactly of digits,plain. -/
namespace Go.Proofs
open Go Go.Ab
theorem drop_head {p:UInt8→Bool}:∀{l:List UInt8} {c:UInt8} {t:List UInt8},l.dropWhile p=c :: t→p c=false
 | [],c,t,h=>by cases h
 | d :: l,c,t,h=>by
  rw[List.dropWhile_cons] at h
  by_cases hd:p d=true
  ·rw[if_pos hd] at h;exact drop_head h
  ·rw[if_neg hd] at h
   injection h with h1 h2
   rw[←h1];simpa using hd
theorem drop_nil {p:UInt8→Bool}:∀{l:List UInt8},l.dropWhile p=[]↔∀c∈l,p c=true
 | []=>by simp
 | d :: l=>by
  rw[List.dropWhile_cons]
  by_cases hd:p d=true
  ·rw[if_pos hd,drop_nil]
   simp[hd]
  ·rw[if_neg hd]
   simp[hd]
theorem trim_nil (l cs:List UInt8):Lib.trimS l cs=[]↔∀c∈l,cs.contains c=true:=by
 unfold Lib.trimS Lib.trimLeftS Lib.trimRightS
 rw[drop_nil]
 refine⟨fun h=>?_,fun h c hc=>?_⟩
 ·cases hr:l.reverse.dropWhile (cs.contains ·) with
  | nil=>intro c hc;exact drop_nil.1 hr c (List.mem_reverse.2 hc)
  | cons d t=>
   have h1:=drop_head hr
   have h2:=h d (by rw[hr];simp)
   rw[h2] at h1;cases h1
 ·have:l.reverse.dropWhile (cs.contains ·)=[]:=drop_nil.2 fun c hc=>h c (List.mem_reverse.1 hc)
  rw[this] at hc;simp at hc
def digSet:List UInt8:=[48,49,50,51,52,53,54,55,56,57]
theorem digSet_iff (c:UInt8):digSet.contains c=isDb c:=by
 revert c
 have:∀n:Nat,n<256→digSet.contains (UInt8.ofNat n)=isDb (UInt8.ofNat n):=by decide +kernel
 intro c
 have h:=this c.toNat c.toNat_lt
 rwa [UInt8.ofNat_toNat] at h
theorem trim_digits (l:List UInt8):Lib.trimS l digSet=[]↔l.all isDb=true:=by
 rw[trim_nil,List.all_eq_true]
 simp only[digSet_iff]
open Go.Shelf
def Tryz.lays160_ren:Go.Shelf.Ren:=⟨fun|160=>142|232=>150|231=>149|227=>151|234=>153|233=>152|236=>155|235=>154|228=>164|271=>167|151=>166|197=>165|120=>180|152=>179|260=>178|137=>186|119=>187|224=>147|225=>146|217=>145|266=>162|n=>n,fun|9=>9|4=>4|3=>3|5=>5|117=>157|116=>156|0=>0|124=>160|21=>21|105=>171|46=>153|119=>193|139=>196|138=>195|n=>n,fun|3=>4|4=>5|n=>n⟩
theorem Tryz.lays160:Go.Proofs.Lays.n160 Tryz.prog Tryz.lays160_ren:={
 mixed:=by kernel_rfl
 f119:=Tryz.func187.trans (congrArg some (by kernel_rfl))
 f120:=Tryz.func180.trans (congrArg some (by kernel_rfl))
 f137:=Tryz.func186.trans (congrArg some (by kernel_rfl))
 f151:=Tryz.func166.trans (congrArg some (by kernel_rfl))
 f152:=Tryz.func179.trans (congrArg some (by kernel_rfl))
 f160:=Tryz.func142.trans (congrArg some (by kernel_rfl))
 f197:=Tryz.func165.trans (congrArg some (by kernel_rfl))
 f217:=Tryz.func145.trans (congrArg some (by kernel_rfl))
 f224:=Tryz.func147.trans (congrArg some (by kernel_rfl))
 f225:=Tryz.func146.trans (congrArg some (by kernel_rfl))
 f227:=Tryz.func151.trans (congrArg some (by kernel_rfl))
 f228:=Tryz.func164.trans (congrArg some (by kernel_rfl))
 f231:=Tryz.func149.trans (congrArg some (by kernel_rfl))
 f232:=Tryz.func150.trans (congrArg some (by kernel_rfl))
 f233:=Tryz.func152.trans (congrArg some (by kernel_rfl))
 f234:=Tryz.func153.trans (congrArg some (by kernel_rfl))
 f235:=Tryz.func154.trans (congrArg some (by kernel_rfl))
 f236:=Tryz.func155.trans (congrArg some (by kernel_rfl))
 f260:=Tryz.func178.trans (congrArg some (by kernel_rfl))
 f266:=Tryz.func162.trans (congrArg some (by kernel_rfl))
 f271:=Tryz.func167.trans (congrArg some (by kernel_rfl))
 t0:=Tryz.underlying0
 a0:=Tryz.isAgg0
 z0:=Tryz.sizeOf0
 v0:=Tryz.zeroValue0
 t3:=Tryz.underlying3
 a3:=Tryz.isAgg3
 z3:=Tryz.sizeOf3
 v3:=Tryz.zeroValue3
 t4:=Tryz.underlying4
 a4:=Tryz.isAgg4
 z4:=Tryz.sizeOf4
 v4:=Tryz.zeroValue4
 t5:=Tryz.underlying5
 a5:=Tryz.isAgg5
 z5:=Tryz.sizeOf5
 v5:=Tryz.zeroValue5
 t9:=Tryz.underlying9
 a9:=Tryz.isAgg9
 z9:=Tryz.sizeOf9
 v9:=Tryz.zeroValue9
 t21:=Tryz.underlying21
 a21:=Tryz.isAgg21
 z21:=Tryz.sizeOf21
 v21:=Tryz.zeroValue21
 t46:=Tryz.underlying153
 a46:=Tryz.isAgg153
 z46:=Tryz.sizeOf153
 v46:=Tryz.zeroValue153
 t105:=Tryz.underlying171
 a105:=Tryz.isAgg171
 z105:=Tryz.sizeOf171
 v105:=Tryz.zeroValue171
 t116:=Tryz.underlying156
 a116:=Tryz.isAgg156
 z116:=Tryz.sizeOf156
 t117:=Tryz.underlying157
 a117:=Tryz.isAgg157
 z117:=Tryz.sizeOf157
 v117:=Tryz.zeroValue157
 t119:=Tryz.underlying193
 a119:=Tryz.isAgg193
 z119:=Tryz.sizeOf193
 t124:=Tryz.underlying160
 a124:=Tryz.isAgg160
 z124:=Tryz.sizeOf160
 v124:=Tryz.zeroValue160
 t138:=Tryz.underlying195
 a138:=Tryz.isAgg195
 z138:=Tryz.sizeOf195
 v138:=Tryz.zeroValue195
 t139:=Tryz.underlying196
 a139:=Tryz.isAgg196
 z139:=Tryz.sizeOf196
 v139:=Tryz.zeroValue196
 g3:=by kernel_rfl
 g4:=by kernel_rfl }
def Tryz.lays103_ren:Go.Shelf.Ren:=⟨fun|103=>125|210=>135|206=>107|n=>n,fun|9=>9|4=>4|24=>114|3=>3|n=>n,fun|n=>n⟩
theorem Tryz.lays103:Go.Proofs.Lays.n103 Tryz.prog Tryz.lays103_ren:={
 mixed:=by kernel_rfl
 f103:=Tryz.func125.trans (congrArg some (by kernel_rfl))
 f206:=Tryz.func107.trans (congrArg some (by kernel_rfl))
 f210:=Tryz.func135.trans (congrArg some (by kernel_rfl))
 t3:=Tryz.underlying3
 a3:=Tryz.isAgg3
 z3:=Tryz.sizeOf3
 v3:=Tryz.zeroValue3
 t4:=Tryz.underlying4
 a4:=Tryz.isAgg4
 z4:=Tryz.sizeOf4
 v4:=Tryz.zeroValue4
 t9:=Tryz.underlying9
 a9:=Tryz.isAgg9
 z9:=Tryz.sizeOf9
 v9:=Tryz.zeroValue9
 t24:=Tryz.underlying114
 a24:=Tryz.isAgg114
 z24:=Tryz.sizeOf114
 v24:=Tryz.zeroValue114 }
open Go.RowKit in
theorem Tryz.strings_CutPrefix (s p:ByteArray) (w:World) :
  Calls Tryz.prog 125 #[.string s,.string p] w fun e w'=>e=.returned (.tuple #[.string ⟨(Lib.trimPrefix s.data.toList p.data.toList).toArray⟩,.bool (Lib.hasPrefix s.data.toList p.data.toList)])∧w'=w:=Any.strings_CutPrefix Tryz.lays103 s p w
def Tryz.laysC172_ren:Go.Shelf.Ren:=⟨fun|172=>143|244=>156|245=>157|247=>168|279=>169|280=>170|281=>171|282=>172|287=>181|316=>182|171=>130|205=>183|321=>188|322=>189|243=>139|246=>144|283=>158|284=>159|285=>160|286=>161|129=>174|317=>173|318=>175|319=>176|320=>177|337=>184|338=>185|n=>n,fun|9=>9|3=>3|75=>85|76=>86|4=>4|5=>5|167=>174|37=>51|0=>0|85=>175|2=>2|168=>177|53=>163|175=>186|46=>153|210=>190|127=>121|145=>201|143=>199|21=>21|171=>162|173=>166|212=>181|51=>168|20=>20|213=>182|232=>202|233=>203|80=>90|n=>n,fun|15=>2|16=>3|17=>1|18=>6|19=>7|n=>n⟩
theorem Tryz.laysC172:Go.Proofs.LaysC.n172 Tryz.prog Tryz.laysC172_ren:={
 mixed:=by kernel_rfl
 f129:=Tryz.func174.trans (congrArg some (by kernel_rfl))
 f171:=Tryz.func130.trans (congrArg some (by kernel_rfl))
 f172:=Tryz.func143.trans (congrArg some (by kernel_rfl))
 f205:=Tryz.func183.trans (congrArg some (by kernel_rfl))
 f243:=Tryz.func139.trans (congrArg some (by kernel_rfl))
 f244:=Tryz.func156.trans (congrArg some (by kernel_rfl))
 f245:=Tryz.func157.trans (congrArg some (by kernel_rfl))
 f246:=Tryz.func144.trans (congrArg some (by kernel_rfl))
 f247:=Tryz.func168.trans (congrArg some (by kernel_rfl))
 f279:=Tryz.func169.trans (congrArg some (by kernel_rfl))
 f280:=Tryz.func170.trans (congrArg some (by kernel_rfl))
 f281:=Tryz.func171.trans (congrArg some (by kernel_rfl))
 f282:=Tryz.func172.trans (congrArg some (by kernel_rfl))
 f283:=Tryz.func158.trans (congrArg some (by kernel_rfl))
 f284:=Tryz.func159.trans (congrArg some (by kernel_rfl))
 f285:=Tryz.func160.trans (congrArg some (by kernel_rfl))
 f286:=Tryz.func161.trans (congrArg some (by kernel_rfl))
 f287:=Tryz.func181.trans (congrArg some (by kernel_rfl))
 f316:=Tryz.func182.trans (congrArg some (by kernel_rfl))
 f317:=Tryz.func173.trans (congrArg some (by kernel_rfl))
 f318:=Tryz.func175.trans (congrArg some (by kernel_rfl))
 f319:=Tryz.func176.trans (congrArg some (by kernel_rfl))
 f320:=Tryz.func177.trans (congrArg some (by kernel_rfl))
 f321:=Tryz.func188.trans (congrArg some (by kernel_rfl))
 f322:=Tryz.func189.trans (congrArg some (by kernel_rfl))
 f337:=Tryz.func184.trans (congrArg some (by kernel_rfl))
 f338:=Tryz.func185.trans (congrArg some (by kernel_rfl))
 t0:=Tryz.underlying0
 a0:=Tryz.isAgg0
 z0:=Tryz.sizeOf0
 v0:=Tryz.zeroValue0
 t2:=Tryz.underlying2
 a2:=Tryz.isAgg2
 z2:=Tryz.sizeOf2
 v2:=Tryz.zeroValue2
 t3:=Tryz.underlying3
 a3:=Tryz.isAgg3
 z3:=Tryz.sizeOf3
 v3:=Tryz.zeroValue3
 t4:=Tryz.underlying4
 a4:=Tryz.isAgg4
 z4:=Tryz.sizeOf4
 v4:=Tryz.zeroValue4
 t5:=Tryz.underlying5
 a5:=Tryz.isAgg5
 z5:=Tryz.sizeOf5
 v5:=Tryz.zeroValue5
 t9:=Tryz.underlying9
 a9:=Tryz.isAgg9
 z9:=Tryz.sizeOf9
 v9:=Tryz.zeroValue9
 t20:=Tryz.underlying20
 a20:=Tryz.isAgg20
 z20:=Tryz.sizeOf20
 v20:=Tryz.zeroValue20
 t21:=Tryz.underlying21
 a21:=Tryz.isAgg21
 z21:=Tryz.sizeOf21
 v21:=Tryz.zeroValue21
 t37:=Tryz.underlying51
 a37:=Tryz.isAgg51
 z37:=Tryz.sizeOf51
 v37:=Tryz.zeroValue51
 t46:=Tryz.underlying153
 a46:=Tryz.isAgg153
 z46:=Tryz.sizeOf153
 v46:=Tryz.zeroValue153
 t51:=Tryz.underlying168
 a51:=Tryz.isAgg168
 z51:=Tryz.sizeOf168
 v51:=Tryz.zeroValue168
 t53:=Tryz.underlying163
 a53:=Tryz.isAgg163
 z53:=Tryz.sizeOf163
 v53:=Tryz.zeroValue163
 t75:=Tryz.underlying85
 a75:=Tryz.isAgg85
 z75:=Tryz.sizeOf85
 v75:=Tryz.zeroValue85
 t76:=Tryz.underlying86
 a76:=Tryz.isAgg86
 z76:=Tryz.sizeOf86
 v76:=Tryz.zeroValue86
 t85:=Tryz.underlying175
 a85:=Tryz.isAgg175
 z85:=Tryz.sizeOf175
 v85:=Tryz.zeroValue175
 t127:=Tryz.underlying121
 a127:=Tryz.isAgg121
 z127:=Tryz.sizeOf121
 v127:=Tryz.zeroValue121
 t143:=Tryz.underlying199
 a143:=Tryz.isAgg199
 z143:=Tryz.sizeOf199
 v143:=Tryz.zeroValue199
 t145:=Tryz.underlying201
 a145:=Tryz.isAgg201
 z145:=Tryz.sizeOf201
 v145:=Tryz.zeroValue201
 t167:=Tryz.underlying174
 a167:=Tryz.isAgg174
 z167:=Tryz.sizeOf174
 v167:=Tryz.zeroValue174
 t168:=Tryz.underlying177
 a168:=Tryz.isAgg177
 z168:=Tryz.sizeOf177
 v168:=Tryz.zeroValue177
 t171:=Tryz.underlying162
 a171:=Tryz.isAgg162
 z171:=Tryz.sizeOf162
 v171:=Tryz.zeroValue162
 t173:=Tryz.underlying166
 a173:=Tryz.isAgg166
 z173:=Tryz.sizeOf166
 v173:=Tryz.zeroValue166
 t175:=Tryz.underlying186
 a175:=Tryz.isAgg186
 z175:=Tryz.sizeOf186
 v175:=Tryz.zeroValue186
 t210:=Tryz.underlying190
 a210:=Tryz.isAgg190
 z210:=Tryz.sizeOf190
 v210:=Tryz.zeroValue190
 t212:=Tryz.underlying181
 a212:=Tryz.isAgg181
 z212:=Tryz.sizeOf181
 v212:=Tryz.zeroValue181
 t213:=Tryz.underlying182
 a213:=Tryz.isAgg182
 z213:=Tryz.sizeOf182
 t232:=Tryz.underlying202
 a232:=Tryz.isAgg202
 z232:=Tryz.sizeOf202
 v232:=Tryz.zeroValue202
 t233:=Tryz.underlying203
 a233:=Tryz.isAgg203
 z233:=Tryz.sizeOf203
 v233:=Tryz.zeroValue203
 g15:=by kernel_rfl
 g16:=by kernel_rfl
 g17:=by kernel_rfl
 g18:=by kernel_rfl
 g19:=by kernel_rfl
 t80:=Tryz.underlying90
 a80:=Tryz.isAgg90
 z80:=Tryz.sizeOf90
 v80:=Tryz.zeroValue90
 i0:=by kernel_rfl
 i2:=by kernel_rfl
 i3:=by kernel_rfl
 i4:=by kernel_rfl
 i5:=by kernel_rfl
 i9:=by kernel_rfl
 i20:=by kernel_rfl
 i21:=by kernel_rfl
 i37:=by kernel_rfl
 i46:=by kernel_rfl
 i51:=by kernel_rfl
 i53:=by kernel_rfl
 i75:=by kernel_rfl
 i76:=by kernel_rfl
 i80:=by kernel_rfl
 i85:=by kernel_rfl
 i127:=by kernel_rfl
 i143:=by kernel_rfl
 i145:=by kernel_rfl
 i167:=by kernel_rfl
 i168:=by kernel_rfl
 i171:=by kernel_rfl
 i173:=by kernel_rfl
 i175:=by kernel_rfl
 i210:=by kernel_rfl
 i212:=by kernel_rfl
 i232:=by kernel_rfl
 i233:=by kernel_rfl
 m15:=by kernel_rfl
 m16:=by kernel_rfl
 m17:=by kernel_rfl
 m18:=by kernel_rfl
 m19:=by kernel_rfl
 c0:=by kernel_rfl
 c2:=by kernel_rfl
 c3:=by kernel_rfl
 c4:=by kernel_rfl
 c5:=by kernel_rfl
 c9:=by kernel_rfl
 c20:=by kernel_rfl
 c21:=by kernel_rfl
 c37:=by kernel_rfl
 c46:=by kernel_rfl
 c51:=by kernel_rfl
 c53:=by kernel_rfl
 c75:=by kernel_rfl
 c76:=by kernel_rfl
 c80:=by kernel_rfl
 c85:=by kernel_rfl
 c127:=by kernel_rfl
 c143:=by kernel_rfl
 c145:=by kernel_rfl
 c167:=by kernel_rfl
 c168:=by kernel_rfl
 c171:=by kernel_rfl
 c173:=by kernel_rfl
 c175:=by kernel_rfl
 c210:=by kernel_rfl
 c212:=by kernel_rfl
 c213:=by kernel_rfl
 c232:=by kernel_rfl
 c233:=by kernel_rfl }
open Go.RowKit in
theorem Tryz.strconv_Atoi_ok (s:ByteArray) (hmax:s.size≤9223372036854775806) (v:Int) (h:Lib.atoiAll s.data.toList=.ok v) (w:World) :
  Calls Tryz.prog 143 #[.string s] w fun e w'=>e=.returned (.tuple #[.int .i64 v,.nilIface])∧(w'=w∨∃t,w'=Lib.bytesWorld w 5 t):=Any.strconv_Atoi_ok Tryz.laysC172 s hmax v h w
set_option maxHeartbeats 1000000
set_option maxRecDepth 100000
open Go Go.Ab Go.RowKit
variable {G:IH}
def digS:ByteArray:={ data:=#[48,49,50,51,52,53,54,55,56,57] }
def preS (p s:ByteArray):ByteArray:=bs (Lib.trimPrefix s.data.toList p.data.toList)
def preB (p s:ByteArray):Bool:=Lib.hasPrefix s.data.toList p.data.toList
def trimD (s:ByteArray):ByteArray:=bs (Lib.trimS s.data.toList digSet)
def dgN (s:ByteArray) (m:Int):Int:=((dgO s.data.toList m.toNat).getD 0:Nat)
def dgB (s:ByteArray) (m:Int):Bool:=(dgO s.data.toList m.toNat).isSome
def orcFp:Oracle:=fun f args=>match f,args with
 | 140,[.con (.string s),.con (.string p)]=>some (di (cI p s))
 | 132,[.con (.string s),.con (.string p)]=>some (.tup [ds (cD p s),ds (cR p s),db (cB p s)])
 | 114,[.con (.string s),.con (.string p)]=>some (.tup [ds (cD p s),ds (cR p s),db (cB p s)])
 | 125,[.con (.string s),.con (.string p)]=>some (.tup [ds (preS p s),db (preB p s)])
 | 142,[.con (.string s),.con (.string _)]=>some (ds (trimD s))
 | 143,[.con (.string s)]=>some (.tup [di (valD s.data.toList:Nat),.con .nilIface])
 | 136,[.con (.string s),.con (.int .i64 m)]=>some (.tup [di (dgN s m),db (dgB s m)])
 | _,_=>none
theorem tup2_of_con {P:Program} {f:FuncId} {xs:List DV} {a b:Value} (h:FnOK P G f xs (.con (.tuple #[a,b]))):FnOK P G f xs (.tup [.con a,.con b]):=by
 refine⟨h.1,fun w k us hG hw hu=>(h.2 w k us hG hw hu).mono ?_⟩
 rintro e w' ⟨v,h',he,hv,rest⟩
 have hv:v=.tuple #[a,b]:=hv
 subst hv
 exact⟨_,h',he,⟨[a,b],rfl,_,_,rfl,rfl,_,_,rfl,rfl,rfl⟩,rest⟩
theorem f125 (s p:ByteArray):FnOK Tryz.prog G 125 [ds s,ds p] (.tup [ds (preS p s),db (preB p s)]):=by
 refine tup2_of_con (FnOK.of_calls (args:=[.string s,.string p]) (v:=.tuple #[_,_]) Tryz.call125 fun w _=>?_)
 refine Calls.mono (Tryz.strings_CutPrefix s p w) ?_
 rintro e w' ⟨he,rfl⟩
 exact⟨he,Below.refl _ _⟩
theorem f142 (s:ByteArray) (hs:s.size≤1000000):FnOK Tryz.prog G 142 [ds s,ds digS] (ds (trimD s)):=by
 refine FnOK.of_calls (args:=[.string s,.string digS]) (v:=.string _) Tryz.call142 fun w _=>?_
 refine Calls.mono (Any.strings_Trim_laid Tryz.lays160 (by kernel_rfl) s digS w (by omega) (by decide) (ascii_of_all (by decide))) ?_
 rintro e w' ⟨he,hb⟩
 exact⟨he,hb⟩
theorem f143 (s:ByteArray) (hs:s.size≤18) (h0:s.data.toList≠[]) (hd:∀c∈s.data.toList,isD c):FnOK Tryz.prog G 143 [ds s] (.tup [di (valD s.data.toList:Nat),.con .nilIface]):=by
 refine tup2_of_con (FnOK.of_calls (args:=[.string s]) (v:=.tuple #[.int .i64 _,.nilIface]) Tryz.call143 fun w _=>?_)
 refine Calls.mono (Tryz.strconv_Atoi_ok s (by omega) _ (atoi_digits h0 hd (by rw[size_list];exact hs)) w) ?_
 rintro e w' ⟨he,hb⟩
 refine⟨he,?_⟩
 rcases hb with rfl|⟨t,rfl⟩
 ·exact Below.refl _ _
 ·exact Lib.bytesWorld_below _ _ _
theorem f136 (s:ByteArray) (m:Nat) (hm:m≤18) (hs:s.size≤1000000):FnOK Tryz.prog G 136 [ds s,di m] (.tup [di (dgN s m),db (dgB s m)]):=by
 refine FnOK.walk (orc:=orcFp) (keep:=[]) follows Tryz.func136 rfl Tryz.call136 ?_
 refine of_tr (fun _ _ _ ZK=>(fun Za=>((((!(s.toList==(ByteArray.mk #[]).toList||decide ((↑s.size:Int)>↑m)))=true)→ZK 142 [(ds s),(ds (ByteArray.mk #[48,49,50,51,52,53,54,55,56,57]))] (ds (trimD s)))∧((Za=true)→(((.tup [(di 0),(db false)]):DV)=(.tup [(di (dgN s ↑m)),(db (dgB s ↑m))])))∧((Za=false)→(ZK 143 [(ds s)] (.tup [(di (↑(valD s.data.toList))),(.con .nilIface)])∧((.tup [(di (↑(valD s.data.toList))),(db true)]):DV)=(.tup [(di (dgN s ↑m)),(db (dgB s ↑m))]))))) (s.toList==(ByteArray.mk #[]).toList||decide ((↑s.size:Int)>↑m)||!(trimD s).toList==(ByteArray.mk #[]).toList)) (by kernel_rfl) ?_
 try dsimp only
 have hsl:=size_list s
 have hempty:(ByteArray.toList s==ByteArray.toList { data:=#[] })=decide (s.size=0):=by
  rw[toList_beq]
  refine decide_eq_decide.2 ⟨fun h=>by rw[h];rfl,fun h=>?_⟩
  have hn:s.data.toList=[]:=List.eq_nil_of_length_eq_zero (by rw[hsl];exact h)
  rw[←bs_toList s,hn];rfl
 have htrim:(ByteArray.toList (trimD s)==ByteArray.toList { data:=#[] })=s.data.toList.all isDb:=by
  rw[toList_beq,Bool.eq_iff_iff,decide_eq_true_iff,←trim_digits]
  unfold trimD
  refine⟨fun h=>bs_inj (m:=[]) h,fun h=>by rw[h];rfl⟩
 have hO:dgO s.data.toList m=if s.size=0∨m<s.size∨s.data.toList.all isDb=false then none else some (valD s.data.toList):=by
  unfold dgO
  rw[hsl]
  by_cases h:1≤s.size∧s.size≤m∧s.data.toList.all isDb=true
  ·rw[if_pos h,if_neg]
   rintro (h1|h1|h1)
   ·omega
   ·omega
   ·rw[h.2.2] at h1;cases h1
  ·rw[if_neg h,if_pos]
   rcases Nat.eq_zero_or_pos s.size with h1|h1
   ·exact .inl h1
   ·rcases Nat.lt_or_ge m s.size with h2|h2
    ·exact .inr (.inl h2)
    ·refine .inr (.inr ?_)
     rw[Bool.eq_false_iff]
     exact fun h3=>h ⟨h1,h2,h3⟩
 rw[hempty,htrim]
 unfold dgN dgB
 rw[Int.toNat_natCast,hO]
 refine⟨fun _=>f142 s hs,fun h=>?_,fun h=>?_⟩
 ·have h:s.size=0∨m<s.size∨s.data.toList.all isDb=false:=by
   simp only[Bool.or_eq_true,decide_eq_true_eq,Bool.not_eq_true'] at h
   rcases h with (h|h)|h
   ·exact .inl h
   ·exact .inr (.inl (by omega))
   ·exact .inr (.inr h)
  rw[if_pos h];rfl
 ·have h:¬(s.size=0∨m<s.size∨s.data.toList.all isDb=false):=by
   simp only[Bool.or_eq_false_iff,decide_eq_false_iff_not,Bool.not_eq_false'] at h
   rintro (h1|h1|h1)
   ·exact h.1.1 h1
   ·exact h.1.2 (by omega)
   ·rw[h.2] at h1;cases h1
  rw[if_neg h]
  have h3:s.data.toList.all isDb=true:=by
   cases hq:s.data.toList.all isDb with
   | true=>rfl
   | false=>exact absurd (.inr (.inr hq)) h
  refine⟨f143 s (by omega) (fun e=>h (.inl ?_)) (fun c hc=>(isDb_iff c).1 (List.all_eq_true.1 h3 c hc)),rfl⟩
  rw[←hsl,e];rfl
def slash:ByteArray:={ data:=#[47] }
def dot:ByteArray:={ data:=#[46] }
def pR (s:ByteArray):Int×Int×Bool:=
 if cB slash s then (dgN (cD slash s) 10,dgN (cR slash s) 7,dgB (cD slash s) 10&&dgB (cR slash s) 7)
 else if cB dot s then (dgN (cD dot s) 10*10 ^ (min (cR dot s).size 7)+dgN (cR dot s) 6,10 ^ (min (cR dot s).size 7),dgB (cD dot s) 10&&dgB (cR dot s) 6)
 else (dgN (cD dot s) 10,1,dgB (cD dot s) 10)
theorem dgN_bd (s:ByteArray) (m:Nat):0≤dgN s m∧dgN s m<((10 ^ m:Nat):Int):=by
 unfold dgN dgO
 rw[Int.toNat_natCast]
 have hp:0<10 ^ m:=Nat.pow_pos (by decide)
 split
 ·rename_i h
  have h1:=valD_ltN _ _ rfl fun c hc=>(isDb_iff c).1 (List.all_eq_true.1 h.2.2 c hc)
  have h2:(10:Nat) ^ s.data.toList.length≤10 ^ m:=Nat.pow_le_pow_right (by decide) h.2.1
  rw[Option.getD_some]
  omega
 ·rw[Option.getD_none];omega
noncomputable def S126 (s:ByteArray) (i:Nat):AS:=⟨regs Tryz.f126.ntmps [(15,vi (dgN (cD dot s) 10)),(16,vb (dgB (cD dot s) 10)),(17,vi (dgN (cR dot s) 6)),(18,vb (dgB (cR dot s) 6)),(19,vi ((10 ^ i:Nat):Int)),(64,vi (cR dot s).size),(65,vi i)],[]⟩
theorem pow_le7 {i:Nat} (h:i≤7):10 ^ i≤10000000:=Nat.pow_le_pow_right (by decide) h
theorem f126 (s:ByteArray) (hs:s.size≤1000000):FnOK Tryz.prog G 126 [ds s] (.tup [di (pR s).1,di (pR s).2.1,db (pR s).2.2]):=by
 refine FnOK.walk (orc:=orcFp) (keep:=[]) follows Tryz.func126 rfl Tryz.call126 ?_
 refine of_tr (fun ZT ZW ZQ ZK=>(ZK 114 [(ds s),(ds (ByteArray.mk #[47]))] (.tup [(ds (cD (ByteArray.mk #[47]) s)),(ds (cR (ByteArray.mk #[47]) s)),(db (cB (ByteArray.mk #[47]) s))])∧(((cB (ByteArray.mk #[47]) s)=true)→(ZK 136 [(ds (cD (ByteArray.mk #[47]) s)),(di 10)] (.tup [(di (dgN (cD (ByteArray.mk #[47]) s) 10)),(db (dgB (cD (ByteArray.mk #[47]) s) 10))])∧ZK 136 [(ds (cR (ByteArray.mk #[47]) s)),(di 7)] (.tup [(di (dgN (cR (ByteArray.mk #[47]) s) 7)),(db (dgB (cR (ByteArray.mk #[47]) s) 7))])∧((.tup [(di (dgN (cD (ByteArray.mk #[47]) s) 10)),(di (dgN (cR (ByteArray.mk #[47]) s) 7)),(db (dgB (cD (ByteArray.mk #[47]) s) 10&&dgB (cR (ByteArray.mk #[47]) s) 7))]):DV)=(.tup [(di (pR s).fst),(di (pR s).snd.fst),(db (pR s).snd.snd)])))∧(((cB (ByteArray.mk #[47]) s)=false)→(ZK 114 [(ds s),(ds (ByteArray.mk #[46]))] (.tup [(ds (cD (ByteArray.mk #[46]) s)),(ds (cR (ByteArray.mk #[46]) s)),(db (cB (ByteArray.mk #[46]) s))])∧ZK 136 [(ds (cD (ByteArray.mk #[46]) s)),(di 10)] (.tup [(di (dgN (cD (ByteArray.mk #[46]) s) 10)),(db (dgB (cD (ByteArray.mk #[46]) s) 10))])∧(((!cB (ByteArray.mk #[46]) s)=true)→(((.tup [(di (dgN (cD (ByteArray.mk #[46]) s) 10)),(di 1),(db (dgB (cD (ByteArray.mk #[46]) s) 10))]):DV)=(.tup [(di (pR s).fst),(di (pR s).snd.fst),(db (pR s).snd.snd)])))∧(((!cB (ByteArray.mk #[46]) s)=false)→(ZK 136 [(ds (cR (ByteArray.mk #[46]) s)),(di 6)] (.tup [(di (dgN (cR (ByteArray.mk #[46]) s) 6)),(db (dgB (cR (ByteArray.mk #[46]) s) 6))])∧ZW [cd Tryz.f126 [1,1,1,1,1,1,1,0,1,0],(.blk 0),cd Tryz.f126 [1,1,1,1,1,1,1,1]] (stS ZT [1,1]) ZQ)))))) (by kernel_rfl) ?_
 have hRs:∀p,(cR p s).size≤s.size:=fun p=>by
  unfold cR;split
  ·rw[ByteArray.size_extract];omega
  ·exact Nat.zero_le _
 have hDs:∀p,(cD p s).size≤s.size:=fun p=>by
  unfold cD;split
  ·rw[ByteArray.size_extract];omega
  ·exact Nat.le_refl _
 have r1:=hRs slash
 have r2:=hRs dot
 have r3:=hDs slash
 have r4:=hDs dot
 refine⟨f114 s 47 hs,fun h=>⟨f136 _ 10 (by omega) (by show (cD slash s).size≤_;omega),f136 _ 7 (by omega) (by show (cR slash s).size≤_;omega),?_⟩,fun h=>⟨f114 s 46 hs,f136 _ 10 (by omega) (by show (cD dot s).size≤_;omega),fun h2=>?_,fun h2=>⟨f136 _ 6 (by omega) (by show (cR dot s).size≤_;omega),?_⟩⟩⟩
 ·have h:cB slash s=true:=h
  unfold pR
  rw[if_pos h];rfl
 ·have h:cB slash s=false:=h
  have h2':(!cB dot s)=true:=h2
  have h2:cB dot s=false:=by simpa using h2'
  unfold pR
  rw[h,h2];rfl
 ·have h:cB slash s=false:=h
  have h2':(!cB dot s)=false:=h2
  have h2:cB dot s=true:=by simpa using h2'
  have hpr:pR s=(dgN (cD dot s) 10*10 ^ (min (cR dot s).size 7)+dgN (cR dot s) 6,10 ^ (min (cR dot s).size 7),dgB (cD dot s) 10&&dgB (cR dot s) 6):=by
   unfold pR
   rw[h,h2];rfl
  obtain ⟨a0,a1⟩:=dgN_bd (cD dot s) 10
  obtain ⟨b0,b1⟩:=dgN_bd (cR dot s) 6
  refine AWP.loop (c:=cAt (bodyOf Tryz.f126) [1,1,1,1,1,1,1,0,1,0,0]) (by kernel_rfl) (S126 s) (fun i=>i≤(cR dot s).size∧i≤6) (fun i=>(cR dot s).size-i) 0 ?_ ⟨Nat.zero_le _,Nat.zero_le _⟩ ?_
  ·refine AS.leZ [0,
 1,
 2,
 3] [] (b:=((((vi (dgN (cD (ByteArray.mk #[46]) s) 10)):AV)=(vi (dgN (cD dot s) 10))∧((vb (dgB (cD (ByteArray.mk #[46]) s) 10)):AV)=(vb (dgB (cD dot s) 10))∧((vi (dgN (cR (ByteArray.mk #[46]) s) 6)):AV)=(vi (dgN (cR dot s) 6))∧((vb (dgB (cR (ByteArray.mk #[46]) s) 6)):AV)=(vb (dgB (cR dot s) 6))∧T0∧T0∧T0∧True)∧True)) (by kernel_rfl) (by kernel_rfl) ?_
   exact⟨⟨rfl,rfl,rfl,rfl,rfl,rfl,rfl,trivial⟩,trivial⟩
  ·rintro i ⟨hi,hi6⟩
   refine walk (orc:=orcFp) (keep:=[]) (cuts:=[]) (n:=1000) follows ?_
   refine of_rd (fun ZT ZW ZQ _ ZA _=>((((decide ((↑i:Int)<↑(cR dot s).size))=true)→((I64 ((↑((10:Nat) ^ i):Int)*(10:Int)))∧(((decide ((↑((10:Nat) ^ i):Int)*(10:Int)>(1000000:Int)))=true)→ZW [cd Tryz.f126 [1,1,1,1,1,1,1,1]] (stS ZT [0,0]) ZQ)∧(((decide ((↑((10:Nat) ^ i):Int)*(10:Int)>(1000000:Int)))=false)→((I64 (↑i+1))∧(ZA (stS ZT [0,1]))))))∧(((decide ((↑i:Int)<↑(cR dot s).size))=false)→ZW [cd Tryz.f126 [1,1,1,1,1,1,1,1]] (stS ZT [1]) ZQ))) (by kernel_rfl) ?_
   have hp1:0<10 ^ i:=Nat.pow_pos (by decide)
   have hp2:=pow_le7 (i:=i) (by omega)
   have hps:10 ^ (i+1)=10 ^ i*10:=Nat.pow_succ ..
   have e10:((10 ^ 10:Nat):Int)=10000000000:=by decide
   have e6:((10 ^ 6:Nat):Int)=1000000:=by decide
   have e10':(10:Nat) ^ 10=10000000000:=by decide
   have e6':(10:Nat) ^ 6=1000000:=by decide
   rw[e10'] at a1
   rw[e6'] at b1
   have a0:0≤dgN (cD dot s) 10:=a0
   have b0:0≤dgN (cR dot s) 6:=b0
   have a1:dgN (cD dot s) 10<10000000000:=a1
   have b1:dgN (cR dot s) 6<1000000:=b1
   have fin:∀D:Nat,D≤100000000→D=10 ^ (min (cR dot s).size 7)→(I64 (dgN (cD dot s) 10*(D:Int))∧I64 (dgN (cD dot s) 10*(D:Int)+dgN (cR dot s) 6))∧(DV.tup [di (dgN (cD dot s) 10*(D:Int)+dgN (cR dot s) 6),di (D:Int),db (dgB (cD dot s) 10&&dgB (cR dot s) 6)])=.tup [di (pR s).1,di (pR s).2.1,db (pR s).2.2]:=by
    intro D hD hDe
    have hm:0≤dgN (cD dot s) 10*(D:Int):=Int.mul_nonneg a0 (by omega)
    have hm2:dgN (cD dot s) 10*(D:Int)≤10000000000*100000000:=Int.mul_le_mul (by omega) (by omega) (by omega) (by omega)
    refine⟨⟨⟨by omega,by omega⟩,by omega,by omega⟩,?_⟩
    rw[hpr,hDe]
    simp only[Int.natCast_pow]
    rfl
   refine⟨fun h3=>⟨⟨by omega,by omega⟩,fun h4=>?_,fun h4=>?_⟩,fun h3=>?_⟩
   ·have h3:i<(cR dot s).size:=by simp at h3;omega
    have h4:1000000<10 ^ i*10:=by simp only[decide_eq_true_eq] at h4;omega
    have hi6':i=6:=by
     rcases Nat.lt_or_ge i 6 with h5|h5
     ·have:10 ^ i≤10 ^ 5:=Nat.pow_le_pow_right (by decide) (by omega)
      have e5:(10:Nat) ^ 5=100000:=by decide
      omega
     ·omega
    subst hi6'
    refine walk (orc:=orcFp) (keep:=[]) (cuts:=[]) (n:=1000) follows ?_
    refine of_tr (fun _ _ _ _=>(((I64 (dgN (cD dot s) 10*10000000))∧(I64 (dgN (cD dot s) 10*10000000+dgN (cR dot s) 6)))∧((.tup [(di (dgN (cD dot s) 10*10000000+dgN (cR dot s) 6)),(di 10000000),(db (dgB (cD dot s) 10&&dgB (cR dot s) 6))]):DV)=(.tup [(di (pR s).fst),(di (pR s).snd.fst),(db (pR s).snd.snd)]))) (by kernel_rfl) ?_
    have:=fin 10000000 (by decide) (by rw[Nat.min_eq_right (by omega)])
    exact this
   ·have h3:i<(cR dot s).size:=by simp at h3;omega
    have h4:10 ^ i*10≤1000000:=by simp only[decide_eq_false_iff_not] at h4;omega
    refine⟨⟨by omega,by omega⟩,Again.mk (i+1) ?_ ⟨by omega,?_⟩ (by omega)⟩
    ·refine AS.leZ [4] [] (b:=((T0∧T0∧T0∧T0∧((vi ((↑((10:Nat) ^ i):Int)*(10:Int))):AV)=(vi ((↑((10:Nat) ^ (i+(1:Nat))):Int)))∧T0∧T0∧True)∧True)) (by kernel_rfl) (by kernel_rfl) ?_
     refine⟨⟨rfl,rfl,rfl,rfl,?_,rfl,rfl,trivial⟩,trivial⟩
     rw[hps];rfl
    ·rcases Nat.lt_or_ge i 6 with h5|h5
     ·omega
     ·have:i=6:=by omega
      subst this
      exact absurd h4 (by decide)
   ·have h3:i=(cR dot s).size:=by simp at h3;omega
    refine walk (orc:=orcFp) (keep:=[]) (cuts:=[]) (n:=1000) follows ?_
    refine of_tr (fun _ _ _ _=>(fun Za=>(((I64 (dgN (cD dot s) (10:Int)*(↑((10:Nat) ^ i):Int)))∧(I64 Za))∧((.tup [(di Za),(di ((↑((10:Nat) ^ i):Int))),(db (dgB (cD dot s) 10&&dgB (cR dot s) 6))]):DV)=(.tup [(di (pR s).fst),(di (pR s).snd.fst),(db (pR s).snd.snd)]))) (dgN (cD dot s) (10:Int)*(↑((10:Nat) ^ i):Int)+dgN (cR dot s) (6:Int))) (by kernel_rfl) ?_
    try dsimp only
    have:=fin (10 ^ i) (by omega) (by rw[←h3,Nat.min_eq_left (by omega)])
    exact this
open Go Go.Ab
theorem cut_list {s:ByteArray} {c:UInt8} (h:cB ⟨#[c]⟩ s=true):s.data.toList=(cD ⟨#[c]⟩ s).data.toList++c :: (cR ⟨#[c]⟩ s).data.toList:=by
 have h1:0≤cI ⟨#[c]⟩ s:=by simpa [cB] using h
 obtain ⟨k,hk⟩:=Int.eq_ofNat_of_zero_le h1
 obtain ⟨h4,_⟩:=Lib.indexByte_some (show Lib.indexByte s.data.toList c=(k:Int) from hk)
 obtain ⟨h5,h6⟩:=List.getElem?_eq_some_iff.1 h4
 have hD:(cD ⟨#[c]⟩ s).data.toList=s.data.toList.take k:=by
  unfold cD
  rw[if_pos h1,hk,Int.toNat_natCast,extract_list,List.drop_zero,Nat.sub_zero]
 have hR:(cR ⟨#[c]⟩ s).data.toList=s.data.toList.drop (k+1):=by
  unfold cR
  rw[if_pos h1,hk,show Int.toNat ((k:Int)+1)=k+1 by omega,extract_list,List.take_of_length_le (by rw[List.length_drop,size_list];omega)]
 have e:s.data.toList.drop k=c :: s.data.toList.drop (k+1):=by
  rw[List.drop_eq_getElem_cons h5,h6]
 rw[hD,hR,←e,List.take_append_drop]
theorem cut_none {s:ByteArray} {c:UInt8} (h:cB ⟨#[c]⟩ s=false):c∉s.data.toList∧cD ⟨#[c]⟩ s=s:=by
 have h1:¬0≤cI ⟨#[c]⟩ s:=by simpa [cB] using h
 refine⟨fun hm=>?_,by unfold cD;rw[if_neg h1]⟩
 have hge:-1≤cI ⟨#[c]⟩ s:=Lib.indexByte_ge s.data.toList c
 have hn:Lib.indexByte s.data.toList c = -1:=by
  have:cI ⟨#[c]⟩ s = -1:=by omega
  exact this
 obtain ⟨k,hk,rfl⟩:=List.getElem_of_mem hm
 exact Lib.indexByte_none hn k (gEe hk)
theorem dgO_len {l:List UInt8} {m a:Nat} (h:dgO l m=some a):l.length≤m:=by
 unfold dgO at h
 split at h
 ·rename_i h2;exact h2.2.1
 ·cases h
theorem dg_some {s:ByteArray} {m:Nat} {a:Nat} (h:dgO s.data.toList m=some a):dgN s m=a∧dgB s m=true:=by
 unfold dgN dgB
 rw[Int.toNat_natCast,h];exact⟨rfl,rfl⟩
theorem dg_none {s:ByteArray} {m:Nat} (h:dgO s.data.toList m=none):dgB s m=false:=by
 unfold dgB
 rw[Int.toNat_natCast,h];rfl
theorem pR_law (s:ByteArray):(pR s).2.2=(partsO s.data.toList).isSome∧∀a b,partsO s.data.toList=some (a,b)→(pR s).1=a∧(pR s).2.1=b:=by
 unfold pR
 cases h1:cB slash s with
 | true=>
  rw[if_pos rfl,cut_list (c:=47) h1,parts_slash]
  cases hw:dgO (cD ⟨#[47]⟩ s).data.toList 10 with
  | none=>
   have:=dg_none hw
   refine⟨?_,fun a b h=>by cases h⟩
   show (dgB (cD slash s) (10:Nat)&&_)=_
   rw[show cD slash s=cD ⟨#[47]⟩ s from rfl,this];rfl
  | some a=>
   obtain ⟨w1,w2⟩:=dg_some hw
   cases hr:dgO (cR ⟨#[47]⟩ s).data.toList 7 with
   | none=>
    have:=dg_none hr
    refine⟨?_,fun a b h=>by cases h⟩
    show (_&&dgB (cR slash s) (7:Nat))=_
    rw[show cR slash s=cR ⟨#[47]⟩ s from rfl,this,Bool.and_false];rfl
   | some b=>
    obtain ⟨r1,r2⟩:=dg_some hr
    refine⟨?_,fun a' b' h=>?_⟩
    ·show (dgB (cD ⟨#[47]⟩ s) (10:Nat)&&dgB (cR ⟨#[47]⟩ s) (7:Nat))=true
     rw[w2,r2];rfl
    ·simp at h
     rw[←h.1,←h.2]
     exact⟨w1,r1⟩
 | false=>
  rw[if_neg (by simp)]
  obtain ⟨n1,_⟩:=cut_none (c:=47) h1
  cases h2:cB dot s with
  | true=>
   rw[if_pos rfl,cut_list (c:=46) h2,parts_dot]
   cases hw:dgO (cD ⟨#[46]⟩ s).data.toList 10 with
   | none=>
    have:=dg_none hw
    refine⟨?_,fun a b h=>by cases h⟩
    show (dgB (cD dot s) (10:Nat)&&_)=_
    rw[show cD dot s=cD ⟨#[46]⟩ s from rfl,this];rfl
   | some a=>
    obtain ⟨w1,w2⟩:=dg_some hw
    cases hr:dgO (cR ⟨#[46]⟩ s).data.toList 6 with
    | none=>
     have:=dg_none hr
     refine⟨?_,fun a b h=>by cases h⟩
     show (_&&dgB (cR dot s) (6:Nat))=_
     rw[show cR dot s=cR ⟨#[46]⟩ s from rfl,this,Bool.and_false];rfl
    | some b=>
     obtain ⟨r1,r2⟩:=dg_some hr
     have hl:=dgO_len hr
     have hm:min (cR dot s).size 7=(cR ⟨#[46]⟩ s).data.toList.length:=by
      rw[size_list] at hl⊢
      exact Nat.min_eq_left (by show (cR ⟨#[46]⟩ s).size≤7;omega)
     refine⟨?_,fun a' b' h=>?_⟩
     ·show (dgB (cD ⟨#[46]⟩ s) (10:Nat)&&dgB (cR ⟨#[46]⟩ s) (6:Nat))=true
      rw[w2,r2];rfl
     ·simp only[Option.bind_some,Option.map_some,oSi,pMi] at h
      rw[←h.1,←h.2]
      refine⟨?_,?_⟩
      ·show dgN (cD ⟨#[46]⟩ s) (10:Nat)*10 ^ (min (cR dot s).size 7)+dgN (cR ⟨#[46]⟩ s) (6:Nat)=_
       rw[w1,r1,hm];push_cast;rfl
      ·show (10:Int) ^ (min (cR dot s).size 7)=_
       rw[hm];push_cast;rfl
  | false=>
   rw[if_neg (by simp)]
   obtain ⟨n2,e2⟩:=cut_none (c:=46) h2
   have e2:cD dot s=s:=e2
   rw[parts_whole n1 n2,e2]
   cases hw:dgO s.data.toList 10 with
   | none=>exact⟨dg_none hw,fun a b h=>by cases h⟩
   | some a=>
    obtain ⟨w1,w2⟩:=dg_some hw
    refine⟨w2,fun a' b' h=>?_⟩
    simp at h
    rw[←h.1,←h.2]
    exact⟨w1,rfl⟩
def minus:ByteArray:={ data:=#[45] }
def orcFq:Oracle:=fun f args=>match f,args with
 | 125,[.con (.string s),.con (.string p)]=>some (.tup [ds (preS p s),db (preB p s)])
 | 126,[.con (.string s)]=>some (.tup [di (pR s).1,di (pR s).2.1,db (pR s).2.2])
 | 127,[.con (.int .i64 a),.con (.int .i64 b)]=>some (fe (red a b))
 | 109,[.con (.int .i64 a),.con (.int .i64 b)]=>some (fe (red a b))
 | _,_=>none
theorem restO_bd {D R:List UInt8} {a b:Nat} (hD:valD D<10000000000) (h:restO D R=some (a,b)):a<100000000000000000∧b<100000000:=by
 have hdg:∀(l:List UInt8) (m x:Nat),m≤7→dgO l m=some x→x<10000000∧l.length≤m:=by
  intro l m x hm h
  have hl:=dgO_len h
  unfold dgO at h
  split at h
  ·rename_i h2
   injection h with h
   have h1:=valD_ltN _ _ rfl fun c hc=>(isDb_iff c).1 (List.all_eq_true.1 h2.2.2 c hc)
   have h3:=pow_le7 (i:=l.length) (by omega)
   omega
  ·cases h
 cases R with
 | nil=>simp[restO] at h;omega
 | cons c T=>
  have e:restO D (c :: T)=if c=47 then (dgO T 7).map fun b=>(valD D,b) else if c=46 then (dgO T 6).map fun b=>(valD D*10 ^ T.length+b,10 ^ T.length) else none:=rfl
  rw[e] at h
  split at h
  ·cases hq:dgO T 7 with
   | none=>rw[hq] at h;cases h
   | some x=>
    rw[hq] at h
    simp at h
    have:=hdg T 7 x (by omega) hq
    omega
  ·split at h
   ·cases hq:dgO T 6 with
    | none=>rw[hq] at h;cases h
    | some x=>
     rw[hq] at h
     simp only[Option.map_some,oSi,pMi] at h
     have h1:=hdg T 6 x (by omega) hq
     have h3:10 ^ T.length≤10 ^ 6:=Nat.pow_le_pow_right (by decide) h1.2
     have e6:(10:Nat) ^ 6=1000000:=by decide
     have h4:valD D*10 ^ T.length≤10000000000*1000000:=Nat.mul_le_mul (by omega) (by omega)
     omega
   ·cases h
theorem partsO_bd {S:List UInt8} {a b:Nat} (h:partsO S=some (a,b)):a<100000000000000000∧b<100000000:=by
 unfold partsO at h
 split at h
 ·rename_i h2
  refine restO_bd ?_ h
  have h1:=valD_ltN _ _ rfl fun c hc=>(isDb_iff c).1 (spl_digits S c hc)
  have h3:10 ^ (spl S).1.length≤10 ^ 10:=Nat.pow_le_pow_right (by decide) h2.2
  have e10:(10:Nat) ^ 10=10000000000:=by decide
  omega
 ·cases h
def prs (s:ByteArray):FE:=match partsO (preS minus s).data.toList with
 | none=>(0,0,3)
 | some (a,b)=>if b=0 then (0,0,2) else red (if preB minus s then -(a:Int) else a) b
theorem f106 (s:ByteArray) (hs:s.size≤900000):FnOK Tryz.prog G 106 [ds s] (fe (prs s)):=by
 have hps:(preS minus s).size≤1000000:=by
  unfold preS
  rw[bs_size]
  have:(Lib.trimPrefix s.data.toList minus.data.toList).length≤s.data.toList.length:=by
   unfold Lib.trimPrefix
   split
   ·rw[List.length_drop];omega
   ·exact Nat.le_refl _
  rw[size_list] at this
  omega
 have k125:=f125 (G:=G) s minus
 have k126:=f126 (G:=G) (preS minus s) hps
 obtain ⟨l1,l2⟩:=pR_law (preS minus s)
 have hprs:prs s=match partsO (preS minus s).data.toList with
  | none=>(0,0,3)
  | some (a,b)=>if b=0 then (0,0,2) else red (if preB minus s then -(a:Int) else a) b:=rfl
 refine FnOK.walk (orc:=orcFq) (keep:=[]) follows Tryz.func106 rfl Tryz.call106 ?_
 refine of_tr (fun _ _ _ ZK=>(fun Za=>(ZK 125 [(ds s),(ds (ByteArray.mk #[45]))] (.tup [(ds (preS (ByteArray.mk #[45]) s)),(db (preB (ByteArray.mk #[45]) s))])∧ZK 126 [(ds (preS (ByteArray.mk #[45]) s))] (.tup [(di Za.fst),(di Za.snd.fst),(db Za.snd.snd)])∧(((!Za.snd.snd)=true)→(((.tup [(.agg [(di 0),(di 0)]),(di 3)]):DV)=(fe (prs s))))∧(((!Za.snd.snd)=false)→((((Za.snd.fst==0)=true)→(((.tup [(.agg [(di 0),(di 0)]),(di 2)]):DV)=(fe (prs s))))∧(((Za.snd.fst==0)=false)→((((preB (ByteArray.mk #[45]) s)=true)→((R64 Za.fst)∧ZK 127 [(di (-Za.fst)),(di Za.snd.fst)] (.tup [(.agg [(di (red (-Za.fst) Za.snd.fst).fst),(di (red (-Za.fst) Za.snd.fst).snd.fst)]),(di (red (-Za.fst) Za.snd.fst).snd.snd)])∧((.tup [(.agg [(di (red (-Za.fst) Za.snd.fst).fst),(di (red (-Za.fst) Za.snd.fst).snd.fst)]),(di (red (-Za.fst) Za.snd.fst).snd.snd)]):DV)=(fe (prs s))))∧(((preB (ByteArray.mk #[45]) s)=false)→(ZK 127 [(di Za.fst),(di Za.snd.fst)] (.tup [(.agg [(di (red Za.fst Za.snd.fst).fst),(di (red Za.fst Za.snd.fst).snd.fst)]),(di (red Za.fst Za.snd.fst).snd.snd)])∧((.tup [(.agg [(di (red Za.fst Za.snd.fst).fst),(di (red Za.fst Za.snd.fst).snd.fst)]),(di (red Za.fst Za.snd.fst).snd.snd)]):DV)=(fe (prs s)))))))))) (pR (preS (ByteArray.mk #[45]) s))) (by kernel_rfl) ?_
 refine⟨k125,k126,fun h=>?_,fun h=>⟨fun h2=>?_,fun h2=>⟨fun h3=>?_,fun h3=>?_⟩⟩⟩
 ·have h':(!(pR (preS minus s)).2.2)=true:=h
  rw[l1] at h'
  cases hp:partsO (preS minus s).data.toList with
  | none=>rw[hprs,hp];rfl
  | some x=>rw[hp] at h';simp at h'
 ·have h':(!(pR (preS minus s)).2.2)=false:=h
  rw[l1] at h'
  cases hp:partsO (preS minus s).data.toList with
  | none=>rw[hp] at h';simp at h'
  | some x=>
   obtain ⟨a,b⟩:=x
   obtain ⟨q1,q2⟩:=l2 a b hp
   have h2':((pR (preS minus s)).2.1==0)=true:=h2
   rw[q2] at h2'
   have hb:b=0:=by simp at h2';omega
   rw[hprs,hp]
   simp only[hb,if_true]
   rfl
 ·have h':(!(pR (preS minus s)).2.2)=false:=h
  rw[l1] at h'
  cases hp:partsO (preS minus s).data.toList with
  | none=>rw[hp] at h';simp at h'
  | some x=>
   obtain ⟨a,b⟩:=x
   obtain ⟨q1,q2⟩:=l2 a b hp
   obtain ⟨b1,b2⟩:=partsO_bd hp
   have h2':((pR (preS minus s)).2.1==0)=false:=h2
   rw[q2] at h2'
   have hb:b≠0:=by simp at h2';omega
   have h3':preB minus s=true:=h3
   have k127:=f127 (G:=G) (-(a:Int)) (b:Int) (by omega) ⟨by omega,by omega⟩ ⟨by omega,by omega⟩
   rw[hprs,hp]
   simp only[h3',if_true,if_neg hb]
   show R64 (pR (preS minus s)).1∧FnOK Tryz.prog G 127 [di (-(pR (preS minus s)).1),di (pR (preS minus s)).2.1] (fe (red (-(pR (preS minus s)).1) (pR (preS minus s)).2.1))∧fe (red (-(pR (preS minus s)).1) (pR (preS minus s)).2.1)=_
   rw[q1,q2]
   exact⟨⟨by omega,by omega⟩,k127,rfl⟩
 ·have h':(!(pR (preS minus s)).2.2)=false:=h
  rw[l1] at h'
  cases hp:partsO (preS minus s).data.toList with
  | none=>rw[hp] at h';simp at h'
  | some x=>
   obtain ⟨a,b⟩:=x
   obtain ⟨q1,q2⟩:=l2 a b hp
   obtain ⟨b1,b2⟩:=partsO_bd hp
   have h2':((pR (preS minus s)).2.1==0)=false:=h2
   rw[q2] at h2'
   have hb:b≠0:=by simp at h2';omega
   have h3':preB minus s=false:=h3
   have k127:=f127 (G:=G) (a:Int) (b:Int) (by omega) ⟨by omega,by omega⟩ ⟨by omega,by omega⟩
   rw[hprs,hp]
   simp only[h3',Bool.false_eq_true,if_false,if_neg hb]
   show FnOK Tryz.prog G 127 [di (pR (preS minus s)).1,di (pR (preS minus s)).2.1] (fe (red (pR (preS minus s)).1 (pR (preS minus s)).2.1))∧fe (red (pR (preS minus s)).1 (pR (preS minus s)).2.1)=_
   rw[q1,q2]
   exact⟨k127,rfl⟩
end Go.Proofs
/- Written fractions are read again,plain. -/
namespace Go.Proofs
open Go Go.Ab
theorem red_ok {n d:Int} (h:ok n d=true) {q:Nat} (hq:0<q):red (n*(q:Int)) (d*(q:Int))=(n,d,0):=by
 obtain ⟨d1,d2,n1,n2,hg⟩:=ok_spec h
 have hd:0<d*(q:Int):=Int.mul_pos (by omega) (by omega)
 have hg2:Int.gcd (n*(q:Int)) (d*(q:Int))=q:=by
  rw[Int.gcd_mul_right,hg,Nat.one_mul];rfl
 have hq0:(q:Int)≠0:=by omega
 unfold red red1
 rw[if_neg (by omega),hg2,Int.mul_tdiv_cancel n hq0,Int.mul_tdiv_cancel d hq0,if_pos h]
theorem prs_sg {n:Int} {S:List UInt8} {a b:Nat} (hS:∀c T,S=c :: T→c≠45) (hp:partsO S=some (a,b)) (hb:b≠0) :
  prs (str (sg n++S))=red (if n<0 then -(a:Int) else a) b:=by
 have key:∀s:ByteArray,∀neg:Bool,preB minus s=neg→(preS minus s).data.toList=S→prs s=red (if neg=true then -(a:Int) else a) b:=by
  intro s neg h1 h2
  unfold prs
  rw[h1,h2,hp]
  simp only[if_neg hb]
 have e45:minus.data.toList=[45]:=rfl
 by_cases hn:n<0
 ·rw[if_pos hn]
  have:=key (str (sg n++S)) true (by
   unfold preB sg;rw[if_pos hn,e45]
   show Lib.hasPrefix ([45]++S) [45]=true
   simp[Lib.hasPrefix,List.isPrefixOf]) (by
   unfold preS sg;rw[if_pos hn,e45,toList_bs]
   show Lib.trimPrefix ([45]++S) [45]=S
   simp[Lib.trimPrefix,Lib.hasPrefix,List.isPrefixOf])
  rw[this,if_pos rfl]
 ·rw[if_neg hn]
  have hh:Lib.hasPrefix S [45]=false:=by
   cases S with
   | nil=>rfl
   | cons c T=>
    have:=hS c T rfl
    simp[Lib.hasPrefix,List.isPrefixOf]
    exact fun h=>this h.symm
  have:=key (str (sg n++S)) false (by
   unfold preB sg;rw[if_neg hn,e45]
   show Lib.hasPrefix ([]++S) [45]=false
   rw[List.nil_append,hh]) (by
   unfold preS sg;rw[if_neg hn,e45,toList_bs]
   show Lib.trimPrefix ([]++S) [45]=S
   rw[List.nil_append];unfold Lib.trimPrefix;rw[hh];rfl)
  rw[this,if_neg (by simp)]
theorem dec_head {m:Nat} {R:List UInt8}:∀c T,Lib.decDigits m++R=c :: T→c≠45:=by
 intro c T h
 have h1:=dec_pos m
 cases hd:Lib.decDigits m with
 | nil=>rw[hd] at h1;simp at h1
 | cons x l=>
  rw[hd] at h
  injection h with h2 h3
  have:=dec_all m x (by rw[hd];simp)
  rintro rfl
  rw[h2] at this
  exact absurd this (by decide)
theorem sgn_abs (n:Int):(if n<0 then -((n.natAbs:Nat):Int) else (n.natAbs:Nat))=n:=by split<;>omega
theorem read_fmt {n d:Int} (h:ok n d=true):prs (str (fmt n d))=(n,d,0):=by
 obtain ⟨d1,d2,n1,n2,hg⟩:=ok_spec h
 unfold fmt
 rw[if_pos h]
 have hr:=red_ok h (q:=1) (by decide)
 rw[show ((1:Nat):Int)=1 from rfl,Int.mul_one,Int.mul_one] at hr
 by_cases h1:d=1
 ·rw[if_pos h1,itoa_sg]
  have hp:=parts_int (n:=n.natAbs) (by omega)
  have:=prs_sg (n:=n) (S:=Lib.decDigits n.natAbs) (by have:=dec_head (m:=n.natAbs) (R:=[]);rwa [List.append_nil] at this) hp (by decide)
  rw[this,sgn_abs]
  rw[h1] at hr⊢
  exact hr
 ·rw[if_neg h1,itoa_sg n]
  obtain ⟨e,rfl⟩:=Int.eq_ofNat_of_zero_le (show 0≤d by omega)
  have hp:=parts_frac (n:=n.natAbs) (d:=e) (by omega) (by omega)
  rw[Lib.itoa_nonneg,List.append_assoc,prs_sg dec_head hp (by omega),sgn_abs]
  exact hr
theorem dec_law {n d:Int} (h:ok n d=true):((decF n d).2=true↔(1000000:Int).tmod d=0)∧((decF n d).2=false→(decF n d).1=[]∧d≠1):=by
 rw[decF_eq]
 unfold decB
 by_cases h2:(1000000:Int).tmod d=0
 ·rw[if_pos ⟨h,h2⟩]
  exact⟨⟨fun _=>h2,fun _=>rfl⟩,fun h3=>by cases h3⟩
 ·rw[if_neg (fun h3=>h2 h3.2)]
  refine⟨⟨fun h3=>(by cases h3),fun h3=>absurd h3 h2⟩,fun _=>⟨rfl,?_⟩⟩
  rintro rfl
  exact h2 rfl
theorem read_dec {n d:Int} (h:ok n d=true) (h2:(decF n d).2=true):prs (str (decF n d).1)=(n,d,0)∧(decF n d).1.length≤30:=by
 obtain ⟨d1,d2,n1,n2,hg⟩:=ok_spec h
 obtain ⟨e,rfl⟩:=Int.eq_ofNat_of_zero_le (show 0≤d by omega)
 have he:0<e:=by omega
 have hdv:e∣10 ^ 6:=by
  have:=(dec_law h).1.1 h2
  rw[show (1000000:Int)=((10 ^ 6:Nat):Int) by rfl,←Int.ofNat_tmod] at this
  exact Nat.dvd_of_mod_eq_zero (by omega)
 obtain ⟨k,hk6,hk,hmin⟩:=least (p:=fun k=>e∣10 ^ k) 6 hdv
 have hA:=decA_hit n e k hk hmin k 7 0 (by omega) (by omega)
 rw[show (((10 ^ 0:Nat):Int))=1 by rfl] at hA
 unfold decF
 rw[if_pos h,hA]
 by_cases h0:k=0
 ·subst h0
  have he1:e=1:=by simpa using hk
  subst he1
  have:=read_fmt h
  unfold fmt at this
  rw[if_pos h,if_pos (show ((1:Nat):Int)=1 from rfl)] at this
  refine⟨this,?_⟩
  show (Lib.itoa n).length≤30
  rw[itoa_sg,List.length_append]
  have:=sg_len n
  have:=decDigits_len 9 n.natAbs (by omega)
  omega
 ·rw[if_neg h0]
  obtain ⟨q,hq⟩:=hk
  have hq0:0<q:=by
   rcases Nat.eq_zero_or_pos q with rfl|h
   ·have:0<10 ^ k:=Nat.pow_pos (by omega)
    omega
   ·exact h
  have hqe:10 ^ k / e=q:=by rw[hq,Nat.mul_div_cancel_left _ he]
  rw[hqe]
  have ha:(n*(q:Int)).natAbs=n.natAbs*q:=by rw[Int.natAbs_mul];rfl
  have hp0:0<10 ^ k:=Nat.pow_pos (by omega)
  have hk10:10 ^ k≤10 ^ 6:=Nat.pow_le_pow_right (by decide) hk6
  have hqs:n.natAbs*q / 10 ^ k<10000000000:=by
   have:n.natAbs*q / 10 ^ k=n.natAbs / e:=by rw[hq,Nat.mul_div_mul_right _ _ hq0]
   rw[this]
   have:=Nat.div_le_self n.natAbs e
   omega
  have hp:=parts_place (n:=n.natAbs*q / 10 ^ k) (j:=k) (r:=n.natAbs*q % 10 ^ k) hqs (by omega) hk6 (Nat.mod_lt _ hp0)
  have hpt:pt (n*(q:Int)) ((10 ^ k:Nat):Int)=sg (n*(q:Int))++(Lib.decDigits (n.natAbs*q / 10 ^ k)++46 :: (Lib.decDigits (10 ^ k+n.natAbs*q % 10 ^ k)).tail):=by
   unfold pt
   rw[ha,←Int.ofNat_tdiv,←Int.ofNat_tmod,Lib.itoa_nonneg,show (((10 ^ k:Nat):Int)+((n.natAbs*q % 10 ^ k:Nat):Int))=((10 ^ k+n.natAbs*q % 10 ^ k:Nat):Int) by omega,Lib.itoa_nonneg,List.drop_one]
  have hrl:n.natAbs*q % 10 ^ k<10 ^ k:=Nat.mod_lt _ hp0
  refine⟨?_,?_⟩
  rotate_left
  ·show (pt (n*(q:Int)) ((10 ^ k:Nat):Int)).length≤30
   rw[hpt,List.length_append,List.length_append,List.length_cons,List.length_tail]
   have:=sg_len (n*(q:Int))
   have:=decDigits_len 9 (n.natAbs*q / 10 ^ k) (by omega)
   have:=decDigits_len 9 (10 ^ k+n.natAbs*q % 10 ^ k) (by have e6:(10:Nat) ^ 6=1000000:=by decide
                                                          omega)
   omega
  show prs (str (pt (n*(q:Int)) ((10 ^ k:Nat):Int)))=_
  rw[hpt,prs_sg dec_head hp (by omega)]
  have hdm:n.natAbs*q / 10 ^ k*10 ^ k+n.natAbs*q % 10 ^ k=n.natAbs*q:=by rw[Nat.mul_comm];exact Nat.div_add_mod ..
  rw[hdm,←ha,sgn_abs,hq]
  have:=red_ok h hq0
  rw[←Int.natCast_mul] at this
  exact this
end Go.Proofs
/- Written numbers: how they look. -/
namespace Go.Proofs
open Go Go.Ab
theorem pad_len:∀(k r:Nat),(pad k r).length=k
 | 0,_=>rfl
 | k+1,r=>by simp[pad,pad_len k]
theorem ofNat_dig {u:Nat} (h:u<10):(UInt8.ofNat (48+u)).toNat=48+u:=by
 simp;omega
theorem digB_dig {u:Nat} (h:u<10):digB ((UInt8.ofNat (48+u)).toNat:Int)=true:=by
 rw[ofNat_dig h];unfold digB
 simp only[bAt,decide_eq_true_eq];omega
theorem pad_dig:∀(k r:Nat),∀c∈pad k r,digB (c.toNat:Int)=true
 | 0,_,c,h=>by simp[pad] at h
 | k+1,r,c,h=>by
  rw[pad] at h
  rcases List.mem_append.1 h with h|h
  ·exact pad_dig k _ c h
  ·rw[List.mem_singleton.1 h];exact digB_dig (Nat.mod_lt _ (by decide))
theorem dec_dig (n:Nat):∀c∈Lib.decDigits n,digB (c.toNat:Int)=true:=by
 intro c hc
 have h:=(decDigits_all n).1 c hc
 unfold isD at h;unfold digB
 simp only[bAt,decide_eq_true_eq];omega
structure NumL (l:List UInt8):Prop where
 dec:∃D T:List UInt8,(∀c∈D,digB (c.toNat:Int)=true)∧(∀c∈T,digB (c.toNat:Int)=true)∧1≤D.length∧D.length≤9∧T.length≤6∧l=D++(if T=[] then [] else 46 :: T)
theorem numB_ok {n d:Int} (h:numB n d=true):ok n d=true∧(decF n d).2=true∧0≤n:=by
 unfold numB at h
 simp only[bAt,decide_eq_true_eq] at h
 refine⟨?_,h.1.1,h.1.2⟩
 have h2:=h.1.1
 unfold decF at h2
 split at h2
 ·assumption
 ·cases h2
theorem decB_of {n d:Int} (h:numB n d=true):(1000000:Int).tmod d=0∧decB n d=(Lib.decDigits (n.natAbs / d.toNat)++(if n.natAbs % d.toNat=0 then [] else 46 :: tailB d.toNat 7 (n.natAbs % d.toNat)),true):=by
 obtain ⟨h1,h2,h3⟩:=numB_ok h
 rw[decF_eq] at h2
 unfold decB at h2⊢
 by_cases hc:ok n d=true∧(1000000:Int).tmod d=0
 ·refine⟨hc.2,?_⟩
  rw[if_pos hc,show sg n=[] by unfold sg;rw[if_neg (by omega)]];rfl
 ·rw[if_neg hc] at h2;cases h2
theorem cut_front {D R:List UInt8} (hD:∀c∈D,c≠46) (h:((cD dotS (str (D++R))).size:Int)≤9) (hR:R=[]∨∃T,R=46 :: T):D.length≤9:=by
 unfold cD cI at h
 have e0:(str (D++R)).data.toList=D++R:=by simp
 have e1:dotS.data.toList.headD 0=46:=rfl
 rw[e0,e1] at h
 rcases hR with rfl|⟨T,rfl⟩
 ·have hn:Lib.indexByte (D++[]) 46<0:=by
   rcases Int.lt_or_le (Lib.indexByte (D++[]) 46) 0 with h1|h1
   ·exact h1
   ·obtain ⟨k,hk⟩:=Int.eq_ofNat_of_zero_le h1
    obtain ⟨h2,_⟩:=Lib.indexByte_some hk
    rw[List.append_nil] at h2
    exact absurd rfl (hD 46 (List.mem_of_getElem? h2))
  rw[if_neg (by omega),str_size] at h
  simp at h;omega
 ·have hn:Lib.indexByte (D++46 :: T) 46=D.length:=by
   have hat:(D++46 :: T)[D.length]?=some 46:=by rw[List.getElem?_append_right (Nat.le_refl _),Nat.sub_self];rfl
   rcases Int.lt_or_le (Lib.indexByte (D++46 :: T) 46) 0 with h1|h1
   ·have:=Lib.indexByte_ge (D++46 :: T) 46
    exact absurd hat (Lib.indexByte_none (by omega) _)
   ·obtain ⟨o,ho⟩:=Int.eq_ofNat_of_zero_le h1
    obtain ⟨g1,g2⟩:=Lib.indexByte_some ho
    rw[ho]
    rcases Nat.lt_trichotomy o D.length with hlt|heq|hgt
    ·rw[List.getElem?_append_left hlt] at g1
     exact absurd rfl (hD 46 (List.mem_of_getElem? g1))
    ·rw[heq]
    ·exact absurd hat (g2 _ hgt)
  rw[hn,if_pos (by omega),ByteArray.size_extract,str_size] at h
  simp at h;omega
theorem dig_46 {c:UInt8} (h:digB (c.toNat:Int)=true):c≠46:=by
 rintro rfl;exact absurd h (by decide)
theorem num_look {n d:Int} (h:numB n d=true):NumL (numT n d).data.toList:=by
 obtain ⟨hok,h2,h3⟩:=numB_ok h
 obtain ⟨hm,he⟩:=decB_of h
 obtain ⟨d1,d2,n1,n2,hg⟩:=ok_spec hok
 obtain ⟨e,rfl⟩:=Int.eq_ofNat_of_zero_le (show 0≤d by omega)
 have he0:0<e:=by omega
 have hdv:e∣10 ^ 6:=by
  rw[show (1000000:Int)=((10 ^ 6:Nat):Int) by rfl,←Int.ofNat_tmod] at hm
  exact Nat.dvd_of_mod_eq_zero (by omega)
 have hcut:=h
 unfold numB at hcut
 simp only[bAt,decide_eq_true_eq] at hcut
 have hcut:=hcut.2
 unfold numT
 rw[decF_eq,he] at hcut⊢
 have e0:∀l:List UInt8,(str l).data.toList=l:=fun l=>by simp
 rw[e0]
 dsimp only at hcut⊢
 rw[Int.toNat_natCast] at hcut⊢
 have hD:=dec_dig (n.natAbs / e)
 have hD1:1≤(Lib.decDigits (n.natAbs / e)).length:=List.length_pos_iff.2 (decDigits_all _).2.2.1
 by_cases hr:n.natAbs % e=0
 ·rw[if_pos hr] at hcut⊢
  exact⟨_,[],hD,by simp,hD1,cut_front (R:=[]) (fun c hc=>dig_46 (hD c hc)) hcut (.inl rfl),by simp,by simp⟩
 ·rw[if_neg hr] at hcut⊢
  have hdr:e∣(n.natAbs % e)*10 ^ 6:=Nat.dvd_trans hdv (Nat.dvd_mul_left _ _)
  obtain ⟨k,hk6,hk,hmin⟩:=least (p:=fun k=>e∣(n.natAbs % e)*10 ^ k) 6 hdr
  have ht:=tail_pad e he0 k 7 (n.natAbs % e) (by omega) (Nat.mod_lt _ he0) hk hmin
  have hk0:k≠0:=by
   rintro rfl
   rw[Nat.pow_zero,Nat.mul_one] at hk
   exact hr (Nat.eq_zero_of_dvd_of_lt hk (Nat.mod_lt _ he0))
  refine⟨_,tailB e 7 (n.natAbs % e),hD,?_,hD1,cut_front (fun c hc=>dig_46 (hD c hc)) hcut (.inr ⟨_,rfl⟩),?_,?_⟩
  ·rw[ht];exact pad_dig _ _
  ·rw[ht,pad_len];exact hk6
  ·rw[if_neg]
   rw[ht]
   intro h0
   have:=congrArg List.length h0
   rw[pad_len] at this
   exact hk0 (by simpa using this)
end Go.Proofs
/- What the plain part of reading asks of the seat. -/
namespace Go.Proofs
open Go Go.Ab
theorem byteAt_cons {c:UInt8} {l:List UInt8} {s:ByteArray} (h:s.data.toList=c :: l):byteAt s 0=(c.toNat:Int):=by
 have hl:s.data.toList.length=s.size:=Array.length_toList
 rw[byteAt_list (by rw[←hl,h];simp)]
 simp only[h,List.getElem_cons_zero]
theorem num_reads {n d:Int} (h:numB n d=true):digB (byteAt (numT n d) 0)=true∧prs (numT n d)=(n,d,0):=by
 obtain ⟨h1,h2,_⟩:=numB_ok h
 refine⟨?_,(read_dec h1 h2).1⟩
 obtain ⟨D,T,hD,_,hD1,_,_,he⟩:=(num_look h).dec
 cases D with
 | nil=>simp at hD1
 | cons c D=>
  rw[byteAt_cons he]
  exact hD c (by simp)
end Go.Proofs
/- Reading expressions,plain: what the parser does,by fuel,and without. -/
namespace Go.Proofs
open Go Go.Ab
abbrev Tk:=ByteArray×Int
inductive Rs where
 | ok (x:Ex) (r:List Tk)
 | bad (r:List Tk)
def hdS (t:List Tk):ByteArray:=match t with | []=>.empty|w :: _=>w.1
def hdA (e:Int) (t:List Tk):Int:=match t with | []=>e|w :: _=>w.2
def notS:ByteArray:=⟨#[110,111,116]⟩
def minusS:ByteArray:=⟨#[45]⟩
def opnS:ByteArray:=⟨#[40]⟩
def clsS:ByteArray:=⟨#[41]⟩
def commaS:ByteArray:=⟨#[44]⟩
def trueS:ByteArray:=⟨#[116,114,117,101]⟩
def falseS:ByteArray:=⟨#[102,97,108,115,101]⟩
def minS:ByteArray:=⟨#[109,105,110]⟩
def maxS:ByteArray:=⟨#[109,97,120]⟩
def opK (s:ByteArray):Int:=((([6,7,8,9,12,13,14,15,16,17,19,20]:List Int).find? fun k=>decide (opS k=s)).getD 0)
def opAt (n:Nat) (s:ByteArray):Bool:=decide (s.size≠0)&&anyB (lvL.getD n []) s
inductive Md where
 | lvl (n:Nat)
 | loop (n:Nat) (x:Ex)
 | args (x:Ex)
 | prim
def Rs.mapX (f:Ex→Ex):Rs→Rs
 | .ok x r=>.ok (f x) r
 | .bad r=>.bad r
def leafX (t:List Tk):Rs:=
 if hdS t=trueS then .ok (.mk 3 .empty 0 0 (hdA 0 t) []) t.tail
 else if hdS t=falseS then .ok (.mk 4 .empty 0 0 (hdA 0 t) []) t.tail
 else if digB (byteAt (hdS t) 0)=true then .ok (.mk 1 .empty (prs (hdS t)).1 (prs (hdS t)).2.1 (hdA 0 t) []) t.tail
 else if nameB (hdS t)=true then .ok (.mk 2 (hdS t) 0 0 (hdA 0 t) []) t.tail
 else .bad t
def addK (x y:Ex):Ex:=.mk x.k x.s x.n x.d x.pos (x.kids++[y])
def rd:Nat→Md→List Tk→Rs
 | 0,_,t=>.bad t
 | k+1,.lvl n,t=>
  if n=2 then if hdS t=notS then (rd k (.lvl 2) t.tail).mapX fun x=>.mk 18 .empty 0 0 (hdA 0 t) [x] else rd k (.lvl 3) t
  else if n=6 then if hdS t=minusS then (rd k (.lvl 6) t.tail).mapX fun x=>.mk 5 .empty 0 0 (hdA 0 t) [x] else rd k (.lvl 7) t
  else if n=7 then rd k .prim t
  else match rd k (.lvl (n+1)) t with
   | .ok x r=>rd k (.loop n x) r
   | .bad r=>.bad r
 | k+1,.loop n x,t=>
  if opAt n (hdS t)=true then match rd k (.lvl (n+1)) t.tail with
   | .ok y r=>if n=3 then .ok (.mk (opK (hdS t)) .empty 0 0 (hdA 0 t) [x,y]) r else rd k (.loop n (.mk (opK (hdS t)) .empty 0 0 (hdA 0 t) [x,y])) r
   | .bad r=>.bad r
  else .ok x t
 | k+1,.args x,t=>match rd k (.lvl 0) t with
   | .ok y r=>if hdS r=commaS then rd k (.args (addK x y)) r.tail else if hdS r=clsS then .ok (addK x y) r.tail else .bad r
   | .bad r=>.bad r
 | k+1,.prim,t=>
  if hdS t=opnS then match rd k (.lvl 0) t.tail with
   | .ok x r=>if hdS r=clsS then .ok x r.tail else .bad r
   | .bad r=>.bad r
  else if hdS t=minS∨hdS t=maxS then
   if hdS t.tail=opnS then rd k (.args (.mk (if hdS t=maxS then 11 else 10) .empty 0 0 (hdA 0 t) [])) t.tail.tail else .bad t.tail
  else leafX t
def ms:Md→List Tk→Nat
 | .lvl n,t=>10*t.length+9-n
 | .loop _ _,t=>10*t.length
 | .args _,t=>10*t.length+10
 | .prim,t=>10*t.length+1
def okM:Md→Prop
 | .lvl n=>n≤7
 | .loop n _=>n≤5
 | _=>True
def restOf:Rs→List Tk
 | .ok _ r=>r
 | .bad r=>r
theorem tail_len {t:List Tk} (h:hdS t≠.empty):t.tail.length+1=t.length:=by
 cases t with
 | nil=>exact absurd rfl h
 | cons w t=>rfl
theorem tail_le (t:List Tk):t.tail.length≤t.length:=by simp
theorem opAt_ne {n:Nat} {s:ByteArray} (h:opAt n s=true):s≠.empty:=by
 rintro rfl;simp[opAt] at h
theorem mapX_rest (f:Ex→Ex) (r:Rs):restOf (r.mapX f)=restOf r:=by cases r<;>rfl
theorem rd_le:∀(k:Nat) (md:Md) (t:List Tk),(restOf (rd k md t)).length≤t.length:=by
 intro k
 induction k with
 | zero=>intro md t;exact Nat.le_refl _
 | succ k ih=>
  intro md t
  have tl:=tail_le t
  have tl2:=tail_le t.tail
  cases md with
  | lvl n=>
   simp only[rd]
   split
   ·split
    ·rw[mapX_rest];have:=ih (.lvl 2) t.tail;omega
    ·exact ih _ _
   split
   ·split
    ·rw[mapX_rest];have:=ih (.lvl 6) t.tail;omega
    ·exact ih _ _
   split
   ·exact ih _ _
   ·have h1:=ih (.lvl (n+1)) t
    split
    ·rename_i x r e
     rw[e] at h1
     have:=ih (.loop n x) r
     simp only[restOf] at h1;omega
    ·rename_i r e
     rw[e] at h1;exact h1
  | loop n x=>
   simp only[rd]
   split
   ·have h1:=ih (.lvl (n+1)) t.tail
    split
    ·rename_i y r e
     rw[e] at h1;simp only[restOf] at h1
     split
     ·simp only[restOf];omega
     ·have:=ih (.loop n (.mk (opK (hdS t)) .empty 0 0 (hdA 0 t) [x,y])) r;omega
    ·rename_i r e
     rw[e] at h1;simp only[restOf] at h1⊢;omega
   ·exact Nat.le_refl _
  | args x=>
   simp only[rd]
   have h1:=ih (.lvl 0) t
   split
   ·rename_i y r e
    rw[e] at h1;simp only[restOf] at h1
    have:=tail_le r
    split
    ·have:=ih (.args (addK x y)) r.tail;omega
    ·split
     ·simp only[restOf];omega
     ·exact h1
   ·rename_i r e
    rw[e] at h1;exact h1
  | prim=>
   simp only[rd]
   split
   ·have h1:=ih (.lvl 0) t.tail
    split
    ·rename_i x r e
     rw[e] at h1;simp only[restOf] at h1
     have:=tail_le r
     split<;>simp only[restOf]<;>omega
    ·rename_i r e
     rw[e] at h1;simp only[restOf] at h1⊢;omega
   split
   ·split
    ·refine Nat.le_trans (ih _ _) ?_;omega
    ·exact tl
   ·unfold leafX
    split
    ·exact tl
    split
    ·exact tl
    split
    ·exact tl
    split
    ·exact tl
    ·exact Nat.le_refl _
theorem rd_stable:∀(k k':Nat) (md:Md) (t:List Tk),okM md→ms md t<k→ms md t<k'→rd k md t=rd k' md t:=by
 intro k
 induction k with
 | zero=>intro k' md t _ h;omega
 | succ k ih=>
  intro k' md t hm h h'
  obtain ⟨k',rfl⟩:∃j,k'=j+1:=⟨k' - 1,by omega⟩
  cases md with
  | lvl n=>
   simp only[okM] at hm
   simp only[ms] at h h'
   simp only[rd]
   split
   ·rename_i hn
    split
    ·rename_i hh
     have:=tail_len (t:=t) (by rw[hh];decide)
     rw[ih k' (.lvl 2) t.tail (by simp[okM]) (by simp only[ms];omega) (by simp only[ms];omega)]
    ·exact ih k' _ _ (by simp[okM]) (by simp only[ms];omega) (by simp only[ms];omega)
   split
   ·rename_i hn
    split
    ·rename_i hh
     have:=tail_len (t:=t) (by rw[hh];decide)
     rw[ih k' (.lvl 6) t.tail (by simp[okM]) (by simp only[ms];omega) (by simp only[ms];omega)]
    ·exact ih k' _ _ (by simp[okM]) (by simp only[ms];omega) (by simp only[ms];omega)
   split
   ·exact ih k' _ _ (by simp[okM]) (by simp only[ms];omega) (by simp only[ms];omega)
   ·have h1:=rd_le k (.lvl (n+1)) t
    rw[ih k' (.lvl (n+1)) t (by simp only[okM];omega) (by simp only[ms];omega) (by simp only[ms];omega)] at h1⊢
    split
    ·rename_i x r e
     rw[e] at h1;simp only[restOf] at h1
     exact ih k' _ _ (by simp only[okM];omega) (by simp only[ms];omega) (by simp only[ms];omega)
    ·rfl
  | loop n x=>
   simp only[okM] at hm
   simp only[ms] at h h'
   simp only[rd]
   split
   ·rename_i hh
    have:=tail_len (opAt_ne hh)
    have h1:=rd_le k (.lvl (n+1)) t.tail
    rw[ih k' (.lvl (n+1)) t.tail (by simp only[okM];omega) (by simp only[ms];omega) (by simp only[ms];omega)] at h1⊢
    split
    ·rename_i y r e
     rw[e] at h1;simp only[restOf] at h1
     split
     ·rfl
     ·exact ih k' _ _ (by simp only[okM];omega) (by simp only[ms];omega) (by simp only[ms];omega)
    ·rfl
   ·rfl
  | args x=>
   simp only[ms] at h h'
   simp only[rd]
   have h1:=rd_le k (.lvl 0) t
   rw[ih k' (.lvl 0) t (by simp[okM]) (by simp only[ms];omega) (by simp only[ms];omega)] at h1⊢
   split
   ·rename_i y r e
    rw[e] at h1;simp only[restOf] at h1
    split
    ·rename_i hh
     have:=tail_len (t:=r) (by rw[hh];decide)
     exact ih k' _ _ trivial (by simp only[ms];omega) (by simp only[ms];omega)
    ·rfl
   ·rfl
  | prim=>
   simp only[ms] at h h'
   simp only[rd]
   split
   ·rename_i hh
    have:=tail_len (t:=t) (by rw[hh];decide)
    rw[ih k' (.lvl 0) t.tail (by simp[okM]) (by simp only[ms];omega) (by simp only[ms];omega)]
   split
   ·rename_i hh
    have:=tail_len (t:=t) (by rcases hh with hh|hh<;>rw[hh]<;>decide)
    split
    ·rename_i h2
     have:=tail_len (t:=t.tail) (by rw[h2];decide)
     exact ih k' _ _ trivial (by simp only[ms];omega) (by simp only[ms];omega)
    ·rfl
   ·rfl
def pr (md:Md) (t:List Tk):Rs:=rd (10*t.length+11) md t
theorem ms_le (md:Md) (t:List Tk):ms md t<10*t.length+11:=by cases md<;>simp only[ms]<;>omega
theorem pr_eq {k:Nat} {md:Md} {t:List Tk} (hm:okM md) (h:ms md t<k):rd k md t=pr md t:=rd_stable _ _ _ _ hm h (ms_le _ _)
theorem pr_le (md:Md) (t:List Tk):(restOf (pr md t)).length≤t.length:=rd_le _ _ _
end Go.Proofs
/- Reading,without fuel. -/
namespace Go.Proofs
open Go Go.Ab
theorem pr_st (md:Md) (t:List Tk):∃k,(∀md' t',okM md'→ms md' t' < 10*t.length+10→rd k md' t'=pr md' t')∧pr md t=rd (k+1) md t:=⟨10*t.length+10,fun _ _ h1 h2=>pr_eq h1 h2,rfl⟩
theorem pr_not {t:List Tk} (h:hdS t=notS):pr (.lvl 2) t=(pr (.lvl 2) t.tail).mapX fun x=>.mk 18 .empty 0 0 (hdA 0 t) [x]:=by
 have:=tail_len (t:=t) (by rw[h];decide)
 obtain ⟨k,hk,e0⟩:=pr_st _ t
 rw[e0]
 simp only[rd,if_pos h,if_true]
 rw[hk (.lvl 2) _ (by simp[okM]) (by simp only[ms];omega)]
theorem pr_not' {t:List Tk} (h:hdS t≠notS):pr (.lvl 2) t=pr (.lvl 3) t:=by
 obtain ⟨k,hk,e0⟩:=pr_st _ t
 rw[e0]
 simp only[rd,if_neg h,if_true]
 exact hk _ _ (by simp[okM]) (by simp only[ms];omega)
theorem pr_neg {t:List Tk} (h:hdS t=minusS):pr (.lvl 6) t=(pr (.lvl 6) t.tail).mapX fun x=>.mk 5 .empty 0 0 (hdA 0 t) [x]:=by
 have:=tail_len (t:=t) (by rw[h];decide)
 obtain ⟨k,hk,e0⟩:=pr_st _ t
 rw[e0]
 simp only[rd,if_pos h,if_true,show ¬(6:Nat)=2 by omega,if_false]
 rw[hk (.lvl 6) _ (by simp[okM]) (by simp only[ms];omega)]
theorem pr_neg' {t:List Tk} (h:hdS t≠minusS):pr (.lvl 6) t=pr (.lvl 7) t:=by
 obtain ⟨k,hk,e0⟩:=pr_st _ t
 rw[e0]
 simp only[rd,if_neg h,if_true,show ¬(6:Nat)=2 by omega,if_false]
 exact hk _ _ (by simp[okM]) (by simp only[ms];omega)
theorem pr_seven (t:List Tk):pr (.lvl 7) t=pr .prim t:=by
 obtain ⟨k,hk,e0⟩:=pr_st _ t
 rw[e0]
 simp only[rd,if_true,show ¬(7:Nat)=2 by omega,show ¬(7:Nat)=6 by omega,if_false]
 exact hk _ _ (by simp[okM]) (by simp only[ms];omega)
def binL (n:Nat):Prop:=n=0∨n=1∨n=3∨n=4∨n=5
theorem pr_bin {n:Nat} (hn:binL n) (t:List Tk):pr (.lvl n) t=match pr (.lvl (n+1)) t with
  | .ok x r=>pr (.loop n x) r
  | .bad r=>.bad r:=by
 have h5:n≤5∧n≠2∧n≠6∧n≠7:=by unfold binL at hn;omega
 have hl:=pr_le (.lvl (n+1)) t
 obtain ⟨k,hk,e0⟩:=pr_st _ t
 rw[e0]
 simp only[rd,if_neg h5.2.1,if_neg h5.2.2.1,if_neg h5.2.2.2]
 rw[hk (.lvl (n+1)) _ (by simp only[okM];omega) (by simp only[ms];omega)]
 cases e:pr (.lvl (n+1)) t with
 | ok x r=>
  rw[e] at hl;simp only[restOf] at hl
  exact hk _ _ (by simp only[okM];omega) (by simp only[ms];omega)
 | bad r=>rfl
theorem pr_stop {n:Nat} {x:Ex} {t:List Tk} (h:opAt n (hdS t)=false):pr (.loop n x) t=.ok x t:=by
 obtain ⟨k,hk,e0⟩:=pr_st _ t
 rw[e0]
 simp only[rd,h,Bool.false_eq_true,if_false]
theorem pr_go {n:Nat} (hn:n≤5) {x:Ex} {t:List Tk} (h:opAt n (hdS t)=true):pr (.loop n x) t=match pr (.lvl (n+1)) t.tail with
  | .ok y r=>if n=3 then .ok (.mk (opK (hdS t)) .empty 0 0 (hdA 0 t) [x,y]) r else pr (.loop n (.mk (opK (hdS t)) .empty 0 0 (hdA 0 t) [x,y])) r
  | .bad r=>.bad r:=by
 have:=tail_len (opAt_ne h)
 have hl:=pr_le (.lvl (n+1)) t.tail
 obtain ⟨k,hk,e0⟩:=pr_st _ t
 rw[e0]
 simp only[rd,h,if_true]
 rw[hk (.lvl (n+1)) _ (by simp only[okM];omega) (by simp only[ms];omega)]
 cases e:pr (.lvl (n+1)) t.tail with
 | ok y r=>
  rw[e] at hl;simp only[restOf] at hl
  try dsimp only
  split
  ·rfl
  ·exact hk _ _ (by simp only[okM];omega) (by simp only[ms];omega)
 | bad r=>rfl
theorem pr_args (x:Ex) (t:List Tk):pr (.args x) t=match pr (.lvl 0) t with
  | .ok y r=>if hdS r=commaS then pr (.args (addK x y)) r.tail else if hdS r=clsS then .ok (addK x y) r.tail else .bad r
  | .bad r=>.bad r:=by
 have hl:=pr_le (.lvl 0) t
 obtain ⟨k,hk,e0⟩:=pr_st _ t
 rw[e0]
 simp only[rd]
 rw[hk (.lvl 0) _ (by simp[okM]) (by simp only[ms];omega)]
 cases e:pr (.lvl 0) t with
 | ok y r=>
  rw[e] at hl;simp only[restOf] at hl
  try dsimp only
  split
  ·rename_i hh
   have:=tail_len (t:=r) (by rw[hh];decide)
   exact hk _ _ trivial (by simp only[ms];omega)
  ·rfl
 | bad r=>rfl
theorem pr_prim (t:List Tk):pr .prim t =
  if hdS t=opnS then match pr (.lvl 0) t.tail with
   | .ok x r=>if hdS r=clsS then .ok x r.tail else .bad r
   | .bad r=>.bad r
  else if hdS t=minS∨hdS t=maxS then
   if hdS t.tail=opnS then pr (.args (.mk (if hdS t=maxS then 11 else 10) .empty 0 0 (hdA 0 t) [])) t.tail.tail else .bad t.tail
  else leafX t:=by
 obtain ⟨k,hk,e0⟩:=pr_st _ t
 rw[e0]
 simp only[rd]
 by_cases hh:hdS t=opnS
 ·have:=tail_len (t:=t) (by rw[hh];decide)
  rw[if_pos hh,if_pos hh,hk (.lvl 0) _ (by simp[okM]) (by simp only[ms];omega)]
  try rfl
 rw[if_neg hh,if_neg hh]
 by_cases h2:hdS t=minS∨hdS t=maxS
 ·have:=tail_len (t:=t) (by rcases h2 with hh|hh<;>rw[hh]<;>decide)
  rw[if_pos h2,if_pos h2]
  by_cases h3:hdS t.tail=opnS
  ·have:=tail_len (t:=t.tail) (by rw[h3];decide)
   rw[if_pos h3,if_pos h3]
   exact hk _ _ trivial (by simp only[ms];omega)
  ·rw[if_neg h3,if_neg h3]
 ·rw[if_neg h2,if_neg h2]
def stop (n:Nat) (s:ByteArray):Prop:=∀m,n≤m→m≤5→opAt m s=false
theorem stop_mono {n m:Nat} {s:ByteArray} (h:stop n s) (hn:n≤m):stop m s:=fun j h1 h2=>h j (by omega) h2
theorem pr_up {m:Nat} (hm:m≤7) {t:List Tk} {y:Ex} {r:List Tk} (h:pr (.lvl m) t=.ok y r) :
  ∀n,n≤m→(n≤2→2<m→hdS t≠notS)→(n≤6→6<m→hdS t≠minusS)→stop n (hdS r)→pr (.lvl n) t=.ok y r:=by
 have key:∀d n,m-n=d→n≤m→(n≤2→2<m→hdS t≠notS)→(n≤6→6<m→hdS t≠minusS)→stop n (hdS r)→pr (.lvl n) t=.ok y r:=by
  intro d
  induction d with
  | zero=>intro n hd hn _ _ _;obtain rfl:n=m:=by omega
          exact h
  | succ d ih=>
   intro n hd hn h2 h6 hs
   have ih':=ih (n+1) (by omega) (by omega) (fun a b=>h2 (by omega) b) (fun a b=>h6 (by omega) b) (stop_mono hs (by omega))
   by_cases e2:n=2
   ·subst e2
    rw[pr_not' (h2 (by omega) (by omega))];exact ih'
   by_cases e6:n=6
   ·subst e6
    rw[pr_neg' (h6 (by omega) (by omega))];exact ih'
   rw[pr_bin (by unfold binL;omega),ih']
   exact pr_stop (hs n (Nat.le_refl _) (by omega))
 exact fun n=>key _ n rfl
theorem pr_upL {m:Nat} (hm:m≤7) {t:List Tk} {y:Ex} {r:List Tk} (h:pr (.lvl m) t=.ok y r) {n:Nat} (hb:binL n) (hn:n<m) (h2:n≤2→2<m→hdS t≠notS) (h6:n≤6→6<m→hdS t≠minusS)
  (hs:stop (n+1) (hdS r)):pr (.lvl n) t=pr (.loop n y) r:=by
 rw[pr_bin hb,pr_up hm h (n+1) (by omega) (fun a b=>h2 (by omega) b) (fun a b=>h6 (by omega) b) hs]
end Go.Proofs
/- The words of an expression are read as the expression. -/
set_option maxRecDepth 100000
namespace Go.Proofs
open Go Go.Ab
/-! Expressions without offsets. -/
mutual
def noA:Ex→Ex
 | .mk k s n d _ l=>.mk k s n d 0 (noAL l)
def noAL:List Ex→List Ex
 | []=>[]
 | x :: l=>noA x :: noAL l
end
theorem noA_eq (x:Ex):noA x=.mk x.k x.s x.n x.d 0 (noAL x.kids):=by cases x;simp only[noA,Ex.k,Ex.s,Ex.n,Ex.d,Ex.kids]
/-! The words of an expression. -/
def wtk (v:Int) (p:Int×List ByteArray):List ByteArray:=if p.1<v then opnS :: (p.2++[clsS]) else p.2
def k0 (l:List (Int×List ByteArray)) (i:Nat):Int×List ByteArray:=l.getD i (0,[])
def sepC:List (List ByteArray)→List ByteArray
 | []=>[]
 | [x]=>x
 | x :: y :: l=>x++commaS :: sepC (y :: l)
def tkK (k:Int) (s:ByteArray) (n d:Int) (fl:List (Int×List ByteArray)):List ByteArray:=
 if k=1 then [numT n d] else if k=2 then [s] else if k=3 then [trueS] else if k=4 then [falseS]
 else if k=5 then minusS :: wtk 6 (k0 fl 0) else if k=18 then notS :: wtk 2 (k0 fl 0)
 else if k=10 then minS :: opnS :: (sepC (fl.map (·.2))++[clsS])
 else if k=11 then maxS :: opnS :: (sepC (fl.map (·.2))++[clsS])
 else wtk (fstL k) (k0 fl 0)++opS k :: wtk (lvI k+1) (k0 fl 1)
mutual
def tkE:Ex→List ByteArray
 | .mk k s n d _ l=>tkK k s n d (tkL l)
def tkL:List Ex→List (Int×List ByteArray)
 | []=>[]
 | x :: l=>(lvI x.k,tkE x) :: tkL l
end
theorem tkE_eq (x:Ex):tkE x=tkK x.k x.s x.n x.d (tkL x.kids):=by cases x;simp only[tkE,Ex.k,Ex.s,Ex.n,Ex.d,Ex.kids]
/-! What kinds there are. -/
inductive SndC (x:Ex):Prop
 | num (hk:x.k=1) (h:numB x.n x.d=true) (hs:x.s=.empty) (hl:x.kids=[])
 | name (hk:x.k=2) (h:nameB x.s=true) (hn:x.n=0) (hd:x.d=0) (hl:x.kids=[])
 | truth (hk:x.k=3∨x.k=4) (hs:x.s=.empty) (hn:x.n=0) (hd:x.d=0) (hl:x.kids=[])
 | one (hk:x.k=5∨x.k=18) (hs:x.s=.empty) (hn:x.n=0) (hd:x.d=0) (a:Ex) (hl:x.kids=[a]) (ha:sndE a=true)
 | many (hk:x.k=10∨x.k=11) (hs:x.s=.empty) (hn:x.n=0) (hd:x.d=0) (hl:x.kids≠[]) (ha:∀a∈x.kids,sndE a=true)
 | two (hk:opB x.k=true) (hs:x.s=.empty) (hn:x.n=0) (hd:x.d=0) (a b:Ex) (hl:x.kids=[a,b]) (ha:sndE a=true) (hb:sndE b=true)
theorem sndL_all:∀l:List Ex,sndL l=true→∀a∈l,sndE a=true
 | [],_,a,h=>by simp at h
 | x :: l,h,a,ha=>by
  simp only[sndL,bAt] at h
  rcases List.mem_cons.1 ha with rfl|ha
  ·exact h.1
  ·exact sndL_all l h.2 a ha
theorem empty_of {s:ByteArray} (h:s.size=0):s=.empty:=by
 rcases s with ⟨⟨l⟩⟩
 have:l.length=0:=h
 obtain rfl:=List.length_eq_zero_iff.1 this
 rfl
theorem len_two {l:List Ex} (h:l.length=2):∃a b,l=[a,b]:=by
 match l,h with
 | [a,b],_=>exact⟨a,b,rfl⟩
theorem snd_cases {x:Ex} (h:sndE x=true):SndC x:=by
 rw[sndE_eq] at h
 unfold sndK kdK at h
 split at h
 ·simp only[bAt,decide_eq_true_eq] at h
  exact .num (by assumption) h.1.1 (empty_of h.1.2) (List.eq_nil_of_length_eq_zero h.2)
 split at h
 ·simp only[bAt,decide_eq_true_eq,beq_iff_eq] at h
  exact .name (by assumption) h.1.1 h.1.2.1 h.1.2.2 (List.eq_nil_of_length_eq_zero h.2)
 split at h
 ·simp only[bAt,decide_eq_true_eq,beq_iff_eq] at h
  exact .truth (by assumption) (empty_of h.1.1.1.1) h.1.1.1.2.1 h.1.1.1.2.2 (List.eq_nil_of_length_eq_zero (by omega))
 split at h
 ·simp only[bAt,decide_eq_true_eq,beq_iff_eq] at h
  obtain ⟨a,ha⟩:=List.length_eq_one_iff.1 (show x.kids.length=1 by omega)
  exact .one (by assumption) (empty_of h.1.1.1.1) h.1.1.1.2.1 h.1.1.1.2.2 a ha (sndL_all _ h.2 a (by rw[ha];simp))
 split at h
 ·simp only[bAt,decide_eq_true_eq,beq_iff_eq] at h
  exact .many (by assumption) (empty_of h.1.1.1.1) h.1.1.1.2.1 h.1.1.1.2.2 (fun e=>by rw[e] at h;simp at h) (sndL_all _ h.2)
 ·simp only[bAt,decide_eq_true_eq,beq_iff_eq] at h
  obtain ⟨h0,h⟩:=h
  obtain ⟨a,b,ha⟩:=len_two (show x.kids.length=2 by omega)
  exact .two h0 (empty_of h.1.1.1.1) h.1.1.1.2.1 h.1.1.1.2.2 a b ha (sndL_all _ h.2 a (by rw[ha];simp)) (sndL_all _ h.2 b (by rw[ha];simp))
def stopB (n:Nat) (s:ByteArray):Bool:=(List.range 6).all fun m=>decide (m<n)||!opAt m s
theorem stop_of {n:Nat} {s:ByteArray} (h:stopB n s=true):stop n s:=by
 intro m h1 h2
 have:=List.all_eq_true.1 h m (List.mem_range.2 (by omega))
 simp only[Bool.or_eq_true,decide_eq_true_eq,Bool.not_eq_true'] at this
 rcases this with h|h
 ·omega
 ·exact h
structure OpF (k:Int) (n:Nat):Prop where
 bin:binL n
 lv:lvI k=n
 at_:opAt n (opS k)=true
 st:stop (n+1) (opS k)
 kd:opK (opS k)=k
 fs:fstL k=(if n=3 then 4 else n:Nat)
 no:k≠1∧k≠2∧k≠3∧k≠4∧k≠5∧k≠18∧k≠10∧k≠11
theorem op_facts {k:Int} (h:opB k=true):∃n,OpF k n:=by
 have:k=6∨k=7∨k=8∨k=9∨k=12∨k=13∨k=14∨k=15∨k=16∨k=17∨k=19∨k=20:=by
  unfold opB at h;simp only[decide_eq_true_eq] at h;omega
 rcases this with rfl|rfl|rfl|rfl|rfl|rfl|rfl|rfl|rfl|rfl|rfl|rfl
 ·exact⟨4,by simp[binL],by decide +kernel,by decide +kernel,stop_of (by decide +kernel),by decide +kernel,by decide +kernel,by decide⟩
 ·exact⟨4,by simp[binL],by decide +kernel,by decide +kernel,stop_of (by decide +kernel),by decide +kernel,by decide +kernel,by decide⟩
 ·exact⟨5,by simp[binL],by decide +kernel,by decide +kernel,stop_of (by decide +kernel),by decide +kernel,by decide +kernel,by decide⟩
 ·exact⟨5,by simp[binL],by decide +kernel,by decide +kernel,stop_of (by decide +kernel),by decide +kernel,by decide +kernel,by decide⟩
 ·exact⟨3,by simp[binL],by decide +kernel,by decide +kernel,stop_of (by decide +kernel),by decide +kernel,by decide +kernel,by decide⟩
 ·exact⟨3,by simp[binL],by decide +kernel,by decide +kernel,stop_of (by decide +kernel),by decide +kernel,by decide +kernel,by decide⟩
 ·exact⟨3,by simp[binL],by decide +kernel,by decide +kernel,stop_of (by decide +kernel),by decide +kernel,by decide +kernel,by decide⟩
 ·exact⟨3,by simp[binL],by decide +kernel,by decide +kernel,stop_of (by decide +kernel),by decide +kernel,by decide +kernel,by decide⟩
 ·exact⟨3,by simp[binL],by decide +kernel,by decide +kernel,stop_of (by decide +kernel),by decide +kernel,by decide +kernel,by decide⟩
 ·exact⟨3,by simp[binL],by decide +kernel,by decide +kernel,stop_of (by decide +kernel),by decide +kernel,by decide +kernel,by decide⟩
 ·exact⟨1,by simp[binL],by decide +kernel,by decide +kernel,stop_of (by decide +kernel),by decide +kernel,by decide +kernel,by decide⟩
 ·exact⟨0,by simp[binL],by decide +kernel,by decide +kernel,stop_of (by decide +kernel),by decide +kernel,by decide +kernel,by decide⟩
theorem lv_seven {k:Int} (h:k=1∨k=2∨k=3∨k=4∨k=10∨k=11):lvI k=7:=by
 rcases h with rfl|rfl|rfl|rfl|rfl|rfl<;>decide +kernel
/-! Reading the words. -/
theorem hd_map (t:List Tk):hdS t=(t.map (·.1)).headD .empty:=by cases t<;>rfl
theorem tl_map (t:List Tk):t.tail.map (·.1)=(t.map (·.1)).tail:=by cases t<;>rfl
def Rd (n:Nat) (T:List ByteArray) (x:Ex):Prop:=∀(t:List Tk) (R:List ByteArray),t.map (·.1)=T++R→stop n (R.headD .empty)→∃y r,pr (.lvl n) t=.ok y r∧noA y=noA x∧r.map (·.1)=R
def RdL (n:Nat) (T:List ByteArray) (x:Ex):Prop:=∀(t:List Tk) (R:List ByteArray),t.map (·.1)=T++R→stop (n+1) (R.headD .empty)→∃y r,pr (.lvl n) t=pr (.loop n y) r∧noA y=noA x∧r.map (·.1)=R
def HdC (x:Ex):Prop:=∃c L,tkE x=c :: L∧(lvI x.k>2→c≠notS)∧(lvI x.k>6→c≠minusS)
def binA (n:Nat):Prop:=n=0∨n=1∨n=4∨n=5
theorem binA.L {n:Nat} (h:binA n):binL n:=by unfold binA at h;unfold binL;omega
structure Reads (x:Ex):Prop where
 lv:∃n:Nat,n≤7∧lvI x.k=n
 hd:HdC x
 rd:∀n:Nat,(n:Int)≤lvI x.k→Rd n (tkE x) x∧(binA n→RdL n (tkE x) x)
theorem reads_of {x:Ex} {m:Nat} (hm:m≤7) (hl:lvI x.k=m) (hd:HdC x) (h:Rd m (tkE x) x) (hL:binA m→RdL m (tkE x) x):Reads x:=by
 refine⟨⟨m,hm,hl⟩,hd,fun n hn=>?_⟩
 have hn:n≤m:=by omega
 obtain ⟨c,L,hc,h2,h6⟩:=hd
 have hh:∀(t:List Tk) (R:List ByteArray),t.map (·.1)=tkE x++R→hdS t=c:=fun t R e=>by rw[hd_map,e,hc];rfl
 refine⟨fun t R e hs=>?_,fun hb=>?_⟩
 ·obtain ⟨y,r,e1,e2,e3⟩:=h t R e (stop_mono hs hn)
  exact⟨y,r,pr_up hm e1 n hn (fun _ b=>by rw[hh t R e];exact h2 (by omega)) (fun _ b=>by rw[hh t R e];exact h6 (by omega)) (by rw[hd_map,e3];exact hs),e2,e3⟩
 ·by_cases hnm:n=m
  ·subst hnm;exact hL hb
  intro t R e hs
  obtain ⟨y,r,e1,e2,e3⟩:=h t R e (stop_mono hs (by omega))
  exact⟨y,r,pr_upL hm e1 hb.L (by omega) (fun _ b=>by rw[hh t R e];exact h2 (by omega)) (fun _ b=>by rw[hh t R e];exact h6 (by omega)) (by rw[hd_map,e3];exact hs),e2,e3⟩
theorem stop_cls:stop 0 clsS:=stop_of (by decide +kernel)
theorem stop_comma:stop 0 commaS:=stop_of (by decide +kernel)
theorem reads_par {x:Ex} (h:Reads x) {n:Nat} (hn:n≤7):Rd n (opnS :: (tkE x++[clsS])) x∧(binA n→RdL n (opnS :: (tkE x++[clsS])) x):=by
 have key:∀(t:List Tk) (R:List ByteArray),t.map (·.1)=opnS :: (tkE x++[clsS])++R→hdS t=opnS∧∃y r,pr (.lvl 7) t=.ok y r∧noA y=noA x∧r.map (·.1)=R:=by
  intro t R e
  have h1:hdS t=opnS:=by rw[hd_map,e];rfl
  obtain ⟨m,_,hm⟩:=h.lv
  obtain ⟨y,r,e1,e2,e3⟩:=(h.rd 0 (by omega)).1 t.tail (clsS :: R) (by rw[tl_map,e];simp) stop_cls
  refine⟨h1,y,r.tail,?_,e2,by rw[tl_map,e3];rfl⟩
  rw[pr_seven,pr_prim,if_pos h1,e1]
  try dsimp only
  rw[if_pos (by rw[hd_map,e3];rfl)]
 have hno:opnS≠notS:=by decide
 have hmi:opnS≠minusS:=by decide
 refine⟨fun t R e hs=>?_,fun hb t R e hs=>?_⟩
 ·obtain ⟨h1,y,r,e1,e2,e3⟩:=key t R e
  exact⟨y,r,pr_up (Nat.le_refl 7) e1 n hn (fun _ _=>by rw[h1];exact hno) (fun _ _=>by rw[h1];exact hmi) (by rw[hd_map,e3];exact hs),e2,e3⟩
 ·obtain ⟨h1,y,r,e1,e2,e3⟩:=key t R e
  exact⟨y,r,pr_upL (Nat.le_refl 7) e1 hb.L (by unfold binA at hb;omega) (fun _ _=>by rw[h1];exact hno) (fun _ _=>by rw[h1];exact hmi) (by rw[hd_map,e3];exact hs),e2,e3⟩
theorem reads_w {x:Ex} (h:Reads x) {v:Int} {n:Nat} (hv:(n:Int)≤v) (hn:n≤7):Rd n (wtk v (lvI x.k,tkE x)) x∧(binA n→RdL n (wtk v (lvI x.k,tkE x)) x):=by
 unfold wtk
 split
 ·exact reads_par h hn
 ·rename_i hlt
  exact h.rd n (by omega)
end Go.Proofs
/- The words of an expression are read as the expression: all kinds. -/
set_option maxRecDepth 100000
namespace Go.Proofs
open Go Go.Ab
theorem dig_no {s u:ByteArray} (h:digB (byteAt s 0)=true) (hu:digB (byteAt u 0)=false):s≠u:=by
 rintro rfl;rw[h] at hu;cases hu
theorem name_no {s u:ByteArray} (h:nameB s=true) (hu:nameB u=false):s≠u:=by
 rintro rfl;rw[h] at hu;cases hu
theorem name_dig {s:ByteArray} (h:nameB s=true):digB (byteAt s 0)=false:=by
 unfold nameB letB at h
 simp only[bAt,decide_eq_true_eq] at h
 obtain ⟨_,_,h,_⟩:=h
 unfold digB
 rw[decide_eq_false (p:=byteAt s 0≤57) (by omega),Bool.and_false]
theorem not_bin7:¬binA 7:=by unfold binA;omega
theorem reads_leaf {x:Ex} {c:ByteArray} (hl:lvI x.k=7) (ht:tkE x=[c]) (h1:c≠notS∧c≠minusS∧c≠opnS∧c≠minS∧c≠maxS)
  (hr:∀t:List Tk,hdS t=c→∃y,leafX t=.ok y t.tail∧noA y=noA x):Reads x:=by
 refine reads_of (m:=7) (by omega) hl ⟨c,[],ht,fun _=>h1.1,fun _=>h1.2.1⟩ (fun t R e hs=>?_) fun hb=>absurd hb not_bin7
 have hh:hdS t=c:=by rw[hd_map,e,ht];rfl
 obtain ⟨y,e1,e2⟩:=hr t hh
 refine⟨y,t.tail,?_,e2,by rw[tl_map,e,ht];rfl⟩
 rw[pr_seven,pr_prim,if_neg (by rw[hh];exact h1.2.2.1),if_neg (by rw[hh];exact fun h=>h.elim h1.2.2.2.1 h1.2.2.2.2)]
 exact e1
theorem tkL_two (l:List Ex):(tkL l).map (·.2)=l.map tkE:=by
 induction l with
 | nil=>rfl
 | cons x l ih=>simp only[tkL,List.map_cons,ih]
theorem reads_args:∀(L:List Ex) (x:Ex),L≠[]→(∀a∈L,Reads a)→∀(t:List Tk) (R:List ByteArray),t.map (·.1)=sepC (L.map tkE)++clsS :: R→
  ∃l r,pr (.args x) t=.ok (.mk x.k x.s x.n x.d x.pos (x.kids++l)) r∧noAL l=noAL L∧r.map (·.1)=R:=by
 intro L
 induction L with
 | nil=>intro x h;exact absurd rfl h
 | cons a L ih=>
  intro x _ hr t R e
  have ha:=hr a (by simp)
  obtain ⟨m,_,hm⟩:=ha.lv
  have hR:=(ha.rd 0 (by omega)).1
  cases L with
  | nil=>
   obtain ⟨y,r,e1,e2,e3⟩:=hR t (clsS :: R) (by rw[e];rfl) stop_cls
   refine⟨[y],r.tail,?_,by simp only[noAL,e2],by rw[tl_map,e3];rfl⟩
   rw[pr_args,e1]
   have h1:hdS r=clsS:=by rw[hd_map,e3];rfl
   try dsimp only
   rw[if_neg (by rw[h1];decide),if_pos h1];rfl
  | cons b L=>
   obtain ⟨y,r,e1,e2,e3⟩:=hR t (commaS :: (sepC ((b :: L).map tkE)++clsS :: R)) (by rw[e];simp[sepC]) stop_comma
   have h1:hdS r=commaS:=by rw[hd_map,e3];rfl
   obtain ⟨l,r',f1,f2,f3⟩:=ih (addK x y) (by simp) (fun c hc=>hr c (List.mem_cons_of_mem _ hc)) r.tail R (by rw[tl_map,e3];rfl)
   refine⟨y :: l,r',?_,by simp only[noAL,e2,f2],f3⟩
   rw[pr_args,e1]
   try dsimp only
   rw[if_pos h1,f1]
   simp only[addK,Ex.k,Ex.s,Ex.n,Ex.d,Ex.pos,Ex.kids,List.append_assoc,List.singleton_append]
theorem reads:∀(m:Nat) (x:Ex),ht x≤m→sndE x=true→Reads x:=by
 intro m
 induction m with
 | zero=>?_
 | succ m ih=>?_
 all_goals
  intro x hx hsn
  have ih':∀a∈x.kids,sndE a=true→Reads a:=by
   intro a ha hs
   have:=ht_mem ha
   rw[←ht_eq] at this
   first
    | exact ih a (by omega) hs
    | omega
  clear hx
  rcases snd_cases hsn with ⟨hk,h,hs,hl⟩|⟨hk,h,hn,hd,hl⟩|⟨hk,hs,hn,hd,hl⟩|⟨hk,hs,hn,hd,a,hl,ha⟩|⟨hk,hs,hn,hd,hl,ha⟩|⟨hk,hs,hn,hd,a,b,hl,ha,hb⟩
  ·obtain ⟨q1,q2⟩:=num_reads h
   refine reads_leaf (c:=numT x.n x.d) (lv_seven (by omega)) (by rw[tkE_eq];simp[tkK,hk]) ⟨dig_no q1 (by decide +kernel),dig_no q1 (by decide +kernel),dig_no q1 (by decide +kernel),dig_no q1 (by decide +kernel),dig_no q1 (by decide +kernel)⟩ fun t e=>?_
   refine⟨_,by unfold leafX;rw[if_neg (by rw[e];exact dig_no q1 (by decide +kernel)),if_neg (by rw[e];exact dig_no q1 (by decide +kernel)),if_pos (by rw[e];exact q1)],?_⟩
   rw[noA_eq x,hk,hs,hl,e,q2];rfl
  ·refine reads_leaf (c:=x.s) (lv_seven (by omega)) (by rw[tkE_eq];simp[tkK,hk]) ⟨name_no h (by decide +kernel),name_no h (by decide +kernel),name_no h (by decide +kernel),name_no h (by decide +kernel),name_no h (by decide +kernel)⟩ fun t e=>?_
   refine⟨_,by unfold leafX;rw[if_neg (by rw[e];exact name_no h (by decide +kernel)),if_neg (by rw[e];exact name_no h (by decide +kernel)),if_neg (by rw[e,name_dig h];decide),if_pos (by rw[e];exact h)],?_⟩
   rw[noA_eq x,hk,hn,hd,hl,e];rfl
  ·rcases hk with hk|hk
   ·refine reads_leaf (c:=trueS) (lv_seven (by omega)) (by rw[tkE_eq];simp[tkK,hk]) (by decide +kernel) fun t e=>?_
    refine⟨_,by unfold leafX;rw[if_pos e],?_⟩
    rw[noA_eq x,hk,hs,hn,hd,hl];rfl
   ·refine reads_leaf (c:=falseS) (lv_seven (by omega)) (by rw[tkE_eq];simp[tkK,hk]) (by decide +kernel) fun t e=>?_
    refine⟨_,by unfold leafX;rw[if_neg (by rw[e];decide +kernel),if_pos e],?_⟩
    rw[noA_eq x,hk,hs,hn,hd,hl];rfl
  ·have hA:=ih' a (by rw[hl];simp) ha
   rcases hk with hk|hk
   ·have ht:tkE x=minusS :: wtk 6 (lvI a.k,tkE a):=by rw[tkE_eq,hl];simp[tkK,hk,tkL,k0]
    refine reads_of (m:=6) (by omega) (by rw[hk];decide +kernel) ⟨_,_,ht,fun _=>by decide,fun h=>absurd h (by rw[hk];decide +kernel)⟩ (fun t R e hs'=>?_) fun hb=>absurd hb (by unfold binA;omega)
    obtain ⟨y,r,e1,e2,e3⟩:=(reads_w hA (v:=6) (n:=6) (by omega) (by omega)).1 t.tail R (by rw[tl_map,e,ht];rfl) hs'
    refine⟨_,r,by rw[pr_neg (by rw[hd_map,e,ht];rfl),e1];rfl,?_,e3⟩
    rw[noA_eq x,hk,hs,hn,hd,hl]
    simp only[noA,noAL,e2]
   ·have ht:tkE x=notS :: wtk 2 (lvI a.k,tkE a):=by rw[tkE_eq,hl];simp[tkK,hk,tkL,k0]
    refine reads_of (m:=2) (by omega) (by rw[hk];decide +kernel) ⟨_,_,ht,fun h=>absurd h (by rw[hk];decide +kernel),fun h=>absurd h (by rw[hk];decide +kernel)⟩ (fun t R e hs'=>?_) fun hb=>absurd hb (by unfold binA;omega)
    obtain ⟨y,r,e1,e2,e3⟩:=(reads_w hA (v:=2) (n:=2) (by omega) (by omega)).1 t.tail R (by rw[tl_map,e,ht];rfl) hs'
    refine⟨_,r,by rw[pr_not (by rw[hd_map,e,ht];rfl),e1];rfl,?_,e3⟩
    rw[noA_eq x,hk,hs,hn,hd,hl]
    simp only[noA,noAL,e2]
  ·have hA:∀a∈x.kids,Reads a:=fun a h=>ih' a h (ha a h)
   rcases hk with hk|hk
   ·have ht:tkE x=minS :: opnS :: (sepC (x.kids.map tkE)++[clsS]):=by rw[tkE_eq,←tkL_two];simp[tkK,hk]
    refine reads_of (m:=7) (by omega) (lv_seven (by omega)) ⟨_,_,ht,fun _=>by decide,fun _=>by decide⟩ (fun t R e hs'=>?_) fun hb=>absurd hb not_bin7
    have h1:hdS t=minS:=by rw[hd_map,e,ht];rfl
    obtain ⟨l,r,e1,e2,e3⟩:=reads_args x.kids (.mk 10 .empty 0 0 (hdA 0 t) []) hl hA t.tail.tail R (by rw[tl_map,tl_map,e,ht];simp)
    refine⟨.mk 10 .empty 0 0 (hdA 0 t) l,r,?_,?_,e3⟩
    ·rw[pr_seven,pr_prim,if_neg (by rw[h1];decide),if_pos (Or.inl h1),if_pos (by rw[hd_map,tl_map,e,ht];rfl),if_neg (by rw[h1];decide),e1];rfl
    ·rw[noA_eq x,hk,hs,hn,hd]
     simp only[noA,e2]
   ·have ht:tkE x=maxS :: opnS :: (sepC (x.kids.map tkE)++[clsS]):=by rw[tkE_eq,←tkL_two];simp[tkK,hk]
    refine reads_of (m:=7) (by omega) (lv_seven (by omega)) ⟨_,_,ht,fun _=>by decide,fun _=>by decide⟩ (fun t R e hs'=>?_) fun hb=>absurd hb not_bin7
    have h1:hdS t=maxS:=by rw[hd_map,e,ht];rfl
    obtain ⟨l,r,e1,e2,e3⟩:=reads_args x.kids (.mk 11 .empty 0 0 (hdA 0 t) []) hl hA t.tail.tail R (by rw[tl_map,tl_map,e,ht];simp)
    refine⟨.mk 11 .empty 0 0 (hdA 0 t) l,r,?_,?_,e3⟩
    ·rw[pr_seven,pr_prim,if_neg (by rw[h1];decide),if_pos (Or.inr h1),if_pos (by rw[hd_map,tl_map,e,ht];rfl),if_pos h1,e1];rfl
    ·rw[noA_eq x,hk,hs,hn,hd]
     simp only[noA,e2]
  ·have hA:=ih' a (by rw[hl];simp) ha
   have hB:=ih' b (by rw[hl];simp) hb
   obtain ⟨n,F⟩:=op_facts hk
   have n5:n≤5:=by have:=F.bin;unfold binL at this;omega
   have ht:tkE x=wtk (fstL x.k) (lvI a.k,tkE a)++opS x.k :: wtk (lvI x.k+1) (lvI b.k,tkE b):=by
    rw[tkE_eq,hl]
    obtain ⟨h1,h2,h3,h4,h5,h6,h7,h8⟩:=F.no
    simp[tkK,h1,h2,h3,h4,h5,h6,h7,h8,tkL,k0]
   have hd':HdC x:=by
    obtain ⟨c,L,hc,h2,h6⟩:=hA.hd
    unfold HdC
    rw[ht]
    unfold wtk
    split
    ·exact⟨_,_,rfl,fun _=>by decide,fun _=>by decide⟩
    ·rename_i hlt
     have hf:=F.fs
     have hv:=F.lv
     have:lvI x.k≤lvI a.k:=by
      rw[hf] at hlt;split at hlt<;>omega
     try dsimp only
     rw[hc]
     exact⟨c,_,rfl,fun h=>h2 (by omega),fun h=>h6 (by omega)⟩
   have go:∀(R:List ByteArray) (y:Ex) (r:List Tk),r.map (·.1)=opS x.k :: (wtk (lvI x.k+1) (lvI b.k,tkE b)++R)→noA y=noA a→stop (n+1) (R.headD .empty)→
     ∃z r',pr (.loop n y) r=(if n=3 then .ok (.mk x.k .empty 0 0 (hdA 0 r) [y,z]) r' else pr (.loop n (.mk x.k .empty 0 0 (hdA 0 r) [y,z])) r')∧noA (.mk x.k .empty 0 0 (hdA 0 r) [y,z])=noA x∧r'.map (·.1)=R:=by
    intro R y r er hy hs'
    have hh:hdS r=opS x.k:=by rw[hd_map,er];rfl
    obtain ⟨z,r',e1,e2,e3⟩:=(reads_w hB (v:=lvI x.k+1) (n:=n+1) (by have:=F.lv;omega) (by omega)).1 r.tail R (by rw[tl_map,er];rfl) hs'
    refine⟨z,r',?_,?_,e3⟩
    ·rw[pr_go n5 (by rw[hh];exact F.at_),e1]
     try dsimp only
     rw[hh,F.kd]
    ·rw[noA_eq x,hs,hn,hd,hl]
     simp only[noA,noAL,hy,e2]
   have hfs:=F.fs
   by_cases h3:n=3
   ·subst h3
    refine reads_of (m:=3) (by omega) F.lv hd' (fun t R e hs'=>?_) fun hb=>absurd hb (by unfold binA;omega)
    ·obtain ⟨y,r,e1,e2,e3⟩:=(reads_w hA (v:=fstL x.k) (n:=4) (by rw[hfs];simp) (by omega)).1 t (opS x.k :: (wtk (lvI x.k+1) (lvI b.k,tkE b)++R)) (by rw[e,ht];simp) F.st
     obtain ⟨z,r',f1,f2,f3⟩:=go R y r e3 e2 (stop_mono hs' (by omega))
     rw[if_pos rfl] at f1
     exact⟨_,r',by rw[pr_bin F.bin,e1];exact f1,f2,f3⟩
   ·have hA':binA n:=by have:=F.bin;unfold binL at this;unfold binA;omega
    rw[if_neg h3] at hfs
    have hL:RdL n (tkE x) x:=by
     intro t R e hs'
     obtain ⟨y,r,e1,e2,e3⟩:=(reads_w hA (v:=fstL x.k) (n:=n) (by omega) (by omega)).2 hA' t (opS x.k :: (wtk (lvI x.k+1) (lvI b.k,tkE b)++R)) (by rw[e,ht];simp) F.st
     obtain ⟨z,r',f1,f2,f3⟩:=go R y r e3 e2 hs'
     rw[if_neg h3] at f1
     exact⟨_,r',by rw[e1,f1],f2,f3⟩
    refine reads_of (m:=n) (by omega) F.lv hd' (fun t R e hs'=>?_) fun _=>hL
    obtain ⟨y,r,e1,e2,e3⟩:=hL t R e (stop_mono hs' (by omega))
    exact⟨y,r,by rw[e1];exact pr_stop (by rw[hd_map,e3];exact hs' n (Nat.le_refl _) n5),e2,e3⟩
end Go.Proofs
/- Rules,read. -/
set_option maxRecDepth 100000
namespace Go.Proofs
open Go Go.Ab
def inS:ByteArray:=⟨#[105,110]⟩
def ifS:ByteArray:=⟨#[105,102]⟩
def colonS:ByteArray:=⟨#[58]⟩
def semiS:ByteArray:=⟨#[59]⟩
inductive Rr where
 | ok (x:Rl) (r:List Tk)
 | bad (r:List Tk)
def restR:Rr→List Tk
 | .ok _ r=>r
 | .bad r=>r
def ruD (kd:Int) (nm gr:ByteArray) (pos:Int) (am wh:Ex) (t:List Tk):Rr:=
 if hdS t=semiS then .ok ⟨kd,nm,gr,am,wh,pos,ht am,ht wh⟩ t.tail else .bad t
def ruC (kd:Int) (nm gr:ByteArray) (pos:Int) (am:Ex) (t:List Tk):Rr:=
 if hdS t=ifS then match pr (.lvl 0) t.tail with
  | .ok wh r=>ruD kd nm gr pos am wh r
  | .bad r=>.bad r
 else ruD kd nm gr pos am ex0 t
def ruG (kd:Int) (nm gr:ByteArray) (pos:Int) (t:List Tk):Rr:=
 if hdS t=colonS then match pr (.lvl 0) t.tail with
  | .ok am r=>ruC kd nm gr pos am r
  | .bad r=>.bad r
 else .bad t
def ruN (kd:Int) (nm:ByteArray) (pos:Int) (t:List Tk):Rr:=
 if hdS t=inS then if nameB (hdS t.tail)=true then ruG kd nm (hdS t.tail) pos t.tail.tail else .bad t.tail
 else ruG kd nm .empty pos t
def ruP (t:List Tk):Rr:=
 if anyB kdL (hdS t)=true then if nameB (hdS t.tail)=true then ruN (indN kdL (hdS t)) (hdS t.tail) (hdA 0 t) t.tail.tail else .bad t.tail
 else .bad t
theorem ruD_le (kd:Int) (nm gr:ByteArray) (pos:Int) (am wh:Ex) (t:List Tk):(restR (ruD kd nm gr pos am wh t)).length≤t.length:=by
 unfold ruD;split
 ·exact tail_le t
 ·exact Nat.le_refl _
theorem ruC_le (kd:Int) (nm gr:ByteArray) (pos:Int) (am:Ex) (t:List Tk):(restR (ruC kd nm gr pos am t)).length≤t.length:=by
 have:=tail_le t
 have h:=pr_le (.lvl 0) t.tail
 unfold ruC;split
 ·cases e:pr (.lvl 0) t.tail with
  | ok wh r=>
   rw[e] at h;simp only[restOf] at h
   have:=ruD_le kd nm gr pos am wh r
   dsimp only;omega
  | bad r=>rw[e] at h;simp only[restOf,restR] at h⊢;omega
 ·exact ruD_le _ _ _ _ _ _ _
theorem ruG_le (kd:Int) (nm gr:ByteArray) (pos:Int) (t:List Tk):(restR (ruG kd nm gr pos t)).length≤t.length:=by
 have:=tail_le t
 have h:=pr_le (.lvl 0) t.tail
 unfold ruG;split
 ·cases e:pr (.lvl 0) t.tail with
  | ok am r=>
   rw[e] at h;simp only[restOf] at h
   have:=ruC_le kd nm gr pos am r
   dsimp only;omega
  | bad r=>rw[e] at h;simp only[restOf,restR] at h⊢;omega
 ·exact Nat.le_refl _
theorem ruN_le (kd:Int) (nm:ByteArray) (pos:Int) (t:List Tk):(restR (ruN kd nm pos t)).length≤t.length:=by
 have:=tail_le t
 have:=tail_le t.tail
 unfold ruN;split
 ·split
  ·have:=ruG_le kd nm (hdS t.tail) pos t.tail.tail;omega
  ·simpa only[restR] using tail_le t
 ·exact ruG_le _ _ _ _ _
theorem kd_ne {s:ByteArray} (h:anyB kdL s=true):s≠.empty:=by
 rintro rfl;exact absurd h (by decide +kernel)
theorem ruP_lt {t:List Tk} {x:Rl} {r:List Tk} (h:ruP t=.ok x r):r.length<t.length:=by
 unfold ruP at h
 split at h
 ·rename_i hk
  have h1:=tail_len (kd_ne hk)
  have h2:=tail_le t.tail
  split at h
  ·have:=ruN_le (indN kdL (hdS t)) (hdS t.tail) (hdA 0 t) t.tail.tail
   rw[h] at this;simp only[restR] at this;omega
  ·cases h
 ·cases h
inductive Ps where
 | ok (l:List Rl)
 | bad (r:List Tk)
def Ps.cons (x:Rl):Ps→Ps
 | .ok l=>.ok (x :: l)
 | .bad r=>.bad r
def rus:Nat→List Tk→Ps
 | _,[]=>.ok []
 | 0,t=>.bad t
 | k+1,w :: t=>match ruP (w :: t) with
  | .ok x r=>(rus k r).cons x
  | .bad r=>.bad r
theorem rus_st:∀(k k':Nat) (t:List Tk),t.length≤k→t.length≤k'→rus k t=rus k' t:=by
 intro k
 induction k with
 | zero=>
  intro k' t h _
  obtain rfl:=List.length_eq_zero_iff.1 (Nat.le_zero.1 h)
  cases k'<;>rfl
 | succ k ih=>
  intro k' t h h'
  cases t with
  | nil=>cases k'<;>rfl
  | cons w t=>
   obtain ⟨k',rfl⟩:∃j,k'=j+1:=⟨k' - 1,by simp only[List.length_cons] at h';omega⟩
   simp only[List.length_cons] at h h'
   simp only[rus]
   cases e:ruP (w :: t) with
   | ok x r=>
    have:=ruP_lt e
    simp only[List.length_cons] at this
    try dsimp only
    rw[ih k' r (by omega) (by omega)]
   | bad r=>rfl
def prR (t:List Tk):Ps:=rus t.length t
theorem prR_cons {t:List Tk} (h:t≠[]):prR t=match ruP t with
  | .ok x r=>(prR r).cons x
  | .bad r=>.bad r:=by
 cases t with
 | nil=>exact absurd rfl h
 | cons w t=>
  unfold prR
  simp only[List.length_cons,rus]
  cases e:ruP (w :: t) with
  | ok x r=>
   have:=ruP_lt e
   simp only[List.length_cons] at this
   try dsimp only
   rw[rus_st t.length r.length r (by omega) (Nat.le_refl _)]
  | bad r=>rfl
/-! Written rules are read again. -/
def sameR (x y:Rl):Prop:=x.kind=y.kind∧x.nm=y.nm∧x.gr=y.gr∧noA x.am=noA y.am∧noA x.wh=noA y.wh
def tkR (r:Rl):List ByteArray:=kdL.getD r.kind.toNat .empty :: r.nm :: ((if r.gr.size=0 then [] else [inS,r.gr])++colonS :: (tkE r.am++((if r.wh.k=0 then [] else ifS :: tkE r.wh)++[semiS])))
theorem stop_semi:stop 0 semiS:=stop_of (by decide +kernel)
theorem stop_if:stop 0 ifS:=stop_of (by decide +kernel)
theorem ruP_reads {x:Rl} (hx:ruB x=true) {t:List Tk} {R:List ByteArray} (e:t.map (·.1)=tkR x++R):∃y r,ruP t=.ok y r∧sameR y x∧r.map (·.1)=R:=by
 unfold ruB at hx
 simp only[bAt,Bool.or_eq_true,decide_eq_true_eq] at hx
 obtain ⟨⟨⟨⟨⟨⟨hk0,hk4⟩,hnm⟩,hgr⟩,_⟩,ham⟩,hwh⟩:=hx
 have hkd:∃k:Nat,x.kind=k∧k<4:=⟨x.kind.toNat,by omega,by omega⟩
 obtain ⟨k,hk,hk4⟩:=hkd
 have hK:anyB kdL (kdL.getD k .empty)=true∧indN kdL (kdL.getD k .empty)=k:=by
  have:k=0∨k=1∨k=2∨k=3:=by omega
  rcases this with rfl|rfl|rfl|rfl<;>exact⟨by decide +kernel,by decide +kernel⟩
 have hA:=reads _ _ (Nat.le_refl _) ham
 obtain ⟨m,_,hm⟩:=hA.lv
 -- the end
 have eD:∀(kd:Int) (nm gr:ByteArray) (pos:Int) (am wh:Ex) (t:List Tk),t.map (·.1)=semiS :: R→∃r,ruD kd nm gr pos am wh t=.ok ⟨kd,nm,gr,am,wh,pos,ht am,ht wh⟩ r∧r.map (·.1)=R:=by
  intro kd nm gr pos am wh t e
  refine⟨t.tail,?_,by rw[tl_map,e];rfl⟩
  unfold ruD;rw[if_pos (by rw[hd_map,e];rfl)]
 have eC:∀(kd:Int) (nm gr:ByteArray) (pos:Int) (am:Ex) (t:List Tk),t.map (·.1)=(if x.wh.k=0 then [] else ifS :: tkE x.wh)++semiS :: R→∃wh r,ruC kd nm gr pos am t=.ok ⟨kd,nm,gr,am,wh,pos,ht am,ht wh⟩ r∧noA wh=noA x.wh∧r.map (·.1)=R:=by
  intro kd nm gr pos am t e
  unfold ruC
  by_cases h0:x.wh.k=0
  ·rw[if_pos h0] at e
   rw[if_neg (by rw[hd_map,e];exact show ¬semiS=ifS by decide)]
   obtain ⟨r,e1,e2⟩:=eD kd nm gr pos am ex0 t e
   refine⟨ex0,r,e1,?_,e2⟩
   rcases hwh with hwh|hwh
   ·unfold nonB at hwh
    simp only[bAt,decide_eq_true_eq,beq_iff_eq] at hwh
    rw[noA_eq x.wh,h0,empty_of hwh.1.1.2,hwh.1.2.1,hwh.1.2.2,List.eq_nil_of_length_eq_zero hwh.2];rfl
   ·rcases snd_cases hwh with ⟨hk,_⟩|⟨hk,_⟩|⟨hk,_⟩|⟨hk,_⟩|⟨hk,_⟩|⟨hk,_⟩
    ·omega
    ·omega
    ·omega
    ·omega
    ·omega
    ·rw[h0] at hk;exact absurd hk (by decide)
  ·rw[if_neg h0] at e
   rw[if_pos (by rw[hd_map,e];rfl)]
   have hw:sndE x.wh=true:=hwh.resolve_left fun h=>by
    unfold nonB at h
    simp only[bAt,beq_iff_eq] at h
    exact h0 h.1.1.1
   have hW:=reads _ _ (Nat.le_refl _) hw
   obtain ⟨m,_,hm⟩:=hW.lv
   obtain ⟨wh,r,e1,e2,e3⟩:=(hW.rd 0 (by omega)).1 t.tail (semiS :: R) (by rw[tl_map,e];rfl) stop_semi
   obtain ⟨r',f1,f2⟩:=eD kd nm gr pos am wh r e3
   exact⟨wh,r',by rw[e1];exact f1,e2,f2⟩
 have eG:∀(kd:Int) (nm gr:ByteArray) (pos:Int) (t:List Tk),t.map (·.1)=colonS :: (tkE x.am++((if x.wh.k=0 then [] else ifS :: tkE x.wh)++semiS :: R))→∃am wh r,ruG kd nm gr pos t=.ok ⟨kd,nm,gr,am,wh,pos,ht am,ht wh⟩ r∧noA am=noA x.am∧noA wh=noA x.wh∧r.map (·.1)=R:=by
  intro kd nm gr pos t e
  unfold ruG
  rw[if_pos (by rw[hd_map,e];rfl)]
  obtain ⟨am,r,e1,e2,e3⟩:=(hA.rd 0 (by omega)).1 t.tail ((if x.wh.k=0 then [] else ifS :: tkE x.wh)++semiS :: R) (by rw[tl_map,e];rfl) (by split;exact stop_semi;exact stop_if)
  obtain ⟨wh,r',f1,f2,f3⟩:=eC kd nm gr pos am r e3
  exact⟨am,wh,r',by rw[e1];exact f1,e2,f2,f3⟩
 unfold tkR at e
 have hk':x.kind.toNat=k:=by omega
 rw[hk'] at e
 have h1:hdS t=kdL.getD k .empty:=by rw[hd_map,e];rfl
 have h2:hdS t.tail=x.nm:=by rw[hd_map,tl_map,e];rfl
 have e2:t.tail.tail.map (·.1)=(if x.gr.size=0 then [] else [inS,x.gr])++colonS :: (tkE x.am++((if x.wh.k=0 then [] else ifS :: tkE x.wh)++semiS :: R)):=by
  rw[tl_map,tl_map,e];simp
 unfold ruP
 rw[if_pos (by rw[h1];exact hK.1),if_pos (by rw[h2];exact hnm),h1,h2,hK.2]
 unfold ruN
 by_cases hg:x.gr.size=0
 ·rw[if_pos hg] at e2
  rw[if_neg (by rw[hd_map,e2];exact show ¬colonS=inS by decide)]
  obtain ⟨am,wh,r,f1,f2,f3,f4⟩:=eG k x.nm .empty (hdA 0 t) _ e2
  exact⟨_,r,f1,⟨hk.symm,rfl,(empty_of hg).symm,f2,f3⟩,f4⟩
 ·rw[if_neg hg] at e2
  have h3:hdS t.tail.tail.tail=x.gr:=by rw[hd_map,tl_map,e2];rfl
  rw[if_pos (by rw[hd_map,e2];rfl),if_pos (by rw[h3];exact hgr.resolve_left hg),h3]
  obtain ⟨am,wh,r,f1,f2,f3,f4⟩:=eG k x.nm x.gr (hdA 0 t) t.tail.tail.tail.tail (by rw[tl_map,tl_map,e2];rfl)
  exact⟨_,r,f1,⟨hk.symm,rfl,rfl,f2,f3⟩,f4⟩
def tkRs (l:List Rl):List ByteArray:=(l.map tkR).flatten
inductive SameL:List Rl→List Rl→Prop
 | nil:SameL [] []
 | cons {x y:Rl} {l m:List Rl} (h:sameR x y) (hl:SameL l m):SameL (x :: l) (y :: m)
theorem prR_reads:∀(l:List Rl) (t:List Tk),(∀x∈l,ruB x=true)→t.map (·.1)=tkRs l→∃l',prR t=.ok l'∧SameL l' l:=by
 intro l
 induction l with
 | nil=>
  intro t _ e
  obtain rfl:t=[]:=List.map_eq_nil_iff.1 e
  exact⟨[],rfl,.nil⟩
 | cons x l ih=>
  intro t h e
  have e':t.map (·.1)=tkR x++tkRs l:=by rw[e];simp[tkRs]
  obtain ⟨y,r,e1,e2,e3⟩:=ruP_reads (h x (by simp)) e'
  obtain ⟨l',f1,f2⟩:=ih r (fun z hz=>h z (List.mem_cons_of_mem _ hz)) e3
  refine⟨y :: l',?_,.cons e2 f2⟩
  rw[prR_cons (by rintro rfl;simp[tkR] at e'),e1]
  try dsimp only
  rw[f1];rfl
end Go.Proofs
/- The words of a text,plain. -/
set_option maxRecDepth 100000
namespace Go.Proofs
open Go Go.Ab
def bsL (l:List UInt8):ByteArray:=⟨l.toArray⟩
theorem bsL_toList (l:List UInt8):(bsL l).data.toList=l:=by simp[bsL]
theorem toList_bsL (s:ByteArray):bsL s.data.toList=s:=by rcases s with ⟨⟨l⟩⟩;rfl
theorem app_toList (s t:ByteArray):(s++t).data.toList=s.data.toList++t.data.toList:=by simp
def whU (c:UInt8):Bool:=c==32||c==9||c==10||c==13
def spF:Bool→List UInt8→Nat
 | _,[]=>0
 | false,c :: l=>if whU c then 1+spF false l else if c==35 then 1+spF true l else 0
 | true,c :: l=>if c==10 then 1+spF false l else 1+spF true l
def digU (c:UInt8):Bool:=digB (c.toNat:Int)
def letU (c:UInt8):Bool:=letB (c.toNat:Int)
def runU (p:UInt8→Bool) (l:List UInt8):Nat:=(l.takeWhile p).length
def numEnd (l:List UInt8):Nat:=
 if (l[min (runU digU l) 9]?.any fun c=>c==46)&&l[min (runU digU l) 9+1]?.any digU then min (runU digU l) 9+1+min (runU digU (l.drop (min (runU digU l) 9+1))) 6 else min (runU digU l) 9
def numW (l:List UInt8):Int×Int:=
 if l[numEnd l]?.any (fun c=>insU c||c==46) then (0,3) else if (prs (bsL (l.take (numEnd l)))).2.2≠0 then (0,(prs (bsL (l.take (numEnd l)))).2.2) else (numEnd l,0)
def symL:List (List UInt8):=[[61,61],[33,61],[60,61],[62,61],[60],[62],[43],[45],[42],[47],[40],[41],[44],[58],[59]]
def wordW (l:List UInt8):Int×Int:=
 if digU (l.headD 0) then numW l else if letU (l.headD 0) then if runU insU l≤16 then (runU insU l,0) else (0,3)
 else match symL.find? fun x=>x.isPrefixOf l with
  | some x=>(x.length,0)
  | none=>(0,3)
inductive Ws where
 | ok (t:List Tk)
 | bad (at_:Int) (e:Int)
def Ws.cons (w:Tk):Ws→Ws
 | .ok t=>.ok (w :: t)
 | .bad a e=>.bad a e
def toks:Nat→Nat→List UInt8→Ws
 | 0,at_,_=>.bad at_ 3
 | k+1,at_,l=>
  if l.length≤spF false l then .ok []
  else if (wordW (l.drop (spF false l))).2≠0 then .bad (at_+spF false l:Nat) (wordW (l.drop (spF false l))).2
  else (toks k (at_+spF false l+(wordW (l.drop (spF false l))).1.toNat) (l.drop (spF false l+(wordW (l.drop (spF false l))).1.toNat))).cons (bsL ((l.drop (spF false l)).take (wordW (l.drop (spF false l))).1.toNat),(at_+spF false l:Nat))
def wordAt (w l:List UInt8):Prop:=w≠[]∧spF false (w++l)=0∧wordW (w++l)=((w.length:Int),0)
def blankC (b:List UInt8):Prop:=∀l,spF false (b++l)=b.length+spF false l
inductive Lex:List UInt8→List ByteArray→Prop
 | nil {b:List UInt8} (h:spF false b=b.length):Lex b []
 | cons {b w l:List UInt8} {T:List ByteArray} (hb:blankC b) (hw:wordAt w l) (h:Lex l T):Lex (b++(w++l)) (bsL w :: T)
theorem Lex.toks {l:List UInt8} {T:List ByteArray} (h:Lex l T):∀(k at_:Nat),l.length<k→∃ts,Go.Proofs.toks k at_ l=.ok ts∧ts.map (·.1)=T:=by
 induction h with
 | nil h=>
  intro k at_ hk
  obtain ⟨k,rfl⟩:∃j,k=j+1:=⟨k-1,by omega⟩
  exact⟨[],by unfold Go.Proofs.toks;rw[if_pos (by omega)],rfl⟩
 | @cons b w l T hb hw h ih=>
  intro k at_ hk
  obtain ⟨k,rfl⟩:∃j,k=j+1:=⟨k-1,by omega⟩
  obtain ⟨h0,h1,h2⟩:=hw
  have hlw:0<w.length:=List.length_pos_iff.2 h0
  simp only[List.length_append] at hk
  have hs:spF false (b++(w++l))=b.length:=by rw[hb,h1];rfl
  have hd:(b++(w++l)).drop b.length=w++l:=List.drop_left
  obtain ⟨ts,e1,e2⟩:=ih k (at_+b.length+w.length) (by omega)
  refine⟨(bsL w,((at_+b.length:Nat):Int)) :: ts,?_,by rw[List.map_cons,e2]⟩
  unfold Go.Proofs.toks
  rw[hs,if_neg (by simp only[List.length_append];omega),hd,h2,if_neg (by simp)]
  have e3:(b++(w++l)).drop (b.length+((w.length:Int)).toNat)=l:=by
   rw[←List.drop_drop,hd]
   exact List.drop_left' (by simp)
  have e4:(w++l).take ((w.length:Int)).toNat=w:=List.take_left' (by simp)
  try dsimp only
  rw[e3,e4,show ((w.length:Int)).toNat=w.length by simp,e1]
  rfl
theorem blank_nil:blankC []:=fun l=>by simp
theorem blank_app {a b:List UInt8} (ha:blankC a) (hb:blankC b):blankC (a++b):=fun l=>by
 rw[List.append_assoc,ha,hb,List.length_append];omega
theorem blank_sp:blankC [32]:=fun l=>by simp[spF,whU]
theorem blank_nl:blankC [10]:=fun l=>by simp[spF,whU]
theorem Lex.blank {b l:List UInt8} {T:List ByteArray} (hb:blankC b) (h:Lex l T):Lex (b++l) T:=by
 cases h with
 | nil h=>exact .nil (by rw[hb,h,List.length_append])
 | cons hb' hw h=>rw[←List.append_assoc];exact .cons (blank_app hb hb') hw h
theorem Lex.word {w l:List UInt8} {T:List ByteArray} (hw:wordAt w l) (h:Lex l T):Lex (w++l) (bsL w :: T):=by
 have:=Lex.cons blank_nil hw h
 simpa using this
end Go.Proofs
