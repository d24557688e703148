import Derived.Test.YtellpkieoccljaaGreatDoorAcD
import Derived.Test.YtellpkieoccljaaGreatDoorG6
import Derived.Test.YtellpkieoccljaaGreatDoorG4
import Derived.Test.YtellpkieoccljaaGreatDoorG0
import Derived.Test.YtellpkieoccljaaGreatDoorG2
set_option autoImplicit false
namespace Go.Proofs
open Go Go.Ab Go.RowKit
set_option maxHeartbeats 4000000
set_option maxRecDepth 100000
variable {G:IH}
/-! Reasons,by the program. -/
abbrev nilA:AV:=.d (.con (.slice none 0 0))
abbrev bx59 (F:List Ft) (m:Nat) (x:Ex) (o:AV):List (Nat×List AV):=[(1000000,[.d (evD F)]),(1000001,exC m x),(1000002,[o])]
abbrev cp59:List AV:=[.box 1000000 0,.box 1000001 0,.box 1000002 0]
abbrev bx61 (F:List Ft) (m:Nat) (x:Ex):List (Nat×List AV):=[(1000000,[.d (evD F)]),(1000001,exC m x)]
abbrev cp61:List AV:=[.box 1000000 0,.box 1000001 0]
abbrev rwI (l:List Int):Nat×List AV:=(900,[.arr inRK 1 (rowI l)])
def m59 (l:List Int):FuncId→List AV→List (Nat×List AV)→Option (AV×List (Nat×List AV)):=fun f _ _=>match f with
 | 60=>some (.vec 900 1 0 l.length,[rwI l])
 | _=>none
noncomputable def orc59 (l:List Int):Orc:={ d:=fun _ _=>none,m:=m59 l }
theorem f59_at {F:List Ft} {m:Nat} {x:Ex} {l:List Int} (h:FnM Tryz.prog G 60 [.d (evD F),.d (exD m x),.d (di 0)] [] (.vec 900 1 0 l.length) [rwI l]):FnM Tryz.prog G 59 cp59 (bx59 F m x nilA) (.d (.tup [])) (bx59 F m x (.vec 900 1 0 l.length)++[rwI l]):=by
 refine FnM.walk (orc:=orc59 l) (keep:=[]) [(6900,900)] follows (by kernel_rfl) Tryz.func59 rfl Tryz.call59 ?_
 refine of_tr (fun _ _ _ _=>(fun Za Zb Zc=>(FnM Tryz.prog G 60 [Zc,(.d (ndX m x)),(vi 0)] [] (.vec 900 1 0 l.length) [(900,[Zb])]∧(ZS ((.d (.tup [])):AV))∧((some [Zc]):(Option (List AV)))=(some [Zc])∧(Za:(Option (List AV)))=Za∧((some [(.vec 900 1 0 l.length)]):(Option (List AV)))=(some [(.vec 900 1 0 l.length)])∧((some [Zb]):(Option (List AV)))=(some [Zb])∧True)) (some [(vi x.k),(vs x.s),(vi x.n),(vi x.d),(vi x.pos),(.d (.slc 6 x.kids.length (lay (exG m) x.kids)))]) ((.arr ⟨false,3,false,none⟩ 1 (rowI l)):AV) ((.d (.ptr [(.mp none (tV F) (tH F))])):AV)) (by kernel_rfl) ?_
 exact⟨h,rfl,rfl,rfl,rfl,rfl,trivial⟩
noncomputable def orc61 (t:Bool):Oracle:=fun f _=>match f with
 | 47=>some (db t)
 | _=>none
theorem f61_ok {F:List Ft} {m:Nat} {x:Ex} {t:Bool} (hx:FnOK Tryz.prog G 47 [evD F,exD m x] (db t)):FnM Tryz.prog G 61 cp61 (bx61 F m x) (.d (.tup [])) (bx61 F m x):=by
 refine FnM.walk (orc:=(orc61 t:Orc)) (keep:=[]) [] follows (by kernel_rfl) Tryz.func61 rfl Tryz.call61 ?_
 refine of_tr (fun _ _ _ ZK=>(fun Za=>(ZK 47 [(.ptr [(.mp none (tV F) (tH F))]),(ndX m x)] (db t)∧(ZS ((.d (.tup [])):AV))∧((some [(.d (.ptr [(.mp none (tV F) (tH F))]))]):(Option (List AV)))=(some [(.d (.ptr [(.mp none (tV F) (tH F))]))])∧(Za:(Option (List AV)))=Za∧True)) (some [(vi x.k),(vs x.s),(vi x.n),(vi x.d),(vi x.pos),(.d (.slc 6 x.kids.length (lay (exG m) x.kids)))])) (by kernel_rfl) ?_
 exact⟨hx,rfl,rfl,rfl,trivial⟩
def mRe (e1 e2:Int) (o:AV) (ex:List (Nat×List AV)):FuncId→List AV→List (Nat×List AV)→Option (AV×List (Nat×List AV)):=fun f a pre=>match f,a,pre with
 | 44,[.clo (.func 59) _ _],[a,b,(u,_)]=>some (.d (di e1),[a,b,(u,[o])]++ex)
 | 44,[.clo (.func 61) _ _],pre=>some (.d (di e2),pre)
 | _,_,_=>none
noncomputable def orcRe2 (F:List Ft) (L:List Fc) (e1 e2:Int) (o:AV) (ex:List (Nat×List AV)):Orc:={ d:=dEv F L,m:=mRe e1 e2 o ex }
section
variable (hT:Tab G) (F:List Ft) (L:List Fc) (h:∀i,i<L.length→FcS (L.getD i fc0)) (hl:L.length≤1000) (hF:F.length≤100000) (m:Nat) (x:Ex) (hx:ht x≤m) (hs:Sm x)
include hT h hl hF hx hs
theorem f19_ok (h1:vaF F L=true) (h2:(typR L x).2.2=0) (h3:(typR L x).1=1) (l:List Int)
  (h59:FnM Tryz.prog G 44 [.clo (.func 59) [] cp59] (bx59 (revT F F.length) m x nilA) (.d (di 0)) (bx59 (revT F F.length) m x (.vec 900 1 0 l.length)++[rwI l]))
  (h61:FnM Tryz.prog G 44 [.clo (.func 61) [] cp61] (bx61 (revT F F.length) m x) (.d (di 0)) (bx61 (revT F F.length) m x)) :
  FnM Tryz.prog G 19 [.d (exD m x),.d (ftsD F),.d (fcsD L)] [] (.tup [.vec 900 1 0 l.length,vi 0]) [rwI l]:=by
 have er:rdE (ndX m x)=x:=rdE_eq hx
 refine FnM.walk (orc:=orcRe2 F L 0 0 (.vec 900 1 0 l.length) [rwI l]) (keep:=[]) [(35900,900)] follows (by kernel_rfl) Tryz.func19 rfl Tryz.call19 ?_
 refine of_tr (fun _ _ _ ZK=>(fun Za Zb Zc Zd=>(ZK 14 [(.slc 6 F.length (ftF F)),(.slc 7 L.length (fcF L))] (db (vaF F L))∧(((!vaF F L)=true)→(((.d (.tup [(.con (.slice none 0 0)),(di 1)])):AV)=Zc∧(none:(Option (List AV)))=Za∧True))∧(((!vaF F L)=false)→(ZK 42 [(ndX m x),(.slc 7 L.length (fcF L))] (.tup [(di (typR L (rdE (ndX m x))).fst),(di (typR L (rdE (ndX m x))).snd.fst),(di (typR L (rdE (ndX m x))).snd.snd)])∧((((typR L (rdE (ndX m x))).snd.snd != 0)=true)→(((.d (.tup [(.con (.slice none 0 0)),(di (typR L (rdE (ndX m x))).snd.snd)])):AV)=Zc∧(none:(Option (List AV)))=Za∧True))∧((((typR L (rdE (ndX m x))).snd.snd != 0)=false)→(((((typR L (rdE (ndX m x))).fst != 1)=true)→(((.d (.tup [(.con (.slice none 0 0)),(di 5)])):AV)=Zc∧(none:(Option (List AV)))=Za∧True))∧((((typR L (rdE (ndX m x))).fst != 1)=false)→(ZK 43 [(.slc 6 F.length (ftF F))] Zb∧FnM Tryz.prog G 44 [(.clo (.func 59) [] [(.box 1000000 0),(.box 1000001 0),(.box 1000002 0)])] [(1000000,[(.d Zb)]),(1000001,[(vi x.k),(vs x.s),(vi x.n),(vi x.d),(vi x.pos),Zd]),(1000002,[(.d (.con (.slice none 0 0)))])] (vi 0) [(1000000,[(.d Zb)]),(1000001,[(vi x.k),(vs x.s),(vi x.n),(vi x.d),(vi x.pos),Zd]),(1000002,[(.vec 900 1 0 l.length)]),(900,[(.arr ⟨false,3,false,none⟩ 1 (rowI l))])]∧((true=true)→(FnM Tryz.prog G 44 [(.clo (.func 61) [] [(.box 1000000 0),(.box 1000001 0)])] [(1000000,[(.d Zb)]),(1000001,[(vi x.k),(vs x.s),(vi x.n),(vi x.d),(vi x.pos),Zd])] (vi 0) [(1000000,[(.d Zb)]),(1000001,[(vi x.k),(vs x.s),(vi x.n),(vi x.d),(vi x.pos),Zd])]∧((false=true)→(((.d (.tup [(.con (.slice none 0 0)),(di 0)])):AV)=Zc∧(Za:(Option (List AV)))=Za∧True))∧((false=false)→((ZS (Zc:AV))∧(Za:(Option (List AV)))=Za∧True))))∧((true=false)→(((false=true)→(((.d (.tup [(.con (.slice none 0 0)),(di 0)])):AV)=Zc∧(Za:(Option (List AV)))=Za∧True))∧((false=false)→((ZS (Zc:AV))∧(Za:(Option (List AV)))=Za∧True)))))))))))) (some [(.arr ⟨false,3,false,none⟩ 1 (rowI l))]) ((.ptr [(.mp none (tV (revT F F.length)) (tH (revT F F.length)))]):DV) ((.tup [(.vec 900 1 0 l.length),(vi 0)]):AV) ((.d (.slc 6 x.kids.length (lay (exG m) x.kids))):AV)) (by kernel_rfl) ?_
 simp only[er]
 refine⟨f14 hT F L h hl (by omega),fun c=>(by rw[h1] at c;cases c),fun _=>⟨f42 hT m x L hx hs h hl,fun c=>absurd h2 (by simpa using c),fun _=>⟨fun c=>absurd h3 (by simpa using c),fun _=>⟨f43 F hF,h59,fun _=>⟨h61,fun c=>Bool.noConfusion c,fun _=>⟨trivial,trivial,trivial⟩⟩,fun c=>Bool.noConfusion c⟩⟩⟩⟩
end
noncomputable def S15 (F:List Ft) (L:List Fc) (k:Nat):AS:=⟨regs Tryz.f15.ntmps [(0,.d (ftsD F)),(1,.d (fcsD L)),(5,vi k)],[]⟩
noncomputable def orcV15 (L:List Fc):Oracle:=fun f a=>match f,a with
 | 54,[_]=>some (db (vfB L))
 | 25,[fr a b,fr c d]=>some (.tup [di (cmpO a b c d),db (ok2O a b c d)])
 | 55,[w,.con (.string s)]=>some (db (anyB (rdW w) s))
 | _,_=>none
theorem f86 (n d e:Int):FnOK Tryz.prog G 86 [fr n d,di e] (.tup [ftD (if e=0 then { ftK 0 with n:=n,d:=d } else ft0),di (if e=0 then 0 else 2)]):=by
 refine FnOK.walkK (orc:=noO) (keep:=[]) follows Tryz.func86 rfl Tryz.call86 ?_
 refine of_tr (fun _ _ _ _=>((((e != 0)=true)→(((.tup [(.agg [(ds (ByteArray.mk #[])),(di 0),(di 0),(di 0),(db false),(ds (ByteArray.mk #[]))]),(di 2)]):DV)=(.tup [(ftD (if e=0 then let __src:=ftK 0;Ft.mk __src.nm __src.kind n d __src.tr __src.wd else ft0)),(di (if e=0 then 0 else 2))])))∧(((e != 0)=false)→(((.tup [(.agg [(ds (ByteArray.mk #[])),(di 0),(di n),(di d),(db false),(ds (ByteArray.mk #[]))]),(di 0)]):DV)=(.tup [(ftD (if e=0 then let __src:=ftK 0;Ft.mk __src.nm __src.kind n d __src.tr __src.wd else ft0)),(di (if e=0 then 0 else 2))]))))) (by kernel_rfl) ?_
 refine⟨fun h=>?_,fun h=>?_⟩
 ·have h:e≠0:=by simpa using h
  rw[if_neg h,if_neg h];rfl
 ·have h:e=0:=by simpa using h
  rw[if_pos h,if_pos h];rfl
theorem f87 (b:Bool):FnOK Tryz.prog G 87 [db b] (.tup [ftD { ftK 1 with tr:=b },di 0]):=by
 refine FnOK.walkK (orc:=noO) (keep:=[]) follows Tryz.func87 rfl Tryz.call87 ?_
 refine of_tr (fun _ _ _ _=>(((.tup [(.agg [(ds (ByteArray.mk #[])),(di 1),(di 0),(di 0),(db b),(ds (ByteArray.mk #[]))]),(di 0)]):DV)=(.tup [(ftD (let __src:=ftK 1;Ft.mk __src.nm __src.kind __src.n __src.d b __src.wd)),(di 0)]))) (by kernel_rfl) ?_
 rfl
def badA (f:Ft) (x:Fc):Bool:=!decide (f.nm=x.name)||f.kind != x.kind||x.kind != 0&&!(f.n==0&&f.d==0)||x.kind != 1&&f.tr||x.kind != 2&&!decide (f.wd=.empty)
def badC (f:Ft) (x:Fc):Bool:=x.kind==0&&(!ok2O x.ln x.ld f.n f.d||!ok2O f.n f.d x.hn x.hd||decide (cmpO x.ln x.ld f.n f.d>0)||decide (cmpO f.n f.d x.hn x.hd>0))||x.kind==2&&!anyB x.words f.wd
theorem num_bad (f:Ft) (x:Fc):(!ok2O x.ln x.ld f.n f.d||!ok2O f.n f.d x.hn x.hd||decide (cmpO x.ln x.ld f.n f.d>0)||decide (cmpO f.n f.d x.hn x.hd>0)) = !numOk f x:=by
 unfold numOk
 rw[show decide (cmpO x.ln x.ld f.n f.d≤0) = !decide (cmpO x.ln x.ld f.n f.d>0) from by rw[←decide_not];exact decide_eq_decide.2 (by omega),show decide (cmpO f.n f.d x.hn x.hd≤0) = !decide (cmpO f.n f.d x.hn x.hd>0) from by rw[←decide_not];exact decide_eq_decide.2 (by omega)]
 cases ok2O x.ln x.ld f.n f.d<;>cases ok2O f.n f.d x.hn x.hd<;>cases decide (cmpO x.ln x.ld f.n f.d>0)<;>cases decide (cmpO f.n f.d x.hn x.hd>0)<;>rfl
theorem fit_bad (f:Ft) (x:Fc):fitB f x=(!badA f x&&!badC f x):=by
 unfold fitB badA badC
 rw[num_bad]
 have e1:decide (f.kind=x.kind) = !(f.kind != x.kind):=by simp[bne];grind
 have e2:(decide (f.n=0)&&decide (f.d=0))=(f.n==0&&f.d==0):=by grind
 rw[e1,e2]
 have e3:(x.kind != 0) = !(x.kind==0):=rfl
 have e4:(x.kind != 1) = !(x.kind==1):=rfl
 have e5:(x.kind != 2) = !(x.kind==2):=rfl
 rw[e3,e4,e5]
 generalize decide (f.nm=x.name)=a1
 generalize (f.kind != x.kind)=a2
 generalize (f.n==0&&f.d==0)=a3
 generalize (x.kind==0)=a4
 generalize (x.kind==1)=a5
 generalize (x.kind==2)=a6
 generalize f.tr=a7
 generalize decide (f.wd=ByteArray.empty)=a8
 generalize numOk f x=a9
 generalize anyB x.words f.wd=a10
 cases a1<;>cases a2<;>cases a3<;>cases a4<;>cases a5<;>cases a6<;>cases a7<;>cases a8<;>cases a9<;>cases a10<;>rfl
theorem f15 (hT:Tab G) (F:List Ft) (L:List Fc) (h:∀i,i<L.length→FcS (L.getD i fc0)) (hl:L.length≤1000) (hF:F.length≤9223372036854775807):FnOK Tryz.prog G 15 [ftsD F,fcsD L] (db (vaF F L)):=by
 have hw:∀i,i<L.length→(L.getD i fc0).words.length≤1000000:=fun i hi=>by have:=(h i hi).ln;omega
 refine FnOK.walkK (orc:=orcV15 L) (keep:=[]) follows Tryz.func15 rfl Tryz.call15 ?_
 refine of_tr (fun ZT ZW ZQ ZK=>(ZK 54 [(.slc 7 L.length (fcF L))] (db (vfB L))∧(((!vfB L||(↑F.length:Int) != ↑L.length)=true)→(((db false):DV)=(db (vaF F L))))∧(((!vfB L||(↑F.length:Int) != ↑L.length)=false)→ZW [cd Tryz.f15 [1,1,0,1,0],(.blk 0),cd Tryz.f15 [1,1,1]] (stS ZT [1]) ZQ))) (by kernel_rfl) ?_
 refine⟨f54 hT L h hl,fun h1=>?_,fun h1=>?_⟩
 ·have:vaF F L=false:=by
   unfold vaF fitsB
   simp only[Bool.or_eq_true,Bool.not_eq_true',bne_iff_ne,ne_eq] at h1
   rcases h1 with h1|h1
   ·rw[h1];rfl
   ·rw[decide_eq_false (fun hh=>h1 (by omega)),Bool.false_and,Bool.and_false]
  rw[this]
 simp only[Bool.or_eq_false_iff,Bool.not_eq_false',bne_eq_false_iff_eq] at h1
 obtain ⟨hv,hlen⟩:=h1
 have hlen:F.length=L.length:=by omega
 have hva:vaF F L=fitsB F L:=by unfold vaF;rw[hv,Bool.true_and]
 rw[hva]
 refine AWP.loop (c:=cAt (bodyOf Tryz.f15) [1,1,0,1,0,0]) (by kernel_rfl) (S15 F L) (fun k=>k≤L.length∧∀i,i<k→fitB (F.getD i ft0) (L.getD i fc0)=true) (fun k=>L.length-k) 0 ?_ ⟨Nat.zero_le _,fun i hi=>by omega⟩ ?_
 ·exact AS.leA (by kernel_rfl)
 ·rintro k ⟨hk,hkd⟩
  refine walkK (orc:=orcV15 L) (keep:=[]) (cuts:=[]) (n:=1000) follows ?_
  refine of_rd (fun ZT ZW ZQ ZK ZA _=>(fun Za Zb Zc Zd=>((((decide ((↑k:Int)<↑L.length))=true)→((((0≤(↑k:Int))∧((↑k:Int)<↑F.length))∧(0≤(↑k:Int))∧((↑k:Int)<↑L.length))∧((Zb=true)→(((db false):DV)=(db (fitsB F L))))∧((Zb=false)→(ZK 25 [(.agg [(di (L.getD (↑k:Int).toNat fc0).ln),(di (L.getD (↑k:Int).toNat fc0).ld)]),Zd] (.tup [(di (cmpO (L.getD (↑k:Int).toNat fc0).ln (L.getD (↑k:Int).toNat fc0).ld (F.getD (↑k:Int).toNat ft0).n (F.getD (↑k:Int).toNat ft0).d)),(db (ok2O (L.getD (↑k:Int).toNat fc0).ln (L.getD (↑k:Int).toNat fc0).ld (F.getD (↑k:Int).toNat ft0).n (F.getD (↑k:Int).toNat ft0).d))])∧ZK 25 [Zd,(.agg [(di (L.getD (↑k:Int).toNat fc0).hn),(di (L.getD (↑k:Int).toNat fc0).hd)])] (.tup [(di (cmpO (F.getD (↑k:Int).toNat ft0).n (F.getD (↑k:Int).toNat ft0).d (L.getD (↑k:Int).toNat fc0).hn (L.getD (↑k:Int).toNat fc0).hd)),(db (ok2O (F.getD (↑k:Int).toNat ft0).n (F.getD (↑k:Int).toNat ft0).d (L.getD (↑k:Int).toNat fc0).hn (L.getD (↑k:Int).toNat fc0).hd))])∧(((!((L.getD (↑k:Int).toNat fc0).kind==0&&Za)&&(L.getD (↑k:Int).toNat fc0).kind==2)=true)→ZK 55 [(.slc 1 (L.getD (↑k:Int).toNat fc0).words.length (stF (L.getD (↑k:Int).toNat fc0).words)),(ds (F.getD (↑k:Int).toNat ft0).wd)] (db (anyB Zc (F.getD (↑k:Int).toNat ft0).wd)))∧((((L.getD (↑k:Int).toNat fc0).kind==0&&Za||(L.getD (↑k:Int).toNat fc0).kind==2&&!anyB Zc (F.getD (↑k:Int).toNat ft0).wd)=true)→(((db false):DV)=(db (fitsB F L))))∧((((L.getD (↑k:Int).toNat fc0).kind==0&&Za||(L.getD (↑k:Int).toNat fc0).kind==2&&!anyB Zc (F.getD (↑k:Int).toNat ft0).wd)=false)→((I64 (↑k+1))∧(ZA (stS ZT [0,1,1]))))))))∧(((decide ((↑k:Int)<↑L.length))=false)→ZW [cd Tryz.f15 [1,1,1]] (stS ZT [1]) ZQ))) (!ok2O (L.getD (↑k:Int).toNat fc0).ln (L.getD (↑k:Int).toNat fc0).ld (F.getD (↑k:Int).toNat ft0).n (F.getD (↑k:Int).toNat ft0).d||!ok2O (F.getD (↑k:Int).toNat ft0).n (F.getD (↑k:Int).toNat ft0).d (L.getD (↑k:Int).toNat fc0).hn (L.getD (↑k:Int).toNat fc0).hd||decide (cmpO (L.getD (↑k:Int).toNat fc0).ln (L.getD (↑k:Int).toNat fc0).ld (F.getD (↑k:Int).toNat ft0).n (F.getD (↑k:Int).toNat ft0).d>0)||decide (cmpO (F.getD (↑k:Int).toNat ft0).n (F.getD (↑k:Int).toNat ft0).d (L.getD (↑k:Int).toNat fc0).hn (L.getD (↑k:Int).toNat fc0).hd>0)) (!(F.getD (↑k:Int).toNat ft0).nm.toList==(L.getD (↑k:Int).toNat fc0).name.toList||(F.getD (↑k:Int).toNat ft0).kind != (L.getD (↑k:Int).toNat fc0).kind||(L.getD (↑k:Int).toNat fc0).kind != 0&&!Bool.rec false ((F.getD (↑k:Int).toNat ft0).d==0) ((F.getD (↑k:Int).toNat ft0).n==0)||(L.getD (↑k:Int).toNat fc0).kind != 1&&(F.getD (↑k:Int).toNat ft0).tr||(L.getD (↑k:Int).toNat fc0).kind != 2&&!(F.getD (↑k:Int).toNat ft0).wd.toList==(ByteArray.mk #[]).toList) (rdW (DV.slc 1 (L.getD (↑k:Int).toNat fc0).words.length (stF (L.getD (↑k:Int).toNat fc0).words))) ((.agg [(di (F.getD (↑k:Int).toNat ft0).n),(di (F.getD (↑k:Int).toNat ft0).d)]):DV)) (by kernel_rfl) ?_
  have bn:(ByteArray.mk #[])=ByteArray.empty:=rfl
  simp only[iTn,rdW_eq,brec,toList_beq,bn]
  refine⟨fun h2=>?_,fun h2=>?_⟩
  ·have hk2:k<L.length:=by have:=oDt h2;omega
   refine⟨⟨⟨by omega,by omega⟩,by omega,by omega⟩,fun h3=>?_,fun h3=>⟨f25 _ _ _ _,f25 _ _ _ _,fun _=>f55 _ _ (hw k hk2),fun h4=>?_,fun h4=>⟨⟨by omega,by omega⟩,Again.mk (k+1) ?_ ⟨hk2,fun i hi=>?_⟩ (by omega)⟩⟩⟩
   ·have h3:badA (F.getD k ft0) (L.getD k fc0)=true:=h3
    rw[fits_no hk2 (by rw[fit_bad,h3];rfl)]
   ·have h4:badC (F.getD k ft0) (L.getD k fc0)=true:=h4
    rw[fits_no hk2 (by rw[fit_bad,h4,Bool.and_comm];rfl)]
   ·exact AS.leA (by kernel_rfl)
   ·rcases Nat.lt_or_ge i k with h5|h5
    ·exact hkd i h5
    ·obtain rfl:i=k:=by omega
     have h3:badA (F.getD i ft0) (L.getD i fc0)=false:=h3
     have h4:badC (F.getD i ft0) (L.getD i fc0)=false:=h4
     rw[fit_bad,h3,h4];rfl
  ·have h2:=of_decide_eq_false h2
   refine walkK (orc:=orcV15 L) (keep:=[]) (cuts:=[]) (n:=1000) follows ?_
   refine of_tr (fun _ _ _ _=>(((db true):DV)=(db (fitsB F L)))) (by kernel_rfl) ?_
   rw[fits_yes hlen fun i hi=>hkd i (by omega)]
/-! The reference's parts: common kinds,words,comparable. -/
noncomputable def S112 (l:List Int) (k:Nat):AS:=⟨regs Tryz.f143.ntmps [(0,.d (inD l)),(3,vi (if k=0 then -1 else l.getD (k-1) 0)),(4,vi k)],[]⟩
theorem f143 (l:List Int) (hl:l.length≤100000):FnOK Tryz.prog G 143 [inD l] (di (shI l)):=by
 refine FnOK.walk (orc:=noO) (keep:=[]) follows Tryz.func143 rfl Tryz.call143 ?_
 refine of_tr (fun ZT ZW ZQ _=>ZW [cd Tryz.f143 [1,1,0,1,0],(.blk 0),cd Tryz.f143 [1,1,1]] (stS ZT []) ZQ) (by kernel_rfl) ?_
 refine AWP.loop (c:=cAt (bodyOf Tryz.f143) [1,1,0,1,0,0]) (by kernel_rfl) (S112 l) (fun k=>k≤l.length∧∀i,i<k→l.getD i 0=l.getD 0 0) (fun k=>l.length-k) 0 ?_ ⟨Nat.zero_le _,fun i hi=>absurd hi (Nat.not_lt_zero _)⟩ ?_
 ·refine AS.leZ [1] [] (b:=((T0∧((vi (-1)):AV)=(vi (if 0=0 then -1 else l.getD (0-1) 0))∧T0∧True)∧True)) (by kernel_rfl) (by kernel_rfl) ?_
  exact⟨⟨rfl,rfl,rfl,trivial⟩,trivial⟩
 ·rintro k ⟨hk,hkd⟩
  have hcur:k≠0→(if k=0 then (-1:Int) else l.getD (k-1) 0)=l.getD 0 0:=fun h=>by rw[if_neg h];exact hkd _ (by omega)
  generalize hA:(if k=0 then (-1:Int) else l.getD (k-1) 0)=A at hcur
  have hS:S112 l k=⟨regs Tryz.f143.ntmps [(0,.d (inD l)),(3,vi A),(4,vi k)],[]⟩:=by unfold S112;rw[hA]
  rw[hS]
  refine walk (orc:=noO) (keep:=[]) (cuts:=[]) (n:=1000) follows ?_
  refine of_rd (fun ZT ZW ZQ _ ZA _=>((((decide ((↑k:Int)<↑l.length))=true)→((((decide ((↑k:Int)>0))=true)→((0≤(↑k:Int))∧((↑k:Int)<↑l.length)))∧(((decide ((↑k:Int)>0)&&l.getD (↑k:Int).toNat 0 != A)=true)→(((di (-1)):DV)=(di (shI l))))∧(((decide ((↑k:Int)>0)&&l.getD (↑k:Int).toNat 0 != A)=false)→(((0≤(↑k:Int))∧((↑k:Int)<↑l.length))∧(I64 (↑k+1))∧(ZA (stS ZT [0,1]))))))∧(((decide ((↑k:Int)<↑l.length))=false)→ZW [cd Tryz.f143 [1,1,1]] (stS ZT [1]) ZQ))) (by kernel_rfl) ?_
  simp only[iTn]
  have hfin:(∀i,i<l.length→l.getD i 0=l.getD 0 0)→shI l=if l.length=0 then -1 else l.getD 0 0:=fun hh=>by
   cases l with
   | nil=>rfl
   | cons a l=>
    show (if allK l a=true then a else -1)=a
    rw[if_pos]
    unfold allK
    rw[Bool.not_eq_true',List.any_eq_false]
    intro b hb
    obtain ⟨i,hi,rfl⟩:=List.getElem_of_mem hb
    have:=hh (i+1) (by simpa using hi)
    simp only[List.getD_cons_succ,List.getD_cons_zero] at this
    rw[List.getD,gEe hi] at this
    simpa using this
  have hbad:k<l.length→k≠0→l.getD k 0≠A→shI l = -1:=fun h1 h2 h3=>by
   rw[hcur h2] at h3
   cases l with
   | nil=>rfl
   | cons a l=>
    show (if allK l a=true then a else -1) = -1
    rw[if_neg]
    intro hh
    have:=allK_get hh (i:=k-1) (by simp at h1;omega)
    apply h3
    obtain ⟨j,rfl⟩:∃j,k=j+1:=⟨k-1,by omega⟩
    simpa using this
  refine⟨fun h=>?_,fun h=>?_⟩
  ·have hk2:k<l.length:=by have:=oDt h;omega
   refine⟨fun h2=>⟨by omega,by omega⟩,fun h2=>?_,fun h2=>⟨⟨by omega,by omega⟩,⟨by omega,by omega⟩,Again.mk (k+1) ?_ ⟨hk2,fun i hi=>?_⟩ (by omega)⟩⟩
   ·simp only[bAt,dEt,bne_iff_ne,ne_eq] at h2
    rw[hbad hk2 (by omega) h2.2]
   ·refine AS.leZ [1] [] (b:=((T0∧((vi (l.getD (↑k:Int).toNat 0)):AV)=(vi (if k+1=0 then -1 else l.getD (k+1-1) 0))∧T0∧True)∧True)) (by kernel_rfl) (by kernel_rfl) ?_
    exact⟨⟨rfl,rfl,rfl,trivial⟩,trivial⟩
   ·rcases Nat.lt_or_ge i k with h4|h4
    ·exact hkd i h4
    ·obtain rfl:i=k:=by omega
     by_cases h0:i=0
     ·subst h0;rfl
     ·rw[←hcur h0]
      simp only[Bool.and_eq_false_iff,decide_eq_false_iff_not,bne_eq_false_iff_eq] at h2
      rcases h2 with h2|h2
      ·omega
      ·exact h2
  ·have h:=of_decide_eq_false h
   obtain rfl:k=l.length:=by omega
   rw[hfin hkd]
   by_cases h0:l.length=0
   ·rw[if_pos h0] at hA
    refine walk (orc:=noO) (keep:=[]) (cuts:=[]) (n:=1000) follows ?_
    refine of_tr (fun _ _ _ _=>(((di A):DV)=(di (if l.length=0 then -1 else l.getD 0 0)))) (by kernel_rfl) ?_
    rw[if_pos h0,hA]
   ·refine walk (orc:=noO) (keep:=[]) (cuts:=[]) (n:=1000) follows ?_
    refine of_tr (fun _ _ _ _=>(((di A):DV)=(di (if l.length=0 then -1 else l.getD 0 0)))) (by kernel_rfl) ?_
    rw[if_neg h0,hcur h0]
noncomputable def orcWd (L:List Fc):Oracle:=fun f a=>match f,a with
 | 101,[_,.con (.string s)]=>some (di (fndI L s))
 | _,_=>none
theorem f175 (L:List Fc) (m:Nat) (x:Ex) (hl:L.length≤100000):FnOK Tryz.prog G 175 [exD m x,fcsD L] (wdD (wdsR L x)):=by
 by_cases h:(x.k==2&&decide (fndI L x.s≥0))=true
 ·have hw:wdsR L x=(L.getD (fndI L x.s).toNat fc0).words:=by unfold wdsR;rw[if_pos h]
  rw[hw]
  refine FnOK.walk (orc:=orcWd L) (keep:=[]) follows Tryz.func175 rfl Tryz.call175 ?_
  refine of_tr (fun _ _ _ ZK=>(ZK 101 [(.slc 7 L.length (fcF L)),(ds x.s)] (di (fndI L x.s))∧(((x.k==2&&decide (fndI L x.s≥0))=true)→(((0≤fndI L x.s)∧(fndI L x.s<↑L.length))∧(ZS ((wdD (L.getD (fndI L x.s).toNat fc0).words):DV))))∧(((x.k==2&&decide (fndI L x.s≥0))=false)→(((.con (.slice none 0 0)):DV)=(wdD (L.getD (fndI L x.s).toNat fc0).words))))) (by kernel_rfl) ?_
  refine⟨f101 L x.s hl,fun h1=>⟨?_,rfl⟩,fun h1=>?_⟩
  ·simp only[bAt,dEt] at h1
   have:=(fnd_hit h1.2).1
   have:=h1.2
   omega
  ·rw[h] at h1;cases h1
 ·have hw:wdsR L x=[]:=by unfold wdsR;rw[if_neg h]
  rw[hw]
  refine FnOK.res (r:=.con (.slice none 0 0)) ?_ (fun k v hv=>nil_slc hv)
  refine FnOK.walk (orc:=orcWd L) (keep:=[]) follows Tryz.func175 rfl Tryz.call175 ?_
  refine of_tr (fun _ _ _ ZK=>(ZK 101 [(.slc 7 L.length (fcF L)),(ds x.s)] (di (fndI L x.s))∧(((x.k==2&&decide (fndI L x.s≥0))=true)→(((0≤fndI L x.s)∧(fndI L x.s<↑L.length))∧((.slc 1 (L.getD (fndI L x.s).toNat fc0).words.length (stF (L.getD (fndI L x.s).toNat fc0).words)):DV)=(.con (.slice none 0 0))))∧(((x.k==2&&decide (fndI L x.s≥0))=false)→(ZS ((.con (.slice none 0 0)):DV))))) (by kernel_rfl) ?_
  refine⟨f101 L x.s hl,fun h1=>absurd h1 h,fun h1=>?_⟩
  trivial
noncomputable def orcCp (L:List Fc):Oracle:=fun f a=>match f,a with
 | 175,[e,_]=>some (wdD (wdsR L (rdE e)))
 | 55,[w,.con (.string s)]=>some (db (anyB (rdW w) s))
 | _,_=>none
noncomputable def S113c (L:List Fc) (a b:List ByteArray) (k:Nat):AS:=⟨regs Tryz.f144.ntmps [(7,.d (wdD a)),(8,.d (wdD b)),(9,vi k)],[]⟩
theorem f144 (L:List Fc) (m m':Nat) (x y:Ex) (hx:ht x≤m) (hy:ht y≤m') (hl:L.length≤100000) (hw:∀f∈L,f.words.length≤100000):FnOK Tryz.prog G 144 [exD m x,exD m' y,fcsD L] (db (cpR (wdsR L x) (wdsR L y) x.s y.s)):=by
 have ex:rdE (exV x.k x.s x.n x.d x.pos x.kids.length (lay (exG m) x.kids))=x:=rdE_eq hx
 have ey:rdE (exV y.k y.s y.n y.d y.pos y.kids.length (lay (exG m') y.kids))=y:=rdE_eq hy
 have hlen:∀z:Ex,(wdsR L z).length≤100000:=fun z=>by
  unfold wdsR
  split
  ·rename_i h
   simp only[bAt,dEt] at h
   exact hw _ (getD_mem (fnd_hit h.2).1)
  ·simp
 refine FnOK.walk (orc:=orcCp L) (keep:=[]) follows Tryz.func144 rfl Tryz.call144 ?_
 refine of_eqH7 ((.slc 1 (wdsR L (rdE (ndX m x))).length (stF (wdsR L (rdE (ndX m x))))):DV) ((.slc 1 (wdsR L (rdE (ndX m' y))).length (stF (wdsR L (rdE (ndX m' y))))):DV) (↑(wdsR L (rdE (ndX m x))).length:Int) (rdW (DV.slc 1 (wdsR L (rdE (ndX m x))).length (stF (wdsR L (rdE (ndX m x)))))) (↑(wdsR L (rdE (ndX m' y))).length:Int) (rdW (DV.slc 1 (wdsR L (rdE (ndX m' y))).length (stF (wdsR L (rdE (ndX m' y)))))) (db (cpR (wdsR L x) (wdsR L y) x.s y.s)) (fun Za Zb Zc Zd Ze Zf Zg=>((FnOK Tryz.prog G 175 [(ndX m x),(.slc 7 L.length (fcF L))] Za∧FnOK Tryz.prog G 175 [(ndX m' y),(.slc 7 L.length (fcF L))] Zb)∧(((decide (Zc>0)&&decide (Ze>0))=true)→((((Zc != ↑(wdsR L (rdE (ndX m' y))).length)=true)→(((db false):DV)=Zg))∧(((Zc != ↑(wdsR L (rdE (ndX m' y))).length)=false)→AWP Tryz.prog G [cd Tryz.f144 [1,1,0,1,0,1,0,1,0],(.blk 0),cd Tryz.f144 [1,1,0,1,0,1,1],cd Tryz.f144 [1,1,1]] ⟨regs 54 [(0,(.d (ndX m x))),(1,(.d (ndX m' y))),(2,(.d (.slc 7 L.length (fcF L)))),(3,(.box 3 0)),(4,(.box 4 0)),(6,(vb false)),(7,(.d Za)),(8,(.d Zb)),(9,(vi 0)),(10,(.d (ndX m x))),(11,(.d (.slc 7 L.length (fcF L)))),(12,(.d Za)),(13,(.d (ndX m' y))),(14,(.d (.slc 7 L.length (fcF L)))),(15,(.d Zb)),(16,(.d Za)),(17,(vi (↑(wdsR L (rdE (ndX m x))).length))),(18,(vb (decide (Zc>0)))),(19,(vb (decide (Zc>0)))),(23,(vb (decide (Zc>0)&&decide (Ze>0)))),(24,(.d Za)),(25,(vi (↑(wdsR L (rdE (ndX m x))).length))),(26,(.d Zb)),(27,(vi (↑(wdsR L (rdE (ndX m' y))).length))),(28,(vb (Zc != ↑(wdsR L (rdE (ndX m' y))).length)))],[(4,[(vi y.k),(vs y.s),(vi y.n),(vi y.d),(vi y.pos),(.d (.slc 6 y.kids.length (lay (exG m') y.kids)))]),(3,[(vi x.k),(vs x.s),(vi x.n),(vi x.d),(vi x.pos),(.d (.slc 6 x.kids.length (lay (exG m) x.kids)))])]⟩ (Ret Tryz.prog Tryz.f144 Zg))))∧(((decide (Zc>0)&&decide (Ze>0))=false)→((FnOK Tryz.prog G 55 [Za,(ds y.s)] (db (anyB Zd y.s))∧(((!anyB Zd y.s)=true)→FnOK Tryz.prog G 55 [Zb,(ds x.s)] (db (anyB Zf x.s))))∧((db (anyB Zd y.s||anyB Zf x.s)):DV)=Zg)))) (by kernel_rfl) ?_
 simp only[ex,ey,rdW_eq]
 have h1:=hlen x
 have h2:=hlen y
 have f1:=f175 (G:=G) L m x hl
 have f2:=f175 (G:=G) L m' y hl
 generalize wdsR L x=a at *
 generalize wdsR L y=b at *
 have d1:decide ((a.length:Int)>0)=decide (a.length>0):=by rw[decide_eq_decide];omega
 have d2:decide ((b.length:Int)>0)=decide (b.length>0):=by rw[decide_eq_decide];omega
 rw[d1,d2]
 unfold cpR
 refine⟨⟨f1,f2⟩,fun h=>⟨fun hne=>?_,fun heq=>?_⟩,fun h=>⟨⟨f55 a y.s (by omega),fun _=>f55 b x.s (by omega)⟩,?_⟩⟩
 ·rw[if_pos h,decide_eq_false]
  rintro rfl
  simp at hne
 ·rw[if_pos h]
  have heq:a.length=b.length:=by
   have h0:(a.length:Int)=b.length:=by simpa using heq
   omega
  refine AWP.loop (c:=cAt (bodyOf Tryz.f144) [1,1,0,1,0,1,0,1,0,0]) (by kernel_rfl) (S113c L a b) (fun k=>k≤a.length∧∀i,i<k→a.getD i .empty=b.getD i .empty) (fun k=>a.length-k) 0 ?_ ⟨Nat.zero_le _,fun i hi=>absurd hi (Nat.not_lt_zero _)⟩ ?_
  ·refine of_eq (b:=((((.d (.slc 1 a.length (stF a))):AV)=(.d (.slc 1 a.length (stF a)))∧((.d (.slc 1 b.length (stF b))):AV)=(.d (.slc 1 b.length (stF b)))∧((vi 0):AV)=(vi 0)∧True)∧True)) (by kernel_rfl) ?_
   exact⟨⟨rfl,rfl,rfl,trivial⟩,trivial⟩
  ·rintro k ⟨hk,hkd⟩
   refine walk (orc:=orcCp L) (keep:=[]) (cuts:=[]) (n:=1000) follows ?_
   refine of_rd (fun ZT ZW ZQ _ ZA _=>(fun Za=>((((decide ((↑k:Int)<↑a.length))=true)→((((0≤(↑k:Int))∧((↑k:Int)<↑a.length))∧(0≤(↑k:Int))∧((↑k:Int)<↑b.length))∧((Za=true)→(((db false):DV)=(db (decide (a=b)))))∧((Za=false)→((I64 (↑k+1))∧(ZA (stS ZT [0,1]))))))∧(((decide ((↑k:Int)<↑a.length))=false)→ZW [cd Tryz.f144 [1,1,0,1,0,1,1],cd Tryz.f144 [1,1,1]] (stS ZT [1]) ZQ))) (!(a.getD (↑k:Int).toNat ByteArray.empty).toList==(b.getD (↑k:Int).toNat ByteArray.empty).toList)) (by kernel_rfl) ?_
   simp only[iTn,toList_beq,bne]
   refine⟨fun h1=>?_,fun h1=>?_⟩
   ·have hk2:k<a.length:=by have:=oDt h1;omega
    refine⟨⟨⟨by omega,by omega⟩,⟨by omega,by omega⟩⟩,fun h3=>?_,fun h3=>⟨⟨by omega,by omega⟩,Again.mk (k+1) ?_ ⟨hk2,fun i hi=>?_⟩ (by omega)⟩⟩
    ·rw[decide_eq_false]
     rintro rfl
     simp at h3
    ·exact AS.leA (by kernel_rfl)
    ·rcases Nat.lt_or_ge i k with h4|h4
     ·exact hkd i h4
     ·obtain rfl:i=k:=by omega
      simpa using h3
   ·have h1:=of_decide_eq_false h1
    refine walk (orc:=orcCp L) (keep:=[]) (cuts:=[]) (n:=1000) follows ?_
    refine of_tr (fun _ _ _ _=>(((db true):DV)=(db (decide (a=b))))) (by kernel_rfl) ?_
    rw[decide_eq_true (getD_ext heq fun i hi=>hkd i (by omega))]
 ·rw[if_neg (by rw[h];decide)]
/-! The reference's kind. -/
def nrK (r:KR):KR:=if r.2.2≠0 then (0,r.2) else (r.1,0,0)
noncomputable def orcKRd (L:List Fc):Oracle:=fun f a=>match f,a with
 | 85,[e,_]=>some (.tup [di (nrK (tyW L (rdE e))).1,di (nrK (tyW L (rdE e))).2.1,di (nrK (tyW L (rdE e))).2.2])
 | 143,[w]=>some (di (shI (rdL w)))
 | 101,[_,.con (.string s)]=>some (di (fndI L s))
 | 55,[w,.con (.string s)]=>some (db (anyB (rdW w) s))
 | 144,[e,g,_]=>some (db (cpR (wdsR L (rdE e)) (wdsR L (rdE g)) (rdE e).s (rdE g).s))
 | _,_=>none
noncomputable def orcKR (L:List Fc):Orc:={ d:=orcKRd L,rows:=fun n=>Nat.beq n 15 }
noncomputable def S65 (L:List Fc) (m:Nat) (x:Ex) (k:Nat):AS:=⟨regs Tryz.f85.ntmps [(1,.d (fcsD L)),(2,.box 2 0),(7,.vec 900 1 0 k),(8,vi k)],[(2,exC m x),(900,[.arr itK 1 (rowK (revF L L.length) (revW L L.length) x k)])]⟩
noncomputable def S65b (L:List Fc) (m:Nat) (x:Ex) (k:Nat):AS:=⟨regs Tryz.f85.ntmps [(1,.d (fcsD L)),(2,.box 2 0),(14,vi k)],[(2,exC m x)]⟩
theorem f85 (L:List Fc) (hv:VF L) (hl:L.length≤1000) (hw:∀f∈L,f.words.length≤1000) (m:Nat):∀(x:Ex),ht x≤m→Sm x→sndE x=true→FnOK Tryz.prog G 85 [exD m x,fcsD L] (.tup [di (nrK (tyW L x)).1,di (nrK (tyW L x)).2.1,di (nrK (tyW L x)).2.2]):=by
 induction m using Nat.strongRecOn with
 | _ m ih=>
 intro x hx hs hsn
 have hlen:=hs.len.1
 have h65:∀i,i<x.kids.length→FnOK Tryz.prog G 85 [kidA m x i,fcsD L] (.tup [di (nrK (tyW L (x.kids.getD i ex0))).1,di (nrK (tyW L (x.kids.getD i ex0))).2.1,di (nrK (tyW L (x.kids.getD i ex0))).2.2]):=fun i hi=>
  kidOK (Q:=fun d=>FnOK Tryz.prog G 85 [d,fcsD L] _) hx hi fun m' h1 h2=>ih m' h1 _ h2 (hs.kid hi) (snd_kid hsn hi)
 refine FnOK.walk (orc:=orcKR L) (keep:=[]) follows Tryz.func85 rfl Tryz.call85 ?_
 refine of_tr (fun ZT ZW ZQ _=>ZW [cd Tryz.f85 [1,1,0,1,0],(.blk 0),cd Tryz.f85 [1,1,1]] (stS ZT []) ZQ) (by kernel_rfl) ?_
 refine AWP.pre (.moves [(15,900)] _ rfl) ?_
 have ety0:tyW L x=tyC (revF L L.length) (revW L L.length) x.k x.s x.pos (tyL (revF L L.length) (revW L L.length) x.kids) (x.kids.getD 0 ex0).s (x.kids.getD 1 ex0).s:=tyE_eq _ _ x
 refine AWP.loop (c:=cAt (bodyOf Tryz.f85) [1,1,0,1,0,0]) (by kernel_rfl) (S65 L m x) (fun k=>k≤x.kids.length∧∀i,i<k→(tyW L (x.kids.getD i ex0)).2.2=0) (fun k=>x.kids.length-k) 0 ?_ ⟨Nat.zero_le _,fun i hi=>absurd hi (Nat.not_lt_zero _)⟩ ?_
 ·refine AS.leZ [] [1] (b:=((T0∧T0∧T0∧T0∧True)∧T0∧((some [(.arr ⟨false,3,false,none⟩ 1 (fun x=>DV.con undef))]):(Option (List AV)))=(some [(.arr ⟨false,3,false,none⟩ 1 (rowK (revF L L.length) (revW L L.length) x 0))])∧True)) (by kernel_rfl) (by kernel_rfl) ?_
  exact⟨⟨rfl,rfl,rfl,rfl,trivial⟩,rfl,rfl,trivial⟩
 ·rintro k ⟨hk,hkd⟩
  refine walk (orc:=orcKR L) (keep:=[]) (cuts:=[]) (n:=1000) follows ?_
  refine of_eqH4 (nrK (tyW L (rdE (ndA m (x.kids.getD (↑k:Int).toNat ex0))))) (x.kids.getD (↑k:Int).toNat ex0) ((.d (.slc 6 x.kids.length (lay (exG m) x.kids))):AV) (decide ((↑k:Int)<↑x.kids.length)) (fun Za Zb Zc Zd=>(((Zd=true)→((((0≤(↑k:Int))∧((↑k:Int)<↑x.kids.length))∧FnOK Tryz.prog G 85 [(ndA m Zb),(.slc 7 L.length (fcF L))] (.tup [(di Za.fst),(di Za.snd.fst),(di Za.snd.snd)]))∧(((Za.snd.snd != 0)=true)→(((.tup [(di 0),(di Za.snd.fst),(di Za.snd.snd)]):DV)=(.tup [(di (nrK (tyW L x)).fst),(di (nrK (tyW L x)).snd.fst),(di (nrK (tyW L x)).snd.snd)])))∧(((Za.snd.snd != 0)=false)→(((((k+1)*8≤1099511627776)∧(k+1≤1099511627776))∧(∀(i:Nat),i<1→elemOK false 1 (elemF false 1 [di Za.fst] i)=true))∧(I64 (↑k+1))∧Again (S65 L m x) (fun k=>k≤x.kids.length∧∀(i:Nat),i<k→(tyW L (x.kids.getD i ex0)).snd.snd=0) (fun k=>x.kids.length-k) k ⟨regs 130 [(1,(.d (.slc 7 L.length (fcF L)))),(2,(.box 2 0)),(7,(.vec 41 1 0 (k+1))),(8,(vi (↑k+1))),(9,(vi Za.fst)),(10,(vi Za.snd.fst)),(11,(vi Za.snd.snd)),(16,(vi (↑k))),(17,(.box 2 5)),(18,Zc),(19,(vi (↑x.kids.length))),(20,(vb Zd)),(21,(vi (↑k))),(22,(vi (↑k+1))),(23,(.d (.tup [(di Za.fst),(di Za.snd.fst),(di Za.snd.snd)]))),(24,(.box 2 5)),(25,Zc),(26,(vi (↑k))),(27,(.d (.ptr [(di Zb.k),(ds Zb.s),(di Zb.n),(di Zb.d),(di Zb.pos),(.slc 6 Zb.kids.length (exG m Zb.kids))]))),(28,(.d (ndA m Zb))),(29,(.d (.slc 7 L.length (fcF L)))),(30,(.d (.tup [(di Za.fst),(di Za.snd.fst),(di Za.snd.snd)]))),(31,(vi Za.fst)),(32,(vi Za.snd.fst)),(33,(vi Za.snd.snd)),(34,(vi Za.snd.snd)),(35,(vb (Za.snd.snd != 0))),(38,(.vec 900 1 0 k)),(39,(vi Za.fst)),(40,(.d (.slc 1 1 (elemF false 1 [(di Za.fst)])))),(41,(.vec 41 1 0 (k+1)))],[(41,[(.arr ⟨false,3,false,none⟩ 1 (fun i=>bif i.blt k then rowK (revF L L.length) (revW L L.length) x k i else elemF false 1 [di Za.fst] (i-k)))]),(2,[(vi x.k),(vs x.s),(vi x.n),(vi x.d),(vi x.pos),Zc]),(900,[.dead])]⟩))))∧((Zd=false)→AWP Tryz.prog G [cd Tryz.f85 [1,1,1]] ⟨regs 130 [(1,(.d (.slc 7 L.length (fcF L)))),(2,(.box 2 0)),(7,(.vec 900 1 0 k)),(8,(vi (↑k))),(16,(vi (↑k))),(17,(.box 2 5)),(18,Zc),(19,(vi (↑x.kids.length))),(20,(vb Zd))],[(2,[(vi x.k),(vs x.s),(vi x.n),(vi x.d),(vi x.pos),Zc]),(900,[(.arr ⟨false,3,false,none⟩ 1 (rowK (revF L L.length) (revW L L.length) x k))])]⟩ (Ret Tryz.prog Tryz.f85 (DV.tup [di (nrK (tyW L x)).fst,di (nrK (tyW L x)).snd.fst,di (nrK (tyW L x)).snd.snd]))))) (by kernel_rfl) ?_
  simp only[iTn]
  refine⟨fun h=>?_,fun h=>?_⟩
  ·have hk2:k<x.kids.length:=by have:=oDt h;omega
   have er:rdE (kidA m x k)=x.kids.getD k ex0:=kid_rd hx hk2
   have hh:=h65 k hk2
   have enr:nrK (tyW L (x.kids.getD k ex0))=if (tyW L (x.kids.getD k ex0)).2.2≠0 then (0,(tyW L (x.kids.getD k ex0)).2) else ((tyW L (x.kids.getD k ex0)).1,0,0):=rfl
   simp only[er]
   refine⟨⟨⟨by omega,by omega⟩,hh⟩,fun h2=>?_,fun h2=>⟨⟨⟨by omega,by omega⟩,fun i hi=>(by obtain rfl:i=0:=(by omega);rfl)⟩,⟨by omega,by omega⟩,Again.mkR [(41,900)] rfl (k+1) ?_ ⟨hk2,fun i hi=>?_⟩ (by omega)⟩⟩
   ·have h2:(nrK (tyW L (x.kids.getD k ex0))).2.2≠0:=by simpa using h2
    by_cases h3:(tyW L (x.kids.getD k ex0)).2.2≠0
    ·have hb:=bad_hit (R:=tyL (revF L L.length) (revW L L.length) x.kids) (r0:=(0,0,0)) (k:=k) (by rw[tyL_map,List.length_map];exact hk2) (fun i hi=>by rw[tyL_get (by omega)];exact hkd i hi) (by rw[tyL_get hk2];exact h3)
     rw[tyL_get hk2] at hb
     unfold tyC at ety0
     rw[hb] at ety0
     rw[if_pos h3] at enr
     rw[enr,ety0]
     show _=DV.tup [di (nrK (0,(tyE (revF L L.length) (revW L L.length) (x.kids.getD k ex0)).2)).1,_,_]
     unfold nrK
     rw[if_pos h3]
    ·rw[if_neg h3] at enr
     rw[enr] at h2
     exact absurd rfl h2
   ·refine of_eq1 (some [(vi x.k),(vs x.s),(vi x.n),(vi x.d),(vi x.pos),(.d (.slc 6 x.kids.length (lay (exG m) x.kids)))]) (fun Za=>((((.d (.slc 7 L.length (fcF L))):AV)=(.d (.slc 7 L.length (fcF L)))∧((.box 2 0):AV)=(.box 2 0)∧((.vec 900 1 0 (k+1)):AV)=(.vec 900 1 0 (k+1))∧((vi (↑k+1)):AV)=(vi (↑(k+1)))∧True)∧(Za:(Option (List AV)))=Za∧((some [(.arr ⟨false,3,false,none⟩ 1 (fun i=>bif i.blt k then rowK (revF L L.length) (revW L L.length) x k i else elemF false 1 [DV.con (Value.int IntKind.i64 (nrK (tyW L (x.kids.getD k ex0))).fst)] (i-k)))]):(Option (List AV)))=(some [(.arr ⟨false,3,false,none⟩ 1 (rowK (revF L L.length) (revW L L.length) x (k+1)))])∧True)) (by kernel_rfl) ?_
    refine⟨⟨rfl,rfl,rfl,rfl,trivial⟩,rfl,?_,trivial⟩
    have h3:(tyW L (x.kids.getD k ex0)).2.2=0:=by
     refine Classical.byContradiction fun hn=>?_
     rw[if_pos hn] at enr
     rw[enr] at h2
     exact hn (by simpa using h2)
    rw[if_neg (by omega)] at enr
    exact congrArg (fun f=>some [AV.arr itK 1 f]) (rowK_next k (by rw[enr]))
   ·rcases Nat.lt_or_ge i k with h4|h4
    ·exact hkd i h4
    ·obtain rfl:i=k:=by omega
     refine Classical.byContradiction fun hn=>?_
     rw[if_pos hn] at enr
     rw[enr] at h2
     exact hn (by simpa using h2)
  ·have h:=of_decide_eq_false h
   obtain rfl:k=x.kids.length:=by omega
   have hb:badR (tyL (revF L L.length) (revW L L.length) x.kids)=none:=bad_none (r0:=(0,0,0)) fun i hi=>by
    have hi:i<x.kids.length:=by rw[tyL_map,List.length_map] at hi;exact hi
    rw[tyL_get hi];exact hkd i hi
   have ety:=ety0
   unfold tyC at ety
   rw[hb] at ety
   have hKl:((tyL (revF L L.length) (revW L L.length) x.kids).map (·.1)).length=x.kids.length:=by rw[tyL_map,List.length_map,List.length_map]
   have hrow:∀i,i<x.kids.length→rowK (revF L L.length) (revW L L.length) x x.kids.length (0+i)=inF ((tyL (revF L L.length) (revW L L.length) x.kids).map (·.1)) i:=fun i hi=>by
    rw[Nat.zero_add]
    unfold rowK inF
    rw[rowRec_get hi,tyL_map,List.map_map]
    show di (tyE _ _ (x.kids.getD i ex0)).1=_
    rw[List.getD,List.getD,List.getElem?_map,gEe hi];rfl
   have hKg:∀i,i<x.kids.length→((tyL (revF L L.length) (revW L L.length) x.kids).map (·.1)).getD i 0=(tyW L (x.kids.getD i ex0)).1:=fun i hi=>tyK_get hi
   refine AWP.freeze (agg:=itK) (sz:=1) (f:=rowK (revF L L.length) (revW L L.length) x x.kids.length) 900 (by kernel_rfl) ?_
   refine AWP.pre (.reg _ 7 (.d (inD ((tyL (revF L L.length) (revW L L.length) x.kids).map (·.1)))) fun β h v hv=>?_) ?_
   ·have hv:DV.rel h (.slc 1 x.kids.length fun i=>rowK (revF L L.length) (revW L L.length) x x.kids.length (0+i)) v:=hv
    show DV.rel h (.slc 1 ((tyL (revF L L.length) (revW L L.length) x.kids).map (·.1)).length _) v
    rw[hKl]
    exact DV.rel_slc_congr hrow hv
   have hk20:=rk_all hsn
   have hone:=@snd_one x hsn
   have htwo:=@snd_two x hsn
   have hmany:=@snd_many x hsn
   generalize (tyL (revF L L.length) (revW L L.length) x.kids).map (·.1)=KS at *
   clear hrow hb ety0
   refine walkK (orc:=orcKR L) (keep:=[]) (cuts:=[]) (n:=1000) follows ?_
   refine of_tr (fun ZT ZW ZQ ZK=>(fun Za Zb Zc Zd Ze Zf Zg=>(ZK 143 [(.slc 1 KS.length (inF KS))] (di (shI Zb))∧(((x.k==1)=true)→(Zg=Za))∧(((x.k==1)=false)→((((x.k==3)=true)→(Zf=Za))∧(((x.k==3)=false)→((((x.k==4)=true)→(Zf=Za))∧(((x.k==4)=false)→((((x.k==2)=true)→(ZK 101 [(.slc 7 L.length (fcF L)),(ds x.s)] (di (fndI L x.s))∧(((decide (fndI L x.s≥0))=true)→(((0≤fndI L x.s)∧(fndI L x.s<↑L.length))∧((.tup [(di (L.getD (fndI L x.s).toNat fc0).kind),(di 0),(di 0)]):DV)=Za))∧(((decide (fndI L x.s≥0))=false)→ZW [cd Tryz.f85 [1,1,1,1,0,1,0,1,1,1,1,1,0,1,0,1,0],(.blk 3),cd Tryz.f85 [1,1,1,1,0,1,0,1,1,1,1,1,0,1,1],(.blk 2),cd Tryz.f85 [1,1,1,1,1]] (stS ZT [1,1,1,0,1]) ZQ)))∧(((x.k==2)=false)→((((x.k==5)=true)→((((shI Zb==0)=true)→(Zg=Za))∧(((shI Zb==0)=false)→(Zc=Za))))∧(((x.k==5)=false)→((((x.k==6)=true)→((((shI Zb==0)=true)→(Zg=Za))∧(((shI Zb==0)=false)→(Zc=Za))))∧(((x.k==6)=false)→((((x.k==7)=true)→((((shI Zb==0)=true)→(Zg=Za))∧(((shI Zb==0)=false)→(Zc=Za))))∧(((x.k==7)=false)→((((x.k==8)=true)→((((shI Zb==0)=true)→(Zg=Za))∧(((shI Zb==0)=false)→(Zc=Za))))∧(((x.k==8)=false)→((((x.k==9)=true)→((((shI Zb==0)=true)→(Zg=Za))∧(((shI Zb==0)=false)→(Zc=Za))))∧(((x.k==9)=false)→((((x.k==10)=true)→((((shI Zb==0)=true)→(Zg=Za))∧(((shI Zb==0)=false)→(Zc=Za))))∧(((x.k==10)=false)→((((x.k==11)=true)→((((shI Zb==0)=true)→(Zg=Za))∧(((shI Zb==0)=false)→(Zc=Za))))∧(((x.k==11)=false)→((((x.k==14)=true)→((((shI Zb==0)=true)→(Zf=Za))∧(((shI Zb==0)=false)→(Zc=Za))))∧(((x.k==14)=false)→((((x.k==15)=true)→((((shI Zb==0)=true)→(Zf=Za))∧(((shI Zb==0)=false)→(Zc=Za))))∧(((x.k==15)=false)→((((x.k==16)=true)→((((shI Zb==0)=true)→(Zf=Za))∧(((shI Zb==0)=false)→(Zc=Za))))∧(((x.k==16)=false)→((((x.k==17)=true)→((((shI Zb==0)=true)→(Zf=Za))∧(((shI Zb==0)=false)→(Zc=Za))))∧(((x.k==17)=false)→((((x.k==12)=true)→(((((!(shI Zb==0||shI Zb==1)&&shI Zb==2)=true)→(((0:Int)≤(0:Int))∧(0<(↑x.kids.length:Int))))∧(((!(shI Zb==0||shI Zb==1)&&shI Zb==2)=true)→(((0:Int)≤(1:Int))∧(1<(↑x.kids.length:Int))))∧(((!(shI Zb==0||shI Zb==1)&&shI Zb==2)=true)→ZK 144 [Zd,Ze,(.slc 7 L.length (fcF L))] (db (cpR (wdsR L (rdE Zd)) (wdsR L (rdE Ze)) (rdE Zd).s (rdE Ze).s))))∧(((shI Zb==0||shI Zb==1||shI Zb==2&&cpR (wdsR L (rdE Zd)) (wdsR L (rdE Ze)) (rdE Zd).s (rdE Ze).s)=true)→(Zf=Za))∧(((shI Zb==0||shI Zb==1||shI Zb==2&&cpR (wdsR L (rdE Zd)) (wdsR L (rdE Ze)) (rdE Zd).s (rdE Ze).s)=false)→(Zc=Za))))∧(((x.k==12)=false)→((((x.k==13)=true)→(((((!(shI Zb==0||shI Zb==1)&&shI Zb==2)=true)→(((0:Int)≤(0:Int))∧(0<(↑x.kids.length:Int))))∧(((!(shI Zb==0||shI Zb==1)&&shI Zb==2)=true)→(((0:Int)≤(1:Int))∧(1<(↑x.kids.length:Int))))∧(((!(shI Zb==0||shI Zb==1)&&shI Zb==2)=true)→ZK 144 [Zd,Ze,(.slc 7 L.length (fcF L))] (db (cpR (wdsR L (rdE Zd)) (wdsR L (rdE Ze)) (rdE Zd).s (rdE Ze).s))))∧(((shI Zb==0||shI Zb==1||shI Zb==2&&cpR (wdsR L (rdE Zd)) (wdsR L (rdE Ze)) (rdE Zd).s (rdE Ze).s)=true)→(Zf=Za))∧(((shI Zb==0||shI Zb==1||shI Zb==2&&cpR (wdsR L (rdE Zd)) (wdsR L (rdE Ze)) (rdE Zd).s (rdE Ze).s)=false)→(Zc=Za))))∧(((x.k==13)=false)→((((x.k==18)=true)→((((shI Zb==1)=true)→(Zf=Za))∧(((shI Zb==1)=false)→(Zc=Za))))∧(((x.k==18)=false)→((((x.k==19)=true)→((((shI Zb==1)=true)→(Zf=Za))∧(((shI Zb==1)=false)→(Zc=Za))))∧(((x.k==19)=false)→((((x.k==20)=true)→((((shI Zb==1)=true)→(Zf=Za))∧(((shI Zb==1)=false)→(Zc=Za))))∧(((x.k==20)=false)→(Zc=Za)))))))))))))))))))))))))))))))))))))))))) ((.tup [(di (nrK (tyW L x)).fst),(di (nrK (tyW L x)).snd.fst),(di (nrK (tyW L x)).snd.snd)]):DV) (rdL (DV.slc 1 KS.length (inF KS))) ((.tup [(di 0),(di x.pos),(di 5)]):DV) (ndA m (x.kids.getD (Int.toNat 0) ex0)) (ndA m (x.kids.getD (Int.toNat 1) ex0)) ((.tup [(di 1),(di 0),(di 0)]):DV) ((.tup [(di 0),(di 0),(di 0)]):DV)) (by kernel_rfl) ?_
   have t0:Int.toNat 0=0:=rfl
   have t1:Int.toNat 1=1:=rfl
   have k2:x.k=12∨x.k=13→x.kids.length=2:=fun h=>(htwo (by omega)).1
   have hk5:5≤x.k→0<KS.length:=fun h=>by
    rw[hKl]
    by_cases e1:x.k=5∨x.k=18
    ·have:=hone e1;omega
    ·by_cases e2:x.k=10∨x.k=11
     ·have:=hmany e2;omega
     ·have:=(htwo (by omega)).1;omega
   obtain ⟨a1,a2,a3,a4⟩:=@apK_ks (revF L L.length) (revW L L.length) x.k x.s KS (x.kids.getD 0 ex0).s (x.kids.getD 1 ex0).s
   have hn:∀p:Int×Int,apK (revF L L.length) (revW L L.length) x.k x.s KS (x.kids.getD 0 ex0).s (x.kids.getD 1 ex0).s=p→nrK (tyW L x)=if p.2≠0 then (0,x.pos,p.2) else (p.1,0,0):=fun p hp=>by
    rw[ety,hp];rfl
   have hX:∀a b:Int,0≤a→5≤x.k→apK (revF L L.length) (revW L L.length) x.k x.s KS (x.kids.getD 0 ex0).s (x.kids.getD 1 ex0).s=(kxA KS a b,kxE KS a)→(shI KS=a→nrK (tyW L x)=(b,0,0))∧(¬shI KS=a→nrK (tyW L x)=(0,x.pos,5)):=fun a b ha h5 hp=>by
    have hs:=sh_all ha (hk5 h5)
    rw[hn _ hp]
    constructor
    ·intro h
     have h:=hs.1 h
     unfold kxA kxE
     rw[if_pos h,if_pos h];rfl
    ·intro h
     have h:¬allK KS a=true:=fun hh=>h (hs.2 hh)
     unfold kxA kxE
     rw[if_neg h,if_neg h];rfl
   have n1:x.k=1→nrK (tyW L x)=(0,0,0):=fun h=>by
    rw[hn (0,0) (by unfold apK;rw[if_pos h])];rfl
   have n3:x.k=3∨x.k=4→nrK (tyW L x)=(1,0,0):=fun h=>by
    rw[hn (1,0) (by unfold apK;rw[if_neg (by omega)];split;rfl;rw[if_pos (by omega)])];rfl
   have n2:x.k=2→nrK (tyW L x)=if (nmK (revF L L.length) (revW L L.length) x.s).2≠0 then (0,x.pos,(nmK (revF L L.length) (revW L L.length) x.s).2) else ((nmK (revF L L.length) (revW L L.length) x.s).1,0,0):=fun h=>by
    rw[hn _ (by unfold apK;rw[if_neg (by omega),if_neg (by omega),if_neg (by omega),if_pos h])]
   have n12:x.k=12∨x.k=13→∀c:Bool,c=(shI KS==0||shI KS==1||(shI KS==2&&cpR (wdsR L (x.kids.getD 0 ex0)) (wdsR L (x.kids.getD 1 ex0)) (x.kids.getD 0 ex0).s (x.kids.getD 1 ex0).s))→(c=true→nrK (tyW L x)=(1,0,0))∧(c=false→nrK (tyW L x)=(0,x.pos,5)):=fun h c hc=>by
    have hc2:cmK (revF L L.length) (x.kids.getD 0 ex0).s (x.kids.getD 1 ex0).s (KS.getD 0 0) (KS.getD 1 0)=c:=by
     have hl2:=k2 h
     have g0:=hKg 0 (by omega)
     have g1:=hKg 1 (by omega)
     have r0:=ty_range hv (snd_kid hsn (i:=0) (by omega)) (hkd 0 (by omega))
     have r1:=ty_range hv (snd_kid hsn (i:=1) (by omega)) (hkd 1 (by omega))
     rw[hl2] at hKl
     obtain ⟨p,q,rfl⟩:∃p q,KS=[p,q]:=by
      match KS,hKl with
      | [p,q],_=>exact⟨p,q,rfl⟩
     have g0:p=_:=g0
     have g1:q=_:=g1
     have hcm:=cm_ref hv (snd_kid hsn (i:=0) (by omega)) (snd_kid hsn (i:=1) (by omega)) (hkd 0 (by omega)) (hkd 1 (by omega))
     rw[←g0,←g1] at hcm
     rw[←g0] at r0
     rw[←g1] at r1
     show cmK _ _ _ p q=c
     rw[hc,sh_pair]
     by_cases e:q=p
     ·subst e
      rw[if_pos rfl]
      by_cases e2:q=2
      ·subst e2
       rw[hcm rfl rfl];rfl
      ·unfold cmK
       rw[if_pos (by simp[e2])]
       have:q=0∨q=1:=by omega
       rcases this with rfl|rfl<;>rfl
     ·rw[if_neg e]
      unfold cmK
      rw[if_pos (by simp;left;exact fun h=>e h.symm)]
      rw[beq_eq_false_iff_ne.2 (fun h=>e h.symm)];rfl
    rw[hn _ (a4 h),hc2]
    refine⟨fun h=>?_,fun h=>?_⟩
    ·rw[h];rfl
    ·rw[h];rfl
   simp only[rdL_eq,beq_iff_eq,beq_eq_false_iff_ne,ne_eq,t0,t1]
   have er:∀i,i<x.kids.length→rdE (kidA m x i)=x.kids.getD i ex0:=fun i hi=>kid_rd hx hi
   have h113:x.k=12∨x.k=13→FnOK Tryz.prog G 144 [kidA m x 0,kidA m x 1,fcsD L] (db (cpR (wdsR L (x.kids.getD 0 ex0)) (wdsR L (x.kids.getD 1 ex0)) (x.kids.getD 0 ex0).s (x.kids.getD 1 ex0).s)):=fun h=>
    kidOK (Q:=fun d=>FnOK Tryz.prog G 144 [d,kidA m x 1,fcsD L] _) hx (i:=0) (by have:=k2 h;omega) fun m1 _ h1=>
     kidOK (Q:=fun d=>FnOK Tryz.prog G 144 [exD m1 (x.kids.getD 0 ex0),d,fcsD L] _) hx (i:=1) (by have:=k2 h;omega) fun m2 _ h2=>f144 L m1 m2 _ _ h1 h2 (by omega) (fun f hf=>by have:=hw f hf;omega)
   repeat' (first|(with_reducible refine And.intro ?_ ?_)|(with_reducible intro _))
   all_goals first
    | contradiction
    | exact f143 KS (by omega)
    | exact f101 L x.s (by omega)
    | (exfalso;omega)
    | (rw[n1 (by assumption)])
    | (rw[n3 (by omega)])
    | (show (0:Int)≤_;omega)
    | (show (1:Int)<_;omega)
    | (show (0:Int)<_;omega)
    | (rw[(hX 0 0 (by omega) (by omega) (a1 (by omega))).1 (by assumption)])
    | (rw[(hX 0 0 (by omega) (by omega) (a1 (by omega))).2 (by assumption)])
    | (rw[(hX 0 1 (by omega) (by omega) (a2 (by omega))).1 (by assumption)])
    | (rw[(hX 0 1 (by omega) (by omega) (a2 (by omega))).2 (by assumption)])
    | (rw[(hX 1 1 (by omega) (by omega) (a3 (by omega))).1 (by assumption)])
    | (rw[(hX 1 1 (by omega) (by omega) (a3 (by omega))).2 (by assumption)])
    | (have q0:=er 0 (by have:=k2 (by omega);omega)
       have q1:=er 1 (by have:=k2 (by omega);omega)
       simp only[q0,q1]
       exact h113 (by omega))
    | (rename_i hc
       have q0:=er 0 (by have:=k2 (by omega);omega)
       have q1:=er 1 (by have:=k2 (by omega);omega)
       simp only[q0,q1] at hc
       rw[(n12 (by omega) _ rfl).1 hc])
    | (rename_i hc
       have q0:=er 0 (by have:=k2 (by omega);omega)
       have q1:=er 1 (by have:=k2 (by omega);omega)
       simp only[q0,q1] at hc
       rw[(n12 (by omega) _ rfl).2 hc])
    | (rename_i hc;exact oDt hc)
    | (rename_i hc
       have:=(fnd_hit (oDt hc)).1
       have:=oDt hc
       show fndI L x.s<_
       omega)
    | (rename_i hk hc
       have hc:=oDt hc
       rw[n2 (by omega)]
       unfold nmK
       rw[if_pos (fnd_fH.1 hc),fnd_fM hv hc]
       rfl)
    | skip
   ·rename_i k2' hc
    have hc:=of_decide_eq_false hc
    have hfH:fH (revF L L.length) (.string x.s)=false:=by
     cases hh:fH (revF L L.length) (.string x.s) with
     | false=>rfl
     | true=>exact absurd (fnd_fH.2 hh) hc
    refine AWP.loop (c:=cAt (bodyOf Tryz.f85) [1,1,1,1,0,1,0,1,1,1,1,1,0,1,0,1,0,0]) (by kernel_rfl) (S65b L m x) (fun k=>k≤L.length∧∀i,i<k→anyB (L.getD i fc0).words x.s=false) (fun k=>L.length-k) 0 ?_ ⟨Nat.zero_le _,fun i hi=>absurd hi (Nat.not_lt_zero _)⟩ ?_
    ·exact AS.leA (by kernel_rfl)
    ·rintro k ⟨hk,hkd2⟩
     refine walkK (orc:=orcKR L) (keep:=[]) (cuts:=[]) (n:=1000) follows ?_
     refine of_rd (fun ZT ZW ZQ ZK ZA _=>(fun Za=>((((decide ((↑k:Int)<↑L.length))=true)→((((0≤(↑k:Int))∧((↑k:Int)<↑L.length))∧ZK 55 [(.slc 1 (L.getD (↑k:Int).toNat fc0).words.length (stF (L.getD (↑k:Int).toNat fc0).words)),(ds x.s)] (db Za))∧((Za=true)→(((.tup [(di 2),(di 0),(di 0)]):DV)=(.tup [(di (nrK (tyW L x)).fst),(di (nrK (tyW L x)).snd.fst),(di (nrK (tyW L x)).snd.snd)])))∧((Za=false)→((I64 (↑k+1))∧(ZA (stS ZT [0,1]))))))∧(((decide ((↑k:Int)<↑L.length))=false)→ZW [cd Tryz.f85 [1,1,1,1,0,1,0,1,1,1,1,1,0,1,1],(.blk 2),cd Tryz.f85 [1,1,1,1,1]] (stS ZT [1]) ZQ))) (anyB (rdW (wdD (L.getD (↑k:Int).toNat fc0).words)) x.s)) (by kernel_rfl) ?_
     simp only[iTn,rdW_eq]
     refine⟨fun h=>?_,fun h=>?_⟩
     ·have hk3:k<L.length:=by have:=oDt h;omega
      refine⟨⟨⟨by omega,by omega⟩,f55 _ _ (by have:=hw _ (getD_mem (x0:=fc0) hk3);omega)⟩,fun h3=>?_,fun h3=>⟨⟨by omega,by omega⟩,Again.mk (k+1) ?_ ⟨hk3,fun i hi=>?_⟩ (by omega)⟩⟩
      ·rw[n2 (by omega)]
       have hwl:wL (revW L L.length) (.string x.s)=true:=wL_iff.2 ⟨_,getD_mem hk3,(anyB_mem _ _).1 h3⟩
       have hnm:nmK (revF L L.length) (revW L L.length) x.s=(2,0):=by unfold nmK;rw[if_neg (by rw[hfH];decide),if_pos hwl]
       rw[hnm];rfl
      ·exact AS.leA (by kernel_rfl)
      ·rcases Nat.lt_or_ge i k with h4|h4
       ·exact hkd2 i h4
       ·obtain rfl:i=k:=by omega
        exact h3
     ·have h:=of_decide_eq_false h
      refine walkK (orc:=orcKR L) (keep:=[]) (cuts:=[]) (n:=1000) follows ?_
      refine of_tr (fun _ _ _ _=>(((.tup [(di 0),(di x.pos),(di 4)]):DV)=(.tup [(di (nrK (tyW L x)).fst),(di (nrK (tyW L x)).snd.fst),(di (nrK (tyW L x)).snd.snd)]))) (by kernel_rfl) ?_
      have hwl:wL (revW L L.length) (.string x.s)=false:=by
       cases hh:wL (revW L L.length) (.string x.s) with
       | false=>rfl
       | true=>
        obtain ⟨f,hf,hs⟩:=wL_iff.1 hh
        obtain ⟨i,hi,rfl⟩:=List.getElem_of_mem hf
        have:=hkd2 i (by omega)
        rw[List.getD,gEe hi] at this
        have this:anyB L[i].words x.s=false:=this
        rw[(anyB_mem _ _).2 hs] at this
        cases this
      have hnm:nmK (revF L L.length) (revW L L.length) x.s=(0,4):=by unfold nmK;rw[if_neg (by rw[hfH];decide),if_neg (by rw[hwl];decide)]
      rw[n2 (by omega),hnm];rfl
end Go.Proofs
/- Texts of expressions: neither empty nor long. -/
namespace Go.Proofs
open Go Go.Ab Go.RowKit
theorem dig_pos (n:Nat):0<(Lib.decDigits n).length:=by
 rw[Lib.decDigits]
 split<;>simp
theorem numT_pos {n d:Int} (h:(decF n d).2=true):0<(numT n d).size:=by
 unfold numT
 rw[str_size]
 rw[decF_eq] at h⊢
 unfold decB at h⊢
 split at h
 ·rename_i hh
  rw[if_pos hh]
  simp only[List.length_append]
  have:=dig_pos (n.natAbs / d.toNat)
  omega
 ·cases h
theorem snd_size {x:Ex} (h:sndE x=true):x.s.size≤16:=by
 by_cases hk:x.k=2
 ·exact(name_size (snd_name h hk)).2
 rw[sndE_eq] at h
 unfold sndK kdK at h
 revert h
 repeat' split
 all_goals (intro h;simp only[bAt,dEt] at h)
 all_goals first|omega|(exfalso;omega)
theorem fmtK_pos {x:Ex} (h:sndE x=true):0<(fmtE x).size:=by
 rw[fmtE_eq]
 have h2:=@snd_name x h
 have h1:=@snd_num x h
 unfold fmtK
 repeat' split
 all_goals (try simp only[bSa])
 ·rename_i hk
  have:=h1 hk
  unfold numB at this
  simp only[bAt] at this
  exact numT_pos this.1.1
 ·rename_i hk
  have:=name_size (h2 hk);omega
 ·decide
 ·decide
 ·show 0<1+_;omega
 ·show 0<4+_;omega
 ·show 0<4+_+1;omega
 ·show 0<4+_+1;omega
 ·show 0<_+1+_+1+_;omega
theorem fmt_pos {x:Ex} (h:fitE x=true):0<(fmtE x).size:=by
 unfold fitE at h
 simp only[bAt] at h
 exact fmtK_pos h.1.1
theorem fmtK_small (k:Int) (s:ByteArray) (n d:Int) (fl:List (Int×ByteArray)) (hs:s.size≤16):(fmtK k s n d fl).size≤115+totL fl:=by
 have h1:=sizeN n d
 have t1:=tot_get fl
 have t0:=tot_get0 fl
 have j:=joinS_size fl
 have o:=opS_size k
 have w1:=wth_size 6 (g0 fl 0)
 have w2:=wth_size 2 (g0 fl 0)
 have w3:=wth_size (fstL k) (g0 fl 0)
 have w4:=wth_size (lvI k+1) (g0 fl 1)
 unfold fmtK
 repeat' split
 all_goals (try simp only[bSa])
 ·omega
 ·omega
 ·show 4≤_;omega
 ·show 5≤_;omega
 ·show 1+_≤_;omega
 ·show 4+_≤_;omega
 ·show 4+_+1≤_;omega
 ·show 4+_+1≤_;omega
 ·show _+1+_+1+_≤_;omega
theorem totL_map:∀{l:List Ex},(∀i,i<l.length→(fmtE (l.getD i ex0)).size+4≤120*nds (l.getD i ex0))→totL (fmtL l)≤120*ndsL l
 | [],_=>by simp[fmtL,totL]
 | x :: l,h=>by
  have h1:=h 0 (by simp)
  have h2:=totL_map fun i hi=>by simpa using h (i+1) (by simpa using hi)
  have h1:(fmtE x).size+4≤120*nds x:=h1
  simp only[fmtL,ndsL]
  have e:totL ((lvI x.k,fmtE x) :: fmtL l)=(fmtE x).size+4+totL (fmtL l):=by simp[totL]
  omega
theorem fmt_small (n:Nat):∀x:Ex,ht x≤n→sndE x=true→(fmtE x).size+4≤120*nds x:=by
 induction n using Nat.strongRecOn with
 | _ n ih=>
 intro x hx hs
 have h2:=totL_map (l:=x.kids) fun i hi=>by
  have:=ht_kid hi
  exact ih (n-1) (by omega) _ (by omega) (snd_kid hs hi)
 have h1:=fmtK_small x.k x.s x.n x.d (fmtL x.kids) (snd_size hs)
 rw[fmtE_eq,nds_eq]
 omega
set_option maxHeartbeats 4000000
set_option maxRecDepth 100000
variable {G:IH}
/-! The reference's names and types. -/
theorem typR_ref {L:List Fc} {x:Ex}:typR L x=if (!vfB L||!fitE x)=true then (0,0,1) else nrK (tyW L x):=by
 unfold typR
 have e:(fmtX x).size=0↔fitE x=false:=by
  unfold fmtX
  cases h:fitE x with
  | false=>simp
  | true=>
   simp only[if_true]
   constructor
   ·intro hz
    exfalso
    have:=fmt_pos h
    omega
   ·intro h;cases h
 have e2:decide ((fmtX x).size=0) = !fitE x:=by
  cases h:fitE x with
  | false=>rw[decide_eq_true (e.2 h)];rfl
  | true=>rw[decide_eq_false (fun hz=>by rw[e.1 hz] at h;cases h)];rfl
 rw[e2]
 by_cases h1:(!vfB L||!fitE x)=true
 ·rw[if_pos h1,if_pos h1]
 ·rw[if_neg h1,if_neg h1]
  unfold nrK
  by_cases h2:(tyW L x).2.2≠0
  ·rw[if_pos h2]
  ·rw[if_neg h2]
noncomputable def orc33 (L:List Fc):Oracle:=fun f a=>match f,a with
 | 54,[_]=>some (db (vfB L))
 | 84,[e]=>some (db (fitE (rdE e)))
 | 85,[e,_]=>some (.tup [di (nrK (tyW L (rdE e))).1,di (nrK (tyW L (rdE e))).2.1,di (nrK (tyW L (rdE e))).2.2])
 | _,_=>none
theorem f49 (hT:Tab G) (m:Nat) (x:Ex) (L:List Fc) (hx:ht x≤m) (hs:Sm x) (h:∀i,i<L.length→FcS (L.getD i fc0)) (hl:L.length≤1000):FnOK Tryz.prog G 49 [exD m x,fcsD L] (.tup [di (typR L x).1,di (typR L x).2.1,di (typR L x).2.2]):=by
 have e:rdE (exV x.k x.s x.n x.d x.pos x.kids.length (lay (exG m) x.kids))=x:=rdE_eq hx
 refine FnOK.walkK (orc:=orc33 L) (keep:=[]) follows Tryz.func49 rfl Tryz.call49 ?_
 refine of_tr (fun _ _ _ ZK=>(fun Za Zb=>((ZK 54 [(.slc 7 L.length (fcF L))] (db (vfB L))∧(((!!vfB L)=true)→ZK 84 [(ndX m x)] (db (fitE (rdE (ndX m x))))))∧(((!vfB L||!fitE (rdE (ndX m x)))=true)→(((.tup [(di 0),(di 0),(di 1)]):DV)=Zb))∧(((!vfB L||!fitE (rdE (ndX m x)))=false)→(ZK 85 [(ndX m x),(.slc 7 L.length (fcF L))] Za∧(Za:DV)=Zb)))) ((.tup [(di (nrK (tyW L (rdE (ndX m x)))).fst),(di (nrK (tyW L (rdE (ndX m x)))).snd.fst),(di (nrK (tyW L (rdE (ndX m x)))).snd.snd)]):DV) ((.tup [(di (typR L x).fst),(di (typR L x).snd.fst),(di (typR L x).snd.snd)]):DV)) (by kernel_rfl) ?_
 simp only[e]
 rw[typR_ref]
 refine⟨⟨f54 hT L h hl,fun _=>f84 hT m x hx hs⟩,fun h1=>?_,fun h1=>⟨?_,?_⟩⟩
 ·rw[if_pos h1]
 ·have h2:=h1
  simp only[Bool.or_eq_false_iff,Bool.not_eq_false'] at h2
  have hsn:sndE x=true:=by
   have h3:=h2.2
   unfold fitE at h3
   simp only[bAt] at h3
   first|exact h3.1.1|exact h3.1
  exact f85 L (vf_of h2.1) hl (fun f hf=>by
   obtain ⟨i,hi,rfl⟩:=List.getElem_of_mem hf
   have:=(h i hi).ln
   rwa [List.getD,gEe hi] at this) m x hx hs hsn
 ·rw[if_neg (by rw[h1];decide)]
def vlR (F:List Ft) (k:Int) (x:Ex):Ft×Int:=match valE F k x with
 | some o=>(o,0)
 | none=>(ft0,2)
noncomputable def orcRe (F:List Ft) (L:List Fc):Oracle:=fun f a=>match f,a with
 | 15,[_,_]=>some (db (vaF F L))
 | 49,[x,_]=>some (.tup [di (typR L (rdE x)).1,di (typR L (rdE x)).2.1,di (typR L (rdE x)).2.2])
 | 50,[x,_]=>some (.tup [ftD (vlR (revT F F.length) (typR L (rdE x)).1 (rdE x)).1,di (vlR (revT F F.length) (typR L (rdE x)).1 (rdE x)).2])
 | _,_=>none
theorem f13_at (hT:Tab G) (F:List Ft) (L:List Fc) (h:∀i,i<L.length→FcS (L.getD i fc0)) (hl:L.length≤1000) (hF:F.length≤100000) (m:Nat) (x:Ex) (hx:ht x≤m) (hs:Sm x)
  (h50:vaF F L=true→(typR L x).2.2=0→FnOK Tryz.prog G 50 [exD m x,ftsD F] (.tup [ftD (vlR (revT F F.length) (typR L x).1 x).1,di (vlR (revT F F.length) (typR L x).1 x).2])) :
  FnOK Tryz.prog G 13 [exD m x,ftsD F,fcsD L] (.tup [ftD (evR F L x).1,di (evR F L x).2]):=by
 have er:rdE (exV x.k x.s x.n x.d x.pos x.kids.length (lay (exG m) x.kids))=x:=rdE_eq hx
 refine FnOK.walkK (orc:=orcRe F L) (keep:=[]) follows Tryz.func13 rfl Tryz.call13 ?_
 refine of_tr (fun _ _ _ ZK=>(fun Za Zb Zc=>(ZK 15 [(.slc 6 F.length (ftF F)),(.slc 7 L.length (fcF L))] (db (vaF F L))∧(((!vaF F L)=true)→(((.tup [Zc,(di 1)]):DV)=Zb))∧(((!vaF F L)=false)→(ZK 49 [(ndX m x),(.slc 7 L.length (fcF L))] (.tup [(di (typR L (rdE (ndX m x))).fst),(di (typR L (rdE (ndX m x))).snd.fst),(di (typR L (rdE (ndX m x))).snd.snd)])∧((((typR L (rdE (ndX m x))).snd.snd != 0)=true)→(((.tup [Zc,(di (typR L (rdE (ndX m x))).snd.snd)]):DV)=Zb))∧((((typR L (rdE (ndX m x))).snd.snd != 0)=false)→(ZK 50 [(ndX m x),(.slc 6 F.length (ftF F))] (.tup [(.agg [(ds Za.fst.nm),(di Za.fst.kind),(di Za.fst.n),(di Za.fst.d),(db Za.fst.tr),(ds Za.fst.wd)]),(di Za.snd)])∧((.tup [(.agg [(ds Za.fst.nm),(di Za.fst.kind),(di Za.fst.n),(di Za.fst.d),(db Za.fst.tr),(ds Za.fst.wd)]),(di Za.snd)]):DV)=Zb)))))) (vlR (revT F F.length) (typR L (rdE (ndX m x))).fst (rdE (ndX m x))) ((.tup [(ftD (evR F L x).fst),(di (evR F L x).snd)]):DV) ((.agg [(ds (ByteArray.mk #[])),(di 0),(di 0),(di 0),(db false),(ds (ByteArray.mk #[]))]):DV)) (by kernel_rfl) ?_
 simp only[er]
 unfold evR
 refine⟨f15 hT F L h hl (by omega),fun h1=>?_,fun h1=>?_⟩
 ·have h1:vaF F L=false:=by simpa using h1
  rw[if_neg (by rw[h1];decide)];rfl
 have h1:vaF F L=true:=by simpa using h1
 rw[if_pos h1]
 refine⟨f49 hT m x L hx hs h hl,fun h2=>?_,fun h2=>?_⟩
 ·have h2:(typR L x).2.2≠0:=by simpa using h2
  rw[if_neg h2];rfl
 have h2:(typR L x).2.2=0:=by simpa using h2
 rw[if_pos h2]
 exact⟨h50 h1 h2,rfl⟩
abbrev ftCs (f:Ft):List DV:=[ds f.nm,di f.kind,di f.n,di f.d,db f.tr,ds f.wd]
def kvR (F:List Ft) (l:List Fc) (ws:List ByteArray) (y:Ex):Ft×Int:=vlR F (tyE l ws y).1 y
def dVl (F:List Ft) (l:List Fc) (ws:List ByteArray) (R:DV→Ex):Oracle:=fun f a=>match f,a with
 | 50,[e,_]=>some (.tup [ftD (kvR F l ws (R e)).1,di (kvR F l ws (R e)).2])
 | _,_=>none
noncomputable def orcVl (F:List Ft) (l:List Fc) (ws:List ByteArray):Orc:={ d:=dVl F l ws rdE,rows:=fun n=>Nat.beq n 18 }
abbrev ftRK:RK:=⟨true,32,false,none⟩
def rowVl (F:List Ft) (l:List Fc) (ws:List ByteArray) (x:Ex):Nat→DV:=fun i=>.agg (ftCs (kvR F l ws (x.kids.getD i ex0)).1)
noncomputable def S50 (L:List Ft) (F:List Ft) (l:List Fc) (ws:List ByteArray) (m:Nat) (x:Ex) (k:Nat):AS:=⟨regs Tryz.f50.ntmps [(1,.d (ftsD L)),(2,.box 2 0),(4,.box 4 0),(6,.vec 900 6 0 k),(7,vi k)],[(2,exC m x),(4,[vs .empty,vi 0,vi 0,vi 0,.d (db false),vs .empty]),(900,[.arr ftRK 6 (rowVl F l ws x)])]⟩
def shB (x:Ex) (t:Bool):Bool:=x.k==19&&!t||x.k==20&&t
theorem vl_walk (L F:List Ft) (l:List Fc) (ws:List ByteArray) (r:DV) (m:Nat) (x:Ex) (hx:ht x≤m) (hs:Sm x)
  (h50:∀i,i<x.kids.length→FnOK Tryz.prog G 50 [kidA m x i,ftsD L] (.tup [ftD (kvR F l ws (x.kids.getD i ex0)).1,di (kvR F l ws (x.kids.getD i ex0)).2]))
  (hsh:1<x.kids.length→(kvR F l ws (x.kids.getD 0 ex0)).2=0→shB x (kvR F l ws (x.kids.getD 0 ex0)).1.tr=true→r=.tup [ftD (kvR F l ws (x.kids.getD 0 ex0)).1,di 0])
  (hno:∀k,k<x.kids.length→(kvR F l ws (x.kids.getD k ex0)).2≠0→(∀i,i<k→(kvR F l ws (x.kids.getD i ex0)).2=0)→(1≤k→shB x (kvR F l ws (x.kids.getD 0 ex0)).1.tr=false)→r=.tup [ftD ft0,di (kvR F l ws (x.kids.getD k ex0)).2])
  (hall:(∀i,i<x.kids.length→(kvR F l ws (x.kids.getD i ex0)).2=0)→(2≤x.kids.length→shB x (kvR F l ws (x.kids.getD 0 ex0)).1.tr=false)→AWP Tryz.prog G [cd Tryz.f50 [1,1,1]] (S50 L F l ws m x x.kids.length) (Ret Tryz.prog Tryz.f50 r)) :
  AWP Tryz.prog G [.code (bodyOf Tryz.f50)] (entry [exD m x,ftsD L] Tryz.f50.ntmps) (Ret Tryz.prog Tryz.f50 r):=by
 have hlen:=hs.len.1
 refine walkK (orc:=orcVl F l ws) (keep:=[]) (cuts:=[]) (n:=1000) follows ?_
 refine of_tr (fun ZT ZW ZQ _=>ZW [cd Tryz.f50 [1,1,0,1,0],(.blk 0),cd Tryz.f50 [1,1,1]] (stS ZT []) ZQ) (by kernel_rfl) ?_
 refine AWP.pre ((AS.leX.moves [(18,900)] _ rfl).trans (AS.leX.rowF _ 6 900 0 (agg:=ftRK) (sz:=6) (f:=fun _=>.con undef) (rowVl F l ws x) (by kernel_rfl) (by kernel_rfl) rfl (by kernel_rfl) (fun i hi=>absurd hi (Nat.not_lt_zero _)))) ?_
 refine AWP.loop (c:=cAt (bodyOf Tryz.f50) [1,1,0,1,0,0]) (by kernel_rfl) (S50 L F l ws m x) (fun k=>k≤x.kids.length∧(∀i,i<k→(kvR F l ws (x.kids.getD i ex0)).2=0)∧(2≤k→shB x (kvR F l ws (x.kids.getD 0 ex0)).1.tr=false)) (fun k=>x.kids.length-k) 0 ?_ ⟨Nat.zero_le _,fun i hi=>by omega,fun h=>by omega⟩ ?_
 ·refine AS.leZ [] [1] (b:=((T0∧T0∧T0∧T0∧T0∧True)∧T0∧((some [(vs (ByteArray.mk #[])),(vi 0),(vi 0),(vi 0),(vb false),(vs (ByteArray.mk #[]))]):(Option (List AV)))=(some [(vs ByteArray.empty),(vi 0),(vi 0),(vi 0),(vb false),(vs ByteArray.empty)])∧T0∧True)) (by kernel_rfl) (by kernel_rfl) ?_
  exact⟨⟨rfl,rfl,rfl,rfl,rfl,trivial⟩,rfl,rfl,rfl,trivial⟩
 ·rintro k ⟨hk,hkd,hks⟩
  by_cases hk2:k<x.kids.length
  ·have er:rdE (kidA m x k)=x.kids.getD k ex0:=kid_rd hx hk2
   refine walkK (orc:=orcVl F l ws) (keep:=[]) (cuts:=[]) (n:=1000) follows ?_
   refine of_rd (fun ZT ZW ZQ ZK ZA _=>(fun Za Zb=>((((decide ((↑k:Int)<↑x.kids.length))=true)→((((((↑k:Int)==1&&x.k==19)=true)→(((0:Int)≤(0:Int))∧(0<(↑k:Int))))∧((((↑k:Int)==1&&!(x.k==19&&!Zb.fst.tr)&&x.k==20)=true)→(((0:Int)≤(0:Int))∧(0<(↑k:Int)))))∧((((↑k:Int)==1&&(x.k==19&&!Zb.fst.tr||x.k==20&&Zb.fst.tr))=true)→((((0:Int)≤(0:Int))∧(0<(↑k:Int)))∧((.tup [(.agg [(ds Zb.fst.nm),(di Zb.fst.kind),(di Zb.fst.n),(di Zb.fst.d),(db Zb.fst.tr),(ds Zb.fst.wd)]),(di 0)]):DV)=r))∧((((↑k:Int)==1&&(x.k==19&&!Zb.fst.tr||x.k==20&&Zb.fst.tr))=false)→((((0≤(↑k:Int))∧((↑k:Int)<↑x.kids.length))∧ZK 50 [(ndA m (x.kids.getD (↑k:Int).toNat ex0)),(.slc 6 L.length (ftF L))] (.tup [(.agg [(ds Za.fst.nm),(di Za.fst.kind),(di Za.fst.n),(di Za.fst.d),(db Za.fst.tr),(ds Za.fst.wd)]),(di Za.snd)]))∧(((Za.snd != 0)=true)→(((.tup [(.agg [(ds (ByteArray.mk #[])),(di 0),(di 0),(di 0),(db false),(ds (ByteArray.mk #[]))]),(di Za.snd)]):DV)=r))∧(((Za.snd != 0)=false)→(((((k+1)*64≤1099511627776)∧(k+1≤1099511627776))∧(∀(i:Nat),i<1→elemOK true 6 (elemF true 6 [ds Za.fst.nm,di Za.fst.kind,di Za.fst.n,di Za.fst.d,DV.con (Value.bool Za.fst.tr),ds Za.fst.wd] i)=true))∧(I64 (↑k+1))∧(ZA (stS ZT [0,1,1]))))))))∧(((decide ((↑k:Int)<↑x.kids.length))=false)→ZW [cd Tryz.f50 [1,1,1]] (stS ZT [1]) ZQ))) (kvR F l ws (rdE (ndA m (x.kids.getD (↑k:Int).toNat ex0)))) (kvR F l ws (x.kids.getD (0+Int.toNat 0) ex0))) (by kernel_rfl) ?_
   have z0:0+Int.toNat 0=0:=rfl
   simp only[iTn,er,z0]
   have hp:∀{b:Bool},((k:Int)==1&&b)=true→k=1:=fun h=>by
    simp only[bAt,beq_iff_eq] at h;omega
   refine⟨fun _=>⟨⟨fun h=>?_,fun h=>?_⟩,fun h=>?_,fun h=>⟨⟨⟨by omega,by omega⟩,h50 k hk2⟩,fun h2=>?_,fun h2=>⟨⟨⟨by omega,by omega⟩,fun i hi=>(by obtain rfl:i=0:=(by omega);rfl)⟩,⟨by omega,by omega⟩,?_⟩⟩⟩,fun h=>absurd (of_decide_eq_false h) (by omega)⟩
   ·simp only[bAt,beq_iff_eq] at h
    exact⟨Int.le_refl _,by omega⟩
   ·simp only[bAt,beq_iff_eq] at h
    exact⟨Int.le_refl _,by omega⟩
   ·have h1:=hp h
    subst h1
    simp only[bAt] at h
    exact⟨⟨Int.le_refl _,by omega⟩,(hsh hk2 (hkd 0 (by omega)) h.2).symm⟩
   ·have h2:(kvR F l ws (x.kids.getD k ex0)).2≠0:=by simpa using h2
    refine(hno k hk2 h2 hkd fun h1=>?_).symm
    rcases Nat.lt_or_ge 1 k with h3|h3
    ·exact hks h3
    ·obtain rfl:k=1:=by omega
     simpa [shB] using h
   ·have h2:(kvR F l ws (x.kids.getD k ex0)).2=0:=by simpa using h2
    refine⟨k+1,(AS.leX.moves [(71,900)] _ rfl).trans ((AS.leX.rowF _ 6 900 (k+1) (agg:=ftRK) (sz:=6) (f:=fun i=>bif Nat.blt i k then rowVl F l ws x i else elemF true 6 (ftCs (kvR F l ws (rdE (kidA m x k))).1) (i-k)) (rowVl F l ws x) (by kernel_rfl) (by kernel_rfl) rfl (by kernel_rfl) (fun i hi=>?_)).trans (.of_le ?_)),⟨hk2,fun i hi=>?_,fun h1=>?_⟩,(show x.kids.length-(k+1)<x.kids.length-k from by omega)⟩
    ·show (bif Nat.blt i k then rowVl F l ws x i else elemF true 6 (ftCs (kvR F l ws (rdE (kidA m x k))).1) (i-k))=rowVl F l ws x i
     rcases Nat.lt_or_ge i k with h3|h3
     ·rw[show Nat.blt i k=true from by rw[Nat.blt_eq];exact h3];rfl
     ·obtain rfl:i=k:=by omega
      rw[er,show Nat.blt i i=false from by rw[Bool.eq_false_iff,ne_eq,Nat.blt_eq];omega,Nat.sub_self];rfl
    ·exact AS.leA (by kernel_rfl)
    ·rcases Nat.lt_or_ge i k with h3|h3
     ·exact hkd i h3
     ·obtain rfl:i=k:=by omega
      exact h2
    ·rcases Nat.lt_or_ge 1 k with h3|h3
     ·exact hks h3
     ·obtain rfl:k=1:=by omega
      simpa [shB] using h
  ·have hkn:k=x.kids.length:=by omega
   subst hkn
   refine walkK (orc:=orcVl F l ws) (keep:=[]) (cuts:=[11]) (n:=1000) follows ?_
   refine of_rd (fun ZT ZW ZQ ZK ZA _=>(fun Za Zb=>((((decide ((↑x.kids.length:Int)<↑x.kids.length))=true)→((((((↑x.kids.length:Int)==1&&x.k==19)=true)→(((0:Int)≤(0:Int))∧(0<(↑x.kids.length:Int))))∧((((↑x.kids.length:Int)==1&&!(x.k==19&&!Zb.fst.tr)&&x.k==20)=true)→(((0:Int)≤(0:Int))∧(0<(↑x.kids.length:Int)))))∧((((↑x.kids.length:Int)==1&&(x.k==19&&!Zb.fst.tr||x.k==20&&Zb.fst.tr))=true)→((((0:Int)≤(0:Int))∧(0<(↑x.kids.length:Int)))∧((.tup [(.agg [(ds Zb.fst.nm),(di Zb.fst.kind),(di Zb.fst.n),(di Zb.fst.d),(db Zb.fst.tr),(ds Zb.fst.wd)]),(di 0)]):DV)=r))∧((((↑x.kids.length:Int)==1&&(x.k==19&&!Zb.fst.tr||x.k==20&&Zb.fst.tr))=false)→((((0≤(↑x.kids.length:Int))∧((↑x.kids.length:Int)<↑x.kids.length))∧ZK 50 [(ndA m (x.kids.getD (↑x.kids.length:Int).toNat ex0)),(.slc 6 L.length (ftF L))] (.tup [(.agg [(ds Za.fst.nm),(di Za.fst.kind),(di Za.fst.n),(di Za.fst.d),(db Za.fst.tr),(ds Za.fst.wd)]),(di Za.snd)]))∧(((Za.snd != 0)=true)→(((.tup [(.agg [(ds (ByteArray.mk #[])),(di 0),(di 0),(di 0),(db false),(ds (ByteArray.mk #[]))]),(di Za.snd)]):DV)=r))∧(((Za.snd != 0)=false)→(((((x.kids.length+1)*64≤1099511627776)∧(x.kids.length+1≤1099511627776))∧(∀(i:Nat),i<1→elemOK true 6 (elemF true 6 [ds Za.fst.nm,di Za.fst.kind,di Za.fst.n,di Za.fst.d,DV.con (Value.bool Za.fst.tr),ds Za.fst.wd] i)=true))∧(I64 (↑x.kids.length+1))∧(ZA (stS ZT [0,1,1]))))))))∧(((decide ((↑x.kids.length:Int)<↑x.kids.length))=false)→ZW [cd Tryz.f50 [1,1,1]] (stS ZT [1]) ZQ))) (kvR F l ws (rdE (ndA m (x.kids.getD (↑x.kids.length:Int).toNat ex0)))) (kvR F l ws (x.kids.getD (0+Int.toNat 0) ex0))) (by kernel_rfl) ?_
   refine⟨fun h=>absurd (oDt h) (by omega),fun _=>?_⟩
   refine AWP.weaken ?_ (hall hkd hks)
   exact AS.leA (by kernel_rfl)
noncomputable def S50t (L:List Ft) (m:Nat) (x:Ex) (n:Nat) (V:Nat→Ft):AS:=⟨regs Tryz.f50.ntmps [(1,.d (ftsD L)),(2,.box 2 0),(4,.box 4 0),(6,.d (.slc 6 n fun i=>.agg (ftCs (V (0+i)))))],[(2,exC m x),(4,[vs .empty,vi 0,vi 0,vi 0,.d (db false),vs .empty])]⟩
def vR (F:List Ft) (l:List Fc) (ws:List ByteArray) (x:Ex) (i:Nat):Ft:=(kvR F l ws (x.kids.getD i ex0)).1
theorem vl_froz {L F:List Ft} {l:List Fc} {ws:List ByteArray} {m:Nat} {x:Ex} {k:List It} {Q:Exit→AS→Prop} (h:AWP Tryz.prog G k (S50t L m x x.kids.length (vR F l ws x)) Q):AWP Tryz.prog G k (S50 L F l ws m x x.kids.length) Q:=by
 refine AWP.freeze (agg:=ftRK) (sz:=6) (f:=rowVl F l ws x) 900 (by kernel_rfl) (AWP.weaken ?_ h)
 refine AS.leZ [3] [] (b:=((T0∧T0∧T0∧((.d (.slc 6 x.kids.length (fun i=>rowVl F l ws x (0+i)))):AV)=(.d (.slc 6 x.kids.length (fun i=>DV.agg (ftCs (vR F l ws x (0+i))))))∧True)∧T0∧T0∧True)) (by kernel_rfl) (by kernel_rfl) ?_
 exact⟨⟨rfl,rfl,rfl,rfl,trivial⟩,rfl,rfl,trivial⟩
noncomputable def orcVk:Oracle:=fun f a=>match f,a with
 | 86,[fr n d,.con (.int _ e)]=>some (.tup [ftD (if e=0 then { ftK 0 with n:=n,d:=d } else ft0),di (if e=0 then 0 else 2)])
 | 87,[.con (.bool b)]=>some (.tup [ftD { ftK 1 with tr:=b },di 0])
 | 88,[fr a b]=>some (fr (if ok a b then -a else a) b)
 | 89,[fr a b,fr c d]=>some (fe' (addF a b c d))
 | 90,[fr a b,fr c d]=>some (fe' (subF a b c d))
 | 91,[fr a b,fr c d]=>some (fe' (mulF a b c d))
 | 92,[fr a b,fr c d]=>some (fe' (divF a b c d))
 | 25,[fr a b,fr c d]=>some (.tup [di (cmpF a b c d),db (ok2 a b c d)])
 | _,_=>none
theorem vl_disp (L:List Ft) (m:Nat) (x:Ex) (V:Nat→Ft) (n:Nat) (Q:Exit→AS→Prop) (h1:x.k=1→AWP Tryz.prog G [cd Tryz.f50 [1,1,1,0,1,0,1,0],.blk 2,cd Tryz.f50 [1,1,1,1]] (S50t L m x n V) Q) (h3:x.k=3→AWP Tryz.prog G [cd Tryz.f50 [1,1,1,0,1,0,1,1,1,0],.blk 2,cd Tryz.f50 [1,1,1,1]] (S50t L m x n V) Q) (h4:x.k=4→AWP Tryz.prog G [cd Tryz.f50 [1,1,1,0,1,0,1,1,1,0],.blk 2,cd Tryz.f50 [1,1,1,1]] (S50t L m x n V) Q) (h2:x.k=2→AWP Tryz.prog G [cd Tryz.f50 [1,1,1,0,1,0,1,1,1,1,1,0,0],cd Tryz.f50 [1,1,1,0,1,0,1,1,1,1,1,0,1],.blk 2,cd Tryz.f50 [1,1,1,1]] (S50t L m x n V) Q) (h5:x.k=5→AWP Tryz.prog G [cd Tryz.f50 [1,1,1,0,1,0,1,1,1,1,1,1,1,0],.blk 2,cd Tryz.f50 [1,1,1,1]] (S50t L m x n V) Q) (h6:x.k=6→AWP Tryz.prog G [cd Tryz.f50 [1,1,1,0,1,0,1,1,1,1,1,1,1,1,1,0],.blk 2,cd Tryz.f50 [1,1,1,1]] (S50t L m x n V) Q) (h7:x.k=7→AWP Tryz.prog G [cd Tryz.f50 [1,1,1,0,1,0,1,1,1,1,1,1,1,1,1,1,1,0],.blk 2,cd Tryz.f50 [1,1,1,1]] (S50t L m x n V) Q) (h8:x.k=8→AWP Tryz.prog G [cd Tryz.f50 [1,1,1,0,1,0,1,1,1,1,1,1,1,1,1,1,1,1,1,0],.blk 2,cd Tryz.f50 [1,1,1,1]] (S50t L m x n V) Q) (h9:x.k=9→AWP Tryz.prog G [cd Tryz.f50 [1,1,1,0,1,0,1,1,1,1,1,1,1,1,1,1,1,1,1,1,1,0],.blk 2,cd Tryz.f50 [1,1,1,1]] (S50t L m x n V) Q) (h10:x.k=10→AWP Tryz.prog G [cd Tryz.f50 [1,1,1,0,1,0,1,1,1,1,1,1,1,1,1,1,1,1,1,1,1,1,1,0],.blk 2,cd Tryz.f50 [1,1,1,1]] (S50t L m x n V) Q) (h11:x.k=11→AWP Tryz.prog G [cd Tryz.f50 [1,1,1,0,1,0,1,1,1,1,1,1,1,1,1,1,1,1,1,1,1,1,1,0],.blk 2,cd Tryz.f50 [1,1,1,1]] (S50t L m x n V) Q) (h18:x.k=18→AWP Tryz.prog G [cd Tryz.f50 [1,1,1,0,1,0,1,1,1,1,1,1,1,1,1,1,1,1,1,1,1,1,1,1,1,0],.blk 2,cd Tryz.f50 [1,1,1,1]] (S50t L m x n V) Q) (h19:x.k=19→AWP Tryz.prog G [cd Tryz.f50 [1,1,1,0,1,0,1,1,1,1,1,1,1,1,1,1,1,1,1,1,1,1,1,1,1,1,1,0],.blk 2,cd Tryz.f50 [1,1,1,1]] (S50t L m x n V) Q) (h20:x.k=20→AWP Tryz.prog G [cd Tryz.f50 [1,1,1,0,1,0,1,1,1,1,1,1,1,1,1,1,1,1,1,1,1,1,1,1,1,1,1,0],.blk 2,cd Tryz.f50 [1,1,1,1]] (S50t L m x n V) Q) (h12:x.k=12→AWP Tryz.prog G [cd Tryz.f50 [1,1,1,0,1,0,1,1,1,1,1,1,1,1,1,1,1,1,1,1,1,1,1,1,1,1,1,1,1,0],.blk 2,cd Tryz.f50 [1,1,1,1]] (S50t L m x n V) Q) (h13:x.k=13→AWP Tryz.prog G [cd Tryz.f50 [1,1,1,0,1,0,1,1,1,1,1,1,1,1,1,1,1,1,1,1,1,1,1,1,1,1,1,1,1,1,1,0],.blk 2,cd Tryz.f50 [1,1,1,1]] (S50t L m x n V) Q) (hc:x.k≠1→x.k≠3→x.k≠4→x.k≠2→x.k≠5→x.k≠6→x.k≠7→x.k≠8→x.k≠9→x.k≠10→x.k≠11→x.k≠18→x.k≠19→x.k≠20→x.k≠12→x.k≠13→AWP Tryz.prog G [cd Tryz.f50 [1,1,1,1]] (S50t L m x n V) Q):AWP Tryz.prog G [cd Tryz.f50 [1,1,1]] (S50t L m x n V) Q:=by
 refine walkK (orc:=orcVk) (keep:=[]) (cuts:=[13,16,18,27,29,31,33,35,38,47,50,52,54,55]) (n:=1000) follows ?_
 refine of_tr (fun ZT ZW ZQ _=>((((x.k==1)=true)→ZW [cd Tryz.f50 [1,1,1,0,1,0,1,0],(.blk 2),cd Tryz.f50 [1,1,1,1]] (stS ZT [0]) ZQ)∧(((x.k==1)=false)→((((x.k==3)=true)→ZW [cd Tryz.f50 [1,1,1,0,1,0,1,1,1,0],(.blk 2),cd Tryz.f50 [1,1,1,1]] (stS ZT [1,0]) ZQ)∧(((x.k==3)=false)→((((x.k==4)=true)→ZW [cd Tryz.f50 [1,1,1,0,1,0,1,1,1,0],(.blk 2),cd Tryz.f50 [1,1,1,1]] (stS ZT [1,1,0]) ZQ)∧(((x.k==4)=false)→((((x.k==2)=true)→ZW [cd Tryz.f50 [1,1,1,0,1,0,1,1,1,1,1,0,0],cd Tryz.f50 [1,1,1,0,1,0,1,1,1,1,1,0,1],(.blk 2),cd Tryz.f50 [1,1,1,1]] (stS ZT [1,1,1,0]) ZQ)∧(((x.k==2)=false)→((((x.k==5)=true)→ZW [cd Tryz.f50 [1,1,1,0,1,0,1,1,1,1,1,1,1,0],(.blk 2),cd Tryz.f50 [1,1,1,1]] (stS ZT [1,1,1,1,0]) ZQ)∧(((x.k==5)=false)→((((x.k==6)=true)→ZW [cd Tryz.f50 [1,1,1,0,1,0,1,1,1,1,1,1,1,1,1,0],(.blk 2),cd Tryz.f50 [1,1,1,1]] (stS ZT [1,1,1,1,1,0]) ZQ)∧(((x.k==6)=false)→((((x.k==7)=true)→ZW [cd Tryz.f50 [1,1,1,0,1,0,1,1,1,1,1,1,1,1,1,1,1,0],(.blk 2),cd Tryz.f50 [1,1,1,1]] (stS ZT [1,1,1,1,1,1,0]) ZQ)∧(((x.k==7)=false)→((((x.k==8)=true)→ZW [cd Tryz.f50 [1,1,1,0,1,0,1,1,1,1,1,1,1,1,1,1,1,1,1,0],(.blk 2),cd Tryz.f50 [1,1,1,1]] (stS ZT [1,1,1,1,1,1,1,0]) ZQ)∧(((x.k==8)=false)→((((x.k==9)=true)→ZW [cd Tryz.f50 [1,1,1,0,1,0,1,1,1,1,1,1,1,1,1,1,1,1,1,1,1,0],(.blk 2),cd Tryz.f50 [1,1,1,1]] (stS ZT [1,1,1,1,1,1,1,1,0]) ZQ)∧(((x.k==9)=false)→((((x.k==10)=true)→ZW [cd Tryz.f50 [1,1,1,0,1,0,1,1,1,1,1,1,1,1,1,1,1,1,1,1,1,1,1,0],(.blk 2),cd Tryz.f50 [1,1,1,1]] (stS ZT [1,1,1,1,1,1,1,1,1,0]) ZQ)∧(((x.k==10)=false)→((((x.k==11)=true)→ZW [cd Tryz.f50 [1,1,1,0,1,0,1,1,1,1,1,1,1,1,1,1,1,1,1,1,1,1,1,0],(.blk 2),cd Tryz.f50 [1,1,1,1]] (stS ZT [1,1,1,1,1,1,1,1,1,1,0]) ZQ)∧(((x.k==11)=false)→((((x.k==18)=true)→ZW [cd Tryz.f50 [1,1,1,0,1,0,1,1,1,1,1,1,1,1,1,1,1,1,1,1,1,1,1,1,1,0],(.blk 2),cd Tryz.f50 [1,1,1,1]] (stS ZT [1,1,1,1,1,1,1,1,1,1,1,0]) ZQ)∧(((x.k==18)=false)→((((x.k==19)=true)→ZW [cd Tryz.f50 [1,1,1,0,1,0,1,1,1,1,1,1,1,1,1,1,1,1,1,1,1,1,1,1,1,1,1,0],(.blk 2),cd Tryz.f50 [1,1,1,1]] (stS ZT [1,1,1,1,1,1,1,1,1,1,1,1,0]) ZQ)∧(((x.k==19)=false)→((((x.k==20)=true)→ZW [cd Tryz.f50 [1,1,1,0,1,0,1,1,1,1,1,1,1,1,1,1,1,1,1,1,1,1,1,1,1,1,1,0],(.blk 2),cd Tryz.f50 [1,1,1,1]] (stS ZT [1,1,1,1,1,1,1,1,1,1,1,1,1,0]) ZQ)∧(((x.k==20)=false)→((((x.k==12)=true)→ZW [cd Tryz.f50 [1,1,1,0,1,0,1,1,1,1,1,1,1,1,1,1,1,1,1,1,1,1,1,1,1,1,1,1,1,0],(.blk 2),cd Tryz.f50 [1,1,1,1]] (stS ZT [1,1,1,1,1,1,1,1,1,1,1,1,1,1,0]) ZQ)∧(((x.k==12)=false)→((((x.k==13)=true)→ZW [cd Tryz.f50 [1,1,1,0,1,0,1,1,1,1,1,1,1,1,1,1,1,1,1,1,1,1,1,1,1,1,1,1,1,1,1,0],(.blk 2),cd Tryz.f50 [1,1,1,1]] (stS ZT [1,1,1,1,1,1,1,1,1,1,1,1,1,1,1,0]) ZQ)∧(((x.k==13)=false)→ZW [cd Tryz.f50 [1,1,1,1]] (stS ZT [1,1,1,1,1,1,1,1,1,1,1,1,1,1,1,1]) ZQ))))))))))))))))))))))))))))))))) (by kernel_rfl) ?_
 refine⟨fun e=>AWP.weaken ?_ (h1 (eq_of_beq e)),fun n1=>⟨fun e=>AWP.weaken ?_ (h3 (eq_of_beq e)),fun n3=>⟨fun e=>AWP.weaken ?_ (h4 (eq_of_beq e)),fun n4=>⟨fun e=>AWP.weaken ?_ (h2 (eq_of_beq e)),fun n2=>⟨fun e=>AWP.weaken ?_ (h5 (eq_of_beq e)),fun n5=>⟨fun e=>AWP.weaken ?_ (h6 (eq_of_beq e)),fun n6=>⟨fun e=>AWP.weaken ?_ (h7 (eq_of_beq e)),fun n7=>⟨fun e=>AWP.weaken ?_ (h8 (eq_of_beq e)),fun n8=>⟨fun e=>AWP.weaken ?_ (h9 (eq_of_beq e)),fun n9=>⟨fun e=>AWP.weaken ?_ (h10 (eq_of_beq e)),fun n10=>⟨fun e=>AWP.weaken ?_ (h11 (eq_of_beq e)),fun n11=>⟨fun e=>AWP.weaken ?_ (h18 (eq_of_beq e)),fun n18=>⟨fun e=>AWP.weaken ?_ (h19 (eq_of_beq e)),fun n19=>⟨fun e=>AWP.weaken ?_ (h20 (eq_of_beq e)),fun n20=>⟨fun e=>AWP.weaken ?_ (h12 (eq_of_beq e)),fun n12=>⟨fun e=>AWP.weaken ?_ (h13 (eq_of_beq e)),fun n13=>AWP.weaken ?_ (hc (beq_eq_false_iff_ne.1 n1) (beq_eq_false_iff_ne.1 n3) (beq_eq_false_iff_ne.1 n4) (beq_eq_false_iff_ne.1 n2) (beq_eq_false_iff_ne.1 n5) (beq_eq_false_iff_ne.1 n6) (beq_eq_false_iff_ne.1 n7) (beq_eq_false_iff_ne.1 n8) (beq_eq_false_iff_ne.1 n9) (beq_eq_false_iff_ne.1 n10) (beq_eq_false_iff_ne.1 n11) (beq_eq_false_iff_ne.1 n18) (beq_eq_false_iff_ne.1 n19) (beq_eq_false_iff_ne.1 n20) (beq_eq_false_iff_ne.1 n12) (beq_eq_false_iff_ne.1 n13))⟩⟩⟩⟩⟩⟩⟩⟩⟩⟩⟩⟩⟩⟩⟩⟩
 all_goals refine AS.leZ [] [] (b:=((T0∧T0∧T0∧T0∧True)∧T0∧T0∧True)) (by kernel_rfl) (by kernel_rfl) ?_
 all_goals exact⟨⟨rfl,rfl,rfl,rfl,trivial⟩,rfl,rfl,trivial⟩
open Go Go.Ab
set_option maxHeartbeats 1000000
variable {G:IH}
abbrev PL:=List (Int×Int)
def orcSF (add sub mul div:Int→Int→Int→Int→FE) (sum:PL→FE) (best:PL→Int) (cmp:Int→Int→Int→Int→Int) (vb:Int→Int→Bool):Oracle
 | 137,[fr a b]=>some (db (vb a b))
 | 65,[fr a b]=>some (db (vb a b))
 | 88,[fr a b]=>some (fr (if vb a b then -a else a) b)
 | 76,[fr a b,fr c d]=>some (fe' (add a b c d))
 | 78,[fr a b,fr c d]=>some (fe' (mul a b c d))
 | 77,[fr a b,fr c d]=>some (fe' (sub a b c d))
 | 89,[fr a b,fr c d]=>some (fe' (add a b c d))
 | 90,[fr a b,fr c d]=>some (fe' (sub a b c d))
 | 91,[fr a b,fr c d]=>some (fe' (mul a b c d))
 | 145,[di a,di b]=>some (fe (red a b))
 | 81,[fr a b,fr c d]=>some (.tup [di (cmp a b c d),db (vb a b&&vb c d)])
 | 25,[fr a b,fr c d]=>some (.tup [di (cmp a b c d),db (vb a b&&vb c d)])
 | f,l=>orc3 f l
theorem f88 (a b:Int):FnOK Tryz.prog G 88 [fr a b] (fr (if ok a b then -a else a) b):=by
 refine FnOK.walk (orc:=orcSF addF subF mulF mulF (fun _=>(0,0,0)) (fun _=>0) cmpF ok) (keep:=[]) follows Tryz.func88 rfl Tryz.call88 ?_
 refine of_tr (fun _ _ _ ZK=>(ZK 65 [(.agg [(di a),(di b)])] (db (ok a b))∧(((!ok a b)=true)→(((.agg [(di a),(di b)]):DV)=(fr (if ok a b=true then -a else a) b)))∧(((!ok a b)=false)→((R64 a)∧((.agg [(di (-a)),(di b)]):DV)=(fr (if ok a b=true then -a else a) b))))) (by kernel_rfl) ?_
 refine⟨f65 a b,fun h=>?_,fun h=>?_⟩
 ·have h:ok a b=false:=by simpa using h
  simp[h]
 ·have h:ok a b=true:=by simpa using h
  have:=ok_spec h
  exact⟨⟨by omega,by omega⟩,by simp[h]⟩
theorem f89 (a b c d:Int):FnOK Tryz.prog G 89 [fr a b,fr c d] (fe' (addF a b c d)):=by
 refine FnOK.walk (orc:=orcSF addF subF mulF mulF (fun _=>(0,0,0)) (fun _=>0) cmpF ok) (keep:=[]) follows Tryz.func89 rfl Tryz.call89 ?_
 refine of_tr (fun _ _ _ ZK=>(fun Za=>((ZK 65 [(.agg [(di a),(di b)])] (db (ok a b))∧(((!!ok a b)=true)→ZK 65 [(.agg [(di c),(di d)])] (db (ok c d))))∧(((!ok a b||!ok c d)=true)→(((.tup [(.agg [(di 0),(di 0)]),(di 1)]):DV)=(fe' (addF a b c d))))∧(((!ok a b||!ok c d)=false)→(((I64 (a*d))∧(I64 (c*b))∧(I64 (a*d+c*b))∧(I64 (b*d))∧ZK 145 [(di (a*d+c*b)),(di (b*d))] Za)∧(Za:DV)=(fe' (addF a b c d)))))) ((.tup [(.agg [(di (red (a*d+c*b) (b*d)).fst),(di (red (a*d+c*b) (b*d)).snd.fst)]),(di (red (a*d+c*b) (b*d)).snd.snd)]):DV)) (by kernel_rfl) ?_
 simp only[f65]
 cases h1:ok a b with
 | false=>simp[addF,opr,h1]
 | true=>cases h2:ok c d with
  | false=>simp[addF,opr,h1,h2]
  | true=>
   have r:=opR101 h1 h2
   simp only[opF] at r
   have hbd:b*d≠0:=Int.mul_ne_zero (den_ne h1) (den_ne h2)
   have m0:=mb _ _ (okb h1).1 (okb h2).2
   have m1:=mb _ _ (okb h2).1 (okb h1).2
   have m2:=mb _ _ (okb h1).2 (okb h2).2
   have hc:=f145 (G:=G) (a*d+c*b) (b*d) hbd r.1 r.2
   simp only[addF,opr,h1,h2,opF,hbd]
   exact⟨by simp,by simp,fun _=>⟨⟨⟨by omega,by omega⟩,⟨by omega,by omega⟩,⟨by omega,by omega⟩,⟨by omega,by omega⟩,hc⟩,rfl⟩⟩
theorem subF_neg (a b c d:Int):addF a b (if ok c d=true then -c else c) d=subF a b c d:=by
 cases h2:ok c d with
 | false=>simp[addF,subF,opr,h2]
 | true=>
  have h3:ok (-c) d=true:=by
   have:=ok_spec h2
   simp[ok];omega
  cases h1:ok a b with
  | false=>simp[addF,subF,opr,h1]
  | true=>
   simp only[addF,subF,opr,h1,h2,h3,opF,if_true]
   rw[show a*d + -c*b=a*d-c*b by rw[Int.neg_mul];rfl]
theorem f90 (a b c d:Int):FnOK Tryz.prog G 90 [fr a b,fr c d] (fe' (subF a b c d)):=by
 refine FnOK.walk (orc:=orcSF addF subF mulF mulF (fun _=>(0,0,0)) (fun _=>0) cmpF ok) (keep:=[]) follows Tryz.func90 rfl Tryz.call90 ?_
 refine of_tr (fun _ _ _ ZK=>((ZK 88 [(.agg [(di c),(di d)])] (.agg [(di (if ok c d=true then -c else c)),(di d)])∧ZK 89 [(.agg [(di a),(di b)]),(.agg [(di (if ok c d=true then -c else c)),(di d)])] (.tup [(.agg [(di (addF a b (if ok c d=true then -c else c) d).fst),(di (addF a b (if ok c d=true then -c else c) d).snd.fst)]),(di (addF a b (if ok c d=true then -c else c) d).snd.snd)]))∧((.tup [(.agg [(di (addF a b (if ok c d=true then -c else c) d).fst),(di (addF a b (if ok c d=true then -c else c) d).snd.fst)]),(di (addF a b (if ok c d=true then -c else c) d).snd.snd)]):DV)=(fe' (subF a b c d)))) (by kernel_rfl) ?_
 have h:=f89 (G:=G) a b (if ok c d=true then -c else c) d
 rw[subF_neg] at h⊢
 exact⟨⟨f88 c d,h⟩,rfl⟩
theorem f91 (a b c d:Int):FnOK Tryz.prog G 91 [fr a b,fr c d] (fe' (mulF a b c d)):=by
 refine FnOK.walk (orc:=orcSF addF subF mulF mulF (fun _=>(0,0,0)) (fun _=>0) cmpF ok) (keep:=[]) follows Tryz.func91 rfl Tryz.call91 ?_
 refine of_tr (fun _ _ _ ZK=>(fun Za=>((ZK 65 [(.agg [(di a),(di b)])] (db (ok a b))∧(((!!ok a b)=true)→ZK 65 [(.agg [(di c),(di d)])] (db (ok c d))))∧(((!ok a b||!ok c d)=true)→(((.tup [(.agg [(di 0),(di 0)]),(di 1)]):DV)=(fe' (mulF a b c d))))∧(((!ok a b||!ok c d)=false)→(((I64 (a*c))∧(I64 (b*d))∧ZK 145 [(di (a*c)),(di (b*d))] Za)∧(Za:DV)=(fe' (mulF a b c d)))))) ((.tup [(.agg [(di (red (a*c) (b*d)).fst),(di (red (a*c) (b*d)).snd.fst)]),(di (red (a*c) (b*d)).snd.snd)]):DV)) (by kernel_rfl) ?_
 simp only[f65]
 cases h1:ok a b with
 | false=>simp[mulF,opr,h1]
 | true=>cases h2:ok c d with
  | false=>simp[mulF,opr,h1,h2]
  | true=>
   have r:=opR79 h1 h2
   simp only[opF] at r
   have hbd:b*d≠0:=Int.mul_ne_zero (den_ne h1) (den_ne h2)
   have hc:=f145 (G:=G) (a*c) (b*d) hbd r.1 r.2
   have r1:=r.1
   have r2:=r.2
   simp only[R64] at r1 r2
   simp only[mulF,opr,h1,h2,opF,hbd]
   exact⟨by simp,by simp,fun _=>⟨⟨⟨by omega,by omega⟩,⟨by omega,by omega⟩,hc⟩,rfl⟩⟩
theorem f92 (a b c d:Int):FnOK Tryz.prog G 92 [fr a b,fr c d] (fe' (divF a b c d)):=by
 refine FnOK.walk (orc:=orcSF addF subF mulF divF (fun _=>(0,0,0)) (fun _=>0) cmpF ok) (keep:=[]) follows Tryz.func92 rfl Tryz.call92 ?_
 refine of_tr (fun _ _ _ ZK=>(fun Za=>((ZK 65 [(.agg [(di a),(di b)])] (db (ok a b))∧(((!!ok a b)=true)→ZK 65 [(.agg [(di c),(di d)])] (db (ok c d))))∧(((!ok a b||!ok c d)=true)→(((.tup [(.agg [(di 0),(di 0)]),(di 1)]):DV)=(fe' (divF a b c d))))∧(((!ok a b||!ok c d)=false)→((((c==0)=true)→(((.tup [(.agg [(di 0),(di 0)]),(di 2)]):DV)=(fe' (divF a b c d))))∧(((c==0)=false)→(((I64 (a*d))∧(I64 (b*c))∧ZK 145 [(di (a*d)),(di (b*c))] Za)∧(Za:DV)=(fe' (divF a b c d)))))))) ((.tup [(.agg [(di (red (a*d) (b*c)).fst),(di (red (a*d) (b*c)).snd.fst)]),(di (red (a*d) (b*c)).snd.snd)]):DV)) (by kernel_rfl) ?_
 simp only[f65]
 cases h1:ok a b with
 | false=>simp[divF,opr,h1]
 | true=>cases h2:ok c d with
  | false=>simp[divF,opr,h1,h2]
  | true=>
   have r:=opR133 h1 h2
   simp only[opF] at r
   have r1:=r.1
   have r2:=r.2
   simp only[R64] at r1 r2
   by_cases hc0:c=0
   ·subst hc0
    simp[divF,opr,h1,h2,opF]
   ·have hbc:b*c≠0:=Int.mul_ne_zero (den_ne h1) hc0
    have hc:=f145 (G:=G) (a*d) (b*c) hbc r.1 r.2
    simp only[divF,opr,h1,h2,opF,hbc]
    exact⟨by simp,by simp,fun _=>⟨fun h=>absurd (by simpa using h) hc0,fun _=>⟨⟨⟨by omega,by omega⟩,⟨by omega,by omega⟩,hc⟩,rfl⟩⟩⟩
end Go.Proofs
