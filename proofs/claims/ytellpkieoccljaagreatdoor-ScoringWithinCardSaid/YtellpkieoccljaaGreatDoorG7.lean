import Derived.Test.YtellpkieoccljaaGreatDoorAcD
import Derived.Test.YtellpkieoccljaaGreatDoorG6
import Derived.Test.YtellpkieoccljaaGreatDoorG4
import Derived.Test.YtellpkieoccljaaGreatDoorG0
import Derived.Test.YtellpkieoccljaaGreatDoorG2
set_option autoImplicit false
namespace Go.Proofs
open Go Go.Ab Go.RowKit
set_option maxHeartbeats 4000000
set_option maxRecDepth 100000
variable {G:IH}
/-! Reasons,by the program. -/
abbrev nilA:AV:=.d (.con (.slice none 0 0))
abbrev IB (F:List Ft) (m:Nat) (x:Ex) (o:AV):List (Nat×List AV):=[(1000000,[.d (gI F)]),(1000001,l7 m x),(1000002,[o])]
abbrev Vx:List AV:=[.box 1000000 0,.box 1000001 0,.box 1000002 0]
abbrev NG (F:List Ft) (m:Nat) (x:Ex):List (Nat×List AV):=[(1000000,[.d (gI F)]),(1000001,l7 m x)]
abbrev XJ:List AV:=[.box 1000000 0,.box 1000001 0]
abbrev y8 (l:List Int):Nat×List AV:=(900,[.arr uI 1 (gG l)])
def m59 (l:List Int):FuncId→List AV→List (Nat×List AV)→Option (AV×List (Nat×List AV)):=fun f _ _=>match f with
 | 60=>some (.vec 900 1 0 l.length,[y8 l])
 | _=>none
noncomputable def aaO (l:List Int):iq:={ d:=fun _ _=>none,m:=m59 l }
theorem RH {F:List Ft} {m:Nat} {x:Ex} {l:List Int} (h:cZ Tryz.prog G 60 [.d (gI F),.d (bG m x),.d (di 0)] [] (.vec 900 1 0 l.length) [y8 l]):cZ Tryz.prog G 59 Vx (IB F m x nilA) (.d (.au [])) (IB F m x (.vec 900 1 0 l.length)++[y8 l]):=by
 refine cZ.walk (ay:=aaO l) (keep:=[]) [(6900,900)] follows (by kernel_rfl) Tryz.func59 rfl Tryz.call59 ?_
 refine aA (fun _ _ _ _=>(fun Za Zb Zc=>(cZ Tryz.prog G 60 [Zc,(.d (aB m x)),(vi 0)] [] (.vec 900 1 0 l.length) [(900,[Zb])]∧(ZS ((.d (.au [])):AV))∧((some [Zc]):(Option (List AV)))=(some [Zc])∧(Za:(Option (List AV)))=Za∧((some [(.vec 900 1 0 l.length)]):(Option (List AV)))=(some [(.vec 900 1 0 l.length)])∧((some [Zb]):(Option (List AV)))=(some [Zb])∧True)) (some [(vi x.k),(vs x.s),(vi x.n),(vi x.d),(vi x.pos),(.d (.slc 6 x.kids.length (lay (bJ m) x.kids)))]) ((.arr ⟨false,3,false,none⟩ 1 (gG l)):AV) ((.d (.ptr [(.mp none (tV F) (tH F))])):AV)) (by kernel_rfl) ?_
 exact⟨h,rfl,rfl,rfl,rfl,rfl,trivial⟩
noncomputable def aaQ (t:Bool):aZ:=fun f _=>match f with
 | 47=>some (db t)
 | _=>none
theorem QO {F:List Ft} {m:Nat} {x:Ex} {t:Bool} (hx:aj Tryz.prog G 47 [gI F,bG m x] (db t)):cZ Tryz.prog G 61 XJ (NG F m x) (.d (.au [])) (NG F m x):=by
 refine cZ.walk (ay:=(aaQ t:iq)) (keep:=[]) [] follows (by kernel_rfl) Tryz.func61 rfl Tryz.call61 ?_
 refine aA (fun _ _ _ ZK=>(fun Za=>(ZK 47 [(.ptr [(.mp none (tV F) (tH F))]),(aB m x)] (db t)∧(ZS ((.d (.au [])):AV))∧((some [(.d (.ptr [(.mp none (tV F) (tH F))]))]):(Option (List AV)))=(some [(.d (.ptr [(.mp none (tV F) (tH F))]))])∧(Za:(Option (List AV)))=Za∧True)) (some [(vi x.k),(vs x.s),(vi x.n),(vi x.d),(vi x.pos),(.d (.slc 6 x.kids.length (lay (bJ m) x.kids)))])) (by kernel_rfl) ?_
 exact⟨hx,rfl,rfl,rfl,trivial⟩
def mRe (e1 e2:Int) (o:AV) (ex:List (Nat×List AV)):FuncId→List AV→List (Nat×List AV)→Option (AV×List (Nat×List AV)):=fun f a pre=>match f,a,pre with
 | 44,[.clo (.func 59) _ _],[a,b,(u,_)]=>some (.d (di e1),[a,b,(u,[o])]++ex)
 | 44,[.clo (.func 61) _ _],pre=>some (.d (di e2),pre)
 | _,_,_=>none
noncomputable def Um (F:List Ft) (L:List Fc) (e1 e2:Int) (o:AV) (ex:List (Nat×List AV)):iq:={ d:=dEv F L,m:=mRe e1 e2 o ex }
section
variable (hT:Tab G) (F:List Ft) (L:List Fc) (h:∀i,i<L.length→sS (L.getD i aG)) (hl:L.length≤1000) (hF:F.length≤100000) (m:Nat) (x:Ex) (hx:ht x≤m) (hs:Sm x)
include hT h hl hF hx hs
theorem SI (h1:gJ F L=true) (h2:(aP L x).2.2=0) (h3:(aP L x).1=1) (l:List Int)
  (h59:cZ Tryz.prog G 44 [.clo (.func 59) [] Vx] (IB (bC F F.length) m x nilA) (.d (di 0)) (IB (bC F F.length) m x (.vec 900 1 0 l.length)++[y8 l]))
  (h61:cZ Tryz.prog G 44 [.clo (.func 61) [] XJ] (NG (bC F F.length) m x) (.d (di 0)) (NG (bC F F.length) m x)) :
  cZ Tryz.prog G 19 [.d (bG m x),.d (iJ F),.d (fC L)] [] (.au [.vec 900 1 0 l.length,vi 0]) [y8 l]:=by
 have er:ah (aB m x)=x:=fU hx
 refine cZ.walk (ay:=Um F L 0 0 (.vec 900 1 0 l.length) [y8 l]) (keep:=[]) [(35900,900)] follows (by kernel_rfl) Tryz.func19 rfl Tryz.call19 ?_
 refine aA (fun _ _ _ ZK=>(fun Za Zb Zc Zd=>(ZK 14 [(.slc 6 F.length (kT F)),(.slc 7 L.length (gV L))] (db (gJ F L))∧(((!gJ F L)=true)→(((.d (.au [(.con (.slice none 0 0)),(di 1)])):AV)=Zc∧(none:(Option (List AV)))=Za∧True))∧(((!gJ F L)=false)→(ZK 42 [(aB m x),(.slc 7 L.length (gV L))] (.au [(di (aP L (ah (aB m x))).fst),(di (aP L (ah (aB m x))).snd.fst),(di (aP L (ah (aB m x))).snd.snd)])∧((((aP L (ah (aB m x))).snd.snd != 0)=true)→(((.d (.au [(.con (.slice none 0 0)),(di (aP L (ah (aB m x))).snd.snd)])):AV)=Zc∧(none:(Option (List AV)))=Za∧True))∧((((aP L (ah (aB m x))).snd.snd != 0)=false)→(((((aP L (ah (aB m x))).fst != 1)=true)→(((.d (.au [(.con (.slice none 0 0)),(di 5)])):AV)=Zc∧(none:(Option (List AV)))=Za∧True))∧((((aP L (ah (aB m x))).fst != 1)=false)→(ZK 43 [(.slc 6 F.length (kT F))] Zb∧cZ Tryz.prog G 44 [(.clo (.func 59) [] [(.box 1000000 0),(.box 1000001 0),(.box 1000002 0)])] [(1000000,[(.d Zb)]),(1000001,[(vi x.k),(vs x.s),(vi x.n),(vi x.d),(vi x.pos),Zd]),(1000002,[(.d (.con (.slice none 0 0)))])] (vi 0) [(1000000,[(.d Zb)]),(1000001,[(vi x.k),(vs x.s),(vi x.n),(vi x.d),(vi x.pos),Zd]),(1000002,[(.vec 900 1 0 l.length)]),(900,[(.arr ⟨false,3,false,none⟩ 1 (gG l))])]∧((true=true)→(cZ Tryz.prog G 44 [(.clo (.func 61) [] [(.box 1000000 0),(.box 1000001 0)])] [(1000000,[(.d Zb)]),(1000001,[(vi x.k),(vs x.s),(vi x.n),(vi x.d),(vi x.pos),Zd])] (vi 0) [(1000000,[(.d Zb)]),(1000001,[(vi x.k),(vs x.s),(vi x.n),(vi x.d),(vi x.pos),Zd])]∧((false=true)→(((.d (.au [(.con (.slice none 0 0)),(di 0)])):AV)=Zc∧(Za:(Option (List AV)))=Za∧True))∧((false=false)→((ZS (Zc:AV))∧(Za:(Option (List AV)))=Za∧True))))∧((true=false)→(((false=true)→(((.d (.au [(.con (.slice none 0 0)),(di 0)])):AV)=Zc∧(Za:(Option (List AV)))=Za∧True))∧((false=false)→((ZS (Zc:AV))∧(Za:(Option (List AV)))=Za∧True)))))))))))) (some [(.arr ⟨false,3,false,none⟩ 1 (gG l))]) ((.ptr [(.mp none (tV (bC F F.length)) (tH (bC F F.length)))]):DV) ((.au [(.vec 900 1 0 l.length),(vi 0)]):AV) ((.d (.slc 6 x.kids.length (lay (bJ m) x.kids))):AV)) (by kernel_rfl) ?_
 simp only[er]
 refine⟨f14 hT F L h hl (by omega),fun c=>(by rw[h1] at c;cases c),fun _=>⟨f42 hT m x L hx hs h hl,fun c=>absurd h2 (by simpa using c),fun _=>⟨fun c=>absurd h3 (by simpa using c),fun _=>⟨f43 F hF,h59,fun _=>⟨h61,fun c=>Bool.noConfusion c,fun _=>⟨trivial,trivial,trivial⟩⟩,fun c=>Bool.noConfusion c⟩⟩⟩⟩
end
noncomputable def S15 (F:List Ft) (L:List Fc) (k:Nat):AS:=⟨regs Tryz.f15.ntmps [(0,.d (iJ F)),(1,.d (fC L)),(5,vi k)],[]⟩
noncomputable def Ol (L:List Fc):aZ:=fun f a=>match f,a with
 | 54,[_]=>some (db (jk L))
 | 25,[fr a b,fr c d]=>some (.au [di (dM a b c d),db (iF a b c d)])
 | 55,[w,.con (.string s)]=>some (db (cu (jP w) s))
 | _,_=>none
theorem f86 (n d e:Int):aj Tryz.prog G 86 [fr n d,di e] (.au [eX (if e=0 then { eY 0 with n:=n,d:=d } else aJ),di (if e=0 then 0 else 2)]):=by
 refine aj.aK (ay:=jo) (keep:=[]) follows Tryz.func86 rfl Tryz.call86 ?_
 refine aA (fun _ _ _ _=>((((e != 0)=true)→(((.au [(.agg [(ds (ByteArray.mk #[])),(di 0),(di 0),(di 0),(db false),(ds (ByteArray.mk #[]))]),(di 2)]):DV)=(.au [(eX (if e=0 then let __src:=eY 0;Ft.mk __src.nm __src.kind n d __src.tr __src.wd else aJ)),(di (if e=0 then 0 else 2))])))∧(((e != 0)=false)→(((.au [(.agg [(ds (ByteArray.mk #[])),(di 0),(di n),(di d),(db false),(ds (ByteArray.mk #[]))]),(di 0)]):DV)=(.au [(eX (if e=0 then let __src:=eY 0;Ft.mk __src.nm __src.kind n d __src.tr __src.wd else aJ)),(di (if e=0 then 0 else 2))]))))) (by kernel_rfl) ?_
 refine⟨fun h=>?_,fun h=>?_⟩
 ·have h:e≠0:=by simpa using h
  rw[if_neg h,if_neg h];rfl
 ·have h:e=0:=by simpa using h
  rw[if_pos h,if_pos h];rfl
theorem f87 (b:Bool):aj Tryz.prog G 87 [db b] (.au [eX { eY 1 with tr:=b },di 0]):=by
 refine aj.aK (ay:=jo) (keep:=[]) follows Tryz.func87 rfl Tryz.call87 ?_
 refine aA (fun _ _ _ _=>(((.au [(.agg [(ds (ByteArray.mk #[])),(di 1),(di 0),(di 0),(db b),(ds (ByteArray.mk #[]))]),(di 0)]):DV)=(.au [(eX (let __src:=eY 1;Ft.mk __src.nm __src.kind __src.n __src.d b __src.wd)),(di 0)]))) (by kernel_rfl) ?_
 rfl
def RX (f:Ft) (x:Fc):Bool:=!decide (f.nm=x.name)||f.kind != x.kind||x.kind != 0&&!(f.n==0&&f.d==0)||x.kind != 1&&f.tr||x.kind != 2&&!decide (f.wd=.empty)
def Rt (f:Ft) (x:Fc):Bool:=x.kind==0&&(!iF x.ln x.ld f.n f.d||!iF f.n f.d x.hn x.hd||decide (dM x.ln x.ld f.n f.d>0)||decide (dM f.n f.d x.hn x.hd>0))||x.kind==2&&!cu x.words f.wd
theorem YE (f:Ft) (x:Fc):(!iF x.ln x.ld f.n f.d||!iF f.n f.d x.hn x.hd||decide (dM x.ln x.ld f.n f.d>0)||decide (dM f.n f.d x.hn x.hd>0)) = !vJ f x:=by
 unfold vJ
 rw[show decide (dM x.ln x.ld f.n f.d≤0) = !decide (dM x.ln x.ld f.n f.d>0) from by rw[←decide_not];exact decide_eq_decide.2 (by omega),show decide (dM f.n f.d x.hn x.hd≤0) = !decide (dM f.n f.d x.hn x.hd>0) from by rw[←decide_not];exact decide_eq_decide.2 (by omega)]
 cases iF x.ln x.ld f.n f.d<;>cases iF f.n f.d x.hn x.hd<;>cases decide (dM x.ln x.ld f.n f.d>0)<;>cases decide (dM f.n f.d x.hn x.hd>0)<;>rfl
theorem JD (f:Ft) (x:Fc):jK f x=(!RX f x&&!Rt f x):=by
 unfold jK RX Rt
 rw[YE]
 have e1:decide (f.kind=x.kind) = !(f.kind != x.kind):=by simp[bne];grind
 have e2:(decide (f.n=0)&&decide (f.d=0))=(f.n==0&&f.d==0):=by grind
 rw[e1,e2]
 have e3:(x.kind != 0) = !(x.kind==0):=rfl
 have e4:(x.kind != 1) = !(x.kind==1):=rfl
 have e5:(x.kind != 2) = !(x.kind==2):=rfl
 rw[e3,e4,e5]
 generalize decide (f.nm=x.name)=a1
 generalize (f.kind != x.kind)=a2
 generalize (f.n==0&&f.d==0)=a3
 generalize (x.kind==0)=a4
 generalize (x.kind==1)=a5
 generalize (x.kind==2)=a6
 generalize f.tr=a7
 generalize decide (f.wd=ByteArray.empty)=a8
 generalize vJ f x=a9
 generalize cu x.words f.wd=a10
 cases a1<;>cases a2<;>cases a3<;>cases a4<;>cases a5<;>cases a6<;>cases a7<;>cases a8<;>cases a9<;>cases a10<;>rfl
theorem f15 (hT:Tab G) (F:List Ft) (L:List Fc) (h:∀i,i<L.length→sS (L.getD i aG)) (hl:L.length≤1000) (hF:F.length≤9223372036854775807):aj Tryz.prog G 15 [iJ F,fC L] (db (gJ F L)):=by
 have hw:∀i,i<L.length→(L.getD i aG).words.length≤1000000:=fun i hi=>by have:=(h i hi).ln;omega
 refine aj.aK (ay:=Ol L) (keep:=[]) follows Tryz.func15 rfl Tryz.call15 ?_
 refine aA (fun ZT ZW ZQ ZK=>(ZK 54 [(.slc 7 L.length (gV L))] (db (jk L))∧(((!jk L||(↑F.length:Int) != ↑L.length)=true)→(((db false):DV)=(db (gJ F L))))∧(((!jk L||(↑F.length:Int) != ↑L.length)=false)→ZW [cd Tryz.f15 [1,1,0,1,0],(.blk 0),cd Tryz.f15 [1,1,1]] (aI ZT [1]) ZQ))) (by kernel_rfl) ?_
 refine⟨f54 hT L h hl,fun h1=>?_,fun h1=>?_⟩
 ·have:gJ F L=false:=by
   unfold gJ lJ
   simp only[Bool.or_eq_true,Bool.not_eq_true',bne_iff_ne,ne_eq] at h1
   rcases h1 with h1|h1
   ·rw[h1];rfl
   ·rw[decide_eq_false (fun hh=>h1 (by omega)),Bool.false_and,Bool.and_false]
  rw[this]
 simp only[Bool.or_eq_false_iff,Bool.not_eq_false',bne_eq_false_iff_eq] at h1
 obtain ⟨hv,hlen⟩:=h1
 have hlen:F.length=L.length:=by omega
 have hva:gJ F L=lJ F L:=by unfold gJ;rw[hv,Bool.true_and]
 rw[hva]
 refine aC.loop (c:=dR (aQ Tryz.f15) [1,1,0,1,0,0]) (by kernel_rfl) (S15 F L) (fun k=>k≤L.length∧∀i,i<k→jK (F.getD i aJ) (L.getD i aG)=true) (fun k=>L.length-k) 0 ?_ ⟨Nat.zero_le _,fun i hi=>by omega⟩ ?_
 ·exact AS.dB (by kernel_rfl)
 ·rintro k ⟨hk,hkd⟩
  refine aK (ay:=Ol L) (keep:=[]) (cuts:=[]) (n:=1000) follows ?_
  refine bW (fun ZT ZW ZQ ZK ZA _=>(fun Za Zb Zc Zd=>((((decide ((↑k:Int)<↑L.length))=true)→((((0≤(↑k:Int))∧((↑k:Int)<↑F.length))∧(0≤(↑k:Int))∧((↑k:Int)<↑L.length))∧((Zb=true)→(((db false):DV)=(db (lJ F L))))∧((Zb=false)→(ZK 25 [(.agg [(di (L.getD (↑k:Int).toNat aG).ln),(di (L.getD (↑k:Int).toNat aG).ld)]),Zd] (.au [(di (dM (L.getD (↑k:Int).toNat aG).ln (L.getD (↑k:Int).toNat aG).ld (F.getD (↑k:Int).toNat aJ).n (F.getD (↑k:Int).toNat aJ).d)),(db (iF (L.getD (↑k:Int).toNat aG).ln (L.getD (↑k:Int).toNat aG).ld (F.getD (↑k:Int).toNat aJ).n (F.getD (↑k:Int).toNat aJ).d))])∧ZK 25 [Zd,(.agg [(di (L.getD (↑k:Int).toNat aG).hn),(di (L.getD (↑k:Int).toNat aG).hd)])] (.au [(di (dM (F.getD (↑k:Int).toNat aJ).n (F.getD (↑k:Int).toNat aJ).d (L.getD (↑k:Int).toNat aG).hn (L.getD (↑k:Int).toNat aG).hd)),(db (iF (F.getD (↑k:Int).toNat aJ).n (F.getD (↑k:Int).toNat aJ).d (L.getD (↑k:Int).toNat aG).hn (L.getD (↑k:Int).toNat aG).hd))])∧(((!((L.getD (↑k:Int).toNat aG).kind==0&&Za)&&(L.getD (↑k:Int).toNat aG).kind==2)=true)→ZK 55 [(.slc 1 (L.getD (↑k:Int).toNat aG).words.length (dX (L.getD (↑k:Int).toNat aG).words)),(ds (F.getD (↑k:Int).toNat aJ).wd)] (db (cu Zc (F.getD (↑k:Int).toNat aJ).wd)))∧((((L.getD (↑k:Int).toNat aG).kind==0&&Za||(L.getD (↑k:Int).toNat aG).kind==2&&!cu Zc (F.getD (↑k:Int).toNat aJ).wd)=true)→(((db false):DV)=(db (lJ F L))))∧((((L.getD (↑k:Int).toNat aG).kind==0&&Za||(L.getD (↑k:Int).toNat aG).kind==2&&!cu Zc (F.getD (↑k:Int).toNat aJ).wd)=false)→((I64 (↑k+1))∧(ZA (aI ZT [0,1,1]))))))))∧(((decide ((↑k:Int)<↑L.length))=false)→ZW [cd Tryz.f15 [1,1,1]] (aI ZT [1]) ZQ))) (!iF (L.getD (↑k:Int).toNat aG).ln (L.getD (↑k:Int).toNat aG).ld (F.getD (↑k:Int).toNat aJ).n (F.getD (↑k:Int).toNat aJ).d||!iF (F.getD (↑k:Int).toNat aJ).n (F.getD (↑k:Int).toNat aJ).d (L.getD (↑k:Int).toNat aG).hn (L.getD (↑k:Int).toNat aG).hd||decide (dM (L.getD (↑k:Int).toNat aG).ln (L.getD (↑k:Int).toNat aG).ld (F.getD (↑k:Int).toNat aJ).n (F.getD (↑k:Int).toNat aJ).d>0)||decide (dM (F.getD (↑k:Int).toNat aJ).n (F.getD (↑k:Int).toNat aJ).d (L.getD (↑k:Int).toNat aG).hn (L.getD (↑k:Int).toNat aG).hd>0)) (!(F.getD (↑k:Int).toNat aJ).nm.toList==(L.getD (↑k:Int).toNat aG).name.toList||(F.getD (↑k:Int).toNat aJ).kind != (L.getD (↑k:Int).toNat aG).kind||(L.getD (↑k:Int).toNat aG).kind != 0&&!Bool.rec false ((F.getD (↑k:Int).toNat aJ).d==0) ((F.getD (↑k:Int).toNat aJ).n==0)||(L.getD (↑k:Int).toNat aG).kind != 1&&(F.getD (↑k:Int).toNat aJ).tr||(L.getD (↑k:Int).toNat aG).kind != 2&&!(F.getD (↑k:Int).toNat aJ).wd.toList==(ByteArray.mk #[]).toList) (jP (DV.slc 1 (L.getD (↑k:Int).toNat aG).words.length (dX (L.getD (↑k:Int).toNat aG).words))) ((.agg [(di (F.getD (↑k:Int).toNat aJ).n),(di (F.getD (↑k:Int).toNat aJ).d)]):DV)) (by kernel_rfl) ?_
  have bn:(ByteArray.mk #[])=ByteArray.empty:=rfl
  simp only[Int.toNat_natCast,oO,QZ,iT,bn]
  refine⟨fun h2=>?_,fun h2=>?_⟩
  ·have hk2:k<L.length:=by have:=of_decide_eq_true h2;omega
   refine⟨⟨⟨by omega,by omega⟩,by omega,by omega⟩,fun h3=>?_,fun h3=>⟨f25 _ _ _ _,f25 _ _ _ _,fun _=>f55 _ _ (hw k hk2),fun h4=>?_,fun h4=>⟨⟨by omega,by omega⟩,Again.mk (k+1) ?_ ⟨hk2,fun i hi=>?_⟩ (by omega)⟩⟩⟩
   ·have h3:RX (F.getD k aJ) (L.getD k aG)=true:=h3
    rw[Ju hk2 (by rw[JD,h3];rfl)]
   ·have h4:Rt (F.getD k aJ) (L.getD k aG)=true:=h4
    rw[Ju hk2 (by rw[JD,h4,Bool.and_comm];rfl)]
   ·exact AS.dB (by kernel_rfl)
   ·rcases Nat.lt_or_ge i k with h5|h5
    ·exact hkd i h5
    ·obtain rfl:i=k:=by omega
     have h3:RX (F.getD i aJ) (L.getD i aG)=false:=h3
     have h4:Rt (F.getD i aJ) (L.getD i aG)=false:=h4
     rw[JD,h3,h4];rfl
  ·have h2:=of_decide_eq_false h2
   refine aK (ay:=Ol L) (keep:=[]) (cuts:=[]) (n:=1000) follows ?_
   refine aA (fun _ _ _ _=>(((db true):DV)=(db (lJ F L)))) (by kernel_rfl) ?_
   rw[NK hlen fun i hi=>hkd i (by omega)]
/-! The reference's parts: common kinds,words,comparable. -/
noncomputable def VP (l:List Int) (k:Nat):AS:=⟨regs Tryz.f143.ntmps [(0,.d (lY l)),(3,vi (if k=0 then -1 else l.getD (k-1) 0)),(4,vi k)],[]⟩
theorem f143 (l:List Int) (hl:l.length≤100000):aj Tryz.prog G 143 [lY l] (di (fA l)):=by
 refine aj.walk (ay:=jo) (keep:=[]) follows Tryz.func143 rfl Tryz.call143 ?_
 refine aA (fun ZT ZW ZQ _=>ZW [cd Tryz.f143 [1,1,0,1,0],(.blk 0),cd Tryz.f143 [1,1,1]] (aI ZT []) ZQ) (by kernel_rfl) ?_
 refine aC.loop (c:=dR (aQ Tryz.f143) [1,1,0,1,0,0]) (by kernel_rfl) (VP l) (fun k=>k≤l.length∧∀i,i<k→l.getD i 0=l.getD 0 0) (fun k=>l.length-k) 0 ?_ ⟨Nat.zero_le _,fun i hi=>absurd hi (Nat.not_lt_zero _)⟩ ?_
 ·refine AS.leZ [1] [] (b:=((T0∧((vi (-1)):AV)=(vi (if 0=0 then -1 else l.getD (0-1) 0))∧T0∧True)∧True)) (by kernel_rfl) (by kernel_rfl) ?_
  exact⟨⟨rfl,rfl,rfl,trivial⟩,trivial⟩
 ·rintro k ⟨hk,hkd⟩
  have hcur:k≠0→(if k=0 then (-1:Int) else l.getD (k-1) 0)=l.getD 0 0:=fun h=>by rw[if_neg h];exact hkd _ (by omega)
  generalize hA:(if k=0 then (-1:Int) else l.getD (k-1) 0)=A at hcur
  have hS:VP l k=⟨regs Tryz.f143.ntmps [(0,.d (lY l)),(3,vi A),(4,vi k)],[]⟩:=by unfold VP;rw[hA]
  rw[hS]
  refine walk (ay:=jo) (keep:=[]) (cuts:=[]) (n:=1000) follows ?_
  refine bW (fun ZT ZW ZQ _ ZA _=>((((decide ((↑k:Int)<↑l.length))=true)→((((decide ((↑k:Int)>0))=true)→((0≤(↑k:Int))∧((↑k:Int)<↑l.length)))∧(((decide ((↑k:Int)>0)&&l.getD (↑k:Int).toNat 0 != A)=true)→(((di (-1)):DV)=(di (fA l))))∧(((decide ((↑k:Int)>0)&&l.getD (↑k:Int).toNat 0 != A)=false)→(((0≤(↑k:Int))∧((↑k:Int)<↑l.length))∧(I64 (↑k+1))∧(ZA (aI ZT [0,1]))))))∧(((decide ((↑k:Int)<↑l.length))=false)→ZW [cd Tryz.f143 [1,1,1]] (aI ZT [1]) ZQ))) (by kernel_rfl) ?_
  simp only[Int.toNat_natCast]
  have hfin:(∀i,i<l.length→l.getD i 0=l.getD 0 0)→fA l=if l.length=0 then -1 else l.getD 0 0:=fun hh=>by
   cases l with
   | nil=>rfl
   | cons a l=>
    show (if lT l a=true then a else -1)=a
    rw[if_pos]
    unfold lT
    rw[Bool.not_eq_true',List.any_eq_false]
    intro b hb
    obtain ⟨i,hi,rfl⟩:=List.getElem_of_mem hb
    have:=hh (i+1) (by simpa using hi)
    simp only[List.getD_cons_succ,List.getD_cons_zero] at this
    rw[List.getD,bQ hi] at this
    simpa using this
  have hbad:k<l.length→k≠0→l.getD k 0≠A→fA l = -1:=fun h1 h2 h3=>by
   rw[hcur h2] at h3
   cases l with
   | nil=>rfl
   | cons a l=>
    show (if lT l a=true then a else -1) = -1
    rw[if_neg]
    intro hh
    have:=Gu hh (i:=k-1) (by simp at h1;omega)
    apply h3
    obtain ⟨j,rfl⟩:∃j,k=j+1:=⟨k-1,by omega⟩
    simpa using this
  refine⟨fun h=>?_,fun h=>?_⟩
  ·have hk2:k<l.length:=by have:=of_decide_eq_true h;omega
   refine⟨fun h2=>⟨by omega,by omega⟩,fun h2=>?_,fun h2=>⟨⟨by omega,by omega⟩,⟨by omega,by omega⟩,Again.mk (k+1) ?_ ⟨hk2,fun i hi=>?_⟩ (by omega)⟩⟩
   ·simp only[aT,decide_eq_true_eq,bne_iff_ne,ne_eq] at h2
    rw[hbad hk2 (by omega) h2.2]
   ·refine AS.leZ [1] [] (b:=((T0∧((vi (l.getD (↑k:Int).toNat 0)):AV)=(vi (if k+1=0 then -1 else l.getD (k+1-1) 0))∧T0∧True)∧True)) (by kernel_rfl) (by kernel_rfl) ?_
    exact⟨⟨rfl,rfl,rfl,trivial⟩,trivial⟩
   ·rcases Nat.lt_or_ge i k with h4|h4
    ·exact hkd i h4
    ·obtain rfl:i=k:=by omega
     by_cases h0:i=0
     ·subst h0;rfl
     ·rw[←hcur h0]
      simp only[Bool.and_eq_false_iff,decide_eq_false_iff_not,bne_eq_false_iff_eq] at h2
      rcases h2 with h2|h2
      ·omega
      ·exact h2
  ·have h:=of_decide_eq_false h
   obtain rfl:k=l.length:=by omega
   rw[hfin hkd]
   by_cases h0:l.length=0
   ·rw[if_pos h0] at hA
    refine walk (ay:=jo) (keep:=[]) (cuts:=[]) (n:=1000) follows ?_
    refine aA (fun _ _ _ _=>(((di A):DV)=(di (if l.length=0 then -1 else l.getD 0 0)))) (by kernel_rfl) ?_
    rw[if_pos h0,hA]
   ·refine walk (ay:=jo) (keep:=[]) (cuts:=[]) (n:=1000) follows ?_
    refine aA (fun _ _ _ _=>(((di A):DV)=(di (if l.length=0 then -1 else l.getD 0 0)))) (by kernel_rfl) ?_
    rw[if_neg h0,hcur h0]
noncomputable def Xm (L:List Fc):aZ:=fun f a=>match f,a with
 | 101,[_,.con (.string s)]=>some (di (eP L s))
 | _,_=>none
theorem f175 (L:List Fc) (m:Nat) (x:Ex) (hl:L.length≤100000):aj Tryz.prog G 175 [bG m x,fC L] (lC (eH L x)):=by
 by_cases h:(x.k==2&&decide (eP L x.s≥0))=true
 ·have hw:eH L x=(L.getD (eP L x.s).toNat aG).words:=by unfold eH;rw[if_pos h]
  rw[hw]
  refine aj.walk (ay:=Xm L) (keep:=[]) follows Tryz.func175 rfl Tryz.call175 ?_
  refine aA (fun _ _ _ ZK=>(ZK 101 [(.slc 7 L.length (gV L)),(ds x.s)] (di (eP L x.s))∧(((x.k==2&&decide (eP L x.s≥0))=true)→(((0≤eP L x.s)∧(eP L x.s<↑L.length))∧(ZS ((lC (L.getD (eP L x.s).toNat aG).words):DV))))∧(((x.k==2&&decide (eP L x.s≥0))=false)→(((.con (.slice none 0 0)):DV)=(lC (L.getD (eP L x.s).toNat aG).words))))) (by kernel_rfl) ?_
  refine⟨f101 L x.s hl,fun h1=>⟨?_,rfl⟩,fun h1=>?_⟩
  ·simp only[aT,decide_eq_true_eq] at h1
   have:=(wO h1.2).1
   have:=h1.2
   omega
  ·rw[h] at h1;cases h1
 ·have hw:eH L x=[]:=by unfold eH;rw[if_neg h]
  rw[hw]
  refine aj.res (r:=.con (.slice none 0 0)) ?_ (fun k v hv=>su hv)
  refine aj.walk (ay:=Xm L) (keep:=[]) follows Tryz.func175 rfl Tryz.call175 ?_
  refine aA (fun _ _ _ ZK=>(ZK 101 [(.slc 7 L.length (gV L)),(ds x.s)] (di (eP L x.s))∧(((x.k==2&&decide (eP L x.s≥0))=true)→(((0≤eP L x.s)∧(eP L x.s<↑L.length))∧((.slc 1 (L.getD (eP L x.s).toNat aG).words.length (dX (L.getD (eP L x.s).toNat aG).words)):DV)=(.con (.slice none 0 0))))∧(((x.k==2&&decide (eP L x.s≥0))=false)→(ZS ((.con (.slice none 0 0)):DV))))) (by kernel_rfl) ?_
  refine⟨f101 L x.s hl,fun h1=>absurd h1 h,fun h1=>?_⟩
  trivial
noncomputable def QS (L:List Fc):aZ:=fun f a=>match f,a with
 | 175,[e,_]=>some (lC (eH L (ah e)))
 | 55,[w,.con (.string s)]=>some (db (cu (jP w) s))
 | _,_=>none
noncomputable def abO (L:List Fc) (a b:List ByteArray) (k:Nat):AS:=⟨regs Tryz.f144.ntmps [(7,.d (lC a)),(8,.d (lC b)),(9,vi k)],[]⟩
theorem f144 (L:List Fc) (m m':Nat) (x y:Ex) (hx:ht x≤m) (hy:ht y≤m') (hl:L.length≤100000) (hw:∀f∈L,f.words.length≤100000):aj Tryz.prog G 144 [bG m x,bG m' y,fC L] (db (yQ (eH L x) (eH L y) x.s y.s)):=by
 have ex:ah (exV x.k x.s x.n x.d x.pos x.kids.length (lay (bJ m) x.kids))=x:=fU hx
 have ey:ah (exV y.k y.s y.n y.d y.pos y.kids.length (lay (bJ m') y.kids))=y:=fU hy
 have hlen:∀z:Ex,(eH L z).length≤100000:=fun z=>by
  unfold eH
  split
  ·rename_i h
   simp only[aT,decide_eq_true_eq] at h
   exact hw _ (getD_mem (wO h.2).1)
  ·simp
 refine aj.walk (ay:=QS L) (keep:=[]) follows Tryz.func144 rfl Tryz.call144 ?_
 refine Py ((.slc 1 (eH L (ah (aB m x))).length (dX (eH L (ah (aB m x))))):DV) ((.slc 1 (eH L (ah (aB m' y))).length (dX (eH L (ah (aB m' y))))):DV) (↑(eH L (ah (aB m x))).length:Int) (jP (DV.slc 1 (eH L (ah (aB m x))).length (dX (eH L (ah (aB m x)))))) (↑(eH L (ah (aB m' y))).length:Int) (jP (DV.slc 1 (eH L (ah (aB m' y))).length (dX (eH L (ah (aB m' y)))))) (db (yQ (eH L x) (eH L y) x.s y.s)) (fun Za Zb Zc Zd Ze Zf Zg=>((aj Tryz.prog G 175 [(aB m x),(.slc 7 L.length (gV L))] Za∧aj Tryz.prog G 175 [(aB m' y),(.slc 7 L.length (gV L))] Zb)∧(((decide (Zc>0)&&decide (Ze>0))=true)→((((Zc != ↑(eH L (ah (aB m' y))).length)=true)→(((db false):DV)=Zg))∧(((Zc != ↑(eH L (ah (aB m' y))).length)=false)→aC Tryz.prog G [cd Tryz.f144 [1,1,0,1,0,1,0,1,0],(.blk 0),cd Tryz.f144 [1,1,0,1,0,1,1],cd Tryz.f144 [1,1,1]] ⟨regs 54 [(0,(.d (aB m x))),(1,(.d (aB m' y))),(2,(.d (.slc 7 L.length (gV L)))),(3,(.box 3 0)),(4,(.box 4 0)),(6,(vb false)),(7,(.d Za)),(8,(.d Zb)),(9,(vi 0)),(10,(.d (aB m x))),(11,(.d (.slc 7 L.length (gV L)))),(12,(.d Za)),(13,(.d (aB m' y))),(14,(.d (.slc 7 L.length (gV L)))),(15,(.d Zb)),(16,(.d Za)),(17,(vi (↑(eH L (ah (aB m x))).length))),(18,(vb (decide (Zc>0)))),(19,(vb (decide (Zc>0)))),(23,(vb (decide (Zc>0)&&decide (Ze>0)))),(24,(.d Za)),(25,(vi (↑(eH L (ah (aB m x))).length))),(26,(.d Zb)),(27,(vi (↑(eH L (ah (aB m' y))).length))),(28,(vb (Zc != ↑(eH L (ah (aB m' y))).length)))],[(4,[(vi y.k),(vs y.s),(vi y.n),(vi y.d),(vi y.pos),(.d (.slc 6 y.kids.length (lay (bJ m') y.kids)))]),(3,[(vi x.k),(vs x.s),(vi x.n),(vi x.d),(vi x.pos),(.d (.slc 6 x.kids.length (lay (bJ m) x.kids)))])]⟩ (fF Tryz.prog Tryz.f144 Zg))))∧(((decide (Zc>0)&&decide (Ze>0))=false)→((aj Tryz.prog G 55 [Za,(ds y.s)] (db (cu Zd y.s))∧(((!cu Zd y.s)=true)→aj Tryz.prog G 55 [Zb,(ds x.s)] (db (cu Zf x.s))))∧((db (cu Zd y.s||cu Zf x.s)):DV)=Zg)))) (by kernel_rfl) ?_
 simp only[ex,ey,oO]
 have h1:=hlen x
 have h2:=hlen y
 have f1:=f175 (G:=G) L m x hl
 have f2:=f175 (G:=G) L m' y hl
 generalize eH L x=a at *
 generalize eH L y=b at *
 have d1:decide ((a.length:Int)>0)=decide (a.length>0):=by rw[decide_eq_decide];omega
 have d2:decide ((b.length:Int)>0)=decide (b.length>0):=by rw[decide_eq_decide];omega
 rw[d1,d2]
 unfold yQ
 refine⟨⟨f1,f2⟩,fun h=>⟨fun hne=>?_,fun heq=>?_⟩,fun h=>⟨⟨f55 a y.s (by omega),fun _=>f55 b x.s (by omega)⟩,?_⟩⟩
 ·rw[if_pos h,decide_eq_false]
  rintro rfl
  simp at hne
 ·rw[if_pos h]
  have heq:a.length=b.length:=by
   have h0:(a.length:Int)=b.length:=by simpa using heq
   omega
  refine aC.loop (c:=dR (aQ Tryz.f144) [1,1,0,1,0,1,0,1,0,0]) (by kernel_rfl) (abO L a b) (fun k=>k≤a.length∧∀i,i<k→a.getD i .empty=b.getD i .empty) (fun k=>a.length-k) 0 ?_ ⟨Nat.zero_le _,fun i hi=>absurd hi (Nat.not_lt_zero _)⟩ ?_
  ·refine of_eq (b:=((((.d (.slc 1 a.length (dX a))):AV)=(.d (.slc 1 a.length (dX a)))∧((.d (.slc 1 b.length (dX b))):AV)=(.d (.slc 1 b.length (dX b)))∧((vi 0):AV)=(vi 0)∧True)∧True)) (by kernel_rfl) ?_
   exact⟨⟨rfl,rfl,rfl,trivial⟩,trivial⟩
  ·rintro k ⟨hk,hkd⟩
   refine walk (ay:=QS L) (keep:=[]) (cuts:=[]) (n:=1000) follows ?_
   refine bW (fun ZT ZW ZQ _ ZA _=>(fun Za=>((((decide ((↑k:Int)<↑a.length))=true)→((((0≤(↑k:Int))∧((↑k:Int)<↑a.length))∧(0≤(↑k:Int))∧((↑k:Int)<↑b.length))∧((Za=true)→(((db false):DV)=(db (decide (a=b)))))∧((Za=false)→((I64 (↑k+1))∧(ZA (aI ZT [0,1]))))))∧(((decide ((↑k:Int)<↑a.length))=false)→ZW [cd Tryz.f144 [1,1,0,1,0,1,1],cd Tryz.f144 [1,1,1]] (aI ZT [1]) ZQ))) (!(a.getD (↑k:Int).toNat ByteArray.empty).toList==(b.getD (↑k:Int).toNat ByteArray.empty).toList)) (by kernel_rfl) ?_
   simp only[Int.toNat_natCast,iT,bne]
   refine⟨fun h1=>?_,fun h1=>?_⟩
   ·have hk2:k<a.length:=by have:=of_decide_eq_true h1;omega
    refine⟨⟨⟨by omega,by omega⟩,⟨by omega,by omega⟩⟩,fun h3=>?_,fun h3=>⟨⟨by omega,by omega⟩,Again.mk (k+1) ?_ ⟨hk2,fun i hi=>?_⟩ (by omega)⟩⟩
    ·rw[decide_eq_false]
     rintro rfl
     simp at h3
    ·exact AS.dB (by kernel_rfl)
    ·rcases Nat.lt_or_ge i k with h4|h4
     ·exact hkd i h4
     ·obtain rfl:i=k:=by omega
      simpa using h3
   ·have h1:=of_decide_eq_false h1
    refine walk (ay:=QS L) (keep:=[]) (cuts:=[]) (n:=1000) follows ?_
    refine aA (fun _ _ _ _=>(((db true):DV)=(db (decide (a=b))))) (by kernel_rfl) ?_
    rw[decide_eq_true (OE heq fun i hi=>hkd i (by omega))]
 ·rw[if_neg (by rw[h];decide)]
/-! The reference's kind. -/
def jl (r:KR):KR:=if r.2.2≠0 then (0,r.2) else (r.1,0,0)
noncomputable def ZM (L:List Fc):aZ:=fun f a=>match f,a with
 | 85,[e,_]=>some (.au [di (jl (dA L (ah e))).1,di (jl (dA L (ah e))).2.1,di (jl (dA L (ah e))).2.2])
 | 143,[w]=>some (di (fA (jE w)))
 | 101,[_,.con (.string s)]=>some (di (eP L s))
 | 55,[w,.con (.string s)]=>some (db (cu (jP w) s))
 | 144,[e,g,_]=>some (db (yQ (eH L (ah e)) (eH L (ah g)) (ah e).s (ah g).s))
 | _,_=>none
noncomputable def Ib (L:List Fc):iq:={ d:=ZM L,rows:=fun n=>Nat.beq n 15 }
noncomputable def S65 (L:List Fc) (m:Nat) (x:Ex) (k:Nat):AS:=⟨regs Tryz.f85.ntmps [(1,.d (fC L)),(2,.box 2 0),(7,.vec 900 1 0 k),(8,vi k)],[(2,l7 m x),(900,[.arr NZ 1 (l9 (aW L L.length) (dW L L.length) x k)])]⟩
noncomputable def aeo (L:List Fc) (m:Nat) (x:Ex) (k:Nat):AS:=⟨regs Tryz.f85.ntmps [(1,.d (fC L)),(2,.box 2 0),(14,vi k)],[(2,l7 m x)]⟩
theorem f85 (L:List Fc) (hv:VF L) (hl:L.length≤1000) (hw:∀f∈L,f.words.length≤1000) (m:Nat):∀(x:Ex),ht x≤m→Sm x→aV x=true→aj Tryz.prog G 85 [bG m x,fC L] (.au [di (jl (dA L x)).1,di (jl (dA L x)).2.1,di (jl (dA L x)).2.2]):=by
 induction m using Nat.strongRecOn with
 | _ m ih=>
 intro x hx hs hsn
 have hlen:=hs.len.1
 have h65:∀i,i<x.kids.length→aj Tryz.prog G 85 [aS m x i,fC L] (.au [di (jl (dA L (x.kids.getD i ak))).1,di (jl (dA L (x.kids.getD i ak))).2.1,di (jl (dA L (x.kids.getD i ak))).2.2]):=fun i hi=>
  jD (Q:=fun d=>aj Tryz.prog G 85 [d,fC L] _) hx hi fun m' h1 h2=>ih m' h1 _ h2 (hs.kid hi) (dO hsn hi)
 refine aj.walk (ay:=Ib L) (keep:=[]) follows Tryz.func85 rfl Tryz.call85 ?_
 refine aA (fun ZT ZW ZQ _=>ZW [cd Tryz.f85 [1,1,0,1,0],(.blk 0),cd Tryz.f85 [1,1,1]] (aI ZT []) ZQ) (by kernel_rfl) ?_
 refine aC.pre (.moves [(15,900)] _ rfl) ?_
 have Ns:dA L x=EP (aW L L.length) (dW L L.length) x.k x.s x.pos (jJ (aW L L.length) (dW L L.length) x.kids) (x.kids.getD 0 ak).s (x.kids.getD 1 ak).s:=EM _ _ x
 refine aC.loop (c:=dR (aQ Tryz.f85) [1,1,0,1,0,0]) (by kernel_rfl) (S65 L m x) (fun k=>k≤x.kids.length∧∀i,i<k→(dA L (x.kids.getD i ak)).2.2=0) (fun k=>x.kids.length-k) 0 ?_ ⟨Nat.zero_le _,fun i hi=>absurd hi (Nat.not_lt_zero _)⟩ ?_
 ·refine AS.leZ [] [1] (b:=((T0∧T0∧T0∧T0∧True)∧T0∧((some [(.arr ⟨false,3,false,none⟩ 1 (fun x=>DV.con undef))]):(Option (List AV)))=(some [(.arr ⟨false,3,false,none⟩ 1 (l9 (aW L L.length) (dW L L.length) x 0))])∧True)) (by kernel_rfl) (by kernel_rfl) ?_
  exact⟨⟨rfl,rfl,rfl,rfl,trivial⟩,rfl,rfl,trivial⟩
 ·rintro k ⟨hk,hkd⟩
  refine walk (ay:=Ib L) (keep:=[]) (cuts:=[]) (n:=1000) follows ?_
  refine BQ (jl (dA L (ah (aY m (x.kids.getD (↑k:Int).toNat ak))))) (x.kids.getD (↑k:Int).toNat ak) ((.d (.slc 6 x.kids.length (lay (bJ m) x.kids))):AV) (decide ((↑k:Int)<↑x.kids.length)) (fun Za Zb Zc Zd=>(((Zd=true)→((((0≤(↑k:Int))∧((↑k:Int)<↑x.kids.length))∧aj Tryz.prog G 85 [(aY m Zb),(.slc 7 L.length (gV L))] (.au [(di Za.fst),(di Za.snd.fst),(di Za.snd.snd)]))∧(((Za.snd.snd != 0)=true)→(((.au [(di 0),(di Za.snd.fst),(di Za.snd.snd)]):DV)=(.au [(di (jl (dA L x)).fst),(di (jl (dA L x)).snd.fst),(di (jl (dA L x)).snd.snd)])))∧(((Za.snd.snd != 0)=false)→(((((k+1)*8≤1099511627776)∧(k+1≤1099511627776))∧(∀(i:Nat),i<1→jW false 1 (aN false 1 [di Za.fst] i)=true))∧(I64 (↑k+1))∧Again (S65 L m x) (fun k=>k≤x.kids.length∧∀(i:Nat),i<k→(dA L (x.kids.getD i ak)).snd.snd=0) (fun k=>x.kids.length-k) k ⟨regs 130 [(1,(.d (.slc 7 L.length (gV L)))),(2,(.box 2 0)),(7,(.vec 41 1 0 (k+1))),(8,(vi (↑k+1))),(9,(vi Za.fst)),(10,(vi Za.snd.fst)),(11,(vi Za.snd.snd)),(16,(vi (↑k))),(17,(.box 2 5)),(18,Zc),(19,(vi (↑x.kids.length))),(20,(vb Zd)),(21,(vi (↑k))),(22,(vi (↑k+1))),(23,(.d (.au [(di Za.fst),(di Za.snd.fst),(di Za.snd.snd)]))),(24,(.box 2 5)),(25,Zc),(26,(vi (↑k))),(27,(.d (.ptr [(di Zb.k),(ds Zb.s),(di Zb.n),(di Zb.d),(di Zb.pos),(.slc 6 Zb.kids.length (bJ m Zb.kids))]))),(28,(.d (aY m Zb))),(29,(.d (.slc 7 L.length (gV L)))),(30,(.d (.au [(di Za.fst),(di Za.snd.fst),(di Za.snd.snd)]))),(31,(vi Za.fst)),(32,(vi Za.snd.fst)),(33,(vi Za.snd.snd)),(34,(vi Za.snd.snd)),(35,(vb (Za.snd.snd != 0))),(38,(.vec 900 1 0 k)),(39,(vi Za.fst)),(40,(.d (.slc 1 1 (aN false 1 [(di Za.fst)])))),(41,(.vec 41 1 0 (k+1)))],[(41,[(.arr ⟨false,3,false,none⟩ 1 (fun i=>bif i.blt k then l9 (aW L L.length) (dW L L.length) x k i else aN false 1 [di Za.fst] (i-k)))]),(2,[(vi x.k),(vs x.s),(vi x.n),(vi x.d),(vi x.pos),Zc]),(900,[.dead])]⟩))))∧((Zd=false)→aC Tryz.prog G [cd Tryz.f85 [1,1,1]] ⟨regs 130 [(1,(.d (.slc 7 L.length (gV L)))),(2,(.box 2 0)),(7,(.vec 900 1 0 k)),(8,(vi (↑k))),(16,(vi (↑k))),(17,(.box 2 5)),(18,Zc),(19,(vi (↑x.kids.length))),(20,(vb Zd))],[(2,[(vi x.k),(vs x.s),(vi x.n),(vi x.d),(vi x.pos),Zc]),(900,[(.arr ⟨false,3,false,none⟩ 1 (l9 (aW L L.length) (dW L L.length) x k))])]⟩ (fF Tryz.prog Tryz.f85 (DV.au [di (jl (dA L x)).fst,di (jl (dA L x)).snd.fst,di (jl (dA L x)).snd.snd]))))) (by kernel_rfl) ?_
  simp only[Int.toNat_natCast]
  refine⟨fun h=>?_,fun h=>?_⟩
  ·have hk2:k<x.kids.length:=by have:=of_decide_eq_true h;omega
   have er:ah (aS m x k)=x.kids.getD k ak:=dL hx hk2
   have hh:=h65 k hk2
   have FC:jl (dA L (x.kids.getD k ak))=if (dA L (x.kids.getD k ak)).2.2≠0 then (0,(dA L (x.kids.getD k ak)).2) else ((dA L (x.kids.getD k ak)).1,0,0):=rfl
   simp only[er]
   refine⟨⟨⟨by omega,by omega⟩,hh⟩,fun h2=>?_,fun h2=>⟨⟨⟨by omega,by omega⟩,fun i hi=>(by obtain rfl:i=0:=(by omega);rfl)⟩,⟨by omega,by omega⟩,Again.Iq [(41,900)] rfl (k+1) ?_ ⟨hk2,fun i hi=>?_⟩ (by omega)⟩⟩
   ·have h2:(jl (dA L (x.kids.getD k ak))).2.2≠0:=by simpa using h2
    by_cases h3:(dA L (x.kids.getD k ak)).2.2≠0
    ·have hb:=Qx (R:=jJ (aW L L.length) (dW L L.length) x.kids) (r0:=(0,0,0)) (k:=k) (by rw[lg,List.length_map];exact hk2) (fun i hi=>by rw[rW (by omega)];exact hkd i hi) (by rw[rW hk2];exact h3)
     rw[rW hk2] at hb
     unfold EP at Ns
     rw[hb] at Ns
     rw[if_pos h3] at FC
     rw[FC,Ns]
     show _=DV.au [di (jl (0,(bZ (aW L L.length) (dW L L.length) (x.kids.getD k ak)).2)).1,_,_]
     unfold jl
     rw[if_pos h3]
    ·rw[if_neg h3] at FC
     rw[FC] at h2
     exact absurd rfl h2
   ·refine lG (some [(vi x.k),(vs x.s),(vi x.n),(vi x.d),(vi x.pos),(.d (.slc 6 x.kids.length (lay (bJ m) x.kids)))]) (fun Za=>((((.d (.slc 7 L.length (gV L))):AV)=(.d (.slc 7 L.length (gV L)))∧((.box 2 0):AV)=(.box 2 0)∧((.vec 900 1 0 (k+1)):AV)=(.vec 900 1 0 (k+1))∧((vi (↑k+1)):AV)=(vi (↑(k+1)))∧True)∧(Za:(Option (List AV)))=Za∧((some [(.arr ⟨false,3,false,none⟩ 1 (fun i=>bif i.blt k then l9 (aW L L.length) (dW L L.length) x k i else aN false 1 [DV.con (Value.int IntKind.i64 (jl (dA L (x.kids.getD k ak))).fst)] (i-k)))]):(Option (List AV)))=(some [(.arr ⟨false,3,false,none⟩ 1 (l9 (aW L L.length) (dW L L.length) x (k+1)))])∧True)) (by kernel_rfl) ?_
    refine⟨⟨rfl,rfl,rfl,rfl,trivial⟩,rfl,?_,trivial⟩
    have h3:(dA L (x.kids.getD k ak)).2.2=0:=by
     refine Classical.byContradiction fun hn=>?_
     rw[if_pos hn] at FC
     rw[FC] at h2
     exact hn (by simpa using h2)
    rw[if_neg (by omega)] at FC
    exact congrArg (fun f=>some [AV.arr NZ 1 f]) (JR k (by rw[FC]))
   ·rcases Nat.lt_or_ge i k with h4|h4
    ·exact hkd i h4
    ·obtain rfl:i=k:=by omega
     refine Classical.byContradiction fun hn=>?_
     rw[if_pos hn] at FC
     rw[FC] at h2
     exact hn (by simpa using h2)
  ·have h:=of_decide_eq_false h
   obtain rfl:k=x.kids.length:=by omega
   have hb:badR (jJ (aW L L.length) (dW L L.length) x.kids)=none:=KD (r0:=(0,0,0)) fun i hi=>by
    have hi:i<x.kids.length:=by rw[lg,List.length_map] at hi;exact hi
    rw[rW hi];exact hkd i hi
   have ety:=Ns
   unfold EP at ety
   rw[hb] at ety
   have Ov:((jJ (aW L L.length) (dW L L.length) x.kids).map (·.1)).length=x.kids.length:=by rw[lg,List.length_map,List.length_map]
   have hrow:∀i,i<x.kids.length→l9 (aW L L.length) (dW L L.length) x x.kids.length (0+i)=dV ((jJ (aW L L.length) (dW L L.length) x.kids).map (·.1)) i:=fun i hi=>by
    rw[Nat.zero_add]
    unfold l9 dV
    rw[nD hi,lg,List.map_map]
    show di (bZ _ _ (x.kids.getD i ak)).1=_
    rw[List.getD,List.getD,List.getElem?_map,bQ hi];rfl
   have hKg:∀i,i<x.kids.length→((jJ (aW L L.length) (dW L L.length) x.kids).map (·.1)).getD i 0=(dA L (x.kids.getD i ak)).1:=fun i hi=>yU hi
   refine aC.freeze (agg:=NZ) (sz:=1) (f:=l9 (aW L L.length) (dW L L.length) x x.kids.length) 900 (by kernel_rfl) ?_
   refine aC.pre (.reg _ 7 (.d (lY ((jJ (aW L L.length) (dW L L.length) x.kids).map (·.1)))) fun β h v hv=>?_) ?_
   ·have hv:DV.rel h (.slc 1 x.kids.length fun i=>l9 (aW L L.length) (dW L L.length) x x.kids.length (0+i)) v:=hv
    show DV.rel h (.slc 1 ((jJ (aW L L.length) (dW L L.length) x.kids).map (·.1)).length _) v
    rw[Ov]
    exact DV.dJ hrow hv
   have agz:=qC hsn
   have hone:=@kG x hsn
   have BJ:=@kH x hsn
   have Tm:=@rZ x hsn
   generalize (jJ (aW L L.length) (dW L L.length) x.kids).map (·.1)=KS at *
   clear hrow hb Ns
   refine aK (ay:=Ib L) (keep:=[]) (cuts:=[]) (n:=1000) follows ?_
   refine aA (fun ZT ZW ZQ ZK=>(fun Za Zb Zc Zd Ze Zf Zg=>(ZK 143 [(.slc 1 KS.length (dV KS))] (di (fA Zb))∧(((x.k==1)=true)→(Zg=Za))∧(((x.k==1)=false)→((((x.k==3)=true)→(Zf=Za))∧(((x.k==3)=false)→((((x.k==4)=true)→(Zf=Za))∧(((x.k==4)=false)→((((x.k==2)=true)→(ZK 101 [(.slc 7 L.length (gV L)),(ds x.s)] (di (eP L x.s))∧(((decide (eP L x.s≥0))=true)→(((0≤eP L x.s)∧(eP L x.s<↑L.length))∧((.au [(di (L.getD (eP L x.s).toNat aG).kind),(di 0),(di 0)]):DV)=Za))∧(((decide (eP L x.s≥0))=false)→ZW [cd Tryz.f85 [1,1,1,1,0,1,0,1,1,1,1,1,0,1,0,1,0],(.blk 3),cd Tryz.f85 [1,1,1,1,0,1,0,1,1,1,1,1,0,1,1],(.blk 2),cd Tryz.f85 [1,1,1,1,1]] (aI ZT [1,1,1,0,1]) ZQ)))∧(((x.k==2)=false)→((((x.k==5)=true)→((((fA Zb==0)=true)→(Zg=Za))∧(((fA Zb==0)=false)→(Zc=Za))))∧(((x.k==5)=false)→((((x.k==6)=true)→((((fA Zb==0)=true)→(Zg=Za))∧(((fA Zb==0)=false)→(Zc=Za))))∧(((x.k==6)=false)→((((x.k==7)=true)→((((fA Zb==0)=true)→(Zg=Za))∧(((fA Zb==0)=false)→(Zc=Za))))∧(((x.k==7)=false)→((((x.k==8)=true)→((((fA Zb==0)=true)→(Zg=Za))∧(((fA Zb==0)=false)→(Zc=Za))))∧(((x.k==8)=false)→((((x.k==9)=true)→((((fA Zb==0)=true)→(Zg=Za))∧(((fA Zb==0)=false)→(Zc=Za))))∧(((x.k==9)=false)→((((x.k==10)=true)→((((fA Zb==0)=true)→(Zg=Za))∧(((fA Zb==0)=false)→(Zc=Za))))∧(((x.k==10)=false)→((((x.k==11)=true)→((((fA Zb==0)=true)→(Zg=Za))∧(((fA Zb==0)=false)→(Zc=Za))))∧(((x.k==11)=false)→((((x.k==14)=true)→((((fA Zb==0)=true)→(Zf=Za))∧(((fA Zb==0)=false)→(Zc=Za))))∧(((x.k==14)=false)→((((x.k==15)=true)→((((fA Zb==0)=true)→(Zf=Za))∧(((fA Zb==0)=false)→(Zc=Za))))∧(((x.k==15)=false)→((((x.k==16)=true)→((((fA Zb==0)=true)→(Zf=Za))∧(((fA Zb==0)=false)→(Zc=Za))))∧(((x.k==16)=false)→((((x.k==17)=true)→((((fA Zb==0)=true)→(Zf=Za))∧(((fA Zb==0)=false)→(Zc=Za))))∧(((x.k==17)=false)→((((x.k==12)=true)→(((((!(fA Zb==0||fA Zb==1)&&fA Zb==2)=true)→(((0:Int)≤(0:Int))∧(0<(↑x.kids.length:Int))))∧(((!(fA Zb==0||fA Zb==1)&&fA Zb==2)=true)→(((0:Int)≤(1:Int))∧(1<(↑x.kids.length:Int))))∧(((!(fA Zb==0||fA Zb==1)&&fA Zb==2)=true)→ZK 144 [Zd,Ze,(.slc 7 L.length (gV L))] (db (yQ (eH L (ah Zd)) (eH L (ah Ze)) (ah Zd).s (ah Ze).s))))∧(((fA Zb==0||fA Zb==1||fA Zb==2&&yQ (eH L (ah Zd)) (eH L (ah Ze)) (ah Zd).s (ah Ze).s)=true)→(Zf=Za))∧(((fA Zb==0||fA Zb==1||fA Zb==2&&yQ (eH L (ah Zd)) (eH L (ah Ze)) (ah Zd).s (ah Ze).s)=false)→(Zc=Za))))∧(((x.k==12)=false)→((((x.k==13)=true)→(((((!(fA Zb==0||fA Zb==1)&&fA Zb==2)=true)→(((0:Int)≤(0:Int))∧(0<(↑x.kids.length:Int))))∧(((!(fA Zb==0||fA Zb==1)&&fA Zb==2)=true)→(((0:Int)≤(1:Int))∧(1<(↑x.kids.length:Int))))∧(((!(fA Zb==0||fA Zb==1)&&fA Zb==2)=true)→ZK 144 [Zd,Ze,(.slc 7 L.length (gV L))] (db (yQ (eH L (ah Zd)) (eH L (ah Ze)) (ah Zd).s (ah Ze).s))))∧(((fA Zb==0||fA Zb==1||fA Zb==2&&yQ (eH L (ah Zd)) (eH L (ah Ze)) (ah Zd).s (ah Ze).s)=true)→(Zf=Za))∧(((fA Zb==0||fA Zb==1||fA Zb==2&&yQ (eH L (ah Zd)) (eH L (ah Ze)) (ah Zd).s (ah Ze).s)=false)→(Zc=Za))))∧(((x.k==13)=false)→((((x.k==18)=true)→((((fA Zb==1)=true)→(Zf=Za))∧(((fA Zb==1)=false)→(Zc=Za))))∧(((x.k==18)=false)→((((x.k==19)=true)→((((fA Zb==1)=true)→(Zf=Za))∧(((fA Zb==1)=false)→(Zc=Za))))∧(((x.k==19)=false)→((((x.k==20)=true)→((((fA Zb==1)=true)→(Zf=Za))∧(((fA Zb==1)=false)→(Zc=Za))))∧(((x.k==20)=false)→(Zc=Za)))))))))))))))))))))))))))))))))))))))))) ((.au [(di (jl (dA L x)).fst),(di (jl (dA L x)).snd.fst),(di (jl (dA L x)).snd.snd)]):DV) (jE (DV.slc 1 KS.length (dV KS))) ((.au [(di 0),(di x.pos),(di 5)]):DV) (aY m (x.kids.getD (Int.toNat 0) ak)) (aY m (x.kids.getD (Int.toNat 1) ak)) ((.au [(di 1),(di 0),(di 0)]):DV) ((.au [(di 0),(di 0),(di 0)]):DV)) (by kernel_rfl) ?_
   have t0:Int.toNat 0=0:=rfl
   have t1:Int.toNat 1=1:=rfl
   have k2:x.k=12∨x.k=13→x.kids.length=2:=fun h=>(BJ (by omega)).1
   have hk5:5≤x.k→0<KS.length:=fun h=>by
    rw[Ov]
    by_cases e1:x.k=5∨x.k=18
    ·have:=hone e1;omega
    ·by_cases e2:x.k=10∨x.k=11
     ·have:=Tm e2;omega
     ·have:=(BJ (by omega)).1;omega
   obtain ⟨a1,a2,a3,a4⟩:=@F8 (aW L L.length) (dW L L.length) x.k x.s KS (x.kids.getD 0 ak).s (x.kids.getD 1 ak).s
   have hn:∀p:Int×Int,fO (aW L L.length) (dW L L.length) x.k x.s KS (x.kids.getD 0 ak).s (x.kids.getD 1 ak).s=p→jl (dA L x)=if p.2≠0 then (0,x.pos,p.2) else (p.1,0,0):=fun p hp=>by
    rw[ety,hp];rfl
   have hX:∀a b:Int,0≤a→5≤x.k→fO (aW L L.length) (dW L L.length) x.k x.s KS (x.kids.getD 0 ak).s (x.kids.getD 1 ak).s=(iW KS a b,ji KS a)→(fA KS=a→jl (dA L x)=(b,0,0))∧(¬fA KS=a→jl (dA L x)=(0,x.pos,5)):=fun a b ha h5 hp=>by
    have hs:=ZY ha (hk5 h5)
    rw[hn _ hp]
    constructor
    ·intro h
     have h:=hs.1 h
     unfold iW ji
     rw[if_pos h,if_pos h];rfl
    ·intro h
     have h:¬lT KS a=true:=fun hh=>h (hs.2 hh)
     unfold iW ji
     rw[if_neg h,if_neg h];rfl
   have n1:x.k=1→jl (dA L x)=(0,0,0):=fun h=>by
    rw[hn (0,0) (by unfold fO;rw[if_pos h])];rfl
   have n3:x.k=3∨x.k=4→jl (dA L x)=(1,0,0):=fun h=>by
    rw[hn (1,0) (by unfold fO;rw[if_neg (by omega)];split;rfl;rw[if_pos (by omega)])];rfl
   have n2:x.k=2→jl (dA L x)=if (lN (aW L L.length) (dW L L.length) x.s).2≠0 then (0,x.pos,(lN (aW L L.length) (dW L L.length) x.s).2) else ((lN (aW L L.length) (dW L L.length) x.s).1,0,0):=fun h=>by
    rw[hn _ (by unfold fO;rw[if_neg (by omega),if_neg (by omega),if_neg (by omega),if_pos h])]
   have n12:x.k=12∨x.k=13→∀c:Bool,c=(fA KS==0||fA KS==1||(fA KS==2&&yQ (eH L (x.kids.getD 0 ak)) (eH L (x.kids.getD 1 ak)) (x.kids.getD 0 ak).s (x.kids.getD 1 ak).s))→(c=true→jl (dA L x)=(1,0,0))∧(c=false→jl (dA L x)=(0,x.pos,5)):=fun h c hc=>by
    have hc2:cmK (aW L L.length) (x.kids.getD 0 ak).s (x.kids.getD 1 ak).s (KS.getD 0 0) (KS.getD 1 0)=c:=by
     have hl2:=k2 h
     have g0:=hKg 0 (by omega)
     have g1:=hKg 1 (by omega)
     have r0:=KF hv (dO hsn (i:=0) (by omega)) (hkd 0 (by omega))
     have r1:=KF hv (dO hsn (i:=1) (by omega)) (hkd 1 (by omega))
     rw[hl2] at Ov
     obtain ⟨p,q,rfl⟩:∃p q,KS=[p,q]:=by
      match KS,Ov with
      | [p,q],_=>exact⟨p,q,rfl⟩
     have g0:p=_:=g0
     have g1:q=_:=g1
     have hcm:=ZH hv (dO hsn (i:=0) (by omega)) (dO hsn (i:=1) (by omega)) (hkd 0 (by omega)) (hkd 1 (by omega))
     rw[←g0,←g1] at hcm
     rw[←g0] at r0
     rw[←g1] at r1
     show cmK _ _ _ p q=c
     rw[hc,Yd]
     by_cases e:q=p
     ·subst e
      rw[if_pos rfl]
      by_cases e2:q=2
      ·subst e2
       rw[hcm rfl rfl];rfl
      ·unfold cmK
       rw[if_pos (by simp[e2])]
       have:q=0∨q=1:=by omega
       rcases this with rfl|rfl<;>rfl
     ·rw[if_neg e]
      unfold cmK
      rw[if_pos (by simp;left;exact fun h=>e h.symm)]
      rw[beq_eq_false_iff_ne.2 (fun h=>e h.symm)];rfl
    rw[hn _ (a4 h),hc2]
    refine⟨fun h=>?_,fun h=>?_⟩
    ·rw[h];rfl
    ·rw[h];rfl
   simp only[jA,beq_iff_eq,beq_eq_false_iff_ne,ne_eq,t0,t1]
   have er:∀i,i<x.kids.length→ah (aS m x i)=x.kids.getD i ak:=fun i hi=>dL hx hi
   have adO:x.k=12∨x.k=13→aj Tryz.prog G 144 [aS m x 0,aS m x 1,fC L] (db (yQ (eH L (x.kids.getD 0 ak)) (eH L (x.kids.getD 1 ak)) (x.kids.getD 0 ak).s (x.kids.getD 1 ak).s)):=fun h=>
    jD (Q:=fun d=>aj Tryz.prog G 144 [d,aS m x 1,fC L] _) hx (i:=0) (by have:=k2 h;omega) fun m1 _ h1=>
     jD (Q:=fun d=>aj Tryz.prog G 144 [bG m1 (x.kids.getD 0 ak),d,fC L] _) hx (i:=1) (by have:=k2 h;omega) fun m2 _ h2=>f144 L m1 m2 _ _ h1 h2 (by omega) (fun f hf=>by have:=hw f hf;omega)
   repeat' (first|(with_reducible refine And.intro ?_ ?_)|(with_reducible intro _))
   all_goals first
    | contradiction
    | exact f143 KS (by omega)
    | exact f101 L x.s (by omega)
    | (exfalso;omega)
    | (rw[n1 (by assumption)])
    | (rw[n3 (by omega)])
    | (show (0:Int)≤_;omega)
    | (show (1:Int)<_;omega)
    | (show (0:Int)<_;omega)
    | (rw[(hX 0 0 (by omega) (by omega) (a1 (by omega))).1 (by assumption)])
    | (rw[(hX 0 0 (by omega) (by omega) (a1 (by omega))).2 (by assumption)])
    | (rw[(hX 0 1 (by omega) (by omega) (a2 (by omega))).1 (by assumption)])
    | (rw[(hX 0 1 (by omega) (by omega) (a2 (by omega))).2 (by assumption)])
    | (rw[(hX 1 1 (by omega) (by omega) (a3 (by omega))).1 (by assumption)])
    | (rw[(hX 1 1 (by omega) (by omega) (a3 (by omega))).2 (by assumption)])
    | (have q0:=er 0 (by have:=k2 (by omega);omega)
       have q1:=er 1 (by have:=k2 (by omega);omega)
       simp only[q0,q1]
       exact adO (by omega))
    | (rename_i hc
       have q0:=er 0 (by have:=k2 (by omega);omega)
       have q1:=er 1 (by have:=k2 (by omega);omega)
       simp only[q0,q1] at hc
       rw[(n12 (by omega) _ rfl).1 hc])
    | (rename_i hc
       have q0:=er 0 (by have:=k2 (by omega);omega)
       have q1:=er 1 (by have:=k2 (by omega);omega)
       simp only[q0,q1] at hc
       rw[(n12 (by omega) _ rfl).2 hc])
    | (rename_i hc;exact of_decide_eq_true hc)
    | (rename_i hc
       have:=(wO (of_decide_eq_true hc)).1
       have:=of_decide_eq_true hc
       show eP L x.s<_
       omega)
    | (rename_i hk hc
       have hc:=of_decide_eq_true hc
       rw[n2 (by omega)]
       unfold lN
       rw[if_pos (CB.1 hc),L9 hv hc]
       rfl)
    | skip
   ·rename_i k2' hc
    have hc:=of_decide_eq_false hc
    have hfH:fH (aW L L.length) (.string x.s)=false:=by
     cases hh:fH (aW L L.length) (.string x.s) with
     | false=>rfl
     | true=>exact absurd (CB.2 hh) hc
    refine aC.loop (c:=dR (aQ Tryz.f85) [1,1,1,1,0,1,0,1,1,1,1,1,0,1,0,1,0,0]) (by kernel_rfl) (aeo L m x) (fun k=>k≤L.length∧∀i,i<k→cu (L.getD i aG).words x.s=false) (fun k=>L.length-k) 0 ?_ ⟨Nat.zero_le _,fun i hi=>absurd hi (Nat.not_lt_zero _)⟩ ?_
    ·exact AS.dB (by kernel_rfl)
    ·rintro k ⟨hk,aar⟩
     refine aK (ay:=Ib L) (keep:=[]) (cuts:=[]) (n:=1000) follows ?_
     refine bW (fun ZT ZW ZQ ZK ZA _=>(fun Za=>((((decide ((↑k:Int)<↑L.length))=true)→((((0≤(↑k:Int))∧((↑k:Int)<↑L.length))∧ZK 55 [(.slc 1 (L.getD (↑k:Int).toNat aG).words.length (dX (L.getD (↑k:Int).toNat aG).words)),(ds x.s)] (db Za))∧((Za=true)→(((.au [(di 2),(di 0),(di 0)]):DV)=(.au [(di (jl (dA L x)).fst),(di (jl (dA L x)).snd.fst),(di (jl (dA L x)).snd.snd)])))∧((Za=false)→((I64 (↑k+1))∧(ZA (aI ZT [0,1]))))))∧(((decide ((↑k:Int)<↑L.length))=false)→ZW [cd Tryz.f85 [1,1,1,1,0,1,0,1,1,1,1,1,0,1,1],(.blk 2),cd Tryz.f85 [1,1,1,1,1]] (aI ZT [1]) ZQ))) (cu (jP (lC (L.getD (↑k:Int).toNat aG).words)) x.s)) (by kernel_rfl) ?_
     simp only[Int.toNat_natCast,oO]
     refine⟨fun h=>?_,fun h=>?_⟩
     ·have hk3:k<L.length:=by have:=of_decide_eq_true h;omega
      refine⟨⟨⟨by omega,by omega⟩,f55 _ _ (by have:=hw _ (getD_mem (x0:=aG) hk3);omega)⟩,fun h3=>?_,fun h3=>⟨⟨by omega,by omega⟩,Again.mk (k+1) ?_ ⟨hk3,fun i hi=>?_⟩ (by omega)⟩⟩
      ·rw[n2 (by omega)]
       have hwl:wL (dW L L.length) (.string x.s)=true:=Uk.2 ⟨_,getD_mem hk3,(uF _ _).1 h3⟩
       have hnm:lN (aW L L.length) (dW L L.length) x.s=(2,0):=by unfold lN;rw[if_neg (by rw[hfH];decide),if_pos hwl]
       rw[hnm];rfl
      ·exact AS.dB (by kernel_rfl)
      ·rcases Nat.lt_or_ge i k with h4|h4
       ·exact aar i h4
       ·obtain rfl:i=k:=by omega
        exact h3
     ·have h:=of_decide_eq_false h
      refine aK (ay:=Ib L) (keep:=[]) (cuts:=[]) (n:=1000) follows ?_
      refine aA (fun _ _ _ _=>(((.au [(di 0),(di x.pos),(di 4)]):DV)=(.au [(di (jl (dA L x)).fst),(di (jl (dA L x)).snd.fst),(di (jl (dA L x)).snd.snd)]))) (by kernel_rfl) ?_
      have hwl:wL (dW L L.length) (.string x.s)=false:=by
       cases hh:wL (dW L L.length) (.string x.s) with
       | false=>rfl
       | true=>
        obtain ⟨f,hf,hs⟩:=Uk.1 hh
        obtain ⟨i,hi,rfl⟩:=List.getElem_of_mem hf
        have:=aar i (by omega)
        rw[List.getD,bQ hi] at this
        have this:cu L[i].words x.s=false:=this
        rw[(uF _ _).2 hs] at this
        cases this
      have hnm:lN (aW L L.length) (dW L L.length) x.s=(0,4):=by unfold lN;rw[if_neg (by rw[hfH];decide),if_neg (by rw[hwl];decide)]
      rw[n2 (by omega),hnm];rfl
end Go.Proofs
/- Texts of expressions: neither empty nor long. -/
namespace Go.Proofs
open Go Go.Ab Go.RowKit
theorem Yk (n:Nat):0<(Lib.decDigits n).length:=by
 rw[Lib.decDigits]
 split<;>simp
theorem VJ {n d:Int} (h:(nI n d).2=true):0<(mY n d).size:=by
 unfold mY
 rw[pY]
 rw[Ef] at h⊢
 unfold jG at h⊢
 split at h
 ·rename_i hh
  rw[if_pos hh]
  simp only[List.length_append]
  have:=Yk (n.natAbs / d.toNat)
  omega
 ·cases h
theorem V4 {x:Ex} (h:aV x=true):0<(aO x).size:=by
 rw[GK]
 have h2:=@TT x h
 have h1:=@Lj x h
 unfold zn
 repeat' split
 all_goals (try simp only[ByteArray.size_append])
 ·rename_i hk
  have:=h1 hk
  unfold ru at this
  simp only[aT] at this
  exact VJ this.1.1
 ·rename_i hk
  have:=BG (h2 hk);omega
 ·decide
 ·decide
 ·show 0<1+_;omega
 ·show 0<4+_;omega
 ·show 0<4+_+1;omega
 ·show 0<4+_+1;omega
 ·show 0<_+1+_+1+_;omega
theorem VG {x:Ex} (h:kK x=true):0<(aO x).size:=by
 unfold kK at h
 simp only[aT] at h
 exact V4 h.1.1
set_option maxHeartbeats 4000000
set_option maxRecDepth 100000
variable {G:IH}
/-! The reference's names and types. -/
theorem WA {L:List Fc} {x:Ex}:aP L x=if (!jk L||!kK x)=true then (0,0,1) else jl (dA L x):=by
 unfold aP
 have e:(oh x).size=0↔kK x=false:=by
  unfold oh
  cases h:kK x with
  | false=>simp
  | true=>
   simp only[if_true]
   constructor
   ·intro hz
    exfalso
    have:=VG h
    omega
   ·intro h;cases h
 have e2:decide ((oh x).size=0) = !kK x:=by
  cases h:kK x with
  | false=>rw[decide_eq_true (e.2 h)];rfl
  | true=>rw[decide_eq_false (fun hz=>by rw[e.1 hz] at h;cases h)];rfl
 rw[e2]
 by_cases h1:(!jk L||!kK x)=true
 ·rw[if_pos h1,if_pos h1]
 ·rw[if_neg h1,if_neg h1]
  unfold jl
  by_cases h2:(dA L x).2.2≠0
  ·rw[if_pos h2]
  ·rw[if_neg h2]
noncomputable def abr (L:List Fc):aZ:=fun f a=>match f,a with
 | 54,[_]=>some (db (jk L))
 | 84,[e]=>some (db (kK (ah e)))
 | 85,[e,_]=>some (.au [di (jl (dA L (ah e))).1,di (jl (dA L (ah e))).2.1,di (jl (dA L (ah e))).2.2])
 | _,_=>none
theorem f49 (hT:Tab G) (m:Nat) (x:Ex) (L:List Fc) (hx:ht x≤m) (hs:Sm x) (h:∀i,i<L.length→sS (L.getD i aG)) (hl:L.length≤1000):aj Tryz.prog G 49 [bG m x,fC L] (.au [di (aP L x).1,di (aP L x).2.1,di (aP L x).2.2]):=by
 have e:ah (exV x.k x.s x.n x.d x.pos x.kids.length (lay (bJ m) x.kids))=x:=fU hx
 refine aj.aK (ay:=abr L) (keep:=[]) follows Tryz.func49 rfl Tryz.call49 ?_
 refine aA (fun _ _ _ ZK=>(fun Za Zb=>((ZK 54 [(.slc 7 L.length (gV L))] (db (jk L))∧(((!!jk L)=true)→ZK 84 [(aB m x)] (db (kK (ah (aB m x))))))∧(((!jk L||!kK (ah (aB m x)))=true)→(((.au [(di 0),(di 0),(di 1)]):DV)=Zb))∧(((!jk L||!kK (ah (aB m x)))=false)→(ZK 85 [(aB m x),(.slc 7 L.length (gV L))] Za∧(Za:DV)=Zb)))) ((.au [(di (jl (dA L (ah (aB m x)))).fst),(di (jl (dA L (ah (aB m x)))).snd.fst),(di (jl (dA L (ah (aB m x)))).snd.snd)]):DV) ((.au [(di (aP L x).fst),(di (aP L x).snd.fst),(di (aP L x).snd.snd)]):DV)) (by kernel_rfl) ?_
 simp only[e]
 rw[WA]
 refine⟨⟨f54 hT L h hl,fun _=>f84 hT m x hx hs⟩,fun h1=>?_,fun h1=>⟨?_,?_⟩⟩
 ·rw[if_pos h1]
 ·have h2:=h1
  simp only[Bool.or_eq_false_iff,Bool.not_eq_false'] at h2
  have hsn:aV x=true:=by
   have h3:=h2.2
   unfold kK at h3
   simp only[aT] at h3
   first|exact h3.1.1|exact h3.1
  exact f85 L (Vz h2.1) hl (fun f hf=>by
   obtain ⟨i,hi,rfl⟩:=List.getElem_of_mem hf
   have:=(h i hi).ln
   rwa [List.getD,bQ hi] at this) m x hx hs hsn
 ·rw[if_neg (by rw[h1];decide)]
def qI (F:List Ft) (k:Int) (x:Ex):Ft×Int:=match zl F k x with
 | some o=>(o,0)
 | none=>(aJ,2)
noncomputable def abW (F:List Ft) (L:List Fc):aZ:=fun f a=>match f,a with
 | 15,[_,_]=>some (db (gJ F L))
 | 49,[x,_]=>some (.au [di (aP L (ah x)).1,di (aP L (ah x)).2.1,di (aP L (ah x)).2.2])
 | 50,[x,_]=>some (.au [eX (qI (bC F F.length) (aP L (ah x)).1 (ah x)).1,di (qI (bC F F.length) (aP L (ah x)).1 (ah x)).2])
 | _,_=>none
theorem aam (hT:Tab G) (F:List Ft) (L:List Fc) (h:∀i,i<L.length→sS (L.getD i aG)) (hl:L.length≤1000) (hF:F.length≤100000) (m:Nat) (x:Ex) (hx:ht x≤m) (hs:Sm x)
  (h50:gJ F L=true→(aP L x).2.2=0→aj Tryz.prog G 50 [bG m x,iJ F] (.au [eX (qI (bC F F.length) (aP L x).1 x).1,di (qI (bC F F.length) (aP L x).1 x).2])) :
  aj Tryz.prog G 13 [bG m x,iJ F,fC L] (.au [eX (dU F L x).1,di (dU F L x).2]):=by
 have er:ah (exV x.k x.s x.n x.d x.pos x.kids.length (lay (bJ m) x.kids))=x:=fU hx
 refine aj.aK (ay:=abW F L) (keep:=[]) follows Tryz.func13 rfl Tryz.call13 ?_
 refine aA (fun _ _ _ ZK=>(fun Za Zb Zc=>(ZK 15 [(.slc 6 F.length (kT F)),(.slc 7 L.length (gV L))] (db (gJ F L))∧(((!gJ F L)=true)→(((.au [Zc,(di 1)]):DV)=Zb))∧(((!gJ F L)=false)→(ZK 49 [(aB m x),(.slc 7 L.length (gV L))] (.au [(di (aP L (ah (aB m x))).fst),(di (aP L (ah (aB m x))).snd.fst),(di (aP L (ah (aB m x))).snd.snd)])∧((((aP L (ah (aB m x))).snd.snd != 0)=true)→(((.au [Zc,(di (aP L (ah (aB m x))).snd.snd)]):DV)=Zb))∧((((aP L (ah (aB m x))).snd.snd != 0)=false)→(ZK 50 [(aB m x),(.slc 6 F.length (kT F))] (.au [(.agg [(ds Za.fst.nm),(di Za.fst.kind),(di Za.fst.n),(di Za.fst.d),(db Za.fst.tr),(ds Za.fst.wd)]),(di Za.snd)])∧((.au [(.agg [(ds Za.fst.nm),(di Za.fst.kind),(di Za.fst.n),(di Za.fst.d),(db Za.fst.tr),(ds Za.fst.wd)]),(di Za.snd)]):DV)=Zb)))))) (qI (bC F F.length) (aP L (ah (aB m x))).fst (ah (aB m x))) ((.au [(eX (dU F L x).fst),(di (dU F L x).snd)]):DV) ((.agg [(ds (ByteArray.mk #[])),(di 0),(di 0),(di 0),(db false),(ds (ByteArray.mk #[]))]):DV)) (by kernel_rfl) ?_
 simp only[er]
 unfold dU
 refine⟨f15 hT F L h hl (by omega),fun h1=>?_,fun h1=>?_⟩
 ·have h1:gJ F L=false:=by simpa using h1
  rw[if_neg (by rw[h1];decide)];rfl
 have h1:gJ F L=true:=by simpa using h1
 rw[if_pos h1]
 refine⟨f49 hT m x L hx hs h hl,fun h2=>?_,fun h2=>?_⟩
 ·have h2:(aP L x).2.2≠0:=by simpa using h2
  rw[if_neg h2];rfl
 have h2:(aP L x).2.2=0:=by simpa using h2
 rw[if_pos h2]
 exact⟨h50 h1 h2,rfl⟩
abbrev Ja (f:Ft):List DV:=[ds f.nm,di f.kind,di f.n,di f.d,db f.tr,ds f.wd]
def gu (F:List Ft) (l:List Fc) (ws:List ByteArray) (y:Ex):Ft×Int:=qI F (bZ l ws y).1 y
def dVl (F:List Ft) (l:List Fc) (ws:List ByteArray) (R:DV→Ex):aZ:=fun f a=>match f,a with
 | 50,[e,_]=>some (.au [eX (gu F l ws (R e)).1,di (gu F l ws (R e)).2])
 | _,_=>none
noncomputable def TG (F:List Ft) (l:List Fc) (ws:List ByteArray):iq:={ d:=dVl F l ws ah,rows:=fun n=>Nat.beq n 18 }
abbrev QX:RK:=⟨true,32,false,none⟩
def yA (F:List Ft) (l:List Fc) (ws:List ByteArray) (x:Ex):Nat→DV:=fun i=>.agg (Ja (gu F l ws (x.kids.getD i ak)).1)
noncomputable def Y7 (L:List Ft) (F:List Ft) (l:List Fc) (ws:List ByteArray) (m:Nat) (x:Ex) (k:Nat):AS:=⟨regs Tryz.f50.ntmps [(1,.d (iJ L)),(2,.box 2 0),(4,.box 4 0),(6,.vec 900 6 0 k),(7,vi k)],[(2,l7 m x),(4,[vs .empty,vi 0,vi 0,vi 0,.d (db false),vs .empty]),(900,[.arr QX 6 (yA F l ws x)])]⟩
def zx (x:Ex) (t:Bool):Bool:=x.k==19&&!t||x.k==20&&t
theorem YS (L F:List Ft) (l:List Fc) (ws:List ByteArray) (r:DV) (m:Nat) (x:Ex) (hx:ht x≤m) (hs:Sm x)
  (h50:∀i,i<x.kids.length→aj Tryz.prog G 50 [aS m x i,iJ L] (.au [eX (gu F l ws (x.kids.getD i ak)).1,di (gu F l ws (x.kids.getD i ak)).2]))
  (hsh:1<x.kids.length→(gu F l ws (x.kids.getD 0 ak)).2=0→zx x (gu F l ws (x.kids.getD 0 ak)).1.tr=true→r=.au [eX (gu F l ws (x.kids.getD 0 ak)).1,di 0])
  (hno:∀k,k<x.kids.length→(gu F l ws (x.kids.getD k ak)).2≠0→(∀i,i<k→(gu F l ws (x.kids.getD i ak)).2=0)→(1≤k→zx x (gu F l ws (x.kids.getD 0 ak)).1.tr=false)→r=.au [eX aJ,di (gu F l ws (x.kids.getD k ak)).2])
  (hall:(∀i,i<x.kids.length→(gu F l ws (x.kids.getD i ak)).2=0)→(2≤x.kids.length→zx x (gu F l ws (x.kids.getD 0 ak)).1.tr=false)→aC Tryz.prog G [cd Tryz.f50 [1,1,1]] (Y7 L F l ws m x x.kids.length) (fF Tryz.prog Tryz.f50 r)) :
  aC Tryz.prog G [.code (aQ Tryz.f50)] (entry [bG m x,iJ L] Tryz.f50.ntmps) (fF Tryz.prog Tryz.f50 r):=by
 have hlen:=hs.len.1
 refine aK (ay:=TG F l ws) (keep:=[]) (cuts:=[]) (n:=1000) follows ?_
 refine aA (fun ZT ZW ZQ _=>ZW [cd Tryz.f50 [1,1,0,1,0],(.blk 0),cd Tryz.f50 [1,1,1]] (aI ZT []) ZQ) (by kernel_rfl) ?_
 refine aC.pre ((AS.jq.moves [(18,900)] _ rfl).trans (AS.jq.BK _ 6 900 0 (agg:=QX) (sz:=6) (f:=fun _=>.con undef) (yA F l ws x) (by kernel_rfl) (by kernel_rfl) rfl (by kernel_rfl) (fun i hi=>absurd hi (Nat.not_lt_zero _)))) ?_
 refine aC.loop (c:=dR (aQ Tryz.f50) [1,1,0,1,0,0]) (by kernel_rfl) (Y7 L F l ws m x) (fun k=>k≤x.kids.length∧(∀i,i<k→(gu F l ws (x.kids.getD i ak)).2=0)∧(2≤k→zx x (gu F l ws (x.kids.getD 0 ak)).1.tr=false)) (fun k=>x.kids.length-k) 0 ?_ ⟨Nat.zero_le _,fun i hi=>by omega,fun h=>by omega⟩ ?_
 ·refine AS.leZ [] [1] (b:=((T0∧T0∧T0∧T0∧T0∧True)∧T0∧((some [(vs (ByteArray.mk #[])),(vi 0),(vi 0),(vi 0),(vb false),(vs (ByteArray.mk #[]))]):(Option (List AV)))=(some [(vs ByteArray.empty),(vi 0),(vi 0),(vi 0),(vb false),(vs ByteArray.empty)])∧T0∧True)) (by kernel_rfl) (by kernel_rfl) ?_
  exact⟨⟨rfl,rfl,rfl,rfl,rfl,trivial⟩,rfl,rfl,rfl,trivial⟩
 ·rintro k ⟨hk,hkd,hks⟩
  by_cases hk2:k<x.kids.length
  ·have er:ah (aS m x k)=x.kids.getD k ak:=dL hx hk2
   refine aK (ay:=TG F l ws) (keep:=[]) (cuts:=[]) (n:=1000) follows ?_
   refine bW (fun ZT ZW ZQ ZK ZA _=>(fun Za Zb=>((((decide ((↑k:Int)<↑x.kids.length))=true)→((((((↑k:Int)==1&&x.k==19)=true)→(((0:Int)≤(0:Int))∧(0<(↑k:Int))))∧((((↑k:Int)==1&&!(x.k==19&&!Zb.fst.tr)&&x.k==20)=true)→(((0:Int)≤(0:Int))∧(0<(↑k:Int)))))∧((((↑k:Int)==1&&(x.k==19&&!Zb.fst.tr||x.k==20&&Zb.fst.tr))=true)→((((0:Int)≤(0:Int))∧(0<(↑k:Int)))∧((.au [(.agg [(ds Zb.fst.nm),(di Zb.fst.kind),(di Zb.fst.n),(di Zb.fst.d),(db Zb.fst.tr),(ds Zb.fst.wd)]),(di 0)]):DV)=r))∧((((↑k:Int)==1&&(x.k==19&&!Zb.fst.tr||x.k==20&&Zb.fst.tr))=false)→((((0≤(↑k:Int))∧((↑k:Int)<↑x.kids.length))∧ZK 50 [(aY m (x.kids.getD (↑k:Int).toNat ak)),(.slc 6 L.length (kT L))] (.au [(.agg [(ds Za.fst.nm),(di Za.fst.kind),(di Za.fst.n),(di Za.fst.d),(db Za.fst.tr),(ds Za.fst.wd)]),(di Za.snd)]))∧(((Za.snd != 0)=true)→(((.au [(.agg [(ds (ByteArray.mk #[])),(di 0),(di 0),(di 0),(db false),(ds (ByteArray.mk #[]))]),(di Za.snd)]):DV)=r))∧(((Za.snd != 0)=false)→(((((k+1)*64≤1099511627776)∧(k+1≤1099511627776))∧(∀(i:Nat),i<1→jW true 6 (aN true 6 [ds Za.fst.nm,di Za.fst.kind,di Za.fst.n,di Za.fst.d,DV.con (Value.bool Za.fst.tr),ds Za.fst.wd] i)=true))∧(I64 (↑k+1))∧(ZA (aI ZT [0,1,1]))))))))∧(((decide ((↑k:Int)<↑x.kids.length))=false)→ZW [cd Tryz.f50 [1,1,1]] (aI ZT [1]) ZQ))) (gu F l ws (ah (aY m (x.kids.getD (↑k:Int).toNat ak)))) (gu F l ws (x.kids.getD (0+Int.toNat 0) ak))) (by kernel_rfl) ?_
   have z0:0+Int.toNat 0=0:=rfl
   simp only[Int.toNat_natCast,er,z0]
   have hp:∀{b:Bool},((k:Int)==1&&b)=true→k=1:=fun h=>by
    simp only[aT,beq_iff_eq] at h;omega
   refine⟨fun _=>⟨⟨fun h=>?_,fun h=>?_⟩,fun h=>?_,fun h=>⟨⟨⟨by omega,by omega⟩,h50 k hk2⟩,fun h2=>?_,fun h2=>⟨⟨⟨by omega,by omega⟩,fun i hi=>(by obtain rfl:i=0:=(by omega);rfl)⟩,⟨by omega,by omega⟩,?_⟩⟩⟩,fun h=>absurd (of_decide_eq_false h) (by omega)⟩
   ·simp only[aT,beq_iff_eq] at h
    exact⟨Int.le_refl _,by omega⟩
   ·simp only[aT,beq_iff_eq] at h
    exact⟨Int.le_refl _,by omega⟩
   ·have h1:=hp h
    subst h1
    simp only[aT] at h
    exact⟨⟨Int.le_refl _,by omega⟩,(hsh hk2 (hkd 0 (by omega)) h.2).symm⟩
   ·have h2:(gu F l ws (x.kids.getD k ak)).2≠0:=by simpa using h2
    refine(hno k hk2 h2 hkd fun h1=>?_).symm
    rcases Nat.lt_or_ge 1 k with h3|h3
    ·exact hks h3
    ·obtain rfl:k=1:=by omega
     simpa [zx] using h
   ·have h2:(gu F l ws (x.kids.getD k ak)).2=0:=by simpa using h2
    refine⟨k+1,(AS.jq.moves [(71,900)] _ rfl).trans ((AS.jq.BK _ 6 900 (k+1) (agg:=QX) (sz:=6) (f:=fun i=>bif Nat.blt i k then yA F l ws x i else aN true 6 (Ja (gu F l ws (ah (aS m x k))).1) (i-k)) (yA F l ws x) (by kernel_rfl) (by kernel_rfl) rfl (by kernel_rfl) (fun i hi=>?_)).trans (.of_le ?_)),⟨hk2,fun i hi=>?_,fun h1=>?_⟩,(show x.kids.length-(k+1)<x.kids.length-k from by omega)⟩
    ·show (bif Nat.blt i k then yA F l ws x i else aN true 6 (Ja (gu F l ws (ah (aS m x k))).1) (i-k))=yA F l ws x i
     rcases Nat.lt_or_ge i k with h3|h3
     ·rw[show Nat.blt i k=true from by rw[Nat.blt_eq];exact h3];rfl
     ·obtain rfl:i=k:=by omega
      rw[er,show Nat.blt i i=false from by rw[Bool.eq_false_iff,ne_eq,Nat.blt_eq];omega,Nat.sub_self];rfl
    ·exact AS.dB (by kernel_rfl)
    ·rcases Nat.lt_or_ge i k with h3|h3
     ·exact hkd i h3
     ·obtain rfl:i=k:=by omega
      exact h2
    ·rcases Nat.lt_or_ge 1 k with h3|h3
     ·exact hks h3
     ·obtain rfl:k=1:=by omega
      simpa [zx] using h
  ·have hkn:k=x.kids.length:=by omega
   subst hkn
   refine aK (ay:=TG F l ws) (keep:=[]) (cuts:=[11]) (n:=1000) follows ?_
   refine bW (fun ZT ZW ZQ ZK ZA _=>(fun Za Zb=>((((decide ((↑x.kids.length:Int)<↑x.kids.length))=true)→((((((↑x.kids.length:Int)==1&&x.k==19)=true)→(((0:Int)≤(0:Int))∧(0<(↑x.kids.length:Int))))∧((((↑x.kids.length:Int)==1&&!(x.k==19&&!Zb.fst.tr)&&x.k==20)=true)→(((0:Int)≤(0:Int))∧(0<(↑x.kids.length:Int)))))∧((((↑x.kids.length:Int)==1&&(x.k==19&&!Zb.fst.tr||x.k==20&&Zb.fst.tr))=true)→((((0:Int)≤(0:Int))∧(0<(↑x.kids.length:Int)))∧((.au [(.agg [(ds Zb.fst.nm),(di Zb.fst.kind),(di Zb.fst.n),(di Zb.fst.d),(db Zb.fst.tr),(ds Zb.fst.wd)]),(di 0)]):DV)=r))∧((((↑x.kids.length:Int)==1&&(x.k==19&&!Zb.fst.tr||x.k==20&&Zb.fst.tr))=false)→((((0≤(↑x.kids.length:Int))∧((↑x.kids.length:Int)<↑x.kids.length))∧ZK 50 [(aY m (x.kids.getD (↑x.kids.length:Int).toNat ak)),(.slc 6 L.length (kT L))] (.au [(.agg [(ds Za.fst.nm),(di Za.fst.kind),(di Za.fst.n),(di Za.fst.d),(db Za.fst.tr),(ds Za.fst.wd)]),(di Za.snd)]))∧(((Za.snd != 0)=true)→(((.au [(.agg [(ds (ByteArray.mk #[])),(di 0),(di 0),(di 0),(db false),(ds (ByteArray.mk #[]))]),(di Za.snd)]):DV)=r))∧(((Za.snd != 0)=false)→(((((x.kids.length+1)*64≤1099511627776)∧(x.kids.length+1≤1099511627776))∧(∀(i:Nat),i<1→jW true 6 (aN true 6 [ds Za.fst.nm,di Za.fst.kind,di Za.fst.n,di Za.fst.d,DV.con (Value.bool Za.fst.tr),ds Za.fst.wd] i)=true))∧(I64 (↑x.kids.length+1))∧(ZA (aI ZT [0,1,1]))))))))∧(((decide ((↑x.kids.length:Int)<↑x.kids.length))=false)→ZW [cd Tryz.f50 [1,1,1]] (aI ZT [1]) ZQ))) (gu F l ws (ah (aY m (x.kids.getD (↑x.kids.length:Int).toNat ak)))) (gu F l ws (x.kids.getD (0+Int.toNat 0) ak))) (by kernel_rfl) ?_
   refine⟨fun h=>absurd (of_decide_eq_true h) (by omega),fun _=>?_⟩
   refine aC.weaken ?_ (hall hkd hks)
   exact AS.dB (by kernel_rfl)
noncomputable def jr (L:List Ft) (m:Nat) (x:Ex) (n:Nat) (V:Nat→Ft):AS:=⟨regs Tryz.f50.ntmps [(1,.d (iJ L)),(2,.box 2 0),(4,.box 4 0),(6,.d (.slc 6 n fun i=>.agg (Ja (V (0+i)))))],[(2,l7 m x),(4,[vs .empty,vi 0,vi 0,vi 0,.d (db false),vs .empty])]⟩
def vR (F:List Ft) (l:List Fc) (ws:List ByteArray) (x:Ex) (i:Nat):Ft:=(gu F l ws (x.kids.getD i ak)).1
theorem Yu {L F:List Ft} {l:List Fc} {ws:List ByteArray} {m:Nat} {x:Ex} {k:List It} {Q:Exit→AS→Prop} (h:aC Tryz.prog G k (jr L m x x.kids.length (vR F l ws x)) Q):aC Tryz.prog G k (Y7 L F l ws m x x.kids.length) Q:=by
 refine aC.freeze (agg:=QX) (sz:=6) (f:=yA F l ws x) 900 (by kernel_rfl) (aC.weaken ?_ h)
 refine AS.leZ [3] [] (b:=((T0∧T0∧T0∧((.d (.slc 6 x.kids.length (fun i=>yA F l ws x (0+i)))):AV)=(.d (.slc 6 x.kids.length (fun i=>DV.agg (Ja (vR F l ws x (0+i))))))∧True)∧T0∧T0∧True)) (by kernel_rfl) (by kernel_rfl) ?_
 exact⟨⟨rfl,rfl,rfl,rfl,trivial⟩,rfl,rfl,trivial⟩
noncomputable def kL:aZ:=fun f a=>match f,a with
 | 86,[fr n d,.con (.int _ e)]=>some (.au [eX (if e=0 then { eY 0 with n:=n,d:=d } else aJ),di (if e=0 then 0 else 2)])
 | 87,[.con (.bool b)]=>some (.au [eX { eY 1 with tr:=b },di 0])
 | 88,[fr a b]=>some (fr (if ok a b then -a else a) b)
 | 89,[fr a b,fr c d]=>some (lF (dG a b c d))
 | 90,[fr a b,fr c d]=>some (lF (bD a b c d))
 | 91,[fr a b,fr c d]=>some (lF (bY a b c d))
 | 92,[fr a b,fr c d]=>some (lF (dD a b c d))
 | 25,[fr a b,fr c d]=>some (.au [di (fG a b c d),db (ok2 a b c d)])
 | _,_=>none
theorem Yq (L:List Ft) (m:Nat) (x:Ex) (V:Nat→Ft) (n:Nat) (Q:Exit→AS→Prop) (h1:x.k=1→aC Tryz.prog G [cd Tryz.f50 [1,1,1,0,1,0,1,0],.blk 2,cd Tryz.f50 [1,1,1,1]] (jr L m x n V) Q) (h3:x.k=3→aC Tryz.prog G [cd Tryz.f50 [1,1,1,0,1,0,1,1,1,0],.blk 2,cd Tryz.f50 [1,1,1,1]] (jr L m x n V) Q) (h4:x.k=4→aC Tryz.prog G [cd Tryz.f50 [1,1,1,0,1,0,1,1,1,0],.blk 2,cd Tryz.f50 [1,1,1,1]] (jr L m x n V) Q) (h2:x.k=2→aC Tryz.prog G [cd Tryz.f50 [1,1,1,0,1,0,1,1,1,1,1,0,0],cd Tryz.f50 [1,1,1,0,1,0,1,1,1,1,1,0,1],.blk 2,cd Tryz.f50 [1,1,1,1]] (jr L m x n V) Q) (h5:x.k=5→aC Tryz.prog G [cd Tryz.f50 [1,1,1,0,1,0,1,1,1,1,1,1,1,0],.blk 2,cd Tryz.f50 [1,1,1,1]] (jr L m x n V) Q) (h6:x.k=6→aC Tryz.prog G [cd Tryz.f50 [1,1,1,0,1,0,1,1,1,1,1,1,1,1,1,0],.blk 2,cd Tryz.f50 [1,1,1,1]] (jr L m x n V) Q) (h7:x.k=7→aC Tryz.prog G [cd Tryz.f50 [1,1,1,0,1,0,1,1,1,1,1,1,1,1,1,1,1,0],.blk 2,cd Tryz.f50 [1,1,1,1]] (jr L m x n V) Q) (h8:x.k=8→aC Tryz.prog G [cd Tryz.f50 [1,1,1,0,1,0,1,1,1,1,1,1,1,1,1,1,1,1,1,0],.blk 2,cd Tryz.f50 [1,1,1,1]] (jr L m x n V) Q) (h9:x.k=9→aC Tryz.prog G [cd Tryz.f50 [1,1,1,0,1,0,1,1,1,1,1,1,1,1,1,1,1,1,1,1,1,0],.blk 2,cd Tryz.f50 [1,1,1,1]] (jr L m x n V) Q) (h10:x.k=10→aC Tryz.prog G [cd Tryz.f50 [1,1,1,0,1,0,1,1,1,1,1,1,1,1,1,1,1,1,1,1,1,1,1,0],.blk 2,cd Tryz.f50 [1,1,1,1]] (jr L m x n V) Q) (h11:x.k=11→aC Tryz.prog G [cd Tryz.f50 [1,1,1,0,1,0,1,1,1,1,1,1,1,1,1,1,1,1,1,1,1,1,1,0],.blk 2,cd Tryz.f50 [1,1,1,1]] (jr L m x n V) Q) (h18:x.k=18→aC Tryz.prog G [cd Tryz.f50 [1,1,1,0,1,0,1,1,1,1,1,1,1,1,1,1,1,1,1,1,1,1,1,1,1,0],.blk 2,cd Tryz.f50 [1,1,1,1]] (jr L m x n V) Q) (h19:x.k=19→aC Tryz.prog G [cd Tryz.f50 [1,1,1,0,1,0,1,1,1,1,1,1,1,1,1,1,1,1,1,1,1,1,1,1,1,1,1,0],.blk 2,cd Tryz.f50 [1,1,1,1]] (jr L m x n V) Q) (h20:x.k=20→aC Tryz.prog G [cd Tryz.f50 [1,1,1,0,1,0,1,1,1,1,1,1,1,1,1,1,1,1,1,1,1,1,1,1,1,1,1,0],.blk 2,cd Tryz.f50 [1,1,1,1]] (jr L m x n V) Q) (h12:x.k=12→aC Tryz.prog G [cd Tryz.f50 [1,1,1,0,1,0,1,1,1,1,1,1,1,1,1,1,1,1,1,1,1,1,1,1,1,1,1,1,1,0],.blk 2,cd Tryz.f50 [1,1,1,1]] (jr L m x n V) Q) (h13:x.k=13→aC Tryz.prog G [cd Tryz.f50 [1,1,1,0,1,0,1,1,1,1,1,1,1,1,1,1,1,1,1,1,1,1,1,1,1,1,1,1,1,1,1,0],.blk 2,cd Tryz.f50 [1,1,1,1]] (jr L m x n V) Q) (hc:x.k≠1→x.k≠3→x.k≠4→x.k≠2→x.k≠5→x.k≠6→x.k≠7→x.k≠8→x.k≠9→x.k≠10→x.k≠11→x.k≠18→x.k≠19→x.k≠20→x.k≠12→x.k≠13→aC Tryz.prog G [cd Tryz.f50 [1,1,1,1]] (jr L m x n V) Q):aC Tryz.prog G [cd Tryz.f50 [1,1,1]] (jr L m x n V) Q:=by
 refine aK (ay:=kL) (keep:=[]) (cuts:=[13,16,18,27,29,31,33,35,38,47,50,52,54,55]) (n:=1000) follows ?_
 refine aA (fun ZT ZW ZQ _=>((((x.k==1)=true)→ZW [cd Tryz.f50 [1,1,1,0,1,0,1,0],(.blk 2),cd Tryz.f50 [1,1,1,1]] (aI ZT [0]) ZQ)∧(((x.k==1)=false)→((((x.k==3)=true)→ZW [cd Tryz.f50 [1,1,1,0,1,0,1,1,1,0],(.blk 2),cd Tryz.f50 [1,1,1,1]] (aI ZT [1,0]) ZQ)∧(((x.k==3)=false)→((((x.k==4)=true)→ZW [cd Tryz.f50 [1,1,1,0,1,0,1,1,1,0],(.blk 2),cd Tryz.f50 [1,1,1,1]] (aI ZT [1,1,0]) ZQ)∧(((x.k==4)=false)→((((x.k==2)=true)→ZW [cd Tryz.f50 [1,1,1,0,1,0,1,1,1,1,1,0,0],cd Tryz.f50 [1,1,1,0,1,0,1,1,1,1,1,0,1],(.blk 2),cd Tryz.f50 [1,1,1,1]] (aI ZT [1,1,1,0]) ZQ)∧(((x.k==2)=false)→((((x.k==5)=true)→ZW [cd Tryz.f50 [1,1,1,0,1,0,1,1,1,1,1,1,1,0],(.blk 2),cd Tryz.f50 [1,1,1,1]] (aI ZT [1,1,1,1,0]) ZQ)∧(((x.k==5)=false)→((((x.k==6)=true)→ZW [cd Tryz.f50 [1,1,1,0,1,0,1,1,1,1,1,1,1,1,1,0],(.blk 2),cd Tryz.f50 [1,1,1,1]] (aI ZT [1,1,1,1,1,0]) ZQ)∧(((x.k==6)=false)→((((x.k==7)=true)→ZW [cd Tryz.f50 [1,1,1,0,1,0,1,1,1,1,1,1,1,1,1,1,1,0],(.blk 2),cd Tryz.f50 [1,1,1,1]] (aI ZT [1,1,1,1,1,1,0]) ZQ)∧(((x.k==7)=false)→((((x.k==8)=true)→ZW [cd Tryz.f50 [1,1,1,0,1,0,1,1,1,1,1,1,1,1,1,1,1,1,1,0],(.blk 2),cd Tryz.f50 [1,1,1,1]] (aI ZT [1,1,1,1,1,1,1,0]) ZQ)∧(((x.k==8)=false)→((((x.k==9)=true)→ZW [cd Tryz.f50 [1,1,1,0,1,0,1,1,1,1,1,1,1,1,1,1,1,1,1,1,1,0],(.blk 2),cd Tryz.f50 [1,1,1,1]] (aI ZT [1,1,1,1,1,1,1,1,0]) ZQ)∧(((x.k==9)=false)→((((x.k==10)=true)→ZW [cd Tryz.f50 [1,1,1,0,1,0,1,1,1,1,1,1,1,1,1,1,1,1,1,1,1,1,1,0],(.blk 2),cd Tryz.f50 [1,1,1,1]] (aI ZT [1,1,1,1,1,1,1,1,1,0]) ZQ)∧(((x.k==10)=false)→((((x.k==11)=true)→ZW [cd Tryz.f50 [1,1,1,0,1,0,1,1,1,1,1,1,1,1,1,1,1,1,1,1,1,1,1,0],(.blk 2),cd Tryz.f50 [1,1,1,1]] (aI ZT [1,1,1,1,1,1,1,1,1,1,0]) ZQ)∧(((x.k==11)=false)→((((x.k==18)=true)→ZW [cd Tryz.f50 [1,1,1,0,1,0,1,1,1,1,1,1,1,1,1,1,1,1,1,1,1,1,1,1,1,0],(.blk 2),cd Tryz.f50 [1,1,1,1]] (aI ZT [1,1,1,1,1,1,1,1,1,1,1,0]) ZQ)∧(((x.k==18)=false)→((((x.k==19)=true)→ZW [cd Tryz.f50 [1,1,1,0,1,0,1,1,1,1,1,1,1,1,1,1,1,1,1,1,1,1,1,1,1,1,1,0],(.blk 2),cd Tryz.f50 [1,1,1,1]] (aI ZT [1,1,1,1,1,1,1,1,1,1,1,1,0]) ZQ)∧(((x.k==19)=false)→((((x.k==20)=true)→ZW [cd Tryz.f50 [1,1,1,0,1,0,1,1,1,1,1,1,1,1,1,1,1,1,1,1,1,1,1,1,1,1,1,0],(.blk 2),cd Tryz.f50 [1,1,1,1]] (aI ZT [1,1,1,1,1,1,1,1,1,1,1,1,1,0]) ZQ)∧(((x.k==20)=false)→((((x.k==12)=true)→ZW [cd Tryz.f50 [1,1,1,0,1,0,1,1,1,1,1,1,1,1,1,1,1,1,1,1,1,1,1,1,1,1,1,1,1,0],(.blk 2),cd Tryz.f50 [1,1,1,1]] (aI ZT [1,1,1,1,1,1,1,1,1,1,1,1,1,1,0]) ZQ)∧(((x.k==12)=false)→((((x.k==13)=true)→ZW [cd Tryz.f50 [1,1,1,0,1,0,1,1,1,1,1,1,1,1,1,1,1,1,1,1,1,1,1,1,1,1,1,1,1,1,1,0],(.blk 2),cd Tryz.f50 [1,1,1,1]] (aI ZT [1,1,1,1,1,1,1,1,1,1,1,1,1,1,1,0]) ZQ)∧(((x.k==13)=false)→ZW [cd Tryz.f50 [1,1,1,1]] (aI ZT [1,1,1,1,1,1,1,1,1,1,1,1,1,1,1,1]) ZQ))))))))))))))))))))))))))))))))) (by kernel_rfl) ?_
 refine⟨fun e=>aC.weaken ?_ (h1 (eq_of_beq e)),fun n1=>⟨fun e=>aC.weaken ?_ (h3 (eq_of_beq e)),fun n3=>⟨fun e=>aC.weaken ?_ (h4 (eq_of_beq e)),fun n4=>⟨fun e=>aC.weaken ?_ (h2 (eq_of_beq e)),fun n2=>⟨fun e=>aC.weaken ?_ (h5 (eq_of_beq e)),fun n5=>⟨fun e=>aC.weaken ?_ (h6 (eq_of_beq e)),fun n6=>⟨fun e=>aC.weaken ?_ (h7 (eq_of_beq e)),fun n7=>⟨fun e=>aC.weaken ?_ (h8 (eq_of_beq e)),fun n8=>⟨fun e=>aC.weaken ?_ (h9 (eq_of_beq e)),fun n9=>⟨fun e=>aC.weaken ?_ (h10 (eq_of_beq e)),fun n10=>⟨fun e=>aC.weaken ?_ (h11 (eq_of_beq e)),fun n11=>⟨fun e=>aC.weaken ?_ (h18 (eq_of_beq e)),fun n18=>⟨fun e=>aC.weaken ?_ (h19 (eq_of_beq e)),fun n19=>⟨fun e=>aC.weaken ?_ (h20 (eq_of_beq e)),fun n20=>⟨fun e=>aC.weaken ?_ (h12 (eq_of_beq e)),fun n12=>⟨fun e=>aC.weaken ?_ (h13 (eq_of_beq e)),fun n13=>aC.weaken ?_ (hc (beq_eq_false_iff_ne.1 n1) (beq_eq_false_iff_ne.1 n3) (beq_eq_false_iff_ne.1 n4) (beq_eq_false_iff_ne.1 n2) (beq_eq_false_iff_ne.1 n5) (beq_eq_false_iff_ne.1 n6) (beq_eq_false_iff_ne.1 n7) (beq_eq_false_iff_ne.1 n8) (beq_eq_false_iff_ne.1 n9) (beq_eq_false_iff_ne.1 n10) (beq_eq_false_iff_ne.1 n11) (beq_eq_false_iff_ne.1 n18) (beq_eq_false_iff_ne.1 n19) (beq_eq_false_iff_ne.1 n20) (beq_eq_false_iff_ne.1 n12) (beq_eq_false_iff_ne.1 n13))⟩⟩⟩⟩⟩⟩⟩⟩⟩⟩⟩⟩⟩⟩⟩⟩
 all_goals refine AS.leZ [] [] (b:=((T0∧T0∧T0∧T0∧True)∧T0∧T0∧True)) (by kernel_rfl) (by kernel_rfl) ?_
 all_goals exact⟨⟨rfl,rfl,rfl,rfl,trivial⟩,rfl,rfl,trivial⟩
open Go Go.Ab
set_option maxHeartbeats 1000000
variable {G:IH}
abbrev PL:=List (Int×Int)
def Hq (add sub mul div:Int→Int→Int→Int→FE) (sum:PL→FE) (best:PL→Int) (cmp:Int→Int→Int→Int→Int) (vb:Int→Int→Bool):aZ
 | 137,[fr a b]=>some (db (vb a b))
 | 65,[fr a b]=>some (db (vb a b))
 | 88,[fr a b]=>some (fr (if vb a b then -a else a) b)
 | 76,[fr a b,fr c d]=>some (lF (add a b c d))
 | 78,[fr a b,fr c d]=>some (lF (mul a b c d))
 | 77,[fr a b,fr c d]=>some (lF (sub a b c d))
 | 89,[fr a b,fr c d]=>some (lF (add a b c d))
 | 90,[fr a b,fr c d]=>some (lF (sub a b c d))
 | 91,[fr a b,fr c d]=>some (lF (mul a b c d))
 | 145,[di a,di b]=>some (fe (red a b))
 | 81,[fr a b,fr c d]=>some (.au [di (cmp a b c d),db (vb a b&&vb c d)])
 | 25,[fr a b,fr c d]=>some (.au [di (cmp a b c d),db (vb a b&&vb c d)])
 | f,l=>ML f l
theorem f88 (a b:Int):aj Tryz.prog G 88 [fr a b] (fr (if ok a b then -a else a) b):=by
 refine aj.walk (ay:=Hq dG bD bY bY (fun _=>(0,0,0)) (fun _=>0) fG ok) (keep:=[]) follows Tryz.func88 rfl Tryz.call88 ?_
 refine aA (fun _ _ _ ZK=>(ZK 65 [(.agg [(di a),(di b)])] (db (ok a b))∧(((!ok a b)=true)→(((.agg [(di a),(di b)]):DV)=(fr (if ok a b=true then -a else a) b)))∧(((!ok a b)=false)→((iO a)∧((.agg [(di (-a)),(di b)]):DV)=(fr (if ok a b=true then -a else a) b))))) (by kernel_rfl) ?_
 refine⟨f65 a b,fun h=>?_,fun h=>?_⟩
 ·have h:ok a b=false:=by simpa using h
  simp[h]
 ·have h:ok a b=true:=by simpa using h
  have:=kR h
  exact⟨⟨by omega,by omega⟩,by simp[h]⟩
theorem f89 (a b c d:Int):aj Tryz.prog G 89 [fr a b,fr c d] (lF (dG a b c d)):=by
 refine aj.walk (ay:=Hq dG bD bY bY (fun _=>(0,0,0)) (fun _=>0) fG ok) (keep:=[]) follows Tryz.func89 rfl Tryz.call89 ?_
 refine aA (fun _ _ _ ZK=>(fun Za=>((ZK 65 [(.agg [(di a),(di b)])] (db (ok a b))∧(((!!ok a b)=true)→ZK 65 [(.agg [(di c),(di d)])] (db (ok c d))))∧(((!ok a b||!ok c d)=true)→(((.au [(.agg [(di 0),(di 0)]),(di 1)]):DV)=(lF (dG a b c d))))∧(((!ok a b||!ok c d)=false)→(((I64 (a*d))∧(I64 (c*b))∧(I64 (a*d+c*b))∧(I64 (b*d))∧ZK 145 [(di (a*d+c*b)),(di (b*d))] Za)∧(Za:DV)=(lF (dG a b c d)))))) ((.au [(.agg [(di (red (a*d+c*b) (b*d)).fst),(di (red (a*d+c*b) (b*d)).snd.fst)]),(di (red (a*d+c*b) (b*d)).snd.snd)]):DV)) (by kernel_rfl) ?_
 simp only[f65]
 cases h1:ok a b with
 | false=>simp[dG,jc,h1]
 | true=>cases h2:ok c d with
  | false=>simp[dG,jc,h1,h2]
  | true=>
   have r:=U9 h1 h2
   simp only[eG] at r
   have hbd:b*d≠0:=Int.mul_ne_zero (qL h1) (qL h2)
   have m0:=mb _ _ (okb h1).1 (okb h2).2
   have m1:=mb _ _ (okb h2).1 (okb h1).2
   have m2:=mb _ _ (okb h1).2 (okb h2).2
   have hc:=f145 (G:=G) (a*d+c*b) (b*d) hbd r.1 r.2
   simp only[dG,jc,h1,h2,eG,hbd]
   exact⟨by simp,by simp,fun _=>⟨⟨⟨by omega,by omega⟩,⟨by omega,by omega⟩,⟨by omega,by omega⟩,⟨by omega,by omega⟩,hc⟩,rfl⟩⟩
theorem WI (a b c d:Int):dG a b (if ok c d=true then -c else c) d=bD a b c d:=by
 cases h2:ok c d with
 | false=>simp[dG,bD,jc,h2]
 | true=>
  have h3:ok (-c) d=true:=by
   have:=kR h2
   simp[ok];omega
  cases h1:ok a b with
  | false=>simp[dG,bD,jc,h1]
  | true=>
   simp only[dG,bD,jc,h1,h2,h3,eG,if_true]
   rw[show a*d + -c*b=a*d-c*b by rw[Int.neg_mul];rfl]
theorem f90 (a b c d:Int):aj Tryz.prog G 90 [fr a b,fr c d] (lF (bD a b c d)):=by
 refine aj.walk (ay:=Hq dG bD bY bY (fun _=>(0,0,0)) (fun _=>0) fG ok) (keep:=[]) follows Tryz.func90 rfl Tryz.call90 ?_
 refine aA (fun _ _ _ ZK=>((ZK 88 [(.agg [(di c),(di d)])] (.agg [(di (if ok c d=true then -c else c)),(di d)])∧ZK 89 [(.agg [(di a),(di b)]),(.agg [(di (if ok c d=true then -c else c)),(di d)])] (.au [(.agg [(di (dG a b (if ok c d=true then -c else c) d).fst),(di (dG a b (if ok c d=true then -c else c) d).snd.fst)]),(di (dG a b (if ok c d=true then -c else c) d).snd.snd)]))∧((.au [(.agg [(di (dG a b (if ok c d=true then -c else c) d).fst),(di (dG a b (if ok c d=true then -c else c) d).snd.fst)]),(di (dG a b (if ok c d=true then -c else c) d).snd.snd)]):DV)=(lF (bD a b c d)))) (by kernel_rfl) ?_
 have h:=f89 (G:=G) a b (if ok c d=true then -c else c) d
 rw[WI] at h⊢
 exact⟨⟨f88 c d,h⟩,rfl⟩
theorem f91 (a b c d:Int):aj Tryz.prog G 91 [fr a b,fr c d] (lF (bY a b c d)):=by
 refine aj.walk (ay:=Hq dG bD bY bY (fun _=>(0,0,0)) (fun _=>0) fG ok) (keep:=[]) follows Tryz.func91 rfl Tryz.call91 ?_
 refine aA (fun _ _ _ ZK=>(fun Za=>((ZK 65 [(.agg [(di a),(di b)])] (db (ok a b))∧(((!!ok a b)=true)→ZK 65 [(.agg [(di c),(di d)])] (db (ok c d))))∧(((!ok a b||!ok c d)=true)→(((.au [(.agg [(di 0),(di 0)]),(di 1)]):DV)=(lF (bY a b c d))))∧(((!ok a b||!ok c d)=false)→(((I64 (a*c))∧(I64 (b*d))∧ZK 145 [(di (a*c)),(di (b*d))] Za)∧(Za:DV)=(lF (bY a b c d)))))) ((.au [(.agg [(di (red (a*c) (b*d)).fst),(di (red (a*c) (b*d)).snd.fst)]),(di (red (a*c) (b*d)).snd.snd)]):DV)) (by kernel_rfl) ?_
 simp only[f65]
 cases h1:ok a b with
 | false=>simp[bY,jc,h1]
 | true=>cases h2:ok c d with
  | false=>simp[bY,jc,h1,h2]
  | true=>
   have r:=Xd h1 h2
   simp only[eG] at r
   have hbd:b*d≠0:=Int.mul_ne_zero (qL h1) (qL h2)
   have hc:=f145 (G:=G) (a*c) (b*d) hbd r.1 r.2
   have r1:=r.1
   have r2:=r.2
   simp only[iO] at r1 r2
   simp only[bY,jc,h1,h2,eG,hbd]
   exact⟨by simp,by simp,fun _=>⟨⟨⟨by omega,by omega⟩,⟨by omega,by omega⟩,hc⟩,rfl⟩⟩
theorem f92 (a b c d:Int):aj Tryz.prog G 92 [fr a b,fr c d] (lF (dD a b c d)):=by
 refine aj.walk (ay:=Hq dG bD bY dD (fun _=>(0,0,0)) (fun _=>0) fG ok) (keep:=[]) follows Tryz.func92 rfl Tryz.call92 ?_
 refine aA (fun _ _ _ ZK=>(fun Za=>((ZK 65 [(.agg [(di a),(di b)])] (db (ok a b))∧(((!!ok a b)=true)→ZK 65 [(.agg [(di c),(di d)])] (db (ok c d))))∧(((!ok a b||!ok c d)=true)→(((.au [(.agg [(di 0),(di 0)]),(di 1)]):DV)=(lF (dD a b c d))))∧(((!ok a b||!ok c d)=false)→((((c==0)=true)→(((.au [(.agg [(di 0),(di 0)]),(di 2)]):DV)=(lF (dD a b c d))))∧(((c==0)=false)→(((I64 (a*d))∧(I64 (b*c))∧ZK 145 [(di (a*d)),(di (b*c))] Za)∧(Za:DV)=(lF (dD a b c d)))))))) ((.au [(.agg [(di (red (a*d) (b*c)).fst),(di (red (a*d) (b*c)).snd.fst)]),(di (red (a*d) (b*c)).snd.snd)]):DV)) (by kernel_rfl) ?_
 simp only[f65]
 cases h1:ok a b with
 | false=>simp[dD,jc,h1]
 | true=>cases h2:ok c d with
  | false=>simp[dD,jc,h1,h2]
  | true=>
   have r:=Vd h1 h2
   simp only[eG] at r
   have r1:=r.1
   have r2:=r.2
   simp only[iO] at r1 r2
   by_cases hc0:c=0
   ·subst hc0
    simp[dD,jc,h1,h2,eG]
   ·have hbc:b*c≠0:=Int.mul_ne_zero (qL h1) hc0
    have hc:=f145 (G:=G) (a*d) (b*c) hbc r.1 r.2
    simp only[dD,jc,h1,h2,eG,hbc]
    exact⟨by simp,by simp,fun _=>⟨fun h=>absurd (by simpa using h) hc0,fun _=>⟨⟨⟨by omega,by omega⟩,⟨by omega,by omega⟩,hc⟩,rfl⟩⟩⟩
end Go.Proofs
