import Derived.Test.YtellpkieoccljaaGreatDoorAcD
import Derived.Test.YtellpkieoccljaaGreatDoorG9
import Derived.Test.YtellpkieoccljaaGreatDoorG6
import Derived.Test.YtellpkieoccljaaGreatDoorG7
import Derived.Test.YtellpkieoccljaaGreatDoorG8
set_option autoImplicit false
namespace Go.Proofs
open Go Go.Ab Go.RowKit
set_option maxHeartbeats 4000000
set_option maxRecDepth 100000
variable {G:IH}
/-! The reference's Check. -/
theorem bad_code {R:List KR} {p:Int×Int} (h:badR R=some p):p.2≠0:=by
 induction R with
 | nil=>cases h
 | cons r R ih=>
  unfold badR at h
  by_cases hr:r.2.2≠0
  ·rw[if_pos hr] at h;cases h;exact hr
  ·rw[if_neg hr] at h;exact ih h
theorem ty_pos {l:List Fc} {ws:List ByteArray} {x:Ex} (h:(tyE l ws x).2.2=0):(tyE l ws x).2.1=x.pos:=by
 rw[tyE_eq] at h⊢
 unfold tyC at h⊢
 cases hb:badR (tyL l ws x.kids) with
 | none=>simp only[hb] at h⊢
 | some p=>
  exfalso
  simp only[hb] at h
  exact bad_code hb h
theorem exN (want:Int) (L:List Fc) (x:Ex):((nrK (tyW L x)).2.2=0∧(nrK (tyW L x)).1≠want→exM want (tyW L x)=(x.pos,5))∧
  (¬((nrK (tyW L x)).2.2=0∧(nrK (tyW L x)).1≠want)→((nrK (tyW L x)).2.2≠0→exM want (tyW L x)=((nrK (tyW L x)).2.1,(nrK (tyW L x)).2.2))∧((nrK (tyW L x)).2.2=0→xpC want (tyW L x)=0)):=by
 by_cases hc:(tyW L x).2.2=0
 ·have e:nrK (tyW L x)=((tyW L x).1,0,0):=by unfold nrK;rw[if_neg (by omega)]
  rw[e]
  refine⟨fun h=>?_,fun h=>⟨fun h1=>absurd rfl h1,fun _=>?_⟩⟩
  ·show ((tyW L x).2.1,xpC want (tyW L x))=_
   rw[ty_pos hc]
   unfold xpC
   rw[if_pos ⟨hc,h.2⟩]
  ·unfold xpC
   rw[if_neg (fun hh=>h ⟨rfl,hh.2⟩),hc]
 ·have e:nrK (tyW L x)=(0,(tyW L x).2):=by unfold nrK;rw[if_pos hc]
  rw[e]
  refine⟨fun h=>absurd h.1 hc,fun h=>⟨fun h1=>?_,fun h1=>absurd h1 hc⟩⟩
  show ((tyW L x).2.1,xpC want (tyW L x))=_
  unfold xpC
  rw[if_neg (fun hh=>hc hh.1)]
noncomputable def orc35 (L:List Fc) (R:List Rl):Oracle:=fun f a=>match f,a with
 | 54,[_]=>some (db (vfB L))
 | 115,[_]=>some (db (vaR R))
 | 85,[e,_]=>some (.tup [di (nrK (tyW L (rdE e))).1,di (nrK (tyW L (rdE e))).2.1,di (nrK (tyW L (rdE e))).2.2])
 | _,_=>none
noncomputable def S35 (L:List Fc) (R:List Rl) (k:Nat):AS:=⟨regs Tryz.f68.ntmps [(0,.d (rlsD R)),(1,.d (fcsD L)),(6,vi k)],[]⟩
noncomputable def S35b (L:List Fc) (R:List Rl) (k j:Nat):AS:=⟨regs Tryz.f68.ntmps [(0,.d (rlsD R)),(1,.d (fcsD L)),(6,vi k),(7,.box 7 0),(8,vi j)],[(7,(rlL (R.getD k rl0)).map .d)]⟩
def agJ (R:List Rl) (k j:Nat):Bool:=(decide ((j:Int)<k)&&decide ((R.getD j rl0).nm=(R.getD k rl0).nm))||decide ((R.getD j rl0).gr=(R.getD k rl0).nm)
theorem aj_hit {R:List Rl} {k j:Nat} (hk:k<R.length) (hj:j<R.length) (h:agJ R k j=true):(agB R k (R.getD k rl0).nm||gpB R (R.getD k rl0).nm)=true:=by
 unfold agJ at h
 simp only[Bool.or_eq_true,bAt,dEt] at h⊢
 rcases h with ⟨h1,h2⟩|h2
 ·refine .inl ?_
  unfold agB
  rw[List.any_eq_true]
  have h3:j<(R.take k).length:=by rw[List.length_take];omega
  refine⟨(R.take k)[j],List.getElem_mem h3,?_⟩
  rw[List.getElem_take,dEt,←h2,List.getD,gEe hj,Option.getD_some]
 ·refine .inr ?_
  unfold gpB
  rw[List.any_eq_true]
  exact⟨_,getD_mem' hj,by rw[dEt];exact h2⟩
theorem aj_none {R:List Rl} {k:Nat} (h:∀i,i<R.length→agJ R k i=false):(agB R k (R.getD k rl0).nm||gpB R (R.getD k rl0).nm)=false:=by
 rw[Bool.or_eq_false_iff]
 have e:∀i (h:i<R.length),R.getD i rl0=R[i]:=fun i h=>by rw[List.getD,gEe h];rfl
 constructor
 ·unfold agB
  rw[List.any_eq_false]
  intro r hr
  obtain ⟨i,hi,rfl⟩:=List.getElem_of_mem hr
  rw[List.length_take] at hi
  have:=h i (by omega)
  unfold agJ at this
  rw[Bool.or_eq_false_iff,decide_eq_true (by omega:(i:Int)<k),Bool.true_and] at this
  rw[List.getElem_take,←e i (by omega),this.1];decide
 ·unfold gpB
  rw[List.any_eq_false]
  intro r hr
  obtain ⟨i,hi,rfl⟩:=List.getElem_of_mem hr
  have:=h i hi
  unfold agJ at this
  rw[Bool.or_eq_false_iff] at this
  rw[←e i hi,this.2];decide
theorem vf_l {a b:Bool} (h:(!a||!b)=false):a=true:=by
 revert h;cases a<;>cases b<;>decide
theorem wds_ok {L:List Fc} (h:∀i,i<L.length→FcS (L.getD i fc0)):∀f∈L,f.words.length≤1000:=fun f hf=>by
 obtain ⟨i,hi,rfl⟩:=List.getElem_of_mem hf
 have:=(h i hi).ln
 rwa [List.getD,gEe hi] at this
theorem f68 (hT:Tab G) (L:List Fc) (R:List Rl) (h:∀i,i<L.length→FcS (L.getD i fc0)) (hl:L.length≤1000) (hR:∀i,i<R.length→RlS (R.getD i rl0)) (hn:R.length≤1000):FnOK Tryz.prog G 68 [rlsD R,fcsD L] (.tup [di (chR L R).1,di (chR L R).2]):=by
 refine FnOK.walkK (orc:=orc35 L R) (keep:=[]) follows Tryz.func68 rfl Tryz.call68 ?_
 refine of_tr (fun ZT ZW ZQ ZK=>((ZK 54 [(.slc 7 L.length (fcF L))] (db (vfB L))∧(((!!vfB L)=true)→ZK 115 [(.slc 16 R.length (rlF R))] (db (vaR R))))∧(((!vfB L||!vaR R)=true)→(((.tup [(di 0),(di 1)]):DV)=(.tup [(di (chR L R).fst),(di (chR L R).snd)])))∧(((!vfB L||!vaR R)=false)→ZW [cd Tryz.f68 [1,1,0,1,0],(.blk 0),cd Tryz.f68 [1,1,1]] (stS ZT [1]) ZQ))) (by kernel_rfl) ?_
 refine⟨⟨f54 hT L h hl,fun _=>(by rw[vaR_S hR];exact f115 hT R hR hn)⟩,fun h1=>?_,fun h1=>?_⟩
 ·unfold chR
  rw[if_pos h1]
 refine AWP.loop (c:=cAt (bodyOf Tryz.f68) [1,1,0,1,0,0]) (by kernel_rfl) (S35 L R) (fun k=>k≤R.length∧∀i,i<k→chS L R i=none) (fun k=>R.length-k) 0 ?_ ⟨Nat.zero_le _,fun i hi=>by omega⟩ ?_
 ·exact AS.leA (by kernel_rfl)
 ·rintro k ⟨hk,hkd⟩
  refine walkK (orc:=orc35 L R) (keep:=[]) (cuts:=[]) (n:=1000) follows ?_
  refine of_rd (fun ZT ZW ZQ _ _ ZR=>((((decide ((↑k:Int)<↑R.length))=true)→(((0≤(↑k:Int))∧((↑k:Int)<↑R.length))∧ZW [cd Tryz.f68 [1,1,0,1,0,0,1,0,0,1,0,1,0],(.blk 2),cd Tryz.f68 [1,1,0,1,0,0,1,0,0,1,1],(.blk 1),cd Tryz.f68 [1,1,0,1,0,0,1,1]] (stS ZT [0]) ZR))∧(((decide ((↑k:Int)<↑R.length))=false)→ZW [cd Tryz.f68 [1,1,1]] (stS ZT [1]) ZQ))) (by kernel_rfl) ?_
  refine⟨fun h2=>?_,fun h2=>?_⟩
  ·have hk2:k<R.length:=by have:=oDt h2;omega
   have hs:=hR k hk2
   refine⟨⟨by omega,by omega⟩,?_⟩
   have e1:rdE (ndX (R.getD k rl0).ma (R.getD k rl0).am)=(R.getD k rl0).am:=rdE_eq hs.ha
   have e2:rdE (ndX (R.getD k rl0).mw (R.getD k rl0).wh)=(R.getD k rl0).wh:=rdE_eq hs.hw
   have hit:∀p,chS L R k=some p→chR L R=p:=fun p hp=>by
    unfold chR
    rw[if_neg (by rw[h1];decide)]
    exact chF_hit R.length 0 k hk2 (fun j _ hj=>hkd j (by omega)) (by rw[Nat.zero_add];exact hp)
   have hru:=vaR_ru (va_of h1) _ hk2
   obtain ⟨s1,s2⟩:=ru_snd hru
   refine AWP.loop (c:=cAt (bodyOf Tryz.f68) [1,1,0,1,0,0,1,0,0,1,0,1,0,0]) (by kernel_rfl) (S35b L R k) (fun j=>j≤R.length∧∀i,i<j→agJ R k i=false) (fun j=>R.length-j) 0 ?_ ⟨Nat.zero_le _,fun i hi=>by omega⟩ ?_
   ·refine AS.leZ [] [0] (b:=((T0∧T0∧T0∧T0∧T0∧True)∧((some [(vi (R.getD (↑k:Int).toNat rl0).kind),(vs (R.getD (↑k:Int).toNat rl0).nm),(vs (R.getD (↑k:Int).toNat rl0).gr),(vi (R.getD (↑k:Int).toNat rl0).am.k),(vs (R.getD (↑k:Int).toNat rl0).am.s),(vi (R.getD (↑k:Int).toNat rl0).am.n),(vi (R.getD (↑k:Int).toNat rl0).am.d),(vi (R.getD (↑k:Int).toNat rl0).am.pos),(.d (.slc 6 (R.getD (↑k:Int).toNat rl0).am.kids.length (lay (exG (R.getD (↑k:Int).toNat rl0).ma) (R.getD (↑k:Int).toNat rl0).am.kids))),(vi (R.getD (↑k:Int).toNat rl0).wh.k),(vs (R.getD (↑k:Int).toNat rl0).wh.s),(vi (R.getD (↑k:Int).toNat rl0).wh.n),(vi (R.getD (↑k:Int).toNat rl0).wh.d),(vi (R.getD (↑k:Int).toNat rl0).wh.pos),(.d (.slc 6 (R.getD (↑k:Int).toNat rl0).wh.kids.length (lay (exG (R.getD (↑k:Int).toNat rl0).mw) (R.getD (↑k:Int).toNat rl0).wh.kids))),(vi (R.getD (↑k:Int).toNat rl0).pos)]):(Option (List AV)))=(some [(vi (R.getD k rl0).kind),(vs (R.getD k rl0).nm),(vs (R.getD k rl0).gr),(vi (R.getD k rl0).am.k),(vs (R.getD k rl0).am.s),(vi (R.getD k rl0).am.n),(vi (R.getD k rl0).am.d),(vi (R.getD k rl0).am.pos),(.d (.slc 6 (R.getD k rl0).am.kids.length (lay (exG (R.getD k rl0).ma) (R.getD k rl0).am.kids))),(vi (R.getD k rl0).wh.k),(vs (R.getD k rl0).wh.s),(vi (R.getD k rl0).wh.n),(vi (R.getD k rl0).wh.d),(vi (R.getD k rl0).wh.pos),(.d (.slc 6 (R.getD k rl0).wh.kids.length (lay (exG (R.getD k rl0).mw) (R.getD k rl0).wh.kids))),(vi (R.getD k rl0).pos)])∧True)) (by kernel_rfl) (by kernel_rfl) ?_
    exact⟨⟨rfl,rfl,rfl,rfl,rfl,trivial⟩,rfl,trivial⟩
   ·rintro j ⟨hj,hjd⟩
    refine walkK (orc:=orc35 L R) (keep:=[]) (cuts:=[]) (n:=1000) follows ?_
    refine of_rd (fun ZT ZW ZQ _ ZA _=>(fun Za=>((((decide ((↑j:Int)<↑R.length))=true)→(((((decide ((↑j:Int)<↑k))=true)→((0≤(↑j:Int))∧((↑j:Int)<↑R.length)))∧(((!(decide ((↑j:Int)<↑k)&&(R.getD (↑j:Int).toNat rl0).nm.toList==(R.getD k rl0).nm.toList))=true)→((0≤(↑j:Int))∧((↑j:Int)<↑R.length))))∧((Za=true)→(((.tup [(di (R.getD k rl0).pos),(di 6)]):DV)=(.tup [(di (chR L R).fst),(di (chR L R).snd)])))∧((Za=false)→((I64 (↑j+1))∧(ZA (stS ZT [0,1]))))))∧(((decide ((↑j:Int)<↑R.length))=false)→ZW [cd Tryz.f68 [1,1,0,1,0,0,1,0,0,1,1],(.blk 1),cd Tryz.f68 [1,1,0,1,0,0,1,1]] (stS ZT [1]) ZQ))) (decide ((↑j:Int)<↑k)&&(R.getD (↑j:Int).toNat rl0).nm.toList==(R.getD k rl0).nm.toList||(R.getD (↑j:Int).toNat rl0).gr.toList==(R.getD k rl0).nm.toList)) (by kernel_rfl) ?_
    refine⟨fun h3=>?_,fun h3=>?_⟩
    ·have hj2:j<R.length:=by have:=oDt h3;omega
     simp only[iTn,toList_beq]
     refine⟨⟨fun _=>⟨by omega,by omega⟩,fun _=>⟨by omega,by omega⟩⟩,fun h4=>?_,fun h4=>⟨⟨by omega,by omega⟩,Again.mk (j+1) ?_ ⟨hj2,fun i hi=>?_⟩ (by omega)⟩⟩
     ·rw[hit ((R.getD k rl0).pos,6) (by
       unfold chS
       rw[if_pos (aj_hit hk2 hj2 h4)])]
     ·exact AS.leA (by kernel_rfl)
     ·rcases Nat.lt_or_ge i j with h5|h5
      ·exact hjd i h5
      ·obtain rfl:i=j:=by omega
       exact h4
    ·have h3:=of_decide_eq_false h3
     refine walkK (orc:=orc35 L R) (keep:=[]) (cuts:=[]) (n:=1000) follows ?_
     refine of_rd (fun ZT _ _ ZK ZA _=>(fun Za Zb Zc Zd=>(((Zd=true)→(((.tup [(di (R.getD k rl0).pos),(di 5)]):DV)=Zc))∧((Zd=false)→(ZK 85 [(ndX (R.getD k rl0).ma (R.getD k rl0).am),(.slc 7 L.length (fcF L))] (.tup [(di Zb.fst),(di Zb.snd.fst),(di Zb.snd.snd)])∧(((Zb.snd.snd==0&&Zb.fst != 0)=true)→(((true=true)→(((.tup [(di (R.getD k rl0).am.pos),(di 5)]):DV)=Zc))∧((true=false)→(((((R.getD k rl0).wh.k==0)=true)→((I64 (↑k+1))∧(ZA (stS ZT [1,0,1,0]))))∧((((R.getD k rl0).wh.k==0)=false)→(ZK 85 [(ndX (R.getD k rl0).mw (R.getD k rl0).wh),(.slc 7 L.length (fcF L))] (.tup [(di Za.fst),(di Za.snd.fst),(di Za.snd.snd)])∧(((Za.snd.snd==0&&Za.fst != 1)=true)→(((true=true)→(((.tup [(di (R.getD k rl0).wh.pos),(di 5)]):DV)=Zc))∧((true=false)→((I64 (↑k+1))∧(ZA (stS ZT [1,0,1,1,0,1]))))))∧(((Za.snd.snd==0&&Za.fst != 1)=false)→((((Za.snd.snd != 0)=true)→(((.tup [(di Za.snd.fst),(di Za.snd.snd)]):DV)=Zc))∧(((Za.snd.snd != 0)=false)→((I64 (↑k+1))∧(ZA (stS ZT [1,0,1,1,1,1]))))))))))))∧(((Zb.snd.snd==0&&Zb.fst != 0)=false)→((((Zb.snd.snd != 0)=true)→(((.tup [(di Zb.snd.fst),(di Zb.snd.snd)]):DV)=Zc))∧(((Zb.snd.snd != 0)=false)→(((((R.getD k rl0).wh.k==0)=true)→((I64 (↑k+1))∧(ZA (stS ZT [1,1,1,0]))))∧((((R.getD k rl0).wh.k==0)=false)→(ZK 85 [(ndX (R.getD k rl0).mw (R.getD k rl0).wh),(.slc 7 L.length (fcF L))] (.tup [(di Za.fst),(di Za.snd.fst),(di Za.snd.snd)])∧(((Za.snd.snd==0&&Za.fst != 1)=true)→(((true=true)→(((.tup [(di (R.getD k rl0).wh.pos),(di 5)]):DV)=Zc))∧((true=false)→((I64 (↑k+1))∧(ZA (stS ZT [1,1,1,1,0,1]))))))∧(((Za.snd.snd==0&&Za.fst != 1)=false)→((((Za.snd.snd != 0)=true)→(((.tup [(di Za.snd.fst),(di Za.snd.snd)]):DV)=Zc))∧(((Za.snd.snd != 0)=false)→((I64 (↑k+1))∧(ZA (stS ZT [1,1,1,1,1,1])))))))))))))))) (nrK (tyW L (rdE (ndX (R.getD k rl0).mw (R.getD k rl0).wh)))) (nrK (tyW L (rdE (ndX (R.getD k rl0).ma (R.getD k rl0).am)))) ((.tup [(di (chR L R).fst),(di (chR L R).snd)]):DV) (!(R.getD k rl0).gr.toList==(ByteArray.mk #[]).toList&&(R.getD k rl0).kind != 0)) (by kernel_rfl) ?_
     simp only[e1,e2,emp_beq]
     have hno:=aj_none (R:=R) (k:=k) fun i hi=>hjd i (by omega)
     have hS:∀q:Option (Int×Int),(if (R.getD k rl0).gr.size≠0∧(R.getD k rl0).kind≠0 then some ((R.getD k rl0).pos,5)
       else if (exM 0 (tyW L (R.getD k rl0).am)).2≠0 then some (exM 0 (tyW L (R.getD k rl0).am))
       else if (R.getD k rl0).wh.k=0 then none
       else if (exM 1 (tyW L (R.getD k rl0).wh)).2≠0 then some (exM 1 (tyW L (R.getD k rl0).wh))
       else none)=q→chS L R k=q:=fun q hq=>by
      unfold chS
      rw[if_neg (by rw[hno];decide)]
      exact hq
     obtain ⟨a1,a2⟩:=exN 0 L (R.getD k rl0).am
     obtain ⟨b1,b2⟩:=exN 1 L (R.getD k rl0).wh
     have F65:=fun (x:Ex) (m:Nat) (q1:ht x≤m) (q2:Sm x) (q3:sndE x=true)=>f85 (G:=G) L (vf_of (vf_l h1)) hl (wds_ok h) m x q1 q2 q3
     have nxt:chS L R k=none→∀st:AS,st.le (S35 L R (k+1))→I64 (k+1)∧Again (S35 L R) (fun k=>k≤R.length∧∀i,i<k→chS L R i=none) (fun k=>R.length-k) k st:=fun hnn st hst=>⟨⟨by omega,by omega⟩,Again.mk (k+1) hst ⟨hk2,fun i hi=>(by
      rcases Nat.lt_or_ge i k with h8|h8
      ·exact hkd i h8
      ·obtain rfl:i=k:=by omega
       exact hnn)⟩ (by omega)⟩
     refine⟨fun h4=>?_,fun h4=>⟨F65 _ _ hs.ha hs.am s1,fun h5=>⟨fun _=>?_,fun hx=>(by cases hx)⟩,fun h5=>⟨fun h6=>?_,fun h6=>⟨fun h7=>?_,fun h7=>⟨F65 _ _ hs.hw hs.wh (s2 (by simpa using h7)),fun h8=>⟨fun _=>?_,fun hx=>(by cases hx)⟩,fun h8=>⟨fun h9=>?_,fun h9=>?_⟩⟩⟩⟩⟩⟩
     ·simp only[bAt,Bool.not_eq_true',decide_eq_false_iff_not,bne_iff_ne] at h4
      rw[hit ((R.getD k rl0).pos,5) (hS _ (by rw[if_pos h4]))]
     all_goals have g4:¬((R.getD k rl0).gr.size≠0∧(R.getD k rl0).kind≠0):=fun hh=>(by rw[Bool.eq_false_iff] at h4;exact h4 (by simpa using hh))
     ·simp only[bAt,beq_iff_eq,bne_iff_ne] at h5
      have q:=a1 h5
      have q2:xpC 0 (tyW L (R.getD k rl0).am)=5:=congrArg Prod.snd q
      rw[hit ((R.getD k rl0).am.pos,5) (hS _ (by rw[if_neg g4,if_pos (by show xpC 0 _≠0;rw[q2];decide),q]))]
     all_goals have g5:¬((nrK (tyW L (R.getD k rl0).am)).2.2=0∧(nrK (tyW L (R.getD k rl0).am)).1≠0):=fun hh=>(by rw[Bool.eq_false_iff] at h5;exact h5 (by simpa using hh))
     ·have h6:(nrK (tyW L (R.getD k rl0).am)).2.2≠0:=by simpa using h6
      have q:=(a2 g5).1 h6
      have q2:xpC 0 (tyW L (R.getD k rl0).am)=(nrK (tyW L (R.getD k rl0).am)).2.2:=congrArg Prod.snd q
      rw[hit ((nrK (tyW L (R.getD k rl0).am)).2.1,(nrK (tyW L (R.getD k rl0).am)).2.2) (hS _ (by rw[if_neg g4,if_pos (by show xpC 0 _≠0;rw[q2];exact h6),q]))]
     all_goals have q6:¬(exM 0 (tyW L (R.getD k rl0).am)).2≠0:=fun hh=>hh ((a2 g5).2 (by simpa using h6))
     ·refine nxt (hS _ (by rw[if_neg g4,if_neg q6,if_pos (by simpa using h7)])) _ ?_
      exact AS.leA (by kernel_rfl)
     all_goals have g7:¬(R.getD k rl0).wh.k=0:=by simpa using h7
     ·simp only[bAt,beq_iff_eq,bne_iff_ne] at h8
      have q:=b1 h8
      have q2:xpC 1 (tyW L (R.getD k rl0).wh)=5:=congrArg Prod.snd q
      rw[hit ((R.getD k rl0).wh.pos,5) (hS _ (by rw[if_neg g4,if_neg q6,if_neg g7,if_pos (by show xpC 1 _≠0;rw[q2];decide),q]))]
     all_goals have g8:¬((nrK (tyW L (R.getD k rl0).wh)).2.2=0∧(nrK (tyW L (R.getD k rl0).wh)).1≠1):=fun hh=>(by rw[Bool.eq_false_iff] at h8;exact h8 (by simpa using hh))
     ·have h9:(nrK (tyW L (R.getD k rl0).wh)).2.2≠0:=by simpa using h9
      have q:=(b2 g8).1 h9
      have q2:xpC 1 (tyW L (R.getD k rl0).wh)=(nrK (tyW L (R.getD k rl0).wh)).2.2:=congrArg Prod.snd q
      rw[hit ((nrK (tyW L (R.getD k rl0).wh)).2.1,(nrK (tyW L (R.getD k rl0).wh)).2.2) (hS _ (by rw[if_neg g4,if_neg q6,if_neg g7,if_pos (by show xpC 1 _≠0;rw[q2];exact h9),q]))]
     ·refine nxt (hS _ (by rw[if_neg g4,if_neg q6,if_neg g7,if_neg (fun hh=>hh ((b2 g8).2 (by simpa using h9)))])) _ ?_
      exact AS.leA (by kernel_rfl)
  ·have h2:=of_decide_eq_false h2
   refine walkK (orc:=orc35 L R) (keep:=[]) (cuts:=[]) (n:=1000) follows ?_
   refine of_tr (fun _ _ _ _=>(((.tup [(di 0),(di 0)]):DV)=(.tup [(di (chR L R).fst),(di (chR L R).snd)]))) (by kernel_rfl) ?_
   unfold chR
   rw[if_neg (by rw[h1];decide),chF_none R.length 0 fun j _ hj=>hkd j (by omega)]
/-! When rules are right. -/
def okR (L:List Fc) (r:Rl):Prop:=(r.gr.size=0∨r.kind=0)∧xpC 0 (tyW L r.am)=0∧(r.wh.k=0∨xpC 1 (tyW L r.wh)=0)
structure Good (L:List Fc) (R:List Rl):Prop where
 vf:vfB L=true
 len:R.length≤32
 rf:∀r∈R,rfB r=true
 sz:(catB R R.length).size≤16384
 nm:R.Pairwise fun a b=>a.nm≠b.nm
 gr:∀r∈R,∀q∈R,q.gr≠r.nm
 ok:∀r∈R,okR L r
theorem getD_at {R:List Rl} {i:Nat} (h:i<R.length):R.getD i rl0=R[i]:=by rw[List.getD,gEe h];rfl
theorem chS_none {L:List Fc} {R:List Rl} {i:Nat}:chS L R i=none↔agB R i (R.getD i rl0).nm=false∧gpB R (R.getD i rl0).nm=false∧okR L (R.getD i rl0):=by
 unfold chS okR
 by_cases h1:(agB R i (R.getD i rl0).nm||gpB R (R.getD i rl0).nm)=true
 ·rw[if_pos h1]
  refine⟨fun h=>(by cases h),fun h=>?_⟩
  rw[h.1,h.2.1] at h1;cases h1
 ·rw[if_neg h1]
  have h1:agB R i (R.getD i rl0).nm=false∧gpB R (R.getD i rl0).nm=false:=by
   rw[Bool.not_eq_true,Bool.or_eq_false_iff] at h1;exact h1
  by_cases h2:(R.getD i rl0).gr.size≠0∧(R.getD i rl0).kind≠0
  ·rw[if_pos h2]
   refine⟨fun h=>(by cases h),fun h=>?_⟩
   rcases h.2.2.1 with h|h
   ·exact absurd h h2.1
   ·exact absurd h h2.2
  ·rw[if_neg h2]
   have h2:(R.getD i rl0).gr.size=0∨(R.getD i rl0).kind=0:=by
    rcases Nat.eq_zero_or_pos (R.getD i rl0).gr.size with h|h
    ·exact .inl h
    ·exact .inr (Classical.byContradiction fun hk=>h2 ⟨by omega,hk⟩)
   by_cases h3:(exM 0 (tyW L (R.getD i rl0).am)).2≠0
   ·rw[if_pos h3]
    exact⟨fun h=>(by cases h),fun h=>absurd h.2.2.2.1 h3⟩
   ·rw[if_neg h3]
    have h3:xpC 0 (tyW L (R.getD i rl0).am)=0:=by simpa using h3
    by_cases h4:(R.getD i rl0).wh.k=0
    ·rw[if_pos h4]
     exact⟨fun _=>⟨h1.1,h1.2,h2,h3,.inl h4⟩,fun _=>rfl⟩
    ·rw[if_neg h4]
     by_cases h5:(exM 1 (tyW L (R.getD i rl0).wh)).2≠0
     ·rw[if_pos h5]
      refine⟨fun h=>(by cases h),fun h=>?_⟩
      rcases h.2.2.2.2 with h|h
      ·exact absurd h h4
      ·exact absurd h h5
     ·rw[if_neg h5]
      exact⟨fun _=>⟨h1.1,h1.2,h2,h3,.inr (by simpa using h5)⟩,fun _=>rfl⟩
theorem chS_code {L:List Fc} {R:List Rl} {i:Nat} {p:Int×Int} (h:chS L R i=some p):p.2≠0:=by
 unfold chS at h
 split at h
 ·cases h;exact(by decide:(6:Int)≠0)
 split at h
 ·cases h;exact(by decide:(5:Int)≠0)
 split at h
 ·rename_i h3;cases h;exact h3
 split at h
 ·cases h
 split at h
 ·rename_i h3;cases h;exact h3
 ·cases h
theorem chF_zero {L:List Fc} {R:List Rl}:∀(n i:Nat),(chF L R n i).2=0→∀j,i≤j→j<i+n→chS L R j=none
 | 0,i,_,j,h1,h2=>by omega
 | n+1,i,h,j,h1,h2=>by
  unfold chF at h
  cases hc:chS L R i with
  | some p=>simp only[hc] at h;exact absurd h (chS_code hc)
  | none=>
   simp only[hc] at h
   rcases Nat.lt_or_ge i j with h3|h3
   ·exact chF_zero n (i+1) h j h3 (by omega)
   ·obtain rfl:j=i:=by omega
    exact hc
theorem vaS_iff {R:List Rl}:vaS R=true↔R.length≤32∧(∀r∈R,rfB r=true)∧(catB R R.length).size≤16384:=by
 unfold vaS
 simp only[bAt,dEt,List.all_eq_true]
 exact⟨fun h=>⟨h.1.1,h.1.2,h.2⟩,fun h=>⟨⟨h.1,h.2.1⟩,h.2.2⟩⟩
theorem ag_iff {R:List Rl} {i:Nat} {s:ByteArray} (hi:i≤R.length):agB R i s=false↔∀j,j<i→(R.getD j rl0).nm≠s:=by
 unfold agB
 rw[List.any_eq_false]
 constructor
 ·intro h j hj
  have hl:j<(R.take i).length:=by rw[List.length_take];omega
  have:=h _ (List.getElem_mem hl)
  rw[List.getElem_take] at this
  rw[getD_at (by omega)]
  simpa using this
 ·intro h r hr
  obtain ⟨j,hj,rfl⟩:=List.getElem_of_mem hr
  rw[List.length_take] at hj
  have:=h j (by omega)
  rw[getD_at (by omega)] at this
  rw[List.getElem_take]
  simpa using this
theorem gp_iff {R:List Rl} {s:ByteArray}:gpB R s=false↔∀q∈R,q.gr≠s:=by
 unfold gpB
 rw[List.any_eq_false]
 exact⟨fun h q hq=>by simpa using h q hq,fun h q hq=>by simpa using h q hq⟩
theorem ch_good {L:List Fc} {R:List Rl} (hR:∀i,i<R.length→RlS (R.getD i rl0)):(chR L R).2=0↔Good L R:=by
 unfold chR
 have hm:∀r∈R,∃i,i<R.length∧R.getD i rl0=r:=fun r hr=>by
  obtain ⟨i,hi,rfl⟩:=List.getElem_of_mem hr
  exact⟨i,hi,getD_at hi⟩
 constructor
 ·intro h
  by_cases h1:(!vfB L||!vaR R)=true
  ·rw[if_pos h1] at h;exact absurd h (by decide)
  ·rw[if_neg h1] at h
   rw[Bool.not_eq_true] at h1
   have hv:=va_of h1
   rw[vaR_S hR,vaS_iff] at hv
   have hn:=chF_zero _ _ h
   have hS:=fun i (hi:i<R.length)=>chS_none.1 (hn i (Nat.zero_le _) (by omega))
   refine⟨vf_l h1,hv.1,hv.2.1,hv.2.2,?_,fun r hr q hq=>?_,fun r hr=>?_⟩
   ·rw[List.pairwise_iff_getElem]
    intro i j hi hj hij
    have:=(ag_iff (by omega)).1 (hS j hj).1 i hij
    rwa [getD_at hi,getD_at hj] at this
   ·obtain ⟨i,hi,rfl⟩:=hm r hr
    exact gp_iff.1 (hS i hi).2.1 q hq
   ·obtain ⟨i,hi,rfl⟩:=hm r hr
    exact(hS i hi).2.2
 ·intro g
  have hv:vaR R=true:=by rw[vaR_S hR,vaS_iff];exact⟨g.len,g.rf,g.sz⟩
  rw[if_neg (by rw[g.vf,hv];decide),chF_none]
  intro j _ hj
  have hj:j<R.length:=by omega
  rw[chS_none,ag_iff (by omega),gp_iff]
  have hmem:R.getD j rl0∈R:=getD_mem' hj
  refine⟨fun i hi=>?_,fun q hq=>g.gr _ hmem q hq,g.ok _ hmem⟩
  rw[getD_at hj,getD_at (by omega)]
  exact List.pairwise_iff_getElem.1 g.nm i j (by omega) hj hi
theorem good_type {L:List Fc} {R:List Rl} (g:Good L R) {r:Rl} (hr:r∈R):typR L r.am=(0,0,0)∧(r.wh.k≠0→typR L r.wh=(1,0,0)):=by
 have hf:=g.rf r hr
 have ho:=g.ok r hr
 unfold rfB at hf
 simp only[bAt,Bool.or_eq_true] at hf
 have key:∀(w:Int) (x:Ex),fitE x=true→xpC w (tyW L x)=0→typR L x=(w,0,0):=fun w x hx h=>by
  rw[typR_ref,if_neg (by rw[g.vf,hx];decide)]
  unfold xpC at h
  split at h
  ·cases h
  ·rename_i hc
   have h1:(tyW L x).1=w:=Classical.byContradiction fun hh=>hc ⟨h,hh⟩
   unfold nrK
   rw[if_neg (by omega),h1]
 refine⟨key 0 _ hf.1.2 ho.2.1,fun hk=>key 1 _ ?_ (ho.2.2.resolve_left hk)⟩
 rcases hf.2 with h|h
 ·unfold nonB at h
  simp only[bAt,beq_iff_eq] at h
  exact absurd h.1.1.1 hk
 ·exact h
/-! Score,by the program. -/
structure Ls where
 ap:Bool
 n:Int
 d:Int
 e:Int
 deriving DecidableEq
def lsR (F:List Ft) (r:Rl):Ls:=match (if r.wh.k=0 then some true else bvE F r.wh) with
 | none=>⟨false,0,0,2⟩
 | some false=>⟨false,0,0,0⟩
 | some true=>match nuE F r.am with
  | none=>⟨false,0,0,2⟩
  | some p=>⟨true,p.1,p.2,0⟩
abbrev lsC (r:Rl) (s:Ls):List DV:=[ds r.nm,ds r.gr,di r.kind,db s.ap,di s.n,di s.d,di s.e]
abbrev lsA (r:Rl) (s:Ls):List AV:=[vs r.nm,vs r.gr,vi r.kind,.d (db s.ap),.d (di s.n),.d (di s.d),.d (di s.e)]
abbrev rlC (r:Rl):List AV:=[vi r.kind,vs r.nm,vs r.gr,vi r.am.k,vs r.am.s,vi r.am.n,vi r.am.d,vi r.am.pos,.d (.slc 6 r.am.kids.length (lay (exG r.ma) r.am.kids)),vi r.wh.k,vs r.wh.s,vi r.wh.n,vi r.wh.d,vi r.wh.pos,.d (.slc 6 r.wh.kids.length (lay (exG r.mw) r.wh.kids)),vi r.pos]
abbrev bx67 (F:List Ft) (r:Rl) (s:Ls):List (Nat×List AV):=[(1000000,rlC r),(1000001,[.d (evD F)]),(1000002,lsA r s)]
def orcSc (t:Bool) (n d:Int):Oracle:=fun f _=>match f with
 | 47=>some (db t)
 | 46=>some (fr n d)
 | _=>none
abbrev ls0:Ls:=⟨false,0,0,0⟩
theorem f67_no {F:List Ft} {r:Rl} (hk:r.wh.k≠0) (h:FnOK Tryz.prog G 47 [evD F,exD r.mw r.wh] (db false)):FnM Tryz.prog G 67 cp59 (bx67 F r ls0) (.d (.tup [])) (bx67 F r ls0):=by
 refine FnM.walk (orc:=(orcSc false 0 0:Orc)) (keep:=[]) [] follows (by kernel_rfl) Tryz.func67 rfl Tryz.call67 ?_
 refine of_tr (fun _ _ _ ZK=>(fun Za Zb Zc=>((((r.wh.k != 0)=true)→ZK 47 [Zb,(ndX r.mw r.wh)] (db false))∧(((r.wh.k != 0&&!false)=true)→((ZS ((.d (.tup [])):AV))∧(Za:(Option (List AV)))=Za∧((some [(.d Zb)]):(Option (List AV)))=(some [(.d Zb)])∧(Zc:(Option (List AV)))=Zc∧True))∧(((r.wh.k != 0&&!false)=false)→(ZK 46 [Zb,(ndX r.ma r.am)] (.agg [(di 0),(di 0)])∧(ZS ((.d (.tup [])):AV))∧(Za:(Option (List AV)))=Za∧((some [(.d Zb)]):(Option (List AV)))=(some [(.d Zb)])∧((some [(vs r.nm),(vs r.gr),(vi r.kind),(vb true),(vi 0),(vi 0),(vi 0)]):(Option (List AV)))=Zc∧True)))) (some [(vi r.kind),(vs r.nm),(vs r.gr),(vi r.am.k),(vs r.am.s),(vi r.am.n),(vi r.am.d),(vi r.am.pos),(.d (.slc 6 r.am.kids.length (lay (exG r.ma) r.am.kids))),(vi r.wh.k),(vs r.wh.s),(vi r.wh.n),(vi r.wh.d),(vi r.wh.pos),(.d (.slc 6 r.wh.kids.length (lay (exG r.mw) r.wh.kids))),(vi r.pos)]) ((.ptr [(.mp none (tV F) (tH F))]):DV) (some [(vs r.nm),(vs r.gr),(vi r.kind),(vb false),(vi 0),(vi 0),(vi 0)])) (by kernel_rfl) ?_
 have hc:(r.wh.k != 0)=true:=bne_iff_ne.2 hk
 refine⟨fun _=>h,fun _=>⟨rfl,rfl,rfl,rfl,trivial⟩,fun c=>(by rw[hc] at c;cases c)⟩
theorem f67_yes {F:List Ft} {r:Rl} {n d:Int} (hw:r.wh.k≠0→FnOK Tryz.prog G 47 [evD F,exD r.mw r.wh] (db true)) (h:FnOK Tryz.prog G 46 [evD F,exD r.ma r.am] (fr n d)):FnM Tryz.prog G 67 cp59 (bx67 F r ls0) (.d (.tup [])) (bx67 F r ⟨true,n,d,0⟩):=by
 refine FnM.walk (orc:=(orcSc true n d:Orc)) (keep:=[]) [] follows (by kernel_rfl) Tryz.func67 rfl Tryz.call67 ?_
 refine of_tr (fun _ _ _ ZK=>(fun Za Zb Zc=>((((r.wh.k != 0)=true)→ZK 47 [Zb,(ndX r.mw r.wh)] (db true))∧(((r.wh.k != 0&&!true)=true)→((ZS ((.d (.tup [])):AV))∧(Za:(Option (List AV)))=Za∧((some [(.d Zb)]):(Option (List AV)))=(some [(.d Zb)])∧((some [(vs r.nm),(vs r.gr),(vi r.kind),(vb false),(vi 0),(vi 0),(vi 0)]):(Option (List AV)))=Zc∧True))∧(((r.wh.k != 0&&!true)=false)→(ZK 46 [Zb,(ndX r.ma r.am)] (.agg [(di n),(di d)])∧(ZS ((.d (.tup [])):AV))∧(Za:(Option (List AV)))=Za∧((some [(.d Zb)]):(Option (List AV)))=(some [(.d Zb)])∧(Zc:(Option (List AV)))=Zc∧True)))) (some [(vi r.kind),(vs r.nm),(vs r.gr),(vi r.am.k),(vs r.am.s),(vi r.am.n),(vi r.am.d),(vi r.am.pos),(.d (.slc 6 r.am.kids.length (lay (exG r.ma) r.am.kids))),(vi r.wh.k),(vs r.wh.s),(vi r.wh.n),(vi r.wh.d),(vi r.wh.pos),(.d (.slc 6 r.wh.kids.length (lay (exG r.mw) r.wh.kids))),(vi r.pos)]) ((.ptr [(.mp none (tV F) (tH F))]):DV) (some [(vs r.nm),(vs r.gr),(vi r.kind),(vb true),(vi n),(vi d),(vi 0)])) (by kernel_rfl) ?_
 refine⟨fun c=>hw (bne_iff_ne.1 c),fun c=>(by cases hh:(r.wh.k != 0)<;>rw[hh] at c<;>cases c),fun _=>⟨h,rfl,rfl,rfl,rfl,trivial⟩⟩
theorem f67_p1 {F:List Ft} {r:Rl} (hk:r.wh.k≠0) (h:FnP Tryz.prog G 47 [evD F,exD r.mw r.wh] noV):FnMP Tryz.prog G 67 cp59 (bx67 F r ls0) noV:=by
 have hc:(r.wh.k != 0)=true:=bne_iff_ne.2 hk
 refine FnMP.of_body Tryz.func67 rfl Tryz.call67 ?_
 refine walkK (orc:=(orcSc true 0 0:Orc)) (keep:=[]) (cuts:=[0]) (n:=1000) follows ?_
 refine of_tr (fun ZT ZW ZQ _=>ZW [cd Tryz.f67 [0],cd Tryz.f67 [1]] (stS ZT []) ZQ) (by kernel_rfl) ?_
 refine AWP.panic follows (orcSc true 0 0:Orc) 8 (pv:=noV) ?_ ⟨rfl,?_⟩
 ·refine of_tr (fun _ _ _ _=>(((r.wh.k != 0)=true∧FnP Tryz.prog G 47 [(.ptr [(.mp none (tV F) (tH F))]),(ndX r.mw r.wh)] noV)∧True)) (by kernel_rfl) ?_
  exact⟨⟨hc,h⟩,trivial⟩
 ·refine of_eq2 (some [(vi r.kind),(vs r.nm),(vs r.gr),(vi r.am.k),(vs r.am.s),(vi r.am.n),(vi r.am.d),(vi r.am.pos),(.d (.slc 6 r.am.kids.length (lay (exG r.ma) r.am.kids))),(vi r.wh.k),(vs r.wh.s),(vi r.wh.n),(vi r.wh.d),(vi r.wh.pos),(.d (.slc 6 r.wh.kids.length (lay (exG r.mw) r.wh.kids))),(vi r.pos)]) (some [(vs r.nm),(vs r.gr),(vi r.kind),(vb false),(vi 0),(vi 0),(vi 0)]) (fun Za Zb=>((Za:(Option (List AV)))=Za∧((some [(.d (.ptr [(.mp none (tV F) (tH F))]))]):(Option (List AV)))=(some [(.d (.ptr [(.mp none (tV F) (tH F))]))])∧(Zb:(Option (List AV)))=Zb∧True)) (by kernel_rfl) ?_
  exact⟨rfl,rfl,rfl,trivial⟩
theorem f67_p2 {F:List Ft} {r:Rl} (hw:r.wh.k≠0→FnOK Tryz.prog G 47 [evD F,exD r.mw r.wh] (db true)) (h:FnP Tryz.prog G 46 [evD F,exD r.ma r.am] noV):FnMP Tryz.prog G 67 cp59 (bx67 F r ls0) noV:=by
 refine FnMP.of_body Tryz.func67 rfl Tryz.call67 ?_
 refine walkK (orc:=(orcSc true 0 0:Orc)) (keep:=[]) (cuts:=[1]) (n:=1000) follows ?_
 refine of_tr (fun ZT ZW ZQ ZK=>(fun Za Zb Zc Zd Ze Zf Zg Zh Zi=>((((r.wh.k != 0)=true)→ZK 47 [(.ptr [(.mp none (tV F) (tH F))]),(ndX r.mw r.wh)] (db true))∧(((r.wh.k != 0&&!true)=true)→((.ret:Exit)=(.panic [(PanicEntry.mk noV false false)])∧((bif Nat.beq 1000000 1000000 then some [AV.d Zb,AV.d (ds r.nm),AV.d (ds r.gr),AV.d Zg,AV.d (ds r.am.s),AV.d Zh,AV.d Zi,AV.d Ze,AV.d Zc,vi r.wh.k,AV.d (ds r.wh.s),vi r.wh.n,vi r.wh.d,AV.d Zf,AV.d Zd,vi r.pos] else bif Nat.beq 1000001 1000000 then some [AV.d (DV.ptr [DV.mp none (tV F) (tH F)])] else bif Nat.beq 1000002 1000000 then some [AV.d (ds r.nm),AV.d (ds r.gr),AV.d Zb,AV.d (DV.con (Value.bool false)),AV.d Za,AV.d Za,AV.d Za] else none):(Option (List AV)))=(some (rlC r))∧((bif Nat.beq 1000000 1000001 then some [AV.d Zb,AV.d (ds r.nm),AV.d (ds r.gr),AV.d Zg,AV.d (ds r.am.s),AV.d Zh,AV.d Zi,AV.d Ze,AV.d Zc,vi r.wh.k,AV.d (ds r.wh.s),vi r.wh.n,vi r.wh.d,AV.d Zf,AV.d Zd,vi r.pos] else bif Nat.beq 1000001 1000001 then some [AV.d (DV.ptr [DV.mp none (tV F) (tH F)])] else bif Nat.beq 1000002 1000001 then some [AV.d (ds r.nm),AV.d (ds r.gr),AV.d Zb,AV.d (DV.con (Value.bool false)),AV.d Za,AV.d Za,AV.d Za] else none):(Option (List AV)))=(some [(.d (evD F))])∧((bif Nat.beq 1000000 1000002 then some [AV.d Zb,AV.d (ds r.nm),AV.d (ds r.gr),AV.d Zg,AV.d (ds r.am.s),AV.d Zh,AV.d Zi,AV.d Ze,AV.d Zc,vi r.wh.k,AV.d (ds r.wh.s),vi r.wh.n,vi r.wh.d,AV.d Zf,AV.d Zd,vi r.pos] else bif Nat.beq 1000001 1000002 then some [AV.d (DV.ptr [DV.mp none (tV F) (tH F)])] else bif Nat.beq 1000002 1000002 then some [AV.d (ds r.nm),AV.d (ds r.gr),AV.d Zb,AV.d (DV.con (Value.bool false)),AV.d Za,AV.d Za,AV.d Za] else none):(Option (List AV)))=(some (lsA r ls0))∧True))∧(((r.wh.k != 0&&!true)=false)→ZW [cd Tryz.f67 [1]] (stS ZT [1]) ZQ))) (di 0) (di r.kind) (DV.slc 6 r.am.kids.length (lay (exG r.ma) r.am.kids)) (DV.slc 6 r.wh.kids.length (lay (exG r.mw) r.wh.kids)) (di r.am.pos) (di r.wh.pos) (di r.am.k) (di r.am.n) (di r.am.d)) (by kernel_rfl) ?_
 refine⟨fun c=>hw (bne_iff_ne.1 c),fun c=>(by cases hh:(r.wh.k != 0)<;>rw[hh] at c<;>cases c),fun _=>?_⟩
 refine AWP.panic follows (orcSc true 0 0:Orc) 3 (pv:=noV) ?_ ⟨rfl,?_⟩
 ·refine of_tr (fun _ _ _ _=>(FnP Tryz.prog G 46 [(.ptr [(.mp none (tV F) (tH F))]),(ndX r.ma r.am)] noV∧True)) (by kernel_rfl) ?_
  exact⟨h,trivial⟩
 ·refine of_eq2 (some [(vi r.kind),(vs r.nm),(vs r.gr),(vi r.am.k),(vs r.am.s),(vi r.am.n),(vi r.am.d),(vi r.am.pos),(.d (.slc 6 r.am.kids.length (lay (exG r.ma) r.am.kids))),(vi r.wh.k),(vs r.wh.s),(vi r.wh.n),(vi r.wh.d),(vi r.wh.pos),(.d (.slc 6 r.wh.kids.length (lay (exG r.mw) r.wh.kids))),(vi r.pos)]) (some [(vs r.nm),(vs r.gr),(vi r.kind),(vb false),(vi 0),(vi 0),(vi 0)]) (fun Za Zb=>((Za:(Option (List AV)))=Za∧((some [(.d (.ptr [(.mp none (tV F) (tH F))]))]):(Option (List AV)))=(some [(.d (.ptr [(.mp none (tV F) (tH F))]))])∧(Zb:(Option (List AV)))=Zb∧True)) (by kernel_rfl) ?_
  exact⟨rfl,rfl,rfl,trivial⟩
theorem f44_rule {F:List Ft} {L:List Fc} (hfit:FitF F L) {r:Rl} (hr:RlS r) (ha:typR L r.am=(0,0,0)) (hw:r.wh.k≠0→typR L r.wh=(1,0,0)) :
  FnM Tryz.prog G 44 [.clo (.func 67) [] cp59] (bx67 (revT F F.length) r ls0) (.d (di (lsR (revT F F.length) r).e)) (bx67 (revT F F.length) r ⟨(lsR (revT F F.length) r).ap,(lsR (revT F F.length) r).n,(lsR (revT F F.length) r).d,0⟩):=by
 obtain ⟨_,asn,aty,aet⟩:=typ_sound (L:=L) (x:=r.am) (by rw[ha])
 have ak:(tyW L r.am).1=0:=by rw[aet] at ha;exact congrArg (·.1) ha
 have hN:=f46 (G:=G) hfit.fam.num r.ma r.am hr.ha hr.am asn aty ak
 have key:(r.wh.k≠0→FnOK Tryz.prog G 47 [evD (revT F F.length),exD r.mw r.wh] (db true))→lsR (revT F F.length) r=(match nuE (revT F F.length) r.am with|none=>⟨false,0,0,2⟩|some p=>⟨true,p.1,p.2,0⟩)→
   FnM Tryz.prog G 44 [.clo (.func 67) [] cp59] (bx67 (revT F F.length) r ls0) (.d (di (lsR (revT F F.length) r).e)) (bx67 (revT F F.length) r ⟨(lsR (revT F F.length) r).ap,(lsR (revT F F.length) r).n,(lsR (revT F F.length) r).d,0⟩):=fun hB e=>by
  rw[e]
  cases hn:nuE (revT F F.length) r.am with
  | some p=>exact f44_ok (f67_yes hB (hN.1 p hn))
  | none=>exact f44_pan (f67_p2 hB (hN.2 hn))
 by_cases hk:r.wh.k=0
 ·exact key (fun c=>absurd hk c) (by unfold lsR;rw[if_pos hk])
 ·have hw:=hw hk
  obtain ⟨_,wsn,wty,wet⟩:=typ_sound (L:=L) (x:=r.wh) (by rw[hw])
  have wk:(tyW L r.wh).1=1:=by rw[wet] at hw;exact congrArg (·.1) hw
  obtain ⟨b1,b2⟩:=f47 (G:=G) hfit.fam hfit.knf r.mw r.wh hr.hw hr.wh wsn wty wk
  cases hv:bvE (revT F F.length) r.wh with
  | none=>
   have e:lsR (revT F F.length) r=⟨false,0,0,2⟩:=by unfold lsR;rw[if_neg hk,hv]
   rw[e]
   exact f44_pan (f67_p1 hk (b2 hv))
  | some v=>
   cases v with
   | false=>
    have e:lsR (revT F F.length) r=⟨false,0,0,0⟩:=by unfold lsR;rw[if_neg hk,hv]
    rw[e]
    exact f44_ok (f67_no hk (b1 false hv))
   | true=>exact key (fun _=>b1 true hv) (by unfold lsR;rw[if_neg hk,hv])
abbrev lnRK:RK:=⟨true,64,false,none⟩
def lsF (F:List Ft) (R:List Rl) (i:Nat):DV:=.agg (lsC (R.getD i rl0) (lsR F (R.getD i rl0)))
noncomputable def d29 (F:List Ft) (L:List Fc) (R:List Rl):Oracle:=fun f a=>match f,a with
 | 14,[_,_]=>some (db (vaF F L))
 | 66,[_,_]=>some (.tup [di (chR L R).1,di (chR L R).2])
 | 43,[_]=>some (evD (revT F F.length))
 | _,_=>none
def m29 (s:Ls):FuncId→List AV→List (Nat×List AV)→Option (AV×List (Nat×List AV)):=fun f a pre=>match f,a,pre with
 | 44,[.clo (.func 67) _ _],[a,b,(u,n :: g :: k :: _)]=>some (.d (di s.e),[a,b,(u,[n,g,k,.d (db s.ap),.d (di s.n),.d (di s.d),.d (di 0)])])
 | _,_,_=>none
noncomputable def orc29 (F:List Ft) (L:List Fc) (R:List Rl) (s:Ls):Orc:={ d:=d29 F L R,m:=m29 s,rows:=fun n=>Nat.beq n 48 }
noncomputable def S29 (F:List Ft) (R:List Rl) (k:Nat):AS:=⟨regs Tryz.f29.ntmps [(10,.box 10 0),(11,.vec 900 7 0 k),(30,.d (rlsD R)),(31,vi R.length),(32,vi k)],[(10,[.d (evD (revT F F.length))]),(900,[.arr lnRK 7 (lsF (revT F F.length) R)])]⟩
def scE (F:List Ft) (L:List Fc) (R:List Rl):Int:=if vaF F L=true then (chR L R).2 else 1
theorem f29 (hT:Tab G) (F:List Ft) (L:List Fc) (R:List Rl) (h:∀i,i<L.length→FcS (L.getD i fc0)) (hl:L.length≤1000) (hF:F.length≤100000) (hR:∀i,i<R.length→RlS (R.getD i rl0)) (hn:R.length≤1000) :
  (scE F L R=0→FnOK Tryz.prog G 29 [rlsD R,ftsD F,fcsD L] (.tup [.slc 7 R.length (lsF (revT F F.length) R),di 0]))∧(scE F L R≠0→FnOK Tryz.prog G 29 [rlsD R,ftsD F,fcsD L] (.tup [.con (.slice none 0 0),di (scE F L R)])):=by
 constructor
 ·intro he
  have h1:vaF F L=true:=by
   unfold scE at he
   by_cases hh:vaF F L=true
   ·exact hh
   ·rw[if_neg hh] at he;cases he
  have h2:(chR L R).2=0:=by unfold scE at he;rwa [if_pos h1] at he
  have hg:=(ch_good hR).1 h2
  have hfit:=fit_of h1
  refine FnOK.walkK (orc:=orc29 F L R ls0) (keep:=[]) follows Tryz.func29 rfl Tryz.call29 ?_
  refine of_tr (fun ZT ZW ZQ ZK=>(ZK 14 [(.slc 6 F.length (ftF F)),(.slc 7 L.length (fcF L))] (db (vaF F L))∧(((!vaF F L)=true)→(((.tup [(.con (.slice none 0 0)),(di 1)]):DV)=(.tup [(.slc 7 R.length (lsF (revT F F.length) R)),(di 0)])))∧(((!vaF F L)=false)→(ZK 66 [(.slc 16 R.length (rlF R)),(.slc 7 L.length (fcF L))] (.tup [(di (chR L R).fst),(di (chR L R).snd)])∧((((chR L R).snd != 0)=true)→(((.tup [(.con (.slice none 0 0)),(di (chR L R).snd)]):DV)=(.tup [(.slc 7 R.length (lsF (revT F F.length) R)),(di 0)])))∧((((chR L R).snd != 0)=false)→(ZK 43 [(.slc 6 F.length (ftF F))] (.ptr [(.mp none (tV (revT F F.length)) (tH (revT F F.length)))])∧ZW [cd Tryz.f29 [1,1,1,1,1,0,1,0],(.blk 0),cd Tryz.f29 [1,1,1,1,1,1]] (stS ZT [1,1]) ZQ)))))) (by kernel_rfl) ?_
  refine⟨f14 hT F L h hl (by omega),fun c=>(by rw[h1] at c;cases c),fun _=>⟨f66 hT L R h hl hR hn,fun c=>absurd h2 (bne_iff_ne.1 c),fun _=>⟨f43 F hF,?_⟩⟩⟩
  refine AWP.pre (.nilRow _ 11 900 7 lnRK (lsF (revT F F.length) R) (by kernel_rfl) (by kernel_rfl)) ?_
  refine AWP.loop (c:=cAt (bodyOf Tryz.f29) [1,1,1,1,1,0,1,0,0]) (by kernel_rfl) (S29 F R) (fun k=>k≤R.length) (fun k=>R.length-k) 0 ?_ (Nat.zero_le _) ?_
  ·exact AS.leA (by kernel_rfl)
  ·intro k hk
   by_cases hk2:k<R.length
   ·refine walkK (orc:=orc29 F L R (lsR (revT F F.length) (R.getD k rl0))) (keep:=[]) (cuts:=[]) (n:=1000) follows ?_
    refine of_rd (fun ZT ZW ZQ _ ZA _=>(fun Za Zb Zc Zd Ze Zf=>((((decide ((↑k:Int)<↑R.length))=true)→(((0≤(↑k:Int))∧((↑k:Int)<↑R.length))∧FnM Tryz.prog G 44 [(.clo (.func 67) [] [(.box 1000000 0),(.box 1000001 0),(.box 1000002 0)])] [(1000000,[Zc,Zd,Ze,(vi (R.getD (↑k:Int).toNat rl0).am.k),(vs (R.getD (↑k:Int).toNat rl0).am.s),(vi (R.getD (↑k:Int).toNat rl0).am.n),(vi (R.getD (↑k:Int).toNat rl0).am.d),(vi (R.getD (↑k:Int).toNat rl0).am.pos),Za,(vi (R.getD (↑k:Int).toNat rl0).wh.k),(vs (R.getD (↑k:Int).toNat rl0).wh.s),(vi (R.getD (↑k:Int).toNat rl0).wh.n),(vi (R.getD (↑k:Int).toNat rl0).wh.d),(vi (R.getD (↑k:Int).toNat rl0).wh.pos),Zb,(vi (R.getD (↑k:Int).toNat rl0).pos)]),(1000001,[(.d (.ptr [(.mp none (tV (revT F F.length)) (tH (revT F F.length)))]))]),(1000002,[Zd,Ze,Zc,(vb false),(vi 0),(vi 0),(vi 0)])] (vi Zf.e) [(1000000,[Zc,Zd,Ze,(vi (R.getD (↑k:Int).toNat rl0).am.k),(vs (R.getD (↑k:Int).toNat rl0).am.s),(vi (R.getD (↑k:Int).toNat rl0).am.n),(vi (R.getD (↑k:Int).toNat rl0).am.d),(vi (R.getD (↑k:Int).toNat rl0).am.pos),Za,(vi (R.getD (↑k:Int).toNat rl0).wh.k),(vs (R.getD (↑k:Int).toNat rl0).wh.s),(vi (R.getD (↑k:Int).toNat rl0).wh.n),(vi (R.getD (↑k:Int).toNat rl0).wh.d),(vi (R.getD (↑k:Int).toNat rl0).wh.pos),Zb,(vi (R.getD (↑k:Int).toNat rl0).pos)]),(1000001,[(.d (.ptr [(.mp none (tV (revT F F.length)) (tH (revT F F.length)))]))]),(1000002,[Zd,Ze,Zc,(vb Zf.ap),(vi Zf.n),(vi Zf.d),(vi 0)])]∧(((k+1)*72≤1099511627776)∧(k+1≤1099511627776))∧(I64 (↑k+1))∧(ZA (stS ZT [0]))))∧(((decide ((↑k:Int)<↑R.length))=false)→ZW [cd Tryz.f29 [1,1,1,1,1,1]] (stS ZT [1]) ZQ))) ((.d (.slc 6 (R.getD (↑k:Int).toNat rl0).am.kids.length (lay (exG (R.getD (↑k:Int).toNat rl0).ma) (R.getD (↑k:Int).toNat rl0).am.kids))):AV) ((.d (.slc 6 (R.getD (↑k:Int).toNat rl0).wh.kids.length (lay (exG (R.getD (↑k:Int).toNat rl0).mw) (R.getD (↑k:Int).toNat rl0).wh.kids))):AV) (vi (R.getD (↑k:Int).toNat rl0).kind) (vs (R.getD (↑k:Int).toNat rl0).nm) (vs (R.getD (↑k:Int).toNat rl0).gr) (lsR (revT F F.length) (R.getD k rl0))) (by kernel_rfl) ?_
    have hm:R.getD k rl0∈R:=getD_mem (x0:=rl0) hk2
    obtain ⟨ta,tw⟩:=good_type hg hm
    have hcl:=f44_rule (G:=G) hfit (hR k hk2) ta tw
    refine⟨fun _=>⟨⟨by omega,by omega⟩,hcl,⟨by omega,by omega⟩,⟨by omega,by omega⟩,?_⟩,fun h=>absurd (of_decide_eq_false h) (by omega)⟩
    refine⟨k+1,(AS.leX.moves [(49,900)] _ rfl).trans ((AS.leX.rowF _ 11 900 (k+1) (agg:=lnRK) (sz:=7) (f:=fun i=>bif Nat.blt i k then lsF (revT F F.length) R i else elemF true 7 (lsC (R.getD k rl0) (lsR (revT F F.length) (R.getD k rl0))) (0+(i-k))) (lsF (revT F F.length) R) (by kernel_rfl) (by kernel_rfl) rfl (by kernel_rfl) (fun i hi=>?_)).trans (.of_le ?_)),hk2,(show R.length-(k+1)<R.length-k from by omega)⟩
    ·rcases Nat.lt_or_ge i k with h3|h3
     ·rw[show Nat.blt i k=true from by rw[Nat.blt_eq];exact h3];rfl
     ·obtain rfl:i=k:=by omega
      rw[show Nat.blt i i=false from by rw[Bool.eq_false_iff,ne_eq,Nat.blt_eq];omega,Nat.sub_self];rfl
    ·exact AS.leA (by kernel_rfl)
   ·obtain rfl:k=R.length:=by omega
    refine walkK (orc:=orc29 F L R ls0) (keep:=[]) (cuts:=[]) (n:=1000) follows ?_
    refine of_rd (fun ZT ZW ZQ _ ZA _=>(fun Za=>((((decide ((↑R.length:Int)<↑R.length))=true)→(((0≤(↑R.length:Int))∧((↑R.length:Int)<↑R.length))∧FnM Tryz.prog G 44 [(.clo (.func 67) [] [(.box 1000000 0),(.box 1000001 0),(.box 1000002 0)])] [(1000000,[(vi Za.kind),(vs Za.nm),(vs Za.gr),(vi Za.am.k),(vs Za.am.s),(vi Za.am.n),(vi Za.am.d),(vi Za.am.pos),(.d (.slc 6 Za.am.kids.length (lay (exG Za.ma) Za.am.kids))),(vi Za.wh.k),(vs Za.wh.s),(vi Za.wh.n),(vi Za.wh.d),(vi Za.wh.pos),(.d (.slc 6 Za.wh.kids.length (lay (exG Za.mw) Za.wh.kids))),(vi Za.pos)]),(1000001,[(.d (.ptr [(.mp none (tV (revT F F.length)) (tH (revT F F.length)))]))]),(1000002,[(vs Za.nm),(vs Za.gr),(vi Za.kind),(vb false),(vi 0),(vi 0),(vi 0)])] (vi 0) [(1000000,[(vi Za.kind),(vs Za.nm),(vs Za.gr),(vi Za.am.k),(vs Za.am.s),(vi Za.am.n),(vi Za.am.d),(vi Za.am.pos),(.d (.slc 6 Za.am.kids.length (lay (exG Za.ma) Za.am.kids))),(vi Za.wh.k),(vs Za.wh.s),(vi Za.wh.n),(vi Za.wh.d),(vi Za.wh.pos),(.d (.slc 6 Za.wh.kids.length (lay (exG Za.mw) Za.wh.kids))),(vi Za.pos)]),(1000001,[(.d (.ptr [(.mp none (tV (revT F F.length)) (tH (revT F F.length)))]))]),(1000002,[(vs Za.nm),(vs Za.gr),(vi Za.kind),(vb false),(vi 0),(vi 0),(vi 0)])]∧(((R.length+1)*72≤1099511627776)∧(R.length+1≤1099511627776))∧(I64 (↑R.length+1))∧(ZA (stS ZT [0]))))∧(((decide ((↑R.length:Int)<↑R.length))=false)→ZW [cd Tryz.f29 [1,1,1,1,1,1]] (stS ZT [1]) ZQ))) (R.getD (↑R.length:Int).toNat rl0)) (by kernel_rfl) ?_
    refine⟨fun h=>absurd (oDt h) (by omega),fun _=>?_⟩
    refine walkK (orc:=orc29 F L R ls0) (keep:=[]) (cuts:=[]) (n:=1000) follows ?_
    refine of_tr (fun _ _ _ _=>(((.tup [(.slc 7 R.length (fun i=>lsF (revT F F.length) R (0+i))),(di 0)]):DV)=(.tup [(.slc 7 R.length (lsF (revT F F.length) R)),(di 0)]))) (by kernel_rfl) ?_
    rw[show (fun i=>lsF (revT F F.length) R (0+i))=lsF (revT F F.length) R from funext fun i=>by rw[Nat.zero_add]]
 ·intro he
  refine FnOK.walkK (orc:=orc29 F L R ls0) (keep:=[]) follows Tryz.func29 rfl Tryz.call29 ?_
  refine of_tr (fun ZT ZW ZQ ZK=>(ZK 14 [(.slc 6 F.length (ftF F)),(.slc 7 L.length (fcF L))] (db (vaF F L))∧(((!vaF F L)=true)→(((.tup [(.con (.slice none 0 0)),(di 1)]):DV)=(.tup [(.con (.slice none 0 0)),(di (scE F L R))])))∧(((!vaF F L)=false)→(ZK 66 [(.slc 16 R.length (rlF R)),(.slc 7 L.length (fcF L))] (.tup [(di (chR L R).fst),(di (chR L R).snd)])∧((((chR L R).snd != 0)=true)→(((.tup [(.con (.slice none 0 0)),(di (chR L R).snd)]):DV)=(.tup [(.con (.slice none 0 0)),(di (scE F L R))])))∧((((chR L R).snd != 0)=false)→(ZK 43 [(.slc 6 F.length (ftF F))] (.ptr [(.mp none (tV (revT F F.length)) (tH (revT F F.length)))])∧ZW [cd Tryz.f29 [1,1,1,1,1,0,1,0],(.blk 0),cd Tryz.f29 [1,1,1,1,1,1]] (stS ZT [1,1]) ZQ)))))) (by kernel_rfl) ?_
  refine⟨f14 hT F L h hl (by omega),fun c=>?_,fun c=>⟨f66 hT L R h hl hR hn,fun c2=>?_,fun c2=>?_⟩⟩
  ·unfold scE;rw[if_neg (by intro hh;rw[hh] at c;cases c)]
  ·unfold scE;rw[if_pos (by simpa using c)]
  ·exact absurd (by unfold scE;rw[if_pos (by simpa using c)];simpa using c2) he
/-! Score,by the reference. -/
abbrev kwR (F:List Ft) (L:List Fc) (y:Ex):Ft×Int:=kvR (revT F F.length) (revF L L.length) (revW L L.length) y
noncomputable def d30 (F:List Ft) (L:List Fc) (R:List Rl):Oracle:=fun f a=>match f,a with
 | 15,[_,_]=>some (db (vaF F L))
 | 68,[_,_]=>some (.tup [di (chR L R).1,di (chR L R).2])
 | 50,[e,_]=>some (.tup [ftD (kvR (revT F F.length) (revF L L.length) (revW L L.length) (rdE e)).1,di (kvR (revT F F.length) (revF L L.length) (revW L L.length) (rdE e)).2])
 | _,_=>none
noncomputable def orc30 (F:List Ft) (L:List Fc) (R:List Rl):Orc:={ d:=d30 F L R,rows:=fun n=>Nat.beq n 31||Nat.beq n 85 }
noncomputable def S30 (F:List Ft) (R:List Rl) (k:Nat):AS:=⟨regs Tryz.f30.ntmps [(0,.d (rlsD R)),(1,.d (ftsD F)),(10,.vec 900 7 0 k),(11,vi k)],[(900,[.arr lnRK 7 (lsF (revT F F.length) R)])]⟩
theorem ls_ref {F:List Ft} {L:List Fc} {r:Rl} (ha:typR L r.am=(0,0,0)) (hw:r.wh.k≠0→typR L r.wh=(1,0,0)) :
  (r.wh.k=0→lsR (revT F F.length) r=⟨decide ((kwR F L r.am).2=0),(kwR F L r.am).1.n,(kwR F L r.am).1.d,(kwR F L r.am).2⟩)∧
  (r.wh.k≠0→lsR (revT F F.length) r=if (kwR F L r.wh).2=0∧(kwR F L r.wh).1.tr=true then ⟨decide ((kwR F L r.am).2=0),(kwR F L r.am).1.n,(kwR F L r.am).1.d,(kwR F L r.am).2⟩ else ⟨false,0,0,(kwR F L r.wh).2⟩):=by
 obtain ⟨_,_,_,aet⟩:=typ_sound (L:=L) (x:=r.am) (by rw[ha])
 have ak:(tyE (revF L L.length) (revW L L.length) r.am).1=0:=by rw[aet] at ha;exact congrArg (·.1) ha
 have ea:(match nuE (revT F F.length) r.am with|none=>(⟨false,0,0,2⟩:Ls)|some p=>⟨true,p.1,p.2,0⟩)=⟨decide ((kwR F L r.am).2=0),(kwR F L r.am).1.n,(kwR F L r.am).1.d,(kwR F L r.am).2⟩:=by
  unfold kwR kvR
  rw[ak,vlR_num]
  cases nuE (revT F F.length) r.am<;>rfl
 constructor
 ·intro hk
  unfold lsR
  rw[if_pos hk]
  exact ea
 ·intro hk
  have hw:=hw hk
  obtain ⟨_,_,_,wet⟩:=typ_sound (L:=L) (x:=r.wh) (by rw[hw])
  have wk:(tyE (revF L L.length) (revW L L.length) r.wh).1=1:=by rw[wet] at hw;exact congrArg (·.1) hw
  have ew:kwR F L r.wh=match bvE (revT F F.length) r.wh with|some b=>({ ftK 1 with tr:=b },0)|none=>(ft0,2):=by
   unfold kwR kvR
   rw[wk,vlR_tr];try rfl
  unfold lsR
  rw[if_neg hk,ew]
  cases hv:bvE (revT F F.length) r.wh with
  | none=>rfl
  | some b=>
   cases b with
   | false=>rfl
   | true=>exact ea
theorem f30 (hT:Tab G) (F:List Ft) (L:List Fc) (R:List Rl) (h:∀i,i<L.length→FcS (L.getD i fc0)) (hl:L.length≤1000) (hF:F.length≤100000) (hR:∀i,i<R.length→RlS (R.getD i rl0)) (hn:R.length≤1000) :
  (scE F L R=0→FnOK Tryz.prog G 30 [rlsD R,ftsD F,fcsD L] (.tup [.slc 7 R.length (lsF (revT F F.length) R),di 0]))∧(scE F L R≠0→FnOK Tryz.prog G 30 [rlsD R,ftsD F,fcsD L] (.tup [.con (.slice none 0 0),di (scE F L R)])):=by
 constructor
 ·intro he
  have h1:vaF F L=true:=by
   unfold scE at he
   by_cases hh:vaF F L=true
   ·exact hh
   ·rw[if_neg hh] at he;cases he
  have h2:(chR L R).2=0:=by unfold scE at he;rwa [if_pos h1] at he
  have hg:=(ch_good hR).1 h2
  have hfit:=fit_of h1
  refine FnOK.walkK (orc:=orc30 F L R) (keep:=[]) follows Tryz.func30 rfl Tryz.call30 ?_
  refine of_tr (fun ZT ZW ZQ ZK=>(ZK 15 [(.slc 6 F.length (ftF F)),(.slc 7 L.length (fcF L))] (db (vaF F L))∧(((!vaF F L)=true)→(((.tup [(.con (.slice none 0 0)),(di 1)]):DV)=(.tup [(.slc 7 R.length (lsF (revT F F.length) R)),(di 0)])))∧(((!vaF F L)=false)→(ZK 68 [(.slc 16 R.length (rlF R)),(.slc 7 L.length (fcF L))] (.tup [(di (chR L R).fst),(di (chR L R).snd)])∧((((chR L R).snd != 0)=true)→(((.tup [(.con (.slice none 0 0)),(di (chR L R).snd)]):DV)=(.tup [(.slc 7 R.length (lsF (revT F F.length) R)),(di 0)])))∧((((chR L R).snd != 0)=false)→ZW [cd Tryz.f30 [1,1,1,1,0,1,0],(.blk 0),cd Tryz.f30 [1,1,1,1,1]] (stS ZT [1,1]) ZQ))))) (by kernel_rfl) ?_
  refine⟨f15 hT F L h hl (by omega),fun c=>(by rw[h1] at c;cases c),fun _=>⟨f68 hT L R h hl hR hn,fun c=>absurd h2 (bne_iff_ne.1 c),fun _=>?_⟩⟩
  refine AWP.pre ((AS.leX.moves [(31,900)] _ rfl).trans (AS.leX.rowF _ 10 900 0 (agg:=lnRK) (sz:=7) (f:=fun _=>.con undef) (lsF (revT F F.length) R) (by kernel_rfl) (by kernel_rfl) rfl (by kernel_rfl) (fun i hi=>absurd hi (Nat.not_lt_zero _)))) ?_
  refine AWP.loop (c:=cAt (bodyOf Tryz.f30) [1,1,1,1,0,1,0,0]) (by kernel_rfl) (S30 F R) (fun k=>k≤R.length) (fun k=>R.length-k) 0 ?_ (Nat.zero_le _) ?_
  ·exact AS.leA (by kernel_rfl)
  ·intro k hk
   by_cases hk2:k<R.length
   ·refine walkK (orc:=orc30 F L R) (keep:=[]) (cuts:=[]) (n:=1000) follows ?_
    refine of_rd (fun ZT ZW ZQ ZK ZA _=>(fun Za Zb Zc=>((((decide ((↑k:Int)<↑R.length))=true)→(((0≤(↑k:Int))∧((↑k:Int)<↑R.length))∧((((R.getD (↑k:Int).toNat rl0).wh.k != 0)=true)→(ZK 50 [(ndX (R.getD (↑k:Int).toNat rl0).mw (R.getD (↑k:Int).toNat rl0).wh),(.slc 6 F.length (ftF F))] (.tup [(.agg [(ds Zb.fst.nm),(di Zb.fst.kind),(di Zb.fst.n),(di Zb.fst.d),(db Zb.fst.tr),(ds Zb.fst.wd)]),(di Zb.snd)])∧(((Zb.snd==0&&Zb.fst.tr)=true)→(ZK 50 [Zc,(.slc 6 F.length (ftF F))] (.tup [(.agg [(ds Za.fst.nm),(di Za.fst.kind),(di Za.fst.n),(di Za.fst.d),(db Za.fst.tr),(ds Za.fst.wd)]),(di Za.snd)])∧(((k+1)*72≤1099511627776)∧(k+1≤1099511627776))∧(I64 (↑k+1))∧(ZA (stS ZT [0,0,0]))))∧(((Zb.snd==0&&Zb.fst.tr)=false)→((((k+1)*72≤1099511627776)∧(k+1≤1099511627776))∧(I64 (↑k+1))∧(ZA (stS ZT [0,0,1]))))))∧((((R.getD (↑k:Int).toNat rl0).wh.k != 0)=false)→(((true=true)→(ZK 50 [Zc,(.slc 6 F.length (ftF F))] (.tup [(.agg [(ds Za.fst.nm),(di Za.fst.kind),(di Za.fst.n),(di Za.fst.d),(db Za.fst.tr),(ds Za.fst.wd)]),(di Za.snd)])∧(((k+1)*72≤1099511627776)∧(k+1≤1099511627776))∧(I64 (↑k+1))∧(ZA (stS ZT [0,1,0]))))∧((true=false)→((((k+1)*72≤1099511627776)∧(k+1≤1099511627776))∧(I64 (↑k+1))∧(ZA (stS ZT [0,1,1]))))))))∧(((decide ((↑k:Int)<↑R.length))=false)→ZW [cd Tryz.f30 [1,1,1,1,1]] (stS ZT [1]) ZQ))) (kvR (revT F F.length) (revF L L.length) (revW L L.length) (rdE (ndX (R.getD (↑k:Int).toNat rl0).ma (R.getD (↑k:Int).toNat rl0).am))) (kvR (revT F F.length) (revF L L.length) (revW L L.length) (rdE (ndX (R.getD (↑k:Int).toNat rl0).mw (R.getD (↑k:Int).toNat rl0).wh))) (ndX (R.getD (↑k:Int).toNat rl0).ma (R.getD (↑k:Int).toNat rl0).am)) (by kernel_rfl) ?_
    have hm:R.getD k rl0∈R:=getD_mem (x0:=rl0) hk2
    obtain ⟨ta,tw⟩:=good_type hg hm
    have hs:=hR k hk2
    obtain ⟨q1,q2⟩:=ls_ref (F:=F) ta tw
    have e1:rdE (exD (R.getD k rl0).ma (R.getD k rl0).am)=(R.getD k rl0).am:=rdE_eq hs.ha
    have e2:rdE (exD (R.getD k rl0).mw (R.getD k rl0).wh)=(R.getD k rl0).wh:=rdE_eq hs.hw
    have va:FnOK Tryz.prog G 50 [exD (R.getD k rl0).ma (R.getD k rl0).am,ftsD F] (.tup [ftD (kwR F L (rdE (exD (R.getD k rl0).ma (R.getD k rl0).am))).1,di (kwR F L (rdE (exD (R.getD k rl0).ma (R.getD k rl0).am))).2]):=by
     obtain ⟨_,hsn,hty,_⟩:=typ_sound (L:=L) (x:=(R.getD k rl0).am) (by rw[ta])
     rw[e1]
     exact f50 hfit hF _ _ _ hs.ha hs.am hsn hty
    have vw:(R.getD k rl0).wh.k≠0→FnOK Tryz.prog G 50 [exD (R.getD k rl0).mw (R.getD k rl0).wh,ftsD F] (.tup [ftD (kwR F L (rdE (exD (R.getD k rl0).mw (R.getD k rl0).wh))).1,di (kwR F L (rdE (exD (R.getD k rl0).mw (R.getD k rl0).wh))).2]):=fun hk=>by
     obtain ⟨_,hsn,hty,_⟩:=typ_sound (L:=L) (x:=(R.getD k rl0).wh) (by rw[tw hk])
     rw[e2]
     exact f50 hfit hF _ _ _ hs.hw hs.wh hsn hty
    have row:∀s:Ls,lsR (revT F F.length) (R.getD k rl0)=s→∀i,i<k+1→(bif Nat.blt i k then lsF (revT F F.length) R i else elemF true 7 (lsC (R.getD k rl0) s) (0+(i-k)))=lsF (revT F F.length) R i:=fun s e i hi=>by
     rcases Nat.lt_or_ge i k with h3|h3
     ·rw[show Nat.blt i k=true from by rw[Nat.blt_eq];exact h3];rfl
     ·obtain rfl:i=k:=by omega
      rw[show Nat.blt i i=false from by rw[Bool.eq_false_iff,ne_eq,Nat.blt_eq];omega,Nat.sub_self,←e];rfl
    refine⟨fun _=>⟨⟨by omega,by omega⟩,fun c=>⟨vw (bne_iff_ne.1 c),fun c2=>⟨va,⟨by omega,by omega⟩,⟨by omega,by omega⟩,?_⟩,fun c2=>⟨⟨by omega,by omega⟩,⟨by omega,by omega⟩,?_⟩⟩,fun c=>⟨fun _=>⟨va,⟨by omega,by omega⟩,⟨by omega,by omega⟩,?_⟩,fun c2=>Bool.noConfusion c2⟩⟩,fun h=>absurd (of_decide_eq_false h) (by omega)⟩
    ·have c3:(kwR F L (R.getD k rl0).wh).2=0∧(kwR F L (R.getD k rl0).wh).1.tr=true:=by
      have c4:((kwR F L (rdE (exD (R.getD k rl0).mw (R.getD k rl0).wh))).2==0&&(kwR F L (rdE (exD (R.getD k rl0).mw (R.getD k rl0).wh))).1.tr)=true:=c2
      rw[bAt,beq_iff_eq] at c4
      rw[←e2];exact c4
     have e:lsR (revT F F.length) (R.getD k rl0)=⟨(kwR F L (rdE (exD (R.getD k rl0).ma (R.getD k rl0).am))).2==0,(kwR F L (rdE (exD (R.getD k rl0).ma (R.getD k rl0).am))).1.n,(kwR F L (rdE (exD (R.getD k rl0).ma (R.getD k rl0).am))).1.d,(kwR F L (rdE (exD (R.getD k rl0).ma (R.getD k rl0).am))).2⟩:=by rw[q2 (bne_iff_ne.1 c),if_pos c3,e1];rfl
     refine⟨k+1,(AS.leX.moves [(86,900)] _ rfl).trans ((AS.leX.rowF _ 10 900 (k+1) (agg:=lnRK) (sz:=7) (f:=fun i=>bif Nat.blt i k then lsF (revT F F.length) R i else elemF true 7 (lsC (R.getD k rl0) ⟨(kwR F L (rdE (exD (R.getD k rl0).ma (R.getD k rl0).am))).2==0,(kwR F L (rdE (exD (R.getD k rl0).ma (R.getD k rl0).am))).1.n,(kwR F L (rdE (exD (R.getD k rl0).ma (R.getD k rl0).am))).1.d,(kwR F L (rdE (exD (R.getD k rl0).ma (R.getD k rl0).am))).2⟩) (0+(i-k))) (lsF (revT F F.length) R) (by kernel_rfl) (by kernel_rfl) rfl (by kernel_rfl) (fun i hi=>row _ e i hi)).trans (.of_le ?_)),hk2,(show R.length-(k+1)<R.length-k from by omega)⟩
     exact AS.leA (by kernel_rfl)
    ·have c3:¬((kwR F L (R.getD k rl0).wh).2=0∧(kwR F L (R.getD k rl0).wh).1.tr=true):=by
      rw[←e2];intro hh
      have c4:((kwR F L (rdE (exD (R.getD k rl0).mw (R.getD k rl0).wh))).2==0&&(kwR F L (rdE (exD (R.getD k rl0).mw (R.getD k rl0).wh))).1.tr)=false:=c2
      rw[hh.1,hh.2] at c4
      cases c4
     have e:lsR (revT F F.length) (R.getD k rl0)=⟨false,0,0,(kwR F L (rdE (exD (R.getD k rl0).mw (R.getD k rl0).wh))).2⟩:=by rw[q2 (bne_iff_ne.1 c),if_neg c3,e2]
     refine⟨k+1,(AS.leX.moves [(86,900)] _ rfl).trans ((AS.leX.rowF _ 10 900 (k+1) (agg:=lnRK) (sz:=7) (f:=fun i=>bif Nat.blt i k then lsF (revT F F.length) R i else elemF true 7 (lsC (R.getD k rl0) ⟨false,0,0,(kwR F L (rdE (exD (R.getD k rl0).mw (R.getD k rl0).wh))).2⟩) (0+(i-k))) (lsF (revT F F.length) R) (by kernel_rfl) (by kernel_rfl) rfl (by kernel_rfl) (fun i hi=>row _ e i hi)).trans (.of_le ?_)),hk2,(show R.length-(k+1)<R.length-k from by omega)⟩
     exact AS.leA (by kernel_rfl)
    ·have c0:(R.getD k rl0).wh.k=0:=by simpa using c
     have e:lsR (revT F F.length) (R.getD k rl0)=⟨(kwR F L (rdE (exD (R.getD k rl0).ma (R.getD k rl0).am))).2==0,(kwR F L (rdE (exD (R.getD k rl0).ma (R.getD k rl0).am))).1.n,(kwR F L (rdE (exD (R.getD k rl0).ma (R.getD k rl0).am))).1.d,(kwR F L (rdE (exD (R.getD k rl0).ma (R.getD k rl0).am))).2⟩:=by rw[q1 c0,e1];rfl
     refine⟨k+1,(AS.leX.moves [(86,900)] _ rfl).trans ((AS.leX.rowF _ 10 900 (k+1) (agg:=lnRK) (sz:=7) (f:=fun i=>bif Nat.blt i k then lsF (revT F F.length) R i else elemF true 7 (lsC (R.getD k rl0) ⟨(kwR F L (rdE (exD (R.getD k rl0).ma (R.getD k rl0).am))).2==0,(kwR F L (rdE (exD (R.getD k rl0).ma (R.getD k rl0).am))).1.n,(kwR F L (rdE (exD (R.getD k rl0).ma (R.getD k rl0).am))).1.d,(kwR F L (rdE (exD (R.getD k rl0).ma (R.getD k rl0).am))).2⟩) (0+(i-k))) (lsF (revT F F.length) R) (by kernel_rfl) (by kernel_rfl) rfl (by kernel_rfl) (fun i hi=>row _ e i hi)).trans (.of_le ?_)),hk2,(show R.length-(k+1)<R.length-k from by omega)⟩
     exact AS.leA (by kernel_rfl)
   ·obtain rfl:k=R.length:=by omega
    refine walkK (orc:=orc30 F L R) (keep:=[]) (cuts:=[10]) (n:=1000) follows ?_
    refine of_rd (fun ZT ZW ZQ _ _ ZR=>((((decide ((↑R.length:Int)<↑R.length))=true)→ZW [cd Tryz.f30 [1,1,1,1,0,1,0,0,1,0,0],(.blk 1),cd Tryz.f30 [1,1,1,1,0,1,0,0,1,1]] (stS ZT [0]) ZR)∧(((decide ((↑R.length:Int)<↑R.length))=false)→ZW [cd Tryz.f30 [1,1,1,1,1]] (stS ZT [1]) ZQ))) (by kernel_rfl) ?_
    refine⟨fun h=>absurd (oDt h) (by omega),fun _=>?_⟩
    refine walkK (orc:=orc30 F L R) (keep:=[]) (cuts:=[]) (n:=1000) follows ?_
    refine of_tr (fun _ _ _ _=>(((.tup [(.slc 7 R.length (fun i=>lsF (revT F F.length) R (0+i))),(di 0)]):DV)=(.tup [(.slc 7 R.length (lsF (revT F F.length) R)),(di 0)]))) (by kernel_rfl) ?_
    rw[show (fun i=>lsF (revT F F.length) R (0+i))=lsF (revT F F.length) R from funext fun i=>by rw[Nat.zero_add]]
 ·intro he
  refine FnOK.walkK (orc:=orc30 F L R) (keep:=[]) follows Tryz.func30 rfl Tryz.call30 ?_
  refine of_tr (fun ZT ZW ZQ ZK=>(ZK 15 [(.slc 6 F.length (ftF F)),(.slc 7 L.length (fcF L))] (db (vaF F L))∧(((!vaF F L)=true)→(((.tup [(.con (.slice none 0 0)),(di 1)]):DV)=(.tup [(.con (.slice none 0 0)),(di (scE F L R))])))∧(((!vaF F L)=false)→(ZK 68 [(.slc 16 R.length (rlF R)),(.slc 7 L.length (fcF L))] (.tup [(di (chR L R).fst),(di (chR L R).snd)])∧((((chR L R).snd != 0)=true)→(((.tup [(.con (.slice none 0 0)),(di (chR L R).snd)]):DV)=(.tup [(.con (.slice none 0 0)),(di (scE F L R))])))∧((((chR L R).snd != 0)=false)→ZW [cd Tryz.f30 [1,1,1,1,0,1,0],(.blk 0),cd Tryz.f30 [1,1,1,1,1]] (stS ZT [1,1]) ZQ))))) (by kernel_rfl) ?_
  refine⟨f15 hT F L h hl (by omega),fun c=>?_,fun c=>⟨f68 hT L R h hl hR hn,fun c2=>?_,fun c2=>?_⟩⟩
  ·unfold scE;rw[if_neg (by intro hh;rw[hh] at c;cases c)]
  ·unfold scE;rw[if_pos (by simpa using c)]
  ·exact absurd (by unfold scE;rw[if_pos (by simpa using c)];simpa using c2) he
/-! The law of ScoringScores. -/
structure RlW (r:Rl):Prop where
 nm:r.nm.size≤maxLen
 gr:r.gr.size≤maxLen
 ha:ht r.am≤r.ma
 am:wfE r.am
 hw:ht r.wh≤r.mw
 wh:wfE r.wh
def fewR (r:Rl):Bool:=decide (r.nm.size≤40)&&decide (r.gr.size≤40)&&fewE 30 r.am&&fewE 30 r.wh
theorem rls_few {r:Rl} (h:RlW r) (hf:fewR r=true):RlS r:=by
 unfold fewR at hf
 simp only[bAt,dEt] at hf
 exact⟨by omega,by omega,h.ha,few_sm (by omega) h.am hf.1.2,h.hw,few_sm (by omega) h.wh hf.2⟩
def fewRs (R:List Rl):Bool:=R.all fewR&&decide (R.length≤8)
noncomputable def orc26:Oracle:=fun f a=>match f,a with
 | 41,[e,_]=>some (db (fewE 30 (rdE e)))
 | _,_=>none
noncomputable def S26n (R:List Rl) (k:Nat):AS:=⟨regs Tryz.f26.ntmps [(0,.d (rlsD R)),(5,.d (rlsD R)),(6,vi R.length),(7,vi k)],[]⟩
theorem f26 (R:List Rl) (hl:R.length≤9223372036854775807) (hw:∀i,i<R.length→RlW (R.getD i rl0)):FnOK Tryz.prog G 26 [rlsD R] (db (fewRs R)):=by
 unfold fewRs
 refine FnOK.walkK (orc:=orc26) (keep:=[]) follows Tryz.func26 rfl Tryz.call26 ?_
 refine of_tr (fun ZT ZW ZQ _=>ZW [cd Tryz.f26 [1,0,1,0],(.blk 0),cd Tryz.f26 [1,1]] (stS ZT []) ZQ) (by kernel_rfl) ?_
 refine AWP.loop (c:=cAt (bodyOf Tryz.f26) [1,0,1,0,0]) (by kernel_rfl) (S26n R) (fun k=>k≤R.length∧∀i,i<k→fewR (R.getD i rl0)=true) (fun k=>R.length-k) 0 ?_ ⟨Nat.zero_le _,fun i hi=>absurd hi (Nat.not_lt_zero _)⟩ ?_
 ·exact AS.leA (by kernel_rfl)
 ·rintro k ⟨hk,hkd⟩
  by_cases hk2:k<R.length
  ·have hr:=hw k hk2
   have e1:rdE (ndX (R.getD k rl0).ma (R.getD k rl0).am)=(R.getD k rl0).am:=rdE_eq hr.ha
   have e2:rdE (ndX (R.getD k rl0).mw (R.getD k rl0).wh)=(R.getD k rl0).wh:=rdE_eq hr.hw
   refine walkK (orc:=orc26) (keep:=[]) (cuts:=[]) (n:=1000) follows ?_
   refine of_rd (fun ZT ZW ZQ ZK ZA _=>(fun Za Zb Zc=>((((decide ((↑k:Int)<↑R.length))=true)→(((0≤(↑k:Int))∧((↑k:Int)<↑R.length))∧((((!(decide ((↑(R.getD (↑k:Int).toNat rl0).nm.size:Int)>40)||decide ((↑(R.getD (↑k:Int).toNat rl0).gr.size:Int)>40)))=true)→ZK 41 [Zb,(di 30)] (db (fewE 30 (rdE Zb))))∧(((!(decide ((↑(R.getD (↑k:Int).toNat rl0).nm.size:Int)>40)||decide ((↑(R.getD (↑k:Int).toNat rl0).gr.size:Int)>40)||!fewE 30 (rdE Zb)))=true)→ZK 41 [Zc,(di 30)] (db (fewE 30 (rdE Zc)))))∧((Za=true)→(((db false):DV)=(db (R.all fewR&&decide (R.length≤8)))))∧((Za=false)→((I64 (↑k+1))∧(ZA (stS ZT [0,1]))))))∧(((decide ((↑k:Int)<↑R.length))=false)→ZW [cd Tryz.f26 [1,1]] (stS ZT [1]) ZQ))) (decide ((↑(R.getD (↑k:Int).toNat rl0).nm.size:Int)>40)||decide ((↑(R.getD (↑k:Int).toNat rl0).gr.size:Int)>40)||!fewE 30 (rdE (ndX (R.getD (↑k:Int).toNat rl0).ma (R.getD (↑k:Int).toNat rl0).am))||!fewE 30 (rdE (ndX (R.getD (↑k:Int).toNat rl0).mw (R.getD (↑k:Int).toNat rl0).wh))) (ndX (R.getD (↑k:Int).toNat rl0).ma (R.getD (↑k:Int).toNat rl0).am) (ndX (R.getD (↑k:Int).toNat rl0).mw (R.getD (↑k:Int).toNat rl0).wh)) (by kernel_rfl) ?_
   simp only[iTn,e1,e2]
   have eB:(decide (((R.getD k rl0).nm.size:Int)>40)||decide (((R.getD k rl0).gr.size:Int)>40)||!fewE 30 (R.getD k rl0).am||!fewE 30 (R.getD k rl0).wh) = !fewR (R.getD k rl0):=by
    unfold fewR
    rw[show decide (((R.getD k rl0).nm.size:Int)>40) = !decide ((R.getD k rl0).nm.size≤40) from by rw[←decide_not,decide_eq_decide];omega,
     show decide (((R.getD k rl0).gr.size:Int)>40) = !decide ((R.getD k rl0).gr.size≤40) from by rw[←decide_not,decide_eq_decide];omega]
    generalize decide ((R.getD k rl0).nm.size≤40)=a
    generalize decide ((R.getD k rl0).gr.size≤40)=b
    generalize fewE 30 (R.getD k rl0).am=c
    generalize fewE 30 (R.getD k rl0).wh=d
    cases a<;>cases b<;>cases c<;>cases d<;>rfl
   simp only[eB]
   refine⟨fun _=>⟨⟨by omega,by omega⟩,⟨fun _=>f41 30 _ _ hr.ha hr.am,fun _=>f41 30 _ _ hr.hw hr.wh⟩,fun h=>?_,fun h=>⟨⟨by omega,by omega⟩,Again.mk (k+1) ?_ ⟨hk2,fun i hi=>?_⟩ (by omega)⟩⟩,fun h=>absurd (of_decide_eq_false h) (by omega)⟩
   ·have:R.all fewR=false:=by
     rw[List.all_eq_false]
     exact⟨R.getD k rl0,getD_mem (x0:=rl0) hk2,by rw[Bool.not_eq_true'] at h;rw[h];decide⟩
    rw[this];rfl
   ·exact AS.leA (by kernel_rfl)
   ·rcases Nat.lt_or_ge i k with h4|h4
    ·exact hkd i h4
    ·obtain rfl:i=k:=by omega
     rw[Bool.not_eq_false'] at h;exact h
  ·obtain rfl:k=R.length:=by omega
   refine walkK (orc:=orc26) (keep:=[]) (cuts:=[]) (n:=1000) follows ?_
   refine of_rd (fun ZT ZW ZQ ZK ZA _=>(fun Za=>((((decide ((↑R.length:Int)<↑R.length))=true)→(((0≤(↑R.length:Int))∧((↑R.length:Int)<↑R.length))∧((((!(decide ((↑Za.nm.size:Int)>40)||decide ((↑Za.gr.size:Int)>40)))=true)→ZK 41 [(ndX Za.ma Za.am),(di 30)] (db (fewE 30 (rdE (ndX Za.ma Za.am)))))∧(((!(decide ((↑Za.nm.size:Int)>40)||decide ((↑Za.gr.size:Int)>40)||!fewE 30 (rdE (ndX Za.ma Za.am))))=true)→ZK 41 [(ndX Za.mw Za.wh),(di 30)] (db (fewE 30 (rdE (ndX Za.mw Za.wh))))))∧(((decide ((↑Za.nm.size:Int)>40)||decide ((↑Za.gr.size:Int)>40)||!fewE 30 (rdE (ndX Za.ma Za.am))||!fewE 30 (rdE (ndX Za.mw Za.wh)))=true)→(((db false):DV)=(db (R.all fewR&&decide (R.length≤8)))))∧(((decide ((↑Za.nm.size:Int)>40)||decide ((↑Za.gr.size:Int)>40)||!fewE 30 (rdE (ndX Za.ma Za.am))||!fewE 30 (rdE (ndX Za.mw Za.wh)))=false)→((I64 (↑R.length+1))∧(ZA (stS ZT [0,1]))))))∧(((decide ((↑R.length:Int)<↑R.length))=false)→ZW [cd Tryz.f26 [1,1]] (stS ZT [1]) ZQ))) (R.getD (↑R.length:Int).toNat rl0)) (by kernel_rfl) ?_
   refine⟨fun h=>absurd (oDt h) (by omega),fun _=>?_⟩
   refine walkK (orc:=orc26) (keep:=[]) (cuts:=[]) (n:=1000) follows ?_
   refine of_tr (fun _ _ _ _=>(((db (decide ((↑R.length:Int)≤8))):DV)=(db (R.all fewR&&decide (R.length≤8))))) (by kernel_rfl) ?_
   have:R.all fewR=true:=by
    rw[List.all_eq_true]
    intro f hf
    obtain ⟨i,hi,rfl⟩:=List.getElem_of_mem hf
    have:=hkd i hi
    rwa [List.getD,gEe hi] at this
   rw[this,Bool.true_and]
   refine congrArg (fun b:Bool=>(db b:DV)) ?_
   rw[Bool.eq_iff_iff,dEt,dEt]
   omega
noncomputable def S31 (F:List Ft) (R:List Rl) (k:Nat):AS:=⟨regs Tryz.f31.ntmps [(0,.d (.slc 7 R.length (lsF F R))),(1,.d (.slc 7 R.length (lsF F R))),(5,vi k)],[]⟩
theorem f31_refl (F:List Ft) (R:List Rl) (hn:R.length≤1000):FnOK Tryz.prog G 31 [.slc 7 R.length (lsF F R),.slc 7 R.length (lsF F R)] (db true):=by
 refine FnOK.walkK (orc:=noO) (keep:=[]) follows Tryz.func31 rfl Tryz.call31 ?_
 refine of_tr (fun ZT ZW ZQ _=>(((((↑R.length:Int) != ↑R.length)=true)→(((db false):DV)=(db true)))∧((((↑R.length:Int) != ↑R.length)=false)→ZW [cd Tryz.f31 [1,1,0,1,0],(.blk 0),cd Tryz.f31 [1,1,1]] (stS ZT [1]) ZQ))) (by kernel_rfl) ?_
 refine⟨fun c=>absurd rfl (bne_iff_ne.1 c),fun _=>?_⟩
 refine AWP.loop (c:=cAt (bodyOf Tryz.f31) [1,1,0,1,0,0]) (by kernel_rfl) (S31 F R) (fun k=>k≤R.length) (fun k=>R.length-k) 0 ?_ (Nat.zero_le _) ?_
 ·exact AS.leA (by kernel_rfl)
 ·intro k hk
  by_cases hk2:k<R.length
  ·refine walkK (orc:=noO) (keep:=[]) (cuts:=[]) (n:=1000) follows ?_
   refine of_rd (fun ZT ZW ZQ _ ZA _=>(fun Za=>((((decide ((↑k:Int)<↑R.length))=true)→((((0≤(↑k:Int))∧((↑k:Int)<↑R.length))∧(0≤(↑k:Int))∧((↑k:Int)<↑R.length))∧((Za=true)→(((db false):DV)=(db true)))∧((Za=false)→((I64 (↑k+1))∧(ZA (stS ZT [0,1]))))))∧(((decide ((↑k:Int)<↑R.length))=false)→ZW [cd Tryz.f31 [1,1,1]] (stS ZT [1]) ZQ))) (!Bool.rec false ((R.getD (↑k:Int).toNat rl0).gr.toList==(R.getD (↑k:Int).toNat rl0).gr.toList&&((R.getD (↑k:Int).toNat rl0).kind==(R.getD (↑k:Int).toNat rl0).kind&&((lsR F (R.getD (↑k:Int).toNat rl0)).ap==(lsR F (R.getD (↑k:Int).toNat rl0)).ap&&((lsR F (R.getD (↑k:Int).toNat rl0)).n==(lsR F (R.getD (↑k:Int).toNat rl0)).n&&(lsR F (R.getD (↑k:Int).toNat rl0)).d==(lsR F (R.getD (↑k:Int).toNat rl0)).d&&(lsR F (R.getD (↑k:Int).toNat rl0)).e==(lsR F (R.getD (↑k:Int).toNat rl0)).e)))) ((R.getD (↑k:Int).toNat rl0).nm.toList==(R.getD (↑k:Int).toNat rl0).nm.toList))) (by kernel_rfl) ?_
   simp only[iTn,brec,beq_self_eq_true,Bool.and_self,Bool.not_true]
   refine⟨fun _=>⟨⟨⟨by omega,by omega⟩,⟨by omega,by omega⟩⟩,fun h=>Bool.noConfusion h,fun _=>⟨⟨by omega,by omega⟩,Again.mk (k+1) ?_ hk2 (by omega)⟩⟩,fun h=>absurd (of_decide_eq_false h) (by omega)⟩
   exact AS.leA (by kernel_rfl)
  ·obtain rfl:k=R.length:=by omega
   refine walkK (orc:=noO) (keep:=[]) (cuts:=[]) (n:=1000) follows ?_
   refine of_rd (fun ZT ZW ZQ _ ZA _=>(fun Za=>((((decide ((↑R.length:Int)<↑R.length))=true)→((((0≤(↑R.length:Int))∧((↑R.length:Int)<↑R.length))∧(0≤(↑R.length:Int))∧((↑R.length:Int)<↑R.length))∧(((!Bool.rec false (Za.gr.toList==Za.gr.toList&&(Za.kind==Za.kind&&((lsR F Za).ap==(lsR F Za).ap&&((lsR F Za).n==(lsR F Za).n&&(lsR F Za).d==(lsR F Za).d&&(lsR F Za).e==(lsR F Za).e)))) (Za.nm.toList==Za.nm.toList))=true)→(((db false):DV)=(db true)))∧(((!Bool.rec false (Za.gr.toList==Za.gr.toList&&(Za.kind==Za.kind&&((lsR F Za).ap==(lsR F Za).ap&&((lsR F Za).n==(lsR F Za).n&&(lsR F Za).d==(lsR F Za).d&&(lsR F Za).e==(lsR F Za).e)))) (Za.nm.toList==Za.nm.toList))=false)→((I64 (↑R.length+1))∧(ZA (stS ZT [0,1]))))))∧(((decide ((↑R.length:Int)<↑R.length))=false)→ZW [cd Tryz.f31 [1,1,1]] (stS ZT [1]) ZQ))) (R.getD (↑R.length:Int).toNat rl0)) (by kernel_rfl) ?_
   refine⟨fun h=>absurd (oDt h) (by omega),fun _=>?_⟩
   refine walkK (orc:=noO) (keep:=[]) (cuts:=[]) (n:=1000) follows ?_
   refine of_tr (fun _ _ _ _=>(ZS ((db true):DV))) (by kernel_rfl) ?_
   rfl
noncomputable def d7 (R:List Rl) (F:List Ft) (L:List Fc) (e:Bool):Oracle:=fun f a=>match f,a with
 | 10,[]=>some (db true)
 | 26,[_]=>some (db (fewRs R))
 | 27,[_]=>some (db (fewF L))
 | 28,[_]=>some (db (fewT F))
 | 29,[_,_,_]=>match e with|true=>some (.tup [.con (.slice none 0 0),di (scE F L R)])|false=>some (.tup [.slc 7 R.length (lsF (revT F F.length) R),di 0])
 | 30,[_,_,_]=>match e with|true=>some (.tup [.con (.slice none 0 0),di (scE F L R)])|false=>some (.tup [.slc 7 R.length (lsF (revT F F.length) R),di 0])
 | 31,[_,_]=>some (db true)
 | _,_=>none
theorem g31n:FnOK Tryz.prog G 31 [.con (.slice none 0 0),.con (.slice none 0 0)] (db true):=by
 have h:=f31_refl (G:=G) [] [] (by decide)
 exact h.args fun k us h=>DV.rels_cons (fun v hv=>nil_slc hv) (DV.rels_cons (fun v hv=>nil_slc hv) fun _ h=>h) us h
theorem f7 (hT:Tab G) (R:List Rl) (F:List Ft) (L:List Fc) (hl:L.length≤9223372036854775807) (hlF:F.length≤9223372036854775807) (hlR:R.length≤9223372036854775807) (hw2:∀i,i<L.length→FcW (L.getD i fc0)) (hw3:∀i,i<R.length→RlW (R.getD i rl0)) :
  FnOK Tryz.prog G 7 [rlsD R,ftsD F,fcsD L] (db true):=by
 by_cases hfew:fewRs R=true∧fewF L=true∧fewT F=true
 ·obtain ⟨q1,q2,q3⟩:=hfew
  obtain ⟨hfc,hll⟩:=fcs_of_few q2
  have hlf:F.length≤16:=by
   unfold fewT at q3
   simp only[bAt,dEt] at q3;exact q3.2
  have hR:(∀i,i<R.length→RlS (R.getD i rl0))∧R.length≤8:=by
   unfold fewRs at q1
   simp only[bAt,dEt] at q1
   exact⟨fun i hi=>rls_few (hw3 i hi) (List.all_eq_true.1 q1.1 _ (getD_mem (x0:=rl0) hi)),q1.2⟩
  obtain ⟨a1,a2⟩:=f29 (G:=G) hT F L R hfc (by omega) (by omega) hR.1 (by have:=hR.2;omega)
  obtain ⟨b1,b2⟩:=f30 (G:=G) hT F L R hfc (by omega) (by omega) hR.1 (by have:=hR.2;omega)
  by_cases he:scE F L R=0
  ·refine FnOK.walkK (orc:=d7 R F L false) (keep:=[]) follows Tryz.func7 rfl Tryz.call7 ?_
   refine of_tr (fun _ _ _ ZK=>(fun Za=>(ZK 10 [] (db true)∧((false=true)→(((db false):DV)=(db true)))∧((false=false)→((ZK 26 [(.slc 16 R.length (rlF R))] (db (fewRs R))∧(((!!fewRs R)=true)→ZK 27 [(.slc 7 L.length (fcF L))] (db (fewF L)))∧(((!(!fewRs R||!fewF L))=true)→ZK 28 [(.slc 6 F.length (ftF F))] (db (fewT F))))∧(((!fewRs R||!fewF L||!fewT F)=true)→(ZS ((db true):DV)))∧(((!fewRs R||!fewF L||!fewT F)=false)→(ZK 29 [(.slc 16 R.length (rlF R)),(.slc 6 F.length (ftF F)),(.slc 7 L.length (fcF L))] (.tup [Za,(di 0)])∧ZK 30 [(.slc 16 R.length (rlF R)),(.slc 6 F.length (ftF F)),(.slc 7 L.length (fcF L))] (.tup [Za,(di 0)])∧ZK 31 [Za,Za] (db true)∧(ZS ((db true):DV)))))))) ((.slc 7 R.length (lsF (revT F F.length) R)):DV)) (by kernel_rfl) ?_
   refine⟨f10 hT,fun h=>Bool.noConfusion h,fun _=>⟨⟨f26 R hlR hw3,fun _=>f27 L hl hw2,fun _=>f28 F hlF⟩,fun _=>rfl,fun h=>⟨a1 he,b1 he,f31_refl _ R (by have:=hR.2;omega),rfl⟩⟩⟩
  ·refine FnOK.walkK (orc:=d7 R F L true) (keep:=[]) follows Tryz.func7 rfl Tryz.call7 ?_
   refine of_tr (fun _ _ _ ZK=>(ZK 10 [] (db true)∧((false=true)→(((db false):DV)=(db true)))∧((false=false)→((ZK 26 [(.slc 16 R.length (rlF R))] (db (fewRs R))∧(((!!fewRs R)=true)→ZK 27 [(.slc 7 L.length (fcF L))] (db (fewF L)))∧(((!(!fewRs R||!fewF L))=true)→ZK 28 [(.slc 6 F.length (ftF F))] (db (fewT F))))∧(((!fewRs R||!fewF L||!fewT F)=true)→(ZS ((db true):DV)))∧(((!fewRs R||!fewF L||!fewT F)=false)→(ZK 29 [(.slc 16 R.length (rlF R)),(.slc 6 F.length (ftF F)),(.slc 7 L.length (fcF L))] (.tup [(.con (.slice none 0 0)),(di (scE F L R))])∧ZK 30 [(.slc 16 R.length (rlF R)),(.slc 6 F.length (ftF F)),(.slc 7 L.length (fcF L))] (.tup [(.con (.slice none 0 0)),(di (scE F L R))])∧ZK 31 [(.con (.slice none 0 0)),(.con (.slice none 0 0))] (db true)∧((db (true&&scE F L R==scE F L R)):DV)=(db true))))))) (by kernel_rfl) ?_
   refine⟨f10 hT,fun h=>Bool.noConfusion h,fun _=>⟨⟨f26 R hlR hw3,fun _=>f27 L hl hw2,fun _=>f28 F hlF⟩,fun _=>rfl,fun h=>⟨a2 he,b2 he,g31n,by rw[beq_self_eq_true];rfl⟩⟩⟩
 ·refine FnOK.walkK (orc:=d7 R F L true) (keep:=[]) follows Tryz.func7 rfl Tryz.call7 ?_
  refine of_tr (fun _ _ _ ZK=>(ZK 10 [] (db true)∧((false=true)→(((db false):DV)=(db true)))∧((false=false)→((ZK 26 [(.slc 16 R.length (rlF R))] (db (fewRs R))∧(((!!fewRs R)=true)→ZK 27 [(.slc 7 L.length (fcF L))] (db (fewF L)))∧(((!(!fewRs R||!fewF L))=true)→ZK 28 [(.slc 6 F.length (ftF F))] (db (fewT F))))∧(((!fewRs R||!fewF L||!fewT F)=true)→(ZS ((db true):DV)))∧(((!fewRs R||!fewF L||!fewT F)=false)→(ZK 29 [(.slc 16 R.length (rlF R)),(.slc 6 F.length (ftF F)),(.slc 7 L.length (fcF L))] (.tup [(.con (.slice none 0 0)),(di (scE F L R))])∧ZK 30 [(.slc 16 R.length (rlF R)),(.slc 6 F.length (ftF F)),(.slc 7 L.length (fcF L))] (.tup [(.con (.slice none 0 0)),(di (scE F L R))])∧ZK 31 [(.con (.slice none 0 0)),(.con (.slice none 0 0))] (db true)∧((db (true&&scE F L R==scE F L R)):DV)=(db true))))))) (by kernel_rfl) ?_
  refine⟨f10 hT,fun h=>Bool.noConfusion h,fun _=>⟨⟨f26 R hlR hw3,fun _=>f27 L hl hw2,fun _=>f28 F hlF⟩,fun _=>rfl,fun h=>?_⟩⟩
  refine absurd ?_ hfew
  revert h;cases fewRs R<;>cases fewF L<;>cases fewT F<;>simp
/-! Rules that are read. -/
abbrev rlShW:List AbW.Sh:=[.int .i64,.str,.str,.int .i64,.str,.int .i64,.int .i64,.int .i64,.own kidsP,.int .i64,.str,.int .i64,.int .i64,.int .i64,.own kidsP,.int .i64]
theorem rlW0:RlW rl0:=by
 have h1:ht rl0.am≤rl0.ma:=by decide
 have h2:wfE rl0.am:=by unfold rl0 ex0;simp[wfE,wfL]
 exact⟨by decide,by decide,h1,h2,h1,h2⟩
theorem rules_ofW {n:Nat} {f:Nat→DV} (hf:∀i,i<n→∃es,f i=.agg es∧AbW.Shs.dv rlShW es) :
  ∃R:List Rl,R.length=n∧(∀k v,DV.rel k (.slc 16 n f) v→DV.rel k (rlsD R) v)∧∀i,i<R.length→RlW (R.getD i rl0):=by
 obtain ⟨l,hl,hL⟩:=list_of (p:=fun i (x:{x:Rl // RlW x})=>f i=rlD x.1) ⟨rl0,rlW0⟩ (fun i hi=>by
  obtain ⟨es,h1,_,_,rfl,⟨kd,_,rfl⟩,_,_,rfl,⟨nm,hnm,rfl⟩,_,_,rfl,⟨gr,hgr,rfl⟩,hr⟩:=hf i hi
  obtain ⟨_,_,rfl,⟨k,_,rfl⟩,_,_,rfl,⟨s,hs,rfl⟩,_,_,rfl,⟨n,_,rfl⟩,_,_,rfl,⟨d,_,rfl⟩,_,_,rfl,⟨a,_,rfl⟩,_,_,rfl,⟨⟨l,m,hm,hw,hl,rfl⟩,_⟩,hr⟩:=hr
  obtain ⟨_,_,rfl,⟨k2,_,rfl⟩,_,_,rfl,⟨s2,hs2,rfl⟩,_,_,rfl,⟨n2,_,rfl⟩,_,_,rfl,⟨d2,_,rfl⟩,_,_,rfl,⟨a2,_,rfl⟩,_,_,rfl,⟨⟨l2,m2,hm2,hw2,hl2,rfl⟩,_⟩,hr⟩:=hr
  obtain ⟨_,_,rfl,⟨p,_,rfl⟩,rfl⟩:=hr
  exact⟨⟨⟨kd,nm,gr,.mk k s n d a l,.mk k2 s2 n2 d2 a2 l2,p,m,m2⟩,hnm,hgr,by rw[ht_eq];exact hm,⟨hs,hl,hw⟩,by rw[ht_eq];exact hm2,⟨hs2,hl2,hw2⟩⟩,h1⟩)
 subst hl
 have hg:∀i,i<l.length→(l.map (·.1)).getD i rl0=(l.getD i ⟨rl0,rlW0⟩).1:=fun i hi=>by
  rw[List.getD,List.getD,List.getElem?_map,gEe hi];rfl
 refine⟨l.map (·.1),List.length_map ..,fun k v h=>?_,fun i hi=>?_⟩
 ·unfold rlsD
  rw[List.length_map]
  refine DV.rel_slc_congr (fun i hi=>?_) h
  rw[hL i hi]
  unfold rlF
  rw[hg i hi]
 ·rw[List.length_map] at hi
  rw[hg i hi];exact(l.getD i _).2
end Go.Proofs
