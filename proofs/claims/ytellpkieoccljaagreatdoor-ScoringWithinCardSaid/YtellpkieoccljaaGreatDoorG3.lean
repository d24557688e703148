import Derived.Test.YtellpkieoccljaaGreatDoorG2
import Derived.Test.YtellpkieoccljaaGreatDoorAcD
set_option autoImplicit false
namespace Go.Proofs
open Go Go.Ab Go.RowKit
set_option maxHeartbeats 4000000
/-! The reference's abq,and the program's. -/
def Qj (L:List Fc) (ws:List ByteArray):Prop:=∀j,j<ws.length→nameB (ws.getD j .empty)=true∧ws.getD j .empty∉ws.take j∧¬eP L (ws.getD j .empty)≥0
def N9 (L:List Fc) (k:Nat) (x:Fc):Prop:=nameB x.name=true∧eP L x.name=k∧((x.kind=0∧iF x.ln x.ld x.hn x.hd=true∧dM x.ln x.ld x.hn x.hd≤0∧x.words.length=0)∨
 (x.kind=1∧rE x=true∧x.words.length=0)∨(x.kind=2∧rE x=true∧1≤x.words.length∧x.words.length≤16∧Qj L x.words))
theorem uF (l:List ByteArray) (s:ByteArray):cu l s=true↔s∈l:=by
 unfold cu
 rw[List.any_eq_true]
 simp only[decide_eq_true_eq]
 exact⟨fun ⟨x,h,e⟩=>e▸h,fun h=>⟨s,h,rfl⟩⟩
theorem nodup_iff {l:List ByteArray}:l.Nodup↔∀j,j<l.length→l.getD j .empty∉l.take j:=by
 constructor
 ·intro h j hj hm
  exact JO hj hm h
 ·intro h
  have:∀k,k≤l.length→(l.take k).Nodup:=by
   intro k
   induction k with
   | zero=>intro _;simp
   | succ k ih=>intro hk;exact GZ hk (ih (by omega)) (h k hk)
  have:=this l.length (Nat.le_refl _)
  rwa [List.take_length] at this
theorem Et (L:List Fc) (s:ByteArray):¬eP L s≥0↔s∉dF L:=by
 have h:=DF (vI s) L
 have e:L.any (vI s)=true↔s∈dF L:=by
  rw[List.any_eq_true]
  unfold dF vI
  simp only[decide_eq_true_eq,List.mem_map]
 unfold eP
 rw[←e,←h,decide_eq_true_eq]
theorem MJ {L:List Fc} {k:Nat} (hk:k<L.length):eP L (L.getD k aG).name=k↔(dF L).getD k .empty∉(dF L).take k:=by
 have hn:(dF L).getD k .empty=(L.getD k aG).name:=by
  unfold dF
  rw[List.getD,List.getD,List.getElem?_map,bQ hk];rfl
 rw[hn]
 have hm:(L.getD k aG).name∈(dF L).take k↔∃i,i<k∧(L.getD i aG).name=(L.getD k aG).name:=by
  unfold dF
  rw[←List.map_take,List.mem_map]
  constructor
  ·rintro ⟨x,hx,e⟩
   obtain ⟨i,hi,rfl⟩:=List.getElem_of_mem hx
   rw[List.length_take] at hi
   refine⟨i,by omega,?_⟩
   rw[List.getElem_take] at e
   rw[←e,List.getD,bQ (by omega)];rfl
  ·rintro ⟨i,hi,e⟩
   refine⟨L.getD i aG,?_,e⟩
   rw[List.getD,bQ (by omega)]
   exact List.mem_take_iff_getElem.2 ⟨i,by omega,rfl⟩
 rw[hm]
 constructor
 ·rintro h ⟨i,hi,e⟩
  have key:∀i,i<k→vI (L.getD k aG).name (L.getD i aG)=false:=by
   intro i
   induction i using Nat.strongRecOn with
   | _ i ih=>
    intro hi
    rw[Bool.eq_false_iff]
    intro ht
    have h2:=(rY (x0:=aG) (by omega) (fun j hj=>ih j hj (by omega)) ht).2
    have h3:eP L (L.getD k aG).name=i:=h2
    omega
  have h4:=key i hi
  unfold vI at h4
  rw[decide_eq_true e] at h4
  cases h4
 ·intro h
  refine(rY (x0:=aG) hk (fun i hi=>?_) ?_).2
  ·unfold vI
   rw[decide_eq_false]
   exact fun e=>h ⟨i,hi,e⟩
  ·unfold vI;simp
theorem aay {L:List Fc} (h32:L.length≤32):jk L=true↔∀k,k<L.length→N9 L k (L.getD k aG):=by
 have hw:∀ws:List ByteArray,(ws.any fun s=>cu (dF L) s)=false↔∀j,j<ws.length→¬eP L (ws.getD j .empty)≥0:=by
  intro ws
  constructor
  ·intro h j hj
   rw[Et,←uF]
   intro hh
   rw[List.any_eq_false] at h
   refine h (ws.getD j .empty) ?_ hh
   rw[List.getD,bQ hj];exact List.getElem_mem hj
  ·intro h
   rw[List.any_eq_false]
   intro x hx hh
   obtain ⟨j,hj,rfl⟩:=List.getElem_of_mem hx
   have:=h j hj
   rw[List.getD,bQ hj,Et,←uF] at this
   exact this hh
 have hn:∀ws:List ByteArray,(ws.any fun s=>!nameB s)=false↔∀j,j<ws.length→nameB (ws.getD j .empty)=true:=by
  intro ws
  constructor
  ·intro h j hj
   rw[List.any_eq_false] at h
   have:=h (ws.getD j .empty) (by rw[List.getD,bQ hj];exact List.getElem_mem hj)
   simpa using this
  ·intro h
   rw[List.any_eq_false]
   intro x hx
   obtain ⟨j,hj,rfl⟩:=List.getElem_of_mem hx
   have:=h j hj
   rw[List.getD,bQ hj] at this
   simpa using this
 have hone:∀(k:Nat) (x:Fc),(uP (dF L) x=false∧eP L x.name=k)↔N9 L k x:=by
  intro k x
  unfold uP qF N9 Qj
  rw[Bool.or_eq_false_iff,Bool.not_eq_false',aT]
  constructor
  ·rintro ⟨⟨⟨h1,h2⟩,h3⟩,h4⟩
   refine⟨h1,h4,?_⟩
   by_cases k0:x.kind=0
   ·rw[if_pos k0] at h2
    simp only[aT,decide_eq_true_eq] at h2
    exact .inl ⟨k0,h2.1.1,h2.1.2,h2.2⟩
   ·rw[if_neg k0] at h2
    by_cases k1:x.kind=1
    ·rw[if_pos k1] at h2
     simp only[aT,decide_eq_true_eq] at h2
     exact .inr (.inl ⟨k1,h2.1,h2.2⟩)
    ·rw[if_neg k1] at h2
     by_cases k2:x.kind=2
     ·rw[if_pos k2] at h2
      simp only[aT,decide_eq_true_eq,Bool.not_eq_true'] at h2
      obtain ⟨⟨⟨⟨z,l1⟩,l2⟩,nd⟩,nm⟩:=h2
      exact .inr (.inr ⟨k2,z,l1,l2,fun j hj=>⟨(hn _).1 nm j hj,nodup_iff.1 nd j hj,(hw _).1 h3 j hj⟩⟩)
     ·rw[if_neg k2] at h2;cases h2
  ·rintro ⟨h1,h4,h⟩
   rcases h with ⟨k0,a,b,c⟩|⟨k1,a,b⟩|⟨k2,z,l1,l2,w⟩
   ·have hnil:=List.eq_nil_of_length_eq_zero c
    rw[if_pos k0]
    refine⟨⟨⟨h1,?_⟩,by rw[hnil];rfl⟩,h4⟩
    simp only[aT,decide_eq_true_eq]
    exact⟨⟨a,b⟩,c⟩
   ·have hnil:=List.eq_nil_of_length_eq_zero b
    rw[if_neg (by omega),if_pos k1]
    refine⟨⟨⟨h1,?_⟩,by rw[hnil];rfl⟩,h4⟩
    simp only[aT,decide_eq_true_eq]
    exact⟨a,b⟩
   ·rw[if_neg (by omega),if_neg (by omega),if_pos k2]
    refine⟨⟨⟨h1,?_⟩,(hw _).2 fun j hj=>(w j hj).2.2⟩,h4⟩
    simp only[aT,decide_eq_true_eq,Bool.not_eq_true']
    exact⟨⟨⟨⟨z,l1⟩,l2⟩,nodup_iff.2 fun j hj=>(w j hj).2.1⟩,(hn _).2 fun j hj=>(w j hj).1⟩
 unfold jk vC
 rw[decide_eq_true h32,Bool.true_and,aT,decide_eq_true_eq,Bool.not_eq_true',List.any_eq_false,nodup_iff,Ag]
 constructor
 ·rintro ⟨h1,h2⟩ k hk
  refine(hone k _).1 ⟨?_,(MJ hk).2 (h1 k hk)⟩
  have:=h2 (L.getD k aG) (by rw[List.getD,bQ hk];exact List.getElem_mem hk)
  simpa using this
 ·intro h
  refine⟨fun k hk=>(MJ hk).1 ((hone k _).2 (h k hk)).2,fun x hx=>?_⟩
  obtain ⟨k,hk,rfl⟩:=List.getElem_of_mem hx
  have:=((hone k _).2 (h k hk)).1
  rw[List.getD,bQ hk] at this
  simpa using this
set_option maxRecDepth 100000
variable {G:IH}
noncomputable def Ie (L:List Fc):aZ:=fun f a=>match f,a with
 | 100,[.con (.string s)]=>some (db (nameB s))
 | 101,[_,.con (.string s)]=>some (di (eP L s))
 | 25,[fr a b,fr c d]=>some (.au [di (dM a b c d),db (iF a b c d)])
 | 55,[w,.con (.string s)]=>some (db (cu (jP w) s))
 | _,_=>none
abbrev fcC (x:Fc):List AV:=[.d (ds x.name),vi x.kind,vi x.ln,vi x.ld,vi x.hn,vi x.hd,.d (lC x.words)]
noncomputable def S22 (L:List Fc) (k:Nat):AS:=⟨regs Tryz.f54.ntmps [(0,.d (fC L)),(3,.box 3 0),(4,vi k)],[(3,[vi 0,vi 0])]⟩
noncomputable def adn (L:List Fc) (k j:Nat):AS:=⟨regs Tryz.f54.ntmps [(0,.d (fC L)),(3,.box 3 0),(4,vi k),(5,.box 5 0),(8,vi j)],[(3,[vi 0,vi 0]),(5,fcC (L.getD k aG))]⟩
theorem Na {l:List ByteArray} {j:Nat} (h:j≤l.length):jP (.slc 1 j fun i=>dX l (0+i))=l.take j:=by
 unfold jP
 refine List.ext_getElem (by simp;omega) fun i h1 h2=>?_
 rw[List.getElem_map,List.getElem_range,List.getElem_take]
 unfold dX
 have hi:i<l.length:=by simp at h2;omega
 show rdS (ds (l.getD (0+i) .empty))=l[i]
 rw[Nat.zero_add,List.getD,bQ hi];rfl
theorem Wp {l:List ByteArray} {i j:Nat} (hi:i<j):dX l (0+i)=dX (l.take j) i:=by
 unfold dX
 rw[Nat.zero_add,List.getD,List.getD,List.getElem?_take_of_lt hi]
theorem f54 (hT:Tab G) (L:List Fc) (h:∀i,i<L.length→sS (L.getD i aG)) (hl:L.length≤1000):aj Tryz.prog G 54 [fC L] (db (jk L)):=by
 refine aj.walk (ay:=Ie L) (keep:=[]) follows Tryz.func54 rfl Tryz.call54 ?_
 refine aA (fun ZT ZW ZQ _=>((((decide ((↑L.length:Int)>32))=true)→(((db false):DV)=(db (jk L))))∧(((decide ((↑L.length:Int)>32))=false)→ZW [cd Tryz.f54 [1,1,1,0,1,0],(.blk 0),cd Tryz.f54 [1,1,1,1]] (aI ZT [1]) ZQ))) (by kernel_rfl) ?_
 refine⟨fun h32=>?_,fun h32=>?_⟩
 ·have h32:=of_decide_eq_true h32
  unfold jk
  rw[decide_eq_false (by omega)];rfl
 have h32:=of_decide_eq_false h32
 have hvf:=aay (L:=L) (by omega)
 have hfalse:∀k,k<L.length→¬N9 L k (L.getD k aG)→db false=db (jk L):=by
  intro k hk hn
  refine congrArg db ?_
  cases hv:jk L with
  | false=>rfl
  | true=>exact absurd (hvf.1 hv k hk) hn
 refine aC.loop (c:=dR (aQ Tryz.f54) [1,1,1,0,1,0,0]) (by kernel_rfl) (S22 L) (fun k=>k≤L.length∧∀i,i<k→N9 L i (L.getD i aG)) (fun k=>L.length-k) 0 ?_ ⟨Nat.zero_le _,fun i hi=>absurd hi (Nat.not_lt_zero _)⟩ ?_
 ·exact AS.dB (by kernel_rfl)
 ·rintro k ⟨hk,hkd⟩
  refine walk (ay:=Ie L) (keep:=[]) (cuts:=[]) (n:=1000) follows ?_
  refine bW (fun ZT ZW ZQ ZK ZA ZR=>(fun Za Zb Zc Zd=>((((decide ((↑k:Int)<↑L.length))=true)→(((0≤(↑k:Int))∧((↑k:Int)<↑L.length))∧(ZK 100 [(ds (L.getD (↑k:Int).toNat aG).name)] (db (nameB (L.getD (↑k:Int).toNat aG).name))∧(((!!nameB (L.getD (↑k:Int).toNat aG).name)=true)→ZK 101 [(.slc 7 L.length (gV L)),(ds (L.getD (↑k:Int).toNat aG).name)] (di (eP L (L.getD (↑k:Int).toNat aG).name))))∧((Zd=true)→(((db false):DV)=(db (jk L))))∧((Zd=false)→(((((L.getD (↑k:Int).toNat aG).kind==0)=true)→(ZK 25 [(.agg [(di (L.getD (↑k:Int).toNat aG).ln),(di (L.getD (↑k:Int).toNat aG).ld)]),(.agg [(di (L.getD (↑k:Int).toNat aG).hn),(di (L.getD (↑k:Int).toNat aG).hd)])] (.au [(di (dM (L.getD (↑k:Int).toNat aG).ln (L.getD (↑k:Int).toNat aG).ld (L.getD (↑k:Int).toNat aG).hn (L.getD (↑k:Int).toNat aG).hd)),(db (iF (L.getD (↑k:Int).toNat aG).ln (L.getD (↑k:Int).toNat aG).ld (L.getD (↑k:Int).toNat aG).hn (L.getD (↑k:Int).toNat aG).hd))])∧(((!iF (Fc.ln Za) (Fc.ld Za) (Fc.hn Za) (Fc.hd Za)||decide (dM (Fc.ln Za) (Fc.ld Za) (Fc.hn Za) (Fc.hd Za)>0)||decide ((↑(List.length (Fc.words Za)):Int)>0))=true)→(((db false):DV)=(db (jk L))))∧(((!iF (Fc.ln Za) (Fc.ld Za) (Fc.hn Za) (Fc.hd Za)||decide (dM (Fc.ln Za) (Fc.ld Za) (Fc.hn Za) (Fc.hd Za)>0)||decide ((↑(List.length (Fc.words Za)):Int)>0))=false)→((I64 (↑k+1))∧(ZA (aI ZT [0,1,0,1]))))))∧((((L.getD (↑k:Int).toNat aG).kind==0)=false)→(((((L.getD (↑k:Int).toNat aG).kind==1)=true)→((((!Bool.rec false (Zb.ld==0) (Zb.ln==0)||!Bool.rec false (Zb.hd==0) (Zb.hn==0)||decide (Zc>0))=true)→(((db false):DV)=(db (jk L))))∧(((!Bool.rec false (Zb.ld==0) (Zb.ln==0)||!Bool.rec false (Zb.hd==0) (Zb.hn==0)||decide (Zc>0))=false)→((I64 (↑k+1))∧(ZA (aI ZT [0,1,1,0,1]))))))∧((((L.getD (↑k:Int).toNat aG).kind==1)=false)→(((((L.getD (↑k:Int).toNat aG).kind==2)=true)→((((!Bool.rec false (Zb.ld==0) (Zb.ln==0)||!Bool.rec false (Zb.hd==0) (Zb.hn==0)||decide (Zc<1)||decide (Zc>16))=true)→(((db false):DV)=(db (jk L))))∧(((!Bool.rec false (Zb.ld==0) (Zb.ln==0)||!Bool.rec false (Zb.hd==0) (Zb.hn==0)||decide (Zc<1)||decide (Zc>16))=false)→ZW [cd Tryz.f54 [1,1,1,0,1,0,0,1,0,0,1,1,1,0,1,1,1,1,1,0,1,1,0],(.blk 3),(.blk 2),(.blk 1),cd Tryz.f54 [1,1,1,0,1,0,0,1,1]] (aI ZT [0,1,1,1,0,1]) ZR)))∧((((L.getD (↑k:Int).toNat aG).kind==2)=false)→(((db false):DV)=(db (jk L))))))))))))∧(((decide ((↑k:Int)<↑L.length))=false)→ZW [cd Tryz.f54 [1,1,1,1]] (aI ZT [1]) ZQ))) (List.getD L (Int.toNat (↑k:Int)) aG) (L.getD ((↑k:Int):Int).toNat aG) (↑(L.getD (↑k:Int).toNat aG).words.length:Int) (!nameB (L.getD (↑k:Int).toNat aG).name||eP L (L.getD (↑k:Int).toNat aG).name != ↑k)) (by kernel_rfl) ?_
  simp only[Int.toNat_natCast,iT,oO]
  refine⟨fun h1=>?_,fun h1=>?_⟩
  ·have hk2:k<L.length:=by have:=of_decide_eq_true h1;omega
   have hF:=h k hk2
   have hnext:N9 L k (L.getD k aG)→∀i,i<k+1→N9 L i (L.getD i aG):=fun hr i hi=>by
    rcases Nat.lt_or_ge i k with h4|h4
    ·exact hkd i h4
    ·obtain rfl:i=k:=by omega
     exact hr
   have hF2:=hF.ln
   refine⟨⟨by omega,by omega⟩,⟨f100 hT _ hF.nm,fun _=>f101 L _ (by omega)⟩,fun h2=>hfalse k hk2 ?_,fun h2=>?_⟩
   ·rintro ⟨a,b,_⟩
    rw[a,b] at h2
    simp at h2
   ·simp only[Bool.or_eq_false_iff,Bool.not_eq_false',bne_eq_false_iff_eq] at h2
    obtain ⟨hnm,hfd⟩:=h2
    simp only[XQ,beq_iff_eq,beq_eq_false_iff_ne,ne_eq]
    refine⟨fun k0=>⟨f25 _ _ _ _,fun h3=>hfalse k hk2 ?_,fun h3=>⟨⟨by omega,by omega⟩,Again.mk (k+1) ?_ ⟨hk2,hnext ⟨hnm,hfd,.inl ⟨k0,?_⟩⟩⟩ (by omega)⟩⟩,fun k0=>⟨fun k1=>⟨fun h3=>hfalse k hk2 ?_,fun h3=>⟨⟨by omega,by omega⟩,Again.mk (k+1) ?_ ⟨hk2,hnext ⟨hnm,hfd,.inr (.inl ⟨k1,?_⟩)⟩⟩ (by omega)⟩⟩,fun k1=>⟨fun k2=>⟨fun h3=>hfalse k hk2 ?_,fun h3=>?_⟩,fun k2=>hfalse k hk2 ?_⟩⟩⟩
    ·rintro ⟨_,_,⟨_,a,b,c⟩|⟨e,_⟩|⟨e,_⟩⟩
     ·rw[a,decide_eq_false (by omega),decide_eq_false (by omega)] at h3
      cases h3
     ·omega
     ·omega
    ·exact AS.dB (by kernel_rfl)
    ·simp only[Bool.or_eq_false_iff,Bool.not_eq_false',decide_eq_false_iff_not] at h3
     exact⟨h3.1.1,by omega,by omega⟩
    ·rintro ⟨_,_,⟨e,_⟩|⟨_,a,b⟩|⟨e,_⟩⟩
     ·omega
     ·unfold rE at a
      simp only[aT] at a
      rw[a.1.1,a.1.2,a.2.1,a.2.2,decide_eq_false (by omega)] at h3
      cases h3
     ·omega
    ·exact AS.dB (by kernel_rfl)
    ·simp only[Bool.or_eq_false_iff,Bool.not_eq_false',decide_eq_false_iff_not] at h3
     unfold rE
     rw[Bool.and_comm (_==0) (_==0)] at h3
     refine⟨?_,by omega⟩
     have a:=h3.1.1
     have b:=h3.1.2
     simp only[aT] at a b⊢
     exact⟨⟨a.2,a.1⟩,b⟩
    ·rintro ⟨_,_,⟨e,_⟩|⟨e,_⟩|⟨_,a,b,c,_⟩⟩
     ·omega
     ·omega
     ·unfold rE at a
      simp only[aT] at a
      rw[a.1.1,a.1.2,a.2.1,a.2.2,decide_eq_false (by omega),decide_eq_false (by omega)] at h3
      cases h3
    ·simp only[Bool.or_eq_false_iff,Bool.not_eq_false',decide_eq_false_iff_not,aT] at h3
     obtain ⟨⟨⟨z1,z2⟩,l1⟩,l2⟩:=h3
     have hz:rE (L.getD k aG)=true:=by
      unfold rE
      simp only[aT]
      exact⟨z1,z2⟩
     refine aC.loop (c:=dR (aQ Tryz.f54) [1,1,1,0,1,0,0,1,0,0,1,1,1,0,1,1,1,1,1,0,1,1,0,0]) (by kernel_rfl) (adn L k) (fun j=>j≤(L.getD k aG).words.length∧∀i,i<j→nameB ((L.getD k aG).words.getD i .empty)=true∧(L.getD k aG).words.getD i .empty∉(L.getD k aG).words.take i∧¬eP L ((L.getD k aG).words.getD i .empty)≥0) (fun j=>(L.getD k aG).words.length-j) 0 ?_ ⟨Nat.zero_le _,fun i hi=>absurd hi (Nat.not_lt_zero _)⟩ ?_
     ·refine AS.leZ [] [1] (b:=((T0∧T0∧T0∧T0∧T0∧True)∧T0∧((some [(vs (L.getD (↑k:Int).toNat aG).name),(vi (L.getD (↑k:Int).toNat aG).kind),(vi (L.getD (↑k:Int).toNat aG).ln),(vi (L.getD (↑k:Int).toNat aG).ld),(vi (L.getD (↑k:Int).toNat aG).hn),(vi (L.getD (↑k:Int).toNat aG).hd),(.d (.slc 1 (L.getD (↑k:Int).toNat aG).words.length (dX (L.getD (↑k:Int).toNat aG).words)))]):(Option (List AV)))=(some [(vs (L.getD k aG).name),(vi (L.getD k aG).kind),(vi (L.getD k aG).ln),(vi (L.getD k aG).ld),(vi (L.getD k aG).hn),(vi (L.getD k aG).hd),(.d (.slc 1 (L.getD k aG).words.length (dX (L.getD k aG).words)))])∧True)) (by kernel_rfl) (by kernel_rfl) ?_
      exact⟨⟨rfl,rfl,rfl,rfl,rfl,trivial⟩,rfl,rfl,trivial⟩
     ·rintro j ⟨hj,hjd⟩
      refine walk (ay:=Ie L) (keep:=[]) (cuts:=[]) (n:=1000) follows ?_
      refine bW (fun ZT ZW ZQ ZK ZA _=>(fun Za Zb Zc=>((((decide ((↑j:Int)<↑(L.getD k aG).words.length))=true)→((((0≤(↑j:Int))∧((↑j:Int)<↑(L.getD k aG).words.length))∧ZK 100 [(ds Za)] (db (nameB Za))∧(((!!nameB Za)=true)→(((0:Int)≤(0:Int))∧(0≤(↑j:Int))∧((↑j:Int)≤↑(L.getD k aG).words.length)))∧(((!!nameB Za)=true)→((0≤(↑j:Int))∧((↑j:Int)<↑(L.getD k aG).words.length)))∧(((!!nameB Za)=true)→ZK 55 [(.slc 1 ((↑j:Int)-0).toNat (fun i=>dX (L.getD k aG).words (Int.toNat 0+i))),(ds Za)] (db (cu Zb Za)))∧(((!(!nameB Zc||cu Zb Za))=true)→((0≤(↑j:Int))∧((↑j:Int)<↑(L.getD k aG).words.length)))∧(((!(!nameB Zc||cu Zb Za))=true)→ZK 101 [(.slc 7 L.length (gV L)),(ds Za)] (di (eP L Za))))∧(((!nameB Zc||cu Zb Za||decide (eP L Za≥0))=true)→(((db false):DV)=(db (jk L))))∧(((!nameB Zc||cu Zb Za||decide (eP L Za≥0))=false)→((I64 (↑j+1))∧(ZA (aI ZT [0,1]))))))∧(((decide ((↑j:Int)<↑(L.getD k aG).words.length))=false)→ZW [(.blk 2),(.blk 1),cd Tryz.f54 [1,1,1,0,1,0,0,1,1]] (aI ZT [1]) ZQ))) ((L.getD k aG).words.getD (↑j:Int).toNat ByteArray.empty) (jP (DV.slc 1 ((↑j:Int)-0).toNat fun i=>dX (L.getD k aG).words (Int.toNat 0+i))) ((L.getD k aG).words.getD ((↑j:Int):Int).toNat ByteArray.empty)) (by kernel_rfl) ?_
      simp only[Int.toNat_natCast,iT,oO,Na hj]
      refine⟨fun h4=>?_,fun h4=>?_⟩
      ·have hj2:j<(L.getD k aG).words.length:=by have:=of_decide_eq_true h4;omega
       have ej:((j:Int)-0).toNat=j:=by omega
       have es:jP (.slc 1 ((j:Int)-0).toNat fun i=>dX (L.getD k aG).words (Int.toNat 0+i))=(L.getD k aG).words.take j:=by
        rw[ej];exact Na hj
       have Sz:aj Tryz.prog G 55 [.slc 1 ((j:Int)-0).toNat fun i=>dX (L.getD k aG).words (Int.toNat 0+i),ds ((L.getD k aG).words.getD j .empty)] (db (cu ((L.getD k aG).words.take j) ((L.getD k aG).words.getD j .empty))):=by
        have htl:((L.getD k aG).words.take j).length=j:=by rw[List.length_take];omega
        refine(f55 ((L.getD k aG).words.take j) ((L.getD k aG).words.getD j .empty) (by omega)).args fun kk us=>DV.fK (fun v hv=>?_) (fun _ h=>h) us
        rw[htl]
        rw[ej] at hv
        refine DV.dJ (fun i hi=>?_) hv
        exact Wp hi
       simp only[es]
       have hbad:(!nameB ((L.getD k aG).words.getD j .empty)||cu ((L.getD k aG).words.take j) ((L.getD k aG).words.getD j .empty)||decide (eP L ((L.getD k aG).words.getD j .empty)≥0))=false↔(nameB ((L.getD k aG).words.getD j .empty)=true∧(L.getD k aG).words.getD j .empty∉(L.getD k aG).words.take j∧¬eP L ((L.getD k aG).words.getD j .empty)≥0):=by
        rw[Bool.or_eq_false_iff,Bool.or_eq_false_iff,Bool.not_eq_false',decide_eq_false_iff_not,←uF,Bool.not_eq_true,and_assoc]
       refine⟨⟨⟨by omega,by omega⟩,f100 hT _ (hF.wd j hj2),fun _=>⟨by omega,by omega,by omega⟩,fun _=>⟨by omega,by omega⟩,fun _=>Sz,fun _=>⟨by omega,by omega⟩,fun _=>f101 L _ (by omega)⟩,fun h5=>hfalse k hk2 ?_,fun h5=>⟨⟨by omega,by omega⟩,Again.mk (j+1) ?_ ⟨hj2,fun i hi=>?_⟩ (by omega)⟩⟩
       ·rintro ⟨_,_,⟨e,_⟩|⟨e,_⟩|⟨_,_,_,_,w⟩⟩
        ·omega
        ·omega
        ·rw[hbad.2 (w j hj2)] at h5;cases h5
       ·exact AS.dB (by kernel_rfl)
       ·rcases Nat.lt_or_ge i j with h6|h6
        ·exact hjd i h6
        ·obtain rfl:i=j:=by omega
         exact hbad.1 h5
      ·have h4:=of_decide_eq_false h4
       refine walk (ay:=Ie L) (keep:=[]) (cuts:=[]) (n:=1000) follows ?_
       refine bW (fun ZT _ _ _ ZA _=>((I64 (↑k+1))∧(ZA (aI ZT [])))) (by kernel_rfl) ?_
       refine⟨⟨by omega,by omega⟩,Again.mk (k+1) ?_ ⟨hk2,hnext ⟨hnm,hfd,.inr (.inr ⟨k2,hz,by omega,by omega,fun i hi=>hjd i (by omega)⟩)⟩⟩ (by omega)⟩
       exact AS.dB (by kernel_rfl)
    ·rintro ⟨_,_,⟨e,_⟩|⟨e,_⟩|⟨e,_⟩⟩
     ·exact k0 e
     ·exact k1 e
     ·exact k2 e
  ·simp only[decide_eq_false_iff_not] at h1
   refine walk (ay:=Ie L) (keep:=[]) (cuts:=[]) (n:=1000) follows ?_
   refine aA (fun _ _ _ _=>(((db true):DV)=(db (jk L)))) (by kernel_rfl) ?_
   rw[hvf.2 fun i hi=>hkd i (by omega)]
/-! The world: descriptions by name,and words. The lists have the last one first. -/
def fM:List Fc→Value→Fc
 | []=>fun _=>aG
 | x :: l=>fun v=>bif iR v (.string x.name) then x else fM l v
def fH:List Fc→Value→Bool
 | []=>fun _=>false
 | x :: l=>fun v=>iR v (.string x.name)||fH l v
def wL:List ByteArray→Value→Bool
 | []=>fun _=>false
 | s :: l=>fun v=>iR v (.string s)||wL l v
abbrev fV (l:List Fc):Value→DV:=fun v=>qU (fM l v)
abbrev wV (l:List ByteArray):Value→DV:=fun v=>.con (.bool (wL l v))
theorem Yz (l:List Fc) (x:Fc):bV (.string x.name) (qU x) (fV l)=fV (x :: l):=by
 funext v
 unfold bV
 simp only[fV,fM]
 cases iR v (.string x.name)<;>rfl
theorem Yv (l:List ByteArray) (s:ByteArray):bV (.string s) (.con (.bool true)) (wV l)=wV (s :: l):=by
 funext v
 unfold bV
 simp only[wV,wL]
 cases iR v (.string s)<;>rfl
abbrev dQ (l:List Fc) (ws:List ByteArray):DV:=.ptr [.mp none (fV l) (fH l),.mp none (wV ws) (wL ws)]
def aW (L:List Fc) (k:Nat):List Fc:=(L.take k).reverse
def dW (L:List Fc) (k:Nat):List ByteArray:=((L.take k).flatMap (·.words)).reverse
theorem Un {L:List Fc} {k:Nat} (h:k<L.length):aW L (k+1)=L.getD k aG :: aW L k:=by
 unfold aW
 rw[List.take_succ_eq_append_getElem h,List.reverse_append,List.getD,bQ h];rfl
def oH (L:List Fc) (k j:Nat):List ByteArray:=((L.getD k aG).words.take j).reverse++dW L k
theorem U2 {L:List Fc} {k j:Nat} (h:j<(L.getD k aG).words.length):oH L k (j+1)=(L.getD k aG).words.getD j .empty :: oH L k j:=by
 unfold oH
 generalize (L.getD k aG).words=ws at *
 rw[List.take_succ_eq_append_getElem h,List.reverse_append,List.getD,bQ h];rfl
theorem Wj {L:List Fc} {k:Nat} (h:k<L.length):oH L k (L.getD k aG).words.length=dW L (k+1):=by
 unfold oH dW
 rw[List.take_length,List.take_succ_eq_append_getElem h,List.flatMap_append,List.reverse_append,List.getD,bQ h]
 simp
noncomputable def Zv (L:List Fc) (k:Nat):AS:=⟨regs Tryz.f63.ntmps [(3,.box 11 0),(12,.d (fC L)),(13,vi L.length),(14,vi k)],[(11,[.dw 8,.dw 9]),(8,[.mp none (fV (aW L k)) (fH (aW L k))]),(9,[.mp none (wV (dW L k)) (wL (dW L k))])]⟩
noncomputable def aah (L:List Fc) (k j:Nat):AS:=⟨regs Tryz.f63.ntmps [(3,.box 11 0),(12,.d (fC L)),(13,vi L.length),(14,vi k),(26,.d (lC (L.getD k aG).words)),(27,vi (L.getD k aG).words.length),(28,vi j)],[(11,[.dw 8,.dw 9]),(8,[.mp none (fV (aW L (k+1))) (fH (aW L (k+1)))]),(9,[.mp none (wV (oH L k j)) (wL (oH L k j))])]⟩
abbrev KX (L:List Fc):DV:=dQ (aW L L.length) (dW L L.length)
theorem f63 (L:List Fc) (hl:L.length≤100000) (hw:∀i,i<L.length→(L.getD i aG).words.length≤100000):aj Tryz.prog G 63 [fC L] (KX L):=by
 refine aj.walk (ay:=jo) (keep:=[]) follows Tryz.func63 rfl Tryz.call63 ?_
 refine vk (b:=aC Tryz.prog G [cd Tryz.f63 [1,1,0,1,0],(.blk 0),cd Tryz.f63 [1,1,1]] ⟨regs 40 [(0,(.d (.slc 7 L.length (gV L)))),(2,(.d (.con (.pointer none)))),(3,(.box 11 0)),(8,(.dw 8)),(9,(.dw 9)),(10,(.agg [(.dw 8),(.dw 9)])),(11,(.box 11 0)),(12,(.d (.slc 7 L.length (gV L)))),(13,(vi (↑L.length))),(14,(vi 0))],[(11,[(.dw 8),(.dw 9)]),(9,[(.mp none (fun x=>DV.con (Value.bool false)) (fun x=>false))]),(8,[(.mp none (fun x=>DV.agg (List.map DV.con [Value.string (ByteArray.mk #[]),Value.int IntKind.i64 0,Value.int IntKind.i64 0,Value.int IntKind.i64 0,Value.int IntKind.i64 0,Value.int IntKind.i64 0,Value.slice none 0 0])) (fun x=>false))])]⟩ (fF Tryz.prog Tryz.f63 (KX L))) (by kernel_rfl) ?_
 refine aC.pre (.VL _ 8 (fV []) rfl fun _ h=>(by cases h)) ?_
 refine aC.loop (c:=dR (aQ Tryz.f63) [1,1,0,1,0,0]) (by kernel_rfl) (Zv L) (fun k=>k≤L.length) (fun k=>L.length-k) 0 ?_ (Nat.zero_le _) ?_
 ·refine AS.leZ [] [1,2] (b:=((T0∧T0∧T0∧T0∧True)∧T0∧((some [(.mp none (fV []) (fun x=>false))]):(Option (List AV)))=(some [(.mp none (fV (aW L 0)) (fH (aW L 0)))])∧((some [(.mp none (fun x=>DV.con (Value.bool false)) (fun x=>false))]):(Option (List AV)))=(some [(.mp none (wV (dW L 0)) (wL (dW L 0)))])∧True)) (by kernel_rfl) (by kernel_rfl) ?_
  exact⟨⟨rfl,rfl,rfl,rfl,trivial⟩,rfl,rfl,rfl,trivial⟩
 ·intro k hk
  refine walk (ay:=jo) (keep:=[]) (cuts:=[]) (n:=1000) follows ?_
  refine rV ((.slc 1 (L.getD (↑k:Int).toNat aG).words.length (dX (L.getD (↑k:Int).toNat aG).words)):DV) (decide ((↑k:Int)<↑L.length)) (fun Za Zb=>(((Zb=true)→(((0≤(↑k:Int))∧((↑k:Int)<↑L.length))∧aC Tryz.prog G [cd Tryz.f63 [1,1,0,1,0,0,1,1,0,0,1,1,1,0],(.blk 2),(.blk 1),cd Tryz.f63 [1,1,0,1,0,0,1,1,1]] ⟨regs 40 [(3,(.box 11 0)),(5,(.box 5 0)),(12,(.d (.slc 7 L.length (gV L)))),(13,(vi (↑L.length))),(14,(vi (↑k))),(15,(vb Zb)),(16,(.d (.ptr [(ds (L.getD (↑k:Int).toNat aG).name),(di (L.getD (↑k:Int).toNat aG).kind),(di (L.getD (↑k:Int).toNat aG).ln),(di (L.getD (↑k:Int).toNat aG).ld),(di (L.getD (↑k:Int).toNat aG).hn),(di (L.getD (↑k:Int).toNat aG).hd),Za]))),(17,(.d (qU (L.getD (↑k:Int).toNat aG)))),(18,(.box 11 0)),(19,(.box 11 0)),(20,(.box 11 0)),(21,(.dw 8)),(22,(.box 5 0)),(23,(vs (L.getD (↑k:Int).toNat aG).name)),(24,(.d (qU (L.getD (↑k:Int).toNat aG)))),(25,(.box 5 6)),(26,(.d Za)),(27,(vi (↑(L.getD (↑k:Int).toNat aG).words.length))),(28,(vi 0))],[(5,[(vs (L.getD (↑k:Int).toNat aG).name),(vi (L.getD (↑k:Int).toNat aG).kind),(vi (L.getD (↑k:Int).toNat aG).ln),(vi (L.getD (↑k:Int).toNat aG).ld),(vi (L.getD (↑k:Int).toNat aG).hn),(vi (L.getD (↑k:Int).toNat aG).hd),(.d Za)]),(11,[(.dw 8),(.dw 9)]),(8,[(.mp none (bV (Value.string (L.getD (↑k:Int).toNat aG).name) (qU (L.getD (↑k:Int).toNat aG)) (fV (aW L k))) (bT (Value.string (L.getD (↑k:Int).toNat aG).name) (fH (aW L k))))]),(9,[(.mp none (wV (dW L k)) (wL (dW L k)))])]⟩ (nR Tryz.prog G [(.blk 0),cd Tryz.f63 [1,1,1]] (fF Tryz.prog Tryz.f63 (KX L)) (Zv L) (fun k=>k≤L.length) (fun k=>L.length-k) k)))∧((Zb=false)→aC Tryz.prog G [cd Tryz.f63 [1,1,1]] ⟨regs 40 [(3,(.box 11 0)),(12,(.d (.slc 7 L.length (gV L)))),(13,(vi (↑L.length))),(14,(vi (↑k))),(15,(vb Zb))],[(11,[(.dw 8),(.dw 9)]),(8,[(.mp none (fV (aW L k)) (fH (aW L k)))]),(9,[(.mp none (wV (dW L k)) (wL (dW L k)))])]⟩ (fF Tryz.prog Tryz.f63 (KX L))))) (by kernel_rfl) ?_
  simp only[Int.toNat_natCast]
  refine⟨fun h1=>?_,fun h1=>?_⟩
  ·have hk2:k<L.length:=by have:=of_decide_eq_true h1;omega
   have hwk:=hw k hk2
   refine⟨⟨by omega,by omega⟩,?_⟩
   refine aC.loop (c:=dR (aQ Tryz.f63) [1,1,0,1,0,0,1,1,0,0,1,1,1,0,0]) (by kernel_rfl) (aah L k) (fun j=>j≤(L.getD k aG).words.length) (fun j=>(L.getD k aG).words.length-j) 0 ?_ (Nat.zero_le _) ?_
   ·refine AS.leZ [] [1,2] (b:=((T0∧T0∧T0∧T0∧T0∧T0∧T0∧True)∧T0∧((some [(.mp none (bV (Value.string (L.getD k aG).name) (qU (L.getD k aG)) (fV (aW L k))) (bT (Value.string (L.getD k aG).name) (fH (aW L k))))]):(Option (List AV)))=(some [(.mp none (fV (aW L (k+1))) (fH (aW L (k+1))))])∧((some [(.mp none (wV (dW L k)) (wL (dW L k)))]):(Option (List AV)))=(some [(.mp none (wV (oH L k 0)) (wL (oH L k 0)))])∧True)) (by kernel_rfl) (by kernel_rfl) ?_
    refine⟨⟨rfl,rfl,rfl,rfl,rfl,rfl,rfl,trivial⟩,rfl,?_,rfl,trivial⟩
    rw[Un hk2,←Yz]
    rfl
   ·intro j hj
    refine walk (ay:=jo) (keep:=[]) (cuts:=[]) (n:=1000) follows ?_
    refine rV ((L.getD k aG).words.getD (↑j:Int).toNat ByteArray.empty) (decide ((↑j:Int)<↑(L.getD k aG).words.length)) (fun Za Zb=>(((Zb=true)→(((0≤(↑j:Int))∧((↑j:Int)<↑(L.getD k aG).words.length))∧(I64 (↑j+1))∧Again (aah L k) (fun j=>j≤(L.getD k aG).words.length) (fun j=>(L.getD k aG).words.length-j) j ⟨regs 40 [(3,(.box 11 0)),(7,(vs Za)),(12,(.d (.slc 7 L.length (gV L)))),(13,(vi (↑L.length))),(14,(vi (↑k))),(26,(.d (.slc 1 (L.getD k aG).words.length (dX (L.getD k aG).words)))),(27,(vi (↑(L.getD k aG).words.length))),(28,(vi (↑j+1))),(29,(vb Zb)),(30,(.d (.ptr [(ds Za)]))),(31,(vs Za)),(32,(.box 11 0)),(33,(.box 11 0)),(34,(.box 11 1)),(35,(.dw 9)),(36,(vs Za)),(37,(vi (↑j+1)))],[(11,[(.dw 8),(.dw 9)]),(8,[(.mp none (fV (aW L (k+1))) (fH (aW L (k+1))))]),(9,[(.mp none (bV (Value.string Za) (DV.con (Value.bool true)) (wV (oH L k j))) (bT (Value.string Za) (wL (oH L k j))))])]⟩))∧((Zb=false)→aC Tryz.prog G [(.blk 1),cd Tryz.f63 [1,1,0,1,0,0,1,1,1]] ⟨regs 40 [(3,(.box 11 0)),(12,(.d (.slc 7 L.length (gV L)))),(13,(vi (↑L.length))),(14,(vi (↑k))),(26,(.d (.slc 1 (L.getD k aG).words.length (dX (L.getD k aG).words)))),(27,(vi (↑(L.getD k aG).words.length))),(28,(vi (↑j))),(29,(vb Zb))],[(11,[(.dw 8),(.dw 9)]),(8,[(.mp none (fV (aW L (k+1))) (fH (aW L (k+1))))]),(9,[(.mp none (wV (oH L k j)) (wL (oH L k j)))])]⟩ (nR Tryz.prog G [(.blk 0),cd Tryz.f63 [1,1,1]] (fF Tryz.prog Tryz.f63 (KX L)) (Zv L) (fun k=>k≤L.length) (fun k=>L.length-k) k)))) (by kernel_rfl) ?_
    simp only[Int.toNat_natCast]
    refine⟨fun h2=>?_,fun h2=>?_⟩
    ·have hj2:j<(L.getD k aG).words.length:=by have:=of_decide_eq_true h2;omega
     refine⟨⟨by omega,by omega⟩,⟨by omega,by omega⟩,Again.mk (j+1) ?_ hj2 (by omega)⟩
     refine AS.leZ [] [2] (b:=((T0∧T0∧T0∧T0∧T0∧T0∧T0∧True)∧T0∧T0∧((some [(.mp none (bV (Value.string ((L.getD k aG).words.getD j ByteArray.empty)) (DV.con (Value.bool true)) (wV (oH L k j))) (bT (Value.string ((L.getD k aG).words.getD j ByteArray.empty)) (wL (oH L k j))))]):(Option (List AV)))=(some [(.mp none (wV (oH L k (j+1))) (wL (oH L k (j+1))))])∧True)) (by kernel_rfl) (by kernel_rfl) ?_
     refine⟨⟨rfl,rfl,rfl,rfl,rfl,rfl,rfl,trivial⟩,rfl,rfl,?_,trivial⟩
     rw[U2 hj2,←Yv]
     rfl
    ·have h2:=of_decide_eq_false h2
     obtain rfl:j=(L.getD k aG).words.length:=by omega
     refine walk (ay:=jo) (keep:=[]) (cuts:=[]) (n:=1000) follows ?_
     refine bW (fun ZT _ _ _ ZA _=>((I64 (↑k+1))∧(ZA (aI ZT [])))) (by kernel_rfl) ?_
     refine⟨⟨by omega,by omega⟩,Again.mk (k+1) ?_ hk2 (by omega)⟩
     refine AS.leZ [] [2] (b:=((T0∧T0∧T0∧T0∧True)∧T0∧T0∧((some [(.mp none (wV (oH L k (L.getD k aG).words.length)) (wL (oH L k (L.getD k aG).words.length)))]):(Option (List AV)))=(some [(.mp none (wV (dW L (k+1))) (wL (dW L (k+1))))])∧True)) (by kernel_rfl) (by kernel_rfl) ?_
     refine⟨⟨rfl,rfl,rfl,rfl,trivial⟩,rfl,rfl,?_,trivial⟩
     rw[Wj hk2]
  ·simp only[decide_eq_false_iff_not] at h1
   obtain rfl:k=L.length:=by omega
   refine walk (ay:=jo) (keep:=[]) (cuts:=[]) (n:=1000) follows ?_
   refine aA (fun _ _ _ _=>(ZS ((KX L):DV))) (by kernel_rfl) ?_
   rfl
/-! Facts,and the evaluator. -/
structure Ft where
 nm:ByteArray
 kind:Int
 n:Int
 d:Int
 tr:Bool
 wd:ByteArray
 deriving DecidableEq
abbrev aJ:Ft:=⟨.empty,0,0,0,false,.empty⟩
abbrev eX (f:Ft):DV:=.agg [ds f.nm,di f.kind,di f.n,di f.d,db f.tr,ds f.wd]
def kT (L:List Ft) (i:Nat):DV:=eX (L.getD i aJ)
abbrev iJ (L:List Ft):DV:=.slc 6 L.length (kT L)
def tM:List Ft→Value→Ft
 | []=>fun _=>aJ
 | x :: l=>fun v=>bif iR v (.string x.nm) then x else tM l v
def tH:List Ft→Value→Bool
 | []=>fun _=>false
 | x :: l=>fun v=>iR v (.string x.nm)||tH l v
abbrev tV (l:List Ft):Value→DV:=fun v=>eX (tM l v)
theorem XR (l:List Ft) (x:Ft):bV (.string x.nm) (eX x) (tV l)=tV (x :: l):=by
 funext v
 unfold bV
 simp only[tV,tM]
 cases iR v (.string x.nm)<;>rfl
abbrev gI (l:List Ft):DV:=.ptr [.mp none (tV l) (tH l)]
def bC (L:List Ft) (k:Nat):List Ft:=(L.take k).reverse
theorem UD {L:List Ft} {k:Nat} (h:k<L.length):bC L (k+1)=L.getD k aJ :: bC L k:=by
 unfold bC
 rw[List.take_succ_eq_append_getElem h,List.reverse_append,List.getD,bQ h];rfl
noncomputable def S43 (L:List Ft) (k:Nat):AS:=⟨regs Tryz.f43.ntmps [(3,.box 8 0),(9,.d (iJ L)),(10,vi L.length),(11,vi k)],[(8,[.dw 6]),(6,[.mp none (tV (bC L k)) (tH (bC L k))])]⟩
theorem f43 (L:List Ft) (hl:L.length≤100000):aj Tryz.prog G 43 [iJ L] (gI (bC L L.length)):=by
 refine aj.aK (ay:=jo) (keep:=[]) follows Tryz.func43 rfl Tryz.call43 ?_
 refine vk (b:=aC Tryz.prog G [cd Tryz.f43 [1,1,0,1,0],(.blk 0),cd Tryz.f43 [1,1,1]] ⟨regs 24 [(0,(.d (.slc 6 L.length (kT L)))),(2,(.d (.con (.pointer none)))),(3,(.box 8 0)),(6,(.dw 6)),(7,(.agg [(.dw 6)])),(8,(.box 8 0)),(9,(.d (.slc 6 L.length (kT L)))),(10,(vi (↑L.length))),(11,(vi 0))],[(8,[(.dw 6)]),(6,[(.mp none (fun x=>DV.agg (List.map DV.con [Value.string (ByteArray.mk #[]),Value.int IntKind.i64 0,Value.int IntKind.i64 0,Value.int IntKind.i64 0,Value.bool false,Value.string (ByteArray.mk #[])])) (fun x=>false))])]⟩ (fF Tryz.prog Tryz.f43 (gI (bC L L.length)))) (by kernel_rfl) ?_
 refine aC.pre (.VL _ 6 (tV []) rfl fun _ h=>(by cases h)) ?_
 refine aC.loop (c:=dR (aQ Tryz.f43) [1,1,0,1,0,0]) (by kernel_rfl) (S43 L) (fun k=>k≤L.length) (fun k=>L.length-k) 0 ?_ (Nat.zero_le _) ?_
 ·refine AS.leZ [] [1] (b:=((T0∧T0∧T0∧T0∧True)∧T0∧((some [(.mp none (tV []) (fun x=>false))]):(Option (List AV)))=(some [(.mp none (tV (bC L 0)) (tH (bC L 0)))])∧True)) (by kernel_rfl) (by kernel_rfl) ?_
  exact⟨⟨rfl,rfl,rfl,rfl,trivial⟩,rfl,rfl,trivial⟩
 ·intro k hk
  refine aK (ay:=jo) (keep:=[]) (cuts:=[]) (n:=1000) follows ?_
  refine rV ((.d (.agg [(ds (L.getD (↑k:Int).toNat aJ).nm),(di (L.getD (↑k:Int).toNat aJ).kind),(di (L.getD (↑k:Int).toNat aJ).n),(di (L.getD (↑k:Int).toNat aJ).d),(db (L.getD (↑k:Int).toNat aJ).tr),(ds (L.getD (↑k:Int).toNat aJ).wd)])):AV) (Value.string (L.getD (↑k:Int).toNat aJ).nm) (fun Za Zb=>((((decide ((↑k:Int)<↑L.length))=true)→(((0≤(↑k:Int))∧((↑k:Int)<↑L.length))∧(I64 (↑k+1))∧Again (S43 L) (fun k=>k≤L.length) (fun k=>L.length-k) k ⟨regs 24 [(3,(.box 8 0)),(5,(.box 5 0)),(9,(.d (.slc 6 L.length (kT L)))),(10,(vi (↑L.length))),(11,(vi (↑k+1))),(12,(vb true)),(13,(.d (.ptr [(ds (L.getD (↑k:Int).toNat aJ).nm),(di (L.getD (↑k:Int).toNat aJ).kind),(di (L.getD (↑k:Int).toNat aJ).n),(di (L.getD (↑k:Int).toNat aJ).d),(db (L.getD (↑k:Int).toNat aJ).tr),(ds (L.getD (↑k:Int).toNat aJ).wd)]))),(14,Za),(15,(.box 8 0)),(16,(.box 8 0)),(17,(.box 8 0)),(18,(.dw 6)),(19,(.box 5 0)),(20,(vs (L.getD (↑k:Int).toNat aJ).nm)),(21,Za),(22,(vi (↑k+1)))],[(5,[(vs (L.getD (↑k:Int).toNat aJ).nm),(vi (L.getD (↑k:Int).toNat aJ).kind),(vi (L.getD (↑k:Int).toNat aJ).n),(vi (L.getD (↑k:Int).toNat aJ).d),(vb (L.getD (↑k:Int).toNat aJ).tr),(vs (L.getD (↑k:Int).toNat aJ).wd)]),(8,[(.dw 6)]),(6,[(.mp none (bV Zb (DV.agg [DV.con Zb,DV.con (Value.int IntKind.i64 (L.getD (↑k:Int).toNat aJ).kind),DV.con (Value.int IntKind.i64 (L.getD (↑k:Int).toNat aJ).n),DV.con (Value.int IntKind.i64 (L.getD (↑k:Int).toNat aJ).d),DV.con (Value.bool (L.getD (↑k:Int).toNat aJ).tr),DV.con (Value.string (L.getD (↑k:Int).toNat aJ).wd)]) (tV (bC L k))) (bT Zb (tH (bC L k))))])]⟩))∧(((decide ((↑k:Int)<↑L.length))=false)→aC Tryz.prog G [cd Tryz.f43 [1,1,1]] ⟨regs 24 [(3,(.box 8 0)),(9,(.d (.slc 6 L.length (kT L)))),(10,(vi (↑L.length))),(11,(vi (↑k))),(12,(vb false))],[(8,[(.dw 6)]),(6,[(.mp none (tV (bC L k)) (tH (bC L k)))])]⟩ (fF Tryz.prog Tryz.f43 (gI (bC L L.length)))))) (by kernel_rfl) ?_
  simp only[Int.toNat_natCast]
  refine⟨fun h1=>?_,fun h1=>?_⟩
  ·have hk2:k<L.length:=by have:=of_decide_eq_true h1;omega
   refine⟨⟨by omega,by omega⟩,⟨by omega,by omega⟩,Again.mk (k+1) ?_ hk2 (by omega)⟩
   refine AS.leZ [] [1] (b:=((T0∧T0∧T0∧T0∧True)∧T0∧((some [(.mp none (bV (Value.string (L.getD k aJ).nm) (DV.agg [DV.con (Value.string (L.getD k aJ).nm),DV.con (Value.int IntKind.i64 (L.getD k aJ).kind),DV.con (Value.int IntKind.i64 (L.getD k aJ).n),DV.con (Value.int IntKind.i64 (L.getD k aJ).d),DV.con (Value.bool (L.getD k aJ).tr),DV.con (Value.string (L.getD k aJ).wd)]) (tV (bC L k))) (bT (Value.string (L.getD k aJ).nm) (tH (bC L k))))]):(Option (List AV)))=(some [(.mp none (tV (bC L (k+1))) (tH (bC L (k+1))))])∧True)) (by kernel_rfl) (by kernel_rfl) ?_
   refine⟨⟨rfl,rfl,rfl,rfl,trivial⟩,rfl,?_,trivial⟩
   rw[UD hk2,←XR]
   rfl
  ·simp only[decide_eq_false_iff_not] at h1
   obtain rfl:k=L.length:=by omega
   refine aK (ay:=jo) (keep:=[]) (cuts:=[]) (n:=1000) follows ?_
   refine aA (fun _ _ _ _=>(ZS ((gI (bC L L.length)):DV))) (by kernel_rfl) ?_
   rfl
/-! Kinds of values;slices.Equal. -/
abbrev lY (l:List Int):DV:=.slc 1 l.length (dV l)
def rdI (d:DV):Int:=match d with | .con (.int _ n)=>n|_=>0
def jE (d:DV):List Int:=match d with | .slc _ n f=>(List.range n).map fun i=>rdI (f i)|_=>[]
theorem jA (l:List Int):jE (lY l)=l:=by
 unfold jE
 refine List.ext_getElem (by simp) fun i h1 h2=>?_
 rw[List.getElem_map,List.getElem_range]
 unfold dV
 rw[List.getD,bQ h2];rfl
noncomputable def RZ (p:Int→Bool) (l:List Int):aZ:=fun f a=>match f,a with
 | 164,[.con (.int .i64 n),_]=>some (db (p n))
 | 196,[_,_]=>some (di (lZ p l))
 | _,_=>none
noncomputable def acd (l:List Int) (c:DV) (k:Nat):AS:=⟨regs Tryz.f196.ntmps [(0,.d (lY l)),(1,.d (.clo (.func 164) [] [c])),(7,vi l.length),(8,vi k)],[]⟩
theorem abu (p:Int→Bool) (l:List Int) (c:DV) (hl:l.length≤1000000) (hc:∀i,i<l.length→aj Tryz.prog G 164 [di (l.getD i 0),c] (db (p (l.getD i 0)))):aj Tryz.prog G 196 [lY l,(.clo (.func 164) [] [c])] (di (lZ p l)):=by
 refine aj.walk (ay:=RZ p l) (keep:=[]) follows Tryz.func196 rfl Tryz.call196 ?_
 refine aA (fun ZT ZW ZQ _=>ZW [cd Tryz.f196 [1,0,1,0],(.blk 0),cd Tryz.f196 [1,1]] (aI ZT []) ZQ) (by kernel_rfl) ?_
 refine aC.loop (c:=dR (aQ Tryz.f196) [1,0,1,0,0]) (by kernel_rfl) (acd l c) (fun k=>k≤l.length∧∀i,i<k→p (l.getD i 0)=false) (fun k=>l.length-k) 0 ?_ ⟨Nat.zero_le _,fun i hi=>by omega⟩ ?_
 ·exact AS.dB (by kernel_rfl)
 ·rintro k ⟨hk,hkd⟩
  refine walk (ay:=RZ p l) (keep:=[]) (cuts:=[]) (n:=1000) follows ?_
  refine bW (fun ZT ZW ZQ ZK ZA _=>((((decide ((↑k:Int)<↑l.length))=true)→((((0≤(↑k:Int))∧((↑k:Int)<↑l.length))∧ZK 164 [(di (l.getD (↑k:Int).toNat 0)),c] (db (p (l.getD (↑k:Int).toNat 0))))∧(((p (l.getD (↑k:Int).toNat 0))=true)→(((di (↑k)):DV)=(di (lZ p l))))∧(((p (l.getD (↑k:Int).toNat 0))=false)→((I64 (↑k+1))∧(ZA (aI ZT [0,1]))))))∧(((decide ((↑k:Int)<↑l.length))=false)→ZW [cd Tryz.f196 [1,1]] (aI ZT [1]) ZQ))) (by kernel_rfl) ?_
  simp only[Int.toNat_natCast]
  refine⟨fun h=>?_,fun h=>?_⟩
  ·have hk2:k<l.length:=by have:=of_decide_eq_true h;omega
   refine⟨⟨⟨by omega,by omega⟩,hc k hk2⟩,fun h2=>?_,fun h2=>⟨⟨by omega,by omega⟩,Again.mk (k+1) ?_ ⟨hk2,fun i hi=>?_⟩ (by omega)⟩⟩
   ·rw[(rY hk2 hkd h2).2]
   ·exact AS.dB (by kernel_rfl)
   ·rcases Nat.lt_or_ge i k with h4|h4
    ·exact hkd i h4
    ·obtain rfl:i=k:=by omega
     exact h2
  ·simp only[decide_eq_false_iff_not] at h
   have hst:=wR (p:=p) (L:=l) (x0:=0) fun i hi=>hkd i (by omega)
   refine walk (ay:=RZ p l) (keep:=[]) (cuts:=[]) (n:=1000) follows ?_
   refine aA (fun _ _ _ _=>(((di (-1)):DV)=(di (lZ p l)))) (by kernel_rfl) ?_
   rw[hst.2]
theorem abJ (p:Int→Bool) (l:List Int) (c:DV) (hl:l.length≤1000000) (hc:∀i,i<l.length→aj Tryz.prog G 164 [di (l.getD i 0),c] (db (p (l.getD i 0)))):aj Tryz.prog G 163 [lY l,(.clo (.func 164) [] [c])] (db (l.any p)):=by
 refine aj.walk (ay:=RZ p l) (keep:=[]) follows Tryz.func163 rfl Tryz.call163 ?_
 refine aA (fun _ _ _ ZK=>(ZK 196 [(.slc 1 l.length (dV l)),(.clo (.func 164) [] [c])] (di (lZ p l))∧((db (decide (lZ p l≥0))):DV)=(db (l.any p)))) (by kernel_rfl) ?_
 refine⟨abu p l c hl hc,?_⟩
 rw[DF]
theorem f164 (a v:Int):aj Tryz.prog G 164 [di a,.ptr [di v]] (db (a != v)):=by
 refine aj.walk (ay:=jo) (keep:=[]) follows Tryz.func164 rfl Tryz.call164 ?_
 refine aA (fun _ _ _ _=>(ZS ((db (a != v)):DV))) (by kernel_rfl) ?_
 rfl
def lT (l:List Int) (v:Int):Bool:=!l.any fun a=>a != v
noncomputable def EC:aZ:=fun f a=>match f,a with
 | 128,[l,.con (.int .i64 v)]=>some (db (lT (jE l) v))
 | 163,[l,.clo (.func 164) [] [.ptr [.con (.int .i64 v)]]]=>some (db ((jE l).any fun a=>a != v))
 | _,_=>none
theorem f128 (l:List Int) (v:Int) (hl:l.length≤100000):aj Tryz.prog G 128 [lY l,di v] (db (lT l v)):=by
 refine aj.iE Tryz.func128 rfl Tryz.call128 ?_
 refine walk (ay:=EC) (keep:=[]) (cuts:=[1]) (n:=1000) follows ?_
 refine aA (fun ZT ZW ZQ _=>ZW [cd Tryz.f128 [1]] (aI ZT []) ZQ) (by kernel_rfl) ?_
 refine aC.qZ (dl:=[di v]) 3 (by kernel_rfl) rfl ?_
 refine walk (ay:=EC) (keep:=[]) (cuts:=[]) (n:=1000) follows ?_
 refine aA (fun _ _ _ ZK=>(ZK 163 [(.slc 1 l.length (dV l)),(.clo (.func 164) [] [(.ptr [(di v)])])] (db ((jE (DV.slc 1 l.length (dV l))).any fun a=>a != v))∧((db (!(jE (DV.slc 1 l.length (dV l))).any fun a=>a != v)):DV)=(db (lT l v)))) (by kernel_rfl) ?_
 simp only[jA]
 refine⟨abJ (fun a=>a != v) l (.ptr [di v]) (by omega) fun i hi=>f164 _ _,rfl⟩
theorem f125 (m:Nat) (e:Ex) (l:List Int) (v:Int):aj Tryz.prog G 125 [bG m e,lY l,.ptr [di v]] (.au [di v,di 0]):=by
 refine aj.walk (ay:=EC) (keep:=[]) follows Tryz.func125 rfl Tryz.call125 ?_
 refine aA (fun _ _ _ _=>(ZS ((.au [(di v),(di 0)]):DV))) (by kernel_rfl) ?_
 rfl
theorem f124 (v:Int):aj Tryz.prog G 124 [di v] (.clo (.func 125) [] [.ptr [di v]]):=by
 refine aj.walk (ay:=EC) (keep:=[]) follows Tryz.func124 rfl Tryz.call124 ?_
 refine aA (fun _ _ _ _=>(ZS ((.clo (.func 125) [] [(.ptr [(di v)])]):DV))) (by kernel_rfl) ?_
 rfl
theorem f126 (a b:Int):aj Tryz.prog G 126 [di a,di b] (.clo (.func 127) [] [.ptr [di a],.ptr [di b]]):=by
 refine aj.walk (ay:=EC) (keep:=[]) follows Tryz.func126 rfl Tryz.call126 ?_
 refine aA (fun _ _ _ _=>(ZS ((.clo (.func 127) [] [(.ptr [(di a)]),(.ptr [(di b)])]):DV))) (by kernel_rfl) ?_
 rfl
def iW (l:List Int) (a b:Int):Int:=if lT l a then b else 0
def ji (l:List Int) (a:Int):Int:=if lT l a then 0 else 5
theorem f127 (m:Nat) (e:Ex) (l:List Int) (a b:Int) (hl:l.length≤100000):aj Tryz.prog G 127 [bG m e,lY l,.ptr [di a],.ptr [di b]] (.au [di (iW l a b),di (ji l a)]):=by
 refine aj.walk (ay:=EC) (keep:=[]) follows Tryz.func127 rfl Tryz.call127 ?_
 refine aA (fun _ _ _ ZK=>(ZK 128 [(.slc 1 l.length (dV l)),(di a)] (db (lT (jE (DV.slc 1 l.length (dV l))) a))∧(((!lT (jE (DV.slc 1 l.length (dV l))) a)=true)→(((.au [(di 0),(di 5)]):DV)=(.au [(di (iW l a b)),(di (ji l a))])))∧(((!lT (jE (DV.slc 1 l.length (dV l))) a)=false)→(((.au [(di b),(di 0)]):DV)=(.au [(di (iW l a b)),(di (ji l a))]))))) (by kernel_rfl) ?_
 simp only[jA]
 refine⟨f128 l a hl,fun h=>?_,fun h=>?_⟩
 ·rw[Bool.not_eq_true'] at h
  unfold iW ji
  rw[h];rfl
 ·rw[Bool.not_eq_false'] at h
  unfold iW ji
  rw[h];rfl
noncomputable def adt (a b:List ByteArray) (k:Nat):AS:=⟨regs Tryz.f197.ntmps [(0,.d (lC a)),(1,.d (lC b)),(12,vi a.length),(13,vi k)],[]⟩
theorem f197 (a b:List ByteArray) (ha:a.length≤100000):aj Tryz.prog G 197 [lC a,lC b] (db (LZ a b)):=by
 unfold LZ
 refine aj.walk (ay:=jo) (keep:=[]) follows Tryz.func197 rfl Tryz.call197 ?_
 refine aA (fun ZT ZW ZQ _=>(((((↑a.length:Int) != ↑b.length)=true)→(((db false):DV)=(db (decide (a=b)))))∧((((↑a.length:Int) != ↑b.length)=false)→ZW [cd Tryz.f197 [1,1,0,1,0],(.blk 0),cd Tryz.f197 [1,1,1]] (aI ZT [1]) ZQ))) (by kernel_rfl) ?_
 refine⟨fun hne=>?_,fun heq=>?_⟩
 ·rw[decide_eq_false]
  rintro rfl
  simp at hne
 have heq:a.length=b.length:=by
  have h0:(a.length:Int)=b.length:=by simpa using heq
  omega
 refine aC.loop (c:=dR (aQ Tryz.f197) [1,1,0,1,0,0]) (by kernel_rfl) (adt a b) (fun k=>k≤a.length∧∀i,i<k→a.getD i .empty=b.getD i .empty) (fun k=>a.length-k) 0 ?_ ⟨Nat.zero_le _,fun i hi=>absurd hi (Nat.not_lt_zero _)⟩ ?_
 ·exact AS.dB (by kernel_rfl)
 ·rintro k ⟨hk,hkd⟩
  refine walk (ay:=jo) (keep:=[]) (cuts:=[]) (n:=1000) follows ?_
  refine bW (fun ZT ZW ZQ _ ZA _=>(fun Za=>((((decide ((↑k:Int)<↑a.length))=true)→((((0≤(↑k:Int))∧((↑k:Int)<↑a.length))∧(0≤(↑k:Int))∧((↑k:Int)<↑b.length))∧((Za=true)→(((db false):DV)=(db (decide (a=b)))))∧((Za=false)→((I64 (↑k+1))∧(ZA (aI ZT [0,1]))))))∧(((decide ((↑k:Int)<↑a.length))=false)→ZW [cd Tryz.f197 [1,1,1]] (aI ZT [1]) ZQ))) (!(a.getD (↑k:Int).toNat ByteArray.empty).toList==(b.getD (↑k:Int).toNat ByteArray.empty).toList)) (by kernel_rfl) ?_
  simp only[Int.toNat_natCast,iT]
  refine⟨fun h=>?_,fun h=>?_⟩
  ·have hk2:k<a.length:=by have:=of_decide_eq_true h;omega
   refine⟨⟨⟨by omega,by omega⟩,⟨by omega,by omega⟩⟩,fun h2=>?_,fun h2=>⟨⟨by omega,by omega⟩,Again.mk (k+1) ?_ ⟨hk2,fun i hi=>?_⟩ (by omega)⟩⟩
   ·rw[decide_eq_false]
    rintro rfl
    simp at h2
   ·exact AS.dB (by kernel_rfl)
   ·rcases Nat.lt_or_ge i k with h4|h4
    ·exact hkd i h4
    ·obtain rfl:i=k:=by omega
     simpa using h2
  ·simp only[decide_eq_false_iff_not] at h
   refine walk (ay:=jo) (keep:=[]) (cuts:=[]) (n:=1000) follows ?_
   refine aA (fun _ _ _ _=>(((db true):DV)=(db (decide (a=b))))) (by kernel_rfl) ?_
   rw[decide_eq_true (OE heq fun i hi=>hkd i (by omega))]
/-! Names in the world. -/
def lN (l:List Fc) (ws:List ByteArray) (s:ByteArray):Int×Int:=if fH l (.string s) then ((fM l (.string s)).kind,0) else if wL ws (.string s) then (2,0) else (0,4)
theorem YG {l:List Fc} {s:ByteArray} (h:fH l (.string s)=false):fM l (.string s)=aG:=by
 induction l with
 | nil=>rfl
 | cons x l ih=>
  simp only[fH,Bool.or_eq_false_iff] at h
  simp only[fM,h.1,cond_false]
  exact ih h.2
theorem EO {l:List Fc} {s:ByteArray} (h:fH l (.string s)=false):DV.imp (.agg [ds .empty,di 0,di 0,di 0,di 0,di 0,.con (.slice none 0 0)]) (qU (fM l (.string s))):=fun _ _ hv=>by
 rw[YG h]
 exact pU hv
theorem f129 (l:List Fc) (ws:List ByteArray) (m:Nat) (x:Ex) (ks:List Int):aj Tryz.prog G 129 [dQ l ws,bG m x,lY ks] (.au [di (lN l ws x.s).1,di (lN l ws x.s).2]):=by
 refine aj.walk (ay:=jo) (keep:=[]) follows Tryz.func129 rfl Tryz.call129 ?_
 refine aA (fun _ _ _ _=>(fun Za=>((((fH l (Value.string x.s))=false)→((DV.agg (List.map DV.con [Value.string (ByteArray.mk #[]),Value.int IntKind.i64 0,Value.int IntKind.i64 0,Value.int IntKind.i64 0,Value.int IntKind.i64 0,Value.int IntKind.i64 0,Value.slice none 0 0])).imp (fV l (Value.string x.s))))∧(((fH l (Value.string x.s))=true)→(((.au [(di (fM l (Value.string x.s)).kind),(di 0)]):DV)=Za))∧(((fH l (Value.string x.s))=false)→((((wL ws (Value.string x.s))=false)→((DV.con (Value.bool false)).imp (wV ws (Value.string x.s))))∧(((wL ws (Value.string x.s))=true)→(((.au [(di 2),(di 0)]):DV)=Za))∧(((wL ws (Value.string x.s))=false)→(((.au [(di 0),(di 4)]):DV)=Za)))))) ((.au [(di (lN l ws x.s).fst),(di (lN l ws x.s).snd)]):DV)) (by kernel_rfl) ?_
 unfold lN
 refine⟨fun h=>EO h,fun h=>?_,fun h=>⟨fun h2=>imp_eq (by show DV.con (.bool (wL ws (.string x.s)))=_;rw[h2]),fun h2=>?_,fun h2=>?_⟩⟩
 ·rw[if_pos h]
 ·rw[if_neg (by rw[h];decide),if_pos h2]
 ·rw[if_neg (by rw[h];decide),if_neg (by rw[h2];decide)]
def cmK (l:List Fc) (a b:ByteArray) (p q:Int):Bool:=if (p != q||p != 2)=true then p==q else
 if fH l (.string a)&&fH l (.string b) then LZ (fM l (.string a)).words (fM l (.string b)).words
 else if fH l (.string a) then cu (fM l (.string a)).words b else if fH l (.string b) then cu (fM l (.string b)).words a else false
noncomputable def abX:aZ:=fun f a=>match f,a with
 | 197,[v,w]=>some (db (LZ (jP v) (jP w)))
 | 99,[w,.con (.string s)]=>some (db (cu (jP w) s))
 | _,_=>none
theorem f165 (l:List Fc) (ws:List ByteArray) (m m':Nat) (a b:Ex) (ks:List Int) (hk:ks.length=2) (hl:∀v,(fM l v).words.length≤100000):aj Tryz.prog G 165 [dQ l ws,bG m a,bG m' b,lY ks] (db (cmK l a.s b.s (ks.getD 0 0) (ks.getD 1 0))):=by
 refine aj.walk (ay:=abX) (keep:=[]) follows Tryz.func165 rfl Tryz.call165 ?_
 refine aA (fun _ _ _ ZK=>(fun Za Zb Zc Zd Ze Zf Zg=>(((((0:Int)≤(0:Int))∧(0<(↑ks.length:Int)))∧(((0:Int)≤(1:Int))∧(1<(↑ks.length:Int)))∧(((!ks.getD (Int.toNat 0) 0 != ks.getD (Int.toNat 1) 0)=true)→(((0:Int)≤(0:Int))∧(0<(↑ks.length:Int)))))∧((Zg=true)→(((((0:Int)≤(0:Int))∧(0<(↑ks.length:Int)))∧((0:Int)≤(1:Int))∧(1<(↑ks.length:Int)))∧((db (ks.getD (Int.toNat 0) 0==ks.getD (Int.toNat 1) 0)):DV)=Zd))∧((Zg=false)→((((fH l (Value.string a.s))=false)→(Zc.imp (fV l (Value.string a.s))))∧(((fH l (Value.string b.s))=false)→(Zc.imp (fV l (Value.string b.s))))∧(((fH l (Value.string a.s)&&fH l (Value.string b.s))=true)→(ZK 197 [Ze,Zf] (db (LZ Za Zb))∧((db (LZ Za Zb)):DV)=Zd))∧(((fH l (Value.string a.s)&&fH l (Value.string b.s))=false)→((((fH l (Value.string a.s))=true)→(ZK 99 [Ze,(ds b.s)] (db (cu Za b.s))∧((db (cu Za b.s)):DV)=Zd))∧(((fH l (Value.string a.s))=false)→((((fH l (Value.string b.s))=true)→(ZK 99 [Zf,(ds a.s)] (db (cu Zb a.s))∧((db (cu Zb a.s)):DV)=Zd))∧(((fH l (Value.string b.s))=false)→(((db false):DV)=Zd)))))))))) (jP (DV.slc 1 (fM l (Value.string a.s)).words.length (dX (fM l (Value.string a.s)).words))) (jP (DV.slc 1 (fM l (Value.string b.s)).words.length (dX (fM l (Value.string b.s)).words))) (DV.agg (List.map DV.con [Value.string (ByteArray.mk #[]),Value.int IntKind.i64 0,Value.int IntKind.i64 0,Value.int IntKind.i64 0,Value.int IntKind.i64 0,Value.int IntKind.i64 0,Value.slice none 0 0])) (db (cmK l a.s b.s (ks.getD 0 0) (ks.getD 1 0))) ((.slc 1 (fM l (Value.string a.s)).words.length (dX (fM l (Value.string a.s)).words)):DV) ((.slc 1 (fM l (Value.string b.s)).words.length (dX (fM l (Value.string b.s)).words)):DV) (ks.getD (Int.toNat 0) 0 != ks.getD (Int.toNat 1) 0||ks.getD (Int.toNat 0) 0 != 2)) (by kernel_rfl) ?_
 simp only[oO]
 unfold cmK
 have e0:Int.toNat 0=0:=rfl
 have e1:Int.toNat 1=1:=rfl
 rw[e0,e1]
 have hwa:=hl (.string a.s)
 have hwb:=hl (.string b.s)
 refine⟨⟨⟨by omega,by omega⟩,⟨by omega,by omega⟩,fun _=>⟨by omega,by omega⟩⟩,fun h=>⟨⟨⟨by omega,by omega⟩,⟨by omega,by omega⟩⟩,?_⟩,fun h=>⟨fun h1=>EO h1,fun h1=>EO h1,fun h1=>⟨f197 _ _ hwa,?_⟩,fun h1=>⟨fun h2=>⟨f99 _ _ (by omega),?_⟩,fun h2=>⟨fun h3=>⟨f99 _ _ (by omega),?_⟩,fun h3=>?_⟩⟩⟩⟩
 ·rw[if_pos h]
 ·rw[if_neg (by rw[h];decide),if_pos h1]
 ·rw[if_neg (by rw[h];decide),if_neg (by rw[h1];decide),if_pos h2]
 ·rw[if_neg (by rw[h];decide),if_neg (by rw[h1];decide),if_neg (by rw[h2];decide),if_pos h3]
 ·rw[if_neg (by rw[h];decide),if_neg (by rw[h1];decide),if_neg (by rw[h2];decide),if_neg (by rw[h3];decide)]
noncomputable def abR (l:List Fc):aZ:=fun f a=>match f,a with
 | 165,[_,e,g,k]=>some (db (cmK l (ah e).s (ah g).s ((jE k).getD 0 0) ((jE k).getD 1 0)))
 | _,_=>none
theorem f130 (l:List Fc) (ws:List ByteArray) (m:Nat) (x:Ex) (ks:List Int) (hx:ht x≤m) (hk:ks.length=2) (hk2:x.kids.length=2) (hl:∀v,(fM l v).words.length≤100000):aj Tryz.prog G 130 [dQ l ws,bG m x,lY ks] (.au [di (if cmK l (x.kids.getD 0 ak).s (x.kids.getD 1 ak).s (ks.getD 0 0) (ks.getD 1 0) then 1 else 0),di (if cmK l (x.kids.getD 0 ak).s (x.kids.getD 1 ak).s (ks.getD 0 0) (ks.getD 1 0) then 0 else 5)]):=by
 have q0:∀(_:0<x.kids.length),ah (aS m x (Int.toNat (0:Int)))=x.kids.getD 0 ak:=fun h=>dL hx h
 have q1:∀(_:1<x.kids.length),ah (aS m x (Int.toNat (1:Int)))=x.kids.getD 1 ak:=fun h=>dL hx h
 refine aj.walk (ay:=abR l) (keep:=[]) follows Tryz.func130 rfl Tryz.call130 ?_
 refine aA (fun _ _ _ ZK=>(fun Za=>(((((0:Int)≤(0:Int))∧(0<(↑x.kids.length:Int)))∧(((0:Int)≤(1:Int))∧(1<(↑x.kids.length:Int)))∧ZK 165 [(.ptr [(.mp none (fV l) (fH l)),(.mp none (wV ws) (wL ws))]),(aY m (x.kids.getD (Int.toNat 0) ak)),(aY m (x.kids.getD (Int.toNat 1) ak)),(.slc 1 ks.length (dV ks))] (db (cmK l (ah (aY m (x.kids.getD (Int.toNat 0) ak))).s (ah (aY m (x.kids.getD (Int.toNat 1) ak))).s ((jE (DV.slc 1 ks.length (dV ks))).getD 0 0) ((jE (DV.slc 1 ks.length (dV ks))).getD 1 0))))∧((Za=true)→(((.au [(di 0),(di 5)]):DV)=(.au [(di (if cmK l (x.kids.getD 0 ak).s (x.kids.getD 1 ak).s (ks.getD 0 0) (ks.getD 1 0)=true then 1 else 0)),(di (if cmK l (x.kids.getD 0 ak).s (x.kids.getD 1 ak).s (ks.getD 0 0) (ks.getD 1 0)=true then 0 else 5))])))∧((Za=false)→(((.au [(di 1),(di 0)]):DV)=(.au [(di (if cmK l (x.kids.getD 0 ak).s (x.kids.getD 1 ak).s (ks.getD 0 0) (ks.getD 1 0)=true then 1 else 0)),(di (if cmK l (x.kids.getD 0 ak).s (x.kids.getD 1 ak).s (ks.getD 0 0) (ks.getD 1 0)=true then 0 else 5))]))))) (!cmK l (ah (aY m (x.kids.getD (Int.toNat 0) ak))).s (ah (aY m (x.kids.getD (Int.toNat 1) ak))).s ((jE (DV.slc 1 ks.length (dV ks))).getD 0 0) ((jE (DV.slc 1 ks.length (dV ks))).getD 1 0))) (by kernel_rfl) ?_
 simp only[jA,q0 (by omega),q1 (by omega)]
 have h127:aj Tryz.prog G 165 [dQ l ws,aS m x 0,aS m x 1,lY ks] (db (cmK l (x.kids.getD 0 ak).s (x.kids.getD 1 ak).s (ks.getD 0 0) (ks.getD 1 0))):=
  jD (Q:=fun d=>aj Tryz.prog G 165 [dQ l ws,d,aS m x 1,lY ks] _) hx (by omega) fun m1 h1 h2=>
   jD (Q:=fun d=>aj Tryz.prog G 165 [dQ l ws,bG m1 _,d,lY ks] _) hx (by omega) fun m2 h3 h4=>f165 l ws m1 m2 _ _ ks hk hl
 refine⟨⟨⟨by omega,by omega⟩,⟨by omega,by omega⟩,h127⟩,fun h=>?_,fun h=>?_⟩
 ·rw[Bool.not_eq_true'] at h
  rw[h];rfl
 ·rw[Bool.not_eq_false'] at h
  rw[h];rfl
/-! What each kind of expression asks for: a map of functions. -/
def kC (w:DV) (n:Int):DV:=if n=1 then .clo (.func 125) [] [.ptr [di 0]] else if n=3 then .clo (.func 125) [] [.ptr [di 1]] else if n=4 then .clo (.func 125) [] [.ptr [di 1]]
 else if n=2 then .clo (.func 129) [w] [] else if n=12 then .clo (.func 130) [w] [] else if n=13 then .clo (.func 130) [w] []
 else if n<12 then .clo (.func 127) [] [.ptr [di 0],.ptr [di 0]] else if n<18 then .clo (.func 127) [] [.ptr [di 0],.ptr [di 1]] else .clo (.func 127) [] [.ptr [di 1],.ptr [di 1]]
abbrev kF (w:DV):Value→DV:=fun v=>kC w (iV v)
def hK:List Int→Value→Bool
 | []=>fun _=>false
 | n :: l=>fun v=>iR v (.int .i64 n)||hK l v
theorem Jt (w:DV) (n:Int):bV (.int .i64 n) (kC w n) (kF w)=kF w:=by
 funext v
 unfold bV
 cases h:iR v (.int .i64 n) with
 | false=>rfl
 | true=>
  cases v<;>simp only[iR,aT,decide_eq_true_eq,Bool.false_eq_true] at h
  obtain ⟨_,rfl⟩:=h
  rfl
def Am:aZ:=fun f a=>match f,a with
 | 124,[.con (.int .i64 v)]=>some (.clo (.func 125) [] [.ptr [di v]])
 | 126,[.con (.int .i64 a),.con (.int .i64 b)]=>some (.clo (.func 127) [] [.ptr [di a],.ptr [di b]])
 | _,_=>none
def kl0:List Int:=[13,12,2,4,3,1]
def sJ:List Int:=[5,6,7,8,9,10,11]
def sW:List Int:=[14,15,16,17]
def uo:List Int:=[18,19,20]
def zY (k:Nat):List Int:=(sJ.take k).reverse++kl0
def zZ (k:Nat):List Int:=(sW.take k).reverse++zY 7
def vH (k:Nat):List Int:=(uo.take k).reverse++zZ 4
theorem take_cons {l m:List Int} {k:Nat} (h:k<l.length):(l.take (k+1)).reverse++m=l.getD k 0 :: ((l.take k).reverse++m):=by
 rw[List.take_succ_eq_append_getElem h,List.reverse_append,List.getD,bQ h];rfl
theorem kC1 (w:DV) {k:Nat} (h:k<7):kC w (sJ.getD k 0)=.clo (.func 127) [] [.ptr [di 0],.ptr [di 0]]:=by
 rcases k with _|_|_|_|_|_|_|k<;>first|rfl|omega
theorem kC2 (w:DV) {k:Nat} (h:k<4):kC w (sW.getD k 0)=.clo (.func 127) [] [.ptr [di 0],.ptr [di 1]]:=by
 rcases k with _|_|_|_|k<;>first|rfl|omega
theorem kC3 (w:DV) {k:Nat} (h:k<3):kC w (uo.getD k 0)=.clo (.func 127) [] [.ptr [di 1],.ptr [di 1]]:=by
 rcases k with _|_|_|k<;>first|rfl|omega
theorem Jj {l:List Int} {h:IH} {v:Value} (hv:DV.rel h (.slc 1 l.length (aN false 1 (l.map fun n=>di n))) v):DV.rel h (lY l) v:=by
 refine DV.dJ (fun i hi=>?_) hv
 unfold aN dV
 simp[List.getD,bQ hi]
abbrev Wx:AV:=.d (.con (.func (.func 126) #[] #[]))
noncomputable def aad (w:DV) (k:Nat):AS:=⟨regs Tryz.f74.ntmps [(4,Wx),(5,.dw 12),(26,.d (lY sJ)),(27,vi 7),(28,vi k)],[(12,[.mp (some .i64) (kF w) (hK (zY k))])]⟩
noncomputable def ZI (w:DV) (k:Nat):AS:=⟨regs Tryz.f74.ntmps [(4,Wx),(5,.dw 12),(37,.d (lY sW)),(38,vi 4),(39,vi k)],[(12,[.mp (some .i64) (kF w) (hK (zZ k))])]⟩
noncomputable def aaE (w:DV) (k:Nat):AS:=⟨regs Tryz.f74.ntmps [(4,Wx),(5,.dw 12),(48,.d (lY uo)),(49,vi 3),(50,vi k)],[(12,[.mp (some .i64) (kF w) (hK (vH k))])]⟩
abbrev zO (w:DV):DV:=.mp (some .i64) (kF w) (hK (vH 3))
theorem f74 (l:List Fc) (ws:List ByteArray):aj Tryz.prog G 74 [dQ l ws] (zO (dQ l ws)):=by
 refine aj.walk (ay:=Am) (keep:=[]) follows Tryz.func74 rfl Tryz.call74 ?_
 refine BQ ((.ptr [(.mp none (fV l) (fH l)),(.mp none (wV ws) (wL ws))]):DV) ((.d (.con (.func (.func 124) ⟨[]⟩ ⟨[]⟩))):AV) ((.clo (.func 125) [] [(.ptr [(di 1)])]):DV) (DV.clo (Fn.func 130) [DV.ptr [DV.mp none (fV l) (fH l),DV.mp none (wV ws) (wL ws)]] []) (fun Za Zb Zc Zd=>((aj Tryz.prog G 124 [(di 0)] (.clo (.func 125) [] [(.ptr [(di 0)])])∧aj Tryz.prog G 124 [(di 1)] Zc∧aj Tryz.prog G 124 [(di 1)] Zc)∧aC Tryz.prog G [cd Tryz.f74 [1,1,1,1,0,1,0],(.blk 0),cd Tryz.f74 [1,1,1,1,1]] ⟨regs 60 [(0,(.d Za)),(2,(.d (.con (.map none)))),(3,Zb),(4,(.d (.con (.func (.func 126) ⟨[]⟩ ⟨[]⟩)))),(5,(.dw 12)),(12,(.dw 12)),(13,Zb),(14,(.d (.clo (.func 125) [] [(.ptr [(di 0)])]))),(15,Zb),(16,(.d Zc)),(17,Zb),(18,(.d Zc)),(19,(.d Za)),(20,(.d (.clo (.func 129) [Za] []))),(21,(.d Za)),(22,(.d (.clo (.func 130) [Za] []))),(23,(.d Za)),(24,(.d (.clo (.func 130) [Za] []))),(25,(.dw 12)),(26,(.d (.slc 1 7 (aN false 1 [(di 5),(di 6),(di 7),(di 8),(di 9),(di 10),(di 11)])))),(27,(vi 7)),(28,(vi 0))],[(12,[(.mp (some .i64) (bV (Value.int IntKind.i64 13) Zd (bV (Value.int IntKind.i64 12) Zd (bV (Value.int IntKind.i64 2) (DV.clo (Fn.func 129) [DV.ptr [DV.mp none (fV l) (fH l),DV.mp none (wV ws) (wL ws)]] []) (bV (Value.int IntKind.i64 4) (DV.clo (Fn.func 125) [] [DV.ptr [di 1]]) (bV (Value.int IntKind.i64 3) (DV.clo (Fn.func 125) [] [DV.ptr [di 1]]) (bV (Value.int IntKind.i64 1) (DV.clo (Fn.func 125) [] [DV.ptr [di 0]]) fun x=>DV.con Value.nilFunc)))))) (bT (Value.int IntKind.i64 13) (bT (Value.int IntKind.i64 12) (bT (Value.int IntKind.i64 2) (bT (Value.int IntKind.i64 4) (bT (Value.int IntKind.i64 3) (bT (Value.int IntKind.i64 1) fun x=>false)))))))])]⟩ (fF Tryz.prog Tryz.f74 (zO (dQ l ws))))) (by kernel_rfl) ?_
 refine⟨⟨f124 0,f124 1,f124 1⟩,?_⟩
 refine aC.pre (.VL _ 12 (kF (dQ l ws)) rfl fun k hk=>?_) ?_
 ·have hk:hK kl0 k=true:=hk
  cases k<;>simp only[hK,kl0,iR,Bool.or_false,Bool.or_self,Bool.false_eq_true] at hk
  rename_i kd n
  simp only[Bool.or_eq_true,aT,decide_eq_true_eq] at hk
  rcases hk with ⟨rfl,rfl⟩|⟨rfl,rfl⟩|⟨rfl,rfl⟩|⟨rfl,rfl⟩|⟨rfl,rfl⟩|⟨rfl,rfl⟩<;>rfl
 refine aC.pre (.reg _ 26 (.d (lY sJ)) fun β h v hv=>Jj (l:=sJ) hv) ?_
 refine aC.loop (c:=dR (aQ Tryz.f74) [1,1,1,1,0,1,0,0]) (by kernel_rfl) (aad (dQ l ws)) (fun k=>k≤7) (fun k=>7-k) 0 ?_ (Nat.zero_le _) ?_
 ·refine AS.leZ [] [0] (b:=((T0∧T0∧T0∧T0∧T0∧True)∧((some [(.mp (some .i64) (kF (dQ l ws)) (bT (Value.int IntKind.i64 13) (bT (Value.int IntKind.i64 12) (bT (Value.int IntKind.i64 2) (bT (Value.int IntKind.i64 4) (bT (Value.int IntKind.i64 3) (bT (Value.int IntKind.i64 1) fun x=>false)))))))]):(Option (List AV)))=(some [(.mp (some .i64) (kF (dQ l ws)) (hK (zY 0)))])∧True)) (by kernel_rfl) (by kernel_rfl) ?_
  exact⟨⟨rfl,rfl,rfl,rfl,rfl,trivial⟩,rfl,trivial⟩
 ·intro k hk
  refine walk (ay:=Am) (keep:=[]) (cuts:=[]) (n:=1000) follows ?_
  refine Ee ((.d (.con (.func (.func 126) ⟨[]⟩ ⟨[]⟩))):AV) (fun Za=>((((decide ((↑k:Int)<7))=true)→(((0≤(↑k:Int))∧((↑k:Int)<↑7))∧aj Tryz.prog G 126 [(di 0),(di 0)] (.clo (.func 127) [] [(.ptr [(di 0)]),(.ptr [(di 0)])])∧(I64 (↑k+1))∧Again (aad (dQ l ws)) (fun k=>k≤7) (fun k=>7-k) k ⟨regs 60 [(4,Za),(5,(.dw 12)),(7,(vi (sJ.getD (↑k:Int).toNat 0))),(26,(.d (.slc 1 7 (dV sJ)))),(27,(vi 7)),(28,(vi (↑k+1))),(29,(vb (decide ((↑k:Int)<7)))),(30,(.d (.ptr [(di (sJ.getD (↑k:Int).toNat 0))]))),(31,(vi (sJ.getD (↑k:Int).toNat 0))),(32,(.dw 12)),(33,(vi (sJ.getD (↑k:Int).toNat 0))),(34,Za),(35,(.d (.clo (.func 127) [] [(.ptr [(di 0)]),(.ptr [(di 0)])]))),(36,(vi (↑k+1)))],[(12,[(.mp (some .i64) (bV (Value.int IntKind.i64 (sJ.getD (↑k:Int).toNat 0)) (DV.clo (Fn.func 127) [] [DV.ptr [di 0],DV.ptr [di 0]]) (kF (dQ l ws))) (bT (Value.int IntKind.i64 (sJ.getD (↑k:Int).toNat 0)) (hK (zY k))))])]⟩))∧(((decide ((↑k:Int)<7))=false)→aC Tryz.prog G [cd Tryz.f74 [1,1,1,1,1]] ⟨regs 60 [(4,Za),(5,(.dw 12)),(26,(.d (.slc 1 7 (dV sJ)))),(27,(vi 7)),(28,(vi (↑k))),(29,(vb (decide ((↑k:Int)<7))))],[(12,[(.mp (some .i64) (kF (dQ l ws)) (hK (zY k)))])]⟩ (fF Tryz.prog Tryz.f74 (zO (dQ l ws)))))) (by kernel_rfl) ?_
  simp only[Int.toNat_natCast]
  refine⟨fun h1=>?_,fun h1=>?_⟩
  ·have hk2:k<7:=by have:=of_decide_eq_true h1;omega
   refine⟨⟨by omega,by show (k:Int)<7;omega⟩,f126 0 0,⟨by omega,by omega⟩,Again.mk (k+1) ?_ hk2 (by omega)⟩
   refine AS.leZ [] [0] (b:=((T0∧T0∧T0∧T0∧T0∧True)∧((some [(.mp (some .i64) (bV (Value.int IntKind.i64 (sJ.getD k 0)) (DV.clo (Fn.func 127) [] [DV.ptr [di 0],DV.ptr [di 0]]) (kF (dQ l ws))) (bT (Value.int IntKind.i64 (sJ.getD k 0)) (hK (zY k))))]):(Option (List AV)))=(some [(.mp (some .i64) (kF (dQ l ws)) (hK (zY (k+1))))])∧True)) (by kernel_rfl) (by kernel_rfl) ?_
   refine⟨⟨rfl,rfl,rfl,rfl,rfl,trivial⟩,?_,trivial⟩
   have e1:hK (zY (k+1))=bT (.int .i64 (sJ.getD k 0)) (hK (zY k)):=by
    unfold zY
    rw[take_cons (show k<sJ.length from hk2)];rfl
   rw[e1]
   refine congrArg (fun f=>some [AV.mp (some .i64) f (bT (.int .i64 (sJ.getD k 0)) (hK (zY k)))]) ?_
   rw[←kC1 (dQ l ws) hk2]
   exact Jt _ _
  ·have h1:=of_decide_eq_false h1
   obtain rfl:k=7:=by omega
   refine walk (ay:=Am) (keep:=[]) (cuts:=[]) (n:=1000) follows ?_
   refine vk (b:=aC Tryz.prog G [cd Tryz.f74 [1,1,1,1,1,0,1,0],(.blk 2),cd Tryz.f74 [1,1,1,1,1,1]] ⟨regs 60 [(4,(.d (.con (.func (.func 126) ⟨[]⟩ ⟨[]⟩)))),(5,(.dw 12)),(26,(.d (.slc 1 7 (dV sJ)))),(27,(vi 7)),(28,(vi 7)),(29,(vb false)),(37,(.d (.slc 1 4 (aN false 1 [(di 14),(di 15),(di 16),(di 17)])))),(38,(vi 4)),(39,(vi 0))],[(12,[(.mp (some .i64) (kF (dQ l ws)) (hK (zY 7)))])]⟩ (fF Tryz.prog Tryz.f74 (zO (dQ l ws)))) (by kernel_rfl) ?_
   refine aC.pre (.reg _ 37 (.d (lY sW)) fun β h v hv=>Jj (l:=sW) hv) ?_
   refine aC.loop (c:=dR (aQ Tryz.f74) [1,1,1,1,1,0,1,0,0]) (by kernel_rfl) (ZI (dQ l ws)) (fun k=>k≤4) (fun k=>4-k) 0 ?_ (Nat.zero_le _) ?_
   ·refine AS.leZ [] [0] (b:=((T0∧T0∧T0∧T0∧T0∧True)∧((some [(.mp (some .i64) (kF (dQ l ws)) (hK (zY 7)))]):(Option (List AV)))=(some [(.mp (some .i64) (kF (dQ l ws)) (hK (zZ 0)))])∧True)) (by kernel_rfl) (by kernel_rfl) ?_
    exact⟨⟨rfl,rfl,rfl,rfl,rfl,trivial⟩,rfl,trivial⟩
   ·intro k hk
    refine walk (ay:=Am) (keep:=[]) (cuts:=[]) (n:=1000) follows ?_
    refine Ee ((.d (.con (.func (.func 126) ⟨[]⟩ ⟨[]⟩))):AV) (fun Za=>((((decide ((↑k:Int)<4))=true)→(((0≤(↑k:Int))∧((↑k:Int)<↑4))∧aj Tryz.prog G 126 [(di 0),(di 1)] (.clo (.func 127) [] [(.ptr [(di 0)]),(.ptr [(di 1)])])∧(I64 (↑k+1))∧Again (ZI (dQ l ws)) (fun k=>k≤4) (fun k=>4-k) k ⟨regs 60 [(4,Za),(5,(.dw 12)),(9,(vi (sW.getD (↑k:Int).toNat 0))),(37,(.d (.slc 1 4 (dV sW)))),(38,(vi 4)),(39,(vi (↑k+1))),(40,(vb (decide ((↑k:Int)<4)))),(41,(.d (.ptr [(di (sW.getD (↑k:Int).toNat 0))]))),(42,(vi (sW.getD (↑k:Int).toNat 0))),(43,(.dw 12)),(44,(vi (sW.getD (↑k:Int).toNat 0))),(45,Za),(46,(.d (.clo (.func 127) [] [(.ptr [(di 0)]),(.ptr [(di 1)])]))),(47,(vi (↑k+1)))],[(12,[(.mp (some .i64) (bV (Value.int IntKind.i64 (sW.getD (↑k:Int).toNat 0)) (DV.clo (Fn.func 127) [] [DV.ptr [di 0],DV.ptr [di 1]]) (kF (dQ l ws))) (bT (Value.int IntKind.i64 (sW.getD (↑k:Int).toNat 0)) (hK (zZ k))))])]⟩))∧(((decide ((↑k:Int)<4))=false)→aC Tryz.prog G [cd Tryz.f74 [1,1,1,1,1,1]] ⟨regs 60 [(4,Za),(5,(.dw 12)),(37,(.d (.slc 1 4 (dV sW)))),(38,(vi 4)),(39,(vi (↑k))),(40,(vb (decide ((↑k:Int)<4))))],[(12,[(.mp (some .i64) (kF (dQ l ws)) (hK (zZ k)))])]⟩ (fF Tryz.prog Tryz.f74 (zO (dQ l ws)))))) (by kernel_rfl) ?_
    simp only[Int.toNat_natCast]
    refine⟨fun h1=>?_,fun h1=>?_⟩
    ·have hk2:k<4:=by have:=of_decide_eq_true h1;omega
     refine⟨⟨by omega,by show (k:Int)<4;omega⟩,f126 0 1,⟨by omega,by omega⟩,Again.mk (k+1) ?_ hk2 (by omega)⟩
     refine AS.leZ [] [0] (b:=((T0∧T0∧T0∧T0∧T0∧True)∧((some [(.mp (some .i64) (bV (Value.int IntKind.i64 (sW.getD k 0)) (DV.clo (Fn.func 127) [] [DV.ptr [di 0],DV.ptr [di 1]]) (kF (dQ l ws))) (bT (Value.int IntKind.i64 (sW.getD k 0)) (hK (zZ k))))]):(Option (List AV)))=(some [(.mp (some .i64) (kF (dQ l ws)) (hK (zZ (k+1))))])∧True)) (by kernel_rfl) (by kernel_rfl) ?_
     refine⟨⟨rfl,rfl,rfl,rfl,rfl,trivial⟩,?_,trivial⟩
     have e1:hK (zZ (k+1))=bT (.int .i64 (sW.getD k 0)) (hK (zZ k)):=by
      unfold zZ
      rw[take_cons (show k<sW.length from hk2)];rfl
     rw[e1]
     refine congrArg (fun f=>some [AV.mp (some .i64) f (bT (.int .i64 (sW.getD k 0)) (hK (zZ k)))]) ?_
     rw[←kC2 (dQ l ws) hk2]
     exact Jt _ _
    ·have h1:=of_decide_eq_false h1
     obtain rfl:k=4:=by omega
     refine walk (ay:=Am) (keep:=[]) (cuts:=[]) (n:=1000) follows ?_
     refine vk (b:=aC Tryz.prog G [cd Tryz.f74 [1,1,1,1,1,1,0,1,0],(.blk 4),cd Tryz.f74 [1,1,1,1,1,1,1]] ⟨regs 60 [(4,(.d (.con (.func (.func 126) ⟨[]⟩ ⟨[]⟩)))),(5,(.dw 12)),(37,(.d (.slc 1 4 (dV sW)))),(38,(vi 4)),(39,(vi 4)),(40,(vb false)),(48,(.d (.slc 1 3 (aN false 1 [(di 18),(di 19),(di 20)])))),(49,(vi 3)),(50,(vi 0))],[(12,[(.mp (some .i64) (kF (dQ l ws)) (hK (zZ 4)))])]⟩ (fF Tryz.prog Tryz.f74 (zO (dQ l ws)))) (by kernel_rfl) ?_
     refine aC.pre (.reg _ 48 (.d (lY uo)) fun β h v hv=>Jj (l:=uo) hv) ?_
     refine aC.loop (c:=dR (aQ Tryz.f74) [1,1,1,1,1,1,0,1,0,0]) (by kernel_rfl) (aaE (dQ l ws)) (fun k=>k≤3) (fun k=>3-k) 0 ?_ (Nat.zero_le _) ?_
     ·refine AS.leZ [] [0] (b:=((T0∧T0∧T0∧T0∧T0∧True)∧((some [(.mp (some .i64) (kF (dQ l ws)) (hK (zZ 4)))]):(Option (List AV)))=(some [(.mp (some .i64) (kF (dQ l ws)) (hK (vH 0)))])∧True)) (by kernel_rfl) (by kernel_rfl) ?_
      exact⟨⟨rfl,rfl,rfl,rfl,rfl,trivial⟩,rfl,trivial⟩
     ·intro k hk
      refine walk (ay:=Am) (keep:=[]) (cuts:=[]) (n:=1000) follows ?_
      refine Ee ((.d (.con (.func (.func 126) ⟨[]⟩ ⟨[]⟩))):AV) (fun Za=>((((decide ((↑k:Int)<3))=true)→(((0≤(↑k:Int))∧((↑k:Int)<↑3))∧aj Tryz.prog G 126 [(di 1),(di 1)] (.clo (.func 127) [] [(.ptr [(di 1)]),(.ptr [(di 1)])])∧(I64 (↑k+1))∧Again (aaE (dQ l ws)) (fun k=>k≤3) (fun k=>3-k) k ⟨regs 60 [(4,Za),(5,(.dw 12)),(11,(vi (uo.getD (↑k:Int).toNat 0))),(48,(.d (.slc 1 3 (dV uo)))),(49,(vi 3)),(50,(vi (↑k+1))),(51,(vb (decide ((↑k:Int)<3)))),(52,(.d (.ptr [(di (uo.getD (↑k:Int).toNat 0))]))),(53,(vi (uo.getD (↑k:Int).toNat 0))),(54,(.dw 12)),(55,(vi (uo.getD (↑k:Int).toNat 0))),(56,Za),(57,(.d (.clo (.func 127) [] [(.ptr [(di 1)]),(.ptr [(di 1)])]))),(58,(vi (↑k+1)))],[(12,[(.mp (some .i64) (bV (Value.int IntKind.i64 (uo.getD (↑k:Int).toNat 0)) (DV.clo (Fn.func 127) [] [DV.ptr [di 1],DV.ptr [di 1]]) (kF (dQ l ws))) (bT (Value.int IntKind.i64 (uo.getD (↑k:Int).toNat 0)) (hK (vH k))))])]⟩))∧(((decide ((↑k:Int)<3))=false)→aC Tryz.prog G [cd Tryz.f74 [1,1,1,1,1,1,1]] ⟨regs 60 [(4,Za),(5,(.dw 12)),(48,(.d (.slc 1 3 (dV uo)))),(49,(vi 3)),(50,(vi (↑k))),(51,(vb (decide ((↑k:Int)<3))))],[(12,[(.mp (some .i64) (kF (dQ l ws)) (hK (vH k)))])]⟩ (fF Tryz.prog Tryz.f74 (zO (dQ l ws)))))) (by kernel_rfl) ?_
      simp only[Int.toNat_natCast]
      refine⟨fun h1=>?_,fun h1=>?_⟩
      ·have hk2:k<3:=by have:=of_decide_eq_true h1;omega
       refine⟨⟨by omega,by show (k:Int)<3;omega⟩,f126 1 1,⟨by omega,by omega⟩,Again.mk (k+1) ?_ hk2 (by omega)⟩
       refine AS.leZ [] [0] (b:=((T0∧T0∧T0∧T0∧T0∧True)∧((some [(.mp (some .i64) (bV (Value.int IntKind.i64 (uo.getD k 0)) (DV.clo (Fn.func 127) [] [DV.ptr [di 1],DV.ptr [di 1]]) (kF (dQ l ws))) (bT (Value.int IntKind.i64 (uo.getD k 0)) (hK (vH k))))]):(Option (List AV)))=(some [(.mp (some .i64) (kF (dQ l ws)) (hK (vH (k+1))))])∧True)) (by kernel_rfl) (by kernel_rfl) ?_
       refine⟨⟨rfl,rfl,rfl,rfl,rfl,trivial⟩,?_,trivial⟩
       have e1:hK (vH (k+1))=bT (.int .i64 (uo.getD k 0)) (hK (vH k)):=by
        unfold vH
        rw[take_cons (show k<uo.length from hk2)];rfl
       rw[e1]
       refine congrArg (fun f=>some [AV.mp (some .i64) f (bT (.int .i64 (uo.getD k 0)) (hK (vH k)))]) ?_
       rw[←kC3 (dQ l ws) hk2]
       exact Jt _ _
      ·have h1:=of_decide_eq_false h1
       obtain rfl:k=3:=by omega
       refine walk (ay:=Am) (keep:=[]) (cuts:=[]) (n:=1000) follows ?_
       refine aA (fun _ _ _ _=>(ZS ((zO (dQ l ws)):DV))) (by kernel_rfl) ?_
       rfl
/-! The kind of an expression. -/
abbrev KR:=Int×Int×Int
def badR:List KR→Option (Int×Int)
 | []=>none
 | r :: l=>if r.2.2≠0 then some r.2 else badR l
def fO (l:List Fc) (ws:List ByteArray) (k:Int) (s:ByteArray) (ks:List Int) (n0 n1:ByteArray):Int×Int:=
 if k=1 then (0,0) else if k=3 then (1,0) else if k=4 then (1,0) else if k=2 then lN l ws s
 else if k=12∨k=13 then (if cmK l n0 n1 (ks.getD 0 0) (ks.getD 1 0) then 1 else 0,if cmK l n0 n1 (ks.getD 0 0) (ks.getD 1 0) then 0 else 5)
 else if k<12 then (iW ks 0 0,ji ks 0) else if k<18 then (iW ks 0 1,ji ks 0) else (iW ks 1 1,ji ks 1)
def EP (l:List Fc) (ws:List ByteArray) (k:Int) (s:ByteArray) (pos:Int) (rs:List KR) (n0 n1:ByteArray):KR:=match badR rs with
 | some p=>(0,p)
 | none=>((fO l ws k s (rs.map (·.1)) n0 n1).1,pos,(fO l ws k s (rs.map (·.1)) n0 n1).2)
mutual
def bZ (l:List Fc) (ws:List ByteArray):Ex→KR
 | .mk k s _ _ pos kids=>EP l ws k s pos (jJ l ws kids) (kids.getD 0 ak).s (kids.getD 1 ak).s
def jJ (l:List Fc) (ws:List ByteArray):List Ex→List KR
 | []=>[]
 | x :: r=>bZ l ws x :: jJ l ws r
end
theorem EM (l:List Fc) (ws:List ByteArray) (x:Ex):bZ l ws x=EP l ws x.k x.s x.pos (jJ l ws x.kids) (x.kids.getD 0 ak).s (x.kids.getD 1 ak).s:=by cases x;simp only[bZ,Ex.k,Ex.s,Ex.pos,Ex.kids]
theorem lg (l:List Fc) (ws:List ByteArray):∀r:List Ex,jJ l ws r=r.map (bZ l ws)
 | []=>rfl
 | x :: r=>by simp only[jJ,List.map_cons,lg l ws r]
theorem Qx {R:List KR} {k:Nat} {r0:KR} (hk:k<R.length) (hno:∀i,i<k→(R.getD i r0).2.2=0) (h:(R.getD k r0).2.2≠0):badR R=some (R.getD k r0).2:=by
 induction R generalizing k with
 | nil=>simp at hk
 | cons r R ih=>
  cases k with
  | zero=>
   have h:r.2.2≠0:=h
   unfold badR
   rw[if_pos h];rfl
  | succ k=>
   have h0:r.2.2=0:=hno 0 (by omega)
   unfold badR
   rw[if_neg (by omega)]
   exact ih (by simpa using hk) (fun i hi=>by simpa using hno (i+1) (by omega)) (by simpa using h)
theorem KD {R:List KR} {r0:KR} (hno:∀i,i<R.length→(R.getD i r0).2.2=0):badR R=none:=by
 induction R with
 | nil=>rfl
 | cons r R ih=>
  have h0:r.2.2=0:=hno 0 (by simp)
  unfold badR
  rw[if_neg (by omega)]
  exact ih fun i hi=>by simpa using hno (i+1) (by simpa using hi)
noncomputable def jY (l:List Fc) (ws:List ByteArray):aZ:=fun f a=>match f,a with
 | 73,[_,e,_]=>some (.au [di (bZ l ws (ah e)).1,.agg [di (bZ l ws (ah e)).2.1,di (bZ l ws (ah e)).2.2]])
 | 125,[_,_,.ptr [.con (.int .i64 v)]]=>some (.au [di v,di 0])
 | 129,[_,e,_]=>some (.au [di (lN l ws (ah e).s).1,di (lN l ws (ah e).s).2])
 | 130,[_,e,ks]=>some (.au [di (if cmK l ((ah e).kids.getD 0 ak).s ((ah e).kids.getD 1 ak).s ((jE ks).getD 0 0) ((jE ks).getD 1 0) then 1 else 0),di (if cmK l ((ah e).kids.getD 0 ak).s ((ah e).kids.getD 1 ak).s ((jE ks).getD 0 0) ((jE ks).getD 1 0) then 0 else 5)])
 | 127,[_,ks,.ptr [.con (.int .i64 a)],.ptr [.con (.int .i64 b)]]=>some (.au [di (iW (jE ks) a b),di (ji (jE ks) a)])
 | _,_=>none
abbrev NZ:RK:=⟨false,3,false,none⟩
def l9 (l:List Fc) (ws:List ByteArray) (x:Ex):Nat→Nat→DV:=um (fun _=>DV.con undef) false 1 fun j=>[di (bZ l ws (x.kids.getD j ak)).1]
theorem JR {l:List Fc} {ws:List ByteArray} {x:Ex} (k:Nat) {d:DV} (h:d=di (bZ l ws (x.kids.getD k ak)).1):(fun i=>bif Nat.blt i k then l9 l ws x k i else aN false 1 [d] (i-k))=l9 l ws x (k+1):=by
 subst h;rfl
theorem rW {l:List Fc} {ws:List ByteArray} {r:List Ex} {i:Nat} (hi:i<r.length):(jJ l ws r).getD i (0,0,0)=bZ l ws (r.getD i ak):=by
 rw[lg,List.getD,List.getElem?_map,bQ hi,List.getD,bQ hi];rfl
theorem aeg (k:Int) (s:ByteArray) (n d p:Int) (l:List Ex):(Ex.mk k s n d p l).k=k:=rfl
theorem SB (k:Int) (s:ByteArray) (n d p:Int) (l:List Ex):(Ex.mk k s n d p l).s=s:=rfl
theorem ad9 (k:Int) (s:ByteArray) (n d p:Int) (l:List Ex):(Ex.mk k s n d p l).n=n:=rfl
theorem adE (k:Int) (s:ByteArray) (n d p:Int) (l:List Ex):(Ex.mk k s n d p l).d=d:=rfl
theorem adp (k:Int) (s:ByteArray) (n d p:Int) (l:List Ex):(Ex.mk k s n d p l).pos=p:=rfl
theorem MI (k:Int) (s:ByteArray) (n d p:Int) (l:List Ex):(Ex.mk k s n d p l).kids=l:=rfl
noncomputable def S42 (l:List Fc) (ws:List ByteArray) (m:Nat) (x:Ex) (k:Nat):AS:=⟨regs Tryz.f73.ntmps [(0,.d (dQ l ws)),(2,.d (zO (dQ l ws))),(4,.box 4 0),(7,.box 7 0),(8,.vec 900 1 0 k),(16,.d (.slc 6 x.kids.length (lay (bJ m) x.kids))),(17,vi x.kids.length),(18,vi k)],[(4,l7 m x),(7,[vi 0,vi 0]),(900,[.arr NZ 1 (l9 l ws x k)])]⟩
theorem f73 (l:List Fc) (ws:List ByteArray) (hl:∀v,(fM l v).words.length≤100000) (m:Nat):∀(x:Ex),ht x≤m→Sm x→aV x=true→aj Tryz.prog G 73 [dQ l ws,bG m x,zO (dQ l ws)] (.au [di (bZ l ws x).1,.agg [di (bZ l ws x).2.1,di (bZ l ws x).2.2]]):=by
 induction m using Nat.strongRecOn with
 | _ m ih=>
 intro x hx hs hsn
 have hlen:=hs.len.1
 have h42:∀i,i<x.kids.length→aj Tryz.prog G 73 [dQ l ws,aS m x i,zO (dQ l ws)] (.au [di (bZ l ws (x.kids.getD i ak)).1,.agg [di (bZ l ws (x.kids.getD i ak)).2.1,di (bZ l ws (x.kids.getD i ak)).2.2]]):=fun i hi=>
  jD (Q:=fun d=>aj Tryz.prog G 73 [dQ l ws,d,zO (dQ l ws)] _) hx hi fun m' h1 h2=>ih m' h1 _ h2 (hs.kid hi) (dO hsn hi)
 refine aj.walk (ay:=jY l ws) (keep:=[]) follows Tryz.func73 rfl Tryz.call73 ?_
 refine aA (fun ZT ZW ZQ _=>ZW [cd Tryz.f73 [1,1,0,1,0],(.blk 0),cd Tryz.f73 [1,1,1]] (aI ZT []) ZQ) (by kernel_rfl) ?_
 refine aC.pre (.nilRow _ 8 900 1 NZ (l9 l ws x 0) (by kernel_rfl) (by kernel_rfl)) ?_
 refine aC.loop (c:=dR (aQ Tryz.f73) [1,1,0,1,0,0]) (by kernel_rfl) (S42 l ws m x) (fun k=>k≤x.kids.length∧∀i,i<k→(bZ l ws (x.kids.getD i ak)).2.2=0) (fun k=>x.kids.length-k) 0 ?_ ⟨Nat.zero_le _,fun i hi=>absurd hi (Nat.not_lt_zero _)⟩ ?_
 ·exact AS.dB (by kernel_rfl)
 ·rintro k ⟨hk,hkd⟩
  refine walk (ay:=jY l ws) (keep:=[]) (cuts:=[]) (n:=1000) follows ?_
  refine Qb (bZ l ws (ah (aY m (x.kids.getD (↑k:Int).toNat ak)))) (x.kids.getD (↑k:Int).toNat ak) ((.ptr [(.mp none (fV l) (fH l)),(.mp none (wV ws) (wL ws))]):DV) ((.d (.slc 6 x.kids.length (lay (bJ m) x.kids))):AV) (decide ((↑k:Int)<↑x.kids.length)) ((.d (.mp (some .i64) (kF (dQ l ws)) (hK (vH 3)))):AV) (fun Za Zb Zc Zd Ze Zf=>(((Ze=true)→(((0≤(↑k:Int))∧((↑k:Int)<↑x.kids.length))∧aj Tryz.prog G 73 [Zc,(aY m Zb),(.mp (some .i64) (kF (dQ l ws)) (hK (vH 3)))] (.au [(di Za.fst),(.agg [(di Za.snd.fst),(di Za.snd.snd)])])∧(((Za.snd.snd != 0)=true)→(((.au [(di 0),(.agg [(di Za.snd.fst),(di Za.snd.snd)])]):DV)=(.au [(di (bZ l ws x).fst),(.agg [(di (bZ l ws x).snd.fst),(di (bZ l ws x).snd.snd)])])))∧(((Za.snd.snd != 0)=false)→(((((k+1)*8≤1099511627776)∧(k+1≤1099511627776))∧(∀(i:Nat),i<1→jW false 1 (aN false 1 [di Za.fst] i)=true))∧(I64 (↑k+1))∧Again (S42 l ws m x) (fun k=>k≤x.kids.length∧∀(i:Nat),i<k→(bZ l ws (x.kids.getD i ak)).snd.snd=0) (fun k=>x.kids.length-k) k ⟨regs 53 [(0,(.d Zc)),(2,Zf),(4,(.box 4 0)),(7,(.box 7 0)),(8,(.vec 36 1 0 (k+1))),(10,(.box 10 0)),(11,(vi Za.fst)),(12,(.box 12 0)),(16,Zd),(17,(vi (↑x.kids.length))),(18,(vi (↑k+1))),(19,(vb Ze)),(20,(.d (.ptr [(di Zb.k),(ds Zb.s),(di Zb.n),(di Zb.d),(di Zb.pos),(.slc 6 Zb.kids.length (bJ m Zb.kids))]))),(21,(.d (aY m Zb))),(22,(.d (.au [(di Za.fst),(.agg [(di Za.snd.fst),(di Za.snd.snd)])]))),(23,(.d Zc)),(24,(.d (aY m Zb))),(25,Zf),(26,(.d (.au [(di Za.fst),(.agg [(di Za.snd.fst),(di Za.snd.snd)])]))),(27,(vi Za.fst)),(28,(.d (.agg [(di Za.snd.fst),(di Za.snd.snd)]))),(29,(.box 12 1)),(30,(vi Za.snd.snd)),(31,(vb (Za.snd.snd != 0))),(33,(.vec 900 1 0 k)),(34,(vi Za.fst)),(35,(.d (.slc 1 1 (aN false 1 [(di Za.fst)])))),(36,(.vec 36 1 0 (k+1))),(37,(vi (↑k+1)))],[(36,[(.arr ⟨false,3,false,none⟩ 1 (fun i=>bif i.blt k then l9 l ws x k i else aN false 1 [di Za.fst] (i-k)))]),(12,[(vi Za.snd.fst),(vi Za.snd.snd)]),(10,[(vi Zb.k),(vs Zb.s),(vi Zb.n),(vi Zb.d),(vi Zb.pos),(.d (.slc 6 Zb.kids.length (bJ m Zb.kids)))]),(4,[(vi x.k),(vs x.s),(vi x.n),(vi x.d),(vi x.pos),Zd]),(7,[(vi 0),(vi 0)]),(900,[.dead])]⟩))))∧((Ze=false)→aC Tryz.prog G [cd Tryz.f73 [1,1,1]] ⟨regs 53 [(0,(.d Zc)),(2,Zf),(4,(.box 4 0)),(7,(.box 7 0)),(8,(.vec 900 1 0 k)),(16,Zd),(17,(vi (↑x.kids.length))),(18,(vi (↑k))),(19,(vb Ze))],[(4,[(vi x.k),(vs x.s),(vi x.n),(vi x.d),(vi x.pos),Zd]),(7,[(vi 0),(vi 0)]),(900,[(.arr ⟨false,3,false,none⟩ 1 (l9 l ws x k))])]⟩ (fF Tryz.prog Tryz.f73 (DV.au [di (bZ l ws x).fst,DV.agg [di (bZ l ws x).snd.fst,di (bZ l ws x).snd.snd]]))))) (by kernel_rfl) ?_
  simp only[Int.toNat_natCast]
  refine⟨fun h=>?_,fun h=>?_⟩
  ·have hk2:k<x.kids.length:=by have:=of_decide_eq_true h;omega
   have er:ah (aS m x k)=x.kids.getD k ak:=dL hx hk2
   have hh:=h42 k hk2
   simp only[er]
   refine⟨⟨by omega,by omega⟩,hh,fun h2=>?_,fun h2=>⟨⟨⟨by omega,by omega⟩,fun i hi=>(by obtain rfl:i=0:=(by omega);rfl)⟩,⟨by omega,by omega⟩,Again.Iq [(36,900)] rfl (k+1) ?_ ⟨hk2,fun i hi=>?_⟩ (by omega)⟩⟩
   ·have h2:(bZ l ws (x.kids.getD k ak)).2.2≠0:=by simpa using h2
    have hb:=Qx (R:=jJ l ws x.kids) (r0:=(0,0,0)) (k:=k) (by rw[lg,List.length_map];exact hk2) (fun i hi=>by rw[rW (by omega)];exact hkd i hi) (by rw[rW hk2];exact h2)
    rw[rW hk2] at hb
    rw[EM l ws x]
    unfold EP
    rw[hb]
   ·refine lG ((.d (.slc 6 x.kids.length (lay (bJ m) x.kids))):AV) (fun Za=>((((.d (.ptr [(.mp none (fV l) (fH l)),(.mp none (wV ws) (wL ws))])):AV)=(.d (.ptr [(.mp none (fV l) (fH l)),(.mp none (wV ws) (wL ws))]))∧((.d (.mp (some .i64) (kF (dQ l ws)) (hK (vH 3)))):AV)=(.d (.mp (some .i64) (kF (dQ l ws)) (hK (vH 3))))∧((.box 4 0):AV)=(.box 4 0)∧((.box 7 0):AV)=(.box 7 0)∧((.vec 900 1 0 (k+1)):AV)=(.vec 900 1 0 (k+1))∧(Za:AV)=Za∧((vi (↑x.kids.length)):AV)=(vi (↑x.kids.length))∧((vi (↑k+1)):AV)=(vi (↑(k+1)))∧True)∧((some [(vi x.k),(vs x.s),(vi x.n),(vi x.d),(vi x.pos),Za]):(Option (List AV)))=(some [(vi x.k),(vs x.s),(vi x.n),(vi x.d),(vi x.pos),Za])∧((some [(vi 0),(vi 0)]):(Option (List AV)))=(some [(vi 0),(vi 0)])∧((some [(.arr ⟨false,3,false,none⟩ 1 (fun i=>bif i.blt k then l9 l ws x k i else aN false 1 [DV.con (Value.int IntKind.i64 (bZ l ws (x.kids.getD k ak)).fst)] (i-k)))]):(Option (List AV)))=(some [(.arr ⟨false,3,false,none⟩ 1 (l9 l ws x (k+1)))])∧True)) (by kernel_rfl) ?_
    refine⟨⟨rfl,rfl,rfl,rfl,rfl,rfl,rfl,rfl,trivial⟩,rfl,rfl,?_,trivial⟩
    exact congrArg (fun f=>some [AV.arr NZ 1 f]) (JR k rfl)
   ·rcases Nat.lt_or_ge i k with h4|h4
    ·exact hkd i h4
    ·obtain rfl:i=k:=by omega
     simpa using h2
  ·simp only[decide_eq_false_iff_not] at h
   obtain rfl:k=x.kids.length:=by omega
   have hb:badR (jJ l ws x.kids)=none:=KD (r0:=(0,0,0)) fun i hi=>by
    have hi:i<x.kids.length:=by rw[lg,List.length_map] at hi;exact hi
    rw[rW hi];exact hkd i hi
   have ety:bZ l ws x=((fO l ws x.k x.s ((jJ l ws x.kids).map (·.1)) (x.kids.getD 0 ak).s (x.kids.getD 1 ak).s).1,x.pos,(fO l ws x.k x.s ((jJ l ws x.kids).map (·.1)) (x.kids.getD 0 ak).s (x.kids.getD 1 ak).s).2):=by
    rw[EM l ws x]
    unfold EP
    rw[hb]
   have Ov:((jJ l ws x.kids).map (·.1)).length=x.kids.length:=by rw[lg,List.length_map,List.length_map]
   have hrow:∀i,i<x.kids.length→l9 l ws x x.kids.length (0+i)=dV ((jJ l ws x.kids).map (·.1)) i:=fun i hi=>by
    rw[Nat.zero_add]
    unfold l9 dV
    rw[nD hi,lg,List.map_map]
    show di (bZ l ws (x.kids.getD i ak)).1=_
    rw[List.getD,List.getD,List.getElem?_map,bQ hi];rfl
   rw[ety]
   refine aC.freeze (agg:=NZ) (sz:=1) (f:=l9 l ws x x.kids.length) 900 (by kernel_rfl) ?_
   refine aC.pre (.reg _ 8 (.d (lY ((jJ l ws x.kids).map (·.1)))) fun β h v hv=>?_) ?_
   ·have hv:DV.rel h (.slc 1 x.kids.length fun i=>l9 l ws x x.kids.length (0+i)) v:=hv
    show DV.rel h (.slc 1 ((jJ l ws x.kids).map (·.1)).length _) v
    rw[Ov]
    exact DV.dJ hrow hv
   have hrk:=GX hsn
   have hone:=@kG x hsn
   have BJ:=@kH x hsn
   have e42:ah (exV x.k x.s x.n x.d x.pos x.kids.length (lay (bJ m) x.kids))=x:=fU hx
   clear ety hrow hb hkd h42 ih hk h
   generalize (jJ l ws x.kids).map (·.1)=KS at *
   have hc:x.k=1∨x.k=2∨x.k=3∨x.k=4∨x.k=5∨x.k=6∨x.k=7∨x.k=8∨x.k=9∨x.k=10∨x.k=11∨x.k=12∨x.k=13∨x.k=14∨x.k=15∨x.k=16∨x.k=17∨x.k=18∨x.k=19∨x.k=20:=by
    refine Classical.byContradiction fun hn=>hrk ?_
    unfold aU
    repeat' split
    all_goals omega
   clear hrk
   obtain ⟨xk,xs,xn,xd,xp,xl⟩:=x
   simp only[aeg,MI,SB,adp,ad9,adE] at hone BJ Ov hlen hc e42⊢
   rcases hc with rfl|rfl|rfl|rfl|rfl|rfl|rfl|rfl|rfl|rfl|rfl|rfl|rfl|rfl|rfl|rfl|rfl|rfl|rfl|rfl
   ·refine aK (ay:=jY l ws) (keep:=[]) (cuts:=[]) (n:=1000) follows ?_
    refine aA (fun _ _ _ ZK=>((((true=false)→((DV.con Value.nilFunc).imp (kF (dQ l ws) (Value.int IntKind.i64 1))))∧ZK 125 [(.agg [(di 1),(ds xs),(di xn),(di xd),(di xp),(.slc 6 xl.length (lay (bJ m) xl))]),(.slc 1 KS.length (dV KS)),(.ptr [(di 0)])] (.au [(di 0),(di 0)]))∧((.au [(di 0),(.agg [(di xp),(di 0)])]):DV)=(.au [(di (fO l ws 1 xs KS (xl.getD 0 ak).s (xl.getD 1 ak).s).fst),(.agg [(di xp),(di (fO l ws 1 xs KS (xl.getD 0 ak).s (xl.getD 1 ak).s).snd)])]))) (by kernel_rfl) ?_
    refine⟨⟨fun h=>(by cases h),f125 m (.mk _ xs xn xd xp xl) KS _⟩,?_⟩
    rfl
   ·refine aK (ay:=jY l ws) (keep:=[]) (cuts:=[]) (n:=1000) follows ?_
    refine Ee (lN l ws (ah (DV.agg [di 2,ds xs,di xn,di xd,di xp,DV.slc 6 xl.length (lay (bJ m) xl)])).s) (fun Za=>((((true=false)→((DV.con Value.nilFunc).imp (kF (dQ l ws) (Value.int IntKind.i64 2))))∧aj Tryz.prog G 129 [(.ptr [(.mp none (fV l) (fH l)),(.mp none (wV ws) (wL ws))]),(.agg [(di 2),(ds xs),(di xn),(di xd),(di xp),(.slc 6 xl.length (lay (bJ m) xl))]),(.slc 1 KS.length (dV KS))] (.au [(di Za.fst),(di Za.snd)]))∧((.au [(di Za.fst),(.agg [(di xp),(di Za.snd)])]):DV)=(.au [(di (fO l ws 2 xs KS (xl.getD 0 ak).s (xl.getD 1 ak).s).fst),(.agg [(di xp),(di (fO l ws 2 xs KS (xl.getD 0 ak).s (xl.getD 1 ak).s).snd)])]))) (by kernel_rfl) ?_
    simp only[jA,e42,SB]
    refine⟨⟨fun h=>(by cases h),f129 l ws m (.mk _ xs xn xd xp xl) KS⟩,?_⟩
    rfl
   ·refine aK (ay:=jY l ws) (keep:=[]) (cuts:=[]) (n:=1000) follows ?_
    refine aA (fun _ _ _ ZK=>((((true=false)→((DV.con Value.nilFunc).imp (kF (dQ l ws) (Value.int IntKind.i64 3))))∧ZK 125 [(.agg [(di 3),(ds xs),(di xn),(di xd),(di xp),(.slc 6 xl.length (lay (bJ m) xl))]),(.slc 1 KS.length (dV KS)),(.ptr [(di 1)])] (.au [(di 1),(di 0)]))∧((.au [(di 1),(.agg [(di xp),(di 0)])]):DV)=(.au [(di (fO l ws 3 xs KS (xl.getD 0 ak).s (xl.getD 1 ak).s).fst),(.agg [(di xp),(di (fO l ws 3 xs KS (xl.getD 0 ak).s (xl.getD 1 ak).s).snd)])]))) (by kernel_rfl) ?_
    refine⟨⟨fun h=>(by cases h),f125 m (.mk _ xs xn xd xp xl) KS _⟩,?_⟩
    rfl
   ·refine aK (ay:=jY l ws) (keep:=[]) (cuts:=[]) (n:=1000) follows ?_
    refine aA (fun _ _ _ ZK=>((((true=false)→((DV.con Value.nilFunc).imp (kF (dQ l ws) (Value.int IntKind.i64 4))))∧ZK 125 [(.agg [(di 4),(ds xs),(di xn),(di xd),(di xp),(.slc 6 xl.length (lay (bJ m) xl))]),(.slc 1 KS.length (dV KS)),(.ptr [(di 1)])] (.au [(di 1),(di 0)]))∧((.au [(di 1),(.agg [(di xp),(di 0)])]):DV)=(.au [(di (fO l ws 4 xs KS (xl.getD 0 ak).s (xl.getD 1 ak).s).fst),(.agg [(di xp),(di (fO l ws 4 xs KS (xl.getD 0 ak).s (xl.getD 1 ak).s).snd)])]))) (by kernel_rfl) ?_
    refine⟨⟨fun h=>(by cases h),f125 m (.mk _ xs xn xd xp xl) KS _⟩,?_⟩
    rfl
   ·refine aK (ay:=jY l ws) (keep:=[]) (cuts:=[]) (n:=1000) follows ?_
    refine aA (fun _ _ _ ZK=>(fun Za=>((((true=false)→((DV.con Value.nilFunc).imp (kF (dQ l ws) (Value.int IntKind.i64 5))))∧ZK 127 [(.agg [(di 5),(ds xs),(di xn),(di xd),(di xp),(.slc 6 xl.length (lay (bJ m) xl))]),(.slc 1 KS.length (dV KS)),(.ptr [(di 0)]),(.ptr [(di 0)])] (.au [(di (iW Za 0 0)),(di (ji Za 0))]))∧((.au [(di (iW Za 0 0)),(.agg [(di xp),(di (ji Za 0))])]):DV)=(.au [(di (fO l ws 5 xs KS (xl.getD 0 ak).s (xl.getD 1 ak).s).fst),(.agg [(di xp),(di (fO l ws 5 xs KS (xl.getD 0 ak).s (xl.getD 1 ak).s).snd)])]))) (jE (DV.slc 1 KS.length (dV KS)))) (by kernel_rfl) ?_
    simp only[jA]
    refine⟨⟨fun h=>(by cases h),f127 m (.mk _ xs xn xd xp xl) KS _ _ (by omega)⟩,?_⟩
    rfl
   ·refine aK (ay:=jY l ws) (keep:=[]) (cuts:=[]) (n:=1000) follows ?_
    refine aA (fun _ _ _ ZK=>(fun Za=>((((true=false)→((DV.con Value.nilFunc).imp (kF (dQ l ws) (Value.int IntKind.i64 6))))∧ZK 127 [(.agg [(di 6),(ds xs),(di xn),(di xd),(di xp),(.slc 6 xl.length (lay (bJ m) xl))]),(.slc 1 KS.length (dV KS)),(.ptr [(di 0)]),(.ptr [(di 0)])] (.au [(di (iW Za 0 0)),(di (ji Za 0))]))∧((.au [(di (iW Za 0 0)),(.agg [(di xp),(di (ji Za 0))])]):DV)=(.au [(di (fO l ws 6 xs KS (xl.getD 0 ak).s (xl.getD 1 ak).s).fst),(.agg [(di xp),(di (fO l ws 6 xs KS (xl.getD 0 ak).s (xl.getD 1 ak).s).snd)])]))) (jE (DV.slc 1 KS.length (dV KS)))) (by kernel_rfl) ?_
    simp only[jA]
    refine⟨⟨fun h=>(by cases h),f127 m (.mk _ xs xn xd xp xl) KS _ _ (by omega)⟩,?_⟩
    rfl
   ·refine aK (ay:=jY l ws) (keep:=[]) (cuts:=[]) (n:=1000) follows ?_
    refine aA (fun _ _ _ ZK=>(fun Za=>((((true=false)→((DV.con Value.nilFunc).imp (kF (dQ l ws) (Value.int IntKind.i64 7))))∧ZK 127 [(.agg [(di 7),(ds xs),(di xn),(di xd),(di xp),(.slc 6 xl.length (lay (bJ m) xl))]),(.slc 1 KS.length (dV KS)),(.ptr [(di 0)]),(.ptr [(di 0)])] (.au [(di (iW Za 0 0)),(di (ji Za 0))]))∧((.au [(di (iW Za 0 0)),(.agg [(di xp),(di (ji Za 0))])]):DV)=(.au [(di (fO l ws 7 xs KS (xl.getD 0 ak).s (xl.getD 1 ak).s).fst),(.agg [(di xp),(di (fO l ws 7 xs KS (xl.getD 0 ak).s (xl.getD 1 ak).s).snd)])]))) (jE (DV.slc 1 KS.length (dV KS)))) (by kernel_rfl) ?_
    simp only[jA]
    refine⟨⟨fun h=>(by cases h),f127 m (.mk _ xs xn xd xp xl) KS _ _ (by omega)⟩,?_⟩
    rfl
   ·refine aK (ay:=jY l ws) (keep:=[]) (cuts:=[]) (n:=1000) follows ?_
    refine aA (fun _ _ _ ZK=>(fun Za=>((((true=false)→((DV.con Value.nilFunc).imp (kF (dQ l ws) (Value.int IntKind.i64 8))))∧ZK 127 [(.agg [(di 8),(ds xs),(di xn),(di xd),(di xp),(.slc 6 xl.length (lay (bJ m) xl))]),(.slc 1 KS.length (dV KS)),(.ptr [(di 0)]),(.ptr [(di 0)])] (.au [(di (iW Za 0 0)),(di (ji Za 0))]))∧((.au [(di (iW Za 0 0)),(.agg [(di xp),(di (ji Za 0))])]):DV)=(.au [(di (fO l ws 8 xs KS (xl.getD 0 ak).s (xl.getD 1 ak).s).fst),(.agg [(di xp),(di (fO l ws 8 xs KS (xl.getD 0 ak).s (xl.getD 1 ak).s).snd)])]))) (jE (DV.slc 1 KS.length (dV KS)))) (by kernel_rfl) ?_
    simp only[jA]
    refine⟨⟨fun h=>(by cases h),f127 m (.mk _ xs xn xd xp xl) KS _ _ (by omega)⟩,?_⟩
    rfl
   ·refine aK (ay:=jY l ws) (keep:=[]) (cuts:=[]) (n:=1000) follows ?_
    refine aA (fun _ _ _ ZK=>(fun Za=>((((true=false)→((DV.con Value.nilFunc).imp (kF (dQ l ws) (Value.int IntKind.i64 9))))∧ZK 127 [(.agg [(di 9),(ds xs),(di xn),(di xd),(di xp),(.slc 6 xl.length (lay (bJ m) xl))]),(.slc 1 KS.length (dV KS)),(.ptr [(di 0)]),(.ptr [(di 0)])] (.au [(di (iW Za 0 0)),(di (ji Za 0))]))∧((.au [(di (iW Za 0 0)),(.agg [(di xp),(di (ji Za 0))])]):DV)=(.au [(di (fO l ws 9 xs KS (xl.getD 0 ak).s (xl.getD 1 ak).s).fst),(.agg [(di xp),(di (fO l ws 9 xs KS (xl.getD 0 ak).s (xl.getD 1 ak).s).snd)])]))) (jE (DV.slc 1 KS.length (dV KS)))) (by kernel_rfl) ?_
    simp only[jA]
    refine⟨⟨fun h=>(by cases h),f127 m (.mk _ xs xn xd xp xl) KS _ _ (by omega)⟩,?_⟩
    rfl
   ·refine aK (ay:=jY l ws) (keep:=[]) (cuts:=[]) (n:=1000) follows ?_
    refine aA (fun _ _ _ ZK=>(fun Za=>((((true=false)→((DV.con Value.nilFunc).imp (kF (dQ l ws) (Value.int IntKind.i64 10))))∧ZK 127 [(.agg [(di 10),(ds xs),(di xn),(di xd),(di xp),(.slc 6 xl.length (lay (bJ m) xl))]),(.slc 1 KS.length (dV KS)),(.ptr [(di 0)]),(.ptr [(di 0)])] (.au [(di (iW Za 0 0)),(di (ji Za 0))]))∧((.au [(di (iW Za 0 0)),(.agg [(di xp),(di (ji Za 0))])]):DV)=(.au [(di (fO l ws 10 xs KS (xl.getD 0 ak).s (xl.getD 1 ak).s).fst),(.agg [(di xp),(di (fO l ws 10 xs KS (xl.getD 0 ak).s (xl.getD 1 ak).s).snd)])]))) (jE (DV.slc 1 KS.length (dV KS)))) (by kernel_rfl) ?_
    simp only[jA]
    refine⟨⟨fun h=>(by cases h),f127 m (.mk _ xs xn xd xp xl) KS _ _ (by omega)⟩,?_⟩
    rfl
   ·refine aK (ay:=jY l ws) (keep:=[]) (cuts:=[]) (n:=1000) follows ?_
    refine aA (fun _ _ _ ZK=>(fun Za=>((((true=false)→((DV.con Value.nilFunc).imp (kF (dQ l ws) (Value.int IntKind.i64 11))))∧ZK 127 [(.agg [(di 11),(ds xs),(di xn),(di xd),(di xp),(.slc 6 xl.length (lay (bJ m) xl))]),(.slc 1 KS.length (dV KS)),(.ptr [(di 0)]),(.ptr [(di 0)])] (.au [(di (iW Za 0 0)),(di (ji Za 0))]))∧((.au [(di (iW Za 0 0)),(.agg [(di xp),(di (ji Za 0))])]):DV)=(.au [(di (fO l ws 11 xs KS (xl.getD 0 ak).s (xl.getD 1 ak).s).fst),(.agg [(di xp),(di (fO l ws 11 xs KS (xl.getD 0 ak).s (xl.getD 1 ak).s).snd)])]))) (jE (DV.slc 1 KS.length (dV KS)))) (by kernel_rfl) ?_
    simp only[jA]
    refine⟨⟨fun h=>(by cases h),f127 m (.mk _ xs xn xd xp xl) KS _ _ (by omega)⟩,?_⟩
    rfl
   ·refine aK (ay:=jY l ws) (keep:=[]) (cuts:=[]) (n:=1000) follows ?_
    refine rV (ah (DV.agg [di 12,ds xs,di xn,di xd,di xp,DV.slc 6 xl.length (lay (bJ m) xl)])) (jE (DV.slc 1 KS.length (dV KS))) (fun Za Zb=>((((true=false)→((DV.con Value.nilFunc).imp (kF (dQ l ws) (Value.int IntKind.i64 12))))∧aj Tryz.prog G 130 [(.ptr [(.mp none (fV l) (fH l)),(.mp none (wV ws) (wL ws))]),(.agg [(di 12),(ds xs),(di xn),(di xd),(di xp),(.slc 6 xl.length (lay (bJ m) xl))]),(.slc 1 KS.length (dV KS))] (.au [(di (if cmK l (Za.kids.getD 0 ak).s (Za.kids.getD 1 ak).s (Zb.getD 0 0) (Zb.getD 1 0)=true then 1 else 0)),(di (if cmK l (Za.kids.getD 0 ak).s (Za.kids.getD 1 ak).s (Zb.getD 0 0) (Zb.getD 1 0)=true then 0 else 5))]))∧((.au [(di (if cmK l (Za.kids.getD 0 ak).s (Za.kids.getD 1 ak).s (Zb.getD 0 0) (Zb.getD 1 0)=true then 1 else 0)),(.agg [(di xp),(di (if cmK l (Za.kids.getD 0 ak).s (Za.kids.getD 1 ak).s (Zb.getD 0 0) (Zb.getD 1 0)=true then 0 else 5))])]):DV)=(.au [(di (fO l ws 12 xs KS (xl.getD 0 ak).s (xl.getD 1 ak).s).fst),(.agg [(di xp),(di (fO l ws 12 xs KS (xl.getD 0 ak).s (xl.getD 1 ak).s).snd)])]))) (by kernel_rfl) ?_
    simp only[jA,e42,SB,MI]
    have h2:=(BJ (by decide)).1
    refine⟨⟨fun h=>(by cases h),f130 l ws m (.mk _ xs xn xd xp xl) KS hx (by omega) (by rw[MI];omega) hl⟩,?_⟩
    rfl
   ·refine aK (ay:=jY l ws) (keep:=[]) (cuts:=[]) (n:=1000) follows ?_
    refine rV (ah (DV.agg [di 13,ds xs,di xn,di xd,di xp,DV.slc 6 xl.length (lay (bJ m) xl)])) (jE (DV.slc 1 KS.length (dV KS))) (fun Za Zb=>((((true=false)→((DV.con Value.nilFunc).imp (kF (dQ l ws) (Value.int IntKind.i64 13))))∧aj Tryz.prog G 130 [(.ptr [(.mp none (fV l) (fH l)),(.mp none (wV ws) (wL ws))]),(.agg [(di 13),(ds xs),(di xn),(di xd),(di xp),(.slc 6 xl.length (lay (bJ m) xl))]),(.slc 1 KS.length (dV KS))] (.au [(di (if cmK l (Za.kids.getD 0 ak).s (Za.kids.getD 1 ak).s (Zb.getD 0 0) (Zb.getD 1 0)=true then 1 else 0)),(di (if cmK l (Za.kids.getD 0 ak).s (Za.kids.getD 1 ak).s (Zb.getD 0 0) (Zb.getD 1 0)=true then 0 else 5))]))∧((.au [(di (if cmK l (Za.kids.getD 0 ak).s (Za.kids.getD 1 ak).s (Zb.getD 0 0) (Zb.getD 1 0)=true then 1 else 0)),(.agg [(di xp),(di (if cmK l (Za.kids.getD 0 ak).s (Za.kids.getD 1 ak).s (Zb.getD 0 0) (Zb.getD 1 0)=true then 0 else 5))])]):DV)=(.au [(di (fO l ws 13 xs KS (xl.getD 0 ak).s (xl.getD 1 ak).s).fst),(.agg [(di xp),(di (fO l ws 13 xs KS (xl.getD 0 ak).s (xl.getD 1 ak).s).snd)])]))) (by kernel_rfl) ?_
    simp only[jA,e42,SB,MI]
    have h2:=(BJ (by decide)).1
    refine⟨⟨fun h=>(by cases h),f130 l ws m (.mk _ xs xn xd xp xl) KS hx (by omega) (by rw[MI];omega) hl⟩,?_⟩
    rfl
   ·refine aK (ay:=jY l ws) (keep:=[]) (cuts:=[]) (n:=1000) follows ?_
    refine aA (fun _ _ _ ZK=>(fun Za=>((((true=false)→((DV.con Value.nilFunc).imp (kF (dQ l ws) (Value.int IntKind.i64 14))))∧ZK 127 [(.agg [(di 14),(ds xs),(di xn),(di xd),(di xp),(.slc 6 xl.length (lay (bJ m) xl))]),(.slc 1 KS.length (dV KS)),(.ptr [(di 0)]),(.ptr [(di 1)])] (.au [(di (iW Za 0 1)),(di (ji Za 0))]))∧((.au [(di (iW Za 0 1)),(.agg [(di xp),(di (ji Za 0))])]):DV)=(.au [(di (fO l ws 14 xs KS (xl.getD 0 ak).s (xl.getD 1 ak).s).fst),(.agg [(di xp),(di (fO l ws 14 xs KS (xl.getD 0 ak).s (xl.getD 1 ak).s).snd)])]))) (jE (DV.slc 1 KS.length (dV KS)))) (by kernel_rfl) ?_
    simp only[jA]
    refine⟨⟨fun h=>(by cases h),f127 m (.mk _ xs xn xd xp xl) KS _ _ (by omega)⟩,?_⟩
    rfl
   ·refine aK (ay:=jY l ws) (keep:=[]) (cuts:=[]) (n:=1000) follows ?_
    refine aA (fun _ _ _ ZK=>(fun Za=>((((true=false)→((DV.con Value.nilFunc).imp (kF (dQ l ws) (Value.int IntKind.i64 15))))∧ZK 127 [(.agg [(di 15),(ds xs),(di xn),(di xd),(di xp),(.slc 6 xl.length (lay (bJ m) xl))]),(.slc 1 KS.length (dV KS)),(.ptr [(di 0)]),(.ptr [(di 1)])] (.au [(di (iW Za 0 1)),(di (ji Za 0))]))∧((.au [(di (iW Za 0 1)),(.agg [(di xp),(di (ji Za 0))])]):DV)=(.au [(di (fO l ws 15 xs KS (xl.getD 0 ak).s (xl.getD 1 ak).s).fst),(.agg [(di xp),(di (fO l ws 15 xs KS (xl.getD 0 ak).s (xl.getD 1 ak).s).snd)])]))) (jE (DV.slc 1 KS.length (dV KS)))) (by kernel_rfl) ?_
    simp only[jA]
    refine⟨⟨fun h=>(by cases h),f127 m (.mk _ xs xn xd xp xl) KS _ _ (by omega)⟩,?_⟩
    rfl
   ·refine aK (ay:=jY l ws) (keep:=[]) (cuts:=[]) (n:=1000) follows ?_
    refine aA (fun _ _ _ ZK=>(fun Za=>((((true=false)→((DV.con Value.nilFunc).imp (kF (dQ l ws) (Value.int IntKind.i64 16))))∧ZK 127 [(.agg [(di 16),(ds xs),(di xn),(di xd),(di xp),(.slc 6 xl.length (lay (bJ m) xl))]),(.slc 1 KS.length (dV KS)),(.ptr [(di 0)]),(.ptr [(di 1)])] (.au [(di (iW Za 0 1)),(di (ji Za 0))]))∧((.au [(di (iW Za 0 1)),(.agg [(di xp),(di (ji Za 0))])]):DV)=(.au [(di (fO l ws 16 xs KS (xl.getD 0 ak).s (xl.getD 1 ak).s).fst),(.agg [(di xp),(di (fO l ws 16 xs KS (xl.getD 0 ak).s (xl.getD 1 ak).s).snd)])]))) (jE (DV.slc 1 KS.length (dV KS)))) (by kernel_rfl) ?_
    simp only[jA]
    refine⟨⟨fun h=>(by cases h),f127 m (.mk _ xs xn xd xp xl) KS _ _ (by omega)⟩,?_⟩
    rfl
   ·refine aK (ay:=jY l ws) (keep:=[]) (cuts:=[]) (n:=1000) follows ?_
    refine aA (fun _ _ _ ZK=>(fun Za=>((((true=false)→((DV.con Value.nilFunc).imp (kF (dQ l ws) (Value.int IntKind.i64 17))))∧ZK 127 [(.agg [(di 17),(ds xs),(di xn),(di xd),(di xp),(.slc 6 xl.length (lay (bJ m) xl))]),(.slc 1 KS.length (dV KS)),(.ptr [(di 0)]),(.ptr [(di 1)])] (.au [(di (iW Za 0 1)),(di (ji Za 0))]))∧((.au [(di (iW Za 0 1)),(.agg [(di xp),(di (ji Za 0))])]):DV)=(.au [(di (fO l ws 17 xs KS (xl.getD 0 ak).s (xl.getD 1 ak).s).fst),(.agg [(di xp),(di (fO l ws 17 xs KS (xl.getD 0 ak).s (xl.getD 1 ak).s).snd)])]))) (jE (DV.slc 1 KS.length (dV KS)))) (by kernel_rfl) ?_
    simp only[jA]
    refine⟨⟨fun h=>(by cases h),f127 m (.mk _ xs xn xd xp xl) KS _ _ (by omega)⟩,?_⟩
    rfl
   ·refine aK (ay:=jY l ws) (keep:=[]) (cuts:=[]) (n:=1000) follows ?_
    refine aA (fun _ _ _ ZK=>(fun Za=>((((true=false)→((DV.con Value.nilFunc).imp (kF (dQ l ws) (Value.int IntKind.i64 18))))∧ZK 127 [(.agg [(di 18),(ds xs),(di xn),(di xd),(di xp),(.slc 6 xl.length (lay (bJ m) xl))]),(.slc 1 KS.length (dV KS)),(.ptr [(di 1)]),(.ptr [(di 1)])] (.au [(di (iW Za 1 1)),(di (ji Za 1))]))∧((.au [(di (iW Za 1 1)),(.agg [(di xp),(di (ji Za 1))])]):DV)=(.au [(di (fO l ws 18 xs KS (xl.getD 0 ak).s (xl.getD 1 ak).s).fst),(.agg [(di xp),(di (fO l ws 18 xs KS (xl.getD 0 ak).s (xl.getD 1 ak).s).snd)])]))) (jE (DV.slc 1 KS.length (dV KS)))) (by kernel_rfl) ?_
    simp only[jA]
    refine⟨⟨fun h=>(by cases h),f127 m (.mk _ xs xn xd xp xl) KS _ _ (by omega)⟩,?_⟩
    rfl
   ·refine aK (ay:=jY l ws) (keep:=[]) (cuts:=[]) (n:=1000) follows ?_
    refine aA (fun _ _ _ ZK=>(fun Za=>((((true=false)→((DV.con Value.nilFunc).imp (kF (dQ l ws) (Value.int IntKind.i64 19))))∧ZK 127 [(.agg [(di 19),(ds xs),(di xn),(di xd),(di xp),(.slc 6 xl.length (lay (bJ m) xl))]),(.slc 1 KS.length (dV KS)),(.ptr [(di 1)]),(.ptr [(di 1)])] (.au [(di (iW Za 1 1)),(di (ji Za 1))]))∧((.au [(di (iW Za 1 1)),(.agg [(di xp),(di (ji Za 1))])]):DV)=(.au [(di (fO l ws 19 xs KS (xl.getD 0 ak).s (xl.getD 1 ak).s).fst),(.agg [(di xp),(di (fO l ws 19 xs KS (xl.getD 0 ak).s (xl.getD 1 ak).s).snd)])]))) (jE (DV.slc 1 KS.length (dV KS)))) (by kernel_rfl) ?_
    simp only[jA]
    refine⟨⟨fun h=>(by cases h),f127 m (.mk _ xs xn xd xp xl) KS _ _ (by omega)⟩,?_⟩
    rfl
   ·refine aK (ay:=jY l ws) (keep:=[]) (cuts:=[]) (n:=1000) follows ?_
    refine aA (fun _ _ _ ZK=>(fun Za=>((((true=false)→((DV.con Value.nilFunc).imp (kF (dQ l ws) (Value.int IntKind.i64 20))))∧ZK 127 [(.agg [(di 20),(ds xs),(di xn),(di xd),(di xp),(.slc 6 xl.length (lay (bJ m) xl))]),(.slc 1 KS.length (dV KS)),(.ptr [(di 1)]),(.ptr [(di 1)])] (.au [(di (iW Za 1 1)),(di (ji Za 1))]))∧((.au [(di (iW Za 1 1)),(.agg [(di xp),(di (ji Za 1))])]):DV)=(.au [(di (fO l ws 20 xs KS (xl.getD 0 ak).s (xl.getD 1 ak).s).fst),(.agg [(di xp),(di (fO l ws 20 xs KS (xl.getD 0 ak).s (xl.getD 1 ak).s).snd)])]))) (jE (DV.slc 1 KS.length (dV KS)))) (by kernel_rfl) ?_
    simp only[jA]
    refine⟨⟨fun h=>(by cases h),f127 m (.mk _ xs xn xd xp xl) KS _ _ (by omega)⟩,?_⟩
    rfl
/-! Type. -/
theorem WV {l:List Fc} {N:Nat} (h:∀x∈l,x.words.length≤N) (v:Value):(fM l v).words.length≤N:=by
 induction l with
 | nil=>exact Nat.zero_le _
 | cons x l ih=>
  unfold fM
  cases iR v (.string x.name) with
  | true=>exact h x (List.mem_cons_self ..)
  | false=>exact ih fun y hy=>h y (List.mem_cons_of_mem _ hy)
theorem SK {L:List Fc} (h:∀i,i<L.length→sS (L.getD i aG)) (v:Value):(fM (aW L L.length) v).words.length≤1000:=by
 refine WV (fun x hx=>?_) v
 unfold aW at hx
 rw[List.take_length,List.mem_reverse] at hx
 obtain ⟨i,hi,rfl⟩:=List.getElem_of_mem hx
 have:=(h i hi).ln
 rw[List.getD,bQ hi] at this
 exact this
abbrev dA (L:List Fc) (x:Ex):KR:=bZ (aW L L.length) (dW L L.length) x
def aP (L:List Fc) (x:Ex):KR:=if (!jk L||decide ((oh x).size=0))=true then (0,0,1) else if (dA L x).2.2≠0 then (0,(dA L x).2) else ((dA L x).1,0,0)
noncomputable def abZ (L:List Fc):aZ:=fun f a=>match f,a with
 | 51,[_]=>some (db (jk L))
 | 72,[e]=>some (ds (oh (ah e)))
 | 63,[_]=>some (KX L)
 | 74,[w]=>some (zO w)
 | 73,[_,e,_]=>some (.au [di (dA L (ah e)).1,.agg [di (dA L (ah e)).2.1,di (dA L (ah e)).2.2]])
 | _,_=>none
theorem f42 (hT:Tab G) (m:Nat) (x:Ex) (L:List Fc) (hx:ht x≤m) (hs:Sm x) (h:∀i,i<L.length→sS (L.getD i aG)) (hl:L.length≤1000):aj Tryz.prog G 42 [bG m x,fC L] (.au [di (aP L x).1,di (aP L x).2.1,di (aP L x).2.2]):=by
 have e:ah (exV x.k x.s x.n x.d x.pos x.kids.length (lay (bJ m) x.kids))=x:=fU hx
 refine aj.walk (ay:=abZ L) (keep:=[]) follows Tryz.func42 rfl Tryz.call42 ?_
 refine aA (fun _ _ _ ZK=>(fun Za Zb Zc=>((ZK 51 [(.slc 7 L.length (gV L))] (db (jk L))∧(((!!jk L)=true)→ZK 72 [(aB m x)] (ds (oh (ah (aB m x))))))∧(((!jk L||(oh (ah (aB m x))).toList==(ByteArray.mk #[]).toList)=true)→(((.au [(di 0),(di 0),(di 1)]):DV)=Zb))∧(((!jk L||(oh (ah (aB m x))).toList==(ByteArray.mk #[]).toList)=false)→(ZK 63 [(.slc 7 L.length (gV L))] Za∧(ZK 74 [Za] (.mp (some .i64) Zc (hK (vH 3)))∧ZK 73 [Za,(aB m x),(.mp (some .i64) Zc (hK (vH 3)))] (.au [(di (dA L (ah (aB m x))).fst),(.agg [(di (dA L (ah (aB m x))).snd.fst),(di (dA L (ah (aB m x))).snd.snd)])]))∧((((dA L (ah (aB m x))).snd.snd != 0)=true)→(((.au [(di 0),(di (dA L (ah (aB m x))).snd.fst),(di (dA L (ah (aB m x))).snd.snd)]):DV)=Zb))∧((((dA L (ah (aB m x))).snd.snd != 0)=false)→(((.au [(di (dA L (ah (aB m x))).fst),(di 0),(di 0)]):DV)=Zb)))))) ((.ptr [(.mp none (fV (aW L L.length)) (fH (aW L L.length))),(.mp none (wV (dW L L.length)) (wL (dW L L.length)))]):DV) ((.au [(di (aP L x).fst),(di (aP L x).snd.fst),(di (aP L x).snd.snd)]):DV) (kF (DV.ptr [DV.mp none (fV (aW L L.length)) (fH (aW L L.length)),DV.mp none (wV (dW L L.length)) (wL (dW L L.length))]))) (by kernel_rfl) ?_
 simp only[e,uz]
 have hwd:=fun i (hi:i<L.length)=>(h i hi).ln
 refine⟨⟨f51 hT L h hl,fun _=>f72 hT m x hx hs⟩,fun h1=>?_,fun h1=>⟨f63 L (by omega) (fun i hi=>by have:=hwd i hi;omega),⟨f74 _ _,f73 _ _ (fun v=>by have:=SK h v;omega) m x hx hs ?_⟩,fun h2=>?_,fun h2=>?_⟩⟩
 ·unfold aP
  rw[if_pos h1]
 ·rw[Bool.or_eq_false_iff,decide_eq_false_iff_not] at h1
  unfold oh kK at h1
  have h2:=h1.2
  cases hh:aV x with
  | true=>rfl
  | false=>rw[hh] at h2;exact absurd rfl h2
 ·have h2:(dA L x).2.2≠0:=by simpa using h2
  unfold aP
  rw[if_neg (by rw[h1];decide),if_pos h2]
 ·have h2:(dA L x).2.2=0:=by simpa using h2
  unfold aP
  rw[if_neg (by rw[h1];decide),if_neg (by omega)]
/-! Names that occur. -/
/-! ab2. -/
/-! agf. -/
def xW (a b:Int):Int:=if a>0 then 1 else if b<0 then -1 else 0
theorem f106 (a b c d:Int):aj Tryz.prog G 106 [.agg [di a,di b,di c,di d]] (di (xW a c)):=by
 refine aj.walk (ay:=jo) (keep:=[]) follows Tryz.func106 rfl Tryz.call106 ?_
 refine aA (fun _ _ _ _=>((((decide (a>0))=true)→(((di 1):DV)=(di (xW a c))))∧(((decide (a>0))=false)→((((decide (c<0))=true)→(((di (-1)):DV)=(di (xW a c))))∧(((decide (c<0))=false)→(((di 0):DV)=(di (xW a c)))))))) (by kernel_rfl) ?_
 simp only[decide_eq_true_eq,decide_eq_false_iff_not]
 unfold xW
 refine⟨fun h=>?_,fun h=>⟨fun h2=>?_,fun h2=>?_⟩⟩
 ·rw[if_pos h]
 ·rw[if_neg h,if_pos h2]
 ·rw[if_neg h,if_neg h2]
end Go.Proofs
