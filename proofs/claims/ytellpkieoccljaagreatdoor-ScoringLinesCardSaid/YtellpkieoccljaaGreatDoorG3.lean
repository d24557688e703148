import Derived.Test.YtellpkieoccljaaGreatDoorG2
import Derived.Test.YtellpkieoccljaaGreatDoorAcD
set_option autoImplicit false
namespace Go.Proofs
open Go Go.Ab Go.RowKit
set_option maxHeartbeats 4000000
/-! The reference's ValidFacts,and the program's. -/
def wordsOK (L:List Fc) (ws:List ByteArray):Prop:=∀j,j<ws.length→nameB (ws.getD j .empty)=true∧ws.getD j .empty∉ws.take j∧¬fndI L (ws.getD j .empty)≥0
def rgA (L:List Fc) (k:Nat) (x:Fc):Prop:=nameB x.name=true∧fndI L x.name=k∧((x.kind=0∧ok2O x.ln x.ld x.hn x.hd=true∧cmpO x.ln x.ld x.hn x.hd≤0∧x.words.length=0)∨
 (x.kind=1∧zeroB x=true∧x.words.length=0)∨(x.kind=2∧zeroB x=true∧1≤x.words.length∧x.words.length≤16∧wordsOK L x.words))
theorem anyB_mem (l:List ByteArray) (s:ByteArray):anyB l s=true↔s∈l:=by
 unfold anyB
 rw[List.any_eq_true]
 simp only[dEt]
 exact⟨fun ⟨x,h,e⟩=>e▸h,fun h=>⟨s,h,rfl⟩⟩
theorem nodup_iff {l:List ByteArray}:l.Nodup↔∀j,j<l.length→l.getD j .empty∉l.take j:=by
 constructor
 ·intro h j hj hm
  exact nodup_not hj hm h
 ·intro h
  have:∀k,k≤l.length→(l.take k).Nodup:=by
   intro k
   induction k with
   | zero=>intro _;simp
   | succ k ih=>intro hk;exact nodup_step hk (ih (by omega)) (h k hk)
  have:=this l.length (Nat.le_refl _)
  rwa [List.take_length] at this
theorem fnd_neg (L:List Fc) (s:ByteArray):¬fndI L s≥0↔s∉namesL L:=by
 have h:=idI_ge (isN s) L
 have e:L.any (isN s)=true↔s∈namesL L:=by
  rw[List.any_eq_true]
  unfold namesL isN
  simp only[dEt,List.mem_map]
 unfold fndI
 rw[←e,←h,dEt]
theorem fnd_name {L:List Fc} {k:Nat} (hk:k<L.length):fndI L (L.getD k fc0).name=k↔(namesL L).getD k .empty∉(namesL L).take k:=by
 have hn:(namesL L).getD k .empty=(L.getD k fc0).name:=by
  unfold namesL
  rw[List.getD,List.getD,List.getElem?_map,gEe hk];rfl
 rw[hn]
 have hm:(L.getD k fc0).name∈(namesL L).take k↔∃i,i<k∧(L.getD i fc0).name=(L.getD k fc0).name:=by
  unfold namesL
  rw[←List.map_take,List.mem_map]
  constructor
  ·rintro ⟨x,hx,e⟩
   obtain ⟨i,hi,rfl⟩:=List.getElem_of_mem hx
   rw[List.length_take] at hi
   refine⟨i,by omega,?_⟩
   rw[List.getElem_take] at e
   rw[←e,List.getD,gEe (by omega)];rfl
  ·rintro ⟨i,hi,e⟩
   refine⟨L.getD i fc0,?_,e⟩
   rw[List.getD,gEe (by omega)]
   exact List.mem_take_iff_getElem.2 ⟨i,by omega,rfl⟩
 rw[hm]
 constructor
 ·rintro h ⟨i,hi,e⟩
  have key:∀i,i<k→isN (L.getD k fc0).name (L.getD i fc0)=false:=by
   intro i
   induction i using Nat.strongRecOn with
   | _ i ih=>
    intro hi
    rw[Bool.eq_false_iff]
    intro ht
    have h2:=(idI_hit (x0:=fc0) (by omega) (fun j hj=>ih j hj (by omega)) ht).2
    have h3:fndI L (L.getD k fc0).name=i:=h2
    omega
  have h4:=key i hi
  unfold isN at h4
  rw[decide_eq_true e] at h4
  cases h4
 ·intro h
  refine(idI_hit (x0:=fc0) hk (fun i hi=>?_) ?_).2
  ·unfold isN
   rw[decide_eq_false]
   exact fun e=>h ⟨i,hi,e⟩
  ·unfold isN;simp
theorem vf_ref {L:List Fc} (h32:L.length≤32):vfB L=true↔∀k,k<L.length→rgA L k (L.getD k fc0):=by
 have hw:∀ws:List ByteArray,(ws.any fun s=>anyB (namesL L) s)=false↔∀j,j<ws.length→¬fndI L (ws.getD j .empty)≥0:=by
  intro ws
  constructor
  ·intro h j hj
   rw[fnd_neg,←anyB_mem]
   intro hh
   rw[List.any_eq_false] at h
   refine h (ws.getD j .empty) ?_ hh
   rw[List.getD,gEe hj];exact List.getElem_mem hj
  ·intro h
   rw[List.any_eq_false]
   intro x hx hh
   obtain ⟨j,hj,rfl⟩:=List.getElem_of_mem hx
   have:=h j hj
   rw[List.getD,gEe hj,fnd_neg,←anyB_mem] at this
   exact this hh
 have hn:∀ws:List ByteArray,(ws.any fun s=>!nameB s)=false↔∀j,j<ws.length→nameB (ws.getD j .empty)=true:=by
  intro ws
  constructor
  ·intro h j hj
   rw[List.any_eq_false] at h
   have:=h (ws.getD j .empty) (by rw[List.getD,gEe hj];exact List.getElem_mem hj)
   simpa using this
  ·intro h
   rw[List.any_eq_false]
   intro x hx
   obtain ⟨j,hj,rfl⟩:=List.getElem_of_mem hx
   have:=h j hj
   rw[List.getD,gEe hj] at this
   simpa using this
 have hone:∀(k:Nat) (x:Fc),(badB (namesL L) x=false∧fndI L x.name=k)↔rgA L k x:=by
  intro k x
  unfold badB dscB rgA wordsOK
  rw[Bool.or_eq_false_iff,Bool.not_eq_false',bAt]
  constructor
  ·rintro ⟨⟨⟨h1,h2⟩,h3⟩,h4⟩
   refine⟨h1,h4,?_⟩
   by_cases k0:x.kind=0
   ·rw[if_pos k0] at h2
    simp only[bAt,dEt] at h2
    exact .inl ⟨k0,h2.1.1,h2.1.2,h2.2⟩
   ·rw[if_neg k0] at h2
    by_cases k1:x.kind=1
    ·rw[if_pos k1] at h2
     simp only[bAt,dEt] at h2
     exact .inr (.inl ⟨k1,h2.1,h2.2⟩)
    ·rw[if_neg k1] at h2
     by_cases k2:x.kind=2
     ·rw[if_pos k2] at h2
      simp only[bAt,dEt,Bool.not_eq_true'] at h2
      obtain ⟨⟨⟨⟨z,l1⟩,l2⟩,nd⟩,nm⟩:=h2
      exact .inr (.inr ⟨k2,z,l1,l2,fun j hj=>⟨(hn _).1 nm j hj,nodup_iff.1 nd j hj,(hw _).1 h3 j hj⟩⟩)
     ·rw[if_neg k2] at h2;cases h2
  ·rintro ⟨h1,h4,h⟩
   rcases h with ⟨k0,a,b,c⟩|⟨k1,a,b⟩|⟨k2,z,l1,l2,w⟩
   ·have hnil:=List.eq_nil_of_length_eq_zero c
    rw[if_pos k0]
    refine⟨⟨⟨h1,?_⟩,by rw[hnil];rfl⟩,h4⟩
    simp only[bAt,dEt]
    exact⟨⟨a,b⟩,c⟩
   ·have hnil:=List.eq_nil_of_length_eq_zero b
    rw[if_neg (by omega),if_pos k1]
    refine⟨⟨⟨h1,?_⟩,by rw[hnil];rfl⟩,h4⟩
    simp only[bAt,dEt]
    exact⟨a,b⟩
   ·rw[if_neg (by omega),if_neg (by omega),if_pos k2]
    refine⟨⟨⟨h1,?_⟩,(hw _).2 fun j hj=>(w j hj).2.2⟩,h4⟩
    simp only[bAt,dEt,Bool.not_eq_true']
    exact⟨⟨⟨⟨z,l1⟩,l2⟩,nodup_iff.2 fun j hj=>(w j hj).2.1⟩,(hn _).2 fun j hj=>(w j hj).1⟩
 unfold vfB ndB
 rw[decide_eq_true h32,Bool.true_and,bAt,dEt,Bool.not_eq_true',List.any_eq_false,nodup_iff,namesL_len]
 constructor
 ·rintro ⟨h1,h2⟩ k hk
  refine(hone k _).1 ⟨?_,(fnd_name hk).2 (h1 k hk)⟩
  have:=h2 (L.getD k fc0) (by rw[List.getD,gEe hk];exact List.getElem_mem hk)
  simpa using this
 ·intro h
  refine⟨fun k hk=>(fnd_name hk).1 ((hone k _).2 (h k hk)).2,fun x hx=>?_⟩
  obtain ⟨k,hk,rfl⟩:=List.getElem_of_mem hx
  have:=((hone k _).2 (h k hk)).1
  rw[List.getD,gEe hk] at this
  simpa using this
set_option maxRecDepth 100000
variable {G:IH}
noncomputable def orcRv (L:List Fc):Oracle:=fun f a=>match f,a with
 | 100,[.con (.string s)]=>some (db (nameB s))
 | 101,[_,.con (.string s)]=>some (di (fndI L s))
 | 25,[fr a b,fr c d]=>some (.tup [di (cmpO a b c d),db (ok2O a b c d)])
 | 55,[w,.con (.string s)]=>some (db (anyB (rdW w) s))
 | _,_=>none
abbrev fcC (x:Fc):List AV:=[.d (ds x.name),vi x.kind,vi x.ln,vi x.ld,vi x.hn,vi x.hd,.d (wdD x.words)]
noncomputable def S22 (L:List Fc) (k:Nat):AS:=⟨regs Tryz.f54.ntmps [(0,.d (fcsD L)),(3,.box 3 0),(4,vi k)],[(3,[vi 0,vi 0])]⟩
noncomputable def S22i (L:List Fc) (k j:Nat):AS:=⟨regs Tryz.f54.ntmps [(0,.d (fcsD L)),(3,.box 3 0),(4,vi k),(5,.box 5 0),(8,vi j)],[(3,[vi 0,vi 0]),(5,fcC (L.getD k fc0))]⟩
theorem rdW_take {l:List ByteArray} {j:Nat} (h:j≤l.length):rdW (.slc 1 j fun i=>stF l (0+i))=l.take j:=by
 unfold rdW
 refine List.ext_getElem (by simp;omega) fun i h1 h2=>?_
 rw[List.getElem_map,List.getElem_range,List.getElem_take]
 unfold stF
 have hi:i<l.length:=by simp at h2;omega
 show rdS (ds (l.getD (0+i) .empty))=l[i]
 rw[Nat.zero_add,List.getD,gEe hi];rfl
theorem stF_take {l:List ByteArray} {i j:Nat} (hi:i<j):stF l (0+i)=stF (l.take j) i:=by
 unfold stF
 rw[Nat.zero_add,List.getD,List.getD,List.getElem?_take_of_lt hi]
theorem f54 (hT:Tab G) (L:List Fc) (h:∀i,i<L.length→FcS (L.getD i fc0)) (hl:L.length≤1000):FnOK Tryz.prog G 54 [fcsD L] (db (vfB L)):=by
 refine FnOK.walk (orc:=orcRv L) (keep:=[]) follows Tryz.func54 rfl Tryz.call54 ?_
 refine of_tr (fun ZT ZW ZQ _=>((((decide ((↑L.length:Int)>32))=true)→(((db false):DV)=(db (vfB L))))∧(((decide ((↑L.length:Int)>32))=false)→ZW [cd Tryz.f54 [1,1,1,0,1,0],(.blk 0),cd Tryz.f54 [1,1,1,1]] (stS ZT [1]) ZQ))) (by kernel_rfl) ?_
 refine⟨fun h32=>?_,fun h32=>?_⟩
 ·have h32:=oDt h32
  unfold vfB
  rw[decide_eq_false (by omega)];rfl
 have h32:=of_decide_eq_false h32
 have hvf:=vf_ref (L:=L) (by omega)
 have hfalse:∀k,k<L.length→¬rgA L k (L.getD k fc0)→db false=db (vfB L):=by
  intro k hk hn
  refine congrArg db ?_
  cases hv:vfB L with
  | false=>rfl
  | true=>exact absurd (hvf.1 hv k hk) hn
 refine AWP.loop (c:=cAt (bodyOf Tryz.f54) [1,1,1,0,1,0,0]) (by kernel_rfl) (S22 L) (fun k=>k≤L.length∧∀i,i<k→rgA L i (L.getD i fc0)) (fun k=>L.length-k) 0 ?_ ⟨Nat.zero_le _,fun i hi=>absurd hi (Nat.not_lt_zero _)⟩ ?_
 ·exact AS.leA (by kernel_rfl)
 ·rintro k ⟨hk,hkd⟩
  refine walk (orc:=orcRv L) (keep:=[]) (cuts:=[]) (n:=1000) follows ?_
  refine of_rd (fun ZT ZW ZQ ZK ZA ZR=>(fun Za Zb Zc Zd=>((((decide ((↑k:Int)<↑L.length))=true)→(((0≤(↑k:Int))∧((↑k:Int)<↑L.length))∧(ZK 100 [(ds (L.getD (↑k:Int).toNat fc0).name)] (db (nameB (L.getD (↑k:Int).toNat fc0).name))∧(((!!nameB (L.getD (↑k:Int).toNat fc0).name)=true)→ZK 101 [(.slc 7 L.length (fcF L)),(ds (L.getD (↑k:Int).toNat fc0).name)] (di (fndI L (L.getD (↑k:Int).toNat fc0).name))))∧((Zd=true)→(((db false):DV)=(db (vfB L))))∧((Zd=false)→(((((L.getD (↑k:Int).toNat fc0).kind==0)=true)→(ZK 25 [(.agg [(di (L.getD (↑k:Int).toNat fc0).ln),(di (L.getD (↑k:Int).toNat fc0).ld)]),(.agg [(di (L.getD (↑k:Int).toNat fc0).hn),(di (L.getD (↑k:Int).toNat fc0).hd)])] (.tup [(di (cmpO (L.getD (↑k:Int).toNat fc0).ln (L.getD (↑k:Int).toNat fc0).ld (L.getD (↑k:Int).toNat fc0).hn (L.getD (↑k:Int).toNat fc0).hd)),(db (ok2O (L.getD (↑k:Int).toNat fc0).ln (L.getD (↑k:Int).toNat fc0).ld (L.getD (↑k:Int).toNat fc0).hn (L.getD (↑k:Int).toNat fc0).hd))])∧(((!ok2O (Fc.ln Za) (Fc.ld Za) (Fc.hn Za) (Fc.hd Za)||decide (cmpO (Fc.ln Za) (Fc.ld Za) (Fc.hn Za) (Fc.hd Za)>0)||decide ((↑(List.length (Fc.words Za)):Int)>0))=true)→(((db false):DV)=(db (vfB L))))∧(((!ok2O (Fc.ln Za) (Fc.ld Za) (Fc.hn Za) (Fc.hd Za)||decide (cmpO (Fc.ln Za) (Fc.ld Za) (Fc.hn Za) (Fc.hd Za)>0)||decide ((↑(List.length (Fc.words Za)):Int)>0))=false)→((I64 (↑k+1))∧(ZA (stS ZT [0,1,0,1]))))))∧((((L.getD (↑k:Int).toNat fc0).kind==0)=false)→(((((L.getD (↑k:Int).toNat fc0).kind==1)=true)→((((!Bool.rec false (Zb.ld==0) (Zb.ln==0)||!Bool.rec false (Zb.hd==0) (Zb.hn==0)||decide (Zc>0))=true)→(((db false):DV)=(db (vfB L))))∧(((!Bool.rec false (Zb.ld==0) (Zb.ln==0)||!Bool.rec false (Zb.hd==0) (Zb.hn==0)||decide (Zc>0))=false)→((I64 (↑k+1))∧(ZA (stS ZT [0,1,1,0,1]))))))∧((((L.getD (↑k:Int).toNat fc0).kind==1)=false)→(((((L.getD (↑k:Int).toNat fc0).kind==2)=true)→((((!Bool.rec false (Zb.ld==0) (Zb.ln==0)||!Bool.rec false (Zb.hd==0) (Zb.hn==0)||decide (Zc<1)||decide (Zc>16))=true)→(((db false):DV)=(db (vfB L))))∧(((!Bool.rec false (Zb.ld==0) (Zb.ln==0)||!Bool.rec false (Zb.hd==0) (Zb.hn==0)||decide (Zc<1)||decide (Zc>16))=false)→ZW [cd Tryz.f54 [1,1,1,0,1,0,0,1,0,0,1,1,1,0,1,1,1,1,1,0,1,1,0],(.blk 3),(.blk 2),(.blk 1),cd Tryz.f54 [1,1,1,0,1,0,0,1,1]] (stS ZT [0,1,1,1,0,1]) ZR)))∧((((L.getD (↑k:Int).toNat fc0).kind==2)=false)→(((db false):DV)=(db (vfB L))))))))))))∧(((decide ((↑k:Int)<↑L.length))=false)→ZW [cd Tryz.f54 [1,1,1,1]] (stS ZT [1]) ZQ))) (List.getD L (Int.toNat (↑k:Int)) fc0) (L.getD ((↑k:Int):Int).toNat fc0) (↑(L.getD (↑k:Int).toNat fc0).words.length:Int) (!nameB (L.getD (↑k:Int).toNat fc0).name||fndI L (L.getD (↑k:Int).toNat fc0).name != ↑k)) (by kernel_rfl) ?_
  simp only[iTn,toList_beq,rdW_eq]
  refine⟨fun h1=>?_,fun h1=>?_⟩
  ·have hk2:k<L.length:=by have:=oDt h1;omega
   have hF:=h k hk2
   have hnext:rgA L k (L.getD k fc0)→∀i,i<k+1→rgA L i (L.getD i fc0):=fun hr i hi=>by
    rcases Nat.lt_or_ge i k with h4|h4
    ·exact hkd i h4
    ·obtain rfl:i=k:=by omega
     exact hr
   have hF2:=hF.ln
   refine⟨⟨by omega,by omega⟩,⟨f100 hT _ hF.nm,fun _=>f101 L _ (by omega)⟩,fun h2=>hfalse k hk2 ?_,fun h2=>?_⟩
   ·rintro ⟨a,b,_⟩
    rw[a,b] at h2
    simp at h2
   ·simp only[Bool.or_eq_false_iff,Bool.not_eq_false',bne_eq_false_iff_eq] at h2
    obtain ⟨hnm,hfd⟩:=h2
    simp only[rec_and,beq_iff_eq,beq_eq_false_iff_ne,ne_eq]
    refine⟨fun k0=>⟨f25 _ _ _ _,fun h3=>hfalse k hk2 ?_,fun h3=>⟨⟨by omega,by omega⟩,Again.mk (k+1) ?_ ⟨hk2,hnext ⟨hnm,hfd,.inl ⟨k0,?_⟩⟩⟩ (by omega)⟩⟩,fun k0=>⟨fun k1=>⟨fun h3=>hfalse k hk2 ?_,fun h3=>⟨⟨by omega,by omega⟩,Again.mk (k+1) ?_ ⟨hk2,hnext ⟨hnm,hfd,.inr (.inl ⟨k1,?_⟩)⟩⟩ (by omega)⟩⟩,fun k1=>⟨fun k2=>⟨fun h3=>hfalse k hk2 ?_,fun h3=>?_⟩,fun k2=>hfalse k hk2 ?_⟩⟩⟩
    ·rintro ⟨_,_,⟨_,a,b,c⟩|⟨e,_⟩|⟨e,_⟩⟩
     ·rw[a,decide_eq_false (by omega),decide_eq_false (by omega)] at h3
      cases h3
     ·omega
     ·omega
    ·exact AS.leA (by kernel_rfl)
    ·simp only[Bool.or_eq_false_iff,Bool.not_eq_false',decide_eq_false_iff_not] at h3
     exact⟨h3.1.1,by omega,by omega⟩
    ·rintro ⟨_,_,⟨e,_⟩|⟨_,a,b⟩|⟨e,_⟩⟩
     ·omega
     ·unfold zeroB at a
      simp only[bAt] at a
      rw[a.1.1,a.1.2,a.2.1,a.2.2,decide_eq_false (by omega)] at h3
      cases h3
     ·omega
    ·exact AS.leA (by kernel_rfl)
    ·simp only[Bool.or_eq_false_iff,Bool.not_eq_false',decide_eq_false_iff_not] at h3
     unfold zeroB
     rw[Bool.and_comm (_==0) (_==0)] at h3
     refine⟨?_,by omega⟩
     have a:=h3.1.1
     have b:=h3.1.2
     simp only[bAt] at a b⊢
     exact⟨⟨a.2,a.1⟩,b⟩
    ·rintro ⟨_,_,⟨e,_⟩|⟨e,_⟩|⟨_,a,b,c,_⟩⟩
     ·omega
     ·omega
     ·unfold zeroB at a
      simp only[bAt] at a
      rw[a.1.1,a.1.2,a.2.1,a.2.2,decide_eq_false (by omega),decide_eq_false (by omega)] at h3
      cases h3
    ·simp only[Bool.or_eq_false_iff,Bool.not_eq_false',decide_eq_false_iff_not,bAt] at h3
     obtain ⟨⟨⟨z1,z2⟩,l1⟩,l2⟩:=h3
     have hz:zeroB (L.getD k fc0)=true:=by
      unfold zeroB
      simp only[bAt]
      exact⟨z1,z2⟩
     refine AWP.loop (c:=cAt (bodyOf Tryz.f54) [1,1,1,0,1,0,0,1,0,0,1,1,1,0,1,1,1,1,1,0,1,1,0,0]) (by kernel_rfl) (S22i L k) (fun j=>j≤(L.getD k fc0).words.length∧∀i,i<j→nameB ((L.getD k fc0).words.getD i .empty)=true∧(L.getD k fc0).words.getD i .empty∉(L.getD k fc0).words.take i∧¬fndI L ((L.getD k fc0).words.getD i .empty)≥0) (fun j=>(L.getD k fc0).words.length-j) 0 ?_ ⟨Nat.zero_le _,fun i hi=>absurd hi (Nat.not_lt_zero _)⟩ ?_
     ·refine AS.leZ [] [1] (b:=((T0∧T0∧T0∧T0∧T0∧True)∧T0∧((some [(vs (L.getD (↑k:Int).toNat fc0).name),(vi (L.getD (↑k:Int).toNat fc0).kind),(vi (L.getD (↑k:Int).toNat fc0).ln),(vi (L.getD (↑k:Int).toNat fc0).ld),(vi (L.getD (↑k:Int).toNat fc0).hn),(vi (L.getD (↑k:Int).toNat fc0).hd),(.d (.slc 1 (L.getD (↑k:Int).toNat fc0).words.length (stF (L.getD (↑k:Int).toNat fc0).words)))]):(Option (List AV)))=(some [(vs (L.getD k fc0).name),(vi (L.getD k fc0).kind),(vi (L.getD k fc0).ln),(vi (L.getD k fc0).ld),(vi (L.getD k fc0).hn),(vi (L.getD k fc0).hd),(.d (.slc 1 (L.getD k fc0).words.length (stF (L.getD k fc0).words)))])∧True)) (by kernel_rfl) (by kernel_rfl) ?_
      exact⟨⟨rfl,rfl,rfl,rfl,rfl,trivial⟩,rfl,rfl,trivial⟩
     ·rintro j ⟨hj,hjd⟩
      refine walk (orc:=orcRv L) (keep:=[]) (cuts:=[]) (n:=1000) follows ?_
      refine of_rd (fun ZT ZW ZQ ZK ZA _=>(fun Za Zb Zc=>((((decide ((↑j:Int)<↑(L.getD k fc0).words.length))=true)→((((0≤(↑j:Int))∧((↑j:Int)<↑(L.getD k fc0).words.length))∧ZK 100 [(ds Za)] (db (nameB Za))∧(((!!nameB Za)=true)→(((0:Int)≤(0:Int))∧(0≤(↑j:Int))∧((↑j:Int)≤↑(L.getD k fc0).words.length)))∧(((!!nameB Za)=true)→((0≤(↑j:Int))∧((↑j:Int)<↑(L.getD k fc0).words.length)))∧(((!!nameB Za)=true)→ZK 55 [(.slc 1 ((↑j:Int)-0).toNat (fun i=>stF (L.getD k fc0).words (Int.toNat 0+i))),(ds Za)] (db (anyB Zb Za)))∧(((!(!nameB Zc||anyB Zb Za))=true)→((0≤(↑j:Int))∧((↑j:Int)<↑(L.getD k fc0).words.length)))∧(((!(!nameB Zc||anyB Zb Za))=true)→ZK 101 [(.slc 7 L.length (fcF L)),(ds Za)] (di (fndI L Za))))∧(((!nameB Zc||anyB Zb Za||decide (fndI L Za≥0))=true)→(((db false):DV)=(db (vfB L))))∧(((!nameB Zc||anyB Zb Za||decide (fndI L Za≥0))=false)→((I64 (↑j+1))∧(ZA (stS ZT [0,1]))))))∧(((decide ((↑j:Int)<↑(L.getD k fc0).words.length))=false)→ZW [(.blk 2),(.blk 1),cd Tryz.f54 [1,1,1,0,1,0,0,1,1]] (stS ZT [1]) ZQ))) ((L.getD k fc0).words.getD (↑j:Int).toNat ByteArray.empty) (rdW (DV.slc 1 ((↑j:Int)-0).toNat fun i=>stF (L.getD k fc0).words (Int.toNat 0+i))) ((L.getD k fc0).words.getD ((↑j:Int):Int).toNat ByteArray.empty)) (by kernel_rfl) ?_
      simp only[iTn,toList_beq,rdW_eq,rdW_take hj]
      refine⟨fun h4=>?_,fun h4=>?_⟩
      ·have hj2:j<(L.getD k fc0).words.length:=by have:=oDt h4;omega
       have ej:((j:Int)-0).toNat=j:=by omega
       have es:rdW (.slc 1 ((j:Int)-0).toNat fun i=>stF (L.getD k fc0).words (Int.toNat 0+i))=(L.getD k fc0).words.take j:=by
        rw[ej];exact rdW_take hj
       have h56:FnOK Tryz.prog G 55 [.slc 1 ((j:Int)-0).toNat fun i=>stF (L.getD k fc0).words (Int.toNat 0+i),ds ((L.getD k fc0).words.getD j .empty)] (db (anyB ((L.getD k fc0).words.take j) ((L.getD k fc0).words.getD j .empty))):=by
        have htl:((L.getD k fc0).words.take j).length=j:=by rw[List.length_take];omega
        refine(f55 ((L.getD k fc0).words.take j) ((L.getD k fc0).words.getD j .empty) (by omega)).args fun kk us=>DV.rels_cons (fun v hv=>?_) (fun _ h=>h) us
        rw[htl]
        rw[ej] at hv
        refine DV.rel_slc_congr (fun i hi=>?_) hv
        exact stF_take hi
       simp only[es]
       have hbad:(!nameB ((L.getD k fc0).words.getD j .empty)||anyB ((L.getD k fc0).words.take j) ((L.getD k fc0).words.getD j .empty)||decide (fndI L ((L.getD k fc0).words.getD j .empty)≥0))=false↔(nameB ((L.getD k fc0).words.getD j .empty)=true∧(L.getD k fc0).words.getD j .empty∉(L.getD k fc0).words.take j∧¬fndI L ((L.getD k fc0).words.getD j .empty)≥0):=by
        rw[Bool.or_eq_false_iff,Bool.or_eq_false_iff,Bool.not_eq_false',decide_eq_false_iff_not,←anyB_mem,Bool.not_eq_true,and_assoc]
       refine⟨⟨⟨by omega,by omega⟩,f100 hT _ (hF.wd j hj2),fun _=>⟨by omega,by omega,by omega⟩,fun _=>⟨by omega,by omega⟩,fun _=>h56,fun _=>⟨by omega,by omega⟩,fun _=>f101 L _ (by omega)⟩,fun h5=>hfalse k hk2 ?_,fun h5=>⟨⟨by omega,by omega⟩,Again.mk (j+1) ?_ ⟨hj2,fun i hi=>?_⟩ (by omega)⟩⟩
       ·rintro ⟨_,_,⟨e,_⟩|⟨e,_⟩|⟨_,_,_,_,w⟩⟩
        ·omega
        ·omega
        ·rw[hbad.2 (w j hj2)] at h5;cases h5
       ·exact AS.leA (by kernel_rfl)
       ·rcases Nat.lt_or_ge i j with h6|h6
        ·exact hjd i h6
        ·obtain rfl:i=j:=by omega
         exact hbad.1 h5
      ·have h4:=of_decide_eq_false h4
       refine walk (orc:=orcRv L) (keep:=[]) (cuts:=[]) (n:=1000) follows ?_
       refine of_rd (fun ZT _ _ _ ZA _=>((I64 (↑k+1))∧(ZA (stS ZT [])))) (by kernel_rfl) ?_
       refine⟨⟨by omega,by omega⟩,Again.mk (k+1) ?_ ⟨hk2,hnext ⟨hnm,hfd,.inr (.inr ⟨k2,hz,by omega,by omega,fun i hi=>hjd i (by omega)⟩)⟩⟩ (by omega)⟩
       exact AS.leA (by kernel_rfl)
    ·rintro ⟨_,_,⟨e,_⟩|⟨e,_⟩|⟨e,_⟩⟩
     ·exact k0 e
     ·exact k1 e
     ·exact k2 e
  ·simp only[decide_eq_false_iff_not] at h1
   refine walk (orc:=orcRv L) (keep:=[]) (cuts:=[]) (n:=1000) follows ?_
   refine of_tr (fun _ _ _ _=>(((db true):DV)=(db (vfB L)))) (by kernel_rfl) ?_
   rw[hvf.2 fun i hi=>hkd i (by omega)]
/-! The world: descriptions by name,and words. The lists have the last one first. -/
def fM:List Fc→Value→Fc
 | []=>fun _=>fc0
 | x :: l=>fun v=>bif keyEq v (.string x.name) then x else fM l v
def fH:List Fc→Value→Bool
 | []=>fun _=>false
 | x :: l=>fun v=>keyEq v (.string x.name)||fH l v
def wL:List ByteArray→Value→Bool
 | []=>fun _=>false
 | s :: l=>fun v=>keyEq v (.string s)||wL l v
abbrev fV (l:List Fc):Value→DV:=fun v=>fcD (fM l v)
abbrev wV (l:List ByteArray):Value→DV:=fun v=>.con (.bool (wL l v))
theorem putF_fV (l:List Fc) (x:Fc):putF (.string x.name) (fcD x) (fV l)=fV (x :: l):=by
 funext v
 unfold putF
 simp only[fV,fM]
 cases keyEq v (.string x.name)<;>rfl
theorem putF_wV (l:List ByteArray) (s:ByteArray):putF (.string s) (.con (.bool true)) (wV l)=wV (s :: l):=by
 funext v
 unfold putF
 simp only[wV,wL]
 cases keyEq v (.string s)<;>rfl
abbrev wrD (l:List Fc) (ws:List ByteArray):DV:=.ptr [.mp none (fV l) (fH l),.mp none (wV ws) (wL ws)]
def revF (L:List Fc) (k:Nat):List Fc:=(L.take k).reverse
def revW (L:List Fc) (k:Nat):List ByteArray:=((L.take k).flatMap (·.words)).reverse
theorem revF_succ {L:List Fc} {k:Nat} (h:k<L.length):revF L (k+1)=L.getD k fc0 :: revF L k:=by
 unfold revF
 rw[List.take_succ_eq_append_getElem h,List.reverse_append,List.getD,gEe h];rfl
def revJ (L:List Fc) (k j:Nat):List ByteArray:=((L.getD k fc0).words.take j).reverse++revW L k
theorem revJ_succ {L:List Fc} {k j:Nat} (h:j<(L.getD k fc0).words.length):revJ L k (j+1)=(L.getD k fc0).words.getD j .empty :: revJ L k j:=by
 unfold revJ
 generalize (L.getD k fc0).words=ws at *
 rw[List.take_succ_eq_append_getElem h,List.reverse_append,List.getD,gEe h];rfl
theorem revJ_all {L:List Fc} {k:Nat} (h:k<L.length):revJ L k (L.getD k fc0).words.length=revW L (k+1):=by
 unfold revJ revW
 rw[List.take_length,List.take_succ_eq_append_getElem h,List.flatMap_append,List.reverse_append,List.getD,gEe h]
 simp
noncomputable def S41 (L:List Fc) (k:Nat):AS:=⟨regs Tryz.f63.ntmps [(3,.box 11 0),(12,.d (fcsD L)),(13,vi L.length),(14,vi k)],[(11,[.mapv 8,.mapv 9]),(8,[.mp none (fV (revF L k)) (fH (revF L k))]),(9,[.mp none (wV (revW L k)) (wL (revW L k))])]⟩
noncomputable def S41i (L:List Fc) (k j:Nat):AS:=⟨regs Tryz.f63.ntmps [(3,.box 11 0),(12,.d (fcsD L)),(13,vi L.length),(14,vi k),(26,.d (wdD (L.getD k fc0).words)),(27,vi (L.getD k fc0).words.length),(28,vi j)],[(11,[.mapv 8,.mapv 9]),(8,[.mp none (fV (revF L (k+1))) (fH (revF L (k+1)))]),(9,[.mp none (wV (revJ L k j)) (wL (revJ L k j))])]⟩
abbrev wrL (L:List Fc):DV:=wrD (revF L L.length) (revW L L.length)
theorem f63 (L:List Fc) (hl:L.length≤100000) (hw:∀i,i<L.length→(L.getD i fc0).words.length≤100000):FnOK Tryz.prog G 63 [fcsD L] (wrL L):=by
 refine FnOK.walk (orc:=noO) (keep:=[]) follows Tryz.func63 rfl Tryz.call63 ?_
 refine of_eqH (b:=AWP Tryz.prog G [cd Tryz.f63 [1,1,0,1,0],(.blk 0),cd Tryz.f63 [1,1,1]] ⟨regs 40 [(0,(.d (.slc 7 L.length (fcF L)))),(2,(.d (.con (.pointer none)))),(3,(.box 11 0)),(8,(.mapv 8)),(9,(.mapv 9)),(10,(.agg [(.mapv 8),(.mapv 9)])),(11,(.box 11 0)),(12,(.d (.slc 7 L.length (fcF L)))),(13,(vi (↑L.length))),(14,(vi 0))],[(11,[(.mapv 8),(.mapv 9)]),(9,[(.mp none (fun x=>DV.con (Value.bool false)) (fun x=>false))]),(8,[(.mp none (fun x=>DV.agg (List.map DV.con [Value.string (ByteArray.mk #[]),Value.int IntKind.i64 0,Value.int IntKind.i64 0,Value.int IntKind.i64 0,Value.int IntKind.i64 0,Value.int IntKind.i64 0,Value.slice none 0 0])) (fun x=>false))])]⟩ (Ret Tryz.prog Tryz.f63 (wrL L))) (by kernel_rfl) ?_
 refine AWP.pre (.mapF _ 8 (fV []) rfl fun _ h=>(by cases h)) ?_
 refine AWP.loop (c:=cAt (bodyOf Tryz.f63) [1,1,0,1,0,0]) (by kernel_rfl) (S41 L) (fun k=>k≤L.length) (fun k=>L.length-k) 0 ?_ (Nat.zero_le _) ?_
 ·refine AS.leZ [] [1,2] (b:=((T0∧T0∧T0∧T0∧True)∧T0∧((some [(.mp none (fV []) (fun x=>false))]):(Option (List AV)))=(some [(.mp none (fV (revF L 0)) (fH (revF L 0)))])∧((some [(.mp none (fun x=>DV.con (Value.bool false)) (fun x=>false))]):(Option (List AV)))=(some [(.mp none (wV (revW L 0)) (wL (revW L 0)))])∧True)) (by kernel_rfl) (by kernel_rfl) ?_
  exact⟨⟨rfl,rfl,rfl,rfl,trivial⟩,rfl,rfl,rfl,trivial⟩
 ·intro k hk
  refine walk (orc:=noO) (keep:=[]) (cuts:=[]) (n:=1000) follows ?_
  refine of_eqH2 ((.slc 1 (L.getD (↑k:Int).toNat fc0).words.length (stF (L.getD (↑k:Int).toNat fc0).words)):DV) (decide ((↑k:Int)<↑L.length)) (fun Za Zb=>(((Zb=true)→(((0≤(↑k:Int))∧((↑k:Int)<↑L.length))∧AWP Tryz.prog G [cd Tryz.f63 [1,1,0,1,0,0,1,1,0,0,1,1,1,0],(.blk 2),(.blk 1),cd Tryz.f63 [1,1,0,1,0,0,1,1,1]] ⟨regs 40 [(3,(.box 11 0)),(5,(.box 5 0)),(12,(.d (.slc 7 L.length (fcF L)))),(13,(vi (↑L.length))),(14,(vi (↑k))),(15,(vb Zb)),(16,(.d (.ptr [(ds (L.getD (↑k:Int).toNat fc0).name),(di (L.getD (↑k:Int).toNat fc0).kind),(di (L.getD (↑k:Int).toNat fc0).ln),(di (L.getD (↑k:Int).toNat fc0).ld),(di (L.getD (↑k:Int).toNat fc0).hn),(di (L.getD (↑k:Int).toNat fc0).hd),Za]))),(17,(.d (fcD (L.getD (↑k:Int).toNat fc0)))),(18,(.box 11 0)),(19,(.box 11 0)),(20,(.box 11 0)),(21,(.mapv 8)),(22,(.box 5 0)),(23,(vs (L.getD (↑k:Int).toNat fc0).name)),(24,(.d (fcD (L.getD (↑k:Int).toNat fc0)))),(25,(.box 5 6)),(26,(.d Za)),(27,(vi (↑(L.getD (↑k:Int).toNat fc0).words.length))),(28,(vi 0))],[(5,[(vs (L.getD (↑k:Int).toNat fc0).name),(vi (L.getD (↑k:Int).toNat fc0).kind),(vi (L.getD (↑k:Int).toNat fc0).ln),(vi (L.getD (↑k:Int).toNat fc0).ld),(vi (L.getD (↑k:Int).toNat fc0).hn),(vi (L.getD (↑k:Int).toNat fc0).hd),(.d Za)]),(11,[(.mapv 8),(.mapv 9)]),(8,[(.mp none (putF (Value.string (L.getD (↑k:Int).toNat fc0).name) (fcD (L.getD (↑k:Int).toNat fc0)) (fV (revF L k))) (putH (Value.string (L.getD (↑k:Int).toNat fc0).name) (fH (revF L k))))]),(9,[(.mp none (wV (revW L k)) (wL (revW L k)))])]⟩ (RoundQ Tryz.prog G [(.blk 0),cd Tryz.f63 [1,1,1]] (Ret Tryz.prog Tryz.f63 (wrL L)) (S41 L) (fun k=>k≤L.length) (fun k=>L.length-k) k)))∧((Zb=false)→AWP Tryz.prog G [cd Tryz.f63 [1,1,1]] ⟨regs 40 [(3,(.box 11 0)),(12,(.d (.slc 7 L.length (fcF L)))),(13,(vi (↑L.length))),(14,(vi (↑k))),(15,(vb Zb))],[(11,[(.mapv 8),(.mapv 9)]),(8,[(.mp none (fV (revF L k)) (fH (revF L k)))]),(9,[(.mp none (wV (revW L k)) (wL (revW L k)))])]⟩ (Ret Tryz.prog Tryz.f63 (wrL L))))) (by kernel_rfl) ?_
  simp only[iTn]
  refine⟨fun h1=>?_,fun h1=>?_⟩
  ·have hk2:k<L.length:=by have:=oDt h1;omega
   have hwk:=hw k hk2
   refine⟨⟨by omega,by omega⟩,?_⟩
   refine AWP.loop (c:=cAt (bodyOf Tryz.f63) [1,1,0,1,0,0,1,1,0,0,1,1,1,0,0]) (by kernel_rfl) (S41i L k) (fun j=>j≤(L.getD k fc0).words.length) (fun j=>(L.getD k fc0).words.length-j) 0 ?_ (Nat.zero_le _) ?_
   ·refine AS.leZ [] [1,2] (b:=((T0∧T0∧T0∧T0∧T0∧T0∧T0∧True)∧T0∧((some [(.mp none (putF (Value.string (L.getD k fc0).name) (fcD (L.getD k fc0)) (fV (revF L k))) (putH (Value.string (L.getD k fc0).name) (fH (revF L k))))]):(Option (List AV)))=(some [(.mp none (fV (revF L (k+1))) (fH (revF L (k+1))))])∧((some [(.mp none (wV (revW L k)) (wL (revW L k)))]):(Option (List AV)))=(some [(.mp none (wV (revJ L k 0)) (wL (revJ L k 0)))])∧True)) (by kernel_rfl) (by kernel_rfl) ?_
    refine⟨⟨rfl,rfl,rfl,rfl,rfl,rfl,rfl,trivial⟩,rfl,?_,rfl,trivial⟩
    rw[revF_succ hk2,←putF_fV]
    rfl
   ·intro j hj
    refine walk (orc:=noO) (keep:=[]) (cuts:=[]) (n:=1000) follows ?_
    refine of_eqH2 ((L.getD k fc0).words.getD (↑j:Int).toNat ByteArray.empty) (decide ((↑j:Int)<↑(L.getD k fc0).words.length)) (fun Za Zb=>(((Zb=true)→(((0≤(↑j:Int))∧((↑j:Int)<↑(L.getD k fc0).words.length))∧(I64 (↑j+1))∧Again (S41i L k) (fun j=>j≤(L.getD k fc0).words.length) (fun j=>(L.getD k fc0).words.length-j) j ⟨regs 40 [(3,(.box 11 0)),(7,(vs Za)),(12,(.d (.slc 7 L.length (fcF L)))),(13,(vi (↑L.length))),(14,(vi (↑k))),(26,(.d (.slc 1 (L.getD k fc0).words.length (stF (L.getD k fc0).words)))),(27,(vi (↑(L.getD k fc0).words.length))),(28,(vi (↑j+1))),(29,(vb Zb)),(30,(.d (.ptr [(ds Za)]))),(31,(vs Za)),(32,(.box 11 0)),(33,(.box 11 0)),(34,(.box 11 1)),(35,(.mapv 9)),(36,(vs Za)),(37,(vi (↑j+1)))],[(11,[(.mapv 8),(.mapv 9)]),(8,[(.mp none (fV (revF L (k+1))) (fH (revF L (k+1))))]),(9,[(.mp none (putF (Value.string Za) (DV.con (Value.bool true)) (wV (revJ L k j))) (putH (Value.string Za) (wL (revJ L k j))))])]⟩))∧((Zb=false)→AWP Tryz.prog G [(.blk 1),cd Tryz.f63 [1,1,0,1,0,0,1,1,1]] ⟨regs 40 [(3,(.box 11 0)),(12,(.d (.slc 7 L.length (fcF L)))),(13,(vi (↑L.length))),(14,(vi (↑k))),(26,(.d (.slc 1 (L.getD k fc0).words.length (stF (L.getD k fc0).words)))),(27,(vi (↑(L.getD k fc0).words.length))),(28,(vi (↑j))),(29,(vb Zb))],[(11,[(.mapv 8),(.mapv 9)]),(8,[(.mp none (fV (revF L (k+1))) (fH (revF L (k+1))))]),(9,[(.mp none (wV (revJ L k j)) (wL (revJ L k j)))])]⟩ (RoundQ Tryz.prog G [(.blk 0),cd Tryz.f63 [1,1,1]] (Ret Tryz.prog Tryz.f63 (wrL L)) (S41 L) (fun k=>k≤L.length) (fun k=>L.length-k) k)))) (by kernel_rfl) ?_
    simp only[iTn]
    refine⟨fun h2=>?_,fun h2=>?_⟩
    ·have hj2:j<(L.getD k fc0).words.length:=by have:=oDt h2;omega
     refine⟨⟨by omega,by omega⟩,⟨by omega,by omega⟩,Again.mk (j+1) ?_ hj2 (by omega)⟩
     refine AS.leZ [] [2] (b:=((T0∧T0∧T0∧T0∧T0∧T0∧T0∧True)∧T0∧T0∧((some [(.mp none (putF (Value.string ((L.getD k fc0).words.getD j ByteArray.empty)) (DV.con (Value.bool true)) (wV (revJ L k j))) (putH (Value.string ((L.getD k fc0).words.getD j ByteArray.empty)) (wL (revJ L k j))))]):(Option (List AV)))=(some [(.mp none (wV (revJ L k (j+1))) (wL (revJ L k (j+1))))])∧True)) (by kernel_rfl) (by kernel_rfl) ?_
     refine⟨⟨rfl,rfl,rfl,rfl,rfl,rfl,rfl,trivial⟩,rfl,rfl,?_,trivial⟩
     rw[revJ_succ hj2,←putF_wV]
     rfl
    ·have h2:=of_decide_eq_false h2
     obtain rfl:j=(L.getD k fc0).words.length:=by omega
     refine walk (orc:=noO) (keep:=[]) (cuts:=[]) (n:=1000) follows ?_
     refine of_rd (fun ZT _ _ _ ZA _=>((I64 (↑k+1))∧(ZA (stS ZT [])))) (by kernel_rfl) ?_
     refine⟨⟨by omega,by omega⟩,Again.mk (k+1) ?_ hk2 (by omega)⟩
     refine AS.leZ [] [2] (b:=((T0∧T0∧T0∧T0∧True)∧T0∧T0∧((some [(.mp none (wV (revJ L k (L.getD k fc0).words.length)) (wL (revJ L k (L.getD k fc0).words.length)))]):(Option (List AV)))=(some [(.mp none (wV (revW L (k+1))) (wL (revW L (k+1))))])∧True)) (by kernel_rfl) (by kernel_rfl) ?_
     refine⟨⟨rfl,rfl,rfl,rfl,trivial⟩,rfl,rfl,?_,trivial⟩
     rw[revJ_all hk2]
  ·simp only[decide_eq_false_iff_not] at h1
   obtain rfl:k=L.length:=by omega
   refine walk (orc:=noO) (keep:=[]) (cuts:=[]) (n:=1000) follows ?_
   refine of_tr (fun _ _ _ _=>(ZS ((wrL L):DV))) (by kernel_rfl) ?_
   rfl
/-! Facts,and the evaluator. -/
structure Ft where
 nm:ByteArray
 kind:Int
 n:Int
 d:Int
 tr:Bool
 wd:ByteArray
 deriving DecidableEq
abbrev ft0:Ft:=⟨.empty,0,0,0,false,.empty⟩
abbrev ftD (f:Ft):DV:=.agg [ds f.nm,di f.kind,di f.n,di f.d,db f.tr,ds f.wd]
def ftF (L:List Ft) (i:Nat):DV:=ftD (L.getD i ft0)
abbrev ftsD (L:List Ft):DV:=.slc 6 L.length (ftF L)
def tM:List Ft→Value→Ft
 | []=>fun _=>ft0
 | x :: l=>fun v=>bif keyEq v (.string x.nm) then x else tM l v
def tH:List Ft→Value→Bool
 | []=>fun _=>false
 | x :: l=>fun v=>keyEq v (.string x.nm)||tH l v
abbrev tV (l:List Ft):Value→DV:=fun v=>ftD (tM l v)
theorem putF_tV (l:List Ft) (x:Ft):putF (.string x.nm) (ftD x) (tV l)=tV (x :: l):=by
 funext v
 unfold putF
 simp only[tV,tM]
 cases keyEq v (.string x.nm)<;>rfl
abbrev evD (l:List Ft):DV:=.ptr [.mp none (tV l) (tH l)]
def revT (L:List Ft) (k:Nat):List Ft:=(L.take k).reverse
theorem revT_succ {L:List Ft} {k:Nat} (h:k<L.length):revT L (k+1)=L.getD k ft0 :: revT L k:=by
 unfold revT
 rw[List.take_succ_eq_append_getElem h,List.reverse_append,List.getD,gEe h];rfl
noncomputable def S43 (L:List Ft) (k:Nat):AS:=⟨regs Tryz.f43.ntmps [(3,.box 8 0),(9,.d (ftsD L)),(10,vi L.length),(11,vi k)],[(8,[.mapv 6]),(6,[.mp none (tV (revT L k)) (tH (revT L k))])]⟩
theorem f43 (L:List Ft) (hl:L.length≤100000):FnOK Tryz.prog G 43 [ftsD L] (evD (revT L L.length)):=by
 refine FnOK.walkK (orc:=noO) (keep:=[]) follows Tryz.func43 rfl Tryz.call43 ?_
 refine of_eqH (b:=AWP Tryz.prog G [cd Tryz.f43 [1,1,0,1,0],(.blk 0),cd Tryz.f43 [1,1,1]] ⟨regs 24 [(0,(.d (.slc 6 L.length (ftF L)))),(2,(.d (.con (.pointer none)))),(3,(.box 8 0)),(6,(.mapv 6)),(7,(.agg [(.mapv 6)])),(8,(.box 8 0)),(9,(.d (.slc 6 L.length (ftF L)))),(10,(vi (↑L.length))),(11,(vi 0))],[(8,[(.mapv 6)]),(6,[(.mp none (fun x=>DV.agg (List.map DV.con [Value.string (ByteArray.mk #[]),Value.int IntKind.i64 0,Value.int IntKind.i64 0,Value.int IntKind.i64 0,Value.bool false,Value.string (ByteArray.mk #[])])) (fun x=>false))])]⟩ (Ret Tryz.prog Tryz.f43 (evD (revT L L.length)))) (by kernel_rfl) ?_
 refine AWP.pre (.mapF _ 6 (tV []) rfl fun _ h=>(by cases h)) ?_
 refine AWP.loop (c:=cAt (bodyOf Tryz.f43) [1,1,0,1,0,0]) (by kernel_rfl) (S43 L) (fun k=>k≤L.length) (fun k=>L.length-k) 0 ?_ (Nat.zero_le _) ?_
 ·refine AS.leZ [] [1] (b:=((T0∧T0∧T0∧T0∧True)∧T0∧((some [(.mp none (tV []) (fun x=>false))]):(Option (List AV)))=(some [(.mp none (tV (revT L 0)) (tH (revT L 0)))])∧True)) (by kernel_rfl) (by kernel_rfl) ?_
  exact⟨⟨rfl,rfl,rfl,rfl,trivial⟩,rfl,rfl,trivial⟩
 ·intro k hk
  refine walkK (orc:=noO) (keep:=[]) (cuts:=[]) (n:=1000) follows ?_
  refine of_eqH2 ((.d (.agg [(ds (L.getD (↑k:Int).toNat ft0).nm),(di (L.getD (↑k:Int).toNat ft0).kind),(di (L.getD (↑k:Int).toNat ft0).n),(di (L.getD (↑k:Int).toNat ft0).d),(db (L.getD (↑k:Int).toNat ft0).tr),(ds (L.getD (↑k:Int).toNat ft0).wd)])):AV) (Value.string (L.getD (↑k:Int).toNat ft0).nm) (fun Za Zb=>((((decide ((↑k:Int)<↑L.length))=true)→(((0≤(↑k:Int))∧((↑k:Int)<↑L.length))∧(I64 (↑k+1))∧Again (S43 L) (fun k=>k≤L.length) (fun k=>L.length-k) k ⟨regs 24 [(3,(.box 8 0)),(5,(.box 5 0)),(9,(.d (.slc 6 L.length (ftF L)))),(10,(vi (↑L.length))),(11,(vi (↑k+1))),(12,(vb true)),(13,(.d (.ptr [(ds (L.getD (↑k:Int).toNat ft0).nm),(di (L.getD (↑k:Int).toNat ft0).kind),(di (L.getD (↑k:Int).toNat ft0).n),(di (L.getD (↑k:Int).toNat ft0).d),(db (L.getD (↑k:Int).toNat ft0).tr),(ds (L.getD (↑k:Int).toNat ft0).wd)]))),(14,Za),(15,(.box 8 0)),(16,(.box 8 0)),(17,(.box 8 0)),(18,(.mapv 6)),(19,(.box 5 0)),(20,(vs (L.getD (↑k:Int).toNat ft0).nm)),(21,Za),(22,(vi (↑k+1)))],[(5,[(vs (L.getD (↑k:Int).toNat ft0).nm),(vi (L.getD (↑k:Int).toNat ft0).kind),(vi (L.getD (↑k:Int).toNat ft0).n),(vi (L.getD (↑k:Int).toNat ft0).d),(vb (L.getD (↑k:Int).toNat ft0).tr),(vs (L.getD (↑k:Int).toNat ft0).wd)]),(8,[(.mapv 6)]),(6,[(.mp none (putF Zb (DV.agg [DV.con Zb,DV.con (Value.int IntKind.i64 (L.getD (↑k:Int).toNat ft0).kind),DV.con (Value.int IntKind.i64 (L.getD (↑k:Int).toNat ft0).n),DV.con (Value.int IntKind.i64 (L.getD (↑k:Int).toNat ft0).d),DV.con (Value.bool (L.getD (↑k:Int).toNat ft0).tr),DV.con (Value.string (L.getD (↑k:Int).toNat ft0).wd)]) (tV (revT L k))) (putH Zb (tH (revT L k))))])]⟩))∧(((decide ((↑k:Int)<↑L.length))=false)→AWP Tryz.prog G [cd Tryz.f43 [1,1,1]] ⟨regs 24 [(3,(.box 8 0)),(9,(.d (.slc 6 L.length (ftF L)))),(10,(vi (↑L.length))),(11,(vi (↑k))),(12,(vb false))],[(8,[(.mapv 6)]),(6,[(.mp none (tV (revT L k)) (tH (revT L k)))])]⟩ (Ret Tryz.prog Tryz.f43 (evD (revT L L.length)))))) (by kernel_rfl) ?_
  simp only[iTn]
  refine⟨fun h1=>?_,fun h1=>?_⟩
  ·have hk2:k<L.length:=by have:=oDt h1;omega
   refine⟨⟨by omega,by omega⟩,⟨by omega,by omega⟩,Again.mk (k+1) ?_ hk2 (by omega)⟩
   refine AS.leZ [] [1] (b:=((T0∧T0∧T0∧T0∧True)∧T0∧((some [(.mp none (putF (Value.string (L.getD k ft0).nm) (DV.agg [DV.con (Value.string (L.getD k ft0).nm),DV.con (Value.int IntKind.i64 (L.getD k ft0).kind),DV.con (Value.int IntKind.i64 (L.getD k ft0).n),DV.con (Value.int IntKind.i64 (L.getD k ft0).d),DV.con (Value.bool (L.getD k ft0).tr),DV.con (Value.string (L.getD k ft0).wd)]) (tV (revT L k))) (putH (Value.string (L.getD k ft0).nm) (tH (revT L k))))]):(Option (List AV)))=(some [(.mp none (tV (revT L (k+1))) (tH (revT L (k+1))))])∧True)) (by kernel_rfl) (by kernel_rfl) ?_
   refine⟨⟨rfl,rfl,rfl,rfl,trivial⟩,rfl,?_,trivial⟩
   rw[revT_succ hk2,←putF_tV]
   rfl
  ·simp only[decide_eq_false_iff_not] at h1
   obtain rfl:k=L.length:=by omega
   refine walkK (orc:=noO) (keep:=[]) (cuts:=[]) (n:=1000) follows ?_
   refine of_tr (fun _ _ _ _=>(ZS ((evD (revT L L.length)):DV))) (by kernel_rfl) ?_
   rfl
/-! Kinds of values;slices.Equal. -/
abbrev inD (l:List Int):DV:=.slc 1 l.length (inF l)
def rdI (d:DV):Int:=match d with | .con (.int _ n)=>n|_=>0
def rdL (d:DV):List Int:=match d with | .slc _ n f=>(List.range n).map fun i=>rdI (f i)|_=>[]
theorem rdL_eq (l:List Int):rdL (inD l)=l:=by
 unfold rdL
 refine List.ext_getElem (by simp) fun i h1 h2=>?_
 rw[List.getElem_map,List.getElem_range]
 unfold inF
 rw[List.getD,gEe h2];rfl
noncomputable def orcJ (p:Int→Bool) (l:List Int):Oracle:=fun f a=>match f,a with
 | 164,[.con (.int .i64 n),_]=>some (db (p n))
 | 196,[_,_]=>some (di (idI p l))
 | _,_=>none
noncomputable def S162a (l:List Int) (c:DV) (k:Nat):AS:=⟨regs Tryz.f196.ntmps [(0,.d (inD l)),(1,.d (.clo (.func 164) [] [c])),(7,vi l.length),(8,vi k)],[]⟩
theorem f196a (p:Int→Bool) (l:List Int) (c:DV) (hl:l.length≤1000000) (hc:∀i,i<l.length→FnOK Tryz.prog G 164 [di (l.getD i 0),c] (db (p (l.getD i 0)))):FnOK Tryz.prog G 196 [inD l,(.clo (.func 164) [] [c])] (di (idI p l)):=by
 refine FnOK.walk (orc:=orcJ p l) (keep:=[]) follows Tryz.func196 rfl Tryz.call196 ?_
 refine of_tr (fun ZT ZW ZQ _=>ZW [cd Tryz.f196 [1,0,1,0],(.blk 0),cd Tryz.f196 [1,1]] (stS ZT []) ZQ) (by kernel_rfl) ?_
 refine AWP.loop (c:=cAt (bodyOf Tryz.f196) [1,0,1,0,0]) (by kernel_rfl) (S162a l c) (fun k=>k≤l.length∧∀i,i<k→p (l.getD i 0)=false) (fun k=>l.length-k) 0 ?_ ⟨Nat.zero_le _,fun i hi=>by omega⟩ ?_
 ·exact AS.leA (by kernel_rfl)
 ·rintro k ⟨hk,hkd⟩
  refine walk (orc:=orcJ p l) (keep:=[]) (cuts:=[]) (n:=1000) follows ?_
  refine of_rd (fun ZT ZW ZQ ZK ZA _=>((((decide ((↑k:Int)<↑l.length))=true)→((((0≤(↑k:Int))∧((↑k:Int)<↑l.length))∧ZK 164 [(di (l.getD (↑k:Int).toNat 0)),c] (db (p (l.getD (↑k:Int).toNat 0))))∧(((p (l.getD (↑k:Int).toNat 0))=true)→(((di (↑k)):DV)=(di (idI p l))))∧(((p (l.getD (↑k:Int).toNat 0))=false)→((I64 (↑k+1))∧(ZA (stS ZT [0,1]))))))∧(((decide ((↑k:Int)<↑l.length))=false)→ZW [cd Tryz.f196 [1,1]] (stS ZT [1]) ZQ))) (by kernel_rfl) ?_
  simp only[iTn]
  refine⟨fun h=>?_,fun h=>?_⟩
  ·have hk2:k<l.length:=by have:=oDt h;omega
   refine⟨⟨⟨by omega,by omega⟩,hc k hk2⟩,fun h2=>?_,fun h2=>⟨⟨by omega,by omega⟩,Again.mk (k+1) ?_ ⟨hk2,fun i hi=>?_⟩ (by omega)⟩⟩
   ·rw[(idI_hit hk2 hkd h2).2]
   ·exact AS.leA (by kernel_rfl)
   ·rcases Nat.lt_or_ge i k with h4|h4
    ·exact hkd i h4
    ·obtain rfl:i=k:=by omega
     exact h2
  ·simp only[decide_eq_false_iff_not] at h
   have hst:=idI_none (p:=p) (L:=l) (x0:=0) fun i hi=>hkd i (by omega)
   refine walk (orc:=orcJ p l) (keep:=[]) (cuts:=[]) (n:=1000) follows ?_
   refine of_tr (fun _ _ _ _=>(((di (-1)):DV)=(di (idI p l)))) (by kernel_rfl) ?_
   rw[hst.2]
theorem f163a (p:Int→Bool) (l:List Int) (c:DV) (hl:l.length≤1000000) (hc:∀i,i<l.length→FnOK Tryz.prog G 164 [di (l.getD i 0),c] (db (p (l.getD i 0)))):FnOK Tryz.prog G 163 [inD l,(.clo (.func 164) [] [c])] (db (l.any p)):=by
 refine FnOK.walk (orc:=orcJ p l) (keep:=[]) follows Tryz.func163 rfl Tryz.call163 ?_
 refine of_tr (fun _ _ _ ZK=>(ZK 196 [(.slc 1 l.length (inF l)),(.clo (.func 164) [] [c])] (di (idI p l))∧((db (decide (idI p l≥0))):DV)=(db (l.any p)))) (by kernel_rfl) ?_
 refine⟨f196a p l c hl hc,?_⟩
 rw[idI_ge]
theorem f164 (a v:Int):FnOK Tryz.prog G 164 [di a,.ptr [di v]] (db (a != v)):=by
 refine FnOK.walk (orc:=noO) (keep:=[]) follows Tryz.func164 rfl Tryz.call164 ?_
 refine of_tr (fun _ _ _ _=>(ZS ((db (a != v)):DV))) (by kernel_rfl) ?_
 rfl
def allK (l:List Int) (v:Int):Bool:=!l.any fun a=>a != v
noncomputable def orcKd:Oracle:=fun f a=>match f,a with
 | 128,[l,.con (.int .i64 v)]=>some (db (allK (rdL l) v))
 | 163,[l,.clo (.func 164) [] [.ptr [.con (.int .i64 v)]]]=>some (db ((rdL l).any fun a=>a != v))
 | _,_=>none
theorem f128 (l:List Int) (v:Int) (hl:l.length≤100000):FnOK Tryz.prog G 128 [inD l,di v] (db (allK l v)):=by
 refine FnOK.of_body Tryz.func128 rfl Tryz.call128 ?_
 refine walk (orc:=orcKd) (keep:=[]) (cuts:=[1]) (n:=1000) follows ?_
 refine of_tr (fun ZT ZW ZQ _=>ZW [cd Tryz.f128 [1]] (stS ZT []) ZQ) (by kernel_rfl) ?_
 refine AWP.freezeB (dl:=[di v]) 3 (by kernel_rfl) rfl ?_
 refine walk (orc:=orcKd) (keep:=[]) (cuts:=[]) (n:=1000) follows ?_
 refine of_tr (fun _ _ _ ZK=>(ZK 163 [(.slc 1 l.length (inF l)),(.clo (.func 164) [] [(.ptr [(di v)])])] (db ((rdL (DV.slc 1 l.length (inF l))).any fun a=>a != v))∧((db (!(rdL (DV.slc 1 l.length (inF l))).any fun a=>a != v)):DV)=(db (allK l v)))) (by kernel_rfl) ?_
 simp only[rdL_eq]
 refine⟨f163a (fun a=>a != v) l (.ptr [di v]) (by omega) fun i hi=>f164 _ _,rfl⟩
theorem f125 (m:Nat) (e:Ex) (l:List Int) (v:Int):FnOK Tryz.prog G 125 [exD m e,inD l,.ptr [di v]] (.tup [di v,di 0]):=by
 refine FnOK.walk (orc:=orcKd) (keep:=[]) follows Tryz.func125 rfl Tryz.call125 ?_
 refine of_tr (fun _ _ _ _=>(ZS ((.tup [(di v),(di 0)]):DV))) (by kernel_rfl) ?_
 rfl
theorem f124 (v:Int):FnOK Tryz.prog G 124 [di v] (.clo (.func 125) [] [.ptr [di v]]):=by
 refine FnOK.walk (orc:=orcKd) (keep:=[]) follows Tryz.func124 rfl Tryz.call124 ?_
 refine of_tr (fun _ _ _ _=>(ZS ((.clo (.func 125) [] [(.ptr [(di v)])]):DV))) (by kernel_rfl) ?_
 rfl
theorem f126 (a b:Int):FnOK Tryz.prog G 126 [di a,di b] (.clo (.func 127) [] [.ptr [di a],.ptr [di b]]):=by
 refine FnOK.walk (orc:=orcKd) (keep:=[]) follows Tryz.func126 rfl Tryz.call126 ?_
 refine of_tr (fun _ _ _ _=>(ZS ((.clo (.func 127) [] [(.ptr [(di a)]),(.ptr [(di b)])]):DV))) (by kernel_rfl) ?_
 rfl
def kxA (l:List Int) (a b:Int):Int:=if allK l a then b else 0
def kxE (l:List Int) (a:Int):Int:=if allK l a then 0 else 5
theorem f127 (m:Nat) (e:Ex) (l:List Int) (a b:Int) (hl:l.length≤100000):FnOK Tryz.prog G 127 [exD m e,inD l,.ptr [di a],.ptr [di b]] (.tup [di (kxA l a b),di (kxE l a)]):=by
 refine FnOK.walk (orc:=orcKd) (keep:=[]) follows Tryz.func127 rfl Tryz.call127 ?_
 refine of_tr (fun _ _ _ ZK=>(ZK 128 [(.slc 1 l.length (inF l)),(di a)] (db (allK (rdL (DV.slc 1 l.length (inF l))) a))∧(((!allK (rdL (DV.slc 1 l.length (inF l))) a)=true)→(((.tup [(di 0),(di 5)]):DV)=(.tup [(di (kxA l a b)),(di (kxE l a))])))∧(((!allK (rdL (DV.slc 1 l.length (inF l))) a)=false)→(((.tup [(di b),(di 0)]):DV)=(.tup [(di (kxA l a b)),(di (kxE l a))]))))) (by kernel_rfl) ?_
 simp only[rdL_eq]
 refine⟨f128 l a hl,fun h=>?_,fun h=>?_⟩
 ·rw[Bool.not_eq_true'] at h
  unfold kxA kxE
  rw[h];rfl
 ·rw[Bool.not_eq_false'] at h
  unfold kxA kxE
  rw[h];rfl
noncomputable def S163 (a b:List ByteArray) (k:Nat):AS:=⟨regs Tryz.f197.ntmps [(0,.d (wdD a)),(1,.d (wdD b)),(12,vi a.length),(13,vi k)],[]⟩
theorem f197 (a b:List ByteArray) (ha:a.length≤100000):FnOK Tryz.prog G 197 [wdD a,wdD b] (db (eqW a b)):=by
 unfold eqW
 refine FnOK.walk (orc:=noO) (keep:=[]) follows Tryz.func197 rfl Tryz.call197 ?_
 refine of_tr (fun ZT ZW ZQ _=>(((((↑a.length:Int) != ↑b.length)=true)→(((db false):DV)=(db (decide (a=b)))))∧((((↑a.length:Int) != ↑b.length)=false)→ZW [cd Tryz.f197 [1,1,0,1,0],(.blk 0),cd Tryz.f197 [1,1,1]] (stS ZT [1]) ZQ))) (by kernel_rfl) ?_
 refine⟨fun hne=>?_,fun heq=>?_⟩
 ·rw[decide_eq_false]
  rintro rfl
  simp at hne
 have heq:a.length=b.length:=by
  have h0:(a.length:Int)=b.length:=by simpa using heq
  omega
 refine AWP.loop (c:=cAt (bodyOf Tryz.f197) [1,1,0,1,0,0]) (by kernel_rfl) (S163 a b) (fun k=>k≤a.length∧∀i,i<k→a.getD i .empty=b.getD i .empty) (fun k=>a.length-k) 0 ?_ ⟨Nat.zero_le _,fun i hi=>absurd hi (Nat.not_lt_zero _)⟩ ?_
 ·exact AS.leA (by kernel_rfl)
 ·rintro k ⟨hk,hkd⟩
  refine walk (orc:=noO) (keep:=[]) (cuts:=[]) (n:=1000) follows ?_
  refine of_rd (fun ZT ZW ZQ _ ZA _=>(fun Za=>((((decide ((↑k:Int)<↑a.length))=true)→((((0≤(↑k:Int))∧((↑k:Int)<↑a.length))∧(0≤(↑k:Int))∧((↑k:Int)<↑b.length))∧((Za=true)→(((db false):DV)=(db (decide (a=b)))))∧((Za=false)→((I64 (↑k+1))∧(ZA (stS ZT [0,1]))))))∧(((decide ((↑k:Int)<↑a.length))=false)→ZW [cd Tryz.f197 [1,1,1]] (stS ZT [1]) ZQ))) (!(a.getD (↑k:Int).toNat ByteArray.empty).toList==(b.getD (↑k:Int).toNat ByteArray.empty).toList)) (by kernel_rfl) ?_
  simp only[iTn,toList_beq]
  refine⟨fun h=>?_,fun h=>?_⟩
  ·have hk2:k<a.length:=by have:=oDt h;omega
   refine⟨⟨⟨by omega,by omega⟩,⟨by omega,by omega⟩⟩,fun h2=>?_,fun h2=>⟨⟨by omega,by omega⟩,Again.mk (k+1) ?_ ⟨hk2,fun i hi=>?_⟩ (by omega)⟩⟩
   ·rw[decide_eq_false]
    rintro rfl
    simp at h2
   ·exact AS.leA (by kernel_rfl)
   ·rcases Nat.lt_or_ge i k with h4|h4
    ·exact hkd i h4
    ·obtain rfl:i=k:=by omega
     simpa using h2
  ·simp only[decide_eq_false_iff_not] at h
   refine walk (orc:=noO) (keep:=[]) (cuts:=[]) (n:=1000) follows ?_
   refine of_tr (fun _ _ _ _=>(((db true):DV)=(db (decide (a=b))))) (by kernel_rfl) ?_
   rw[decide_eq_true (getD_ext heq fun i hi=>hkd i (by omega))]
/-! Names in the world. -/
def nmK (l:List Fc) (ws:List ByteArray) (s:ByteArray):Int×Int:=if fH l (.string s) then ((fM l (.string s)).kind,0) else if wL ws (.string s) then (2,0) else (0,4)
theorem fM_miss {l:List Fc} {s:ByteArray} (h:fH l (.string s)=false):fM l (.string s)=fc0:=by
 induction l with
 | nil=>rfl
 | cons x l ih=>
  simp only[fH,Bool.or_eq_false_iff] at h
  simp only[fM,h.1,cond_false]
  exact ih h.2
theorem zd_imp {l:List Fc} {s:ByteArray} (h:fH l (.string s)=false):DV.imp (.agg [ds .empty,di 0,di 0,di 0,di 0,di 0,.con (.slice none 0 0)]) (fcD (fM l (.string s))):=fun _ _ hv=>by
 rw[fM_miss h]
 exact fc_nil hv
theorem f129 (l:List Fc) (ws:List ByteArray) (m:Nat) (x:Ex) (ks:List Int):FnOK Tryz.prog G 129 [wrD l ws,exD m x,inD ks] (.tup [di (nmK l ws x.s).1,di (nmK l ws x.s).2]):=by
 refine FnOK.walk (orc:=noO) (keep:=[]) follows Tryz.func129 rfl Tryz.call129 ?_
 refine of_tr (fun _ _ _ _=>(fun Za=>((((fH l (Value.string x.s))=false)→((DV.agg (List.map DV.con [Value.string (ByteArray.mk #[]),Value.int IntKind.i64 0,Value.int IntKind.i64 0,Value.int IntKind.i64 0,Value.int IntKind.i64 0,Value.int IntKind.i64 0,Value.slice none 0 0])).imp (fV l (Value.string x.s))))∧(((fH l (Value.string x.s))=true)→(((.tup [(di (fM l (Value.string x.s)).kind),(di 0)]):DV)=Za))∧(((fH l (Value.string x.s))=false)→((((wL ws (Value.string x.s))=false)→((DV.con (Value.bool false)).imp (wV ws (Value.string x.s))))∧(((wL ws (Value.string x.s))=true)→(((.tup [(di 2),(di 0)]):DV)=Za))∧(((wL ws (Value.string x.s))=false)→(((.tup [(di 0),(di 4)]):DV)=Za)))))) ((.tup [(di (nmK l ws x.s).fst),(di (nmK l ws x.s).snd)]):DV)) (by kernel_rfl) ?_
 unfold nmK
 refine⟨fun h=>zd_imp h,fun h=>?_,fun h=>⟨fun h2=>imp_eq (by show DV.con (.bool (wL ws (.string x.s)))=_;rw[h2]),fun h2=>?_,fun h2=>?_⟩⟩
 ·rw[if_pos h]
 ·rw[if_neg (by rw[h];decide),if_pos h2]
 ·rw[if_neg (by rw[h];decide),if_neg (by rw[h2];decide)]
def cmK (l:List Fc) (a b:ByteArray) (p q:Int):Bool:=if (p != q||p != 2)=true then p==q else
 if fH l (.string a)&&fH l (.string b) then eqW (fM l (.string a)).words (fM l (.string b)).words
 else if fH l (.string a) then anyB (fM l (.string a)).words b else if fH l (.string b) then anyB (fM l (.string b)).words a else false
noncomputable def orcCm:Oracle:=fun f a=>match f,a with
 | 197,[v,w]=>some (db (eqW (rdW v) (rdW w)))
 | 99,[w,.con (.string s)]=>some (db (anyB (rdW w) s))
 | _,_=>none
theorem f165 (l:List Fc) (ws:List ByteArray) (m m':Nat) (a b:Ex) (ks:List Int) (hk:ks.length=2) (hl:∀v,(fM l v).words.length≤100000):FnOK Tryz.prog G 165 [wrD l ws,exD m a,exD m' b,inD ks] (db (cmK l a.s b.s (ks.getD 0 0) (ks.getD 1 0))):=by
 refine FnOK.walk (orc:=orcCm) (keep:=[]) follows Tryz.func165 rfl Tryz.call165 ?_
 refine of_tr (fun _ _ _ ZK=>(fun Za Zb Zc Zd Ze Zf Zg=>(((((0:Int)≤(0:Int))∧(0<(↑ks.length:Int)))∧(((0:Int)≤(1:Int))∧(1<(↑ks.length:Int)))∧(((!ks.getD (Int.toNat 0) 0 != ks.getD (Int.toNat 1) 0)=true)→(((0:Int)≤(0:Int))∧(0<(↑ks.length:Int)))))∧((Zg=true)→(((((0:Int)≤(0:Int))∧(0<(↑ks.length:Int)))∧((0:Int)≤(1:Int))∧(1<(↑ks.length:Int)))∧((db (ks.getD (Int.toNat 0) 0==ks.getD (Int.toNat 1) 0)):DV)=Zd))∧((Zg=false)→((((fH l (Value.string a.s))=false)→(Zc.imp (fV l (Value.string a.s))))∧(((fH l (Value.string b.s))=false)→(Zc.imp (fV l (Value.string b.s))))∧(((fH l (Value.string a.s)&&fH l (Value.string b.s))=true)→(ZK 197 [Ze,Zf] (db (eqW Za Zb))∧((db (eqW Za Zb)):DV)=Zd))∧(((fH l (Value.string a.s)&&fH l (Value.string b.s))=false)→((((fH l (Value.string a.s))=true)→(ZK 99 [Ze,(ds b.s)] (db (anyB Za b.s))∧((db (anyB Za b.s)):DV)=Zd))∧(((fH l (Value.string a.s))=false)→((((fH l (Value.string b.s))=true)→(ZK 99 [Zf,(ds a.s)] (db (anyB Zb a.s))∧((db (anyB Zb a.s)):DV)=Zd))∧(((fH l (Value.string b.s))=false)→(((db false):DV)=Zd)))))))))) (rdW (DV.slc 1 (fM l (Value.string a.s)).words.length (stF (fM l (Value.string a.s)).words))) (rdW (DV.slc 1 (fM l (Value.string b.s)).words.length (stF (fM l (Value.string b.s)).words))) (DV.agg (List.map DV.con [Value.string (ByteArray.mk #[]),Value.int IntKind.i64 0,Value.int IntKind.i64 0,Value.int IntKind.i64 0,Value.int IntKind.i64 0,Value.int IntKind.i64 0,Value.slice none 0 0])) (db (cmK l a.s b.s (ks.getD 0 0) (ks.getD 1 0))) ((.slc 1 (fM l (Value.string a.s)).words.length (stF (fM l (Value.string a.s)).words)):DV) ((.slc 1 (fM l (Value.string b.s)).words.length (stF (fM l (Value.string b.s)).words)):DV) (ks.getD (Int.toNat 0) 0 != ks.getD (Int.toNat 1) 0||ks.getD (Int.toNat 0) 0 != 2)) (by kernel_rfl) ?_
 simp only[rdW_eq]
 unfold cmK
 have e0:Int.toNat 0=0:=rfl
 have e1:Int.toNat 1=1:=rfl
 rw[e0,e1]
 have hwa:=hl (.string a.s)
 have hwb:=hl (.string b.s)
 refine⟨⟨⟨by omega,by omega⟩,⟨by omega,by omega⟩,fun _=>⟨by omega,by omega⟩⟩,fun h=>⟨⟨⟨by omega,by omega⟩,⟨by omega,by omega⟩⟩,?_⟩,fun h=>⟨fun h1=>zd_imp h1,fun h1=>zd_imp h1,fun h1=>⟨f197 _ _ hwa,?_⟩,fun h1=>⟨fun h2=>⟨f99 _ _ (by omega),?_⟩,fun h2=>⟨fun h3=>⟨f99 _ _ (by omega),?_⟩,fun h3=>?_⟩⟩⟩⟩
 ·rw[if_pos h]
 ·rw[if_neg (by rw[h];decide),if_pos h1]
 ·rw[if_neg (by rw[h];decide),if_neg (by rw[h1];decide),if_pos h2]
 ·rw[if_neg (by rw[h];decide),if_neg (by rw[h1];decide),if_neg (by rw[h2];decide),if_pos h3]
 ·rw[if_neg (by rw[h];decide),if_neg (by rw[h1];decide),if_neg (by rw[h2];decide),if_neg (by rw[h3];decide)]
noncomputable def orcEq (l:List Fc):Oracle:=fun f a=>match f,a with
 | 165,[_,e,g,k]=>some (db (cmK l (rdE e).s (rdE g).s ((rdL k).getD 0 0) ((rdL k).getD 1 0)))
 | _,_=>none
theorem f130 (l:List Fc) (ws:List ByteArray) (m:Nat) (x:Ex) (ks:List Int) (hx:ht x≤m) (hk:ks.length=2) (hk2:x.kids.length=2) (hl:∀v,(fM l v).words.length≤100000):FnOK Tryz.prog G 130 [wrD l ws,exD m x,inD ks] (.tup [di (if cmK l (x.kids.getD 0 ex0).s (x.kids.getD 1 ex0).s (ks.getD 0 0) (ks.getD 1 0) then 1 else 0),di (if cmK l (x.kids.getD 0 ex0).s (x.kids.getD 1 ex0).s (ks.getD 0 0) (ks.getD 1 0) then 0 else 5)]):=by
 have q0:∀(_:0<x.kids.length),rdE (kidA m x (Int.toNat (0:Int)))=x.kids.getD 0 ex0:=fun h=>kid_rd hx h
 have q1:∀(_:1<x.kids.length),rdE (kidA m x (Int.toNat (1:Int)))=x.kids.getD 1 ex0:=fun h=>kid_rd hx h
 refine FnOK.walk (orc:=orcEq l) (keep:=[]) follows Tryz.func130 rfl Tryz.call130 ?_
 refine of_tr (fun _ _ _ ZK=>(fun Za=>(((((0:Int)≤(0:Int))∧(0<(↑x.kids.length:Int)))∧(((0:Int)≤(1:Int))∧(1<(↑x.kids.length:Int)))∧ZK 165 [(.ptr [(.mp none (fV l) (fH l)),(.mp none (wV ws) (wL ws))]),(ndA m (x.kids.getD (Int.toNat 0) ex0)),(ndA m (x.kids.getD (Int.toNat 1) ex0)),(.slc 1 ks.length (inF ks))] (db (cmK l (rdE (ndA m (x.kids.getD (Int.toNat 0) ex0))).s (rdE (ndA m (x.kids.getD (Int.toNat 1) ex0))).s ((rdL (DV.slc 1 ks.length (inF ks))).getD 0 0) ((rdL (DV.slc 1 ks.length (inF ks))).getD 1 0))))∧((Za=true)→(((.tup [(di 0),(di 5)]):DV)=(.tup [(di (if cmK l (x.kids.getD 0 ex0).s (x.kids.getD 1 ex0).s (ks.getD 0 0) (ks.getD 1 0)=true then 1 else 0)),(di (if cmK l (x.kids.getD 0 ex0).s (x.kids.getD 1 ex0).s (ks.getD 0 0) (ks.getD 1 0)=true then 0 else 5))])))∧((Za=false)→(((.tup [(di 1),(di 0)]):DV)=(.tup [(di (if cmK l (x.kids.getD 0 ex0).s (x.kids.getD 1 ex0).s (ks.getD 0 0) (ks.getD 1 0)=true then 1 else 0)),(di (if cmK l (x.kids.getD 0 ex0).s (x.kids.getD 1 ex0).s (ks.getD 0 0) (ks.getD 1 0)=true then 0 else 5))]))))) (!cmK l (rdE (ndA m (x.kids.getD (Int.toNat 0) ex0))).s (rdE (ndA m (x.kids.getD (Int.toNat 1) ex0))).s ((rdL (DV.slc 1 ks.length (inF ks))).getD 0 0) ((rdL (DV.slc 1 ks.length (inF ks))).getD 1 0))) (by kernel_rfl) ?_
 simp only[rdL_eq,q0 (by omega),q1 (by omega)]
 have h127:FnOK Tryz.prog G 165 [wrD l ws,kidA m x 0,kidA m x 1,inD ks] (db (cmK l (x.kids.getD 0 ex0).s (x.kids.getD 1 ex0).s (ks.getD 0 0) (ks.getD 1 0))):=
  kidOK (Q:=fun d=>FnOK Tryz.prog G 165 [wrD l ws,d,kidA m x 1,inD ks] _) hx (by omega) fun m1 h1 h2=>
   kidOK (Q:=fun d=>FnOK Tryz.prog G 165 [wrD l ws,exD m1 _,d,inD ks] _) hx (by omega) fun m2 h3 h4=>f165 l ws m1 m2 _ _ ks hk hl
 refine⟨⟨⟨by omega,by omega⟩,⟨by omega,by omega⟩,h127⟩,fun h=>?_,fun h=>?_⟩
 ·rw[Bool.not_eq_true'] at h
  rw[h];rfl
 ·rw[Bool.not_eq_false'] at h
  rw[h];rfl
/-! What each kind of expression asks for: a map of functions. -/
def kC (w:DV) (n:Int):DV:=if n=1 then .clo (.func 125) [] [.ptr [di 0]] else if n=3 then .clo (.func 125) [] [.ptr [di 1]] else if n=4 then .clo (.func 125) [] [.ptr [di 1]]
 else if n=2 then .clo (.func 129) [w] [] else if n=12 then .clo (.func 130) [w] [] else if n=13 then .clo (.func 130) [w] []
 else if n<12 then .clo (.func 127) [] [.ptr [di 0],.ptr [di 0]] else if n<18 then .clo (.func 127) [] [.ptr [di 0],.ptr [di 1]] else .clo (.func 127) [] [.ptr [di 1],.ptr [di 1]]
abbrev kF (w:DV):Value→DV:=fun v=>kC w (keyI v)
def hK:List Int→Value→Bool
 | []=>fun _=>false
 | n :: l=>fun v=>keyEq v (.int .i64 n)||hK l v
theorem putF_kF (w:DV) (n:Int):putF (.int .i64 n) (kC w n) (kF w)=kF w:=by
 funext v
 unfold putF
 cases h:keyEq v (.int .i64 n) with
 | false=>rfl
 | true=>
  cases v<;>simp only[keyEq,bAt,dEt,Bool.false_eq_true] at h
  obtain ⟨_,rfl⟩:=h
  rfl
def orcK1:Oracle:=fun f a=>match f,a with
 | 124,[.con (.int .i64 v)]=>some (.clo (.func 125) [] [.ptr [di v]])
 | 126,[.con (.int .i64 a),.con (.int .i64 b)]=>some (.clo (.func 127) [] [.ptr [di a],.ptr [di b]])
 | _,_=>none
def kl0:List Int:=[13,12,2,4,3,1]
def kl1:List Int:=[5,6,7,8,9,10,11]
def kl2:List Int:=[14,15,16,17]
def kl3:List Int:=[18,19,20]
def kh1 (k:Nat):List Int:=(kl1.take k).reverse++kl0
def kh2 (k:Nat):List Int:=(kl2.take k).reverse++kh1 7
def kh3 (k:Nat):List Int:=(kl3.take k).reverse++kh2 4
theorem take_cons {l m:List Int} {k:Nat} (h:k<l.length):(l.take (k+1)).reverse++m=l.getD k 0 :: ((l.take k).reverse++m):=by
 rw[List.take_succ_eq_append_getElem h,List.reverse_append,List.getD,gEe h];rfl
theorem kC1 (w:DV) {k:Nat} (h:k<7):kC w (kl1.getD k 0)=.clo (.func 127) [] [.ptr [di 0],.ptr [di 0]]:=by
 rcases k with _|_|_|_|_|_|_|k<;>first|rfl|omega
theorem kC2 (w:DV) {k:Nat} (h:k<4):kC w (kl2.getD k 0)=.clo (.func 127) [] [.ptr [di 0],.ptr [di 1]]:=by
 rcases k with _|_|_|_|k<;>first|rfl|omega
theorem kC3 (w:DV) {k:Nat} (h:k<3):kC w (kl3.getD k 0)=.clo (.func 127) [] [.ptr [di 1],.ptr [di 1]]:=by
 rcases k with _|_|_|k<;>first|rfl|omega
theorem in1_rel {l:List Int} {h:IH} {v:Value} (hv:DV.rel h (.slc 1 l.length (elemF false 1 (l.map fun n=>di n))) v):DV.rel h (inD l) v:=by
 refine DV.rel_slc_congr (fun i hi=>?_) hv
 unfold elemF inF
 simp[List.getD,gEe hi]
abbrev fn77:AV:=.d (.con (.func (.func 126) #[] #[]))
noncomputable def S43a (w:DV) (k:Nat):AS:=⟨regs Tryz.f74.ntmps [(4,fn77),(5,.mapv 12),(26,.d (inD kl1)),(27,vi 7),(28,vi k)],[(12,[.mp (some .i64) (kF w) (hK (kh1 k))])]⟩
noncomputable def S43b (w:DV) (k:Nat):AS:=⟨regs Tryz.f74.ntmps [(4,fn77),(5,.mapv 12),(37,.d (inD kl2)),(38,vi 4),(39,vi k)],[(12,[.mp (some .i64) (kF w) (hK (kh2 k))])]⟩
noncomputable def S43c (w:DV) (k:Nat):AS:=⟨regs Tryz.f74.ntmps [(4,fn77),(5,.mapv 12),(48,.d (inD kl3)),(49,vi 3),(50,vi k)],[(12,[.mp (some .i64) (kF w) (hK (kh3 k))])]⟩
abbrev kdM (w:DV):DV:=.mp (some .i64) (kF w) (hK (kh3 3))
theorem f74 (l:List Fc) (ws:List ByteArray):FnOK Tryz.prog G 74 [wrD l ws] (kdM (wrD l ws)):=by
 refine FnOK.walk (orc:=orcK1) (keep:=[]) follows Tryz.func74 rfl Tryz.call74 ?_
 refine of_eqH4 ((.ptr [(.mp none (fV l) (fH l)),(.mp none (wV ws) (wL ws))]):DV) ((.d (.con (.func (.func 124) ⟨[]⟩ ⟨[]⟩))):AV) ((.clo (.func 125) [] [(.ptr [(di 1)])]):DV) (DV.clo (Fn.func 130) [DV.ptr [DV.mp none (fV l) (fH l),DV.mp none (wV ws) (wL ws)]] []) (fun Za Zb Zc Zd=>((FnOK Tryz.prog G 124 [(di 0)] (.clo (.func 125) [] [(.ptr [(di 0)])])∧FnOK Tryz.prog G 124 [(di 1)] Zc∧FnOK Tryz.prog G 124 [(di 1)] Zc)∧AWP Tryz.prog G [cd Tryz.f74 [1,1,1,1,0,1,0],(.blk 0),cd Tryz.f74 [1,1,1,1,1]] ⟨regs 60 [(0,(.d Za)),(2,(.d (.con (.map none)))),(3,Zb),(4,(.d (.con (.func (.func 126) ⟨[]⟩ ⟨[]⟩)))),(5,(.mapv 12)),(12,(.mapv 12)),(13,Zb),(14,(.d (.clo (.func 125) [] [(.ptr [(di 0)])]))),(15,Zb),(16,(.d Zc)),(17,Zb),(18,(.d Zc)),(19,(.d Za)),(20,(.d (.clo (.func 129) [Za] []))),(21,(.d Za)),(22,(.d (.clo (.func 130) [Za] []))),(23,(.d Za)),(24,(.d (.clo (.func 130) [Za] []))),(25,(.mapv 12)),(26,(.d (.slc 1 7 (elemF false 1 [(di 5),(di 6),(di 7),(di 8),(di 9),(di 10),(di 11)])))),(27,(vi 7)),(28,(vi 0))],[(12,[(.mp (some .i64) (putF (Value.int IntKind.i64 13) Zd (putF (Value.int IntKind.i64 12) Zd (putF (Value.int IntKind.i64 2) (DV.clo (Fn.func 129) [DV.ptr [DV.mp none (fV l) (fH l),DV.mp none (wV ws) (wL ws)]] []) (putF (Value.int IntKind.i64 4) (DV.clo (Fn.func 125) [] [DV.ptr [di 1]]) (putF (Value.int IntKind.i64 3) (DV.clo (Fn.func 125) [] [DV.ptr [di 1]]) (putF (Value.int IntKind.i64 1) (DV.clo (Fn.func 125) [] [DV.ptr [di 0]]) fun x=>DV.con Value.nilFunc)))))) (putH (Value.int IntKind.i64 13) (putH (Value.int IntKind.i64 12) (putH (Value.int IntKind.i64 2) (putH (Value.int IntKind.i64 4) (putH (Value.int IntKind.i64 3) (putH (Value.int IntKind.i64 1) fun x=>false)))))))])]⟩ (Ret Tryz.prog Tryz.f74 (kdM (wrD l ws))))) (by kernel_rfl) ?_
 refine⟨⟨f124 0,f124 1,f124 1⟩,?_⟩
 refine AWP.pre (.mapF _ 12 (kF (wrD l ws)) rfl fun k hk=>?_) ?_
 ·have hk:hK kl0 k=true:=hk
  cases k<;>simp only[hK,kl0,keyEq,Bool.or_false,Bool.or_self,Bool.false_eq_true] at hk
  rename_i kd n
  simp only[Bool.or_eq_true,bAt,dEt] at hk
  rcases hk with ⟨rfl,rfl⟩|⟨rfl,rfl⟩|⟨rfl,rfl⟩|⟨rfl,rfl⟩|⟨rfl,rfl⟩|⟨rfl,rfl⟩<;>rfl
 refine AWP.pre (.reg _ 26 (.d (inD kl1)) fun β h v hv=>in1_rel (l:=kl1) hv) ?_
 refine AWP.loop (c:=cAt (bodyOf Tryz.f74) [1,1,1,1,0,1,0,0]) (by kernel_rfl) (S43a (wrD l ws)) (fun k=>k≤7) (fun k=>7-k) 0 ?_ (Nat.zero_le _) ?_
 ·refine AS.leZ [] [0] (b:=((T0∧T0∧T0∧T0∧T0∧True)∧((some [(.mp (some .i64) (kF (wrD l ws)) (putH (Value.int IntKind.i64 13) (putH (Value.int IntKind.i64 12) (putH (Value.int IntKind.i64 2) (putH (Value.int IntKind.i64 4) (putH (Value.int IntKind.i64 3) (putH (Value.int IntKind.i64 1) fun x=>false)))))))]):(Option (List AV)))=(some [(.mp (some .i64) (kF (wrD l ws)) (hK (kh1 0)))])∧True)) (by kernel_rfl) (by kernel_rfl) ?_
  exact⟨⟨rfl,rfl,rfl,rfl,rfl,trivial⟩,rfl,trivial⟩
 ·intro k hk
  refine walk (orc:=orcK1) (keep:=[]) (cuts:=[]) (n:=1000) follows ?_
  refine of_eqH1 ((.d (.con (.func (.func 126) ⟨[]⟩ ⟨[]⟩))):AV) (fun Za=>((((decide ((↑k:Int)<7))=true)→(((0≤(↑k:Int))∧((↑k:Int)<↑7))∧FnOK Tryz.prog G 126 [(di 0),(di 0)] (.clo (.func 127) [] [(.ptr [(di 0)]),(.ptr [(di 0)])])∧(I64 (↑k+1))∧Again (S43a (wrD l ws)) (fun k=>k≤7) (fun k=>7-k) k ⟨regs 60 [(4,Za),(5,(.mapv 12)),(7,(vi (kl1.getD (↑k:Int).toNat 0))),(26,(.d (.slc 1 7 (inF kl1)))),(27,(vi 7)),(28,(vi (↑k+1))),(29,(vb (decide ((↑k:Int)<7)))),(30,(.d (.ptr [(di (kl1.getD (↑k:Int).toNat 0))]))),(31,(vi (kl1.getD (↑k:Int).toNat 0))),(32,(.mapv 12)),(33,(vi (kl1.getD (↑k:Int).toNat 0))),(34,Za),(35,(.d (.clo (.func 127) [] [(.ptr [(di 0)]),(.ptr [(di 0)])]))),(36,(vi (↑k+1)))],[(12,[(.mp (some .i64) (putF (Value.int IntKind.i64 (kl1.getD (↑k:Int).toNat 0)) (DV.clo (Fn.func 127) [] [DV.ptr [di 0],DV.ptr [di 0]]) (kF (wrD l ws))) (putH (Value.int IntKind.i64 (kl1.getD (↑k:Int).toNat 0)) (hK (kh1 k))))])]⟩))∧(((decide ((↑k:Int)<7))=false)→AWP Tryz.prog G [cd Tryz.f74 [1,1,1,1,1]] ⟨regs 60 [(4,Za),(5,(.mapv 12)),(26,(.d (.slc 1 7 (inF kl1)))),(27,(vi 7)),(28,(vi (↑k))),(29,(vb (decide ((↑k:Int)<7))))],[(12,[(.mp (some .i64) (kF (wrD l ws)) (hK (kh1 k)))])]⟩ (Ret Tryz.prog Tryz.f74 (kdM (wrD l ws)))))) (by kernel_rfl) ?_
  simp only[iTn]
  refine⟨fun h1=>?_,fun h1=>?_⟩
  ·have hk2:k<7:=by have:=oDt h1;omega
   refine⟨⟨by omega,by show (k:Int)<7;omega⟩,f126 0 0,⟨by omega,by omega⟩,Again.mk (k+1) ?_ hk2 (by omega)⟩
   refine AS.leZ [] [0] (b:=((T0∧T0∧T0∧T0∧T0∧True)∧((some [(.mp (some .i64) (putF (Value.int IntKind.i64 (kl1.getD k 0)) (DV.clo (Fn.func 127) [] [DV.ptr [di 0],DV.ptr [di 0]]) (kF (wrD l ws))) (putH (Value.int IntKind.i64 (kl1.getD k 0)) (hK (kh1 k))))]):(Option (List AV)))=(some [(.mp (some .i64) (kF (wrD l ws)) (hK (kh1 (k+1))))])∧True)) (by kernel_rfl) (by kernel_rfl) ?_
   refine⟨⟨rfl,rfl,rfl,rfl,rfl,trivial⟩,?_,trivial⟩
   have e1:hK (kh1 (k+1))=putH (.int .i64 (kl1.getD k 0)) (hK (kh1 k)):=by
    unfold kh1
    rw[take_cons (show k<kl1.length from hk2)];rfl
   rw[e1]
   refine congrArg (fun f=>some [AV.mp (some .i64) f (putH (.int .i64 (kl1.getD k 0)) (hK (kh1 k)))]) ?_
   rw[←kC1 (wrD l ws) hk2]
   exact putF_kF _ _
  ·have h1:=of_decide_eq_false h1
   obtain rfl:k=7:=by omega
   refine walk (orc:=orcK1) (keep:=[]) (cuts:=[]) (n:=1000) follows ?_
   refine of_eqH (b:=AWP Tryz.prog G [cd Tryz.f74 [1,1,1,1,1,0,1,0],(.blk 2),cd Tryz.f74 [1,1,1,1,1,1]] ⟨regs 60 [(4,(.d (.con (.func (.func 126) ⟨[]⟩ ⟨[]⟩)))),(5,(.mapv 12)),(26,(.d (.slc 1 7 (inF kl1)))),(27,(vi 7)),(28,(vi 7)),(29,(vb false)),(37,(.d (.slc 1 4 (elemF false 1 [(di 14),(di 15),(di 16),(di 17)])))),(38,(vi 4)),(39,(vi 0))],[(12,[(.mp (some .i64) (kF (wrD l ws)) (hK (kh1 7)))])]⟩ (Ret Tryz.prog Tryz.f74 (kdM (wrD l ws)))) (by kernel_rfl) ?_
   refine AWP.pre (.reg _ 37 (.d (inD kl2)) fun β h v hv=>in1_rel (l:=kl2) hv) ?_
   refine AWP.loop (c:=cAt (bodyOf Tryz.f74) [1,1,1,1,1,0,1,0,0]) (by kernel_rfl) (S43b (wrD l ws)) (fun k=>k≤4) (fun k=>4-k) 0 ?_ (Nat.zero_le _) ?_
   ·refine AS.leZ [] [0] (b:=((T0∧T0∧T0∧T0∧T0∧True)∧((some [(.mp (some .i64) (kF (wrD l ws)) (hK (kh1 7)))]):(Option (List AV)))=(some [(.mp (some .i64) (kF (wrD l ws)) (hK (kh2 0)))])∧True)) (by kernel_rfl) (by kernel_rfl) ?_
    exact⟨⟨rfl,rfl,rfl,rfl,rfl,trivial⟩,rfl,trivial⟩
   ·intro k hk
    refine walk (orc:=orcK1) (keep:=[]) (cuts:=[]) (n:=1000) follows ?_
    refine of_eqH1 ((.d (.con (.func (.func 126) ⟨[]⟩ ⟨[]⟩))):AV) (fun Za=>((((decide ((↑k:Int)<4))=true)→(((0≤(↑k:Int))∧((↑k:Int)<↑4))∧FnOK Tryz.prog G 126 [(di 0),(di 1)] (.clo (.func 127) [] [(.ptr [(di 0)]),(.ptr [(di 1)])])∧(I64 (↑k+1))∧Again (S43b (wrD l ws)) (fun k=>k≤4) (fun k=>4-k) k ⟨regs 60 [(4,Za),(5,(.mapv 12)),(9,(vi (kl2.getD (↑k:Int).toNat 0))),(37,(.d (.slc 1 4 (inF kl2)))),(38,(vi 4)),(39,(vi (↑k+1))),(40,(vb (decide ((↑k:Int)<4)))),(41,(.d (.ptr [(di (kl2.getD (↑k:Int).toNat 0))]))),(42,(vi (kl2.getD (↑k:Int).toNat 0))),(43,(.mapv 12)),(44,(vi (kl2.getD (↑k:Int).toNat 0))),(45,Za),(46,(.d (.clo (.func 127) [] [(.ptr [(di 0)]),(.ptr [(di 1)])]))),(47,(vi (↑k+1)))],[(12,[(.mp (some .i64) (putF (Value.int IntKind.i64 (kl2.getD (↑k:Int).toNat 0)) (DV.clo (Fn.func 127) [] [DV.ptr [di 0],DV.ptr [di 1]]) (kF (wrD l ws))) (putH (Value.int IntKind.i64 (kl2.getD (↑k:Int).toNat 0)) (hK (kh2 k))))])]⟩))∧(((decide ((↑k:Int)<4))=false)→AWP Tryz.prog G [cd Tryz.f74 [1,1,1,1,1,1]] ⟨regs 60 [(4,Za),(5,(.mapv 12)),(37,(.d (.slc 1 4 (inF kl2)))),(38,(vi 4)),(39,(vi (↑k))),(40,(vb (decide ((↑k:Int)<4))))],[(12,[(.mp (some .i64) (kF (wrD l ws)) (hK (kh2 k)))])]⟩ (Ret Tryz.prog Tryz.f74 (kdM (wrD l ws)))))) (by kernel_rfl) ?_
    simp only[iTn]
    refine⟨fun h1=>?_,fun h1=>?_⟩
    ·have hk2:k<4:=by have:=oDt h1;omega
     refine⟨⟨by omega,by show (k:Int)<4;omega⟩,f126 0 1,⟨by omega,by omega⟩,Again.mk (k+1) ?_ hk2 (by omega)⟩
     refine AS.leZ [] [0] (b:=((T0∧T0∧T0∧T0∧T0∧True)∧((some [(.mp (some .i64) (putF (Value.int IntKind.i64 (kl2.getD k 0)) (DV.clo (Fn.func 127) [] [DV.ptr [di 0],DV.ptr [di 1]]) (kF (wrD l ws))) (putH (Value.int IntKind.i64 (kl2.getD k 0)) (hK (kh2 k))))]):(Option (List AV)))=(some [(.mp (some .i64) (kF (wrD l ws)) (hK (kh2 (k+1))))])∧True)) (by kernel_rfl) (by kernel_rfl) ?_
     refine⟨⟨rfl,rfl,rfl,rfl,rfl,trivial⟩,?_,trivial⟩
     have e1:hK (kh2 (k+1))=putH (.int .i64 (kl2.getD k 0)) (hK (kh2 k)):=by
      unfold kh2
      rw[take_cons (show k<kl2.length from hk2)];rfl
     rw[e1]
     refine congrArg (fun f=>some [AV.mp (some .i64) f (putH (.int .i64 (kl2.getD k 0)) (hK (kh2 k)))]) ?_
     rw[←kC2 (wrD l ws) hk2]
     exact putF_kF _ _
    ·have h1:=of_decide_eq_false h1
     obtain rfl:k=4:=by omega
     refine walk (orc:=orcK1) (keep:=[]) (cuts:=[]) (n:=1000) follows ?_
     refine of_eqH (b:=AWP Tryz.prog G [cd Tryz.f74 [1,1,1,1,1,1,0,1,0],(.blk 4),cd Tryz.f74 [1,1,1,1,1,1,1]] ⟨regs 60 [(4,(.d (.con (.func (.func 126) ⟨[]⟩ ⟨[]⟩)))),(5,(.mapv 12)),(37,(.d (.slc 1 4 (inF kl2)))),(38,(vi 4)),(39,(vi 4)),(40,(vb false)),(48,(.d (.slc 1 3 (elemF false 1 [(di 18),(di 19),(di 20)])))),(49,(vi 3)),(50,(vi 0))],[(12,[(.mp (some .i64) (kF (wrD l ws)) (hK (kh2 4)))])]⟩ (Ret Tryz.prog Tryz.f74 (kdM (wrD l ws)))) (by kernel_rfl) ?_
     refine AWP.pre (.reg _ 48 (.d (inD kl3)) fun β h v hv=>in1_rel (l:=kl3) hv) ?_
     refine AWP.loop (c:=cAt (bodyOf Tryz.f74) [1,1,1,1,1,1,0,1,0,0]) (by kernel_rfl) (S43c (wrD l ws)) (fun k=>k≤3) (fun k=>3-k) 0 ?_ (Nat.zero_le _) ?_
     ·refine AS.leZ [] [0] (b:=((T0∧T0∧T0∧T0∧T0∧True)∧((some [(.mp (some .i64) (kF (wrD l ws)) (hK (kh2 4)))]):(Option (List AV)))=(some [(.mp (some .i64) (kF (wrD l ws)) (hK (kh3 0)))])∧True)) (by kernel_rfl) (by kernel_rfl) ?_
      exact⟨⟨rfl,rfl,rfl,rfl,rfl,trivial⟩,rfl,trivial⟩
     ·intro k hk
      refine walk (orc:=orcK1) (keep:=[]) (cuts:=[]) (n:=1000) follows ?_
      refine of_eqH1 ((.d (.con (.func (.func 126) ⟨[]⟩ ⟨[]⟩))):AV) (fun Za=>((((decide ((↑k:Int)<3))=true)→(((0≤(↑k:Int))∧((↑k:Int)<↑3))∧FnOK Tryz.prog G 126 [(di 1),(di 1)] (.clo (.func 127) [] [(.ptr [(di 1)]),(.ptr [(di 1)])])∧(I64 (↑k+1))∧Again (S43c (wrD l ws)) (fun k=>k≤3) (fun k=>3-k) k ⟨regs 60 [(4,Za),(5,(.mapv 12)),(11,(vi (kl3.getD (↑k:Int).toNat 0))),(48,(.d (.slc 1 3 (inF kl3)))),(49,(vi 3)),(50,(vi (↑k+1))),(51,(vb (decide ((↑k:Int)<3)))),(52,(.d (.ptr [(di (kl3.getD (↑k:Int).toNat 0))]))),(53,(vi (kl3.getD (↑k:Int).toNat 0))),(54,(.mapv 12)),(55,(vi (kl3.getD (↑k:Int).toNat 0))),(56,Za),(57,(.d (.clo (.func 127) [] [(.ptr [(di 1)]),(.ptr [(di 1)])]))),(58,(vi (↑k+1)))],[(12,[(.mp (some .i64) (putF (Value.int IntKind.i64 (kl3.getD (↑k:Int).toNat 0)) (DV.clo (Fn.func 127) [] [DV.ptr [di 1],DV.ptr [di 1]]) (kF (wrD l ws))) (putH (Value.int IntKind.i64 (kl3.getD (↑k:Int).toNat 0)) (hK (kh3 k))))])]⟩))∧(((decide ((↑k:Int)<3))=false)→AWP Tryz.prog G [cd Tryz.f74 [1,1,1,1,1,1,1]] ⟨regs 60 [(4,Za),(5,(.mapv 12)),(48,(.d (.slc 1 3 (inF kl3)))),(49,(vi 3)),(50,(vi (↑k))),(51,(vb (decide ((↑k:Int)<3))))],[(12,[(.mp (some .i64) (kF (wrD l ws)) (hK (kh3 k)))])]⟩ (Ret Tryz.prog Tryz.f74 (kdM (wrD l ws)))))) (by kernel_rfl) ?_
      simp only[iTn]
      refine⟨fun h1=>?_,fun h1=>?_⟩
      ·have hk2:k<3:=by have:=oDt h1;omega
       refine⟨⟨by omega,by show (k:Int)<3;omega⟩,f126 1 1,⟨by omega,by omega⟩,Again.mk (k+1) ?_ hk2 (by omega)⟩
       refine AS.leZ [] [0] (b:=((T0∧T0∧T0∧T0∧T0∧True)∧((some [(.mp (some .i64) (putF (Value.int IntKind.i64 (kl3.getD k 0)) (DV.clo (Fn.func 127) [] [DV.ptr [di 1],DV.ptr [di 1]]) (kF (wrD l ws))) (putH (Value.int IntKind.i64 (kl3.getD k 0)) (hK (kh3 k))))]):(Option (List AV)))=(some [(.mp (some .i64) (kF (wrD l ws)) (hK (kh3 (k+1))))])∧True)) (by kernel_rfl) (by kernel_rfl) ?_
       refine⟨⟨rfl,rfl,rfl,rfl,rfl,trivial⟩,?_,trivial⟩
       have e1:hK (kh3 (k+1))=putH (.int .i64 (kl3.getD k 0)) (hK (kh3 k)):=by
        unfold kh3
        rw[take_cons (show k<kl3.length from hk2)];rfl
       rw[e1]
       refine congrArg (fun f=>some [AV.mp (some .i64) f (putH (.int .i64 (kl3.getD k 0)) (hK (kh3 k)))]) ?_
       rw[←kC3 (wrD l ws) hk2]
       exact putF_kF _ _
      ·have h1:=of_decide_eq_false h1
       obtain rfl:k=3:=by omega
       refine walk (orc:=orcK1) (keep:=[]) (cuts:=[]) (n:=1000) follows ?_
       refine of_tr (fun _ _ _ _=>(ZS ((kdM (wrD l ws)):DV))) (by kernel_rfl) ?_
       rfl
/-! The kind of an expression. -/
abbrev KR:=Int×Int×Int
def badR:List KR→Option (Int×Int)
 | []=>none
 | r :: l=>if r.2.2≠0 then some r.2 else badR l
def apK (l:List Fc) (ws:List ByteArray) (k:Int) (s:ByteArray) (ks:List Int) (n0 n1:ByteArray):Int×Int:=
 if k=1 then (0,0) else if k=3 then (1,0) else if k=4 then (1,0) else if k=2 then nmK l ws s
 else if k=12∨k=13 then (if cmK l n0 n1 (ks.getD 0 0) (ks.getD 1 0) then 1 else 0,if cmK l n0 n1 (ks.getD 0 0) (ks.getD 1 0) then 0 else 5)
 else if k<12 then (kxA ks 0 0,kxE ks 0) else if k<18 then (kxA ks 0 1,kxE ks 0) else (kxA ks 1 1,kxE ks 1)
def tyC (l:List Fc) (ws:List ByteArray) (k:Int) (s:ByteArray) (pos:Int) (rs:List KR) (n0 n1:ByteArray):KR:=match badR rs with
 | some p=>(0,p)
 | none=>((apK l ws k s (rs.map (·.1)) n0 n1).1,pos,(apK l ws k s (rs.map (·.1)) n0 n1).2)
mutual
def tyE (l:List Fc) (ws:List ByteArray):Ex→KR
 | .mk k s _ _ pos kids=>tyC l ws k s pos (tyL l ws kids) (kids.getD 0 ex0).s (kids.getD 1 ex0).s
def tyL (l:List Fc) (ws:List ByteArray):List Ex→List KR
 | []=>[]
 | x :: r=>tyE l ws x :: tyL l ws r
end
theorem tyE_eq (l:List Fc) (ws:List ByteArray) (x:Ex):tyE l ws x=tyC l ws x.k x.s x.pos (tyL l ws x.kids) (x.kids.getD 0 ex0).s (x.kids.getD 1 ex0).s:=by cases x;simp only[tyE,Ex.k,Ex.s,Ex.pos,Ex.kids]
theorem tyL_map (l:List Fc) (ws:List ByteArray):∀r:List Ex,tyL l ws r=r.map (tyE l ws)
 | []=>rfl
 | x :: r=>by simp only[tyL,List.map_cons,tyL_map l ws r]
theorem bad_hit {R:List KR} {k:Nat} {r0:KR} (hk:k<R.length) (hno:∀i,i<k→(R.getD i r0).2.2=0) (h:(R.getD k r0).2.2≠0):badR R=some (R.getD k r0).2:=by
 induction R generalizing k with
 | nil=>simp at hk
 | cons r R ih=>
  cases k with
  | zero=>
   have h:r.2.2≠0:=h
   unfold badR
   rw[if_pos h];rfl
  | succ k=>
   have h0:r.2.2=0:=hno 0 (by omega)
   unfold badR
   rw[if_neg (by omega)]
   exact ih (by simpa using hk) (fun i hi=>by simpa using hno (i+1) (by omega)) (by simpa using h)
theorem bad_none {R:List KR} {r0:KR} (hno:∀i,i<R.length→(R.getD i r0).2.2=0):badR R=none:=by
 induction R with
 | nil=>rfl
 | cons r R ih=>
  have h0:r.2.2=0:=hno 0 (by simp)
  unfold badR
  rw[if_neg (by omega)]
  exact ih fun i hi=>by simpa using hno (i+1) (by simpa using hi)
noncomputable def orcKn (l:List Fc) (ws:List ByteArray):Oracle:=fun f a=>match f,a with
 | 73,[_,e,_]=>some (.tup [di (tyE l ws (rdE e)).1,.agg [di (tyE l ws (rdE e)).2.1,di (tyE l ws (rdE e)).2.2]])
 | 125,[_,_,.ptr [.con (.int .i64 v)]]=>some (.tup [di v,di 0])
 | 129,[_,e,_]=>some (.tup [di (nmK l ws (rdE e).s).1,di (nmK l ws (rdE e).s).2])
 | 130,[_,e,ks]=>some (.tup [di (if cmK l ((rdE e).kids.getD 0 ex0).s ((rdE e).kids.getD 1 ex0).s ((rdL ks).getD 0 0) ((rdL ks).getD 1 0) then 1 else 0),di (if cmK l ((rdE e).kids.getD 0 ex0).s ((rdE e).kids.getD 1 ex0).s ((rdL ks).getD 0 0) ((rdL ks).getD 1 0) then 0 else 5)])
 | 127,[_,ks,.ptr [.con (.int .i64 a)],.ptr [.con (.int .i64 b)]]=>some (.tup [di (kxA (rdL ks) a b),di (kxE (rdL ks) a)])
 | _,_=>none
abbrev itK:RK:=⟨false,3,false,none⟩
def rowK (l:List Fc) (ws:List ByteArray) (x:Ex):Nat→Nat→DV:=rowRec (fun _=>DV.con undef) false 1 fun j=>[di (tyE l ws (x.kids.getD j ex0)).1]
theorem rowK_next {l:List Fc} {ws:List ByteArray} {x:Ex} (k:Nat) {d:DV} (h:d=di (tyE l ws (x.kids.getD k ex0)).1):(fun i=>bif Nat.blt i k then rowK l ws x k i else elemF false 1 [d] (i-k))=rowK l ws x (k+1):=by
 subst h;rfl
theorem tyL_get {l:List Fc} {ws:List ByteArray} {r:List Ex} {i:Nat} (hi:i<r.length):(tyL l ws r).getD i (0,0,0)=tyE l ws (r.getD i ex0):=by
 rw[tyL_map,List.getD,List.getElem?_map,gEe hi,List.getD,gEe hi];rfl
theorem mk_k (k:Int) (s:ByteArray) (n d p:Int) (l:List Ex):(Ex.mk k s n d p l).k=k:=rfl
theorem mk_s (k:Int) (s:ByteArray) (n d p:Int) (l:List Ex):(Ex.mk k s n d p l).s=s:=rfl
theorem mk_n (k:Int) (s:ByteArray) (n d p:Int) (l:List Ex):(Ex.mk k s n d p l).n=n:=rfl
theorem mk_d (k:Int) (s:ByteArray) (n d p:Int) (l:List Ex):(Ex.mk k s n d p l).d=d:=rfl
theorem mk_p (k:Int) (s:ByteArray) (n d p:Int) (l:List Ex):(Ex.mk k s n d p l).pos=p:=rfl
theorem mk_l (k:Int) (s:ByteArray) (n d p:Int) (l:List Ex):(Ex.mk k s n d p l).kids=l:=rfl
noncomputable def S42 (l:List Fc) (ws:List ByteArray) (m:Nat) (x:Ex) (k:Nat):AS:=⟨regs Tryz.f73.ntmps [(0,.d (wrD l ws)),(2,.d (kdM (wrD l ws))),(4,.box 4 0),(7,.box 7 0),(8,.vec 900 1 0 k),(16,.d (.slc 6 x.kids.length (lay (exG m) x.kids))),(17,vi x.kids.length),(18,vi k)],[(4,exC m x),(7,[vi 0,vi 0]),(900,[.arr itK 1 (rowK l ws x k)])]⟩
theorem f73 (l:List Fc) (ws:List ByteArray) (hl:∀v,(fM l v).words.length≤100000) (m:Nat):∀(x:Ex),ht x≤m→Sm x→sndE x=true→FnOK Tryz.prog G 73 [wrD l ws,exD m x,kdM (wrD l ws)] (.tup [di (tyE l ws x).1,.agg [di (tyE l ws x).2.1,di (tyE l ws x).2.2]]):=by
 induction m using Nat.strongRecOn with
 | _ m ih=>
 intro x hx hs hsn
 have hlen:=hs.len.1
 have h42:∀i,i<x.kids.length→FnOK Tryz.prog G 73 [wrD l ws,kidA m x i,kdM (wrD l ws)] (.tup [di (tyE l ws (x.kids.getD i ex0)).1,.agg [di (tyE l ws (x.kids.getD i ex0)).2.1,di (tyE l ws (x.kids.getD i ex0)).2.2]]):=fun i hi=>
  kidOK (Q:=fun d=>FnOK Tryz.prog G 73 [wrD l ws,d,kdM (wrD l ws)] _) hx hi fun m' h1 h2=>ih m' h1 _ h2 (hs.kid hi) (snd_kid hsn hi)
 refine FnOK.walk (orc:=orcKn l ws) (keep:=[]) follows Tryz.func73 rfl Tryz.call73 ?_
 refine of_tr (fun ZT ZW ZQ _=>ZW [cd Tryz.f73 [1,1,0,1,0],(.blk 0),cd Tryz.f73 [1,1,1]] (stS ZT []) ZQ) (by kernel_rfl) ?_
 refine AWP.pre (.nilRow _ 8 900 1 itK (rowK l ws x 0) (by kernel_rfl) (by kernel_rfl)) ?_
 refine AWP.loop (c:=cAt (bodyOf Tryz.f73) [1,1,0,1,0,0]) (by kernel_rfl) (S42 l ws m x) (fun k=>k≤x.kids.length∧∀i,i<k→(tyE l ws (x.kids.getD i ex0)).2.2=0) (fun k=>x.kids.length-k) 0 ?_ ⟨Nat.zero_le _,fun i hi=>absurd hi (Nat.not_lt_zero _)⟩ ?_
 ·exact AS.leA (by kernel_rfl)
 ·rintro k ⟨hk,hkd⟩
  refine walk (orc:=orcKn l ws) (keep:=[]) (cuts:=[]) (n:=1000) follows ?_
  refine of_eqH6 (tyE l ws (rdE (ndA m (x.kids.getD (↑k:Int).toNat ex0)))) (x.kids.getD (↑k:Int).toNat ex0) ((.ptr [(.mp none (fV l) (fH l)),(.mp none (wV ws) (wL ws))]):DV) ((.d (.slc 6 x.kids.length (lay (exG m) x.kids))):AV) (decide ((↑k:Int)<↑x.kids.length)) ((.d (.mp (some .i64) (kF (wrD l ws)) (hK (kh3 3)))):AV) (fun Za Zb Zc Zd Ze Zf=>(((Ze=true)→(((0≤(↑k:Int))∧((↑k:Int)<↑x.kids.length))∧FnOK Tryz.prog G 73 [Zc,(ndA m Zb),(.mp (some .i64) (kF (wrD l ws)) (hK (kh3 3)))] (.tup [(di Za.fst),(.agg [(di Za.snd.fst),(di Za.snd.snd)])])∧(((Za.snd.snd != 0)=true)→(((.tup [(di 0),(.agg [(di Za.snd.fst),(di Za.snd.snd)])]):DV)=(.tup [(di (tyE l ws x).fst),(.agg [(di (tyE l ws x).snd.fst),(di (tyE l ws x).snd.snd)])])))∧(((Za.snd.snd != 0)=false)→(((((k+1)*8≤1099511627776)∧(k+1≤1099511627776))∧(∀(i:Nat),i<1→elemOK false 1 (elemF false 1 [di Za.fst] i)=true))∧(I64 (↑k+1))∧Again (S42 l ws m x) (fun k=>k≤x.kids.length∧∀(i:Nat),i<k→(tyE l ws (x.kids.getD i ex0)).snd.snd=0) (fun k=>x.kids.length-k) k ⟨regs 53 [(0,(.d Zc)),(2,Zf),(4,(.box 4 0)),(7,(.box 7 0)),(8,(.vec 36 1 0 (k+1))),(10,(.box 10 0)),(11,(vi Za.fst)),(12,(.box 12 0)),(16,Zd),(17,(vi (↑x.kids.length))),(18,(vi (↑k+1))),(19,(vb Ze)),(20,(.d (.ptr [(di Zb.k),(ds Zb.s),(di Zb.n),(di Zb.d),(di Zb.pos),(.slc 6 Zb.kids.length (exG m Zb.kids))]))),(21,(.d (ndA m Zb))),(22,(.d (.tup [(di Za.fst),(.agg [(di Za.snd.fst),(di Za.snd.snd)])]))),(23,(.d Zc)),(24,(.d (ndA m Zb))),(25,Zf),(26,(.d (.tup [(di Za.fst),(.agg [(di Za.snd.fst),(di Za.snd.snd)])]))),(27,(vi Za.fst)),(28,(.d (.agg [(di Za.snd.fst),(di Za.snd.snd)]))),(29,(.box 12 1)),(30,(vi Za.snd.snd)),(31,(vb (Za.snd.snd != 0))),(33,(.vec 900 1 0 k)),(34,(vi Za.fst)),(35,(.d (.slc 1 1 (elemF false 1 [(di Za.fst)])))),(36,(.vec 36 1 0 (k+1))),(37,(vi (↑k+1)))],[(36,[(.arr ⟨false,3,false,none⟩ 1 (fun i=>bif i.blt k then rowK l ws x k i else elemF false 1 [di Za.fst] (i-k)))]),(12,[(vi Za.snd.fst),(vi Za.snd.snd)]),(10,[(vi Zb.k),(vs Zb.s),(vi Zb.n),(vi Zb.d),(vi Zb.pos),(.d (.slc 6 Zb.kids.length (exG m Zb.kids)))]),(4,[(vi x.k),(vs x.s),(vi x.n),(vi x.d),(vi x.pos),Zd]),(7,[(vi 0),(vi 0)]),(900,[.dead])]⟩))))∧((Ze=false)→AWP Tryz.prog G [cd Tryz.f73 [1,1,1]] ⟨regs 53 [(0,(.d Zc)),(2,Zf),(4,(.box 4 0)),(7,(.box 7 0)),(8,(.vec 900 1 0 k)),(16,Zd),(17,(vi (↑x.kids.length))),(18,(vi (↑k))),(19,(vb Ze))],[(4,[(vi x.k),(vs x.s),(vi x.n),(vi x.d),(vi x.pos),Zd]),(7,[(vi 0),(vi 0)]),(900,[(.arr ⟨false,3,false,none⟩ 1 (rowK l ws x k))])]⟩ (Ret Tryz.prog Tryz.f73 (DV.tup [di (tyE l ws x).fst,DV.agg [di (tyE l ws x).snd.fst,di (tyE l ws x).snd.snd]]))))) (by kernel_rfl) ?_
  simp only[iTn]
  refine⟨fun h=>?_,fun h=>?_⟩
  ·have hk2:k<x.kids.length:=by have:=oDt h;omega
   have er:rdE (kidA m x k)=x.kids.getD k ex0:=kid_rd hx hk2
   have hh:=h42 k hk2
   simp only[er]
   refine⟨⟨by omega,by omega⟩,hh,fun h2=>?_,fun h2=>⟨⟨⟨by omega,by omega⟩,fun i hi=>(by obtain rfl:i=0:=(by omega);rfl)⟩,⟨by omega,by omega⟩,Again.mkR [(36,900)] rfl (k+1) ?_ ⟨hk2,fun i hi=>?_⟩ (by omega)⟩⟩
   ·have h2:(tyE l ws (x.kids.getD k ex0)).2.2≠0:=by simpa using h2
    have hb:=bad_hit (R:=tyL l ws x.kids) (r0:=(0,0,0)) (k:=k) (by rw[tyL_map,List.length_map];exact hk2) (fun i hi=>by rw[tyL_get (by omega)];exact hkd i hi) (by rw[tyL_get hk2];exact h2)
    rw[tyL_get hk2] at hb
    rw[tyE_eq l ws x]
    unfold tyC
    rw[hb]
   ·refine of_eq1 ((.d (.slc 6 x.kids.length (lay (exG m) x.kids))):AV) (fun Za=>((((.d (.ptr [(.mp none (fV l) (fH l)),(.mp none (wV ws) (wL ws))])):AV)=(.d (.ptr [(.mp none (fV l) (fH l)),(.mp none (wV ws) (wL ws))]))∧((.d (.mp (some .i64) (kF (wrD l ws)) (hK (kh3 3)))):AV)=(.d (.mp (some .i64) (kF (wrD l ws)) (hK (kh3 3))))∧((.box 4 0):AV)=(.box 4 0)∧((.box 7 0):AV)=(.box 7 0)∧((.vec 900 1 0 (k+1)):AV)=(.vec 900 1 0 (k+1))∧(Za:AV)=Za∧((vi (↑x.kids.length)):AV)=(vi (↑x.kids.length))∧((vi (↑k+1)):AV)=(vi (↑(k+1)))∧True)∧((some [(vi x.k),(vs x.s),(vi x.n),(vi x.d),(vi x.pos),Za]):(Option (List AV)))=(some [(vi x.k),(vs x.s),(vi x.n),(vi x.d),(vi x.pos),Za])∧((some [(vi 0),(vi 0)]):(Option (List AV)))=(some [(vi 0),(vi 0)])∧((some [(.arr ⟨false,3,false,none⟩ 1 (fun i=>bif i.blt k then rowK l ws x k i else elemF false 1 [DV.con (Value.int IntKind.i64 (tyE l ws (x.kids.getD k ex0)).fst)] (i-k)))]):(Option (List AV)))=(some [(.arr ⟨false,3,false,none⟩ 1 (rowK l ws x (k+1)))])∧True)) (by kernel_rfl) ?_
    refine⟨⟨rfl,rfl,rfl,rfl,rfl,rfl,rfl,rfl,trivial⟩,rfl,rfl,?_,trivial⟩
    exact congrArg (fun f=>some [AV.arr itK 1 f]) (rowK_next k rfl)
   ·rcases Nat.lt_or_ge i k with h4|h4
    ·exact hkd i h4
    ·obtain rfl:i=k:=by omega
     simpa using h2
  ·simp only[decide_eq_false_iff_not] at h
   obtain rfl:k=x.kids.length:=by omega
   have hb:badR (tyL l ws x.kids)=none:=bad_none (r0:=(0,0,0)) fun i hi=>by
    have hi:i<x.kids.length:=by rw[tyL_map,List.length_map] at hi;exact hi
    rw[tyL_get hi];exact hkd i hi
   have ety:tyE l ws x=((apK l ws x.k x.s ((tyL l ws x.kids).map (·.1)) (x.kids.getD 0 ex0).s (x.kids.getD 1 ex0).s).1,x.pos,(apK l ws x.k x.s ((tyL l ws x.kids).map (·.1)) (x.kids.getD 0 ex0).s (x.kids.getD 1 ex0).s).2):=by
    rw[tyE_eq l ws x]
    unfold tyC
    rw[hb]
   have hKl:((tyL l ws x.kids).map (·.1)).length=x.kids.length:=by rw[tyL_map,List.length_map,List.length_map]
   have hrow:∀i,i<x.kids.length→rowK l ws x x.kids.length (0+i)=inF ((tyL l ws x.kids).map (·.1)) i:=fun i hi=>by
    rw[Nat.zero_add]
    unfold rowK inF
    rw[rowRec_get hi,tyL_map,List.map_map]
    show di (tyE l ws (x.kids.getD i ex0)).1=_
    rw[List.getD,List.getD,List.getElem?_map,gEe hi];rfl
   rw[ety]
   refine AWP.freeze (agg:=itK) (sz:=1) (f:=rowK l ws x x.kids.length) 900 (by kernel_rfl) ?_
   refine AWP.pre (.reg _ 8 (.d (inD ((tyL l ws x.kids).map (·.1)))) fun β h v hv=>?_) ?_
   ·have hv:DV.rel h (.slc 1 x.kids.length fun i=>rowK l ws x x.kids.length (0+i)) v:=hv
    show DV.rel h (.slc 1 ((tyL l ws x.kids).map (·.1)).length _) v
    rw[hKl]
    exact DV.rel_slc_congr hrow hv
   have hrk:=snd_rk hsn
   have hone:=@snd_one x hsn
   have htwo:=@snd_two x hsn
   have e42:rdE (exV x.k x.s x.n x.d x.pos x.kids.length (lay (exG m) x.kids))=x:=rdE_eq hx
   clear ety hrow hb hkd h42 ih hk h
   generalize (tyL l ws x.kids).map (·.1)=KS at *
   have hc:x.k=1∨x.k=2∨x.k=3∨x.k=4∨x.k=5∨x.k=6∨x.k=7∨x.k=8∨x.k=9∨x.k=10∨x.k=11∨x.k=12∨x.k=13∨x.k=14∨x.k=15∨x.k=16∨x.k=17∨x.k=18∨x.k=19∨x.k=20:=by
    refine Classical.byContradiction fun hn=>hrk ?_
    unfold rkI
    repeat' split
    all_goals omega
   clear hrk
   obtain ⟨xk,xs,xn,xd,xp,xl⟩:=x
   simp only[mk_k,mk_l,mk_s,mk_p,mk_n,mk_d] at hone htwo hKl hlen hc e42⊢
   rcases hc with rfl|rfl|rfl|rfl|rfl|rfl|rfl|rfl|rfl|rfl|rfl|rfl|rfl|rfl|rfl|rfl|rfl|rfl|rfl|rfl
   ·refine walkK (orc:=orcKn l ws) (keep:=[]) (cuts:=[]) (n:=1000) follows ?_
    refine of_tr (fun _ _ _ ZK=>((((true=false)→((DV.con Value.nilFunc).imp (kF (wrD l ws) (Value.int IntKind.i64 1))))∧ZK 125 [(.agg [(di 1),(ds xs),(di xn),(di xd),(di xp),(.slc 6 xl.length (lay (exG m) xl))]),(.slc 1 KS.length (inF KS)),(.ptr [(di 0)])] (.tup [(di 0),(di 0)]))∧((.tup [(di 0),(.agg [(di xp),(di 0)])]):DV)=(.tup [(di (apK l ws 1 xs KS (xl.getD 0 ex0).s (xl.getD 1 ex0).s).fst),(.agg [(di xp),(di (apK l ws 1 xs KS (xl.getD 0 ex0).s (xl.getD 1 ex0).s).snd)])]))) (by kernel_rfl) ?_
    refine⟨⟨fun h=>(by cases h),f125 m (.mk _ xs xn xd xp xl) KS _⟩,?_⟩
    rfl
   ·refine walkK (orc:=orcKn l ws) (keep:=[]) (cuts:=[]) (n:=1000) follows ?_
    refine of_eqH1 (nmK l ws (rdE (DV.agg [di 2,ds xs,di xn,di xd,di xp,DV.slc 6 xl.length (lay (exG m) xl)])).s) (fun Za=>((((true=false)→((DV.con Value.nilFunc).imp (kF (wrD l ws) (Value.int IntKind.i64 2))))∧FnOK Tryz.prog G 129 [(.ptr [(.mp none (fV l) (fH l)),(.mp none (wV ws) (wL ws))]),(.agg [(di 2),(ds xs),(di xn),(di xd),(di xp),(.slc 6 xl.length (lay (exG m) xl))]),(.slc 1 KS.length (inF KS))] (.tup [(di Za.fst),(di Za.snd)]))∧((.tup [(di Za.fst),(.agg [(di xp),(di Za.snd)])]):DV)=(.tup [(di (apK l ws 2 xs KS (xl.getD 0 ex0).s (xl.getD 1 ex0).s).fst),(.agg [(di xp),(di (apK l ws 2 xs KS (xl.getD 0 ex0).s (xl.getD 1 ex0).s).snd)])]))) (by kernel_rfl) ?_
    simp only[rdL_eq,e42,mk_s]
    refine⟨⟨fun h=>(by cases h),f129 l ws m (.mk _ xs xn xd xp xl) KS⟩,?_⟩
    rfl
   ·refine walkK (orc:=orcKn l ws) (keep:=[]) (cuts:=[]) (n:=1000) follows ?_
    refine of_tr (fun _ _ _ ZK=>((((true=false)→((DV.con Value.nilFunc).imp (kF (wrD l ws) (Value.int IntKind.i64 3))))∧ZK 125 [(.agg [(di 3),(ds xs),(di xn),(di xd),(di xp),(.slc 6 xl.length (lay (exG m) xl))]),(.slc 1 KS.length (inF KS)),(.ptr [(di 1)])] (.tup [(di 1),(di 0)]))∧((.tup [(di 1),(.agg [(di xp),(di 0)])]):DV)=(.tup [(di (apK l ws 3 xs KS (xl.getD 0 ex0).s (xl.getD 1 ex0).s).fst),(.agg [(di xp),(di (apK l ws 3 xs KS (xl.getD 0 ex0).s (xl.getD 1 ex0).s).snd)])]))) (by kernel_rfl) ?_
    refine⟨⟨fun h=>(by cases h),f125 m (.mk _ xs xn xd xp xl) KS _⟩,?_⟩
    rfl
   ·refine walkK (orc:=orcKn l ws) (keep:=[]) (cuts:=[]) (n:=1000) follows ?_
    refine of_tr (fun _ _ _ ZK=>((((true=false)→((DV.con Value.nilFunc).imp (kF (wrD l ws) (Value.int IntKind.i64 4))))∧ZK 125 [(.agg [(di 4),(ds xs),(di xn),(di xd),(di xp),(.slc 6 xl.length (lay (exG m) xl))]),(.slc 1 KS.length (inF KS)),(.ptr [(di 1)])] (.tup [(di 1),(di 0)]))∧((.tup [(di 1),(.agg [(di xp),(di 0)])]):DV)=(.tup [(di (apK l ws 4 xs KS (xl.getD 0 ex0).s (xl.getD 1 ex0).s).fst),(.agg [(di xp),(di (apK l ws 4 xs KS (xl.getD 0 ex0).s (xl.getD 1 ex0).s).snd)])]))) (by kernel_rfl) ?_
    refine⟨⟨fun h=>(by cases h),f125 m (.mk _ xs xn xd xp xl) KS _⟩,?_⟩
    rfl
   ·refine walkK (orc:=orcKn l ws) (keep:=[]) (cuts:=[]) (n:=1000) follows ?_
    refine of_tr (fun _ _ _ ZK=>(fun Za=>((((true=false)→((DV.con Value.nilFunc).imp (kF (wrD l ws) (Value.int IntKind.i64 5))))∧ZK 127 [(.agg [(di 5),(ds xs),(di xn),(di xd),(di xp),(.slc 6 xl.length (lay (exG m) xl))]),(.slc 1 KS.length (inF KS)),(.ptr [(di 0)]),(.ptr [(di 0)])] (.tup [(di (kxA Za 0 0)),(di (kxE Za 0))]))∧((.tup [(di (kxA Za 0 0)),(.agg [(di xp),(di (kxE Za 0))])]):DV)=(.tup [(di (apK l ws 5 xs KS (xl.getD 0 ex0).s (xl.getD 1 ex0).s).fst),(.agg [(di xp),(di (apK l ws 5 xs KS (xl.getD 0 ex0).s (xl.getD 1 ex0).s).snd)])]))) (rdL (DV.slc 1 KS.length (inF KS)))) (by kernel_rfl) ?_
    simp only[rdL_eq]
    refine⟨⟨fun h=>(by cases h),f127 m (.mk _ xs xn xd xp xl) KS _ _ (by omega)⟩,?_⟩
    rfl
   ·refine walkK (orc:=orcKn l ws) (keep:=[]) (cuts:=[]) (n:=1000) follows ?_
    refine of_tr (fun _ _ _ ZK=>(fun Za=>((((true=false)→((DV.con Value.nilFunc).imp (kF (wrD l ws) (Value.int IntKind.i64 6))))∧ZK 127 [(.agg [(di 6),(ds xs),(di xn),(di xd),(di xp),(.slc 6 xl.length (lay (exG m) xl))]),(.slc 1 KS.length (inF KS)),(.ptr [(di 0)]),(.ptr [(di 0)])] (.tup [(di (kxA Za 0 0)),(di (kxE Za 0))]))∧((.tup [(di (kxA Za 0 0)),(.agg [(di xp),(di (kxE Za 0))])]):DV)=(.tup [(di (apK l ws 6 xs KS (xl.getD 0 ex0).s (xl.getD 1 ex0).s).fst),(.agg [(di xp),(di (apK l ws 6 xs KS (xl.getD 0 ex0).s (xl.getD 1 ex0).s).snd)])]))) (rdL (DV.slc 1 KS.length (inF KS)))) (by kernel_rfl) ?_
    simp only[rdL_eq]
    refine⟨⟨fun h=>(by cases h),f127 m (.mk _ xs xn xd xp xl) KS _ _ (by omega)⟩,?_⟩
    rfl
   ·refine walkK (orc:=orcKn l ws) (keep:=[]) (cuts:=[]) (n:=1000) follows ?_
    refine of_tr (fun _ _ _ ZK=>(fun Za=>((((true=false)→((DV.con Value.nilFunc).imp (kF (wrD l ws) (Value.int IntKind.i64 7))))∧ZK 127 [(.agg [(di 7),(ds xs),(di xn),(di xd),(di xp),(.slc 6 xl.length (lay (exG m) xl))]),(.slc 1 KS.length (inF KS)),(.ptr [(di 0)]),(.ptr [(di 0)])] (.tup [(di (kxA Za 0 0)),(di (kxE Za 0))]))∧((.tup [(di (kxA Za 0 0)),(.agg [(di xp),(di (kxE Za 0))])]):DV)=(.tup [(di (apK l ws 7 xs KS (xl.getD 0 ex0).s (xl.getD 1 ex0).s).fst),(.agg [(di xp),(di (apK l ws 7 xs KS (xl.getD 0 ex0).s (xl.getD 1 ex0).s).snd)])]))) (rdL (DV.slc 1 KS.length (inF KS)))) (by kernel_rfl) ?_
    simp only[rdL_eq]
    refine⟨⟨fun h=>(by cases h),f127 m (.mk _ xs xn xd xp xl) KS _ _ (by omega)⟩,?_⟩
    rfl
   ·refine walkK (orc:=orcKn l ws) (keep:=[]) (cuts:=[]) (n:=1000) follows ?_
    refine of_tr (fun _ _ _ ZK=>(fun Za=>((((true=false)→((DV.con Value.nilFunc).imp (kF (wrD l ws) (Value.int IntKind.i64 8))))∧ZK 127 [(.agg [(di 8),(ds xs),(di xn),(di xd),(di xp),(.slc 6 xl.length (lay (exG m) xl))]),(.slc 1 KS.length (inF KS)),(.ptr [(di 0)]),(.ptr [(di 0)])] (.tup [(di (kxA Za 0 0)),(di (kxE Za 0))]))∧((.tup [(di (kxA Za 0 0)),(.agg [(di xp),(di (kxE Za 0))])]):DV)=(.tup [(di (apK l ws 8 xs KS (xl.getD 0 ex0).s (xl.getD 1 ex0).s).fst),(.agg [(di xp),(di (apK l ws 8 xs KS (xl.getD 0 ex0).s (xl.getD 1 ex0).s).snd)])]))) (rdL (DV.slc 1 KS.length (inF KS)))) (by kernel_rfl) ?_
    simp only[rdL_eq]
    refine⟨⟨fun h=>(by cases h),f127 m (.mk _ xs xn xd xp xl) KS _ _ (by omega)⟩,?_⟩
    rfl
   ·refine walkK (orc:=orcKn l ws) (keep:=[]) (cuts:=[]) (n:=1000) follows ?_
    refine of_tr (fun _ _ _ ZK=>(fun Za=>((((true=false)→((DV.con Value.nilFunc).imp (kF (wrD l ws) (Value.int IntKind.i64 9))))∧ZK 127 [(.agg [(di 9),(ds xs),(di xn),(di xd),(di xp),(.slc 6 xl.length (lay (exG m) xl))]),(.slc 1 KS.length (inF KS)),(.ptr [(di 0)]),(.ptr [(di 0)])] (.tup [(di (kxA Za 0 0)),(di (kxE Za 0))]))∧((.tup [(di (kxA Za 0 0)),(.agg [(di xp),(di (kxE Za 0))])]):DV)=(.tup [(di (apK l ws 9 xs KS (xl.getD 0 ex0).s (xl.getD 1 ex0).s).fst),(.agg [(di xp),(di (apK l ws 9 xs KS (xl.getD 0 ex0).s (xl.getD 1 ex0).s).snd)])]))) (rdL (DV.slc 1 KS.length (inF KS)))) (by kernel_rfl) ?_
    simp only[rdL_eq]
    refine⟨⟨fun h=>(by cases h),f127 m (.mk _ xs xn xd xp xl) KS _ _ (by omega)⟩,?_⟩
    rfl
   ·refine walkK (orc:=orcKn l ws) (keep:=[]) (cuts:=[]) (n:=1000) follows ?_
    refine of_tr (fun _ _ _ ZK=>(fun Za=>((((true=false)→((DV.con Value.nilFunc).imp (kF (wrD l ws) (Value.int IntKind.i64 10))))∧ZK 127 [(.agg [(di 10),(ds xs),(di xn),(di xd),(di xp),(.slc 6 xl.length (lay (exG m) xl))]),(.slc 1 KS.length (inF KS)),(.ptr [(di 0)]),(.ptr [(di 0)])] (.tup [(di (kxA Za 0 0)),(di (kxE Za 0))]))∧((.tup [(di (kxA Za 0 0)),(.agg [(di xp),(di (kxE Za 0))])]):DV)=(.tup [(di (apK l ws 10 xs KS (xl.getD 0 ex0).s (xl.getD 1 ex0).s).fst),(.agg [(di xp),(di (apK l ws 10 xs KS (xl.getD 0 ex0).s (xl.getD 1 ex0).s).snd)])]))) (rdL (DV.slc 1 KS.length (inF KS)))) (by kernel_rfl) ?_
    simp only[rdL_eq]
    refine⟨⟨fun h=>(by cases h),f127 m (.mk _ xs xn xd xp xl) KS _ _ (by omega)⟩,?_⟩
    rfl
   ·refine walkK (orc:=orcKn l ws) (keep:=[]) (cuts:=[]) (n:=1000) follows ?_
    refine of_tr (fun _ _ _ ZK=>(fun Za=>((((true=false)→((DV.con Value.nilFunc).imp (kF (wrD l ws) (Value.int IntKind.i64 11))))∧ZK 127 [(.agg [(di 11),(ds xs),(di xn),(di xd),(di xp),(.slc 6 xl.length (lay (exG m) xl))]),(.slc 1 KS.length (inF KS)),(.ptr [(di 0)]),(.ptr [(di 0)])] (.tup [(di (kxA Za 0 0)),(di (kxE Za 0))]))∧((.tup [(di (kxA Za 0 0)),(.agg [(di xp),(di (kxE Za 0))])]):DV)=(.tup [(di (apK l ws 11 xs KS (xl.getD 0 ex0).s (xl.getD 1 ex0).s).fst),(.agg [(di xp),(di (apK l ws 11 xs KS (xl.getD 0 ex0).s (xl.getD 1 ex0).s).snd)])]))) (rdL (DV.slc 1 KS.length (inF KS)))) (by kernel_rfl) ?_
    simp only[rdL_eq]
    refine⟨⟨fun h=>(by cases h),f127 m (.mk _ xs xn xd xp xl) KS _ _ (by omega)⟩,?_⟩
    rfl
   ·refine walkK (orc:=orcKn l ws) (keep:=[]) (cuts:=[]) (n:=1000) follows ?_
    refine of_eqH2 (rdE (DV.agg [di 12,ds xs,di xn,di xd,di xp,DV.slc 6 xl.length (lay (exG m) xl)])) (rdL (DV.slc 1 KS.length (inF KS))) (fun Za Zb=>((((true=false)→((DV.con Value.nilFunc).imp (kF (wrD l ws) (Value.int IntKind.i64 12))))∧FnOK Tryz.prog G 130 [(.ptr [(.mp none (fV l) (fH l)),(.mp none (wV ws) (wL ws))]),(.agg [(di 12),(ds xs),(di xn),(di xd),(di xp),(.slc 6 xl.length (lay (exG m) xl))]),(.slc 1 KS.length (inF KS))] (.tup [(di (if cmK l (Za.kids.getD 0 ex0).s (Za.kids.getD 1 ex0).s (Zb.getD 0 0) (Zb.getD 1 0)=true then 1 else 0)),(di (if cmK l (Za.kids.getD 0 ex0).s (Za.kids.getD 1 ex0).s (Zb.getD 0 0) (Zb.getD 1 0)=true then 0 else 5))]))∧((.tup [(di (if cmK l (Za.kids.getD 0 ex0).s (Za.kids.getD 1 ex0).s (Zb.getD 0 0) (Zb.getD 1 0)=true then 1 else 0)),(.agg [(di xp),(di (if cmK l (Za.kids.getD 0 ex0).s (Za.kids.getD 1 ex0).s (Zb.getD 0 0) (Zb.getD 1 0)=true then 0 else 5))])]):DV)=(.tup [(di (apK l ws 12 xs KS (xl.getD 0 ex0).s (xl.getD 1 ex0).s).fst),(.agg [(di xp),(di (apK l ws 12 xs KS (xl.getD 0 ex0).s (xl.getD 1 ex0).s).snd)])]))) (by kernel_rfl) ?_
    simp only[rdL_eq,e42,mk_s,mk_l]
    have h2:=(htwo (by decide)).1
    refine⟨⟨fun h=>(by cases h),f130 l ws m (.mk _ xs xn xd xp xl) KS hx (by omega) (by rw[mk_l];omega) hl⟩,?_⟩
    rfl
   ·refine walkK (orc:=orcKn l ws) (keep:=[]) (cuts:=[]) (n:=1000) follows ?_
    refine of_eqH2 (rdE (DV.agg [di 13,ds xs,di xn,di xd,di xp,DV.slc 6 xl.length (lay (exG m) xl)])) (rdL (DV.slc 1 KS.length (inF KS))) (fun Za Zb=>((((true=false)→((DV.con Value.nilFunc).imp (kF (wrD l ws) (Value.int IntKind.i64 13))))∧FnOK Tryz.prog G 130 [(.ptr [(.mp none (fV l) (fH l)),(.mp none (wV ws) (wL ws))]),(.agg [(di 13),(ds xs),(di xn),(di xd),(di xp),(.slc 6 xl.length (lay (exG m) xl))]),(.slc 1 KS.length (inF KS))] (.tup [(di (if cmK l (Za.kids.getD 0 ex0).s (Za.kids.getD 1 ex0).s (Zb.getD 0 0) (Zb.getD 1 0)=true then 1 else 0)),(di (if cmK l (Za.kids.getD 0 ex0).s (Za.kids.getD 1 ex0).s (Zb.getD 0 0) (Zb.getD 1 0)=true then 0 else 5))]))∧((.tup [(di (if cmK l (Za.kids.getD 0 ex0).s (Za.kids.getD 1 ex0).s (Zb.getD 0 0) (Zb.getD 1 0)=true then 1 else 0)),(.agg [(di xp),(di (if cmK l (Za.kids.getD 0 ex0).s (Za.kids.getD 1 ex0).s (Zb.getD 0 0) (Zb.getD 1 0)=true then 0 else 5))])]):DV)=(.tup [(di (apK l ws 13 xs KS (xl.getD 0 ex0).s (xl.getD 1 ex0).s).fst),(.agg [(di xp),(di (apK l ws 13 xs KS (xl.getD 0 ex0).s (xl.getD 1 ex0).s).snd)])]))) (by kernel_rfl) ?_
    simp only[rdL_eq,e42,mk_s,mk_l]
    have h2:=(htwo (by decide)).1
    refine⟨⟨fun h=>(by cases h),f130 l ws m (.mk _ xs xn xd xp xl) KS hx (by omega) (by rw[mk_l];omega) hl⟩,?_⟩
    rfl
   ·refine walkK (orc:=orcKn l ws) (keep:=[]) (cuts:=[]) (n:=1000) follows ?_
    refine of_tr (fun _ _ _ ZK=>(fun Za=>((((true=false)→((DV.con Value.nilFunc).imp (kF (wrD l ws) (Value.int IntKind.i64 14))))∧ZK 127 [(.agg [(di 14),(ds xs),(di xn),(di xd),(di xp),(.slc 6 xl.length (lay (exG m) xl))]),(.slc 1 KS.length (inF KS)),(.ptr [(di 0)]),(.ptr [(di 1)])] (.tup [(di (kxA Za 0 1)),(di (kxE Za 0))]))∧((.tup [(di (kxA Za 0 1)),(.agg [(di xp),(di (kxE Za 0))])]):DV)=(.tup [(di (apK l ws 14 xs KS (xl.getD 0 ex0).s (xl.getD 1 ex0).s).fst),(.agg [(di xp),(di (apK l ws 14 xs KS (xl.getD 0 ex0).s (xl.getD 1 ex0).s).snd)])]))) (rdL (DV.slc 1 KS.length (inF KS)))) (by kernel_rfl) ?_
    simp only[rdL_eq]
    refine⟨⟨fun h=>(by cases h),f127 m (.mk _ xs xn xd xp xl) KS _ _ (by omega)⟩,?_⟩
    rfl
   ·refine walkK (orc:=orcKn l ws) (keep:=[]) (cuts:=[]) (n:=1000) follows ?_
    refine of_tr (fun _ _ _ ZK=>(fun Za=>((((true=false)→((DV.con Value.nilFunc).imp (kF (wrD l ws) (Value.int IntKind.i64 15))))∧ZK 127 [(.agg [(di 15),(ds xs),(di xn),(di xd),(di xp),(.slc 6 xl.length (lay (exG m) xl))]),(.slc 1 KS.length (inF KS)),(.ptr [(di 0)]),(.ptr [(di 1)])] (.tup [(di (kxA Za 0 1)),(di (kxE Za 0))]))∧((.tup [(di (kxA Za 0 1)),(.agg [(di xp),(di (kxE Za 0))])]):DV)=(.tup [(di (apK l ws 15 xs KS (xl.getD 0 ex0).s (xl.getD 1 ex0).s).fst),(.agg [(di xp),(di (apK l ws 15 xs KS (xl.getD 0 ex0).s (xl.getD 1 ex0).s).snd)])]))) (rdL (DV.slc 1 KS.length (inF KS)))) (by kernel_rfl) ?_
    simp only[rdL_eq]
    refine⟨⟨fun h=>(by cases h),f127 m (.mk _ xs xn xd xp xl) KS _ _ (by omega)⟩,?_⟩
    rfl
   ·refine walkK (orc:=orcKn l ws) (keep:=[]) (cuts:=[]) (n:=1000) follows ?_
    refine of_tr (fun _ _ _ ZK=>(fun Za=>((((true=false)→((DV.con Value.nilFunc).imp (kF (wrD l ws) (Value.int IntKind.i64 16))))∧ZK 127 [(.agg [(di 16),(ds xs),(di xn),(di xd),(di xp),(.slc 6 xl.length (lay (exG m) xl))]),(.slc 1 KS.length (inF KS)),(.ptr [(di 0)]),(.ptr [(di 1)])] (.tup [(di (kxA Za 0 1)),(di (kxE Za 0))]))∧((.tup [(di (kxA Za 0 1)),(.agg [(di xp),(di (kxE Za 0))])]):DV)=(.tup [(di (apK l ws 16 xs KS (xl.getD 0 ex0).s (xl.getD 1 ex0).s).fst),(.agg [(di xp),(di (apK l ws 16 xs KS (xl.getD 0 ex0).s (xl.getD 1 ex0).s).snd)])]))) (rdL (DV.slc 1 KS.length (inF KS)))) (by kernel_rfl) ?_
    simp only[rdL_eq]
    refine⟨⟨fun h=>(by cases h),f127 m (.mk _ xs xn xd xp xl) KS _ _ (by omega)⟩,?_⟩
    rfl
   ·refine walkK (orc:=orcKn l ws) (keep:=[]) (cuts:=[]) (n:=1000) follows ?_
    refine of_tr (fun _ _ _ ZK=>(fun Za=>((((true=false)→((DV.con Value.nilFunc).imp (kF (wrD l ws) (Value.int IntKind.i64 17))))∧ZK 127 [(.agg [(di 17),(ds xs),(di xn),(di xd),(di xp),(.slc 6 xl.length (lay (exG m) xl))]),(.slc 1 KS.length (inF KS)),(.ptr [(di 0)]),(.ptr [(di 1)])] (.tup [(di (kxA Za 0 1)),(di (kxE Za 0))]))∧((.tup [(di (kxA Za 0 1)),(.agg [(di xp),(di (kxE Za 0))])]):DV)=(.tup [(di (apK l ws 17 xs KS (xl.getD 0 ex0).s (xl.getD 1 ex0).s).fst),(.agg [(di xp),(di (apK l ws 17 xs KS (xl.getD 0 ex0).s (xl.getD 1 ex0).s).snd)])]))) (rdL (DV.slc 1 KS.length (inF KS)))) (by kernel_rfl) ?_
    simp only[rdL_eq]
    refine⟨⟨fun h=>(by cases h),f127 m (.mk _ xs xn xd xp xl) KS _ _ (by omega)⟩,?_⟩
    rfl
   ·refine walkK (orc:=orcKn l ws) (keep:=[]) (cuts:=[]) (n:=1000) follows ?_
    refine of_tr (fun _ _ _ ZK=>(fun Za=>((((true=false)→((DV.con Value.nilFunc).imp (kF (wrD l ws) (Value.int IntKind.i64 18))))∧ZK 127 [(.agg [(di 18),(ds xs),(di xn),(di xd),(di xp),(.slc 6 xl.length (lay (exG m) xl))]),(.slc 1 KS.length (inF KS)),(.ptr [(di 1)]),(.ptr [(di 1)])] (.tup [(di (kxA Za 1 1)),(di (kxE Za 1))]))∧((.tup [(di (kxA Za 1 1)),(.agg [(di xp),(di (kxE Za 1))])]):DV)=(.tup [(di (apK l ws 18 xs KS (xl.getD 0 ex0).s (xl.getD 1 ex0).s).fst),(.agg [(di xp),(di (apK l ws 18 xs KS (xl.getD 0 ex0).s (xl.getD 1 ex0).s).snd)])]))) (rdL (DV.slc 1 KS.length (inF KS)))) (by kernel_rfl) ?_
    simp only[rdL_eq]
    refine⟨⟨fun h=>(by cases h),f127 m (.mk _ xs xn xd xp xl) KS _ _ (by omega)⟩,?_⟩
    rfl
   ·refine walkK (orc:=orcKn l ws) (keep:=[]) (cuts:=[]) (n:=1000) follows ?_
    refine of_tr (fun _ _ _ ZK=>(fun Za=>((((true=false)→((DV.con Value.nilFunc).imp (kF (wrD l ws) (Value.int IntKind.i64 19))))∧ZK 127 [(.agg [(di 19),(ds xs),(di xn),(di xd),(di xp),(.slc 6 xl.length (lay (exG m) xl))]),(.slc 1 KS.length (inF KS)),(.ptr [(di 1)]),(.ptr [(di 1)])] (.tup [(di (kxA Za 1 1)),(di (kxE Za 1))]))∧((.tup [(di (kxA Za 1 1)),(.agg [(di xp),(di (kxE Za 1))])]):DV)=(.tup [(di (apK l ws 19 xs KS (xl.getD 0 ex0).s (xl.getD 1 ex0).s).fst),(.agg [(di xp),(di (apK l ws 19 xs KS (xl.getD 0 ex0).s (xl.getD 1 ex0).s).snd)])]))) (rdL (DV.slc 1 KS.length (inF KS)))) (by kernel_rfl) ?_
    simp only[rdL_eq]
    refine⟨⟨fun h=>(by cases h),f127 m (.mk _ xs xn xd xp xl) KS _ _ (by omega)⟩,?_⟩
    rfl
   ·refine walkK (orc:=orcKn l ws) (keep:=[]) (cuts:=[]) (n:=1000) follows ?_
    refine of_tr (fun _ _ _ ZK=>(fun Za=>((((true=false)→((DV.con Value.nilFunc).imp (kF (wrD l ws) (Value.int IntKind.i64 20))))∧ZK 127 [(.agg [(di 20),(ds xs),(di xn),(di xd),(di xp),(.slc 6 xl.length (lay (exG m) xl))]),(.slc 1 KS.length (inF KS)),(.ptr [(di 1)]),(.ptr [(di 1)])] (.tup [(di (kxA Za 1 1)),(di (kxE Za 1))]))∧((.tup [(di (kxA Za 1 1)),(.agg [(di xp),(di (kxE Za 1))])]):DV)=(.tup [(di (apK l ws 20 xs KS (xl.getD 0 ex0).s (xl.getD 1 ex0).s).fst),(.agg [(di xp),(di (apK l ws 20 xs KS (xl.getD 0 ex0).s (xl.getD 1 ex0).s).snd)])]))) (rdL (DV.slc 1 KS.length (inF KS)))) (by kernel_rfl) ?_
    simp only[rdL_eq]
    refine⟨⟨fun h=>(by cases h),f127 m (.mk _ xs xn xd xp xl) KS _ _ (by omega)⟩,?_⟩
    rfl
/-! Type. -/
theorem fM_words {l:List Fc} {N:Nat} (h:∀x∈l,x.words.length≤N) (v:Value):(fM l v).words.length≤N:=by
 induction l with
 | nil=>exact Nat.zero_le _
 | cons x l ih=>
  unfold fM
  cases keyEq v (.string x.name) with
  | true=>exact h x (List.mem_cons_self ..)
  | false=>exact ih fun y hy=>h y (List.mem_cons_of_mem _ hy)
theorem revF_words {L:List Fc} (h:∀i,i<L.length→FcS (L.getD i fc0)) (v:Value):(fM (revF L L.length) v).words.length≤1000:=by
 refine fM_words (fun x hx=>?_) v
 unfold revF at hx
 rw[List.take_length,List.mem_reverse] at hx
 obtain ⟨i,hi,rfl⟩:=List.getElem_of_mem hx
 have:=(h i hi).ln
 rw[List.getD,gEe hi] at this
 exact this
abbrev tyW (L:List Fc) (x:Ex):KR:=tyE (revF L L.length) (revW L L.length) x
def typR (L:List Fc) (x:Ex):KR:=if (!vfB L||decide ((fmtX x).size=0))=true then (0,0,1) else if (tyW L x).2.2≠0 then (0,(tyW L x).2) else ((tyW L x).1,0,0)
noncomputable def orcTy (L:List Fc):Oracle:=fun f a=>match f,a with
 | 51,[_]=>some (db (vfB L))
 | 72,[e]=>some (ds (fmtX (rdE e)))
 | 63,[_]=>some (wrL L)
 | 74,[w]=>some (kdM w)
 | 73,[_,e,_]=>some (.tup [di (tyW L (rdE e)).1,.agg [di (tyW L (rdE e)).2.1,di (tyW L (rdE e)).2.2]])
 | _,_=>none
theorem f42 (hT:Tab G) (m:Nat) (x:Ex) (L:List Fc) (hx:ht x≤m) (hs:Sm x) (h:∀i,i<L.length→FcS (L.getD i fc0)) (hl:L.length≤1000):FnOK Tryz.prog G 42 [exD m x,fcsD L] (.tup [di (typR L x).1,di (typR L x).2.1,di (typR L x).2.2]):=by
 have e:rdE (exV x.k x.s x.n x.d x.pos x.kids.length (lay (exG m) x.kids))=x:=rdE_eq hx
 refine FnOK.walk (orc:=orcTy L) (keep:=[]) follows Tryz.func42 rfl Tryz.call42 ?_
 refine of_tr (fun _ _ _ ZK=>(fun Za Zb Zc=>((ZK 51 [(.slc 7 L.length (fcF L))] (db (vfB L))∧(((!!vfB L)=true)→ZK 72 [(ndX m x)] (ds (fmtX (rdE (ndX m x))))))∧(((!vfB L||(fmtX (rdE (ndX m x))).toList==(ByteArray.mk #[]).toList)=true)→(((.tup [(di 0),(di 0),(di 1)]):DV)=Zb))∧(((!vfB L||(fmtX (rdE (ndX m x))).toList==(ByteArray.mk #[]).toList)=false)→(ZK 63 [(.slc 7 L.length (fcF L))] Za∧(ZK 74 [Za] (.mp (some .i64) Zc (hK (kh3 3)))∧ZK 73 [Za,(ndX m x),(.mp (some .i64) Zc (hK (kh3 3)))] (.tup [(di (tyW L (rdE (ndX m x))).fst),(.agg [(di (tyW L (rdE (ndX m x))).snd.fst),(di (tyW L (rdE (ndX m x))).snd.snd)])]))∧((((tyW L (rdE (ndX m x))).snd.snd != 0)=true)→(((.tup [(di 0),(di (tyW L (rdE (ndX m x))).snd.fst),(di (tyW L (rdE (ndX m x))).snd.snd)]):DV)=Zb))∧((((tyW L (rdE (ndX m x))).snd.snd != 0)=false)→(((.tup [(di (tyW L (rdE (ndX m x))).fst),(di 0),(di 0)]):DV)=Zb)))))) ((.ptr [(.mp none (fV (revF L L.length)) (fH (revF L L.length))),(.mp none (wV (revW L L.length)) (wL (revW L L.length)))]):DV) ((.tup [(di (typR L x).fst),(di (typR L x).snd.fst),(di (typR L x).snd.snd)]):DV) (kF (DV.ptr [DV.mp none (fV (revF L L.length)) (fH (revF L L.length)),DV.mp none (wV (revW L L.length)) (wL (revW L L.length))]))) (by kernel_rfl) ?_
 simp only[e,emp_beq]
 have hwd:=fun i (hi:i<L.length)=>(h i hi).ln
 refine⟨⟨f51 hT L h hl,fun _=>f72 hT m x hx hs⟩,fun h1=>?_,fun h1=>⟨f63 L (by omega) (fun i hi=>by have:=hwd i hi;omega),⟨f74 _ _,f73 _ _ (fun v=>by have:=revF_words h v;omega) m x hx hs ?_⟩,fun h2=>?_,fun h2=>?_⟩⟩
 ·unfold typR
  rw[if_pos h1]
 ·rw[Bool.or_eq_false_iff,decide_eq_false_iff_not] at h1
  unfold fmtX fitE at h1
  have h2:=h1.2
  cases hh:sndE x with
  | true=>rfl
  | false=>rw[hh] at h2;exact absurd rfl h2
 ·have h2:(tyW L x).2.2≠0:=by simpa using h2
  unfold typR
  rw[if_neg (by rw[h1];decide),if_pos h2]
 ·have h2:(tyW L x).2.2=0:=by simpa using h2
  unfold typR
  rw[if_neg (by rw[h1];decide),if_neg (by omega)]
/-! Names that occur. -/
/-! Trends. -/
/-! Signs. -/
end Go.Proofs
