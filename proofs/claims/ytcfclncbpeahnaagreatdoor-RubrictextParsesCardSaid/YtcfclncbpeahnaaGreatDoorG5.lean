import Derived.Test.YtcfclncbpeahnaaGreatDoorAcD
import Derived.Test.YtcfclncbpeahnaaGreatDoorG4
import Derived.Test.YtcfclncbpeahnaaGreatDoorG3
import Derived.Test.YtcfclncbpeahnaaGreatDoorG2
import Derived.Tactics2
import Derived.WalkSmall
import Derived.Laws.IdiomRangeMap
import Derived.LoopTactic
import Derived.LoopN
/- The words of a text,the reference's side. -/
set_option autoImplicit false
namespace Go.Proofs
open Go Go.Ab Go.RowKit
set_option maxHeartbeats 1000000
set_option maxRecDepth 100000
variable {G:IH}
theorem Y9 {s:ByteArray} {k:Nat} (hk1:k<s.size) (h5:byteAt s k=35):1≤bC (fun c=>iM (c.toNat:Int)) (s.data.toList.drop k)∧bC (fun c=>iM (c.toNat:Int)) (s.data.toList.drop k)≤s.size-k∧
  bH false (s.data.toList.drop k)=bC (fun c=>iM (c.toNat:Int)) (s.data.toList.drop k)+bH false (s.data.toList.drop (k+bC (fun c=>iM (c.toNat:Int)) (s.data.toList.drop k))):=by
 have hl:s.data.toList.length=s.size:=Array.length_toList
 have hb:=dU hk1
 have hc:s.data.toList[k]'(by rw[hl];exact hk1)=35:=by
  rw[hb] at h5
  exact UInt8.toNat_inj.1 (by show _=35;omega)
 have hd:s.data.toList.drop k=35 :: s.data.toList.drop (k+1):=by rw[List.drop_eq_getElem_cons (by rw[hl];exact hk1),hc]
 have hle:=Hz (fun c=>iM (c.toNat:Int)) (s.data.toList.drop k)
 rw[List.length_drop,hl] at hle
 have hpos:bC (fun c=>iM (c.toNat:Int)) (s.data.toList.drop k)=1+bC (fun c=>iM (c.toNat:Int)) (s.data.toList.drop (k+1)):=by
  rw[hd];unfold bC
  rw[List.takeWhile_cons,show iM (((35:UInt8).toNat:Nat):Int)=true from by decide]
  simp only[if_true,List.length_cons];omega
 have hs1:bH false (s.data.toList.drop k)=1+bH true (s.data.toList.drop (k+1)):=by
  rw[hd,bH,show D7 35=false from by decide];rfl
 refine⟨by omega,hle,?_⟩
 rw[hs1,JJ,hpos,←Nat.add_assoc,List.drop_drop]
 rw[show k+1+bC (fun c=>iM (c.toNat:Int)) (s.data.toList.drop (k+1))=k+(1+bC (fun c=>iM (c.toNat:Int)) (s.data.toList.drop (k+1))) by omega]
theorem Ld {S:List UInt8} {k q d:Nat} (hq:q+d≤S.length) (h:bH false (S.drop q)=d+bH false (S.drop (q+d))):toks (k+1) q (S.drop q)=toks (k+1) (q+d) (S.drop (q+d)):=by
 have e:∀p,toks (k+1) p (S.drop p)=if (S.drop p).length≤bH false (S.drop p) then .ok [] else if (dB ((S.drop p).drop (bH false (S.drop p)))).2≠0 then .bad (p+bH false (S.drop p):Nat) (dB ((S.drop p).drop (bH false (S.drop p)))).2
    else (toks k (p+bH false (S.drop p)+(dB ((S.drop p).drop (bH false (S.drop p)))).1.toNat) ((S.drop p).drop (bH false (S.drop p)+(dB ((S.drop p).drop (bH false (S.drop p)))).1.toNat))).cons (iZ (((S.drop p).drop (bH false (S.drop p))).take (dB ((S.drop p).drop (bH false (S.drop p)))).1.toNat),(p+bH false (S.drop p):Nat)):=fun p=>rfl
 rw[e q,e (q+d)]
 generalize bH false (S.drop (q+d))=b at h⊢
 rw[h]
 simp only[List.drop_drop,List.length_drop]
 rw[show q+(d+b)=q+d+b by omega]
 generalize dB (S.drop (q+d+b))=W
 rw[show q+(d+b+W.1.toNat)=q+d+(b+W.1.toNat) by omega]
 by_cases hc:S.length-q≤d+b
 ·rw[if_pos hc,if_pos (show S.length-(q+d)≤b by omega)]
 ·rw[if_neg hc,if_neg (show ¬S.length-(q+d)≤b by omega)]
noncomputable def dWq (a b:Int):cZ:=fun f x=>match f,x with
 | 33,[b8 c]=>some (db (KJ c))
 | 34,[_]=>some (.ak [di a,di b])
 | _,_=>none
noncomputable def Ia (a b:Int):dK:={ d:=dWq a b,rows:=fun n=>Nat.beq n 12 }
noncomputable def abh (s:ByteArray) (x:List Tk×Nat):AS:=⟨regs Tryz.f12.ntmps [(0,vs s),(5,.vec 900 2 0 x.1.length),(6,vi x.2)],[(900,[.arr Jy 2 (aG x.1)])]⟩
theorem aeC (s:ByteArray) (hs:s.size≤900000):ay Tryz.prog G 12 [ds s] (yN (bG s)):=by
 have hl:s.data.toList.length=s.size:=Array.length_toList
 refine ay.aP Tryz.func12 rfl Tryz.call12 ?_
 refine aF (aj:=Ia 0 0) (keep:=[]) (cuts:=[]) (n:=1000) follows ?_
 refine au (fun ZT ZW ZQ _=>((((decide ((↑s.size:Int)>16384))=true)→(((.ak [(.con (.slice none 0 0)),(di 0),(di 8)]):DV)=(yN (bG s))))∧(((decide ((↑s.size:Int)>16384))=false)→ZW [cd Tryz.f12 [1,1,1,1,0,0],(.blk 0),cd Tryz.f12 [1,1,1,1,1]] (aB ZT [1]) ZQ))) (by kernel_rfl) ?_
 refine⟨fun h=>?_,fun h=>?_⟩
 ·simp only[decide_eq_true_eq] at h
  rw[Q9 (by omega)];rfl
 ·have h0:¬16384<s.size:=by simp only[decide_eq_false_iff_not] at h;omega
  refine aK.pre ((AS.dZ.moves [(12,900)] _ rfl).trans (AS.dZ.AQ _ 5 900 0 (agg:=Jy) (sz:=2) (f:=fun _=>.con undef) (aG []) (by kernel_rfl) (by kernel_rfl) rfl (by kernel_rfl) (fun i hi=>absurd hi (Nat.not_lt_zero _)))) ?_
  refine aK.loop (c:=aY (aC Tryz.f12) [1,1,1,1,0,0,0]) (by kernel_rfl) (abh s) (fun x=>x.2≤s.size∧x.1.length≤x.2∧∃k,s.size-x.2<k∧toks (s.size+1) 0 s.data.toList=(toks k x.2 (s.data.toList.drop x.2)).app x.1) (fun x=>s.size-x.2) ([],0) ?_ ⟨Nat.zero_le _,Nat.zero_le _,s.size+1,by show s.size-0<s.size+1;omega,by rw[ET];rfl⟩ ?_
  ·exact AS.bV (by kernel_rfl)
  ·rintro ⟨T,q⟩ ⟨hq,hT,k,hk,he⟩
   dsimp only at hq hT hk he
   obtain ⟨k,rfl⟩:∃j,k=j+1:=⟨k-1,by omega⟩
   obtain ⟨W,xK⟩:∃W,W=dB (s.data.toList.drop q):=⟨_,rfl⟩
   refine aF (aj:=Ia W.1 W.2) (keep:=[]) (cuts:=[]) (n:=1000) follows ?_
   refine bZ (fun ZT ZW ZQ ZK ZA ZR=>((((decide ((↑q:Int)<↑s.size))=true)→((((0≤(↑q:Int))∧((↑q:Int)<↑s.size))∧ZK 33 [(.con (.int .u8 (byteAt s (↑q:Int).toNat)))] (db (KJ (byteAt s (↑q:Int).toNat))))∧(((KJ (byteAt s (↑q:Int).toNat))=true)→((I64 (↑q+1))∧(ZA (aB ZT [0,0]))))∧(((KJ (byteAt s (↑q:Int).toNat))=false)→(((0≤(↑q:Int))∧((↑q:Int)<↑s.size))∧(((byteAt s (↑q:Int).toNat==35)=true)→ZW [cd Tryz.f12 [1,1,1,1,0,0,0,1,0,1,0,1,0,0,0],(.blk 2),cd Tryz.f12 [1,1,1,1,0,0,0,1,0,0,1,0,1],cd Tryz.f12 [1,1,1,1,0,0,0,1,0,1,1],(.blk 1)] (aB ZT [0,1,0]) ZR)∧(((byteAt s (↑q:Int).toNat==35)=false)→((((0≤(↑q:Int))∧((↑q:Int)≤↑s.size)∧((↑s.size:Int)≤↑s.size))∧ZK 34 [(ds (s.extract (↑q:Int).toNat (↑s.size:Int).toNat))] (.ak [(di W.fst),(di W.snd)]))∧(((W.snd != 0)=true)→(((.ak [(.con (.slice none 0 0)),(di (↑q)),(di W.snd)]):DV)=(yN (bG s))))∧(((W.snd != 0)=false)→(((I64 (↑q+W.fst))∧((0≤(↑q:Int))∧(↑q≤↑q+W.fst)∧(↑q+W.fst≤↑s.size))∧(((T.length+1)*24≤1099511627776)∧(T.length+1≤1099511627776))∧(∀(i:Nat),i<1→lC true 2 (aS true 2 [DV.con (Value.string (s.extract (↑q:Int).toNat (↑q+W.fst).toNat)),DV.con (Value.int IntKind.i64 ↑q)] i)=true)∧(I64 (↑q+W.fst)))∧(ZA (aB ZT [0,1,1,1]))))))))))∧(((decide ((↑q:Int)<↑s.size))=false)→ZW [cd Tryz.f12 [1,1,1,1,1]] (aB ZT [1]) ZQ))) (by kernel_rfl) ?_
   rw[Int.toNat_natCast]
   refine⟨fun h1=>?_,fun h1=>?_⟩
   ·have h1:q<s.size:=by simp only[decide_eq_true_eq] at h1;omega
    have hwh:=Vs (s.data.toList[q]'(by rw[hl];exact h1))
    rw[←dU h1] at hwh
    change _=KJ (byteAt s q) at hwh
    refine⟨⟨⟨by omega,by omega⟩,f33 _⟩,fun h2=>⟨⟨by omega,by omega⟩,?_⟩,fun h2=>⟨⟨by omega,by omega⟩,fun h3=>?_,fun h3=>?_⟩⟩
    ·refine Again.mk (T,q+1) ?_ ⟨by show q+1≤s.size;omega,by show T.length≤q+1;omega,k+1,by show s.size-(q+1)<k+1;omega,?_⟩ (by show s.size-(q+1)<s.size-q;omega)
     ·exact AS.bV (by kernel_rfl)
     ·rw[he,Ld (q:=q) (d:=1) (by rw[hl];omega) (Oj h1 (by rw[hwh,h2]))]
    ·have h35:byteAt s q=35:=by simpa using h3
     obtain ⟨r1,r2,r3⟩:=Y9 h1 h35
     refine aK.loop (c:=aY (aC Tryz.f12) [1,1,1,1,0,0,0,1,0,1,0,1,0,0,0,0]) (by kernel_rfl) (fun p=>abh s (T,p)) (fun p=>q≤p∧p≤s.size∧∀i,q≤i→i<p→iM (byteAt s i)=true) (fun p=>s.size-p) q ?_ ⟨Nat.le_refl _,by omega,fun i hi hi2=>by omega⟩ ?_
     ·exact AS.bV (by kernel_rfl)
     ·rintro p ⟨hp0,hp,hpd⟩
      refine aF (aj:=Ia 0 0) (keep:=[]) (cuts:=[]) (n:=1000) follows ?_
      refine bZ (fun ZT ZW ZQ _ ZA _=>((((decide ((↑p:Int)<↑s.size))=true)→((0≤(↑p:Int))∧((↑p:Int)<↑s.size)))∧(((decide ((↑p:Int)<↑s.size)&&byteAt s (↑p:Int).toNat != 10)=true)→((I64 (↑p+1))∧(ZA (aB ZT [0]))))∧(((decide ((↑p:Int)<↑s.size)&&byteAt s (↑p:Int).toNat != 10)=false)→ZW [cd Tryz.f12 [1,1,1,1,0,0,0,1,0,0,1,0,1],cd Tryz.f12 [1,1,1,1,0,0,0,1,0,1,1],(.blk 1)] (aB ZT [1]) ZQ))) (by kernel_rfl) ?_
      rw[Int.toNat_natCast]
      refine⟨fun h=>?_,fun h=>?_,fun h=>?_⟩
      ·simp only[decide_eq_true_eq] at h
       exact⟨by omega,by omega⟩
      ·simp only[aV,decide_eq_true_eq] at h
       refine⟨⟨by omega,by omega⟩,Again.mk (p+1) ?_ ⟨by omega,by omega,fun i hi hi2=>?_⟩ (by omega)⟩
       ·exact AS.bV (by kernel_rfl)
       ·rcases Nat.lt_or_ge i p with h1|h1
        ·exact hpd i hi h1
        ·obtain rfl:i=p:=by omega
         exact h.2
      ·have hst:bC (fun c=>iM (c.toNat:Int)) (s.data.toList.drop q)=p-q:=by
        have:=rG (p:=iM) (s:=s.extract q s.size) (k:=p-q) (by rw[ByteArray.size_extract];omega) (fun i hi=>?_) (fun hi=>?_)
        ·unfold jM at this;rw[kL] at this;exact this
        ·have:=hpd (q+i) (by omega) (by omega)
         rw[dU (by omega)] at this
         rw[dU (by rw[ByteArray.size_extract];omega)]
         simp only[kL,List.getElem_drop];exact this
        ·rw[ByteArray.size_extract] at hi
         simp only[Bool.and_eq_false_imp,decide_eq_true_eq] at h
         have:=h (by omega)
         rw[dU (by omega)] at this
         rw[dU (by rw[ByteArray.size_extract];omega)]
         simp only[kL,List.getElem_drop,show q+(p-q)=p from by omega];exact this
       rw[hst] at r1 r3
       refine aF (aj:=Ia 0 0) (keep:=[]) (cuts:=[]) (n:=1000) follows ?_
       refine bZ (fun ZT _ _ _ ZA _=>(ZA (aB ZT []))) (by kernel_rfl) ?_
       refine Again.mk (T,p) ?_ ⟨hp,by show T.length≤p;omega,k+1,by show s.size-p<k+1;omega,?_⟩ (by show s.size-p<s.size-q;omega)
       ·exact AS.bV (by kernel_rfl)
       ·rw[he,Ld (q:=q) (d:=p-q) (by rw[hl];omega) r3,show q+(p-q)=p by omega]
    ·have h35:byteAt s q≠35:=by simpa using h3
     have aer:bH false (s.data.toList.drop q)=0:=by
      rw[List.drop_eq_getElem_cons (by rw[hl];exact h1),bH,hwh,h2]
      have hn:(s.data.toList[q]'(by rw[hl];exact h1)==35)=false:=by
       rw[beq_eq_false_iff_ne];intro hh
       rw[dU h1,hh] at h35;exact h35 (by decide)
      rw[hn];rfl
     have hlen:(s.data.toList.drop q).length=s.size-q:=by rw[List.length_drop,hl]
     have htk:toks (k+1) q (s.data.toList.drop q)=if (s.data.toList.drop q).length≤bH false (s.data.toList.drop q) then .ok [] else if (dB ((s.data.toList.drop q).drop (bH false (s.data.toList.drop q)))).2≠0 then .bad (q+bH false (s.data.toList.drop q):Nat) (dB ((s.data.toList.drop q).drop (bH false (s.data.toList.drop q)))).2
      else (toks k (q+bH false (s.data.toList.drop q)+(dB ((s.data.toList.drop q).drop (bH false (s.data.toList.drop q)))).1.toNat) ((s.data.toList.drop q).drop (bH false (s.data.toList.drop q)+(dB ((s.data.toList.drop q).drop (bH false (s.data.toList.drop q)))).1.toNat))).cons (iZ (((s.data.toList.drop q).drop (bH false (s.data.toList.drop q))).take (dB ((s.data.toList.drop q).drop (bH false (s.data.toList.drop q)))).1.toNat),(q+bH false (s.data.toList.drop q):Nat)):=rfl
     rw[aer,Nat.add_zero,List.drop_zero,←xK,Nat.zero_add,List.drop_drop,hlen,if_neg (by omega)] at htk
     rw[htk] at he
     have h34:=f34 (G:=G) (s.extract q s.size) (by rw[ByteArray.size_extract];omega) (by rw[ByteArray.size_extract];omega)
     rw[kL,←xK] at h34
     refine⟨⟨⟨by omega,by omega,by omega⟩,by rw[Int.toNat_natCast];exact h34⟩,fun h4=>?_,fun h4=>?_⟩
     ·have h4:W.2≠0:=by simpa using h4
      rw[if_pos h4] at he
      rw[QB h0 (he.trans rfl)]
      unfold yN
      rw[if_neg h4,Nat.add_zero]
     ·have h4:W.2=0:=by simpa using h4
      rw[if_neg (by rw[h4];decide),uV] at he
      obtain ⟨p1,p2⟩:=tV (l:=s.data.toList.drop q) (fun hh=>by rw[hh] at hlen;simp at hlen;omega) (by rw[←xK];exact h4)
      rw[←xK] at p1 p2
      rw[hlen] at p2
      obtain ⟨n,hn⟩:=Int.eq_ofNat_of_zero_le (show 0≤W.1 by omega)
      rw[hn] at p1 p2 he⊢
      have e1:((q:Int)+(n:Int)).toNat=q+n:=by omega
      rw[e1]
      have e3:(n:Int).toNat=n:=Int.toNat_natCast n
      rw[e3] at he
      refine⟨⟨⟨by omega,by omega⟩,⟨by omega,by omega,by omega⟩,⟨by omega,by omega⟩,fun i hi=>?_,⟨by omega,by omega⟩⟩,?_⟩
      ·obtain rfl:i=0:=by omega
       rfl
      ·refine⟨(T++[(iZ ((s.data.toList.drop q).take n),(q:Int))],q+n),(AS.dZ.moves [(60,900)] _ rfl).trans ((AS.dZ.AQ _ 5 900 (T.length+1) (agg:=Jy) (sz:=2) (f:=fun i=>bif Nat.blt i T.length then aG T i else aS true 2 [ds (s.extract (q:Int).toNat ((q:Int)+(n:Int)).toNat),di (q:Int)] (i-T.length)) (aG (T++[(iZ ((s.data.toList.drop q).take n),(q:Int))])) (by kernel_rfl) (by kernel_rfl) rfl (by kernel_rfl) (fun i hi=>?_)).trans (.of_le ?_)),⟨by show q+n≤s.size;omega,by simp only[List.length_append,List.length_singleton];omega,k,by show s.size-(q+n)<k;omega,he⟩,(by show s.size-(q+n)<s.size-q;omega)⟩
       ·unfold aG
        rcases Nat.lt_or_ge i T.length with h4|h4
        ·rw[show Nat.blt i T.length=true from by rw[Nat.blt_eq];exact h4,tq h4];rfl
        ·obtain rfl:i=T.length:=by omega
         rw[show Nat.blt T.length T.length=false from by rw[Bool.eq_false_iff,ne_eq,Nat.blt_eq];omega,tJ (Nat.le_refl _),Nat.sub_self]
         rw[Int.toNat_natCast,e1,OA];rfl
       ·refine AS.leZ [1] [] (b:=((T0∧((.vec 900 2 0 (T.length+1)):AV)=(.vec 900 2 0 (T++[(iZ (List.take n (List.drop q s.data.toList)),(↑q:Int))]).length)∧T0∧True)∧T0∧True)) (by kernel_rfl) (by kernel_rfl) ?_
        refine⟨⟨rfl,congrArg (fun n=>AV.vec 900 2 0 n) (by simp),rfl,trivial⟩,rfl,trivial⟩
   ·have h1:q=s.size:=by simp only[decide_eq_false_iff_not] at h1;omega
    have he2:bG s=(T,0,0):=Vf h0 (by
     rw[he]
     have:s.data.toList.drop q=[]:=List.drop_of_length_le (by omega)
     rw[this]
     simp[toks,Ws.app])
    refine aF (aj:=Ia 0 0) (keep:=[]) (cuts:=[]) (n:=1000) follows ?_
    refine au (fun _ _ _ _=>(((.ak [(.slc 2 T.length (fun i=>aG T (0+i))),(di 0),(di 0)]):DV)=(yN (bG s)))) (by kernel_rfl) ?_
    rw[he2]
    unfold yN
    rw[if_pos rfl]
    have:(fun i=>aG T (0+i))=aG T:=funext fun i=>by rw[Nat.zero_add]
    rw[this]
theorem f12 (s:ByteArray) (hs:s.size≤900000):ay Tryz.prog G 12 [ds s] (.ak [kJ (bG s).1,di (bG s).2.1,di (bG s).2.2]):=by
 refine ay.res (aeC s hs) fun k v hv=>?_
 unfold yN at hv
 by_cases h:(bG s).2.2=0
 ·rw[if_pos h] at hv;exact hv
 ·rw[if_neg h] at hv
  obtain ⟨us,rfl,a1,u1,rfl,h1,r⟩:=hv
  refine⟨_,rfl,a1,u1,rfl,?_,r⟩
  rw[zU h]
  exact lV h1
end Go.Proofs
/- The parser,the program's side: the next word,taking one. -/
namespace Go.Proofs
open Go Go.Ab Go.RowKit
set_option maxHeartbeats 1000000
set_option maxRecDepth 100000
variable {G:IH}
abbrev pC (t:List Tk) (e:Int):List AV:=[.d (kJ t),.d (di e)]
abbrev pB (t:List Tk) (e:Int):List (Nat×List AV):=[(1000000,pC t e)]
abbrev dw (e:Int) (t:List Tk):Tk:=(ah t,hdA e t)
theorem Kv (t:List Tk):(fun i=>aG t (1+i))=aG t.tail:=by
 funext i
 unfold aG
 cases t with
 | nil=>rfl
 | cons w t=>rw[Nat.add_comm];rfl
theorem f110 (t:List Tk) (e:Int):aA Tryz.prog G 110 [.box 1000000 0] (pB t e) (.d (qh (dw e t))) (pB t e):=by
 refine aA.aP (mv:=[]) (by kernel_rfl) Tryz.func110 rfl Tryz.call110 ?_
 refine aF (aj:=Fa) (keep:=[]) (cuts:=[]) (n:=1000) follows ?_
 refine au (fun _ _ _ _=>(fun Za=>(((((↑t.length:Int)==0)=true)→(((.d (.agg [(ds (ByteArray.mk #[])),(di e)])):AV)=(.d (.agg [(ds (ah t)),(di (hdA e t))]))∧(Za:(Option (List AV)))=Za∧True))∧((((↑t.length:Int)==0)=false)→((((0:Int)≤(0:Int))∧(0<(↑t.length:Int)))∧((.d (.agg [(ds (t.getD (Int.toNat 0) fU).fst),(di (t.getD (Int.toNat 0) fU).snd)])):AV)=(.d (.agg [(ds (ah t)),(di (hdA e t))]))∧(Za:(Option (List AV)))=Za∧True)))) (some [(.d (.slc 2 t.length (aG t))),(vi e)])) (by kernel_rfl) ?_
 try dsimp only
 cases t with
 | nil=>exact⟨fun _=>⟨rfl,rfl,trivial⟩,fun h=>(by cases h)⟩
 | cons w t=>
  have hn:((((w :: t).length:Nat):Int)==0)=false:=by rw[beq_eq_false_iff_ne];simp only[List.length_cons];omega
  exact⟨fun h=>(by rw[hn] at h;cases h),fun _=>⟨⟨by omega,by simp only[List.length_cons];omega⟩,rfl,rfl,trivial⟩⟩
noncomputable def m75 (w:Tk) (t:List Tk) (e:Int):FuncId→List AV→List (Nat×List AV)→Option (AV×List (Nat×List AV)):=fun f _ _=>match f with
 | 110=>some (.d (qh w),pB t e)
 | _=>none
noncomputable def d75 (b:Bool):cZ:=fun f _=>match f with
 | 111=>some (db b)
 | 92=>some (db b)
 | _=>none
noncomputable def Y1 (b:Bool) (w:Tk) (t:List Tk) (e:Int):dK:={ d:=d75 b,m:=m75 w t e }
def inB (l:List ByteArray) (s:ByteArray):Bool:=decide (s.size≠0)&&dN l s
theorem UL (l:List ByteArray) (s:ByteArray):((ByteArray.toList s==ByteArray.toList { data:=#[] })||!dN l s) = !inB l s:=by
 rw[nZ];unfold inB
 by_cases h:s.size=0
 ·simp[h]
 ·simp[h]
theorem aah {t:List Tk} {l:List ByteArray} (h:inB l (ah t)=true):1≤t.length∧t.tail.length=t.length-1:=by
 cases t with
 | nil=>unfold inB at h;simp[ah] at h
 | cons w t=>simp
theorem gY (l:List ByteArray) (t:List Tk) (e:Int) (hl:l.length≤1000000) (h:inB l (ah t)=true):aA Tryz.prog G 75 [.box 1000000 0,.d (xU l)] (pB t e) (.d (.ak [qh (dw e t),db true])) (pB t.tail e):=by
 obtain ⟨h1,h2⟩:=aah h
 refine aA.aP (mv:=[]) (by kernel_rfl) Tryz.func75 rfl Tryz.call75 ?_
 refine aF (aj:=Y1 (dN l (ah t)) (dw e t) t e) (keep:=[]) (cuts:=[]) (n:=1000) follows ?_
 refine au (fun _ _ _ ZK=>(fun Za=>(aA Tryz.prog G 110 [(.box 1000000 0)] [(1000000,[(.d (.slc 2 t.length (aG t))),(vi e)])] (.d Za) [(1000000,[(.d (.slc 2 t.length (aG t))),(vi e)])]∧(((!(ah t).toList==(ByteArray.mk #[]).toList)=true)→ZK 111 [(.slc 1 l.length (iY l)),(ds (ah t))] (db (dN l (ah t))))∧((((ah t).toList==(ByteArray.mk #[]).toList||!dN l (ah t))=true)→(((.d (.ak [Za,(db false)])):AV)=(.d (.ak [Za,(db true)]))∧((some [(.d (.slc 2 t.length (aG t))),(vi e)]):(Option (List AV)))=(some [(.d (.slc 2 t.tail.length (aG t.tail))),(vi e)])∧True))∧((((ah t).toList==(ByteArray.mk #[]).toList||!dN l (ah t))=false)→((((0:Int)≤(1:Int))∧(1≤(↑t.length:Int))∧((↑t.length:Int)≤↑t.length))∧(ZS ((.d (.ak [Za,(db true)])):AV))∧((some [(.d (.slc 2 ((↑t.length:Int)-1).toNat (fun i=>aG t (Int.toNat 1+i)))),(vi e)]):(Option (List AV)))=(some [(.d (.slc 2 t.tail.length (aG t.tail))),(vi e)])∧True)))) ((.agg [(ds (ah t)),(di (hdA e t))]):DV)) (by kernel_rfl) ?_
 try dsimp only
 rw[UL,h]
 have e1:((t.length:Int)-1).toNat=t.tail.length:=by omega
 have e2:(fun i=>aG t (Int.toNat 1+i))=aG t.tail:=Kv t
 rw[e1,e2]
 exact⟨f110 t e,fun _=>f111 l _ hl,fun c=>(by cases c),fun _=>⟨⟨by omega,by omega,by omega⟩,rfl,rfl,trivial⟩⟩
theorem ql (l:List ByteArray) (t:List Tk) (e:Int) (hl:l.length≤1000000) (h:inB l (ah t)=false):aA Tryz.prog G 75 [.box 1000000 0,.d (xU l)] (pB t e) (.d (.ak [qh (dw e t),db false])) (pB t e):=by
 refine aA.aP (mv:=[]) (by kernel_rfl) Tryz.func75 rfl Tryz.call75 ?_
 refine aF (aj:=Y1 (dN l (ah t)) (dw e t) t e) (keep:=[]) (cuts:=[]) (n:=1000) follows ?_
 refine au (fun _ _ _ ZK=>(fun Za Zb=>(aA Tryz.prog G 110 [(.box 1000000 0)] [(1000000,[Za,(vi e)])] (.d Zb) [(1000000,[Za,(vi e)])]∧(((!(ah t).toList==(ByteArray.mk #[]).toList)=true)→ZK 111 [(.slc 1 l.length (iY l)),(ds (ah t))] (db (dN l (ah t))))∧((((ah t).toList==(ByteArray.mk #[]).toList||!dN l (ah t))=true)→((ZS ((.d (.ak [Zb,(db false)])):AV))∧((some [Za,(vi e)]):(Option (List AV)))=(some [Za,(vi e)])∧True))∧((((ah t).toList==(ByteArray.mk #[]).toList||!dN l (ah t))=false)→((((0:Int)≤(1:Int))∧(1≤(↑t.length:Int))∧((↑t.length:Int)≤↑t.length))∧((.d (.ak [Zb,(db true)])):AV)=(.d (.ak [Zb,(db false)]))∧((some [(.d (.slc 2 ((↑t.length:Int)-1).toNat (fun i=>aG t (Int.toNat 1+i)))),(vi e)]):(Option (List AV)))=(some [Za,(vi e)])∧True)))) ((.d (.slc 2 t.length (aG t))):AV) ((.agg [(ds (ah t)),(di (hdA e t))]):DV)) (by kernel_rfl) ?_
 try dsimp only
 rw[UL,h]
 exact⟨f110 t e,fun _=>f111 l _ hl,fun _=>⟨rfl,rfl,trivial⟩,fun c=>(by cases c)⟩
theorem aA.st {f:FuncId} {l:List ByteArray} {p:AV} {pre post:List (Nat×List AV)} {r:AV} (h:aA Tryz.prog G f [p,.d (xU l)] pre r post):aA Tryz.prog G f [p,.d (st1 l)] pre r post:=
 ⟨h.1,fun F w h0 β us g=>h.2 F w h0 β us ⟨g.glob,g.holds,g.ext,g.old,g.kept,g.fix,g.size,fun t x hx=>by
  cases t with
  | zero=>exact g.regs 0 x hx
  | succ t=>cases t with
   | zero=>
    obtain rfl:AV.d (xU l)=x:=by simpa using hx
    obtain ⟨v,e,hr⟩:=g.regs 1 (.d (st1 l)) rfl
    exact⟨v,e,tu hr⟩
   | succ t=>exact g.regs (t+2) x hx,g.box,g.inj⟩⟩
theorem nS (w s:ByteArray) (h:w.size≠0):inB [w] s=decide (s=w):=by
 unfold inB dN
 by_cases hs:s=w
 ·subst hs;simp[h]
 ·have:¬w=s:=fun e=>hs e.symm
  simp[hs,this]
abbrev mkV (a:Int):Value:=.iface 98 (.agg #[.int .i64 a])
theorem P5 (s:ByteArray) (a:Int) (w:World):(Instr.field 54 (.agg #[.string s,.int .i64 a]) 1).run Tryz.prog w=.ok (.int .i64 a) w:=by kernel_rfl
theorem t74 {v:Value} {w:World} {s:ByteArray} {a:Int} {RR:World→Prop} (hcf:∀(us:Array Value) (w:World),(callFunc 110 us).run Tryz.prog w=.ok (.enter 110 us) w)
  (hc:Calls Tryz.prog 110 #[v] w fun e w'=>e=.returned (.agg #[.string s,.int .i64 a])∧RR w'):Calls Tryz.prog 74 #[v] w fun e w'=>e=.panicked (lQ (mkV a))∧RR w':=by
 go_enter Tryz.func74,(show Tryz.f74.ntmps=7 from rfl)
 go_wp2_with (go_at_call 110;refine hc.mono ?_;rintro e w' ⟨rfl,hb⟩)
 rw[P5]
 go_wp2
 exact⟨rfl,rfl,hb⟩
theorem Yd {h:IH} {s:ByteArray} {a:Int} {v:Value} (hv:DV.rel h (qh (s,a)) v):v=.agg #[.string s,.int .i64 a]:=by
 obtain ⟨us,rfl,v1,u1,rfl,h1,v2,u2,rfl,h2,h3⟩:=hv
 have h1:v1=.string s:=h1
 have h2:v2=.int .i64 a:=h2
 have h3:u2=[]:=h3
 subst h1;subst h2;subst h3;rfl
theorem f74 (t:List Tk) (e:Int):dH Tryz.prog G 74 [.box 1000000 0] (pB t e) (mkV (hdA e t)):=by
 refine⟨Tryz.call74,fun F w h β us g=>?_⟩
 obtain ⟨v,rfl,_⟩:=arg1 g
 refine t74 (s:=ah t) (RR:=fun w'=>∃β' h',aT G F w h ⟨[],fC (pB t e)⟩ β' h' #[] w') (f110 (G:=G) t e).1 (((f110 t e).2 F w h β #[v] g).mono ?_)
 rintro e' w' ⟨r,β',h',rfl,g1⟩
 obtain ⟨r',e1,hr⟩:=g1.regs 0 _ rfl
 obtain rfl:r=r':=by simpa using e1
 refine⟨by rw[Yd hr],β',h',?_⟩
 have g2:=aT.fC g1
 exact⟨g2.glob,g2.holds,g2.ext,g2.old,g2.kept,g2.fix,rfl,fun t x hx=>(by simp at hx),g2.box,g2.inj⟩
end Go.Proofs
/- The parser,the program's side: words that must be there. -/
namespace Go.Proofs
open Go Go.Ab Go.RowKit
set_option maxHeartbeats 1000000
set_option maxRecDepth 100000
variable {G:IH}
noncomputable def mTk (b:Bool) (w:Tk) (t:List Tk) (e:Int):FuncId→List AV→List (Nat×List AV)→Option (AV×List (Nat×List AV)):=fun f _ _=>match f with
 | 110=>some (.d (qh w),pB t e)
 | 75=>some (.d (.ak [qh w,db b]),pB t e)
 | _=>none
noncomputable def EY (b:Bool) (w:Tk) (t:List Tk) (e:Int):dK:={ d:=d75 b,m:=mTk b w t e }
theorem Ag (w:ByteArray) (t:List Tk) (e:Int) (h:inB [w] (ah t)=true):aA Tryz.prog G 79 [.box 1000000 0,.d (ds w)] (pB t e) (.d (qh (dw e t))) (pB t.tail e):=by
 refine aA.aP (mv:=[]) (by kernel_rfl) Tryz.func79 rfl Tryz.call79 ?_
 refine aF (aj:=EY true (dw e t) t.tail e) (keep:=[]) (cuts:=[3]) (n:=1000) follows ?_
 refine au (fun ZT ZW ZQ _=>(fun Za=>(aA Tryz.prog G 75 [(.box 1000000 0),(.d (.slc 1 1 (aS false 1 [(ds w)])))] [(1000000,[(.d (.slc 2 t.length (aG t))),(vi e)])] (.d (.ak [(.agg [(ds (ah t)),(di (hdA e t))]),(db true)])) [(1000000,[Za,(vi e)])]∧((false=true)→ZW [cd Tryz.f79 [1,1,0,1,0],cd Tryz.f79 [1,1,1]] (aB ZT [0]) ZQ)∧((false=false)→((ZS ((.d (.agg [(ds (ah t)),(di (hdA e t))])):AV))∧((some [Za,(vi e)]):(Option (List AV)))=(some [Za,(vi e)])∧True)))) ((.d (.slc 2 t.tail.length (aG t.tail))):AV)) (by kernel_rfl) ?_
 exact⟨aA.st (gY [w] t e (by simp) h),fun c=>(by cases c),fun _=>⟨rfl,rfl,trivial⟩⟩
theorem AB (w:ByteArray) (t:List Tk) (e:Int) (h:inB [w] (ah t)=false):dH Tryz.prog G 79 [.box 1000000 0,.d (ds w)] (pB t e) (mkV (hdA e t)):=by
 refine dH.aP Tryz.func79 rfl Tryz.call79 ?_
 refine aF (aj:=EY false (dw e t) t e) (keep:=[]) (cuts:=[3,4]) (n:=1000) follows ?_
 refine au (fun ZT ZW ZQ _=>(aA Tryz.prog G 75 [(.box 1000000 0),(.d (.slc 1 1 (aS false 1 [(ds w)])))] [(1000000,[(.d (.slc 2 t.length (aG t))),(vi e)])] (.d (.ak [(.agg [(ds (ah t)),(di (hdA e t))]),(db false)])) [(1000000,[(.d (.slc 2 t.length (aG t))),(vi e)])]∧((true=true)→ZW [cd Tryz.f79 [1,1,0,1,0],cd Tryz.f79 [1,1,1]] (aB ZT [0]) ZQ)∧((true=false)→ZW [cd Tryz.f79 [1,1,1]] (aB ZT [1]) ZQ))) (by kernel_rfl) ?_
 refine⟨aA.st (ql [w] t e (by simp) h),fun _=>?_,fun c=>(by cases c)⟩
 refine aK.iq follows (EY false (dw e t) t e) 1 (mkV (hdA e t)) ?_
 refine au (fun _ _ _ _=>(dH Tryz.prog G 74 [(.box 1000000 0)] [(1000000,[(.d (.slc 2 t.length (aG t))),(vi e)])] (mkV (hdA e t))∧((.panic [(PanicEntry.mk (mkV (hdA e t)) false false)]):Exit)=(.panic [(PanicEntry.mk (mkV (hdA e t)) false false)])∧((some [.any,.any]):(Option (List AV)))=(some [.any,.any])∧True)) (by kernel_rfl) ?_
 exact⟨f74 t e,rfl,rfl,trivial⟩
theorem Og (t:List Tk) (e:Int) (hs:(ah t).size≤1000000) (h:nameB (ah t)=true):aA Tryz.prog G 78 [.box 1000000 0] (pB t e) (.d (ds (ah t))) (pB t.tail e):=by
 obtain ⟨h1,h2⟩:1≤t.length∧t.tail.length=t.length-1:=by
  cases t with
  | nil=>exact absurd h (by decide +kernel)
  | cons w t=>simp
 refine aA.aP (mv:=[]) (by kernel_rfl) Tryz.func78 rfl Tryz.call78 ?_
 refine aF (aj:=EY (nameB (ah t)) (dw e t) t e) (keep:=[]) (cuts:=[3]) (n:=1000) follows ?_
 refine au (fun ZT ZW ZQ ZK=>(aA Tryz.prog G 110 [(.box 1000000 0)] [(1000000,[(.d (.slc 2 t.length (aG t))),(vi e)])] (.d (.agg [(ds (ah t)),(di (hdA e t))])) [(1000000,[(.d (.slc 2 t.length (aG t))),(vi e)])]∧ZK 92 [(ds (ah t))] (db (nameB (ah t)))∧(((!nameB (ah t))=true)→ZW [cd Tryz.f78 [1,1,0,1,0],cd Tryz.f78 [1,1,1]] (aB ZT [0]) ZQ)∧(((!nameB (ah t))=false)→((((0:Int)≤(1:Int))∧(1≤(↑t.length:Int))∧((↑t.length:Int)≤↑t.length))∧(ZS ((vs (ah t)):AV))∧((some [(.d (.slc 2 ((↑t.length:Int)-1).toNat (fun i=>aG t (Int.toNat 1+i)))),(vi e)]):(Option (List AV)))=(some [(.d (.slc 2 t.tail.length (aG t.tail))),(vi e)])∧True)))) (by kernel_rfl) ?_
 rw[h]
 have e1:((t.length:Int)-1).toNat=t.tail.length:=by omega
 have e2:(fun i=>aG t (Int.toNat 1+i))=aG t.tail:=Kv t
 rw[e1,e2]
 exact⟨f110 t e,by rw[←h];exact f92 _ hs,fun c=>(by cases c),fun _=>⟨⟨by omega,by omega,by omega⟩,rfl,rfl,trivial⟩⟩
theorem JO (t:List Tk) (e:Int) (hs:(ah t).size≤1000000) (h:nameB (ah t)=false):dH Tryz.prog G 78 [.box 1000000 0] (pB t e) (mkV (hdA e t)):=by
 refine dH.aP Tryz.func78 rfl Tryz.call78 ?_
 refine aF (aj:=EY (nameB (ah t)) (dw e t) t e) (keep:=[]) (cuts:=[3,4]) (n:=1000) follows ?_
 refine au (fun ZT ZW ZQ ZK=>(aA Tryz.prog G 110 [(.box 1000000 0)] [(1000000,[(.d (.slc 2 t.length (aG t))),(vi e)])] (.d (.agg [(ds (ah t)),(di (hdA e t))])) [(1000000,[(.d (.slc 2 t.length (aG t))),(vi e)])]∧ZK 92 [(ds (ah t))] (db (nameB (ah t)))∧(((!nameB (ah t))=true)→ZW [cd Tryz.f78 [1,1,0,1,0],cd Tryz.f78 [1,1,1]] (aB ZT [0]) ZQ)∧(((!nameB (ah t))=false)→ZW [cd Tryz.f78 [1,1,1]] (aB ZT [1]) ZQ))) (by kernel_rfl) ?_
 rw[h]
 refine⟨f110 t e,by rw[←h];exact f92 _ hs,fun _=>?_,fun c=>(by cases c)⟩
 refine aK.iq follows (EY (nameB (ah t)) (dw e t) t e) 1 (mkV (hdA e t)) ?_
 refine au (fun _ _ _ _=>(dH Tryz.prog G 74 [(.box 1000000 0)] [(1000000,[(.d (.slc 2 t.length (aG t))),(vi e)])] (mkV (hdA e t))∧((.panic [(PanicEntry.mk (mkV (hdA e t)) false false)]):Exit)=(.panic [(PanicEntry.mk (mkV (hdA e t)) false false)])∧((some [.any,.any]):(Option (List AV)))=(some [.any,.any])∧True)) (by kernel_rfl) ?_
 exact⟨f74 t e,rfl,rfl,trivial⟩
end Go.Proofs
/- What is asked of the tape leaves the tape. -/
namespace Go.Ab
open Go
def Calm {α:Type}:Sem α→Prop
 | .pure _=>True
 | .load _ _ k=>∀v,Calm (k v)
 | .store _ _ _ _=>False
 | .new _ k=>∀n,Calm (k n)
 | .shape _ k=>∀x,Calm (k x)
 | .freeze _ _ _=>False
 | .frozen _ k=>∀x,Calm (k x)
 | .getObj _ k=>∀o,Calm (k o)
 | .setObj _ _ k=>Calm k
 | .choose _ k=>∀n,Calm (k n)
 | .sys _ _=>False
 | .program k=>∀p,Calm (k p)
 | .mark _ k=>Calm k
 | .halt _=>True
theorem jI {α β:Type} {f:α→Sem β} (h2:∀a,Calm (f a)):∀{s:Sem α},Calm s→Calm (s.bind f)
 | .pure a,_=>h2 a
 | .load _ _ _,h1=>fun v=>jI h2 (h1 v)
 | .store _ _ _ _,h1=>h1.elim
 | .new _ _,h1=>fun v=>jI h2 (h1 v)
 | .shape _ _,h1=>fun v=>jI h2 (h1 v)
 | .freeze _ _ _,h1=>h1.elim
 | .frozen _ _,h1=>fun v=>jI h2 (h1 v)
 | .getObj _ _,h1=>fun v=>jI h2 (h1 v)
 | .setObj _ _ k,h1=>jI h2 (s:=k) h1
 | .choose _ _,h1=>fun v=>jI h2 (h1 v)
 | .sys _ _,h1=>h1.elim
 | .program _,h1=>fun v=>jI h2 (h1 v)
 | .mark _ k,h1=>jI h2 (s:=k) h1
 | .halt _,_=>trivial
theorem jK {α:Type} {P:Program}:∀{s:Sem α} {w w':World} {a:α},Calm s→s.run P w=.ok a w'→w'.tape=w.tape
 | .pure _,w,w',a,_,h=>by simp only[Sem.run,Result.ok.injEq] at h;rw[←h.2]
 | .load m p k,w,w',a,hc,h=>by
  simp only[Sem.run] at h
  split at h
  ·exact jK (hc _) h
  ·split at h
   ·exact jK (hc _) h
   ·cases h
 | .store _ _ _ _,_,_,_,hc,_=>hc.elim
 | .new _ k,w,w',a,hc,h=>by simp only[Sem.run] at h;have:=jK (hc _) h;exact this
 | .shape _ k,w,w',a,hc,h=>by simp only[Sem.run] at h;exact jK (hc _) h
 | .freeze _ _ _,_,_,_,hc,_=>hc.elim
 | .frozen _ k,w,w',a,hc,h=>by simp only[Sem.run] at h;exact jK (hc _) h
 | .getObj _ k,w,w',a,hc,h=>by
  simp only[Sem.run] at h
  split at h
  ·cases h
  ·exact jK (hc _) h
  ·cases h
 | .setObj _ _ k,w,w',a,hc,h=>by
  simp only[Sem.run] at h
  split at h
  ·cases h
  ·have:=jK (s:=k) hc h
   exact this
  ·cases h
 | .choose _ k,w,w',a,hc,h=>by
  simp only[Sem.run] at h
  split at h
  ·exact jK (hc _) h
  ·have:=jK (hc _) h
   exact this
 | .sys _ _,_,_,_,hc,_=>hc.elim
 | .program k,w,w',a,hc,h=>by simp only[Sem.run] at h;exact jK (hc _) h
 | .mark _ k,w,w',a,hc,h=>by simp only[Sem.run] at h;exact jK (s:=k) hc h
 | .halt _,_,_,_,_,h=>by simp only[Sem.run] at h;cases h
theorem U7 (r:Nat) (ty:TypeId):Calm (Instr.next (.pointer (some ⟨r,0,none⟩)) false ty):=by
 unfold Instr.next
 refine jI (fun o=>?_) (fun o=>trivial)
 split
 ·rename_i h;cases h
 ·exact trivial
 ·refine jI (fun o2=>?_) (fun o=>trivial)
  split
  ·dsimp only
   split
   ·trivial
   ·refine jI (fun n=>?_) (fun n=>trivial)
    split<;>trivial
  ·exact trivial
 ·exact trivial
end Go.Ab
/- The kind of an operator: a range over a map. -/
namespace Go.Proofs
open Go Go.Ab Go.RowKit
set_option maxHeartbeats 4000000
set_option maxRecDepth 1000000
variable {G:IH}
theorem adO:aA Tryz.prog G 94 [] [] (.jP 900) [(900,[.mp (some .i64) (JU fun _=>ds .empty) Gv])]:=by
 refine aA.aP (mv:=[(1,900)]) (by kernel_rfl) Tryz.func94 rfl Tryz.call94 ?_
 refine aF (aj:=Fa) (keep:=[]) (cuts:=[]) (n:=1000) follows ?_
 refine au (fun _ _ _ _=>((ZS ((.jP 900):AV))∧((some [(.mp (some .i64) (eU (Value.int IntKind.i64 20) (ds (ByteArray.mk #[111,114])) (eU (Value.int IntKind.i64 19) (ds (ByteArray.mk #[97,110,100])) (eU (Value.int IntKind.i64 17) (ds (ByteArray.mk #[62,61])) (eU (Value.int IntKind.i64 16) (ds (ByteArray.mk #[62])) (eU (Value.int IntKind.i64 15) (ds (ByteArray.mk #[60,61])) (eU (Value.int IntKind.i64 14) (ds (ByteArray.mk #[60])) (eU (Value.int IntKind.i64 13) (ds (ByteArray.mk #[33,61])) (eU (Value.int IntKind.i64 12) (ds (ByteArray.mk #[61,61])) (eU (Value.int IntKind.i64 9) (ds (ByteArray.mk #[47])) (eU (Value.int IntKind.i64 8) (ds (ByteArray.mk #[42])) (eU (Value.int IntKind.i64 7) (ds (ByteArray.mk #[45])) (eU (Value.int IntKind.i64 6) (ds (ByteArray.mk #[43])) fun x=>ds (ByteArray.mk #[]))))))))))))) (dX (Value.int IntKind.i64 20) (dX (Value.int IntKind.i64 19) (dX (Value.int IntKind.i64 17) (dX (Value.int IntKind.i64 16) (dX (Value.int IntKind.i64 15) (dX (Value.int IntKind.i64 14) (dX (Value.int IntKind.i64 13) (dX (Value.int IntKind.i64 12) (dX (Value.int IntKind.i64 9) (dX (Value.int IntKind.i64 8) (dX (Value.int IntKind.i64 7) (dX (Value.int IntKind.i64 6) fun x=>false)))))))))))))]):(Option (List AV)))=(some [(.mp (some .i64) (JU fun x=>ds ByteArray.empty) Gv)])∧True)) (by kernel_rfl) ?_
 exact⟨rfl,rfl,trivial⟩
structure OpM (w:World) (bm:Nat) (es:Array MapEntry) (clock:Nat):Prop where
 hb:w.heap[bm]?=some (.map es clock)
 st:MapKept.Stamped es clock
 en:∀x∈es.toList,∃k,x.key=.int .i64 k∧x.val=.string (dQ k)∧dY k=true
 al:∀k,dY k=true→∃x∈es.toList,x.key=.int .i64 k
theorem abA {k:Int} (h:dY k=true):gq (dQ k)=k:=by
 have hk:k=6∨k=7∨k=8∨k=9∨k=12∨k=13∨k=14∨k=15∨k=16∨k=17∨k=19∨k=20:=by
  unfold dY at h;simp only[decide_eq_true_eq] at h;omega
 rcases hk with rfl|rfl|rfl|rfl|rfl|rfl|rfl|rfl|rfl|rfl|rfl|rfl<;>decide +kernel
theorem XH {s:ByteArray} (h:∀k,dY k=true→dQ k≠s):gq s=0:=by
 unfold gq
 rw[List.find?_eq_none.2]
 ·rfl
 ·intro k hk
  have:dY k=true:=by
   have:∀k∈([6,7,8,9,12,13,14,15,16,17,19,20]:List Int),dY k=true:=by decide +kernel
   exact this k hk
  simp[h k this]
theorem t88 (s:ByteArray) (w:World) {RR:World→Prop} (h94:Calls Tryz.prog 94 #[] w fun e w'=>∃bm es clock,e=.returned (.map (some bm))∧OpM w' bm es clock∧RR w') :
  Calls Tryz.prog 88 #[.string s] w fun e w'=>e=.returned (.int .i64 (gq s))∧∃(w0 w1:World) (o:Obj),RR w0∧w1.Alike w0∧w1.tape=w0.tape∧w'=w1.alloc o:=by
 go_enter Tryz.func88,(show Tryz.f88.ntmps=16 from rfl)
 go_wp2_with (go_at_call 94;refine h94.mono ?_;rintro e w0 ⟨bm,es,clock,rfl,M,hR⟩)
 have hrg:=run_range_map (P:=Tryz.prog) w0 117 3 9 bm es clock Tryz.underlying117 M.hb
 rw[hrg]
 go_wp2
 go_loopw [] (fun w'=>∃(w1:World) (seen:Array Nat),w1.Alike w0∧w1.tape=w0.tape∧w'=w1.alloc (.mapIter (some bm) clock seen clock)∧∀x∈es.toList,seen.contains x.born=true→x.val≠.string s) (fun w'=>(leftOf es (w'.iterSeen w0.heap.size)).size)
 case atStart=>exact⟨w0,#[],⟨rfl,rfl,rfl⟩,rfl,rfl,fun x _ h=>by simp at h⟩
 case round=>
  obtain ⟨w1,seen,hal,htp,rfl,hno⟩:=hrel
  have hsz:w1.heap.size=w0.heap.size:=by rw[hal.1]
  have hb1:w1.heap[bm]?=some (.map es clock):=by rw[hal.1];exact M.hb
  have law:=run_next_map (P:=Tryz.prog) w1 0 bm clock clock seen es clock hb1 M.st.1 (Nat.le_refl _)
  rw[hsz] at law
  rcases law with ⟨h0,hrun⟩|⟨e,he,w2,hal2,hrun⟩
  ·have hnx:∀ty,(Instr.next (.pointer (some ⟨w0.heap.size,0,none⟩)) false ty).run Tryz.prog (w1.alloc (.mapIter (some bm) clock seen clock))=_:=fun _=>hrun
   go_wp2
   go_ret
   have hk:gq s=0:=by
    refine XH fun k hk he=>?_
    obtain ⟨x,hx,hxk⟩:=M.al k hk
    obtain ⟨k',h1,h2,h3⟩:=M.en x hx
    rw[hxk] at h1
    injection h1 with _ h1
    subst h1
    exact hno x hx (all_seen es seen h0 x hx) (by rw[h2,he])
   rw[hk]
   exact⟨rfl,w0,w1,_,hR,hal,htp,rfl⟩
  ·have abX:w2.tape=w1.tape:=by
    have:=jK (U7 w0.heap.size 0) hrun
    exact this
   obtain ⟨k,hek,hev,hkb⟩:=M.en e (mem_left he).1
   rw[hek,hev] at hrun
   have hnx:∀ty,(Instr.next (.pointer (some ⟨w0.heap.size,0,none⟩)) false ty).run Tryz.prog (w1.alloc (.mapIter (some bm) clock seen clock))=_:=fun _=>hrun
   have hsz2:w2.heap.size=w0.heap.size:=by rw[hal2.1,hal.1]
   have hb2:w2.heap[bm]?=some (.map es clock):=by rw[hal2.1];exact hb1
   have hen:=run_entry_map (P:=Tryz.prog) w2 bm clock seen es clock e hb2 (mem_left he).1 M.st.2.1
   rw[hsz2,hek,hev] at hen
   have hal3:w2.Alike w0:=⟨hal2.1.trans hal.1,hal2.2.1.trans hal.2.1,hal2.2.2.trans hal.2.2⟩
   go_wp2
   ·rename_i heq
    go_ret
    have hs:dQ k=s:=by
     rw[gQ] at heq
     simpa using heq
    subst hs
    rw[abA hkb]
    exact⟨rfl,w0,w2,_,hR,hal3,abX.trans htp,rfl⟩
   ·rename_i hne
    go_roundw
    case rel=>
     refine⟨w2,seen.push e.born,hal3,abX.trans htp,rfl,fun x hx hc=>?_⟩
     rw[contains_push] at hc
     rcases Bool.or_eq_true _ _▸hc with h1|h1
     ·exact hno x hx h1
     ·have:x=e:=born_inj M.st.2.1 hx (mem_left he).1 (beq_iff_eq.1 h1)
      subst this
      rw[hev]
      intro hh
      injection hh with hh
      rw[gQ] at hne
      simp[hh] at hne
    case measure=>
     rw[←hsz2,World.iterSeen_alloc,hsz2,←hsz,World.iterSeen_alloc]
     exact left_shrinks es seen e he
theorem f88 (s:ByteArray):ay Tryz.prog G 88 [ds s] (di (gq s)):=by
 refine⟨Tryz.call88,fun w h us hG hw hu=>?_⟩
 obtain ⟨v,us',rfl,hv,hu'⟩:=hu
 have hv:v=.string s:=hv
 have hu':us'=[]:=hu'
 subst hv;subst hu'
 have g:aT G ⟨fun _=>False,fun _=>0⟩ w h ⟨[],[]⟩ (fun _=>0) h #[] w:=
  ⟨hG,hw,IH.le.refl _,fun _ _ _=>⟨fun _=>rfl,rfl⟩,Kept.refl _ _,fun _ _=>⟨rfl,rfl,rfl⟩,rfl,fun t x hx=>(by simp at hx),fun s l hb=>(by simp[AS.box,Go.Ab.look] at hb),fun s s' l l' hb=>(by simp[AS.box,Go.Ab.look] at hb)⟩
 refine(t88 s w (RR:=fun w0=>∃h',h.le h'∧h'.holds w0∧Kept (fun _=>False) w w0∧∀b,b<w.heap.size→(∀o,h'.cell b o=h.cell b o)∧h'.obj b=h.obj b) ?_).mono ?_
 ·refine((adO (G:=G)).2 _ w h _ #[] g).mono ?_
  rintro e w0 ⟨r,β',h',rfl,g1⟩
  obtain ⟨r',e1,hr⟩:=g1.regs 0 _ rfl
  obtain rfl:r=r':=by simpa using e1
  obtain ⟨_,hO⟩:=g1.box 900 _ rfl
  obtain ⟨es,clock,q1,q2,q3,q4⟩:=id hO
  have hr:r=.map (some (blk β' 900)):=hr
  refine⟨blk β' 900,es,clock,by rw[hr],⟨q1,q2,fun x hx=>?_,fun k hk=>?_⟩,h',g1.ext,g1.holds,g1.kept.mono fun _ h=>h,fun b hb=>g1.old b hb id⟩
  ·obtain ⟨p1,p2,p3⟩:=q3 x hx
   cases hk:x.key<;>rw[hk] at p1<;>simp only[nX,MapKept.IsKey] at p1
   subst p1
   rename_i n
   rw[hk] at p2 p3
   refine⟨n,rfl,?_,?_⟩
   ·simp only[JU,eU,qy,decide_true,Bool.true_and,QU] at p3
    exact p3
   ·simp only[Gv,dX,qy,decide_true,Bool.true_and,Bool.or_false] at p2
    unfold dY
    simp only[Bool.or_eq_true,decide_eq_true_eq] at p2
    exact decide_eq_true (by omega)
  ·refine q4 (.int .i64 k) (by simp[nX,MapKept.IsKey]) ?_
   unfold dY at hk
   have hk:=of_decide_eq_true hk
   simp only[Gv,dX,qy,decide_true,Bool.true_and,Bool.or_false,Bool.or_eq_true,decide_eq_true_eq]
   omega
 ·rintro e w' ⟨rfl,w0,w1,o,⟨h',p1,p2,p3,p4⟩,hal,htp,rfl⟩
  have hh:h'.holds (w1.alloc o):=by
   refine lN (?_:h'.holds w1) o
   refine⟨fun b o v e=>?_,fun b o e=>?_⟩
   ·have:=p2.1 b o v e
    simp only[World.cell?] at this⊢
    rw[hal.1];exact this
   ·rw[hal.1];exact p2.2 b o e
  refine⟨_,h',rfl,rfl,p1,hh,?_,p4⟩
  refine⟨hal.2.1.trans p3.os,htp.trans p3.tape,hal.2.2.trans p3.output,?_,fun k hk hn=>?_⟩
  ·have:=p3.size
   show w.heap.size≤(w1.heap.push o).size
   rw[hal.1,Array.size_push];omega
  ·have:=p3.size
   show (w1.heap.push o)[k]?=_
   rw[hal.1,Array.getElem?_push_lt (by omega),←p3.block k hk hn,Array.getElem?_eq_getElem (by omega)]
end Go.Proofs
/- A cell of a box is seen as something weaker. -/
namespace Go.Ab
open Go Go.RowKit
theorem KU {β:Nat→Nat} {h:IH} {x y:AV} (hxy:∀v,x.rel β h v→y.rel β h v):∀{l:List AV} {us:List Value} {i:Nat},l[i]?=some x→AV.aH β h l us→AV.aH β h (l.set i y) us
 | [],_,_,hx,_=>by simp at hx
 | z :: l,_,0,hx,⟨v,us,e,r,rs⟩=>by
  simp only[List.getElem?_cons_zero,aI] at hx
  subst hx
  exact⟨v,us,e,hxy v r,rs⟩
 | z :: l,_,i+1,hx,⟨v,us,e,r,rs⟩=>⟨v,us,e,r,KU hxy (by simpa using hx) rs⟩
theorem AS.dZ.cell (st:AS) (b i:Nat) {l:List AV} {x:AV} (y:AV) (hl:st.box b=some l) (hpl:bg l=true) (hx:l[i]?=some x) (_:bg (l.set i y)=true) (hxy:∀(β:Nat→Nat) (h:IH) (v:Value),x.rel β h v→y.rel β h v):st.dZ ⟨st.regs,setCells b i y st.boxes⟩:=by
 intro G F w0 h0 β h tm w g
 have key:∀t l1,look (setCells b i y st.boxes) t=some l1→∃l0,st.box t=some l0∧(Live β t l1→Live β t l0)∧(Own β h t l0 w.heap[blk β t]?→Own β h t l1 w.heap[blk β t]?):=by
  intro t l1 h1
  rw[gu] at h1
  split at h1
  ·rename_i ht
   subst ht
   have hb:look st.boxes t=some l:=hl
   rw[hb] at h1
   simp only[Option.map_some,aI] at h1
   subst h1
   refine⟨l,hl,fun _=>Live.plain hpl,fun hO=>?_⟩
   rw[Own.plain hpl] at hO
   obtain ⟨T,us,e,r⟩:=hO
   exact Own.of (T:=T.1) T.2 e (KU (hxy β h) hx r)
  ·exact⟨l1,h1,id,id⟩
 refine⟨β,g.glob,g.holds,g.ext,g.old,g.kept,g.fix,g.size,g.regs,fun t l1 h1=>?_,fun t t' l1 l2 h1 h2 k1 k2 he=>?_⟩
 ·obtain ⟨l0,e0,hL,hO⟩:=key t l1 h1
  obtain ⟨p1,p2⟩:=g.box t l0 e0
  exact⟨fun hl=>p1 (hL hl),hO p2⟩
 ·obtain ⟨l0,e0,hL,_⟩:=key t l1 h1
  obtain ⟨l0',e0',hL',_⟩:=key t' l2 h2
  exact g.inj t t' l0 l0' e0 e0' (hL k1) (hL' k2) he
end Go.Ab
/- The parser,the program's side: expressions of a level: prefixes. -/
namespace Go.Proofs
open Go Go.Ab Go.RowKit
set_option maxHeartbeats 4000000
set_option maxRecDepth 100000
variable {G:IH}
abbrev fD (x:Ex):DV:=jG (ht x) x
theorem Qh:∀(m M:Nat) (x:Ex),ht x≤m→ht x≤M→∀(h:IH) (v:Value),DV.rel h (jG m x) v→DV.rel h (jG M x) v:=by
 intro m
 induction m with
 | zero=>
  intro M x hx _ h v hv
  have hk:x.kids=[]:=by
   refine Classical.byContradiction fun hh=>?_
   have:0<x.kids.length:=List.length_pos_iff.2 hh
   have:=qV this
   omega
  have e:∀f g:Nat→DV,∀w,DV.rel h (.slc 6 x.kids.length f) w→DV.rel h (.slc 6 x.kids.length g) w:=fun f g w ⟨p,cap,e,hc,r⟩=>⟨p,cap,e,hc,.inl (by rw[hk];rfl)⟩
  obtain ⟨vs,rfl,v1,u1,rfl,a1,v2,u2,rfl,a2,v3,u3,rfl,a3,v4,u4,rfl,a4,v5,u5,rfl,a5,v6,u6,rfl,a6,a7⟩:=hv
  exact⟨_,rfl,v1,_,rfl,a1,v2,_,rfl,a2,v3,_,rfl,a3,v4,_,rfl,a4,v5,_,rfl,a5,v6,_,rfl,e _ _ _ a6,a7⟩
 | succ m ih=>
  intro M x hx hM h v hv
  have e:∀w,DV.rel h (.slc 6 x.kids.length (lay (cu (m+1)) x.kids)) w→DV.rel h (.slc 6 x.kids.length (lay (cu M) x.kids)) w:=by
   rintro w ⟨p,cap,e,hc,r⟩
   refine⟨p,cap,e,hc,r.imp id ?_⟩
   rintro ⟨b,off,hp,r⟩
   refine⟨b,off,hp,fun i hi=>?_⟩
   obtain ⟨u,hu,h1,h2⟩:=r i hi
   have k1:=qV hi
   obtain ⟨M',rfl⟩:∃M',M=M'+1:=⟨M-1,by omega⟩
   exact⟨u,ih M' (x.kids.getD i aJ) (by omega) (by omega) h u hu,h1,h2⟩
  obtain ⟨vs,rfl,v1,u1,rfl,a1,v2,u2,rfl,a2,v3,u3,rfl,a3,v4,u4,rfl,a4,v5,u5,rfl,a5,v6,u6,rfl,a6,a7⟩:=hv
  exact⟨_,rfl,v1,_,rfl,a1,v2,_,rfl,a2,v3,_,rfl,a3,v4,_,rfl,a4,v5,_,rfl,a5,v6,_,rfl,e _ a6,a7⟩
theorem F8 {l:List Ex} {f:Nat→DV} {x:Ex} (hx:x.kids=l) {h:IH} (hf:∀i,i<l.length→∀v,DV.rel h (f i) v→DV.rel h (fD (l.getD i aJ)) v) {v:Value} (hv:DV.rel h (.slc 6 l.length f) v):DV.rel h (.slc 6 l.length (lay (cu (ht x)) l)) v:=by
 subst hx
 refine FU (fun i hi v hv=>?_) hv
 have k1:=qV hi
 obtain ⟨M,hM⟩:∃M,ht x=M+1:=⟨ht x-1,by omega⟩
 have h1:=Qh _ M (x.kids.getD i aJ) (Nat.le_refl _) (by omega) h v (hf i hi v hv)
 rw[hM]
 exact h1
theorem aau {x y:Ex} (hx:x.kids=[y]) {h:IH} {v:Value} (hv:DV.rel h (.slc 6 1 (aS true 6 [di y.k,ds y.s,di y.n,di y.d,di y.pos,.slc 6 y.kids.length (lay (cu (ht y)) y.kids)])) v):DV.rel h (.slc 6 1 (lay (cu (ht x)) [y])) v:=by
 refine F8 hx (l:=[y]) (fun i hi v hv=>?_) hv
 have hi:i<1:=hi
 obtain rfl:i=0:=by omega
 exact hv
theorem JV {x y z:Ex} (hx:x.kids=[y,z]) {h:IH} {v:Value} (hv:DV.rel h (.slc 6 2 (aS true 6 [di y.k,ds y.s,di y.n,di y.d,di y.pos,.slc 6 y.kids.length (lay (cu (ht y)) y.kids),di z.k,ds z.s,di z.n,di z.d,di z.pos,.slc 6 z.kids.length (lay (cu (ht z)) z.kids)])) v):DV.rel h (.slc 6 2 (lay (cu (ht x)) [y,z])) v:=by
 refine F8 hx (l:=[y,z]) (fun i hi v hv=>?_) hv
 rcases i with _|_|i
 ·exact hv
 ·exact hv
 ·have hi:i+2<2:=hi
  omega
theorem Bv {k a:Int} {y:Ex} {h:IH} {v:Value} (hv:DV.rel h (.agg [di k,ds .empty,di 0,di 0,di a,.slc 6 1 (aS true 6 [di y.k,ds y.s,di y.n,di y.d,di y.pos,.slc 6 y.kids.length (lay (cu (ht y)) y.kids)])]) v):DV.rel h (fD (.mk k .empty 0 0 a [y])) v:=by
 obtain ⟨vs,rfl,v1,u1,rfl,a1,v2,u2,rfl,a2,v3,u3,rfl,a3,v4,u4,rfl,a4,v5,u5,rfl,a5,v6,u6,rfl,a6,a7⟩:=hv
 exact⟨_,rfl,v1,_,rfl,a1,v2,_,rfl,a2,v3,_,rfl,a3,v4,_,rfl,a4,v5,_,rfl,a5,v6,_,rfl,aau (x:=.mk k .empty 0 0 a [y]) rfl a6,a7⟩
theorem aA.resD {f:FuncId} {args:List AV} {pre post:List (Nat×List AV)} {d d':DV} (h:aA Tryz.prog G f args pre (.d d) post) (hd:∀(k:IH) (v:Value),DV.rel k d v→DV.rel k d' v):aA Tryz.prog G f args pre (.d d') post:=
 ⟨h.1,fun F w h0 β us g=>(h.2 F w h0 β us g).mono fun e w' ⟨v,β',h',e1,g1⟩=>⟨v,β',h',e1,g1.glob,g1.holds,g1.ext,g1.old,g1.kept,g1.fix,g1.size,fun t x hx=>by
  cases t with
  | zero=>
   obtain rfl:AV.d d'=x:=by simpa using hx
   obtain ⟨u,e2,hr⟩:=g1.regs 0 (.d d) rfl
   exact⟨u,e2,hd h' u hr⟩
  | succ t=>simp at hx,g1.box,g1.inj⟩⟩
noncomputable def mPl (b:Bool) (w:Tk) (t1:List Tk) (x:Ex) (r:List Tk) (e:Int):FuncId→List AV→List (Nat×List AV)→Option (AV×List (Nat×List AV)):=fun f _ _=>match f with
 | 75=>some (.d (.ak [qh w,db b]),pB t1 e)
 | 44=>some (.d (fD x),pB r e)
 | 86=>some (.d (fD x),pB r e)
 | _=>none
noncomputable def dPl (k:Int):cZ:=fun f _=>match f with
 | 87=>some UH
 | 88=>some (di k)
 | _=>none
noncomputable def iQ (b:Bool) (w:Tk) (t1:List Tk) (x:Ex) (r:List Tk) (e k:Int):dK:={ d:=dPl k,m:=mPl b w t1 x r e }
def jo (G:IH) (n:Nat) (t:List Tk) (e:Int):Rs→Prop
 | .ok x r=>aA Tryz.prog G 44 [.box 1000000 0,.d (di n)] (pB t e) (.d (fD x)) (pB r e)
 | .bad r=>dH Tryz.prog G 44 [.box 1000000 0,.d (di n)] (pB t e) (mkV (hdA e r))
def yA (G:IH) (t:List Tk) (e:Int):Rs→Prop
 | .ok x r=>aA Tryz.prog G 86 [.box 1000000 0] (pB t e) (.d (fD x)) (pB r e)
 | .bad r=>dH Tryz.prog G 86 [.box 1000000 0] (pB t e) (mkV (hdA e r))
theorem jr {t:List Tk} (e:Int) (h:ah t≠.empty):hdA e t=hdA 0 t:=by
 cases t with
 | nil=>exact absurd rfl h
 | cons w t=>rfl
theorem abJ (t:List Tk) (e:Int) (hh:ah t=notS) (R:Rs) (h:jo G 2 t.tail e R):jo G 2 t e (R.yG fun x=>.mk 18 .empty 0 0 (hdA 0 t) [x]):=by
 have Ak:aA Tryz.prog G 75 [.box 1000000 0,.d (st1 [notS])] (pB t e) (.d (.ak [qh (dw e t),db true])) (pB t.tail e):=aA.st (gY [notS] t e (by simp) (by rw[hh];decide +kernel))
 rw[←jr e (show ah t≠.empty by rw[hh];decide)]
 cases R with
 | ok x r=>
  refine aA.resD (d:=.agg [di 18,ds .empty,di 0,di 0,di (hdA e t),.slc 6 1 (aS true 6 [di x.k,ds x.s,di x.n,di x.d,di x.pos,.slc 6 x.kids.length (lay (cu (ht x)) x.kids)])]) ?_ fun k v hv=>Bv hv
  refine aA.aP (mv:=[]) (by kernel_rfl) Tryz.func44 rfl Tryz.call44 ?_
  refine aF (aj:=iQ true (dw e t) t.tail x r e 0) (keep:=[]) (cuts:=[7,8]) (n:=1000) follows ?_
  refine au (fun ZT ZW ZQ _=>(fun Za=>(((true=true)→(aA Tryz.prog G 75 [(.box 1000000 0),(.d (.slc 1 1 (aS false 1 [(ds (ByteArray.mk #[110,111,116]))])))] [(1000000,[(.d (.slc 2 t.length (aG t))),(vi e)])] (.d (.ak [(.agg [(ds (ah t)),(di (hdA e t))]),(db true)])) [(1000000,[(.d (.slc 2 t.tail.length (aG t.tail))),(vi e)])]∧((true=true)→(aA Tryz.prog G 44 [(.box 1000000 0),(vi 2)] [(1000000,[(.d (.slc 2 t.tail.length (aG t.tail))),(vi e)])] (.d (aN (ht x) x)) [(1000000,[(.d (.slc 2 r.length (aG r))),(vi e)])]∧((.d (.agg [(di 18),(ds (ByteArray.mk #[])),(di 0),(di 0),(di (hdA e t)),Za])):AV)=(.d (.agg [(di 18),(ds ByteArray.empty),(di 0),(di 0),(di (hdA e t)),Za]))∧((some [(.d (.slc 2 r.length (aG r))),(vi e)]):(Option (List AV)))=(some [(.d (.slc 2 r.length (aG r))),(vi e)])∧True))∧((true=false)→ZW [cd Tryz.f44 [1,1,0,1,0,1,0,1],(.blk 0),cd Tryz.f44 [1,1,1]] (aB ZT [0,1]) ZQ)))∧((true=false)→ZW [cd Tryz.f44 [1,1,0,1,0,1,1],(.blk 0),cd Tryz.f44 [1,1,1]] (aB ZT [1]) ZQ))) ((.slc 6 1 (aS true 6 [(di x.k),(ds x.s),(di x.n),(di x.d),(di x.pos),(.slc 6 x.kids.length (lay (cu (ht x)) x.kids))])):DV)) (by kernel_rfl) ?_
  exact⟨fun _=>⟨Ak,fun _=>⟨h,rfl,rfl,trivial⟩,fun c=>(by cases c)⟩,fun c=>(by cases c)⟩
 | bad r=>
  refine dH.aP Tryz.func44 rfl Tryz.call44 ?_
  refine aF (aj:=iQ true (dw e t) t.tail aJ [] e 0) (keep:=[]) (cuts:=[6,7,8]) (n:=1000) follows ?_
  refine au (fun ZT ZW ZQ _=>(((true=true)→(aA Tryz.prog G 75 [(.box 1000000 0),(.d (.slc 1 1 (aS false 1 [(ds (ByteArray.mk #[110,111,116]))])))] [(1000000,[(.d (.slc 2 t.length (aG t))),(vi e)])] (.d (.ak [(.agg [(ds (ah t)),(di (hdA e t))]),(db true)])) [(1000000,[(.d (.slc 2 t.tail.length (aG t.tail))),(vi e)])]∧((true=true)→ZW [cd Tryz.f44 [1,1,0,1,0,1,0,0,1,1,0],cd Tryz.f44 [1,1,0,1,0,1,0,1],(.blk 0),cd Tryz.f44 [1,1,1]] (aB ZT [0,0]) ZQ)∧((true=false)→ZW [cd Tryz.f44 [1,1,0,1,0,1,0,1],(.blk 0),cd Tryz.f44 [1,1,1]] (aB ZT [0,1]) ZQ)))∧((true=false)→ZW [cd Tryz.f44 [1,1,0,1,0,1,1],(.blk 0),cd Tryz.f44 [1,1,1]] (aB ZT [1]) ZQ))) (by kernel_rfl) ?_
  refine⟨fun _=>⟨Ak,fun _=>?_,fun c=>(by cases c)⟩,fun c=>(by cases c)⟩
  refine aK.iq follows (iQ true (dw e t) t.tail aJ [] e 0) 3 (mkV (hdA e r)) ?_
  refine au (fun _ _ _ _=>(dH Tryz.prog G 44 [(.box 1000000 0),(vi 2)] [(1000000,[(.d (.slc 2 t.tail.length (aG t.tail))),(vi e)])] (mkV (hdA e r))∧((.panic [(PanicEntry.mk (mkV (hdA e r)) false false)]):Exit)=(.panic [(PanicEntry.mk (mkV (hdA e r)) false false)])∧((some [.any,.any]):(Option (List AV)))=(some [.any,.any])∧True)) (by kernel_rfl) ?_
  exact⟨h,rfl,rfl,trivial⟩
theorem aav (t:List Tk) (e:Int) (hh:ah t≠notS) (R:Rs) (h:jo G 3 t e R):jo G 2 t e R:=by
 have Ak:aA Tryz.prog G 75 [.box 1000000 0,.d (st1 [notS])] (pB t e) (.d (.ak [qh (dw e t),db false])) (pB t e):=aA.st (ql [notS] t e (by simp) (by rw[nS _ _ (by decide),decide_eq_false hh]))
 cases R with
 | ok x r=>
  refine aA.aP (mv:=[]) (by kernel_rfl) Tryz.func44 rfl Tryz.call44 ?_
  refine aF (aj:=iQ false (dw e t) t x r e 0) (keep:=[]) (cuts:=[6,8]) (n:=1000) follows ?_
  refine au (fun ZT ZW ZQ _=>(((true=true)→(aA Tryz.prog G 75 [(.box 1000000 0),(.d (.slc 1 1 (aS false 1 [(ds (ByteArray.mk #[110,111,116]))])))] [(1000000,[(.d (.slc 2 t.length (aG t))),(vi e)])] (.d (.ak [(.agg [(ds (ah t)),(di (hdA e t))]),(db false)])) [(1000000,[(.d (.slc 2 t.length (aG t))),(vi e)])]∧((false=true)→ZW [cd Tryz.f44 [1,1,0,1,0,1,0,0,1,1,0],cd Tryz.f44 [1,1,0,1,0,1,0,1],(.blk 0),cd Tryz.f44 [1,1,1]] (aB ZT [0,0]) ZQ)∧((false=false)→(((I64 (2+1))∧aA Tryz.prog G 44 [(.box 1000000 0),(vi 3)] [(1000000,[(.d (.slc 2 t.length (aG t))),(vi e)])] (.d (aN (ht x) x)) [(1000000,[(.d (.slc 2 r.length (aG r))),(vi e)])])∧(ZS ((.d (aN (ht x) x)):AV))∧((some [(.d (.slc 2 r.length (aG r))),(vi e)]):(Option (List AV)))=(some [(.d (.slc 2 r.length (aG r))),(vi e)])∧True))))∧((true=false)→ZW [cd Tryz.f44 [1,1,0,1,0,1,1],(.blk 0),cd Tryz.f44 [1,1,1]] (aB ZT [1]) ZQ))) (by kernel_rfl) ?_
  exact⟨fun _=>⟨Ak,fun c=>(by cases c),fun _=>⟨⟨⟨by omega,by omega⟩,h⟩,rfl,rfl,trivial⟩⟩,fun c=>(by cases c)⟩
 | bad r=>
  refine dH.aP Tryz.func44 rfl Tryz.call44 ?_
  refine aF (aj:=iQ false (dw e t) t aJ [] e 0) (keep:=[]) (cuts:=[6,7,8]) (n:=1000) follows ?_
  refine au (fun ZT ZW ZQ _=>(((true=true)→(aA Tryz.prog G 75 [(.box 1000000 0),(.d (.slc 1 1 (aS false 1 [(ds (ByteArray.mk #[110,111,116]))])))] [(1000000,[(.d (.slc 2 t.length (aG t))),(vi e)])] (.d (.ak [(.agg [(ds (ah t)),(di (hdA e t))]),(db false)])) [(1000000,[(.d (.slc 2 t.length (aG t))),(vi e)])]∧((false=true)→ZW [cd Tryz.f44 [1,1,0,1,0,1,0,0,1,1,0],cd Tryz.f44 [1,1,0,1,0,1,0,1],(.blk 0),cd Tryz.f44 [1,1,1]] (aB ZT [0,0]) ZQ)∧((false=false)→ZW [cd Tryz.f44 [1,1,0,1,0,1,0,1],(.blk 0),cd Tryz.f44 [1,1,1]] (aB ZT [0,1]) ZQ)))∧((true=false)→ZW [cd Tryz.f44 [1,1,0,1,0,1,1],(.blk 0),cd Tryz.f44 [1,1,1]] (aB ZT [1]) ZQ))) (by kernel_rfl) ?_
  refine⟨fun _=>⟨Ak,fun c=>(by cases c),fun _=>?_⟩,fun c=>(by cases c)⟩
  refine aK.iq follows (iQ false (dw e t) t aJ [] e 0) 3 (mkV (hdA e r)) ?_
  refine au (fun _ _ _ _=>(((I64 (↑2+1))∧dH Tryz.prog G 44 [(.box 1000000 0),(vi 3)] [(1000000,[(.d (.slc 2 t.length (aG t))),(vi e)])] (mkV (hdA e r)))∧((.panic [(PanicEntry.mk (mkV (hdA e r)) false false)]):Exit)=(.panic [(PanicEntry.mk (mkV (hdA e r)) false false)])∧((some [.any,.any]):(Option (List AV)))=(some [.any,.any])∧True)) (by kernel_rfl) ?_
  exact⟨⟨⟨by omega,by omega⟩,h⟩,rfl,rfl,trivial⟩
theorem acg (t:List Tk) (e:Int) (hh:ah t=gV) (R:Rs) (h:jo G 6 t.tail e R):jo G 6 t e (R.yG fun x=>.mk 5 .empty 0 0 (hdA 0 t) [x]):=by
 have Ak:aA Tryz.prog G 75 [.box 1000000 0,.d (st1 [gV])] (pB t e) (.d (.ak [qh (dw e t),db true])) (pB t.tail e):=aA.st (gY [gV] t e (by simp) (by rw[hh];decide +kernel))
 rw[←jr e (show ah t≠.empty by rw[hh];decide)]
 cases R with
 | ok x r=>
  refine aA.resD (d:=.agg [di 5,ds .empty,di 0,di 0,di (hdA e t),.slc 6 1 (aS true 6 [di x.k,ds x.s,di x.n,di x.d,di x.pos,.slc 6 x.kids.length (lay (cu (ht x)) x.kids)])]) ?_ fun k v hv=>Bv hv
  refine aA.aP (mv:=[]) (by kernel_rfl) Tryz.func44 rfl Tryz.call44 ?_
  refine aF (aj:=iQ true (dw e t) t.tail x r e 0) (keep:=[]) (cuts:=[4,12,13]) (n:=1000) follows ?_
  refine au (fun ZT ZW ZQ _=>(fun Za=>(((false=true)→ZW [cd Tryz.f44 [1,1,0,1,0,1,0,0],cd Tryz.f44 [1,1,0,1,0,1,0,1],(.blk 0),cd Tryz.f44 [1,1,1]] (aB ZT [0]) ZQ)∧((false=false)→(((true=true)→(aA Tryz.prog G 75 [(.box 1000000 0),(.d (.slc 1 1 (aS false 1 [(ds (ByteArray.mk #[45]))])))] [(1000000,[(.d (.slc 2 t.length (aG t))),(vi e)])] (.d (.ak [(.agg [(ds (ah t)),(di (hdA e t))]),(db true)])) [(1000000,[(.d (.slc 2 t.tail.length (aG t.tail))),(vi e)])]∧((true=true)→(aA Tryz.prog G 44 [(.box 1000000 0),(vi 6)] [(1000000,[(.d (.slc 2 t.tail.length (aG t.tail))),(vi e)])] (.d (aN (ht x) x)) [(1000000,[(.d (.slc 2 r.length (aG r))),(vi e)])]∧((.d (.agg [(di 5),(ds (ByteArray.mk #[])),(di 0),(di 0),(di (hdA e t)),Za])):AV)=(.d (.agg [(di 5),(ds ByteArray.empty),(di 0),(di 0),(di (hdA e t)),Za]))∧((some [(.d (.slc 2 r.length (aG r))),(vi e)]):(Option (List AV)))=(some [(.d (.slc 2 r.length (aG r))),(vi e)])∧True))∧((true=false)→ZW [cd Tryz.f44 [1,1,0,1,0,1,1,1,0,1],(.blk 0),cd Tryz.f44 [1,1,1]] (aB ZT [1,0,1]) ZQ)))∧((true=false)→ZW [cd Tryz.f44 [1,1,0,1,0,1,1,1,1],(.blk 0),cd Tryz.f44 [1,1,1]] (aB ZT [1,1]) ZQ))))) ((.slc 6 1 (aS true 6 [(di x.k),(ds x.s),(di x.n),(di x.d),(di x.pos),(.slc 6 x.kids.length (lay (cu (ht x)) x.kids))])):DV)) (by kernel_rfl) ?_
  exact⟨fun c=>(by cases c),fun _=>⟨fun _=>⟨Ak,fun _=>⟨h,rfl,rfl,trivial⟩,fun c=>(by cases c)⟩,fun c=>(by cases c)⟩⟩
 | bad r=>
  refine dH.aP Tryz.func44 rfl Tryz.call44 ?_
  refine aF (aj:=iQ true (dw e t) t.tail aJ [] e 0) (keep:=[]) (cuts:=[4,11,12,13]) (n:=1000) follows ?_
  refine au (fun ZT ZW ZQ _=>(((false=true)→ZW [cd Tryz.f44 [1,1,0,1,0,1,0,0],cd Tryz.f44 [1,1,0,1,0,1,0,1],(.blk 0),cd Tryz.f44 [1,1,1]] (aB ZT [0]) ZQ)∧((false=false)→(((true=true)→(aA Tryz.prog G 75 [(.box 1000000 0),(.d (.slc 1 1 (aS false 1 [(ds (ByteArray.mk #[45]))])))] [(1000000,[(.d (.slc 2 t.length (aG t))),(vi e)])] (.d (.ak [(.agg [(ds (ah t)),(di (hdA e t))]),(db true)])) [(1000000,[(.d (.slc 2 t.tail.length (aG t.tail))),(vi e)])]∧((true=true)→ZW [cd Tryz.f44 [1,1,0,1,0,1,1,1,0,0,1,1,0],cd Tryz.f44 [1,1,0,1,0,1,1,1,0,1],(.blk 0),cd Tryz.f44 [1,1,1]] (aB ZT [1,0,0]) ZQ)∧((true=false)→ZW [cd Tryz.f44 [1,1,0,1,0,1,1,1,0,1],(.blk 0),cd Tryz.f44 [1,1,1]] (aB ZT [1,0,1]) ZQ)))∧((true=false)→ZW [cd Tryz.f44 [1,1,0,1,0,1,1,1,1],(.blk 0),cd Tryz.f44 [1,1,1]] (aB ZT [1,1]) ZQ))))) (by kernel_rfl) ?_
  refine⟨fun c=>(by cases c),fun _=>⟨fun _=>⟨Ak,fun _=>?_,fun c=>(by cases c)⟩,fun c=>(by cases c)⟩⟩
  refine aK.iq follows (iQ true (dw e t) t.tail aJ [] e 0) 3 (mkV (hdA e r)) ?_
  refine au (fun _ _ _ _=>(dH Tryz.prog G 44 [(.box 1000000 0),(vi 6)] [(1000000,[(.d (.slc 2 t.tail.length (aG t.tail))),(vi e)])] (mkV (hdA e r))∧((.panic [(PanicEntry.mk (mkV (hdA e r)) false false)]):Exit)=(.panic [(PanicEntry.mk (mkV (hdA e r)) false false)])∧((some [.any,.any]):(Option (List AV)))=(some [.any,.any])∧True)) (by kernel_rfl) ?_
  exact⟨h,rfl,rfl,trivial⟩
theorem aaq (t:List Tk) (e:Int) (hh:ah t≠gV) (R:Rs) (h:jo G 7 t e R):jo G 6 t e R:=by
 have Ak:aA Tryz.prog G 75 [.box 1000000 0,.d (st1 [gV])] (pB t e) (.d (.ak [qh (dw e t),db false])) (pB t e):=aA.st (ql [gV] t e (by simp) (by rw[nS _ _ (by decide),decide_eq_false hh]))
 cases R with
 | ok x r=>
  refine aA.aP (mv:=[]) (by kernel_rfl) Tryz.func44 rfl Tryz.call44 ?_
  refine aF (aj:=iQ false (dw e t) t x r e 0) (keep:=[]) (cuts:=[4,11,13]) (n:=1000) follows ?_
  refine au (fun ZT ZW ZQ _=>(((false=true)→ZW [cd Tryz.f44 [1,1,0,1,0,1,0,0],cd Tryz.f44 [1,1,0,1,0,1,0,1],(.blk 0),cd Tryz.f44 [1,1,1]] (aB ZT [0]) ZQ)∧((false=false)→(((true=true)→(aA Tryz.prog G 75 [(.box 1000000 0),(.d (.slc 1 1 (aS false 1 [(ds (ByteArray.mk #[45]))])))] [(1000000,[(.d (.slc 2 t.length (aG t))),(vi e)])] (.d (.ak [(.agg [(ds (ah t)),(di (hdA e t))]),(db false)])) [(1000000,[(.d (.slc 2 t.length (aG t))),(vi e)])]∧((false=true)→ZW [cd Tryz.f44 [1,1,0,1,0,1,1,1,0,0,1,1,0],cd Tryz.f44 [1,1,0,1,0,1,1,1,0,1],(.blk 0),cd Tryz.f44 [1,1,1]] (aB ZT [1,0,0]) ZQ)∧((false=false)→(((I64 (6+1))∧aA Tryz.prog G 44 [(.box 1000000 0),(vi 7)] [(1000000,[(.d (.slc 2 t.length (aG t))),(vi e)])] (.d (aN (ht x) x)) [(1000000,[(.d (.slc 2 r.length (aG r))),(vi e)])])∧(ZS ((.d (aN (ht x) x)):AV))∧((some [(.d (.slc 2 r.length (aG r))),(vi e)]):(Option (List AV)))=(some [(.d (.slc 2 r.length (aG r))),(vi e)])∧True))))∧((true=false)→ZW [cd Tryz.f44 [1,1,0,1,0,1,1,1,1],(.blk 0),cd Tryz.f44 [1,1,1]] (aB ZT [1,1]) ZQ))))) (by kernel_rfl) ?_
  exact⟨fun c=>(by cases c),fun _=>⟨fun _=>⟨Ak,fun c=>(by cases c),fun _=>⟨⟨⟨by omega,by omega⟩,h⟩,rfl,rfl,trivial⟩⟩,fun c=>(by cases c)⟩⟩
 | bad r=>
  refine dH.aP Tryz.func44 rfl Tryz.call44 ?_
  refine aF (aj:=iQ false (dw e t) t aJ [] e 0) (keep:=[]) (cuts:=[4,11,12,13]) (n:=1000) follows ?_
  refine au (fun ZT ZW ZQ _=>(((false=true)→ZW [cd Tryz.f44 [1,1,0,1,0,1,0,0],cd Tryz.f44 [1,1,0,1,0,1,0,1],(.blk 0),cd Tryz.f44 [1,1,1]] (aB ZT [0]) ZQ)∧((false=false)→(((true=true)→(aA Tryz.prog G 75 [(.box 1000000 0),(.d (.slc 1 1 (aS false 1 [(ds (ByteArray.mk #[45]))])))] [(1000000,[(.d (.slc 2 t.length (aG t))),(vi e)])] (.d (.ak [(.agg [(ds (ah t)),(di (hdA e t))]),(db false)])) [(1000000,[(.d (.slc 2 t.length (aG t))),(vi e)])]∧((false=true)→ZW [cd Tryz.f44 [1,1,0,1,0,1,1,1,0,0,1,1,0],cd Tryz.f44 [1,1,0,1,0,1,1,1,0,1],(.blk 0),cd Tryz.f44 [1,1,1]] (aB ZT [1,0,0]) ZQ)∧((false=false)→ZW [cd Tryz.f44 [1,1,0,1,0,1,1,1,0,1],(.blk 0),cd Tryz.f44 [1,1,1]] (aB ZT [1,0,1]) ZQ)))∧((true=false)→ZW [cd Tryz.f44 [1,1,0,1,0,1,1,1,1],(.blk 0),cd Tryz.f44 [1,1,1]] (aB ZT [1,1]) ZQ))))) (by kernel_rfl) ?_
  refine⟨fun c=>(by cases c),fun _=>⟨fun _=>⟨Ak,fun c=>(by cases c),fun _=>?_⟩,fun c=>(by cases c)⟩⟩
  refine aK.iq follows (iQ false (dw e t) t aJ [] e 0) 3 (mkV (hdA e r)) ?_
  refine au (fun _ _ _ _=>(((I64 (↑6+1))∧dH Tryz.prog G 44 [(.box 1000000 0),(vi 7)] [(1000000,[(.d (.slc 2 t.length (aG t))),(vi e)])] (mkV (hdA e r)))∧((.panic [(PanicEntry.mk (mkV (hdA e r)) false false)]):Exit)=(.panic [(PanicEntry.mk (mkV (hdA e r)) false false)])∧((some [.any,.any]):(Option (List AV)))=(some [.any,.any])∧True)) (by kernel_rfl) ?_
  exact⟨⟨⟨by omega,by omega⟩,h⟩,rfl,rfl,trivial⟩
theorem aaf (t:List Tk) (e:Int) (R:Rs) (h:yA G t e R):jo G 7 t e R:=by
 cases R with
 | ok x r=>
  refine aA.aP (mv:=[]) (by kernel_rfl) Tryz.func44 rfl Tryz.call44 ?_
  refine aF (aj:=iQ false (dw e t) t x r e 0) (keep:=[]) (cuts:=[4,9,15]) (n:=1000) follows ?_
  refine au (fun ZT ZW ZQ _=>(((false=true)→ZW [cd Tryz.f44 [1,1,0,1,0,1,0,0],cd Tryz.f44 [1,1,0,1,0,1,0,1],(.blk 0),cd Tryz.f44 [1,1,1]] (aB ZT [0]) ZQ)∧((false=false)→(((false=true)→ZW [cd Tryz.f44 [1,1,0,1,0,1,1,1,0,0],cd Tryz.f44 [1,1,0,1,0,1,1,1,0,1],(.blk 0),cd Tryz.f44 [1,1,1]] (aB ZT [1,0]) ZQ)∧((false=false)→(((true=true)→(aA Tryz.prog G 86 [(.box 1000000 0)] [(1000000,[(.d (.slc 2 t.length (aG t))),(vi e)])] (.d (aN (ht x) x)) [(1000000,[(.d (.slc 2 r.length (aG r))),(vi e)])]∧(ZS ((.d (aN (ht x) x)):AV))∧((some [(.d (.slc 2 r.length (aG r))),(vi e)]):(Option (List AV)))=(some [(.d (.slc 2 r.length (aG r))),(vi e)])∧True))∧((true=false)→ZW [cd Tryz.f44 [1,1,1]] (aB ZT [1,1,1]) ZQ))))))) (by kernel_rfl) ?_
  exact⟨fun c=>(by cases c),fun _=>⟨fun c=>(by cases c),fun _=>⟨fun _=>⟨h,rfl,rfl,trivial⟩,fun c=>(by cases c)⟩⟩⟩
 | bad r=>
  refine dH.aP Tryz.func44 rfl Tryz.call44 ?_
  refine aF (aj:=iQ false (dw e t) t aJ [] e 0) (keep:=[]) (cuts:=[4,9,14,15]) (n:=1000) follows ?_
  refine au (fun ZT ZW ZQ _=>(((false=true)→ZW [cd Tryz.f44 [1,1,0,1,0,1,0,0],cd Tryz.f44 [1,1,0,1,0,1,0,1],(.blk 0),cd Tryz.f44 [1,1,1]] (aB ZT [0]) ZQ)∧((false=false)→(((false=true)→ZW [cd Tryz.f44 [1,1,0,1,0,1,1,1,0,0],cd Tryz.f44 [1,1,0,1,0,1,1,1,0,1],(.blk 0),cd Tryz.f44 [1,1,1]] (aB ZT [1,0]) ZQ)∧((false=false)→(((true=true)→ZW [cd Tryz.f44 [1,1,0,1,0,1,1,1,1,1,0],(.blk 0),cd Tryz.f44 [1,1,1]] (aB ZT [1,1,0]) ZQ)∧((true=false)→ZW [cd Tryz.f44 [1,1,1]] (aB ZT [1,1,1]) ZQ))))))) (by kernel_rfl) ?_
  refine⟨fun c=>(by cases c),fun _=>⟨fun c=>(by cases c),fun _=>⟨fun _=>?_,fun c=>(by cases c)⟩⟩⟩
  refine aK.iq follows (iQ false (dw e t) t aJ [] e 0) 1 (mkV (hdA e r)) ?_
  refine au (fun _ _ _ _=>(dH Tryz.prog G 86 [(.box 1000000 0)] [(1000000,[(.d (.slc 2 t.length (aG t))),(vi e)])] (mkV (hdA e r))∧((.panic [(PanicEntry.mk (mkV (hdA e r)) false false)]):Exit)=(.panic [(PanicEntry.mk (mkV (hdA e r)) false false)])∧((some [.any,.any]):(Option (List AV)))=(some [.any,.any])∧True)) (by kernel_rfl) ?_
  exact⟨h,rfl,rfl,trivial⟩
end Go.Proofs
/- What is left behind reading is an end of the words. -/
namespace Go.Proofs
open Go Go.Ab
theorem aaR:∀(k:Nat) (md:Md) (t:List Tk),aQ (rd k md t) <:+ t:=by
 intro k
 induction k with
 | zero=>intro md t;exact List.suffix_refl _
 | succ k ih=>
  intro md t
  have tl:=List.tail_suffix t
  cases md with
  | lvl n=>
   simp only[rd]
   split
   ·split
    ·rw[sV];exact(ih (.lvl 2) t.tail).trans tl
    ·exact ih _ _
   split
   ·split
    ·rw[sV];exact(ih (.lvl 6) t.tail).trans tl
    ·exact ih _ _
   split
   ·exact ih _ _
   ·have h1:=ih (.lvl (n+1)) t
    split
    ·rename_i x r e
     rw[e] at h1
     exact(ih (.loop n x) r).trans h1
    ·rename_i r e
     rw[e] at h1;exact h1
  | loop n x=>
   simp only[rd]
   split
   ·have h1:=ih (.lvl (n+1)) t.tail
    split
    ·rename_i y r e
     rw[e] at h1
     split
     ·exact h1.trans tl
     ·exact(ih _ r).trans (h1.trans tl)
    ·rename_i r e
     rw[e] at h1;exact h1.trans tl
   ·exact List.suffix_refl _
  | args x=>
   simp only[rd]
   have h1:=ih (.lvl 0) t
   split
   ·rename_i y r e
    rw[e] at h1
    have tr:=List.tail_suffix r
    split
    ·exact(ih _ r.tail).trans (tr.trans h1)
    ·split
     ·exact tr.trans h1
     ·exact h1
   ·rename_i r e
    rw[e] at h1;exact h1
  | gI=>
   simp only[rd]
   split
   ·have h1:=ih (.lvl 0) t.tail
    split
    ·rename_i x r e
     rw[e] at h1
     split
     ·exact(List.tail_suffix r).trans (h1.trans tl)
     ·exact h1.trans tl
    ·rename_i r e
     rw[e] at h1;exact h1.trans tl
   split
   ·split
    ·exact(ih _ t.tail.tail).trans ((List.tail_suffix _).trans tl)
    ·exact tl
   ·unfold mZ
    split
    ·exact tl
    split
    ·exact tl
    split
    ·exact tl
    split
    ·exact tl
    ·exact List.suffix_refl _
theorem oQ (md:Md) (t:List Tk):aQ (pr md t) <:+ t:=aaR _ _ _
def gB (t:List Tk):Prop:=∀w∈t,w.1.size≤900000
theorem gB.suf {t r:List Tk} (h:gB t) (hs:r <:+ t):gB r:=fun w hw=>h w (hs.subset hw)
theorem gB.tail {t:List Tk} (h:gB t):gB t.tail:=h.suf (List.tail_suffix t)
theorem gB.hd {t:List Tk} (h:gB t):(ah t).size≤900000:=by
 cases t with
 | nil=>exact Nat.zero_le _
 | cons w t=>exact h w (by simp)
theorem gB.rest {t r:List Tk} {md:Md} (h:gB t) (e:aQ (pr md t)=r):gB r:=h.suf (e▸oQ md t)
end Go.Proofs
/- The parser,the program's side: expressions of a level: operators between two. -/
namespace Go.Proofs
open Go Go.Ab Go.RowKit
set_option maxHeartbeats 4000000
set_option maxRecDepth 100000
variable {G:IH}
noncomputable def Jr (n:Nat) (e:Int) (x:Ex×List Tk):AS:=⟨regs Tryz.f44.ntmps [(0,.box 1000000 0),(1,vi n),(4,.box 4 0),(5,.clo (.func 44) [.box 1000000 0] []),(10,.box 10 0)],[(4,[vi 0,vs ⟨#[]⟩,vi 0,vi 0,vi 0,.d (.con (.slice none 0 0))]),(10,jl (ht x.1) x.1),(1000000,pC x.2 e)]⟩
abbrev JW (x y:Ex):DV:=.slc 6 2 (aS true 6 [di x.k,ds x.s,di x.n,di x.d,di x.pos,.slc 6 x.kids.length (lay (cu (ht x)) x.kids),di y.k,ds y.s,di y.n,di y.d,di y.pos,.slc 6 y.kids.length (lay (cu (ht y)) y.kids)])
theorem I7 (n:Nat):(ku.getD n []).length≤1000000:=by
 rcases Nat.lt_or_ge n 6 with h|h
 ·have:∀n,n<6→(ku.getD n []).length≤1000000:=by decide +kernel
  exact this n h
 ·rw[List.getD,List.getElem?_eq_none (by exact h)];exact Nat.zero_le _
theorem TI (n:Nat) (e:Int) (x:Ex) (t:List Tk) (Y:Ex) (R:List Tk) {I:Ex×List Tk→Prop} {K:List It} (x0:Ex×List Tk) (h3:n=3→Y=x∧R=t) (hI:n≠3→I (x,t)) (hμ:t.length<x0.2.length) :
  aK Tryz.prog G [.code (aY (aC Tryz.f44) [1,1,1,1,0,0,0,1,1,1]),.blk 2] (Jr n e (x,t)) (nR Tryz.prog G K (wC Tryz.prog Tryz.f44 [] (.d (fD Y)) (pB R e)) (Jr n e) I (fun x=>x.2.length) x0):=by
 refine aF (aj:=iQ true fU [] aJ [] e 0) (keep:=[]) (cuts:=[]) (n:=1000) follows ?_
 refine bZ (fun ZT _ _ _ ZA _=>(((((↑n:Int)==3)=true)→(((.d (aN (ht x) x)):AV)=(.d (aN (ht Y) Y))∧((some [(.d (.slc 2 t.length (aG t))),(vi e)]):(Option (List AV)))=(some [(.d (.slc 2 R.length (aG R))),(vi e)])∧True))∧((((↑n:Int)==3)=false)→(ZA (aB ZT [1]))))) (by kernel_rfl) ?_
 refine⟨fun c=>?_,fun c=>?_⟩
 ·have c:n=3:=by have:=eq_of_beq c;omega
  obtain ⟨rfl,rfl⟩:=h3 c
  exact⟨rfl,rfl,trivial⟩
 ·have c:n≠3:=fun h=>by rw[h] at c;cases c
  refine Again.mk (x,t) ?_ (hI c) hμ
  exact AS.bV (by kernel_rfl)
theorem VK (n:Nat) (hn:fB n) (e:Int) (x:Ex) (t r:List Tk) (h:jo G (n+1) t e (.ok x r)) (y:Ex) (r2:List Tk) (hr:pr (.loop n x) r=.ok y r2) (hS:gB r) (hC:∀t',t'.length<r.length→gB t'→jo G (n+1) t' e (pr (.lvl (n+1)) t')):aA Tryz.prog G 44 [.box 1000000 0,.d (di n)] (pB t e) (.d (fD y)) (pB r2 e):=by
 have KO:n≠2∧n≠6∧n≠7∧n≤5:=by unfold fB at hn;omega
 refine aA.aP (mv:=[]) (by kernel_rfl) Tryz.func44 rfl Tryz.call44 ?_
 refine aF (aj:=iQ false (dw e t) t x r e 0) (keep:=[]) (cuts:=[4,9,14]) (n:=1000) follows ?_
 refine au (fun ZT ZW ZQ _=>(((((↑n:Int)==2)=true)→ZW [cd Tryz.f44 [1,1,0,1,0,1,0,0],cd Tryz.f44 [1,1,0,1,0,1,0,1],(.blk 0),cd Tryz.f44 [1,1,1]] (aB ZT [0]) ZQ)∧((((↑n:Int)==2)=false)→(((((↑n:Int)==6)=true)→ZW [cd Tryz.f44 [1,1,0,1,0,1,1,1,0,0],cd Tryz.f44 [1,1,0,1,0,1,1,1,0,1],(.blk 0),cd Tryz.f44 [1,1,1]] (aB ZT [1,0]) ZQ)∧((((↑n:Int)==6)=false)→(((((↑n:Int)==7)=true)→ZW [cd Tryz.f44 [1,1,0,1,0,1,1,1,1,1,0],(.blk 0),cd Tryz.f44 [1,1,1]] (aB ZT [1,1,0]) ZQ)∧((((↑n:Int)==7)=false)→(((I64 (↑n+1))∧aA Tryz.prog G 44 [(.box 1000000 0),(vi (↑n+1))] [(1000000,[(.d (.slc 2 t.length (aG t))),(vi e)])] (.d (aN (ht x) x)) [(1000000,[(.d (.slc 2 r.length (aG r))),(vi e)])])∧ZW [cd Tryz.f44 [1,1,1,1,0],(.blk 1)] (aB ZT [1,1,1]) ZQ)))))))) (by kernel_rfl) ?_
 refine⟨fun c=>absurd (eq_of_beq c) (by omega),fun _=>⟨fun c=>absurd (eq_of_beq c) (by omega),fun _=>⟨fun c=>absurd (eq_of_beq c) (by omega),fun _=>⟨⟨⟨by omega,by omega⟩,h⟩,?_⟩⟩⟩⟩
 refine aK.loop (c:=aY (aC Tryz.f44) [1,1,1,1,0,0]) (by kernel_rfl) (Jr n e) (fun z=>z.2.length≤r.length∧gB z.2∧pr (.loop n z.1) z.2=.ok y r2) (fun z=>z.2.length) (x,r) ?_ ⟨Nat.le_refl _,hS,hr⟩ ?_
 ·exact AS.bV (by kernel_rfl)
 ·rintro ⟨x,t⟩ ⟨hl,yC,hp⟩
  dsimp only at hl hp yC
  have hlv:ku.getD n []=ku.getD n []:=rfl
  cases ho:opAt n (ah t) with
  | false=>
   refine aF (aj:=iQ false (dw e t) t aJ [] e 0) (keep:=[]) (cuts:=[19]) (n:=1000) follows ?_
   refine bZ (fun ZT ZW _ ZK _ ZR=>((ZK 87 [] (.slc 1 6 Np)∧((0≤(↑n:Int))∧((↑n:Int)<↑6))∧aA Tryz.prog G 75 [(.box 1000000 0),(.d (.slc 1 (ku.getD (↑n:Int).toNat []).length (iY (ku.getD (↑n:Int).toNat []))))] [(1000000,[(.d (.slc 2 t.length (aG t))),(vi e)])] (.d (.ak [(.agg [(ds (ah t)),(di (hdA e t))]),(db false)])) [(1000000,[(.d (.slc 2 t.length (aG t))),(vi e)])])∧((true=true)→(((.d (aN (ht x) x)):AV)=(.d (aN (ht y) y))∧((some [(.d (.slc 2 t.length (aG t))),(vi e)]):(Option (List AV)))=(some [(.d (.slc 2 r2.length (aG r2))),(vi e)])∧True))∧((true=false)→ZW [cd Tryz.f44 [1,1,1,1,0,0,0,1,1],(.blk 2)] (aB ZT [1]) ZR))) (by kernel_rfl) ?_
   rw[Az ho] at hp
   injection hp with hp1 hp2
   subst hp1;subst hp2
   rw[Int.toNat_natCast]
   exact⟨⟨f87,⟨by omega,by omega⟩,ql _ t e (I7 n) ho⟩,fun _=>⟨rfl,rfl,trivial⟩,fun c=>(by cases c)⟩
  | true=>
   rw[MP KO.2.2.2 ho] at hp
   have hlt:=bK (oW ho)
   have hc:=hC t.tail (by omega) yC.tail
   cases hq:pr (.lvl (n+1)) t.tail with
   | bad r'=>rw[hq] at hp;cases hp
   | ok z r'=>
    rw[hq] at hp hc
    refine aF (aj:=iQ true (dw e t) t.tail z r' e (gq (ah t))) (keep:=[]) (cuts:=[18,20]) (n:=1000) follows ?_
    refine bZ (fun ZT ZW _ ZK _ ZR=>((ZK 87 [] (.slc 1 6 Np)∧((0≤(↑n:Int))∧((↑n:Int)<↑6))∧aA Tryz.prog G 75 [(.box 1000000 0),(.d (.slc 1 (ku.getD (↑n:Int).toNat []).length (iY (ku.getD (↑n:Int).toNat []))))] [(1000000,[(.d (.slc 2 t.length (aG t))),(vi e)])] (.d (.ak [(.agg [(ds (ah t)),(di (hdA e t))]),(db true)])) [(1000000,[(.d (.slc 2 t.tail.length (aG t.tail))),(vi e)])])∧((false=true)→ZW [cd Tryz.f44 [1,1,1,1,0,0,0,1,0,1,0],cd Tryz.f44 [1,1,1,1,0,0,0,1,1],(.blk 2)] (aB ZT [0]) ZR)∧((false=false)→((ZK 88 [(ds (ah t))] (di (gq (ah t)))∧(I64 (↑n+1))∧aA Tryz.prog G 44 [(.box 1000000 0),(vi (↑n+1))] [(1000000,[(.d (.slc 2 t.tail.length (aG t.tail))),(vi e)])] (.d (aN (ht z) z)) [(1000000,[(.d (.slc 2 r'.length (aG r'))),(vi e)])])∧ZW [cd Tryz.f44 [1,1,1,1,0,0,0,1,1,1],(.blk 2)] (aB ZT [1]) ZR)))) (by kernel_rfl) ?_
    rw[Int.toNat_natCast]
    refine⟨⟨f87,⟨by omega,by omega⟩,gY _ t e (I7 n) ho⟩,fun c=>(by cases c),fun _=>⟨⟨f88 _,⟨by omega,by omega⟩,hc⟩,?_⟩⟩
    have ha:hdA e t=hdA 0 t:=jr e (oW ho)
    refine aK.pre (AS.dZ.cell _ 10 5 (l:=[vi (gq (ah t)),vs ⟨#[]⟩,vi 0,vi 0,vi (hdA e t),.d (JW x z)]) (x:=.d (JW x z)) (.d (.slc 6 2 (lay (cu (ht (.mk (gq (ah t)) .empty 0 0 (hdA 0 t) [x,z]))) [x,z]))) (by kernel_rfl) (by kernel_rfl) rfl (by kernel_rfl) (fun β h v hv=>JV (x:=.mk (gq (ah t)) .empty 0 0 (hdA 0 t) [x,z]) rfl hv)) ?_
    refine aK.weaken ?_ (TI n e (.mk (gq (ah t)) .empty 0 0 (hdA 0 t) [x,z]) r' y r2 (x,t) ?_ ?_ ?_)
    ·refine AS.leZ [] [1] (b:=((T0∧T0∧T0∧T0∧T0∧True)∧T0∧((some [(vi (gq (ah t))),(vs (ByteArray.mk #[])),(vi 0),(vi 0),(vi (hdA e t)),(.d (.slc 6 2 (lay (cu (ht (Ex.mk (gq (ah t)) ByteArray.empty 0 0 (hdA 0 t) [x,z]))) [x,z])))]):(Option (List AV)))=(some [(vi (Ex.mk (gq (ah t)) ByteArray.empty 0 0 (hdA 0 t) [x,z]).k),(vs (Ex.mk (gq (ah t)) ByteArray.empty 0 0 (hdA 0 t) [x,z]).s),(vi (Ex.mk (gq (ah t)) ByteArray.empty 0 0 (hdA 0 t) [x,z]).n),(vi (Ex.mk (gq (ah t)) ByteArray.empty 0 0 (hdA 0 t) [x,z]).d),(vi (Ex.mk (gq (ah t)) ByteArray.empty 0 0 (hdA 0 t) [x,z]).pos),(.d (.slc 6 2 (lay (cu (ht (Ex.mk (gq (ah t)) ByteArray.empty 0 0 (hdA 0 t) [x,z]))) (Ex.mk (gq (ah t)) ByteArray.empty 0 0 (hdA 0 t) [x,z]).kids)))])∧T0∧True)) (by kernel_rfl) (by kernel_rfl) ?_
     rw[ha]
     exact⟨⟨rfl,rfl,rfl,rfl,rfl,trivial⟩,rfl,rfl,rfl,trivial⟩
    ·intro h3
     dsimp only at hp
     rw[if_pos h3] at hp
     injection hp with hp1 hp2
     exact⟨hp1.symm,hp2.symm⟩
    ·intro h3
     dsimp only at hp
     rw[if_neg h3] at hp
     refine⟨?_,yC.tail.rest (md:=.lvl (n+1)) (by rw[hq];rfl),hp⟩
     have:=mg (.lvl (n+1)) t.tail
     rw[hq] at this
     simp only[aQ] at this
     show r'.length≤r.length
     omega
    ·have:=mg (.lvl (n+1)) t.tail
     rw[hq] at this
     simp only[aQ] at this
     show r'.length<t.length
     omega
theorem PN (n:Nat) (hn:fB n) (e:Int) (t r:List Tk) (h:jo G (n+1) t e (.bad r)):jo G n t e (.bad r):=by
 have KO:n≠2∧n≠6∧n≠7∧n≤5:=by unfold fB at hn;omega
 refine dH.aP Tryz.func44 rfl Tryz.call44 ?_
 refine aF (aj:=iQ false (dw e t) t aJ r e 0) (keep:=[]) (cuts:=[4,9,14,15]) (n:=1000) follows ?_
 refine au (fun ZT ZW ZQ _=>(((((↑n:Int)==2)=true)→ZW [cd Tryz.f44 [1,1,0,1,0,1,0,0],cd Tryz.f44 [1,1,0,1,0,1,0,1],(.blk 0),cd Tryz.f44 [1,1,1]] (aB ZT [0]) ZQ)∧((((↑n:Int)==2)=false)→(((((↑n:Int)==6)=true)→ZW [cd Tryz.f44 [1,1,0,1,0,1,1,1,0,0],cd Tryz.f44 [1,1,0,1,0,1,1,1,0,1],(.blk 0),cd Tryz.f44 [1,1,1]] (aB ZT [1,0]) ZQ)∧((((↑n:Int)==6)=false)→(((((↑n:Int)==7)=true)→ZW [cd Tryz.f44 [1,1,0,1,0,1,1,1,1,1,0],(.blk 0),cd Tryz.f44 [1,1,1]] (aB ZT [1,1,0]) ZQ)∧((((↑n:Int)==7)=false)→ZW [cd Tryz.f44 [1,1,1]] (aB ZT [1,1,1]) ZQ))))))) (by kernel_rfl) ?_
 refine⟨fun c=>absurd (eq_of_beq c) (by omega),fun _=>⟨fun c=>absurd (eq_of_beq c) (by omega),fun _=>⟨fun c=>absurd (eq_of_beq c) (by omega),fun _=>?_⟩⟩⟩
 refine aK.iq follows (iQ false (dw e t) t aJ r e 0) 3 (mkV (hdA e r)) ?_
 refine au (fun _ _ _ _=>(((I64 (↑n+1))∧dH Tryz.prog G 44 [(.box 1000000 0),(vi (↑n+1))] [(1000000,[(.d (.slc 2 t.length (aG t))),(vi e)])] (mkV (hdA e r)))∧((.panic [(PanicEntry.mk (mkV (hdA e r)) false false)]):Exit)=(.panic [(PanicEntry.mk (mkV (hdA e r)) false false)])∧((some [.any,.any]):(Option (List AV)))=(some [.any,.any])∧True)) (by kernel_rfl) ?_
 exact⟨⟨⟨by omega,by omega⟩,h⟩,rfl,rfl,trivial⟩
theorem Ql (n:Nat) (e:Int) (x:Ex) (t:List Tk) {I:Ex×List Tk→Prop} {K:List It} (x0:Ex×List Tk) {pv:Value} {pre:List (Nat×List AV)} (h3:n≠3) (hI:I (x,t)) (hμ:t.length<x0.2.length) :
  aK Tryz.prog G [.code (aY (aC Tryz.f44) [1,1,1,1,0,0,0,1,1,1]),.blk 2] (Jr n e (x,t)) (nR Tryz.prog G K (fun e st=>e=.panic (lQ pv)∧jE (fC st.boxes) (fC pre)) (Jr n e) I (fun x=>x.2.length) x0):=by
 refine aF (aj:=iQ true fU [] aJ [] e 0) (keep:=[]) (cuts:=[21]) (n:=1000) follows ?_
 refine bZ (fun ZT ZW _ _ ZA ZR=>(((((↑n:Int)==3)=true)→ZW [cd Tryz.f44 [1,1,1,1,0,0,0,1,1,1,1,0],(.blk 2)] (aB ZT [0]) ZR)∧((((↑n:Int)==3)=false)→(ZA (aB ZT [1]))))) (by kernel_rfl) ?_
 refine⟨fun c=>?_,fun c=>?_⟩
 ·have c:n=3:=by have:=eq_of_beq c;omega
  exact absurd c h3
 ·refine Again.mk (x,t) ?_ hI hμ
  exact AS.bV (by kernel_rfl)
theorem Ua (n:Nat) (hn:fB n) (e:Int) (x:Ex) (t r:List Tk) (h:jo G (n+1) t e (.ok x r)) (r2:List Tk) (hr:pr (.loop n x) r=.bad r2) (hS:gB r) (hC:∀t',t'.length<r.length→gB t'→jo G (n+1) t' e (pr (.lvl (n+1)) t')):jo G n t e (.bad r2):=by
 have KO:n≠2∧n≠6∧n≠7∧n≤5:=by unfold fB at hn;omega
 refine dH.aP Tryz.func44 rfl Tryz.call44 ?_
 refine aF (aj:=iQ false (dw e t) t x r e 0) (keep:=[]) (cuts:=[4,9,14]) (n:=1000) follows ?_
 refine au (fun ZT ZW ZQ _=>(((((↑n:Int)==2)=true)→ZW [cd Tryz.f44 [1,1,0,1,0,1,0,0],cd Tryz.f44 [1,1,0,1,0,1,0,1],(.blk 0),cd Tryz.f44 [1,1,1]] (aB ZT [0]) ZQ)∧((((↑n:Int)==2)=false)→(((((↑n:Int)==6)=true)→ZW [cd Tryz.f44 [1,1,0,1,0,1,1,1,0,0],cd Tryz.f44 [1,1,0,1,0,1,1,1,0,1],(.blk 0),cd Tryz.f44 [1,1,1]] (aB ZT [1,0]) ZQ)∧((((↑n:Int)==6)=false)→(((((↑n:Int)==7)=true)→ZW [cd Tryz.f44 [1,1,0,1,0,1,1,1,1,1,0],(.blk 0),cd Tryz.f44 [1,1,1]] (aB ZT [1,1,0]) ZQ)∧((((↑n:Int)==7)=false)→(((I64 (↑n+1))∧aA Tryz.prog G 44 [(.box 1000000 0),(vi (↑n+1))] [(1000000,[(.d (.slc 2 t.length (aG t))),(vi e)])] (.d (aN (ht x) x)) [(1000000,[(.d (.slc 2 r.length (aG r))),(vi e)])])∧ZW [cd Tryz.f44 [1,1,1,1,0],(.blk 1)] (aB ZT [1,1,1]) ZQ)))))))) (by kernel_rfl) ?_
 refine⟨fun c=>absurd (eq_of_beq c) (by omega),fun _=>⟨fun c=>absurd (eq_of_beq c) (by omega),fun _=>⟨fun c=>absurd (eq_of_beq c) (by omega),fun _=>⟨⟨⟨by omega,by omega⟩,h⟩,?_⟩⟩⟩⟩
 refine aK.loop (c:=aY (aC Tryz.f44) [1,1,1,1,0,0]) (by kernel_rfl) (Jr n e) (fun z=>z.2.length≤r.length∧gB z.2∧pr (.loop n z.1) z.2=.bad r2) (fun z=>z.2.length) (x,r) ?_ ⟨Nat.le_refl _,hS,hr⟩ ?_
 ·exact AS.bV (by kernel_rfl)
 ·rintro ⟨x,t⟩ ⟨hl,yC,hp⟩
  dsimp only at hl hp yC
  cases ho:opAt n (ah t) with
  | false=>rw[Az ho] at hp;cases hp
  | true=>
   rw[MP KO.2.2.2 ho] at hp
   have hlt:=bK (oW ho)
   have hc:=hC t.tail (by omega) yC.tail
   cases hq:pr (.lvl (n+1)) t.tail with
   | bad r'=>
    rw[hq] at hp hc
    injection hp with hp
    subst hp
    refine aF (aj:=iQ true (dw e t) t.tail aJ r' e (gq (ah t))) (keep:=[]) (cuts:=[18,19]) (n:=1000) follows ?_
    refine bZ (fun ZT ZW _ ZK _ ZR=>((ZK 87 [] (.slc 1 6 Np)∧((0≤(↑n:Int))∧((↑n:Int)<↑6))∧aA Tryz.prog G 75 [(.box 1000000 0),(.d (.slc 1 (ku.getD (↑n:Int).toNat []).length (iY (ku.getD (↑n:Int).toNat []))))] [(1000000,[(.d (.slc 2 t.length (aG t))),(vi e)])] (.d (.ak [(.agg [(ds (ah t)),(di (hdA e t))]),(db true)])) [(1000000,[(.d (.slc 2 t.tail.length (aG t.tail))),(vi e)])])∧((false=true)→ZW [cd Tryz.f44 [1,1,1,1,0,0,0,1,0,1,0],cd Tryz.f44 [1,1,1,1,0,0,0,1,1],(.blk 2)] (aB ZT [0]) ZR)∧((false=false)→ZW [cd Tryz.f44 [1,1,1,1,0,0,0,1,1],(.blk 2)] (aB ZT [1]) ZR))) (by kernel_rfl) ?_
    rw[Int.toNat_natCast]
    refine⟨⟨f87,⟨by omega,by omega⟩,gY _ t e (I7 n) ho⟩,fun c=>(by cases c),fun _=>?_⟩
    refine aK.iq follows (iQ true (dw e t) t.tail aJ r' e (gq (ah t))) 9 (mkV (hdA e r')) ?_
    refine bZ (fun _ _ _ ZK _ _=>((ZK 88 [(ds (ah t))] (di (gq (ah t)))∧(I64 (↑n+1))∧dH Tryz.prog G 44 [(.box 1000000 0),(vi (↑n+1))] [(1000000,[(.d (.slc 2 t.tail.length (aG t.tail))),(vi e)])] (mkV (hdA e r')))∧((.panic [(PanicEntry.mk (mkV (hdA e r')) false false)]):Exit)=(.panic [(PanicEntry.mk (mkV (hdA e r')) false false)])∧((some [.any,.any]):(Option (List AV)))=(some [.any,.any])∧True)) (by kernel_rfl) ?_
    exact⟨⟨f88 _,⟨by omega,by omega⟩,hc⟩,rfl,rfl,trivial⟩
   | ok z r'=>
    rw[hq] at hp hc
    have h3:n≠3:=fun h3=>by
     dsimp only at hp
     rw[if_pos h3] at hp;cases hp
    refine aF (aj:=iQ true (dw e t) t.tail z r' e (gq (ah t))) (keep:=[]) (cuts:=[18,20]) (n:=1000) follows ?_
    refine bZ (fun ZT ZW _ ZK _ ZR=>((ZK 87 [] (.slc 1 6 Np)∧((0≤(↑n:Int))∧((↑n:Int)<↑6))∧aA Tryz.prog G 75 [(.box 1000000 0),(.d (.slc 1 (ku.getD (↑n:Int).toNat []).length (iY (ku.getD (↑n:Int).toNat []))))] [(1000000,[(.d (.slc 2 t.length (aG t))),(vi e)])] (.d (.ak [(.agg [(ds (ah t)),(di (hdA e t))]),(db true)])) [(1000000,[(.d (.slc 2 t.tail.length (aG t.tail))),(vi e)])])∧((false=true)→ZW [cd Tryz.f44 [1,1,1,1,0,0,0,1,0,1,0],cd Tryz.f44 [1,1,1,1,0,0,0,1,1],(.blk 2)] (aB ZT [0]) ZR)∧((false=false)→((ZK 88 [(ds (ah t))] (di (gq (ah t)))∧(I64 (↑n+1))∧aA Tryz.prog G 44 [(.box 1000000 0),(vi (↑n+1))] [(1000000,[(.d (.slc 2 t.tail.length (aG t.tail))),(vi e)])] (.d (aN (ht z) z)) [(1000000,[(.d (.slc 2 r'.length (aG r'))),(vi e)])])∧ZW [cd Tryz.f44 [1,1,1,1,0,0,0,1,1,1],(.blk 2)] (aB ZT [1]) ZR)))) (by kernel_rfl) ?_
    rw[Int.toNat_natCast]
    refine⟨⟨f87,⟨by omega,by omega⟩,gY _ t e (I7 n) ho⟩,fun c=>(by cases c),fun _=>⟨⟨f88 _,⟨by omega,by omega⟩,hc⟩,?_⟩⟩
    have ha:hdA e t=hdA 0 t:=jr e (oW ho)
    refine aK.pre (AS.dZ.cell _ 10 5 (l:=[vi (gq (ah t)),vs ⟨#[]⟩,vi 0,vi 0,vi (hdA e t),.d (JW x z)]) (x:=.d (JW x z)) (.d (.slc 6 2 (lay (cu (ht (.mk (gq (ah t)) .empty 0 0 (hdA 0 t) [x,z]))) [x,z]))) (by kernel_rfl) (by kernel_rfl) rfl (by kernel_rfl) (fun β h v hv=>JV (x:=.mk (gq (ah t)) .empty 0 0 (hdA 0 t) [x,z]) rfl hv)) ?_
    have hle:=mg (.lvl (n+1)) t.tail
    rw[hq] at hle
    simp only[aQ] at hle
    refine aK.weaken ?_ (Ql n e (.mk (gq (ah t)) .empty 0 0 (hdA 0 t) [x,z]) r' (x,t) h3 ?_ ?_)
    ·refine AS.leZ [] [1] (b:=((T0∧T0∧T0∧T0∧T0∧True)∧T0∧((some [(vi (gq (ah t))),(vs (ByteArray.mk #[])),(vi 0),(vi 0),(vi (hdA e t)),(.d (.slc 6 2 (lay (cu (ht (Ex.mk (gq (ah t)) ByteArray.empty 0 0 (hdA 0 t) [x,z]))) [x,z])))]):(Option (List AV)))=(some [(vi (Ex.mk (gq (ah t)) ByteArray.empty 0 0 (hdA 0 t) [x,z]).k),(vs (Ex.mk (gq (ah t)) ByteArray.empty 0 0 (hdA 0 t) [x,z]).s),(vi (Ex.mk (gq (ah t)) ByteArray.empty 0 0 (hdA 0 t) [x,z]).n),(vi (Ex.mk (gq (ah t)) ByteArray.empty 0 0 (hdA 0 t) [x,z]).d),(vi (Ex.mk (gq (ah t)) ByteArray.empty 0 0 (hdA 0 t) [x,z]).pos),(.d (.slc 6 2 (lay (cu (ht (Ex.mk (gq (ah t)) ByteArray.empty 0 0 (hdA 0 t) [x,z]))) (Ex.mk (gq (ah t)) ByteArray.empty 0 0 (hdA 0 t) [x,z]).kids)))])∧T0∧True)) (by kernel_rfl) (by kernel_rfl) ?_
     rw[ha]
     exact⟨⟨rfl,rfl,rfl,rfl,rfl,trivial⟩,rfl,rfl,rfl,trivial⟩
    ·dsimp only at hp
     rw[if_neg h3] at hp
     refine⟨?_,yC.tail.rest (md:=.lvl (n+1)) (by rw[hq];rfl),hp⟩
     show r'.length≤r.length
     omega
    ·show r'.length<t.length
     omega
end Go.Proofs
/- The parser,the program's side: UO: parentheses,aeQ,numbers,names. -/
namespace Go.Proofs
open Go Go.Ab Go.RowKit
set_option maxHeartbeats 4000000
set_option maxRecDepth 100000
variable {G:IH}
noncomputable def mPm (w:Tk) (b:Bool) (t1:List Tk) (x:Ex) (r:List Tk) (w2:Tk) (r2:List Tk) (e:Int) (nm:ByteArray):FuncId→List AV→List (Nat×List AV)→Option (AV×List (Nat×List AV)):=fun f _ _=>match f with
 | 75=>some (.d (.ak [qh w,db b]),pB t1 e)
 | 44=>some (.d (fD x),pB r e)
 | 79=>some (.d (qh w2),pB r2 e)
 | 78=>some (.d (ds nm),pB t1 e)
 | 110=>some (.d (qh w),pB t1 e)
 | _=>none
noncomputable def mPn (w:Tk) (t1 t2:List Tk) (e:Int) (nm:ByteArray):FuncId→List AV→List (Nat×List AV)→Option (AV×List (Nat×List AV)):=fun f _ _=>match f with
 | 78=>some (.d (ds nm),pB t2 e)
 | 110=>some (.d (qh w),pB t1 e)
 | _=>none
noncomputable def RX (b:Bool) (n d er:Int):cZ:=fun f a=>match f,a with
 | 63,_=>some (db b)
 | 106,_=>some (.ak [fr n d,di er])
 | _,_=>none
noncomputable def vG (w:Tk) (b:Bool) (t1:List Tk) (x:Ex) (r:List Tk) (w2:Tk) (r2:List Tk) (e:Int):dK:={ d:=RX false 0 0 0,m:=mPm w b t1 x r w2 r2 e .empty }
noncomputable def acY (w:Tk) (t1:List Tk) (e:Int) (b:Bool) (n d er:Int) (nm:ByteArray):dK:={ d:=RX b n d er,m:=mPm w false t1 aJ [] fU [] e nm }
abbrev zeroE:List AV:=[vi 0,vs ⟨#[]⟩,vi 0,vi 0,vi 0,.d (.con (.slice none 0 0))]
noncomputable def Kr (t:List Tk) (e:Int):AS:=⟨regs Tryz.f86.ntmps [(0,.box 1000000 0),(2,.box 2 0)],[(2,zeroE),(1000000,pC t e)]⟩
theorem qg {Q:Exit→AS→Prop} (t:List Tk) (e:Int) (h:ah t≠dV) (k:aK Tryz.prog G [.code (aY (aC Tryz.f86) [1,1,0]),.code (aY (aC Tryz.f86) [1,1,1])] (Kr t e) Q):aK Tryz.prog G [.code (aC Tryz.f86)] (jV [.box 1000000 0] (pB t e) Tryz.f86.ntmps) Q:=by
 refine aF (aj:=vG (dw e t) false t aJ [] fU [] e) (keep:=[]) (cuts:=[3,6]) (n:=1000) follows ?_
 refine au (fun ZT ZW ZQ _=>(aA Tryz.prog G 75 [(.box 1000000 0),(.d (.slc 1 1 (aS false 1 [(ds (ByteArray.mk #[40]))])))] [(1000000,[(.d (.slc 2 t.length (aG t))),(vi e)])] (.d (.ak [(.agg [(ds (ah t)),(di (hdA e t))]),(db false)])) [(1000000,[(.d (.slc 2 t.length (aG t))),(vi e)])]∧((false=true)→ZW [cd Tryz.f86 [1,0,1,1,0],cd Tryz.f86 [1,1]] (aB ZT [0]) ZQ)∧((false=false)→ZW [cd Tryz.f86 [1,1,0],cd Tryz.f86 [1,1,1]] (aB ZT [1]) ZQ))) (by kernel_rfl) ?_
 refine⟨aA.st (ql [dV] t e (by simp) (by rw[nS _ _ (by decide),decide_eq_false h])),fun c=>(by cases c),fun _=>?_⟩
 refine aK.weaken ?_ k
 exact AS.bV (by kernel_rfl)
theorem uM {Q:Exit→AS→Prop} (t:List Tk) (e:Int) (h:inB [kE,jR] (ah t)=false) (k:aK Tryz.prog G [.code (aY (aC Tryz.f86) [1,1,1,0]),.code (aY (aC Tryz.f86) [1,1,1,1])] (Kr t e) Q):aK Tryz.prog G [.code (aY (aC Tryz.f86) [1,1,0]),.code (aY (aC Tryz.f86) [1,1,1])] (Kr t e) Q:=by
 refine aF (aj:=vG (dw e t) false t aJ [] fU [] e) (keep:=[]) (cuts:=[8,11]) (n:=1000) follows ?_
 refine au (fun ZT ZW ZQ _=>(aA Tryz.prog G 75 [(.box 1000000 0),(.d (.slc 1 2 (aS false 1 [(ds (ByteArray.mk #[116,114,117,101])),(ds (ByteArray.mk #[102,97,108,115,101]))])))] [(1000000,[(.d (.slc 2 t.length (aG t))),(vi e)])] (.d (.ak [(.agg [(ds (ah t)),(di (hdA e t))]),(db false)])) [(1000000,[(.d (.slc 2 t.length (aG t))),(vi e)])]∧((false=true)→ZW [cd Tryz.f86 [1,1,0,1,1,0,0],cd Tryz.f86 [1,1,0,1,1,0,1],cd Tryz.f86 [1,1,1]] (aB ZT [0]) ZQ)∧((false=false)→ZW [cd Tryz.f86 [1,1,1,0],cd Tryz.f86 [1,1,1,1]] (aB ZT [1]) ZQ))) (by kernel_rfl) ?_
 refine⟨aA.st (ql [kE,jR] t e (by simp) h),fun c=>(by cases c),fun _=>?_⟩
 refine aK.weaken ?_ k
 exact AS.bV (by kernel_rfl)
theorem Gu {Q:Exit→AS→Prop} (t:List Tk) (e:Int) (h:inB [minS,maxS] (ah t)=false) (k:aK Tryz.prog G [.code (aY (aC Tryz.f86) [1,1,1,1])] (Kr t e) Q):aK Tryz.prog G [.code (aY (aC Tryz.f86) [1,1,1,0]),.code (aY (aC Tryz.f86) [1,1,1,1])] (Kr t e) Q:=by
 refine aF (aj:=vG (dw e t) false t aJ [] fU [] e) (keep:=[]) (cuts:=[13,23]) (n:=1000) follows ?_
 refine au (fun ZT ZW ZQ _=>(aA Tryz.prog G 75 [(.box 1000000 0),(.d (.slc 1 2 (aS false 1 [(ds (ByteArray.mk #[109,105,110])),(ds (ByteArray.mk #[109,97,120]))])))] [(1000000,[(.d (.slc 2 t.length (aG t))),(vi e)])] (.d (.ak [(.agg [(ds (ah t)),(di (hdA e t))]),(db false)])) [(1000000,[(.d (.slc 2 t.length (aG t))),(vi e)])]∧((false=true)→ZW [cd Tryz.f86 [1,1,1,0,1,1,0],cd Tryz.f86 [1,1,1,1]] (aB ZT [0]) ZQ)∧((false=false)→ZW [cd Tryz.f86 [1,1,1,1]] (aB ZT [1]) ZQ))) (by kernel_rfl) ?_
 refine⟨aA.st (ql [minS,maxS] t e (by simp) h),fun c=>(by cases c),fun _=>?_⟩
 refine aK.weaken ?_ k
 exact AS.bV (by kernel_rfl)
theorem aad (t:List Tk) (e:Int) (hh:ah t=dV) (x:Ex) (r:List Tk) (h:jo G 0 t.tail e (.ok x r)) (hc:ah r=fA):yA G t e (.ok x r.tail):=by
 refine aA.aP (mv:=[]) (by kernel_rfl) Tryz.func86 rfl Tryz.call86 ?_
 refine aF (aj:=vG (dw e t) true t.tail x r (dw e r) r.tail e) (keep:=[]) (cuts:=[6]) (n:=1000) follows ?_
 refine au (fun ZT ZW ZQ _=>(fun Za=>(aA Tryz.prog G 75 [(.box 1000000 0),(.d (.slc 1 1 (aS false 1 [(ds (ByteArray.mk #[40]))])))] [(1000000,[(.d (.slc 2 t.length (aG t))),(vi e)])] (.d (.ak [(.agg [(ds (ah t)),(di (hdA e t))]),(db true)])) [(1000000,[(.d (.slc 2 t.tail.length (aG t.tail))),(vi e)])]∧((true=true)→(aA Tryz.prog G 44 [(.box 1000000 0),(vi 0)] [(1000000,[(.d (.slc 2 t.tail.length (aG t.tail))),(vi e)])] (.d (aN (ht x) x)) [(1000000,[(.d (.slc 2 r.length (aG r))),(vi e)])]∧aA Tryz.prog G 79 [(.box 1000000 0),(vs (ByteArray.mk #[41]))] [(1000000,[(.d (.slc 2 r.length (aG r))),(vi e)])] (.d (.agg [(ds (ah r)),(di (hdA e r))])) [(1000000,[Za,(vi e)])]∧(ZS ((.d (aN (ht x) x)):AV))∧((some [Za,(vi e)]):(Option (List AV)))=(some [Za,(vi e)])∧True))∧((true=false)→ZW [cd Tryz.f86 [1,1,0],cd Tryz.f86 [1,1,1]] (aB ZT [1]) ZQ))) ((.d (.slc 2 r.tail.length (aG r.tail))):AV)) (by kernel_rfl) ?_
 exact⟨aA.st (gY [dV] t e (by simp) (by rw[hh];decide +kernel)),fun _=>⟨h,Ag fA r e (by rw[hc];decide +kernel),rfl,rfl,trivial⟩,fun c=>(by cases c)⟩
theorem Qc (t:List Tk) (e:Int) (hh:ah t=dV) (r:List Tk) (h:jo G 0 t.tail e (.bad r)):yA G t e (.bad r):=by
 refine dH.aP Tryz.func86 rfl Tryz.call86 ?_
 refine aF (aj:=vG (dw e t) true t.tail aJ r (dw e r) r.tail e) (keep:=[]) (cuts:=[3,6]) (n:=1000) follows ?_
 refine au (fun ZT ZW ZQ _=>(aA Tryz.prog G 75 [(.box 1000000 0),(.d (.slc 1 1 (aS false 1 [(ds (ByteArray.mk #[40]))])))] [(1000000,[(.d (.slc 2 t.length (aG t))),(vi e)])] (.d (.ak [(.agg [(ds (ah t)),(di (hdA e t))]),(db true)])) [(1000000,[(.d (.slc 2 t.tail.length (aG t.tail))),(vi e)])]∧((true=true)→ZW [cd Tryz.f86 [1,0,1,1,0],cd Tryz.f86 [1,1]] (aB ZT [0]) ZQ)∧((true=false)→ZW [cd Tryz.f86 [1,1,0],cd Tryz.f86 [1,1,1]] (aB ZT [1]) ZQ))) (by kernel_rfl) ?_
 refine⟨aA.st (gY [dV] t e (by simp) (by rw[hh];decide +kernel)),fun _=>?_,fun c=>(by cases c)⟩
 refine aK.iq follows (vG (dw e t) true t.tail aJ r (dw e r) r.tail e) 1 (mkV (hdA e r)) ?_
 refine au (fun _ _ _ _=>(dH Tryz.prog G 44 [(.box 1000000 0),(vi 0)] [(1000000,[(.d (.slc 2 t.tail.length (aG t.tail))),(vi e)])] (mkV (hdA e r))∧((.panic [(PanicEntry.mk (mkV (hdA e r)) false false)]):Exit)=(.panic [(PanicEntry.mk (mkV (hdA e r)) false false)])∧((some [.any,.any]):(Option (List AV)))=(some [.any,.any])∧True)) (by kernel_rfl) ?_
 exact⟨h,rfl,rfl,trivial⟩
theorem PS (t:List Tk) (e:Int) (hh:ah t=dV) (x:Ex) (r:List Tk) (h:jo G 0 t.tail e (.ok x r)) (hc:ah r≠fA):yA G t e (.bad r):=by
 refine dH.aP Tryz.func86 rfl Tryz.call86 ?_
 refine aF (aj:=vG (dw e t) true t.tail x r (dw e r) r.tail e) (keep:=[]) (cuts:=[4,6]) (n:=1000) follows ?_
 refine au (fun ZT ZW ZQ _=>(aA Tryz.prog G 75 [(.box 1000000 0),(.d (.slc 1 1 (aS false 1 [(ds (ByteArray.mk #[40]))])))] [(1000000,[(.d (.slc 2 t.length (aG t))),(vi e)])] (.d (.ak [(.agg [(ds (ah t)),(di (hdA e t))]),(db true)])) [(1000000,[(.d (.slc 2 t.tail.length (aG t.tail))),(vi e)])]∧((true=true)→(aA Tryz.prog G 44 [(.box 1000000 0),(vi 0)] [(1000000,[(.d (.slc 2 t.tail.length (aG t.tail))),(vi e)])] (.d (aN (ht x) x)) [(1000000,[(.d (.slc 2 r.length (aG r))),(vi e)])]∧ZW [cd Tryz.f86 [1,0,1,1,0,1],cd Tryz.f86 [1,1]] (aB ZT [0]) ZQ))∧((true=false)→ZW [cd Tryz.f86 [1,1,0],cd Tryz.f86 [1,1,1]] (aB ZT [1]) ZQ))) (by kernel_rfl) ?_
 refine⟨aA.st (gY [dV] t e (by simp) (by rw[hh];decide +kernel)),fun _=>⟨h,?_⟩,fun c=>(by cases c)⟩
 refine aK.iq follows (vG (dw e t) true t.tail x r (dw e r) r.tail e) 1 (mkV (hdA e r)) ?_
 refine au (fun _ _ _ _=>(dH Tryz.prog G 79 [(.box 1000000 0),(vs (ByteArray.mk #[41]))] [(1000000,[(.d (.slc 2 r.length (aG r))),(vi e)])] (mkV (hdA e r))∧((.panic [(PanicEntry.mk (mkV (hdA e r)) false false)]):Exit)=(.panic [(PanicEntry.mk (mkV (hdA e r)) false false)])∧((some [.any,.any]):(Option (List AV)))=(some [.any,.any])∧True)) (by kernel_rfl) ?_
 exact⟨AB fA r e (by rw[nS _ _ (by decide),decide_eq_false hc]),rfl,rfl,trivial⟩
theorem qm {k n d a:Int} {s:ByteArray} {h:IH} {v:Value} (hv:DV.rel h (.agg [di k,ds s,di n,di d,di a,.con (.slice none 0 0)]) v):DV.rel h (fD (.mk k s n d a [])) v:=by
 obtain ⟨vs,rfl,v1,u1,rfl,a1,v2,u2,rfl,a2,v3,u3,rfl,a3,v4,u4,rfl,a4,v5,u5,rfl,a5,v6,u6,rfl,a6,a7⟩:=hv
 exact⟨_,rfl,v1,_,rfl,a1,v2,_,rfl,a2,v3,_,rfl,a3,v4,_,rfl,a4,v5,_,rfl,a5,v6,_,rfl,lV a6,a7⟩
theorem Y8 {s w:ByteArray} {b:Bool} (h:decide (s=w)=b):(ByteArray.toList s==ByteArray.toList w)=b:=by rw[gQ];exact h
theorem Zt (t:List Tk) (e:Int) (hh:ah t=kE):yA G t e (.ok (.mk 3 .empty 0 0 (hdA 0 t) []) t.tail):=by
 refine aA.resD (d:=.agg [di 3,ds .empty,di 0,di 0,di (hdA 0 t),.con (.slice none 0 0)]) ?_ fun k v hv=>qm hv
 rw[←jr e (show ah t≠.empty by rw[hh];decide)]
 refine aA.aP (mv:=[]) (by kernel_rfl) Tryz.func86 rfl Tryz.call86 ?_
 refine qg t e (by rw[hh];decide) ?_
 refine aF (aj:=vG (dw e t) true t.tail aJ [] fU [] e) (keep:=[]) (cuts:=[10,11]) (n:=1000) follows ?_
 refine au (fun ZT ZW ZQ _=>(fun Za=>(aA Tryz.prog G 75 [(.box 1000000 0),(.d (.slc 1 2 (aS false 1 [(ds (ByteArray.mk #[116,114,117,101])),(ds (ByteArray.mk #[102,97,108,115,101]))])))] [(1000000,[(.d (.slc 2 t.length (aG t))),(vi e)])] (.d (.ak [(.agg [(ds (ah t)),(di (hdA e t))]),(db true)])) [(1000000,[Za,(vi e)])]∧((true=true)→(((((ah t).toList==(ByteArray.mk #[116,114,117,101]).toList)=true)→(((.d (.agg [(di 3),(ds (ByteArray.mk #[])),(di 0),(di 0),(di (hdA e t)),(.con (.slice none 0 0))])):AV)=(.d (.agg [(di 3),(ds ByteArray.empty),(di 0),(di 0),(di (hdA e t)),(.con (.slice none 0 0))]))∧((some [Za,(vi e)]):(Option (List AV)))=(some [Za,(vi e)])∧True))∧((((ah t).toList==(ByteArray.mk #[116,114,117,101]).toList)=false)→ZW [cd Tryz.f86 [1,1,0,1,1,0,1],cd Tryz.f86 [1,1,1]] (aB ZT [0,1]) ZQ)))∧((true=false)→ZW [cd Tryz.f86 [1,1,1,0],cd Tryz.f86 [1,1,1,1]] (aB ZT [1]) ZQ))) ((.d (.slc 2 t.tail.length (aG t.tail))):AV)) (by kernel_rfl) ?_
 refine⟨aA.st (gY [kE,jR] t e (by simp) (by rw[hh];decide +kernel)),fun _=>⟨fun _=>⟨rfl,rfl,trivial⟩,fun c=>?_⟩,fun c=>(by cases c)⟩
 have c2:=(Y8 (s:=ah t) (w:=kE) (b:=true) (by rw[decide_eq_true hh])).symm.trans c
 cases c2
theorem WZ (t:List Tk) (e:Int) (hh:ah t=jR):yA G t e (.ok (.mk 4 .empty 0 0 (hdA 0 t) []) t.tail):=by
 refine aA.resD (d:=.agg [di 4,ds .empty,di 0,di 0,di (hdA 0 t),.con (.slice none 0 0)]) ?_ fun k v hv=>qm hv
 rw[←jr e (show ah t≠.empty by rw[hh];decide)]
 refine aA.aP (mv:=[]) (by kernel_rfl) Tryz.func86 rfl Tryz.call86 ?_
 refine qg t e (by rw[hh];decide) ?_
 refine aF (aj:=vG (dw e t) true t.tail aJ [] fU [] e) (keep:=[]) (cuts:=[9,11]) (n:=1000) follows ?_
 refine au (fun ZT ZW ZQ _=>(fun Za=>(aA Tryz.prog G 75 [(.box 1000000 0),(.d (.slc 1 2 (aS false 1 [(ds (ByteArray.mk #[116,114,117,101])),(ds (ByteArray.mk #[102,97,108,115,101]))])))] [(1000000,[(.d (.slc 2 t.length (aG t))),(vi e)])] (.d (.ak [(.agg [(ds (ah t)),(di (hdA e t))]),(db true)])) [(1000000,[Za,(vi e)])]∧((true=true)→(((((ah t).toList==(ByteArray.mk #[116,114,117,101]).toList)=true)→ZW [cd Tryz.f86 [1,1,0,1,1,0,0,1,0],cd Tryz.f86 [1,1,0,1,1,0,1],cd Tryz.f86 [1,1,1]] (aB ZT [0,0]) ZQ)∧((((ah t).toList==(ByteArray.mk #[116,114,117,101]).toList)=false)→(((.d (.agg [(di 4),(ds (ByteArray.mk #[])),(di 0),(di 0),(di (hdA e t)),(.con (.slice none 0 0))])):AV)=(.d (.agg [(di 4),(ds ByteArray.empty),(di 0),(di 0),(di (hdA e t)),(.con (.slice none 0 0))]))∧((some [Za,(vi e)]):(Option (List AV)))=(some [Za,(vi e)])∧True))))∧((true=false)→ZW [cd Tryz.f86 [1,1,1,0],cd Tryz.f86 [1,1,1,1]] (aB ZT [1]) ZQ))) ((.d (.slc 2 t.tail.length (aG t.tail))):AV)) (by kernel_rfl) ?_
 refine⟨aA.st (gY [kE,jR] t e (by simp) (by rw[hh];decide +kernel)),fun _=>⟨fun c=>?_,fun _=>⟨rfl,rfl,trivial⟩⟩,fun c=>(by cases c)⟩
 have c2:=(Y8 (s:=ah t) (w:=kE) (b:=false) (by rw[hh];decide)).symm.trans c
 cases c2
def plainW (s:ByteArray):Prop:=s≠dV∧inB [kE,jR] s=false∧inB [minS,maxS] s=false
theorem aaW (t:List Tk) (e:Int) (hh:plainW (ah t)) (hs:(ah t).size≤900000) (hd:bQ (byteAt (ah t) 0)=true):yA G t e (.ok (.mk 1 .empty (fK (ah t)).1 (fK (ah t)).2.1 (hdA 0 t) []) t.tail):=by
 have hne:ah t≠.empty:=fun h=>by rw[h] at hd;exact absurd hd (by decide +kernel)
 have hsz:(ah t).size≠0:=fun h=>hne (empty_of h)
 have Xu:ay Tryz.prog G 106 [ds (ah t)] (fe (fK (ah t))):=f106 _ hs
 refine aA.resD (d:=.agg [di 1,ds .empty,di (fK (ah t)).1,di (fK (ah t)).2.1,di (hdA 0 t),.con (.slice none 0 0)]) ?_ fun k v hv=>qm hv
 rw[←jr e hne]
 revert Xu
 obtain ⟨a,b,c⟩:=fK (ah t)
 intro Xu
 obtain ⟨h1,h2⟩:1≤t.length∧t.tail.length=t.length-1:=by
  cases t with
  | nil=>exact absurd rfl hne
  | cons w t=>simp
 refine aA.aP (mv:=[]) (by kernel_rfl) Tryz.func86 rfl Tryz.call86 ?_
 refine qg t e hh.1 (uM t e hh.2.1 (Gu t e hh.2.2 ?_))
 refine aF (aj:=acY (dw e t) t e true a b c .empty) (keep:=[]) (cuts:=[28]) (n:=1000) follows ?_
 refine au (fun ZT ZW ZQ ZK=>(aA Tryz.prog G 110 [(.box 1000000 0)] [(1000000,[(.d (.slc 2 t.length (aG t))),(vi e)])] (.d (.agg [(ds (ah t)),(di (hdA e t))])) [(1000000,[(.d (.slc 2 t.length (aG t))),(vi e)])]∧((((!(ah t).toList==(ByteArray.mk #[]).toList)=true)→(((0:Int)≤(0:Int))∧(0<(↑(ah t).size:Int))))∧(((!(ah t).toList==(ByteArray.mk #[]).toList)=true)→ZK 63 [(.con (.int .u8 (byteAt (ah t) (Int.toNat 0))))] (db true)))∧(((!(ah t).toList==(ByteArray.mk #[]).toList&&true)=true)→((((0:Int)≤(1:Int))∧(1≤(↑t.length:Int))∧((↑t.length:Int)≤↑t.length))∧ZK 106 [(ds (ah t))] (.ak [(.agg [(di a),(di b)]),(di c)])∧((.d (.agg [(di 1),(ds (ByteArray.mk #[])),(di a),(di b),(di (hdA e t)),(.con (.slice none 0 0))])):AV)=(.d (.agg [(di 1),(ds ByteArray.empty),(di a),(di b),(di (hdA e t)),(.con (.slice none 0 0))]))∧((some [(.d (.slc 2 ((↑t.length:Int)-1).toNat (fun i=>aG t (Int.toNat 1+i)))),(vi e)]):(Option (List AV)))=(some [(.d (.slc 2 t.tail.length (aG t.tail))),(vi e)])∧True))∧(((!(ah t).toList==(ByteArray.mk #[]).toList&&true)=false)→ZW [cd Tryz.f86 [1,1,1,1,1,1]] (aB ZT [1]) ZQ))) (by kernel_rfl) ?_
 have e1:((t.length:Int)-1).toNat=t.tail.length:=by omega
 have e2:(fun i=>aG t (Int.toNat 1+i))=aG t.tail:=Kv t
 rw[e1,e2]
 have hpos:(!(ByteArray.toList (ah t)==ByteArray.toList { data:=#[] }))=true→(0:Int)≤(0:Int)∧(0:Int)<((ah t).size:Int):=fun c=>by
  rw[nZ] at c
  simp only[Bool.not_eq_true',decide_eq_false_iff_not] at c
  exact⟨by omega,by omega⟩
 refine⟨f110 t e,⟨hpos,fun _=>by rw[←hd];exact f63 _⟩,fun _=>⟨⟨by omega,by omega,by omega⟩,Xu,rfl,rfl,trivial⟩,fun c=>?_⟩
 rw[nZ,decide_eq_false hsz] at c
 cases c
theorem ZB (t:List Tk) (e:Int) (hh:plainW (ah t)) (hs:(ah t).size≤900000) (hd:bQ (byteAt (ah t) 0)=false) (hn:nameB (ah t)=true):yA G t e (.ok (.mk 2 (ah t) 0 0 (hdA 0 t) []) t.tail):=by
 have hne:ah t≠.empty:=fun h=>by rw[h] at hn;exact absurd hn (by decide +kernel)
 refine aA.resD (d:=.agg [di 2,ds (ah t),di 0,di 0,di (hdA 0 t),.con (.slice none 0 0)]) ?_ fun k v hv=>qm hv
 rw[←jr e hne]
 refine aA.aP (mv:=[]) (by kernel_rfl) Tryz.func86 rfl Tryz.call86 ?_
 refine qg t e hh.1 (uM t e hh.2.1 (Gu t e hh.2.2 ?_))
 refine aF (aj:={ d:=RX false 0 0 0,m:=mPn (dw e t) t t.tail e (ah t) }) (keep:=[]) (cuts:=[25]) (n:=1000) follows ?_
 refine au (fun ZT ZW ZQ ZK=>(fun Za=>(aA Tryz.prog G 110 [(.box 1000000 0)] [(1000000,[(.d (.slc 2 t.length (aG t))),(vi e)])] (.d (.agg [(ds (ah t)),(di (hdA e t))])) [(1000000,[(.d (.slc 2 t.length (aG t))),(vi e)])]∧((((!(ah t).toList==(ByteArray.mk #[]).toList)=true)→(((0:Int)≤(0:Int))∧(0<(↑(ah t).size:Int))))∧(((!(ah t).toList==(ByteArray.mk #[]).toList)=true)→ZK 63 [(.con (.int .u8 (byteAt (ah t) (Int.toNat 0))))] (db false)))∧(((!(ah t).toList==(ByteArray.mk #[]).toList&&false)=true)→ZW [cd Tryz.f86 [1,1,1,1,1,0,1,0],cd Tryz.f86 [1,1,1,1,1,1]] (aB ZT [0]) ZQ)∧(((!(ah t).toList==(ByteArray.mk #[]).toList&&false)=false)→(aA Tryz.prog G 78 [(.box 1000000 0)] [(1000000,[(.d (.slc 2 t.length (aG t))),(vi e)])] (vs (ah t)) [(1000000,[Za,(vi e)])]∧(ZS ((.d (.agg [(di 2),(ds (ah t)),(di 0),(di 0),(di (hdA e t)),(.con (.slice none 0 0))])):AV))∧((some [Za,(vi e)]):(Option (List AV)))=(some [Za,(vi e)])∧True)))) ((.d (.slc 2 t.tail.length (aG t.tail))):AV)) (by kernel_rfl) ?_
 try dsimp only
 have hpos:(!(ByteArray.toList (ah t)==ByteArray.toList { data:=#[] }))=true→(0:Int)≤(0:Int)∧(0:Int)<((ah t).size:Int):=fun c=>by
  rw[nZ] at c
  simp only[Bool.not_eq_true',decide_eq_false_iff_not] at c
  exact⟨by omega,by omega⟩
 refine⟨f110 t e,⟨hpos,fun _=>by rw[←hd];exact f63 _⟩,fun c=>?_,fun _=>⟨Og t e (by omega) hn,rfl,rfl,trivial⟩⟩
 rw[Bool.and_false] at c;cases c
theorem aa5 (t:List Tk) (e:Int) (hh:plainW (ah t)) (hs:(ah t).size≤900000) (hd:bQ (byteAt (ah t) 0)=false) (hn:nameB (ah t)=false):yA G t e (.bad t):=by
 refine dH.aP Tryz.func86 rfl Tryz.call86 ?_
 refine qg t e hh.1 (uM t e hh.2.1 (Gu t e hh.2.2 ?_))
 refine aF (aj:={ d:=RX false 0 0 0,m:=mPn (dw e t) t t.tail e (ah t) }) (keep:=[]) (cuts:=[25,28]) (n:=1000) follows ?_
 refine au (fun ZT ZW ZQ ZK=>(aA Tryz.prog G 110 [(.box 1000000 0)] [(1000000,[(.d (.slc 2 t.length (aG t))),(vi e)])] (.d (.agg [(ds (ah t)),(di (hdA e t))])) [(1000000,[(.d (.slc 2 t.length (aG t))),(vi e)])]∧((((!(ah t).toList==(ByteArray.mk #[]).toList)=true)→(((0:Int)≤(0:Int))∧(0<(↑(ah t).size:Int))))∧(((!(ah t).toList==(ByteArray.mk #[]).toList)=true)→ZK 63 [(.con (.int .u8 (byteAt (ah t) (Int.toNat 0))))] (db false)))∧(((!(ah t).toList==(ByteArray.mk #[]).toList&&false)=true)→ZW [cd Tryz.f86 [1,1,1,1,1,0,1,0],cd Tryz.f86 [1,1,1,1,1,1]] (aB ZT [0]) ZQ)∧(((!(ah t).toList==(ByteArray.mk #[]).toList&&false)=false)→ZW [cd Tryz.f86 [1,1,1,1,1,1]] (aB ZT [1]) ZQ))) (by kernel_rfl) ?_
 have hpos:(!(ByteArray.toList (ah t)==ByteArray.toList { data:=#[] }))=true→(0:Int)≤(0:Int)∧(0:Int)<((ah t).size:Int):=fun c=>by
  rw[nZ] at c
  simp only[Bool.not_eq_true',decide_eq_false_iff_not] at c
  exact⟨by omega,by omega⟩
 refine⟨f110 t e,⟨hpos,fun _=>by rw[←hd];exact f63 _⟩,fun c=>?_,fun _=>?_⟩
 ·rw[Bool.and_false] at c;cases c
 refine aK.iq follows ({ d:=RX false 0 0 0,m:=mPn (dw e t) t t.tail e (ah t) }:dK) 1 (mkV (hdA e t)) ?_
 refine au (fun _ _ _ _=>(dH Tryz.prog G 78 [(.box 1000000 0)] [(1000000,[(.d (.slc 2 t.length (aG t))),(vi e)])] (mkV (hdA e t))∧((.panic [(PanicEntry.mk (mkV (hdA e t)) false false)]):Exit)=(.panic [(PanicEntry.mk (mkV (hdA e t)) false false)])∧((some [.any,.any]):(Option (List AV)))=(some [.any,.any])∧True)) (by kernel_rfl) ?_
 exact⟨JO t e (by omega) hn,rfl,rfl,trivial⟩
end Go.Proofs
/- The parser,the program's side: min and max. -/
namespace Go.Proofs
open Go Go.Ab Go.RowKit
set_option maxHeartbeats 4000000
set_option maxRecDepth 100000
variable {G:IH}
abbrev IZ:RK:=⟨true,34,false,none⟩
def pz (l:List Ex) (i:Nat):DV:=fD (l.getD i aJ)
noncomputable def TP (k a e:Int) (x:List Ex×List Tk×Bool):AS:=⟨regs Tryz.f86.ntmps [(0,.box 1000000 0),(2,.box 2 0),(10,.box 10 0),(11,vb x.2.2)],[(2,zeroE),(10,[vi k,vs ⟨#[]⟩,vi 0,vi 0,vi a,.vec 900 6 0 x.1.length]),(900,[.arr IZ 6 (pz x.1)]),(1000000,pC x.2.1 e)]⟩
noncomputable def mPx (w:Tk) (b:Bool) (t1:List Tk) (x:Ex) (r:List Tk) (w2:Tk) (r2:List Tk) (e:Int):FuncId→List AV→List (Nat×List AV)→Option (AV×List (Nat×List AV)):=fun f _ _=>match f with
 | 75=>some (.d (.ak [qh w,db b]),pB t1 e)
 | 44=>some (.d (fD x),pB r e)
 | 79=>some (.d (qh w2),pB r2 e)
 | _=>none
noncomputable def qG (w:Tk) (b:Bool) (t1:List Tk) (x:Ex) (r:List Tk) (w2:Tk) (r2:List Tk) (e:Int):dK:={ d:=RX false 0 0 0,m:=mPx w b t1 x r w2 r2 e }
noncomputable def Xz (k a e:Int) (t:List Tk):AS:=⟨regs Tryz.f86.ntmps [(0,.box 1000000 0),(2,.box 2 0),(10,.box 10 0)],[(2,zeroE),(10,[vi k,vs ⟨#[]⟩,vi 0,vi 0,vi a,.d (.con (.slice none 0 0))]),(1000000,pC t e)]⟩
def yt (s:ByteArray):Int:=if s=maxS then 11 else 10
theorem Y3 {Q:Exit→AS→Prop} (t:List Tk) (e:Int) (hh:inB [minS,maxS] (ah t)=true) (ho:ah t.tail=dV) (k:aK Tryz.prog G [.code (aY (aC Tryz.f86) [1,1,1,0,1,1,0,1,1,1,0]),.code (aY (aC Tryz.f86) [1,1,1,0,1,1,0,1,1,1,1]),.code (aY (aC Tryz.f86) [1,1,1,1])] (Xz (yt (ah t)) (hdA e t) e t.tail.tail) Q) :
  aK Tryz.prog G [.code (aY (aC Tryz.f86) [1,1,1,0]),.code (aY (aC Tryz.f86) [1,1,1,1])] (Kr t e) Q:=by
 refine aF (aj:=qG (dw e t) true t.tail aJ [] (dw e t.tail) t.tail.tail e) (keep:=[]) (cuts:=[17,23]) (n:=1000) follows ?_
 refine au (fun ZT ZW ZQ _=>(fun Za=>(aA Tryz.prog G 75 [(.box 1000000 0),(.d (.slc 1 2 (aS false 1 [(ds (ByteArray.mk #[109,105,110])),(ds (ByteArray.mk #[109,97,120]))])))] [(1000000,[(.d (.slc 2 t.length (aG t))),(vi e)])] (.d (.ak [(.agg [(ds (ah t)),(di (hdA e t))]),(db true)])) [(1000000,[Za,(vi e)])]∧((true=true)→(((((ah t).toList==(ByteArray.mk #[109,97,120]).toList)=true)→(aA Tryz.prog G 79 [(.box 1000000 0),(vs (ByteArray.mk #[40]))] [(1000000,[Za,(vi e)])] (.d (.agg [(ds (ah t.tail)),(di (hdA e t.tail))])) [(1000000,[(.d (.slc 2 t.tail.tail.length (aG t.tail.tail))),(vi e)])]∧ZW [cd Tryz.f86 [1,1,1,0,1,1,0,1,1,1,0],cd Tryz.f86 [1,1,1,0,1,1,0,1,1,1,1],cd Tryz.f86 [1,1,1,1]] (aB ZT [0,0]) ZQ))∧((((ah t).toList==(ByteArray.mk #[109,97,120]).toList)=false)→(aA Tryz.prog G 79 [(.box 1000000 0),(vs (ByteArray.mk #[40]))] [(1000000,[Za,(vi e)])] (.d (.agg [(ds (ah t.tail)),(di (hdA e t.tail))])) [(1000000,[(.d (.slc 2 t.tail.tail.length (aG t.tail.tail))),(vi e)])]∧ZW [cd Tryz.f86 [1,1,1,0,1,1,0,1,1,1,0],cd Tryz.f86 [1,1,1,0,1,1,0,1,1,1,1],cd Tryz.f86 [1,1,1,1]] (aB ZT [0,1]) ZQ))))∧((true=false)→ZW [cd Tryz.f86 [1,1,1,1]] (aB ZT [1]) ZQ))) ((.d (.slc 2 t.tail.length (aG t.tail))):AV)) (by kernel_rfl) ?_
 try dsimp only
 have U1:=Ag (G:=G) dV t.tail e (by rw[ho];decide +kernel)
 refine⟨aA.st (gY [minS,maxS] t e (by simp) hh),fun _=>⟨fun c=>⟨U1,?_⟩,fun c=>⟨U1,?_⟩⟩,fun c=>(by cases c)⟩
 ·have hm:ah t=maxS:=by rw[gQ] at c;exact of_decide_eq_true c
  refine aK.weaken ?_ k
  rw[show yt (ah t)=11 by unfold yt;rw[if_pos hm]]
  exact AS.bV (by kernel_rfl)
 ·have hm:ah t≠maxS:=by rw[gQ] at c;exact of_decide_eq_false c
  refine aK.weaken ?_ k
  rw[show yt (ah t)=10 by unfold yt;rw[if_neg hm]]
  exact AS.bV (by kernel_rfl)
theorem WG (t:List Tk) (e:Int) (hh:inB [minS,maxS] (ah t)=true) (h1:ah t≠dV) (h2:inB [kE,jR] (ah t)=false) (ho:ah t.tail≠dV):yA G t e (.bad t.tail):=by
 have U1:=AB (G:=G) dV t.tail e (by rw[nS _ _ (by decide),decide_eq_false ho])
 refine dH.aP Tryz.func86 rfl Tryz.call86 ?_
 refine qg t e h1 (uM t e h2 ?_)
 refine aF (aj:=qG (dw e t) true t.tail aJ [] (dw e t.tail) t.tail.tail e) (keep:=[]) (cuts:=[16,23]) (n:=1000) follows ?_
 refine au (fun ZT ZW ZQ _=>(aA Tryz.prog G 75 [(.box 1000000 0),(.d (.slc 1 2 (aS false 1 [(ds (ByteArray.mk #[109,105,110])),(ds (ByteArray.mk #[109,97,120]))])))] [(1000000,[(.d (.slc 2 t.length (aG t))),(vi e)])] (.d (.ak [(.agg [(ds (ah t)),(di (hdA e t))]),(db true)])) [(1000000,[(.d (.slc 2 t.tail.length (aG t.tail))),(vi e)])]∧((true=true)→(((((ah t).toList==(ByteArray.mk #[109,97,120]).toList)=true)→ZW [cd Tryz.f86 [1,1,1,0,1,1,0,1,1],cd Tryz.f86 [1,1,1,1]] (aB ZT [0,0]) ZQ)∧((((ah t).toList==(ByteArray.mk #[109,97,120]).toList)=false)→ZW [cd Tryz.f86 [1,1,1,0,1,1,0,1,1],cd Tryz.f86 [1,1,1,1]] (aB ZT [0,1]) ZQ)))∧((true=false)→ZW [cd Tryz.f86 [1,1,1,1]] (aB ZT [1]) ZQ))) (by kernel_rfl) ?_
 refine⟨aA.st (gY [minS,maxS] t e (by simp) hh),fun _=>⟨fun c=>?_,fun c=>?_⟩,fun c=>(by cases c)⟩
 ·refine aK.iq follows (qG (dw e t) true t.tail aJ [] (dw e t.tail) t.tail.tail e) 1 (mkV (hdA e t.tail)) ?_
  refine au (fun _ _ _ _=>(dH Tryz.prog G 79 [(.box 1000000 0),(vs (ByteArray.mk #[40]))] [(1000000,[(.d (.slc 2 t.tail.length (aG t.tail))),(vi e)])] (mkV (hdA e t.tail))∧((.panic [(PanicEntry.mk (mkV (hdA e t.tail)) false false)]):Exit)=(.panic [(PanicEntry.mk (mkV (hdA e t.tail)) false false)])∧((some [.any,.any]):(Option (List AV)))=(some [.any,.any])∧True)) (by kernel_rfl) ?_
  exact⟨U1,rfl,rfl,trivial⟩
 ·refine aK.iq follows (qG (dw e t) true t.tail aJ [] (dw e t.tail) t.tail.tail e) 1 (mkV (hdA e t.tail)) ?_
  refine au (fun _ _ _ _=>(dH Tryz.prog G 79 [(.box 1000000 0),(vs (ByteArray.mk #[40]))] [(1000000,[(.d (.slc 2 t.tail.length (aG t.tail))),(vi e)])] (mkV (hdA e t.tail))∧((.panic [(PanicEntry.mk (mkV (hdA e t.tail)) false false)]):Exit)=(.panic [(PanicEntry.mk (mkV (hdA e t.tail)) false false)])∧((some [.any,.any]):(Option (List AV)))=(some [.any,.any])∧True)) (by kernel_rfl) ?_
  exact⟨U1,rfl,rfl,trivial⟩
def Fp (k a:Int) (x:List Ex×List Tk×Bool):Rs:=if x.2.2=true then pr (.args (.mk k .empty 0 0 a x.1)) x.2.1 else if ah x.2.1=fA then .ok (.mk k .empty 0 0 a x.1) x.2.1.tail else .bad x.2.1
noncomputable def aeo:List It:=[.blk 0,.code (aY (aC Tryz.f86) [1,1,1,0,1,1,0,1,1,1,1]),.code (aY (aC Tryz.f86) [1,1,1,1])]
theorem Ny {Q:Exit→AS→Prop} {I:List Ex×List Tk×Bool→Prop} (k a e:Int) (L:List Ex) (t r:List Tk) (y:Ex) (h:jo G 0 t e (.ok y r)) (hL:L.length≤1000000) (hle:r.length≤t.length)
  (hI:I (L++[y],(if ah r=dF then r.tail else r),decide (ah r=dF))):aK Tryz.prog G [.code (aY (aC Tryz.f86) [1,1,1,0,1,1,0,1,1,1,0,1,0,0])] (TP k a e (L,t,true)) (nR Tryz.prog G aeo Q (TP k a e) I (fun x=>2*x.2.1.length+if x.2.2=true then 1 else 0) (L,t,true)):=by
 refine aF (aj:=qG (dw e r) (decide (ah r=dF)) (if ah r=dF then r.tail else r) y r fU [] e) (keep:=[]) (cuts:=[]) (n:=1000) follows ?_
 refine bZ (fun ZT ZW _ _ ZA _=>(((true=true)→((aA Tryz.prog G 44 [(.box 1000000 0),(vi 0)] [(1000000,[(.d (.slc 2 t.length (aG t))),(vi e)])] (.d (aN (ht y) y)) [(1000000,[(.d (.slc 2 r.length (aG r))),(vi e)])]∧(((L.length+1)*72≤1099511627776)∧(L.length+1≤1099511627776))∧(∀(i:Nat),i<1→lC true 6 (aS true 6 [di y.k,ds y.s,di y.n,di y.d,di y.pos,DV.slc 6 y.kids.length (lay (cu (ht y)) y.kids)] i)=true))∧aA Tryz.prog G 75 [(.box 1000000 0),(.d (.slc 1 1 (aS false 1 [(ds (ByteArray.mk #[44]))])))] [(1000000,[(.d (.slc 2 r.length (aG r))),(vi e)])] (.d (.ak [(.agg [(ds (ah r)),(di (hdA e r))]),(db (decide (ah r=dF)))])) [(1000000,[(.d (.slc 2 (if ah r=dF then r.tail else r).length (aG (if ah r=dF then r.tail else r)))),(vi e)])]∧(ZA (aB ZT [0]))))∧((true=false)→ZW [cd Tryz.f86 [1,1,1,0,1,1,0,1,1,1,1],cd Tryz.f86 [1,1,1,1]] (aB ZT [1]) Q))) (by kernel_rfl) ?_
 have Ak:aA Tryz.prog G 75 [.box 1000000 0,.d (st1 [dF])] (pB r e) (.d (.ak [qh (dw e r),db (decide (ah r=dF))])) (pB (if ah r=dF then r.tail else r) e):=by
  by_cases hc:ah r=dF
  ·rw[if_pos hc,decide_eq_true hc]
   exact aA.st (gY [dF] r e (by simp) (by rw[hc];decide +kernel))
  ·rw[if_neg hc,decide_eq_false hc]
   exact aA.st (ql [dF] r e (by simp) (by rw[nS _ _ (by decide),decide_eq_false hc]))
 refine⟨fun _=>⟨⟨h,⟨by omega,by omega⟩,fun i hi=>?_⟩,Ak,?_⟩,fun c=>(by cases c)⟩
 ·obtain rfl:i=0:=by omega
  rfl
 ·refine⟨(L++[y],(if ah r=dF then r.tail else r),decide (ah r=dF)),(AS.dZ.moves [(71,900)] _ rfl).trans ((AS.dZ.rowB _ 10 5 900 (L.length+1) (l:=[vi k,vs ⟨#[]⟩,vi 0,vi 0,vi a,.vec 900 6 0 (L.length+1)]) (agg:=IZ) (sz:=6) (f:=fun i=>bif Nat.blt i L.length then pz L i else aS true 6 [di y.k,ds y.s,di y.n,di y.d,di y.pos,.slc 6 y.kids.length (lay (cu (ht y)) y.kids)] (i-L.length)) (pz (L++[y])) (by kernel_rfl) (by kernel_rfl) (by kernel_rfl) (by kernel_rfl) (by kernel_rfl) (by kernel_rfl) rfl (by kernel_rfl) (fun i hi=>?_)).trans (.of_le ?_)),hI,?_⟩
  ·unfold pz
   rcases Nat.lt_or_ge i L.length with h4|h4
   ·rw[show Nat.blt i L.length=true from by rw[Nat.blt_eq];exact h4,tq h4];rfl
   ·obtain rfl:i=L.length:=by omega
    rw[show Nat.blt L.length L.length=false from by rw[Bool.eq_false_iff,ne_eq,Nat.blt_eq];omega,tJ (Nat.le_refl _),Nat.sub_self];rfl
  ·refine AS.leZ [] [1] (b:=((T0∧T0∧T0∧T0∧True)∧T0∧((some [(vi k),(vs (ByteArray.mk #[])),(vi 0),(vi 0),(vi a),(.vec 900 6 0 (L.length+1))]):(Option (List AV)))=(some [(vi k),(vs (ByteArray.mk #[])),(vi 0),(vi 0),(vi a),(.vec 900 6 0 (L++[y]).length)])∧T0∧T0∧True)) (by kernel_rfl) (by kernel_rfl) ?_
   rw[show (L++[y]).length=L.length+1 by simp]
   exact⟨⟨rfl,rfl,rfl,rfl,trivial⟩,rfl,rfl,rfl,rfl,trivial⟩
  ·by_cases hc:ah r=dF
   ·have:=bK (t:=r) (by rw[hc];decide)
    simp only[hc,if_true,decide_true]
    omega
   ·simp only[hc,if_false,decide_false]
    simp
    omega
theorem Po {k a:Int} {L:List Ex} {t r:List Tk} {y:Ex} (h:pr (.lvl 0) t=.ok y r):Fp k a (L++[y],(if ah r=dF then r.tail else r),decide (ah r=dF))=Fp k a (L,t,true):=by
 have e1:Fp k a (L,t,true)=pr (.args (.mk k .empty 0 0 a L)) t:=rfl
 rw[e1,zX,h]
 unfold Fp
 try dsimp only
 by_cases hc:ah r=dF
 ·rw[if_pos hc,if_pos hc,decide_eq_true hc,if_pos rfl];rfl
 ·rw[if_neg hc,if_neg hc,decide_eq_false hc,if_neg (by decide)];rfl
theorem RU {k a:Int} {L:List Ex} {t r:List Tk} (h:pr (.lvl 0) t=.bad r):Fp k a (L,t,true)=.bad r:=by
 have e1:Fp k a (L,t,true)=pr (.args (.mk k .empty 0 0 a L)) t:=rfl
 rw[e1,zX,h]
theorem QX {k a:Int} {L:List Ex} {h:IH} {v:Value} (hv:DV.rel h (.slc 6 L.length fun i=>pz L (0+i)) v):DV.rel h (.slc 6 L.length (lay (cu (ht (.mk k .empty 0 0 a L))) L)) v:=
 F8 (x:=.mk k .empty 0 0 a L) rfl (fun i _ v hv=>by rw[Nat.zero_add] at hv;exact hv) hv
theorem acA (k a e:Int) (t:List Tk) (hn:t.length≤100000) (Y:Ex) (R:List Tk) (hp:pr (.args (.mk k .empty 0 0 a [])) t=.ok Y R) (hS:gB t) (hC:∀t',t'.length≤t.length→gB t'→jo G 0 t' e (pr (.lvl 0) t')) :
  aK Tryz.prog G [.code (aY (aC Tryz.f86) [1,1,1,0,1,1,0,1,1,1,0]),.code (aY (aC Tryz.f86) [1,1,1,0,1,1,0,1,1,1,1]),.code (aY (aC Tryz.f86) [1,1,1,1])] (Xz k a e t) (wC Tryz.prog Tryz.f86 [] (.d (fD Y)) (pB R e)):=by
 refine aF (aj:=qG fU true t aJ [] fU [] e) (keep:=[]) (cuts:=[]) (n:=1000) follows ?_
 refine au (fun ZT ZW ZQ _=>ZW [cd Tryz.f86 [1,1,1,0,1,1,0,1,1,1,0,1,0],(.blk 0),cd Tryz.f86 [1,1,1,0,1,1,0,1,1,1,1],cd Tryz.f86 [1,1,1,1]] (aB ZT []) ZQ) (by kernel_rfl) ?_
 refine aK.pre (.Ar _ 10 5 900 6 IZ (pz []) (by kernel_rfl) (by kernel_rfl)) ?_
 refine aK.loop (c:=aY (aC Tryz.f86) [1,1,1,0,1,1,0,1,1,1,0,1,0,0]) (by kernel_rfl) (TP k a e) (fun x=>x.2.1.length≤t.length∧gB x.2.1∧x.1.length+x.2.1.length+(if x.2.2=true then 1 else 0)≤100001∧Fp k a x=.ok Y R) (fun x=>2*x.2.1.length+if x.2.2=true then 1 else 0) ([],t,true) ?_ ⟨Nat.le_refl _,hS,by show 0+t.length+1≤_;omega,hp⟩ ?_
 ·exact AS.bV (by kernel_rfl)
 ·rintro ⟨L,s,m⟩ ⟨h1,yC,h2,h3⟩
  dsimp only at h1 h2 yC
  cases m with
  | true=>
   have hc:=hC s h1 yC
   cases hq:pr (.lvl 0) s with
   | bad r=>rw[RU hq] at h3;cases h3
   | ok y r=>
    rw[hq] at hc
    have hle:=mg (.lvl 0) s
    rw[hq] at hle
    simp only[aQ] at hle
    have htl:=dR r
    have hSr:gB r:=yC.rest (md:=.lvl 0) (by rw[hq];rfl)
    refine Ny k a e L s r y hc (by omega) hle ⟨?_,?_,?_,?_⟩
    ·dsimp only;split<;>omega
    ·dsimp only;split
     ·exact hSr.tail
     ·exact hSr
    ·simp only[if_true] at h2
     simp only[List.length_append,List.length_singleton]
     by_cases hc2:ah r=dF
     ·have:=bK (t:=r) (by rw[hc2];decide)
      rw[if_pos hc2,decide_eq_true hc2,if_pos rfl];omega
     ·rw[if_neg hc2,decide_eq_false hc2,if_neg (by decide)];omega
    ·rw[Po hq];exact h3
  | false=>
   refine aF (aj:=qG fU true t aJ [] fU [] e) (keep:=[]) (cuts:=[]) (n:=1000) follows ?_
   refine bZ (fun ZT ZW ZQ _ ZA _=>(((false=true)→((aA Tryz.prog G 44 [(.box 1000000 0),(vi 0)] [(1000000,[(.d (.slc 2 s.length (aG s))),(vi e)])] (.d (.agg [(di 0),(ds aJ.s),(di 0),(di 0),(di 0),(.slc 6 0 (lay (cu (ht aJ)) aJ.kids))])) [(1000000,[(.d (.slc 2 0 (aG []))),(vi e)])]∧(((L.length+1)*72≤1099511627776)∧(L.length+1≤1099511627776))∧(∀(i:Nat),i<1→lC true 6 (aS true 6 [di 0,ds aJ.s,di 0,di 0,di 0,DV.slc 6 0 (lay (cu (ht aJ)) aJ.kids)] i)=true))∧aA Tryz.prog G 75 [(.box 1000000 0),(.d (.slc 1 1 (aS false 1 [(ds (ByteArray.mk #[44]))])))] [(1000000,[(.d (.slc 2 0 (aG []))),(vi e)])] (.d (.ak [(.agg [(ds ByteArray.empty),(di 0)]),(db true)])) [(1000000,[(.d (.slc 2 t.length (aG t))),(vi e)])]∧(ZA (aB ZT [0]))))∧((false=false)→ZW [cd Tryz.f86 [1,1,1,0,1,1,0,1,1,1,1],cd Tryz.f86 [1,1,1,1]] (aB ZT [1]) ZQ))) (by kernel_rfl) ?_
   refine⟨fun c=>(by cases c),fun _=>?_⟩
   have e1:Fp k a (L,s,false)=if ah s=fA then .ok (.mk k .empty 0 0 a L) s.tail else .bad s:=rfl
   rw[e1] at h3
   by_cases hc:ah s=fA
   ·rw[if_pos hc] at h3
    injection h3 with q1 q2
    subst q1;subst q2
    refine aK.freeze 900 (agg:=IZ) (sz:=6) (f:=pz L) (by kernel_rfl) ?_
    refine aK.pre (AS.dZ.cell _ 10 5 (l:=[vi k,vs ⟨#[]⟩,vi 0,vi 0,vi a,.d (.slc 6 L.length fun i=>pz L (0+i))]) (x:=.d (.slc 6 L.length fun i=>pz L (0+i))) (.d (.slc 6 L.length (lay (cu (ht (.mk k .empty 0 0 a L))) L))) (by kernel_rfl) (by kernel_rfl) rfl (by kernel_rfl) (fun β h v hv=>QX hv)) ?_
    refine aF (aj:=qG fU true s aJ [] (dw e s) s.tail e) (keep:=[]) (cuts:=[]) (n:=1000) follows ?_
    refine au (fun _ _ _ _=>(fun Za=>(aA Tryz.prog G 79 [(.box 1000000 0),(vs (ByteArray.mk #[41]))] [(1000000,[(.d (.slc 2 s.length (aG s))),(vi e)])] (.d (.agg [(ds (ah s)),(di (hdA e s))])) [(1000000,[Za,(vi e)])]∧((.d (.agg [(di k),(ds (ByteArray.mk #[])),(di 0),(di 0),(di a),(.slc 6 L.length (lay (cu (ht (Ex.mk k ByteArray.empty 0 0 a L))) L))])):AV)=(.d (aN (ht (Ex.mk k ByteArray.empty 0 0 a L)) (Ex.mk k ByteArray.empty 0 0 a L)))∧((some [Za,(vi e)]):(Option (List AV)))=(some [Za,(vi e)])∧True)) ((.d (.slc 2 s.tail.length (aG s.tail))):AV)) (by kernel_rfl) ?_
    exact⟨Ag fA s e (by rw[hc];decide +kernel),rfl,rfl,trivial⟩
   ·rw[if_neg hc] at h3;cases h3
theorem acf (k a e:Int) (t:List Tk) (hn:t.length≤100000) (R:List Tk) (pre:List Tk) (hp:pr (.args (.mk k .empty 0 0 a [])) t=.bad R) (hS:gB t) (hC:∀t',t'.length≤t.length→gB t'→jo G 0 t' e (pr (.lvl 0) t')) :
  aK Tryz.prog G [.code (aY (aC Tryz.f86) [1,1,1,0,1,1,0,1,1,1,0]),.code (aY (aC Tryz.f86) [1,1,1,0,1,1,0,1,1,1,1]),.code (aY (aC Tryz.f86) [1,1,1,1])] (Xz k a e t) (fun x st=>x=.panic (lQ (mkV (hdA e R)))∧jE (fC st.boxes) (fC (pB pre e))):=by
 refine aF (aj:=qG fU true t aJ [] fU [] e) (keep:=[]) (cuts:=[]) (n:=1000) follows ?_
 refine au (fun ZT ZW ZQ _=>ZW [cd Tryz.f86 [1,1,1,0,1,1,0,1,1,1,0,1,0],(.blk 0),cd Tryz.f86 [1,1,1,0,1,1,0,1,1,1,1],cd Tryz.f86 [1,1,1,1]] (aB ZT []) ZQ) (by kernel_rfl) ?_
 refine aK.pre (.Ar _ 10 5 900 6 IZ (pz []) (by kernel_rfl) (by kernel_rfl)) ?_
 refine aK.loop (c:=aY (aC Tryz.f86) [1,1,1,0,1,1,0,1,1,1,0,1,0,0]) (by kernel_rfl) (TP k a e) (fun x=>x.2.1.length≤t.length∧gB x.2.1∧x.1.length+x.2.1.length+(if x.2.2=true then 1 else 0)≤100001∧Fp k a x=.bad R) (fun x=>2*x.2.1.length+if x.2.2=true then 1 else 0) ([],t,true) ?_ ⟨Nat.le_refl _,hS,by show 0+t.length+1≤_;omega,hp⟩ ?_
 ·exact AS.bV (by kernel_rfl)
 ·rintro ⟨L,s,m⟩ ⟨h1,yC,h2,h3⟩
  dsimp only at h1 h2 yC
  cases m with
  | true=>
   have hc:=hC s h1 yC
   cases hq:pr (.lvl 0) s with
   | bad r=>
    rw[RU hq] at h3
    injection h3 with h3
    subst h3
    rw[hq] at hc
    refine aF (aj:=qG fU true s aJ [] fU [] e) (keep:=[]) (cuts:=[20]) (n:=1000) follows ?_
    refine bZ (fun ZT ZW ZQ _ _ ZR=>(((true=true)→ZW [cd Tryz.f86 [1,1,1,0,1,1,0,1,1,1,0,1,0,0,1,0,0],(.blk 1),cd Tryz.f86 [1,1,1,0,1,1,0,1,1,1,0,1,0,0,1,1]] (aB ZT [0]) ZR)∧((true=false)→ZW [cd Tryz.f86 [1,1,1,0,1,1,0,1,1,1,1],cd Tryz.f86 [1,1,1,1]] (aB ZT [1]) ZQ))) (by kernel_rfl) ?_
    refine⟨fun _=>?_,fun c=>(by cases c)⟩
    refine aK.iq follows (qG fU true s aJ [] fU [] e) 3 (mkV (hdA e r)) ?_
    refine bZ (fun _ _ _ _ _ _=>(dH Tryz.prog G 44 [(.box 1000000 0),(vi 0)] [(1000000,[(.d (.slc 2 s.length (aG s))),(vi e)])] (mkV (hdA e r))∧((.panic [(PanicEntry.mk (mkV (hdA e r)) false false)]):Exit)=(.panic [(PanicEntry.mk (mkV (hdA e r)) false false)])∧((some [.any,.any]):(Option (List AV)))=(some [.any,.any])∧True)) (by kernel_rfl) ?_
    exact⟨hc,rfl,rfl,trivial⟩
   | ok y r=>
    rw[hq] at hc
    have hle:=mg (.lvl 0) s
    rw[hq] at hle
    simp only[aQ] at hle
    have htl:=dR r
    have hSr:gB r:=yC.rest (md:=.lvl 0) (by rw[hq];rfl)
    refine Ny k a e L s r y hc (by omega) hle ⟨?_,?_,?_,?_⟩
    ·dsimp only;split<;>omega
    ·dsimp only;split
     ·exact hSr.tail
     ·exact hSr
    ·simp only[if_true] at h2
     simp only[List.length_append,List.length_singleton]
     by_cases hc2:ah r=dF
     ·have:=bK (t:=r) (by rw[hc2];decide)
      rw[if_pos hc2,decide_eq_true hc2,if_pos rfl];omega
     ·rw[if_neg hc2,decide_eq_false hc2,if_neg (by decide)];omega
    ·rw[Po hq];exact h3
  | false=>
   refine aF (aj:=qG fU true t aJ [] fU [] e) (keep:=[]) (cuts:=[]) (n:=1000) follows ?_
   refine bZ (fun ZT ZW ZQ _ ZA _=>(((false=true)→((aA Tryz.prog G 44 [(.box 1000000 0),(vi 0)] [(1000000,[(.d (.slc 2 s.length (aG s))),(vi e)])] (.d (.agg [(di 0),(ds aJ.s),(di 0),(di 0),(di 0),(.slc 6 0 (lay (cu (ht aJ)) aJ.kids))])) [(1000000,[(.d (.slc 2 0 (aG []))),(vi e)])]∧(((L.length+1)*72≤1099511627776)∧(L.length+1≤1099511627776))∧(∀(i:Nat),i<1→lC true 6 (aS true 6 [di 0,ds aJ.s,di 0,di 0,di 0,DV.slc 6 0 (lay (cu (ht aJ)) aJ.kids)] i)=true))∧aA Tryz.prog G 75 [(.box 1000000 0),(.d (.slc 1 1 (aS false 1 [(ds (ByteArray.mk #[44]))])))] [(1000000,[(.d (.slc 2 0 (aG []))),(vi e)])] (.d (.ak [(.agg [(ds ByteArray.empty),(di 0)]),(db true)])) [(1000000,[(.d (.slc 2 t.length (aG t))),(vi e)])]∧(ZA (aB ZT [0]))))∧((false=false)→ZW [cd Tryz.f86 [1,1,1,0,1,1,0,1,1,1,1],cd Tryz.f86 [1,1,1,1]] (aB ZT [1]) ZQ))) (by kernel_rfl) ?_
   refine⟨fun c=>(by cases c),fun _=>?_⟩
   have e1:Fp k a (L,s,false)=if ah s=fA then .ok (.mk k .empty 0 0 a L) s.tail else .bad s:=rfl
   rw[e1] at h3
   by_cases hc:ah s=fA
   ·rw[if_pos hc] at h3;cases h3
   ·rw[if_neg hc] at h3
    injection h3 with h3
    subst h3
    refine aK.iq follows (qG fU true s aJ [] (dw e s) s.tail e) 1 (mkV (hdA e s)) ?_
    refine au (fun _ _ _ _=>(dH Tryz.prog G 79 [(.box 1000000 0),(vs (ByteArray.mk #[41]))] [(1000000,[(.d (.slc 2 s.length (aG s))),(vi e)])] (mkV (hdA e s))∧((.panic [(PanicEntry.mk (mkV (hdA e s)) false false)]):Exit)=(.panic [(PanicEntry.mk (mkV (hdA e s)) false false)])∧((some [.any,.any]):(Option (List AV)))=(some [.any,.any])∧True)) (by kernel_rfl) ?_
    exact⟨AB fA s e (by rw[nS _ _ (by decide),decide_eq_false hc]),rfl,rfl,trivial⟩
end Go.Proofs
/- The parser,the program's side: expressions. -/
namespace Go.Proofs
open Go Go.Ab Go.RowKit
variable {G:IH}
theorem RF (a b s:ByteArray) (ha:a.size≠0) (hb:b.size≠0):inB [a,b] s=true↔s=a∨s=b:=by
 unfold inB dN
 simp only[List.any_cons,List.any_nil,Bool.or_false,aV,Bool.or_eq_true,decide_eq_true_eq]
 constructor
 ·rintro ⟨_,h|h⟩
  ·exact .inl h.symm
  ·exact .inr h.symm
 ·rintro (h|h)
  ·exact⟨by rw[h];exact ha,.inl h.symm⟩
  ·exact⟨by rw[h];exact hb,.inr h.symm⟩
theorem II {a b s:ByteArray} (ha:a.size≠0) (hb:b.size≠0) (h1:s≠a) (h2:s≠b):inB [a,b] s=false:=by
 rw[Bool.eq_false_iff]
 intro h
 rcases (RF a b s ha hb).1 h with h|h
 ·exact h1 h
 ·exact h2 h
theorem acz:∀(N:Nat) (t:List Tk) (e:Int),t.length≤100000→gB t→(∀n,n≤7→ms (.lvl n) t<N→jo G n t e (pr (.lvl n) t))∧(ms .gI t<N→yA G t e (pr .gI t)):=by
 intro N
 induction N with
 | zero=>intro t e _ _;exact⟨fun n _ h=>absurd h (Nat.not_lt_zero _),fun h=>absurd h (Nat.not_lt_zero _)⟩
 | succ N ih=>
  intro t e hl hS
  have tl:=dR t
  refine⟨fun n hn hm=>?_,fun hm=>?_⟩
  ·simp only[ms] at hm
   by_cases h2:n=2
   ·subst h2
    by_cases hh:ah t=notS
    ·have:=bK (t:=t) (by rw[hh];decide)
     rw[NI hh]
     exact abJ t e hh _ ((ih t.tail e (by omega) hS.tail).1 2 (by omega) (by simp only[ms];omega))
    ·rw[Jk hh]
     exact aav t e hh _ ((ih t e hl hS).1 3 (by omega) (by simp only[ms];omega))
   by_cases h6:n=6
   ·subst h6
    by_cases hh:ah t=gV
    ·have:=bK (t:=t) (by rw[hh];decide)
     rw[NK hh]
     exact acg t e hh _ ((ih t.tail e (by omega) hS.tail).1 6 (by omega) (by simp only[ms];omega))
    ·rw[Jd hh]
     exact aaq t e hh _ ((ih t e hl hS).1 7 (by omega) (by simp only[ms];omega))
   by_cases h7:n=7
   ·subst h7
    rw[uU]
    exact aaf t e _ ((ih t e hl hS).2 (by simp only[ms];omega))
   have hb:fB n:=by unfold fB;omega
   have hx:=(ih t e hl hS).1 (n+1) (by omega) (by simp only[ms];omega)
   have hle:=mg (.lvl (n+1)) t
   rw[Dl hb]
   cases hq:pr (.lvl (n+1)) t with
   | bad r=>
    rw[hq] at hx
    exact PN n hb e t r hx
   | ok x r=>
    have hSr:gB r:=hS.rest (md:=.lvl (n+1)) (by rw[hq];rfl)
    rw[hq] at hx hle
    simp only[aQ] at hle
    have hC:∀t',t'.length<r.length→gB t'→jo G (n+1) t' e (pr (.lvl (n+1)) t'):=fun t' h1 h2=>(ih t' e (by omega) h2).1 (n+1) (by omega) (by simp only[ms];omega)
    try dsimp only
    cases hp:pr (.loop n x) r with
    | ok y r2=>exact VK n hb e x t r hx y r2 hp hSr hC
    | bad r2=>exact Ua n hb e x t r hx r2 hp hSr hC
  ·simp only[ms] at hm
   rw[mJ]
   by_cases ho:ah t=dV
   ·have:=bK (t:=t) (by rw[ho];decide)
    rw[if_pos ho]
    have hx:=(ih t.tail e (by omega) hS.tail).1 0 (by omega) (by simp only[ms];omega)
    cases hq:pr (.lvl 0) t.tail with
    | bad r=>rw[hq] at hx;exact Qc t e ho r hx
    | ok x r=>
     rw[hq] at hx
     try dsimp only
     by_cases hc:ah r=fA
     ·rw[if_pos hc];exact aad t e ho x r hx hc
     ·rw[if_neg hc];exact PS t e ho x r hx hc
   ·rw[if_neg ho]
    by_cases hm2:ah t=minS∨ah t=maxS
    ·rw[if_pos hm2]
     have hin:inB [minS,maxS] (ah t)=true:=(RF minS maxS _ (by decide) (by decide)).2 hm2
     have htf:inB [kE,jR] (ah t)=false:=by rcases hm2 with h|h<;>rw[h]<;>decide +kernel
     have hne:ah t≠.empty:=by rcases hm2 with h|h<;>rw[h]<;>decide
     have:=bK hne
     by_cases ho2:ah t.tail=dV
     ·have h3:=bK (t:=t.tail) (by rw[ho2];decide)
      rw[if_pos ho2]
      have hC:∀t',t'.length≤t.tail.tail.length→gB t'→jo G 0 t' e (pr (.lvl 0) t'):=fun t' h1 h2=>(ih t' e (by omega) h2).1 0 (by omega) (by simp only[ms];omega)
      have hk:(if ah t=maxS then (11:Int) else 10)=yt (ah t):=rfl
      rw[hk,←jr e hne]
      cases hp:pr (.args (.mk (yt (ah t)) .empty 0 0 (hdA e t) [])) t.tail.tail with
      | ok Y R=>
       refine aA.aP (mv:=[]) (by kernel_rfl) Tryz.func86 rfl Tryz.call86 ?_
       exact qg t e ho (uM t e htf (Y3 t e hin ho2 (acA _ _ e _ (by omega) Y R hp hS.tail.tail hC)))
      | bad R=>
       refine dH.aP Tryz.func86 rfl Tryz.call86 ?_
       exact qg t e ho (uM t e htf (Y3 t e hin ho2 (acf _ _ e _ (by omega) R t hp hS.tail.tail hC)))
     ·rw[if_neg ho2]
      exact WG t e hin ho htf ho2
    ·rw[if_neg hm2]
     unfold mZ
     have hmm:inB [minS,maxS] (ah t)=false:=II (by decide) (by decide) (fun h=>hm2 (.inl h)) (fun h=>hm2 (.inr h))
     by_cases ht:ah t=kE
     ·rw[if_pos ht];exact Zt t e ht
     rw[if_neg ht]
     by_cases hf:ah t=jR
     ·rw[if_pos hf];exact WZ t e hf
     rw[if_neg hf]
     have hpl:plainW (ah t):=⟨ho,II (by decide) (by decide) ht hf,hmm⟩
     by_cases hd:bQ (byteAt (ah t) 0)=true
     ·rw[if_pos hd];exact aaW t e hpl hS.hd hd
     rw[if_neg hd]
     have hd:bQ (byteAt (ah t) 0)=false:=by simpa using hd
     by_cases hnm:nameB (ah t)=true
     ·rw[if_pos hnm];exact ZB t e hpl hS.hd hd hnm
     ·rw[if_neg hnm];exact aa5 t e hpl hS.hd hd (by simpa using hnm)
theorem f44 (n:Nat) (hn:n≤7) (t:List Tk) (e:Int) (hl:t.length≤100000) (hS:gB t):jo G n t e (pr (.lvl n) t):=(acz _ t e hl hS).1 n hn (Nat.lt_succ_self _)
end Go.Proofs
