import Derived.Test.YteigabjdeaoaiaaGreatDoorG3
import Derived.Test.YteigabjdeaoaiaaGreatDoorAcD
/- The best of those that wait,plain. -/
set_option autoImplicit false
namespace Go.Proofs
open Go Go.Ab
def Bef (sv:ByteArray→Int) (a b:Wt):Prop:=a.j.pr>b.j.pr∨(a.j.pr=b.j.pr∧(sv a.j.st<sv b.j.st∨(sv a.j.st=sv b.j.st∧a.ar<b.ar)))
theorem bef_iff (q:Qm) (a b:Wt):beforeN q a b<0↔Bef q.sv a b:=by
 unfold beforeN dimE cmpZ Bef
 generalize q.sv a.j.st=x
 generalize q.sv b.j.st=y
 constructor
 ·intro h
  split at h<;>split at h<;>(try split at h)<;>(try split at h)<;>(try split at h)<;>(try split at h)<;>omega
 ·intro h
  split<;>split<;>(try split)<;>(try split)<;>(try split)<;>(try split)<;>omega
theorem best_min (q:Qm) (t:Int):∀k,(bestI q t k<0→∀i,i<k→mayB q t (q.W.getD i wt0)=false)∧(0≤bestI q t k→mayB q t (q.W.getD (bestI q t k).toNat wt0)=true∧∀i,i<k→mayB q t (q.W.getD i wt0)=true→¬Bef q.sv (q.W.getD i wt0) (q.W.getD (bestI q t k).toNat wt0))
 | 0=>⟨fun _ i hi=>absurd hi (Nat.not_lt_zero _),fun h=>absurd h (by show ¬(0:Int)≤-1;decide)⟩
 | k+1=>by
  obtain ⟨h1,h2⟩:=best_min q t k
  have hb:=bestI_le q t k
  have e:bestI q t (k+1)=bestS q t (bestI q t k) k:=rfl
  rw[e]
  revert h1 h2 hb
  generalize bestI q t k=b
  intro h1 h2 hb
  unfold bestS
  by_cases hc:(mayB q t (q.W.getD k wt0)&&(decide (b<0)||decide (beforeN q (q.W.getD k wt0) (q.W.getD b.toNat wt0)<0)))=true
  ·rw[if_pos hc]
   simp only[bAt,Bool.or_eq_true,decide_eq_true_eq,bef_iff] at hc
   refine⟨fun h=>absurd h (by omega),fun _=>?_⟩
   rw[Int.toNat_natCast]
   refine⟨hc.1,fun i hi hm=>?_⟩
   by_cases hik:i=k
   ·subst hik;unfold Bef;omega
   ·rcases hc.2 with hn|hn
    ·have:=h1 hn i (by omega);rw[this] at hm;cases hm
    ·by_cases hb0:0≤b
     ·have:=(h2 hb0).2 i (by omega) hm
      unfold Bef at this hn⊢
      omega
     ·have:=h1 (by omega) i (by omega);rw[this] at hm;cases hm
  ·rw[if_neg hc]
   refine⟨fun h i hi=>?_,fun h=>⟨(h2 h).1,fun i hi hm=>?_⟩⟩
   ·by_cases hik:i=k
    ·subst hik
     simp only[bAt,Bool.or_eq_true,decide_eq_true_eq] at hc
     cases hm:mayB q t (q.W.getD i wt0) with
     | false=>rfl
     | true=>exact absurd ⟨hm,.inl h⟩ hc
    ·exact h1 h i (by omega)
   ·by_cases hik:i=k
    ·subst hik
     simp only[bAt,Bool.or_eq_true,decide_eq_true_eq,bef_iff] at hc
     exact fun x=>hc ⟨hm,.inr x⟩
    ·exact(h2 h).2 i (by omega) hm
def plN (L:List Ls) (n:Int) (s:ByteArray):Nat:=L.countP fun l=>decide (l.no≠n)&&decide (l.w.j.st=s)
theorem plN_lease {n:Nat} {q:Qm} (h:Inv n q) (l:Ls) (hl:l.no=q.num+1) (s:ByteArray):plN (q.L++[l]) l.no s=heldN q s:=by
 unfold plN heldN
 rw[List.countP_append]
 have h0:[l].countP (fun x=>decide (x.no≠l.no)&&decide (x.w.j.st=s))=0:=by simp
 rw[h0,Nat.add_zero]
 refine List.countP_congr fun x hx=>?_
 have:=(h.L x hx).2.2.2
 have:x.no≠l.no:=by omega
 simp[this]
structure FairOK (q:Qm) (a:Ac) (x:Ls) (q':Qm):Prop where
 fr:x.w.fr≤a.tk
 pl:(plN q'.L x.no x.w.j.st:Int)<q'.ls
 wk:x.wk=a.wk
 un:x.un>a.tk
 best:∀y∈q'.W,y.fr≤a.tk→(plN q'.L x.no y.j.st:Int)<q'.ls→¬Bef q.sv y x.w
 sv:q'.sv=fun k=>if k=x.w.j.st then q.sv k+1 else q.sv k
theorem goneQ_sv (q:Qm) (t:Int):(mvQ q t).sv=q.sv∧(mvQ q t).ls=q.ls∧(mvQ q t).ll=q.ll:=by
 unfold mvQ
 split
 ·exact⟨rfl,rfl,rfl⟩
 ·rw[move_frame];exact⟨rfl,rfl,rfl⟩
theorem fail_sv (q:Qm) (w:Wt) (t:Int):(failQ q w t).sv=q.sv∧(failQ q w t).ls=q.ls:=by
 rw[fail_frame];exact⟨rfl,rfl⟩
theorem end_sv (q:Qm) (m t:Int):(endR q m t).2.2.sv=q.sv∧(endR q m t).2.2.ls=q.ls:=by
 have h:=goneQ_sv q t
 unfold endR
 dsimp only
 split
 ·exact⟨h.1,h.2.1⟩
 ·split<;>exact⟨h.1,h.2.1⟩
theorem do_ls (q:Qm) (a:Ac):(doR q a).2.ls=q.ls:=by
 have h:=goneQ_sv q a.tk
 unfold doR
 split
 ·unfold addR;dsimp only;split<;>exact h.2.1
 ·split
  ·unfold leaR;dsimp only;split
   ·exact h.2.1
   ·split
    ·exact h.2.1
    ·split<;>exact h.2.1
  ·split
   ·exact(end_sv q _ _).2
   ·split
    ·unfold failR;dsimp only;split
     ·rw[(fail_sv _ _ _).2];exact(end_sv q _ _).2
     ·exact(end_sv q _ _).2
    ·split
     ·unfold remR;dsimp only;split<;>exact h.2.1
     ·rfl
theorem do_sv (q:Qm) (a:Ac) (hk:a.kd≠1∨(doR q a).1.2.2≠0):(doR q a).2.sv=q.sv:=by
 have h:=goneQ_sv q a.tk
 unfold doR at hk⊢
 split at hk
 ·rename_i h0
  rw[if_pos h0]
  unfold addR;dsimp only;split<;>exact h.1
 ·rename_i h0
  rw[if_neg h0]
  split at hk
  ·rename_i h1
   rw[if_pos h1]
   have hk:=hk.resolve_left (fun x=>x h1)
   unfold leaR at hk⊢
   dsimp only at hk⊢
   split at hk
   ·rename_i h2
    rw[if_pos h2];exact h.1
   ·rename_i h2
    rw[if_neg h2]
    split at hk
    ·rename_i h3
     rw[if_pos h3];exact h.1
    ·rename_i h3
     rw[if_neg h3]
     split at hk
     ·rename_i h4
      rw[if_pos h4];exact h.1
     ·exact absurd rfl hk
  ·rename_i h1
   rw[if_neg h1]
   split
   ·exact(end_sv q _ _).1
   ·split
    ·unfold failR;dsimp only;split
     ·rw[(fail_sv _ _ _).1];exact(end_sv q _ _).1
     ·exact(end_sv q _ _).1
    ·split
     ·unfold remR;dsimp only;split<;>exact h.1
     ·rfl
theorem lea_fair {n:Nat} {q:Qm} (h:Inv n q) (a:Ac) (hk:a.kd=1) (he:(doR q a).1.2.2=0):FairOK q a (doR q a).1.1 (doR q a).2:=by
 have e:doR q a=(((leaR q a.wk a.tk).1,jb0,(leaR q a.wk a.tk).2.1),(leaR q a.wk a.tk).2.2):=by
  unfold doR
  rw[if_neg (by omega),if_pos hk]
 rw[e] at he⊢
 dsimp only at he⊢
 have hv:=goneQ_sv q a.tk
 have h1:=mv_inv h a.tk
 unfold leaR at he⊢
 dsimp only at he⊢
 by_cases c1:badT q a.tk=true
 ·rw[if_pos c1] at he;cases he
 rw[if_neg c1] at he⊢
 by_cases c2:nameB a.wk=false
 ·rw[if_pos c2] at he;cases he
 rw[if_neg c2] at he⊢
 by_cases c3:bestI (mvQ q a.tk) a.tk (mvQ q a.tk).W.length<0
 ·rw[if_pos c3] at he;cases he
 rw[if_neg c3]
 have ht:=mv_tick (Bool.eq_false_iff.2 c1)
 have hb:=(best_min (mvQ q a.tk) a.tk (mvQ q a.tk).W.length).2 (by omega)
 have hlt:=best_lt _ _ c3
 revert hv h1 ht hb hlt
 generalize bestI (mvQ q a.tk) a.tk (mvQ q a.tk).W.length=b
 generalize mvQ q a.tk=q1
 intro hv h1 ht hb hlt
 obtain ⟨hm,hmin⟩:=hb
 generalize b.toNat=i at hm hmin hlt⊢
 have hp:∀s,plN (leasQ q1 a.wk a.tk i).L (leasE q1 a.wk a.tk i).no s=heldN q1 s:=fun s=>plN_lease h1 (leasE q1 a.wk a.tk i) rfl s
 unfold mayB at hm
 simp only[bAt,decide_eq_true_eq] at hm
 have hb1:=h1.base.tick
 have hb2:=h1.base.ll
 refine⟨hm.1,by rw[hp];exact hm.2,rfl,?_,fun y hy hf hpl=>?_,?_⟩
 ·show min (a.tk+q1.ll) 1099511627777>a.tk
  omega
 ·rw[hp] at hpl
  have hy:y∈q1.W:=List.mem_of_mem_eraseIdx hy
  obtain ⟨i2,hi2,rfl⟩:=List.getElem_of_mem hy
  have e2:q1.W.getD i2 wt0=q1.W[i2]:=by rw[List.getD,gEe hi2];rfl
  have:=hmin i2 hi2 (by rw[e2];unfold mayB;simp only[bAt,decide_eq_true_eq];exact⟨hf,hpl⟩)
  rw[e2,hv.1] at this
  exact this
 ·show (fun k=>if k=(q1.W.getD i wt0).j.st then q1.sv k+1 else q1.sv k)=_
  rw[hv.1];rfl
end Go.Proofs
/- Leases are fair. -/
namespace Go.Proofs
open Go Go.Ab Go.RowKit
set_option maxHeartbeats 4000000
set_option maxRecDepth 100000
variable {G:IH}
structure P3 where
 ll:List Ac
 a:Int
 b:Int
 c:Int
 d:Int
noncomputable def S3 (p:P3) (q:Qm) (w l d:Nat) (sv:ByteArray→Int) (hs:Value→Bool) (k:Nat) (R:List (Nat×AV)) (B:List (Nat×List AV)):AS:=⟨regs Tryz.f3.ntmps ([(2,.box 2 0),(5,.box 28900 0),(7,.mapv 38),(39,.d (acsD p.ll)),(40,vi p.ll.length),(41,vi k)]++R),(2,[vi p.a,vi p.b,vi p.c,vi p.d]) :: (qL q 28900 28904 w l d++((38,[.mp none (svF sv) hs]) :: B))⟩
def Has0 (sv:ByteArray→Int) (hs:Value→Bool):Prop:=∀k,hs (.string k)=false→sv k=0
noncomputable abbrev R3 (p:P3) (K:List It) (Q:Exit→AS→Prop) (x0:Nat×Qm×(Value→Bool)):Exit→AS→Prop:=RoundQ Tryz.prog G K Q (fun x:Nat×Qm×(Value→Bool)=>S3 p x.2.1 901 902 903 x.2.1.sv x.2.2 x.1 [] []) (fun x=>x.1≤p.ll.length∧Inv x.1 x.2.1∧x.2.1.ls=p.d∧Has0 x.2.1.sv x.2.2) (fun x=>p.ll.length-x.1) x0
noncomputable def m3 (q:Qm) (l:Ls) (j:Jb) (e:Int):FuncId→List AV→List (Nat×List AV)→Option (AV×List (Nat×List AV)):=fun f _ _=>match f with
 | 11=>some (.d (.tup [lsD l,jbD j,di e]),qG q)
 | 12=>some (.d (lssD q.L),qP q)
 | 13=>some (.d (wtsD q.W),qP q)
 | _=>none
noncomputable def orc3 (q:Qm) (l:Ls) (j:Jb) (e:Int):Orc:={ d:=noO,m:=m3 q l j e }
theorem plN_next {L:List Ls} {n:Int} {i:Nat} (h:i<L.length) (s:ByteArray):(plN (L.take (i+1)) n s:Int)=if (L.getD i ls0).no≠n∧(L.getD i ls0).w.j.st=s then (plN (L.take i) n s:Int)+1 else plN (L.take i) n s:=by
 unfold plN
 rw[take_next h,List.countP_append,List.countP_singleton]
 by_cases h:(L.getD i ls0).no≠n∧(L.getD i ls0).w.j.st=s
 ·rw[if_pos h,if_pos (by simpa using h)];rfl
 ·rw[if_neg h,if_neg (by simpa using h)];rfl
noncomputable def S3b (p:P3) (q:Qm) (sv:ByteArray→Int) (hs:Value→Bool) (k:Nat) (a:Ac) (l:Ls) (i:Nat) (h2:Value→Bool):AS:=S3 p q 55901 55902 55903 sv hs k [(9,.box 9 0),(10,.box 10 0),(13,.mapv 60),(62,.d (lssD q.L)),(63,vi q.L.length),(64,vi i)] [(9,(acL a).map .d),(10,(lsL l).map .d),(60,[.mp none (svF fun s=>(plN (q.L.take i) l.no s:Int)) h2])]
theorem pl_hit {L:List Ls} {n:Int} {i:Nat} (h:i<L.length) (hn:(L.getD i ls0).no≠n) {F:ByteArray→Int} (hF:(fun s=>(plN (L.take i) n s:Int))=F):svF (fun s=>(plN (L.take (i+1)) n s:Int))=putF (.string (L.getD i ls0).w.j.st) (di (F (L.getD i ls0).w.j.st+1)) (svF F):=by
 rw[sv_put]
 congr 1
 funext s
 rw[plN_next h,←hF]
 by_cases hs:s=(L.getD i ls0).w.j.st
 ·rw[if_pos ⟨hn,hs.symm⟩,if_pos hs]
 ·rw[if_neg (fun x=>hs x.2.symm),if_neg hs]
theorem pl_miss {L:List Ls} {n:Int} {i:Nat} (h:i<L.length) (hn:(L.getD i ls0).no=n) {F:ByteArray→Int} (hF:(fun s=>(plN (L.take i) n s:Int))=F):svF (fun s=>(plN (L.take (i+1)) n s:Int))=svF F:=by
 congr 1
 funext s
 rw[plN_next h,←hF,if_neg (fun x=>x.1 hn)]
theorem Has0.imp {F:ByteArray→Int} {hs:Value→Bool} (h:Has0 F hs) (k:ByteArray) (e:hs (.string k)=false):(di 0).imp (svF F (.string k)):=by
 show (di 0).imp (di (F k))
 rw[h k e]
 exact fun _ _ h=>h
theorem Has0.put {F F':ByteArray→Int} {hs:Value→Bool} (h:Has0 F hs) (s:ByteArray) (hF:∀k,k≠s→F' k=F k):Has0 F' (putH (.string s) hs):=by
 intro k hk
 unfold putH at hk
 simp[keyEq] at hk
 rw[hF k hk.1]
 exact h k hk.2
noncomputable def S3c (p:P3) (q:Qm) (sv P:ByteArray→Int) (hs:Value→Bool) (k:Nat) (a:Ac) (l:Ls) (h2:Value→Bool) (R:List (Nat×AV)):AS:=S3 p q 55901 55902 55903 sv hs k ([(9,.box 9 0),(10,.box 10 0),(13,.mapv 60)]++R) [(9,(acL a).map .d),(10,(lsL l).map .d),(60,[.mp none (svF P) h2])]
theorem f3_T2 {K:List It} {Q:Exit→AS→Prop} (p:P3) (q q0:Qm) (hs h0:Value→Bool) (sv P:ByteArray→Int) (a:Ac) (l:Ls) (h2:Value→Bool) (k:Nat) (hk:k<p.ll.length) (hl:p.ll.length≤40) (hi:Inv (k+1) q) (hd:q.ls=p.d) (hs0:Has0 sv hs) (hP:Has0 P h2)
  (hsv:∀s,0≤sv s∧sv s≤1000) (c1:l.w.fr≤a.tk) (c2:P l.w.j.st<p.d) (c3:l.wk=a.wk) (c4:l.un>a.tk) (c5:∀y∈q.W,y.fr≤a.tk→P y.j.st<p.d→¬Bef sv y l.w) (c6:q.sv=fun k=>if k=l.w.j.st then sv k+1 else sv k) :
  AWP Tryz.prog G [.code (cAt (bodyOf Tryz.f3) [1,1,1,1,1,1,0,1,0,0,1,1,0,0,1,1,1,1,1,1]),.blk 1,.code (cAt (bodyOf Tryz.f3) [1,1,1,1,1,1,0,1,0,0,1,1,1])] (S3c p q sv P hs k a l h2 []) (R3 (G:=G) p K Q (k,q0,h0)):=by
 have hlen:=hi.len
 have hc:(decide (l.w.fr>a.tk)||decide (P l.w.j.st≥p.d)||!l.wk.toList==a.wk.toList||decide (l.un≤a.tk))=false:=by
  rw[decide_eq_false (by omega),decide_eq_false (by omega),decide_eq_false (by omega),c3];simp
 refine walkK (orc:=orc3 q l jb0 0) (keep:=[]) (cuts:=[25,26]) (n:=1000) follows ?_
 refine of_tr (fun ZT ZW ZQ _=>(fun Za=>((((!decide (l.w.fr>a.tk))=true)→(((h2 (Value.string l.w.j.st))=false)→((di 0).imp (svF P (Value.string l.w.j.st)))))∧((Za=true)→ZW [cd Tryz.f3 [1,1,1,1,1,1,0,1,0,0,1,1,0,0,1,1,1,1,1,1,1,0,1,0],cd Tryz.f3 [1,1,1,1,1,1,0,1,0,0,1,1,0,0,1,1,1,1,1,1,1,1],(.blk 1),cd Tryz.f3 [1,1,1,1,1,1,0,1,0,0,1,1,1]] (stS ZT [0]) ZQ)∧((Za=false)→ZW [cd Tryz.f3 [1,1,1,1,1,1,0,1,0,0,1,1,0,0,1,1,1,1,1,1,1,1,0],cd Tryz.f3 [1,1,1,1,1,1,0,1,0,0,1,1,0,0,1,1,1,1,1,1,1,1,1],(.blk 1),cd Tryz.f3 [1,1,1,1,1,1,0,1,0,0,1,1,1]] (stS ZT [1]) ZQ))) (decide (l.w.fr>a.tk)||decide (P l.w.j.st≥p.d)||!l.wk.toList==a.wk.toList||decide (l.un≤a.tk))) (by kernel_rfl) ?_
 refine⟨fun _ e=>hP.imp _ e,fun h=>(by rw[hc] at h;cases h),fun _=>?_⟩
 refine walkK (orc:=orc3 q l jb0 0) (keep:=[]) (cuts:=[]) (n:=1000) follows ?_
 refine of_tr (fun ZT ZW ZQ _=>(FnM Tryz.prog G 13 [(.box 1000000 0)] [(1000000,[(vi q.ll),(vi q.lt),(vi q.lp),(vi q.ls),(vi q.tick),(vi q.arr),(vi q.num),(.vec 1000001 8 0 q.W.length),(.vec 1000002 11 0 q.L.length),(.vec 1000003 5 0 q.D.length),(.mapv 1000004)]),(1000001,[(.arr ⟨true,39,false,none⟩ 8 (wtF q.W))]),(1000002,[(.arr ⟨true,41,false,none⟩ 11 (lsF q.L))]),(1000003,[(.arr ⟨true,35,false,none⟩ 5 (jbF q.D))]),(1000004,[(.mp none (svF q.sv) q.has)])] (.d (.slc 8 q.W.length (wtF q.W))) [(1000000,[(vi q.ll),(vi q.lt),(vi q.lp),(vi q.ls),(vi q.tick),(vi q.arr),(vi q.num),(.vec 1000001 8 0 q.W.length),(.vec 1000002 11 0 q.L.length),(.vec 1000003 5 0 q.D.length),(.mapv 1000004)]),(1000001,[(.arr ⟨true,39,false,none⟩ 8 (wtF q.W))]),(1000002,[(.arr ⟨true,41,false,none⟩ 11 (lsF q.L))]),(1000003,[(.arr ⟨true,35,false,none⟩ 5 (jbF q.D))]),(1000004,[(.mp none (svF q.sv) q.has)])]∧ZW [cd Tryz.f3 [1,1,1,1,1,1,0,1,0,0,1,1,0,0,1,1,1,1,1,1,1,1,0,1,0],(.blk 4),cd Tryz.f3 [1,1,1,1,1,1,0,1,0,0,1,1,0,0,1,1,1,1,1,1,1,1,1],(.blk 1),cd Tryz.f3 [1,1,1,1,1,1,0,1,0,0,1,1,1]] (stS ZT []) ZQ)) (by kernel_rfl) ?_
 refine⟨f13 q (by omega),?_⟩
 refine AWP.loop (c:=cAt (bodyOf Tryz.f3) [1,1,1,1,1,1,0,1,0,0,1,1,0,0,1,1,1,1,1,1,1,1,0,1,0,0]) (by kernel_rfl) (fun i:Nat=>S3c p q sv P hs k a l h2 [(16,vs l.w.j.st),(116,.d (wtsD q.W)),(117,vi q.W.length),(118,vi i)]) (fun i=>i≤q.W.length) (fun i=>q.W.length-i) 0 ?_ (Nat.zero_le _) ?_
 ·exact AS.leA (by kernel_rfl)
 ·intro i hik
  by_cases hi2:i<q.W.length
  ·have c5:=c5 _ (getD_mem (x0:=wt0) hi2)
   refine walkK (orc:=orc3 q l jb0 0) (keep:=[]) (cuts:=[34,35]) (n:=1000) follows ?_
   refine of_rd (fun ZT ZW ZQ _ ZA _=>(fun Za Zb Zc Zd=>((((decide ((↑i:Int)<↑q.W.length))=true)→(((0≤(↑i:Int))∧((↑i:Int)<↑q.W.length))∧(((!decide (Za.fr>a.tk))=true)→(((h2 (Value.string Za.j.st))=false)→(Zb.imp (svF P (Value.string Za.j.st)))))∧(((decide (Za.fr>a.tk)||decide (P Za.j.st≥p.d))=true)→((I64 (↑i+1))∧(ZA (stS ZT [0,0]))))∧(((decide (Za.fr>a.tk)||decide (P Za.j.st≥p.d))=false)→(((((!decide (Za.j.pr>l.w.j.pr)&&Za.j.pr==l.w.j.pr)=true)→(((hs (Value.string Za.j.st))=false)→(Zb.imp (svF sv (Value.string Za.j.st)))))∧(((!decide (Za.j.pr>l.w.j.pr)&&Za.j.pr==l.w.j.pr)=true)→(((hs (Value.string l.w.j.st))=false)→(Zb.imp (svF sv (Value.string l.w.j.st)))))∧(((!decide (Za.j.pr>l.w.j.pr)&&Za.j.pr==l.w.j.pr&&!decide (sv Za.j.st<sv l.w.j.st))=true)→(((hs (Value.string Za.j.st))=false)→(Zb.imp (svF sv (Value.string Za.j.st)))))∧(((!decide (Za.j.pr>l.w.j.pr)&&Za.j.pr==l.w.j.pr&&!decide (sv Za.j.st<sv l.w.j.st))=true)→(((hs (Value.string l.w.j.st))=false)→(Zb.imp (svF sv (Value.string l.w.j.st))))))∧(((decide (Za.j.pr>l.w.j.pr)||Za.j.pr==l.w.j.pr&&(decide (sv Za.j.st<sv l.w.j.st)||sv Za.j.st==sv l.w.j.st&&decide (Za.ar<l.w.ar)))=true)→(ZQ Exit.ret (AS.mk ((List.map (fun x=>match x with|AV.gate slot want b x=>AV.any|x=>x) [AV.any,AV.any,AV.box 2 0,AV.any,AV.any,AV.box 28900 0,AV.any,AV.mapv 38,AV.any,AV.box 9 0,AV.box 10 0,AV.any,AV.any,AV.mapv 60,AV.any,AV.any,AV.d Zc,AV.any,AV.box 18 0,AV.d (ds Za.j.st),AV.any,AV.any,AV.any,AV.any,AV.any,AV.any,AV.any,AV.any,AV.any,AV.any,AV.any,AV.any,AV.any,AV.any,AV.any,AV.any,AV.any,AV.any,AV.any,AV.d (DV.slc 9 p.ll.length (acF p.ll)),AV.d (DV.con (Value.int IntKind.i64 ↑p.ll.length)),AV.d (DV.con (Value.int IntKind.i64 ↑k)),AV.any,AV.any,AV.any,AV.any,AV.any,AV.any,AV.any,AV.any,AV.any,AV.any,AV.any,AV.any,AV.any,AV.any,AV.any,AV.any,AV.any,AV.any,AV.any,AV.any,AV.any,AV.any,AV.any,AV.any,AV.any,AV.any,AV.any,AV.any,AV.any,AV.any,AV.any,AV.any,AV.any,AV.any,AV.any,AV.any,AV.any,AV.any,AV.any,AV.any,AV.any,AV.any,AV.any,AV.any,AV.any,AV.any,AV.any,AV.any,AV.any,AV.any,AV.any,AV.any,AV.any,AV.any,AV.any,AV.any,AV.any,AV.any,AV.any,AV.any,AV.any,AV.any,AV.any,AV.any,AV.any,AV.any,AV.any,AV.any,AV.any,AV.any,AV.any,AV.any,AV.any,AV.any,AV.d (DV.slc 8 q.W.length (wtF q.W)),AV.d (DV.con (Value.int IntKind.i64 ↑q.W.length)),AV.d (DV.con (Value.int IntKind.i64 ↑i)),AV.d (DV.con (Value.bool true)),AV.d (DV.ptr [ds Za.j.st,ds Za.j.ex,di Za.j.no,di Za.j.ve,di Za.j.pr,di Za.tr,di Za.ar,di Za.fr]),AV.d (DV.agg [ds Za.j.st,ds Za.j.ex,di Za.j.no,di Za.j.ve,di Za.j.pr,di Za.tr,di Za.ar,di Za.fr]),AV.box 18 0,AV.box 18 0,AV.box 18 0,AV.d (ds Za.j.st),AV.box 18 7,vi Za.fr,AV.box 9 1,vi a.tk,AV.d (DV.con (Value.bool (decide (Za.fr>a.tk)))),AV.d (DV.con (Value.bool (decide (Za.fr>a.tk)))),AV.any,AV.any,AV.any,AV.any,AV.any,AV.any,AV.d (DV.con (Value.bool false)),AV.box 18 0,AV.box 18 4,vi Za.j.pr,AV.box 10 3,AV.box 10 3,AV.box 10 7,AV.d Zd,AV.d (DV.con (Value.bool (decide (Za.j.pr>l.w.j.pr)))),AV.d (DV.con (Value.bool (decide (Za.j.pr>l.w.j.pr)))),AV.gate 147 false (!decide (Za.j.pr>l.w.j.pr)) (AV.box 18 0),AV.gate 147 false (!decide (Za.j.pr>l.w.j.pr)) (AV.box 18 4),AV.gate 147 false (!decide (Za.j.pr>l.w.j.pr)) (vi Za.j.pr),AV.gate 147 false (!decide (Za.j.pr>l.w.j.pr)) (AV.box 10 3),AV.gate 147 false (!decide (Za.j.pr>l.w.j.pr)) (AV.box 10 3),AV.gate 147 false (!decide (Za.j.pr>l.w.j.pr)) (AV.box 10 7),AV.gate 147 false (!decide (Za.j.pr>l.w.j.pr)) (AV.d Zd),AV.gate 147 false (!decide (Za.j.pr>l.w.j.pr)) (AV.d (DV.con (Value.bool (Za.j.pr==l.w.j.pr)))),AV.gate 147 false (!decide (Za.j.pr>l.w.j.pr)) (AV.d (DV.con (Value.bool (Za.j.pr==l.w.j.pr)))),AV.gate 156 true (!decide (Za.j.pr>l.w.j.pr)&&Za.j.pr==l.w.j.pr) (AV.mapv 38),AV.gate 156 true (!decide (Za.j.pr>l.w.j.pr)&&Za.j.pr==l.w.j.pr) (AV.d (ds Za.j.st)),AV.gate 156 true (!decide (Za.j.pr>l.w.j.pr)&&Za.j.pr==l.w.j.pr) (AV.d (di (sv Za.j.st))),AV.gate 156 true (!decide (Za.j.pr>l.w.j.pr)&&Za.j.pr==l.w.j.pr) (AV.mapv 38),AV.gate 156 true (!decide (Za.j.pr>l.w.j.pr)&&Za.j.pr==l.w.j.pr) (AV.d Zc),AV.gate 156 true (!decide (Za.j.pr>l.w.j.pr)&&Za.j.pr==l.w.j.pr) (AV.d (di (sv l.w.j.st))),AV.gate 156 true (!decide (Za.j.pr>l.w.j.pr)&&Za.j.pr==l.w.j.pr) (AV.d (DV.con (Value.bool (decide (sv Za.j.st<sv l.w.j.st))))),AV.gate 156 true (!decide (Za.j.pr>l.w.j.pr)&&Za.j.pr==l.w.j.pr) (AV.d (DV.con (Value.bool (decide (sv Za.j.st<sv l.w.j.st))))),AV.gate 164 false (!decide (Za.j.pr>l.w.j.pr)&&Za.j.pr==l.w.j.pr&&!decide (sv Za.j.st<sv l.w.j.st)) (AV.mapv 38),AV.gate 164 false (!decide (Za.j.pr>l.w.j.pr)&&Za.j.pr==l.w.j.pr&&!decide (sv Za.j.st<sv l.w.j.st)) (AV.d (ds Za.j.st)),AV.gate 164 false (!decide (Za.j.pr>l.w.j.pr)&&Za.j.pr==l.w.j.pr&&!decide (sv Za.j.st<sv l.w.j.st)) (AV.d (di (sv Za.j.st))),AV.gate 164 false (!decide (Za.j.pr>l.w.j.pr)&&Za.j.pr==l.w.j.pr&&!decide (sv Za.j.st<sv l.w.j.st)) (AV.mapv 38),AV.gate 164 false (!decide (Za.j.pr>l.w.j.pr)&&Za.j.pr==l.w.j.pr&&!decide (sv Za.j.st<sv l.w.j.st)) (AV.d Zc),AV.gate 164 false (!decide (Za.j.pr>l.w.j.pr)&&Za.j.pr==l.w.j.pr&&!decide (sv Za.j.st<sv l.w.j.st)) (AV.d (di (sv l.w.j.st))),AV.gate 164 false (!decide (Za.j.pr>l.w.j.pr)&&Za.j.pr==l.w.j.pr&&!decide (sv Za.j.st<sv l.w.j.st)) (AV.d (DV.con (Value.bool (sv Za.j.st==sv l.w.j.st)))),AV.gate 164 false (!decide (Za.j.pr>l.w.j.pr)&&Za.j.pr==l.w.j.pr&&!decide (sv Za.j.st<sv l.w.j.st)) (AV.d (DV.con (Value.bool (sv Za.j.st==sv l.w.j.st)))),AV.gate 172 true (!decide (Za.j.pr>l.w.j.pr)&&Za.j.pr==l.w.j.pr&&!decide (sv Za.j.st<sv l.w.j.st)&&sv Za.j.st==sv l.w.j.st) (AV.box 18 6),AV.gate 172 true (!decide (Za.j.pr>l.w.j.pr)&&Za.j.pr==l.w.j.pr&&!decide (sv Za.j.st<sv l.w.j.st)&&sv Za.j.st==sv l.w.j.st) (vi Za.ar),AV.gate 172 true (!decide (Za.j.pr>l.w.j.pr)&&Za.j.pr==l.w.j.pr&&!decide (sv Za.j.st<sv l.w.j.st)&&sv Za.j.st==sv l.w.j.st) (AV.box 10 3),AV.gate 172 true (!decide (Za.j.pr>l.w.j.pr)&&Za.j.pr==l.w.j.pr&&!decide (sv Za.j.st<sv l.w.j.st)&&sv Za.j.st==sv l.w.j.st) (AV.box 10 9),AV.gate 172 true (!decide (Za.j.pr>l.w.j.pr)&&Za.j.pr==l.w.j.pr&&!decide (sv Za.j.st<sv l.w.j.st)&&sv Za.j.st==sv l.w.j.st) (vi l.w.ar),AV.gate 172 true (!decide (Za.j.pr>l.w.j.pr)&&Za.j.pr==l.w.j.pr&&!decide (sv Za.j.st<sv l.w.j.st)&&sv Za.j.st==sv l.w.j.st) (AV.d (DV.con (Value.bool (decide (Za.ar<l.w.ar))))),AV.gate 164 false (!decide (Za.j.pr>l.w.j.pr)&&Za.j.pr==l.w.j.pr&&!decide (sv Za.j.st<sv l.w.j.st)) (AV.d (DV.con (Value.bool (sv Za.j.st==sv l.w.j.st&&decide (Za.ar<l.w.ar))))),AV.gate 156 true (!decide (Za.j.pr>l.w.j.pr)&&Za.j.pr==l.w.j.pr) (AV.d (DV.con (Value.bool (decide (sv Za.j.st<sv l.w.j.st)||sv Za.j.st==sv l.w.j.st&&decide (Za.ar<l.w.ar))))),AV.gate 147 false (!decide (Za.j.pr>l.w.j.pr)) (AV.d (DV.con (Value.bool (Za.j.pr==l.w.j.pr&&(decide (sv Za.j.st<sv l.w.j.st)||sv Za.j.st==sv l.w.j.st&&decide (Za.ar<l.w.ar)))))),AV.d (DV.con (Value.bool true)),AV.any,AV.any,AV.any,AV.any,AV.any,AV.any]).set 4 (AV.d (DV.con (Value.bool false)))) ([]++[(18,[AV.d (ds Za.j.st),AV.d (ds Za.j.ex),vi Za.j.no,vi Za.j.ve,vi Za.j.pr,vi Za.tr,vi Za.ar,vi Za.fr]),(2,[vi p.a,vi p.b,vi p.c,vi p.d]),(28900,[vi q.ll,vi q.lt,vi q.lp,vi q.ls,vi q.tick,vi q.arr,vi q.num,AV.vec 55901 8 0 q.W.length,AV.vec 55902 11 0 q.L.length,AV.vec 55903 5 0 q.D.length,AV.mapv 28904]),(55901,[AV.arr (RK.mk true 39 false none) 8 (wtF q.W)]),(55902,[AV.arr (RK.mk true 41 false none) 11 (lsF q.L)]),(55903,[AV.arr (RK.mk true 35 false none) 5 (jbF q.D)]),(28904,[AV.mp none (svF q.sv) q.has]),(38,[AV.mp none (svF sv) hs]),(9,[vi a.kd,vi a.tk,vi a.nu,AV.d (ds a.j.st),AV.d (ds a.j.ex),vi a.j.no,vi a.j.ve,vi a.j.pr,AV.d (ds a.wk)]),(10,[vi l.no,vi l.un,AV.d (ds l.wk),AV.d Zc,AV.d (ds l.w.j.ex),vi l.w.j.no,vi l.w.j.ve,AV.d Zd,vi l.w.tr,vi l.w.ar,vi l.w.fr]),(60,[AV.mp none (svF P) h2])]))))∧(((decide (Za.j.pr>l.w.j.pr)||Za.j.pr==l.w.j.pr&&(decide (sv Za.j.st<sv l.w.j.st)||sv Za.j.st==sv l.w.j.st&&decide (Za.ar<l.w.ar)))=false)→((I64 (↑i+1))∧(ZA (stS ZT [0,1,1]))))))))∧(((decide ((↑i:Int)<↑q.W.length))=false)→ZW [cd Tryz.f3 [1,1,1,1,1,1,0,1,0,0,1,1,0,0,1,1,1,1,1,1,1,1,1],(.blk 1),cd Tryz.f3 [1,1,1,1,1,1,0,1,0,0,1,1,1]] (stS ZT [1]) ZQ))) (q.W.getD (↑i:Int).toNat wt0) (di 0) (ds l.w.j.st) (di l.w.j.pr)) (by kernel_rfl) ?_
   dsimp only
   rw[show ((i:Int)).toNat=i from rfl]
   refine⟨fun _=>⟨⟨by omega,by omega⟩,fun _ e=>hP.imp _ e,fun h=>⟨⟨by omega,by omega⟩,?_⟩,fun h=>⟨⟨fun _ e=>hs0.imp _ e,fun _ e=>hs0.imp _ e,fun _ e=>hs0.imp _ e,fun _ e=>hs0.imp _ e⟩,fun hb=>?_,fun _=>⟨⟨by omega,by omega⟩,?_⟩⟩⟩,fun hd=>absurd (of_decide_eq_false hd) (by omega)⟩
   ·refine Again.mk (i+1) ?_ hi2 (by show q.W.length-(i+1)<q.W.length-i;omega)
    exact AS.leA (by kernel_rfl)
   ·rw[Bool.or_eq_false_iff,decide_eq_false_iff_not,decide_eq_false_iff_not] at h
    simp only[Bool.or_eq_true,bAt,decide_eq_true_eq,beq_iff_eq] at hb
    exact absurd hb (c5 (by omega) (by omega))
   ·refine Again.mk (i+1) ?_ hi2 (by show q.W.length-(i+1)<q.W.length-i;omega)
    exact AS.leA (by kernel_rfl)
  ·obtain rfl:i=q.W.length:=by have:i≤q.W.length:=hik;omega
   refine walkK (orc:=orc3 q l jb0 0) (keep:=[]) (cuts:=[28,34]) (n:=1000) follows ?_
   refine of_rd (fun ZT ZW ZQ _ _ ZR=>((((decide ((↑q.W.length:Int)<↑q.W.length))=true)→ZW [cd Tryz.f3 [1,1,1,1,1,1,0,1,0,0,1,1,0,0,1,1,1,1,1,1,1,1,0,1,0,0,1,1,0,0],(.blk 5),cd Tryz.f3 [1,1,1,1,1,1,0,1,0,0,1,1,0,0,1,1,1,1,1,1,1,1,0,1,0,0,1,1,1]] (stS ZT [0]) ZR)∧(((decide ((↑q.W.length:Int)<↑q.W.length))=false)→ZW [cd Tryz.f3 [1,1,1,1,1,1,0,1,0,0,1,1,0,0,1,1,1,1,1,1,1,1,1],(.blk 1),cd Tryz.f3 [1,1,1,1,1,1,0,1,0,0,1,1,1]] (stS ZT [1]) ZQ))) (by kernel_rfl) ?_
   refine⟨fun hd=>absurd (of_decide_eq_true hd) (by omega),fun _=>?_⟩
   refine walkK (orc:=orc3 q l jb0 0) (keep:=[]) (cuts:=[]) (n:=1000) follows ?_
   refine of_tr (fun _ _ ZQ _=>(((((hs (Value.string l.w.j.st))=false)→((di 0).imp (svF sv (Value.string l.w.j.st))))∧(I64 (sv l.w.j.st+1)))∧(I64 (↑k+1))∧(ZQ Exit.normal (AS.mk [AV.any,AV.any,AV.box 2 0,AV.any,AV.any,AV.box 28900 0,AV.any,AV.mapv 38,AV.any,AV.box 9 0,AV.box 10 0,AV.any,AV.any,AV.mapv 60,AV.any,AV.any,AV.d (ds l.w.j.st),AV.any,AV.any,AV.any,AV.any,AV.any,AV.any,AV.any,AV.any,AV.any,AV.any,AV.any,AV.any,AV.any,AV.any,AV.any,AV.any,AV.any,AV.any,AV.any,AV.any,AV.any,AV.any,AV.d (DV.slc 9 p.ll.length (acF p.ll)),AV.d (DV.con (Value.int IntKind.i64 ↑p.ll.length)),AV.d (di (↑k+1)),AV.any,AV.any,AV.any,AV.any,AV.any,AV.any,AV.any,AV.any,AV.any,AV.any,AV.any,AV.any,AV.any,AV.any,AV.any,AV.any,AV.any,AV.any,AV.any,AV.any,AV.any,AV.any,AV.any,AV.any,AV.any,AV.any,AV.any,AV.any,AV.any,AV.any,AV.any,AV.any,AV.any,AV.any,AV.any,AV.any,AV.any,AV.any,AV.any,AV.any,AV.any,AV.any,AV.any,AV.any,AV.any,AV.any,AV.any,AV.any,AV.any,AV.any,AV.any,AV.any,AV.any,AV.any,AV.any,AV.any,AV.any,AV.any,AV.any,AV.any,AV.any,AV.any,AV.any,AV.any,AV.any,AV.any,AV.any,AV.any,AV.any,AV.any,AV.any,AV.any,AV.any,AV.any,AV.d (DV.slc 8 q.W.length (wtF q.W)),AV.d (DV.con (Value.int IntKind.i64 ↑q.W.length)),AV.d (DV.con (Value.int IntKind.i64 ↑q.W.length)),AV.d (DV.con (Value.bool false)),AV.any,AV.any,AV.any,AV.any,AV.any,AV.any,AV.any,AV.any,AV.any,AV.any,AV.any,AV.any,AV.any,AV.any,AV.any,AV.any,AV.any,AV.any,AV.any,AV.any,AV.any,AV.any,AV.any,AV.any,AV.any,AV.any,AV.any,AV.any,AV.any,AV.any,AV.any,AV.any,AV.any,AV.any,AV.any,AV.any,AV.any,AV.any,AV.any,AV.any,AV.any,AV.any,AV.any,AV.any,AV.any,AV.any,AV.any,AV.any,AV.any,AV.any,AV.any,AV.any,AV.any,AV.any,AV.any,AV.any,AV.any,AV.any,AV.any,AV.any,AV.any,AV.any,AV.any,AV.any,AV.mapv 38,AV.d (ds l.w.j.st),AV.d (di (sv l.w.j.st)),AV.d (di (sv l.w.j.st+1)),AV.d (di (↑k+1))] [(2,[vi p.a,vi p.b,vi p.c,vi p.d]),(28900,[vi q.ll,vi q.lt,vi q.lp,vi q.ls,vi q.tick,vi q.arr,vi q.num,AV.vec 55901 8 0 q.W.length,AV.vec 55902 11 0 q.L.length,AV.vec 55903 5 0 q.D.length,AV.mapv 28904]),(55901,[AV.arr (RK.mk true 39 false none) 8 (wtF q.W)]),(55902,[AV.arr (RK.mk true 41 false none) 11 (lsF q.L)]),(55903,[AV.arr (RK.mk true 35 false none) 5 (jbF q.D)]),(28904,[AV.mp none (svF q.sv) q.has]),(38,[AV.mp none (putF (Value.string l.w.j.st) (di (sv l.w.j.st+1)) (svF sv)) (putH (Value.string l.w.j.st) hs)]),(9,[vi a.kd,vi a.tk,vi a.nu,AV.d (ds a.j.st),AV.d (ds a.j.ex),vi a.j.no,vi a.j.ve,vi a.j.pr,AV.d (ds a.wk)]),(10,[vi l.no,vi l.un,AV.d (ds l.wk),AV.d (ds l.w.j.st),AV.d (ds l.w.j.ex),vi l.w.j.no,vi l.w.j.ve,vi l.w.j.pr,vi l.w.tr,vi l.w.ar,vi l.w.fr]),(60,[AV.mp none (svF P) h2])])))) (by kernel_rfl) ?_
   have hv:=hsv l.w.j.st
   refine⟨⟨fun e=>hs0.imp _ e,⟨by omega,by omega⟩⟩,⟨by omega,by omega⟩,?_⟩
   have E:svF q.sv=putF (.string l.w.j.st) (di (sv l.w.j.st+1)) (svF sv):=by rw[c6];exact(sv_put sv l.w.j.st).symm
   refine Again.mkR [(55901,901),(55902,902),(55903,903)] rfl (k+1,q,putH (.string l.w.j.st) hs) ?_ ⟨hk,hi,hd,?_⟩ (by show p.ll.length-(k+1)<p.ll.length-k;omega)
   ·dsimp only[S3]
    rw[E]
    refine AS.leZ [] [5] (b:=((T0∧T0∧T0∧T0∧T0∧T0∧True)∧T0∧T0∧T0∧T0∧T0∧((some [(.mp none (putF (Value.string l.w.j.st) (di (sv l.w.j.st+1)) (svF sv)) q.has)]):(Option (List AV)))=(some [(.mp none (svF q.sv) q.has)])∧T0∧True)) (by kernel_rfl) (by kernel_rfl) ?_
    exact⟨⟨rfl,rfl,rfl,rfl,rfl,rfl,trivial⟩,rfl,rfl,rfl,rfl,rfl,congrArg (fun F=>some [AV.mp none F q.has]) E.symm,rfl,trivial⟩
   ·refine hs0.put _ fun s hs=>?_
    rw[c6]
    exact if_neg hs
theorem f3_T1 {K:List It} {Q:Exit→AS→Prop} (p:P3) (q q0:Qm) (hs h0:Value→Bool) (sv:ByteArray→Int) (a:Ac) (l:Ls) (k:Nat) (hk:k<p.ll.length) (hll:p.ll.length≤40) (hi:Inv (k+1) q) (hd:q.ls=p.d) (hs0:Has0 sv hs) (hsv:∀s,0≤sv s∧sv s≤1000)
  (c1:l.w.fr≤a.tk) (c2:(plN q.L l.no l.w.j.st:Int)<p.d) (c3:l.wk=a.wk) (c4:l.un>a.tk) (c5:∀y∈q.W,y.fr≤a.tk→(plN q.L l.no y.j.st:Int)<p.d→¬Bef sv y l.w) (c6:q.sv=fun k=>if k=l.w.j.st then sv k+1 else sv k) :
  AWP Tryz.prog G [.code (cAt (bodyOf Tryz.f3) [1,1,1,1,1,1,0,1,0,0,1,1,0,0,1,1,1,1]),.blk 1,.code (cAt (bodyOf Tryz.f3) [1,1,1,1,1,1,0,1,0,0,1,1,1])] (S3 p q 55901 55902 55903 sv hs k [(9,.box 9 0),(10,.box 10 0)] [(9,(acL a).map .d),(10,(lsL l).map .d)]) (R3 (G:=G) p K Q (k,q0,h0)):=by
 have hL:q.L.length≤1000:=by have:=hi.len;omega
 refine walkK (orc:=orc3 q l jb0 0) (keep:=[]) (cuts:=[23]) (n:=1000) follows ?_
 refine of_tr (fun ZT ZW ZQ _=>(FnM Tryz.prog G 12 [(.box 1000000 0)] [(1000000,[(vi q.ll),(vi q.lt),(vi q.lp),(vi q.ls),(vi q.tick),(vi q.arr),(vi q.num),(.vec 1000001 8 0 q.W.length),(.vec 1000002 11 0 q.L.length),(.vec 1000003 5 0 q.D.length),(.mapv 1000004)]),(1000001,[(.arr ⟨true,39,false,none⟩ 8 (wtF q.W))]),(1000002,[(.arr ⟨true,41,false,none⟩ 11 (lsF q.L))]),(1000003,[(.arr ⟨true,35,false,none⟩ 5 (jbF q.D))]),(1000004,[(.mp none (svF q.sv) q.has)])] (.d (.slc 11 q.L.length (lsF q.L))) [(1000000,[(vi q.ll),(vi q.lt),(vi q.lp),(vi q.ls),(vi q.tick),(vi q.arr),(vi q.num),(.vec 1000001 8 0 q.W.length),(.vec 1000002 11 0 q.L.length),(.vec 1000003 5 0 q.D.length),(.mapv 1000004)]),(1000001,[(.arr ⟨true,39,false,none⟩ 8 (wtF q.W))]),(1000002,[(.arr ⟨true,41,false,none⟩ 11 (lsF q.L))]),(1000003,[(.arr ⟨true,35,false,none⟩ 5 (jbF q.D))]),(1000004,[(.mp none (svF q.sv) q.has)])]∧ZW [cd Tryz.f3 [1,1,1,1,1,1,0,1,0,0,1,1,0,0,1,1,1,1,1,0,1,0],(.blk 2),cd Tryz.f3 [1,1,1,1,1,1,0,1,0,0,1,1,0,0,1,1,1,1,1,1],(.blk 1),cd Tryz.f3 [1,1,1,1,1,1,0,1,0,0,1,1,1]] (stS ZT []) ZQ)) (by kernel_rfl) ?_
 refine⟨f12 q (by omega),?_⟩
 refine AWP.loop (c:=cAt (bodyOf Tryz.f3) [1,1,1,1,1,1,0,1,0,0,1,1,0,0,1,1,1,1,1,0,1,0,0]) (by kernel_rfl) (fun x:Nat×(Value→Bool)=>S3b p q sv hs k a l x.1 x.2) (fun x=>x.1≤q.L.length∧Has0 (fun s=>(plN (q.L.take x.1) l.no s:Int)) x.2) (fun x=>q.L.length-x.1) (0,fun _=>false) ?_ ⟨Nat.zero_le _,fun _ _=>rfl⟩ ?_
 ·have e:svF (fun s=>(plN (q.L.take 0) l.no s:Int))=fun _=>di 0:=sv_zero
  unfold S3b
  rw[e]
  exact AS.leA (by kernel_rfl)
 ·rintro ⟨i,h2⟩ ⟨hii,hh⟩
  dsimp only at hii hh
  by_cases hi2:i<q.L.length
  ·generalize hF:(fun s=>(plN (q.L.take i) l.no s:Int))=F at hh
   have hb:∀s,0≤F s∧F s≤1000:=fun s=>by
    rw[←hF]
    have:plN (q.L.take i) l.no s≤(q.L.take i).length:=List.countP_le_length
    rw[List.length_take] at this
    show (0:Int)≤(plN (q.L.take i) l.no s:Int)∧(plN (q.L.take i) l.no s:Int)≤1000
    omega
   show AWP _ _ _ (S3b p q sv hs k a l i h2) _
   unfold S3b
   rw[hF]
   refine walkK (orc:=orc3 q l jb0 0) (keep:=[]) (cuts:=[23]) (n:=1000) follows ?_
   refine of_rd (fun ZT ZW ZQ _ ZA _=>(fun Za=>((((decide ((↑i:Int)<↑q.L.length))=true)→(((0≤(↑i:Int))∧((↑i:Int)<↑q.L.length))∧(((Za.no != l.no)=true)→(((((h2 (Value.string Za.w.j.st))=false)→((di 0).imp (svF F (Value.string Za.w.j.st))))∧(I64 (F Za.w.j.st+1)))∧(I64 (↑i+1))∧(ZA (stS ZT [0,0]))))∧(((Za.no != l.no)=false)→((I64 (↑i+1))∧(ZA (stS ZT [0,1]))))))∧(((decide ((↑i:Int)<↑q.L.length))=false)→ZW [cd Tryz.f3 [1,1,1,1,1,1,0,1,0,0,1,1,0,0,1,1,1,1,1,1],(.blk 1),cd Tryz.f3 [1,1,1,1,1,1,0,1,0,0,1,1,1]] (stS ZT [1]) ZQ))) (q.L.getD (↑i:Int).toNat ls0)) (by kernel_rfl) ?_
   dsimp only
   rw[show ((i:Int)).toNat=i from rfl]
   refine⟨fun _=>⟨⟨by omega,by omega⟩,fun hd=>⟨⟨fun e=>hh.imp _ e,⟨by have:=hb (q.L.getD i ls0).w.j.st;omega,by have:=hb (q.L.getD i ls0).w.j.st;omega⟩⟩,⟨by omega,by omega⟩,?_⟩,fun hd=>⟨⟨by omega,by omega⟩,?_⟩⟩,fun hd=>absurd (of_decide_eq_false hd) (by omega)⟩
   ·have hne:(q.L.getD i ls0).no≠l.no:=by simpa using hd
    refine Again.mk (i+1,putH (.string (q.L.getD i ls0).w.j.st) h2) ?_ ⟨hi2,?_⟩ (by show q.L.length-(i+1)<q.L.length-i;omega)
    ·rw[pl_hit hi2 hne hF]
     refine AS.leZ [] [9] (b:=((T0∧T0∧T0∧T0∧T0∧T0∧T0∧T0∧T0∧T0∧T0∧T0∧True)∧T0∧T0∧T0∧T0∧T0∧T0∧T0∧T0∧T0∧((some [(.mp none (putF (Value.string (q.L.getD (↑i:Int).toNat ls0).w.j.st) (DV.con (Value.int IntKind.i64 (F (q.L.getD (↑i:Int).toNat ls0).w.j.st+1))) (svF F)) (putH (Value.string (q.L.getD (↑i:Int).toNat ls0).w.j.st) h2))]):(Option (List AV)))=(some [(.mp none (putF (Value.string (q.L.getD i ls0).w.j.st) (DV.con (Value.int IntKind.i64 (F (q.L.getD i ls0).w.j.st+1))) (svF F)) (putH (Value.string (q.L.getD i ls0).w.j.st) h2))])∧True)) (by kernel_rfl) (by kernel_rfl) ?_
     exact⟨⟨rfl,rfl,rfl,rfl,rfl,rfl,rfl,rfl,rfl,rfl,rfl,rfl,trivial⟩,rfl,rfl,rfl,rfl,rfl,rfl,rfl,rfl,rfl,rfl,trivial⟩
    ·refine hh.put _ fun k hk=>?_
     rw[plN_next hi2,if_neg (fun x=>hk x.2.symm),←hF]
   ·have hne:(q.L.getD i ls0).no=l.no:=by simpa using hd
    refine Again.mk (i+1,h2) ?_ ⟨hi2,?_⟩ (by show q.L.length-(i+1)<q.L.length-i;omega)
    ·rw[pl_miss hi2 hne hF]
     exact AS.leA (by kernel_rfl)
    ·intro k hk
     show (plN (q.L.take (i+1)) l.no k:Int)=0
     rw[plN_next hi2,if_neg (fun x=>x.1 hne)]
     exact(congrFun hF k).trans (hh k hk)
  ·obtain rfl:i=q.L.length:=by omega
   rw[List.take_length] at hh
   have e:S3b p q sv hs k a l q.L.length h2=S3c p q sv (fun s=>(plN q.L l.no s:Int)) hs k a l h2 [(62,.d (lssD q.L)),(63,vi q.L.length),(64,vi q.L.length)]:=by unfold S3b S3c;rw[List.take_length];rfl
   show AWP _ _ _ (S3b p q sv hs k a l q.L.length h2) _
   rw[e]
   revert c2 c5 hh
   show (fun s=>(plN q.L l.no s:Int)) l.w.j.st<p.d→(∀y∈q.W,y.fr≤a.tk→(fun s=>(plN q.L l.no s:Int)) y.j.st<p.d→¬Bef sv y l.w)→_→_
   generalize (fun s=>(plN q.L l.no s:Int))=P
   intro c2 c5 hh
   refine walkK (orc:=orc3 q l jb0 0) (keep:=[]) (cuts:=[19,23]) (n:=1000) follows ?_
   refine of_rd (fun ZT ZW ZQ _ _ ZR=>((((decide ((↑q.L.length:Int)<↑q.L.length))=true)→ZW [cd Tryz.f3 [1,1,1,1,1,1,0,1,0,0,1,1,0,0,1,1,1,1,1,0,1,0,0,1,1,0,0],(.blk 3),cd Tryz.f3 [1,1,1,1,1,1,0,1,0,0,1,1,0,0,1,1,1,1,1,0,1,0,0,1,1,1]] (stS ZT [0]) ZR)∧(((decide ((↑q.L.length:Int)<↑q.L.length))=false)→ZW [cd Tryz.f3 [1,1,1,1,1,1,0,1,0,0,1,1,0,0,1,1,1,1,1,1],(.blk 1),cd Tryz.f3 [1,1,1,1,1,1,0,1,0,0,1,1,1]] (stS ZT [1]) ZQ))) (by kernel_rfl) ?_
   refine⟨fun hd=>absurd (of_decide_eq_true hd) (by omega),fun _=>?_⟩
   refine AWP.weaken (st':=S3c p q sv P hs k a l h2 []) ?_ ?_
   ·exact AS.leA (by kernel_rfl)
   exact f3_T2 p q q0 hs h0 sv P a l h2 k hk hll hi hd hs0 hh hsv c1 c2 c3 c4 c5 c6
theorem f3_round {K:List It} {Q:Exit→AS→Prop} (p:P3) (q:Qm) (hs:Value→Bool) (k:Nat) (hk:k<p.ll.length) (hl:p.ll.length≤40) (hi:Inv k q) (hd:q.ls=p.d) (hs0:Has0 q.sv hs) (hsm:∀a∈p.ll,SmallA a) :
  AWP Tryz.prog G [.code (cAt (bodyOf Tryz.f3) [1,1,1,1,1,1,0,1,0,0])] (S3 p q 901 902 903 q.sv hs k [] []) (R3 (G:=G) p K Q (k,q,hs)):=by
 have h11:=f11T (G:=G) hi (by omega) (p.ll.getD k ac0) (hsm _ (getD_mem hk))
 have hi2:=do_inv hi (p.ll.getD k ac0)
 have hls:=do_ls q (p.ll.getD k ac0)
 have hsv:=do_sv q (p.ll.getD k ac0)
 have hf:=lea_fair hi (p.ll.getD k ac0)
 have hb:∀s,0≤q.sv s∧q.sv s≤1000:=fun s=>by have:=hi.base.sv s;omega
 revert h11 hi2 hls hsv hf
 generalize doR q (p.ll.getD k ac0)=r
 obtain ⟨⟨l,j,e⟩,q1⟩:=r
 intro h11 hi2 hls hsv hf
 dsimp only at h11 hi2 hls hsv hf
 have hlen:=hi2.len
 refine walkK (orc:=orc3 q1 l j e) (keep:=[]) (cuts:=[16,36]) (n:=1000) follows ?_
 refine of_tr (fun ZT ZW ZQ _=>(fun Za Zb Zc Zd Ze=>((((decide ((↑k:Int)<↑p.ll.length))=true)→(((0≤(↑k:Int))∧((↑k:Int)<↑p.ll.length))∧(((Za.kd != 1)=true)→(FnM Tryz.prog G 11 [(.box 1000000 0),(.d (.agg [(di Za.kd),(di Za.tk),(di Za.nu),(ds Za.j.st),(ds Za.j.ex),(di Za.j.no),(di Za.j.ve),(di Za.j.pr),(ds Za.wk)]))] [(1000000,[(vi q.ll),(vi q.lt),(vi q.lp),(vi q.ls),(vi q.tick),(vi q.arr),(vi q.num),(.vec 1000001 8 0 q.W.length),(.vec 1000002 11 0 q.L.length),(.vec 1000003 5 0 q.D.length),(.mapv 1000004)]),(1000001,[(.arr ⟨true,39,false,none⟩ 8 (wtF q.W))]),(1000002,[(.arr ⟨true,41,false,none⟩ 11 (lsF q.L))]),(1000003,[(.arr ⟨true,35,false,none⟩ 5 (jbF q.D))]),(1000004,[(.mp none (svF q.sv) q.has)])] Zc [(1000000,[(vi q1.ll),(vi q1.lt),(vi q1.lp),(vi q1.ls),(vi q1.tick),(vi q1.arr),(vi q1.num),(.vec 901 8 0 q1.W.length),(.vec 902 11 0 q1.L.length),(.vec 903 5 0 q1.D.length),(.mapv 1000004)]),(901,[(.arr ⟨true,39,false,none⟩ 8 (wtF q1.W))]),(902,[(.arr ⟨true,41,false,none⟩ 11 (lsF q1.L))]),(903,[(.arr ⟨true,35,false,none⟩ 5 (jbF q1.D))]),(1000004,[(.mp none (svF q1.sv) q1.has)])]∧(I64 (↑k+1))∧(ZQ Exit.normal (AS.mk [AV.any,AV.any,AV.box 2 0,AV.any,AV.any,AV.box 28900 0,AV.any,AV.mapv 38,AV.any,AV.box 9 0,AV.any,AV.any,AV.any,AV.any,AV.any,AV.any,AV.any,AV.any,AV.any,AV.any,AV.any,AV.any,AV.any,AV.any,AV.any,AV.any,AV.any,AV.any,AV.any,AV.any,AV.any,AV.any,AV.any,AV.any,AV.any,AV.any,AV.any,AV.any,AV.any,AV.d (DV.slc 9 p.ll.length (acF p.ll)),AV.d Ze,AV.d Zd,AV.d (DV.con (Value.bool true)),AV.d (DV.ptr [di Za.kd,di Za.tk,di Za.nu,ds Za.j.st,ds Za.j.ex,di Za.j.no,di Za.j.ve,di Za.j.pr,ds Za.wk]),AV.d (DV.agg [di Za.kd,di Za.tk,di Za.nu,ds Za.j.st,ds Za.j.ex,di Za.j.no,di Za.j.ve,di Za.j.pr,ds Za.wk]),AV.box 9 0,vi Za.kd,AV.d (DV.con (Value.bool true)),AV.box 28900 0,AV.d (DV.agg [di Za.kd,di Za.tk,di Za.nu,ds Za.j.st,ds Za.j.ex,di Za.j.no,di Za.j.ve,di Za.j.pr,ds Za.wk]),AV.d Zb,AV.any,AV.any,AV.any,AV.any,AV.any,AV.any,AV.any,AV.any,AV.any,AV.any,AV.any,AV.any,AV.any,AV.any,AV.any,AV.any,AV.any,AV.any,AV.any,AV.any,AV.any,AV.any,AV.any,AV.any,AV.any,AV.any,AV.any,AV.any,AV.any,AV.any,AV.any,AV.any,AV.any,AV.any,AV.any,AV.any,AV.any,AV.any,AV.any,AV.any,AV.any,AV.any,AV.any,AV.any,AV.any,AV.any,AV.any,AV.any,AV.any,AV.any,AV.any,AV.any,AV.any,AV.any,AV.any,AV.any,AV.any,AV.any,AV.any,AV.any,AV.any,AV.any,AV.any,AV.any,AV.any,AV.any,AV.any,AV.any,AV.any,AV.any,AV.any,AV.any,AV.any,AV.any,AV.any,AV.any,AV.any,AV.any,AV.any,AV.any,AV.any,AV.any,AV.any,AV.any,AV.any,AV.any,AV.any,AV.any,AV.any,AV.any,AV.any,AV.any,AV.any,AV.any,AV.any,AV.any,AV.any,AV.any,AV.any,AV.any,AV.any,AV.any,AV.any,AV.any,AV.any,AV.any,AV.any,AV.any,AV.any,AV.any,AV.any,AV.any,AV.any,AV.any,AV.any,AV.any,AV.any,AV.any,AV.any,AV.any,AV.any,AV.any,AV.any,AV.any,AV.any,AV.any,AV.any,AV.any,AV.any,AV.any,AV.any,AV.any,AV.any,AV.any,AV.any,AV.any,AV.any,AV.d Zd] [(51901,[AV.arr (RK.mk true 39 false none) 8 (wtF q1.W)]),(51902,[AV.arr (RK.mk true 41 false none) 11 (lsF q1.L)]),(51903,[AV.arr (RK.mk true 35 false none) 5 (jbF q1.D)]),(9,[vi Za.kd,vi Za.tk,vi Za.nu,AV.d (ds Za.j.st),AV.d (ds Za.j.ex),vi Za.j.no,vi Za.j.ve,vi Za.j.pr,AV.d (ds Za.wk)]),(2,[vi p.a,vi p.b,vi p.c,vi p.d]),(28900,[vi q1.ll,vi q1.lt,vi q1.lp,vi q1.ls,vi q1.tick,vi q1.arr,vi q1.num,AV.vec 51901 8 0 q1.W.length,AV.vec 51902 11 0 q1.L.length,AV.vec 51903 5 0 q1.D.length,AV.mapv 28904]),(901,[AV.dead]),(902,[AV.dead]),(903,[AV.dead]),(28904,[AV.mp none (svF q1.sv) q1.has]),(38,[AV.mp none (svF q.sv) hs])]))))∧(((Za.kd != 1)=false)→(FnM Tryz.prog G 11 [(.box 1000000 0),(.d (.agg [(di Za.kd),(di Za.tk),(di Za.nu),(ds Za.j.st),(ds Za.j.ex),(di Za.j.no),(di Za.j.ve),(di Za.j.pr),(ds Za.wk)]))] [(1000000,[(vi q.ll),(vi q.lt),(vi q.lp),(vi q.ls),(vi q.tick),(vi q.arr),(vi q.num),(.vec 1000001 8 0 q.W.length),(.vec 1000002 11 0 q.L.length),(.vec 1000003 5 0 q.D.length),(.mapv 1000004)]),(1000001,[(.arr ⟨true,39,false,none⟩ 8 (wtF q.W))]),(1000002,[(.arr ⟨true,41,false,none⟩ 11 (lsF q.L))]),(1000003,[(.arr ⟨true,35,false,none⟩ 5 (jbF q.D))]),(1000004,[(.mp none (svF q.sv) q.has)])] Zc [(1000000,[(vi q1.ll),(vi q1.lt),(vi q1.lp),(vi q1.ls),(vi q1.tick),(vi q1.arr),(vi q1.num),(.vec 901 8 0 q1.W.length),(.vec 902 11 0 q1.L.length),(.vec 903 5 0 q1.D.length),(.mapv 1000004)]),(901,[(.arr ⟨true,39,false,none⟩ 8 (wtF q1.W))]),(902,[(.arr ⟨true,41,false,none⟩ 11 (lsF q1.L))]),(903,[(.arr ⟨true,35,false,none⟩ 5 (jbF q1.D))]),(1000004,[(.mp none (svF q1.sv) q1.has)])]∧(((e != 0)=true)→((I64 (↑k+1))∧(ZQ Exit.normal (AS.mk [AV.any,AV.any,AV.box 2 0,AV.any,AV.any,AV.box 28900 0,AV.any,AV.mapv 38,AV.any,AV.box 9 0,AV.box 10 0,AV.box 11 0,vi e,AV.any,AV.any,AV.any,AV.any,AV.any,AV.any,AV.any,AV.any,AV.any,AV.any,AV.any,AV.any,AV.any,AV.any,AV.any,AV.any,AV.any,AV.any,AV.any,AV.any,AV.any,AV.any,AV.any,AV.any,AV.any,AV.any,AV.d (DV.slc 9 p.ll.length (acF p.ll)),AV.d Ze,AV.d Zd,AV.d (DV.con (Value.bool true)),AV.d (DV.ptr [di Za.kd,di Za.tk,di Za.nu,ds Za.j.st,ds Za.j.ex,di Za.j.no,di Za.j.ve,di Za.j.pr,ds Za.wk]),AV.d (DV.agg [di Za.kd,di Za.tk,di Za.nu,ds Za.j.st,ds Za.j.ex,di Za.j.no,di Za.j.ve,di Za.j.pr,ds Za.wk]),AV.box 9 0,vi Za.kd,AV.d (DV.con (Value.bool false)),AV.any,AV.any,AV.any,AV.d Zb,AV.box 28900 0,AV.d (DV.agg [di Za.kd,di Za.tk,di Za.nu,ds Za.j.st,ds Za.j.ex,di Za.j.no,di Za.j.ve,di Za.j.pr,ds Za.wk]),AV.d Zb,AV.d (DV.agg [di l.no,di l.un,ds l.wk,ds l.w.j.st,ds l.w.j.ex,di l.w.j.no,di l.w.j.ve,di l.w.j.pr,di l.w.tr,di l.w.ar,di l.w.fr]),AV.d (DV.agg [ds j.st,ds j.ex,di j.no,di j.ve,di j.pr]),vi e,vi e,AV.d (DV.con (Value.bool true)),AV.any,AV.any,AV.any,AV.any,AV.any,AV.any,AV.any,AV.any,AV.any,AV.any,AV.any,AV.any,AV.any,AV.any,AV.any,AV.any,AV.any,AV.any,AV.any,AV.any,AV.any,AV.any,AV.any,AV.any,AV.any,AV.any,AV.any,AV.any,AV.any,AV.any,AV.any,AV.any,AV.any,AV.any,AV.any,AV.any,AV.any,AV.any,AV.any,AV.any,AV.any,AV.any,AV.any,AV.any,AV.any,AV.any,AV.any,AV.any,AV.any,AV.any,AV.any,AV.any,AV.any,AV.any,AV.any,AV.any,AV.any,AV.any,AV.any,AV.any,AV.any,AV.any,AV.any,AV.any,AV.any,AV.any,AV.any,AV.any,AV.any,AV.any,AV.any,AV.any,AV.any,AV.any,AV.any,AV.any,AV.any,AV.any,AV.any,AV.any,AV.any,AV.any,AV.any,AV.any,AV.any,AV.any,AV.any,AV.any,AV.any,AV.any,AV.any,AV.any,AV.any,AV.any,AV.any,AV.any,AV.any,AV.any,AV.any,AV.any,AV.any,AV.any,AV.any,AV.any,AV.any,AV.any,AV.any,AV.any,AV.any,AV.any,AV.any,AV.any,AV.any,AV.any,AV.any,AV.any,AV.any,AV.any,AV.any,AV.any,AV.any,AV.any,AV.any,AV.any,AV.any,AV.any,AV.any,AV.any,AV.d Zd] [(11,[AV.d (ds j.st),AV.d (ds j.ex),vi j.no,vi j.ve,vi j.pr]),(10,[vi l.no,vi l.un,AV.d (ds l.wk),AV.d (ds l.w.j.st),AV.d (ds l.w.j.ex),vi l.w.j.no,vi l.w.j.ve,vi l.w.j.pr,vi l.w.tr,vi l.w.ar,vi l.w.fr]),(55901,[AV.arr (RK.mk true 39 false none) 8 (wtF q1.W)]),(55902,[AV.arr (RK.mk true 41 false none) 11 (lsF q1.L)]),(55903,[AV.arr (RK.mk true 35 false none) 5 (jbF q1.D)]),(9,[vi Za.kd,vi Za.tk,vi Za.nu,AV.d (ds Za.j.st),AV.d (ds Za.j.ex),vi Za.j.no,vi Za.j.ve,vi Za.j.pr,AV.d (ds Za.wk)]),(2,[vi p.a,vi p.b,vi p.c,vi p.d]),(28900,[vi q1.ll,vi q1.lt,vi q1.lp,vi q1.ls,vi q1.tick,vi q1.arr,vi q1.num,AV.vec 55901 8 0 q1.W.length,AV.vec 55902 11 0 q1.L.length,AV.vec 55903 5 0 q1.D.length,AV.mapv 28904]),(901,[AV.dead]),(902,[AV.dead]),(903,[AV.dead]),(28904,[AV.mp none (svF q1.sv) q1.has]),(38,[AV.mp none (svF q.sv) hs])]))))∧(((e != 0)=false)→ZW [cd Tryz.f3 [1,1,1,1,1,1,0,1,0,0,1,1,0,0,1,1,1,1],(.blk 1),cd Tryz.f3 [1,1,1,1,1,1,0,1,0,0,1,1,1]] (stS ZT [0,1,1]) ZQ)))))∧(((decide ((↑k:Int)<↑p.ll.length))=false)→(ZQ (Exit.exit 0) (AS.mk [AV.any,AV.any,AV.box 2 0,AV.any,AV.any,AV.box 28900 0,AV.any,AV.mapv 38,AV.any,AV.any,AV.any,AV.any,AV.any,AV.any,AV.any,AV.any,AV.any,AV.any,AV.any,AV.any,AV.any,AV.any,AV.any,AV.any,AV.any,AV.any,AV.any,AV.any,AV.any,AV.any,AV.any,AV.any,AV.any,AV.any,AV.any,AV.any,AV.any,AV.any,AV.any,AV.d (DV.slc 9 p.ll.length (acF p.ll)),AV.d Ze,AV.d (DV.con (Value.int IntKind.i64 ↑k)),AV.d (DV.con (Value.bool false)),AV.any,AV.any,AV.any,AV.any,AV.any,AV.any,AV.any,AV.any,AV.any,AV.any,AV.any,AV.any,AV.any,AV.any,AV.any,AV.any,AV.any,AV.any,AV.any,AV.any,AV.any,AV.any,AV.any,AV.any,AV.any,AV.any,AV.any,AV.any,AV.any,AV.any,AV.any,AV.any,AV.any,AV.any,AV.any,AV.any,AV.any,AV.any,AV.any,AV.any,AV.any,AV.any,AV.any,AV.any,AV.any,AV.any,AV.any,AV.any,AV.any,AV.any,AV.any,AV.any,AV.any,AV.any,AV.any,AV.any,AV.any,AV.any,AV.any,AV.any,AV.any,AV.any,AV.any,AV.any,AV.any,AV.any,AV.any,AV.any,AV.any,AV.any,AV.any,AV.any,AV.any,AV.any,AV.any,AV.any,AV.any,AV.any,AV.any,AV.any,AV.any,AV.any,AV.any,AV.any,AV.any,AV.any,AV.any,AV.any,AV.any,AV.any,AV.any,AV.any,AV.any,AV.any,AV.any,AV.any,AV.any,AV.any,AV.any,AV.any,AV.any,AV.any,AV.any,AV.any,AV.any,AV.any,AV.any,AV.any,AV.any,AV.any,AV.any,AV.any,AV.any,AV.any,AV.any,AV.any,AV.any,AV.any,AV.any,AV.any,AV.any,AV.any,AV.any,AV.any,AV.any,AV.any,AV.any,AV.any,AV.any,AV.any,AV.any,AV.any,AV.any,AV.any,AV.any,AV.any,AV.any,AV.any,AV.any,AV.any,AV.any,AV.any,AV.any,AV.any,AV.any,AV.any] [(2,[vi p.a,vi p.b,vi p.c,vi p.d]),(28900,[vi q.ll,vi q.lt,vi q.lp,vi q.ls,vi q.tick,vi q.arr,vi q.num,AV.vec 901 8 0 q.W.length,AV.vec 902 11 0 q.L.length,AV.vec 903 5 0 q.D.length,AV.mapv 28904]),(901,[AV.arr (RK.mk true 39 false none) 8 (wtF q.W)]),(902,[AV.arr (RK.mk true 41 false none) 11 (lsF q.L)]),(903,[AV.arr (RK.mk true 35 false none) 5 (jbF q.D)]),(28904,[AV.mp none (svF q.sv) q.has]),(38,[AV.mp none (svF q.sv) hs])]))))) (p.ll.getD (↑k:Int).toNat ac0) (DV.tup [DV.agg [di l.no,di l.un,ds l.wk,ds l.w.j.st,ds l.w.j.ex,di l.w.j.no,di l.w.j.ve,di l.w.j.pr,di l.w.tr,di l.w.ar,di l.w.fr],DV.agg [ds j.st,ds j.ex,di j.no,di j.ve,di j.pr],di e]) ((.d (.tup [(.agg [(di l.no),(di l.un),(ds l.wk),(ds l.w.j.st),(ds l.w.j.ex),(di l.w.j.no),(di l.w.j.ve),(di l.w.j.pr),(di l.w.tr),(di l.w.ar),(di l.w.fr)]),(.agg [(ds j.st),(ds j.ex),(di j.no),(di j.ve),(di j.pr)]),(di e)])):AV) (di (↑k+1)) (DV.con (Value.int IntKind.i64 ↑p.ll.length))) (by kernel_rfl) ?_
 refine⟨fun _=>⟨⟨by omega,by omega⟩,fun c=>⟨h11,⟨by omega,by omega⟩,?_⟩,fun c=>⟨h11,fun c2=>⟨⟨by omega,by omega⟩,?_⟩,fun c2=>?_⟩⟩,fun h=>absurd (of_decide_eq_false h) (by omega)⟩
 ·have e1:=hsv (.inl (by simpa using c))
  refine Again.mkR [(51901,901),(51902,902),(51903,903)] rfl (k+1,q1,hs) ?_ ⟨hk,hi2,hls.trans hd,e1▸hs0⟩ (by show p.ll.length-(k+1)<p.ll.length-k;omega)
  dsimp only
  rw[e1]
  refine AS.leZ [] [5] (b:=((T0∧T0∧T0∧T0∧T0∧T0∧True)∧T0∧T0∧T0∧T0∧T0∧((some [(.mp none (svF q.sv) q1.has)]):(Option (List AV)))=(some [(.mp none (svF q1.sv) q1.has)])∧T0∧True)) (by kernel_rfl) (by kernel_rfl) ?_
  exact⟨⟨rfl,rfl,rfl,rfl,rfl,rfl,trivial⟩,rfl,rfl,rfl,rfl,rfl,congrArg (fun F=>some [AV.mp none (svF F) q1.has]) e1.symm,rfl,trivial⟩
 ·have e1:=hsv (.inr (by simpa using c2))
  refine Again.mkR [(55901,901),(55902,902),(55903,903)] rfl (k+1,q1,hs) ?_ ⟨hk,hi2,hls.trans hd,e1▸hs0⟩ (by show p.ll.length-(k+1)<p.ll.length-k;omega)
  dsimp only
  rw[e1]
  refine AS.leZ [] [5] (b:=((T0∧T0∧T0∧T0∧T0∧T0∧True)∧T0∧T0∧T0∧T0∧T0∧((some [(.mp none (svF q.sv) q1.has)]):(Option (List AV)))=(some [(.mp none (svF q1.sv) q1.has)])∧T0∧True)) (by kernel_rfl) (by kernel_rfl) ?_
  exact⟨⟨rfl,rfl,rfl,rfl,rfl,rfl,trivial⟩,rfl,rfl,rfl,rfl,rfl,congrArg (fun F=>some [AV.mp none (svF F) q1.has]) e1.symm,rfl,trivial⟩
 ·have hF:=hf (by simpa using c) (by simpa using c2)
  refine AWP.weaken (st':=S3 p q1 55901 55902 55903 q.sv hs k [(9,.box 9 0),(10,.box 10 0)] [(9,(acL (p.ll.getD k ac0)).map .d),(10,(lsL l).map .d)]) ?_ ?_
  ·refine AS.leZ [] [7] (b:=((T0∧T0∧T0∧T0∧T0∧T0∧T0∧T0∧True)∧T0∧T0∧T0∧T0∧T0∧T0∧T0∧((some [(vi (p.ll.getD (↑k:Int).toNat ac0).kd),(vi (p.ll.getD (↑k:Int).toNat ac0).tk),(vi (p.ll.getD (↑k:Int).toNat ac0).nu),(vs (p.ll.getD (↑k:Int).toNat ac0).j.st),(vs (p.ll.getD (↑k:Int).toNat ac0).j.ex),(vi (p.ll.getD (↑k:Int).toNat ac0).j.no),(vi (p.ll.getD (↑k:Int).toNat ac0).j.ve),(vi (p.ll.getD (↑k:Int).toNat ac0).j.pr),(vs (p.ll.getD (↑k:Int).toNat ac0).wk)]):(Option (List AV)))=(some [(vi (p.ll.getD k ac0).kd),(vi (p.ll.getD k ac0).tk),(vi (p.ll.getD k ac0).nu),(vs (p.ll.getD k ac0).j.st),(vs (p.ll.getD k ac0).j.ex),(vi (p.ll.getD k ac0).j.no),(vi (p.ll.getD k ac0).j.ve),(vi (p.ll.getD k ac0).j.pr),(vs (p.ll.getD k ac0).wk)])∧T0∧True)) (by kernel_rfl) (by kernel_rfl) ?_
   exact⟨⟨rfl,rfl,rfl,rfl,rfl,rfl,rfl,rfl,trivial⟩,rfl,rfl,rfl,rfl,rfl,rfl,rfl,rfl,rfl,trivial⟩
  have h5:=hF.best
  have h2:=hF.pl
  rw[hls,hd] at h5 h2
  exact f3_T1 p q1 q hs hs q.sv _ l k hk hl hi2 (hls.trans hd) hs0 hb hF.fr h2 hF.wk hF.un h5 hF.sv
noncomputable def d3 (f1:Bool):Oracle:=fun f _=>match f with
 | 8=>some (db true)
 | 9=>some (db f1)
 | 10=>some (.tup [.con (.pointer none),di 1])
 | _=>none
noncomputable def orc3a (f1:Bool):Orc:={ d:=d3 f1 }
noncomputable def m3b (q:Qm):FuncId→List AV→List (Nat×List AV)→Option (AV×List (Nat×List AV)):=fun f _ _=>match f with
 | 10=>some (.tup [.box 900 0,vi 0],qAt 900 q)
 | _=>none
noncomputable def orc3b (q:Qm):Orc:={ d:=noO,m:=m3b q }
theorem f3 (a b c0 d:Int) (l:List Ac) (hl:l.length≤9223372036854775807):FnOK Tryz.prog G 3 [lmD a b c0 d,acsD l] (db true):=by
 refine FnOK.of_body Tryz.func3 rfl Tryz.call3 ?_
 refine walkK (orc:=orc3a (fewA l 40)) (keep:=[]) (cuts:=[5]) (n:=1000) follows ?_
 refine of_tr (fun ZT ZW ZQ ZK=>(ZK 8 [] (db true)∧((false=true)→(((db false):DV)=(db true)))∧((false=false)→(ZK 9 [(.slc 9 l.length (acF l)),(di 40)] (db (fewA l 40))∧(((!fewA l 40)=true)→(ZS ((db true):DV)))∧(((!fewA l 40)=false)→ZW [cd Tryz.f3 [1,1,1]] (stS ZT [1,1]) ZQ))))) (by kernel_rfl) ?_
 refine⟨f8,fun c=>(by cases c),fun _=>⟨f9 l 40 hl,fun _=>rfl,fun c=>?_⟩⟩
 by_cases hn:newB a b c0 d=true
 ·refine walkK (orc:=orc3b (newQ a b c0 d)) (keep:=[]) (cuts:=[]) (n:=1000) follows ?_
  refine of_tr (fun ZT ZW ZQ _=>(FnM Tryz.prog G 10 [(.d (.agg [(di a),(di b),(di c0),(di d)]))] [] (.tup [(.box 900 0),(vi 0)]) [(900,[(vi a),(vi b),(vi c0),(vi d),(vi 0),(vi 0),(vi 0),(.vec 901 8 0 0),(.vec 902 11 0 0),(.vec 903 5 0 0),(.mapv 904)]),(901,[(.arr ⟨true,39,false,none⟩ 8 (wtF []))]),(902,[(.arr ⟨true,41,false,none⟩ 11 (lsF []))]),(903,[(.arr ⟨true,35,false,none⟩ 5 (jbF []))]),(904,[(.mp none (svF fun x=>0) (fun x=>false))])]∧((false=true)→(((db false):DV)=(db true)))∧((false=false)→ZW [cd Tryz.f3 [1,1,1,1,1,1,0,1,0],(.blk 0),cd Tryz.f3 [1,1,1,1,1,1,1]] (stS ZT [1]) ZQ))) (by kernel_rfl) ?_
  refine⟨f10_ok a b c0 d hn,fun c=>(by cases c),fun _=>?_⟩
  obtain ⟨hs,hlen⟩:=small_of (l:=l) (m:=40) (by simpa using c)
  refine AWP.weaken (st':=S3 ⟨l,a,b,c0,d⟩ (newQ a b c0 d) 28901 28902 28903 (fun _=>0) (fun _=>false) 0 [] []) ?_ ?_
  ·unfold S3
   rw[sv_zero]
   exact AS.leA (by kernel_rfl)
  refine AWP.pre (.moves [(28901,901),(28902,902),(28903,903)] _ rfl) ?_
  refine AWP.loop (c:=cAt (bodyOf Tryz.f3) [1,1,1,1,1,1,0,1,0,0]) (by kernel_rfl) (fun x:Nat×Qm×(Value→Bool)=>S3 ⟨l,a,b,c0,d⟩ x.2.1 901 902 903 x.2.1.sv x.2.2 x.1 [] []) (fun x=>x.1≤l.length∧Inv x.1 x.2.1∧x.2.1.ls=d∧Has0 x.2.1.sv x.2.2) (fun x=>l.length-x.1) (0,newQ a b c0 d,fun _=>false) ?_ ⟨Nat.zero_le _,new_inv hn,rfl,fun _ _=>rfl⟩ ?_
  ·exact AS.leA (by kernel_rfl)
  ·rintro ⟨k,q,hh⟩ ⟨hk,hi,hd,h0⟩
   dsimp only at hk hi hd h0
   by_cases hk2:k<l.length
   ·exact f3_round ⟨l,a,b,c0,d⟩ q hh k hk2 (by show l.length≤40;omega) hi hd h0 hs
   ·obtain rfl:k=l.length:=by omega
    show AWP _ _ _ (S3 ⟨l,a,b,c0,d⟩ q 901 902 903 q.sv hh l.length [] []) _
    refine walkK (orc:=noO) (keep:=[]) (cuts:=[11,36]) (n:=1000) follows ?_
    refine of_rd (fun ZT ZW ZQ _ _ ZR=>((((decide ((↑l.length:Int)<↑l.length))=true)→ZW [cd Tryz.f3 [1,1,1,1,1,1,0,1,0,0,1,1,0,0],(.blk 1),cd Tryz.f3 [1,1,1,1,1,1,0,1,0,0,1,1,1]] (stS ZT [0]) ZR)∧(((decide ((↑l.length:Int)<↑l.length))=false)→ZW [cd Tryz.f3 [1,1,1,1,1,1,1]] (stS ZT [1]) ZQ))) (by kernel_rfl) ?_
    refine⟨fun h=>absurd (of_decide_eq_true h) (by omega),fun _=>?_⟩
    refine walkK (orc:=noO) (keep:=[]) (cuts:=[]) (n:=1000) follows ?_
    refine of_tr (fun _ _ _ _=>(ZS ((db true):DV))) (by kernel_rfl) ?_
    rfl
 ·refine walkK (orc:=orc3a true) (keep:=[]) (cuts:=[]) (n:=1000) follows ?_
  refine of_tr (fun ZT ZW ZQ ZK=>(ZK 10 [(.agg [(di a),(di b),(di c0),(di d)])] (.tup [(.con (.pointer none)),(di 1)])∧((true=true)→(ZS ((db true):DV)))∧((true=false)→ZW [cd Tryz.f3 [1,1,1,1,1,1,0,1,0],(.blk 0),cd Tryz.f3 [1,1,1,1,1,1,1]] (stS ZT [1]) ZQ))) (by kernel_rfl) ?_
  exact⟨f10_no a b c0 d (by simpa using hn),fun _=>rfl,fun c=>(by cases c)⟩
end Go.Proofs
/- Ticks,plain. -/
namespace Go.Proofs
open Go Go.Ab
structure TickOK (q:Qm) (a:Ac) (e:Int) (q':Qm):Prop where
 bad:badT q a.tk=true→e=2∧q'=q
 ok:badT q a.tk=false→e≠2∧q'.tick=a.tk∧(e≠0→q'=moveQ q a.tk)
theorem mv_ok {q:Qm} {t:Int} (h:badT q t=false):mvQ q t=moveQ q t:=if_neg (by rw[h];decide)
theorem mv_bad {q:Qm} {t:Int} (h:badT q t=true):mvQ q t=q:=if_pos h
theorem addE_2 {b:Bool} {q:Qm} {j:Jb}:addE b q j=2↔b=false:=by
 unfold addE
 constructor
 ·intro h
  split at h
  ·assumption
  ·split at h
   ·cases h
   ·split at h
    ·cases h
    ·split at h<;>cases h
 ·intro h;rw[if_pos h]
theorem end_tick (q:Qm) (m t:Int):TickOK q ⟨2,t,m,jb0,.empty⟩ (endR q m t).2.1 (endR q m t).2.2:=by
 unfold endR
 dsimp only
 refine⟨fun h=>?_,fun h=>?_⟩
 ·dsimp only at h
  rw[if_pos h,mv_bad h];exact⟨rfl,rfl⟩
 ·dsimp only at h⊢
  have ht:=mv_tick h
  rw[if_neg (by rw[h];decide)]
  split
  ·exact⟨(by decide:(7:Int)≠2),ht,fun _=>mv_ok h⟩
  ·exact⟨(by decide:(0:Int)≠2),ht,fun x=>absurd rfl x⟩
theorem do_tick (q:Qm) (a:Ac) (h0:0≤a.kd) (h4:a.kd≤4):TickOK q a (doR q a).1.2.2 (doR q a).2:=by
 unfold doR
 by_cases k0:a.kd=0
 ·simp only[if_pos k0]
  unfold addR
  dsimp only
  refine⟨fun h=>?_,fun h=>?_⟩
  ·have e:addE (!badT q a.tk) (mvQ q a.tk) a.j=2:=addE_2.2 (by rw[h];rfl)
   rw[e,if_neg (by decide),mv_bad h];exact⟨rfl,rfl⟩
  ·have ht:=mv_tick h
   have e:addE (!badT q a.tk) (mvQ q a.tk) a.j≠2:=fun x=>by have:=addE_2.1 x;rw[h] at this;cases this
   refine⟨e,?_,fun x=>?_⟩
   ·split
    ·exact ht
    ·exact ht
   ·rw[if_neg x,mv_ok h]
 simp only[if_neg k0]
 by_cases k1:a.kd=1
 ·simp only[if_pos k1]
  unfold leaR
  dsimp only
  refine⟨fun h=>?_,fun h=>?_⟩
  ·rw[if_pos h,mv_bad h];exact⟨rfl,rfl⟩
  ·have ht:=mv_tick h
   rw[if_neg (by rw[h];decide)]
   split
   ·exact⟨(by decide:(1:Int)≠2),ht,fun _=>mv_ok h⟩
   ·split
    ·exact⟨(by decide:(7:Int)≠2),ht,fun _=>mv_ok h⟩
    ·exact⟨(by decide:(0:Int)≠2),ht,fun x=>absurd rfl x⟩
 simp only[if_neg k1]
 by_cases k2:a.kd=2
 ·simp only[if_pos k2]
  have:=end_tick q a.nu a.tk
  exact⟨this.bad,this.ok⟩
 simp only[if_neg k2]
 by_cases k3:a.kd=3
 ·simp only[if_pos k3]
  have h:=end_tick q a.nu a.tk
  unfold failR
  dsimp only
  refine⟨fun hb=>?_,fun hb=>?_⟩
  ·obtain ⟨e1,e2⟩:=h.bad hb
   rw[e1,if_neg (by decide)];exact⟨rfl,e2⟩
  ·obtain ⟨e1,e2,e3⟩:=h.ok hb
   refine⟨e1,?_,fun x=>?_⟩
   ·split
    ·rw[fail_frame];exact e2
    ·exact e2
   ·rw[if_neg x];exact e3 x
 simp only[if_neg k3]
 have k4:a.kd=4:=by omega
 simp only[if_pos k4]
 unfold remR
 dsimp only
 refine⟨fun h=>?_,fun h=>?_⟩
 ·have e:delE (!badT q a.tk) (mvQ q a.tk) a.j a.j.ve=2:=by unfold delE;rw[if_pos (by rw[h];rfl)]
  rw[e,if_neg (by decide),mv_bad h];exact⟨rfl,rfl⟩
 ·have ht:=mv_tick h
  have e:delE (!badT q a.tk) (mvQ q a.tk) a.j a.j.ve≠2:=by
   unfold delE
   rw[if_neg (by rw[h];decide)]
   split<;>decide
  refine⟨e,?_,fun x=>?_⟩
  ·split
   ·exact ht
   ·exact ht
  ·rw[if_neg x,mv_ok h]
end Go.Proofs
/- A copy that may be changed. -/
namespace Go.Proofs
open Go Go.Ab Go.RowKit
set_option maxHeartbeats 4000000
set_option maxRecDepth 100000
variable {G:IH}
theorem f29c_some (l:List Ls) (h0:0<l.length) (hl:l.length≤1000000):FnM Tryz.prog G 29 [.d (lssD l)] [] (.vec 900 11 0 l.length) [(900,rowL l)]:=by
 refine FnM.res (post:=[(900,[.arr lK 11 fun i=>bif i.blt 0 then DV.con undef else lsF l (i-0)])]) ((AS.leX.rowF _ 0 900 l.length (agg:=lK) (sz:=11) (f:=fun i=>bif i.blt 0 then DV.con undef else lsF l (i-0)) (lsF l) rfl rfl rfl (by kernel_rfl) fun i hi=>rfl).trans (.of_le ⟨⟨rfl,trivial⟩,rfl,trivial⟩)) ?_
 refine FnM.of_body (mv:=[(7,900)]) (by kernel_rfl) Tryz.func29 rfl Tryz.call29 ?_
 refine walkK (orc:=noO) (keep:=[]) (cuts:=[]) (n:=1000) follows ?_
 refine of_tr (fun _ _ _ _=>(fun Za=>((0<l.length)∧((false=true)→(((.d (.con (.slice none 0 0))):AV)=(.vec 900 11 0 l.length)∧(none:(Option (List AV)))=Za∧True))∧((false=false)→(((((0+l.length)*112≤1099511627776)∧(0+l.length≤1099511627776))∧(∀(i:Nat),i<l.length→elemOK true 11 (lsF l i)=true))∧((.vec 900 11 0 (0+l.length)):AV)=(.vec 900 11 0 l.length)∧(Za:(Option (List AV)))=Za∧True)))) (some [(.arr ⟨true,41,false,none⟩ 11 (fun i=>bif i.blt 0 then DV.con undef else lsF l (i-0)))])) (by kernel_rfl) ?_
 exact⟨h0,fun h=>(by cases h),fun _=>⟨⟨⟨by omega,by omega⟩,fun i _=>rfl⟩,by rw[Nat.zero_add],rfl,trivial⟩⟩
theorem f29c_nil (c:Nat):FnM Tryz.prog G 29 [.d (.con (.slice none 0 c))] [] (.vec 900 11 0 0) [(900,rowL [])]:=by
 refine FnM.res (r:=.d (.con (.slice none 0 0))) (post:=[]) (AS.leX.nilRow ⟨[.d (.con (.slice none 0 0))],[]⟩ 0 900 11 lK (lsF []) rfl (by kernel_rfl)) ?_
 refine FnM.of_body (mv:=[]) (by kernel_rfl) Tryz.func29 rfl Tryz.call29 ?_
 refine walkK (orc:=noO) (keep:=[]) (cuts:=[]) (n:=1000) follows ?_
 refine of_tr (fun _ _ _ _=>(((true=true)→((ZS ((.d (.con (.slice none 0 0))):AV))∧True))∧((true=false)→((((0+0)*112≤1099511627776)∧(0+0≤1099511627776))∧((.vec 7 11 0 0):AV)=(.d (.con (.slice none 0 0)))∧True)))) (by kernel_rfl) ?_
 exact⟨fun _=>⟨rfl,trivial⟩,fun h=>(by cases h)⟩
theorem f29c_emp (p:Addr) (c:Nat):FnM Tryz.prog G 29 [.d (.con (.slice (some p) 0 c))] [] (.vec 900 11 0 0) [(900,rowL [])]:=by
 refine FnM.res (post:=[(900,[.arr lK 11 fun i=>bif i.blt 0 then DV.con undef else DV.con undef])]) ((AS.leX.rowF _ 0 900 0 (agg:=lK) (sz:=11) (f:=fun i=>bif i.blt 0 then DV.con undef else DV.con undef) (lsF []) rfl rfl rfl (by kernel_rfl) fun i hi=>absurd hi (Nat.not_lt_zero _)).trans (.of_le ⟨⟨rfl,trivial⟩,rfl,trivial⟩)) ?_
 refine FnM.of_body (mv:=[(7,900)]) (by kernel_rfl) Tryz.func29 rfl Tryz.call29 ?_
 refine walkK (orc:=noO) (keep:=[]) (cuts:=[]) (n:=1000) follows ?_
 refine of_tr (fun _ _ _ _=>(fun Za=>(((false=true)→(((.d (.con (.slice none 0 0))):AV)=(.vec 900 11 0 0)∧(none:(Option (List AV)))=Za∧True))∧((false=false)→((((0+0)*112≤1099511627776)∧(0+0≤1099511627776))∧(ZS ((.vec 900 11 0 0):AV))∧(Za:(Option (List AV)))=Za∧True)))) (some [(.arr ⟨true,41,false,none⟩ 11 (fun i=>bif i.blt 0 then DV.con undef else DV.con undef))])) (by kernel_rfl) ?_
 exact⟨fun h=>(by cases h),fun _=>⟨⟨by omega,by omega⟩,rfl,rfl,trivial⟩⟩
theorem f29c (l:List Ls) (hl:l.length≤1000000):FnM Tryz.prog G 29 [.d (lssD l)] [] (.vec 900 11 0 l.length) [(900,rowL l)]:=by
 rcases Nat.eq_zero_or_pos l.length with h|h
 ·obtain rfl:l=[]:=List.eq_nil_of_length_eq_zero h
  refine FnM.each (.slice none 0 0) (f29c_nil 0) fun β h v hv=>?_
  obtain ⟨p,c,rfl,-,-⟩:=hv
  cases p with
  | none=>exact f29c_nil _
  | some p=>exact f29c_emp p _
 ·exact f29c_some l h hl
end Go.Proofs
/- Early and late ticks. -/
namespace Go.Proofs
open Go Go.Ab Go.RowKit
set_option maxHeartbeats 4000000
set_option maxRecDepth 100000
variable {G:IH}
noncomputable def d6 (f1 f2:Bool):Oracle:=fun f xs=>match f,xs with
 | 8,_=>some (db true)
 | 9,[_,.con (.int _ 40)]=>some (db f1)
 | 9,[_,.con (.int _ 1)]=>some (db f2)
 | 10,_=>some (.tup [.con (.pointer none),di 1])
 | _,_=>none
noncomputable def orc6a (f1 f2:Bool):Orc:={ d:=d6 f1 f2,rows:=fun n=>Nat.beq n 25 }
theorem f6_no (a b c0 d:Int) (l:List Ac) (x:Ac) (hl:l.length≤9223372036854775807) (h:fewA l 40=false):FnOK Tryz.prog G 6 [lmD a b c0 d,acsD l,acD x] (db true):=by
 have h9:=f9 (G:=G) l 40 hl
 rw[h] at h9
 refine FnOK.of_body Tryz.func6 rfl Tryz.call6 ?_
 refine walkK (orc:=orc6a false true) (keep:=[]) (cuts:=[5]) (n:=1000) follows ?_
 refine of_tr (fun ZT ZW ZQ ZK=>(ZK 8 [] (db true)∧((false=true)→(((db false):DV)=(db true)))∧((false=false)→((ZK 9 [(.slc 9 l.length (acF l)),(di 40)] (db false)∧((false=true)→ZK 9 [(db false),(di 1)] (db true)))∧(((!false||!true||decide (x.kd<0)||decide (x.kd>4))=true)→(ZS ((db true):DV)))∧(((!false||!true||decide (x.kd<0)||decide (x.kd>4))=false)→ZW [cd Tryz.f6 [1,1,1]] (stS ZT [1,1]) ZQ))))) (by kernel_rfl) ?_
 exact⟨f8,fun c=>(by cases c),fun _=>⟨⟨h9,fun c=>(by cases c)⟩,fun _=>rfl,fun c=>(by cases c)⟩⟩
noncomputable def S6 (a b c d:Int) (ll:List Ac) (x:Ac) (q:Qm) (w l d':Nat) (k:Nat):AS:=⟨regs Tryz.f6.ntmps ([(5,.box 5 0),(7,.box 42900 0),(52,.d (acsD ll)),(53,vi ll.length),(54,vi k)]),(5,(acL x).map .d) :: qL q 42900 42904 w l d'⟩
noncomputable def m6b (q:Qm):FuncId→List AV→List (Nat×List AV)→Option (AV×List (Nat×List AV)):=fun f _ _=>match f with
 | 10=>some (.tup [.box 900 0,vi 0],qAt 900 q)
 | _=>none
noncomputable def orc6b (q:Qm):Orc:={ d:=noO,m:=m6b q }
noncomputable def m6c (q0 q:Qm) (l:Ls) (j:Jb) (e:Int) (n:Nat):FuncId→List AV→List (Nat×List AV)→Option (AV×List (Nat×List AV)):=fun f _ _=>match f with
 | 11=>some (.d (.tup [lsD l,jbD j,di e]),qG q)
 | 12=>some (.d (lssD q0.L),qP q0)
 | 13=>some (.d (wtsD q0.W),qP q0)
 | 24=>some (.d (jbsD q0.D),qP q0)
 | 21=>some (.d (di q0.tick),qP q0)
 | _=>none
noncomputable def d6c (q0:Qm):Oracle:=fun f _=>match f with
 | 25=>some (db true)
 | 26=>some (db true)
 | 27=>some (db true)
 | _=>none
noncomputable def orc6c (q0 q:Qm) (l:Ls) (j:Jb) (e:Int):Orc:={ d:=d6c q0,m:=m6c q0 q l j e 0,ro:=fun f=>Nat.beq f 12||Nat.beq f 13||Nat.beq f 24||Nat.beq f 21 }
noncomputable def S6b (x:Ac) (q0 q:Qm) (w l d':Nat) (e:Int) (R:List (Nat×AV)):AS:=⟨regs Tryz.f6.ntmps ([(5,.box 5 0),(7,.box 42900 0),(8,vi e),(11,vi q0.tick),(12,.d (wtsD q0.W)),(13,.d (lssD q0.L)),(14,.d (jbsD q0.D))]++R),(5,(acL x).map .d) :: qL q 42900 42904 w l d'⟩
noncomputable def m6d (q q0:Qm) (kept:List Ls):FuncId→List AV→List (Nat×List AV)→Option (AV×List (Nat×List AV)):=fun f _ _=>match f with
 | 29=>some (.vec 900 11 0 q0.L.length,[(900,rowL q0.L)])
 | 28=>some (.vec 1000000 11 0 kept.length,[(1000000,rowL kept)])
 | 12=>some (.d (lssD q.L),qP q)
 | 13=>some (.d (wtsD q.W),qP q)
 | 24=>some (.d (jbsD q.D),qP q)
 | _=>none
noncomputable def orc6d (q q0:Qm) (kept:List Ls):Orc:={ d:=d6c q,m:=m6d q q0 kept,ro:=fun f=>Nat.beq f 12||Nat.beq f 13||Nat.beq f 24||Nat.beq f 21 }
theorem f6_bad (x:Ac) (q:Qm) (h:badT q x.tk=true) (h1:q.W.length≤100000) (h2:q.L.length≤100000) (h3:q.D.length≤100000):AWP Tryz.prog G [.code (cAt (bodyOf Tryz.f6) [1,1,1,1,1,1,1,1,0]),.code (cAt (bodyOf Tryz.f6) [1,1,1,1,1,1,1,1,1])] (S6b x q q 74901 74902 74903 2 []) (Ret Tryz.prog Tryz.f6 (db true)):=by
 have h25:=f25 (G:=G) q.W q.W (by omega) (by omega)
 have h26:=f26 (G:=G) q.L q.L (by omega) (by omega)
 have h27:=f27 (G:=G) q.D q.D (by omega) (by omega)
 rw[decide_eq_true rfl] at h25 h26 h27
 have h':(decide (x.tk<q.tick)||decide (x.tk>1099511627776))=true:=h
 refine walkK (orc:=orc6c q q ls0 jb0 0) (keep:=[]) (cuts:=[16,19]) (n:=1000) follows ?_
 refine of_tr (fun ZT ZW ZQ ZK=>(fun Za Zb Zc Zd Ze Zf Zg Zh=>(((Zh=true)→ZW [cd Tryz.f6 [1,1,1,1,1,1,1,1,0,1,0],cd Tryz.f6 [1,1,1,1,1,1,1,1,1]] (stS ZT [0]) ZQ)∧((Zh=false)→(((true=true)→((FnM Tryz.prog G 21 [(.box 1000000 0)] [(1000000,[(vi q.ll),(vi q.lt),(vi q.lp),(vi q.ls),(vi q.tick),(vi q.arr),(vi q.num),(.vec 1000001 8 0 q.W.length),Ze,(.vec 1000003 5 0 q.D.length),(.mapv 1000004)]),(1000001,[Zb]),(1000002,[Za]),(1000003,[Zc]),(1000004,[(.mp none (svF q.sv) q.has)])] (vi q.tick) [(1000000,[(vi q.ll),(vi q.lt),(vi q.lp),(vi q.ls),(vi q.tick),(vi q.arr),(vi q.num),(.vec 1000001 8 0 q.W.length),Ze,(.vec 1000003 5 0 q.D.length),(.mapv 1000004)]),(1000001,[Zb]),(1000002,[Za]),(1000003,[Zc]),(1000004,[(.mp none (svF q.sv) q.has)])]∧Zd=[(vi q.ll),(vi q.lt),(vi q.lp),(vi q.ls),(vi q.tick),(vi q.arr),(vi q.num),(.vec 74901 8 0 q.W.length),(.vec 74902 11 0 q.L.length),(.vec 74903 5 0 q.D.length),(.mapv 42904)]∧([Zb]:(List AV))=[Zb]∧([Za]:(List AV))=[Za]∧([Zc]:(List AV))=[Zc]∧Zg=[(.mp none (svF q.sv) q.has)]∧(((q.tick==q.tick)=true)→FnM Tryz.prog G 13 [(.box 1000000 0)] [(1000000,[(vi q.ll),(vi q.lt),(vi q.lp),(vi q.ls),(vi q.tick),(vi q.arr),(vi q.num),(.vec 1000001 8 0 q.W.length),Ze,(.vec 1000003 5 0 q.D.length),(.mapv 1000004)]),(1000001,[Zb]),(1000002,[Za]),(1000003,[Zc]),(1000004,[(.mp none (svF q.sv) q.has)])] (.d (.slc 8 q.W.length (wtF q.W))) [(1000000,[(vi q.ll),(vi q.lt),(vi q.lp),(vi q.ls),(vi q.tick),(vi q.arr),(vi q.num),(.vec 1000001 8 0 q.W.length),Ze,(.vec 1000003 5 0 q.D.length),(.mapv 1000004)]),(1000001,[Zb]),(1000002,[Za]),(1000003,[Zc]),(1000004,[(.mp none (svF q.sv) q.has)])])∧(((q.tick==q.tick)=true)→(Zd=[(vi q.ll),(vi q.lt),(vi q.lp),(vi q.ls),(vi q.tick),(vi q.arr),(vi q.num),(.vec 74901 8 0 q.W.length),(.vec 74902 11 0 q.L.length),(.vec 74903 5 0 q.D.length),(.mapv 42904)]))∧(((q.tick==q.tick)=true)→(([Zb]:(List AV))=[Zb]))∧(((q.tick==q.tick)=true)→(([Za]:(List AV))=[Za]))∧(((q.tick==q.tick)=true)→(([Zc]:(List AV))=[Zc]))∧(((q.tick==q.tick)=true)→(Zg=[(.mp none (svF q.sv) q.has)]))∧(((q.tick==q.tick)=true)→ZK 25 [(.slc 8 q.W.length (wtF q.W)),(.slc 8 q.W.length (wtF q.W))] (db true))∧(((q.tick==q.tick&&true)=true)→FnM Tryz.prog G 12 [(.box 1000000 0)] [(1000000,[(vi q.ll),(vi q.lt),(vi q.lp),(vi q.ls),(vi q.tick),(vi q.arr),(vi q.num),(.vec 1000001 8 0 q.W.length),Ze,(.vec 1000003 5 0 q.D.length),(.mapv 1000004)]),(1000001,[Zb]),(1000002,[Za]),(1000003,[Zc]),(1000004,[(.mp none (svF q.sv) q.has)])] (.d (.slc 11 q.L.length (lsF q.L))) [(1000000,[(vi q.ll),(vi q.lt),(vi q.lp),(vi q.ls),(vi q.tick),(vi q.arr),(vi q.num),(.vec 1000001 8 0 q.W.length),Ze,(.vec 1000003 5 0 q.D.length),(.mapv 1000004)]),(1000001,[Zb]),(1000002,[Za]),(1000003,[Zc]),(1000004,[(.mp none (svF q.sv) q.has)])])∧(((q.tick==q.tick&&true)=true)→(Zd=[(vi q.ll),(vi q.lt),(vi q.lp),(vi q.ls),(vi q.tick),(vi q.arr),(vi q.num),(.vec 74901 8 0 q.W.length),(.vec 74902 11 0 q.L.length),(.vec 74903 5 0 q.D.length),(.mapv 42904)]))∧(((q.tick==q.tick&&true)=true)→(([Zb]:(List AV))=[Zb]))∧(((q.tick==q.tick&&true)=true)→(([Za]:(List AV))=[Za]))∧(((q.tick==q.tick&&true)=true)→(([Zc]:(List AV))=[Zc]))∧(((q.tick==q.tick&&true)=true)→(Zg=[(.mp none (svF q.sv) q.has)]))∧(((q.tick==q.tick&&true)=true)→ZK 26 [(.slc 11 q.L.length (lsF q.L)),(.slc 11 q.L.length (lsF q.L))] (db true))∧((Zf=true)→FnM Tryz.prog G 24 [(.box 1000000 0)] [(1000000,[(vi q.ll),(vi q.lt),(vi q.lp),(vi q.ls),(vi q.tick),(vi q.arr),(vi q.num),(.vec 1000001 8 0 q.W.length),Ze,(.vec 1000003 5 0 q.D.length),(.mapv 1000004)]),(1000001,[Zb]),(1000002,[Za]),(1000003,[Zc]),(1000004,[(.mp none (svF q.sv) q.has)])] (.d (.slc 5 q.D.length (jbF q.D))) [(1000000,[(vi q.ll),(vi q.lt),(vi q.lp),(vi q.ls),(vi q.tick),(vi q.arr),(vi q.num),(.vec 1000001 8 0 q.W.length),Ze,(.vec 1000003 5 0 q.D.length),(.mapv 1000004)]),(1000001,[Zb]),(1000002,[Za]),(1000003,[Zc]),(1000004,[(.mp none (svF q.sv) q.has)])])∧((Zf=true)→(Zd=[(vi q.ll),(vi q.lt),(vi q.lp),(vi q.ls),(vi q.tick),(vi q.arr),(vi q.num),(.vec 74901 8 0 q.W.length),(.vec 74902 11 0 q.L.length),(.vec 74903 5 0 q.D.length),(.mapv 42904)]))∧((Zf=true)→(([Zb]:(List AV))=[Zb]))∧((Zf=true)→(([Za]:(List AV))=[Za]))∧((Zf=true)→(([Zc]:(List AV))=[Zc]))∧((Zf=true)→(Zg=[(.mp none (svF q.sv) q.has)]))∧((Zf=true)→ZK 27 [(.slc 5 q.D.length (jbF q.D)),(.slc 5 q.D.length (jbF q.D))] (db true)))∧((db (q.tick==q.tick&&true&&true&&true)):DV)=(db true)))∧((true=false)→ZW [cd Tryz.f6 [1,1,1,1,1,1,1,1,1,1,0],cd Tryz.f6 [1,1,1,1,1,1,1,1,1,1,1]] (stS ZT [1,1]) ZQ))))) ((.arr ⟨true,41,false,none⟩ 11 (lsF q.L)):AV) ((.arr ⟨true,39,false,none⟩ 8 (wtF q.W)):AV) ((.arr ⟨true,35,false,none⟩ 5 (jbF q.D)):AV) ([(vi q.ll),(vi q.lt),(vi q.lp),(vi q.ls),(vi q.tick),(vi q.arr),(vi q.num),(.vec 74901 8 0 q.W.length),(.vec 74902 11 0 q.L.length),(.vec 74903 5 0 q.D.length),(.mapv 42904)]:(List AV)) ((.vec 1000002 11 0 q.L.length):AV) (q.tick==q.tick&&true&&true) ([(.mp none (svF q.sv) q.has)]:(List AV)) (!((2:Int)==(2:Int))==(decide (Ac.tk x<Qm.tick q)||decide (Ac.tk x>(1099511627776:Int))))) (by kernel_rfl) ?_
 refine⟨fun c=>?_,fun _=>⟨fun _=>⟨⟨f21 q,rfl,rfl,rfl,rfl,rfl,fun _=>f13 q (by omega),fun _=>rfl,fun _=>rfl,fun _=>rfl,fun _=>rfl,fun _=>rfl,fun _=>h25,fun _=>f12 q (by omega),fun _=>rfl,fun _=>rfl,fun _=>rfl,fun _=>rfl,fun _=>rfl,fun _=>h26,fun _=>f24 q (by omega),fun _=>rfl,fun _=>rfl,fun _=>rfl,fun _=>rfl,fun _=>rfl,fun _=>h27⟩,?_⟩,fun c=>(by cases c)⟩⟩
 ·rw[h'] at c;cases c
 ·rw[beq_self_eq_true];rfl
theorem f6_ok {n:Nat} (x:Ac) (q0 q:Qm) (e:Int) (hb:badT q0 x.tk=false) (hn:n≤100) (hi:Inv n q) (h0:Inv n q0) (he:e≠2) (ht:q.tick=x.tk) (hm:e≠0→q=moveQ q0 x.tk):AWP Tryz.prog G [.code (cAt (bodyOf Tryz.f6) [1,1,1,1,1,1,1,1,0]),.code (cAt (bodyOf Tryz.f6) [1,1,1,1,1,1,1,1,1])] (S6b x q0 q 74901 74902 74903 e []) (Ret Tryz.prog Tryz.f6 (db true)):=by
 have hl:=hi.len
 have hl0:=h0.len
 have h':(decide (x.tk<q0.tick)||decide (x.tk>1099511627776))=false:=hb
 have he2:(e==2)=false:=by simpa using he
 refine walkK (orc:=orc6c q q ls0 jb0 0) (keep:=[]) (cuts:=[16,18,19]) (n:=1000) follows ?_
 refine of_tr (fun ZT ZW ZQ _=>((((!(e==2)==(decide (x.tk<q0.tick)||decide (x.tk>1099511627776)))=true)→ZW [cd Tryz.f6 [1,1,1,1,1,1,1,1,0,1,0],cd Tryz.f6 [1,1,1,1,1,1,1,1,1]] (stS ZT [0]) ZQ)∧(((!(e==2)==(decide (x.tk<q0.tick)||decide (x.tk>1099511627776)))=false)→((((e==2)=true)→ZW [cd Tryz.f6 [1,1,1,1,1,1,1,1,1,0,1,0],cd Tryz.f6 [1,1,1,1,1,1,1,1,1,1]] (stS ZT [1,0]) ZQ)∧(((e==2)=false)→ZW [cd Tryz.f6 [1,1,1,1,1,1,1,1,1,1,0],cd Tryz.f6 [1,1,1,1,1,1,1,1,1,1,1]] (stS ZT [1,1]) ZQ))))) (by kernel_rfl) ?_
 refine⟨fun c=>?_,fun _=>⟨fun c=>absurd c (by rw[he2];decide),fun _=>?_⟩⟩
 ·rw[h',he2] at c;cases c
 refine walkK (orc:=orc6c q q ls0 jb0 0) (keep:=[]) (cuts:=[]) (n:=1000) follows ?_
 refine of_tr (fun ZT ZW ZQ _=>(fun Za Zb Zc=>((FnM Tryz.prog G 12 [(.box 1000000 0)] [(1000000,[(vi q.ll),(vi q.lt),(vi q.lp),(vi q.ls),(vi q.tick),(vi q.arr),(vi q.num),(.vec 1000001 8 0 q.W.length),(.vec 1000002 11 0 q.L.length),(.vec 1000003 5 0 q.D.length),(.mapv 1000004)]),(1000001,[Zb]),(1000002,[Za]),(1000003,[Zc]),(1000004,[(.mp none (svF q.sv) q.has)])] (.d (.slc 11 q.L.length (lsF q.L))) [(1000000,[(vi q.ll),(vi q.lt),(vi q.lp),(vi q.ls),(vi q.tick),(vi q.arr),(vi q.num),(.vec 1000001 8 0 q.W.length),(.vec 1000002 11 0 q.L.length),(.vec 1000003 5 0 q.D.length),(.mapv 1000004)]),(1000001,[Zb]),(1000002,[Za]),(1000003,[Zc]),(1000004,[(.mp none (svF q.sv) q.has)])]∧([(vi q.ll),(vi q.lt),(vi q.lp),(vi q.ls),(vi q.tick),(vi q.arr),(vi q.num),(.vec 74901 8 0 q.W.length),(.vec 74902 11 0 q.L.length),(.vec 74903 5 0 q.D.length),(.mapv 42904)]:(List AV))=[(vi q.ll),(vi q.lt),(vi q.lp),(vi q.ls),(vi q.tick),(vi q.arr),(vi q.num),(.vec 74901 8 0 q.W.length),(.vec 74902 11 0 q.L.length),(.vec 74903 5 0 q.D.length),(.mapv 42904)]∧([Zb]:(List AV))=[Zb]∧([Za]:(List AV))=[Za]∧([Zc]:(List AV))=[Zc]∧([(.mp none (svF q.sv) q.has)]:(List AV))=[(.mp none (svF q.sv) q.has)])∧ZW [cd Tryz.f6 [1,1,1,1,1,1,1,1,1,1,0,1,0],(.blk 2),cd Tryz.f6 [1,1,1,1,1,1,1,1,1,1,1]] (stS ZT []) ZQ)) ((.arr ⟨true,41,false,none⟩ 11 (lsF q.L)):AV) ((.arr ⟨true,39,false,none⟩ 8 (wtF q.W)):AV) ((.arr ⟨true,35,false,none⟩ 5 (jbF q.D)):AV)) (by kernel_rfl) ?_
 refine⟨⟨f12 q (by omega),rfl,rfl,rfl,rfl,rfl⟩,?_⟩
 refine AWP.loop (c:=cAt (bodyOf Tryz.f6) [1,1,1,1,1,1,1,1,1,1,0,1,0,0]) (by kernel_rfl) (fun i:Nat=>S6b x q0 q 74901 74902 74903 e [(114,.d (lssD q.L)),(115,vi q.L.length),(116,vi i)]) (fun i=>i≤q.L.length) (fun i=>q.L.length-i) 0 ?_ (Nat.zero_le _) ?_
 ·exact AS.leA (by kernel_rfl)
 ·intro i hik
  by_cases hi2:i<q.L.length
  ·have hun:=(hi.L _ (getD_mem (x0:=ls0) hi2)).2.1.1
   refine walkK (orc:=orc6c q q ls0 jb0 0) (keep:=[]) (cuts:=[25]) (n:=1000) follows ?_
   refine of_rd (fun ZT ZW ZQ _ ZA _=>((((decide ((↑i:Int)<↑q.L.length))=true)→(((0≤(↑i:Int))∧((↑i:Int)<↑q.L.length))∧(((decide ((q.L.getD (↑i:Int).toNat ls0).un≤x.tk))=true)→(((db false):DV)=(db true)))∧(((decide ((q.L.getD (↑i:Int).toNat ls0).un≤x.tk))=false)→((I64 (↑i+1))∧(ZA (stS ZT [0,1]))))))∧(((decide ((↑i:Int)<↑q.L.length))=false)→ZW [cd Tryz.f6 [1,1,1,1,1,1,1,1,1,1,1]] (stS ZT [1]) ZQ))) (by kernel_rfl) ?_
   rw[show ((i:Int)).toNat=i from rfl]
   refine⟨fun _=>⟨⟨by omega,by omega⟩,fun c=>absurd (of_decide_eq_true c) (by omega),fun _=>⟨⟨by omega,by omega⟩,?_⟩⟩,fun hd=>absurd (of_decide_eq_false hd) (by omega)⟩
   refine Again.mk (i+1) ?_ hi2 (by show q.L.length-(i+1)<q.L.length-i;omega)
   exact AS.leA (by kernel_rfl)
  ·obtain rfl:i=q.L.length:=by have:i≤q.L.length:=hik;omega
   refine walkK (orc:=orc6c q q ls0 jb0 0) (keep:=[]) (cuts:=[21,25]) (n:=1000) follows ?_
   refine of_rd (fun ZT ZW ZQ _ _ ZR=>((((decide ((↑q.L.length:Int)<↑q.L.length))=true)→ZW [cd Tryz.f6 [1,1,1,1,1,1,1,1,1,1,0,1,0,0,1,1,0,0],(.blk 3),cd Tryz.f6 [1,1,1,1,1,1,1,1,1,1,0,1,0,0,1,1,1]] (stS ZT [0]) ZR)∧(((decide ((↑q.L.length:Int)<↑q.L.length))=false)→ZW [cd Tryz.f6 [1,1,1,1,1,1,1,1,1,1,1]] (stS ZT [1]) ZQ))) (by kernel_rfl) ?_
   refine⟨fun hd=>absurd (of_decide_eq_true hd) (by omega),fun _=>?_⟩
   refine walkK (orc:=orc6c q q ls0 jb0 0) (keep:=[]) (cuts:=[27]) (n:=1000) follows ?_
   refine of_tr (fun ZT ZW ZQ _=>(fun Za Zb Zc Zd Ze=>(((((!e==0)=true)→FnM Tryz.prog G 21 [(.box 1000000 0)] [(1000000,[(vi q.ll),(vi q.lt),(vi q.lp),(vi q.ls),(vi q.tick),(vi q.arr),(vi q.num),(.vec 1000001 8 0 q.W.length),Ze,(.vec 1000003 5 0 q.D.length),(.mapv 1000004)]),(1000001,[Zb]),(1000002,[Za]),(1000003,[Zc]),(1000004,[(.mp none (svF q.sv) q.has)])] (vi q.tick) [(1000000,[(vi q.ll),(vi q.lt),(vi q.lp),(vi q.ls),(vi q.tick),(vi q.arr),(vi q.num),(.vec 1000001 8 0 q.W.length),Ze,(.vec 1000003 5 0 q.D.length),(.mapv 1000004)]),(1000001,[Zb]),(1000002,[Za]),(1000003,[Zc]),(1000004,[(.mp none (svF q.sv) q.has)])])∧(((!e==0)=true)→(Zd=[(vi q.ll),(vi q.lt),(vi q.lp),(vi q.ls),(vi q.tick),(vi q.arr),(vi q.num),(.vec 74901 8 0 q.W.length),(.vec 74902 11 0 q.L.length),(.vec 74903 5 0 q.D.length),(.mapv 42904)]))∧(((!e==0)=true)→(([Zb]:(List AV))=[Zb]))∧(((!e==0)=true)→(([Za]:(List AV))=[Za]))∧(((!e==0)=true)→(([Zc]:(List AV))=[Zc]))∧(((!e==0)=true)→(([(.mp none (svF q.sv) q.has)]:(List AV))=[(.mp none (svF q.sv) q.has)])))∧(((e==0||q.tick != x.tk)=true)→((FnM Tryz.prog G 21 [(.box 1000000 0)] [(1000000,[(vi q.ll),(vi q.lt),(vi q.lp),(vi q.ls),(vi q.tick),(vi q.arr),(vi q.num),(.vec 1000001 8 0 q.W.length),Ze,(.vec 1000003 5 0 q.D.length),(.mapv 1000004)]),(1000001,[Zb]),(1000002,[Za]),(1000003,[Zc]),(1000004,[(.mp none (svF q.sv) q.has)])] (vi q.tick) [(1000000,[(vi q.ll),(vi q.lt),(vi q.lp),(vi q.ls),(vi q.tick),(vi q.arr),(vi q.num),(.vec 1000001 8 0 q.W.length),Ze,(.vec 1000003 5 0 q.D.length),(.mapv 1000004)]),(1000001,[Zb]),(1000002,[Za]),(1000003,[Zc]),(1000004,[(.mp none (svF q.sv) q.has)])]∧Zd=[(vi q.ll),(vi q.lt),(vi q.lp),(vi q.ls),(vi q.tick),(vi q.arr),(vi q.num),(.vec 74901 8 0 q.W.length),(.vec 74902 11 0 q.L.length),(.vec 74903 5 0 q.D.length),(.mapv 42904)]∧([Zb]:(List AV))=[Zb]∧([Za]:(List AV))=[Za]∧([Zc]:(List AV))=[Zc]∧([(.mp none (svF q.sv) q.has)]:(List AV))=[(.mp none (svF q.sv) q.has)])∧((db (q.tick==x.tk)):DV)=(db true)))∧(((e==0||q.tick != x.tk)=false)→ZW [cd Tryz.f6 [1,1,1,1,1,1,1,1,1,1,1,1]] (stS ZT [1]) ZQ))) ((.arr ⟨true,41,false,none⟩ 11 (lsF q.L)):AV) ((.arr ⟨true,39,false,none⟩ 8 (wtF q.W)):AV) ((.arr ⟨true,35,false,none⟩ 5 (jbF q.D)):AV) ([(vi q.ll),(vi q.lt),(vi q.lp),(vi q.ls),(vi q.tick),(vi q.arr),(vi q.num),(.vec 74901 8 0 q.W.length),(.vec 74902 11 0 q.L.length),(.vec 74903 5 0 q.D.length),(.mapv 42904)]:(List AV)) ((.vec 1000002 11 0 q.L.length):AV)) (by kernel_rfl) ?_
   refine⟨⟨fun _=>f21 q,fun _=>rfl,fun _=>rfl,fun _=>rfl,fun _=>rfl,fun _=>rfl⟩,fun c=>⟨⟨f21 q,rfl,rfl,rfl,rfl,rfl⟩,?_⟩,fun c=>?_⟩
   ·rw[ht,beq_self_eq_true]
   rw[Bool.or_eq_false_iff] at c
   have hm:=hm (by simpa using c.1)
   have hkL:q.L=q0.L.filter fun l=>!overB x.tk l:=by rw[hm,move_frame];rfl
   have hjl:=len_of_jobs (move_jobs q0 x.tk)
   rw[←hm] at hjl
   have hkl:(q0.L.filter fun l=>!overB x.tk l).length≤q0.L.length:=List.length_filter_le ..
   have h28:=f28 (G:=G) 30 (.ptr (acL x)) (overB x.tk) q0.L (by omega) fun i _=>f30 x (q0.L.getD i ls0)
   have h26:=f26 (G:=G) q.L (q0.L.filter fun l=>!overB x.tk l) (by omega) (by omega)
   rw[decide_eq_true hkL] at h26
   refine AWP.freezeB (dl:=acL x) 5 (by kernel_rfl) rfl ?_
   refine walkK (orc:=orc6d q q0 (q0.L.filter fun l=>!overB x.tk l)) (keep:=[]) (cuts:=[]) (n:=1000) follows ?_
   refine of_tr (fun _ _ _ ZK=>(fun Za Zb Zc Zd Ze Zf Zg=>((FnM Tryz.prog G 29 [(.d (.slc 11 q0.L.length (lsF q0.L)))] [] (.vec 900 11 0 q0.L.length) [(900,[(.arr ⟨true,41,false,none⟩ 11 (lsF q0.L))])]∧FnM Tryz.prog G 28 [(.vec 1000000 11 0 q0.L.length),(.d (.clo (.func 30) [] [(.ptr [(di x.kd),(di x.tk),(di x.nu),(ds x.j.st),(ds x.j.ex),(di x.j.no),(di x.j.ve),(di x.j.pr),(ds x.wk)])]))] [(1000000,[(.arr ⟨true,41,false,none⟩ 11 (lsF q0.L))])] (.vec 1000000 11 0 Ze.length) [(1000000,[(.arr ⟨true,41,false,none⟩ 11 (lsF Ze))])])∧(FnM Tryz.prog G 12 [(.box 1000000 0)] [(1000000,[(vi q.ll),(vi q.lt),(vi q.lp),(vi q.ls),(vi q.tick),(vi q.arr),(vi q.num),(.vec 1000001 8 0 q.W.length),Zf,(.vec 1000003 5 0 q.D.length),(.mapv 1000004)]),(1000001,[Zb]),(1000002,[Za]),(1000003,[Zc]),(1000004,[(.mp none (svF q.sv) q.has)])] (.d (.slc 11 q.L.length (lsF q.L))) [(1000000,[(vi q.ll),(vi q.lt),(vi q.lp),(vi q.ls),(vi q.tick),(vi q.arr),(vi q.num),(.vec 1000001 8 0 q.W.length),Zf,(.vec 1000003 5 0 q.D.length),(.mapv 1000004)]),(1000001,[Zb]),(1000002,[Za]),(1000003,[Zc]),(1000004,[(.mp none (svF q.sv) q.has)])]∧Zd=[(vi q.ll),(vi q.lt),(vi q.lp),(vi q.ls),(vi q.tick),(vi q.arr),(vi q.num),(.vec 74901 8 0 q.W.length),(.vec 74902 11 0 q.L.length),(.vec 74903 5 0 q.D.length),(.mapv 42904)]∧([Zb]:(List AV))=[Zb]∧([Za]:(List AV))=[Za]∧([Zc]:(List AV))=[Zc]∧Zg=[(.mp none (svF q.sv) q.has)]∧ZK 26 [(.slc 11 q.L.length (lsF q.L)),(.slc 11 Ze.length (fun i=>lsF Ze (0+i)))] (db true)∧((true=true)→FnM Tryz.prog G 13 [(.box 1000000 0)] [(1000000,[(vi q.ll),(vi q.lt),(vi q.lp),(vi q.ls),(vi q.tick),(vi q.arr),(vi q.num),(.vec 1000001 8 0 q.W.length),Zf,(.vec 1000003 5 0 q.D.length),(.mapv 1000004)]),(1000001,[Zb]),(1000002,[Za]),(1000003,[Zc]),(1000004,[(.mp none (svF q.sv) q.has)])] (.d (.slc 8 q.W.length (wtF q.W))) [(1000000,[(vi q.ll),(vi q.lt),(vi q.lp),(vi q.ls),(vi q.tick),(vi q.arr),(vi q.num),(.vec 1000001 8 0 q.W.length),Zf,(.vec 1000003 5 0 q.D.length),(.mapv 1000004)]),(1000001,[Zb]),(1000002,[Za]),(1000003,[Zc]),(1000004,[(.mp none (svF q.sv) q.has)])])∧((true=true)→(Zd=[(vi q.ll),(vi q.lt),(vi q.lp),(vi q.ls),(vi q.tick),(vi q.arr),(vi q.num),(.vec 74901 8 0 q.W.length),(.vec 74902 11 0 q.L.length),(.vec 74903 5 0 q.D.length),(.mapv 42904)]))∧((true=true)→(([Zb]:(List AV))=[Zb]))∧((true=true)→(([Za]:(List AV))=[Za]))∧((true=true)→(([Zc]:(List AV))=[Zc]))∧((true=true)→(Zg=[(.mp none (svF q.sv) q.has)]))∧((true=true)→FnM Tryz.prog G 24 [(.box 1000000 0)] [(1000000,[(vi q.ll),(vi q.lt),(vi q.lp),(vi q.ls),(vi q.tick),(vi q.arr),(vi q.num),(.vec 1000001 8 0 q.W.length),Zf,(.vec 1000003 5 0 q.D.length),(.mapv 1000004)]),(1000001,[Zb]),(1000002,[Za]),(1000003,[Zc]),(1000004,[(.mp none (svF q.sv) q.has)])] (.d (.slc 5 q.D.length (jbF q.D))) [(1000000,[(vi q.ll),(vi q.lt),(vi q.lp),(vi q.ls),(vi q.tick),(vi q.arr),(vi q.num),(.vec 1000001 8 0 q.W.length),Zf,(.vec 1000003 5 0 q.D.length),(.mapv 1000004)]),(1000001,[Zb]),(1000002,[Za]),(1000003,[Zc]),(1000004,[(.mp none (svF q.sv) q.has)])])∧((true=true)→(Zd=[(vi q.ll),(vi q.lt),(vi q.lp),(vi q.ls),(vi q.tick),(vi q.arr),(vi q.num),(.vec 74901 8 0 q.W.length),(.vec 74902 11 0 q.L.length),(.vec 74903 5 0 q.D.length),(.mapv 42904)]))∧((true=true)→(([Zb]:(List AV))=[Zb]))∧((true=true)→(([Za]:(List AV))=[Za]))∧((true=true)→(([Zc]:(List AV))=[Zc]))∧((true=true)→(Zg=[(.mp none (svF q.sv) q.has)]))∧((true=true)→(I64 (↑q.W.length + ↑q.D.length)))∧((true=true)→(I64 (↑q0.W.length + ↑q0.D.length)))∧((true=true)→(I64 (↑q0.W.length + ↑q0.D.length + ↑q0.L.length)))∧((true=true)→(I64 (↑q0.W.length + ↑q0.D.length + ↑q0.L.length - ↑Ze.length))))∧((db (true&&(↑q.W.length:Int) + ↑q.D.length==↑q0.W.length + ↑q0.D.length + ↑q0.L.length - ↑Ze.length)):DV)=(db true))) ((.arr ⟨true,41,false,none⟩ 11 (lsF q.L)):AV) ((.arr ⟨true,39,false,none⟩ 8 (wtF q.W)):AV) ((.arr ⟨true,35,false,none⟩ 5 (jbF q.D)):AV) ([(vi q.ll),(vi q.lt),(vi q.lp),(vi q.ls),(vi q.tick),(vi q.arr),(vi q.num),(.vec 74901 8 0 q.W.length),(.vec 74902 11 0 q.L.length),(.vec 74903 5 0 q.D.length),(.mapv 42904)]:(List AV)) (List.filter (fun l=>!overB x.tk l) q0.L) ((.vec 1000002 11 0 q.L.length):AV) ([(.mp none (svF q.sv) q.has)]:(List AV))) (by kernel_rfl) ?_
   dsimp only
   have hkl2:q.L.length=(q0.L.filter fun l=>!overB x.tk l).length:=by rw[←hkL]
   have h26z:=h26.args (xs:=[lssD q.L,.slc 11 (q0.L.filter fun l=>!overB x.tk l).length (fun i=>lsF (q0.L.filter fun l=>!overB x.tk l) (0+i))]) fun k us hu=>DV.rels_cons (fun v hv=>hv) (DV.rels_cons (fun v hv=>DV.rel_slc_congr (fun i hi=>by rw[Nat.zero_add]) hv) (fun _ h=>h)) us hu
   have e:((q.W.length:Int)+q.D.length==(q0.W.length:Int)+q0.D.length+q0.L.length-(q0.L.filter fun l=>!overB x.tk l).length)=true:=by
    rw[beq_iff_eq];omega
   refine⟨⟨f29c q0.L (by omega),h28⟩,⟨f12 q (by omega),rfl,rfl,rfl,rfl,rfl,h26z,fun _=>f13 q (by omega),fun _=>rfl,fun _=>rfl,fun _=>rfl,fun _=>rfl,fun _=>rfl,fun _=>f24 q (by omega),fun _=>rfl,fun _=>rfl,fun _=>rfl,fun _=>rfl,fun _=>rfl,fun _=>⟨by omega,by omega⟩,fun _=>⟨by omega,by omega⟩,fun _=>⟨by omega,by omega⟩,fun _=>⟨by omega,by omega⟩⟩,?_⟩
   rw[e];rfl
theorem f6_end {n:Nat} (ll:List Ac) (x:Ac) (q:Qm) (hs:SmallA x) (hk0:0≤x.kd) (hk4:x.kd≤4) (hn:n≤50) (hi:Inv n q):AWP Tryz.prog G [.code (cAt (bodyOf Tryz.f6) [1,1,1,1,1,1])] (S6 0 0 0 0 ll x q 901 902 903 ll.length) (Ret Tryz.prog Tryz.f6 (db true)):=by
 have hl:=hi.len
 have h11:=f11T (G:=G) hi (by omega) x hs
 have hi2:=do_inv hi x
 have ht:=do_tick q x hk0 hk4
 revert h11 hi2 ht
 generalize doR q x=r
 obtain ⟨⟨l1,j,e⟩,q1⟩:=r
 intro h11 hi2 ht
 dsimp only at h11 hi2 ht
 refine walkK (orc:=orc6c q q1 l1 j e) (keep:=[]) (cuts:=[15]) (n:=1000) follows ?_
 refine of_tr (fun ZT ZW ZQ _=>(fun Za Zb Zc Zd Ze Zf=>((FnM Tryz.prog G 21 [(.box 1000000 0)] [(1000000,[(vi q.ll),(vi q.lt),(vi q.lp),(vi q.ls),(vi q.tick),(vi q.arr),(vi q.num),(.vec 1000001 8 0 q.W.length),Ze,(.vec 1000003 5 0 q.D.length),(.mapv 1000004)]),(1000001,[Zb]),(1000002,[Za]),(1000003,[Zc]),(1000004,[(.mp none (svF q.sv) q.has)])] (vi q.tick) [(1000000,[(vi q.ll),(vi q.lt),(vi q.lp),(vi q.ls),(vi q.tick),(vi q.arr),(vi q.num),(.vec 1000001 8 0 q.W.length),Ze,(.vec 1000003 5 0 q.D.length),(.mapv 1000004)]),(1000001,[Zb]),(1000002,[Za]),(1000003,[Zc]),(1000004,[(.mp none (svF q.sv) q.has)])]∧Zd=[(vi q.ll),(vi q.lt),(vi q.lp),(vi q.ls),(vi q.tick),(vi q.arr),(vi q.num),(.vec 901 8 0 q.W.length),(.vec 902 11 0 q.L.length),(.vec 903 5 0 q.D.length),(.mapv 42904)]∧([Zb]:(List AV))=[Zb]∧([Za]:(List AV))=[Za]∧([Zc]:(List AV))=[Zc]∧Zf=[(.mp none (svF q.sv) q.has)]∧FnM Tryz.prog G 13 [(.box 1000000 0)] [(1000000,[(vi q.ll),(vi q.lt),(vi q.lp),(vi q.ls),(vi q.tick),(vi q.arr),(vi q.num),(.vec 1000001 8 0 q.W.length),Ze,(.vec 1000003 5 0 q.D.length),(.mapv 1000004)]),(1000001,[Zb]),(1000002,[Za]),(1000003,[Zc]),(1000004,[(.mp none (svF q.sv) q.has)])] (.d (.slc 8 q.W.length (wtF q.W))) [(1000000,[(vi q.ll),(vi q.lt),(vi q.lp),(vi q.ls),(vi q.tick),(vi q.arr),(vi q.num),(.vec 1000001 8 0 q.W.length),Ze,(.vec 1000003 5 0 q.D.length),(.mapv 1000004)]),(1000001,[Zb]),(1000002,[Za]),(1000003,[Zc]),(1000004,[(.mp none (svF q.sv) q.has)])]∧Zd=[(vi q.ll),(vi q.lt),(vi q.lp),(vi q.ls),(vi q.tick),(vi q.arr),(vi q.num),(.vec 901 8 0 q.W.length),(.vec 902 11 0 q.L.length),(.vec 903 5 0 q.D.length),(.mapv 42904)]∧([Zb]:(List AV))=[Zb]∧([Za]:(List AV))=[Za]∧([Zc]:(List AV))=[Zc]∧Zf=[(.mp none (svF q.sv) q.has)]∧FnM Tryz.prog G 12 [(.box 1000000 0)] [(1000000,[(vi q.ll),(vi q.lt),(vi q.lp),(vi q.ls),(vi q.tick),(vi q.arr),(vi q.num),(.vec 1000001 8 0 q.W.length),Ze,(.vec 1000003 5 0 q.D.length),(.mapv 1000004)]),(1000001,[Zb]),(1000002,[Za]),(1000003,[Zc]),(1000004,[(.mp none (svF q.sv) q.has)])] (.d (.slc 11 q.L.length (lsF q.L))) [(1000000,[(vi q.ll),(vi q.lt),(vi q.lp),(vi q.ls),(vi q.tick),(vi q.arr),(vi q.num),(.vec 1000001 8 0 q.W.length),Ze,(.vec 1000003 5 0 q.D.length),(.mapv 1000004)]),(1000001,[Zb]),(1000002,[Za]),(1000003,[Zc]),(1000004,[(.mp none (svF q.sv) q.has)])]∧Zd=[(vi q.ll),(vi q.lt),(vi q.lp),(vi q.ls),(vi q.tick),(vi q.arr),(vi q.num),(.vec 901 8 0 q.W.length),(.vec 902 11 0 q.L.length),(.vec 903 5 0 q.D.length),(.mapv 42904)]∧([Zb]:(List AV))=[Zb]∧([Za]:(List AV))=[Za]∧([Zc]:(List AV))=[Zc]∧Zf=[(.mp none (svF q.sv) q.has)]∧FnM Tryz.prog G 24 [(.box 1000000 0)] [(1000000,[(vi q.ll),(vi q.lt),(vi q.lp),(vi q.ls),(vi q.tick),(vi q.arr),(vi q.num),(.vec 1000001 8 0 q.W.length),Ze,(.vec 1000003 5 0 q.D.length),(.mapv 1000004)]),(1000001,[Zb]),(1000002,[Za]),(1000003,[Zc]),(1000004,[(.mp none (svF q.sv) q.has)])] (.d (.slc 5 q.D.length (jbF q.D))) [(1000000,[(vi q.ll),(vi q.lt),(vi q.lp),(vi q.ls),(vi q.tick),(vi q.arr),(vi q.num),(.vec 1000001 8 0 q.W.length),Ze,(.vec 1000003 5 0 q.D.length),(.mapv 1000004)]),(1000001,[Zb]),(1000002,[Za]),(1000003,[Zc]),(1000004,[(.mp none (svF q.sv) q.has)])]∧Zd=[(vi q.ll),(vi q.lt),(vi q.lp),(vi q.ls),(vi q.tick),(vi q.arr),(vi q.num),(.vec 901 8 0 q.W.length),(.vec 902 11 0 q.L.length),(.vec 903 5 0 q.D.length),(.mapv 42904)]∧([Zb]:(List AV))=[Zb]∧([Za]:(List AV))=[Za]∧([Zc]:(List AV))=[Zc]∧Zf=[(.mp none (svF q.sv) q.has)])∧FnM Tryz.prog G 11 [(.box 1000000 0),(.d (.agg [(di x.kd),(di x.tk),(di x.nu),(ds x.j.st),(ds x.j.ex),(di x.j.no),(di x.j.ve),(di x.j.pr),(ds x.wk)]))] [(1000000,[(vi q.ll),(vi q.lt),(vi q.lp),(vi q.ls),(vi q.tick),(vi q.arr),(vi q.num),(.vec 1000001 8 0 q.W.length),Ze,(.vec 1000003 5 0 q.D.length),(.mapv 1000004)]),(1000001,[Zb]),(1000002,[Za]),(1000003,[Zc]),(1000004,[(.mp none (svF q.sv) q.has)])] (.d (.tup [(.agg [(di l1.no),(di l1.un),(ds l1.wk),(ds l1.w.j.st),(ds l1.w.j.ex),(di l1.w.j.no),(di l1.w.j.ve),(di l1.w.j.pr),(di l1.w.tr),(di l1.w.ar),(di l1.w.fr)]),(.agg [(ds j.st),(ds j.ex),(di j.no),(di j.ve),(di j.pr)]),(di e)])) [(1000000,[(vi q1.ll),(vi q1.lt),(vi q1.lp),(vi q1.ls),(vi q1.tick),(vi q1.arr),(vi q1.num),(.vec 901 8 0 q1.W.length),(.vec 902 11 0 q1.L.length),(.vec 903 5 0 q1.D.length),(.mapv 1000004)]),(901,[(.arr ⟨true,39,false,none⟩ 8 (wtF q1.W))]),(902,[(.arr ⟨true,41,false,none⟩ 11 (lsF q1.L))]),(903,[(.arr ⟨true,35,false,none⟩ 5 (jbF q1.D))]),(1000004,[(.mp none (svF q1.sv) q1.has)])]∧ZW [cd Tryz.f6 [1,1,1,1,1,1,1,1,0],cd Tryz.f6 [1,1,1,1,1,1,1,1,1]] (stS ZT []) ZQ)) ((.arr ⟨true,41,false,none⟩ 11 (lsF q.L)):AV) ((.arr ⟨true,39,false,none⟩ 8 (wtF q.W)):AV) ((.arr ⟨true,35,false,none⟩ 5 (jbF q.D)):AV) ([(vi q.ll),(vi q.lt),(vi q.lp),(vi q.ls),(vi q.tick),(vi q.arr),(vi q.num),(.vec 901 8 0 q.W.length),(.vec 902 11 0 q.L.length),(.vec 903 5 0 q.D.length),(.mapv 42904)]:(List AV)) ((.vec 1000002 11 0 q.L.length):AV) ([(.mp none (svF q.sv) q.has)]:(List AV))) (by kernel_rfl) ?_
 refine⟨⟨f21 q,rfl,rfl,rfl,rfl,rfl,f13 q (by omega),rfl,rfl,rfl,rfl,rfl,f12 q (by omega),rfl,rfl,rfl,rfl,rfl,f24 q (by omega),rfl,rfl,rfl,rfl,rfl⟩,h11,?_⟩
 refine AWP.weaken (st':=S6b x q q1 74901 74902 74903 e []) ?_ ?_
 ·exact AS.leA (by kernel_rfl)
 cases hb:badT q x.tk with
 | true=>
  obtain ⟨rfl,rfl⟩:=ht.bad hb
  exact f6_bad x q1 hb (by omega) (by omega) (by omega)
 | false=>
  obtain ⟨e1,e2,e3⟩:=ht.ok hb
  exact f6_ok x q q1 e hb (by omega) hi2 (hi.up (by omega)) e1 e2 e3
theorem one_few (x:Ac):FnOK Tryz.prog G 9 [.slc 9 1 (fun i=>elemF true 9 (acL x) (0+i)),di 1] (db (fewA [x] 1)):=
 (f9 (G:=G) [x] 1 (by show (1:Nat)≤9223372036854775807;decide)).args fun k us hu=>DV.rels_cons (fun v hv=>DV.rel_slc_congr (fun i hi=>by
  have hi:i<1:=hi
  obtain rfl:i=0:=by omega
  rfl) hv) (fun _ h=>h) us hu
theorem f6_yes (a b c0 d:Int) (l:List Ac) (x:Ac) (hl:l.length≤9223372036854775807) (h:fewA l 40=true):FnOK Tryz.prog G 6 [lmD a b c0 d,acsD l,acD x] (db true):=by
 have h9:=f9 (G:=G) l 40 hl
 rw[h] at h9
 refine FnOK.of_body Tryz.func6 rfl Tryz.call6 ?_
 refine walkK (orc:=orc6a true (fewA [x] 1)) (keep:=[]) (cuts:=[5]) (n:=1000) follows ?_
 refine of_tr (fun ZT ZW ZQ ZK=>(ZK 8 [] (db true)∧((false=true)→(((db false):DV)=(db true)))∧((false=false)→((ZK 9 [(.slc 9 l.length (acF l)),(di 40)] (db true)∧((true=true)→ZK 9 [(.slc 9 1 (fun i=>elemF true 9 [di x.kd,di x.tk,di x.nu,ds x.j.st,ds x.j.ex,di x.j.no,di x.j.ve,di x.j.pr,ds x.wk] (0+i))),(di 1)] (db (fewA [x] 1))))∧(((!true||!fewA [x] 1||decide (x.kd<0)||decide (x.kd>4))=true)→(ZS ((db true):DV)))∧(((!true||!fewA [x] 1||decide (x.kd<0)||decide (x.kd>4))=false)→ZW [cd Tryz.f6 [1,1,1]] (stS ZT [1,1]) ZQ))))) (by kernel_rfl) ?_
 refine⟨f8,fun c=>(by cases c),fun _=>⟨⟨h9,fun _=>one_few x⟩,fun _=>rfl,fun c=>?_⟩⟩
 simp only[Bool.or_eq_false_iff,decide_eq_false_iff_not,Bool.not_eq_false'] at c
 obtain ⟨⟨⟨-,c1⟩,c2⟩,c3⟩:=c
 obtain ⟨hsx,-⟩:=small_of c1
 have hsx:=hsx x (by simp)
 obtain ⟨hs,hlen⟩:=small_of h
 by_cases hn:newB a b c0 d=true
 ·refine walkK (orc:=orc6b (newQ a b c0 d)) (keep:=[]) (cuts:=[]) (n:=1000) follows ?_
  refine of_tr (fun ZT ZW ZQ _=>(FnM Tryz.prog G 10 [(.d (.agg [(di a),(di b),(di c0),(di d)]))] [] (.tup [(.box 900 0),(vi 0)]) [(900,[(vi a),(vi b),(vi c0),(vi d),(vi 0),(vi 0),(vi 0),(.vec 901 8 0 0),(.vec 902 11 0 0),(.vec 903 5 0 0),(.mapv 904)]),(901,[(.arr ⟨true,39,false,none⟩ 8 (wtF []))]),(902,[(.arr ⟨true,41,false,none⟩ 11 (lsF []))]),(903,[(.arr ⟨true,35,false,none⟩ 5 (jbF []))]),(904,[(.mp none (svF fun x=>0) (fun x=>false))])]∧((false=true)→(((db false):DV)=(db true)))∧((false=false)→ZW [cd Tryz.f6 [1,1,1,1,1,0,1,0],(.blk 0),cd Tryz.f6 [1,1,1,1,1,1]] (stS ZT [1]) ZQ))) (by kernel_rfl) ?_
  refine⟨f10_ok a b c0 d hn,fun c=>(by cases c),fun _=>?_⟩
  refine AWP.weaken (st':=S6 0 0 0 0 l x (newQ a b c0 d) 42901 42902 42903 0) ?_ ?_
  ·exact AS.leA (by kernel_rfl)
  refine AWP.pre (.moves [(42901,901),(42902,902),(42903,903)] _ rfl) ?_
  refine AWP.loop (c:=cAt (bodyOf Tryz.f6) [1,1,1,1,1,0,1,0,0]) (by kernel_rfl) (fun y:Nat×Qm=>S6 0 0 0 0 l x y.2 901 902 903 y.1) (fun y=>y.1≤l.length∧Inv y.1 y.2) (fun y=>l.length-y.1) (0,newQ a b c0 d) ?_ ⟨Nat.zero_le _,new_inv hn⟩ ?_
  ·exact AS.leA (by kernel_rfl)
  ·rintro ⟨k,q⟩ ⟨hk,hi⟩
   dsimp only at hk hi
   by_cases hk2:k<l.length
   ·have h11:=f11T (G:=G) hi (by omega) (l.getD k ac0) (hs _ (getD_mem hk2))
    have hi2:=do_inv hi (l.getD k ac0)
    revert h11 hi2
    generalize doR q (l.getD k ac0)=r
    obtain ⟨⟨l1,j,e⟩,q1⟩:=r
    intro h11 hi2
    dsimp only at h11 hi2
    refine walkK (orc:=orc6c q q1 l1 j e) (keep:=[]) (cuts:=[13]) (n:=1000) follows ?_
    refine of_rd (fun ZT ZW ZQ _ ZA _=>((((decide ((↑k:Int)<↑l.length))=true)→(((0≤(↑k:Int))∧((↑k:Int)<↑l.length))∧FnM Tryz.prog G 11 [(.box 1000000 0),(.d (.agg [(di (l.getD (↑k:Int).toNat ac0).kd),(di (l.getD (↑k:Int).toNat ac0).tk),(di (l.getD (↑k:Int).toNat ac0).nu),(ds (l.getD (↑k:Int).toNat ac0).j.st),(ds (l.getD (↑k:Int).toNat ac0).j.ex),(di (l.getD (↑k:Int).toNat ac0).j.no),(di (l.getD (↑k:Int).toNat ac0).j.ve),(di (l.getD (↑k:Int).toNat ac0).j.pr),(ds (l.getD (↑k:Int).toNat ac0).wk)]))] [(1000000,[(vi q.ll),(vi q.lt),(vi q.lp),(vi q.ls),(vi q.tick),(vi q.arr),(vi q.num),(.vec 1000001 8 0 q.W.length),(.vec 1000002 11 0 q.L.length),(.vec 1000003 5 0 q.D.length),(.mapv 1000004)]),(1000001,[(.arr ⟨true,39,false,none⟩ 8 (wtF q.W))]),(1000002,[(.arr ⟨true,41,false,none⟩ 11 (lsF q.L))]),(1000003,[(.arr ⟨true,35,false,none⟩ 5 (jbF q.D))]),(1000004,[(.mp none (svF q.sv) q.has)])] (.d (.tup [(.agg [(di l1.no),(di l1.un),(ds l1.wk),(ds l1.w.j.st),(ds l1.w.j.ex),(di l1.w.j.no),(di l1.w.j.ve),(di l1.w.j.pr),(di l1.w.tr),(di l1.w.ar),(di l1.w.fr)]),(.agg [(ds j.st),(ds j.ex),(di j.no),(di j.ve),(di j.pr)]),(di e)])) [(1000000,[(vi q1.ll),(vi q1.lt),(vi q1.lp),(vi q1.ls),(vi q1.tick),(vi q1.arr),(vi q1.num),(.vec 901 8 0 q1.W.length),(.vec 902 11 0 q1.L.length),(.vec 903 5 0 q1.D.length),(.mapv 1000004)]),(901,[(.arr ⟨true,39,false,none⟩ 8 (wtF q1.W))]),(902,[(.arr ⟨true,41,false,none⟩ 11 (lsF q1.L))]),(903,[(.arr ⟨true,35,false,none⟩ 5 (jbF q1.D))]),(1000004,[(.mp none (svF q1.sv) q1.has)])]∧(I64 (↑k+1))∧(ZA (stS ZT [0]))))∧(((decide ((↑k:Int)<↑l.length))=false)→ZW [cd Tryz.f6 [1,1,1,1,1,1]] (stS ZT [1]) ZQ))) (by kernel_rfl) ?_
    refine⟨fun _=>⟨⟨by omega,by omega⟩,h11,⟨by omega,by omega⟩,?_⟩,fun h=>absurd (of_decide_eq_false h) (by omega)⟩
    refine Again.mkR [(61901,901),(61902,902),(61903,903)] rfl (k+1,q1) ?_ ⟨hk2,hi2⟩ (by show l.length-(k+1)<l.length-k;omega)
    exact AS.leA (by kernel_rfl)
   ·obtain rfl:k=l.length:=by omega
    show AWP _ _ _ (S6 0 0 0 0 l x q 901 902 903 l.length) _
    refine walkK (orc:=noO) (keep:=[]) (cuts:=[10,13]) (n:=1000) follows ?_
    refine of_rd (fun ZT ZW ZQ _ _ ZR=>((((decide ((↑l.length:Int)<↑l.length))=true)→ZW [cd Tryz.f6 [1,1,1,1,1,0,1,0,0,1,1,0,0],(.blk 1),cd Tryz.f6 [1,1,1,1,1,0,1,0,0,1,1,1]] (stS ZT [0]) ZR)∧(((decide ((↑l.length:Int)<↑l.length))=false)→ZW [cd Tryz.f6 [1,1,1,1,1,1]] (stS ZT [1]) ZQ))) (by kernel_rfl) ?_
    refine⟨fun h=>absurd (of_decide_eq_true h) (by omega),fun _=>?_⟩
    refine AWP.weaken (st':=S6 0 0 0 0 l x q 901 902 903 l.length) ?_ ?_
    ·exact AS.leA (by kernel_rfl)
    exact f6_end l x q hsx (by omega) (by omega) (by omega) hi
 ·refine walkK (orc:=orc6a true true) (keep:=[]) (cuts:=[]) (n:=1000) follows ?_
  refine of_tr (fun ZT ZW ZQ ZK=>(ZK 10 [(.agg [(di a),(di b),(di c0),(di d)])] (.tup [(.con (.pointer none)),(di 1)])∧((true=true)→(ZS ((db true):DV)))∧((true=false)→ZW [cd Tryz.f6 [1,1,1,1,1,0,1,0],(.blk 0),cd Tryz.f6 [1,1,1,1,1,1]] (stS ZT [1]) ZQ))) (by kernel_rfl) ?_
  exact⟨f10_no a b c0 d (by simpa using hn),fun _=>rfl,fun c=>(by cases c)⟩
theorem f6 (a b c0 d:Int) (l:List Ac) (x:Ac) (hl:l.length≤9223372036854775807):FnOK Tryz.prog G 6 [lmD a b c0 d,acsD l,acD x] (db true):=by
 cases h:fewA l 40 with
 | false=>exact f6_no a b c0 d l x hl h
 | true=>exact f6_yes a b c0 d l x hl h
end Go.Proofs
