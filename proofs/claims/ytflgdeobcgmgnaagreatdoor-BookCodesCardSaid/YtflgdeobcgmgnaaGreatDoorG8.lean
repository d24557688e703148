import Derived.Test.YtflgdeobcgmgnaaGreatDoorAcD
import Derived.Test.YtflgdeobcgmgnaaGreatDoorAcE
import Derived.Test.YtflgdeobcgmgnaaGreatDoorG7
import Derived.Test.YtflgdeobcgmgnaaGreatDoorG6
import Derived.Test.YtflgdeobcgmgnaaGreatDoorG0
import Derived.Test.YtflgdeobcgmgnaaGreatDoorG5
set_option autoImplicit false
set_option maxHeartbeats 4000000
set_option maxRecDepth 100000
namespace Go.Proofs
open Go Go.Ab Go.RowKit
variable {G:IH} {w:World}
theorem yX (d:ByteArray):jQ d=if fF d=true then 0 else 11:=rfl
theorem Vx (hT:Tab G) (hE:Errs G) {D:ByteArray} {w0 w:World} {hh:IH} {on:Nat→Prop} {β1 β:Nat→Nat} {V:Nat→Option Addr×Nat} {bj:Bk} {j:Nat} (hE0:kJ D.data.toList=0) (hD:D.size≤8000) (q:Di (aW D.data.toList) w0 G j hh on β1 β V bj w) (hlen:(aW D.data.toList).length≤1000000) {a:Act} (g:aN hh ⟨on,β1⟩ w hh (y8 D (aW D.data.toList) (dD β) j) β1 hh a.tmps w) (hd:a.defers=[]) :
  wpS Tryz.prog P6 (AQ D (aW D.data.toList) w0 G ((aW D.data.toList).length-j)) .normal a w:=by
 have hsm:=CQ (X:=D.data.toList) (by rw[dZ];exact hD) j
 have VJ:au Tryz.prog hh 40 [ds (bn (aW D.data.toList) j)] (.aC [fQ (aX (bn (aW D.data.toList) j)),di (jQ (bn (aW D.data.toList) j))]):=f40 (fun w hw=>hT w (yN q.ext hw)) (fun w hw=>hE w (yN q.ext hw)) _ hsm
 obtain ⟨e,he⟩:∃e,e=aX (bn (aW D.data.toList) j):=⟨_,rfl⟩
 rw[←he,yX] at VJ
 cases hde:fF (bn (aW D.data.toList) j) with
 | false=>
  rw[hde] at VJ
  have hA:aH Tryz.prog hh ⟨on,β1⟩ w hh P6 (y8 D (aW D.data.toList) (dD β) j) (AQ D (aW D.data.toList) w0 G ((aW D.data.toList).length-j)):=by
   refine dH (aj:=NQ [] 0 e 11 .empty 0) follows (fun _=>none) (cuts:=[]) (n:=1000) ?_
   refine Le ((.agg [(di e.kind),(ds e.k.st),(ds e.k.ex),(di e.k.n),(di e.t),(di e.v),(di e.h),(ds e.s),(db e.acc)]):DV) (bn (aW D.data.toList) (↑j:Int).toNat) (decide ((↑j:Int)<↑(aW D.data.toList).length)) ((.d (.slc 1 (aW D.data.toList).length (nJ (aW D.data.toList)))):AV) (AQ D (aW D.data.toList) w0 G ((aW D.data.toList).length-j)) ((.d (.con (.pointer (some (Addr.mk (β (3*0)) 0 none))))):AV) (fun Za Zb Zc Zd Ze Zf=>(((Zc=true)→(((0≤(↑j:Int))∧((↑j:Int)<↑(aW D.data.toList).length))∧au Tryz.prog hh 40 [(ds Zb)] (.aC [Za,(di 11)])∧((true=true)→aK hh (Fr.mk on β1) w hh Ze .ret ⟨regs 64 [(0,(vs D)),(2,(.box 2 0)),(3,(vi 11)),(6,Zf),(8,(vs Zb)),(9,(.box 9 0)),(10,(vi 11)),(23,Zd),(24,(vi (↑(aW D.data.toList).length))),(25,(vi (↑j))),(26,(vb Zc)),(27,(.d (.ptr [(ds Zb)]))),(28,(vs Zb)),(29,(.d (.aC [Za,(di 11)]))),(30,(vs Zb)),(31,(.d (.aC [Za,(di 11)]))),(32,(.d Za)),(33,(vi 11)),(34,(vi 11)),(35,(vb true)),(36,(vb true)),(41,(vb true)),(42,(.d (.agg [(di 0),bY])))],[(9,fJ e),(2,[(vi 0),(.d bY)])]⟩)∧((true=false)→((I64 (↑j+1))∧aK hh (Fr.mk on β1) w hh Ze .normal ⟨regs 64 [(0,(vs D)),(2,(.box 2 0)),(3,(vi 0)),(6,Zf),(8,(vs Zb)),(9,(.box 9 0)),(10,(vi 11)),(23,Zd),(24,(vi (↑(aW D.data.toList).length))),(25,(vi (↑j+1))),(26,(vb Zc)),(27,(.d (.ptr [(ds Zb)]))),(28,(vs Zb)),(29,(.d (.aC [Za,(di 11)]))),(30,(vs Zb)),(31,(.d (.aC [Za,(di 11)]))),(32,(.d Za)),(33,(vi 11)),(34,(vi 11)),(35,(vb true)),(36,(vb true)),(41,(vb true)),(43,(vi (↑j+1)))],[(9,fJ e),(2,[(vi 0),(.d bY)])]⟩))))∧((Zc=false)→aK hh (Fr.mk on β1) w hh Ze (.exit 0) ⟨regs 64 [(0,(vs D)),(2,(.box 2 0)),(3,(vi 0)),(6,Zf),(23,Zd),(24,(vi (↑(aW D.data.toList).length))),(25,(vi (↑j))),(26,(vb Zc))],[(2,[(vi 0),(.d bY)])]⟩))) (by kernel_rfl) ?_
   try dsimp only
   simp only[gZ]
   refine⟨fun c=>?_,fun c=>Pv hT hE0 q (by have:=of_decide_eq_false c;omega) ?_⟩
   ·have hj:j<(aW D.data.toList).length:=by have:=dW c;omega
    exact⟨⟨by omega,by omega⟩,VJ,fun _=>BZ (P8 q hj (by rw[hde];exact fun ⟨x,_⟩=>by cases x)) (fun c hc=>(q.apart c hc).1) q.kept q.ext q.old rfl,fun c=>(by cases c)⟩
   ·exact AS.bJ (by kernel_rfl)
  exact hA β1 hh a w g hd
 | true=>
  rw[hde] at VJ
  have hA:aH Tryz.prog hh ⟨on,β1⟩ w hh P6 (y8 D (aW D.data.toList) (dD β) j) (AQ D (aW D.data.toList) w0 G ((aW D.data.toList).length-j)):=by
   refine dH (aj:=NQ [] 0 e 0 .empty 0) follows (fun _=>none) (cuts:=[9]) (n:=1000) ?_
   refine QZ ((.agg [(di e.kind),(ds e.k.st),(ds e.k.ex),(di e.k.n),(di e.t),(di e.v),(di e.h),(ds e.s),(db e.acc)]):DV) (bn (aW D.data.toList) (↑j:Int).toNat) (decide ((↑j:Int)<↑(aW D.data.toList).length)) (fun Za Zb Zc=>(((Zc=true)→(((0≤(↑j:Int))∧((↑j:Int)<↑(aW D.data.toList).length))∧au Tryz.prog hh 40 [(ds Zb)] (.aC [Za,(di 0)])∧aH Tryz.prog hh (Fr.mk on β1) w hh [cd Tryz.f42 [1,1,1,1,0,1,0,0,1,1,0,0,1,1],(.blk 1),cd Tryz.f42 [1,1,1,1,0,1,0,0,1,1,1]] ⟨regs 64 [(0,(vs D)),(2,(.box 2 0)),(3,(vi 0)),(6,(.d (.con (.pointer (some (Addr.mk (β (3*0)) 0 none)))))),(8,(vs Zb)),(9,(.box 9 0)),(10,(vi 0)),(23,(.d (.slc 1 (aW D.data.toList).length (nJ (aW D.data.toList))))),(24,(vi (↑(aW D.data.toList).length))),(25,(vi (↑j))),(26,(vb Zc)),(27,(.d (.ptr [(ds Zb)]))),(28,(vs Zb)),(29,(.d (.aC [Za,(di 0)]))),(30,(vs Zb)),(31,(.d (.aC [Za,(di 0)]))),(32,(.d Za)),(33,(vi 0))],[(9,fJ e),(2,[(vi 0),(.d bY)])]⟩ (AQ D (aW D.data.toList) w0 G ((aW D.data.toList).length-j))))∧((Zc=false)→aK hh (Fr.mk on β1) w hh (AQ D (aW D.data.toList) w0 G ((aW D.data.toList).length-j)) (.exit 0) ⟨regs 64 [(0,(vs D)),(2,(.box 2 0)),(3,(vi 0)),(6,(.d (.con (.pointer (some (Addr.mk (β (3*0)) 0 none)))))),(23,(.d (.slc 1 (aW D.data.toList).length (nJ (aW D.data.toList))))),(24,(vi (↑(aW D.data.toList).length))),(25,(vi (↑j))),(26,(vb Zc))],[(2,[(vi 0),(.d bY)])]⟩))) (by kernel_rfl) ?_
   try dsimp only
   simp only[gZ]
   refine⟨fun c=>?_,fun c=>Pv hT hE0 q (by have:=of_decide_eq_false c;omega) ?_⟩
   ·have hj:j<(aW D.data.toList).length:=by have:=dW c;omega
    refine⟨⟨by omega,by omega⟩,VJ,?_⟩
    refine aH.weaken (st':=adJ D (aW D.data.toList) (dD β) j e) ?_ ?_
    ·exact AS.bJ (by kernel_rfl)
    refine aH.seq (a:=aU (ak Tryz.f42) [1,1,1,1,0,1,0,0,1,1,0,0,1,1,0]) (b:=aU (ak Tryz.f42) [1,1,1,1,0,1,0,0,1,1,0,0,1,1,1]) (by kernel_rfl) ?_
    refine aH.qc (aj:={ d:=bU }) follows (fun _=>none) 5 (by kernel_rfl) ?_
    refine iZ (opsOf (aU (ak Tryz.f42) [1, 1, 1, 1, 0, 1, 0, 0, 1, 1, 0, 0, 1, 1, 0])) (fun Za => aK hh (Fr.mk on β1) w hh (iQ Tryz.prog Za.toList 5 (Za.toList.length - 5) (wpS Tryz.prog [It.code (aU (ak Tryz.f42) [1, 1, 1, 1, 0, 1, 0, 0, 1, 1, 0, 0, 1, 1, 1]), It.blk 1, It.code (Code.region 11 #[Oper.mk (some 43) (Op.binOp BinOp.add 3 (Operand.tmp 25) (Operand.const (Value.int IntKind.i64 1)) 3) 3 "book.go:289" #[] none, Oper.mk (some 25) (Op.move (Operand.tmp 43)) 3 "book.go:289" #[Edge.mk 0 Ground.data] none] false)] (AQ D (aW D.data.toList) w0 G ((aW D.data.toList).length - j)))) .normal ⟨regs 64 [(0, (vs D)), (2, (.box 2 0)), (3, (vi 0)), (6, (.d (.con (.pointer (some (Addr.mk (β (3 * 0)) 0 none)))))), (9, (.box 9 0)), (10, (vi 0)), (23, (.d (.slc 1 (aW D.data.toList).length (nJ (aW D.data.toList))))), (24, (vi (↑(aW D.data.toList).length))), (25, (vi (↑j))), (34, (vi 0)), (35, (vb false)), (36, (vb false)), (37, (.gate 36 false true (.d (.con (.pointer (some (Addr.mk (β (3 * 0)) 0 none))))))), (38, (.gate 36 false true (.d (.agg [(di e.kind), (ds e.k.st), (ds e.k.ex), (di e.k.n), (di e.t), (di e.v), (di e.h), (ds e.s), (db e.acc)]))))], [(9, [(vi e.kind), (vs e.k.st), (vs e.k.ex), (vi e.k.n), (vi e.t), (vi e.v), (vi e.h), (vs e.s), (vb e.acc)]), (2, [(vi 0), (.d bY)])]⟩) (by kernel_rfl) ?_
    intro β3 h3 a3 w3 g3 hd3
    have g4:=g3.weaken (st':=Xg D (aW D.data.toList) (dD β) j e) (by refine AS.leZ [] [] (b:=((T0∧T0∧T0∧T0∧T0∧T0∧T0∧T0∧T0∧T0∧True)∧T0∧True)) (by kernel_rfl) (by kernel_rfl) ?_;exact⟨⟨rfl,rfl,rfl,rfl,rfl,rfl,rfl,rfl,rfl,rfl,trivial⟩,rfl,trivial⟩)
    exact(WE q hj hlen hde he) _ _ _ _ g4 hd3
   ·exact AS.bJ (by kernel_rfl)
  exact hA β1 hh a w g hd
theorem abA (hT:Tab G) (hE:Errs G) (D:ByteArray) (hD:D.size≤8000) (hw:G.holds w) {u:Value} (hu:DV.rel G (ds D) u):Calls Tryz.prog 42 #[u] w fun r w'=>∃v,r=.returned v∧Eb D w G v w':=by
 have g:=aN.bare (G:=G) (rs:=[.d (ds D)]) (β:=fun _=>0) (tm:=#[u]) (IH.le.refl G) hw rfl (fun t x hx=>by
  rcases t with _|t
  ·simp at hx;subst hx;exact⟨_,rfl,hu⟩
  ·simp at hx) (fun _=>False)
 refine Calls.Af Tryz.func42 rfl g ?_
 refine dH (aj:=NQ (aW D.data.toList) (kJ D.data.toList) ev0 0 .empty 0) follows (fun _=>none) (cuts:=[6]) (n:=1000) ?_
 refine iZ ((.slc 1 (aW D.data.toList).length (nJ (aW D.data.toList))):DV) (fun Za=>(au Tryz.prog G 69 [(ds D)] (.aC [Za,(di (kJ D.data.toList))])∧(((kJ D.data.toList != 0)=true)→aK G (Fr.mk (fun x=>False) fun x=>0) w G (aO Tryz.prog Tryz.f42 (Eb D w G)) .ret ⟨regs 64 [(0,(vs D)),(2,(.box 2 0)),(3,(vi 11)),(4,(.d Za)),(5,(vi (kJ D.data.toList))),(13,(.d (.aC [Za,(di (kJ D.data.toList))]))),(14,(vs D)),(15,(.d (.aC [Za,(di (kJ D.data.toList))]))),(16,(.d Za)),(17,(vi (kJ D.data.toList))),(18,(vi (kJ D.data.toList))),(19,(vb (kJ D.data.toList != 0))),(20,(.d (.agg [(di 0),bY])))],[(2,[(vi 0),(.d bY)])]⟩)∧(((kJ D.data.toList != 0)=false)→aH Tryz.prog G (Fr.mk (fun x=>False) fun x=>0) w G [cd Tryz.f42 [1,1,1,1,0,1,0],(.blk 0),cd Tryz.f42 [1,1,1,1,1]] ⟨regs 64 [(0,(vs D)),(2,(.box 2 0)),(3,(vi 0)),(4,(.d Za)),(5,(vi (kJ D.data.toList))),(6,(.box 22 0)),(13,(.d (.aC [Za,(di (kJ D.data.toList))]))),(14,(vs D)),(15,(.d (.aC [Za,(di (kJ D.data.toList))]))),(16,(.d Za)),(17,(vi (kJ D.data.toList))),(18,(vi (kJ D.data.toList))),(19,(vb (kJ D.data.toList != 0))),(21,(.d (.agg [(di 0),bY]))),(22,(.box 22 0)),(23,(.d Za)),(24,(vi (↑(aW D.data.toList).length))),(25,(vi 0))],[(22,[(vi 0),(.d bY)]),(2,[(vi 0),(.d bY)])]⟩ (aO Tryz.prog Tryz.f42 (Eb D w G))))) (by kernel_rfl) ?_
 refine⟨f69 hT hE D hD,fun c=>?_,fun c=>?_⟩
 ·have c:kJ D.data.toList≠0:=by simpa using c
  have hno:qY D=false:=by
   unfold qY
   rw[decide_eq_false c,Bool.false_and]
  exact BZ hno (fun c hc=>hc.elim) (Kept.refl _ _) (IH.le.refl _) (fun c _=>⟨fun _=>rfl,rfl⟩) rfl
 have hE0:kJ D.data.toList=0:=by simpa using c
 have hlen:(aW D.data.toList).length≤1000000:=by
  unfold aW
  cases hu:uM D.data.toList with
  | none=>exact Nat.zero_le _
  | some l=>
   have h1:=rV l
   rw[Iy hu,dZ] at h1
   show l.length≤_
   omega
 refine aH.weaken (st':=OX D (aW D.data.toList)) ?_ ?_
 ·exact AS.bJ (by kernel_rfl)
 intro β1 h1 a w1 g1 hd
 have P9:(OX D (aW D.data.toList)).box 22=some [.d (di 0),.d (.con (.slice none 0 0))]:=rfl
 have hb1:(OX D (aW D.data.toList)).box 2=some [.d (di 0),.d (.con (.slice none 0 0))]:=rfl
 obtain ⟨q1,⟨⟨T,hT'⟩,vs,ho,v0,vs1,rfl,r0,v1,vs2,rfl,r1,r2⟩⟩:=g1.box 22 _ P9
 have r2:vs2=[]:=r2
 have r0:v0=.int .i64 0:=r0
 have r1:v1=.slice none 0 0:=r1
 subst r2 r0 r1
 have hT':T=room β1 22:=hT'
 subst hT'
 obtain ⟨q2,q3⟩:=q1 trivial
 have q2:w.heap.size≤blk β1 22:=q2.resolve_left id
 have hB:=bP.fresh g1.holds ho q3
 have hne:blk β1 2≠blk β1 22:=fun hq=>absurd (g1.inj 2 22 _ _ hb1 P9 trivial trivial hq) (by decide)
 have n1:w.heap.size≤blk β1 2:=((g1.box 2 _ hb1).1 trivial).1.resolve_left id
 have hBl:∀c,gy (upd (fun _=>0) 0 (blk β1 22) (room β1 22) 0) eP.es.length c→c=blk β1 22:=by
  rintro c ⟨s,s1,s2,s3⟩
  have hs:s<2:=s1
  have:s=0∨s=1:=by omega
  rcases this with rfl|rfl
  ·rw[aQ] at s3;exact s3.symm
  ·rcases s2 with s2|s2
   ·cases s2
   ·rw[bI (by decide)] at s2;cases s2
 obtain ⟨v3,hv3,hr3⟩:=g1.regs 6 (.box 22 0) rfl
 have hr3:v3=.pointer (some ⟨blk β1 22,0,none⟩):=hr3
 subst hr3
 have hp0:dD (upd (fun _=>0) 0 (blk β1 22) (room β1 22) 0)=.pointer (some ⟨blk β1 22,0,none⟩):=by
  show Value.pointer _=Value.pointer _
  rw[aQ]
 have g2:=(O7 (rs:=(OX D (aW D.data.toList)).regs) (bs:=(OX D (aW D.data.toList)).boxes) g1 hv3).weaken (st':=y8 D (aW D.data.toList) (dD (upd (fun _=>0) 0 (blk β1 22) (room β1 22) 0)) 0) (by
  rw[hp0]
  exact AS.bJ (by kernel_rfl))
 have g3:=fG g2
 have hlz:∀s l,Go.Ab.look [(2,[AV.d (di 0),.d (.con (.slice none 0 0))])] s=some l→s=2:=by
  intro s l hl
  simp only[Go.Ab.look] at hl
  by_cases e2:(2:Nat)=s
  ·exact e2.symm
  ·rw[aP e2,cond_false] at hl;cases hl
 have hkk:Kept (fun _=>False) w w1:=g1.kept
 refine yD (c:=aU (ak Tryz.f42) [1,1,1,1,0,1,0,0]) (by kernel_rfl) (I42 D (aW D.data.toList) w G) ((aW D.data.toList).length-0) ⟨0,h1,_,β1,_,_,eP,rfl,⟨Nat.zero_le _,hB,?_,fun c hc=>by rw[hBl c hc];exact q2,hkk,rfl,F9,fun i hi=>(by cases hi),Lc,g1.glob,fun c hlt=>g1.old c hlt id⟩,g3,hd⟩ ?_
 ·rintro c ⟨s,l,hl,_,rfl⟩
  rw[hlz s l hl]
  exact⟨n1,fun hc=>hne (hBl _ hc)⟩
 ·rintro n a2 w2 ⟨j,hh,on,β2,β,V,bj,rfl,q,g,hd2⟩
  exact Vx hT hE hE0 hD q hlen g hd2
theorem f42 (hT:Tab G) (hE:Errs G) (D:ByteArray) (hD:D.size≤8000):au Tryz.prog G 42 [ds D] (.aC [eY (nX D),di (qW D)]):=by
 refine⟨Tryz.call42,fun w h vs hG hw hr=>?_⟩
 obtain ⟨u,vs1,rfl,r,hn⟩:=hr
 have hn:vs1=[]:=hn
 subst hn
 refine(abA (G:=h) (fun w hw=>hT w (yN hG hw)) (fun w hw=>hE w (yN hG hw)) D hD hw r).mono ?_
 rintro _ w' ⟨v,rfl,u',k,rfl,hu,hle,hkw,hk,hold⟩
 exact⟨_,k,rfl,⟨_,rfl,_,_,rfl,hu,_,_,rfl,rfl,rfl⟩,hle,hkw,hk,hold⟩
end Go.Proofs
namespace Go.Proofs
open Go Go.Ab Go.RowKit
theorem wM {n:Int} (h0:0≤n) (h1:n<1000000000000000000):dJ (bs (Lib.itoa n))=n:=by
 obtain ⟨k,rfl⟩:=Int.eq_ofNat_of_zero_le h0
 obtain ⟨d1,d2,d3,_⟩:=oV k
 have dl:=oZ 17 k (by omega)
 unfold dJ
 rw[jc,nM,GI d3 d1 (by omega),d2]
theorem QN {e:Ev} (h:aS e=true):(0≤e.kind∧e.kind≤3)∧(0≤e.k.n∧e.k.n≤16)∧(0≤e.t∧e.t≤1099511627776)∧(0≤e.v∧e.v≤1048576)∧(0≤e.h∧e.h≤100000000):=by
 unfold aS Bh at h
 simp only[aV,eF] at h
 obtain ⟨h1,h2,⟨_,_,h3,h4⟩,h5,h6,h7,h8⟩:=h
 refine⟨⟨h1,h2⟩,⟨by omega,h4⟩,⟨h5,h6⟩,?_⟩
 by_cases c:e.kind=1
 ·rw[if_pos c] at h8
  simp only[aV,eF] at h8
  obtain ⟨a1,a2,a3,a4,_⟩:=h8
  exact⟨⟨by omega,a2⟩,⟨a3,a4⟩⟩
 ·rw[if_neg c] at h8
  simp only[aV,eF] at h8
  obtain ⟨a1,a2,_⟩:=h8
  rw[a1,a2]
  exact⟨⟨by decide,by decide⟩,⟨by decide,by decide⟩⟩
theorem II {e:Ev} (h:aS e=true):sJ (gW e)=e:=by
 obtain ⟨⟨a1,a2⟩,⟨b1,b2⟩,⟨c1,c2⟩,⟨d1,d2⟩,⟨e1,e2⟩⟩:=QN h
 have hacc:decide ((bif e.acc then (⟨#[49]⟩:ByteArray) else ⟨#[48]⟩)=⟨#[49]⟩)=e.acc:=by
  cases e.acc<;>decide
 show (⟨dJ (bs (Lib.itoa e.kind)),⟨e.k.st,e.k.ex,dJ (bs (Lib.itoa e.k.n))⟩,dJ (bs (Lib.itoa e.t)),dJ (bs (Lib.itoa e.v)),dJ (bs (Lib.itoa e.h)),e.s,decide ((bif e.acc then (⟨#[49]⟩:ByteArray) else ⟨#[48]⟩)=⟨#[49]⟩)⟩:Ev)=e
 rw[wM a1 (by omega),wM b1 (by omega),wM c1 (by omega),wM d1 (by omega),wM e1 (by omega),hacc]
theorem Rz {l:List ByteArray} (h:(aT l).length≤900000):aW (aT l)=l∧kJ (aT l)=0:=by
 unfold aW kJ
 rw[Hy h]
 exact⟨rfl,rfl⟩
theorem Yt {e:Ev} (h:aS e=true):fF (encS e)=true∧aX (encS e)=e:=by
 obtain ⟨e0,eS,eL⟩:=yP h
 have hb:(encS e).data.toList=aT (gW e):=by rw[eS,jc]
 obtain ⟨u1,u2⟩:=Rz (l:=gW e) (by omega)
 have hd:fF (encS e)=true:=by
  unfold fF
  rw[hb,u1,u2,II h,e0]
  simp[gW]
 refine⟨hd,?_⟩
 unfold aX
 rw[if_pos hd,hb,u1,II h]
end Go.Proofs
namespace Go.Proofs
open Go Go.Ab
theorem head_take {X:List UInt8} {k:Nat} (hk:0<k):(X.take k).head?=X[0]?:=by
 cases X with
 | nil=>simp
 | cons a X=>cases k with
  | zero=>omega
  | succ k=>rfl
theorem UZ {X:List UInt8} {k:Nat} (hk0:0<k) (hk:k<X.length) (h:X[k]=58) (hd:∀c∈X.take k,yK c) (hz:1<k→∀c,X[0]?=some c→c.toNat≠48) (hv:fH (X.take k)+k+1≤X.length) :
  X=dn (bs ((X.drop (k+1)).take (fH (X.take k))))++X.drop (k+1+fH (X.take k)):=by
 have hl:(X.take k).length=k:=by rw[List.length_take];omega
 have hi:Lib.decDigits (fH (X.take k))=X.take k:=by
  refine MV (fun e=>?_) hd fun h1=>?_
  ·rw[e] at hl;simp at hl;omega
  ·rw[head_take hk0];exact hz (by omega)
 unfold dn
 rw[dR,List.length_take,List.length_drop,show min (fH (X.take k)) (X.length-(k+1))=fH (X.take k) by omega,nM,hi,jc,←List.drop_drop (i:=fH (X.take k)) (j:=k+1),List.append_assoc,List.append_assoc,List.take_append_drop,List.singleton_append]
 have e:X.drop k=58 :: X.drop (k+1):=by rw[List.drop_eq_getElem_cons hk,h]
 rw[←e,List.take_append_drop]
theorem Vm {f:ByteArray} {R:List UInt8} {k:Nat} (hf:f.size≤90000) (hk:k≤(dn f++R).length) (hd:∀c∈(dn f++R).take k,yK c) (hstop:k=(dn f++R).length∨k=6∨∃h:k<(dn f++R).length,¬yK (dn f++R)[k]) :
  0<k∧k<(dn f++R).length∧(dn f++R)[k]?=some 58∧(1<k→∀c,(dn f++R)[0]?=some c→c.toNat≠48)∧fH ((dn f++R).take k)+k+1≤(dn f++R).length:=by
 obtain ⟨d1,d2,d3,d4,_⟩:=oV f.size
 have dl:=oZ 4 f.size (by omega)
 have dp:=List.length_pos_iff.2 d3
 have hX:dn f++R=Lib.decDigits f.size++(58 :: (f.data.toList++R)):=by
  unfold dn;rw[nM];simp only[List.append_assoc,List.cons_append,List.nil_append]
 have hl:(dn f++R).length=(Lib.decDigits f.size).length+1+f.size+R.length:=by
  rw[List.length_append,jf,nM]
 have hc:(dn f++R)[(Lib.decDigits f.size).length]?=some 58:=by
  rw[hX,List.getElem?_append_right (Nat.le_refl _),Nat.sub_self];rfl
 have hk2:k=(Lib.decDigits f.size).length:=by
  rcases Nat.lt_trichotomy k (Lib.decDigits f.size).length with h|h|h
  ·exfalso
   rcases hstop with h2|h2|⟨h2,h3⟩
   ·omega
   ·omega
   ·apply h3
    have e:(dn f++R)[k]?=some ((Lib.decDigits f.size)[k]):=by
     rw[hX,List.getElem?_append_left h,iy h]
    rw[iy h2] at e
    injection e with e
    rw[e]
    exact d1 _ (List.getElem_mem h)
  ·exact h
  ·exfalso
   have X8:yK 58:=by
    refine hd 58 ?_
    refine List.mem_of_getElem? (i:=(Lib.decDigits f.size).length) ?_
    rw[List.getElem?_take,if_pos h,hc]
   exact absurd X8.2 (by decide)
 subst hk2
 have ht:(dn f++R).take (Lib.decDigits f.size).length=Lib.decDigits f.size:=by rw[hX,List.take_left' rfl]
 refine⟨dp,by omega,hc,fun h c hc0=>?_,by rw[ht,d2];omega⟩
 refine d4 h c ?_
 rw[←ht,head_take dp];exact hc0
end Go.Proofs
namespace Go.Proofs
open Go Go.Ab
variable {G:IH}
theorem AZ (n:Nat) (h:n<256):IntKind.wrap .u8 (n:Int)=n:=IntWalk.u8_in n ⟨by omega,by omega⟩
theorem LV (v:Int) (c:UInt8) (hv:v=c.toNat):bytesOf 1 (aY false 1 [.con (.int .u8 v)])=[c]:=by
 subst hv
 show [UInt8.ofNat (c.toNat:Int).toNat]=[c]
 simp
theorem Gn (v:Int) (c:UInt8) (hv:v=c.toNat):BytesAt 1 (aY false 1 [.con (.int .u8 v)]):=by
 subst hv
 intro i hi
 obtain rfl:i=0:=by omega
 rfl
def Ai (n:Nat):List UInt8:=if h:n=0 then [] else Ai (n / 10)++[UInt8.ofNat (48+n % 10)]
termination_by n
decreasing_by omega
def decP (n:Nat):List UInt8:=if n=0 then [48] else Ai n
theorem zY:Ai 0=[]:=by rw[Ai];rfl
theorem CY {n:Nat} (h:n≠0):Ai n=Ai (n / 10)++[UInt8.ofNat (48+n % 10)]:=by rw[Ai,dif_neg h]
theorem LJ (n:Nat):Ai (n / 10)++[UInt8.ofNat (48+n % 10)]=decP n:=by
 unfold decP
 split
 ·rename_i h;subst h;rw[show 0 / 10=0 from rfl,zY];rfl
 ·rename_i h;rw[CY h]
theorem zI (n:Nat):decP n=Lib.itoa (n:Int):=by
 have key:∀n:Nat,n≠0→Ai n=Lib.decDigits n:=by
  intro n
  induction n using Nat.strongRecOn with
  | _ n ih=>
   intro hn
   rw[CY hn,Lib.decDigits]
   by_cases h:n<10
   ·rw[dif_pos h]
    have e:n / 10=0:=by omega
    rw[e,zY,Nat.mod_eq_of_lt h];rfl
   ·rw[dif_neg h,ih (n / 10) (by omega) (by omega)]
 rw[nM]
 unfold decP
 by_cases h:n=0
 ·subst h;rw[if_pos rfl,Lib.decDigits];rfl
 ·rw[if_neg h,key n h]
def Z7 (n:Nat) (x:Nat×List UInt8):Prop:=x.1≤n∧((x.2=[]∧x.1=n)∨(x.2≠[]∧Ai x.1++x.2=decP n))
def Um (x:Nat×List UInt8):Nat:=2*x.1+(if x.2=[] then 1 else 0)
noncomputable def S93 (x:Nat×List UInt8):AS:=⟨regs Tryz.f93.ntmps [(0,vi x.1),(3,vs (bs x.2))],[]⟩
theorem adk (n:Nat) (hn:n≤9223372036854775807):au Tryz.prog G 93 [di n] (ds (bs (decP n))):=by
 have hP:(decP n).length≤21:=by rw[zI];exact iR _ ⟨by omega,by omega⟩
 refine au.walk (aj:={ d:=bU }) (keep:=[]) follows Tryz.func93 rfl Tryz.call93 ?_
 refine aJ (fun ZT ZW ZQ _=>ZW [cd Tryz.f93 [1,1,0,0],(.blk 0),cd Tryz.f93 [1,1,1]] (aI ZT []) ZQ) (by kernel_rfl) ?_
 refine bK.loop (c:=aU (ak Tryz.f93) [1,1,0,0,0]) (by kernel_rfl) S93 (Z7 n) Um (n,[]) ?_ ⟨Nat.le_refl _,.inl ⟨rfl,rfl⟩⟩ ?_
 ·refine AS.leZ [1] [] (b:=((T0∧((vs (ByteArray.mk #[])):AV)=(vs (bs []))∧True)∧True)) (by kernel_rfl) (by kernel_rfl) ?_
  exact⟨⟨rfl,rfl,trivial⟩,trivial⟩
 ·rintro ⟨m,l⟩ ⟨hm,hI⟩
  simp only at hm hI
  refine dI (aj:={ d:=bU }) ?_
  refine bD (fun ZT ZW ZQ _ ZA _=>(((((bs l).toList==(ByteArray.mk #[]).toList||decide ((↑m:Int)>0))=true)→(((I64 (48+((↑m:Int)).tmod 10))∧BytesAt 1 (aY false 1 [(.con (.int .u8 (IntKind.u8.wrap (48+((↑m:Int)).tmod 10))))])∧((ByteArray.mk (bytesOf 1 (aY false 1 [DV.con (Value.int IntKind.u8 (IntKind.u8.wrap (48+((↑m:Int)).tmod 10)))])).toArray).size+(bs l).size≤9223372036854775807))∧(MP ↑m)∧(ZA (aI ZT [0]))))∧((((bs l).toList==(ByteArray.mk #[]).toList||decide ((↑m:Int)>0))=false)→ZW [cd Tryz.f93 [1,1,1]] (aI ZT [1]) ZQ))) (by kernel_rfl) ?_
  have hll:l.length≤21:=by
   rcases hI with ⟨rfl,_⟩|⟨_,hI⟩
   ·exact Nat.zero_le _
   ·rw[←hI,List.length_append] at hP;omega
  have el:(ByteArray.toList (bs l)==ByteArray.toList { data:=#[] })=decide (l=[]):=by
   rw[Bool.eq_iff_iff,beq_iff_eq,eF,toList_inj]
   constructor
   ·intro h
    have:=congrArg ByteArray.size h
    rw[dR] at this
    exact List.length_eq_zero_iff.1 this
   ·rintro rfl;rfl
  rw[el]
  refine⟨fun h=>?_,fun h=>?_⟩
  ·have h2:m % 10<10:=Nat.mod_lt _ (by decide)
   have e:(48:Int)+Int.tmod (m:Int) 10=((48+m % 10:Nat):Int):=by push_cast;rfl
   rw[e,AZ _ (by omega)]
   have e5:((48+m % 10:Nat):Int)=((UInt8.ofNat (48+m % 10)).toNat:Int):=by
    simp only[UInt8.toNat_ofNat'];omega
   have e4:(⟨(bytesOf 1 (aY false 1 [DV.con (Value.int IntKind.u8 ((48+m % 10:Nat):Int))])).toArray⟩:ByteArray)=bs [UInt8.ofNat (48+m % 10)]:=by rw[LV _ _ e5];rfl
   rw[e4]
   refine⟨⟨⟨by omega,by omega⟩,Gn _ _ e5,?_⟩,⟨by omega,by omega⟩,Again.mk (m / 10,UInt8.ofNat (48+m % 10) :: l) ?_ ⟨by simp only;omega,.inr ⟨by simp,?_⟩⟩ ?_⟩
   ·rw[dR,dR,List.length_singleton];omega
   ·refine AS.leZ [0,1] [] (b:=((((vi (((↑m:Int)).tdiv 10)):AV)=(vi (↑(m / 10)))∧((vs (ByteArray.mk (bytesOf 1 (aY false 1 [DV.con (Value.int IntKind.u8 (IntKind.u8.wrap (48+((↑m:Int)).tmod 10)))])).toArray++bs l)):AV)=(vs (bs (UInt8.ofNat (48+m % 10) :: l)))∧True)∧True)) (by kernel_rfl) (by kernel_rfl) ?_
    rw[e,AZ _ (by omega),e4,wH,List.singleton_append]
    exact⟨⟨rfl,rfl,trivial⟩,trivial⟩
   ·have hp:l=[]∨0<m:=by simpa using h
    simp only
    rcases hI with ⟨rfl,rfl⟩|⟨hl,hI⟩
    ·exact LJ m
    ·have hp:m≠0:=by rcases hp with h|h;exact absurd h hl;omega
     rw[←hI,CY hp,List.append_assoc];rfl
   ·have hp:l=[]∨0<m:=by simpa using h
    simp only[Um]
    rw[if_neg (by simp)]
    rcases hp with rfl|hp
    ·rw[if_pos rfl];omega
    ·omega
  ·have hp:¬l=[]∧m=0:=by simpa using h
   obtain ⟨hl,rfl⟩:=hp
   rcases hI with ⟨h,_⟩|⟨_,hI⟩
   ·exact absurd h hl
   rw[zY,List.nil_append] at hI
   refine dI (aj:={ d:=bU }) ?_
   refine aJ (fun _ _ _ _=>(((ds (bs l)):DV)=(ds (bs (decP n))))) (by kernel_rfl) ?_
   rw[hI]
noncomputable def S68 (x:Nat×List UInt8):AS:=⟨regs Tryz.f68.ntmps [(0,vi x.1),(3,vs (bs x.2))],[]⟩
theorem ac9 (n:Nat) (hn:n≤9223372036854775807):au Tryz.prog G 68 [di n] (ds (bs (decP n))):=by
 have hP:(decP n).length≤21:=by rw[zI];exact iR _ ⟨by omega,by omega⟩
 refine au.walk (aj:={ d:=bU }) (keep:=[]) follows Tryz.func68 rfl Tryz.call68 ?_
 refine aJ (fun ZT ZW ZQ _=>ZW [cd Tryz.f68 [1,1,0,0],(.blk 0),cd Tryz.f68 [1,1,1]] (aI ZT []) ZQ) (by kernel_rfl) ?_
 refine bK.loop (c:=aU (ak Tryz.f68) [1,1,0,0,0]) (by kernel_rfl) S68 (Z7 n) Um (n,[]) ?_ ⟨Nat.le_refl _,.inl ⟨rfl,rfl⟩⟩ ?_
 ·refine AS.leZ [1] [] (b:=((T0∧((vs (ByteArray.mk #[])):AV)=(vs (bs []))∧True)∧True)) (by kernel_rfl) (by kernel_rfl) ?_
  exact⟨⟨rfl,rfl,trivial⟩,trivial⟩
 ·rintro ⟨m,l⟩ ⟨hm,hI⟩
  simp only at hm hI
  refine dI (aj:={ d:=bU }) ?_
  refine bD (fun ZT ZW ZQ _ ZA _=>(((((bs l).toList==(ByteArray.mk #[]).toList||decide ((↑m:Int)>0))=true)→(((I64 (48+((↑m:Int)).tmod 10))∧BytesAt 1 (aY false 1 [(.con (.int .u8 (IntKind.u8.wrap (48+((↑m:Int)).tmod 10))))])∧((ByteArray.mk (bytesOf 1 (aY false 1 [DV.con (Value.int IntKind.u8 (IntKind.u8.wrap (48+((↑m:Int)).tmod 10)))])).toArray).size+(bs l).size≤9223372036854775807))∧(MP ↑m)∧(ZA (aI ZT [0]))))∧((((bs l).toList==(ByteArray.mk #[]).toList||decide ((↑m:Int)>0))=false)→ZW [cd Tryz.f68 [1,1,1]] (aI ZT [1]) ZQ))) (by kernel_rfl) ?_
  have hll:l.length≤21:=by
   rcases hI with ⟨rfl,_⟩|⟨_,hI⟩
   ·exact Nat.zero_le _
   ·rw[←hI,List.length_append] at hP;omega
  have el:(ByteArray.toList (bs l)==ByteArray.toList { data:=#[] })=decide (l=[]):=by
   rw[Bool.eq_iff_iff,beq_iff_eq,eF,toList_inj]
   constructor
   ·intro h
    have:=congrArg ByteArray.size h
    rw[dR] at this
    exact List.length_eq_zero_iff.1 this
   ·rintro rfl;rfl
  rw[el]
  refine⟨fun h=>?_,fun h=>?_⟩
  ·have h2:m % 10<10:=Nat.mod_lt _ (by decide)
   have e:(48:Int)+Int.tmod (m:Int) 10=((48+m % 10:Nat):Int):=by push_cast;rfl
   rw[e,AZ _ (by omega)]
   have e5:((48+m % 10:Nat):Int)=((UInt8.ofNat (48+m % 10)).toNat:Int):=by
    simp only[UInt8.toNat_ofNat'];omega
   have e4:(⟨(bytesOf 1 (aY false 1 [DV.con (Value.int IntKind.u8 ((48+m % 10:Nat):Int))])).toArray⟩:ByteArray)=bs [UInt8.ofNat (48+m % 10)]:=by rw[LV _ _ e5];rfl
   rw[e4]
   refine⟨⟨⟨by omega,by omega⟩,Gn _ _ e5,?_⟩,⟨by omega,by omega⟩,Again.mk (m / 10,UInt8.ofNat (48+m % 10) :: l) ?_ ⟨by simp only;omega,.inr ⟨by simp,?_⟩⟩ ?_⟩
   ·rw[dR,dR,List.length_singleton];omega
   ·refine AS.leZ [0,1] [] (b:=((((vi (((↑m:Int)).tdiv 10)):AV)=(vi (↑(m / 10)))∧((vs (ByteArray.mk (bytesOf 1 (aY false 1 [DV.con (Value.int IntKind.u8 (IntKind.u8.wrap (48+((↑m:Int)).tmod 10)))])).toArray++bs l)):AV)=(vs (bs (UInt8.ofNat (48+m % 10) :: l)))∧True)∧True)) (by kernel_rfl) (by kernel_rfl) ?_
    rw[e,AZ _ (by omega),e4,wH,List.singleton_append]
    exact⟨⟨rfl,rfl,trivial⟩,trivial⟩
   ·have hp:l=[]∨0<m:=by simpa using h
    simp only
    rcases hI with ⟨rfl,rfl⟩|⟨hl,hI⟩
    ·exact LJ m
    ·have hp:m≠0:=by rcases hp with h|h;exact absurd h hl;omega
     rw[←hI,CY hp,List.append_assoc];rfl
   ·have hp:l=[]∨0<m:=by simpa using h
    simp only[Um]
    rw[if_neg (by simp)]
    rcases hp with rfl|hp
    ·rw[if_pos rfl];omega
    ·omega
  ·have hp:¬l=[]∧m=0:=by simpa using h
   obtain ⟨hl,rfl⟩:=hp
   rcases hI with ⟨h,_⟩|⟨_,hI⟩
   ·exact absurd h hl
   rw[zY,List.nil_append] at hI
   refine dI (aj:={ d:=bU }) ?_
   refine aJ (fun _ _ _ _=>(((ds (bs l)):DV)=(ds (bs (decP n))))) (by kernel_rfl) ?_
   rw[hI]
theorem f68 (n:Int) (h0:0≤n) (hn:n≤9223372036854775807):au Tryz.prog G 68 [di n] (ds (bs (Lib.itoa n))):=by
 obtain ⟨m,rfl⟩:=Int.eq_ofNat_of_zero_le h0
 have:=ac9 (G:=G) m (by omega)
 rwa [zI] at this
def V6 (c:UInt8):Bool:=decide (48≤c.toNat)&&decide (c.toNat≤57)
def zG (l:List UInt8):Bool:=decide (l≠[])&&(decide (l.length≤13)&&l.all V6)
def iV (s:ByteArray):Int:=if zG s.data.toList=true then (fH s.data.toList:Int) else -1
theorem IK {c:UInt8}:V6 c=true↔yK c:=by
 unfold V6 yK
 rw[aV,eF,eF]
noncomputable def S73 (s:ByteArray) (k:Nat):AS:=⟨regs Tryz.f73.ntmps [(0,vs s),(2,vi 0),(3,vi (fH (s.data.toList.take k))),(4,vi k)],[]⟩
theorem f73 (s:ByteArray) (hs:s.size≤9223372036854775807):au Tryz.prog G 73 [ds s] (di (iV s)):=by
 refine au.eG Tryz.func73 rfl Tryz.call73 ?_
 refine gV (aj:={ d:=bU }) ?_
 refine aJ (fun ZT ZW ZQ _=>(fun Za=>(((Za=true)→(((di (-1)):DV)=(di (iV s))))∧((Za=false)→ZW [cd Tryz.f73 [1,1,1,0,1,0],(.blk 0),cd Tryz.f73 [1,1,1,1]] (aI ZT [1]) ZQ))) (s.toList==(ByteArray.mk #[]).toList||decide ((↑s.size:Int)>13))) (by kernel_rfl) ?_
 try dsimp only
 simp only[dO]
 have hsl:s.data.toList.length=s.size:=dZ s
 have hnil:s=⟨#[]⟩↔s.data.toList=[]:=by
  constructor
  ·rintro rfl;rfl
  ·intro h;rw[←oK s,h];rfl
 refine⟨fun c=>?_,fun c=>?_⟩
 ·have:zG s.data.toList=false:=by
   unfold zG
   rw[Bool.or_eq_true,eF,eF] at c
   rcases c with c|c
   ·rw[hnil.1 c];rfl
   ·rw[decide_eq_false (show ¬s.data.toList.length≤13 by omega),Bool.false_and,Bool.and_false]
  unfold iV
  rw[this];rfl
 rw[Bool.or_eq_false_iff,decide_eq_false_iff_not,decide_eq_false_iff_not] at c
 obtain ⟨c1,c2⟩:=c
 have c1:s.data.toList≠[]:=fun h=>c1 (hnil.2 h)
 have c2:s.size≤13:=by omega
 refine bK.loop (c:=aU (ak Tryz.f73) [1,1,1,0,1,0,0]) (by kernel_rfl) (fun k:Nat=>S73 s k) (fun k=>k≤s.size∧∀c∈s.data.toList.take k,yK c) (fun k=>s.size-k) 0 ?_ ⟨Nat.zero_le _,fun c hc=>by simp at hc⟩ ?_
 ·exact AS.bJ (by kernel_rfl)
 rintro k ⟨hk,hkd⟩
 have hvl:fH (s.data.toList.take k)<10000000000000:=by
  have h1:=PG _ _ rfl hkd
  have h2:(10:Nat) ^ (s.data.toList.take k).length≤10 ^ 13:=Nat.pow_le_pow_right (by decide) (by rw[List.length_take];omega)
  omega
 by_cases h2:k<s.size
 ·have hks:k<s.data.toList.length:=by omega
  have hb:=oP hks
  refine gV (aj:={ d:=bU }) ?_
  refine bD (fun ZT ZW ZQ _ ZA _=>(fun Za=>((((decide ((↑k:Int)<↑s.size))=true)→((((0≤(↑k:Int))∧((↑k:Int)<↑s.size))∧(((!decide (byteAt s (↑k:Int).toNat<48))=true)→((0≤(↑k:Int))∧((↑k:Int)<↑s.size))))∧((Za=true)→(((di (-1)):DV)=(di (iV s))))∧((Za=false)→(((I64 (10 * ↑(fH (List.take k s.data.toList))))∧((0≤(↑k:Int))∧((↑k:Int)<↑s.size))∧(I64 (10 * ↑(fH (List.take k s.data.toList))+IntKind.i64.wrap (IntKind.u8.wrap (byteAt s (↑k:Int).toNat-48)))))∧(I64 (↑k+1))∧(ZA (aI ZT [0,1]))))))∧(((decide ((↑k:Int)<↑s.size))=false)→ZW [cd Tryz.f73 [1,1,1,1]] (aI ZT [1]) ZQ))) (decide (byteAt s (↑k:Int).toNat<48)||decide (byteAt s (↑k:Int).toNat>57))) (by kernel_rfl) ?_
  try dsimp only
  rw[show ((k:Int)).toNat=k from rfl]
  rw[hb]
  generalize hc:s.data.toList[k]=ch
  have hr:=Ea hks
  rw[hc] at hr
  have hch:ch.toNat<256:=UInt8.toNat_lt ch
  refine⟨fun _=>⟨⟨⟨by omega,by omega⟩,fun _=>⟨by omega,by omega⟩⟩,fun c=>?_,fun c=>?_⟩,fun hd=>absurd (of_decide_eq_false hd) (by omega)⟩
  ·have:zG s.data.toList=false:=by
    unfold zG
    rw[List.all_eq_false.2 ⟨ch,hc▸List.getElem_mem hks,fun h=>?_⟩,Bool.and_false,Bool.and_false]
    obtain ⟨q1,q2⟩:=IK.1 h
    rw[Bool.or_eq_true,eF,eF] at c
    omega
   unfold iV
   rw[this];rfl
  ·rw[Bool.or_eq_false_iff,decide_eq_false_iff_not,decide_eq_false_iff_not] at c
   obtain ⟨q1,q2⟩:=c
   have e1:IntKind.wrap .u8 ((ch.toNat:Int)-48)=((ch.toNat-48:Nat):Int):=by
    rw[show ((ch.toNat:Int)-48)=((ch.toNat-48:Nat):Int) by omega]
    exact AZ _ (by omega)
   have e2:IntKind.wrap .i64 ((ch.toNat-48:Nat):Int)=((ch.toNat-48:Nat):Int):=IntWalk.i64_in _ ⟨by omega,by omega⟩
   rw[e1,e2]
   refine⟨⟨⟨by omega,by omega⟩,⟨by omega,by omega⟩,by omega,by omega⟩,⟨by omega,by omega⟩,Again.mk (k+1) ?_ ⟨by omega,fun d hd=>?_⟩ (by show s.size-(k+1)<s.size-k;omega)⟩
   ·refine AS.leZ [2] [] (b:=((T0∧T0∧((vi (10 * ↑(fH (List.take k s.data.toList))+IntKind.i64.wrap (IntKind.u8.wrap (byteAt s (↑k:Int).toNat-48)))):AV)=(vi (↑(fH (List.take (k+1) s.data.toList))))∧T0∧True)∧True)) (by kernel_rfl) (by kernel_rfl) ?_
    rw[show ((k:Int)).toNat=k from rfl,hb,hc,e1,e2]
    refine⟨⟨rfl,rfl,?_,rfl,trivial⟩,trivial⟩
    rw[hr];push_cast;rfl
   ·rw[List.take_succ_eq_append_getElem hks] at hd
    rcases List.mem_append.1 hd with hd|hd
    ·exact hkd d hd
    ·rw[List.mem_singleton] at hd;subst hd
     rw[hc];exact⟨by omega,by omega⟩
 ·obtain rfl:k=s.size:=by omega
  rw[←hsl,List.take_length] at hkd hvl
  refine kD (aj:={ d:=bU }) (cuts:=[7]) ?_
  refine bD (fun ZT ZW ZQ _ _ ZR=>((((decide ((↑s.size:Int)<↑s.size))=true)→ZW [cd Tryz.f73 [1,1,1,0,1,0,0,1,0,0,0],cd Tryz.f73 [1,1,1,0,1,0,0,1,0,0,1],(.blk 1),cd Tryz.f73 [1,1,1,0,1,0,0,1,1]] (aI ZT [0]) ZR)∧(((decide ((↑s.size:Int)<↑s.size))=false)→ZW [cd Tryz.f73 [1,1,1,1]] (aI ZT [1]) ZQ))) (by kernel_rfl) ?_
  refine⟨fun hd=>absurd (dW hd) (by omega),fun _=>?_⟩
  refine gV (aj:={ d:=bU }) ?_
  refine aJ (fun _ _ _ _=>(((di (↑(fH (List.take s.size s.data.toList)))):DV)=(di (iV s)))) (by kernel_rfl) ?_
  have:zG s.data.toList=true:=by
   unfold zG
   rw[decide_eq_true c1,decide_eq_true (show s.data.toList.length≤13 by omega),List.all_eq_true.2 fun c hc=>IK.2 (hkd c hc)];rfl
  unfold iV
  rw[if_pos this,←hsl,List.take_length]
end Go.Proofs
namespace Go.Proofs
open Go Go.Ab Go.RowKit
variable {G:IH}
def TS:eU:={ d:=fun f args=>match f,args with
 | 93,[.con (.int .i64 n)]=>some (ds (bs (Lib.itoa n)))
 | _,_=>none }
noncomputable def S60 (l:List ByteArray) (i:Nat):AS:=⟨regs Tryz.f60.ntmps [(0,.d (lZ l)),(4,vs (bs (aT (l.take i)))),(5,vi i)],[]⟩
theorem f60 (l:List ByteArray) (hl:rQ l):au Tryz.prog G 60 [lZ l] (.aC [ds (fV l),di (fU l)]):=by
 refine au.walk (aj:=TS) (keep:=[]) follows Tryz.func60 rfl Tryz.call60 ?_
 refine aJ (fun ZT ZW ZQ _=>((((decide ((↑l.length:Int)>4096))=true)→(((.aC [(ds (ByteArray.mk #[])),(di 8)]):DV)=(.aC [(ds (fV l)),(di (fU l))])))∧(((decide ((↑l.length:Int)>4096))=false)→ZW [cd Tryz.f60 [1,1,1,0,1,0],(.blk 0),cd Tryz.f60 [1,1,1,1]] (aI ZT [1]) ZQ))) (by kernel_rfl) ?_
 have hll:=hl.1
 refine⟨fun h=>?_,fun h=>?_⟩
 ·have hb:jq l=true:=by
   unfold jq
   simp at h⊢
   omega
  unfold fV fU
  rw[hb];rfl
 have h4:l.length≤4096:=by simp at h;omega
 refine bK.loop (c:=aU (ak Tryz.f60) [1,1,1,0,1,0,0]) (by kernel_rfl) (S60 l) (fun i=>i≤l.length∧(aT (l.take i)).length≤200022) (fun i=>l.length-i) 0 ?_ ⟨Nat.zero_le _,by simp[aT]⟩ ?_
 ·refine AS.leZ [1] [] (b:=((T0∧((vs (ByteArray.mk #[])):AV)=(vs (bs (aT (List.take 0 l))))∧T0∧True)∧True)) (by kernel_rfl) (by kernel_rfl) ?_
  exact⟨⟨rfl,rfl,rfl,trivial⟩,trivial⟩
 ·rintro i ⟨hi,hpi⟩
  refine dI (aj:=TS) ?_
  refine bD (fun ZT ZW ZQ ZK ZA _=>(fun Za Zb=>((((decide ((↑i:Int)<↑l.length))=true)→((((0≤(↑i:Int))∧((↑i:Int)<↑l.length))∧(I64 (↑(bs (aT (List.take i l))).size + ↑(bn l (↑i:Int).toNat).size)))∧((Zb=true)→(((.aC [(ds (ByteArray.mk #[])),(di 8)]):DV)=(.aC [(ds (fV l)),(di (fU l))])))∧((Zb=false)→((((0≤(↑i:Int))∧((↑i:Int)<↑l.length))∧ZK 93 [(di (↑(bn l (↑i:Int).toNat).size))] (ds (bs Za))∧((bs (aT (List.take i l))).size+(bs Za).size≤9223372036854775807)∧((bs (aT (List.take i l))++bs Za).size+(ByteArray.mk #[58]).size≤9223372036854775807)∧((0≤(↑i:Int))∧((↑i:Int)<↑l.length))∧((bs (aT (List.take i l))++bs Za++ByteArray.mk #[58]).size+(bn l (↑i:Int).toNat).size≤9223372036854775807))∧(I64 (↑i+1))∧(ZA (aI ZT [0,1]))))))∧(((decide ((↑i:Int)<↑l.length))=false)→ZW [cd Tryz.f60 [1,1,1,1]] (aI ZT [1]) ZQ))) (Lib.itoa ↑(bn l (↑i:Int).toNat).size) (decide ((↑(bs (aT (List.take i l))).size:Int) + ↑(bn l (↑i:Int).toNat).size>30000))) (by kernel_rfl) ?_
  try dsimp only
  simp only[gZ]
  refine⟨fun h=>?_,fun h=>?_⟩
  ·have hi':i<l.length:=by simpa using h
   have h1:=hl.at hi'
   have h2:=iR ((bn l i).size:Int) ⟨by omega,by omega⟩
   have aeg:(aT l).length=(aT (l.take i)).length+(dn (bn l i)).length+(aT (l.drop (i+1))).length:=by
    have e:aT l=aT (l.take (i+1))++aT (l.drop (i+1)):=by rw[←wG,List.take_append_drop]
    rw[e,jS hi',List.length_append,List.length_append]
   rw[jf] at aeg
   rw[dR]
   refine⟨⟨⟨by omega,by omega⟩,by omega,by omega⟩,fun h=>?_,fun h=>?_⟩
   ·have hb:jq l=true:=by
     unfold jq
     simp at h⊢
     omega
    unfold fV fU
    rw[hb];rfl
   ·have h:(aT (l.take i)).length+(bn l i).size≤30000:=by simp at h;omega
    have k93:=adk (G:=G) (bn l i).size (by omega)
    rw[zI] at k93
    have e58:({ data:=#[58] }:ByteArray).size=1:=rfl
    rw[dR]
    refine⟨⟨⟨by omega,by omega⟩,k93,by omega,?_,⟨by omega,by omega⟩,?_⟩,⟨by omega,by omega⟩,Again.mk (i+1) ?_ ⟨by omega,?_⟩ (by omega)⟩
    ·rw[QM,dR,dR,e58];omega
    ·rw[QM,QM,dR,dR,e58];omega
    ·refine AS.leZ [1] [] (b:=((T0∧((vs (bs (aT (List.take i l))++bs (Lib.itoa ↑(bn l (↑i:Int).toNat).size)++ByteArray.mk #[58]++bn l (↑i:Int).toNat)):AV)=(vs (bs (aT (List.take (i+1) l))))∧T0∧True)∧True)) (by kernel_rfl) (by kernel_rfl) ?_
     refine⟨⟨rfl,?_,rfl,trivial⟩,trivial⟩
     have e1:bs (aT (l.take (i+1)))=bs (aT (l.take i))++bs (Lib.itoa ((bn l i).size:Int)) ++ { data:=#[58] }++bn l i:=by
      have e2:({ data:=#[58] }:ByteArray)=bs [58]:=rfl
      rw[jS hi',e2,wH,wH]
      conv=>rhs;rw[←oK (bn l i)]
      rw[wH]
      unfold dn
      simp only[List.append_assoc,oK]
     rw[e1]
     rfl
    ·rw[jS hi',List.length_append,jf];omega
  ·have:i=l.length:=by simp at h;omega
   subst this
   rw[List.take_length] at hpi
   refine dI (aj:=TS) ?_
   refine aJ (fun _ _ _ _=>((((decide ((↑(bs (aT (List.take l.length l))).size:Int)>30000))=true)→(((.aC [(ds (ByteArray.mk #[])),(di 8)]):DV)=(.aC [(ds (fV l)),(di (fU l))])))∧(((decide ((↑(bs (aT (List.take l.length l))).size:Int)>30000))=false)→(((.aC [(ds (bs (aT (List.take l.length l)))),(di 0)]):DV)=(.aC [(ds (fV l)),(di (fU l))]))))) (by kernel_rfl) ?_
   rw[dR,List.take_length]
   refine⟨fun h=>?_,fun h=>?_⟩
   ·have hb:jq l=true:=by
     unfold jq
     simp at h⊢
     omega
    unfold fV fU
    rw[hb];rfl
   ·have hb:jq l=false:=by
     unfold jq
     simp at h⊢
     omega
    unfold fV fU
    rw[hb];rfl
noncomputable def S72 (x:List ByteArray×ByteArray):AS:=⟨regs Tryz.f72.ntmps [(0,vs x.2),(4,.vec 10 1 0 x.1.length)],[(10,[.arr DY 1 (ji x.1)])]⟩
noncomputable def ado (l0:List ByteArray) (s:ByteArray) (k:Nat):AS:=⟨regs Tryz.f72.ntmps [(0,vs s),(4,.vec 10 1 0 l0.length),(5,vi k),(6,vi (fH (s.data.toList.take k)))],[(10,[.arr DY 1 (ji l0)])]⟩
def Jg:eU:={ d:=bU,rows:=fun d=>Nat.beq d 10 }
theorem adh (d:ByteArray) (hd:d.size≤8000):au Tryz.prog G 72 [ds d] (zu d.data.toList):=by
 refine au.walk (aj:=Jg) (keep:=[]) follows Tryz.func72 rfl Tryz.call72 ?_
 refine aJ (fun ZT ZW ZQ _=>((((decide ((↑d.size:Int)>30000))=true)→(((.aC [bY,(di 8)]):DV)=(zu d.data.toList)))∧(((decide ((↑d.size:Int)>30000))=false)→ZW [cd Tryz.f72 [1,1,1,0,0],(.blk 0),cd Tryz.f72 [1,1,1,1]] (aI ZT [1]) ZQ))) (by kernel_rfl) ?_
 refine⟨fun h=>?_,fun _=>?_⟩
 ·simp at h;omega
 refine bK.loop (c:=aU (ak Tryz.f72) [1,1,1,0,0,0]) (by kernel_rfl) S72 (fun x=>d.data.toList=aT x.1++x.2.data.toList) (fun x=>x.2.size) ([],d) ?_ rfl ?_
 ·refine AS.leZ [] [0] (b:=((T0∧T0∧True)∧((some [(.arr ⟨false,9,false,none⟩ 1 (fun x=>DV.con undef))]):fO)=(some [(.arr ⟨false,9,false,none⟩ 1 (ji []))])∧True)) (by kernel_rfl) (by kernel_rfl) ?_
  exact⟨⟨rfl,rfl,trivial⟩,rfl,trivial⟩
 ·rintro ⟨l0,s⟩ hI
  refine dI (aj:=Jg) ?_
  refine bD (fun ZT ZW ZQ _ _ ZR=>((((!s.toList==(ByteArray.mk #[]).toList)=true)→ZW [cd Tryz.f72 [1,1,1,0,0,0,1,0,1,0,0],(.blk 2),cd Tryz.f72 [1,1,1,0,0,0,1,0,1,1],(.blk 1)] (aI ZT [0]) ZR)∧(((!s.toList==(ByteArray.mk #[]).toList)=false)→ZW [cd Tryz.f72 [1,1,1,1]] (aI ZT [1]) ZQ))) (by kernel_rfl) ?_
  have hI:d.data.toList=aT l0++s.data.toList:=hI
  have hlen:=congrArg List.length hI
  rw[dZ,List.length_append,dZ] at hlen
  have hcnt:=rV l0
  refine⟨fun hs0=>?_,fun hs0=>?_⟩
  ·refine bK.loop (c:=aU (ak Tryz.f72) [1,1,1,0,0,0,1,0,1,0,0,0]) (by kernel_rfl) (ado l0 s) (fun k=>k≤s.size∧k≤6∧∀c∈s.data.toList.take k,yK c) (fun k=>s.size-k) 0 ?_ ⟨Nat.zero_le _,Nat.zero_le _,fun c hc=>by simp at hc⟩ ?_
   ·exact AS.bJ (by kernel_rfl)
   ·rintro k ⟨hk,hk6,hkd⟩
    refine dI (aj:=Jg) ?_
    refine bD (fun ZT ZW ZQ _ ZA _=>(fun Za=>(((((decide ((↑k:Int)<(↑s.size:Int))&&decide ((↑k:Int)<6))=true)→((0≤(↑k:Int))∧((↑k:Int)<↑s.size)))∧(((decide ((↑k:Int)<(↑s.size:Int))&&decide ((↑k:Int)<6)&&decide (byteAt s (↑k:Int).toNat≥48))=true)→((0≤(↑k:Int))∧((↑k:Int)<↑s.size))))∧((Za=true)→(((I64 (10 * ↑(fH (List.take k s.data.toList))))∧((0≤(↑k:Int))∧((↑k:Int)<↑s.size))∧(I64 (10 * ↑(fH (List.take k s.data.toList))+IntKind.i64.wrap (IntKind.u8.wrap (byteAt s (↑k:Int).toNat-48))))∧(I64 (↑k+1)))∧(ZA (aI ZT [0]))))∧((Za=false)→ZW [cd Tryz.f72 [1,1,1,0,0,0,1,0,1,1],(.blk 1)] (aI ZT [1]) ZQ))) (decide ((↑k:Int)<(↑s.size:Int))&&decide ((↑k:Int)<6)&&decide (byteAt s (↑k:Int).toNat≥48)&&decide (byteAt s (↑k:Int).toNat≤57))) (by kernel_rfl) ?_
    try dsimp only
    have hsl:s.data.toList.length=s.size:=dZ s
    have hvl:fH (s.data.toList.take k)<1000000:=by
     have h1:=PG _ _ rfl hkd
     have h2:(10:Nat) ^ (s.data.toList.take k).length≤10 ^ 6:=Nat.pow_le_pow_right (by decide) (by rw[List.length_take];omega)
     omega
    simp only[gZ]
    refine⟨⟨fun h=>?_,fun h=>?_⟩,fun h=>?_,fun h=>?_⟩
    ·simp at h;omega
    ·simp at h;omega
    ·simp only[aV,eF] at h
     obtain ⟨⟨⟨h1,h2⟩,h3⟩,h4⟩:=h
     have hks:k<s.data.toList.length:=by omega
     have hb:=oP hks
     rw[hb] at h3 h4
     have e1:IntKind.wrap .u8 (((s.data.toList[k]).toNat:Int)-48)=(((s.data.toList[k]).toNat-48:Nat):Int):=by
      rw[show (((s.data.toList[k]).toNat:Int)-48)=(((s.data.toList[k]).toNat-48:Nat):Int) by omega]
      exact AZ _ (by omega)
     have e2:IntKind.wrap .i64 (((s.data.toList[k]).toNat-48:Nat):Int)=(((s.data.toList[k]).toNat-48:Nat):Int):=IntWalk.i64_in _ ⟨by omega,by omega⟩
     simp only[hb,e1,e2]
     refine⟨⟨⟨by omega,by omega⟩,⟨by omega,by omega⟩,⟨by omega,by omega⟩,by omega,by omega⟩,Again.mk (k+1) ?_ ⟨by omega,by omega,fun c hc=>?_⟩ (by omega)⟩
     ·refine AS.leZ [3] [] (b:=((T0∧T0∧T0∧((vi (10 * ↑(fH (List.take k s.data.toList))+IntKind.i64.wrap (IntKind.u8.wrap (byteAt s (↑k:Int).toNat-48)))):AV)=(vi (↑(fH (List.take (k+1) s.data.toList))))∧True)∧T0∧True)) (by kernel_rfl) (by kernel_rfl) ?_
      rw[show ((k:Int)).toNat=k from rfl,hb,e1,e2]
      refine⟨⟨rfl,rfl,rfl,?_,trivial⟩,rfl,trivial⟩
      rw[Ea hks];push_cast;rfl
     ·rw[List.take_succ_eq_append_getElem hks] at hc
      rcases List.mem_append.1 hc with hc|hc
      ·exact hkd c hc
      ·rw[List.mem_singleton] at hc;subst hc
       exact⟨by omega,by omega⟩
    ·refine dI (aj:=Jg) ?_
     refine bD (fun ZT _ _ _ ZA _=>(fun Za (Zb:Nat) Zc=>(((((!((↑k:Int)==0||(↑k:Int)==↑s.size))=true)→((0≤(↑k:Int))∧((↑k:Int)<↑s.size)))∧(((!((↑k:Int)==0||(↑k:Int)==(↑s.size:Int)||byteAt s ((↑k:Int):Int).toNat != 58)&&decide ((↑k:Int)>1))=true)→(((0:Int)≤(0:Int))∧(0<(↑s.size:Int))))∧((Zc=true)→(I64 (↑s.size - ↑k)))∧((Zc=true)→(I64 (↑s.size - ↑k-1))))∧((Za=true)→(((.aC [bY,(di 11)]):DV)=(zu d.data.toList)))∧((Za=false)→(((I64 (↑k+1))∧(I64 (↑k+1))∧(I64 (↑k+1 + ↑Zb))∧((0≤(↑k:Int)+1)∧((↑k:Int)+1≤↑k+1 + ↑Zb)∧((↑k:Int)+1 + ↑Zb≤↑s.size))∧(((l0.length+1)*16≤1099511627776)∧(l0.length+1≤1099511627776))∧(∀(i:Nat),i<1→nI false 1 (aY false 1 [ds (s.extract ((↑k:Int)+1).toNat ((↑k:Int)+1 + ↑Zb).toNat)] i)=true)∧(I64 (↑k+1))∧(I64 (↑k+1 + ↑Zb))∧(0≤(↑k:Int)+1 + ↑Zb)∧((↑k:Int)+1 + ↑Zb≤↑s.size)∧((↑s.size:Int)≤↑s.size))∧(ZA (aI ZT [1])))))) ((↑k:Int)==0||(↑k:Int)==(↑(ByteArray.size s):Int)||byteAt s (Int.toNat (↑k:Int)) != 58||decide ((↑k:Int)>1)&&byteAt s (Int.toNat 0)==48||decide ((↑(fH (List.take k (Array.toList (ByteArray.data s)))):Int)>(↑(ByteArray.size s):Int)-(↑k:Int)-1)||(↑(List.length l0):Int)==4096) (fH (List.take k s.data.toList)) (!((↑k:Int)==0||(↑k:Int)==(↑s.size:Int)||byteAt s ((↑k:Int):Int).toNat != 58||decide ((↑k:Int)>1)&&byteAt s (Int.toNat 0)==48))) (by kernel_rfl) ?_
     try dsimp only
     have hnn:((l0.length:Int)==4096)=false:=by rw[beq_eq_false_iff_ne];omega
     have hstop:k=s.data.toList.length∨k=6∨∃h:k<s.data.toList.length,¬yK (s.data.toList[k]):=by
      rcases Nat.lt_or_ge k s.data.toList.length with h1|h1
      ·rcases Nat.lt_or_ge k 6 with h2|h2
       ·refine .inr (.inr ⟨h1,fun hD=>?_⟩)
        have hb:=oP h1
        have h3:=hD.1
        have h4:=hD.2
        simp only[Bool.and_eq_false_imp,eF,decide_eq_false_iff_not,aV] at h
        have:=h ⟨⟨by omega,by omega⟩,by omega⟩
        omega
       ·exact .inr (.inl (by omega))
      ·exact .inl (by omega)
     have hv:=Ea (l:=s.data.toList) (k:=k)
     have e0:Int.toNat (0:Int)=0:=rfl
     simp only[hnn,gZ,e0,Bool.or_false]
     -- what the condition says
     have hcond:((k:Int)==0||(k:Int)==(s.size:Int)||byteAt s k != 58||decide ((k:Int)>1)&&byteAt s 0==48||decide ((fH (s.data.toList.take k):Int)>(s.size:Int)-(k:Int)-1))=false→
       ∃hk:k<s.data.toList.length,0<k∧s.data.toList[k]=58∧(1<k→∀c,s.data.toList[0]?=some c→c.toNat≠48)∧fH (s.data.toList.take k)+k+1≤s.data.toList.length:=by
      intro hc
      simp only[Bool.or_eq_false_iff,beq_eq_false_iff_ne,bne_eq_false_iff_eq,Bool.and_eq_false_imp,eF,decide_eq_false_iff_not] at hc
      obtain ⟨⟨⟨⟨c1,c2⟩,c3⟩,c4⟩,c5⟩:=hc
      have hks:k<s.data.toList.length:=by omega
      refine⟨hks,by omega,?_,fun h1 c hc=>?_,by omega⟩
      ·rw[oP hks] at c3
       have:(s.data.toList[k]).toNat=58:=by omega
       exact UInt8.toNat_inj.1 this
      ·have h0:0<s.data.toList.length:=by omega
       have:=c4 (by omega)
       rw[oP h0] at this
       rw[iy h0] at hc
       injection hc with hc
       rw[←hc];omega
     refine⟨⟨fun h1=>?_,fun h1=>?_,fun _=>⟨by omega,by omega⟩,fun _=>⟨by omega,by omega⟩⟩,fun h1=>?_,fun h1=>?_⟩
     ·simp at h1;omega
     ·simp at h1;omega
     ·have hu:uM d.data.toList=none:=by
       rw[hI]
       have h0:s.data.toList≠[]:=by
        intro e
        have:s={ data:=#[] }:=by rw[←oK s,e];rfl
        rw[this] at hs0
        simp at hs0
       refine Po (by rw[List.length_append,dZ];omega) h0 fun f R he=>?_
       have hfs:=congrArg List.length he
       rw[List.length_append,jf,hsl] at hfs
       obtain ⟨r1,r2,r3,r4,r5⟩:=Vm (f:=f) (R:=R) (k:=k) (by omega) (by rw[←he];omega) (by rw[←he];exact hkd) (by
        rw[←he];exact hstop)
       rw[←he] at r2 r3 r4 r5
       have hb:=oP r2
       rw[iy r2] at r3
       injection r3 with r3
       rw[r3] at hb
       have hb:byteAt s k=58:=hb
       simp only[Bool.or_eq_true,beq_iff_eq,bne_iff_ne,aV,eF] at h1
       rcases h1 with (((h1|h1)|h1)|⟨h1,h2⟩)|h1
       ·omega
       ·omega
       ·exact h1 hb
       ·have h00:0<s.data.toList.length:=by omega
        have:=r4 (by omega) _ (iy h00)
        rw[oP h00] at h2
        omega
       ·omega
      unfold zu
      rw[hu]
     ·obtain ⟨hks,c1,c2,c3,c4⟩:=hcond h1
      have hF:=UZ c1 hks c2 hkd c3 c4
      have e1:Int.toNat ((k:Int)+1)=k+1:=by omega
      have e2:Int.toNat ((k:Int)+1+(fH (s.data.toList.take k):Int))=k+1+fH (s.data.toList.take k):=by omega
      simp only[e1,e2]
      refine⟨⟨⟨by omega,by omega⟩,⟨by omega,by omega⟩,⟨by omega,by omega⟩,⟨by omega,by omega,by omega⟩,⟨by omega,by omega⟩,UJ _ rfl,⟨by omega,by omega⟩,⟨by omega,by omega⟩,by omega,by omega,by omega⟩,Again.Rf [(90,10)] rfl (l0++[bs ((s.data.toList.drop (k+1)).take (fH (s.data.toList.take k)))],bs (s.data.toList.drop (k+1+fH (s.data.toList.take k)))) ?_ ?_ ?_⟩
      ·refine AS.leZ [0,1] [0] (b:=((((vs (s.extract ((↑k:Int)+1 + ↑(fH (List.take k s.data.toList))).toNat (↑s.size:Int).toNat)):AV)=(vs (bs (List.drop (k+1+fH (List.take k s.data.toList)) s.data.toList)))∧((.vec 10 1 0 (l0.length+1)):AV)=(.vec 10 1 0 (l0++[bs (List.take (fH (List.take k s.data.toList)) (List.drop (k+1) s.data.toList))]).length)∧True)∧((some [(.arr ⟨false,9,false,none⟩ 1 (fun i=>bif i.blt l0.length then ji l0 i else aY false 1 [ds (s.extract ((↑k:Int)+1).toNat ((↑k:Int)+1 + ↑(fH (List.take k s.data.toList))).toNat)] (i-l0.length)))]):fO)=(some [(.arr ⟨false,9,false,none⟩ 1 (ji (l0++[bs (List.take (fH (List.take k s.data.toList)) (List.drop (k+1) s.data.toList))])))])∧True)) (by kernel_rfl) (by kernel_rfl) ?_
       rw[e2,e1]
       refine⟨⟨?_,?_,trivial⟩,?_,trivial⟩
       ·rw[oU,List.take_of_length_le (by rw[List.length_drop];omega)]
       ·rw[List.length_append];rfl
       ·rw[BU,oU,show k+1+fH (s.data.toList.take k)-(k+1)=fH (s.data.toList.take k) by omega]
      ·show d.data.toList=aT (l0++[_])++(bs _).data.toList
       rw[hI,wG,aT,aT,List.append_nil,List.append_assoc,jc,←hF]
      ·show (bs _).size<s.size
       rw[dR,List.length_drop];omega
  ·have hs1:s.data.toList=[]:=by
    have:s={ data:=#[] }:=by
     rw[Bool.not_eq_false',beq_iff_eq,toList_inj] at hs0
     exact hs0
    rw[this]
   rw[hs1,List.append_nil] at hI
   have hu:uM d.data.toList=some l0:=by
    rw[hI]
    exact Hy (by rw[←hI,dZ];omega)
   refine dI (aj:=Jg) ?_
   refine aJ (fun _ _ _ _=>(((.aC [(.slc 1 l0.length (fun i=>ji l0 (0+i))),(di 0)]):DV)=(zu d.data.toList))) (by kernel_rfl) ?_
   unfold zu
   rw[hu]
   simp only[Lr]
   rfl
theorem f72 (d:ByteArray) (hd:d.size≤8000):au Tryz.prog G 72 [ds d] (.aC [lZ (aW d.data.toList),di (kJ d.data.toList)]):=by
 refine au.imp (adh d hd) fun k v hv=>?_
 unfold zu at hv
 unfold aW kJ
 cases hu:uM d.data.toList with
 | some l=>
  rw[hu] at hv
  obtain ⟨vs,e,x0,u0,e0,h0,rest⟩:=hv
  exact⟨vs,e,x0,u0,e0,zy l h0,rest⟩
 | none=>
  rw[hu] at hv
  obtain ⟨vs,e,x0,u0,e0,h0,rest⟩:=hv
  refine⟨vs,e,x0,u0,e0,?_,rest⟩
  have h0:x0=.slice none 0 0:=h0
  subst h0
  exact⟨none,0,rfl,Nat.le_refl _,.inl rfl⟩
theorem ZE {e:Ev} (h:aS e=true):(0≤e.kind∧e.kind≤3)∧(1≤e.k.n∧e.k.n≤1000000)∧(0≤e.t∧e.t≤1099511627776)∧(0≤e.v∧e.v≤1099511627776)∧(0≤e.h∧e.h≤1099511627776):=by
 unfold aS Bh at h
 simp only[aV,eF] at h
 obtain ⟨h1,h2,⟨_,_,h3,h4⟩,h5,h6,h7,h8⟩:=h
 refine⟨⟨by omega,by omega⟩,⟨by omega,by omega⟩,⟨by omega,by omega⟩,?_⟩
 by_cases c:e.kind=1
 ·rw[if_pos c] at h8
  simp only[aV,eF] at h8
  obtain ⟨a1,a2,a3,a4,_⟩:=h8
  exact⟨⟨by omega,by omega⟩,⟨by omega,by omega⟩⟩
 ·rw[if_neg c] at h8
  simp only[aV,eF] at h8
  obtain ⟨a1,a2,_⟩:=h8
  rw[a1,a2]
  exact⟨⟨by decide,by decide⟩,⟨by decide,by decide⟩⟩
def aa6 (ok:Bool):iw:=fun f a=>match f,a with
 | 68,[.con (.int .i64 n)]=>some (ds (bs (Lib.itoa n)))
 | 19,_=>some (db ok)
 | 60,[l]=>some (.aC [ds (fV (xL sH l)),di (fU (xL sH l))])
 | _,_=>none
def abD (ok:Bool):eU:={ d:=aa6 ok,rows:=fun n=>Nat.beq n 35 }
theorem adC {e:Ev} (h:aS e=true) (f:Nat→DV) (hf:∀i,i<9→f i=nJ (gW e) i):au Tryz.prog G 60 [.slc 1 9 f] (.aC [ds (fV (gW e)),di (fU (gW e))]):=
 au.args (f60 (gW e) (I4 h)) fun _ us hh=>DV.jJ (fun _ hv=>DV.gK hf hv) (fun _ h=>h) us hh
theorem f39 (e:Ev) (h1:e.k.st.size≤1000000) (h2:e.k.ex.size≤1000000):au Tryz.prog G 39 [fQ e] (.aC [ds (encS e),di (gI e)]):=by
 refine au.zX (aj:=abD (aS e)) (keep:=[]) follows Tryz.func39 rfl Tryz.call39 ?_
 refine aJ (fun _ _ _ ZK=>(fun Za Zb=>(ZK 19 [(.agg [(di e.kind),(ds e.k.st),(ds e.k.ex),(di e.k.n),(di e.t),(di e.v),(di e.h),(ds e.s),(db e.acc)])] (db (aS e))∧(((!aS e)=true)→(((.aC [(ds (ByteArray.mk #[])),(di 1)]):DV)=(.aC [(ds (encS e)),(di (gI e))])))∧(((!aS e)=false)→(((e.acc=true)→((ZK 68 [(di e.kind)] (ds (bs (Lib.itoa e.kind)))∧ZK 68 [(di e.k.n)] (ds (bs (Lib.itoa e.k.n)))∧ZK 68 [(di e.t)] (ds (bs (Lib.itoa e.t)))∧ZK 68 [(di e.v)] (ds (bs (Lib.itoa e.v)))∧ZK 68 [(di e.h)] (ds (bs (Lib.itoa e.h)))∧ZK 60 [(.slc 1 9 (fun i=>aY false 1 [ds (bs (Lib.itoa e.kind)),ds e.k.st,ds e.k.ex,ds (bs (Lib.itoa e.k.n)),ds (bs (Lib.itoa e.t)),ds (bs (Lib.itoa e.v)),ds (bs (Lib.itoa e.h)),ds e.s,ds (ByteArray.mk #[49])] (0+i)))] (.aC [(ds (fV Za)),(di (fU Za))]))∧((.aC [(ds (fV Za)),(di (fU Za))]):DV)=(.aC [(ds (encS e)),(di (gI e))])))∧((e.acc=false)→((ZK 68 [(di e.kind)] (ds (bs (Lib.itoa e.kind)))∧ZK 68 [(di e.k.n)] (ds (bs (Lib.itoa e.k.n)))∧ZK 68 [(di e.t)] (ds (bs (Lib.itoa e.t)))∧ZK 68 [(di e.v)] (ds (bs (Lib.itoa e.v)))∧ZK 68 [(di e.h)] (ds (bs (Lib.itoa e.h)))∧ZK 60 [(.slc 1 9 (fun i=>aY false 1 [ds (bs (Lib.itoa e.kind)),ds e.k.st,ds e.k.ex,ds (bs (Lib.itoa e.k.n)),ds (bs (Lib.itoa e.t)),ds (bs (Lib.itoa e.v)),ds (bs (Lib.itoa e.h)),ds e.s,ds (ByteArray.mk #[48])] (0+i)))] (.aC [(ds (fV Zb)),(di (fU Zb))]))∧((.aC [(ds (fV Zb)),(di (fU Zb))]):DV)=(.aC [(ds (encS e)),(di (gI e))]))))))) (xL sH (DV.slc 1 9 fun i=>aY false 1 [ds (bs (Lib.itoa e.kind)),ds e.k.st,ds e.k.ex,ds (bs (Lib.itoa e.k.n)),ds (bs (Lib.itoa e.t)),ds (bs (Lib.itoa e.v)),ds (bs (Lib.itoa e.h)),ds e.s,ds (ByteArray.mk #[49])] (0+i))) (xL sH (DV.slc 1 9 fun i=>aY false 1 [ds (bs (Lib.itoa e.kind)),ds e.k.st,ds e.k.ex,ds (bs (Lib.itoa e.k.n)),ds (bs (Lib.itoa e.t)),ds (bs (Lib.itoa e.v)),ds (bs (Lib.itoa e.h)),ds e.s,ds (ByteArray.mk #[48])] (0+i)))) (by kernel_rfl) ?_
 refine⟨f19 e h1 h2,fun c=>?_,fun c=>?_⟩
 ·have c:aS e=false:=by simpa using c
  unfold encS gI
  rw[c];rfl
 ·have c:aS e=true:=by simpa using c
  obtain ⟨⟨b1,b1'⟩,⟨b2,b2'⟩,⟨b3,b3'⟩,⟨b4,b4'⟩,b5,b5'⟩:=ZE c
  have hS:encS e=fV (gW e):=by unfold encS;rw[c];rfl
  have hE:gI e=fU (gW e):=by unfold gI;rw[c];rfl
  have hl:∀f:Nat→DV,(∀i,i<9→f i=nJ (gW e) i)→xL sH (.slc 1 9 f)=gW e:=fun f hf=>by
   have:xL sH (.slc 1 9 f)=xL sH (lZ (gW e)):=by
    unfold xL
    exact List.map_congr_left fun i hi=>by rw[hf i (List.mem_range.1 hi)]
   rw[this,OT]
  refine⟨fun ca=>?_,fun ca=>?_⟩
  all_goals
   have hf:∀i,i<9→(fun i=>aY false 1 [ds (bs (Lib.itoa e.kind)),ds e.k.st,ds e.k.ex,ds (bs (Lib.itoa e.k.n)),ds (bs (Lib.itoa e.t)),ds (bs (Lib.itoa e.v)),ds (bs (Lib.itoa e.h)),ds e.s,ds (bif e.acc then ⟨#[49]⟩ else ⟨#[48]⟩)] (0+i)) i=nJ (gW e) i:=fun i hi=>by
    match i,hi with
    | 0,_=>rfl
    | 1,_=>rfl
    | 2,_=>rfl
    | 3,_=>rfl
    | 4,_=>rfl
    | 5,_=>rfl
    | 6,_=>rfl
    | 7,_=>rfl
    | 8,_=>rfl
   rw[ca] at hf
   have hl:=hl _ hf
   have h60:=adC (G:=G) c _ hf
   rw[hS,hE]
   simp only[cond_true,cond_false] at hl h60
   rw[hl]
   exact⟨⟨f68 _ b1 (by omega),f68 _ (by omega) (by omega),f68 _ b3 (by omega),f68 _ b4 (by omega),f68 _ b5 (by omega),h60⟩,rfl⟩
def qQ (l:List ByteArray):Ev:=⟨iV (bn l 0),⟨bn l 1,bn l 2,iV (bn l 3)⟩,iV (bn l 4),iV (bn l 5),iV (bn l 6),bn l 7,decide (bn l 8=⟨#[49]⟩)⟩
noncomputable def D5 (d:ByteArray):Bool:=decide (kJ d.data.toList=0)&&(decide ((aW d.data.toList).length=9)&&(decide (gI (qQ (aW d.data.toList))=0)&&decide (encS (qQ (aW d.data.toList))=d)))
theorem yg {n:Int} (h0:0≤n) (h1:n≤1099511627776):iV (bs (Lib.itoa n))=n:=by
 obtain ⟨k,rfl⟩:=Int.eq_ofNat_of_zero_le h0
 obtain ⟨d1,d2,d3,_⟩:=oV k
 have dl:=oZ 12 k (by omega)
 unfold iV
 rw[jc,nM,if_pos,d2]
 unfold zG
 rw[decide_eq_true d3,decide_eq_true (show (Lib.decDigits k).length≤13 by omega),List.all_eq_true.2 fun c hc=>IK.2 (d1 c hc)];rfl
theorem VR {e:Ev} (h:aS e=true):qQ (gW e)=e:=by
 obtain ⟨⟨a1,a2⟩,⟨b1,b2⟩,⟨c1,c2⟩,⟨d1,d2⟩,⟨e1,e2⟩⟩:=QN h
 have hacc:decide ((bif e.acc then (⟨#[49]⟩:ByteArray) else ⟨#[48]⟩)=⟨#[49]⟩)=e.acc:=by
  cases e.acc<;>decide
 show (⟨iV (bs (Lib.itoa e.kind)),⟨e.k.st,e.k.ex,iV (bs (Lib.itoa e.k.n))⟩,iV (bs (Lib.itoa e.t)),iV (bs (Lib.itoa e.v)),iV (bs (Lib.itoa e.h)),e.s,decide ((bif e.acc then (⟨#[49]⟩:ByteArray) else ⟨#[48]⟩)=⟨#[49]⟩)⟩:Ev)=e
 rw[yg a1 (by omega),yg b1 (by omega),yg c1 (by omega),yg d1 (by omega),yg e1 (by omega),hacc]
theorem MQ {e:Ev} {d:ByteArray} (h1:gI e=0) (h2:encS e=d):aS e=true∧aW d.data.toList=gW e:=by
 have ok:aS e=true:=by
  cases c:aS e with
  | true=>rfl
  | false=>unfold gI at h1;rw[c] at h1;exact absurd (show (1:Int)=0 from h1) (by decide)
 obtain ⟨e0,eS,eL⟩:=yP ok
 have hb:d.data.toList=aT (gW e):=by rw[←h2,eS,jc]
 exact⟨ok,by rw[hb];exact(Rz (l:=gW e) (by omega)).1⟩
theorem ER {d:ByteArray} (h:fF d=true∨D5 d=true):qQ (aW d.data.toList)=sJ (aW d.data.toList):=by
 rcases h with h|h
 ·unfold fF at h
  simp only[aV,eF] at h
  generalize sJ (aW d.data.toList)=e at h⊢
  obtain ⟨ok,hu⟩:=MQ h.2.2.1 h.2.2.2
  rw[hu,VR ok]
 ·unfold D5 at h
  simp only[aV,eF] at h
  generalize qQ (aW d.data.toList)=e at h⊢
  obtain ⟨ok,hu⟩:=MQ h.2.2.1 h.2.2.2
  rw[hu,II ok]
theorem YG (d:ByteArray):D5 d=fF d:=by
 rw[Bool.eq_iff_iff]
 constructor
 ·intro h
  have:=ER (.inr h)
  unfold D5 at h
  rw[this] at h
  exact h
 ·intro h
  have:=ER (.inl h)
  unfold D5
  rw[this]
  exact h
theorem Xn (d:ByteArray):aX d=if fF d=true then qQ (aW d.data.toList) else ev0:=by
 unfold aX
 split
 ·rename_i h;rw[ER (.inl h)]
 ·rfl
noncomputable def abh (L:List ByteArray) (c:Int) (S:ByteArray) (E:Int):iw:=fun f a=>match f,a with
 | 72,_=>some (.aC [lZ L,di c])
 | 73,[.con (.string s)]=>some (di (iV s))
 | 39,_=>some (.aC [ds S,di E])
 | _,_=>none
theorem f41 (d:ByteArray) (hd:d.size≤8000):au Tryz.prog G 41 [ds d] (.aC [fQ (aX d),di (jQ d)]):=by
 have h72:=f72 (G:=G) d hd
 have hsm:=CQ (X:=d.data.toList) (by rw[dZ];exact hd)
 have hD:fF d=(decide (kJ d.data.toList=0)&&(decide ((aW d.data.toList).length=9)&&(decide (gI (qQ (aW d.data.toList))=0)&&decide (encS (qQ (aW d.data.toList))=d)))):=(YG d).symm.trans rfl
 have hV:aX d=if fF d=true then qQ (aW d.data.toList) else ev0:=Xn d
 have hC:jQ d=if fF d=true then 0 else 11:=rfl
 have h39:=f39 (G:=G) (qQ (aW d.data.toList)) (by have:=hsm 1;show (bn _ 1).size≤_;omega) (by have:=hsm 2;show (bn _ 2).size≤_;omega)
 generalize aW d.data.toList=L at *
 generalize kJ d.data.toList=c at *
 have hev:qQ L=⟨iV (bn L 0),⟨bn L 1,bn L 2,iV (bn L 3)⟩,iV (bn L 4),iV (bn L 5),iV (bn L 6),bn L 7,decide (bn L 8=⟨#[49]⟩)⟩:=rfl
 generalize hSd:encS (qQ L)=S at *
 generalize hEd:gI (qQ L)=E at *
 refine au.eG Tryz.func41 rfl Tryz.call41 ?_
 refine gV (aj:={ d:=abh L c S E }) ?_
 refine aJ (fun _ _ _ ZK=>(fun Za Zb Zc=>(ZK 72 [(ds d)] (.aC [(.slc 1 L.length (nJ L)),(di c)])∧(((c != 0||(↑L.length:Int) != 9)=true)→(Zb=Zc))∧(((c != 0||(↑L.length:Int) != 9)=false)→(((((0:Int)≤(0:Int))∧(0<(↑L.length:Int)))∧ZK 73 [(ds (bn L (Int.toNat 0)))] (di (iV (bn L (Int.toNat 0))))∧(((0:Int)≤(1:Int))∧(1<(↑L.length:Int)))∧(((0:Int)≤(2:Int))∧(2<(↑L.length:Int)))∧(((0:Int)≤(3:Int))∧(3<(↑L.length:Int)))∧ZK 73 [(ds (bn L (Int.toNat 3)))] (di (iV (bn L (Int.toNat 3))))∧(((0:Int)≤(4:Int))∧(4<(↑L.length:Int)))∧ZK 73 [(ds (bn L (Int.toNat 4)))] (di (iV (bn L (Int.toNat 4))))∧(((0:Int)≤(5:Int))∧(5<(↑L.length:Int)))∧ZK 73 [(ds (bn L (Int.toNat 5)))] (di (iV (bn L (Int.toNat 5))))∧(((0:Int)≤(6:Int))∧(6<(↑L.length:Int)))∧ZK 73 [(ds (bn L (Int.toNat 6)))] (di (iV (bn L (Int.toNat 6))))∧(((0:Int)≤(7:Int))∧(7<(↑L.length:Int)))∧((0:Int)≤(8:Int))∧(8<(↑L.length:Int)))∧ZK 39 [Za] (.aC [(ds S),(di E)])∧(((E != 0||!S.toList==d.toList)=true)→(Zb=Zc))∧(((E != 0||!S.toList==d.toList)=false)→(((.aC [Za,(di 0)]):DV)=Zc)))))) ((.agg [(di (iV (bn L (Int.toNat 0)))),(ds (bn L (Int.toNat 1))),(ds (bn L (Int.toNat 2))),(di (iV (bn L (Int.toNat 3)))),(di (iV (bn L (Int.toNat 4)))),(di (iV (bn L (Int.toNat 5)))),(di (iV (bn L (Int.toNat 6)))),(ds (bn L (Int.toNat 7))),(db ((bn L (Int.toNat 8)).toList==(ByteArray.mk #[49]).toList))]):DV) ((.aC [(.agg [(di 0),(ds (ByteArray.mk #[])),(ds (ByteArray.mk #[])),(di 0),(di 0),(di 0),(di 0),(ds (ByteArray.mk #[])),(db false)]),(di 11)]):DV) ((.aC [(fQ (aX d)),(di (jQ d))]):DV)) (by kernel_rfl) ?_
 try dsimp only
 simp only[dO]
 have ht:Int.toNat (0:Int)=0∧Int.toNat (1:Int)=1∧Int.toNat (2:Int)=2∧Int.toNat (3:Int)=3∧Int.toNat (4:Int)=4∧Int.toNat (5:Int)=5∧Int.toNat (6:Int)=6∧Int.toNat (7:Int)=7∧Int.toNat (8:Int)=8:=⟨rfl,rfl,rfl,rfl,rfl,rfl,rfl,rfl,rfl⟩
 obtain ⟨t0,t1,t2,t3,t4,t5,t6,t7,t8⟩:=ht
 rw[t0,t1,t2,t3,t4,t5,t6,t7,t8]
 have UN:∀i,au Tryz.prog G 73 [ds (bn L i)] (di (iV (bn L i))):=fun i=>f73 _ (by have:=hsm i;omega)
 refine⟨h72,fun q=>?_,fun q=>?_⟩
 ·have hf:fF d=false:=by
   rw[hD]
   rw[Bool.or_eq_true] at q
   rcases q with q|q
   ·have q:c≠0:=by simpa using q
    rw[decide_eq_false q];rfl
   ·have q:L.length≠9:=by
     intro e;rw[e] at q;exact absurd q (by decide)
    rw[decide_eq_false q,Bool.false_and,Bool.and_false]
  rw[hV,hC,hf];rfl
 ·have hc0:c=0∧L.length=9:=by
   rw[Bool.or_eq_false_iff] at q
   have q1:c=0:=by simpa using q.1
   have q2:(L.length:Int)=9:=by simpa using q.2
   exact⟨q1,by omega⟩
  obtain ⟨c0,l9⟩:=hc0
  rw[l9,decide_eq_true c0,Bool.true_and] at hD
  refine⟨⟨⟨by decide,by omega⟩,UN 0,⟨by decide,by omega⟩,⟨by decide,by omega⟩,⟨by decide,by omega⟩,UN 3,⟨by decide,by omega⟩,UN 4,⟨by decide,by omega⟩,UN 5,⟨by decide,by omega⟩,UN 6,⟨by decide,by omega⟩,by decide,by omega⟩,h39,fun q=>?_,fun q=>?_⟩
  ·have hf:fF d=false:=by
    rw[hD]
    rw[Bool.or_eq_true] at q
    rcases q with q|q
    ·have q:E≠0:=by simpa using q
     rw[decide_eq_false q];rfl
    ·have q:S≠d:=by simpa using q
     rw[decide_eq_false q,Bool.and_false,Bool.and_false]
   rw[hV,hC,hf];rfl
  ·have ht:fF d=true:=by
    rw[hD]
    rw[Bool.or_eq_false_iff] at q
    have q1:E=0:=by simpa using q.1
    have q2:S=d:=by simpa using q.2
    rw[decide_eq_true q1,decide_eq_true q2];rfl
   rw[hV,hC,ht];rfl
noncomputable def S31 (b:Bk) (j:Nat) (l:List ByteArray):AS:=⟨regs Tryz.f31.ntmps [(2,vs ⟨#[]⟩),(3,vi 0),(4,.d (iO (aA b))),(5,.vec 904 1 0 l.length),(6,vi j)],[(904,[.arr DY 1 (ji l)])]⟩
noncomputable def adD (b:Bk):AS:=⟨regs Tryz.f31.ntmps [(2,vs ⟨#[]⟩),(3,vi 0),(4,.d (iO (aA b))),(5,.vec 904 1 0 0),(6,vi 0)],[(904,[.arr DY 1 (fun _=>.con undef)])]⟩
def aa0 (b:Bk) (S:ByteArray) (E:Int) (l:List ByteArray):iw:=fun f _=>match f with
 | 33=>some (db (dh aS b))
 | 59=>some (iO (aA b))
 | 39=>some (.aC [ds S,di E])
 | 60=>some (.aC [ds (fV l),di (fU l)])
 | _=>none
def NP (b:Bk) (S:ByteArray) (E:Int) (l:List ByteArray):eU:={ d:=aa0 b S E l,rows:=fun n=>Nat.beq n 14||Nat.beq n 31 }
theorem f31 (b:Bk) (h:LH b) (h33:au Tryz.prog G 33 [eY b] (db (dh aS b))):au Tryz.prog G 31 [eY b] (.aC [ds (iG b),di (gB b)]):=by
 refine au.eG Tryz.func31 rfl Tryz.call31 ?_
 refine kD (aj:=NP b .empty 0 []) (cuts:=[6]) ?_
 refine aJ (fun ZT ZW ZQ ZK=>(ZK 33 [(.agg [(di b.t),(.slc 7 b.es.length (dM b.es))])] (db (dh aS b))∧(((!dh aS b)=true)→(((.aC [(ds (ByteArray.mk #[])),(di 1)]):DV)=(.aC [(ds (iG b)),(di (gB b))])))∧(((!dh aS b)=false)→(ZK 59 [(.agg [(di b.t),(.slc 7 b.es.length (dM b.es))])] (.slc 9 (aA b).length (dw (aA b)))∧ZW [cd Tryz.f31 [1,1,1,1,0,1,0],(.blk 0),cd Tryz.f31 [1,1,1,1,1]] (aI ZT [1]) ZQ)))) (by kernel_rfl) ?_
 refine⟨h33,fun c=>?_,fun c=>⟨f59 b h.sz h.all,?_⟩⟩
 ·have c:dh aS b=false:=by simpa using c
  unfold iG gB
  rw[c];rfl
 have c:dh aS b=true:=by simpa using c
 have hl:=h.evs
 have hok:∀j,j<(aA b).length→aS ((aA b).getD j ev0)=true:=fun j hj=>by
  refine val_ok c _ ((pF _).1 ?_)
  rw[List.getD,iy hj]
  exact List.getElem_mem hj
 have hall:=KL c
 have hel:(aA b).length≤12544:=by unfold aA;rw[xQ];exact hall
 have hsm:rQ (eX b):=by
  refine⟨by unfold eX;rw[List.length_map];omega,fun f hf=>?_⟩
  obtain ⟨e,he,rfl⟩:=List.mem_map.1 hf
  obtain ⟨_,q1,q2⟩:=yP (val_ok c e ((pF _).1 he))
  rw[q1,dR];omega
 unfold iG gB
 rw[if_pos c,if_pos c]
 refine bK.pre ((AS.dU.moves [(14,904)] _ rfl).trans ((AS.dU.of_le (st':=adD b) ?_).trans ((AS.dU.oq _ 5 904 0 (ji []) rfl rfl rfl (by kernel_rfl) fun i hi=>absurd hi (Nat.not_lt_zero i)).trans (.of_le (st':=S31 b 0 []) ?_)))) ?_
 ·exact AS.bJ (by kernel_rfl)
 ·exact AS.bJ (by kernel_rfl)
 refine bK.loop (c:=aU (ak Tryz.f31) [1,1,1,1,0,1,0,0]) (by kernel_rfl) (fun j=>S31 b j ((eX b).take j)) (fun j=>j≤(aA b).length) (fun j=>(aA b).length-j) 0 ?_ (Nat.zero_le _) ?_
 ·refine AS.leZ [] [0] (b:=((T0∧T0∧T0∧T0∧T0∧True)∧((some [(.arr ⟨false,9,false,none⟩ 1 (ji []))]):fO)=(some [(.arr ⟨false,9,false,none⟩ 1 (ji (List.take 0 (eX b))))])∧True)) (by kernel_rfl) (by kernel_rfl) ?_
  exact⟨⟨rfl,rfl,rfl,rfl,rfl,trivial⟩,rfl,trivial⟩
 intro j hj
 by_cases h2:j<(aA b).length
 ·have hok:=hok j h2
  obtain ⟨e0,_,_⟩:=yP hok
  obtain ⟨z1,z2⟩:=yw hok
  have h39:=f39 (G:=G) ((aA b).getD j ev0) (by omega) (by omega)
  have htk:(eX b).take (j+1)=(eX b).take j++[encS ((aA b).getD j ev0)]:=Js h2
  have htl:((eX b).take j).length≤12544:=by rw[List.length_take];omega
  generalize hLd:(eX b).take j=L at htl htk⊢
  refine gV (aj:=NP b (encS ((aA b).getD j ev0)) (gI ((aA b).getD j ev0)) []) ?_
  refine bD (fun ZT ZW ZQ ZK ZA _=>(fun Za=>((((decide ((↑j:Int)<↑(aA b).length))=true)→((((0≤(↑j:Int))∧((↑j:Int)<↑(aA b).length))∧ZK 39 [(.agg [(di Za.kind),(ds Za.k.st),(ds Za.k.ex),(di Za.k.n),(di Za.t),(di Za.v),(di Za.h),(ds Za.s),(db Za.acc)])] (.aC [(ds (encS ((aA b).getD j ev0))),(di (gI ((aA b).getD j ev0)))]))∧(((L.length+1)*16≤1099511627776)∧(L.length+1≤1099511627776))∧(I64 (↑j+1))∧(ZA (aI ZT [0]))))∧(((decide ((↑j:Int)<↑(aA b).length))=false)→ZW [cd Tryz.f31 [1,1,1,1,1]] (aI ZT [1]) ZQ))) ((aA b).getD (↑j:Int).toNat ev0)) (by kernel_rfl) ?_
  try dsimp only
  rw[show ((j:Int)).toNat=j from rfl]
  refine⟨fun _=>⟨⟨⟨by omega,by omega⟩,h39⟩,⟨by omega,by omega⟩,⟨by omega,by omega⟩,Again.Rf [(32,904)] rfl (j+1) ?_ h2 (by omega)⟩,fun hd=>absurd (of_decide_eq_false hd) (by omega)⟩
  refine AS.leZ [3] [0] (b:=((T0∧T0∧T0∧((.vec 904 1 0 (L.length+1)):AV)=(.vec 904 1 0 (List.take (j+1) (eX b)).length)∧T0∧True)∧((some [(.arr ⟨false,9,false,none⟩ 1 (fun i=>bif i.blt L.length then ji L i else aY false 1 [ds (encS ((aA b).getD j ev0))] (0+(i-L.length))))]):fO)=(some [(.arr ⟨false,9,false,none⟩ 1 (ji (List.take (j+1) (eX b))))])∧True)) (by kernel_rfl) (by kernel_rfl) ?_
  rw[htk]
  refine⟨⟨rfl,rfl,rfl,?_,rfl,trivial⟩,?_,trivial⟩
  ·rw[List.length_append];rfl
  ·simp only[Nat.zero_add]
   rw[BU]
 ·obtain rfl:j=(aA b).length:=by omega
  rw[List.take_of_length_le (by unfold eX;rw[List.length_map];exact Nat.le_refl _)]
  refine kD (aj:=NP b .empty 0 []) (cuts:=[8]) ?_
  refine bD (fun ZT ZW ZQ _ _ ZR=>((((decide ((↑(aA b).length:Int)<↑(aA b).length))=true)→ZW [cd Tryz.f31 [1,1,1,1,0,1,0,0,1,0,0],(.blk 1),cd Tryz.f31 [1,1,1,1,0,1,0,0,1,1]] (aI ZT [0]) ZR)∧(((decide ((↑(aA b).length:Int)<↑(aA b).length))=false)→ZW [cd Tryz.f31 [1,1,1,1,1]] (aI ZT [1]) ZQ))) (by kernel_rfl) ?_
  refine⟨fun hd=>absurd (dW hd) (by omega),fun _=>?_⟩
  refine gV (aj:=NP b .empty 0 (eX b)) ?_
  refine aJ (fun _ _ _ ZK=>(ZK 60 [(.slc 1 (eX b).length (fun i=>ji (eX b) (0+i)))] (.aC [(ds (fV (eX b))),(di (fU (eX b)))])∧(ZS ((.aC [(ds (fV (eX b))),(di (fU (eX b)))]):DV)))) (by kernel_rfl) ?_
  exact⟨au.args (f60 (eX b) hsm) fun _ us hh=>DV.jJ (fun _ hv=>zy _ (DV.gK (fun i _=>by rw[Nat.zero_add]) hv)) (fun _ h=>h) us hh,rfl⟩
def rB (b:Bk) (e:Ev):Bk:=if jA b e=0 then fK b e else eP
def OW (G:IH):Prop:=∀b e,iY b.es→qX b.es→aS e=true→au Tryz.prog G 46 [eY b,fQ e] (.aC [eY (rB b e),di (jA b e)])
noncomputable def S61 (l:List Ev) (j:Nat) (b:Bk):AS:=⟨regs Tryz.f61.ntmps [(0,.d (iO l)),(2,.box 2 0),(3,vb false),(4,.box 4 0),(5,vi j)],[(2,[.d (di 0),.d (.con (.slice none 0 0))]),(4,(iD b).map .d)]⟩
noncomputable def aei (l:List Ev):AS:=⟨regs Tryz.f61.ntmps [(0,.d (iO l)),(2,.box 2 0),(3,vb false),(4,.box 4 0),(5,vi 0)],[(2,[.d (di 0),.d (.con (.slice none 0 0))]),(4,[.d (di 0),.d (.con (.slice none 0 0))])]⟩
def abI (b:Bk) (e:Ev):eU:={ d:=fun f _=>bif Nat.beq f 19 then some (db (aS e)) else bif Nat.beq f 50 then some (db (wW b.es e)) else bif Nat.beq f 46 then some (.aC [eY (rB b e),di (jA b e)]) else none }
def LW (l:List Ev):DV:=match fE aS l eP with
 | some b=>.aC [eY b,db true]
 | none=>.aC [.agg [di 0,.con (.slice none 0 0)],db false]
theorem VP {l:List Ev} {j:Nat} {b:Bk} (hj:j<l.length) (h:fE aS (l.take j) eP=some b) (hn:¬(aS (l.getD j ev0)=true∧cZ b (l.getD j ev0)=0)):fE aS l eP=none:=by
 cases hr:fE aS l eP with
 | none=>rfl
 | some c=>
  exfalso
  have e:l=l.take j++(l.getD j ev0 :: l.drop (j+1)):=by
   rw[List.getD,iy hj]
   show l=l.take j++(l[j] :: l.drop (j+1))
   rw[←List.drop_eq_getElem_cons hj,List.take_append_drop]
  rw[e] at hr
  obtain ⟨c1,h1,h2⟩:=yc.1 hr
  rw[h] at h1
  cases h1
  exact hn (jG.1 h2).1
theorem VF {l:List Ev} {j:Nat} {b:Bk} (hj:j<l.length) (h:fE aS (l.take j) eP=some b) (h1:aS (l.getD j ev0)=true) (h2:cZ b (l.getD j ev0)=0):fE aS (l.take (j+1)) eP=some (fK b (l.getD j ev0)):=by
 rw[List.take_succ_eq_append_getElem hj]
 refine yc.2 ⟨b,h,?_⟩
 have e:l.getD j ev0=l[j]:=by rw[List.getD,iy hj];rfl
 rw[←e]
 exact Ph.2 ⟨⟨h1,h2⟩,rfl⟩
theorem aej (h46:OW G) (l:List Ev) (hl:l.length≤1000000) (hs:∀e∈l,e.k.st.size≤1000000∧e.k.ex.size≤1000000):au Tryz.prog G 61 [iO l] (LW l):=by
 refine au.eG Tryz.func61 rfl Tryz.call61 ?_
 refine gV (aj:={ d:=bU }) ?_
 refine aJ (fun ZT ZW ZQ _=>ZW [cd Tryz.f61 [1,1,0,1,0],(.blk 0),cd Tryz.f61 [1,1,1]] (aI ZT []) ZQ) (by kernel_rfl) ?_
 refine bK.weaken (st':=aei l) ?_ ?_
 ·exact AS.bJ (by kernel_rfl)
 refine bK.pre (.cell _ 4 1 (.d (nN [])) (l:=[.d (di 0),.d (.con (.slice none 0 0))]) rfl rfl rfl fun β h v hv=>?_) ?_
 ·have hv:v=.slice none 0 0:=hv
  subst hv
  exact⟨none,0,rfl,Nat.le_refl _,.inl rfl⟩
 refine bK.loop (c:=aU (ak Tryz.f61) [1,1,0,1,0,0]) (by kernel_rfl) (fun x:Nat×Bk=>S61 l x.1 x.2) (fun x=>x.1≤l.length∧fE aS (l.take x.1) eP=some x.2) (fun x=>l.length-x.1) (0,eP) ?_ ⟨Nat.zero_le _,rfl⟩ ?_
 ·exact AS.bJ (by kernel_rfl)
 rintro ⟨j,b⟩ ⟨hj,hr⟩
 have hj:j≤l.length:=hj
 have hr:fE aS (l.take j) eP=some b:=hr
 have hg:Good b:=zS F9 hr
 have hb:qX b.es:=yU (fun i h=>by cases h) hr
 have hz:=Bg hg hb
 by_cases h2:j<l.length
 ·refine gV (aj:=abI b (l.getD j ev0)) ?_
  refine bD (fun ZT ZW ZQ ZK ZA _=>(fun Za=>((((decide ((↑j:Int)<↑l.length))=true)→((((0≤(↑j:Int))∧((↑j:Int)<↑l.length))∧ZK 19 [Za] (db (aS (l.getD j ev0)))∧(((!!aS (l.getD j ev0))=true)→((0≤(↑j:Int))∧((↑j:Int)<↑l.length)))∧(((!!aS (l.getD j ev0))=true)→ZK 50 [(.agg [(di b.t),(.slc 7 b.es.length (dM b.es))]),Za] (db (wW b.es (l.getD j ev0)))))∧(((!aS (l.getD j ev0)||wW b.es (l.getD j ev0))=true)→(((.aC [(.agg [(di 0),bY]),(db false)]):DV)=(LW l)))∧(((!aS (l.getD j ev0)||wW b.es (l.getD j ev0))=false)→((((0≤(↑j:Int))∧((↑j:Int)<↑l.length))∧ZK 46 [(.agg [(di b.t),(.slc 7 b.es.length (dM b.es))]),Za] (.aC [(.agg [(di (rB b (l.getD j ev0)).t),(.slc 7 (rB b (l.getD j ev0)).es.length (dM (rB b (l.getD j ev0)).es))]),(di (jA b (l.getD j ev0)))]))∧(((jA b (l.getD j ev0) != 0)=true)→(((.aC [(.agg [(di 0),bY]),(db false)]):DV)=(LW l)))∧(((jA b (l.getD j ev0) != 0)=false)→((I64 (↑j+1))∧(ZA (aI ZT [0,1,1]))))))))∧(((decide ((↑j:Int)<↑l.length))=false)→ZW [cd Tryz.f61 [1,1,1]] (aI ZT [1]) ZQ))) ((.agg [(di (l.getD (↑j:Int).toNat ev0).kind),(ds (l.getD (↑j:Int).toNat ev0).k.st),(ds (l.getD (↑j:Int).toNat ev0).k.ex),(di (l.getD (↑j:Int).toNat ev0).k.n),(di (l.getD (↑j:Int).toNat ev0).t),(di (l.getD (↑j:Int).toNat ev0).v),(di (l.getD (↑j:Int).toNat ev0).h),(ds (l.getD (↑j:Int).toNat ev0).s),(db (l.getD (↑j:Int).toNat ev0).acc)]):DV)) (by kernel_rfl) ?_
  try dsimp only
  rw[show ((j:Int)).toNat=j from rfl]
  have hse:=hs _ (LK h2)
  have hst:=VP (l:=l) h2 hr
  have hnx:=VF (l:=l) h2 hr
  generalize l.getD j ev0=e at *
  have hnone:¬(aS e=true∧cZ b e=0)→DV.aC [.agg [di 0,.con (.slice none 0 0)],db false]=LW l:=fun hn=>by
   unfold LW;rw[hst hn]
  refine⟨fun _=>⟨⟨⟨by omega,by omega⟩,f19 e hse.1 hse.2,fun _=>⟨by omega,by omega⟩,fun _=>f50 b e hz⟩,fun c=>hnone ?_,fun c=>?_⟩,fun hd=>absurd (of_decide_eq_false hd) (by omega)⟩
  ·rintro ⟨q1,q2⟩
   rw[q1,Bool.not_true,Bool.false_or] at c
   have q3:e∈bG b.es:=dW c
   have q4:cZ b e=6:=by unfold cZ;rw[if_pos ((F7 hg e).2 q3)]
   rw[q4] at q2;exact absurd q2 (by decide)
  ·obtain ⟨c1,c2⟩:=Bool.or_eq_false_iff.1 c
   have ok:aS e=true:=by simpa using c1
   have hni:e∉bG b.es:=of_decide_eq_false c2
   have hh:hasB b.es e=false:=by
    rw[Bool.eq_false_iff];exact fun q=>hni ((F7 hg e).1 q)
   have ha:=Rt (jX ok) hg.few hb hh
   refine⟨⟨⟨by omega,by omega⟩,h46 b e hz hb ok⟩,fun c3=>hnone ?_,fun c3=>?_⟩
   ·have c3:jA b e≠0:=by simpa using c3
    rw[←ha]
    exact fun q=>c3 q.2
   ·have c3:jA b e=0:=by simpa using c3
    have hB:rB b e=fK b e:=by unfold rB;rw[if_pos c3]
    refine⟨⟨by omega,by omega⟩,Again.mk (j+1,fK b e) ?_ ⟨h2,hnx ok (by rw[←ha];exact c3)⟩ (by show l.length-(j+1)<l.length-j;omega)⟩
    refine AS.leZ [] [1] (b:=((T0∧T0∧T0∧T0∧T0∧True)∧T0∧((some [(vi (rB b e).t),(.d (.slc 7 (rB b e).es.length (dM (rB b e).es)))]):fO)=(some [(vi e.t),(.d (.slc 7 (eu b.es e).length (dM (eu b.es e))))])∧True)) (by kernel_rfl) (by kernel_rfl) ?_
    rw[hB]
    exact⟨⟨rfl,rfl,rfl,rfl,rfl,trivial⟩,rfl,rfl,trivial⟩
 ·obtain rfl:j=l.length:=by omega
  rw[List.take_length] at hr
  refine kD (aj:={ d:=bU }) (cuts:=[5]) ?_
  refine bD (fun ZT ZW ZQ _ _ ZR=>((((decide ((↑l.length:Int)<↑l.length))=true)→ZW [cd Tryz.f61 [1,1,0,1,0,0,1,0,0,0],cd Tryz.f61 [1,1,0,1,0,0,1,0,0,1],(.blk 1),cd Tryz.f61 [1,1,0,1,0,0,1,1]] (aI ZT [0]) ZR)∧(((decide ((↑l.length:Int)<↑l.length))=false)→ZW [cd Tryz.f61 [1,1,1]] (aI ZT [1]) ZQ))) (by kernel_rfl) ?_
  refine⟨fun hd=>absurd (dW hd) (by omega),fun _=>?_⟩
  refine gV (aj:={ d:=bU }) ?_
  refine aJ (fun _ _ _ _=>(((.aC [(.agg [(di b.t),(.slc 7 b.es.length (dM b.es))]),(db true)]):DV)=(LW l))) (by kernel_rfl) ?_
  unfold LW
  rw[hr]
def kN (l:List Ev):Bk:=(fE aS l eP).getD eP
theorem f61 (h46:OW G) (l:List Ev) (hl:l.length≤1000000) (hs:∀e∈l,e.k.st.size≤1000000∧e.k.ex.size≤1000000):au Tryz.prog G 61 [iO l] (.aC [eY (kN l),db (fE aS l eP).isSome]):=by
 refine au.imp (aej h46 l hl hs) fun k v hv=>?_
 unfold LW at hv
 unfold kN
 cases hr:fE aS l eP with
 | some b=>rw[hr] at hv;exact hv
 | none=>
  rw[hr] at hv
  obtain ⟨vs,e,x0,u0,e0,h0,rest⟩:=hv
  refine⟨vs,e,x0,u0,e0,?_,rest⟩
  obtain ⟨ws,e1,y0,w0,e2,k0,y1,w1,e3,k1,k2⟩:=h0
  refine⟨ws,e1,y0,w0,e2,k0,y1,w1,e3,?_,k2⟩
  have k1:y1=.slice none 0 0:=k1
  subst k1
  exact⟨none,0,rfl,Nat.le_refl _,.inl rfl⟩
noncomputable def S33 (b:Bk) (j:Nat):AS:=⟨regs Tryz.f33.ntmps [(1,.box 1 0),(2,vb false),(3,vi j)],[(1,(iD b).map .d)]⟩
def NG (b:Bk):eU:={ d:=fun f _=>bif Nat.beq f 59 then some (iO (aA b)) else bif Nat.beq f 61 then some (.aC [eY (kN (aA b)),db (fE aS (aA b) eP).isSome]) else bif Nat.beq f 17 then some (db (decide (kN (aA b)=b))) else none }
theorem S9 (b:Bk) (h:b.es.length≤256):((fE aS (aA b) eP).isSome&&decide (kN (aA b)=b))=dh aS b:=by
 unfold dh kN
 rw[decide_eq_true h,Bool.true_and]
 cases hr:fE aS (aA b) eP with
 | none=>rfl
 | some c=>
  rw[Bool.eq_iff_iff]
  simp
theorem f33 (h46:OW G) (b:Bk) (h:LH b):au Tryz.prog G 33 [eY b] (db (dh aS b)):=by
 have hz:=h.sz
 have hv:=Y8 (ok:=aS) (fun _=>jX) b
 refine au.eG Tryz.func33 rfl Tryz.call33 ?_
 refine gV (aj:=NG b) ?_
 refine aJ (fun ZT ZW ZQ _=>((((decide ((↑b.es.length:Int)>256))=true)→(((db false):DV)=(db (dh aS b))))∧(((decide ((↑b.es.length:Int)>256))=false)→ZW [cd Tryz.f33 [1,1,0,1,0],(.blk 0),cd Tryz.f33 [1,1,1]] (aI ZT [1]) ZQ))) (by kernel_rfl) ?_
 refine⟨fun c=>?_,fun c=>?_⟩
 ·unfold dh
  rw[decide_eq_false (by have:=dW c;omega),Bool.false_and]
 have hl:b.es.length≤256:=by have:=of_decide_eq_false c;omega
 refine bK.loop (c:=aU (ak Tryz.f33) [1,1,0,1,0,0]) (by kernel_rfl) (fun j:Nat=>S33 b j) (fun j=>j≤b.es.length) (fun j=>b.es.length-j) 0 ?_ (Nat.zero_le _) ?_
 ·exact AS.bJ (by kernel_rfl)
 intro j hj
 by_cases h2:j<b.es.length
 ·refine gV (aj:=NG b) ?_
  refine bD (fun ZT ZW ZQ _ ZA _=>(fun Za=>((((decide ((↑j:Int)<↑b.es.length))=true)→((((0≤(↑j:Int))∧((↑j:Int)<↑b.es.length))∧(((!decide ((↑(b.es.getD (↑j:Int).toNat en0).gs.length:Int)>16))=true)→((0≤(↑j:Int))∧((↑j:Int)<↑b.es.length))))∧((Za=true)→(((db false):DV)=(db (dh aS b))))∧((Za=false)→((I64 (↑j+1))∧(ZA (aI ZT [0,1]))))))∧(((decide ((↑j:Int)<↑b.es.length))=false)→ZW [cd Tryz.f33 [1,1,1]] (aI ZT [1]) ZQ))) (decide ((↑(b.es.getD (↑j:Int).toNat en0).gs.length:Int)>16)||decide ((↑(b.es.getD (↑j:Int).toNat en0).ah.length:Int)>16))) (by kernel_rfl) ?_
  try dsimp only
  rw[show ((j:Int)).toNat=j from rfl]
  generalize hx:b.es.getD j en0=x
  refine⟨fun _=>⟨⟨⟨by omega,by omega⟩,fun _=>⟨by omega,by omega⟩⟩,fun c2=>?_,fun c2=>⟨⟨by omega,by omega⟩,Again.mk (j+1) ?_ h2 (by show b.es.length-(j+1)<b.es.length-j;omega)⟩⟩,fun hd=>absurd (of_decide_eq_false hd) (by omega)⟩
  ·have:dh aS b=false:=by
    rw[←hv]
    unfold Xa
    rw[List.all_eq_false.2 ⟨x,?_,?_⟩,Bool.false_and,Bool.and_false]
    ·rw[←hx,List.getD,iy h2]
     exact List.getElem_mem h2
    ·unfold uT
     rw[Bool.or_eq_true,eF,eF] at c2
     intro q
     rw[aV,eF,eF] at q
     omega
   rw[this]
  ·exact AS.bJ (by kernel_rfl)
 ·obtain rfl:j=b.es.length:=by omega
  refine kD (aj:=NG b) (cuts:=[8]) ?_
  refine bD (fun ZT ZW ZQ _ ZA _=>(fun Za=>((((decide ((↑b.es.length:Int)<↑b.es.length))=true)→((((0≤(↑b.es.length:Int))∧((↑b.es.length:Int)<↑b.es.length))∧(((!decide ((↑Za.gs.length:Int)>16))=true)→((0≤(↑b.es.length:Int))∧((↑b.es.length:Int)<↑b.es.length))))∧(((decide ((↑Za.gs.length:Int)>16)||decide ((↑Za.ah.length:Int)>16))=true)→(((db false):DV)=(db (dh aS b))))∧(((decide ((↑Za.gs.length:Int)>16)||decide ((↑Za.ah.length:Int)>16))=false)→((I64 (↑b.es.length+1))∧(ZA (aI ZT [0,1]))))))∧(((decide ((↑b.es.length:Int)<↑b.es.length))=false)→ZW [cd Tryz.f33 [1,1,1]] (aI ZT [1]) ZQ))) (b.es.getD (↑b.es.length:Int).toNat en0)) (by kernel_rfl) ?_
  refine⟨fun hd=>absurd (dW hd) (by omega),fun _=>?_⟩
  refine gV (aj:=NG b) ?_
  refine aJ (fun _ _ _ ZK=>(fun Za=>((ZK 59 [(.agg [(di b.t),(.slc 7 b.es.length (dM b.es))])] (.slc 9 (aA b).length (dw (aA b)))∧ZK 61 [(.slc 9 (aA b).length (dw (aA b)))] (.aC [Za,(db (fE aS (aA b) eP).isSome)]))∧(((fE aS (aA b) eP).isSome=true)→ZK 17 [Za,(.agg [(di b.t),(.slc 7 b.es.length (dM b.es))])] (db (decide (kN (aA b)=b))))∧((db ((fE aS (aA b) eP).isSome&&decide (kN (aA b)=b))):DV)=(db (dh aS b)))) ((.agg [(di (kN (aA b)).t),(.slc 7 (kN (aA b)).es.length (dM (kN (aA b)).es))]):DV)) (by kernel_rfl) ?_
  try dsimp only
  have hse:∀e∈aA b,e.k.st.size≤1000000∧e.k.ex.size≤1000000:=fun e he=>by
   obtain ⟨i,hi,rfl⟩:=List.mem_iff_getElem.1 he
   have:=h.str i
   rwa [List.getD,iy hi] at this
  refine⟨⟨f59 b hz h.all,f61 h46 (aA b) h.evs hse⟩,fun q=>f17 _ b ?_,congrArg db (S9 b hl)⟩
  obtain ⟨c,hc⟩:=Option.isSome_iff_exists.1 q
  have hR:kN (aA b)=c:=by unfold kN;rw[hc];rfl
  rw[hR]
  exact Bg (zS F9 hc) (yU (fun i h=>by cases h) hc)
def TD:DV:=.agg [di 0,.con (.slice none 0 0)]
theorem VN {n:Int} {h:IH} {v:Value} (hv:(DV.aC [TD,di n]).rel h v):(DV.aC [eY eP,di n]).rel h v:=by
 obtain ⟨vs,e,x0,u0,e0,h0,rest⟩:=hv
 refine⟨vs,e,x0,u0,e0,?_,rest⟩
 obtain ⟨ws,e1,y0,w0,e2,k0,y1,w1,e3,k1,k2⟩:=h0
 refine⟨ws,e1,y0,w0,e2,k0,y1,w1,e3,?_,k2⟩
 have k1:y1=.slice none 0 0:=k1
 subst k1
 exact⟨none,0,rfl,Nat.le_refl _,.inl rfl⟩
theorem Pj:∀{l:List Ev} {a c:Bk},dh aS a=true→fE aS l a=some c→dh aS c=true
 | [],_,_,g,h=>by cases h;exact g
 | e :: l,a,c,g,h=>by
  obtain ⟨⟨h1,h2⟩,h3⟩:=jG.1 h
  exact Pj (Df (fun _=>jX) g h1 h2) h3
theorem LY:∀{l:List ByteArray} {b:Bk},(∀s∈l,fF s=true)→nV l b=fE aS (l.map aX) b
 | [],_,_=>rfl
 | s :: l,b,h=>by
  have hs:=h s (by simp)
  show (if fF s=true∧cZ b (aX s)=0 then nV l (fK b (aX s)) else none)=(if aS (aX s)=true∧cZ b (aX s)=0 then fE aS (l.map aX) (fK b (aX s)) else none)
  rw[hs,xH hs,LY fun x hx=>h x (List.mem_cons_of_mem _ hx)]
theorem Oa:∀{l:List ByteArray} {b:Bk} {s:ByteArray},s∈l→fF s=false→nV l b=none
 | a :: l,b,s,hs,hn=>by
  show (if fF a=true∧cZ b (aX a)=0 then nV l (fK b (aX a)) else none)=none
  split
  ·rename_i c
   rcases List.mem_cons.1 hs with rfl|hs
   ·rw[hn] at c;exact absurd c.1 (by decide)
   ·exact Oa hs hn
  ·rfl
theorem aaj {X:List UInt8}:(aW X).length≤X.length:=by
 unfold aW
 cases hu:uM X with
 | none=>exact Nat.zero_le _
 | some l=>
  show l.length≤_
  have:=rV l
  rw[Iy hu] at this
  omega
noncomputable def adA (D:ByteArray) (L:List ByteArray):AS:=⟨regs Tryz.f43.ntmps [(0,vs D),(2,.box 2 0),(3,vi 0),(4,.d (lZ L)),(6,.vec 906 9 0 0),(7,vi 0)],[(2,[.d (di 0),.d (.con (.slice none 0 0))]),(906,[.arr mD 9 (fun _=>.con undef)])]⟩
noncomputable def XL (D:ByteArray) (L:List ByteArray) (j:Nat) (m:List Ev) (f:Nat→DV) (n:Nat):AS:=⟨regs Tryz.f43.ntmps [(0,vs D),(2,.box 2 0),(3,vi 0),(4,.d (lZ L)),(6,.vec 906 9 0 n),(7,vi j)],[(2,[.d (di 0),.d (.con (.slice none 0 0))]),(906,[.arr mD 9 f])]⟩
noncomputable def Z5 (L:List ByteArray) (c:Int) (e:Ev) (code:Int) (m:List Ev):iw:=fun f _=>match f with
 | 72=>some (.aC [lZ L,di c])
 | 41=>some (.aC [fQ e,di code])
 | 61=>some (.aC [eY (kN m),db (fE aS m eP).isSome])
 | 31=>some (.aC [ds (iG (kN m)),di (gB (kN m))])
 | _=>none
noncomputable def NR (L:List ByteArray) (c:Int) (e:Ev) (code:Int) (m:List Ev):eU:={ d:=Z5 L c e code m,rows:=fun n=>Nat.beq n 22||Nat.beq n 42 }
noncomputable def D6 (D:ByteArray):DV:=bif qY D then .aC [eY (nX D),di 0] else .aC [TD,di 11]
theorem adi (h46:OW G) (D:ByteArray) (hD:D.size≤8000):au Tryz.prog G 43 [ds D] (D6 D):=by
 have h72:=f72 (G:=G) D hD
 have hsm:=CQ (X:=D.data.toList) (by rw[dZ];exact hD)
 have hlen:(aW D.data.toList).length≤8000:=by
  have:=aaj (X:=D.data.toList)
  rw[dZ] at this;omega
 have hno:qY D=false→DV.aC [TD,di 11]=D6 D:=fun h=>by unfold D6;rw[h];rfl
 have hO:qY D=(decide (kJ D.data.toList=0)&&(match nV (aW D.data.toList) eP with|some b=>decide (gB b=0)&&decide (iG b=D)|none=>false)):=rfl
 have hB:nX D=if qY D=true then (nV (aW D.data.toList) eP).getD eP else eP:=rfl
 generalize aW D.data.toList=L at *
 generalize kJ D.data.toList=c at *
 refine au.eG Tryz.func43 rfl Tryz.call43 ?_
 refine kD (aj:=NR L c ev0 0 []) (cuts:=[6]) ?_
 refine aJ (fun ZT ZW ZQ ZK=>(ZK 72 [(ds D)] (.aC [(.slc 1 L.length (nJ L)),(di c)])∧(((c != 0)=true)→(((.aC [(.agg [(di 0),bY]),(di 11)]):DV)=(D6 D)))∧(((c != 0)=false)→ZW [cd Tryz.f43 [1,1,1,1,0,1,0],(.blk 0),cd Tryz.f43 [1,1,1,1,1]] (aI ZT [1]) ZQ))) (by kernel_rfl) ?_
 refine⟨h72,fun q=>hno ?_,fun q=>?_⟩
 ·have q:c≠0:=by simpa using q
  rw[hO,decide_eq_false q,Bool.false_and]
 have q:c=0:=by simpa using q
 rw[decide_eq_true q,Bool.true_and] at hO
 refine bK.pre ((AS.dU.moves [(22,906)] _ rfl).trans ((AS.dU.of_le (st':=adA D L) ?_).trans ((AS.dU.oq _ 6 906 0 (dw []) rfl rfl rfl (by kernel_rfl) fun i hi=>absurd hi (Nat.not_lt_zero i)).trans (.of_le (st':=XL D L 0 [] (dw []) 0) ?_)))) ?_
 ·exact AS.bJ (by kernel_rfl)
 ·exact AS.bJ (by kernel_rfl)
 refine bK.loop (c:=aU (ak Tryz.f43) [1,1,1,1,0,1,0,0]) (by kernel_rfl) (fun j:Nat=>XL D L j [] (dw ((L.take j).map aX)) ((L.take j).map aX).length) (fun j=>j≤L.length∧∀s∈L.take j,fF s=true) (fun j=>L.length-j) 0 ?_ ⟨Nat.zero_le _,fun s hs=>by simp at hs⟩ ?_
 ·refine AS.leZ [] [1] (b:=((T0∧T0∧T0∧T0∧T0∧T0∧True)∧T0∧((some [(.arr bV 9 (dw []))]):fO)=(some [(.arr bV 9 (dw (List.map aX (List.take 0 L))))])∧True)) (by kernel_rfl) (by kernel_rfl) ?_
  exact⟨⟨rfl,rfl,rfl,rfl,rfl,rfl,trivial⟩,rfl,rfl,trivial⟩
 rintro j ⟨hj,hq⟩
 by_cases h2:j<L.length
 ·have h41:=f41 (G:=G) (bn L j) (hsm j)
  have htk:L.take (j+1)=L.take j++[bn L j]:=by rw[List.take_succ_eq_append_getElem h2,tN h2]
  have hml:((L.take j).map aX).length≤8000:=by rw[List.length_map,List.length_take];omega
  have hmem:bn L j∈L:=by rw[tN h2];exact List.getElem_mem h2
  have hmap:(L.take (j+1)).map aX=(L.take j).map aX++[aX (bn L j)]:=by rw[htk,List.map_append];rfl
  generalize hmd:(L.take j).map aX=m at hml hmap⊢
  generalize hs:bn L j=s at *
  refine gV (aj:=NR L c (aX s) (jQ s) []) ?_
  refine bD (fun ZT ZW ZQ ZK ZA _=>((((decide ((↑j:Int)<↑L.length))=true)→((((0≤(↑j:Int))∧((↑j:Int)<↑L.length))∧ZK 41 [(ds (bn L (↑j:Int).toNat))] (.aC [(.agg [(di (aX s).kind),(ds (aX s).k.st),(ds (aX s).k.ex),(di (aX s).k.n),(di (aX s).t),(di (aX s).v),(di (aX s).h),(ds (aX s).s),(db (aX s).acc)]),(di (jQ s))]))∧(((jQ s != 0)=true)→(((.aC [(.agg [(di 0),bY]),(di 11)]):DV)=(D6 D)))∧(((jQ s != 0)=false)→((((m.length+1)*96≤1099511627776)∧(m.length+1≤1099511627776))∧(I64 (↑j+1))∧(ZA (aI ZT [0,1]))))))∧(((decide ((↑j:Int)<↑L.length))=false)→ZW [cd Tryz.f43 [1,1,1,1,1]] (aI ZT [1]) ZQ))) (by kernel_rfl) ?_
  rw[show ((j:Int)).toNat=j from rfl,hs]
  refine⟨fun _=>⟨⟨⟨by omega,by omega⟩,h41⟩,fun q2=>hno ?_,fun q2=>?_⟩,fun hd=>absurd (of_decide_eq_false hd) (by omega)⟩
  ·have q2:jQ s≠0:=by simpa using q2
   have hf:fF s=false:=by
    cases hc:fF s with
    | false=>rfl
    | true=>rw[yX,if_pos hc] at q2;exact absurd rfl q2
   rw[hO,Oa hmem hf]
  ·have q2:jQ s=0:=by simpa using q2
   have ht:fF s=true:=by
    cases hc:fF s with
    | true=>rfl
    | false=>rw[yX,hc] at q2;exact absurd q2 (by decide)
   refine⟨⟨by omega,by omega⟩,⟨by omega,by omega⟩,j+1,?_,⟨h2,fun x hx=>?_⟩,show L.length-(j+1)<L.length-j from by omega⟩
   ·show AS.dU _ (XL D L (j+1) [] (dw ((L.take (j+1)).map aX)) ((L.take (j+1)).map aX).length)
    rw[hmap]
    refine(AS.dU.moves [(43,906)] _ rfl).trans ((AS.dU.of_le (st':=XL D L (j+1) [] (uo m (aX s)) (m.length+1)) ?_).trans ((AS.dU.oq _ 6 906 (m.length+1) (dw (m++[aX s])) rfl rfl rfl (by kernel_rfl) fun i hi=>tK hi).trans (.of_le ?_)))
    ·exact AS.bJ (by kernel_rfl)
    ·refine AS.leZ [4] [] (b:=((T0∧T0∧T0∧T0∧((.vec 906 9 0 (m.length+1)):AV)=(.vec 906 9 0 (m++[aX s]).length)∧T0∧True)∧T0∧T0∧True)) (by kernel_rfl) (by kernel_rfl) ?_
     exact⟨⟨rfl,rfl,rfl,rfl,congrArg (AV.vec 906 9 0) (iT _ _).symm,rfl,trivial⟩,rfl,rfl,trivial⟩
   ·rw[htk] at hx
    rcases List.mem_append.1 hx with hx|hx
    ·exact hq x hx
    ·rw[List.mem_singleton] at hx;subst hx;exact ht
 ·obtain rfl:j=L.length:=by omega
  rw[List.take_length] at *
  have hrd:=LY (b:=eP) hq
  rw[hrd] at hO hB
  generalize hmd:L.map aX=m at *
  refine kD (aj:=NR L c ev0 0 m) (cuts:=[12]) ?_
  refine bD (fun ZT ZW ZQ ZK ZA _=>((((decide ((↑L.length:Int)<↑L.length))=true)→((((0≤(↑L.length:Int))∧((↑L.length:Int)<↑L.length))∧ZK 41 [(ds (bn L (↑L.length:Int).toNat))] (.aC [(.agg [(di 0),(ds ByteArray.empty),(ds ByteArray.empty),(di 0),(di 0),(di 0),(di 0),(ds ByteArray.empty),(db false)]),(di 0)]))∧((false=true)→(((.aC [(.agg [(di 0),bY]),(di 11)]):DV)=(D6 D)))∧((false=false)→((((m.length+1)*96≤1099511627776)∧(m.length+1≤1099511627776))∧(I64 (↑L.length+1))∧(ZA (aI ZT [0,1]))))))∧(((decide ((↑L.length:Int)<↑L.length))=false)→ZW [cd Tryz.f43 [1,1,1,1,1]] (aI ZT [1]) ZQ))) (by kernel_rfl) ?_
  refine⟨fun hd=>absurd (dW hd) (by omega),fun _=>?_⟩
  refine gV (aj:=NR L c ev0 0 m) ?_
  refine aJ (fun _ _ _ ZK=>(fun Za=>(ZK 61 [(.slc 9 m.length (fun i=>dw m (0+i)))] (.aC [Za,(db (fE aS m eP).isSome)])∧(((!(fE aS m eP).isSome)=true)→(((.aC [(.agg [(di 0),bY]),(di 11)]):DV)=(D6 D)))∧(((!(fE aS m eP).isSome)=false)→(ZK 31 [Za] (.aC [(ds (iG (kN m))),(di (gB (kN m)))])∧(((gB (kN m) != 0||!(iG (kN m)).toList==D.toList)=true)→(((.aC [(.agg [(di 0),bY]),(di 11)]):DV)=(D6 D)))∧(((gB (kN m) != 0||!(iG (kN m)).toList==D.toList)=false)→(((.aC [Za,(di 0)]):DV)=(D6 D))))))) ((.agg [(di (kN m).t),(.slc 7 (kN m).es.length (dM (kN m).es))]):DV)) (by kernel_rfl) ?_
  try dsimp only
  simp only[dO]
  have hml:m.length≤1000000:=by rw[←hmd,List.length_map];omega
  have hse:∀e∈m,e.k.st.size≤1000000∧e.k.ex.size≤1000000:=fun e he=>by
   rw[←hmd] at he
   obtain ⟨s,hs,rfl⟩:=List.mem_map.1 he
   obtain ⟨z1,z2⟩:=yw (xH (hq s hs))
   exact⟨by omega,by omega⟩
  have h61:=f61 h46 m hml hse
  refine⟨au.args h61 fun _ us hh=>DV.jJ (fun _ hv=>DV.gK (fun i hi=>by rw[Nat.zero_add]) hv) (fun _ h=>h) us hh,fun q2=>hno ?_,fun q2=>?_⟩
  ·have q2:(fE aS m eP).isSome=false:=by simpa using q2
   have:fE aS m eP=none:=by
    cases hr:fE aS m eP with
    | none=>rfl
    | some b=>rw[hr] at q2;cases q2
   rw[hO,this]
  ·have q2:(fE aS m eP).isSome=true:=by simpa using q2
   obtain ⟨b,hr⟩:=Option.isSome_iff_exists.1 q2
   have hR:kN m=b:=by unfold kN;rw[hr];rfl
   rw[hr] at hO hB
   have hO:qY D=(decide (gB b=0)&&decide (iG b=D)):=hO
   rw[hR]
   have hbS:=vH (Pj Lc hr)
   refine⟨f31 b hbS (f33 h46 b hbS),fun q3=>hno ?_,fun q3=>?_⟩
   ·rw[hO]
    rw[Bool.or_eq_true] at q3
    rcases q3 with q3|q3
    ·have q3:gB b≠0:=by simpa using q3
     rw[decide_eq_false q3,Bool.false_and]
    ·have q3:iG b≠D:=by simpa using q3
     rw[decide_eq_false q3,Bool.and_false]
   ·rw[Bool.or_eq_false_iff] at q3
    have q4:gB b=0:=by simpa using q3.1
    have q5:iG b=D:=by simpa using q3.2
    rw[decide_eq_true q4,decide_eq_true q5] at hO
    have hO:qY D=true:=hO
    rw[if_pos hO] at hB
    unfold D6
    rw[hO,hB]
    rfl
theorem f43 (h46:OW G) (D:ByteArray) (hD:D.size≤8000):au Tryz.prog G 43 [ds D] (.aC [eY (nX D),di (qW D)]):=by
 refine au.imp (adi h46 D hD) fun k v hv=>?_
 unfold D6 at hv
 cases hO:qY D with
 | true=>
  have hC:qW D=0:=by unfold qW;rw[if_pos hO]
  rw[hO] at hv
  rw[hC];exact hv
 | false=>
  have hC:qW D=11:=by unfold qW;rw[if_neg (by rw[hO];decide)]
  have hB:nX D=eP:=by unfold nX;rw[if_neg (by rw[hO];decide)]
  rw[hO] at hv
  rw[hC,hB];exact VN hv
end Go.Proofs
