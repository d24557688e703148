import Derived.Test.YtcfclncbpeahnaaGreatDoorAcD
import Derived.Test.YtcfclncbpeahnaaGreatDoorG7
import Derived.Test.YtcfclncbpeahnaaGreatDoorG5
import Derived.Test.YtcfclncbpeahnaaGreatDoorG6
/- The reference's parser: min and max. -/
set_option autoImplicit false
namespace Go.Proofs
open Go Go.Ab Go.RowKit
set_option maxHeartbeats 4000000
set_option maxRecDepth 100000
variable {G:IH}
def xR (Y:List Tk→Ex):Nat→List Ex→List Tk→List Ex×List Tk×Bool
 | 0,l,t=>(l,t,true)
 | k+1,l,t=>match pr (.lvl 0) t with
   | .ok _ r=>if ah r=dF then xR Y k (l++[Y t]) r.tail else (l++[Y t],r,false)
   | .bad r=>(l++[Y t],r,true)
def CW (z:List Tk×Bool):List Tk×Bool:=if z.2=true then z else if ah z.1=fA then (z.1.tail,false) else (z.1,true)
theorem abn {Y:List Tk→Ex} {kd a:Int} (hY:∀t x r,pr (.lvl 0) t=.ok x r→Y t=x):∀(k:Nat) (l:List Ex) (t:List Tk),t.length<k→
  (CW (xR Y k l t).2).1=aQ (pr (.args (.mk kd .empty 0 0 a l)) t)∧(CW (xR Y k l t).2).2=isBad (pr (.args (.mk kd .empty 0 0 a l)) t)∧∀z r,pr (.args (.mk kd .empty 0 0 a l)) t=.ok z r→(.mk kd .empty 0 0 a (xR Y k l t).1)=z:=by
 intro k
 induction k with
 | zero=>intro l t h;omega
 | succ k ih=>
  intro l t h
  unfold xR
  rw[zX]
  have hle:=mg (.lvl 0) t
  cases hq:pr (.lvl 0) t with
  | ok y r=>
   rw[hq] at hle
   simp only[aQ] at hle
   have hy:=hY _ _ _ hq
   try dsimp only
   rw[hy]
   have ea:uo (.mk kd .empty 0 0 a l) y=.mk kd .empty 0 0 a (l++[y]):=rfl
   rw[ea]
   by_cases hc:ah r=dF
   ·rw[if_pos hc,if_pos hc]
    have:=bK (t:=r) (by rw[hc];decide)
    exact ih _ _ (by omega)
   ·rw[if_neg hc,if_neg hc]
    unfold CW
    try dsimp only
    rw[if_neg (by decide)]
    by_cases hs:ah r=fA
    ·rw[if_pos hs,if_pos hs]
     refine⟨rfl,rfl,fun z q c=>?_⟩
     injection c with c1 c2
    ·rw[if_neg hs,if_neg hs]
     exact⟨rfl,rfl,fun z q c=>(by cases c)⟩
  | bad r=>exact⟨rfl,rfl,fun z r2 q=>(by cases q)⟩
noncomputable def abq (T:List Tk) (e:Int) (k a:Int) (t:List Tk) (b:Bool):AS:=⟨regs Tryz.f89.ntmps [(0,.box 1000000 0),(2,.box 2 0),(7,.box 7 0)],[(2,zeroE),(7,[vi k,vs ⟨#[]⟩,vi 0,vi 0,vi a,.d (.con (.slice none 0 0))]),(1000000,qC T e t b)]⟩
noncomputable def adS (T:List Tk) (e:Int) (k a:Int) (z:List Ex×List Tk×Bool):AS:=⟨regs Tryz.f89.ntmps [(0,.box 1000000 0),(2,.box 2 0),(7,.box 7 0)],[(2,zeroE),(7,[vi k,vs ⟨#[]⟩,vi 0,vi 0,vi a,.vec 900 6 0 z.1.length]),(900,[.arr IZ 6 (pz z.1)]),(1000000,qC T e z.2.1 z.2.2)]⟩
theorem ac5 {Q:Exit→AS→Prop} (T:List Tk) (e:Int) (t:List Tk) (h:t <:+ T) (hl:T.length≤1000000) (hm:ah t=minS∨ah t=maxS) (r2:List Tk) (b2:Bool) (KW:aA Tryz.prog G 85 [.box 1000000 0,.d (ds dV)] (qB T e t.tail false) (.d kF) (qB T e r2 b2))
  (k:aK Tryz.prog G [.code (aY (aC Tryz.f89) [1,1,1,0,0,1,1,1,1,1,1,1,0,1,1,1,1]),.blk 0,.code (aY (aC Tryz.f89) [1,1,1,1])] (abq T e (yt (ah t)) (hdA e t) r2 b2) Q):aK Tryz.prog G (OV [1,1,1,0,0,1,1,1,1,1,1]) (KT T e t false) Q:=by
 have hne:t≠[]:=fun c=>by rw[c] at hm;exact absurd hm (by decide)
 have e3:=yK h hne
 have hkT:=(lT h hne e).1
 have k1:=f112 (G:=G) T e t false h minS (by decide)
 have k2:=f112 (G:=G) T e t false h maxS (by decide)
 have e4:((kI T t.tail:Nat):Int)=(kI T t:Int)+1:=by rw[e3];rfl
 have abY:aA Tryz.prog G 85 [.box 1000000 0,.d (ds dV)] [(1000000,[.d (kJ T),.d (di ((kI T t:Int)+1)),.d (di e),.d (db false),.d (di 0)])] (.d kF) (qB T e r2 b2):=by
  rw[←e4];exact KW
 refine aF (aj:={ qH T e t false 0 aJ [] false r2 b2 .empty [] false with ro:=fun f=>Nat.beq f 112 }) (keep:=[]) (cuts:=[20,25]) (n:=1000) follows ?_
 refine au (fun ZT ZW ZQ _=>(fun Za Zb Zc Zd=>((aA Tryz.prog G 112 [(.box 1000000 0),(vs Zd)] [(1000000,[Zb,(vi (↑(kI T t))),(vi e),(vb false),Za])] (vb (dI t false Zd)) [(1000000,[Zb,(vi (↑(kI T t))),(vi e),(vb false),Za])]∧([Zb,(vi (↑(kI T t))),(vi e),(vb false),Za]:(List AV))=[Zb,(vi (↑(kI T t))),(vi e),(vb false),Za]∧(((!dI t false Zd)=true)→aA Tryz.prog G 112 [(.box 1000000 0),(vs Zc)] [(1000000,[Zb,(vi (↑(kI T t))),(vi e),(vb false),Za])] (vb (dI t false Zc)) [(1000000,[Zb,(vi (↑(kI T t))),(vi e),(vb false),Za])])∧(((!dI t false Zd)=true)→(([Zb,(vi (↑(kI T t))),(vi e),(vb false),Za]:(List AV))=[Zb,(vi (↑(kI T t))),(vi e),(vb false),Za])))∧(((dI t false Zd||dI t false Zc)=true)→((aA Tryz.prog G 112 [(.box 1000000 0),(vs Zc)] [(1000000,[Zb,(vi (↑(kI T t))),(vi e),(vb false),Za])] (vb (dI t false Zc)) [(1000000,[Zb,(vi (↑(kI T t))),(vi e),(vb false),Za])]∧([Zb,(vi (↑(kI T t))),(vi e),(vb false),Za]:(List AV))=[Zb,(vi (↑(kI T t))),(vi e),(vb false),Za])∧(((dI t false Zc)=true)→((I64 (↑(kI T t)+1))∧aA Tryz.prog G 85 [(.box 1000000 0),(vs (ByteArray.mk #[40]))] [(1000000,[Zb,(vi (↑(kI T t)+1)),(vi e),(vb false),Za])] (.d (.ak [])) [(1000000,[Zb,(vi (↑(kI T r2))),(vi e),(vb b2),(vi (bif b2 then hdA e r2 else 0))])]∧ZW [cd Tryz.f89 [1,1,1,0,0,1,1,1,1,1,1,1,0,1,1,1,1],(.blk 0),cd Tryz.f89 [1,1,1,1]] (aB ZT [0,0]) ZQ))∧(((dI t false Zc)=false)→((I64 (↑(kI T t)+1))∧aA Tryz.prog G 85 [(.box 1000000 0),(vs (ByteArray.mk #[40]))] [(1000000,[Zb,(vi (↑(kI T t)+1)),(vi e),(vb false),Za])] (.d (.ak [])) [(1000000,[Zb,(vi (↑(kI T r2))),(vi e),(vb b2),(vi (bif b2 then hdA e r2 else 0))])]∧ZW [cd Tryz.f89 [1,1,1,0,0,1,1,1,1,1,1,1,0,1,1,1,1],(.blk 0),cd Tryz.f89 [1,1,1,1]] (aB ZT [0,1]) ZQ))))∧(((dI t false Zd||dI t false Zc)=false)→ZW [cd Tryz.f89 [1,1,1,1]] (aB ZT [1]) ZQ))) (vi (bif false then hdA e t else 0)) ((.d (.slc 2 T.length (aG T))):AV) (ByteArray.mk #[109,97,120]) (ByteArray.mk #[109,105,110])) (by kernel_rfl) ?_
 refine⟨⟨k1,rfl,fun _=>k2,fun _=>rfl⟩,fun _=>⟨⟨k2,rfl⟩,fun c=>⟨by unfold I64;omega,abY,?_⟩,fun c=>⟨by unfold I64;omega,abY,?_⟩⟩,fun c=>?_⟩
 ·have hx:ah t=maxS:=by
   have c:dI t false maxS=true:=c
   unfold dI at c
   simpa using c
  refine aK.weaken ?_ k
  rw[show yt (ah t)=11 by unfold yt;rw[if_pos hx]]
  exact AS.bV (by kernel_rfl)
 ·have hx:ah t≠maxS:=((vW (show dI t false maxS=false from c)).resolve_left (by decide)).2
  refine aK.weaken ?_ k
  rw[show yt (ah t)=10 by unfold yt;rw[if_neg hx]]
  exact AS.bV (by kernel_rfl)
 ·exfalso
  have c:(dI t false minS||dI t false maxS)=false:=c
  unfold dI at c
  rcases hm with hm|hm<;>rw[hm] at c<;>exact absurd c (by decide)
theorem abm (T:List Tk) (e:Int) (k a:Int) (r2:List Tk) (b2:Bool) (y0:Ex) (r:List Tk) (br:Bool) (mV:aA Tryz.prog G 46 [.box 1000000 0,.d (di 1)] (qB T e r2 b2) (.d (fD y0)) (qB T e r br)) (hr:r <:+ T) (hl:T.length≤100000) (Y:List Tk→Ex)
  (hC:∀t',t' <:+ T→t'.length<r.length→aA Tryz.prog G 46 [.box 1000000 0,.d (di 1)] (qB T e t' false) (.d (fD (Y t'))) (qB T e (aQ (pr (.lvl 0) t')) (isBad (pr (.lvl 0) t'))))
  (fin:List Ex×List Tk×Bool) (h1:br=true→fin=([y0],r,true)) (h2:br=false→if ah r=dF then ∃k,r.tail.length<k∧xR Y k [y0] r.tail=fin else fin=([y0],r,false))
  (r4:List Tk) (b4:Bool) (KW:aA Tryz.prog G 85 [.box 1000000 0,.d (ds fA)] (qB T e fin.2.1 fin.2.2) (.d kF) (qB T e r4 b4)) :
  aK Tryz.prog G [.code (aY (aC Tryz.f89) [1,1,1,0,0,1,1,1,1,1,1,1,0,1,1,1,1]),.blk 0,.code (aY (aC Tryz.f89) [1,1,1,1])] (abq T e k a r2 b2) (wC Tryz.prog Tryz.f89 [] (.d (fD (.mk k .empty 0 0 a fin.1))) (qB T e r4 b4)):=by
 refine aF (aj:={ qH T e r2 b2 0 y0 r br [] false .empty [] false with rows:=fun n=>Nat.beq n 110 }) (keep:=[]) (cuts:=[]) (n:=1000) follows ?_
 refine au (fun ZT ZW ZQ _=>(aA Tryz.prog G 46 [(.box 1000000 0),(vi 1)] [(1000000,[(.d (.slc 2 T.length (aG T))),(vi (↑(kI T r2))),(vi e),(vb b2),(vi (bif b2 then hdA e r2 else 0))])] (.d (aN (ht y0) y0)) [(1000000,[(.d (.slc 2 T.length (aG T))),(vi (↑(kI T r))),(vi e),(vb br),(vi (bif br then hdA e r else 0))])]∧ZW [cd Tryz.f89 [1,1,1,0,0,1,1,1,1,1,1,1,0,1,1,1,1,1,0,0],(.blk 1),cd Tryz.f89 [1,1,1,0,0,1,1,1,1,1,1,1,0,1,1,1,1,1,1],(.blk 0),cd Tryz.f89 [1,1,1,1]] (aB ZT []) ZQ)) (by kernel_rfl) ?_
 refine⟨mV,?_⟩
 refine aK.pre ((AS.dZ.moves [(110,900)] _ rfl).trans (AS.dZ.rowB _ 7 5 900 1 (l:=[vi k,vs ⟨#[]⟩,vi 0,vi 0,vi a,.vec 900 6 0 1]) (agg:=IZ) (sz:=6) (f:=aS true 6 [di y0.k,ds y0.s,di y0.n,di y0.d,di y0.pos,.slc 6 y0.kids.length (lay (cu (ht y0)) y0.kids)]) (pz [y0]) (by kernel_rfl) (by kernel_rfl) (by kernel_rfl) (by kernel_rfl) (by kernel_rfl) (by kernel_rfl) rfl (by kernel_rfl) (fun i hi=>?_))) ?_
 ·obtain rfl:i=0:=by omega
  rfl
 refine aK.loop (c:=aY (aC Tryz.f89) [1,1,1,0,0,1,1,1,1,1,1,1,0,1,1,1,1,1,0,0,0]) (by kernel_rfl) (adS T e k a) (fun z=>z.2.1 <:+ T∧z.2.1.length≤r.length∧z.1.length+z.2.1.length≤100001∧(z.2.2=true→fin=z)∧(z.2.2=false→if ah z.2.1=dF then ∃k,z.2.1.tail.length<k∧xR Y k z.1 z.2.1.tail=fin else fin=z)) (fun z=>z.2.1.length) ([y0],r,br) ?_ ⟨hr,Nat.le_refl _,by have:=hr.length_le;(show 1+r.length≤_);omega,fun c=>?_,fun c=>?_⟩ ?_
 ·exact AS.bV (by kernel_rfl)
 ·have c:br=true:=c
  rw[h1 c,c]
 ·have c:br=false:=c
  rw[c];exact h2 c
 ·rintro ⟨L,s,b⟩ ⟨q1,q2,q3,q4,q5⟩
  dsimp only at q1 q2 q3 q4 q5
  by_cases hc:b=false∧ah s=dF
  ·obtain ⟨rfl,hc⟩:=hc
   have q5:=q5 rfl
   rw[if_pos hc] at q5
   obtain ⟨j,hj,hi⟩:=q5
   have hlt:=bK (t:=s) (by rw[hc];decide)
   have hk:=hC s.tail ((List.tail_suffix s).trans q1) (by omega)
   refine aF (aj:=qH T e s false 1 (Y s.tail) (aQ (pr (.lvl 0) s.tail)) (isBad (pr (.lvl 0) s.tail)) [] false .empty [] false) (keep:=[]) (cuts:=[]) (n:=1000) follows ?_
   refine bZ (fun ZT ZW ZQ _ ZA _=>(fun Za=>(aA Tryz.prog G 83 [(.box 1000000 0),(vs (ByteArray.mk #[44]))] [(1000000,[Za,(vi (↑(kI T s))),(vi e),(vb false),(vi (bif false then hdA e s else 0))])] (vb true) [(1000000,[Za,(vi (↑(kI T s.tail))),(vi e),(vb false),(vi (bif false then hdA e s.tail else 0))])]∧((true=true)→((aA Tryz.prog G 46 [(.box 1000000 0),(vi 1)] [(1000000,[Za,(vi (↑(kI T s.tail))),(vi e),(vb false),(vi (bif false then hdA e s.tail else 0))])] (.d (aN (ht (Y s.tail)) (Y s.tail))) [(1000000,[Za,(vi (↑(kI T (aQ (pr (Md.lvl 0) s.tail))))),(vi e),(vb (isBad (pr (Md.lvl 0) s.tail))),(vi (bif isBad (pr (Md.lvl 0) s.tail) then hdA e (aQ (pr (Md.lvl 0) s.tail)) else 0))])]∧(((L.length+1)*72≤1099511627776)∧(L.length+1≤1099511627776))∧(∀(i:Nat),i<1→lC true 6 (aS true 6 [DV.con (Value.int IntKind.i64 (Y s.tail).k),DV.con (Value.string (Y s.tail).s),DV.con (Value.int IntKind.i64 (Y s.tail).n),DV.con (Value.int IntKind.i64 (Y s.tail).d),DV.con (Value.int IntKind.i64 (Y s.tail).pos),DV.slc 6 (Y s.tail).kids.length (lay (cu (ht (Y s.tail))) (Y s.tail).kids)] i)=true))∧(ZA (aB ZT [0]))))∧((true=false)→ZW [cd Tryz.f89 [1,1,1,0,0,1,1,1,1,1,1,1,0,1,1,1,1,1,1],(.blk 0),cd Tryz.f89 [1,1,1,1]] (aB ZT [1]) ZQ))) ((.d (.slc 2 T.length (aG T))):AV)) (by kernel_rfl) ?_
   try dsimp only
   have hle:=mg (.lvl 0) s.tail
   refine⟨oZ T e s q1 (by omega) dF (by decide) hc,fun _=>⟨⟨hk,⟨by omega,by omega⟩,fun i hi=>?_⟩,?_⟩,fun c=>(by cases c)⟩
   ·obtain rfl:i=0:=by omega
    rfl
   ·refine⟨(L++[Y s.tail],aQ (pr (.lvl 0) s.tail),isBad (pr (.lvl 0) s.tail)),(AS.dZ.moves [(119,900)] _ rfl).trans ((AS.dZ.rowB _ 7 5 900 (L.length+1) (l:=[vi k,vs ⟨#[]⟩,vi 0,vi 0,vi a,.vec 900 6 0 (L.length+1)]) (agg:=IZ) (sz:=6) (f:=fun i=>bif Nat.blt i L.length then pz L i else aS true 6 [di (Y s.tail).k,ds (Y s.tail).s,di (Y s.tail).n,di (Y s.tail).d,di (Y s.tail).pos,.slc 6 (Y s.tail).kids.length (lay (cu (ht (Y s.tail))) (Y s.tail).kids)] (i-L.length)) (pz (L++[Y s.tail])) (by kernel_rfl) (by kernel_rfl) (by kernel_rfl) (by kernel_rfl) (by kernel_rfl) (by kernel_rfl) rfl (by kernel_rfl) (fun i hi=>?_)).trans (.of_le ?_)),⟨(oQ (.lvl 0) s.tail).trans ((List.tail_suffix s).trans q1),by dsimp only;omega,by simp only[List.length_append,List.length_singleton];omega,fun c=>?_,fun c=>?_⟩,by dsimp only;omega⟩
    ·unfold pz
     rcases Nat.lt_or_ge i L.length with h4|h4
     ·rw[show Nat.blt i L.length=true from by rw[Nat.blt_eq];exact h4,tq h4];rfl
     ·obtain rfl:i=L.length:=by omega
      rw[show Nat.blt L.length L.length=false from by rw[Bool.eq_false_iff,ne_eq,Nat.blt_eq];omega,tJ (Nat.le_refl _),Nat.sub_self];rfl
    ·refine AS.leZ [] [1] (b:=((T0∧T0∧T0∧True)∧T0∧((some [(vi k),(vs (ByteArray.mk #[])),(vi 0),(vi 0),(vi a),(.vec 900 6 0 (L.length+1))]):(Option (List AV)))=(some [(vi k),(vs (ByteArray.mk #[])),(vi 0),(vi 0),(vi a),(.vec 900 6 0 (L++[Y s.tail]).length)])∧T0∧T0∧True)) (by kernel_rfl) (by kernel_rfl) ?_
     rw[show (L++[Y s.tail]).length=L.length+1 by simp]
     exact⟨⟨rfl,rfl,rfl,trivial⟩,rfl,rfl,rfl,rfl,trivial⟩
    ·rw[←hi]
     obtain ⟨j,rfl⟩:∃i,j=i+1:=⟨j-1,by omega⟩
     unfold xR
     cases hq:pr (.lvl 0) s.tail with
     | ok z r'=>rw[hq] at c;cases c
     | bad r'=>rfl
    ·obtain ⟨j,rfl⟩:∃i,j=i+1:=⟨j-1,by omega⟩
     unfold xR at hi
     cases hq:pr (.lvl 0) s.tail with
     | ok z r'=>
      rw[hq] at hi hle
      simp only[aQ] at hle
      dsimp only at hi
      show if ah r'=dF then _ else _
      by_cases h5:ah r'=dF
      ·rw[if_pos h5] at hi⊢
       have:=bK (t:=r') (by rw[h5];decide)
       exact⟨j,by show r'.tail.length<j;omega,hi⟩
      ·rw[if_neg h5] at hi⊢
       rw[←hi];rfl
     | bad r'=>rw[hq] at c;cases c
  ·have hz:dI s b dF=false∧fin=(L,s,b):=by
    cases b with
    | true=>exact⟨rfl,q4 rfl⟩
    | false=>
     have hn:ah s≠dF:=fun c=>hc ⟨rfl,c⟩
     have q5:=q5 rfl
     rw[if_neg hn] at q5
     exact⟨by unfold dI;rw[decide_eq_false hn];rfl,q5⟩
   refine aF (aj:=qH T e s b 0 aJ [] false [] false .empty [] false) (keep:=[]) (cuts:=[22]) (n:=1000) follows ?_
   refine bZ (fun ZT ZW ZQ _ _ ZR=>(aA Tryz.prog G 83 [(.box 1000000 0),(vs (ByteArray.mk #[44]))] [(1000000,[(.d (.slc 2 T.length (aG T))),(vi (↑(kI T s))),(vi e),(vb b),(vi (bif b then hdA e s else 0))])] (vb false) [(1000000,[(.d (.slc 2 T.length (aG T))),(vi (↑(kI T s))),(vi e),(vb b),(vi (bif b then hdA e s else 0))])]∧((false=true)→ZW [cd Tryz.f89 [1,1,1,0,0,1,1,1,1,1,1,1,0,1,1,1,1,1,0,0,0,1,0],(.blk 2)] (aB ZT [0]) ZR)∧((false=false)→ZW [cd Tryz.f89 [1,1,1,0,0,1,1,1,1,1,1,1,0,1,1,1,1,1,1],(.blk 0),cd Tryz.f89 [1,1,1,1]] (aB ZT [1]) ZQ))) (by kernel_rfl) ?_
   refine⟨pW T e s b q1 dF (by decide) hz.1,fun c=>(by cases c),fun _=>?_⟩
   rw[hz.2] at KW⊢
   refine aK.freeze 900 (agg:=IZ) (sz:=6) (f:=pz L) (by kernel_rfl) ?_
   refine aK.pre (AS.dZ.cell _ 7 5 (l:=[vi k,vs ⟨#[]⟩,vi 0,vi 0,vi a,.d (.slc 6 L.length fun i=>pz L (0+i))]) (x:=.d (.slc 6 L.length fun i=>pz L (0+i))) (.d (.slc 6 L.length (lay (cu (ht (.mk k .empty 0 0 a L))) L))) (by kernel_rfl) (by kernel_rfl) rfl (by kernel_rfl) (fun β h v hv=>QX hv)) ?_
   refine aF (aj:=qH T e s b 0 aJ [] false r4 b4 .empty [] false) (keep:=[]) (cuts:=[]) (n:=1000) follows ?_
   refine au (fun _ _ _ _=>(fun Za=>(aA Tryz.prog G 85 [(.box 1000000 0),(vs (ByteArray.mk #[41]))] [(1000000,[(.d (.slc 2 T.length (aG T))),(vi (↑(kI T s))),(vi e),(vb b),(vi (bif b then hdA e s else 0))])] (.d (.ak [])) [(1000000,[(.d (.slc 2 T.length (aG T))),(vi (↑(kI T r4))),(vi e),(vb b4),(vi (bif b4 then hdA e r4 else 0))])]∧((.d (.agg [(di k),(ds (ByteArray.mk #[])),(di 0),(di 0),(di a),(.slc 6 L.length (lay (cu (ht (Ex.mk k ByteArray.empty 0 0 a L))) L))])):AV)=(.d (aN (ht (Ex.mk k ByteArray.empty 0 0 a L)) (Ex.mk k ByteArray.empty 0 0 a L)))∧(Za:(Option (List AV)))=Za∧True)) (some [(.d (.slc 2 T.length (aG T))),(vi (↑(kI T r4))),(vi e),(vb b4),(vi (bif b4 then hdA e r4 else 0))])) (by kernel_rfl) ?_
   exact⟨KW,rfl,rfl,trivial⟩
end Go.Proofs
/- The reference's parser: expressions,whole. -/
namespace Go.Proofs
open Go Go.Ab Go.RowKit
set_option maxHeartbeats 1000000
set_option maxRecDepth 100000
variable {G:IH}
theorem YH (T:List Tk) (e:Int) (n:Nat) (good:List Tk→Prop) (h:∀t,good t→lY G T e n t false):∃Y:List Tk→Ex,(∀t x r,pr (.lvl n) t=.ok x r→Y t=x)∧
  ∀t,good t→aA Tryz.prog G 46 [.box 1000000 0,.d (di ((n:Int)+1))] (qB T e t false) (.d (fD (Y t))) (qB T e (aQ (pr (.lvl n) t)) (isBad (pr (.lvl n) t))):=by
 classical
 obtain ⟨C,hC⟩:∃C:List Tk→Ex,∀t,good t→aA Tryz.prog G 46 [.box 1000000 0,.d (di ((n:Int)+1))] (qB T e t false) (.d (fD (C t))) (qB T e (aQ (pr (.lvl n) t)) (isBad (pr (.lvl n) t)))∧∀x r,pr (.lvl n) t=.ok x r→C t=x:=
  ⟨fun t=>if ht:good t then Classical.choose (h t ht) else aJ,fun t ht=>by
   have:=Classical.choose_spec (h t ht)
   simp only[dif_pos ht]
   exact this⟩
 refine⟨fun t=>match pr (.lvl n) t with
  | .ok x _=>x
  | .bad _=>C t,fun t x r q=>by simp only[q],fun t ht=>?_⟩
 obtain ⟨k1,k2⟩:=hC t ht
 cases hq:pr (.lvl n) t with
 | ok x r=>
  rw[hq] at k1
  rw[k2 x r hq] at k1
  show aA Tryz.prog G 46 _ _ (.d (fD (match pr (.lvl n) t with | .ok x _=>x | .bad _=>C t))) _
  rw[hq]
  exact k1
 | bad r=>
  rw[hq] at k1
  show aA Tryz.prog G 46 _ _ (.d (fD (match pr (.lvl n) t with | .ok x _=>x | .bad _=>C t))) _
  rw[hq]
  exact k1
theorem RQ {Y:List Tk→Ex}:∀(k:Nat) (l:List Ex) (t:List Tk),(xR Y k l t).2.1 <:+ t
 | 0,l,t=>List.suffix_refl _
 | k+1,l,t=>by
  unfold xR
  have hs:=oQ (.lvl 0) t
  cases hq:pr (.lvl 0) t with
  | ok y r=>
   rw[hq] at hs
   try dsimp only
   split
   ·exact(RQ k _ _).trans ((List.tail_suffix r).trans hs)
   ·exact hs
  | bad r=>rw[hq] at hs;exact hs
theorem aaI (T:List Tk) (e:Int) (z:List Tk×Bool) (h:z.1 <:+ T) (hl:T.length≤1000000):aA Tryz.prog G 85 [.box 1000000 0,.d (ds fA)] (qB T e z.1 z.2) (.d kF) (qB T e (CW z).1 (CW z).2):=by
 unfold CW
 obtain ⟨t,b⟩:=z
 cases b with
 | true=>
  rw[if_pos rfl]
  exact xJ T e t true h fA (by decide) rfl
 | false=>
  rw[if_neg (fun c=>by cases c)]
  by_cases hc:ah t=fA
  ·dsimp only
   rw[if_pos hc]
   exact Et T e t h hl fA (by decide) hc
  ·dsimp only
   rw[if_neg hc]
   exact xJ T e t false h fA (by decide) (by unfold dI;rw[decide_eq_false hc];rfl)
theorem V5 (T:List Tk) (e:Int) (t:List Tk) (h:t <:+ T) (hl:T.length≤100000) (hN:qO t) (hm:ah t=minS∨ah t=maxS) (hC:∀t',t' <:+ T→t'.length<t.length→lY G T e 0 t' false) (hB:∀t',t' <:+ T→t'.length<t.length→lY G T e 0 t' true):xZ G T e t false:=by
 have hne:ah t≠.empty:=by rcases hm with hm|hm<;>rw[hm]<;>decide
 have hlt:=bK hne
 have ha:=jr e hne
 obtain ⟨Y,hY,VD⟩:=YH T e 0 (fun t'=>t' <:+ T∧t'.length<t.length) fun t' q=>hC t' q.1 q.2
 have no:∀s:ByteArray,s≠minS→s≠maxS→dI t false s=false:=fun s h1 h2=>by
  unfold dI
  rcases hm with hm|hm
  ·rw[hm,decide_eq_false (Ne.symm h1)];rfl
  ·rw[hm,decide_eq_false (Ne.symm h2)];rfl
 have hd:bQ (byteAt (ah t) 0)=false:=by rcases hm with hm|hm<;>rw[hm]<;>decide +kernel
 have hst:t.tail <:+ T:=(List.tail_suffix t).trans h
 have he:fF .gI t false=if ah t.tail=dV then pr (.args (.mk (yt (ah t)) .empty 0 0 (hdA 0 t) [])) t.tail.tail else .bad t.tail:=by
  show pr .gI t=_
  rw[mJ,if_neg (by rcases hm with hm|hm<;>rw[hm]<;>decide),if_pos hm]
  rfl
 have key:∀(r2:List Tk) (b2:Bool),aA Tryz.prog G 85 [.box 1000000 0,.d (ds dV)] (qB T e t.tail false) (.d kF) (qB T e r2 b2)→∀(y0:Ex) (r:List Tk) (br:Bool),aA Tryz.prog G 46 [.box 1000000 0,.d (di 1)] (qB T e r2 b2) (.d (fD y0)) (qB T e r br)→r <:+ T→r.length<t.length→∀fin:List Ex×List Tk×Bool,(br=true→fin=([y0],r,true))→(br=false→if ah r=dF then ∃k,r.tail.length<k∧xR Y k [y0] r.tail=fin else fin=([y0],r,false))→fin.2.1 <:+ T→
   aA Tryz.prog G 89 [.box 1000000 0] (qB T e t false) (.d (fD (.mk (yt (ah t)) .empty 0 0 (hdA e t) fin.1))) (qB T e (CW fin.2).1 (CW fin.2).2):=by
  intro r2 b2 KW y0 r br mV hr hrl fin h1 h2 hf
  refine aA.aP (mv:=[]) (by kernel_rfl) Tryz.func89 rfl Tryz.call89 ?_
  refine xQ T e t false h hN (.inr hd) (Gn T e t false h (no _ (by decide) (by decide)) (no _ (by decide) (by decide)) (N8 T e t false h (no _ (by decide) (by decide)) (ac5 T e t h (by omega) hm r2 b2 KW ?_)))
  exact abm T e _ _ r2 b2 y0 r br mV hr hl Y (fun t' q1 q2=>VD t' ⟨q1,by omega⟩) fin h1 h2 _ _ (aaI T e fin.2 hf (by omega))
 unfold xZ
 rw[he]
 by_cases ho:ah t.tail=dV
 ·rw[if_pos ho]
  have hlt2:=bK (t:=t.tail) (by rw[ho];decide)
  have hst2:t.tail.tail <:+ T:=(List.tail_suffix _).trans hst
  have mV:=VD t.tail.tail ⟨hst2,by omega⟩
  have hsr:=(oQ (.lvl 0) t.tail.tail).trans hst2
  have hle:=mg (.lvl 0) t.tail.tail
  have hit:xR Y (t.tail.tail.length+1) [] t.tail.tail=match pr (.lvl 0) t.tail.tail with
    | .ok _ r=>if ah r=dF then xR Y t.tail.tail.length [Y t.tail.tail] r.tail else ([Y t.tail.tail],r,false)
    | .bad r=>([Y t.tail.tail],r,true):=rfl
  obtain ⟨p1,p2,p3⟩:=abn (Y:=Y) (kd:=yt (ah t)) (a:=hdA 0 t) hY (t.tail.tail.length+1) [] t.tail.tail (Nat.lt_succ_self _)
  have kk:=key t.tail.tail false (Et T e t.tail hst (by omega) dV (by decide) ho) (Y t.tail.tail) _ _ mV hsr (by omega) (xR Y (t.tail.tail.length+1) [] t.tail.tail) (fun c=>?_) (fun c=>?_) ((RQ _ _ _).trans hst2)
  ·rw[p1,p2,ha] at kk
   exact⟨_,kk,p3⟩
  ·cases hq:pr (.lvl 0) t.tail.tail with
   | ok y r=>rw[hq] at c;cases c
   | bad r=>rw[hit,hq];rfl
  ·cases hq:pr (.lvl 0) t.tail.tail with
   | ok y r=>
    rw[hit]
    rw[hq] at hle
    simp only[aQ] at hle
    simp only[hq,aQ]
    by_cases h5:ah r=dF
    ·rw[if_pos h5,if_pos h5]
     have:=bK (t:=r) (by rw[h5];decide)
     exact⟨_,by omega,rfl⟩
    ·rw[if_neg h5,if_neg h5]
   | bad r=>rw[hq] at c;cases c
 ·rw[if_neg ho]
  obtain ⟨y0,mV,_⟩:=hB t.tail hst (by omega)
  have kk:=key t.tail true (xJ T e t.tail false hst dV (by decide) (by unfold dI;rw[decide_eq_false ho];rfl)) y0 t.tail true mV hst (by omega) ([y0],t.tail,true) (fun _=>rfl) (fun c=>(by cases c)) hst
  exact⟨_,kk,fun x r q=>(by cases q)⟩
theorem Zy (T:List Tk) (e:Int) (n:Nat) (hn:fB n) (t:List Tk) (b:Bool) (h:t <:+ T) (hl:T.length≤1000000) (h1:lY G T e (n+1) t b) (hC:∀t',t' <:+ T→t'.length<t.length→lY G T e (n+1) t' false):lY G T e n t b:=by
 have KO:n≤5:=by unfold fB at hn;omega
 obtain ⟨Y,hY,VD⟩:=YH T e (n+1) (fun t'=>t' <:+ T∧t'.length<t.length) fun t' q=>hC t' q.1 q.2
 obtain ⟨y,k1,k2⟩:=h1
 have ec:(((n+1:Nat):Int)+1)=(n:Int)+1+1:=by omega
 rw[ec] at k1
 rw[ec] at VD
 have hsf:aQ (fF (.lvl (n+1)) t b) <:+ T:=by
  cases b with
  | true=>exact h
  | false=>exact(oQ (.lvl (n+1)) t).trans h
 have hle:(aQ (fF (.lvl (n+1)) t b)).length≤t.length:=by
  cases b with
  | true=>exact Nat.le_refl _
  | false=>exact mg (.lvl (n+1)) t
 have kk:=fun fin hfin=>aa2 T e n hn t b h hl y _ _ k1 hsf Y (fun t' q1 q2=>VD t' ⟨q1,by omega⟩) fin hfin
 cases b with
 | true=>
  have:=kk (y,t,true) rfl
  exact⟨y,this,fun x r q=>(by cases q)⟩
 | false=>
  have e1:fF (.lvl n) t false=match pr (.lvl (n+1)) t with
    | .ok x r=>pr (.loop n x) r
    | .bad r=>.bad r:=Dl hn t
  have e2:fF (.lvl (n+1)) t false=pr (.lvl (n+1)) t:=rfl
  rw[e2] at kk k2
  unfold lY
  rw[e1]
  cases hq:pr (.lvl (n+1)) t with
  | bad r=>
   rw[hq] at kk
   exact⟨y,kk (y,r,true) rfl,fun x r q=>(by cases q)⟩
  | ok x r=>
   rw[hq] at kk k2
   obtain rfl:=k2 x r rfl
   obtain ⟨p1,p2,p3⟩:=abd (Y:=Y) KO hY (r.length+1) y r (Nat.lt_succ_self _)
   have:=kk (Df Y n (r.length+1) y r) rfl
   rw[p1,p2] at this
   exact⟨_,this,p3⟩
theorem PG (T:List Tk) (e:Int) (hl:T.length≤1000000) (t:List Tk) (b:Bool) (h:t <:+ T) (h6:lY G T e 6 t b) (hC:∀t',t' <:+ T→t'.length<t.length→∀n,n≤6→lY G T e n t' false) (h2:lY G T e 3 t b→lY G T e 2 t b):∀n,n≤6→lY G T e n t b:=by
 have st:∀n,fB n→lY G T e (n+1) t b→lY G T e n t b:=fun n hn k=>by
  have KO:n≤5:=by unfold fB at hn;omega
  exact Zy T e n hn t b h hl k fun t' q1 q2=>hC t' q1 q2 (n+1) (by omega)
 have k5:=st 5 (by simp[fB]) h6
 have k4:=st 4 (by simp[fB]) k5
 have k3:=st 3 (by simp[fB]) k4
 have k2:=h2 k3
 have k1:=st 1 (by simp[fB]) k2
 have k0:=st 0 (by simp[fB]) k1
 intro n hn
 have:n=0∨n=1∨n=2∨n=3∨n=4∨n=5∨n=6:=by omega
 rcases this with rfl|rfl|rfl|rfl|rfl|rfl|rfl<;>assumption
theorem aa7 (T:List Tk) (e:Int) (hN:qO T) (hS:gB T) (hl:T.length≤100000):∀(N:Nat) (t:List Tk),t.length≤N→t <:+ T→(∀n,n≤6→lY G T e n t false)∧∀n,n≤6→lY G T e n t true:=by
 intro N
 induction N with
 | zero=>?_
 | succ N ih=>?_
 all_goals
  intro t ht h
  have hC:∀t',t' <:+ T→t'.length<t.length→(∀n,n≤6→lY G T e n t' false)∧∀n,n≤6→lY G T e n t' true:=fun t' q1 q2=>by
   first
    | exact ih t' (by omega) q1
    | omega
  clear ht
  have Nh:=hN.suf h
  have hJ:∀n,n≤6→lY G T e n t true:=PG T e (by omega) t true h (RN T e t true h rfl (Qw T e t true h (by omega) Nh (.inl rfl) rfl rfl rfl rfl rfl)) (fun t' q1 q2=>(hC t' q1 q2).1) fun k=>RP T e t true h rfl k
  refine⟨?_,hJ⟩
  have tl:∀s:ByteArray,s≠.empty→ah t=s→t.tail <:+ T∧t.tail.length<t.length:=fun s hs q=>by
   have:=bK (t:=t) (by rw[q];exact hs)
   exact⟨(List.tail_suffix t).trans h,by omega⟩
  have hP:xZ G T e t false:=by
   by_cases hd:bQ (byteAt (ah t) 0)=true
   ·exact abw T e t h (by omega) Nh (hS.suf h).hd hd
   have hd:bQ (byteAt (ah t) 0)=false:=by simpa using hd
   by_cases c1:ah t=kE
   ·exact aaC T e t h (by omega) Nh c1
   by_cases c2:ah t=jR
   ·exact X7 T e t h (by omega) Nh c2
   by_cases c3:ah t=dV
   ·have q:=tl dV (by decide) c3
    exact aao T e t h (by omega) Nh c3 ((hC t.tail q.1 q.2).1 0 (by omega))
   by_cases c4:ah t=minS∨ah t=maxS
   ·exact V5 T e t h hl Nh c4 (fun t' q1 q2=>(hC t' q1 q2).1 0 (by omega)) fun t' q1 q2=>(hC t' q1 q2).2 0 (by omega)
   have no:∀s:ByteArray,ah t≠s→dI t false s=false:=fun s q=>by unfold dI;rw[decide_eq_false q];rfl
   exact Qw T e t false h (by omega) Nh (.inr hd) (no _ c1) (no _ c2) (no _ c3) (no _ fun c=>c4 (.inl c)) (no _ fun c=>c4 (.inr c))
  refine PG T e (by omega) t false h ?_ (fun t' q1 q2=>(hC t' q1 q2).1) fun k=>?_
  ·by_cases c:ah t=gV
   ·have q:=tl gV (by decide) c
    exact aaK T e t h (by omega) c ((hC t.tail q.1 q.2).1 6 (by omega))
   ·exact RN T e t false h (by unfold dI;rw[decide_eq_false c];rfl) hP
  ·by_cases c:ah t=notS
   ·have q:=tl notS (by decide) c
    exact aa8 T e t h (by omega) c ((hC t.tail q.1 q.2).1 2 (by omega))
   ·exact RP T e t false h (by unfold dI;rw[decide_eq_false c];rfl) k
theorem f46 (T:List Tk) (e:Int) (hN:qO T) (hS:gB T) (hl:T.length≤100000) (t:List Tk) (b:Bool) (h:t <:+ T):EvQ G 46 [.box 1000000 0,.d (di 1)] T e t b (fF (.lvl 0) t b):=by
 have:=aa7 (G:=G) T e hN hS hl t.length t (Nat.le_refl _) h
 cases b with
 | true=>exact this.2 0 (by omega)
 | false=>exact this.1 0 (by omega)
end Go.Proofs
/- The reference's parser: rules. -/
namespace Go.Proofs
open Go Go.Ab Go.RowKit
set_option maxHeartbeats 4000000
set_option maxRecDepth 100000
variable {G:IH}
theorem YR (T:List Tk) (e:Int) (hN:qO T) (hl:T.length≤100000) (s:Sf) (h:s.1 <:+ T):aA Tryz.prog G 84 [.box 1000000 0] (qB T e s.1 s.2) (.d (ds (kM s).1)) (qB T e (kM s).2.1 (kM s).2.2):=by
 obtain ⟨t,b⟩:=s
 unfold kM
 cases b with
 | true=>
  rw[if_pos rfl]
  exact NR T e t true h (hN.suf h) (.inl rfl)
 | false=>
  rw[if_neg (fun c=>by cases c)]
  try dsimp only
  by_cases hn:nameB (ah t)=true
  ·rw[if_pos hn]
   exact QK T e t h (by omega) hn
  ·rw[if_neg hn]
   exact NR T e t false h (hN.suf h) (.inr (by simpa using hn))
theorem Y4 (T:List Tk) (e:Int) (hl:T.length≤100000) (w:ByteArray) (hw:w≠.empty) (s:Sf) (h:s.1 <:+ T):aA Tryz.prog G 85 [.box 1000000 0,.d (ds w)] (qB T e s.1 s.2) (.d kF) (qB T e (dn w s).1 (dn w s).2):=by
 obtain ⟨t,b⟩:=s
 unfold dn
 cases b with
 | true=>
  rw[if_pos rfl]
  exact xJ T e t true h w hw rfl
 | false=>
  rw[if_neg (fun c=>by cases c)]
  try dsimp only
  by_cases hn:ah t=w
  ·rw[if_pos hn]
   exact Et T e t h (by omega) w hw hn
  ·rw[if_neg hn]
   exact xJ T e t false h w hw (by unfold dI;rw[decide_eq_false hn];rfl)
def exS (s:Sf):Sf:=(aQ (fF (.lvl 0) s.1 s.2),isBad (fF (.lvl 0) s.1 s.2))
theorem V3 {T:List Tk} {s:Sf} (h:s.1 <:+ T):(kM s).2.1 <:+ T:=by
 unfold kM
 split
 ·exact h
 split
 ·exact(List.tail_suffix _).trans h
 ·exact h
theorem Z7 {T:List Tk} {w:ByteArray} {s:Sf} (h:s.1 <:+ T):(dn w s).1 <:+ T:=by
 unfold dn
 split
 ·exact h
 split
 ·exact(List.tail_suffix _).trans h
 ·exact h
theorem WS {T:List Tk} {s:Sf} (h:s.1 <:+ T):(exS s).1 <:+ T:=by
 obtain ⟨t,b⟩:=s
 cases b with
 | true=>exact h
 | false=>exact(oQ (.lvl 0) t).trans h
noncomputable def yP (kd:Int) (nm gr:ByteArray) (am wh:List AV) (pos:Int) (T:List Tk) (e:Int) (s:Sf):AS:=⟨regs Tryz.f41.ntmps [(0,.box 1000000 0),(2,.box 2 0),(3,.box 3 0)],[(2,Uw),(3,Lr kd nm gr am wh pos),(1000000,qC T e s.1 s.2)]⟩
noncomputable def m41 (T:List Tk) (e:Int) (sA:Sf) (c:Bool) (s83:Sf) (nm:ByteArray) (YF:Sf) (YS:Sf) (y:Ex) (YB:Sf):FuncId→List AV→List (Nat×List AV)→Option (AV×List (Nat×List AV)):=fun f _ _=>match f with
 | 81=>some (.d (di (hdA e sA.1)),qB T e sA.1 sA.2)
 | 47=>some (.d kF,qB T e sA.1 true)
 | 83=>some (.d (db c),qB T e s83.1 s83.2)
 | 84=>some (.d (ds nm),qB T e YF.1 YF.2)
 | 85=>some (.d kF,qB T e YS.1 YS.2)
 | 46=>some (.d (fD y),qB T e YB.1 YB.2)
 | _=>none
noncomputable def d41:cZ:=fun f a=>match f,a with
 | 82,[]=>some (xU bP)
 | _,_=>none
noncomputable def pG (T:List Tk) (e:Int) (sA:Sf) (c:Bool) (s83:Sf) (nm:ByteArray) (YF:Sf) (YS:Sf) (y:Ex) (YB:Sf):dK:={ d:=d41,m:=m41 T e sA c s83 nm YF YS y YB }
noncomputable def Gm (kd:Int) (pos:Int) (T:List Tk) (e:Int) (t:List Tk) (j:Nat):AS:=⟨regs Tryz.f41.ntmps [(0,.box 1000000 0),(2,.box 2 0),(3,.box 3 0),(4,.d (xU bP)),(5,vi j)],[(2,Uw),(3,Lr kd ⟨#[]⟩ ⟨#[]⟩ zeroE zeroE pos),(1000000,qC T e t false)]⟩
def yD (t:List Tk) (j:Nat):Int:=if dN (bP.take j) (ah t)=true then eF bP (ah t) else -1
def wG (t:List Tk) (j:Nat):List Tk:=if dN (bP.take j) (ah t)=true then t.tail else t
theorem aaF {s:ByteArray}:∀j,j<4→s=bP.getD j .empty→dN (bP.take j) s=false∧dN (bP.take (j+1)) s=true∧eF bP s=j:=by
 intro j hj hs
 match j,hj with
 | 0,_|1,_|2,_|3,_=>subst hs;decide +kernel
theorem aaA {s:ByteArray} {j:Nat} (hj:j<4) (h:s≠bP.getD j .empty):dN (bP.take (j+1)) s=dN (bP.take j) s:=by
 have hl:j<bP.length:=hj
 unfold dN
 rw[List.take_succ_eq_append_getElem hl,List.any_append]
 have:bP[j]≠s:=fun c=>h (by rw[List.getD,iT hl];exact c.symm)
 simp[this]
theorem Xw {s:ByteArray} {j:Nat} (h:dN (bP.take j) s=true):0≤eF bP s∧eF bP s≤3∧dN bP s=true:=by
 have h2:dN bP s=true:=by
  unfold dN at h⊢
  obtain ⟨x,hx,he⟩:=List.any_eq_true.1 h
  exact List.any_eq_true.2 ⟨x,List.mem_of_mem_take hx,he⟩
 have:=Vp h2
 exact⟨this.1,by omega,h2⟩
theorem Vq {Q:Exit→AS→Prop} (T:List Tk) (e:Int) (t:List Tk) (h:t <:+ T) (hl:T.length≤100000) (pos:Int)
  (k:aK Tryz.prog G [.code (aY (aC Tryz.f41) [1,1,1,1])] (yP (yD t 4) ⟨#[]⟩ ⟨#[]⟩ zeroE zeroE pos T e (wG t 4,false)) Q):aK Tryz.prog G [.code (aY (aC Tryz.f41) [1,1,1,0,1,0]),.blk 0,.code (aY (aC Tryz.f41) [1,1,1,1])] (Gm (-1) pos T e t 0) Q:=by
 refine aK.loop (c:=aY (aC Tryz.f41) [1,1,1,0,1,0,0]) (by kernel_rfl) (fun j:Nat=>Gm (yD t j) pos T e (wG t j) j) (fun j=>j≤4) (fun j=>4-j) 0 ?_ (by decide) ?_
 ·refine AS.leZ [] [1,2] (b:=((T0∧T0∧T0∧T0∧T0∧True)∧T0∧((some [(vi (-1)),(vs (ByteArray.mk #[])),(vs (ByteArray.mk #[])),(vi 0),(vs (ByteArray.mk #[])),(vi 0),(vi 0),(vi 0),(.d (.con (.slice none 0 0))),(vi 0),(vs (ByteArray.mk #[])),(vi 0),(vi 0),(vi 0),(.d (.con (.slice none 0 0))),(vi pos)]):(Option (List AV)))=(some [(vi (yD t 0)),(vs (ByteArray.mk #[])),(vs (ByteArray.mk #[])),(vi 0),(vs (ByteArray.mk #[])),(vi 0),(vi 0),(vi 0),(.d (.con (.slice none 0 0))),(vi 0),(vs (ByteArray.mk #[])),(vi 0),(vi 0),(vi 0),(.d (.con (.slice none 0 0))),(vi pos)])∧((some [(.d (.slc 2 T.length (aG T))),(vi (↑(kI T t))),(vi e),(vb false),(vi (bif false then hdA e t else 0))]):(Option (List AV)))=(some [(.d (.slc 2 T.length (aG T))),(vi (↑(kI T (wG t 0)))),(vi e),(vb false),(vi (bif false then hdA e (wG t 0) else 0))])∧True)) (by kernel_rfl) (by kernel_rfl) ?_
  exact⟨⟨rfl,rfl,rfl,rfl,rfl,trivial⟩,rfl,rfl,rfl,trivial⟩
 ·intro j hj
  by_cases h4:j=4
  ·subst h4
   refine aF (aj:=pG T e (t,false) false (t,false) .empty (t,false) (t,false) aJ (t,false)) (keep:=[]) (cuts:=[5,6]) (n:=1000) follows ?_
   refine bZ (fun ZT ZW _ _ _ ZR=>(((false=true)→ZW [cd Tryz.f41 [1,1,1,0,1,0,0,1,0,0],(.blk 1),cd Tryz.f41 [1,1,1,0,1,0,0,1,1]] (aB ZT [0]) ZR)∧((false=false)→ZW [cd Tryz.f41 [1,1,1,1]] (aB ZT [1]) Q))) (by kernel_rfl) ?_
   refine⟨fun c=>(by cases c),fun _=>?_⟩
   refine aK.weaken ?_ k
   exact AS.bV (by kernel_rfl)
  have hj:j<4:=by omega
  by_cases hf:dN (bP.take j) (ah t)=true
  ·obtain ⟨f1,f2,f3⟩:=Xw hf
   have e1:yD t j=eF bP (ah t):=if_pos hf
   have e2:wG t j=t.tail:=if_pos hf
   have hs:dN (bP.take (j+1)) (ah t)=true:=by
    unfold dN at hf⊢
    obtain ⟨x,hx,he⟩:=List.any_eq_true.1 hf
    exact List.any_eq_true.2 ⟨x,List.take_subset_take_left _ (by omega) hx,he⟩
   have e3:yD t (j+1)=eF bP (ah t):=if_pos hs
   have e4:wG t (j+1)=t.tail:=if_pos hs
   have key:∀kd:Int,kd=0∨kd=1∨kd=2∨kd=3→kd=eF bP (ah t)→aK Tryz.prog G [.code (aY (aC Tryz.f41) [1,1,1,0,1,0,0])] (Gm kd pos T e t.tail j) (nR Tryz.prog G [.blk 0,.code (aY (aC Tryz.f41) [1,1,1,1])] Q (fun j:Nat=>Gm (yD t j) pos T e (wG t j) j) (fun j=>j≤4) (fun j=>4-j) j):=by
    intro kd hk hi
    rcases hk with rfl|rfl|rfl|rfl
    all_goals
     refine aF (aj:=pG T e (t,false) false (t,false) .empty (t,false) (t,false) aJ (t,false)) (keep:=[]) (cuts:=[7]) (n:=1000) follows ?_
     refine bZ (fun ZT ZW _ _ ZA ZR=>((((decide ((↑j:Int)<↑4))=true)→(((false=true)→((0≤(↑j:Int))∧((↑j:Int)<↑4)))∧((false=true)→ZW [cd Tryz.f41 [1,1,1,0,1,0,0,1,0,0,1,0],(.blk 1),cd Tryz.f41 [1,1,1,0,1,0,0,1,1]] (aB ZT [0,0]) ZR)∧((false=false)→((I64 (↑j+1))∧(ZA (aB ZT [0,1]))))))∧(((decide ((↑j:Int)<↑4))=false)→ZW [cd Tryz.f41 [1,1,1,1]] (aB ZT [1]) Q))) (by kernel_rfl) ?_
     refine⟨fun _=>⟨fun c=>(by cases c),fun c=>(by cases c),fun _=>⟨by unfold I64;omega,Again.mk (j+1) ?_ hj (by omega)⟩⟩,fun c=>?_⟩
     ·show AS.le _ (Gm (yD t (j+1)) pos T e (wG t (j+1)) (j+1))
      rw[e3,e4,←hi]
      exact AS.bV (by kernel_rfl)
     ·rw[decide_eq_true (by omega)] at c;cases c
   rw[e1,e2]
   exact key _ (by omega) rfl
  ·have hf':dN (bP.take j) (ah t)=false:=by simpa using hf
   have e1:yD t j = -1:=if_neg hf
   have e2:wG t j=t:=if_neg hf
   rw[e1,e2]
   by_cases hh:ah t=bP.getD j .empty
   ·obtain ⟨g1,g2,g3⟩:=aaF j hj hh
    have hw:bP.getD j .empty≠.empty:=by
     match j,hj with
     | 0,_|1,_|2,_|3,_=>decide
    have k83:=oZ (G:=G) T e t h (by omega) _ hw hh
    refine aF (aj:=pG T e (t,false) true (t.tail,false) .empty (t,false) (t,false) aJ (t,false)) (keep:=[]) (cuts:=[]) (n:=1000) follows ?_
    refine bZ (fun ZT ZW _ _ ZA _=>((((decide ((↑j:Int)<↑4))=true)→((((true=true)→((0≤(↑j:Int))∧((↑j:Int)<↑4)))∧aA Tryz.prog G 83 [(.box 1000000 0),(vs (bP.getD (↑j:Int).toNat ByteArray.empty))] [(1000000,[(.d (.slc 2 T.length (aG T))),(vi (↑(kI T t))),(vi e),(vb false),(vi (bif false then hdA e t else 0))])] (vb true) [(1000000,[(.d (.slc 2 T.length (aG T))),(vi (↑(kI T t.tail))),(vi e),(vb false),(vi (bif false then hdA e t.tail else 0))])])∧((true=true)→((I64 (↑j+1))∧(ZA (aB ZT [0,0]))))∧((true=false)→((I64 (↑j+1))∧(ZA (aB ZT [0,1]))))))∧(((decide ((↑j:Int)<↑4))=false)→ZW [cd Tryz.f41 [1,1,1,1]] (aB ZT [1]) Q))) (by kernel_rfl) ?_
    rw[Int.toNat_natCast]
    refine⟨fun _=>⟨⟨fun _=>⟨by omega,by omega⟩,k83⟩,fun _=>⟨by unfold I64;omega,Again.mk (j+1) ?_ hj (by omega)⟩,fun c=>(by cases c)⟩,fun c=>?_⟩
    ·show AS.le _ (Gm (yD t (j+1)) pos T e (wG t (j+1)) (j+1))
     rw[show yD t (j+1)=j from (if_pos g2).trans g3,show wG t (j+1)=t.tail from if_pos g2]
     exact AS.bV (by kernel_rfl)
    ·rw[decide_eq_true (by omega)] at c;cases c
   ·have g2:=aaA hj hh
    have hw:bP.getD j .empty≠.empty:=by
     match j,hj with
     | 0,_|1,_|2,_|3,_=>decide
    have k83:=pW (G:=G) T e t false h _ hw (by unfold dI;rw[decide_eq_false hh];rfl)
    refine aF (aj:=pG T e (t,false) false (t,false) .empty (t,false) (t,false) aJ (t,false)) (keep:=[]) (cuts:=[]) (n:=1000) follows ?_
    refine bZ (fun ZT ZW _ _ ZA _=>((((decide ((↑j:Int)<↑4))=true)→((((true=true)→((0≤(↑j:Int))∧((↑j:Int)<↑4)))∧aA Tryz.prog G 83 [(.box 1000000 0),(vs (bP.getD (↑j:Int).toNat ByteArray.empty))] [(1000000,[(.d (.slc 2 T.length (aG T))),(vi (↑(kI T t))),(vi e),(vb false),(vi (bif false then hdA e t else 0))])] (vb false) [(1000000,[(.d (.slc 2 T.length (aG T))),(vi (↑(kI T t))),(vi e),(vb false),(vi (bif false then hdA e t else 0))])])∧((false=true)→((I64 (↑j+1))∧(ZA (aB ZT [0,0]))))∧((false=false)→((I64 (↑j+1))∧(ZA (aB ZT [0,1]))))))∧(((decide ((↑j:Int)<↑4))=false)→ZW [cd Tryz.f41 [1,1,1,1]] (aB ZT [1]) Q))) (by kernel_rfl) ?_
    rw[Int.toNat_natCast]
    refine⟨fun _=>⟨⟨fun _=>⟨by omega,by omega⟩,k83⟩,fun c=>(by cases c),fun _=>⟨by unfold I64;omega,Again.mk (j+1) ?_ hj (by omega)⟩⟩,fun c=>?_⟩
    ·show AS.le _ (Gm (yD t (j+1)) pos T e (wG t (j+1)) (j+1))
     rw[show yD t (j+1) = -1 from if_neg (by rw[g2];exact hf),show wG t (j+1)=t from if_neg (by rw[g2];exact hf)]
     exact AS.bV (by kernel_rfl)
    ·rw[decide_eq_true (by omega)] at c;cases c
noncomputable abbrev wu (p:List Nat):List It:=[.code (aY (aC Tryz.f41) p)]
theorem Lm {Q:Exit→AS→Prop} (T:List Tk) (e:Int) (t:List Tk) (h:t <:+ T) (hl:T.length≤100000) (k:aK Tryz.prog G (wu [1,1,1,1]) (yP (yD t 4) ⟨#[]⟩ ⟨#[]⟩ zeroE zeroE (hdA e t) T e (wG t 4,false)) Q):aK Tryz.prog G [.code (aC Tryz.f41)] (jV [.box 1000000 0] (qB T e t false) Tryz.f41.ntmps) Q:=by
 refine aF (aj:=pG T e (t,false) false (t,false) .empty (t,false) (t,false) aJ (t,false)) (keep:=[]) (cuts:=[]) (n:=1000) follows ?_
 refine au (fun ZT ZW ZQ ZK=>(aA Tryz.prog G 81 [(.box 1000000 0)] [(1000000,[(.d (.slc 2 T.length (aG T))),(vi (↑(kI T t))),(vi e),(vb false),(vi (bif false then hdA e t else 0))])] (vi (hdA e t)) [(1000000,[(.d (.slc 2 T.length (aG T))),(vi (↑(kI T t))),(vi e),(vb false),(vi (bif false then hdA e t else 0))])]∧ZK 82 [] (.slc 1 4 (iY bP))∧ZW [cd Tryz.f41 [1,1,1,0,1,0],(.blk 0),cd Tryz.f41 [1,1,1,1]] (aB ZT []) ZQ)) (by kernel_rfl) ?_
 refine⟨f81 T e t false h,f82,?_⟩
 refine aK.weaken ?_ (Vq T e t h hl (hdA e t) k)
 exact AS.bV (by kernel_rfl)
theorem aar (T:List Tk) (e:Int) (t:List Tk) (h:t <:+ T) (pos:Int):aK Tryz.prog G (wu [1,1,1,1]) (yP (-1) ⟨#[]⟩ ⟨#[]⟩ zeroE zeroE pos T e (t,false)) (wC Tryz.prog Tryz.f41 [] (.d (lg ⟨-1,.empty,.empty,aJ,aJ,pos,ht aJ,ht aJ⟩)) (qB T e t true)):=by
 refine aK.pre ((AS.dZ.cell _ 3 8 (l:=Lr (-1) ⟨#[]⟩ ⟨#[]⟩ zeroE zeroE pos) (x:=.d (.con (.slice none 0 0))) (.d (.slc 6 0 (lay (cu (ht aJ)) []))) (by kernel_rfl) (by kernel_rfl) rfl (by kernel_rfl) (fun β h v hv=>lV hv)).trans (AS.dZ.cell _ 3 14 (l:=Lr (-1) ⟨#[]⟩ ⟨#[]⟩ (jl (ht aJ) aJ) zeroE pos) (x:=.d (.con (.slice none 0 0))) (.d (.slc 6 0 (lay (cu (ht aJ)) []))) (by kernel_rfl) (by kernel_rfl) rfl (by kernel_rfl) (fun β h v hv=>lV hv))) ?_
 refine aF (aj:=pG T e (t,false) false (t,false) .empty (t,false) (t,false) aJ (t,false)) (keep:=[]) (cuts:=[11]) (n:=1000) follows ?_
 refine au (fun ZT ZW ZQ _=>(fun Za=>(((true=true)→(aA Tryz.prog G 47 [(.box 1000000 0)] [(1000000,[(.d (.slc 2 T.length (aG T))),(vi (↑(kI T t))),(vi e),(vb false),(vi (bif false then hdA e t else 0))])] (.d (.ak [])) [(1000000,[(.d (.slc 2 T.length (aG T))),(vi (↑(kI T t))),(vi e),(vb true),(vi (bif true then hdA e t else 0))])]∧((.d (.agg [(di (-1)),(ds (ByteArray.mk #[])),(ds (ByteArray.mk #[])),(di 0),(ds (ByteArray.mk #[])),(di 0),(di 0),(di 0),(.slc 6 0 (lay (cu (ht aJ)) [])),(di 0),(ds (ByteArray.mk #[])),(di 0),(di 0),(di 0),(.slc 6 0 (lay (cu (ht aJ)) [])),(di pos)])):AV)=(.d (.agg [(di (-1)),(ds ByteArray.empty),(ds ByteArray.empty),(di aJ.k),(ds aJ.s),(di aJ.n),(di aJ.d),(di aJ.pos),(.slc 6 0 (lay (cu (ht aJ)) aJ.kids)),(di aJ.k),(ds aJ.s),(di aJ.n),(di aJ.d),(di aJ.pos),(.slc 6 0 (lay (cu (ht aJ)) aJ.kids)),(di pos)]))∧(Za:(Option (List AV)))=Za∧True))∧((true=false)→ZW [cd Tryz.f41 [1,1,1,1,1]] (aB ZT [1]) ZQ))) (some [(.d (.slc 2 T.length (aG T))),(vi (↑(kI T t))),(vi e),(vb true),(vi (bif true then hdA e t else 0))])) (by kernel_rfl) ?_
 exact⟨fun _=>⟨f47 T e t false h,rfl,rfl,trivial⟩,fun c=>(by cases c)⟩
theorem acd {Q:Exit→AS→Prop} (T:List Tk) (e:Int) (s:Sf) (kd pos:Int) (hk:0≤kd) (k:aK Tryz.prog G (wu [1,1,1,1,1]) (yP kd ⟨#[]⟩ ⟨#[]⟩ zeroE zeroE pos T e s) Q):aK Tryz.prog G (wu [1,1,1,1]) (yP kd ⟨#[]⟩ ⟨#[]⟩ zeroE zeroE pos T e s) Q:=by
 refine aF (aj:=pG T e s false s .empty s s aJ s) (keep:=[]) (cuts:=[9,11]) (n:=1000) follows ?_
 refine au (fun ZT ZW ZQ _=>((((decide (kd<0))=true)→ZW [cd Tryz.f41 [1,1,1,1,0,1,0],cd Tryz.f41 [1,1,1,1,1]] (aB ZT [0]) ZQ)∧(((decide (kd<0))=false)→ZW [cd Tryz.f41 [1,1,1,1,1]] (aB ZT [1]) ZQ))) (by kernel_rfl) ?_
 refine⟨fun c=>absurd (of_decide_eq_true c) (by omega),fun _=>?_⟩
 refine aK.weaken ?_ k
 exact AS.bV (by kernel_rfl)
theorem Xl {Q:Exit→AS→Prop} (kd:Int) (pos:Int) (T:List Tk) (e:Int) (hN:qO T) (hl:T.length≤100000) (s:Sf) (h:s.1 <:+ T) (k:aK Tryz.prog G (wu [1,1,1,1,1,1,0]++wu [1,1,1,1,1,1,1]) (yP kd (kM s).1 ⟨#[]⟩ zeroE zeroE pos T e (kM s).2) Q):aK Tryz.prog G (wu [1,1,1,1,1]) (yP kd ⟨#[]⟩ ⟨#[]⟩ zeroE zeroE pos T e s) Q:=by
 refine aF (aj:=pG T e s false s (kM s).1 (kM s).2 s aJ s) (keep:=[]) (cuts:=[12]) (n:=1000) follows ?_
 refine au (fun ZT ZW ZQ _=>(aA Tryz.prog G 84 [(.box 1000000 0)] [(1000000,[(.d (.slc 2 T.length (aG T))),(vi (↑(kI T s.fst))),(vi e),(vb s.snd),(vi (bif s.snd then hdA e s.fst else 0))])] (vs (kM s).fst) [(1000000,[(.d (.slc 2 T.length (aG T))),(vi (↑(kI T (kM s).snd.fst))),(vi e),(vb (kM s).snd.snd),(vi (bif (kM s).snd.snd then hdA e (kM s).snd.fst else 0))])]∧ZW [cd Tryz.f41 [1,1,1,1,1,1,0],cd Tryz.f41 [1,1,1,1,1,1,1]] (aB ZT []) ZQ)) (by kernel_rfl) ?_
 refine⟨YR T e hN hl s h,?_⟩
 refine aK.weaken ?_ k
 exact AS.bV (by kernel_rfl)
theorem acs {Q:Exit→AS→Prop} (kd:Int) (nm:ByteArray) (pos:Int) (T:List Tk) (e:Int) (hN:qO T) (hl:T.length≤100000) (s:Sf) (h:s.1 <:+ T) (k:aK Tryz.prog G (wu [1,1,1,1,1,1,1]) (yP kd nm (lD s).1 zeroE zeroE pos T e (lD s).2) Q):aK Tryz.prog G (wu [1,1,1,1,1,1,0]++wu [1,1,1,1,1,1,1]) (yP kd nm ⟨#[]⟩ zeroE zeroE pos T e s) Q:=by
 by_cases hi:lG yu s=true
 ·have e1:lD s=kM (s.1.tail,false):=if_pos hi
  obtain ⟨t,b⟩:=s
  have hi':dI t b yu=true:=hi
  unfold dI at hi'
  simp only[aV,Bool.not_eq_true',decide_eq_true_eq] at hi'
  obtain ⟨rfl,hh⟩:=hi'
  rw[e1] at k
  refine aF (aj:=pG T e (t,false) true (t.tail,false) (kM (t.tail,false)).1 (kM (t.tail,false)).2 (t,false) aJ (t,false)) (keep:=[]) (cuts:=[14]) (n:=1000) follows ?_
  refine au (fun ZT ZW ZQ _=>(fun Za=>(aA Tryz.prog G 83 [(.box 1000000 0),(vs (ByteArray.mk #[105,110]))] [(1000000,[Za,(vi (↑(kI T t))),(vi e),(vb false),(vi (bif false then hdA e t else 0))])] (vb true) [(1000000,[Za,(vi (↑(kI T t.tail))),(vi e),(vb false),(vi (bif false then hdA e t.tail else 0))])]∧((true=true)→(aA Tryz.prog G 84 [(.box 1000000 0)] [(1000000,[Za,(vi (↑(kI T t.tail))),(vi e),(vb false),(vi (bif false then hdA e t.tail else 0))])] (vs (kM (t.tail,false)).fst) [(1000000,[Za,(vi (↑(kI T (kM (t.tail,false)).snd.fst))),(vi e),(vb (kM (t.tail,false)).snd.snd),(vi (bif (kM (t.tail,false)).snd.snd then hdA e (kM (t.tail,false)).snd.fst else 0))])]∧ZW [cd Tryz.f41 [1,1,1,1,1,1,1]] (aB ZT [0]) ZQ))∧((true=false)→ZW [cd Tryz.f41 [1,1,1,1,1,1,1]] (aB ZT [1]) ZQ))) ((.d (.slc 2 T.length (aG T))):AV)) (by kernel_rfl) ?_
  refine⟨oZ T e t h (by omega) yu (by decide) hh,fun _=>⟨YR T e hN hl (t.tail,false) ((List.tail_suffix t).trans h),?_⟩,fun c=>(by cases c)⟩
  refine aK.weaken ?_ k
  exact AS.bV (by kernel_rfl)
 ·have e1:lD s=(.empty,s):=if_neg hi
  rw[e1] at k
  refine aF (aj:=pG T e s false s .empty s s aJ s) (keep:=[]) (cuts:=[13,14]) (n:=1000) follows ?_
  refine au (fun ZT ZW ZQ _=>(aA Tryz.prog G 83 [(.box 1000000 0),(vs (ByteArray.mk #[105,110]))] [(1000000,[(.d (.slc 2 T.length (aG T))),(vi (↑(kI T s.fst))),(vi e),(vb s.snd),(vi (bif s.snd then hdA e s.fst else 0))])] (vb false) [(1000000,[(.d (.slc 2 T.length (aG T))),(vi (↑(kI T s.fst))),(vi e),(vb s.snd),(vi (bif s.snd then hdA e s.fst else 0))])]∧((false=true)→ZW [cd Tryz.f41 [1,1,1,1,1,1,0,1,0],cd Tryz.f41 [1,1,1,1,1,1,1]] (aB ZT [0]) ZQ)∧((false=false)→ZW [cd Tryz.f41 [1,1,1,1,1,1,1]] (aB ZT [1]) ZQ))) (by kernel_rfl) ?_
  have hi:lG yu s=false:=by simpa using hi
  refine⟨pW T e s.1 s.2 h yu (by decide) hi,fun c=>(by cases c),fun _=>?_⟩
  refine aK.weaken ?_ k
  refine AS.leZ [] [1] (b:=((T0∧T0∧T0∧True)∧T0∧((some [(vi kd),(vs nm),(vs (ByteArray.mk #[])),(vi 0),(vs (ByteArray.mk #[])),(vi 0),(vi 0),(vi 0),(.d (.con (.slice none 0 0))),(vi 0),(vs (ByteArray.mk #[])),(vi 0),(vi 0),(vi 0),(.d (.con (.slice none 0 0))),(vi pos)]):(Option (List AV)))=(some [(vi kd),(vs nm),(vs ByteArray.empty),(vi 0),(vs (ByteArray.mk #[])),(vi 0),(vi 0),(vi 0),(.d (.con (.slice none 0 0))),(vi 0),(vs (ByteArray.mk #[])),(vi 0),(vi 0),(vi 0),(.d (.con (.slice none 0 0))),(vi pos)])∧T0∧True)) (by kernel_rfl) (by kernel_rfl) ?_
  exact⟨⟨rfl,rfl,rfl,trivial⟩,rfl,rfl,rfl,trivial⟩
theorem ZN {Q:Exit→AS→Prop} (kd:Int) (nm gr:ByteArray) (pos:Int) (T:List Tk) (e:Int) (hl:T.length≤100000) (s:Sf) (h:s.1 <:+ T) (y:Ex) (mV:aA Tryz.prog G 46 [.box 1000000 0,.d (di 1)] (qB T e (dn colonS s).1 (dn colonS s).2) (.d (fD y)) (qB T e (exS (dn colonS s)).1 (exS (dn colonS s)).2))
  (k:aK Tryz.prog G (wu [1,1,1,1,1,1,1,1,1,0]++wu [1,1,1,1,1,1,1,1,1,1]) (yP kd nm gr (jl (ht y) y) zeroE pos T e (exS (dn colonS s))) Q):aK Tryz.prog G (wu [1,1,1,1,1,1,1]) (yP kd nm gr zeroE zeroE pos T e s) Q:=by
 refine aF (aj:=pG T e s false s .empty s (dn colonS s) y (exS (dn colonS s))) (keep:=[]) (cuts:=[16]) (n:=1000) follows ?_
 refine au (fun ZT ZW ZQ _=>(fun Za Zb=>(aA Tryz.prog G 85 [(.box 1000000 0),(vs (ByteArray.mk #[58]))] [(1000000,[Zb,(vi (↑(kI T s.fst))),(vi e),(vb s.snd),(vi (bif s.snd then hdA e s.fst else 0))])] (.d (.ak [])) [(1000000,[Zb,(vi (↑(kI T (dn colonS s).fst))),(vi e),(vb (dn colonS s).snd),(vi (bif (dn colonS s).snd then hdA e (dn colonS s).fst else 0))])]∧aA Tryz.prog G 46 [(.box 1000000 0),(vi 1)] [(1000000,[Zb,(vi (↑(kI T (dn colonS s).fst))),(vi e),(vb (dn colonS s).snd),(vi (bif (dn colonS s).snd then hdA e (dn colonS s).fst else 0))])] (.d (aN (ht y) y)) [(1000000,[Zb,(vi (↑(kI T (aQ Za)))),(vi e),(vb (isBad Za)),(vi (bif isBad Za then hdA e (aQ Za) else 0))])]∧ZW [cd Tryz.f41 [1,1,1,1,1,1,1,1,1,0],cd Tryz.f41 [1,1,1,1,1,1,1,1,1,1]] (aB ZT []) ZQ)) (fF (Md.lvl 0) (dn colonS s).fst (dn colonS s).snd) ((.d (.slc 2 T.length (aG T))):AV)) (by kernel_rfl) ?_
 refine⟨Y4 T e hl colonS (by decide) s h,mV,?_⟩
 refine aK.weaken ?_ k
 exact AS.bV (by kernel_rfl)
def I5 (s:Sf):Sf:=if lG ng s=true then exS (s.1.tail,false) else s
theorem aaQ {Q:Exit→AS→Prop} (kd:Int) (nm gr:ByteArray) (am:Ex) (pos:Int) (T:List Tk) (e:Int) (hl:T.length≤100000) (s:Sf) (h:s.1 <:+ T) (y:Ex) (mV:lG ng s=true→aA Tryz.prog G 46 [.box 1000000 0,.d (di 1)] (qB T e s.1.tail false) (.d (fD y)) (qB T e (exS (s.1.tail,false)).1 (exS (s.1.tail,false)).2)) (hy:lG ng s=false→y=aJ)
  (k:aK Tryz.prog G (wu [1,1,1,1,1,1,1,1,1,1]) (yP kd nm gr (jl (ht am) am) (jl (ht y) y) pos T e (I5 s)) Q):aK Tryz.prog G (wu [1,1,1,1,1,1,1,1,1,0]++wu [1,1,1,1,1,1,1,1,1,1]) (yP kd nm gr (jl (ht am) am) zeroE pos T e s) Q:=by
 by_cases hi:lG ng s=true
 ·have e1:I5 s=exS (s.1.tail,false):=if_pos hi
  have mV:=mV hi
  obtain ⟨t,b⟩:=s
  have hi':dI t b ng=true:=hi
  unfold dI at hi'
  simp only[aV,Bool.not_eq_true',decide_eq_true_eq] at hi'
  obtain ⟨rfl,hh⟩:=hi'
  rw[e1] at k
  refine aF (aj:=pG T e (t,false) true (t.tail,false) .empty (t,false) (t,false) y (exS (t.tail,false))) (keep:=[]) (cuts:=[18]) (n:=1000) follows ?_
  refine au (fun ZT ZW ZQ _=>(fun Za=>(aA Tryz.prog G 83 [(.box 1000000 0),(vs (ByteArray.mk #[105,102]))] [(1000000,[Za,(vi (↑(kI T t))),(vi e),(vb false),(vi (bif false then hdA e t else 0))])] (vb true) [(1000000,[Za,(vi (↑(kI T t.tail))),(vi e),(vb false),(vi (bif false then hdA e t.tail else 0))])]∧((true=true)→(aA Tryz.prog G 46 [(.box 1000000 0),(vi 1)] [(1000000,[Za,(vi (↑(kI T t.tail))),(vi e),(vb false),(vi (bif false then hdA e t.tail else 0))])] (.d (aN (ht y) y)) [(1000000,[Za,(vi (↑(kI T (aQ (fF (Md.lvl 0) t.tail false))))),(vi e),(vb (isBad (fF (Md.lvl 0) t.tail false))),(vi (bif isBad (fF (Md.lvl 0) t.tail false) then hdA e (aQ (fF (Md.lvl 0) t.tail false)) else 0))])]∧ZW [cd Tryz.f41 [1,1,1,1,1,1,1,1,1,1]] (aB ZT [0]) ZQ))∧((true=false)→ZW [cd Tryz.f41 [1,1,1,1,1,1,1,1,1,1]] (aB ZT [1]) ZQ))) ((.d (.slc 2 T.length (aG T))):AV)) (by kernel_rfl) ?_
  refine⟨oZ T e t h (by omega) ng (by decide) hh,fun _=>⟨mV,?_⟩,fun c=>(by cases c)⟩
  refine aK.weaken ?_ k
  exact AS.bV (by kernel_rfl)
 ·have e1:I5 s=s:=if_neg hi
  have hi:lG ng s=false:=by simpa using hi
  have hy:=hy hi
  subst hy
  rw[e1] at k
  refine aF (aj:=pG T e s false s .empty s s aJ s) (keep:=[]) (cuts:=[17,18]) (n:=1000) follows ?_
  refine au (fun ZT ZW ZQ _=>(aA Tryz.prog G 83 [(.box 1000000 0),(vs (ByteArray.mk #[105,102]))] [(1000000,[(.d (.slc 2 T.length (aG T))),(vi (↑(kI T s.fst))),(vi e),(vb s.snd),(vi (bif s.snd then hdA e s.fst else 0))])] (vb false) [(1000000,[(.d (.slc 2 T.length (aG T))),(vi (↑(kI T s.fst))),(vi e),(vb s.snd),(vi (bif s.snd then hdA e s.fst else 0))])]∧((false=true)→ZW [cd Tryz.f41 [1,1,1,1,1,1,1,1,1,0,1,0],cd Tryz.f41 [1,1,1,1,1,1,1,1,1,1]] (aB ZT [0]) ZQ)∧((false=false)→ZW [cd Tryz.f41 [1,1,1,1,1,1,1,1,1,1]] (aB ZT [1]) ZQ))) (by kernel_rfl) ?_
  refine⟨pW T e s.1 s.2 h ng (by decide) hi,fun c=>(by cases c),fun _=>?_⟩
  refine aK.pre (AS.dZ.cell _ 3 14 (l:=Lr kd nm gr (jl (ht am) am) zeroE pos) (x:=.d (.con (.slice none 0 0))) (.d (.slc 6 0 (lay (cu (ht aJ)) []))) (by kernel_rfl) (by kernel_rfl) rfl (by kernel_rfl) (fun β h v hv=>lV hv)) ?_
  refine aK.weaken ?_ k
  refine AS.leZ [] [1] (b:=((T0∧T0∧T0∧True)∧T0∧((some [(vi kd),(vs nm),(vs gr),(vi am.k),(vs am.s),(vi am.n),(vi am.d),(vi am.pos),(.d (.slc 6 am.kids.length (lay (cu (ht am)) am.kids))),(vi 0),(vs (ByteArray.mk #[])),(vi 0),(vi 0),(vi 0),(.d (.slc 6 0 (lay (cu (ht aJ)) []))),(vi pos)]):(Option (List AV)))=(some [(vi kd),(vs nm),(vs gr),(vi am.k),(vs am.s),(vi am.n),(vi am.d),(vi am.pos),(.d (.slc 6 am.kids.length (lay (cu (ht am)) am.kids))),(vi 0),(vs aJ.s),(vi 0),(vi 0),(vi 0),(.d (.slc 6 0 (lay (cu (ht aJ)) aJ.kids))),(vi pos)])∧T0∧True)) (by kernel_rfl) (by kernel_rfl) ?_
  exact⟨⟨rfl,rfl,rfl,trivial⟩,rfl,rfl,rfl,trivial⟩
theorem Z4 (kd:Int) (nm gr:ByteArray) (am wh:Ex) (pos:Int) (T:List Tk) (e:Int) (hl:T.length≤100000) (s:Sf) (h:s.1 <:+ T) :
  aK Tryz.prog G (wu [1,1,1,1,1,1,1,1,1,1]) (yP kd nm gr (jl (ht am) am) (jl (ht wh) wh) pos T e s) (wC Tryz.prog Tryz.f41 [] (.d (lg ⟨kd,nm,gr,am,wh,pos,ht am,ht wh⟩)) (qB T e (dn jA s).1 (dn jA s).2)):=by
 refine aF (aj:=pG T e s false s .empty s (dn jA s) aJ s) (keep:=[]) (cuts:=[]) (n:=1000) follows ?_
 refine au (fun _ _ _ _=>(fun Za=>(aA Tryz.prog G 85 [(.box 1000000 0),(vs (ByteArray.mk #[59]))] [(1000000,[(.d (.slc 2 T.length (aG T))),(vi (↑(kI T s.fst))),(vi e),(vb s.snd),(vi (bif s.snd then hdA e s.fst else 0))])] (.d (.ak [])) [(1000000,[(.d (.slc 2 T.length (aG T))),(vi (↑(kI T (dn jA s).fst))),(vi e),(vb (dn jA s).snd),(vi (bif (dn jA s).snd then hdA e (dn jA s).fst else 0))])]∧(ZS ((.d (.agg [(di kd),(ds nm),(ds gr),(di am.k),(ds am.s),(di am.n),(di am.d),(di am.pos),(.slc 6 am.kids.length (lay (cu (ht am)) am.kids)),(di wh.k),(ds wh.s),(di wh.n),(di wh.d),(di wh.pos),(.slc 6 wh.kids.length (lay (cu (ht wh)) wh.kids)),(di pos)])):AV))∧(Za:(Option (List AV)))=Za∧True)) (some [(.d (.slc 2 T.length (aG T))),(vi (↑(kI T (dn jA s).fst))),(vi e),(vb (dn jA s).snd),(vi (bif (dn jA s).snd then hdA e (dn jA s).fst else 0))])) (by kernel_rfl) ?_
 exact⟨Y4 T e hl jA (by decide) s h,rfl,rfl,trivial⟩
end Go.Proofs
/- The reference's parser: a rule,whole. -/
namespace Go.Proofs
open Go Go.Ab Go.RowKit
set_option maxHeartbeats 1000000
set_option maxRecDepth 100000
variable {G:IH}
def vZ:Rr→Bool
 | .ok _ _=>false
 | .bad _=>true
def Yi (s1:Sf):Sf:=dn jA (I5 (exS (dn colonS (lD s1).2)))
theorem U9 {t:List Tk}:exS (t,false)=(aQ (pr (.lvl 0) t),isBad (pr (.lvl 0) t)):=by
 show (aQ (if false=true then Rs.bad t else pr (.lvl 0) t),isBad (if false=true then Rs.bad t else pr (.lvl 0) t))=_
 rw[if_neg (by decide)]
theorem H7 (kd:Int) (nm gr:ByteArray) (pos:Int) (am wh:Ex) (t:List Tk):OU (Cc kd nm gr pos am wh t) (⟨kd,nm,gr,am,wh,pos,ht am,ht wh⟩,dn jA (t,false)):=by
 unfold Cc dn
 by_cases h:ah t=jA
 ·simp[h,OU]
 ·simp[h,OU]
theorem Xk (kd:Int) (nm gr:ByteArray) (pos:Int) (am y2:Ex) (t:List Tk) (h2:lG ng (t,false)=true→∀x r,fF (.lvl 0) t.tail false=.ok x r→y2=x) (h3:lG ng (t,false)=false→y2=aJ):OU (DJ kd nm gr pos am t) (⟨kd,nm,gr,am,y2,pos,ht am,ht y2⟩,dn jA (I5 (t,false))):=by
 unfold DJ I5
 by_cases h:ah t=ng
 ·have ht':lG ng (t,false)=true:=by simp[lG,h]
  have h2:=h2 ht'
  have e0:fF (.lvl 0) t.tail false=pr (.lvl 0) t.tail:=rfl
  rw[e0] at h2
  rw[if_pos h,if_pos ht',U9]
  cases hq:pr (.lvl 0) t.tail with
  | ok x r=>
   rw[h2 x r hq]
   exact H7 kd nm gr pos am x r
  | bad r=>exact rfl
 ·have ht':lG ng (t,false)=false:=by simp[lG,h]
  rw[if_neg h,if_neg (by rw[ht'];decide),h3 ht']
  exact H7 kd nm gr pos am aJ t
theorem LH (kd:Int) (nm gr:ByteArray) (pos:Int) (y1 y2:Ex) (t:List Tk) (h1:∀x r,fF (.lvl 0) (dn colonS (t,false)).1 (dn colonS (t,false)).2=.ok x r→y1=x)
  (h2:lG ng (exS (dn colonS (t,false)))=true→∀x r,fF (.lvl 0) (exS (dn colonS (t,false))).1.tail false=.ok x r→y2=x) (h3:lG ng (exS (dn colonS (t,false)))=false→y2=aJ) :
  OU (BZ kd nm gr pos t) (⟨kd,nm,gr,y1,y2,pos,ht y1,ht y2⟩,dn jA (I5 (exS (dn colonS (t,false))))):=by
 unfold BZ
 by_cases h:ah t=colonS
 ·have e1:dn colonS (t,false)=(t.tail,false):=by simp[dn,h]
  rw[e1] at h1 h2 h3⊢
  rw[if_pos h]
  have h1:∀x r,pr (.lvl 0) t.tail=.ok x r→y1=x:=h1
  rw[U9] at h2 h3⊢
  cases hq:pr (.lvl 0) t.tail with
  | ok x r=>
   rw[hq] at h2 h3
   obtain rfl:=h1 x r hq
   exact Xk kd nm gr pos y1 y2 r h2 h3
  | bad r=>exact rfl
 ·have e1:dn colonS (t,false)=(t,true):=by simp[dn,h]
  rw[e1,if_neg h]
  exact rfl
theorem XY (kd:Int) (nm:ByteArray) (pos:Int) (y1 y2:Ex) (t:List Tk) (h1:∀x r,fF (.lvl 0) (dn colonS (lD (t,false)).2).1 (dn colonS (lD (t,false)).2).2=.ok x r→y1=x)
  (h2:lG ng (exS (dn colonS (lD (t,false)).2))=true→∀x r,fF (.lvl 0) (exS (dn colonS (lD (t,false)).2)).1.tail false=.ok x r→y2=x) (h3:lG ng (exS (dn colonS (lD (t,false)).2))=false→y2=aJ) :
  OU (Ef kd nm pos t) (⟨kd,nm,(lD (t,false)).1,y1,y2,pos,ht y1,ht y2⟩,Yi (t,false)):=by
 unfold Ef Yi
 by_cases hi:ah t=yu
 ·rw[if_pos hi]
  have e2:lD (t,false)=kM (t.tail,false):=by simp[lD,lG,hi]
  rw[e2] at h1 h2 h3⊢
  by_cases hg:nameB (ah t.tail)=true
  ·rw[if_pos hg]
   have e3:kM (t.tail,false)=(ah t.tail,t.tail.tail,false):=by simp[kM,hg]
   rw[e3] at h1 h2 h3⊢
   exact LH kd nm _ pos y1 y2 _ h1 h2 h3
  ·rw[if_neg hg]
   have e3:kM (t.tail,false)=(.empty,t.tail,true):=by simp[kM,hg]
   rw[e3]
   exact rfl
 ·rw[if_neg hi]
  have e2:lD (t,false)=(.empty,t,false):=by simp[lD,lG,hi]
  rw[e2] at h1 h2 h3⊢
  exact LH kd nm _ pos y1 y2 _ h1 h2 h3
theorem XP {T:List Tk} {s:Sf} (h:s.1 <:+ T):(lD s).2.1 <:+ T∧(dn colonS (lD s).2).1 <:+ T∧(exS (dn colonS (lD s).2)).1 <:+ T∧(I5 (exS (dn colonS (lD s).2))).1 <:+ T:=by
 have k1:(lD s).2.1 <:+ T:=by
  unfold lD
  split
  ·exact V3 (s:=(s.1.tail,false)) ((List.tail_suffix _).trans h)
  ·exact h
 have k2:=Z7 (w:=colonS) k1
 have k3:=WS k2
 refine⟨k1,k2,k3,?_⟩
 unfold I5
 split
 ·exact WS (s:=(_,false)) ((List.tail_suffix _).trans k3)
 ·exact k3
theorem f41 (T:List Tk) (e:Int) (hN:qO T) (hS:gB T) (hl:T.length≤100000) (t:List Tk) (h:t <:+ T):∃x:Rl,aA Tryz.prog G 41 [.box 1000000 0] (qB T e t false) (.d (lg x)) (qB T e (jm (jg t)) (vZ (jg t)))∧∀y r,jg t=.ok y r→x=y:=by
 have fin:∀(x:Rl) (s:Sf),aA Tryz.prog G 41 [.box 1000000 0] (qB T e t false) (.d (lg x)) (qB T e s.1 s.2)→OU (jg t) (x,s)→∃x:Rl,aA Tryz.prog G 41 [.box 1000000 0] (qB T e t false) (.d (lg x)) (qB T e (jm (jg t)) (vZ (jg t)))∧∀y r,jg t=.ok y r→x=y:=by
  intro x s k ha
  refine⟨x,?_⟩
  cases hq:jg t with
  | ok y r=>
   rw[hq] at ha
   have ha:(x,s)=(y,r,false):=ha
   injection ha with a1 a2
   subst a1;subst a2
   exact⟨k,fun y r q=>by injection q⟩
  | bad r=>
   rw[hq] at ha
   have ha:s=(r,true):=ha
   subst ha
   exact⟨k,fun y r q=>(by cases q)⟩
 by_cases hk:dN bP (ah t)=true
 ·have hne:=Ib hk
  have e1:yD t 4=eF bP (ah t):=if_pos hk
  have e2:wG t 4=t.tail:=if_pos hk
  have hst:t.tail <:+ T:=(List.tail_suffix t).trans h
  obtain ⟨s1,hs1⟩:∃s1,s1=(kM (t.tail,false)).2:=⟨_,rfl⟩
  have hn1:s1.1 <:+ T:=by rw[hs1];exact V3 (s:=(t.tail,false)) hst
  obtain ⟨g1,g2,g3,g4⟩:=XP hn1
  obtain ⟨y1,k1,a1⟩:=f46 (G:=G) T e hN hS hl (dn colonS (lD s1).2).1 (dn colonS (lD s1).2).2 g2
  obtain ⟨y2,k2,a2,a3⟩:∃y2,(lG ng (exS (dn colonS (lD s1).2))=true→aA Tryz.prog G 46 [.box 1000000 0,.d (di 1)] (qB T e (exS (dn colonS (lD s1).2)).1.tail false) (.d (fD y2)) (qB T e (exS ((exS (dn colonS (lD s1).2)).1.tail,false)).1 (exS ((exS (dn colonS (lD s1).2)).1.tail,false)).2))∧
    (lG ng (exS (dn colonS (lD s1).2))=true→∀x r,fF (.lvl 0) (exS (dn colonS (lD s1).2)).1.tail false=.ok x r→y2=x)∧(lG ng (exS (dn colonS (lD s1).2))=false→y2=aJ):=by
   by_cases hi:lG ng (exS (dn colonS (lD s1).2))=true
   ·obtain ⟨y2,k2,a2⟩:=f46 (G:=G) T e hN hS hl (exS (dn colonS (lD s1).2)).1.tail false ((List.tail_suffix _).trans g3)
    exact⟨y2,fun _=>k2,fun _=>a2,fun c=>absurd c (by rw[hi];decide)⟩
   ·exact⟨aJ,fun c=>absurd c hi,fun c=>absurd c hi,fun _=>rfl⟩
  refine fin ⟨eF bP (ah t),(kM (t.tail,false)).1,(lD s1).1,y1,y2,hdA e t,ht y1,ht y2⟩ (Yi s1) ?_ ?_
  ·refine aA.aP (mv:=[]) (by kernel_rfl) Tryz.func41 rfl Tryz.call41 ?_
   refine Lm T e t h hl ?_
   rw[e1,e2]
   refine acd T e _ _ _ (Vp hk).1 (Xl _ _ T e hN hl (t.tail,false) hst ?_)
   rw[←hs1]
   refine acs _ _ _ T e hN hl s1 hn1 (ZN _ _ _ _ T e hl _ g1 y1 k1 (aaQ _ _ _ _ _ T e hl _ g3 y2 k2 a3 ?_))
   exact Z4 _ _ _ _ _ _ T e hl _ g4
  ·unfold jg
   rw[if_pos hk]
   by_cases hn:nameB (ah t.tail)=true
   ·rw[if_pos hn,←jr e hne]
    have e3:kM (t.tail,false)=(ah t.tail,t.tail.tail,false):=by simp[kM,hn]
    rw[e3] at hs1
    subst hs1
    rw[e3]
    exact XY _ _ _ y1 y2 _ a1 a2 a3
   ·rw[if_neg hn]
    have e3:kM (t.tail,false)=(.empty,t.tail,true):=by simp[kM,hn]
    rw[e3] at hs1
    subst hs1
    exact rfl
 ·have e1:yD t 4 = -1:=if_neg hk
  have e2:wG t 4=t:=if_neg hk
  refine fin ⟨-1,.empty,.empty,aJ,aJ,hdA e t,ht aJ,ht aJ⟩ (t,true) ?_ ?_
  ·refine aA.aP (mv:=[]) (by kernel_rfl) Tryz.func41 rfl Tryz.call41 ?_
   refine Lm T e t h hl ?_
   rw[e1,e2]
   exact aar T e t h _
  ·unfold jg
   rw[if_neg hk]
   exact rfl
end Go.Proofs
/- The reference's Expression. -/
namespace Go.Proofs
open Go Go.Ab Go.RowKit
set_option maxHeartbeats 4000000
set_option maxRecDepth 100000
variable {G:IH}
noncomputable def Wi (T:List Tk) (a er:Int) (hh:Int):cZ:=fun f _=>match f with
 | 12=>some (.ak [kJ T,di a,di er])
 | 42=>some (di hh)
 | _=>none
noncomputable def m16 (T:List Tk) (e:Int) (y:Ex) (r:List Tk) (b:Bool):FuncId→List AV→List (Nat×List AV)→Option (AV×List (Nat×List AV)):=fun f _ _=>match f with
 | 46=>some (.d (fD y),qB T e r b)
 | 47=>some (.d kF,qB T e r true)
 | _=>none
theorem ab2 (s:ByteArray) {a er:Int} (he:er≠0) (h:ay Tryz.prog G 12 [ds s] (.ak [kJ [],di a,di er])):ay Tryz.prog G 16 [ds s] (.ak [oM,di a,di er]):=by
 refine ay.aP Tryz.func16 rfl Tryz.call16 ?_
 refine aF (aj:=({ d:=Wi [] a er 0,m:=m16 [] 0 aJ [] false }:dK)) (keep:=[]) (cuts:=[4]) (n:=1000) follows ?_
 refine au (fun ZT ZW ZQ ZK=>(ZK 12 [(ds s)] (.ak [(.slc 2 0 (aG [])),(di a),(di er)])∧(((er != 0)=true)→(ZS ((.ak [oM,(di a),(di er)]):DV)))∧(((er != 0)=false)→ZW [cd Tryz.f16 [1,1,1]] (aB ZT [1]) ZQ))) (by kernel_rfl) ?_
 refine⟨h,fun _=>rfl,fun c=>?_⟩
 exact absurd c (by simpa using he)
theorem H9 {c:FuncId} {T:List Tk} {e:Int} {args:List AV} {r:AV} {post:List (Nat×List AV)} (h:aA Tryz.prog G c args (qB T e T false) r post):aA Tryz.prog G c args [(1000000,[.d (kJ T),.d (di 0),.d (di e),.d (db false),.d (di 0)])] r post:=by
 have e1:((kI T T:Nat):Int)=0:=by unfold kI;rw[Nat.sub_self];rfl
 have h':aA Tryz.prog G c args [(1000000,[.d (kJ T),.d (di ((kI T T:Nat):Int)),.d (di e),.d (db false),.d (di 0)])] r post:=h
 rwa [e1] at h'
theorem ZO (s:ByteArray) (T:List Tk) (y:Ex) (r:List Tk) (hr:r <:+ T) (h:ay Tryz.prog G 12 [ds s] (.ak [kJ T,di 0,di 0])) (mV:aA Tryz.prog G 46 [.box 1000000 0,.d (di 1)] (qB T s.size T false) (.d (fD y)) (qB T s.size r true)):ay Tryz.prog G 16 [ds s] (.ak [oM,di (hdA s.size r),di 3]):=by
 refine ay.aP Tryz.func16 rfl Tryz.call16 ?_
 refine aF (aj:=({ d:=Wi T 0 0 0,m:=m16 T s.size y r true }:dK)) (keep:=[]) (cuts:=[10]) (n:=1000) follows ?_
 refine au (fun ZT ZW ZQ ZK=>(fun Za Zb Zc Zd=>(ZK 12 [(ds s)] (.ak [(.slc 2 T.length (aG T)),(di 0),(di 0)])∧((false=true)→(((.ak [Za,(di 0),(di 0)]):DV)=Zc))∧((false=false)→(aA Tryz.prog G 46 [(.box 1000000 0),(vi 1)] [(1000000,[Zd,(vi 0),(vi (↑s.size)),(vb false),(vi 0)])] (.d (aN (ht y) y)) [(1000000,[Zd,(vi (↑(kI T r))),(vi (↑s.size)),(vb true),(vi Zb)])]∧(((decide ((↑(kI T r):Int)<↑T.length))=true)→(aA Tryz.prog G 47 [(.box 1000000 0)] [(1000000,[Zd,(vi (↑(kI T r))),(vi (↑s.size)),(vb true),(vi Zb)])] (.d (.ak [])) [(1000000,[Zd,(vi (↑(kI T r))),(vi (↑s.size)),(vb true),(vi Zb)])]∧((true=true)→(((.ak [Za,(di Zb),(di 3)]):DV)=Zc))∧((true=false)→ZW [cd Tryz.f16 [1,1,1,1,1,1,1,0],cd Tryz.f16 [1,1,1,1,1,1,1,1]] (aB ZT [1,0,1]) ZQ)))∧(((decide ((↑(kI T r):Int)<↑T.length))=false)→(((true=true)→(((.ak [Za,(di Zb),(di 3)]):DV)=Zc))∧((true=false)→ZW [cd Tryz.f16 [1,1,1,1,1,1,1,0],cd Tryz.f16 [1,1,1,1,1,1,1,1]] (aB ZT [1,1,1]) ZQ))))))) ((.agg [(di 0),(ds (ByteArray.mk #[])),(di 0),(di 0),(di 0),(.con (.slice none 0 0))]):DV) (bif true then hdA (↑s.size) r else 0) ((.ak [oM,(di (hdA (↑s.size) r)),(di 3)]):DV) ((.d (.slc 2 T.length (aG T))):AV)) (by kernel_rfl) ?_
 exact⟨h,fun c=>(by cases c),fun _=>⟨H9 mV,fun _=>⟨f47 T s.size r true hr,fun _=>rfl,fun c=>(by cases c)⟩,fun _=>⟨fun _=>rfl,fun c=>(by cases c)⟩⟩⟩
theorem Xr (s:ByteArray) (T:List Tk) (y:Ex) (r:List Tk) (hr:r <:+ T) (hn:r≠[]) (h:ay Tryz.prog G 12 [ds s] (.ak [kJ T,di 0,di 0])) (mV:aA Tryz.prog G 46 [.box 1000000 0,.d (di 1)] (qB T s.size T false) (.d (fD y)) (qB T s.size r false)):ay Tryz.prog G 16 [ds s] (.ak [oM,di (hdA s.size r),di 3]):=by
 have hk:=(lT hr hn 0).1
 refine ay.aP Tryz.func16 rfl Tryz.call16 ?_
 refine aF (aj:=({ d:=Wi T 0 0 0,m:=m16 T s.size y r false }:dK)) (keep:=[]) (cuts:=[10]) (n:=1000) follows ?_
 refine au (fun ZT ZW ZQ ZK=>(fun Za Zb Zc Zd=>(ZK 12 [(ds s)] (.ak [(.slc 2 T.length (aG T)),(di 0),(di 0)])∧((false=true)→(((.ak [Za,(di 0),(di 0)]):DV)=Zb))∧((false=false)→(aA Tryz.prog G 46 [(.box 1000000 0),(vi 1)] [(1000000,[Zc,(vi 0),(vi (↑s.size)),(vb false),(vi 0)])] (.d (aN (ht y) y)) [(1000000,[Zc,(vi (↑(kI T r))),(vi (↑s.size)),(vb false),(vi Zd)])]∧(((decide ((↑(kI T r):Int)<↑T.length))=true)→(aA Tryz.prog G 47 [(.box 1000000 0)] [(1000000,[Zc,(vi (↑(kI T r))),(vi (↑s.size)),(vb false),(vi Zd)])] (.d (.ak [])) [(1000000,[Zc,(vi (↑(kI T r))),(vi (↑s.size)),(vb true),(vi (bif true then hdA (↑s.size) r else 0))])]∧((true=true)→(((.ak [Za,(di (bif true then hdA (↑s.size) r else 0)),(di 3)]):DV)=Zb))∧((true=false)→ZW [cd Tryz.f16 [1,1,1,1,1,1,1,0],cd Tryz.f16 [1,1,1,1,1,1,1,1]] (aB ZT [1,0,1]) ZQ)))∧(((decide ((↑(kI T r):Int)<↑T.length))=false)→(((false=true)→(((.ak [Za,(di Zd),(di 3)]):DV)=Zb))∧((false=false)→ZW [cd Tryz.f16 [1,1,1,1,1,1,1,0],cd Tryz.f16 [1,1,1,1,1,1,1,1]] (aB ZT [1,1,1]) ZQ))))))) ((.agg [(di 0),(ds (ByteArray.mk #[])),(di 0),(di 0),(di 0),(.con (.slice none 0 0))]):DV) ((.ak [oM,(di (hdA (↑s.size) r)),(di 3)]):DV) ((.d (.slc 2 T.length (aG T))):AV) (bif false then hdA (↑s.size) r else 0)) (by kernel_rfl) ?_
 try dsimp only
 rw[decide_eq_true (show (kI T r:Int)<T.length by omega)]
 exact⟨h,fun c=>(by cases c),fun _=>⟨H9 mV,fun _=>⟨f47 T s.size r false hr,fun _=>rfl,fun c=>(by cases c)⟩,fun c=>(by cases c)⟩⟩
theorem aa6 (s:ByteArray) (T:List Tk) (x:Ex) (h:ay Tryz.prog G 12 [ds s] (.ak [kJ T,di 0,di 0])) (mV:aA Tryz.prog G 46 [.box 1000000 0,.d (di 1)] (qB T s.size T false) (.d (fD x)) (qB T s.size [] false)) (k42:ay Tryz.prog G 42 [fD x] (di ((ht x:Int)+1))):ay Tryz.prog G 16 [ds s] (vP (if (ht x:Int)+1>32 then (aJ,0,8) else (x,0,0))):=by
 have e0:kI T []=T.length:=rfl
 by_cases hd:(ht x:Int)+1>32
 ·rw[if_pos hd]
  refine ay.aP Tryz.func16 rfl Tryz.call16 ?_
  refine aF (aj:=({ d:=Wi T 0 0 ((ht x:Int)+1),m:=m16 T s.size x [] false }:dK)) (keep:=[]) (cuts:=[12]) (n:=1000) follows ?_
  refine au (fun ZT ZW ZQ ZK=>(fun Za Zb Zc Zd=>(ZK 12 [(ds s)] (.ak [(.slc 2 T.length (aG T)),(di 0),(di 0)])∧((false=true)→(((.ak [Za,(di 0),(di 0)]):DV)=(vP (aJ,0,8))))∧((false=false)→(aA Tryz.prog G 46 [(.box 1000000 0),(vi 1)] [(1000000,[Zc,(vi 0),(vi (↑s.size)),(vb false),(vi 0)])] (.d (aN (ht x) x)) [(1000000,[Zc,(vi (↑(kI T []))),(vi (↑s.size)),(vb false),(vi Zd)])]∧(((decide ((↑(kI T []):Int)<↑T.length))=true)→(aA Tryz.prog G 47 [(.box 1000000 0)] [(1000000,[Zc,(vi (↑(kI T []))),(vi (↑s.size)),(vb false),(vi Zd)])] (.d (.ak [])) [(1000000,[Zc,(vi (↑(kI T []))),(vi (↑s.size)),(vb true),(vi (bif true then hdA ↑s.size [] else 0))])]∧((true=true)→(((.ak [Za,(di (bif true then hdA ↑s.size [] else 0)),(di 3)]):DV)=(vP (aJ,0,8))))∧((true=false)→(ZK 42 [(aN (ht x) x)] (di (↑(ht x)+1))∧((Zb=true)→(((.ak [Za,(di 0),(di 8)]):DV)=(vP (aJ,0,8))))∧((Zb=false)→ZW [cd Tryz.f16 [1,1,1,1,1,1,1,1]] (aB ZT [1,0,1,1]) ZQ)))))∧(((decide ((↑(kI T []):Int)<↑T.length))=false)→(((false=true)→(((.ak [Za,(di Zd),(di 3)]):DV)=(vP (aJ,0,8))))∧((false=false)→(ZK 42 [(aN (ht x) x)] (di (↑(ht x)+1))∧((Zb=true)→(((.ak [Za,(di 0),(di 8)]):DV)=(vP (aJ,0,8))))∧((Zb=false)→ZW [cd Tryz.f16 [1,1,1,1,1,1,1,1]] (aB ZT [1,1,1,1]) ZQ))))))))) ((.agg [(di 0),(ds (ByteArray.mk #[])),(di 0),(di 0),(di 0),(.con (.slice none 0 0))]):DV) (decide ((↑(ht x):Int)+1>32)) ((.d (.slc 2 T.length (aG T))):AV) (bif false then hdA ↑s.size [] else 0)) (by kernel_rfl) ?_
  try dsimp only
  rw[e0,decide_eq_false (Int.lt_irrefl _),decide_eq_true hd]
  exact⟨h,fun c=>(by cases c),fun _=>⟨H9 mV,fun c=>(by cases c),fun _=>⟨fun c=>(by cases c),fun _=>⟨k42,fun _=>rfl,fun c=>(by cases c)⟩⟩⟩⟩
 ·rw[if_neg hd]
  refine ay.aP Tryz.func16 rfl Tryz.call16 ?_
  refine aF (aj:=({ d:=Wi T 0 0 ((ht x:Int)+1),m:=m16 T s.size x [] false }:dK)) (keep:=[]) (cuts:=[11]) (n:=1000) follows ?_
  refine au (fun ZT ZW ZQ ZK=>(fun Za Zb Zc Zd=>(ZK 12 [(ds s)] (.ak [(.slc 2 T.length (aG T)),(di 0),(di 0)])∧((false=true)→(((.ak [Za,(di 0),(di 0)]):DV)=(vP (x,0,0))))∧((false=false)→(aA Tryz.prog G 46 [(.box 1000000 0),(vi 1)] [(1000000,[Zc,(vi 0),(vi (↑s.size)),(vb false),(vi 0)])] (.d (aN (ht x) x)) [(1000000,[Zc,(vi (↑(kI T []))),(vi (↑s.size)),(vb false),(vi Zd)])]∧(((decide ((↑(kI T []):Int)<↑T.length))=true)→(aA Tryz.prog G 47 [(.box 1000000 0)] [(1000000,[Zc,(vi (↑(kI T []))),(vi (↑s.size)),(vb false),(vi Zd)])] (.d (.ak [])) [(1000000,[Zc,(vi (↑(kI T []))),(vi (↑s.size)),(vb true),(vi (bif true then hdA ↑s.size [] else 0))])]∧((true=true)→(((.ak [Za,(di (bif true then hdA ↑s.size [] else 0)),(di 3)]):DV)=(vP (x,0,0))))∧((true=false)→(ZK 42 [(aN (ht x) x)] (di (↑(ht x)+1))∧((Zb=true)→ZW [cd Tryz.f16 [1,1,1,1,1,1,1,0,1,0],cd Tryz.f16 [1,1,1,1,1,1,1,1]] (aB ZT [1,0,1,0]) ZQ)∧((Zb=false)→(((.ak [(aN (ht x) x),(di 0),(di 0)]):DV)=(vP (x,0,0))))))))∧(((decide ((↑(kI T []):Int)<↑T.length))=false)→(((false=true)→(((.ak [Za,(di Zd),(di 3)]):DV)=(vP (x,0,0))))∧((false=false)→(ZK 42 [(aN (ht x) x)] (di (↑(ht x)+1))∧((Zb=true)→ZW [cd Tryz.f16 [1,1,1,1,1,1,1,0,1,0],cd Tryz.f16 [1,1,1,1,1,1,1,1]] (aB ZT [1,1,1,0]) ZQ)∧((Zb=false)→(((.ak [(aN (ht x) x),(di 0),(di 0)]):DV)=(vP (x,0,0)))))))))))) ((.agg [(di 0),(ds (ByteArray.mk #[])),(di 0),(di 0),(di 0),(.con (.slice none 0 0))]):DV) (decide ((↑(ht x):Int)+1>32)) ((.d (.slc 2 T.length (aG T))):AV) (bif false then hdA ↑s.size [] else 0)) (by kernel_rfl) ?_
  try dsimp only
  rw[e0,decide_eq_false (Int.lt_irrefl _),decide_eq_false hd]
  exact⟨h,fun c=>(by cases c),fun _=>⟨H9 mV,fun c=>(by cases c),fun _=>⟨fun c=>(by cases c),fun _=>⟨k42,fun c=>(by cases c),fun _=>rfl⟩⟩⟩⟩
theorem aeu (s:ByteArray) (hs:s.size≤900000) (hR:QJ s):ay Tryz.prog G 16 [ds s] (vP (eY s)):=by
 unfold QJ at hR
 unfold eY
 by_cases he:(bG s).2.2=0
 ·obtain ⟨T,a,e,hW⟩:∃T a e,bG s=(T,a,e):=⟨_,_,_,rfl⟩
  rw[hW] at he
  have he:e=0:=he
  subst he
  obtain ⟨rfl,hO⟩:=uJ hW
  have hsz:=hO.size
  have hln:=hO.len
  have k12:=f12 (G:=G) s hs
  rw[hW] at k12
  have hN:=Wv _ _ _ _ hO.toks
  obtain ⟨y,mV,hy⟩:=f46 (G:=G) T s.size hN hO.sm (by omega) T false (List.suffix_refl _)
  have e0:fF (.lvl 0) T false=pr (.lvl 0) T:=rfl
  rw[e0] at mV hy
  have hsf:=oQ (.lvl 0) T
  cases hq:pr (.lvl 0) T with
  | ok x r=>
   rw[hq] at mV hsf
   obtain rfl:=hy x r hq
   cases r with
   | nil=>
    have e1:jO s=(y,0,0):=by unfold jO;rw[hW,if_neg (by simp)];simp only[hq]
    rw[e1] at hR⊢
    rw[if_neg (by simp)]
    exact aa6 s T y k12 mV (f42 _ y (Nat.le_refl _) hR)
   | cons w r=>
    have e1:jO s=(aJ,hdA s.size (w :: r),3):=by unfold jO;rw[hW,if_neg (by simp)];simp only[hq]
    rw[e1,if_pos (by simp)]
    exact Xr s T y (w :: r) hsf (List.cons_ne_nil w r) k12 mV
  | bad r=>
   rw[hq] at mV hsf
   have e1:jO s=(aJ,hdA s.size r,3):=by unfold jO;rw[hW,if_neg (by simp)];simp only[hq]
   rw[e1,if_pos (by simp)]
   exact ZO s T y r hsf k12 mV
 ·obtain ⟨T,a,e,hW⟩:∃T a e,bG s=(T,a,e):=⟨_,_,_,rfl⟩
  have e1:jO s=(aJ,a,e):=by unfold jO;rw[if_pos he,hW]
  have k12:=f12 (G:=G) s hs
  have hn:=zU he
  rw[hn,hW] at k12
  rw[hW] at he
  have he:e≠0:=he
  rw[e1,if_pos he]
  have h:=ab2 s he k12
  unfold vP
  rw[if_neg he]
  exact h
theorem f16 (s:ByteArray) (hs:s.size≤900000) (hR:QJ s):ay Tryz.prog G 16 [ds s] (.ak [fD (eY s).1,di (eY s).2.1,di (eY s).2.2]):=by
 refine ay.res (aeu s hs hR) fun k v hv=>?_
 unfold vP at hv
 by_cases h:(eY s).2.2=0
 ·rw[if_pos h] at hv;exact hv
 ·rw[if_neg h] at hv
  obtain ⟨us,rfl,a1,u1,rfl,h1,r⟩:=hv
  refine⟨_,rfl,a1,u1,rfl,?_,r⟩
  rw[U2 h]
  exact Qs h1
end Go.Proofs
/- The reference's Parse. -/
namespace Go.Proofs
open Go Go.Ab Go.RowKit
set_option maxHeartbeats 4000000
set_option maxRecDepth 100000
variable {G:IH}
noncomputable def d14 (T:List Tk) (a er:Int):cZ:=fun f x=>match f,x with
 | 12,_=>some (.ak [kJ T,di a,di er])
 | 42,[e]=>some (di ((ht (aO e):Int)+1))
 | _,_=>none
noncomputable def m14 (T:List Tk) (e:Int) (x:Rl) (r:List Tk) (b:Bool):FuncId→List AV→List (Nat×List AV)→Option (AV×List (Nat×List AV)):=fun f _ _=>match f with
 | 41=>some (.d (lg x),qB T e r b)
 | _=>none
noncomputable def xk (T:List Tk) (a er:Int) (e:Int) (x:Rl) (r:List Tk) (b:Bool):dK:={ d:=d14 T a er,m:=m14 T e x r b,rows:=fun n=>Nat.beq n 26 }
theorem abb (s:ByteArray) {a er:Int} (he:er≠0) (h:ay Tryz.prog G 12 [ds s] (.ak [kJ [],di a,di er])):ay Tryz.prog G 14 [ds s] (.ak [.con (.slice none 0 0),di a,di er]):=by
 refine ay.aP Tryz.func14 rfl Tryz.call14 ?_
 refine aF (aj:=xk [] a er 0 aU [] false) (keep:=[]) (cuts:=[4]) (n:=1000) follows ?_
 refine au (fun ZT ZW ZQ ZK=>(ZK 12 [(ds s)] (.ak [(.slc 2 0 (aG [])),(di a),(di er)])∧(((er != 0)=true)→(ZS ((.ak [(.con (.slice none 0 0)),(di a),(di er)]):DV)))∧(((er != 0)=false)→ZW [cd Tryz.f14 [1,1,1]] (aB ZT [1]) ZQ))) (by kernel_rfl) ?_
 refine⟨h,fun _=>rfl,fun c=>?_⟩
 exact absurd c (by simpa using he)
noncomputable def YJ (T:List Tk) (e:Int) (z:List Rl×List Tk×Bool):AS:=⟨regs Tryz.f14.ntmps [(8,.box 25 0),(9,.vec 900 16 0 z.1.length)],[(25,qC T e z.2.1 z.2.2),(900,[.arr CU 16 (kT z.1)])]⟩
noncomputable def abv (R:List Rl) (k:Nat):AS:=⟨regs Tryz.f14.ntmps [(9,.d (jZ R)),(10,vi k)],[]⟩
theorem aal (R:List Rl) (hR:∀i,i<R.length→pJ (R.getD i aU)) (hl:R.length≤1000000):aK Tryz.prog G [.code (aY (aC Tryz.f14) [1,1,1,1,1,1,1,0,1,0]),.blk 2,.code (aY (aC Tryz.f14) [1,1,1,1,1,1,1,1])] (abv R 0) (tC Tryz.prog Tryz.f14 (wK (if rU R=true then ([],0,8) else (R,0,0)))):=by
 refine aK.loop (c:=aY (aC Tryz.f14) [1,1,1,1,1,1,1,0,1,0,0]) (by kernel_rfl) (abv R) (fun k=>k≤R.length∧∀i,i<k→fE (R.getD i aU)=false) (fun k=>R.length-k) 0 ?_ ⟨Nat.zero_le _,fun i hi=>by omega⟩ ?_
 ·exact AS.bV (by kernel_rfl)
 ·rintro k ⟨hk,hkd⟩
  refine aF (aj:=xk [] 0 0 0 aU [] false) (keep:=[]) (cuts:=[]) (n:=1000) follows ?_
  refine bZ (fun ZT ZW ZQ ZK ZA _=>(fun Za Zb=>((((decide ((↑k:Int)<↑R.length))=true)→((((0≤(↑k:Int))∧((↑k:Int)<↑R.length))∧ZK 42 [Za] (di (↑(ht (aO Za))+1))∧(((!decide ((↑(ht (aO Za)):Int)+1>32))=true)→((0≤(↑k:Int))∧((↑k:Int)<↑R.length)))∧(((!decide ((↑(ht (aO Za)):Int)+1>32))=true)→ZK 42 [Zb] (di (↑(ht (aO Zb))+1))))∧(((decide ((↑(ht (aO Za)):Int)+1>32)||decide ((↑(ht (aO Zb)):Int)+1>32))=true)→(((.ak [(.con (.slice none 0 0)),(di 0),(di 8)]):DV)=(wK (if rU R=true then ([],0,8) else (R,0,0)))))∧(((decide ((↑(ht (aO Za)):Int)+1>32)||decide ((↑(ht (aO Zb)):Int)+1>32))=false)→((I64 (↑k+1))∧(ZA (aB ZT [0,1]))))))∧(((decide ((↑k:Int)<↑R.length))=false)→ZW [cd Tryz.f14 [1,1,1,1,1,1,1,1]] (aB ZT [1]) ZQ))) (aN (R.getD (↑k:Int).toNat aU).ma (R.getD (↑k:Int).toNat aU).am) (aN (R.getD (↑k:Int).toNat aU).mw (R.getD (↑k:Int).toNat aU).wh)) (by kernel_rfl) ?_
  try dsimp only
  simp only[Int.toNat_natCast]
  refine⟨fun h=>?_,fun h=>?_⟩
  ·have hk2:k<R.length:=by have:=of_decide_eq_true h;omega
   have hr:=hR k hk2
   have e1:aO (aN (R.getD k aU).ma (R.getD k aU).am)=(R.getD k aU).am:=ig hr.ha
   have e2:aO (aN (R.getD k aU).mw (R.getD k aU).wh)=(R.getD k aU).wh:=ig hr.hw
   have k1:=f42 (G:=G) _ _ hr.ha hr.am
   have k2:=f42 (G:=G) _ _ hr.hw hr.wh
   have ed:(decide ((ht (R.getD k aU).am:Int)+1>32)||decide ((ht (R.getD k aU).wh:Int)+1>32))=fE (R.getD k aU):=by
    unfold fE
    rw[Bool.not_and,←decide_not,←decide_not]
    congr 1<;>rw[decide_eq_decide]<;>omega
   simp only[e1,e2,ed]
   refine⟨⟨⟨by omega,by omega⟩,k1,fun _=>⟨by omega,by omega⟩,fun _=>k2⟩,fun hd=>?_,fun hd=>⟨by unfold I64;omega,Again.mk (k+1) ?_ ⟨hk2,fun i hi=>?_⟩ (by omega)⟩⟩
   ·have:rU R=true:=by
     unfold rU
     rw[List.any_eq_true.2 ⟨_,getD_mem hk2,hd⟩,Bool.or_true]
    rw[if_pos this];rfl
   ·exact AS.bV (by kernel_rfl)
   ·rcases Nat.lt_or_ge i k with h1|h1
    ·exact hkd i h1
    ·obtain rfl:i=k:=by omega
     exact hd
  ·simp only[decide_eq_false_iff_not] at h
   obtain rfl:k=R.length:=by omega
   have ha:R.any fE=false:=by
    rw[List.any_eq_false]
    intro x hx
    obtain ⟨i,hi,rfl⟩:=List.getElem_of_mem hx
    have:=hkd i hi
    rw[List.getD,iT hi] at this
    rw[show fE R[i]=false from this];decide
   have hb:rU R=decide ((R.length:Int)>32):=by
    unfold rU;rw[ha,Bool.or_false]
   rw[hb]
   by_cases h32:(R.length:Int)>32
   ·rw[if_pos (decide_eq_true h32)]
    refine aF (aj:=xk [] 0 0 0 aU [] false) (keep:=[]) (cuts:=[17]) (n:=1000) follows ?_
    refine au (fun ZT ZW ZQ _=>((((decide ((↑R.length:Int)>32))=true)→(((.ak [(.con (.slice none 0 0)),(di 0),(di 8)]):DV)=(wK ([],0,8))))∧(((decide ((↑R.length:Int)>32))=false)→ZW [cd Tryz.f14 [1,1,1,1,1,1,1,1,1]] (aB ZT [1]) ZQ))) (by kernel_rfl) ?_
    exact⟨fun _=>rfl,fun c=>absurd h32 (of_decide_eq_false c)⟩
   ·rw[if_neg (by rw[decide_eq_false h32];decide)]
    refine aF (aj:=xk [] 0 0 0 aU [] false) (keep:=[]) (cuts:=[16]) (n:=1000) follows ?_
    refine au (fun ZT ZW ZQ _=>((((decide ((↑R.length:Int)>32))=true)→ZW [cd Tryz.f14 [1,1,1,1,1,1,1,1,0,1,0],cd Tryz.f14 [1,1,1,1,1,1,1,1,1]] (aB ZT [0]) ZQ)∧(((decide ((↑R.length:Int)>32))=false)→(((.ak [(.slc 16 R.length (kT R)),(di 0),(di 0)]):DV)=(wK (R,0,0)))))) (by kernel_rfl) ?_
    exact⟨fun c=>absurd (of_decide_eq_true c) h32,fun _=>rfl⟩
noncomputable abbrev k14:List It:=[.code (aY (aC Tryz.f14) [1,1,1,1,1,0,0]),.blk 0,.code (aY (aC Tryz.f14) [1,1,1,1,1,1])]
theorem Vt {D:DV} (s:ByteArray) (T:List Tk) (h:ay Tryz.prog G 12 [ds s] (.ak [kJ T,di 0,di 0])) (k:aK Tryz.prog G k14 (YJ T s.size ([],T,false)) (tC Tryz.prog Tryz.f14 D)):ay Tryz.prog G 14 [ds s] D:=by
 refine ay.aP Tryz.func14 rfl Tryz.call14 ?_
 refine aF (aj:=xk T 0 0 s.size aU [] false) (keep:=[]) (cuts:=[3]) (n:=1000) follows ?_
 refine au (fun ZT ZW ZQ ZK=>(ZK 12 [(ds s)] (.ak [(.slc 2 T.length (aG T)),(di 0),(di 0)])∧((false=true)→ZW [cd Tryz.f14 [1,1,0,1,0],cd Tryz.f14 [1,1,1]] (aB ZT [0]) ZQ)∧((false=false)→ZW [cd Tryz.f14 [1,1,1,1,1,0,0],(.blk 0),cd Tryz.f14 [1,1,1,1,1,1]] (aB ZT [1]) ZQ))) (by kernel_rfl) ?_
 refine⟨h,fun c=>(by cases c),fun _=>?_⟩
 refine aK.pre ((AS.dZ.moves [(26,900)] _ rfl).trans (AS.dZ.AQ _ 9 900 0 (agg:=CU) (sz:=16) (f:=fun _=>.con undef) (kT []) (by kernel_rfl) (by kernel_rfl) rfl (by kernel_rfl) (fun i hi=>absurd hi (Nat.not_lt_zero _)))) ?_
 refine aK.weaken ?_ k
 have e1:((kI T T:Nat):Int)=0:=by unfold kI;rw[Nat.sub_self];rfl
 refine AS.leZ [] [0] (b:=((T0∧T0∧True)∧((some [(.d (.slc 2 T.length (aG T))),(vi 0),(vi (↑s.size)),(vb false),(vi 0)]):(Option (List AV)))=(some [(.d (.slc 2 T.length (aG T))),(vi (↑(kI T T))),(vi (↑s.size)),(vb false),(vi (bif false then hdA (↑s.size) T else 0))])∧T0∧True)) (by kernel_rfl) (by kernel_rfl) ?_
 refine⟨⟨rfl,rfl,trivial⟩,?_,rfl,trivial⟩
 show _=some [AV.d (kJ T),AV.d (di ((kI T T:Nat):Int)),AV.d (di s.size),AV.d (db false),AV.d (di 0)]
 rw[e1]
theorem Yc {D:DV} (s:ByteArray) (T:List Tk) (hN:qO T) (hS:gB T) (hl:T.length≤100000)
  (k:∀(L:List Rl) (t:List Tk) (b:Bool),t <:+ T→(b=true→oL T=.bad t)→(b=false→t=[]∧oL T=.ok L)→aK Tryz.prog G [.code (aY (aC Tryz.f14) [1,1,1,1,1,1])] (YJ T s.size (L,t,b)) (tC Tryz.prog Tryz.f14 D)):aK Tryz.prog G k14 (YJ T s.size ([],T,false)) (tC Tryz.prog Tryz.f14 D):=by
 refine aK.loop (c:=aY (aC Tryz.f14) [1,1,1,1,1,0,0,0]) (by kernel_rfl) (YJ T s.size) (fun z=>z.2.1 <:+ T∧(z.2.2=false→z.1.length+z.2.1.length≤100000)∧(z.2.2=true→oL T=.bad z.2.1)∧(z.2.2=false→(oL z.2.1).app z.1=oL T)) (fun z=>z.2.1.length+if z.2.2=true then 0 else 1) ([],T,false) ?_ ⟨List.suffix_refl _,fun _=>by simpa using hl,fun c=>(by cases c),fun _=>Ps.ET _⟩ ?_
 ·exact AS.bV (by kernel_rfl)
 ·rintro ⟨L,t,b⟩ ⟨h1,h2,h3,h4⟩
  dsimp only at h1 h2 h3 h4
  by_cases hc:b=false∧t≠[]
  ·obtain ⟨rfl,hne⟩:=hc
   have h4:=h4 rfl
   have h2:=h2 rfl
   obtain ⟨x,k41,hx⟩:=f41 (G:=G) T s.size hN hS hl t h1
   have hkT:=(lT h1 hne 0).1
   refine aF (aj:=xk T 0 0 s.size x (jm (jg t)) (vZ (jg t))) (keep:=[]) (cuts:=[]) (n:=1000) follows ?_
   refine bZ (fun ZT ZW ZQ _ ZA _=>((((decide ((↑(kI T t):Int)<↑T.length)&&!false)=true)→((aA Tryz.prog G 41 [(.box 1000000 0)] [(1000000,[(.d (.slc 2 T.length (aG T))),(vi (↑(kI T t))),(vi (↑s.size)),(vb false),(vi (bif false then hdA (↑s.size) t else 0))])] (.d (lg x)) [(1000000,[(.d (.slc 2 T.length (aG T))),(vi (↑(kI T (jm (jg t))))),(vi (↑s.size)),(vb (vZ (jg t))),(vi (bif vZ (jg t) then hdA (↑s.size) (jm (jg t)) else 0))])]∧(((L.length+1)*192≤1099511627776)∧(L.length+1≤1099511627776))∧(∀(i:Nat),i<1→lC true 16 (aS true 16 [di x.kind,ds x.nm,ds x.gr,di x.am.k,ds x.am.s,di x.am.n,di x.am.d,di x.am.pos,DV.slc 6 x.am.kids.length (lay (cu x.ma) x.am.kids),di x.wh.k,ds x.wh.s,di x.wh.n,di x.wh.d,di x.wh.pos,DV.slc 6 x.wh.kids.length (lay (cu x.mw) x.wh.kids),di x.pos] i)=true))∧(ZA (aB ZT [0]))))∧(((decide ((↑(kI T t):Int)<↑T.length)&&!false)=false)→ZW [cd Tryz.f14 [1,1,1,1,1,1]] (aB ZT [1]) ZQ))) (by kernel_rfl) ?_
   rw[decide_eq_true (show (kI T t:Int)<T.length by omega)]
   have hsf:jm (jg t) <:+ T:=(Ac t).trans h1
   have hpos:0<t.length:=List.length_pos_iff.2 hne
   refine⟨fun _=>⟨⟨k41,⟨by omega,by omega⟩,fun i hi=>?_⟩,?_⟩,fun c=>(by cases c)⟩
   ·obtain rfl:i=0:=by omega
    rfl
   ·refine⟨(L++[x],jm (jg t),vZ (jg t)),(AS.dZ.moves [(48,900)] _ rfl).trans ((AS.dZ.AQ _ 9 900 (L.length+1) (agg:=CU) (sz:=16) (f:=fun i=>bif Nat.blt i L.length then kT L i else aS true 16 [di x.kind,ds x.nm,ds x.gr,di x.am.k,ds x.am.s,di x.am.n,di x.am.d,di x.am.pos,.slc 6 x.am.kids.length (lay (cu x.ma) x.am.kids),di x.wh.k,ds x.wh.s,di x.wh.n,di x.wh.d,di x.wh.pos,.slc 6 x.wh.kids.length (lay (cu x.mw) x.wh.kids),di x.pos] (i-L.length)) (kT (L++[x])) (by kernel_rfl) (by kernel_rfl) rfl (by kernel_rfl) (fun i hi=>?_)).trans (.of_le ?_)),?_,?_⟩
    ·unfold kT
     rcases Nat.lt_or_ge i L.length with h4|h4
     ·rw[show Nat.blt i L.length=true from by rw[Nat.blt_eq];exact h4,tq h4];rfl
     ·obtain rfl:i=L.length:=by omega
      rw[show Nat.blt L.length L.length=false from by rw[Bool.eq_false_iff,ne_eq,Nat.blt_eq];omega,tJ (Nat.le_refl _),Nat.sub_self];rfl
    ·refine AS.leZ [1] [] (b:=((T0∧((.vec 900 16 0 (L.length+1)):AV)=(.vec 900 16 0 (L++[x]).length)∧True)∧T0∧T0∧True)) (by kernel_rfl) (by kernel_rfl) ?_
     rw[show (L++[x]).length=L.length+1 by simp]
     exact⟨⟨rfl,rfl,trivial⟩,rfl,rfl,trivial⟩
    ·cases hq:jg t with
     | ok y r=>
      obtain rfl:=hx y r hq
      have hlt:=rE hq
      rw[hq] at hsf
      rw[Ej hq,Ps.uV] at h4
      exact⟨hsf,fun _=>by simp only[List.length_append,List.length_singleton,jm];omega,fun c=>(by cases c),fun _=>h4⟩
     | bad r=>
      rw[hq] at hsf
      rw[zY hne hq] at h4
      exact⟨hsf,fun c=>(by cases c),fun _=>h4.symm,fun c=>(by cases c)⟩
    ·dsimp only
     cases hq:jg t with
     | ok y r=>
      have hlt:=rE hq
      simp only[jm,vZ]
      simp
      omega
     | bad r=>
      have:=(Ac t).length_le
      rw[hq] at this
      simp only[jm] at this
      simp only[jm,vZ]
      simp
      omega
  ·have hz:(decide ((kI T t:Int)<(T.length:Int))&&!b)=false:=by
    cases b with
    | true=>rw[Bool.not_true,Bool.and_false]
    | false=>
     have:t=[]:=Classical.byContradiction fun c=>hc ⟨rfl,c⟩
     rw[uX (T:=T) this,decide_eq_false (Int.lt_irrefl _)];rfl
   refine aF (aj:=xk T 0 0 s.size aU [] false) (keep:=[]) (cuts:=[7,8]) (n:=1000) follows ?_
   refine bZ (fun ZT ZW ZQ _ _ ZR=>((((decide ((↑(kI T t):Int)<↑T.length)&&!b)=true)→ZW [cd Tryz.f14 [1,1,1,1,1,0,0,0,1,0],(.blk 1)] (aB ZT [0]) ZR)∧(((decide ((↑(kI T t):Int)<↑T.length)&&!b)=false)→ZW [cd Tryz.f14 [1,1,1,1,1,1]] (aB ZT [1]) ZQ))) (by kernel_rfl) ?_
   refine⟨fun c=>absurd c (by rw[hz];decide),fun _=>?_⟩
   refine aK.weaken ?_ (k L t b h1 h3 fun c=>?_)
   ·exact AS.bV (by kernel_rfl)
   ·have ht':t=[]:=Classical.byContradiction fun q=>hc ⟨c,q⟩
    have h4:=h4 c
    subst ht'
    refine⟨rfl,?_⟩
    rw[←h4,aai]
    show Ps.ok (L++[])=Ps.ok L
    rw[List.append_nil]
theorem aem (s:ByteArray) (hs:s.size≤900000) (hR:Rj s):ay Tryz.prog G 14 [ds s] (wK (eG s)):=by
 unfold Rj at hR
 unfold eG
 by_cases he:(bG s).2.2=0
 ·obtain ⟨T,a,e,hW⟩:∃T a e,bG s=(T,a,e):=⟨_,_,_,rfl⟩
  rw[hW] at he
  have he:e=0:=he
  subst he
  obtain ⟨rfl,hO⟩:=uJ hW
  have hsz:=hO.size
  have hln:=hO.len
  have k12:=f12 (G:=G) s hs
  rw[hW] at k12
  have hN:=Wv _ _ _ _ hO.toks
  refine Vt s T k12 (Yc s T hN hO.sm (by omega) fun L t b h1 h3 h4=>?_)
  refine aK.freeze 900 (agg:=CU) (sz:=16) (f:=kT L) (by kernel_rfl) ?_
  have e1:(fun i=>kT L (0+i))=kT L:=funext fun i=>by rw[Nat.zero_add]
  cases b with
  | true=>
   have hq:=h3 rfl
   have e2:lK s=([],hdA s.size t,3):=by unfold lK;rw[hW,if_neg (by simp)];simp only[hq]
   rw[e2,if_pos (by simp)]
   refine aF (aj:=xk [] 0 0 0 aU [] false) (keep:=[]) (cuts:=[10]) (n:=1000) follows ?_
   refine au (fun ZT ZW ZQ _=>(((true=true)→(((.ak [(.con (.slice none 0 0)),(di (bif true then hdA (↑s.size) t else 0)),(di 3)]):DV)=(wK ([],hdA (↑s.size) t,3))))∧((true=false)→ZW [cd Tryz.f14 [1,1,1,1,1,1,1,0],cd Tryz.f14 [1,1,1,1,1,1,1,1]] (aB ZT [1]) ZQ))) (by kernel_rfl) ?_
   exact⟨fun _=>rfl,fun c=>(by cases c)⟩
  | false=>
   obtain ⟨rfl,hq⟩:=h4 rfl
   have e2:lK s=(L,0,0):=by unfold lK;rw[hW,if_neg (by simp)];simp only[hq]
   rw[e2] at hR⊢
   rw[if_neg (by simp)]
   have hRl:=Ep _ T L (Nat.le_refl _) hq
   refine aF (aj:=xk [] 0 0 0 aU [] false) (keep:=[]) (cuts:=[9]) (n:=1000) follows ?_
   refine au (fun ZT ZW ZQ _=>(((false=true)→ZW [cd Tryz.f14 [1,1,1,1,1,1,0,1,0],cd Tryz.f14 [1,1,1,1,1,1,1]] (aB ZT [0]) ZQ)∧((false=false)→ZW [cd Tryz.f14 [1,1,1,1,1,1,1,0,1,0],(.blk 2),cd Tryz.f14 [1,1,1,1,1,1,1,1]] (aB ZT [1]) ZQ))) (by kernel_rfl) ?_
   refine⟨fun c=>(by cases c),fun _=>?_⟩
   refine aK.weaken ?_ (aal L (fun i hi=>hR _ (getD_mem hi)) (by omega))
   refine AS.leZ [0] [] (b:=((((.d (.slc 16 L.length (fun i=>kT L (0+i)))):AV)=(.d (.slc 16 L.length (kT L)))∧T0∧True)∧True)) (by kernel_rfl) (by kernel_rfl) ?_
   rw[e1]
   exact⟨⟨rfl,rfl,trivial⟩,trivial⟩
 ·obtain ⟨T,a,e,hW⟩:∃T a e,bG s=(T,a,e):=⟨_,_,_,rfl⟩
  have e1:lK s=([],a,e):=by unfold lK;rw[if_pos he,hW]
  have k12:=f12 (G:=G) s hs
  have hn:=zU he
  rw[hn,hW] at k12
  rw[hW] at he
  have he:e≠0:=he
  rw[e1,if_pos he]
  have h:=abb s he k12
  unfold wK
  rw[if_neg he]
  exact h
theorem f14 (s:ByteArray) (hs:s.size≤900000) (hR:Rj s):ay Tryz.prog G 14 [ds s] (.ak [jZ (eG s).1,di (eG s).2.1,di (eG s).2.2]):=by
 refine ay.res (aem s hs hR) fun k v hv=>?_
 unfold wK at hv
 by_cases h:(eG s).2.2=0
 ·rw[if_pos h] at hv;exact hv
 ·rw[if_neg h] at hv
  obtain ⟨us,rfl,a1,u1,rfl,h1,r⟩:=hv
  refine⟨_,rfl,a1,u1,rfl,?_,r⟩
  rw[Px h]
  exact lV h1
end Go.Proofs
/- Same rules. -/
namespace Go.Proofs
open Go Go.Ab Go.RowKit
set_option maxHeartbeats 4000000
set_option maxRecDepth 100000
variable {G:IH}
def O5 (x y:Rl):Bool:=decide (x.kind=y.kind)&&decide (x.nm=y.nm)&&decide (x.gr=y.gr)&&mQ x.am y.am&&mQ x.wh y.wh
def smR (R Q:List Rl):Bool:=decide (R.length=Q.length)&&(List.range R.length).all fun i=>O5 (R.getD i aU) (Q.getD i aU)
noncomputable def Ui:cZ:=fun f a=>match f,a with
 | 22,[e,e']=>some (db (mQ (aO e) (aO e')))
 | _,_=>none
noncomputable def S18 (R Q:List Rl) (k:Nat):AS:=⟨regs Tryz.f18.ntmps [(0,.d (jZ R)),(1,.d (jZ Q)),(2,vb false),(7,vi k)],[]⟩
theorem f18 (R Q:List Rl) (hR:∀i,i<R.length→pJ (R.getD i aU)) (hQ:∀i,i<Q.length→pJ (Q.getD i aU)) (hl:R.length≤1000000) (hl2:Q.length≤1000000):ay Tryz.prog G 18 [jZ R,jZ Q,db false] (db (smR R Q)):=by
 refine ay.aF (aj:=Ui) (keep:=[]) follows Tryz.func18 rfl Tryz.call18 ?_
 refine au (fun ZT ZW ZQ _=>(((((↑R.length:Int) != ↑Q.length)=true)→(((db false):DV)=(db (smR R Q))))∧((((↑R.length:Int) != ↑Q.length)=false)→ZW [cd Tryz.f18 [1,1,0,1,0],(.blk 0),cd Tryz.f18 [1,1,1]] (aB ZT [1]) ZQ))) (by kernel_rfl) ?_
 have eN:∀a b:Nat,((a:Int) != (b:Int)) = !decide (a=b):=fun a b=>by
  have:((a:Int)==(b:Int))=decide (a=b):=by
   show decide ((a:Int)=b)=_
   rw[decide_eq_decide];omega
  rw[bne,this]
 rw[eN]
 unfold smR
 refine⟨fun h=>?_,fun h=>?_⟩
 ·have h:decide (R.length=Q.length)=false:=by simpa using h
  rw[h];rfl
 ·have h:decide (R.length=Q.length)=true:=by simpa using h
  have hkk:R.length=Q.length:=of_decide_eq_true h
  rw[h,Bool.true_and]
  refine aK.loop (c:=aY (aC Tryz.f18) [1,1,0,1,0,0]) (by kernel_rfl) (S18 R Q) (fun k=>k≤R.length∧∀i,i<k→O5 (R.getD i aU) (Q.getD i aU)=true) (fun k=>R.length-k) 0 ?_ ⟨Nat.zero_le _,fun i hi=>by omega⟩ ?_
  ·exact AS.bV (by kernel_rfl)
  ·rintro k ⟨hk,hkd⟩
   refine aF (aj:=Ui) (keep:=[]) (cuts:=[]) (n:=1000) follows ?_
   refine bZ (fun ZT ZW ZQ ZK ZA _=>(fun Za Zb Zc Zd Ze Zf Zg=>((((decide ((↑k:Int)<↑R.length))=true)→((((0≤(↑k:Int))∧((↑k:Int)<↑R.length))∧(0≤(↑k:Int))∧((↑k:Int)<↑Q.length))∧((((!((R.getD (↑k:Int).toNat aU).kind != (Q.getD (↑k:Int).toNat aU).kind||!(R.getD (↑k:Int).toNat aU).nm.toList==(Q.getD (↑k:Int).toNat aU).nm.toList||!(R.getD (↑k:Int).toNat aU).gr.toList==(Q.getD (↑k:Int).toNat aU).gr.toList))=true)→ZK 22 [Zb,Zc] (db (mQ (aO Zb) (aO Zc))))∧(((!((R.getD (↑k:Int).toNat aU).kind != (Q.getD (↑k:Int).toNat aU).kind||!(R.getD (↑k:Int).toNat aU).nm.toList==(Q.getD (↑k:Int).toNat aU).nm.toList||!(R.getD (↑k:Int).toNat aU).gr.toList==(Q.getD (↑k:Int).toNat aU).gr.toList||!mQ (aO Zb) (aO Zc)))=true)→ZK 22 [Ze,Zf] (db (mQ (aO Ze) (aO Zf)))))∧((Za=true)→(((db false):DV)=Zg))∧((Za=false)→(((Zd=true)→(((db false):DV)=Zg))∧((Zd=false)→((I64 (↑k+1))∧(ZA (aB ZT [0,1,1]))))))))∧(((decide ((↑k:Int)<↑R.length))=false)→ZW [cd Tryz.f18 [1,1,1]] (aB ZT [1]) ZQ))) ((R.getD (↑k:Int).toNat aU).kind != (Q.getD (↑k:Int).toNat aU).kind||!(R.getD (↑k:Int).toNat aU).nm.toList==(Q.getD (↑k:Int).toNat aU).nm.toList||!(R.getD (↑k:Int).toNat aU).gr.toList==(Q.getD (↑k:Int).toNat aU).gr.toList||!mQ (aO (aN (R.getD (↑k:Int).toNat aU).ma (R.getD (↑k:Int).toNat aU).am)) (aO (aN (Q.getD (↑k:Int).toNat aU).ma (Q.getD (↑k:Int).toNat aU).am))||!mQ (aO (aN (R.getD (↑k:Int).toNat aU).mw (R.getD (↑k:Int).toNat aU).wh)) (aO (aN (Q.getD (↑k:Int).toNat aU).mw (Q.getD (↑k:Int).toNat aU).wh))) (aN (R.getD (↑k:Int).toNat aU).ma (R.getD (↑k:Int).toNat aU).am) (aN (Q.getD (↑k:Int).toNat aU).ma (Q.getD (↑k:Int).toNat aU).am) (false&&((R.getD (↑k:Int).toNat aU).pos != (Q.getD (↑k:Int).toNat aU).pos||!false||!false)) (aN (R.getD (↑k:Int).toNat aU).mw (R.getD (↑k:Int).toNat aU).wh) (aN (Q.getD (↑k:Int).toNat aU).mw (Q.getD (↑k:Int).toNat aU).wh) (db ((List.range R.length).all fun i=>O5 (R.getD i aU) (Q.getD i aU)))) (by kernel_rfl) ?_
   try dsimp only
   simp only[Int.toNat_natCast]
   refine⟨fun h1=>?_,fun h1=>?_⟩
   ·have hk2:k<R.length:=by have:=of_decide_eq_true h1;omega
    have hk3:k<Q.length:=by omega
    have hs:=hR k hk2
    have hs2:=hQ k hk3
    have e1:aO (aN (R.getD k aU).ma (R.getD k aU).am)=(R.getD k aU).am:=ig hs.ha
    have e2:aO (aN (R.getD k aU).mw (R.getD k aU).wh)=(R.getD k aU).wh:=ig hs.hw
    have e3:aO (aN (Q.getD k aU).ma (Q.getD k aU).am)=(Q.getD k aU).am:=ig hs2.ha
    have e4:aO (aN (Q.getD k aU).mw (Q.getD k aU).wh)=(Q.getD k aU).wh:=ig hs2.hw
    simp only[e1,e2,e3,e4]
    have hn:((R.getD k aU).kind != (Q.getD k aU).kind||!(R.getD k aU).nm.toList==(Q.getD k aU).nm.toList||!(R.getD k aU).gr.toList==(Q.getD k aU).gr.toList||!mQ (R.getD k aU).am (Q.getD k aU).am||!mQ (R.getD k aU).wh (Q.getD k aU).wh) = !O5 (R.getD k aU) (Q.getD k aU):=by
     rw[gQ,gQ,bne,show ((R.getD k aU).kind==(Q.getD k aU).kind)=decide ((R.getD k aU).kind=(Q.getD k aU).kind) from rfl]
     unfold O5
     cases decide ((R.getD k aU).kind=(Q.getD k aU).kind)<;>cases decide ((R.getD k aU).nm=(Q.getD k aU).nm)<;>cases decide ((R.getD k aU).gr=(Q.getD k aU).gr)<;>cases mQ (R.getD k aU).am (Q.getD k aU).am<;>rfl
    rw[hn]
    refine⟨⟨⟨by omega,by omega⟩,by omega,by omega⟩,⟨fun _=>f22 _ _ _ _ hs.ha hs2.ha hs.am hs2.am,fun _=>f22 _ _ _ _ hs.hw hs2.hw hs.wh hs2.wh⟩,fun h2=>?_,fun h2=>⟨fun c=>(by rw[Bool.false_and] at c;cases c),fun _=>⟨⟨by omega,by omega⟩,Again.mk (k+1) ?_ ⟨hk2,fun i hi=>?_⟩ (by omega)⟩⟩⟩
    ·have h2:O5 (R.getD k aU) (Q.getD k aU)=false:=by simpa using h2
     refine congrArg db ?_
     symm
     rw[List.all_eq_false]
     exact⟨k,List.mem_range.2 hk2,by rw[h2];decide⟩
    ·exact AS.bV (by kernel_rfl)
    ·rcases Nat.lt_or_ge i k with h3|h3
     ·exact hkd i h3
     ·obtain rfl:i=k:=by omega
      simpa using h2
   ·simp only[decide_eq_false_iff_not] at h1
    refine aF (aj:=Ui) (keep:=[]) (cuts:=[]) (n:=1000) follows ?_
    refine au (fun _ _ _ _=>(((db true):DV)=(db ((List.range R.length).all fun i=>O5 (R.getD i aU) (Q.getD i aU))))) (by kernel_rfl) ?_
    refine congrArg db ?_
    symm
    rw[List.all_eq_true]
    intro i hi
    exact hkd i (by have:=List.mem_range.1 hi;omega)
end Go.Proofs
/- Words,rules and expressions are equal to themselves,with their offsets. -/
namespace Go.Proofs
open Go Go.Ab Go.RowKit
set_option maxHeartbeats 4000000
set_option maxRecDepth 100000
variable {G:IH}
noncomputable def wX:cZ:=fun f _=>match f with
 | 22=>some (db true)
 | 19=>some (db true)
 | _=>none
mutual
theorem eq_self:∀x:Ex,mQ x x=true
 | .mk k s n d a l=>by simp[mQ,Ov l]
theorem Ov:∀l:List Ex,FN l l=true
 | []=>by simp[FN]
 | x :: l=>by simp[FN,eq_self x,Ov l]
end
noncomputable def S19 (m:Nat) (x:Ex) (k:Nat):AS:=⟨regs Tryz.f19.ntmps [(2,.box 2 0),(3,.box 3 0),(5,vi k)],[(2,jl m x),(3,jl m x)]⟩
theorem f19 (m:Nat):∀x:Ex,ht x≤m→Sm x→ay Tryz.prog G 19 [jG m x,jG m x] (db true):=by
 induction m using Nat.strongRecOn with
 | _ m ih=>
 intro x hx hs
 have hl:=hs.len.1
 have k22:=f22 (G:=G) m m x x hx hx hs hs
 rw[eq_self] at k22
 refine ay.aF (aj:=wX) (keep:=[]) follows Tryz.func19 rfl Tryz.call19 ?_
 refine au (fun ZT ZW ZQ ZK=>(ZK 22 [(aN m x),(aN m x)] (db true)∧(((!true||x.pos != x.pos)=true)→(((db false):DV)=(db true)))∧(((!true||x.pos != x.pos)=false)→ZW [cd Tryz.f19 [1,1,0,1,0],(.blk 0),cd Tryz.f19 [1,1,1]] (aB ZT [1]) ZQ))) (by kernel_rfl) ?_
 refine⟨k22,fun c=>?_,fun _=>?_⟩
 ·simp at c
 refine aK.loop (c:=aY (aC Tryz.f19) [1,1,0,1,0,0]) (by kernel_rfl) (S19 m x) (fun k=>k≤x.kids.length) (fun k=>x.kids.length-k) 0 ?_ (Nat.zero_le _) ?_
 ·exact AS.bV (by kernel_rfl)
 ·intro k hk
  refine aF (aj:=wX) (keep:=[]) (cuts:=[]) (n:=1000) follows ?_
  refine bZ (fun ZT ZW ZQ ZK ZA _=>((((decide ((↑k:Int)<↑x.kids.length))=true)→((((0≤(↑k:Int))∧((↑k:Int)<↑x.kids.length))∧((0≤(↑k:Int))∧((↑k:Int)<↑x.kids.length))∧ZK 19 [(kC m (x.kids.getD (↑k:Int).toNat aJ)),(kC m (x.kids.getD (↑k:Int).toNat aJ))] (db true))∧((false=true)→(((db false):DV)=(db true)))∧((false=false)→((I64 (↑k+1))∧(ZA (aB ZT [0,1]))))))∧(((decide ((↑k:Int)<↑x.kids.length))=false)→ZW [cd Tryz.f19 [1,1,1]] (aB ZT [1]) ZQ))) (by kernel_rfl) ?_
  simp only[Int.toNat_natCast]
  refine⟨fun h1=>?_,fun h1=>?_⟩
  ·have hk2:k<x.kids.length:=by have:=of_decide_eq_true h1;omega
   refine⟨⟨⟨by omega,by omega⟩,⟨by omega,by omega⟩,?_⟩,fun c=>(by cases c),fun _=>⟨by unfold I64;omega,Again.mk (k+1) ?_ hk2 (by omega)⟩⟩
   ·exact wZ (Q:=fun d=>ay Tryz.prog G 19 [d,d] (db true)) hx hk2 fun m1 q1 q2=>ih m1 q1 _ q2 (hs.kid hk2)
   ·exact AS.bV (by kernel_rfl)
  ·refine aF (aj:=wX) (keep:=[]) (cuts:=[]) (n:=1000) follows ?_
   refine au (fun _ _ _ _=>(ZS ((db true):DV))) (by kernel_rfl) ?_
   rfl
noncomputable def S17 (T:List Tk) (k:Nat):AS:=⟨regs Tryz.f17.ntmps [(0,.d (kJ T)),(1,.d (kJ T)),(12,vi T.length),(13,vi k)],[]⟩
theorem f17 (T:List Tk) (hl:T.length≤1000000):ay Tryz.prog G 17 [kJ T,kJ T] (db true):=by
 refine ay.aF (aj:=wX) (keep:=[]) follows Tryz.func17 rfl Tryz.call17 ?_
 refine au (fun ZT ZW ZQ _=>(((((↑T.length:Int) != ↑T.length)=true)→(((db false):DV)=(db true)))∧((((↑T.length:Int) != ↑T.length)=false)→ZW [cd Tryz.f17 [1,1,0,1,0],(.blk 0),cd Tryz.f17 [1,1,1]] (aB ZT [1]) ZQ))) (by kernel_rfl) ?_
 refine⟨fun c=>?_,fun _=>?_⟩
 ·simp at c
 refine aK.loop (c:=aY (aC Tryz.f17) [1,1,0,1,0,0]) (by kernel_rfl) (S17 T) (fun k=>k≤T.length) (fun k=>T.length-k) 0 ?_ (Nat.zero_le _) ?_
 ·exact AS.bV (by kernel_rfl)
 ·intro k hk
  refine aF (aj:=wX) (keep:=[]) (cuts:=[]) (n:=1000) follows ?_
  refine bZ (fun ZT ZW ZQ _ ZA _=>(fun Za=>((((decide ((↑k:Int)<↑T.length))=true)→((((0≤(↑k:Int))∧((↑k:Int)<↑T.length))∧(0≤(↑k:Int))∧((↑k:Int)<↑T.length))∧((Za=true)→(((db false):DV)=(db true)))∧((Za=false)→((I64 (↑k+1))∧(ZA (aB ZT [0,1]))))))∧(((decide ((↑k:Int)<↑T.length))=false)→ZW [cd Tryz.f17 [1,1,1]] (aB ZT [1]) ZQ))) (!Bool.rec false ((T.getD (↑k:Int).toNat fU).snd==(T.getD (↑k:Int).toNat fU).snd) ((T.getD (↑k:Int).toNat fU).fst.toList==(T.getD (↑k:Int).toNat fU).fst.toList))) (by kernel_rfl) ?_
  try dsimp only
  simp only[Int.toNat_natCast]
  refine⟨fun h1=>?_,fun h1=>?_⟩
  ·have hk2:k<T.length:=by have:=of_decide_eq_true h1;omega
   have e1:((T.getD k fU).1.toList==(T.getD k fU).1.toList)=true:=by simp
   have e2:((T.getD k fU).2==(T.getD k fU).2)=true:=by simp
   rw[e1,e2]
   refine⟨⟨⟨by omega,by omega⟩,by omega,by omega⟩,fun c=>(by cases c),fun _=>⟨by unfold I64;omega,Again.mk (k+1) ?_ hk2 (by omega)⟩⟩
   exact AS.bV (by kernel_rfl)
  ·refine aF (aj:=wX) (keep:=[]) (cuts:=[]) (n:=1000) follows ?_
   refine au (fun _ _ _ _=>(ZS ((db true):DV))) (by kernel_rfl) ?_
   rfl
noncomputable def aed (R:List Rl) (k:Nat):AS:=⟨regs Tryz.f18.ntmps [(0,.d (jZ R)),(1,.d (jZ R)),(2,vb true),(7,vi k)],[]⟩
theorem ad7 (R:List Rl) (hR:∀i,i<R.length→pJ (R.getD i aU)) (hl:R.length≤1000000):ay Tryz.prog G 18 [jZ R,jZ R,db true] (db true):=by
 refine ay.aF (aj:=wX) (keep:=[]) follows Tryz.func18 rfl Tryz.call18 ?_
 refine au (fun ZT ZW ZQ _=>(((((↑R.length:Int) != ↑R.length)=true)→(((db false):DV)=(db true)))∧((((↑R.length:Int) != ↑R.length)=false)→ZW [cd Tryz.f18 [1,1,0,1,0],(.blk 0),cd Tryz.f18 [1,1,1]] (aB ZT [1]) ZQ))) (by kernel_rfl) ?_
 refine⟨fun c=>?_,fun _=>?_⟩
 ·simp at c
 refine aK.loop (c:=aY (aC Tryz.f18) [1,1,0,1,0,0]) (by kernel_rfl) (aed R) (fun k=>k≤R.length) (fun k=>R.length-k) 0 ?_ (Nat.zero_le _) ?_
 ·exact AS.bV (by kernel_rfl)
 ·intro k hk
  refine aF (aj:=wX) (keep:=[]) (cuts:=[]) (n:=1000) follows ?_
  refine bZ (fun ZT ZW ZQ ZK ZA _=>(fun Za Zb Zc Zd=>((((decide ((↑k:Int)<↑R.length))=true)→((((0≤(↑k:Int))∧((↑k:Int)<↑R.length))∧(0≤(↑k:Int))∧((↑k:Int)<↑R.length))∧((((!((R.getD (↑k:Int).toNat aU).kind != (R.getD (↑k:Int).toNat aU).kind||!(R.getD (↑k:Int).toNat aU).nm.toList==(R.getD (↑k:Int).toNat aU).nm.toList||!(R.getD (↑k:Int).toNat aU).gr.toList==(R.getD (↑k:Int).toNat aU).gr.toList))=true)→ZK 22 [Zb,Zb] (db true))∧(((!((R.getD (↑k:Int).toNat aU).kind != (R.getD (↑k:Int).toNat aU).kind||!(R.getD (↑k:Int).toNat aU).nm.toList==(R.getD (↑k:Int).toNat aU).nm.toList||!(R.getD (↑k:Int).toNat aU).gr.toList==(R.getD (↑k:Int).toNat aU).gr.toList||!true))=true)→ZK 22 [Zc,Zc] (db true)))∧((Za=true)→(((db false):DV)=(db true)))∧((Za=false)→(((((true&&!(R.getD (↑k:Int).toNat aU).pos != (R.getD (↑k:Int).toNat aU).pos)=true)→ZK 19 [Zb,Zb] (db true))∧(((true&&!((R.getD (↑k:Int).toNat aU).pos != (R.getD (↑k:Int).toNat aU).pos||!true))=true)→ZK 19 [Zc,Zc] (db true)))∧((Zd=true)→(((db false):DV)=(db true)))∧((Zd=false)→((I64 (↑k+1))∧(ZA (aB ZT [0,1,1]))))))))∧(((decide ((↑k:Int)<↑R.length))=false)→ZW [cd Tryz.f18 [1,1,1]] (aB ZT [1]) ZQ))) ((R.getD (↑k:Int).toNat aU).kind != (R.getD (↑k:Int).toNat aU).kind||!(R.getD (↑k:Int).toNat aU).nm.toList==(R.getD (↑k:Int).toNat aU).nm.toList||!(R.getD (↑k:Int).toNat aU).gr.toList==(R.getD (↑k:Int).toNat aU).gr.toList||!true||!true) (aN (R.getD (↑k:Int).toNat aU).ma (R.getD (↑k:Int).toNat aU).am) (aN (R.getD (↑k:Int).toNat aU).mw (R.getD (↑k:Int).toNat aU).wh) (true&&((R.getD (↑k:Int).toNat aU).pos != (R.getD (↑k:Int).toNat aU).pos||!true||!true))) (by kernel_rfl) ?_
  try dsimp only
  simp only[Int.toNat_natCast]
  refine⟨fun h1=>?_,fun h1=>?_⟩
  ·have hk2:k<R.length:=by have:=of_decide_eq_true h1;omega
   have hs:=hR k hk2
   have a1:=f22 (G:=G) _ _ _ _ hs.ha hs.ha hs.am hs.am
   have a2:=f22 (G:=G) _ _ _ _ hs.hw hs.hw hs.wh hs.wh
   rw[eq_self] at a1 a2
   have b1:=f19 (G:=G) _ _ hs.ha hs.am
   have b2:=f19 (G:=G) _ _ hs.hw hs.wh
   have e1:((R.getD k aU).kind != (R.getD k aU).kind)=false:=by simp
   have e2:((R.getD k aU).nm.toList==(R.getD k aU).nm.toList)=true:=by simp
   have e3:((R.getD k aU).gr.toList==(R.getD k aU).gr.toList)=true:=by simp
   have e4:((R.getD k aU).pos != (R.getD k aU).pos)=false:=by simp
   simp only[e1,e2,e3,e4]
   refine⟨⟨⟨by omega,by omega⟩,by omega,by omega⟩,⟨fun _=>a1,fun _=>a2⟩,fun c=>(by cases c),fun _=>⟨⟨fun _=>b1,fun _=>b2⟩,fun c=>(by cases c),fun _=>⟨by unfold I64;omega,Again.mk (k+1) ?_ hk2 (by omega)⟩⟩⟩
   exact AS.bV (by kernel_rfl)
  ·refine aF (aj:=wX) (keep:=[]) (cuts:=[]) (n:=1000) follows ?_
   refine au (fun _ _ _ _=>(ZS ((db true):DV))) (by kernel_rfl) ?_
   rfl
end Go.Proofs
/- Parses. -/
namespace Go.Proofs
open Go Go.Ab Go.RowKit
set_option maxHeartbeats 4000000
set_option maxRecDepth 100000
variable {G:IH}
noncomputable def acI:cZ:=fun g a=>match g,a with
 | 10,[]=>some (db true)
 | 11,[.con (.string t)]=>some (.ak [kJ (bG t).1,di (bG t).2.1,di (bG t).2.2])
 | 12,[.con (.string t)]=>some (.ak [kJ (bG t).1,di (bG t).2.1,di (bG t).2.2])
 | 13,[.con (.string t)]=>some (.ak [jZ (eG t).1,di (eG t).2.1,di (eG t).2.2])
 | 14,[.con (.string t)]=>some (.ak [jZ (eG t).1,di (eG t).2.1,di (eG t).2.2])
 | 15,[.con (.string t)]=>some (.ak [aN (ht (eY t).1) (eY t).1,di (eY t).2.1,di (eY t).2.2])
 | 16,[.con (.string t)]=>some (.ak [aN (ht (eY t).1) (eY t).1,di (eY t).2.1,di (eY t).2.2])
 | 17,[_,_]=>some (db true)
 | 18,[_,_,_]=>some (db true)
 | 19,[_,_]=>some (db true)
 | _,_=>none
theorem f3 (hT:Tab G) (s:ByteArray):ay Tryz.prog G 3 [ds s] (db true):=by
 refine ay.aF (aj:=acI) (keep:=[]) follows Tryz.func3 rfl Tryz.call3 ?_
 refine au (fun _ _ _ ZK=>(fun Za Zb Zc=>(ZK 10 [] (db true)∧((false=true)→(((db false):DV)=(db true)))∧((false=false)→((((decide ((↑s.size:Int)>300))=true)→(ZS ((db true):DV)))∧(((decide ((↑s.size:Int)>300))=false)→(ZK 11 [(ds s)] (.ak [Zb,(di (bG s).snd.fst),(di (bG s).snd.snd)])∧ZK 12 [(ds s)] (.ak [Zb,(di (bG s).snd.fst),(di (bG s).snd.snd)])∧ZK 13 [(ds s)] (.ak [Za,(di (eG s).snd.fst),(di (eG s).snd.snd)])∧ZK 14 [(ds s)] (.ak [Za,(di (eG s).snd.fst),(di (eG s).snd.snd)])∧ZK 15 [(ds s)] (.ak [Zc,(di (eY s).snd.fst),(di (eY s).snd.snd)])∧ZK 16 [(ds s)] (.ak [Zc,(di (eY s).snd.fst),(di (eY s).snd.snd)])∧(ZK 17 [Zb,Zb] (db true)∧(((true&&(bG s).snd.fst==(bG s).snd.fst&&(bG s).snd.snd==(bG s).snd.snd)=true)→ZK 18 [Za,Za,(db true)] (db true))∧(((true&&(bG s).snd.fst==(bG s).snd.fst&&(bG s).snd.snd==(bG s).snd.snd&&true&&(eG s).snd.fst==(eG s).snd.fst&&(eG s).snd.snd==(eG s).snd.snd)=true)→ZK 19 [Zc,Zc] (db true)))∧((db (true&&(bG s).snd.fst==(bG s).snd.fst&&(bG s).snd.snd==(bG s).snd.snd&&true&&(eG s).snd.fst==(eG s).snd.fst&&(eG s).snd.snd==(eG s).snd.snd&&true&&(eY s).snd.fst==(eY s).snd.fst&&(eY s).snd.snd==(eY s).snd.snd)):DV)=(db true))))))) ((.slc 16 (eG s).fst.length (kT (eG s).fst)):DV) ((.slc 2 (bG s).fst.length (aG (bG s).fst)):DV) (aN (ht (eY s).fst) (eY s).fst)) (by kernel_rfl) ?_
 refine⟨f10 hT,fun c=>(by cases c),fun _=>⟨fun _=>rfl,fun h3=>?_⟩⟩
 have h3:s.size≤300:=by have:=of_decide_eq_false h3;omega
 have hwl:(bG s).1.length≤1000:=by
  by_cases he:(bG s).2.2=0
  ·obtain ⟨T,a,e,hW⟩:∃T a e,bG s=(T,a,e):=⟨_,_,_,rfl⟩
   rw[hW] at he
   have he:e=0:=he
   subst he
   have:=(uJ hW).2.len
   rw[hW]
   show T.length≤1000
   omega
  ·rw[zU he];decide
 have hP:=H8 (s:=s) (by omega)
 have hX:=Dh (s:=s) (by omega)
 have hpl:(lK s).1.length≤1000:=by
  unfold lK
  split
  ·exact Nat.zero_le _
  ·cases hq:oL (bG s).1 with
   | ok R=>
    have:=Ep _ _ R (Nat.le_refl _) hq
    try dsimp only
    omega
   | bad r=>exact Nat.zero_le _
 have hPp:(∀r∈(eG s).1,pJ r)∧(eG s).1.length≤1000:=by
  unfold eG
  split
  ·exact⟨hP,hpl⟩
  ·split
   ·exact⟨fun r hr=>(by cases hr),Nat.zero_le _⟩
   ·exact⟨hP,hpl⟩
 have hXp:Sm (eY s).1:=by
  unfold eY
  split
  ·exact hX
  ·split
   ·exact DT
   ·exact hX
 have iP:∀i,i<(eG s).1.length→pJ ((eG s).1.getD i aU):=fun i hi=>hPp.1 _ (getD_mem hi)
 refine⟨f11 s (by omega),f12 s (by omega),f13 s (by omega) hP,f14 s (by omega) hP,f15 s (by omega) hX,f16 s (by omega) hX,⟨f17 _ (by omega),fun _=>ad7 _ iP (by have:=hPp.2;omega),fun _=>f19 _ _ (Nat.le_refl _) hXp⟩,?_⟩
 simp
end Go.Proofs
