import Derived.Test.YtflgdeobcgmgnaaGreatDoorAcD
import Derived.Test.YtflgdeobcgmgnaaGreatDoorG6
import Derived.Test.YtflgdeobcgmgnaaGreatDoorG5
import Derived.Test.YtflgdeobcgmgnaaGreatDoorG2
import Derived.Test.YtflgdeobcgmgnaaGreatDoorAcE
set_option autoImplicit false
set_option maxHeartbeats 4000000
set_option maxRecDepth 100000
namespace Go.Proofs
open Go Go.Ab Go.RowKit
variable {G:IH}
noncomputable def QY (x:En) (j:Nat) (f:Nat→DV) (n:Nat):AS:=⟨regs Tryz.f57.ntmps [(1,.box 1 0),(3,.vec 903 9 0 n),(4,vi j)],[(1,(Bv x).map .d),(903,[.arr mD 9 f])]⟩
noncomputable def TW (x:En) (j:Nat) (f:Nat→DV) (n:Nat):AS:=⟨regs Tryz.f57.ntmps [(1,.box 1 0),(3,.vec 903 9 0 n),(6,vi j)],[(1,(Bv x).map .d),(903,[.arr mD 9 f])]⟩
noncomputable def aao (x:En) (j:Nat) (a:Al) (f:Nat→DV) (n:Nat):AS:=⟨regs Tryz.f57.ntmps [(1,.box 1 0),(3,.vec 903 9 0 n),(6,vi j),(7,.box 7 0)],[(1,(Bv x).map .d),(903,[.arr mD 9 f]),(7,(Ef a).map .d)]⟩
noncomputable def ac4 (x:En) (f:Nat→DV):AS:=⟨regs Tryz.f57.ntmps [(1,.box 1 0),(3,.vec 15 9 0 1),(4,vi 0)],[(1,(Bv x).map .d),(15,[.arr mD 9 f])]⟩
def zJ:eU:={ d:=bU,rows:=fun n=>Nat.beq n 15||(Nat.beq n 40||(Nat.beq n 62||Nat.beq n 76)) }
theorem f57 (x:En) (hx:Ye x):au Tryz.prog G 57 [AY x] (iO (iL x)):=by
 obtain ⟨hx1,hx2⟩:=hx
 have hgl:∀j,j≤x.gs.length→(lG [] x j).length≤1000001:=fun j hj=>by
  simp only[lG,List.length_append,List.length_cons,List.length_map,List.length_take,List.length_nil]
  omega
 have hal:∀j,j≤x.ah.length→(lA [] x j).length≤3000001:=fun j hj=>by
  have h2:((x.ah.take j).map (uQ x.k)).flatten.length≤2*(x.ah.take j).length:=by
   generalize x.ah.take j=m
   induction m with
   | nil=>simp
   | cons a m ih=>
    have:(uQ x.k a).length≤2:=by unfold uQ;split<;>simp
    simp only[List.map_cons,List.flatten_cons,List.length_append,List.length_cons]
    omega
  rw[List.length_take] at h2
  simp only[lA,List.length_append,List.length_cons,List.length_map,List.length_nil]
  omega
 refine au.eG Tryz.func57 rfl Tryz.call57 ?_
 refine gV (aj:=zJ) ?_
 refine aJ (fun ZT ZW ZQ _=>ZW [cd Tryz.f57 [1,1,0,1,0],(.blk 0),cd Tryz.f57 [1,1,1]] (aI ZT []) ZQ) (by kernel_rfl) ?_
 refine bK.weaken (st':=ac4 x (aY true 9 (kC (yA x)))) ?_ ?_
 ·exact AS.bJ (by kernel_rfl)
 refine bK.pre ((AS.dU.moves [(15,903)] _ rfl).trans ((AS.dU.of_le (st':=QY x 0 (aY true 9 (kC (yA x))) 1) ?_).trans ((AS.dU.oq _ 3 903 1 (dw (lG [] x 0)) rfl rfl rfl (by kernel_rfl) fun i hi=>by obtain rfl:i=0:=(by omega);rfl).trans (.of_le (st':=QY x 0 (dw (lG [] x 0)) 1) ?_)))) ?_
 ·exact AS.bJ (by kernel_rfl)
 ·exact AS.bJ (by kernel_rfl)
 refine bK.loop (c:=aU (ak Tryz.f57) [1,1,0,1,0,0]) (by kernel_rfl) (fun j:Nat=>QY x j (dw (lG [] x j)) (lG [] x j).length) (fun j=>j≤x.gs.length) (fun j=>x.gs.length-j) 0 ?_ (Nat.zero_le _) ?_
 ·exact AS.bJ (by kernel_rfl)
 intro j hj
 show bK _ _ _ (QY x j (dw (lG [] x j)) (lG [] x j).length) _
 by_cases hj2:j<x.gs.length
 ·have hg1:=hgl j hj
  have e:=Rn (l:=[]) hj2
  refine gV (aj:=zJ) ?_
  refine bD (fun ZT ZW ZQ _ ZA _=>((((decide ((↑j:Int)<↑x.gs.length))=true)→(((0≤(↑j:Int))∧((↑j:Int)<↑x.gs.length))∧((((lG [] x j).length+1)*96≤1099511627776)∧((lG [] x j).length+1≤1099511627776))∧(I64 (↑j+1))∧(ZA (aI ZT [0]))))∧(((decide ((↑j:Int)<↑x.gs.length))=false)→ZW [cd Tryz.f57 [1,1,1]] (aI ZT [1]) ZQ))) (by kernel_rfl) ?_
  refine⟨fun _=>⟨⟨by omega,by omega⟩,⟨by omega,by omega⟩,⟨by omega,by omega⟩,j+1,?_,hj2,show x.gs.length-(j+1)<x.gs.length-j from by omega⟩,fun hd=>absurd (of_decide_eq_false hd) (by omega)⟩
  show AS.dU _ (QY x (j+1) (dw (lG [] x (j+1))) (lG [] x (j+1)).length)
  rw[e]
  refine(AS.dU.moves [(41,903)] _ rfl).trans ((AS.dU.of_le (st':=QY x (j+1) (uo (lG [] x j) (yL x.k (x.gs.getD j fC))) ((lG [] x j).length+1)) ?_).trans ((AS.dU.oq _ 3 903 ((lG [] x j).length+1) (dw (lG [] x j++[yL x.k (x.gs.getD j fC)])) rfl rfl rfl (by kernel_rfl) fun i hi=>tK hi).trans (.of_le ?_)))
  ·refine AS.leZ [] [1] (b:=((T0∧T0∧T0∧True)∧T0∧((some [(.arr bV 9 (fun i=>bif i.blt (lG [] x j).length then dw (lG [] x j) i else aY true 9 [di 1,ds x.k.st,ds x.k.ex,di x.k.n,DV.con (Value.int IntKind.i64 (x.gs.getD (↑j:Int).toNat fC).t),DV.con (Value.int IntKind.i64 (x.gs.getD (↑j:Int).toNat fC).v),DV.con (Value.int IntKind.i64 (x.gs.getD (↑j:Int).toNat fC).h),DV.con (Value.string (x.gs.getD (↑j:Int).toNat fC).s),DV.con (Value.bool false)] (0+(i-(lG [] x j).length))))]):fO)=(some [(.arr bV 9 (uo (lG [] x j) (yL x.k (x.gs.getD j fC))))])∧True)) (by kernel_rfl) (by kernel_rfl) ?_
   exact⟨⟨rfl,rfl,rfl,trivial⟩,rfl,rfl,trivial⟩
  ·refine AS.leZ [1] [] (b:=((T0∧((.vec 903 9 0 ((lG [] x j).length+1)):AV)=(.vec 903 9 0 (lG [] x j++[yL x.k (x.gs.getD j fC)]).length)∧T0∧True)∧T0∧T0∧True)) (by kernel_rfl) (by kernel_rfl) ?_
   exact⟨⟨rfl,congrArg (AV.vec 903 9 0) (iT _ _).symm,rfl,trivial⟩,rfl,rfl,trivial⟩
 obtain rfl:j=x.gs.length:=by have:j≤x.gs.length:=hj;omega
 rw[Va]
 refine kD (aj:=zJ) (cuts:=[5,8]) ?_
 refine bD (fun ZT ZW ZQ _ _ ZR=>((((decide ((↑x.gs.length:Int)<↑x.gs.length))=true)→ZW [cd Tryz.f57 [1,1,0,1,0,0,1,0,0],(.blk 1),cd Tryz.f57 [1,1,0,1,0,0,1,1]] (aI ZT [0]) ZR)∧(((decide ((↑x.gs.length:Int)<↑x.gs.length))=false)→ZW [cd Tryz.f57 [1,1,1]] (aI ZT [1]) ZQ))) (by kernel_rfl) ?_
 refine⟨fun hd=>absurd (dW hd) (by omega),fun _=>?_⟩
 refine gV (aj:=zJ) ?_
 refine aJ (fun ZT ZW ZQ _=>ZW [cd Tryz.f57 [1,1,1,0,1,0],(.blk 2),cd Tryz.f57 [1,1,1,1]] (aI ZT []) ZQ) (by kernel_rfl) ?_
 refine bK.loop (c:=aU (ak Tryz.f57) [1,1,1,0,1,0,0]) (by kernel_rfl) (fun j:Nat=>TW x j (dw (lA [] x j)) (lA [] x j).length) (fun j=>j≤x.ah.length) (fun j=>x.ah.length-j) 0 ?_ (Nat.zero_le _) ?_
 ·exact AS.bJ (by kernel_rfl)
 clear hj hgl
 intro j hj
 show bK _ _ _ (TW x j (dw (lA [] x j)) (lA [] x j).length) _
 by_cases hj2:j<x.ah.length
 ·have hg1:=hal j hj
  have e:=Rl (l:=[]) hj2
  refine kD (aj:=zJ) (cuts:=[12]) ?_
  refine bD (fun ZT ZW ZQ _ _ ZR=>((((decide ((↑j:Int)<↑x.ah.length))=true)→(((0≤(↑j:Int))∧((↑j:Int)<↑x.ah.length))∧((((lA [] x j).length+1)*96≤1099511627776)∧((lA [] x j).length+1≤1099511627776))∧ZW [cd Tryz.f57 [1,1,1,0,1,0,0,1,0,0,1,1],(.blk 3),cd Tryz.f57 [1,1,1,0,1,0,0,1,1]] (aI ZT [0]) ZR))∧(((decide ((↑j:Int)<↑x.ah.length))=false)→ZW [cd Tryz.f57 [1,1,1,1]] (aI ZT [1]) ZQ))) (by kernel_rfl) ?_
  refine⟨fun _=>⟨⟨by omega,by omega⟩,⟨by omega,by omega⟩,?_⟩,fun hd=>absurd (of_decide_eq_false hd) (by omega)⟩
  refine bK.pre ((AS.dU.moves [(63,903)] _ rfl).trans ((AS.dU.of_le (st':=aao x j (x.ah.getD j cu) (uo (lA [] x j) (mg x.k (x.ah.getD j cu))) ((lA [] x j).length+1)) ?_).trans ((AS.dU.oq _ 3 903 ((lA [] x j).length+1) (dw (lA [] x j++[mg x.k (x.ah.getD j cu)])) rfl rfl rfl (by kernel_rfl) fun i hi=>tK hi).trans (.of_le (st':=aao x j (x.ah.getD j cu) (dw (lA [] x j++[mg x.k (x.ah.getD j cu)])) ((lA [] x j).length+1)) ?_)))) ?_
  ·refine AS.leZ [] [1,2] (b:=((T0∧T0∧T0∧T0∧True)∧T0∧((some [(.arr bV 9 (fun i=>bif i.blt (lA [] x j).length then dw (lA [] x j) i else aY true 9 [di 2,ds x.k.st,ds x.k.ex,di x.k.n,DV.con (Value.int IntKind.i64 (x.ah.getD (↑j:Int).toNat cu).t),di 0,di 0,DV.con (Value.string (x.ah.getD (↑j:Int).toNat cu).s),DV.con (Value.bool false)] (0+(i-(lA [] x j).length))))]):fO)=(some [(.arr bV 9 (uo (lA [] x j) (mg x.k (x.ah.getD j cu))))])∧((some [(vi (x.ah.getD (↑j:Int).toNat cu).t),(vs (x.ah.getD (↑j:Int).toNat cu).s),(vb (x.ah.getD (↑j:Int).toNat cu).dec),(vb (x.ah.getD (↑j:Int).toNat cu).acc),(vi (x.ah.getD (↑j:Int).toNat cu).at_),(vs (x.ah.getD (↑j:Int).toNat cu).ans)]):fO)=(some [(vi (x.ah.getD j cu).t),(vs (x.ah.getD j cu).s),(vb (x.ah.getD j cu).dec),(vb (x.ah.getD j cu).acc),(vi (x.ah.getD j cu).at_),(vs (x.ah.getD j cu).ans)])∧True)) (by kernel_rfl) (by kernel_rfl) ?_
   exact⟨⟨rfl,rfl,rfl,rfl,trivial⟩,rfl,rfl,rfl,trivial⟩
  ·exact AS.bJ (by kernel_rfl)
  have hll:(lA [] x j++[mg x.k (x.ah.getD j cu)]).length=(lA [] x j).length+1:=iT _ _
  have e2:lA [] x (j+1)=(lA [] x j++[mg x.k (x.ah.getD j cu)])++(if (x.ah.getD j cu).dec=true then [zn x.k (x.ah.getD j cu)] else []):=by
   rw[e]
   unfold uQ mg zn
   split<;>simp
  generalize lA [] x j++[mg x.k (x.ah.getD j cu)]=m at *
  rw[←hll]
  refine gV (aj:=zJ) ?_
  refine bD (fun ZT _ _ _ ZA _=>((((x.ah.getD j cu).dec=true)→((((m.length+1)*96≤1099511627776)∧(m.length+1≤1099511627776))∧(I64 (↑j+1))∧(ZA (aI ZT [0]))))∧(((x.ah.getD j cu).dec=false)→((I64 (↑j+1))∧(ZA (aI ZT [1])))))) (by kernel_rfl) ?_
  refine⟨fun c=>⟨⟨by omega,by omega⟩,⟨by omega,by omega⟩,j+1,?_,hj2,show x.ah.length-(j+1)<x.ah.length-j from by omega⟩,fun c=>⟨⟨by omega,by omega⟩,Again.mk (j+1) ?_ hj2 (by omega)⟩⟩
  ·show AS.dU _ (TW x (j+1) (dw (lA [] x (j+1))) (lA [] x (j+1)).length)
   rw[e2,if_pos c]
   refine(AS.dU.moves [(77,903)] _ rfl).trans ((AS.dU.of_le (st':=TW x (j+1) (uo m (zn x.k (x.ah.getD j cu))) (m.length+1)) ?_).trans ((AS.dU.oq _ 3 903 (m.length+1) (dw (m++[zn x.k (x.ah.getD j cu)])) rfl rfl rfl (by kernel_rfl) fun i hi=>tK hi).trans (.of_le ?_)))
   ·refine AS.leZ [] [1] (b:=((T0∧T0∧T0∧True)∧T0∧((some [(.arr bV 9 (fun i=>bif i.blt m.length then dw m i else aY true 9 [di 3,ds x.k.st,ds x.k.ex,di x.k.n,DV.con (Value.int IntKind.i64 (x.ah.getD j cu).at_),di 0,di 0,DV.con (Value.string (x.ah.getD j cu).ans),DV.con (Value.bool (x.ah.getD j cu).acc)] (0+(i-m.length))))]):fO)=(some [(.arr bV 9 (uo m (zn x.k (x.ah.getD j cu))))])∧True)) (by kernel_rfl) (by kernel_rfl) ?_
    exact⟨⟨rfl,rfl,rfl,trivial⟩,rfl,rfl,trivial⟩
   ·refine AS.leZ [1] [] (b:=((T0∧((.vec 903 9 0 (m.length+1)):AV)=(.vec 903 9 0 (m++[zn x.k (x.ah.getD j cu)]).length)∧T0∧True)∧T0∧T0∧True)) (by kernel_rfl) (by kernel_rfl) ?_
    exact⟨⟨rfl,congrArg (AV.vec 903 9 0) (iT _ _).symm,rfl,trivial⟩,rfl,rfl,trivial⟩
  ·rw[if_neg (by rw[c];decide),List.append_nil] at e2
   refine AS.leZ [1] [1] (b:=((T0∧((.vec 903 9 0 m.length):AV)=(.vec 903 9 0 (lA [] x (j+1)).length)∧T0∧True)∧T0∧((some [(.arr bV 9 (dw m))]):fO)=(some [(.arr bV 9 (dw (lA [] x (j+1))))])∧True)) (by kernel_rfl) (by kernel_rfl) ?_
   rw[e2]
   exact⟨⟨rfl,rfl,rfl,trivial⟩,rfl,rfl,trivial⟩
 obtain rfl:j=x.ah.length:=by have:j≤x.ah.length:=hj;omega
 have e:lA [] x x.ah.length=iL x:=by simp[lA,iL]
 rw[e]
 refine kD (aj:=zJ) (cuts:=[10]) ?_
 refine bD (fun ZT ZW ZQ _ _ ZR=>((((decide ((↑x.ah.length:Int)<↑x.ah.length))=true)→ZW [cd Tryz.f57 [1,1,1,0,1,0,0,1,0,0],(.blk 3),cd Tryz.f57 [1,1,1,0,1,0,0,1,1]] (aI ZT [0]) ZR)∧(((decide ((↑x.ah.length:Int)<↑x.ah.length))=false)→ZW [cd Tryz.f57 [1,1,1,1]] (aI ZT [1]) ZQ))) (by kernel_rfl) ?_
 refine⟨fun hd=>absurd (dW hd) (by omega),fun _=>?_⟩
 refine gV (aj:=zJ) ?_
 refine aJ (fun _ _ _ _=>(((.slc 9 (iL x).length (fun i=>dw (iL x) (0+i))):DV)=(iO (iL x)))) (by kernel_rfl) ?_
 exact congrArg (DV.slc 9 _) (funext fun i=>by rw[Nat.zero_add])
def vG (es:List En) (k:Ky) (j:Nat):Nat:=iI (es.take j) k
theorem Vb {es:List En} {k:Ky} {j:Nat} (h:j<es.length):vG es k (j+1)=vG es k j+if wQ k (es.getD j en0).k=true then 1 else 0:=by
 unfold vG iI keyS
 rw[List.take_succ_eq_append_getElem h,List.map_append,List.filter_append,List.length_append,List.getD,iy h]
 congr 1
 show (List.filter (wQ k) [es[j].k]).length=_
 rw[List.filter_cons]
 show (if wQ k es[j].k=true then _ else _:List Ky).length=if wQ k es[j].k=true then 1 else 0
 split<;>rfl
noncomputable def S80 (b:Bk) (k:Ky) (j:Nat):AS:=⟨regs Tryz.f80.ntmps [(2,.box 2 0),(3,.box 3 0),(4,vi 0),(5,vi (vG b.es k j)),(6,vi j)],[(2,(iD b).map .d),(3,(O9 k).map .d)]⟩
theorem f80 (b:Bk) (k:Ky) (hl:b.es.length≤1000000):au Tryz.prog G 80 [eY b,XV k] (di (iI b.es k)):=by
 refine au.eG Tryz.func80 rfl Tryz.call80 ?_
 refine gV (aj:={ d:=bU }) ?_
 refine aJ (fun ZT ZW ZQ _=>ZW [cd Tryz.f80 [1,1,0,1,0],(.blk 0),cd Tryz.f80 [1,1,1]] (aI ZT []) ZQ) (by kernel_rfl) ?_
 refine bK.loop (c:=aU (ak Tryz.f80) [1,1,0,1,0,0]) (by kernel_rfl) (fun j:Nat=>S80 b k j) (fun j=>j≤b.es.length∧vG b.es k j≤j) (fun j=>b.es.length-j) 0 ?_ ⟨Nat.zero_le _,Nat.le_refl _⟩ ?_
 ·exact AS.bJ (by kernel_rfl)
 rintro j ⟨hj,hc⟩
 by_cases h2:j<b.es.length
 ·have hs:=Vb (k:=k) h2
  refine gV (aj:={ d:=bU }) ?_
  refine bD (fun ZT ZW ZQ _ ZA _=>(fun Za=>((((decide ((↑j:Int)<↑b.es.length))=true)→(((0≤(↑j:Int))∧((↑j:Int)<↑b.es.length))∧((Za=true)→((I64 (↑(vG b.es k j)+1))∧(I64 (↑j+1))∧(ZA (aI ZT [0,0]))))∧((Za=false)→((I64 (↑j+1))∧(ZA (aI ZT [0,1]))))))∧(((decide ((↑j:Int)<↑b.es.length))=false)→ZW [cd Tryz.f80 [1,1,1]] (aI ZT [1]) ZQ))) ((b.es.getD (↑j:Int).toNat en0).k.st.toList==k.st.toList&&(b.es.getD (↑j:Int).toNat en0).k.ex.toList==k.ex.toList)) (by kernel_rfl) ?_
  try dsimp only
  rw[show ((j:Int)).toNat=j from rfl,dO,dO]
  have e:(decide ((b.es.getD j en0).k.st=k.st)&&decide ((b.es.getD j en0).k.ex=k.ex))=wQ k (b.es.getD j en0).k:=rfl
  rw[e]
  refine⟨fun _=>⟨⟨by omega,by omega⟩,fun c=>⟨⟨by omega,by omega⟩,⟨by omega,by omega⟩,Again.mk (j+1) ?_ ⟨h2,by rw[hs];split<;>omega⟩ (by show b.es.length-(j+1)<b.es.length-j;omega)⟩,fun c=>⟨⟨by omega,by omega⟩,Again.mk (j+1) ?_ ⟨h2,by rw[hs];split<;>omega⟩ (by show b.es.length-(j+1)<b.es.length-j;omega)⟩⟩,fun hd=>absurd (of_decide_eq_false hd) (by omega)⟩
  ·rw[if_pos c] at hs
   refine AS.leZ [3] [] (b:=((T0∧T0∧T0∧((vi (↑(vG b.es k j)+1)):AV)=(vi (↑(vG b.es k (j+1))))∧T0∧True)∧T0∧T0∧True)) (by kernel_rfl) (by kernel_rfl) ?_
   rw[hs]
   exact⟨⟨rfl,rfl,rfl,rfl,rfl,trivial⟩,rfl,rfl,trivial⟩
  ·rw[if_neg (by rw[c];decide)] at hs
   refine AS.leZ [3] [] (b:=((T0∧T0∧T0∧((vi (↑(vG b.es k j))):AV)=(vi (↑(vG b.es k (j+1))))∧T0∧True)∧T0∧T0∧True)) (by kernel_rfl) (by kernel_rfl) ?_
   rw[hs]
   exact⟨⟨rfl,rfl,rfl,rfl,rfl,trivial⟩,rfl,rfl,trivial⟩
 ·obtain rfl:j=b.es.length:=by omega
  have e:vG b.es k b.es.length=iI b.es k:=by unfold vG;rw[List.take_length]
  refine kD (aj:={ d:=bU }) (cuts:=[5]) ?_
  refine bD (fun ZT ZW ZQ _ _ ZR=>((((decide ((↑b.es.length:Int)<↑b.es.length))=true)→ZW [cd Tryz.f80 [1,1,0,1,0,0,1,0,0],(.blk 1),cd Tryz.f80 [1,1,0,1,0,0,1,1]] (aI ZT [0]) ZR)∧(((decide ((↑b.es.length:Int)<↑b.es.length))=false)→ZW [cd Tryz.f80 [1,1,1]] (aI ZT [1]) ZQ))) (by kernel_rfl) ?_
  refine⟨fun hd=>absurd (dW hd) (by omega),fun _=>?_⟩
  refine gV (aj:={ d:=bU }) ?_
  refine aJ (fun _ _ _ _=>(((di (↑(vG b.es k b.es.length))):DV)=(di ↑(iI b.es k)))) (by kernel_rfl) ?_
  rw[e]
def wW (es:List En) (e:Ev):Bool:=decide (e∈bG es)
noncomputable def S50 (b:Bk) (e:Ev) (i:Nat):AS:=⟨regs Tryz.f50.ntmps [(2,.box 2 0),(3,.box 3 0),(4,vb false),(5,vi i)],[(2,(iD b).map .d),(3,(kC e).map .d)]⟩
noncomputable def ac5 (b:Bk) (e:Ev) (i:Nat) (l:List Ev) (k:Nat):AS:=⟨regs Tryz.f50.ntmps [(2,.box 2 0),(3,.box 3 0),(4,vb false),(5,vi i),(6,.d (iO l)),(7,vi k)],[(2,(iD b).map .d),(3,(kC e).map .d)]⟩
def BH (l:List Ev):eU:={ d:=fun f _=>bif Nat.beq f 57 then some (iO l) else none }
theorem Rx {x:En} (hx:Ye x):(iL x).length≤3000001:=by
 obtain ⟨h1,h2⟩:=hx
 have:∀m:List Al,((m.map (uQ x.k)).flatten).length≤2*m.length:=by
  intro m
  induction m with
  | nil=>simp
  | cons a m ih=>
   have:(uQ x.k a).length≤2:=by unfold uQ;split<;>simp
   simp only[List.map_cons,List.flatten_cons,List.length_append,List.length_cons]
   omega
 have:=this x.ah
 simp only[iL,List.length_cons,List.length_append,List.length_map]
 omega
theorem f50 (b:Bk) (e:Ev) (hs:iY b.es):au Tryz.prog G 50 [eY b,fQ e] (db (wW b.es e)):=by
 have hl:=hs.1
 refine au.eG Tryz.func50 rfl Tryz.call50 ?_
 refine gV (aj:=BH []) ?_
 refine aJ (fun ZT ZW ZQ _=>ZW [cd Tryz.f50 [1,0,1,0],(.blk 0),cd Tryz.f50 [1,1]] (aI ZT []) ZQ) (by kernel_rfl) ?_
 refine bK.loop (c:=aU (ak Tryz.f50) [1,0,1,0,0]) (by kernel_rfl) (fun j:Nat=>S50 b e j) (fun j=>j≤b.es.length∧e∉bG (b.es.take j)) (fun j=>b.es.length-j) 0 ?_ ⟨Nat.zero_le _,by simp[bG]⟩ ?_
 ·exact AS.bJ (by kernel_rfl)
 rintro j ⟨hj,hn⟩
 by_cases h2:j<b.es.length
 ·have hx:=hs.2 j h2
  have hel:=Rx hx
  have hal:bG (b.es.take (j+1))=bG (b.es.take j)++iL (b.es.getD j en0):=by
   rw[List.take_succ_eq_append_getElem h2,mG,List.getD,iy h2]
   congr 1
   show ([b.es[j]].map iL).flatten=_
   simp
  have hfull:∀y,y∈bG (b.es.take (j+1))→y∈bG b.es:=fun y hy=>by
   have:bG b.es=bG (b.es.take (j+1))++bG (b.es.drop (j+1)):=by rw[←mG,List.take_append_drop]
   rw[this];exact List.mem_append_left _ hy
  have h57:=f57 (G:=G) (b.es.getD j en0) hx
  generalize hlx:iL (b.es.getD j en0)=l at *
  refine gV (aj:=BH l) ?_
  refine bD (fun ZT ZW ZQ ZK _ ZR=>(fun Za=>((((decide ((↑j:Int)<↑b.es.length))=true)→((((0≤(↑j:Int))∧((↑j:Int)<↑b.es.length))∧ZK 57 [(.agg [(ds Za.k.st),(ds Za.k.ex),(di Za.k.n),(di Za.t),(ds Za.s),(.slc 4 Za.gs.length (dX Za.gs)),(.slc 6 Za.ah.length (dN Za.ah))])] (.slc 9 l.length (dw l)))∧ZW [cd Tryz.f50 [1,0,1,0,0,1,0,0,1,1,0],(.blk 2),(.blk 1),cd Tryz.f50 [1,0,1,0,0,1,1]] (aI ZT [0]) ZR))∧(((decide ((↑j:Int)<↑b.es.length))=false)→ZW [cd Tryz.f50 [1,1]] (aI ZT [1]) ZQ))) (b.es.getD (↑j:Int).toNat en0)) (by kernel_rfl) ?_
  refine⟨fun _=>⟨⟨⟨by omega,by omega⟩,h57⟩,?_⟩,fun hd=>absurd (of_decide_eq_false hd) (by omega)⟩
  refine bK.loop (c:=aU (ak Tryz.f50) [1,0,1,0,0,1,0,0,1,1,0,0]) (by kernel_rfl) (fun k:Nat=>ac5 b e j l k) (fun k=>k≤l.length∧e∉l.take k) (fun k=>l.length-k) 0 ?_ ⟨Nat.zero_le _,by simp⟩ ?_
  ·exact AS.bJ (by kernel_rfl)
  rintro k ⟨hk,hnk⟩
  by_cases h3:k<l.length
  ·refine gV (aj:=BH l) ?_
   refine bD (fun ZT ZW ZQ _ ZA _=>(fun Za=>((((decide ((↑k:Int)<↑l.length))=true)→(((0≤(↑k:Int))∧((↑k:Int)<↑l.length))∧((Za=true)→(((db true):DV)=(db (wW b.es e))))∧((Za=false)→((I64 (↑k+1))∧(ZA (aI ZT [0,1]))))))∧(((decide ((↑k:Int)<↑l.length))=false)→ZW [(.blk 1),cd Tryz.f50 [1,0,1,0,0,1,1]] (aI ZT [1]) ZQ))) (Bool.rec false ((l.getD (↑k:Int).toNat ev0).k.st.toList==e.k.st.toList&&((l.getD (↑k:Int).toNat ev0).k.ex.toList==e.k.ex.toList&&(l.getD (↑k:Int).toNat ev0).k.n==e.k.n)&&((l.getD (↑k:Int).toNat ev0).t==e.t&&((l.getD (↑k:Int).toNat ev0).v==e.v&&((l.getD (↑k:Int).toNat ev0).h==e.h&&((l.getD (↑k:Int).toNat ev0).s.toList==e.s.toList&&(l.getD (↑k:Int).toNat ev0).acc==e.acc))))) ((l.getD (↑k:Int).toNat ev0).kind==e.kind))) (by kernel_rfl) ?_
   try dsimp only
   simp only[gZ,nY,OH]
   have hm:l.getD k ev0∈l:=by rw[List.getD,iy h3];exact List.getElem_mem h3
   refine⟨fun _=>⟨⟨by omega,by omega⟩,fun c=>?_,fun c=>⟨⟨by omega,by omega⟩,Again.mk (k+1) ?_ ⟨h3,?_⟩ (by show l.length-(k+1)<l.length-k;omega)⟩⟩,fun hd=>absurd (of_decide_eq_false hd) (by omega)⟩
   ·have c:=dW c
    have hp:wW b.es e=true:=decide_eq_true (hfull e (by rw[hal];exact List.mem_append_right _ (by rw[←c];exact hm)))
    rw[hp]
   ·exact AS.bJ (by kernel_rfl)
   ·have c:=of_decide_eq_false c
    rw[List.take_succ_eq_append_getElem h3,List.mem_append]
    rintro (q|q)
    ·exact hnk q
    ·have q:=List.mem_singleton.1 q
     refine c ?_
     rw[List.getD,iy h3]
     exact q.symm
  ·obtain rfl:k=l.length:=by omega
   rw[List.take_length] at hnk
   refine kD (aj:=BH l) (cuts:=[8]) ?_
   refine bD (fun ZT ZW ZQ _ _ ZR=>((((decide ((↑l.length:Int)<↑l.length))=true)→ZW [cd Tryz.f50 [1,0,1,0,0,1,0,0,1,1,0,0,1,0,0],(.blk 3),cd Tryz.f50 [1,0,1,0,0,1,0,0,1,1,0,0,1,1]] (aI ZT [0]) ZR)∧(((decide ((↑l.length:Int)<↑l.length))=false)→ZW [(.blk 1),cd Tryz.f50 [1,0,1,0,0,1,1]] (aI ZT [1]) ZQ))) (by kernel_rfl) ?_
   refine⟨fun hd=>absurd (dW hd) (by omega),fun _=>?_⟩
   refine gV (aj:=BH l) ?_
   refine bD (fun ZT _ _ _ ZA _=>((I64 (↑j+1))∧(ZA (aI ZT [])))) (by kernel_rfl) ?_
   refine⟨⟨by omega,by omega⟩,Again.mk (j+1) ?_ ⟨h2,by rw[hal,List.mem_append];rintro (q|q);exact hn q;exact hnk q⟩ (by show b.es.length-(j+1)<b.es.length-j;omega)⟩
   exact AS.bJ (by kernel_rfl)
 ·obtain rfl:j=b.es.length:=by omega
  rw[List.take_length] at hn
  have hp:wW b.es e=false:=decide_eq_false hn
  refine kD (aj:=BH []) (cuts:=[4]) ?_
  refine bD (fun ZT ZW ZQ _ _ ZR=>((((decide ((↑b.es.length:Int)<↑b.es.length))=true)→ZW [cd Tryz.f50 [1,0,1,0,0,1,0,0],(.blk 1),cd Tryz.f50 [1,0,1,0,0,1,1]] (aI ZT [0]) ZR)∧(((decide ((↑b.es.length:Int)<↑b.es.length))=false)→ZW [cd Tryz.f50 [1,1]] (aI ZT [1]) ZQ))) (by kernel_rfl) ?_
  refine⟨fun hd=>absurd (dW hd) (by omega),fun _=>?_⟩
  refine gV (aj:=BH []) ?_
  refine aJ (fun _ _ _ _=>(((db false):DV)=(db (wW b.es e)))) (by kernel_rfl) ?_
  rw[hp]
theorem VG {e:Ev} {P Q:List Ev} (hP:∀a∈P,a.t≤e.t) (hQ:∀a∈Q,e.t<a.t):ins e (P++Q)=P++e :: Q:=by
 rw[J3 hQ (.inr (.inr trivial)),FX hP,List.append_assoc];rfl
theorem Ja {e:Ev}:∀{l:List Ev},l.Pairwise (fun a b=>a.t≤b.t)→(ins e l).Pairwise (fun a b=>a.t≤b.t)
 | [],_=>by simp[ins]
 | a :: l,h=>by
  obtain ⟨h1,h2⟩:=List.pairwise_cons.1 h
  unfold ins
  split
  ·rename_i c
   refine List.pairwise_cons.2 ⟨fun b hb=>?_,h⟩
   rcases List.mem_cons.1 hb with rfl|hb
   ·omega
   ·have:=h1 b hb;omega
  ·rename_i c
   refine List.pairwise_cons.2 ⟨fun b hb=>?_,Ja h2⟩
   rcases Lh.1 hb with rfl|hb
   ·omega
   ·exact h1 b hb
theorem Td (l:List Ev):(iK l).Pairwise (fun a b=>a.t≤b.t):=by
 suffices h:∀r:List Ev,(iK r.reverse).Pairwise (fun a b=>a.t≤b.t) by
  have:=h l.reverse
  rwa [List.reverse_reverse] at this
 intro r
 induction r with
 | nil=>simp[YW]
 | cons a r ih=>rw[List.reverse_cons,sG];exact Ja ih
theorem aap {e:Ev} {l:List Ev} {j:Nat} (hs:l.Pairwise (fun a b=>a.t≤b.t)) (hj:j≤l.length) (h1:∀i,j≤i→i<l.length→e.t<(l.getD i ev0).t) (h2:j=0∨(l.getD (j-1) ev0).t≤e.t):ins e l=l.take j++e :: l.drop j:=by
 conv=>lhs;rw[←List.take_append_drop j l]
 refine VG (fun a ha=>?_) (fun a ha=>?_)
 ·obtain ⟨i,hi,rfl⟩:=List.mem_iff_getElem.1 ha
  rw[List.length_take] at hi
  rw[List.getElem_take]
  have h2:=h2.resolve_left (by omega)
  rw[List.getD,iy (show j-1<l.length by omega)] at h2
  have h2:l[j-1].t≤e.t:=h2
  by_cases c:i=j-1
  ·subst c;exact h2
  ·have:=List.pairwise_iff_getElem.1 hs i (j-1) (by omega) (by omega) (by omega)
   omega
 ·obtain ⟨i,hi,rfl⟩:=List.mem_iff_getElem.1 ha
  rw[List.length_drop] at hi
  rw[List.getElem_drop]
  have:=h1 (j+i) (by omega) (by omega)
  rw[List.getD,iy (by omega)] at this
  exact this
noncomputable def S59 (b:Bk) (i:Nat) (m:List Ev):AS:=⟨regs Tryz.f59.ntmps [(1,.box 1 0),(3,.vec 903 9 0 m.length),(4,vi i)],[(1,(iD b).map .d),(903,[.arr mD 9 (dw m)])]⟩
noncomputable def adI (b:Bk):AS:=⟨regs Tryz.f59.ntmps [(1,.box 1 0),(3,.vec 9 9 0 0),(4,vi 0)],[(1,(iD b).map .d),(9,[.arr mD 9 (fun _=>.con undef)])]⟩
noncomputable def ZN (b:Bk) (i:Nat) (m l:List Ev) (k:Nat):AS:=⟨regs Tryz.f59.ntmps [(1,.box 1 0),(3,.vec 903 9 0 m.length),(4,vi i),(5,.d (iO l)),(6,vi k)],[(1,(iD b).map .d),(903,[.arr mD 9 (dw m)])]⟩
noncomputable def TU (b:Bk) (i:Nat) (m l:List Ev) (k j:Nat):AS:=⟨regs Tryz.f59.ntmps [(1,.box 1 0),(3,.vec 903 9 0 m.length),(4,vi i),(5,.d (iO l)),(6,vi k),(7,vi j)],[(1,(iD b).map .d),(903,[.arr mD 9 (dw m)])]⟩
def zV (l:List Ev):eU:={ d:=fun f _=>bif Nat.beq f 57 then some (iO l) else none,rows:=fun n=>Nat.beq n 9||(Nat.beq n 49||(Nat.beq n 54||Nat.beq n 63)) }
noncomputable def adt (b:Bk) (i:Nat) (l:List Ev) (k:Nat) (f:Nat→DV) (n:Nat):AS:=⟨regs Tryz.f59.ntmps [(1,.box 1 0),(3,.vec 903 9 0 n),(4,vi i),(5,.d (iO l)),(6,vi k)],[(1,(iD b).map .d),(903,[.arr mD 9 f])]⟩
def Ub (m:List Ev) (e:Ev) (j:Nat):Nat→DV:=fun i=>bif Nat.blt i (0+Int.toNat ((j:Int)-0)+1) then bif Nat.blt i (0+Int.toNat ((j:Int)-0)) then bif Nat.blt i 0 then DV.con undef else dw m (0+Int.toNat 0+(i-0)) else aY true 9 (kC e) (0+(i-(0+Int.toNat ((j:Int)-0)))) else bif Nat.blt (0+(i-(0+Int.toNat ((j:Int)-0)+1))) 0 then DV.con undef else dw m (0+Int.toNat (j:Int)+(0+(i-(0+Int.toNat ((j:Int)-0)+1))-0))
theorem Yv (m:List Ev) (e:Ev) {j i:Nat} (hj:j≤m.length) (hi:i<j+1+(m.length-j)):Ub m e j i=dw (m.take j++e :: m.drop j) i:=by
 have ej:0+Int.toNat ((j:Int)-0)=j:=by omega
 unfold Ub
 rw[ej]
 have lt:(m.take j).length=j:=by rw[List.length_take];omega
 by_cases h:i<j+1
 ·rw[show Nat.blt i (j+1)=true from by rw[Nat.blt_eq];exact h,cond_true]
  by_cases h2:i<j
  ·rw[show Nat.blt i j=true from by rw[Nat.blt_eq];exact h2,cond_true,show Nat.blt i 0=false from by cases i<;>rfl,cond_false,show 0+Int.toNat 0+(i-0)=i by omega]
   unfold dw
   rw[List.getD,List.getD,List.getElem?_append_left (by omega),List.getElem?_take_of_lt h2]
  ·obtain rfl:i=j:=by omega
   rw[show Nat.blt i i=false from by rw[Bool.eq_false_iff,ne_eq,Nat.blt_eq];omega,cond_false,Nat.sub_self]
   unfold dw
   rw[List.getD,List.getElem?_append_right (by omega),lt,Nat.sub_self]
   rfl
 ·rw[show Nat.blt i (j+1)=false from by rw[Bool.eq_false_iff,ne_eq,Nat.blt_eq];omega,cond_false,show Nat.blt (0+(i-(j+1))) 0=false from by cases (0+(i-(j+1)))<;>rfl,cond_false,show 0+Int.toNat (j:Int)+(0+(i-(j+1))-0)=i-1 by omega]
  unfold dw
  rw[List.getD,List.getD,List.getElem?_append_right (by omega),lt,show i-j=(i-1-j)+1 by omega,List.getElem?_cons_succ,List.getElem?_drop,show j+(i-1-j)=i-1 by omega]
theorem aar (b:Bk) (i:Nat) (m l:List Ev) (k:Nat) (hk:k<l.length) (hm:m.length≤1000000) (hl:l.length≤3000001) (hs:m.Pairwise (fun a b=>a.t≤b.t)) {K:List It} {Q:Exit→AS→Prop} (h:∀j,j≤m.length→ins (l.getD k ev0) m=m.take j++l.getD k ev0 :: m.drop j→bK Tryz.prog G (cd Tryz.f59 [1,1,0,1,0,0,1,0,0,1,1,0,0,1,0,0,1,1] :: K) (TU b i m l k j) Q):bK Tryz.prog G (cd Tryz.f59 [1,1,0,1,0,0,1,0,0,1,1,0,0,1,0,0,1,0,0] :: .blk 4 :: (cd Tryz.f59 [1,1,0,1,0,0,1,0,0,1,1,0,0,1,0,0,1,1] :: K)) (TU b i m l k m.length) Q:=by
 refine bK.loop (c:=aU (ak Tryz.f59) [1,1,0,1,0,0,1,0,0,1,1,0,0,1,0,0,1,0,0,0]) (by kernel_rfl) (fun j:Nat=>TU b i m l k j) (fun j=>j≤m.length∧∀q,j≤q→q<m.length→(l.getD k ev0).t<(m.getD q ev0).t) (fun j=>j) m.length ?_ ⟨Nat.le_refl _,fun q a c=>by omega⟩ ?_
 ·exact AS.bJ (by kernel_rfl)
 rintro j ⟨hj,hq⟩
 refine kD (aj:={ d:=bU }) (cuts:=[12]) ?_
 refine bD (fun ZT ZW _ _ ZA _=>(fun Za=>(((((decide ((↑j:Int)>0))=true)→(I64 (↑j-1)))∧(((decide ((↑j:Int)>0))=true)→((0≤(↑j:Int)-1)∧((↑j:Int)-1<↑m.length)))∧(((decide ((↑j:Int)>0))=true)→((0≤(↑k:Int))∧((↑k:Int)<↑l.length))))∧((Za=true)→((I64 (↑j-1))∧(ZA (aI ZT [0]))))∧((Za=false)→ZW (cd Tryz.f59 [1,1,0,1,0,0,1,0,0,1,1,0,0,1,0,0,1,1] :: K) (aI ZT [1]) Q))) (decide ((↑j:Int)>0)&&decide ((m.getD (0+((↑j:Int)-1).toNat) ev0).t>(l.getD (↑k:Int).toNat ev0).t))) (by kernel_rfl) ?_
 refine⟨⟨fun c=>?_,fun c=>?_,fun c=>⟨by omega,by omega⟩⟩,fun c=>?_,fun c=>?_⟩
 ·have:=dW c;exact⟨by omega,by omega⟩
 ·have:=dW c;exact⟨by omega,by omega⟩
 ·rw[aV] at c
  have c1:=dW c.1
  have c2:=dW c.2
  rw[show 0+((j:Int)-1).toNat=j-1 by omega,show ((k:Int)).toNat=k from rfl] at c2
  refine⟨⟨by omega,by omega⟩,Again.mk (j-1) ?_ ⟨by omega,fun q a b=>?_⟩ (by omega)⟩
  ·refine AS.leZ [5] [] (b:=((T0∧T0∧T0∧T0∧T0∧((vi (↑j-1)):AV)=(vi (↑(j-1)))∧True)∧T0∧T0∧True)) (by kernel_rfl) (by kernel_rfl) ?_
   exact⟨⟨rfl,rfl,rfl,rfl,rfl,oL (by omega),trivial⟩,rfl,rfl,trivial⟩
  ·by_cases e:q=j-1
   ·subst e;exact c2
   ·exact hq q (by omega) b
 ·refine bK.weaken ?_ (h j hj (aap hs hj hq ?_))
  ·exact AS.bJ (by kernel_rfl)
  ·rw[Bool.and_eq_false_iff] at c
   rcases c with c|c
   ·left;have:=of_decide_eq_false c;omega
   ·right
    have:=of_decide_eq_false c
    rw[show 0+((j:Int)-1).toNat=j-1 by omega,show ((k:Int)).toNat=k from rfl] at this
    omega
theorem f59 (b:Bk) (hs:iY b.es) (hl:(bG b.es).length≤1000000):au Tryz.prog G 59 [eY b] (iO (aA b)):=by
 refine au.eG Tryz.func59 rfl Tryz.call59 ?_
 refine gV (aj:=zV []) ?_
 refine aJ (fun ZT ZW ZQ _=>ZW [cd Tryz.f59 [1,1,0,1,0],(.blk 0),cd Tryz.f59 [1,1,1]] (aI ZT []) ZQ) (by kernel_rfl) ?_
 refine bK.weaken (st':=adI b) ?_ ?_
 ·exact AS.bJ (by kernel_rfl)
 refine bK.pre ((AS.dU.moves [(9,903)] _ rfl).trans ((AS.dU.of_le (st':=⟨(S59 b 0 []).regs,[(1,(iD b).map .d),(903,[.arr mD 9 (fun _=>.con undef)])]⟩) ?_).trans ((AS.dU.oq _ 3 903 0 (dw []) rfl rfl rfl (by kernel_rfl) fun i hi=>absurd hi (Nat.not_lt_zero i)).trans (.of_le (st':=S59 b 0 []) ?_)))) ?_
 ·exact AS.bJ (by kernel_rfl)
 ·exact AS.bJ (by kernel_rfl)
 refine bK.loop (c:=aU (ak Tryz.f59) [1,1,0,1,0,0]) (by kernel_rfl) (fun i:Nat=>S59 b i (iK (bG (b.es.take i)))) (fun i=>i≤b.es.length) (fun i=>b.es.length-i) 0 ?_ (Nat.zero_le _) ?_
 ·refine AS.leZ [] [1] (b:=((T0∧T0∧T0∧True)∧T0∧((some [(.arr bV 9 (dw []))]):fO)=(some [(.arr bV 9 (dw (iK (bG (List.take 0 b.es)))))])∧True)) (by kernel_rfl) (by kernel_rfl) ?_
  exact⟨⟨rfl,rfl,rfl,trivial⟩,rfl,rfl,trivial⟩
 intro i hi
 by_cases h2:i<b.es.length
 ·have hx:=hs.2 i h2
  have h57:=f57 (G:=G) (b.es.getD i en0) hx
  generalize hlx:iL (b.es.getD i en0)=l at *
  refine gV (aj:=zV l) ?_
  refine bD (fun ZT ZW ZQ ZK _ ZR=>(fun Za=>((((decide ((↑i:Int)<↑b.es.length))=true)→((((0≤(↑i:Int))∧((↑i:Int)<↑b.es.length))∧ZK 57 [(.agg [(ds Za.k.st),(ds Za.k.ex),(di Za.k.n),(di Za.t),(ds Za.s),(.slc 4 Za.gs.length (dX Za.gs)),(.slc 6 Za.ah.length (dN Za.ah))])] (.slc 9 l.length (dw l)))∧ZW [cd Tryz.f59 [1,1,0,1,0,0,1,0,0,1,1,0],(.blk 2),(.blk 1),cd Tryz.f59 [1,1,0,1,0,0,1,1]] (aI ZT [0]) ZR))∧(((decide ((↑i:Int)<↑b.es.length))=false)→ZW [cd Tryz.f59 [1,1,1]] (aI ZT [1]) ZQ))) (b.es.getD (↑i:Int).toNat en0)) (by kernel_rfl) ?_
  try dsimp only
  have hel:=Rx hx
  rw[hlx] at hel
  have hal:bG (b.es.take (i+1))=bG (b.es.take i)++l:=by
   rw[List.take_succ_eq_append_getElem h2,mG,←hlx,List.getD,iy h2]
   congr 1
   show ([b.es[i]].map iL).flatten=_
   simp
  have hbl:(bG (b.es.take i)).length+l.length≤1000000:=by
   have:bG b.es=bG (b.es.take (i+1))++bG (b.es.drop (i+1)):=by rw[←mG,List.take_append_drop]
   rw[this,hal,List.length_append,List.length_append] at hl
   omega
  refine⟨fun _=>⟨⟨⟨by omega,by omega⟩,h57⟩,?_⟩,fun hd=>absurd (of_decide_eq_false hd) (by omega)⟩
  refine bK.loop (c:=aU (ak Tryz.f59) [1,1,0,1,0,0,1,0,0,1,1,0,0]) (by kernel_rfl) (fun k:Nat=>ZN b i (iK (bG (b.es.take i)++l.take k)) l k) (fun k=>k≤l.length) (fun k=>l.length-k) 0 ?_ (Nat.zero_le _) ?_
  ·refine AS.leZ [1] [1] (b:=((T0∧((.vec 903 9 0 (iK (bG (List.take i b.es))).length):AV)=(.vec 903 9 0 (iK (bG (List.take i b.es)++List.take 0 l)).length)∧T0∧T0∧T0∧True)∧T0∧((some [(.arr bV 9 (dw (iK (bG (List.take i b.es)))))]):fO)=(some [(.arr bV 9 (dw (iK (bG (List.take i b.es)++List.take 0 l))))])∧True)) (by kernel_rfl) (by kernel_rfl) ?_
   rw[List.take_zero,List.append_nil]
   exact⟨⟨rfl,rfl,rfl,rfl,rfl,trivial⟩,rfl,rfl,trivial⟩
  intro k hk
  by_cases h3:k<l.length
  ·have hm1:(iK (bG (b.es.take i)++l.take k)).length≤1000000:=by
    rw[xQ,List.length_append,List.length_take];omega
   have hst:=Td (bG (b.es.take i)++l.take k)
   have hnx:iK (bG (b.es.take i)++l.take (k+1))=ins (l.getD k ev0) (iK (bG (b.es.take i)++l.take k)):=by
    rw[List.take_succ_eq_append_getElem h3,←List.append_assoc,sG,List.getD,iy h3];rfl
   generalize iK (bG (b.es.take i)++l.take k)=m at *
   refine kD (aj:=zV l) (cuts:=[10]) ?_
   refine bD (fun ZT ZW ZQ _ _ ZR=>((((decide ((↑k:Int)<↑l.length))=true)→ZW [cd Tryz.f59 [1,1,0,1,0,0,1,0,0,1,1,0,0,1,0,0,1,0,0],(.blk 4),cd Tryz.f59 [1,1,0,1,0,0,1,0,0,1,1,0,0,1,0,0,1,1],(.blk 3),cd Tryz.f59 [1,1,0,1,0,0,1,0,0,1,1,0,0,1,1]] (aI ZT [0]) ZR)∧(((decide ((↑k:Int)<↑l.length))=false)→ZW [(.blk 1),cd Tryz.f59 [1,1,0,1,0,0,1,1]] (aI ZT [1]) ZQ))) (by kernel_rfl) ?_
   refine⟨fun _=>?_,fun hd=>absurd (of_decide_eq_false hd) (by omega)⟩
   refine bK.weaken (st':=TU b i m l k m.length) ?_ (aar b i m l k h3 hm1 hel hst fun j hj hins=>?_)
   ·exact AS.bJ (by kernel_rfl)
   refine gV (aj:=zV l) ?_
   refine bD (fun ZT _ _ _ ZA _=>(fun Za=>((((0≤(↑j:Int))∧((↑j:Int)≤↑m.length)∧((↑m.length:Int)≤↑m.length))∧(Za*96≤1099511627776)∧(0+((↑m.length:Int) - ↑j).toNat≤1099511627776))∧((((0:Int)≤(0:Int))∧(0≤(↑j:Int))∧((↑j:Int)≤↑m.length))∧(((0+((↑j:Int)-0).toNat)*96≤1099511627776)∧(0+((↑j:Int)-0).toNat≤1099511627776))∧((0≤(↑k:Int))∧((↑k:Int)<↑l.length))∧(((0+((↑j:Int)-0).toNat+1)*96≤1099511627776)∧(0+((↑j:Int)-0).toNat+1≤1099511627776))∧((0+((↑j:Int)-0).toNat+1+Za)*96≤1099511627776)∧(0+((↑j:Int)-0).toNat+1+Za≤1099511627776))∧(I64 (↑k+1))∧(ZA (aI ZT [])))) (0+((↑m.length:Int) - ↑j).toNat)) (by kernel_rfl) ?_
   try dsimp only
   rw[show ((m.length:Int)-(j:Int)).toNat=m.length-j by omega,show ((j:Int)-0).toNat=j by omega]
   refine⟨⟨⟨by omega,by omega,by omega⟩,by omega,by omega⟩,⟨⟨by omega,by omega,by omega⟩,⟨by omega,by omega⟩,⟨by omega,by omega⟩,⟨by omega,by omega⟩,by omega,by omega⟩,⟨by omega,by omega⟩,k+1,?_,h3,show l.length-(k+1)<l.length-k from by omega⟩
   show AS.dU _ (ZN b i (iK (bG (b.es.take i)++l.take (k+1))) l (k+1))
   rw[hnx,hins]
   have hlm:(m.take j++l.getD k ev0 :: m.drop j).length=j+1+(m.length-j):=by
    rw[List.length_append,List.length_cons,List.length_take,List.length_drop];omega
   refine(AS.dU.moves [(66,903)] _ rfl).trans ((AS.dU.of_le (st':=adt b i l (k+1) (Ub m (l.getD k ev0) j) (j+1+(m.length-j))) ?_).trans ((AS.dU.oq _ 3 903 (j+1+(m.length-j)) (dw (m.take j++l.getD k ev0 :: m.drop j)) rfl rfl rfl (by kernel_rfl) fun i hi=>Yv m _ hj hi).trans (.of_le ?_)))
   ·refine AS.leZ [1] [1] (b:=((T0∧((.vec 903 9 0 (0+((↑j:Int)-0).toNat+1+(0+((↑m.length:Int) - ↑j).toNat))):AV)=(.vec 903 9 0 (j+1+(m.length-j)))∧T0∧T0∧T0∧True)∧T0∧((some [(.arr bV 9 (fun i=>bif Nat.blt i (0+Int.toNat ((↑j:Int)-0)+1) then bif Nat.blt i (0+Int.toNat ((↑j:Int)-0)) then bif Nat.blt i 0 then DV.con undef else dw m (0+Int.toNat 0+(i-0)) else aY true 9 [di (Ev.kind (List.getD l (Int.toNat (↑k:Int)) ev0)),ds (Ky.st (Ev.k (List.getD l (Int.toNat (↑k:Int)) ev0))),ds (Ky.ex (Ev.k (List.getD l (Int.toNat (↑k:Int)) ev0))),di (Ky.n (Ev.k (List.getD l (Int.toNat (↑k:Int)) ev0))),di (Ev.t (List.getD l (Int.toNat (↑k:Int)) ev0)),di (Ev.v (List.getD l (Int.toNat (↑k:Int)) ev0)),di (Ev.h (List.getD l (Int.toNat (↑k:Int)) ev0)),ds (Ev.s (List.getD l (Int.toNat (↑k:Int)) ev0)),db (Ev.acc (List.getD l (Int.toNat (↑k:Int)) ev0))] (0+(i-(0+Int.toNat ((↑j:Int)-0)))) else bif Nat.blt (0+(i-(0+Int.toNat ((↑j:Int)-0)+1))) 0 then DV.con undef else dw m (0+Int.toNat (↑j:Int)+(0+(i-(0+Int.toNat ((↑j:Int)-0)+1))-0))))]):fO)=(some [(.arr bV 9 (Ub m (l.getD k ev0) j))])∧True)) (by kernel_rfl) (by kernel_rfl) ?_
    exact⟨⟨rfl,congrArg (AV.vec 903 9 0) (by omega),rfl,rfl,rfl,trivial⟩,rfl,rfl,trivial⟩
   ·refine AS.leZ [1] [] (b:=((T0∧((.vec 903 9 0 (j+1+(m.length-j))):AV)=(.vec 903 9 0 (List.take j m++l.getD k ev0 :: List.drop j m).length)∧T0∧T0∧T0∧True)∧T0∧T0∧True)) (by kernel_rfl) (by kernel_rfl) ?_
    exact⟨⟨rfl,congrArg (AV.vec 903 9 0) hlm.symm,rfl,rfl,rfl,trivial⟩,rfl,rfl,trivial⟩
  ·obtain rfl:k=l.length:=by omega
   rw[List.take_length,←hal]
   refine kD (aj:=zV l) (cuts:=[9]) ?_
   refine bD (fun ZT ZW ZQ _ _ ZR=>((((decide ((↑l.length:Int)<↑l.length))=true)→ZW [cd Tryz.f59 [1,1,0,1,0,0,1,0,0,1,1,0,0,1,0,0],(.blk 3),cd Tryz.f59 [1,1,0,1,0,0,1,0,0,1,1,0,0,1,1]] (aI ZT [0]) ZR)∧(((decide ((↑l.length:Int)<↑l.length))=false)→ZW [(.blk 1),cd Tryz.f59 [1,1,0,1,0,0,1,1]] (aI ZT [1]) ZQ))) (by kernel_rfl) ?_
   refine⟨fun hd=>absurd (dW hd) (by omega),fun _=>?_⟩
   refine gV (aj:=zV l) ?_
   refine bD (fun ZT _ _ _ ZA _=>((I64 (↑i+1))∧(ZA (aI ZT [])))) (by kernel_rfl) ?_
   have hlb:=hs.1
   refine⟨⟨by omega,by omega⟩,Again.mk (i+1) ?_ h2 (by omega)⟩
   exact AS.bJ (by kernel_rfl)
 ·obtain rfl:i=b.es.length:=by omega
  rw[List.take_length]
  refine kD (aj:=zV []) (cuts:=[5]) ?_
  refine bD (fun ZT ZW ZQ _ _ ZR=>((((decide ((↑b.es.length:Int)<↑b.es.length))=true)→ZW [cd Tryz.f59 [1,1,0,1,0,0,1,0,0],(.blk 1),cd Tryz.f59 [1,1,0,1,0,0,1,1]] (aI ZT [0]) ZR)∧(((decide ((↑b.es.length:Int)<↑b.es.length))=false)→ZW [cd Tryz.f59 [1,1,1]] (aI ZT [1]) ZQ))) (by kernel_rfl) ?_
  refine⟨fun hd=>absurd (dW hd) (by omega),fun _=>?_⟩
  refine gV (aj:=zV []) ?_
  refine aJ (fun _ _ _ _=>(((.slc 9 (iK (bG b.es)).length (fun i=>dw (iK (bG b.es)) (0+i))):DV)=(iO (aA b)))) (by kernel_rfl) ?_
  exact congrArg (DV.slc 9 _) (funext fun i=>by rw[Nat.zero_add];rfl)
abbrev DY:RK:=⟨false,9,false,none⟩
def ji (l:List ByteArray) (i:Nat):DV:=(l.map fun s=>ds s).getD i (.con undef)
def aaE (l:List ByteArray):DV:=.slc 1 l.length (ji l)
theorem BU (l:List ByteArray) (p:ByteArray):(fun i=>bif Nat.blt i l.length then ji l i else aY false 1 [ds p] (i-l.length))=ji (l++[p]):=by
 funext i
 cases h:Nat.blt i l.length with
 | true=>
  rw[Nat.blt_eq] at h
  simp only[cond_true,ji,List.map_append,List.getD_eq_getElem?_getD,List.getElem?_append_left (show i<(l.map fun s=>ds s).length by simpa using h)]
 | false=>
  have h:¬i<l.length:=by rw[←Nat.blt_eq,h];decide
  simp only[cond_false,ji,List.map_append,List.getD_eq_getElem?_getD,List.getElem?_append_right (show (l.map fun s=>ds s).length≤i by simpa using h),List.length_map]
  rfl
theorem Lr (ps:List ByteArray):(fun i=>ji ps (0+i))=ji ps:=by
 funext i;rw[Nat.zero_add]
theorem UJ (x:DV) (h:nI false 1 x=true):∀i:Nat,i<1→nI false 1 (aY false 1 [x] i)=true:=by
 intro i hi
 obtain rfl:i=0:=by omega
 exact h
def SC:iw:=fun f args=>match f,args with
 | 95,[.con (.string s),.con (.string _)]=>some (.aC [ds (gX s),ds (jy s),db (rD s)])
 | 96,[.con (.string s)]=>some (.aC [di (dJ s),db (uO s)])
 | _,_=>none
noncomputable def zu (X:List UInt8):DV:=match uM X with
 | none=>.aC [.con (.slice none 0 0),di 11]
 | some l=>.aC [aaE l,di 0]
noncomputable def S69 (x:List ByteArray×ByteArray):AS:=⟨regs Tryz.f69.ntmps [(0,vs x.2),(4,.vec 600 1 0 x.1.length)],[(600,[.arr DY 1 (ji x.1)])]⟩
theorem ac1 (hT:Tab G) (hE:Errs G) (d:ByteArray) (hd:d.size≤8000):au Tryz.prog G 69 [ds d] (zu d.data.toList):=by
 refine au.walk (aj:=SC) (keep:=[]) follows Tryz.func69 rfl Tryz.call69 ?_
 refine aJ (fun ZT ZW ZQ _=>((((decide ((↑d.size:Int)>30000))=true)→(((.aC [bY,(di 8)]):DV)=(zu d.data.toList)))∧(((decide ((↑d.size:Int)>30000))=false)→ZW [cd Tryz.f69 [1,1,1,0,0],(.blk 0),cd Tryz.f69 [1,1,1,1]] (aI ZT [1]) ZQ))) (by kernel_rfl) ?_
 refine⟨fun h=>?_,fun _=>?_⟩
 ·simp at h;omega
 refine bK.pre (.nilRow _ 4 600 1 DY (ji []) (by kernel_rfl) (by kernel_rfl)) ?_
 refine bK.loop (c:=aU (ak Tryz.f69) [1,1,1,0,0,0]) (by kernel_rfl) S69 (fun x=>d.data.toList=aT x.1++x.2.data.toList) (fun x=>x.2.size) ([],d) ?_ rfl ?_
 ·exact AS.bJ (by kernel_rfl)
 ·rintro ⟨l0,s⟩ hI
  refine dI (aj:=SC) ?_
  refine bD (fun ZT ZW ZQ ZK ZA _=>(fun Za=>((((!s.toList==(ByteArray.mk #[]).toList)=true)→(ZK 95 [(ds s),(ds (ByteArray.mk #[58]))] (.aC [(ds (gX s)),(ds (jy s)),(db (rD s))])∧ZK 96 [(ds (gX s))] (.aC [(di (dJ (gX s))),(db (uO (gX s)))])∧((Za=true)→(((.aC [bY,(di 11)]):DV)=(zu d.data.toList)))∧((Za=false)→(((((0:Int)≤(0:Int))∧(0≤dJ (gX s))∧(dJ (gX s)≤↑(jy s).size))∧(((l0.length+1)*16≤1099511627776)∧(l0.length+1≤1099511627776))∧(∀(i:Nat),i<1→nI false 1 (aY false 1 [ds ((jy s).extract (Int.toNat 0) (dJ (gX s)).toNat)] i)=true))∧((0≤dJ (gX s))∧(dJ (gX s)≤↑(jy s).size)∧((↑(jy s).size:Int)≤↑(jy s).size))∧(ZA (aI ZT [0,1]))))))∧(((!s.toList==(ByteArray.mk #[]).toList)=false)→ZW [cd Tryz.f69 [1,1,1,1]] (aI ZT [1]) ZQ))) (!rD s||!uO (gX s)||decide (dJ (gX s)>(↑(jy s).size:Int))||(↑l0.length:Int)==4096)) (by kernel_rfl) ?_
  try dsimp only
  have hI:d.data.toList=aT l0++s.data.toList:=hI
  have hlen:=congrArg List.length hI
  rw[dZ,List.length_append,dZ] at hlen
  have hcnt:=rV l0
  have hcut:gX s=gX s:=rfl
  have hnn:((l0.length:Int)==4096)=false:=by rw[beq_eq_false_iff_ne];omega
  have hcond:(!rD s||!uO (gX s)||decide (dJ (gX s)>(((jy s).size:Nat):Int))||(l0.length:Int)==4096) = !Dx s:=by
   rw[hnn,Bool.or_false]
   unfold Dx
   rw[Bool.not_and,Bool.not_and]
   congr 1
   rw[Bool.eq_iff_iff]
   simp
  refine⟨fun h=>?_,fun h=>?_⟩
  ·have h0:s.data.toList≠[]:=by
    intro e
    have:s={ data:=#[] }:=by rw[←oK s,e];rfl
    rw[this] at h
    simp at h
   have hcs:(gX s).size≤1000000:=by
    unfold gX
    split
    ·rw[ByteArray.size_extract];omega
    ·omega
   refine⟨f95 s (by omega),f96 hT hE _ hcs,fun h2=>?_,fun h2=>?_⟩
   ·rw[hcond] at h2
    have h2:Dx s=false:=by simpa using h2
    have hu:uM d.data.toList=none:=by
     rw[hI]
     exact Po (by rw[List.length_append,dZ];omega) h0 (YF (by omega) h2)
    unfold zu
    rw[hu]
   ·rw[hcond] at h2
    have h2:Dx s=true:=by simpa using h2
    obtain ⟨hn1,hn2⟩:=abQ h2
    have hf:=ML h2
    have hr:=V9 h2
    refine⟨⟨⟨by omega,by omega,by omega⟩,⟨by omega,by omega⟩,UJ _ rfl⟩,⟨by omega,by omega,by omega⟩,Again.Rf [(48,600)] rfl (l0++[qp s],vZ s) ?_ ?_ hr⟩
    ·refine AS.leZ [0,1] [0] (b:=((((vs ((jy s).extract (dJ (gX s)).toNat ((↑(jy s).size:Int)).toNat)):AV)=(vs (vZ s))∧((.vec 600 1 0 (l0.length+1)):AV)=(.vec 600 1 0 (l0++[qp s]).length)∧True)∧((some [(.arr ⟨false,9,false,none⟩ 1 (fun i=>bif i.blt l0.length then ji l0 i else aY false 1 [ds ((jy s).extract (Int.toNat 0) (dJ (gX s)).toNat)] (i-l0.length)))]):fO)=(some [(.arr ⟨false,9,false,none⟩ 1 (ji (l0++[qp s])))])∧True)) (by kernel_rfl) (by kernel_rfl) ?_
     refine⟨⟨?_,?_,trivial⟩,?_,trivial⟩
     ·unfold vZ;rw[gZ]
     ·rw[List.length_append];rfl
     ·rw[BU]
      unfold qp;rfl
    ·show d.data.toList=aT (l0++[qp s])++(vZ s).data.toList
     rw[hI,wG,aT,aT,List.append_nil,List.append_assoc,←hf]
  ·have hs0:s.data.toList=[]:=by
    have:s={ data:=#[] }:=by
     rw[Bool.not_eq_false',beq_iff_eq,toList_inj] at h
     exact h
    rw[this]
   rw[hs0,List.append_nil] at hI
   have hu:uM d.data.toList=some l0:=by
    rw[hI]
    exact Hy (by rw[←hI,dZ];omega)
   refine dI (aj:=SC) ?_
   refine aJ (fun _ _ _ _=>(((.aC [(.slc 1 l0.length (fun i=>ji l0 (0+i))),(di 0)]):DV)=(zu d.data.toList))) (by kernel_rfl) ?_
   unfold zu
   rw[hu]
   simp only[Lr]
   rfl
theorem zy (l:List ByteArray) {h:IH} {v:Value} (hr:(aaE l).rel h v):(lZ l).rel h v:=by
 refine DV.gK (fun i hi=>?_) hr
 unfold nJ
 rw[tN hi]
 simp[ji,hi]
noncomputable def aW (X:List UInt8):List ByteArray:=(uM X).getD []
noncomputable def kJ (X:List UInt8):Int:=if (uM X).isSome then 0 else 11
theorem f69 (hT:Tab G) (hE:Errs G) (d:ByteArray) (hd:d.size≤8000):au Tryz.prog G 69 [ds d] (.aC [lZ (aW d.data.toList),di (kJ d.data.toList)]):=by
 refine au.imp (ac1 hT hE d hd) fun k v hv=>?_
 unfold zu at hv
 unfold aW kJ
 cases hu:uM d.data.toList with
 | some l=>
  rw[hu] at hv
  obtain ⟨vs,e,x0,u0,e0,h0,rest⟩:=hv
  exact⟨vs,e,x0,u0,e0,zy l h0,rest⟩
 | none=>
  rw[hu] at hv
  obtain ⟨vs,e,x0,u0,e0,h0,rest⟩:=hv
  refine⟨vs,e,x0,u0,e0,?_,rest⟩
  have h0:x0=.slice none 0 0:=h0
  subst h0
  exact⟨none,0,rfl,Nat.le_refl _,.inl rfl⟩
theorem YM (s:ByteArray) (n:Int) (w:World) (h:Calls Tryz.prog 71 #[.string s] w fun e w'=>∃p,e=.returned (.tuple #[.int .i64 n,.iface 143 p])∧Below w.heap.size w w') :
  Calls Tryz.prog 70 #[.string s] w fun e w'=>e=.returned (.int .i64 n)∧Below w.heap.size w w':=by
 go_enter Tryz.func70,Tryz.ntmps70
 go_wp2_with (go_at_call 71;refine h.mono ?_;rintro e w' ⟨p,rfl,hb⟩)
 go_ret
 exact⟨rfl,hb⟩
theorem RY (s:ByteArray) (n:Int) (h:∀w,G.holds w→Calls Tryz.prog 71 #[.string s] w fun e w'=>∃p,e=.returned (.tuple #[.int .i64 n,.iface 143 p])∧Below w.heap.size w w'):au Tryz.prog G 70 [ds s] (di n):=
 au.yY (args:=[.string s]) (v:=.int .i64 n) Tryz.call70 fun w hw=>YM s n w (h w hw)
theorem f70 (hE:Errs G) (s:ByteArray) (hs:s.size≤1000000):au Tryz.prog G 70 [ds s] (di (dJ s)):=by
 unfold dJ
 rcases h:Lib.atoiAll s.data.toList with v|_|_
 rotate_left
 ·refine RY s 0 fun w hw=>?_
  obtain ⟨⟨te,pe,h2⟩,_⟩:=hE w hw
  refine(Tryz.strconv_Atoi_syntax s (by omega) h (.iface te pe) w h2 (.inr ⟨te,pe,rfl⟩)).mono ?_
  rintro e w' ⟨N,rfl,_,_,hb⟩
  exact⟨_,rfl,hb⟩
 ·refine RY s _ fun w hw=>?_
  obtain ⟨_,te,pe,h2⟩:=hE w hw
  refine(Tryz.strconv_Atoi_range s (by omega) h (.iface te pe) w h2 (.inr ⟨te,pe,rfl⟩)).mono ?_
  rintro e w' ⟨N,rfl,_,_,hb⟩
  exact⟨_,rfl,hb⟩
 ·refine au.walk (aj:=Yd v) (keep:=[]) follows Tryz.func70 rfl Tryz.call70 ?_
  refine aJ (fun _ _ _ ZK=>(ZK 71 [(ds s)] (.aC [(di v),(.con .nilIface)])∧(ZS ((di (match Lib.NumEnd.ok v with|Lib.NumEnd.ok v=>v|Lib.NumEnd.range=>Lib.atoiSat s.data.toList|x=>0)):DV)))) (by kernel_rfl) ?_
  exact⟨UM s hs v h,rfl⟩
def sJ (l:List ByteArray):Ev:=⟨dJ (bn l 0),⟨bn l 1,bn l 2,dJ (bn l 3)⟩,dJ (bn l 4),dJ (bn l 5),dJ (bn l 6),bn l 7,decide (bn l 8=⟨#[49]⟩)⟩
noncomputable def fF (d:ByteArray):Bool:=decide (kJ d.data.toList=0)&&(decide ((aW d.data.toList).length=9)&&(decide (gI (sJ (aW d.data.toList))=0)&&decide (encS (sJ (aW d.data.toList))=d)))
noncomputable def aX (d:ByteArray):Ev:=if fF d=true then sJ (aW d.data.toList) else ev0
noncomputable def jQ (d:ByteArray):Int:=if fF d=true then 0 else 11
noncomputable def aa7 (L:List ByteArray) (c:Int) (S:ByteArray) (E:Int):iw:=fun f a=>match f,a with
 | 69,_=>some (.aC [lZ L,di c])
 | 70,[.con (.string s)]=>some (di (dJ s))
 | 38,_=>some (.aC [ds S,di E])
 | _,_=>none
theorem CQ {X:List UInt8} (hX:X.length≤8000):∀i,(bn (aW X) i).size≤8000:=by
 intro i
 unfold aW
 cases hu:uM X with
 | none=>exact Nat.zero_le _
 | some l=>
  show (bn l i).size≤8000
  by_cases hi:i<l.length
  ·rw[tN hi]
   have:=Ah l _ (List.getElem_mem hi)
   rw[Iy hu] at this
   omega
  ·unfold bn
   rw[List.getD,List.getElem?_eq_none (by omega)]
   exact Nat.zero_le _
theorem f40 (hT:Tab G) (hE:Errs G) (d:ByteArray) (hd:d.size≤8000):au Tryz.prog G 40 [ds d] (.aC [fQ (aX d),di (jQ d)]):=by
 have h69:=f69 (G:=G) hT hE d hd
 have hsm:=CQ (X:=d.data.toList) (by rw[dZ];exact hd)
 have hD:fF d=(decide (kJ d.data.toList=0)&&(decide ((aW d.data.toList).length=9)&&(decide (gI (sJ (aW d.data.toList))=0)&&decide (encS (sJ (aW d.data.toList))=d)))):=rfl
 have hV:aX d=if fF d=true then sJ (aW d.data.toList) else ev0:=rfl
 have hC:jQ d=if fF d=true then 0 else 11:=rfl
 have h38:=f38 (G:=G) hT (sJ (aW d.data.toList)) (by have:=hsm 1;show (bn _ 1).size≤_;omega) (by have:=hsm 2;show (bn _ 2).size≤_;omega)
 generalize aW d.data.toList=L at *
 generalize kJ d.data.toList=c at *
 have hev:sJ L=⟨dJ (bn L 0),⟨bn L 1,bn L 2,dJ (bn L 3)⟩,dJ (bn L 4),dJ (bn L 5),dJ (bn L 6),bn L 7,decide (bn L 8=⟨#[49]⟩)⟩:=rfl
 generalize hSd:encS (sJ L)=S at *
 generalize hEd:gI (sJ L)=E at *
 refine au.eG Tryz.func40 rfl Tryz.call40 ?_
 refine gV (aj:={ d:=aa7 L c S E }) ?_
 refine aJ (fun _ _ _ ZK=>(fun Za Zb Zc=>(ZK 69 [(ds d)] (.aC [(.slc 1 L.length (nJ L)),(di c)])∧(((c != 0||(↑L.length:Int) != 9)=true)→(Zb=Zc))∧(((c != 0||(↑L.length:Int) != 9)=false)→(((((0:Int)≤(0:Int))∧(0<(↑L.length:Int)))∧ZK 70 [(ds (bn L (Int.toNat 0)))] (di (dJ (bn L (Int.toNat 0))))∧(((0:Int)≤(1:Int))∧(1<(↑L.length:Int)))∧(((0:Int)≤(2:Int))∧(2<(↑L.length:Int)))∧(((0:Int)≤(3:Int))∧(3<(↑L.length:Int)))∧ZK 70 [(ds (bn L (Int.toNat 3)))] (di (dJ (bn L (Int.toNat 3))))∧(((0:Int)≤(4:Int))∧(4<(↑L.length:Int)))∧ZK 70 [(ds (bn L (Int.toNat 4)))] (di (dJ (bn L (Int.toNat 4))))∧(((0:Int)≤(5:Int))∧(5<(↑L.length:Int)))∧ZK 70 [(ds (bn L (Int.toNat 5)))] (di (dJ (bn L (Int.toNat 5))))∧(((0:Int)≤(6:Int))∧(6<(↑L.length:Int)))∧ZK 70 [(ds (bn L (Int.toNat 6)))] (di (dJ (bn L (Int.toNat 6))))∧(((0:Int)≤(7:Int))∧(7<(↑L.length:Int)))∧((0:Int)≤(8:Int))∧(8<(↑L.length:Int)))∧ZK 38 [Za] (.aC [(ds S),(di E)])∧(((E != 0||!S.toList==d.toList)=true)→(Zb=Zc))∧(((E != 0||!S.toList==d.toList)=false)→(((.aC [Za,(di 0)]):DV)=Zc)))))) ((.agg [(di (dJ (bn L (Int.toNat 0)))),(ds (bn L (Int.toNat 1))),(ds (bn L (Int.toNat 2))),(di (dJ (bn L (Int.toNat 3)))),(di (dJ (bn L (Int.toNat 4)))),(di (dJ (bn L (Int.toNat 5)))),(di (dJ (bn L (Int.toNat 6)))),(ds (bn L (Int.toNat 7))),(db ((bn L (Int.toNat 8)).toList==(ByteArray.mk #[49]).toList))]):DV) ((.aC [(.agg [(di 0),(ds (ByteArray.mk #[])),(ds (ByteArray.mk #[])),(di 0),(di 0),(di 0),(di 0),(ds (ByteArray.mk #[])),(db false)]),(di 11)]):DV) ((.aC [(fQ (aX d)),(di (jQ d))]):DV)) (by kernel_rfl) ?_
 try dsimp only
 simp only[dO]
 have ht:Int.toNat (0:Int)=0∧Int.toNat (1:Int)=1∧Int.toNat (2:Int)=2∧Int.toNat (3:Int)=3∧Int.toNat (4:Int)=4∧Int.toNat (5:Int)=5∧Int.toNat (6:Int)=6∧Int.toNat (7:Int)=7∧Int.toNat (8:Int)=8:=⟨rfl,rfl,rfl,rfl,rfl,rfl,rfl,rfl,rfl⟩
 obtain ⟨t0,t1,t2,t3,t4,t5,t6,t7,t8⟩:=ht
 rw[t0,t1,t2,t3,t4,t5,t6,t7,t8]
 have Vp:∀i,au Tryz.prog G 70 [ds (bn L i)] (di (dJ (bn L i))):=fun i=>f70 hE _ (by have:=hsm i;omega)
 refine⟨h69,fun q=>?_,fun q=>?_⟩
 ·have hf:fF d=false:=by
   rw[hD]
   rw[Bool.or_eq_true] at q
   rcases q with q|q
   ·have q:c≠0:=by simpa using q
    rw[decide_eq_false q];rfl
   ·have q:L.length≠9:=by
     intro e;rw[e] at q;exact absurd q (by decide)
    rw[decide_eq_false q,Bool.false_and,Bool.and_false]
  rw[hV,hC,hf];rfl
 ·have hc0:c=0∧L.length=9:=by
   rw[Bool.or_eq_false_iff] at q
   have q1:c=0:=by simpa using q.1
   have q2:(L.length:Int)=9:=by simpa using q.2
   exact⟨q1,by omega⟩
  obtain ⟨c0,l9⟩:=hc0
  rw[l9,decide_eq_true c0,Bool.true_and] at hD
  refine⟨⟨⟨by decide,by omega⟩,Vp 0,⟨by decide,by omega⟩,⟨by decide,by omega⟩,⟨by decide,by omega⟩,Vp 3,⟨by decide,by omega⟩,Vp 4,⟨by decide,by omega⟩,Vp 5,⟨by decide,by omega⟩,Vp 6,⟨by decide,by omega⟩,by decide,by omega⟩,h38,fun q=>?_,fun q=>?_⟩
  ·have hf:fF d=false:=by
    rw[hD]
    rw[Bool.or_eq_true] at q
    rcases q with q|q
    ·have q:E≠0:=by simpa using q
     rw[decide_eq_false q];rfl
    ·have q:S≠d:=by simpa using q
     rw[decide_eq_false q,Bool.and_false,Bool.and_false]
   rw[hV,hC,hf];rfl
  ·have ht:fF d=true:=by
    rw[hD]
    rw[Bool.or_eq_false_iff] at q
    have q1:E=0:=by simpa using q.1
    have q2:S=d:=by simpa using q.2
    rw[decide_eq_true q1,decide_eq_true q2];rfl
   rw[hV,hC,ht];rfl
theorem yP {e:Ev} (h:aS e=true):gI e=0∧encS e=bs (aT (gW e))∧(aT (gW e)).length≤5000:=by
 obtain ⟨b1,b2,b3,b4,b5,b6⟩:=JZ h
 obtain ⟨s1,s2⟩:=yw h
 have q1:=iR _ b1
 have q2:=iR _ b2
 have q3:=iR _ b3
 have q4:=iR _ b4
 have q5:=iR _ b5
 have hf:∀f:ByteArray,f.size≤100000→(dn f).length≤22+f.size:=fun f hf=>by
  rw[jf]
  have:=iR (f.size:Int) ⟨by omega,by omega⟩
  omega
 have hacc:(bif e.acc then (⟨#[49]⟩:ByteArray) else ⟨#[48]⟩).size=1:=by cases e.acc<;>rfl
 have hl:(aT (gW e)).length≤5000:=by
  have r1:=hf (bs (Lib.itoa e.kind)) (by rw[dR];omega)
  have r2:=hf e.k.st (by omega)
  have r3:=hf e.k.ex (by omega)
  have r4:=hf (bs (Lib.itoa e.k.n)) (by rw[dR];omega)
  have r5:=hf (bs (Lib.itoa e.t)) (by rw[dR];omega)
  have r6:=hf (bs (Lib.itoa e.v)) (by rw[dR];omega)
  have r7:=hf (bs (Lib.itoa e.h)) (by rw[dR];omega)
  have r8:=hf e.s (by omega)
  have r9:=hf (bif e.acc then ⟨#[49]⟩ else ⟨#[48]⟩) (by rw[hacc];omega)
  rw[hacc] at r9
  rw[dR] at r1 r4 r5 r6 r7
  unfold gW
  simp only[aT,List.length_append,List.length_nil]
  omega
 have hb:jq (gW e)=false:=by
  unfold jq
  rw[Bool.or_eq_false_iff]
  exact⟨decide_eq_false (by simp[gW]),decide_eq_false (by omega)⟩
 unfold gI encS fU fV
 rw[h,hb]
 exact⟨rfl,rfl,hl⟩
def eX (b:Bk):List ByteArray:=(aA b).map encS
def iG (b:Bk):ByteArray:=if dh aS b=true then fV (eX b) else .empty
def gB (b:Bk):Int:=if dh aS b=true then fU (eX b) else 1
noncomputable def adn (b:Bk):AS:=⟨regs Tryz.f30.ntmps [(1,.box 1 0),(2,vs ⟨#[]⟩),(3,vi 0),(4,.d (.con (.slice none 0 0))),(13,.d (iO (aA b))),(14,vi (aA b).length),(15,vi 0)],[(1,(iD b).map .d)]⟩
noncomputable def S30 (b:Bk) (j:Nat) (l:List ByteArray):AS:=⟨regs Tryz.f30.ntmps [(1,.box 1 0),(2,vs ⟨#[]⟩),(3,vi 0),(4,.vec 904 1 0 l.length),(13,.d (iO (aA b))),(14,vi (aA b).length),(15,vi j)],[(1,(iD b).map .d),(904,[.arr DY 1 (ji l)])]⟩
def ZP (b:Bk) (S:ByteArray) (E:Int) (l:List ByteArray):iw:=fun f _=>match f with
 | 32=>some (db (dh aS b))
 | 53=>some (iO (aA b))
 | 38=>some (.aC [ds S,di E])
 | 58=>some (.aC [ds (fV l),di (fU l)])
 | _=>none
def Ny (b:Bk) (S:ByteArray) (E:Int) (l:List ByteArray):eU:={ d:=ZP b S E l,rows:=fun n=>Nat.beq n 29 }
theorem Js {b:Bk} {j:Nat} (h:j<(aA b).length):(eX b).take (j+1)=(eX b).take j++[encS ((aA b).getD j ev0)]:=by
 unfold eX
 rw[←List.map_take,←List.map_take,List.take_succ_eq_append_getElem h,List.map_append,List.getD,iy h]
 rfl
theorem f30 (hT:Tab G) (b:Bk) (h:LH b):au Tryz.prog G 30 [eY b] (.aC [ds (iG b),di (gB b)]):=by
 refine au.eG Tryz.func30 rfl Tryz.call30 ?_
 refine kD (aj:=Ny b .empty 0 []) (cuts:=[5]) ?_
 refine aJ (fun ZT ZW ZQ ZK=>(ZK 32 [(.agg [(di b.t),(.slc 7 b.es.length (dM b.es))])] (db (dh aS b))∧(((!dh aS b)=true)→(((.aC [(ds (ByteArray.mk #[])),(di 1)]):DV)=(.aC [(ds (iG b)),(di (gB b))])))∧(((!dh aS b)=false)→(ZK 53 [(.agg [(di b.t),(.slc 7 b.es.length (dM b.es))])] (.slc 9 (aA b).length (dw (aA b)))∧ZW [cd Tryz.f30 [1,1,1,0,1,0],(.blk 0),cd Tryz.f30 [1,1,1,1]] (aI ZT [1]) ZQ)))) (by kernel_rfl) ?_
 refine⟨h.f32,fun c=>?_,fun c=>⟨f53 b h.sz h.all,?_⟩⟩
 ·have c:dh aS b=false:=by simpa using c
  unfold iG gB
  rw[c];rfl
 have c:dh aS b=true:=by simpa using c
 have hl:=h.evs
 have hok:∀j,j<(aA b).length→aS ((aA b).getD j ev0)=true:=fun j hj=>by
  refine val_ok c _ ((pF _).1 ?_)
  rw[List.getD,iy hj]
  exact List.getElem_mem hj
 have hall:=KL c
 have hel:(aA b).length≤12544:=by unfold aA;rw[xQ];exact hall
 have hsm:rQ (eX b):=by
  refine⟨by unfold eX;rw[List.length_map];omega,fun f hf=>?_⟩
  obtain ⟨e,he,rfl⟩:=List.mem_map.1 hf
  obtain ⟨_,q1,q2⟩:=yP (val_ok c e ((pF _).1 he))
  rw[q1,dR];omega
 unfold iG gB
 rw[if_pos c,if_pos c]
 refine bK.weaken (st':=adn b) ?_ ?_
 ·exact AS.bJ (by kernel_rfl)
 refine bK.pre (.nilRow _ 4 904 1 DY (ji []) (by kernel_rfl) (by kernel_rfl)) ?_
 refine bK.loop (c:=aU (ak Tryz.f30) [1,1,1,0,1,0,0]) (by kernel_rfl) (fun j=>S30 b j ((eX b).take j)) (fun j=>j≤(aA b).length) (fun j=>(aA b).length-j) 0 ?_ (Nat.zero_le _) ?_
 ·refine AS.leZ [] [1] (b:=((T0∧T0∧T0∧T0∧T0∧T0∧T0∧True)∧T0∧((some [(.arr ⟨false,9,false,none⟩ 1 (ji []))]):fO)=(some [(.arr ⟨false,9,false,none⟩ 1 (ji (List.take 0 (eX b))))])∧True)) (by kernel_rfl) (by kernel_rfl) ?_
  exact⟨⟨rfl,rfl,rfl,rfl,rfl,rfl,rfl,trivial⟩,rfl,rfl,trivial⟩
 intro j hj
 by_cases h2:j<(aA b).length
 ·have hok:=hok j h2
  obtain ⟨e0,_,_⟩:=yP hok
  obtain ⟨z1,z2⟩:=yw hok
  have h38:=f38 (G:=G) hT ((aA b).getD j ev0) (by omega) (by omega)
  rw[e0] at h38
  have htk:(eX b).take (j+1)=(eX b).take j++[encS ((aA b).getD j ev0)]:=Js h2
  have htl:((eX b).take j).length≤12544:=by rw[List.length_take];omega
  generalize hLd:(eX b).take j=L at htl htk⊢
  refine gV (aj:=Ny b (encS ((aA b).getD j ev0)) 0 []) ?_
  refine bD (fun ZT ZW ZQ ZK ZA _=>(fun Za=>((((decide ((↑j:Int)<↑(aA b).length))=true)→(((0≤(↑j:Int))∧((↑j:Int)<↑(aA b).length))∧ZK 38 [(.agg [(di Za.kind),(ds Za.k.st),(ds Za.k.ex),(di Za.k.n),(di Za.t),(di Za.v),(di Za.h),(ds Za.s),(db Za.acc)])] (.aC [(ds (encS ((aA b).getD j ev0))),(di 0)])∧((false=true)→(((.aC [(ds (ByteArray.mk #[])),(di 0)]):DV)=(.aC [(ds (fV (eX b))),(di (fU (eX b)))])))∧((false=false)→((((L.length+1)*16≤1099511627776)∧(L.length+1≤1099511627776))∧(I64 (↑j+1))∧(ZA (aI ZT [0,1]))))))∧(((decide ((↑j:Int)<↑(aA b).length))=false)→ZW [cd Tryz.f30 [1,1,1,1]] (aI ZT [1]) ZQ))) ((aA b).getD (↑j:Int).toNat ev0)) (by kernel_rfl) ?_
  try dsimp only
  rw[show ((j:Int)).toNat=j from rfl]
  refine⟨fun _=>⟨⟨by omega,by omega⟩,h38,fun q=>(by cases q),fun _=>⟨⟨by omega,by omega⟩,⟨by omega,by omega⟩,Again.Rf [(30,904)] rfl (j+1) ?_ h2 (by omega)⟩⟩,fun hd=>absurd (of_decide_eq_false hd) (by omega)⟩
  refine AS.leZ [3] [1] (b:=((T0∧T0∧T0∧((.vec 904 1 0 (L.length+1)):AV)=(.vec 904 1 0 (List.take (j+1) (eX b)).length)∧T0∧T0∧T0∧True)∧T0∧((some [(.arr ⟨false,9,false,none⟩ 1 (fun i=>bif i.blt L.length then ji L i else aY false 1 [ds (encS ((aA b).getD j ev0))] (0+(i-L.length))))]):fO)=(some [(.arr ⟨false,9,false,none⟩ 1 (ji (List.take (j+1) (eX b))))])∧True)) (by kernel_rfl) (by kernel_rfl) ?_
  rw[htk]
  refine⟨⟨rfl,rfl,rfl,?_,rfl,rfl,rfl,trivial⟩,rfl,?_,trivial⟩
  ·rw[List.length_append];rfl
  ·simp only[Nat.zero_add]
   rw[BU]
 ·obtain rfl:j=(aA b).length:=by omega
  rw[List.take_of_length_le (by unfold eX;rw[List.length_map];exact Nat.le_refl _)]
  refine kD (aj:=Ny b .empty 0 []) (cuts:=[6]) ?_
  refine bD (fun ZT ZW ZQ _ _ ZR=>((((decide ((↑(aA b).length:Int)<↑(aA b).length))=true)→ZW [cd Tryz.f30 [1,1,1,0,1,0,0,1,1,0,0],(.blk 1),cd Tryz.f30 [1,1,1,0,1,0,0,1,1,1]] (aI ZT [0]) ZR)∧(((decide ((↑(aA b).length:Int)<↑(aA b).length))=false)→ZW [cd Tryz.f30 [1,1,1,1]] (aI ZT [1]) ZQ))) (by kernel_rfl) ?_
  refine⟨fun hd=>absurd (dW hd) (by omega),fun _=>?_⟩
  refine gV (aj:=Ny b .empty 0 (eX b)) ?_
  refine aJ (fun _ _ _ ZK=>(ZK 58 [(.slc 1 (eX b).length (fun i=>ji (eX b) (0+i)))] (.aC [(ds (fV (eX b))),(di (fU (eX b)))])∧(ZS ((.aC [(ds (fV (eX b))),(di (fU (eX b)))]):DV)))) (by kernel_rfl) ?_
  exact⟨au.args (f58 hT (eX b) hsm) fun _ us hh=>DV.jJ (fun _ hv=>zy _ (DV.gK (fun i _=>by rw[Nat.zero_add]) hv)) (fun _ h=>h) us hh,rfl⟩
end Go.Proofs
namespace Go.Proofs
open Go Go.Ab Go.RowKit
variable {G:IH} {w:World}
noncomputable def nV:List ByteArray→Bk→Option Bk
 | [],b=>some b
 | s :: l,b=>if fF s=true∧cZ b (aX s)=0 then nV l (fK b (aX s)) else none
theorem xH {s:ByteArray} (h:fF s=true):aS (aX s)=true:=by
 unfold aX
 rw[if_pos h]
 unfold fF at h
 simp only[aV,eF] at h
 obtain ⟨_,_,h,_⟩:=h
 unfold gI at h
 cases c:aS (sJ (aW s.data.toList)) with
 | true=>rfl
 | false=>rw[c] at h;cases h
noncomputable def qY (D:ByteArray):Bool:=decide (kJ D.data.toList=0)&&(match nV (aW D.data.toList) eP with|some b=>decide (gB b=0)&&decide (iG b=D)|none=>false)
noncomputable def nX (D:ByteArray):Bk:=if qY D=true then (nV (aW D.data.toList) eP).getD eP else eP
noncomputable def qW (D:ByteArray):Int:=if qY D=true then 0 else 11
noncomputable def y8 (D:ByteArray) (L:List ByteArray) (p:Value) (j:Nat):AS:=⟨regs Tryz.f42.ntmps [(0,vs D),(2,.box 2 0),(3,vi 0),(6,.d (.con p)),(23,.d (lZ L)),(24,vi L.length),(25,vi j)],[(2,[.d (di 0),.d (.con (.slice none 0 0))])]⟩
def Eb (D:ByteArray) (w:World) (h:IH) (v:Value) (w':World):Prop:=∃u k,v=.tuple #[u,.int .i64 (qW D)]∧DV.rel k (eY (nX D)) u∧h.le k∧k.holds w'∧Kept (fun _=>False) w w'∧∀c,c<w.heap.size→(∀o,k.cell c o=h.cell c o)∧k.obj c=h.obj c
structure Di (L:List ByteArray) (w0:World) (h0:IH) (j:Nat) (hh:IH) (on:Nat→Prop) (β1 β:Nat→Nat) (V:Nat→Option Addr×Nat) (bj:Bk) (w:World):Prop where
 le:j≤L.length
 book:bP hh β V bj w
 apart:∀c,on c→w0.heap.size≤c∧¬gy β bj.es.length c
 new:∀c,gy β bj.es.length c→w0.heap.size≤c
 kept:Kept (fun _=>False) w0 w
 run:nV (L.drop j) bj=nV L eP
 good:Good bj
 bnd:qX bj.es
 val:dh aS bj=true
 ext:h0.le hh
 old:∀c,c<w0.heap.size→(∀o,hh.cell c o=h0.cell c o)∧hh.obj c=h0.obj c
def abe (L:List ByteArray) (c:Int) (e:Ev) (code:Int) (S:ByteArray) (E:Int):iw:=fun f _=>match f with
 | 69=>some (.aC [lZ L,di c])
 | 40=>some (.aC [fQ e,di code])
 | 30=>some (.aC [ds S,di E])
 | _=>none
def NQ (L:List ByteArray) (c:Int) (e:Ev) (code:Int) (S:ByteArray) (E:Int):eU:={ d:=abe L c e code S E }
noncomputable def OX (D:ByteArray) (L:List ByteArray):AS:=⟨regs Tryz.f42.ntmps [(0,vs D),(2,.box 2 0),(3,vi 0),(6,.box 22 0),(23,.d (lZ L)),(24,vi L.length),(25,vi 0)],[(22,[.d (di 0),.d (.con (.slice none 0 0))]),(2,[.d (di 0),.d (.con (.slice none 0 0))])]⟩
theorem aac {D:ByteArray} (h:nV (aW D.data.toList) eP=none):qY D=false:=by
 unfold qY
 rw[h,Bool.and_false]
theorem YO {D:ByteArray} {b:Bk} (h0:kJ D.data.toList=0) (h:nV (aW D.data.toList) eP=some b):qY D=(decide (gB b=0)&&decide (iG b=D)):=by
 unfold qY
 rw[h,decide_eq_true h0,Bool.true_and]
def adY (b:Bk):Nat→Option AV
 | 45=>some (.d (.ptr (iD b)))
 | 60=>some (.d (.ptr (iD b)))
 | _=>none
theorem Wn {k:IH} {v:Value} (h:DV.rel k (.agg [di 0,.con (.slice none 0 0)]) v):DV.rel k (eY eP) v:=by
 obtain ⟨vs,rfl,v0,vs1,rfl,r0,v1,vs2,rfl,r1,r2⟩:=h
 exact⟨_,rfl,_,_,rfl,r0,_,_,rfl,⟨none,0,r1,Nat.le_refl _,.inl rfl⟩,r2⟩
theorem yN {a b:IH} {w:World} (h:a.le b) (hw:b.holds w):a.holds w:=⟨fun x o v e=>hw.1 x o v (h.1 x o v e),fun x o e=>hw.2 x o (h.2 x o e)⟩
theorem BZ {D:ByteArray} {w0 w:World} {h0 hh:IH} {on:Nat→Prop} {β1:Nat→Nat} (hD:qY D=false) (hon:∀c,on c→w0.heap.size≤c) (hk:Kept (fun _=>False) w0 w) (hext:h0.le hh) (hold:∀c,c<w0.heap.size→(∀o,hh.cell c o=h0.cell c o)∧hh.obj c=h0.obj c) {st:AS} (hr:iP Tryz.prog st Tryz.f42.results.toList=some [.d (.agg [di 0,.con (.slice none 0 0)]),.d (di 11)]):aK hh ⟨on,β1⟩ w hh (aO Tryz.prog Tryz.f42 (Eb D w0 h0)) .ret st:=by
 refine qy rfl hr fun β3 k3 tm w3 v u g3 hv hu=>?_
 have hu:u=.int .i64 11:=hu
 subst hu
 have e1:nX D=eP:=by unfold nX;rw[hD];rfl
 have e2:qW D=11:=by unfold qW;rw[hD];rfl
 refine⟨v,k3,by rw[e2],by rw[e1];exact Wn hv,hext.trans g3.glob,g3.holds,gG ((hk.mono fun _ hc=>hc.elim).trans (g3.kept.mono fun c hc=>.inr (hon c hc))),fun c hlt=>?_⟩
 obtain ⟨o1,o2⟩:=g3.old c (Nat.lt_of_lt_of_le hlt hk.size) (fun hc=>by have:=hon c hc;omega)
 exact⟨fun o=>(o1 o).trans ((hold c hlt).1 o),o2.trans (hold c hlt).2⟩
theorem Zp (hT:Tab G) {D:ByteArray} {w0 w:World} {hh:IH} {on:Nat→Prop} {β1 β:Nat→Nat} {V:Nat→Option Addr×Nat} {bj:Bk} {j:Nat} (hE0:kJ D.data.toList=0) (q:Di (aW D.data.toList) w0 G j hh on β1 β V bj w) (hj:(aW D.data.toList).length≤j) {β2:Nat→Nat} {h2:IH} {a:Act} {w2:World} (g:aN hh ⟨on,β1⟩ w hh (y8 D (aW D.data.toList) (dD β) j) β2 h2 a.tmps w2) (hd:a.defers=[]) :
  wpS Tryz.prog [cd Tryz.f42 [1,1,1,1,1]] (aO Tryz.prog Tryz.f42 (Eb D w0 G)) .normal a w2:=by
 have hB:=q.book.next g fun c hc=>(q.apart c hc).2
 obtain ⟨k,hk,hle,hkw,_,hp⟩:=hB.data
 have hlk:∀s l,(y8 D (aW D.data.toList) (dD β) j).box s=some l→s=2∧Live β2 s l:=by
  intro s l hl
  simp only[y8,AS.box,Go.Ab.look] at hl
  by_cases e2:(2:Nat)=s
  ·subst e2;simp at hl;subst hl;exact⟨rfl,trivial⟩
  ·rw[aP e2,cond_false] at hl;cases hl
 have hnot:∀s l,(y8 D (aW D.data.toList) (dD β) j).box s=some l→w0.heap.size≤blk β2 s∧¬gy β bj.es.length (blk β2 s):=fun s l hl=>by
  obtain ⟨q1,_⟩:=(g.box s l hl).1 (hlk s l hl).2
  rcases q1 with q1|q1
  ·exact q.apart _ q1
  ·refine⟨Nat.le_trans q.kept.size q1,?_⟩
   rintro ⟨t,t1,t2,t3⟩
   have:=q.book.lt t1 t2
   omega
 have g2:=JU (fG g) hle hkw (fun s l hl hv=>by
  obtain ⟨_,r1,r2⟩:=(g.box s l hl).1 hv
  rw[hk]
  exact⟨fun o=>by rw[IH.jY (hnot s l hl).2];exact r1 o,r2⟩)
 have hr:=q.run
 rw[List.drop_eq_nil_of_le hj] at hr
 have hr:nV (aW D.data.toList) eP=some bj:=hr.symm
 have hdc:=YO hE0 hr
 have Wv:Kept (fun _=>False) w0 w2:=gG ((q.kept.mono fun _ hc=>hc.elim).trans (g.kept.mono fun c hc=>.inr (q.apart c hc).1))
 have hext:G.le k:=(q.ext.trans g.glob).trans hle
 have hold:∀c,c<w0.heap.size→(∀o,k.cell c o=G.cell c o)∧k.obj c=G.obj c:=fun c hlt=>by
  obtain ⟨o1,o2⟩:=g.old c (Nat.lt_of_lt_of_le hlt q.kept.size) (fun hc=>by have:=(q.apart c hc).1;omega)
  have hnb:¬gy β bj.es.length c:=fun hc=>by have:=q.new c hc;omega
  rw[hk]
  exact⟨fun o=>by rw[IH.jY hnb];exact(o1 o).trans ((q.old c hlt).1 o),o2.trans (q.old c hlt).2⟩
 have h30:au Tryz.prog k 30 [eY bj] (.aC [ds (iG bj),di (gB bj)]):=f30 (fun w hw=>hT w (yN hext hw)) bj (vH q.val)
 have hA:aH Tryz.prog k ⟨fun c=>∃s l,(y8 D (aW D.data.toList) (dD β) j).box s=some l∧Live β2 s l∧blk β2 s=c,β2⟩ w2 k [cd Tryz.f42 [1,1,1,1,1]] (y8 D (aW D.data.toList) (dD β) j) (aO Tryz.prog Tryz.f42 (Eb D w0 G)):=by
  refine dH (aj:=NQ [] 0 ev0 0 (iG bj) (gB bj)) follows (adY bj) (cuts:=[]) (n:=1000) ?_
  refine Le ((.d (.ptr [(di bj.t),(.slc 7 bj.es.length (dM bj.es))])):AV) ((.d (.con (.pointer (some (Addr.mk (β (3*0)) 0 none))))):AV) ((.aC [(ds (iG bj)),(di (gB bj))]):DV) ((.agg [(di bj.t),(.slc 7 bj.es.length (dM bj.es))]):DV) (gB bj != 0||!(iG bj).toList==D.toList) (y8 D (aW D.data.toList) (dD β) j) (fun Za Zb Zc Zd Ze Zf=>((bT k (Fr.mk (fun c=>∃s l,Zf.box s=some l∧Live β2 s l∧blk β2 s=c) β2) Zb Za∧au Tryz.prog k 30 [Zd] Zc)∧((Ze=true)→aK k (Fr.mk (fun c=>∃s l,Zf.box s=some l∧Live β2 s l∧blk β2 s=c) β2) w2 k (aO Tryz.prog Tryz.f42 (Eb D w0 G)) .ret ⟨regs 64 [(0,(vs D)),(2,(.box 2 0)),(3,(vi 11)),(6,Zb),(11,(vs (iG bj))),(12,(vi (gB bj))),(23,(.d (.slc 1 (aW D.data.toList).length (nJ (aW D.data.toList))))),(24,(vi (↑(aW D.data.toList).length))),(25,(vi (↑j))),(44,(.d Zc)),(45,Za),(46,Za),(47,Za),(48,(.d Zd)),(49,(.d Zc)),(50,(vs (iG bj))),(51,(vi (gB bj))),(52,(vi (gB bj))),(53,(vb (gB bj != 0))),(54,(vb (gB bj != 0))),(58,(vb Ze)),(59,(.d (.agg [(di 0),bY])))],[(2,[(vi 0),(.d bY)])]⟩)∧((Ze=false)→(bT k (Fr.mk (fun c=>∃s l,Zf.box s=some l∧Live β2 s l∧blk β2 s=c) β2) Zb Za∧aK k (Fr.mk (fun c=>∃s l,Zf.box s=some l∧Live β2 s l∧blk β2 s=c) β2) w2 k (aO Tryz.prog Tryz.f42 (Eb D w0 G)) .ret ⟨regs 64 [(0,(vs D)),(2,(.box 2 0)),(3,(vi 0)),(6,Zb),(11,(vs (iG bj))),(12,(vi (gB bj))),(23,(.d (.slc 1 (aW D.data.toList).length (nJ (aW D.data.toList))))),(24,(vi (↑(aW D.data.toList).length))),(25,(vi (↑j))),(44,(.d Zc)),(45,Za),(46,Za),(47,Za),(48,(.d Zd)),(49,(.d Zc)),(50,(vs (iG bj))),(51,(vi (gB bj))),(52,(vi (gB bj))),(53,(vb (gB bj != 0))),(54,(vb (gB bj != 0))),(58,(vb Ze)),(60,Za),(61,Za),(62,Za),(63,(.d Zd))],[(2,[(vi bj.t),(.d (.slc 7 bj.es.length (dM bj.es)))])]⟩)))) (by kernel_rfl) ?_
  try dsimp only
  have hon:∀c,(∃s l,(y8 D (aW D.data.toList) (dD β) j).box s=some l∧Live β2 s l∧blk β2 s=c)→w0.heap.size≤c:=by
   rintro c ⟨s,l,hl,_,rfl⟩
   exact(hnot s l hl).1
  have Gh:∀(β3:Nat→Nat) (h3:IH) (v:Value),k.le h3→(AV.d (.con (dD β))).rel β3 h3 v→(AV.d (.ptr (iD bj))).rel β3 h3 v:=fun β3 h3 v hG r=>by
   have r:v=_:=r
   subst r
   exact DV.rel.mono hG _ _ hp
  refine⟨⟨fun β3 h3 v hG _ r=>Gh β3 h3 v hG r,h30⟩,fun c=>?_,fun c=>⟨fun β3 h3 v hG _ r=>Gh β3 h3 v hG r,?_⟩⟩
  ·have hno:qY D=false:=by
    rw[hdc]
    rw[dO,Bool.or_eq_true] at c
    rcases c with c|c
    ·have c:gB bj≠0:=by simpa using c
     rw[decide_eq_false c];rfl
    ·have c:iG bj≠D:=by simpa using c
     rw[decide_eq_false c,Bool.and_false]
   exact BZ hno hon Wv hext hold rfl
  ·have hyes:qY D=true:=by
    rw[hdc]
    rw[dO,Bool.or_eq_false_iff] at c
    have c1:gB bj=0:=by simpa using c.1
    have c2:iG bj=D:=by simpa using c.2
    rw[decide_eq_true c1,decide_eq_true c2];rfl
   refine qy (x:=.d (eY bj)) (y:=.d (di 0)) rfl rfl fun β3 k3 tm w3 v u g3 hv hu=>?_
   have hu:u=.int .i64 0:=hu
   subst hu
   have e1:nX D=bj:=by unfold nX;rw[if_pos hyes,hr];rfl
   have e2:qW D=0:=by unfold qW;rw[if_pos hyes]
   refine⟨v,k3,by rw[e2],by rw[e1];exact hv,hext.trans g3.glob,g3.holds,gG ((Wv.mono fun _ hc=>hc.elim).trans (g3.kept.mono fun c hc=>.inr (hon c hc))),fun c hlt=>?_⟩
   obtain ⟨o1,o2⟩:=g3.old c (Nat.lt_of_lt_of_le hlt Wv.size) (fun hc=>by have:=hon c hc;omega)
   exact⟨fun o=>(o1 o).trans ((hold c hlt).1 o),o2.trans (hold c hlt).2⟩
 exact hA β2 k a w2 g2 hd
noncomputable abbrev P6:List It:=[cd Tryz.f42 [1,1,1,1,0,1,0,0]]
noncomputable abbrev N7:List It:=[.blk 0,cd Tryz.f42 [1,1,1,1,1]]
def I42 (D:ByteArray) (L:List ByteArray) (w0:World) (h0:IH) (n:Nat) (a:Act) (w:World):Prop:=∃j hh on β1 β V bj,n=L.length-j∧Di L w0 h0 j hh on β1 β V bj w∧aN hh ⟨on,β1⟩ w hh (y8 D L (dD β) j) β1 hh a.tmps w∧a.defers=[]
noncomputable abbrev AQ (D:ByteArray) (L:List ByteArray) (w0:World) (h0:IH) (n:Nat):Exit→Act→World→Prop:=ng Tryz.prog N7 (aO Tryz.prog Tryz.f42 (Eb D w0 h0)) (I42 D L w0 h0) n
noncomputable def Xg (D:ByteArray) (L:List ByteArray) (p:Value) (j:Nat) (e:Ev):AS:=⟨regs Tryz.f42.ntmps [(0,vs D),(2,.box 2 0),(3,vi 0),(6,.d (.con p)),(23,.d (lZ L)),(24,vi L.length),(25,vi j),(36,.d (db false)),(37,.gate 36 false true (.d (.con p))),(38,.gate 36 false true (.d (fQ e)))],[(2,[.d (di 0),.d (.con (.slice none 0 0))])]⟩
noncomputable def ac3 (D:ByteArray) (L:List ByteArray) (p:Value) (j:Nat):AS:=⟨regs Tryz.f42.ntmps [(0,vs D),(2,.box 2 0),(3,vi 0),(6,.d (.con p)),(23,.d (lZ L)),(24,vi L.length),(25,vi j),(36,.d (db false))],[(2,[.d (di 0),.d (.con (.slice none 0 0))])]⟩
noncomputable def Zr (D:ByteArray) (L:List ByteArray) (p:Value) (j:Nat) (code:Int):AS:=⟨regs Tryz.f42.ntmps [(0,vs D),(2,.box 2 0),(3,vi 0),(6,.d (.con p)),(23,.d (lZ L)),(24,vi L.length),(25,vi j),(36,.d (db false)),(39,.d (di code))],[(2,[.d (di 0),.d (.con (.slice none 0 0))])]⟩
noncomputable def adJ (D:ByteArray) (L:List ByteArray) (p:Value) (j:Nat) (e:Ev):AS:=⟨regs Tryz.f42.ntmps [(0,vs D),(2,.box 2 0),(3,vi 0),(6,.d (.con p)),(9,.box 9 0),(10,vi 0),(23,.d (lZ L)),(24,vi L.length),(25,vi j)],[(9,(kC e).map .d),(2,[.d (di 0),.d (.con (.slice none 0 0))])]⟩
theorem P8 {D:ByteArray} {w0:World} {j:Nat} {hh:IH} {on:Nat→Prop} {β1 β:Nat→Nat} {V:Nat→Option Addr×Nat} {bj:Bk} {w:World} (q:Di (aW D.data.toList) w0 G j hh on β1 β V bj w) (hj:j<(aW D.data.toList).length) (h:¬(fF (bn (aW D.data.toList) j)=true∧cZ bj (aX (bn (aW D.data.toList) j))=0)):qY D=false:=by
 have hr:=q.run
 rw[List.drop_eq_getElem_cons hj,←tN hj] at hr
 have:nV (bn (aW D.data.toList) j :: (aW D.data.toList).drop (j+1)) bj=none:=by
  show (if _ then _ else _)=_
  rw[if_neg h]
 rw[this] at hr
 exact aac hr.symm
theorem V8 {D:ByteArray} {w0:World} {j:Nat} {hh:IH} {on:Nat→Prop} {β1 β:Nat→Nat} {V:Nat→Option Addr×Nat} {bj:Bk} {w:World} (q:Di (aW D.data.toList) w0 G j hh on β1 β V bj w) (hj:j<(aW D.data.toList).length) (hlen:(aW D.data.toList).length≤1000000) {e:Ev} (hde:fF (bn (aW D.data.toList) j)=true) (he:e=aX (bn (aW D.data.toList) j)) {F:Fr} {hx:IH} {β':Nat→Nat} {V':Nat→Option Addr×Nat} {w3:World} {code:Int} (h0':blk β' 0=blk β 0) (hc:code=cZ bj e)
  (hB:bP hx β' V' (if cZ bj e=0 then fK bj e else bj) w3) (hon:∀c,F.on c→w0.heap.size≤c∧¬gy β' (if cZ bj e=0 then fK bj e else bj).es.length c) (hnew:∀c,gy β' (if cZ bj e=0 then fK bj e else bj).es.length c→w0.heap.size≤c) (hk:Kept (fun _=>False) w0 w3) (hext:G.le hx) (hold:∀c,c<w0.heap.size→(∀o,hx.cell c o=G.cell c o)∧hx.obj c=G.obj c) :
  dQ Tryz.prog hx F w3 hx (opsOf (aU (ak Tryz.f42) [1,1,1,1,0,1,0,0,1,1,0,0,1,1,0])).toList 6 (2+0) (Zr D (aW D.data.toList) (dD β) j code) (wpS Tryz.prog [cd Tryz.f42 [1,1,1,1,0,1,0,0,1,1,0,0,1,1,1],.blk 1,cd Tryz.f42 [1,1,1,1,0,1,0,0,1,1,1]] (AQ D (aW D.data.toList) w0 G ((aW D.data.toList).length-j))):=by
 refine dQ.tree (aj:={ d:=bU }) ?_
 refine iq (b:=aK hx F w3 hx (iQ Tryz.prog (opsOf (aU (ak Tryz.f42) [1,1,1,1,0,1,0,0,1,1,0,0,1,1,0])).toList (6+2) 0 (wpS Tryz.prog [cd Tryz.f42 [1,1,1,1,0,1,0,0,1,1,0,0,1,1,1],It.blk 1,cd Tryz.f42 [1,1,1,1,0,1,0,0,1,1,1]] (AQ D (aW D.data.toList) w0 G ((aW D.data.toList).length-j)))) .normal ⟨regs 64 [(0,(vs D)),(2,(.box 2 0)),(3,(vi 0)),(6,(.d (.con (.pointer (some (Addr.mk (β (3*0)) 0 none)))))),(23,(.d (.slc 1 (aW D.data.toList).length (nJ (aW D.data.toList))))),(24,(vi (↑(aW D.data.toList).length))),(25,(vi (↑j))),(36,(vb false)),(39,(vi code)),(40,(.gate 36 false true (vb (code != 0)))),(41,(vb (false||code != 0)))],[(2,[(vi 0),(.d bY)])]⟩) (by kernel_rfl) ?_
 refine aK.jV ?_
 refine dH (aj:={ d:=bU }) follows (fun _=>none) (cuts:=[]) (n:=1000) ?_
 refine iq (b:=((((false||code != 0)=true)→aK hx F w3 hx (AQ D (aW D.data.toList) w0 G ((aW D.data.toList).length-j)) .ret ⟨regs 64 [(0,(vs D)),(2,(.box 2 0)),(3,(vi 11)),(6,(.d (.con (.pointer (some (Addr.mk (β (3*0)) 0 none)))))),(23,(.d (.slc 1 (aW D.data.toList).length (nJ (aW D.data.toList))))),(24,(vi (↑(aW D.data.toList).length))),(25,(vi (↑j))),(36,(vb false)),(39,(vi code)),(41,(vb (false||code != 0))),(42,(.d (.agg [(di 0),bY])))],[(2,[(vi 0),(.d bY)])]⟩)∧(((false||code != 0)=false)→((I64 (↑j+1))∧aK hx F w3 hx (AQ D (aW D.data.toList) w0 G ((aW D.data.toList).length-j)) .normal ⟨regs 64 [(0,(vs D)),(2,(.box 2 0)),(3,(vi 0)),(6,(.d (.con (.pointer (some (Addr.mk (β (3*0)) 0 none)))))),(23,(.d (.slc 1 (aW D.data.toList).length (nJ (aW D.data.toList))))),(24,(vi (↑(aW D.data.toList).length))),(25,(vi (↑j+1))),(36,(vb false)),(39,(vi code)),(41,(vb (false||code != 0))),(43,(vi (↑j+1)))],[(2,[(vi 0),(.d bY)])]⟩)))) (by kernel_rfl) ?_
 refine⟨fun c=>?_,fun c=>⟨⟨by omega,by omega⟩,?_⟩⟩
 ·have c:code≠0:=by simpa using c
  exact BZ (P8 q hj (by rw[←he];exact fun ⟨_,x⟩=>c (hc.trans x))) (fun c hc=>(hon c hc).1) hk hext hold rfl
 ·have c:code=0:=by simpa using c
  rw[c] at hc
  rw[if_pos hc.symm] at hB hon hnew
  have WA:aS e=true:=by rw[he];exact xH hde
  intro β4 h4 a4 w4 g4 hd4
  have hw4:Kept (fun _=>False) w0 w4:=gG ((hk.mono fun _ hc=>hc.elim).trans (g4.kept.mono fun c hc=>.inr (hon c hc).1))
  have hB4:bP h4 β' V' (fK bj e) w4:=hB.next g4 fun c hc=>(hon c hc).2
  have hp0:dD β'=dD β:=by
   show Value.pointer _=Value.pointer _
   rw[h0']
  have gr:=(fG g4).weaken (st':=y8 D (aW D.data.toList) (dD β') (j+1)) (by
   refine AS.leZ [3] [] (b:=((T0∧T0∧T0∧((.d (.con (.pointer (some (Addr.mk (β (3*0)) 0 none))))):AV)=(.d (.con (.pointer (some (Addr.mk (β' (3*0)) 0 none)))))∧T0∧T0∧T0∧True)∧T0∧True)) (by kernel_rfl) (by kernel_rfl) ?_
   exact⟨⟨rfl,rfl,rfl,congrArg (fun p=>AV.d (.con p)) hp0.symm,rfl,rfl,rfl,trivial⟩,rfl,trivial⟩)
  have hlk:∀s l,Go.Ab.look [(2,[AV.d (di 0),.d (.con (.slice none 0 0))])] s=some l→s=2∧Live β4 s l:=by
   intro s l hl
   simp only[Go.Ab.look] at hl
   by_cases e2:(2:Nat)=s
   ·subst e2;simp at hl;subst hl;exact⟨rfl,trivial⟩
   ·rw[aP e2,cond_false] at hl;cases hl
  refine⟨(aW D.data.toList).length-(j+1),by omega,j+1,h4,_,β4,β',V',fK bj e,rfl,⟨by omega,hB4,fun c hc'=>?_,hnew,hw4,?_,good_step q.good hc.symm,Dk q.bnd hc.symm,Df (fun _=>jX) q.val WA hc.symm,hext.trans g4.glob,fun c hlt=>?_⟩,gr,hd4⟩
  ·obtain ⟨s,l,hl,hv,rfl⟩:=hc'
   rcases ((g4.box s l hl).1 hv).1 with q1|q1
   ·exact hon _ q1
   ·refine⟨Nat.le_trans hk.size q1,?_⟩
    rintro ⟨t,t1,t2,t3⟩
    have:=hB.lt t1 t2
    omega
  ·rw[←q.run,List.drop_eq_getElem_cons hj,←tN hj]
   show _=if _ then _ else _
   rw[←he,if_pos ⟨hde,hc.symm⟩]
  ·obtain ⟨o1,o2⟩:=g4.old c (Nat.lt_of_lt_of_le hlt hk.size) (fun hc=>by have:=(hon c hc).1;omega)
   exact⟨fun o=>(o1 o).trans ((hold c hlt).1 o),o2.trans (hold c hlt).2⟩
theorem Pv (hT:Tab G) {D:ByteArray} {w0 w:World} {hh:IH} {on:Nat→Prop} {β1 β:Nat→Nat} {V:Nat→Option Addr×Nat} {bj:Bk} {j:Nat} (hE0:kJ D.data.toList=0) (q:Di (aW D.data.toList) w0 G j hh on β1 β V bj w) (hj:(aW D.data.toList).length≤j) {st:AS} (hst:st.le (y8 D (aW D.data.toList) (dD β) j)) {m:Nat}:aK hh ⟨on,β1⟩ w hh (AQ D (aW D.data.toList) w0 G m) (.exit 0) st:=by
 intro β2 h2 a2 w2 g2 hd2
 show wpS Tryz.prog N7 (aO Tryz.prog Tryz.f42 (Eb D w0 G)) (.exit 0) a2 w2
 refine mP (k:=N7) ?_
 show wpS Tryz.prog [cd Tryz.f42 [1,1,1,1,1]] (aO Tryz.prog Tryz.f42 (Eb D w0 G)) .normal a2 w2
 exact Zp hT hE0 q hj (g2.weaken hst) hd2
theorem WE {D:ByteArray} {w0 w:World} {hh:IH} {on:Nat→Prop} {β1 β:Nat→Nat} {V:Nat→Option Addr×Nat} {bj:Bk} {j:Nat} (q:Di (aW D.data.toList) w0 G j hh on β1 β V bj w) (hj:j<(aW D.data.toList).length) (hlen:(aW D.data.toList).length≤1000000) {e:Ev} (hde:fF (bn (aW D.data.toList) j)=true) (he:e=aX (bn (aW D.data.toList) j)) :
  dQ Tryz.prog hh ⟨on,β1⟩ w hh (opsOf (aU (ak Tryz.f42) [1,1,1,1,0,1,0,0,1,1,0,0,1,1,0])).toList 5 (2+1) (Xg D (aW D.data.toList) (dD β) j e) (wpS Tryz.prog [cd Tryz.f42 [1,1,1,1,0,1,0,0,1,1,0,0,1,1,1],.blk 1,cd Tryz.f42 [1,1,1,1,0,1,0,0,1,1,1]] (AQ D (aW D.data.toList) w0 G ((aW D.data.toList).length-j))):=by
 have WA:aS e=true:=by rw[he];exact xH hde
 refine dQ.call (c:={ callee:=.value (.func 45),args:=#[.tmp 37,.tmp 38],argTypes:=#[73,26] }) (g:=45) (a1:=[]) (a2:=[]) (γ:=some (36,false,true)) rfl rfl rfl (by kernel_rfl) (fun _ _ _ hq=>by cases hq;rfl) (by kernel_rfl) Tryz.call45 ?_
 intro β2 h2 a w3 vs g1 hd hvs
 obtain ⟨v0,vs1,rfl,r0,v1,vs2,rfl,r1,r3⟩:=hvs
 have r3:vs2=[]:=r3
 subst r3
 have r0:v0=dD β:=r0.1 rfl
 subst r0
 have r1:DV.rel h2 (fQ e) v1:=r1.1 rfl
 have hB:=q.book.next g1 fun c hc=>(q.apart c hc).2
 have hk3:Kept (fun _=>False) w0 w3:=gG ((q.kept.mono fun _ hc=>hc.elim).trans (g1.kept.mono fun c hc=>.inr (q.apart c hc).1))
 refine(SV hB (Bg q.good q.bnd) (by have:=Ce q.bnd;have:=q.good.few;omega) q.bnd e (jX WA) r1).mono ?_
 rintro r w' ⟨v,rfl,hp⟩
 refine⟨v,rfl,?_⟩
 obtain ⟨hpc,hpk,β',V',h0',hB',hbl⟩:=hp
 subst hpc
 have gz:=(fG g1).weaken (st':=ac3 D (aW D.data.toList) (dD β) j) (by refine AS.leZ [] [] (b:=((T0∧T0∧T0∧T0∧T0∧T0∧T0∧T0∧True)∧T0∧True)) (by kernel_rfl) (by kernel_rfl) ?_;exact⟨⟨rfl,rfl,rfl,rfl,rfl,rfl,rfl,rfl,trivial⟩,rfl,trivial⟩)
 have hl1:(Xg D (aW D.data.toList) (dD β) j e).box 2=some [.d (di 0),.d (.con (.slice none 0 0))]:=rfl
 have hb1:=(g1.box 2 _ hl1)
 have hlt1:blk β2 2<w3.heap.size:=Own.lt (show Live β2 2 [.d (di 0),.d (.con (.slice none 0 0))] from trivial) hb1.2
 have h1n:w0.heap.size≤blk β2 2∧¬gy β bj.es.length (blk β2 2):=by
  rcases (hb1.1 trivial).1 with q1|q1
  ·exact q.apart _ q1
  ·refine⟨Nat.le_trans q.kept.size q1,?_⟩
   rintro ⟨t,t1,t2,t3⟩
   have:=q.book.lt t1 t2
   omega
 have hlz:∀s l,Go.Ab.look [(2,[AV.d (di 0),.d (.con (.slice none 0 0))])] s=some l→s=2∧Live β2 s l:=by
  intro s l hl
  simp only[Go.Ab.look] at hl
  by_cases e2:(2:Nat)=s
  ·subst e2;simp at hl;subst hl;exact⟨rfl,trivial⟩
  ·rw[aP e2,cond_false] at hl;cases hl
 have gb:=vk gz hB'.hold hpk (fun s l hl=>by
  obtain ⟨e1,e2⟩:=hlz s l hl
  subst e1
  exact⟨e2,h1n.2⟩)
 have gc:=gb.put (t:=some 39) (x:=.d (di (cZ bj e))) (v:=.int .i64 (cZ bj e)) rfl
 have ge:=gc.weaken (st':=Zr D (aW D.data.toList) (dD β) j (cZ bj e)) (by refine AS.leZ [] [] (b:=((T0∧T0∧T0∧T0∧T0∧T0∧T0∧T0∧T0∧True)∧T0∧True)) (by kernel_rfl) (by kernel_rfl) ?_;exact⟨⟨rfl,rfl,rfl,rfl,rfl,rfl,rfl,rfl,rfl,trivial⟩,rfl,trivial⟩)
 have hw3:=hk3.size
 refine V8 q hj hlen hde he h0' rfl hB' (fun c hc=>?_) (fun c hc=>?_) (gG ((hk3.mono fun _ hc=>hc.elim).trans (hpk.mono fun c hc=>.inr (q.new c hc)))) (q.ext.trans g1.glob) (fun c hlt=>?_) _ _ _ _ ge hd
 ·obtain ⟨s,l,hl,_,rfl⟩:=hc
  obtain ⟨e1,_⟩:=hlz s l hl
  subst e1
  refine⟨h1n.1,fun hq=>?_⟩
  rcases hbl _ hq with q1|q1
  ·exact h1n.2 q1
  ·omega
 ·rcases hbl _ hc with q1|q1
  ·exact q.new _ q1
  ·omega
 ·obtain ⟨o1,o2⟩:=g1.old c (Nat.lt_of_lt_of_le hlt q.kept.size) (fun hc=>by have:=(q.apart c hc).1;omega)
  exact⟨fun o=>(o1 o).trans ((q.old c hlt).1 o),o2.trans (q.old c hlt).2⟩
end Go.Proofs
