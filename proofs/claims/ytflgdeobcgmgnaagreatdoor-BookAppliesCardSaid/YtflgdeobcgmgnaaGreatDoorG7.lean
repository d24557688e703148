import Derived.Test.YtflgdeobcgmgnaaGreatDoorAcD
import Derived.Test.YtflgdeobcgmgnaaGreatDoorG6
import Derived.Test.YtflgdeobcgmgnaaGreatDoorG5
import Derived.Test.YtflgdeobcgmgnaaGreatDoorG2
import Derived.Test.YtflgdeobcgmgnaaGreatDoorG0
import Derived.Lib.AtoiAllCases
import Derived.Shelf.LaysC
import Derived.Shelf.Strconv.AtoiAll
import Derived.Shelf.Strings.Search2
import Derived.Test.YtflgdeobcgmgnaaGreatDoorProg
import Derived.WalkKit
import Derived.Test.YtflgdeobcgmgnaaGreatDoorAcE
set_option autoImplicit false
set_option maxHeartbeats 4000000
set_option maxRecDepth 100000
namespace Go.Proofs
open Go Go.Ab Go.RowKit
variable {G:IH}
noncomputable def S57 (x:En) (j:Nat) (f:Nat→DV) (n:Nat):AS:=⟨regs Tryz.f57.ntmps [(1,.box 1 0),(3,.vec 903 9 0 n),(4,vi j)],[(1,(enL x).map .d),(903,[.arr evK 9 f])]⟩
noncomputable def S57a (x:En) (j:Nat) (f:Nat→DV) (n:Nat):AS:=⟨regs Tryz.f57.ntmps [(1,.box 1 0),(3,.vec 903 9 0 n),(6,vi j)],[(1,(enL x).map .d),(903,[.arr evK 9 f])]⟩
noncomputable def S57q (x:En) (j:Nat) (a:Al) (f:Nat→DV) (n:Nat):AS:=⟨regs Tryz.f57.ntmps [(1,.box 1 0),(3,.vec 903 9 0 n),(6,vi j),(7,.box 7 0)],[(1,(enL x).map .d),(903,[.arr evK 9 f]),(7,(alL a).map .d)]⟩
noncomputable def S57n (x:En) (f:Nat→DV):AS:=⟨regs Tryz.f57.ntmps [(1,.box 1 0),(3,.vec 15 9 0 1),(4,vi 0)],[(1,(enL x).map .d),(15,[.arr evK 9 f])]⟩
def orc57:Orc:={ d:=noO,rows:=fun n=>Nat.beq n 15||(Nat.beq n 40||(Nat.beq n 62||Nat.beq n 76)) }
theorem f57 (x:En) (hx:SzE x):FnOK Tryz.prog G 57 [enD x] (evsD (enE x)):=by
 obtain ⟨hx1,hx2⟩:=hx
 have hgl:∀j,j≤x.gs.length→(lG [] x j).length≤1000001:=fun j hj=>by
  simp only[lG,List.length_append,List.length_cons,List.length_map,List.length_take,List.length_nil]
  omega
 have hal:∀j,j≤x.aps.length→(lA [] x j).length≤3000001:=fun j hj=>by
  have h2:((x.aps.take j).map (alE x.k)).flatten.length≤2*(x.aps.take j).length:=by
   generalize x.aps.take j=m
   induction m with
   | nil=>simp
   | cons a m ih=>
    have:(alE x.k a).length≤2:=by unfold alE;split<;>simp
    simp only[List.map_cons,List.flatten_cons,List.length_append,List.length_cons]
    omega
  rw[List.length_take] at h2
  simp only[lA,List.length_append,List.length_cons,List.length_map,List.length_nil]
  omega
 refine FnOK.of_body Tryz.func57 rfl Tryz.call57 ?_
 refine walkK (orc:=orc57) (keep:=[]) (cuts:=[]) (n:=1000) follows ?_
 refine of_tr (fun ZT ZW ZQ _=>ZW [cd Tryz.f57 [1,1,0,1,0],(.blk 0),cd Tryz.f57 [1,1,1]] (stS ZT []) ZQ) (by kernel_rfl) ?_
 refine AWP.weaken (st':=S57n x (elemF true 9 (evL (suE x)))) ?_ ?_
 ·exact AS.leA (by kernel_rfl)
 refine AWP.pre ((AS.leX.moves [(15,903)] _ rfl).trans ((AS.leX.of_le (st':=S57 x 0 (elemF true 9 (evL (suE x))) 1) ?_).trans ((AS.leX.rowF _ 3 903 1 (evF (lG [] x 0)) rfl rfl rfl (by kernel_rfl) fun i hi=>by obtain rfl:i=0:=(by omega);rfl).trans (.of_le (st':=S57 x 0 (evF (lG [] x 0)) 1) ?_)))) ?_
 ·exact AS.leA (by kernel_rfl)
 ·exact AS.leA (by kernel_rfl)
 refine AWP.loop (c:=cAt (bodyOf Tryz.f57) [1,1,0,1,0,0]) (by kernel_rfl) (fun j:Nat=>S57 x j (evF (lG [] x j)) (lG [] x j).length) (fun j=>j≤x.gs.length) (fun j=>x.gs.length-j) 0 ?_ (Nat.zero_le _) ?_
 ·exact AS.leA (by kernel_rfl)
 intro j hj
 show AWP _ _ _ (S57 x j (evF (lG [] x j)) (lG [] x j).length) _
 by_cases hj2:j<x.gs.length
 ·have hg1:=hgl j hj
  have e:=lG_next (l:=[]) hj2
  refine walkK (orc:=orc57) (keep:=[]) (cuts:=[]) (n:=1000) follows ?_
  refine of_rd (fun ZT ZW ZQ _ ZA _=>((((decide ((↑j:Int)<↑x.gs.length))=true)→(((0≤(↑j:Int))∧((↑j:Int)<↑x.gs.length))∧((((lG [] x j).length+1)*96≤1099511627776)∧((lG [] x j).length+1≤1099511627776))∧(I64 (↑j+1))∧(ZA (stS ZT [0]))))∧(((decide ((↑j:Int)<↑x.gs.length))=false)→ZW [cd Tryz.f57 [1,1,1]] (stS ZT [1]) ZQ))) (by kernel_rfl) ?_
  refine⟨fun _=>⟨⟨by omega,by omega⟩,⟨by omega,by omega⟩,⟨by omega,by omega⟩,j+1,?_,hj2,show x.gs.length-(j+1)<x.gs.length-j from by omega⟩,fun hd=>absurd (of_decide_eq_false hd) (by omega)⟩
  show AS.leX _ (S57 x (j+1) (evF (lG [] x (j+1))) (lG [] x (j+1)).length)
  rw[e]
  refine(AS.leX.moves [(41,903)] _ rfl).trans ((AS.leX.of_le (st':=S57 x (j+1) (apF (lG [] x j) (gvE x.k (x.gs.getD j gv0))) ((lG [] x j).length+1)) ?_).trans ((AS.leX.rowF _ 3 903 ((lG [] x j).length+1) (evF (lG [] x j++[gvE x.k (x.gs.getD j gv0)])) rfl rfl rfl (by kernel_rfl) fun i hi=>evF_app hi).trans (.of_le ?_)))
  ·refine AS.leZ [] [1] (b:=((T0∧T0∧T0∧True)∧T0∧((some [(.arr ⟨true,26,false,none⟩ 9 (fun i=>bif i.blt (lG [] x j).length then evF (lG [] x j) i else elemF true 9 [di 1,ds x.k.st,ds x.k.ex,di x.k.n,DV.con (Value.int IntKind.i64 (x.gs.getD (↑j:Int).toNat gv0).t),DV.con (Value.int IntKind.i64 (x.gs.getD (↑j:Int).toNat gv0).v),DV.con (Value.int IntKind.i64 (x.gs.getD (↑j:Int).toNat gv0).h),DV.con (Value.string (x.gs.getD (↑j:Int).toNat gv0).s),DV.con (Value.bool false)] (0+(i-(lG [] x j).length))))]):(Option (List AV)))=(some [(.arr ⟨true,26,false,none⟩ 9 (apF (lG [] x j) (gvE x.k (x.gs.getD j gv0))))])∧True)) (by kernel_rfl) (by kernel_rfl) ?_
   exact⟨⟨rfl,rfl,rfl,trivial⟩,rfl,rfl,trivial⟩
  ·refine AS.leZ [1] [] (b:=((T0∧((.vec 903 9 0 ((lG [] x j).length+1)):AV)=(.vec 903 9 0 (lG [] x j++[gvE x.k (x.gs.getD j gv0)]).length)∧T0∧True)∧T0∧T0∧True)) (by kernel_rfl) (by kernel_rfl) ?_
   exact⟨⟨rfl,congrArg (AV.vec 903 9 0) (len_snoc _ _).symm,rfl,trivial⟩,rfl,rfl,trivial⟩
 obtain rfl:j=x.gs.length:=by have:j≤x.gs.length:=hj;omega
 rw[lG_all]
 refine walkK (orc:=orc57) (keep:=[]) (cuts:=[5,8]) (n:=1000) follows ?_
 refine of_rd (fun ZT ZW ZQ _ _ ZR=>((((decide ((↑x.gs.length:Int)<↑x.gs.length))=true)→ZW [cd Tryz.f57 [1,1,0,1,0,0,1,0,0],(.blk 1),cd Tryz.f57 [1,1,0,1,0,0,1,1]] (stS ZT [0]) ZR)∧(((decide ((↑x.gs.length:Int)<↑x.gs.length))=false)→ZW [cd Tryz.f57 [1,1,1]] (stS ZT [1]) ZQ))) (by kernel_rfl) ?_
 refine⟨fun hd=>absurd (of_decide_eq_true hd) (by omega),fun _=>?_⟩
 refine walkK (orc:=orc57) (keep:=[]) (cuts:=[]) (n:=1000) follows ?_
 refine of_tr (fun ZT ZW ZQ _=>ZW [cd Tryz.f57 [1,1,1,0,1,0],(.blk 2),cd Tryz.f57 [1,1,1,1]] (stS ZT []) ZQ) (by kernel_rfl) ?_
 refine AWP.loop (c:=cAt (bodyOf Tryz.f57) [1,1,1,0,1,0,0]) (by kernel_rfl) (fun j:Nat=>S57a x j (evF (lA [] x j)) (lA [] x j).length) (fun j=>j≤x.aps.length) (fun j=>x.aps.length-j) 0 ?_ (Nat.zero_le _) ?_
 ·exact AS.leA (by kernel_rfl)
 clear hj hgl
 intro j hj
 show AWP _ _ _ (S57a x j (evF (lA [] x j)) (lA [] x j).length) _
 by_cases hj2:j<x.aps.length
 ·have hg1:=hal j hj
  have e:=lA_next (l:=[]) hj2
  refine walkK (orc:=orc57) (keep:=[]) (cuts:=[12]) (n:=1000) follows ?_
  refine of_rd (fun ZT ZW ZQ _ _ ZR=>((((decide ((↑j:Int)<↑x.aps.length))=true)→(((0≤(↑j:Int))∧((↑j:Int)<↑x.aps.length))∧((((lA [] x j).length+1)*96≤1099511627776)∧((lA [] x j).length+1≤1099511627776))∧ZW [cd Tryz.f57 [1,1,1,0,1,0,0,1,0,0,1,1],(.blk 3),cd Tryz.f57 [1,1,1,0,1,0,0,1,1]] (stS ZT [0]) ZR))∧(((decide ((↑j:Int)<↑x.aps.length))=false)→ZW [cd Tryz.f57 [1,1,1,1]] (stS ZT [1]) ZQ))) (by kernel_rfl) ?_
  refine⟨fun _=>⟨⟨by omega,by omega⟩,⟨by omega,by omega⟩,?_⟩,fun hd=>absurd (of_decide_eq_false hd) (by omega)⟩
  refine AWP.pre ((AS.leX.moves [(63,903)] _ rfl).trans ((AS.leX.of_le (st':=S57q x j (x.aps.getD j al0) (apF (lA [] x j) (auE x.k (x.aps.getD j al0))) ((lA [] x j).length+1)) ?_).trans ((AS.leX.rowF _ 3 903 ((lA [] x j).length+1) (evF (lA [] x j++[auE x.k (x.aps.getD j al0)])) rfl rfl rfl (by kernel_rfl) fun i hi=>evF_app hi).trans (.of_le (st':=S57q x j (x.aps.getD j al0) (evF (lA [] x j++[auE x.k (x.aps.getD j al0)])) ((lA [] x j).length+1)) ?_)))) ?_
  ·refine AS.leZ [] [1,2] (b:=((T0∧T0∧T0∧T0∧True)∧T0∧((some [(.arr ⟨true,26,false,none⟩ 9 (fun i=>bif i.blt (lA [] x j).length then evF (lA [] x j) i else elemF true 9 [di 2,ds x.k.st,ds x.k.ex,di x.k.n,DV.con (Value.int IntKind.i64 (x.aps.getD (↑j:Int).toNat al0).t),di 0,di 0,DV.con (Value.string (x.aps.getD (↑j:Int).toNat al0).s),DV.con (Value.bool false)] (0+(i-(lA [] x j).length))))]):(Option (List AV)))=(some [(.arr ⟨true,26,false,none⟩ 9 (apF (lA [] x j) (auE x.k (x.aps.getD j al0))))])∧((some [(vi (x.aps.getD (↑j:Int).toNat al0).t),(vs (x.aps.getD (↑j:Int).toNat al0).s),(vb (x.aps.getD (↑j:Int).toNat al0).dec),(vb (x.aps.getD (↑j:Int).toNat al0).acc),(vi (x.aps.getD (↑j:Int).toNat al0).at_),(vs (x.aps.getD (↑j:Int).toNat al0).ans)]):(Option (List AV)))=(some [(vi (x.aps.getD j al0).t),(vs (x.aps.getD j al0).s),(vb (x.aps.getD j al0).dec),(vb (x.aps.getD j al0).acc),(vi (x.aps.getD j al0).at_),(vs (x.aps.getD j al0).ans)])∧True)) (by kernel_rfl) (by kernel_rfl) ?_
   exact⟨⟨rfl,rfl,rfl,rfl,trivial⟩,rfl,rfl,rfl,trivial⟩
  ·exact AS.leA (by kernel_rfl)
  have hll:(lA [] x j++[auE x.k (x.aps.getD j al0)]).length=(lA [] x j).length+1:=len_snoc _ _
  have e2:lA [] x (j+1)=(lA [] x j++[auE x.k (x.aps.getD j al0)])++(if (x.aps.getD j al0).dec=true then [adE x.k (x.aps.getD j al0)] else []):=by
   rw[e]
   unfold alE auE adE
   split<;>simp
  generalize lA [] x j++[auE x.k (x.aps.getD j al0)]=m at *
  rw[←hll]
  refine walkK (orc:=orc57) (keep:=[]) (cuts:=[]) (n:=1000) follows ?_
  refine of_rd (fun ZT _ _ _ ZA _=>((((x.aps.getD j al0).dec=true)→((((m.length+1)*96≤1099511627776)∧(m.length+1≤1099511627776))∧(I64 (↑j+1))∧(ZA (stS ZT [0]))))∧(((x.aps.getD j al0).dec=false)→((I64 (↑j+1))∧(ZA (stS ZT [1])))))) (by kernel_rfl) ?_
  refine⟨fun c=>⟨⟨by omega,by omega⟩,⟨by omega,by omega⟩,j+1,?_,hj2,show x.aps.length-(j+1)<x.aps.length-j from by omega⟩,fun c=>⟨⟨by omega,by omega⟩,Again.mk (j+1) ?_ hj2 (by omega)⟩⟩
  ·show AS.leX _ (S57a x (j+1) (evF (lA [] x (j+1))) (lA [] x (j+1)).length)
   rw[e2,if_pos c]
   refine(AS.leX.moves [(77,903)] _ rfl).trans ((AS.leX.of_le (st':=S57a x (j+1) (apF m (adE x.k (x.aps.getD j al0))) (m.length+1)) ?_).trans ((AS.leX.rowF _ 3 903 (m.length+1) (evF (m++[adE x.k (x.aps.getD j al0)])) rfl rfl rfl (by kernel_rfl) fun i hi=>evF_app hi).trans (.of_le ?_)))
   ·refine AS.leZ [] [1] (b:=((T0∧T0∧T0∧True)∧T0∧((some [(.arr ⟨true,26,false,none⟩ 9 (fun i=>bif i.blt m.length then evF m i else elemF true 9 [di 3,ds x.k.st,ds x.k.ex,di x.k.n,DV.con (Value.int IntKind.i64 (x.aps.getD j al0).at_),di 0,di 0,DV.con (Value.string (x.aps.getD j al0).ans),DV.con (Value.bool (x.aps.getD j al0).acc)] (0+(i-m.length))))]):(Option (List AV)))=(some [(.arr ⟨true,26,false,none⟩ 9 (apF m (adE x.k (x.aps.getD j al0))))])∧True)) (by kernel_rfl) (by kernel_rfl) ?_
    exact⟨⟨rfl,rfl,rfl,trivial⟩,rfl,rfl,trivial⟩
   ·refine AS.leZ [1] [] (b:=((T0∧((.vec 903 9 0 (m.length+1)):AV)=(.vec 903 9 0 (m++[adE x.k (x.aps.getD j al0)]).length)∧T0∧True)∧T0∧T0∧True)) (by kernel_rfl) (by kernel_rfl) ?_
    exact⟨⟨rfl,congrArg (AV.vec 903 9 0) (len_snoc _ _).symm,rfl,trivial⟩,rfl,rfl,trivial⟩
  ·rw[if_neg (by rw[c];decide),List.append_nil] at e2
   refine AS.leZ [1] [1] (b:=((T0∧((.vec 903 9 0 m.length):AV)=(.vec 903 9 0 (lA [] x (j+1)).length)∧T0∧True)∧T0∧((some [(.arr ⟨true,26,false,none⟩ 9 (evF m))]):(Option (List AV)))=(some [(.arr ⟨true,26,false,none⟩ 9 (evF (lA [] x (j+1))))])∧True)) (by kernel_rfl) (by kernel_rfl) ?_
   rw[e2]
   exact⟨⟨rfl,rfl,rfl,trivial⟩,rfl,rfl,trivial⟩
 obtain rfl:j=x.aps.length:=by have:j≤x.aps.length:=hj;omega
 have e:lA [] x x.aps.length=enE x:=by simp[lA,enE]
 rw[e]
 refine walkK (orc:=orc57) (keep:=[]) (cuts:=[10]) (n:=1000) follows ?_
 refine of_rd (fun ZT ZW ZQ _ _ ZR=>((((decide ((↑x.aps.length:Int)<↑x.aps.length))=true)→ZW [cd Tryz.f57 [1,1,1,0,1,0,0,1,0,0],(.blk 3),cd Tryz.f57 [1,1,1,0,1,0,0,1,1]] (stS ZT [0]) ZR)∧(((decide ((↑x.aps.length:Int)<↑x.aps.length))=false)→ZW [cd Tryz.f57 [1,1,1,1]] (stS ZT [1]) ZQ))) (by kernel_rfl) ?_
 refine⟨fun hd=>absurd (of_decide_eq_true hd) (by omega),fun _=>?_⟩
 refine walkK (orc:=orc57) (keep:=[]) (cuts:=[]) (n:=1000) follows ?_
 refine of_tr (fun _ _ _ _=>(((.slc 9 (enE x).length (fun i=>evF (enE x) (0+i))):DV)=(evsD (enE x)))) (by kernel_rfl) ?_
 exact congrArg (DV.slc 9 _) (funext fun i=>by rw[Nat.zero_add])
def cntK (es:List En) (k:Ky) (j:Nat):Nat:=cntB (es.take j) k
theorem cntK_succ {es:List En} {k:Ky} {j:Nat} (h:j<es.length):cntK es k (j+1)=cntK es k j+if samK k (es.getD j en0).k=true then 1 else 0:=by
 unfold cntK cntB keyS
 rw[List.take_succ_eq_append_getElem h,List.map_append,List.filter_append,List.length_append,List.getD,gEe h]
 congr 1
 show (List.filter (samK k) [es[j].k]).length=_
 rw[List.filter_cons]
 show (if samK k es[j].k=true then _ else _:List Ky).length=if samK k es[j].k=true then 1 else 0
 split<;>rfl
noncomputable def S80 (b:Bk) (k:Ky) (j:Nat):AS:=⟨regs Tryz.f80.ntmps [(2,.box 2 0),(3,.box 3 0),(4,vi 0),(5,vi (cntK b.es k j)),(6,vi j)],[(2,(bkL b).map .d),(3,(kyL k).map .d)]⟩
theorem f80 (b:Bk) (k:Ky) (hl:b.es.length≤1000000):FnOK Tryz.prog G 80 [bkD b,kyD k] (di (cntB b.es k)):=by
 refine FnOK.of_body Tryz.func80 rfl Tryz.call80 ?_
 refine walkK (orc:={ d:=noO }) (keep:=[]) (cuts:=[]) (n:=1000) follows ?_
 refine of_tr (fun ZT ZW ZQ _=>ZW [cd Tryz.f80 [1,1,0,1,0],(.blk 0),cd Tryz.f80 [1,1,1]] (stS ZT []) ZQ) (by kernel_rfl) ?_
 refine AWP.loop (c:=cAt (bodyOf Tryz.f80) [1,1,0,1,0,0]) (by kernel_rfl) (fun j:Nat=>S80 b k j) (fun j=>j≤b.es.length∧cntK b.es k j≤j) (fun j=>b.es.length-j) 0 ?_ ⟨Nat.zero_le _,Nat.le_refl _⟩ ?_
 ·exact AS.leA (by kernel_rfl)
 rintro j ⟨hj,hc⟩
 by_cases h2:j<b.es.length
 ·have hs:=cntK_succ (k:=k) h2
  refine walkK (orc:={ d:=noO }) (keep:=[]) (cuts:=[]) (n:=1000) follows ?_
  refine of_rd (fun ZT ZW ZQ _ ZA _=>(fun Za=>((((decide ((↑j:Int)<↑b.es.length))=true)→(((0≤(↑j:Int))∧((↑j:Int)<↑b.es.length))∧((Za=true)→((I64 (↑(cntK b.es k j)+1))∧(I64 (↑j+1))∧(ZA (stS ZT [0,0]))))∧((Za=false)→((I64 (↑j+1))∧(ZA (stS ZT [0,1]))))))∧(((decide ((↑j:Int)<↑b.es.length))=false)→ZW [cd Tryz.f80 [1,1,1]] (stS ZT [1]) ZQ))) ((b.es.getD (↑j:Int).toNat en0).k.st.toList==k.st.toList&&(b.es.getD (↑j:Int).toNat en0).k.ex.toList==k.ex.toList)) (by kernel_rfl) ?_
  try dsimp only
  rw[show ((j:Int)).toNat=j from rfl,toList_beq,toList_beq]
  have e:(decide ((b.es.getD j en0).k.st=k.st)&&decide ((b.es.getD j en0).k.ex=k.ex))=samK k (b.es.getD j en0).k:=rfl
  rw[e]
  refine⟨fun _=>⟨⟨by omega,by omega⟩,fun c=>⟨⟨by omega,by omega⟩,⟨by omega,by omega⟩,Again.mk (j+1) ?_ ⟨h2,by rw[hs];split<;>omega⟩ (by show b.es.length-(j+1)<b.es.length-j;omega)⟩,fun c=>⟨⟨by omega,by omega⟩,Again.mk (j+1) ?_ ⟨h2,by rw[hs];split<;>omega⟩ (by show b.es.length-(j+1)<b.es.length-j;omega)⟩⟩,fun hd=>absurd (of_decide_eq_false hd) (by omega)⟩
  ·rw[if_pos c] at hs
   refine AS.leZ [3] [] (b:=((T0∧T0∧T0∧((vi (↑(cntK b.es k j)+1)):AV)=(vi (↑(cntK b.es k (j+1))))∧T0∧True)∧T0∧T0∧True)) (by kernel_rfl) (by kernel_rfl) ?_
   rw[hs]
   exact⟨⟨rfl,rfl,rfl,rfl,rfl,trivial⟩,rfl,rfl,trivial⟩
  ·rw[if_neg (by rw[c];decide)] at hs
   refine AS.leZ [3] [] (b:=((T0∧T0∧T0∧((vi (↑(cntK b.es k j))):AV)=(vi (↑(cntK b.es k (j+1))))∧T0∧True)∧T0∧T0∧True)) (by kernel_rfl) (by kernel_rfl) ?_
   rw[hs]
   exact⟨⟨rfl,rfl,rfl,rfl,rfl,trivial⟩,rfl,rfl,trivial⟩
 ·obtain rfl:j=b.es.length:=by omega
  have e:cntK b.es k b.es.length=cntB b.es k:=by unfold cntK;rw[List.take_length]
  refine walkK (orc:={ d:=noO }) (keep:=[]) (cuts:=[5]) (n:=1000) follows ?_
  refine of_rd (fun ZT ZW ZQ _ _ ZR=>((((decide ((↑b.es.length:Int)<↑b.es.length))=true)→ZW [cd Tryz.f80 [1,1,0,1,0,0,1,0,0],(.blk 1),cd Tryz.f80 [1,1,0,1,0,0,1,1]] (stS ZT [0]) ZR)∧(((decide ((↑b.es.length:Int)<↑b.es.length))=false)→ZW [cd Tryz.f80 [1,1,1]] (stS ZT [1]) ZQ))) (by kernel_rfl) ?_
  refine⟨fun hd=>absurd (of_decide_eq_true hd) (by omega),fun _=>?_⟩
  refine walkK (orc:={ d:=noO }) (keep:=[]) (cuts:=[]) (n:=1000) follows ?_
  refine of_tr (fun _ _ _ _=>(((di (↑(cntK b.es k b.es.length))):DV)=(di ↑(cntB b.es k)))) (by kernel_rfl) ?_
  rw[e]
def partB (es:List En) (e:Ev):Bool:=decide (e∈allE es)
noncomputable def S50 (b:Bk) (e:Ev) (i:Nat):AS:=⟨regs Tryz.f50.ntmps [(2,.box 2 0),(3,.box 3 0),(4,vb false),(5,vi i)],[(2,(bkL b).map .d),(3,(evL e).map .d)]⟩
noncomputable def S50i (b:Bk) (e:Ev) (i:Nat) (l:List Ev) (k:Nat):AS:=⟨regs Tryz.f50.ntmps [(2,.box 2 0),(3,.box 3 0),(4,vb false),(5,vi i),(6,.d (evsD l)),(7,vi k)],[(2,(bkL b).map .d),(3,(evL e).map .d)]⟩
def orc50 (l:List Ev):Orc:={ d:=fun f _=>bif Nat.beq f 57 then some (evsD l) else none }
theorem enE_len {x:En} (hx:SzE x):(enE x).length≤3000001:=by
 obtain ⟨h1,h2⟩:=hx
 have:∀m:List Al,((m.map (alE x.k)).flatten).length≤2*m.length:=by
  intro m
  induction m with
  | nil=>simp
  | cons a m ih=>
   have:(alE x.k a).length≤2:=by unfold alE;split<;>simp
   simp only[List.map_cons,List.flatten_cons,List.length_append,List.length_cons]
   omega
 have:=this x.aps
 simp only[enE,List.length_cons,List.length_append,List.length_map]
 omega
theorem f50 (b:Bk) (e:Ev) (hs:SzB b.es):FnOK Tryz.prog G 50 [bkD b,evD e] (db (partB b.es e)):=by
 have hl:=hs.1
 refine FnOK.of_body Tryz.func50 rfl Tryz.call50 ?_
 refine walkK (orc:=orc50 []) (keep:=[]) (cuts:=[]) (n:=1000) follows ?_
 refine of_tr (fun ZT ZW ZQ _=>ZW [cd Tryz.f50 [1,0,1,0],(.blk 0),cd Tryz.f50 [1,1]] (stS ZT []) ZQ) (by kernel_rfl) ?_
 refine AWP.loop (c:=cAt (bodyOf Tryz.f50) [1,0,1,0,0]) (by kernel_rfl) (fun j:Nat=>S50 b e j) (fun j=>j≤b.es.length∧e∉allE (b.es.take j)) (fun j=>b.es.length-j) 0 ?_ ⟨Nat.zero_le _,by simp[allE]⟩ ?_
 ·exact AS.leA (by kernel_rfl)
 rintro j ⟨hj,hn⟩
 by_cases h2:j<b.es.length
 ·have hx:=hs.2 j h2
  have hel:=enE_len hx
  have hal:allE (b.es.take (j+1))=allE (b.es.take j)++enE (b.es.getD j en0):=by
   rw[List.take_succ_eq_append_getElem h2,allE_app,List.getD,gEe h2]
   congr 1
   show ([b.es[j]].map enE).flatten=_
   simp
  have hfull:∀y,y∈allE (b.es.take (j+1))→y∈allE b.es:=fun y hy=>by
   have:allE b.es=allE (b.es.take (j+1))++allE (b.es.drop (j+1)):=by rw[←allE_app,List.take_append_drop]
   rw[this];exact List.mem_append_left _ hy
  have h57:=f57 (G:=G) (b.es.getD j en0) hx
  generalize hlx:enE (b.es.getD j en0)=l at *
  refine walkK (orc:=orc50 l) (keep:=[]) (cuts:=[]) (n:=1000) follows ?_
  refine of_rd (fun ZT ZW ZQ ZK _ ZR=>(fun Za=>((((decide ((↑j:Int)<↑b.es.length))=true)→((((0≤(↑j:Int))∧((↑j:Int)<↑b.es.length))∧ZK 57 [(.agg [(ds Za.k.st),(ds Za.k.ex),(di Za.k.n),(di Za.t),(ds Za.s),(.slc 4 Za.gs.length (gvF Za.gs)),(.slc 6 Za.aps.length (alF Za.aps))])] (.slc 9 l.length (evF l)))∧ZW [cd Tryz.f50 [1,0,1,0,0,1,0,0,1,1,0],(.blk 2),(.blk 1),cd Tryz.f50 [1,0,1,0,0,1,1]] (stS ZT [0]) ZR))∧(((decide ((↑j:Int)<↑b.es.length))=false)→ZW [cd Tryz.f50 [1,1]] (stS ZT [1]) ZQ))) (b.es.getD (↑j:Int).toNat en0)) (by kernel_rfl) ?_
  refine⟨fun _=>⟨⟨⟨by omega,by omega⟩,h57⟩,?_⟩,fun hd=>absurd (of_decide_eq_false hd) (by omega)⟩
  refine AWP.loop (c:=cAt (bodyOf Tryz.f50) [1,0,1,0,0,1,0,0,1,1,0,0]) (by kernel_rfl) (fun k:Nat=>S50i b e j l k) (fun k=>k≤l.length∧e∉l.take k) (fun k=>l.length-k) 0 ?_ ⟨Nat.zero_le _,by simp⟩ ?_
  ·exact AS.leA (by kernel_rfl)
  rintro k ⟨hk,hnk⟩
  by_cases h3:k<l.length
  ·refine walkK (orc:=orc50 l) (keep:=[]) (cuts:=[]) (n:=1000) follows ?_
   refine of_rd (fun ZT ZW ZQ _ ZA _=>(fun Za=>((((decide ((↑k:Int)<↑l.length))=true)→(((0≤(↑k:Int))∧((↑k:Int)<↑l.length))∧((Za=true)→(((db true):DV)=(db (partB b.es e))))∧((Za=false)→((I64 (↑k+1))∧(ZA (stS ZT [0,1]))))))∧(((decide ((↑k:Int)<↑l.length))=false)→ZW [(.blk 1),cd Tryz.f50 [1,0,1,0,0,1,1]] (stS ZT [1]) ZQ))) (Bool.rec false ((l.getD (↑k:Int).toNat ev0).k.st.toList==e.k.st.toList&&((l.getD (↑k:Int).toNat ev0).k.ex.toList==e.k.ex.toList&&(l.getD (↑k:Int).toNat ev0).k.n==e.k.n)&&((l.getD (↑k:Int).toNat ev0).t==e.t&&((l.getD (↑k:Int).toNat ev0).v==e.v&&((l.getD (↑k:Int).toNat ev0).h==e.h&&((l.getD (↑k:Int).toNat ev0).s.toList==e.s.toList&&(l.getD (↑k:Int).toNat ev0).acc==e.acc))))) ((l.getD (↑k:Int).toNat ev0).kind==e.kind))) (by kernel_rfl) ?_
   try dsimp only
   simp only[Int.toNat_natCast,rec_and,evB_eq]
   have hm:l.getD k ev0∈l:=by rw[List.getD,gEe h3];exact List.getElem_mem h3
   refine⟨fun _=>⟨⟨by omega,by omega⟩,fun c=>?_,fun c=>⟨⟨by omega,by omega⟩,Again.mk (k+1) ?_ ⟨h3,?_⟩ (by show l.length-(k+1)<l.length-k;omega)⟩⟩,fun hd=>absurd (of_decide_eq_false hd) (by omega)⟩
   ·have c:=of_decide_eq_true c
    have hp:partB b.es e=true:=decide_eq_true (hfull e (by rw[hal];exact List.mem_append_right _ (by rw[←c];exact hm)))
    rw[hp]
   ·exact AS.leA (by kernel_rfl)
   ·have c:=of_decide_eq_false c
    rw[List.take_succ_eq_append_getElem h3,List.mem_append]
    rintro (q|q)
    ·exact hnk q
    ·have q:=List.mem_singleton.1 q
     refine c ?_
     rw[List.getD,gEe h3]
     exact q.symm
  ·obtain rfl:k=l.length:=by omega
   rw[List.take_length] at hnk
   refine walkK (orc:=orc50 l) (keep:=[]) (cuts:=[8]) (n:=1000) follows ?_
   refine of_rd (fun ZT ZW ZQ _ _ ZR=>((((decide ((↑l.length:Int)<↑l.length))=true)→ZW [cd Tryz.f50 [1,0,1,0,0,1,0,0,1,1,0,0,1,0,0],(.blk 3),cd Tryz.f50 [1,0,1,0,0,1,0,0,1,1,0,0,1,1]] (stS ZT [0]) ZR)∧(((decide ((↑l.length:Int)<↑l.length))=false)→ZW [(.blk 1),cd Tryz.f50 [1,0,1,0,0,1,1]] (stS ZT [1]) ZQ))) (by kernel_rfl) ?_
   refine⟨fun hd=>absurd (of_decide_eq_true hd) (by omega),fun _=>?_⟩
   refine walkK (orc:=orc50 l) (keep:=[]) (cuts:=[]) (n:=1000) follows ?_
   refine of_rd (fun ZT _ _ _ ZA _=>((I64 (↑j+1))∧(ZA (stS ZT [])))) (by kernel_rfl) ?_
   refine⟨⟨by omega,by omega⟩,Again.mk (j+1) ?_ ⟨h2,by rw[hal,List.mem_append];rintro (q|q);exact hn q;exact hnk q⟩ (by show b.es.length-(j+1)<b.es.length-j;omega)⟩
   exact AS.leA (by kernel_rfl)
 ·obtain rfl:j=b.es.length:=by omega
  rw[List.take_length] at hn
  have hp:partB b.es e=false:=decide_eq_false hn
  refine walkK (orc:=orc50 []) (keep:=[]) (cuts:=[4]) (n:=1000) follows ?_
  refine of_rd (fun ZT ZW ZQ _ _ ZR=>((((decide ((↑b.es.length:Int)<↑b.es.length))=true)→ZW [cd Tryz.f50 [1,0,1,0,0,1,0,0],(.blk 1),cd Tryz.f50 [1,0,1,0,0,1,1]] (stS ZT [0]) ZR)∧(((decide ((↑b.es.length:Int)<↑b.es.length))=false)→ZW [cd Tryz.f50 [1,1]] (stS ZT [1]) ZQ))) (by kernel_rfl) ?_
  refine⟨fun hd=>absurd (of_decide_eq_true hd) (by omega),fun _=>?_⟩
  refine walkK (orc:=orc50 []) (keep:=[]) (cuts:=[]) (n:=1000) follows ?_
  refine of_tr (fun _ _ _ _=>(((db false):DV)=(db (partB b.es e)))) (by kernel_rfl) ?_
  rw[hp]
theorem ins_split {e:Ev} {P Q:List Ev} (hP:∀a∈P,a.t≤e.t) (hQ:∀a∈Q,e.t<a.t):ins e (P++Q)=P++e :: Q:=by
 rw[ins_app hQ (.inr (.inr trivial)),ins_max hP,List.append_assoc];rfl
theorem ins_sorted {e:Ev}:∀{l:List Ev},l.Pairwise (fun a b=>a.t≤b.t)→(ins e l).Pairwise (fun a b=>a.t≤b.t)
 | [],_=>by simp[ins]
 | a :: l,h=>by
  obtain ⟨h1,h2⟩:=List.pairwise_cons.1 h
  unfold ins
  split
  ·rename_i c
   refine List.pairwise_cons.2 ⟨fun b hb=>?_,h⟩
   rcases List.mem_cons.1 hb with rfl|hb
   ·omega
   ·have:=h1 b hb;omega
  ·rename_i c
   refine List.pairwise_cons.2 ⟨fun b hb=>?_,ins_sorted h2⟩
   rcases ins_mem.1 hb with rfl|hb
   ·omega
   ·exact h1 b hb
theorem srt_sorted (l:List Ev):(srt l).Pairwise (fun a b=>a.t≤b.t):=by
 suffices h:∀r:List Ev,(srt r.reverse).Pairwise (fun a b=>a.t≤b.t) by
  have:=h l.reverse
  rwa [List.reverse_reverse] at this
 intro r
 induction r with
 | nil=>simp[srt_nil]
 | cons a r ih=>rw[List.reverse_cons,srt_snoc];exact ins_sorted ih
theorem ins_at {e:Ev} {l:List Ev} {j:Nat} (hs:l.Pairwise (fun a b=>a.t≤b.t)) (hj:j≤l.length) (h1:∀i,j≤i→i<l.length→e.t<(l.getD i ev0).t) (h2:j=0∨(l.getD (j-1) ev0).t≤e.t):ins e l=l.take j++e :: l.drop j:=by
 conv=>lhs;rw[←List.take_append_drop j l]
 refine ins_split (fun a ha=>?_) (fun a ha=>?_)
 ·obtain ⟨i,hi,rfl⟩:=List.mem_iff_getElem.1 ha
  rw[List.length_take] at hi
  rw[List.getElem_take]
  have h2:=h2.resolve_left (by omega)
  rw[List.getD,gEe (show j-1<l.length by omega)] at h2
  have h2:l[j-1].t≤e.t:=h2
  by_cases c:i=j-1
  ·subst c;exact h2
  ·have:=List.pairwise_iff_getElem.1 hs i (j-1) (by omega) (by omega) (by omega)
   omega
 ·obtain ⟨i,hi,rfl⟩:=List.mem_iff_getElem.1 ha
  rw[List.length_drop] at hi
  rw[List.getElem_drop]
  have:=h1 (j+i) (by omega) (by omega)
  rw[List.getD,gEe (by omega)] at this
  exact this
noncomputable def S59 (b:Bk) (i:Nat) (m:List Ev):AS:=⟨regs Tryz.f59.ntmps [(1,.box 1 0),(3,.vec 903 9 0 m.length),(4,vi i)],[(1,(bkL b).map .d),(903,[.arr evK 9 (evF m)])]⟩
noncomputable def S59n (b:Bk):AS:=⟨regs Tryz.f59.ntmps [(1,.box 1 0),(3,.vec 9 9 0 0),(4,vi 0)],[(1,(bkL b).map .d),(9,[.arr evK 9 (fun _=>.con undef)])]⟩
noncomputable def S59m (b:Bk) (i:Nat) (m l:List Ev) (k:Nat):AS:=⟨regs Tryz.f59.ntmps [(1,.box 1 0),(3,.vec 903 9 0 m.length),(4,vi i),(5,.d (evsD l)),(6,vi k)],[(1,(bkL b).map .d),(903,[.arr evK 9 (evF m)])]⟩
noncomputable def S59i (b:Bk) (i:Nat) (m l:List Ev) (k j:Nat):AS:=⟨regs Tryz.f59.ntmps [(1,.box 1 0),(3,.vec 903 9 0 m.length),(4,vi i),(5,.d (evsD l)),(6,vi k),(7,vi j)],[(1,(bkL b).map .d),(903,[.arr evK 9 (evF m)])]⟩
def orc59 (l:List Ev):Orc:={ d:=fun f _=>bif Nat.beq f 57 then some (evsD l) else none,rows:=fun n=>Nat.beq n 9||(Nat.beq n 49||(Nat.beq n 54||Nat.beq n 63)) }
noncomputable def S59y (b:Bk) (i:Nat) (l:List Ev) (k:Nat) (f:Nat→DV) (n:Nat):AS:=⟨regs Tryz.f59.ntmps [(1,.box 1 0),(3,.vec 903 9 0 n),(4,vi i),(5,.d (evsD l)),(6,vi k)],[(1,(bkL b).map .d),(903,[.arr evK 9 f])]⟩
def cutF (m:List Ev) (e:Ev) (j:Nat):Nat→DV:=fun i=>bif Nat.blt i (0+Int.toNat ((j:Int)-0)+1) then bif Nat.blt i (0+Int.toNat ((j:Int)-0)) then bif Nat.blt i 0 then DV.con undef else evF m (0+Int.toNat 0+(i-0)) else elemF true 9 (evL e) (0+(i-(0+Int.toNat ((j:Int)-0)))) else bif Nat.blt (0+(i-(0+Int.toNat ((j:Int)-0)+1))) 0 then DV.con undef else evF m (0+Int.toNat (j:Int)+(0+(i-(0+Int.toNat ((j:Int)-0)+1))-0))
theorem cutF_eq (m:List Ev) (e:Ev) {j i:Nat} (hj:j≤m.length) (hi:i<j+1+(m.length-j)):cutF m e j i=evF (m.take j++e :: m.drop j) i:=by
 have ej:0+Int.toNat ((j:Int)-0)=j:=by omega
 unfold cutF
 rw[ej]
 have lt:(m.take j).length=j:=by rw[List.length_take];omega
 by_cases h:i<j+1
 ·rw[show Nat.blt i (j+1)=true from by rw[Nat.blt_eq];exact h,cond_true]
  by_cases h2:i<j
  ·rw[show Nat.blt i j=true from by rw[Nat.blt_eq];exact h2,cond_true,show Nat.blt i 0=false from by cases i<;>rfl,cond_false,show 0+Int.toNat 0+(i-0)=i by omega]
   unfold evF
   rw[List.getD,List.getD,List.getElem?_append_left (by omega),List.getElem?_take_of_lt h2]
  ·obtain rfl:i=j:=by omega
   rw[show Nat.blt i i=false from by rw[Bool.eq_false_iff,ne_eq,Nat.blt_eq];omega,cond_false,Nat.sub_self]
   unfold evF
   rw[List.getD,List.getElem?_append_right (by omega),lt,Nat.sub_self]
   rfl
 ·rw[show Nat.blt i (j+1)=false from by rw[Bool.eq_false_iff,ne_eq,Nat.blt_eq];omega,cond_false,show Nat.blt (0+(i-(j+1))) 0=false from by cases (0+(i-(j+1)))<;>rfl,cond_false,show 0+Int.toNat (j:Int)+(0+(i-(j+1))-0)=i-1 by omega]
  unfold evF
  rw[List.getD,List.getD,List.getElem?_append_right (by omega),lt,show i-j=(i-1-j)+1 by omega,List.getElem?_cons_succ,List.getElem?_drop,show j+(i-1-j)=i-1 by omega]
theorem f59_in (b:Bk) (i:Nat) (m l:List Ev) (k:Nat) (hk:k<l.length) (hm:m.length≤1000000) (hl:l.length≤3000001) (hs:m.Pairwise (fun a b=>a.t≤b.t)) {K:List It} {Q:Exit→AS→Prop} (h:∀j,j≤m.length→ins (l.getD k ev0) m=m.take j++l.getD k ev0 :: m.drop j→AWP Tryz.prog G (cd Tryz.f59 [1,1,0,1,0,0,1,0,0,1,1,0,0,1,0,0,1,1] :: K) (S59i b i m l k j) Q):AWP Tryz.prog G (cd Tryz.f59 [1,1,0,1,0,0,1,0,0,1,1,0,0,1,0,0,1,0,0] :: .blk 4 :: (cd Tryz.f59 [1,1,0,1,0,0,1,0,0,1,1,0,0,1,0,0,1,1] :: K)) (S59i b i m l k m.length) Q:=by
 refine AWP.loop (c:=cAt (bodyOf Tryz.f59) [1,1,0,1,0,0,1,0,0,1,1,0,0,1,0,0,1,0,0,0]) (by kernel_rfl) (fun j:Nat=>S59i b i m l k j) (fun j=>j≤m.length∧∀q,j≤q→q<m.length→(l.getD k ev0).t<(m.getD q ev0).t) (fun j=>j) m.length ?_ ⟨Nat.le_refl _,fun q a c=>by omega⟩ ?_
 ·exact AS.leA (by kernel_rfl)
 rintro j ⟨hj,hq⟩
 refine walkK (orc:={ d:=noO }) (keep:=[]) (cuts:=[12]) (n:=1000) follows ?_
 refine of_rd (fun ZT ZW _ _ ZA _=>(fun Za=>(((((decide ((↑j:Int)>0))=true)→(I64 (↑j-1)))∧(((decide ((↑j:Int)>0))=true)→((0≤(↑j:Int)-1)∧((↑j:Int)-1<↑m.length)))∧(((decide ((↑j:Int)>0))=true)→((0≤(↑k:Int))∧((↑k:Int)<↑l.length))))∧((Za=true)→((I64 (↑j-1))∧(ZA (stS ZT [0]))))∧((Za=false)→ZW (cd Tryz.f59 [1,1,0,1,0,0,1,0,0,1,1,0,0,1,0,0,1,1] :: K) (stS ZT [1]) Q))) (decide ((↑j:Int)>0)&&decide ((m.getD (0+((↑j:Int)-1).toNat) ev0).t>(l.getD (↑k:Int).toNat ev0).t))) (by kernel_rfl) ?_
 refine⟨⟨fun c=>?_,fun c=>?_,fun c=>⟨by omega,by omega⟩⟩,fun c=>?_,fun c=>?_⟩
 ·have:=of_decide_eq_true c;exact⟨by omega,by omega⟩
 ·have:=of_decide_eq_true c;exact⟨by omega,by omega⟩
 ·rw[bAt] at c
  have c1:=of_decide_eq_true c.1
  have c2:=of_decide_eq_true c.2
  rw[show 0+((j:Int)-1).toNat=j-1 by omega,show ((k:Int)).toNat=k from rfl] at c2
  refine⟨⟨by omega,by omega⟩,Again.mk (j-1) ?_ ⟨by omega,fun q a b=>?_⟩ (by omega)⟩
  ·refine AS.leZ [5] [] (b:=((T0∧T0∧T0∧T0∧T0∧((vi (↑j-1)):AV)=(vi (↑(j-1)))∧True)∧T0∧T0∧True)) (by kernel_rfl) (by kernel_rfl) ?_
   exact⟨⟨rfl,rfl,rfl,rfl,rfl,viE (by omega),trivial⟩,rfl,rfl,trivial⟩
  ·by_cases e:q=j-1
   ·subst e;exact c2
   ·exact hq q (by omega) b
 ·refine AWP.weaken ?_ (h j hj (ins_at hs hj hq ?_))
  ·exact AS.leA (by kernel_rfl)
  ·rw[Bool.and_eq_false_iff] at c
   rcases c with c|c
   ·left;have:=of_decide_eq_false c;omega
   ·right
    have:=of_decide_eq_false c
    rw[show 0+((j:Int)-1).toNat=j-1 by omega,show ((k:Int)).toNat=k from rfl] at this
    omega
theorem f59 (b:Bk) (hs:SzB b.es) (hl:(allE b.es).length≤1000000):FnOK Tryz.prog G 59 [bkD b] (evsD (evsB b)):=by
 refine FnOK.of_body Tryz.func59 rfl Tryz.call59 ?_
 refine walkK (orc:=orc59 []) (keep:=[]) (cuts:=[]) (n:=1000) follows ?_
 refine of_tr (fun ZT ZW ZQ _=>ZW [cd Tryz.f59 [1,1,0,1,0],(.blk 0),cd Tryz.f59 [1,1,1]] (stS ZT []) ZQ) (by kernel_rfl) ?_
 refine AWP.weaken (st':=S59n b) ?_ ?_
 ·exact AS.leA (by kernel_rfl)
 refine AWP.pre ((AS.leX.moves [(9,903)] _ rfl).trans ((AS.leX.of_le (st':=⟨(S59 b 0 []).regs,[(1,(bkL b).map .d),(903,[.arr evK 9 (fun _=>.con undef)])]⟩) ?_).trans ((AS.leX.rowF _ 3 903 0 (evF []) rfl rfl rfl (by kernel_rfl) fun i hi=>absurd hi (Nat.not_lt_zero i)).trans (.of_le (st':=S59 b 0 []) ?_)))) ?_
 ·exact AS.leA (by kernel_rfl)
 ·exact AS.leA (by kernel_rfl)
 refine AWP.loop (c:=cAt (bodyOf Tryz.f59) [1,1,0,1,0,0]) (by kernel_rfl) (fun i:Nat=>S59 b i (srt (allE (b.es.take i)))) (fun i=>i≤b.es.length) (fun i=>b.es.length-i) 0 ?_ (Nat.zero_le _) ?_
 ·refine AS.leZ [] [1] (b:=((T0∧T0∧T0∧True)∧T0∧((some [(.arr ⟨true,26,false,none⟩ 9 (evF []))]):(Option (List AV)))=(some [(.arr ⟨true,26,false,none⟩ 9 (evF (srt (allE (List.take 0 b.es)))))])∧True)) (by kernel_rfl) (by kernel_rfl) ?_
  exact⟨⟨rfl,rfl,rfl,trivial⟩,rfl,rfl,trivial⟩
 intro i hi
 by_cases h2:i<b.es.length
 ·have hx:=hs.2 i h2
  have h57:=f57 (G:=G) (b.es.getD i en0) hx
  generalize hlx:enE (b.es.getD i en0)=l at *
  refine walkK (orc:=orc59 l) (keep:=[]) (cuts:=[]) (n:=1000) follows ?_
  refine of_rd (fun ZT ZW ZQ ZK _ ZR=>(fun Za=>((((decide ((↑i:Int)<↑b.es.length))=true)→((((0≤(↑i:Int))∧((↑i:Int)<↑b.es.length))∧ZK 57 [(.agg [(ds Za.k.st),(ds Za.k.ex),(di Za.k.n),(di Za.t),(ds Za.s),(.slc 4 Za.gs.length (gvF Za.gs)),(.slc 6 Za.aps.length (alF Za.aps))])] (.slc 9 l.length (evF l)))∧ZW [cd Tryz.f59 [1,1,0,1,0,0,1,0,0,1,1,0],(.blk 2),(.blk 1),cd Tryz.f59 [1,1,0,1,0,0,1,1]] (stS ZT [0]) ZR))∧(((decide ((↑i:Int)<↑b.es.length))=false)→ZW [cd Tryz.f59 [1,1,1]] (stS ZT [1]) ZQ))) (b.es.getD (↑i:Int).toNat en0)) (by kernel_rfl) ?_
  try dsimp only
  have hel:=enE_len hx
  rw[hlx] at hel
  have hal:allE (b.es.take (i+1))=allE (b.es.take i)++l:=by
   rw[List.take_succ_eq_append_getElem h2,allE_app,←hlx,List.getD,gEe h2]
   congr 1
   show ([b.es[i]].map enE).flatten=_
   simp
  have hbl:(allE (b.es.take i)).length+l.length≤1000000:=by
   have:allE b.es=allE (b.es.take (i+1))++allE (b.es.drop (i+1)):=by rw[←allE_app,List.take_append_drop]
   rw[this,hal,List.length_append,List.length_append] at hl
   omega
  refine⟨fun _=>⟨⟨⟨by omega,by omega⟩,h57⟩,?_⟩,fun hd=>absurd (of_decide_eq_false hd) (by omega)⟩
  refine AWP.loop (c:=cAt (bodyOf Tryz.f59) [1,1,0,1,0,0,1,0,0,1,1,0,0]) (by kernel_rfl) (fun k:Nat=>S59m b i (srt (allE (b.es.take i)++l.take k)) l k) (fun k=>k≤l.length) (fun k=>l.length-k) 0 ?_ (Nat.zero_le _) ?_
  ·refine AS.leZ [1] [1] (b:=((T0∧((.vec 903 9 0 (srt (allE (List.take i b.es))).length):AV)=(.vec 903 9 0 (srt (allE (List.take i b.es)++List.take 0 l)).length)∧T0∧T0∧T0∧True)∧T0∧((some [(.arr ⟨true,26,false,none⟩ 9 (evF (srt (allE (List.take i b.es)))))]):(Option (List AV)))=(some [(.arr ⟨true,26,false,none⟩ 9 (evF (srt (allE (List.take i b.es)++List.take 0 l))))])∧True)) (by kernel_rfl) (by kernel_rfl) ?_
   rw[List.take_zero,List.append_nil]
   exact⟨⟨rfl,rfl,rfl,rfl,rfl,trivial⟩,rfl,rfl,trivial⟩
  intro k hk
  by_cases h3:k<l.length
  ·have hm1:(srt (allE (b.es.take i)++l.take k)).length≤1000000:=by
    rw[srt_len,List.length_append,List.length_take];omega
   have hst:=srt_sorted (allE (b.es.take i)++l.take k)
   have hnx:srt (allE (b.es.take i)++l.take (k+1))=ins (l.getD k ev0) (srt (allE (b.es.take i)++l.take k)):=by
    rw[List.take_succ_eq_append_getElem h3,←List.append_assoc,srt_snoc,List.getD,gEe h3];rfl
   generalize srt (allE (b.es.take i)++l.take k)=m at *
   refine walkK (orc:=orc59 l) (keep:=[]) (cuts:=[10]) (n:=1000) follows ?_
   refine of_rd (fun ZT ZW ZQ _ _ ZR=>((((decide ((↑k:Int)<↑l.length))=true)→ZW [cd Tryz.f59 [1,1,0,1,0,0,1,0,0,1,1,0,0,1,0,0,1,0,0],(.blk 4),cd Tryz.f59 [1,1,0,1,0,0,1,0,0,1,1,0,0,1,0,0,1,1],(.blk 3),cd Tryz.f59 [1,1,0,1,0,0,1,0,0,1,1,0,0,1,1]] (stS ZT [0]) ZR)∧(((decide ((↑k:Int)<↑l.length))=false)→ZW [(.blk 1),cd Tryz.f59 [1,1,0,1,0,0,1,1]] (stS ZT [1]) ZQ))) (by kernel_rfl) ?_
   refine⟨fun _=>?_,fun hd=>absurd (of_decide_eq_false hd) (by omega)⟩
   refine AWP.weaken (st':=S59i b i m l k m.length) ?_ (f59_in b i m l k h3 hm1 hel hst fun j hj hins=>?_)
   ·exact AS.leA (by kernel_rfl)
   refine walkK (orc:=orc59 l) (keep:=[]) (cuts:=[]) (n:=1000) follows ?_
   refine of_rd (fun ZT _ _ _ ZA _=>(fun Za=>((((0≤(↑j:Int))∧((↑j:Int)≤↑m.length)∧((↑m.length:Int)≤↑m.length))∧(Za*96≤1099511627776)∧(0+((↑m.length:Int) - ↑j).toNat≤1099511627776))∧((((0:Int)≤(0:Int))∧(0≤(↑j:Int))∧((↑j:Int)≤↑m.length))∧(((0+((↑j:Int)-0).toNat)*96≤1099511627776)∧(0+((↑j:Int)-0).toNat≤1099511627776))∧((0≤(↑k:Int))∧((↑k:Int)<↑l.length))∧(((0+((↑j:Int)-0).toNat+1)*96≤1099511627776)∧(0+((↑j:Int)-0).toNat+1≤1099511627776))∧((0+((↑j:Int)-0).toNat+1+Za)*96≤1099511627776)∧(0+((↑j:Int)-0).toNat+1+Za≤1099511627776))∧(I64 (↑k+1))∧(ZA (stS ZT [])))) (0+((↑m.length:Int) - ↑j).toNat)) (by kernel_rfl) ?_
   try dsimp only
   rw[show ((m.length:Int)-(j:Int)).toNat=m.length-j by omega,show ((j:Int)-0).toNat=j by omega]
   refine⟨⟨⟨by omega,by omega,by omega⟩,by omega,by omega⟩,⟨⟨by omega,by omega,by omega⟩,⟨by omega,by omega⟩,⟨by omega,by omega⟩,⟨by omega,by omega⟩,by omega,by omega⟩,⟨by omega,by omega⟩,k+1,?_,h3,show l.length-(k+1)<l.length-k from by omega⟩
   show AS.leX _ (S59m b i (srt (allE (b.es.take i)++l.take (k+1))) l (k+1))
   rw[hnx,hins]
   have hlm:(m.take j++l.getD k ev0 :: m.drop j).length=j+1+(m.length-j):=by
    rw[List.length_append,List.length_cons,List.length_take,List.length_drop];omega
   refine(AS.leX.moves [(66,903)] _ rfl).trans ((AS.leX.of_le (st':=S59y b i l (k+1) (cutF m (l.getD k ev0) j) (j+1+(m.length-j))) ?_).trans ((AS.leX.rowF _ 3 903 (j+1+(m.length-j)) (evF (m.take j++l.getD k ev0 :: m.drop j)) rfl rfl rfl (by kernel_rfl) fun i hi=>cutF_eq m _ hj hi).trans (.of_le ?_)))
   ·refine AS.leZ [1] [1] (b:=((T0∧((.vec 903 9 0 (0+((↑j:Int)-0).toNat+1+(0+((↑m.length:Int) - ↑j).toNat))):AV)=(.vec 903 9 0 (j+1+(m.length-j)))∧T0∧T0∧T0∧True)∧T0∧((some [(.arr ⟨true,26,false,none⟩ 9 (fun i=>bif Nat.blt i (0+Int.toNat ((↑j:Int)-0)+1) then bif Nat.blt i (0+Int.toNat ((↑j:Int)-0)) then bif Nat.blt i 0 then DV.con undef else evF m (0+Int.toNat 0+(i-0)) else elemF true 9 [DV.con (Value.int IntKind.i64 (Ev.kind (List.getD l (Int.toNat (↑k:Int)) ev0))),DV.con (Value.string (Ky.st (Ev.k (List.getD l (Int.toNat (↑k:Int)) ev0)))),DV.con (Value.string (Ky.ex (Ev.k (List.getD l (Int.toNat (↑k:Int)) ev0)))),DV.con (Value.int IntKind.i64 (Ky.n (Ev.k (List.getD l (Int.toNat (↑k:Int)) ev0)))),DV.con (Value.int IntKind.i64 (Ev.t (List.getD l (Int.toNat (↑k:Int)) ev0))),DV.con (Value.int IntKind.i64 (Ev.v (List.getD l (Int.toNat (↑k:Int)) ev0))),DV.con (Value.int IntKind.i64 (Ev.h (List.getD l (Int.toNat (↑k:Int)) ev0))),DV.con (Value.string (Ev.s (List.getD l (Int.toNat (↑k:Int)) ev0))),DV.con (Value.bool (Ev.acc (List.getD l (Int.toNat (↑k:Int)) ev0)))] (0+(i-(0+Int.toNat ((↑j:Int)-0)))) else bif Nat.blt (0+(i-(0+Int.toNat ((↑j:Int)-0)+1))) 0 then DV.con undef else evF m (0+Int.toNat (↑j:Int)+(0+(i-(0+Int.toNat ((↑j:Int)-0)+1))-0))))]):(Option (List AV)))=(some [(.arr ⟨true,26,false,none⟩ 9 (cutF m (l.getD k ev0) j))])∧True)) (by kernel_rfl) (by kernel_rfl) ?_
    exact⟨⟨rfl,congrArg (AV.vec 903 9 0) (by omega),rfl,rfl,rfl,trivial⟩,rfl,rfl,trivial⟩
   ·refine AS.leZ [1] [] (b:=((T0∧((.vec 903 9 0 (j+1+(m.length-j))):AV)=(.vec 903 9 0 (List.take j m++l.getD k ev0 :: List.drop j m).length)∧T0∧T0∧T0∧True)∧T0∧T0∧True)) (by kernel_rfl) (by kernel_rfl) ?_
    exact⟨⟨rfl,congrArg (AV.vec 903 9 0) hlm.symm,rfl,rfl,rfl,trivial⟩,rfl,rfl,trivial⟩
  ·obtain rfl:k=l.length:=by omega
   rw[List.take_length,←hal]
   refine walkK (orc:=orc59 l) (keep:=[]) (cuts:=[9]) (n:=1000) follows ?_
   refine of_rd (fun ZT ZW ZQ _ _ ZR=>((((decide ((↑l.length:Int)<↑l.length))=true)→ZW [cd Tryz.f59 [1,1,0,1,0,0,1,0,0,1,1,0,0,1,0,0],(.blk 3),cd Tryz.f59 [1,1,0,1,0,0,1,0,0,1,1,0,0,1,1]] (stS ZT [0]) ZR)∧(((decide ((↑l.length:Int)<↑l.length))=false)→ZW [(.blk 1),cd Tryz.f59 [1,1,0,1,0,0,1,1]] (stS ZT [1]) ZQ))) (by kernel_rfl) ?_
   refine⟨fun hd=>absurd (of_decide_eq_true hd) (by omega),fun _=>?_⟩
   refine walkK (orc:=orc59 l) (keep:=[]) (cuts:=[]) (n:=1000) follows ?_
   refine of_rd (fun ZT _ _ _ ZA _=>((I64 (↑i+1))∧(ZA (stS ZT [])))) (by kernel_rfl) ?_
   have hlb:=hs.1
   refine⟨⟨by omega,by omega⟩,Again.mk (i+1) ?_ h2 (by omega)⟩
   exact AS.leA (by kernel_rfl)
 ·obtain rfl:i=b.es.length:=by omega
  rw[List.take_length]
  refine walkK (orc:=orc59 []) (keep:=[]) (cuts:=[5]) (n:=1000) follows ?_
  refine of_rd (fun ZT ZW ZQ _ _ ZR=>((((decide ((↑b.es.length:Int)<↑b.es.length))=true)→ZW [cd Tryz.f59 [1,1,0,1,0,0,1,0,0],(.blk 1),cd Tryz.f59 [1,1,0,1,0,0,1,1]] (stS ZT [0]) ZR)∧(((decide ((↑b.es.length:Int)<↑b.es.length))=false)→ZW [cd Tryz.f59 [1,1,1]] (stS ZT [1]) ZQ))) (by kernel_rfl) ?_
  refine⟨fun hd=>absurd (of_decide_eq_true hd) (by omega),fun _=>?_⟩
  refine walkK (orc:=orc59 []) (keep:=[]) (cuts:=[]) (n:=1000) follows ?_
  refine of_tr (fun _ _ _ _=>(((.slc 9 (srt (allE b.es)).length (fun i=>evF (srt (allE b.es)) (0+i))):DV)=(evsD (evsB b)))) (by kernel_rfl) ?_
  exact congrArg (DV.slc 9 _) (funext fun i=>by rw[Nat.zero_add];rfl)
end Go.Proofs
namespace Go.Proofs
open Go Go.Ab
end Go.Proofs
namespace Go.Proofs
open Go.Shelf
end Go.Proofs
namespace Go.Proofs
open Go Go.Ab Go.RowKit
variable {G:IH}
end Go.Proofs
namespace Go.Proofs
open Go Go.Ab Go.RowKit
variable {G:IH} {w:World}
end Go.Proofs
