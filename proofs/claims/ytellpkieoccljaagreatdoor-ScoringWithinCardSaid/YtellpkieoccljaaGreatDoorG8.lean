import Derived.Test.YtellpkieoccljaaGreatDoorAcD
import Derived.Test.YtellpkieoccljaaGreatDoorG7
import Derived.Test.YtellpkieoccljaaGreatDoorG2
import Derived.Test.YtellpkieoccljaaGreatDoorG6
import Derived.Test.YtellpkieoccljaaGreatDoorG3
import Derived.Test.YtellpkieoccljaaGreatDoorG0
import Derived.Test.YtellpkieoccljaaGreatDoorRows
import Derived.Lib.LaidTab
import Derived.ProofKit
import Derived.LaidMore
import Derived.OpenShut
import Derived.Stop.Joined
set_option autoImplicit false
namespace Go.Proofs
open Go Go.Ab Go.RowKit
set_option maxHeartbeats 4000000
set_option maxRecDepth 100000
variable {G:IH}
theorem abM (L:List Ft) (m:Nat) (x:Ex) (V:Nat→Ft) (n:Nat):aC Tryz.prog G [cd Tryz.f50 [1,1,1,0,1,0,1,0],.blk 2,cd Tryz.f50 [1,1,1,1]] (jr L m x n V) (fF Tryz.prog Tryz.f50 (.au [eX { eY 0 with n:=x.n,d:=x.d },di 0])):=by
 refine aK (ay:=kL) (keep:=[]) (cuts:=[]) (n:=1000) follows ?_
 refine aA (fun _ _ _ ZK=>(ZK 86 [(.agg [(di x.n),(di x.d)]),(di 0)] (.au [(.agg [(ds ByteArray.empty),(di 0),(di x.n),(di x.d),(db false),(ds ByteArray.empty)]),(di 0)])∧(ZS ((.au [(eX (let __src:=eY 0;Ft.mk __src.nm __src.kind x.n x.d __src.tr __src.wd)),(di 0)]):DV)))) (by kernel_rfl) ?_
 exact⟨f86 _ _ _,rfl⟩
theorem Zo (L:List Ft) (m:Nat) (x:Ex) (V:Nat→Ft) (n:Nat) (hn:0<n):aC Tryz.prog G [cd Tryz.f50 [1,1,1,0,1,0,1,1,1,1,1,1,1,1,1,1,1,1,1,1,1,1,1,1,1,0],.blk 2,cd Tryz.f50 [1,1,1,1]] (jr L m x n V) (fF Tryz.prog Tryz.f50 (.au [eX { eY 1 with tr:=!(V 0).tr },di 0])):=by
 refine aK (ay:=kL) (keep:=[]) (cuts:=[]) (n:=1000) follows ?_
 refine aA (fun _ _ _ ZK=>(fun Za=>(((((0:Int)≤(0:Int))∧(0<(↑n:Int)))∧ZK 87 [(db (!(V (0+Int.toNat 0)).tr))] Za)∧(Za:DV)=(.au [(eX (let __src:=eY 1;Ft.mk __src.nm __src.kind __src.n __src.d (!(V 0).tr) __src.wd)),(di 0)]))) ((.au [(.agg [(ds ByteArray.empty),(di 1),(di 0),(di 0),(db (!(V (0+Int.toNat 0)).tr)),(ds ByteArray.empty)]),(di 0)]):DV)) (by kernel_rfl) ?_
 refine⟨⟨⟨by omega,by omega⟩,f87 _⟩,rfl⟩
theorem UY (L:List Ft) (m:Nat) (x:Ex) (V:Nat→Ft) (n:Nat) :aC Tryz.prog G [cd Tryz.f50 [1,1,1,0,1,0,1,1,1,0],.blk 2,cd Tryz.f50 [1,1,1,1]] (jr L m x n V) (fF Tryz.prog Tryz.f50 (.au [eX { eY 1 with tr:=x.k==3 },di 0])):=by
 refine aK (ay:=kL) (keep:=[]) (cuts:=[]) (n:=1000) follows ?_
 refine aA (fun _ _ _ ZK=>(ZK 87 [(db (x.k==3))] (.au [(.agg [(ds ByteArray.empty),(di 1),(di 0),(di 0),(db (x.k==3)),(ds ByteArray.empty)]),(di 0)])∧(ZS ((.au [(eX (let __src:=eY 1;Ft.mk __src.nm __src.kind __src.n __src.d (x.k==3) __src.wd)),(di 0)]):DV)))) (by kernel_rfl) ?_
 exact⟨f87 _,rfl⟩
theorem aa9 (L:List Ft) (m:Nat) (x:Ex) (V:Nat→Ft) (n:Nat) (hn:0<n):aC Tryz.prog G [cd Tryz.f50 [1,1,1,0,1,0,1,1,1,1,1,1,1,0],.blk 2,cd Tryz.f50 [1,1,1,1]] (jr L m x n V) (fF Tryz.prog Tryz.f50 (.au [eX { eY 0 with n:=(if ok (V 0).n (V 0).d then -(V 0).n else (V 0).n),d:=(V 0).d },di 0])):=by
 refine aK (ay:=kL) (keep:=[]) (cuts:=[]) (n:=1000) follows ?_
 refine aA (fun _ _ _ ZK=>(((((0:Int)≤(0:Int))∧(0<(↑n:Int)))∧ZK 88 [(.agg [(di (V (0+Int.toNat 0)).n),(di (V (0+Int.toNat 0)).d)])] (.agg [(di (if ok (V (0+Int.toNat 0)).n (V (0+Int.toNat 0)).d=true then -(V (0+Int.toNat 0)).n else (V (0+Int.toNat 0)).n)),(di (V (0+Int.toNat 0)).d)])∧ZK 86 [(.agg [(di (if ok (V (0+Int.toNat 0)).n (V (0+Int.toNat 0)).d=true then -(V (0+Int.toNat 0)).n else (V (0+Int.toNat 0)).n)),(di (V (0+Int.toNat 0)).d)]),(di 0)] (.au [(.agg [(ds ByteArray.empty),(di 0),(di (if ok (V (0+Int.toNat 0)).n (V (0+Int.toNat 0)).d=true then -(V (0+Int.toNat 0)).n else (V (0+Int.toNat 0)).n)),(di (V (0+Int.toNat 0)).d),(db false),(ds ByteArray.empty)]),(di 0)]))∧((.au [(.agg [(ds ByteArray.empty),(di 0),(di (if ok (V (0+Int.toNat 0)).n (V (0+Int.toNat 0)).d=true then -(V (0+Int.toNat 0)).n else (V (0+Int.toNat 0)).n)),(di (V (0+Int.toNat 0)).d),(db false),(ds ByteArray.empty)]),(di 0)]):DV)=(.au [(eX (let __src:=eY 0;Ft.mk __src.nm __src.kind (if ok (V 0).n (V 0).d=true then -(V 0).n else (V 0).n) (V 0).d __src.tr __src.wd)),(di 0)]))) (by kernel_rfl) ?_
 exact⟨⟨⟨by omega,by omega⟩,f88 _ _,f86 _ _ _⟩,rfl⟩
theorem NJ (L:List Ft) (m:Nat) (x:Ex) (V:Nat→Ft) (n:Nat) (hn:1<n):aC Tryz.prog G [cd Tryz.f50 [1,1,1,0,1,0,1,1,1,1,1,1,1,1,1,1,1,1,1,1,1,1,1,1,1,1,1,0],.blk 2,cd Tryz.f50 [1,1,1,1]] (jr L m x n V) (fF Tryz.prog Tryz.f50 (.au [eX (V 1),di 0])):=by
 refine aK (ay:=kL) (keep:=[]) (cuts:=[]) (n:=1000) follows ?_
 refine aA (fun _ _ _ _=>((((0:Int)≤(1:Int))∧(1<(↑n:Int)))∧((.au [(.agg [(ds (V (0+Int.toNat 1)).nm),(di (V (0+Int.toNat 1)).kind),(di (V (0+Int.toNat 1)).n),(di (V (0+Int.toNat 1)).d),(db (V (0+Int.toNat 1)).tr),(ds (V (0+Int.toNat 1)).wd)]),(di 0)]):DV)=(.au [(eX (V 1)),(di 0)]))) (by kernel_rfl) ?_
 exact⟨⟨by omega,by omega⟩,rfl⟩
theorem abe (L:List Ft) (m:Nat) (x:Ex) (V:Nat→Ft) (n:Nat) (hn:1<n):aC Tryz.prog G [cd Tryz.f50 [1,1,1,0,1,0,1,1,1,1,1,1,1,1,1,0],.blk 2,cd Tryz.f50 [1,1,1,1]] (jr L m x n V) (fF Tryz.prog Tryz.f50 (.au [eX (if (dG (V 0).n (V 0).d (V 1).n (V 1).d).2.2=0 then { eY 0 with n:=(dG (V 0).n (V 0).d (V 1).n (V 1).d).1,d:=(dG (V 0).n (V 0).d (V 1).n (V 1).d).2.1 } else aJ),di (if (dG (V 0).n (V 0).d (V 1).n (V 1).d).2.2=0 then 0 else 2)])):=by
 refine aK (ay:=kL) (keep:=[]) (cuts:=[]) (n:=1000) follows ?_
 refine aA (fun _ _ _ ZK=>(fun Za Zb=>(((((0:Int)≤(0:Int))∧(0<(↑n:Int)))∧(((0:Int)≤(1:Int))∧(1<(↑n:Int)))∧ZK 89 [(.agg [(di (V (0+Int.toNat 0)).n),(di (V (0+Int.toNat 0)).d)]),(.agg [(di (V (0+Int.toNat 1)).n),(di (V (0+Int.toNat 1)).d)])] (.au [(.agg [(di Za.fst),(di Za.snd.fst)]),(di Za.snd.snd)])∧ZK 86 [(.agg [(di Za.fst),(di Za.snd.fst)]),(di Za.snd.snd)] (.au [(.agg [(ds (if Za.snd.snd=0 then Ft.mk ByteArray.empty 0 Za.fst Za.snd.fst false ByteArray.empty else aJ).nm),(di (if Za.snd.snd=0 then Ft.mk ByteArray.empty 0 Za.fst Za.snd.fst false ByteArray.empty else aJ).kind),(di (if Za.snd.snd=0 then Ft.mk ByteArray.empty 0 Za.fst Za.snd.fst false ByteArray.empty else aJ).n),(di (if Za.snd.snd=0 then Ft.mk ByteArray.empty 0 Za.fst Za.snd.fst false ByteArray.empty else aJ).d),(db (if Za.snd.snd=0 then Ft.mk ByteArray.empty 0 Za.fst Za.snd.fst false ByteArray.empty else aJ).tr),(ds (if Za.snd.snd=0 then Ft.mk ByteArray.empty 0 Za.fst Za.snd.fst false ByteArray.empty else aJ).wd)]),(di (if Za.snd.snd=0 then 0 else 2))]))∧((.au [(.agg [(ds (if Za.snd.snd=0 then Ft.mk ByteArray.empty 0 Za.fst Za.snd.fst false ByteArray.empty else aJ).nm),(di (if Za.snd.snd=0 then Ft.mk ByteArray.empty 0 Za.fst Za.snd.fst false ByteArray.empty else aJ).kind),(di (if Za.snd.snd=0 then Ft.mk ByteArray.empty 0 Za.fst Za.snd.fst false ByteArray.empty else aJ).n),(di (if Za.snd.snd=0 then Ft.mk ByteArray.empty 0 Za.fst Za.snd.fst false ByteArray.empty else aJ).d),(db (if Za.snd.snd=0 then Ft.mk ByteArray.empty 0 Za.fst Za.snd.fst false ByteArray.empty else aJ).tr),(ds (if Za.snd.snd=0 then Ft.mk ByteArray.empty 0 Za.fst Za.snd.fst false ByteArray.empty else aJ).wd)]),(di (if Za.snd.snd=0 then 0 else 2))]):DV)=(.au [(eX (if Zb.snd.snd=0 then let __src:=eY 0;Ft.mk __src.nm __src.kind Zb.fst Zb.snd.fst __src.tr __src.wd else aJ)),(di (if Zb.snd.snd=0 then 0 else 2))]))) (dG (V (0+Int.toNat 0)).n (V (0+Int.toNat 0)).d (V (0+Int.toNat 1)).n (V (0+Int.toNat 1)).d) (dG (V 0).n (V 0).d (V 1).n (V 1).d)) (by kernel_rfl) ?_
 exact⟨⟨⟨by omega,by omega⟩,⟨by omega,by omega⟩,f89 _ _ _ _,f86 _ _ _⟩,rfl⟩
theorem abm (L:List Ft) (m:Nat) (x:Ex) (V:Nat→Ft) (n:Nat) (hn:1<n):aC Tryz.prog G [cd Tryz.f50 [1,1,1,0,1,0,1,1,1,1,1,1,1,1,1,1,1,0],.blk 2,cd Tryz.f50 [1,1,1,1]] (jr L m x n V) (fF Tryz.prog Tryz.f50 (.au [eX (if (bD (V 0).n (V 0).d (V 1).n (V 1).d).2.2=0 then { eY 0 with n:=(bD (V 0).n (V 0).d (V 1).n (V 1).d).1,d:=(bD (V 0).n (V 0).d (V 1).n (V 1).d).2.1 } else aJ),di (if (bD (V 0).n (V 0).d (V 1).n (V 1).d).2.2=0 then 0 else 2)])):=by
 refine aK (ay:=kL) (keep:=[]) (cuts:=[]) (n:=1000) follows ?_
 refine aA (fun _ _ _ ZK=>(fun Za Zb=>(((((0:Int)≤(0:Int))∧(0<(↑n:Int)))∧(((0:Int)≤(1:Int))∧(1<(↑n:Int)))∧ZK 90 [(.agg [(di (V (0+Int.toNat 0)).n),(di (V (0+Int.toNat 0)).d)]),(.agg [(di (V (0+Int.toNat 1)).n),(di (V (0+Int.toNat 1)).d)])] (.au [(.agg [(di Za.fst),(di Za.snd.fst)]),(di Za.snd.snd)])∧ZK 86 [(.agg [(di Za.fst),(di Za.snd.fst)]),(di Za.snd.snd)] (.au [(.agg [(ds (if Za.snd.snd=0 then Ft.mk ByteArray.empty 0 Za.fst Za.snd.fst false ByteArray.empty else aJ).nm),(di (if Za.snd.snd=0 then Ft.mk ByteArray.empty 0 Za.fst Za.snd.fst false ByteArray.empty else aJ).kind),(di (if Za.snd.snd=0 then Ft.mk ByteArray.empty 0 Za.fst Za.snd.fst false ByteArray.empty else aJ).n),(di (if Za.snd.snd=0 then Ft.mk ByteArray.empty 0 Za.fst Za.snd.fst false ByteArray.empty else aJ).d),(db (if Za.snd.snd=0 then Ft.mk ByteArray.empty 0 Za.fst Za.snd.fst false ByteArray.empty else aJ).tr),(ds (if Za.snd.snd=0 then Ft.mk ByteArray.empty 0 Za.fst Za.snd.fst false ByteArray.empty else aJ).wd)]),(di (if Za.snd.snd=0 then 0 else 2))]))∧((.au [(.agg [(ds (if Za.snd.snd=0 then Ft.mk ByteArray.empty 0 Za.fst Za.snd.fst false ByteArray.empty else aJ).nm),(di (if Za.snd.snd=0 then Ft.mk ByteArray.empty 0 Za.fst Za.snd.fst false ByteArray.empty else aJ).kind),(di (if Za.snd.snd=0 then Ft.mk ByteArray.empty 0 Za.fst Za.snd.fst false ByteArray.empty else aJ).n),(di (if Za.snd.snd=0 then Ft.mk ByteArray.empty 0 Za.fst Za.snd.fst false ByteArray.empty else aJ).d),(db (if Za.snd.snd=0 then Ft.mk ByteArray.empty 0 Za.fst Za.snd.fst false ByteArray.empty else aJ).tr),(ds (if Za.snd.snd=0 then Ft.mk ByteArray.empty 0 Za.fst Za.snd.fst false ByteArray.empty else aJ).wd)]),(di (if Za.snd.snd=0 then 0 else 2))]):DV)=(.au [(eX (if Zb.snd.snd=0 then let __src:=eY 0;Ft.mk __src.nm __src.kind Zb.fst Zb.snd.fst __src.tr __src.wd else aJ)),(di (if Zb.snd.snd=0 then 0 else 2))]))) (bD (V (0+Int.toNat 0)).n (V (0+Int.toNat 0)).d (V (0+Int.toNat 1)).n (V (0+Int.toNat 1)).d) (bD (V 0).n (V 0).d (V 1).n (V 1).d)) (by kernel_rfl) ?_
 exact⟨⟨⟨by omega,by omega⟩,⟨by omega,by omega⟩,f90 _ _ _ _,f86 _ _ _⟩,rfl⟩
theorem abK (L:List Ft) (m:Nat) (x:Ex) (V:Nat→Ft) (n:Nat) (hn:1<n):aC Tryz.prog G [cd Tryz.f50 [1,1,1,0,1,0,1,1,1,1,1,1,1,1,1,1,1,1,1,0],.blk 2,cd Tryz.f50 [1,1,1,1]] (jr L m x n V) (fF Tryz.prog Tryz.f50 (.au [eX (if (bY (V 0).n (V 0).d (V 1).n (V 1).d).2.2=0 then { eY 0 with n:=(bY (V 0).n (V 0).d (V 1).n (V 1).d).1,d:=(bY (V 0).n (V 0).d (V 1).n (V 1).d).2.1 } else aJ),di (if (bY (V 0).n (V 0).d (V 1).n (V 1).d).2.2=0 then 0 else 2)])):=by
 refine aK (ay:=kL) (keep:=[]) (cuts:=[]) (n:=1000) follows ?_
 refine aA (fun _ _ _ ZK=>(fun Za Zb=>(((((0:Int)≤(0:Int))∧(0<(↑n:Int)))∧(((0:Int)≤(1:Int))∧(1<(↑n:Int)))∧ZK 91 [(.agg [(di (V (0+Int.toNat 0)).n),(di (V (0+Int.toNat 0)).d)]),(.agg [(di (V (0+Int.toNat 1)).n),(di (V (0+Int.toNat 1)).d)])] (.au [(.agg [(di Za.fst),(di Za.snd.fst)]),(di Za.snd.snd)])∧ZK 86 [(.agg [(di Za.fst),(di Za.snd.fst)]),(di Za.snd.snd)] (.au [(.agg [(ds (if Za.snd.snd=0 then Ft.mk ByteArray.empty 0 Za.fst Za.snd.fst false ByteArray.empty else aJ).nm),(di (if Za.snd.snd=0 then Ft.mk ByteArray.empty 0 Za.fst Za.snd.fst false ByteArray.empty else aJ).kind),(di (if Za.snd.snd=0 then Ft.mk ByteArray.empty 0 Za.fst Za.snd.fst false ByteArray.empty else aJ).n),(di (if Za.snd.snd=0 then Ft.mk ByteArray.empty 0 Za.fst Za.snd.fst false ByteArray.empty else aJ).d),(db (if Za.snd.snd=0 then Ft.mk ByteArray.empty 0 Za.fst Za.snd.fst false ByteArray.empty else aJ).tr),(ds (if Za.snd.snd=0 then Ft.mk ByteArray.empty 0 Za.fst Za.snd.fst false ByteArray.empty else aJ).wd)]),(di (if Za.snd.snd=0 then 0 else 2))]))∧((.au [(.agg [(ds (if Za.snd.snd=0 then Ft.mk ByteArray.empty 0 Za.fst Za.snd.fst false ByteArray.empty else aJ).nm),(di (if Za.snd.snd=0 then Ft.mk ByteArray.empty 0 Za.fst Za.snd.fst false ByteArray.empty else aJ).kind),(di (if Za.snd.snd=0 then Ft.mk ByteArray.empty 0 Za.fst Za.snd.fst false ByteArray.empty else aJ).n),(di (if Za.snd.snd=0 then Ft.mk ByteArray.empty 0 Za.fst Za.snd.fst false ByteArray.empty else aJ).d),(db (if Za.snd.snd=0 then Ft.mk ByteArray.empty 0 Za.fst Za.snd.fst false ByteArray.empty else aJ).tr),(ds (if Za.snd.snd=0 then Ft.mk ByteArray.empty 0 Za.fst Za.snd.fst false ByteArray.empty else aJ).wd)]),(di (if Za.snd.snd=0 then 0 else 2))]):DV)=(.au [(eX (if Zb.snd.snd=0 then let __src:=eY 0;Ft.mk __src.nm __src.kind Zb.fst Zb.snd.fst __src.tr __src.wd else aJ)),(di (if Zb.snd.snd=0 then 0 else 2))]))) (bY (V (0+Int.toNat 0)).n (V (0+Int.toNat 0)).d (V (0+Int.toNat 1)).n (V (0+Int.toNat 1)).d) (bY (V 0).n (V 0).d (V 1).n (V 1).d)) (by kernel_rfl) ?_
 exact⟨⟨⟨by omega,by omega⟩,⟨by omega,by omega⟩,f91 _ _ _ _,f86 _ _ _⟩,rfl⟩
theorem acj (L:List Ft) (m:Nat) (x:Ex) (V:Nat→Ft) (n:Nat) (hn:1<n):aC Tryz.prog G [cd Tryz.f50 [1,1,1,0,1,0,1,1,1,1,1,1,1,1,1,1,1,1,1,1,1,0],.blk 2,cd Tryz.f50 [1,1,1,1]] (jr L m x n V) (fF Tryz.prog Tryz.f50 (.au [eX (if (dD (V 0).n (V 0).d (V 1).n (V 1).d).2.2=0 then { eY 0 with n:=(dD (V 0).n (V 0).d (V 1).n (V 1).d).1,d:=(dD (V 0).n (V 0).d (V 1).n (V 1).d).2.1 } else aJ),di (if (dD (V 0).n (V 0).d (V 1).n (V 1).d).2.2=0 then 0 else 2)])):=by
 refine aK (ay:=kL) (keep:=[]) (cuts:=[]) (n:=1000) follows ?_
 refine aA (fun _ _ _ ZK=>(fun Za Zb=>(((((0:Int)≤(0:Int))∧(0<(↑n:Int)))∧(((0:Int)≤(1:Int))∧(1<(↑n:Int)))∧ZK 92 [(.agg [(di (V (0+Int.toNat 0)).n),(di (V (0+Int.toNat 0)).d)]),(.agg [(di (V (0+Int.toNat 1)).n),(di (V (0+Int.toNat 1)).d)])] (.au [(.agg [(di Za.fst),(di Za.snd.fst)]),(di Za.snd.snd)])∧ZK 86 [(.agg [(di Za.fst),(di Za.snd.fst)]),(di Za.snd.snd)] (.au [(.agg [(ds (if Za.snd.snd=0 then Ft.mk ByteArray.empty 0 Za.fst Za.snd.fst false ByteArray.empty else aJ).nm),(di (if Za.snd.snd=0 then Ft.mk ByteArray.empty 0 Za.fst Za.snd.fst false ByteArray.empty else aJ).kind),(di (if Za.snd.snd=0 then Ft.mk ByteArray.empty 0 Za.fst Za.snd.fst false ByteArray.empty else aJ).n),(di (if Za.snd.snd=0 then Ft.mk ByteArray.empty 0 Za.fst Za.snd.fst false ByteArray.empty else aJ).d),(db (if Za.snd.snd=0 then Ft.mk ByteArray.empty 0 Za.fst Za.snd.fst false ByteArray.empty else aJ).tr),(ds (if Za.snd.snd=0 then Ft.mk ByteArray.empty 0 Za.fst Za.snd.fst false ByteArray.empty else aJ).wd)]),(di (if Za.snd.snd=0 then 0 else 2))]))∧((.au [(.agg [(ds (if Za.snd.snd=0 then Ft.mk ByteArray.empty 0 Za.fst Za.snd.fst false ByteArray.empty else aJ).nm),(di (if Za.snd.snd=0 then Ft.mk ByteArray.empty 0 Za.fst Za.snd.fst false ByteArray.empty else aJ).kind),(di (if Za.snd.snd=0 then Ft.mk ByteArray.empty 0 Za.fst Za.snd.fst false ByteArray.empty else aJ).n),(di (if Za.snd.snd=0 then Ft.mk ByteArray.empty 0 Za.fst Za.snd.fst false ByteArray.empty else aJ).d),(db (if Za.snd.snd=0 then Ft.mk ByteArray.empty 0 Za.fst Za.snd.fst false ByteArray.empty else aJ).tr),(ds (if Za.snd.snd=0 then Ft.mk ByteArray.empty 0 Za.fst Za.snd.fst false ByteArray.empty else aJ).wd)]),(di (if Za.snd.snd=0 then 0 else 2))]):DV)=(.au [(eX (if Zb.snd.snd=0 then let __src:=eY 0;Ft.mk __src.nm __src.kind Zb.fst Zb.snd.fst __src.tr __src.wd else aJ)),(di (if Zb.snd.snd=0 then 0 else 2))]))) (dD (V (0+Int.toNat 0)).n (V (0+Int.toNat 0)).d (V (0+Int.toNat 1)).n (V (0+Int.toNat 1)).d) (dD (V 0).n (V 0).d (V 1).n (V 1).d)) (by kernel_rfl) ?_
 exact⟨⟨⟨by omega,by omega⟩,⟨by omega,by omega⟩,f92 _ _ _ _,f86 _ _ _⟩,rfl⟩
def Xo (k c:Int):Bool:=k==14&&decide (c<0)||k==15&&decide (c≤0)||k==16&&decide (c>0)||k==17&&decide (c≥0)
theorem Yh (L:List Ft) (m:Nat) (x:Ex) (V:Nat→Ft) (n:Nat) (hn:1<n):aC Tryz.prog G [cd Tryz.f50 [1,1,1,1]] (jr L m x n V) (fF Tryz.prog Tryz.f50 (.au [eX { eY 1 with tr:=Xo x.k (fG (V 0).n (V 0).d (V 1).n (V 1).d) },di 0])):=by
 refine aK (ay:=kL) (keep:=[]) (cuts:=[]) (n:=1000) follows ?_
 refine aA (fun _ _ _ ZK=>(fun Za=>(((((0:Int)≤(0:Int))∧(0<(↑n:Int)))∧(((0:Int)≤(1:Int))∧(1<(↑n:Int)))∧ZK 25 [(.agg [(di (V (0+Int.toNat 0)).n),(di (V (0+Int.toNat 0)).d)]),(.agg [(di (V (0+Int.toNat 1)).n),(di (V (0+Int.toNat 1)).d)])] (.au [(di (fG (V (0+Int.toNat 0)).n (V (0+Int.toNat 0)).d (V (0+Int.toNat 1)).n (V (0+Int.toNat 1)).d)),(db (ok2 (V (0+Int.toNat 0)).n (V (0+Int.toNat 0)).d (V (0+Int.toNat 1)).n (V (0+Int.toNat 1)).d))]))∧ZK 87 [Za] (.au [(.agg [(ds ByteArray.empty),(di 1),(di 0),(di 0),Za,(ds ByteArray.empty)]),(di 0)])∧((.au [(.agg [(ds ByteArray.empty),(di 1),(di 0),(di 0),Za,(ds ByteArray.empty)]),(di 0)]):DV)=(.au [(eX (let __src:=eY 1;Ft.mk __src.nm __src.kind __src.n __src.d (Xo x.k (fG (V 0).n (V 0).d (V 1).n (V 1).d)) __src.wd)),(di 0)]))) (db (x.k==14&&decide (fG (V (0+Int.toNat 0)).n (V (0+Int.toNat 0)).d (V (0+Int.toNat 1)).n (V (0+Int.toNat 1)).d<0)||x.k==15&&decide (fG (V (0+Int.toNat 0)).n (V (0+Int.toNat 0)).d (V (0+Int.toNat 1)).n (V (0+Int.toNat 1)).d≤0)||x.k==16&&decide (fG (V (0+Int.toNat 0)).n (V (0+Int.toNat 0)).d (V (0+Int.toNat 1)).n (V (0+Int.toNat 1)).d>0)||x.k==17&&decide (fG (V (0+Int.toNat 0)).n (V (0+Int.toNat 0)).d (V (0+Int.toNat 1)).n (V (0+Int.toNat 1)).d≥0)))) (by kernel_rfl) ?_
 exact⟨⟨⟨by omega,by omega⟩,⟨by omega,by omega⟩,f25 _ _ _ _⟩,f87 _,rfl⟩
def yF (f g:Ft):Bool:=f.nm.toList==g.nm.toList&&(f.kind==g.kind&&(f.n==g.n&&f.d==g.d&&(f.tr==g.tr&&f.wd.toList==g.wd.toList)))
theorem aac (L:List Ft) (m:Nat) (x:Ex) (V:Nat→Ft) (n:Nat) (hn:1<n):aC Tryz.prog G [cd Tryz.f50 [1,1,1,0,1,0,1,1,1,1,1,1,1,1,1,1,1,1,1,1,1,1,1,1,1,1,1,1,1,0],.blk 2,cd Tryz.f50 [1,1,1,1]] (jr L m x n V) (fF Tryz.prog Tryz.f50 (.au [eX { eY 1 with tr:=yF (V 0) (V 1) },di 0])):=by
 refine aK (ay:=kL) (keep:=[]) (cuts:=[]) (n:=1000) follows ?_
 refine aA (fun _ _ _ ZK=>(fun Za=>(((((0:Int)≤(0:Int))∧(0<(↑n:Int)))∧(((0:Int)≤(1:Int))∧(1<(↑n:Int)))∧ZK 87 [Za] (.au [(.agg [(ds ByteArray.empty),(di 1),(di 0),(di 0),Za,(ds ByteArray.empty)]),(di 0)]))∧((.au [(.agg [(ds ByteArray.empty),(di 1),(di 0),(di 0),Za,(ds ByteArray.empty)]),(di 0)]):DV)=(.au [(eX (let __src:=eY 1;Ft.mk __src.nm __src.kind __src.n __src.d (yF (V 0) (V 1)) __src.wd)),(di 0)]))) (db (Bool.rec false ((V (0+Int.toNat 0)).kind==(V (0+Int.toNat 1)).kind&&((V (0+Int.toNat 0)).n==(V (0+Int.toNat 1)).n&&(V (0+Int.toNat 0)).d==(V (0+Int.toNat 1)).d&&((V (0+Int.toNat 0)).tr==(V (0+Int.toNat 1)).tr&&(V (0+Int.toNat 0)).wd.toList==(V (0+Int.toNat 1)).wd.toList))) ((V (0+Int.toNat 0)).nm.toList==(V (0+Int.toNat 1)).nm.toList)))) (by kernel_rfl) ?_
 simp only[QZ]
 exact⟨⟨⟨by omega,by omega⟩,⟨by omega,by omega⟩,f87 _⟩,rfl⟩
theorem ZE (L:List Ft) (m:Nat) (x:Ex) (V:Nat→Ft) (n:Nat) (hn:1<n):aC Tryz.prog G [cd Tryz.f50 [1,1,1,0,1,0,1,1,1,1,1,1,1,1,1,1,1,1,1,1,1,1,1,1,1,1,1,1,1,1,1,0],.blk 2,cd Tryz.f50 [1,1,1,1]] (jr L m x n V) (fF Tryz.prog Tryz.f50 (.au [eX { eY 1 with tr:=!yF (V 0) (V 1) },di 0])):=by
 refine aK (ay:=kL) (keep:=[]) (cuts:=[]) (n:=1000) follows ?_
 refine aA (fun _ _ _ ZK=>(fun Za=>(((((0:Int)≤(0:Int))∧(0<(↑n:Int)))∧(((0:Int)≤(1:Int))∧(1<(↑n:Int)))∧ZK 87 [Za] (.au [(.agg [(ds ByteArray.empty),(di 1),(di 0),(di 0),Za,(ds ByteArray.empty)]),(di 0)]))∧((.au [(.agg [(ds ByteArray.empty),(di 1),(di 0),(di 0),Za,(ds ByteArray.empty)]),(di 0)]):DV)=(.au [(eX (let __src:=eY 1;Ft.mk __src.nm __src.kind __src.n __src.d (!yF (V 0) (V 1)) __src.wd)),(di 0)]))) (db (!Bool.rec false ((V (0+Int.toNat 0)).kind==(V (0+Int.toNat 1)).kind&&((V (0+Int.toNat 0)).n==(V (0+Int.toNat 1)).n&&(V (0+Int.toNat 0)).d==(V (0+Int.toNat 1)).d&&((V (0+Int.toNat 0)).tr==(V (0+Int.toNat 1)).tr&&(V (0+Int.toNat 0)).wd.toList==(V (0+Int.toNat 1)).wd.toList))) ((V (0+Int.toNat 0)).nm.toList==(V (0+Int.toNat 1)).nm.toList)))) (by kernel_rfl) ?_
 simp only[QZ]
 exact⟨⟨⟨by omega,by omega⟩,⟨by omega,by omega⟩,f87 _⟩,rfl⟩
open Go Go.Ab
theorem Pm {a b c d:Int} (hb:0<b) (hd:0<d):qv a b<qv c d↔a*d<c*b:=by
 have hb':(0:Rat)<b:=by exact_mod_cast hb
 have hd':(0:Rat)<d:=by exact_mod_cast hd
 have hne:(d:Rat)≠0:=qx (by omega)
 unfold qv
 rw[Rat.div_lt_iff hb',show (c:Rat) / d*b=(c*b) / d by grind,Rat.lt_div_iff hd']
 exact_mod_cast Iff.rfl
def OL (x y:Rat):Int:=if x<y then -1 else if y<x then 1 else 0
theorem Ua {a b c d:Int} (h1:ok a b=true) (h2:ok c d=true):fG a b c d=OL (qv a b) (qv c d):=by
 simp only[fG,h1,h2,Bool.and_self,if_true,tC,OL,Pm (uj h1) (uj h2),Pm (uj h2) (uj h1)]
theorem Oz {a b c d:Int} (h1:ok a b=true) (h2:ok c d=true):fG a b c d=0↔a=c∧b=d:=by
 rw[Ua h1 h2]
 constructor
 ·intro h
  refine XK h1 h2 ?_
  unfold OL at h
  grind
 ·rintro ⟨rfl,rfl⟩
  unfold OL;grind
end Go.Proofs
/- The reference's value,plain: what it says by the kind of a node. -/
namespace Go.Proofs
open Go Go.Ab Go.RowKit
set_option maxHeartbeats 4000000
theorem wM (F:List Ft) (x:Ex):qI F 0 x=match gX F x with|some p=>({ eY 0 with n:=p.1,d:=p.2 },0)|none=>(aJ,2):=by
 unfold qI zl
 rw[if_pos rfl]
 cases gX F x<;>rfl
theorem nM (F:List Ft) (x:Ex):qI F 1 x=match dI F x with|some b=>({ eY 1 with tr:=b },0)|none=>(aJ,2):=by
 unfold qI zl
 rw[if_neg (by decide),if_pos rfl]
 cases dI F x<;>rfl
theorem OB (F:List Ft) (x:Ex):qI F 2 x=({ eY 2 with wd:=tZ F x },0):=by
 unfold qI zl
 rw[if_neg (by decide),if_neg (by decide)]
section
variable {F:List Ft} {l:List Fc} {ws:List ByteArray} {y:Ex}
theorem CX (h:(bZ l ws y).1=0) (h0:(gu F l ws y).2=0):∃p,gX F y=some p∧(gu F l ws y).1={ eY 0 with n:=p.1,d:=p.2 }:=by
 unfold gu at h0⊢
 rw[h,wM] at h0⊢
 cases hn:gX F y with
 | none=>rw[hn] at h0;cases h0
 | some p=>exact⟨p,rfl,rfl⟩
theorem Jc (h:(bZ l ws y).1=0) (h0:(gu F l ws y).2≠0):gX F y=none:=by
 unfold gu at h0
 rw[h,wM] at h0
 cases hn:gX F y with
 | none=>rfl
 | some p=>rw[hn] at h0;exact absurd rfl h0
theorem wE (h:(bZ l ws y).1=1) (h0:(gu F l ws y).2=0):∃b,dI F y=some b∧(gu F l ws y).1={ eY 1 with tr:=b }:=by
 unfold gu at h0⊢
 rw[h,nM] at h0⊢
 cases hn:dI F y with
 | none=>rw[hn] at h0;cases h0
 | some p=>exact⟨p,rfl,rfl⟩
theorem Us (h:(bZ l ws y).1=1) (h0:(gu F l ws y).2≠0):dI F y=none:=by
 unfold gu at h0
 rw[h,nM] at h0
 cases hn:dI F y with
 | none=>rfl
 | some p=>rw[hn] at h0;exact absurd rfl h0
theorem SH (h:(bZ l ws y).1=2):gu F l ws y=({ eY 2 with wd:=tZ F y },0):=by
 unfold gu
 rw[h,OB]
end
section
variable {F:List Ft} {l:List Fc} {ws:List ByteArray} {x:Ex} (hsn:aV x=true) (h2:(bZ l ws x).2.2=0)
include hsn h2
theorem NT (hk:x.k=3∨x.k=4∨12≤x.k):(bZ l ws x).1=1:=(nJ hsn h2).2.1 hk
theorem UR (hk:x.k=1∨(5≤x.k∧x.k≤11)):(bZ l ws x).1=0:=(nJ hsn h2).1 hk
theorem WW (hl:1<x.kids.length) (h0:(gu F l ws (x.kids.getD 0 ak)).2=0) (hs:zx x (gu F l ws (x.kids.getD 0 ak)).1.tr=true):qI F (bZ l ws x).1 x=((gu F l ws (x.kids.getD 0 ak)).1,0):=by
 have hk:x.k=19∨x.k=20:=by
  unfold zx at hs
  simp only[Bool.or_eq_true,aT,beq_iff_eq] at hs
  omega
 have t0:=(iw h2).2 (by omega) 0 (by omega)
 obtain ⟨b,hb,e⟩:=wE t0 h0
 rw[NT hsn h2 (by omega),nM,e,lX]
 rw[e] at hs
 unfold sV
 rw[if_neg (by omega),if_neg (by omega),if_neg (by omega),if_neg (by omega),iH F _ 0 (by omega),hb]
 unfold zx at hs
 rcases hk with hk|hk
 ·rw[hk] at hs⊢
  have:b=false:=by simpa using hs
  subst this;rfl
 ·rw[hk] at hs⊢
  have:b=true:=by simpa using hs
  subst this;rfl
theorem X7 (hF:TK F l) (hK:TI l) {k:Nat} (hk:k<x.kids.length) (hbad:(gu F l ws (x.kids.getD k ak)).2≠0) (hok:∀i,i<k→(gu F l ws (x.kids.getD i ak)).2=0)
  (hsh:1≤k→zx x (gu F l ws (x.kids.getD 0 ak)).1.tr=false):qI F (bZ l ws x).1 x=(aJ,2):=by
 have hrk:=qC hsn
 by_cases h4:x.k≤4
 ·rw[KE hsn h4] at hk;simp at hk
 by_cases h11:x.k≤11
 ·have hkk:=Jc ((iw h2).1 (.inl (by omega)) k hk) hbad
  rw[UR hsn h2 (by omega),wM,vU]
  unfold Gy
  rw[if_neg (by omega),if_neg (by omega),yg hk hkk]
 have one:=fun h=>kG (x:=x) hsn (.inr h)
 have two:=fun h=>(kH (x:=x) hsn h).1
 rw[NT hsn h2 (by omega),nM,lX]
 unfold sV
 rw[if_neg (by omega),if_neg (by omega),if_neg (by omega)]
 by_cases h18:18≤x.k
 ·have tk:=(iw h2).2 h18
  have hkk:=Us (tk k hk) hbad
  by_cases e18:x.k=18
  ·have:=one e18
   obtain rfl:k=0:=by omega
   rw[if_pos e18,iH F _ 0 hk,hkk]
  ·rw[if_neg e18]
   have hl:=two (by omega)
   rcases Nat.lt_or_ge 0 k with hk0|hk0
   ·obtain rfl:k=1:=by omega
    obtain ⟨b,hb,e⟩:=wE (tk 0 (by omega)) (hok 0 (by omega))
    have hs:=hsh (Nat.le_refl _)
    rw[e] at hs
    unfold zx at hs
    rw[iH F _ 0 (by omega),iH F _ 1 (by omega),hb,hkk]
    by_cases e19:x.k=19
    ·rw[e19] at hs⊢
     have:b=true:=by simpa using hs
     subst this;rfl
    ·have e20:x.k=20:=by omega
     rw[e20] at hs⊢
     have:b=false:=by simpa using hs
     subst this;rfl
   ·obtain rfl:k=0:=by omega
    rw[iH F _ 0 (by omega),hkk]
    by_cases e19:x.k=19
    ·rw[if_pos e19]
    ·rw[if_neg e19,if_pos (by omega)]
 rw[if_neg (by omega),if_neg (by omega),if_neg (by omega)]
 have hl:=two (by omega)
 by_cases h14:14≤x.k
 ·have hkk:=Jc ((iw h2).1 (.inr (by omega)) k hk) hbad
  rw[if_neg (by omega),if_neg (by omega)]
  have:rG F (x.kids.getD 0 ak) (x.kids.getD 1 ak)=none:=by
   unfold rG
   rcases Nat.lt_or_ge 0 k with hk0|hk0
   ·obtain rfl:k=1:=by omega
    rw[hkk];cases gX F (x.kids.getD 0 ak)<;>rfl
   ·obtain rfl:k=0:=by omega
    rw[hkk]
  rw[this]
 ·have hc:x.k=12∨x.k=13:=by omega
  have hty:=Q5 hsn h2 hc
  have s0:=dO (x:=x) hsn (i:=0) (by omega)
  have f0:=(ig h2).1 0 (by omega)
  obtain ⟨w0,r0⟩:=SX hF s0 f0
  rw[iH F _ 0 (by omega),iH F _ 1 (by omega)]
  have key:zU F (dI F (x.kids.getD 0 ak)) (dI F (x.kids.getD 1 ak)) (x.kids.getD 0 ak) (x.kids.getD 1 ak)=none:=by
   have htk:(bZ l ws (x.kids.getD k ak)).1=(bZ l ws (x.kids.getD 0 ak)).1:=by
    rcases Nat.lt_or_ge 0 k with hk0|hk0
    ·obtain rfl:k=1:=by omega
     exact hty.symm
    ·obtain rfl:k=0:=by omega
     rfl
   have nw:(bZ l ws (x.kids.getD 0 ak)).1≠2:=fun h=>hbad (by rw[SH (htk.trans h)])
   unfold zU
   rw[if_neg (fun h=>nw (w0.1 h))]
   rcases Q9 hK s0 f0 with h|h|h
   ·have hkk:=Jc (htk.trans h) hbad
    rw[if_neg (fun h'=>by rw[r0.1 h'] at h;cases h)]
    have:rG F (x.kids.getD 0 ak) (x.kids.getD 1 ak)=none:=by
     unfold rG
     rcases Nat.lt_or_ge 0 k with hk0|hk0
     ·obtain rfl:k=1:=by omega
      rw[hkk];cases gX F (x.kids.getD 0 ak)<;>rfl
     ·obtain rfl:k=0:=by omega
      rw[hkk]
    rw[this]
   ·have hkk:=Us (htk.trans h) hbad
    rw[if_pos (r0.2 h)]
    rcases Nat.lt_or_ge 0 k with hk0|hk0
    ·obtain rfl:k=1:=by omega
     rw[hkk];cases dI F (x.kids.getD 0 ak)<;>rfl
    ·obtain rfl:k=0:=by omega
     rw[hkk]
   ·exact absurd h nw
  rw[key]
  rcases hc with hc|hc
  ·rw[if_pos hc]
  ·rw[if_neg (by omega),if_pos hc]
theorem Yj (hk:∀i,i<x.kids.length→(bZ l ws (x.kids.getD i ak)).1=0) (h:∀i,i<x.kids.length→(gu F l ws (x.kids.getD i ak)).2=0) :
  vZ F x.kids=some (x.kids.map (fB F))∧∀i,i<x.kids.length→vR F l ws x i={ eY 0 with n:=((x.kids.map (fB F)).getD i (0,0)).1,d:=((x.kids.map (fB F)).getD i (0,0)).2 }:=by
 have _:=hsn
 have _:=h2
 have hh:∀i,i<x.kids.length→∃p,gX F (x.kids.getD i ak)=some p∧(gu F l ws (x.kids.getD i ak)).1={ eY 0 with n:=p.1,d:=p.2 }:=fun i hi=>CX (hk i hi) (h i hi)
 refine⟨yh fun i hi=>?_,fun i hi=>?_⟩
 ·obtain ⟨p,hp,_⟩:=hh i hi
  rw[hp];exact fun h=>by cases h
 ·obtain ⟨p,hp,e⟩:=hh i hi
  have e2:(x.kids.map (fB F)).getD i (0,0)=p:=by
   rw[List.getD,List.getElem?_map,bQ hi]
   show fB F x.kids[i]=p
   unfold fB
   have:x.kids.getD i ak=x.kids[i]:=by rw[List.getD,bQ hi];rfl
   rw[←this,hp];rfl
  unfold vR
  rw[e,e2]
end
/-! The least and the greatest,as the reference finds them. -/
def gK (t:Int) (V:Nat→Ft):Nat→Ft
 | 0=>V 0
 | k+1=>if (decide (fG (V k).n (V k).d (gK t V k).n (gK t V k).d<0)==decide (t=10))=true then V k else gK t V k
theorem UM {V:Nat→Ft} {r:List gY} (h:∀i,i<r.length→V i={ eY 0 with n:=(r.getD i (0,0)).1,d:=(r.getD i (0,0)).2 }) (hr:0<r.length):∀k,k≤r.length→gK 10 V k={ eY 0 with n:=(iL r k).1,d:=(iL r k).2 }
 | 0,_=>by rw[gK,iL];exact h 0 hr
 | k+1,hk=>by
  have ih:=UM h hr k (by omega)
  rw[gK,iL,ih,h k (by omega)]
  show (if (decide (dM _ _ _ _<0)==decide ((10:Int)=10))=true then _ else _)=_
  by_cases hc:dM (r.getD k (0,0)).1 (r.getD k (0,0)).2 (iL r k).1 (iL r k).2<0
  ·rw[if_pos hc,if_pos (by rw[decide_eq_true hc];rfl)]
  ·rw[if_neg hc,if_neg (by rw[decide_eq_false hc];decide)]
theorem UH {V:Nat→Ft} {r:List gY} (h:∀i,i<r.length→V i={ eY 0 with n:=(r.getD i (0,0)).1,d:=(r.getD i (0,0)).2 }) (ho:∀i,i<r.length→ok (r.getD i (0,0)).1 (r.getD i (0,0)).2=true):∀k,0<k→k≤r.length→gK 11 V k=V (dZ r k).toNat
 | 0,h,_=>absurd h (Nat.lt_irrefl _)
 | k+1,_,hk=>by
  rw[gK,pK]
  rcases Nat.eq_zero_or_pos k with rfl|hk0
  ·have e:dZ r 0 = -1:=rfl
   rw[show gK 11 V 0=V 0 from rfl,ite_self,if_neg (fun hh=>absurd hh.1 (by rw[e];omega))]
   rfl
  ·have ih:=UH h ho k hk0 (by omega)
   have hb:=uw r k
   have hp:=Ce (l:=r) hk0
   have hbl:(dZ r k).toNat<r.length:=by omega
   rw[ih]
   have eb:=h _ hbl
   have ek:=h k (by omega)
   have ecm:fG (V k).n (V k).d (V (dZ r k).toNat).n (V (dZ r k).toNat).d=dM (r.getD k (0,0)).1 (r.getD k (0,0)).2 (r.getD (dZ r k).toNat (0,0)).1 (r.getD (dZ r k).toNat (0,0)).2:=by rw[eb,ek];rfl
   rw[ecm]
   have hz:dM (r.getD k (0,0)).1 (r.getD k (0,0)).2 (r.getD (dZ r k).toNat (0,0)).1 (r.getD (dZ r k).toNat (0,0)).2=0→V k=V (dZ r k).toNat:=fun hh=>by
    obtain ⟨e1,e2⟩:=(Oz (ho k (by omega)) (ho _ hbl)).1 hh
    rw[eb,ek,e1,e2]
   generalize dM (r.getD k (0,0)).1 (r.getD k (0,0)).2 (r.getD (dZ r k).toNat (0,0)).1 (r.getD (dZ r k).toNat (0,0)).2=c at hz⊢
   by_cases h1:c<0
   ·rw[if_neg (by rw[decide_eq_true h1];decide),if_pos ⟨hp,by omega⟩]
   ·rw[if_pos (by rw[decide_eq_false h1];decide)]
    by_cases h2:c=0
    ·rw[if_pos ⟨hp,by omega⟩,hz h2]
    ·rw[if_neg (by omega)];rfl
set_option maxRecDepth 100000
variable {G:IH}
noncomputable def ac9 (L:List Ft) (m:Nat) (x:Ex) (k:Nat):AS:=⟨regs Tryz.f50.ntmps [(1,.d (iJ L)),(2,.box 2 0),(4,.box 4 0),(10,vi k)],[(2,l7 m x),(4,[vs .empty,vi 0,vi 0,vi 0,.d (db false),vs .empty])]⟩
theorem abt (L:List Ft) (m:Nat) (x:Ex) (V:Nat→Ft) (n:Nat) (hL:L.length≤100000) (r:DV)
  (hhit:∀k,k<L.length→(L.getD k aJ).nm=x.s→r=.au [eX { L.getD k aJ with nm:=.empty },di 0])
  (hmiss:(∀k,k<L.length→(L.getD k aJ).nm≠x.s)→r=.au [eX { eY 2 with wd:=x.s },di 0]) :
  aC Tryz.prog G [cd Tryz.f50 [1,1,1,0,1,0,1,1,1,1,1,0,0],cd Tryz.f50 [1,1,1,0,1,0,1,1,1,1,1,0,1],.blk 2,cd Tryz.f50 [1,1,1,1]] (jr L m x n V) (fF Tryz.prog Tryz.f50 r):=by
 refine aK (ay:=kL) (keep:=[]) (cuts:=[]) (n:=1000) follows ?_
 refine aA (fun ZT ZW ZQ _=>ZW [cd Tryz.f50 [1,1,1,0,1,0,1,1,1,1,1,0,0,1,0],(.blk 3),cd Tryz.f50 [1,1,1,0,1,0,1,1,1,1,1,0,1],(.blk 2),cd Tryz.f50 [1,1,1,1]] (aI ZT []) ZQ) (by kernel_rfl) ?_
 refine aC.loop (c:=dR (aQ Tryz.f50) [1,1,1,0,1,0,1,1,1,1,1,0,0,1,0,0]) (by kernel_rfl) (ac9 L m x) (fun k=>k≤L.length∧∀i,i<k→(L.getD i aJ).nm≠x.s) (fun k=>L.length-k) 0 ?_ ⟨Nat.zero_le _,fun i hi=>by omega⟩ ?_
 ·exact AS.dB (by kernel_rfl)
 ·rintro k ⟨hk,hno⟩
  by_cases hk2:k<L.length
  ·refine aK (ay:=kL) (keep:=[]) (cuts:=[]) (n:=1000) follows ?_
   refine bW (fun ZT ZW ZQ _ ZA _=>((((decide ((↑k:Int)<↑L.length))=true)→(((0≤(↑k:Int))∧((↑k:Int)<↑L.length))∧((((L.getD (↑k:Int).toNat aJ).nm.toList==x.s.toList)=true)→(((0≤(↑k:Int))∧((↑k:Int)<↑L.length))∧((.au [(.agg [(ds (ByteArray.mk #[])),(di (L.getD (↑k:Int).toNat aJ).kind),(di (L.getD (↑k:Int).toNat aJ).n),(di (L.getD (↑k:Int).toNat aJ).d),(db (L.getD (↑k:Int).toNat aJ).tr),(ds (L.getD (↑k:Int).toNat aJ).wd)]),(di 0)]):DV)=r))∧((((L.getD (↑k:Int).toNat aJ).nm.toList==x.s.toList)=false)→((I64 (↑k+1))∧(ZA (aI ZT [0,1]))))))∧(((decide ((↑k:Int)<↑L.length))=false)→ZW [cd Tryz.f50 [1,1,1,0,1,0,1,1,1,1,1,0,1],(.blk 2),cd Tryz.f50 [1,1,1,1]] (aI ZT [1]) ZQ))) (by kernel_rfl) ?_
   simp only[Int.toNat_natCast,iT]
   refine⟨fun _=>⟨⟨by omega,by omega⟩,fun h=>⟨⟨by omega,by omega⟩,(hhit k hk2 (of_decide_eq_true h)).symm⟩,fun h=>⟨⟨by omega,by omega⟩,Again.mk (k+1) ?_ ⟨hk2,fun i hi=>?_⟩ (by omega)⟩⟩,fun h=>absurd (of_decide_eq_false h) (by omega)⟩
   ·exact AS.dB (by kernel_rfl)
   ·rcases Nat.lt_or_ge i k with h4|h4
    ·exact hno i h4
    ·obtain rfl:i=k:=by omega
     exact of_decide_eq_false h
  ·have hkn:k=L.length:=by omega
   subst hkn
   refine aK (ay:=kL) (keep:=[]) (cuts:=[]) (n:=1000) follows ?_
   refine bW (fun ZT ZW ZQ _ ZA _=>(fun Za=>((((decide ((↑L.length:Int)<↑L.length))=true)→(((0≤(↑L.length:Int))∧((↑L.length:Int)<↑L.length))∧(((Za.nm.toList==x.s.toList)=true)→(((0≤(↑L.length:Int))∧((↑L.length:Int)<↑L.length))∧((.au [(.agg [(ds (ByteArray.mk #[])),(di Za.kind),(di Za.n),(di Za.d),(db Za.tr),(ds Za.wd)]),(di 0)]):DV)=r))∧(((Za.nm.toList==x.s.toList)=false)→((I64 (↑L.length+1))∧(ZA (aI ZT [0,1]))))))∧(((decide ((↑L.length:Int)<↑L.length))=false)→ZW [cd Tryz.f50 [1,1,1,0,1,0,1,1,1,1,1,0,1],(.blk 2),cd Tryz.f50 [1,1,1,1]] (aI ZT [1]) ZQ))) (L.getD (↑L.length:Int).toNat aJ)) (by kernel_rfl) ?_
   refine⟨fun h=>absurd (of_decide_eq_true h) (by omega),fun _=>?_⟩
   refine aK (ay:=kL) (keep:=[]) (cuts:=[]) (n:=1000) follows ?_
   refine aA (fun _ _ _ _=>(((.au [(.agg [(ds (ByteArray.mk #[])),(di 2),(di 0),(di 0),(db false),(ds x.s)]),(di 0)]):DV)=r)) (by kernel_rfl) ?_
   exact(hmiss hno).symm
noncomputable def adR (t:Int) (L:List Ft) (m:Nat) (x:Ex) (n:Nat) (V:Nat→Ft) (k:Nat):AS:=⟨regs Tryz.f50.ntmps [(2,.box 2 0),(4,.box 4 0),(6,.d (.slc 6 n fun i=>.agg (Ja (V (0+i))))),(12,.box 12 0),(13,vi k)],
 [(2,l7 m x),(4,[vs .empty,vi 0,vi 0,vi 0,.d (db false),vs .empty]),(12,[vs (gK t V k).nm,.d (di (gK t V k).kind),.d (di (gK t V k).n),.d (di (gK t V k).d),.d (db (gK t V k).tr),vs (gK t V k).wd])]⟩
theorem MC (L:List Ft) (m:Nat) (x:Ex) (V:Nat→Ft) (n:Nat) (hn:0<n) (hn2:n≤100000) (hk:x.k=10∨x.k=11) :
  aC Tryz.prog G [cd Tryz.f50 [1,1,1,0,1,0,1,1,1,1,1,1,1,1,1,1,1,1,1,1,1,1,1,0],.blk 2,cd Tryz.f50 [1,1,1,1]] (jr L m x n V) (fF Tryz.prog Tryz.f50 (.au [eX (gK x.k V n),di 0])):=by
 refine aK (ay:=kL) (keep:=[]) (cuts:=[]) (n:=1000) follows ?_
 refine aA (fun ZT ZW ZQ _=>((((0:Int)≤(0:Int))∧(0<(↑n:Int)))∧ZW [cd Tryz.f50 [1,1,1,0,1,0,1,1,1,1,1,1,1,1,1,1,1,1,1,1,1,1,1,0,1,0,1,0],(.blk 5),cd Tryz.f50 [1,1,1,0,1,0,1,1,1,1,1,1,1,1,1,1,1,1,1,1,1,1,1,0,1,1],(.blk 2),cd Tryz.f50 [1,1,1,1]] (aI ZT []) ZQ)) (by kernel_rfl) ?_
 refine⟨⟨Int.le_refl _,by omega⟩,?_⟩
 refine aC.loop (c:=dR (aQ Tryz.f50) [1,1,1,0,1,0,1,1,1,1,1,1,1,1,1,1,1,1,1,1,1,1,1,0,1,0,1,0,0]) (by kernel_rfl) (adR x.k L m x n V) (fun k=>1≤k∧k≤n) (fun k=>n-k) 1 ?_ ⟨Nat.le_refl _,hn⟩ ?_
 ·refine AS.leZ [] [2] (b:=((T0∧T0∧T0∧T0∧T0∧True)∧T0∧T0∧((some [(vs (V (0+Int.toNat 0)).nm),(vi (V (0+Int.toNat 0)).kind),(vi (V (0+Int.toNat 0)).n),(vi (V (0+Int.toNat 0)).d),(vb (V (0+Int.toNat 0)).tr),(vs (V (0+Int.toNat 0)).wd)]):(Option (List AV)))=(some [(vs (gK x.k V 1).nm),(vi (gK x.k V 1).kind),(vi (gK x.k V 1).n),(vi (gK x.k V 1).d),(vb (gK x.k V 1).tr),(vs (gK x.k V 1).wd)])∧True)) (by kernel_rfl) (by kernel_rfl) ?_
  have e1:gK x.k V 1=V 0:=by rw[show gK x.k V 1=(if _ then V 0 else V 0) from rfl,ite_self]
  rw[e1]
  exact⟨⟨rfl,rfl,rfl,rfl,rfl,trivial⟩,rfl,rfl,rfl,trivial⟩
 ·rintro k ⟨h1,h2⟩
  by_cases hk2:k<n
  ·refine aK (ay:=kL) (keep:=[]) (cuts:=[]) (n:=1000) follows ?_
   refine bW (fun ZT ZW ZQ ZK ZA _=>(fun Za=>((((decide ((↑k:Int)<↑n))=true)→((((0≤(↑k:Int))∧((↑k:Int)<↑n))∧ZK 25 [(.agg [(di (V (0+(↑k:Int).toNat)).n),(di (V (0+(↑k:Int).toNat)).d)]),(.agg [(di (gK x.k V k).n),(di (gK x.k V k).d)])] (.au [(di (fG (V (0+(↑k:Int).toNat)).n (V (0+(↑k:Int).toNat)).d (gK x.k V k).n (gK x.k V k).d)),(db (ok2 (V (0+(↑k:Int).toNat)).n (V (0+(↑k:Int).toNat)).d (gK x.k V k).n (gK x.k V k).d))]))∧((Za=true)→(((0≤(↑k:Int))∧((↑k:Int)<↑n))∧(I64 (↑k+1))∧(ZA (aI ZT [0,0]))))∧((Za=false)→((I64 (↑k+1))∧(ZA (aI ZT [0,1]))))))∧(((decide ((↑k:Int)<↑n))=false)→ZW [cd Tryz.f50 [1,1,1,0,1,0,1,1,1,1,1,1,1,1,1,1,1,1,1,1,1,1,1,0,1,1],(.blk 2),cd Tryz.f50 [1,1,1,1]] (aI ZT [1]) ZQ))) (decide (fG (V (0+(↑k:Int).toNat)).n (V (0+(↑k:Int).toNat)).d (gK x.k V k).n (gK x.k V k).d<0)==(x.k==10))) (by kernel_rfl) ?_
   simp only[Int.toNat_natCast,Nat.zero_add]
   refine⟨fun _=>⟨⟨⟨by omega,by omega⟩,f25 _ _ _ _⟩,fun h=>⟨⟨by omega,by omega⟩,⟨by omega,by omega⟩,Again.mk (k+1) ?_ ⟨by omega,hk2⟩ (by omega)⟩,fun h=>⟨⟨by omega,by omega⟩,Again.mk (k+1) ?_ ⟨by omega,hk2⟩ (by omega)⟩⟩,fun h=>absurd (of_decide_eq_false h) (by omega)⟩
   ·have e1:gK x.k V (k+1)=V k:=if_pos h
    refine AS.leZ [] [2] (b:=((T0∧T0∧T0∧T0∧T0∧True)∧T0∧T0∧((some [(vs (V (0+(↑k:Int).toNat)).nm),(vi (V (0+(↑k:Int).toNat)).kind),(vi (V (0+(↑k:Int).toNat)).n),(vi (V (0+(↑k:Int).toNat)).d),(vb (V (0+(↑k:Int).toNat)).tr),(vs (V (0+(↑k:Int).toNat)).wd)]):(Option (List AV)))=(some [(vs (gK x.k V (k+1)).nm),(vi (gK x.k V (k+1)).kind),(vi (gK x.k V (k+1)).n),(vi (gK x.k V (k+1)).d),(vb (gK x.k V (k+1)).tr),(vs (gK x.k V (k+1)).wd)])∧True)) (by kernel_rfl) (by kernel_rfl) ?_
    rw[e1,Int.toNat_natCast,Nat.zero_add]
    exact⟨⟨rfl,rfl,rfl,rfl,rfl,trivial⟩,rfl,rfl,rfl,trivial⟩
   ·have e1:gK x.k V (k+1)=gK x.k V k:=if_neg (by rw[show (_==decide (x.k=10))=false from h];decide)
    refine AS.leZ [] [2] (b:=((T0∧T0∧T0∧T0∧T0∧True)∧T0∧T0∧((some [(vs (gK x.k V k).nm),(vi (gK x.k V k).kind),(vi (gK x.k V k).n),(vi (gK x.k V k).d),(vb (gK x.k V k).tr),(vs (gK x.k V k).wd)]):(Option (List AV)))=(some [(vs (gK x.k V (k+1)).nm),(vi (gK x.k V (k+1)).kind),(vi (gK x.k V (k+1)).n),(vi (gK x.k V (k+1)).d),(vb (gK x.k V (k+1)).tr),(vs (gK x.k V (k+1)).wd)])∧True)) (by kernel_rfl) (by kernel_rfl) ?_
    rw[e1]
    exact⟨⟨rfl,rfl,rfl,rfl,rfl,trivial⟩,rfl,rfl,rfl,trivial⟩
  ·obtain rfl:k=n:=by omega
   refine aK (ay:=kL) (keep:=[]) (cuts:=[]) (n:=1000) follows ?_
   refine bW (fun ZT ZW ZQ ZK ZA _=>(fun Za=>((((decide ((↑k:Int)<↑k))=true)→((((0≤(↑k:Int))∧((↑k:Int)<↑k))∧ZK 25 [(.agg [(di (V (0+(↑k:Int).toNat)).n),(di (V (0+(↑k:Int).toNat)).d)]),(.agg [(di (gK x.k V k).n),(di (gK x.k V k).d)])] (.au [(di (fG (V (0+(↑k:Int).toNat)).n (V (0+(↑k:Int).toNat)).d (gK x.k V k).n (gK x.k V k).d)),(db (ok2 (V (0+(↑k:Int).toNat)).n (V (0+(↑k:Int).toNat)).d (gK x.k V k).n (gK x.k V k).d))]))∧((Za=true)→(((0≤(↑k:Int))∧((↑k:Int)<↑k))∧(I64 (↑k+1))∧(ZA (aI ZT [0,0]))))∧((Za=false)→((I64 (↑k+1))∧(ZA (aI ZT [0,1]))))))∧(((decide ((↑k:Int)<↑k))=false)→ZW [cd Tryz.f50 [1,1,1,0,1,0,1,1,1,1,1,1,1,1,1,1,1,1,1,1,1,1,1,0,1,1],(.blk 2),cd Tryz.f50 [1,1,1,1]] (aI ZT [1]) ZQ))) (decide (fG (V (0+(↑k:Int).toNat)).n (V (0+(↑k:Int).toNat)).d (gK x.k V k).n (gK x.k V k).d<0)==(x.k==10))) (by kernel_rfl) ?_
   refine⟨fun h=>absurd (of_decide_eq_true h) (by omega),fun _=>?_⟩
   refine aK (ay:=kL) (keep:=[]) (cuts:=[]) (n:=1000) follows ?_
   refine aA (fun _ _ _ _=>(ZS ((.au [(eX (gK x.k V k)),(di 0)]):DV))) (by kernel_rfl) ?_
   rfl
end Go.Proofs
/- Names: the fact that a name means. ad4 compared. -/
namespace Go.Proofs
open Go Go.Ab Go.RowKit
set_option maxHeartbeats 4000000
theorem Yt {Fl:List Ft} {L:List Fc} (hfit:nV Fl L) {ws:List ByteArray} {x:Ex} (hsn:aV x=true) (h2:(bZ (aW L L.length) ws x).2.2=0) (hk:x.k=2) :
  (∀k,k<Fl.length→(Fl.getD k aJ).nm=x.s→qI (bC Fl Fl.length) (bZ (aW L L.length) ws x).1 x=({ Fl.getD k aJ with nm:=.empty },0))∧
  ((∀k,k<Fl.length→(Fl.getD k aJ).nm≠x.s)→qI (bC Fl Fl.length) (bZ (aW L L.length) ws x).1 x=({ eY 2 with wd:=x.s },0)):=by
 obtain ⟨t1,t2⟩:=(nJ hsn h2).2.2 hk
 constructor
 ·intro k hkl hnm
  have Xu:k<L.length:=by have:=hfit.len;omega
  have hfm:tM (bC Fl Fl.length) (.string x.s)=Fl.getD k aJ:=by
   have:=hfit.tM Xu
   rwa [←(hfit.nm Xu).1,hnm] at this
  have hh:fH (aW L L.length) (.string x.s)=true:=by
   rw[←hfit.tH,LV]
   exact⟨_,getD_mem (x0:=aJ) hkl,hnm⟩
  have hkd:=hfit.fam.kd x.s
  unfold lN at t1
  rw[if_pos hh] at t1
  have hty:(bZ (aW L L.length) ws x).1=(Fl.getD k aJ).kind:=by rw[t1,←hkd,hfm]
  have hkn:=hfit.OJ _ hh
  rw[←hkd,hfm] at hkn
  have hf:=hfit.fit k Xu
  have hkind:=(hfit.nm Xu).2
  unfold jK at hf
  simp only[aT,Bool.or_eq_true,decide_eq_true_eq,beq_iff_eq,Bool.not_eq_true'] at hf
  obtain ⟨⟨⟨⟨⟨⟨_,_⟩,a0⟩,a1⟩,a2⟩,_⟩,_⟩:=hf
  rw[←hkind] at a0 a1 a2
  rw[hty]
  generalize hg:Fl.getD k aJ=f at *
  obtain ⟨nm,kind,n,d,tr,wd⟩:=f
  simp only at a0 a1 a2 hkn⊢
  rcases hkn with rfl|rfl|rfl
  ·rw[wM,vU]
   unfold Gy
   rw[if_neg (by omega),if_pos hk,hfm]
   obtain rfl:=a1.resolve_left (by decide)
   obtain rfl:=a2.resolve_left (by decide)
   rfl
  ·rw[nM,lX]
   unfold sV
   rw[if_neg (by omega),if_neg (by omega),if_pos hk,hfm]
   obtain ⟨rfl,rfl⟩:=a0.resolve_left (by decide)
   obtain rfl:=a2.resolve_left (by decide)
   rfl
  ·rw[OB]
   unfold tZ
   have ht:tH (bC Fl Fl.length) (.string x.s)=true:=by rw[hfit.tH];exact hh
   rw[if_pos ht,hfm]
   obtain ⟨rfl,rfl⟩:=a0.resolve_left (by decide)
   obtain rfl:=a1.resolve_left (by decide)
   rfl
 ·intro hno
  have ht:tH (bC Fl Fl.length) (.string x.s)=false:=by
   rw[Bool.eq_false_iff,ne_eq,LV]
   rintro ⟨f,hf,e⟩
   obtain ⟨i,hi,rfl⟩:=List.getElem_of_mem hf
   refine hno i hi ?_
   rw[List.getD,bQ hi];exact e
  have hh:fH (aW L L.length) (.string x.s)=false:=by rw[←hfit.tH];exact ht
  unfold lN at t1 t2
  rw[if_neg (by rw[hh];decide)] at t1 t2
  split at t2
  ·rename_i hw
   rw[if_pos hw] at t1
   rw[t1,OB]
   unfold tZ
   rw[if_neg (by rw[ht];decide)]
  ·cases t2
theorem X5 {a b:ByteArray} (h:a.toList=b.toList):a=b:=by
 have h1:=beq_iff_eq.2 h
 rw[iT] at h1
 exact of_decide_eq_true h1
theorem P9 {F:List Ft} {l:List Fc} {ws:List ByteArray} {x:Ex} (hF:TK F l) (hK:TI l) {m:Nat} (hm:ht x≤m) (hsn:aV x=true) (h2:(bZ l ws x).2.2=0) (hk:x.k=12∨x.k=13) (h:∀i,i<x.kids.length→(gu F l ws (x.kids.getD i ak)).2=0) :
  zU F (dI F (x.kids.getD 0 ak)) (dI F (x.kids.getD 1 ak)) (x.kids.getD 0 ak) (x.kids.getD 1 ak)=some (yF (vR F l ws x 0) (vR F l ws x 1)):=by
 have hl:=(kH (x:=x) hsn (by omega)).1
 have hty:=Q5 hsn h2 hk
 have s0:=dO (x:=x) hsn (i:=0) (by omega)
 have s1:=dO (x:=x) hsn (i:=1) (by omega)
 have f0:=(ig h2).1 0 (by omega)
 have f1:=(ig h2).1 1 (by omega)
 have d0:=iC (x:=x) (i:=0) (by omega)
 have d1:=iC (x:=x) (i:=1) (by omega)
 obtain ⟨w0,r0⟩:=SX hF s0 f0
 unfold zU vR
 rcases Q9 hK s0 f0 with t|t|t
 ·obtain ⟨p,hp,e0⟩:=CX t (h 0 (by omega))
  obtain ⟨q,hq,e1⟩:=CX (hty▸t) (h 1 (by omega))
  have op:=Io hF.num m _ p (by omega) s0 f0 t hp
  have oq:=Io hF.num m _ q (by omega) s1 f1 (hty▸t) hq
  rw[if_neg (fun h'=>by rw[w0.1 h'] at t;cases t),if_neg (fun h'=>by rw[r0.1 h'] at t;cases t),e0,e1]
  unfold rG
  rw[hp,hq]
  refine congrArg some ?_
  rw[Bool.eq_iff_iff]
  unfold yF
  simp only[beq_self_eq_true,Bool.true_and,Bool.and_true,aT,beq_iff_eq]
  exact Oz op oq
 ·obtain ⟨p,hp,e0⟩:=wE t (h 0 (by omega))
  obtain ⟨q,hq,e1⟩:=wE (hty▸t) (h 1 (by omega))
  rw[if_neg (fun h'=>by rw[w0.1 h'] at t;cases t),if_pos (r0.2 t),e0,e1,hp,hq]
  unfold yF
  simp only[beq_self_eq_true,Bool.true_and,Bool.and_true]
 ·rw[if_pos (w0.2 t),SH t,SH (hty▸t)]
  refine congrArg some ?_
  rw[Bool.eq_iff_iff]
  unfold yF
  simp only[beq_self_eq_true,Bool.true_and,Bool.and_true,decide_eq_true_eq,beq_iff_eq]
  exact⟨fun h=>by rw[h],X5⟩
set_option maxRecDepth 100000
variable {G:IH}
theorem lq {F:List Ft} {l:List Fc} {ws:List ByteArray} {x:Ex} {f:Ft} {c:Int} {k:List It} {S:AS} (e:qI F (bZ l ws x).1 x=(f,c)) (h:aC Tryz.prog G k S (fF Tryz.prog Tryz.f50 (.au [eX f,di c]))) :
  aC Tryz.prog G k S (fF Tryz.prog Tryz.f50 (.au [eX (gu F l ws x).1,di (gu F l ws x).2])):=by
 unfold gu;rw[e];exact h
theorem f50 {Fl:List Ft} {L:List Fc} (hfit:nV Fl L) (hFl:Fl.length≤100000) (ws:List ByteArray) (m:Nat):∀(x:Ex),ht x≤m→Sm x→aV x=true→(bZ (aW L L.length) ws x).2.2=0→
  aj Tryz.prog G 50 [bG m x,iJ Fl] (.au [eX (gu (bC Fl Fl.length) (aW L L.length) ws x).1,di (gu (bC Fl Fl.length) (aW L L.length) ws x).2]):=by
 have hF:=hfit.fam
 have hK:=hfit.OJ
 induction m using Nat.strongRecOn with
 | _ m ih=>
 intro x hx hs hsn h2
 have hname:=fun hk=>Yt hfit (ws:=ws) hsn h2 hk
 have hlen:=hs.len.1
 have hrk:=qC hsn
 have kid:∀i,i<x.kids.length→aj Tryz.prog G 50 [aS m x i,iJ Fl] (.au [eX (gu (bC Fl Fl.length) (aW L L.length) ws (x.kids.getD i ak)).1,di (gu (bC Fl Fl.length) (aW L L.length) ws (x.kids.getD i ak)).2]):=fun i hi=>
  jD (Q:=fun d=>aj Tryz.prog G 50 [d,iJ Fl] (.au [eX (gu (bC Fl Fl.length) (aW L L.length) ws (x.kids.getD i ak)).1,di (gu (bC Fl Fl.length) (aW L L.length) ws (x.kids.getD i ak)).2])) hx hi fun m' h3 h4=>ih m' h3 _ h4 (hs.kid hi) (dO hsn hi) ((ig h2).1 i hi)
 generalize bC Fl Fl.length=F at *
 generalize aW L L.length=l at *
 have one:=fun h=>kG (x:=x) hsn h
 have two:=fun h=>(kH (x:=x) hsn h).1
 have Uy:=fun h=>UR (x:=x) hsn h2 h
 have pX:=fun h=>NT (x:=x) hsn h2 h
 refine aj.iE Tryz.func50 rfl Tryz.call50 (YS Fl F l ws _ m x hx hs kid (fun hl h0 hsh=>?_) (fun k hk hbad hok hsh=>?_) fun hall hsh=>Yu ?_)
 ·unfold gu;rw[WW hsn h2 hl h0 hsh];rfl
 ·have e2:(gu F l ws (x.kids.getD k ak)).2=2:=by
   unfold gu qI at hbad⊢
   cases hv:zl F (bZ l ws (x.kids.getD k ak)).1 (x.kids.getD k ak) with
   | some o=>rw[hv] at hbad;exact absurd rfl hbad
   | none=>rfl
  rw[e2]
  unfold gu;rw[X7 hsn h2 hF hK hk hbad hok hsh]
 have a0:=fun hk=>Yj hsn h2 (F:=F) ((iw h2).1 hk) hall
 have ZC:(5≤x.k∧x.k≤11∨14≤x.k∧x.k≤17)→∀i,i<x.kids.length→ok ((x.kids.map (fB F)).getD i (0,0)).1 ((x.kids.map (fB F)).getD i (0,0)).2=true:=fun hk i hi=>by
  obtain ⟨b1,b2⟩:=yV (a0 hk).1
  have hh:=iC (x:=x) hi
  have:=Io hF.num m (x.kids.getD i ak) _ (by omega) (dO hsn hi) ((ig h2).1 i hi) ((iw h2).1 hk i hi) (b2 i hi)
  have e2:(x.kids.map (fB F)).getD i (0,0)=fB F (x.kids.getD i ak):=by
   rw[List.getD,List.getElem?_map,bQ hi,List.getD,bQ hi];rfl
  rw[e2];exact this
 have rlen:(x.kids.map (fB F)).length=x.kids.length:=List.length_map ..
 generalize hr:x.kids.map (fB F)=r at *
 have XH:5≤x.k∧x.k≤11→qI F (bZ l ws x).1 x=match vM x.k r with|some p=>({ eY 0 with n:=p.1,d:=p.2 },0)|none=>(aJ,2):=fun hk=>by
  rw[Uy (.inr hk),wM,vU]
  unfold Gy
  rw[if_neg (by omega),if_neg (by omega),(a0 (.inl hk)).1]
  try rfl
 have Xz:x.k=6∨x.k=7∨x.k=8∨x.k=9→qI F (bZ l ws x).1 x=((if (jv x.k r).2.2=0 then { eY 0 with n:=(jv x.k r).1,d:=(jv x.k r).2.1 } else aJ),(if (jv x.k r).2.2=0 then 0 else 2)):=fun hk=>by
  rw[XH (by omega)]
  unfold vM
  rw[if_neg (by omega),if_neg (by omega),if_neg (by omega)]
  by_cases hz:(jv x.k r).2.2=0
  ·simp only[if_pos hz]
  ·simp only[if_neg hz]
 refine Yq Fl m x _ _ _ (fun k1=>?_) (fun k3=>?_) (fun k4=>?_) (fun k2=>?_) (fun k5=>?_) (fun k6=>?_) (fun k7=>?_) (fun k8=>?_) (fun k9=>?_) (fun k10=>?_) (fun k11=>?_) (fun k18=>?_) (fun k19=>?_) (fun k20=>?_) (fun k12=>?_) (fun k13=>?_) (fun n1 n3 n4 n2 n5 n6 n7 n8 n9 n10 n11 n18 n19 n20 n12 n13=>?_)
 ·refine lq ?_ (abM (G:=G) Fl m x _ _)
  rw[Uy (.inl k1),wM,vU]
  unfold Gy
  rw[if_pos k1]
 ·refine lq ?_ (UY (G:=G) Fl m x _ _)
  rw[pX (.inl k3),nM,lX]
  unfold sV
  rw[if_pos k3,k3];rfl
 ·refine lq ?_ (UY (G:=G) Fl m x _ _)
  rw[pX (.inr (.inl k4)),nM,lX]
  unfold sV
  rw[if_neg (by omega),if_pos k4,k4];rfl
 ·refine abt Fl m x _ _ hFl _ (fun k hk e=>?_) (fun hno=>?_)
  ·unfold gu;rw[(hname k2).1 k hk e]
  ·unfold gu;rw[(hname k2).2 hno]
 ·have hl:=one (.inl k5)
  refine lq ?_ (aa9 _ _ _ _ _ (by omega))
  rw[XH (by omega),(a0 (.inl (by omega))).2 0 (by omega)]
  unfold vM
  rw[if_pos k5]
  show _=(({ eY 0 with n:=if ok (r.getD 0 (0,0)).1 (r.getD 0 (0,0)).2=true then _ else _,d:=_ }:Ft),_)
  rw[if_pos (ZC (.inl (by omega)) 0 (by omega))]
 ·have hl:=two (by omega)
  refine lq ?_ (abe _ _ _ _ _ (by omega))
  have e:jv x.k r=dG (r.getD 0 (0,0)).1 (r.getD 0 (0,0)).2 (r.getD 1 (0,0)).1 (r.getD 1 (0,0)).2:=by
   unfold jv zW
   rw[if_pos k6]
  rw[Xz (by omega),(a0 (.inl (by omega))).2 0 (by omega),(a0 (.inl (by omega))).2 1 (by omega),e]
 ·have hl:=two (by omega)
  refine lq ?_ (abm _ _ _ _ _ (by omega))
  have e:jv x.k r=bD (r.getD 0 (0,0)).1 (r.getD 0 (0,0)).2 (r.getD 1 (0,0)).1 (r.getD 1 (0,0)).2:=by
   unfold jv zW
   rw[if_neg (by omega),if_pos k7]
  rw[Xz (by omega),(a0 (.inl (by omega))).2 0 (by omega),(a0 (.inl (by omega))).2 1 (by omega),e]
 ·have hl:=two (by omega)
  refine lq ?_ (abK _ _ _ _ _ (by omega))
  have e:jv x.k r=bY (r.getD 0 (0,0)).1 (r.getD 0 (0,0)).2 (r.getD 1 (0,0)).1 (r.getD 1 (0,0)).2:=by
   unfold jv zW
   rw[if_neg (by omega),if_neg (by omega),if_pos k8]
  rw[Xz (by omega),(a0 (.inl (by omega))).2 0 (by omega),(a0 (.inl (by omega))).2 1 (by omega),e]
 ·have hl:=two (by omega)
  refine lq ?_ (acj _ _ _ _ _ (by omega))
  have e:jv x.k r=dD (r.getD 0 (0,0)).1 (r.getD 0 (0,0)).2 (r.getD 1 (0,0)).1 (r.getD 1 (0,0)).2:=by
   unfold jv zW
   rw[if_neg (by omega),if_neg (by omega),if_neg (by omega)]
  rw[Xz (by omega),(a0 (.inl (by omega))).2 0 (by omega),(a0 (.inl (by omega))).2 1 (by omega),e]
 ·have hl:=rZ (x:=x) hsn (.inl k10)
  refine lq ?_ (MC _ _ _ _ _ (by omega) (by omega) (.inl k10))
  rw[XH (by omega),k10,UM (r:=r) (fun i hi=>(a0 (.inl (by omega))).2 i (by omega)) (by omega) _ (by omega)]
  unfold vM
  rw[if_neg (by omega),if_neg (by omega),if_pos rfl,rlen]
 ·have hl:=rZ (x:=x) hsn (.inr k11)
  refine lq ?_ (MC _ _ _ _ _ (by omega) (by omega) (.inr k11))
  have hb:=uw r x.kids.length
  have hp:=Ce (l:=r) (k:=x.kids.length) (by omega)
  rw[XH (by omega),k11,UH (r:=r) (fun i hi=>(a0 (.inl (by omega))).2 i (by omega)) (fun i hi=>ZC (.inl (by omega)) i (by omega)) _ (by omega) (by omega),(a0 (.inl (by omega))).2 _ (by omega)]
  unfold vM
  rw[if_neg (by omega),if_pos rfl]
  have:nU r=true:=by
   unfold nU
   rw[List.all_eq_true]
   intro p hp
   obtain ⟨i,hi,rfl⟩:=List.getElem_of_mem hp
   have:=ZC (.inl (by omega)) i (by omega)
   rwa [List.getD,bQ hi] at this
  unfold jM
  rw[if_pos this,rlen]
 ·have hl:=one (.inr k18)
  obtain ⟨b,hb,e⟩:=wE ((iw h2).2 (by omega) 0 (by omega)) (hall 0 (by omega))
  refine lq ?_ (Zo _ _ _ _ _ (by omega))
  have e:vR F l ws x 0={ eY 1 with tr:=b }:=e
  rw[pX (by omega),nM,lX,e]
  unfold sV
  rw[if_neg (by omega),if_neg (by omega),if_neg (by omega),if_pos k18,iH F _ 0 (by omega),hb]
 ·have hl:=two (by omega)
  obtain ⟨b,hb,e⟩:=wE ((iw h2).2 (by omega) 0 (by omega)) (hall 0 (by omega))
  obtain ⟨b',hb',e'⟩:=wE ((iw h2).2 (by omega) 1 (by omega)) (hall 1 (by omega))
  refine lq ?_ (NJ _ _ _ _ _ (by omega))
  have e':vR F l ws x 1={ eY 1 with tr:=b' }:=e'
  have hsh:=hsh (by omega)
  rw[e] at hsh
  unfold zx at hsh
  rw[k19] at hsh
  have hbt:b=true:=by simpa using hsh
  subst hbt
  rw[pX (by omega),nM,lX,e']
  unfold sV
  rw[if_neg (by omega),if_neg (by omega),if_neg (by omega),if_neg (by omega),if_pos k19,iH F _ 0 (by omega),iH F _ 1 (by omega),hb,hb']
  rfl
 ·have hl:=two (by omega)
  obtain ⟨b,hb,e⟩:=wE ((iw h2).2 (by omega) 0 (by omega)) (hall 0 (by omega))
  obtain ⟨b',hb',e'⟩:=wE ((iw h2).2 (by omega) 1 (by omega)) (hall 1 (by omega))
  refine lq ?_ (NJ _ _ _ _ _ (by omega))
  have e':vR F l ws x 1={ eY 1 with tr:=b' }:=e'
  have hsh:=hsh (by omega)
  rw[e] at hsh
  unfold zx at hsh
  rw[k20] at hsh
  have hbt:b=false:=by simpa using hsh
  subst hbt
  rw[pX (by omega),nM,lX,e']
  unfold sV
  rw[if_neg (by omega),if_neg (by omega),if_neg (by omega),if_neg (by omega),if_neg (by omega),if_pos k20,iH F _ 0 (by omega),iH F _ 1 (by omega),hb,hb']
  rfl
 ·have hl:=two (by omega)
  refine lq ?_ (aac _ _ _ _ _ (by omega))
  rw[pX (by omega),nM,lX]
  unfold sV
  rw[if_neg (by omega),if_neg (by omega),if_neg (by omega),if_neg (by omega),if_neg (by omega),if_neg (by omega),if_pos k12,iH F _ 0 (by omega),iH F _ 1 (by omega),P9 hF hK hx hsn h2 (.inl k12) hall]
 ·have hl:=two (by omega)
  refine lq ?_ (ZE _ _ _ _ _ (by omega))
  rw[pX (by omega),nM,lX]
  unfold sV
  rw[if_neg (by omega),if_neg (by omega),if_neg (by omega),if_neg (by omega),if_neg (by omega),if_neg (by omega),if_neg (by omega),if_pos k13,iH F _ 0 (by omega),iH F _ 1 (by omega),P9 hF hK hx hsn h2 (.inr k13) hall]
 ·have hc:14≤x.k∧x.k≤17:=by omega
  have hl:=two (by omega)
  refine lq ?_ (Yh _ _ _ _ _ (by omega))
  obtain ⟨b1,b2⟩:=yV (a0 (.inr hc)).1
  have q0:=(a0 (.inr hc)).2 0 (by omega)
  have q1:=(a0 (.inr hc)).2 1 (by omega)
  obtain ⟨p,hp,e0⟩:=CX ((iw h2).1 (.inr hc) 0 (by omega)) (hall 0 (by omega))
  obtain ⟨q,hq,e1⟩:=CX ((iw h2).1 (.inr hc) 1 (by omega)) (hall 1 (by omega))
  have e0:vR F l ws x 0={ eY 0 with n:=p.1,d:=p.2 }:=e0
  have e1:vR F l ws x 1={ eY 0 with n:=q.1,d:=q.2 }:=e1
  rw[pX (by omega),nM,lX,e0,e1]
  unfold sV
  rw[if_neg (by omega),if_neg (by omega),if_neg (by omega),if_neg (by omega),if_neg (by omega),if_neg (by omega),if_neg (by omega),if_neg (by omega)]
  unfold rG
  rw[hp,hq]
  show (({ eY 1 with tr:=if x.k=14 then decide (fG p.1 p.2 q.1 q.2<0) else if x.k=15 then decide (fG p.1 p.2 q.1 q.2≤0) else if x.k=16 then decide (fG p.1 p.2 q.1 q.2>0) else decide (fG p.1 p.2 q.1 q.2≥0) }:Ft),(0:Int))=(({ eY 1 with tr:=Xo x.k (fG p.1 p.2 q.1 q.2) }:Ft),0)
  have:x.k=14∨x.k=15∨x.k=16∨x.k=17:=by omega
  unfold Xo
  rcases this with h|h|h|h<;>rw[h]<;>simp
theorem XZ {F:List Ft} {L:List Fc} (hF:F.length≤100000) (m:Nat) (x:Ex) (hx:ht x≤m) (hs:Sm x) (hv:gJ F L=true) (ht0:(aP L x).2.2=0) :
  aj Tryz.prog G 50 [bG m x,iJ F] (.au [eX (qI (bC F F.length) (aP L x).1 x).1,di (qI (bC F F.length) (aP L x).1 x).2]):=by
 obtain ⟨_,hsn,hty,etyp⟩:=rO ht0
 have ek:(aP L x).1=(dA L x).1:=by rw[etyp]
 have:=f50 (G:=G) (DR hv) hF _ m x hx hs hsn hty
 rw[ek]
 exact this
theorem f13 (hT:Tab G) (F:List Ft) (L:List Fc) (h:∀i,i<L.length→sS (L.getD i aG)) (hl:L.length≤1000) (hF:F.length≤100000) (m:Nat) (x:Ex) (hx:ht x≤m) (hs:Sm x) :
  aj Tryz.prog G 13 [bG m x,iJ F,fC L] (.au [eX (dU F L x).1,di (dU F L x).2]):=
 aam hT F L h hl hF m x hx hs fun hv ht0=>XZ hF m x hx hs hv ht0
def eqI (a b:List Int):Bool:=decide (a=b)
theorem ads {a b:List Int} (h:a.length=b.length) (hh:∀i,i<a.length→a.getD i 0=b.getD i 0):a=b:=by
 refine List.ext_getElem h fun i h1 h2=>?_
 have:=hh i h1
 rwa [List.getD,bQ h1,List.getD,bQ h2] at this
noncomputable def adw (a b:List Int) (k:Nat):AS:=⟨regs Tryz.f40.ntmps [(0,.d (lY a)),(1,.d (lY b)),(12,vi a.length),(13,vi k)],[]⟩
theorem f40 (a b:List Int) (ha:a.length≤100000):aj Tryz.prog G 40 [lY a,lY b] (db (eqI a b)):=by
 unfold eqI
 refine aj.aK (ay:=jo) (keep:=[]) follows Tryz.func40 rfl Tryz.call40 ?_
 refine aA (fun ZT ZW ZQ _=>(((((↑a.length:Int) != ↑b.length)=true)→(((db false):DV)=(db (decide (a=b)))))∧((((↑a.length:Int) != ↑b.length)=false)→ZW [cd Tryz.f40 [1,1,0,1,0],(.blk 0),cd Tryz.f40 [1,1,1]] (aI ZT [1]) ZQ))) (by kernel_rfl) ?_
 refine⟨fun hne=>?_,fun heq=>?_⟩
 ·rw[decide_eq_false]
  rintro rfl
  simp at hne
 have heq:a.length=b.length:=by
  have h0:(a.length:Int)=b.length:=by simpa using heq
  omega
 refine aC.loop (c:=dR (aQ Tryz.f40) [1,1,0,1,0,0]) (by kernel_rfl) (adw a b) (fun k=>k≤a.length∧∀i,i<k→a.getD i 0=b.getD i 0) (fun k=>a.length-k) 0 ?_ ⟨Nat.zero_le _,fun i hi=>absurd hi (Nat.not_lt_zero _)⟩ ?_
 ·exact AS.dB (by kernel_rfl)
 ·rintro k ⟨hk,hkd⟩
  refine aK (ay:=jo) (keep:=[]) (cuts:=[]) (n:=1000) follows ?_
  refine bW (fun ZT ZW ZQ _ ZA _=>((((decide ((↑k:Int)<↑a.length))=true)→((((0≤(↑k:Int))∧((↑k:Int)<↑a.length))∧(0≤(↑k:Int))∧((↑k:Int)<↑b.length))∧(((a.getD (↑k:Int).toNat 0 != b.getD (↑k:Int).toNat 0)=true)→(((db false):DV)=(db (decide (a=b)))))∧(((a.getD (↑k:Int).toNat 0 != b.getD (↑k:Int).toNat 0)=false)→((I64 (↑k+1))∧(ZA (aI ZT [0,1]))))))∧(((decide ((↑k:Int)<↑a.length))=false)→ZW [cd Tryz.f40 [1,1,1]] (aI ZT [1]) ZQ))) (by kernel_rfl) ?_
  simp only[Int.toNat_natCast]
  refine⟨fun h=>?_,fun h=>?_⟩
  ·have hk2:k<a.length:=by have:=of_decide_eq_true h;omega
   refine⟨⟨⟨by omega,by omega⟩,⟨by omega,by omega⟩⟩,fun h2=>?_,fun h2=>⟨⟨by omega,by omega⟩,Again.mk (k+1) ?_ ⟨hk2,fun i hi=>?_⟩ (by omega)⟩⟩
   ·rw[decide_eq_false]
    rintro rfl
    exact absurd rfl (bne_iff_ne.1 h2)
   ·exact AS.dB (by kernel_rfl)
   ·rcases Nat.lt_or_ge i k with h4|h4
    ·exact hkd i h4
    ·obtain rfl:i=k:=by omega
     exact Classical.not_not.1 fun hh=>by rw[bne_iff_ne.2 hh] at h2;cases h2
  ·simp only[decide_eq_false_iff_not] at h
   refine aK (ay:=jo) (keep:=[]) (cuts:=[]) (n:=1000) follows ?_
   refine aA (fun _ _ _ _=>(((db true):DV)=(db (decide (a=b))))) (by kernel_rfl) ?_
   rw[decide_eq_true (ads heq fun i hi=>hkd i (by omega))]
/-! The examples of the chapter. -/
abbrev IK:ByteArray:=⟨#[112,97,115,115,101,100]⟩
abbrev NR:ByteArray:=⟨#[116,101,115,116,115]⟩
abbrev sP:ByteArray:=⟨#[112]⟩
abbrev sQ:ByteArray:=⟨#[113]⟩
abbrev nX (k:Int) (l:List Ex):Ex:=.mk k .empty 0 0 0 l
abbrev qX (n:Int):Ex:=.mk 1 .empty n 1 0 []
abbrev vX (s:ByteArray):Ex:=.mk 2 s 0 0 0 []
def Ip:Ex:=nX 9 [nX 8 [qX 40,vX IK],vX NR]
def yB:Ex:=nX 20 [vX sP,vX sQ]
def yL:Ex:=nX 19 [vX sP,vX sQ]
def L0:List Fc:=[⟨IK,0,0,1,9,1,[]⟩,⟨NR,0,0,1,9,1,[]⟩,⟨sP,1,0,0,0,0,[]⟩,⟨sQ,1,0,0,0,0,[]⟩]
def F0 (n:Int):List Ft:=[⟨IK,0,3,1,false,.empty⟩,⟨NR,0,n,1,false,.empty⟩,⟨sP,1,0,0,true,.empty⟩,⟨sQ,1,0,0,false,.empty⟩]
theorem aef:dU (F0 4) L0 Ip=(⟨.empty,0,30,1,false,.empty⟩,0):=by kernel_rfl
theorem adb:dU (F0 0) L0 Ip=(aJ,2):=by kernel_rfl
theorem SV:aP L0 yB=(1,0,0):=by kernel_rfl
theorem Rq:aP L0 yL=(1,0,0):=by kernel_rfl
theorem WC:gJ (F0 4) L0=true:=by kernel_rfl
theorem aaw:dI (bC (F0 4) 4) yB=some true:=by kernel_rfl
theorem aao:dI (bC (F0 4) 4) yL=some false:=by kernel_rfl
theorem WH:dI (bC (F0 4) 4) (vX sP)=some true:=by kernel_rfl
theorem mX {k:IH} {c:Int} {s:ByteArray} {n d:Int} {m:Nat} {v:Value} (h:DV.rel k (.agg [di c,ds s,di n,di d,di 0,.con (.slice none 0 0)]) v):DV.rel k (bG m (.mk c s n d 0 [])) v:=by
 obtain ⟨us,rfl,a,u1,rfl,ha,b,u2,rfl,hb,c,u3,rfl,hc,d,u4,rfl,hd,e,u5,rfl,he,f,u6,rfl,hf,h0⟩:=h
 exact⟨_,rfl,a,_,rfl,ha,b,_,rfl,hb,c,_,rfl,hc,d,_,rfl,hd,e,_,rfl,he,f,_,rfl,su hf,h0⟩
theorem uO {k:IH} {c:Int} {m:Nat} {a b:Ex} {f:Nat→DV} {v:Value} (ha:∀v,DV.rel k (f 0) v→DV.rel k (bG m a) v) (hb:∀v,DV.rel k (f 1) v→DV.rel k (bG m b) v)
  (h:DV.rel k (.agg [di c,ds .empty,di 0,di 0,di 0,.slc 6 2 f]) v):DV.rel k (bG (m+1) (nX c [a,b])) v:=by
 obtain ⟨us,rfl,x1,u1,rfl,h1,x2,u2,rfl,h2,x3,u3,rfl,h3,x4,u4,rfl,h4,x5,u5,rfl,h5,x6,u6,rfl,h6,h0⟩:=h
 refine⟨_,rfl,x1,_,rfl,h1,x2,_,rfl,h2,x3,_,rfl,h3,x4,_,rfl,h4,x5,_,rfl,h5,x6,_,rfl,?_,h0⟩
 refine jI (n:=2) (f:=f) (fun i hi v hv=>?_) h6
 rcases i with _|_|i
 ·exact ha v hv
 ·exact hb v hv
 ·omega
def Qz (k:Int) (s:ByteArray) (n d:Int):DV:=.agg [di k,ds s,di n,di d,di 0,.con (.slice none 0 0)]
theorem f36 (n:Int):aj Tryz.prog G 36 [di n] (fr n 1):=by
 refine aj.aK (ay:=jo) (keep:=[]) follows Tryz.func36 rfl Tryz.call36 ?_
 refine aA (fun _ _ _ _=>(ZS ((fr n 1):DV))) (by kernel_rfl) ?_
 rfl
theorem f38 (n:Int):aj Tryz.prog G 38 [di n] (Qz 1 .empty n 1):=by
 refine aj.aK (ay:=jo) (keep:=[]) follows Tryz.func38 rfl Tryz.call38 ?_
 refine aA (fun _ _ _ _=>(((.agg [(di 1),(ds (ByteArray.mk #[])),(di n),(di 1),(di 0),(.con (.slice none 0 0))]):DV)=(Qz 1 ByteArray.empty n 1))) (by kernel_rfl) ?_
 rfl
theorem f39 (s:ByteArray):aj Tryz.prog G 39 [ds s] (Qz 2 s 0 0):=by
 refine aj.aK (ay:=jo) (keep:=[]) follows Tryz.func39 rfl Tryz.call39 ?_
 refine aA (fun _ _ _ _=>(((.agg [(di 2),(ds s),(di 0),(di 0),(di 0),(.con (.slice none 0 0))]):DV)=(Qz 2 s 0 0))) (by kernel_rfl) ?_
 rfl
theorem f37 (k:Int) (g:Nat→DV) (n:Nat):aj Tryz.prog G 37 [di k,.slc 6 n g] (.agg [di k,ds .empty,di 0,di 0,di 0,.slc 6 n g]):=by
 refine aj.aK (ay:=jo) (keep:=[]) follows Tryz.func37 rfl Tryz.call37 ?_
 refine aA (fun _ _ _ _=>(((.agg [(di k),(ds (ByteArray.mk #[])),(di 0),(di 0),(di 0),(.slc 6 n g)]):DV)=(.agg [(di k),(ds ByteArray.empty),(di 0),(di 0),(di 0),(.slc 6 n g)]))) (by kernel_rfl) ?_
 rfl
def nOf (d:DV):Int:=match d with | .agg (_ :: _ :: .con (.int _ k) :: _)=>k|_=>0
noncomputable def d10:aZ:=fun f a=>match f,a with
 | 36,[.con (.int .i64 n)]=>some (fr n 1)
 | 38,[.con (.int .i64 n)]=>some (Qz 1 .empty n 1)
 | 39,[.con (.string s)]=>some (Qz 2 s 0 0)
 | 37,[.con (.int .i64 k),w]=>some (.agg [di k,ds .empty,di 0,di 0,di 0,w])
 | 12,[_,.slc _ _ g,_]=>match nOf (g 1) with
  | 4=>some (.au [.agg [ds .empty,di 0,di 30,di 1,db false,ds .empty],di 0])
  | _=>some (.au [eX aJ,di 2])
 | 40,[_,_]=>some (db true)
 | _,_=>none
noncomputable def m10:FuncId→List AV→List (Nat×List AV)→Option (AV×List (Nat×List AV)):=fun f a pre=>match f,a with
 | 19,[.d (.agg (.con (.int .i64 k) :: _)),_,_]=>match k with
  | 20=>some (.au [.vec 900 1 0 1,vi 0],pre++[y8 [0]])
  | _=>some (.au [.vec 900 1 0 1,vi 0],pre++[y8 [1]])
 | _,_=>none
noncomputable def aci:iq:={ d:=d10,m:=m10,rows:=fun _=>true,ro:=fun f=>Nat.beq f 19 }
theorem VQ:∀i,i<L0.length→sS (L0.getD i aG):=by
 intro i hi
 have hi:i<4:=hi
 rcases i with _|_|_|_|i
 ·exact⟨by decide,by decide,fun j hj=>absurd hj (Nat.not_lt_zero _)⟩
 ·exact⟨by decide,by decide,fun j hj=>absurd hj (Nat.not_lt_zero _)⟩
 ·exact⟨by decide,by decide,fun j hj=>absurd hj (Nat.not_lt_zero _)⟩
 ·exact⟨by decide,by decide,fun j hj=>absurd hj (Nat.not_lt_zero _)⟩
 ·omega
theorem g12 (hT:Tab G) {n:Int} {x:Ex} {m:Nat} {d r:DV} {f g:Nat→DV} (hx:ht x≤m) (hs:Sm x) (hd:∀k v,DV.rel k d v→DV.rel k (bG m x) v) (hf:∀k i,i<4→∀v,DV.rel k (f i) v→DV.rel k (kT (F0 n) i) v) (hg:∀k i,i<4→∀v,DV.rel k (g i) v→DV.rel k (gV L0 i) v)
  (hr:DV.au [eX (dU (F0 n) L0 x).1,di (dU (F0 n) L0 x).2]=r):aj Tryz.prog G 12 [d,.slc 6 4 f,.slc 7 4 g] r:=by
 subst hr
 exact(f12 hT (F0 n) L0 VQ (by decide) (by show 4≤100000;decide) m x hx hs).args fun k us h=>DV.fK (hd k) (DV.fK (fun v hv=>jI (hf k) hv) (DV.fK (fun v hv=>jI (hg k) hv) fun _ h=>h)) us h
theorem abP {a b:List AV} {s:Nat} {l:List AV} (h:Go.Ab.look [(1000000,a),(1000001,b)] s=some l):(s=1000000∧l=a)∨(s=1000001∧l=b):=by
 simp only[Go.Ab.look] at h
 cases h1:Nat.beq 1000000 s with
 | true=>
  rw[h1] at h
  exact .inl ⟨(Nat.eq_of_beq_eq_true h1).symm,(Option.some.inj h).symm⟩
 | false=>
  rw[h1] at h
  cases h2:Nat.beq 1000001 s with
  | true=>
   rw[h2] at h
   exact .inr ⟨(Nat.eq_of_beq_eq_true h2).symm,(Option.some.inj h).symm⟩
  | false=>rw[h2] at h;cases h
theorem look1 {u:Nat} {a:List AV} {s:Nat} {l:List AV} (h:Go.Ab.look [(u,a)] s=some l):s=u∧l=a:=by
 simp only[Go.Ab.look] at h
 cases h1:Nat.beq u s with
 | true=>
  rw[h1] at h
  exact⟨(Nat.eq_of_beq_eq_true h1).symm,(Option.some.inj h).symm⟩
 | false=>rw[h1] at h;cases h
theorem sm2 {k:Int} {s t:ByteArray} (h:s.size≤1000∧t.size≤1000):Sm (nX k [vX s,vX t]):=⟨by simp[jV,iK],by simp[xU,zC];exact h⟩
theorem g19 {n:Int} {x:Ex} {m:Nat} {d:DV} {f g:Nat→DV} {k1 k2:RK} (l:List Int) (hd:∀k v,DV.rel k d v→DV.rel k (bG m x) v) (hf:∀k i,i<4→∀v,DV.rel k (f (0+i)) v→DV.rel k (kT (F0 n) i) v) (hg:∀k i,i<4→∀v,DV.rel k (g (0+i)) v→DV.rel k (gV L0 i) v)
  (h1:cZ Tryz.prog G 19 [.d (bG m x),.d (iJ (F0 n)),.d (fC L0)] [] (.au [.vec 900 1 0 l.length,vi 0]) [y8 l]):cZ Tryz.prog G 19 [.d d,.vec 1000000 6 0 4,.vec 1000001 7 0 4] [(1000000,[.arr k1 6 f]),(1000001,[.arr k2 7 g])] (.au [.vec 900 1 0 l.length,vi 0]) ([(1000000,[.arr k1 6 f]),(1000001,[.arr k2 7 g])]++[y8 l]):=by
 refine cZ.lend (xs:=[d,.slc 6 4 (fun i=>f (0+i)),.slc 7 4 (fun i=>g (0+i))]) (ss:=[1000000,1000001]) (cZ.ab6 (xs':=[bG m x,iJ (F0 n),fC L0]) h1 fun k us h=>DV.fK (hd k) (DV.fK (fun v hv=>jI (hf k) hv) (DV.fK (fun v hv=>jI (hg k) hv) fun _ h=>h)) us h) rfl rfl (fun s hs=>?_) (fun s l' hl=>?_) rfl fun s l' hl=>?_
 ·rcases List.mem_cons.1 hs with rfl|hs
  ·exact⟨_,_,_,rfl⟩
  ·obtain rfl:=List.mem_singleton.1 hs
   exact⟨_,_,_,rfl⟩
 ·rcases abP hl with ⟨rfl,rfl⟩|⟨rfl,rfl⟩
  ·exact⟨by decide,_,_,_,rfl⟩
  ·exact⟨by decide,_,_,_,rfl⟩
 ·obtain ⟨rfl,rfl⟩:=look1 hl
  exact⟨by decide,_,_,_,rfl,fun i=>rfl⟩
theorem g60 {s:ByteArray} (F:List Ft) (i:Nat) (n:Int):cZ Tryz.prog G 60 [.d (gI F),.d (bG i (vX s)),.d (di n)] [] (.vec 900 1 0 1) [(900,[.arr uI 1 (gG [n])])]:=X3 F i (vX s) n (Nat.zero_le _) rfl
theorem r19 (hT:Tab G):cZ Tryz.prog G 19 [.d (bG 1 yB),.d (iJ (F0 4)),.d (fC L0)] [] (.au [.vec 900 1 0 1,vi 0]) [y8 [0]]∧cZ Tryz.prog G 19 [.d (bG 1 yL),.d (iJ (F0 4)),.d (fC L0)] [] (.au [.vec 900 1 0 1,vi 0]) [y8 [1]]:=by
 have hfit:=DR WC
 have hO:ht yB≤1:=by simp[yB,ht,iI]
 have hN:ht yL≤1:=by simp[yL,ht,iI]
 have sO:Sm yB:=sm2 (by decide)
 have sN:Sm yL:=sm2 (by decide)
 have nO:jV yB=3:=by simp[yB,jV,iK]
 have nN:jV yL=3:=by simp[yL,jV,iK]
 have yO:=rO (L:=L0) (x:=yB) (by rw[SV])
 have yN:=rO (L:=L0) (x:=yL) (by rw[Rq])
 have kO:(dA L0 yB).1=1:=by have:=yO.2.2.2;rw[SV] at this;exact(congrArg (·.1) this).symm
 have kN:(dA L0 yL).1=1:=by have:=yN.2.2.2;rw[Rq] at this;exact(congrArg (·.1) this).symm
 have bO:=(f47 (G:=G) hfit.fam hfit.OJ 1 yB hO sO yO.2.1 yO.2.2.1 kO).1 true aaw
 have bN:=(f47 (G:=G) hfit.fam hfit.OJ 1 yL hN sN yN.2.1 yN.2.2.1 kN).1 false aao
 have sP1:Sm (vX sP):=sO.kid (i:=0) (by decide)
 have bP:=(f47 (G:=G) hfit.fam hfit.OJ 0 (vX sP) (Nat.zero_le _) sP1 (dO (i:=0) yO.2.1 (by decide)) ((ig yO.2.2.1).1 0 (by decide)) ((iw yO.2.2.1).2 (by decide) 0 (by decide))).1 true WH
 have a1:=Nj (G:=G) 1 0 (vX sP) (Nat.zero_le _) (Nat.zero_le _) rfl
 constructor
 ·exact SI hT (F0 4) L0 VQ (by decide) (by show 4≤100000;decide) 1 yB hO sO WC (by rw[SV]) (by rw[SV]) [0] (vw (RH (VE (bC (F0 4) 4) 1 yB 0 hO sO rfl (.inr rfl) (by rw[nO];decide) aaw bO true WH rfl rfl [0] (FI rfl 0) a1 bP (g60 _ 0 0)))) (vw (QO bO))
 ·exact SI hT (F0 4) L0 VQ (by decide) (by show 4≤100000;decide) 1 yL hN sN WC (by rw[Rq]) (by rw[Rq]) [1] (vw (RH (Ud (bC (F0 4) 4) 1 yL 0 hN sN rfl (.inl rfl) (by rw[nN];decide) aao bN true WH rfl (by decide) [1] (FI rfl 1) a1 bP (g60 _ 0 1)))) (vw (QO bN))
theorem g40 {f g:Nat→DV} (c:Int) (hf:∀i,i<1→f i=di c) (hg:∀i,i<1→g i=di c):aj Tryz.prog G 40 [.slc 1 1 f,.slc 1 1 g] (db true):=by
 have h:=f40 (G:=G) [c] [c] (by show 1≤100000;decide)
 rw[show eqI [c] [c]=true from decide_eq_true rfl] at h
 refine h.args fun k us h=>DV.fK (fun v hv=>jI (n:=1) (fun i hi v hv=>?_) hv) (DV.fK (fun v hv=>jI (n:=1) (fun i hi v hv=>?_) hv) fun _ h=>h) us h
 ·rw[hf i hi] at hv;obtain rfl:i=0:=by omega
  exact hv
 ·rw[hg i hi] at hv;obtain rfl:i=0:=by omega
  exact hv
theorem aag:Sm Ip:=⟨by simp[Ip,jV,iK],by simp[Ip,xU,zC];decide⟩
theorem f10 (hT:Tab G):aj Tryz.prog G 10 [] (db true):=by
 refine aj.aK (ay:=aci) (keep:=[]) follows Tryz.func10 rfl Tryz.call10 ?_
 refine aA (fun _ _ _ ZK=>(fun Za Zb Zc Zd Ze Zf Zg Zh Zi=>((ZK 36 [(di 9)] (.agg [(di 9),(di 1)])∧ZK 36 [(di 0)] (.agg [(di 0),(di 1)])∧ZK 36 [(di 9)] (.agg [(di 9),(di 1)])∧ZK 36 [(di 0)] (.agg [(di 0),(di 1)]))∧(ZK 36 [(di 3)] (.agg [(di 3),(di 1)])∧ZK 36 [(di 4)] (.agg [(di 4),(di 1)]))∧(ZK 38 [(di 40)] (.agg [(di 1),(ds ByteArray.empty),(di 40),(di 1),(di 0),(.con (.slice none 0 0))])∧ZK 39 [(ds Zi)] (.agg [(di 2),(ds Zi),(di 0),(di 0),(di 0),(.con (.slice none 0 0))])∧ZK 37 [(di 8),Zg] (.agg [(di 8),(ds ByteArray.empty),(di 0),(di 0),(di 0),Zg])∧ZK 39 [(ds (ByteArray.mk #[116,101,115,116,115]))] (.agg [(di 2),(ds (ByteArray.mk #[116,101,115,116,115])),(di 0),(di 0),(di 0),(.con (.slice none 0 0))])∧ZK 37 [(di 9),Zc] (.agg [(di 9),(ds ByteArray.empty),(di 0),(di 0),(di 0),Zc]))∧ZK 12 [(.agg [(di 9),(ds ByteArray.empty),(di 0),(di 0),(di 0),Zc]),(.slc 6 4 (fun i=>aN true 6 [ds Zi,di 0,di 3,di 1,DV.con (Value.bool false),DV.con Zh,ds (ByteArray.mk #[116,101,115,116,115]),di 0,di 4,di 1,DV.con (Value.bool false),DV.con Zh,ds (ByteArray.mk #[112]),di 1,di 0,di 0,DV.con (Value.bool true),DV.con Zh,ds (ByteArray.mk #[113]),di 1,di 0,di 0,DV.con (Value.bool false),DV.con Zh] (0+i))),Ze] (.au [(.agg [(ds ByteArray.empty),(di 0),(di 30),(di 1),(db false),(ds ByteArray.empty)]),(di 0)])∧(ZK 39 [(ds (ByteArray.mk #[112]))] (.agg [(di 2),(ds (ByteArray.mk #[112])),(di 0),(di 0),(di 0),(.con (.slice none 0 0))])∧ZK 39 [(ds (ByteArray.mk #[113]))] (.agg [(di 2),(ds (ByteArray.mk #[113])),(di 0),(di 0),(di 0),(.con (.slice none 0 0))])∧ZK 37 [(di 20),Zd] (.agg [(di 20),(ds ByteArray.empty),(di 0),(di 0),(di 0),Zd])∧cZ Tryz.prog G 19 [(.d (.agg [(di 20),(ds ByteArray.empty),(di 0),(di 0),(di 0),Zd])),(.vec 1000000 6 0 4),(.vec 1000001 7 0 4)] [(1000000,[Zb]),(1000001,[Za])] (.au [(.vec 900 1 0 1),(vi 0)]) [(1000000,[Zb]),(1000001,[Za]),(900,[(.arr ⟨false,3,false,none⟩ 1 (gG [0]))])]∧([Zb]:(List AV))=[Zb]∧([Za]:(List AV))=[Za])∧(ZK 39 [(ds (ByteArray.mk #[112]))] (.agg [(di 2),(ds (ByteArray.mk #[112])),(di 0),(di 0),(di 0),(.con (.slice none 0 0))])∧ZK 39 [(ds (ByteArray.mk #[113]))] (.agg [(di 2),(ds (ByteArray.mk #[113])),(di 0),(di 0),(di 0),(.con (.slice none 0 0))])∧ZK 37 [(di 19),Zd] (.agg [(di 19),(ds ByteArray.empty),(di 0),(di 0),(di 0),Zd])∧cZ Tryz.prog G 19 [(.d (.agg [(di 19),(ds ByteArray.empty),(di 0),(di 0),(di 0),Zd])),(.vec 1000000 6 0 4),(.vec 1000001 7 0 4)] [(1000000,[Zb]),(1000001,[Za])] (.au [(.vec 900 1 0 1),(vi 0)]) [(1000000,[Zb]),(1000001,[Za]),(900,[(.arr ⟨false,3,false,none⟩ 1 (gG [1]))])]∧([Zb]:(List AV))=[Zb]∧([Za]:(List AV))=[Za])∧(ZK 36 [(di 0)] (.agg [(di 0),(di 1)])∧((0:Int)≤(1:Int))∧(1<(↑4:Int)))∧ZK 12 [(.agg [(di 9),(ds ByteArray.empty),(di 0),(di 0),(di 0),Zc]),(.slc 6 4 (fun i=>bif (0+i).beq (0+Int.toNat 1) then DV.agg (List.take (0+2) Zf++[di 0,di 1]++List.drop (0+2+2) Zf) else aN true 6 [ds Zi,di 0,di 3,di 1,DV.con (Value.bool false),DV.con Zh,ds (ByteArray.mk #[116,101,115,116,115]),di 0,di 4,di 1,DV.con (Value.bool false),DV.con Zh,ds (ByteArray.mk #[112]),di 1,di 0,di 0,DV.con (Value.bool true),DV.con Zh,ds (ByteArray.mk #[113]),di 1,di 0,di 0,DV.con (Value.bool false),DV.con Zh] (0+i))),Ze] (.au [(.agg [(ds ByteArray.empty),(di 0),(di 0),(di 0),(db false),(ds ByteArray.empty)]),(di 2)])∧(((true=true)→ZK 36 [(di 30)] (.agg [(di 30),(di 1)]))∧((true=true)→ZK 40 [(.slc 1 1 (fun i=>gG [0] (0+i))),(.slc 1 1 (fun i=>aN false 1 [di 0] (0+i)))] (db true))∧((true=true)→ZK 40 [(.slc 1 1 (fun i=>gG [1] (0+i))),(.slc 1 1 (fun i=>aN false 1 [di 1] (0+i)))] (db true)))∧(ZS ((db true):DV)))) ((.arr ⟨true,73,false,none⟩ 7 (aN true 7 [(ds (ByteArray.mk #[112,97,115,115,101,100])),(di 0),(di 0),(di 1),(di 9),(di 1),(.con (.slice none 0 0)),(ds (ByteArray.mk #[116,101,115,116,115])),(di 0),(di 0),(di 1),(di 9),(di 1),(.con (.slice none 0 0)),(ds (ByteArray.mk #[112])),(di 1),(di 0),(di 0),(di 0),(di 0),(.con (.slice none 0 0)),(ds (ByteArray.mk #[113])),(di 1),(di 0),(di 0),(di 0),(di 0),(.con (.slice none 0 0))])):AV) ((.arr ⟨true,32,false,none⟩ 6 (aN true 6 [(ds (ByteArray.mk #[112,97,115,115,101,100])),(di 0),(di 3),(di 1),(db false),(ds (ByteArray.mk #[])),(ds (ByteArray.mk #[116,101,115,116,115])),(di 0),(di 4),(di 1),(db false),(ds (ByteArray.mk #[])),(ds (ByteArray.mk #[112])),(di 1),(di 0),(di 0),(db true),(ds (ByteArray.mk #[])),(ds (ByteArray.mk #[113])),(di 1),(di 0),(di 0),(db false),(ds (ByteArray.mk #[]))])):AV) ((.slc 6 2 (fun i=>aN true 6 [di 8,ds ByteArray.empty,di 0,di 0,di 0,DV.slc 6 2 fun i=>aN true 6 [di 1,ds ByteArray.empty,di 40,di 1,di 0,DV.con (Value.slice none 0 0),di 2,ds (ByteArray.mk #[112,97,115,115,101,100]),di 0,di 0,di 0,DV.con (Value.slice none 0 0)] (0+i),di 2,ds (ByteArray.mk #[116,101,115,116,115]),di 0,di 0,di 0,DV.con (Value.slice none 0 0)] (0+i))):DV) ((.slc 6 2 (fun i=>aN true 6 [di 2,ds (ByteArray.mk #[112]),di 0,di 0,di 0,DV.con (Value.slice none 0 0),di 2,ds (ByteArray.mk #[113]),di 0,di 0,di 0,DV.con (Value.slice none 0 0)] (0+i))):DV) ((.slc 7 4 (fun i=>aN true 7 [ds (ByteArray.mk #[112,97,115,115,101,100]),di 0,di 0,di 1,di 9,di 1,DV.con (Value.slice none 0 0),ds (ByteArray.mk #[116,101,115,116,115]),di 0,di 0,di 1,di 9,di 1,DV.con (Value.slice none 0 0),ds (ByteArray.mk #[112]),di 1,di 0,di 0,di 0,di 0,DV.con (Value.slice none 0 0),ds (ByteArray.mk #[113]),di 1,di 0,di 0,di 0,di 0,DV.con (Value.slice none 0 0)] (0+i))):DV) (List.take 6 (List.drop ((0+Int.toNat 1)*6) [ds (ByteArray.mk #[112,97,115,115,101,100]),di 0,di 3,di 1,DV.con (Value.bool false),ds (ByteArray.mk #[]),ds (ByteArray.mk #[116,101,115,116,115]),di 0,di 4,di 1,DV.con (Value.bool false),ds (ByteArray.mk #[]),ds (ByteArray.mk #[112]),di 1,di 0,di 0,DV.con (Value.bool true),ds (ByteArray.mk #[]),ds (ByteArray.mk #[113]),di 1,di 0,di 0,DV.con (Value.bool false),ds (ByteArray.mk #[])])) ((.slc 6 2 (fun i=>aN true 6 [di 1,ds ByteArray.empty,di 40,di 1,di 0,DV.con (Value.slice none 0 0),di 2,ds (ByteArray.mk #[112,97,115,115,101,100]),di 0,di 0,di 0,DV.con (Value.slice none 0 0)] (0+i))):DV) (Value.string (ByteArray.mk #[])) (ByteArray.mk #[112,97,115,115,101,100])) (by kernel_rfl) ?_
 repeat' (first|(with_reducible refine And.intro ?_ ?_)|(with_reducible intro _))
 case refine_2.refine_2.refine_2.refine_1=>
  refine g12 hT (n:=4) (x:=Ip) (m:=2) (by simp[Ip,ht,iI]) aag (fun k v=>?_) (fun k i hi v hv=>?_) (fun k i hi v hv=>?_) ?_
  ·exact uO (fun v=>uO (fun v=>mX) (fun v=>mX)) (fun v=>mX)
  ·rcases i with _|_|_|_|i
   ·exact hv
   ·exact hv
   ·exact hv
   ·exact hv
   ·omega
  ·rcases i with _|_|_|_|i
   ·exact pU hv
   ·exact pU hv
   ·exact pU hv
   ·exact pU hv
   ·omega
  ·rw[aef]
 case refine_2.refine_2.refine_2.refine_2.refine_2.refine_2.refine_2.refine_1=>
  refine g12 hT (n:=0) (x:=Ip) (m:=2) (by simp[Ip,ht,iI]) aag (fun k v=>?_) (fun k i hi v hv=>?_) (fun k i hi v hv=>?_) ?_
  ·exact uO (fun v=>uO (fun v=>mX) (fun v=>mX)) (fun v=>mX)
  ·rcases i with _|_|_|_|i
   ·exact hv
   ·exact hv
   ·exact hv
   ·exact hv
   ·omega
  ·rcases i with _|_|_|_|i
   ·exact pU hv
   ·exact pU hv
   ·exact pU hv
   ·exact pU hv
   ·omega
  ·rw[adb]
 all_goals first
  | exact f36 _
  | exact f38 _
  | exact f39 _
  | exact f37 _ _ _
  | exact g19 (n:=4) (x:=yB) (m:=1) [0] (fun k v=>uO (fun v=>mX) (fun v=>mX)) (fun k i hi v hv=>(by rcases i with _|_|_|_|i<;>first|exact hv|omega)) (fun k i hi v hv=>(by rcases i with _|_|_|_|i<;>first|exact pU hv|omega)) (r19 hT).1
  | exact g19 (n:=4) (x:=yL) (m:=1) [1] (fun k v=>uO (fun v=>mX) (fun v=>mX)) (fun k i hi v hv=>(by rcases i with _|_|_|_|i<;>first|exact hv|omega)) (fun k i hi v hv=>(by rcases i with _|_|_|_|i<;>first|exact pU hv|omega)) (r19 hT).2
  | exact g40 0 (fun i hi=>(by obtain rfl:i=0:=(by omega);rfl)) (fun i hi=>(by obtain rfl:i=0:=(by omega);rfl))
  | exact g40 1 (fun i hi=>(by obtain rfl:i=0:=(by omega);rfl)) (fun i hi=>(by obtain rfl:i=0:=(by omega);rfl))
  | rfl
  | decide
  | trivial
def G8 (f:Ft):Bool:=decide (f.nm.size≤40)&&decide (f.wd.size≤40)
def Gv (F:List Ft):Bool:=F.all G8&&decide (F.length≤16)
noncomputable def adX (F:List Ft) (k:Nat):AS:=⟨regs Tryz.f28.ntmps [(0,.d (iJ F)),(3,vi k)],[]⟩
theorem f28 (F:List Ft) (hl:F.length≤9223372036854775807):aj Tryz.prog G 28 [iJ F] (db (Gv F)):=by
 unfold Gv
 refine aj.aK (ay:=jo) (keep:=[]) follows Tryz.func28 rfl Tryz.call28 ?_
 refine aA (fun ZT ZW ZQ _=>ZW [cd Tryz.f28 [1,0,1,0],(.blk 0),cd Tryz.f28 [1,1]] (aI ZT []) ZQ) (by kernel_rfl) ?_
 refine aC.loop (c:=dR (aQ Tryz.f28) [1,0,1,0,0]) (by kernel_rfl) (adX F) (fun k=>k≤F.length∧∀i,i<k→G8 (F.getD i aJ)=true) (fun k=>F.length-k) 0 ?_ ⟨Nat.zero_le _,fun i hi=>absurd hi (Nat.not_lt_zero _)⟩ ?_
 ·exact AS.dB (by kernel_rfl)
 ·rintro k ⟨hk,hkd⟩
  by_cases hk2:k<F.length
  ·refine aK (ay:=jo) (keep:=[]) (cuts:=[]) (n:=1000) follows ?_
   refine bW (fun ZT ZW ZQ _ ZA _=>(fun Za=>((((decide ((↑k:Int)<↑F.length))=true)→((((0≤(↑k:Int))∧((↑k:Int)<↑F.length))∧(((!decide ((↑(F.getD (↑k:Int).toNat aJ).nm.size:Int)>40))=true)→((0≤(↑k:Int))∧((↑k:Int)<↑F.length))))∧((Za=true)→(((db false):DV)=(db (F.all G8&&decide (F.length≤16)))))∧((Za=false)→((I64 (↑k+1))∧(ZA (aI ZT [0,1]))))))∧(((decide ((↑k:Int)<↑F.length))=false)→ZW [cd Tryz.f28 [1,1]] (aI ZT [1]) ZQ))) (decide ((↑(F.getD (↑k:Int).toNat aJ).nm.size:Int)>40)||decide ((↑(F.getD (↑k:Int).toNat aJ).wd.size:Int)>40))) (by kernel_rfl) ?_
   simp only[Int.toNat_natCast]
   refine⟨fun _=>⟨⟨⟨by omega,by omega⟩,fun _=>⟨by omega,by omega⟩⟩,fun h=>?_,fun h=>⟨⟨by omega,by omega⟩,Again.mk (k+1) ?_ ⟨hk2,fun i hi=>?_⟩ (by omega)⟩⟩,fun h=>absurd (of_decide_eq_false h) (by omega)⟩
   ·have:F.all G8=false:=by
     rw[List.all_eq_false]
     refine⟨F.getD k aJ,getD_mem (x0:=aJ) hk2,?_⟩
     unfold G8
     simp only[Bool.or_eq_true,decide_eq_true_eq] at h
     simp only[aT,decide_eq_true_eq]
     omega
    rw[this];rfl
   ·exact AS.dB (by kernel_rfl)
   ·rcases Nat.lt_or_ge i k with h4|h4
    ·exact hkd i h4
    ·obtain rfl:i=k:=by omega
     unfold G8
     simp only[Bool.or_eq_false_iff,decide_eq_false_iff_not] at h
     simp only[aT,decide_eq_true_eq]
     omega
  ·obtain rfl:k=F.length:=by omega
   refine aK (ay:=jo) (keep:=[]) (cuts:=[]) (n:=1000) follows ?_
   refine bW (fun ZT ZW ZQ _ ZA _=>(fun Za=>((((decide ((↑F.length:Int)<↑F.length))=true)→((((0≤(↑F.length:Int))∧((↑F.length:Int)<↑F.length))∧(((!decide ((↑(F.getD (↑F.length:Int).toNat aJ).nm.size:Int)>40))=true)→((0≤(↑F.length:Int))∧((↑F.length:Int)<↑F.length))))∧((Za=true)→(((db false):DV)=(db (F.all G8&&decide (F.length≤16)))))∧((Za=false)→((I64 (↑F.length+1))∧(ZA (aI ZT [0,1]))))))∧(((decide ((↑F.length:Int)<↑F.length))=false)→ZW [cd Tryz.f28 [1,1]] (aI ZT [1]) ZQ))) (decide ((↑(F.getD (↑F.length:Int).toNat aJ).nm.size:Int)>40)||decide ((↑(F.getD (↑F.length:Int).toNat aJ).wd.size:Int)>40))) (by kernel_rfl) ?_
   refine⟨fun h=>absurd (of_decide_eq_true h) (by omega),fun _=>?_⟩
   refine aK (ay:=jo) (keep:=[]) (cuts:=[]) (n:=1000) follows ?_
   refine aA (fun _ _ _ _=>(((db (decide ((↑F.length:Int)≤16))):DV)=(db (F.all G8&&decide (F.length≤16))))) (by kernel_rfl) ?_
   have:F.all G8=true:=by
    rw[List.all_eq_true]
    intro f hf
    obtain ⟨i,hi,rfl⟩:=List.getElem_of_mem hf
    have:=hkd i hi
    rwa [List.getD,bQ hi] at this
   rw[this,Bool.true_and]
   refine congrArg (fun b:Bool=>(db b:DV)) ?_
   rw[Bool.eq_iff_iff,decide_eq_true_eq,decide_eq_true_eq]
   omega
noncomputable def Z9 (x:Ex) (F:List Ft) (L:List Fc):aZ:=fun f a=>match f,a with
 | 41,[_,_]=>some (db (kY 30 x))
 | 27,[_]=>some (db (sH L))
 | 28,[_]=>some (db (Gv F))
 | _,_=>none
def qE (x:Ex) (F:List Ft) (L:List Fc):Bool:=kY 30 x&&sH L&&Gv F
theorem f11 (m:Nat) (x:Ex) (F:List Ft) (L:List Fc) (hx:ht x≤m) (hw:rP x) (hl:L.length≤9223372036854775807) (Sl:F.length≤9223372036854775807) (hw2:∀i,i<L.length→PX (L.getD i aG)) :
  aj Tryz.prog G 11 [bG m x,iJ F,fC L] (db (qE x F L)):=by
 refine aj.aK (ay:=Z9 x F L) (keep:=[]) follows Tryz.func11 rfl Tryz.call11 ?_
 refine aA (fun _ _ _ ZK=>((ZK 41 [(aB m x),(di 30)] (db (kY 30 x))∧(((kY 30 x)=true)→ZK 27 [(.slc 7 L.length (gV L))] (db (sH L)))∧(((kY 30 x&&sH L)=true)→ZK 28 [(.slc 6 F.length (kT F))] (db (Gv F))))∧((db (kY 30 x&&sH L&&Gv F)):DV)=(db (qE x F L)))) (by kernel_rfl) ?_
 refine⟨⟨f41 30 m x hx hw,fun _=>f27 L hl hw2,fun _=>f28 F Sl⟩,rfl⟩
theorem Tz {L:List Fc} (h:sH L=true):(∀i,i<L.length→sS (L.getD i aG))∧L.length≤16:=by
 unfold sH at h
 simp only[aT,decide_eq_true_eq] at h
 refine⟨fun i hi=>?_,h.2⟩
 have:=List.all_eq_true.1 h.1 _ (getD_mem (x0:=aG) hi)
 unfold Qc at this
 simp only[aT,decide_eq_true_eq] at this
 refine⟨by omega,by omega,fun j hj=>?_⟩
 have:=List.all_eq_true.1 this.2 _ (getD_mem (x0:=.empty) hj)
 have:=of_decide_eq_true this
 omega
structure acs (x:Ex) (F:List Ft) (L:List Fc):Prop where
 sm:Sm x
 fc:∀i,i<L.length→sS (L.getD i aG)
 ll:L.length≤16
 lf:F.length≤16
theorem P6 {x:Ex} {F:List Ft} {L:List Fc} (hw:rP x) (h:qE x F L=true):acs x F L:=by
 unfold qE at h
 simp only[aT] at h
 obtain ⟨h1,h2⟩:=Tz h.1.2
 have h3:=h.2
 unfold Gv at h3
 simp only[aT,decide_eq_true_eq] at h3
 exact⟨ZG (by omega) hw h.1.1,h1,h2,h3.2⟩
noncomputable def ab1 (x:Ex) (F:List Ft) (L:List Fc):aZ:=fun f a=>match f,a with
 | 10,[]=>some (db true)
 | 11,[_,_,_]=>some (db (qE x F L))
 | 12,[_,_,_]=>some (.au [eX (dU F L x).1,di (dU F L x).2])
 | 13,[_,_,_]=>some (.au [eX (dU F L x).1,di (dU F L x).2])
 | 14,[_,_]=>some (db (gJ F L))
 | 15,[_,_]=>some (db (gJ F L))
 | _,_=>none
theorem f3 (hT:Tab G) (m:Nat) (x:Ex) (F:List Ft) (L:List Fc) (hx:ht x≤m) (hw:rP x) (hl:L.length≤9223372036854775807) (Sl:F.length≤9223372036854775807) (hw2:∀i,i<L.length→PX (L.getD i aG)) :
  aj Tryz.prog G 3 [bG m x,iJ F,fC L] (db true):=by
 refine aj.aK (ay:=ab1 x F L) (keep:=[]) follows Tryz.func3 rfl Tryz.call3 ?_
 refine aA (fun _ _ _ ZK=>(fun Za=>(ZK 10 [] (db true)∧((false=true)→(((db false):DV)=(db true)))∧((false=false)→(ZK 11 [(aB m x),(.slc 6 F.length (kT F)),(.slc 7 L.length (gV L))] (db (qE x F L))∧(((!qE x F L)=true)→(ZS ((db true):DV)))∧(((!qE x F L)=false)→(ZK 12 [(aB m x),(.slc 6 F.length (kT F)),(.slc 7 L.length (gV L))] Za∧ZK 13 [(aB m x),(.slc 6 F.length (kT F)),(.slc 7 L.length (gV L))] Za∧(ZK 14 [(.slc 6 F.length (kT F)),(.slc 7 L.length (gV L))] (db (gJ F L))∧ZK 15 [(.slc 6 F.length (kT F)),(.slc 7 L.length (gV L))] (db (gJ F L)))∧((db (gJ F L==gJ F L&&Bool.rec false ((dU F L x).fst.kind==(dU F L x).fst.kind&&((dU F L x).fst.n==(dU F L x).fst.n&&(dU F L x).fst.d==(dU F L x).fst.d&&((dU F L x).fst.tr==(dU F L x).fst.tr&&(dU F L x).fst.wd.toList==(dU F L x).fst.wd.toList))) ((dU F L x).fst.nm.toList==(dU F L x).fst.nm.toList)&&(dU F L x).snd==(dU F L x).snd)):DV)=(db true))))))) ((.au [(.agg [(ds (dU F L x).fst.nm),(di (dU F L x).fst.kind),(di (dU F L x).fst.n),(di (dU F L x).fst.d),(db (dU F L x).fst.tr),(ds (dU F L x).fst.wd)]),(di (dU F L x).snd)]):DV)) (by kernel_rfl) ?_
 refine⟨f10 hT,fun h=>Bool.noConfusion h,fun _=>⟨f11 m x F L hx hw hl Sl hw2,fun _=>rfl,fun h=>?_⟩⟩
 have h:=P6 hw (by simpa using h)
 refine⟨f12 hT F L h.fc (by have:=h.ll;omega) (by have:=h.lf;omega) m x hx h.sm,f13 hT F L h.fc (by have:=h.ll;omega) (by have:=h.lf;omega) m x hx h.sm,⟨f14 hT F L h.fc (by have:=h.ll;omega) (by have:=h.lf;omega),f15 hT F L h.fc (by have:=h.ll;omega) (by have:=h.lf;omega)⟩,?_⟩
 simp only[beq_self_eq_true,Bool.and_self,Bool.true_and]
end Go.Proofs
namespace Go.Proofs.YtellpkieoccljaaGreatDoor
open Go Go.Ab Go.ChangeShapes Go.WideShapes Go.ChangeAt Go.RowKit
set_option maxRecDepth 100000
theorem own:ownKnob Tryz.prog.godebug=none:=by kernel_rfl
theorem laidOut:laidOutB Tryz.prog=true:=by kernel_rfl
theorem ZL : Tryz.prog.globalNamed "internal/strconv.uint64pow10" = some 1 := by kernel_rfl
theorem adI:(Tryz.prog.globals[1]?).map (·.type)=some 224:=by kernel_rfl
theorem DC {P:Program} {W:World}:∀{l:List (String×DataW Unit)} {ps:List MemPlace},DataW.LaidVars P W l ps→
  ∀{i:Nat} {n:String} {d:DataW Unit},l[i]?=some (n,d)→∃g t cs fuel p,P.globalNamed n=some g∧(P.globals[g]?).map (·.type)=some t∧W.var? P n=some cs∧DataW.trod (fun _=>()) P W 0 (fun _=>true) false fuel t cs.toList=some (d,p)
 | [],ps,h,i,n,d,h1=>by simp at h1
 | (m,e) :: l,ps,⟨g,t,cs,fuel,p,q,a1,a2,a3,a4,a5,a6⟩,i,n,d,h1=>by
  cases i with
  | zero=>
   simp at h1;obtain ⟨rfl,rfl⟩:=h1
   exact⟨g,t,cs,fuel,p,a1,a2,a3,a4⟩
  | succ i=>exact DC a5 (i:=i) (by simpa using h1)
theorem O9 {laid : List (String × DataW Unit)} {W : World} (h : laidMetH Tryz.prog laid W) (hm : laidMetH Tryz.prog laid W = laidMet Tryz.prog laid W) {i : Nat} (hi : laid[i]? = some ("internal/strconv.uint64pow10", Rows.laid_internal_strconv_uint64pow10)) : Tab (allOf W) := by
 rw[hm] at h
 obtain ⟨ps,h,_⟩:=h
 obtain ⟨g2,t2,cs2,f2,p2,hg2,ht2,hv2,hd2⟩:=DC h hi
 obtain rfl:=Option.some.inj (ZL.symm.trans hg2)
 obtain rfl:=Option.some.inj (adI.symm.trans ht2)
 have hT : Lib.TabIs Tryz.prog W "internal/strconv.uint64pow10" .u64 Lib.pow10Tab := by
  unfold Lib.TabIs
  rw[hv2,←Lib.cells_of_tab Tryz.underlying224 (by kernel_rfl) (by kernel_rfl) (by kernel_rfl) (k:=.u64) (zs:=Lib.pow10Tab) hd2]
 intro w hw
 unfold Lib.TabIs at hT⊢
 rw[←hT]
 unfold World.var? at hT⊢
 rw[ZL] at hT⊢
 simp only[Option.bind_some] at hT⊢
 cases ho:W.heap[1]? with
 | none=>rw[ho] at hT;cases hT
 | some o=>rw[hw.2 1 o ho]
end Go.Proofs.YtellpkieoccljaaGreatDoor
namespace Go.Proofs
open Go Go.Ab Go.RowKit
/-! MX that are read. -/
theorem VN {n:Nat} {f:Nat→DV} (hn:n≤maxLen) (hf:∀i,i<n→∃d es,[f i]=d :: es∧(∃s:ByteArray,s.size≤maxLen∧d=.con (.string s))∧es=[]) :
  ∃l:List ByteArray,l.length=n∧(∀i,i<l.length→(l.getD i .empty).size≤maxLen)∧∀k v,DV.rel k (.slc 1 n f) v→DV.rel k (lC l) v:=by
 obtain ⟨l,hl,hL⟩:=GH (p:=fun i (x:{s:ByteArray // s.size≤maxLen})=>f i=ds x.1) ⟨.empty,by simp⟩ (fun i hi=>by
  obtain ⟨d,es,he,⟨s,hs,rfl⟩,rfl⟩:=hf i hi
  simp only[List.cons.injEq,and_true] at he
  exact⟨⟨s,hs⟩,he⟩)
 subst hl
 have hg:∀i,i<l.length→(l.map (·.1)).getD i .empty=(l.getD i ⟨.empty,by simp⟩).1:=fun i hi=>by
  rw[List.getD,List.getD,List.getElem?_map,bQ hi];rfl
 refine⟨l.map (·.1),List.length_map ..,fun i hi=>?_,fun k v h=>?_⟩
 ·rw[List.length_map] at hi
  rw[hg i hi];exact(l.getD i _).2
 ·unfold lC
  rw[List.length_map]
  refine DV.dJ (fun i hi=>?_) h
  rw[hL i hi]
  unfold dX
  rw[hg i hi]
end Go.Proofs
