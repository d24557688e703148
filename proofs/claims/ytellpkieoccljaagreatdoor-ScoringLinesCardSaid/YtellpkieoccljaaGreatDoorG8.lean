import Derived.Test.YtellpkieoccljaaGreatDoorAcD
import Derived.Test.YtellpkieoccljaaGreatDoorG7
import Derived.Test.YtellpkieoccljaaGreatDoorG2
import Derived.Test.YtellpkieoccljaaGreatDoorG6
import Derived.Test.YtellpkieoccljaaGreatDoorG3
import Derived.Test.YtellpkieoccljaaGreatDoorG0
import Derived.Test.YtellpkieoccljaaGreatDoorRows
import Derived.Lib.LaidTab
import Derived.ProofKit
import Derived.LaidMore
import Derived.OpenShut
import Derived.Stop.Joined
set_option autoImplicit false
namespace Go.Proofs
open Go Go.Ab Go.RowKit
set_option maxHeartbeats 4000000
set_option maxRecDepth 100000
variable {G:IH}
theorem v50_1 (L:List Ft) (m:Nat) (x:Ex) (V:Nat→Ft) (n:Nat):AWP Tryz.prog G [cd Tryz.f50 [1,1,1,0,1,0,1,0],.blk 2,cd Tryz.f50 [1,1,1,1]] (S50t L m x n V) (Ret Tryz.prog Tryz.f50 (.tup [ftD { ftK 0 with n:=x.n,d:=x.d },di 0])):=by
 refine walkK (orc:=orcVk) (keep:=[]) (cuts:=[]) (n:=1000) follows ?_
 refine of_tr (fun _ _ _ ZK=>(ZK 86 [(.agg [(di x.n),(di x.d)]),(di 0)] (.tup [(.agg [(ds ByteArray.empty),(di 0),(di x.n),(di x.d),(db false),(ds ByteArray.empty)]),(di 0)])∧(ZS ((.tup [(ftD (let __src:=ftK 0;Ft.mk __src.nm __src.kind x.n x.d __src.tr __src.wd)),(di 0)]):DV)))) (by kernel_rfl) ?_
 exact⟨f86 _ _ _,rfl⟩
theorem v50_18 (L:List Ft) (m:Nat) (x:Ex) (V:Nat→Ft) (n:Nat) (hn:0<n):AWP Tryz.prog G [cd Tryz.f50 [1,1,1,0,1,0,1,1,1,1,1,1,1,1,1,1,1,1,1,1,1,1,1,1,1,0],.blk 2,cd Tryz.f50 [1,1,1,1]] (S50t L m x n V) (Ret Tryz.prog Tryz.f50 (.tup [ftD { ftK 1 with tr:=!(V 0).tr },di 0])):=by
 refine walkK (orc:=orcVk) (keep:=[]) (cuts:=[]) (n:=1000) follows ?_
 refine of_tr (fun _ _ _ ZK=>(fun Za=>(((((0:Int)≤(0:Int))∧(0<(↑n:Int)))∧ZK 87 [(db (!(V (0+Int.toNat 0)).tr))] Za)∧(Za:DV)=(.tup [(ftD (let __src:=ftK 1;Ft.mk __src.nm __src.kind __src.n __src.d (!(V 0).tr) __src.wd)),(di 0)]))) ((.tup [(.agg [(ds ByteArray.empty),(di 1),(di 0),(di 0),(db (!(V (0+Int.toNat 0)).tr)),(ds ByteArray.empty)]),(di 0)]):DV)) (by kernel_rfl) ?_
 refine⟨⟨⟨by omega,by omega⟩,f87 _⟩,rfl⟩
theorem v50_34 (L:List Ft) (m:Nat) (x:Ex) (V:Nat→Ft) (n:Nat) :AWP Tryz.prog G [cd Tryz.f50 [1,1,1,0,1,0,1,1,1,0],.blk 2,cd Tryz.f50 [1,1,1,1]] (S50t L m x n V) (Ret Tryz.prog Tryz.f50 (.tup [ftD { ftK 1 with tr:=x.k==3 },di 0])):=by
 refine walkK (orc:=orcVk) (keep:=[]) (cuts:=[]) (n:=1000) follows ?_
 refine of_tr (fun _ _ _ ZK=>(ZK 87 [(db (x.k==3))] (.tup [(.agg [(ds ByteArray.empty),(di 1),(di 0),(di 0),(db (x.k==3)),(ds ByteArray.empty)]),(di 0)])∧(ZS ((.tup [(ftD (let __src:=ftK 1;Ft.mk __src.nm __src.kind __src.n __src.d (x.k==3) __src.wd)),(di 0)]):DV)))) (by kernel_rfl) ?_
 exact⟨f87 _,rfl⟩
theorem v50_5 (L:List Ft) (m:Nat) (x:Ex) (V:Nat→Ft) (n:Nat) (hn:0<n):AWP Tryz.prog G [cd Tryz.f50 [1,1,1,0,1,0,1,1,1,1,1,1,1,0],.blk 2,cd Tryz.f50 [1,1,1,1]] (S50t L m x n V) (Ret Tryz.prog Tryz.f50 (.tup [ftD { ftK 0 with n:=(if ok (V 0).n (V 0).d then -(V 0).n else (V 0).n),d:=(V 0).d },di 0])):=by
 refine walkK (orc:=orcVk) (keep:=[]) (cuts:=[]) (n:=1000) follows ?_
 refine of_tr (fun _ _ _ ZK=>(((((0:Int)≤(0:Int))∧(0<(↑n:Int)))∧ZK 88 [(.agg [(di (V (0+Int.toNat 0)).n),(di (V (0+Int.toNat 0)).d)])] (.agg [(di (if ok (V (0+Int.toNat 0)).n (V (0+Int.toNat 0)).d=true then -(V (0+Int.toNat 0)).n else (V (0+Int.toNat 0)).n)),(di (V (0+Int.toNat 0)).d)])∧ZK 86 [(.agg [(di (if ok (V (0+Int.toNat 0)).n (V (0+Int.toNat 0)).d=true then -(V (0+Int.toNat 0)).n else (V (0+Int.toNat 0)).n)),(di (V (0+Int.toNat 0)).d)]),(di 0)] (.tup [(.agg [(ds ByteArray.empty),(di 0),(di (if ok (V (0+Int.toNat 0)).n (V (0+Int.toNat 0)).d=true then -(V (0+Int.toNat 0)).n else (V (0+Int.toNat 0)).n)),(di (V (0+Int.toNat 0)).d),(db false),(ds ByteArray.empty)]),(di 0)]))∧((.tup [(.agg [(ds ByteArray.empty),(di 0),(di (if ok (V (0+Int.toNat 0)).n (V (0+Int.toNat 0)).d=true then -(V (0+Int.toNat 0)).n else (V (0+Int.toNat 0)).n)),(di (V (0+Int.toNat 0)).d),(db false),(ds ByteArray.empty)]),(di 0)]):DV)=(.tup [(ftD (let __src:=ftK 0;Ft.mk __src.nm __src.kind (if ok (V 0).n (V 0).d=true then -(V 0).n else (V 0).n) (V 0).d __src.tr __src.wd)),(di 0)]))) (by kernel_rfl) ?_
 exact⟨⟨⟨by omega,by omega⟩,f88 _ _,f86 _ _ _⟩,rfl⟩
theorem v50_1920 (L:List Ft) (m:Nat) (x:Ex) (V:Nat→Ft) (n:Nat) (hn:1<n):AWP Tryz.prog G [cd Tryz.f50 [1,1,1,0,1,0,1,1,1,1,1,1,1,1,1,1,1,1,1,1,1,1,1,1,1,1,1,0],.blk 2,cd Tryz.f50 [1,1,1,1]] (S50t L m x n V) (Ret Tryz.prog Tryz.f50 (.tup [ftD (V 1),di 0])):=by
 refine walkK (orc:=orcVk) (keep:=[]) (cuts:=[]) (n:=1000) follows ?_
 refine of_tr (fun _ _ _ _=>((((0:Int)≤(1:Int))∧(1<(↑n:Int)))∧((.tup [(.agg [(ds (V (0+Int.toNat 1)).nm),(di (V (0+Int.toNat 1)).kind),(di (V (0+Int.toNat 1)).n),(di (V (0+Int.toNat 1)).d),(db (V (0+Int.toNat 1)).tr),(ds (V (0+Int.toNat 1)).wd)]),(di 0)]):DV)=(.tup [(ftD (V 1)),(di 0)]))) (by kernel_rfl) ?_
 exact⟨⟨by omega,by omega⟩,rfl⟩
theorem v50_6 (L:List Ft) (m:Nat) (x:Ex) (V:Nat→Ft) (n:Nat) (hn:1<n):AWP Tryz.prog G [cd Tryz.f50 [1,1,1,0,1,0,1,1,1,1,1,1,1,1,1,0],.blk 2,cd Tryz.f50 [1,1,1,1]] (S50t L m x n V) (Ret Tryz.prog Tryz.f50 (.tup [ftD (if (addF (V 0).n (V 0).d (V 1).n (V 1).d).2.2=0 then { ftK 0 with n:=(addF (V 0).n (V 0).d (V 1).n (V 1).d).1,d:=(addF (V 0).n (V 0).d (V 1).n (V 1).d).2.1 } else ft0),di (if (addF (V 0).n (V 0).d (V 1).n (V 1).d).2.2=0 then 0 else 2)])):=by
 refine walkK (orc:=orcVk) (keep:=[]) (cuts:=[]) (n:=1000) follows ?_
 refine of_tr (fun _ _ _ ZK=>(fun Za Zb=>(((((0:Int)≤(0:Int))∧(0<(↑n:Int)))∧(((0:Int)≤(1:Int))∧(1<(↑n:Int)))∧ZK 89 [(.agg [(di (V (0+Int.toNat 0)).n),(di (V (0+Int.toNat 0)).d)]),(.agg [(di (V (0+Int.toNat 1)).n),(di (V (0+Int.toNat 1)).d)])] (.tup [(.agg [(di Za.fst),(di Za.snd.fst)]),(di Za.snd.snd)])∧ZK 86 [(.agg [(di Za.fst),(di Za.snd.fst)]),(di Za.snd.snd)] (.tup [(.agg [(ds (if Za.snd.snd=0 then Ft.mk ByteArray.empty 0 Za.fst Za.snd.fst false ByteArray.empty else ft0).nm),(di (if Za.snd.snd=0 then Ft.mk ByteArray.empty 0 Za.fst Za.snd.fst false ByteArray.empty else ft0).kind),(di (if Za.snd.snd=0 then Ft.mk ByteArray.empty 0 Za.fst Za.snd.fst false ByteArray.empty else ft0).n),(di (if Za.snd.snd=0 then Ft.mk ByteArray.empty 0 Za.fst Za.snd.fst false ByteArray.empty else ft0).d),(db (if Za.snd.snd=0 then Ft.mk ByteArray.empty 0 Za.fst Za.snd.fst false ByteArray.empty else ft0).tr),(ds (if Za.snd.snd=0 then Ft.mk ByteArray.empty 0 Za.fst Za.snd.fst false ByteArray.empty else ft0).wd)]),(di (if Za.snd.snd=0 then 0 else 2))]))∧((.tup [(.agg [(ds (if Za.snd.snd=0 then Ft.mk ByteArray.empty 0 Za.fst Za.snd.fst false ByteArray.empty else ft0).nm),(di (if Za.snd.snd=0 then Ft.mk ByteArray.empty 0 Za.fst Za.snd.fst false ByteArray.empty else ft0).kind),(di (if Za.snd.snd=0 then Ft.mk ByteArray.empty 0 Za.fst Za.snd.fst false ByteArray.empty else ft0).n),(di (if Za.snd.snd=0 then Ft.mk ByteArray.empty 0 Za.fst Za.snd.fst false ByteArray.empty else ft0).d),(db (if Za.snd.snd=0 then Ft.mk ByteArray.empty 0 Za.fst Za.snd.fst false ByteArray.empty else ft0).tr),(ds (if Za.snd.snd=0 then Ft.mk ByteArray.empty 0 Za.fst Za.snd.fst false ByteArray.empty else ft0).wd)]),(di (if Za.snd.snd=0 then 0 else 2))]):DV)=(.tup [(ftD (if Zb.snd.snd=0 then let __src:=ftK 0;Ft.mk __src.nm __src.kind Zb.fst Zb.snd.fst __src.tr __src.wd else ft0)),(di (if Zb.snd.snd=0 then 0 else 2))]))) (addF (V (0+Int.toNat 0)).n (V (0+Int.toNat 0)).d (V (0+Int.toNat 1)).n (V (0+Int.toNat 1)).d) (addF (V 0).n (V 0).d (V 1).n (V 1).d)) (by kernel_rfl) ?_
 exact⟨⟨⟨by omega,by omega⟩,⟨by omega,by omega⟩,f89 _ _ _ _,f86 _ _ _⟩,rfl⟩
theorem v50_7 (L:List Ft) (m:Nat) (x:Ex) (V:Nat→Ft) (n:Nat) (hn:1<n):AWP Tryz.prog G [cd Tryz.f50 [1,1,1,0,1,0,1,1,1,1,1,1,1,1,1,1,1,0],.blk 2,cd Tryz.f50 [1,1,1,1]] (S50t L m x n V) (Ret Tryz.prog Tryz.f50 (.tup [ftD (if (subF (V 0).n (V 0).d (V 1).n (V 1).d).2.2=0 then { ftK 0 with n:=(subF (V 0).n (V 0).d (V 1).n (V 1).d).1,d:=(subF (V 0).n (V 0).d (V 1).n (V 1).d).2.1 } else ft0),di (if (subF (V 0).n (V 0).d (V 1).n (V 1).d).2.2=0 then 0 else 2)])):=by
 refine walkK (orc:=orcVk) (keep:=[]) (cuts:=[]) (n:=1000) follows ?_
 refine of_tr (fun _ _ _ ZK=>(fun Za Zb=>(((((0:Int)≤(0:Int))∧(0<(↑n:Int)))∧(((0:Int)≤(1:Int))∧(1<(↑n:Int)))∧ZK 90 [(.agg [(di (V (0+Int.toNat 0)).n),(di (V (0+Int.toNat 0)).d)]),(.agg [(di (V (0+Int.toNat 1)).n),(di (V (0+Int.toNat 1)).d)])] (.tup [(.agg [(di Za.fst),(di Za.snd.fst)]),(di Za.snd.snd)])∧ZK 86 [(.agg [(di Za.fst),(di Za.snd.fst)]),(di Za.snd.snd)] (.tup [(.agg [(ds (if Za.snd.snd=0 then Ft.mk ByteArray.empty 0 Za.fst Za.snd.fst false ByteArray.empty else ft0).nm),(di (if Za.snd.snd=0 then Ft.mk ByteArray.empty 0 Za.fst Za.snd.fst false ByteArray.empty else ft0).kind),(di (if Za.snd.snd=0 then Ft.mk ByteArray.empty 0 Za.fst Za.snd.fst false ByteArray.empty else ft0).n),(di (if Za.snd.snd=0 then Ft.mk ByteArray.empty 0 Za.fst Za.snd.fst false ByteArray.empty else ft0).d),(db (if Za.snd.snd=0 then Ft.mk ByteArray.empty 0 Za.fst Za.snd.fst false ByteArray.empty else ft0).tr),(ds (if Za.snd.snd=0 then Ft.mk ByteArray.empty 0 Za.fst Za.snd.fst false ByteArray.empty else ft0).wd)]),(di (if Za.snd.snd=0 then 0 else 2))]))∧((.tup [(.agg [(ds (if Za.snd.snd=0 then Ft.mk ByteArray.empty 0 Za.fst Za.snd.fst false ByteArray.empty else ft0).nm),(di (if Za.snd.snd=0 then Ft.mk ByteArray.empty 0 Za.fst Za.snd.fst false ByteArray.empty else ft0).kind),(di (if Za.snd.snd=0 then Ft.mk ByteArray.empty 0 Za.fst Za.snd.fst false ByteArray.empty else ft0).n),(di (if Za.snd.snd=0 then Ft.mk ByteArray.empty 0 Za.fst Za.snd.fst false ByteArray.empty else ft0).d),(db (if Za.snd.snd=0 then Ft.mk ByteArray.empty 0 Za.fst Za.snd.fst false ByteArray.empty else ft0).tr),(ds (if Za.snd.snd=0 then Ft.mk ByteArray.empty 0 Za.fst Za.snd.fst false ByteArray.empty else ft0).wd)]),(di (if Za.snd.snd=0 then 0 else 2))]):DV)=(.tup [(ftD (if Zb.snd.snd=0 then let __src:=ftK 0;Ft.mk __src.nm __src.kind Zb.fst Zb.snd.fst __src.tr __src.wd else ft0)),(di (if Zb.snd.snd=0 then 0 else 2))]))) (subF (V (0+Int.toNat 0)).n (V (0+Int.toNat 0)).d (V (0+Int.toNat 1)).n (V (0+Int.toNat 1)).d) (subF (V 0).n (V 0).d (V 1).n (V 1).d)) (by kernel_rfl) ?_
 exact⟨⟨⟨by omega,by omega⟩,⟨by omega,by omega⟩,f90 _ _ _ _,f86 _ _ _⟩,rfl⟩
theorem v50_8 (L:List Ft) (m:Nat) (x:Ex) (V:Nat→Ft) (n:Nat) (hn:1<n):AWP Tryz.prog G [cd Tryz.f50 [1,1,1,0,1,0,1,1,1,1,1,1,1,1,1,1,1,1,1,0],.blk 2,cd Tryz.f50 [1,1,1,1]] (S50t L m x n V) (Ret Tryz.prog Tryz.f50 (.tup [ftD (if (mulF (V 0).n (V 0).d (V 1).n (V 1).d).2.2=0 then { ftK 0 with n:=(mulF (V 0).n (V 0).d (V 1).n (V 1).d).1,d:=(mulF (V 0).n (V 0).d (V 1).n (V 1).d).2.1 } else ft0),di (if (mulF (V 0).n (V 0).d (V 1).n (V 1).d).2.2=0 then 0 else 2)])):=by
 refine walkK (orc:=orcVk) (keep:=[]) (cuts:=[]) (n:=1000) follows ?_
 refine of_tr (fun _ _ _ ZK=>(fun Za Zb=>(((((0:Int)≤(0:Int))∧(0<(↑n:Int)))∧(((0:Int)≤(1:Int))∧(1<(↑n:Int)))∧ZK 91 [(.agg [(di (V (0+Int.toNat 0)).n),(di (V (0+Int.toNat 0)).d)]),(.agg [(di (V (0+Int.toNat 1)).n),(di (V (0+Int.toNat 1)).d)])] (.tup [(.agg [(di Za.fst),(di Za.snd.fst)]),(di Za.snd.snd)])∧ZK 86 [(.agg [(di Za.fst),(di Za.snd.fst)]),(di Za.snd.snd)] (.tup [(.agg [(ds (if Za.snd.snd=0 then Ft.mk ByteArray.empty 0 Za.fst Za.snd.fst false ByteArray.empty else ft0).nm),(di (if Za.snd.snd=0 then Ft.mk ByteArray.empty 0 Za.fst Za.snd.fst false ByteArray.empty else ft0).kind),(di (if Za.snd.snd=0 then Ft.mk ByteArray.empty 0 Za.fst Za.snd.fst false ByteArray.empty else ft0).n),(di (if Za.snd.snd=0 then Ft.mk ByteArray.empty 0 Za.fst Za.snd.fst false ByteArray.empty else ft0).d),(db (if Za.snd.snd=0 then Ft.mk ByteArray.empty 0 Za.fst Za.snd.fst false ByteArray.empty else ft0).tr),(ds (if Za.snd.snd=0 then Ft.mk ByteArray.empty 0 Za.fst Za.snd.fst false ByteArray.empty else ft0).wd)]),(di (if Za.snd.snd=0 then 0 else 2))]))∧((.tup [(.agg [(ds (if Za.snd.snd=0 then Ft.mk ByteArray.empty 0 Za.fst Za.snd.fst false ByteArray.empty else ft0).nm),(di (if Za.snd.snd=0 then Ft.mk ByteArray.empty 0 Za.fst Za.snd.fst false ByteArray.empty else ft0).kind),(di (if Za.snd.snd=0 then Ft.mk ByteArray.empty 0 Za.fst Za.snd.fst false ByteArray.empty else ft0).n),(di (if Za.snd.snd=0 then Ft.mk ByteArray.empty 0 Za.fst Za.snd.fst false ByteArray.empty else ft0).d),(db (if Za.snd.snd=0 then Ft.mk ByteArray.empty 0 Za.fst Za.snd.fst false ByteArray.empty else ft0).tr),(ds (if Za.snd.snd=0 then Ft.mk ByteArray.empty 0 Za.fst Za.snd.fst false ByteArray.empty else ft0).wd)]),(di (if Za.snd.snd=0 then 0 else 2))]):DV)=(.tup [(ftD (if Zb.snd.snd=0 then let __src:=ftK 0;Ft.mk __src.nm __src.kind Zb.fst Zb.snd.fst __src.tr __src.wd else ft0)),(di (if Zb.snd.snd=0 then 0 else 2))]))) (mulF (V (0+Int.toNat 0)).n (V (0+Int.toNat 0)).d (V (0+Int.toNat 1)).n (V (0+Int.toNat 1)).d) (mulF (V 0).n (V 0).d (V 1).n (V 1).d)) (by kernel_rfl) ?_
 exact⟨⟨⟨by omega,by omega⟩,⟨by omega,by omega⟩,f91 _ _ _ _,f86 _ _ _⟩,rfl⟩
theorem v50_9 (L:List Ft) (m:Nat) (x:Ex) (V:Nat→Ft) (n:Nat) (hn:1<n):AWP Tryz.prog G [cd Tryz.f50 [1,1,1,0,1,0,1,1,1,1,1,1,1,1,1,1,1,1,1,1,1,0],.blk 2,cd Tryz.f50 [1,1,1,1]] (S50t L m x n V) (Ret Tryz.prog Tryz.f50 (.tup [ftD (if (divF (V 0).n (V 0).d (V 1).n (V 1).d).2.2=0 then { ftK 0 with n:=(divF (V 0).n (V 0).d (V 1).n (V 1).d).1,d:=(divF (V 0).n (V 0).d (V 1).n (V 1).d).2.1 } else ft0),di (if (divF (V 0).n (V 0).d (V 1).n (V 1).d).2.2=0 then 0 else 2)])):=by
 refine walkK (orc:=orcVk) (keep:=[]) (cuts:=[]) (n:=1000) follows ?_
 refine of_tr (fun _ _ _ ZK=>(fun Za Zb=>(((((0:Int)≤(0:Int))∧(0<(↑n:Int)))∧(((0:Int)≤(1:Int))∧(1<(↑n:Int)))∧ZK 92 [(.agg [(di (V (0+Int.toNat 0)).n),(di (V (0+Int.toNat 0)).d)]),(.agg [(di (V (0+Int.toNat 1)).n),(di (V (0+Int.toNat 1)).d)])] (.tup [(.agg [(di Za.fst),(di Za.snd.fst)]),(di Za.snd.snd)])∧ZK 86 [(.agg [(di Za.fst),(di Za.snd.fst)]),(di Za.snd.snd)] (.tup [(.agg [(ds (if Za.snd.snd=0 then Ft.mk ByteArray.empty 0 Za.fst Za.snd.fst false ByteArray.empty else ft0).nm),(di (if Za.snd.snd=0 then Ft.mk ByteArray.empty 0 Za.fst Za.snd.fst false ByteArray.empty else ft0).kind),(di (if Za.snd.snd=0 then Ft.mk ByteArray.empty 0 Za.fst Za.snd.fst false ByteArray.empty else ft0).n),(di (if Za.snd.snd=0 then Ft.mk ByteArray.empty 0 Za.fst Za.snd.fst false ByteArray.empty else ft0).d),(db (if Za.snd.snd=0 then Ft.mk ByteArray.empty 0 Za.fst Za.snd.fst false ByteArray.empty else ft0).tr),(ds (if Za.snd.snd=0 then Ft.mk ByteArray.empty 0 Za.fst Za.snd.fst false ByteArray.empty else ft0).wd)]),(di (if Za.snd.snd=0 then 0 else 2))]))∧((.tup [(.agg [(ds (if Za.snd.snd=0 then Ft.mk ByteArray.empty 0 Za.fst Za.snd.fst false ByteArray.empty else ft0).nm),(di (if Za.snd.snd=0 then Ft.mk ByteArray.empty 0 Za.fst Za.snd.fst false ByteArray.empty else ft0).kind),(di (if Za.snd.snd=0 then Ft.mk ByteArray.empty 0 Za.fst Za.snd.fst false ByteArray.empty else ft0).n),(di (if Za.snd.snd=0 then Ft.mk ByteArray.empty 0 Za.fst Za.snd.fst false ByteArray.empty else ft0).d),(db (if Za.snd.snd=0 then Ft.mk ByteArray.empty 0 Za.fst Za.snd.fst false ByteArray.empty else ft0).tr),(ds (if Za.snd.snd=0 then Ft.mk ByteArray.empty 0 Za.fst Za.snd.fst false ByteArray.empty else ft0).wd)]),(di (if Za.snd.snd=0 then 0 else 2))]):DV)=(.tup [(ftD (if Zb.snd.snd=0 then let __src:=ftK 0;Ft.mk __src.nm __src.kind Zb.fst Zb.snd.fst __src.tr __src.wd else ft0)),(di (if Zb.snd.snd=0 then 0 else 2))]))) (divF (V (0+Int.toNat 0)).n (V (0+Int.toNat 0)).d (V (0+Int.toNat 1)).n (V (0+Int.toNat 1)).d) (divF (V 0).n (V 0).d (V 1).n (V 1).d)) (by kernel_rfl) ?_
 exact⟨⟨⟨by omega,by omega⟩,⟨by omega,by omega⟩,f92 _ _ _ _,f86 _ _ _⟩,rfl⟩
def cpB (k c:Int):Bool:=k==14&&decide (c<0)||k==15&&decide (c≤0)||k==16&&decide (c>0)||k==17&&decide (c≥0)
theorem v50_cmp (L:List Ft) (m:Nat) (x:Ex) (V:Nat→Ft) (n:Nat) (hn:1<n):AWP Tryz.prog G [cd Tryz.f50 [1,1,1,1]] (S50t L m x n V) (Ret Tryz.prog Tryz.f50 (.tup [ftD { ftK 1 with tr:=cpB x.k (cmpF (V 0).n (V 0).d (V 1).n (V 1).d) },di 0])):=by
 refine walkK (orc:=orcVk) (keep:=[]) (cuts:=[]) (n:=1000) follows ?_
 refine of_tr (fun _ _ _ ZK=>(fun Za=>(((((0:Int)≤(0:Int))∧(0<(↑n:Int)))∧(((0:Int)≤(1:Int))∧(1<(↑n:Int)))∧ZK 25 [(.agg [(di (V (0+Int.toNat 0)).n),(di (V (0+Int.toNat 0)).d)]),(.agg [(di (V (0+Int.toNat 1)).n),(di (V (0+Int.toNat 1)).d)])] (.tup [(di (cmpF (V (0+Int.toNat 0)).n (V (0+Int.toNat 0)).d (V (0+Int.toNat 1)).n (V (0+Int.toNat 1)).d)),(db (ok2 (V (0+Int.toNat 0)).n (V (0+Int.toNat 0)).d (V (0+Int.toNat 1)).n (V (0+Int.toNat 1)).d))]))∧ZK 87 [Za] (.tup [(.agg [(ds ByteArray.empty),(di 1),(di 0),(di 0),Za,(ds ByteArray.empty)]),(di 0)])∧((.tup [(.agg [(ds ByteArray.empty),(di 1),(di 0),(di 0),Za,(ds ByteArray.empty)]),(di 0)]):DV)=(.tup [(ftD (let __src:=ftK 1;Ft.mk __src.nm __src.kind __src.n __src.d (cpB x.k (cmpF (V 0).n (V 0).d (V 1).n (V 1).d)) __src.wd)),(di 0)]))) (db (x.k==14&&decide (cmpF (V (0+Int.toNat 0)).n (V (0+Int.toNat 0)).d (V (0+Int.toNat 1)).n (V (0+Int.toNat 1)).d<0)||x.k==15&&decide (cmpF (V (0+Int.toNat 0)).n (V (0+Int.toNat 0)).d (V (0+Int.toNat 1)).n (V (0+Int.toNat 1)).d≤0)||x.k==16&&decide (cmpF (V (0+Int.toNat 0)).n (V (0+Int.toNat 0)).d (V (0+Int.toNat 1)).n (V (0+Int.toNat 1)).d>0)||x.k==17&&decide (cmpF (V (0+Int.toNat 0)).n (V (0+Int.toNat 0)).d (V (0+Int.toNat 1)).n (V (0+Int.toNat 1)).d≥0)))) (by kernel_rfl) ?_
 exact⟨⟨⟨by omega,by omega⟩,⟨by omega,by omega⟩,f25 _ _ _ _⟩,f87 _,rfl⟩
def sameF (f g:Ft):Bool:=f.nm.toList==g.nm.toList&&(f.kind==g.kind&&(f.n==g.n&&f.d==g.d&&(f.tr==g.tr&&f.wd.toList==g.wd.toList)))
theorem v50_12 (L:List Ft) (m:Nat) (x:Ex) (V:Nat→Ft) (n:Nat) (hn:1<n):AWP Tryz.prog G [cd Tryz.f50 [1,1,1,0,1,0,1,1,1,1,1,1,1,1,1,1,1,1,1,1,1,1,1,1,1,1,1,1,1,0],.blk 2,cd Tryz.f50 [1,1,1,1]] (S50t L m x n V) (Ret Tryz.prog Tryz.f50 (.tup [ftD { ftK 1 with tr:=sameF (V 0) (V 1) },di 0])):=by
 refine walkK (orc:=orcVk) (keep:=[]) (cuts:=[]) (n:=1000) follows ?_
 refine of_tr (fun _ _ _ ZK=>(fun Za=>(((((0:Int)≤(0:Int))∧(0<(↑n:Int)))∧(((0:Int)≤(1:Int))∧(1<(↑n:Int)))∧ZK 87 [Za] (.tup [(.agg [(ds ByteArray.empty),(di 1),(di 0),(di 0),Za,(ds ByteArray.empty)]),(di 0)]))∧((.tup [(.agg [(ds ByteArray.empty),(di 1),(di 0),(di 0),Za,(ds ByteArray.empty)]),(di 0)]):DV)=(.tup [(ftD (let __src:=ftK 1;Ft.mk __src.nm __src.kind __src.n __src.d (sameF (V 0) (V 1)) __src.wd)),(di 0)]))) (db (Bool.rec false ((V (0+Int.toNat 0)).kind==(V (0+Int.toNat 1)).kind&&((V (0+Int.toNat 0)).n==(V (0+Int.toNat 1)).n&&(V (0+Int.toNat 0)).d==(V (0+Int.toNat 1)).d&&((V (0+Int.toNat 0)).tr==(V (0+Int.toNat 1)).tr&&(V (0+Int.toNat 0)).wd.toList==(V (0+Int.toNat 1)).wd.toList))) ((V (0+Int.toNat 0)).nm.toList==(V (0+Int.toNat 1)).nm.toList)))) (by kernel_rfl) ?_
 simp only[brec]
 exact⟨⟨⟨by omega,by omega⟩,⟨by omega,by omega⟩,f87 _⟩,rfl⟩
theorem v50_13 (L:List Ft) (m:Nat) (x:Ex) (V:Nat→Ft) (n:Nat) (hn:1<n):AWP Tryz.prog G [cd Tryz.f50 [1,1,1,0,1,0,1,1,1,1,1,1,1,1,1,1,1,1,1,1,1,1,1,1,1,1,1,1,1,1,1,0],.blk 2,cd Tryz.f50 [1,1,1,1]] (S50t L m x n V) (Ret Tryz.prog Tryz.f50 (.tup [ftD { ftK 1 with tr:=!sameF (V 0) (V 1) },di 0])):=by
 refine walkK (orc:=orcVk) (keep:=[]) (cuts:=[]) (n:=1000) follows ?_
 refine of_tr (fun _ _ _ ZK=>(fun Za=>(((((0:Int)≤(0:Int))∧(0<(↑n:Int)))∧(((0:Int)≤(1:Int))∧(1<(↑n:Int)))∧ZK 87 [Za] (.tup [(.agg [(ds ByteArray.empty),(di 1),(di 0),(di 0),Za,(ds ByteArray.empty)]),(di 0)]))∧((.tup [(.agg [(ds ByteArray.empty),(di 1),(di 0),(di 0),Za,(ds ByteArray.empty)]),(di 0)]):DV)=(.tup [(ftD (let __src:=ftK 1;Ft.mk __src.nm __src.kind __src.n __src.d (!sameF (V 0) (V 1)) __src.wd)),(di 0)]))) (db (!Bool.rec false ((V (0+Int.toNat 0)).kind==(V (0+Int.toNat 1)).kind&&((V (0+Int.toNat 0)).n==(V (0+Int.toNat 1)).n&&(V (0+Int.toNat 0)).d==(V (0+Int.toNat 1)).d&&((V (0+Int.toNat 0)).tr==(V (0+Int.toNat 1)).tr&&(V (0+Int.toNat 0)).wd.toList==(V (0+Int.toNat 1)).wd.toList))) ((V (0+Int.toNat 0)).nm.toList==(V (0+Int.toNat 1)).nm.toList)))) (by kernel_rfl) ?_
 simp only[brec]
 exact⟨⟨⟨by omega,by omega⟩,⟨by omega,by omega⟩,f87 _⟩,rfl⟩
open Go Go.Ab
theorem qv_lt {a b c d:Int} (hb:0<b) (hd:0<d):qv a b<qv c d↔a*d<c*b:=by
 have hb':(0:Rat)<b:=by exact_mod_cast hb
 have hd':(0:Rat)<d:=by exact_mod_cast hd
 have hne:(d:Rat)≠0:=cast_ne (by omega)
 unfold qv
 rw[Rat.div_lt_iff hb',show (c:Rat) / d*b=(c*b) / d by grind,Rat.lt_div_iff hd']
 exact_mod_cast Iff.rfl
def cmpR (x y:Rat):Int:=if x<y then -1 else if y<x then 1 else 0
theorem cmpF_eq {a b c d:Int} (h1:ok a b=true) (h2:ok c d=true):cmpF a b c d=cmpR (qv a b) (qv c d):=by
 simp only[cmpF,h1,h2,Bool.and_self,if_true,cmpI,cmpR,qv_lt (ok_pos h1) (ok_pos h2),qv_lt (ok_pos h2) (ok_pos h1)]
theorem cmp_zero {a b c d:Int} (h1:ok a b=true) (h2:ok c d=true):cmpF a b c d=0↔a=c∧b=d:=by
 rw[cmpF_eq h1 h2]
 constructor
 ·intro h
  refine ok_uniq h1 h2 ?_
  unfold cmpR at h
  grind
 ·rintro ⟨rfl,rfl⟩
  unfold cmpR;grind
end Go.Proofs
/- The reference's value,plain: what it says by the kind of a node. -/
namespace Go.Proofs
open Go Go.Ab Go.RowKit
set_option maxHeartbeats 4000000
theorem vlR_num (F:List Ft) (x:Ex):vlR F 0 x=match nuE F x with|some p=>({ ftK 0 with n:=p.1,d:=p.2 },0)|none=>(ft0,2):=by
 unfold vlR valE
 rw[if_pos rfl]
 cases nuE F x<;>rfl
theorem vlR_tr (F:List Ft) (x:Ex):vlR F 1 x=match bvE F x with|some b=>({ ftK 1 with tr:=b },0)|none=>(ft0,2):=by
 unfold vlR valE
 rw[if_neg (by decide),if_pos rfl]
 cases bvE F x<;>rfl
theorem vlR_wd (F:List Ft) (x:Ex):vlR F 2 x=({ ftK 2 with wd:=wvE F x },0):=by
 unfold vlR valE
 rw[if_neg (by decide),if_neg (by decide)]
section
variable {F:List Ft} {l:List Fc} {ws:List ByteArray} {y:Ex}
theorem kv_num (h:(tyE l ws y).1=0) (h0:(kvR F l ws y).2=0):∃p,nuE F y=some p∧(kvR F l ws y).1={ ftK 0 with n:=p.1,d:=p.2 }:=by
 unfold kvR at h0⊢
 rw[h,vlR_num] at h0⊢
 cases hn:nuE F y with
 | none=>rw[hn] at h0;cases h0
 | some p=>exact⟨p,rfl,rfl⟩
theorem kv_numN (h:(tyE l ws y).1=0) (h0:(kvR F l ws y).2≠0):nuE F y=none:=by
 unfold kvR at h0
 rw[h,vlR_num] at h0
 cases hn:nuE F y with
 | none=>rfl
 | some p=>rw[hn] at h0;exact absurd rfl h0
theorem kv_tr (h:(tyE l ws y).1=1) (h0:(kvR F l ws y).2=0):∃b,bvE F y=some b∧(kvR F l ws y).1={ ftK 1 with tr:=b }:=by
 unfold kvR at h0⊢
 rw[h,vlR_tr] at h0⊢
 cases hn:bvE F y with
 | none=>rw[hn] at h0;cases h0
 | some p=>exact⟨p,rfl,rfl⟩
theorem kv_trN (h:(tyE l ws y).1=1) (h0:(kvR F l ws y).2≠0):bvE F y=none:=by
 unfold kvR at h0
 rw[h,vlR_tr] at h0
 cases hn:bvE F y with
 | none=>rfl
 | some p=>rw[hn] at h0;exact absurd rfl h0
theorem kv_wd (h:(tyE l ws y).1=2):kvR F l ws y=({ ftK 2 with wd:=wvE F y },0):=by
 unfold kvR
 rw[h,vlR_wd]
end
section
variable {F:List Ft} {l:List Fc} {ws:List ByteArray} {x:Ex} (hsn:sndE x=true) (h2:(tyE l ws x).2.2=0)
include hsn h2
theorem vl_ty1 (hk:x.k=3∨x.k=4∨12≤x.k):(tyE l ws x).1=1:=(ty_node hsn h2).2.1 hk
theorem vl_ty0 (hk:x.k=1∨(5≤x.k∧x.k≤11)):(tyE l ws x).1=0:=(ty_node hsn h2).1 hk
theorem vl_short (hl:1<x.kids.length) (h0:(kvR F l ws (x.kids.getD 0 ex0)).2=0) (hs:shB x (kvR F l ws (x.kids.getD 0 ex0)).1.tr=true):vlR F (tyE l ws x).1 x=((kvR F l ws (x.kids.getD 0 ex0)).1,0):=by
 have hk:x.k=19∨x.k=20:=by
  unfold shB at hs
  simp only[Bool.or_eq_true,bAt,beq_iff_eq] at hs
  omega
 have t0:=(ty_kids h2).2 (by omega) 0 (by omega)
 obtain ⟨b,hb,e⟩:=kv_tr t0 h0
 rw[vl_ty1 hsn h2 (by omega),vlR_tr,e,bvE_eq]
 rw[e] at hs
 unfold bvK
 rw[if_neg (by omega),if_neg (by omega),if_neg (by omega),if_neg (by omega),bvL_get F _ 0 (by omega),hb]
 unfold shB at hs
 rcases hk with hk|hk
 ·rw[hk] at hs⊢
  have:b=false:=by simpa using hs
  subst this;rfl
 ·rw[hk] at hs⊢
  have:b=true:=by simpa using hs
  subst this;rfl
theorem vl_none (hF:FaM F l) (hK:KnF l) {k:Nat} (hk:k<x.kids.length) (hbad:(kvR F l ws (x.kids.getD k ex0)).2≠0) (hok:∀i,i<k→(kvR F l ws (x.kids.getD i ex0)).2=0)
  (hsh:1≤k→shB x (kvR F l ws (x.kids.getD 0 ex0)).1.tr=false):vlR F (tyE l ws x).1 x=(ft0,2):=by
 have hrk:=rk_all hsn
 by_cases h4:x.k≤4
 ·rw[snd_leaf hsn h4] at hk;simp at hk
 by_cases h11:x.k≤11
 ·have hkk:=kv_numN ((ty_kids h2).1 (.inl (by omega)) k hk) hbad
  rw[vl_ty0 hsn h2 (by omega),vlR_num,nuE_eq]
  unfold nuK
  rw[if_neg (by omega),if_neg (by omega),nuL_none hk hkk]
 have one:=fun h=>snd_one (x:=x) hsn (.inr h)
 have two:=fun h=>(snd_two (x:=x) hsn h).1
 rw[vl_ty1 hsn h2 (by omega),vlR_tr,bvE_eq]
 unfold bvK
 rw[if_neg (by omega),if_neg (by omega),if_neg (by omega)]
 by_cases h18:18≤x.k
 ·have tk:=(ty_kids h2).2 h18
  have hkk:=kv_trN (tk k hk) hbad
  by_cases e18:x.k=18
  ·have:=one e18
   obtain rfl:k=0:=by omega
   rw[if_pos e18,bvL_get F _ 0 hk,hkk]
  ·rw[if_neg e18]
   have hl:=two (by omega)
   rcases Nat.lt_or_ge 0 k with hk0|hk0
   ·obtain rfl:k=1:=by omega
    obtain ⟨b,hb,e⟩:=kv_tr (tk 0 (by omega)) (hok 0 (by omega))
    have hs:=hsh (Nat.le_refl _)
    rw[e] at hs
    unfold shB at hs
    rw[bvL_get F _ 0 (by omega),bvL_get F _ 1 (by omega),hb,hkk]
    by_cases e19:x.k=19
    ·rw[e19] at hs⊢
     have:b=true:=by simpa using hs
     subst this;rfl
    ·have e20:x.k=20:=by omega
     rw[e20] at hs⊢
     have:b=false:=by simpa using hs
     subst this;rfl
   ·obtain rfl:k=0:=by omega
    rw[bvL_get F _ 0 (by omega),hkk]
    by_cases e19:x.k=19
    ·rw[if_pos e19]
    ·rw[if_neg e19,if_pos (by omega)]
 rw[if_neg (by omega),if_neg (by omega),if_neg (by omega)]
 have hl:=two (by omega)
 by_cases h14:14≤x.k
 ·have hkk:=kv_numN ((ty_kids h2).1 (.inr (by omega)) k hk) hbad
  rw[if_neg (by omega),if_neg (by omega)]
  have:cvE F (x.kids.getD 0 ex0) (x.kids.getD 1 ex0)=none:=by
   unfold cvE
   rcases Nat.lt_or_ge 0 k with hk0|hk0
   ·obtain rfl:k=1:=by omega
    rw[hkk];cases nuE F (x.kids.getD 0 ex0)<;>rfl
   ·obtain rfl:k=0:=by omega
    rw[hkk]
  rw[this]
 ·have hc:x.k=12∨x.k=13:=by omega
  have hty:=ty_eq hsn h2 hc
  have s0:=snd_kid (x:=x) hsn (i:=0) (by omega)
  have f0:=(tyE_fine h2).1 0 (by omega)
  obtain ⟨w0,r0⟩:=wd_tr hF s0 f0
  rw[bvL_get F _ 0 (by omega),bvL_get F _ 1 (by omega)]
  have key:eqE F (bvE F (x.kids.getD 0 ex0)) (bvE F (x.kids.getD 1 ex0)) (x.kids.getD 0 ex0) (x.kids.getD 1 ex0)=none:=by
   have htk:(tyE l ws (x.kids.getD k ex0)).1=(tyE l ws (x.kids.getD 0 ex0)).1:=by
    rcases Nat.lt_or_ge 0 k with hk0|hk0
    ·obtain rfl:k=1:=by omega
     exact hty.symm
    ·obtain rfl:k=0:=by omega
     rfl
   have nw:(tyE l ws (x.kids.getD 0 ex0)).1≠2:=fun h=>hbad (by rw[kv_wd (htk.trans h)])
   unfold eqE
   rw[if_neg (fun h=>nw (w0.1 h))]
   rcases ty_kd hK s0 f0 with h|h|h
   ·have hkk:=kv_numN (htk.trans h) hbad
    rw[if_neg (fun h'=>by rw[r0.1 h'] at h;cases h)]
    have:cvE F (x.kids.getD 0 ex0) (x.kids.getD 1 ex0)=none:=by
     unfold cvE
     rcases Nat.lt_or_ge 0 k with hk0|hk0
     ·obtain rfl:k=1:=by omega
      rw[hkk];cases nuE F (x.kids.getD 0 ex0)<;>rfl
     ·obtain rfl:k=0:=by omega
      rw[hkk]
    rw[this]
   ·have hkk:=kv_trN (htk.trans h) hbad
    rw[if_pos (r0.2 h)]
    rcases Nat.lt_or_ge 0 k with hk0|hk0
    ·obtain rfl:k=1:=by omega
     rw[hkk];cases bvE F (x.kids.getD 0 ex0)<;>rfl
    ·obtain rfl:k=0:=by omega
     rw[hkk]
   ·exact absurd h nw
  rw[key]
  rcases hc with hc|hc
  ·rw[if_pos hc]
  ·rw[if_neg (by omega),if_pos hc]
theorem kv_all0 (hk:∀i,i<x.kids.length→(tyE l ws (x.kids.getD i ex0)).1=0) (h:∀i,i<x.kids.length→(kvR F l ws (x.kids.getD i ex0)).2=0) :
  nuL F x.kids=some (x.kids.map (nvD F))∧∀i,i<x.kids.length→vR F l ws x i={ ftK 0 with n:=((x.kids.map (nvD F)).getD i (0,0)).1,d:=((x.kids.map (nvD F)).getD i (0,0)).2 }:=by
 have _:=hsn
 have _:=h2
 have hh:∀i,i<x.kids.length→∃p,nuE F (x.kids.getD i ex0)=some p∧(kvR F l ws (x.kids.getD i ex0)).1={ ftK 0 with n:=p.1,d:=p.2 }:=fun i hi=>kv_num (hk i hi) (h i hi)
 refine⟨nuL_some fun i hi=>?_,fun i hi=>?_⟩
 ·obtain ⟨p,hp,_⟩:=hh i hi
  rw[hp];exact fun h=>by cases h
 ·obtain ⟨p,hp,e⟩:=hh i hi
  have e2:(x.kids.map (nvD F)).getD i (0,0)=p:=by
   rw[List.getD,List.getElem?_map,gEe hi]
   show nvD F x.kids[i]=p
   unfold nvD
   have:x.kids.getD i ex0=x.kids[i]:=by rw[List.getD,gEe hi];rfl
   rw[←this,hp];rfl
  unfold vR
  rw[e,e2]
end
/-! The least and the greatest,as the reference finds them. -/
def gK (t:Int) (V:Nat→Ft):Nat→Ft
 | 0=>V 0
 | k+1=>if (decide (cmpF (V k).n (V k).d (gK t V k).n (gK t V k).d<0)==decide (t=10))=true then V k else gK t V k
theorem gK_min {V:Nat→Ft} {r:List Fr2} (h:∀i,i<r.length→V i={ ftK 0 with n:=(r.getD i (0,0)).1,d:=(r.getD i (0,0)).2 }) (hr:0<r.length):∀k,k≤r.length→gK 10 V k={ ftK 0 with n:=(minK r k).1,d:=(minK r k).2 }
 | 0,_=>by rw[gK,minK];exact h 0 hr
 | k+1,hk=>by
  have ih:=gK_min h hr k (by omega)
  rw[gK,minK,ih,h k (by omega)]
  show (if (decide (cmpO _ _ _ _<0)==decide ((10:Int)=10))=true then _ else _)=_
  by_cases hc:cmpO (r.getD k (0,0)).1 (r.getD k (0,0)).2 (minK r k).1 (minK r k).2<0
  ·rw[if_pos hc,if_pos (by rw[decide_eq_true hc];rfl)]
  ·rw[if_neg hc,if_neg (by rw[decide_eq_false hc];decide)]
theorem gK_max {V:Nat→Ft} {r:List Fr2} (h:∀i,i<r.length→V i={ ftK 0 with n:=(r.getD i (0,0)).1,d:=(r.getD i (0,0)).2 }) (ho:∀i,i<r.length→ok (r.getD i (0,0)).1 (r.getD i (0,0)).2=true):∀k,0<k→k≤r.length→gK 11 V k=V (bestK r k).toNat
 | 0,h,_=>absurd h (Nat.lt_irrefl _)
 | k+1,_,hk=>by
  rw[gK,bestK_succ]
  rcases Nat.eq_zero_or_pos k with rfl|hk0
  ·have e:bestK r 0 = -1:=rfl
   rw[show gK 11 V 0=V 0 from rfl,ite_self,if_neg (fun hh=>absurd hh.1 (by rw[e];omega))]
   rfl
  ·have ih:=gK_max h ho k hk0 (by omega)
   have hb:=bestK_lt r k
   have hp:=bestK_pos (l:=r) hk0
   have hbl:(bestK r k).toNat<r.length:=by omega
   rw[ih]
   have eb:=h _ hbl
   have ek:=h k (by omega)
   have ecm:cmpF (V k).n (V k).d (V (bestK r k).toNat).n (V (bestK r k).toNat).d=cmpO (r.getD k (0,0)).1 (r.getD k (0,0)).2 (r.getD (bestK r k).toNat (0,0)).1 (r.getD (bestK r k).toNat (0,0)).2:=by rw[eb,ek];rfl
   rw[ecm]
   have hz:cmpO (r.getD k (0,0)).1 (r.getD k (0,0)).2 (r.getD (bestK r k).toNat (0,0)).1 (r.getD (bestK r k).toNat (0,0)).2=0→V k=V (bestK r k).toNat:=fun hh=>by
    obtain ⟨e1,e2⟩:=(cmp_zero (ho k (by omega)) (ho _ hbl)).1 hh
    rw[eb,ek,e1,e2]
   generalize cmpO (r.getD k (0,0)).1 (r.getD k (0,0)).2 (r.getD (bestK r k).toNat (0,0)).1 (r.getD (bestK r k).toNat (0,0)).2=c at hz⊢
   by_cases h1:c<0
   ·rw[if_neg (by rw[decide_eq_true h1];decide),if_pos ⟨hp,by omega⟩]
   ·rw[if_pos (by rw[decide_eq_false h1];decide)]
    by_cases h2:c=0
    ·rw[if_pos ⟨hp,by omega⟩,hz h2]
    ·rw[if_neg (by omega)];rfl
set_option maxRecDepth 100000
variable {G:IH}
noncomputable def S50n (L:List Ft) (m:Nat) (x:Ex) (k:Nat):AS:=⟨regs Tryz.f50.ntmps [(1,.d (ftsD L)),(2,.box 2 0),(4,.box 4 0),(10,vi k)],[(2,exC m x),(4,[vs .empty,vi 0,vi 0,vi 0,.d (db false),vs .empty])]⟩
theorem v50_2 (L:List Ft) (m:Nat) (x:Ex) (V:Nat→Ft) (n:Nat) (hL:L.length≤100000) (r:DV)
  (hhit:∀k,k<L.length→(L.getD k ft0).nm=x.s→r=.tup [ftD { L.getD k ft0 with nm:=.empty },di 0])
  (hmiss:(∀k,k<L.length→(L.getD k ft0).nm≠x.s)→r=.tup [ftD { ftK 2 with wd:=x.s },di 0]) :
  AWP Tryz.prog G [cd Tryz.f50 [1,1,1,0,1,0,1,1,1,1,1,0,0],cd Tryz.f50 [1,1,1,0,1,0,1,1,1,1,1,0,1],.blk 2,cd Tryz.f50 [1,1,1,1]] (S50t L m x n V) (Ret Tryz.prog Tryz.f50 r):=by
 refine walkK (orc:=orcVk) (keep:=[]) (cuts:=[]) (n:=1000) follows ?_
 refine of_tr (fun ZT ZW ZQ _=>ZW [cd Tryz.f50 [1,1,1,0,1,0,1,1,1,1,1,0,0,1,0],(.blk 3),cd Tryz.f50 [1,1,1,0,1,0,1,1,1,1,1,0,1],(.blk 2),cd Tryz.f50 [1,1,1,1]] (stS ZT []) ZQ) (by kernel_rfl) ?_
 refine AWP.loop (c:=cAt (bodyOf Tryz.f50) [1,1,1,0,1,0,1,1,1,1,1,0,0,1,0,0]) (by kernel_rfl) (S50n L m x) (fun k=>k≤L.length∧∀i,i<k→(L.getD i ft0).nm≠x.s) (fun k=>L.length-k) 0 ?_ ⟨Nat.zero_le _,fun i hi=>by omega⟩ ?_
 ·exact AS.leA (by kernel_rfl)
 ·rintro k ⟨hk,hno⟩
  by_cases hk2:k<L.length
  ·refine walkK (orc:=orcVk) (keep:=[]) (cuts:=[]) (n:=1000) follows ?_
   refine of_rd (fun ZT ZW ZQ _ ZA _=>((((decide ((↑k:Int)<↑L.length))=true)→(((0≤(↑k:Int))∧((↑k:Int)<↑L.length))∧((((L.getD (↑k:Int).toNat ft0).nm.toList==x.s.toList)=true)→(((0≤(↑k:Int))∧((↑k:Int)<↑L.length))∧((.tup [(.agg [(ds (ByteArray.mk #[])),(di (L.getD (↑k:Int).toNat ft0).kind),(di (L.getD (↑k:Int).toNat ft0).n),(di (L.getD (↑k:Int).toNat ft0).d),(db (L.getD (↑k:Int).toNat ft0).tr),(ds (L.getD (↑k:Int).toNat ft0).wd)]),(di 0)]):DV)=r))∧((((L.getD (↑k:Int).toNat ft0).nm.toList==x.s.toList)=false)→((I64 (↑k+1))∧(ZA (stS ZT [0,1]))))))∧(((decide ((↑k:Int)<↑L.length))=false)→ZW [cd Tryz.f50 [1,1,1,0,1,0,1,1,1,1,1,0,1],(.blk 2),cd Tryz.f50 [1,1,1,1]] (stS ZT [1]) ZQ))) (by kernel_rfl) ?_
   simp only[iTn,toList_beq]
   refine⟨fun _=>⟨⟨by omega,by omega⟩,fun h=>⟨⟨by omega,by omega⟩,(hhit k hk2 (oDt h)).symm⟩,fun h=>⟨⟨by omega,by omega⟩,Again.mk (k+1) ?_ ⟨hk2,fun i hi=>?_⟩ (by omega)⟩⟩,fun h=>absurd (of_decide_eq_false h) (by omega)⟩
   ·exact AS.leA (by kernel_rfl)
   ·rcases Nat.lt_or_ge i k with h4|h4
    ·exact hno i h4
    ·obtain rfl:i=k:=by omega
     exact of_decide_eq_false h
  ·have hkn:k=L.length:=by omega
   subst hkn
   refine walkK (orc:=orcVk) (keep:=[]) (cuts:=[]) (n:=1000) follows ?_
   refine of_rd (fun ZT ZW ZQ _ ZA _=>(fun Za=>((((decide ((↑L.length:Int)<↑L.length))=true)→(((0≤(↑L.length:Int))∧((↑L.length:Int)<↑L.length))∧(((Za.nm.toList==x.s.toList)=true)→(((0≤(↑L.length:Int))∧((↑L.length:Int)<↑L.length))∧((.tup [(.agg [(ds (ByteArray.mk #[])),(di Za.kind),(di Za.n),(di Za.d),(db Za.tr),(ds Za.wd)]),(di 0)]):DV)=r))∧(((Za.nm.toList==x.s.toList)=false)→((I64 (↑L.length+1))∧(ZA (stS ZT [0,1]))))))∧(((decide ((↑L.length:Int)<↑L.length))=false)→ZW [cd Tryz.f50 [1,1,1,0,1,0,1,1,1,1,1,0,1],(.blk 2),cd Tryz.f50 [1,1,1,1]] (stS ZT [1]) ZQ))) (L.getD (↑L.length:Int).toNat ft0)) (by kernel_rfl) ?_
   refine⟨fun h=>absurd (oDt h) (by omega),fun _=>?_⟩
   refine walkK (orc:=orcVk) (keep:=[]) (cuts:=[]) (n:=1000) follows ?_
   refine of_tr (fun _ _ _ _=>(((.tup [(.agg [(ds (ByteArray.mk #[])),(di 2),(di 0),(di 0),(db false),(ds x.s)]),(di 0)]):DV)=r)) (by kernel_rfl) ?_
   exact(hmiss hno).symm
noncomputable def S50g (t:Int) (L:List Ft) (m:Nat) (x:Ex) (n:Nat) (V:Nat→Ft) (k:Nat):AS:=⟨regs Tryz.f50.ntmps [(2,.box 2 0),(4,.box 4 0),(6,.d (.slc 6 n fun i=>.agg (ftCs (V (0+i))))),(12,.box 12 0),(13,vi k)],
 [(2,exC m x),(4,[vs .empty,vi 0,vi 0,vi 0,.d (db false),vs .empty]),(12,[vs (gK t V k).nm,.d (di (gK t V k).kind),.d (di (gK t V k).n),.d (di (gK t V k).d),.d (db (gK t V k).tr),vs (gK t V k).wd])]⟩
theorem v50_1011 (L:List Ft) (m:Nat) (x:Ex) (V:Nat→Ft) (n:Nat) (hn:0<n) (hn2:n≤100000) (hk:x.k=10∨x.k=11) :
  AWP Tryz.prog G [cd Tryz.f50 [1,1,1,0,1,0,1,1,1,1,1,1,1,1,1,1,1,1,1,1,1,1,1,0],.blk 2,cd Tryz.f50 [1,1,1,1]] (S50t L m x n V) (Ret Tryz.prog Tryz.f50 (.tup [ftD (gK x.k V n),di 0])):=by
 refine walkK (orc:=orcVk) (keep:=[]) (cuts:=[]) (n:=1000) follows ?_
 refine of_tr (fun ZT ZW ZQ _=>((((0:Int)≤(0:Int))∧(0<(↑n:Int)))∧ZW [cd Tryz.f50 [1,1,1,0,1,0,1,1,1,1,1,1,1,1,1,1,1,1,1,1,1,1,1,0,1,0,1,0],(.blk 5),cd Tryz.f50 [1,1,1,0,1,0,1,1,1,1,1,1,1,1,1,1,1,1,1,1,1,1,1,0,1,1],(.blk 2),cd Tryz.f50 [1,1,1,1]] (stS ZT []) ZQ)) (by kernel_rfl) ?_
 refine⟨⟨Int.le_refl _,by omega⟩,?_⟩
 refine AWP.loop (c:=cAt (bodyOf Tryz.f50) [1,1,1,0,1,0,1,1,1,1,1,1,1,1,1,1,1,1,1,1,1,1,1,0,1,0,1,0,0]) (by kernel_rfl) (S50g x.k L m x n V) (fun k=>1≤k∧k≤n) (fun k=>n-k) 1 ?_ ⟨Nat.le_refl _,hn⟩ ?_
 ·refine AS.leZ [] [2] (b:=((T0∧T0∧T0∧T0∧T0∧True)∧T0∧T0∧((some [(vs (V (0+Int.toNat 0)).nm),(vi (V (0+Int.toNat 0)).kind),(vi (V (0+Int.toNat 0)).n),(vi (V (0+Int.toNat 0)).d),(vb (V (0+Int.toNat 0)).tr),(vs (V (0+Int.toNat 0)).wd)]):(Option (List AV)))=(some [(vs (gK x.k V 1).nm),(vi (gK x.k V 1).kind),(vi (gK x.k V 1).n),(vi (gK x.k V 1).d),(vb (gK x.k V 1).tr),(vs (gK x.k V 1).wd)])∧True)) (by kernel_rfl) (by kernel_rfl) ?_
  have e1:gK x.k V 1=V 0:=by rw[show gK x.k V 1=(if _ then V 0 else V 0) from rfl,ite_self]
  rw[e1]
  exact⟨⟨rfl,rfl,rfl,rfl,rfl,trivial⟩,rfl,rfl,rfl,trivial⟩
 ·rintro k ⟨h1,h2⟩
  by_cases hk2:k<n
  ·refine walkK (orc:=orcVk) (keep:=[]) (cuts:=[]) (n:=1000) follows ?_
   refine of_rd (fun ZT ZW ZQ ZK ZA _=>(fun Za=>((((decide ((↑k:Int)<↑n))=true)→((((0≤(↑k:Int))∧((↑k:Int)<↑n))∧ZK 25 [(.agg [(di (V (0+(↑k:Int).toNat)).n),(di (V (0+(↑k:Int).toNat)).d)]),(.agg [(di (gK x.k V k).n),(di (gK x.k V k).d)])] (.tup [(di (cmpF (V (0+(↑k:Int).toNat)).n (V (0+(↑k:Int).toNat)).d (gK x.k V k).n (gK x.k V k).d)),(db (ok2 (V (0+(↑k:Int).toNat)).n (V (0+(↑k:Int).toNat)).d (gK x.k V k).n (gK x.k V k).d))]))∧((Za=true)→(((0≤(↑k:Int))∧((↑k:Int)<↑n))∧(I64 (↑k+1))∧(ZA (stS ZT [0,0]))))∧((Za=false)→((I64 (↑k+1))∧(ZA (stS ZT [0,1]))))))∧(((decide ((↑k:Int)<↑n))=false)→ZW [cd Tryz.f50 [1,1,1,0,1,0,1,1,1,1,1,1,1,1,1,1,1,1,1,1,1,1,1,0,1,1],(.blk 2),cd Tryz.f50 [1,1,1,1]] (stS ZT [1]) ZQ))) (decide (cmpF (V (0+(↑k:Int).toNat)).n (V (0+(↑k:Int).toNat)).d (gK x.k V k).n (gK x.k V k).d<0)==(x.k==10))) (by kernel_rfl) ?_
   simp only[iTn,Nat.zero_add]
   refine⟨fun _=>⟨⟨⟨by omega,by omega⟩,f25 _ _ _ _⟩,fun h=>⟨⟨by omega,by omega⟩,⟨by omega,by omega⟩,Again.mk (k+1) ?_ ⟨by omega,hk2⟩ (by omega)⟩,fun h=>⟨⟨by omega,by omega⟩,Again.mk (k+1) ?_ ⟨by omega,hk2⟩ (by omega)⟩⟩,fun h=>absurd (of_decide_eq_false h) (by omega)⟩
   ·have e1:gK x.k V (k+1)=V k:=if_pos h
    refine AS.leZ [] [2] (b:=((T0∧T0∧T0∧T0∧T0∧True)∧T0∧T0∧((some [(vs (V (0+(↑k:Int).toNat)).nm),(vi (V (0+(↑k:Int).toNat)).kind),(vi (V (0+(↑k:Int).toNat)).n),(vi (V (0+(↑k:Int).toNat)).d),(vb (V (0+(↑k:Int).toNat)).tr),(vs (V (0+(↑k:Int).toNat)).wd)]):(Option (List AV)))=(some [(vs (gK x.k V (k+1)).nm),(vi (gK x.k V (k+1)).kind),(vi (gK x.k V (k+1)).n),(vi (gK x.k V (k+1)).d),(vb (gK x.k V (k+1)).tr),(vs (gK x.k V (k+1)).wd)])∧True)) (by kernel_rfl) (by kernel_rfl) ?_
    rw[e1,iTn,Nat.zero_add]
    exact⟨⟨rfl,rfl,rfl,rfl,rfl,trivial⟩,rfl,rfl,rfl,trivial⟩
   ·have e1:gK x.k V (k+1)=gK x.k V k:=if_neg (by rw[show (_==decide (x.k=10))=false from h];decide)
    refine AS.leZ [] [2] (b:=((T0∧T0∧T0∧T0∧T0∧True)∧T0∧T0∧((some [(vs (gK x.k V k).nm),(vi (gK x.k V k).kind),(vi (gK x.k V k).n),(vi (gK x.k V k).d),(vb (gK x.k V k).tr),(vs (gK x.k V k).wd)]):(Option (List AV)))=(some [(vs (gK x.k V (k+1)).nm),(vi (gK x.k V (k+1)).kind),(vi (gK x.k V (k+1)).n),(vi (gK x.k V (k+1)).d),(vb (gK x.k V (k+1)).tr),(vs (gK x.k V (k+1)).wd)])∧True)) (by kernel_rfl) (by kernel_rfl) ?_
    rw[e1]
    exact⟨⟨rfl,rfl,rfl,rfl,rfl,trivial⟩,rfl,rfl,rfl,trivial⟩
  ·obtain rfl:k=n:=by omega
   refine walkK (orc:=orcVk) (keep:=[]) (cuts:=[]) (n:=1000) follows ?_
   refine of_rd (fun ZT ZW ZQ ZK ZA _=>(fun Za=>((((decide ((↑k:Int)<↑k))=true)→((((0≤(↑k:Int))∧((↑k:Int)<↑k))∧ZK 25 [(.agg [(di (V (0+(↑k:Int).toNat)).n),(di (V (0+(↑k:Int).toNat)).d)]),(.agg [(di (gK x.k V k).n),(di (gK x.k V k).d)])] (.tup [(di (cmpF (V (0+(↑k:Int).toNat)).n (V (0+(↑k:Int).toNat)).d (gK x.k V k).n (gK x.k V k).d)),(db (ok2 (V (0+(↑k:Int).toNat)).n (V (0+(↑k:Int).toNat)).d (gK x.k V k).n (gK x.k V k).d))]))∧((Za=true)→(((0≤(↑k:Int))∧((↑k:Int)<↑k))∧(I64 (↑k+1))∧(ZA (stS ZT [0,0]))))∧((Za=false)→((I64 (↑k+1))∧(ZA (stS ZT [0,1]))))))∧(((decide ((↑k:Int)<↑k))=false)→ZW [cd Tryz.f50 [1,1,1,0,1,0,1,1,1,1,1,1,1,1,1,1,1,1,1,1,1,1,1,0,1,1],(.blk 2),cd Tryz.f50 [1,1,1,1]] (stS ZT [1]) ZQ))) (decide (cmpF (V (0+(↑k:Int).toNat)).n (V (0+(↑k:Int).toNat)).d (gK x.k V k).n (gK x.k V k).d<0)==(x.k==10))) (by kernel_rfl) ?_
   refine⟨fun h=>absurd (oDt h) (by omega),fun _=>?_⟩
   refine walkK (orc:=orcVk) (keep:=[]) (cuts:=[]) (n:=1000) follows ?_
   refine of_tr (fun _ _ _ _=>(ZS ((.tup [(ftD (gK x.k V k)),(di 0)]):DV))) (by kernel_rfl) ?_
   rfl
end Go.Proofs
/- Names: the fact that a name means. Operands compared. -/
namespace Go.Proofs
open Go Go.Ab Go.RowKit
set_option maxHeartbeats 4000000
theorem vl_name {Fl:List Ft} {L:List Fc} (hfit:FitF Fl L) {ws:List ByteArray} {x:Ex} (hsn:sndE x=true) (h2:(tyE (revF L L.length) ws x).2.2=0) (hk:x.k=2) :
  (∀k,k<Fl.length→(Fl.getD k ft0).nm=x.s→vlR (revT Fl Fl.length) (tyE (revF L L.length) ws x).1 x=({ Fl.getD k ft0 with nm:=.empty },0))∧
  ((∀k,k<Fl.length→(Fl.getD k ft0).nm≠x.s)→vlR (revT Fl Fl.length) (tyE (revF L L.length) ws x).1 x=({ ftK 2 with wd:=x.s },0)):=by
 obtain ⟨t1,t2⟩:=(ty_node hsn h2).2.2 hk
 constructor
 ·intro k hkl hnm
  have hkL:k<L.length:=by have:=hfit.len;omega
  have hfm:tM (revT Fl Fl.length) (.string x.s)=Fl.getD k ft0:=by
   have:=hfit.tM hkL
   rwa [←(hfit.nm hkL).1,hnm] at this
  have hh:fH (revF L L.length) (.string x.s)=true:=by
   rw[←hfit.tH,tH_iff]
   exact⟨_,getD_mem (x0:=ft0) hkl,hnm⟩
  have hkd:=hfit.fam.kd x.s
  unfold nmK at t1
  rw[if_pos hh] at t1
  have hty:(tyE (revF L L.length) ws x).1=(Fl.getD k ft0).kind:=by rw[t1,←hkd,hfm]
  have hkn:=hfit.knf _ hh
  rw[←hkd,hfm] at hkn
  have hf:=hfit.fit k hkL
  have hkind:=(hfit.nm hkL).2
  unfold fitB at hf
  simp only[bAt,Bool.or_eq_true,dEt,beq_iff_eq,Bool.not_eq_true'] at hf
  obtain ⟨⟨⟨⟨⟨⟨_,_⟩,a0⟩,a1⟩,a2⟩,_⟩,_⟩:=hf
  rw[←hkind] at a0 a1 a2
  rw[hty]
  generalize hg:Fl.getD k ft0=f at *
  obtain ⟨nm,kind,n,d,tr,wd⟩:=f
  simp only at a0 a1 a2 hkn⊢
  rcases hkn with rfl|rfl|rfl
  ·rw[vlR_num,nuE_eq]
   unfold nuK
   rw[if_neg (by omega),if_pos hk,hfm]
   obtain rfl:=a1.resolve_left (by decide)
   obtain rfl:=a2.resolve_left (by decide)
   rfl
  ·rw[vlR_tr,bvE_eq]
   unfold bvK
   rw[if_neg (by omega),if_neg (by omega),if_pos hk,hfm]
   obtain ⟨rfl,rfl⟩:=a0.resolve_left (by decide)
   obtain rfl:=a2.resolve_left (by decide)
   rfl
  ·rw[vlR_wd]
   unfold wvE
   have ht:tH (revT Fl Fl.length) (.string x.s)=true:=by rw[hfit.tH];exact hh
   rw[if_pos ht,hfm]
   obtain ⟨rfl,rfl⟩:=a0.resolve_left (by decide)
   obtain rfl:=a1.resolve_left (by decide)
   rfl
 ·intro hno
  have ht:tH (revT Fl Fl.length) (.string x.s)=false:=by
   rw[Bool.eq_false_iff,ne_eq,tH_iff]
   rintro ⟨f,hf,e⟩
   obtain ⟨i,hi,rfl⟩:=List.getElem_of_mem hf
   refine hno i hi ?_
   rw[List.getD,gEe hi];exact e
  have hh:fH (revF L L.length) (.string x.s)=false:=by rw[←hfit.tH];exact ht
  unfold nmK at t1 t2
  rw[if_neg (by rw[hh];decide)] at t1 t2
  split at t2
  ·rename_i hw
   rw[if_pos hw] at t1
   rw[t1,vlR_wd]
   unfold wvE
   rw[if_neg (by rw[ht];decide)]
  ·cases t2
theorem toL_inj {a b:ByteArray} (h:a.toList=b.toList):a=b:=by
 have h1:=beq_iff_eq.2 h
 rw[toList_beq] at h1
 exact oDt h1
theorem vl_same {F:List Ft} {l:List Fc} {ws:List ByteArray} {x:Ex} (hF:FaM F l) (hK:KnF l) {m:Nat} (hm:ht x≤m) (hsn:sndE x=true) (h2:(tyE l ws x).2.2=0) (hk:x.k=12∨x.k=13) (h:∀i,i<x.kids.length→(kvR F l ws (x.kids.getD i ex0)).2=0) :
  eqE F (bvE F (x.kids.getD 0 ex0)) (bvE F (x.kids.getD 1 ex0)) (x.kids.getD 0 ex0) (x.kids.getD 1 ex0)=some (sameF (vR F l ws x 0) (vR F l ws x 1)):=by
 have hl:=(snd_two (x:=x) hsn (by omega)).1
 have hty:=ty_eq hsn h2 hk
 have s0:=snd_kid (x:=x) hsn (i:=0) (by omega)
 have s1:=snd_kid (x:=x) hsn (i:=1) (by omega)
 have f0:=(tyE_fine h2).1 0 (by omega)
 have f1:=(tyE_fine h2).1 1 (by omega)
 have d0:=ht_kid (x:=x) (i:=0) (by omega)
 have d1:=ht_kid (x:=x) (i:=1) (by omega)
 obtain ⟨w0,r0⟩:=wd_tr hF s0 f0
 unfold eqE vR
 rcases ty_kd hK s0 f0 with t|t|t
 ·obtain ⟨p,hp,e0⟩:=kv_num t (h 0 (by omega))
  obtain ⟨q,hq,e1⟩:=kv_num (hty▸t) (h 1 (by omega))
  have op:=nu_ok hF.num m _ p (by omega) s0 f0 t hp
  have oq:=nu_ok hF.num m _ q (by omega) s1 f1 (hty▸t) hq
  rw[if_neg (fun h'=>by rw[w0.1 h'] at t;cases t),if_neg (fun h'=>by rw[r0.1 h'] at t;cases t),e0,e1]
  unfold cvE
  rw[hp,hq]
  refine congrArg some ?_
  rw[Bool.eq_iff_iff]
  unfold sameF
  simp only[beq_self_eq_true,Bool.true_and,Bool.and_true,bAt,beq_iff_eq]
  exact cmp_zero op oq
 ·obtain ⟨p,hp,e0⟩:=kv_tr t (h 0 (by omega))
  obtain ⟨q,hq,e1⟩:=kv_tr (hty▸t) (h 1 (by omega))
  rw[if_neg (fun h'=>by rw[w0.1 h'] at t;cases t),if_pos (r0.2 t),e0,e1,hp,hq]
  unfold sameF
  simp only[beq_self_eq_true,Bool.true_and,Bool.and_true]
 ·rw[if_pos (w0.2 t),kv_wd t,kv_wd (hty▸t)]
  refine congrArg some ?_
  rw[Bool.eq_iff_iff]
  unfold sameF
  simp only[beq_self_eq_true,Bool.true_and,Bool.and_true,dEt,beq_iff_eq]
  exact⟨fun h=>by rw[h],toL_inj⟩
set_option maxRecDepth 100000
variable {G:IH}
theorem kv_ret {F:List Ft} {l:List Fc} {ws:List ByteArray} {x:Ex} {f:Ft} {c:Int} {k:List It} {S:AS} (e:vlR F (tyE l ws x).1 x=(f,c)) (h:AWP Tryz.prog G k S (Ret Tryz.prog Tryz.f50 (.tup [ftD f,di c]))) :
  AWP Tryz.prog G k S (Ret Tryz.prog Tryz.f50 (.tup [ftD (kvR F l ws x).1,di (kvR F l ws x).2])):=by
 unfold kvR;rw[e];exact h
theorem f50 {Fl:List Ft} {L:List Fc} (hfit:FitF Fl L) (hFl:Fl.length≤100000) (ws:List ByteArray) (m:Nat):∀(x:Ex),ht x≤m→Sm x→sndE x=true→(tyE (revF L L.length) ws x).2.2=0→
  FnOK Tryz.prog G 50 [exD m x,ftsD Fl] (.tup [ftD (kvR (revT Fl Fl.length) (revF L L.length) ws x).1,di (kvR (revT Fl Fl.length) (revF L L.length) ws x).2]):=by
 have hF:=hfit.fam
 have hK:=hfit.knf
 induction m using Nat.strongRecOn with
 | _ m ih=>
 intro x hx hs hsn h2
 have hname:=fun hk=>vl_name hfit (ws:=ws) hsn h2 hk
 have hlen:=hs.len.1
 have hrk:=rk_all hsn
 have kid:∀i,i<x.kids.length→FnOK Tryz.prog G 50 [kidA m x i,ftsD Fl] (.tup [ftD (kvR (revT Fl Fl.length) (revF L L.length) ws (x.kids.getD i ex0)).1,di (kvR (revT Fl Fl.length) (revF L L.length) ws (x.kids.getD i ex0)).2]):=fun i hi=>
  kidOK (Q:=fun d=>FnOK Tryz.prog G 50 [d,ftsD Fl] (.tup [ftD (kvR (revT Fl Fl.length) (revF L L.length) ws (x.kids.getD i ex0)).1,di (kvR (revT Fl Fl.length) (revF L L.length) ws (x.kids.getD i ex0)).2])) hx hi fun m' h3 h4=>ih m' h3 _ h4 (hs.kid hi) (snd_kid hsn hi) ((tyE_fine h2).1 i hi)
 generalize revT Fl Fl.length=F at *
 generalize revF L L.length=l at *
 have one:=fun h=>snd_one (x:=x) hsn h
 have two:=fun h=>(snd_two (x:=x) hsn h).1
 have ty0:=fun h=>vl_ty0 (x:=x) hsn h2 h
 have ty1:=fun h=>vl_ty1 (x:=x) hsn h2 h
 refine FnOK.of_body Tryz.func50 rfl Tryz.call50 (vl_walk Fl F l ws _ m x hx hs kid (fun hl h0 hsh=>?_) (fun k hk hbad hok hsh=>?_) fun hall hsh=>vl_froz ?_)
 ·unfold kvR;rw[vl_short hsn h2 hl h0 hsh];rfl
 ·have e2:(kvR F l ws (x.kids.getD k ex0)).2=2:=by
   unfold kvR vlR at hbad⊢
   cases hv:valE F (tyE l ws (x.kids.getD k ex0)).1 (x.kids.getD k ex0) with
   | some o=>rw[hv] at hbad;exact absurd rfl hbad
   | none=>rfl
  rw[e2]
  unfold kvR;rw[vl_none hsn h2 hF hK hk hbad hok hsh]
 have a0:=fun hk=>kv_all0 hsn h2 (F:=F) ((ty_kids h2).1 hk) hall
 have okr:(5≤x.k∧x.k≤11∨14≤x.k∧x.k≤17)→∀i,i<x.kids.length→ok ((x.kids.map (nvD F)).getD i (0,0)).1 ((x.kids.map (nvD F)).getD i (0,0)).2=true:=fun hk i hi=>by
  obtain ⟨b1,b2⟩:=nuL_kid (a0 hk).1
  have hh:=ht_kid (x:=x) hi
  have:=nu_ok hF.num m (x.kids.getD i ex0) _ (by omega) (snd_kid hsn hi) ((tyE_fine h2).1 i hi) ((ty_kids h2).1 hk i hi) (b2 i hi)
  have e2:(x.kids.map (nvD F)).getD i (0,0)=nvD F (x.kids.getD i ex0):=by
   rw[List.getD,List.getElem?_map,gEe hi,List.getD,gEe hi];rfl
  rw[e2];exact this
 have rlen:(x.kids.map (nvD F)).length=x.kids.length:=List.length_map ..
 generalize hr:x.kids.map (nvD F)=r at *
 have nuv:5≤x.k∧x.k≤11→vlR F (tyE l ws x).1 x=match opV x.k r with|some p=>({ ftK 0 with n:=p.1,d:=p.2 },0)|none=>(ft0,2):=fun hk=>by
  rw[ty0 (.inr hk),vlR_num,nuE_eq]
  unfold nuK
  rw[if_neg (by omega),if_neg (by omega),(a0 (.inl hk)).1]
  try rfl
 have opv:x.k=6∨x.k=7∨x.k=8∨x.k=9→vlR F (tyE l ws x).1 x=((if (ovR x.k r).2.2=0 then { ftK 0 with n:=(ovR x.k r).1,d:=(ovR x.k r).2.1 } else ft0),(if (ovR x.k r).2.2=0 then 0 else 2)):=fun hk=>by
  rw[nuv (by omega)]
  unfold opV
  rw[if_neg (by omega),if_neg (by omega),if_neg (by omega)]
  by_cases hz:(ovR x.k r).2.2=0
  ·simp only[if_pos hz]
  ·simp only[if_neg hz]
 refine vl_disp Fl m x _ _ _ (fun k1=>?_) (fun k3=>?_) (fun k4=>?_) (fun k2=>?_) (fun k5=>?_) (fun k6=>?_) (fun k7=>?_) (fun k8=>?_) (fun k9=>?_) (fun k10=>?_) (fun k11=>?_) (fun k18=>?_) (fun k19=>?_) (fun k20=>?_) (fun k12=>?_) (fun k13=>?_) (fun n1 n3 n4 n2 n5 n6 n7 n8 n9 n10 n11 n18 n19 n20 n12 n13=>?_)
 ·refine kv_ret ?_ (v50_1 (G:=G) Fl m x _ _)
  rw[ty0 (.inl k1),vlR_num,nuE_eq]
  unfold nuK
  rw[if_pos k1]
 ·refine kv_ret ?_ (v50_34 (G:=G) Fl m x _ _)
  rw[ty1 (.inl k3),vlR_tr,bvE_eq]
  unfold bvK
  rw[if_pos k3,k3];rfl
 ·refine kv_ret ?_ (v50_34 (G:=G) Fl m x _ _)
  rw[ty1 (.inr (.inl k4)),vlR_tr,bvE_eq]
  unfold bvK
  rw[if_neg (by omega),if_pos k4,k4];rfl
 ·refine v50_2 Fl m x _ _ hFl _ (fun k hk e=>?_) (fun hno=>?_)
  ·unfold kvR;rw[(hname k2).1 k hk e]
  ·unfold kvR;rw[(hname k2).2 hno]
 ·have hl:=one (.inl k5)
  refine kv_ret ?_ (v50_5 _ _ _ _ _ (by omega))
  rw[nuv (by omega),(a0 (.inl (by omega))).2 0 (by omega)]
  unfold opV
  rw[if_pos k5]
  show _=(({ ftK 0 with n:=if ok (r.getD 0 (0,0)).1 (r.getD 0 (0,0)).2=true then _ else _,d:=_ }:Ft),_)
  rw[if_pos (okr (.inl (by omega)) 0 (by omega))]
 ·have hl:=two (by omega)
  refine kv_ret ?_ (v50_6 _ _ _ _ _ (by omega))
  have e:ovR x.k r=addF (r.getD 0 (0,0)).1 (r.getD 0 (0,0)).2 (r.getD 1 (0,0)).1 (r.getD 1 (0,0)).2:=by
   unfold ovR ovF
   rw[if_pos k6]
  rw[opv (by omega),(a0 (.inl (by omega))).2 0 (by omega),(a0 (.inl (by omega))).2 1 (by omega),e]
 ·have hl:=two (by omega)
  refine kv_ret ?_ (v50_7 _ _ _ _ _ (by omega))
  have e:ovR x.k r=subF (r.getD 0 (0,0)).1 (r.getD 0 (0,0)).2 (r.getD 1 (0,0)).1 (r.getD 1 (0,0)).2:=by
   unfold ovR ovF
   rw[if_neg (by omega),if_pos k7]
  rw[opv (by omega),(a0 (.inl (by omega))).2 0 (by omega),(a0 (.inl (by omega))).2 1 (by omega),e]
 ·have hl:=two (by omega)
  refine kv_ret ?_ (v50_8 _ _ _ _ _ (by omega))
  have e:ovR x.k r=mulF (r.getD 0 (0,0)).1 (r.getD 0 (0,0)).2 (r.getD 1 (0,0)).1 (r.getD 1 (0,0)).2:=by
   unfold ovR ovF
   rw[if_neg (by omega),if_neg (by omega),if_pos k8]
  rw[opv (by omega),(a0 (.inl (by omega))).2 0 (by omega),(a0 (.inl (by omega))).2 1 (by omega),e]
 ·have hl:=two (by omega)
  refine kv_ret ?_ (v50_9 _ _ _ _ _ (by omega))
  have e:ovR x.k r=divF (r.getD 0 (0,0)).1 (r.getD 0 (0,0)).2 (r.getD 1 (0,0)).1 (r.getD 1 (0,0)).2:=by
   unfold ovR ovF
   rw[if_neg (by omega),if_neg (by omega),if_neg (by omega)]
  rw[opv (by omega),(a0 (.inl (by omega))).2 0 (by omega),(a0 (.inl (by omega))).2 1 (by omega),e]
 ·have hl:=snd_many (x:=x) hsn (.inl k10)
  refine kv_ret ?_ (v50_1011 _ _ _ _ _ (by omega) (by omega) (.inl k10))
  rw[nuv (by omega),k10,gK_min (r:=r) (fun i hi=>(a0 (.inl (by omega))).2 i (by omega)) (by omega) _ (by omega)]
  unfold opV
  rw[if_neg (by omega),if_neg (by omega),if_pos rfl,rlen]
 ·have hl:=snd_many (x:=x) hsn (.inr k11)
  refine kv_ret ?_ (v50_1011 _ _ _ _ _ (by omega) (by omega) (.inr k11))
  have hb:=bestK_lt r x.kids.length
  have hp:=bestK_pos (l:=r) (k:=x.kids.length) (by omega)
  rw[nuv (by omega),k11,gK_max (r:=r) (fun i hi=>(a0 (.inl (by omega))).2 i (by omega)) (fun i hi=>okr (.inl (by omega)) i (by omega)) _ (by omega) (by omega),(a0 (.inl (by omega))).2 _ (by omega)]
  unfold opV
  rw[if_neg (by omega),if_pos rfl]
  have:allO r=true:=by
   unfold allO
   rw[List.all_eq_true]
   intro p hp
   obtain ⟨i,hi,rfl⟩:=List.getElem_of_mem hp
   have:=okr (.inl (by omega)) i (by omega)
   rwa [List.getD,gEe hi] at this
  unfold bestL
  rw[if_pos this,rlen]
 ·have hl:=one (.inr k18)
  obtain ⟨b,hb,e⟩:=kv_tr ((ty_kids h2).2 (by omega) 0 (by omega)) (hall 0 (by omega))
  refine kv_ret ?_ (v50_18 _ _ _ _ _ (by omega))
  have e:vR F l ws x 0={ ftK 1 with tr:=b }:=e
  rw[ty1 (by omega),vlR_tr,bvE_eq,e]
  unfold bvK
  rw[if_neg (by omega),if_neg (by omega),if_neg (by omega),if_pos k18,bvL_get F _ 0 (by omega),hb]
 ·have hl:=two (by omega)
  obtain ⟨b,hb,e⟩:=kv_tr ((ty_kids h2).2 (by omega) 0 (by omega)) (hall 0 (by omega))
  obtain ⟨b',hb',e'⟩:=kv_tr ((ty_kids h2).2 (by omega) 1 (by omega)) (hall 1 (by omega))
  refine kv_ret ?_ (v50_1920 _ _ _ _ _ (by omega))
  have e':vR F l ws x 1={ ftK 1 with tr:=b' }:=e'
  have hsh:=hsh (by omega)
  rw[e] at hsh
  unfold shB at hsh
  rw[k19] at hsh
  have hbt:b=true:=by simpa using hsh
  subst hbt
  rw[ty1 (by omega),vlR_tr,bvE_eq,e']
  unfold bvK
  rw[if_neg (by omega),if_neg (by omega),if_neg (by omega),if_neg (by omega),if_pos k19,bvL_get F _ 0 (by omega),bvL_get F _ 1 (by omega),hb,hb']
  rfl
 ·have hl:=two (by omega)
  obtain ⟨b,hb,e⟩:=kv_tr ((ty_kids h2).2 (by omega) 0 (by omega)) (hall 0 (by omega))
  obtain ⟨b',hb',e'⟩:=kv_tr ((ty_kids h2).2 (by omega) 1 (by omega)) (hall 1 (by omega))
  refine kv_ret ?_ (v50_1920 _ _ _ _ _ (by omega))
  have e':vR F l ws x 1={ ftK 1 with tr:=b' }:=e'
  have hsh:=hsh (by omega)
  rw[e] at hsh
  unfold shB at hsh
  rw[k20] at hsh
  have hbt:b=false:=by simpa using hsh
  subst hbt
  rw[ty1 (by omega),vlR_tr,bvE_eq,e']
  unfold bvK
  rw[if_neg (by omega),if_neg (by omega),if_neg (by omega),if_neg (by omega),if_neg (by omega),if_pos k20,bvL_get F _ 0 (by omega),bvL_get F _ 1 (by omega),hb,hb']
  rfl
 ·have hl:=two (by omega)
  refine kv_ret ?_ (v50_12 _ _ _ _ _ (by omega))
  rw[ty1 (by omega),vlR_tr,bvE_eq]
  unfold bvK
  rw[if_neg (by omega),if_neg (by omega),if_neg (by omega),if_neg (by omega),if_neg (by omega),if_neg (by omega),if_pos k12,bvL_get F _ 0 (by omega),bvL_get F _ 1 (by omega),vl_same hF hK hx hsn h2 (.inl k12) hall]
 ·have hl:=two (by omega)
  refine kv_ret ?_ (v50_13 _ _ _ _ _ (by omega))
  rw[ty1 (by omega),vlR_tr,bvE_eq]
  unfold bvK
  rw[if_neg (by omega),if_neg (by omega),if_neg (by omega),if_neg (by omega),if_neg (by omega),if_neg (by omega),if_neg (by omega),if_pos k13,bvL_get F _ 0 (by omega),bvL_get F _ 1 (by omega),vl_same hF hK hx hsn h2 (.inr k13) hall]
 ·have hc:14≤x.k∧x.k≤17:=by omega
  have hl:=two (by omega)
  refine kv_ret ?_ (v50_cmp _ _ _ _ _ (by omega))
  obtain ⟨b1,b2⟩:=nuL_kid (a0 (.inr hc)).1
  have q0:=(a0 (.inr hc)).2 0 (by omega)
  have q1:=(a0 (.inr hc)).2 1 (by omega)
  obtain ⟨p,hp,e0⟩:=kv_num ((ty_kids h2).1 (.inr hc) 0 (by omega)) (hall 0 (by omega))
  obtain ⟨q,hq,e1⟩:=kv_num ((ty_kids h2).1 (.inr hc) 1 (by omega)) (hall 1 (by omega))
  have e0:vR F l ws x 0={ ftK 0 with n:=p.1,d:=p.2 }:=e0
  have e1:vR F l ws x 1={ ftK 0 with n:=q.1,d:=q.2 }:=e1
  rw[ty1 (by omega),vlR_tr,bvE_eq,e0,e1]
  unfold bvK
  rw[if_neg (by omega),if_neg (by omega),if_neg (by omega),if_neg (by omega),if_neg (by omega),if_neg (by omega),if_neg (by omega),if_neg (by omega)]
  unfold cvE
  rw[hp,hq]
  show (({ ftK 1 with tr:=if x.k=14 then decide (cmpF p.1 p.2 q.1 q.2<0) else if x.k=15 then decide (cmpF p.1 p.2 q.1 q.2≤0) else if x.k=16 then decide (cmpF p.1 p.2 q.1 q.2>0) else decide (cmpF p.1 p.2 q.1 q.2≥0) }:Ft),(0:Int))=(({ ftK 1 with tr:=cpB x.k (cmpF p.1 p.2 q.1 q.2) }:Ft),0)
  have:x.k=14∨x.k=15∨x.k=16∨x.k=17:=by omega
  unfold cpB
  rcases this with h|h|h|h<;>rw[h]<;>simp
theorem f50_typ {F:List Ft} {L:List Fc} (hF:F.length≤100000) (m:Nat) (x:Ex) (hx:ht x≤m) (hs:Sm x) (hv:vaF F L=true) (ht0:(typR L x).2.2=0) :
  FnOK Tryz.prog G 50 [exD m x,ftsD F] (.tup [ftD (vlR (revT F F.length) (typR L x).1 x).1,di (vlR (revT F F.length) (typR L x).1 x).2]):=by
 obtain ⟨_,hsn,hty,etyp⟩:=typ_sound ht0
 have ek:(typR L x).1=(tyW L x).1:=by rw[etyp]
 have:=f50 (G:=G) (fit_of hv) hF _ m x hx hs hsn hty
 rw[ek]
 exact this
theorem f13 (hT:Tab G) (F:List Ft) (L:List Fc) (h:∀i,i<L.length→FcS (L.getD i fc0)) (hl:L.length≤1000) (hF:F.length≤100000) (m:Nat) (x:Ex) (hx:ht x≤m) (hs:Sm x) :
  FnOK Tryz.prog G 13 [exD m x,ftsD F,fcsD L] (.tup [ftD (evR F L x).1,di (evR F L x).2]):=
 f13_at hT F L h hl hF m x hx hs fun hv ht0=>f50_typ hF m x hx hs hv ht0
def eqI (a b:List Int):Bool:=decide (a=b)
theorem ext0 {a b:List Int} (h:a.length=b.length) (hh:∀i,i<a.length→a.getD i 0=b.getD i 0):a=b:=by
 refine List.ext_getElem h fun i h1 h2=>?_
 have:=hh i h1
 rwa [List.getD,gEe h1,List.getD,gEe h2] at this
noncomputable def S40i (a b:List Int) (k:Nat):AS:=⟨regs Tryz.f40.ntmps [(0,.d (inD a)),(1,.d (inD b)),(12,vi a.length),(13,vi k)],[]⟩
theorem f40 (a b:List Int) (ha:a.length≤100000):FnOK Tryz.prog G 40 [inD a,inD b] (db (eqI a b)):=by
 unfold eqI
 refine FnOK.walkK (orc:=noO) (keep:=[]) follows Tryz.func40 rfl Tryz.call40 ?_
 refine of_tr (fun ZT ZW ZQ _=>(((((↑a.length:Int) != ↑b.length)=true)→(((db false):DV)=(db (decide (a=b)))))∧((((↑a.length:Int) != ↑b.length)=false)→ZW [cd Tryz.f40 [1,1,0,1,0],(.blk 0),cd Tryz.f40 [1,1,1]] (stS ZT [1]) ZQ))) (by kernel_rfl) ?_
 refine⟨fun hne=>?_,fun heq=>?_⟩
 ·rw[decide_eq_false]
  rintro rfl
  simp at hne
 have heq:a.length=b.length:=by
  have h0:(a.length:Int)=b.length:=by simpa using heq
  omega
 refine AWP.loop (c:=cAt (bodyOf Tryz.f40) [1,1,0,1,0,0]) (by kernel_rfl) (S40i a b) (fun k=>k≤a.length∧∀i,i<k→a.getD i 0=b.getD i 0) (fun k=>a.length-k) 0 ?_ ⟨Nat.zero_le _,fun i hi=>absurd hi (Nat.not_lt_zero _)⟩ ?_
 ·exact AS.leA (by kernel_rfl)
 ·rintro k ⟨hk,hkd⟩
  refine walkK (orc:=noO) (keep:=[]) (cuts:=[]) (n:=1000) follows ?_
  refine of_rd (fun ZT ZW ZQ _ ZA _=>((((decide ((↑k:Int)<↑a.length))=true)→((((0≤(↑k:Int))∧((↑k:Int)<↑a.length))∧(0≤(↑k:Int))∧((↑k:Int)<↑b.length))∧(((a.getD (↑k:Int).toNat 0 != b.getD (↑k:Int).toNat 0)=true)→(((db false):DV)=(db (decide (a=b)))))∧(((a.getD (↑k:Int).toNat 0 != b.getD (↑k:Int).toNat 0)=false)→((I64 (↑k+1))∧(ZA (stS ZT [0,1]))))))∧(((decide ((↑k:Int)<↑a.length))=false)→ZW [cd Tryz.f40 [1,1,1]] (stS ZT [1]) ZQ))) (by kernel_rfl) ?_
  simp only[iTn]
  refine⟨fun h=>?_,fun h=>?_⟩
  ·have hk2:k<a.length:=by have:=oDt h;omega
   refine⟨⟨⟨by omega,by omega⟩,⟨by omega,by omega⟩⟩,fun h2=>?_,fun h2=>⟨⟨by omega,by omega⟩,Again.mk (k+1) ?_ ⟨hk2,fun i hi=>?_⟩ (by omega)⟩⟩
   ·rw[decide_eq_false]
    rintro rfl
    exact absurd rfl (bne_iff_ne.1 h2)
   ·exact AS.leA (by kernel_rfl)
   ·rcases Nat.lt_or_ge i k with h4|h4
    ·exact hkd i h4
    ·obtain rfl:i=k:=by omega
     exact Classical.not_not.1 fun hh=>by rw[bne_iff_ne.2 hh] at h2;cases h2
  ·simp only[decide_eq_false_iff_not] at h
   refine walkK (orc:=noO) (keep:=[]) (cuts:=[]) (n:=1000) follows ?_
   refine of_tr (fun _ _ _ _=>(((db true):DV)=(db (decide (a=b))))) (by kernel_rfl) ?_
   rw[decide_eq_true (ext0 heq fun i hi=>hkd i (by omega))]
/-! The examples of the chapter. -/
abbrev sPassed:ByteArray:=⟨#[112,97,115,115,101,100]⟩
abbrev sTests:ByteArray:=⟨#[116,101,115,116,115]⟩
abbrev sP:ByteArray:=⟨#[112]⟩
abbrev sQ:ByteArray:=⟨#[113]⟩
abbrev nX (k:Int) (l:List Ex):Ex:=.mk k .empty 0 0 0 l
abbrev qX (n:Int):Ex:=.mk 1 .empty n 1 0 []
abbrev vX (s:ByteArray):Ex:=.mk 2 s 0 0 0 []
def xA2:Ex:=nX 9 [nX 8 [qX 40,vX sPassed],vX sTests]
def xO2:Ex:=nX 20 [vX sP,vX sQ]
def xD2:Ex:=nX 19 [vX sP,vX sQ]
def L0:List Fc:=[⟨sPassed,0,0,1,9,1,[]⟩,⟨sTests,0,0,1,9,1,[]⟩,⟨sP,1,0,0,0,0,[]⟩,⟨sQ,1,0,0,0,0,[]⟩]
def F0 (n:Int):List Ft:=[⟨sPassed,0,3,1,false,.empty⟩,⟨sTests,0,n,1,false,.empty⟩,⟨sP,1,0,0,true,.empty⟩,⟨sQ,1,0,0,false,.empty⟩]
theorem ev_A:evR (F0 4) L0 xA2=(⟨.empty,0,30,1,false,.empty⟩,0):=by kernel_rfl
theorem ev_B:evR (F0 0) L0 xA2=(ft0,2):=by kernel_rfl
theorem ty_O:typR L0 xO2=(1,0,0):=by kernel_rfl
theorem ty_N:typR L0 xD2=(1,0,0):=by kernel_rfl
theorem va_4:vaF (F0 4) L0=true:=by kernel_rfl
theorem bv_O:bvE (revT (F0 4) 4) xO2=some true:=by kernel_rfl
theorem bv_N:bvE (revT (F0 4) 4) xD2=some false:=by kernel_rfl
theorem bv_P:bvE (revT (F0 4) 4) (vX sP)=some true:=by kernel_rfl
theorem leaf_rel {k:IH} {c:Int} {s:ByteArray} {n d:Int} {m:Nat} {v:Value} (h:DV.rel k (.agg [di c,ds s,di n,di d,di 0,.con (.slice none 0 0)]) v):DV.rel k (exD m (.mk c s n d 0 [])) v:=by
 obtain ⟨us,rfl,a,u1,rfl,ha,b,u2,rfl,hb,c,u3,rfl,hc,d,u4,rfl,hd,e,u5,rfl,he,f,u6,rfl,hf,h0⟩:=h
 exact⟨_,rfl,a,_,rfl,ha,b,_,rfl,hb,c,_,rfl,hc,d,_,rfl,hd,e,_,rfl,he,f,_,rfl,nil_slc hf,h0⟩
theorem two_rel' {k:IH} {c:Int} {m:Nat} {a b:Ex} {f:Nat→DV} {v:Value} (ha:∀v,DV.rel k (f 0) v→DV.rel k (exD m a) v) (hb:∀v,DV.rel k (f 1) v→DV.rel k (exD m b) v)
  (h:DV.rel k (.agg [di c,ds .empty,di 0,di 0,di 0,.slc 6 2 f]) v):DV.rel k (exD (m+1) (nX c [a,b])) v:=by
 obtain ⟨us,rfl,x1,u1,rfl,h1,x2,u2,rfl,h2,x3,u3,rfl,h3,x4,u4,rfl,h4,x5,u5,rfl,h5,x6,u6,rfl,h6,h0⟩:=h
 refine⟨_,rfl,x1,_,rfl,h1,x2,_,rfl,h2,x3,_,rfl,h3,x4,_,rfl,h4,x5,_,rfl,h5,x6,_,rfl,?_,h0⟩
 refine rel_slc_imp (n:=2) (f:=f) (fun i hi v hv=>?_) h6
 rcases i with _|_|i
 ·exact ha v hv
 ·exact hb v hv
 ·omega
def mkX (k:Int) (s:ByteArray) (n d:Int):DV:=.agg [di k,ds s,di n,di d,di 0,.con (.slice none 0 0)]
theorem f36 (n:Int):FnOK Tryz.prog G 36 [di n] (fr n 1):=by
 refine FnOK.walkK (orc:=noO) (keep:=[]) follows Tryz.func36 rfl Tryz.call36 ?_
 refine of_tr (fun _ _ _ _=>(ZS ((fr n 1):DV))) (by kernel_rfl) ?_
 rfl
theorem f38 (n:Int):FnOK Tryz.prog G 38 [di n] (mkX 1 .empty n 1):=by
 refine FnOK.walkK (orc:=noO) (keep:=[]) follows Tryz.func38 rfl Tryz.call38 ?_
 refine of_tr (fun _ _ _ _=>(((.agg [(di 1),(ds (ByteArray.mk #[])),(di n),(di 1),(di 0),(.con (.slice none 0 0))]):DV)=(mkX 1 ByteArray.empty n 1))) (by kernel_rfl) ?_
 rfl
theorem f39 (s:ByteArray):FnOK Tryz.prog G 39 [ds s] (mkX 2 s 0 0):=by
 refine FnOK.walkK (orc:=noO) (keep:=[]) follows Tryz.func39 rfl Tryz.call39 ?_
 refine of_tr (fun _ _ _ _=>(((.agg [(di 2),(ds s),(di 0),(di 0),(di 0),(.con (.slice none 0 0))]):DV)=(mkX 2 s 0 0))) (by kernel_rfl) ?_
 rfl
theorem f37 (k:Int) (g:Nat→DV) (n:Nat):FnOK Tryz.prog G 37 [di k,.slc 6 n g] (.agg [di k,ds .empty,di 0,di 0,di 0,.slc 6 n g]):=by
 refine FnOK.walkK (orc:=noO) (keep:=[]) follows Tryz.func37 rfl Tryz.call37 ?_
 refine of_tr (fun _ _ _ _=>(((.agg [(di k),(ds (ByteArray.mk #[])),(di 0),(di 0),(di 0),(.slc 6 n g)]):DV)=(.agg [(di k),(ds ByteArray.empty),(di 0),(di 0),(di 0),(.slc 6 n g)]))) (by kernel_rfl) ?_
 rfl
def nOf (d:DV):Int:=match d with | .agg (_ :: _ :: .con (.int _ k) :: _)=>k|_=>0
noncomputable def d10:Oracle:=fun f a=>match f,a with
 | 36,[.con (.int .i64 n)]=>some (fr n 1)
 | 38,[.con (.int .i64 n)]=>some (mkX 1 .empty n 1)
 | 39,[.con (.string s)]=>some (mkX 2 s 0 0)
 | 37,[.con (.int .i64 k),w]=>some (.agg [di k,ds .empty,di 0,di 0,di 0,w])
 | 12,[_,.slc _ _ g,_]=>match nOf (g 1) with
  | 4=>some (.tup [.agg [ds .empty,di 0,di 30,di 1,db false,ds .empty],di 0])
  | _=>some (.tup [ftD ft0,di 2])
 | 40,[_,_]=>some (db true)
 | _,_=>none
noncomputable def m10:FuncId→List AV→List (Nat×List AV)→Option (AV×List (Nat×List AV)):=fun f a pre=>match f,a with
 | 19,[.d (.agg (.con (.int .i64 k) :: _)),_,_]=>match k with
  | 20=>some (.tup [.vec 900 1 0 1,vi 0],pre++[rwI [0]])
  | _=>some (.tup [.vec 900 1 0 1,vi 0],pre++[rwI [1]])
 | _,_=>none
noncomputable def orc10:Orc:={ d:=d10,m:=m10,rows:=fun _=>true,ro:=fun f=>Nat.beq f 19 }
theorem fcs0:∀i,i<L0.length→FcS (L0.getD i fc0):=by
 intro i hi
 have hi:i<4:=hi
 rcases i with _|_|_|_|i
 ·exact⟨by decide,by decide,fun j hj=>absurd hj (Nat.not_lt_zero _)⟩
 ·exact⟨by decide,by decide,fun j hj=>absurd hj (Nat.not_lt_zero _)⟩
 ·exact⟨by decide,by decide,fun j hj=>absurd hj (Nat.not_lt_zero _)⟩
 ·exact⟨by decide,by decide,fun j hj=>absurd hj (Nat.not_lt_zero _)⟩
 ·omega
theorem g12 (hT:Tab G) {n:Int} {x:Ex} {m:Nat} {d r:DV} {f g:Nat→DV} (hx:ht x≤m) (hs:Sm x) (hd:∀k v,DV.rel k d v→DV.rel k (exD m x) v) (hf:∀k i,i<4→∀v,DV.rel k (f i) v→DV.rel k (ftF (F0 n) i) v) (hg:∀k i,i<4→∀v,DV.rel k (g i) v→DV.rel k (fcF L0 i) v)
  (hr:DV.tup [ftD (evR (F0 n) L0 x).1,di (evR (F0 n) L0 x).2]=r):FnOK Tryz.prog G 12 [d,.slc 6 4 f,.slc 7 4 g] r:=by
 subst hr
 exact(f12 hT (F0 n) L0 fcs0 (by decide) (by show 4≤100000;decide) m x hx hs).args fun k us h=>DV.rels_cons (hd k) (DV.rels_cons (fun v hv=>rel_slc_imp (hf k) hv) (DV.rels_cons (fun v hv=>rel_slc_imp (hg k) hv) fun _ h=>h)) us h
theorem look2 {a b:List AV} {s:Nat} {l:List AV} (h:Go.Ab.look [(1000000,a),(1000001,b)] s=some l):(s=1000000∧l=a)∨(s=1000001∧l=b):=by
 simp only[Go.Ab.look] at h
 cases h1:Nat.beq 1000000 s with
 | true=>
  rw[h1] at h
  exact .inl ⟨(Nat.eq_of_beq_eq_true h1).symm,(Option.some.inj h).symm⟩
 | false=>
  rw[h1] at h
  cases h2:Nat.beq 1000001 s with
  | true=>
   rw[h2] at h
   exact .inr ⟨(Nat.eq_of_beq_eq_true h2).symm,(Option.some.inj h).symm⟩
  | false=>rw[h2] at h;cases h
theorem look1 {u:Nat} {a:List AV} {s:Nat} {l:List AV} (h:Go.Ab.look [(u,a)] s=some l):s=u∧l=a:=by
 simp only[Go.Ab.look] at h
 cases h1:Nat.beq u s with
 | true=>
  rw[h1] at h
  exact⟨(Nat.eq_of_beq_eq_true h1).symm,(Option.some.inj h).symm⟩
 | false=>rw[h1] at h;cases h
theorem sm2 {k:Int} {s t:ByteArray} (h:s.size≤1000∧t.size≤1000):Sm (nX k [vX s,vX t]):=⟨by simp[nds,ndsL],by simp[txE,txL];exact h⟩
theorem g19 {n:Int} {x:Ex} {m:Nat} {d:DV} {f g:Nat→DV} {k1 k2:RK} (l:List Int) (hd:∀k v,DV.rel k d v→DV.rel k (exD m x) v) (hf:∀k i,i<4→∀v,DV.rel k (f (0+i)) v→DV.rel k (ftF (F0 n) i) v) (hg:∀k i,i<4→∀v,DV.rel k (g (0+i)) v→DV.rel k (fcF L0 i) v)
  (h1:FnM Tryz.prog G 19 [.d (exD m x),.d (ftsD (F0 n)),.d (fcsD L0)] [] (.tup [.vec 900 1 0 l.length,vi 0]) [rwI l]):FnM Tryz.prog G 19 [.d d,.vec 1000000 6 0 4,.vec 1000001 7 0 4] [(1000000,[.arr k1 6 f]),(1000001,[.arr k2 7 g])] (.tup [.vec 900 1 0 l.length,vi 0]) ([(1000000,[.arr k1 6 f]),(1000001,[.arr k2 7 g])]++[rwI l]):=by
 refine FnM.lend (xs:=[d,.slc 6 4 (fun i=>f (0+i)),.slc 7 4 (fun i=>g (0+i))]) (ss:=[1000000,1000001]) (FnM.argsD (xs':=[exD m x,ftsD (F0 n),fcsD L0]) h1 fun k us h=>DV.rels_cons (hd k) (DV.rels_cons (fun v hv=>rel_slc_imp (hf k) hv) (DV.rels_cons (fun v hv=>rel_slc_imp (hg k) hv) fun _ h=>h)) us h) rfl rfl (fun s hs=>?_) (fun s l' hl=>?_) rfl fun s l' hl=>?_
 ·rcases List.mem_cons.1 hs with rfl|hs
  ·exact⟨_,_,_,rfl⟩
  ·obtain rfl:=List.mem_singleton.1 hs
   exact⟨_,_,_,rfl⟩
 ·rcases look2 hl with ⟨rfl,rfl⟩|⟨rfl,rfl⟩
  ·exact⟨by decide,_,_,_,rfl⟩
  ·exact⟨by decide,_,_,_,rfl⟩
 ·obtain ⟨rfl,rfl⟩:=look1 hl
  exact⟨by decide,_,_,_,rfl,fun i=>rfl⟩
theorem g60 {s:ByteArray} (F:List Ft) (i:Nat) (n:Int):FnM Tryz.prog G 60 [.d (evD F),.d (exD i (vX s)),.d (di n)] [] (.vec 900 1 0 1) [(900,[.arr inRK 1 (rowI [n])])]:=rs_out F i (vX s) n (Nat.zero_le _) rfl
theorem r19 (hT:Tab G):FnM Tryz.prog G 19 [.d (exD 1 xO2),.d (ftsD (F0 4)),.d (fcsD L0)] [] (.tup [.vec 900 1 0 1,vi 0]) [rwI [0]]∧FnM Tryz.prog G 19 [.d (exD 1 xD2),.d (ftsD (F0 4)),.d (fcsD L0)] [] (.tup [.vec 900 1 0 1,vi 0]) [rwI [1]]:=by
 have hfit:=fit_of va_4
 have hO:ht xO2≤1:=by simp[xO2,ht,htL]
 have hN:ht xD2≤1:=by simp[xD2,ht,htL]
 have sO:Sm xO2:=sm2 (by decide)
 have sN:Sm xD2:=sm2 (by decide)
 have nO:nds xO2=3:=by simp[xO2,nds,ndsL]
 have nN:nds xD2=3:=by simp[xD2,nds,ndsL]
 have yO:=typ_sound (L:=L0) (x:=xO2) (by rw[ty_O])
 have yN:=typ_sound (L:=L0) (x:=xD2) (by rw[ty_N])
 have kO:(tyW L0 xO2).1=1:=by have:=yO.2.2.2;rw[ty_O] at this;exact(congrArg (·.1) this).symm
 have kN:(tyW L0 xD2).1=1:=by have:=yN.2.2.2;rw[ty_N] at this;exact(congrArg (·.1) this).symm
 have bO:=(f47 (G:=G) hfit.fam hfit.knf 1 xO2 hO sO yO.2.1 yO.2.2.1 kO).1 true bv_O
 have bN:=(f47 (G:=G) hfit.fam hfit.knf 1 xD2 hN sN yN.2.1 yN.2.2.1 kN).1 false bv_N
 have sP1:Sm (vX sP):=sO.kid (i:=0) (by decide)
 have bP:=(f47 (G:=G) hfit.fam hfit.knf 0 (vX sP) (Nat.zero_le _) sP1 (snd_kid (i:=0) yO.2.1 (by decide)) ((tyE_fine yO.2.2.1).1 0 (by decide)) ((ty_kids yO.2.2.1).2 (by decide) 0 (by decide))).1 true bv_P
 have a1:=f56_leaf (G:=G) 1 0 (vX sP) (Nat.zero_le _) (Nat.zero_le _) rfl
 constructor
 ·exact f19_ok hT (F0 4) L0 fcs0 (by decide) (by show 4≤100000;decide) 1 xO2 hO sO va_4 (by rw[ty_O]) (by rw[ty_O]) [0] (f44_ok (f59_at (rs_left (revT (F0 4) 4) 1 xO2 0 hO sO rfl (.inr rfl) (by rw[nO];decide) bv_O bO true bv_P rfl rfl [0] (rsE_out rfl 0) a1 bP (g60 _ 0 0)))) (f44_ok (f61_ok bO))
 ·exact f19_ok hT (F0 4) L0 fcs0 (by decide) (by show 4≤100000;decide) 1 xD2 hN sN va_4 (by rw[ty_N]) (by rw[ty_N]) [1] (f44_ok (f59_at (rs_right (revT (F0 4) 4) 1 xD2 0 hN sN rfl (.inl rfl) (by rw[nN];decide) bv_N bN true bv_P rfl (by decide) [1] (rsE_out rfl 1) a1 bP (g60 _ 0 1)))) (f44_ok (f61_ok bN))
theorem g40 {f g:Nat→DV} (c:Int) (hf:∀i,i<1→f i=di c) (hg:∀i,i<1→g i=di c):FnOK Tryz.prog G 40 [.slc 1 1 f,.slc 1 1 g] (db true):=by
 have h:=f40 (G:=G) [c] [c] (by show 1≤100000;decide)
 rw[show eqI [c] [c]=true from decide_eq_true rfl] at h
 refine h.args fun k us h=>DV.rels_cons (fun v hv=>rel_slc_imp (n:=1) (fun i hi v hv=>?_) hv) (DV.rels_cons (fun v hv=>rel_slc_imp (n:=1) (fun i hi v hv=>?_) hv) fun _ h=>h) us h
 ·rw[hf i hi] at hv;obtain rfl:i=0:=by omega
  exact hv
 ·rw[hg i hi] at hv;obtain rfl:i=0:=by omega
  exact hv
theorem smA2:Sm xA2:=⟨by simp[xA2,nds,ndsL],by simp[xA2,txE,txL];decide⟩
theorem f10 (hT:Tab G):FnOK Tryz.prog G 10 [] (db true):=by
 refine FnOK.walkK (orc:=orc10) (keep:=[]) follows Tryz.func10 rfl Tryz.call10 ?_
 refine of_tr (fun _ _ _ ZK=>(fun Za Zb Zc Zd Ze Zf Zg Zh Zi=>((ZK 36 [(di 9)] (.agg [(di 9),(di 1)])∧ZK 36 [(di 0)] (.agg [(di 0),(di 1)])∧ZK 36 [(di 9)] (.agg [(di 9),(di 1)])∧ZK 36 [(di 0)] (.agg [(di 0),(di 1)]))∧(ZK 36 [(di 3)] (.agg [(di 3),(di 1)])∧ZK 36 [(di 4)] (.agg [(di 4),(di 1)]))∧(ZK 38 [(di 40)] (.agg [(di 1),(ds ByteArray.empty),(di 40),(di 1),(di 0),(.con (.slice none 0 0))])∧ZK 39 [(ds Zi)] (.agg [(di 2),(ds Zi),(di 0),(di 0),(di 0),(.con (.slice none 0 0))])∧ZK 37 [(di 8),Zg] (.agg [(di 8),(ds ByteArray.empty),(di 0),(di 0),(di 0),Zg])∧ZK 39 [(ds (ByteArray.mk #[116,101,115,116,115]))] (.agg [(di 2),(ds (ByteArray.mk #[116,101,115,116,115])),(di 0),(di 0),(di 0),(.con (.slice none 0 0))])∧ZK 37 [(di 9),Zc] (.agg [(di 9),(ds ByteArray.empty),(di 0),(di 0),(di 0),Zc]))∧ZK 12 [(.agg [(di 9),(ds ByteArray.empty),(di 0),(di 0),(di 0),Zc]),(.slc 6 4 (fun i=>elemF true 6 [ds Zi,di 0,di 3,di 1,DV.con (Value.bool false),DV.con Zh,ds (ByteArray.mk #[116,101,115,116,115]),di 0,di 4,di 1,DV.con (Value.bool false),DV.con Zh,ds (ByteArray.mk #[112]),di 1,di 0,di 0,DV.con (Value.bool true),DV.con Zh,ds (ByteArray.mk #[113]),di 1,di 0,di 0,DV.con (Value.bool false),DV.con Zh] (0+i))),Ze] (.tup [(.agg [(ds ByteArray.empty),(di 0),(di 30),(di 1),(db false),(ds ByteArray.empty)]),(di 0)])∧(ZK 39 [(ds (ByteArray.mk #[112]))] (.agg [(di 2),(ds (ByteArray.mk #[112])),(di 0),(di 0),(di 0),(.con (.slice none 0 0))])∧ZK 39 [(ds (ByteArray.mk #[113]))] (.agg [(di 2),(ds (ByteArray.mk #[113])),(di 0),(di 0),(di 0),(.con (.slice none 0 0))])∧ZK 37 [(di 20),Zd] (.agg [(di 20),(ds ByteArray.empty),(di 0),(di 0),(di 0),Zd])∧FnM Tryz.prog G 19 [(.d (.agg [(di 20),(ds ByteArray.empty),(di 0),(di 0),(di 0),Zd])),(.vec 1000000 6 0 4),(.vec 1000001 7 0 4)] [(1000000,[Zb]),(1000001,[Za])] (.tup [(.vec 900 1 0 1),(vi 0)]) [(1000000,[Zb]),(1000001,[Za]),(900,[(.arr ⟨false,3,false,none⟩ 1 (rowI [0]))])]∧([Zb]:(List AV))=[Zb]∧([Za]:(List AV))=[Za])∧(ZK 39 [(ds (ByteArray.mk #[112]))] (.agg [(di 2),(ds (ByteArray.mk #[112])),(di 0),(di 0),(di 0),(.con (.slice none 0 0))])∧ZK 39 [(ds (ByteArray.mk #[113]))] (.agg [(di 2),(ds (ByteArray.mk #[113])),(di 0),(di 0),(di 0),(.con (.slice none 0 0))])∧ZK 37 [(di 19),Zd] (.agg [(di 19),(ds ByteArray.empty),(di 0),(di 0),(di 0),Zd])∧FnM Tryz.prog G 19 [(.d (.agg [(di 19),(ds ByteArray.empty),(di 0),(di 0),(di 0),Zd])),(.vec 1000000 6 0 4),(.vec 1000001 7 0 4)] [(1000000,[Zb]),(1000001,[Za])] (.tup [(.vec 900 1 0 1),(vi 0)]) [(1000000,[Zb]),(1000001,[Za]),(900,[(.arr ⟨false,3,false,none⟩ 1 (rowI [1]))])]∧([Zb]:(List AV))=[Zb]∧([Za]:(List AV))=[Za])∧(ZK 36 [(di 0)] (.agg [(di 0),(di 1)])∧((0:Int)≤(1:Int))∧(1<(↑4:Int)))∧ZK 12 [(.agg [(di 9),(ds ByteArray.empty),(di 0),(di 0),(di 0),Zc]),(.slc 6 4 (fun i=>bif (0+i).beq (0+Int.toNat 1) then DV.agg (List.take (0+2) Zf++[di 0,di 1]++List.drop (0+2+2) Zf) else elemF true 6 [ds Zi,di 0,di 3,di 1,DV.con (Value.bool false),DV.con Zh,ds (ByteArray.mk #[116,101,115,116,115]),di 0,di 4,di 1,DV.con (Value.bool false),DV.con Zh,ds (ByteArray.mk #[112]),di 1,di 0,di 0,DV.con (Value.bool true),DV.con Zh,ds (ByteArray.mk #[113]),di 1,di 0,di 0,DV.con (Value.bool false),DV.con Zh] (0+i))),Ze] (.tup [(.agg [(ds ByteArray.empty),(di 0),(di 0),(di 0),(db false),(ds ByteArray.empty)]),(di 2)])∧(((true=true)→ZK 36 [(di 30)] (.agg [(di 30),(di 1)]))∧((true=true)→ZK 40 [(.slc 1 1 (fun i=>rowI [0] (0+i))),(.slc 1 1 (fun i=>elemF false 1 [di 0] (0+i)))] (db true))∧((true=true)→ZK 40 [(.slc 1 1 (fun i=>rowI [1] (0+i))),(.slc 1 1 (fun i=>elemF false 1 [di 1] (0+i)))] (db true)))∧(ZS ((db true):DV)))) ((.arr ⟨true,73,false,none⟩ 7 (elemF true 7 [(ds (ByteArray.mk #[112,97,115,115,101,100])),(di 0),(di 0),(di 1),(di 9),(di 1),(.con (.slice none 0 0)),(ds (ByteArray.mk #[116,101,115,116,115])),(di 0),(di 0),(di 1),(di 9),(di 1),(.con (.slice none 0 0)),(ds (ByteArray.mk #[112])),(di 1),(di 0),(di 0),(di 0),(di 0),(.con (.slice none 0 0)),(ds (ByteArray.mk #[113])),(di 1),(di 0),(di 0),(di 0),(di 0),(.con (.slice none 0 0))])):AV) ((.arr ⟨true,32,false,none⟩ 6 (elemF true 6 [(ds (ByteArray.mk #[112,97,115,115,101,100])),(di 0),(di 3),(di 1),(db false),(ds (ByteArray.mk #[])),(ds (ByteArray.mk #[116,101,115,116,115])),(di 0),(di 4),(di 1),(db false),(ds (ByteArray.mk #[])),(ds (ByteArray.mk #[112])),(di 1),(di 0),(di 0),(db true),(ds (ByteArray.mk #[])),(ds (ByteArray.mk #[113])),(di 1),(di 0),(di 0),(db false),(ds (ByteArray.mk #[]))])):AV) ((.slc 6 2 (fun i=>elemF true 6 [di 8,ds ByteArray.empty,di 0,di 0,di 0,DV.slc 6 2 fun i=>elemF true 6 [di 1,ds ByteArray.empty,di 40,di 1,di 0,DV.con (Value.slice none 0 0),di 2,ds (ByteArray.mk #[112,97,115,115,101,100]),di 0,di 0,di 0,DV.con (Value.slice none 0 0)] (0+i),di 2,ds (ByteArray.mk #[116,101,115,116,115]),di 0,di 0,di 0,DV.con (Value.slice none 0 0)] (0+i))):DV) ((.slc 6 2 (fun i=>elemF true 6 [di 2,ds (ByteArray.mk #[112]),di 0,di 0,di 0,DV.con (Value.slice none 0 0),di 2,ds (ByteArray.mk #[113]),di 0,di 0,di 0,DV.con (Value.slice none 0 0)] (0+i))):DV) ((.slc 7 4 (fun i=>elemF true 7 [ds (ByteArray.mk #[112,97,115,115,101,100]),di 0,di 0,di 1,di 9,di 1,DV.con (Value.slice none 0 0),ds (ByteArray.mk #[116,101,115,116,115]),di 0,di 0,di 1,di 9,di 1,DV.con (Value.slice none 0 0),ds (ByteArray.mk #[112]),di 1,di 0,di 0,di 0,di 0,DV.con (Value.slice none 0 0),ds (ByteArray.mk #[113]),di 1,di 0,di 0,di 0,di 0,DV.con (Value.slice none 0 0)] (0+i))):DV) (List.take 6 (List.drop ((0+Int.toNat 1)*6) [ds (ByteArray.mk #[112,97,115,115,101,100]),di 0,di 3,di 1,DV.con (Value.bool false),ds (ByteArray.mk #[]),ds (ByteArray.mk #[116,101,115,116,115]),di 0,di 4,di 1,DV.con (Value.bool false),ds (ByteArray.mk #[]),ds (ByteArray.mk #[112]),di 1,di 0,di 0,DV.con (Value.bool true),ds (ByteArray.mk #[]),ds (ByteArray.mk #[113]),di 1,di 0,di 0,DV.con (Value.bool false),ds (ByteArray.mk #[])])) ((.slc 6 2 (fun i=>elemF true 6 [di 1,ds ByteArray.empty,di 40,di 1,di 0,DV.con (Value.slice none 0 0),di 2,ds (ByteArray.mk #[112,97,115,115,101,100]),di 0,di 0,di 0,DV.con (Value.slice none 0 0)] (0+i))):DV) (Value.string (ByteArray.mk #[])) (ByteArray.mk #[112,97,115,115,101,100])) (by kernel_rfl) ?_
 repeat' (first|(with_reducible refine And.intro ?_ ?_)|(with_reducible intro _))
 case refine_2.refine_2.refine_2.refine_1=>
  refine g12 hT (n:=4) (x:=xA2) (m:=2) (by simp[xA2,ht,htL]) smA2 (fun k v=>?_) (fun k i hi v hv=>?_) (fun k i hi v hv=>?_) ?_
  ·exact two_rel' (fun v=>two_rel' (fun v=>leaf_rel) (fun v=>leaf_rel)) (fun v=>leaf_rel)
  ·rcases i with _|_|_|_|i
   ·exact hv
   ·exact hv
   ·exact hv
   ·exact hv
   ·omega
  ·rcases i with _|_|_|_|i
   ·exact fc_nil hv
   ·exact fc_nil hv
   ·exact fc_nil hv
   ·exact fc_nil hv
   ·omega
  ·rw[ev_A]
 case refine_2.refine_2.refine_2.refine_2.refine_2.refine_2.refine_2.refine_1=>
  refine g12 hT (n:=0) (x:=xA2) (m:=2) (by simp[xA2,ht,htL]) smA2 (fun k v=>?_) (fun k i hi v hv=>?_) (fun k i hi v hv=>?_) ?_
  ·exact two_rel' (fun v=>two_rel' (fun v=>leaf_rel) (fun v=>leaf_rel)) (fun v=>leaf_rel)
  ·rcases i with _|_|_|_|i
   ·exact hv
   ·exact hv
   ·exact hv
   ·exact hv
   ·omega
  ·rcases i with _|_|_|_|i
   ·exact fc_nil hv
   ·exact fc_nil hv
   ·exact fc_nil hv
   ·exact fc_nil hv
   ·omega
  ·rw[ev_B]
 all_goals first
  | exact f36 _
  | exact f38 _
  | exact f39 _
  | exact f37 _ _ _
  | exact g19 (n:=4) (x:=xO2) (m:=1) [0] (fun k v=>two_rel' (fun v=>leaf_rel) (fun v=>leaf_rel)) (fun k i hi v hv=>(by rcases i with _|_|_|_|i<;>first|exact hv|omega)) (fun k i hi v hv=>(by rcases i with _|_|_|_|i<;>first|exact fc_nil hv|omega)) (r19 hT).1
  | exact g19 (n:=4) (x:=xD2) (m:=1) [1] (fun k v=>two_rel' (fun v=>leaf_rel) (fun v=>leaf_rel)) (fun k i hi v hv=>(by rcases i with _|_|_|_|i<;>first|exact hv|omega)) (fun k i hi v hv=>(by rcases i with _|_|_|_|i<;>first|exact fc_nil hv|omega)) (r19 hT).2
  | exact g40 0 (fun i hi=>(by obtain rfl:i=0:=(by omega);rfl)) (fun i hi=>(by obtain rfl:i=0:=(by omega);rfl))
  | exact g40 1 (fun i hi=>(by obtain rfl:i=0:=(by omega);rfl)) (fun i hi=>(by obtain rfl:i=0:=(by omega);rfl))
  | rfl
  | decide
  | trivial
def smT (f:Ft):Bool:=decide (f.nm.size≤40)&&decide (f.wd.size≤40)
def fewT (F:List Ft):Bool:=F.all smT&&decide (F.length≤16)
noncomputable def S28n (F:List Ft) (k:Nat):AS:=⟨regs Tryz.f28.ntmps [(0,.d (ftsD F)),(3,vi k)],[]⟩
theorem f28 (F:List Ft) (hl:F.length≤9223372036854775807):FnOK Tryz.prog G 28 [ftsD F] (db (fewT F)):=by
 unfold fewT
 refine FnOK.walkK (orc:=noO) (keep:=[]) follows Tryz.func28 rfl Tryz.call28 ?_
 refine of_tr (fun ZT ZW ZQ _=>ZW [cd Tryz.f28 [1,0,1,0],(.blk 0),cd Tryz.f28 [1,1]] (stS ZT []) ZQ) (by kernel_rfl) ?_
 refine AWP.loop (c:=cAt (bodyOf Tryz.f28) [1,0,1,0,0]) (by kernel_rfl) (S28n F) (fun k=>k≤F.length∧∀i,i<k→smT (F.getD i ft0)=true) (fun k=>F.length-k) 0 ?_ ⟨Nat.zero_le _,fun i hi=>absurd hi (Nat.not_lt_zero _)⟩ ?_
 ·exact AS.leA (by kernel_rfl)
 ·rintro k ⟨hk,hkd⟩
  by_cases hk2:k<F.length
  ·refine walkK (orc:=noO) (keep:=[]) (cuts:=[]) (n:=1000) follows ?_
   refine of_rd (fun ZT ZW ZQ _ ZA _=>(fun Za=>((((decide ((↑k:Int)<↑F.length))=true)→((((0≤(↑k:Int))∧((↑k:Int)<↑F.length))∧(((!decide ((↑(F.getD (↑k:Int).toNat ft0).nm.size:Int)>40))=true)→((0≤(↑k:Int))∧((↑k:Int)<↑F.length))))∧((Za=true)→(((db false):DV)=(db (F.all smT&&decide (F.length≤16)))))∧((Za=false)→((I64 (↑k+1))∧(ZA (stS ZT [0,1]))))))∧(((decide ((↑k:Int)<↑F.length))=false)→ZW [cd Tryz.f28 [1,1]] (stS ZT [1]) ZQ))) (decide ((↑(F.getD (↑k:Int).toNat ft0).nm.size:Int)>40)||decide ((↑(F.getD (↑k:Int).toNat ft0).wd.size:Int)>40))) (by kernel_rfl) ?_
   simp only[iTn]
   refine⟨fun _=>⟨⟨⟨by omega,by omega⟩,fun _=>⟨by omega,by omega⟩⟩,fun h=>?_,fun h=>⟨⟨by omega,by omega⟩,Again.mk (k+1) ?_ ⟨hk2,fun i hi=>?_⟩ (by omega)⟩⟩,fun h=>absurd (of_decide_eq_false h) (by omega)⟩
   ·have:F.all smT=false:=by
     rw[List.all_eq_false]
     refine⟨F.getD k ft0,getD_mem (x0:=ft0) hk2,?_⟩
     unfold smT
     simp only[Bool.or_eq_true,dEt] at h
     simp only[bAt,dEt]
     omega
    rw[this];rfl
   ·exact AS.leA (by kernel_rfl)
   ·rcases Nat.lt_or_ge i k with h4|h4
    ·exact hkd i h4
    ·obtain rfl:i=k:=by omega
     unfold smT
     simp only[Bool.or_eq_false_iff,decide_eq_false_iff_not] at h
     simp only[bAt,dEt]
     omega
  ·obtain rfl:k=F.length:=by omega
   refine walkK (orc:=noO) (keep:=[]) (cuts:=[]) (n:=1000) follows ?_
   refine of_rd (fun ZT ZW ZQ _ ZA _=>(fun Za=>((((decide ((↑F.length:Int)<↑F.length))=true)→((((0≤(↑F.length:Int))∧((↑F.length:Int)<↑F.length))∧(((!decide ((↑(F.getD (↑F.length:Int).toNat ft0).nm.size:Int)>40))=true)→((0≤(↑F.length:Int))∧((↑F.length:Int)<↑F.length))))∧((Za=true)→(((db false):DV)=(db (F.all smT&&decide (F.length≤16)))))∧((Za=false)→((I64 (↑F.length+1))∧(ZA (stS ZT [0,1]))))))∧(((decide ((↑F.length:Int)<↑F.length))=false)→ZW [cd Tryz.f28 [1,1]] (stS ZT [1]) ZQ))) (decide ((↑(F.getD (↑F.length:Int).toNat ft0).nm.size:Int)>40)||decide ((↑(F.getD (↑F.length:Int).toNat ft0).wd.size:Int)>40))) (by kernel_rfl) ?_
   refine⟨fun h=>absurd (oDt h) (by omega),fun _=>?_⟩
   refine walkK (orc:=noO) (keep:=[]) (cuts:=[]) (n:=1000) follows ?_
   refine of_tr (fun _ _ _ _=>(((db (decide ((↑F.length:Int)≤16))):DV)=(db (F.all smT&&decide (F.length≤16))))) (by kernel_rfl) ?_
   have:F.all smT=true:=by
    rw[List.all_eq_true]
    intro f hf
    obtain ⟨i,hi,rfl⟩:=List.getElem_of_mem hf
    have:=hkd i hi
    rwa [List.getD,gEe hi] at this
   rw[this,Bool.true_and]
   refine congrArg (fun b:Bool=>(db b:DV)) ?_
   rw[Bool.eq_iff_iff,dEt,dEt]
   omega
noncomputable def orc11n (x:Ex) (F:List Ft) (L:List Fc):Oracle:=fun f a=>match f,a with
 | 41,[_,_]=>some (db (fewE 30 x))
 | 27,[_]=>some (db (fewF L))
 | 28,[_]=>some (db (fewT F))
 | _,_=>none
def few3 (x:Ex) (F:List Ft) (L:List Fc):Bool:=fewE 30 x&&fewF L&&fewT F
theorem f11 (m:Nat) (x:Ex) (F:List Ft) (L:List Fc) (hx:ht x≤m) (hw:wfE x) (hl:L.length≤9223372036854775807) (hlF:F.length≤9223372036854775807) (hw2:∀i,i<L.length→FcW (L.getD i fc0)) :
  FnOK Tryz.prog G 11 [exD m x,ftsD F,fcsD L] (db (few3 x F L)):=by
 refine FnOK.walkK (orc:=orc11n x F L) (keep:=[]) follows Tryz.func11 rfl Tryz.call11 ?_
 refine of_tr (fun _ _ _ ZK=>((ZK 41 [(ndX m x),(di 30)] (db (fewE 30 x))∧(((fewE 30 x)=true)→ZK 27 [(.slc 7 L.length (fcF L))] (db (fewF L)))∧(((fewE 30 x&&fewF L)=true)→ZK 28 [(.slc 6 F.length (ftF F))] (db (fewT F))))∧((db (fewE 30 x&&fewF L&&fewT F)):DV)=(db (few3 x F L)))) (by kernel_rfl) ?_
 refine⟨⟨f41 30 m x hx hw,fun _=>f27 L hl hw2,fun _=>f28 F hlF⟩,rfl⟩
theorem fcs_of_few {L:List Fc} (h:fewF L=true):(∀i,i<L.length→FcS (L.getD i fc0))∧L.length≤16:=by
 unfold fewF at h
 simp only[bAt,dEt] at h
 refine⟨fun i hi=>?_,h.2⟩
 have:=List.all_eq_true.1 h.1 _ (getD_mem (x0:=fc0) hi)
 unfold smF at this
 simp only[bAt,dEt] at this
 refine⟨by omega,by omega,fun j hj=>?_⟩
 have:=List.all_eq_true.1 this.2 _ (getD_mem (x0:=.empty) hj)
 have:=oDt this
 omega
structure Few3 (x:Ex) (F:List Ft) (L:List Fc):Prop where
 sm:Sm x
 fc:∀i,i<L.length→FcS (L.getD i fc0)
 ll:L.length≤16
 lf:F.length≤16
theorem few3_of {x:Ex} {F:List Ft} {L:List Fc} (hw:wfE x) (h:few3 x F L=true):Few3 x F L:=by
 unfold few3 at h
 simp only[bAt] at h
 obtain ⟨h1,h2⟩:=fcs_of_few h.1.2
 have h3:=h.2
 unfold fewT at h3
 simp only[bAt,dEt] at h3
 exact⟨few_sm (by omega) hw h.1.1,h1,h2,h3.2⟩
noncomputable def orcL3 (x:Ex) (F:List Ft) (L:List Fc):Oracle:=fun f a=>match f,a with
 | 10,[]=>some (db true)
 | 11,[_,_,_]=>some (db (few3 x F L))
 | 12,[_,_,_]=>some (.tup [ftD (evR F L x).1,di (evR F L x).2])
 | 13,[_,_,_]=>some (.tup [ftD (evR F L x).1,di (evR F L x).2])
 | 14,[_,_]=>some (db (vaF F L))
 | 15,[_,_]=>some (db (vaF F L))
 | _,_=>none
theorem f3 (hT:Tab G) (m:Nat) (x:Ex) (F:List Ft) (L:List Fc) (hx:ht x≤m) (hw:wfE x) (hl:L.length≤9223372036854775807) (hlF:F.length≤9223372036854775807) (hw2:∀i,i<L.length→FcW (L.getD i fc0)) :
  FnOK Tryz.prog G 3 [exD m x,ftsD F,fcsD L] (db true):=by
 refine FnOK.walkK (orc:=orcL3 x F L) (keep:=[]) follows Tryz.func3 rfl Tryz.call3 ?_
 refine of_tr (fun _ _ _ ZK=>(fun Za=>(ZK 10 [] (db true)∧((false=true)→(((db false):DV)=(db true)))∧((false=false)→(ZK 11 [(ndX m x),(.slc 6 F.length (ftF F)),(.slc 7 L.length (fcF L))] (db (few3 x F L))∧(((!few3 x F L)=true)→(ZS ((db true):DV)))∧(((!few3 x F L)=false)→(ZK 12 [(ndX m x),(.slc 6 F.length (ftF F)),(.slc 7 L.length (fcF L))] Za∧ZK 13 [(ndX m x),(.slc 6 F.length (ftF F)),(.slc 7 L.length (fcF L))] Za∧(ZK 14 [(.slc 6 F.length (ftF F)),(.slc 7 L.length (fcF L))] (db (vaF F L))∧ZK 15 [(.slc 6 F.length (ftF F)),(.slc 7 L.length (fcF L))] (db (vaF F L)))∧((db (vaF F L==vaF F L&&Bool.rec false ((evR F L x).fst.kind==(evR F L x).fst.kind&&((evR F L x).fst.n==(evR F L x).fst.n&&(evR F L x).fst.d==(evR F L x).fst.d&&((evR F L x).fst.tr==(evR F L x).fst.tr&&(evR F L x).fst.wd.toList==(evR F L x).fst.wd.toList))) ((evR F L x).fst.nm.toList==(evR F L x).fst.nm.toList)&&(evR F L x).snd==(evR F L x).snd)):DV)=(db true))))))) ((.tup [(.agg [(ds (evR F L x).fst.nm),(di (evR F L x).fst.kind),(di (evR F L x).fst.n),(di (evR F L x).fst.d),(db (evR F L x).fst.tr),(ds (evR F L x).fst.wd)]),(di (evR F L x).snd)]):DV)) (by kernel_rfl) ?_
 refine⟨f10 hT,fun h=>Bool.noConfusion h,fun _=>⟨f11 m x F L hx hw hl hlF hw2,fun _=>rfl,fun h=>?_⟩⟩
 have h:=few3_of hw (by simpa using h)
 refine⟨f12 hT F L h.fc (by have:=h.ll;omega) (by have:=h.lf;omega) m x hx h.sm,f13 hT F L h.fc (by have:=h.ll;omega) (by have:=h.lf;omega) m x hx h.sm,⟨f14 hT F L h.fc (by have:=h.ll;omega) (by have:=h.lf;omega),f15 hT F L h.fc (by have:=h.ll;omega) (by have:=h.lf;omega)⟩,?_⟩
 simp only[beq_self_eq_true,Bool.and_self,Bool.true_and]
end Go.Proofs
namespace Go.Proofs.YtellpkieoccljaaGreatDoor
open Go Go.Ab Go.ChangeShapes Go.WideShapes Go.ChangeAt Go.RowKit
set_option maxRecDepth 100000
theorem own:ownKnob Tryz.prog.godebug=none:=by kernel_rfl
theorem laidOut:laidOutB Tryz.prog=true:=by kernel_rfl
theorem gPow : Tryz.prog.globalNamed "internal/strconv.uint64pow10" = some 1 := by kernel_rfl
theorem tPow:(Tryz.prog.globals[1]?).map (·.type)=some 224:=by kernel_rfl
theorem laidVars_get {P:Program} {W:World}:∀{l:List (String×DataW Unit)} {ps:List MemPlace},DataW.LaidVars P W l ps→
  ∀{i:Nat} {n:String} {d:DataW Unit},l[i]?=some (n,d)→∃g t cs fuel p,P.globalNamed n=some g∧(P.globals[g]?).map (·.type)=some t∧W.var? P n=some cs∧DataW.trod (fun _=>()) P W 0 (fun _=>true) false fuel t cs.toList=some (d,p)
 | [],ps,h,i,n,d,h1=>by simp at h1
 | (m,e) :: l,ps,⟨g,t,cs,fuel,p,q,a1,a2,a3,a4,a5,a6⟩,i,n,d,h1=>by
  cases i with
  | zero=>
   simp at h1;obtain ⟨rfl,rfl⟩:=h1
   exact⟨g,t,cs,fuel,p,a1,a2,a3,a4⟩
  | succ i=>exact laidVars_get a5 (i:=i) (by simpa using h1)
theorem tab_of_laid {laid : List (String × DataW Unit)} {W : World} (h : laidMetH Tryz.prog laid W) (hm : laidMetH Tryz.prog laid W = laidMet Tryz.prog laid W) {i : Nat} (hi : laid[i]? = some ("internal/strconv.uint64pow10", Rows.laid_internal_strconv_uint64pow10)) : Tab (allOf W) := by
 rw[hm] at h
 obtain ⟨ps,h,_⟩:=h
 obtain ⟨g2,t2,cs2,f2,p2,hg2,ht2,hv2,hd2⟩:=laidVars_get h hi
 obtain rfl:=Option.some.inj (gPow.symm.trans hg2)
 obtain rfl:=Option.some.inj (tPow.symm.trans ht2)
 have hT : Lib.TabIs Tryz.prog W "internal/strconv.uint64pow10" .u64 Lib.pow10Tab := by
  unfold Lib.TabIs
  rw[hv2,←Lib.cells_of_tab Tryz.underlying224 (by kernel_rfl) (by kernel_rfl) (by kernel_rfl) (k:=.u64) (zs:=Lib.pow10Tab) hd2]
 intro w hw
 unfold Lib.TabIs at hT⊢
 rw[←hT]
 unfold World.var? at hT⊢
 rw[gPow] at hT⊢
 simp only[Option.bind_some] at hT⊢
 cases ho:W.heap[1]? with
 | none=>rw[ho] at hT;cases hT
 | some o=>rw[hw.2 1 o ho]
end Go.Proofs.YtellpkieoccljaaGreatDoor
namespace Go.Proofs
open Go Go.Ab Go.RowKit
/-! Descriptions that are read. -/
theorem words_of {n:Nat} {f:Nat→DV} (hn:n≤maxLen) (hf:∀i,i<n→∃d es,[f i]=d :: es∧(∃s:ByteArray,s.size≤maxLen∧d=.con (.string s))∧es=[]) :
  ∃l:List ByteArray,l.length=n∧(∀i,i<l.length→(l.getD i .empty).size≤maxLen)∧∀k v,DV.rel k (.slc 1 n f) v→DV.rel k (wdD l) v:=by
 obtain ⟨l,hl,hL⟩:=list_of (p:=fun i (x:{s:ByteArray // s.size≤maxLen})=>f i=ds x.1) ⟨.empty,by simp⟩ (fun i hi=>by
  obtain ⟨d,es,he,⟨s,hs,rfl⟩,rfl⟩:=hf i hi
  simp only[List.cons.injEq,and_true] at he
  exact⟨⟨s,hs⟩,he⟩)
 subst hl
 have hg:∀i,i<l.length→(l.map (·.1)).getD i .empty=(l.getD i ⟨.empty,by simp⟩).1:=fun i hi=>by
  rw[List.getD,List.getD,List.getElem?_map,gEe hi];rfl
 refine⟨l.map (·.1),List.length_map ..,fun i hi=>?_,fun k v h=>?_⟩
 ·rw[List.length_map] at hi
  rw[hg i hi];exact(l.getD i _).2
 ·unfold wdD
  rw[List.length_map]
  refine DV.rel_slc_congr (fun i hi=>?_) h
  rw[hL i hi]
  unfold stF
  rw[hg i hi]
end Go.Proofs
