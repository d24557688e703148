import Derived.Test.YtflgdeobcgmgnaaGreatDoorAcD
import Derived.Test.YtflgdeobcgmgnaaGreatDoorG5
import Derived.Test.YtflgdeobcgmgnaaGreatDoorG1
set_option autoImplicit false
set_option maxHeartbeats 4000000
set_option maxRecDepth 100000
namespace Go.Proofs
open Go Go.Ab Go.RowKit
variable {G:IH}
theorem f12e (e:Ev) {f:Nat→DV} (hf:f 0=evD e):FnOK Tryz.prog G 12 [.slc 9 1 f,di 1] (db (fewE [e] 1)):=
 FnOK.args (f12 [e] 1 (show 1≤9223372036854775807 by decide)) fun _ us hh=>DV.rels_cons (fun _ hv=>DV.rel_slc_congr (fun i hi=>by
  have hi:i<1:=hi
  obtain rfl:i=0:=by omega
  exact hf) hv) (fun _ h=>h) us hh
theorem few_one {x:Ev} (h:fewE [x] 1=true):x.k.st.size≤1000000∧x.k.ex.size≤1000000:=by
 have:=(few_of h).1 x (by simp)
 exact⟨by omega,by omega⟩
theorem few_l {l:List Ev} (h:fewE l 24=true):l.length≤24∧∀e∈l,e.k.st.size≤1000000∧e.k.ex.size≤1000000:=by
 obtain ⟨h1,h2⟩:=few_of h
 refine⟨by omega,fun e he=>?_⟩
 have:=h1 e he
 exact⟨by omega,by omega⟩
end Go.Proofs
namespace Go.Proofs
variable {ok:Ev→Bool}
end Go.Proofs
namespace Go.Proofs
section
variable {κ:Nat→Int}
end
end Go.Proofs
namespace Go.Proofs
end Go.Proofs
namespace Go.Proofs
open Go Go.Ab Go.RowKit
variable {G:IH}
end Go.Proofs
