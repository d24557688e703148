import Derived.Test.YthijempdiheabaaDoorAb14
set_option autoImplicit false
namespace Go.Ab
open Go Go.RowKit
/-- A statement in a wrapper, so that nothing is reckoned at its sight. -/
structure Holds (p : Prop) : Prop where
  h : p
theorem of_eqH {a b : Prop} (h : a = b) (hb : b) : Holds a := ⟨h ▸ hb⟩
section
variable {P : Program} {G : IH} {orc : Oracle} {Q : Exit → AS → Prop}
theorem walk (hm : P.follows .mixedOrders = true) {keep cuts : List Nat} {n : Nat} {k : List It} {st : AS} (h : Holds ((evalT P G orc keep cuts n k st).ok P G Q)) : AWP P G k st Q :=
  evalT_ok hm n k st h.h
theorem FnOK.walk {orc : Oracle} {keep : List Nat} {f : FuncId} {fn : Func} {args : List DV} {r : DV} (hm : P.follows .mixedOrders = true) (hf : P.funcs[f]? = some fn) (hb : fn.body.isSome = true) (hcall : ∀ (vs : Array Value) (w : World), (callFunc f vs).run P w = .ok (.enter f vs) w)
    (h : Holds ((evalT P G orc keep [] 1000 [.code (bodyOf fn)] (entry args fn.ntmps)).ok P G (Ret P fn r))) : FnOK P G f args r :=
  FnOK.of_body hf hb hcall (evalT_ok hm _ _ _ h.h)
end
end Go.Ab
