-- made by a changed copy of the kit's print (wip/hack.py)
import Derived.Test.YtgccgmpfcnhbgaaPx0
import Derived.Test.YtgccgmpfcnhbgaaPx1
import Derived.Test.YtgccgmpfcnhbgaaPx2
import Derived.Test.YtgccgmpfcnhbgaaPx3
import Derived.Test.YtgccgmpfcnhbgaaPx4
namespace Go.Proofs.Ytgccgmpfcnhbgaa.P
open Go.RowKit Go.Proofs.YtgccgmpfcnhbgaaW.PrintWords Go.Proofs.YtgccgmpfcnhbgaaW.PrintLast Go.Proofs.YtgccgmpfcnhbgaaW.PrintMore
attribute [local go_sem] max2_int min2_int max_two min_two max_three min_three max_four min_four   -- for this text's walks alone
set_option linter.unusedVariables false
set_option linter.unusedSimpArgs false

/-! ### slipsticklaw01_awake: function 9 -/
def slipsticklaw01_awake.f (k : Nat)  : Option (Bool) := (nat_Of.f k 4294967296).bind fun t197 => ((nat_Of.f k 1).bind fun t200 => ((nat_Sub.f k t197 t200).bind fun bt203 => ((nat_Of.f k 1).bind fun t207 => ((nat_Of.f k 2).bind fun t210 => ((nat_Sub.f k t207 t210).bind fun bt213 => ((nat_Of.f k 1099511627776).bind fun t217 => ((nat_Of.f k 3).bind fun t220 => ((nat_Mul.f k t217 t220).bind fun bt223 => ((nat_Of.f k 5).bind fun t227 => ((nat_Nat_Left.f k t227 33).bind fun bt230 => ((nat_Of.f k 5).bind fun t234 => ((nat_Nat_Right.f k t234 1).bind fun bt237 => ((nat_Nat_Word.f k bt223.1).bind fun bt241 => ((nat_Of.f k 1).bind fun t243 => ((nat_Nat_Left.f k t243 16384).bind fun bt246 => ((slipstickref01_Same.f k bt203.1 (([4294967295] : List Int))).bind fun t253 => (if t253 = true then (if bt203.2 = 0 then (if bt213.2 = 3 then ((slipstickref01_Same.f k bt223.1 (([0, 768] : List Int))).bind fun t257 => (if t257 = true then (if bt223.2 = 0 then ((slipstickref01_Same.f k bt230.1 (([0, 10] : List Int))).bind fun t261 => (if t261 = true then (if bt230.2 = 0 then ((slipstickref01_Same.f k bt237.1 (([2] : List Int))).bind fun t265 => (if t265 = true then (if bt237.2 = true then (if bt241.1 = 3298534883328 then (if bt241.2 = 0 then (if bt246.2 = 6 then ((nat_Of.f k 5).bind fun t266 => ((nat_Nat_Len.f k t266).bind fun t269 => (if t269 = 3 then ((nat_Of.f k 5).bind fun t270 => ((nat_Nat_Bit.f t270 2).bind fun t273 => (if t273 = 1 then ((nat_Of.f k 12).bind fun t274 => ((nat_Nat_Zeros.f k t274).bind fun t277 => (if t277 = 2 then ((nat_Of.f k 3).bind fun t278 => ((nat_Cmp.f k t278 (([3, 0] : List Int))).bind fun t284 => (if t284 = 0 then ((nat_Add.f k ([] : List Int) (([0] : List Int))).bind fun t288 => (some ((t288.length : Int) == 0))) else (none)))) else (none)))) else (none)))) else (none)))) else (none)) else (none)) else (none)) else (none)) else (none))) else (none)) else (none))) else (none)) else (none))) else (none)) else (none)) else (none))))))))))))))))))
theorem slipsticklaw01_awake.mono : ∀ k, LeO (slipsticklaw01_awake.f k ) (slipsticklaw01_awake.f (k + 1) ) := by
  intro  k
  unfold slipsticklaw01_awake.f
  repeat' first
      | (with_reducible exact nat_Add.mono _ _ _)
      | (with_reducible exact nat_Cmp.mono _ _ _)
      | (with_reducible exact nat_Mul.mono _ _ _)
      | (with_reducible exact nat_Nat_Left.mono _ _ _)
      | (with_reducible exact nat_Nat_Len.mono _ _)
      | (with_reducible exact nat_Nat_Right.mono _ _ _)
      | (with_reducible exact nat_Nat_Word.mono _ _)
      | (with_reducible exact nat_Nat_Zeros.mono _ _)
      | (with_reducible exact nat_Of.mono _ _)
      | (with_reducible exact nat_Sub.mono _ _ _)
      | (with_reducible exact slipstickref01_Same.mono _ _ _)
      | (with_reducible exact LeO.refl _)
      | (with_reducible exact LeO.none _)
      | (with_reducible refine LeO.ite ?_ ?_)
      | (with_reducible refine LeO.bind ?_ (fun _ => ?_))
      | exact nat_Add.mono _ _ _
      | exact nat_Cmp.mono _ _ _
      | exact nat_Mul.mono _ _ _
      | exact nat_Nat_Left.mono _ _ _
      | exact nat_Nat_Len.mono _ _
      | exact nat_Nat_Right.mono _ _ _
      | exact nat_Nat_Word.mono _ _
      | exact nat_Nat_Zeros.mono _ _
      | exact nat_Of.mono _ _
      | exact nat_Sub.mono _ _ _
      | exact slipstickref01_Same.mono _ _ _
      | exact LeO.none _
      | refine LeO.ite ?_ ?_
      | refine LeO.bind ?_ (fun _ => ?_)
set_option maxHeartbeats 8000000 in
set_option maxRecDepth 100000 in
theorem slipsticklaw01_awake.calls (k : Nat)  (r : Bool) (w : World) (h : slipsticklaw01_awake.f k  = some r) :
    Calls Try.prog 9 #[] w fun e w' => e = .returned (.bool r) ∧ Below w.heap.size w w' := by
  have HB := Aside0.mk (Below.refl w.heap.size w)
  have H : ((nat_Of.f k 4294967296).bind fun t197 => ((nat_Of.f k 1).bind fun t200 => ((nat_Sub.f k t197 t200).bind fun bt203 => ((nat_Of.f k 1).bind fun t207 => ((nat_Of.f k 2).bind fun t210 => ((nat_Sub.f k t207 t210).bind fun bt213 => ((nat_Of.f k 1099511627776).bind fun t217 => ((nat_Of.f k 3).bind fun t220 => ((nat_Mul.f k t217 t220).bind fun bt223 => ((nat_Of.f k 5).bind fun t227 => ((nat_Nat_Left.f k t227 33).bind fun bt230 => ((nat_Of.f k 5).bind fun t234 => ((nat_Nat_Right.f k t234 1).bind fun bt237 => ((nat_Nat_Word.f k bt223.1).bind fun bt241 => ((nat_Of.f k 1).bind fun t243 => ((nat_Nat_Left.f k t243 16384).bind fun bt246 => ((slipstickref01_Same.f k bt203.1 (([4294967295] : List Int))).bind fun t253 => (if t253 = true then (if bt203.2 = 0 then (if bt213.2 = 3 then ((slipstickref01_Same.f k bt223.1 (([0, 768] : List Int))).bind fun t257 => (if t257 = true then (if bt223.2 = 0 then ((slipstickref01_Same.f k bt230.1 (([0, 10] : List Int))).bind fun t261 => (if t261 = true then (if bt230.2 = 0 then ((slipstickref01_Same.f k bt237.1 (([2] : List Int))).bind fun t265 => (if t265 = true then (if bt237.2 = true then (if bt241.1 = 3298534883328 then (if bt241.2 = 0 then (if bt246.2 = 6 then ((nat_Of.f k 5).bind fun t266 => ((nat_Nat_Len.f k t266).bind fun t269 => (if t269 = 3 then ((nat_Of.f k 5).bind fun t270 => ((nat_Nat_Bit.f t270 2).bind fun t273 => (if t273 = 1 then ((nat_Of.f k 12).bind fun t274 => ((nat_Nat_Zeros.f k t274).bind fun t277 => (if t277 = 2 then ((nat_Of.f k 3).bind fun t278 => ((nat_Cmp.f k t278 (([3, 0] : List Int))).bind fun t284 => (if t284 = 0 then ((nat_Add.f k ([] : List Int) (([0] : List Int))).bind fun t288 => (some ((t288.length : Int) == 0))) else (none)))) else (none)))) else (none)))) else (none)))) else (none)) else (none)) else (none)) else (none)) else (none))) else (none)) else (none))) else (none)) else (none))) else (none)) else (none)) else (none))))))))))))))))))) = some r := h
  clear h
  replace H := Option.bind_eq_some_iff.mp H
  obtain ⟨t197, A10, H⟩ := H
  replace H : ((nat_Of.f k 1).bind fun t200 => ((nat_Sub.f k t197 t200).bind fun bt203 => ((nat_Of.f k 1).bind fun t207 => ((nat_Of.f k 2).bind fun t210 => ((nat_Sub.f k t207 t210).bind fun bt213 => ((nat_Of.f k 1099511627776).bind fun t217 => ((nat_Of.f k 3).bind fun t220 => ((nat_Mul.f k t217 t220).bind fun bt223 => ((nat_Of.f k 5).bind fun t227 => ((nat_Nat_Left.f k t227 33).bind fun bt230 => ((nat_Of.f k 5).bind fun t234 => ((nat_Nat_Right.f k t234 1).bind fun bt237 => ((nat_Nat_Word.f k bt223.1).bind fun bt241 => ((nat_Of.f k 1).bind fun t243 => ((nat_Nat_Left.f k t243 16384).bind fun bt246 => ((slipstickref01_Same.f k bt203.1 (([4294967295] : List Int))).bind fun t253 => (if t253 = true then (if bt203.2 = 0 then (if bt213.2 = 3 then ((slipstickref01_Same.f k bt223.1 (([0, 768] : List Int))).bind fun t257 => (if t257 = true then (if bt223.2 = 0 then ((slipstickref01_Same.f k bt230.1 (([0, 10] : List Int))).bind fun t261 => (if t261 = true then (if bt230.2 = 0 then ((slipstickref01_Same.f k bt237.1 (([2] : List Int))).bind fun t265 => (if t265 = true then (if bt237.2 = true then (if bt241.1 = 3298534883328 then (if bt241.2 = 0 then (if bt246.2 = 6 then ((nat_Of.f k 5).bind fun t266 => ((nat_Nat_Len.f k t266).bind fun t269 => (if t269 = 3 then ((nat_Of.f k 5).bind fun t270 => ((nat_Nat_Bit.f t270 2).bind fun t273 => (if t273 = 1 then ((nat_Of.f k 12).bind fun t274 => ((nat_Nat_Zeros.f k t274).bind fun t277 => (if t277 = 2 then ((nat_Of.f k 3).bind fun t278 => ((nat_Cmp.f k t278 (([3, 0] : List Int))).bind fun t284 => (if t284 = 0 then ((nat_Add.f k ([] : List Int) (([0] : List Int))).bind fun t288 => (some ((t288.length : Int) == 0))) else (none)))) else (none)))) else (none)))) else (none)))) else (none)) else (none)) else (none)) else (none)) else (none))) else (none)) else (none))) else (none)) else (none))) else (none)) else (none)) else (none)))))))))))))))))) = some r := H
  have A1 := Aside0.mk A10
  clear A10
  replace H := Option.bind_eq_some_iff.mp H
  obtain ⟨t200, A20, H⟩ := H
  replace H : ((nat_Sub.f k t197 t200).bind fun bt203 => ((nat_Of.f k 1).bind fun t207 => ((nat_Of.f k 2).bind fun t210 => ((nat_Sub.f k t207 t210).bind fun bt213 => ((nat_Of.f k 1099511627776).bind fun t217 => ((nat_Of.f k 3).bind fun t220 => ((nat_Mul.f k t217 t220).bind fun bt223 => ((nat_Of.f k 5).bind fun t227 => ((nat_Nat_Left.f k t227 33).bind fun bt230 => ((nat_Of.f k 5).bind fun t234 => ((nat_Nat_Right.f k t234 1).bind fun bt237 => ((nat_Nat_Word.f k bt223.1).bind fun bt241 => ((nat_Of.f k 1).bind fun t243 => ((nat_Nat_Left.f k t243 16384).bind fun bt246 => ((slipstickref01_Same.f k bt203.1 (([4294967295] : List Int))).bind fun t253 => (if t253 = true then (if bt203.2 = 0 then (if bt213.2 = 3 then ((slipstickref01_Same.f k bt223.1 (([0, 768] : List Int))).bind fun t257 => (if t257 = true then (if bt223.2 = 0 then ((slipstickref01_Same.f k bt230.1 (([0, 10] : List Int))).bind fun t261 => (if t261 = true then (if bt230.2 = 0 then ((slipstickref01_Same.f k bt237.1 (([2] : List Int))).bind fun t265 => (if t265 = true then (if bt237.2 = true then (if bt241.1 = 3298534883328 then (if bt241.2 = 0 then (if bt246.2 = 6 then ((nat_Of.f k 5).bind fun t266 => ((nat_Nat_Len.f k t266).bind fun t269 => (if t269 = 3 then ((nat_Of.f k 5).bind fun t270 => ((nat_Nat_Bit.f t270 2).bind fun t273 => (if t273 = 1 then ((nat_Of.f k 12).bind fun t274 => ((nat_Nat_Zeros.f k t274).bind fun t277 => (if t277 = 2 then ((nat_Of.f k 3).bind fun t278 => ((nat_Cmp.f k t278 (([3, 0] : List Int))).bind fun t284 => (if t284 = 0 then ((nat_Add.f k ([] : List Int) (([0] : List Int))).bind fun t288 => (some ((t288.length : Int) == 0))) else (none)))) else (none)))) else (none)))) else (none)))) else (none)) else (none)) else (none)) else (none)) else (none))) else (none)) else (none))) else (none)) else (none))) else (none)) else (none)) else (none))))))))))))))))) = some r := H
  have A2 := Aside0.mk A20
  clear A20
  replace H := Option.bind_eq_some_iff.mp H
  obtain ⟨⟨t203, t206⟩, A30, H⟩ := H
  replace H : ((nat_Of.f k 1).bind fun t207 => ((nat_Of.f k 2).bind fun t210 => ((nat_Sub.f k t207 t210).bind fun bt213 => ((nat_Of.f k 1099511627776).bind fun t217 => ((nat_Of.f k 3).bind fun t220 => ((nat_Mul.f k t217 t220).bind fun bt223 => ((nat_Of.f k 5).bind fun t227 => ((nat_Nat_Left.f k t227 33).bind fun bt230 => ((nat_Of.f k 5).bind fun t234 => ((nat_Nat_Right.f k t234 1).bind fun bt237 => ((nat_Nat_Word.f k bt223.1).bind fun bt241 => ((nat_Of.f k 1).bind fun t243 => ((nat_Nat_Left.f k t243 16384).bind fun bt246 => ((slipstickref01_Same.f k t203 (([4294967295] : List Int))).bind fun t253 => (if t253 = true then (if t206 = 0 then (if bt213.2 = 3 then ((slipstickref01_Same.f k bt223.1 (([0, 768] : List Int))).bind fun t257 => (if t257 = true then (if bt223.2 = 0 then ((slipstickref01_Same.f k bt230.1 (([0, 10] : List Int))).bind fun t261 => (if t261 = true then (if bt230.2 = 0 then ((slipstickref01_Same.f k bt237.1 (([2] : List Int))).bind fun t265 => (if t265 = true then (if bt237.2 = true then (if bt241.1 = 3298534883328 then (if bt241.2 = 0 then (if bt246.2 = 6 then ((nat_Of.f k 5).bind fun t266 => ((nat_Nat_Len.f k t266).bind fun t269 => (if t269 = 3 then ((nat_Of.f k 5).bind fun t270 => ((nat_Nat_Bit.f t270 2).bind fun t273 => (if t273 = 1 then ((nat_Of.f k 12).bind fun t274 => ((nat_Nat_Zeros.f k t274).bind fun t277 => (if t277 = 2 then ((nat_Of.f k 3).bind fun t278 => ((nat_Cmp.f k t278 (([3, 0] : List Int))).bind fun t284 => (if t284 = 0 then ((nat_Add.f k ([] : List Int) (([0] : List Int))).bind fun t288 => (some ((t288.length : Int) == 0))) else (none)))) else (none)))) else (none)))) else (none)))) else (none)) else (none)) else (none)) else (none)) else (none))) else (none)) else (none))) else (none)) else (none))) else (none)) else (none)) else (none)))))))))))))))) = some r := H
  have A3 := Aside0.mk A30
  clear A30
  replace H := Option.bind_eq_some_iff.mp H
  obtain ⟨t207, A40, H⟩ := H
  replace H : ((nat_Of.f k 2).bind fun t210 => ((nat_Sub.f k t207 t210).bind fun bt213 => ((nat_Of.f k 1099511627776).bind fun t217 => ((nat_Of.f k 3).bind fun t220 => ((nat_Mul.f k t217 t220).bind fun bt223 => ((nat_Of.f k 5).bind fun t227 => ((nat_Nat_Left.f k t227 33).bind fun bt230 => ((nat_Of.f k 5).bind fun t234 => ((nat_Nat_Right.f k t234 1).bind fun bt237 => ((nat_Nat_Word.f k bt223.1).bind fun bt241 => ((nat_Of.f k 1).bind fun t243 => ((nat_Nat_Left.f k t243 16384).bind fun bt246 => ((slipstickref01_Same.f k t203 (([4294967295] : List Int))).bind fun t253 => (if t253 = true then (if t206 = 0 then (if bt213.2 = 3 then ((slipstickref01_Same.f k bt223.1 (([0, 768] : List Int))).bind fun t257 => (if t257 = true then (if bt223.2 = 0 then ((slipstickref01_Same.f k bt230.1 (([0, 10] : List Int))).bind fun t261 => (if t261 = true then (if bt230.2 = 0 then ((slipstickref01_Same.f k bt237.1 (([2] : List Int))).bind fun t265 => (if t265 = true then (if bt237.2 = true then (if bt241.1 = 3298534883328 then (if bt241.2 = 0 then (if bt246.2 = 6 then ((nat_Of.f k 5).bind fun t266 => ((nat_Nat_Len.f k t266).bind fun t269 => (if t269 = 3 then ((nat_Of.f k 5).bind fun t270 => ((nat_Nat_Bit.f t270 2).bind fun t273 => (if t273 = 1 then ((nat_Of.f k 12).bind fun t274 => ((nat_Nat_Zeros.f k t274).bind fun t277 => (if t277 = 2 then ((nat_Of.f k 3).bind fun t278 => ((nat_Cmp.f k t278 (([3, 0] : List Int))).bind fun t284 => (if t284 = 0 then ((nat_Add.f k ([] : List Int) (([0] : List Int))).bind fun t288 => (some ((t288.length : Int) == 0))) else (none)))) else (none)))) else (none)))) else (none)))) else (none)) else (none)) else (none)) else (none)) else (none))) else (none)) else (none))) else (none)) else (none))) else (none)) else (none)) else (none))))))))))))))) = some r := H
  have A4 := Aside0.mk A40
  clear A40
  replace H := Option.bind_eq_some_iff.mp H
  obtain ⟨t210, A50, H⟩ := H
  replace H : ((nat_Sub.f k t207 t210).bind fun bt213 => ((nat_Of.f k 1099511627776).bind fun t217 => ((nat_Of.f k 3).bind fun t220 => ((nat_Mul.f k t217 t220).bind fun bt223 => ((nat_Of.f k 5).bind fun t227 => ((nat_Nat_Left.f k t227 33).bind fun bt230 => ((nat_Of.f k 5).bind fun t234 => ((nat_Nat_Right.f k t234 1).bind fun bt237 => ((nat_Nat_Word.f k bt223.1).bind fun bt241 => ((nat_Of.f k 1).bind fun t243 => ((nat_Nat_Left.f k t243 16384).bind fun bt246 => ((slipstickref01_Same.f k t203 (([4294967295] : List Int))).bind fun t253 => (if t253 = true then (if t206 = 0 then (if bt213.2 = 3 then ((slipstickref01_Same.f k bt223.1 (([0, 768] : List Int))).bind fun t257 => (if t257 = true then (if bt223.2 = 0 then ((slipstickref01_Same.f k bt230.1 (([0, 10] : List Int))).bind fun t261 => (if t261 = true then (if bt230.2 = 0 then ((slipstickref01_Same.f k bt237.1 (([2] : List Int))).bind fun t265 => (if t265 = true then (if bt237.2 = true then (if bt241.1 = 3298534883328 then (if bt241.2 = 0 then (if bt246.2 = 6 then ((nat_Of.f k 5).bind fun t266 => ((nat_Nat_Len.f k t266).bind fun t269 => (if t269 = 3 then ((nat_Of.f k 5).bind fun t270 => ((nat_Nat_Bit.f t270 2).bind fun t273 => (if t273 = 1 then ((nat_Of.f k 12).bind fun t274 => ((nat_Nat_Zeros.f k t274).bind fun t277 => (if t277 = 2 then ((nat_Of.f k 3).bind fun t278 => ((nat_Cmp.f k t278 (([3, 0] : List Int))).bind fun t284 => (if t284 = 0 then ((nat_Add.f k ([] : List Int) (([0] : List Int))).bind fun t288 => (some ((t288.length : Int) == 0))) else (none)))) else (none)))) else (none)))) else (none)))) else (none)) else (none)) else (none)) else (none)) else (none))) else (none)) else (none))) else (none)) else (none))) else (none)) else (none)) else (none)))))))))))))) = some r := H
  have A5 := Aside0.mk A50
  clear A50
  replace H := Option.bind_eq_some_iff.mp H
  obtain ⟨⟨t213, t216⟩, A60, H⟩ := H
  replace H : ((nat_Of.f k 1099511627776).bind fun t217 => ((nat_Of.f k 3).bind fun t220 => ((nat_Mul.f k t217 t220).bind fun bt223 => ((nat_Of.f k 5).bind fun t227 => ((nat_Nat_Left.f k t227 33).bind fun bt230 => ((nat_Of.f k 5).bind fun t234 => ((nat_Nat_Right.f k t234 1).bind fun bt237 => ((nat_Nat_Word.f k bt223.1).bind fun bt241 => ((nat_Of.f k 1).bind fun t243 => ((nat_Nat_Left.f k t243 16384).bind fun bt246 => ((slipstickref01_Same.f k t203 (([4294967295] : List Int))).bind fun t253 => (if t253 = true then (if t206 = 0 then (if t216 = 3 then ((slipstickref01_Same.f k bt223.1 (([0, 768] : List Int))).bind fun t257 => (if t257 = true then (if bt223.2 = 0 then ((slipstickref01_Same.f k bt230.1 (([0, 10] : List Int))).bind fun t261 => (if t261 = true then (if bt230.2 = 0 then ((slipstickref01_Same.f k bt237.1 (([2] : List Int))).bind fun t265 => (if t265 = true then (if bt237.2 = true then (if bt241.1 = 3298534883328 then (if bt241.2 = 0 then (if bt246.2 = 6 then ((nat_Of.f k 5).bind fun t266 => ((nat_Nat_Len.f k t266).bind fun t269 => (if t269 = 3 then ((nat_Of.f k 5).bind fun t270 => ((nat_Nat_Bit.f t270 2).bind fun t273 => (if t273 = 1 then ((nat_Of.f k 12).bind fun t274 => ((nat_Nat_Zeros.f k t274).bind fun t277 => (if t277 = 2 then ((nat_Of.f k 3).bind fun t278 => ((nat_Cmp.f k t278 (([3, 0] : List Int))).bind fun t284 => (if t284 = 0 then ((nat_Add.f k ([] : List Int) (([0] : List Int))).bind fun t288 => (some ((t288.length : Int) == 0))) else (none)))) else (none)))) else (none)))) else (none)))) else (none)) else (none)) else (none)) else (none)) else (none))) else (none)) else (none))) else (none)) else (none))) else (none)) else (none)) else (none))))))))))))) = some r := H
  have A6 := Aside0.mk A60
  clear A60
  replace H := Option.bind_eq_some_iff.mp H
  obtain ⟨t217, A70, H⟩ := H
  replace H : ((nat_Of.f k 3).bind fun t220 => ((nat_Mul.f k t217 t220).bind fun bt223 => ((nat_Of.f k 5).bind fun t227 => ((nat_Nat_Left.f k t227 33).bind fun bt230 => ((nat_Of.f k 5).bind fun t234 => ((nat_Nat_Right.f k t234 1).bind fun bt237 => ((nat_Nat_Word.f k bt223.1).bind fun bt241 => ((nat_Of.f k 1).bind fun t243 => ((nat_Nat_Left.f k t243 16384).bind fun bt246 => ((slipstickref01_Same.f k t203 (([4294967295] : List Int))).bind fun t253 => (if t253 = true then (if t206 = 0 then (if t216 = 3 then ((slipstickref01_Same.f k bt223.1 (([0, 768] : List Int))).bind fun t257 => (if t257 = true then (if bt223.2 = 0 then ((slipstickref01_Same.f k bt230.1 (([0, 10] : List Int))).bind fun t261 => (if t261 = true then (if bt230.2 = 0 then ((slipstickref01_Same.f k bt237.1 (([2] : List Int))).bind fun t265 => (if t265 = true then (if bt237.2 = true then (if bt241.1 = 3298534883328 then (if bt241.2 = 0 then (if bt246.2 = 6 then ((nat_Of.f k 5).bind fun t266 => ((nat_Nat_Len.f k t266).bind fun t269 => (if t269 = 3 then ((nat_Of.f k 5).bind fun t270 => ((nat_Nat_Bit.f t270 2).bind fun t273 => (if t273 = 1 then ((nat_Of.f k 12).bind fun t274 => ((nat_Nat_Zeros.f k t274).bind fun t277 => (if t277 = 2 then ((nat_Of.f k 3).bind fun t278 => ((nat_Cmp.f k t278 (([3, 0] : List Int))).bind fun t284 => (if t284 = 0 then ((nat_Add.f k ([] : List Int) (([0] : List Int))).bind fun t288 => (some ((t288.length : Int) == 0))) else (none)))) else (none)))) else (none)))) else (none)))) else (none)) else (none)) else (none)) else (none)) else (none))) else (none)) else (none))) else (none)) else (none))) else (none)) else (none)) else (none)))))))))))) = some r := H
  have A7 := Aside0.mk A70
  clear A70
  replace H := Option.bind_eq_some_iff.mp H
  obtain ⟨t220, A80, H⟩ := H
  replace H : ((nat_Mul.f k t217 t220).bind fun bt223 => ((nat_Of.f k 5).bind fun t227 => ((nat_Nat_Left.f k t227 33).bind fun bt230 => ((nat_Of.f k 5).bind fun t234 => ((nat_Nat_Right.f k t234 1).bind fun bt237 => ((nat_Nat_Word.f k bt223.1).bind fun bt241 => ((nat_Of.f k 1).bind fun t243 => ((nat_Nat_Left.f k t243 16384).bind fun bt246 => ((slipstickref01_Same.f k t203 (([4294967295] : List Int))).bind fun t253 => (if t253 = true then (if t206 = 0 then (if t216 = 3 then ((slipstickref01_Same.f k bt223.1 (([0, 768] : List Int))).bind fun t257 => (if t257 = true then (if bt223.2 = 0 then ((slipstickref01_Same.f k bt230.1 (([0, 10] : List Int))).bind fun t261 => (if t261 = true then (if bt230.2 = 0 then ((slipstickref01_Same.f k bt237.1 (([2] : List Int))).bind fun t265 => (if t265 = true then (if bt237.2 = true then (if bt241.1 = 3298534883328 then (if bt241.2 = 0 then (if bt246.2 = 6 then ((nat_Of.f k 5).bind fun t266 => ((nat_Nat_Len.f k t266).bind fun t269 => (if t269 = 3 then ((nat_Of.f k 5).bind fun t270 => ((nat_Nat_Bit.f t270 2).bind fun t273 => (if t273 = 1 then ((nat_Of.f k 12).bind fun t274 => ((nat_Nat_Zeros.f k t274).bind fun t277 => (if t277 = 2 then ((nat_Of.f k 3).bind fun t278 => ((nat_Cmp.f k t278 (([3, 0] : List Int))).bind fun t284 => (if t284 = 0 then ((nat_Add.f k ([] : List Int) (([0] : List Int))).bind fun t288 => (some ((t288.length : Int) == 0))) else (none)))) else (none)))) else (none)))) else (none)))) else (none)) else (none)) else (none)) else (none)) else (none))) else (none)) else (none))) else (none)) else (none))) else (none)) else (none)) else (none))))))))))) = some r := H
  have A8 := Aside0.mk A80
  clear A80
  replace H := Option.bind_eq_some_iff.mp H
  obtain ⟨⟨t223, t226⟩, A90, H⟩ := H
  replace H : ((nat_Of.f k 5).bind fun t227 => ((nat_Nat_Left.f k t227 33).bind fun bt230 => ((nat_Of.f k 5).bind fun t234 => ((nat_Nat_Right.f k t234 1).bind fun bt237 => ((nat_Nat_Word.f k t223).bind fun bt241 => ((nat_Of.f k 1).bind fun t243 => ((nat_Nat_Left.f k t243 16384).bind fun bt246 => ((slipstickref01_Same.f k t203 (([4294967295] : List Int))).bind fun t253 => (if t253 = true then (if t206 = 0 then (if t216 = 3 then ((slipstickref01_Same.f k t223 (([0, 768] : List Int))).bind fun t257 => (if t257 = true then (if t226 = 0 then ((slipstickref01_Same.f k bt230.1 (([0, 10] : List Int))).bind fun t261 => (if t261 = true then (if bt230.2 = 0 then ((slipstickref01_Same.f k bt237.1 (([2] : List Int))).bind fun t265 => (if t265 = true then (if bt237.2 = true then (if bt241.1 = 3298534883328 then (if bt241.2 = 0 then (if bt246.2 = 6 then ((nat_Of.f k 5).bind fun t266 => ((nat_Nat_Len.f k t266).bind fun t269 => (if t269 = 3 then ((nat_Of.f k 5).bind fun t270 => ((nat_Nat_Bit.f t270 2).bind fun t273 => (if t273 = 1 then ((nat_Of.f k 12).bind fun t274 => ((nat_Nat_Zeros.f k t274).bind fun t277 => (if t277 = 2 then ((nat_Of.f k 3).bind fun t278 => ((nat_Cmp.f k t278 (([3, 0] : List Int))).bind fun t284 => (if t284 = 0 then ((nat_Add.f k ([] : List Int) (([0] : List Int))).bind fun t288 => (some ((t288.length : Int) == 0))) else (none)))) else (none)))) else (none)))) else (none)))) else (none)) else (none)) else (none)) else (none)) else (none))) else (none)) else (none))) else (none)) else (none))) else (none)) else (none)) else (none)))))))))) = some r := H
  have A9 := Aside0.mk A90
  clear A90
  replace H := Option.bind_eq_some_iff.mp H
  obtain ⟨t227, A100, H⟩ := H
  replace H : ((nat_Nat_Left.f k t227 33).bind fun bt230 => ((nat_Of.f k 5).bind fun t234 => ((nat_Nat_Right.f k t234 1).bind fun bt237 => ((nat_Nat_Word.f k t223).bind fun bt241 => ((nat_Of.f k 1).bind fun t243 => ((nat_Nat_Left.f k t243 16384).bind fun bt246 => ((slipstickref01_Same.f k t203 (([4294967295] : List Int))).bind fun t253 => (if t253 = true then (if t206 = 0 then (if t216 = 3 then ((slipstickref01_Same.f k t223 (([0, 768] : List Int))).bind fun t257 => (if t257 = true then (if t226 = 0 then ((slipstickref01_Same.f k bt230.1 (([0, 10] : List Int))).bind fun t261 => (if t261 = true then (if bt230.2 = 0 then ((slipstickref01_Same.f k bt237.1 (([2] : List Int))).bind fun t265 => (if t265 = true then (if bt237.2 = true then (if bt241.1 = 3298534883328 then (if bt241.2 = 0 then (if bt246.2 = 6 then ((nat_Of.f k 5).bind fun t266 => ((nat_Nat_Len.f k t266).bind fun t269 => (if t269 = 3 then ((nat_Of.f k 5).bind fun t270 => ((nat_Nat_Bit.f t270 2).bind fun t273 => (if t273 = 1 then ((nat_Of.f k 12).bind fun t274 => ((nat_Nat_Zeros.f k t274).bind fun t277 => (if t277 = 2 then ((nat_Of.f k 3).bind fun t278 => ((nat_Cmp.f k t278 (([3, 0] : List Int))).bind fun t284 => (if t284 = 0 then ((nat_Add.f k ([] : List Int) (([0] : List Int))).bind fun t288 => (some ((t288.length : Int) == 0))) else (none)))) else (none)))) else (none)))) else (none)))) else (none)) else (none)) else (none)) else (none)) else (none))) else (none)) else (none))) else (none)) else (none))) else (none)) else (none)) else (none))))))))) = some r := H
  have A10 := Aside0.mk A100
  clear A100
  replace H := Option.bind_eq_some_iff.mp H
  obtain ⟨⟨t230, t233⟩, A110, H⟩ := H
  replace H : ((nat_Of.f k 5).bind fun t234 => ((nat_Nat_Right.f k t234 1).bind fun bt237 => ((nat_Nat_Word.f k t223).bind fun bt241 => ((nat_Of.f k 1).bind fun t243 => ((nat_Nat_Left.f k t243 16384).bind fun bt246 => ((slipstickref01_Same.f k t203 (([4294967295] : List Int))).bind fun t253 => (if t253 = true then (if t206 = 0 then (if t216 = 3 then ((slipstickref01_Same.f k t223 (([0, 768] : List Int))).bind fun t257 => (if t257 = true then (if t226 = 0 then ((slipstickref01_Same.f k t230 (([0, 10] : List Int))).bind fun t261 => (if t261 = true then (if t233 = 0 then ((slipstickref01_Same.f k bt237.1 (([2] : List Int))).bind fun t265 => (if t265 = true then (if bt237.2 = true then (if bt241.1 = 3298534883328 then (if bt241.2 = 0 then (if bt246.2 = 6 then ((nat_Of.f k 5).bind fun t266 => ((nat_Nat_Len.f k t266).bind fun t269 => (if t269 = 3 then ((nat_Of.f k 5).bind fun t270 => ((nat_Nat_Bit.f t270 2).bind fun t273 => (if t273 = 1 then ((nat_Of.f k 12).bind fun t274 => ((nat_Nat_Zeros.f k t274).bind fun t277 => (if t277 = 2 then ((nat_Of.f k 3).bind fun t278 => ((nat_Cmp.f k t278 (([3, 0] : List Int))).bind fun t284 => (if t284 = 0 then ((nat_Add.f k ([] : List Int) (([0] : List Int))).bind fun t288 => (some ((t288.length : Int) == 0))) else (none)))) else (none)))) else (none)))) else (none)))) else (none)) else (none)) else (none)) else (none)) else (none))) else (none)) else (none))) else (none)) else (none))) else (none)) else (none)) else (none)))))))) = some r := H
  have A11 := Aside0.mk A110
  clear A110
  replace H := Option.bind_eq_some_iff.mp H
  obtain ⟨t234, A120, H⟩ := H
  replace H : ((nat_Nat_Right.f k t234 1).bind fun bt237 => ((nat_Nat_Word.f k t223).bind fun bt241 => ((nat_Of.f k 1).bind fun t243 => ((nat_Nat_Left.f k t243 16384).bind fun bt246 => ((slipstickref01_Same.f k t203 (([4294967295] : List Int))).bind fun t253 => (if t253 = true then (if t206 = 0 then (if t216 = 3 then ((slipstickref01_Same.f k t223 (([0, 768] : List Int))).bind fun t257 => (if t257 = true then (if t226 = 0 then ((slipstickref01_Same.f k t230 (([0, 10] : List Int))).bind fun t261 => (if t261 = true then (if t233 = 0 then ((slipstickref01_Same.f k bt237.1 (([2] : List Int))).bind fun t265 => (if t265 = true then (if bt237.2 = true then (if bt241.1 = 3298534883328 then (if bt241.2 = 0 then (if bt246.2 = 6 then ((nat_Of.f k 5).bind fun t266 => ((nat_Nat_Len.f k t266).bind fun t269 => (if t269 = 3 then ((nat_Of.f k 5).bind fun t270 => ((nat_Nat_Bit.f t270 2).bind fun t273 => (if t273 = 1 then ((nat_Of.f k 12).bind fun t274 => ((nat_Nat_Zeros.f k t274).bind fun t277 => (if t277 = 2 then ((nat_Of.f k 3).bind fun t278 => ((nat_Cmp.f k t278 (([3, 0] : List Int))).bind fun t284 => (if t284 = 0 then ((nat_Add.f k ([] : List Int) (([0] : List Int))).bind fun t288 => (some ((t288.length : Int) == 0))) else (none)))) else (none)))) else (none)))) else (none)))) else (none)) else (none)) else (none)) else (none)) else (none))) else (none)) else (none))) else (none)) else (none))) else (none)) else (none)) else (none))))))) = some r := H
  have A12 := Aside0.mk A120
  clear A120
  replace H := Option.bind_eq_some_iff.mp H
  obtain ⟨⟨t237, t240⟩, A130, H⟩ := H
  replace H : ((nat_Nat_Word.f k t223).bind fun bt241 => ((nat_Of.f k 1).bind fun t243 => ((nat_Nat_Left.f k t243 16384).bind fun bt246 => ((slipstickref01_Same.f k t203 (([4294967295] : List Int))).bind fun t253 => (if t253 = true then (if t206 = 0 then (if t216 = 3 then ((slipstickref01_Same.f k t223 (([0, 768] : List Int))).bind fun t257 => (if t257 = true then (if t226 = 0 then ((slipstickref01_Same.f k t230 (([0, 10] : List Int))).bind fun t261 => (if t261 = true then (if t233 = 0 then ((slipstickref01_Same.f k t237 (([2] : List Int))).bind fun t265 => (if t265 = true then (if t240 = true then (if bt241.1 = 3298534883328 then (if bt241.2 = 0 then (if bt246.2 = 6 then ((nat_Of.f k 5).bind fun t266 => ((nat_Nat_Len.f k t266).bind fun t269 => (if t269 = 3 then ((nat_Of.f k 5).bind fun t270 => ((nat_Nat_Bit.f t270 2).bind fun t273 => (if t273 = 1 then ((nat_Of.f k 12).bind fun t274 => ((nat_Nat_Zeros.f k t274).bind fun t277 => (if t277 = 2 then ((nat_Of.f k 3).bind fun t278 => ((nat_Cmp.f k t278 (([3, 0] : List Int))).bind fun t284 => (if t284 = 0 then ((nat_Add.f k ([] : List Int) (([0] : List Int))).bind fun t288 => (some ((t288.length : Int) == 0))) else (none)))) else (none)))) else (none)))) else (none)))) else (none)) else (none)) else (none)) else (none)) else (none))) else (none)) else (none))) else (none)) else (none))) else (none)) else (none)) else (none)))))) = some r := H
  have A13 := Aside0.mk A130
  clear A130
  replace H := Option.bind_eq_some_iff.mp H
  obtain ⟨⟨t241, t242⟩, A140, H⟩ := H
  replace H : ((nat_Of.f k 1).bind fun t243 => ((nat_Nat_Left.f k t243 16384).bind fun bt246 => ((slipstickref01_Same.f k t203 (([4294967295] : List Int))).bind fun t253 => (if t253 = true then (if t206 = 0 then (if t216 = 3 then ((slipstickref01_Same.f k t223 (([0, 768] : List Int))).bind fun t257 => (if t257 = true then (if t226 = 0 then ((slipstickref01_Same.f k t230 (([0, 10] : List Int))).bind fun t261 => (if t261 = true then (if t233 = 0 then ((slipstickref01_Same.f k t237 (([2] : List Int))).bind fun t265 => (if t265 = true then (if t240 = true then (if t241 = 3298534883328 then (if t242 = 0 then (if bt246.2 = 6 then ((nat_Of.f k 5).bind fun t266 => ((nat_Nat_Len.f k t266).bind fun t269 => (if t269 = 3 then ((nat_Of.f k 5).bind fun t270 => ((nat_Nat_Bit.f t270 2).bind fun t273 => (if t273 = 1 then ((nat_Of.f k 12).bind fun t274 => ((nat_Nat_Zeros.f k t274).bind fun t277 => (if t277 = 2 then ((nat_Of.f k 3).bind fun t278 => ((nat_Cmp.f k t278 (([3, 0] : List Int))).bind fun t284 => (if t284 = 0 then ((nat_Add.f k ([] : List Int) (([0] : List Int))).bind fun t288 => (some ((t288.length : Int) == 0))) else (none)))) else (none)))) else (none)))) else (none)))) else (none)) else (none)) else (none)) else (none)) else (none))) else (none)) else (none))) else (none)) else (none))) else (none)) else (none)) else (none))))) = some r := H
  have A14 := Aside0.mk A140
  clear A140
  replace H := Option.bind_eq_some_iff.mp H
  obtain ⟨t243, A150, H⟩ := H
  replace H : ((nat_Nat_Left.f k t243 16384).bind fun bt246 => ((slipstickref01_Same.f k t203 (([4294967295] : List Int))).bind fun t253 => (if t253 = true then (if t206 = 0 then (if t216 = 3 then ((slipstickref01_Same.f k t223 (([0, 768] : List Int))).bind fun t257 => (if t257 = true then (if t226 = 0 then ((slipstickref01_Same.f k t230 (([0, 10] : List Int))).bind fun t261 => (if t261 = true then (if t233 = 0 then ((slipstickref01_Same.f k t237 (([2] : List Int))).bind fun t265 => (if t265 = true then (if t240 = true then (if t241 = 3298534883328 then (if t242 = 0 then (if bt246.2 = 6 then ((nat_Of.f k 5).bind fun t266 => ((nat_Nat_Len.f k t266).bind fun t269 => (if t269 = 3 then ((nat_Of.f k 5).bind fun t270 => ((nat_Nat_Bit.f t270 2).bind fun t273 => (if t273 = 1 then ((nat_Of.f k 12).bind fun t274 => ((nat_Nat_Zeros.f k t274).bind fun t277 => (if t277 = 2 then ((nat_Of.f k 3).bind fun t278 => ((nat_Cmp.f k t278 (([3, 0] : List Int))).bind fun t284 => (if t284 = 0 then ((nat_Add.f k ([] : List Int) (([0] : List Int))).bind fun t288 => (some ((t288.length : Int) == 0))) else (none)))) else (none)))) else (none)))) else (none)))) else (none)) else (none)) else (none)) else (none)) else (none))) else (none)) else (none))) else (none)) else (none))) else (none)) else (none)) else (none)))) = some r := H
  have A15 := Aside0.mk A150
  clear A150
  replace H := Option.bind_eq_some_iff.mp H
  obtain ⟨⟨t246, t249⟩, A160, H⟩ := H
  replace H : ((slipstickref01_Same.f k t203 (([4294967295] : List Int))).bind fun t253 => (if t253 = true then (if t206 = 0 then (if t216 = 3 then ((slipstickref01_Same.f k t223 (([0, 768] : List Int))).bind fun t257 => (if t257 = true then (if t226 = 0 then ((slipstickref01_Same.f k t230 (([0, 10] : List Int))).bind fun t261 => (if t261 = true then (if t233 = 0 then ((slipstickref01_Same.f k t237 (([2] : List Int))).bind fun t265 => (if t265 = true then (if t240 = true then (if t241 = 3298534883328 then (if t242 = 0 then (if t249 = 6 then ((nat_Of.f k 5).bind fun t266 => ((nat_Nat_Len.f k t266).bind fun t269 => (if t269 = 3 then ((nat_Of.f k 5).bind fun t270 => ((nat_Nat_Bit.f t270 2).bind fun t273 => (if t273 = 1 then ((nat_Of.f k 12).bind fun t274 => ((nat_Nat_Zeros.f k t274).bind fun t277 => (if t277 = 2 then ((nat_Of.f k 3).bind fun t278 => ((nat_Cmp.f k t278 (([3, 0] : List Int))).bind fun t284 => (if t284 = 0 then ((nat_Add.f k ([] : List Int) (([0] : List Int))).bind fun t288 => (some ((t288.length : Int) == 0))) else (none)))) else (none)))) else (none)))) else (none)))) else (none)) else (none)) else (none)) else (none)) else (none))) else (none)) else (none))) else (none)) else (none))) else (none)) else (none)) else (none))) = some r := H
  have A16 := Aside0.mk A160
  clear A160
  obtain ⟨y250, hy250⟩ : ∃ y_ : List Int, y_ = (([4294967295] : List Int)) := ⟨_, rfl⟩
  replace H : ((slipstickref01_Same.f k t203 y250).bind fun t253 => (if t253 = true then (if t206 = 0 then (if t216 = 3 then ((slipstickref01_Same.f k t223 (([0, 768] : List Int))).bind fun t257 => (if t257 = true then (if t226 = 0 then ((slipstickref01_Same.f k t230 (([0, 10] : List Int))).bind fun t261 => (if t261 = true then (if t233 = 0 then ((slipstickref01_Same.f k t237 (([2] : List Int))).bind fun t265 => (if t265 = true then (if t240 = true then (if t241 = 3298534883328 then (if t242 = 0 then (if t249 = 6 then ((nat_Of.f k 5).bind fun t266 => ((nat_Nat_Len.f k t266).bind fun t269 => (if t269 = 3 then ((nat_Of.f k 5).bind fun t270 => ((nat_Nat_Bit.f t270 2).bind fun t273 => (if t273 = 1 then ((nat_Of.f k 12).bind fun t274 => ((nat_Nat_Zeros.f k t274).bind fun t277 => (if t277 = 2 then ((nat_Of.f k 3).bind fun t278 => ((nat_Cmp.f k t278 (([3, 0] : List Int))).bind fun t284 => (if t284 = 0 then ((nat_Add.f k ([] : List Int) (([0] : List Int))).bind fun t288 => (some ((t288.length : Int) == 0))) else (none)))) else (none)))) else (none)))) else (none)))) else (none)) else (none)) else (none)) else (none)) else (none))) else (none)) else (none))) else (none)) else (none))) else (none)) else (none)) else (none))) = some r := by first | (rw [hy250]; with_reducible exact H) | (have H2_ := (Option.bind_some _ _).symm.trans H; rw [hy250]; with_reducible exact H2_) | (have H2_ := (Option.bind_some _ _).symm.trans H; with_reducible exact H2_) | with_reducible exact H | (rw [hy250]; exact H) | exact H
  have Ny250 := Aside0.mk hy250
  clear hy250
  replace H := Option.bind_eq_some_iff.mp H
  obtain ⟨t253, A170, H⟩ := H
  replace H : (if t253 = true then (if t206 = 0 then (if t216 = 3 then ((slipstickref01_Same.f k t223 (([0, 768] : List Int))).bind fun t257 => (if t257 = true then (if t226 = 0 then ((slipstickref01_Same.f k t230 (([0, 10] : List Int))).bind fun t261 => (if t261 = true then (if t233 = 0 then ((slipstickref01_Same.f k t237 (([2] : List Int))).bind fun t265 => (if t265 = true then (if t240 = true then (if t241 = 3298534883328 then (if t242 = 0 then (if t249 = 6 then ((nat_Of.f k 5).bind fun t266 => ((nat_Nat_Len.f k t266).bind fun t269 => (if t269 = 3 then ((nat_Of.f k 5).bind fun t270 => ((nat_Nat_Bit.f t270 2).bind fun t273 => (if t273 = 1 then ((nat_Of.f k 12).bind fun t274 => ((nat_Nat_Zeros.f k t274).bind fun t277 => (if t277 = 2 then ((nat_Of.f k 3).bind fun t278 => ((nat_Cmp.f k t278 (([3, 0] : List Int))).bind fun t284 => (if t284 = 0 then ((nat_Add.f k ([] : List Int) (([0] : List Int))).bind fun t288 => (some ((t288.length : Int) == 0))) else (none)))) else (none)))) else (none)))) else (none)))) else (none)) else (none)) else (none)) else (none)) else (none))) else (none)) else (none))) else (none)) else (none))) else (none)) else (none)) else (none)) = some r := H
  have A17 := Aside0.mk A170
  clear A170
  by_cases c18 : t253 = true
  · subst c18
    have H1 : (if t206 = 0 then (if t216 = 3 then ((slipstickref01_Same.f k t223 (([0, 768] : List Int))).bind fun t257 => (if t257 = true then (if t226 = 0 then ((slipstickref01_Same.f k t230 (([0, 10] : List Int))).bind fun t261 => (if t261 = true then (if t233 = 0 then ((slipstickref01_Same.f k t237 (([2] : List Int))).bind fun t265 => (if t265 = true then (if t240 = true then (if t241 = 3298534883328 then (if t242 = 0 then (if t249 = 6 then ((nat_Of.f k 5).bind fun t266 => ((nat_Nat_Len.f k t266).bind fun t269 => (if t269 = 3 then ((nat_Of.f k 5).bind fun t270 => ((nat_Nat_Bit.f t270 2).bind fun t273 => (if t273 = 1 then ((nat_Of.f k 12).bind fun t274 => ((nat_Nat_Zeros.f k t274).bind fun t277 => (if t277 = 2 then ((nat_Of.f k 3).bind fun t278 => ((nat_Cmp.f k t278 (([3, 0] : List Int))).bind fun t284 => (if t284 = 0 then ((nat_Add.f k ([] : List Int) (([0] : List Int))).bind fun t288 => (some ((t288.length : Int) == 0))) else (none)))) else (none)))) else (none)))) else (none)))) else (none)) else (none)) else (none)) else (none)) else (none))) else (none)) else (none))) else (none)) else (none))) else (none)) else (none)) = some r := by rw [if_pos rfl] at H; exact H
    clear H
    have H := H1
    clear H1
    by_cases c19 : t206 = 0
    · rw [if_pos c19] at H
      have c19b0 : (t206 == 0) = true := beq_iff_eq.mpr c19
      have c19b1 : (t206 != 0) = false := bne_eq_false_iff_eq.mpr c19
      clear c19
      by_cases c20 : t216 = 3
      · rw [if_pos c20] at H
        have c20b0 : (t216 == 3) = true := beq_iff_eq.mpr c20
        have c20b1 : (t216 != 3) = false := bne_eq_false_iff_eq.mpr c20
        clear c20
        obtain ⟨y254, hy254⟩ : ∃ y_ : List Int, y_ = (([0, 768] : List Int)) := ⟨_, rfl⟩
        replace H : ((slipstickref01_Same.f k t223 y254).bind fun t257 => (if t257 = true then (if t226 = 0 then ((slipstickref01_Same.f k t230 (([0, 10] : List Int))).bind fun t261 => (if t261 = true then (if t233 = 0 then ((slipstickref01_Same.f k t237 (([2] : List Int))).bind fun t265 => (if t265 = true then (if t240 = true then (if t241 = 3298534883328 then (if t242 = 0 then (if t249 = 6 then ((nat_Of.f k 5).bind fun t266 => ((nat_Nat_Len.f k t266).bind fun t269 => (if t269 = 3 then ((nat_Of.f k 5).bind fun t270 => ((nat_Nat_Bit.f t270 2).bind fun t273 => (if t273 = 1 then ((nat_Of.f k 12).bind fun t274 => ((nat_Nat_Zeros.f k t274).bind fun t277 => (if t277 = 2 then ((nat_Of.f k 3).bind fun t278 => ((nat_Cmp.f k t278 (([3, 0] : List Int))).bind fun t284 => (if t284 = 0 then ((nat_Add.f k ([] : List Int) (([0] : List Int))).bind fun t288 => (some ((t288.length : Int) == 0))) else (none)))) else (none)))) else (none)))) else (none)))) else (none)) else (none)) else (none)) else (none)) else (none))) else (none)) else (none))) else (none)) else (none))) = some r := by first | (rw [hy254]; with_reducible exact H) | (have H2_ := (Option.bind_some _ _).symm.trans H; rw [hy254]; with_reducible exact H2_) | (have H2_ := (Option.bind_some _ _).symm.trans H; with_reducible exact H2_) | with_reducible exact H | (rw [hy254]; exact H) | exact H
        have Ny254 := Aside0.mk hy254
        clear hy254
        replace H := Option.bind_eq_some_iff.mp H
        obtain ⟨t257, A210, H⟩ := H
        replace H : (if t257 = true then (if t226 = 0 then ((slipstickref01_Same.f k t230 (([0, 10] : List Int))).bind fun t261 => (if t261 = true then (if t233 = 0 then ((slipstickref01_Same.f k t237 (([2] : List Int))).bind fun t265 => (if t265 = true then (if t240 = true then (if t241 = 3298534883328 then (if t242 = 0 then (if t249 = 6 then ((nat_Of.f k 5).bind fun t266 => ((nat_Nat_Len.f k t266).bind fun t269 => (if t269 = 3 then ((nat_Of.f k 5).bind fun t270 => ((nat_Nat_Bit.f t270 2).bind fun t273 => (if t273 = 1 then ((nat_Of.f k 12).bind fun t274 => ((nat_Nat_Zeros.f k t274).bind fun t277 => (if t277 = 2 then ((nat_Of.f k 3).bind fun t278 => ((nat_Cmp.f k t278 (([3, 0] : List Int))).bind fun t284 => (if t284 = 0 then ((nat_Add.f k ([] : List Int) (([0] : List Int))).bind fun t288 => (some ((t288.length : Int) == 0))) else (none)))) else (none)))) else (none)))) else (none)))) else (none)) else (none)) else (none)) else (none)) else (none))) else (none)) else (none))) else (none)) else (none)) = some r := H
        have A21 := Aside0.mk A210
        clear A210
        by_cases c22 : t257 = true
        · subst c22
          have H1 : (if t226 = 0 then ((slipstickref01_Same.f k t230 (([0, 10] : List Int))).bind fun t261 => (if t261 = true then (if t233 = 0 then ((slipstickref01_Same.f k t237 (([2] : List Int))).bind fun t265 => (if t265 = true then (if t240 = true then (if t241 = 3298534883328 then (if t242 = 0 then (if t249 = 6 then ((nat_Of.f k 5).bind fun t266 => ((nat_Nat_Len.f k t266).bind fun t269 => (if t269 = 3 then ((nat_Of.f k 5).bind fun t270 => ((nat_Nat_Bit.f t270 2).bind fun t273 => (if t273 = 1 then ((nat_Of.f k 12).bind fun t274 => ((nat_Nat_Zeros.f k t274).bind fun t277 => (if t277 = 2 then ((nat_Of.f k 3).bind fun t278 => ((nat_Cmp.f k t278 (([3, 0] : List Int))).bind fun t284 => (if t284 = 0 then ((nat_Add.f k ([] : List Int) (([0] : List Int))).bind fun t288 => (some ((t288.length : Int) == 0))) else (none)))) else (none)))) else (none)))) else (none)))) else (none)) else (none)) else (none)) else (none)) else (none))) else (none)) else (none))) else (none)) = some r := by rw [if_pos rfl] at H; exact H
          clear H
          have H := H1
          clear H1
          by_cases c23 : t226 = 0
          · rw [if_pos c23] at H
            have c23b0 : (t226 == 0) = true := beq_iff_eq.mpr c23
            have c23b1 : (t226 != 0) = false := bne_eq_false_iff_eq.mpr c23
            clear c23
            obtain ⟨y258, hy258⟩ : ∃ y_ : List Int, y_ = (([0, 10] : List Int)) := ⟨_, rfl⟩
            replace H : ((slipstickref01_Same.f k t230 y258).bind fun t261 => (if t261 = true then (if t233 = 0 then ((slipstickref01_Same.f k t237 (([2] : List Int))).bind fun t265 => (if t265 = true then (if t240 = true then (if t241 = 3298534883328 then (if t242 = 0 then (if t249 = 6 then ((nat_Of.f k 5).bind fun t266 => ((nat_Nat_Len.f k t266).bind fun t269 => (if t269 = 3 then ((nat_Of.f k 5).bind fun t270 => ((nat_Nat_Bit.f t270 2).bind fun t273 => (if t273 = 1 then ((nat_Of.f k 12).bind fun t274 => ((nat_Nat_Zeros.f k t274).bind fun t277 => (if t277 = 2 then ((nat_Of.f k 3).bind fun t278 => ((nat_Cmp.f k t278 (([3, 0] : List Int))).bind fun t284 => (if t284 = 0 then ((nat_Add.f k ([] : List Int) (([0] : List Int))).bind fun t288 => (some ((t288.length : Int) == 0))) else (none)))) else (none)))) else (none)))) else (none)))) else (none)) else (none)) else (none)) else (none)) else (none))) else (none)) else (none))) = some r := by first | (rw [hy258]; with_reducible exact H) | (have H2_ := (Option.bind_some _ _).symm.trans H; rw [hy258]; with_reducible exact H2_) | (have H2_ := (Option.bind_some _ _).symm.trans H; with_reducible exact H2_) | with_reducible exact H | (rw [hy258]; exact H) | exact H
            have Ny258 := Aside0.mk hy258
            clear hy258
            replace H := Option.bind_eq_some_iff.mp H
            obtain ⟨t261, A240, H⟩ := H
            replace H : (if t261 = true then (if t233 = 0 then ((slipstickref01_Same.f k t237 (([2] : List Int))).bind fun t265 => (if t265 = true then (if t240 = true then (if t241 = 3298534883328 then (if t242 = 0 then (if t249 = 6 then ((nat_Of.f k 5).bind fun t266 => ((nat_Nat_Len.f k t266).bind fun t269 => (if t269 = 3 then ((nat_Of.f k 5).bind fun t270 => ((nat_Nat_Bit.f t270 2).bind fun t273 => (if t273 = 1 then ((nat_Of.f k 12).bind fun t274 => ((nat_Nat_Zeros.f k t274).bind fun t277 => (if t277 = 2 then ((nat_Of.f k 3).bind fun t278 => ((nat_Cmp.f k t278 (([3, 0] : List Int))).bind fun t284 => (if t284 = 0 then ((nat_Add.f k ([] : List Int) (([0] : List Int))).bind fun t288 => (some ((t288.length : Int) == 0))) else (none)))) else (none)))) else (none)))) else (none)))) else (none)) else (none)) else (none)) else (none)) else (none))) else (none)) else (none)) = some r := H
            have A24 := Aside0.mk A240
            clear A240
            by_cases c25 : t261 = true
            · subst c25
              have H1 : (if t233 = 0 then ((slipstickref01_Same.f k t237 (([2] : List Int))).bind fun t265 => (if t265 = true then (if t240 = true then (if t241 = 3298534883328 then (if t242 = 0 then (if t249 = 6 then ((nat_Of.f k 5).bind fun t266 => ((nat_Nat_Len.f k t266).bind fun t269 => (if t269 = 3 then ((nat_Of.f k 5).bind fun t270 => ((nat_Nat_Bit.f t270 2).bind fun t273 => (if t273 = 1 then ((nat_Of.f k 12).bind fun t274 => ((nat_Nat_Zeros.f k t274).bind fun t277 => (if t277 = 2 then ((nat_Of.f k 3).bind fun t278 => ((nat_Cmp.f k t278 (([3, 0] : List Int))).bind fun t284 => (if t284 = 0 then ((nat_Add.f k ([] : List Int) (([0] : List Int))).bind fun t288 => (some ((t288.length : Int) == 0))) else (none)))) else (none)))) else (none)))) else (none)))) else (none)) else (none)) else (none)) else (none)) else (none))) else (none)) = some r := by rw [if_pos rfl] at H; exact H
              clear H
              have H := H1
              clear H1
              by_cases c26 : t233 = 0
              · rw [if_pos c26] at H
                have c26b0 : (t233 == 0) = true := beq_iff_eq.mpr c26
                have c26b1 : (t233 != 0) = false := bne_eq_false_iff_eq.mpr c26
                clear c26
                obtain ⟨y262, hy262⟩ : ∃ y_ : List Int, y_ = (([2] : List Int)) := ⟨_, rfl⟩
                replace H : ((slipstickref01_Same.f k t237 y262).bind fun t265 => (if t265 = true then (if t240 = true then (if t241 = 3298534883328 then (if t242 = 0 then (if t249 = 6 then ((nat_Of.f k 5).bind fun t266 => ((nat_Nat_Len.f k t266).bind fun t269 => (if t269 = 3 then ((nat_Of.f k 5).bind fun t270 => ((nat_Nat_Bit.f t270 2).bind fun t273 => (if t273 = 1 then ((nat_Of.f k 12).bind fun t274 => ((nat_Nat_Zeros.f k t274).bind fun t277 => (if t277 = 2 then ((nat_Of.f k 3).bind fun t278 => ((nat_Cmp.f k t278 (([3, 0] : List Int))).bind fun t284 => (if t284 = 0 then ((nat_Add.f k ([] : List Int) (([0] : List Int))).bind fun t288 => (some ((t288.length : Int) == 0))) else (none)))) else (none)))) else (none)))) else (none)))) else (none)) else (none)) else (none)) else (none)) else (none))) = some r := by first | (rw [hy262]; with_reducible exact H) | (have H2_ := (Option.bind_some _ _).symm.trans H; rw [hy262]; with_reducible exact H2_) | (have H2_ := (Option.bind_some _ _).symm.trans H; with_reducible exact H2_) | with_reducible exact H | (rw [hy262]; exact H) | exact H
                have Ny262 := Aside0.mk hy262
                clear hy262
                replace H := Option.bind_eq_some_iff.mp H
                obtain ⟨t265, A270, H⟩ := H
                replace H : (if t265 = true then (if t240 = true then (if t241 = 3298534883328 then (if t242 = 0 then (if t249 = 6 then ((nat_Of.f k 5).bind fun t266 => ((nat_Nat_Len.f k t266).bind fun t269 => (if t269 = 3 then ((nat_Of.f k 5).bind fun t270 => ((nat_Nat_Bit.f t270 2).bind fun t273 => (if t273 = 1 then ((nat_Of.f k 12).bind fun t274 => ((nat_Nat_Zeros.f k t274).bind fun t277 => (if t277 = 2 then ((nat_Of.f k 3).bind fun t278 => ((nat_Cmp.f k t278 (([3, 0] : List Int))).bind fun t284 => (if t284 = 0 then ((nat_Add.f k ([] : List Int) (([0] : List Int))).bind fun t288 => (some ((t288.length : Int) == 0))) else (none)))) else (none)))) else (none)))) else (none)))) else (none)) else (none)) else (none)) else (none)) else (none)) = some r := H
                have A27 := Aside0.mk A270
                clear A270
                by_cases c28 : t265 = true
                · subst c28
                  have H1 : (if t240 = true then (if t241 = 3298534883328 then (if t242 = 0 then (if t249 = 6 then ((nat_Of.f k 5).bind fun t266 => ((nat_Nat_Len.f k t266).bind fun t269 => (if t269 = 3 then ((nat_Of.f k 5).bind fun t270 => ((nat_Nat_Bit.f t270 2).bind fun t273 => (if t273 = 1 then ((nat_Of.f k 12).bind fun t274 => ((nat_Nat_Zeros.f k t274).bind fun t277 => (if t277 = 2 then ((nat_Of.f k 3).bind fun t278 => ((nat_Cmp.f k t278 (([3, 0] : List Int))).bind fun t284 => (if t284 = 0 then ((nat_Add.f k ([] : List Int) (([0] : List Int))).bind fun t288 => (some ((t288.length : Int) == 0))) else (none)))) else (none)))) else (none)))) else (none)))) else (none)) else (none)) else (none)) else (none)) = some r := by rw [if_pos rfl] at H; exact H
                  clear H
                  have H := H1
                  clear H1
                  by_cases c29 : t240 = true
                  · subst c29
                    have H1 : (if t241 = 3298534883328 then (if t242 = 0 then (if t249 = 6 then ((nat_Of.f k 5).bind fun t266 => ((nat_Nat_Len.f k t266).bind fun t269 => (if t269 = 3 then ((nat_Of.f k 5).bind fun t270 => ((nat_Nat_Bit.f t270 2).bind fun t273 => (if t273 = 1 then ((nat_Of.f k 12).bind fun t274 => ((nat_Nat_Zeros.f k t274).bind fun t277 => (if t277 = 2 then ((nat_Of.f k 3).bind fun t278 => ((nat_Cmp.f k t278 (([3, 0] : List Int))).bind fun t284 => (if t284 = 0 then ((nat_Add.f k ([] : List Int) (([0] : List Int))).bind fun t288 => (some ((t288.length : Int) == 0))) else (none)))) else (none)))) else (none)))) else (none)))) else (none)) else (none)) else (none)) = some r := by rw [if_pos rfl] at H; exact H
                    clear H
                    have H := H1
                    clear H1
                    by_cases c30 : t241 = 3298534883328
                    · rw [if_pos c30] at H
                      have c30b0 : (t241 == 3298534883328) = true := beq_iff_eq.mpr c30
                      have c30b1 : (t241 != 3298534883328) = false := bne_eq_false_iff_eq.mpr c30
                      clear c30
                      by_cases c31 : t242 = 0
                      · rw [if_pos c31] at H
                        have c31b0 : (t242 == 0) = true := beq_iff_eq.mpr c31
                        have c31b1 : (t242 != 0) = false := bne_eq_false_iff_eq.mpr c31
                        clear c31
                        by_cases c32 : t249 = 6
                        · rw [if_pos c32] at H
                          have c32b0 : (t249 == 6) = true := beq_iff_eq.mpr c32
                          have c32b1 : (t249 != 6) = false := bne_eq_false_iff_eq.mpr c32
                          clear c32
                          replace H := Option.bind_eq_some_iff.mp H
                          obtain ⟨t266, A330, H⟩ := H
                          replace H : ((nat_Nat_Len.f k t266).bind fun t269 => (if t269 = 3 then ((nat_Of.f k 5).bind fun t270 => ((nat_Nat_Bit.f t270 2).bind fun t273 => (if t273 = 1 then ((nat_Of.f k 12).bind fun t274 => ((nat_Nat_Zeros.f k t274).bind fun t277 => (if t277 = 2 then ((nat_Of.f k 3).bind fun t278 => ((nat_Cmp.f k t278 (([3, 0] : List Int))).bind fun t284 => (if t284 = 0 then ((nat_Add.f k ([] : List Int) (([0] : List Int))).bind fun t288 => (some ((t288.length : Int) == 0))) else (none)))) else (none)))) else (none)))) else (none))) = some r := H
                          have A33 := Aside0.mk A330
                          clear A330
                          replace H := Option.bind_eq_some_iff.mp H
                          obtain ⟨t269, A340, H⟩ := H
                          replace H : (if t269 = 3 then ((nat_Of.f k 5).bind fun t270 => ((nat_Nat_Bit.f t270 2).bind fun t273 => (if t273 = 1 then ((nat_Of.f k 12).bind fun t274 => ((nat_Nat_Zeros.f k t274).bind fun t277 => (if t277 = 2 then ((nat_Of.f k 3).bind fun t278 => ((nat_Cmp.f k t278 (([3, 0] : List Int))).bind fun t284 => (if t284 = 0 then ((nat_Add.f k ([] : List Int) (([0] : List Int))).bind fun t288 => (some ((t288.length : Int) == 0))) else (none)))) else (none)))) else (none)))) else (none)) = some r := H
                          have A34 := Aside0.mk A340
                          clear A340
                          by_cases c35 : t269 = 3
                          · rw [if_pos c35] at H
                            have c35b0 : (t269 == 3) = true := beq_iff_eq.mpr c35
                            have c35b1 : (t269 != 3) = false := bne_eq_false_iff_eq.mpr c35
                            clear c35
                            replace H := Option.bind_eq_some_iff.mp H
                            obtain ⟨t270, A360, H⟩ := H
                            replace H : ((nat_Nat_Bit.f t270 2).bind fun t273 => (if t273 = 1 then ((nat_Of.f k 12).bind fun t274 => ((nat_Nat_Zeros.f k t274).bind fun t277 => (if t277 = 2 then ((nat_Of.f k 3).bind fun t278 => ((nat_Cmp.f k t278 (([3, 0] : List Int))).bind fun t284 => (if t284 = 0 then ((nat_Add.f k ([] : List Int) (([0] : List Int))).bind fun t288 => (some ((t288.length : Int) == 0))) else (none)))) else (none)))) else (none))) = some r := H
                            have A36 := Aside0.mk A360
                            clear A360
                            replace H := Option.bind_eq_some_iff.mp H
                            obtain ⟨t273, A370, H⟩ := H
                            replace H : (if t273 = 1 then ((nat_Of.f k 12).bind fun t274 => ((nat_Nat_Zeros.f k t274).bind fun t277 => (if t277 = 2 then ((nat_Of.f k 3).bind fun t278 => ((nat_Cmp.f k t278 (([3, 0] : List Int))).bind fun t284 => (if t284 = 0 then ((nat_Add.f k ([] : List Int) (([0] : List Int))).bind fun t288 => (some ((t288.length : Int) == 0))) else (none)))) else (none)))) else (none)) = some r := H
                            have A37 := Aside0.mk A370
                            clear A370
                            by_cases c38 : t273 = 1
                            · rw [if_pos c38] at H
                              have c38b0 : (t273 == 1) = true := beq_iff_eq.mpr c38
                              have c38b1 : (t273 != 1) = false := bne_eq_false_iff_eq.mpr c38
                              clear c38
                              replace H := Option.bind_eq_some_iff.mp H
                              obtain ⟨t274, A390, H⟩ := H
                              replace H : ((nat_Nat_Zeros.f k t274).bind fun t277 => (if t277 = 2 then ((nat_Of.f k 3).bind fun t278 => ((nat_Cmp.f k t278 (([3, 0] : List Int))).bind fun t284 => (if t284 = 0 then ((nat_Add.f k ([] : List Int) (([0] : List Int))).bind fun t288 => (some ((t288.length : Int) == 0))) else (none)))) else (none))) = some r := H
                              have A39 := Aside0.mk A390
                              clear A390
                              replace H := Option.bind_eq_some_iff.mp H
                              obtain ⟨t277, A400, H⟩ := H
                              replace H : (if t277 = 2 then ((nat_Of.f k 3).bind fun t278 => ((nat_Cmp.f k t278 (([3, 0] : List Int))).bind fun t284 => (if t284 = 0 then ((nat_Add.f k ([] : List Int) (([0] : List Int))).bind fun t288 => (some ((t288.length : Int) == 0))) else (none)))) else (none)) = some r := H
                              have A40 := Aside0.mk A400
                              clear A400
                              by_cases c41 : t277 = 2
                              · rw [if_pos c41] at H
                                have c41b0 : (t277 == 2) = true := beq_iff_eq.mpr c41
                                have c41b1 : (t277 != 2) = false := bne_eq_false_iff_eq.mpr c41
                                clear c41
                                replace H := Option.bind_eq_some_iff.mp H
                                obtain ⟨t278, A420, H⟩ := H
                                replace H : ((nat_Cmp.f k t278 (([3, 0] : List Int))).bind fun t284 => (if t284 = 0 then ((nat_Add.f k ([] : List Int) (([0] : List Int))).bind fun t288 => (some ((t288.length : Int) == 0))) else (none))) = some r := H
                                have A42 := Aside0.mk A420
                                clear A420
                                obtain ⟨y281, hy281⟩ : ∃ y_ : List Int, y_ = (([3, 0] : List Int)) := ⟨_, rfl⟩
                                replace H : ((nat_Cmp.f k t278 y281).bind fun t284 => (if t284 = 0 then ((nat_Add.f k ([] : List Int) (([0] : List Int))).bind fun t288 => (some ((t288.length : Int) == 0))) else (none))) = some r := by first | (rw [hy281]; with_reducible exact H) | (have H2_ := (Option.bind_some _ _).symm.trans H; rw [hy281]; with_reducible exact H2_) | (have H2_ := (Option.bind_some _ _).symm.trans H; with_reducible exact H2_) | with_reducible exact H | (rw [hy281]; exact H) | exact H
                                have Ny281 := Aside0.mk hy281
                                clear hy281
                                replace H := Option.bind_eq_some_iff.mp H
                                obtain ⟨t284, A430, H⟩ := H
                                replace H : (if t284 = 0 then ((nat_Add.f k ([] : List Int) (([0] : List Int))).bind fun t288 => (some ((t288.length : Int) == 0))) else (none)) = some r := H
                                have A43 := Aside0.mk A430
                                clear A430
                                by_cases c44 : t284 = 0
                                · rw [if_pos c44] at H
                                  have c44b0 : (t284 == 0) = true := beq_iff_eq.mpr c44
                                  have c44b1 : (t284 != 0) = false := bne_eq_false_iff_eq.mpr c44
                                  clear c44
                                  obtain ⟨y285, hy285⟩ : ∃ y_ : List Int, y_ = (([0] : List Int)) := ⟨_, rfl⟩
                                  replace H : ((nat_Add.f k ([] : List Int) y285).bind fun t288 => (some ((t288.length : Int) == 0))) = some r := by first | (rw [hy285]; with_reducible exact H) | (have H2_ := (Option.bind_some _ _).symm.trans H; rw [hy285]; with_reducible exact H2_) | (have H2_ := (Option.bind_some _ _).symm.trans H; with_reducible exact H2_) | with_reducible exact H | (rw [hy285]; exact H) | exact H
                                  have Ny285 := Aside0.mk hy285
                                  clear hy285
                                  replace H := Option.bind_eq_some_iff.mp H
                                  obtain ⟨t288, A450, H⟩ := H
                                  replace H : (some ((t288.length : Int) == 0)) = some r := H
                                  have A45 := Aside0.mk A450
                                  clear A450
                                  obtain rfl := Option.some.inj H
                                  go_enter Try.func9, Try.ntmps9
                                  (have hz_ := Ny250.out; subst hz_)
                                  (have hz_ := Ny254.out; subst hz_)
                                  (have hz_ := Ny258.out; subst hz_)
                                  (have hz_ := Ny262.out; subst hz_)
                                  (have hz_ := Ny281.out; subst hz_)
                                  (have hz_ := Ny285.out; subst hz_)
                                  go_wp2_with fail
                                  (with_reducible refine (nat_Of.calls k 4294967296 t197 _ A1.out).mono ?_)
                                  rintro e w46 ⟨v198, rfl, ho0, hb⟩
                                  have n0_ := Aside0.mk (Kd.V_lower (Kd.V_mono (ok' := fun k_ => True) ho0 (fun k_ hk_ => trivial)) (below_size (by repeat (first | (with_reducible first | exact HB.out | apply below_alloc | apply pw_below_drewN | apply below_drew1) | exact HB.out))))
                                  have n1_ := Aside0.mk (below_step (by repeat (first | (with_reducible first | exact HB.out | apply below_alloc | apply pw_below_drewN | apply below_drew1) | exact HB.out)) hb)
                                  clear HB
                                  have HO199 := n0_
                                  have HB := n1_
                                  clear n0_ n1_
                                  (try clear hb)
                                  (try clear hb2)
                                  (try clear hk)
                                  (try clear hi)
                                  (try clear ho0)
                                  go_wp2_with fail
                                  (with_reducible refine (nat_Of.calls k 1 t200 _ A2.out).mono ?_)
                                  rintro e w47 ⟨v201, rfl, ho0, hb⟩
                                  have n0_ := Aside0.mk (Kd.V_below (by (with_reducible repeat (first | apply Kd.V_alloc | apply Kd.V_drewN | apply Kd.V_drew)); exact HO199.out) hb)
                                  have n1_ := Aside0.mk (Kd.V_lower (Kd.V_mono (ok' := fun k_ => True) ho0 (fun k_ hk_ => trivial)) (below_size (by repeat (first | (with_reducible first | exact HB.out | apply below_alloc | apply pw_below_drewN | apply below_drew1) | exact HB.out))))
                                  have n2_ := Aside0.mk (below_step (by repeat (first | (with_reducible first | exact HB.out | apply below_alloc | apply pw_below_drewN | apply below_drew1) | exact HB.out)) hb)
                                  clear HO199
                                  clear HB
                                  have HO199 := n0_
                                  have HO202 := n1_
                                  have HB := n2_
                                  clear n0_ n1_ n2_
                                  (try clear hb)
                                  (try clear hb2)
                                  (try clear hk)
                                  (try clear hi)
                                  (try clear ho0)
                                  obtain ⟨Ao48, co48, eo48⟩ := Kd.V_slice HO199.out
                                  subst eo48
                                  obtain ⟨Ao49, co49, eo49⟩ := Kd.V_slice HO202.out
                                  subst eo49
                                  go_wp2_with fail
                                  (with_reducible refine (nat_Sub.calls k _ _ t197 _ _ t200 t203 t206 _ ?side1 ?side2 ?side3 ?side4 A3.out).mono ?_)
                                  (case side1 => repeat (first | exact (Kd.V_reads' HO199.out).2.2 | (with_reducible refine Kd.C_alloc ?_ _) | (with_reducible refine Kd.C_drewN ?_ _) | (with_reducible refine Kd.C_drew ?_)))
                                  (case side2 => exact (Kd.V_reads' HO199.out).2.1)
                                  (case side3 => repeat (first | exact (Kd.V_reads' HO202.out).2.2 | (with_reducible refine Kd.C_alloc ?_ _) | (with_reducible refine Kd.C_drewN ?_ _) | (with_reducible refine Kd.C_drew ?_)))
                                  (case side4 => exact (Kd.V_reads' HO202.out).2.1)
                                  rintro e w50 ⟨v204, rfl, ho0, hb⟩
                                  have n0_ := Aside0.mk (Kd.V_below (by (with_reducible repeat (first | apply Kd.V_alloc | apply Kd.V_drewN | apply Kd.V_drew)); exact HO199.out) hb)
                                  have n1_ := Aside0.mk (Kd.V_below (by (with_reducible repeat (first | apply Kd.V_alloc | apply Kd.V_drewN | apply Kd.V_drew)); exact HO202.out) hb)
                                  have n2_ := Aside0.mk (Kd.V_lower (Kd.V_mono (ok' := fun k_ => True) ho0 (fun k_ hk_ => trivial)) (below_size (by repeat (first | (with_reducible first | exact HB.out | apply below_alloc | apply pw_below_drewN | apply below_drew1) | exact HB.out))))
                                  have n3_ := Aside0.mk (below_step (by repeat (first | (with_reducible first | exact HB.out | apply below_alloc | apply pw_below_drewN | apply below_drew1) | exact HB.out)) hb)
                                  clear HO199
                                  clear HO202
                                  clear HB
                                  have HO199 := n0_
                                  have HO202 := n1_
                                  have HO205 := n2_
                                  have HB := n3_
                                  clear n0_ n1_ n2_ n3_
                                  (try clear hb)
                                  (try clear hb2)
                                  (try clear hk)
                                  (try clear hi)
                                  (try clear ho0)
                                  go_wp2_with fail
                                  (with_reducible refine (nat_Of.calls k 1 t207 _ A4.out).mono ?_)
                                  rintro e w51 ⟨v208, rfl, ho0, hb⟩
                                  have n0_ := Aside0.mk (Kd.V_below (by (with_reducible repeat (first | apply Kd.V_alloc | apply Kd.V_drewN | apply Kd.V_drew)); exact HO199.out) hb)
                                  have n1_ := Aside0.mk (Kd.V_below (by (with_reducible repeat (first | apply Kd.V_alloc | apply Kd.V_drewN | apply Kd.V_drew)); exact HO202.out) hb)
                                  have n2_ := Aside0.mk (Kd.V_below (by (with_reducible repeat (first | apply Kd.V_alloc | apply Kd.V_drewN | apply Kd.V_drew)); exact HO205.out) hb)
                                  have n3_ := Aside0.mk (Kd.V_lower (Kd.V_mono (ok' := fun k_ => True) ho0 (fun k_ hk_ => trivial)) (below_size (by repeat (first | (with_reducible first | exact HB.out | apply below_alloc | apply pw_below_drewN | apply below_drew1) | exact HB.out))))
                                  have n4_ := Aside0.mk (below_step (by repeat (first | (with_reducible first | exact HB.out | apply below_alloc | apply pw_below_drewN | apply below_drew1) | exact HB.out)) hb)
                                  clear HO199
                                  clear HO202
                                  clear HO205
                                  clear HB
                                  have HO199 := n0_
                                  have HO202 := n1_
                                  have HO205 := n2_
                                  have HO209 := n3_
                                  have HB := n4_
                                  clear n0_ n1_ n2_ n3_ n4_
                                  (try clear hb)
                                  (try clear hb2)
                                  (try clear hk)
                                  (try clear hi)
                                  (try clear ho0)
                                  go_wp2_with fail
                                  (with_reducible refine (nat_Of.calls k 2 t210 _ A5.out).mono ?_)
                                  rintro e w52 ⟨v211, rfl, ho0, hb⟩
                                  have n0_ := Aside0.mk (Kd.V_below (by (with_reducible repeat (first | apply Kd.V_alloc | apply Kd.V_drewN | apply Kd.V_drew)); exact HO199.out) hb)
                                  have n1_ := Aside0.mk (Kd.V_below (by (with_reducible repeat (first | apply Kd.V_alloc | apply Kd.V_drewN | apply Kd.V_drew)); exact HO202.out) hb)
                                  have n2_ := Aside0.mk (Kd.V_below (by (with_reducible repeat (first | apply Kd.V_alloc | apply Kd.V_drewN | apply Kd.V_drew)); exact HO205.out) hb)
                                  have n3_ := Aside0.mk (Kd.V_below (by (with_reducible repeat (first | apply Kd.V_alloc | apply Kd.V_drewN | apply Kd.V_drew)); exact HO209.out) hb)
                                  have n4_ := Aside0.mk (Kd.V_lower (Kd.V_mono (ok' := fun k_ => True) ho0 (fun k_ hk_ => trivial)) (below_size (by repeat (first | (with_reducible first | exact HB.out | apply below_alloc | apply pw_below_drewN | apply below_drew1) | exact HB.out))))
                                  have n5_ := Aside0.mk (below_step (by repeat (first | (with_reducible first | exact HB.out | apply below_alloc | apply pw_below_drewN | apply below_drew1) | exact HB.out)) hb)
                                  clear HO199
                                  clear HO202
                                  clear HO205
                                  clear HO209
                                  clear HB
                                  have HO199 := n0_
                                  have HO202 := n1_
                                  have HO205 := n2_
                                  have HO209 := n3_
                                  have HO212 := n4_
                                  have HB := n5_
                                  clear n0_ n1_ n2_ n3_ n4_ n5_
                                  (try clear hb)
                                  (try clear hb2)
                                  (try clear hk)
                                  (try clear hi)
                                  (try clear ho0)
                                  obtain ⟨Ao53, co53, eo53⟩ := Kd.V_slice HO209.out
                                  subst eo53
                                  obtain ⟨Ao54, co54, eo54⟩ := Kd.V_slice HO212.out
                                  subst eo54
                                  go_wp2_with fail
                                  (with_reducible refine (nat_Sub.calls k _ _ t207 _ _ t210 t213 t216 _ ?side1 ?side2 ?side3 ?side4 A6.out).mono ?_)
                                  (case side1 => repeat (first | exact (Kd.V_reads' HO209.out).2.2 | (with_reducible refine Kd.C_alloc ?_ _) | (with_reducible refine Kd.C_drewN ?_ _) | (with_reducible refine Kd.C_drew ?_)))
                                  (case side2 => exact (Kd.V_reads' HO209.out).2.1)
                                  (case side3 => repeat (first | exact (Kd.V_reads' HO212.out).2.2 | (with_reducible refine Kd.C_alloc ?_ _) | (with_reducible refine Kd.C_drewN ?_ _) | (with_reducible refine Kd.C_drew ?_)))
                                  (case side4 => exact (Kd.V_reads' HO212.out).2.1)
                                  rintro e w55 ⟨v214, rfl, ho0, hb⟩
                                  have n0_ := Aside0.mk (Kd.V_below (by (with_reducible repeat (first | apply Kd.V_alloc | apply Kd.V_drewN | apply Kd.V_drew)); exact HO199.out) hb)
                                  have n1_ := Aside0.mk (Kd.V_below (by (with_reducible repeat (first | apply Kd.V_alloc | apply Kd.V_drewN | apply Kd.V_drew)); exact HO202.out) hb)
                                  have n2_ := Aside0.mk (Kd.V_below (by (with_reducible repeat (first | apply Kd.V_alloc | apply Kd.V_drewN | apply Kd.V_drew)); exact HO205.out) hb)
                                  have n3_ := Aside0.mk (Kd.V_below (by (with_reducible repeat (first | apply Kd.V_alloc | apply Kd.V_drewN | apply Kd.V_drew)); exact HO209.out) hb)
                                  have n4_ := Aside0.mk (Kd.V_below (by (with_reducible repeat (first | apply Kd.V_alloc | apply Kd.V_drewN | apply Kd.V_drew)); exact HO212.out) hb)
                                  have n5_ := Aside0.mk (Kd.V_lower (Kd.V_mono (ok' := fun k_ => True) ho0 (fun k_ hk_ => trivial)) (below_size (by repeat (first | (with_reducible first | exact HB.out | apply below_alloc | apply pw_below_drewN | apply below_drew1) | exact HB.out))))
                                  have n6_ := Aside0.mk (below_step (by repeat (first | (with_reducible first | exact HB.out | apply below_alloc | apply pw_below_drewN | apply below_drew1) | exact HB.out)) hb)
                                  clear HO199
                                  clear HO202
                                  clear HO205
                                  clear HO209
                                  clear HO212
                                  clear HB
                                  have HO199 := n0_
                                  have HO202 := n1_
                                  have HO205 := n2_
                                  have HO209 := n3_
                                  have HO212 := n4_
                                  have HO215 := n5_
                                  have HB := n6_
                                  clear n0_ n1_ n2_ n3_ n4_ n5_ n6_
                                  (try clear hb)
                                  (try clear hb2)
                                  (try clear hk)
                                  (try clear hi)
                                  (try clear ho0)
                                  go_wp2_with fail
                                  (with_reducible refine (nat_Of.calls k 1099511627776 t217 _ A7.out).mono ?_)
                                  rintro e w56 ⟨v218, rfl, ho0, hb⟩
                                  have n0_ := Aside0.mk (Kd.V_below (by (with_reducible repeat (first | apply Kd.V_alloc | apply Kd.V_drewN | apply Kd.V_drew)); exact HO199.out) hb)
                                  have n1_ := Aside0.mk (Kd.V_below (by (with_reducible repeat (first | apply Kd.V_alloc | apply Kd.V_drewN | apply Kd.V_drew)); exact HO202.out) hb)
                                  have n2_ := Aside0.mk (Kd.V_below (by (with_reducible repeat (first | apply Kd.V_alloc | apply Kd.V_drewN | apply Kd.V_drew)); exact HO205.out) hb)
                                  have n3_ := Aside0.mk (Kd.V_below (by (with_reducible repeat (first | apply Kd.V_alloc | apply Kd.V_drewN | apply Kd.V_drew)); exact HO209.out) hb)
                                  have n4_ := Aside0.mk (Kd.V_below (by (with_reducible repeat (first | apply Kd.V_alloc | apply Kd.V_drewN | apply Kd.V_drew)); exact HO212.out) hb)
                                  have n5_ := Aside0.mk (Kd.V_below (by (with_reducible repeat (first | apply Kd.V_alloc | apply Kd.V_drewN | apply Kd.V_drew)); exact HO215.out) hb)
                                  have n6_ := Aside0.mk (Kd.V_lower (Kd.V_mono (ok' := fun k_ => True) ho0 (fun k_ hk_ => trivial)) (below_size (by repeat (first | (with_reducible first | exact HB.out | apply below_alloc | apply pw_below_drewN | apply below_drew1) | exact HB.out))))
                                  have n7_ := Aside0.mk (below_step (by repeat (first | (with_reducible first | exact HB.out | apply below_alloc | apply pw_below_drewN | apply below_drew1) | exact HB.out)) hb)
                                  clear HO199
                                  clear HO202
                                  clear HO205
                                  clear HO209
                                  clear HO212
                                  clear HO215
                                  clear HB
                                  have HO199 := n0_
                                  have HO202 := n1_
                                  have HO205 := n2_
                                  have HO209 := n3_
                                  have HO212 := n4_
                                  have HO215 := n5_
                                  have HO219 := n6_
                                  have HB := n7_
                                  clear n0_ n1_ n2_ n3_ n4_ n5_ n6_ n7_
                                  (try clear hb)
                                  (try clear hb2)
                                  (try clear hk)
                                  (try clear hi)
                                  (try clear ho0)
                                  go_wp2_with fail
                                  (with_reducible refine (nat_Of.calls k 3 t220 _ A8.out).mono ?_)
                                  rintro e w57 ⟨v221, rfl, ho0, hb⟩
                                  have n0_ := Aside0.mk (Kd.V_below (by (with_reducible repeat (first | apply Kd.V_alloc | apply Kd.V_drewN | apply Kd.V_drew)); exact HO199.out) hb)
                                  have n1_ := Aside0.mk (Kd.V_below (by (with_reducible repeat (first | apply Kd.V_alloc | apply Kd.V_drewN | apply Kd.V_drew)); exact HO202.out) hb)
                                  have n2_ := Aside0.mk (Kd.V_below (by (with_reducible repeat (first | apply Kd.V_alloc | apply Kd.V_drewN | apply Kd.V_drew)); exact HO205.out) hb)
                                  have n3_ := Aside0.mk (Kd.V_below (by (with_reducible repeat (first | apply Kd.V_alloc | apply Kd.V_drewN | apply Kd.V_drew)); exact HO209.out) hb)
                                  have n4_ := Aside0.mk (Kd.V_below (by (with_reducible repeat (first | apply Kd.V_alloc | apply Kd.V_drewN | apply Kd.V_drew)); exact HO212.out) hb)
                                  have n5_ := Aside0.mk (Kd.V_below (by (with_reducible repeat (first | apply Kd.V_alloc | apply Kd.V_drewN | apply Kd.V_drew)); exact HO215.out) hb)
                                  have n6_ := Aside0.mk (Kd.V_below (by (with_reducible repeat (first | apply Kd.V_alloc | apply Kd.V_drewN | apply Kd.V_drew)); exact HO219.out) hb)
                                  have n7_ := Aside0.mk (Kd.V_lower (Kd.V_mono (ok' := fun k_ => True) ho0 (fun k_ hk_ => trivial)) (below_size (by repeat (first | (with_reducible first | exact HB.out | apply below_alloc | apply pw_below_drewN | apply below_drew1) | exact HB.out))))
                                  have n8_ := Aside0.mk (below_step (by repeat (first | (with_reducible first | exact HB.out | apply below_alloc | apply pw_below_drewN | apply below_drew1) | exact HB.out)) hb)
                                  clear HO199
                                  clear HO202
                                  clear HO205
                                  clear HO209
                                  clear HO212
                                  clear HO215
                                  clear HO219
                                  clear HB
                                  have HO199 := n0_
                                  have HO202 := n1_
                                  have HO205 := n2_
                                  have HO209 := n3_
                                  have HO212 := n4_
                                  have HO215 := n5_
                                  have HO219 := n6_
                                  have HO222 := n7_
                                  have HB := n8_
                                  clear n0_ n1_ n2_ n3_ n4_ n5_ n6_ n7_ n8_
                                  (try clear hb)
                                  (try clear hb2)
                                  (try clear hk)
                                  (try clear hi)
                                  (try clear ho0)
                                  obtain ⟨Ao58, co58, eo58⟩ := Kd.V_slice HO219.out
                                  subst eo58
                                  obtain ⟨Ao59, co59, eo59⟩ := Kd.V_slice HO222.out
                                  subst eo59
                                  go_wp2_with fail
                                  (with_reducible refine (nat_Mul.calls k (fun k_ => True) _ _ t217 (fun k_ => True) _ _ t220 t223 t226 _ ?side1 ?side2 A9.out).mono ?_)
                                  (case side1 => exact HO219.out)
                                  (case side2 => exact HO222.out)
                                  rintro e w60 ⟨v224, rfl, ho0, hb⟩
                                  have n0_ := Aside0.mk (Kd.V_below (by (with_reducible repeat (first | apply Kd.V_alloc | apply Kd.V_drewN | apply Kd.V_drew)); exact HO199.out) hb)
                                  have n1_ := Aside0.mk (Kd.V_below (by (with_reducible repeat (first | apply Kd.V_alloc | apply Kd.V_drewN | apply Kd.V_drew)); exact HO202.out) hb)
                                  have n2_ := Aside0.mk (Kd.V_below (by (with_reducible repeat (first | apply Kd.V_alloc | apply Kd.V_drewN | apply Kd.V_drew)); exact HO205.out) hb)
                                  have n3_ := Aside0.mk (Kd.V_below (by (with_reducible repeat (first | apply Kd.V_alloc | apply Kd.V_drewN | apply Kd.V_drew)); exact HO209.out) hb)
                                  have n4_ := Aside0.mk (Kd.V_below (by (with_reducible repeat (first | apply Kd.V_alloc | apply Kd.V_drewN | apply Kd.V_drew)); exact HO212.out) hb)
                                  have n5_ := Aside0.mk (Kd.V_below (by (with_reducible repeat (first | apply Kd.V_alloc | apply Kd.V_drewN | apply Kd.V_drew)); exact HO215.out) hb)
                                  have n6_ := Aside0.mk (Kd.V_below (by (with_reducible repeat (first | apply Kd.V_alloc | apply Kd.V_drewN | apply Kd.V_drew)); exact HO219.out) hb)
                                  have n7_ := Aside0.mk (Kd.V_below (by (with_reducible repeat (first | apply Kd.V_alloc | apply Kd.V_drewN | apply Kd.V_drew)); exact HO222.out) hb)
                                  have n8_ := Aside0.mk (Kd.V_lower (Kd.V_mono (ok' := fun k_ => True) ho0 (fun k_ hk_ => trivial)) (below_size (by repeat (first | (with_reducible first | exact HB.out | apply below_alloc | apply pw_below_drewN | apply below_drew1) | exact HB.out))))
                                  have n9_ := Aside0.mk (below_step (by repeat (first | (with_reducible first | exact HB.out | apply below_alloc | apply pw_below_drewN | apply below_drew1) | exact HB.out)) hb)
                                  clear HO199
                                  clear HO202
                                  clear HO205
                                  clear HO209
                                  clear HO212
                                  clear HO215
                                  clear HO219
                                  clear HO222
                                  clear HB
                                  have HO199 := n0_
                                  have HO202 := n1_
                                  have HO205 := n2_
                                  have HO209 := n3_
                                  have HO212 := n4_
                                  have HO215 := n5_
                                  have HO219 := n6_
                                  have HO222 := n7_
                                  have HO225 := n8_
                                  have HB := n9_
                                  clear n0_ n1_ n2_ n3_ n4_ n5_ n6_ n7_ n8_ n9_
                                  (try clear hb)
                                  (try clear hb2)
                                  (try clear hk)
                                  (try clear hi)
                                  (try clear ho0)
                                  go_wp2_with fail
                                  (with_reducible refine (nat_Of.calls k 5 t227 _ A10.out).mono ?_)
                                  rintro e w61 ⟨v228, rfl, ho0, hb⟩
                                  have n0_ := Aside0.mk (Kd.V_below (by (with_reducible repeat (first | apply Kd.V_alloc | apply Kd.V_drewN | apply Kd.V_drew)); exact HO199.out) hb)
                                  have n1_ := Aside0.mk (Kd.V_below (by (with_reducible repeat (first | apply Kd.V_alloc | apply Kd.V_drewN | apply Kd.V_drew)); exact HO202.out) hb)
                                  have n2_ := Aside0.mk (Kd.V_below (by (with_reducible repeat (first | apply Kd.V_alloc | apply Kd.V_drewN | apply Kd.V_drew)); exact HO205.out) hb)
                                  have n3_ := Aside0.mk (Kd.V_below (by (with_reducible repeat (first | apply Kd.V_alloc | apply Kd.V_drewN | apply Kd.V_drew)); exact HO209.out) hb)
                                  have n4_ := Aside0.mk (Kd.V_below (by (with_reducible repeat (first | apply Kd.V_alloc | apply Kd.V_drewN | apply Kd.V_drew)); exact HO212.out) hb)
                                  have n5_ := Aside0.mk (Kd.V_below (by (with_reducible repeat (first | apply Kd.V_alloc | apply Kd.V_drewN | apply Kd.V_drew)); exact HO215.out) hb)
                                  have n6_ := Aside0.mk (Kd.V_below (by (with_reducible repeat (first | apply Kd.V_alloc | apply Kd.V_drewN | apply Kd.V_drew)); exact HO219.out) hb)
                                  have n7_ := Aside0.mk (Kd.V_below (by (with_reducible repeat (first | apply Kd.V_alloc | apply Kd.V_drewN | apply Kd.V_drew)); exact HO222.out) hb)
                                  have n8_ := Aside0.mk (Kd.V_below (by (with_reducible repeat (first | apply Kd.V_alloc | apply Kd.V_drewN | apply Kd.V_drew)); exact HO225.out) hb)
                                  have n9_ := Aside0.mk (Kd.V_lower (Kd.V_mono (ok' := fun k_ => True) ho0 (fun k_ hk_ => trivial)) (below_size (by repeat (first | (with_reducible first | exact HB.out | apply below_alloc | apply pw_below_drewN | apply below_drew1) | exact HB.out))))
                                  have n10_ := Aside0.mk (below_step (by repeat (first | (with_reducible first | exact HB.out | apply below_alloc | apply pw_below_drewN | apply below_drew1) | exact HB.out)) hb)
                                  clear HO199
                                  clear HO202
                                  clear HO205
                                  clear HO209
                                  clear HO212
                                  clear HO215
                                  clear HO219
                                  clear HO222
                                  clear HO225
                                  clear HB
                                  have HO199 := n0_
                                  have HO202 := n1_
                                  have HO205 := n2_
                                  have HO209 := n3_
                                  have HO212 := n4_
                                  have HO215 := n5_
                                  have HO219 := n6_
                                  have HO222 := n7_
                                  have HO225 := n8_
                                  have HO229 := n9_
                                  have HB := n10_
                                  clear n0_ n1_ n2_ n3_ n4_ n5_ n6_ n7_ n8_ n9_ n10_
                                  (try clear hb)
                                  (try clear hb2)
                                  (try clear hk)
                                  (try clear hi)
                                  (try clear ho0)
                                  obtain ⟨Ao62, co62, eo62⟩ := Kd.V_slice HO229.out
                                  subst eo62
                                  go_wp2_with fail
                                  (with_reducible refine (nat_Nat_Left.calls k _ _ t227 33 t230 t233 _ ?side1 ?side2 A11.out).mono ?_)
                                  (case side1 => repeat (first | exact (Kd.V_reads' HO229.out).2.2 | (with_reducible refine Kd.C_alloc ?_ _) | (with_reducible refine Kd.C_drewN ?_ _) | (with_reducible refine Kd.C_drew ?_)))
                                  (case side2 => exact (Kd.V_reads' HO229.out).2.1)
                                  rintro e w63 ⟨v231, rfl, ho0, hb⟩
                                  have n0_ := Aside0.mk (Kd.V_below (by (with_reducible repeat (first | apply Kd.V_alloc | apply Kd.V_drewN | apply Kd.V_drew)); exact HO199.out) hb)
                                  have n1_ := Aside0.mk (Kd.V_below (by (with_reducible repeat (first | apply Kd.V_alloc | apply Kd.V_drewN | apply Kd.V_drew)); exact HO202.out) hb)
                                  have n2_ := Aside0.mk (Kd.V_below (by (with_reducible repeat (first | apply Kd.V_alloc | apply Kd.V_drewN | apply Kd.V_drew)); exact HO205.out) hb)
                                  have n3_ := Aside0.mk (Kd.V_below (by (with_reducible repeat (first | apply Kd.V_alloc | apply Kd.V_drewN | apply Kd.V_drew)); exact HO209.out) hb)
                                  have n4_ := Aside0.mk (Kd.V_below (by (with_reducible repeat (first | apply Kd.V_alloc | apply Kd.V_drewN | apply Kd.V_drew)); exact HO212.out) hb)
                                  have n5_ := Aside0.mk (Kd.V_below (by (with_reducible repeat (first | apply Kd.V_alloc | apply Kd.V_drewN | apply Kd.V_drew)); exact HO215.out) hb)
                                  have n6_ := Aside0.mk (Kd.V_below (by (with_reducible repeat (first | apply Kd.V_alloc | apply Kd.V_drewN | apply Kd.V_drew)); exact HO219.out) hb)
                                  have n7_ := Aside0.mk (Kd.V_below (by (with_reducible repeat (first | apply Kd.V_alloc | apply Kd.V_drewN | apply Kd.V_drew)); exact HO222.out) hb)
                                  have n8_ := Aside0.mk (Kd.V_below (by (with_reducible repeat (first | apply Kd.V_alloc | apply Kd.V_drewN | apply Kd.V_drew)); exact HO225.out) hb)
                                  have n9_ := Aside0.mk (Kd.V_below (by (with_reducible repeat (first | apply Kd.V_alloc | apply Kd.V_drewN | apply Kd.V_drew)); exact HO229.out) hb)
                                  have n10_ := Aside0.mk (Kd.V_lower (Kd.V_mono (ok' := fun k_ => True) ho0 (fun k_ hk_ => trivial)) (below_size (by repeat (first | (with_reducible first | exact HB.out | apply below_alloc | apply pw_below_drewN | apply below_drew1) | exact HB.out))))
                                  have n11_ := Aside0.mk (below_step (by repeat (first | (with_reducible first | exact HB.out | apply below_alloc | apply pw_below_drewN | apply below_drew1) | exact HB.out)) hb)
                                  clear HO199
                                  clear HO202
                                  clear HO205
                                  clear HO209
                                  clear HO212
                                  clear HO215
                                  clear HO219
                                  clear HO222
                                  clear HO225
                                  clear HO229
                                  clear HB
                                  have HO199 := n0_
                                  have HO202 := n1_
                                  have HO205 := n2_
                                  have HO209 := n3_
                                  have HO212 := n4_
                                  have HO215 := n5_
                                  have HO219 := n6_
                                  have HO222 := n7_
                                  have HO225 := n8_
                                  have HO229 := n9_
                                  have HO232 := n10_
                                  have HB := n11_
                                  clear n0_ n1_ n2_ n3_ n4_ n5_ n6_ n7_ n8_ n9_ n10_ n11_
                                  (try clear hb)
                                  (try clear hb2)
                                  (try clear hk)
                                  (try clear hi)
                                  (try clear ho0)
                                  go_wp2_with fail
                                  (with_reducible refine (nat_Of.calls k 5 t234 _ A12.out).mono ?_)
                                  rintro e w64 ⟨v235, rfl, ho0, hb⟩
                                  have n0_ := Aside0.mk (Kd.V_below (by (with_reducible repeat (first | apply Kd.V_alloc | apply Kd.V_drewN | apply Kd.V_drew)); exact HO199.out) hb)
                                  have n1_ := Aside0.mk (Kd.V_below (by (with_reducible repeat (first | apply Kd.V_alloc | apply Kd.V_drewN | apply Kd.V_drew)); exact HO202.out) hb)
                                  have n2_ := Aside0.mk (Kd.V_below (by (with_reducible repeat (first | apply Kd.V_alloc | apply Kd.V_drewN | apply Kd.V_drew)); exact HO205.out) hb)
                                  have n3_ := Aside0.mk (Kd.V_below (by (with_reducible repeat (first | apply Kd.V_alloc | apply Kd.V_drewN | apply Kd.V_drew)); exact HO209.out) hb)
                                  have n4_ := Aside0.mk (Kd.V_below (by (with_reducible repeat (first | apply Kd.V_alloc | apply Kd.V_drewN | apply Kd.V_drew)); exact HO212.out) hb)
                                  have n5_ := Aside0.mk (Kd.V_below (by (with_reducible repeat (first | apply Kd.V_alloc | apply Kd.V_drewN | apply Kd.V_drew)); exact HO215.out) hb)
                                  have n6_ := Aside0.mk (Kd.V_below (by (with_reducible repeat (first | apply Kd.V_alloc | apply Kd.V_drewN | apply Kd.V_drew)); exact HO219.out) hb)
                                  have n7_ := Aside0.mk (Kd.V_below (by (with_reducible repeat (first | apply Kd.V_alloc | apply Kd.V_drewN | apply Kd.V_drew)); exact HO222.out) hb)
                                  have n8_ := Aside0.mk (Kd.V_below (by (with_reducible repeat (first | apply Kd.V_alloc | apply Kd.V_drewN | apply Kd.V_drew)); exact HO225.out) hb)
                                  have n9_ := Aside0.mk (Kd.V_below (by (with_reducible repeat (first | apply Kd.V_alloc | apply Kd.V_drewN | apply Kd.V_drew)); exact HO229.out) hb)
                                  have n10_ := Aside0.mk (Kd.V_below (by (with_reducible repeat (first | apply Kd.V_alloc | apply Kd.V_drewN | apply Kd.V_drew)); exact HO232.out) hb)
                                  have n11_ := Aside0.mk (Kd.V_lower (Kd.V_mono (ok' := fun k_ => True) ho0 (fun k_ hk_ => trivial)) (below_size (by repeat (first | (with_reducible first | exact HB.out | apply below_alloc | apply pw_below_drewN | apply below_drew1) | exact HB.out))))
                                  have n12_ := Aside0.mk (below_step (by repeat (first | (with_reducible first | exact HB.out | apply below_alloc | apply pw_below_drewN | apply below_drew1) | exact HB.out)) hb)
                                  clear HO199
                                  clear HO202
                                  clear HO205
                                  clear HO209
                                  clear HO212
                                  clear HO215
                                  clear HO219
                                  clear HO222
                                  clear HO225
                                  clear HO229
                                  clear HO232
                                  clear HB
                                  have HO199 := n0_
                                  have HO202 := n1_
                                  have HO205 := n2_
                                  have HO209 := n3_
                                  have HO212 := n4_
                                  have HO215 := n5_
                                  have HO219 := n6_
                                  have HO222 := n7_
                                  have HO225 := n8_
                                  have HO229 := n9_
                                  have HO232 := n10_
                                  have HO236 := n11_
                                  have HB := n12_
                                  clear n0_ n1_ n2_ n3_ n4_ n5_ n6_ n7_ n8_ n9_ n10_ n11_ n12_
                                  (try clear hb)
                                  (try clear hb2)
                                  (try clear hk)
                                  (try clear hi)
                                  (try clear ho0)
                                  obtain ⟨Ao65, co65, eo65⟩ := Kd.V_slice HO236.out
                                  subst eo65
                                  go_wp2_with fail
                                  (with_reducible refine (nat_Nat_Right.calls k _ _ t234 1 t237 true _ ?side1 ?side2 A13.out).mono ?_)
                                  (case side1 => repeat (first | exact (Kd.V_reads' HO236.out).2.2 | (with_reducible refine Kd.C_alloc ?_ _) | (with_reducible refine Kd.C_drewN ?_ _) | (with_reducible refine Kd.C_drew ?_)))
                                  (case side2 => exact (Kd.V_reads' HO236.out).2.1)
                                  rintro e w66 ⟨v238, rfl, ho0, hb⟩
                                  have n0_ := Aside0.mk (Kd.V_below (by (with_reducible repeat (first | apply Kd.V_alloc | apply Kd.V_drewN | apply Kd.V_drew)); exact HO199.out) hb)
                                  have n1_ := Aside0.mk (Kd.V_below (by (with_reducible repeat (first | apply Kd.V_alloc | apply Kd.V_drewN | apply Kd.V_drew)); exact HO202.out) hb)
                                  have n2_ := Aside0.mk (Kd.V_below (by (with_reducible repeat (first | apply Kd.V_alloc | apply Kd.V_drewN | apply Kd.V_drew)); exact HO205.out) hb)
                                  have n3_ := Aside0.mk (Kd.V_below (by (with_reducible repeat (first | apply Kd.V_alloc | apply Kd.V_drewN | apply Kd.V_drew)); exact HO209.out) hb)
                                  have n4_ := Aside0.mk (Kd.V_below (by (with_reducible repeat (first | apply Kd.V_alloc | apply Kd.V_drewN | apply Kd.V_drew)); exact HO212.out) hb)
                                  have n5_ := Aside0.mk (Kd.V_below (by (with_reducible repeat (first | apply Kd.V_alloc | apply Kd.V_drewN | apply Kd.V_drew)); exact HO215.out) hb)
                                  have n6_ := Aside0.mk (Kd.V_below (by (with_reducible repeat (first | apply Kd.V_alloc | apply Kd.V_drewN | apply Kd.V_drew)); exact HO219.out) hb)
                                  have n7_ := Aside0.mk (Kd.V_below (by (with_reducible repeat (first | apply Kd.V_alloc | apply Kd.V_drewN | apply Kd.V_drew)); exact HO222.out) hb)
                                  have n8_ := Aside0.mk (Kd.V_below (by (with_reducible repeat (first | apply Kd.V_alloc | apply Kd.V_drewN | apply Kd.V_drew)); exact HO225.out) hb)
                                  have n9_ := Aside0.mk (Kd.V_below (by (with_reducible repeat (first | apply Kd.V_alloc | apply Kd.V_drewN | apply Kd.V_drew)); exact HO229.out) hb)
                                  have n10_ := Aside0.mk (Kd.V_below (by (with_reducible repeat (first | apply Kd.V_alloc | apply Kd.V_drewN | apply Kd.V_drew)); exact HO232.out) hb)
                                  have n11_ := Aside0.mk (Kd.V_below (by (with_reducible repeat (first | apply Kd.V_alloc | apply Kd.V_drewN | apply Kd.V_drew)); exact HO236.out) hb)
                                  have n12_ := Aside0.mk (Kd.V_lower (Kd.V_mono (ok' := fun k_ => True) ho0 (fun k_ hk_ => trivial)) (below_size (by repeat (first | (with_reducible first | exact HB.out | apply below_alloc | apply pw_below_drewN | apply below_drew1) | exact HB.out))))
                                  have n13_ := Aside0.mk (below_step (by repeat (first | (with_reducible first | exact HB.out | apply below_alloc | apply pw_below_drewN | apply below_drew1) | exact HB.out)) hb)
                                  clear HO199
                                  clear HO202
                                  clear HO205
                                  clear HO209
                                  clear HO212
                                  clear HO215
                                  clear HO219
                                  clear HO222
                                  clear HO225
                                  clear HO229
                                  clear HO232
                                  clear HO236
                                  clear HB
                                  have HO199 := n0_
                                  have HO202 := n1_
                                  have HO205 := n2_
                                  have HO209 := n3_
                                  have HO212 := n4_
                                  have HO215 := n5_
                                  have HO219 := n6_
                                  have HO222 := n7_
                                  have HO225 := n8_
                                  have HO229 := n9_
                                  have HO232 := n10_
                                  have HO236 := n11_
                                  have HO239 := n12_
                                  have HB := n13_
                                  clear n0_ n1_ n2_ n3_ n4_ n5_ n6_ n7_ n8_ n9_ n10_ n11_ n12_ n13_
                                  (try clear hb)
                                  (try clear hb2)
                                  (try clear hk)
                                  (try clear hi)
                                  (try clear ho0)
                                  obtain ⟨Ao67, co67, eo67⟩ := Kd.V_slice HO225.out
                                  subst eo67
                                  go_wp2_with fail
                                  (with_reducible refine (nat_Nat_Word.calls k _ _ t223 t241 t242 _ ?side1 ?side2 A14.out).mono ?_)
                                  (case side1 => repeat (first | exact (Kd.V_reads' HO225.out).2.2 | (with_reducible refine Kd.C_alloc ?_ _) | (with_reducible refine Kd.C_drewN ?_ _) | (with_reducible refine Kd.C_drew ?_)))
                                  (case side2 => exact (Kd.V_reads' HO225.out).2.1)
                                  rintro e w68 ⟨rfl, hb⟩
                                  have n0_ := Aside0.mk (Kd.V_below (by (with_reducible repeat (first | apply Kd.V_alloc | apply Kd.V_drewN | apply Kd.V_drew)); exact HO199.out) hb)
                                  have n1_ := Aside0.mk (Kd.V_below (by (with_reducible repeat (first | apply Kd.V_alloc | apply Kd.V_drewN | apply Kd.V_drew)); exact HO202.out) hb)
                                  have n2_ := Aside0.mk (Kd.V_below (by (with_reducible repeat (first | apply Kd.V_alloc | apply Kd.V_drewN | apply Kd.V_drew)); exact HO205.out) hb)
                                  have n3_ := Aside0.mk (Kd.V_below (by (with_reducible repeat (first | apply Kd.V_alloc | apply Kd.V_drewN | apply Kd.V_drew)); exact HO209.out) hb)
                                  have n4_ := Aside0.mk (Kd.V_below (by (with_reducible repeat (first | apply Kd.V_alloc | apply Kd.V_drewN | apply Kd.V_drew)); exact HO212.out) hb)
                                  have n5_ := Aside0.mk (Kd.V_below (by (with_reducible repeat (first | apply Kd.V_alloc | apply Kd.V_drewN | apply Kd.V_drew)); exact HO215.out) hb)
                                  have n6_ := Aside0.mk (Kd.V_below (by (with_reducible repeat (first | apply Kd.V_alloc | apply Kd.V_drewN | apply Kd.V_drew)); exact HO219.out) hb)
                                  have n7_ := Aside0.mk (Kd.V_below (by (with_reducible repeat (first | apply Kd.V_alloc | apply Kd.V_drewN | apply Kd.V_drew)); exact HO222.out) hb)
                                  have n8_ := Aside0.mk (Kd.V_below (by (with_reducible repeat (first | apply Kd.V_alloc | apply Kd.V_drewN | apply Kd.V_drew)); exact HO225.out) hb)
                                  have n9_ := Aside0.mk (Kd.V_below (by (with_reducible repeat (first | apply Kd.V_alloc | apply Kd.V_drewN | apply Kd.V_drew)); exact HO229.out) hb)
                                  have n10_ := Aside0.mk (Kd.V_below (by (with_reducible repeat (first | apply Kd.V_alloc | apply Kd.V_drewN | apply Kd.V_drew)); exact HO232.out) hb)
                                  have n11_ := Aside0.mk (Kd.V_below (by (with_reducible repeat (first | apply Kd.V_alloc | apply Kd.V_drewN | apply Kd.V_drew)); exact HO236.out) hb)
                                  have n12_ := Aside0.mk (Kd.V_below (by (with_reducible repeat (first | apply Kd.V_alloc | apply Kd.V_drewN | apply Kd.V_drew)); exact HO239.out) hb)
                                  have n13_ := Aside0.mk (below_step (by repeat (first | (with_reducible first | exact HB.out | apply below_alloc | apply pw_below_drewN | apply below_drew1) | exact HB.out)) hb)
                                  clear HO199
                                  clear HO202
                                  clear HO205
                                  clear HO209
                                  clear HO212
                                  clear HO215
                                  clear HO219
                                  clear HO222
                                  clear HO225
                                  clear HO229
                                  clear HO232
                                  clear HO236
                                  clear HO239
                                  clear HB
                                  have HO199 := n0_
                                  have HO202 := n1_
                                  have HO205 := n2_
                                  have HO209 := n3_
                                  have HO212 := n4_
                                  have HO215 := n5_
                                  have HO219 := n6_
                                  have HO222 := n7_
                                  have HO225 := n8_
                                  have HO229 := n9_
                                  have HO232 := n10_
                                  have HO236 := n11_
                                  have HO239 := n12_
                                  have HB := n13_
                                  clear n0_ n1_ n2_ n3_ n4_ n5_ n6_ n7_ n8_ n9_ n10_ n11_ n12_ n13_
                                  (try clear hb)
                                  (try clear hb2)
                                  (try clear hk)
                                  (try clear hi)
                                  go_wp2_with fail
                                  (with_reducible refine (nat_Of.calls k 1 t243 _ A15.out).mono ?_)
                                  rintro e w69 ⟨v244, rfl, ho0, hb⟩
                                  have n0_ := Aside0.mk (Kd.V_below (by (with_reducible repeat (first | apply Kd.V_alloc | apply Kd.V_drewN | apply Kd.V_drew)); exact HO199.out) hb)
                                  have n1_ := Aside0.mk (Kd.V_below (by (with_reducible repeat (first | apply Kd.V_alloc | apply Kd.V_drewN | apply Kd.V_drew)); exact HO202.out) hb)
                                  have n2_ := Aside0.mk (Kd.V_below (by (with_reducible repeat (first | apply Kd.V_alloc | apply Kd.V_drewN | apply Kd.V_drew)); exact HO205.out) hb)
                                  have n3_ := Aside0.mk (Kd.V_below (by (with_reducible repeat (first | apply Kd.V_alloc | apply Kd.V_drewN | apply Kd.V_drew)); exact HO209.out) hb)
                                  have n4_ := Aside0.mk (Kd.V_below (by (with_reducible repeat (first | apply Kd.V_alloc | apply Kd.V_drewN | apply Kd.V_drew)); exact HO212.out) hb)
                                  have n5_ := Aside0.mk (Kd.V_below (by (with_reducible repeat (first | apply Kd.V_alloc | apply Kd.V_drewN | apply Kd.V_drew)); exact HO215.out) hb)
                                  have n6_ := Aside0.mk (Kd.V_below (by (with_reducible repeat (first | apply Kd.V_alloc | apply Kd.V_drewN | apply Kd.V_drew)); exact HO219.out) hb)
                                  have n7_ := Aside0.mk (Kd.V_below (by (with_reducible repeat (first | apply Kd.V_alloc | apply Kd.V_drewN | apply Kd.V_drew)); exact HO222.out) hb)
                                  have n8_ := Aside0.mk (Kd.V_below (by (with_reducible repeat (first | apply Kd.V_alloc | apply Kd.V_drewN | apply Kd.V_drew)); exact HO225.out) hb)
                                  have n9_ := Aside0.mk (Kd.V_below (by (with_reducible repeat (first | apply Kd.V_alloc | apply Kd.V_drewN | apply Kd.V_drew)); exact HO229.out) hb)
                                  have n10_ := Aside0.mk (Kd.V_below (by (with_reducible repeat (first | apply Kd.V_alloc | apply Kd.V_drewN | apply Kd.V_drew)); exact HO232.out) hb)
                                  have n11_ := Aside0.mk (Kd.V_below (by (with_reducible repeat (first | apply Kd.V_alloc | apply Kd.V_drewN | apply Kd.V_drew)); exact HO236.out) hb)
                                  have n12_ := Aside0.mk (Kd.V_below (by (with_reducible repeat (first | apply Kd.V_alloc | apply Kd.V_drewN | apply Kd.V_drew)); exact HO239.out) hb)
                                  have n13_ := Aside0.mk (Kd.V_lower (Kd.V_mono (ok' := fun k_ => True) ho0 (fun k_ hk_ => trivial)) (below_size (by repeat (first | (with_reducible first | exact HB.out | apply below_alloc | apply pw_below_drewN | apply below_drew1) | exact HB.out))))
                                  have n14_ := Aside0.mk (below_step (by repeat (first | (with_reducible first | exact HB.out | apply below_alloc | apply pw_below_drewN | apply below_drew1) | exact HB.out)) hb)
                                  clear HO199
                                  clear HO202
                                  clear HO205
                                  clear HO209
                                  clear HO212
                                  clear HO215
                                  clear HO219
                                  clear HO222
                                  clear HO225
                                  clear HO229
                                  clear HO232
                                  clear HO236
                                  clear HO239
                                  clear HB
                                  have HO199 := n0_
                                  have HO202 := n1_
                                  have HO205 := n2_
                                  have HO209 := n3_
                                  have HO212 := n4_
                                  have HO215 := n5_
                                  have HO219 := n6_
                                  have HO222 := n7_
                                  have HO225 := n8_
                                  have HO229 := n9_
                                  have HO232 := n10_
                                  have HO236 := n11_
                                  have HO239 := n12_
                                  have HO245 := n13_
                                  have HB := n14_
                                  clear n0_ n1_ n2_ n3_ n4_ n5_ n6_ n7_ n8_ n9_ n10_ n11_ n12_ n13_ n14_
                                  (try clear hb)
                                  (try clear hb2)
                                  (try clear hk)
                                  (try clear hi)
                                  (try clear ho0)
                                  obtain ⟨Ao70, co70, eo70⟩ := Kd.V_slice HO245.out
                                  subst eo70
                                  go_wp2_with fail
                                  (with_reducible refine (nat_Nat_Left.calls k _ _ t243 16384 t246 t249 _ ?side1 ?side2 A16.out).mono ?_)
                                  (case side1 => repeat (first | exact (Kd.V_reads' HO245.out).2.2 | (with_reducible refine Kd.C_alloc ?_ _) | (with_reducible refine Kd.C_drewN ?_ _) | (with_reducible refine Kd.C_drew ?_)))
                                  (case side2 => exact (Kd.V_reads' HO245.out).2.1)
                                  rintro e w71 ⟨v247, rfl, ho0, hb⟩
                                  have n0_ := Aside0.mk (Kd.V_below (by (with_reducible repeat (first | apply Kd.V_alloc | apply Kd.V_drewN | apply Kd.V_drew)); exact HO199.out) hb)
                                  have n1_ := Aside0.mk (Kd.V_below (by (with_reducible repeat (first | apply Kd.V_alloc | apply Kd.V_drewN | apply Kd.V_drew)); exact HO202.out) hb)
                                  have n2_ := Aside0.mk (Kd.V_below (by (with_reducible repeat (first | apply Kd.V_alloc | apply Kd.V_drewN | apply Kd.V_drew)); exact HO205.out) hb)
                                  have n3_ := Aside0.mk (Kd.V_below (by (with_reducible repeat (first | apply Kd.V_alloc | apply Kd.V_drewN | apply Kd.V_drew)); exact HO209.out) hb)
                                  have n4_ := Aside0.mk (Kd.V_below (by (with_reducible repeat (first | apply Kd.V_alloc | apply Kd.V_drewN | apply Kd.V_drew)); exact HO212.out) hb)
                                  have n5_ := Aside0.mk (Kd.V_below (by (with_reducible repeat (first | apply Kd.V_alloc | apply Kd.V_drewN | apply Kd.V_drew)); exact HO215.out) hb)
                                  have n6_ := Aside0.mk (Kd.V_below (by (with_reducible repeat (first | apply Kd.V_alloc | apply Kd.V_drewN | apply Kd.V_drew)); exact HO219.out) hb)
                                  have n7_ := Aside0.mk (Kd.V_below (by (with_reducible repeat (first | apply Kd.V_alloc | apply Kd.V_drewN | apply Kd.V_drew)); exact HO222.out) hb)
                                  have n8_ := Aside0.mk (Kd.V_below (by (with_reducible repeat (first | apply Kd.V_alloc | apply Kd.V_drewN | apply Kd.V_drew)); exact HO225.out) hb)
                                  have n9_ := Aside0.mk (Kd.V_below (by (with_reducible repeat (first | apply Kd.V_alloc | apply Kd.V_drewN | apply Kd.V_drew)); exact HO229.out) hb)
                                  have n10_ := Aside0.mk (Kd.V_below (by (with_reducible repeat (first | apply Kd.V_alloc | apply Kd.V_drewN | apply Kd.V_drew)); exact HO232.out) hb)
                                  have n11_ := Aside0.mk (Kd.V_below (by (with_reducible repeat (first | apply Kd.V_alloc | apply Kd.V_drewN | apply Kd.V_drew)); exact HO236.out) hb)
                                  have n12_ := Aside0.mk (Kd.V_below (by (with_reducible repeat (first | apply Kd.V_alloc | apply Kd.V_drewN | apply Kd.V_drew)); exact HO239.out) hb)
                                  have n13_ := Aside0.mk (Kd.V_below (by (with_reducible repeat (first | apply Kd.V_alloc | apply Kd.V_drewN | apply Kd.V_drew)); exact HO245.out) hb)
                                  have n14_ := Aside0.mk (Kd.V_lower (Kd.V_mono (ok' := fun k_ => True) ho0 (fun k_ hk_ => trivial)) (below_size (by repeat (first | (with_reducible first | exact HB.out | apply below_alloc | apply pw_below_drewN | apply below_drew1) | exact HB.out))))
                                  have n15_ := Aside0.mk (below_step (by repeat (first | (with_reducible first | exact HB.out | apply below_alloc | apply pw_below_drewN | apply below_drew1) | exact HB.out)) hb)
                                  clear HO199
                                  clear HO202
                                  clear HO205
                                  clear HO209
                                  clear HO212
                                  clear HO215
                                  clear HO219
                                  clear HO222
                                  clear HO225
                                  clear HO229
                                  clear HO232
                                  clear HO236
                                  clear HO239
                                  clear HO245
                                  clear HB
                                  have HO199 := n0_
                                  have HO202 := n1_
                                  have HO205 := n2_
                                  have HO209 := n3_
                                  have HO212 := n4_
                                  have HO215 := n5_
                                  have HO219 := n6_
                                  have HO222 := n7_
                                  have HO225 := n8_
                                  have HO229 := n9_
                                  have HO232 := n10_
                                  have HO236 := n11_
                                  have HO239 := n12_
                                  have HO245 := n13_
                                  have HO248 := n14_
                                  have HB := n15_
                                  clear n0_ n1_ n2_ n3_ n4_ n5_ n6_ n7_ n8_ n9_ n10_ n11_ n12_ n13_ n14_ n15_
                                  (try clear hb)
                                  (try clear hb2)
                                  (try clear hk)
                                  (try clear hi)
                                  (try clear ho0)
                                  go_wp2_with fail
                                  obtain ⟨Ao74, co74, eo74⟩ := Kd.V_slice HO205.out
                                  subst eo74
                                  (refine (slipstickref01_Same.calls k _ _ t203 _ _ [4294967295] true _ ?side1 ?side2 ?side3 ?side4 A17.out).mono ?_)
                                  (case side1 => repeat (first | exact (Kd.V_reads' HO205.out).2.2 | (with_reducible refine Kd.C_alloc ?_ _) | (with_reducible refine Kd.C_drewN ?_ _) | (with_reducible refine Kd.C_drew ?_)))
                                  (case side2 => exact (Kd.V_reads' HO205.out).2.1)
                                  (case side3 => repeat (first | exact lit_C _ [4294967295] _ (by decide) _ (by simp) | (with_reducible refine Kd.C_drewN ?_ _) | (with_reducible refine Kd.C_drew ?_) | (with_reducible refine Kd.C_alloc ?_ _)))
                                  (case side4 => exact Nat.le_refl _)
                                  rintro e w' ⟨rfl, ⟨nd, rfl⟩⟩
                                  go_wp2_with fail
                                  (refine (slipstickref01_Same.calls k _ _ t223 _ _ [0, 768] true _ ?side1 ?side2 ?side3 ?side4 A21.out).mono ?_)
                                  (case side1 => repeat (first | exact (Kd.V_reads' HO225.out).2.2 | (with_reducible refine Kd.C_alloc ?_ _) | (with_reducible refine Kd.C_drewN ?_ _) | (with_reducible refine Kd.C_drew ?_)))
                                  (case side2 => exact (Kd.V_reads' HO225.out).2.1)
                                  (case side3 => repeat (first | exact lit_C _ [0, 768] _ (by decide) _ (by simp) | (with_reducible refine Kd.C_drewN ?_ _) | (with_reducible refine Kd.C_drew ?_) | (with_reducible refine Kd.C_alloc ?_ _)))
                                  (case side4 => exact Nat.le_refl _)
                                  rintro e w' ⟨rfl, ⟨nd, rfl⟩⟩
                                  go_wp2_with fail
                                  obtain ⟨Ao81, co81, eo81⟩ := Kd.V_slice HO232.out
                                  subst eo81
                                  (refine (slipstickref01_Same.calls k _ _ t230 _ _ [0, 10] true _ ?side1 ?side2 ?side3 ?side4 A24.out).mono ?_)
                                  (case side1 => repeat (first | exact (Kd.V_reads' HO232.out).2.2 | (with_reducible refine Kd.C_alloc ?_ _) | (with_reducible refine Kd.C_drewN ?_ _) | (with_reducible refine Kd.C_drew ?_)))
                                  (case side2 => exact (Kd.V_reads' HO232.out).2.1)
                                  (case side3 => repeat (first | exact lit_C _ [0, 10] _ (by decide) _ (by simp) | (with_reducible refine Kd.C_drewN ?_ _) | (with_reducible refine Kd.C_drew ?_) | (with_reducible refine Kd.C_alloc ?_ _)))
                                  (case side4 => exact Nat.le_refl _)
                                  rintro e w' ⟨rfl, ⟨nd, rfl⟩⟩
                                  go_wp2_with fail
                                  obtain ⟨Ao85, co85, eo85⟩ := Kd.V_slice HO239.out
                                  subst eo85
                                  (refine (slipstickref01_Same.calls k _ _ t237 _ _ [2] true _ ?side1 ?side2 ?side3 ?side4 A27.out).mono ?_)
                                  (case side1 => repeat (first | exact (Kd.V_reads' HO239.out).2.2 | (with_reducible refine Kd.C_alloc ?_ _) | (with_reducible refine Kd.C_drewN ?_ _) | (with_reducible refine Kd.C_drew ?_)))
                                  (case side2 => exact (Kd.V_reads' HO239.out).2.1)
                                  (case side3 => repeat (first | exact lit_C _ [2] _ (by decide) _ (by simp) | (with_reducible refine Kd.C_drewN ?_ _) | (with_reducible refine Kd.C_drew ?_) | (with_reducible refine Kd.C_alloc ?_ _)))
                                  (case side4 => exact Nat.le_refl _)
                                  rintro e w' ⟨rfl, ⟨nd, rfl⟩⟩
                                  go_wp2_with fail
                                  (with_reducible refine (nat_Of.calls k 5 t266 _ A33.out).mono ?_)
                                  rintro e w87 ⟨v267, rfl, ho0, hb⟩
                                  have n0_ := Aside0.mk (Kd.V_below (by (with_reducible repeat (first | apply Kd.V_alloc | apply Kd.V_drewN | apply Kd.V_drew)); exact HO199.out) hb)
                                  have n1_ := Aside0.mk (Kd.V_below (by (with_reducible repeat (first | apply Kd.V_alloc | apply Kd.V_drewN | apply Kd.V_drew)); exact HO202.out) hb)
                                  have n2_ := Aside0.mk (Kd.V_below (by (with_reducible repeat (first | apply Kd.V_alloc | apply Kd.V_drewN | apply Kd.V_drew)); exact HO205.out) hb)
                                  have n3_ := Aside0.mk (Kd.V_below (by (with_reducible repeat (first | apply Kd.V_alloc | apply Kd.V_drewN | apply Kd.V_drew)); exact HO209.out) hb)
                                  have n4_ := Aside0.mk (Kd.V_below (by (with_reducible repeat (first | apply Kd.V_alloc | apply Kd.V_drewN | apply Kd.V_drew)); exact HO212.out) hb)
                                  have n5_ := Aside0.mk (Kd.V_below (by (with_reducible repeat (first | apply Kd.V_alloc | apply Kd.V_drewN | apply Kd.V_drew)); exact HO215.out) hb)
                                  have n6_ := Aside0.mk (Kd.V_below (by (with_reducible repeat (first | apply Kd.V_alloc | apply Kd.V_drewN | apply Kd.V_drew)); exact HO219.out) hb)
                                  have n7_ := Aside0.mk (Kd.V_below (by (with_reducible repeat (first | apply Kd.V_alloc | apply Kd.V_drewN | apply Kd.V_drew)); exact HO222.out) hb)
                                  have n8_ := Aside0.mk (Kd.V_below (by (with_reducible repeat (first | apply Kd.V_alloc | apply Kd.V_drewN | apply Kd.V_drew)); exact HO225.out) hb)
                                  have n9_ := Aside0.mk (Kd.V_below (by (with_reducible repeat (first | apply Kd.V_alloc | apply Kd.V_drewN | apply Kd.V_drew)); exact HO229.out) hb)
                                  have n10_ := Aside0.mk (Kd.V_below (by (with_reducible repeat (first | apply Kd.V_alloc | apply Kd.V_drewN | apply Kd.V_drew)); exact HO232.out) hb)
                                  have n11_ := Aside0.mk (Kd.V_below (by (with_reducible repeat (first | apply Kd.V_alloc | apply Kd.V_drewN | apply Kd.V_drew)); exact HO236.out) hb)
                                  have n12_ := Aside0.mk (Kd.V_below (by (with_reducible repeat (first | apply Kd.V_alloc | apply Kd.V_drewN | apply Kd.V_drew)); exact HO239.out) hb)
                                  have n13_ := Aside0.mk (Kd.V_below (by (with_reducible repeat (first | apply Kd.V_alloc | apply Kd.V_drewN | apply Kd.V_drew)); exact HO245.out) hb)
                                  have n14_ := Aside0.mk (Kd.V_below (by (with_reducible repeat (first | apply Kd.V_alloc | apply Kd.V_drewN | apply Kd.V_drew)); exact HO248.out) hb)
                                  have n19_ := Aside0.mk (Kd.V_lower (Kd.V_mono (ok' := fun k_ => True) ho0 (fun k_ hk_ => trivial)) (below_size (by repeat (first | (with_reducible first | exact HB.out | apply below_alloc | apply pw_below_drewN | apply below_drew1) | exact HB.out))))
                                  have n20_ := Aside0.mk (below_step (by repeat (first | (with_reducible first | exact HB.out | apply below_alloc | apply pw_below_drewN | apply below_drew1) | exact HB.out)) hb)
                                  clear HO199
                                  clear HO202
                                  clear HO205
                                  clear HO209
                                  clear HO212
                                  clear HO215
                                  clear HO219
                                  clear HO222
                                  clear HO225
                                  clear HO229
                                  clear HO232
                                  clear HO236
                                  clear HO239
                                  clear HO245
                                  clear HO248
                                  clear HB
                                  have HO199 := n0_
                                  have HO202 := n1_
                                  have HO205 := n2_
                                  have HO209 := n3_
                                  have HO212 := n4_
                                  have HO215 := n5_
                                  have HO219 := n6_
                                  have HO222 := n7_
                                  have HO225 := n8_
                                  have HO229 := n9_
                                  have HO232 := n10_
                                  have HO236 := n11_
                                  have HO239 := n12_
                                  have HO245 := n13_
                                  have HO248 := n14_
                                  have HO268 := n19_
                                  have HB := n20_
                                  clear n0_ n1_ n2_ n3_ n4_ n5_ n6_ n7_ n8_ n9_ n10_ n11_ n12_ n13_ n14_ n19_ n20_
                                  (try clear hb)
                                  (try clear hb2)
                                  (try clear hk)
                                  (try clear hi)
                                  (try clear ho0)
                                  obtain ⟨Ao88, co88, eo88⟩ := Kd.V_slice HO268.out
                                  subst eo88
                                  go_wp2_with fail
                                  (with_reducible refine (nat_Nat_Len.calls k _ _ t266 t269 _ ?side1 ?side2 A34.out).mono ?_)
                                  (case side1 => repeat (first | exact (Kd.V_reads' HO268.out).2.2 | (with_reducible refine Kd.C_alloc ?_ _) | (with_reducible refine Kd.C_drewN ?_ _) | (with_reducible refine Kd.C_drew ?_)))
                                  (case side2 => exact (Kd.V_reads' HO268.out).2.1)
                                  rintro e w89 ⟨rfl, hb⟩
                                  have n0_ := Aside0.mk (Kd.V_below (by (with_reducible repeat (first | apply Kd.V_alloc | apply Kd.V_drewN | apply Kd.V_drew)); exact HO199.out) hb)
                                  have n1_ := Aside0.mk (Kd.V_below (by (with_reducible repeat (first | apply Kd.V_alloc | apply Kd.V_drewN | apply Kd.V_drew)); exact HO202.out) hb)
                                  have n2_ := Aside0.mk (Kd.V_below (by (with_reducible repeat (first | apply Kd.V_alloc | apply Kd.V_drewN | apply Kd.V_drew)); exact HO205.out) hb)
                                  have n3_ := Aside0.mk (Kd.V_below (by (with_reducible repeat (first | apply Kd.V_alloc | apply Kd.V_drewN | apply Kd.V_drew)); exact HO209.out) hb)
                                  have n4_ := Aside0.mk (Kd.V_below (by (with_reducible repeat (first | apply Kd.V_alloc | apply Kd.V_drewN | apply Kd.V_drew)); exact HO212.out) hb)
                                  have n5_ := Aside0.mk (Kd.V_below (by (with_reducible repeat (first | apply Kd.V_alloc | apply Kd.V_drewN | apply Kd.V_drew)); exact HO215.out) hb)
                                  have n6_ := Aside0.mk (Kd.V_below (by (with_reducible repeat (first | apply Kd.V_alloc | apply Kd.V_drewN | apply Kd.V_drew)); exact HO219.out) hb)
                                  have n7_ := Aside0.mk (Kd.V_below (by (with_reducible repeat (first | apply Kd.V_alloc | apply Kd.V_drewN | apply Kd.V_drew)); exact HO222.out) hb)
                                  have n8_ := Aside0.mk (Kd.V_below (by (with_reducible repeat (first | apply Kd.V_alloc | apply Kd.V_drewN | apply Kd.V_drew)); exact HO225.out) hb)
                                  have n9_ := Aside0.mk (Kd.V_below (by (with_reducible repeat (first | apply Kd.V_alloc | apply Kd.V_drewN | apply Kd.V_drew)); exact HO229.out) hb)
                                  have n10_ := Aside0.mk (Kd.V_below (by (with_reducible repeat (first | apply Kd.V_alloc | apply Kd.V_drewN | apply Kd.V_drew)); exact HO232.out) hb)
                                  have n11_ := Aside0.mk (Kd.V_below (by (with_reducible repeat (first | apply Kd.V_alloc | apply Kd.V_drewN | apply Kd.V_drew)); exact HO236.out) hb)
                                  have n12_ := Aside0.mk (Kd.V_below (by (with_reducible repeat (first | apply Kd.V_alloc | apply Kd.V_drewN | apply Kd.V_drew)); exact HO239.out) hb)
                                  have n13_ := Aside0.mk (Kd.V_below (by (with_reducible repeat (first | apply Kd.V_alloc | apply Kd.V_drewN | apply Kd.V_drew)); exact HO245.out) hb)
                                  have n14_ := Aside0.mk (Kd.V_below (by (with_reducible repeat (first | apply Kd.V_alloc | apply Kd.V_drewN | apply Kd.V_drew)); exact HO248.out) hb)
                                  have n19_ := Aside0.mk (Kd.V_below (by (with_reducible repeat (first | apply Kd.V_alloc | apply Kd.V_drewN | apply Kd.V_drew)); exact HO268.out) hb)
                                  have n20_ := Aside0.mk (below_step (by repeat (first | (with_reducible first | exact HB.out | apply below_alloc | apply pw_below_drewN | apply below_drew1) | exact HB.out)) hb)
                                  clear HO199
                                  clear HO202
                                  clear HO205
                                  clear HO209
                                  clear HO212
                                  clear HO215
                                  clear HO219
                                  clear HO222
                                  clear HO225
                                  clear HO229
                                  clear HO232
                                  clear HO236
                                  clear HO239
                                  clear HO245
                                  clear HO248
                                  clear HO268
                                  clear HB
                                  have HO199 := n0_
                                  have HO202 := n1_
                                  have HO205 := n2_
                                  have HO209 := n3_
                                  have HO212 := n4_
                                  have HO215 := n5_
                                  have HO219 := n6_
                                  have HO222 := n7_
                                  have HO225 := n8_
                                  have HO229 := n9_
                                  have HO232 := n10_
                                  have HO236 := n11_
                                  have HO239 := n12_
                                  have HO245 := n13_
                                  have HO248 := n14_
                                  have HO268 := n19_
                                  have HB := n20_
                                  clear n0_ n1_ n2_ n3_ n4_ n5_ n6_ n7_ n8_ n9_ n10_ n11_ n12_ n13_ n14_ n19_ n20_
                                  (try clear hb)
                                  (try clear hb2)
                                  (try clear hk)
                                  (try clear hi)
                                  go_wp2_with fail
                                  (with_reducible refine (nat_Of.calls k 5 t270 _ A36.out).mono ?_)
                                  rintro e w90 ⟨v271, rfl, ho0, hb⟩
                                  have n0_ := Aside0.mk (Kd.V_below (by (with_reducible repeat (first | apply Kd.V_alloc | apply Kd.V_drewN | apply Kd.V_drew)); exact HO199.out) hb)
                                  have n1_ := Aside0.mk (Kd.V_below (by (with_reducible repeat (first | apply Kd.V_alloc | apply Kd.V_drewN | apply Kd.V_drew)); exact HO202.out) hb)
                                  have n2_ := Aside0.mk (Kd.V_below (by (with_reducible repeat (first | apply Kd.V_alloc | apply Kd.V_drewN | apply Kd.V_drew)); exact HO205.out) hb)
                                  have n3_ := Aside0.mk (Kd.V_below (by (with_reducible repeat (first | apply Kd.V_alloc | apply Kd.V_drewN | apply Kd.V_drew)); exact HO209.out) hb)
                                  have n4_ := Aside0.mk (Kd.V_below (by (with_reducible repeat (first | apply Kd.V_alloc | apply Kd.V_drewN | apply Kd.V_drew)); exact HO212.out) hb)
                                  have n5_ := Aside0.mk (Kd.V_below (by (with_reducible repeat (first | apply Kd.V_alloc | apply Kd.V_drewN | apply Kd.V_drew)); exact HO215.out) hb)
                                  have n6_ := Aside0.mk (Kd.V_below (by (with_reducible repeat (first | apply Kd.V_alloc | apply Kd.V_drewN | apply Kd.V_drew)); exact HO219.out) hb)
                                  have n7_ := Aside0.mk (Kd.V_below (by (with_reducible repeat (first | apply Kd.V_alloc | apply Kd.V_drewN | apply Kd.V_drew)); exact HO222.out) hb)
                                  have n8_ := Aside0.mk (Kd.V_below (by (with_reducible repeat (first | apply Kd.V_alloc | apply Kd.V_drewN | apply Kd.V_drew)); exact HO225.out) hb)
                                  have n9_ := Aside0.mk (Kd.V_below (by (with_reducible repeat (first | apply Kd.V_alloc | apply Kd.V_drewN | apply Kd.V_drew)); exact HO229.out) hb)
                                  have n10_ := Aside0.mk (Kd.V_below (by (with_reducible repeat (first | apply Kd.V_alloc | apply Kd.V_drewN | apply Kd.V_drew)); exact HO232.out) hb)
                                  have n11_ := Aside0.mk (Kd.V_below (by (with_reducible repeat (first | apply Kd.V_alloc | apply Kd.V_drewN | apply Kd.V_drew)); exact HO236.out) hb)
                                  have n12_ := Aside0.mk (Kd.V_below (by (with_reducible repeat (first | apply Kd.V_alloc | apply Kd.V_drewN | apply Kd.V_drew)); exact HO239.out) hb)
                                  have n13_ := Aside0.mk (Kd.V_below (by (with_reducible repeat (first | apply Kd.V_alloc | apply Kd.V_drewN | apply Kd.V_drew)); exact HO245.out) hb)
                                  have n14_ := Aside0.mk (Kd.V_below (by (with_reducible repeat (first | apply Kd.V_alloc | apply Kd.V_drewN | apply Kd.V_drew)); exact HO248.out) hb)
                                  have n19_ := Aside0.mk (Kd.V_below (by (with_reducible repeat (first | apply Kd.V_alloc | apply Kd.V_drewN | apply Kd.V_drew)); exact HO268.out) hb)
                                  have n20_ := Aside0.mk (Kd.V_lower (Kd.V_mono (ok' := fun k_ => True) ho0 (fun k_ hk_ => trivial)) (below_size (by repeat (first | (with_reducible first | exact HB.out | apply below_alloc | apply pw_below_drewN | apply below_drew1) | exact HB.out))))
                                  have n21_ := Aside0.mk (below_step (by repeat (first | (with_reducible first | exact HB.out | apply below_alloc | apply pw_below_drewN | apply below_drew1) | exact HB.out)) hb)
                                  clear HO199
                                  clear HO202
                                  clear HO205
                                  clear HO209
                                  clear HO212
                                  clear HO215
                                  clear HO219
                                  clear HO222
                                  clear HO225
                                  clear HO229
                                  clear HO232
                                  clear HO236
                                  clear HO239
                                  clear HO245
                                  clear HO248
                                  clear HO268
                                  clear HB
                                  have HO199 := n0_
                                  have HO202 := n1_
                                  have HO205 := n2_
                                  have HO209 := n3_
                                  have HO212 := n4_
                                  have HO215 := n5_
                                  have HO219 := n6_
                                  have HO222 := n7_
                                  have HO225 := n8_
                                  have HO229 := n9_
                                  have HO232 := n10_
                                  have HO236 := n11_
                                  have HO239 := n12_
                                  have HO245 := n13_
                                  have HO248 := n14_
                                  have HO268 := n19_
                                  have HO272 := n20_
                                  have HB := n21_
                                  clear n0_ n1_ n2_ n3_ n4_ n5_ n6_ n7_ n8_ n9_ n10_ n11_ n12_ n13_ n14_ n19_ n20_ n21_
                                  (try clear hb)
                                  (try clear hb2)
                                  (try clear hk)
                                  (try clear hi)
                                  (try clear ho0)
                                  obtain ⟨Ao91, co91, eo91⟩ := Kd.V_slice HO272.out
                                  subst eo91
                                  go_wp2_with fail
                                  (with_reducible refine (nat_Nat_Bit.calls _ _ t270 2 t273 _ ?side1 ?side2 A37.out).mono ?_)
                                  (case side1 => repeat (first | exact (Kd.V_reads' HO272.out).2.2 | (with_reducible refine Kd.C_alloc ?_ _) | (with_reducible refine Kd.C_drewN ?_ _) | (with_reducible refine Kd.C_drew ?_)))
                                  (case side2 => exact (Kd.V_reads' HO272.out).2.1)
                                  rintro e w' ⟨rfl, ⟨nd, rfl⟩⟩
                                  go_wp2_with fail
                                  (with_reducible refine (nat_Of.calls k 12 t274 _ A39.out).mono ?_)
                                  rintro e w92 ⟨v275, rfl, ho0, hb⟩
                                  have n0_ := Aside0.mk (Kd.V_below (by (with_reducible repeat (first | apply Kd.V_alloc | apply Kd.V_drewN | apply Kd.V_drew)); exact HO199.out) hb)
                                  have n1_ := Aside0.mk (Kd.V_below (by (with_reducible repeat (first | apply Kd.V_alloc | apply Kd.V_drewN | apply Kd.V_drew)); exact HO202.out) hb)
                                  have n2_ := Aside0.mk (Kd.V_below (by (with_reducible repeat (first | apply Kd.V_alloc | apply Kd.V_drewN | apply Kd.V_drew)); exact HO205.out) hb)
                                  have n3_ := Aside0.mk (Kd.V_below (by (with_reducible repeat (first | apply Kd.V_alloc | apply Kd.V_drewN | apply Kd.V_drew)); exact HO209.out) hb)
                                  have n4_ := Aside0.mk (Kd.V_below (by (with_reducible repeat (first | apply Kd.V_alloc | apply Kd.V_drewN | apply Kd.V_drew)); exact HO212.out) hb)
                                  have n5_ := Aside0.mk (Kd.V_below (by (with_reducible repeat (first | apply Kd.V_alloc | apply Kd.V_drewN | apply Kd.V_drew)); exact HO215.out) hb)
                                  have n6_ := Aside0.mk (Kd.V_below (by (with_reducible repeat (first | apply Kd.V_alloc | apply Kd.V_drewN | apply Kd.V_drew)); exact HO219.out) hb)
                                  have n7_ := Aside0.mk (Kd.V_below (by (with_reducible repeat (first | apply Kd.V_alloc | apply Kd.V_drewN | apply Kd.V_drew)); exact HO222.out) hb)
                                  have n8_ := Aside0.mk (Kd.V_below (by (with_reducible repeat (first | apply Kd.V_alloc | apply Kd.V_drewN | apply Kd.V_drew)); exact HO225.out) hb)
                                  have n9_ := Aside0.mk (Kd.V_below (by (with_reducible repeat (first | apply Kd.V_alloc | apply Kd.V_drewN | apply Kd.V_drew)); exact HO229.out) hb)
                                  have n10_ := Aside0.mk (Kd.V_below (by (with_reducible repeat (first | apply Kd.V_alloc | apply Kd.V_drewN | apply Kd.V_drew)); exact HO232.out) hb)
                                  have n11_ := Aside0.mk (Kd.V_below (by (with_reducible repeat (first | apply Kd.V_alloc | apply Kd.V_drewN | apply Kd.V_drew)); exact HO236.out) hb)
                                  have n12_ := Aside0.mk (Kd.V_below (by (with_reducible repeat (first | apply Kd.V_alloc | apply Kd.V_drewN | apply Kd.V_drew)); exact HO239.out) hb)
                                  have n13_ := Aside0.mk (Kd.V_below (by (with_reducible repeat (first | apply Kd.V_alloc | apply Kd.V_drewN | apply Kd.V_drew)); exact HO245.out) hb)
                                  have n14_ := Aside0.mk (Kd.V_below (by (with_reducible repeat (first | apply Kd.V_alloc | apply Kd.V_drewN | apply Kd.V_drew)); exact HO248.out) hb)
                                  have n19_ := Aside0.mk (Kd.V_below (by (with_reducible repeat (first | apply Kd.V_alloc | apply Kd.V_drewN | apply Kd.V_drew)); exact HO268.out) hb)
                                  have n20_ := Aside0.mk (Kd.V_below (by (with_reducible repeat (first | apply Kd.V_alloc | apply Kd.V_drewN | apply Kd.V_drew)); exact HO272.out) hb)
                                  have n21_ := Aside0.mk (Kd.V_lower (Kd.V_mono (ok' := fun k_ => True) ho0 (fun k_ hk_ => trivial)) (below_size (by repeat (first | (with_reducible first | exact HB.out | apply below_alloc | apply pw_below_drewN | apply below_drew1) | exact HB.out))))
                                  have n22_ := Aside0.mk (below_step (by repeat (first | (with_reducible first | exact HB.out | apply below_alloc | apply pw_below_drewN | apply below_drew1) | exact HB.out)) hb)
                                  clear HO199
                                  clear HO202
                                  clear HO205
                                  clear HO209
                                  clear HO212
                                  clear HO215
                                  clear HO219
                                  clear HO222
                                  clear HO225
                                  clear HO229
                                  clear HO232
                                  clear HO236
                                  clear HO239
                                  clear HO245
                                  clear HO248
                                  clear HO268
                                  clear HO272
                                  clear HB
                                  have HO199 := n0_
                                  have HO202 := n1_
                                  have HO205 := n2_
                                  have HO209 := n3_
                                  have HO212 := n4_
                                  have HO215 := n5_
                                  have HO219 := n6_
                                  have HO222 := n7_
                                  have HO225 := n8_
                                  have HO229 := n9_
                                  have HO232 := n10_
                                  have HO236 := n11_
                                  have HO239 := n12_
                                  have HO245 := n13_
                                  have HO248 := n14_
                                  have HO268 := n19_
                                  have HO272 := n20_
                                  have HO276 := n21_
                                  have HB := n22_
                                  clear n0_ n1_ n2_ n3_ n4_ n5_ n6_ n7_ n8_ n9_ n10_ n11_ n12_ n13_ n14_ n19_ n20_ n21_ n22_
                                  (try clear hb)
                                  (try clear hb2)
                                  (try clear hk)
                                  (try clear hi)
                                  (try clear ho0)
                                  obtain ⟨Ao93, co93, eo93⟩ := Kd.V_slice HO276.out
                                  subst eo93
                                  go_wp2_with fail
                                  (with_reducible refine (nat_Nat_Zeros.calls k _ _ t274 t277 _ ?side1 ?side2 A40.out).mono ?_)
                                  (case side1 => repeat (first | exact (Kd.V_reads' HO276.out).2.2 | (with_reducible refine Kd.C_alloc ?_ _) | (with_reducible refine Kd.C_drewN ?_ _) | (with_reducible refine Kd.C_drew ?_)))
                                  (case side2 => exact (Kd.V_reads' HO276.out).2.1)
                                  rintro e w' ⟨rfl, ⟨nd, rfl⟩⟩
                                  go_wp2_with fail
                                  (with_reducible refine (nat_Of.calls k 3 t278 _ A42.out).mono ?_)
                                  rintro e w94 ⟨v279, rfl, ho0, hb⟩
                                  have n0_ := Aside0.mk (Kd.V_below (by (with_reducible repeat (first | apply Kd.V_alloc | apply Kd.V_drewN | apply Kd.V_drew)); exact HO199.out) hb)
                                  have n1_ := Aside0.mk (Kd.V_below (by (with_reducible repeat (first | apply Kd.V_alloc | apply Kd.V_drewN | apply Kd.V_drew)); exact HO202.out) hb)
                                  have n2_ := Aside0.mk (Kd.V_below (by (with_reducible repeat (first | apply Kd.V_alloc | apply Kd.V_drewN | apply Kd.V_drew)); exact HO205.out) hb)
                                  have n3_ := Aside0.mk (Kd.V_below (by (with_reducible repeat (first | apply Kd.V_alloc | apply Kd.V_drewN | apply Kd.V_drew)); exact HO209.out) hb)
                                  have n4_ := Aside0.mk (Kd.V_below (by (with_reducible repeat (first | apply Kd.V_alloc | apply Kd.V_drewN | apply Kd.V_drew)); exact HO212.out) hb)
                                  have n5_ := Aside0.mk (Kd.V_below (by (with_reducible repeat (first | apply Kd.V_alloc | apply Kd.V_drewN | apply Kd.V_drew)); exact HO215.out) hb)
                                  have n6_ := Aside0.mk (Kd.V_below (by (with_reducible repeat (first | apply Kd.V_alloc | apply Kd.V_drewN | apply Kd.V_drew)); exact HO219.out) hb)
                                  have n7_ := Aside0.mk (Kd.V_below (by (with_reducible repeat (first | apply Kd.V_alloc | apply Kd.V_drewN | apply Kd.V_drew)); exact HO222.out) hb)
                                  have n8_ := Aside0.mk (Kd.V_below (by (with_reducible repeat (first | apply Kd.V_alloc | apply Kd.V_drewN | apply Kd.V_drew)); exact HO225.out) hb)
                                  have n9_ := Aside0.mk (Kd.V_below (by (with_reducible repeat (first | apply Kd.V_alloc | apply Kd.V_drewN | apply Kd.V_drew)); exact HO229.out) hb)
                                  have n10_ := Aside0.mk (Kd.V_below (by (with_reducible repeat (first | apply Kd.V_alloc | apply Kd.V_drewN | apply Kd.V_drew)); exact HO232.out) hb)
                                  have n11_ := Aside0.mk (Kd.V_below (by (with_reducible repeat (first | apply Kd.V_alloc | apply Kd.V_drewN | apply Kd.V_drew)); exact HO236.out) hb)
                                  have n12_ := Aside0.mk (Kd.V_below (by (with_reducible repeat (first | apply Kd.V_alloc | apply Kd.V_drewN | apply Kd.V_drew)); exact HO239.out) hb)
                                  have n13_ := Aside0.mk (Kd.V_below (by (with_reducible repeat (first | apply Kd.V_alloc | apply Kd.V_drewN | apply Kd.V_drew)); exact HO245.out) hb)
                                  have n14_ := Aside0.mk (Kd.V_below (by (with_reducible repeat (first | apply Kd.V_alloc | apply Kd.V_drewN | apply Kd.V_drew)); exact HO248.out) hb)
                                  have n19_ := Aside0.mk (Kd.V_below (by (with_reducible repeat (first | apply Kd.V_alloc | apply Kd.V_drewN | apply Kd.V_drew)); exact HO268.out) hb)
                                  have n20_ := Aside0.mk (Kd.V_below (by (with_reducible repeat (first | apply Kd.V_alloc | apply Kd.V_drewN | apply Kd.V_drew)); exact HO272.out) hb)
                                  have n21_ := Aside0.mk (Kd.V_below (by (with_reducible repeat (first | apply Kd.V_alloc | apply Kd.V_drewN | apply Kd.V_drew)); exact HO276.out) hb)
                                  have n22_ := Aside0.mk (Kd.V_lower (Kd.V_mono (ok' := fun k_ => True) ho0 (fun k_ hk_ => trivial)) (below_size (by repeat (first | (with_reducible first | exact HB.out | apply below_alloc | apply pw_below_drewN | apply below_drew1) | exact HB.out))))
                                  have n23_ := Aside0.mk (below_step (by repeat (first | (with_reducible first | exact HB.out | apply below_alloc | apply pw_below_drewN | apply below_drew1) | exact HB.out)) hb)
                                  clear HO199
                                  clear HO202
                                  clear HO205
                                  clear HO209
                                  clear HO212
                                  clear HO215
                                  clear HO219
                                  clear HO222
                                  clear HO225
                                  clear HO229
                                  clear HO232
                                  clear HO236
                                  clear HO239
                                  clear HO245
                                  clear HO248
                                  clear HO268
                                  clear HO272
                                  clear HO276
                                  clear HB
                                  have HO199 := n0_
                                  have HO202 := n1_
                                  have HO205 := n2_
                                  have HO209 := n3_
                                  have HO212 := n4_
                                  have HO215 := n5_
                                  have HO219 := n6_
                                  have HO222 := n7_
                                  have HO225 := n8_
                                  have HO229 := n9_
                                  have HO232 := n10_
                                  have HO236 := n11_
                                  have HO239 := n12_
                                  have HO245 := n13_
                                  have HO248 := n14_
                                  have HO268 := n19_
                                  have HO272 := n20_
                                  have HO276 := n21_
                                  have HO280 := n22_
                                  have HB := n23_
                                  clear n0_ n1_ n2_ n3_ n4_ n5_ n6_ n7_ n8_ n9_ n10_ n11_ n12_ n13_ n14_ n19_ n20_ n21_ n22_ n23_
                                  (try clear hb)
                                  (try clear hb2)
                                  (try clear hk)
                                  (try clear hi)
                                  (try clear ho0)
                                  go_wp2_with fail
                                  obtain ⟨Ao97, co97, eo97⟩ := Kd.V_slice HO280.out
                                  subst eo97
                                  (refine (nat_Cmp.calls k _ _ t278 _ _ [3, 0] t284 _ ?side1 ?side2 ?side3 ?side4 A43.out).mono ?_)
                                  (case side1 => repeat (first | exact (Kd.V_reads' HO280.out).2.2 | (with_reducible refine Kd.C_alloc ?_ _) | (with_reducible refine Kd.C_drewN ?_ _) | (with_reducible refine Kd.C_drew ?_)))
                                  (case side2 => exact (Kd.V_reads' HO280.out).2.1)
                                  (case side3 => repeat (first | exact lit_C _ [3, 0] _ (by decide) _ (by simp) | (with_reducible refine Kd.C_drewN ?_ _) | (with_reducible refine Kd.C_drew ?_) | (with_reducible refine Kd.C_alloc ?_ _)))
                                  (case side4 => exact Nat.le_refl _)
                                  rintro e w99 ⟨rfl, hb⟩
                                  have n0_ := Aside0.mk (Kd.V_below (by (with_reducible repeat (first | apply Kd.V_alloc | apply Kd.V_drewN | apply Kd.V_drew)); exact HO199.out) hb)
                                  have n1_ := Aside0.mk (Kd.V_below (by (with_reducible repeat (first | apply Kd.V_alloc | apply Kd.V_drewN | apply Kd.V_drew)); exact HO202.out) hb)
                                  have n2_ := Aside0.mk (Kd.V_below (by (with_reducible repeat (first | apply Kd.V_alloc | apply Kd.V_drewN | apply Kd.V_drew)); exact HO205.out) hb)
                                  have n3_ := Aside0.mk (Kd.V_below (by (with_reducible repeat (first | apply Kd.V_alloc | apply Kd.V_drewN | apply Kd.V_drew)); exact HO209.out) hb)
                                  have n4_ := Aside0.mk (Kd.V_below (by (with_reducible repeat (first | apply Kd.V_alloc | apply Kd.V_drewN | apply Kd.V_drew)); exact HO212.out) hb)
                                  have n5_ := Aside0.mk (Kd.V_below (by (with_reducible repeat (first | apply Kd.V_alloc | apply Kd.V_drewN | apply Kd.V_drew)); exact HO215.out) hb)
                                  have n6_ := Aside0.mk (Kd.V_below (by (with_reducible repeat (first | apply Kd.V_alloc | apply Kd.V_drewN | apply Kd.V_drew)); exact HO219.out) hb)
                                  have n7_ := Aside0.mk (Kd.V_below (by (with_reducible repeat (first | apply Kd.V_alloc | apply Kd.V_drewN | apply Kd.V_drew)); exact HO222.out) hb)
                                  have n8_ := Aside0.mk (Kd.V_below (by (with_reducible repeat (first | apply Kd.V_alloc | apply Kd.V_drewN | apply Kd.V_drew)); exact HO225.out) hb)
                                  have n9_ := Aside0.mk (Kd.V_below (by (with_reducible repeat (first | apply Kd.V_alloc | apply Kd.V_drewN | apply Kd.V_drew)); exact HO229.out) hb)
                                  have n10_ := Aside0.mk (Kd.V_below (by (with_reducible repeat (first | apply Kd.V_alloc | apply Kd.V_drewN | apply Kd.V_drew)); exact HO232.out) hb)
                                  have n11_ := Aside0.mk (Kd.V_below (by (with_reducible repeat (first | apply Kd.V_alloc | apply Kd.V_drewN | apply Kd.V_drew)); exact HO236.out) hb)
                                  have n12_ := Aside0.mk (Kd.V_below (by (with_reducible repeat (first | apply Kd.V_alloc | apply Kd.V_drewN | apply Kd.V_drew)); exact HO239.out) hb)
                                  have n13_ := Aside0.mk (Kd.V_below (by (with_reducible repeat (first | apply Kd.V_alloc | apply Kd.V_drewN | apply Kd.V_drew)); exact HO245.out) hb)
                                  have n14_ := Aside0.mk (Kd.V_below (by (with_reducible repeat (first | apply Kd.V_alloc | apply Kd.V_drewN | apply Kd.V_drew)); exact HO248.out) hb)
                                  have n19_ := Aside0.mk (Kd.V_below (by (with_reducible repeat (first | apply Kd.V_alloc | apply Kd.V_drewN | apply Kd.V_drew)); exact HO268.out) hb)
                                  have n20_ := Aside0.mk (Kd.V_below (by (with_reducible repeat (first | apply Kd.V_alloc | apply Kd.V_drewN | apply Kd.V_drew)); exact HO272.out) hb)
                                  have n21_ := Aside0.mk (Kd.V_below (by (with_reducible repeat (first | apply Kd.V_alloc | apply Kd.V_drewN | apply Kd.V_drew)); exact HO276.out) hb)
                                  have n22_ := Aside0.mk (Kd.V_below (by (with_reducible repeat (first | apply Kd.V_alloc | apply Kd.V_drewN | apply Kd.V_drew)); exact HO280.out) hb)
                                  have n24_ := Aside0.mk (below_step (by repeat (first | (with_reducible first | exact HB.out | apply below_alloc | apply pw_below_drewN | apply below_drew1) | exact HB.out)) hb)
                                  clear HO199
                                  clear HO202
                                  clear HO205
                                  clear HO209
                                  clear HO212
                                  clear HO215
                                  clear HO219
                                  clear HO222
                                  clear HO225
                                  clear HO229
                                  clear HO232
                                  clear HO236
                                  clear HO239
                                  clear HO245
                                  clear HO248
                                  clear HO268
                                  clear HO272
                                  clear HO276
                                  clear HO280
                                  clear HB
                                  have HO199 := n0_
                                  have HO202 := n1_
                                  have HO205 := n2_
                                  have HO209 := n3_
                                  have HO212 := n4_
                                  have HO215 := n5_
                                  have HO219 := n6_
                                  have HO222 := n7_
                                  have HO225 := n8_
                                  have HO229 := n9_
                                  have HO232 := n10_
                                  have HO236 := n11_
                                  have HO239 := n12_
                                  have HO245 := n13_
                                  have HO248 := n14_
                                  have HO268 := n19_
                                  have HO272 := n20_
                                  have HO276 := n21_
                                  have HO280 := n22_
                                  have HB := n24_
                                  clear n0_ n1_ n2_ n3_ n4_ n5_ n6_ n7_ n8_ n9_ n10_ n11_ n12_ n13_ n14_ n19_ n20_ n21_ n22_ n24_
                                  (try clear hb)
                                  (try clear hb2)
                                  (try clear hk)
                                  (try clear hi)
                                  go_wp2_with fail
                                  (refine (nat_Add.calls k _ _ ([] : List Int) _ _ [0] t288 _ ?side1 ?side2 ?side3 ?side4 A45.out).mono ?_)
                                  (case side1 => exact Kd.C_nil _ _)
                                  (case side2 => exact Nat.le_refl _)
                                  (case side3 => repeat (first | exact lit_C _ [0] _ (by decide) _ (by simp) | (with_reducible refine Kd.C_drewN ?_ _) | (with_reducible refine Kd.C_drew ?_) | (with_reducible refine Kd.C_alloc ?_ _)))
                                  (case side4 => exact Nat.le_refl _)
                                  rintro e w103 ⟨v289, rfl, ho0, hb⟩
                                  have n0_ := Aside0.mk (Kd.V_below (by (with_reducible repeat (first | apply Kd.V_alloc | apply Kd.V_drewN | apply Kd.V_drew)); exact HO199.out) hb)
                                  have n1_ := Aside0.mk (Kd.V_below (by (with_reducible repeat (first | apply Kd.V_alloc | apply Kd.V_drewN | apply Kd.V_drew)); exact HO202.out) hb)
                                  have n2_ := Aside0.mk (Kd.V_below (by (with_reducible repeat (first | apply Kd.V_alloc | apply Kd.V_drewN | apply Kd.V_drew)); exact HO205.out) hb)
                                  have n3_ := Aside0.mk (Kd.V_below (by (with_reducible repeat (first | apply Kd.V_alloc | apply Kd.V_drewN | apply Kd.V_drew)); exact HO209.out) hb)
                                  have n4_ := Aside0.mk (Kd.V_below (by (with_reducible repeat (first | apply Kd.V_alloc | apply Kd.V_drewN | apply Kd.V_drew)); exact HO212.out) hb)
                                  have n5_ := Aside0.mk (Kd.V_below (by (with_reducible repeat (first | apply Kd.V_alloc | apply Kd.V_drewN | apply Kd.V_drew)); exact HO215.out) hb)
                                  have n6_ := Aside0.mk (Kd.V_below (by (with_reducible repeat (first | apply Kd.V_alloc | apply Kd.V_drewN | apply Kd.V_drew)); exact HO219.out) hb)
                                  have n7_ := Aside0.mk (Kd.V_below (by (with_reducible repeat (first | apply Kd.V_alloc | apply Kd.V_drewN | apply Kd.V_drew)); exact HO222.out) hb)
                                  have n8_ := Aside0.mk (Kd.V_below (by (with_reducible repeat (first | apply Kd.V_alloc | apply Kd.V_drewN | apply Kd.V_drew)); exact HO225.out) hb)
                                  have n9_ := Aside0.mk (Kd.V_below (by (with_reducible repeat (first | apply Kd.V_alloc | apply Kd.V_drewN | apply Kd.V_drew)); exact HO229.out) hb)
                                  have n10_ := Aside0.mk (Kd.V_below (by (with_reducible repeat (first | apply Kd.V_alloc | apply Kd.V_drewN | apply Kd.V_drew)); exact HO232.out) hb)
                                  have n11_ := Aside0.mk (Kd.V_below (by (with_reducible repeat (first | apply Kd.V_alloc | apply Kd.V_drewN | apply Kd.V_drew)); exact HO236.out) hb)
                                  have n12_ := Aside0.mk (Kd.V_below (by (with_reducible repeat (first | apply Kd.V_alloc | apply Kd.V_drewN | apply Kd.V_drew)); exact HO239.out) hb)
                                  have n13_ := Aside0.mk (Kd.V_below (by (with_reducible repeat (first | apply Kd.V_alloc | apply Kd.V_drewN | apply Kd.V_drew)); exact HO245.out) hb)
                                  have n14_ := Aside0.mk (Kd.V_below (by (with_reducible repeat (first | apply Kd.V_alloc | apply Kd.V_drewN | apply Kd.V_drew)); exact HO248.out) hb)
                                  have n19_ := Aside0.mk (Kd.V_below (by (with_reducible repeat (first | apply Kd.V_alloc | apply Kd.V_drewN | apply Kd.V_drew)); exact HO268.out) hb)
                                  have n20_ := Aside0.mk (Kd.V_below (by (with_reducible repeat (first | apply Kd.V_alloc | apply Kd.V_drewN | apply Kd.V_drew)); exact HO272.out) hb)
                                  have n21_ := Aside0.mk (Kd.V_below (by (with_reducible repeat (first | apply Kd.V_alloc | apply Kd.V_drewN | apply Kd.V_drew)); exact HO276.out) hb)
                                  have n22_ := Aside0.mk (Kd.V_below (by (with_reducible repeat (first | apply Kd.V_alloc | apply Kd.V_drewN | apply Kd.V_drew)); exact HO280.out) hb)
                                  have n25_ := Aside0.mk (Kd.V_lower (Kd.V_mono (ok' := fun k_ => True) ho0 (fun k_ hk_ => trivial)) (below_size (by repeat (first | (with_reducible first | exact HB.out | apply below_alloc | apply pw_below_drewN | apply below_drew1) | exact HB.out))))
                                  have n26_ := Aside0.mk (below_step (by repeat (first | (with_reducible first | exact HB.out | apply below_alloc | apply pw_below_drewN | apply below_drew1) | exact HB.out)) hb)
                                  clear HO199
                                  clear HO202
                                  clear HO205
                                  clear HO209
                                  clear HO212
                                  clear HO215
                                  clear HO219
                                  clear HO222
                                  clear HO225
                                  clear HO229
                                  clear HO232
                                  clear HO236
                                  clear HO239
                                  clear HO245
                                  clear HO248
                                  clear HO268
                                  clear HO272
                                  clear HO276
                                  clear HO280
                                  clear HB
                                  have HO199 := n0_
                                  have HO202 := n1_
                                  have HO205 := n2_
                                  have HO209 := n3_
                                  have HO212 := n4_
                                  have HO215 := n5_
                                  have HO219 := n6_
                                  have HO222 := n7_
                                  have HO225 := n8_
                                  have HO229 := n9_
                                  have HO232 := n10_
                                  have HO236 := n11_
                                  have HO239 := n12_
                                  have HO245 := n13_
                                  have HO248 := n14_
                                  have HO268 := n19_
                                  have HO272 := n20_
                                  have HO276 := n21_
                                  have HO280 := n22_
                                  have HO290 := n25_
                                  have HB := n26_
                                  clear n0_ n1_ n2_ n3_ n4_ n5_ n6_ n7_ n8_ n9_ n10_ n11_ n12_ n13_ n14_ n19_ n20_ n21_ n22_ n25_ n26_
                                  (try clear hb)
                                  (try clear hb2)
                                  (try clear hk)
                                  (try clear hi)
                                  (try clear ho0)
                                  obtain ⟨Ao104, co104, eo104⟩ := Kd.V_slice HO290.out
                                  subst eo104
                                  go_wp2_with fail
                                  go_ret
                                  exact ⟨by first | rfl | (simp [errW_none, errW_some] <;> rfl) | (simp [*, errW_none, errW_some] <;> rfl), by repeat (first | (with_reducible first | exact HB.out | apply below_alloc | apply pw_below_drewN | apply below_drew1) | exact HB.out)⟩
                                · rw [if_neg c44] at H
                                  exact absurd H (by simp)
                              · rw [if_neg c41] at H
                                exact absurd H (by simp)
                            · rw [if_neg c38] at H
                              exact absurd H (by simp)
                          · rw [if_neg c35] at H
                            exact absurd H (by simp)
                        · rw [if_neg c32] at H
                          exact absurd H (by simp)
                      · rw [if_neg c31] at H
                        exact absurd H (by simp)
                    · rw [if_neg c30] at H
                      exact absurd H (by simp)
                  · replace c29 := Bool.eq_false_iff.mpr c29
                    subst c29
                    have H1 : (none) = some r := by rw [if_neg (show ¬ (false = true) by decide)] at H; exact H
                    clear H
                    have H := H1
                    clear H1
                    exact absurd H (by simp)
                · replace c28 := Bool.eq_false_iff.mpr c28
                  subst c28
                  have H1 : (none) = some r := by rw [if_neg (show ¬ (false = true) by decide)] at H; exact H
                  clear H
                  have H := H1
                  clear H1
                  exact absurd H (by simp)
              · rw [if_neg c26] at H
                exact absurd H (by simp)
            · replace c25 := Bool.eq_false_iff.mpr c25
              subst c25
              have H1 : (none) = some r := by rw [if_neg (show ¬ (false = true) by decide)] at H; exact H
              clear H
              have H := H1
              clear H1
              exact absurd H (by simp)
          · rw [if_neg c23] at H
            exact absurd H (by simp)
        · replace c22 := Bool.eq_false_iff.mpr c22
          subst c22
          have H1 : (none) = some r := by rw [if_neg (show ¬ (false = true) by decide)] at H; exact H
          clear H
          have H := H1
          clear H1
          exact absurd H (by simp)
      · rw [if_neg c20] at H
        exact absurd H (by simp)
    · rw [if_neg c19] at H
      exact absurd H (by simp)
  · replace c18 := Bool.eq_false_iff.mpr c18
    subst c18
    have H1 : (none) = some r := by rw [if_neg (show ¬ (false = true) by decide)] at H; exact H
    clear H
    have H := H1
    clear H1
    exact absurd H (by simp)

end Go.Proofs.Ytgccgmpfcnhbgaa.P
