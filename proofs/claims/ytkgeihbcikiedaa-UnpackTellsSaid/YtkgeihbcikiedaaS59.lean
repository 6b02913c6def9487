/- Regions within a range over a function, the contracts of build's gate and of slices.Chunk by two, and what Fold lays, for all lists of fewer than a million. -/
import Derived.Test.YtkgeihbcikiedaaS56
import Derived.RangeFuncNested
import Derived.RangeFuncBound
import Derived.RangeFuncCalls
import Derived.RangeFuncLeaves
import Derived.Shelf.Abstract
import Derived.WalkKit
import Derived.OwnWalkIn
import Derived.TacticsInMore
import Derived.LoopNIn
import Derived.LoopIn
import Derived.Test.YtkgeihbcikiedaaPx0
set_option linter.unusedVariables false
set_option linter.unusedSimpArgs false
set_option linter.constructorNameAsVariable false
set_option linter.unusedSectionVars false
namespace Go.Proofs.Ytkgeihbcikiedaa.P
open Go.RowKit Go.Proofs.YtkgeihbcikiedaaW.PrintWords Go.Proofs.YtkgeihbcikiedaaW.PrintLast Go.Proofs.YtkgeihbcikiedaaW.PrintMore
section
variable {P : Program} {ops : Array Oper} {Q : Exit → Act → World → Prop} {md : Region.Mode} {l0 n : Nat}
theorem Du {row : String} {args : Array Value} {w : World} {R : Value → World → Prop} (h : Rows P row args w R) : RowsIn (Fence.wide.inRound l0) n P row args w R := by
 intro c cs hr; obtain ⟨v, w', r, s⟩ := h c cs; exact ⟨v, w', r, stepsIn_wide.2 s⟩
theorem BA {f : FuncId} {args : Array Value} {w : World} {R : Ending → World → Prop} (h : Calls P f args w R) : CallsIn (Fence.wide.inRound l0) n P f args w R := CallsIn.inRound l0 (callsIn_wide.2 h)
theorem NV {o : Oper} {a : Act} {w : World} {K : Act → World → Prop} (hd : ∀ c, o.op ≠ .defer c) (h : o.wp P a w K Q) : o.wpIn (Fence.wide.inRound l0) n P a w K Q := by
 refine ⟨fun f _ => trivial, ?_⟩; rw [Oper.semAt_eq _ _ _ hd]; unfold Oper.wp at h; generalize (execOp a.eval o).run P w = r at *
 cases r with
 | ok x w' =>
  cases x <;> simp only [Oper.upon, Oper.uponIn] at h ⊢ <;>
   first
    | exact h
    | exact ⟨fun e => by simp [Fence.inRound, Fence.wide] at e, BA h⟩
    | exact ⟨fun e => by simp [Fence.inRound, Fence.wide] at e, Du h⟩
 | halt x w' => cases x <;> simp only [Oper.upon, Oper.uponIn] at h ⊢ <;> exact h
def xN (ops : Array Oper) : Bool := ops.all fun o => match o.op with | .defer _ => false | _ => true
theorem Dv (h : xN ops = true) {i : Nat} {o : Oper} (ho : ops[i]? = some o) : ∀ c, o.op ≠ .defer c := by
 intro c e; obtain ⟨hi, rfl⟩ := Array.getElem?_eq_some_iff.1 ho; have := (Array.all_eq_true.1 h) i hi; rw [e] at this; cases this
theorem NW (hd : xN ops = true) (hL : ¬ LetsOut Q) {i : Nat} {K K' : Act → World → Prop} {a : Act} {w : World} (hK : ∀ a w, K a w → K' a w) (h : wpOp P ops Q i K a w) : wpOpIn (Fence.wide.inRound l0) n P ops Q i K' a w := by
 refine wpOpIn_mono hK ?_; unfold wpOp at h; unfold wpOpIn
 split
 ·rename_i ho; simpa [ho] using h
 ·rename_i o ho; simp only [ho] at h
  split
  ·rename_i hw; simp only [hw, if_true] at h
   rcases h with h | h
   ·exact NV (Dv hd ho) h
   ·exact absurd h.2 hL
  ·rename_i hw; simp only [hw] at h; exact ⟨fun _ _ => trivial, h⟩
theorem zg (hd : xN ops = true) (hL : ¬ LetsOut Q) : ∀ (fuel : Nat) (l : Array Bool) (a : Act) (w : World), wpAny P md ops Q fuel l a w → wpAnyIn (Fence.wide.inRound l0) n P md ops Q fuel l a w
 | 0, _, _, _, h => h
 | fuel + 1, _, _, _, h => ⟨h.1, fun i hi => NW hd hL (fun _ _ => zg hd hL fuel _ _ _) (h.2 i hi)⟩
theorem zh {S : World → Prop} {ds : List Nat} {id m : Nat} {a : Act} {w : World} (l : Array Bool) (hd : xN ops = true) (hL : ¬ LetsOut Q) (hm : P.follows .mixedOrders = true) (hn : ops.size = m) (hl : Array.replicate m false = l) (hS : S w.drew)
 (h : S w.drew → cB P .any ops Q S ds m l a w.drew) : (Code.region id ops true).wpIn (Fence.wide.inRound l0) n P Q a w := by
 subst hn; subst hl; exact wpIn_region_any hm (zg hd hL _ _ _ _ (om _ _ _ _ (h hS)))
end
end Go.Proofs.Ytkgeihbcikiedaa.P
set_option linter.unusedVariables false
set_option linter.unusedSimpArgs false
set_option linter.constructorNameAsVariable false
set_option linter.unusedSectionVars false
namespace Go.Proofs.Ytkgeihbcikiedaa.P
open Go.RowKit Go.Shelf Go.Proofs.YtkgeihbcikiedaaW.PrintWords Go.Proofs.YtkgeihbcikiedaaW.PrintLast Go.Proofs.YtkgeihbcikiedaaW.PrintMore
attribute [local go_sem] eU eX fU fV dX dY eZ fo
attribute [local go_sem] Oper.semAt_some
def lL (kind : Int) : Nat := if kind = 3 then 66 else if kind = 4 then 43 else 95
set_option maxHeartbeats 8000000 in
set_option maxRecDepth 100000 in
theorem Jj (p : Value) (kind : Int) (w : World) : Calls Try.prog 84 #[p, .int .i64 kind] w fun e w' => e = .returned (.func (.func (lL kind)) #[p] #[]) ∧ Below w.heap.size w w' := by
 have HB := af.mk (Below.refl w.heap.size w)
 by_cases h : kind = 3
 ·subst h
  go_enter Try.func84, Try.ntmps84
  go_wp2; go_ret; exact ⟨rfl, HB.out⟩
 ·have hb0 : (kind == 3) = false := beq_eq_false_iff_ne.mpr h
  by_cases h4 : kind = 4
  ·subst h4
   go_enter Try.func84, Try.ntmps84
   go_wp2; go_ret; exact ⟨rfl, HB.out⟩
  ·have hb1 : (kind == 4) = false := beq_eq_false_iff_ne.mpr h4
   go_enter Try.func84, Try.ntmps84
   go_wp2; go_ret; exact ⟨by unfold lL; rw [if_neg h, if_neg h4]; rfl, HB.out⟩
set_option maxHeartbeats 8000000 in
set_option maxRecDepth 100000 in
theorem FZ (a : Option Addr) (n c : Nat) (w : World) : Calls Try.prog 85 #[.slice a n c, .int .i64 2] w fun e w' =>
 e = .returned (.func (.func 96) #[] #[.pointer (some ⟨w.heap.size, 0, none⟩), .pointer (some ⟨w.heap.size + 1, 0, none⟩)]) ∧ w' = (w.alloc (.cells #[.slice a n c] 44)).alloc (.cells #[.int .i64 2] 3) := by
 go_enter Try.func85, Try.ntmps85
 go_wp2; go_ret; exact ⟨rfl, rfl⟩
def KC (S : Nat → Prop) (W W' : World) : Prop := W.heap.size ≤ W'.heap.size ∧ ∀ k, S k → (∃ t, TB W t k) → W'.heap[k]? = W.heap[k]?
section
variable {S : Nat → Prop}
theorem KC.refl (W : World) : KC S W W := ⟨Nat.le_refl _, fun _ _ _ => rfl⟩
theorem KC.trans {A B C : World} (h : KC S A B) (k : KC S B C) : KC S A C := ⟨Nat.le_trans h.1 k.1, fun i hi ht => by
 have e := h.2 i hi ht; obtain ⟨t, ht⟩ := ht
 exact (k.2 i hi ⟨t, ht.keep e⟩).trans e⟩
theorem KC.blk {A B : World} {k : Nat} {c : Array Value} {t : TypeId} (h : KC S A B) (hb : A.heap[k]? = some (.cells c t (0, 0))) (hk : S k) : B.heap[k]? = some (.cells c t (0, 0)) :=
 (h.2 k hk ⟨t, c, hb⟩).trans hb
theorem KC.put (W : World) (l : Nat) (o o' : Obj) (hl : W.heap[l]? = some o) (ho : o.isCells = false) : KC S W (W.putObj l o') :=
 ⟨by simp, fun k _ hk => World.putObj_heap_other (fun e => by
  obtain ⟨t, c, hc⟩ := hk; rw [e, hl] at hc; injection hc with hc; subst hc
  cases ho)⟩
end
def oo (b off len k : Nat) : Value := .slice (some ⟨b, off + 2 * k, none⟩) (min 2 (len - 2 * k)) (min 2 (len - 2 * k))
theorem lW {m : Nat} (k : Nat) (hk : k < m) : (List.finRange m).take (k + 1) = (List.finRange m).take k ++ [⟨k, hk⟩] := by
 rw [List.take_succ_eq_append_getElem (by simpa using hk)]
 simp
theorem Y0 {P : Program} (t e : TypeId) (kh : IntKind) {i : TypeInfo} (ht : P.underlying t = some (.slice e)) (hi : P.info? e = some i) (hs : i.size = 1) (b off n c j : Nat) (hj : j < n) (hc : n ≤ c) :
 ∀ W : World, (Instr.slice t (.slice (some ⟨b, off, none⟩) n c) (some (.int kh (j : Int))) none none).run P W = .ok (.slice (some ⟨b, off + j, none⟩) (n - j) (c - j)) W := by
 intro W
 have hel : P.elem t = e := by simp [Program.elem, ht]
 have hu : P.underlying t = some (.slice (P.elem t)) := by rw [hel]; exact ht
 rw [run_slice_l W t _ n c hu kh j (by omega) (by omega), hel]
 have h1 : ¬ c = j := by omega
 have ha : Addr.add ⟨b, off, none⟩ j = ⟨b, off + j, none⟩ := by unfold Addr.add; split <;> simp [*]
 simp [sizeOf, typeInfo, hi, hs, sliced, Result.andThen, h1, ha]
theorem Dw {P : Program} (t e : TypeId) (kh : IntKind) {i : TypeInfo} (ht : P.underlying t = some (.slice e)) (hi : P.info? e = some i) (hs : i.size = 1) (b off n c j m : Nat) (hj : 0 < m) (hm : j + m ≤ n) (hc : n ≤ c) (x : Int) (hx : x = (j + m : Nat)) :
 ∀ W : World, (Instr.slice t (.slice (some ⟨b, off, none⟩) n c) (some (.int kh (j : Int))) (some (.int kh x)) (some (.int kh x))).run P W = .ok (.slice (some ⟨b, off + j, none⟩) m m) W := by
 intro W; subst hx
 have hel : P.elem t = e := by simp [Program.elem, ht]
 have hu : P.underlying t = some (.slice (P.elem t)) := by rw [hel]; exact ht
 rw [run_slice_lhm W t _ n c hu kh kh kh j (j + m : Nat) (j + m : Nat) (by omega) (by omega) (by omega) (by omega), hel]
 have h1 : ¬ m = 0 := by omega
 have h2 : ((j : Int) + (m : Int)).toNat = j + m := by omega
 have ha : Addr.add ⟨b, off, none⟩ j = ⟨b, off + j, none⟩ := by unfold Addr.add; split <;> simp [*]
 simp [sizeOf, typeInfo, hi, hs, sliced, Result.andThen, h1, h2, ha]
def acA : List Nat := [0, 0, 0, 6, 14, 31, 63]
noncomputable def WQ : Bool × List (List Nat × List Nat) := iZ .any (opsOf Try.f96 3)
theorem Lu : iZ .any (opsOf Try.f96 3) = WQ := rfl
theorem F5 : ji WQ.2 acA = true := by kernel_rfl
set_option maxRecDepth 100000 in
set_option maxHeartbeats 8000000 in
theorem NY (n : Nat) (hn : 1 ≤ n) (S : Nat → Prop) (l Bs Bn b off len cap : Nat) (hS1 : S Bs) (hS2 : S Bn) (hcap : len ≤ cap) (hreach : len ≤ 1000000) (J Jx : List (Fin ((len + 1) / 2)) → World → Prop)
 (W : World) (hJ : AbidesFrom W.heap.size J)
 (hY : ∀ pre (x : Fin ((len + 1) / 2)) W, J pre W → pre.length < (len + 1) / 2 → YieldAt Fence.wide (n - 1) Try.prog l #[oo b off len x.1] W fun e W' =>
  (e = .returned (.bool true) ∧ J (pre ++ [x]) W' ∧ KC S W W') ∨ (e = .returned (.bool false) ∧ Jx (pre ++ [x]) W'))
 (hBs : W.heap[Bs]? = some (.cells #[.slice (some ⟨b, off, none⟩) len cap] 44 (0, 0))) (hBn : W.heap[Bn]? = some (.cells #[.int .i64 2] 3 (0, 0))) (h0 : J [] W) :
 CallsIn Fence.wide n Try.prog 96 #[.func (.yield l) #[] #[], .pointer (some ⟨Bs, 0, none⟩), .pointer (some ⟨Bn, 0, none⟩)] W fun e W' => (∃ v, e = .returned v) ∧
  ((∃ ys, ys = List.finRange ((len + 1) / 2) ∧ J ys W') ∨ (∃ pre, pre <+: List.finRange ((len + 1) / 2) ∧ Jx pre W')) := by
 refine callsIn_of_wp Try.func96 rfl trivial ?_ rfl; simp only [Try.ntmps96, List.size_toArray, List.length_cons, List.length_nil, Nat.reduceAdd, Nat.reduceSub, Array.replicate_succ, Array.replicate_zero, List.push_toArray, List.append_toArray, List.nil_append, List.cons_append]
 gi_wp2
 gi_loopw [4] (fun i wr => ∃ k j : Nat, af (j = 2 * k) ∧ k ≤ (len + 1) / 2 ∧ i = .int .i64 j ∧ J ((List.finRange ((len + 1) / 2)).take k) wr ∧ KC S W wr ∧ W.heap.size ≤ wr.heap.size)
  (fun i _ => len + 2 - (intOf i).toNat)
 case atStart => exact ⟨0, 0, ⟨rfl⟩, Nat.zero_le _, rfl, by simpa using h0, KC.refl _, Nat.le_refl _⟩
 case round =>
  obtain ⟨k, j, hj, hk, rfl, hJs, hnx, hsz⟩ := hrel; have hs1 := hnx.blk hBs hS1; have hn1 := hnx.blk hBn hS2; have hcs : wr.cell? ⟨Bs, 0, none⟩ = some (.slice (some ⟨b, off, none⟩) len cap) := (ak hs1 0).trans rfl; have hcn : wr.cell? ⟨Bn, 0, none⟩ = some (.int .i64 2) := (ak hn1 0).trans rfl
  by_cases hlt : j < len
  ·obtain ⟨i03, Jk, _, Ca, _⟩ := info_parts info3; have WR := Y0 (P := Try.prog) 44 3 .i64 Try.underlying44 Jk Ca b off len cap j hlt hcap
   have hkm : k < (len + 1) / 2 := by have := hj.out; omega
   have hJd : J ((List.finRange ((len + 1) / 2)).take k) wr.drew := hJ _ _ _ none hJs ⟨rfl, rfl, rfl, Nat.le_refl _, fun _ _ _ => rfl⟩ (fun r e => by cases e); obtain ⟨fn, tmps, assign, body, hy, hR⟩ := hY _ ⟨k, hkm⟩ wr.drew hJd (by simp; omega); dsimp only at hy; have hcsd : wr.drew.cell? ⟨Bs, 0, none⟩ = some (.slice (some ⟨b, off, none⟩) len cap) := hcs; have hcnd : wr.drew.cell? ⟨Bn, 0, none⟩ = some (.int .i64 2) := hcn
   by_cases hl2 : len - j = 1
   ·rw [hl2] at WR; have Lv := Dw (P := Try.prog) 44 3 .i64 Try.underlying44 Jk Ca b off len cap j 1 (by omega) (by omega) hcap ((j : Int) + 1) (by omega)
    have hcv : oo b off len k = .slice (some ⟨b, off + j, none⟩) 1 1 := by
     have := hj.out; unfold oo; rw [← this, show min 2 (len - j) = 1 by omega]
    rw [hcv] at hy
    gi_wp2
    refine wpIn_wide.2 (mF (n := 7) (S := fun w' => w'.cell? ⟨Bs, 0, none⟩ = some (.slice (some ⟨b, off, none⟩) len cap) ∧ w'.cell? ⟨Bn, 0, none⟩ = some (.int .i64 2)) (ds := []) #[false, false, false, false, false, false, false] (by kernel_rfl) rfl rfl ⟨hcs, hcn⟩ (fun hHeld => ?_)); refine gW Lu F5 (fun HT_ HW_ => ?_); refine iq (i := 0) (N := some 13) (v := ?_) (a' := ?_) #[true, false, false, false, false, false, false] rfl rfl (eB HT_.out HW_.out (by kernel_rfl)) (fun _ _ _ h => h) (Or.inl ⟨by rfl, ?_⟩) hHeld ?_ ?_; rotate_left
    ·rintro w' ⟨s0, s1⟩; go_simp; with_reducible rfl
    rotate_left
    ·simp only [Act.put, List.setIfInBounds_toArray, List.set_cons_zero, List.set_cons_succ, aU, aV]; rfl
    refine iq (i := 1) (N := some 14) (v := ?_) (a' := ?_) #[true, true, false, false, false, false, false] rfl rfl (eB HT_.out HW_.out (by kernel_rfl)) (fun _ _ _ h => h) (Or.inl ⟨by rfl, ?_⟩) hHeld ?_ ?_; rotate_left
    ·rintro w' ⟨s0, s1⟩; go_simp; with_reducible rfl
    rotate_left
    ·simp only [Act.put, List.setIfInBounds_toArray, List.set_cons_zero, List.set_cons_succ, aU, aV]; rfl
    refine bT (i := 2) (N := some 15) (v := ?_) (a' := ?_) #[true, true, true, false, false, false, false] rfl rfl (bB HT_.out (by kernel_rfl)) (fun _ _ _ h => h) (Or.inl ⟨by rfl, ?_⟩) ?_ ?_; rotate_left
    ·intro w'; go_simp; with_reducible rfl
    rotate_left
    ·simp only [Act.put, List.setIfInBounds_toArray, List.set_cons_zero, List.set_cons_succ, aU, aV]; rfl
    refine bT (i := 3) (N := some 16) (v := ?_) (a' := ?_) #[true, true, true, true, false, false, false] rfl rfl (bB HT_.out (by kernel_rfl)) (fun _ _ _ h => h) (Or.inl ⟨by rfl, ?_⟩) ?_ ?_; rotate_left
    ·intro w'; go_simp; with_reducible rfl
    rotate_left
    ·simp only [Act.put, List.setIfInBounds_toArray, List.set_cons_zero, List.set_cons_succ, aU, aV]; rfl
    refine bT (i := 4) (N := some 17) (v := ?_) (a' := ?_) #[true, true, true, true, true, false, false] rfl rfl (bB HT_.out (by kernel_rfl)) (fun _ _ _ h => h) (Or.inl ⟨by rfl, ?_⟩) ?_ ?_; rotate_left
    ·intro w'; go_simp; with_reducible rfl
    rotate_left
    ·simp only [Act.put, List.setIfInBounds_toArray, List.set_cons_zero, List.set_cons_succ, aU, aV]; rfl
    refine bT (i := 5) (N := some 18) (v := ?_) (a' := ?_) #[true, true, true, true, true, true, false] rfl rfl (bB HT_.out (by kernel_rfl)) (fun _ _ _ h => h) (Or.inl ⟨by rfl, ?_⟩) ?_ ?_; rotate_left
    ·intro w'; go_simp; with_reducible rfl
    rotate_left
    ·simp only [Act.put, List.setIfInBounds_toArray, List.set_cons_zero, List.set_cons_succ, aU, aV]; rfl
    refine bT (i := 6) (N := some 5) (v := ?_) (a' := ?_) #[true, true, true, true, true, true, true] rfl rfl (bB HT_.out (by kernel_rfl)) (fun _ _ _ h => h) (Or.inl ⟨by rfl, ?_⟩) ?_ ?_; rotate_left
    ·intro w'; go_simp; with_reducible rfl
    rotate_left
    ·simp only [Act.put, List.setIfInBounds_toArray, List.set_cons_zero, List.set_cons_succ, aU, aV]; rfl
    refine mY (jA HT_.out (by kernel_rfl)) ?_
    gi_wp2
    refine hR.mono ?_; rintro e W3 (⟨rfl, hJ3, hk3⟩ | ⟨rfl, hJx3⟩)
    ·have hn3 := hk3.blk (show wr.drew.heap[Bn]? = _ from hn1) hS2; have ait : W3.cell? ⟨Bn, 0, none⟩ = some (.int .i64 2) := (ak hn3 0).trans rfl
     gi_wp2
     go_roundw
     case rel => exact ⟨k + 1, j + 2, ⟨by have := hj.out; omega⟩, by omega, by simp, by rw [lW k hkm]; exact hJ3, hnx.trans hk3, Nat.le_trans hsz hk3.1⟩
     case measure => simp [intOf]; omega
    ·gi_wp2
     refine bodyPost_ret (results_none rfl _ _ _) rfl ?_; exact ⟨⟨_, rfl⟩, .inr ⟨_, by rw [← lW k hkm]; exact List.take_prefix _ _, hJx3⟩⟩
   ·have hl3 : ¬ ((len - j : Nat) : Int) < 2 := by omega
    have Lv := Dw (P := Try.prog) 44 3 .i64 Try.underlying44 Jk Ca b off len cap j 2 (by omega) (by omega) hcap ((j : Int) + 2) (by omega)
    have hcv : oo b off len k = .slice (some ⟨b, off + j, none⟩) 2 2 := by
     have := hj.out; unfold oo; rw [← this, show min 2 (len - j) = 2 by omega]
    rw [hcv] at hy
    gi_wp2
    refine wpIn_wide.2 (mF (n := 7) (S := fun w' => w'.cell? ⟨Bs, 0, none⟩ = some (.slice (some ⟨b, off, none⟩) len cap) ∧ w'.cell? ⟨Bn, 0, none⟩ = some (.int .i64 2)) (ds := []) #[false, false, false, false, false, false, false] (by kernel_rfl) rfl rfl ⟨hcs, hcn⟩ (fun hHeld => ?_)); refine gW Lu F5 (fun HT_ HW_ => ?_); refine iq (i := 0) (N := some 13) (v := ?_) (a' := ?_) #[true, false, false, false, false, false, false] rfl rfl (eB HT_.out HW_.out (by kernel_rfl)) (fun _ _ _ h => h) (Or.inl ⟨by rfl, ?_⟩) hHeld ?_ ?_; rotate_left
    ·rintro w' ⟨s0, s1⟩; go_simp; with_reducible rfl
    rotate_left
    ·simp only [Act.put, List.setIfInBounds_toArray, List.set_cons_zero, List.set_cons_succ, aU, aV]; rfl
    refine iq (i := 1) (N := some 14) (v := ?_) (a' := ?_) #[true, true, false, false, false, false, false] rfl rfl (eB HT_.out HW_.out (by kernel_rfl)) (fun _ _ _ h => h) (Or.inl ⟨by rfl, ?_⟩) hHeld ?_ ?_; rotate_left
    ·rintro w' ⟨s0, s1⟩; go_simp; with_reducible rfl
    rotate_left
    ·simp only [Act.put, List.setIfInBounds_toArray, List.set_cons_zero, List.set_cons_succ, aU, aV]; rfl
    refine bT (i := 2) (N := some 15) (v := ?_) (a' := ?_) #[true, true, true, false, false, false, false] rfl rfl (bB HT_.out (by kernel_rfl)) (fun _ _ _ h => h) (Or.inl ⟨by rfl, ?_⟩) ?_ ?_; rotate_left
    ·intro w'; go_simp; with_reducible rfl
    rotate_left
    ·simp only [Act.put, List.setIfInBounds_toArray, List.set_cons_zero, List.set_cons_succ, aU, aV]; rfl
    refine bT (i := 3) (N := some 16) (v := ?_) (a' := ?_) #[true, true, true, true, false, false, false] rfl rfl (bB HT_.out (by kernel_rfl)) (fun _ _ _ h => h) (Or.inl ⟨by rfl, ?_⟩) ?_ ?_; rotate_left
    ·intro w'; go_simp; with_reducible rfl
    rotate_left
    ·simp only [Act.put, List.setIfInBounds_toArray, List.set_cons_zero, List.set_cons_succ, aU, aV]; rfl
    refine bT (i := 4) (N := some 17) (v := ?_) (a' := ?_) #[true, true, true, true, true, false, false] rfl rfl (bB HT_.out (by kernel_rfl)) (fun _ _ _ h => h) (Or.inl ⟨by rfl, ?_⟩) ?_ ?_; rotate_left
    ·intro w'; go_simp; with_reducible rfl
    rotate_left
    ·simp only [Act.put, List.setIfInBounds_toArray, List.set_cons_zero, List.set_cons_succ, aU, aV]; rfl
    refine bT (i := 5) (N := some 18) (v := ?_) (a' := ?_) #[true, true, true, true, true, true, false] rfl rfl (bB HT_.out (by kernel_rfl)) (fun _ _ _ h => h) (Or.inl ⟨by rfl, ?_⟩) ?_ ?_; rotate_left
    ·intro w'; go_simp; with_reducible rfl
    rotate_left
    ·simp only [Act.put, List.setIfInBounds_toArray, List.set_cons_zero, List.set_cons_succ, aU, aV]; rfl
    refine bT (i := 6) (N := some 5) (v := ?_) (a' := ?_) #[true, true, true, true, true, true, true] rfl rfl (bB HT_.out (by kernel_rfl)) (fun _ _ _ h => h) (Or.inl ⟨by rfl, ?_⟩) ?_ ?_; rotate_left
    ·intro w'; go_simp; with_reducible rfl
    rotate_left
    ·simp only [Act.put, List.setIfInBounds_toArray, List.set_cons_zero, List.set_cons_succ, aU, aV]; rfl
    refine mY (jA HT_.out (by kernel_rfl)) ?_
    gi_wp2
    refine hR.mono ?_; rintro e W3 (⟨rfl, hJ3, hk3⟩ | ⟨rfl, hJx3⟩)
    ·have hn3 := hk3.blk (show wr.drew.heap[Bn]? = _ from hn1) hS2; have ait : W3.cell? ⟨Bn, 0, none⟩ = some (.int .i64 2) := (ak hn3 0).trans rfl
     gi_wp2
     go_roundw
     case rel => exact ⟨k + 1, j + 2, ⟨by have := hj.out; omega⟩, by omega, by simp, by rw [lW k hkm]; exact hJ3, hnx.trans hk3, Nat.le_trans hsz hk3.1⟩
     case measure => simp [intOf]; omega
    ·gi_wp2
     refine bodyPost_ret (results_none rfl _ _ _) rfl ?_; exact ⟨⟨_, rfl⟩, .inr ⟨_, by rw [← lW k hkm]; exact List.take_prefix _ _, hJx3⟩⟩
  ·have hge : len ≤ j := by omega
   gi_wp2
   go_end0
   have : k = (len + 1) / 2 := by have := hj.out; omega
   subst this; rw [List.take_of_length_le (by simp)] at hJs; exact ⟨⟨_, rfl⟩, .inl ⟨_, rfl, hJs⟩⟩
end Go.Proofs.Ytkgeihbcikiedaa.P
set_option linter.unusedVariables false
set_option linter.unusedSimpArgs false
set_option linter.constructorNameAsVariable false
set_option linter.unusedSectionVars false
namespace Go.Proofs.Ytkgeihbcikiedaa.P
open Go.RowKit Go.Shelf Go.Proofs.YtkgeihbcikiedaaW.PrintWords Go.Proofs.YtkgeihbcikiedaaW.PrintLast Go.Proofs.YtkgeihbcikiedaaW.PrintMore
attribute [local go_sem] eU eX fU fV dX dY eZ fo
attribute [local go_sem] Oper.semAt_some
def gk (kind : Int) : Int := if kind = 3 then 3 else if kind = 4 then 4 else 5
theorem P8 (kind : Int) (nb g : Nat) (s : BSt) (a1 a2 r1 : Int) (r2 : BSt) (w0 w : World) (hI : BS w0 w nb g s) (hB : Below w0.heap.size w0 w) (h : ug s ⟨gk kind, a1, a2, 0⟩ = some (r1, r2)) :
 Calls Try.prog (lL kind) #[.pointer (some ⟨g, 0, none⟩), .int .i64 a1, .int .i64 a2] w fun e w' => e = .returned (.int .i64 r1) ∧ BS w0 w' nb g r2 ∧ Below w0.heap.size w0 w' ∧ KB w w' g := by
 unfold lL; unfold gk at h
 by_cases h3 : kind = 3
 ·rw [if_pos h3] at h ⊢; exact nM.calls nb g s a1 a2 r1 r2 w0 w hI hB h
 ·rw [if_neg h3] at h ⊢
  by_cases h4 : kind = 4
  ·rw [if_pos h4] at h ⊢; exact o7.calls nb g s a1 a2 r1 r2 w0 w hI hB h
  ·rw [if_neg h4] at h ⊢; exact qE.calls nb g s a1 a2 r1 r2 w0 w hI hB h
theorem F6 (kind : Int) (args : Array Value) (w : World) : (callFunc (lL kind) args).run Try.prog w = .ok (.enter (lL kind) args) w := by
 unfold lL
 by_cases h3 : kind = 3
 ·rw [if_pos h3]; exact nO Try.func66 (by kernel_rfl) rfl args w
 ·rw [if_neg h3]
  by_cases h4 : kind = 4
  ·rw [if_pos h4]; exact nO Try.func43 (by kernel_rfl) rfl args w
  ·rw [if_neg h4]; exact nO Try.func95 (by kernel_rfl) rfl args w
def gQ (s : BSt) (x : S92) : Int × BSt := ((s.nodes.length : Int), { s with nodes := s.nodes ++ [x] })
theorem oI {s : BSt} (x : S92) (h : s.nodes.length < 1000000) : ug s x = some (gQ s x) := by unfold ug; rw [if_pos h]; rfl
def jo (kind : Int) (L : List Int) (st : List Int × BSt) (k : Nat) : List Int × BSt :=
 if 2 * k + 1 < L.length then (st.1 ++ [(gQ st.2 ⟨gk kind, L.getD (2 * k) 0, L.getD (2 * k + 1) 0, 0⟩).1], (gQ st.2 ⟨gk kind, L.getD (2 * k) 0, L.getD (2 * k + 1) 0, 0⟩).2)
 else (st.1 ++ [L.getD (2 * k) 0], st.2)
def qO (kind : Int) (L : List Int) (s : BSt) (pre : List (Fin ((L.length + 1) / 2))) : List Int × BSt := pre.foldl (fun st k => jo kind L st k.1) ([], s)
theorem NZ (kind : Int) (L : List Int) (s : BSt) (pre : List (Fin ((L.length + 1) / 2))) (k : Fin ((L.length + 1) / 2)) : qO kind L s (pre ++ [k]) = jo kind L (qO kind L s pre) k.1 := by
 unfold qO; rw [List.foldl_append]; rfl
theorem Cb (kind : Int) (L : List Int) : ∀ (pre : List (Fin ((L.length + 1) / 2))) (st : List Int × BSt), (pre.foldl (fun st k => jo kind L st k.1) st).1.length = st.1.length + pre.length ∧ st.2.nodes.length ≤ (pre.foldl (fun st k => jo kind L st k.1) st).2.nodes.length ∧ (pre.foldl (fun st k => jo kind L st k.1) st).2.nodes.length ≤ st.2.nodes.length + pre.length
 | [], st => by simp
 | k :: pre, st => by
  have h := Cb kind L pre (jo kind L st k.1)
  have h1 : (jo kind L st k.1).1.length = st.1.length + 1 ∧ st.2.nodes.length ≤ (jo kind L st k.1).2.nodes.length ∧ (jo kind L st k.1).2.nodes.length ≤ st.2.nodes.length + 1 := by
   unfold jo
   split <;> simp [gQ]
  simp only [List.foldl_cons, List.length_cons]; omega
theorem qP (kind : Int) (L : List Int) (s : BSt) (pre : List (Fin ((L.length + 1) / 2))) : (qO kind L s pre).1.length = pre.length ∧ s.nodes.length ≤ (qO kind L s pre).2.nodes.length ∧ (qO kind L s pre).2.nodes.length ≤ s.nodes.length + pre.length := by
 have := Cb kind L pre ([], s)
 simpa [qO] using this
def ol (kind : Int) (L : List Int) (s : BSt) : List Int × BSt := qO kind L s (List.finRange ((L.length + 1) / 2))
theorem qG (kind : Int) (L : List Int) (s : BSt) : (ol kind L s).1.length = (L.length + 1) / 2 := by rw [ol, (qP _ _ _ _).1]; simp
def ig (kind : Int) (L : List Int) (s : BSt) : Int × BSt :=
 if h : 2 ≤ L.length then ig kind (ol kind L s).1 (ol kind L s).2 else (L.getD 0 0, s)
termination_by L.length
decreasing_by rw [qG]; omega
theorem TR (W : World) (v : Value) (t : TypeId) : (W.alloc (.cells #[v] t)).cell? ⟨W.heap.size, 0, none⟩ = some v ∧ (W.alloc (.cells #[v] t)).frozen? ⟨W.heap.size, 0, none⟩ = false :=
 ⟨(Boxed.new W t v).cell, (Boxed.new W t v).frozen⟩
def IL (W : World) (bb : Nat) (L : List Int) : Prop := ∃ cells, W.heap[bb]? = some (.cells cells 3 (0, 0)) ∧ ∀ j, j < L.length → cells[j]? = some (.int .i64 (L.getD j 0))
theorem IL.move {W W1 : World} {bb : Nat} {L : List Int} (h : IL W bb L) (hm : W1.heap[bb]? = W.heap[bb]?) : IL W1 bb L := by
 obtain ⟨c, h1, h2⟩ := h; exact ⟨c, hm.trans h1, h2⟩
theorem IL.tb {W : World} {bb : Nat} {L : List Int} (h : IL W bb L) : TB W 3 bb := by
 obtain ⟨c, h1, h2⟩ := h; exact ⟨c, h1⟩
theorem IL.cell {W : World} {bb : Nat} {L : List Int} (h : IL W bb L) {j : Nat} (hj : j < L.length) : W.cell? ⟨bb, j, none⟩ = some (.int .i64 (L.getD j 0)) := by
 obtain ⟨c, h1, h2⟩ := h; exact (ak h1 j).trans (h2 j hj)
theorem IL.KB {W W1 : World} {bb g : Nat} {L : List Int} (h : IL W bb L) (hk : KB W W1 g) : IL W1 bb L := h.move (hk.2 bb h.tb.lt (.of h.tb (by decide)))
theorem P9 {W : World} {base : Nat} {ok : Nat → Prop} {v : Value} {xs : List Int} (h : Kd.R (Kd.int .i64) 3 W base ok v xs) : Kd.R (Kd.int .i64) 3 W base (fun k => ok k ∧ base ≤ k ∧ TB W 3 k) v xs :=
 Kd.eG (Kd.gP h) (fun k ⟨h1, h2, _, q, hq, hc⟩ => by
  have hq : q ∈ [3] := hq; rw [List.mem_singleton] at hq; subst hq
  exact ⟨h1, h2, hc⟩)
theorem uH {W W1 : World} {base : Nat} {ok : Nat → Prop} {v : Value} {xs : List Int} (h : Kd.R (Kd.int .i64) 3 W base ok v xs) (hm : ∀ k, base ≤ k → TB W 3 k → W1.heap[k]? = W.heap[k]?) : Kd.R (Kd.int .i64) 3 W1 base ok v xs :=
 Kd.eG (Kd.jr (P9 h) (fun k hk _ => hm k hk.2.1 hk.2.2)) (fun k hk => hk.1)
theorem lF {W W1 : World} {base g : Nat} {ok : Nat → Prop} {v : Value} {xs : List Int} (h : Kd.R (Kd.int .i64) 3 W base ok v xs) (hk : KB W W1 g) : Kd.R (Kd.int .i64) 3 W1 base ok v xs :=
 uH h (fun k _ ht => hk.2 k ht.lt (.of ht (by decide)))
theorem xe {W : World} {base : Nat} {ok : Nat → Prop} {v : Value} {xs : List Int} (h : Kd.R (Kd.int .i64) 3 W base ok v xs) (hp : 0 < xs.length) : ∃ bb c, v = .slice (some ⟨bb, 0, none⟩) xs.length c ∧ xs.length ≤ c ∧ base ≤ bb ∧ IL W bb xs := by
 obtain ⟨bb, c, rfl, hb, hl, cells, hc⟩ := Kd.kH h hp; refine ⟨bb, c, rfl, (Kd.bY h).2.1, hb, cells, hc, fun j hj => ?_⟩; have := (Kd.gu 0 h (j : Int) (by omega) (by omega)).1; rw [Int.toNat_natCast, show lI 0 xs (j : Int) = xs.getD j 0 from by unfold lI; rw [Int.toNat_natCast]] at this; rw [← this, ak hc j]
def Mk (B : Nat) (W : World) (ds : List Deferred) : Prop := ∃ Ds : List Nat, ds = Ds.map (fun D => { target := .collected D, args := #[] }) ∧ Ds.Nodup ∧ ∀ D ∈ Ds, B ≤ D ∧ W.heap[D]? = some (.deferred (some []))
theorem Mk.move {B : Nat} {W W1 : World} {ds : List Deferred} (h : Mk B W ds) (hm : ∀ D, B ≤ D → W.heap[D]? = some (.deferred (some [])) → W1.heap[D]? = W.heap[D]?) : Mk B W1 ds := by
 obtain ⟨Ds, h1, h2, h3⟩ := h; exact ⟨Ds, h1, h2, fun D hD => ⟨(h3 D hD).1, (hm D (h3 D hD).1 (h3 D hD).2).trans (h3 D hD).2⟩⟩
theorem Mk.cons {B : Nat} {W W1 : World} {ds : List Deferred} (h : Mk B W ds) (hm : ∀ D, B ≤ D → W.heap[D]? = some (.deferred (some [])) → W1.heap[D]? = W.heap[D]?) {D : Nat} (hD : W.heap.size ≤ D) (hB : B ≤ D) (hd : W1.heap[D]? = some (.deferred (some []))) : Mk B W1 ({ target := .collected D, args := #[] } :: ds) := by
 obtain ⟨Ds, h1, h2, h3⟩ := h; refine ⟨D :: Ds, by rw [h1]; rfl, List.nodup_cons.2 ⟨fun hc => ?_, h2⟩, fun E hE => ?_⟩
 ·have := gU (h3 D hc).2; omega
 ·rcases List.mem_cons.1 hE with rfl | hE
  ·exact ⟨hB, hd⟩
  ·exact ⟨(h3 E hE).1, (hm E (h3 E hE).1 (h3 E hE).2).trans (h3 E hE).2⟩
def Tn (B : Nat) (W W' : World) : Prop := Below B W W' ∧ ∀ k t, TB W t k → W'.heap[k]? = W.heap[k]?
theorem Tn.refl (B : Nat) (W : World) : Tn B W W := ⟨Below.refl _ _, fun _ _ _ => rfl⟩
theorem Tn.trans {B : Nat} {W W1 W2 : World} (h : Tn B W W1) (k : Tn B W1 W2) : Tn B W W2 := ⟨h.1.trans k.1, fun i t hi => by
 have e := h.2 i t hi
 exact (k.2 i t (hi.keep e)).trans e⟩
theorem Tn.put {B : Nat} {W : World} {D : Nat} {o : Obj} (o' : Obj) (hD : B ≤ D) (h : W.heap[D]? = some o) (ho : o.isCells = false) : Tn B W (W.putObj D o') :=
 ⟨⟨rfl, rfl, rfl, by simp, fun k hk => World.putObj_heap_other (by omega)⟩, fun k t hk => World.putObj_heap_other (fun e => by
  obtain ⟨c, hc⟩ := hk; rw [e, h] at hc; injection hc with hc; subst hc
  cases ho)⟩
theorem uI {F : Fence} {n : Nat} {P : Program} {fn : Func} {tmps : Array Value} {R : Ending → World → Prop} {B : Nat} : ∀ (Ds : List Nat) (W : World), Ds.Nodup → (∀ D ∈ Ds, B ≤ D ∧ W.heap[D]? = some (.deferred (some []))) →
 (∀ W', Tn B W W' → ∃ v, (results fn tmps).run P W' = .ok v W' ∧ R (.returned v) W') → LeavesInM F n P fn tmps R (Ds.map (fun D => { target := .collected D, args := #[] })) .returning W
 | [], W, _, _, h => h W (Tn.refl _ _)
 | D :: Ds, W, hn, hd, h => by
  obtain ⟨hD, hk⟩ := hd D (by simp); refine ⟨by simp, .inl ⟨D, _, rfl, run_takeDeferred hk, ?_⟩⟩; have ht : Tn B W (W.putObj D (.deferred none)) := Tn.put _ hD hk rfl; refine uI Ds _ (List.nodup_cons.1 hn).2 (fun E hE => ?_) (fun W' hW' => h W' (ht.trans hW')); obtain ⟨h1, h2⟩ := hd E (by simp [hE]); exact ⟨h1, (World.putObj_heap_other (by intro e; apply (List.nodup_cons.1 hn).1; first | (rw [e]; exact hE) | (rw [← e]; exact hE))).trans h2⟩
theorem Mk.leaves {F : Fence} {n : Nat} {P : Program} {fn : Func} {tmps : Array Value} {R : Ending → World → Prop} {B : Nat} {W : World} {ds : List Deferred} (hm : Mk B W ds)
 (h : ∀ W', Tn B W W' → ∃ v, (results fn tmps).run P W' = .ok v W' ∧ R (.returned v) W') : LeavesInM F n P fn tmps R ds .returning W := by
 obtain ⟨Ds, rfl, h2, h3⟩ := hm; exact uI Ds W h2 h3 h
theorem BS.turn {w0 W W1 : World} {nb g B : Nat} {s : BSt} (h : BS w0 W nb g s) (ht : Tn B W W1) : BS w0 W1 nb g s := h.step ht.1.size (fun k _ hB => by
 rcases hB with e | e | e | e
 ·exact ht.2 k _ e
 ·exact ht.2 k _ e
 ·exact ht.2 k _ e
 ·exact ht.2 k _ e.1)
theorem KB.turn {w W W1 : World} {g B : Nat} (h : KB w W g) (ht : Tn B W W1) (hB : w.heap.size ≤ B) : KB w W1 g := ⟨Nat.le_trans h.1 ht.1.size, fun k hk hs => (ht.1.block k (by omega)).trans (h.2 k hk hs)⟩
theorem Qa {A B : World} {row : Option Nat} {B0 : Nat} (hg : A.grownBy B row) (hr : ∀ r, row = some r → B0 ≤ r ∧ ∃ o : Obj, A.heap[r]? = some o ∧ o.isCells = false) (hs : B0 ≤ A.heap.size) : Tn B0 A B :=
 ⟨⟨hg.os, hg.tape, hg.output, hg.size, fun k hk => hg.block k (by omega) (fun e => by have := (hr k e.symm).1; omega)⟩, fun k t ht => hg.block k ht.lt (fun e => by
  obtain ⟨_, o, ho, hc⟩ := hr k e.symm; obtain ⟨c, hb⟩ := ht; rw [hb] at ho; injection ho with ho; subst ho
  cases hc)⟩
theorem Boxed.turn {W W1 : World} {B k : Nat} {t : TypeId} {v : Value} (h : Boxed W k t v) (ht : Tn B W W1) : Boxed W1 k t v := (ht.2 k t ⟨_, h⟩).trans h
theorem TS {W W1 : World} {B base : Nat} {ok : Nat → Prop} {v : Value} {xs : List Int} (h : Kd.R (Kd.int .i64) 3 W base ok v xs) (ht : Tn B W W1) : Kd.R (Kd.int .i64) 3 W1 base ok v xs := uH h (fun k _ hk => ht.2 k 3 hk)
theorem Below.turn {w0 W W1 : World} {B : Nat} (h : Below w0.heap.size w0 W) (ht : Tn B W W1) (hB : w0.heap.size ≤ B) : Below w0.heap.size w0 W1 := h.trans (ht.1.mono hB)
theorem Boxed.KB {W W1 : World} {k g : Nat} {t : TypeId} {v : Value} (h : Boxed W k t v) (hk : KB W W1 g) (ht : t ≠ 89 ∧ t ≠ 92 ∧ t ≠ 94) : Boxed W1 k t v := (hk.2 k h.lt (.of ⟨_, h⟩ ht)).trans h
theorem KeepsOthers.WS {W W1 : World} {g : Nat} (h : KB W W1 g) : KeepsOthers W W1 := ⟨h.1, fun k o hk ho => (h.2 k (gU hk) (fun e => by
 rcases e with ⟨c, e⟩ | ⟨c, e⟩ | ⟨c, e⟩
 all_goals (rw [hk] at e; injection e with e; subst e; cases ho))).trans hk⟩
def sliceLen : Value → Nat
 | .slice _ n _ => n
 | _ => 0
theorem Safe.Y1 {W : World} {k : Nat} {x : Option (List Deferred)} (h : W.heap[k]? = some (.deferred x)) : Safe W k := fun e => by
 rcases e with ⟨c, e⟩ | ⟨c, e⟩ | ⟨c, e⟩
 all_goals (rw [h] at e; injection e with e; cases e)
theorem cell_below {W W1 : World} {a : Addr} {v : Value} (hb : Below W.heap.size W W1) (h : W.cell? a = some v) : W1.cell? a = some v := (hb.cell (World.block_lt_of_cell? W _ h)).trans h
theorem KB.grown {w W W1 : World} {g : Nat} {row : Option Nat} (h : KB w W g) (hg : W.grownBy W1 row) (hr : ∀ r, row = some r → w.heap.size ≤ r) : KB w W1 g :=
 ⟨Nat.le_trans h.1 hg.size, fun k hk hs => (hg.block k (by have := h.1; omega) (fun e => by have := hr k e.symm; omega)).trans (h.2 k hk hs)⟩
end Go.Proofs.Ytkgeihbcikiedaa.P
