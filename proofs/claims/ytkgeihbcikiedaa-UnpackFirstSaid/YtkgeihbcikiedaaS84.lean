/- The contracts of slices.Backward and of unpack.First, for at most a hundred words of at most a thousand bits. -/
import Derived.Test.YtkgeihbcikiedaaS82
import Derived.Test.YtkgeihbcikiedaaS60
import Derived.Test.YtkgeihbcikiedaaS66
set_option linter.unusedVariables false
set_option linter.unusedSimpArgs false
set_option linter.constructorNameAsVariable false
set_option linter.unusedSectionVars false
namespace Go.Proofs.Ytkgeihbcikiedaa.P
open Go.RowKit Go.Shelf Go.Proofs.YtkgeihbcikiedaaW.PrintWords Go.Proofs.YtkgeihbcikiedaaW.PrintLast Go.Proofs.YtkgeihbcikiedaaW.PrintMore
attribute [local go_sem] dM dN eu eB dx dz dO dP
attribute [local go_sem] Oper.semAt_some
set_option maxHeartbeats 8000000 in
set_option maxRecDepth 100000 in
theorem H9 (a : Option Addr) (n c : Nat) (w : World) : Calls Try.prog 41 #[.slice a n c] w fun e w' =>
 e = .returned (.func (.func 68) #[] #[.pointer (some ⟨w.heap.size, 0, none⟩)]) ∧ w' = w.alloc (.cells #[.slice a n c] 96) := by
 go_enter Try.func41, Try.ntmps41
 go_wp2; go_ret; exact ⟨rfl, rfl⟩
def WL (W : World) (b len : Nat) (row : Nat → Value) : Prop := ∃ cells, W.heap[b]? = some (.cells cells 44 (0, 0)) ∧ ∀ i, i < len → cells[i]? = some (row i)
theorem WL.cell {W : World} {b len i : Nat} {row : Nat → Value} (h : WL W b len row) (hi : i < len) : W.cell? ⟨b, i, none⟩ = some (row i) := by
 obtain ⟨c, h1, h2⟩ := h; exact (aj h1 i).trans (h2 i hi)
theorem WL.move {W W1 : World} {b len : Nat} {row : Nat → Value} (h : WL W b len row) (hm : W1.heap[b]? = W.heap[b]?) : WL W1 b len row := by
 obtain ⟨c, h1, h2⟩ := h; exact ⟨c, hm.trans h1, h2⟩
theorem WL.tb {W : World} {b len : Nat} {row : Nat → Value} (h : WL W b len row) : TB W 44 b := by
 obtain ⟨c, h1, h2⟩ := h; exact ⟨c, h1⟩
set_option maxRecDepth 100000 in
set_option maxHeartbeats 8000000 in
theorem Ov (n : Nat) (hn : 1 ≤ n) (S : Nat → Prop) (l Bs rb len cap : Nat) (row : Nat → Value) (hS1 : S Bs) (hS2 : S rb) (hcap : len ≤ cap) (hreach : len ≤ 1000000) (J Jx : List (Fin len) → World → Prop)
 (W : World) (hJ : AbidesFrom W.heap.size J)
 (hY : ∀ pre (x : Fin len) W, J pre W → pre.length < len → YieldAt Fence.wide (n - 1) Try.prog l #[.int .i64 ((len - 1 - x.1 : Nat) : Int), row (len - 1 - x.1)] W fun e W' =>
  (e = .returned (.bool true) ∧ J (pre ++ [x]) W' ∧ KC S W W') ∨ (e = .returned (.bool false) ∧ Jx (pre ++ [x]) W'))
 (hBs : W.heap[Bs]? = some (.cells #[.slice (some ⟨rb, 0, none⟩) len cap] 96 (0, 0))) (hrb : WL W rb len row) (h0 : J [] W) :
 CallsIn Fence.wide n Try.prog 68 #[.func (.yield l) #[] #[], .pointer (some ⟨Bs, 0, none⟩)] W fun e W' => (∃ v, e = .returned v) ∧
  ((∃ ys, ys = List.finRange len ∧ J ys W') ∨ (∃ pre, pre <+: List.finRange len ∧ Jx pre W')) := by
 refine callsIn_of_wp Try.func68 rfl trivial ?_ rfl; simp only [Try.ntmps68, List.size_toArray, List.length_cons, List.length_nil, Nat.reduceAdd, Nat.reduceSub, Array.replicate_succ, Array.replicate_zero, List.push_toArray, List.append_toArray, List.nil_append, List.cons_append]; have hc0 : W.cell? ⟨Bs, 0, none⟩ = some (.slice (some ⟨rb, 0, none⟩) len cap) := (aj hBs 0).trans rfl
 gi_wp2
 gi_loopw [3] (fun i wr => ∃ (k : Nat) (z : Int), af (z = (len : Int) - 1 - k) ∧ k ≤ len ∧ i = .int .i64 z ∧ J ((List.finRange len).take k) wr ∧ KC S W wr ∧ W.heap.size ≤ wr.heap.size)
  (fun i _ => ((intOf i) + 1).toNat)
 case atStart => exact ⟨0, (len : Int) - 1, ⟨by omega⟩, Nat.zero_le _, rfl, by simpa using h0, KC.refl _, Nat.le_refl _⟩
 case round =>
  obtain ⟨k, z, hz, hk, rfl, hJs, hnx, hsz⟩ := hrel; have hs1 := hnx.blk hBs hS1; have hcs : wr.cell? ⟨Bs, 0, none⟩ = some (.slice (some ⟨rb, 0, none⟩) len cap) := (aj hs1 0).trans rfl; have hrb' : WL wr rb len row := hrb.move (hnx.2 rb hS2 ⟨44, hrb.tb⟩)
  by_cases hlt : k < len
  ·obtain ⟨q, hq⟩ : ∃ q, q = len - 1 - k := ⟨_, rfl⟩
   have hzq : z = (q : Int) := by have := hz.out; omega
   have hcr := hrb'.cell (i := q) (by omega)
   have hql : (q : Int) < (len : Int) := by omega
   obtain ⟨fn, tmps, assign, body, hy, hR⟩ := hY _ ⟨k, hlt⟩ wr hJs (by simp; omega); dsimp only at hy; rw [← hq] at hy; have HQ := af.mk (show q = len - 1 - k ∧ k < len from ⟨hq, hlt⟩); clear hz hq; subst hzq
   gi_wp2
   refine hR.mono ?_; rintro e W3 (⟨rfl, hJ3, hk3⟩ | ⟨rfl, hJx3⟩)
   ·gi_wp2
    go_roundw
    case rel => exact ⟨k + 1, (q : Int) - 1, ⟨by have := HQ.out; omega⟩, HQ.out.2, rfl, by rw [ji k HQ.out.2]; exact hJ3, hnx.trans hk3, Nat.le_trans hsz hk3.1⟩
    case measure =>
     simp only [intOf]; omega
   ·gi_wp2
    refine bodyPost_ret (results_none rfl _ _ _) rfl ?_; exact ⟨⟨_, rfl⟩, .inr ⟨_, by rw [← ji k HQ.out.2]; exact List.take_prefix _ _, hJx3⟩⟩
  ·have hzm : z = -1 := by have := hz.out; omega
   subst hzm
   gi_wp2
   go_end0
   have : k = len := by omega
   subst this; rw [List.take_of_length_le (by simp)] at hJs; exact ⟨⟨_, rfl⟩, .inl ⟨_, rfl, hJs⟩⟩
theorem Ia (n : Nat) (hn : 1 ≤ n) (S : Nat → Prop) (Bs rb len cap : Nat) (row : Nat → Value) (hS1 : S Bs) (hS2 : S rb) (hcap : len ≤ cap) (hreach : len ≤ 1000000) (w : World)
 (hBs : w.heap[Bs]? = some (.cells #[.slice (some ⟨rb, 0, none⟩) len cap] 96 (0, 0))) (hrb : WL w rb len row) :
 SeqStopsK Fence.wide n Try.prog 68 #[.pointer (some ⟨Bs, 0, none⟩)] (fun x : Fin len => #[.int .i64 ((len - 1 - x.1 : Nat) : Int), row (len - 1 - x.1)]) (KC S)
  (fun ys => ys = List.finRange len) (fun pre => pre <+: List.finRange len) len w := fun l J Jx W hW hJ _ hY h0 =>
 Ov n hn S l Bs rb len cap row hS1 hS2 hcap hreach J Jx W hJ hY ((hW.block _ (fC hBs)).trans hBs) (hrb.move (hW.block _ hrb.tb.lt)) h0
end Go.Proofs.Ytkgeihbcikiedaa.P
set_option linter.unusedVariables false
set_option linter.unusedSimpArgs false
set_option linter.constructorNameAsVariable false
set_option linter.unusedSectionVars false
namespace Go.Proofs.Ytkgeihbcikiedaa.P
open Go.RowKit Go.Shelf Go.Proofs.YtkgeihbcikiedaaW.PrintWords Go.Proofs.YtkgeihbcikiedaaW.PrintLast Go.Proofs.YtkgeihbcikiedaaW.PrintMore
attribute [local go_sem] dM dN eu eB dx dz dO dP
attribute [local go_sem] Oper.semAt_some
structure FsR where
 out : List Int
 is : Int
 sg : Int
 st : BSt
def fs0 (n : Nat) (s : BSt) : FsR :=
 let a := d9 (jf s n) ⟨0, 0, 0, 0⟩
 let b := d9 a.2 ⟨0, 0, 0, 0⟩
 ⟨bR s.nodes.length n, a.1, b.1, b.2⟩
def kC (p n : Nat) (x : List Int) (r : FsR) : FsR :=
 let o := ofF p n x r.st
 let q := d9 o.st ⟨0, 1, 0, 0⟩
 let m := iK r.out (x.set (p - 2) q.1) o.none_ q.2 n
 let i := d9 m ⟨4, r.is, o.none_, 0⟩
 let j := d9 i.2 ⟨4, r.sg, o.sig, 0⟩
 ⟨bR q.2.nodes.length n, i.1, j.1, j.2⟩
def jQ (p n len : Nat) (xs : Nat → List Int) (s : BSt) (pre : List (Fin len)) : FsR := pre.foldl (fun r k => kC p n (xs (len - 1 - k.1)) r) (fs0 n s)
theorem Ib (p n len : Nat) (xs : Nat → List Int) (s : BSt) (pre : List (Fin len)) (k : Fin len) : jQ p n len xs s (pre ++ [k]) = kC p n (xs (len - 1 - k.1)) (jQ p n len xs s pre) := by
 unfold jQ; rw [List.foldl_append]; rfl
theorem CG (n : Nat) (s : BSt) : (fs0 n s).out.length = n ∧ (fs0 n s).st.nodes.length = s.nodes.length + n + 2 := by
 constructor
 ·exact aX _ _
 ·show (d9 (d9 (jf s n) _).2 _).2.nodes.length = _; rw [iD, iD, mM]
theorem vP {W : World} {base : Nat} {v : Value} {xs : List Int} (h : Kd.R (Kd.int .i64) 3 W base (fun _ => True) v xs) {b : Nat} (hb : v.ownBlock ≠ some b) (q : Nat) (u : Value) : Kd.R (Kd.int .i64) 3 (W.setCell ⟨b, q, none⟩ u) base (fun _ => True) v xs :=
 Kd.dV (Kd.iO (Kd.lD rfl h) (fun k hk _ => Below.heap_setCell W ⟨b, q, none⟩ u k (fun e => hb (by rw [← hk, e])))) (fun _ _ => trivial)
theorem Ic {W : World} {base b n c : Nat} {ok : Nat → Prop} {xs : List Int} (h : Kd.R (Kd.int .i64) 3 W base ok (.slice (some ⟨b, 0, none⟩) n c) xs) (hp : 0 < xs.length) : IL W b xs := by
 obtain ⟨bb, cc, e, _, _, h⟩ := lG h hp; injection e with e1 _ _; injection e1 with e1; injection e1 with e1; subst e1; exact h
def fsS (n : Nat) (s : BSt) (b3 b5 b7 : Bool) : BSt := cond b7 (fs0 n s).st (cond b5 (d9 (jf s n) ⟨0, 0, 0, 0⟩).2 (cond b3 (jf s n) s))
def FsJ (w0 w W1 : World) (nb g : Nat) (s : BSt) (n p : Nat) (wd : Int) (rb len rc : Nat) (l : List Bool) (a : Act) (w' : World) : Prop :=
 ∃ (b3 b5 b7 b8 b9 b10 : Bool) (ob oc k8 k9 k10 : Nat), l = [true, true, true, b3, true, b5, true, b7, b8, b9, b10, false, false, false] ∧
  a = { tmps := #[.pointer (some ⟨g, 0, none⟩), .agg #[.int .i64 (n : Int), .int .i64 (p : Int), .int .i64 wd], .slice (some ⟨rb, 0, none⟩) len rc, .pointer (some ⟨w.heap.size, 0, none⟩), .pointer (some ⟨w.heap.size + 1, 0, none⟩), undef, .slice none 0 0, .int .i64 0, .int .i64 0, cond b8 (.pointer (some ⟨k8, 0, none⟩)) undef, cond b9 (.pointer (some ⟨k9, 0, none⟩)) undef, cond b10 (.pointer (some ⟨k10, 0, none⟩)) undef, undef, undef, undef, undef, .pointer (some ⟨g, 0, none⟩), .pointer (some ⟨w.heap.size + 1, 0, none⟩), .int .i64 (n : Int), cond b3 (.slice (some ⟨ob, 0, none⟩) n oc) undef, .pointer (some ⟨g, 0, none⟩), cond b5 (.int .i64 (fs0 n s).is) undef, .pointer (some ⟨g, 0, none⟩), cond b7 (.int .i64 (fs0 n s).sg) undef, undef, undef, undef, undef, undef, undef, undef, undef, undef, undef, undef, undef, undef, undef, undef, undef, undef, undef, undef, undef, undef, undef, undef, undef, undef, undef, undef, undef, undef, undef, undef, undef, undef, undef, undef, undef], defers := [] } ∧
  (b5 = true → b3 = true) ∧ (b7 = true → b5 = true) ∧ WK w0 W1 w' nb g (fsS n s b3 b5 b7) ∧
  (b3 = true → n ≤ oc ∧ W1.heap.size ≤ ob ∧ Kd.R (Kd.int .i64) 3 w' W1.heap.size (fun _ => True) (.slice (some ⟨ob, 0, none⟩) n oc) (bR s.nodes.length n)) ∧
  (b8 = true → Boxed w' k8 44 (.slice none 0 0) ∧ W1.heap.size ≤ k8) ∧ (b9 = true → Boxed w' k9 3 (.int .i64 0) ∧ W1.heap.size ≤ k9) ∧ (b10 = true → Boxed w' k10 3 (.int .i64 0) ∧ W1.heap.size ≤ k10) ∧
  (b3 = true → b9 = true → ob ≠ k9) ∧ (b3 = true → b10 = true → ob ≠ k10) ∧ (b9 = true → b10 = true → k9 ≠ k10) ∧
  w'.cell? ⟨w.heap.size, 0, none⟩ = some (.pointer (some ⟨g, 0, none⟩)) ∧ w'.cell? ⟨w.heap.size + 1, 0, none⟩ = some (.int .i64 (n : Int))
def abp : List Nat := [0, 0, 2, 7, 0, 31, 0, 127, 0, 0, 0, 2047, 4095, 8191]
noncomputable def Ow : Bool × List (List Nat × List Nat) := gp .any (opsOf Try.f15 1)
theorem SN : gp .any (opsOf Try.f15 1) = Ow := rfl
theorem Ox : fZ Ow.2 abp = true := by kernel_rfl
def abq : List Nat := [0, 0, 0, 1, 11, 31]
noncomputable def VZ : Bool × List (List Nat × List Nat) := gp .any (opsOf Try.f15 9)
theorem SQ : gp .any (opsOf Try.f15 9) = VZ := rfl
theorem Oy : fZ VZ.2 abq = true := by kernel_rfl
def abr : List Nat := [0, 0, 2, 6, 0, 16, 63, 127]
noncomputable def V3 : Bool × List (List Nat × List Nat) := gp .any (opsOf Try.f15 6)
theorem SS : gp .any (opsOf Try.f15 6) = V3 := rfl
theorem Oz : fZ V3.2 abr = true := by kernel_rfl
def abt : List Nat := [0, 0, 0, 4, 15, 0, 0, 0, 128, 511, 1023, 2047]
noncomputable def V4 : Bool × List (List Nat × List Nat) := gp .any (opsOf Try.f15 8)
theorem SV : gp .any (opsOf Try.f15 8) = V4 := rfl
theorem OA : fZ V4.2 abt = true := by kernel_rfl
theorem Mx (b3 b5 b7 b8 b9 b10 : Bool) (h1 : b5 = true → b3 = true) (h2 : b7 = true → b5 = true) (hf : (b3 && b5 && b7 && b8 && b9 && b10) = false) :
 mX Ow.2 [true, true, true, b3, true, b5, true, b7, b8, b9, b10, false, false, false] = (if b3 then (if b5 then (if b7 then [] else [7]) else [5]) else [3]) ++ (if b8 then [] else [8]) ++ (if b9 then [] else [9]) ++ (if b10 then [] else [10]) := by
 cases b3 <;> cases b5 <;> cases b7 <;> cases b8 <;> cases b9 <;> cases b10 <;> first | (exfalso; revert h1 h2 hf; simp; done) | kernel_rfl
theorem XQ (b3 b5 b7 b8 b9 b10 : Bool) (h1 : b5 = true → b3 = true) (h2 : b7 = true → b5 = true) (hf : (b3 && b5 && b7 && b8 && b9 && b10) = false) :
 (if b3 then (if b5 then (if b7 then [] else [7]) else [5]) else [3]) ++ (if b8 then [] else [8]) ++ (if b9 then [] else [9]) ++ (if b10 then [] else [10]) ≠ ([] : List Nat) := by
 cases b3 <;> cases b5 <;> cases b7 <;> cases b8 <;> cases b9 <;> cases b10 <;> first | (exfalso; revert h1 h2 hf; simp; done) | (simp; done)
theorem SX {b3 b5 b7 b8 b9 b10 : Bool} {i : Nat} (h : i ∈ (if b3 then (if b5 then (if b7 then [] else [7]) else [5]) else [3]) ++ (if b8 then [] else [8]) ++ (if b9 then [] else [9]) ++ (if b10 then [] else [10])) :
 (i = 3 ∧ b3 = false) ∨ (i = 5 ∧ b3 = true ∧ b5 = false) ∨ (i = 7 ∧ b5 = true ∧ b7 = false) ∨ (i = 8 ∧ b8 = false) ∨ (i = 9 ∧ b9 = false) ∨ (i = 10 ∧ b10 = false) := by
 revert h
 cases b3 <;> cases b5 <;> cases b7 <;> cases b8 <;> cases b9 <;> cases b10 <;> simp <;> omega
def FsI (w0 W1 : World) (nb g : Nat) (r : FsR) (n k8 k9 k10 : Nat) (W : World) : Prop :=
 (∃ ob oc, Boxed W k8 44 (.slice (some ⟨ob, 0, none⟩) n oc) ∧ n ≤ oc ∧ Kd.R (Kd.int .i64) 3 W W1.heap.size (fun _ => True) (.slice (some ⟨ob, 0, none⟩) n oc) r.out ∧ ob ≠ k9 ∧ ob ≠ k10 ∧ W1.heap.size ≤ ob) ∧
 Boxed W k9 3 (.int .i64 r.is) ∧ Boxed W k10 3 (.int .i64 r.sg) ∧ WK w0 W1 W nb g r.st
def EN (Q : Exit → Act → World → Prop) : Exit → Act → World → Prop
 | .normal, a, w => Q .normal a w
 | _, _, _ => False
theorem EO {Q : Exit → Act → World → Prop} : ∀ (e : Exit) (a : Act) (w : World), EN Q e a w → Q e a w
 | .normal, _, _, h => h
 | .ret, _, _, h => h.elim
 | .exit _, _, _, h => h.elim
 | .goto _, _, _, h => h.elim
 | .panic _, _, _, h => h.elim
 | .outgrown, _, _, h => h.elim
theorem XR {P : Program} {ops : Array Oper} {Q : Exit → Act → World → Prop} {oi : Oper} {N : Tmp} {a : Act} {w : World} {K : Act → World → Prop} {t : TypeId} {z : Value} (hw : Region.wanted oi (yielded ops a.tmps) = true) (hN : oi.dst = some N)
 (hrun : (execOp a.eval oi).run P w = .ok (.value (.pointer (some ⟨w.heap.size, 0, none⟩))) (w.alloc (.cells #[z] t))) (h : K (a.put (some N) (.pointer (some ⟨w.heap.size, 0, none⟩))) (w.alloc (.cells #[z] t))) :
 if Region.wanted oi (yielded ops a.tmps) = true then Oper.wp P oi a w K Q else K (a.put oi.dst undef) w := by
 rw [if_pos hw]; unfold Oper.wp; rw [hrun]; show K (a.put oi.dst _) _; rw [hN]; exact h
section
variable {w0 w W W' W1 : World} {nb g n k8 k9 k10 : Nat} {r : FsR} {s : BSt}
theorem WK.turn {B : Nat} (h : WK w0 w W nb g s) (ht : Tn B W W') (h0 : w0.heap.size ≤ B) (h1 : w.heap.size ≤ B) : WK w0 w W' nb g s := ⟨h.1.turn ht, Below.turn h.2.1 ht h0, h.2.2.turn ht h1⟩
theorem FsI.turn {B : Nat} (h : FsI w0 W1 nb g r n k8 k9 k10 W) (ht : Tn B W W') (h0 : w0.heap.size ≤ B) (h1 : W1.heap.size ≤ B) : FsI w0 W1 nb g r n k8 k9 k10 W' := by
 obtain ⟨⟨ob, oc, a1, a2, a3, a4, a5, a6⟩, b1, b2, b3⟩ := h; exact ⟨⟨ob, oc, Boxed.turn a1 ht, a2, CJ a3 ht, a4, a5, a6⟩, Boxed.turn b1 ht, Boxed.turn b2 ht, b3.turn ht h0 h1⟩
theorem Boxed.below {k : Nat} {t : TypeId} {v : Value} (h : Boxed W k t v) (hb : Below W.heap.size W W') : Boxed W' k t v := (hb.block k h.lt).trans h
theorem FsI.below (h : FsI w0 W1 nb g r n k8 k9 k10 W) (hb : Below W.heap.size W W') : FsI w0 W1 nb g r n k8 k9 k10 W' := by
 obtain ⟨⟨ob, oc, a1, a2, a3, a4, a5, a6⟩, b1, b2, b3⟩ := h; exact ⟨⟨ob, oc, Boxed.below a1 hb, a2, Kd.dB a3 hb, a4, a5, a6⟩, Boxed.below b1 hb, Boxed.below b2 hb, b3.below hb⟩
theorem WL.KB {b len : Nat} {row : Nat → Value} (h : WL W b len row) (hk : KB W W' g) : WL W' b len row := h.move (hk.2 b h.tb.lt (.of h.tb (by decide)))
end
theorem sS {p n : Nat} {x : List Int} {r : FsR} (hx : x.length = n) (hp : 2 ≤ p) (hpn : p + 1 ≤ n) : (kC p n x r).out.length = n ∧ (kC p n x r).st.nodes.length ≤ r.st.nodes.length + (7 * n + 40) := by
 obtain ⟨_, _, _, _, m5⟩ := xP p n x r.st hx hp hpn
 constructor
 ·exact aX _ _
 ·show (d9 (d9 (iK _ _ _ (d9 (ofF p n x r.st).st _).2 n) _).2 _).2.nodes.length ≤ _; rw [iD, iD, mV, iD]; omega
theorem yM {p n len : Nat} {xs : Nat → List Int} (hx : ∀ i, i < len → (xs i).length = n) (hp : 2 ≤ p) (hpn : p + 1 ≤ n) : ∀ (pre : List (Fin len)) (r : FsR), r.out.length = n →
 (pre.foldl (fun r k => kC p n (xs (len - 1 - k.1)) r) r).out.length = n ∧ (pre.foldl (fun r k => kC p n (xs (len - 1 - k.1)) r) r).st.nodes.length ≤ r.st.nodes.length + pre.length * (7 * n + 40)
 | [], r, h => ⟨h, by simp⟩
 | k :: pre, r, h => by
  have h1 := sS (r := r) (hx (len - 1 - k.1) (by have := k.2; omega)) hp hpn; have h2 := yM hx hp hpn pre _ h1.1; simp only [List.foldl_cons, List.length_cons, Nat.add_mul, Nat.one_mul]; omega
theorem vQ {p n len : Nat} {xs : Nat → List Int} {s : BSt} (hx : ∀ i, i < len → (xs i).length = n) (hp : 2 ≤ p) (hpn : p + 1 ≤ n) (pre : List (Fin len)) :
 (jQ p n len xs s pre).out.length = n ∧ (jQ p n len xs s pre).st.nodes.length ≤ s.nodes.length + n + 2 + pre.length * (7 * n + 40) := by
 have := yM hx hp hpn pre (fs0 n s) (CG n s).1; rw [(CG n s).2] at this; exact this
set_option maxHeartbeats 8000000 in
set_option maxRecDepth 100000 in
theorem OB {w0 w : World} {nb g : Nat} {s : BSt} (n p : Nat) (wd : Int) (len rb rc : Nat) (xb xc : Nat → Nat) (xs : Nat → List Int) (hI : BS w0 w nb g s) (hB : Below w0.heap.size w0 w)
 (hrow : WL w rb len (fun i => .slice (some ⟨xb i, 0, none⟩) n (xc i))) (hx : ∀ i, i < len → IL w (xb i) (xs i) ∧ (xs i).length = n ∧ n ≤ xc i) (hrc : len ≤ rc) (hp : 2 ≤ p) (hpn : p + 1 ≤ n) (hn : n ≤ 1000) (hlen : len ≤ 100) (hl : s.nodes.length + n + 2 + len * (7 * n + 40) < 900000) :
 Calls Try.prog 15 #[.pointer (some ⟨g, 0, none⟩), .agg #[.int .i64 (n : Int), .int .i64 (p : Int), .int .i64 wd], .slice (some ⟨rb, 0, none⟩) len rc] w fun e w' => ∃ ob oc, e = .returned (.tuple #[.slice (some ⟨ob, 0, none⟩) n oc, .int .i64 (jQ p n len xs s (List.finRange len)).is, .int .i64 (jQ p n len xs s (List.finRange len)).sg]) ∧ n ≤ oc ∧
  Kd.R (Kd.int .i64) 3 w' w.heap.size (fun _ => True) (.slice (some ⟨ob, 0, none⟩) n oc) (jQ p n len xs s (List.finRange len)).out ∧ BS w0 w' nb g (jQ p n len xs s (List.finRange len)).st ∧ Below w0.heap.size w0 w' ∧ KB w w' g := by
 have Ou := Try.underlying25; have XT := Try.underlying84; have HS0 := af.mk hB.size; have HNB := af.mk hI.uf; have HL := af.mk (show s.nodes.length + n + 2 + len * (7 * n + 40) < 900000 ∧ 2 ≤ p ∧ p + 1 ≤ n ∧ n ≤ 1000 ∧ len ≤ rc ∧ len ≤ 100 from ⟨hl, hp, hpn, hn, hrc, hlen⟩)
 have HW : af (WK w0 w w nb g s) := ⟨hI, hB, KB.refl _ _⟩
 have HX := af.mk hx; have HRW := af.mk hrow; clear hI hB hl hp hpn hn hrc hx hrow hlen; refine (callsIn_wide (n := 8)).1 ?_; refine callsIn_of_wp_marks Try.func15 rfl trivial ?_ rfl; simp only [Try.ntmps15, List.size_toArray, List.length_cons, List.length_nil, Nat.reduceAdd, Nat.reduceSub, Array.replicate_succ, Array.replicate_zero, List.push_toArray, List.append_toArray, List.nil_append, List.cons_append]
 gi_wp2
 obtain ⟨W1, hW1⟩ : ∃ W1, (w.alloc (.cells #[.pointer (some ⟨g, 0, none⟩)] 42)).alloc (.cells #[.int .i64 (n : Int), .int .i64 (p : Int), .int .i64 wd] 25) = W1 := ⟨_, rfl⟩
 have hb3 := bf (heap_alloc_new w (.cells #[.pointer (some ⟨g, 0, none⟩)] 42)) (ai (Below.refl _ (w.alloc (.cells #[.pointer (some ⟨g, 0, none⟩)] 42))) (.cells #[.int .i64 (n : Int), .int .i64 (p : Int), .int .i64 wd] 25)); have hb4 := heap_alloc_new (w.alloc (.cells #[.pointer (some ⟨g, 0, none⟩)] 42)) (.cells #[.int .i64 (n : Int), .int .i64 (p : Int), .int .i64 wd] 25); rw [World.size_alloc] at hb4; have hk1 := (HW.out.alloc (.cells #[.pointer (some ⟨g, 0, none⟩)] 42)).alloc (.cells #[.int .i64 (n : Int), .int .i64 (p : Int), .int .i64 wd] 25); rw [hW1] at hb3 hb4 hk1 ⊢; have HB3 := af.mk hb3; have HB4 := af.mk hb4
 have HW1 : af (WK w0 W1 W1 nb g s) := ⟨hk1.1, hk1.2.1, KB.refl _ _⟩
 have HKW := af.mk hk1.kb; clear hb3 hb4 hk1 HW hW1; refine wpIn_mono (wpIn_wide.2 (jk (Q := EN _) (n := 14) (S := fun w' => w'.cell? ⟨w.heap.size, 0, none⟩ = some (.pointer (some ⟨g, 0, none⟩)) ∧ w'.cell? ⟨w.heap.size + 1, 0, none⟩ = some (.int .i64 (n : Int))) (ds := [11, 12, 13]) #[false, false, false, false, false, false, false, false, false, false, false, false, false, false] (by kernel_rfl) rfl rfl ⟨(aj (aA HB3.out) 0).trans rfl, (aj (aA HB4.out) 0).trans rfl⟩ (fun hHeld => ?_))) EO; refine eT SN Ox (fun HT_ HW_ => ?_); refine bB (i := 1) (N := some 17) (v := ?_) (a' := ?_) #[false, true, false, false, false, false, false, false, false, false, false, false, false, false] rfl rfl (aU HT_.out (by kernel_rfl)) (fun _ _ _ h => h) (Or.inl ⟨by rfl, ?_⟩) ?_ ?_; rotate_left
 ·intro w'; go_simp; with_reducible rfl
 rotate_left
 ·simp only [Act.put, List.setIfInBounds_toArray, List.set_cons_zero, List.set_cons_succ, aG, aJ]; rfl
 refine eD (i := 0) (N := some 16) (v := ?_) (a' := ?_) #[true, true, false, false, false, false, false, false, false, false, false, false, false, false] rfl rfl (bP HT_.out HW_.out (by kernel_rfl)) (fun _ _ _ h => h) (Or.inl ⟨by rfl, ?_⟩) hHeld ?_ ?_; rotate_left
 ·rintro w' ⟨s0, s1⟩; go_simp; with_reducible rfl
 rotate_left
 ·simp only [Act.put, List.setIfInBounds_toArray, List.set_cons_zero, List.set_cons_succ, aG, aJ]; rfl
 refine eD (i := 2) (N := some 18) (v := ?_) (a' := ?_) #[true, true, true, false, false, false, false, false, false, false, false, false, false, false] rfl rfl (bP HT_.out HW_.out (by kernel_rfl)) (fun _ _ _ h => h) (Or.inl ⟨by rfl, ?_⟩) hHeld ?_ ?_; rotate_left
 ·rintro w' ⟨s0, s1⟩; go_simp; with_reducible rfl
 rotate_left
 ·simp only [Act.put, List.setIfInBounds_toArray, List.set_cons_zero, List.set_cons_succ, aG, aJ]; rfl
 refine eD (i := 4) (N := some 20) (v := ?_) (a' := ?_) #[true, true, true, false, true, false, false, false, false, false, false, false, false, false] rfl rfl (bP HT_.out HW_.out (by kernel_rfl)) (fun _ _ _ h => h) (Or.inl ⟨by rfl, ?_⟩) hHeld ?_ ?_; rotate_left
 ·rintro w' ⟨s0, s1⟩; go_simp; with_reducible rfl
 rotate_left
 ·simp only [Act.put, List.setIfInBounds_toArray, List.set_cons_zero, List.set_cons_succ, aG, aJ]; rfl
 refine eD (i := 6) (N := some 22) (v := ?_) (a' := ?_) #[true, true, true, false, true, false, true, false, false, false, false, false, false, false] rfl rfl (bP HT_.out HW_.out (by kernel_rfl)) (fun _ _ _ h => h) (Or.inl ⟨by rfl, ?_⟩) hHeld ?_ ?_; rotate_left
 ·rintro w' ⟨s0, s1⟩; go_simp; with_reducible rfl
 rotate_left
 ·simp only [Act.put, List.setIfInBounds_toArray, List.set_cons_zero, List.set_cons_succ, aG, aJ]; rfl
 have hJ0 : FsJ w0 w W1 nb g s n p wd rb len rc [true, true, true, false, true, false, true, false, false, false, false, false, false, false] _ W1.drew := ⟨false, false, false, false, false, false, 0, 0, 0, 0, 0, rfl, rfl, fun h => (by cases h), fun h => (by cases h), HW1.out.drew, fun h => (by cases h), fun h => (by cases h), fun h => (by cases h), fun h => (by cases h), fun h => (by cases h), fun h => (by cases h), fun h => (by cases h), hHeld.1, hHeld.2⟩
 refine abm HT_.out (FsJ w0 w W1 nb g s n p wd rb len rc) (fun l => l.getD 3 true && l.getD 5 true && l.getD 7 true && l.getD 8 true && l.getD 9 true && l.getD 10 true) ?hstep ?hfin 9 _ _ _ rfl hJ0
 case hstep =>
  clear hJ0 hHeld; rintro l a w' ⟨b3, b5, b7, b8, b9, b10, ob, oc, k8, k9, k10, rfl, rfl, p35, p57, pW, p3, p8, p9, p10, d39, OC, OD, hS1, hS2⟩ hf; have hf' : (b3 && b5 && b7 && b8 && b9 && b10) = false := hf; rw [Mx b3 b5 b7 b8 b9 b10 p35 p57 hf']; refine ⟨XQ b3 b5 b7 b8 b9 b10 p35 p57 hf', fun i hi => ?_⟩
  have HM := af.mk (show ∀ w2, KB w' w2 g → (b3 = true → n ≤ oc ∧ W1.heap.size ≤ ob ∧ Kd.R (Kd.int .i64) 3 w2 W1.heap.size (fun _ => True) (.slice (some ⟨ob, 0, none⟩) n oc) (bR s.nodes.length n)) ∧ (b8 = true → Boxed w2 k8 44 (.slice none 0 0) ∧ W1.heap.size ≤ k8) ∧ (b9 = true → Boxed w2 k9 3 (.int .i64 0) ∧ W1.heap.size ≤ k9) ∧ (b10 = true → Boxed w2 k10 3 (.int .i64 0) ∧ W1.heap.size ≤ k10) ∧ (w2.cell? ⟨w.heap.size, 0, none⟩ = some (.pointer (some ⟨g, 0, none⟩)) ∧ w2.cell? ⟨w.heap.size + 1, 0, none⟩ = some (.int .i64 (n : Int))) from fun w2 hk =>
   ⟨fun h => ⟨(p3 h).1, (p3 h).2.1, iB (p3 h).2.2 hk⟩, fun h => ⟨Boxed.KB (p8 h).1 hk (by decide), (p8 h).2⟩, fun h => ⟨Boxed.KB (p9 h).1 hk (by decide), (p9 h).2⟩, fun h => ⟨Boxed.KB (p10 h).1 hk (by decide), (p10 h).2⟩,
    (aj (hk.cells (pW.kb.cells HB3.out (by decide)) (by decide)) 0).trans rfl, (aj (hk.cells (pW.kb.cells HB4.out (by decide)) (by decide)) 0).trans rfl⟩)
  have HP := af.mk (show (b5 = true → b3 = true) ∧ (b7 = true → b5 = true) ∧ WK w0 W1 w' nb g (fsS n s b3 b5 b7) ∧ (b3 = true → ob < w'.heap.size) ∧ (b9 = true → k9 < w'.heap.size) ∧ (b10 = true → k10 < w'.heap.size) ∧ (b3 = true → b9 = true → ob ≠ k9) ∧ (b3 = true → b10 = true → ob ≠ k10) ∧ (b9 = true → b10 = true → k9 ≠ k10) from ⟨p35, p57, pW, fun h => Kd.nJ (p3 h).2.2 ob rfl, fun h => (p9 h).1.lt, fun h => (p10 h).1.lt, d39, OC, OD⟩); have hmem := SX hi; clear p35 p57 pW p3 p8 p9 p10 d39 OC OD hS1 hS2 hf hf' hi
  have hal : ∀ o, KB w' (w'.alloc o) g := fun o => (KB.refl w' g).alloc o
  rcases hmem with ⟨rfl, rfl⟩ | ⟨rfl, rfl, rfl⟩ | ⟨rfl, rfl, rfl⟩ | ⟨rfl, rfl⟩ | ⟨rfl, rfl⟩ | ⟨rfl, rfl⟩
  ·cases b5 with
   | true => exact absurd (HP.out.1 rfl) (by simp)
   | false =>
    cases b7 with
    | true => exact absurd (HP.out.2.1 rfl) (by simp)
    | false =>
     have hwk : WK w0 W1 w' nb g s := HP.out.2.2.1; refine ⟨rfl, wpOp_step rfl (fun K hK => ?_)⟩; refine iC Try.func39 (by kernel_rfl) rfl #[.pointer (some ⟨g, 0, none⟩), .slice none 0 0, .int .i64 (n : Int)] (by rfl) rfl rfl (by (try simp only [List.map_toArray, List.map_cons, List.map_nil]); first | done | rfl) ?_; refine (Oh (A := none) (c := 0) (n := 0) (l := []) n hwk.bs hwk.bl ⟨rfl, by omega, fun h => absurd h (by simp)⟩ (Nat.le_refl _) (Nat.zero_le _) (by have := HL.out; omega)).mono ?_; rintro e w2 ⟨v, rfl, h3, h4, h5, h6⟩; rw [List.nil_append, Nat.sub_zero] at h3; rw [Nat.sub_zero] at h4; obtain ⟨ob', oc', rfl, h7, h8, _⟩ := lG h3 (by rw [aX]; have := HL.out; omega); rw [aX] at h3 h7; rw [aX]; obtain ⟨m3, m8, m9, m10, mS⟩ := HM.out w2 h6; exact ⟨_, rfl, hK _ _ ⟨fun _ _ => mS, true, false, false, b8, b9, b10, ob', oc', k8, k9, k10, rfl, rfl, fun _ => rfl, fun h => (by cases h), hwk.call h4 h5 h6, fun _ => ⟨h7, Nat.le_trans hwk.size h8, Kd.dW h3 hwk.size⟩, m8, m9, m10, fun _ h => by have := HP.out.2.2.2.2.1 h; omega, fun _ h => by have := HP.out.2.2.2.2.2.1 h; omega, HP.out.2.2.2.2.2.2.2.2, mS.1, mS.2⟩⟩
  ·cases b7 with
   | true => exact absurd (HP.out.2.1 rfl) (by simp)
   | false =>
    have hwk : WK w0 W1 w' nb g (jf s n) := HP.out.2.2.1; refine ⟨rfl, wpOp_step rfl (fun K hK => ?_)⟩; refine iC Try.func40 (by kernel_rfl) rfl #[.pointer (some ⟨g, 0, none⟩), .int .i64 0] (by rfl) rfl rfl (by (try simp only [List.map_toArray, List.map_cons, List.map_nil]); first | done | rfl) ?_; refine (Ie hwk (by rw [mM]; have := HL.out; omega) 0).mono ?_; rintro e w2 ⟨rfl, h4, h6⟩; obtain ⟨m3, m8, m9, m10, mS⟩ := HM.out w2 h6; exact ⟨_, rfl, hK _ _ ⟨fun _ _ => mS, true, true, false, b8, b9, b10, ob, oc, k8, k9, k10, rfl, rfl, fun _ => rfl, fun h => (by cases h), h4, m3, m8, m9, m10, HP.out.2.2.2.2.2.2.1, HP.out.2.2.2.2.2.2.2.1, HP.out.2.2.2.2.2.2.2.2, mS.1, mS.2⟩⟩
  ·have hb3 : b3 = true := HP.out.1 rfl; subst hb3; have hwk : WK w0 W1 w' nb g (d9 (jf s n) ⟨0, 0, 0, 0⟩).2 := HP.out.2.2.1; refine ⟨rfl, wpOp_step rfl (fun K hK => ?_)⟩; refine iC Try.func40 (by kernel_rfl) rfl #[.pointer (some ⟨g, 0, none⟩), .int .i64 0] (by rfl) rfl rfl (by (try simp only [List.map_toArray, List.map_cons, List.map_nil]); first | done | rfl) ?_; refine (Ie hwk (by rw [iD, mM]; have := HL.out; omega) 0).mono ?_; rintro e w2 ⟨rfl, h4, h6⟩; obtain ⟨m3, m8, m9, m10, mS⟩ := HM.out w2 h6; exact ⟨_, rfl, hK _ _ ⟨fun _ _ => mS, true, true, true, b8, b9, b10, ob, oc, k8, k9, k10, rfl, rfl, fun _ => rfl, fun _ => rfl, h4, m3, m8, m9, m10, HP.out.2.2.2.2.2.2.1, HP.out.2.2.2.2.2.2.2.1, HP.out.2.2.2.2.2.2.2.2, mS.1, mS.2⟩⟩
  ·refine ⟨rfl, wpOp_step rfl (fun K hK => ?_)⟩; refine XR (N := 9) (t := 44) (z := .slice none 0 0) (by rfl) rfl (by first | (go_simp; done) | (go_simp; rfl)) ?_; obtain ⟨m3, m8, m9, m10, mS⟩ := HM.out _ (hal (.cells #[.slice none 0 0] 44)); exact hK _ _ ⟨fun _ _ => mS, b3, b5, b7, true, b9, b10, ob, oc, w'.heap.size, k9, k10, rfl, rfl, HP.out.1, HP.out.2.1, HP.out.2.2.1.alloc _, m3, fun _ => ⟨Boxed.new _ _ _, HP.out.2.2.1.size⟩, m9, m10, HP.out.2.2.2.2.2.2.1, HP.out.2.2.2.2.2.2.2.1, HP.out.2.2.2.2.2.2.2.2, mS.1, mS.2⟩
  ·refine ⟨rfl, wpOp_step rfl (fun K hK => ?_)⟩; refine XR (N := 10) (t := 3) (z := .int .i64 0) (by rfl) rfl (by first | (go_simp; done) | (go_simp; rfl)) ?_; obtain ⟨m3, m8, m9, m10, mS⟩ := HM.out _ (hal (.cells #[.int .i64 0] 3)); exact hK _ _ ⟨fun _ _ => mS, b3, b5, b7, b8, true, b10, ob, oc, k8, w'.heap.size, k10, rfl, rfl, HP.out.1, HP.out.2.1, HP.out.2.2.1.alloc _, m3, m8, fun _ => ⟨Boxed.new _ _ _, HP.out.2.2.1.size⟩, m10, fun h _ => by have := HP.out.2.2.2.1 h; omega, HP.out.2.2.2.2.2.2.2.1, fun _ h => by have := HP.out.2.2.2.2.2.1 h; omega, mS.1, mS.2⟩
  ·refine ⟨rfl, wpOp_step rfl (fun K hK => ?_)⟩; refine XR (N := 11) (t := 3) (z := .int .i64 0) (by rfl) rfl (by first | (go_simp; done) | (go_simp; rfl)) ?_; obtain ⟨m3, m8, m9, m10, mS⟩ := HM.out _ (hal (.cells #[.int .i64 0] 3)); exact hK _ _ ⟨fun _ _ => mS, b3, b5, b7, b8, b9, true, ob, oc, k8, k9, w'.heap.size, rfl, rfl, HP.out.1, HP.out.2.1, HP.out.2.2.1.alloc _, m3, m8, m9, fun _ => ⟨Boxed.new _ _ _, HP.out.2.2.1.size⟩, HP.out.2.2.2.2.2.2.1, fun h _ => by have := HP.out.2.2.2.1 h; omega, fun h _ => by have := HP.out.2.2.2.2.1 h; omega, mS.1, mS.2⟩
 case hfin =>
  clear hJ0 hHeld; rintro l a w' ⟨b3, b5, b7, b8, b9, b10, ob, oc, k8, k9, k10, rfl, rfl, p35, p57, pW, p3, p8, p9, p10, d39, OC, OD, hS1, hS2⟩ hf; have hf' : (b3 && b5 && b7 && b8 && b9 && b10) = true := hf; simp only [Bool.and_eq_true] at hf'; obtain ⟨⟨⟨⟨⟨rfl, rfl⟩, rfl⟩, rfl⟩, rfl⟩, rfl⟩ := hf'; clear hf p35 p57 hS1 hS2; show bW _ _ _ _ _ _ 3 #[true, true, true, true, true, true, true, true, true, true, true, false, false, false] _ _; dsimp only [cond]; obtain ⟨hoc, hob, hr⟩ := p3 rfl; obtain ⟨x8, g8⟩ := p8 rfl; obtain ⟨x9, g9⟩ := p9 rfl; obtain ⟨x10, g10⟩ := p10 rfl; have n39 := d39 rfl rfl; have n310 := OC rfl rfl; have SY := OD rfl rfl
  have n89 : k8 ≠ k9 := fun e => absurd ((show TB w' 44 k8 from ⟨_, x8⟩).uniq (e ▸ (show TB w' 3 k9 from ⟨_, x9⟩))) (by decide)
  have S9 : k8 ≠ k10 := fun e => absurd ((show TB w' 44 k8 from ⟨_, x8⟩).uniq (e ▸ (show TB w' 3 k10 from ⟨_, x10⟩))) (by decide)
  clear p3 p8 p9 p10 d39 OC OD; have pW' : WK w0 W1 w' nb g (fs0 n s).st := pW; clear pW; have c8 := x8.cell; have f8 := x8.frozen; refine jg (i := 11) (N := none) #[true, true, true, true, true, true, true, true, true, true, true, true, false, false] rfl rfl (dD HT_.out (by kernel_rfl)) (by decide) (fun K hK => ?_); refine nM (w1 := ?_) (by rfl) rfl ?_ ?_; rotate_left
  ·go_simp; rfl
  refine hK.out _ _ ?_; clear hK K; have y8 : Boxed (w'.setCell ⟨k8, 0, none⟩ (.slice (some ⟨ob, 0, none⟩) n oc)) k8 44 (.slice (some ⟨ob, 0, none⟩) n oc) := Boxed.set _ x8; have y9 := Boxed.other x9 (Ne.symm n89) (.slice (some ⟨ob, 0, none⟩) n oc); have y10 := Boxed.other x10 (Ne.symm S9) (.slice (some ⟨ob, 0, none⟩) n oc); have hr1 := vP hr (b := k8) (by show some ob ≠ some k8; intro e; injection e with e; exact absurd ((show TB w' 3 ob from Kd.gK hr ob rfl).uniq (e ▸ (show TB w' 44 k8 from ⟨_, x8⟩))) (by decide)) 0 (.slice (some ⟨ob, 0, none⟩) n oc); have w1k := pW'.far (p := ⟨k8, 0, none⟩) g8 (Nat.le_trans HS0.out HKW.out.1) (j5 ⟨_, x8⟩ (by decide) (fun e => absurd e (by decide))) (.slice (some ⟨ob, 0, none⟩) n oc); generalize w'.setCell ⟨k8, 0, none⟩ (.slice (some ⟨ob, 0, none⟩) n oc) = X1 at y8 y9 y10 hr1 w1k ⊢; have c9 := y9.cell; have f9 := y9.frozen; refine jg (i := 12) (N := none) #[true, true, true, true, true, true, true, true, true, true, true, true, true, false] rfl rfl (dD HT_.out (by kernel_rfl)) (by decide) (fun K hK => ?_); refine nM (w1 := ?_) (by rfl) rfl ?_ ?_; rotate_left
  ·go_simp; rfl
  refine hK.out _ _ ?_; clear hK K; have z8 := Boxed.other y8 n89 (.int .i64 (fs0 n s).is); have z9 : Boxed (X1.setCell ⟨k9, 0, none⟩ (.int .i64 (fs0 n s).is)) k9 3 (.int .i64 (fs0 n s).is) := Boxed.set _ y9; have z10 := Boxed.other y10 (Ne.symm SY) (.int .i64 (fs0 n s).is); have hr2 := vP hr1 (b := k9) (by show some ob ≠ some k9; intro e; injection e with e; exact n39 e) 0 (.int .i64 (fs0 n s).is); have w2k := w1k.far (p := ⟨k9, 0, none⟩) g9 (Nat.le_trans HS0.out HKW.out.1) (j5 ⟨_, y9⟩ (by decide) (fun _ => by have := HNB.out; have := HKW.out.1; show nb ≤ k9; omega)) (.int .i64 (fs0 n s).is); generalize X1.setCell ⟨k9, 0, none⟩ (.int .i64 (fs0 n s).is) = X2 at z8 z9 z10 hr2 w2k ⊢; have c10 := z10.cell; have f10 := z10.frozen; refine jg (i := 13) (N := none) #[true, true, true, true, true, true, true, true, true, true, true, true, true, true] rfl rfl (dD HT_.out (by kernel_rfl)) (by decide) (fun K hK => ?_); refine nM (w1 := ?_) (by rfl) rfl ?_ ?_; rotate_left
  ·go_simp; rfl
  refine hK.out _ _ ?_; clear hK K; have u8 := Boxed.other z8 S9 (.int .i64 (fs0 n s).sg); have u9 := Boxed.other z9 SY (.int .i64 (fs0 n s).sg); have u10 : Boxed (X2.setCell ⟨k10, 0, none⟩ (.int .i64 (fs0 n s).sg)) k10 3 (.int .i64 (fs0 n s).sg) := Boxed.set _ z10; have hr3 := vP hr2 (b := k10) (by show some ob ≠ some k10; intro e; injection e with e; exact n310 e) 0 (.int .i64 (fs0 n s).sg); have w3k := w2k.far (p := ⟨k10, 0, none⟩) g10 (Nat.le_trans HS0.out HKW.out.1) (j5 ⟨_, z10⟩ (by decide) (fun _ => by have := HNB.out; have := HKW.out.1; show nb ≤ k10; omega)) (.int .i64 (fs0 n s).sg); generalize X2.setCell ⟨k10, 0, none⟩ (.int .i64 (fs0 n s).sg) = X3 at u8 u9 u10 hr3 w3k ⊢
  have HF : af (FsI w0 W1 nb g (fs0 n s) n k8 k9 k10 X3) := ⟨⟨ob, oc, u8, hoc, hr3, n39, n310, hob⟩, u9, u10, w3k⟩
  have HG := af.mk (show W1.heap.size ≤ k8 ∧ W1.heap.size ≤ k9 ∧ W1.heap.size ≤ k10 ∧ k8 ≠ k9 ∧ k8 ≠ k10 ∧ k9 ≠ k10 from ⟨g8, g9, g10, n89, S9, SY⟩); clear x8 x9 x10 y8 y9 y10 z8 z9 z10 u8 u9 u10 hr hr1 hr2 hr3 w1k w2k w3k n39 n310 SY n89 S9 g8 g9 g10 c8 c9 c10 f8 f9 f10 hob hoc pW'; refine jB (gq HT_.out (by kernel_rfl)) ?_; clear HT_ HW_; dsimp only [EN]
  gi_wp2_with (refine ⟨trivial, ?_⟩; gi_at_call 41; refine (callsIn_wide.2 (H9 _ _ _ _)).mono ?_; rintro e w3 ⟨rfl, rfl⟩)
  obtain ⟨W5, hW5⟩ : ∃ W5, X3.alloc (.cells #[.slice (some ⟨rb, 0, none⟩) len rc] 96) = W5 := ⟨_, rfl⟩
  have hbs := Boxed.new X3 96 (.slice (some ⟨rb, 0, none⟩) len rc); have hf5 := HF.out.below (ai (Below.refl _ X3) (.cells #[.slice (some ⟨rb, 0, none⟩) len rc] 96))
  have hs5 : (X3.alloc (.cells #[.slice (some ⟨rb, 0, none⟩) len rc] 96)).heap.size = X3.heap.size + 1 := by simp
  rw [hW5] at hbs hf5 hs5 ⊢; clear hW5; have hwx : W1.heap.size ≤ X3.heap.size := HF.out.2.2.2.size; have hw0 : w0.heap.size ≤ W1.heap.size := Nat.le_trans HS0.out HKW.out.1; have Ta := (HRW.out.KB HKW.out).KB hf5.2.2.2.kb; have abu : rb < W1.heap.size := (HRW.out.KB HKW.out).tb.lt; have HRB := af.mk (show rb < W1.heap.size ∧ W1.heap.size ≤ X3.heap.size ∧ w0.heap.size ≤ W1.heap.size ∧ W5.heap.size = X3.heap.size + 1 from ⟨abu, hwx, hw0, hs5⟩)
  have HK := af.mk (show ∀ k, (k = X3.heap.size ∨ k = rb) → k ≠ k8 ∧ k ≠ k9 ∧ k ≠ k10 ∧ k < W5.heap.size ∧ ∃ t, TB W5 t k ∧ (t ≠ 89 ∧ t ≠ 92 ∧ t ≠ 94) from fun k hk => by
   obtain ⟨⟨_, _, y8, _⟩, y9, y10, _⟩ := HF.out; have l8 := Boxed.lt y8; have l9 := Boxed.lt y9; have l10 := Boxed.lt y10; have hg := HG.out
   rcases hk with rfl | rfl
   ·exact ⟨by omega, by omega, by omega, by omega, 96, ⟨_, hbs⟩, by decide⟩
   ·exact ⟨by omega, by omega, by omega, by omega, 44, Ta.tb, by decide⟩)
  refine wpIn_rangeFunc_ownG rfl (by omega) (gf := 68) (lb := #[.pointer (some ⟨X3.heap.size, 0, none⟩)]) rfl trivial (fun args w => mh Try.func68 (by kernel_rfl) rfl args w)
   (Ia 7 (by omega) (fun k => k = X3.heap.size ∨ k = rb) X3.heap.size rb len rc (fun i => .slice (some ⟨xb i, 0, none⟩) n (xc i)) (.inl rfl) (.inr rfl) HL.out.2.2.2.2.1 (by have := HL.out; omega) W5 hbs Ta) KC.trans (fun Wx l o o' _ hl ho _ => KC.put Wx l o o' hl ho) (Below.refl _ _) (fun _ => rfl)
   (fun pre Wc => FsI w0 W1 nb g (jQ p n len xs s pre) n k8 k9 k10 Wc ∧ W5.heap.size ≤ Wc.heap.size ∧ (∀ k, (k = X3.heap.size ∨ k = rb) → Wc.heap[k]? = W5.heap[k]?))
   (fun _ _ _ => False) ?own (fun _ _ _ _ _ hs _ _ => hs) ?h0 ?a1 ?assign ?body ?done ?stop
  case own =>
   rintro pre X Y row ⟨h1, h6, h7⟩ hg hr; have ht := EP hg hr h6; exact ⟨h1.turn ht (by omega) (by omega), Nat.le_trans h6 ht.1.size, fun k hk => (ht.1.block k (by omega)).trans (h7 k hk)⟩
  case h0 => exact ⟨hf5, Nat.le_refl _, fun _ _ => rfl⟩
  case assign =>
   intro lr x Wc K hK
   gi_wp2
   exact hK
  case stop =>
   rintro D cd pre Wc _ _ h _; exact h.elim
  case done =>
   rintro D _ Wc hD rfl ⟨hF, hS, _⟩ hDk
   obtain ⟨rr, hrr⟩ : ∃ rr, rr = jQ p n len xs s (List.finRange len) := ⟨_, rfl⟩
   rw [← hrr] at hF; have HRR := af.mk hrr; obtain ⟨⟨ob', oc', x8, hoc, hr, _, _, _⟩, x9, x10, hwk⟩ := hF; have HR := af.mk (And.intro hr hwk); have HD := af.mk (show w.heap.size ≤ D ∧ Wc.heap[D]? = some (.deferred (some [])) ∧ n ≤ oc' from ⟨by have := HRB.out; have := HKW.out.1; omega, hDk, hoc⟩); have c8 := Boxed.cell x8; have c9 := Boxed.cell x9; have c10 := Boxed.cell x10; clear hrr x8 x9 x10 hr hwk hS hDk hoc hD HF hf5 hbs Ta
   gi_wp2
   refine wpIn_mono (wpIn_wide.2 (jk (Q := EN _) (n := 6) (S := fun w' => w'.cell? ⟨k8, 0, none⟩ = some (.slice (some ⟨ob', 0, none⟩) n oc') ∧ w'.cell? ⟨k9, 0, none⟩ = some (.int .i64 rr.is) ∧ w'.cell? ⟨k10, 0, none⟩ = some (.int .i64 rr.sg)) (ds := []) #[false, false, false, false, false, false] (by kernel_rfl) rfl rfl ⟨c8, c9, c10⟩ (fun hHeld => ?_))) EO; refine eT SQ Oy (fun HT_ HW_ => ?_); refine eD (i := 0) (N := some 57) (v := ?_) (a' := ?_) #[true, false, false, false, false, false] rfl rfl (bP HT_.out HW_.out (by kernel_rfl)) (fun _ _ _ h => h) (Or.inl ⟨by rfl, ?_⟩) hHeld ?_ ?_; rotate_left
   ·rintro w' ⟨s0, s1, s2⟩; go_simp; with_reducible rfl
   rotate_left
   ·simp only [Act.put, List.setIfInBounds_toArray, List.set_cons_zero, List.set_cons_succ, aG, aJ]; rfl
   refine eD (i := 1) (N := some 58) (v := ?_) (a' := ?_) #[true, true, false, false, false, false] rfl rfl (bP HT_.out HW_.out (by kernel_rfl)) (fun _ _ _ h => h) (Or.inl ⟨by rfl, ?_⟩) hHeld ?_ ?_; rotate_left
   ·rintro w' ⟨s0, s1, s2⟩; go_simp; with_reducible rfl
   rotate_left
   ·simp only [Act.put, List.setIfInBounds_toArray, List.set_cons_zero, List.set_cons_succ, aG, aJ]; rfl
   refine eD (i := 2) (N := some 59) (v := ?_) (a' := ?_) #[true, true, true, false, false, false] rfl rfl (bP HT_.out HW_.out (by kernel_rfl)) (fun _ _ _ h => h) (Or.inl ⟨by rfl, ?_⟩) hHeld ?_ ?_; rotate_left
   ·rintro w' ⟨s0, s1, s2⟩; go_simp; with_reducible rfl
   rotate_left
   ·simp only [Act.put, List.setIfInBounds_toArray, List.set_cons_zero, List.set_cons_succ, aG, aJ]; rfl
   refine bB (i := 3) (N := some 6) (v := ?_) (a' := ?_) #[true, true, true, true, false, false] rfl rfl (aU HT_.out (by kernel_rfl)) (fun _ _ _ h => h) (Or.inl ⟨by rfl, ?_⟩) ?_ ?_; rotate_left
   ·intro w'; go_simp; with_reducible rfl
   rotate_left
   ·simp only [Act.put, List.setIfInBounds_toArray, List.set_cons_zero, List.set_cons_succ, aG, aJ]; rfl
   refine bB (i := 4) (N := some 7) (v := ?_) (a' := ?_) #[true, true, true, true, true, false] rfl rfl (aU HT_.out (by kernel_rfl)) (fun _ _ _ h => h) (Or.inl ⟨by rfl, ?_⟩) ?_ ?_; rotate_left
   ·intro w'; go_simp; with_reducible rfl
   rotate_left
   ·simp only [Act.put, List.setIfInBounds_toArray, List.set_cons_zero, List.set_cons_succ, aG, aJ]; rfl
   refine bB (i := 5) (N := some 8) (v := ?_) (a' := ?_) #[true, true, true, true, true, true] rfl rfl (aU HT_.out (by kernel_rfl)) (fun _ _ _ h => h) (Or.inl ⟨by rfl, ?_⟩) ?_ ?_; rotate_left
   ·intro w'; go_simp; with_reducible rfl
   rotate_left
   ·simp only [Act.put, List.setIfInBounds_toArray, List.set_cons_zero, List.set_cons_succ, aG, aJ]; rfl
   refine jB (gq HT_.out (by kernel_rfl)) ?_; dsimp only [EN]
   gi_wp2
   refine (show Mk w.heap.size Wc.drew _ from ⟨[D], rfl, by simp, fun E hE => by
    rw [List.mem_singleton] at hE; subst hE
    exact ⟨HD.out.1, HD.out.2.1⟩⟩).leaves (fun W' ht => ⟨_, results_tmp3 rfl _ _ _, ?_⟩)
   rw [← HRR.out]; exact ⟨ob', oc', rfl, HD.out.2.2, Kd.dW (CJ (Kd.bD HR.out.1) ht) HKW.out.1, HR.out.2.bs.drew.turn ht, Below.turn (ak HR.out.2.bl) ht HS0.out, ((HKW.out.trans HR.out.2.kb).drew).turn ht (Nat.le_refl _)⟩
  case body =>
   rintro lr pre x Wc ⟨hF, hS, hS2⟩ hlen; obtain ⟨xk, hxk⟩ := x
   obtain ⟨i, hi⟩ : ∃ i, i = len - 1 - xk := ⟨_, rfl⟩
   have hil : i < len := by omega
   have hsn := Ib p n len xs s pre ⟨xk, hxk⟩; have hpl := vQ (s := s) (fun i hi => (HX.out i hi).2.1) HL.out.2.1 HL.out.2.2.1 pre
   obtain ⟨r, hr⟩ : ∃ r, r = jQ p n len xs s pre := ⟨_, rfl⟩
   rw [← hr] at hF hsn hpl; obtain ⟨hxI, hxl, hxc⟩ := HX.out i hil
   obtain ⟨ys, hys⟩ : ∃ ys, ys = xs i := ⟨_, rfl⟩
   rw [← hys] at hxI hxl
   obtain ⟨o, ho⟩ : ∃ o, o = ofF p n ys r.st := ⟨_, rfl⟩
   obtain ⟨q, hq⟩ : ∃ q, q = d9 o.st ⟨0, 1, 0, 0⟩ := ⟨_, rfl⟩
   obtain ⟨e, he⟩ : ∃ e, e = p - 2 := ⟨_, rfl⟩
   obtain ⟨m, hm⟩ : ∃ m, m = iK r.out (ys.set e q.1) o.none_ q.2 n := ⟨_, rfl⟩
   obtain ⟨u, hu⟩ : ∃ u, u = d9 m ⟨4, r.is, o.none_, 0⟩ := ⟨_, rfl⟩
   obtain ⟨v, hv⟩ : ∃ v, v = d9 u.2 ⟨4, r.sg, o.sig, 0⟩ := ⟨_, rfl⟩
   have hst : jQ p n len xs s (pre ++ [⟨xk, hxk⟩]) = ⟨bR q.2.nodes.length n, u.1, v.1, v.2⟩ := by
    rw [hsn]; show kC p n (xs (len - 1 - xk)) r = _; rw [← hi, ← hys, hv, hu, hm, he, hq, ho]; rfl
   have hmul : (pre.length + 1) * (7 * n + 40) ≤ len * (7 * n + 40) := Nat.mul_le_mul_right _ hlen; rw [Nat.add_mul, Nat.one_mul] at hmul; obtain ⟨_, _, _, _, hol⟩ := xP p n ys r.st hxl HL.out.2.1 HL.out.2.2.1; rw [← ho] at hol
   have hql : q.2.nodes.length = o.st.nodes.length + 1 := by rw [hq, iD]
   have hml : m.nodes.length = q.2.nodes.length + n := by rw [hm, mV]
   have hul : u.2.nodes.length = m.nodes.length + 1 := by rw [hu, iD]
   have HLB := af.mk (show r.st.nodes.length + 6 * n + 20 < 1000000 ∧ o.st.nodes.length < 1000000 ∧ q.2.nodes.length + n < 1000000 ∧ m.nodes.length < 1000000 ∧ u.2.nodes.length < 1000000 ∧ r.out.length = n ∧ ys.length = n ∧ n ≤ xc i ∧ e < n ∧ (e : Int) = (p : Int) - 2 from by
    have := HL.out; have := hpl.2
    refine ⟨by omega, by omega, by omega, by omega, by omega, hpl.1, hxl, hxc, by omega, by omega⟩)
   have HST := af.mk hst; have HO := af.mk ho; have HQE := af.mk hq; have HM := af.mk hm; have HU := af.mk hu; have HV := af.mk hv; have HSC := af.mk (show W5.heap.size ≤ Wc.heap.size ∧ ∀ k, (k = X3.heap.size ∨ k = rb) → Wc.heap[k]? = W5.heap[k]? from ⟨hS, hS2⟩); obtain ⟨⟨ob', oc', x8, hoc', hro, ne9, abv, hob'⟩, x9, x10, hwk⟩ := hF; have HXI := af.mk (IL.KB (IL.KB hxI HKW.out) hwk.kb); have X8 := af.mk (show Boxed Wc k8 44 (.slice (some ⟨ob', 0, none⟩) n oc') from x8); have X9 := af.mk (show Boxed Wc k9 3 (.int .i64 r.is) from x9); have X10 := af.mk (show Boxed Wc k10 3 (.int .i64 r.sg) from x10); have HRO := af.mk hro; have HOB := af.mk (show n ≤ oc' ∧ ob' ≠ k9 ∧ ob' ≠ k10 ∧ W1.heap.size ≤ ob' from ⟨hoc', ne9, abv, hob'⟩); have HWk := af.mk hwk
   have HWc : af (WK w0 Wc Wc nb g r.st) := ⟨hwk.1, hwk.2.1, KB.refl _ _⟩
   have B42 := af.mk (hwk.kb.cells HB3.out (by decide)); have B25 := af.mk (hwk.kb.cells HB4.out (by decide)); have c42 : Wc.cell? ⟨w.heap.size, 0, none⟩ = some (.pointer (some ⟨g, 0, none⟩)) := (aj B42.out 0).trans rfl; have aim : Wc.cell? ⟨w.heap.size + 1, 0, none⟩ = some (.int .i64 (n : Int)) := (aj B25.out 0).trans rfl; have ain : Wc.cell? ⟨w.heap.size + 1, 1, none⟩ = some (.int .i64 (p : Int)) := (aj B25.out 1).trans rfl; have aio : Wc.cell? ⟨w.heap.size + 1, 2, none⟩ = some (.int .i64 wd) := (aj B25.out 2).trans rfl; dsimp only; rw [← hi]; have HI := af.mk hi; clear hi hsn hpl hr hys hxI hxl hxc ho hq he hm hu hv hst hmul hol hql hml hul hS hS2 hlen x8 hoc' hro ne9 abv hob' x9 x10 hwk HF hf5 hbs Ta abu hwx hw0 hs5
   gi_wp2_with (first | (refine ⟨trivial, ?_⟩; gi_at_call 34; refine (lF (EQ nb g r.st n p wd (xb i) (xc i) ys w0 _ HWc.out.bs HWc.out.bl HXI.out HLB.out.2.2.2.2.2.2.1 HLB.out.2.2.2.2.2.2.2.1 HL.out.2.1 HL.out.2.2.1 (by have := HL.out; omega) HLB.out.1)).mono ?_; rintro e w2 ⟨v1, v2, rfl, hr1, hr2, h3, h4, h5⟩; rw [← HO.out] at hr1 hr2 h3 ⊢; obtain ⟨A1, c1, e1⟩ := Kd.bL hr1; obtain ⟨A2, c2, e2⟩ := Kd.bL hr2; obtain ⟨L1, hL1⟩ : ∃ L1, L1 = o.exp.length := ⟨_, rfl⟩; obtain ⟨L2, hL2⟩ : ∃ L2, L2 = o.size.length := ⟨_, rfl⟩; rw [← hL1] at e1; rw [← hL2] at e2; subst e1; subst e2; have XU := af.mk (HWc.out.call h3 h4 h5); clear hr1 hr2 h3 h4 h5 hL1 hL2 c42 aim ain aio) | (refine ⟨trivial, ?_⟩; gi_at_call 38; have wk3 := XU.out.alloc (.cells #[.int .i64 o.sign, .slice A1 L1 c1, .slice A2 L2 c2, .int .i64 o.zero, .int .i64 o.inf, .int .i64 o.none_, .int .i64 o.sig] 84); have b84 := heap_alloc_new w2 (.cells #[.int .i64 o.sign, .slice A1 L1 c1, .slice A2 L2 c2, .int .i64 o.zero, .int .i64 o.inf, .int .i64 o.none_, .int .i64 o.sig] 84); have hbz : Wc.heap.size ≤ w2.heap.size := XU.out.size; have HBZ := af.mk hbz; generalize w2.alloc (.cells #[.int .i64 o.sign, .slice A1 L1 c1, .slice A2 L2 c2, .int .i64 o.zero, .int .i64 o.inf, .int .i64 o.none_, .int .i64 o.sig] 84) = W3 at wk3 b84 ⊢; clear hbz; refine (lF (ug (qB (HXI.out.KB wk3.kb) HLB.out.2.2.2.2.2.2.1 (by have := HL.out; omega)) HLB.out.2.2.2.2.2.2.2.1 (by have := HL.out; omega))).mono ?_; rintro e w4 ⟨v4, rfl, h4, hb4⟩; obtain ⟨qb, qc, e4, hqc, hqb, _⟩ := lG h4 (by have := HLB.out; have := HL.out; omega); rw [HLB.out.2.2.2.2.2.2.1] at e4 hqc; subst e4; have MB := af.mk (wk3.below hb4); have abw := af.mk (show w4.heap[w2.heap.size]? = _ from (hb4.block _ (fC b84)).trans b84); have HQ4 := af.mk h4; have HQF := af.mk (show n ≤ qc ∧ Wc.heap.size ≤ qb from ⟨hqc, Nat.le_trans wk3.size hqb⟩); clear wk3 b84 h4 hb4 hqc hqb XU))
   have abx : w4.cell? ⟨w.heap.size + 1, 1, none⟩ = some (.int .i64 (p : Int)) := (aj (MB.out.kb.cells B25.out (by decide)) 1).trans rfl; have d42 : w4.cell? ⟨w.heap.size, 0, none⟩ = some (.pointer (some ⟨g, 0, none⟩)) := (aj (MB.out.kb.cells B42.out (by decide)) 0).trans rfl
   have we : IntKind.i64.wrap ((p : Int) - 2) = (e : Int) := by rw [aG]; unfold wrap64; have := HLB.out; have := HL.out; omega
   have we' : wrap64 ((p : Int) - 2) = (e : Int) := by unfold wrap64; have := HLB.out; have := HL.out; omega
   have hen : (e : Int) < (n : Int) := by have := HLB.out; omega
   have hqcc : n ≤ qc := HQF.out.1; refine qF (m := 8) (S := fun w' => w'.cell? ⟨w.heap.size + 1, 1, none⟩ = some (.int .i64 (p : Int)) ∧ w'.cell? ⟨w.heap.size, 0, none⟩ = some (.pointer (some ⟨g, 0, none⟩))) (ds := [6, 7]) #[false, false, false, false, false, false, false, false] (by kernel_rfl) ?_ (by kernel_rfl) rfl rfl ⟨abx, d42⟩ (fun hHeld => ?_)
   ·rintro ⟨a, w, h⟩; exact h.elim
   refine eT SS Oz (fun HT_ HW_ => ?_); refine bB (i := 0) (N := some 34) (v := ?_) (a' := ?_) #[true, false, false, false, false, false, false, false] rfl rfl (aU HT_.out (by kernel_rfl)) (fun _ _ _ h => h) (Or.inl ⟨by rfl, ?_⟩) ?_ ?_; rotate_left
   ·intro w'; go_simp; with_reducible rfl
   rotate_left
   ·simp only [Act.put, List.setIfInBounds_toArray, List.set_cons_zero, List.set_cons_succ, aG, aJ]; rfl
   refine bB (i := 1) (N := some 35) (v := ?_) (a' := ?_) #[true, true, false, false, false, false, false, false] rfl rfl (aU HT_.out (by kernel_rfl)) (fun _ _ _ h => h) (Or.inl ⟨by rfl, ?_⟩) ?_ ?_; rotate_left
   ·intro w'; go_simp; with_reducible rfl
   rotate_left
   ·simp only [Act.put, List.setIfInBounds_toArray, List.set_cons_zero, List.set_cons_succ, aG, aJ]; rfl
   refine eD (i := 2) (N := some 36) (v := ?_) (a' := ?_) #[true, true, true, false, false, false, false, false] rfl rfl (bP HT_.out HW_.out (by kernel_rfl)) (fun _ _ _ h => h) (Or.inl ⟨by rfl, ?_⟩) hHeld ?_ ?_; rotate_left
   ·rintro w' ⟨s0, s1⟩; go_simp; with_reducible rfl
   rotate_left
   ·simp only [Act.put, List.setIfInBounds_toArray, List.set_cons_zero, List.set_cons_succ, aG, aJ]; rfl
   refine bB (i := 3) (N := some 37) (v := ?_) (a' := ?_) #[true, true, true, true, false, false, false, false] rfl rfl (aU HT_.out (by kernel_rfl)) (fun _ _ _ h => h) (Or.inl ⟨by rfl, ?_⟩) ?_ ?_; rotate_left
   ·intro w'; go_simp; with_reducible rfl
   rotate_left
   ·simp only [Act.put, List.setIfInBounds_toArray, List.set_cons_zero, List.set_cons_succ, aG, aJ]; rfl
   refine eD (i := 4) (N := some 38) (v := ?_) (a' := ?_) #[true, true, true, true, true, false, false, false] rfl rfl (bP HT_.out HW_.out (by kernel_rfl)) (fun _ _ _ h => h) (Or.inl ⟨by rfl, ?_⟩) hHeld ?_ ?_; rotate_left
   ·rintro w' ⟨s0, s1⟩; go_simp; with_reducible rfl
   rotate_left
   ·simp only [Act.put, List.setIfInBounds_toArray, List.set_cons_zero, List.set_cons_succ, aG, aJ]; rfl
   refine jR (i := 5) (N := some 39) #[true, true, true, true, true, true, false, false] rfl rfl (dD HT_.out (by kernel_rfl)) (by decide) (fun K hK => ?_); refine iC Try.func40 (by kernel_rfl) rfl #[.pointer (some ⟨g, 0, none⟩), .int .i64 1] (by rfl) rfl rfl (by (try simp only [List.map_toArray, List.map_cons, List.map_nil]); first | done | rfl) ?_; refine (Ie MB.out.drew HLB.out.2.1 1).mono ?_; rintro ee w5 ⟨rfl, wk5, k5⟩
   have hqe : d9 o.st ⟨0, qD 1, 0, 0⟩ = q := by rw [HQE.out]; rfl
   rw [hqe] at wk5 ⊢; refine ⟨_, rfl, ?_⟩; have aby := af.mk wk5; have hq5 := iB (Kd.bD HQ4.out) k5; have hb5 := k5.cells (show w4.drew.heap[w2.heap.size]? = _ from abw.out) (by decide); obtain ⟨qcl, qfr⟩ := Kd.fP 0 hq5 (e : Int) (by omega) hen; rw [Int.toNat_natCast] at qcl qfr; have HQ5 := af.mk hq5; have HB5 := af.mk hb5; have e251 : w5.cell? ⟨w.heap.size + 1, 1, none⟩ = some (.int .i64 (p : Int)) := (aj (k5.cells (show w4.drew.heap[w.heap.size + 1]? = _ from MB.out.kb.cells B25.out (by decide)) (by decide)) 1).trans rfl; have e42 : w5.cell? ⟨w.heap.size, 0, none⟩ = some (.pointer (some ⟨g, 0, none⟩)) := (aj (k5.cells (show w4.drew.heap[w.heap.size]? = _ from MB.out.kb.cells B42.out (by decide)) (by decide)) 0).trans rfl; clear wk5 hqe hq5 hb5 k5 MB HQ4 abw abx d42; refine hK.out _ _ ⟨e251, e42⟩ (fun hHeld => ?_); clear e251 e42; clear hK K; refine fD (a' := ?_) ?_ ?_; rotate_left
   ·show Act.put _ (some 39) _ = _; simp only [Act.put, List.setIfInBounds_toArray, List.set_cons_zero, List.set_cons_succ, aG, aJ]; rfl
   refine bB (i := 6) (N := some 40) (v := ?_) (a' := ?_) #[true, true, true, true, true, true, true, false] rfl rfl (aU HT_.out (by kernel_rfl)) (fun _ _ _ h => h) (Or.inl ⟨by rfl, ?_⟩) ?_ ?_; rotate_left
   ·intro w'; go_simp; with_reducible rfl
   rotate_left
   ·simp only [Act.put, List.setIfInBounds_toArray, List.set_cons_zero, List.set_cons_succ, aG, aJ]; rfl
   refine jg (i := 7) (N := none) #[true, true, true, true, true, true, true, true] rfl rfl (dD HT_.out (by kernel_rfl)) (by decide) (fun K hK => ?_); refine nM (w1 := ?_) (by rfl) rfl ?_ ?_; rotate_left
   ·go_simp; rfl
   refine hK.out _ _ ?_; clear hK K; refine jB (gq HT_.out (by kernel_rfl)) ?_; have hp6 := Kd.H8 HQ5.out (e : Int) q.1; rw [Int.toNat_natCast] at hp6; have tq : TB w5 3 qb := Kd.gK HQ5.out qb rfl
   have hnq : w2.heap.size ≠ qb := fun h => absurd ((show TB w5 84 w2.heap.size from ⟨_, HB5.out⟩).uniq (h ▸ tq)) (by decide)
   have wk6 := aby.out.far (p := ⟨qb, e, none⟩) HQF.out.2 (Nat.le_trans HRB.out.2.2.1 HWk.out.size) (j5 tq (by decide) (fun _ => by have := HNB.out; have := HKW.out.1; have := HWk.out.size; have := HQF.out.2; show nb ≤ qb; omega)) (.int .i64 q.1); have hb6 : (w5.setCell ⟨qb, e, none⟩ (.int .i64 q.1)).heap[w2.heap.size]? = some (.cells #[.int .i64 o.sign, .slice A1 L1 c1, .slice A2 L2 c2, .int .i64 o.zero, .int .i64 o.inf, .int .i64 o.none_, .int .i64 o.sig] 84 (0, 0)) := (Below.heap_setCell w5 ⟨qb, e, none⟩ _ _ hnq).trans HB5.out; clear HT_ HW_; clear qcl qfr; generalize w5.setCell ⟨qb, e, none⟩ (.int .i64 q.1) = W6 at hp6 wk6 hb6 ⊢; have OE := af.mk wk6
   have HQI : af (IL W6 qb (ys.set e q.1)) := ⟨Ic hp6 (by rw [List.length_set, HLB.out.2.2.2.2.2.2.1]; have := HL.out; omega)⟩
   have aip : af ((ys.set e q.1).length = n) := ⟨by rw [List.length_set]; exact HLB.out.2.2.2.2.2.2.1⟩
   have HIO : af (IL W6 ob' r.out) := ⟨Ic (iB HRO.out wk6.kb) (by rw [HLB.out.2.2.2.2.2.1]; have := HL.out; omega)⟩
   have Ig := af.mk (show Boxed W6 k8 44 _ ∧ Boxed W6 k9 3 _ ∧ Boxed W6 k10 3 _ ∧ W6.heap[w.heap.size]? = _ ∧ W6.heap[w2.heap.size]? = _ from ⟨Boxed.KB X8.out wk6.kb (by decide), Boxed.KB X9.out wk6.kb (by decide), Boxed.KB X10.out wk6.kb (by decide), wk6.kb.cells B42.out (by decide), hb6⟩); have d42 : W6.cell? ⟨w.heap.size, 0, none⟩ = some (.pointer (some ⟨g, 0, none⟩)) := (aj Ig.out.2.2.2.1 0).trans rfl; have d8 : W6.cell? ⟨k8, 0, none⟩ = some (.slice (some ⟨ob', 0, none⟩) n oc') := Boxed.cell Ig.out.1; have d85 : W6.cell? ⟨w2.heap.size, 5, none⟩ = some (.int .i64 o.none_) := (aj hb6 5).trans rfl; clear hp6 wk6 hb6 tq hnq HQ5 HB5 aby
   gi_wp2_with (refine ⟨trivial, ?_⟩; gi_at_call 42; refine (lF (SF o.none_ OE.out.bs OE.out.bl HIO.out HLB.out.2.2.2.2.2.1 HOB.out.1 HQI.out aip.out HQF.out.1 (by have := HL.out; omega) HLB.out.2.2.1)).mono ?_; rintro e w7 ⟨pb, pc, rfl, hpc, hpb, h3, h4, h5, h6⟩; rw [← HM.out] at h4; have ER := af.mk (OE.out.call h4 h5 h6); have HP7 := af.mk h3; have HPF := af.mk (show n ≤ pc ∧ W6.heap.size ≤ pb from ⟨hpc, hpb⟩); obtain ⟨y8, y9, y10, y42, y84⟩ := Ig.out; have Y8 := af.mk (Boxed.KB y8 h6 (by decide)); have Y9 := af.mk (Boxed.KB y9 h6 (by decide)); have Y10 := af.mk (Boxed.KB y10 h6 (by decide)); have Y42 := af.mk (h6.cells y42 (by decide)); have Y84 := af.mk (h6.cells y84 (by decide)); have k8c := Boxed.cell Y8.out; have k8f := Boxed.frozen Y8.out; have HX6 := af.mk (show Wc.heap.size ≤ W6.heap.size from OE.out.size); clear h3 h4 h5 h6 hpc hpb y8 y9 y10 y42 y84 d42 d8 d85 OE HIO HQI Ig)
   have h42 : w.heap.size ≠ k8 := by have := HG.out; have := fC HB3.out; omega
   have h84 : w2.heap.size ≠ k8 := by have := HBZ.out; have := X8.out.lt; omega
   have Z8 : af (Boxed (w7.setCell ⟨k8, 0, none⟩ (.slice (some ⟨pb, 0, none⟩) n pc)) k8 44 (.slice (some ⟨pb, 0, none⟩) n pc)) := ⟨Boxed.set _ Y8.out⟩
   have Z9 := af.mk (Boxed.other Y9.out (Ne.symm HG.out.2.2.2.1) (.slice (some ⟨pb, 0, none⟩) n pc)); have Z10 := af.mk (Boxed.other Y10.out (Ne.symm HG.out.2.2.2.2.1) (.slice (some ⟨pb, 0, none⟩) n pc)); have Z42 := af.mk ((Below.heap_setCell w7 ⟨k8, 0, none⟩ (.slice (some ⟨pb, 0, none⟩) n pc) _ h42).trans Y42.out); have Z84 := af.mk ((Below.heap_setCell w7 ⟨k8, 0, none⟩ (.slice (some ⟨pb, 0, none⟩) n pc) _ h84).trans Y84.out); have HP8 := af.mk (vP HP7.out (b := k8) (by show some pb ≠ some k8; intro h; injection h with h; have := HPF.out; have := ER.out.size; have := X8.out.lt; have := HX6.out; omega) 0 (.slice (some ⟨pb, 0, none⟩) n pc)); have abz := af.mk ((HWk.out.call ER.out.bs ER.out.bl ER.out.kb).far (p := ⟨k8, 0, none⟩) HG.out.1 HRB.out.2.2.1 (j5 ⟨_, Y8.out⟩ (by decide) (fun e => absurd e (by decide))) (.slice (some ⟨pb, 0, none⟩) n pc)); have KOK := af.mk ((KeepsOthers.Kl ER.out.kb).trans (KeepsOthers.setCell w7 ⟨k8, 0, none⟩ (.slice (some ⟨pb, 0, none⟩) n pc)))
   have BS8 : af (∀ k, (k = X3.heap.size ∨ k = rb) → (w7.setCell ⟨k8, 0, none⟩ (.slice (some ⟨pb, 0, none⟩) n pc)).heap[k]? = W5.heap[k]?) := ⟨fun k hk => by
    obtain ⟨n8, n9, n10, lt5, t, ht, ht2⟩ := HK.out k hk; have h8 := HSC.out.2 k hk
    exact (Below.heap_setCell w7 ⟨k8, 0, none⟩ _ k n8).trans ((ER.out.kb.2 k (ht.keep h8).lt (.of (ht.keep h8) ht2)).trans h8)⟩
   have SZ8 : af (W5.heap.size ≤ (w7.setCell ⟨k8, 0, none⟩ (.slice (some ⟨pb, 0, none⟩) n pc)).heap.size) := ⟨by
    have h1 := ER.out.size; have h2 := HSC.out.1
    have h3 : (w7.setCell ⟨k8, 0, none⟩ (.slice (some ⟨pb, 0, none⟩) n pc)).heap.size = w7.heap.size := by simp
    omega⟩
   have PBF := af.mk (show k9 < pb ∧ k10 < pb ∧ W1.heap.size ≤ W6.heap.size from by
    have h1 := X9.out.lt; have h2 := X10.out.lt; have h3 := HX6.out; have h4 := HPF.out; have h5 := HWk.out.size
    omega)
   clear h42 h84 ER HP7 Y8 Y9 Y10 Y42 Y84 k8c k8f; generalize w7.setCell ⟨k8, 0, none⟩ (.slice (some ⟨pb, 0, none⟩) n pc) = W8 at Z8 Z9 Z10 Z42 Z84 HP8 abz KOK BS8 SZ8 ⊢; refine qF (m := 12) (S := fun w' => w'.cell? ⟨w.heap.size, 0, none⟩ = some (.pointer (some ⟨g, 0, none⟩)) ∧ w'.cell? ⟨k9, 0, none⟩ = some (.int .i64 r.is) ∧ w'.cell? ⟨k10, 0, none⟩ = some (.int .i64 r.sg) ∧ w'.cell? ⟨w2.heap.size, 5, none⟩ = some (.int .i64 o.none_) ∧ w'.cell? ⟨w2.heap.size, 6, none⟩ = some (.int .i64 o.sig)) (ds := [9, 10, 11]) #[false, false, false, false, false, false, false, false, false, false, false, false] (by kernel_rfl) ?_ (by kernel_rfl) rfl rfl ⟨(aj Z42.out 0).trans rfl, Boxed.cell Z9.out, Boxed.cell Z10.out, (aj Z84.out 5).trans rfl, (aj Z84.out 6).trans rfl⟩ (fun hHeld => ?_)
   ·rintro ⟨a, w, h⟩; exact h.elim
   refine eT SV OA (fun HT_ HW_ => ?_); refine eD (i := 0) (N := some 47) (v := ?_) (a' := ?_) #[true, false, false, false, false, false, false, false, false, false, false, false] rfl rfl (bP HT_.out HW_.out (by kernel_rfl)) (fun _ _ _ h => h) (Or.inl ⟨by rfl, ?_⟩) hHeld ?_ ?_; rotate_left
   ·rintro w' ⟨s0, s1, s2, s3, s4⟩; go_simp; with_reducible rfl
   rotate_left
   ·simp only [Act.put, List.setIfInBounds_toArray, List.set_cons_zero, List.set_cons_succ, aG, aJ]; rfl
   refine eD (i := 1) (N := some 48) (v := ?_) (a' := ?_) #[true, true, false, false, false, false, false, false, false, false, false, false] rfl rfl (bP HT_.out HW_.out (by kernel_rfl)) (fun _ _ _ h => h) (Or.inl ⟨by rfl, ?_⟩) hHeld ?_ ?_; rotate_left
   ·rintro w' ⟨s0, s1, s2, s3, s4⟩; go_simp; with_reducible rfl
   rotate_left
   ·simp only [Act.put, List.setIfInBounds_toArray, List.set_cons_zero, List.set_cons_succ, aG, aJ]; rfl
   refine bB (i := 2) (N := some 49) (v := ?_) (a' := ?_) #[true, true, true, false, false, false, false, false, false, false, false, false] rfl rfl (aU HT_.out (by kernel_rfl)) (fun _ _ _ h => h) (Or.inl ⟨by rfl, ?_⟩) ?_ ?_; rotate_left
   ·intro w'; go_simp; with_reducible rfl
   rotate_left
   ·simp only [Act.put, List.setIfInBounds_toArray, List.set_cons_zero, List.set_cons_succ, aG, aJ]; rfl
   refine eD (i := 3) (N := some 50) (v := ?_) (a' := ?_) #[true, true, true, true, false, false, false, false, false, false, false, false] rfl rfl (bP HT_.out HW_.out (by kernel_rfl)) (fun _ _ _ h => h) (Or.inl ⟨by rfl, ?_⟩) hHeld ?_ ?_; rotate_left
   ·rintro w' ⟨s0, s1, s2, s3, s4⟩; go_simp; with_reducible rfl
   rotate_left
   ·simp only [Act.put, List.setIfInBounds_toArray, List.set_cons_zero, List.set_cons_succ, aG, aJ]; rfl
   refine eD (i := 5) (N := some 52) (v := ?_) (a' := ?_) #[true, true, true, true, false, true, false, false, false, false, false, false] rfl rfl (bP HT_.out HW_.out (by kernel_rfl)) (fun _ _ _ h => h) (Or.inl ⟨by rfl, ?_⟩) hHeld ?_ ?_; rotate_left
   ·rintro w' ⟨s0, s1, s2, s3, s4⟩; go_simp; with_reducible rfl
   rotate_left
   ·simp only [Act.put, List.setIfInBounds_toArray, List.set_cons_zero, List.set_cons_succ, aG, aJ]; rfl
   refine eD (i := 6) (N := some 53) (v := ?_) (a' := ?_) #[true, true, true, true, false, true, true, false, false, false, false, false] rfl rfl (bP HT_.out HW_.out (by kernel_rfl)) (fun _ _ _ h => h) (Or.inl ⟨by rfl, ?_⟩) hHeld ?_ ?_; rotate_left
   ·rintro w' ⟨s0, s1, s2, s3, s4⟩; go_simp; with_reducible rfl
   rotate_left
   ·simp only [Act.put, List.setIfInBounds_toArray, List.set_cons_zero, List.set_cons_succ, aG, aJ]; rfl
   refine bB (i := 7) (N := some 54) (v := ?_) (a' := ?_) #[true, true, true, true, false, true, true, true, false, false, false, false] rfl rfl (aU HT_.out (by kernel_rfl)) (fun _ _ _ h => h) (Or.inl ⟨by rfl, ?_⟩) ?_ ?_; rotate_left
   ·intro w'; go_simp; with_reducible rfl
   rotate_left
   ·simp only [Act.put, List.setIfInBounds_toArray, List.set_cons_zero, List.set_cons_succ, aG, aJ]; rfl
   refine eD (i := 8) (N := some 55) (v := ?_) (a' := ?_) #[true, true, true, true, false, true, true, true, true, false, false, false] rfl rfl (bP HT_.out HW_.out (by kernel_rfl)) (fun _ _ _ h => h) (Or.inl ⟨by rfl, ?_⟩) hHeld ?_ ?_; rotate_left
   ·rintro w' ⟨s0, s1, s2, s3, s4⟩; go_simp; with_reducible rfl
   rotate_left
   ·simp only [Act.put, List.setIfInBounds_toArray, List.set_cons_zero, List.set_cons_succ, aG, aJ]; rfl
   refine jR (i := 4) (N := some 51) #[true, true, true, true, true, true, true, true, true, false, false, false] rfl rfl (dD HT_.out (by kernel_rfl)) (by decide) (fun K hK => ?_); refine iC Try.func43 (by kernel_rfl) rfl #[.pointer (some ⟨g, 0, none⟩), .int .i64 r.is, .int .i64 o.none_] (by rfl) rfl rfl (by (try simp only [List.map_toArray, List.map_cons, List.map_nil]); first | done | rfl) ?_; refine (Km abz.out.drew HLB.out.2.2.2.1 r.is o.none_).mono ?_; rintro ee w9 ⟨rfl, wk9, k9'⟩; rw [← HU.out] at wk9 ⊢; refine ⟨_, rfl, ?_⟩; have abA := af.mk wk9; have K9 := af.mk k9'; have a42 := k9'.cells (show W8.drew.heap[w.heap.size]? = _ from Z42.out) (by decide); have a84 := k9'.cells (show W8.drew.heap[w2.heap.size]? = _ from Z84.out) (by decide); have a9 := Boxed.KB (show Boxed W8.drew k9 3 _ from Z9.out) k9' (by decide); have a10 := Boxed.KB (show Boxed W8.drew k10 3 _ from Z10.out) k9' (by decide); have a8 := Boxed.KB (show Boxed W8.drew k8 44 _ from Z8.out) k9' (by decide); have A9 := af.mk (show Boxed w9 k8 44 _ ∧ Boxed w9 k9 3 _ ∧ Boxed w9 k10 3 _ from ⟨a8, a9, a10⟩); have P9 := af.mk (iB (Kd.bD HP8.out) k9'); refine hK.out _ _ ⟨(aj a42 0).trans rfl, Boxed.cell a9, Boxed.cell a10, (aj a84 5).trans rfl, (aj a84 6).trans rfl⟩ (fun hHeld => ?_); clear wk9 k9' a42 a84 a9 a10 a8 HP8; clear hK K; refine fD (a' := ?_) ?_ ?_; rotate_left
   ·show Act.put _ (some 51) _ = _; simp only [Act.put, List.setIfInBounds_toArray, List.set_cons_zero, List.set_cons_succ, aG, aJ]; rfl
   refine jg (i := 9) (N := some 56) #[true, true, true, true, true, true, true, true, true, true, false, false] rfl rfl (dD HT_.out (by kernel_rfl)) (by decide) (fun K hK => ?_); refine iC Try.func43 (by kernel_rfl) rfl #[.pointer (some ⟨g, 0, none⟩), .int .i64 r.sg, .int .i64 o.sig] (by rfl) rfl rfl (by (try simp only [List.map_toArray, List.map_cons, List.map_nil]); first | done | rfl) ?_; refine (Km abA.out HLB.out.2.2.2.2.1 r.sg o.sig).mono ?_; rintro ee w10 ⟨rfl, XV, MC⟩; rw [← HV.out] at XV ⊢; refine ⟨_, rfl, ?_⟩; have abB := af.mk XV; have K10 := af.mk (K9.out.trans MC); have A10 := af.mk (show Boxed w10 k8 44 _ ∧ Boxed w10 k9 3 _ ∧ Boxed w10 k10 3 _ from ⟨Boxed.KB A9.out.1 MC (by decide), Boxed.KB A9.out.2.1 MC (by decide), Boxed.KB A9.out.2.2 MC (by decide)⟩); have P10 := af.mk (iB P9.out MC); clear XV MC abA K9 A9 P9; have c9 := Boxed.cell A10.out.2.1; have f9 := Boxed.frozen A10.out.2.1; refine hK.out _ _ ?_; clear hK K; refine fD (a' := ?_) ?_ ?_; rotate_left
   ·show Act.put _ (some 56) _ = _; simp only [Act.put, List.setIfInBounds_toArray, List.set_cons_zero, List.set_cons_succ, aG, aJ]; rfl
   refine jg (i := 10) (N := none) #[true, true, true, true, true, true, true, true, true, true, true, false] rfl rfl (dD HT_.out (by kernel_rfl)) (by decide) (fun K hK => ?_); refine nM (w1 := ?_) (by rfl) rfl ?_ ?_; rotate_left
   ·go_simp; rfl
   refine hK.out _ _ ?_; clear hK K; have q8 := Boxed.other A10.out.1 HG.out.2.2.2.1 (.int .i64 u.1); have q9 : Boxed (w10.setCell ⟨k9, 0, none⟩ (.int .i64 u.1)) k9 3 (.int .i64 u.1) := Boxed.set _ A10.out.2.1; have q10 := Boxed.other A10.out.2.2 (Ne.symm HG.out.2.2.2.2.2) (.int .i64 u.1); have p11 := vP P10.out (b := k9) (by show some pb ≠ some k9; intro h; injection h with h; have := PBF.out; omega) 0 (.int .i64 u.1); have abC := abB.out.far (p := ⟨k9, 0, none⟩) HG.out.2.1 HRB.out.2.2.1 (j5 ⟨_, A10.out.2.1⟩ (by decide) (fun _ => by have := HNB.out; have := HKW.out.1; have := HG.out; show nb ≤ k9; omega)) (.int .i64 u.1); have abD : KeepsOthers Wc (w10.setCell ⟨k9, 0, none⟩ (.int .i64 u.1)) := (KOK.out.trans (show KeepsOthers W8 w10 from KeepsOthers.Kl (g := g) (show KB W8 w10 g from K10.out))).trans (KeepsOthers.setCell _ _ _)
   have abE : ∀ k, (k = X3.heap.size ∨ k = rb) → (w10.setCell ⟨k9, 0, none⟩ (.int .i64 u.1)).heap[k]? = W5.heap[k]? := fun k hk => by
    obtain ⟨n8, n9, n10, lt5, t, ht, ht2⟩ := HK.out k hk; have h8 := BS8.out k hk; exact (Below.heap_setCell w10 ⟨k9, 0, none⟩ _ k n9).trans ((K10.out.2 k (by have := (ht.keep h8).lt; exact this) (.of (ht.keep h8) ht2)).trans h8)
   have abF : W5.heap.size ≤ (w10.setCell ⟨k9, 0, none⟩ (.int .i64 u.1)).heap.size := Nat.le_trans SZ8.out (Nat.le_trans K10.out.1 (by simp)); generalize w10.setCell ⟨k9, 0, none⟩ (.int .i64 u.1) = X11 at q8 q9 q10 p11 abC abD abE abF ⊢; have c10 := Boxed.cell q10; have f10 := Boxed.frozen q10; clear c9 f9; refine jg (i := 11) (N := none) #[true, true, true, true, true, true, true, true, true, true, true, true] rfl rfl (dD HT_.out (by kernel_rfl)) (by decide) (fun K hK => ?_); refine nM (w1 := ?_) (by rfl) rfl ?_ ?_; rotate_left
   ·go_simp; rfl
   refine hK.out _ _ ?_; clear hK K; refine jB (gq HT_.out (by kernel_rfl)) ?_; have r8 := Boxed.other q8 HG.out.2.2.2.2.1 (.int .i64 v.1); have r9 := Boxed.other q9 HG.out.2.2.2.2.2 (.int .i64 v.1); have r10 : Boxed (X11.setCell ⟨k10, 0, none⟩ (.int .i64 v.1)) k10 3 (.int .i64 v.1) := Boxed.set _ q10; have p12 := vP p11 (b := k10) (by show some pb ≠ some k10; intro h; injection h with h; have := PBF.out; omega) 0 (.int .i64 v.1); have abG := abC.far (p := ⟨k10, 0, none⟩) HG.out.2.2.1 HRB.out.2.2.1 (j5 ⟨_, q10⟩ (by decide) (fun _ => by have := HNB.out; have := HKW.out.1; have := HG.out; show nb ≤ k10; omega)) (.int .i64 v.1); have XW := abD.trans (KeepsOthers.setCell X11 ⟨k10, 0, none⟩ (.int .i64 v.1))
   have XX : ∀ k, (k = X3.heap.size ∨ k = rb) → (X11.setCell ⟨k10, 0, none⟩ (.int .i64 v.1)).heap[k]? = W5.heap[k]? := fun k hk =>
    (Below.heap_setCell X11 ⟨k10, 0, none⟩ _ k (HK.out k hk).2.2.1).trans (abE k hk)
   have abH : W5.heap.size ≤ (X11.setCell ⟨k10, 0, none⟩ (.int .i64 v.1)).heap.size := Nat.le_trans abF (by simp); generalize X11.setCell ⟨k10, 0, none⟩ (.int .i64 v.1) = X12 at r8 r9 r10 p12 abG XW XX abH ⊢; refine ⟨XW.from _, ⟨XW.1, fun k hk _ => (XX k hk).trans (HSC.out.2 k hk).symm⟩, ?_, abH, XX⟩; rw [HST.out]; exact ⟨⟨pb, pc, r8, HPF.out.1, Kd.dW p12 PBF.out.2.2, by have := PBF.out; omega, by have := PBF.out; omega, by have := PBF.out; have := HPF.out; omega⟩, r9, r10, abG⟩
end Go.Proofs.Ytkgeihbcikiedaa.P
