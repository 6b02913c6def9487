/- A builder as it lies in memory, and the contracts of build's lay, gates, Bit, New and Out and of slices.Clone, for all builders of fewer than a million nodes. -/
import Derived.Test.YtkgeihbcikiedaaPx0
import Derived.Deep.LoopGhost
set_option linter.unusedVariables false
set_option linter.unusedSimpArgs false
set_option linter.constructorNameAsVariable false
set_option linter.unusedSectionVars false
namespace Go.Proofs.Ytkgeihbcikiedaa.P
open Go.RowKit Go.Proofs.YtkgeihbcikiedaaW.PrintWords Go.Proofs.YtkgeihbcikiedaaW.PrintLast Go.Proofs.YtkgeihbcikiedaaW.PrintMore
structure BSt where
 nodes : List S92
 ins : List S94
 outs : List S94
def TB (W : World) (t k : Nat) : Prop := ∃ cells, W.heap[k]? = some (.cells cells t (0, 0))
def Bld (W : World) (nb k : Nat) : Prop := TB W 89 k ∨ TB W 92 k ∨ TB W 94 k ∨ (TB W 3 k ∧ k < nb)
def Safe (W : World) (k : Nat) : Prop := ¬ (TB W 89 k ∨ TB W 92 k ∨ TB W 94 k)
def KB (w w1 : World) (g : Nat) : Prop := w.heap.size ≤ w1.heap.size ∧ ∀ k, k < w.heap.size → Safe w k → w1.heap[k]? = w.heap[k]?
def BS (w0 W : World) (nb g : Nat) (s : BSt) : Prop := w0.heap.size ≤ g ∧ nb ≤ W.heap.size ∧ ∃ (vn vi vo : Value) (ok1 ok2 ok3 : Nat → Prop),
 W.heap[g]? = some (.cells #[vn, vi, vo] 89 (0, 0)) ∧ Kd.N k92 92 W w0.heap.size ok1 vn s.nodes ∧ k94.R 94 W w0.heap.size ok2 vi s.ins ∧ k94.R 94 W w0.heap.size ok3 vo s.outs ∧
 (∀ k, ok1 k → TB W 92 k) ∧ (∀ k, ok2 k → (TB W 94 k ∨ (TB W 3 k ∧ k < nb)) ∧ some k ≠ vo.ownBlock) ∧ (∀ k, ok3 k → (TB W 94 k ∨ (TB W 3 k ∧ k < nb)) ∧ some k ≠ vi.ownBlock)
section
variable {w0 w W W1 W2 : World} {nb g t k : Nat} {s : BSt}
theorem TB.lt (h : TB W t k) : k < W.heap.size := by obtain ⟨c, h⟩ := h; exact gU h
theorem TB.keep (h : TB W t k) (e : W1.heap[k]? = W.heap[k]?) : TB W1 t k := by obtain ⟨c, h⟩ := h; exact ⟨c, e.trans h⟩
theorem TB.uniq {t' : Nat} (h : TB W t k) (h' : TB W t' k) : t = t' := by
 obtain ⟨c, h⟩ := h; obtain ⟨c', h'⟩ := h'; rw [h] at h'; injection h' with h'; injection h' with _ e
theorem Safe.of (h : TB W t k) (ht : t ≠ 89 ∧ t ≠ 92 ∧ t ≠ 94) : Safe W k := fun e => by
 rcases e with e | e | e
 ·exact ht.1 (h.uniq e)
 ·exact ht.2.1 (h.uniq e)
 ·exact ht.2.2 (h.uniq e)
theorem Safe.move (h : Safe W k) (e : W1.heap[k]? = W.heap[k]?) : Safe W1 k := fun j => h (j.imp (·.keep e.symm) (·.imp (·.keep e.symm) (·.keep e.symm)))
theorem sM (h : TB W t k) (ht : t ≠ 89 ∧ t ≠ 92 ∧ t ≠ 94) (h3 : t = 3 → nb ≤ k) : ¬ Bld W nb k := fun e => by
 rcases e with e | e | e | e
 ·exact ht.1 (h.uniq e)
 ·exact ht.2.1 (h.uniq e)
 ·exact ht.2.2 (h.uniq e)
 ·have := h3 (h.uniq e.1); omega
theorem BS.step (h : BS w0 W nb g s) (hs : W.heap.size ≤ W1.heap.size) (hm : ∀ k, k < W.heap.size → Bld W nb k → W1.heap[k]? = W.heap[k]?) : BS w0 W1 nb g s := by
 obtain ⟨h1, h2, vn, vi, vo, ok1, ok2, ok3, hb, n1, n2, n3, t1, t2, t3⟩ := h
 have mv : ∀ k t, TB W t k → Bld W nb k → TB W1 t k := fun k t ht hB => ht.keep (hm k ht.lt hB)
 have pt : ∀ k, (TB W 94 k ∨ (TB W 3 k ∧ k < nb)) → Bld W nb k := fun k e => e.elim (fun e => .inr (.inr (.inl e))) (fun e => .inr (.inr (.inr e)))
 have mp : ∀ k, (TB W 94 k ∨ (TB W 3 k ∧ k < nb)) → (TB W1 94 k ∨ (TB W1 3 k ∧ k < nb)) := fun k e => e.elim (fun e => .inl (mv k 94 e (.inr (.inr (.inl e))))) (fun e => .inr ⟨mv k 3 e.1 (.inr (.inr (.inr e))), e.2⟩)
 refine ⟨h1, Nat.le_trans h2 hs, vn, vi, vo, ok1, ok2, ok3, (hm g (gU hb) (.inl ⟨_, hb⟩)).trans hb, ?_, ?_, ?_, ?_, ?_, ?_⟩
 ·exact Kd.vT n1 (fun k hk hl => hm k hl (.inr (.inl (t1 k hk))))
 ·exact Kd.jr n2 (fun k hk hl => hm k hl (pt k (t2 k hk).1))
 ·exact Kd.jr n3 (fun k hk hl => hm k hl (pt k (t3 k hk).1))
 ·exact fun k hk => mv k 92 (t1 k hk) (.inr (.inl (t1 k hk)))
 ·exact fun k hk => ⟨mp k (t2 k hk).1, (t2 k hk).2⟩
 ·exact fun k hk => ⟨mp k (t3 k hk).1, (t3 k hk).2⟩
theorem BS.lt (h : BS w0 W nb g s) : g < W.heap.size := by obtain ⟨_, _, _, _, _, _, _, _, hb, _⟩ := h; exact gU hb
theorem BS.ge (h : BS w0 W nb g s) : w0.heap.size ≤ g := h.1
theorem BS.Lb (h : BS w0 W nb g s) : nb ≤ W.heap.size := h.2.1
theorem BS.tb (h : BS w0 W nb g s) : TB W 89 g := by obtain ⟨_, _, _, _, _, _, _, _, hb, _⟩ := h; exact ⟨_, hb⟩
theorem BS.below (h : BS w0 W nb g s) (hb : Below W.heap.size W W1) : BS w0 W1 nb g s := h.step hb.size (fun k hk _ => hb.block k hk)
theorem BS.alloc (h : BS w0 W nb g s) (o : Obj) : BS w0 (W.alloc o) nb g s := h.below (ai (Below.refl _ _) o)
theorem BS.drewN (h : BS w0 W nb g s) (m : Nat) : BS w0 (W.drewN m) nb g s := h.below (ah (Below.refl _ _) m)
theorem BS.drew (h : BS w0 W nb g s) : BS w0 W.drew nb g s := h.below (gT (Below.refl _ _))
theorem BS.at_ {m : Nat} (hq : W.drewN m = W1) (h : BS w0 W nb g s) : BS w0 W1 nb g s := by subst hq; exact h.drewN m
theorem BS.grown {row : Option Nat} (h : BS w0 W nb g s) (hw : W.grownBy W1 row) (hne : ∀ k, row = some k → ¬ Bld W nb k) : BS w0 W1 nb g s :=
 h.step hw.size (fun k hk hB => hw.block k hk (fun e => hne k e.symm hB))
theorem BS.far {p : Addr} (h : BS w0 W nb g s) (hne : ¬ Bld W nb p.block) (u : Value) : BS w0 (W.setCell p u) nb g s :=
 h.step (by simp) (fun k hk hB => Below.heap_setCell W p u k (fun e => hne (e ▸ hB)))
theorem KB.refl (w : World) (g : Nat) : KB w w g := ⟨Nat.le_refl _, fun _ _ _ => rfl⟩
theorem KB.of_below (h : Below w.heap.size w W) (g : Nat) : KB w W g := ⟨h.size, fun k hk _ => h.block k hk⟩
theorem KB.trans (h : KB w W g) (k : KB W W1 g) : KB w W1 g := ⟨Nat.le_trans h.1 k.1, fun i hi hs => by
 have e := h.2 i hi hs
 exact (k.2 i (Nat.lt_of_lt_of_le hi h.1) (hs.move e)).trans e⟩
theorem KB.alloc (h : KB w W g) (o : Obj) : KB w (W.alloc o) g := h.trans (.of_below (ai (Below.refl _ _) o) g)
theorem KB.drewN (h : KB w W g) (m : Nat) : KB w (W.drewN m) g := h.trans (.of_below (ah (Below.refl _ _) m) g)
theorem KB.drew (h : KB w W g) : KB w W.drew g := h.trans (.of_below (gT (Below.refl _ _)) g)
theorem KB.far (h : KB w W g) {p : Addr} (hp : w.heap.size ≤ p.block) (u : Value) : KB w (W.setCell p u) g :=
 ⟨by simpa using h.1, fun k hk hs => (Below.heap_setCell W p u k (by omega)).trans (h.2 k hk hs)⟩
theorem KB.blk {o : Obj} (h : KB w W g) (hb : w.heap[k]? = some o) (hs : Safe w k) : W.heap[k]? = some o := (h.2 k (gU hb) hs).trans hb
theorem KB.cell {a : Addr} {v : Value} (h : KB w W g) (hc : w.cell? a = some v) (hs : Safe w a.block) : W.cell? a = some v := by
 have lt := World.block_lt_of_cell? w _ hc; have hh := h.2 _ lt hs; unfold World.cell? at hc ⊢; rw [hh]; exact hc
end
end Go.Proofs.Ytkgeihbcikiedaa.P
set_option linter.unusedVariables false
set_option linter.unusedSimpArgs false
set_option linter.constructorNameAsVariable false
set_option linter.unusedSectionVars false
namespace Go.Proofs.Ytkgeihbcikiedaa.P
open Go.RowKit Go.Proofs.YtkgeihbcikiedaaW.PrintWords Go.Proofs.YtkgeihbcikiedaaW.PrintLast Go.Proofs.YtkgeihbcikiedaaW.PrintMore
attribute [local go_sem] eU eX fU fV dX dY eZ fo
theorem Ns {e : Nat} {w : World} {base : Nat} {ok : Nat → Prop} {v : Value} {xs : List S92} (h : Kd.N k92 e w base ok v xs) : Kd.N k92 e w base (fun k => some k = v.ownBlock) v xs := by
 obtain ⟨h0, rows, hl, hR, hf⟩ := h; refine ⟨fun k hk => hk.symm, rows, hl, hR, fun j x c hx hc => ?_⟩; obtain rfl := yM (Kd.oL (hf j x c hx hc)); exact Lc _ _ _
theorem Po : (Try.prog.info? 92).map (fun i => (i.zero, i.size, i.bytes)) = some (some (.agg #[(.int .i64 0), (.int .i64 0), (.int .i64 0), (.int .i64 0)]), 4, 32) := by kernel_rfl
def aca : List Nat := [0, 0, 2, 6, 14, 0, 32, 126, 255, 511, 1023]
noncomputable def Wz : Bool × List (List Nat × List Nat) := iZ .any (opsOf Try.f37 1)
theorem Ti : iZ .any (opsOf Try.f37 1) = Wz := rfl
theorem Pp : ji Wz.2 aca = true := by kernel_rfl
set_option maxHeartbeats 8000000 in
set_option maxRecDepth 100000 in
theorem Nu (nb g : Nat) (s : BSt) (x : S92) (w0 w : World) (hI : BS w0 w nb g s) (hB : Below w0.heap.size w0 w) (hl : s.nodes.length < 1000000) :
 Calls Try.prog 37 #[.pointer (some ⟨g, 0, none⟩), .agg #[.int .i64 x.f0, .int .i64 x.f1, .int .i64 x.f2, .int .i64 x.f3]] w fun e w' => e = .returned (.int .i64 (s.nodes.length : Int)) ∧ BS w0 w' nb g { s with nodes := s.nodes ++ [x] } ∧ Below w0.heap.size w0 w' ∧ KB w w' g := by
 have acb := Try.underlying89; have Nf := Try.underlying92; have HI := af.mk hI; have HB := af.mk hB; have HK := af.mk (KB.refl w g); clear hI hB
 go_enter Try.func37, Try.ntmps37
 go_upto_region 1 with (first | ((with_reducible refine bS (N := 3) rfl ?_); refine dw ?hg (N := 3) ?hd (cs := #[.int .i64 x.f0, .int .i64 x.f1, .int .i64 x.f2, .int .i64 x.f3]) (t := 92) ?hr ?_; (case hd => rfl); (case hg => rfl); (case hr => first | (go_simp; done) | (go_simp; rfl)); intro gx hg w3 hbox hb))
 subst hg; have hbx := af.mk hbox; have hI := HI.out; have HB3 := aA HB.out hb; have HK3 := HK.out.trans (.of_below hb g); clear HI; have lg := hI.lt; obtain ⟨h1, h2, vn, vi, vo, ok1, ok2, ok3, YB, n1, n2, n3, t1, t2, t3⟩ := hI; have hb0 := bP YB hb; obtain ⟨A, c, rfl⟩ := Kd.rC n1
 have Tj : ∀ k, (Value.slice A s.nodes.length c).ownBlock = some k → TB w 92 k := fun k hk => t1 k (n1.1 k hk)
 have ne1 : ∀ k, some k = (Value.slice A s.nodes.length c).ownBlock → k ≠ g := fun k hk e => by
  subst e; have := (Tj k hk.symm).uniq ⟨_, YB⟩; omega
 have n1' := Kd.Dc n1 hb; refine mF (n := 11) (S := fun w' => w'.cell? ⟨g, 0, none⟩ = some (.slice A s.nodes.length c) ∧ w'.cell? ⟨w.heap.size, 0, none⟩ = some (.int .i64 x.f0) ∧ w'.cell? ⟨w.heap.size, 1, none⟩ = some (.int .i64 x.f1) ∧ w'.cell? ⟨w.heap.size, 2, none⟩ = some (.int .i64 x.f2) ∧ w'.cell? ⟨w.heap.size, 3, none⟩ = some (.int .i64 x.f3)) (ds := [10]) #[false, false, false, false, false, false, false, false, false, false, false] (by kernel_rfl) rfl rfl ⟨(ak (aH hb0) 0).trans rfl, (ak (aH hbx.out) 0).trans rfl, (ak (aH hbx.out) 1).trans rfl, (ak (aH hbx.out) 2).trans rfl, (ak (aH hbx.out) 3).trans rfl⟩ (fun hHeld => ?_); refine gW Ti Pp (fun HT_ HW_ => ?_); refine bT (i := 0) (N := some 5) (v := ?_) (a' := ?_) #[true, false, false, false, false, false, false, false, false, false, false] rfl rfl (bB HT_.out (by kernel_rfl)) (fun _ _ _ h => h) (Or.inl ⟨by rfl, ?_⟩) ?_ ?_; rotate_left
 ·intro w'; go_simp; with_reducible rfl
 rotate_left
 ·simp only [Act.put, List.setIfInBounds_toArray, List.set_cons_zero, List.set_cons_succ, aU, aV]; rfl
 refine bT (i := 1) (N := some 6) (v := ?_) (a' := ?_) #[true, true, false, false, false, false, false, false, false, false, false] rfl rfl (bB HT_.out (by kernel_rfl)) (fun _ _ _ h => h) (Or.inl ⟨by rfl, ?_⟩) ?_ ?_; rotate_left
 ·intro w'; go_simp; with_reducible rfl
 rotate_left
 ·simp only [Act.put, List.setIfInBounds_toArray, List.set_cons_zero, List.set_cons_succ, aU, aV]; rfl
 refine bT (i := 2) (N := some 7) (v := ?_) (a' := ?_) #[true, true, true, false, false, false, false, false, false, false, false] rfl rfl (bB HT_.out (by kernel_rfl)) (fun _ _ _ h => h) (Or.inl ⟨by rfl, ?_⟩) ?_ ?_; rotate_left
 ·intro w'; go_simp; with_reducible rfl
 rotate_left
 ·simp only [Act.put, List.setIfInBounds_toArray, List.set_cons_zero, List.set_cons_succ, aU, aV]; rfl
 refine bT (i := 3) (N := some 8) (v := ?_) (a' := ?_) #[true, true, true, true, false, false, false, false, false, false, false] rfl rfl (bB HT_.out (by kernel_rfl)) (fun _ _ _ h => h) (Or.inl ⟨by rfl, ?_⟩) ?_ ?_; rotate_left
 ·intro w'; go_simp; with_reducible rfl
 rotate_left
 ·simp only [Act.put, List.setIfInBounds_toArray, List.set_cons_zero, List.set_cons_succ, aU, aV]; rfl
 refine iq (i := 4) (N := some 9) (v := ?_) (a' := ?_) #[true, true, true, true, true, false, false, false, false, false, false] rfl rfl (eB HT_.out HW_.out (by kernel_rfl)) (fun _ _ _ h => h) (Or.inl ⟨by rfl, ?_⟩) hHeld ?_ ?_; rotate_left
 ·rintro w' ⟨s0, s1, s2, s3, s4⟩; go_simp; with_reducible rfl
 rotate_left
 ·simp only [Act.put, List.setIfInBounds_toArray, List.set_cons_zero, List.set_cons_succ, aU, aV]; rfl
 refine iq (i := 5) (N := some 10) (v := ?_) (a' := ?_) #[true, true, true, true, true, true, false, false, false, false, false] rfl rfl (eB HT_.out HW_.out (by kernel_rfl)) (fun _ _ _ h => h) (Or.inl ⟨by rfl, ?_⟩) hHeld ?_ ?_; rotate_left
 ·rintro w' ⟨s0, s1, s2, s3, s4⟩; go_simp; with_reducible rfl
 rotate_left
 ·simp only [Act.put, List.setIfInBounds_toArray, List.set_cons_zero, List.set_cons_succ, aU, aV]; rfl
 refine jy (i := 6) (N := some 11) #[true, true, true, true, true, true, true, false, false, false, false] rfl rfl (fI HT_.out (by kernel_rfl)) (by decide) (fun K hK => ?_)
 refine Kd.yz k92 _ 92 ?hg (N' := 11) ?hd (xs := ([x] : List S92)) (inner := [.int .i64 x.f0, .int .i64 x.f1, .int .i64 x.f2, .int .i64 x.f3]) (ok := fun k => w3.drew.heap.size ≤ k) (okp := fun k => w3.drew.heap.size ≤ k) ?hr ?hp (fun _ hk => hk) (Nat.le_refl _) (Below.refl _ _) (Nat.le_refl _) (by simp) ?_; (case hd => rfl); (case hg => rfl); (case hr => first | (go_simp; done) | (go_simp; rfl)); (case hp => exact ⟨rfl, fun j p hj => by
  rcases j with _ | j
  ·simp only [List.getElem?_cons_zero, Option.some.injEq] at hj; subst hj; exact Lc _ _ _
  ·simp at hj⟩)
 intro v1 w4 ho4 hb4 hg4 hn4; have Bt := bP (aH hb0) hb4; have IV := bP (aH hbx.out) hb4; refine hK.out _ _ ⟨(ak Bt 0).trans rfl, (ak IV 0).trans rfl, (ak IV 1).trans rfl, (ak IV 2).trans rfl, (ak IV 3).trans rfl⟩ (fun hHeld => ?_); clear hK K; refine gN (a' := ?_) ?_ ?_; rotate_left
 ·show Act.put _ (some 11) _ = _; simp only [Act.put, List.setIfInBounds_toArray, List.set_cons_zero, List.set_cons_succ, aU, aV]; rfl
 obtain ⟨A1, c1, rfl⟩ := Kd.rC ho4; refine jy (i := 7) (N := some 12) #[true, true, true, true, true, true, true, true, false, false, false] rfl rfl (fI HT_.out (by kernel_rfl)) (by decide) (fun K hK => ?_); have n14 : Kd.N k92 92 w4 w0.heap.size (fun k => ok1 k ∨ w3.drew.heap.size ≤ k) (.slice A s.nodes.length c) s.nodes := Kd.YC (Kd.Dc (Kd.YD n1') hb4) (fun _ h => .inl h); refine Kd.kI k92 (w0 := w0) w0.heap.size ?hw (.tmp 9) (.tmp 11) 52 92 (.agg #[(.int .i64 0), (.int .i64 0), (.int .i64 0), (.int .i64 0)]) 32 rfl Try.underlying52 Po rfl (by decide) (by omega) (.slice A s.nodes.length c) s.nodes [x] A1 1 c1 (fun k => ok1 k ∨ w3.drew.heap.size ≤ k) (fun k => w3.drew.heap.size ≤ k) rfl rfl n14 (Kd.N_F ho4) ?hokp ?hfresh ?hB ?hbase ?hl ?_
 case hw => rfl
 case hokp => exact fun k hk => ⟨.inr hk, fun e => by have h3 := (Tj k e.symm).lt; have h4 := hb.size; have h5 : w3.drew.heap.size = w3.heap.size := rfl; omega⟩
 case hfresh => exact fun k hk => .inr (Nat.le_trans hb4.size hk)
 case hB => exact aA (aj HB3) hb4
 case hbase => exact Nat.le_trans (aj HB3).size hb4.size
 case hl => omega
 intro v2 w5 ho5 hB5 hg5 aly; obtain ⟨A2, c2, e2⟩ := Kd.rC ho5
 obtain ⟨L, hL⟩ : ∃ L, L = (s.nodes ++ [x]).length := ⟨_, rfl⟩
 rw [← hL] at e2; subst e2; rw [List.length_append, List.length_singleton] at hL; have HL := af.mk hL; clear hL; have vU := fQ Bt hg5 (fun e => ne1 g e rfl); have Nv := fQ IV hg5 (fun e => by have := (Tj _ e.symm).lt; omega); refine hK.out _ _ ⟨(ak vU 0).trans rfl, (ak Nv 0).trans rfl, (ak Nv 1).trans rfl, (ak Nv 2).trans rfl, (ak Nv 3).trans rfl⟩ (fun hHeld => ?_); clear hK K; refine gN (a' := ?_) ?_ ?_; rotate_left
 ·show Act.put _ (some 12) _ = _; simp only [Act.put, List.setIfInBounds_toArray, List.set_cons_zero, List.set_cons_succ, aU, aV]; rfl
 refine bT (i := 8) (N := some 13) (v := ?_) (a' := ?_) #[true, true, true, true, true, true, true, true, true, false, false] rfl rfl (bB HT_.out (by kernel_rfl)) (fun _ _ _ h => h) (Or.inl ⟨by rfl, ?_⟩) ?_ ?_; rotate_left
 ·intro w'; go_simp; with_reducible rfl
 rotate_left
 ·simp only [Act.put, List.setIfInBounds_toArray, List.set_cons_zero, List.set_cons_succ, aU, aV]; rfl
 refine bT (i := 9) (N := some 14) (v := ?_) (a' := ?_) #[true, true, true, true, true, true, true, true, true, true, false] rfl rfl (bB HT_.out (by kernel_rfl)) (fun _ _ _ h => h) (Or.inl ⟨by rfl, ?_⟩) ?_ ?_; rotate_left
 ·intro w'; go_simp; with_reducible rfl
 rotate_left
 ·simp only [Act.put, List.setIfInBounds_toArray, List.set_cons_zero, List.set_cons_succ, aU, aV]; rfl
 refine qg (i := 10) (N := none) #[true, true, true, true, true, true, true, true, true, true, true] rfl rfl (fI HT_.out (by kernel_rfl)) (by decide) (fun K hK => ?_); have aid : w5.cell? ⟨g, 0, none⟩ = some (.slice A s.nodes.length c) := (ak vU 0).trans rfl; have aie := au vU 0; refine yN (w1 := ?_) (by rfl) rfl ?_ ?_; rotate_left
 ·go_simp; rfl
 refine hK.out _ _ ?_; clear hK K; refine mY (jA HT_.out (by kernel_rfl)) ?_
 have nI : (w5.setCell ⟨g, 0, none⟩ (.slice A2 L c2)).heap[g]? = some (.cells #[.slice A2 L c2, vi, vo] 89 (0, 0)) := by simpa using jN vU 0 (.slice A2 L c2)
 have aif : (w5.setCell ⟨g, 0, none⟩ (.slice A2 L c2)).cell? ⟨g, 0, none⟩ = some (.slice A2 L c2) := (ak nI 0).trans rfl; have alz := au nI 0; go_wp2; go_ret; have hL := HL.out; have sz3 : w.heap.size ≤ w3.heap.size := hb.size; have sz4 : w3.heap.size ≤ w4.heap.size := hb4.size; have sz5 : w4.heap.size ≤ w5.heap.size := hg5.size
 have F : ∀ k, k < w.heap.size → k ≠ g → some k ≠ (Value.slice A s.nodes.length c).ownBlock → (w5.setCell ⟨g, 0, none⟩ (.slice A2 L c2)).heap[k]? = w.heap[k]? := fun k hk hkg hkr =>
  (Below.heap_setCell w5 ⟨g, 0, none⟩ _ k hkg).trans ((hg5.block k (by omega) hkr).trans ((hb4.block k (by show k < w3.heap.size; omega)).trans (hb.block k hk)))
 have F2 : ∀ k, k < w.heap.size → ¬ TB w 89 k → ¬ TB w 92 k → (w5.setCell ⟨g, 0, none⟩ (.slice A2 L c2)).heap[k]? = w.heap[k]? := fun k hk h89 h92 =>
  F k hk (fun e => h89 (e ▸ ⟨_, YB⟩)) (fun e => h92 (Tj k e.symm))
 have PT : ∀ k, (TB w 94 k ∨ (TB w 3 k ∧ k < nb)) → k < w.heap.size ∧ ¬ TB w 89 k ∧ ¬ TB w 92 k := fun k e => by
  rcases e with e | ⟨e, _⟩
  ·exact ⟨e.lt, fun h => absurd (h.uniq e) (by decide), fun h => absurd (h.uniq e) (by decide)⟩
  ·exact ⟨e.lt, fun h => absurd (h.uniq e) (by decide), fun h => absurd (h.uniq e) (by decide)⟩
 have PM : ∀ k, (TB w 94 k ∨ (TB w 3 k ∧ k < nb)) → (TB (w5.setCell ⟨g, 0, none⟩ (.slice A2 L c2)) 94 k ∨ (TB (w5.setCell ⟨g, 0, none⟩ (.slice A2 L c2)) 3 k ∧ k < nb)) := fun k e => by
  obtain ⟨p1, p2, p3⟩ := PT k e; have q := F2 k p1 p2 p3; exact e.imp (·.keep q) (fun e => ⟨e.1.keep q, e.2⟩)
 have sz6 : (w5.setCell ⟨g, 0, none⟩ (.slice A2 L c2)).heap.size = w5.heap.size := by simp
 have YE : some g ≠ (Value.slice A2 L c2).ownBlock := Kd.aig ho5 vU (by decide); refine ⟨?_, ?_, ?_, ?_⟩
 ·have e : IntKind.i64.wrap ((L : Int) - 1) = (s.nodes.length : Int) := by
   rw [aU]; unfold wrap64; omega
  have e' : wrap64 ((L : Int) - 1) = (s.nodes.length : Int) := by unfold wrap64; omega
  first | (simp only [e]; rfl) | (simp only [e']; rfl) | rfl
 ·refine ⟨h1, by omega, .slice A2 L c2, vi, vo, fun k => some k = (Value.slice A2 L c2).ownBlock, ok2, ok3, nI, ?_, ?_, ?_, ?_, ?_, ?_⟩
  ·exact Kd.vT (Ns ho5) (fun k hk _ => Below.heap_setCell w5 ⟨g, 0, none⟩ _ k (fun e => YE (by rw [← hk]; exact congrArg some e.symm)))
  ·exact Kd.jr n2 (fun k hk _ => by obtain ⟨p1, p2, p3⟩ := PT k (t2 k hk).1; exact F2 k p1 p2 p3)
  ·exact Kd.jr n3 (fun k hk _ => by obtain ⟨p1, p2, p3⟩ := PT k (t3 k hk).1; exact F2 k p1 p2 p3)
  ·intro k hk; obtain ⟨cells, hc⟩ := Kd.Tk ho5 k hk.symm; exact ⟨cells, (Below.heap_setCell w5 ⟨g, 0, none⟩ _ k (fun e => YE (by rw [← hk]; exact congrArg some e.symm))).trans hc⟩
  ·exact fun k hk => ⟨PM k (t2 k hk).1, (t2 k hk).2⟩
  ·exact fun k hk => ⟨PM k (t3 k hk).1, (t3 k hk).2⟩
 ·exact ay hB5 h1
 ·exact ⟨by omega, fun k hk hs => F2 k hk (fun e => hs (.inl e)) (fun e => hs (.inr (.inl e)))⟩
end Go.Proofs.Ytkgeihbcikiedaa.P
set_option linter.unusedVariables false
set_option linter.unusedSimpArgs false
set_option linter.constructorNameAsVariable false
set_option linter.unusedSectionVars false
namespace Go.Proofs.Ytkgeihbcikiedaa.P
open Go.RowKit Go.Proofs.YtkgeihbcikiedaaW.PrintWords Go.Proofs.YtkgeihbcikiedaaW.PrintLast Go.Proofs.YtkgeihbcikiedaaW.PrintMore
attribute [local go_sem] eU eX fU fV dX dY eZ fo
def ug (s : BSt) (x : S92) : Option (Int × BSt) := if s.nodes.length < 1000000 then some ((s.nodes.length : Int), { s with nodes := s.nodes ++ [x] }) else none
theorem mZ (nb g : Nat) (s : BSt) (x0 x1 x2 x3 : Int) (r1 : Int) (r2 : BSt) (w0 w : World) (hI : BS w0 w nb g s) (hB : Below w0.heap.size w0 w) (h : ug s ⟨x0, x1, x2, x3⟩ = some (r1, r2)) :
 Calls Try.prog 37 #[.pointer (some ⟨g, 0, none⟩), .agg #[.int .i64 x0, .int .i64 x1, .int .i64 x2, .int .i64 x3]] w fun e w' => e = .returned (.int .i64 r1) ∧ BS w0 w' nb g r2 ∧ Below w0.heap.size w0 w' ∧ KB w w' g := by
 unfold ug at h
 split at h
 case isFalse => cases h
 cases h; exact Nu nb g s ⟨x0, x1, x2, x3⟩ w0 w hI hB (by assumption)
def o7.f (s : BSt) (a1 : Int) (a2 : Int) : Option (Int × BSt) := ug s ⟨4, a1, a2, 0⟩
set_option maxHeartbeats 8000000 in
set_option maxRecDepth 100000 in
theorem o7.calls (nb g : Nat) (s : BSt) (a1 : Int) (a2 : Int) (r1 : Int) (r2 : BSt) (w0 w : World) (hI : BS w0 w nb g s) (hB : Below w0.heap.size w0 w) (h : o7.f s a1 a2 = some (r1, r2)) :
 Calls Try.prog 43 #[.pointer (some ⟨g, 0, none⟩), .int .i64 a1, .int .i64 a2] w fun e w' => e = .returned (.int .i64 r1) ∧ BS w0 w' nb g r2 ∧ Below w0.heap.size w0 w' ∧ KB w w' g := by
 have HI := af.mk hI; have HB := af.mk hB; have HH := af.mk (show ug s ⟨4, a1, a2, 0⟩ = some (r1, r2) from h); clear hI hB h
 go_enter Try.func43, Try.ntmps43
 go_wp2_with (go_at_call 37; with_reducible refine (mZ nb g s 4 a1 a2 0 r1 r2 w0 _ HI.out HB.out HH.out).mono ?_; rintro e w1 ⟨rfl, hi, hb, hk⟩; have HI2 := af.mk hi; have HB2 := af.mk hb; have HK2 := af.mk hk; clear hi hb hk); go_ret; exact ⟨rfl, HI2.out, HB2.out, HK2.out⟩
def nM.f (s : BSt) (a1 : Int) (a2 : Int) : Option (Int × BSt) := ug s ⟨3, a1, a2, 0⟩
set_option maxHeartbeats 8000000 in
set_option maxRecDepth 100000 in
theorem nM.calls (nb g : Nat) (s : BSt) (a1 : Int) (a2 : Int) (r1 : Int) (r2 : BSt) (w0 w : World) (hI : BS w0 w nb g s) (hB : Below w0.heap.size w0 w) (h : nM.f s a1 a2 = some (r1, r2)) :
 Calls Try.prog 66 #[.pointer (some ⟨g, 0, none⟩), .int .i64 a1, .int .i64 a2] w fun e w' => e = .returned (.int .i64 r1) ∧ BS w0 w' nb g r2 ∧ Below w0.heap.size w0 w' ∧ KB w w' g := by
 have HI := af.mk hI; have HB := af.mk hB; have HH := af.mk (show ug s ⟨3, a1, a2, 0⟩ = some (r1, r2) from h); clear hI hB h
 go_enter Try.func66, Try.ntmps66
 go_wp2_with (go_at_call 37; with_reducible refine (mZ nb g s 3 a1 a2 0 r1 r2 w0 _ HI.out HB.out HH.out).mono ?_; rintro e w1 ⟨rfl, hi, hb, hk⟩; have HI2 := af.mk hi; have HB2 := af.mk hb; have HK2 := af.mk hk; clear hi hb hk); go_ret; exact ⟨rfl, HI2.out, HB2.out, HK2.out⟩
def qE.f (s : BSt) (a1 : Int) (a2 : Int) : Option (Int × BSt) := ug s ⟨5, a1, a2, 0⟩
set_option maxHeartbeats 8000000 in
set_option maxRecDepth 100000 in
theorem qE.calls (nb g : Nat) (s : BSt) (a1 : Int) (a2 : Int) (r1 : Int) (r2 : BSt) (w0 w : World) (hI : BS w0 w nb g s) (hB : Below w0.heap.size w0 w) (h : qE.f s a1 a2 = some (r1, r2)) :
 Calls Try.prog 95 #[.pointer (some ⟨g, 0, none⟩), .int .i64 a1, .int .i64 a2] w fun e w' => e = .returned (.int .i64 r1) ∧ BS w0 w' nb g r2 ∧ Below w0.heap.size w0 w' ∧ KB w w' g := by
 have HI := af.mk hI; have HB := af.mk hB; have HH := af.mk (show ug s ⟨5, a1, a2, 0⟩ = some (r1, r2) from h); clear hI hB h
 go_enter Try.func95, Try.ntmps95
 go_wp2_with (go_at_call 37; with_reducible refine (mZ nb g s 5 a1 a2 0 r1 r2 w0 _ HI.out HB.out HH.out).mono ?_; rintro e w1 ⟨rfl, hi, hb, hk⟩; have HI2 := af.mk hi; have HB2 := af.mk hb; have HK2 := af.mk hk; clear hi hb hk); go_ret; exact ⟨rfl, HI2.out, HB2.out, HK2.out⟩
def qF.f (s : BSt) (a1 : Int) : Option (Int × BSt) := ug s ⟨2, a1, 0, 0⟩
set_option maxHeartbeats 8000000 in
set_option maxRecDepth 100000 in
theorem qF.calls (nb g : Nat) (s : BSt) (a1 : Int) (r1 : Int) (r2 : BSt) (w0 w : World) (hI : BS w0 w nb g s) (hB : Below w0.heap.size w0 w) (h : qF.f s a1 = some (r1, r2)) :
 Calls Try.prog 65 #[.pointer (some ⟨g, 0, none⟩), .int .i64 a1] w fun e w' => e = .returned (.int .i64 r1) ∧ BS w0 w' nb g r2 ∧ Below w0.heap.size w0 w' ∧ KB w w' g := by
 have HI := af.mk hI; have HB := af.mk hB; have HH := af.mk (show ug s ⟨2, a1, 0, 0⟩ = some (r1, r2) from h); clear hI hB h
 go_enter Try.func65, Try.ntmps65
 go_wp2_with (go_at_call 37; with_reducible refine (mZ nb g s 2 a1 0 0 r1 r2 w0 _ HI.out HB.out HH.out).mono ?_; rintro e w1 ⟨rfl, hi, hb, hk⟩; have HI2 := af.mk hi; have HB2 := af.mk hb; have HK2 := af.mk hk; clear hi hb hk); go_ret; exact ⟨rfl, HI2.out, HB2.out, HK2.out⟩
end Go.Proofs.Ytkgeihbcikiedaa.P
set_option linter.unusedVariables false
set_option linter.unusedSimpArgs false
set_option linter.constructorNameAsVariable false
set_option linter.unusedSectionVars false
namespace Go.Proofs.Ytkgeihbcikiedaa.P
open Go.RowKit Go.Proofs.YtkgeihbcikiedaaW.PrintWords Go.Proofs.YtkgeihbcikiedaaW.PrintLast Go.Proofs.YtkgeihbcikiedaaW.PrintMore
attribute [local go_sem] eU eX fU fV dX dY eZ fo
def eQ.f (l : List Int) : Option (List Int) := if l.length < 1000000 then some l else none
set_option maxHeartbeats 8000000 in
set_option maxRecDepth 100000 in
theorem eQ.calls (A : Option Addr) (c : Nat) (l r : List Int) (w : World) (hr : Kd.C (Kd.int .i64) w A l.length l) (hc : l.length ≤ c) (h : eQ.f l = some r) :
 Calls Try.prog 38 #[.slice A l.length c] w fun e w' => ∃ v, e = .returned v ∧ Kd.R (Kd.int .i64) 3 w' w.heap.size (fun _ => True) v r ∧ Below w.heap.size w w' := by
 unfold eQ.f at h
 split at h
 case isFalse => cases h
 rename_i hl; cases h; have HR := af.mk hr; have HC := af.mk hc; clear hr hc; have HB := af.mk (Below.refl w.heap.size w)
 cases A with
 | none =>
  have h0 : l = [] := by
   have := HR.out.2.2
   cases l with
   | nil => rfl
   | cons a l => obtain ⟨ad, e, _⟩ := this (by simp); cases e
  subst h0
  have he : ∀ w : World, (binOp .eql 44 (.slice none 0 c) (.slice none 0 0)).run Try.prog w = .ok (.bool true) w := fun _ => rfl
  go_enter Try.func38, Try.ntmps38
  go_wp2; go_ret; exact ⟨_, rfl, Kd.qd _ _ _ _ _, HB.out⟩
 | some ad =>
  have he : ∀ w : World, (binOp .eql 44 (.slice (some ad) l.length c) (.slice none 0 0)).run Try.prog w = .ok (.bool false) w := fun _ => rfl
  go_enter Try.func38, Try.ntmps38
  go_wp2_with (first | ((with_reducible refine bS (N := 5) rfl ?_); refine Kd.oz (Kd.int .i64) _ 3 ?hg (N := 5) ?hd (xs := ([] : List Int)) (inner := []) (ok := fun _ => True) (okp := fun _ => True) ?hr ?hp (fun _ hk => hk) trivial (Below.refl _ _) (Nat.le_refl _) (by simp) ?_; (case hd => rfl); (case hg => rfl); (case hr => first | (go_simp; done) | (go_simp; rfl)); (case hp => exact (eF.none _ _)); intro v1 w1 ho hb hg_ hnew_; have HO := af.mk ho; have HB1 := af.mk hb; clear ho hb hg_ hnew_) | ((with_reducible refine gy (b := .append) (xs := #[.tmp 5, .tmp 6]) rfl ?_); at_builtin; refine Kd.rY (Kd.int .i64) (Rr := fun x cs => cs = [.int .i64 x]) (w0 := w) w.heap.size rfl (.tmp 5) (.tmp 6) 44 3 (.int .i64 0) 8 rfl Try.underlying44 info3 rfl (by decide) (by omega) v1 [] l (some ad) l.length c (fun _ => True) (fun _ => False) rfl rfl HO.out (Kd.bR HR.out HB1.out) (fun _ _ h => h) (fun _ h => h.elim) (fun _ _ => trivial) HB1.out HB1.out.size (by simp; omega) ?_; intro v2 w2 ho2 hb2 hg2 Pq; have HO2 := af.mk ho2; have HB2 := af.mk hb2; clear ho2 hb2 hg2 Pq)); go_ret; exact ⟨_, rfl, HO2.out, HB2.out⟩
end Go.Proofs.Ytkgeihbcikiedaa.P
set_option linter.unusedVariables false
set_option linter.unusedSimpArgs false
set_option linter.constructorNameAsVariable false
set_option linter.unusedSectionVars false
namespace Go.Proofs.Ytkgeihbcikiedaa.P
open Go.RowKit Go.Proofs.YtkgeihbcikiedaaW.PrintWords Go.Proofs.YtkgeihbcikiedaaW.PrintLast Go.Proofs.YtkgeihbcikiedaaW.PrintMore
attribute [local go_sem] eU eX fU fV dX dY eZ fo
theorem BS.new {w0 W : World} {nb : Nat} {g : Nat} (hb : W.heap[g]? = some (.cells #[.slice none 0 0, .slice none 0 0, .slice none 0 0] 89 (0, 0))) (hg : w0.heap.size ≤ g) (hn : nb ≤ W.heap.size) : BS w0 W nb g ⟨[], [], []⟩ :=
 ⟨hg, hn, .slice none 0 0, .slice none 0 0, .slice none 0 0, fun _ => False, fun _ => False, fun _ => False, hb, Kd.Ps _ _ _ _ _, Kd.qd _ _ _ _ _, Kd.qd _ _ _ _ _, fun _ h => h.elim, fun _ h => h.elim, fun _ h => h.elim⟩
set_option maxHeartbeats 8000000 in
set_option maxRecDepth 100000 in
theorem Nw.calls (w0 w : World) (hB : Below w0.heap.size w0 w) :
 Calls Try.prog 13 #[] w fun e w' => ∃ g, e = .returned (.pointer (some ⟨g, 0, none⟩)) ∧ BS w0 w' w'.heap.size g ⟨[], [], []⟩ ∧ Below w0.heap.size w0 w' ∧ Below w.heap.size w w' := by
 have HB := af.mk hB; have HBw := af.mk (Below.refl w.heap.size w); clear hB
 go_enter Try.func13, Try.ntmps13
 go_wp2; go_ret; exact ⟨w.heap.size, rfl, BS.new (by simpa using heap_alloc_new w _) HB.out.size (Nat.le_refl _), ai HB.out _, ai HBw.out _⟩
end Go.Proofs.Ytkgeihbcikiedaa.P
set_option linter.unusedVariables false
set_option linter.unusedSimpArgs false
set_option linter.constructorNameAsVariable false
set_option linter.unusedSectionVars false
namespace Go.Proofs.Ytkgeihbcikiedaa.P
open Go.RowKit Go.Proofs.YtkgeihbcikiedaaW.PrintWords Go.Proofs.YtkgeihbcikiedaaW.PrintLast Go.Proofs.YtkgeihbcikiedaaW.PrintMore
attribute [local go_sem] eU eX fU fV dX dY eZ fo
def acd : List Nat := [0, 0, 2, 6, 14, 0, 0, 64, 224, 480, 1006, 2047, 4095, 8191]
noncomputable def WA : Bool × List (List Nat × List Nat) := iZ .any (opsOf Try.f17 0)
theorem Tm : iZ .any (opsOf Try.f17 0) = WA := rfl
theorem Pt : ji WA.2 acd = true := by kernel_rfl
def mf.f (s : BSt) (nm : ByteArray) (l : List Int) : Option BSt := if l.length < 1000000 ∧ s.outs.length < 1000000 then some { s with outs := s.outs ++ [⟨nm, l⟩] } else none
set_option maxHeartbeats 8000000 in
set_option maxRecDepth 100000 in
theorem mf.calls (nb g : Nat) (s : BSt) (nm : ByteArray) (A : Option Addr) (c : Nat) (l : List Int) (r2 : BSt) (w0 w : World) (hI : BS w0 w nb g s) (hB : Below w0.heap.size w0 w) (hr : Kd.C (Kd.int .i64) w A l.length l) (hc : l.length ≤ c) (h : mf.f s nm l = some r2) :
 Calls Try.prog 17 #[.pointer (some ⟨g, 0, none⟩), .string nm, .slice A l.length c] w fun e w' => e = .returned (.tuple #[]) ∧ BS w0 w' w'.heap.size g r2 ∧ Below w0.heap.size w0 w' ∧ KB w w' g := by
 unfold mf.f at h
 split at h
 case isFalse => cases h
 rename_i hl; cases h; have HF := af.mk (show eQ.f l = some l by unfold eQ.f; rw [if_pos hl.1]); have HL := af.mk hl.2; have HI := af.mk hI; have HB := af.mk hB; have HR := af.mk hr; have HC := af.mk hc; clear hB hr hc hl; have acb := Try.underlying89; have lg := hI.lt; obtain ⟨h1, h2, vn, vi, vo, ok1, ok2, ok3, hb0, n1, n2, n3, t1, t2, t3⟩ := hI; obtain ⟨Ao, co, rfl⟩ := Kd.bQ n3
 go_enter Try.func17, Try.ntmps17
 refine mF (n := 14) (S := fun w' => w'.cell? ⟨g, 2, none⟩ = some (.slice Ao s.outs.length co)) (ds := [13]) #[false, false, false, false, false, false, false, false, false, false, false, false, false, false] (by kernel_rfl) rfl rfl ((ak (aH hb0) 2).trans rfl) (fun hHeld => ?_); refine gW Tm Pt (fun HT_ HW_ => ?_); refine bT (i := 0) (N := some 6) (v := ?_) (a' := ?_) #[true, false, false, false, false, false, false, false, false, false, false, false, false, false] rfl rfl (bB HT_.out (by kernel_rfl)) (fun _ _ _ h => h) (Or.inl ⟨by rfl, ?_⟩) ?_ ?_; rotate_left
 ·intro w'; go_simp; with_reducible rfl
 rotate_left
 ·simp only [Act.put, List.setIfInBounds_toArray, List.set_cons_zero, List.set_cons_succ, aU, aV]; rfl
 refine bT (i := 1) (N := some 7) (v := ?_) (a' := ?_) #[true, true, false, false, false, false, false, false, false, false, false, false, false, false] rfl rfl (bB HT_.out (by kernel_rfl)) (fun _ _ _ h => h) (Or.inl ⟨by rfl, ?_⟩) ?_ ?_; rotate_left
 ·intro w'; go_simp; with_reducible rfl
 rotate_left
 ·simp only [Act.put, List.setIfInBounds_toArray, List.set_cons_zero, List.set_cons_succ, aU, aV]; rfl
 refine bT (i := 2) (N := some 8) (v := ?_) (a' := ?_) #[true, true, true, false, false, false, false, false, false, false, false, false, false, false] rfl rfl (bB HT_.out (by kernel_rfl)) (fun _ _ _ h => h) (Or.inl ⟨by rfl, ?_⟩) ?_ ?_; rotate_left
 ·intro w'; go_simp; with_reducible rfl
 rotate_left
 ·simp only [Act.put, List.setIfInBounds_toArray, List.set_cons_zero, List.set_cons_succ, aU, aV]; rfl
 refine bT (i := 3) (N := some 9) (v := ?_) (a' := ?_) #[true, true, true, true, false, false, false, false, false, false, false, false, false, false] rfl rfl (bB HT_.out (by kernel_rfl)) (fun _ _ _ h => h) (Or.inl ⟨by rfl, ?_⟩) ?_ ?_; rotate_left
 ·intro w'; go_simp; with_reducible rfl
 rotate_left
 ·simp only [Act.put, List.setIfInBounds_toArray, List.set_cons_zero, List.set_cons_succ, aU, aV]; rfl
 refine iq (i := 4) (N := some 10) (v := ?_) (a' := ?_) #[true, true, true, true, true, false, false, false, false, false, false, false, false, false] rfl rfl (eB HT_.out HW_.out (by kernel_rfl)) (fun _ _ _ h => h) (Or.inl ⟨by rfl, ?_⟩) hHeld ?_ ?_; rotate_left
 ·intro w' s0; go_simp; with_reducible rfl
 rotate_left
 ·simp only [Act.put, List.setIfInBounds_toArray, List.set_cons_zero, List.set_cons_succ, aU, aV]; rfl
 refine bT (i := 5) (N := some 11) (v := ?_) (a' := ?_) #[true, true, true, true, true, true, false, false, false, false, false, false, false, false] rfl rfl (bB HT_.out (by kernel_rfl)) (fun _ _ _ h => h) (Or.inl ⟨by rfl, ?_⟩) ?_ ?_; rotate_left
 ·intro w'; go_simp; with_reducible rfl
 rotate_left
 ·simp only [Act.put, List.setIfInBounds_toArray, List.set_cons_zero, List.set_cons_succ, aU, aV]; rfl
 refine bT (i := 6) (N := some 12) (v := ?_) (a' := ?_) #[true, true, true, true, true, true, true, false, false, false, false, false, false, false] rfl rfl (bB HT_.out (by kernel_rfl)) (fun _ _ _ h => h) (Or.inl ⟨by rfl, ?_⟩) ?_ ?_; rotate_left
 ·intro w'; go_simp; with_reducible rfl
 rotate_left
 ·simp only [Act.put, List.setIfInBounds_toArray, List.set_cons_zero, List.set_cons_succ, aU, aV]; rfl
 refine jy (i := 7) (N := some 13) #[true, true, true, true, true, true, true, true, false, false, false, false, false, false] rfl rfl (fI HT_.out (by kernel_rfl)) (by decide) (fun K hK => ?_); refine ng Try.func38 (by kernel_rfl) rfl #[.slice A l.length c] (by rfl) rfl rfl (by (try simp only [List.map_toArray, List.map_cons, List.map_nil]); first | done | rfl) ?_; refine (eQ.calls A c l l _ (Kd.bR HR.out (gT (Below.refl _ _))) HC.out HF.out).mono ?_; rintro e w4 ⟨vc, rfl, hRc, hb4⟩; refine ⟨_, rfl, ?_⟩; have Bt := bP (aH hb0) hb4; refine hK.out _ _ ((ak Bt 2).trans rfl) (fun hHeld => ?_); clear hK K; refine gN (a' := ?_) ?_ ?_; rotate_left
 ·show Act.put _ (some 13) _ = _; simp only [Act.put, List.setIfInBounds_toArray, List.set_cons_zero, List.set_cons_succ, aU, aV]; rfl
 obtain ⟨Ac, cc, rfl⟩ := Kd.bQ hRc; refine bT (i := 8) (N := some 14) (v := ?_) (a' := ?_) #[true, true, true, true, true, true, true, true, true, false, false, false, false, false] rfl rfl (bB HT_.out (by kernel_rfl)) (fun _ _ _ h => h) (Or.inl ⟨by rfl, ?_⟩) ?_ ?_; rotate_left
 ·intro w'; go_simp; with_reducible rfl
 rotate_left
 ·simp only [Act.put, List.setIfInBounds_toArray, List.set_cons_zero, List.set_cons_succ, aU, aV]; rfl
 refine jy (i := 9) (N := some 15) #[true, true, true, true, true, true, true, true, true, true, false, false, false, false] rfl rfl (fI HT_.out (by kernel_rfl)) (by decide) (fun K hK => ?_)
 refine Kd.jS (Kd.raw 2) _ 94 ?hg (N := 15) ?hd (xs := [[Value.string nm, Value.slice Ac l.length cc]]) (inner := [Value.string nm, Value.slice Ac l.length cc]) (ok := fun k => w4.heap.size ≤ k) (okp := fun k => w4.heap.size ≤ k) ?hr ?hp (fun _ hk => hk) (Nat.le_refl _) (Below.refl _ _) (Nat.le_refl _) (by simp) ?_; (case hd => rfl); (case hg => rfl); (case hr => first | (go_simp; done) | (go_simp; rfl)); (case hp => exact ⟨rfl, fun j p hj => by
  rcases j with _ | j
  ·simp only [List.getElem?_cons_zero, Option.some.injEq] at hj; subst hj; exact ⟨rfl, rfl, fun u hu => by
    have hu : u ∈ [Value.string nm, Value.slice Ac l.length cc] := hu
    have hu : u = Value.string nm ∨ u = Value.slice Ac l.length cc := by simpa using hu
    rcases hu with rfl | rfl <;> rfl⟩
  ·simp at hj⟩)
 intro v5 w5 ho5 hb5 hg5 hn5; have vU := bP Bt hb5; refine hK.out _ _ ((ak vU 2).trans rfl) (fun hHeld => ?_); clear hK K; refine gN (a' := ?_) ?_ ?_; rotate_left
 ·show Act.put _ (some 15) _ = _; simp only [Act.put, List.setIfInBounds_toArray, List.set_cons_zero, List.set_cons_succ, aU, aV]; rfl
 obtain ⟨A5, c5, rfl⟩ := Kd.bQ ho5; refine jy (i := 10) (N := some 16) #[true, true, true, true, true, true, true, true, true, true, true, false, false, false] rfl rfl (fI HT_.out (by kernel_rfl)) (by decide) (fun K hK => ?_); have szd : w.drew.heap.size = w.heap.size := rfl
 have aih : ∀ k, (Value.slice Ao s.outs.length co).ownBlock = some k → k < w.heap.size := fun k hk => by
  rcases (t3 k (n3.1 k hk)).1 with e | ⟨e, _⟩
  ·exact e.lt
  ·exact e.lt
 refine Kd.gV k94 (Rr := fun x cs => x = ⟨nm, l⟩ ∧ cs = [Value.string nm, Value.slice Ac l.length cc]) (w0 := w0) w0.heap.size ?hw (.tmp 10) (.tmp 15) 53 94 (.agg #[(.string ⟨#[]⟩), (.slice none 0 0)]) 40 rfl Try.underlying53 yO rfl (by decide) (by omega) (.slice Ao s.outs.length co) s.outs [⟨nm, l⟩] A5 1 c5 (fun k => ok3 k ∨ w.heap.size ≤ k) (fun k => some k = (Value.slice Ac l.length cc).ownBlock) rfl rfl ?HO ?HRR ?hKM ?hokp ?hfresh ?hB ?hbase ?hl ?_
 case hw => rfl
 case HO => exact Kd.eG (Kd.dE (Kd.dE (Kd.bn n3) hb4) hb5) (fun _ h => .inl h)
 case HRR =>
  obtain ⟨_, _, hC⟩ := Kd.bY ho5; refine ⟨rfl, by omega, fun hp => ?_⟩; obtain ⟨ad, e, hcx⟩ := hC.2.2 hp; refine ⟨ad, e, fun j p hj => ?_⟩
  rcases j with _ | j
  ·obtain ⟨cs, c1, ⟨c2, _, _⟩, c3⟩ := hcx 0 _ rfl; simp only [List.getElem?_cons_zero, Option.some.injEq] at hj; exact ⟨cs, c1, ⟨hj.symm, c2⟩, c3⟩
  ·simp at hj
 case hKM =>
  rintro x cs ⟨rfl, rfl⟩; exact De w5 w0.heap.size _ ⟨nm, l⟩ (Kd.kR rfl (Kd.fA (Kd.dE hRc hb5) HB.out.size))
 case hokp =>
  intro k hk; have hb := Kd.iN hRc k hk.symm; exact ⟨.inr hb, fun e => by have := aih k e.symm; omega⟩
 case hfresh => exact fun k hk => .inr (Nat.le_trans hb4.size (Nat.le_trans hb5.size hk))
 case hB => exact aA (aA (aj HB.out) hb4) hb5
 case hbase => exact Nat.le_trans HB.out.size (Nat.le_trans hb4.size hb5.size)
 case hl => have := HL.out; omega
 intro v6 w6 ho6 hB6 hg6 Tp
 have neg : ∀ k, some k = (Value.slice Ao s.outs.length co).ownBlock → k ≠ g := fun k hk e => by
  subst e
  rcases (t3 k (n3.1 k hk.symm)).1 with e | ⟨e, _⟩
  ·exact absurd (e.uniq ⟨_, hb0⟩) (by decide)
  ·exact absurd (e.uniq ⟨_, hb0⟩) (by decide)
 have nI := fQ vU hg6 (fun e => neg g e rfl); refine hK.out _ _ ((ak nI 2).trans rfl) (fun hHeld => ?_); clear hK K; refine gN (a' := ?_) ?_ ?_; rotate_left
 ·show Act.put _ (some 16) _ = _; simp only [Act.put, List.setIfInBounds_toArray, List.set_cons_zero, List.set_cons_succ, aU, aV]; rfl
 obtain ⟨A6, c6, e6⟩ := Kd.bQ ho6
 obtain ⟨L, hL⟩ : ∃ L, L = (s.outs ++ [(⟨nm, l⟩ : S94)]).length := ⟨_, rfl⟩
 rw [← hL] at e6; subst e6; have HLL := af.mk hL; clear hL; refine bT (i := 11) (N := some 17) (v := ?_) (a' := ?_) #[true, true, true, true, true, true, true, true, true, true, true, true, false, false] rfl rfl (bB HT_.out (by kernel_rfl)) (fun _ _ _ h => h) (Or.inl ⟨by rfl, ?_⟩) ?_ ?_; rotate_left
 ·intro w'; go_simp; with_reducible rfl
 rotate_left
 ·simp only [Act.put, List.setIfInBounds_toArray, List.set_cons_zero, List.set_cons_succ, aU, aV]; rfl
 refine bT (i := 12) (N := some 18) (v := ?_) (a' := ?_) #[true, true, true, true, true, true, true, true, true, true, true, true, true, false] rfl rfl (bB HT_.out (by kernel_rfl)) (fun _ _ _ h => h) (Or.inl ⟨by rfl, ?_⟩) ?_ ?_; rotate_left
 ·intro w'; go_simp; with_reducible rfl
 rotate_left
 ·simp only [Act.put, List.setIfInBounds_toArray, List.set_cons_zero, List.set_cons_succ, aU, aV]; rfl
 refine qg (i := 13) (N := none) #[true, true, true, true, true, true, true, true, true, true, true, true, true, true] rfl rfl (fI HT_.out (by kernel_rfl)) (by decide) (fun K hK => ?_); have aid : w6.cell? ⟨g, 2, none⟩ = some (.slice Ao s.outs.length co) := (ak nI 2).trans rfl; have aie := au nI 2; refine yN (w1 := ?_) (by rfl) rfl ?_ ?_; rotate_left
 ·go_simp; rfl
 refine hK.out _ _ ?_; clear hK K; refine mY (jA HT_.out (by kernel_rfl)) ?_; refine Go.bodyPost_end (Go.results_none rfl _ _ _) rfl ?_; have hL := HLL.out; have sz4 : w.heap.size ≤ w4.heap.size := hb4.size; have sz5 : w4.heap.size ≤ w5.heap.size := hb5.size; have sz6 : w5.heap.size ≤ w6.heap.size := hg6.size
 have sz7 : (w6.setCell ⟨g, 2, none⟩ (.slice A6 L c6)).heap.size = w6.heap.size := by simp
 have F : ∀ k, k < w.heap.size → k ≠ g → some k ≠ (Value.slice Ao s.outs.length co).ownBlock → (w6.setCell ⟨g, 2, none⟩ (.slice A6 L c6)).heap[k]? = w.heap[k]? := fun k hk hkg hkr =>
  (Below.heap_setCell w6 ⟨g, 2, none⟩ _ k hkg).trans ((hg6.block k (by omega) hkr).trans ((hb5.block k (by omega)).trans (hb4.block k hk)))
 have YF : (w6.setCell ⟨g, 2, none⟩ (.slice A6 L c6)).heap[g]? = some (.cells #[vn, vi, .slice A6 L c6] 89 (0, 0)) := by simpa using jN nI 2 (.slice A6 L c6)
 have YE : some g ≠ (Value.slice A6 L c6).ownBlock := Kd.mI ho6 nI (by decide)
 have ty3 : ∀ k, some k = (Value.slice Ao s.outs.length co).ownBlock → TB w 94 k := fun k hk => Kd.iY n3 k hk.symm
 have F2 : ∀ k, k < w.heap.size → ¬ TB w 89 k → ¬ some k = (Value.slice Ao s.outs.length co).ownBlock → (w6.setCell ⟨g, 2, none⟩ (.slice A6 L c6)).heap[k]? = w.heap[k]? := fun k hk h89 hne =>
  F k hk (fun e => h89 (e ▸ ⟨_, hb0⟩)) hne
 have neq : ∀ k, TB w 92 k → k < w.heap.size ∧ ¬ TB w 89 k ∧ ¬ some k = (Value.slice Ao s.outs.length co).ownBlock := fun k e => ⟨e.lt, fun h => absurd (h.uniq e) (by decide), fun h => absurd ((ty3 k h).uniq e) (by decide)⟩
 have YG : ∀ k, ok2 k → k < w.heap.size ∧ ¬ TB w 89 k ∧ ¬ some k = (Value.slice Ao s.outs.length co).ownBlock := fun k hk => by
  obtain ⟨e, e2⟩ := t2 k hk
  rcases e with e | ⟨e, _⟩
  ·exact ⟨e.lt, fun h => absurd (h.uniq e) (by decide), e2⟩
  ·exact ⟨e.lt, fun h => absurd (h.uniq e) (by decide), e2⟩
 have kE : k94.E = [3] := rfl; refine ⟨rfl, ⟨h1, Nat.le_refl _, vn, vi, .slice A6 L c6, ok1, ok2, fun k => (ok3 k ∨ w.heap.size ≤ k) ∧ w0.heap.size ≤ k ∧ k < w6.heap.size ∧ ∃ q, q ∈ 94 :: k94.E ∧ ∃ cells, w6.heap[k]? = some (.cells cells q (0, 0)), YF, ?_, ?_, ?_, ?_, ?_, ?_⟩, ay hB6 h1, ⟨by omega, fun k hk hs => ?_⟩⟩
 ·exact Kd.vT n1 (fun k hk _ => by obtain ⟨p1, p2, p3⟩ := neq k (t1 k hk); exact F2 k p1 p2 p3)
 ·exact Kd.jr n2 (fun k hk _ => by obtain ⟨p1, p2, p3⟩ := YG k hk; exact F2 k p1 p2 p3)
 ·refine Kd.jr (Kd.gP ho6) (fun k hk _ => Below.heap_setCell w6 ⟨g, 2, none⟩ _ k (fun e => ?_)); obtain ⟨_, _, _, q, hq, cells, hcx⟩ := hk; rw [kE] at hq; rw [e, nI] at hcx; injection hcx with hcx; injection hcx with _ hcx; subst hcx
  revert hq; decide
 ·intro k hk; obtain ⟨p1, p2, p3⟩ := neq k (t1 k hk); exact (t1 k hk).keep (F2 k p1 p2 p3)
 ·intro k hk; obtain ⟨p1, p2, p3⟩ := YG k hk; refine ⟨(t2 k hk).1.imp (·.keep (F2 k p1 p2 p3)) (fun e => ⟨e.1.keep (F2 k p1 p2 p3), by omega⟩), fun e => ?_⟩
  rcases Tp with h | ⟨b, h, hb⟩
  ·exact p3 (e.trans h)
  ·rw [h] at e; injection e with e; omega
 ·rintro k ⟨hk1, hk2, hk3, q, hq, cells, hcx⟩
  have hkg : k ≠ g := fun e => by
   rw [kE] at hq; rw [e, nI] at hcx; injection hcx with hcx; injection hcx with _ hcx; subst hcx
   revert hq; decide
  have tb : TB (w6.setCell ⟨g, 2, none⟩ (.slice A6 L c6)) q k := ⟨cells, (Below.heap_setCell w6 ⟨g, 2, none⟩ _ k hkg).trans hcx⟩
  rw [kE] at hq; simp only [List.mem_cons, List.not_mem_nil, or_false] at hq; refine ⟨by rcases hq with rfl | rfl; exact .inl tb; exact .inr ⟨tb, by omega⟩, fun e => ?_⟩
  rcases hk1 with h | h
  ·exact (t3 k h).2 e
  ·have hv := n2.1 k e.symm; have := (YG k hv).1; omega
 ·exact F2 k hk (fun e => hs (.inl e)) (fun e => hs (.inr (.inr (ty3 k e))))
end Go.Proofs.Ytkgeihbcikiedaa.P
