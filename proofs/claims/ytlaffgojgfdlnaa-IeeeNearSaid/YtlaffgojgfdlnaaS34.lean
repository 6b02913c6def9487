import Derived.Test.YtlaffgojgfdlnaaS31
import Derived.Test.YtlaffgojgfdlnaaN57
import Derived.Test.YtlaffgojgfdlnaaPx0
import Derived.Deep.LoopGhost
set_option linter.unusedVariables false
set_option linter.unusedSimpArgs false
set_option linter.constructorNameAsVariable false
set_option linter.unusedSectionVars false
namespace Go.Proofs.Ytlaffgojgfdlnaa.P
open Go.RowKit Go.Proofs.YtlaffgojgfdlnaaW.PrintWords Go.Proofs.YtlaffgojgfdlnaaW.PrintLast Go.Proofs.YtlaffgojgfdlnaaW.PrintMore
attribute [local go_sem] max2_int min2_int max_two min_two max_three min_three max_four min_four
theorem info36 : (Try.prog.info? 36).map (fun i => (i.zero, i.size, i.bytes)) = some (some (.agg #[(.bool false), (.slice none 0 0), (.int .i64 0)]), 3, 40) := by kernel_rfl
/-! #### struct type 36 -/
structure S36 where
  f0 : Bool
  f1 : (List Int)
  f2 : Int
def z36 : S36 := ⟨false, ([] : List Int), (0 : Int)⟩
def k36 : Kd S36 := Kd.iso (Kd.pair Kd.bool (Kd.pair (Kd.slice 89 (Kd.int .u32)) (Kd.int .i64))) (fun x : S36 => (x.f0, x.f1, x.f2))
theorem k36_open {w : World} {x : S36} {cs : List Value} (h : k36.K w x cs) : ∃ A1 c1, cs = [.bool x.f0, .slice A1 x.f1.length c1, .int .i64 x.f2] ∧ x.f1.length ≤ c1 ∧ (Kd.int .u32).C w A1 x.f1.length x.f1 := by
  obtain ⟨_, _, rfl, rfl, ⟨_, _, rfl, ⟨A1, c1, rfl, l1, g1⟩, rfl⟩⟩ := h
  exact ⟨A1, c1, rfl, l1, g1⟩
theorem k36_mk (w : World) (x : S36) {A1 : Option Addr} {c1 : Nat} (l1 : x.f1.length ≤ c1) (g1 : (Kd.int .u32).C w A1 x.f1.length x.f1) : k36.K w x [.bool x.f0, .slice A1 x.f1.length c1, .int .i64 x.f2] := ⟨[.bool x.f0], [.slice A1 x.f1.length c1, .int .i64 x.f2], rfl, rfl, ⟨[.slice A1 x.f1.length c1], [.int .i64 x.f2], rfl, ⟨A1, c1, rfl, l1, g1⟩, rfl⟩⟩
theorem k36_openF {W : World} {ok : Nat → Prop} {x : S36} {cs : List Value} (h : Kd.FK k36 W ok x cs) : ∃ A1 c1, cs = [.bool x.f0, .slice A1 x.f1.length c1, .int .i64 x.f2] ∧ x.f1.length ≤ c1 ∧ Kd.F (Kd.int .u32) W ok A1 x.f1.length x.f1 := by
  obtain ⟨A1, c1, rfl, l1, _⟩ := k36_open (Kd.FK_now h)
  exact ⟨A1, c1, rfl, l1, (fun W' hW => by obtain ⟨A1_, c1_, he, l1_, g1_⟩ := k36_open (h W' hW); injection (Option.some.inj (show some (Value.slice A1 x.f1.length c1) = some (Value.slice A1_ x.f1.length c1_) from congrArg (fun l => l[1]?) he)) with ha_ _ _; rw [ha_]; exact g1_)⟩
theorem k36_mkF (W : World) (ok : Nat → Prop) (x : S36) {A1 : Option Addr} {c1 : Nat} (l1 : x.f1.length ≤ c1) (g1 : Kd.F (Kd.int .u32) W ok A1 x.f1.length x.f1) : Kd.FK k36 W ok x [.bool x.f0, .slice A1 x.f1.length c1, .int .i64 x.f2] := fun W2 hW => k36_mk W2 x l1 (g1 W2 hW)
def rd_T36 (xs : List S36) (i : Int) : S36 := xs.getD i.toNat z36
theorem at_T36 {w : World} {A : Option Addr} {n : Nat} {xs : List S36} (h : Kd.C k36 w A n xs) (i : Int) (h0 : 0 ≤ i) (h1 : i < n) : ∃ ad A1 c1, A = some ad ∧ w.cell? (ad.add (i.toNat * 3)) = some (.bool (rd_T36 xs i).f0) ∧ w.cell? ⟨(ad.add (i.toNat * 3)).block, (ad.add (i.toNat * 3)).off + 1, none⟩ = some (.slice A1 (rd_T36 xs i).f1.length c1) ∧ w.cell? ⟨(ad.add (i.toNat * 3)).block, (ad.add (i.toNat * 3)).off + 2, none⟩ = some (.int .i64 (rd_T36 xs i).f2) ∧ (rd_T36 xs i).f1.length ≤ c1 ∧ (Kd.int .u32).C w A1 (rd_T36 xs i).f1.length (rd_T36 xs i).f1 := by
  obtain ⟨ad, c, e, _, hK, hc0⟩ := Kd.C_get h z36 i h0 h1
  have hc : ∀ j u, c[j]? = some u → w.cell? (ad.add (i.toNat * 3 + j)) = some u := hc0
  obtain ⟨A1, c1, rfl, l1, g1⟩ := k36_open hK
  exact ⟨ad, A1, c1, e, hc 0 _ rfl, by rw [← add_field _ _ 1 (by omega)]; exact hc 1 _ rfl, by rw [← add_field _ _ 2 (by omega)]; exact hc 2 _ rfl, l1, g1⟩


/-! ### format's Value, as the print tells it -/
open Go.Proofs.Ytlaffgojgfdlnaa.N Go.Proofs.Ytlaffgojgfdlnaa.A Sk Dy in
def format_Form_Value.f (k : Nat) (p0 p1 p2 b : Int) : Option (Bool × List Int × Int × Int) :=
  if (p0 = 16 ∧ p1 = 11 ∧ p2 = 5 ∨ p0 = 32 ∧ p1 = 24 ∧ p2 = 8 ∨ p0 = 64 ∧ p1 = 53 ∧ p2 = 11) ∧ 0 ≤ b ∧ b < 18446744073709551616 then
    some ((Fm.val ⟨p1.toNat, p2.toNat⟩ b.toNat).1.neg, parts (Fm.val ⟨p1.toNat, p2.toNat⟩ b.toNat).1.n, (Fm.val ⟨p1.toNat, p2.toNat⟩ b.toNat).1.e, (Fm.val ⟨p1.toNat, p2.toNat⟩ b.toNat).2) else none
theorem format_Form_Value.mono : ∀ a0 a1 a2 a3 k, LeO (format_Form_Value.f k a0 a1 a2 a3) (format_Form_Value.f (k + 1) a0 a1 a2 a3) := fun _ _ _ _ _ => LeO.refl _
open Go.Proofs.Ytlaffgojgfdlnaa.N Go.Proofs.Ytlaffgojgfdlnaa.A Sk Dy in
theorem format_Form_Value.calls (k : Nat) (a0_0 : Int) (a0_1 : Int) (a0_2 : Int) (a1 : Int) (r1 : Bool) (r2 : List Int) (r3 : Int) (r4 : Int) (w : World) (h : format_Form_Value.f k a0_0 a0_1 a0_2 a1 = some (r1, r2, r3, r4)) :
    Calls Try.prog 17 #[.agg #[.int .i64 a0_0, .int .i64 a0_1, .int .i64 a0_2], .int .u64 a1] w fun e w' => ∃ v1_ : Value, e = .returned (.tuple #[.agg #[.bool r1, v1_, .int .i64 r3], .int .i64 r4]) ∧ Kd.V (Kd.int .u32) 89 w' w.heap.size (fun k_ => (w.heap.size ≤ k_)) v1_ r2 ∧ Below w.heap.size w w' := by
  unfold format_Form_Value.f at h
  split at h
  case isFalse => cases h
  rename_i hc
  obtain ⟨hp, hb0, hb1⟩ := hc
  obtain ⟨b, rfl⟩ : ∃ b : Nat, a1 = b := ⟨a1.toNat, by omega⟩
  obtain ⟨f, hf, ok, e0, e1, e2⟩ : ∃ f : Fm, f = ⟨a0_1.toNat, a0_2.toNat⟩ ∧ f.ok ∧ a0_0 = ((f.p + f.w : Nat) : Int) ∧ a0_1 = ((f.p : Nat) : Int) ∧ a0_2 = ((f.w : Nat) : Int) := by
    rcases hp with ⟨rfl, rfl, rfl⟩ | ⟨rfl, rfl, rfl⟩ | ⟨rfl, rfl, rfl⟩
    · exact ⟨⟨11, 5⟩, rfl, .inl rfl, rfl, rfl, rfl⟩
    · exact ⟨⟨24, 8⟩, rfl, .inr (.inl rfl), rfl, rfl, rfl⟩
    · exact ⟨⟨53, 11⟩, rfl, .inr (.inr rfl), rfl, rfl, rfl⟩
  rw [← hf, Int.toNat_natCast] at h
  cases h
  rw [e0, e1, e2]
  have s := (fval_snd ok (b := b) (by omega)).2 w (fun _ => False) [.agg #[.int .i64 ((f.p + f.w : Nat) : Int), .int .i64 ((f.p : Nat) : Int), .int .i64 ((f.w : Nat) : Int)], .int .u64 ((b : Nat) : Int)] ⟨⟨_, rfl, rfl, rfl, rfl, trivial⟩, rfl, trivial⟩
  refine s.mono ?_
  rintro e w' ⟨v, rfl, hv, hb⟩
  obtain ⟨arr, rfl, hv⟩ := hv
  obtain ⟨l, rfl⟩ : ∃ l : List Value, arr = l.toArray := ⟨arr.toList, by simp⟩
  have hv : REs [] (fun k => False ∨ w.heap.size ≤ k) w' [.g (dA (f.val b).1), .a (iA (f.val b).2)] l := by simpa using hv
  match l, hv with
  | [x, y], ⟨⟨arr2, hx, hR⟩, hy, _⟩ =>
    obtain ⟨l2, rfl⟩ : ∃ l : List Value, arr2 = l.toArray := ⟨arr2.toList, by simp⟩
    have hR : Rs [] (fun k => False ∨ w.heap.size ≤ k) w' (dA (f.val b).1) l2 := by simpa using hR
    match l2, hR with
    | [x1, x2, x3], ⟨h1, h2, h3, _⟩ =>
      have h1 : x1 = .bool (f.val b).1.neg := h1
      have h3 : x3 = .int .i64 (f.val b).1.e := h3
      have hy : y = .int .i64 (f.val b).2 := hy
      subst h1; subst h3; subst hy; subst hx
      exact ⟨x2, rfl, Kd.V_mono (show Kd.V (Kd.int .u32) 0 w' 0 _ x2 _ from h2) (fun k hk => Or.elim hk False.elim id), hb⟩
    | [], h => exact h.elim
    | [_], h => exact h.2.elim
    | [_, _], h => exact h.2.2.elim
    | _ :: _ :: _ :: _ :: _, h => exact h.2.2.2.elim
  | [], h => exact h.elim
  | [_], h => exact h.2.elim
  | _ :: _ :: _ :: _, h => exact h.2.2.elim
/-! ### slipsticklaw05_finite: function 13 -/
def slipsticklaw05_finite.l0 : Nat → List (S36) → List Int → Int → Int → Int → Int → Int → Option ((List (S36)) × Bool)
  | 0, _, _, _, _, _, _, _ => none
  | k + 1, x6, x11, x12, x13, x397000, x397001, x397002 => if x13 < x12 then (if 0 ≤ x13 then (if x13 < (x11.length : Int) then ((format_Form_Value.f k x397000 x397001 x397002 (rd x11 x13)).bind fun bt398 => (if bt398.2.2.2 = 0 then (if x6.length < 3518437208883 then (slipsticklaw05_finite.l0 k (x6 ++ [(⟨bt398.1, bt398.2.1, bt398.2.2.1⟩ : S36)]) x11 x12 (wrap64 (x13 + 1)) x397000 x397001 x397002) else (none)) else (some (([] : List (S36)), false)))) else (none)) else (none)) else (some (x6, true))
def slipsticklaw05_finite.f (k : Nat) (a0_0 : Int) (a0_1 : Int) (a0_2 : Int) (l1 : List Int) : Option ((List (S36)) × Bool) := slipsticklaw05_finite.l0 k ([] : List (S36)) l1 (l1.length : Int) 0 a0_0 a0_1 a0_2
theorem slipsticklaw05_finite.mono_l : ∀ k, (∀ y0 y1 y2 y3 y4 y5 y6, LeO (slipsticklaw05_finite.l0 k y0 y1 y2 y3 y4 y5 y6) (slipsticklaw05_finite.l0 (k + 1) y0 y1 y2 y3 y4 y5 y6))
  | 0 => fun _ _ _ _ _ _ _ r h => by simp [slipsticklaw05_finite.l0] at h
  | k + 1 => by
    have ih0 := slipsticklaw05_finite.mono_l k
    · intro y0 y1 y2 y3 y4 y5 y6
      unfold slipsticklaw05_finite.l0
      repeat' first
      | (with_reducible exact ih0 _ _ _ _ _ _ _)
      | (with_reducible exact format_Form_Value.mono _ _ _ _ _)
      | (with_reducible exact LeO.refl _)
      | (with_reducible exact LeO.none _)
      | (with_reducible refine LeO.ite ?_ ?_)
      | (with_reducible refine LeO.bind ?_ (fun _ => ?_))
      | exact ih0 _ _ _ _ _ _ _
      | exact format_Form_Value.mono _ _ _ _ _
      | exact LeO.none _
      | refine LeO.ite ?_ ?_
      | refine LeO.bind ?_ (fun _ => ?_)
theorem slipsticklaw05_finite.mono : ∀ a0 a1 a2 a3 k, LeO (slipsticklaw05_finite.f k a0 a1 a2 a3) (slipsticklaw05_finite.f (k + 1) a0 a1 a2 a3) := by
  intro a0 a1 a2 a3 k
  have ih0 := slipsticklaw05_finite.mono_l k
  unfold slipsticklaw05_finite.f
  repeat' first
      | (with_reducible exact ih0 _ _ _ _ _ _ _)
      | (with_reducible exact format_Form_Value.mono _ _ _ _ _)
      | (with_reducible exact LeO.refl _)
      | (with_reducible exact LeO.none _)
      | (with_reducible refine LeO.ite ?_ ?_)
      | (with_reducible refine LeO.bind ?_ (fun _ => ?_))
      | exact ih0 _ _ _ _ _ _ _
      | exact format_Form_Value.mono _ _ _ _ _
      | exact LeO.none _
      | refine LeO.ite ?_ ?_
      | refine LeO.bind ?_ (fun _ => ?_)
set_option maxHeartbeats 8000000 in
set_option maxRecDepth 100000 in
theorem slipsticklaw05_finite.calls (k : Nat) (a0_0 : Int) (a0_1 : Int) (a0_2 : Int) (A1 : Option Addr) (c1 : Nat) (l1 : List Int) (r1 : List (S36)) (r2 : Bool) (w : World) (hr1 : Kd.C (Kd.int .u64) w A1 l1.length l1) (hc1 : l1.length ≤ c1) (h : slipsticklaw05_finite.f k a0_0 a0_1 a0_2 l1 = some (r1, r2)) :
    Calls Try.prog 13 #[.agg #[.int .i64 a0_0, .int .i64 a0_1, .int .i64 a0_2], .slice A1 l1.length c1] w fun e w' => ∃ v0_ : Value, e = .returned (.tuple #[v0_, .bool r2]) ∧ Kd.N k36 36 w' w.heap.size (fun k_ => (w.heap.size ≤ k_)) v0_ r1 ∧ Below w.heap.size w w' := by
  have hu25 := Try.underlying25
  have hu36 := Try.underlying36
  have HR1 := Aside0.mk hr1
  have HC1 := Aside0.mk hc1
  clear hr1 hc1
  have HB := Aside0.mk (Below.refl w.heap.size w)
  have H : (slipsticklaw05_finite.l0 k ([] : List (S36)) l1 (l1.length : Int) 0 a0_0 a0_1 a0_2) = some (r1, r2) := h
  clear h
  have H' := Aside0.mk H
  clear H
  go_enter Try.func13, Try.ntmps13
  go_wp2_with (first | ((with_reducible refine gate_dst (N := 2) rfl ?_); refine box_event ?hg (N := 2) ?hd (cs := #[.int .i64 a0_0, .int .i64 a0_1, .int .i64 a0_2]) (t := 25) ?hr ?_; (case hd => rfl); (case hg => rfl); (case hr => first | (go_simp; done) | (go_simp; rfl)); intro gb396 hg w3 hbox hb; have n0_ := Aside0.mk (below_step (by repeat (first | (with_reducible first | exact HB.out | apply below_alloc | apply pw_below_drewN | apply below_drew1) | exact HB.out)) hb); have n1_ := Aside0.mk (hbox); have n2_ := Aside0.mk ((by rw [hg]; exact (below_size (by repeat (first | (with_reducible first | exact HB.out | apply below_alloc | apply pw_below_drewN | apply below_drew1) | exact HB.out))) : w.heap.size ≤ gb396)); have n3_ := Aside0.mk ((by rw [hg]; exact (below_size (by repeat (first | (with_reducible first | exact HB.out | apply below_alloc | apply pw_below_drewN | apply below_drew1) | exact HB.out))) : w.heap.size ≤ gb396)); clear HB; have HB := n0_; have BK396 := n1_; have GW396 := n2_; have GE396 := n3_; clear n0_ n1_ n2_ n3_; clear hb hbox hg))
  go_loopg [6, 13] k (fun kq v6 v13 w' => ∃ (x6_1 : List (S36)) (x13_1 : Int), v13 = .int .i64 x13_1 ∧ Aside0 (slipsticklaw05_finite.l0 kq x6_1 l1 (l1.length : Int) x13_1 a0_0 a0_1 a0_2 = some (r1, r2)) ∧ Aside0 (kq ≤ k) ∧ Aside0 (Kd.N k36 36 w' w.heap.size (fun k_ => (w.heap.size ≤ k_) ∧ k_ ≠ gb396) v6 x6_1) ∧ Aside0 (w'.heap[gb396]? = some (.cells #[.int .i64 a0_0, .int .i64 a0_1, .int .i64 a0_2] 25 (0, 0))) ∧ Aside0 (Below w.heap.size w w'))
  case atStart => exact ⟨(([] : List (S36))), (0), (by first | rfl | (simp; done) | (simp [*]; done) | (simp; omega)), H', ⟨Nat.le_refl _⟩, ⟨by first | exact Kd.S_nil _ _ _ _ _ | exact Kd.N_nil _ _ _ _ _ | exact Kd.V_nil _ _ _ _ _ | exact Kd.Q_nil _ _ _ _ _ | exact Kd.R_nil _ _ _ _ _⟩, ⟨by (with_reducible repeat (first | refine blk_drewN ?_ _ | refine blk_drew ?_ | refine blk_alloc ?_ _)); exact BK396.out⟩, ⟨by repeat (first | (with_reducible first | exact HB.out | apply below_alloc | apply pw_below_drewN | apply below_drew1 | refine below_set ?_ GE396.out) | exact HB.out)⟩⟩
  case round =>
    clear H'
    try clear c1
    try clear p2
    obtain ⟨x6_1, x13_1, rfl, HA, HK1, HO_6, BK396, HB⟩ := hrel
    cases gk with
    | zero => exact absurd HA.out (by simp [slipsticklaw05_finite.l0])
    | succ k1 =>
      have H := HA.out
      clear HA
      simp only [slipsticklaw05_finite.l0] at H
      by_cases c4 : x13_1 < (l1.length : Int)
      · rw [if_pos c4] at H
        have c4b0 : decide (x13_1 < (l1.length : Int)) = true := decide_eq_true c4
        clear c4
        by_cases c5 : 0 ≤ x13_1
        · rw [if_pos c5] at H
          have c5b0 : decide (0 ≤ x13_1) = true := decide_eq_true c5
          clear c5
          by_cases c6 : x13_1 < (l1.length : Int)
          · rw [if_pos c6] at H
            have c6b0 : decide (x13_1 < (l1.length : Int)) = true := decide_eq_true c6
            clear c6
            replace H := Option.bind_eq_some_iff.mp H
            obtain ⟨⟨t398, t399, t402, t403⟩, A70, H⟩ := H
            replace H : (if t403 = 0 then (if x6_1.length < 3518437208883 then (slipsticklaw05_finite.l0 k1 (x6_1 ++ [(⟨t398, t399, t402⟩ : S36)]) l1 (l1.length : Int) (wrap64 (x13_1 + 1)) a0_0 a0_1 a0_2) else (none)) else (some (([] : List (S36)), false))) = some (r1, r2) := H
            have A7 := Aside0.mk A70
            clear A70
            by_cases c8 : t403 = 0
            · rw [if_pos c8] at H
              have c8b0 : (t403 == 0) = true := beq_iff_eq.mpr c8
              have c8b1 : (t403 != 0) = false := bne_eq_false_iff_eq.mpr c8
              clear c8
              by_cases c9 : x6_1.length < 3518437208883
              · rw [if_pos c9] at H
                have LMc9 := Aside0.mk c9
                clear c9
                obtain ⟨y405, hy405⟩ : ∃ y_ : List (S36), y_ = (x6_1 ++ [(⟨t398, t399, t402⟩ : S36)]) := ⟨_, rfl⟩
                replace H : (slipsticklaw05_finite.l0 k1 y405 l1 (l1.length : Int) (wrap64 (x13_1 + 1)) a0_0 a0_1 a0_2) = some (r1, r2) := by first | (rw [hy405]; with_reducible exact H) | (have H2_ := (Option.bind_some _ _).symm.trans H; rw [hy405]; with_reducible exact H2_) | (have H2_ := (Option.bind_some _ _).symm.trans H; with_reducible exact H2_) | with_reducible exact H | (rw [hy405]; exact H) | exact H
                have Ny405 := Aside0.mk hy405
                clear hy405
                have H' := Aside0.mk H
                clear H
                have p397 : 0 ≤ (x13_1 : Int) := of_decide_eq_true (by first | (with_reducible assumption) | assumption)
                have q397 : x13_1 < (l1.length : Int) := of_decide_eq_true (by first | (with_reducible assumption) | assumption)
                obtain ⟨ad397, e397, hx397_0⟩ := Kd.at_int HR1.out x13_1 p397 q397
                cases e397
                replace hx397_0 := (HB.out.cell (World.block_lt_of_cell? w _ hx397_0)).trans hx397_0
                replace p397 := eq_true p397
                replace q397 := eq_true q397
                have hcz10_0 : wr.cell? ⟨gb396, 0, none⟩ = some (.int .i64 a0_0) := (blk_cell BK396.out 0).trans rfl
                have hcz10_1 : wr.cell? ⟨gb396, 1, none⟩ = some (.int .i64 a0_1) := (blk_cell BK396.out 1).trans rfl
                have hcz10_2 : wr.cell? ⟨gb396, 2, none⟩ = some (.int .i64 a0_2) := (blk_cell BK396.out 2).trans rfl
                have hfz10_0 := blk_frozen BK396.out 0
                have hfz10_1 := blk_frozen BK396.out 1
                have hfz10_2 := blk_frozen BK396.out 2
                go_wp2_with (first | ((with_reducible refine gate_callee (f := 17) rfl ?_); refine goesL_ (some 20) rfl rfl Try.func17 (by kernel_rfl) rfl #[.agg #[.int .i64 a0_0, .int .i64 a0_1, .int .i64 a0_2], .int .u64 (rd l1 x13_1)] rfl (by (try simp only [List.map_toArray, List.map_cons, List.map_nil]); first | done | rfl | (simp only [List.length_drop, List.length_take]; rfl)) ?_; (with_reducible refine (format_Form_Value.calls k1 a0_0 a0_1 a0_2 (rd l1 x13_1) t398 t399 t402 t403 _ A7.out).mono ?_); rintro e w11 ⟨v400, rfl, ho0, hb⟩; refine ⟨_, rfl, ?_⟩; have n0_ := Aside0.mk (Kd.N_below (by (with_reducible repeat (first | apply Kd.N_alloc | apply Kd.N_drewN | apply Kd.N_drew)); exact HO_6.out) hb); have n1_ := Aside0.mk (Kd.V_lower (Kd.V_mono (ok' := fun k_ => (w.heap.size ≤ k_) ∧ some k_ ≠ (u6 : Value).ownBlock ∧ k_ ≠ gb396) ho0 (fun k_ hk_ => ⟨(Nat.le_trans (below_size (by repeat (first | (with_reducible first | exact HB.out | apply below_alloc | apply pw_below_drewN | apply below_drew1 | refine below_set ?_ GE396.out) | exact HB.out))) hk_), (Kd.fresh' (Kd.N_lt (by (with_reducible repeat (first | apply Kd.N_alloc | apply Kd.N_drewN | apply Kd.N_drew)); exact HO_6.out)) k_ hk_), (Kd.freshB (g := gb396) (o := .cells #[.int .i64 a0_0, .int .i64 a0_1, .int .i64 a0_2] 25 (0, 0)) (by (with_reducible repeat (first | refine blk_drewN ?_ _ | refine blk_drew ?_ | refine blk_alloc ?_ _)); exact BK396.out) k_ hk_)⟩)) (below_size (by repeat (first | (with_reducible first | exact HB.out | apply below_alloc | apply pw_below_drewN | apply below_drew1 | refine below_set ?_ GE396.out) | exact HB.out)))); have n2_ := Aside0.mk (blk_below (g := gb396) (o := .cells #[.int .i64 a0_0, .int .i64 a0_1, .int .i64 a0_2] 25 (0, 0)) (by (with_reducible repeat (first | refine blk_drewN ?_ _ | refine blk_drew ?_ | refine blk_alloc ?_ _)); exact BK396.out) hb); have n3_ := Aside0.mk (below_step (by repeat (first | (with_reducible first | exact HB.out | apply below_alloc | apply pw_below_drewN | apply below_drew1 | refine below_set ?_ GE396.out) | exact HB.out)) hb); clear HO_6; clear BK396; clear HB; have HO_6 := n0_; have HO401 := n1_; have BK396 := n2_; have HB := n3_; clear n0_ n1_ n2_ n3_; (try clear hb); (try clear hb2); (try clear hk); (try clear hi); (try clear ho0)) | ((with_reducible refine gate_dst (N := 9) rfl ?_); refine box_event ?hg (N := 9) ?hd (cs := #[.bool false, .slice none 0 0, .int .i64 0]) (t := 36) ?hr ?_; (case hd => rfl); (case hg => rfl); (case hr => first | (go_simp; done) | (go_simp; rfl)); intro gb404 hg w12 hbox hb; have n0_ := Aside0.mk (Kd.N_below (Kd.N_elderB (by (with_reducible repeat (first | apply Kd.N_alloc | apply Kd.N_drewN | apply Kd.N_drew)); exact HO_6.out) gb404 (Nat.le_of_eq hg.symm)) hb); have n1_ := Aside0.mk (Kd.V_below (Kd.V_elderB (by (with_reducible repeat (first | apply Kd.V_alloc | apply Kd.V_drewN | apply Kd.V_drew)); exact HO401.out) gb404 (Nat.le_of_eq hg.symm)) hb); have n2_ := Aside0.mk (blk_below (g := gb396) (o := .cells #[.int .i64 a0_0, .int .i64 a0_1, .int .i64 a0_2] 25 (0, 0)) (by (with_reducible repeat (first | refine blk_drewN ?_ _ | refine blk_drew ?_ | refine blk_alloc ?_ _)); exact BK396.out) hb); have n3_ := Aside0.mk (below_step (by repeat (first | (with_reducible first | exact HB.out | apply below_alloc | apply pw_below_drewN | apply below_drew1 | refine below_set ?_ GE396.out) | exact HB.out)) hb); have n4_ := Aside0.mk (hbox); have n5_ := Aside0.mk ((by rw [hg]; exact (below_size (by repeat (first | (with_reducible first | exact HB.out | apply below_alloc | apply pw_below_drewN | apply below_drew1 | refine below_set ?_ GE396.out) | exact HB.out))) : w.heap.size ≤ gb404)); have n6_ := Aside0.mk ((by rw [hg]; exact (below_size (by repeat (first | (with_reducible first | exact HB.out | apply below_alloc | apply pw_below_drewN | apply below_drew1 | refine below_set ?_ GE396.out) | exact HB.out))) : w.heap.size ≤ gb404)); have n7_ := Aside0.mk ((by rw [hg]; exact Nat.ne_of_lt (blk_lt (g := gb396) (o := .cells #[.int .i64 a0_0, .int .i64 a0_1, .int .i64 a0_2] 25 (0, 0)) (by (with_reducible repeat (first | refine blk_drewN ?_ _ | refine blk_drew ?_ | refine blk_alloc ?_ _)); exact BK396.out)) : gb396 ≠ gb404)); have n8_ := Aside0.mk ((by rw [hg]; exact Nat.ne_of_gt (blk_lt (g := gb396) (o := .cells #[.int .i64 a0_0, .int .i64 a0_1, .int .i64 a0_2] 25 (0, 0)) (by (with_reducible repeat (first | refine blk_drewN ?_ _ | refine blk_drew ?_ | refine blk_alloc ?_ _)); exact BK396.out)) : gb404 ≠ gb396)); clear HO_6; clear HO401; clear BK396; clear HB; have HO_6 := n0_; have HO401 := n1_; have BK396 := n2_; have HB := n3_; have BK404 := n4_; have GW404 := n5_; have GE404 := n6_; have NB396_404 := n7_; have NB404_396 := n8_; clear n0_ n1_ n2_ n3_ n4_ n5_ n6_ n7_ n8_; clear hb hbox hg; have hnb13 := NB404_396.out; have hnc13 := NB396_404.out; have hcz14_0 : w12.cell? ⟨gb404, 0, none⟩ = some (.bool false) := (blk_cell BK404.out 0).trans rfl; have hcz14_1 : w12.cell? ⟨gb404, 1, none⟩ = some (.slice none 0 0) := (blk_cell BK404.out 1).trans rfl; have hcz14_2 : w12.cell? ⟨gb404, 2, none⟩ = some (.int .i64 0) := (blk_cell BK404.out 2).trans rfl; have hfz14_0 := blk_frozen BK404.out 0; have hfz14_1 := blk_frozen BK404.out 1; have hfz14_2 := blk_frozen BK404.out 2; obtain ⟨Ao15, co15, eo15⟩ := Kd.V_slice HO401.out; subst eo15) | ((with_reducible refine gate_store (t := 36) (p := 9) rfl ?_); refine store_event (t := 36) (p := 9) (v := ?vo_w16) (w1 := (((w12.setCell ⟨gb404, 0, none⟩ (.bool t398)).setCell ⟨gb404, 1, none⟩ (.slice Ao15 t399.length co15)).setCell ⟨gb404, 2, none⟩ (.int .i64 t402))) ?hg ?ho ?hn ?hr ?_; (case ho => rfl); (case hg => rfl); (case hn => rfl); (case hr => first | (go_simp; done) | (go_simp; rfl)); intro w16 hw; have n0_ : Aside0 (Kd.N k36 36 w16 w.heap.size (fun k_ => (w.heap.size ≤ k_) ∧ k_ ≠ gb396 ∧ k_ ≠ gb404) u6 x6_1) := ⟨(by rw [hw]; exact (by (with_reducible repeat (first | apply Kd.N_alloc | apply Kd.N_drewN | apply Kd.N_drew)); exact Kd.N_mono (Kd.N_far (p := ⟨gb404, 2, none⟩) (Kd.N_far (p := ⟨gb404, 1, none⟩) (Kd.N_far (p := ⟨gb404, 0, none⟩) (Kd.N_mono HO_6.out (fun k_ hk => (⟨hk, by first | exact hk.2 | exact hk.2.2 | exact hk.2.2.2 | exact hk.1.2 | exact hk.1.2.2 | exact hk.2.1 | exact hk.2.2.1⟩ : _ ∧ k_ ≠ gb404))) (fun _ hk => hk.2) (.bool t398)) (fun _ hk => hk.2) (.slice Ao15 t399.length co15)) (fun _ hk => hk.2) (.int .i64 t402)) (fun _ hk => ⟨hk.1.1.1, ⟨hk.1.1.2, hk.1.2⟩⟩)))⟩; have n1_ : Aside0 (Kd.V (Kd.int .u32) 89 w16 w.heap.size (fun k_ => (w.heap.size ≤ k_) ∧ some k_ ≠ (u6 : Value).ownBlock ∧ k_ ≠ gb396 ∧ k_ ≠ gb404) (.slice Ao15 t399.length co15) t399) := ⟨(by rw [hw]; exact (by (with_reducible repeat (first | apply Kd.V_alloc | apply Kd.V_drewN | apply Kd.V_drew)); exact Kd.V_mono (Kd.V_far (p := ⟨gb404, 2, none⟩) (Kd.V_far (p := ⟨gb404, 1, none⟩) (Kd.V_far (p := ⟨gb404, 0, none⟩) (Kd.V_mono HO401.out (fun k_ hk => (⟨hk, by first | exact hk.2 | exact hk.2.2 | exact hk.2.2.2 | exact hk.1.2 | exact hk.1.2.2 | exact hk.2.1 | exact hk.2.2.1⟩ : _ ∧ k_ ≠ gb404))) (fun _ hk => hk.2) (.bool t398)) (fun _ hk => hk.2) (.slice Ao15 t399.length co15)) (fun _ hk => hk.2) (.int .i64 t402)) (fun _ hk => ⟨hk.1.1.1, ⟨hk.1.1.2.1, ⟨hk.1.1.2.2, hk.1.2⟩⟩⟩)))⟩; have n2_ : Aside0 (w16.heap[gb396]? = some (.cells #[.int .i64 a0_0, .int .i64 a0_1, .int .i64 a0_2] 25 (0, 0))) := ⟨(by rw [hw]; exact (by (with_reducible repeat (first | refine blk_drewN ?_ _ | refine blk_drew ?_ | refine blk_alloc ?_ _)); refine blk_far ?_ NB396_404.out _; (with_reducible repeat (first | refine blk_drewN ?_ _ | refine blk_drew ?_ | refine blk_alloc ?_ _)); refine blk_far ?_ NB396_404.out _; (with_reducible repeat (first | refine blk_drewN ?_ _ | refine blk_drew ?_ | refine blk_alloc ?_ _)); refine blk_far ?_ NB396_404.out _; (with_reducible repeat (first | refine blk_drewN ?_ _ | refine blk_drew ?_ | refine blk_alloc ?_ _)); exact BK396.out))⟩; have n3_ : Aside0 (w16.heap[gb404]? = some (.cells #[.bool t398, .slice Ao15 t399.length co15, .int .i64 t402] 36 (0, 0))) := ⟨(by rw [hw]; exact (by (with_reducible repeat (first | refine blk_drewN ?_ _ | refine blk_drew ?_ | refine blk_alloc ?_ _)); refine blk_put (cs := #[.bool t398, .slice Ao15 t399.length co15, .int .i64 0]) ?_ 2 _ rfl; (with_reducible repeat (first | refine blk_drewN ?_ _ | refine blk_drew ?_ | refine blk_alloc ?_ _)); refine blk_put (cs := #[.bool t398, .slice none 0 0, .int .i64 0]) ?_ 1 _ rfl; (with_reducible repeat (first | refine blk_drewN ?_ _ | refine blk_drew ?_ | refine blk_alloc ?_ _)); refine blk_put (cs := #[.bool false, .slice none 0 0, .int .i64 0]) ?_ 0 _ rfl; (with_reducible repeat (first | refine blk_drewN ?_ _ | refine blk_drew ?_ | refine blk_alloc ?_ _)); exact BK404.out))⟩; have n4_ : Aside0 (Below w.heap.size w w16) := ⟨(by rw [hw]; exact (by repeat (first | (with_reducible first | exact HB.out | apply below_alloc | apply pw_below_drewN | apply below_drew1 | refine below_set ?_ GE396.out | refine below_set ?_ GE404.out) | exact HB.out)))⟩; clear hw; clear HO_6; clear HO401; clear BK396; clear BK404; clear HB; have HO_6 := n0_; have HO401 := n1_; have BK396 := n2_; have BK404 := n3_; have HB := n4_; clear n0_ n1_ n2_ n3_ n4_; have hcz17_0 : w16.cell? ⟨gb404, 0, none⟩ = some (.bool t398) := (blk_cell BK404.out 0).trans rfl; have hcz17_1 : w16.cell? ⟨gb404, 1, none⟩ = some (.slice Ao15 t399.length co15) := (blk_cell BK404.out 1).trans rfl; have hcz17_2 : w16.cell? ⟨gb404, 2, none⟩ = some (.int .i64 t402) := (blk_cell BK404.out 2).trans rfl; have hfz17_0 := blk_frozen BK404.out 0; have hfz17_1 := blk_frozen BK404.out 1; have hfz17_2 := blk_frozen BK404.out 2) | ((with_reducible refine gate_builtin (b := .append) (xs := #[.tmp 25, .tmp 27]) rfl ?_); at_builtin; refine Kd.N_append k36 (w0 := w) w.heap.size rfl (.tmp 25) (.tmp 27) 29 36 (.agg #[(.bool false), (.slice none 0 0), (.int .i64 0)]) 40 rfl Try.underlying29 info36 rfl (by decide) (by omega) u6 x6_1 (⟨t398, t399, t402⟩ : S36) [.bool t398, .slice Ao15 t399.length co15, .int .i64 t402] (fun k_ => (w.heap.size ≤ k_) ∧ k_ ≠ gb396 ∧ k_ ≠ gb404) (fun k_ => ((fun k_ => (w.heap.size ≤ k_) ∧ k_ ≠ gb396 ∧ k_ ≠ gb404)) k_ ∧ some k_ ≠ (u6 : Value).ownBlock) rfl rfl ?aP (fun _ hk => hk) ?aF ?aO ?aB ?aS ?aL ?_; (case aP => exact (k36_mkF _ _ (⟨t398, t399, t402⟩ : S36) (Kd.V_reads' (Kd.V_mono (ok' := (fun k_ => ((fun k_ => (w.heap.size ≤ k_) ∧ k_ ≠ gb396 ∧ k_ ≠ gb404)) k_ ∧ some k_ ≠ (u6 : Value).ownBlock)) (HO401.out) (fun k_ hk => ⟨⟨hk.1, ⟨hk.2.2.1, hk.2.2.2⟩⟩, hk.2.1⟩))).2.1 (Kd.V_F (Kd.V_mono (ok' := (fun k_ => ((fun k_ => (w.heap.size ≤ k_) ∧ k_ ≠ gb396 ∧ k_ ≠ gb404)) k_ ∧ some k_ ≠ (u6 : Value).ownBlock)) (HO401.out) (fun k_ hk => ⟨⟨hk.1, ⟨hk.2.2.1, hk.2.2.2⟩⟩, hk.2.1⟩))))); (case aB => exact (by repeat (first | (with_reducible first | exact HB.out | apply below_alloc | apply pw_below_drewN | apply below_drew1 | refine below_set ?_ GE396.out | refine below_set ?_ GE404.out) | exact HB.out))); (case aF => exact (fun k_ hk => ⟨(Nat.le_trans (below_size (by repeat (first | (with_reducible first | exact HB.out | apply below_alloc | apply pw_below_drewN | apply below_drew1 | refine below_set ?_ GE396.out | refine below_set ?_ GE404.out) | exact HB.out))) hk), Kd.freshB (g := gb396) (o := .cells #[.int .i64 a0_0, .int .i64 a0_1, .int .i64 a0_2] 25 (0, 0)) (by (with_reducible repeat (first | refine blk_drewN ?_ _ | refine blk_drew ?_ | refine blk_alloc ?_ _)); exact BK396.out) k_ hk, Kd.freshB (g := gb404) (o := .cells #[.bool t398, .slice Ao15 t399.length co15, .int .i64 t402] 36 (0, 0)) (by (with_reducible repeat (first | refine blk_drewN ?_ _ | refine blk_drew ?_ | refine blk_alloc ?_ _)); exact BK404.out) k_ hk⟩)); (case aO => exact (by (with_reducible repeat (first | apply Kd.N_alloc | apply Kd.N_drewN | apply Kd.N_drew)); exact HO_6.out)); (case aS => exact (below_size (by repeat (first | (with_reducible first | exact HB.out | apply below_alloc | apply pw_below_drewN | apply below_drew1 | refine below_set ?_ GE396.out | refine below_set ?_ GE404.out) | exact HB.out)))); (case aL => have := LMc9.out; omega); intro v406 w18 ho hb hg hat; rw [← Ny405.out] at ho; have n0_ := Aside0.mk (blk_grown (g := gb396) (o := .cells #[.int .i64 a0_0, .int .i64 a0_1, .int .i64 a0_2] 25 (0, 0)) (by (with_reducible repeat (first | refine blk_drewN ?_ _ | refine blk_drew ?_ | refine blk_alloc ?_ _)); exact BK396.out) hg (Kd.N_ne HO_6.out BK396.out (by decide))); have n1_ := Aside0.mk (Kd.V_afterv (ok := (fun k_ => (w.heap.size ≤ k_) ∧ k_ ≠ gb396 ∧ k_ ≠ gb404)) (by (with_reducible repeat (first | apply Kd.V_alloc | apply Kd.V_drewN | apply Kd.V_drew)); exact Kd.V_mono HO401.out (fun _ hk => ⟨⟨hk.1, ⟨hk.2.2.1, hk.2.2.2⟩⟩, hk.2.1⟩)) hg hat); have n2_ := Aside0.mk (blk_grown (g := gb404) (o := .cells #[.bool t398, .slice Ao15 t399.length co15, .int .i64 t402] 36 (0, 0)) (by (with_reducible repeat (first | refine blk_drewN ?_ _ | refine blk_drew ?_ | refine blk_alloc ?_ _)); exact BK404.out) hg (Kd.N_away HO_6.out (fun _ hk => hk.2.2))); have n3_ := Aside0.mk (hb); have n4_ := Aside0.mk (ho); clear BK396; clear HO401; clear BK404; clear HB; clear HO_6; have BK396 := n0_; have HO401 := n1_; have BK404 := n2_; have HB := n3_; have HO407 := n4_; clear n0_ n1_ n2_ n3_ n4_; clear ho hb hg hat))
                go_roundg k1
                case measure => have := HK1.out; omega
                case rel => exact ⟨(y405), (wrap64 (x13_1 + 1)), (by first | rfl | (simp; done) | (simp [*]; done) | (simp; omega)), H', ⟨by have := HK1.out; omega⟩, ⟨by (with_reducible repeat (first | apply Kd.N_alloc | apply Kd.N_drewN | apply Kd.N_drew)); exact Kd.N_mono HO407.out (fun _ hk => ⟨hk.1, hk.2.1⟩)⟩, ⟨by (with_reducible repeat (first | refine blk_drewN ?_ _ | refine blk_drew ?_ | refine blk_alloc ?_ _)); exact BK396.out⟩, ⟨by repeat (first | (with_reducible first | exact HB.out | apply below_alloc | apply pw_below_drewN | apply below_drew1 | refine below_set ?_ GE396.out | refine below_set ?_ GE404.out) | exact HB.out)⟩⟩
              · rw [if_neg c9] at H
                exact absurd H (by simp)
            · rw [if_neg c8] at H
              have c8b0 : (t403 == 0) = false := beq_eq_false_iff_ne.mpr c8
              have c8b1 : (t403 != 0) = true := bne_iff_ne.mpr c8
              simp only [Option.some.injEq, Prod.mk.injEq] at H
              obtain ⟨rfl, rfl⟩ := H
              have p397 : 0 ≤ (x13_1 : Int) := of_decide_eq_true (by first | (with_reducible assumption) | assumption)
              have q397 : x13_1 < (l1.length : Int) := of_decide_eq_true (by first | (with_reducible assumption) | assumption)
              obtain ⟨ad397, e397, hx397_0⟩ := Kd.at_int HR1.out x13_1 p397 q397
              cases e397
              replace hx397_0 := (HB.out.cell (World.block_lt_of_cell? w _ hx397_0)).trans hx397_0
              replace p397 := eq_true p397
              replace q397 := eq_true q397
              have hcz19_0 : wr.cell? ⟨gb396, 0, none⟩ = some (.int .i64 a0_0) := (blk_cell BK396.out 0).trans rfl
              have hcz19_1 : wr.cell? ⟨gb396, 1, none⟩ = some (.int .i64 a0_1) := (blk_cell BK396.out 1).trans rfl
              have hcz19_2 : wr.cell? ⟨gb396, 2, none⟩ = some (.int .i64 a0_2) := (blk_cell BK396.out 2).trans rfl
              have hfz19_0 := blk_frozen BK396.out 0
              have hfz19_1 := blk_frozen BK396.out 1
              have hfz19_2 := blk_frozen BK396.out 2
              go_wp2_with (first | ((with_reducible refine gate_callee (f := 17) rfl ?_); refine goesL_ (some 20) rfl rfl Try.func17 (by kernel_rfl) rfl #[.agg #[.int .i64 a0_0, .int .i64 a0_1, .int .i64 a0_2], .int .u64 (rd l1 x13_1)] rfl (by (try simp only [List.map_toArray, List.map_cons, List.map_nil]); first | done | rfl | (simp only [List.length_drop, List.length_take]; rfl)) ?_; (with_reducible refine (format_Form_Value.calls k1 a0_0 a0_1 a0_2 (rd l1 x13_1) t398 t399 t402 t403 _ A7.out).mono ?_); rintro e w20 ⟨v400, rfl, ho0, hb⟩; refine ⟨_, rfl, ?_⟩; have n0_ := Aside0.mk (Kd.N_below (by (with_reducible repeat (first | apply Kd.N_alloc | apply Kd.N_drewN | apply Kd.N_drew)); exact HO_6.out) hb); have n1_ := Aside0.mk (Kd.V_lower (Kd.V_mono (ok' := fun k_ => (w.heap.size ≤ k_) ∧ some k_ ≠ (u6 : Value).ownBlock ∧ k_ ≠ gb396) ho0 (fun k_ hk_ => ⟨(Nat.le_trans (below_size (by repeat (first | (with_reducible first | exact HB.out | apply below_alloc | apply pw_below_drewN | apply below_drew1 | refine below_set ?_ GE396.out) | exact HB.out))) hk_), (Kd.fresh' (Kd.N_lt (by (with_reducible repeat (first | apply Kd.N_alloc | apply Kd.N_drewN | apply Kd.N_drew)); exact HO_6.out)) k_ hk_), (Kd.freshB (g := gb396) (o := .cells #[.int .i64 a0_0, .int .i64 a0_1, .int .i64 a0_2] 25 (0, 0)) (by (with_reducible repeat (first | refine blk_drewN ?_ _ | refine blk_drew ?_ | refine blk_alloc ?_ _)); exact BK396.out) k_ hk_)⟩)) (below_size (by repeat (first | (with_reducible first | exact HB.out | apply below_alloc | apply pw_below_drewN | apply below_drew1 | refine below_set ?_ GE396.out) | exact HB.out)))); have n2_ := Aside0.mk (blk_below (g := gb396) (o := .cells #[.int .i64 a0_0, .int .i64 a0_1, .int .i64 a0_2] 25 (0, 0)) (by (with_reducible repeat (first | refine blk_drewN ?_ _ | refine blk_drew ?_ | refine blk_alloc ?_ _)); exact BK396.out) hb); have n3_ := Aside0.mk (below_step (by repeat (first | (with_reducible first | exact HB.out | apply below_alloc | apply pw_below_drewN | apply below_drew1 | refine below_set ?_ GE396.out) | exact HB.out)) hb); clear HO_6; clear BK396; clear HB; have HO_6 := n0_; have HO401 := n1_; have BK396 := n2_; have HB := n3_; clear n0_ n1_ n2_ n3_; (try clear hb); (try clear hb2); (try clear hk); (try clear hi); (try clear ho0)) | ((with_reducible refine gate_dst (N := 9) rfl ?_); refine box_event ?hg (N := 9) ?hd (cs := #[.bool false, .slice none 0 0, .int .i64 0]) (t := 36) ?hr ?_; (case hd => rfl); (case hg => rfl); (case hr => first | (go_simp; done) | (go_simp; rfl)); intro gb404 hg w21 hbox hb; have n0_ := Aside0.mk (Kd.N_below (Kd.N_elderB (by (with_reducible repeat (first | apply Kd.N_alloc | apply Kd.N_drewN | apply Kd.N_drew)); exact HO_6.out) gb404 (Nat.le_of_eq hg.symm)) hb); have n1_ := Aside0.mk (Kd.V_below (Kd.V_elderB (by (with_reducible repeat (first | apply Kd.V_alloc | apply Kd.V_drewN | apply Kd.V_drew)); exact HO401.out) gb404 (Nat.le_of_eq hg.symm)) hb); have n2_ := Aside0.mk (blk_below (g := gb396) (o := .cells #[.int .i64 a0_0, .int .i64 a0_1, .int .i64 a0_2] 25 (0, 0)) (by (with_reducible repeat (first | refine blk_drewN ?_ _ | refine blk_drew ?_ | refine blk_alloc ?_ _)); exact BK396.out) hb); have n3_ := Aside0.mk (below_step (by repeat (first | (with_reducible first | exact HB.out | apply below_alloc | apply pw_below_drewN | apply below_drew1 | refine below_set ?_ GE396.out) | exact HB.out)) hb); have n4_ := Aside0.mk (hbox); have n5_ := Aside0.mk ((by rw [hg]; exact (below_size (by repeat (first | (with_reducible first | exact HB.out | apply below_alloc | apply pw_below_drewN | apply below_drew1 | refine below_set ?_ GE396.out) | exact HB.out))) : w.heap.size ≤ gb404)); have n6_ := Aside0.mk ((by rw [hg]; exact (below_size (by repeat (first | (with_reducible first | exact HB.out | apply below_alloc | apply pw_below_drewN | apply below_drew1 | refine below_set ?_ GE396.out) | exact HB.out))) : w.heap.size ≤ gb404)); have n7_ := Aside0.mk ((by rw [hg]; exact Nat.ne_of_lt (blk_lt (g := gb396) (o := .cells #[.int .i64 a0_0, .int .i64 a0_1, .int .i64 a0_2] 25 (0, 0)) (by (with_reducible repeat (first | refine blk_drewN ?_ _ | refine blk_drew ?_ | refine blk_alloc ?_ _)); exact BK396.out)) : gb396 ≠ gb404)); have n8_ := Aside0.mk ((by rw [hg]; exact Nat.ne_of_gt (blk_lt (g := gb396) (o := .cells #[.int .i64 a0_0, .int .i64 a0_1, .int .i64 a0_2] 25 (0, 0)) (by (with_reducible repeat (first | refine blk_drewN ?_ _ | refine blk_drew ?_ | refine blk_alloc ?_ _)); exact BK396.out)) : gb404 ≠ gb396)); clear HO_6; clear HO401; clear BK396; clear HB; have HO_6 := n0_; have HO401 := n1_; have BK396 := n2_; have HB := n3_; have BK404 := n4_; have GW404 := n5_; have GE404 := n6_; have NB396_404 := n7_; have NB404_396 := n8_; clear n0_ n1_ n2_ n3_ n4_ n5_ n6_ n7_ n8_; clear hb hbox hg; have hnb22 := NB404_396.out; have hnc22 := NB396_404.out; have hcz23_0 : w21.cell? ⟨gb404, 0, none⟩ = some (.bool false) := (blk_cell BK404.out 0).trans rfl; have hcz23_1 : w21.cell? ⟨gb404, 1, none⟩ = some (.slice none 0 0) := (blk_cell BK404.out 1).trans rfl; have hcz23_2 : w21.cell? ⟨gb404, 2, none⟩ = some (.int .i64 0) := (blk_cell BK404.out 2).trans rfl; have hfz23_0 := blk_frozen BK404.out 0; have hfz23_1 := blk_frozen BK404.out 1; have hfz23_2 := blk_frozen BK404.out 2; obtain ⟨Ao24, co24, eo24⟩ := Kd.V_slice HO401.out; subst eo24))
              go_ret2
              exact ⟨_, by first | rfl | (simp [errW_none, errW_some] <;> rfl) | (simp [*, errW_none, errW_some] <;> rfl), by first | exact Kd.S_nil _ _ _ _ _ | exact Kd.N_nil _ _ _ _ _ | exact Kd.V_nil _ _ _ _ _ | exact Kd.Q_nil _ _ _ _ _ | exact Kd.R_nil _ _ _ _ _, by repeat (first | (with_reducible first | exact HB.out | apply below_alloc | apply pw_below_drewN | apply below_drew1 | refine below_set ?_ GE396.out | refine below_set ?_ GE404.out) | exact HB.out)⟩
          · rw [if_neg c6] at H
            exact absurd H (by simp)
        · rw [if_neg c5] at H
          exact absurd H (by simp)
      · rw [if_neg c4] at H
        have c4b0 : decide (x13_1 < (l1.length : Int)) = false := decide_eq_false c4
        clear c4
        simp only [Option.some.injEq, Prod.mk.injEq] at H
        obtain ⟨rfl, rfl⟩ := H
        go_wp2
        go_ret2
        exact ⟨_, by first | rfl | (simp [errW_none, errW_some] <;> rfl) | (simp [*, errW_none, errW_some] <;> rfl), by (with_reducible repeat (first | apply Kd.N_alloc | apply Kd.N_drewN | apply Kd.N_drew)); exact Kd.N_mono HO_6.out (fun _ hk => hk.1), by repeat (first | (with_reducible first | exact HB.out | apply below_alloc | apply pw_below_drewN | apply below_drew1 | refine below_set ?_ GE396.out) | exact HB.out)⟩


end Go.Proofs.Ytlaffgojgfdlnaa.P
set_option maxRecDepth 100000
set_option maxHeartbeats 4000000
namespace Go.Proofs.Ytlaffgojgfdlnaa.A
open Go.RowKit Go.Proofs.Ytlaffgojgfdlnaa.P Go.Proofs.YtlaffgojgfdlnaaW.PrintWords Go.Proofs.YtlaffgojgfdlnaaW.PrintMore Go.Proofs.Ytlaffgojgfdlnaa.N Sk Dy
/-! ### The contract of finite -/
/-- A number, as an element. -/
def row (d : Dy) : D3 := (d.neg, parts d.n, d.e)
theorem val_f {f : Fm} (h : f.ok) {b : Nat} (hb : b < 2 ^ 64) (k : Nat) : format_Form_Value.f k ((f.p + f.w : Nat) : Int) ((f.p : Nat) : Int) ((f.w : Nat) : Int) (b : Int) = some ((f.val b).1.neg, parts (f.val b).1.n, (f.val b).1.e, (f.val b).2) := by
  unfold format_Form_Value.f
  rw [if_pos ⟨by rcases h with rfl | rfl | rfl <;> simp, by omega, by omega⟩, Int.toNat_natCast, Int.toNat_natCast, Int.toNat_natCast]
theorem w64_1 : wrap64 1 = 1 := by decide +kernel
theorem w64_2 : wrap64 2 = 2 := by decide +kernel
end Go.Proofs.Ytlaffgojgfdlnaa.A
