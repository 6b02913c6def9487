import Derived.Test.YtlapfomfnmccgaaN46
import Derived.Test.YtlapfomfnmccgaaPx0
set_option linter.unusedVariables false
namespace Go.Proofs.Ytlapfomfnmccgaa.N
open Go.RowKit Go.Proofs.Ytlapfomfnmccgaa.P Go.Proofs.YtlapfomfnmccgaaW.PrintWords Go.Proofs.YtlapfomfnmccgaaW.PrintMore Sk
open Dy
namespace Fm
section
variable {f : Fm} {b : Nat}
theorem fl_cases (s x : Nat) : f.fl s x = 0 ∨ f.fl s x = 1 ∨ f.fl s x = 3 := by unfold fl; split; exact .inl rfl; split; exact .inr (.inr rfl); exact .inr (.inl rfl)
theorem tow_oth {mode : Int} {neg : Bool} : Tow (oth mode) (!neg) ↔ Tow mode neg := by
  unfold Tow oth
  by_cases m2 : mode = 2
  · subst m2; cases neg <;> simp
  by_cases m3 : mode = 3
  · subst m3; cases neg <;> simp
  rw [if_neg m2, if_neg m3]; simp [m2, m3]
theorem beyond_xor (h : f.ok) (mode : Int) (neg : Bool) : f.beyond mode neg ^^^ f.beyond (oth mode) (!neg) = f.bld true 0 0 ∧ f.beyond mode neg < 2 ^ 64 := by
  by_cases t : Tow mode neg
  · rw [(beyond_tow h).1 t, (beyond_tow h).1 (tow_oth.2 t)]
    rcases h with rfl | rfl | rfl <;> cases neg <;> decide +kernel
  · rw [((beyond_tow h).2 t).1, ((beyond_tow h).2 (fun k => t (tow_oth.1 k))).1]
    rcases h with rfl | rfl | rfl <;> cases neg <;> decide +kernel
theorem lt64 (h : f.ok) (hb : b < 2 ^ (f.p + f.w)) : b < 2 ^ 64 := Nat.lt_of_lt_of_le hb (Nat.pow_le_pow_right (by omega) (by have := bounds h; omega))
/-- The law RoundTurns. -/
theorem turns (h : f.ok) {mode : Int} (hm : 0 ≤ mode ∧ mode < 5) {a : Dy} (ha : rmay a = true) (ha' : rmay (turned a) = true) (h0 : a.n ≠ 0) (n1 n2 : Bool) :
    ∃ b c F, f.rto mode a n1 = (b, F, 0) ∧ f.rto (oth mode) (turned a) n2 = (c, F, 0) ∧ b ^^^ c = f.bld true 0 0 ∧ b < 2 ^ 64 ∧ c < 2 ^ 64 ∧ (F = 0 ∨ F = 1 ∨ F = 3 ∨ F = 5) := by
  obtain ⟨E, hE⟩ : ∃ E, E = min a.e f.low := ⟨_, rfl⟩
  have hm' : 0 ≤ oth mode ∧ oth mode < 5 := by unfold oth; split <;> (try split) <;> omega
  have s1 := rto_spec h hm ha h0 n1 (E := E) (by omega) (by omega) rfl rfl
  have s2 := rto_spec h hm' ha' (show (turned a).n ≠ 0 from h0) n2 (E := E) (show E ≤ a.e by omega) (by omega) rfl rfl
  rw [show (turned a).dv E = a.dv E from rfl, show (turned a).neg = !a.neg from rfl, rd_oth] at s2
  rcases s1 with ⟨l1, b, e1, b1, b2, b3, b4⟩ | ⟨l1, e1⟩ <;> rcases s2 with ⟨l2, c, e2, c1, c2, c3, c4⟩ | ⟨l2, e2⟩
  · refine ⟨b, c, _, e1, e2, ?_, lt64 h b1, lt64 h c1, ?_⟩
    · refine xor_sign h b1 c1 ?_ (by rw [b3, c3]; simp)
      rw [← c4] at b4
      exact Nat.eq_of_mul_eq_mul_right (Nat.two_pow_pos _) b4
    · rcases fl_cases (f := f) (f.low - E).toNat (a.dv E) with k | k | k <;> rw [k] <;> simp
  · omega
  · omega
  · have x1 := beyond_xor h mode a.neg
    have x2 := (beyond_xor h (oth mode) (!a.neg)).2
    exact ⟨_, _, 5, e1, e2, x1.1, x1.2, x2, by simp⟩
theorem sz_zero_bits (h : f.ok) (hb : b < 2 ^ (f.p + f.w)) (hz : f.sz b = 0) : b = f.bld (f.sn b) 0 0 := by
  obtain ⟨z1, z2, z3, z4⟩ := zero_bits h (f.sn b)
  exact sz_inj h hb z1 z3.symm (by rw [hz, z4])
theorem sz_zero (hc : f.cl b ≤ 2) : f.sz b = 0 ↔ f.mg b = 0 := by
  unfold sz
  have := Nat.two_pow_pos (f.ex b - 1)
  rw [Nat.mul_eq_zero]; omega
theorem val_raw (hb : b < 2 ^ (f.p + f.w)) (hc : f.cl b ≤ 2) : f.val b = ((f.raw b).plain, 0) := by unfold val; rw [if_neg (by omega), if_neg (by omega)]
theorem val_dv {E : Int} {s : Nat} (hs : E + s = f.low) : (f.raw b).plain.dv E = f.sz b * 2 ^ s := by
  have e1 : E ≤ (f.raw b).e := by show E ≤ f.pl b; rw [pl_eq]; omega
  rw [dv_plain e1]
  unfold Dy.dv
  show f.mg b * 2 ^ (f.pl b - E).toNat = f.mg b * 2 ^ (f.ex b - 1) * 2 ^ s
  rw [pl_eq, show (f.low + ((f.ex b - 1 : Nat) : Int) - E).toNat = f.ex b - 1 + s by omega, Nat.pow_add, Nat.mul_assoc]
theorem raw_e (h0 : f.mg b ≠ 0) : f.low ≤ (f.raw b).plain.e := by
  have := plain_e_ge (f.raw b) h0
  have e1 : (f.raw b).e = f.pl b := rfl
  have := pl_eq (f := f) b
  omega
theorem val_rmay (h : f.ok) : rmay (f.raw b).plain = true := by
  have hB := bounds h
  have vb := pl_b h (b := b)
  have nl := nlen_le_iff.2 (mg_lt h (b := b))
  refine rmay_plain (rmay_of ?_ ?_ ?_)
  · show nlen (f.mg b) ≤ 4000; omega
  · show -8192 ≤ f.pl b; omega
  · show f.pl b ≤ 3900; omega
theorem sz_few (h : f.ok) : f.sz b % 2 ^ kp f.p 0 (f.sz b) = 0 := by
  have := nlen_shift_le (f.mg b) (f.ex b - 1)
  have nl := nlen_le_iff.2 (mg_lt h (b := b))
  unfold sz
  have : kp f.p 0 (f.mg b * 2 ^ (f.ex b - 1)) ≤ f.ex b - 1 := by unfold kp; omega
  generalize kp f.p 0 _ = K at *
  have e : f.mg b * 2 ^ (f.ex b - 1) = f.mg b * 2 ^ (f.ex b - 1 - K) * 2 ^ K := by rw [Nat.mul_assoc, ← Nat.pow_add, Nat.sub_add_cancel this]
  rw [e, Nat.mul_mod_left]
/-- The law RoundKeeps. -/
theorem keeps (h : f.ok) (hb : b < 2 ^ (f.p + f.w)) (hc : f.cl b ≤ 2) {mode : Int} (hm : 0 ≤ mode ∧ mode < 5) : f.rto mode (f.raw b).plain (f.sn b) = (b, 0, 0) := by
  have ra := val_rmay h (b := b)
  by_cases h0 : f.mg b = 0
  · have n0 : (f.raw b).plain.n = 0 := plain_n.2 h0
    unfold rto
    rw [if_neg (by omega), if_pos ra, if_pos n0, ← sz_zero_bits h hb ((sz_zero hc).2 h0)]
  · have n0 : (f.raw b).plain.n ≠ 0 := fun e => h0 (plain_n.1 e)
    have pn : (f.raw b).plain.neg = f.sn b := plain_neg (a := f.raw b) h0
    have dv := val_dv (f := f) (b := b) (E := f.low) (s := 0) (by omega)
    rw [Nat.pow_zero, Nat.mul_one] at dv
    have sp := rto_spec h hm ra n0 (f.sn b) (E := f.low) (raw_e h0) (Int.le_refl _) (x := f.sz b) (s := 0) dv.symm (by omega)
    rw [rd_exact (sz_few h), Nat.zero_add, Nat.pow_zero] at sp
    have ov := sz_ov h hc
    rcases sp with ⟨_, c, e1, c1, c2, c3, c4⟩ | ⟨l, _⟩
    · have : c = b := sz_inj h c1 hb (by rw [c3, pn]) (by omega)
      rw [e1, this]
      unfold fl; rw [if_pos (sz_few h)]
    · omega
theorem kp_sub {p s P S y : Nat} (hp : p ≤ P) (hs : S ≤ s) (h : y % 2 ^ kp p s y = 0) : y % 2 ^ kp P S y = 0 := by
  have : kp P S y ≤ kp p s y := by unfold kp; omega
  exact Nat.mod_eq_zero_of_dvd (Nat.dvd_trans (Nat.pow_dvd_pow 2 this) (Nat.dvd_of_mod_eq_zero h))
/-- The law RoundNested. -/
theorem nested (h : f.ok) {F : Fm} (hF : F.ok) (hp : f.p ≤ F.p) (hl : F.low ≤ f.low) {mode : Int} (hm : mode = 1 ∨ mode = 2 ∨ mode = 3) {a : Dy} (ha : rmay a = true) (h0 : a.n ≠ 0) (n1 : Bool) :
    ∃ b x, F.rto mode a n1 = (b, x, 0) ∧ b < 2 ^ 64 ∧ (x = 5 ∨ (x = 0 ∨ x = 1 ∨ x = 3) ∧ F.cl b ≤ 2 ∧ b < 2 ^ (F.p + F.w) ∧ ∃ c y z, f.rto mode a n1 = (c, y, 0) ∧ f.rto mode (F.raw b).plain (F.sn b) = (c, z, 0)) := by
  have hB := bounds h
  have HB := bounds hF
  obtain ⟨E, hE⟩ : ∃ E, E = min a.e F.low := ⟨_, rfl⟩
  obtain ⟨S, hS⟩ : ∃ S, S = (F.low - E).toNat := ⟨_, rfl⟩
  obtain ⟨s, hs⟩ : ∃ s, s = (f.low - E).toNat := ⟨_, rfl⟩
  obtain ⟨x, hx⟩ : ∃ x, x = a.dv E := ⟨_, rfl⟩
  have hm' : 0 ≤ mode ∧ mode < 5 := by omega
  have hSs : S ≤ s := by omega
  have hES : E + S = F.low := by omega
  have hEF : E ≤ F.low := by omega
  have hEf : E ≤ f.low := by omega
  have p0 : 0 < f.p := by omega
  have P0 : 0 < F.p := by omega
  have s1 := rto_spec hF hm' ha h0 n1 (E := E) (by omega) (by omega) hx hS
  have s2 := rto_spec h hm' ha h0 n1 (E := E) (by omega) (by omega) hx hs
  have dir : Tow mode a.neg ∨ Aw mode a.neg := by
    unfold Tow Aw
    cases a.neg <;> rcases hm with rfl | rfl | rfl <;> simp
  have nest := rd_nest (p := f.p) (s := s) (P := F.p) (S := S) p0 P0 dir x (fun y hy => kp_sub hp hSs hy)
  rcases s1 with ⟨l1, b, e1, b1, b2, b3, b4⟩ | ⟨l1, e1⟩
  case inr => exact ⟨_, _, e1, (beyond_xor hF mode a.neg).2, .inl rfl⟩
  refine ⟨b, _, e1, lt64 hF b1, .inr ⟨fl_cases _ _, b2, b1, ?_⟩⟩
  have dv := val_dv (f := F) (b := b) (E := E) (s := S) hES
  rw [b4] at dv
  have ra := val_rmay hF (b := b)
  by_cases m0 : F.mg b = 0
  · have n0 : (F.raw b).plain.n = 0 := plain_n.2 m0
    have r0 : rd mode a.neg F.p S x = 0 := by rw [← b4, (sz_zero b2).2 m0, Nat.zero_mul]
    have r1 : rd mode a.neg f.p s x = 0 := by
      rw [← nest, r0]; exact rd_exact (Nat.zero_mod _)
    rcases s2 with ⟨l2, c, e2, c1, c2, c3, c4⟩ | ⟨l2, e2⟩
    · rw [r1] at c4
      have z : f.sz c = 0 := by
        rcases Nat.mul_eq_zero.1 c4 with z | z
        · exact z
        · have := Nat.two_pow_pos s; omega
      have ec := sz_zero_bits h c1 z
      refine ⟨c, _, 0, e2, ?_⟩
      unfold rto
      rw [if_neg (by omega), if_pos ra, if_pos n0, b3, ← c3, ← ec]
    · rw [r1] at l2; have := Nat.two_pow_pos (s + f.ov); omega
  · have n0 : (F.raw b).plain.n ≠ 0 := fun e => m0 (plain_n.1 e)
    have pn : (F.raw b).plain.neg = a.neg := by rw [← b3]; exact plain_neg (a := F.raw b) m0
    have s3 := rto_spec h hm' ra n0 (F.sn b) (E := E) (Int.le_trans hEF (raw_e m0)) hEf rfl hs
    rw [dv, pn, nest] at s3
    rcases s2 with ⟨l2, c, e2, c1, c2, c3, c4⟩ | ⟨l2, e2⟩ <;> rcases s3 with ⟨l3, d, e3, d1, d2, d3, d4⟩ | ⟨l3, e3⟩
    · have : c = d := by
        refine sz_inj h c1 d1 (by rw [c3, d3]) ?_
        rw [← d4] at c4
        exact Nat.eq_of_mul_eq_mul_right (Nat.two_pow_pos _) c4
      subst this
      exact ⟨c, _, _, e2, e3⟩
    · omega
    · omega
    · exact ⟨_, _, _, e2, e3⟩
end
end Fm
end Go.Proofs.Ytlapfomfnmccgaa.N
