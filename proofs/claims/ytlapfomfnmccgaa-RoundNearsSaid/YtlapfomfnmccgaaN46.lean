import Derived.Test.YtlapfomfnmccgaaN45
import Derived.Test.YtlapfomfnmccgaaPx0
set_option linter.unusedVariables false
namespace Go.Proofs.Ytlapfomfnmccgaa.N
open Go.RowKit Go.Proofs.Ytlapfomfnmccgaa.P Go.Proofs.YtlapfomfnmccgaaW.PrintWords Go.Proofs.YtlapfomfnmccgaaW.PrintMore Sk
open Dy
/-! ### What is told, as a number -/
/-- Modes and signs that go towards 0; away from 0. -/
def Tow (mode : Int) (neg : Bool) : Prop := mode = 1 ∨ mode = 2 ∧ neg = false ∨ mode = 3 ∧ neg = true
def Aw (mode : Int) (neg : Bool) : Prop := mode = 2 ∧ neg = true ∨ mode = 3 ∧ neg = false
theorem tow_ups {mode : Int} {neg : Bool} (h : Tow mode neg) (k x : Nat) : ups mode neg k x = false := by
  cases hu : ups mode neg k x with
  | false => rfl
  | true =>
    rw [ups_iff] at hu
    rcases h with rfl | ⟨rfl, rfl⟩ | ⟨rfl, rfl⟩ <;> simp at hu
theorem rd_tow {mode : Int} {neg : Bool} (h : Tow mode neg) (p s x : Nat) : rd mode neg p s x ≤ x := by
  have := rn_bounds mode neg (kp p s x) x
  have e := this.2.2.2.2 (tow_ups h _ _)
  have := Nat.div_mul_le_self x (2 ^ kp p s x)
  unfold rd; omega
theorem rd_aw {mode : Int} {neg : Bool} (h : Aw mode neg) (p s x : Nat) : x ≤ rd mode neg p s x := by
  have b := rn_bounds mode neg (kp p s x) x
  have hr := Nat.mod_lt x (Nat.two_pow_pos (kp p s x))
  have e := Nat.div_add_mod' x (2 ^ kp p s x)
  unfold rd
  by_cases h0 : x % 2 ^ kp p s x = 0
  · have := b.2.2.1 h0; omega
  · have hu : ups mode neg (kp p s x) x = true := by
      rw [ups_iff]
      rcases h with ⟨rfl, rfl⟩ | ⟨rfl, rfl⟩
      · exact .inr (.inr (.inl ⟨rfl, rfl, h0⟩))
      · exact .inr (.inr (.inr ⟨rfl, rfl, h0⟩))
    have := b.2.2.2.1 hu; omega
/-- What is told is a multiple of its own place. -/
theorem rd_again {p s : Nat} {mode mode' : Int} {neg neg' : Bool} (hp : 0 < p) (x : Nat) : rd mode' neg' p s (rd mode neg p s x) = rd mode neg p s x := by
  obtain ⟨y, hy⟩ : ∃ y, y = rd mode neg p s x := ⟨_, rfl⟩
  rw [← hy]
  have hl := rn_le mode neg p s x
  have hk := kp_ge p s x
  have e : y = rn mode neg (kp p s x) x * 2 ^ kp p s x := hy
  have hm : y % 2 ^ kp p s y = 0 := by
    by_cases h : kp p s y ≤ kp p s x
    · generalize rn mode neg (kp p s x) x = R at *
      generalize kp p s y = K at *
      rw [e, show kp p s x = (kp p s x - K) + K by omega, Nat.pow_add, ← Nat.mul_assoc, Nat.mul_mod_left]
    · have h1 : nlen y = kp p s y + p := kp_pos (by omega)
      have h2 : y ≤ 2 ^ (p + kp p s x) := by rw [e, Nat.pow_add]; exact Nat.mul_le_mul_right _ hl.1
      have h3 : 2 ^ (nlen y - 1) ≤ y := nlen_gt_iff.1 (by omega)
      have h4 : 2 ^ (p + kp p s x) ≤ 2 ^ (nlen y - 1) := Nat.pow_le_pow_right (by omega) (by omega)
      have h5 : y = 2 ^ (nlen y - 1) := by omega
      clear e hy
      generalize kp p s y = K at *
      rw [h5, show nlen y - 1 = (p - 1) + K by omega, Nat.pow_add]
      exact Nat.mul_mod_left _ _
  exact (rn_bounds mode' neg' (kp p s y) y).2.2.1 hm
theorem rd_exact {mode : Int} {neg : Bool} {p s x : Nat} (h : x % 2 ^ kp p s x = 0) : rd mode neg p s x = x := (rn_bounds mode neg (kp p s x) x).2.2.1 h
/-- Directed roundings nest. -/
theorem rd_nest {p s P S : Nat} {mode : Int} {neg : Bool} (hp : 0 < p) (hP : 0 < P) (h : Tow mode neg ∨ Aw mode neg) (x : Nat)
    (hsub : ∀ y, y % 2 ^ kp p s y = 0 → y % 2 ^ kp P S y = 0) : rd mode neg p s (rd mode neg P S x) = rd mode neg p s x := by
  have hz : rd mode neg p s x % 2 ^ kp p s (rd mode neg p s x) = 0 := by
    have e := rd_again (mode := 1) (neg := false) (mode' := 1) (neg' := false) (p := p) (s := s) hp
    have e2 := rd_again (mode := mode) (neg := neg) (mode' := 1) (neg' := false) (p := p) (s := s) hp x
    generalize rd mode neg p s x = y at *
    have b := rn_bounds 1 false (kp p s y) y
    have := b.2.2.2.2 (tow_ups (.inl rfl) _ _)
    have d := Nat.div_add_mod' y (2 ^ kp p s y)
    unfold rd at e2
    omega
  have hZ := hsub _ hz
  have e1 : rd mode neg P S (rd mode neg p s x) = rd mode neg p s x := rd_exact hZ
  have e2 : rd mode neg p s (rd mode neg p s x) = rd mode neg p s x := rd_exact hz
  apply Nat.le_antisymm
  · rcases h with h | h
    · exact rd_mono hp (rd_tow h P S x)
    · have a1 := rd_aw h p s x
      have a2 := rd_mono (mode := mode) (neg := neg) (p := P) (s := S) hP a1
      rw [e1] at a2
      have a3 := rd_mono (mode := mode) (neg := neg) (p := p) (s := s) hp a2
      rw [e2] at a3; exact a3
  · rcases h with h | h
    · have a1 := rd_tow h p s x
      have a2 := rd_mono (mode := mode) (neg := neg) (p := P) (s := S) hP a1
      rw [e1] at a2
      have a3 := rd_mono (mode := mode) (neg := neg) (p := p) (s := s) hp a2
      rw [e2] at a3; exact a3
    · exact rd_mono hp (rd_aw h P S x)
/-- Half a place at most, by Even and Away. -/
theorem rd_half {mode : Int} {neg : Bool} {p s x : Nat} : (rd mode neg p s x < x + 2 ^ kp p s x ∧ x < rd mode neg p s x + 2 ^ kp p s x) ∧
    (mode = 0 ∨ mode = 4 → 2 * rd mode neg p s x ≤ 2 * x + 2 ^ kp p s x ∧ 2 * x ≤ 2 * rd mode neg p s x + 2 ^ kp p s x) := by
  have b := rn_bounds mode neg (kp p s x) x
  have hr := Nat.mod_lt x (Nat.two_pow_pos (kp p s x))
  have e := Nat.div_add_mod' x (2 ^ kp p s x)
  have hp := Nat.two_pow_pos (kp p s x)
  unfold rd
  cases hu : ups mode neg (kp p s x) x with
  | true =>
    have h1 := b.2.2.2.1 hu
    rw [ups_iff] at hu
    refine ⟨⟨?_, by omega⟩, fun hm => ⟨?_, by omega⟩⟩
    · have : x % 2 ^ kp p s x ≠ 0 := by intro z; rw [z] at hu; omega
      omega
    · omega
  | false =>
    have h1 := b.2.2.2.2 hu
    refine ⟨⟨by omega, by omega⟩, fun hm => ⟨by omega, ?_⟩⟩
    have : ¬ (2 ^ kp p s x < 2 * (x % 2 ^ kp p s x)) := by
      intro z
      have : ups mode neg (kp p s x) x = true := by
        rw [ups_iff]
        rcases hm with m | m
        · exact .inl ⟨m, .inl z⟩
        · exact .inr (.inl ⟨m, by omega⟩)
      rw [this] at hu; cases hu
    omega
/-- The other sign, Down and Up changing places. -/
def oth (mode : Int) : Int := if mode = 2 then 3 else if mode = 3 then 2 else mode
theorem ups_oth (mode : Int) (neg : Bool) (k x : Nat) : ups (oth mode) (!neg) k x = ups mode neg k x := by
  unfold ups upb oth
  by_cases m0 : mode = 0
  · subst m0; simp
  by_cases m4 : mode = 4
  · subst m4; simp
  by_cases m2 : mode = 2
  · subst m2; simp
  by_cases m3 : mode = 3
  · subst m3; simp
  · simp [m0, m2, m3, m4]
theorem rd_oth (mode : Int) (neg : Bool) (p s x : Nat) : rd (oth mode) (!neg) p s x = rd mode neg p s x := by unfold rd rn; rw [ups_oth]
namespace Fm
section
variable {f : Fm} {b : Nat}
theorem grt_cl (h : f.ok) (neg : Bool) : f.cl (f.grt neg) = 2 ∧ f.grt neg < 2 ^ (f.p + f.w) ∧ f.sn (f.grt neg) = neg ∧ f.sz (f.grt neg) = f.sz (f.grt false) := by
  rcases h with rfl | rfl | rfl <;> cases neg <;> decide +kernel
theorem inf_cl (h : f.ok) (neg : Bool) : f.cl (f.inf neg) = 3 ∧ f.inf neg < 2 ^ (f.p + f.w) ∧ f.sn (f.inf neg) = neg := by
  rcases h with rfl | rfl | rfl <;> cases neg <;> decide +kernel
/-- Bits without their sign. -/
theorem red (h : f.ok) (hb : b < 2 ^ (f.p + f.w)) : ∃ d, d < 2 ^ (f.p + f.w - 1) ∧ f.sz b = f.sz d ∧ f.cl b = f.cl d ∧ b = d + (if f.sn b = true then 2 ^ (f.p + f.w - 1) else 0) := by
  have hB := bounds h
  have x := bld_self h (b := b)
  rw [Nat.mod_eq_of_lt hb] at x
  have d1 := bld_parts h (neg := false) (ex_lt (f := f) (b := b)) (fr_lt h (b := b))
  have d2 : f.bld false (f.ex b) (f.fr b) < 2 ^ (f.p + f.w - 1) := by
    have e1 := ex_lt (f := f) (b := b)
    have e2 := fr_lt h (b := b)
    have e3 : 2 ^ (f.p + f.w - 1) = 2 ^ f.w * 2 ^ (f.p - 1) := by rw [← Nat.pow_add]; congr 1; omega
    unfold bld; rw [if_neg (by simp), Nat.add_zero, e3]
    have := Nat.mul_le_mul_right (2 ^ (f.p - 1)) (show f.ex b + 1 ≤ 2 ^ f.w from e1)
    rw [Nat.add_mul] at this; omega
  refine ⟨_, d2, ?_, ?_, ?_⟩
  · unfold sz mg; rw [d1.2.1, d1.2.2]
  · unfold cl; rw [d1.2.1, d1.2.2]
  · conv => lhs; rw [← x]
    unfold bld; simp
theorem sz_low_inj (h : f.ok) {c d : Nat} (hc : c < 2 ^ (f.p + f.w - 1)) (hd : d < 2 ^ (f.p + f.w - 1)) (hz : f.sz c = f.sz d) : c = d := by
  have k1 := @sz_lt f h c d
  have k2 := @sz_lt f h d c
  apply Classical.byContradiction; intro n
  by_cases l : c < d
  · have := k1 l hd; omega
  · have := k2 (by omega) hc; omega
theorem xor_high {d k : Nat} (hd : d < 2 ^ k) : (d + 2 ^ k) ^^^ d = 2 ^ k := by
  have e : d + 2 ^ k = 2 ^ k ^^^ d := by
    apply Nat.eq_of_testBit_eq
    intro i
    rw [Nat.add_comm, Nat.testBit_xor, Nat.testBit_two_pow]
    by_cases hi : i < k
    · rw [Nat.testBit_two_pow_add_gt hi, decide_eq_false (show ¬ k = i by omega), Bool.false_xor]
    · by_cases e : i = k
      · subst e; rw [Nat.testBit_two_pow_add_eq, Nat.testBit_lt_two_pow hd, decide_eq_true rfl]; rfl
      · have : 2 ^ k + d < 2 ^ i := Nat.lt_of_lt_of_le (show 2 ^ k + d < 2 ^ (k + 1) by rw [Nat.pow_succ]; omega) (Nat.pow_le_pow_right (by omega) (by omega))
        rw [Nat.testBit_lt_two_pow this, Nat.testBit_lt_two_pow (show d < 2 ^ i by omega), decide_eq_false (show ¬ k = i by omega)]; rfl
  rw [e, Nat.xor_assoc, Nat.xor_self, Nat.xor_zero]
/-- Bits of one size and of other signs. -/
theorem xor_sign (h : f.ok) {a b : Nat} (ha : a < 2 ^ (f.p + f.w)) (hb : b < 2 ^ (f.p + f.w)) (hz : f.sz a = f.sz b) (hs : f.sn a = !f.sn b) : a ^^^ b = f.bld true 0 0 := by
  have hB := bounds h
  obtain ⟨c, lc, zc, _, ec⟩ := red h ha
  obtain ⟨d, ld, zd, _, ed⟩ := red h hb
  have : c = d := sz_low_inj h lc ld (by omega)
  subst this
  have z : f.bld true 0 0 = 2 ^ (f.p + f.w - 1) := by unfold bld; simp
  rw [z]
  cases hsb : f.sn b with
  | true =>
    rw [hsb] at hs ed
    rw [show f.sn a = false by simpa using hs] at ec
    rw [if_pos rfl] at ed
    rw [if_neg (by simp)] at ec
    rw [ec, ed, Nat.add_zero, Nat.xor_comm]; exact xor_high lc
  | false =>
    rw [hsb] at hs ed
    rw [show f.sn a = true by simpa using hs] at ec
    rw [if_pos rfl] at ec
    rw [if_neg (by simp)] at ed
    rw [ec, ed, Nat.add_zero]; exact xor_high lc
theorem sz_le_grt (h : f.ok) (hb : b < 2 ^ (f.p + f.w)) (hc : f.cl b ≤ 2) : f.sz b ≤ f.sz (f.grt false) := by
  have hB := bounds h
  obtain ⟨d, ld, zd, cd, _⟩ := red h hb
  have hx := ex_cl (b := d) (by omega) h
  have lg : f.grt false < 2 ^ (f.p + f.w - 1) := by rcases h with rfl | rfl | rfl <;> decide
  rw [zd]
  refine sz_le h ?_ lg
  unfold ex at hx
  rcases h with rfl | rfl | rfl <;> simp only [grt, bld, Nat.reduceSub, Nat.reduceAdd, Nat.reducePow, Nat.reduceMul, Bool.false_eq_true, if_false] at * <;> omega
/-- Bits as a number, what is infinite as one beyond all. -/
def wv (f : Fm) (b : Nat) : Dy := if f.cl b = 3 then ⟨f.sn b, 1, 5000⟩ else (f.val b).1
/-- The number that is told, in places of 2 to E. -/
def rz (f : Fm) (mode : Int) (neg : Bool) (s x : Nat) : Nat :=
  if rd mode neg f.p s x < 2 ^ (s + f.ov) then rd mode neg f.p s x else if f.beyond mode neg = f.grt neg then f.sz (f.grt false) * 2 ^ s else 2 ^ (5000 - f.low + s).toNat
theorem beyond_tow (h : f.ok) {mode : Int} {neg : Bool} : (Tow mode neg → f.beyond mode neg = f.grt neg) ∧ (¬ Tow mode neg → f.beyond mode neg = f.inf neg ∧ f.inf neg ≠ f.grt neg) := by
  refine ⟨fun t => if_pos t, fun t => ⟨if_neg t, fun e => ?_⟩⟩
  have h1 := (grt_cl h neg).1
  have h2 := (inf_cl h neg).1
  rw [e] at h2; omega
theorem ov_b (h : f.ok) : f.low + f.ov ≤ 2000 ∧ f.ov ≤ 3000 := by rcases h with rfl | rfl | rfl <;> decide
theorem grt_lt (h : f.ok) (s : Nat) : f.sz (f.grt false) * 2 ^ s < 2 ^ (s + f.ov) := by
  rw [Nat.add_comm, Nat.pow_add]
  exact Nat.mul_lt_mul_of_pos_right (sz_ov h (by rw [(grt_cl h false).1]; omega)) (Nat.two_pow_pos s)
theorem val_va {b : Nat} (hb : b < 2 ^ (f.p + f.w)) (hc : f.cl b ≤ 2) {E : Int} {s : Nat} (hs : E + s = f.low) : Va (f.val b).1 E (if f.sn b = true then -((f.sz b * 2 ^ s : Nat) : Int) else ((f.sz b * 2 ^ s : Nat) : Int)) := by
  have hv : f.val b = ((f.raw b).plain, 0) := by unfold val; rw [if_neg (by omega), if_neg (by omega)]
  rw [hv]
  refine Va.plain (a := f.raw b) ⟨fun _ => by show E ≤ f.pl b; rw [pl_eq]; omega, ?_⟩
  have : (f.raw b).dv E = f.sz b * 2 ^ s := by
    unfold Dy.dv
    show f.mg b * 2 ^ (f.pl b - E).toNat = f.mg b * 2 ^ (f.ex b - 1) * 2 ^ s
    rw [pl_eq, show (f.low + ((f.ex b - 1 : Nat) : Int) - E).toNat = f.ex b - 1 + s by omega, Nat.pow_add, Nat.mul_assoc]
  unfold Dy.sv
  rw [this]; rfl
/-- WHAT IS TOLD, AS A NUMBER. -/
theorem rto_val (h : f.ok) {mode : Int} (hm : 0 ≤ mode ∧ mode < 5) {a : Dy} (ha : rmay a = true) (h0 : a.n ≠ 0) (neg : Bool) {E : Int} (hE : E ≤ a.e) (hL : E ≤ f.low) {x s : Nat} (hx : x = a.dv E) (hs : s = (f.low - E).toNat) :
    ∃ b fl, f.rto mode a neg = (b, fl, 0) ∧ b < 2 ^ (f.p + f.w) ∧ f.cl b ≤ 3 ∧ f.sn b = a.neg ∧ Va (f.wv b) E (if a.neg = true then -((f.rz mode a.neg s x : Nat) : Int) else ((f.rz mode a.neg s x : Nat) : Int)) ∧ (rd mode a.neg f.p s x < 2 ^ (s + f.ov) → rd mode a.neg f.p s x ≤ f.sz (f.grt false) * 2 ^ s) := by
  have hB := bounds h
  rcases rto_spec h hm ha h0 neg hE hL hx hs with ⟨lt, b, e1, b1, b2, b3, b4⟩ | ⟨ge, e1⟩
  · refine ⟨b, _, e1, b1, by omega, b3, ?_, fun _ => ?_⟩
    · have := val_va b1 b2 (E := E) (s := s) (by omega)
      have er : f.rz mode a.neg s x = f.sz b * 2 ^ s := by rw [b4]; exact if_pos lt
      have ew : f.wv b = (f.val b).1 := if_neg (by omega)
      rw [er, ew]
      rw [b3] at this; exact this
    · rw [← b4]; exact Nat.mul_le_mul_right _ (sz_le_grt h b1 b2)
  · refine ⟨_, _, e1, ?_⟩
    have er : f.rz mode a.neg s x = if f.beyond mode a.neg = f.grt a.neg then f.sz (f.grt false) * 2 ^ s else 2 ^ (5000 - f.low + s).toNat := if_neg (by omega)
    rw [er]
    by_cases t : Tow mode a.neg
    · have eb := (beyond_tow h).1 t
      obtain ⟨g1, g2, g3, g4⟩ := grt_cl h a.neg
      rw [if_pos eb, eb]
      refine ⟨g2, by omega, g3, ?_, fun k => by omega⟩
      have := val_va g2 (by omega) (E := E) (s := s) (by omega)
      have ew : f.wv (f.grt a.neg) = (f.val (f.grt a.neg)).1 := if_neg (by omega)
      rw [ew]
      rw [g3, g4] at this; exact this
    · obtain ⟨eb, ne⟩ := (beyond_tow h).2 t
      obtain ⟨g1, g2, g3⟩ := inf_cl h a.neg
      rw [if_neg (show ¬ f.beyond mode a.neg = f.grt a.neg by rw [eb]; exact ne), eb]
      refine ⟨g2, by omega, g3, ?_, fun k => by omega⟩
      unfold wv
      rw [if_pos g1, g3]
      refine ⟨fun _ => by dsimp only; omega, ?_⟩
      unfold Dy.sv Dy.dv
      dsimp only
      rw [Nat.one_mul, show (5000 - E).toNat = (5000 - f.low + s).toNat by omega]
theorem rz_mono (h : f.ok) {mode : Int} {neg : Bool} {s x y : Nat} (hxy : x ≤ y) (hx : rd mode neg f.p s x < 2 ^ (s + f.ov) → rd mode neg f.p s x ≤ f.sz (f.grt false) * 2 ^ s) : f.rz mode neg s x ≤ f.rz mode neg s y := by
  have hB := bounds h
  have ov := ov_b h
  have m := rd_mono (mode := mode) (neg := neg) (p := f.p) (s := s) (by omega) hxy
  have g := grt_lt h s
  have B : 2 ^ (s + f.ov) ≤ 2 ^ (5000 - f.low + s).toNat := Nat.pow_le_pow_right (by omega) (by omega)
  unfold rz
  by_cases h1 : rd mode neg f.p s x < 2 ^ (s + f.ov)
  · rw [if_pos h1]
    have := hx h1
    split
    · exact m
    · split <;> omega
  · rw [if_neg h1, if_neg (show ¬ rd mode neg f.p s y < 2 ^ (s + f.ov) by omega)]
    exact Nat.le_refl _
theorem rz_tow (h : f.ok) {mode : Int} {neg : Bool} (t : Tow mode neg) (s x : Nat) : f.rz mode neg s x ≤ x := by
  have := rd_tow t f.p s x
  have g := grt_lt h s
  unfold rz
  by_cases h1 : rd mode neg f.p s x < 2 ^ (s + f.ov)
  · rw [if_pos h1]; exact this
  · rw [if_neg h1, if_pos ((beyond_tow h).1 t)]; omega
theorem rz_aw (h : f.ok) {mode : Int} {neg : Bool} (t : Aw mode neg) {s x : Nat} (hx : nlen x ≤ 5000 - f.low + s) : x ≤ f.rz mode neg s x := by
  have := rd_aw t f.p s x
  unfold rz
  by_cases h1 : rd mode neg f.p s x < 2 ^ (s + f.ov)
  · rw [if_pos h1]; exact this
  · have nt : ¬ Tow mode neg := by rintro (z | ⟨z, y⟩ | ⟨z, y⟩) <;> rcases t with ⟨t1, t2⟩ | ⟨t1, t2⟩ <;> first | omega | (rw [y] at t2; cases t2)
    obtain ⟨eb, ne⟩ := (beyond_tow h).2 nt
    rw [if_neg h1, if_neg (by rw [eb]; exact ne)]
    exact Nat.le_of_lt (nlen_le_iff.1 (by omega))
end
end Fm
end Go.Proofs.Ytlapfomfnmccgaa.N
