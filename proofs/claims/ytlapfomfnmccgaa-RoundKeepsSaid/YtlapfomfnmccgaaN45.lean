import Derived.Test.YtlapfomfnmccgaaN44
import Derived.Test.YtlapfomfnmccgaaPx0
set_option linter.unusedVariables false
namespace Go.Proofs.Ytlapfomfnmccgaa.N
open Go.RowKit Go.Proofs.Ytlapfomfnmccgaa.P Go.Proofs.YtlapfomfnmccgaaW.PrintWords Go.Proofs.YtlapfomfnmccgaaW.PrintMore Sk
open Dy
/-! ### Numbers, rounded to a format -/
/-- May be rounded. -/
def rmay (a : Dy) : Bool := a.may && (a.plain.may && decide (a.n = 0 ∨ a.plain.e + nlen a.plain.n - 1 ≤ 8000))
def tk (a : Dy) : Dy × Int := if rmay a = true then (a.plain, 0) else (Dy.zero, 3)
theorem rmay_iff {a : Dy} : rmay a = true ↔ a.may = true ∧ a.plain.may = true ∧ (a.n = 0 ∨ a.plain.e + nlen a.plain.n - 1 ≤ 8000) := by
  unfold rmay; rw [Bool.and_eq_true, Bool.and_eq_true, decide_eq_true_eq]
theorem rmay_plain {a : Dy} (h : rmay a = true) : rmay a.plain = true := by
  rw [rmay_iff] at h ⊢
  rw [plain_plain]
  exact ⟨h.2.1, h.2.1, h.2.2.imp (fun z => plain_n.2 z) id⟩
/-- A number of few parts and a small exponent may be rounded. -/
theorem rmay_of {a : Dy} (h1 : nlen a.n ≤ 4000) (h2 : -8192 ≤ a.e) (h3 : a.e ≤ 3900) : rmay a = true := by
  refine rmay_iff.2 ⟨may_of (k := 4096) (by omega) (by omega) h2 (by omega), plain_may h1 h2 (by omega), ?_⟩
  by_cases h0 : a.n = 0
  · exact .inl h0
  · have := top_plain h0; right; omega
/-- A cut at a place, in other places. -/
theorem cut_scale {n j k kl kr : Nat} (h : kl + k = j + kr) (h' : kl = 0 ∨ kr = 0) :
    n * 2 ^ kl / 2 ^ kr = n * 2 ^ j / 2 ^ k ∧ hf kr n = hf k (n * 2 ^ j) ∧ ls kr n = ls k (n * 2 ^ j) := by
  by_cases h0 : kr = 0
  · subst h0
    have ej : j = kl + k := by omega
    subst ej
    refine ⟨?_, ?_, ?_⟩
    · rw [Nat.pow_zero, Nat.div_one, Nat.pow_add, ← Nat.mul_assoc, Nat.mul_div_cancel _ (Nat.two_pow_pos k)]
    · have e1 : hf 0 n = false := by unfold hf; simp
      rw [e1]; symm; unfold hf; rw [decide_eq_false_iff_not]
      rintro ⟨k0, hk⟩
      rw [show kl + k = (kl + 1) + (k - 1) by omega, Nat.pow_add, ← Nat.mul_assoc, Nat.mul_div_cancel _ (Nat.two_pow_pos _), Nat.pow_succ, ← Nat.mul_assoc] at hk
      omega
    · have e1 : ls 0 n = false := by unfold ls; simp
      rw [e1]; symm; unfold ls; rw [decide_eq_false_iff_not]
      rintro ⟨k0, hk⟩
      rw [show kl + k = (kl + 1) + (k - 1) by omega, Nat.pow_add, ← Nat.mul_assoc, Nat.mul_mod_left] at hk
      exact hk rfl
  · have hl : kl = 0 := by omega
    subst hl
    have ek : k = kr + j := by omega
    subst ek
    refine ⟨?_, ?_, ?_⟩
    · rw [Nat.pow_zero, Nat.mul_one, Nat.pow_add, Nat.mul_div_mul_right _ _ (Nat.two_pow_pos j)]
    · unfold hf
      rw [show kr + j - 1 = (kr - 1) + j by omega, Nat.pow_add, Nat.mul_div_mul_right _ _ (Nat.two_pow_pos j)]
      refine decide_eq_decide.2 ⟨fun z => ⟨by omega, z.2⟩, fun z => ⟨h0, z.2⟩⟩
    · unfold ls
      rw [show kr + j - 1 = (kr - 1) + j by omega, Nat.pow_add, Nat.mul_mod_mul_right]
      refine decide_eq_decide.2 ⟨fun z => ⟨by omega, mul_pow_ne z.2 j⟩, fun z => ⟨h0, fun e => z.2 (by rw [e, Nat.zero_mul])⟩⟩
namespace Fm
/-- A number's place; how far it goes to the left, to the right. -/
def plc (f : Fm) (q : Dy) : Int := max (q.e + nlen q.n - 1 - f.p + 1) f.low
def kl (f : Fm) (q : Dy) : Nat := (q.e - f.plc q).toNat
def kr (f : Fm) (q : Dy) : Nat := (f.plc q - q.e).toNat
def ctn (f : Fm) (q : Dy) : Nat := q.n * 2 ^ f.kl q / 2 ^ f.kr q
def ctu (f : Fm) (mode : Int) (q : Dy) : Bool := upb mode q.neg (odd (f.ctn q)) (hf (f.kr q) q.n) (ls (f.kr q) q.n)
def tny (f : Fm) (q : Dy) : Bool := decide (q.e + nlen q.n - 1 < f.low + f.p - 1)
def beyond (f : Fm) (mode : Int) (neg : Bool) : Nat := if mode = 1 ∨ mode = 2 ∧ neg = false ∨ mode = 3 ∧ neg = true then f.grt neg else f.inf neg
/-- The plain form of a number that isn't 0, rounded. -/
def rpl (f : Fm) (mode : Int) (q : Dy) : Nat × Int × Int :=
  if (f.put ⟨q.neg, f.ctn q + (if f.ctu mode q = true then 1 else 0), f.plc q⟩).2 ≠ 0 then (f.beyond mode q.neg, 5, 0) else
    (if f.ctn q + (if f.ctu mode q = true then 1 else 0) = 0 then f.bld q.neg 0 0 else (f.put ⟨q.neg, f.ctn q + (if f.ctu mode q = true then 1 else 0), f.plc q⟩).1,
      if (hf (f.kr q) q.n || ls (f.kr q) q.n) = true then (if f.tny q = true then 3 else 1) else 0, 0)
def rto (f : Fm) (mode : Int) (a : Dy) (neg : Bool) : Nat × Int × Int :=
  if mode < 0 ∨ 5 ≤ mode then (0, 0, 1) else if rmay a = true then (if a.n = 0 then (f.bld neg 0 0, 0, 0) else f.rpl mode a.plain) else (0, 0, 3)
/-- The flags of what isn't beyond. -/
def fl (f : Fm) (s x : Nat) : Int := if x % 2 ^ kp f.p s x = 0 then 0 else if nlen x < f.p + s then 3 else 1
section
variable {f : Fm}
/-- The cut of a plain number, of its value in places of 2 to E. -/
theorem cut_eq {q : Dy} (h0 : q.n ≠ 0) {E : Int} (hE : E ≤ q.e) (hL : E ≤ f.low) {x s : Nat} (hx : x = q.dv E) (hs : s = (f.low - E).toNat) :
    f.plc q = E + kp f.p s x ∧ f.ctn q = x / 2 ^ kp f.p s x ∧ hf (f.kr q) q.n = hf (kp f.p s x) x ∧ ls (f.kr q) q.n = ls (kp f.p s x) x ∧ q.e + nlen q.n = E + nlen x := by
  obtain ⟨j, hj⟩ : ∃ j, j = (q.e - E).toNat := ⟨_, rfl⟩
  have ex : x = q.n * 2 ^ j := by rw [hx, hj]; rfl
  have nx : nlen x = nlen q.n + j := by rw [ex]; exact nlen_mul_pow h0 j
  have pe : f.plc q = E + kp f.p s x := by unfold plc kp; omega
  have := cut_scale (n := q.n) (j := j) (k := kp f.p s x) (kl := f.kl q) (kr := f.kr q) (by unfold kl kr; omega) (by unfold kl kr; omega)
  rw [← ex] at this
  exact ⟨pe, this.1, this.2.1, this.2.2, by omega⟩
theorem put_zero {neg : Bool} {e : Int} (h1 : -8192 ≤ e) (h2 : e ≤ 8192) : f.put ⟨neg, 0, e⟩ = (0, 0) := by
  unfold put; rw [if_pos (may_of (k := 0) (by show nlen 0 ≤ 0; rw [nlen_zero]; omega) (by omega) h1 h2), if_pos rfl]
theorem zero_bits (h : f.ok) (neg : Bool) : f.bld neg 0 0 < 2 ^ (f.p + f.w) ∧ f.cl (f.bld neg 0 0) = 0 ∧ f.sn (f.bld neg 0 0) = neg ∧ f.sz (f.bld neg 0 0) = 0 := by
  have hw := Nat.two_pow_pos f.w
  have hq := Nat.two_pow_pos (f.p - 1)
  have hp := bld_parts h (neg := neg) hw hq
  refine ⟨bld_lt h hw hq, ?_, hp.1, ?_⟩
  · unfold cl; rw [hp.2.1, hp.2.2]; rfl
  · rw [sz_bld h hw hq]; rfl
/-- WHAT ROUNDING TELLS. -/
theorem rto_spec (h : f.ok) {mode : Int} (hm : 0 ≤ mode ∧ mode < 5) {a : Dy} (ha : rmay a = true) (h0 : a.n ≠ 0) (neg : Bool) {E : Int} (hE : E ≤ a.e) (hL : E ≤ f.low) {x s : Nat} (hx : x = a.dv E) (hs : s = (f.low - E).toNat) :
    (rd mode a.neg f.p s x < 2 ^ (s + f.ov) ∧ ∃ b, f.rto mode a neg = (b, f.fl s x, 0) ∧ b < 2 ^ (f.p + f.w) ∧ f.cl b ≤ 2 ∧ f.sn b = a.neg ∧ f.sz b * 2 ^ s = rd mode a.neg f.p s x) ∨
    (2 ^ (s + f.ov) ≤ rd mode a.neg f.p s x ∧ f.rto mode a neg = (f.beyond mode a.neg, 5, 0)) := by
  have hB := bounds h
  obtain ⟨m1, m2, m3⟩ := rmay_iff.1 ha
  have b1 := may_iff.1 m2
  have e1 : f.rto mode a neg = f.rpl mode a.plain := by unfold rto; rw [if_neg (by omega), if_pos ha, if_neg h0]
  have ge := plain_e_ge a h0
  have q0 : a.plain.n ≠ 0 := fun e => h0 (plain_n.1 e)
  have qn := plain_neg h0
  have hx' : x = a.plain.dv E := by rw [hx, dv_plain hE]
  rw [e1]
  generalize a.plain = q at *
  obtain ⟨c1, c2, c3, c4, c5⟩ := cut_eq q0 (by omega) hL hx' hs
  have kg := kp_ge f.p s x
  have x0 : x ≠ 0 := by rw [hx']; exact dv_ne q0 E
  have eN : f.ctn q + (if f.ctu mode q = true then 1 else 0) = rn mode a.neg (kp f.p s x) x := by
    unfold rn ups ctu; rw [c2, c3, c4, qn]
  have rl := rn_le mode a.neg f.p s x
  have plb : f.low ≤ f.plc q ∧ f.plc q ≤ 8000 := by unfold plc; omega
  have efl : (if (hf (f.kr q) q.n || ls (f.kr q) q.n) = true then (if f.tny q = true then (3 : Int) else 1) else 0) = f.fl s x := by
    unfold fl tny
    rw [c3, c4]
    by_cases hr : x % 2 ^ kp f.p s x = 0
    · rw [if_pos hr, if_neg (fun z => inex_iff.1 z hr)]
    · rw [if_neg hr, if_pos (inex_iff.2 hr)]
      by_cases ht : nlen x < f.p + s
      · rw [if_pos ht, if_pos (decide_eq_true (by omega))]
      · rw [if_neg ht, if_neg (by rw [decide_eq_true_eq]; omega)]
  have hrd : rd mode a.neg f.p s x = rn mode a.neg (kp f.p s x) x * 2 ^ kp f.p s x := rfl
  unfold rpl
  rw [efl, eN, qn]
  generalize rn mode a.neg (kp f.p s x) x = N at *
  by_cases hN : N = 0
  · left
    subst hN
    rw [hrd, put_zero (by omega) (by omega), Nat.zero_mul]
    obtain ⟨z1, z2, z3, z4⟩ := zero_bits h a.neg
    exact ⟨Nat.two_pow_pos _, f.bld a.neg 0 0, by simp, z1, by omega, z3, by rw [z4, Nat.zero_mul]⟩
  · obtain ⟨c, hc⟩ : ∃ c, c = kp f.p s x - s := ⟨_, rfl⟩
    have ec : f.plc q = f.low + c := by omega
    have ek : kp f.p s x = c + s := by omega
    have en := enc h (neg := a.neg) (N := N) (c := c) hN rl.1 (by by_cases z : c = 0; · exact .inl z
                                                                  · exact .inr (rl.2 (by omega) (by omega))) (by omega)
    rw [hrd, ec, ek, Nat.pow_add, ← Nat.mul_assoc]
    have hsp := Nat.two_pow_pos s
    rw [Nat.add_comm s, Nat.pow_add]
    by_cases hlt : N * 2 ^ c < 2 ^ f.ov
    · left
      obtain ⟨b, hb, l1, l2, l3, l4⟩ := en.1 hlt
      refine ⟨Nat.mul_lt_mul_of_pos_right hlt hsp, b, ?_, l1, l2, l3, by rw [l4]⟩
      rw [hb, if_neg (by simp), if_neg hN]
    · right
      refine ⟨Nat.mul_le_mul_right _ (by omega), ?_⟩
      rw [en.2 (by omega), if_pos (by decide)]
end
end Fm
end Go.Proofs.Ytlapfomfnmccgaa.N
