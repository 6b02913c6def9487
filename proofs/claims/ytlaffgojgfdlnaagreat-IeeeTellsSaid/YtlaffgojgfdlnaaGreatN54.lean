/- What sums, differences, products and both at once of bits are told to be, for all bits of the three formats. Sums and products of finite numbers of the three formats are told, and what rounding tells of them, for all bits. The mathematics of the laws IeeeTurned, IeeeOne, IeeeUnit and IeeeAgain, for all bits of the three formats. What reference 4 chooses and reference 5 tells is what rounding, sums and products tell, for all numbers that may be rounded and all bits. -/
import Derived.Test.YtlaffgojgfdlnaaGreatN48
import Derived.Test.YtlaffgojgfdlnaaGreatPx0
set_option linter.unusedVariables false
namespace Go.Proofs.YtlaffgojgfdlnaaGreat.N
open Go.RowKit Go.Proofs.YtlaffgojgfdlnaaGreat.P Go.Proofs.YtlaffgojgfdlnaaGreatW.PrintWords Go.Proofs.YtlaffgojgfdlnaaGreatW.PrintMore Sk
open Dy
/-! ### What ieee's functions tell -/
namespace Fm
/-- Why operands may not be taken. -/
def mayE (f : Fm) (mode : Int) (l : List Nat) : Int := if mode < 0 ∨ 5 ≤ mode then 1 else if l.all (fun b => decide (b < 2 ^ (f.p + f.w))) = true then 0 else 3
/-- The first that is no number, quieted; the flags; whether there is one. -/
def nstep (f : Fm) (r : Nat × Int × Bool) (b : Nat) : Nat × Int × Bool :=
  if f.cl b < 4 then r else (if r.2.2 = true then r.1 else f.qui b, if f.cl b = 5 then 16 else r.2.1, true)
def noneR (f : Fm) (l : List Nat) : Nat × Int × Bool := l.foldl f.nstep (0, 0, false)
def trn (f : Fm) (a : Nat) : Nat := (a % 2 ^ (f.p + f.w)) ^^^ 2 ^ (f.p + f.w - 1)
def sumR (f : Fm) (mode : Int) (a b : Nat) : Nat × Int × Int :=
  if f.cl a = 3 ∧ f.cl b = 3 ∧ a ≠ b then (f.non, 16, 0) else if f.cl a = 3 then (a, 0, 0) else if f.cl b = 3 then (b, 0, 0) else
    f.rto mode (add (f.val a).1 (f.val b).1).1 (if f.cl a = 0 ∧ a = b then f.sn a else decide (mode = 2))
def addR (f : Fm) (mode : Int) (a b : Nat) : Nat × Int × Int :=
  if f.mayE mode [a, b] ≠ 0 then (0, 0, f.mayE mode [a, b]) else if (f.noneR [a, b]).2.2 = true then ((f.noneR [a, b]).1, (f.noneR [a, b]).2.1, 0) else f.sumR mode a b
def subR (f : Fm) (mode : Int) (a b : Nat) : Nat × Int × Int :=
  if f.mayE mode [a, b] ≠ 0 then (0, 0, f.mayE mode [a, b]) else if (f.noneR [a, b]).2.2 = true then ((f.noneR [a, b]).1, (f.noneR [a, b]).2.1, 0) else f.sumR mode a (f.trn b)
def vain (f : Fm) (a b : Nat) : Bool := decide ((f.cl a = 3 ∧ f.cl b = 0) ∨ (f.cl b = 3 ∧ f.cl a = 0))
def mulR (f : Fm) (mode : Int) (a b : Nat) : Nat × Int × Int :=
  if f.mayE mode [a, b] ≠ 0 then (0, 0, f.mayE mode [a, b]) else if (f.noneR [a, b]).2.2 = true then ((f.noneR [a, b]).1, (f.noneR [a, b]).2.1, 0) else
    if f.vain a b = true then (f.non, 16, 0) else if f.cl a = 3 ∨ f.cl b = 3 then (f.inf (f.sn a != f.sn b), 0, 0) else f.rto mode (mul (f.val a).1 (f.val b).1).1 (f.sn a != f.sn b)
def fmaR (f : Fm) (mode : Int) (a b c : Nat) : Nat × Int × Int :=
  if f.mayE mode [a, b, c] ≠ 0 then (0, 0, f.mayE mode [a, b, c]) else
    if (f.noneR [a, b, c]).2.2 = true then ((f.noneR [a, b, c]).1, if f.vain a b = true then 16 else (f.noneR [a, b, c]).2.1, 0) else
    if f.vain a b = true ∨ ((f.cl a = 3 ∨ f.cl b = 3) ∧ f.cl c = 3 ∧ f.sn c ≠ (f.sn a != f.sn b)) then (f.non, 16, 0) else
    if f.cl a = 3 ∨ f.cl b = 3 then (f.inf (f.sn a != f.sn b), 0, 0) else if f.cl c = 3 then (c, 0, 0) else
    f.rto mode (add (mul (f.val a).1 (f.val b).1).1 (f.val c).1).1
      (if (mul (f.val a).1 (f.val b).1).1.n = 0 ∧ (f.val c).1.n = 0 ∧ f.sn c = (f.sn a != f.sn b) then (f.sn a != f.sn b) else decide (mode = 2))
end Fm
end Go.Proofs.YtlaffgojgfdlnaaGreat.N
set_option linter.unusedVariables false
namespace Go.Proofs.YtlaffgojgfdlnaaGreat.N
open Go.RowKit Go.Proofs.YtlaffgojgfdlnaaGreat.P Go.Proofs.YtlaffgojgfdlnaaGreatW.PrintWords Go.Proofs.YtlaffgojgfdlnaaGreatW.PrintMore Sk
open Dy
/-! ### Sums and products, turned about -/
theorem sumAt_comm (a b : Dy) (E : Int) : (sumAt a b E).plain = (sumAt b a E).plain := by
  unfold sumAt
  by_cases hn : a.neg = b.neg
  · rw [if_pos hn, if_pos (show b.neg = a.neg from hn.symm), hn, Nat.add_comm]
  · rw [if_neg hn, if_neg (show ¬ b.neg = a.neg from fun k => hn k.symm)]
    by_cases h1 : b.dv E ≤ a.dv E
    · rw [if_pos h1]
      by_cases h2 : a.dv E ≤ b.dv E
      · rw [if_pos h2, plain_zero (a := ⟨a.neg, a.dv E - b.dv E, E⟩) (by dsimp only; omega), plain_zero (a := ⟨b.neg, b.dv E - a.dv E, E⟩) (by dsimp only; omega)]
      · rw [if_neg h2]
    · rw [if_neg h1, if_pos (by omega)]
theorem add_comm' (a b : Dy) : Dy.add a b = Dy.add b a := by
  unfold Dy.add
  by_cases h : a.may = true ∧ b.may = true
  · rw [if_pos h, if_pos (show b.may = true ∧ a.may = true from ⟨h.2, h.1⟩)]
    by_cases ha : a.n = 0
    · by_cases hb : b.n = 0
      · simp only [if_pos ha, if_pos hb]; rw [told_zero ha, told_zero hb]
      · simp only [if_pos ha, if_neg hb]
    · by_cases hb : b.n = 0
      · simp only [if_neg ha, if_pos hb]
      · simp only [if_neg ha, if_neg hb]
        refine told_congr ?_
        rw [sum_eq, sum_eq, sumAt_comm, Int.min_comm]
  · rw [if_neg h, if_neg (show ¬ (b.may = true ∧ a.may = true) from fun k => h ⟨k.2, k.1⟩)]
theorem told_plain_self {p : Dy} (pp : p.plain = p) (pm : p.may = true) : told p = (p, 0) := by rw [told_may (by rw [pp]; exact pm), pp]
theorem zero_of_plain {p : Dy} (pp : p.plain = p) (h0 : p.n = 0) : p = Dy.zero := by rw [← pp]; exact plain_zero h0
theorem add_zero' {p z : Dy} (pp : p.plain = p) (pm : p.may = true) (hz : z.n = 0) (zm : z.may = true) : Dy.add p z = (p, 0) := by
  unfold Dy.add
  rw [if_pos ⟨pm, zm⟩]
  by_cases h : p.n = 0
  · rw [if_pos h, told_zero hz, zero_of_plain pp h]
  · rw [if_neg h, if_pos hz, told_plain_self pp pm]
theorem mul_one' {x : Dy} (px : x.plain = x) (xm : x.may = true) : Dy.mul x ⟨false, 1, 0⟩ = (x, 0) := by
  unfold Dy.mul
  rw [if_pos ⟨xm, by decide +kernel⟩]
  rw [show (⟨x.neg != false, x.n * 1, x.e + 0⟩ : Dy) = x by cases x; simp]
  exact told_plain_self px xm
/-- A value at a lower place. -/
theorem Va.down {a : Dy} {E F x : Int} (h : Va a E x) (hF : F ≤ E) : Va a F (x * ((2 ^ (E - F).toNat : Nat) : Int)) := by
  by_cases h0 : a.n = 0
  · rw [h.at.1 h0, Int.zero_mul]; exact Va.zero h0 F
  · have he := h.1 h0
    refine ⟨fun _ => by omega, ?_⟩
    rw [← h.2]
    unfold Dy.sv
    rw [dv_down hF he, Int.natCast_mul]
    split
    · rw [Int.neg_mul]
    · rfl
theorem Va.uniq {a : Dy} {E x y : Int} (h1 : Va a E x) (h2 : Va a E y) : x = y := by rw [← h1.2, ← h2.2]
theorem Va.mulD {a b : Dy} {E F x y : Int} (ha : Va a E x) (hb : Va b F y) : Va ⟨a.neg != b.neg, a.n * b.n, a.e + b.e⟩ (E + F) (x * y) := by
  by_cases hz : a.n = 0 ∨ b.n = 0
  · have : x * y = 0 := by
      rcases hz with h | h
      · rw [(ha.at).1 h, Int.zero_mul]
      · rw [(hb.at).1 h, Int.mul_zero]
    rw [this]
    refine Va.zero ?_ _
    show a.n * b.n = 0
    rcases hz with h | h <;> rw [h] <;> simp
  · have ha0 : a.n ≠ 0 := fun e => hz (.inl e)
    have hb0 : b.n ≠ 0 := fun e => hz (.inr e)
    have ea := ha.1 ha0
    have eb := hb.1 hb0
    refine ⟨fun _ => by show E + F ≤ a.e + b.e; omega, ?_⟩
    rw [← ha.2, ← hb.2]
    have hd : (⟨a.neg != b.neg, a.n * b.n, a.e + b.e⟩ : Dy).dv (E + F) = a.dv E * b.dv F := by
      unfold Dy.dv; dsimp only
      rw [show (a.e + b.e - (E + F)).toNat = (a.e - E).toNat + (b.e - F).toNat by omega, Nat.pow_add]
      rw [Nat.mul_mul_mul_comm]
    unfold Dy.sv
    rw [hd]
    dsimp only
    rw [Int.natCast_mul]
    cases a.neg <;> cases b.neg <;> simp [Int.neg_mul, Int.mul_neg]
/-- A sum of numbers that aren't too far apart. -/
theorem sum_ok {p z : Dy} (pp : p.plain = p) (pm : p.may = true) (zp : z.plain = z) (zm : z.may = true) (h1 : p.n ≠ 0 → z.n ≠ 0 → p.e + nlen p.n - z.e ≤ 4000) (h2 : p.n ≠ 0 → z.n ≠ 0 → z.e + nlen z.n - p.e ≤ 4000) (h3 : nlen p.n ≤ 4000) (h4 : nlen z.n ≤ 4000) (h5 : -4000 ≤ p.e ∧ p.e ≤ 3000) (h6 : -4000 ≤ z.e ∧ z.e ≤ 3000) :
    ∃ r, Dy.add p z = (r, 0) ∧ r.plain = r ∧ rmay r = true ∧ (∀ E x y, Va p E x → Va z E y → Va r E (x + y)) := by
  by_cases p0 : p.n = 0
  · refine ⟨z, by rw [add_comm']; exact add_zero' zp zm p0 pm, zp, ?_, fun E x y hx hy => by rw [hx.at.1 p0, Int.zero_add]; exact hy⟩
    exact rmay_of h4 (by omega) (by omega)
  by_cases z0 : z.n = 0
  · refine ⟨p, add_zero' pp pm z0 zm, pp, ?_, fun E x y hx hy => by rw [hy.at.1 z0, Int.add_zero]; exact hx⟩
    exact rmay_of h3 (by omega) (by omega)
  have g1 := h1 p0 z0
  have g2 := h2 p0 z0
  obtain ⟨E0, hE0⟩ : ∃ E0, E0 = min p.e z.e := ⟨_, rfl⟩
  have vp := va_of (a := p) (E := E0) (by omega)
  have vz := va_of (a := z) (E := E0) (by omega)
  have n1 := sv_nlen (a := p) (E := E0) (by omega)
  have n2 := sv_nlen (a := z) (E := E0) (by omega)
  have n3 := nlen_addI (p.sv E0) (z.sv E0)
  obtain ⟨r, er, vr, mr, pr, nr⟩ := add_va pm zm vp vz (by omega) (by omega) (by omega)
  refine ⟨r, er, pr, ?_, fun E x y hx hy => ?_⟩
  · refine rmay_iff.2 ⟨mr, by rw [pr]; exact mr, ?_⟩
    by_cases r0 : r.n = 0
    · exact .inl r0
    · right
      rw [pr]
      have s := Fm.sv_sign r0 E0
      rw [vr.2] at s
      have : nlen (r.dv E0) = nlen r.n + (r.e - E0).toNat := nlen_mul_pow r0 _
      have := vr.1 r0
      rw [← s.2] at *
      omega
  · have hE : E ≤ E0 := by have := hx.1 p0; have := hy.1 z0; omega
    have e1 := (vp.down hE).uniq hx
    have e2 := (vz.down hE).uniq hy
    have := vr.down hE
    rw [Int.add_mul, e1, e2] at this
    exact this
namespace Fm
section
variable {f : Fm} {b : Nat}
theorem rto_sign {mode : Int} {d : Dy} (h0 : d.n ≠ 0) (n1 n2 : Bool) : f.rto mode d n1 = f.rto mode d n2 := by unfold rto; rw [if_neg h0, if_neg h0]
theorem rto_zero {mode : Int} (hm : 0 ≤ mode ∧ mode < 5) {d : Dy} (hr : rmay d = true) (h0 : d.n = 0) (n : Bool) : f.rto mode d n = (f.bld n 0 0, 0, 0) := by
  unfold rto; rw [if_neg (by omega), if_pos hr, if_pos h0]
theorem nstep_skip {r : Nat × Int × Bool} (h : f.cl b < 4) : f.nstep r b = r := if_pos h
theorem mayE_zero {mode : Int} {l : List Nat} (h : f.mayE mode l = 0) : (0 ≤ mode ∧ mode < 5) ∧ ∀ b ∈ l, b < 2 ^ (f.p + f.w) := by
  unfold mayE at h
  by_cases hm : mode < 0 ∨ 5 ≤ mode
  · rw [if_pos hm] at h; omega
  · rw [if_neg hm] at h
    refine ⟨by omega, ?_⟩
    split at h
    · rename_i ha
      exact fun b hb => of_decide_eq_true (List.all_eq_true.1 ha b hb)
    · omega
theorem xor_low {d k : Nat} (hd : d < 2 ^ k) : d ^^^ 2 ^ k = d + 2 ^ k ∧ (d + 2 ^ k) ^^^ 2 ^ k = d := by
  have e := xor_high hd
  have e2 : d ^^^ 2 ^ k = d + 2 ^ k := by
    have : (d + 2 ^ k) ^^^ d ^^^ d = 2 ^ k ^^^ d := by rw [e]
    rw [Nat.xor_assoc, Nat.xor_self, Nat.xor_zero] at this
    rw [this, Nat.xor_comm]
  exact ⟨e2, by rw [← e2, Nat.xor_assoc, Nat.xor_self, Nat.xor_zero]⟩
theorem bld_low (h : f.ok) {e x : Nat} (he : e < 2 ^ f.w) (hx : x < 2 ^ (f.p - 1)) : e * 2 ^ (f.p - 1) + x < 2 ^ (f.p + f.w - 1) := by
  have hB := bounds h
  have e3 : 2 ^ (f.p + f.w - 1) = 2 ^ f.w * 2 ^ (f.p - 1) := by rw [← Nat.pow_add]; congr 1; omega
  have := Nat.mul_le_mul_right (2 ^ (f.p - 1)) (show e + 1 ≤ 2 ^ f.w from he)
  rw [Nat.add_mul] at this; omega
theorem trn_eq (h : f.ok) (hb : b < 2 ^ (f.p + f.w)) : f.trn b = f.bld (!f.sn b) (f.ex b) (f.fr b) := by
  have x := bld_self h (b := b)
  unfold trn
  rw [← x]
  have l := bld_low h (ex_lt (f := f) (b := b)) (fr_lt h (b := b))
  have k := xor_low l
  unfold bld
  cases f.sn b
  · simp only [Bool.false_eq_true, if_false, Bool.not_false, if_true, Nat.add_zero]; exact k.1
  · simp only [Bool.false_eq_true, if_false, Bool.not_true, if_true, Nat.add_zero]; exact k.2
theorem trn_facts (h : f.ok) (hb : b < 2 ^ (f.p + f.w)) : f.trn b < 2 ^ (f.p + f.w) ∧ f.cl (f.trn b) = f.cl b ∧ f.sn (f.trn b) = (!f.sn b) ∧ f.sz (f.trn b) = f.sz b := by
  have p := bld_parts h (neg := !f.sn b) (ex_lt (f := f) (b := b)) (fr_lt h (b := b))
  rw [trn_eq h hb]
  refine ⟨bld_lt h ex_lt (fr_lt h), ?_, p.1, ?_⟩
  · unfold cl; rw [p.2.1, p.2.2]
  · unfold sz mg; rw [p.2.1, p.2.2]
theorem inf_eq (h : f.ok) (hb : b < 2 ^ (f.p + f.w)) (hc : f.cl b = 3) : b = f.inf (f.sn b) := by
  have x := bld_self h (b := b)
  rw [Nat.mod_eq_of_lt hb] at x
  have e := ex_lt (f := f) (b := b)
  have k : f.ex b = 2 ^ f.w - 1 ∧ f.fr b = 0 := by
    unfold cl at hc
    split at hc
    · split at hc <;> omega
    · split at hc
      · omega
      · split at hc
        · exact ⟨by omega, by assumption⟩
        · split at hc <;> omega
  rw [k.1, k.2] at x
  exact x.symm
theorem zero_eq (h : f.ok) (hb : b < 2 ^ (f.p + f.w)) (hc : f.cl b = 0) : b = f.bld (f.sn b) 0 0 := sz_zero_bits h hb ((sz_zero (by omega)).2 (mg_zero.2 hc))
/-- The bits of 1. -/
def one (f : Fm) : Nat := f.bld false f.bias.toNat 0
theorem one_facts (h : f.ok) : f.one < 2 ^ (f.p + f.w) ∧ f.cl f.one = 2 ∧ f.sn f.one = false ∧ f.val f.one = (⟨false, 1, 0⟩, 0) ∧ f.put ⟨false, 1, 0⟩ = (f.one, 0) := by
  rcases h with rfl | rfl | rfl <;> decide +kernel
theorem val_zero (hb : b < 2 ^ (f.p + f.w)) (hc : f.cl b ≤ 2) : (f.val b).1.n = 0 ↔ f.cl b = 0 := by
  rw [val_raw hb hc]; exact plain_n.trans mg_zero
theorem val_plain (hb : b < 2 ^ (f.p + f.w)) (hc : f.cl b ≤ 2) : (f.val b).1.plain = (f.val b).1 := by rw [val_raw hb hc]; exact plain_plain _
/-- The size with its sign. -/
def sg (f : Fm) (b : Nat) : Int := if f.sn b = true then -((f.sz b : Nat) : Int) else ((f.sz b : Nat) : Int)
theorem val_pl (c : Nat) : (f.val c).1.plain = (f.val c).1 := by
  unfold val; split
  · exact zero_plain
  split
  · exact zero_plain
  · exact plain_plain _
theorem fin_mul (h : f.ok) {a b : Nat} : ∃ r, Dy.mul (f.val a).1 (f.val b).1 = (r, 0) ∧ r.plain = r ∧ r.may = true ∧ nlen r.n ≤ 106 ∧ (r.n = 0 ∨ -2200 ≤ r.e ∧ r.e + nlen r.n ≤ 2506) ∧ (∀ E F x y, Va (f.val a).1 E x → Va (f.val b).1 F y → Va r (E + F) (x * y)) := by
  have ba := val_b h a
  have bb := val_b h b
  have hm := nlen_mul_le (f.val a).1.n (f.val b).1.n
  obtain ⟨d, hd⟩ : ∃ d : Dy, d = ⟨(f.val a).1.neg != (f.val b).1.neg, (f.val a).1.n * (f.val b).1.n, (f.val a).1.e + (f.val b).1.e⟩ := ⟨_, rfl⟩
  have dn : d.n = (f.val a).1.n * (f.val b).1.n := by rw [hd]
  have de : d.e = (f.val a).1.e + (f.val b).1.e := by rw [hd]
  have mp : d.plain.may = true := plain_may (by rw [dn]; omega) (by omega) (by omega)
  refine ⟨d.plain, ?_, plain_plain d, mp, ?_, ?_, fun E F x y hx hy => ?_⟩
  · unfold Dy.mul; rw [if_pos ⟨val_may h a, val_may h b⟩, ← hd]; exact told_may mp
  · have := plain_nlen_le d; rw [dn] at this; omega
  · by_cases d0 : d.n = 0
    · exact .inl (plain_n.2 d0)
    · right
      have g1 := plain_e_ge d d0
      have g2 := top_plain d0
      rw [dn] at g2
      exact ⟨by omega, by omega⟩
  · rw [hd]; exact (hx.mulD hy).plain
theorem fin_fma (h : f.ok) {a b c : Nat} {q : Dy} (hq : Dy.mul (f.val a).1 (f.val b).1 = (q, 0)) : ∃ r, Dy.add q (f.val c).1 = (r, 0) ∧ r.plain = r ∧ rmay r = true ∧ (∀ E x y, Va q E x → Va (f.val c).1 E y → Va r E (x + y)) := by
  obtain ⟨r', e, p, m, n, b, _⟩ := fin_mul h (a := a) (b := b)
  rw [hq] at e; cases e
  have bc := val_b h c
  by_cases q0 : q.n = 0
  · have := zero_of_plain p q0
    subst this
    exact sum_ok p m (val_pl c) (val_may h c) (fun k => absurd q0 k) (fun k => absurd q0 k) (by omega) (by omega) (by show -4000 ≤ (0 : Int) ∧ (0 : Int) ≤ 3000; omega) (by omega)
  · have b := b.resolve_left q0
    have : 0 < nlen q.n := by have := nlen_eq_zero (n := q.n); omega
    exact sum_ok p m (val_pl c) (val_may h c) (by omega) (by omega) (by omega) (by omega) (by omega) (by omega)
/-- What comes of rounding, at all. -/
theorem rto_out (h : f.ok) {mode : Int} (hm : 0 ≤ mode ∧ mode < 5) {d : Dy} (hr : rmay d = true) (n : Bool) : ∃ b fl, f.rto mode d n = (b, fl, 0) ∧ b < 2 ^ (f.p + f.w) ∧ f.cl b ≤ 3 ∧ (fl = 0 ∨ fl = 1 ∨ fl = 3 ∨ fl = 5) ∧ (d.n = 0 → f.sn b = n) ∧
    (∀ E X, E ≤ f.low → Va d E X → (fl = 0 → f.cl b ≤ 2 ∧ Va (f.val b).1 E X) ∧ (fl ≠ 0 → f.cl b ≤ 2 → ∃ Y, Y ≠ X ∧ Va (f.val b).1 E Y)) := by
  by_cases h0 : d.n = 0
  · obtain ⟨z1, z2, z3, z4⟩ := zero_bits h n
    refine ⟨_, _, rto_zero hm hr h0 n, z1, by omega, .inl rfl, fun _ => z3, fun E X hE hX => ⟨fun _ => ⟨by omega, ?_⟩, fun k => absurd rfl k⟩⟩
    rw [hX.at.1 h0]
    exact Va.zero ((val_zero z1 (by omega)).2 z2) E
  obtain ⟨E0, hE0⟩ : ∃ E0, E0 = min d.e f.low := ⟨_, rfl⟩
  have sp : ∀ E, E ≤ d.e → E ≤ f.low → _ := fun E h1 h2 => rto_spec h hm hr h0 n (E := E) h1 h2 rfl rfl
  have va : ∀ E X, E ≤ f.low → Va d E X → ∀ c, c < 2 ^ (f.p + f.w) → f.cl c ≤ 2 → f.sn c = d.neg → ∀ R, f.sz c * 2 ^ (f.low - E).toNat = R → Va (f.val c).1 E (if d.neg = true then -((R : Nat) : Int) else ((R : Nat) : Int)) := fun E X hE hX c c1 c2 c3 R hR => by
    have := val_va c1 c2 (E := E) (s := (f.low - E).toNat) (by omega)
    rw [c3, hR] at this; exact this
  have neq : ∀ E X, Va d E X → ∀ R : Nat, R ≠ d.dv E → (if d.neg = true then -((R : Nat) : Int) else ((R : Nat) : Int)) ≠ X := fun E X hX R hR => by
    rw [← hX.2]; unfold Dy.sv; split <;> omega
  rcases sp E0 (by omega) (by omega) with ⟨l1, b, e1, b1, b2, b3, b4⟩ | ⟨l1, e1⟩
  · refine ⟨b, _, e1, b1, by omega, (fl_cases _ _).imp id (fun k => k.imp id .inl), fun k => absurd k h0, fun E X hE hX => ?_⟩
    have hEd := hX.1 h0
    rcases sp E hEd hE with ⟨l2, c, e2, c1, c2, c3, c4⟩ | ⟨l2, e2⟩
    · have eq := e1.symm.trans e2
      have eb : b = c := congrArg (fun z => z.1) eq
      have ef : f.fl (f.low - E0).toNat (d.dv E0) = f.fl (f.low - E).toNat (d.dv E) := congrArg (fun z => z.2.1) eq
      subst eb
      rw [ef]
      have v := va E X hE hX b b1 b2 b3 _ c4
      have rb := rn_bounds mode d.neg (kp f.p (f.low - E).toNat (d.dv E)) (d.dv E)
      by_cases hx : d.dv E % 2 ^ kp f.p (f.low - E).toNat (d.dv E) = 0
      · refine ⟨fun _ => ⟨b2, ?_⟩, fun k => ?_⟩
        · rw [rd_exact hx] at v
          have : (if d.neg = true then -((d.dv E : Nat) : Int) else ((d.dv E : Nat) : Int)) = X := hX.2
          rw [this] at v; exact v
        · exfalso; apply k; unfold fl; rw [if_pos hx]
      · refine ⟨fun k => ?_, fun _ _ => ⟨_, neq E X hX _ (fun e => ?_), v⟩⟩
        · exfalso; unfold fl at k; rw [if_neg hx] at k; split at k <;> omega
        · have hm : rd mode d.neg f.p (f.low - E).toNat (d.dv E) % 2 ^ kp f.p (f.low - E).toNat (d.dv E) = 0 := Nat.mul_mod_left _ _
          rw [e] at hm
          exact hx hm
    · exfalso
      have eq := e1.symm.trans e2
      have : f.fl (f.low - E0).toNat (d.dv E0) = 5 := congrArg (fun z => z.2.1) eq
      rcases fl_cases (f := f) (f.low - E0).toNat (d.dv E0) with k | k | k <;> omega
  · by_cases t : Tow mode d.neg
    · have eb := (beyond_tow h).1 t
      obtain ⟨g1, g2, g3, g4⟩ := grt_cl h d.neg
      rw [eb] at e1
      refine ⟨_, _, e1, g2, by omega, .inr (.inr (.inr rfl)), fun k => absurd k h0, fun E X hE hX => ⟨fun k => by omega, fun _ _ => ?_⟩⟩
      have hEd := hX.1 h0
      have v := va E X hE hX _ g2 (by omega) g3 _ rfl
      refine ⟨_, neq E X hX _ ?_, v⟩
      rcases sp E hEd hE with ⟨l2, c, e2, _⟩ | ⟨l2, e2⟩
      · exfalso
        have : (5 : Int) = f.fl (f.low - E).toNat (d.dv E) := congrArg (fun z => z.2.1) (e1.symm.trans e2)
        rcases fl_cases (f := f) (f.low - E).toNat (d.dv E) with k | k | k <;> omega
      · have := rd_tow t f.p (f.low - E).toNat (d.dv E)
        have := grt_lt h (f.low - E).toNat
        rw [g4]; omega
    · obtain ⟨eb, ne⟩ := (beyond_tow h).2 t
      obtain ⟨g1, g2, g3⟩ := inf_cl h d.neg
      rw [eb] at e1
      exact ⟨_, _, e1, g2, by omega, .inr (.inr (.inr rfl)), fun k => absurd k h0, fun E X hE hX => ⟨fun k => by omega, fun _ k => by omega⟩⟩
end
end Fm
end Go.Proofs.YtlaffgojgfdlnaaGreat.N
set_option linter.unusedVariables false
namespace Go.Proofs.YtlaffgojgfdlnaaGreat.N
open Go.RowKit Go.Proofs.YtlaffgojgfdlnaaGreat.P Go.Proofs.YtlaffgojgfdlnaaGreatW.PrintWords Go.Proofs.YtlaffgojgfdlnaaGreatW.PrintMore Sk
open Dy
/-! ### The laws of ieee's sums and products -/
namespace Fm
section
variable {f : Fm} {a b c : Nat} {mode : Int}
theorem mayE_mid (mode : Int) (a b : Nat) (hc : c < 2 ^ (f.p + f.w)) : f.mayE mode [a, c, b] = f.mayE mode [a, b] := by
  unfold mayE; simp only [List.all_cons, List.all_nil, Bool.and_true]; rw [decide_eq_true hc, Bool.true_and]
theorem mayE_end (mode : Int) (a b : Nat) (hc : c < 2 ^ (f.p + f.w)) : f.mayE mode [a, b, c] = f.mayE mode [a, b] := by
  unfold mayE; simp only [List.all_cons, List.all_nil, Bool.and_true]; rw [decide_eq_true hc, Bool.and_true]
theorem sumR_ii (h1 : f.cl a = 3) (h2 : f.cl b = 3) (e : a ≠ b) : f.sumR mode a b = (f.non, 16, 0) := if_pos ⟨h1, h2, e⟩
theorem sumR_i (h1 : f.cl a = 3) (h2 : f.cl b = 3 → a = b) : f.sumR mode a b = (a, 0, 0) := by
  unfold sumR; rw [if_neg (fun k => k.2.2 (h2 k.2.1)), if_pos h1]
theorem sumR_j (h1 : ¬ f.cl a = 3) (h2 : f.cl b = 3) : f.sumR mode a b = (b, 0, 0) := by
  unfold sumR; rw [if_neg (fun k => h1 k.1), if_neg h1, if_pos h2]
theorem sumR_f (h1 : ¬ f.cl a = 3) (h2 : ¬ f.cl b = 3) : f.sumR mode a b = f.rto mode (add (f.val a).1 (f.val b).1).1 (if f.cl a = 0 ∧ a = b then f.sn a else decide (mode = 2)) := by
  unfold sumR; rw [if_neg (fun k => h1 k.1), if_neg h1, if_neg h2]
theorem noneR_mid (hc : f.cl c < 4) : f.noneR [a, c, b] = f.noneR [a, b] := by
  unfold noneR
  simp only [List.foldl_cons, List.foldl_nil]
  rw [nstep_skip hc]
theorem noneR_end (hc : f.cl c < 4) : f.noneR [a, b, c] = f.noneR [a, b] := by
  unfold noneR
  simp only [List.foldl_cons, List.foldl_nil]
  rw [nstep_skip hc]
theorem nstep_is (r : Nat × Int × Bool) (x : Nat) : (f.nstep r x).2.2 = true ↔ r.2.2 = true ∨ 4 ≤ f.cl x := by
  unfold nstep
  by_cases h : f.cl x < 4
  · rw [if_pos h]; exact ⟨.inl, fun k => k.elim id (fun k => by omega)⟩
  · rw [if_neg h]; exact ⟨fun _ => .inr (by omega), fun _ => rfl⟩
theorem noneR2_is : (f.noneR [a, b]).2.2 = true ↔ 4 ≤ f.cl a ∨ 4 ≤ f.cl b := by
  unfold noneR
  simp only [List.foldl_cons, List.foldl_nil, nstep_is]; simp
theorem numbers (hi : ¬ (f.noneR [a, b]).2.2 = true) : f.cl a < 4 ∧ f.cl b < 4 := by
  have k := mt noneR2_is.2 hi
  omega
theorem noneR3_is : (f.noneR [a, b, c]).2.2 = true ↔ 4 ≤ f.cl a ∨ 4 ≤ f.cl b ∨ 4 ≤ f.cl c := by
  unfold noneR
  simp only [List.foldl_cons, List.foldl_nil, nstep_is]; simp [or_assoc]
/-- What is left of Fma, and of Mul, where there are numbers alone. -/
theorem fmaR_num (hm : f.mayE mode [a, b, c] = 0) (hi : ¬ (f.noneR [a, b, c]).2.2 = true) : f.fmaR mode a b c =
    if f.vain a b = true ∨ ((f.cl a = 3 ∨ f.cl b = 3) ∧ f.cl c = 3 ∧ f.sn c ≠ (f.sn a != f.sn b)) then (f.non, 16, 0) else
    if f.cl a = 3 ∨ f.cl b = 3 then (f.inf (f.sn a != f.sn b), 0, 0) else if f.cl c = 3 then (c, 0, 0) else
    f.rto mode (add (mul (f.val a).1 (f.val b).1).1 (f.val c).1).1
      (if (mul (f.val a).1 (f.val b).1).1.n = 0 ∧ (f.val c).1.n = 0 ∧ f.sn c = (f.sn a != f.sn b) then (f.sn a != f.sn b) else decide (mode = 2)) := by
  unfold fmaR
  rw [if_neg (show ¬ (f.mayE mode [a, b, c] ≠ 0) by simp [hm]), if_neg hi]
theorem mulR_num (hm : f.mayE mode [a, b] = 0) (hi : ¬ (f.noneR [a, b]).2.2 = true) : f.mulR mode a b =
    if f.vain a b = true then (f.non, 16, 0) else if f.cl a = 3 ∨ f.cl b = 3 then (f.inf (f.sn a != f.sn b), 0, 0) else f.rto mode (mul (f.val a).1 (f.val b).1).1 (f.sn a != f.sn b) := by
  unfold mulR
  rw [if_neg (show ¬ (f.mayE mode [a, b] ≠ 0) by simp [hm]), if_neg hi]
theorem addR_num (hm : f.mayE mode [a, b] = 0) (hi : ¬ (f.noneR [a, b]).2.2 = true) : f.addR mode a b = f.sumR mode a b := by
  unfold addR
  rw [if_neg (show ¬ (f.mayE mode [a, b] ≠ 0) by simp [hm]), if_neg hi]
/-- Fma by 1 is Add. -/
theorem fma_one (h : f.ok) (mode : Int) (a b : Nat) : f.addR mode a b = f.fmaR mode a f.one b := by
  obtain ⟨o1, o2, o3, o4, _⟩ := one_facts h
  have em := mayE_mid mode a b o1
  have en : f.noneR [a, f.one, b] = f.noneR [a, b] := noneR_mid (by omega)
  have hv : f.vain a f.one = false := decide_eq_false (by omega)
  by_cases hm : f.mayE mode [a, b] = 0
  case neg =>
    unfold addR fmaR
    rw [em, if_pos hm, if_pos hm]
  obtain ⟨hmo, hl⟩ := mayE_zero hm
  have ha := hl a (by simp)
  have hb := hl b (by simp)
  by_cases hi : (f.noneR [a, b]).2.2 = true
  · unfold addR fmaR
    rw [em, en, hv, if_neg (show ¬ (f.mayE mode [a, b] ≠ 0) by simp [hm]), if_neg (show ¬ (f.mayE mode [a, b] ≠ 0) by simp [hm]), if_pos hi, if_pos hi, if_neg (show ¬ (false = true) by simp)]
  have hs : (f.sn a != f.sn f.one) = f.sn a := by rw [o3]; cases f.sn a <;> rfl
  rw [addR_num hm hi, fmaR_num (by rw [em]; exact hm) (by rw [en]; exact hi), hv, hs]
  by_cases h1 : f.cl a = 3
  · by_cases h2 : f.cl b = 3
    · have ea := inf_eq h ha h1
      have eb := inf_eq h hb h2
      by_cases e : a = b
      · rw [sumR_i h1 (fun _ => e), if_neg (fun k => k.elim (fun k => Bool.noConfusion k) (fun k => k.2.2 (by rw [e]))), if_pos (.inl h1), ← ea]
      · rw [sumR_ii h1 h2 e, if_pos (.inr ⟨.inl h1, h2, fun k => e (by rw [ea, eb, k])⟩)]
    · rw [sumR_i h1 (fun k => absurd k h2), if_neg (fun k => k.elim (fun k => Bool.noConfusion k) (fun k => h2 k.2.1)), if_pos (.inl h1), ← inf_eq h ha h1]
  have h3 : ¬ (f.cl a = 3 ∨ f.cl f.one = 3) := by omega
  by_cases h2 : f.cl b = 3
  · rw [sumR_j h1 h2, if_neg (fun k => k.elim (fun k => Bool.noConfusion k) (fun k => h3 k.1)), if_neg h3, if_pos h2]
  have i1 := numbers hi
  have a2 : f.cl a ≤ 2 := by omega
  have b2 : f.cl b ≤ 2 := by omega
  have za := val_zero ha a2
  have zb := val_zero hb b2
  rw [sumR_f h1 h2, o4, mul_one' (val_plain ha a2) (val_may h a)]
  by_cases e : f.cl a = 0 ∧ a = b
  · rw [if_pos e, if_neg (fun k => k.elim (fun k => Bool.noConfusion k) (fun k => h3 k.1)), if_neg h3, if_neg h2, if_pos ⟨za.2 e.1, zb.2 (by rw [← e.2]; exact e.1), by rw [e.2]⟩]
  · rw [if_neg e, if_neg (fun k => k.elim (fun k => Bool.noConfusion k) (fun k => h3 k.1)), if_neg h3, if_neg h2, if_neg]
    rintro ⟨k1, k2, k3⟩
    have ca := za.1 k1
    have cb := zb.1 k2
    exact e ⟨ca, by rw [zero_eq h ha ca, zero_eq h hb cb, k3]⟩
/-- Fma with a zero of the product's sign is Mul. -/
theorem fma_zero (h : f.ok) (mode : Int) (a b : Nat) : f.mulR mode a b = f.fmaR mode a b (f.bld (f.sn a != f.sn b) 0 0) := by
  obtain ⟨z1, z2, z3, z4⟩ := zero_bits h (f.sn a != f.sn b)
  have em := mayE_end mode a b z1
  have en : f.noneR [a, b, f.bld (f.sn a != f.sn b) 0 0] = f.noneR [a, b] := noneR_end (by omega)
  by_cases hm : f.mayE mode [a, b] = 0
  case neg =>
    unfold mulR fmaR
    rw [em, if_pos hm, if_pos hm]
  by_cases hi : (f.noneR [a, b]).2.2 = true
  · have hv : ¬ f.vain a b = true := by
      have := noneR2_is.1 hi
      unfold vain; rw [decide_eq_true_eq]; omega
    unfold mulR fmaR
    rw [em, en, if_neg (show ¬ (f.mayE mode [a, b] ≠ 0) by simp [hm]), if_neg (show ¬ (f.mayE mode [a, b] ≠ 0) by simp [hm]), if_pos hi, if_pos hi, if_neg hv]
  rw [mulR_num hm hi, fmaR_num (by rw [em]; exact hm) (by rw [en]; exact hi)]
  by_cases hv : f.vain a b = true
  · rw [if_pos hv, if_pos (.inl hv)]
  by_cases h3 : f.cl a = 3 ∨ f.cl b = 3
  · rw [if_neg hv, if_pos h3, if_neg (fun k => k.elim hv (fun k => by have := k.2.1; omega)), if_pos h3]
  obtain ⟨r, er, pr, mr, _⟩ := fin_mul h (a := a) (b := b)
  have zn := (val_zero z1 (by omega)).2 z2
  rw [er]
  dsimp only
  rw [add_zero' pr mr zn (val_may h _), z3]
  rw [if_neg hv, if_neg h3, if_neg (fun k => k.elim hv (fun k => h3 k.1)), if_neg h3, if_neg (by omega)]
  by_cases r0 : r.n = 0
  · rw [if_pos ⟨r0, zn, rfl⟩]
  · exact rto_sign r0 _ _
theorem non_facts (h : f.ok) : f.non < 2 ^ (f.p + f.w) ∧ f.cl f.non = 4 := by rcases h with rfl | rfl | rfl <;> decide +kernel
theorem qui_facts (h : f.ok) (hb : b < 2 ^ (f.p + f.w)) (h4 : 4 ≤ f.cl b) : f.qui b < 2 ^ (f.p + f.w) ∧ f.cl (f.qui b) = 4 := by
  have hB := bounds h
  have e1 := ex_lt (f := f) (b := b)
  have e2 := fr_lt h (b := b)
  have hp2 : 2 ^ (f.p - 1) = 2 * 2 ^ (f.p - 2) := by rw [← Nat.pow_succ']; congr 1; omega
  have hx : (if f.fr b < 2 ^ (f.p - 2) then f.fr b + 2 ^ (f.p - 2) else f.fr b) < 2 ^ (f.p - 1) ∧ 2 ^ (f.p - 2) ≤ (if f.fr b < 2 ^ (f.p - 2) then f.fr b + 2 ^ (f.p - 2) else f.fr b) := by split <;> omega
  have p := bld_parts h (neg := f.sn b) e1 hx.1
  have hp0 := Nat.two_pow_pos (f.p - 2)
  have ek : ¬ f.ex b = 0 ∧ ¬ f.ex b < 2 ^ f.w - 1 := by
    unfold cl at h4
    split at h4
    · split at h4 <;> omega
    · split at h4
      · omega
      · exact ⟨by assumption, by assumption⟩
  refine ⟨bld_lt h e1 hx.1, ?_⟩
  unfold qui
  unfold cl
  rw [p.2.1, p.2.2, if_neg ek.1, if_neg ek.2, if_neg (by omega), if_pos hx.2]
/-- What the first steps tell of operands of which one is no number. -/
theorem nstep_ok (h : f.ok) {r : Nat × Int × Bool} {x : Nat} (hx : x < 2 ^ (f.p + f.w)) (hr : r.2.2 = true → r.1 < 2 ^ (f.p + f.w) ∧ f.cl r.1 = 4) (hf : r.2.1 = 0 ∨ r.2.1 = 16) :
    ((f.nstep r x).2.2 = true → (f.nstep r x).1 < 2 ^ (f.p + f.w) ∧ f.cl (f.nstep r x).1 = 4) ∧ ((f.nstep r x).2.1 = 0 ∨ (f.nstep r x).2.1 = 16) := by
  unfold nstep
  by_cases h4 : f.cl x < 4
  · rw [if_pos h4]; exact ⟨hr, hf⟩
  · rw [if_neg h4]
    dsimp only
    refine ⟨fun _ => ?_, ?_⟩
    · by_cases k : r.2.2 = true
      · rw [if_pos k]; exact hr k
      · rw [if_neg k]; exact qui_facts h hx (by omega)
    · split
      · exact .inr rfl
      · exact hf
theorem noneR3_ok (h : f.ok) (ha : a < 2 ^ (f.p + f.w)) (hb : b < 2 ^ (f.p + f.w)) (hc : c < 2 ^ (f.p + f.w)) : ((f.noneR [a, b, c]).2.2 = true → (f.noneR [a, b, c]).1 < 2 ^ (f.p + f.w) ∧ f.cl (f.noneR [a, b, c]).1 = 4) ∧ ((f.noneR [a, b, c]).2.1 = 0 ∨ (f.noneR [a, b, c]).2.1 = 16) := by
  have s1 := nstep_ok h (r := (0, 0, false)) ha (fun k => by cases k) (.inl rfl)
  have s2 := nstep_ok h hb s1.1 s1.2
  have s3 := nstep_ok h hc s2.1 s2.2
  unfold noneR
  simp only [List.foldl_cons, List.foldl_nil]
  exact s3
/-- What Fma tells, at all. -/
theorem again (h : f.ok) (mode : Int) (a b c : Nat) :
    (f.fmaR mode a b c = (0, 0, 1) ∧ (mode < 0 ∨ 5 ≤ mode)) ∨ (f.fmaR mode a b c = (0, 0, 3) ∧ 0 ≤ mode ∧ mode < 5) ∨
    (∃ t fl, f.fmaR mode a b c = (t, fl, 0) ∧ t < 2 ^ (f.p + f.w) ∧ (a < 2 ^ (f.p + f.w) ∧ b < 2 ^ (f.p + f.w) ∧ c < 2 ^ (f.p + f.w)) ∧
      (((f.cl a < 4 ∧ f.cl b < 4 ∧ f.cl c < 4) ∧ ((f.cl t = 4 ∧ fl = 16) ∨ (f.cl t ≤ 3 ∧ (fl = 0 ∨ fl = 1 ∨ fl = 3 ∨ fl = 5)))) ∨ (¬ (f.cl a < 4 ∧ f.cl b < 4 ∧ f.cl c < 4) ∧ f.cl t = 4 ∧ (fl = 0 ∨ fl = 16)))) := by
  unfold fmaR
  by_cases hm : f.mayE mode [a, b, c] = 0
  case neg =>
    rw [if_pos hm]
    unfold mayE at hm ⊢
    by_cases k : mode < 0 ∨ 5 ≤ mode
    · rw [if_pos k]; exact .inl ⟨rfl, k⟩
    · rw [if_neg k] at hm ⊢
      split at hm
      · exact absurd rfl hm
      · rename_i k2; rw [if_neg k2]; exact .inr (.inl ⟨rfl, by omega, by omega⟩)
  rw [if_neg (show ¬ (f.mayE mode [a, b, c] ≠ 0) by simp [hm])]
  obtain ⟨hmo, hl⟩ := mayE_zero hm
  have ha := hl a (by simp)
  have hb := hl b (by simp)
  have hc := hl c (by simp)
  right; right
  obtain ⟨n1, n2⟩ := noneR3_ok h ha hb hc
  by_cases hi : (f.noneR [a, b, c]).2.2 = true
  · rw [if_pos hi]
    have k := noneR3_is.1 hi
    refine ⟨_, _, rfl, (n1 hi).1, ⟨ha, hb, hc⟩, .inr ⟨by omega, (n1 hi).2, ?_⟩⟩
    split
    · exact .inr rfl
    · exact n2
  rw [if_neg hi]
  have hnum : f.cl a < 4 ∧ f.cl b < 4 ∧ f.cl c < 4 := by
    have k := mt noneR3_is.2 hi
    omega
  have nf := non_facts h
  split
  · exact ⟨_, _, rfl, nf.1, ⟨ha, hb, hc⟩, .inl ⟨hnum, .inl ⟨nf.2, rfl⟩⟩⟩
  split
  · obtain ⟨g1, g2, g3⟩ := inf_cl h (f.sn a != f.sn b)
    exact ⟨_, _, rfl, g2, ⟨ha, hb, hc⟩, .inl ⟨hnum, .inr ⟨by omega, .inl rfl⟩⟩⟩
  split
  · exact ⟨_, _, rfl, hc, ⟨ha, hb, hc⟩, .inl ⟨hnum, .inr ⟨by omega, .inl rfl⟩⟩⟩
  obtain ⟨q, eq, pq, mq, _⟩ := fin_mul h (a := a) (b := b)
  obtain ⟨r, er, pr, mr, vr⟩ := fin_fma h (c := c) eq
  rw [eq]
  dsimp only
  rw [er]
  dsimp only
  obtain ⟨t, fl, e1, t1, t2, t3, _⟩ := rto_out h hmo mr (if q.n = 0 ∧ (f.val c).1.n = 0 ∧ f.sn c = (f.sn a != f.sn b) then (f.sn a != f.sn b) else decide (mode = 2))
  exact ⟨t, fl, e1, t1, ⟨ha, hb, hc⟩, .inl ⟨hnum, .inr ⟨t2, t3⟩⟩⟩
end
end Fm
end Go.Proofs.YtlaffgojgfdlnaaGreat.N
set_option linter.unusedVariables false
namespace Go.Proofs.YtlaffgojgfdlnaaGreat.N
open Go.RowKit Go.Proofs.YtlaffgojgfdlnaaGreat.P Go.Proofs.YtlaffgojgfdlnaaGreatW.PrintWords Go.Proofs.YtlaffgojgfdlnaaGreatW.PrintMore Sk
open Dy
namespace Fm
section
variable {f : Fm} {a b c : Nat} {mode : Int}
theorem put_plain {d : Dy} (m : d.may = true) (mp : d.plain.may = true) : f.put d.plain = f.put d := by
  by_cases h0 : d.n = 0
  · unfold put; rw [if_pos mp, if_pos m, if_pos (plain_n.2 h0), if_pos h0]
  · unfold put; rw [if_pos mp, if_pos m, if_neg (fun k => h0 (plain_n.1 k)), if_neg h0, plain_plain, plain_neg h0]
/-- The number that is chosen, of a number in plain form. -/
def chosen (f : Fm) (mode : Int) (q : Dy) : Dy := Dy.plain ⟨false, f.ctn q + (if f.ctu mode q = true then 1 else 0), f.plc q⟩
/-- What reference 4 does with what is chosen is what rounding tells. -/
theorem rto_chosen (h : f.ok) (hm : 0 ≤ mode ∧ mode < 5) {d : Dy} (hr : rmay d = true) (h0 : d.n ≠ 0) (neg : Bool) :
    (f.chosen mode d.plain).may = true ∧ nlen (f.chosen mode d.plain).n ≤ 60 ∧
    ((Dy.cmp (f.chosen mode d.plain) (f.val (f.grt false)).1 = (1, 0) ∧ f.rto mode d neg = (f.beyond mode d.neg, 5, 0)) ∨
     (∃ c0 c1 b0 fl, Dy.cmp (f.chosen mode d.plain) (f.val (f.grt false)).1 = (c0, 0) ∧ ¬ c0 > 0 ∧ Dy.cmp (f.chosen mode d.plain) ⟨false, d.plain.n, d.plain.e⟩ = (c1, 0) ∧ f.put (f.chosen mode d.plain) = (b0, 0) ∧ b0 < 2 ^ (f.p + f.w - 1) ∧
       f.rto mode d neg = (b0 + (if d.neg = true then 2 ^ (f.p + f.w - 1) else 0), fl, 0) ∧ fl = (if c1 ≠ 0 then (if f.tny d.plain = true then 3 else 1) else 0))) := by
  have hB := bounds h
  obtain ⟨m1, m2, m3⟩ := rmay_iff.1 hr
  have b1 := may_iff.1 m2
  have ge := plain_e_ge d h0
  have q0 : d.plain.n ≠ 0 := fun e => h0 (plain_n.1 e)
  have qn := plain_neg h0
  have e1 : f.rto mode d neg = f.rpl mode d.plain := by unfold rto; rw [if_neg (by omega), if_pos hr, if_neg h0]
  obtain ⟨E, hE⟩ : ∃ E, E = min d.e f.low := ⟨_, rfl⟩
  obtain ⟨s, hs⟩ : ∃ s, s = (f.low - E).toNat := ⟨_, rfl⟩
  obtain ⟨x, hx⟩ : ∃ x, x = d.dv E := ⟨_, rfl⟩
  have hEd : E ≤ d.e := by omega
  have hEf : E ≤ f.low := by omega
  have hx' : x = d.plain.dv E := by rw [hx, dv_plain hEd]
  unfold chosen
  rw [← qn]
  have m3 := m3.resolve_left h0
  generalize d.plain = q at *
  obtain ⟨c1, c2, c3, c4, c5⟩ := cut_eq q0 (by omega) (by omega) hx' hs
  have kg := kp_ge f.p s x
  have eN : f.ctn q + (if f.ctu mode q = true then 1 else 0) = rn mode q.neg (kp f.p s x) x := by
    unfold rn ups ctu; rw [c2, c3, c4]
  have rl := rn_le mode q.neg f.p s x
  have hrd : rd mode q.neg f.p s x = rn mode q.neg (kp f.p s x) x * 2 ^ kp f.p s x := rfl
  have plb : f.low ≤ f.plc q ∧ f.plc q ≤ 8000 := by unfold plc; omega
  have rb := rn_bounds mode q.neg (kp f.p s x) x
  unfold rpl at e1
  rw [eN] at e1 ⊢
  generalize hNN : rn mode q.neg (kp f.p s x) x = N at *
  have nN : nlen N ≤ 54 := nlen_le_iff.2 (Nat.lt_of_le_of_lt rl.1 (Nat.pow_lt_pow_right (by omega) (by omega)))
  have vX : Va (Dy.plain ⟨false, N, f.plc q⟩) E ((N * 2 ^ kp f.p s x : Nat) : Int) := by
    refine Va.plain (a := ⟨false, N, f.plc q⟩) ⟨fun _ => by dsimp only; omega, ?_⟩
    unfold Dy.sv; rw [if_neg (by simp)]; unfold Dy.dv; dsimp only
    rw [show (f.plc q - E).toNat = kp f.p s x by omega]
  have mX : (Dy.plain ⟨false, N, f.plc q⟩).may = true := by
    by_cases z : N = 0
    · rw [plain_zero (a := ⟨false, N, f.plc q⟩) z]; decide +kernel
    · have g1 := plain_e_ge ⟨false, N, f.plc q⟩ z
      have g2 := top_plain (a := ⟨false, N, f.plc q⟩) z
      have g3 := plain_nlen_le ⟨false, N, f.plc q⟩
      have g4 := nlen_eq_zero (n := (Dy.plain ⟨false, N, f.plc q⟩).n)
      have g5 : (Dy.plain ⟨false, N, f.plc q⟩).n ≠ 0 := fun k => z (plain_n.1 k)
      dsimp only at g1 g2 g3
      exact may_of (k := 61) (by omega) (by omega) (by omega) (by omega)
  have mN : (⟨false, N, f.plc q⟩ : Dy).may = true := may_of (k := 61) (by dsimp only; omega) (by omega) (by dsimp only; omega) (by dsimp only; omega)
  have pX := put_plain (f := f) mN mX
  obtain ⟨gc, gl, gs, gz⟩ := grt_cl h false
  have vG := val_va gl (by omega) (E := E) (s := s) (by omega)
  rw [gs, if_neg (by simp)] at vG
  have cG := cmp_va mX (val_may h (f.grt false)) vX vG
  have vq : Va ⟨false, q.n, q.e⟩ E ((x : Nat) : Int) := by
    refine ⟨fun _ => by dsimp only; omega, ?_⟩
    unfold Dy.sv; rw [if_neg (by simp), hx']; rfl
  have cq := cmp_va mX (show (⟨false, q.n, q.e⟩ : Dy).may = true from m2) vX vq
  refine ⟨mX, by have := plain_nlen_le ⟨false, N, f.plc q⟩; dsimp only at this; omega, ?_⟩
  have sp := rto_spec h hm hr h0 neg (E := E) hEd hEf hx hs
  rw [← qn] at sp
  rcases sp with ⟨l1, b, e2, b1', b2, b3, b4⟩ | ⟨l1, e2⟩
  case inr =>
    left
    refine ⟨?_, e2⟩
    rw [cG]
    have := grt_lt h s
    rw [hrd] at l1
    unfold sI; rw [if_neg (by omega), if_neg (by omega)]
  right
  have le := sz_le_grt h b1' b2
  have le2 : f.sz b * 2 ^ s ≤ f.sz (f.grt false) * 2 ^ s := Nat.mul_le_mul_right _ le
  rw [hrd] at b4
  -- the bits
  have bits : ∃ b0, f.put (Dy.plain ⟨false, N, f.plc q⟩) = (b0, 0) ∧ b0 < 2 ^ (f.p + f.w - 1) ∧ b = b0 + (if q.neg = true then 2 ^ (f.p + f.w - 1) else 0) := by
    obtain ⟨dd, ld, zd, cd, ed⟩ := red h b1'
    rw [b3] at ed
    rw [pX]
    by_cases hN : N = 0
    · refine ⟨0, by rw [hN]; exact put_zero (by omega) (by omega), Nat.two_pow_pos _, ?_⟩
      have z : f.sz b = 0 := by
        rw [hN, Nat.zero_mul] at b4
        rcases Nat.mul_eq_zero.1 b4 with z | z
        · exact z
        · have := Nat.two_pow_pos s; omega
      have := sz_zero_bits h b1' z
      rw [b3] at this
      rw [this]; unfold bld; simp
    · obtain ⟨k, hk⟩ : ∃ k, k = kp f.p s x - s := ⟨_, rfl⟩
      have ec : f.plc q = f.low + k := by omega
      have hk1 : k = 0 ∨ 2 ^ (f.p - 1) ≤ N := by
        by_cases z : k = 0
        · exact .inl z
        · exact .inr (rl.2 (by omega) (by omega))
      have en := (enc h (neg := false) (N := N) (c := k) hN rl.1 hk1 (by omega)).1 (by
        have : N * 2 ^ k * 2 ^ s < 2 ^ f.ov * 2 ^ s := by
          rw [Nat.mul_assoc, ← Nat.pow_add, ← Nat.pow_add, show k + s = kp f.p s x by omega, Nat.add_comm f.ov]
          rw [hrd] at l1; exact l1
        exact Nat.lt_of_mul_lt_mul_right this)
      rw [← ec] at en
      obtain ⟨b0, p1, p2, p3, p4, p5⟩ := en
      obtain ⟨d0, ld0, zd0, cd0, ed0⟩ := red h p2
      rw [p4, if_neg (by simp), Nat.add_zero] at ed0
      subst ed0
      refine ⟨b0, p1, ld0, ?_⟩
      have zz : f.sz b0 = f.sz dd := by
        rw [← zd, p5]
        have : f.sz b * 2 ^ s = N * 2 ^ k * 2 ^ s := by rw [b4, Nat.mul_assoc, ← Nat.pow_add, show k + s = kp f.p s x by omega]
        exact (Nat.eq_of_mul_eq_mul_right (Nat.two_pow_pos s) this).symm
      rw [sz_low_inj h ld0 ld zz]; exact ed
  obtain ⟨b0, p1, p2, p3⟩ := bits
  refine ⟨_, _, b0, _, cG, ?_, cq, p1, p2, by rw [e2, p3], ?_⟩
  · have : ((N * 2 ^ kp f.p s x : Nat) : Int) - ((f.sz (f.grt false) * 2 ^ s : Nat) : Int) ≤ 0 := by omega
    unfold sI; split
    · omega
    · rw [if_pos (by omega)]; omega
  · unfold fl tny
    by_cases hx0 : x % 2 ^ kp f.p s x = 0
    · have := rb.2.2.1 hx0
      rw [if_pos hx0, this, Int.sub_self, if_neg (by simp [sI])]
    · have hm0 : N * 2 ^ kp f.p s x % 2 ^ kp f.p s x = 0 := Nat.mul_mod_left _ _
      have ne : N * 2 ^ kp f.p s x ≠ x := fun e => hx0 (by rw [e] at hm0; exact hm0)
      have hs' : sI (((N * 2 ^ kp f.p s x : Nat) : Int) - ((x : Nat) : Int)) ≠ 0 := by unfold sI; split <;> (try split) <;> omega
      rw [if_neg hx0]
      by_cases ht : nlen x < f.p + s
      · rw [if_pos ht, if_pos hs', if_pos (decide_eq_true (by omega))]
      · rw [if_neg ht, if_pos hs', if_neg (by rw [decide_eq_true_eq]; omega)]
theorem trn_all (h : f.ok) (a : Nat) : f.trn a = f.bld (!f.sn a) (f.ex a) (f.fr a) := by
  obtain ⟨m1, m2, m3⟩ := sn_mod h (b := a)
  have := trn_eq h (b := a % 2 ^ (f.p + f.w)) (Nat.mod_lt _ (Nat.two_pow_pos _))
  rw [m1, m2, m3] at this
  rw [← this]; unfold trn; rw [Nat.mod_mod]
/-- Differences by sums. -/
theorem sub_add (h : f.ok) (mode : Int) (a b : Nat) : f.subR mode a b = if f.mayE mode [a, b] = 0 ∧ f.cl b < 4 then f.addR mode a (f.trn b) else f.addR mode a b := by
  by_cases hm : f.mayE mode [a, b] = 0
  case neg =>
    rw [if_neg (fun k => hm k.1)]
    unfold subR addR; rw [if_pos hm, if_pos hm]
  obtain ⟨hmo, hl⟩ := mayE_zero hm
  have ha := hl a (by simp)
  have hb := hl b (by simp)
  by_cases h4 : f.cl b < 4
  · rw [if_pos ⟨hm, h4⟩]
    obtain ⟨t1, t2, t3, t4⟩ := trn_facts h hb
    have e : f.mayE mode [a, f.trn b] = f.mayE mode [a, b] := by
      unfold mayE; simp only [List.all_cons, List.all_nil, Bool.and_true]; rw [decide_eq_true hb, decide_eq_true t1]
    have en : f.noneR [a, f.trn b] = f.noneR [a, b] := by
      unfold noneR; simp only [List.foldl_cons, List.foldl_nil]; rw [nstep_skip h4, nstep_skip (by omega)]
    unfold subR addR
    rw [e, en]
  · rw [if_neg (fun k => h4 k.2)]
    have hi : (f.noneR [a, b]).2.2 = true := noneR2_is.2 (by omega)
    unfold subR addR
    rw [if_pos hi, if_pos hi]
/-- The first that is no number; whether one is signalling. -/
def firstR (f : Fm) : List Nat → Nat × Bool
  | [] => (0, false)
  | b :: l => if 4 ≤ f.cl b then (f.qui b, true) else f.firstR l
def sigR (f : Fm) : List Nat → Bool
  | [] => false
  | b :: l => if f.cl b = 5 then true else f.sigR l
theorem none_first (l : List Nat) (r : Nat × Int × Bool) (hr : r.2.1 = 0 ∨ r.2.1 = 16) : l.foldl f.nstep r = (if r.2.2 = true then r.1 else if (f.firstR l).2 = true then (f.firstR l).1 else r.1, if f.sigR l = true then 16 else r.2.1, r.2.2 || (f.firstR l).2) := by
  induction l generalizing r with
  | nil => obtain ⟨x, y, z⟩ := r; cases z <;> simp [firstR, sigR]
  | cons b l ih =>
    rw [List.foldl_cons, ih _ (by unfold nstep; split; exact hr; dsimp only; split; exact .inr rfl; exact hr)]
    rw [show f.firstR (b :: l) = if 4 ≤ f.cl b then (f.qui b, true) else f.firstR l from rfl, show f.sigR (b :: l) = if f.cl b = 5 then true else f.sigR l from rfl]
    unfold nstep
    by_cases h4 : f.cl b < 4
    · rw [if_pos h4, if_neg (show ¬ 4 ≤ f.cl b by omega), if_neg (show ¬ f.cl b = 5 by omega)]
    · rw [if_neg h4, if_pos (show 4 ≤ f.cl b by omega)]
      dsimp only
      by_cases h5 : f.cl b = 5
      · rw [if_pos h5, if_pos h5]
        obtain ⟨x, y, z⟩ := r
        cases z <;> simp
      · rw [if_neg h5, if_neg h5]
        obtain ⟨x, y, z⟩ := r
        cases z <;> simp
theorem noneR_first (l : List Nat) : f.noneR l = (if (f.firstR l).2 = true then (f.firstR l).1 else 0, if f.sigR l = true then 16 else 0, (f.firstR l).2) := by
  unfold noneR; rw [none_first l _ (.inl rfl)]; simp
end
end Fm
end Go.Proofs.YtlaffgojgfdlnaaGreat.N
