/- What sums, differences, products and both at once of bits are told to be, for all bits of the three formats. Sums and products of finite numbers of the three formats are told, and what rounding tells of them, for all bits. The mathematics of the laws IeeeTurned, IeeeOne, IeeeUnit and IeeeAgain, for all bits of the three formats. -/
import Derived.Test.YtlaffgojgfdlnaaN48
import Derived.Test.YtlaffgojgfdlnaaPx0
set_option linter.unusedVariables false
namespace Go.Proofs.Ytlaffgojgfdlnaa.N
open Go.RowKit Go.Proofs.Ytlaffgojgfdlnaa.P Go.Proofs.YtlaffgojgfdlnaaW.PrintWords Go.Proofs.YtlaffgojgfdlnaaW.PrintMore Sk
open Dy
/-! ### What ieee's functions tell -/
namespace Fm
/-- Why operands may not be taken. -/
def mayE (f : Fm) (mode : Int) (l : List Nat) : Int := if mode < 0 ∨ 5 ≤ mode then 1 else if l.all (fun b => decide (b < 2 ^ (f.p + f.w))) = true then 0 else 3
/-- The first that is no number, quieted; the flags; whether there is one. -/
def nstep (f : Fm) (r : Nat × Int × Bool) (b : Nat) : Nat × Int × Bool :=
  if f.cl b < 4 then r else (if r.2.2 = true then r.1 else f.qui b, if f.cl b = 5 then 16 else r.2.1, true)
def noneR (f : Fm) (l : List Nat) : Nat × Int × Bool := l.foldl f.nstep (0, 0, false)
def trn (f : Fm) (a : Nat) : Nat := (a % 2 ^ (f.p + f.w)) ^^^ 2 ^ (f.p + f.w - 1)
def sumR (f : Fm) (mode : Int) (a b : Nat) : Nat × Int × Int :=
  if f.cl a = 3 ∧ f.cl b = 3 ∧ a ≠ b then (f.non, 16, 0) else if f.cl a = 3 then (a, 0, 0) else if f.cl b = 3 then (b, 0, 0) else
    f.rto mode (add (f.val a).1 (f.val b).1).1 (if f.cl a = 0 ∧ a = b then f.sn a else decide (mode = 2))
def addR (f : Fm) (mode : Int) (a b : Nat) : Nat × Int × Int :=
  if f.mayE mode [a, b] ≠ 0 then (0, 0, f.mayE mode [a, b]) else if (f.noneR [a, b]).2.2 = true then ((f.noneR [a, b]).1, (f.noneR [a, b]).2.1, 0) else f.sumR mode a b
def subR (f : Fm) (mode : Int) (a b : Nat) : Nat × Int × Int :=
  if f.mayE mode [a, b] ≠ 0 then (0, 0, f.mayE mode [a, b]) else if (f.noneR [a, b]).2.2 = true then ((f.noneR [a, b]).1, (f.noneR [a, b]).2.1, 0) else f.sumR mode a (f.trn b)
def vain (f : Fm) (a b : Nat) : Bool := decide ((f.cl a = 3 ∧ f.cl b = 0) ∨ (f.cl b = 3 ∧ f.cl a = 0))
def mulR (f : Fm) (mode : Int) (a b : Nat) : Nat × Int × Int :=
  if f.mayE mode [a, b] ≠ 0 then (0, 0, f.mayE mode [a, b]) else if (f.noneR [a, b]).2.2 = true then ((f.noneR [a, b]).1, (f.noneR [a, b]).2.1, 0) else
    if f.vain a b = true then (f.non, 16, 0) else if f.cl a = 3 ∨ f.cl b = 3 then (f.inf (f.sn a != f.sn b), 0, 0) else f.rto mode (mul (f.val a).1 (f.val b).1).1 (f.sn a != f.sn b)
def fmaR (f : Fm) (mode : Int) (a b c : Nat) : Nat × Int × Int :=
  if f.mayE mode [a, b, c] ≠ 0 then (0, 0, f.mayE mode [a, b, c]) else
    if (f.noneR [a, b, c]).2.2 = true then ((f.noneR [a, b, c]).1, if f.vain a b = true then 16 else (f.noneR [a, b, c]).2.1, 0) else
    if f.vain a b = true ∨ ((f.cl a = 3 ∨ f.cl b = 3) ∧ f.cl c = 3 ∧ f.sn c ≠ (f.sn a != f.sn b)) then (f.non, 16, 0) else
    if f.cl a = 3 ∨ f.cl b = 3 then (f.inf (f.sn a != f.sn b), 0, 0) else if f.cl c = 3 then (c, 0, 0) else
    f.rto mode (add (mul (f.val a).1 (f.val b).1).1 (f.val c).1).1
      (if (mul (f.val a).1 (f.val b).1).1.n = 0 ∧ (f.val c).1.n = 0 ∧ f.sn c = (f.sn a != f.sn b) then (f.sn a != f.sn b) else decide (mode = 2))
end Fm
end Go.Proofs.Ytlaffgojgfdlnaa.N
set_option linter.unusedVariables false
namespace Go.Proofs.Ytlaffgojgfdlnaa.N
open Go.RowKit Go.Proofs.Ytlaffgojgfdlnaa.P Go.Proofs.YtlaffgojgfdlnaaW.PrintWords Go.Proofs.YtlaffgojgfdlnaaW.PrintMore Sk
open Dy
/-! ### Sums and products, turned about -/
theorem sumAt_comm (a b : Dy) (E : Int) : (sumAt a b E).plain = (sumAt b a E).plain := by
  unfold sumAt
  by_cases hn : a.neg = b.neg
  · rw [if_pos hn, if_pos (show b.neg = a.neg from hn.symm), hn, Nat.add_comm]
  · rw [if_neg hn, if_neg (show ¬ b.neg = a.neg from fun k => hn k.symm)]
    by_cases h1 : b.dv E ≤ a.dv E
    · rw [if_pos h1]
      by_cases h2 : a.dv E ≤ b.dv E
      · rw [if_pos h2, plain_zero (a := ⟨a.neg, a.dv E - b.dv E, E⟩) (by dsimp only; omega), plain_zero (a := ⟨b.neg, b.dv E - a.dv E, E⟩) (by dsimp only; omega)]
      · rw [if_neg h2]
    · rw [if_neg h1, if_pos (by omega)]
theorem add_comm' (a b : Dy) : Dy.add a b = Dy.add b a := by
  unfold Dy.add
  by_cases h : a.may = true ∧ b.may = true
  · rw [if_pos h, if_pos (show b.may = true ∧ a.may = true from ⟨h.2, h.1⟩)]
    by_cases ha : a.n = 0
    · by_cases hb : b.n = 0
      · simp only [if_pos ha, if_pos hb]; rw [told_zero ha, told_zero hb]
      · simp only [if_pos ha, if_neg hb]
    · by_cases hb : b.n = 0
      · simp only [if_neg ha, if_pos hb]
      · simp only [if_neg ha, if_neg hb]
        refine told_congr ?_
        rw [sum_eq, sum_eq, sumAt_comm, Int.min_comm]
  · rw [if_neg h, if_neg (show ¬ (b.may = true ∧ a.may = true) from fun k => h ⟨k.2, k.1⟩)]
theorem told_plain_self {p : Dy} (pp : p.plain = p) (pm : p.may = true) : told p = (p, 0) := by rw [told_may (by rw [pp]; exact pm), pp]
theorem zero_of_plain {p : Dy} (pp : p.plain = p) (h0 : p.n = 0) : p = Dy.zero := by rw [← pp]; exact plain_zero h0
theorem add_zero' {p z : Dy} (pp : p.plain = p) (pm : p.may = true) (hz : z.n = 0) (zm : z.may = true) : Dy.add p z = (p, 0) := by
  unfold Dy.add
  rw [if_pos ⟨pm, zm⟩]
  by_cases h : p.n = 0
  · rw [if_pos h, told_zero hz, zero_of_plain pp h]
  · rw [if_neg h, if_pos hz, told_plain_self pp pm]
/-- A value at a lower place. -/
theorem Va.down {a : Dy} {E F x : Int} (h : Va a E x) (hF : F ≤ E) : Va a F (x * ((2 ^ (E - F).toNat : Nat) : Int)) := by
  by_cases h0 : a.n = 0
  · rw [h.at.1 h0, Int.zero_mul]; exact Va.zero h0 F
  · have he := h.1 h0
    refine ⟨fun _ => by omega, ?_⟩
    rw [← h.2]
    unfold Dy.sv
    rw [dv_down hF he, Int.natCast_mul]
    split
    · rw [Int.neg_mul]
    · rfl
theorem Va.uniq {a : Dy} {E x y : Int} (h1 : Va a E x) (h2 : Va a E y) : x = y := by rw [← h1.2, ← h2.2]
theorem Va.mulD {a b : Dy} {E F x y : Int} (ha : Va a E x) (hb : Va b F y) : Va ⟨a.neg != b.neg, a.n * b.n, a.e + b.e⟩ (E + F) (x * y) := by
  by_cases hz : a.n = 0 ∨ b.n = 0
  · have : x * y = 0 := by
      rcases hz with h | h
      · rw [(ha.at).1 h, Int.zero_mul]
      · rw [(hb.at).1 h, Int.mul_zero]
    rw [this]
    refine Va.zero ?_ _
    show a.n * b.n = 0
    rcases hz with h | h <;> rw [h] <;> simp
  · have ha0 : a.n ≠ 0 := fun e => hz (.inl e)
    have hb0 : b.n ≠ 0 := fun e => hz (.inr e)
    have ea := ha.1 ha0
    have eb := hb.1 hb0
    refine ⟨fun _ => by show E + F ≤ a.e + b.e; omega, ?_⟩
    rw [← ha.2, ← hb.2]
    have hd : (⟨a.neg != b.neg, a.n * b.n, a.e + b.e⟩ : Dy).dv (E + F) = a.dv E * b.dv F := by
      unfold Dy.dv; dsimp only
      rw [show (a.e + b.e - (E + F)).toNat = (a.e - E).toNat + (b.e - F).toNat by omega, Nat.pow_add]
      rw [Nat.mul_mul_mul_comm]
    unfold Dy.sv
    rw [hd]
    dsimp only
    rw [Int.natCast_mul]
    cases a.neg <;> cases b.neg <;> simp [Int.neg_mul, Int.mul_neg]
/-- A sum of numbers that aren't too far apart. -/
theorem sum_ok {p z : Dy} (pp : p.plain = p) (pm : p.may = true) (zp : z.plain = z) (zm : z.may = true) (h1 : p.n ≠ 0 → z.n ≠ 0 → p.e + nlen p.n - z.e ≤ 4000) (h2 : p.n ≠ 0 → z.n ≠ 0 → z.e + nlen z.n - p.e ≤ 4000) (h3 : nlen p.n ≤ 4000) (h4 : nlen z.n ≤ 4000) (h5 : -4000 ≤ p.e ∧ p.e ≤ 3000) (h6 : -4000 ≤ z.e ∧ z.e ≤ 3000) :
    ∃ r, Dy.add p z = (r, 0) ∧ r.plain = r ∧ rmay r = true ∧ (∀ E x y, Va p E x → Va z E y → Va r E (x + y)) := by
  by_cases p0 : p.n = 0
  · refine ⟨z, by rw [add_comm']; exact add_zero' zp zm p0 pm, zp, ?_, fun E x y hx hy => by rw [hx.at.1 p0, Int.zero_add]; exact hy⟩
    exact rmay_of h4 (by omega) (by omega)
  by_cases z0 : z.n = 0
  · refine ⟨p, add_zero' pp pm z0 zm, pp, ?_, fun E x y hx hy => by rw [hy.at.1 z0, Int.add_zero]; exact hx⟩
    exact rmay_of h3 (by omega) (by omega)
  have g1 := h1 p0 z0
  have g2 := h2 p0 z0
  obtain ⟨E0, hE0⟩ : ∃ E0, E0 = min p.e z.e := ⟨_, rfl⟩
  have vp := va_of (a := p) (E := E0) (by omega)
  have vz := va_of (a := z) (E := E0) (by omega)
  have n1 := sv_nlen (a := p) (E := E0) (by omega)
  have n2 := sv_nlen (a := z) (E := E0) (by omega)
  have n3 := nlen_addI (p.sv E0) (z.sv E0)
  obtain ⟨r, er, vr, mr, pr, nr⟩ := add_va pm zm vp vz (by omega) (by omega) (by omega)
  refine ⟨r, er, pr, ?_, fun E x y hx hy => ?_⟩
  · refine rmay_iff.2 ⟨mr, by rw [pr]; exact mr, ?_⟩
    by_cases r0 : r.n = 0
    · exact .inl r0
    · right
      rw [pr]
      have s := Fm.sv_sign r0 E0
      rw [vr.2] at s
      have : nlen (r.dv E0) = nlen r.n + (r.e - E0).toNat := nlen_mul_pow r0 _
      have := vr.1 r0
      rw [← s.2] at *
      omega
  · have hE : E ≤ E0 := by have := hx.1 p0; have := hy.1 z0; omega
    have e1 := (vp.down hE).uniq hx
    have e2 := (vz.down hE).uniq hy
    have := vr.down hE
    rw [Int.add_mul, e1, e2] at this
    exact this
namespace Fm
section
variable {f : Fm} {b : Nat}
theorem rto_sign {mode : Int} {d : Dy} (h0 : d.n ≠ 0) (n1 n2 : Bool) : f.rto mode d n1 = f.rto mode d n2 := by unfold rto; rw [if_neg h0, if_neg h0]
theorem rto_zero {mode : Int} (hm : 0 ≤ mode ∧ mode < 5) {d : Dy} (hr : rmay d = true) (h0 : d.n = 0) (n : Bool) : f.rto mode d n = (f.bld n 0 0, 0, 0) := by
  unfold rto; rw [if_neg (by omega), if_pos hr, if_pos h0]
theorem nstep_skip {r : Nat × Int × Bool} (h : f.cl b < 4) : f.nstep r b = r := if_pos h
theorem noneR_num {l : List Nat} (h : ∀ b ∈ l, f.cl b < 4) : f.noneR l = (0, 0, false) := by
  unfold noneR
  induction l with
  | nil => rfl
  | cons x l ih => rw [List.foldl_cons, nstep_skip (h x List.mem_cons_self)]; exact ih fun b hb => h b (List.mem_cons_of_mem _ hb)
theorem mayE_ok {mode : Int} (hm : 0 ≤ mode ∧ mode < 5) {l : List Nat} (h : ∀ b ∈ l, b < 2 ^ (f.p + f.w)) : f.mayE mode l = 0 := by
  unfold mayE
  rw [if_neg (by omega), if_pos (List.all_eq_true.2 fun b hb => decide_eq_true (h b hb))]
theorem mayE_zero {mode : Int} {l : List Nat} (h : f.mayE mode l = 0) : (0 ≤ mode ∧ mode < 5) ∧ ∀ b ∈ l, b < 2 ^ (f.p + f.w) := by
  unfold mayE at h
  by_cases hm : mode < 0 ∨ 5 ≤ mode
  · rw [if_pos hm] at h; omega
  · rw [if_neg hm] at h
    refine ⟨by omega, ?_⟩
    split at h
    · rename_i ha
      exact fun b hb => of_decide_eq_true (List.all_eq_true.1 ha b hb)
    · omega
theorem xor_low {d k : Nat} (hd : d < 2 ^ k) : d ^^^ 2 ^ k = d + 2 ^ k ∧ (d + 2 ^ k) ^^^ 2 ^ k = d := by
  have e := xor_high hd
  have e2 : d ^^^ 2 ^ k = d + 2 ^ k := by
    have : (d + 2 ^ k) ^^^ d ^^^ d = 2 ^ k ^^^ d := by rw [e]
    rw [Nat.xor_assoc, Nat.xor_self, Nat.xor_zero] at this
    rw [this, Nat.xor_comm]
  exact ⟨e2, by rw [← e2, Nat.xor_assoc, Nat.xor_self, Nat.xor_zero]⟩
theorem bld_low (h : f.ok) {e x : Nat} (he : e < 2 ^ f.w) (hx : x < 2 ^ (f.p - 1)) : e * 2 ^ (f.p - 1) + x < 2 ^ (f.p + f.w - 1) := by
  have hB := bounds h
  have e3 : 2 ^ (f.p + f.w - 1) = 2 ^ f.w * 2 ^ (f.p - 1) := by rw [← Nat.pow_add]; congr 1; omega
  have := Nat.mul_le_mul_right (2 ^ (f.p - 1)) (show e + 1 ≤ 2 ^ f.w from he)
  rw [Nat.add_mul] at this; omega
theorem trn_eq (h : f.ok) (hb : b < 2 ^ (f.p + f.w)) : f.trn b = f.bld (!f.sn b) (f.ex b) (f.fr b) := by
  have x := bld_self h (b := b)
  unfold trn
  rw [← x]
  have l := bld_low h (ex_lt (f := f) (b := b)) (fr_lt h (b := b))
  have k := xor_low l
  unfold bld
  cases f.sn b
  · simp only [Bool.false_eq_true, if_false, Bool.not_false, if_true, Nat.add_zero]; exact k.1
  · simp only [Bool.false_eq_true, if_false, Bool.not_true, if_true, Nat.add_zero]; exact k.2
theorem trn_facts (h : f.ok) (hb : b < 2 ^ (f.p + f.w)) : f.trn b < 2 ^ (f.p + f.w) ∧ f.cl (f.trn b) = f.cl b ∧ f.sn (f.trn b) = (!f.sn b) ∧ f.sz (f.trn b) = f.sz b := by
  have p := bld_parts h (neg := !f.sn b) (ex_lt (f := f) (b := b)) (fr_lt h (b := b))
  rw [trn_eq h hb]
  refine ⟨bld_lt h ex_lt (fr_lt h), ?_, p.1, ?_⟩
  · unfold cl; rw [p.2.1, p.2.2]
  · unfold sz mg; rw [p.2.1, p.2.2]
/-- The bits of 1. -/
def one (f : Fm) : Nat := f.bld false f.bias.toNat 0
theorem val_zero (hb : b < 2 ^ (f.p + f.w)) (hc : f.cl b ≤ 2) : (f.val b).1.n = 0 ↔ f.cl b = 0 := by
  rw [val_raw hb hc]; exact plain_n.trans mg_zero
/-- The size with its sign. -/
def sg (f : Fm) (b : Nat) : Int := if f.sn b = true then -((f.sz b : Nat) : Int) else ((f.sz b : Nat) : Int)
theorem val_sg (hb : b < 2 ^ (f.p + f.w)) (hc : f.cl b ≤ 2) : Va (f.val b).1 f.low (f.sg b) := by
  have := val_va hb hc (E := f.low) (s := 0) (by omega)
  rw [Nat.pow_zero, Nat.mul_one] at this
  exact this
theorem fin_sum (h : f.ok) {a b : Nat} : ∃ r, Dy.add (f.val a).1 (f.val b).1 = (r, 0) ∧ r.plain = r ∧ rmay r = true ∧ (∀ E x y, Va (f.val a).1 E x → Va (f.val b).1 E y → Va r E (x + y)) := by
  have ba := val_b h a
  have bb := val_b h b
  have pl : ∀ c, (f.val c).1.plain = (f.val c).1 := fun c => by
    unfold val; split
    · exact zero_plain
    split
    · exact zero_plain
    · exact plain_plain _
  exact sum_ok (pl a) (val_may h a) (pl b) (val_may h b) (by omega) (by omega) (by omega) (by omega) (by omega) (by omega)
theorem val_pl (c : Nat) : (f.val c).1.plain = (f.val c).1 := by
  unfold val; split
  · exact zero_plain
  split
  · exact zero_plain
  · exact plain_plain _
theorem fin_mul (h : f.ok) {a b : Nat} : ∃ r, Dy.mul (f.val a).1 (f.val b).1 = (r, 0) ∧ r.plain = r ∧ r.may = true ∧ nlen r.n ≤ 106 ∧ (r.n = 0 ∨ -2200 ≤ r.e ∧ r.e + nlen r.n ≤ 2506) ∧ (∀ E F x y, Va (f.val a).1 E x → Va (f.val b).1 F y → Va r (E + F) (x * y)) := by
  have ba := val_b h a
  have bb := val_b h b
  have hm := nlen_mul_le (f.val a).1.n (f.val b).1.n
  obtain ⟨d, hd⟩ : ∃ d : Dy, d = ⟨(f.val a).1.neg != (f.val b).1.neg, (f.val a).1.n * (f.val b).1.n, (f.val a).1.e + (f.val b).1.e⟩ := ⟨_, rfl⟩
  have dn : d.n = (f.val a).1.n * (f.val b).1.n := by rw [hd]
  have de : d.e = (f.val a).1.e + (f.val b).1.e := by rw [hd]
  have mp : d.plain.may = true := plain_may (by rw [dn]; omega) (by omega) (by omega)
  refine ⟨d.plain, ?_, plain_plain d, mp, ?_, ?_, fun E F x y hx hy => ?_⟩
  · unfold Dy.mul; rw [if_pos ⟨val_may h a, val_may h b⟩, ← hd]; exact told_may mp
  · have := plain_nlen_le d; rw [dn] at this; omega
  · by_cases d0 : d.n = 0
    · exact .inl (plain_n.2 d0)
    · right
      have g1 := plain_e_ge d d0
      have g2 := top_plain d0
      rw [dn] at g2
      exact ⟨by omega, by omega⟩
  · rw [hd]; exact (hx.mulD hy).plain
theorem mul_rmay (h : f.ok) {a b : Nat} {r : Dy} (hr : Dy.mul (f.val a).1 (f.val b).1 = (r, 0)) : rmay r = true := by
  obtain ⟨r', e, p, m, n, b, _⟩ := fin_mul h (a := a) (b := b)
  rw [hr] at e; cases e
  refine rmay_iff.2 ⟨m, by rw [p]; exact m, ?_⟩
  rw [p]
  exact b.imp id (fun k => by omega)
theorem fin_fma (h : f.ok) {a b c : Nat} {q : Dy} (hq : Dy.mul (f.val a).1 (f.val b).1 = (q, 0)) : ∃ r, Dy.add q (f.val c).1 = (r, 0) ∧ r.plain = r ∧ rmay r = true ∧ (∀ E x y, Va q E x → Va (f.val c).1 E y → Va r E (x + y)) := by
  obtain ⟨r', e, p, m, n, b, _⟩ := fin_mul h (a := a) (b := b)
  rw [hq] at e; cases e
  have bc := val_b h c
  by_cases q0 : q.n = 0
  · have := zero_of_plain p q0
    subst this
    exact sum_ok p m (val_pl c) (val_may h c) (fun k => absurd q0 k) (fun k => absurd q0 k) (by omega) (by omega) (by show -4000 ≤ (0 : Int) ∧ (0 : Int) ≤ 3000; omega) (by omega)
  · have b := b.resolve_left q0
    have : 0 < nlen q.n := by have := nlen_eq_zero (n := q.n); omega
    exact sum_ok p m (val_pl c) (val_may h c) (by omega) (by omega) (by omega) (by omega) (by omega) (by omega)
/-- What comes of rounding, at all. -/
theorem rto_out (h : f.ok) {mode : Int} (hm : 0 ≤ mode ∧ mode < 5) {d : Dy} (hr : rmay d = true) (n : Bool) : ∃ b fl, f.rto mode d n = (b, fl, 0) ∧ b < 2 ^ (f.p + f.w) ∧ f.cl b ≤ 3 ∧ (fl = 0 ∨ fl = 1 ∨ fl = 3 ∨ fl = 5) ∧ (d.n = 0 → f.sn b = n) ∧
    (∀ E X, E ≤ f.low → Va d E X → (fl = 0 → f.cl b ≤ 2 ∧ Va (f.val b).1 E X) ∧ (fl ≠ 0 → f.cl b ≤ 2 → ∃ Y, Y ≠ X ∧ Va (f.val b).1 E Y)) := by
  by_cases h0 : d.n = 0
  · obtain ⟨z1, z2, z3, z4⟩ := zero_bits h n
    refine ⟨_, _, rto_zero hm hr h0 n, z1, by omega, .inl rfl, fun _ => z3, fun E X hE hX => ⟨fun _ => ⟨by omega, ?_⟩, fun k => absurd rfl k⟩⟩
    rw [hX.at.1 h0]
    exact Va.zero ((val_zero z1 (by omega)).2 z2) E
  obtain ⟨E0, hE0⟩ : ∃ E0, E0 = min d.e f.low := ⟨_, rfl⟩
  have sp : ∀ E, E ≤ d.e → E ≤ f.low → _ := fun E h1 h2 => rto_spec h hm hr h0 n (E := E) h1 h2 rfl rfl
  have va : ∀ E X, E ≤ f.low → Va d E X → ∀ c, c < 2 ^ (f.p + f.w) → f.cl c ≤ 2 → f.sn c = d.neg → ∀ R, f.sz c * 2 ^ (f.low - E).toNat = R → Va (f.val c).1 E (if d.neg = true then -((R : Nat) : Int) else ((R : Nat) : Int)) := fun E X hE hX c c1 c2 c3 R hR => by
    have := val_va c1 c2 (E := E) (s := (f.low - E).toNat) (by omega)
    rw [c3, hR] at this; exact this
  have neq : ∀ E X, Va d E X → ∀ R : Nat, R ≠ d.dv E → (if d.neg = true then -((R : Nat) : Int) else ((R : Nat) : Int)) ≠ X := fun E X hX R hR => by
    rw [← hX.2]; unfold Dy.sv; split <;> omega
  rcases sp E0 (by omega) (by omega) with ⟨l1, b, e1, b1, b2, b3, b4⟩ | ⟨l1, e1⟩
  · refine ⟨b, _, e1, b1, by omega, (fl_cases _ _).imp id (fun k => k.imp id .inl), fun k => absurd k h0, fun E X hE hX => ?_⟩
    have hEd := hX.1 h0
    rcases sp E hEd hE with ⟨l2, c, e2, c1, c2, c3, c4⟩ | ⟨l2, e2⟩
    · have eq := e1.symm.trans e2
      have eb : b = c := congrArg (fun z => z.1) eq
      have ef : f.fl (f.low - E0).toNat (d.dv E0) = f.fl (f.low - E).toNat (d.dv E) := congrArg (fun z => z.2.1) eq
      subst eb
      rw [ef]
      have v := va E X hE hX b b1 b2 b3 _ c4
      have rb := rn_bounds mode d.neg (kp f.p (f.low - E).toNat (d.dv E)) (d.dv E)
      by_cases hx : d.dv E % 2 ^ kp f.p (f.low - E).toNat (d.dv E) = 0
      · refine ⟨fun _ => ⟨b2, ?_⟩, fun k => ?_⟩
        · rw [rd_exact hx] at v
          have : (if d.neg = true then -((d.dv E : Nat) : Int) else ((d.dv E : Nat) : Int)) = X := hX.2
          rw [this] at v; exact v
        · exfalso; apply k; unfold fl; rw [if_pos hx]
      · refine ⟨fun k => ?_, fun _ _ => ⟨_, neq E X hX _ (fun e => ?_), v⟩⟩
        · exfalso; unfold fl at k; rw [if_neg hx] at k; split at k <;> omega
        · have hm : rd mode d.neg f.p (f.low - E).toNat (d.dv E) % 2 ^ kp f.p (f.low - E).toNat (d.dv E) = 0 := Nat.mul_mod_left _ _
          rw [e] at hm
          exact hx hm
    · exfalso
      have eq := e1.symm.trans e2
      have : f.fl (f.low - E0).toNat (d.dv E0) = 5 := congrArg (fun z => z.2.1) eq
      rcases fl_cases (f := f) (f.low - E0).toNat (d.dv E0) with k | k | k <;> omega
  · by_cases t : Tow mode d.neg
    · have eb := (beyond_tow h).1 t
      obtain ⟨g1, g2, g3, g4⟩ := grt_cl h d.neg
      rw [eb] at e1
      refine ⟨_, _, e1, g2, by omega, .inr (.inr (.inr rfl)), fun k => absurd k h0, fun E X hE hX => ⟨fun k => by omega, fun _ _ => ?_⟩⟩
      have hEd := hX.1 h0
      have v := va E X hE hX _ g2 (by omega) g3 _ rfl
      refine ⟨_, neq E X hX _ ?_, v⟩
      rcases sp E hEd hE with ⟨l2, c, e2, _⟩ | ⟨l2, e2⟩
      · exfalso
        have : (5 : Int) = f.fl (f.low - E).toNat (d.dv E) := congrArg (fun z => z.2.1) (e1.symm.trans e2)
        rcases fl_cases (f := f) (f.low - E).toNat (d.dv E) with k | k | k <;> omega
      · have := rd_tow t f.p (f.low - E).toNat (d.dv E)
        have := grt_lt h (f.low - E).toNat
        rw [g4]; omega
    · obtain ⟨eb, ne⟩ := (beyond_tow h).2 t
      obtain ⟨g1, g2, g3⟩ := inf_cl h d.neg
      rw [eb] at e1
      exact ⟨_, _, e1, g2, by omega, .inr (.inr (.inr rfl)), fun k => absurd k h0, fun E X hE hX => ⟨fun k => by omega, fun _ k => by omega⟩⟩
end
end Fm
end Go.Proofs.Ytlaffgojgfdlnaa.N
set_option linter.unusedVariables false
namespace Go.Proofs.Ytlaffgojgfdlnaa.N
open Go.RowKit Go.Proofs.Ytlaffgojgfdlnaa.P Go.Proofs.YtlaffgojgfdlnaaW.PrintWords Go.Proofs.YtlaffgojgfdlnaaW.PrintMore Sk
open Dy
/-! ### The laws of ieee's sums and products -/
namespace Fm
section
variable {f : Fm} {a b c : Nat} {mode : Int}
theorem noneR_two (ha : f.cl a < 4) (hb : f.cl b < 4) : f.noneR [a, b] = (0, 0, false) := noneR_num (by intro x hx; simp at hx; rcases hx with rfl | rfl <;> assumption)
theorem sub_turned (h : f.ok) (mode : Int) (hb : b < 2 ^ (f.p + f.w)) (h1 : f.cl a < 4) (h2 : f.cl b < 4) : f.subR mode a b = f.addR mode a (f.trn b) := by
  obtain ⟨t1, t2, t3, t4⟩ := trn_facts h hb
  have e : f.mayE mode [a, b] = f.mayE mode [a, f.trn b] := by
    unfold mayE; simp only [List.all_cons, List.all_nil, Bool.and_true]; rw [decide_eq_true hb, decide_eq_true t1]
  unfold subR addR
  rw [e, noneR_two h1 h2, noneR_two h1 (by omega)]
theorem nstep_is (r : Nat × Int × Bool) (x : Nat) : (f.nstep r x).2.2 = true ↔ r.2.2 = true ∨ 4 ≤ f.cl x := by
  unfold nstep
  by_cases h : f.cl x < 4
  · rw [if_pos h]; exact ⟨.inl, fun k => k.elim id (fun k => by omega)⟩
  · rw [if_neg h]; exact ⟨fun _ => .inr (by omega), fun _ => rfl⟩
theorem noneR3_is : (f.noneR [a, b, c]).2.2 = true ↔ 4 ≤ f.cl a ∨ 4 ≤ f.cl b ∨ 4 ≤ f.cl c := by
  unfold noneR
  simp only [List.foldl_cons, List.foldl_nil, nstep_is]; simp [or_assoc]
/-- What is left of Fma, and of Mul, where there are numbers alone. -/
theorem fmaR_num (hm : f.mayE mode [a, b, c] = 0) (hi : ¬ (f.noneR [a, b, c]).2.2 = true) : f.fmaR mode a b c =
    if f.vain a b = true ∨ ((f.cl a = 3 ∨ f.cl b = 3) ∧ f.cl c = 3 ∧ f.sn c ≠ (f.sn a != f.sn b)) then (f.non, 16, 0) else
    if f.cl a = 3 ∨ f.cl b = 3 then (f.inf (f.sn a != f.sn b), 0, 0) else if f.cl c = 3 then (c, 0, 0) else
    f.rto mode (add (mul (f.val a).1 (f.val b).1).1 (f.val c).1).1
      (if (mul (f.val a).1 (f.val b).1).1.n = 0 ∧ (f.val c).1.n = 0 ∧ f.sn c = (f.sn a != f.sn b) then (f.sn a != f.sn b) else decide (mode = 2)) := by
  unfold fmaR
  rw [if_neg (show ¬ (f.mayE mode [a, b, c] ≠ 0) by simp [hm]), if_neg hi]
theorem mulR_num (hm : f.mayE mode [a, b] = 0) (hi : ¬ (f.noneR [a, b]).2.2 = true) : f.mulR mode a b =
    if f.vain a b = true then (f.non, 16, 0) else if f.cl a = 3 ∨ f.cl b = 3 then (f.inf (f.sn a != f.sn b), 0, 0) else f.rto mode (mul (f.val a).1 (f.val b).1).1 (f.sn a != f.sn b) := by
  unfold mulR
  rw [if_neg (show ¬ (f.mayE mode [a, b] ≠ 0) by simp [hm]), if_neg hi]
theorem non_facts (h : f.ok) : f.non < 2 ^ (f.p + f.w) ∧ f.cl f.non = 4 := by rcases h with rfl | rfl | rfl <;> decide +kernel
theorem qui_facts (h : f.ok) (hb : b < 2 ^ (f.p + f.w)) (h4 : 4 ≤ f.cl b) : f.qui b < 2 ^ (f.p + f.w) ∧ f.cl (f.qui b) = 4 := by
  have hB := bounds h
  have e1 := ex_lt (f := f) (b := b)
  have e2 := fr_lt h (b := b)
  have hp2 : 2 ^ (f.p - 1) = 2 * 2 ^ (f.p - 2) := by rw [← Nat.pow_succ']; congr 1; omega
  have hx : (if f.fr b < 2 ^ (f.p - 2) then f.fr b + 2 ^ (f.p - 2) else f.fr b) < 2 ^ (f.p - 1) ∧ 2 ^ (f.p - 2) ≤ (if f.fr b < 2 ^ (f.p - 2) then f.fr b + 2 ^ (f.p - 2) else f.fr b) := by split <;> omega
  have p := bld_parts h (neg := f.sn b) e1 hx.1
  have hp0 := Nat.two_pow_pos (f.p - 2)
  have ek : ¬ f.ex b = 0 ∧ ¬ f.ex b < 2 ^ f.w - 1 := by
    unfold cl at h4
    split at h4
    · split at h4 <;> omega
    · split at h4
      · omega
      · exact ⟨by assumption, by assumption⟩
  refine ⟨bld_lt h e1 hx.1, ?_⟩
  unfold qui
  unfold cl
  rw [p.2.1, p.2.2, if_neg ek.1, if_neg ek.2, if_neg (by omega), if_pos hx.2]
/-- What the first steps tell of operands of which one is no number. -/
theorem nstep_ok (h : f.ok) {r : Nat × Int × Bool} {x : Nat} (hx : x < 2 ^ (f.p + f.w)) (hr : r.2.2 = true → r.1 < 2 ^ (f.p + f.w) ∧ f.cl r.1 = 4) (hf : r.2.1 = 0 ∨ r.2.1 = 16) :
    ((f.nstep r x).2.2 = true → (f.nstep r x).1 < 2 ^ (f.p + f.w) ∧ f.cl (f.nstep r x).1 = 4) ∧ ((f.nstep r x).2.1 = 0 ∨ (f.nstep r x).2.1 = 16) := by
  unfold nstep
  by_cases h4 : f.cl x < 4
  · rw [if_pos h4]; exact ⟨hr, hf⟩
  · rw [if_neg h4]
    dsimp only
    refine ⟨fun _ => ?_, ?_⟩
    · by_cases k : r.2.2 = true
      · rw [if_pos k]; exact hr k
      · rw [if_neg k]; exact qui_facts h hx (by omega)
    · split
      · exact .inr rfl
      · exact hf
theorem noneR3_ok (h : f.ok) (ha : a < 2 ^ (f.p + f.w)) (hb : b < 2 ^ (f.p + f.w)) (hc : c < 2 ^ (f.p + f.w)) : ((f.noneR [a, b, c]).2.2 = true → (f.noneR [a, b, c]).1 < 2 ^ (f.p + f.w) ∧ f.cl (f.noneR [a, b, c]).1 = 4) ∧ ((f.noneR [a, b, c]).2.1 = 0 ∨ (f.noneR [a, b, c]).2.1 = 16) := by
  have s1 := nstep_ok h (r := (0, 0, false)) ha (fun k => by cases k) (.inl rfl)
  have s2 := nstep_ok h hb s1.1 s1.2
  have s3 := nstep_ok h hc s2.1 s2.2
  unfold noneR
  simp only [List.foldl_cons, List.foldl_nil]
  exact s3
/-- What Fma tells, at all. -/
theorem again (h : f.ok) (mode : Int) (a b c : Nat) :
    (f.fmaR mode a b c = (0, 0, 1) ∧ (mode < 0 ∨ 5 ≤ mode)) ∨ (f.fmaR mode a b c = (0, 0, 3) ∧ 0 ≤ mode ∧ mode < 5) ∨
    (∃ t fl, f.fmaR mode a b c = (t, fl, 0) ∧ t < 2 ^ (f.p + f.w) ∧ (a < 2 ^ (f.p + f.w) ∧ b < 2 ^ (f.p + f.w) ∧ c < 2 ^ (f.p + f.w)) ∧
      (((f.cl a < 4 ∧ f.cl b < 4 ∧ f.cl c < 4) ∧ ((f.cl t = 4 ∧ fl = 16) ∨ (f.cl t ≤ 3 ∧ (fl = 0 ∨ fl = 1 ∨ fl = 3 ∨ fl = 5)))) ∨ (¬ (f.cl a < 4 ∧ f.cl b < 4 ∧ f.cl c < 4) ∧ f.cl t = 4 ∧ (fl = 0 ∨ fl = 16)))) := by
  unfold fmaR
  by_cases hm : f.mayE mode [a, b, c] = 0
  case neg =>
    rw [if_pos hm]
    unfold mayE at hm ⊢
    by_cases k : mode < 0 ∨ 5 ≤ mode
    · rw [if_pos k]; exact .inl ⟨rfl, k⟩
    · rw [if_neg k] at hm ⊢
      split at hm
      · exact absurd rfl hm
      · rename_i k2; rw [if_neg k2]; exact .inr (.inl ⟨rfl, by omega, by omega⟩)
  rw [if_neg (show ¬ (f.mayE mode [a, b, c] ≠ 0) by simp [hm])]
  obtain ⟨hmo, hl⟩ := mayE_zero hm
  have ha := hl a (by simp)
  have hb := hl b (by simp)
  have hc := hl c (by simp)
  right; right
  obtain ⟨n1, n2⟩ := noneR3_ok h ha hb hc
  by_cases hi : (f.noneR [a, b, c]).2.2 = true
  · rw [if_pos hi]
    have k := noneR3_is.1 hi
    refine ⟨_, _, rfl, (n1 hi).1, ⟨ha, hb, hc⟩, .inr ⟨by omega, (n1 hi).2, ?_⟩⟩
    split
    · exact .inr rfl
    · exact n2
  rw [if_neg hi]
  have hnum : f.cl a < 4 ∧ f.cl b < 4 ∧ f.cl c < 4 := by
    have k := mt noneR3_is.2 hi
    omega
  have nf := non_facts h
  split
  · exact ⟨_, _, rfl, nf.1, ⟨ha, hb, hc⟩, .inl ⟨hnum, .inl ⟨nf.2, rfl⟩⟩⟩
  split
  · obtain ⟨g1, g2, g3⟩ := inf_cl h (f.sn a != f.sn b)
    exact ⟨_, _, rfl, g2, ⟨ha, hb, hc⟩, .inl ⟨hnum, .inr ⟨by omega, .inl rfl⟩⟩⟩
  split
  · exact ⟨_, _, rfl, hc, ⟨ha, hb, hc⟩, .inl ⟨hnum, .inr ⟨by omega, .inl rfl⟩⟩⟩
  obtain ⟨q, eq, pq, mq, _⟩ := fin_mul h (a := a) (b := b)
  obtain ⟨r, er, pr, mr, vr⟩ := fin_fma h (c := c) eq
  rw [eq]
  dsimp only
  rw [er]
  dsimp only
  obtain ⟨t, fl, e1, t1, t2, t3, _⟩ := rto_out h hmo mr (if q.n = 0 ∧ (f.val c).1.n = 0 ∧ f.sn c = (f.sn a != f.sn b) then (f.sn a != f.sn b) else decide (mode = 2))
  exact ⟨t, fl, e1, t1, ⟨ha, hb, hc⟩, .inl ⟨hnum, .inr ⟨t2, t3⟩⟩⟩
/-- Sums of finite numbers. -/
theorem add_fin (hm : 0 ≤ mode ∧ mode < 5) (ha : a < 2 ^ (f.p + f.w)) (hb : b < 2 ^ (f.p + f.w)) (h1 : f.cl a ≤ 2) (h2 : f.cl b ≤ 2) : ∃ n, f.addR mode a b = f.rto mode (add (f.val a).1 (f.val b).1).1 n := by
  unfold addR
  rw [if_neg (by rw [mayE_ok hm (by intro x hx; simp at hx; rcases hx with rfl | rfl <;> assumption)]; simp), noneR_two (by omega) (by omega), if_neg (by simp)]
  unfold sumR
  rw [if_neg (by omega), if_neg (by omega), if_neg (by omega)]
  exact ⟨_, rfl⟩
end
end Fm
end Go.Proofs.Ytlaffgojgfdlnaa.N
set_option linter.unusedVariables false
namespace Go.Proofs.Ytlaffgojgfdlnaa.N
open Go.RowKit Go.Proofs.Ytlaffgojgfdlnaa.P Go.Proofs.YtlaffgojgfdlnaaW.PrintWords Go.Proofs.YtlaffgojgfdlnaaW.PrintMore Sk
open Dy
namespace Fm
section
variable {f : Fm} {a b c : Nat} {mode : Int}
/-- What is put is the bits of the number. -/
theorem put_back (h : f.ok) {d : Dy} (pd : d.plain = d) (h0 : d.n ≠ 0) {w : Nat} (hw : f.put d = (w, 0)) : w < 2 ^ (f.p + f.w) ∧ f.cl w ≤ 2 ∧ (f.raw w).plain = d := by
  have hB := bounds h
  unfold put at hw
  rw [pd] at hw
  by_cases md : d.may = true
  case neg => rw [if_neg md] at hw; exact absurd (Prod.mk.inj hw).2 (by decide)
  rw [if_pos md, if_neg h0] at hw
  by_cases hc : ((2 ^ f.w : Nat) : Int) - 1 ≤ f.fe d ∨ d.e < f.low + f.fe d - 1
  · rw [if_pos hc] at hw; exact absurd (Prod.mk.inj hw).2 (by decide)
  rw [if_neg hc] at hw
  have hw := (Prod.mk.inj hw).1
  have hfe : f.fe d = max 1 (d.e + nlen d.n - f.low - f.p + 1) := rfl
  obtain ⟨e, he⟩ : ∃ e : Nat, f.fe d = e := ⟨(f.fe d).toNat, by omega⟩
  rw [he] at hw hc hfe
  obtain ⟨j, hj⟩ : ∃ j : Nat, j = (d.e - (f.low + e - 1)).toNat := ⟨_, rfl⟩
  rw [← hj, Int.toNat_natCast] at hw
  obtain ⟨m, hm⟩ : ∃ m, m = d.n * 2 ^ j := ⟨_, rfl⟩
  have nm : nlen m = nlen d.n + j := by rw [hm]; exact nlen_mul_pow h0 j
  rw [← hm] at hw
  have m1 : m < 2 ^ f.p := nlen_le_iff.1 (by omega)
  have hpp : 2 ^ f.p = 2 * 2 ^ (f.p - 1) := by rw [← Nat.pow_succ']; congr 1; omega
  have e1 : e < 2 ^ f.w := by omega
  have key : w < 2 ^ (f.p + f.w) ∧ f.cl w ≤ 2 ∧ f.raw w = ⟨d.neg, m, f.low + e - 1⟩ := by
    by_cases ms : m < 2 ^ (f.p - 1)
    · have : nlen m ≤ f.p - 1 := nlen_le_iff.2 ms
      have ee : e = 1 := by omega
      rw [if_pos ms, Nat.mod_eq_of_lt ms] at hw
      obtain ⟨p1, p2, p3⟩ := bld_parts h (neg := d.neg) (e := 0) (x := m) (Nat.two_pow_pos _) ms
      have lt := bld_lt h (neg := d.neg) (e := 0) (x := m) (Nat.two_pow_pos _) ms
      rw [hw] at p1 p2 p3 lt
      refine ⟨lt, ?_, ?_⟩
      · unfold cl; rw [if_pos p2]; split <;> omega
      · unfold raw mg pl; rw [if_pos p2, if_pos p2, p1, p3, ee]; congr 1; omega
    · have hx : m % 2 ^ (f.p - 1) = m - 2 ^ (f.p - 1) := by
        rw [Nat.mod_eq_sub_mod (by omega), Nat.mod_eq_of_lt (by omega)]
      rw [if_neg ms, hx] at hw
      obtain ⟨p1, p2, p3⟩ := bld_parts h (neg := d.neg) (e := e) (x := m - 2 ^ (f.p - 1)) e1 (by omega)
      have lt := bld_lt h (neg := d.neg) (e := e) (x := m - 2 ^ (f.p - 1)) e1 (by omega)
      rw [hw] at p1 p2 p3 lt
      have ne : ¬ f.ex w = 0 := by omega
      refine ⟨lt, ?_, ?_⟩
      · unfold cl; rw [if_neg ne, if_pos (by omega)]; omega
      · unfold raw mg pl; rw [if_neg ne, if_neg ne, p1, p2, p3, Nat.sub_add_cancel (by omega)]
  refine ⟨key.1, key.2.1, ?_⟩
  rw [← pd]
  refine plain_congr (E := f.low + e - 1) (by rw [key.2.2]; exact Int.le_refl _) (by omega) (by rw [key.2.2]) ?_
  rw [key.2.2]
  unfold Dy.dv
  dsimp only
  rw [Int.sub_self, ← hj, ← hm]; simp
/-- The number of the bits that are turned. -/
theorem val_trn (h : f.ok) (hb : b < 2 ^ (f.p + f.w)) (hc : f.cl b ≤ 2) {q : Dy} (pq : q.plain = q) (mq : q.may = true) :
    Dy.add q (f.val (f.trn b)).1 = Dy.add q (Dy.turned (f.val b).1) := by
  obtain ⟨t1, t2, t3, t4⟩ := trn_facts h hb
  have p := bld_parts h (neg := !f.sn b) (ex_lt (f := f) (b := b)) (fr_lt h (b := b))
  have hr : f.raw (f.trn b) = ⟨!f.sn b, f.mg b, f.pl b⟩ := by
    rw [trn_eq h hb]; unfold raw mg pl; rw [p.1, p.2.1, p.2.2]
  have m1 := val_may h (f.trn b)
  rw [val_raw t1 (by omega)] at m1 ⊢
  rw [val_raw hb hc]
  dsimp only at m1 ⊢
  rw [hr] at m1 ⊢
  by_cases h0 : f.mg b = 0
  · have z1 : (⟨!f.sn b, f.mg b, f.pl b⟩ : Dy).plain = zero := plain_zero h0
    have z2 : (f.raw b).plain = zero := plain_zero h0
    rw [z1, z2, add_zero' pq mq rfl (by decide +kernel), add_zero' pq mq rfl (by decide +kernel)]
  · rw [plain_pos (a := ⟨!f.sn b, f.mg b, f.pl b⟩) h0, plain_pos (a := f.raw b) h0]; rfl
theorem rest (h : f.ok) (hm : 0 ≤ mode ∧ mode < 5) (la : a < 2 ^ (f.p + f.w)) (lb : b < 2 ^ (f.p + f.w)) (ha : f.cl a ≤ 2) (hb : f.cl b ≤ 2) :
    ∃ p gl, f.mulR 0 a b = (p, gl, 0) ∧ p < 2 ^ (f.p + f.w) ∧ (f.val p = (Dy.zero, 1) ∨ (f.val p = ((f.val p).1, 0) ∧ ∃ P R, Dy.mul (f.val a).1 (f.val b).1 = (P, 0) ∧ Dy.add P (Dy.turned (f.val p).1) = (R, 0) ∧
      (R.n = 0 → f.put R = (0, 0) ∧ f.fmaR mode a b (f.trn p) = (f.bld (decide (mode = 2)) 0 0, 0, 0)) ∧ (R.n ≠ 0 → ∀ w, f.put R = (w, 0) → f.fmaR mode a b (f.trn p) = (w, 0, 0)))) := by
  have hB := bounds h
  obtain ⟨P, eP, pP, mP, _⟩ := fin_mul h (a := a) (b := b)
  have rP := mul_rmay h eP
  have hv : ¬ f.vain a b = true := by unfold vain; rw [decide_eq_true_eq]; omega
  have e1 : f.mulR 0 a b = f.rto 0 P (f.sn a != f.sn b) := by
    rw [mulR_num (mayE_ok (by omega) (by intro x hx; simp at hx; rcases hx with rfl | rfl <;> assumption)) (by rw [noneR_two (by omega) (by omega)]; simp), if_neg hv, if_neg (by omega), eP]
  obtain ⟨p, gl, k1, k2, k3, k4, k5, _⟩ := rto_out h (mode := 0) (by omega) rP (f.sn a != f.sn b)
  refine ⟨p, gl, e1.trans k1, k2, ?_⟩
  by_cases c3 : f.cl p ≤ 2
  case neg =>
    left
    unfold val; rw [if_neg (by omega), if_pos (by omega)]
  right
  refine ⟨by rw [val_raw k2 c3], ?_⟩
  obtain ⟨t1, t2, t3, t4⟩ := trn_facts h k2
  obtain ⟨R, eR, pR, rR, _⟩ := fin_fma h (c := f.trn p) eP
  have eS := val_trn h k2 c3 pP mP
  refine ⟨P, R, eP, eS ▸ eR, ?_⟩
  have fm : f.fmaR mode a b (f.trn p) = f.rto mode R (if P.n = 0 ∧ (f.val (f.trn p)).1.n = 0 ∧ f.sn (f.trn p) = (f.sn a != f.sn b) then (f.sn a != f.sn b) else decide (mode = 2)) := by
    rw [fmaR_num (mayE_ok hm (by intro x hx; simp at hx; rcases hx with rfl | rfl | rfl <;> assumption)) (by rw [noneR_num (by intro x hx; simp at hx; rcases hx with rfl | rfl | rfl <;> omega)]; simp), if_neg (fun k => k.elim hv (fun k => by have := k.1; omega)), if_neg (by omega), if_neg (by omega), eP, eR]
  rw [fm]
  constructor
  · intro h0
    refine ⟨?_, ?_⟩
    · unfold put; rw [if_pos (rmay_iff.1 rR).1, if_pos h0]
    · rw [if_neg (fun k => by have := k5 k.1; rw [t3, this] at k; revert k; cases (f.sn a != f.sn b) <;> simp), rto_zero hm rR h0]
  · intro h0 w hw
    obtain ⟨w1, w2, w3⟩ := put_back h pR h0 hw
    rw [rto_sign h0 _ (f.sn w)]
    have := keeps h w1 w2 hm
    rwa [w3] at this
end
end Fm
end Go.Proofs.Ytlaffgojgfdlnaa.N
set_option linter.unusedVariables false
namespace Go.Proofs.Ytlaffgojgfdlnaa.N
open Go.RowKit Go.Proofs.Ytlaffgojgfdlnaa.P Go.Proofs.YtlaffgojgfdlnaaW.PrintWords Go.Proofs.YtlaffgojgfdlnaaW.PrintMore Sk
open Dy
/-- One place higher: twice the number. -/
theorem Va.twice {n : Bool} {m : Nat} {e E x : Int} (h : Va ⟨n, m, e⟩ E x) : Va ⟨n, m, e + 1⟩ E (2 * x) := by
  obtain ⟨h1, h2⟩ := h
  have k : (⟨n, m, e + 1⟩ : Dy).dv E = 2 * (⟨n, m, e⟩ : Dy).dv E := by
    by_cases h0 : m = 0
    · subst h0; unfold Dy.dv; simp
    · have := h1 h0
      unfold Dy.dv
      dsimp only at this ⊢
      rw [show (e + 1 - E).toNat = (e - E).toNat + 1 by omega, Nat.pow_succ]
      rw [Nat.mul_comm 2, Nat.mul_assoc]
  refine ⟨fun h0 => ?_, ?_⟩
  · have := h1 h0; dsimp only at this ⊢; omega
  · rw [← h2]
    unfold Dy.sv
    rw [k]
    cases n
    · simp
    · simp only [if_true]; omega
namespace Fm
section
variable {f : Fm} {a b c : Nat} {mode : Int}
theorem near_cmp (h : f.ok) (la : a < 2 ^ (f.p + f.w)) (lb : b < 2 ^ (f.p + f.w)) (ca : f.cl a ≤ 2) (cb : f.cl b ≤ 2) :
    Dy.cmp ⟨false, (f.val a).1.n, (f.val a).1.e + 1⟩ ⟨false, (f.val b).1.n, (f.val b).1.e⟩ = (sI (2 * ((f.sz a : Nat) : Int) - ((f.sz b : Nat) : Int)), 0) := by
  have va := (val_sg la ca).abs
  have vb := (val_sg lb cb).abs
  have na : ∀ b : Nat, (f.sg b).natAbs = f.sz b := fun b => by unfold sg; split <;> omega
  rw [na] at va vb
  have ba := val_b h a
  have bb := val_b h b
  exact cmp_va (may_of (k := 53) (by dsimp only; omega) (by omega) (by dsimp only; omega) (by dsimp only; omega)) (may_of (k := 53) (by dsimp only; omega) (by omega) (by dsimp only; omega) (by dsimp only; omega)) va.twice vb
theorem near_cmp' (h : f.ok) (la : a < 2 ^ (f.p + f.w)) (lb : b < 2 ^ (f.p + f.w)) (ca : f.cl a ≤ 2) (cb : f.cl b ≤ 2) :
    Dy.cmp ⟨false, (f.val a).1.n, (f.val a).1.e⟩ ⟨false, (f.val b).1.n, (f.val b).1.e + 1⟩ = (sI (((f.sz a : Nat) : Int) - 2 * ((f.sz b : Nat) : Int)), 0) := by
  have va := (val_sg la ca).abs
  have vb := (val_sg lb cb).abs
  have na : ∀ b : Nat, (f.sg b).natAbs = f.sz b := fun b => by unfold sg; split <;> omega
  rw [na] at va vb
  have ba := val_b h a
  have bb := val_b h b
  exact cmp_va (may_of (k := 53) (by dsimp only; omega) (by omega) (by dsimp only; omega) (by dsimp only; omega)) (may_of (k := 53) (by dsimp only; omega) (by omega) (by dsimp only; omega) (by dsimp only; omega)) va vb.twice
theorem near (h : f.ok) (hm : 0 ≤ mode ∧ mode < 5) (la : a < 2 ^ (f.p + f.w)) (lb : b < 2 ^ (f.p + f.w)) (ca : f.cl a ≤ 2) (cb : f.cl b ≤ 2) (hs : f.sn a = f.sn b)
    (h1 : f.sz b ≤ 2 * f.sz a) (h2 : f.sz a ≤ 2 * f.sz b) : ∃ x, f.subR mode a b = (x, 0, 0) := by
  obtain ⟨t1, t2, t3, t4⟩ := trn_facts h lb
  obtain ⟨n, e1⟩ := add_fin hm la t1 ca (by omega)
  obtain ⟨R, eR, pR, rR, sR⟩ := fin_sum h (a := a) (b := f.trn b)
  rw [sub_turned h mode lb (by omega) (by omega), e1, eR]
  dsimp only
  by_cases r0 : R.n = 0
  · exact ⟨_, rto_zero hm rR r0 n⟩
  have vR := sR f.low _ _ (val_sg la ca) (val_sg t1 (by omega))
  have hsg : f.sg (f.trn b) = - f.sg b := by unfold sg; rw [t3, t4]; cases f.sn b <;> simp
  rw [hsg] at vR
  have hx : (R.dv f.low : Int) = ((f.sz a : Nat) : Int) - ((f.sz b : Nat) : Int) ∨ (R.dv f.low : Int) = ((f.sz b : Nat) : Int) - ((f.sz a : Nat) : Int) := by
    have := vR.2
    unfold Dy.sv at this
    unfold sg at this
    rw [hs] at this
    split at this <;> (split at this <;> omega)
  obtain ⟨x, hxe⟩ : ∃ x, x = R.dv f.low := ⟨_, rfl⟩
  rw [← hxe] at hx
  have xa : x ≤ f.sz a := by omega
  have xb : x ≤ f.sz b := by omega
  have ka := kp_mono (p := f.p) (s := 0) xa
  have kb := kp_mono (p := f.p) (s := 0) xb
  have da : 2 ^ kp f.p 0 x ∣ f.sz a := Nat.dvd_trans (Nat.pow_dvd_pow 2 ka) (Nat.dvd_of_mod_eq_zero (sz_few h))
  have db : 2 ^ kp f.p 0 x ∣ f.sz b := Nat.dvd_trans (Nat.pow_dvd_pow 2 kb) (Nat.dvd_of_mod_eq_zero (sz_few h))
  have dx : x % 2 ^ kp f.p 0 x = 0 := by
    apply Nat.mod_eq_zero_of_dvd
    rcases hx with hx | hx
    · rw [show x = f.sz a - f.sz b by omega]
      rw [show f.sz a - f.sz b = x by omega]
      have : 2 ^ kp f.p 0 x ∣ f.sz a - f.sz b := Nat.dvd_sub da db
      rwa [show f.sz a - f.sz b = x by omega] at this
    · have : 2 ^ kp f.p 0 x ∣ f.sz b - f.sz a := Nat.dvd_sub db da
      rwa [show f.sz b - f.sz a = x by omega] at this
  rcases rto_spec h hm rR r0 n (E := f.low) (vR.1 r0) (Int.le_refl _) hxe rfl with ⟨_, w, ew, _⟩ | ⟨k, _⟩
  · refine ⟨w, ew.trans ?_⟩
    rw [show (f.low - f.low).toNat = 0 by omega]
    unfold fl; rw [if_pos dx]
  · rw [show (f.low - f.low).toNat = 0 by omega, rd_exact dx] at k
    have := sz_ov h ca
    rw [Nat.zero_add] at k
    omega
end
end Fm
end Go.Proofs.Ytlaffgojgfdlnaa.N
