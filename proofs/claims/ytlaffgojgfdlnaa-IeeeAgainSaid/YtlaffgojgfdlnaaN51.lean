/- Sums and products of finite numbers of the three formats are told, and what rounding tells of them, for all bits. -/
import Derived.Test.YtlaffgojgfdlnaaN50
import Derived.Test.YtlaffgojgfdlnaaPx0
set_option linter.unusedVariables false
namespace Go.Proofs.Ytlaffgojgfdlnaa.N
open Go.RowKit Go.Proofs.Ytlaffgojgfdlnaa.P Go.Proofs.YtlaffgojgfdlnaaW.PrintWords Go.Proofs.YtlaffgojgfdlnaaW.PrintMore Sk
open Dy
/-! ### Sums and products, turned about -/
theorem mul_comm' (a b : Dy) : Dy.mul a b = Dy.mul b a := by
  unfold Dy.mul
  rw [show (⟨a.neg != b.neg, a.n * b.n, a.e + b.e⟩ : Dy) = ⟨b.neg != a.neg, b.n * a.n, b.e + a.e⟩ by rw [Nat.mul_comm, Int.add_comm, show (a.neg != b.neg) = (b.neg != a.neg) by cases a.neg <;> cases b.neg <;> rfl]]
  by_cases h : a.may = true ∧ b.may = true
  · rw [if_pos h, if_pos (show b.may = true ∧ a.may = true from ⟨h.2, h.1⟩)]
  · rw [if_neg h, if_neg (show ¬ (b.may = true ∧ a.may = true) from fun k => h ⟨k.2, k.1⟩)]
theorem sumAt_comm (a b : Dy) (E : Int) : (sumAt a b E).plain = (sumAt b a E).plain := by
  unfold sumAt
  by_cases hn : a.neg = b.neg
  · rw [if_pos hn, if_pos (show b.neg = a.neg from hn.symm), hn, Nat.add_comm]
  · rw [if_neg hn, if_neg (show ¬ b.neg = a.neg from fun k => hn k.symm)]
    by_cases h1 : b.dv E ≤ a.dv E
    · rw [if_pos h1]
      by_cases h2 : a.dv E ≤ b.dv E
      · rw [if_pos h2, plain_zero (a := ⟨a.neg, a.dv E - b.dv E, E⟩) (by dsimp only; omega), plain_zero (a := ⟨b.neg, b.dv E - a.dv E, E⟩) (by dsimp only; omega)]
      · rw [if_neg h2]
    · rw [if_neg h1, if_pos (by omega)]
theorem add_comm' (a b : Dy) : Dy.add a b = Dy.add b a := by
  unfold Dy.add
  by_cases h : a.may = true ∧ b.may = true
  · rw [if_pos h, if_pos (show b.may = true ∧ a.may = true from ⟨h.2, h.1⟩)]
    by_cases ha : a.n = 0
    · by_cases hb : b.n = 0
      · simp only [if_pos ha, if_pos hb]; rw [told_zero ha, told_zero hb]
      · simp only [if_pos ha, if_neg hb]
    · by_cases hb : b.n = 0
      · simp only [if_neg ha, if_pos hb]
      · simp only [if_neg ha, if_neg hb]
        refine told_congr ?_
        rw [sum_eq, sum_eq, sumAt_comm, Int.min_comm]
  · rw [if_neg h, if_neg (show ¬ (b.may = true ∧ a.may = true) from fun k => h ⟨k.2, k.1⟩)]
theorem told_plain_self {p : Dy} (pp : p.plain = p) (pm : p.may = true) : told p = (p, 0) := by rw [told_may (by rw [pp]; exact pm), pp]
theorem zero_of_plain {p : Dy} (pp : p.plain = p) (h0 : p.n = 0) : p = Dy.zero := by rw [← pp]; exact plain_zero h0
theorem add_zero' {p z : Dy} (pp : p.plain = p) (pm : p.may = true) (hz : z.n = 0) (zm : z.may = true) : Dy.add p z = (p, 0) := by
  unfold Dy.add
  rw [if_pos ⟨pm, zm⟩]
  by_cases h : p.n = 0
  · rw [if_pos h, told_zero hz, zero_of_plain pp h]
  · rw [if_neg h, if_pos hz, told_plain_self pp pm]
theorem mul_one' {x : Dy} (px : x.plain = x) (xm : x.may = true) : Dy.mul x ⟨false, 1, 0⟩ = (x, 0) := by
  unfold Dy.mul
  rw [if_pos ⟨xm, by decide +kernel⟩]
  rw [show (⟨x.neg != false, x.n * 1, x.e + 0⟩ : Dy) = x by cases x; simp]
  exact told_plain_self px xm
/-- A value at a lower place. -/
theorem Va.down {a : Dy} {E F x : Int} (h : Va a E x) (hF : F ≤ E) : Va a F (x * ((2 ^ (E - F).toNat : Nat) : Int)) := by
  by_cases h0 : a.n = 0
  · rw [h.at.1 h0, Int.zero_mul]; exact Va.zero h0 F
  · have he := h.1 h0
    refine ⟨fun _ => by omega, ?_⟩
    rw [← h.2]
    unfold Dy.sv
    rw [dv_down hF he, Int.natCast_mul]
    split
    · rw [Int.neg_mul]
    · rfl
theorem Va.uniq {a : Dy} {E x y : Int} (h1 : Va a E x) (h2 : Va a E y) : x = y := by rw [← h1.2, ← h2.2]
theorem Va.mulD {a b : Dy} {E F x y : Int} (ha : Va a E x) (hb : Va b F y) : Va ⟨a.neg != b.neg, a.n * b.n, a.e + b.e⟩ (E + F) (x * y) := by
  by_cases hz : a.n = 0 ∨ b.n = 0
  · have : x * y = 0 := by
      rcases hz with h | h
      · rw [(ha.at).1 h, Int.zero_mul]
      · rw [(hb.at).1 h, Int.mul_zero]
    rw [this]
    refine Va.zero ?_ _
    show a.n * b.n = 0
    rcases hz with h | h <;> rw [h] <;> simp
  · have ha0 : a.n ≠ 0 := fun e => hz (.inl e)
    have hb0 : b.n ≠ 0 := fun e => hz (.inr e)
    have ea := ha.1 ha0
    have eb := hb.1 hb0
    refine ⟨fun _ => by show E + F ≤ a.e + b.e; omega, ?_⟩
    rw [← ha.2, ← hb.2]
    have hd : (⟨a.neg != b.neg, a.n * b.n, a.e + b.e⟩ : Dy).dv (E + F) = a.dv E * b.dv F := by
      unfold Dy.dv; dsimp only
      rw [show (a.e + b.e - (E + F)).toNat = (a.e - E).toNat + (b.e - F).toNat by omega, Nat.pow_add]
      rw [Nat.mul_mul_mul_comm]
    unfold Dy.sv
    rw [hd]
    dsimp only
    rw [Int.natCast_mul]
    cases a.neg <;> cases b.neg <;> simp [Int.neg_mul, Int.mul_neg]
/-- A sum of numbers that aren't too far apart. -/
theorem sum_ok {p z : Dy} (pp : p.plain = p) (pm : p.may = true) (zp : z.plain = z) (zm : z.may = true) (h1 : p.n ≠ 0 → z.n ≠ 0 → p.e + nlen p.n - z.e ≤ 4000) (h2 : p.n ≠ 0 → z.n ≠ 0 → z.e + nlen z.n - p.e ≤ 4000) (h3 : nlen p.n ≤ 4000) (h4 : nlen z.n ≤ 4000) (h5 : -4000 ≤ p.e ∧ p.e ≤ 3000) (h6 : -4000 ≤ z.e ∧ z.e ≤ 3000) :
    ∃ r, Dy.add p z = (r, 0) ∧ r.plain = r ∧ rmay r = true ∧ (∀ E x y, Va p E x → Va z E y → Va r E (x + y)) := by
  by_cases p0 : p.n = 0
  · refine ⟨z, by rw [add_comm']; exact add_zero' zp zm p0 pm, zp, ?_, fun E x y hx hy => by rw [hx.at.1 p0, Int.zero_add]; exact hy⟩
    exact rmay_of h4 (by omega) (by omega)
  by_cases z0 : z.n = 0
  · refine ⟨p, add_zero' pp pm z0 zm, pp, ?_, fun E x y hx hy => by rw [hy.at.1 z0, Int.add_zero]; exact hx⟩
    exact rmay_of h3 (by omega) (by omega)
  have g1 := h1 p0 z0
  have g2 := h2 p0 z0
  obtain ⟨E0, hE0⟩ : ∃ E0, E0 = min p.e z.e := ⟨_, rfl⟩
  have vp := va_of (a := p) (E := E0) (by omega)
  have vz := va_of (a := z) (E := E0) (by omega)
  have n1 := sv_nlen (a := p) (E := E0) (by omega)
  have n2 := sv_nlen (a := z) (E := E0) (by omega)
  have n3 := nlen_addI (p.sv E0) (z.sv E0)
  obtain ⟨r, er, vr, mr, pr, nr⟩ := add_va pm zm vp vz (by omega) (by omega) (by omega)
  refine ⟨r, er, pr, ?_, fun E x y hx hy => ?_⟩
  · refine rmay_iff.2 ⟨mr, by rw [pr]; exact mr, ?_⟩
    by_cases r0 : r.n = 0
    · exact .inl r0
    · right
      rw [pr]
      have s := Fm.sv_sign r0 E0
      rw [vr.2] at s
      have : nlen (r.dv E0) = nlen r.n + (r.e - E0).toNat := nlen_mul_pow r0 _
      have := vr.1 r0
      rw [← s.2] at *
      omega
  · have hE : E ≤ E0 := by have := hx.1 p0; have := hy.1 z0; omega
    have e1 := (vp.down hE).uniq hx
    have e2 := (vz.down hE).uniq hy
    have := vr.down hE
    rw [Int.add_mul, e1, e2] at this
    exact this
namespace Fm
section
variable {f : Fm} {b : Nat}
theorem rto_sign {mode : Int} {d : Dy} (h0 : d.n ≠ 0) (n1 n2 : Bool) : f.rto mode d n1 = f.rto mode d n2 := by unfold rto; rw [if_neg h0, if_neg h0]
theorem rto_zero {mode : Int} (hm : 0 ≤ mode ∧ mode < 5) {d : Dy} (hr : rmay d = true) (h0 : d.n = 0) (n : Bool) : f.rto mode d n = (f.bld n 0 0, 0, 0) := by
  unfold rto; rw [if_neg (by omega), if_pos hr, if_pos h0]
theorem nstep_skip {r : Nat × Int × Bool} (h : f.cl b < 4) : f.nstep r b = r := if_pos h
theorem noneR_num {l : List Nat} (h : ∀ b ∈ l, f.cl b < 4) : f.noneR l = (0, 0, false) := by
  unfold noneR
  induction l with
  | nil => rfl
  | cons x l ih => rw [List.foldl_cons, nstep_skip (h x List.mem_cons_self)]; exact ih fun b hb => h b (List.mem_cons_of_mem _ hb)
theorem mayE_ok {mode : Int} (hm : 0 ≤ mode ∧ mode < 5) {l : List Nat} (h : ∀ b ∈ l, b < 2 ^ (f.p + f.w)) : f.mayE mode l = 0 := by
  unfold mayE
  rw [if_neg (by omega), if_pos (List.all_eq_true.2 fun b hb => decide_eq_true (h b hb))]
theorem mayE_zero {mode : Int} {l : List Nat} (h : f.mayE mode l = 0) : (0 ≤ mode ∧ mode < 5) ∧ ∀ b ∈ l, b < 2 ^ (f.p + f.w) := by
  unfold mayE at h
  by_cases hm : mode < 0 ∨ 5 ≤ mode
  · rw [if_pos hm] at h; omega
  · rw [if_neg hm] at h
    refine ⟨by omega, ?_⟩
    split at h
    · rename_i ha
      exact fun b hb => of_decide_eq_true (List.all_eq_true.1 ha b hb)
    · omega
theorem xor_low {d k : Nat} (hd : d < 2 ^ k) : d ^^^ 2 ^ k = d + 2 ^ k ∧ (d + 2 ^ k) ^^^ 2 ^ k = d := by
  have e := xor_high hd
  have e2 : d ^^^ 2 ^ k = d + 2 ^ k := by
    have : (d + 2 ^ k) ^^^ d ^^^ d = 2 ^ k ^^^ d := by rw [e]
    rw [Nat.xor_assoc, Nat.xor_self, Nat.xor_zero] at this
    rw [this, Nat.xor_comm]
  exact ⟨e2, by rw [← e2, Nat.xor_assoc, Nat.xor_self, Nat.xor_zero]⟩
theorem bld_low (h : f.ok) {e x : Nat} (he : e < 2 ^ f.w) (hx : x < 2 ^ (f.p - 1)) : e * 2 ^ (f.p - 1) + x < 2 ^ (f.p + f.w - 1) := by
  have hB := bounds h
  have e3 : 2 ^ (f.p + f.w - 1) = 2 ^ f.w * 2 ^ (f.p - 1) := by rw [← Nat.pow_add]; congr 1; omega
  have := Nat.mul_le_mul_right (2 ^ (f.p - 1)) (show e + 1 ≤ 2 ^ f.w from he)
  rw [Nat.add_mul] at this; omega
theorem trn_eq (h : f.ok) (hb : b < 2 ^ (f.p + f.w)) : f.trn b = f.bld (!f.sn b) (f.ex b) (f.fr b) := by
  have x := bld_self h (b := b)
  unfold trn
  rw [← x]
  have l := bld_low h (ex_lt (f := f) (b := b)) (fr_lt h (b := b))
  have k := xor_low l
  unfold bld
  cases f.sn b
  · simp only [Bool.false_eq_true, if_false, Bool.not_false, if_true, Nat.add_zero]; exact k.1
  · simp only [Bool.false_eq_true, if_false, Bool.not_true, if_true, Nat.add_zero]; exact k.2
theorem trn_facts (h : f.ok) (hb : b < 2 ^ (f.p + f.w)) : f.trn b < 2 ^ (f.p + f.w) ∧ f.cl (f.trn b) = f.cl b ∧ f.sn (f.trn b) = (!f.sn b) ∧ f.sz (f.trn b) = f.sz b := by
  have p := bld_parts h (neg := !f.sn b) (ex_lt (f := f) (b := b)) (fr_lt h (b := b))
  rw [trn_eq h hb]
  refine ⟨bld_lt h ex_lt (fr_lt h), ?_, p.1, ?_⟩
  · unfold cl; rw [p.2.1, p.2.2]
  · unfold sz mg; rw [p.2.1, p.2.2]
theorem inf_eq (h : f.ok) (hb : b < 2 ^ (f.p + f.w)) (hc : f.cl b = 3) : b = f.inf (f.sn b) := by
  have x := bld_self h (b := b)
  rw [Nat.mod_eq_of_lt hb] at x
  have e := ex_lt (f := f) (b := b)
  have k : f.ex b = 2 ^ f.w - 1 ∧ f.fr b = 0 := by
    unfold cl at hc
    split at hc
    · split at hc <;> omega
    · split at hc
      · omega
      · split at hc
        · exact ⟨by omega, by assumption⟩
        · split at hc <;> omega
  rw [k.1, k.2] at x
  exact x.symm
theorem zero_eq (h : f.ok) (hb : b < 2 ^ (f.p + f.w)) (hc : f.cl b = 0) : b = f.bld (f.sn b) 0 0 := sz_zero_bits h hb ((sz_zero (by omega)).2 (mg_zero.2 hc))
/-- The bits of 1. -/
def one (f : Fm) : Nat := f.bld false f.bias.toNat 0
theorem one_facts (h : f.ok) : f.one < 2 ^ (f.p + f.w) ∧ f.cl f.one = 2 ∧ f.sn f.one = false ∧ f.val f.one = (⟨false, 1, 0⟩, 0) ∧ f.put ⟨false, 1, 0⟩ = (f.one, 0) := by
  rcases h with rfl | rfl | rfl <;> decide +kernel
theorem val_zero (hb : b < 2 ^ (f.p + f.w)) (hc : f.cl b ≤ 2) : (f.val b).1.n = 0 ↔ f.cl b = 0 := by
  rw [val_raw hb hc]; exact plain_n.trans mg_zero
theorem val_plain (hb : b < 2 ^ (f.p + f.w)) (hc : f.cl b ≤ 2) : (f.val b).1.plain = (f.val b).1 := by rw [val_raw hb hc]; exact plain_plain _
/-- The size with its sign. -/
def sg (f : Fm) (b : Nat) : Int := if f.sn b = true then -((f.sz b : Nat) : Int) else ((f.sz b : Nat) : Int)
theorem val_sg (hb : b < 2 ^ (f.p + f.w)) (hc : f.cl b ≤ 2) : Va (f.val b).1 f.low (f.sg b) := by
  have := val_va hb hc (E := f.low) (s := 0) (by omega)
  rw [Nat.pow_zero, Nat.mul_one] at this
  exact this
theorem fin_sum (h : f.ok) {a b : Nat} : ∃ r, Dy.add (f.val a).1 (f.val b).1 = (r, 0) ∧ r.plain = r ∧ rmay r = true ∧ (∀ E x y, Va (f.val a).1 E x → Va (f.val b).1 E y → Va r E (x + y)) := by
  have ba := val_b h a
  have bb := val_b h b
  have pl : ∀ c, (f.val c).1.plain = (f.val c).1 := fun c => by
    unfold val; split
    · exact zero_plain
    split
    · exact zero_plain
    · exact plain_plain _
  exact sum_ok (pl a) (val_may h a) (pl b) (val_may h b) (by omega) (by omega) (by omega) (by omega) (by omega) (by omega)
theorem val_pl (c : Nat) : (f.val c).1.plain = (f.val c).1 := by
  unfold val; split
  · exact zero_plain
  split
  · exact zero_plain
  · exact plain_plain _
theorem fin_mul (h : f.ok) {a b : Nat} : ∃ r, Dy.mul (f.val a).1 (f.val b).1 = (r, 0) ∧ r.plain = r ∧ r.may = true ∧ nlen r.n ≤ 106 ∧ (r.n = 0 ∨ -2200 ≤ r.e ∧ r.e + nlen r.n ≤ 2506) ∧ (∀ E F x y, Va (f.val a).1 E x → Va (f.val b).1 F y → Va r (E + F) (x * y)) := by
  have ba := val_b h a
  have bb := val_b h b
  have hm := nlen_mul_le (f.val a).1.n (f.val b).1.n
  obtain ⟨d, hd⟩ : ∃ d : Dy, d = ⟨(f.val a).1.neg != (f.val b).1.neg, (f.val a).1.n * (f.val b).1.n, (f.val a).1.e + (f.val b).1.e⟩ := ⟨_, rfl⟩
  have dn : d.n = (f.val a).1.n * (f.val b).1.n := by rw [hd]
  have de : d.e = (f.val a).1.e + (f.val b).1.e := by rw [hd]
  have mp : d.plain.may = true := plain_may (by rw [dn]; omega) (by omega) (by omega)
  refine ⟨d.plain, ?_, plain_plain d, mp, ?_, ?_, fun E F x y hx hy => ?_⟩
  · unfold Dy.mul; rw [if_pos ⟨val_may h a, val_may h b⟩, ← hd]; exact told_may mp
  · have := plain_nlen_le d; rw [dn] at this; omega
  · by_cases d0 : d.n = 0
    · exact .inl (plain_n.2 d0)
    · right
      have g1 := plain_e_ge d d0
      have g2 := top_plain d0
      rw [dn] at g2
      exact ⟨by omega, by omega⟩
  · rw [hd]; exact (hx.mulD hy).plain
theorem mul_rmay (h : f.ok) {a b : Nat} {r : Dy} (hr : Dy.mul (f.val a).1 (f.val b).1 = (r, 0)) : rmay r = true := by
  obtain ⟨r', e, p, m, n, b, _⟩ := fin_mul h (a := a) (b := b)
  rw [hr] at e; cases e
  refine rmay_iff.2 ⟨m, by rw [p]; exact m, ?_⟩
  rw [p]
  exact b.imp id (fun k => by omega)
theorem fin_fma (h : f.ok) {a b c : Nat} {q : Dy} (hq : Dy.mul (f.val a).1 (f.val b).1 = (q, 0)) : ∃ r, Dy.add q (f.val c).1 = (r, 0) ∧ r.plain = r ∧ rmay r = true ∧ (∀ E x y, Va q E x → Va (f.val c).1 E y → Va r E (x + y)) := by
  obtain ⟨r', e, p, m, n, b, _⟩ := fin_mul h (a := a) (b := b)
  rw [hq] at e; cases e
  have bc := val_b h c
  by_cases q0 : q.n = 0
  · have := zero_of_plain p q0
    subst this
    exact sum_ok p m (val_pl c) (val_may h c) (fun k => absurd q0 k) (fun k => absurd q0 k) (by omega) (by omega) (by show -4000 ≤ (0 : Int) ∧ (0 : Int) ≤ 3000; omega) (by omega)
  · have b := b.resolve_left q0
    have : 0 < nlen q.n := by have := nlen_eq_zero (n := q.n); omega
    exact sum_ok p m (val_pl c) (val_may h c) (by omega) (by omega) (by omega) (by omega) (by omega) (by omega)
/-- What comes of rounding, at all. -/
theorem rto_out (h : f.ok) {mode : Int} (hm : 0 ≤ mode ∧ mode < 5) {d : Dy} (hr : rmay d = true) (n : Bool) : ∃ b fl, f.rto mode d n = (b, fl, 0) ∧ b < 2 ^ (f.p + f.w) ∧ f.cl b ≤ 3 ∧ (fl = 0 ∨ fl = 1 ∨ fl = 3 ∨ fl = 5) ∧ (d.n = 0 → f.sn b = n) ∧
    (∀ E X, E ≤ f.low → Va d E X → (fl = 0 → f.cl b ≤ 2 ∧ Va (f.val b).1 E X) ∧ (fl ≠ 0 → f.cl b ≤ 2 → ∃ Y, Y ≠ X ∧ Va (f.val b).1 E Y)) := by
  by_cases h0 : d.n = 0
  · obtain ⟨z1, z2, z3, z4⟩ := zero_bits h n
    refine ⟨_, _, rto_zero hm hr h0 n, z1, by omega, .inl rfl, fun _ => z3, fun E X hE hX => ⟨fun _ => ⟨by omega, ?_⟩, fun k => absurd rfl k⟩⟩
    rw [hX.at.1 h0]
    exact Va.zero ((val_zero z1 (by omega)).2 z2) E
  obtain ⟨E0, hE0⟩ : ∃ E0, E0 = min d.e f.low := ⟨_, rfl⟩
  have sp : ∀ E, E ≤ d.e → E ≤ f.low → _ := fun E h1 h2 => rto_spec h hm hr h0 n (E := E) h1 h2 rfl rfl
  have va : ∀ E X, E ≤ f.low → Va d E X → ∀ c, c < 2 ^ (f.p + f.w) → f.cl c ≤ 2 → f.sn c = d.neg → ∀ R, f.sz c * 2 ^ (f.low - E).toNat = R → Va (f.val c).1 E (if d.neg = true then -((R : Nat) : Int) else ((R : Nat) : Int)) := fun E X hE hX c c1 c2 c3 R hR => by
    have := val_va c1 c2 (E := E) (s := (f.low - E).toNat) (by omega)
    rw [c3, hR] at this; exact this
  have neq : ∀ E X, Va d E X → ∀ R : Nat, R ≠ d.dv E → (if d.neg = true then -((R : Nat) : Int) else ((R : Nat) : Int)) ≠ X := fun E X hX R hR => by
    rw [← hX.2]; unfold Dy.sv; split <;> omega
  rcases sp E0 (by omega) (by omega) with ⟨l1, b, e1, b1, b2, b3, b4⟩ | ⟨l1, e1⟩
  · refine ⟨b, _, e1, b1, by omega, (fl_cases _ _).imp id (fun k => k.imp id .inl), fun k => absurd k h0, fun E X hE hX => ?_⟩
    have hEd := hX.1 h0
    rcases sp E hEd hE with ⟨l2, c, e2, c1, c2, c3, c4⟩ | ⟨l2, e2⟩
    · have eq := e1.symm.trans e2
      have eb : b = c := congrArg (fun z => z.1) eq
      have ef : f.fl (f.low - E0).toNat (d.dv E0) = f.fl (f.low - E).toNat (d.dv E) := congrArg (fun z => z.2.1) eq
      subst eb
      rw [ef]
      have v := va E X hE hX b b1 b2 b3 _ c4
      have rb := rn_bounds mode d.neg (kp f.p (f.low - E).toNat (d.dv E)) (d.dv E)
      by_cases hx : d.dv E % 2 ^ kp f.p (f.low - E).toNat (d.dv E) = 0
      · refine ⟨fun _ => ⟨b2, ?_⟩, fun k => ?_⟩
        · rw [rd_exact hx] at v
          have : (if d.neg = true then -((d.dv E : Nat) : Int) else ((d.dv E : Nat) : Int)) = X := hX.2
          rw [this] at v; exact v
        · exfalso; apply k; unfold fl; rw [if_pos hx]
      · refine ⟨fun k => ?_, fun _ _ => ⟨_, neq E X hX _ (fun e => ?_), v⟩⟩
        · exfalso; unfold fl at k; rw [if_neg hx] at k; split at k <;> omega
        · have hm : rd mode d.neg f.p (f.low - E).toNat (d.dv E) % 2 ^ kp f.p (f.low - E).toNat (d.dv E) = 0 := Nat.mul_mod_left _ _
          rw [e] at hm
          exact hx hm
    · exfalso
      have eq := e1.symm.trans e2
      have : f.fl (f.low - E0).toNat (d.dv E0) = 5 := congrArg (fun z => z.2.1) eq
      rcases fl_cases (f := f) (f.low - E0).toNat (d.dv E0) with k | k | k <;> omega
  · by_cases t : Tow mode d.neg
    · have eb := (beyond_tow h).1 t
      obtain ⟨g1, g2, g3, g4⟩ := grt_cl h d.neg
      rw [eb] at e1
      refine ⟨_, _, e1, g2, by omega, .inr (.inr (.inr rfl)), fun k => absurd k h0, fun E X hE hX => ⟨fun k => by omega, fun _ _ => ?_⟩⟩
      have hEd := hX.1 h0
      have v := va E X hE hX _ g2 (by omega) g3 _ rfl
      refine ⟨_, neq E X hX _ ?_, v⟩
      rcases sp E hEd hE with ⟨l2, c, e2, _⟩ | ⟨l2, e2⟩
      · exfalso
        have : (5 : Int) = f.fl (f.low - E).toNat (d.dv E) := congrArg (fun z => z.2.1) (e1.symm.trans e2)
        rcases fl_cases (f := f) (f.low - E).toNat (d.dv E) with k | k | k <;> omega
      · have := rd_tow t f.p (f.low - E).toNat (d.dv E)
        have := grt_lt h (f.low - E).toNat
        rw [g4]; omega
    · obtain ⟨eb, ne⟩ := (beyond_tow h).2 t
      obtain ⟨g1, g2, g3⟩ := inf_cl h d.neg
      rw [eb] at e1
      exact ⟨_, _, e1, g2, by omega, .inr (.inr (.inr rfl)), fun k => absurd k h0, fun E X hE hX => ⟨fun k => by omega, fun _ k => by omega⟩⟩
end
end Fm
end Go.Proofs.Ytlaffgojgfdlnaa.N
