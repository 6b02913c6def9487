/- What nat.trim, told, Of and Len compute, for all lists of 32-bit parts of at most a million parts. -/
import Derived.Test.YtgccgmpfcnhbgaaM0
import Derived.IntWalk
import Derived.Test.YtgccgmpfcnhbgaaPx1
import Derived.Test.YtgccgmpfcnhbgaaPx2
import Derived.Test.YtgccgmpfcnhbgaaPx3
import Derived.Test.YtgccgmpfcnhbgaaPx0
namespace Go.Proofs.Ytgccgmpfcnhbgaa.N
open Go.RowKit Go.Proofs.Ytgccgmpfcnhbgaa.P Go.Proofs.YtgccgmpfcnhbgaaW.PrintWords Go.Proofs.YtgccgmpfcnhbgaaW.PrintMore Sk

/-- With enough rounds g tells r. -/
def Ev {α : Type} (g : Nat → Option α) (r : α) : Prop := ∃ K, ∀ k, K ≤ k → g k = some r
namespace Ev
variable {α β : Type}
theorem done (r : α) : Ev (fun _ => some r) r := ⟨0, fun _ _ => rfl⟩
theorem bind {g : Nat → Option α} {F : Nat → α → Option β} {a : α} {r : β} (h : Ev g a) (k : Ev (fun n => F n a) r) : Ev (fun n => (g n).bind (F n)) r := by
  obtain ⟨K, hK⟩ := h
  obtain ⟨L, hL⟩ := k
  refine ⟨max K L, fun n hn => ?_⟩
  show (g n).bind (F n) = some r
  rw [hK n (by omega)]
  exact hL n (by omega)
theorem bind0 {g : Option α} {F : Nat → α → Option β} {a : α} {r : β} (h : g = some a) (k : Ev (fun n => F n a) r) : Ev (fun n => g.bind (F n)) r := by
  subst h; exact k
theorem succ {g : Nat → Option α} {r : α} (h : Ev (fun n => g (n + 1)) r) : Ev g r := by
  obtain ⟨K, hK⟩ := h
  refine ⟨K + 1, fun n hn => ?_⟩
  obtain ⟨m, rfl⟩ : ∃ m, n = m + 1 := ⟨n - 1, by omega⟩
  exact hK m (by omega)
theorem ex {g : Nat → Option α} {r : α} (h : Ev g r) : ∃ k, g k = some r := by
  obtain ⟨K, hK⟩ := h
  exact ⟨K, hK K (Nat.le_refl _)⟩
theorem pos {c : Prop} [Decidable c] {g g' : Nat → Option α} {r : α} (hc : c) (h : Ev g r) : Ev (fun n => if c then g n else g' n) r := by
  simpa only [if_pos hc] using h
theorem neg {c : Prop} [Decidable c] {g g' : Nat → Option α} {r : α} (hc : ¬ c) (h : Ev g' r) : Ev (fun n => if c then g n else g' n) r := by
  simpa only [if_neg hc] using h
end Ev

theorem w64 {x : Int} (h0 : -9223372036854775808 ≤ x) (h1 : x < 9223372036854775808) : wrap64 x = x := by unfold wrap64; omega
theorem u64w {x : Int} (h0 : 0 ≤ x) (h1 : x < 18446744073709551616) : IntKind.u64.wrap x = x := by rw [IntKind.wrap_u64]; omega

/-- A part, 0 where there is none. -/
def pt (l : List Int) (i : Int) : Int := if 0 ≤ i then l.getD i.toNat 0 else 0

theorem pt_get (l : List Int) (i : Nat) : pt l (i : Int) = l.getD i 0 := by simp [pt]
theorem pt_ok {l : List Int} (h : Ok l) (i : Int) : 0 ≤ pt l i ∧ pt l i < 4294967296 := by
  unfold pt
  split
  · exact h.get _
  · omega
theorem getD_ge {l : List Int} {i : Nat} (h : l.length ≤ i) : l.getD i 0 = 0 := by
  rw [List.getD_eq_getElem?_getD, List.getElem?_eq_none h]; rfl
theorem pt_beyond {l : List Int} {i : Int} (h : (l.length : Int) ≤ i) : pt l i = 0 := by
  unfold pt
  rw [if_pos (by omega)]
  exact getD_ge (by omega)

theorem part_eq (l : List Int) (i : Int) : nat_Nat_part.f l i = some (pt l i) := by
  unfold nat_Nat_part.f
  by_cases h : i < 0
  · rw [if_pos h, pt, if_neg (by omega)]
  · rw [if_neg h]
    by_cases h1 : i ≥ (l.length : Int)
    · rw [if_pos h1, pt_beyond h1]
    · rw [if_neg h1, if_pos (by omega), if_pos (by omega), pt, if_pos (by omega)]; rfl

/-! ### trim -/
theorem trim_loop {l : List Int} (ho : Ok l) (hl : l.length ≤ 1000000) (m : Nat) (hm : m ≤ l.length) (hz : ∀ i, m ≤ i → l.getD i 0 = 0) :
    Ev (fun k => nat_Nat_trim.l0 k l (m : Int)) (parts (nv l)) := by
  induction m with
  | zero =>
    refine Ev.succ ?_
    simp only [nat_Nat_trim.l0]
    refine Ev.neg (by omega) (Ev.pos (by omega) (Ev.pos (by omega) ?_))
    rw [← parts_take ho 0 hm hz (.inl rfl)]
    exact Ev.done _
  | succ m ih =>
    refine Ev.succ ?_
    simp only [nat_Nat_trim.l0]
    have e : wrap64 (((m + 1 : Nat) : Int) - 1) = (m : Int) := by rw [w64 (by omega) (by omega)]; omega
    rw [e]
    refine Ev.pos (by omega) (Ev.pos (by omega) (Ev.pos (by omega) ?_))
    by_cases h0 : l.getD m 0 = 0
    · refine Ev.pos (by simpa [rd] using h0) (ih (by omega) fun i hi => ?_)
      by_cases e : i = m
      · subst e; exact h0
      · exact hz i (by omega)
    · refine Ev.neg (by simpa [rd] using h0) (Ev.pos (by omega) (Ev.pos (by omega) ?_))
      rw [← parts_take ho (m + 1) hm hz (.inr h0)]
      exact Ev.done _

theorem trim_ev {l : List Int} (ho : Ok l) (hl : l.length ≤ 1000000) : Ev (fun k => nat_Nat_trim.f k l) (parts (nv l)) :=
  trim_loop ho hl l.length (Nat.le_refl _) fun _ hi => getD_ge hi

theorem told_ev {l : List Int} (ho : Ok l) (hl : l.length ≤ 1000000) : Ev (fun k => nat_told.f k l) (parts (nv l)) := trim_ev ho hl

theorem parts_len {l : List Int} (ho : Ok l) : (parts (nv l)).length ≤ l.length := parts_length_le (nv_lt ho)

/-! ### Of -/
theorem of_ev {n : Int} (h0 : 0 ≤ n) (h1 : n < 18446744073709551616) : Ev (fun k => nat_Of.f k n) (parts n.toNat) := by
  unfold nat_Of.f
  refine Ev.bind (a := parts n.toNat) ?_ (Ev.done _)
  have e : nv [n % 4294967296, n / 4294967296 % 4294967296] = n.toNat := by simp only [nv]; omega
  have := trim_ev (l := [n % 4294967296, n / 4294967296 % 4294967296]) (Ok.cons (by omega) (by omega) (Ok.cons (by omega) (by omega) Ok.nil)) (by simp)
  rwa [e] at this

/-! ### Len -/
theorem len_loop (x : Nat) : ∀ n : Nat, n + nlen x ≤ 100000000 → Ev (fun k => nat_Nat_Len.l0 k (n : Int) (x : Int)) ((n + nlen x : Nat) : Int) := by
  induction x using Nat.strongRecOn with
  | _ x ih =>
    intro n hn
    refine Ev.succ ?_
    simp only [nat_Nat_Len.l0]
    by_cases h0 : x = 0
    · subst h0
      refine Ev.neg (by omega) ?_
      rw [nlen_zero]; exact Ev.done _
    · refine Ev.pos (by omega) ?_
      have hx := nlen_pos h0
      rw [w64 (by omega) (by omega), show (x : Int) / 2 = ((x / 2 : Nat) : Int) by omega, show (n : Int) + 1 = ((n + 1 : Nat) : Int) by omega, hx, show n + (nlen (x / 2) + 1) = n + 1 + nlen (x / 2) by omega]
      exact ih _ (by omega) _ (by omega)

theorem B_pow (i : Nat) : (4294967296 : Nat) ^ i = 2 ^ (32 * i) := by rw [Nat.pow_mul]

theorem nlen_parts {n L : Nat} (hL : (parts n).length = L + 1) : nlen n = 32 * L + nlen ((parts n).getD L 0).toNat ∧ ((parts n).getD L 0).toNat ≠ 0 := by
  have hlt := nv_lt (Ok_parts n)
  rw [nv_parts, hL] at hlt
  have hg := nv_get (Ok_parts n) L
  rw [nv_parts] at hg
  have e : n / 4294967296 ^ L < 4294967296 := by rw [Nat.div_lt_iff_lt_mul (Nat.pow_pos (show 0 < 4294967296 by decide)), Nat.mul_comm, ← Nat.pow_succ]; exact hlt
  rw [Nat.mod_eq_of_lt e] at hg
  have hne : n / 4294967296 ^ L ≠ 0 := by
    rcases full_parts n with h | h
    · rw [h] at hL; simp at hL
    · rw [hL] at h; simp only [Nat.add_sub_cancel] at h; omega
  have ht : ((parts n).getD L 0).toNat = n / 4294967296 ^ L := by rw [← hg, Int.toNat_natCast]
  rw [ht]
  refine ⟨?_, hne⟩
  have h2 := nlen_div_pow n (32 * L)
  rw [← B_pow] at h2
  have h3 : nlen (n / 4294967296 ^ L) ≠ 0 := fun h => hne (nlen_eq_zero.1 h)
  omega

theorem len_ev {l : List Int} (ho : Ok l) (hl : l.length ≤ 1000000) : Ev (fun k => nat_Nat_Len.f k l) ((nlen (nv l) : Nat) : Int) := by
  unfold nat_Nat_Len.f
  refine Ev.bind (trim_ev ho hl) ?_
  have hp := parts_len ho
  by_cases h0 : (parts (nv l)).length = 0
  · refine Ev.pos (by omega) ?_
    have : nv l = 0 := by rw [← nv_parts (nv l), List.eq_nil_of_length_eq_zero h0]; rfl
    rw [this, nlen_zero]; exact Ev.done _
  · obtain ⟨L, hL⟩ : ∃ L, (parts (nv l)).length = L + 1 := ⟨(parts (nv l)).length - 1, by omega⟩
    refine Ev.neg (by omega) ?_
    rw [hL, show wrap64 (((L + 1 : Nat) : Int) - 1) = (L : Int) by rw [w64 (by omega) (by omega)]; omega]
    refine Ev.pos (by omega) (Ev.pos (by omega) ?_)
    obtain ⟨h1, h2⟩ := nlen_parts hL
    have hb := (Ok_parts (nv l)).get L
    rw [w64 (by omega) (by omega), show (32 : Int) * (L : Int) = ((32 * L : Nat) : Int) by omega, show rd (parts (nv l)) (L : Int) = (((parts (nv l)).getD L 0).toNat : Int) by simp only [rd, Int.toNat_natCast]; omega, h1]
    have : nlen ((parts (nv l)).getD L 0).toNat ≤ 32 := nlen_le (by omega)
    exact len_loop _ _ (by omega)

/-! ### Cmp -/
def sg (m n : Nat) : Int := if m < n then -1 else if n < m then 1 else 0
theorem sg_lt {m n : Nat} (h : m < n) : sg m n = -1 := by simp [sg, h]
theorem sg_gt {m n : Nat} (h : n < m) : sg m n = 1 := by simp [sg, h, show ¬ m < n by omega]
theorem sg_eq (m : Nat) : sg m m = 0 := by simp [sg]
theorem sg_neg {m n : Nat} : sg m n < 0 ↔ m < n := by unfold sg; split <;> (try split) <;> omega
theorem sg_zero {m n : Nat} : sg m n = 0 ↔ m = n := by unfold sg; split <;> (try split) <;> omega
theorem sg_swap (m n : Nat) : sg n m = - sg m n := by unfold sg; split <;> split <;> (try split) <;> omega

theorem compare_eq (a b : Int) : cmp_Compare_uint32.f a b = some (if a < b then -1 else if a > b then 1 else 0) := by
  unfold cmp_Compare_uint32.f cmp_isNaN_uint32.f
  simp only [bne_self_eq_false, Option.bind_some, Bool.false_eq_true, if_false]
  split
  · rfl
  · split <;> rfl

theorem step_div (n i : Nat) : n / 4294967296 ^ i = n / 4294967296 ^ i % 4294967296 + 4294967296 * (n / 4294967296 ^ (i + 1)) := by
  rw [Nat.pow_succ, ← Nat.div_div_eq_div_mul]; omega

theorem pt_nat {l : List Int} (h : Ok l) (i : Nat) : pt l (i : Int) = ((nv l / 4294967296 ^ i % 4294967296 : Nat) : Int) := by rw [pt_get, nv_get h]

theorem cmp_loop {a b : List Int} (ha : Ok a) (hb : Ok b) (m : Nat) (hm : m ≤ 1000000) (he : nv a / 4294967296 ^ m = nv b / 4294967296 ^ m) :
    Ev (fun k => nat_Cmp.l0 k a b ((m : Int) - 1)) (sg (nv a) (nv b)) := by
  induction m with
  | zero =>
    refine Ev.succ ?_
    simp only [nat_Cmp.l0]
    refine Ev.neg (by omega) ?_
    simp only [Nat.pow_zero, Nat.div_one] at he
    rw [he, sg_eq]; exact Ev.done _
  | succ m ih =>
    refine Ev.succ ?_
    simp only [nat_Cmp.l0]
    rw [show (((m + 1 : Nat) : Int) - 1) = (m : Int) by omega]
    refine Ev.pos (by omega) (Ev.bind0 (part_eq _ _) (Ev.bind0 (part_eq _ _) (Ev.bind0 (compare_eq _ _) ?_)))
    rw [pt_nat ha, pt_nat hb]
    have ea := step_div (nv a) m
    have eb := step_div (nv b) m
    rw [w64 (by omega) (by omega)]
    by_cases h1 : nv a / 4294967296 ^ m % 4294967296 < nv b / 4294967296 ^ m % 4294967296
    · rw [if_pos (by omega)]
      refine Ev.neg (by omega) ?_
      rw [sg_lt (Nat.lt_of_div_lt_div (c := 4294967296 ^ m) (by omega))]; exact Ev.done _
    · rw [if_neg (by omega)]
      by_cases h2 : nv b / 4294967296 ^ m % 4294967296 < nv a / 4294967296 ^ m % 4294967296
      · rw [if_pos (by omega)]
        refine Ev.neg (by omega) ?_
        rw [sg_gt (Nat.lt_of_div_lt_div (c := 4294967296 ^ m) (by omega))]; exact Ev.done _
      · rw [if_neg (by omega)]
        refine Ev.pos rfl (ih (by omega) (by omega))

theorem mx_nat (a b : Nat) : mx (a : Int) (b : Int) = ((max a b : Nat) : Int) := by unfold mx; split <;> omega
theorem mn_nat (a b : Nat) : mn (a : Int) (b : Int) = ((min a b : Nat) : Int) := by unfold mn; split <;> omega

theorem cmp_ev {a b : List Int} (ha : Ok a) (hb : Ok b) (la : a.length ≤ 1000000) (lb : b.length ≤ 1000000) :
    Ev (fun k => nat_Cmp.f k a b) (sg (nv a) (nv b)) := by
  unfold nat_Cmp.f
  rw [mx_nat, w64 (by omega) (by omega)]
  refine cmp_loop ha hb _ (by omega) ?_
  rw [Nat.div_eq_of_lt (Nat.lt_of_lt_of_le (nv_lt ha) (Nat.pow_le_pow_right (by omega) (by omega))), Nat.div_eq_of_lt (Nat.lt_of_lt_of_le (nv_lt hb) (Nat.pow_le_pow_right (by omega) (by omega)))]

end Go.Proofs.Ytgccgmpfcnhbgaa.N
