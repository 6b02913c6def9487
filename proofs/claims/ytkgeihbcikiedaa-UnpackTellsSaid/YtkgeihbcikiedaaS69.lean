/- What a builder's gates tell: gates, folds and unpack.Of, for all bits. -/
import Derived.Test.YtkgeihbcikiedaaS66
import Derived.Test.YtkgeihbcikiedaaS67
import Derived.Test.YtkgeihbcikiedaaPx0
import Derived.Test.YtkgeihbcikiedaaN42
import Derived.Test.YtkgeihbcikiedaaPx1
set_option linter.unusedVariables false
set_option linter.unusedSimpArgs false
set_option linter.constructorNameAsVariable false
set_option linter.unusedSectionVars false
namespace Go.Proofs.Ytkgeihbcikiedaa.N
open Go.RowKit Go.Proofs.Ytkgeihbcikiedaa.P Go.Proofs.YtkgeihbcikiedaaW.PrintWords Go.Proofs.YtkgeihbcikiedaaW.PrintMore Sk
def Sg (v : List Bool) (a : Int) (b : Bool) : Prop := ∃ i : Nat, a = (i : Int) ∧ v[i]? = some b
theorem Sg.app {v : List Bool} {a : Int} {b : Bool} (h : Sg v a b) (u : List Bool) : Sg (v ++ u) a b := by
 obtain ⟨i, rfl, h⟩ := h; exact ⟨i, rfl, mK h⟩
def Sgs (v : List Bool) (L : List Int) (bs : List Bool) : Prop := L.length = bs.length ∧ ∀ i, i < L.length → Sg v (L.getD i 0) (bs.getD i false)
theorem Sgs.app {v : List Bool} {L : List Int} {bs : List Bool} (h : Sgs v L bs) (u : List Bool) : Sgs (v ++ u) L bs := ⟨h.1, fun i hi => (h.2 i hi).app u⟩
theorem Sgs.take {v : List Bool} {L : List Int} {bs : List Bool} (h : Sgs v L bs) (n : Nat) : Sgs v (L.take n) (bs.take n) := by
 refine ⟨by simp [h.1], fun i hi => ?_⟩
 have hi' : i < n ∧ i < L.length := by simp at hi; omega
 have := h.2 i hi'.2
 simpa [List.getD_eq_getElem?_getD, List.getElem?_take, hi'.1] using this
theorem Sgs.drop {v : List Bool} {L : List Int} {bs : List Bool} (h : Sgs v L bs) (n : Nat) : Sgs v (L.drop n) (bs.drop n) := by
 refine ⟨by simp [h.1], fun i hi => ?_⟩
 have hi' : n + i < L.length := by simp at hi; omega
 have := h.2 (n + i) hi'
 simpa [List.getD_eq_getElem?_getD, List.getElem?_drop] using this
theorem Sgs.set {v : List Bool} {L : List Int} {bs : List Bool} (h : Sgs v L bs) (n : Nat) {a : Int} {b : Bool} (hs : Sg v a b) : Sgs v (L.set n a) (bs.set n b) := by
 refine ⟨by simp [h.1], fun i hi => ?_⟩
 have hi' : i < L.length := by simpa using hi
 by_cases hn : n = i
 ·subst hn
  have hb : n < bs.length := by rw [← h.1]; exact hi'
  simpa [List.getD_eq_getElem?_getD, List.getElem?_set, hi', hb] using hs
 ·have := h.2 i hi'
  simpa [List.getD_eq_getElem?_getD, List.getElem?_set, hn] using this
theorem Sgs.nil (v : List Bool) : Sgs v [] [] := ⟨rfl, fun i hi => by simp at hi⟩
theorem Sgs.snoc {v : List Bool} {L : List Int} {bs : List Bool} (h : Sgs v L bs) {a : Int} {b : Bool} (hs : Sg v a b) : Sgs v (L ++ [a]) (bs ++ [b]) := by
 refine ⟨by simp [h.1], fun i hi => ?_⟩
 by_cases hl : i < L.length
 ·have := h.2 i hl
  simpa [List.getD_eq_getElem?_getD, List.getElem?_append, hl, ← h.1] using this
 ·have : i = L.length := by simp at hi; omega
  subst this
  simpa [List.getD_eq_getElem?_getD, List.getElem?_append, ← h.1] using hs
theorem Sgs.cons {v : List Bool} {L : List Int} {bs : List Bool} (h : Sgs v L bs) {a : Int} {b : Bool} (hs : Sg v a b) : Sgs v (a :: L) (b :: bs) := by
 refine ⟨by simp [h.1], fun i hi => ?_⟩
 rcases i with _ | i
 ·exact hs
 ·exact h.2 i (by simp at hi; omega)
theorem Sgs.vb {v : List Bool} {L : List Int} {bs : List Bool} (h : Sgs v L bs) (nm : ByteArray) : yP v ⟨nm, L⟩ = bs := by
 unfold yP
 refine List.ext_getElem (by simp [h.1]) fun i h1 h2 => ?_
 have hi : i < L.length := by simpa using h1
 obtain ⟨k, hk, hv⟩ := h.2 i hi
 have e : L[i] = (k : Int) := by rw [← hk]; simp [List.getD_eq_getElem?_getD, hi]
 simp only [List.getElem_map]; rw [e, Int.toNat_natCast, List.getD_eq_getElem?_getD, hv]; simp [List.getD_eq_getElem?_getD, h2]
theorem Sgs.pt {v : List Bool} {L : List Int} {bs : List Bool} (h : Sgs v L bs) (nm : ByteArray) (h0 : L ≠ []) (hl : L.length < 1000000) : vP v.length ⟨nm, L⟩ := by
 refine ⟨h0, hl, fun k hk => ?_⟩; obtain ⟨i, hi, hv⟩ := h.2 k hk; exact ⟨i, by rw [jK]; exact hi, (List.getElem?_eq_some_iff.1 hv).1⟩
structure Up (s s' : BSt) (v v' : List Bool) : Prop where
 nt : Nt s'.nodes v'
 pre : ∃ u, v' = v ++ u
 npre : ∃ t, s'.nodes = s.nodes ++ t ∧ ∀ g ∈ t, g.f0 ≠ 1
 ins : s'.ins = s.ins
 outs : s'.outs = s.outs
theorem Up.refl {s : BSt} {v : List Bool} (h : Nt s.nodes v) : Up s s v v := ⟨h, ⟨[], by simp⟩, ⟨[], by simp⟩, rfl, rfl⟩
theorem Up.trans {s s1 s2 : BSt} {v v1 v2 : List Bool} (h : Up s s1 v v1) (k : Up s1 s2 v1 v2) : Up s s2 v v2 := by
 obtain ⟨u, hu⟩ := h.pre; obtain ⟨u', hu'⟩ := k.pre; obtain ⟨t, ht, hg⟩ := h.npre; obtain ⟨t', ht', hg'⟩ := k.npre; refine ⟨k.nt, ⟨u ++ u', by rw [hu', hu, List.append_assoc]⟩, ⟨t ++ t', by rw [ht', ht, List.append_assoc], fun g h => ?_⟩, k.ins.trans h.ins, k.outs.trans h.outs⟩
 rcases List.mem_append.1 h with h | h
 ·exact hg g h
 ·exact hg' g h
theorem Up.sg {s s' : BSt} {v v' : List Bool} (h : Up s s' v v') {a : Int} {b : Bool} (k : Sg v a b) : Sg v' a b := by obtain ⟨u, rfl⟩ := h.pre; exact k.app u
theorem Up.sgs {s s' : BSt} {v v' : List Bool} (h : Up s s' v v') {L : List Int} {bs : List Bool} (k : Sgs v L bs) : Sgs v' L bs := by obtain ⟨u, rfl⟩ := h.pre; exact k.app u
theorem IW {s : BSt} {v : List Bool} {g : S92} {b : Bool} (hn : Nt s.nodes v) (hg : Gt v v.length g b) (h1 : g.f0 ≠ 1) : ∃ v', Up s (gQ s g).2 v v' ∧ Sg v' (gQ s g).1 b := by
 refine ⟨v ++ [b], ⟨hn.snoc hg, ⟨[b], rfl⟩, ⟨[g], rfl, fun g' h => by rw [List.mem_singleton.1 h]; exact h1⟩, rfl, rfl⟩, v.length, ?_, by simp⟩; show ((s.nodes.length : Nat) : Int) = _; rw [hn.1]
theorem Sg.lt {v : List Bool} {i : Nat} {b : Bool} (h : v[i]? = some b) : i < v.length := (List.getElem?_eq_some_iff.1 h).1
theorem Df {s : BSt} {v : List Bool} {a : Int} {x : Bool} (hn : Nt s.nodes v) (ha : Sg v a x) : ∃ v', Up s (gQ s ⟨2, a, 0, 0⟩).2 v v' ∧ Sg v' (gQ s ⟨2, a, 0, 0⟩).1 (!x) := by
 obtain ⟨i, rfl, hi⟩ := ha; exact IW hn (.not i x (Sg.lt hi) hi) (by simp)
theorem Pv {s : BSt} {v : List Bool} {a b : Int} {x y : Bool} (hn : Nt s.nodes v) (ha : Sg v a x) (hb : Sg v b y) : ∃ v', Up s (gQ s ⟨4, a, b, 0⟩).2 v v' ∧ Sg v' (gQ s ⟨4, a, b, 0⟩).1 (x || y) := by
 obtain ⟨i, rfl, hi⟩ := ha; obtain ⟨j, rfl, hj⟩ := hb; exact IW hn (.or i j x y (Sg.lt hi) (Sg.lt hj) hi hj) (by simp)
theorem Dh {s : BSt} {v : List Bool} {a b : Int} {x y : Bool} (hn : Nt s.nodes v) (ha : Sg v a x) (hb : Sg v b y) : ∃ v', Up s (gQ s ⟨3, a, b, 0⟩).2 v v' ∧ Sg v' (gQ s ⟨3, a, b, 0⟩).1 (x && y) := by
 obtain ⟨i, rfl, hi⟩ := ha; obtain ⟨j, rfl, hj⟩ := hb; exact IW hn (.and i j x y (Sg.lt hi) (Sg.lt hj) hi hj) (by simp)
def kop (kind : Int) (x y : Bool) : Bool := if kind = 3 then x && y else x || y
theorem ace {s : BSt} {v : List Bool} {kind : Int} (hk : kind = 3 ∨ kind = 4) {a b : Int} {x y : Bool} (hn : Nt s.nodes v) (ha : Sg v a x) (hb : Sg v b y) : ∃ v', Up s (gQ s ⟨gk kind, a, b, 0⟩).2 v v' ∧ Sg v' (gQ s ⟨gk kind, a, b, 0⟩).1 (kop kind x y) := by
 rcases hk with rfl | rfl
 ·exact Dh hn ha hb
 ·exact Pv hn ha hb
def uh (kind : Int) (bs : List Bool) (k : Nat) : Bool := if 2 * k + 1 < bs.length then kop kind (bs.getD (2 * k) false) (bs.getD (2 * k + 1) false) else bs.getD (2 * k) false
theorem Pw {kind : Int} (hk : kind = 3 ∨ kind = 4) {L : List Int} {bs : List Bool} {st : List Int × BSt} {v : List Bool} {out : List Bool} (hn : Nt st.2.nodes v) (hL : Sgs v L bs) (ho : Sgs v st.1 out) (k : Nat) (hk2 : 2 * k < L.length) :
 ∃ v', Up st.2 (jo kind L st k).2 v v' ∧ Sgs v' (jo kind L st k).1 (out ++ [uh kind bs k]) := by
 unfold jo uh; rw [← hL.1]
 by_cases h : 2 * k + 1 < L.length
 ·rw [if_pos h, if_pos h]; obtain ⟨v', hu, hs⟩ := ace hk hn (hL.2 _ hk2) (hL.2 _ h); exact ⟨v', hu, (hu.sgs ho).snoc hs⟩
 ·rw [if_neg h, if_neg h]; exact ⟨v, Up.refl hn, ho.snoc (hL.2 _ hk2)⟩
theorem Fy {kind : Int} (hk : kind = 3 ∨ kind = 4) {L : List Int} {bs : List Bool} {m : Nat} (hm : m = (L.length + 1) / 2) : ∀ (pre : List (Fin m)) (st : List Int × BSt) (v out : List Bool), Nt st.2.nodes v → Sgs v L bs → Sgs v st.1 out →
 ∃ v', Up st.2 (pre.foldl (fun st k => jo kind L st k.1) st).2 v v' ∧ Sgs v' (pre.foldl (fun st k => jo kind L st k.1) st).1 (out ++ pre.map fun k => uh kind bs k.1)
 | [], st, v, out, hn, hL, ho => ⟨v, Up.refl hn, by simpa using ho⟩
 | k :: pre, st, v, out, hn, hL, ho => by
  obtain ⟨v1, u1, s1⟩ := Pw hk hn hL ho k.1 (by have := k.2; omega); obtain ⟨v2, u2, s2⟩ := Fy hk hm pre (jo kind L st k.1) v1 _ u1.nt (u1.sgs hL) s1; refine ⟨v2, u1.trans u2, ?_⟩; simp only [List.foldl_cons, List.map_cons]
  simpa using s2
def oh (kind : Int) (bs : List Bool) : List Bool := (List.finRange ((bs.length + 1) / 2)).map fun k => uh kind bs k.1
theorem Tq {kind : Int} (hk : kind = 3 ∨ kind = 4) {L : List Int} {bs : List Bool} {s : BSt} {v : List Bool} (hn : Nt s.nodes v) (hL : Sgs v L bs) :
 ∃ v', Up s (ol kind L s).2 v v' ∧ Sgs v' (ol kind L s).1 (oh kind bs) := by
 obtain ⟨v', hu, hs⟩ := Fy hk rfl (List.finRange ((L.length + 1) / 2)) ([], s) v [] hn hL (Sgs.nil v); refine ⟨v', hu, ?_⟩; have e := hL.1; unfold oh; rw [← e]; rw [List.nil_append] at hs; exact hs
def Px (kind : Int) (bs : List Bool) : Bool := if kind = 3 then bs.all id else bs.any id
theorem yQ (kind : Int) (bs : List Bool) : (oh kind bs).length = (bs.length + 1) / 2 := by simp [oh]
theorem mR {bs : List Bool} {i : Nat} : bs.getD i false = true ↔ ∃ h : i < bs.length, bs[i] = true := by
 rw [List.getD_eq_getElem?_getD]
 by_cases h : i < bs.length
 ·simp [h]
 ·simp [List.getElem?_eq_none (show bs.length ≤ i by omega), h]
theorem IX {bs : List Bool} : bs.any id = true ↔ ∃ i, bs.getD i false = true := by
 rw [List.any_eq_true]
 constructor
 ·rintro ⟨x, hx, h⟩; obtain ⟨i, hi, rfl⟩ := List.getElem_of_mem hx; exact ⟨i, mR.2 ⟨hi, h⟩⟩
 ·rintro ⟨i, h⟩; obtain ⟨hi, h⟩ := mR.1 h; exact ⟨_, List.getElem_mem hi, h⟩
theorem IY {bs : List Bool} : bs.all id = true ↔ ∀ i, i < bs.length → bs.getD i false = true := by
 rw [List.all_eq_true]
 constructor
 ·intro h i hi; exact mR.2 ⟨hi, h _ (List.getElem_mem hi)⟩
 ·intro h x hx; obtain ⟨i, hi, rfl⟩ := List.getElem_of_mem hx; exact (mR.1 (h i hi)).2
theorem o8 (kind : Int) (bs : List Bool) (k : Nat) (hk : k < (bs.length + 1) / 2) : (oh kind bs).getD k false = uh kind bs k := by
 simp [oh, List.getD_eq_getElem?_getD, hk]
theorem IZ (kind : Int) (hk : kind = 3 ∨ kind = 4) (bs : List Bool) : Px kind (oh kind bs) = Px kind bs := by
 rw [Bool.eq_iff_iff]
 rcases hk with rfl | rfl
 ·show ((oh 3 bs).all id = true) ↔ (bs.all id = true); rw [IY, IY, yQ]
  constructor
  ·intro h i hi; have hh := h (i / 2) (by omega); rw [o8 _ _ _ (by omega)] at hh; unfold uh kop at hh; rw [if_pos rfl] at hh
   by_cases hc : 2 * (i / 2) + 1 < bs.length
   ·rw [if_pos hc, Bool.and_eq_true] at hh
    rcases Nat.mod_two_eq_zero_or_one i with h2 | h2
    ·rw [show i = 2 * (i / 2) by omega]; exact hh.1
    ·rw [show i = 2 * (i / 2) + 1 by omega]; exact hh.2
   ·rw [if_neg hc] at hh; rw [show i = 2 * (i / 2) by omega]; exact hh
  ·intro h k hk; rw [o8 _ _ _ hk]; unfold uh kop; rw [if_pos rfl]
   by_cases hc : 2 * k + 1 < bs.length
   ·rw [if_pos hc, h _ hc, h _ (by omega)]; rfl
   ·rw [if_neg hc, h _ (by omega)]
 ·show ((oh 4 bs).any id = true) ↔ (bs.any id = true); rw [IX, IX]
  constructor
  ·rintro ⟨k, hh⟩; have hk : k < (oh 4 bs).length := (mR.1 hh).1; rw [yQ] at hk; rw [o8 _ _ _ hk] at hh; unfold uh kop at hh; rw [if_neg (show ¬ ((4 : Int) = 3) by omega)] at hh
   by_cases hc : 2 * k + 1 < bs.length
   ·rw [if_pos hc, Bool.or_eq_true] at hh
    rcases hh with hh | hh
    ·exact ⟨_, hh⟩
    ·exact ⟨_, hh⟩
   ·rw [if_neg hc] at hh; exact ⟨_, hh⟩
  ·rintro ⟨i, hh⟩; have hi : i < bs.length := (mR.1 hh).1; refine ⟨i / 2, ?_⟩; rw [o8 _ _ _ (by omega)]; unfold uh kop; rw [if_neg (show ¬ ((4 : Int) = 3) by omega)]
   by_cases hc : 2 * (i / 2) + 1 < bs.length
   ·rw [if_pos hc, Bool.or_eq_true]
    rcases Nat.mod_two_eq_zero_or_one i with h2 | h2
    ·left; rw [show 2 * (i / 2) = i by omega]; exact hh
    ·right; rw [show 2 * (i / 2) + 1 = i by omega]; exact hh
   ·rw [if_neg hc, show 2 * (i / 2) = i by omega]; exact hh
theorem yR : ∀ (n : Nat) (kind : Int) (hk : kind = 3 ∨ kind = 4) (L : List Int) (bs : List Bool) (s : BSt) (v : List Bool), L.length = n → 0 < n → Nt s.nodes v → Sgs v L bs → ∃ v', Up s (ig kind L s).2 v v' ∧ Sg v' (ig kind L s).1 (Px kind bs) := fun n => by
 induction n using Nat.strongRecOn with
 | _ n ih =>
  intro kind hk L bs s v hn h0 hN hL; rw [ig]
  by_cases h : 2 ≤ L.length
  ·rw [dif_pos h]; obtain ⟨v1, u1, s1⟩ := Tq hk hN hL; obtain ⟨v2, u2, s2⟩ := ih ((L.length + 1) / 2) (by omega) kind hk _ _ _ v1 (qG kind L s) (by omega) u1.nt s1; rw [IZ kind hk] at s2; exact ⟨v2, u1.trans u2, s2⟩
  ·rw [dif_neg h]; refine ⟨v, Up.refl hN, ?_⟩; have := hL.2 0 (by omega)
   have hb : bs.length = 1 := by rw [← hL.1]; omega
   obtain ⟨b, rfl⟩ : ∃ b, bs = [b] := by
    match bs, hb with
    | [b], _ => exact ⟨b, rfl⟩
   have e : Px kind [b] = b := by rcases hk with rfl | rfl <;> simp [Px]
   rw [e]; exact this
theorem YH {p n : Nat} {xs : List Int} {bs : List Bool} {s : BSt} {v : List Bool} (hN : Nt s.nodes v) (hx : Sgs v xs bs) (hl : xs.length = n) (hp : 2 ≤ p) (hpn : p + 1 ≤ n) :
 ∃ v', Up s (ofF p n xs s).st v v' ∧
  Sg v' (ofF p n xs s).sign (bs.getD (n - 1) false) ∧
  Sgs v' (ofF p n xs s).exp (((bs.drop (p - 1)).take (n - p)).set 0 (((bs.drop (p - 1)).take (n - p)).getD 0 false || !((bs.drop (p - 1)).take (n - p)).any id)) ∧
  Sgs v' (ofF p n xs s).size (bs.take (p - 1) ++ [((bs.drop (p - 1)).take (n - p)).any id]) ∧
  Sg v' (ofF p n xs s).zero (!(((bs.drop (p - 1)).take (n - p)).any id || (bs.take (p - 1)).any id)) ∧
  Sg v' (ofF p n xs s).inf (((bs.drop (p - 1)).take (n - p)).all id && !(bs.take (p - 1)).any id) ∧
  Sg v' (ofF p n xs s).none_ (((bs.drop (p - 1)).take (n - p)).all id && (bs.take (p - 1)).any id) ∧
  Sg v' (ofF p n xs s).sig ((((bs.drop (p - 1)).take (n - p)).all id && (bs.take (p - 1)).any id) && !bs.getD (p - 2) false) := by
 have l1 : (xs.take (p - 1)).length = p - 1 := by rw [List.length_take]; omega
 have l2 : ((xs.drop (p - 1)).take (n - p)).length = n - p := by rw [List.length_take, List.length_drop]; omega
 have X1 := hx.take (p - 1); have X2 := (hx.drop (p - 1)).take (n - p); have X3 := hx.2 (n - 1) (by omega); have X4 := hx.2 (p - 2) (by omega)
 have e4 : (xs.take (p - 1)).getD (p - 2) 0 = xs.getD (p - 2) 0 := by simp [List.getD_eq_getElem?_getD, List.getElem?_take, show p - 2 < p - 1 by omega]
 unfold ofF; simp only [e4]; generalize (bs.drop (p - 1)).take (n - p) = E at *; generalize bs.take (p - 1) = F at *; generalize (xs.drop (p - 1)).take (n - p) = fd at *; generalize xs.take (p - 1) = fr at *; generalize bs.getD (n - 1) false = S at *; generalize bs.getD (p - 2) false = Q at *; generalize xs.getD (n - 1) 0 = sx at *; generalize xs.getD (p - 2) 0 = qx at *; clear hx e4; obtain ⟨v1, u1, s1⟩ := yR _ 4 (.inr rfl) fr F s v rfl (by omega) hN X1; replace X2 := u1.sgs X2; obtain ⟨v2, u2, s2⟩ := yR _ 4 (.inr rfl) fd E _ v1 rfl (by omega) u1.nt X2; replace X2 := u2.sgs X2; obtain ⟨v3, u3, s3⟩ := yR _ 3 (.inl rfl) fd E _ v2 rfl (by omega) u2.nt X2; replace X2 := u3.sgs X2; replace s2 := u3.sg s2; replace s1 := u3.sg (u2.sg s1); have U := (u1.trans u2).trans u3; replace X1 := U.sgs X1; replace X3 := U.sg X3; replace X4 := U.sg X4; clear u1 u2 u3; obtain ⟨w, u, g1⟩ := Df U.nt s2; replace X1 := u.sgs X1; replace X2 := u.sgs X2; replace X3 := u.sg X3; replace X4 := u.sg X4; replace s1 := u.sg s1; replace s2 := u.sg s2; replace s3 := u.sg s3; replace U := U.trans u; clear u; obtain ⟨w, u, g2⟩ := Pv U.nt (X2.2 0 (by omega)) g1; replace X1 := u.sgs X1; replace X2 := u.sgs X2; replace X3 := u.sg X3; replace X4 := u.sg X4; replace s1 := u.sg s1; replace s2 := u.sg s2; replace s3 := u.sg s3; replace g1 := u.sg g1; replace U := U.trans u; clear u; obtain ⟨w, u, g3⟩ := Dh U.nt s3 s1; replace X1 := u.sgs X1; replace X2 := u.sgs X2; replace X3 := u.sg X3; replace X4 := u.sg X4; replace s1 := u.sg s1; replace s2 := u.sg s2; replace s3 := u.sg s3; replace g1 := u.sg g1; replace g2 := u.sg g2; replace U := U.trans u; clear u; obtain ⟨w, u, g4⟩ := Pv U.nt s2 s1; replace X1 := u.sgs X1; replace X2 := u.sgs X2; replace X3 := u.sg X3; replace X4 := u.sg X4; replace s1 := u.sg s1; replace s2 := u.sg s2; replace s3 := u.sg s3; replace g1 := u.sg g1; replace g2 := u.sg g2; replace g3 := u.sg g3; replace U := U.trans u; clear u; obtain ⟨w, u, g5⟩ := Df U.nt g4; replace X1 := u.sgs X1; replace X2 := u.sgs X2; replace X3 := u.sg X3; replace X4 := u.sg X4; replace s1 := u.sg s1; replace s2 := u.sg s2; replace s3 := u.sg s3; replace g1 := u.sg g1; replace g2 := u.sg g2; replace g3 := u.sg g3; replace g4 := u.sg g4; replace U := U.trans u; clear u; obtain ⟨w, u, g6⟩ := Df U.nt s1; replace X1 := u.sgs X1; replace X2 := u.sgs X2; replace X3 := u.sg X3; replace X4 := u.sg X4; replace s1 := u.sg s1; replace s2 := u.sg s2; replace s3 := u.sg s3; replace g1 := u.sg g1; replace g2 := u.sg g2; replace g3 := u.sg g3; replace g4 := u.sg g4; replace g5 := u.sg g5; replace U := U.trans u; clear u; obtain ⟨w, u, g7⟩ := Dh U.nt s3 g6; replace X1 := u.sgs X1; replace X2 := u.sgs X2; replace X3 := u.sg X3; replace X4 := u.sg X4; replace s1 := u.sg s1; replace s2 := u.sg s2; replace s3 := u.sg s3; replace g1 := u.sg g1; replace g2 := u.sg g2; replace g3 := u.sg g3; replace g4 := u.sg g4; replace g5 := u.sg g5; replace g6 := u.sg g6; replace U := U.trans u; clear u; obtain ⟨w, u, g8⟩ := Df U.nt X4; replace X1 := u.sgs X1; replace X2 := u.sgs X2; replace X3 := u.sg X3; replace X4 := u.sg X4; replace s1 := u.sg s1; replace s2 := u.sg s2; replace s3 := u.sg s3; replace g1 := u.sg g1; replace g2 := u.sg g2; replace g3 := u.sg g3; replace g4 := u.sg g4; replace g5 := u.sg g5; replace g6 := u.sg g6; replace g7 := u.sg g7; replace U := U.trans u; clear u; obtain ⟨w, u, g9⟩ := Dh U.nt g3 g8; replace X1 := u.sgs X1; replace X2 := u.sgs X2; replace X3 := u.sg X3; replace X4 := u.sg X4; replace s1 := u.sg s1; replace s2 := u.sg s2; replace s3 := u.sg s3; replace g1 := u.sg g1; replace g2 := u.sg g2; replace g3 := u.sg g3; replace g4 := u.sg g4; replace g5 := u.sg g5; replace g6 := u.sg g6; replace g7 := u.sg g7; replace g8 := u.sg g8; replace U := U.trans u; clear u; exact ⟨_, U, X3, X2.set 0 g2, X1.snoc s2, g5, g7, g3, g9⟩
end Go.Proofs.Ytkgeihbcikiedaa.N
set_option linter.unusedVariables false
set_option linter.unusedSimpArgs false
set_option linter.constructorNameAsVariable false
set_option linter.unusedSectionVars false
namespace Go.Proofs.Ytkgeihbcikiedaa.N
open Go.RowKit Go.Proofs.Ytkgeihbcikiedaa.P Go.Proofs.YtkgeihbcikiedaaW.PrintWords Go.Proofs.YtkgeihbcikiedaaW.PrintMore Sk
open Dy
theorem Nt.aii {nodes : List S92} {v : List Bool} (h : Nt nodes v) : ∀ bs : List Bool, Nt (nodes ++ List.replicate bs.length ⟨1, 0, 0, 0⟩) (v ++ bs) := fun bs => by
 induction bs generalizing nodes v with
 | nil => simpa using h
 | cons b bs ih =>
  have := ih (h.snoc (g := ⟨1, 0, 0, 0⟩) (b := b) (.inp b))
  simpa [List.replicate_succ] using this
theorem acf {s : BSt} {v : List Bool} (h : Nt s.nodes v) (nm : ByteArray) {n : Nat} {bs : List Bool} (hb : bs.length = n) : Nt (xE s nm n).nodes (v ++ bs) := by
 subst hb; exact h.aii bs
theorem vV {m n i : Nat} (h : i < n) : (iF m n).getD i 0 = ((m + i : Nat) : Int) := by simp [iF, List.getD_eq_getElem?_getD, h]
theorem YI {v u bs : List Bool} {m n : Nat} (hm : v.length = m) (hb : bs.length = n) : Sgs (v ++ bs ++ u) (iF m n) bs := by
 refine ⟨by rw [gX, hb], fun i hi => ?_⟩; rw [gX] at hi; refine ⟨m + i, vV hi, ?_⟩
 have hib : i < bs.length := by omega
 rw [List.append_assoc, List.getElem?_append_right (by omega), List.getElem?_append_left (by omega), show m + i - v.length = i by omega]; simp [List.getD_eq_getElem?_getD, hib]
def bitsOf (n x : Nat) : List Bool := (List.range n).map x.testBit
theorem ni (n x : Nat) : (bitsOf n x).length = n := by simp [bitsOf]
theorem o9 {n x i : Nat} (h : i < n) : (bitsOf n x).getD i false = x.testBit i := by simp [bitsOf, List.getD_eq_getElem?_getD, h]
theorem Tt (n x k : Nat) (hk : k ≤ n) : bv ((bitsOf n x).take k) = x % 2 ^ k := by
 refine Nat.eq_of_testBit_eq fun i => ?_
 rw [← pg, Nat.testBit_mod_two_pow]
 by_cases hi : i < k
 ·have := o9 (n := n) (x := x) (i := i) (by omega); simp only [List.getD_eq_getElem?_getD, List.getElem?_take, if_pos hi] at this ⊢; rw [this]; simp [hi]
 ·simp [List.getD_eq_getElem?_getD, List.getElem?_take, hi]
theorem YJ (n x k m : Nat) (hk : k + m ≤ n) : bv (((bitsOf n x).drop k).take m) = x / 2 ^ k % 2 ^ m := by
 refine Nat.eq_of_testBit_eq fun i => ?_
 rw [← pg, Nat.testBit_mod_two_pow, Nat.testBit_div_two_pow]
 by_cases hi : i < m
 ·have := o9 (n := n) (x := x) (i := k + i) (by omega); simp only [List.getD_eq_getElem?_getD, List.getElem?_take, List.getElem?_drop, if_pos hi] at this ⊢; rw [this]; simp [hi, Nat.add_comm]
 ·simp [List.getD_eq_getElem?_getD, List.getElem?_take, hi]
theorem Di (bs : List Bool) : bs.any id = decide (bv bs ≠ 0) := by
 rw [Bool.eq_iff_iff, IX, decide_eq_true_eq]
 constructor
 ·rintro ⟨i, hi⟩ h0; rw [pg, h0] at hi; simp at hi
 ·intro h; obtain ⟨i, hi⟩ := Nat.exists_testBit_of_ne_zero h; exact ⟨i, by rw [pg]; exact hi⟩
theorem YK (bs : List Bool) : bs.all id = decide (bv bs = 2 ^ bs.length - 1) := by
 rw [Bool.eq_iff_iff, IY, decide_eq_true_eq]
 constructor
 ·intro h
  refine Nat.eq_of_testBit_eq fun i => ?_
  rw [← pg, Nat.testBit_two_pow_sub_one]
  by_cases hi : i < bs.length
  ·rw [h i hi]; simp [hi]
  ·simp [List.getD_eq_getElem?_getD, List.getElem?_eq_none (show bs.length ≤ i by omega), hi]
 ·intro h i hi; rw [pg, h, Nat.testBit_two_pow_sub_one]; simp [hi]
theorem Tu {ins : List S94} {nm : ByteArray} {n x : Nat} (hi : ins = [⟨nm, iF 0 n⟩]) (a : Nat) (ha : a < n) : Hit ins [x] ins.length 0 a ↔ x.testBit a = true := by
 subst hi
 constructor
 ·rintro ⟨i', k, hc, hr, ht⟩
  have h0 : i' = 0 ∧ k < n := by
   rcases hc with ⟨h1, h2⟩ | ⟨_, h2⟩
   ·simp at h1; subst h1; exact ⟨rfl, by simpa [bG, gX] using h2⟩
   ·omega
  obtain ⟨rfl, hk⟩ := h0; have e : rd (iF 0 n) (k : Int) = (a : Int) := hr; rw [jK, vV hk] at e
  have : k = a := by omega
  subst this; exact ht
 ·intro ht; refine ⟨0, a, .inl ⟨by simp, by simpa [bG, gX] using ha⟩, ?_, ht⟩; show rd (iF 0 n) (a : Int) = (a : Int); rw [jK, vV ha]; simp
theorem Dj {n : Nat} {t : List S92} (i : Nat) : (aM (List.replicate n ⟨1, 0, 0, 0⟩ ++ t) (i : Int)).f0 = 1 → (∀ g ∈ t, g.f0 ≠ 1) → i < n := by
 intro h hg; apply Classical.byContradiction; intro hn; unfold aM at h; rw [Int.toNat_natCast, List.getD_eq_getElem?_getD, List.getElem?_append_right (by simp; omega)] at h
 cases hc : t[i - (List.replicate n (⟨1, 0, 0, 0⟩ : S92)).length]? with
 | none => rw [hc] at h; simp [z92] at h
 | some g => rw [hc] at h; exact hg g (List.mem_of_getElem? hc) h
theorem parts_eval {n p : Nat} {x : Nat} (hp : 2 ≤ p) (hpn : p + 1 ≤ n) (hn : n ≤ 1000) (hx : x < 2 ^ n) {F E : List Bool} (hF : F = (bitsOf n x).take (p - 1)) (hE : E = ((bitsOf n x).drop (p - 1)).take (n - p)) :
 yS (iP p n).nodes (iP p n).ins (iP p n).outs [parts x]
  [parts (bv (E.set 0 (E.getD 0 false || !E.any id))), parts (bv (F ++ [E.any id])), parts (bv [x.testBit (n - 1), !(E.any id || F.any id), E.all id && !F.any id, E.all id && F.any id, (E.all id && F.any id) && !x.testBit (p - 2)])] := by
 have hN0 : Nt (xE st0 ⟨#[120]⟩ n).nodes (bitsOf n x) := by simpa using acf (s := st0) (v := []) Nt.nil ⟨#[120]⟩ (ni n x)
 have hX0 : Sgs (bitsOf n x) (iF 0 n) (bitsOf n x) := by simpa using YI (v := []) (u := []) (bs := bitsOf n x) rfl (ni n x)
 obtain ⟨v', U, f1, f2, f3, f4, f5, f6, f7⟩ := YH hN0 hX0 (gX 0 n) hp hpn; obtain ⟨m1, m2, m3, m4, m5⟩ := Ld p n (iF 0 n) (xE st0 ⟨#[120]⟩ n) (gX 0 n) hp hpn; rw [← hE] at f2 f3 f4 f5 f6 f7; rw [← hF] at f3 f4 f5 f6 f7; rw [o9 (by omega)] at f1 f7
 obtain ⟨r, hr⟩ : ∃ r, r = ofF p n (iF 0 n) (xE st0 ⟨#[120]⟩ n) := ⟨_, rfl⟩
 rw [← hr] at U f1 f2 f3 f4 f5 f6 f7 m1 m2 m3 m4 m5
 have eS : iP p n = qH (qH (qH r.st ⟨#[101]⟩ r.exp) ⟨#[115]⟩ r.size) ⟨#[122]⟩ [r.sign, r.zero, r.inf, r.none_, r.sig] := by rw [hr]; rfl
 have eN : (iP p n).nodes = r.st.nodes := by rw [eS]; rfl
 have eI : (iP p n).ins = [⟨⟨#[120]⟩, iF 0 n⟩] := by rw [eS]; show r.st.ins = _; rw [m3]; rfl
 have eO : (iP p n).outs = [⟨⟨#[101]⟩, r.exp⟩, ⟨⟨#[115]⟩, r.size⟩, ⟨⟨#[122]⟩, [r.sign, r.zero, r.inf, r.none_, r.sig]⟩] := by rw [eS]; show r.st.outs ++ _ ++ _ ++ _ = _; rw [m4]; rfl
 have l0 : (xE st0 ⟨#[120]⟩ n).nodes.length = n := by show (rV st0 n).nodes.length = n; rw [ui]; show 0 + n = n; omega
 have Z : Sgs v' [r.sign, r.zero, r.inf, r.none_, r.sig] [x.testBit (n - 1), !(E.any id || F.any id), E.all id && !F.any id, E.all id && F.any id, (E.all id && F.any id) && !x.testBit (p - 2)] :=
  ((((Sgs.nil v').cons f7).cons f6).cons f5).cons f4 |>.cons f1
 have hvl : r.st.nodes.length = v'.length := U.nt.1; have hI := U.sgs hX0
 have key := Tv (nodes := (iP p n).nodes) (v := v') (ins := (iP p n).ins) (outs := (iP p n).outs) [x] (by rw [eN]; exact U.nt) (by rw [eN]; omega) (by
  intro q hq; rw [eN, hvl]; rw [eI, eO] at hq; simp only [List.cons_append, List.nil_append, List.mem_cons, List.not_mem_nil, or_false] at hq
  rcases hq with rfl | rfl | rfl | rfl
  ·exact hI.pt _ (by intro h; have := gX 0 n; rw [h] at this; simp at this; omega) (by rw [gX]; omega)
  ·exact f2.pt _ (by intro h; rw [h] at m1; simp at m1; omega) (by omega)
  ·exact f3.pt _ (by intro h; rw [h] at m2; simp at m2; omega) (by omega)
  ·exact Z.pt _ (by simp) (by simp)) (by rw [eI, eO]; simp) (by rw [eI]; rfl) (by
  intro i hi; rw [eI] at hi ⊢; simp at hi; subst hi; show bu x ≤ (iF 0 n).length; rw [gX]
  exact iw hx) (by
  intro i b hb hk; obtain ⟨t, ht, hg⟩ := U.npre
  have e0 : (xE st0 ⟨#[120]⟩ n).nodes = List.replicate n ⟨1, 0, 0, 0⟩ := by show [] ++ List.replicate n _ = _; rfl
  rw [eN, ht, e0] at hk; have hin := Dj i hk hg; rw [Tu eI i hin]; obtain ⟨u, hu⟩ := U.pre; rw [hu, List.getElem?_append_left (by rw [ni]; exact hin)] at hb; have := o9 (n := n) (x := x) hin; rw [List.getD_eq_getElem?_getD, hb] at this; simp at this
  rw [this])
 rw [eO] at key; simp only [List.map_cons, List.map_nil] at key; rw [f2.vb, f3.vb, Z.vb] at key; rw [eO]; exact key
def bN (b : Bool) : Nat := if b then 1 else 0
def zf (f : Fm) (x : Nat) : Nat := bN (f.sn x) + 2 * bN (decide (f.cl x = 0)) + 4 * bN (decide (f.cl x = 3)) + 8 * bN (decide (4 ≤ f.cl x)) + 16 * bN (decide (f.cl x = 5))
def exq (f : Fm) (x : Nat) : Nat := if f.ex x = 0 then 1 else f.ex x
theorem Tw (E : List Bool) (h : E ≠ []) : bv (E.set 0 (E.getD 0 false || !E.any id)) = if bv E = 0 then 1 else bv E := by
 cases E with
 | nil => exact absurd rfl h
 | cons b E =>
  rw [Di]
  by_cases h0 : bv (b :: E) = 0
  ·rw [if_pos h0]; simp only [bv] at h0 ⊢
   have hb : b = false := by cases b <;> simp at h0 ⊢
   subst hb
   have : bv E = 0 := by simp at h0; omega
   simp [bv, this]
  ·rw [if_neg h0]; simp [h0]
theorem Le (a b c d e : Bool) : bv [a, b, c, d, e] = bN a + 2 * bN b + 4 * bN c + 8 * bN d + 16 * bN e := by
 cases a <;> cases b <;> cases c <;> cases d <;> cases e <;> rfl
theorem I1 {f : Fm} (h : f.ok) {x : Nat} (hx : x < 2 ^ (f.p + f.w)) :
 yS (iP f.p (f.p + f.w)).nodes (iP f.p (f.p + f.w)).ins (iP f.p (f.p + f.w)).outs [parts x] [parts (exq f x), parts (f.mg x), parts (zf f x)] := by
 have hB := Fm.bounds h; have key := parts_eval (n := f.p + f.w) (p := f.p) (x := x) (by omega) (by omega) (by rcases h with rfl | rfl | rfl <;> simp) hx rfl rfl; have e1 := Tt (f.p + f.w) x (f.p - 1) (by omega); have e2 := YJ (f.p + f.w) x (f.p - 1) f.w (by omega)
 have l2 : (((bitsOf (f.p + f.w) x).drop (f.p - 1)).take f.w).length = f.w := by simp [ni]; omega
 have l1 : ((bitsOf (f.p + f.w) x).take (f.p - 1)).length = f.p - 1 := by simp [ni]; omega
 rw [show f.p + f.w - f.p = f.w by omega] at key
 have hne : ((bitsOf (f.p + f.w) x).drop (f.p - 1)).take f.w ≠ [] := fun e => by rw [e] at l2; simp at l2; omega
 have g1 : bv ((((bitsOf (f.p + f.w) x).drop (f.p - 1)).take f.w).set 0 ((((bitsOf (f.p + f.w) x).drop (f.p - 1)).take f.w).getD 0 false || !(((bitsOf (f.p + f.w) x).drop (f.p - 1)).take f.w).any id)) = exq f x := by
  rw [Tw _ hne, e2]; rfl
 have g2 : bv ((bitsOf (f.p + f.w) x).take (f.p - 1) ++ [(((bitsOf (f.p + f.w) x).drop (f.p - 1)).take f.w).any id]) = f.mg x := by
  rw [BR, l1, Di, e1, e2]; show f.fr x + 2 ^ (f.p - 1) * bv [decide (f.ex x ≠ 0)] = f.mg x; unfold Fm.mg
  by_cases he : f.ex x = 0 <;> simp [he, bv]
 have a1 : x.testBit (f.p + f.w - 1) = f.sn x := by rw [Nat.testBit_eq_decide_div_mod_eq]; rfl
 have a2 : x.testBit (f.p - 2) = decide (2 ^ (f.p - 2) ≤ f.fr x) := by
  rw [Nat.testBit_eq_decide_div_mod_eq]; refine decide_eq_decide.2 ?_; unfold Fm.fr
  rcases h with rfl | rfl | rfl <;> simp only [Nat.reduceSub, Nat.reducePow] <;> omega
 have exl := Fm.nN (f := f) (b := x)
 have g3 : ∀ (E F : List Bool), E.any id = decide (f.ex x ≠ 0) → F.any id = decide (f.fr x ≠ 0) → E.all id = decide (f.ex x = 2 ^ f.w - 1) → bv [x.testBit (f.p + f.w - 1), !(E.any id || F.any id), E.all id && !F.any id, E.all id && F.any id, (E.all id && F.any id) && !x.testBit (f.p - 2)] = zf f x := by
  intro E F h1 h2 h3; rw [Le, h1, h2, h3, a1, a2]
  have hw : 2 ≤ 2 ^ f.w := by have := Nat.pow_le_pow_right (n := 2) (by omega) (show 1 ≤ f.w by omega); simpa using this
  unfold zf Fm.cl
  by_cases c1 : f.ex x = 0
  ·have c2 : ¬ (0 = 2 ^ f.w - 1) := by omega
   by_cases c3 : f.fr x = 0
   ·simp [c1, c2, c3, bN]
   ·simp [c1, c2, c3, bN]
  ·by_cases c2 : f.ex x < 2 ^ f.w - 1
   ·have c3 : ¬ (f.ex x = 2 ^ f.w - 1) := by omega
    simp [c1, c2, c3, bN]
   ·have c3 : f.ex x = 2 ^ f.w - 1 := by omega
    have c4 : ¬ (2 ^ f.w - 1 = 0) := by omega
    by_cases c5 : f.fr x = 0
    ·simp [c1, c2, c3, c4, c5, bN]
    ·by_cases c6 : 2 ^ (f.p - 2) ≤ f.fr x
     ·simp [c1, c2, c3, c4, c5, c6, bN]
     ·simp [c1, c2, c3, c4, c5, c6, bN]
 rw [g1, g2, g3 _ _ (by rw [Di, e2]; rfl) (by rw [Di, e1]; rfl) (by rw [YK, e2, l2]; rfl)] at key; exact key
theorem Ny {x : Nat} (hx : x < 2 ^ 64) : Ev (fun k => bU.f k [(x : Int)]) [parts x] := by
 unfold bU.f; refine Ev.succ ?_; simp only [bU.l0]; have e : rd [(x : Int)] 0 = (x : Int) := rfl; have hw := Fz (n := (x : Int)) (by omega) (by omega); rw [Int.toNat_natCast] at hw; rw [e]; refine Ev.pos (by simp) (Ev.pos (by omega) (Ev.pos (by simp) (Ev.bind hw (Ev.bind (vW (by have := iw hx; omega)) (Ev.pos (by simp) ?_))))); refine Ev.succ ?_; simp only [bU.l0]; rw [show wrap64 (0 + 1) = 1 from w64 (by omega) (by omega)]; exact Ev.neg (by simp) (Ev.done _)
end Go.Proofs.Ytkgeihbcikiedaa.N
