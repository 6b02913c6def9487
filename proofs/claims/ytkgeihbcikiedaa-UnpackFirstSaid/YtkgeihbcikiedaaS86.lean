/- What the gates of unpack.First and unpack.Put tell, for all words of the three formats. -/
import Derived.Test.YtkgeihbcikiedaaS84
import Derived.Test.YtkgeihbcikiedaaS69
import Derived.Test.YtkgeihbcikiedaaPx0
import Derived.Test.YtkgeihbcikiedaaPx1
set_option linter.unusedVariables false
set_option linter.unusedSimpArgs false
set_option linter.constructorNameAsVariable false
set_option linter.unusedSectionVars false
namespace Go.Proofs.Ytkgeihbcikiedaa.N
open Go.RowKit Go.Proofs.Ytkgeihbcikiedaa.P Go.Proofs.YtkgeihbcikiedaaW.PrintWords Go.Proofs.YtkgeihbcikiedaaW.PrintMore Sk
open Dy
theorem Sgs.of {v : List Bool} {L : List Int} {bs : List Bool} (h : Sgs v L bs) {i : Nat} (hi : i < L.length) : Sg v (L.getD i 0) (bs.getD i false) := h.2 i hi
theorem zz {v : List Bool} {m k : Nat} {bs : List Bool} {b : Bool} (h : Sgs v (bR m k) bs) (hb : Sg v ((m + k : Nat) : Int) b) : Sgs v (bR m (k + 1)) (bs ++ [b]) := by
 rw [mU]; exact h.snoc hb
theorem YW {s : BSt} {v : List Bool} (hn : Nt s.nodes v) (k : Nat) : ∃ v', Up s (jf s k) v v' ∧ Sgs v' (bR s.nodes.length k) (List.replicate k false) := by
 induction k with
 | zero => exact ⟨v, by rw [sP]; exact Up.refl hn, Sgs.nil v⟩
 | succ k ih =>
  obtain ⟨v1, u1, s1⟩ := ih; obtain ⟨v2, u2, s2⟩ := yU false u1.nt; refine ⟨v2, by rw [yK]; exact u1.trans u2, ?_⟩; rw [List.replicate_succ']; refine zz (u2.sgs s1) ?_
  have e : (d9 (jf s k) ⟨0, bI false, 0, 0⟩).1 = ((s.nodes.length + k : Nat) : Int) := by show ((jf s k).nodes.length : Int) = _; rw [mM]
  rw [← e]; exact s2
theorem KT {s : BSt} {v : List Bool} (hn : Nt s.nodes v) (x k : Nat) : ∃ v', Up s (fo x s k) v v' ∧ Sgs v' (bR s.nodes.length k) (bitsOf k x) := by
 induction k with
 | zero => exact ⟨v, by rw [xn]; exact Up.refl hn, Sgs.nil v⟩
 | succ k ih =>
  obtain ⟨v1, u1, s1⟩ := ih; obtain ⟨v2, u2, s2⟩ := yU (x.testBit k) u1.nt; refine ⟨v2, by rw [xh]; exact u1.trans u2, ?_⟩
  have eb : bitsOf (k + 1) x = bitsOf k x ++ [x.testBit k] := by simp [bitsOf, List.range_succ]
  rw [eb]; refine zz (u2.sgs s1) ?_
  have e : (d9 (fo x s k) ⟨0, bI (x.testBit k), 0, 0⟩).1 = ((s.nodes.length + k : Nat) : Int) := by show ((fo x s k).nodes.length : Int) = _; rw [mY]
  rw [← e]; exact s2
def uK (c : Bool) (xs ys : List Bool) (k : Nat) : List Bool := (List.range k).map fun i => if c then ys.getD i false else xs.getD i false
theorem Nf (c : Bool) (xs ys : List Bool) (k : Nat) (hx : xs.length = k) (hy : ys.length = k) : uK c xs ys k = if c then ys else xs := by
 cases c
 ·refine List.ext_getElem (by simp [uK, hx]) fun i h1 h2 => ?_
  have : i < xs.length := by simpa using h2
  simp [uK, List.getD_eq_getElem?_getD, this]
 ·refine List.ext_getElem (by simp [uK, hy]) fun i h1 h2 => ?_
  have : i < ys.length := by simpa using h2
  simp [uK, List.getD_eq_getElem?_getD, this]
theorem TU {s : BSt} {v : List Bool} {xs ys : List Int} {xb yb : List Bool} {c : Int} {cb : Bool} (hn : Nt s.nodes v) (hx : Sgs v xs xb) (hy : Sgs v ys yb) (hc : Sg v c cb) (k : Nat) (hk : k ≤ xs.length) (hk2 : k ≤ ys.length) :
 ∃ v', Up s (iK xs ys c s k) v v' ∧ Sgs v' (bR s.nodes.length k) (uK cb xb yb k) := by
 induction k with
 | zero => exact ⟨v, by rw [xg]; exact Up.refl hn, Sgs.nil v⟩
 | succ k ih =>
  obtain ⟨v1, u1, s1⟩ := ih (by omega) (by omega); obtain ⟨v2, u2, s2⟩ := YD u1.nt (u1.sg (hx.of (i := k) (by omega))) (u1.sg (hy.of (i := k) (by omega))) (u1.sg hc); refine ⟨v2, by rw [xe]; exact u1.trans u2, ?_⟩
  have eb : uK cb xb yb (k + 1) = uK cb xb yb k ++ [if cb then yb.getD k false else xb.getD k false] := by simp [uK, List.range_succ]
  rw [eb]; refine zz (u2.sgs s1) ?_
  have e : (d9 (iK xs ys c s k) ⟨6, xs.getD k 0, ys.getD k 0, c⟩).1 = ((s.nodes.length + k : Nat) : Int) := by show ((iK xs ys c s k).nodes.length : Int) = _; rw [mV]
  rw [← e]; exact s2
def ny (p n : Nat) (bs : List Bool) : Bool := ((bs.drop (p - 1)).take (n - p)).all id && (bs.take (p - 1)).any id
def qo (p n : Nat) (bs : List Bool) : Bool := ny p n bs && !bs.getD (p - 2) false
theorem wK {p n : Nat} {x : List Int} {bs ob : List Bool} {ib sb : Bool} {r : FsR} {v : List Bool} (hN : Nt r.st.nodes v) (hx : Sgs v x bs) (hl : x.length = n) (hp : 2 ≤ p) (hpn : p + 1 ≤ n) (ho : Sgs v r.out ob) (hol : r.out.length = n) (hi : Sg v r.is ib) (hs : Sg v r.sg sb) :
 ∃ v', Up r.st (kC p n x r).st v v' ∧ Sgs v' (kC p n x r).out (if ny p n bs then bs.set (p - 2) true else ob) ∧ Sg v' (kC p n x r).is (ib || ny p n bs) ∧ Sg v' (kC p n x r).sg (sb || qo p n bs) := by
 obtain ⟨v1, u1, _, _, _, _, _, f6, f7⟩ := OV hN hx hl hp hpn; obtain ⟨v2, u2, s2⟩ := yU true u1.nt
 have hbl : bs.length = n := by rw [← hx.1, hl]
 have hset := (u2.sgs (u1.sgs hx)).set (p - 2) s2; obtain ⟨v3, u3, s3⟩ := TU u2.nt (u2.sgs (u1.sgs ho)) hset (u2.sg f6) n (by omega) (by rw [List.length_set]; omega); obtain ⟨v4, u4, s4⟩ := E5 u3.nt (u3.sg (u2.sg (u1.sg hi))) (u3.sg (u2.sg f6)); obtain ⟨v5, u5, s5⟩ := E5 u4.nt (u4.sg (u3.sg (u2.sg (u1.sg hs)))) (u4.sg (u3.sg (u2.sg f7))); refine ⟨v5, (((u1.trans u2).trans u3).trans u4).trans u5, ?_, u5.sg s4, s5⟩; have := u5.sgs (u4.sgs s3); rw [Nf _ _ _ _ (by rw [← ho.1]; exact hol) (by rw [List.length_set]; exact hbl)] at this; exact this
theorem YX {n : Nat} {s : BSt} {v : List Bool} (hN : Nt s.nodes v) : ∃ v', Up s (fs0 n s).st v v' ∧ Sgs v' (fs0 n s).out (List.replicate n false) ∧ Sg v' (fs0 n s).is false ∧ Sg v' (fs0 n s).sg false := by
 obtain ⟨v1, u1, s1⟩ := YW hN n; obtain ⟨v2, u2, s2⟩ := yU false u1.nt; obtain ⟨v3, u3, s3⟩ := yU false u2.nt; exact ⟨v3, (u1.trans u2).trans u3, u3.sgs (u2.sgs s1), u3.sg s2, s3⟩
def Ng (p n : Nat) (a b c : List Bool) : List Bool := if ny p n a then a.set (p - 2) true else if ny p n b then b.set (p - 2) true else if ny p n c then c.set (p - 2) true else List.replicate n false
theorem Pv {p n : Nat} {xs : Nat → List Int} {a b c : List Bool} {s : BSt} {v : List Bool} (hN : Nt s.nodes v) (h0 : Sgs v (xs 0) a) (h1 : Sgs v (xs 1) b) (h2 : Sgs v (xs 2) c) (l0 : (xs 0).length = n) (l1 : (xs 1).length = n) (l2 : (xs 2).length = n) (hp : 2 ≤ p) (hpn : p + 1 ≤ n) :
 ∃ v', Up s (jQ p n 3 xs s (List.finRange 3)).st v v' ∧ Sgs v' (jQ p n 3 xs s (List.finRange 3)).out (Ng p n a b c) ∧
  Sg v' (jQ p n 3 xs s (List.finRange 3)).is (ny p n a || ny p n b || ny p n c) ∧ Sg v' (jQ p n 3 xs s (List.finRange 3)).sg (qo p n a || qo p n b || qo p n c) := by
 have e : jQ p n 3 xs s (List.finRange 3) = kC p n (xs 0) (kC p n (xs 1) (kC p n (xs 2) (fs0 n s))) := by
  have : List.finRange 3 = [0, 1, 2] := by decide
  rw [this]; rfl
 rw [e]; obtain ⟨w0, u0, a1, a2, a3⟩ := YX (n := n) hN; obtain ⟨w1, u1, b1, b2, b3⟩ := wK u0.nt (u0.sgs h2) l2 hp hpn a1 (CG n s).1 a2 a3; obtain ⟨w2, u2, c1, c2, c3⟩ := wK u1.nt (u1.sgs (u0.sgs h1)) l1 hp hpn b1 (sS l2 hp hpn).1 b2 b3; obtain ⟨w3, u3, d1, d2, d3⟩ := wK u2.nt (u2.sgs (u1.sgs (u0.sgs h0))) l0 hp hpn c1 (sS l1 hp hpn).1 c2 c3; refine ⟨w3, ((u0.trans u1).trans u2).trans u3, d1, ?_, ?_⟩
 ·rw [show (ny p n a || ny p n b || ny p n c) = (((false || ny p n c) || ny p n b) || ny p n a) by cases ny p n a <;> cases ny p n b <;> cases ny p n c <;> rfl]; exact d2
 ·rw [show (qo p n a || qo p n b || qo p n c) = (((false || qo p n c) || qo p n b) || qo p n a) by cases qo p n a <;> cases qo p n b <;> cases qo p n c <;> rfl]; exact d3
def wL (n : Nat) : BSt := kW (kW (kW (kW st0 ⟨#[120]⟩ n) ⟨#[121]⟩ n) ⟨#[122]⟩ n) ⟨#[99]⟩ 1
def fxs (n : Nat) (i : Nat) : List Int := if i = 0 then bR 0 n else if i = 1 then bR n n else bR (n + n) n
def gF (p n : Nat) : FsR := jQ p n 3 (fxs n) (wL n) (List.finRange 3)
def zA (p n x : Nat) : List Int := bR (gF p n).st.nodes.length (n - 1) ++ [((n + n + n : Nat) : Int)]
def l7 (p n x : Nat) : BSt := nk (nk (nk (fo x (gF p n).st (n - 1)) ⟨#[119]⟩ (gF p n).out) ⟨#[118]⟩ [(gF p n).is, (gF p n).sg]) ⟨#[116]⟩ (zA p n x)
theorem uL (s : BSt) (nm : ByteArray) (n : Nat) : (kW s nm n).nodes.length = s.nodes.length + n := qO s n
theorem xW (n : Nat) : (kW st0 ⟨#[120]⟩ n).nodes.length = n := by rw [uL]; show 0 + n = n; omega
theorem xX (n : Nat) : (kW (kW st0 ⟨#[120]⟩ n) ⟨#[121]⟩ n).nodes.length = n + n := by rw [uL, xW]
theorem xY (n : Nat) : (kW (kW (kW st0 ⟨#[120]⟩ n) ⟨#[121]⟩ n) ⟨#[122]⟩ n).nodes.length = n + n + n := by rw [uL, xX]
theorem zB (n : Nat) : (wL n).nodes.length = n + n + n + 1 := by unfold wL; rw [uL, xY]
theorem FL (n : Nat) : (wL n).ins = [⟨⟨#[120]⟩, bR 0 n⟩, ⟨⟨#[121]⟩, bR n n⟩, ⟨⟨#[122]⟩, bR (n + n) n⟩, ⟨⟨#[99]⟩, bR (n + n + n) 1⟩] := by
 show [] ++ [_] ++ [_] ++ [_] ++ [_] = _; rw [xW, xX, xY]; rfl
theorem IW (n : Nat) : (wL n).nodes = List.replicate (n + n + n + 1) ⟨1, 0, 0, 0⟩ := by
 show [] ++ List.replicate n _ ++ List.replicate n _ ++ List.replicate n _ ++ List.replicate 1 _ = _; rw [List.nil_append, List.replicate_append_replicate, List.replicate_append_replicate, List.replicate_append_replicate]
def vin (n x y z : Nat) (c : Bool) : List Bool := bitsOf n x ++ bitsOf n y ++ bitsOf n z ++ [c]
theorem KU (n x y z : Nat) (c : Bool) : (vin n x y z c).length = n + n + n + 1 := by simp [vin, bS, Nat.add_assoc]
theorem KV (n x y z : Nat) (c : Bool) : Nt (wL n).nodes (vin n x y z c) := by
 have h1 : Nt (kW st0 ⟨#[120]⟩ n).nodes (bitsOf n x) := by simpa using E9 (s := st0) (v := []) Nt.nil ⟨#[120]⟩ (bS n x)
 have h2 := E9 h1 ⟨#[121]⟩ (bS n y); have h3 := E9 h2 ⟨#[122]⟩ (bS n z); exact E9 h3 ⟨#[99]⟩ (bs := [c]) rfl
theorem FM (n x y z : Nat) (c : Bool) : Sgs (vin n x y z c) (bR 0 n) (bitsOf n x) ∧ Sgs (vin n x y z c) (bR n n) (bitsOf n y) ∧ Sgs (vin n x y z c) (bR (n + n) n) (bitsOf n z) ∧ Sg (vin n x y z c) ((n + n + n : Nat) : Int) c := by
 have a1 := Dc (v := []) (u := bitsOf n y ++ bitsOf n z ++ [c]) (bs := bitsOf n x) (m := 0) rfl (bS n x); have a2 := Dc (v := bitsOf n x) (u := bitsOf n z ++ [c]) (bs := bitsOf n y) (bS n x) (bS n y); have a3 := Dc (v := bitsOf n x ++ bitsOf n y) (u := [c]) (bs := bitsOf n z) (m := n + n) (by simp [bS]) (bS n z); refine ⟨by simpa [vin] using a1, by simpa [vin] using a2, by simpa [vin] using a3, ⟨n + n + n, rfl, ?_⟩⟩; unfold vin; rw [List.getElem?_append_right (by simp [bS, Nat.add_assoc])]; simp [bS, Nat.add_assoc]
theorem Pw {ins : List S94} {n1 n2 n3 n4 : ByteArray} {n : Nat} (hi : ins = [⟨n1, bR 0 n⟩, ⟨n2, bR n n⟩, ⟨n3, bR (n + n) n⟩, ⟨n4, bR (n + n + n) 1⟩]) (x y z c a : Nat) :
 Hit ins [x, y, z, c] ins.length 0 a ↔ (a < n ∧ x.testBit a = true) ∨ (n ≤ a ∧ a < n + n ∧ y.testBit (a - n) = true) ∨ (n + n ≤ a ∧ a < n + n + n ∧ z.testBit (a - (n + n)) = true) ∨ (a = n + n + n ∧ c.testBit 0 = true) := by
 subst hi
 have q : ∀ (m j k : Nat), k < j → (rd (bR m j) (k : Int) = (a : Int) ↔ a = m + k) := fun m j k hk => by
  rw [iX, oF hk]; omega
 constructor
 ·rintro ⟨i', k, hc, hr, ht⟩
  have hc' : i' < 4 ∧ k < (bE [⟨n1, bR 0 n⟩, ⟨n2, bR n n⟩, ⟨n3, bR (n + n) n⟩, ⟨n4, bR (n + n + n) 1⟩] (i' : Int)).f1.length := by
   rcases hc with ⟨h1, h2⟩ | ⟨_, h2⟩
   ·exact ⟨h1, h2⟩
   ·omega
  obtain ⟨h4, hk⟩ := hc'
  match i', h4 with
  | 0, _ =>
   have hk : k < (bR 0 n).length := hk; rw [aX] at hk; have := (q 0 n k hk).1 hr; have ht : x.testBit k = true := ht
   left
   obtain rfl : a = k := by omega
   exact ⟨hk, ht⟩
  | 1, _ =>
   have hk : k < (bR n n).length := hk; rw [aX] at hk; have := (q n n k hk).1 hr; have ht : y.testBit k = true := ht
   right; left
   exact ⟨by omega, by omega, by rw [show a - n = k by omega]; exact ht⟩
  | 2, _ =>
   have hk : k < (bR (n + n) n).length := hk; rw [aX] at hk; have := (q (n + n) n k hk).1 hr; have ht : z.testBit k = true := ht
   right; right; left
   exact ⟨by omega, by omega, by rw [show a - (n + n) = k by omega]; exact ht⟩
  | 3, _ =>
   have hk : k < (bR (n + n + n) 1).length := hk; rw [aX] at hk; have := (q (n + n + n) 1 k hk).1 hr; have ht : c.testBit k = true := ht
   obtain rfl : k = 0 := by omega
   exact .inr (.inr (.inr ⟨by omega, ht⟩))
  | i' + 4, h => omega
 ·rintro (⟨h1, h2⟩ | ⟨h1, h2, h3⟩ | ⟨h1, h2, h3⟩ | ⟨h1, h2⟩)
  ·exact ⟨0, a, .inl ⟨by simp, by show a < (bR 0 n).length; rw [aX]; exact h1⟩, (q 0 n a h1).2 (by omega), h2⟩
  ·exact ⟨1, a - n, .inl ⟨by simp, by show a - n < (bR n n).length; rw [aX]; omega⟩, (q n n (a - n) (by omega)).2 (by omega), h3⟩
  ·exact ⟨2, a - (n + n), .inl ⟨by simp, by show a - (n + n) < (bR (n + n) n).length; rw [aX]; omega⟩, (q (n + n) n (a - (n + n)) (by omega)).2 (by omega), h3⟩
  ·exact ⟨3, 0, .inl ⟨by simp, by show 0 < (bR (n + n + n) 1).length; rw [aX]; omega⟩, (q (n + n + n) 1 0 (by omega)).2 (by omega), h2⟩
theorem TV {n x y z : Nat} {c : Bool} {a : Nat} {b : Bool} (h : (vin n x y z c)[a]? = some b) : b = true ↔ (a < n ∧ x.testBit a = true) ∨ (n ≤ a ∧ a < n + n ∧ y.testBit (a - n) = true) ∨ (n + n ≤ a ∧ a < n + n + n ∧ z.testBit (a - (n + n)) = true) ∨ (a = n + n + n ∧ (bN c).testBit 0 = true) := by
 have hl := (List.getElem?_eq_some_iff.1 h).1; rw [KU] at hl
 have bb : ∀ (X k : Nat) (hk : k < n), (bitsOf n X)[k]? = some (X.testBit k) := fun X k hk => by simp [bitsOf, hk]
 unfold vin at h
 by_cases h1 : a < n
 ·rw [List.getElem?_append_left (by simp [bS]; omega), List.getElem?_append_left (by simp [bS]; omega), List.getElem?_append_left (by rw [bS]; exact h1), bb x a h1] at h; injection h with h; rw [← h]
  constructor
  ·intro h; exact .inl ⟨h1, h⟩
  ·rintro (⟨_, h⟩ | ⟨h, _⟩ | ⟨h, _⟩ | ⟨h, _⟩)
   ·exact h
   all_goals omega
 ·by_cases h2 : a < n + n
  ·rw [List.getElem?_append_left (by simp [bS]; omega), List.getElem?_append_left (by simp [bS]; omega), List.getElem?_append_right (by rw [bS]; omega), bS, bb y (a - n) (by omega)] at h; injection h with h; rw [← h]
   constructor
   ·intro h; exact .inr (.inl ⟨by omega, h2, h⟩)
   ·rintro (⟨h, _⟩ | ⟨_, _, h⟩ | ⟨h, _⟩ | ⟨h, _⟩)
    ·omega
    ·exact h
    all_goals omega
  ·by_cases h3 : a < n + n + n
   ·rw [List.getElem?_append_left (by simp [bS]; omega), List.getElem?_append_right (by simp [bS]; omega), List.length_append, bS, bS, bb z (a - (n + n)) (by omega)] at h; injection h with h; rw [← h]
    constructor
    ·intro h; exact .inr (.inr (.inl ⟨by omega, h3, h⟩))
    ·rintro (⟨h, _⟩ | ⟨_, h, _⟩ | ⟨_, _, h⟩ | ⟨h, _⟩)
     ·omega
     ·omega
     ·exact h
     ·omega
   ·obtain rfl : a = n + n + n := by omega
    rw [List.getElem?_append_right (by simp [bS]; omega), List.length_append, List.length_append, bS, bS, bS, Nat.sub_self] at h; simp at h; subst h
    constructor
    ·intro h; exact .inr (.inr (.inr ⟨rfl, by rw [h]; rfl⟩))
    ·rintro (⟨h, _⟩ | ⟨_, h, _⟩ | ⟨_, h, _⟩ | ⟨_, h⟩)
     ·omega
     ·omega
     ·omega
     ·cases c
      ·simp [bN] at h
      ·rfl
theorem Nh {n p x y z : Nat} {c : Bool} (hp : 2 ≤ p) (hpn : p + 1 ≤ n) (hn : n ≤ 1000) (hx : x < 2 ^ n) (hy : y < 2 ^ n) (hz : z < 2 ^ n) :
 qN (l7 p n x).nodes (l7 p n x).ins (l7 p n x).outs [parts x, parts y, parts z, parts (bN c)]
  [parts (bv (Ng p n (bitsOf n x) (bitsOf n y) (bitsOf n z))), parts (bv [ny p n (bitsOf n x) || ny p n (bitsOf n y) || ny p n (bitsOf n z), qo p n (bitsOf n x) || qo p n (bitsOf n y) || qo p n (bitsOf n z)]), parts (bv (bitsOf (n - 1) x ++ [c]))] := by
 obtain ⟨g0, g1, g2, g3⟩ := FM n x y z c; have hN := KV n x y z c; obtain ⟨v1, u1, f1, f2, f3⟩ := Pv (xs := fxs n) (p := p) hN g0 g1 g2 (aX _ _) (aX _ _) (aX _ _) hp hpn; obtain ⟨v2, u2, w1⟩ := KT u1.nt x (n - 1); have U := u1.trans u2; have X0 := U.sgs g0; have X1 := U.sgs g1; have X2 := U.sgs g2; have X3 := U.sg g3; have O1 := u2.sgs f1; have O2 := ((Sgs.nil v2).cons (u2.sg f3)).cons (u2.sg f2); have O3 := w1.snoc X3; have X3' : Sgs v2 (bR (n + n + n) 1) [c] := (Sgs.nil v2).cons X3; have hpre := vQ (s := wL n) (p := p) (n := n) (len := 3) (xs := fxs n) (fun i _ => by unfold fxs; split; exact aX _ _; split; exact aX _ _; exact aX _ _) hp hpn (List.finRange 3)
 have hlen : (l7 p n x).nodes.length ≤ 30 * n + 1000 := by
  show (fo x (gF p n).st (n - 1)).nodes.length ≤ _; rw [mY]; have h := hpre.2; rw [zB, List.length_finRange] at h; show (jQ p n 3 (fxs n) (wL n) (List.finRange 3)).st.nodes.length + (n - 1) ≤ _; omega
 have eI : (l7 p n x).ins = [⟨⟨#[120]⟩, bR 0 n⟩, ⟨⟨#[121]⟩, bR n n⟩, ⟨⟨#[122]⟩, bR (n + n) n⟩, ⟨⟨#[99]⟩, bR (n + n + n) 1⟩] := by rw [← FL]; exact U.ins
 have eO : (l7 p n x).outs = [⟨⟨#[119]⟩, (gF p n).out⟩, ⟨⟨#[118]⟩, [(gF p n).is, (gF p n).sg]⟩, ⟨⟨#[116]⟩, zA p n x⟩] := by
  show (fo x (gF p n).st (n - 1)).outs ++ [_] ++ [_] ++ [_] = _; rw [show (fo x (gF p n).st (n - 1)).outs = [] from U.outs]; rfl
 have hvl : (l7 p n x).nodes.length = v2.length := U.nt.1
 have key := KA (nodes := (l7 p n x).nodes) (v := v2) (ins := (l7 p n x).ins) (outs := (l7 p n x).outs) [x, y, z, bN c] U.nt (by omega) (by
  intro q hq; rw [hvl]; rw [eI, eO] at hq; simp only [List.cons_append, List.nil_append, List.mem_cons, List.not_mem_nil, or_false] at hq
  have nz : ∀ m k : Nat, 0 < k → bR m k ≠ [] := fun m k hk h => by have := aX m k; rw [h] at this; simp at this; omega
  rcases hq with rfl | rfl | rfl | rfl | rfl | rfl | rfl
  ·exact X0.pt _ (nz _ _ (by omega)) (by rw [aX]; omega)
  ·exact X1.pt _ (nz _ _ (by omega)) (by rw [aX]; omega)
  ·exact X2.pt _ (nz _ _ (by omega)) (by rw [aX]; omega)
  ·exact X3'.pt _ (nz _ _ (by omega)) (by rw [aX]; omega)
  ·have h1 := hpre.1; exact O1.pt _ (by intro h; rw [h] at h1; simp at h1; omega) (by omega)
  ·exact O2.pt _ (by simp) (by simp)
  ·exact O3.pt _ (by simp) (by rw [List.length_append, aX]; simp; omega)) (by rw [eI, eO]; simp) (by rw [eI]; rfl) (by
  intro i hi; rw [eI] at hi ⊢; have hi : i < 4 := hi
  match i, hi with
  | 0, _ => show bT x ≤ (bR 0 n).length; rw [aX]; exact gm hx
  | 1, _ => show bT y ≤ (bR n n).length; rw [aX]; exact gm hy
  | 2, _ => show bT z ≤ (bR (n + n) n).length; rw [aX]; exact gm hz
  | 3, _ => show bT (bN c) ≤ (bR (n + n + n) 1).length; rw [aX]; exact gm (by cases c <;> decide)
  | i + 4, h => omega) (by
  intro i b hb hk; obtain ⟨t, ht, hg⟩ := U.npre
  have e0 : (l7 p n x).nodes = List.replicate (n + n + n + 1) ⟨1, 0, 0, 0⟩ ++ t := by rw [← IW]; exact ht
  rw [e0] at hk; have hin := uk i hk hg; rw [Pw eI x y z (bN c) i]; obtain ⟨u, hu⟩ := U.pre; rw [hu, List.getElem?_append_left (by rw [KU]; exact hin)] at hb
  exact TV hb)
 rw [eO] at key; simp only [List.map_cons, List.map_nil] at key; rw [show sD v2 ⟨⟨#[119]⟩, (gF p n).out⟩ = _ from O1.vb _, show sD v2 ⟨⟨#[118]⟩, [(gF p n).is, (gF p n).sg]⟩ = _ from O2.vb _, show sD v2 ⟨⟨#[116]⟩, zA p n x⟩ = _ from O3.vb _] at key; rw [eO]; exact key
end Go.Proofs.Ytkgeihbcikiedaa.N
set_option linter.unusedVariables false
set_option linter.unusedSimpArgs false
set_option linter.constructorNameAsVariable false
set_option linter.unusedSectionVars false
namespace Go.Proofs.Ytkgeihbcikiedaa.N
open Go.RowKit Go.Proofs.Ytkgeihbcikiedaa.P Go.Proofs.YtkgeihbcikiedaaW.PrintWords Go.Proofs.YtkgeihbcikiedaaW.PrintMore Sk
open Dy
namespace Fm
def qZ (f : Fm) : List Nat → Nat × Bool
 | [] => (0, false)
 | b :: l => if 4 ≤ f.cl b then (f.qui b, true) else f.qZ l
def qp (f : Fm) : List Nat → Bool
 | [] => false
 | b :: l => if f.cl b = 5 then true else f.qp l
end Fm
theorem YY (l : List Bool) : ∀ i, i < l.length → bv (l.set i true) = bv l + (if l.getD i false = true then 0 else 2 ^ i) := by
 induction l with
 | nil => intro i hi; simp at hi
 | cons b l ih =>
  intro i hi
  cases i with
  | zero => cases b <;> simp [bv] <;> omega
  | succ i =>
   have := ih i (by simpa using hi); simp only [List.set_cons_succ, List.getD_cons_succ, bv]; rw [this]
   by_cases hb : l.getD i false = true
   ·rw [if_pos hb, if_pos hb]; omega
   ·rw [if_neg hb, if_neg hb, Nat.pow_succ]; omega
theorem xZ {n x : Nat} (h : x < 2 ^ n) : bv (bitsOf n x) = x := by
 have := xS n x n (Nat.le_refl _); rw [List.take_of_length_le (by rw [bS]; exact Nat.le_refl _), Nat.mod_eq_of_lt h] at this; exact this
section
variable {f : Fm} (h : f.ok)
include h
theorem TW {x : Nat} (hx : x < 2 ^ (f.p + f.w)) : f.qui x = x + (if x.testBit (f.p - 2) = true then 0 else 2 ^ (f.p - 2)) := by
 have hB := Fm.bounds h; have hs := Fm.uE h (b := x); rw [Nat.mod_eq_of_lt hx] at hs
 have a2 : x.testBit (f.p - 2) = decide (2 ^ (f.p - 2) ≤ f.fr x) := by
  rw [Nat.testBit_eq_decide_div_mod_eq]; refine decide_eq_decide.2 ?_; unfold Fm.fr
  rcases h with rfl | rfl | rfl <;> simp only [Nat.reduceSub, Nat.reducePow] <;> omega
 unfold Fm.qui; rw [a2]
 by_cases hc : f.fr x < 2 ^ (f.p - 2)
 ·rw [if_pos hc, if_neg (by simp; omega)]
  conv => rhs; rw [← hs]
  unfold Fm.bld; omega
 ·rw [if_neg hc, hs, if_pos (by simp; omega)]; rfl
theorem zC {x : Nat} (hx : x < 2 ^ (f.p + f.w)) : bv ((bitsOf (f.p + f.w) x).set (f.p - 2) true) = f.qui x := by
 have hB := Fm.bounds h; rw [YY _ _ (by rw [bS]; omega), xZ hx, ll (by omega), TW h hx]
theorem pF (x : Nat) : ny f.p (f.p + f.w) (bitsOf (f.p + f.w) x) = decide (4 ≤ f.cl x) ∧ qo f.p (f.p + f.w) (bitsOf (f.p + f.w) x) = decide (f.cl x = 5) := by
 have hB := Fm.bounds h; have e1 := xS (f.p + f.w) x (f.p - 1) (by omega); have e2 := OW (f.p + f.w) x (f.p - 1) f.w (by omega)
 have l2 : (((bitsOf (f.p + f.w) x).drop (f.p - 1)).take f.w).length = f.w := by simp [bS]; omega
 have a2 : x.testBit (f.p - 2) = decide (2 ^ (f.p - 2) ≤ f.fr x) := by
  rw [Nat.testBit_eq_decide_div_mod_eq]; refine decide_eq_decide.2 ?_; unfold Fm.fr
  rcases h with rfl | rfl | rfl <;> simp only [Nat.reduceSub, Nat.reducePow] <;> omega
 have exl := Fm.mf (f := f) (b := x)
 have hw : 2 ≤ 2 ^ f.w := by have := Nat.pow_le_pow_right (n := 2) (by omega) (show 1 ≤ f.w by omega); simpa using this
 unfold qo ny; rw [show f.p + f.w - f.p = f.w by omega, OX, yY, e1, e2, l2, ll (by omega), a2]; change (decide (f.ex x = 2 ^ f.w - 1) && decide (f.fr x ≠ 0)) = _ ∧ (decide (f.ex x = 2 ^ f.w - 1) && decide (f.fr x ≠ 0) && _) = _; unfold Fm.cl
 by_cases c1 : f.ex x = 0
 ·have c2 : ¬ (0 = 2 ^ f.w - 1) := by omega
  by_cases c3 : f.fr x = 0
  ·simp [c1, c2, c3]
  ·simp [c1, c2, c3]
 ·by_cases c2 : f.ex x < 2 ^ f.w - 1
  ·have c3 : ¬ (f.ex x = 2 ^ f.w - 1) := by omega
   simp [c1, c2, c3]
  ·have c3 : f.ex x = 2 ^ f.w - 1 := by omega
   have c4 : ¬ (2 ^ f.w - 1 = 0) := by omega
   by_cases c5 : f.fr x = 0
   ·simp [c1, c2, c3, c4, c5]
   ·by_cases c6 : 2 ^ (f.p - 2) ≤ f.fr x
    ·simp [c1, c2, c3, c4, c5, c6]
    ·simp [c1, c2, c3, c4, c5, c6]
theorem YZ (x : Nat) (c : Bool) : bv (bitsOf (f.p + f.w - 1) x ++ [c]) = f.bld c (f.ex x) (f.fr x) := by
 have hB := Fm.bounds h
 have e : bv (bitsOf (f.p + f.w - 1) x) = x % 2 ^ (f.p + f.w - 1) := by
  have := xS (f.p + f.w - 1) x (f.p + f.w - 1) (Nat.le_refl _)
  rwa [List.take_of_length_le (by rw [bS]; exact Nat.le_refl _)] at this
 rw [vW, e, bS]
 rcases h with rfl | rfl | rfl <;> cases c <;> simp only [bv, Bool.toNat_true, Bool.toNat_false, Fm.bld, Fm.ex, Fm.fr, Nat.reduceSub, Nat.reduceAdd, Nat.reducePow, Bool.false_eq_true, if_false, if_true] <;> omega
theorem IX {x y z : Nat} (hx : x < 2 ^ (f.p + f.w)) (hy : y < 2 ^ (f.p + f.w)) (hz : z < 2 ^ (f.p + f.w)) (c : Bool) :
 ∃ W : Nat, W < 2 ^ (f.p + f.w) ∧ ((f.qZ [x, y, z]).2 = true → W = (f.qZ [x, y, z]).1) ∧
  qN (l7 f.p (f.p + f.w) x).nodes (l7 f.p (f.p + f.w) x).ins (l7 f.p (f.p + f.w) x).outs [parts x, parts y, parts z, parts (bN c)]
   [parts W, parts (bv [(f.qZ [x, y, z]).2, f.qp [x, y, z]]), parts (f.bld c (f.ex x) (f.fr x))] := by
 have hB := Fm.bounds h; have key := Nh (n := f.p + f.w) (p := f.p) (c := c) (by omega) (by omega) (by omega) hx hy hz; rw [YZ h, (pF h x).1, (pF h y).1, (pF h z).1, (pF h x).2, (pF h y).2, (pF h z).2] at key
 have st : ∀ (b : Nat) l, f.qZ (b :: l) = if 4 ≤ f.cl b then (f.qui b, true) else f.qZ l := fun _ _ => rfl
 have ss : ∀ (b : Nat) l, f.qp (b :: l) = if f.cl b = 5 then true else f.qp l := fun _ _ => rfl
 have e2 : (f.qZ [x, y, z]).2 = (decide (4 ≤ f.cl x) || decide (4 ≤ f.cl y) || decide (4 ≤ f.cl z)) := by
  rw [st, st, st]
  by_cases c1 : 4 ≤ f.cl x <;> by_cases c2 : 4 ≤ f.cl y <;> by_cases c3 : 4 ≤ f.cl z <;> simp [c1, c2, c3, Fm.qZ]
 have e3 : f.qp [x, y, z] = (decide (f.cl x = 5) || decide (f.cl y = 5) || decide (f.cl z = 5)) := by
  rw [ss, ss, ss]
  by_cases c1 : f.cl x = 5 <;> by_cases c2 : f.cl y = 5 <;> by_cases c3 : f.cl z = 5 <;> simp [c1, c2, c3, Fm.qp]
 rw [← e2, ← e3] at key; refine ⟨_, ?_, ?_, key⟩
 ·have hb := KN (Ng f.p (f.p + f.w) (bitsOf (f.p + f.w) x) (bitsOf (f.p + f.w) y) (bitsOf (f.p + f.w) z))
  have hl : (Ng f.p (f.p + f.w) (bitsOf (f.p + f.w) x) (bitsOf (f.p + f.w) y) (bitsOf (f.p + f.w) z)).length = f.p + f.w := by
   unfold Ng
   split
   ·rw [List.length_set, bS]
   ·split
    ·rw [List.length_set, bS]
    ·split
     ·rw [List.length_set, bS]
     ·simp
  rw [hl] at hb; exact hb
 ·intro ha; unfold Ng; rw [(pF h x).1, (pF h y).1, (pF h z).1, st, st, st]; rw [e2] at ha
  by_cases c1 : 4 ≤ f.cl x
  ·simp only [c1, decide_true, if_true]; exact zC h hx
  ·by_cases c2 : 4 ≤ f.cl y
   ·simp only [c1, c2, decide_true, decide_false, if_true, if_false, Bool.false_eq_true]; exact zC h hy
   ·by_cases c3 : 4 ≤ f.cl z
    ·simp only [c1, c2, c3, decide_true, decide_false, if_true, if_false, Bool.false_eq_true]; exact zC h hz
    ·simp [c1, c2, c3] at ha
end
theorem FN {x y z : Nat} (hx : x < 2 ^ 64) (hy : y < 2 ^ 64) (hz : z < 2 ^ 64) : Ev (fun k => bC.f k [(x : Int), (y : Int), (z : Int)]) [parts x, parts y, parts z] := by
 obtain ⟨l, hl⟩ : ∃ l : List Int, l = [(x : Int), (y : Int), (z : Int)] := ⟨_, rfl⟩
 have hll : l.length = 3 := by rw [hl]; rfl
 have step : ∀ (a i : Nat) (acc : List (List Int)), i < 3 → a < 2 ^ 64 → acc.length = i → rd l (i : Int) = (a : Int) → ∀ {r : List (List Int)}, Ev (fun k => bC.l0 k (acc ++ [parts a]) l (l.length : Int) ((i + 1 : Nat) : Int)) r → Ev (fun k => bC.l0 k acc l (l.length : Int) (i : Int)) r := by
  intro a i acc hi ha hacc hr r hc; refine Ev.succ ?_; simp only [bC.l0]; have hw := yZ (n := (a : Int)) (by omega) (by omega); rw [Int.toNat_natCast] at hw; rw [hr, show wrap64 ((i : Int) + 1) = ((i + 1 : Nat) : Int) by rw [w64 (by omega) (by omega)]; omega]; exact Ev.pos (by omega) (Ev.pos (by omega) (Ev.pos (by omega) (Ev.bind hw (Ev.bind (oH (by have := gm ha; omega)) (Ev.pos (by omega) hc)))))
 rw [← hl]; unfold bC.f; refine step x 0 [] (by omega) hx rfl (by rw [hl]; rfl) (step y 1 _ (by omega) hy rfl (by rw [hl]; rfl) (step z 2 _ (by omega) hz rfl (by rw [hl]; rfl) ?_)); refine Ev.succ ?_; simp only [bC.l0]; exact Ev.neg (by omega) (Ev.done _)
end Go.Proofs.Ytkgeihbcikiedaa.N
