/- Words on memory, rows and regions that the contracts name, for every program; cut out of a text that the kit's print wrote. -/
import Derived.Test.YtkgeihbcikiedaaWLast
import Derived.Test.YtkgeihbcikiedaaWWords
namespace Go.Proofs.YtkgeihbcikiedaaW.PrintLast
open Go.Proofs.YtkgeihbcikiedaaW.PrintWords (af)
def rT (md : Region.Mode) (o : Oper) : List Nat := (o.after.toList.filter (fun e => Region.binds md e)).map (fun e => e.on)
def DL (md : Region.Mode) (ops : Array Oper) (i : Nat) (oi : Oper) : List Nat := (List.range ops.size).filter fun j => !(j == i) && match ops[j]? with
 | some oj => !(oj.after.any (fun e => Region.binds md e && e.on == i) || oi.apart ops oj)
 | none => false
def gp (md : Region.Mode) (ops : Array Oper) : Bool × List (List Nat × List Nat) := (Region.noSelect ops, (List.range ops.size).map fun i => match ops[i]? with
 | some o => (rT md o, DL md ops i o)
 | none => ([], []))
def nR (T : List (List Nat × List Nat)) (l : List Bool) (i : Nat) : Bool := !l.getD i true && match T[i]? with
 | some r => r.1.all (fun j => l.getD j false)
 | none => false
def mX (T : List (List Nat × List Nat)) (l : List Bool) : List Nat := (List.range T.length).filter (nR T l)
def Gc (T : List (List Nat × List Nat)) (l : List Bool) (i : Nat) : Bool := match T[i]? with
 | some r => r.2.all (fun j => l.getD j true)
 | none => false
def yz (T : List (List Nat × List Nat)) (l : List Bool) : Bool := (List.range T.length).all fun j => !l.getD j false || match T[j]? with
 | some r => r.1.all (fun k => l.getD k false)
 | none => true
def wN (T : List (List Nat × List Nat)) (i : Nat) : Nat → Nat → Bool
 | 0, _ => false
 | fuel + 1, d => match T[d]? with
  | some r => r.1.any fun j => j == i || wN T i fuel j
  | none => false
def lastT (T : List (List Nat × List Nat)) (l : List Bool) (ds : List Nat) (i : Nat) : Bool := ds.all fun d => l.getD d true || wN T i T.length d
section
variable {md : Region.Mode} {ops : Array Oper} {T : Bool × List (List Nat × List Nat)} {l l' li lj lk : Array Bool} {ds : List Nat} {i j k : Nat}
theorem gd (l : Array Bool) (j : Nat) (b : Bool) : l.getD j b = l.toList.getD j b := by simp [Array.getD_eq_getD_getElem?, List.getD_eq_getElem?_getD]
theorem Ch (o : Oper) (p : Nat → Bool) : o.after.all (fun e => !Region.binds md e || p e.on) = (rT md o).all p := by
 unfold rT; rw [← Array.all_toList]
 induction o.after.toList with
 | nil => rfl
 | cons e r ih =>
  rw [List.all_cons, ih, List.filter_cons]
  cases h : Region.binds md e <;> simp
theorem Nw (o : Oper) (p : Nat → Bool) : o.after.any (fun e => Region.binds md e && p e.on) = (rT md o).any p := by
 unfold rT; rw [← Array.any_toList]
 induction o.after.toList with
 | nil => rfl
 | cons e r ih =>
  rw [List.any_cons, ih, List.filter_cons]
  cases h : Region.binds md e <;> simp
theorem nS : (gp md ops).2.length = ops.size := by simp [gp]
theorem rU {o : Oper} (h : ops[i]? = some o) : (gp md ops).2[i]? = some (rT md o, DL md ops i o) := by
 have hi := (Array.getElem?_eq_some_iff.1 h).1; unfold gp; rw [List.getElem?_map, List.getElem?_range hi, Option.map_some, h]
theorem rV (h : ops[i]? = none) : (gp md ops).2[i]? = none := by
 have hi : ops.size ≤ i := Array.getElem?_eq_none_iff.1 h; exact List.getElem?_eq_none (by rw [nS]; exact hi)
theorem Ji : nR (gp md ops).2 l.toList i = (!l.getD i true && ((ops[i]?).map (·.after.all fun e => !Region.binds md e || l.getD e.on false)).getD false) := by
 unfold nR; rw [gd]
 cases h : ops[i]? with
 | none => rw [rV h]; rfl
 | some o =>
  rw [rU h]; simp only [Option.map_some, Option.getD_some]; rw [← Ch]; simp only [gd]
theorem ready_eq : Region.ready md ops l = mX (gp md ops).2 l.toList := by
 unfold Region.ready mX; rw [nS]; refine List.filter_congr (fun i _ => ?_); rw [Ji]
theorem free_eq : Region.free md ops l i = Gc (gp md ops).2 l.toList i := by
 unfold Region.free Gc
 cases h : ops[i]? with
 | none => rw [rV h]
 | some oi =>
  rw [rU h]; simp only [DL]; rw [List.all_filter]
  congr 1
  funext j
  rw [gd]
  cases hj : ops[j]? with
  | none => cases (j == i) <;> cases (l.toList.getD j true) <;> simp
  | some oj =>
   cases (j == i) <;> cases (l.toList.getD j true) <;> cases (oj.after.any (fun e => Region.binds md e && e.on == i) || oi.apart ops oj) <;> simp_all
theorem Ny : Region.uF md ops l = yz (gp md ops).2 l.toList := by
 unfold Region.uF yz; rw [nS]
 congr 1
 funext j
 rw [gd]
 cases h : ops[j]? with
 | none => rw [rV h]
 | some o =>
  rw [rU h]; simp only; rw [← Ch]; simp only [gd]
theorem Gd : ∀ (fuel d : Nat), Region.l5 md ops i fuel d = wN (gp md ops).2 i fuel d
 | 0, _ => rfl
 | fuel + 1, d => by
  unfold Region.l5 wN
  cases h : ops[d]? with
  | none => rw [rV h]
  | some o =>
   rw [rU h]; simp only; rw [← Nw]
   congr 1
   funext e
   rw [Gd fuel]
theorem U8 : Region.lastB md ops l ds i = lastT (gp md ops).2 l.toList ds i := by
 unfold Region.lastB lastT; rw [nS]
 congr 1
 funext d
 rw [gd, Gd]
theorem xu (h : nR T.2 l.toList i = true) (hT : gp md ops = T) : (Region.ready md ops l).contains i = true := by
 subst hT; rw [ready_eq]; unfold mX; rw [List.contains_iff_mem, List.mem_filter, List.mem_range]; refine ⟨?_, h⟩; unfold nR at h; rw [Bool.and_eq_true] at h
 cases hq : (gp md ops).2[i]? with
 | none => rw [hq] at h; simp at h
 | some r => exact (List.getElem?_eq_some_iff.1 hq).1
theorem zX (h : (l.toList.set i true == l'.toList) = true) : (l.setIfInBounds i true == l') = true := by
 rw [beq_iff_eq] at h ⊢; apply Array.ext'; rw [Array.toList_setIfInBounds]; exact h
def ade (T : Bool × List (List Nat × List Nat)) (l l' : List Bool) (i : Nat) : Bool := T.1 && Gc T.2 l i && nR T.2 l i && (l.set i true == l')
theorem aU (hT : gp md ops = T) (h : ade T l.toList l'.toList i = true) : TC md ops l l' i = true := by
 simp only [ade, Bool.and_eq_true] at h; obtain ⟨⟨⟨h1, h2⟩, h3⟩, h4⟩ := h; have h5 := xu h3 hT; have h6 := zX h4; subst hT; simp only [TC, Bool.and_eq_true]; exact ⟨⟨⟨h1, by rw [free_eq]; exact h2⟩, h5⟩, h6⟩
def Qf (T : Bool × List (List Nat × List Nat)) (ds : List Nat) (l l' : List Bool) (i : Nat) : Bool := T.1 && Gc T.2 l i && nR T.2 l i && yz T.2 l && lastT T.2 l ds i && (l.set i true == l')
theorem U9 (hT : gp md ops = T) (h : Qf T ds l.toList l'.toList i = true) : takeB md ops ds l l' i = true := by
 simp only [Qf, Bool.and_eq_true] at h; obtain ⟨⟨⟨⟨⟨h1, h2⟩, h3⟩, h4⟩, h5⟩, h6⟩ := h; have h7 := xu h3 hT; have h8 := zX h6; subst hT; simp only [takeB, Bool.and_eq_true]; exact ⟨⟨⟨⟨⟨h1, by rw [free_eq]; exact h2⟩, h7⟩, by rw [Ny]; exact h4⟩, by rw [U8]; exact h5⟩, h8⟩
theorem dD (hT : gp md ops = T) (h : (mX T.2 l.toList == [i] && l.toList.set i true == l'.toList) = true) : wE md ops l l' i = true := by
 simp only [Bool.and_eq_true] at h; obtain ⟨h1, h2⟩ := h; subst hT; simp only [wE, Bool.and_eq_true]; exact ⟨by rw [ready_eq]; exact h1, zX h2⟩
theorem Zw (hT : gp md ops = T) (h : (mX T.2 l.toList == [i, j] && l.toList.set i true == li.toList && l.toList.set j true == lj.toList) = true) : (Region.ready md ops l == [i, j] && l.setIfInBounds i true == li && l.setIfInBounds j true == lj) = true := by
 simp only [Bool.and_eq_true] at h ⊢; obtain ⟨⟨h1, h2⟩, h3⟩ := h; subst hT; exact ⟨⟨by rw [ready_eq]; exact h1, zX h2⟩, zX h3⟩
theorem gq (hT : gp md ops = T) (h : (mX T.2 l.toList == []) = true) : (Region.ready md ops l == []) = true := by
 subst hT; rw [ready_eq]; exact h
def upM (B : List Nat) (d : Nat) : List Nat → Nat
 | [] => 0
 | n :: r => (2 ^ n ||| (if n < d then B.getD n 0 else 0)) ||| upM B d r
def fZ (T : List (List Nat × List Nat)) (B : List Nat) : Bool := (List.range T.length).all fun d => match T[d]? with
 | some r => (B.getD d 0 ||| upM B d r.1) == upM B d r.1
 | none => false
theorem La {B : List Nat} {d i : Nat} : ∀ {ns : List Nat}, (upM B d ns).testBit i = true → ∃ n ∈ ns, n = i ∨ (n < d ∧ (B.getD n 0).testBit i = true)
 | [], h => by simp [upM] at h
 | n :: r, h => by
  unfold upM at h; rw [Nat.testBit_or, Nat.testBit_or, Bool.or_eq_true, Bool.or_eq_true] at h
  rcases h with (h | h) | h
  ·rw [Nat.testBit_two_pow] at h; exact ⟨n, List.mem_cons_self, .inl (by simpa using h)⟩
  ·by_cases hn : n < d
   ·rw [if_pos hn] at h; exact ⟨n, List.mem_cons_self, .inr ⟨hn, h⟩⟩
   ·rw [if_neg hn] at h; simp at h
  ·obtain ⟨m, hm, h2⟩ := La h; exact ⟨m, List.mem_cons_of_mem _ hm, h2⟩
theorem Ci {T : List (List Nat × List Nat)} {B : List Nat} (hB : fZ T B = true) : ∀ (fuel d : Nat), d < fuel → d < T.length → (B.getD d 0).testBit i = true → wN T i fuel d = true
 | 0, d, h, _, _ => by omega
 | fuel + 1, d, h, hd, hb => by
  have h1 := List.all_eq_true.1 hB d (List.mem_range.2 hd)
  cases hr : T[d]? with
  | none => rw [hr] at h1; simp at h1
  | some r =>
   rw [hr] at h1; simp only [beq_iff_eq] at h1
   have h2 : (upM B d r.1).testBit i = true := by rw [← h1, Nat.testBit_or, hb, Bool.true_or]
   obtain ⟨n, hn, h3⟩ := La h2; unfold wN; rw [hr]; simp only; rw [List.any_eq_true]; refine ⟨n, hn, ?_⟩
   rcases h3 with rfl | ⟨h4, h5⟩
   ·simp
   ·rw [Ci hB fuel n (by omega) (by omega) h5, Bool.or_true]
def WO (T : List (List Nat × List Nat)) (B : List Nat) (l : List Bool) (ds : List Nat) (i : Nat) : Bool := ds.all fun d => l.getD d true || (decide (d < T.length) && (B.getD d 0).testBit i)
def WP (T : Bool × List (List Nat × List Nat)) (B : List Nat) (ds : List Nat) (l l' : List Bool) (i : Nat) : Bool := T.1 && Gc T.2 l i && nR T.2 l i && yz T.2 l && WO T.2 B l ds i && (l.set i true == l')
theorem bP {B : List Nat} (hT : gp md ops = T) (hB : fZ T.2 B = true) (h : WP T B ds l.toList l'.toList i = true) : takeB md ops ds l l' i = true := by
 refine U9 hT ?_; simp only [WP, Qf, Bool.and_eq_true] at h ⊢; obtain ⟨⟨⟨⟨⟨h1, h2⟩, h3⟩, h4⟩, h5⟩, h6⟩ := h; refine ⟨⟨⟨⟨⟨h1, h2⟩, h3⟩, h4⟩, ?_⟩, h6⟩; unfold WO at h5; unfold lastT; rw [List.all_eq_true] at h5 ⊢; intro d hd; have h7 := h5 d hd; rw [Bool.or_eq_true, Bool.and_eq_true, decide_eq_true_eq] at h7
 rcases h7 with h7 | ⟨h8, h9⟩
 ·rw [h7, Bool.true_or]
 ·rw [Ci hB _ d h8 h8 h9, Bool.or_true]
theorem eT {P : Program} {Q : Exit → Act → World → Prop} {S : World → Prop} {n : Nat} {a : Act} {w : World} {B : List Nat} (hT : gp md ops = T) (hB : fZ T.2 B = true) (h : af (gp md ops = T) → af (fZ T.2 B = true) → bW P md ops Q S ds n l a w) : bW P md ops Q S ds n l a w := h ⟨hT⟩ ⟨hB⟩
end
def sG : Code → Nat → Option (Array Oper)
 | .region id ops _, k => if id == k then some ops else none
 | .seq a b, k => match sG a k with
  | some o => some o
  | none => sG b k
 | .cond _ a b, k => match sG a k with
  | some o => some o
  | none => sG b k
 | .block _ c, k => sG c k
 | .loop c, k => sG c k
 | .scope c, k => sG c k
 | .rangeFunc _ _ a b, k => match sG a k with
  | some o => some o
  | none => sG b k
 | _, _ => none
def opsOf (f : Func) (k : Nat) : Array Oper := ((f.body.bind fun c => sG c k)).getD #[]
end Go.Proofs.YtkgeihbcikiedaaW.PrintLast
