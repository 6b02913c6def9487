/- Words on memory, rows and regions that the contracts name, for every program; cut out of a text that the kit's print wrote. -/
import Derived.Test.YtkgeihbcikiedaaWLast
import Derived.Test.YtkgeihbcikiedaaWWords
namespace Go.Proofs.YtkgeihbcikiedaaW.PrintLast
open Go.Proofs.YtkgeihbcikiedaaW.PrintWords (af)
def rH (md : Region.Mode) (o : Oper) : List Nat := (o.after.toList.filter (fun e => Region.binds md e)).map (fun e => e.on)
def D5 (md : Region.Mode) (ops : Array Oper) (i : Nat) (oi : Oper) : List Nat := (List.range ops.size).filter fun j => !(j == i) && match ops[j]? with
 | some oj => !(oj.after.any (fun e => Region.binds md e && e.on == i) || oi.apart ops oj)
 | none => false
def iZ (md : Region.Mode) (ops : Array Oper) : Bool × List (List Nat × List Nat) := (Region.noSelect ops, (List.range ops.size).map fun i => match ops[i]? with
 | some o => (rH md o, D5 md ops i o)
 | none => ([], []))
def nQ (T : List (List Nat × List Nat)) (l : List Bool) (i : Nat) : Bool := !l.getD i true && match T[i]? with
 | some r => r.1.all (fun j => l.getD j false)
 | none => false
def wM (T : List (List Nat × List Nat)) (l : List Bool) : List Nat := (List.range T.length).filter (nQ T l)
def Gu (T : List (List Nat × List Nat)) (l : List Bool) (i : Nat) : Bool := match T[i]? with
 | some r => r.2.all (fun j => l.getD j true)
 | none => false
def yc (T : List (List Nat × List Nat)) (l : List Bool) : Bool := (List.range T.length).all fun j => !l.getD j false || match T[j]? with
 | some r => r.1.all (fun k => l.getD k false)
 | none => true
def wN (T : List (List Nat × List Nat)) (i : Nat) : Nat → Nat → Bool
 | 0, _ => false
 | fuel + 1, d => match T[d]? with
  | some r => r.1.any fun j => j == i || wN T i fuel j
  | none => false
def lastT (T : List (List Nat × List Nat)) (l : List Bool) (ds : List Nat) (i : Nat) : Bool := ds.all fun d => l.getD d true || wN T i T.length d
section
variable {md : Region.Mode} {ops : Array Oper} {T : Bool × List (List Nat × List Nat)} {l l' li lj lk : Array Bool} {ds : List Nat} {i j k : Nat}
theorem gd (l : Array Bool) (j : Nat) (b : Bool) : l.getD j b = l.toList.getD j b := by simp [Array.getD_eq_getD_getElem?, List.getD_eq_getElem?_getD]
theorem Cg (o : Oper) (p : Nat → Bool) : o.after.all (fun e => !Region.binds md e || p e.on) = (rH md o).all p := by
 unfold rH; rw [← Array.all_toList]
 induction o.after.toList with
 | nil => rfl
 | cons e r ih =>
  rw [List.all_cons, ih, List.filter_cons]
  cases h : Region.binds md e <;> simp
theorem Oj (o : Oper) (p : Nat → Bool) : o.after.any (fun e => Region.binds md e && p e.on) = (rH md o).any p := by
 unfold rH; rw [← Array.any_toList]
 induction o.after.toList with
 | nil => rfl
 | cons e r ih =>
  rw [List.any_cons, ih, List.filter_cons]
  cases h : Region.binds md e <;> simp
theorem nR : (iZ md ops).2.length = ops.size := by simp [iZ]
theorem rJ {o : Oper} (h : ops[i]? = some o) : (iZ md ops).2[i]? = some (rH md o, D5 md ops i o) := by
 have hi := (Array.getElem?_eq_some_iff.1 h).1; unfold iZ; rw [List.getElem?_map, List.getElem?_range hi, Option.map_some, h]
theorem rM (h : ops[i]? = none) : (iZ md ops).2[i]? = none := by
 have hi : ops.size ≤ i := Array.getElem?_eq_none_iff.1 h; exact List.getElem?_eq_none (by rw [nR]; exact hi)
theorem JI : nQ (iZ md ops).2 l.toList i = (!l.getD i true && ((ops[i]?).map (·.after.all fun e => !Region.binds md e || l.getD e.on false)).getD false) := by
 unfold nQ; rw [gd]
 cases h : ops[i]? with
 | none => rw [rM h]; rfl
 | some o =>
  rw [rJ h]; simp only [Option.map_some, Option.getD_some]; rw [← Cg]; simp only [gd]
theorem ready_eq : Region.ready md ops l = wM (iZ md ops).2 l.toList := by
 unfold Region.ready wM; rw [nR]; refine List.filter_congr (fun i _ => ?_); rw [JI]
theorem free_eq : Region.free md ops l i = Gu (iZ md ops).2 l.toList i := by
 unfold Region.free Gu
 cases h : ops[i]? with
 | none => rw [rM h]
 | some oi =>
  rw [rJ h]; simp only [D5]; rw [List.all_filter]
  congr 1
  funext j
  rw [gd]
  cases hj : ops[j]? with
  | none => cases (j == i) <;> cases (l.toList.getD j true) <;> simp
  | some oj =>
   cases (j == i) <;> cases (l.toList.getD j true) <;> cases (oj.after.any (fun e => Region.binds md e && e.on == i) || oi.apart ops oj) <;> simp_all
theorem Ol : Region.uE md ops l = yc (iZ md ops).2 l.toList := by
 unfold Region.uE yc; rw [nR]
 congr 1
 funext j
 rw [gd]
 cases h : ops[j]? with
 | none => rw [rM h]
 | some o =>
  rw [rJ h]; simp only; rw [← Cg]; simp only [gd]
theorem Gv : ∀ (fuel d : Nat), Region.mG md ops i fuel d = wN (iZ md ops).2 i fuel d
 | 0, _ => rfl
 | fuel + 1, d => by
  unfold Region.mG wN
  cases h : ops[d]? with
  | none => rw [rM h]
  | some o =>
   rw [rJ h]; simp only; rw [← Oj]
   congr 1
   funext e
   rw [Gv fuel]
theorem U9 : Region.lastB md ops l ds i = lastT (iZ md ops).2 l.toList ds i := by
 unfold Region.lastB lastT; rw [nR]
 congr 1
 funext d
 rw [gd, Gv]
theorem xh (h : nQ T.2 l.toList i = true) (hT : iZ md ops = T) : (Region.ready md ops l).contains i = true := by
 subst hT; rw [ready_eq]; unfold wM; rw [List.contains_iff_mem, List.mem_filter, List.mem_range]; refine ⟨?_, h⟩; unfold nQ at h; rw [Bool.and_eq_true] at h
 cases hq : (iZ md ops).2[i]? with
 | none => rw [hq] at h; simp at h
 | some r => exact (List.getElem?_eq_some_iff.1 hq).1
theorem zN (h : (l.toList.set i true == l'.toList) = true) : (l.setIfInBounds i true == l') = true := by
 rw [beq_iff_eq] at h ⊢; apply Array.ext'; rw [Array.toList_setIfInBounds]; exact h
def adb (T : Bool × List (List Nat × List Nat)) (l l' : List Bool) (i : Nat) : Bool := T.1 && Gu T.2 l i && nQ T.2 l i && (l.set i true == l')
theorem bB (hT : iZ md ops = T) (h : adb T l.toList l'.toList i = true) : TF md ops l l' i = true := by
 simp only [adb, Bool.and_eq_true] at h; obtain ⟨⟨⟨h1, h2⟩, h3⟩, h4⟩ := h; have h5 := xh h3 hT; have h6 := zN h4; subst hT; simp only [TF, Bool.and_eq_true]; exact ⟨⟨⟨h1, by rw [free_eq]; exact h2⟩, h5⟩, h6⟩
def QE (T : Bool × List (List Nat × List Nat)) (ds : List Nat) (l l' : List Bool) (i : Nat) : Bool := T.1 && Gu T.2 l i && nQ T.2 l i && yc T.2 l && lastT T.2 l ds i && (l.set i true == l')
theorem Vb (hT : iZ md ops = T) (h : QE T ds l.toList l'.toList i = true) : takeB md ops ds l l' i = true := by
 simp only [QE, Bool.and_eq_true] at h; obtain ⟨⟨⟨⟨⟨h1, h2⟩, h3⟩, h4⟩, h5⟩, h6⟩ := h; have h7 := xh h3 hT; have h8 := zN h6; subst hT; simp only [takeB, Bool.and_eq_true]; exact ⟨⟨⟨⟨⟨h1, by rw [free_eq]; exact h2⟩, h7⟩, by rw [Ol]; exact h4⟩, by rw [U9]; exact h5⟩, h8⟩
theorem fI (hT : iZ md ops = T) (h : (wM T.2 l.toList == [i] && l.toList.set i true == l'.toList) = true) : wF md ops l l' i = true := by
 simp only [Bool.and_eq_true] at h; obtain ⟨h1, h2⟩ := h; subst hT; simp only [wF, Bool.and_eq_true]; exact ⟨by rw [ready_eq]; exact h1, zN h2⟩
theorem ZB (hT : iZ md ops = T) (h : (wM T.2 l.toList == [i, j] && l.toList.set i true == li.toList && l.toList.set j true == lj.toList) = true) : (Region.ready md ops l == [i, j] && l.setIfInBounds i true == li && l.setIfInBounds j true == lj) = true := by
 simp only [Bool.and_eq_true] at h ⊢; obtain ⟨⟨h1, h2⟩, h3⟩ := h; subst hT; exact ⟨⟨by rw [ready_eq]; exact h1, zN h2⟩, zN h3⟩
theorem jA (hT : iZ md ops = T) (h : (wM T.2 l.toList == []) = true) : (Region.ready md ops l == []) = true := by
 subst hT; rw [ready_eq]; exact h
def upM (B : List Nat) (d : Nat) : List Nat → Nat
 | [] => 0
 | n :: r => (2 ^ n ||| (if n < d then B.getD n 0 else 0)) ||| upM B d r
def ji (T : List (List Nat × List Nat)) (B : List Nat) : Bool := (List.range T.length).all fun d => match T[d]? with
 | some r => (B.getD d 0 ||| upM B d r.1) == upM B d r.1
 | none => false
theorem LV {B : List Nat} {d i : Nat} : ∀ {ns : List Nat}, (upM B d ns).testBit i = true → ∃ n ∈ ns, n = i ∨ (n < d ∧ (B.getD n 0).testBit i = true)
 | [], h => by simp [upM] at h
 | n :: r, h => by
  unfold upM at h; rw [Nat.testBit_or, Nat.testBit_or, Bool.or_eq_true, Bool.or_eq_true] at h
  rcases h with (h | h) | h
  ·rw [Nat.testBit_two_pow] at h; exact ⟨n, List.mem_cons_self, .inl (by simpa using h)⟩
  ·by_cases hn : n < d
   ·rw [if_pos hn] at h; exact ⟨n, List.mem_cons_self, .inr ⟨hn, h⟩⟩
   ·rw [if_neg hn] at h; simp at h
  ·obtain ⟨m, hm, h2⟩ := LV h; exact ⟨m, List.mem_cons_of_mem _ hm, h2⟩
theorem Ch {T : List (List Nat × List Nat)} {B : List Nat} (hB : ji T B = true) : ∀ (fuel d : Nat), d < fuel → d < T.length → (B.getD d 0).testBit i = true → wN T i fuel d = true
 | 0, d, h, _, _ => by omega
 | fuel + 1, d, h, hd, hb => by
  have h1 := List.all_eq_true.1 hB d (List.mem_range.2 hd)
  cases hr : T[d]? with
  | none => rw [hr] at h1; simp at h1
  | some r =>
   rw [hr] at h1; simp only [beq_iff_eq] at h1
   have h2 : (upM B d r.1).testBit i = true := by rw [← h1, Nat.testBit_or, hb, Bool.true_or]
   obtain ⟨n, hn, h3⟩ := LV h2; unfold wN; rw [hr]; simp only; rw [List.any_eq_true]; refine ⟨n, hn, ?_⟩
   rcases h3 with rfl | ⟨h4, h5⟩
   ·simp
   ·rw [Ch hB fuel n (by omega) (by omega) h5, Bool.or_true]
def Xb (T : List (List Nat × List Nat)) (B : List Nat) (l : List Bool) (ds : List Nat) (i : Nat) : Bool := ds.all fun d => l.getD d true || (decide (d < T.length) && (B.getD d 0).testBit i)
def Xc (T : Bool × List (List Nat × List Nat)) (B : List Nat) (ds : List Nat) (l l' : List Bool) (i : Nat) : Bool := T.1 && Gu T.2 l i && nQ T.2 l i && yc T.2 l && Xb T.2 B l ds i && (l.set i true == l')
theorem eB {B : List Nat} (hT : iZ md ops = T) (hB : ji T.2 B = true) (h : Xc T B ds l.toList l'.toList i = true) : takeB md ops ds l l' i = true := by
 refine Vb hT ?_; simp only [Xc, QE, Bool.and_eq_true] at h ⊢; obtain ⟨⟨⟨⟨⟨h1, h2⟩, h3⟩, h4⟩, h5⟩, h6⟩ := h; refine ⟨⟨⟨⟨⟨h1, h2⟩, h3⟩, h4⟩, ?_⟩, h6⟩; unfold Xb at h5; unfold lastT; rw [List.all_eq_true] at h5 ⊢; intro d hd; have h7 := h5 d hd; rw [Bool.or_eq_true, Bool.and_eq_true, decide_eq_true_eq] at h7
 rcases h7 with h7 | ⟨h8, h9⟩
 ·rw [h7, Bool.true_or]
 ·rw [Ch hB _ d h8 h8 h9, Bool.or_true]
theorem gW {P : Program} {Q : Exit → Act → World → Prop} {S : World → Prop} {n : Nat} {a : Act} {w : World} {B : List Nat} (hT : iZ md ops = T) (hB : ji T.2 B = true) (h : af (iZ md ops = T) → af (ji T.2 B = true) → cB P md ops Q S ds n l a w) : cB P md ops Q S ds n l a w := h ⟨hT⟩ ⟨hB⟩
end
def r9 : Code → Nat → Option (Array Oper)
 | .region id ops _, k => if id == k then some ops else none
 | .seq a b, k => match r9 a k with
  | some o => some o
  | none => r9 b k
 | .cond _ a b, k => match r9 a k with
  | some o => some o
  | none => r9 b k
 | .block _ c, k => r9 c k
 | .loop c, k => r9 c k
 | .scope c, k => r9 c k
 | .rangeFunc _ _ a b, k => match r9 a k with
  | some o => some o
  | none => r9 b k
 | _, _ => none
def opsOf (f : Func) (k : Nat) : Array Oper := ((f.body.bind fun c => r9 c k)).getD #[]
end Go.Proofs.YtkgeihbcikiedaaW.PrintLast
