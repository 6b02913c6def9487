/- Nets whose nodes stand behind those they use, and what reference 7 tells of them, for all such nets of fewer than a million nodes. -/
import Derived.Test.YtkgeihbcikiedaaN7
import Derived.Test.YtkgeihbcikiedaaPx10
import Derived.Test.YtkgeihbcikiedaaPx0
import Derived.Test.YtkgeihbcikiedaaPx2
import Derived.Test.YtkgeihbcikiedaaPx3
import Derived.Test.YtkgeihbcikiedaaPx6
import Derived.Test.YtkgeihbcikiedaaPx7
import Derived.Test.YtkgeihbcikiedaaPx8
import Derived.Test.YtkgeihbcikiedaaPx9
set_option linter.unusedVariables false
set_option linter.unusedSimpArgs false
set_option linter.constructorNameAsVariable false
set_option linter.unusedSectionVars false
namespace Go.Proofs.Ytkgeihbcikiedaa.N
open Go.RowKit Go.Proofs.Ytkgeihbcikiedaa.P Go.Proofs.YtkgeihbcikiedaaW.PrintWords Go.Proofs.YtkgeihbcikiedaaW.PrintMore Sk
def bI (b : Bool) : Int := if b then 1 else 0
inductive Gt (v : List Bool) (i : Nat) : S92 → Bool → Prop
 | const (b : Bool) : Gt v i ⟨0, bI b, 0, 0⟩ b
 | inp (b : Bool) : Gt v i ⟨1, 0, 0, 0⟩ b
 | not (a : Nat) (x : Bool) (ha : a < i) (hx : v[a]? = some x) : Gt v i ⟨2, (a : Int), 0, 0⟩ (!x)
 | and (a b : Nat) (x y : Bool) (ha : a < i) (hb : b < i) (hx : v[a]? = some x) (hy : v[b]? = some y) : Gt v i ⟨3, (a : Int), (b : Int), 0⟩ (x && y)
 | or (a b : Nat) (x y : Bool) (ha : a < i) (hb : b < i) (hx : v[a]? = some x) (hy : v[b]? = some y) : Gt v i ⟨4, (a : Int), (b : Int), 0⟩ (x || y)
 | mux (a b c : Nat) (x y z : Bool) (ha : a < i) (hb : b < i) (hc : c < i) (hx : v[a]? = some x) (hy : v[b]? = some y) (hz : v[c]? = some z) : Gt v i ⟨6, (a : Int), (b : Int), (c : Int)⟩ (if z then y else x)
theorem mK {v u : List Bool} {a : Nat} {x : Bool} (h : v[a]? = some x) : (v ++ u)[a]? = some x := by
 have := (List.getElem?_eq_some_iff.1 h).1; rw [List.getElem?_append_left this]; exact h
theorem Gt.app {v : List Bool} {i : Nat} {g : S92} {b : Bool} (h : Gt v i g b) (u : List Bool) : Gt (v ++ u) i g b := by
 cases h with
 | const => exact .const _
 | inp => exact .inp _
 | not a x ha hx => exact .not a x ha (mK hx)
 | and a b x y ha hb hx hy => exact .and a b x y ha hb (mK hx) (mK hy)
 | or a b x y ha hb hx hy => exact .or a b x y ha hb (mK hx) (mK hy)
 | mux a b c x y z ha hb hc hx hy hz => exact .mux a b c x y z ha hb hc (mK hx) (mK hy) (mK hz)
def Nt (nodes : List S92) (v : List Bool) : Prop := nodes.length = v.length ∧ ∀ i g b, nodes[i]? = some g → v[i]? = some b → Gt v i g b
theorem Nt.nil : Nt [] [] := ⟨rfl, fun i g b h => by simp at h⟩
theorem Nt.snoc {nodes : List S92} {v : List Bool} {g : S92} {b : Bool} (h : Nt nodes v) (hg : Gt v v.length g b) : Nt (nodes ++ [g]) (v ++ [b]) := by
 refine ⟨by simp [h.1], fun i g' b' hi hb => ?_⟩
 by_cases hl : i < nodes.length
 ·rw [List.getElem?_append_left hl] at hi; rw [List.getElem?_append_left (by rw [← h.1]; exact hl)] at hb; exact (h.2 i g' b' hi hb).app _
 ·have hi' : i = nodes.length := by
   have := (List.getElem?_eq_some_iff.1 hi).1; simp at this; omega
  subst hi'; rw [List.getElem?_append_right (Nat.le_refl _), Nat.sub_self] at hi; rw [h.1, List.getElem?_append_right (Nat.le_refl _), Nat.sub_self] at hb; simp at hi hb; subst hi; subst hb; rw [h.1]; exact hg.app _
theorem Nt.at {nodes : List S92} {v : List Bool} (h : Nt nodes v) {i : Nat} (hi : i < nodes.length) : ∃ b, v[i]? = some b ∧ Gt v i (aM nodes (i : Int)) b := by
 have hv : i < v.length := by rw [← h.1]; exact hi
 refine ⟨v[i], List.getElem?_eq_getElem hv, ?_⟩
 have e : aM nodes (i : Int) = nodes[i] := by unfold aM; rw [Int.toNat_natCast]; simp [List.getD_eq_getElem?_getD, hi]
 rw [e]; exact h.2 i _ _ (List.getElem?_eq_getElem hi) (List.getElem?_eq_getElem hv)
def lC (g : S92) : List Int := if g.f0 = 0 ∨ g.f0 = 1 then [] else if g.f0 = 2 then [g.f1] else if g.f0 = 6 then [g.f1, g.f2, g.f3] else [g.f1, g.f2]
theorem Ev.acp {α : Type} {g : Nat → Option α} {r : α} (h : ∀ k, g (k + 10) = some r) : Ev g r := ⟨10, fun k hk => by obtain ⟨m, rfl⟩ := Nat.exists_eq_add_of_le' hk; exact h m⟩
theorem SV {v : List Bool} {i : Nat} {g : S92} {b : Bool} (h : Gt v i g b) : Ev (fun k => cK.f k g.f0 g.f1 g.f2 g.f3) (lC g) := by
 refine Ev.acp fun k => ?_
 cases h <;> simp [cK.f, ax.f, ax.j0, ax.j1, ax.j2, lC, mx]
theorem KS {v : List Bool} {i : Nat} {g : S92} {b : Bool} (h : Gt v i g b) : (lC g).length ≤ 3 ∧ ∀ k, k < (lC g).length → ∃ a : Nat, rd (lC g) (k : Int) = (a : Int) ∧ a < i := by
 cases h with
 | const => exact ⟨by simp [lC], fun k hk => by simp [lC] at hk⟩
 | inp => exact ⟨by simp [lC], fun k hk => by simp [lC] at hk⟩
 | not a x ha hx => exact ⟨by simp [lC], fun k hk => by
  have hk : k < 1 := hk
  match k, hk with
  | 0, _ => exact ⟨a, rfl, ha⟩⟩
 | and a b x y ha hb hx hy => exact ⟨by simp [lC], fun k hk => by
  have hk : k < 2 := hk
  match k, hk with
  | 0, _ => exact ⟨a, rfl, ha⟩
  | 1, _ => exact ⟨b, rfl, hb⟩⟩
 | or a b x y ha hb hx hy => exact ⟨by simp [lC], fun k hk => by
  have hk : k < 2 := hk
  match k, hk with
  | 0, _ => exact ⟨a, rfl, ha⟩
  | 1, _ => exact ⟨b, rfl, hb⟩⟩
 | mux a b c x y z ha hb hc hx hy hz => exact ⟨by simp [lC], fun k hk => by
  have hk : k < 3 := hk
  match k, hk with
  | 0, _ => exact ⟨a, rfl, ha⟩
  | 1, _ => exact ⟨b, rfl, hb⟩
  | 2, _ => exact ⟨c, rfl, hc⟩⟩
theorem uG {i : Nat} (h : i < 1000000000) : wrap64 ((i : Int) + 1) = ((i + 1 : Nat) : Int) := by rw [w64 (by omega) (by omega)]; omega
theorem NJ {v : List Bool} {i : Nat} {g : S92} {b : Bool} (h : Gt v i g b) {n : Nat} (hn : i < n) : Ev (fun k => bz.f k g.f0 g.f1 g.f2 g.f3 (n : Int)) true := by
 refine Ev.acp fun k => ?_
 have w1 : wrap64 1 = 1 := w64 (by omega) (by omega); have w2 : wrap64 2 = 2 := w64 (by omega) (by omega); have w3 : wrap64 3 = 3 := w64 (by omega) (by omega)
 cases h with
 | const b => cases b <;> simp [bz.f, bz.l0, cK.f, ax.f, ax.j0, ax.j1, ax.j2, mx, rd, w1, w2, w3, dz.f, bI]
 | inp b => simp [bz.f, bz.l0, cK.f, ax.f, ax.j0, ax.j1, ax.j2, mx, rd, w1, w2, w3, dz.f, bI]
 | not a x ha hx =>
  have a1 : ¬ ((a : Int) < 0) := by omega
  have a2 : ¬ ((a : Int) ≥ (n : Int)) := by omega
  simp [bz.f, bz.l0, cK.f, ax.f, ax.j0, ax.j1, ax.j2, mx, rd, w1, w2, w3, dz.f, bI, a1, a2]
 | and a b x y ha hb hx hy =>
  simp [bz.f, bz.l0, cK.f, ax.f, ax.j0, ax.j1, ax.j2, mx, rd, w1, w2, w3, dz.f, bI]; rw [if_neg (by omega), if_neg (by omega), if_neg (by omega), if_neg (by omega)]
 | or a b x y ha hb hx hy =>
  simp [bz.f, bz.l0, cK.f, ax.f, ax.j0, ax.j1, ax.j2, mx, rd, w1, w2, w3, dz.f, bI]; rw [if_neg (by omega), if_neg (by omega), if_neg (by omega), if_neg (by omega)]
 | mux a b c x y z ha hb hc hx hy hz =>
  simp [bz.f, bz.l0, cK.f, ax.f, ax.j0, ax.j1, ax.j2, mx, rd, w1, w2, w3, dz.f, bI]; rw [if_neg (by omega), if_neg (by omega), if_neg (by omega), if_neg (by omega), if_neg (by omega), if_neg (by omega)]
theorem Gt.kind {v : List Bool} {i : Nat} {g : S92} {b : Bool} (h : Gt v i g b) : g.f0 ≠ 7 := by cases h <;> simp
def vP (n : Nat) (p : S94) : Prop := p.f1 ≠ [] ∧ p.f1.length < 1000000 ∧ ∀ k, k < p.f1.length → ∃ a : Nat, rd p.f1 (k : Int) = (a : Int) ∧ a < n
theorem Lr (l : List S94) (i : Nat) (hi : i < l.length) : bG l (i : Int) = l[i] := by unfold bG; rw [Int.toNat_natCast]; simp [List.getD_eq_getElem?_getD, hi]
theorem sH (l : List Int) (i j : Nat) (x : Int) (hi : i < l.length) : rd (l.set i x) (j : Int) = if i = j then x else rd l (j : Int) := by
 rw [jK, jK]; exact FT l i j x hi
def upTo (n : Nat) : List Int := (List.range n).map Int.ofNat
theorem Ng (n : Nat) : upTo (n + 1) = upTo n ++ [(n : Int)] := by simp [upTo, List.range_succ]
theorem tT (n : Nat) : (upTo n).length = n := by simp [upTo]
theorem TG {n i : Nat} (h : i < n) : rd (upTo n) (i : Int) = (i : Int) := by rw [jK]; simp [upTo, List.getD_eq_getElem?_getD, h]
theorem EX (n i : Nat) : rd (List.replicate n (0 : Int)) (i : Int) = 0 := by rw [jK]; exact sQ n i
theorem YT {nodes : List S92} {v : List Bool} {ins outs : List S94} (hn : Nt nodes v) (hl : nodes.length < 1000000) (d : Nat) :
 ∀ i, i + d = nodes.length → Ev (fun k => bM.l0 k (List.replicate nodes.length 0) (i : Int) nodes ins outs) (List.replicate nodes.length 0) := by
 induction d with
 | zero =>
  intro i hd; refine Ev.succ ?_; simp only [bM.l0]; exact Ev.neg (by simp; omega) (Ev.done _)
 | succ d ih =>
  intro i hd; obtain ⟨b, hb, hg⟩ := hn.at (i := i) (by omega); refine Ev.succ ?_; simp only [bM.l0]; rw [uG (i := i) (by omega)]; exact Ev.pos (by simp; omega) (Ev.pos (by omega) (Ev.pos (by omega) (Ev.neg hg.kind (ih (i + 1) (by omega)))))
theorem PQ {nodes : List S92} {v : List Bool} {ins outs : List S94} (hn : Nt nodes v) (hl : nodes.length < 1000000) : Ev (fun k => bM.f k nodes ins outs) (List.replicate nodes.length 0) := by
 unfold bM.f; exact Ev.pos (by omega) (Ev.pos (by omega) (YT hn hl nodes.length 0 (by omega)))
theorem acr {nodes : List S92} {v : List Bool} {ins outs : List S94} (x1 : List Int) (hn : Nt nodes v) (hl : nodes.length < 1000000) (d : Nat) :
 ∀ i, i + d = nodes.length → Ev (fun k => bE.l0 k x1 (List.replicate nodes.length 0) (i : Int) nodes ins outs) (List.replicate nodes.length 0) := by
 induction d with
 | zero =>
  intro i hd; refine Ev.succ ?_; simp only [bE.l0]; exact Ev.neg (by simp; omega) (Ev.done _)
 | succ d ih =>
  intro i hd; obtain ⟨b, hb, hg⟩ := hn.at (i := i) (by omega); refine Ev.succ ?_; simp only [bE.l0]; rw [uG (i := i) (by omega)]; exact Ev.pos (by simp; omega) (Ev.pos (by omega) (Ev.pos (by omega) (Ev.neg hg.kind (ih (i + 1) (by omega)))))
theorem TH {nodes : List S92} {v : List Bool} {ins outs : List S94} (x1 : List Int) (hn : Nt nodes v) (hl : nodes.length < 1000000) : Ev (fun k => bE.f k nodes ins outs x1) (List.replicate nodes.length 0) := by
 unfold bE.f; exact Ev.pos (by omega) (Ev.pos (by omega) (acr x1 hn hl nodes.length 0 (by omega)))
theorem YU (x y : Bool) : mn (bI x) (bI y) = bI (x && y) := by cases x <;> cases y <;> rfl
theorem acs (x y : Bool) : mx (bI x) (bI y) = bI (x || y) := by cases x <;> cases y <;> rfl
theorem YV (x : Bool) : wrap64 (1 - bI x) = bI (!x) := by cases x <;> simp [bI] <;> rw [w64 (by omega) (by omega)]
theorem YW {v : List Bool} {i : Nat} {g : S92} {b : Bool} (h : Gt v i g b) (h0 : g.f0 ≠ 0) (h1 : g.f0 ≠ 1) {l : List Int} (hi : i < l.length) (hl : ∀ (a : Nat) (x : Bool), a < i → v[a]? = some x → rd l (a : Int) = bI x) : gY.f g.f0 g.f1 g.f2 g.f3 l = some (bI b) := by
 unfold gY.f
 cases h with
 | const => exact absurd rfl h0
 | inp => exact absurd rfl h1
 | not a x ha hx =>
  rw [if_pos rfl]; show (if 0 ≤ (a : Int) then (if (a : Int) < (l.length : Int) then some (wrap64 (1 - rd l (a : Int))) else none) else none) = _; rw [if_pos (by omega), if_pos (by omega), hl a x ha hx, YV]
 | and a b x y ha hb hx hy =>
  rw [if_neg (by simp), if_pos rfl]; show (if 0 ≤ (a : Int) then (if (a : Int) < (l.length : Int) then (if 0 ≤ (b : Int) then (if (b : Int) < (l.length : Int) then some (mn (rd l (a : Int)) (rd l (b : Int))) else none) else none) else none) else none) = _; rw [if_pos (by omega), if_pos (by omega), if_pos (by omega), if_pos (by omega), hl a x ha hx, hl b y hb hy, YU]
 | or a b x y ha hb hx hy =>
  rw [if_neg (by simp), if_neg (by simp), if_pos rfl]; show (if 0 ≤ (a : Int) then (if (a : Int) < (l.length : Int) then (if 0 ≤ (b : Int) then (if (b : Int) < (l.length : Int) then some (mx (rd l (a : Int)) (rd l (b : Int))) else none) else none) else none) else none) = _; rw [if_pos (by omega), if_pos (by omega), if_pos (by omega), if_pos (by omega), hl a x ha hx, hl b y hb hy, acs]
 | mux a b c x y z ha hb hc hx hy hz =>
  rw [if_neg (by simp), if_neg (by simp), if_neg (by simp), if_neg (by simp)]; show (if 0 ≤ (c : Int) then (if (c : Int) < (l.length : Int) then (if rd l (c : Int) = 1 then (if 0 ≤ (b : Int) then (if (b : Int) < (l.length : Int) then some (rd l (b : Int)) else none) else none) else (if 0 ≤ (a : Int) then (if (a : Int) < (l.length : Int) then some (rd l (a : Int)) else none) else none)) else none) else none) = _; rw [if_pos (show 0 ≤ (a : Int) by omega), if_pos (show (a : Int) < (l.length : Int) by omega), if_pos (show 0 ≤ (b : Int) by omega), if_pos (show (b : Int) < (l.length : Int) by omega), if_pos (show 0 ≤ (c : Int) by omega), if_pos (show (c : Int) < (l.length : Int) by omega), hl a x ha hx, hl b y hb hy, hl c z hc hz]
  cases z <;> simp [bI]
theorem TJ {nodes : List S92} {v : List Bool} {ins outs : List S94} (hn : Nt nodes v) (hl : nodes.length < 1000000) (st inp : List Int) (hin : inp.length = nodes.length) (hI : ∀ (i : Nat) (b : Bool), v[i]? = some b → (aM nodes (i : Int)).f0 = 1 → rd inp (i : Int) = bI b) (d : Nat) :
 ∀ (i : Nat) (x9 : List Int), i + d = nodes.length → x9.length = nodes.length → (∀ (a : Nat) (x : Bool), a < i → v[a]? = some x → rd x9 (a : Int) = bI x) →
  ∃ r, r.length = nodes.length ∧ (∀ (a : Nat) (x : Bool), v[a]? = some x → rd r (a : Int) = bI x) ∧ Ev (fun k => aY.l0 k (upTo nodes.length) st inp x9 (i : Int) nodes ins outs) r := by
 induction d with
 | zero =>
  intro i x9 hd h9 hv; refine ⟨x9, h9, fun a x hx => hv a x ?_ hx, Ev.succ ?_⟩
  ·have := (List.getElem?_eq_some_iff.1 hx).1; have := hn.1; omega
  simp only [aY.l0]; exact Ev.neg (by rw [tT]; omega) (Ev.done _)
 | succ d ih =>
  intro i x9 hd h9 hv; obtain ⟨b, hb, hg⟩ := hn.at (i := i) (by omega)
  have nx : ∀ x : Int, x = bI b → ∀ (a : Nat) (y : Bool), a < i + 1 → v[a]? = some y → rd (x9.set i x) (a : Int) = bI y := fun x hx a y ha hy => by
   rw [sH _ _ _ _ (by omega)]
   by_cases h : i = a
   ·subst h; rw [if_pos rfl, hx]; rw [hb] at hy; simp at hy; rw [hy]
   ·rw [if_neg h]; exact hv a y (by omega) hy
  obtain ⟨r, hr, hrv, hE⟩ := ih (i + 1) (x9.set i (bI b)) (by omega) (by simp [h9]) (nx _ rfl); refine ⟨r, hr, hrv, Ev.succ ?_⟩; simp only [aY.l0]; rw [TG (by omega), uG (i := i) (by omega), Int.toNat_natCast]; refine Ev.pos (by rw [tT]; omega) (Ev.pos (by omega) (Ev.pos (by omega) (Ev.pos (by omega) ?_)))
  by_cases h0 : (aM nodes (i : Int)).f0 = 0
  ·refine Ev.pos h0 (Ev.pos (by omega) ?_)
   have : (aM nodes (i : Int)).f1 = bI b := by
    revert h0 hg
    generalize aM nodes (i : Int) = g; intro hg h0
    cases hg <;> simp_all
   rw [this]; exact hE
  ·refine Ev.neg h0 ?_
   by_cases h1 : (aM nodes (i : Int)).f0 = 1
   ·refine Ev.pos h1 (Ev.pos (by omega) (Ev.pos (by omega) ?_)); rw [hI i b hb h1]; exact hE
   ·refine Ev.neg h1 (Ev.neg hg.kind (Ev.nu (YW hg h0 h1 (l := x9) (by omega) hv) (Ev.pos (by omega) ?_))); exact hE
theorem NK {nodes : List S92} {v : List Bool} {ins outs : List S94} (hn : Nt nodes v) (hl : nodes.length < 1000000) (st inp : List Int) (hin : inp.length = nodes.length) (hI : ∀ (i : Nat) (b : Bool), v[i]? = some b → (aM nodes (i : Int)).f0 = 1 → rd inp (i : Int) = bI b) :
 ∃ r, r.length = nodes.length ∧ (∀ (a : Nat) (x : Bool), v[a]? = some x → rd r (a : Int) = bI x) ∧ Ev (fun k => aY.f k nodes ins outs (upTo nodes.length) st inp) r := by
 obtain ⟨r, a, b, c⟩ := TJ (ins := ins) (outs := outs) hn hl st inp hin hI nodes.length 0 (List.replicate nodes.length 0) (by omega) (by simp) (fun a x ha => by omega); refine ⟨r, a, b, ?_⟩; unfold aY.f; exact Ev.pos (by omega) (Ev.pos (by omega) c)
def lD (r : List Int) (p : S94) : List Bool := p.f1.map fun a => rd r a == 1
theorem NL (r : List Int) (p : S94) (k : Nat) (hk : k < p.f1.length) : (lD r p).getD k false = (rd r (rd p.f1 (k : Int)) == 1) := by
 rw [jK]; simp [lD, List.getD_eq_getElem?_getD, hk]
theorem FU (l : List Bool) (i j : Nat) (x : Bool) (hi : i < l.length) : (l.set i x).getD j false = if i = j then x else l.getD j false := by
 simp only [List.getD_eq_getElem?_getD, List.getElem?_set]
 by_cases h : i = j
 ·subst h; simp [hi]
 ·simp [h]
theorem FV (l : List Bool) (i : Nat) : lI false l (i : Int) = l.getD i false := by unfold lI; rw [Int.toNat_natCast]
theorem acu {nodes : List S92} {ins outs : List S94} (r : List Int) (acc : List (List Int)) (i : Nat) (hi : i < outs.length) (hlo : outs.length < 1000000) (hp : vP r.length (bG outs (i : Int))) (hacc : acc.length < 1000000) {R : List (List Int)}
 (cont : Ev (fun k => aN.l0 k r (acc ++ [parts (bv (lD r (bG outs (i : Int))))]) ((i + 1 : Nat) : Int) nodes ins outs) R) (d : Nat) :
 ∀ (j m : Nat) (x7 : List Bool), j + d = (bG outs (i : Int)).f1.length → x7.length = (bG outs (i : Int)).f1.length → (∀ a, a < j → x7.getD a false = (lD r (bG outs (i : Int))).getD a false) → m ≤ j → (∀ a, m ≤ a → a < j → (lD r (bG outs (i : Int))).getD a false = false) → (m = 0 ∨ (lD r (bG outs (i : Int))).getD (m - 1) false = true) →
  Ev (fun k => aN.l1 k r acc (i : Int) x7 (m : Int) (j : Int) nodes ins outs) R := by
 have hpl : (lD r (bG outs (i : Int))).length = (bG outs (i : Int)).f1.length := by simp [lD]
 have hl1 := hp.2.1
 induction d with
 | zero =>
  intro j m x7 hd h7 hv hm hz ht; refine Ev.succ ?_; simp only [aN.l1]
  have e7 : x7 = lD r (bG outs (i : Int)) := by
   refine List.ext_getElem (by omega) fun a ha hb => ?_
   have := hv a (by omega)
   simpa [List.getD_eq_getElem?_getD, ha, hb] using this
  have et : x7.take m = bts (bv (lD r (bG outs (i : Int)))) := by
   rw [e7]; refine wH m (by omega) (fun a ha => ?_) ht
   by_cases h : a < j
   ·exact hz a ha h
   ·simp [List.getD_eq_getElem?_getD, List.getElem?_eq_none (show (lD r (bG outs (i : Int))).length ≤ a by omega)]
  rw [Int.toNat_natCast m, et, uG (i := i) (by omega)]; have hn : bu (bv (lD r (bG outs (i : Int)))) ≤ 1000000 := Nat.le_trans (iw (WO _)) (by omega); exact Ev.neg (by omega) (Ev.pos (by omega) (Ev.pos (by omega) (Ev.bind (vW (by omega)) (Ev.pos (by omega) cont))))
 | succ d ih =>
  intro j m x7 hd h7 hv hm hz ht; obtain ⟨a, ha, hn⟩ := hp.2.2 j (by omega); refine Ev.succ ?_; simp only [aN.l1]; rw [ha, uG (i := j) (by omega), Int.toNat_natCast]; refine Ev.pos (by omega) (Ev.pos (by omega) (Ev.pos (by omega) (Ev.pos (by omega) (Ev.pos (by omega) (Ev.pos (by omega) (Ev.pos (by omega) (Ev.nu rfl ?_))))))); have hb := NL r (bG outs (i : Int)) j (by omega); rw [ha] at hb
  have hv' : ∀ b, b < j + 1 → (x7.set j (rd r (a : Int) == 1)).getD b false = (lD r (bG outs (i : Int))).getD b false := fun b hb' => by
   rw [FU _ _ _ _ (by omega)]
   by_cases h : j = b
   ·subst h; rw [if_pos rfl, hb]
   ·rw [if_neg h]; exact hv b (by omega)
  have hr : lI false (x7.set j (rd r (a : Int) == 1)) (j : Int) = (rd r (a : Int) == 1) := by rw [FV, FU _ _ _ _ (by omega), if_pos rfl]
  rw [hr]
  by_cases h : (rd r (a : Int) == 1) = true
  ·exact Ev.pos h (ih (j + 1) (j + 1) _ (by omega) (by simp [h7]) hv' (Nat.le_refl _) (fun b h1 h2 => by omega) (Or.inr (by rw [Nat.add_sub_cancel, hb]; exact h)))
  ·refine Ev.neg h (ih (j + 1) m _ (by omega) (by simp [h7]) hv' (by omega) (fun b h1 h2 => ?_) ht)
   by_cases hbj : b = j
   ·subst hbj; rw [hb]; simpa using h
   ·exact hz b h1 (by omega)
theorem acv {nodes : List S92} {ins outs : List S94} (r : List Int) (hp : ∀ p ∈ outs, vP r.length p) (hlo : outs.length < 1000000) (d : Nat) :
 ∀ i, i + d = outs.length → Ev (fun k => aN.l0 k r ((outs.take i).map fun p => parts (bv (lD r p))) (i : Int) nodes ins outs) (outs.map fun p => parts (bv (lD r p))) := by
 induction d with
 | zero =>
  intro i hd; refine Ev.succ ?_; simp only [aN.l0]; rw [List.take_of_length_le (by omega)]; exact Ev.neg (by omega) (Ev.done _)
 | succ d ih =>
  intro i hd
  have hpi : vP r.length (bG outs (i : Int)) := by rw [Lr outs i (by omega)]; exact hp _ (List.getElem_mem _)
  have h1 := hpi.2.1; refine Ev.succ ?_; simp only [aN.l0]; refine Ev.pos (by omega) (Ev.pos (by omega) (Ev.pos (by omega) (Ev.pos (by omega) ?_))); refine acu r _ i (by omega) hlo hpi (by simp; omega) ?_ _ 0 0 _ (Nat.zero_add _) (by simp) (fun a ha => by omega) (Nat.le_refl _) (fun a h1 h2 => by omega) (Or.inl rfl); have := ih (i + 1) (by omega); rw [List.take_add_one, List.getElem?_eq_getElem (show i < outs.length by omega), Option.toList_some, List.map_append, List.map_singleton] at this; rw [Lr outs i (by omega)]; exact this
theorem TK {nodes : List S92} {ins outs : List S94} (r : List Int) (hp : ∀ p ∈ outs, vP r.length p) (hlo : outs.length < 1000000) : Ev (fun k => aN.f k nodes ins outs r) (outs.map fun p => parts (bv (lD r p))) :=
 acv r hp hlo outs.length 0 (by omega)
def Hit (ins : List S94) (xs : List Nat) (i m a : Nat) : Prop := ∃ i' k, ((i' < i ∧ k < (bG ins (i' : Int)).f1.length) ∨ (i' = i ∧ k < m)) ∧ rd (bG ins (i' : Int)).f1 (k : Int) = (a : Int) ∧ (xs.getD i' 0).testBit k = true
def Laid (x6 : List Int) (n : Nat) (P : Nat → Prop) : Prop := x6.length = n ∧ ∀ a, a < n → (rd x6 (a : Int) = 1 ∧ P a) ∨ (rd x6 (a : Int) = 0 ∧ ¬ P a)
theorem Laid.congr {x6 : List Int} {n : Nat} {P Q : Nat → Prop} (h : Laid x6 n P) (e : ∀ a, a < n → (P a ↔ Q a)) : Laid x6 n Q :=
 ⟨h.1, fun a ha => by rcases h.2 a ha with ⟨h1, h2⟩ | ⟨h1, h2⟩; exact .inl ⟨h1, (e a ha).1 h2⟩; exact .inr ⟨h1, fun q => h2 ((e a ha).2 q)⟩⟩
theorem TL {nodes : List S92} {ins outs : List S94} {ws : List (List Int)} (xs : List Nat) (i : Nat) (hi : i < ins.length) (hli : ins.length < 1000000) (hp : vP nodes.length (bG ins (i : Int))) (hb : bu (xs.getD i 0) ≤ (bG ins (i : Int)).f1.length) {R : List Int × Bool}
 (cont : ∀ x6, Laid x6 nodes.length (Hit ins xs (i + 1) 0) → Ev (fun k => aQ.l0 k ws x6 ((i + 1 : Nat) : Int) nodes ins outs) R) (d : Nat) :
 ∀ (j : Nat) (x6 : List Int), j + d = (bts (xs.getD i 0)).length → Laid x6 nodes.length (Hit ins xs i j) → Ev (fun k => aQ.l1 k ws x6 (i : Int) (bts (xs.getD i 0)) (j : Int) nodes ins outs) R := by
 have hl1 := hp.2.1; have hbl : (bts (xs.getD i 0)).length ≤ (bG ins (i : Int)).f1.length := hb
 induction d with
 | zero =>
  intro j x6 hd h6; refine Ev.succ ?_; simp only [aQ.l1]; rw [uG (i := i) (by omega)]; refine Ev.neg (by omega) (cont x6 (h6.congr fun a ha => ?_))
  constructor
  ·rintro ⟨i', k, hc, hr, ht⟩; refine ⟨i', k, .inl ?_, hr, ht⟩
   rcases hc with ⟨h1, h2⟩ | ⟨rfl, h2⟩
   ·exact ⟨by omega, h2⟩
   ·exact ⟨by omega, by omega⟩
  ·rintro ⟨i', k, hc, hr, ht⟩; refine ⟨i', k, ?_, hr, ht⟩
   rcases hc with ⟨h1, h2⟩ | ⟨h1, h2⟩
   ·by_cases hh : i' = i
    ·subst hh; refine .inr ⟨rfl, ?_⟩
     have : k < bu (xs.getD i' 0) := by
      by_cases hk : k < bu (xs.getD i' 0)
      ·exact hk
      ·rw [Jd (by omega)] at ht; cases ht
     have e : bu (xs.getD i' 0) = (bts (xs.getD i' 0)).length := rfl; omega
    ·exact .inl ⟨by omega, h2⟩
   ·omega
 | succ d ih =>
  intro j x6 hd h6; obtain ⟨a, ha, hn⟩ := hp.2.2 j (by omega); refine Ev.succ ?_; simp only [aQ.l1]; rw [ha, uG (i := j) (by omega), Int.toNat_natCast, FV, FW]; refine Ev.pos (by omega) (Ev.pos (by omega) ?_); have h6l := h6.1
  by_cases h : (xs.getD i 0).testBit j = true
  ·refine Ev.pos h (Ev.pos (by omega) (Ev.pos (by omega) (Ev.pos (by omega) (Ev.pos (by omega) (Ev.pos (by omega) (ih (j + 1) _ (by omega) ⟨by simp [h6l], fun b hb => ?_⟩)))))); rw [sH _ _ _ _ (by omega)]
   by_cases hab : a = b
   ·subst hab; rw [if_pos rfl]; exact .inl ⟨rfl, i, j, .inr ⟨rfl, by omega⟩, ha, h⟩
   ·rw [if_neg hab]
    have e : Hit ins xs i j b ↔ Hit ins xs i (j + 1) b := by
     constructor
     ·rintro ⟨i', k, hc, hr⟩; exact ⟨i', k, by omega, hr⟩
     ·rintro ⟨i', k, hc, hr⟩; refine ⟨i', k, ?_, hr⟩
      rcases hc with hc | ⟨rfl, hk⟩
      ·exact .inl hc
      ·by_cases hkj : k = j
       ·subst hkj; have := ha.symm.trans hr.1; omega
       ·exact .inr ⟨rfl, by omega⟩
    rw [← e]; exact h6.2 b hb
  ·refine Ev.neg h (ih (j + 1) x6 (by omega) (h6.congr fun b hb => ?_))
   constructor
   ·rintro ⟨i', k, hc, hr⟩; exact ⟨i', k, by omega, hr⟩
   ·rintro ⟨i', k, hc, hr⟩; refine ⟨i', k, ?_, hr⟩
    rcases hc with hc | ⟨rfl, hk⟩
    ·exact .inl hc
    ·by_cases hkj : k = j
     ·subst hkj; exact absurd hr.2 h
     ·exact .inr ⟨rfl, by omega⟩
open Classical in
noncomputable def Bz (n : Nat) (P : Nat → Prop) : List Int := (List.range n).map fun a => if P a then 1 else 0
theorem Laid.of (n : Nat) (P : Nat → Prop) : Laid (Bz n P) n P := by
 refine ⟨by simp [Bz], fun a ha => ?_⟩
 have e : rd (Bz n P) (a : Int) = @ite _ (P a) (Classical.propDecidable _) 1 0 := by
  rw [jK]; unfold Bz; rw [List.getD_eq_getElem?_getD, List.getElem?_map, List.getElem?_range ha]; rfl
 by_cases h : P a
 ·rw [e, if_pos h]; exact .inl ⟨rfl, h⟩
 ·rw [e, if_neg h]; exact .inr ⟨rfl, h⟩
theorem Laid.eq {x6 : List Int} {n : Nat} {P : Nat → Prop} (h : Laid x6 n P) : x6 = Bz n P := by
 have h' := Laid.of n P
 refine List.ext_getElem (by rw [h.1, h'.1]) fun a ha hb => ?_
 have ha' : a < n := by rw [← h.1]; exact ha
 have e1 : rd x6 (a : Int) = x6[a] := by rw [jK]; simp [List.getD_eq_getElem?_getD, ha]
 have e2 : rd (Bz n P) (a : Int) = (Bz n P)[a] := by rw [jK]; simp [List.getD_eq_getElem?_getD, hb]
 rw [← e1, ← e2]
 rcases h.2 a ha' with ⟨p, q⟩ | ⟨p, q⟩ <;> rcases h'.2 a ha' with ⟨p', q'⟩ | ⟨p', q'⟩
 ·rw [p, p']
 ·exact absurd q q'
 ·exact absurd q' q
 ·rw [p, p']
theorem TM {nodes : List S92} {ins outs : List S94} (xs : List Nat) (hx : xs.length = ins.length) (hli : ins.length < 1000000) (hp : ∀ p ∈ ins, vP nodes.length p) (hb : ∀ i, i < ins.length → bu (xs.getD i 0) ≤ (bG ins (i : Int)).f1.length) (d : Nat) :
 ∀ (i : Nat) (x6 : List Int), i + d = ins.length → Laid x6 nodes.length (Hit ins xs i 0) → Ev (fun k => aQ.l0 k (xs.map parts) x6 (i : Int) nodes ins outs) (Bz nodes.length (Hit ins xs ins.length 0), true) := by
 induction d with
 | zero =>
  intro i x6 hd h6
  obtain rfl : i = ins.length := by omega
  refine Ev.succ ?_; simp only [aQ.l0]; rw [h6.eq]; exact Ev.neg (by simp; omega) (Ev.done _)
 | succ d ih =>
  intro i x6 hd h6
  have hpi : vP nodes.length (bG ins (i : Int)) := by rw [Lr ins i (by omega)]; exact hp _ (List.getElem_mem _)
  have hbi := hb i (by omega); have h1 := hpi.2.1
  have hi : i < xs.length := by omega
  have eL : qM (xs.map parts) (i : Int) = parts (xs.getD i 0) := by unfold qM; rw [Int.toNat_natCast]; simp [List.getD_eq_getElem?_getD, hi]
  have hnx : bu (xs.getD i 0) ≤ 1000000 := by omega
  have hpl : (parts (xs.getD i 0)).length ≤ 100000 := (by obtain ⟨K, hK⟩ : ∃ K : Nat, K = 100000 := ⟨_, rfl⟩; rw [← hK]; exact fP (Nat.lt_of_lt_of_le (j5 _) (by rw [qN]; exact Nat.pow_le_pow_right (by omega) (by omega)))); have hlen : (bts (xs.getD i 0)).length = bu (xs.getD i 0) := rfl; refine Ev.succ ?_; simp only [aQ.l0]; rw [eL]; refine Ev.pos (by simp; omega) (Ev.pos (by omega) (Ev.bind (YX (jW _) hpl) (Ev.pos (by omega) ?_))); rw [gH]; exact Ev.neg (by omega) (TL xs i (by omega) hli hpi hbi (fun x6 h => ih (i + 1) x6 (by omega) h) (bts (xs.getD i 0)).length 0 x6 (by omega) h6)
theorem NM {nodes : List S92} {ins outs : List S94} (xs : List Nat) (hx : xs.length = ins.length) (hl : nodes.length < 1000000) (hli : ins.length < 1000000) (hp : ∀ p ∈ ins, vP nodes.length p) (hb : ∀ i, i < ins.length → bu (xs.getD i 0) ≤ (bG ins (i : Int)).f1.length) :
 Ev (fun k => aQ.f k nodes ins outs (xs.map parts)) (Bz nodes.length (Hit ins xs ins.length 0), true) := by
 unfold aQ.f; refine Ev.pos (by omega) (Ev.pos (by omega) (Ev.nu rfl (Ev.pos (by simp; omega) ?_))); refine TM xs hx hli hp hb ins.length 0 _ (by omega) ⟨by simp, fun a ha => .inr ⟨EX _ _, ?_⟩⟩; rintro ⟨i', k, hc, _⟩; omega
def yP (v : List Bool) (p : S94) : List Bool := p.f1.map fun a => v.getD a.toNat false
theorem Je {nodes : List S92} {v : List Bool} {ins outs : List S94} (xs : List Nat) (hn : Nt nodes v) (hl : nodes.length < 1000000) (hp : ∀ p ∈ ins ++ outs, vP nodes.length p) (hlp : (ins ++ outs).length < 1000000) (hx : xs.length = ins.length)
 (hb : ∀ i, i < ins.length → bu (xs.getD i 0) ≤ (bG ins (i : Int)).f1.length)
 (hI : ∀ (i : Nat) (b : Bool), v[i]? = some b → (aM nodes (i : Int)).f0 = 1 → (b = true ↔ Hit ins xs ins.length 0 i)) :
 Ev (fun k => aT.f k nodes ins outs (upTo nodes.length) [xs.map parts]) ([outs.map fun p => parts (bv (yP v p))], 0) := by
 have hli : ins.length < 1000000 := by rw [List.length_append] at hlp; omega
 have hlo : outs.length < 1000000 := by rw [List.length_append] at hlp; omega
 have hL := Laid.of nodes.length (Hit ins xs ins.length 0)
 obtain ⟨r, hr, hrv, hV⟩ := NK (ins := ins) (outs := outs) hn hl (List.replicate nodes.length 0) (Bz nodes.length (Hit ins xs ins.length 0)) hL.1 (fun i b hb hk => by
  have hin : i < nodes.length := by rw [hn.1]; exact (List.getElem?_eq_some_iff.1 hb).1
  have := hI i b hb hk
  rcases hL.2 i hin with ⟨h1, h2⟩ | ⟨h1, h2⟩
  ·rw [h1, this.2 h2]; rfl
  ·rw [h1]
   cases b with
   | false => rfl
   | true => exact absurd (this.1 rfl) h2)
 have eo : (outs.map fun p => parts (bv (lD r p))) = outs.map fun p => parts (bv (yP v p)) := by
  refine List.map_congr_left fun p hpo => ?_
  have hpp := hp p (List.mem_append_right _ hpo)
  congr 2
  unfold lD yP
  refine List.map_congr_left fun a ha => ?_
  obtain ⟨k, hk, rfl⟩ := List.getElem_of_mem ha; obtain ⟨b, hb1, hb2⟩ := hpp.2.2 k hk
  have e : p.f1[k] = (b : Int) := by rw [← hb1, jK]; simp [List.getD_eq_getElem?_getD, hk]
  rw [e, Int.toNat_natCast]
  have hvl : b < v.length := by rw [← hn.1]; exact hb2
  rw [hrv b v[b] (List.getElem?_eq_getElem hvl)]; simp only [List.getD_eq_getElem?_getD, List.getElem?_eq_getElem hvl, Option.getD_some]
  cases v[b] <;> rfl
 rw [← eo]; unfold aT.f; refine Ev.bind (PQ hn hl) (Ev.succ ?_); simp only [aT.l0]; refine Ev.pos (by simp) (Ev.pos (by omega) ?_); have e9 : qh [xs.map parts] 0 = xs.map parts := rfl; rw [e9]; refine Ev.bind (NM xs hx hl hli (fun p h => hp p (List.mem_append_left _ h)) hb) (Ev.pos rfl (Ev.bind hV (Ev.bind (TK r (fun p h => by rw [hr]; exact hp p (List.mem_append_right _ h)) hlo) (Ev.pos (by simp) (Ev.bind (TH r hn hl) (Ev.succ ?_)))))); simp only [aT.l0]; rw [show wrap64 (0 + 1) = 1 from w64 (by omega) (by omega)]; exact Ev.neg (by simp) (Ev.done _)
end Go.Proofs.Ytkgeihbcikiedaa.N
