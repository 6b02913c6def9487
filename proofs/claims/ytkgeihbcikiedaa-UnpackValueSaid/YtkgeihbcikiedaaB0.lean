/- An abstract reading of a function's code (values without addresses, boxes of the call's own, regions in any order), and the theorem that what has to be shown of it gives the function's contract; for every program. -/
import Derived.Test.YtkgeihbcikiedaaWMore
import Derived.Test.YtkgeihbcikiedaaWNEv
import Derived.Orders
import Derived.Deep.MidRow
import Derived.Calls
import Derived.KernelRfl
import Derived.Laws.Sem
import Derived.Shelf.Abstract
import Derived.BigFrame
import Derived.Laws.StructEq
import Derived.Laws.NewBlocks
import Derived.Deep.LoopGhost
set_option linter.unusedVariables false
set_option linter.unusedSimpArgs false
namespace Go.Proofs.Ytkgeihbcikiedaa.A
open Go.RowKit Go.Proofs.YtkgeihbcikiedaaW.PrintWords Go.Proofs.YtkgeihbcikiedaaW.PrintMore
abbrev D3 := Bool × List Int × Int
def kd3 : Kd D3 := Kd.pair Kd.bool (Kd.pair (Kd.slice 0 (Kd.int .u32)) (Kd.int .i64))
theorem Ah {w : World} {x : D3} {cs : List Value} (h : kd3.K w x cs) : ∃ A1 c1, cs = [.bool x.1, .slice A1 x.2.1.length c1, .int .i64 x.2.2] ∧ x.2.1.length ≤ c1 ∧ (Kd.int .u32).C w A1 x.2.1.length x.2.1 := by
 obtain ⟨_, _, rfl, rfl, ⟨_, _, rfl, ⟨A1, c1, rfl, l1, g1⟩, rfl⟩⟩ := h; exact ⟨A1, c1, rfl, l1, g1⟩
abbrev At3 (x : D3) (g off : Nat) (c : List Value) : World → Prop := fun W => kd3.K W x c ∧ ∀ (j : Nat) u, c[j]? = some u → W.cell? ⟨g, off + j, none⟩ = some u
theorem QV {x : D3} {g off : Nat} {c : List Value} {W : World} {ok : Nat → Prop} (h : iH (At3 x g off c) W ok) : ∃ A1 c1, c = [.bool x.1, .slice A1 x.2.1.length c1, .int .i64 x.2.2] ∧ x.2.1.length ≤ c1 ∧ Kd.F (Kd.int .u32) W ok A1 x.2.1.length x.2.1 ∧ (∀ (j : Nat) u, c[j]? = some u → W.cell? ⟨g, off + j, none⟩ = some u) := by
 obtain ⟨A1, c1, rfl, l1, _⟩ := Ah (iH.now h).1; exact ⟨A1, c1, rfl, l1, (fun W' hW => by obtain ⟨A1_, c1_, he, l1_, g1_⟩ := Ah (h W' hW).1; injection (Option.some.inj (show some (Value.slice A1 x.2.1.length c1) = some (Value.slice A1_ x.2.1.length c1_) from congrArg (fun l => l[1]?) he)) with ha_ _ _; rw [ha_]; exact g1_), (iH.now h).2⟩
def kdr : Kd (List Int) := Kd.slice 0 (Kd.int .u32)
inductive AA where
 | b (x : Bool)
 | i (k : IntKind) (x : Int)
 | v (k : IntKind) (l : List Int)
 | w (l : List Bool)
 | nil
 | p (j off : Nat)
 | q (k : IntKind) (x : Int)
 | f (f : FuncId)
 | ds (l : List D3)
 | de (x : D3)
 | ob (x : Bool)
 | rs (l : List (List Int))
 | re (x : List Int)
inductive AE where
 | a (x : AA)
 | g (xs : List AA)
inductive AV where
 | a (x : AA)
 | g (xs : List AA)
 | t (es : List AE)
 | c (f : FuncId) (first : List AE)
 | u
 | z
def AA.R (ρ : List Nat) (ok : Nat → Prop) (W : World) : AA → Value → Prop
 | .b x, o => o = .bool x
 | .i k x, o => o = .int k x
 | .v k l, o => Kd.V (Kd.int k) 0 W 0 ok o l
 | .w l, o => Kd.V Kd.bool 0 W 0 ok o l
 | .nil, o => o = .slice none 0 0
 | .p j off, o => ∃ g, ρ[j]? = some g ∧ o = .pointer (some ⟨g, off, none⟩)
 | .q k x, o => ∃ a, o = .pointer (some a) ∧ iH (fun W => W.cell? a = some (.int k x)) W ok
 | .f fid, o => o = .func (.func fid) #[] #[]
 | .ds l, o => ∃ A c, o = .slice A l.length c ∧ l.length ≤ c ∧ Kd.F kd3 W ok A l.length l ∧ (A = none ∨ ∃ g off, A = some ⟨g, off, none⟩)
 | .de x, o => ∃ g off c, o = .pointer (some ⟨g, off, none⟩) ∧ iH (At3 x g off c) W ok
 | .ob x, o => ∃ a, o = .pointer (some a) ∧ iH (fun W => W.cell? a = some (.bool x)) W ok
 | .rs l, o => Kd.V kdr 0 W 0 ok o l
 | .re x, o => ∃ a A c, o = .pointer (some a) ∧ x.length ≤ c ∧ iH (fun W => W.cell? a = some (.slice A x.length c) ∧ (Kd.int .u32).C W A x.length x) W ok
def Rs (ρ : List Nat) (ok : Nat → Prop) (W : World) : List AA → List Value → Prop
 | [], [] => True
 | x :: xs, o :: os => x.R ρ ok W o ∧ Rs ρ ok W xs os
 | _, _ => False
def AE.R (ρ : List Nat) (ok : Nat → Prop) (W : World) : AE → Value → Prop
 | .a x, o => x.R ρ ok W o
 | .g xs, o => ∃ arr, o = .agg arr ∧ Rs ρ ok W xs arr.toList
def REs (ρ : List Nat) (ok : Nat → Prop) (W : World) : List AE → List Value → Prop
 | [], [] => True
 | x :: xs, o :: os => x.R ρ ok W o ∧ REs ρ ok W xs os
 | _, _ => False
def AV.R (ρ : List Nat) (ok : Nat → Prop) (W : World) : AV → Value → Prop
 | .a x, o => x.R ρ ok W o
 | .g xs, o => ∃ arr, o = .agg arr ∧ Rs ρ ok W xs arr.toList
 | .t es, o => ∃ arr, o = .tuple arr ∧ REs ρ ok W es arr.toList
 | .c f first, o => ∃ arr, o = .func (.func f) arr #[] ∧ REs ρ ok W first arr.toList
 | .u, o => o = undef
 | .z, _ => True
def RVs (ρ : List Nat) (ok : Nat → Prop) (W : World) : List AV → List Value → Prop
 | [], [] => True
 | x :: xs, o :: os => x.R ρ ok W o ∧ RVs ρ ok W xs os
 | _, _ => False
section
variable {ρ ρ' : List Nat} {ok ok' : Nat → Prop} {W W1 : World} {v : Value}
theorem AA.R.move {x : AA} (h : x.R ρ ok W v) (hm : ∀ k, ok k → k < W.heap.size → W1.heap[k]? = W.heap[k]?) (hok : ∀ k, ok k → k < W.heap.size → ok' k)
 (hρ : ∀ (j g : Nat), ρ[j]? = some g → ρ'[j]? = some g) : x.R ρ' ok' W1 v := by
 cases x with
 | b x => exact h
 | i k x => exact h
 | v k l => exact Kd.iB (Kd.JG (Kd.DZ (show Kd.V (Kd.int k) 0 W 0 ok v l from h)) (fun k hk hlt => hm k hk.1 hlt)) (fun k hk => hok k hk.1 hk.2)
 | w l => exact Kd.iB (Kd.JG (Kd.DZ (show Kd.V Kd.bool 0 W 0 ok v l from h)) (fun k hk hlt => hm k hk.1 hlt)) (fun k hk => hok k hk.1 hk.2)
 | nil => exact h
 | p j off => obtain ⟨g, hg, hv⟩ := h; exact ⟨g, hρ _ _ hg, hv⟩
 | q k x => obtain ⟨a, hv, hf⟩ := h; exact ⟨a, hv, iH.mono (iH.step (iH.bound hf) (fun k hk hlt => hm k hk.1 hlt)) (fun k hk => hok k hk.1 hk.2)⟩
 | f f => exact h
 | ds l => obtain ⟨A, c, hv, hl, hf, ha⟩ := h; exact ⟨A, c, hv, hl, Kd.Cz (Kd.Iy (Kd.CB hf) (fun k hk hlt => hm k hk.1 hlt)) (fun k hk => hok k hk.1 hk.2), ha⟩
 | de x => obtain ⟨g, off, c, hv, hf⟩ := h; exact ⟨g, off, c, hv, iH.mono (iH.step (iH.bound hf) (fun k hk hlt => hm k hk.1 hlt)) (fun k hk => hok k hk.1 hk.2)⟩
 | ob x => obtain ⟨a, hv, hf⟩ := h; exact ⟨a, hv, iH.mono (iH.step (iH.bound hf) (fun k hk hlt => hm k hk.1 hlt)) (fun k hk => hok k hk.1 hk.2)⟩
 | rs l => exact Kd.iB (Kd.JG (Kd.DZ (show Kd.V kdr 0 W 0 ok v l from h)) (fun k hk hlt => hm k hk.1 hlt)) (fun k hk => hok k hk.1 hk.2)
 | re x => obtain ⟨a, A, c, hv, hl, hf⟩ := h; exact ⟨a, A, c, hv, hl, iH.mono (iH.step (iH.bound hf) (fun k hk hlt => hm k hk.1 hlt)) (fun k hk => hok k hk.1 hk.2)⟩
theorem Rs.move : ∀ {xs : List AA} {vs : List Value}, Rs ρ ok W xs vs → (hm : ∀ k, ok k → k < W.heap.size → W1.heap[k]? = W.heap[k]?) → (hok : ∀ k, ok k → k < W.heap.size → ok' k) →
 (hρ : ∀ (j g : Nat), ρ[j]? = some g → ρ'[j]? = some g) → Rs ρ' ok' W1 xs vs
 | [], [], h, _, _, _ => trivial
 | _ :: _, _ :: _, h, hm, hok, hρ => ⟨AA.R.move h.1 hm hok hρ, Rs.move h.2 hm hok hρ⟩
 | [], _ :: _, h, _, _, _ => h.elim
 | _ :: _, [], h, _, _, _ => h.elim
theorem AE.R.move {x : AE} (h : x.R ρ ok W v) (hm : ∀ k, ok k → k < W.heap.size → W1.heap[k]? = W.heap[k]?) (hok : ∀ k, ok k → k < W.heap.size → ok' k)
 (hρ : ∀ (j g : Nat), ρ[j]? = some g → ρ'[j]? = some g) : x.R ρ' ok' W1 v := by
 cases x with
 | a x => exact AA.R.move (x := x) (v := v) h hm hok hρ
 | g xs => obtain ⟨arr, hv, hr⟩ := h; exact ⟨arr, hv, Rs.move hr hm hok hρ⟩
theorem REs.move : ∀ {xs : List AE} {vs : List Value}, REs ρ ok W xs vs → (hm : ∀ k, ok k → k < W.heap.size → W1.heap[k]? = W.heap[k]?) → (hok : ∀ k, ok k → k < W.heap.size → ok' k) →
 (hρ : ∀ (j g : Nat), ρ[j]? = some g → ρ'[j]? = some g) → REs ρ' ok' W1 xs vs
 | [], [], h, _, _, _ => trivial
 | _ :: _, _ :: _, h, hm, hok, hρ => ⟨AE.R.move h.1 hm hok hρ, REs.move h.2 hm hok hρ⟩
 | [], _ :: _, h, _, _, _ => h.elim
 | _ :: _, [], h, _, _, _ => h.elim
theorem AV.R.move {x : AV} (h : x.R ρ ok W v) (hm : ∀ k, ok k → k < W.heap.size → W1.heap[k]? = W.heap[k]?) (hok : ∀ k, ok k → k < W.heap.size → ok' k)
 (hρ : ∀ (j g : Nat), ρ[j]? = some g → ρ'[j]? = some g) : x.R ρ' ok' W1 v := by
 cases x with
 | a x => exact AA.R.move (x := x) (v := v) h hm hok hρ
 | g xs => obtain ⟨arr, hv, hr⟩ := h; exact ⟨arr, hv, Rs.move hr hm hok hρ⟩
 | t es => obtain ⟨arr, hv, hr⟩ := h; exact ⟨arr, hv, REs.move hr hm hok hρ⟩
 | c f first => obtain ⟨arr, hv, hr⟩ := h; exact ⟨arr, hv, REs.move hr hm hok hρ⟩
 | u => exact h
 | z => trivial
theorem RVs.move : ∀ {xs : List AV} {vs : List Value}, RVs ρ ok W xs vs → (hm : ∀ k, ok k → k < W.heap.size → W1.heap[k]? = W.heap[k]?) → (hok : ∀ k, ok k → k < W.heap.size → ok' k) →
 (hρ : ∀ (j g : Nat), ρ[j]? = some g → ρ'[j]? = some g) → RVs ρ' ok' W1 xs vs
 | [], [], h, _, _, _ => trivial
 | _ :: _, _ :: _, h, hm, hok, hρ => ⟨AV.R.move h.1 hm hok hρ, RVs.move h.2 hm hok hρ⟩
 | [], _ :: _, h, _, _, _ => h.elim
 | _ :: _, [], h, _, _, _ => h.elim
theorem Rs.length : ∀ {xs : List AA} {vs : List Value}, Rs ρ ok W xs vs → xs.length = vs.length
 | [], [], _ => rfl
 | _ :: _, _ :: _, h => by simp [Rs.length h.2]
 | [], _ :: _, h => h.elim
 | _ :: _, [], h => h.elim
theorem Rs.get : ∀ {xs : List AA} {vs : List Value}, Rs ρ ok W xs vs → ∀ (n : Nat) x, xs[n]? = some x → ∃ v, vs[n]? = some v ∧ x.R ρ ok W v
 | x :: xs, v :: vs, h, 0, y, e => by simp at e; subst e; exact ⟨v, rfl, h.1⟩
 | x :: xs, v :: vs, h, n + 1, y, e => Rs.get h.2 n y (by simpa using e)
 | [], [], h, n, y, e => by simp at e
 | [], _ :: _, h, _, _, _ => h.elim
 | _ :: _, [], h, _, _, _ => h.elim
theorem Rs.set : ∀ {xs : List AA} {vs : List Value}, Rs ρ ok W xs vs → ∀ (n : Nat) (x : AA) (v : Value), x.R ρ ok W v → Rs ρ ok W (xs.set n x) (vs.set n v)
 | [], [], _, _, _, _, _ => trivial
 | _ :: _, _ :: _, h, 0, x, v, hx => ⟨hx, h.2⟩
 | _ :: _, _ :: _, h, n + 1, x, v, hx => ⟨h.1, Rs.set h.2 n x v hx⟩
 | [], _ :: _, h, _, _, _, _ => h.elim
 | _ :: _, [], h, _, _, _, _ => h.elim
theorem Rs.drop : ∀ {xs : List AA} {vs : List Value}, Rs ρ ok W xs vs → ∀ n, Rs ρ ok W (xs.drop n) (vs.drop n)
 | _, _, h, 0 => h
 | [], [], _, n + 1 => trivial
 | _ :: _, _ :: _, h, n + 1 => Rs.drop h.2 n
 | [], _ :: _, h, _ + 1 => h.elim
 | _ :: _, [], h, _ + 1 => h.elim
theorem Rs.take : ∀ {xs : List AA} {vs : List Value}, Rs ρ ok W xs vs → ∀ n, Rs ρ ok W (xs.take n) (vs.take n)
 | [], [], _, 0 => trivial
 | _ :: _, _ :: _, _, 0 => trivial
 | [], [], _, n + 1 => trivial
 | _ :: _, _ :: _, h, n + 1 => ⟨h.1, Rs.take h.2 n⟩
 | [], _ :: _, h, _ => h.elim
 | _ :: _, [], h, _ => h.elim
theorem Rs.append : ∀ {xs ys : List AA} {vs us : List Value}, Rs ρ ok W xs vs → Rs ρ ok W ys us → Rs ρ ok W (xs ++ ys) (vs ++ us)
 | [], _, [], _, _, h => h
 | _ :: _, _, _ :: _, _, h, k => ⟨h.1, Rs.append h.2 k⟩
 | [], _, _ :: _, _, h, _ => h.elim
 | _ :: _, _, [], _, h, _ => h.elim
theorem REs.get : ∀ {xs : List AE} {vs : List Value}, REs ρ ok W xs vs → ∀ (n : Nat) x, xs[n]? = some x → ∃ v, vs[n]? = some v ∧ x.R ρ ok W v
 | x :: xs, v :: vs, h, 0, y, e => by simp at e; subst e; exact ⟨v, rfl, h.1⟩
 | x :: xs, v :: vs, h, n + 1, y, e => REs.get h.2 n y (by simpa using e)
 | [], [], h, n, y, e => by simp at e
 | [], _ :: _, h, _, _, _ => h.elim
 | _ :: _, [], h, _, _, _ => h.elim
theorem RVs.get : ∀ {xs : List AV} {vs : List Value}, RVs ρ ok W xs vs → ∀ (n : Nat), (xs.getD n .u).R ρ ok W (vs.getD n undef)
 | x :: xs, v :: vs, h, 0 => h.1
 | x :: xs, v :: vs, h, n + 1 => by simpa using RVs.get h.2 n
 | [], [], h, n => rfl
 | [], _ :: _, h, _ => h.elim
 | _ :: _, [], h, _ => h.elim
theorem RVs.set : ∀ {xs : List AV} {vs : List Value}, RVs ρ ok W xs vs → ∀ (n : Nat) (x : AV) (v : Value), x.R ρ ok W v → RVs ρ ok W (xs.set n x) (vs.set n v)
 | [], [], _, _, _, _, _ => trivial
 | _ :: _, _ :: _, h, 0, x, v, hx => ⟨hx, h.2⟩
 | _ :: _, _ :: _, h, n + 1, x, v, hx => ⟨h.1, RVs.set h.2 n x v hx⟩
 | [], _ :: _, h, _, _, _, _ => h.elim
 | _ :: _, [], h, _, _, _, _ => h.elim
theorem RVs.length : ∀ {xs : List AV} {vs : List Value}, RVs ρ ok W xs vs → xs.length = vs.length
 | [], [], _ => rfl
 | _ :: _, _ :: _, h => by simp [RVs.length h.2]
 | [], _ :: _, h => h.elim
 | _ :: _, [], h => h.elim
theorem RVs.append : ∀ {xs ys : List AV} {vs us : List Value}, RVs ρ ok W xs vs → RVs ρ ok W ys us → RVs ρ ok W (xs ++ ys) (vs ++ us)
 | [], _, [], _, _, h => h
 | _ :: _, _, _ :: _, _, h, k => ⟨h.1, RVs.append h.2 k⟩
 | [], _, _ :: _, _, h, _ => h.elim
 | _ :: _, _, [], _, h, _ => h.elim
theorem AA.R.one {x : AA} (h : x.R ρ ok W v) : v.oneCell' = true := by
 cases x with
 | b x => cases h; rfl
 | i k x => cases h; rfl
 | v k l => obtain ⟨A, c, hv⟩ := Kd.jv (show Kd.V (Kd.int k) 0 W 0 ok v l from h); cases hv; rfl
 | w l => obtain ⟨A, c, hv⟩ := Kd.jv (show Kd.V Kd.bool 0 W 0 ok v l from h); cases hv; rfl
 | nil => cases h; rfl
 | p j off => obtain ⟨g, _, hv⟩ := h; cases hv; rfl
 | q k x => obtain ⟨a, hv, _⟩ := h; cases hv; rfl
 | f f => cases h; rfl
 | ds l => obtain ⟨A, c, hv, _⟩ := h; cases hv; rfl
 | de x => obtain ⟨g, off, c, hv, _⟩ := h; cases hv; rfl
 | ob x => obtain ⟨a, hv, _⟩ := h; cases hv; rfl
 | rs l => obtain ⟨A, c, hv⟩ := Kd.jv (show Kd.V kdr 0 W 0 ok v l from h); cases hv; rfl
 | re x => obtain ⟨a, A, c, hv, _⟩ := h; cases hv; rfl
theorem AA.R.cells {x : AA} (h : x.R ρ ok W v) : v.cells = #[v] := by
 cases x with
 | b x => cases h; rfl
 | i k x => cases h; rfl
 | v k l => obtain ⟨A, c, hv⟩ := Kd.jv (show Kd.V (Kd.int k) 0 W 0 ok v l from h); cases hv; rfl
 | w l => obtain ⟨A, c, hv⟩ := Kd.jv (show Kd.V Kd.bool 0 W 0 ok v l from h); cases hv; rfl
 | nil => cases h; rfl
 | p j off => obtain ⟨g, _, hv⟩ := h; cases hv; rfl
 | q k x => obtain ⟨a, hv, _⟩ := h; cases hv; rfl
 | f f => cases h; rfl
 | ds l => obtain ⟨A, c, hv, _⟩ := h; cases hv; rfl
 | de x => obtain ⟨g, off, c, hv, _⟩ := h; cases hv; rfl
 | ob x => obtain ⟨a, hv, _⟩ := h; cases hv; rfl
 | rs l => obtain ⟨A, c, hv⟩ := Kd.jv (show Kd.V kdr 0 W 0 ok v l from h); cases hv; rfl
 | re x => obtain ⟨a, A, c, hv, _⟩ := h; cases hv; rfl
theorem Rs.one : ∀ {xs : List AA} {vs : List Value}, Rs ρ ok W xs vs → ∀ v ∈ vs, v.oneCell' = true
 | [], [], _, v, hv => by simp at hv
 | _ :: _, _ :: _, h, v, hv => by
  rcases List.mem_cons.1 hv with rfl | hv
  ·exact h.1.one
  ·exact Rs.one h.2 v hv
 | [], _ :: _, h, _, _ => h.elim
 | _ :: _, [], h, _, _ => h.elim
end
structure Bx where
 cells : List AA
 ty : TypeId
def okS (P : Nat → Prop) (n0 : Nat) (ρ : List Nat) : Nat → Prop := fun k => (P k ∨ n0 ≤ k) ∧ k ∉ ρ
structure St (w0 : World) (P : Nat → Prop) (ρ : List Nat) (bx : List Bx) (W : World) : Prop where
 bel : Below w0.heap.size w0 W
 len : ρ.length = bx.length
 nodup : ρ.Nodup
 ge : ∀ g ∈ ρ, w0.heap.size ≤ g
 box : ∀ (j g : Nat) c, ρ[j]? = some g → bx[j]? = some c → ∃ arr : Array Value, W.heap[g]? = some (.cells arr c.ty (0, 0)) ∧ Rs ρ (okS P w0.heap.size ρ) W c.cells arr.toList
abbrev Sl := Nat → AV
def RSl (ρ : List Nat) (ok : Nat → Prop) (W : World) (sl : Sl) (tmps : Array Value) : Prop := ∀ t, (sl t).R ρ ok W (tmps.getD t undef)
theorem RSl.move {ρ ρ' : List Nat} {ok ok' : Nat → Prop} {W W1 : World} {sl : Sl} {tmps : Array Value} (h : RSl ρ ok W sl tmps) (hm : ∀ k, ok k → k < W.heap.size → W1.heap[k]? = W.heap[k]?) (hok : ∀ k, ok k → k < W.heap.size → ok' k)
 (hρ : ∀ (j g : Nat), ρ[j]? = some g → ρ'[j]? = some g) : RSl ρ' ok' W1 sl tmps := fun t => (h t).move hm hok hρ
structure Rel (w0 : World) (P : Nat → Prop) (n : Nat) (ρ : List Nat) (sl : Sl) (bx : List Bx) (a : Act) (W : World) : Prop where
 st : St w0 P ρ bx W
 sl : RSl ρ (okS P w0.heap.size ρ) W sl a.tmps
 df : a.defers = []
 sz : a.tmps.size = n
section
variable {w0 W W1 : World} {P : Nat → Prop} {ρ : List Nat} {bx : List Bx} {sl : Sl} {a : Act} {n : Nat}
theorem St.lt (h : St w0 P ρ bx W) {g : Nat} (hg : g ∈ ρ) : g < W.heap.size := by
 obtain ⟨j, hj⟩ := List.getElem?_of_mem hg
 have hl : j < bx.length := by rw [← h.len]; exact (List.getElem?_eq_some_iff.1 hj).1
 obtain ⟨arr, ha, _⟩ := h.box j g bx[j] hj (List.getElem?_eq_getElem hl); exact (Array.getElem?_eq_some_iff.1 ha).1
theorem St.below (h : St w0 P ρ bx W) (hb : Below W.heap.size W W1) : St w0 P ρ bx W1 where
 bel := sZ h.bel h.bel.size hb
 len := h.len
 nodup := h.nodup
 ge := h.ge
 box := fun j g c hj hc => by
  obtain ⟨arr, ha, hr⟩ := h.box j g c hj hc; exact ⟨arr, (hb.block g (Array.getElem?_eq_some_iff.1 ha).1).trans ha, hr.move (fun k _ hlt => hb.block k hlt) (fun _ hk _ => hk) (fun _ _ hg => hg)⟩
theorem Rel.below (h : Rel w0 P n ρ sl bx a W) (hb : Below W.heap.size W W1) : Rel w0 P n ρ sl bx a W1 :=
 ⟨h.st.below hb, h.sl.move (fun k _ hlt => hb.block k hlt) (fun _ hk _ => hk) (fun _ _ hg => hg), h.df, h.sz⟩
theorem St.new (h : St w0 P ρ bx W) (hb : Below W.heap.size W W1) {g : Nat} (hg : g = W.heap.size) {arr : Array Value} {t : TypeId} (ha : W1.heap[g]? = some (.cells arr t (0, 0))) {cs : List AA}
 (hr : Rs ρ (okS P w0.heap.size ρ) W cs arr.toList) : St w0 P (ρ ++ [g]) (bx ++ [⟨cs, t⟩]) W1 := by
 have hok : ∀ k, okS P w0.heap.size ρ k → k < W.heap.size → okS P w0.heap.size (ρ ++ [g]) k := fun k hk hlt => ⟨hk.1, by
  simp only [List.mem_append, List.mem_singleton, not_or]; exact ⟨hk.2, by omega⟩⟩
 have hρ : ∀ (j g' : Nat), ρ[j]? = some g' → (ρ ++ [g])[j]? = some g' := fun j g' hj => by
  rw [List.getElem?_append_left (List.getElem?_eq_some_iff.1 hj).1]; exact hj
 refine ⟨sZ h.bel h.bel.size hb, by simp [h.len], ?_, ?_, ?_⟩
 ·refine List.nodup_append.2 ⟨h.nodup, by simp, ?_⟩; intro x hx y hy; simp at hy; subst hy; have := h.lt hx; omega
 ·intro x hx
  rcases List.mem_append.1 hx with hx | hx
  ·exact h.ge x hx
  ·simp at hx; subst hx; rw [hg]; exact h.bel.size
 ·intro j g' c hj hc
  by_cases hlt : j < ρ.length
  ·rw [List.getElem?_append_left hlt] at hj; rw [List.getElem?_append_left (by rw [← h.len]; exact hlt)] at hc; obtain ⟨arr', ha', hr'⟩ := h.box j g' c hj hc; exact ⟨arr', (hb.block g' (Array.getElem?_eq_some_iff.1 ha').1).trans ha', hr'.move (fun k _ hlt => hb.block k hlt) hok hρ⟩
  ·have hj2 : j = ρ.length := by
    have := (List.getElem?_eq_some_iff.1 hj).1; simp at this; omega
   subst hj2; rw [List.getElem?_append_right (Nat.le_refl _)] at hj; rw [h.len, List.getElem?_append_right (Nat.le_refl _)] at hc; simp at hj hc; subst hj; subst hc; exact ⟨arr, ha, hr.move (fun k _ hlt => hb.block k hlt) hok hρ⟩
theorem RSl.QW {vs : Array Value} (h : St w0 P ρ bx W) (hs : RSl ρ (okS P w0.heap.size ρ) W sl vs) (hb : Below W.heap.size W W1) {g : Nat} (hg : g = W.heap.size) :
 RSl (ρ ++ [g]) (okS P w0.heap.size (ρ ++ [g])) W1 sl vs :=
 hs.move (fun k _ hlt => hb.block k hlt) (fun k hk hlt => ⟨hk.1, by simp only [List.mem_append, List.mem_singleton, not_or]; exact ⟨hk.2, by omega⟩⟩)
  (fun j g' hj => by rw [List.getElem?_append_left (List.getElem?_eq_some_iff.1 hj).1]; exact hj)
theorem ZV {g k : Nat} (hg : g ∈ ρ) (hk : okS P w0.heap.size ρ k) : k ≠ g := fun e => hk.2 (e ▸ hg)
end
end Go.Proofs.Ytkgeihbcikiedaa.A
set_option linter.unusedVariables false
set_option linter.unusedSimpArgs false
namespace Go.Proofs.Ytkgeihbcikiedaa.A
open Go.RowKit Go.Proofs.YtkgeihbcikiedaaW.PrintWords Go.Proofs.YtkgeihbcikiedaaW.PrintMore
inductive TD where
 | bool
 | int (k : IntKind)
 | slice (e : Nat)
 | struct (fs : List (Nat × Nat))
 | array (n e : Nat)
structure TI where
 d : TD
 size : Nat
 zero : List AA
abbrev TT := List (Nat × TI)
def TT.at : TT → Nat → Option TI
 | [], _ => none
 | (u, i) :: r, t => bif Nat.beq u t then some i else TT.at r t
def Aj : AA → Value → Bool
 | .b x, .bool y => x == y
 | .i k x, .int k' y => decide (k = k') && decide (x = y)
 | .v _ l, .slice none 0 0 => l.isEmpty
 | .w l, .slice none 0 0 => l.isEmpty
 | .nil, .slice none 0 0 => true
 | _, _ => false
def kG : List AA → List Value → Bool
 | [], [] => true
 | x :: xs, v :: vs => Aj x v && kG xs vs
 | _, _ => false
def JX (P : Program) (t : Nat) : Bool := match P.underlying t with
 | some (.int _) => true
 | _ => false
def eqT (P : Program) (t : Nat) : Bool := match P.underlying t with
 | some (.struct fields) => (bif fields.toList.all (fun f => JX P f.type) then !P.eqGuardType P.depth t && (!P.stoodInHeld t && fields.toList.all fun f => !(f.name == "_")) else true)
 | _ => true
def TI.okB (P : Program) (t : Nat) (ti : TI) : Bool :=
 (match P.info? t with
  | some i => Nat.beq i.size ti.size && (match i.zero with | some z => kG ti.zero z.cells.toList | none => false)
  | none => false) &&
 ((match ti.d, P.underlying t with
  | .bool, some .bool => true
  | .int k, some (.int k') => decide (k = k')
  | .slice e, some (.slice e') => Nat.beq e e'
  | .struct fs, some (.struct fields) => decide (fields.toList.map (fun f => (f.offset, f.type)) = fs)
  | .array n e, some (.array n' e') => Nat.beq n n' && Nat.beq e e'
  | _, _ => false) && eqT P t)
def TT.okB (P : Program) : TT → Bool
 | [] => true
 | (t, i) :: r => i.okB P t && TT.okB P r
section
variable {P : Program} {tt : TT} {t : Nat} {ti : TI} {ρ : List Nat} {ok : Nat → Prop} {W : World}
theorem TT.fF : ∀ {tt : TT}, TT.okB P tt = true → tt.at t = some ti → ti.okB P t = true
 | [], _, h => by simp [TT.at] at h
 | (u, i) :: r, ho, h => by
  simp only [TT.okB, Bool.and_eq_true] at ho; unfold TT.at at h
  cases hb : Nat.beq u t with
  | true => rw [hb] at h; simp only [cond_true, Option.some.injEq] at h; subst h; rw [← Nat.eq_of_beq_eq_true hb]; exact ho.1
  | false => rw [hb] at h; exact TT.fF ho.2 h
theorem G5 {x : AA} {v : Value} (h : Aj x v = true) : x.R ρ ok W v := by
 unfold Aj at h
 split at h
 ·simp at h; subst h; rfl
 ·simp at h; obtain ⟨rfl, rfl⟩ := h; rfl
 ·simp at h; subst h; exact Kd.tY (Kd.int _) 0 W 0 ok
 ·simp at h; subst h; exact Kd.tY Kd.bool 0 W 0 ok
 ·rfl
 ·simp at h
theorem oK : ∀ {xs : List AA} {vs : List Value}, kG xs vs = true → Rs ρ ok W xs vs
 | [], [], _ => trivial
 | x :: xs, v :: vs, h => by simp only [kG, Bool.and_eq_true] at h; exact ⟨G5 h.1, oK h.2⟩
 | [], _ :: _, h => by simp [kG] at h
 | _ :: _, [], h => by simp [kG] at h
theorem TI.info (h : ti.okB P t = true) : ∃ i z, P.info? t = some i ∧ i.size = ti.size ∧ i.zero = some z ∧ kG ti.zero z.cells.toList = true := by
 unfold TI.okB at h; simp only [Bool.and_eq_true] at h; obtain ⟨h1, _⟩ := h
 split at h1
 ·rename_i i hi; simp only [Bool.and_eq_true] at h1; obtain ⟨h1, h2⟩ := h1
  split at h2
  ·rename_i z hz; exact ⟨i, z, hi, Nat.eq_of_beq_eq_true h1, hz, h2⟩
  ·simp at h2
 ·simp at h1
theorem TI.j6 (h : ti.okB P t = true) (W : World) : (sizeOf t).run P W = .ok ti.size W := by
 obtain ⟨i, z, hi, hs, _⟩ := TI.info h; simp [sizeOf, typeInfo, hi, hs]
theorem TI.yg (h : ti.okB P t = true) (W : World) : ∃ z, (zeroValue t).run P W = .ok z W ∧ kG ti.zero z.cells.toList = true := by
 obtain ⟨i, z, hi, _, hz, hm⟩ := TI.info h; exact ⟨z, by simp [zeroValue, typeInfo, hi, hz], hm⟩
theorem TI.under (h : ti.okB P t = true) : match ti.d with
 | .bool => P.underlying t = some .bool
 | .int k => P.underlying t = some (.int k)
 | .slice e => P.underlying t = some (.slice e)
 | .struct fs => ∃ fields, P.underlying t = some (.struct fields) ∧ fields.toList.map (fun f => (f.offset, f.type)) = fs
 | .array n e => P.underlying t = some (.array n e) := by
 unfold TI.okB at h; simp only [Bool.and_eq_true] at h; have h2 := h.2.1; clear h
 cases hd : ti.d <;> rw [hd] at h2 <;> dsimp only <;> (cases hu : P.underlying t with
  | none => rw [hu] at h2; simp at h2
  | some d => rw [hu] at h2; cases d <;> simp_all)
theorem TI.eqT (h : ti.okB P t = true) : A.eqT P t = true := by
 unfold TI.okB at h; simp only [Bool.and_eq_true] at h; exact h.2.2
def TD.row : TD → Bool
 | .struct _ | .array _ _ => true
 | _ => false
theorem TI.Ex (h : ti.okB P t = true) (W : World) : (isAgg t).run P W = .ok ti.d.row W := by
 have := TI.under h; unfold isAgg; rw [Sem.run_bind]
 cases hd : ti.d <;> simp only [hd] at this
 ·rw [run_underlying this W]; rfl
 ·rw [run_underlying this W]; rfl
 ·rw [run_underlying this W]; rfl
 ·obtain ⟨fields, hu, _⟩ := this; rw [run_underlying hu W]; rfl
 ·rw [run_underlying this W]; rfl
end
def ev (sl : Sl) : Operand → AV
 | .tmp t => sl t
 | .const (.bool b) => .a (.b b)
 | .const (.int k n) => .a (.i k n)
 | .const (.slice none 0 0) => .a .nil
 | .const _ => .z
 | .global _ => .z
 | .func f => .a (.f f)
theorem lu {ρ : List Nat} {ok : Nat → Prop} {W : World} {sl : Sl} {a : Act} (h : RSl ρ ok W sl a.tmps) (x : Operand) : (ev sl x).R ρ ok W (a.eval x) := by
 cases x with
 | tmp t => exact h t
 | const v =>
  unfold ev
  split <;> first | exact trivial | (simp_all [Act.eval]; first | rfl | done) | rfl
 | global g => trivial
 | func f => rfl
def cast (tt : TT) (t : Nat) : AV → AV
 | .a .nil => match tt.at t with
  | some ⟨_, _, [.v k []]⟩ => .a (.v k [])
  | some ⟨_, _, [.w []]⟩ => .a (.w [])
  | _ => .a .nil
 | x => x
theorem tq (tt : TT) (t : Nat) {ρ : List Nat} {ok : Nat → Prop} {W : World} {x : AV} {v : Value} (h : x.R ρ ok W v) : (cast tt t x).R ρ ok W v := by
 unfold cast
 split
 ·have hv : v = .slice none 0 0 := h; subst hv
  split
  ·exact Kd.tY (Kd.int _) 0 W 0 ok
  ·exact Kd.tY Kd.bool 0 W 0 ok
  ·rfl
 ·exact h
end Go.Proofs.Ytkgeihbcikiedaa.A
set_option linter.unusedVariables false
set_option linter.unusedSimpArgs false
namespace Go.Proofs.Ytkgeihbcikiedaa.A
open Go.RowKit Go.Proofs.YtkgeihbcikiedaaW.PrintWords Go.Proofs.YtkgeihbcikiedaaW.PrintMore
inductive AR where
 | no
 | val (x : AV)
 | cond (c : Prop) (x : AV)
def Val (P : Program) (ρ : List Nat) (ok : Nat → Prop) (W : World) (s : Sem Next) (x : AV) : Prop :=
 ∃ v W1, s.run P W = .ok (.value v) W1 ∧ Below W.heap.size W W1 ∧ x.R ρ ok W1 v
def AR.ok (r : AR) (x : AV) : Prop := match r with
 | .no => False
 | .val y => y = x
 | .cond c y => c ∧ y = x
def kEq (k k' : IntKind) : Bool := decide (k = k')
def ZW (op : BinOp) (k k' : IntKind) (m n : Int) : AR :=
 match op with
 | .shl => .cond (0 ≤ n) (.a (.i k (k.wrap (m * 2 ^ (min n.toNat k.bits)))))
 | .shr => .cond (0 ≤ n) (.a (.i k (m.fdiv (2 ^ (min n.toNat k.bits)))))
 | op => bif kEq k k' then (match op with
  | .add => .val (.a (.i k (k.wrap (m + n))))
  | .sub => .val (.a (.i k (k.wrap (m - n))))
  | .mul => .val (.a (.i k (k.wrap (m * n))))
  | .quo => .cond (n ≠ 0) (.a (.i k (k.wrap (m.tdiv n))))
  | .rem => .cond (n ≠ 0) (.a (.i k (m.tmod n)))
  | .and => .val (.a (.i k (k.wrap ((BitVec.ofInt k.bits m &&& BitVec.ofInt k.bits n).toNat : Nat))))
  | .or => .val (.a (.i k (k.wrap ((BitVec.ofInt k.bits m ||| BitVec.ofInt k.bits n).toNat : Nat))))
  | .xor => .val (.a (.i k (k.wrap ((BitVec.ofInt k.bits m ^^^ BitVec.ofInt k.bits n).toNat : Nat))))
  | .andNot => .val (.a (.i k (k.wrap ((BitVec.ofInt k.bits m &&& ~~~ (BitVec.ofInt k.bits n)).toNat : Nat))))
  | .eql => .val (.a (.b (m == n)))
  | .neq => .val (.a (.b (m != n)))
  | .lss => .val (.a (.b (decide (m < n))))
  | .leq => .val (.a (.b (decide (m ≤ n))))
  | .gtr => .val (.a (.b (decide (m > n))))
  | .geq => .val (.a (.b (decide (m ≥ n))))
  | _ => .no) else .no
section
variable {P : Program} {tt : TT} {ρ : List Nat} {ok : Nat → Prop} {W : World}
theorem Val.here {s : Sem Next} {x : AV} {v : Value} (h : s.run P W = .ok (.value v) W) (hx : x.R ρ ok W v) : Val P ρ ok W s x := ⟨v, W, h, Below.refl _ _, hx⟩
theorem Vx {op : BinOp} {k k' : IntKind} {m n : Int} {x : AV} (h : (ZW op k k' m n).ok x) (t : Nat) (y z : Operand) (o : Oper) (t' : Nat) (ho : o.op = .binOp op t y z t') {a : Act}
 (hy : a.eval y = .int k m) (hz : a.eval z = .int k' n) : Val P ρ ok W (execOp a.eval o) x := by
 unfold ZW at h
 split at h
 ·obtain ⟨h0, rfl⟩ := h; refine Val.here (v := .int k (k.wrap (m * 2 ^ (min n.toNat k.bits)))) ?_ rfl; simp [execOp, ho, hy, hz, eqGuard, binOp, Op.shift, Int.not_lt.2 h0]
 ·obtain ⟨h0, rfl⟩ := h; refine Val.here (v := .int k (m.fdiv (2 ^ (min n.toNat k.bits)))) ?_ rfl; simp [execOp, ho, hy, hz, eqGuard, binOp, Op.shift, Int.not_lt.2 h0]
 ·rename_i n1 n2
  cases hk : kEq k k' with
  | false => rw [hk] at h; exact h.elim
  | true =>
   rw [hk] at h; have hk' : k = k' := of_decide_eq_true hk; subst hk'; simp only [cond_true] at h
   split at h
   all_goals first
    | exact h.elim
    | (obtain ⟨h0, rfl⟩ := h; refine Val.here (v := .int k _) ?_ rfl; simp [execOp, ho, hy, hz, eqGuard, binOp, Op.intDiv, h0]; done)
    | (cases h; refine Val.here (v := .int k _) ?_ rfl; simp [execOp, ho, hy, hz, eqGuard, binOp, Op.intArith, Op.intBits]; done)
    | (cases h; refine Val.here (v := .bool _) ?_ rfl; simp [execOp, ho, hy, hz, eqGuard, binOp, Op.intCmp]; done)
def OA (tt : TT) (xs ys : List AA) : List (Nat × Nat) → Option Bool
 | [] => some true
 | (o, ft) :: r => match tt.at ft, xs[o]?, ys[o]? with
  | some ⟨.int _, _, _⟩, some (.i k a), some (.i k' b) => (bif kEq k k' then (match OA tt xs ys r with
   | some c => some ((a == b) && c)
   | none => none) else none)
  | _, _, _ => none
theorem Cn (htt : tt.okB P = true) {xs ys : List AA} : ∀ {fl : List Field} {c : Bool}, OA tt xs ys (fl.map fun f => (f.offset, f.type)) = some c → fl.all (fun f => JX P f.type) = true
 | [], _, _ => rfl
 | f :: fl, c, h => by
  simp only [List.map_cons, OA] at h
  split at h
  ·rename_i hti _ _; have hu := TI.under (TT.fF htt hti); dsimp only at hu
   cases hk : kEq _ _ with
   | false => rw [hk] at h; cases h
   | true =>
    rw [hk, cond_true] at h
    split at h
    ·rename_i hr; simp only [List.all_cons, Bool.and_eq_true]; exact ⟨by unfold JX; rw [hu], Cn htt hr⟩
    ·cases h
  ·cases h
theorem G6 (htt : tt.okB P = true) {d : Nat} {xs ys : List AA} {us ws : Array Value} (hx : Rs ρ ok W xs us.toList) (hy : Rs ρ ok W ys ws.toList) : ∀ {fl : List Field} {c : Bool}, OA tt xs ys (fl.map fun f => (f.offset, f.type)) = some c →
 fl.all (fun f => !(f.name == "_")) = true → (Op.eqFields (d + 1) us ws fl).run P W = .ok c W
 | [], c, h, _ => by cases h; rfl
 | f :: fl, c, h, hn => by
  simp only [List.all_cons, Bool.and_eq_true] at hn; simp only [List.map_cons, OA] at h
  split at h
  ·rename_i sz zr k a k' b hti hxa hyb; have hu := TI.under (TT.fF htt hti); have hag := TI.Ex (TT.fF htt hti) W; dsimp only [TD.row] at hu hag
   cases hk : kEq k k' with
   | false => rw [hk] at h; cases h
   | true =>
    rw [hk, cond_true] at h; have hk' : k = k' := of_decide_eq_true hk; subst hk'
    split at h
    ·rename_i r hr; cases h; obtain ⟨va, ha, rfl⟩ := hx.get _ _ hxa; obtain ⟨vb, hb, rfl⟩ := hy.get _ _ hyb
     have ha' : us[f.offset]? = some (.int k a) := by rw [← Array.getElem?_toList]; exact ha
     have hb' : ws[f.offset]? = some (.int k b) := by rw [← Array.getElem?_toList]; exact hb
     have hne : f.name ≠ "_" := by simpa using hn.1
     have ih := G6 htt (d := d) hx hy hr hn.2; simp only [Op.eqFields, if_pos hne, Sem.run_bind, part, hag, Result.andThen_ok, Bool.false_eq_true, if_false, ha', hb', Sem.run_pure, Op.equalIn, run_underlying hu W, if_pos]; cases hab : (a == b)
     ·simp
     ·simpa using ih
    ·cases h
  ·cases h
def ZX (tt : TT) (op : BinOp) (t : Nat) (x y : AV) : AR :=
 match x, y with
 | .a (.i k m), .a (.i k' n) => ZW op k k' m n
 | .a (.b p), .a (.b q) => match tt.at t with
  | some ⟨.bool, _, _⟩ => (match op with
   | .eql => .val (.a (.b (p == q)))
   | .neq => .val (.a (.b (!(p == q))))
   | _ => .no)
  | _ => .no
 | .g xs, .g ys => (match tt.at t with
  | some ⟨.struct fs, _, _⟩ => (match OA tt xs ys fs with
   | some c => (match op with
    | .eql => .val (.a (.b c))
    | .neq => .val (.a (.b (!c)))
    | _ => .no)
   | none => .no)
  | _ => .no)
 | _, _ => .no
theorem Ak {t : Nat} (hu : P.underlying t = some .bool) (p q : Bool) : (Op.equal t (.bool p) (.bool q)).run P W = .ok (p == q) W := by
 show (Op.equalIn (9999 + 1) t (.bool p) (.bool q)).run P W = _; rw [Op.equalIn]; simp [run_underlying hu]
theorem QX {t : Nat} (hu : P.underlying t = some .bool) (p q : Bool) : (binOp .eql t (.bool p) (.bool q)).run P W = .ok (.bool (p == q)) W := by
 show (do pure (.bool (← Op.equal t (.bool p) (.bool q))) : Sem Value).run P W = _; simp [Ak hu]
theorem QY {t : Nat} (hu : P.underlying t = some .bool) (p q : Bool) : (binOp .neq t (.bool p) (.bool q)).run P W = .ok (.bool (!(p == q))) W := by
 show (do pure (.bool (!(← Op.equal t (.bool p) (.bool q)))) : Sem Value).run P W = _; simp [Ak hu]
theorem Vy (htt : tt.okB P = true) {op : BinOp} {t : Nat} {x y r : AV} (h : (ZX tt op t x y).ok r) (t' : Nat) (xo yo : Operand) (o : Oper) (ho : o.op = .binOp op t xo yo t') {a : Act}
 (hx : x.R ρ ok W (a.eval xo)) (hy : y.R ρ ok W (a.eval yo)) : Val P ρ ok W (execOp a.eval o) r := by
 unfold ZX at h
 split at h
 ·exact Vx h t xo yo o t' ho hx hy
 ·have hx' : a.eval xo = .bool _ := hx; have hy' : a.eval yo = .bool _ := hy
  split at h
  ·rename_i hti; have hu := TI.under (TT.fF htt hti); dsimp only at hu
   split at h
   ·cases h; refine Val.here (v := .bool _) ?_ rfl; simp [execOp, ho, hx', hy', eqGuard, QX hu]
   ·cases h; refine Val.here (v := .bool _) ?_ rfl; simp [execOp, ho, hx', hy', eqGuard, QY hu]
   ·exact h.elim
  ·exact h.elim
 ·split at h
  ·rename_i hti; have hok := TT.fF htt hti; obtain ⟨fields, hu, hm⟩ := TI.under hok; subst hm; have hT := TI.eqT hok; obtain ⟨us, hx', hxr⟩ := hx; obtain ⟨ws, hy', hyr⟩ := hy
   split at h
   ·rename_i c hc; unfold A.eqT at hT; rw [hu] at hT; dsimp only at hT; rw [Cn htt hc, cond_true] at hT; simp only [Bool.and_eq_true] at hT
    have hg : P.eqGuardType P.depth t = false := by simpa using hT.1
    have hh : P.stoodInHeld t = false := by simpa using hT.2.1
    have hf : P.fieldsOf t = fields := by simp [Program.fieldsOf, hu]
    have he : (Op.equal t (.agg us) (.agg ws)).run P W = .ok c W := by
     show (Op.equalIn (9999 + 1) t (.agg us) (.agg ws)).run P W = _; rw [run_equalIn_struct (P := P) W 9999 t us ws (by rw [hf]; exact hu) hh, hf]; exact G6 htt (d := 9998) hxr hyr hc hT.2.2
    split at h
    ·cases h; refine Val.here (v := .bool c) ?_ rfl; simp [execOp, ho, hx', hy', eqGuard, hg, binOp, he]
    ·cases h; refine Val.here (v := .bool (!c)) ?_ rfl; simp [execOp, ho, hx', hy', eqGuard, hg, binOp, he]
    ·exact h.elim
   ·exact h.elim
  ·exact h.elim
 ·exact h.elim
def aUn (op : UnOp) (x : AV) : AR :=
 match op, x with
 | .not, .a (.b p) => .val (.a (.b (!p)))
 | .neg, .a (.i k n) => .val (.a (.i k (k.wrap (0 - n))))
 | .xor, .a (.i k n) => .val (.a (.i k (k.wrap ((BitVec.ofInt k.bits (if k.signed then -1 else k.max) ^^^ BitVec.ofInt k.bits n).toNat : Nat))))
 | _, _ => .no
theorem ZY {op : UnOp} {x r : AV} (h : (aUn op x).ok r) (t : Nat) (xo : Operand) (o : Oper) (ho : o.op = .unOp op t xo) {a : Act} (hx : x.R ρ ok W (a.eval xo)) : Val P ρ ok W (execOp a.eval o) r := by
 unfold aUn at h
 split at h
 ·have hx' : a.eval xo = .bool _ := hx; cases h; refine Val.here (v := .bool _) ?_ rfl; simp [execOp, ho, hx', Op.unary]
 ·have hx' : a.eval xo = .int _ _ := hx; cases h; refine Val.here (v := .int _ _) ?_ rfl; simp [execOp, ho, hx', Op.unary, Op.intArith]
 ·have hx' : a.eval xo = .int _ _ := hx; cases h; refine Val.here (v := .int _ _) ?_ rfl; simp [execOp, ho, hx', Op.unary, Op.intBits]
 ·exact h.elim
def QZ (tt : TT) (s d : Nat) (x : AV) : AR :=
 match x, tt.at s, tt.at d with
 | .a (.i _ n), some ⟨.int _, _, _⟩, some ⟨.int k, _, _⟩ => .val (.a (.i k (k.wrap n)))
 | _, _, _ => .no
theorem Q0 (htt : tt.okB P = true) {s d : Nat} {x r : AV} (h : (QZ tt s d x).ok r) (xo : Operand) (o : Oper) (ho : o.op = .convert s d xo) {a : Act} (hx : x.R ρ ok W (a.eval xo)) : Val P ρ ok W (execOp a.eval o) r := by
 unfold QZ at h
 split at h
 ·rename_i hs hd; have hx' : a.eval xo = .int _ _ := hx; have us := TI.under (TT.fF htt hs); have ud := TI.under (TT.fF htt hd); dsimp only at us ud; cases h; refine Val.here (v := .int _ _) ?_ rfl; simp [execOp, ho, hx', convert, run_underlying us, run_underlying ud, Conv.intToInt]
 ·exact h.elim
def Al (x : AV) (n : Nat) : AR :=
 match x with
 | .t es => match es[n]? with
  | some (.a x) => .val (.a x)
  | some (.g xs) => .val (.g xs)
  | none => .no
 | _ => .no
theorem G7 {n : Nat} {x r : AV} (h : (Al x n).ok r) (xo : Operand) (o : Oper) (ho : o.op = .extract xo n) {a : Act} (hx : x.R ρ ok W (a.eval xo)) : Val P ρ ok W (execOp a.eval o) r := by
 unfold Al at h
 split at h
 ·obtain ⟨arr, hv, hr⟩ := hx
  split at h
  ·rename_i e; obtain ⟨v, hv2, hR⟩ := REs.get hr n _ e; cases h; refine Val.here (v := v) ?_ hR
   have : arr[n]? = some v := by simpa using hv2
   simp [execOp, ho, hv, Instr.extract, this]
  ·rename_i e; obtain ⟨v, hv2, hR⟩ := REs.get hr n _ e; cases h; refine Val.here (v := v) ?_ hR
   have : arr[n]? = some v := by simpa using hv2
   simp [execOp, ho, hv, Instr.extract, this]
  ·exact h.elim
 ·exact h.elim
def tu (tt : TT) (s : Nat) (x : AV) (n : Nat) : AR :=
 match x, tt.at s with
 | .a (.p j off), some ⟨.struct fs, _, _⟩ => match fs[n]? with
  | some (o, ft) => match tt.at ft with
   | some fi => bif Nat.beq fi.size 0 then .no else .val (.a (.p j (off + o)))
   | none => .no
  | none => .no
 | .a (.de x), some ⟨.struct fs, _, _⟩ => match fs[n]? with
  | some (o, ft) => match tt.at ft with
   | some fi => bif Nat.beq fi.size 0 then .no else (bif Nat.beq o 0 then .val (.a (.ob x.1)) else .no)
   | none => .no
  | none => .no
 | _, _ => .no
theorem Am {fields : Array Field} {fs : List (Nat × Nat)} (hm : fields.toList.map (fun f => (f.offset, f.type)) = fs) {n o ft : Nat} (h : fs[n]? = some (o, ft)) :
 ∃ f, fields[n]? = some f ∧ f.offset = o ∧ f.type = ft := by
 subst hm; rw [List.getElem?_map] at h
 cases hf : fields.toList[n]? with
 | none => simp [hf] at h
 | some f => simp [hf] at h; exact ⟨f, by simpa using hf, h.1, h.2⟩
theorem BC (htt : tt.okB P = true) {s n : Nat} {x r : AV} (h : (tu tt s x n).ok r) (xo : Operand) (o : Oper) (ho : o.op = .fieldAddr s xo n) {a : Act} (hx : x.R ρ ok W (a.eval xo)) : Val P ρ ok W (execOp a.eval o) r := by
 unfold tu at h
 split at h
 ·rename_i j off fs sz zr hti; obtain ⟨fields, hu, hm⟩ := TI.under (TT.fF htt hti)
  split at h
  ·rename_i o' ft hf; obtain ⟨f, hf2, e1, e2⟩ := Am hm hf
   split at h
   ·rename_i fi hfi
    cases hb : Nat.beq fi.size 0 with
    | true => rw [hb] at h; exact h.elim
    | false =>
     rw [hb] at h; cases h; obtain ⟨g, hg, hv⟩ := hx; have hsz := TI.j6 (TT.fF htt hfi) W
     have hne : ¬ fi.size = 0 := fun e => by rw [e] at hb; simp at hb
     refine Val.here (v := .pointer (some ⟨g, off + o', none⟩)) ?_ ⟨g, hg, rfl⟩; rw [← e2] at hsz; simp [execOp, ho, hv, Instr.fieldAt, run_underlying hu, hf2, Instr.sureAddr, fieldPlace, hsz, hne, e1, Addr.add_mid]
   ·exact h.elim
  ·exact h.elim
 ·rename_i x fs sz zr hti; obtain ⟨fields, hu, hm⟩ := TI.under (TT.fF htt hti)
  split at h
  ·rename_i o' ft hf; obtain ⟨f, hf2, e1, e2⟩ := Am hm hf
   split at h
   ·rename_i fi hfi
    cases hb : Nat.beq fi.size 0 with
    | true => rw [hb] at h; exact h.elim
    | false =>
     rw [hb] at h; simp only [cond_false] at h
     cases hb2 : Nat.beq o' 0 with
     | false => rw [hb2] at h; exact h.elim
     | true =>
      rw [hb2] at h; cases h; have o0 := Nat.eq_of_beq_eq_true hb2; obtain ⟨g, off, c, hv, hF⟩ := hx; have hsz := TI.j6 (TT.fF htt hfi) W
      have hne : ¬ fi.size = 0 := fun e => by rw [e] at hb; simp at hb
      refine Val.here (v := .pointer (some ⟨g, off, none⟩)) ?_ ⟨_, rfl, iH.imp hF (fun W' hC => ?_)⟩
      ·rw [← e2] at hsz; simp [execOp, ho, hv, Instr.fieldAt, run_underlying hu, hf2, Instr.sureAddr, fieldPlace, hsz, hne, e1, o0, Addr.add_mid]
      ·obtain ⟨A1, c1, rfl, _, _⟩ := Ah hC.1; exact hC.2 0 _ rfl
   ·exact h.elim
  ·exact h.elim
 ·exact h.elim
def JY (tt : TT) (s : Nat) (x : AV) (n : Nat) : AR :=
 match x, tt.at s with
 | .g xs, some ⟨.struct fs, _, _⟩ => match fs[n]? with
  | some (o, ft) => match tt.at ft with
   | some fi => bif fi.d.row then .val (.g ((xs.drop o).take fi.size)) else (match xs[o]? with
    | some y => .val (.a y)
    | none => .no)
   | none => .no
  | none => .no
 | _, _ => .no
theorem OB (htt : tt.okB P = true) {s n : Nat} {x r : AV} (h : (JY tt s x n).ok r) (xo : Operand) (o : Oper) (ho : o.op = .field s xo n) {a : Act} (hx : x.R ρ ok W (a.eval xo)) : Val P ρ ok W (execOp a.eval o) r := by
 unfold JY at h
 split at h
 ·rename_i xs fs sz zr hti; obtain ⟨fields, hu, hm⟩ := TI.under (TT.fF htt hti); obtain ⟨arr, hv, hr⟩ := hx
  split at h
  ·rename_i o' ft hf; obtain ⟨f, hf2, e1, e2⟩ := Am hm hf
   split at h
   ·rename_i fi hfi; have hag := TI.Ex (TT.fF htt hfi) W; have hsz := TI.j6 (TT.fF htt hfi) W; rw [← e2] at hag hsz
    cases hb : fi.d.row with
    | true =>
     rw [hb] at h hag; cases h; refine Val.here (v := .agg (arr.extract o' (o' + fi.size))) ?_ ⟨_, rfl, ?_⟩
     ·simp [execOp, ho, hv, Instr.field, run_underlying hu, hf2, asAgg, part, hag, hsz, e1]
     ·rw [Array.toList_extract, List.extract_eq_take_drop, Nat.add_sub_cancel_left]; exact (hr.drop _).take _
    | false =>
     rw [hb] at h hag; simp only [cond_false] at h
     split at h
     ·rename_i y hy; cases h; obtain ⟨v, hv2, hR⟩ := hr.get _ _ hy
      have : arr[o']? = some v := by simpa using hv2
      refine Val.here (v := v) ?_ hR; simp [execOp, ho, hv, Instr.field, run_underlying hu, hf2, asAgg, part, hag, e1, this]
     ·exact h.elim
   ·exact h.elim
  ·exact h.elim
 ·exact h.elim
def vB (tt : TT) (bx : List Bx) (t : Nat) (x : AV) : AR :=
 match x, tt.at t with
 | .a (.p j off), some ti => (match bx[j]? with
  | some b => bif ti.d.row then (bif Nat.ble (off + ti.size) b.cells.length then .val (.g ((b.cells.drop off).take ti.size)) else .no) else (match b.cells[off]? with
   | some y => .val (.a y)
   | none => .no)
  | none => .no)
 | .a (.q k n), some ti => bif ti.d.row then .no else .val (.a (.i k n))
 | .a (.ob b), some ti => bif ti.d.row then .no else .val (.a (.b b))
 | .a (.de x), some ti => bif ti.d.row && Nat.beq ti.size 3 then .val (.g [.b x.1, .v .u32 x.2.1, .i .i64 x.2.2]) else .no
 | .a (.re x), some ti => bif ti.d.row then .no else .val (.a (.v .u32 x))
 | _, _ => .no
theorem MG {t : Nat} {ti : TI} (h : ti.okB P t = true) (hr : ti.d.row = false) {ad : Addr} {v : Value} (hc : W.cell? ad = some v) : (Instr.loadAt t (.pointer (some ad))).run P W = .ok v W := by
 have hag := TI.Ex h W; rw [hr] at hag; simp [Instr.loadAt, Instr.sureAddr, loadVar, hag, hc]
theorem Xk {t : Nat} {ti : TI} (h : ti.okB P t = true) (hr : ti.d.row = true) {g off : Nat} {cs : List Value} (hl : cs.length = ti.size) (hc : W.rangeAt g off cs) :
 (Instr.loadAt t (.pointer (some ⟨g, off, none⟩))).run P W = .ok (.agg cs.toArray) W := by
 obtain ⟨i, z, hi, hs, _⟩ := TI.info h; have hu := TI.under h
 cases hd : ti.d <;> rw [hd] at hu hr <;> dsimp only at hu
 ·simp [TD.row] at hr
 ·simp [TD.row] at hr
 ·simp [TD.row] at hr
 ·obtain ⟨fields, hu, _⟩ := hu; exact run_loadAt_mid W g off t cs _ hc hu rfl (by rw [hi]; simp [hs, hl])
 ·exact run_loadAt_mid W g off t cs _ hc hu rfl (by rw [hi]; simp [hs, hl])
theorem Ap (htt : tt.okB P = true) {w0 : World} {Pk : Nat → Prop} {bx : List Bx} (hst : St w0 Pk ρ bx W) {t : Nat} {x r : AV} (h : (vB tt bx t x).ok r) {u : Value}
 (hx : x.R ρ (okS Pk w0.heap.size ρ) W u) : ∃ ad v, u = .pointer (some ad) ∧ (Instr.loadAt t (.pointer (some ad))).run P W = .ok v W ∧ r.R ρ (okS Pk w0.heap.size ρ) W v := by
 unfold vB at h
 split at h
 ·rename_i j off ti hti; have hok := TT.fF htt hti; obtain ⟨g, hg, hv⟩ := hx
  split at h
  ·rename_i b hb; obtain ⟨arr, harr, hr⟩ := hst.box j g b hg hb
   cases hrow : ti.d.row with
   | true =>
    rw [hrow] at h; simp only [cond_true] at h
    cases hle : Nat.ble (off + ti.size) b.cells.length with
    | false => rw [hle] at h; exact h.elim
    | true =>
     rw [hle] at h; have hle' := Nat.le_of_ble_eq_true hle; cases h; have hlen := hr.length; refine ⟨_, .agg ((arr.toList.drop off).take ti.size).toArray, hv, ?_, ⟨_, rfl, by simpa using (hr.drop off).take ti.size⟩⟩
     exact Xk (P := P) (W := W) hok hrow (g := g) (off := off) (cs := (arr.toList.drop off).take ti.size) (by simp only [List.length_take, List.length_drop]; omega) (by
      intro i v hi; rw [List.getElem?_take] at hi
      split at hi
      ·rw [List.getElem?_drop] at hi; rw [cell_of_row W g _ arr b.ty (0, 0) harr]
       simpa using hi
      ·simp at hi)
   | false =>
    rw [hrow] at h; simp only [cond_false] at h
    split at h
    ·rename_i y hy; cases h; obtain ⟨v, hv2, hR⟩ := hr.get _ _ hy; exact ⟨_, v, hv, MG (P := P) (W := W) hok hrow (ad := ⟨g, off, none⟩) (v := v) (by rw [cell_of_row W g _ arr b.ty (0, 0) harr]; simpa using hv2), hR⟩
    ·exact h.elim
  ·exact h.elim
 ·rename_i k n ti hti
  cases hrow : ti.d.row with
  | true => rw [hrow] at h; exact h.elim
  | false =>
   rw [hrow] at h; cases h; obtain ⟨ad, hv, hf⟩ := hx; exact ⟨_, .int k n, hv, MG (P := P) (W := W) (TT.fF htt hti) hrow (ad := ad) (iH.now hf), rfl⟩
 ·rename_i b ti hti
  cases hrow : ti.d.row with
  | true => rw [hrow] at h; exact h.elim
  | false =>
   rw [hrow] at h; cases h; obtain ⟨ad, hv, hf⟩ := hx; exact ⟨_, .bool b, hv, MG (P := P) (W := W) (TT.fF htt hti) hrow (ad := ad) (iH.now hf), rfl⟩
 ·rename_i x ti hti
  cases hrow : ti.d.row && Nat.beq ti.size 3 with
  | false => rw [hrow] at h; exact h.elim
  | true =>
   rw [hrow] at h; cases h; rw [Bool.and_eq_true] at hrow; have hs3 := Nat.eq_of_beq_eq_true hrow.2; obtain ⟨g, off, c, hv, hf⟩ := hx; obtain ⟨A1, c1, rfl, l1, hF, hc⟩ := QV hf; refine ⟨_, .agg [.bool x.1, .slice A1 x.2.1.length c1, .int .i64 x.2.2].toArray, hv, ?_, ⟨[.bool x.1, .slice A1 x.2.1.length c1, .int .i64 x.2.2].toArray, rfl, show Rs ρ (okS Pk w0.heap.size ρ) W [.b x.1, .v .u32 x.2.1, .i .i64 x.2.2] [.bool x.1, .slice A1 x.2.1.length c1, .int .i64 x.2.2] from ⟨rfl, ⟨A1, c1, rfl, l1, hF⟩, rfl, trivial⟩⟩⟩; exact Xk (P := P) (W := W) (TT.fF htt hti) hrow.1 (g := g) (off := off) (cs := [.bool x.1, .slice A1 x.2.1.length c1, .int .i64 x.2.2]) (by rw [hs3]; rfl) (fun i v hi => hc i v hi)
 ·rename_i x ti hti
  cases hrow : ti.d.row with
  | true => rw [hrow] at h; exact h.elim
  | false =>
   rw [hrow] at h; cases h; obtain ⟨ad, A, c, hv, hl, hf⟩ := hx; exact ⟨_, .slice A x.length c, hv, MG (P := P) (W := W) (TT.fF htt hti) hrow (ad := ad) (iH.now hf).1, Kd.vQ (e := 0) (base := 0) hl (iH.imp hf fun W' hW => hW.2)⟩
 ·exact h.elim
theorem Q3 (htt : tt.okB P = true) {w0 : World} {Pk : Nat → Prop} {bx : List Bx} (hst : St w0 Pk ρ bx W) {t : Nat} {x r : AV} (h : (vB tt bx t x).ok r) (xo : Operand) (o : Oper) (ho : o.op = .load t xo) {a : Act}
 (hx : x.R ρ (okS Pk w0.heap.size ρ) W (a.eval xo)) : Val P ρ (okS Pk w0.heap.size ρ) W (execOp a.eval o) r := by
 obtain ⟨ad, v, hv, hrun, hR⟩ := Ap (P := P) htt hst h hx; refine Val.here (v := v) ?_ hR; simp [execOp, ho, hv, hrun]
end
end Go.Proofs.Ytkgeihbcikiedaa.A
set_option linter.unusedVariables false
set_option linter.unusedSimpArgs false
namespace Go.Proofs.Ytkgeihbcikiedaa.A
open Go.RowKit Go.Proofs.YtkgeihbcikiedaaW.PrintWords Go.Proofs.YtkgeihbcikiedaaW.PrintMore
section
variable {P : Program} {tt : TT} {ρ : List Nat} {ok : Nat → Prop} {W : World}
def pJ {α : Type} (cs : List α) (off : Nat) : List α → List α
 | [] => cs
 | x :: xs => pJ (cs.set off x) (off + 1) xs
theorem q8 {α : Type} : ∀ (xs cs : List α) (off : Nat), (pJ cs off xs).length = cs.length
 | [], _, _ => rfl
 | x :: xs, cs, off => by rw [pJ, q8 xs]; simp
theorem Rs.pJ : ∀ {ys : List AA} {us : List Value}, Rs ρ ok W ys us → ∀ {xs : List AA} {vs : List Value} (off : Nat), Rs ρ ok W xs vs → Rs ρ ok W (A.pJ xs off ys) (A.pJ vs off us)
 | [], [], _, _, _, _, h => h
 | _ :: _, _ :: _, hy, _, _, off, h => Rs.pJ hy.2 (off + 1) (h.set off _ _ hy.1)
 | [], _ :: _, h, _, _, _, _ => h.elim
 | _ :: _, [], h, _, _, _, _ => h.elim
theorem Aq : ∀ (vs : List Value) (k off : Nat) (cs : Array Value), ((vs.zipIdx k).foldl (fun cs (x : Value × Nat) => cs.setIfInBounds (off + x.2) x.1) cs).toList = pJ cs.toList (off + k) vs
 | [], _, _, _ => rfl
 | v :: vs, k, off, cs => by
  rw [List.zipIdx_cons, List.foldl_cons, Aq vs (k + 1) off, pJ]; simp [Nat.add_assoc]
def AV.cs : AV → Option (List AA)
 | .a x => some [x]
 | .g xs => some xs
 | _ => none
theorem AV.ZZ {x : AV} {xs : List AA} (h : x.cs = some xs) {v : Value} (hx : x.R ρ ok W v) : Rs ρ ok W xs v.cells.toList := by
 unfold AV.cs at h
 split at h
 ·cases h; rw [AA.R.cells (x := _) (show AA.R ρ ok W _ v from hx)]; exact ⟨hx, trivial⟩
 ·cases h; obtain ⟨arr, rfl, hr⟩ := hx; exact hr
 ·cases h
def qi (tt : TT) (place : Nat → Option (Nat × Nat × Nat)) (cells : List AA) : List (Nat × AV) → Option (List AA)
 | [] => some cells
 | (i, x) :: rest => match place i with
  | some (off, size, ft) => match (cast tt ft x).cs with
   | some xs => bif Nat.beq xs.length size && Nat.ble (off + xs.length) cells.length then qi tt place (pJ cells off xs) rest else none
   | none => none
  | none => none
def RPs (ρ : List Nat) (ok : Nat → Prop) (W : World) : List (Nat × AV) → List (Nat × Value) → Prop
 | [], [] => True
 | x :: xs, v :: vs => (x.1 = v.1 ∧ x.2.R ρ ok W v.2) ∧ RPs ρ ok W xs vs
 | _, _ => False
theorem vC {place : Nat → Option (Nat × Nat × Nat)} {place' : Nat → Option (Nat × Nat)} (hp : ∀ i off size ft, place i = some (off, size, ft) → place' i = some (off, size)) :
 ∀ {ps : List (Nat × AV)} {qs : List (Nat × Value)} {cells r : List AA} {arr : Array Value}, qi tt place cells ps = some r → RPs ρ ok W ps qs → Rs ρ ok W cells arr.toList →
  ∃ out, Instr.fill place' arr qs = some out ∧ Rs ρ ok W r out.toList
 | [], [], cells, r, arr, h, _, hc => by cases h; exact ⟨arr, rfl, hc⟩
 | (i, x) :: ps, (i', v) :: qs, cells, r, arr, h, hq, hc => by
  obtain ⟨⟨e, hx⟩, hq⟩ := hq; dsimp only at e hx; subst e; unfold qi at h
  split at h
  ·rename_i off size ft hpl
   split at h
   ·rename_i xs hxs
    cases hb : Nat.beq xs.length size && Nat.ble (off + xs.length) cells.length with
    | false => rw [hb] at h; cases h
    | true =>
     rw [hb] at h; simp only [Bool.and_eq_true] at hb; have e1 := Nat.eq_of_beq_eq_true hb.1; have e2 := Nat.le_of_ble_eq_true hb.2; have hR := AV.ZZ hxs (tq tt ft hx); have l1 := hR.length; have l2 := hc.length
     have hfold : (v.cells.zipIdx.foldl (fun cs (c, j) => cs.setIfInBounds (off + j) c) arr).toList = pJ arr.toList off v.cells.toList := by
      rw [← Array.foldl_toList, Array.toList_zipIdx]; exact Aq v.cells.toList 0 off arr
     obtain ⟨out, ho, hr⟩ := vC hp (arr := v.cells.zipIdx.foldl (fun cs (c, j) => cs.setIfInBounds (off + j) c) arr) h hq (by rw [hfold]; exact hR.pJ off hc); refine ⟨out, ?_, hr⟩; unfold Instr.fill; rw [hp _ _ _ _ hpl]
     have c1 : ¬ (v.cells.size ≠ size) := by simp only [Array.length_toList] at l1; omega
     have c2 : ¬ (off + v.cells.size > arr.size) := by simp only [Array.length_toList] at l1 l2; omega
     have c3 : (decide (v.cells.size ≠ size) || decide (off + v.cells.size > arr.size)) = false := by simp only [decide_eq_false c1, decide_eq_false c2, Bool.or_self]
     dsimp only; rw [if_neg (by simpa using And.intro (Classical.not_not.1 c1) (Nat.not_lt.1 c2))]; exact ho
   ·cases h
  ·cases h
 | [], _ :: _, _, _, _, _, h, _ => h.elim
 | _ :: _, [], _, _, _, _, h, _ => h.elim
def placesOf (tt : TT) : List (Nat × Nat) → Option (List (Nat × Nat × Nat))
 | [] => some []
 | (o, ft) :: r => match tt.at ft, placesOf tt r with
  | some fi, some ps => some ((o, fi.size, ft) :: ps)
  | _, _ => none
theorem Ar (htt : tt.okB P = true) : ∀ {fields : List Field} {ps : List (Nat × Nat × Nat)}, placesOf tt (fields.map fun f => (f.offset, f.type)) = some ps →
 (fields.mapM fun f => (do pure (f.offset, ← sizeOf f.type) : Sem (Nat × Nat))).run P W = .ok (ps.map fun z => (z.1, z.2.1)) W
 | [], ps, h => by simp only [List.map_nil, placesOf, Option.some.injEq] at h; subst h; rfl
 | f :: fs, ps, h => by
  simp only [List.map_cons, placesOf] at h
  split at h
  ·rename_i fi ps' hfi hps; cases h; have ih := Ar htt hps; have hs := TI.j6 (TT.fF htt hfi) W; simp only [List.mapM_cons, Sem.run_bind, hs, Result.andThen_ok, Sem.run_pure, ih, List.map_cons]
  ·cases h
def JZ (tt : TT) (t : Nat) (parts : List (Nat × AV)) : AR :=
 match tt.at t with
 | some ⟨.struct fs, _, zero⟩ => (match placesOf tt fs with
  | some ps => (match qi tt (fun i => ps[i]?) zero parts with
   | some cs => .val (.g cs)
   | none => .no)
  | none => .no)
 | some ⟨.array _ e, _, zero⟩ => (match tt.at e with
  | some ei => (match qi tt (fun i => some (i * ei.size, ei.size, e)) zero parts with
   | some cs => .val (.g cs)
   | none => .no)
  | none => .no)
 | _ => .no
def lw (sl : Sl) : List (Nat × Operand) → List (Nat × AV)
 | [] => []
 | (i, x) :: r => (i, ev sl x) :: lw sl r
theorem rO {sl : Sl} {a : Act} (h : RSl ρ ok W sl a.tmps) : ∀ ps : List (Nat × Operand), RPs ρ ok W (lw sl ps) (ps.map fun (i, x) => (i, a.eval x))
 | [] => trivial
 | (i, x) :: r => ⟨⟨rfl, lu h x⟩, rO h r⟩
theorem OC (htt : tt.okB P = true) {t : Nat} {parts : Array (Nat × Operand)} {sl : Sl} {r : AV} (h : (JZ tt t (lw sl parts.toList)).ok r) (o : Oper) (ho : o.op = .build t parts) {a : Act}
 (hs : RSl ρ ok W sl a.tmps) : Val P ρ ok W (execOp a.eval o) r := by
 unfold JZ at h
 split at h
 ·rename_i fs sz zero hti; have hok := TT.fF htt hti; obtain ⟨fields, hu, hm⟩ := TI.under hok; obtain ⟨z, hz, hzm⟩ := TI.yg hok W
  split at h
  ·rename_i ps hps
   split at h
   ·rename_i cs hcs; cases h; subst hm; have hrun := Ar (W := W) htt hps; obtain ⟨out, ho2, hR⟩ := vC (place' := fun i => (ps.map fun z => (z.1, z.2.1))[i]?) (arr := z.cells) (by intro i off size ft hp; rw [List.getElem?_map, hp]; rfl) hcs (rO hs parts.toList) (oK hzm); refine Val.here (v := .agg out) ?_ ⟨out, rfl, hR⟩
    have hmap : (fields.mapM fun f => (do pure (f.offset, ← sizeOf f.type) : Sem (Nat × Nat))).run P W = .ok (ps.map fun z => (z.1, z.2.1)).toArray W := by
     rw [Array.mapM_eq_mapM_toList]; show Sem.run P ((fields.toList.mapM fun f => (do pure (f.offset, ← sizeOf f.type) : Sem (Nat × Nat))) >>= fun l => (pure l.toArray : Sem (Array (Nat × Nat)))) W = _; rw [Sem.run_bind, hrun]; rfl
    have hfill : Instr.fill (fun i => (ps.map fun z => (z.1, z.2.1)).toArray[i]?) z.cells (parts.toList.map fun (i, x) => (i, a.eval x)) = some out := by
     rw [← ho2]; congr 1; funext i; simp
    simp only [execOp, ho, Instr.build, Sem.run_bind, hz, Result.andThen_ok, run_underlying hu W, hmap, Array.toList_map, hfill, Sem.run_pure]
   ·exact h.elim
  ·exact h.elim
 ·rename_i n e sz zero hti; have hok := TT.fF htt hti; have hu := TI.under hok; dsimp only at hu; obtain ⟨z, hz, hzm⟩ := TI.yg hok W
  split at h
  ·rename_i ei hei
   split at h
   ·rename_i cs hcs; cases h; have hsz := TI.j6 (TT.fF htt hei) W; obtain ⟨out, ho2, hR⟩ := vC (place' := fun i => some (i * ei.size, ei.size)) (arr := z.cells) (by intro i off size ft hp; cases hp; rfl) hcs (rO hs parts.toList) (oK hzm); refine Val.here (v := .agg out) ?_ ⟨out, rfl, hR⟩; simp only [execOp, ho, Instr.build, Sem.run_bind, hz, Result.andThen_ok, run_underlying hu W, hsz, Array.toList_map, ho2, Sem.run_pure]
   ·exact h.elim
  ·exact h.elim
 ·exact h.elim
end
end Go.Proofs.Ytkgeihbcikiedaa.A
set_option linter.unusedVariables false
set_option linter.unusedSimpArgs false
set_option linter.constructorNameAsVariable false
namespace Go.Proofs.Ytkgeihbcikiedaa.A
open Go.RowKit Go.Proofs.YtkgeihbcikiedaaW.PrintWords Go.Proofs.YtkgeihbcikiedaaW.PrintMore
section
variable {P : Program} {tt : TT} {ρ : List Nat} {ok : Nat → Prop} {W : World}
def Z0 (tt : TT) (t : Nat) (x : AV) : AR :=
 match tt.at t, x with
 | some ⟨.slice _, _, _⟩, .a (.v _ l) => .val (.a (.i .i64 (l.length : Int)))
 | some ⟨.slice _, _, _⟩, .a (.w l) => .val (.a (.i .i64 (l.length : Int)))
 | some ⟨.slice _, _, _⟩, .a .nil => .val (.a (.i .i64 0))
 | some ⟨.array n _, _, _⟩, _ => .val (.a (.i .i64 (n : Int)))
 | _, _ => .no
theorem Vz (htt : tt.okB P = true) {t : Nat} {x r : AV} (h : (Z0 tt t x).ok r) (ty : Nat) (v : Value) (hx : x.R ρ ok W v) :
 ∃ u, (Builtin.len_ #[t] ty #[v]).run P W = .ok u W ∧ r.R ρ ok W u := by
 unfold Z0 at h
 split at h
 ·rename_i hti; have hu := TI.under (TT.fF htt hti); dsimp only at hu; obtain ⟨A, c, hv⟩ := Kd.jv (show Kd.V (Kd.int _) 0 W 0 ok v _ from hx); cases h; subst hv; exact ⟨_, by simp [Builtin.len_, run_underlying hu, goInt], rfl⟩
 ·rename_i hti; have hu := TI.under (TT.fF htt hti); dsimp only at hu; obtain ⟨A, c, hv⟩ := Kd.jv (show Kd.V Kd.bool 0 W 0 ok v _ from hx); cases h; subst hv; exact ⟨_, by simp [Builtin.len_, run_underlying hu, goInt], rfl⟩
 ·rename_i hti; have hu := TI.under (TT.fF htt hti); dsimp only at hu; have hv : v = .slice none 0 0 := hx; cases h; subst hv; exact ⟨_, by simp [Builtin.len_, run_underlying hu, goInt], rfl⟩
 ·rename_i hti; have hu := TI.under (TT.fF htt hti); dsimp only at hu; cases h; exact ⟨_, by simp [Builtin.len_, run_underlying hu, goInt], rfl⟩
 ·exact h.elim
def aMm (mx : Bool) (k : IntKind) (x : Int) : List AV → AR
 | [] => .val (.a (.i k x))
 | .a (.i _ y) :: r => aMm mx k (bif mx then (if y > x then y else x) else (if y < x then y else x)) r
 | _ => .no
theorem MH : ∀ {xs : List AV} {vs : List Value} {k : IntKind} {x : Int} {r : AV}, (aMm true k x xs).ok r → RVs ρ ok W xs vs →
 ∃ u, (vs.foldlM Builtin.max2 (.int k x)).run P W = .ok u W ∧ r.R ρ ok W u
 | [], [], k, x, r, h, _ => by cases h; exact ⟨_, rfl, rfl⟩
 | y :: xs, v :: vs, k, x, r, h, hr => by
  unfold aMm at h
  split at h
  ·cases ‹_ = []›
  ·rename_i k' y' r' e; obtain ⟨rfl, rfl⟩ := List.cons.inj e; have hv : v = .int k' y' := hr.1; subst hv; obtain ⟨u, hu, hR⟩ := MH h hr.2; exact ⟨u, by simp only [List.foldlM_cons, Sem.run_bind, Builtin.max2, Sem.run_pure, Result.andThen_ok]; exact hu, hR⟩
  ·exact h.elim
 | [], _ :: _, _, _, _, _, h => h.elim
 | _ :: _, [], _, _, _, _, h => h.elim
theorem MI : ∀ {xs : List AV} {vs : List Value} {k : IntKind} {x : Int} {r : AV}, (aMm false k x xs).ok r → RVs ρ ok W xs vs →
 ∃ u, (vs.foldlM Builtin.min2 (.int k x)).run P W = .ok u W ∧ r.R ρ ok W u
 | [], [], k, x, r, h, _ => by cases h; exact ⟨_, rfl, rfl⟩
 | y :: xs, v :: vs, k, x, r, h, hr => by
  unfold aMm at h
  split at h
  ·cases ‹_ = []›
  ·rename_i k' y' r' e; obtain ⟨rfl, rfl⟩ := List.cons.inj e; have hv : v = .int k' y' := hr.1; subst hv; obtain ⟨u, hu, hR⟩ := MI h hr.2; exact ⟨u, by simp only [List.foldlM_cons, Sem.run_bind, Builtin.min2, Sem.run_pure, Result.andThen_ok]; exact hu, hR⟩
  ·exact h.elim
 | [], _ :: _, _, _, _, _, h => h.elim
 | _ :: _, [], _, _, _, _, h => h.elim
def aMM (mx : Bool) : List AV → AR
 | .a (.i k x) :: r => aMm mx k x r
 | _ => .no
def evs (sl : Sl) : List Operand → List AV
 | [] => []
 | x :: r => ev sl x :: evs sl r
theorem Q4 {sl : Sl} {a : Act} (h : RSl ρ ok W sl a.tmps) : ∀ xs : List Operand, RVs ρ ok W (evs sl xs) (xs.map a.eval)
 | [] => trivial
 | x :: r => ⟨lu h x, Q4 h r⟩
def Au (tt : TT) (b : Builtin) (ts : List Nat) (xs : List AV) : AR :=
 match b, ts, xs with
 | .len, [t], [x] => Z0 tt t x
 | .max, _, xs => aMM true xs
 | .min, _, xs => aMM false xs
 | _, _, _ => .no
theorem G8 (htt : tt.okB P = true) {b : Builtin} {xs : Array Operand} {ts : Array TypeId} {sl : Sl} {r : AV} (h : (Au tt b ts.toList (evs sl xs.toList)).ok r) (o : Oper)
 (ho : o.op = .call { callee := .builtin b, args := xs, argTypes := ts }) {a : Act} (hs : RSl ρ ok W sl a.tmps) : Val P ρ ok W (execOp a.eval o) r := by
 obtain ⟨dst, op, type, pos, after, guard⟩ := o; dsimp only at ho; subst ho; rw [BigFrame.execOp_builtin]; have hR := Q4 hs xs.toList; unfold Au at h
 split at h
 ·rename_i t x e1 e2
  have hts : ts = #[t] := by apply Array.ext'; simpa using e1
  rw [e2] at hR
  obtain ⟨y, hy⟩ : ∃ y, xs.toList.map a.eval = [y] := by
   have := hR.length; rw [List.length_singleton] at this; exact List.length_eq_one_iff.1 this.symm
  rw [hy] at hR
  have hxs : xs.map a.eval = #[y] := by apply Array.ext'; simpa using hy
  obtain ⟨u, hu, hr⟩ := Vz (P := P) htt h type y hR.1; refine Val.here (v := u) ?_ hr; rw [BigFrame.builtin_len, hts, hxs, Sem.run_bind, hu]; rfl
 ·have hl := hR
  cases hm : evs sl xs.toList with
  | nil => rw [hm] at h; exact h.elim
  | cons z zs =>
   rw [hm] at h hR; unfold aMM at h
   split at h
   ·rename_i k x r' e; obtain ⟨rfl, rfl⟩ := List.cons.inj e
    cases hv : xs.toList.map a.eval with
    | nil => rw [hv] at hR; exact hR.elim
    | cons v vs =>
     rw [hv] at hR; have h1 : v = .int k x := hR.1; subst h1; obtain ⟨u, hu, hr⟩ := MH (P := P) h hR.2; refine Val.here (v := u) ?_ hr
     have hxs : (xs.map a.eval).toList = .int k x :: vs := by simpa using hv
     rw [BigFrame.builtin_max, Sem.run_bind]; unfold Builtin.max_; rw [hxs]; dsimp only; rw [hu]; rfl
   ·exact h.elim
 ·cases hm : evs sl xs.toList with
  | nil => rw [hm] at h; exact h.elim
  | cons z zs =>
   rw [hm] at h hR; unfold aMM at h
   split at h
   ·rename_i k x r' e; obtain ⟨rfl, rfl⟩ := List.cons.inj e
    cases hv : xs.toList.map a.eval with
    | nil => rw [hv] at hR; exact hR.elim
    | cons v vs =>
     rw [hv] at hR; have h1 : v = .int k x := hR.1; subst h1; obtain ⟨u, hu, hr⟩ := MI (P := P) h hR.2; refine Val.here (v := u) ?_ hr
     have hxs : (xs.map a.eval).toList = .int k x :: vs := by simpa using hv
     rw [BigFrame.builtin_min, Sem.run_bind]; unfold Builtin.min_; rw [hxs]; dsimp only; rw [hu]; rfl
   ·exact h.elim
 ·exact h.elim
def tC (tt : TT) (t : Nat) (x i : AV) : AR :=
 match tt.at t, x, i with
 | some ⟨.array n e, _, _⟩, .a (.p j off), .a (.i _ m) => (match tt.at e with
  | some ei => .cond (0 ≤ m ∧ m < n) (.a (.p j (off + m.toNat * ei.size)))
  | none => .no)
 | some ⟨.slice e, _, _⟩, .a (.v k l), .a (.i _ m) => (match tt.at e with
  | some ei => bif Nat.beq ei.size 1 then .cond (0 ≤ m ∧ m < l.length) (.a (.q k (rd l m))) else .no
  | none => .no)
 | some ⟨.slice e, _, _⟩, .a (.ds l), .a (.i _ m) => (match tt.at e with
  | some ei => bif Nat.beq ei.size 3 then .cond (0 ≤ m ∧ m < l.length) (.a (.de (l.getD m.toNat (false, [], 0)))) else .no
  | none => .no)
 | some ⟨.slice e, _, _⟩, .a (.w l), .a (.i _ m) => (match tt.at e with
  | some ei => bif Nat.beq ei.size 1 then .cond (0 ≤ m ∧ m < l.length) (.a (.ob (l.getD m.toNat false))) else .no
  | none => .no)
 | some ⟨.slice e, _, _⟩, .a (.rs l), .a (.i _ m) => (match tt.at e with
  | some ei => bif Nat.beq ei.size 1 then .cond (0 ≤ m ∧ m < l.length) (.a (.re (l.getD m.toNat []))) else .no
  | none => .no)
 | _, _, _ => .no
theorem BD (htt : tt.okB P = true) {t : Nat} {x i r : AV} (h : (tC tt t x i).ok r) (xo io : Operand) (o : Oper) (ho : o.op = .indexAddr t xo io) {a : Act}
 (hx : x.R ρ ok W (a.eval xo)) (hi : i.R ρ ok W (a.eval io)) : Val P ρ ok W (execOp a.eval o) r := by
 unfold tC at h
 split at h
 ·rename_i n e sz zr j off ki m hti; have hu := TI.under (TT.fF htt hti); dsimp only at hu
  split at h
  ·rename_i ei hei; obtain ⟨⟨h0, h1⟩, rfl⟩ := h; have hsz := TI.j6 (TT.fF htt hei) W; obtain ⟨g, hg, hv⟩ := hx; have hi' : a.eval io = .int ki m := hi; refine Val.here (v := .pointer (some ⟨g, off + m.toNat * ei.size, none⟩)) ?_ ⟨g, hg, rfl⟩; simp [execOp, ho, hv, hi', Instr.indexAt, asIntOf, run_underlying hu, Instr.sureAddr, h0, h1, hsz, Addr.add_mid]
  ·exact h.elim
 ·rename_i e sz zr k l ki m hti; have hu := TI.under (TT.fF htt hti); dsimp only at hu
  split at h
  ·rename_i ei hei
   cases hb : Nat.beq ei.size 1 with
   | false => rw [hb] at h; exact h.elim
   | true =>
    rw [hb] at h; obtain ⟨⟨h0, h1⟩, rfl⟩ := h; have hsz := TI.j6 (TT.fF htt hei) W; have hs1 := Nat.eq_of_beq_eq_true hb; have hi' : a.eval io = .int ki m := hi
    obtain ⟨A, c, hv, hc, hf⟩ := (show Kd.V (Kd.int k) 0 W 0 ok (a.eval xo) l from hx)
    obtain ⟨ad, hA, _⟩ := Kd.cZ (Kd.mW hf) m h0 h1; subst hA; refine Val.here (v := .pointer (some (ad.add m.toNat))) ?_ ⟨ad.add m.toNat, rfl, iH.imp hf (fun W' hC => ?_)⟩
    ·simp [execOp, ho, hv, hi', Instr.indexAt, asIntOf, run_underlying hu, h0, h1, hsz, hs1]
    ·obtain ⟨ad', e, hc'⟩ := Kd.cZ hC m h0 h1; cases e; exact hc'
  ·exact h.elim
 ·rename_i e sz zr l ki m hti; have hu := TI.under (TT.fF htt hti); dsimp only at hu
  split at h
  ·rename_i ei hei
   cases hb : Nat.beq ei.size 3 with
   | false => rw [hb] at h; exact h.elim
   | true =>
    rw [hb] at h; obtain ⟨⟨h0, h1⟩, rfl⟩ := h; have hsz := TI.j6 (TT.fF htt hei) W; have hs1 := Nat.eq_of_beq_eq_true hb; have hi' : a.eval io = .int ki m := hi; obtain ⟨A, c, hv, hc, hf, hA⟩ := hx; obtain ⟨ad, cs, rfl, hcl, hK, hcc, hin⟩ := Kd.L8 hf (false, [], 0) m h0 h1; obtain ⟨g, off, e⟩ := hA.resolve_left (by simp); cases e; have s3 : kd3.sz = 3 := rfl; have hok : ok g := hin (by rw [s3]; omega)
    have hg : g < W.heap.size := by
     have := hcc 0 _ (List.getElem?_eq_getElem (by rw [hcl, s3]; omega)); have := World.block_lt_of_cell? W _ this
     simpa [Addr.add_mid] using this
    refine Val.here (v := .pointer (some ⟨g, off + m.toNat * 3, none⟩)) ?_ ⟨g, off + m.toNat * 3, cs, rfl, fun W' hW => ⟨hK W' hW, fun j u hj => ?_⟩⟩
    ·simp [execOp, ho, hv, hi', Instr.indexAt, asIntOf, run_underlying hu, h0, h1, hsz, hs1, Addr.add_mid]
    ·have h5 := hcc j u hj; rw [s3, Addr.add_mid] at h5; have hh := hW g hok hg; rw [show off + m.toNat * 3 + j = off + (m.toNat * 3 + j) by omega]
     simpa [World.cell?, hh] using h5
  ·exact h.elim
 ·rename_i e sz zr l ki m hti; have hu := TI.under (TT.fF htt hti); dsimp only at hu
  split at h
  ·rename_i ei hei
   cases hb : Nat.beq ei.size 1 with
   | false => rw [hb] at h; exact h.elim
   | true =>
    rw [hb] at h; obtain ⟨⟨h0, h1⟩, rfl⟩ := h; have hsz := TI.j6 (TT.fF htt hei) W; have hs1 := Nat.eq_of_beq_eq_true hb; have hi' : a.eval io = .int ki m := hi
    obtain ⟨A, c, hv, hc, hf⟩ := (show Kd.V Kd.bool 0 W 0 ok (a.eval xo) l from hx)
    obtain ⟨ad, hA, _⟩ := Kd.mJ (Kd.mW hf) m h0 h1; subst hA; refine Val.here (v := .pointer (some (ad.add m.toNat))) ?_ ⟨ad.add m.toNat, rfl, iH.imp hf (fun W' hC => ?_)⟩
    ·simp [execOp, ho, hv, hi', Instr.indexAt, asIntOf, run_underlying hu, h0, h1, hsz, hs1]
    ·obtain ⟨ad', e, hc'⟩ := Kd.mJ hC m h0 h1; cases e; exact hc'
  ·exact h.elim
 ·rename_i e sz zr l ki m hti; have hu := TI.under (TT.fF htt hti); dsimp only at hu
  split at h
  ·rename_i ei hei
   cases hb : Nat.beq ei.size 1 with
   | false => rw [hb] at h; exact h.elim
   | true =>
    rw [hb] at h; obtain ⟨⟨h0, h1⟩, rfl⟩ := h; have hsz := TI.j6 (TT.fF htt hei) W; have hs1 := Nat.eq_of_beq_eq_true hb; have hi' : a.eval io = .int ki m := hi
    obtain ⟨A, c, hv, hc, hf⟩ := (show Kd.V kdr 0 W 0 ok (a.eval xo) l from hx)
    obtain ⟨ad, cs, rfl, hcl, hK, hcc, hin⟩ := Kd.L8 hf [] m h0 h1; obtain ⟨A1, c1, rfl, l1, _⟩ := hK W (fun _ _ _ => rfl); have s1 : kdr.sz = 1 := rfl
    have hcell : W.cell? (ad.add m.toNat) = some (.slice A1 (l.getD m.toNat []).length c1) := by
     have h5 := hcc 0 _ rfl
     simpa [s1] using h5
    have hok : ok ad.block := hin (by rw [s1]; omega)
    have hab : (ad.add m.toNat).block = ad.block := by unfold Addr.add; split <;> rfl
    have hg : ad.block < W.heap.size := by
     have := World.block_lt_of_cell? W _ hcell
     rwa [hab] at this
    refine Val.here (v := .pointer (some (ad.add m.toNat))) ?_ ⟨ad.add m.toNat, A1, c1, rfl, l1, fun W' hW => ⟨?_, ?_⟩⟩
    ·simp [execOp, ho, hv, hi', Instr.indexAt, asIntOf, run_underlying hu, h0, h1, hsz, hs1]
    ·have hh := hW ad.block hok hg; unfold World.cell? at hcell ⊢; rw [hab] at hcell ⊢; rw [hh]; exact hcell
    ·obtain ⟨A2, c2, e2, _, g2⟩ := hK W' hW; injection e2 with e2 _; injection e2 with e3 e4 e5; subst e3; exact g2
  ·exact h.elim
 ·exact h.elim
def J2 (tt : TT) (t : Nat) (x i : AV) : AR :=
 match tt.at t, x, i with
 | some ⟨.array n e, _, _⟩, .g xs, .a (.i _ m) => (match tt.at e with
  | some ei => bif ei.d.row then .cond (0 ≤ m ∧ m < n) (.g ((xs.drop (m.toNat * ei.size)).take ei.size)) else (match xs[m.toNat * ei.size]? with
   | some y => .cond (0 ≤ m ∧ m < n) (.a y)
   | none => .no)
  | none => .no)
 | _, _, _ => .no
theorem OD (htt : tt.okB P = true) {t : Nat} {x i r : AV} (h : (J2 tt t x i).ok r) (xo io : Operand) (o : Oper) (ho : o.op = .index t xo io) {a : Act}
 (hx : x.R ρ ok W (a.eval xo)) (hi : i.R ρ ok W (a.eval io)) : Val P ρ ok W (execOp a.eval o) r := by
 unfold J2 at h
 split at h
 ·rename_i n e sz zr xs ki m hti; have hu := TI.under (TT.fF htt hti); dsimp only at hu; obtain ⟨arr, hv, hr⟩ := hx; have hi' : a.eval io = .int ki m := hi
  split at h
  ·rename_i ei hei; have hag := TI.Ex (TT.fF htt hei) W; have hsz := TI.j6 (TT.fF htt hei) W
   cases hb : ei.d.row with
   | true =>
    rw [hb] at h hag; obtain ⟨⟨h0, h1⟩, rfl⟩ := h; refine Val.here (v := .agg (arr.extract (m.toNat * ei.size) (m.toNat * ei.size + ei.size))) ?_ ⟨_, rfl, ?_⟩
    ·simp [execOp, ho, hv, hi', Instr.index, asIntOf, run_underlying hu, h0, h1, hsz, part, hag]
    ·rw [Array.toList_extract, List.extract_eq_take_drop, Nat.add_sub_cancel_left]; exact (hr.drop _).take _
   | false =>
    rw [hb] at h hag; simp only [cond_false] at h
    split at h
    ·rename_i y hy; obtain ⟨⟨h0, h1⟩, rfl⟩ := h; obtain ⟨v, hv2, hR⟩ := hr.get _ _ hy
     have : arr[m.toNat * ei.size]? = some v := by simpa using hv2
     refine Val.here (v := v) ?_ hR; simp [execOp, ho, hv, hi', Instr.index, asIntOf, run_underlying hu, h0, h1, hsz, part, hag, this]
    ·exact h.elim
  ·exact h.elim
 ·exact h.elim
end
end Go.Proofs.Ytkgeihbcikiedaa.A
set_option linter.unusedVariables false
set_option linter.unusedSimpArgs false
set_option linter.constructorNameAsVariable false
namespace Go.Proofs.Ytkgeihbcikiedaa.A
open Go.RowKit Go.Proofs.YtkgeihbcikiedaaW.PrintWords Go.Proofs.YtkgeihbcikiedaaW.PrintMore
section
variable {P : Program} {tt : TT} {ρ : List Nat} {ok : Nat → Prop} {W : World}
def Ey (k : IntKind) : List AA → Option (List Int)
 | [] => some []
 | .i k' x :: r => bif kEq k k' then (match Ey k r with | some l => some (x :: l) | none => none) else none
 | _ => none
theorem G9 : ∀ {k : IntKind} {cs : List AA} {l : List Int} {vs : List Value}, Ey k cs = some l → Rs ρ ok W cs vs → vs = l.map (Value.int k)
 | k, [], l, [], h, _ => by cases h; rfl
 | k, c :: cs, l, v :: vs, h, hr => by
  unfold Ey at h
  split at h
  ·cases ‹_ = []›
  ·rename_i k' x r e; obtain ⟨rfl, rfl⟩ := List.cons.inj e
   cases hk : kEq k k' with
   | false => rw [hk] at h; cases h
   | true =>
    rw [hk] at h; have hk' : k = k' := of_decide_eq_true hk; subst hk'; simp only [cond_true] at h
    split at h
    ·rename_i l' hl; cases h; have hv : v = .int k x := hr.1; subst hv; rw [G9 hl hr.2]; rfl
    ·cases h
  ·cases h
 | _, [], _, _ :: _, _, h => h.elim
 | _, _ :: _, _, [], _, h => h.elim
def yh : List AA → Option (List Bool)
 | [] => some []
 | .b x :: r => (match yh r with | some l => some (x :: l) | none => none)
 | _ => none
theorem Co : ∀ {cs : List AA} {l : List Bool} {vs : List Value}, yh cs = some l → Rs ρ ok W cs vs → vs = l.map Value.bool
 | [], l, [], h, _ => by cases h; rfl
 | c :: cs, l, v :: vs, h, hr => by
  unfold yh at h
  split at h
  ·cases ‹_ = []›
  ·rename_i x r e; obtain ⟨rfl, rfl⟩ := List.cons.inj e
   split at h
   ·rename_i l' hl; cases h; have hv : v = .bool x := hr.1; subst hv; rw [Co hl hr.2]; rfl
   ·cases h
  ·cases h
 | [], _, _ :: _, _, h => h.elim
 | _ :: _, _, [], _, h => h.elim
theorem Xl {α : Type} {enc : α → Value} (d : α) {h1 : ∀ x, (enc x).oneCell' = true} {e : Nat} {l : List α} (hn : l.length ≤ 1000) {arr : Array Value} (ha : arr.toList = l.map enc) (hok : ok W.heap.size) :
 Kd.V (Kd.scalar enc h1) 0 (W.alloc (.cells arr e (0, 0))) 0 ok (.slice (some ⟨W.heap.size, 0, none⟩) l.length l.length) l := by
 refine Kd.vQ (Nat.le_refl _) (fun W' hW => ?_); have hb : W'.heap[W.heap.size]? = some (.cells arr e (0, 0)) := (hW _ hok (by rw [World.size_alloc]; omega)).trans (heap_alloc_new W _); refine Kd.sS (enc := enc) (d := d) (h1 := h1) ⟨rfl, by omega, fun _ => ⟨_, rfl, fun j hj => ?_⟩⟩; rw [add_plain, ak hb j]
 have : arr.toList[j]? = (l.map enc)[j]? := by rw [ha]
 simp [List.getElem?_eq_getElem hj, List.getD_eq_getElem?_getD] at this ⊢; exact this
def rf (tt : TT) (t len : Nat) (parts : List (Nat × AV)) : AR :=
 match tt.at t with
 | some ⟨.slice e, _, _⟩ => (match tt.at e with
  | some ⟨.int k, 1, [z]⟩ => bif Nat.ble len 1000 then (match qi tt (fun i => some (i * 1, 1, e)) (List.replicate len z) parts with
   | some cs => (match Ey k cs with
    | some l => .val (.a (.v k l))
    | none => .no)
   | none => .no) else .no
  | some ⟨.bool, 1, [z]⟩ => bif Nat.ble len 1000 then (match qi tt (fun i => some (i * 1, 1, e)) (List.replicate len z) parts with
   | some cs => (match yh cs with
    | some l => .val (.a (.w l))
    | none => .no)
   | none => .no) else .no
  | _ => .no)
 | _ => .no
theorem MJ {z : AA} : ∀ {vs : List Value}, (∀ v ∈ vs, Aj z v = true) → Rs ρ ok W (List.replicate vs.length z) vs
 | [], _ => trivial
 | v :: vs, h => ⟨G5 (h v List.mem_cons_self), MJ (fun u hu => h u (List.mem_cons_of_mem _ hu))⟩
theorem Ha {e : Nat} {z : AA} {zv : Value} (hm : kG [z] zv.cells.toList = true) (len : Nat) :
 ∃ arr : Array Value, ((Array.range (len * 1)).map (zv.cells[· % zv.cells.size]!)) = arr ∧ arr.size = len ∧ Rs ρ ok W (List.replicate len z) arr.toList := by
 refine ⟨_, rfl, by simp, ?_⟩
 have hc : ∃ y, zv.cells = #[y] ∧ Aj z y = true := by
  cases hl : zv.cells.toList with
  | nil => rw [hl] at hm; simp [kG] at hm
  | cons y ys =>
   rw [hl] at hm
   cases ys with
   | nil => simp [kG] at hm; exact ⟨y, by apply Array.ext'; simpa using hl, hm⟩
   | cons _ _ => simp [kG] at hm
 obtain ⟨y, hy, hz⟩ := hc
 have := MJ (ρ := ρ) (ok := ok) (W := W) (z := z) (vs := ((Array.range (len * 1)).map (zv.cells[· % zv.cells.size]!)).toList) (by
  intro v hv; rw [hy] at hv; simp [Nat.mod_one] at hv; obtain ⟨a, _, rfl⟩ := hv
  exact hz)
 simpa using this
theorem Av (htt : tt.okB P = true) (hok : ok W.heap.size) {t len : Nat} {parts : Array (Nat × Operand)} {sl : Sl} {r : AV} (h : (rf tt t len (lw sl parts.toList)).ok r) (o : Oper)
 (ho : o.op = .buildSlice t len parts) {a : Act} (hs : RSl ρ ok W sl a.tmps) : Val P ρ ok W (execOp a.eval o) r := by
 have key : ∀ (e : Nat) (hu : P.underlying t = some (.slice e)) (ei : TI) (z : AA), ei.okB P e = true → ei.size = 1 → ei.zero = [z] → len ≤ 1000 → ∀ cs, qi tt (fun i => some (i * 1, 1, e)) (List.replicate len z) (lw sl parts.toList) = some cs →
  ∃ out : Array Value, (execOp a.eval o).run P W = .ok (.value (.slice (some ⟨W.heap.size, 0, none⟩) len len)) (W.alloc (.cells out e (0, 0))) ∧ Rs ρ ok W cs out.toList := by
  intro e hu ei z hei hs1 hz hle cs hcs; have hsz := TI.j6 hei W; rw [hs1] at hsz; obtain ⟨zv, hzr, hzm⟩ := TI.yg hei W; rw [hz] at hzm; obtain ⟨arr, harr, hl, hR⟩ := Ha (ρ := ρ) (ok := ok) (W := W) (e := e) hzm len; obtain ⟨out, ho2, hRo⟩ := vC (place' := fun i => some (i * 1, 1)) (arr := arr) (by intro i off size ft hp; cases hp; rfl) hcs (rO hs parts.toList) hR; refine ⟨out, ?_, hRo⟩
  have c1 : ¬ (len * 1 > 2 ^ 24) := by omega
  simp only [execOp, ho, Instr.buildSlice, Sem.run_bind, run_underlying hu W, hsz, Result.andThen_ok, if_neg c1, Array.toList_map]
  by_cases h0 : len * 1 = 0
  ·have hlen : len = 0 := by omega
   subst hlen; have adC : arr = #[] := Array.eq_empty_of_size_eq_zero hl; subst adC; simp only [Nat.zero_mul, if_pos, Sem.run_pure, Result.andThen_ok]
   have : (Array.map (fun x => (#[] : Array Value)[x % (#[] : Array Value).size]!) (Array.range 0)) = #[] := by simp
   simp only [this, ho2, newRow, Sem.run_bind, run_newObj_alloc, Result.andThen_ok, Sem.run_pure]
  ·simp only [if_neg h0, Sem.run_bind, hzr, Result.andThen_ok, Sem.run_pure, harr, ho2, newRow, run_newObj_alloc]
 unfold rf at h
 split at h
 ·rename_i e sz zr hti; have hu := TI.under (TT.fF htt hti); dsimp only at hu
  split at h
  ·rename_i k z hei
   cases hle : Nat.ble len 1000 with
   | false => rw [hle] at h; exact h.elim
   | true =>
    rw [hle] at h; simp only [cond_true] at h
    split at h
    ·rename_i cs hcs
     split at h
     ·rename_i l hl; cases h; obtain ⟨out, hrun, hRo⟩ := key e hu _ z (TT.fF htt hei) rfl rfl (Nat.le_of_ble_eq_true hle) cs hcs; have hout := G9 hl hRo
      have hll : l.length = len := by
       have h1 := hRo.length
       have h2 : ∀ {ps : List (Nat × AV)} {c0 c1 : List AA}, qi tt (fun i => some (i * 1, 1, e)) c0 ps = some c1 → c1.length = c0.length := by
        intro ps
        induction ps with
        | nil => intro c0 c1 h; cases h; rfl
        | cons p ps ih =>
         intro c0 c1 h; unfold qi at h; dsimp only at h
         split at h
         ·rename_i xs hxs
          cases hb : Nat.beq xs.length 1 && Nat.ble (p.1 * 1 + xs.length) c0.length with
          | false => rw [hb] at h; cases h
          | true => rw [hb] at h; rw [ih h, q8]
         ·cases h
       have h3 := h2 hcs; rw [List.length_replicate] at h3
       have h4 : out.toList.length = l.length := by rw [hout]; simp
       omega
      subst hll; refine ⟨_, _, hrun, ai (Below.refl _ _) _, ?_⟩; exact Xl (h1 := fun _ => rfl) 0 (Nat.le_of_ble_eq_true hle) hout hok
     ·exact h.elim
    ·exact h.elim
  ·rename_i z hei
   cases hle : Nat.ble len 1000 with
   | false => rw [hle] at h; exact h.elim
   | true =>
    rw [hle] at h; simp only [cond_true] at h
    split at h
    ·rename_i cs hcs
     split at h
     ·rename_i l hl; cases h; obtain ⟨out, hrun, hRo⟩ := key e hu _ z (TT.fF htt hei) rfl rfl (Nat.le_of_ble_eq_true hle) cs hcs; have hout := Co hl hRo
      have hll : l.length = len := by
       have h1 := hRo.length
       have h2 : ∀ {ps : List (Nat × AV)} {c0 c1 : List AA}, qi tt (fun i => some (i * 1, 1, e)) c0 ps = some c1 → c1.length = c0.length := by
        intro ps
        induction ps with
        | nil => intro c0 c1 h; cases h; rfl
        | cons p ps ih =>
         intro c0 c1 h; unfold qi at h; dsimp only at h
         split at h
         ·rename_i xs hxs
          cases hb : Nat.beq xs.length 1 && Nat.ble (p.1 * 1 + xs.length) c0.length with
          | false => rw [hb] at h; cases h
          | true => rw [hb] at h; rw [ih h, q8]
         ·cases h
       have h3 := h2 hcs; rw [List.length_replicate] at h3
       have h4 : out.toList.length = l.length := by rw [hout]; simp
       omega
      subst hll; refine ⟨_, _, hrun, ai (Below.refl _ _) _, ?_⟩; exact Xl (h1 := fun _ => rfl) false (Nat.le_of_ble_eq_true hle) hout hok
     ·exact h.elim
    ·exact h.elim
  ·exact h.elim
 ·exact h.elim
def J3 (tt : TT) (t : Nat) (x : AV) (lo hi mx : Option AV) : AR :=
 match tt.at t, x, lo, hi, mx with
 | some ⟨.slice e, _, _⟩, .a (.v k l), some (.a (.i _ j)), none, none => (match tt.at e with
  | some ei => bif Nat.beq ei.size 1 then .cond (0 ≤ j ∧ j ≤ l.length) (.a (.v k (l.drop j.toNat))) else .no
  | none => .no)
 | some ⟨.slice e, _, _⟩, .a (.w l), some (.a (.i _ j)), none, none => (match tt.at e with
  | some ei => bif Nat.beq ei.size 1 then .cond (0 ≤ j ∧ j ≤ l.length) (.a (.w (l.drop j.toNat))) else .no
  | none => .no)
 | some ⟨.slice e, _, _⟩, .a (.v k l), none, some (.a (.i _ j)), none => (match tt.at e with
  | some ei => bif Nat.beq ei.size 1 then .cond (0 ≤ j ∧ j ≤ l.length) (.a (.v k (l.take j.toNat))) else .no
  | none => .no)
 | some ⟨.slice e, _, _⟩, .a (.w l), none, some (.a (.i _ j)), none => (match tt.at e with
  | some ei => bif Nat.beq ei.size 1 then .cond (0 ≤ j ∧ j ≤ l.length) (.a (.w (l.take j.toNat))) else .no
  | none => .no)
 | _, _, _, _, _ => .no
theorem MK {α : Type} {d : Kd α} (hd : d.sz = 1) {t e : Nat} {ei : TI} (hu : P.underlying t = some (.slice e)) (hei : ei.okB P e = true) (hs : ei.size = 1) {kl : IntKind} {l : List α} {j : Int} (h0 : 0 ≤ j) (h1 : j ≤ l.length) {v : Value}
 (hv : Kd.V d 0 W 0 ok v l) : ∃ u, (Instr.slice t v (some (.int kl j)) none none).run P W = .ok u W ∧ Kd.V d 0 W 0 ok u (l.drop j.toNat) := by
 obtain ⟨A, c, rfl, hc, hf⟩ := hv; obtain ⟨i, z, hi, hsz, _⟩ := TI.info hei; refine ⟨_, Q5 t e kl hu hi 1 (hsz.trans hs) A l.length c j h0 h1 W, ?_⟩
 have hm : j.toNat ≤ l.length := by omega
 have := Kd.ada hf hm hc; rw [hd] at this
 have hl : l.length - j.toNat = (l.drop j.toNat).length := by rw [List.length_drop]
 rw [hl]; exact Kd.vQ (by rw [List.length_drop]; omega) this
theorem Hd {α : Type} {d : Kd α} {t e : Nat} {ei : TI} (hu : P.underlying t = some (.slice e)) (hei : ei.okB P e = true) {kl : IntKind} {l : List α} {j : Int} (h0 : 0 ≤ j) (h1 : j ≤ l.length) {v : Value}
 (hv : Kd.V d 0 W 0 ok v l) : ∃ u, (Instr.slice t v none (some (.int kl j)) none).run P W = .ok u W ∧ Kd.V d 0 W 0 ok u (l.take j.toNat) := by
 obtain ⟨A, c, rfl, hc, hf⟩ := hv; obtain ⟨i, z, hi, hsz, _⟩ := TI.info hei; refine ⟨_, yB t e kl hu hi A l.length c j h0 h1 hc W, ?_⟩
 have hm : j.toNat ≤ l.length := by omega
 have hl : j.toNat = (l.take j.toNat).length := by rw [List.length_take]; omega
 have := Kd.yC hf hm; have hg := Kd.vQ (e := 0) (base := 0) (c := c) (by rw [List.length_take]; omega) this; rw [← hl] at hg; exact hg
theorem BF {t e : Nat} (hu : P.underlying t = some (.slice e)) (v : Value) (lo hi mx : Option Value) {u : Value} (h : (Instr.slice t v lo hi mx).run P W = .ok u W) : (Instr.sliceAt t v lo hi mx).run P W = .ok u W := by
 unfold Instr.sliceAt; rw [Sem.run_bind, run_underlying hu W]; exact h
theorem OE (htt : tt.okB P = true) {t : Nat} {r : AV} {lo hi mx : Option Operand} {sl : Sl} {a : Act} (hs : RSl ρ ok W sl a.tmps) (xo : Operand) (h : (J3 tt t (ev sl xo) (lo.map (ev sl)) (hi.map (ev sl)) (mx.map (ev sl))).ok r) (o : Oper) (ho : o.op = .slice t xo lo hi mx) :
 Val P ρ ok W (execOp a.eval o) r := by
 have hx := lu hs xo
 have opt : ∀ {q : Option Operand} {y : AV}, q.map (ev sl) = some y → ∃ z, q.map a.eval = some z ∧ y.R ρ ok W z := by
  intro q y hq
  cases q with
  | none => cases hq
  | some w => cases hq; exact ⟨_, rfl, lu hs w⟩
 have opn : ∀ {q : Option Operand}, q.map (ev sl) = none → q.map a.eval = none := by
  intro q hq
  cases q with
  | none => rfl
  | some w => cases hq
 have fin : ∀ {v : Value} {e : Nat}, P.underlying t = some (.slice e) → (Instr.slice t (a.eval xo) (lo.map a.eval) (hi.map a.eval) (mx.map a.eval)).run P W = .ok v W → r.R ρ ok W v → Val P ρ ok W (execOp a.eval o) r := by
  intro v e hu hrun hR; refine Val.here (v := v) ?_ hR; simp only [execOp, ho, Sem.run_bind, BF hu _ _ _ _ hrun, Result.andThen_ok, Sem.run_pure]
 unfold J3 at h
 split at h
 all_goals first
  | exact h.elim
  | skip
 ·rename_i e sz zr k l kj j hti exo elo ehi emx; have hu := TI.under (TT.fF htt hti); dsimp only at hu; rw [exo] at hx; obtain ⟨z, ez, hz⟩ := opt elo; have hz' : z = .int kj j := hz; subst hz'
  split at h
  ·rename_i ei hei
   cases hb : Nat.beq ei.size 1 with
   | false => rw [hb] at h; exact h.elim
   | true =>
    rw [hb] at h; obtain ⟨⟨h0, h1⟩, rfl⟩ := h; obtain ⟨u, hrun, hV⟩ := MK (P := P) (d := Kd.int k) rfl hu (TT.fF htt hei) (Nat.eq_of_beq_eq_true hb) (kl := kj) h0 h1 hx; exact fin hu (by rw [ez, opn ehi, opn emx]; exact hrun) hV
  ·exact h.elim
 ·rename_i e sz zr l kj j hti exo elo ehi emx; have hu := TI.under (TT.fF htt hti); dsimp only at hu; rw [exo] at hx; obtain ⟨z, ez, hz⟩ := opt elo; have hz' : z = .int kj j := hz; subst hz'
  split at h
  ·rename_i ei hei
   cases hb : Nat.beq ei.size 1 with
   | false => rw [hb] at h; exact h.elim
   | true =>
    rw [hb] at h; obtain ⟨⟨h0, h1⟩, rfl⟩ := h; obtain ⟨u, hrun, hV⟩ := MK (P := P) (d := Kd.bool) rfl hu (TT.fF htt hei) (Nat.eq_of_beq_eq_true hb) (kl := kj) h0 h1 hx; exact fin hu (by rw [ez, opn ehi, opn emx]; exact hrun) hV
  ·exact h.elim
 ·rename_i e sz zr k l kj j hti exo elo ehi emx; have hu := TI.under (TT.fF htt hti); dsimp only at hu; rw [exo] at hx; obtain ⟨z, ez, hz⟩ := opt ehi; have hz' : z = .int kj j := hz; subst hz'
  split at h
  ·rename_i ei hei
   cases hb : Nat.beq ei.size 1 with
   | false => rw [hb] at h; exact h.elim
   | true =>
    rw [hb] at h; obtain ⟨⟨h0, h1⟩, rfl⟩ := h; obtain ⟨u, hrun, hV⟩ := Hd (P := P) (d := Kd.int k) hu (TT.fF htt hei) (kl := kj) h0 h1 hx; exact fin hu (by rw [ez, opn elo, opn emx]; exact hrun) hV
  ·exact h.elim
 ·rename_i e sz zr l kj j hti exo elo ehi emx; have hu := TI.under (TT.fF htt hti); dsimp only at hu; rw [exo] at hx; obtain ⟨z, ez, hz⟩ := opt ehi; have hz' : z = .int kj j := hz; subst hz'
  split at h
  ·rename_i ei hei
   cases hb : Nat.beq ei.size 1 with
   | false => rw [hb] at h; exact h.elim
   | true =>
    rw [hb] at h; obtain ⟨⟨h0, h1⟩, rfl⟩ := h; obtain ⟨u, hrun, hV⟩ := Hd (P := P) (d := Kd.bool) hu (TT.fF htt hei) (kl := kj) h0 h1 hx; exact fin hu (by rw [ez, opn elo, opn emx]; exact hrun) hV
  ·exact h.elim
end
end Go.Proofs.Ytkgeihbcikiedaa.A
set_option linter.unusedVariables false
set_option linter.unusedSimpArgs false
set_option linter.constructorNameAsVariable false
namespace Go.Proofs.Ytkgeihbcikiedaa.A
open Go.RowKit Go.Proofs.YtkgeihbcikiedaaW.PrintWords Go.Proofs.YtkgeihbcikiedaaW.PrintMore
def AV.ae : AV → Option AE
 | .a x => some (.a x)
 | .g xs => some (.g xs)
 | _ => none
def AE.av : AE → AV
 | .a x => .a x
 | .g xs => .g xs
def He (sl : Sl) : List Operand → Option (List AE)
 | [] => some []
 | x :: r => match (ev sl x).ae, He sl r with
  | some e, some es => some (e :: es)
  | _, _ => none
def wP (sl : Sl) (fn : Fn) (first cap : List Operand) : AR :=
 match fn, cap, He sl first with
 | .func f, [], some es => .val (.c f es)
 | _, _, _ => .no
def aop (tt : TT) (bx : List Bx) (sl : Sl) (o : Oper) : AR :=
 match o.op with
 | .move x => .val (cast tt o.type (ev sl x))
 | .assign x => .val (cast tt o.type (ev sl x))
 | .load t x => vB tt bx t (ev sl x)
 | .fieldAddr s x n => tu tt s (ev sl x) n
 | .field s x n => JY tt s (ev sl x) n
 | .extract x n => Al (ev sl x) n
 | .unOp op _ x => aUn op (ev sl x)
 | .convert s d x => QZ tt s d (ev sl x)
 | .binOp op t x y _ => ZX tt op t (ev sl x) (ev sl y)
 | .build t ps => JZ tt t (lw sl ps.toList)
 | .buildSlice t len ps => rf tt t len (lw sl ps.toList)
 | .indexAddr t x i => tC tt t (ev sl x) (ev sl i)
 | .index t x i => J2 tt t (ev sl x) (ev sl i)
 | .slice t x lo hi mx => J3 tt t (ev sl x) (lo.map (ev sl)) (hi.map (ev sl)) (mx.map (ev sl))
 | .makeFunc fn first cap => wP sl fn first.toList cap.toList
 | .call ⟨.builtin b, xs, ts⟩ => Au tt b ts.toList (evs sl xs.toList)
 | _ => .no
def AA.np : AA → Bool
 | .p _ _ => false
 | _ => true
def npL : List AA → Bool
 | [] => true
 | x :: r => x.np && npL r
def AE.np : AE → Bool
 | .a x => x.np
 | .g xs => npL xs
def npE : List AE → Bool
 | [] => true
 | x :: r => x.np && npE r
def AV.np : AV → Bool
 | .a x => x.np
 | .g xs => npL xs
 | .t es => npE es
 | .c _ es => npE es
 | .u => true
 | .z => true
def npV : List AV → Bool
 | [] => true
 | x :: r => x.np && npV r
section
variable {ρ ρ' : List Nat} {ok : Nat → Prop} {W : World}
theorem AA.J4 {x : AA} (h : x.np = true) {v : Value} (hx : x.R ρ ok W v) : x.R ρ' ok W v := by
 cases x <;> first | exact hx | simp [AA.np] at h
theorem Q6 : ∀ {xs : List AA} {vs : List Value}, npL xs = true → Rs ρ ok W xs vs → Rs ρ' ok W xs vs
 | [], [], _, _ => trivial
 | _ :: _, _ :: _, h, hr => by simp only [npL, Bool.and_eq_true] at h; exact ⟨AA.J4 h.1 hr.1, Q6 h.2 hr.2⟩
 | [], _ :: _, _, h => h.elim
 | _ :: _, [], _, h => h.elim
theorem AE.J4 {x : AE} (h : x.np = true) {v : Value} (hx : x.R ρ ok W v) : x.R ρ' ok W v := by
 cases x with
 | a x => exact AA.J4 (x := x) h hx
 | g xs => obtain ⟨arr, hv, hr⟩ := hx; exact ⟨arr, hv, Q6 h hr⟩
theorem ML : ∀ {xs : List AE} {vs : List Value}, npE xs = true → REs ρ ok W xs vs → REs ρ' ok W xs vs
 | [], [], _, _ => trivial
 | _ :: _, _ :: _, h, hr => by simp only [npE, Bool.and_eq_true] at h; exact ⟨AE.J4 h.1 hr.1, ML h.2 hr.2⟩
 | [], _ :: _, _, h => h.elim
 | _ :: _, [], _, h => h.elim
theorem AV.J4 {x : AV} (h : x.np = true) {v : Value} (hx : x.R ρ ok W v) : x.R ρ' ok W v := by
 cases x with
 | a x => exact AA.J4 (x := x) h hx
 | g xs => obtain ⟨arr, hv, hr⟩ := hx; exact ⟨arr, hv, Q6 h hr⟩
 | t es => obtain ⟨arr, hv, hr⟩ := hx; exact ⟨arr, hv, ML h hr⟩
 | c f es => obtain ⟨arr, hv, hr⟩ := hx; exact ⟨arr, hv, ML h hr⟩
 | u => exact hx
 | z => trivial
theorem Xm : ∀ {xs : List AV} {vs : List Value}, npV xs = true → RVs ρ ok W xs vs → RVs ρ' ok W xs vs
 | [], [], _, _ => trivial
 | _ :: _, _ :: _, h, hr => by simp only [npV, Bool.and_eq_true] at h; exact ⟨AV.J4 h.1 hr.1, Xm h.2 hr.2⟩
 | [], _ :: _, _, h => h.elim
 | _ :: _, [], _, h => h.elim
theorem Q7 {sl : Sl} {a : Act} (h : RSl ρ ok W sl a.tmps) : ∀ {xs : List Operand} {es : List AE}, He sl xs = some es → REs ρ ok W es (xs.map a.eval)
 | [], es, e => by cases e; trivial
 | x :: r, es, e => by
  unfold He at e
  split at e
  ·rename_i e1 es1 h1 h2; cases e; refine ⟨?_, Q7 h h2⟩; have hx := lu h x; unfold AV.ae at h1
   split at h1
   ·cases h1; rename_i e2; rw [e2] at hx; exact hx
   ·cases h1; rename_i e2; rw [e2] at hx; exact hx
   ·cases h1
  ·cases e
end
def Snd (P : Program) (f : FuncId) (args : List AV) (r : AV) : Prop :=
 (∃ fn, P.funcs[f]? = some fn ∧ (fn.name == "runtime.NumGoroutine") = false ∧ fn.body.isSome = true) ∧
 ∀ (w : World) (Pk : Nat → Prop) (vs : List Value), RVs [] Pk w args vs →
  Calls P f vs.toArray w fun e w' => ∃ v, e = .returned v ∧ r.R [] (fun k => Pk k ∨ w.heap.size ≤ k) w' v ∧ Below w.heap.size w w'
def AV.fn : AV → Option (FuncId × List AE)
 | .a (.f f) => some (f, [])
 | .c f es => some (f, es)
 | _ => none
def Q8 (tt : TT) : List Nat → List AV → List AV
 | t :: ts, x :: xs => cast tt t x :: Q8 tt ts xs
 | _, xs => xs
def avs : List AE → List AV
 | [] => []
 | e :: r => e.av :: avs r
def si (tt : TT) (sl : Sl) (first : List AE) (xs : List Operand) (ts : List Nat) : List AV := avs first ++ Q8 tt ts (evs sl xs)
def iT (P : Program) (tt : TT) (o : Oper) (sl : Sl) (bx : List Bx) (x : AV) : Prop :=
 match o.op with
 | .pick c p q => ∃ b, ev sl c = .a (.b b) ∧ x = cast tt o.type (bif b then ev sl p else ev sl q)
 | .call ⟨.value f, xs, ts⟩ => ∃ fid first, (ev sl f).fn = some (fid, first) ∧ npV (si tt sl first xs.toList ts.toList) = true ∧ Snd P fid (si tt sl first xs.toList ts.toList) x
 | _ => (aop tt bx sl o).ok x
section
variable {P : Program} {tt : TT} {ρ : List Nat} {ok : Nat → Prop} {W : World}
theorem MM : ∀ {ts : List Nat} {xs : List AV} {vs : List Value}, RVs ρ ok W xs vs → RVs ρ ok W (Q8 tt ts xs) vs
 | t :: ts, x :: xs, v :: vs, h => ⟨tq tt t h.1, MM h.2⟩
 | [], _, _, h => h
 | _ :: _, [], _, h => h
 | _ :: _, _ :: _, [], h => h.elim
theorem Q9 : ∀ {es : List AE} {vs : List Value}, REs ρ ok W es vs → RVs ρ ok W (avs es) vs
 | [], [], _ => trivial
 | .a _ :: _, _ :: _, h => ⟨h.1, Q9 h.2⟩
 | .g _ :: _, _ :: _, h => ⟨h.1, Q9 h.2⟩
 | [], _ :: _, h => h.elim
 | _ :: _, [], h => h.elim
theorem Z4 (htt : tt.okB P = true) {w0 : World} {Pk : Nat → Prop} {bx : List Bx} (hst : St w0 Pk ρ bx W) {sl : Sl} {a : Act} (hs : RSl ρ (okS Pk w0.heap.size ρ) W sl a.tmps) {o : Oper} {x : AV} (h : (aop tt bx sl o).ok x) :
 Val P ρ (okS Pk w0.heap.size ρ) W (execOp a.eval o) x := by
 unfold aop at h
 split at h
 ·rename_i y ho; cases h; exact Val.here (v := a.eval y) (by simp [execOp, ho]) (tq tt _ (lu hs y))
 ·rename_i y ho; cases h; exact Val.here (v := a.eval y) (by simp [execOp, ho]) (tq tt _ (lu hs y))
 ·rename_i t y ho; exact Q3 htt hst h y o ho (lu hs y)
 ·rename_i s y n ho; exact BC htt h y o ho (lu hs y)
 ·rename_i s y n ho; exact OB htt h y o ho (lu hs y)
 ·rename_i y n ho; exact G7 h y o ho (lu hs y)
 ·rename_i op t y ho; exact ZY h t y o ho (lu hs y)
 ·rename_i s d y ho; exact Q0 htt h y o ho (lu hs y)
 ·rename_i op t y z t' ho; exact Vy htt h t' y z o ho (lu hs y) (lu hs z)
 ·rename_i t ps ho; exact OC htt h o ho hs
 ·rename_i t len ps ho; exact Av htt ⟨.inr hst.bel.size, fun hm => Nat.lt_irrefl _ (hst.lt hm)⟩ h o ho hs
 ·rename_i t y i ho; exact BD htt h y i o ho (lu hs y) (lu hs i)
 ·rename_i t y i ho; exact OD htt h y i o ho (lu hs y) (lu hs i)
 ·rename_i t y lo hi mx ho; exact OE htt hs y h o ho
 ·rename_i fn first cap ho; unfold wP at h
  split at h
  ·rename_i f es e1 e2; cases h
   have hcap : cap = #[] := by apply Array.ext'; simpa using e1
   subst hcap; refine Val.here (v := .func (.func f) (first.map a.eval) #[]) (by simp [execOp, ho, Instr.makeFunc]) ⟨_, rfl, ?_⟩; rw [Array.toList_map]; exact Q7 hs e2
  ·exact h.elim
 ·rename_i b xs ts ho; exact G8 htt h o ho hs
 ·exact h.elim
theorem Ra {a : Act} {o : Oper} {f : Operand} {xs : Array Operand} {ts : Array TypeId} (ho : o.op = .call ⟨.value f, xs, ts⟩) {fid : FuncId} {arr : Array Value} (hf : a.eval f = .func (.func fid) arr #[])
 {fn : Func} (h1 : P.funcs[fid]? = some fn) (h2 : (fn.name == "runtime.NumGoroutine") = false) (h3 : fn.body.isSome = true) :
 (execOp a.eval o).run P W = .ok (.enter fid (arr ++ xs.map a.eval)) W := by
 have h3' : fn.body.isNone = false := by cases hb : fn.body <;> simp_all
 unfold execOp; simp only [ho, resolve, hf, Deferred.ofValue, Sem.run_bind, Sem.run_pure, Result.andThen_ok, invoke, callFunc, run_program, h1, h2, h3', Array.append_empty]
 simp
theorem iT.sound (htt : tt.okB P = true) {w0 : World} {Pk : Nat → Prop} {bx : List Bx} (hst : St w0 Pk ρ bx W) {sl : Sl} {a : Act} (hs : RSl ρ (okS Pk w0.heap.size ρ) W sl a.tmps) {o : Oper} {x : AV} (h : iT P tt o sl bx x)
 {next : Act → World → Prop} {Q : Exit → Act → World → Prop} (hn : ∀ v W1, Below W.heap.size W W1 → x.R ρ (okS Pk w0.heap.size ρ) W1 v → next (a.put o.dst v) W1) : o.wp P a W next Q := by
 unfold iT at h
 split at h
 ·rename_i c p q ho; obtain ⟨b, hb, rfl⟩ := h; have hc := lu hs c; rw [hb] at hc; have hc' : a.eval c = .bool b := hc
  have hrun : (execOp a.eval o).run P W = .ok (.value (bif b then a.eval p else a.eval q)) W := by
   cases b <;> simp [execOp, ho, hc', asBool]
  unfold Oper.wp; rw [hrun]; refine hn _ W (Below.refl _ _) (tq tt _ ?_); cases b
  ·exact lu hs q
  ·exact lu hs p
 ·rename_i f xs ts ho; obtain ⟨fid, first, hf, hnp, ⟨fn, h1, h2, h3⟩, hsnd⟩ := h; have hfR := lu hs f
  obtain ⟨arr, hfv, harr⟩ : ∃ arr, a.eval f = .func (.func fid) arr #[] ∧ REs ρ (okS Pk w0.heap.size ρ) W first arr.toList := by
   unfold AV.fn at hf
   split at hf
   ·cases hf; rename_i e; rw [e] at hfR; exact ⟨#[], hfR, trivial⟩
   ·cases hf; rename_i e; rw [e] at hfR; exact hfR
   ·cases hf
  have hargs : RVs ρ (okS Pk w0.heap.size ρ) W (si tt sl first xs.toList ts.toList) (arr.toList ++ xs.toList.map a.eval) := RVs.append (Q9 harr) (MM (Q4 hs xs.toList)); have hc := hsnd W (okS Pk w0.heap.size ρ) _ (Xm hnp hargs)
  have adD : (arr.toList ++ xs.toList.map a.eval).toArray = arr ++ xs.map a.eval := by
   apply Array.ext'; simp
  rw [adD] at hc; unfold Oper.wp; rw [Ra ho hfv h1 h2 h3, Oper.upon_enter]; refine Calls.mono hc ?_; rintro e w' ⟨v, rfl, hr, hb⟩; refine hn v w' hb (hr.move (fun _ _ _ => rfl) (fun k hk _ => ?_) (fun j g hj => by simp at hj))
  rcases hk with hk | hk
  ·exact hk
  ·exact ⟨.inr (Nat.le_trans hst.bel.size hk), fun hm => by have := hst.lt hm; omega⟩
 ·obtain ⟨v, W1, hrun, hb, hr⟩ := Z4 htt hst hs h; unfold Oper.wp; rw [hrun]; exact hn v W1 hb hr
end
end Go.Proofs.Ytkgeihbcikiedaa.A
set_option linter.unusedVariables false
set_option linter.unusedSimpArgs false
set_option linter.constructorNameAsVariable false
namespace Go.Proofs.Ytkgeihbcikiedaa.A
open Go.RowKit Go.Proofs.YtkgeihbcikiedaaW.PrintWords Go.Proofs.YtkgeihbcikiedaaW.PrintMore
inductive br (b : Bool) (x y : Prop) : Prop
 | mk (t : b = true → x) (f : b = false → y)
theorem iU {b : Bool} {x y : Prop} (h : b = true) (hx : x) : br b x y := ⟨fun _ => hx, fun e => (nomatch h.symm.trans e)⟩
theorem fJ {b : Bool} {x y : Prop} (h : b = false) (hy : y) : br b x y := ⟨fun e => (nomatch h.symm.trans e), fun _ => hy⟩
theorem dO {x y : Prop} (hx : x) : br true x y := iU rfl hx
theorem dP {x y : Prop} (hy : y) : br false x y := fJ rfl hy
theorem br.t {b : Bool} {x y : Prop} (h : br b x y) (e : b = true) : x := by obtain ⟨t, _⟩ := h; exact t e
theorem br.f {b : Bool} {x y : Prop} (h : br b x y) (e : b = false) : y := by obtain ⟨_, f⟩ := h; exact f e
def fN (m : Nat) (K : Nat → Prop) : Prop := Nat.rec (K 0) (fun k _ => K (Nat.succ k)) m
theorem adE (m : Nat) (K : Nat → Prop) : fN m K = K m := by cases m <;> rfl
def Aw : List Bx → Nat → Nat
 | [], k => k
 | _ :: r, k => Aw r (Nat.succ k)
theorem rQ : ∀ (bx : List Bx) (k : Nat), Aw bx k = bx.length + k
 | [], k => by simp [Aw]
 | _ :: r, k => by rw [Aw, rQ r]; simp; omega
def fAA (x : AA) (K : AA → Prop) : Prop := match x with
 | .b x => K (.b x)
 | .i k x => K (.i k x)
 | .v k l => K (.v k l)
 | .w l => K (.w l)
 | .nil => K .nil
 | .p j o => fN j fun j => fN o fun o => K (.p j o)
 | .q k x => K (.q k x)
 | .f f => K (.f f)
 | .ds l => K (.ds l)
 | .de x => K (.de x)
 | .ob x => K (.ob x)
 | .rs l => K (.rs l)
 | .re x => K (.re x)
def fL : List AA → (List AA → Prop) → Prop
 | [], K => K []
 | x :: xs, K => fAA x fun x => fL xs fun xs => K (x :: xs)
def fAE (x : AE) (K : AE → Prop) : Prop := match x with
 | .a x => fAA x fun x => K (.a x)
 | .g xs => fL xs fun xs => K (.g xs)
def fEs : List AE → (List AE → Prop) → Prop
 | [], K => K []
 | x :: xs, K => fAE x fun x => fEs xs fun xs => K (x :: xs)
def fAV (x : AV) (K : AV → Prop) : Prop := match x with
 | .a x => fAA x fun x => K (.a x)
 | .g xs => fL xs fun xs => K (.g xs)
 | .t es => fEs es fun es => K (.t es)
 | .c f es => fEs es fun es => K (.c f es)
 | .u => K .u
 | .z => K .z
def fVs : List AV → (List AV → Prop) → Prop
 | [], K => K []
 | x :: xs, K => fAV x fun x => fVs xs fun xs => K (x :: xs)
def fBs : List Bx → (List Bx → Prop) → Prop
 | [], K => K []
 | ⟨cs, t⟩ :: xs, K => fL cs fun cs => fBs xs fun xs => K (⟨cs, t⟩ :: xs)
theorem J5 (x : AA) (K : AA → Prop) : fAA x K = K x := by cases x <;> simp only [fAA, adE]
theorem MN : ∀ (xs : List AA) (K : List AA → Prop), fL xs K = K xs
 | [], _ => rfl
 | x :: xs, K => by rw [fL, J5, MN xs]
theorem Z5 (x : AE) (K : AE → Prop) : fAE x K = K x := by cases x <;> simp only [fAE, J5, MN]
theorem Rb : ∀ (xs : List AE) (K : List AE → Prop), fEs xs K = K xs
 | [], _ => rfl
 | x :: xs, K => by rw [fEs, Z5, Rb xs]
theorem J6 (x : AV) (K : AV → Prop) : fAV x K = K x := by cases x <;> simp only [fAV, J5, MN, Rb]
theorem J7 : ∀ (xs : List AV) (K : List AV → Prop), fVs xs K = K xs
 | [], _ => rfl
 | x :: xs, K => by rw [fVs, J6, J7 xs]
theorem J8 : ∀ (xs : List Bx) (K : List Bx → Prop), fBs xs K = K xs
 | [], _ => rfl
 | x :: xs, K => by rw [fBs, MN, J8 xs]
def AR.gen (r : AR) (K : AV → Prop) : Prop := match r with
 | .no => False
 | .val x => K x
 | .cond c x => c ∧ K x
theorem AR.Z6 {r : AR} {K : AV → Prop} (h : r.gen K) : ∃ x, r.ok x ∧ K x := by
 cases r with
 | no => exact h.elim
 | val x => exact ⟨x, rfl, h⟩
 | cond c x => exact ⟨x, ⟨h.1, rfl⟩, h.2⟩
def kv (P : Program) (tt : TT) (o : Oper) (sl : Sl) (bx : List Bx) (K : AV → List Bx → Prop) : Prop :=
 match o.op with
 | .pick c p q => match ev sl c with
  | .a (.b b) => br b (K (cast tt o.type (ev sl p)) bx) (K (cast tt o.type (ev sl q)) bx)
  | _ => False
 | .call ⟨.value f, xs, ts⟩ => match (ev sl f).fn with
  | some (fid, first) => fVs (si tt sl first xs.toList ts.toList) fun args => bif npV args then (∃ r, Snd P fid args r ∧ K r bx) else False
  | none => False
 | .box t x => match (cast tt t (ev sl x)).cs with
  | some cs => K (.a (.p (Aw bx 0) 0)) (bx ++ [⟨cs, t⟩])
  | none => False
 | .alloc t => match tt.at t with
  | some ti => K (.a (.p (Aw bx 0) 0)) (bx ++ [⟨ti.zero, t⟩])
  | none => False
 | .store t x y => match ev sl x, tt.at t with
  | .a (.p j off), some ti => match bx[j]?, (cast tt t (ev sl y)).cs with
   | some b, some cs => bif Nat.beq cs.length ti.size && Nat.ble (off + cs.length) b.cells.length then K .u (bx.set j ⟨pJ b.cells off cs, b.ty⟩) else False
   | _, _ => False
  | _, _ => False
 | _ => (aop tt bx sl o).gen fun x => K x bx
inductive AG where
 | yes
 | skip
 | test (b want : Bool)
 | no
def Hg (ops : List Oper) (j : Nat) : Option Nat := match ops[j]? with
 | some o => o.dst
 | none => none
def lN (ops : List Oper) (sl : Sl) (g : Option (Nat × Bool)) : AG :=
 match g with
 | none => .yes
 | some (j, want) => match Hg ops j with
  | some d => (match sl d with
   | .a (.b b) => .test b want
   | .u => .skip
   | _ => .no)
  | none => .no
def upd (sl : Sl) (d : Nat) (x : AV) : Sl := fun t => bif Nat.beq t d then x else sl t
def rq (sl : Sl) (dst : Option Nat) (x : AV) : Sl := match dst with
 | some d => upd sl d x
 | none => sl
def sj (n : Nat) (sl : Sl) (dst : Option Nat) (x : AV) (K : Sl → Prop) : Prop := match dst with
 | some d => bif Nat.blt d n then K (upd sl d x) else False
 | none => K sl
def nV (n : Nat) (dst : Option Nat) : Prop := ∀ d, dst = some d → d < n
theorem vD {n : Nat} {sl : Sl} {dst : Option Nat} {x : AV} {K : Sl → Prop} (h : sj n sl dst x K) : nV n dst ∧ K (rq sl dst x) := by
 unfold sj at h
 cases dst with
 | none => exact ⟨fun d e => (nomatch e), h⟩
 | some d =>
  dsimp only at h
  cases hb : Nat.blt d n with
  | false => rw [hb] at h; exact h.elim
  | true => rw [hb] at h; exact ⟨fun d' e => by cases e; exact Nat.le_of_ble_eq_true hb, h⟩
def AG.gen (g : AG) (go skip : Prop) : Prop := match g with
 | .yes => go
 | .skip => skip
 | .test b want => bif want then br b go skip else br b skip go
 | .no => False
def jZ (P : Program) (tt : TT) (n : Nat) (ops : List Oper) (K : Sl → List Bx → Prop) (l : List Oper) : Sl → List Bx → Prop :=
 List.rec (motive := fun _ => Sl → List Bx → Prop) (fun sl bx => K sl bx)
  (fun o _ ih sl bx => (lN ops sl o.guard).gen (kv P tt o sl bx fun x bx' => fAV x fun x => fBs bx' fun bx' => sj n sl o.dst x fun sl' => ih sl' bx') (sj n sl o.dst .u fun sl' => ih sl' bx)) l
theorem xq (P : Program) (tt : TT) (n : Nat) (ops : List Oper) (K : Sl → List Bx → Prop) (o : Oper) (rest : List Oper) (sl : Sl) (bx : List Bx) : jZ P tt n ops K (o :: rest) sl bx =
 (lN ops sl o.guard).gen (kv P tt o sl bx fun x bx' => fAV x fun x => fBs bx' fun bx' => sj n sl o.dst x fun sl' => jZ P tt n ops K rest sl' bx') (sj n sl o.dst .u fun sl' => jZ P tt n ops K rest sl' bx) := rfl
section
variable {P : Program} {tt : TT} {w0 W : World} {Pk : Nat → Prop} {ρ : List Nat} {bx : List Bx} {sl : Sl} {a : Act} {n : Nat}
theorem Ay {ok : Nat → Prop} (h : RSl ρ ok W sl a.tmps) (dst : Option Nat) (hd : nV a.tmps.size dst) {x : AV} {v : Value} (hx : x.R ρ ok W v) : RSl ρ ok W (rq sl dst x) (a.put dst v).tmps := by
 cases dst with
 | none => exact h
 | some d =>
  have hlt := hd d rfl; intro t; show (bif Nat.beq t d then x else sl t).R ρ ok W ((a.tmps.setIfInBounds d v).getD t undef)
  cases hb : Nat.beq t d with
  | true =>
   have := Nat.eq_of_beq_eq_true hb; subst this; simp only [cond_true, Array.getD_eq_getD_getElem?, Array.getElem?_setIfInBounds, hlt, if_true, Option.getD_some]; exact hx
  | false =>
   have hne : ¬ d = t := fun e => by rw [e] at hb; simp at hb
   simp only [cond_false, Array.getD_eq_getD_getElem?, Array.getElem?_setIfInBounds, hne, if_false]; have := h t
   rwa [Array.getD_eq_getD_getElem?] at this
theorem tF (dst : Option Nat) (v : Value) : (a.put dst v).tmps.size = a.tmps.size := by cases dst <;> simp [Act.put]
theorem tH (dst : Option Nat) (v : Value) : (a.put dst v).defers = a.defers := by cases dst <;> rfl
theorem wQ (ops : List Oper) {ok : Nat → Prop} (hs : RSl ρ ok W sl a.tmps) (o : Oper) :
 match lN ops sl o.guard with
 | .yes => Region.wanted o (yielded ops.toArray a.tmps) = true
 | .skip => Region.wanted o (yielded ops.toArray a.tmps) = false
 | .test b want => Region.wanted o (yielded ops.toArray a.tmps) = (b == want)
 | .no => True := by
 unfold lN Region.wanted
 cases hg : o.guard with
 | none => rfl
 | some g =>
  obtain ⟨j, want⟩ := g; dsimp only
  cases hd : Hg ops j with
  | none => trivial
  | some d =>
   dsimp only
   have hbind : ((ops.toArray[j]?).bind (·.dst)) = some d := by
    unfold Hg at hd
    split at hd
    ·rename_i o' ho'; simp [ho', hd]
    ·cases hd
   have hy : yielded ops.toArray a.tmps j = match a.tmps[d]? with | some (.bool b) => some b | _ => none := by
    unfold yielded; rw [hbind]; rfl
   have hr := hs d
   cases hv : sl d with
   | a x =>
    cases x with
    | b b =>
     rw [hv] at hr; have hr' : a.tmps.getD d undef = .bool b := hr
     have : a.tmps[d]? = some (.bool b) := by
      rw [Array.getD_eq_getD_getElem?] at hr'
      cases he : a.tmps[d]? with
      | none => rw [he] at hr'; simp [undef] at hr'
      | some u => rw [he] at hr'; simp at hr'; subst hr'; rfl
     dsimp only; rw [hy, this]
     cases b <;> cases want <;> rfl
    | _ => trivial
   | u =>
    rw [hv] at hr; have hr' : a.tmps.getD d undef = undef := hr; dsimp only; rw [hy]; rw [Array.getD_eq_getD_getElem?] at hr'
    cases he : a.tmps[d]? with
    | none => rfl
    | some u =>
     rw [he] at hr'; simp at hr'; subst hr'; rfl
   | _ => trivial
theorem xu (W : World) : Below W.heap.size W { W with drawn := W.drawn + 1 } := ⟨rfl, rfl, rfl, Nat.le_refl _, fun _ _ => rfl⟩
theorem su (g : Nat) : ∀ (vs : List Value) (o : Nat) (w : World) (arr : Array Value) (t : TypeId), w.heap[g]? = some (.cells arr t (0, 0)) →
 (w.setCells g o vs).heap[g]? = some (.cells (pJ arr.toList o vs).toArray t (0, 0)) ∧ (∀ k, k ≠ g → (w.setCells g o vs).heap[k]? = w.heap[k]?) ∧ (w.setCells g o vs).heap.size = w.heap.size
 | [], o, w, arr, t, h => ⟨by simpa [World.setCells, pJ] using h, fun _ _ => rfl, rfl⟩
 | v :: vs, o, w, arr, t, h => by
  have h1 : (w.setCell ⟨g, o, none⟩ v).heap[g]? = some (.cells (arr.setIfInBounds o v) t (0, 0)) := jc h o v rfl; obtain ⟨i1, i2, i3⟩ := su g vs (o + 1) (w.setCell ⟨g, o, none⟩ v) _ t h1; refine ⟨?_, fun k hk => ?_, ?_⟩
  ·rw [World.setCells, i1, pJ]; simp
  ·rw [World.setCells, i2 k hk]; exact Below.heap_setCell w _ v k hk
  ·rw [World.setCells, i3]; simp [World.setCell]
theorem sw (g : Nat) : ∀ (vs : List Value) (o : Nat) (w : World), (w.setCells g o vs).os = w.os ∧ (w.setCells g o vs).tape = w.tape ∧ (w.setCells g o vs).output = w.output
 | [], _, _ => ⟨rfl, rfl, rfl⟩
 | v :: vs, o, w => by
  obtain ⟨h1, h2, h3⟩ := sw g vs (o + 1) (w.setCell ⟨g, o, none⟩ v); exact ⟨h1, h2, h3⟩
theorem OG {t : Nat} {ti : TI} (hti : ti.okB P t = true) {g off : Nat} {arr : Array Value} {ty : TypeId} (hg : W.heap[g]? = some (.cells arr ty (0, 0))) {v : Value} (hs : v.cells.size = ti.size) (hl : off + v.cells.size ≤ arr.size)
 (h1 : ∀ u ∈ v.cells.toList, u.oneCell' = true) : (Instr.storeAt t (.pointer (some ⟨g, off, none⟩)) v).run P W = .ok () (W.setCells g off v.cells.toList) := by
 have := run_storeCells_cells (P := P) g off v.cells.toList 0 W (fun j hj => by
  rw [cell_of_row W g _ arr ty (0, 0) hg]; simp only [Array.length_toList] at hj; simp; omega) (fun j hj => au hg _) h1
 simp only [Nat.add_zero] at this; have hsz := TI.j6 hti W; simp [Instr.storeAt, Instr.sureAddr, storeVar, hsz, hs, this]
theorem St.store (h : St w0 Pk ρ bx W) {j g off : Nat} {b : Bx} (hj : ρ[j]? = some g) (hb : bx[j]? = some b) {arr : Array Value} (ha : W.heap[g]? = some (.cells arr b.ty (0, 0)))
 (hr : Rs ρ (okS Pk w0.heap.size ρ) W b.cells arr.toList) {cs : List AA} {vs : List Value} (hc : Rs ρ (okS Pk w0.heap.size ρ) W cs vs) :
 St w0 Pk ρ (bx.set j ⟨pJ b.cells off cs, b.ty⟩) (W.setCells g off vs) ∧ (∀ {xs us}, RSl ρ (okS Pk w0.heap.size ρ) W xs us → RSl ρ (okS Pk w0.heap.size ρ) (W.setCells g off vs) xs us) := by
 obtain ⟨i1, i2, i3⟩ := su g vs off W arr b.ty ha; obtain ⟨r1, r2, r3⟩ := sw g vs off W; have hgm : g ∈ ρ := List.mem_of_getElem? hj
 have hm : ∀ k, okS Pk w0.heap.size ρ k → k < W.heap.size → (W.setCells g off vs).heap[k]? = W.heap[k]? := fun k hk _ => i2 k (ZV hgm hk)
 refine ⟨⟨⟨r1.trans h.bel.os, r2.trans h.bel.tape, r3.trans h.bel.output, by rw [i3]; exact h.bel.size, fun k hk => (i2 k (by have := h.ge g hgm; omega)).trans (h.bel.block k hk)⟩, by simp [h.len], h.nodup, h.ge, ?_⟩, fun hx => hx.move hm (fun _ hk _ => hk) (fun _ _ hg => hg)⟩; intro j' g' c hj' hc'
 by_cases e : j' = j
 ·subst e; rw [hj] at hj'; cases hj'; have hl : j' < bx.length := (List.getElem?_eq_some_iff.1 hb).1; rw [List.getElem?_set_self hl] at hc'; cases hc'; refine ⟨_, i1, ?_⟩
  exact ((hr.move hm (fun _ hk _ => hk) (fun _ _ hg => hg)) : Rs ρ _ (W.setCells g off vs) _ _) |> fun h2 => by
   simpa using Rs.pJ (hc.move hm (fun _ hk _ => hk) (fun _ _ hg => hg)) off h2
 ·rw [List.getElem?_set_ne (fun e' => e e'.symm)] at hc'; obtain ⟨arr', ha', hr'⟩ := h.box j' g' c hj' hc'
  have hne : g' ≠ g := fun e' => by
   subst e'; exact e ((List.getElem?_inj (List.getElem?_eq_some_iff.1 hj').1 h.nodup).1 (hj'.trans hj.symm))
  exact ⟨arr', (i2 g' hne).trans ha', hr'.move hm (fun _ hk _ => hk) (fun _ _ hg => hg)⟩
theorem Az {o : Oper} {K : AV → List Bx → Prop} (h : kv P tt o sl bx K) (h1 : ∀ t x, o.op ≠ .box t x) (h2 : ∀ t, o.op ≠ .alloc t) (h3 : ∀ t x y, o.op ≠ .store t x y) : ∃ x, iT P tt o sl bx x ∧ K x bx := by
 unfold kv at h
 split at h
 ·rename_i c p q ho
  split at h
  ·rename_i b hb; unfold iT; rw [ho]; dsimp only
   cases b with
   | true => exact ⟨_, ⟨true, hb, rfl⟩, br.t h rfl⟩
   | false => exact ⟨_, ⟨false, hb, rfl⟩, br.f h rfl⟩
  ·exact h.elim
 ·rename_i f xs ts ho
  split at h
  ·rename_i fid first hf; rw [J7] at h
   cases hnp : npV (si tt sl first xs.toList ts.toList) with
   | false => rw [hnp] at h; exact h.elim
   | true =>
    rw [hnp] at h; obtain ⟨r, hs, hk⟩ := h; unfold iT; rw [ho]; exact ⟨r, ⟨fid, first, hf, hnp, hs⟩, hk⟩
  ·exact h.elim
 ·rename_i t x ho; exact absurd ho (h1 t x)
 ·rename_i t ho; exact absurd ho (h2 t)
 ·rename_i t x y ho; exact absurd ho (h3 t x y)
 ·rename_i n1 n2 n3 n4 n5; obtain ⟨x, hx, hk⟩ := AR.Z6 h; refine ⟨x, ?_, hk⟩; unfold iT
  split
  ·rename_i c p q ho; exact absurd ho (n1 c p q)
  ·rename_i f xs ts ho; exact absurd ho (n2 f xs ts)
  ·exact hx
theorem xw (htt : tt.okB P = true) {o : Oper} {K : AV → List Bx → Prop} (h : kv P tt o sl bx K) (hrel : Rel w0 Pk n ρ sl bx a W)
 {next : Act → World → Prop} {Q : Exit → Act → World → Prop} (hn : ∀ x bx' ρ' v W1, K x bx' → (nV n o.dst → Rel w0 Pk n ρ' (rq sl o.dst x) bx' (a.put o.dst v) W1) → next (a.put o.dst v) W1) : o.wp P a W next Q := by
 by_cases e1 : ∃ t x, o.op = .box t x
 ·obtain ⟨t, x, ho⟩ := e1; unfold kv at h; rw [ho] at h; dsimp only at h
  split at h
  ·rename_i cs hcs; have hR := AV.ZZ hcs (tq tt t (lu hrel.sl x))
   have hrun : (execOp a.eval o).run P W = .ok (.value (.pointer (some ⟨W.heap.size, 0, none⟩))) (W.alloc (.cells (a.eval x).cells t (0, 0))) := by
    simp [execOp, ho, Instr.box, newVar, newRow]
   have hb := ai (Below.refl W.heap.size W) (.cells (a.eval x).cells t (0, 0)); have hst := hrel.st.new hb rfl (heap_alloc_new W _) hR; unfold Oper.wp; rw [hrun]
   refine hn _ _ (ρ ++ [W.heap.size]) _ _ h fun hd => ⟨hst, Ay (RSl.QW hrel.st hrel.sl hb rfl) _ (by rw [hrel.sz]; exact hd) ⟨_, ?_, rfl⟩, by rw [tH]; exact hrel.df, by rw [tF]; exact hrel.sz⟩
   rw [rQ, Nat.add_zero, ← hrel.st.len]; simp
  ·exact h.elim
 by_cases e2 : ∃ t, o.op = .alloc t
 ·obtain ⟨t, ho⟩ := e2; unfold kv at h; rw [ho] at h; dsimp only at h
  split at h
  ·rename_i ti hti; obtain ⟨z, hz, hzm⟩ := TI.yg (TT.fF htt hti) W
   have hrun : (execOp a.eval o).run P W = .ok (.value (.pointer (some ⟨W.heap.size, 0, none⟩))) (W.alloc (.cells z.cells t (0, 0))) := by
    simp [execOp, ho, Instr.alloc, hz, newVar, newRow]
   have hb := ai (Below.refl W.heap.size W) (.cells z.cells t (0, 0)); have hst := hrel.st.new hb rfl (heap_alloc_new W _) (oK hzm); unfold Oper.wp; rw [hrun]
   refine hn _ _ (ρ ++ [W.heap.size]) _ _ h fun hd => ⟨hst, Ay (RSl.QW hrel.st hrel.sl hb rfl) _ (by rw [hrel.sz]; exact hd) ⟨_, ?_, rfl⟩, by rw [tH]; exact hrel.df, by rw [tF]; exact hrel.sz⟩
   rw [rQ, Nat.add_zero, ← hrel.st.len]; simp
  ·exact h.elim
 by_cases e3 : ∃ t x y, o.op = .store t x y
 ·obtain ⟨t, x, y, ho⟩ := e3; unfold kv at h; rw [ho] at h; dsimp only at h
  split at h
  ·rename_i j off ti hx hti
   split at h
   ·rename_i b cs hb hcs
    cases hc : Nat.beq cs.length ti.size && Nat.ble (off + cs.length) b.cells.length with
    | false => rw [hc] at h; exact h.elim
    | true =>
     rw [hc] at h; simp only [Bool.and_eq_true] at hc; have l1 := Nat.eq_of_beq_eq_true hc.1; have l2 := Nat.le_of_ble_eq_true hc.2; have hxR := lu hrel.sl x; rw [hx] at hxR; obtain ⟨g, hg, hv⟩ := hxR; have hR := AV.ZZ hcs (tq tt t (lu hrel.sl y)); obtain ⟨arr, ha, hr⟩ := hrel.st.box j g b hg hb; have l3 := hR.length; have l4 := hr.length; simp only [Array.length_toList] at l3 l4
     have hrun : (execOp a.eval o).run P W = .ok .skip (W.setCells g off (a.eval y).cells.toList) := by
      have := OG (P := P) (TT.fF htt hti) ha (v := a.eval y) (off := off) (by omega) (by omega) (Rs.one hR); simp [execOp, ho, hv, this]
     obtain ⟨hst, hmove⟩ := hrel.st.store (off := off) hg hb ha hr hR; unfold Oper.wp; rw [hrun]
     exact hn _ _ ρ _ _ h fun hd => ⟨hst, Ay (hmove hrel.sl) _ (by rw [hrel.sz]; exact hd) rfl, by rw [tH]; exact hrel.df, by rw [tF]; exact hrel.sz⟩
   ·exact h.elim
  ·exact h.elim
 ·obtain ⟨x, hx, hk⟩ := Az h (fun t x ho => e1 ⟨t, x, ho⟩) (fun t ho => e2 ⟨t, ho⟩) (fun t x y ho => e3 ⟨t, x, y, ho⟩); refine iT.sound htt hrel.st hrel.sl hx (fun v W1 hb hR => ?_); have Xn := hrel.below hb
  exact hn x bx ρ v W1 hk fun hd => ⟨Xn.st, Ay Xn.sl _ (by rw [hrel.sz]; exact hd) hR, by rw [tH]; exact hrel.df, by rw [tF]; exact hrel.sz⟩
theorem pM (htt : tt.okB P = true) (ops : List Oper) {K : Sl → List Bx → Prop} {Q : Exit → Act → World → Prop} (hK : ∀ sl bx ρ a W, K sl bx → Rel w0 Pk n ρ sl bx a W → Q .normal a W) :
 ∀ (l : List Oper) {sl : Sl} {bx : List Bx} {ρ : List Nat} {a : Act} {W : World}, jZ P tt n ops K l sl bx → Rel w0 Pk n ρ sl bx a W → wpList P ops.toArray Q l a W
 | [], sl, bx, ρ, a, W, h, hrel => hK _ _ _ _ _ h hrel
 | o :: rest, sl, bx, ρ, a, W, h, hrel => by
  rw [xq] at h; simp only [J6, J8] at h; have hw := wQ ops hrel.sl o
  have goCase : Region.wanted o (yielded ops.toArray a.tmps) = true → (kv P tt o sl bx fun x bx' => sj n sl o.dst x fun sl' => jZ P tt n ops K rest sl' bx') → wpList P ops.toArray Q (o :: rest) a W := by
   intro hw hs; unfold wpList; rw [if_pos hw]
   exact .inl (xw htt hs hrel (fun x bx' ρ' v W1 hk hrel' => by
    obtain ⟨hd, hk'⟩ := vD hk
    exact pM htt ops hK rest hk' (hrel' hd)))
  have skipCase : Region.wanted o (yielded ops.toArray a.tmps) = false → (sj n sl o.dst .u fun sl' => jZ P tt n ops K rest sl' bx) → wpList P ops.toArray Q (o :: rest) a W := by
   intro hw hs; obtain ⟨hd, hk'⟩ := vD hs; unfold wpList; rw [if_neg (by rw [hw]; simp)]; exact pM htt ops hK rest hk' ⟨hrel.st, Ay hrel.sl _ (by rw [hrel.sz]; exact hd) rfl, by rw [tH]; exact hrel.df, by rw [tF]; exact hrel.sz⟩
  cases hg : lN ops sl o.guard with
  | yes => rw [hg] at h hw; exact goCase hw h
  | skip => rw [hg] at h hw; exact skipCase hw h
  | test b want =>
   rw [hg] at h hw; dsimp only at hw; unfold AG.gen at h
   cases want <;> cases b <;> simp only [cond_true, cond_false] at h
   ·exact goCase hw (br.f h rfl)
   ·exact skipCase hw (br.t h rfl)
   ·exact skipCase hw (br.f h rfl)
   ·exact goCase hw (br.t h rfl)
  | no => rw [hg] at h; exact h.elim
def ql (tt : TT) (o : Oper) (sl : Sl) (bx : List Bx) (x : AV) (bx' : List Bx) : Prop :=
 match o.op with
 | .box t y => ∃ cs, (cast tt t (ev sl y)).cs = some cs ∧ x = .a (.p (Aw bx 0) 0) ∧ bx' = bx ++ [⟨cs, t⟩]
 | .alloc t => ∃ ti, tt.at t = some ti ∧ x = .a (.p (Aw bx 0) 0) ∧ bx' = bx ++ [⟨ti.zero, t⟩]
 | .store t p y => ∃ j off ti b cs, ev sl p = .a (.p j off) ∧ tt.at t = some ti ∧ bx[j]? = some b ∧ (cast tt t (ev sl y)).cs = some cs ∧ (Nat.beq cs.length ti.size && Nat.ble (off + cs.length) b.cells.length) = true ∧ x = .u ∧
  bx' = bx.set j ⟨pJ b.cells off cs, b.ty⟩
 | _ => False
def Step (P : Program) (tt : TT) (o : Oper) (sl : Sl) (bx : List Bx) (x : AV) (bx' : List Bx) : Prop := (iT P tt o sl bx x ∧ bx' = bx) ∨ ql tt o sl bx x bx'
theorem AR.Z7 {r : AR} {x : AV} (h : r.ok x) {K : AV → Prop} (hK : K x) : r.gen K := by
 cases r with
 | no => exact h.elim
 | val y => cases h; exact hK
 | cond c y => obtain ⟨h1, rfl⟩ := h; exact ⟨h1, hK⟩
theorem J9 {o : Oper} {K : AV → List Bx → Prop} (h : kv P tt o sl bx K) : ∃ x bx', Step P tt o sl bx x bx' ∧ K x bx' := by
 by_cases e1 : ∃ t x, o.op = .box t x
 ·obtain ⟨t, x, ho⟩ := e1; unfold kv at h; rw [ho] at h; dsimp only at h
  split at h
  ·rename_i cs hcs; exact ⟨_, _, .inr (by unfold ql; rw [ho]; exact ⟨cs, hcs, rfl, rfl⟩), h⟩
  ·exact h.elim
 by_cases e2 : ∃ t, o.op = .alloc t
 ·obtain ⟨t, ho⟩ := e2; unfold kv at h; rw [ho] at h; dsimp only at h
  split at h
  ·rename_i ti hti; exact ⟨_, _, .inr (by unfold ql; rw [ho]; exact ⟨ti, hti, rfl, rfl⟩), h⟩
  ·exact h.elim
 by_cases e3 : ∃ t x y, o.op = .store t x y
 ·obtain ⟨t, x, y, ho⟩ := e3; unfold kv at h; rw [ho] at h; dsimp only at h
  split at h
  ·rename_i j off ti hx hti
   split at h
   ·rename_i b cs hb hcs
    cases hc : Nat.beq cs.length ti.size && Nat.ble (off + cs.length) b.cells.length with
    | false => rw [hc] at h; exact h.elim
    | true =>
     rw [hc] at h; exact ⟨_, _, .inr (by unfold ql; rw [ho]; exact ⟨j, off, ti, b, cs, hx, hti, hb, hcs, hc, rfl, rfl⟩), h⟩
   ·exact h.elim
  ·exact h.elim
 ·obtain ⟨x, hx, hk⟩ := Az h (fun t x ho => e1 ⟨t, x, ho⟩) (fun t ho => e2 ⟨t, ho⟩) (fun t x y ho => e3 ⟨t, x, y, ho⟩); exact ⟨x, bx, .inl ⟨hx, rfl⟩, hk⟩
theorem Ka {o : Oper} {x : AV} {bx' : List Bx} (h : Step P tt o sl bx x bx') : kv P tt o sl bx fun y b => y = x ∧ b = bx' := by
 rcases h with ⟨h, rfl⟩ | h
 ·unfold iT at h
  split at h
  ·rename_i c p q ho; obtain ⟨b, hb, rfl⟩ := h; unfold kv; rw [ho]; dsimp only; rw [hb]; dsimp only; cases b
   ·exact dP ⟨rfl, rfl⟩
   ·exact dO ⟨rfl, rfl⟩
  ·rename_i f xs ts ho; obtain ⟨fid, first, hf, hnp, hs⟩ := h; unfold kv; rw [ho]; dsimp only; rw [hf]; dsimp only; rw [J7, hnp]; exact ⟨x, hs, rfl, rfl⟩
  ·rename_i n1 n2
   have key : kv P tt o sl bx' (fun y b => y = x ∧ b = bx') = (aop tt bx' sl o).gen fun y => y = x ∧ bx' = bx' := by
    unfold kv
    split
    ·rename_i c p q ho; exact absurd ho (n1 c p q)
    ·rename_i f xs ts ho; exact absurd ho (n2 f xs ts)
    ·rename_i t y ho; unfold aop at h; rw [ho] at h; exact h.elim
    ·rename_i t ho; unfold aop at h; rw [ho] at h; exact h.elim
    ·rename_i t y z ho; unfold aop at h; rw [ho] at h; exact h.elim
    ·rfl
   rw [key]; exact AR.Z7 h ⟨rfl, rfl⟩
 ·unfold ql at h
  split at h
  ·rename_i t y ho; obtain ⟨cs, hcs, rfl, rfl⟩ := h; unfold kv; rw [ho]; dsimp only; rw [hcs]; exact ⟨rfl, rfl⟩
  ·rename_i t ho; obtain ⟨ti, hti, rfl, rfl⟩ := h; unfold kv; rw [ho]; dsimp only; rw [hti]; exact ⟨rfl, rfl⟩
  ·rename_i t p y ho; obtain ⟨j, off, ti, b, cs, h1, h2, h3, h4, h5, rfl, rfl⟩ := h; unfold kv; rw [ho]; dsimp only; rw [h1, h2]; dsimp only; rw [h3, h4]; dsimp only; rw [h5]; exact ⟨rfl, rfl⟩
  ·exact h.elim
theorem Step.sound (htt : tt.okB P = true) {o : Oper} {x : AV} {bx' : List Bx} (h : Step P tt o sl bx x bx') (hrel : Rel w0 Pk n ρ sl bx a W)
 {next : Act → World → Prop} {Q : Exit → Act → World → Prop} (hn : ∀ ρ' v W1, (nV n o.dst → Rel w0 Pk n ρ' (rq sl o.dst x) bx' (a.put o.dst v) W1) → next (a.put o.dst v) W1) : o.wp P a W next Q :=
 xw htt (Ka h) hrel fun y b ρ' v W1 hk hr => by
  obtain ⟨rfl, rfl⟩ := hk; exact hn ρ' v W1 hr
end
end Go.Proofs.Ytkgeihbcikiedaa.A
set_option linter.unusedVariables false
set_option linter.unusedSimpArgs false
set_option linter.constructorNameAsVariable false
namespace Go.Proofs.Ytkgeihbcikiedaa.A
open Go.RowKit Go.Proofs.YtkgeihbcikiedaaW.PrintWords Go.Proofs.YtkgeihbcikiedaaW.PrintMore
section
variable {P : Program} {tt : TT} {bx : List Bx} {sl sl' : Sl}
theorem wR : ∀ {xs : List Operand}, (∀ x ∈ xs, ev sl x = ev sl' x) → evs sl xs = evs sl' xs
 | [], _ => rfl
 | x :: r, h => by rw [evs, evs, h x List.mem_cons_self, wR fun y hy => h y (List.mem_cons_of_mem _ hy)]
theorem AB : ∀ {xs : List Operand}, (∀ x ∈ xs, ev sl x = ev sl' x) → He sl xs = He sl' xs
 | [], _ => rfl
 | x :: r, h => by rw [He, He, h x List.mem_cons_self, AB fun y hy => h y (List.mem_cons_of_mem _ hy)]
theorem oq : ∀ {ps : List (Nat × Operand)}, (∀ x ∈ ps.map (·.2), ev sl x = ev sl' x) → lw sl ps = lw sl' ps
 | [], _ => rfl
 | (i, x) :: r, h => by rw [lw, lw, h x (by simp), oq fun y hy => h y (by rw [List.map_cons]; exact List.mem_cons_of_mem _ hy)]
theorem OH {o : Oper} (h : ∀ x ∈ o.op.operands.toList, ev sl x = ev sl' x) : aop tt bx sl o = aop tt bx sl' o := by
 unfold aop
 cases ho : o.op <;> rw [ho] at h
 all_goals try dsimp only
 all_goals try rfl
 case move x => rw [h x (by simp [Op.operands])]
 case assign x => rw [h x (by simp [Op.operands])]
 case load t x => rw [h x (by simp [Op.operands])]
 case fieldAddr s x n => rw [h x (by simp [Op.operands])]
 case field s x n => rw [h x (by simp [Op.operands])]
 case extract x n => rw [h x (by simp [Op.operands])]
 case unOp op t x => rw [h x (by simp [Op.operands])]
 case convert s d x => rw [h x (by simp [Op.operands])]
 case binOp op t x y t' => rw [h x (by simp [Op.operands]), h y (by simp [Op.operands])]
 case build t ps => rw [oq fun x hx => h x (by simpa [Op.operands] using hx)]
 case buildSlice t len ps => rw [oq fun x hx => h x (by simpa [Op.operands] using hx)]
 case indexAddr t x i => rw [h x (by simp [Op.operands]), h i (by simp [Op.operands])]
 case slice t x lo hi mx =>
  have ho : ∀ q : Option Operand, (∀ y, q = some y → y ∈ (Op.slice t x lo hi mx).operands.toList) → q.map (ev sl) = q.map (ev sl') := fun q hq => by
   cases q with
   | none => rfl
   | some y => simp only [Option.map_some]; rw [h y (hq y rfl)]
  rw [h x (by simp [Op.operands]), ho lo (fun y e => by subst e; simp [Op.operands]), ho hi (fun y e => by subst e; simp [Op.operands]), ho mx (fun y e => by subst e; simp [Op.operands])]
 case index t x i => rw [h x (by simp [Op.operands]), h i (by simp [Op.operands])]
 case makeFunc fn first cap =>
  unfold wP; rw [AB fun x hx => h x (by simp [Op.operands]; exact .inl (by simpa using hx))]
 case call c =>
  obtain ⟨callee, xs, ts⟩ := c
  cases callee with
  | builtin b => (try dsimp only); rw [wR fun x hx => h x (by simp [Op.operands, Call.operands]; simpa using hx)]
  | value f => rfl
  | invoke r m => rfl
theorem iT.congr {o : Oper} {x : AV} (h : ∀ y ∈ o.op.operands.toList, ev sl y = ev sl' y) (hs : iT P tt o sl bx x) : iT P tt o sl' bx x := by
 unfold iT at hs ⊢
 split at hs
 ·rename_i c p q ho; rw [ho] at h; rw [← h c (by simp [Op.operands]), ← h p (by simp [Op.operands]), ← h q (by simp [Op.operands])]; exact hs
 ·rename_i f xs ts ho; rw [ho] at h
  have e1 : si tt sl = si tt sl → ∀ first, si tt sl' first xs.toList ts.toList = si tt sl first xs.toList ts.toList := fun _ first => by
   unfold si; rw [wR fun y hy => (h y (by simp [Op.operands, Call.operands]; exact .inr (by simpa using hy))).symm]
  rw [← h f (by simp [Op.operands, Call.operands])]; obtain ⟨fid, first, k1, k2, k3⟩ := hs; exact ⟨fid, first, k1, by rw [e1 rfl]; exact k2, by rw [e1 rfl]; exact k3⟩
 ·rename_i n1 n2; have := OH (tt := tt) (bx := bx) h; rw [← this]; exact hs
end
def isE : Op → Bool
 | .box _ _ => true
 | .alloc _ => true
 | .store _ _ _ => true
 | _ => false
def isApp : Op → Bool
 | .box _ _ => true
 | .alloc _ => true
 | _ => false
def isLoad : Op → Bool
 | .load _ _ => true
 | _ => false
section
variable {P : Program} {tt : TT} {bx bx' : List Bx} {sl sl' : Sl}
theorem Rc {o : Oper} (h : isLoad o.op = false) (bx2 : List Bx) : aop tt bx sl o = aop tt bx2 sl o := by
 unfold aop
 cases ho : o.op <;> rw [ho] at h <;> first | rfl | (simp [isLoad] at h; done) | (rename_i c; obtain ⟨cal, xs, ts⟩ := c; cases cal <;> rfl)
theorem Kb {t : Nat} {x r : AV} (h : (vB tt bx t x).ok r) (more : List Bx) : (vB tt (bx ++ more) t x).ok r := by
 unfold vB at h ⊢
 split at h
 ·rename_i j off ti hti
  split at h
  ·rename_i b hb
   have hb2 : (bx ++ more)[j]? = some b := by rw [List.getElem?_append_left (List.getElem?_eq_some_iff.1 hb).1]; exact hb
   (try dsimp only)
   (try rw [hti])
   rw [hb2]; exact h
  ·exact h.elim
 ·rename_i k m ti hti
  (try dsimp only)
  (try rw [hti])
  exact h
 ·rename_i bb ti hti
  (try dsimp only)
  (try rw [hti])
  exact h
 ·rename_i xx ti hti
  (try dsimp only)
  (try rw [hti])
  exact h
 ·rename_i xx ti hti
  (try dsimp only)
  (try rw [hti])
  exact h
 ·exact h.elim
theorem iT.more {o : Oper} {x : AV} (h : iT P tt o sl bx x) (more : List Bx) : iT P tt o sl (bx ++ more) x := by
 by_cases hl : isLoad o.op = true
 ·cases ho : o.op <;> rw [ho] at hl <;> first | (simp [isLoad] at hl; done) | skip
  unfold iT at h ⊢; rw [ho] at h ⊢; dsimp only at h ⊢; unfold aop at h ⊢; rw [ho] at h ⊢; exact Kb h more
 ·rw [Bool.not_eq_true] at hl; unfold iT at h ⊢
  split at h
  ·exact h
  ·exact h
  ·rw [Rc hl bx]; exact h
theorem iT.any {o : Oper} {x : AV} (h : iT P tt o sl bx x) (hl : isLoad o.op = false) (bx2 : List Bx) : iT P tt o sl bx2 x := by
 unfold iT at h ⊢
 split at h
 ·exact h
 ·exact h
 ·rw [Rc hl bx]; exact h
theorem ql.congr {o : Oper} {x : AV} (h : ∀ y ∈ o.op.operands.toList, ev sl y = ev sl' y) (hs : ql tt o sl bx x bx') : ql tt o sl' bx x bx' := by
 unfold ql at hs ⊢
 split at hs
 ·rename_i t y ho; rw [ho] at h; rw [← h y (by simp [Op.operands])]; exact hs
 ·exact hs
 ·rename_i t p y ho; rw [ho] at h; rw [← h p (by simp [Op.operands]), ← h y (by simp [Op.operands])]; exact hs
 ·exact hs.elim
theorem ql.kind {o : Oper} {x : AV} (hs : ql tt o sl bx x bx') : isE o.op = true := by
 unfold ql at hs
 split at hs
 ·rename_i ho; rw [ho]; rfl
 ·rename_i ho; rw [ho]; rfl
 ·rename_i ho; rw [ho]; rfl
 ·exact hs.elim
theorem ql.app {o : Oper} {x : AV} (hs : ql tt o sl bx x bx') (ha : isApp o.op = true) : ∃ t, bx' = bx ++ t := by
 unfold ql at hs
 split at hs
 ·obtain ⟨cs, _, _, e⟩ := hs; exact ⟨_, e⟩
 ·obtain ⟨cs, _, _, e⟩ := hs; exact ⟨_, e⟩
 ·rename_i ho; rw [ho] at ha; cases ha
 ·exact hs.elim
theorem iT.notE {o : Oper} {x : AV} (h : iT P tt o sl bx x) : isE o.op = false := by
 cases he : isE o.op with
 | false => rfl
 | true =>
  exfalso; unfold iT at h
  split at h
  ·rename_i ho; rw [ho] at he; cases he
  ·rename_i ho; rw [ho] at he; cases he
  ·unfold aop at h
   split at h <;> first | (rename_i ho; rw [ho] at he; cases he; done) | exact h.elim | (rename_i h0; simp_all [isE]; done)
end
def GStep (P : Program) (tt : TT) (ops : List Oper) (o : Oper) (sl : Sl) (bx : List Bx) (x : AV) (bx' : List Bx) : Prop :=
 match lN ops sl o.guard with
 | .yes => Step P tt o sl bx x bx'
 | .skip => x = .u ∧ bx' = bx
 | .test b want => bif b == want then Step P tt o sl bx x bx' else x = .u ∧ bx' = bx
 | .no => False
def AC : List Operand → List Nat
 | [] => []
 | .tmp t :: r => t :: AC r
 | _ :: r => AC r
def looks (ops : List Oper) (o : Oper) : List Nat := AC o.op.operands.toList ++ (match o.guard with
 | some (j, _) => (match Hg ops j with
  | some d => [d]
  | none => [])
 | none => [])
theorem tJ {t : Nat} : ∀ {xs : List Operand}, Operand.tmp t ∈ xs → t ∈ AC xs
 | x :: r, h => by
  rcases List.mem_cons.1 h with rfl | h'
  ·exact List.mem_cons_self
  ·clear h
   cases x <;> simp only [AC] <;> first | exact List.mem_cons_of_mem _ (tJ h') | exact tJ h'
theorem Hl {ops : List Oper} {o : Oper} {sl sl' : Sl} (h : ∀ t ∈ looks ops o, sl t = sl' t) : lN ops sl o.guard = lN ops sl' o.guard := by
 unfold lN
 cases e : o.guard with
 | none => rfl
 | some g =>
  obtain ⟨j, want⟩ := g; dsimp only
  cases hd : Hg ops j with
  | none => rfl
  | some d =>
   dsimp only; rw [h d (List.mem_append_right _ (by rw [e]; dsimp only; rw [hd]; simp))]
theorem OI {ops : List Oper} {o : Oper} {sl sl' : Sl} (h : ∀ t ∈ looks ops o, sl t = sl' t) : ∀ y ∈ o.op.operands.toList, ev sl y = ev sl' y := by
 intro y hy
 cases y with
 | tmp t => exact h t (List.mem_append_left _ (tJ hy))
 | const v => unfold ev; split <;> first | rfl | simp_all
 | global g => rfl
 | func f => rfl
theorem Step.congr {P : Program} {tt : TT} {o : Oper} {sl sl' : Sl} {bx bx' : List Bx} {x : AV} (h : ∀ y ∈ o.op.operands.toList, ev sl y = ev sl' y) (hs : Step P tt o sl bx x bx') : Step P tt o sl' bx x bx' :=
 hs.imp (fun ⟨h1, h2⟩ => ⟨h1.congr h, h2⟩) (fun h1 => h1.congr h)
theorem GStep.lift {P : Program} {tt : TT} {ops : List Oper} {o : Oper} {sl sl' : Sl} {bx bx' bx2 Z8 : List Bx} {x : AV} (h : ∀ t ∈ looks ops o, sl t = sl' t) (hs : GStep P tt ops o sl bx x bx') (hstep : Step P tt o sl' bx x bx' → Step P tt o sl' bx2 x Z8) (hskip : bx' = bx → Z8 = bx2) : GStep P tt ops o sl' bx2 x Z8 := by
 unfold GStep at hs ⊢; rw [← Hl h]; have hop := OI h
 cases e : lN ops sl o.guard with
 | yes => rw [e] at hs; exact hstep (hs.congr hop)
 | skip => rw [e] at hs; exact ⟨hs.1, hskip hs.2⟩
 | test b want =>
  rw [e] at hs; dsimp only at hs ⊢
  cases hb : b == want with
  | true => rw [hb] at hs; exact hstep (Step.congr hop hs)
  | false => rw [hb] at hs; exact ⟨hs.1, hskip hs.2⟩
 | no => rw [e] at hs; exact hs
theorem GStep.notE {P : Program} {tt : TT} {ops : List Oper} {o : Oper} {sl : Sl} {bx bx' : List Bx} {x : AV} (hs : GStep P tt ops o sl bx x bx') (he : isE o.op = false) : bx' = bx := by
 have key : Step P tt o sl bx x bx' → bx' = bx := by
  rintro (⟨_, e⟩ | h)
  ·exact e
  ·rw [h.kind] at he; cases he
 unfold GStep at hs
 split at hs
 ·exact key hs
 ·exact hs.2
 ·rename_i b want e
  cases hb : b == want with
  | true => rw [hb] at hs; exact key hs
  | false => rw [hb] at hs; exact hs.2
 ·exact hs.elim
theorem GStep.app {P : Program} {tt : TT} {ops : List Oper} {o : Oper} {sl : Sl} {bx bx' : List Bx} {x : AV} (hs : GStep P tt ops o sl bx x bx') (ha : isApp o.op = true) : ∃ t, bx' = bx ++ t := by
 have key : Step P tt o sl bx x bx' → ∃ t, bx' = bx ++ t := by
  rintro (⟨_, e⟩ | h)
  ·exact ⟨[], by rw [e]; simp⟩
  ·exact h.app ha
 unfold GStep at hs
 split at hs
 ·exact key hs
 ·exact ⟨[], by rw [hs.2]; simp⟩
 ·rename_i b want e
  cases hb : b == want with
  | true => rw [hb] at hs; exact key hs
  | false => rw [hb] at hs; exact ⟨[], by rw [hs.2]; simp⟩
 ·exact hs.elim
def Tr (P : Program) (tt : TT) (n : Nat) (ops : List Oper) : List Oper → List (AV × List Bx) → Sl → List Bx → Prop
 | [], [], _, _ => True
 | o :: r, x :: xs, sl, bx => (nV n o.dst ∧ GStep P tt ops o sl bx x.1 x.2) ∧ Tr P tt n ops r xs (rq sl o.dst x.1) x.2
 | _, _, _, _ => False
def puts : List Oper → List (AV × List Bx) → Sl → Sl
 | o :: r, x :: xs, sl => puts r xs (rq sl o.dst x.1)
 | _, _, sl => sl
def lastB : List (AV × List Bx) → List Bx → List Bx
 | x :: xs, _ => lastB xs x.2
 | [], bx => bx
theorem vE {P : Program} {tt : TT} {n : Nat} {ops : List Oper} {K : Sl → List Bx → Prop} : ∀ (l : List Oper) {sl : Sl} {bx : List Bx}, jZ P tt n ops K l sl bx → ∃ xs, Tr P tt n ops l xs sl bx ∧ K (puts l xs sl) (lastB xs bx)
 | [], sl, bx, h => ⟨[], trivial, h⟩
 | o :: r, sl, bx, h => by
  rw [xq] at h; simp only [J6, J8] at h
  have goC : (kv P tt o sl bx fun x bx' => sj n sl o.dst x fun sl' => jZ P tt n ops K r sl' bx') → ∃ x b xs, (nV n o.dst ∧ Step P tt o sl bx x b) ∧ Tr P tt n ops r xs (rq sl o.dst x) b ∧ K (puts r xs (rq sl o.dst x)) (lastB xs b) := by
   intro hs; obtain ⟨x, b, hx, hk'⟩ := J9 hs; obtain ⟨hd, hk''⟩ := vD hk'; obtain ⟨xs, h1, h2⟩ := vE r hk''; exact ⟨x, b, xs, ⟨hd, hx⟩, h1, h2⟩
  have skC : (sj n sl o.dst .u fun sl' => jZ P tt n ops K r sl' bx) → ∃ xs, nV n o.dst ∧ Tr P tt n ops r xs (rq sl o.dst .u) bx ∧ K (puts r xs (rq sl o.dst .u)) (lastB xs bx) := fun hs => by
   obtain ⟨hd, hk''⟩ := vD hs; obtain ⟨xs, h1, h2⟩ := vE r hk''; exact ⟨xs, hd, h1, h2⟩
  cases hg : lN ops sl o.guard with
  | yes =>
   rw [hg] at h; obtain ⟨x, b, xs, h1, h2, h3⟩ := goC h; exact ⟨(x, b) :: xs, ⟨⟨h1.1, by unfold GStep; rw [hg]; exact h1.2⟩, h2⟩, h3⟩
  | skip =>
   rw [hg] at h; obtain ⟨xs, hd, h2, h3⟩ := skC h; exact ⟨(.u, bx) :: xs, ⟨⟨hd, by unfold GStep; rw [hg]; exact ⟨rfl, rfl⟩⟩, h2⟩, h3⟩
  | test b want =>
   rw [hg] at h; unfold AG.gen at h
   cases want <;> cases b <;> simp only [cond_true, cond_false] at h
   ·obtain ⟨x, b, xs, h1, h2, h3⟩ := goC (br.f h rfl); exact ⟨(x, b) :: xs, ⟨⟨h1.1, by unfold GStep; rw [hg]; exact h1.2⟩, h2⟩, h3⟩
   ·obtain ⟨xs, hd, h2, h3⟩ := skC (br.t h rfl); exact ⟨(.u, bx) :: xs, ⟨⟨hd, by unfold GStep; rw [hg]; exact ⟨rfl, rfl⟩⟩, h2⟩, h3⟩
   ·obtain ⟨xs, hd, h2, h3⟩ := skC (br.f h rfl); exact ⟨(.u, bx) :: xs, ⟨⟨hd, by unfold GStep; rw [hg]; exact ⟨rfl, rfl⟩⟩, h2⟩, h3⟩
   ·obtain ⟨x, b, xs, h1, h2, h3⟩ := goC (br.t h rfl); exact ⟨(x, b) :: xs, ⟨⟨h1.1, by unfold GStep; rw [hg]; exact h1.2⟩, h2⟩, h3⟩
  | no => rw [hg] at h; exact h.elim
def dI (t : Nat) : List Oper → Nat → Option Nat
 | [], _ => none
 | o :: r, i => match o.dst with
  | some d => bif Nat.beq d t then some i else dI t r (i + 1)
  | none => dI t r (i + 1)
theorem iC {t : Nat} : ∀ {ops : List Oper} {k i : Nat}, dI t ops k = some i → ∃ j o, i = k + j ∧ ops[j]? = some o ∧ o.dst = some t
 | [], k, i, h => by simp [dI] at h
 | o :: r, k, i, h => by
  unfold dI at h
  cases hd : o.dst with
  | none =>
   rw [hd] at h; obtain ⟨j, o', e, h1, h2⟩ := iC (ops := r) h; exact ⟨j + 1, o', by omega, by simpa using h1, h2⟩
  | some d =>
   rw [hd] at h; dsimp only at h
   cases hb : Nat.beq d t with
   | true => rw [hb] at h; simp only [cond_true, Option.some.injEq] at h; exact ⟨0, o, by omega, rfl, by rw [hd, Nat.eq_of_beq_eq_true hb]⟩
   | false =>
    rw [hb] at h; obtain ⟨j, o', e, h1, h2⟩ := iC (ops := r) h; exact ⟨j + 1, o', by omega, by simpa using h1, h2⟩
def mask (acc : List Nat) : List Edge → Nat
 | [] => 0
 | e :: r => bif Region.binds .any e then 2 ^ e.on ||| (acc.getD e.on 0 ||| mask acc r) else mask acc r
def nD : List Oper → List Nat → List Nat
 | [], acc => acc
 | o :: r, acc => nD r (acc ++ [mask acc o.after.toList])
theorem AJ {acc : List Nat} {j : Nat} : ∀ {es : List Edge}, (mask acc es).testBit j = true → ∃ e ∈ es, Region.binds .any e = true ∧ (e.on = j ∨ (acc.getD e.on 0).testBit j = true)
 | [], h => by simp [mask] at h
 | e :: r, h => by
  unfold mask at h
  cases hb : Region.binds .any e with
  | false => rw [hb] at h; obtain ⟨e', h1, h2⟩ := AJ (es := r) h; exact ⟨e', List.mem_cons_of_mem _ h1, h2⟩
  | true =>
   rw [hb] at h; simp only [cond_true, Nat.testBit_or, Bool.or_eq_true, Nat.testBit_two_pow] at h
   rcases h with h | h | h
   ·exact ⟨e, List.mem_cons_self, hb, .inl (by simpa using h)⟩
   ·exact ⟨e, List.mem_cons_self, hb, .inr h⟩
   ·obtain ⟨e', h1, h2⟩ := AJ (es := r) h; exact ⟨e', List.mem_cons_of_mem _ h1, h2⟩
theorem Hm : ∀ (l : List Oper) (acc : List Nat), ∃ t, nD l acc = acc ++ t
 | [], acc => ⟨[], by simp [nD]⟩
 | o :: r, acc => by
  obtain ⟨t, ht⟩ := Hm r (acc ++ [mask acc o.after.toList]); exact ⟨mask acc o.after.toList :: t, by rw [nD, ht]; simp⟩
theorem Ho : ∀ (l : List Oper) (acc : List Nat) (k : Nat) (o : Oper) (j : Nat), l[k]? = some o → ((nD l acc).getD (acc.length + k) 0).testBit j = true →
 ∃ e ∈ o.after.toList, Region.binds .any e = true ∧ (e.on = j ∨ (e.on < acc.length + k ∧ ((nD l acc).getD e.on 0).testBit j = true))
 | [], _, k, o, j, h, _ => by simp at h
 | o :: r, acc, 0, o', j, h, hb => by
  simp at h; subst h; obtain ⟨t, ht⟩ := Hm r (acc ++ [mask acc o.after.toList])
  have e1 : (nD (o :: r) acc).getD (acc.length + 0) 0 = mask acc o.after.toList := by
   rw [nD, ht]; simp [List.getD_eq_getElem?_getD]
  rw [e1] at hb; obtain ⟨e, h1, h2, h3⟩ := AJ hb; refine ⟨e, h1, h2, h3.imp id fun h4 => ?_⟩
  have hlt : e.on < acc.length := by
   by_cases hl : e.on < acc.length
   ·exact hl
   ·rw [List.getD_eq_getElem?_getD, List.getElem?_eq_none (Nat.not_lt.1 hl)] at h4; simp at h4
  refine ⟨hlt, ?_⟩; rw [nD, ht]
  simpa [List.getD_eq_getElem?_getD, List.getElem?_append_left (show e.on < (acc ++ [mask acc o.after.toList]).length by simp; omega), List.getElem?_append_left hlt] using h4
 | o :: r, acc, k + 1, o', j, h, hb => by
  have := Ho r (acc ++ [mask acc o.after.toList]) k o' j (by simpa using h) (by
   rw [nD] at hb
   rw [show (acc ++ [mask acc o.after.toList]).length + k = acc.length + (k + 1) by simp; omega]; exact hb)
  rw [show (acc ++ [mask acc o.after.toList]).length + k = acc.length + (k + 1) by simp; omega] at this; rw [nD]; exact this
def adF (ops : List Oper) (C : List Nat) (o : Oper) (i : Nat) : Bool :=
 (match o.dst with
  | some d => (match dI d ops 0 with
   | some j => Nat.beq j i
   | none => false)
  | none => true) &&
 ((looks ops o).all fun t => match dI t ops 0 with
  | some j => (Nat.blt j i && (C.getD i 0).testBit j) || (Nat.blt i j && (C.getD j 0).testBit i)
  | none => true)
def apart (ops : List Oper) (sl : Sl) (p o : Op) : Bool :=
 match p with
 | .store _ (.tmp a) _ => (match o with
  | .load _ (.tmp b) => (match dI a ops 0 with
   | none => (match dI b ops 0 with
    | none => (match sl a with
     | .a (.p j _) => (match sl b with
      | .a (.p j' _) => !Nat.beq j j'
      | _ => false)
     | _ => false)
    | some _ => false)
   | some _ => false)
  | _ => false)
 | _ => false
theorem Hr {ops : List Oper} {sl : Sl} {p o : Op} (h : apart ops sl p o = true) : ∃ t a y u b j off j' off', p = .store t (.tmp a) y ∧ o = .load u (.tmp b) ∧ dI a ops 0 = none ∧ dI b ops 0 = none ∧ sl a = .a (.p j off) ∧ sl b = .a (.p j' off') ∧ j ≠ j' := by
 unfold apart at h
 split at h
 ·split at h
  ·split at h
   ·split at h
    ·split at h
     ·split at h
      ·refine ⟨_, _, _, _, _, _, _, _, _, rfl, rfl, ‹_›, ‹_›, ‹_›, ‹_›, ?_⟩; intro e; rw [e] at h; simp at h
      ·cases h
     ·cases h
    ·cases h
   ·cases h
  ·cases h
 ·cases h
def Re (ops : List Oper) (sl : Sl) (ex : Nat → Nat → Bool) (C : List Nat) (o : Oper) (i : Nat) : List Oper → Nat → Bool
 | [], _ => true
 | p :: r, j => (bif isE p.op && (isE o.op || isLoad o.op) then (bif Nat.blt j i then ((C.getD i 0).testBit j || ex j i) else (isE o.op || isApp p.op || (C.getD j 0).testBit i || apart ops sl p.op o.op)) else true) && Re ops sl ex C o i r (j + 1)
def BG (ops : List Oper) (sl : Sl) (ex : Nat → Nat → Bool) (C : List Nat) : List Oper → Nat → Bool
 | [], _ => true
 | o :: r, i => adF ops C o i && Re ops sl ex C o i ops 0 && BG ops sl ex C r (i + 1)
def BH : List Oper → Nat → Bool
 | [], _ => true
 | o :: r, i => (o.after.toList.all fun e => !Region.binds .any e || Nat.blt e.on i) && BH r (i + 1)
def Ke : Nat → Nat → Bool := fun _ _ => false
def chk (sl : Sl) (ops : List Oper) : Bool := BG ops sl Ke (nD ops []) ops 0 && BH ops 0
def Kg (m : Nat) (K : Nat → Bool) : Bool := Nat.rec (K 0) (fun k _ => K (Nat.succ k)) m
theorem Cq (m : Nat) (K : Nat → Bool) : Kg m K = K m := by cases m <;> rfl
def Ez : List Nat → (List Nat → Bool) → Bool
 | [], K => K []
 | x :: xs, K => Kg x fun x => Ez xs fun xs => K (x :: xs)
theorem Cr : ∀ (l : List Nat) (K : List Nat → Bool), Ez l K = K l
 | [], _ => rfl
 | x :: xs, K => by rw [Ez, Cq, Cr xs]
def AL : List Oper → (List Oper → Bool) → Bool
 | [], K => K []
 | x :: xs, K => AL xs fun xs => K (x :: xs)
theorem wS : ∀ (l : List Oper) (K : List Oper → Bool), AL l K = K l
 | [], _ => rfl
 | x :: xs, K => by rw [AL, wS xs]
def Ht : List Oper → List Nat → (List Nat → Bool) → Bool
 | [], acc, K => K acc
 | o :: r, acc, K => Kg (mask acc o.after.toList) fun m => Ez (acc ++ [m]) fun acc' => Ht r acc' K
theorem AO : ∀ (l : List Oper) (acc : List Nat) (K : List Nat → Bool), Ht l acc K = K (nD l acc)
 | [], _, _ => rfl
 | o :: r, acc, K => by rw [Ht, Cq, Cr, AO r, nD]
def xI (sl : Sl) (ops : List Oper) : Bool := AL ops fun ops => Ht ops [] fun C => BG ops sl Ke C ops 0 && BH ops 0
theorem VA (sl : Sl) (ops : List Oper) : xI sl ops = chk sl ops := by unfold xI chk; rw [wS, AO]
structure adG (ops : List Oper) (sl : Sl) (ex : Nat → Nat → Bool) (C : List Nat) (o : Oper) (i : Nat) : Prop where
 dst : ∀ d, o.dst = some d → dI d ops 0 = some i
 look : ∀ t ∈ looks ops o, ∀ j, dI t ops 0 = some j → (j < i ∧ (C.getD i 0).testBit j = true) ∨ (i < j ∧ (C.getD j 0).testBit i = true)
 low : ∀ j p, ops[j]? = some p → isE p.op = true → (isE o.op || isLoad o.op) = true → j < i → (C.getD i 0).testBit j = true ∨ ex j i = true
 high : ∀ j p, ops[j]? = some p → isE p.op = true → isLoad o.op = true → isE o.op = false → i ≤ j → isApp p.op = true ∨ (C.getD j 0).testBit i = true ∨ apart ops sl p.op o.op = true
theorem EA {ops : List Oper} {sl : Sl} {ex : Nat → Nat → Bool} {C : List Nat} {o : Oper} {i : Nat} : ∀ {l : List Oper} {j : Nat}, Re ops sl ex C o i l j = true → ∀ {k : Nat} {p : Oper}, l[k]? = some p → isE p.op = true → (isE o.op || isLoad o.op) = true →
 (j + k < i → (C.getD i 0).testBit (j + k) = true ∨ ex (j + k) i = true) ∧ (i ≤ j + k → isE o.op = true ∨ isApp p.op = true ∨ (C.getD (j + k) 0).testBit i = true ∨ apart ops sl p.op o.op = true)
 | [], _, _, k, p, h, _, _ => by simp at h
 | p :: r, j, h, 0, p', e, h1, h2 => by
  simp at e; subst e; unfold Re at h; rw [h1, h2] at h; simp only [Bool.and_self, cond_true, Bool.and_eq_true, Nat.add_zero] at h ⊢; obtain ⟨h, _⟩ := h; refine ⟨fun hlt => ?_, fun hle => ?_⟩
  ·rw [show Nat.blt j i = true from Nat.ble_eq_true_of_le hlt] at h; simpa using h
  ·rw [show Nat.blt j i = false by cases hb : Nat.blt j i with | false => rfl | true => (have := Nat.le_of_ble_eq_true hb; omega)] at h; simp only [cond_false, Bool.or_eq_true] at h
   rcases h with ((h | h) | h) | h
   ·exact .inl h
   ·exact .inr (.inl h)
   ·exact .inr (.inr (.inl h))
   ·exact .inr (.inr (.inr h))
 | p :: r, j, h, k + 1, p', e, h1, h2 => by
  unfold Re at h; simp only [Bool.and_eq_true] at h; have := EA h.2 (k := k) (p := p') (by simpa using e) h1 h2; rw [show j + (k + 1) = j + 1 + k by omega]; exact this
theorem pO {ops : List Oper} {sl : Sl} {ex : Nat → Nat → Bool} {C : List Nat} : ∀ {l : List Oper} {i : Nat}, BG ops sl ex C l i = true → ∀ {k : Nat} {o : Oper}, l[k]? = some o → adG ops sl ex C o (i + k)
 | [], i, _, k, o, h => by simp at h
 | o :: r, i, h, 0, o', e => by
  simp at e; subst e; unfold BG at h; simp only [Bool.and_eq_true] at h; obtain ⟨⟨h1, h2⟩, _⟩ := h; unfold adF at h1; simp only [Bool.and_eq_true] at h1; obtain ⟨h3, h4⟩ := h1; refine ⟨?_, ?_, ?_, ?_⟩
  ·intro d hd; rw [hd] at h3; dsimp only at h3
   split at h3
   ·rename_i j hj; rw [hj, Nat.eq_of_beq_eq_true h3]; rfl
   ·cases h3
  ·intro t ht j hj; have := List.all_eq_true.1 h4 t ht; rw [hj] at this; simp only [Bool.and_eq_true, Bool.or_eq_true] at this; exact this.imp (fun h => ⟨by have := Nat.le_of_ble_eq_true h.1; omega, h.2⟩) (fun h => ⟨by have := Nat.le_of_ble_eq_true h.1; omega, h.2⟩)
  ·intro j p hp k1 k2 hlt; have := (EA h2 (k := j) (p := p) hp k1 k2).1
   simpa using this (by simpa using hlt)
  ·intro j p hp k1 k2 k3 hle; have := (EA h2 (k := j) (p := p) hp k1 (by rw [k2]; simp)).2 (by simpa using hle); rw [k3] at this
   rcases this with h | h | h | h
   ·cases h
   ·exact .inl h
   ·exact .inr (.inl (by simpa using h))
   ·exact .inr (.inr h)
 | o :: r, i, h, k + 1, o', e => by
  unfold BG at h; simp only [Bool.and_eq_true] at h; have := pO h.2 (k := k) (o := o') (by simpa using e); rw [show i + (k + 1) = i + 1 + k by omega]; exact this
theorem MO : ∀ {l : List Oper} {i : Nat}, BH l i = true → ∀ {k : Nat} {o : Oper}, l[k]? = some o → ∀ e ∈ o.after.toList, Region.binds .any e = true → e.on < i + k
 | [], i, _, k, o, h => by simp at h
 | o :: r, i, h, 0, o', e => by
  simp at e; subst e; unfold BH at h; simp only [Bool.and_eq_true] at h; intro e he hb; have := List.all_eq_true.1 h.1 e he; rw [hb] at this; have := Nat.le_of_ble_eq_true (show Nat.ble (e.on + 1) i = true by simpa [Nat.blt] using this); omega
 | o :: r, i, h, k + 1, o', e => by
  unfold BH at h; simp only [Bool.and_eq_true] at h; have := MO h.2 (k := k) (o := o') (by simpa using e); rw [show i + (k + 1) = i + 1 + k by omega]; exact this
def slL (ops : List Oper) (X : Nat → AV) (sl : Sl) (L : Nat → Bool) : Sl := fun t => match dI t ops 0 with
 | some i => bif L i then X i else sl t
 | none => sl t
theorem wT {ops : List Oper} {X : Nat → AV} {sl : Sl} {L L' : Nat → Bool} (h : ∀ j, j < ops.length → L j = L' j) : slL ops X sl L = slL ops X sl L' := by
 funext t
 unfold slL
 cases hw : dI t ops 0 with
 | none => rfl
 | some j =>
  obtain ⟨j', o', e, h1, _⟩ := iC hw; have := (List.getElem?_eq_some_iff.1 h1).1; dsimp only; rw [h j (by omega)]
theorem vF {ops : List Oper} {X : Nat → AV} {sl : Sl} {L : Nat → Bool} (h : ∀ i, L i = false) : slL ops X sl L = sl := by
 funext t
 unfold slL
 cases dI t ops 0 with
 | none => rfl
 | some i => dsimp only; rw [h i]; rfl
theorem EB {ops : List Oper} {X : Nat → AV} {sl : Sl} {L L' : Nat → Bool} {o : Oper} {i : Nat} (ho : ops[i]? = some o) (hd : ∀ d, o.dst = some d → dI d ops 0 = some i) (hi : L' i = true) (hn : ∀ j, j ≠ i → L' j = L j) :
 rq (slL ops X sl L) o.dst (X i) = slL ops X sl L' := by
 funext t
 have other : ∀ j, dI t ops 0 = some j → j = i → o.dst = some t := by
  rintro j hw rfl; obtain ⟨j', o', e, h1, h2⟩ := iC hw; rw [show j' = j by omega, ho] at h1; cases h1; exact h2
 cases hdst : o.dst with
 | none =>
  show slL ops X sl L t = slL ops X sl L' t; unfold slL
  cases hw : dI t ops 0 with
  | none => rfl
  | some j =>
   dsimp only
   have : j ≠ i := fun e => by have := other j hw e; rw [hdst] at this; cases this
   rw [hn j this]
 | some d =>
  show (bif Nat.beq t d then X i else slL ops X sl L t) = slL ops X sl L' t
  cases hb : Nat.beq t d with
  | true =>
   have := Nat.eq_of_beq_eq_true hb; subst this; unfold slL; rw [hd t hdst]; dsimp only; rw [hi]; rfl
  | false =>
   have hne : t ≠ d := fun e => by rw [e] at hb; simp at hb
   unfold slL
   cases hw : dI t ops 0 with
   | none => rfl
   | some j =>
    dsimp only
    have : j ≠ i := fun e => by have := other j hw e; rw [hdst] at this; cases this; exact hne rfl
    rw [hn j this]; rfl
end Go.Proofs.Ytkgeihbcikiedaa.A
set_option linter.unusedVariables false
set_option linter.unusedSimpArgs false
set_option linter.constructorNameAsVariable false
namespace Go.Proofs.Ytkgeihbcikiedaa.A
open Go.RowKit Go.Proofs.YtkgeihbcikiedaaW.PrintWords Go.Proofs.YtkgeihbcikiedaaW.PrintMore
section
variable {P : Program} {tt : TT}
theorem Tr.steps {n : Nat} {full ops : List Oper} {slc : Sl} {ex : Nat → Nat → Bool} {C : List Nat} (hc : BG full slc ex C full 0 = true) (hfull : full = ops) {xs0 : List (AV × List Bx)} {sl0 : Sl} {X : Nat → AV} {B : Nat → List Bx} (hX : ∀ i, X i = (xs0.getD i (.u, [])).1) (hB : ∀ i, i < xs0.length → B (i + 1) = (xs0.getD i (.u, [])).2) :
 ∀ (l : List Oper) (k : Nat) (xs : List (AV × List Bx)), ops.drop k = l → xs0.drop k = xs → Tr P tt n full l xs (slL ops X sl0 fun j => decide (j < k)) (B k) →
 (∀ i o, k ≤ i → ops[i]? = some o → nV n o.dst ∧ GStep P tt full o (slL ops X sl0 fun j => decide (j < i)) (B i) (X i) (B (i + 1))) ∧ puts l xs (slL ops X sl0 fun j => decide (j < k)) = (slL ops X sl0 fun j => decide (j < ops.length)) ∧ lastB xs (B k) = B (k + l.length)
 | [], k, [], hl, hx, h => by
  have hk : ops.length ≤ k := by simpa using hl
  refine ⟨fun i o hi ho => ?_, ?_, rfl⟩
  ·have := (List.getElem?_eq_some_iff.1 ho).1; omega
  ·show slL ops X sl0 _ = _
   exact wT fun j hj => by rw [decide_eq_true (show j < k by omega), decide_eq_true hj]
 | [], k, _ :: _, hl, hx, h => h.elim
 | o :: r, k, [], hl, hx, h => h.elim
 | o :: r, k, x :: xs, hl, hx, h => by
  have ho : ops[k]? = some o := by
   have := congrArg (fun z => z[0]?) hl
   simpa [List.getElem?_drop] using this
  have hget : xs0.getD k (.u, []) = x := by
   have := congrArg (fun z => z[0]?) hx; rw [List.getD_eq_getElem?_getD]; simp [List.getElem?_drop] at this; rw [this]; rfl
  have hkl : k < xs0.length := by
   have := congrArg List.length hx; simp at this; omega
  have hxk : X k = x.1 := by rw [hX, hget]
  have hbk : B (k + 1) = x.2 := by rw [hB k hkl, hget]
  have hput := EB (X := X) (sl := sl0) (L := fun j => decide (j < k)) (L' := fun j => decide (j < k + 1)) ho (by subst hfull; have := (pO hc ho).dst; simpa using this) (by simp) (fun j hj => by
   show decide (j < k + 1) = decide (j < k)
   by_cases e : j < k
   ·rw [decide_eq_true e, decide_eq_true (by omega)]
   ·rw [decide_eq_false e, decide_eq_false (by omega)])
  rw [hxk] at hput
  have hl' : ops.drop (k + 1) = r := by
   rw [← List.drop_drop, hl]; rfl
  have hx' : xs0.drop (k + 1) = xs := by
   rw [← List.drop_drop, hx]; rfl
  have h2 := h.2; rw [hput, ← hbk] at h2; obtain ⟨i1, i2, i3⟩ := Tr.steps hc hfull hX hB r (k + 1) xs hl' hx' h2; refine ⟨fun i o' hi ho' => ?_, ?_, ?_⟩
  ·by_cases e : i = k
   ·subst e; rw [ho] at ho'; cases ho'; rw [hxk, hbk]; exact h.1
   ·exact i1 i o' (by omega) ho'
  ·show puts r xs (rq _ o.dst x.1) = _; rw [hput]; exact i2
  ·show lastB xs x.2 = _; rw [← hbk, i3]; congr 1; simp; omega
theorem Tr.len {n : Nat} {full : List Oper} : ∀ {l : List Oper} {xs : List (AV × List Bx)} {sl : Sl} {bx : List Bx}, Tr P tt n full l xs sl bx → xs.length = l.length
 | [], [], _, _, _ => rfl
 | _ :: _, _ :: _, _, _, h => by simp [Tr.len h.2]
 | [], _ :: _, _, _, h => h.elim
 | _ :: _, [], _, _, h => h.elim
def cnt : List Bool → Nat
 | [] => 0
 | true :: r => cnt r
 | false :: r => cnt r + 1
theorem yj : ∀ {l : List Bool} {i : Nat}, l[i]? = some false → cnt (l.set i true) + 1 = cnt l
 | [], i, h => by simp at h
 | b :: r, 0, h => by simp at h; subst h; rfl
 | true :: r, i + 1, h => by simp at h; exact yj (l := r) h
 | false :: r, i + 1, h => by simp at h; have := yj (l := r) h; simp only [List.set_cons_succ, cnt]; omega
theorem AP : ∀ {l : List Bool}, cnt l = 0 → ∀ (i : Nat) (b : Bool), l[i]? = some b → b = true
 | [], _, i, b, h => by simp at h
 | true :: r, e, 0, b, h => by simp at h; exact h
 | true :: r, e, i + 1, b, h => by simp at h; exact AP (l := r) e i b h
 | false :: r, e, _, _, _ => by simp [cnt] at e
theorem wV : ∀ n, cnt (List.replicate n false) = n
 | 0 => rfl
 | n + 1 => by rw [List.replicate_succ, cnt, wV n]
theorem mem_ready {ops : Array Oper} {listed : Array Bool} {i : Nat} : i ∈ Region.ready .any ops listed ↔ i < ops.size ∧ listed.getD i true = false ∧ ∃ o, ops[i]? = some o ∧ ∀ e ∈ o.after.toList, Region.binds .any e = true → listed.getD e.on false = true := by
 unfold Region.ready; simp only [List.mem_filter, List.mem_range, Bool.and_eq_true, Bool.not_eq_true']
 constructor
 ·rintro ⟨h1, h2, h3⟩; refine ⟨h1, h2, ?_⟩
  cases ho : ops[i]? with
  | none => rw [ho] at h3; simp at h3
  | some o =>
   rw [ho] at h3; refine ⟨o, rfl, fun e he hb => ?_⟩; simp only [Option.map_some, Option.getD_some, Array.all_eq_true_iff_forall_mem] at h3; have := h3 e (by simpa using he)
   simpa [hb] using this
 ·rintro ⟨h1, h2, o, ho, h3⟩; refine ⟨h1, h2, ?_⟩; rw [ho]; simp only [Option.map_some, Option.getD_some, Array.all_eq_true_iff_forall_mem]; intro e he
  cases hb : Region.binds .any e with
  | false => simp
  | true => simp [h3 e (by simpa using he) hb]
theorem Hu {f : Nat → Bool} : ∀ n, f n = false → ∃ i, f i = false ∧ i ≤ n ∧ ∀ j, j < i → f j = true := by
 intro n
 induction n using Nat.strongRecOn with
 | _ n ih =>
  intro h
  by_cases e : ∃ j, j < n ∧ f j = false
  ·obtain ⟨j, hj, hf⟩ := e; obtain ⟨i, h1, h2, h3⟩ := ih j hj hf; exact ⟨i, h1, by omega, h3⟩
  ·exact ⟨n, h, Nat.le_refl _, fun j hj => by
    cases hf : f j with
    | true => rfl
    | false => exact absurd ⟨j, hj, hf⟩ e⟩
def Closed (ops : List Oper) (listed : Array Bool) : Prop := ∀ (k : Nat) (o : Oper), listed.getD k false = true → ops[k]? = some o → ∀ e ∈ o.after.toList, Region.binds .any e = true → listed.getD e.on false = true
theorem Closed.bits {ops : List Oper} {listed : Array Bool} (h : Closed ops listed) : ∀ (i : Nat) (o : Oper), ops[i]? = some o → (∀ e ∈ o.after.toList, Region.binds .any e = true → listed.getD e.on false = true) → ∀ j, ((nD ops []).getD i 0).testBit j = true → listed.getD j false = true := by
 intro i
 induction i using Nat.strongRecOn with
 | _ i ih =>
  intro o ho ha j hj; obtain ⟨e, h1, h2, h3⟩ := Ho ops [] i o j ho (by simpa using hj)
  rcases h3 with h3 | ⟨h3, h4⟩
  ·rw [← h3]; exact ha e h1 h2
  ·simp only [List.length_nil, Nat.zero_add] at h3
   have hl : e.on < ops.length := by have := (List.getElem?_eq_some_iff.1 ho).1; omega
   exact ih e.on h3 ops[e.on] (List.getElem?_eq_getElem hl) (fun e' he' hb' => h e.on _ (ha e h1 h2) (List.getElem?_eq_getElem hl) e' he' hb') j h4
theorem Closed.set {ops : List Oper} {listed : Array Bool} (h : Closed ops listed) {i : Nat} (ha : ∀ o, ops[i]? = some o → ∀ e ∈ o.after.toList, Region.binds .any e = true → listed.getD e.on false = true) : Closed ops (listed.setIfInBounds i true) := by
 have mono : ∀ k, listed.getD k false = true → (listed.setIfInBounds i true).getD k false = true := by
  intro k hk
  by_cases e : i = k
  ·subst e
   by_cases hl : i < listed.size
   ·simp [Array.getD_eq_getD_getElem?, Array.getElem?_setIfInBounds, hl]
   ·rw [Array.setIfInBounds_eq_of_size_le (by omega)]; exact hk
  ·simpa [Array.getD_eq_getD_getElem?, Array.getElem?_setIfInBounds, e] using hk
 intro k o hk ho e he hb
 by_cases hki : k = i
 ·subst hki; exact mono _ (ha o ho e he hb)
 ·refine mono _ (h k o ?_ ho e he hb)
  simpa [Array.getD_eq_getD_getElem?, Array.getElem?_setIfInBounds, Ne.symm hki] using hk
theorem Cs {ops : List Oper} (hA : BH ops 0 = true) {listed : Array Bool} (hsz : listed.size = ops.length) (hr : Region.ready .any ops.toArray listed = []) : ∀ i, i < ops.length → listed.getD i false = true := by
 intro i hi
 cases hf : listed.getD i false with
 | true => rfl
 | false =>
  obtain ⟨m, h1, h2, h3⟩ := Hu (f := fun i => listed.getD i false) i hf; exfalso
  have hml : m < ops.length := by omega
  have hm : m ∈ Region.ready .any ops.toArray listed := by
   refine mem_ready.2 ⟨by simpa using hml, ?_, ops[m], by simp [List.getElem?_eq_getElem hml], ?_⟩
   ·have : m < listed.size := by omega
    simp [Array.getD_eq_getD_getElem?, Array.getElem?_eq_getElem this] at h1 ⊢; exact h1
   ·intro e he hb; have := MO hA (List.getElem?_eq_getElem hml) e he hb; exact h3 _ (by omega)
  rw [hr] at hm; cases hm
theorem ko {n : Nat} {ops : List Oper} {X : Nat → AV} {B : Nat → List Bx} {sl : Sl} (hst : ∀ i o, ops[i]? = some o → nV n o.dst ∧ GStep P tt ops o (slL ops X sl fun j => decide (j < i)) (B i) (X i) (B (i + 1))) :
 ∀ (d i : Nat), i + d ≤ ops.length → (∀ j o, i ≤ j → j < i + d → ops[j]? = some o → isE o.op = false) → B (i + d) = B i
 | 0, _, _, _ => rfl
 | d + 1, i, hl, h => by
  have ih := ko hst d i (by omega) (fun j o h1 h2 ho => h j o h1 (by omega) ho); have ho : ops[i + d]? = some ops[i + d] := List.getElem?_eq_getElem (by omega); have := (hst (i + d) _ ho).2.notE (h (i + d) _ (by omega) (by omega) ho); rw [show i + (d + 1) = i + d + 1 by omega, this, ih]
theorem Kh {ops : List Oper} {X : Nat → AV} {sl : Sl} {L : Nat → Bool} {t : Nat} (h : dI t ops 0 = none) : slL ops X sl L t = sl t := by unfold slL; rw [h]
theorem AU {n : Nat} {ops : List Oper} {X : Nat → AV} {B : Nat → List Bx} {sl : Sl} (hst : ∀ i o, ops[i]? = some o → nV n o.dst ∧ GStep P tt ops o (slL ops X sl fun j => decide (j < i)) (B i) (X i) (B (i + 1))) {j0 : Nat} {b : Bx} :
 ∀ (d i : Nat), i + d ≤ ops.length → (∀ j o, i ≤ j → j < i + d → ops[j]? = some o → isE o.op = true → isApp o.op = true ∨ (∃ t a y j1 off, o.op = .store t (.tmp a) y ∧ dI a ops 0 = none ∧ sl a = .a (.p j1 off) ∧ j1 ≠ j0)) → (B i)[j0]? = some b → (B (i + d))[j0]? = some b
 | 0, _, _, _, h => h
 | d + 1, i, hl, h, hb => by
  have ih := AU hst d i (by omega) (fun j o h1 h2 ho => h j o h1 (by omega) ho) hb; have ho : ops[i + d]? = some ops[i + d] := List.getElem?_eq_getElem (by omega); have hs := (hst (i + d) _ ho).2; rw [show i + (d + 1) = i + d + 1 by omega]
  cases he : isE (ops[i + d]).op with
  | false => rw [hs.notE he]; exact ih
  | true =>
   rcases h (i + d) _ (by omega) (by omega) ho he with ha | ⟨t, a, y, j1, off, ho2, hw, hsl, hne⟩
   ·obtain ⟨u, hu⟩ := hs.app ha; rw [hu, List.getElem?_append_left (List.getElem?_eq_some_iff.1 ih).1]; exact ih
   ·have key : Step P tt ops[i + d] (slL ops X sl fun j => decide (j < i + d)) (B (i + d)) (X (i + d)) (B (i + d + 1)) → (B (i + d + 1))[j0]? = some b := by
     rintro (⟨_, e⟩ | h1)
     ·rw [e]; exact ih
     ·unfold ql at h1; rw [ho2] at h1; obtain ⟨j, off', ti, b', cs, hp, _, _, _, _, _, hB⟩ := h1; have hp' : slL ops X sl (fun j => decide (j < i + d)) a = .a (.p j off') := hp; rw [Kh hw, hsl] at hp'; cases hp'; rw [hB, List.getElem?_set_ne hne]; exact ih
    unfold GStep at hs
    split at hs
    ·exact key hs
    ·rw [hs.2]; exact ih
    ·rename_i b' want e
     cases hb' : b' == want with
     | true => rw [hb'] at hs; exact key hs
     | false => rw [hb'] at hs; rw [hs.2]; exact ih
    ·exact hs.elim
theorem iT.keep {o : Oper} {sl : Sl} {bx bx2 : List Bx} {x : AV} {t : Nat} {y : Operand} (ho : o.op = .load t y) (h : iT P tt o sl bx x) (hk : ∀ j off, ev sl y = .a (.p j off) → ∀ b, bx[j]? = some b → bx2[j]? = some b) : iT P tt o sl bx2 x := by
 unfold iT at h ⊢; rw [ho] at h ⊢; dsimp only at h ⊢; unfold aop at h ⊢; rw [ho] at h ⊢; dsimp only at h ⊢; generalize ev sl y = z at *; unfold vB at h ⊢
 split at h
 ·rename_i j off ti hti
  split at h
  ·rename_i b hb; have hb2 := hk j off rfl b hb
   (try dsimp only)
   (try rw [hti])
   rw [hb2]; exact h
  ·exact h.elim
 ·rename_i k m ti hti
  (try dsimp only)
  (try rw [hti])
  exact h
 ·rename_i bb ti hti
  (try dsimp only)
  (try rw [hti])
  exact h
 ·rename_i xx ti hti
  (try dsimp only)
  (try rw [hti])
  exact h
 ·rename_i xx ti hti
  (try dsimp only)
  (try rw [hti])
  exact h
 ·exact h.elim
theorem OJ (htt : tt.okB P = true) {w0 : World} {Pk : Nat → Prop} {ops : List Oper} {sl : Sl} (hc : BG ops sl Ke (nD ops []) ops 0 = true) (hA : BH ops 0 = true) {n : Nat} {X : Nat → AV} {B : Nat → List Bx} {Q : Exit → Act → World → Prop}
 (hst : ∀ i o, ops[i]? = some o → nV n o.dst ∧ GStep P tt ops o (slL ops X sl fun j => decide (j < i)) (B i) (X i) (B (i + 1)))
 (hend : ∀ ρ a W, Rel w0 Pk n ρ (slL ops X sl fun j => decide (j < ops.length)) (B ops.length) a W → Q .normal a W) :
 ∀ (fuel : Nat) (listed : Array Bool) (m : Nat) (ρ : List Nat) (a : Act) (W : World), listed.size = ops.length → cnt listed.toList ≤ fuel → Closed ops listed → m ≤ ops.length → (∀ j o, ops[j]? = some o → isE o.op = true → (listed.getD j false = true ↔ j < m)) →
  Rel w0 Pk n ρ (slL ops X sl fun j => listed.getD j false) (B m) a W → wpAny P .any ops.toArray Q fuel listed a W := by
 have fin : ∀ (listed : Array Bool) (m : Nat) (ρ : List Nat) (a : Act) (W : World), m ≤ ops.length → (∀ j o, ops[j]? = some o → isE o.op = true → (listed.getD j false = true ↔ j < m)) →
  Rel w0 Pk n ρ (slL ops X sl fun j => listed.getD j false) (B m) a W → (∀ i, i < ops.length → listed.getD i false = true) → Q .normal a W := by
  intro listed m ρ a W hm hE hrel hall
  have e1 : (slL ops X sl fun j => listed.getD j false) = slL ops X sl fun j => decide (j < ops.length) := wT fun j hj => by rw [hall j hj, decide_eq_true hj]
  have e2 : B ops.length = B m := by
   have := ko hst (ops.length - m) m (by omega) (fun j o h1 h2 ho => by
    cases he : isE o.op with
    | false => rfl
    | true =>
     have := (hE j o ho he).1 (hall j (by omega)); omega)
   rwa [show m + (ops.length - m) = ops.length by omega] at this
  rw [e1, ← e2] at hrel; exact hend ρ a W hrel
 intro fuel
 induction fuel with
 | zero =>
  intro listed m ρ a W hsz hcnt hcl hm hE hrel
  have hall : ∀ i, i < ops.length → listed.getD i false = true := by
   intro i hi
   have hl : i < listed.size := by omega
   have : listed.toList[i]? = some (listed[i]) := by simp [hl]
   have ht := AP (by omega) i _ this; simp [Array.getD_eq_getD_getElem?, Array.getElem?_eq_getElem hl, ht]
  have hr : Region.ready .any ops.toArray listed = [] := by
   apply List.eq_nil_iff_forall_not_mem.2; intro i hi; obtain ⟨h1, h2, _⟩ := mem_ready.1 hi
   have hil : i < ops.length := by simpa using h1
   have hl : i < listed.size := by omega
   have := hall i hil; simp [Array.getD_eq_getD_getElem?, Array.getElem?_eq_getElem hl] at this h2; rw [this] at h2; cases h2
  exact ⟨hr, fin listed m ρ a W hm hE hrel hall⟩
 | succ fuel ih =>
  intro listed m ρ a W hsz hcnt hcl hm hE hrel; refine ⟨fun hr => fin listed m ρ a W hm hE hrel (Cs hA hsz hr), fun i hi => ?_⟩; obtain ⟨h1, h2', o, ho, h3⟩ := mem_ready.1 hi
  have ho' : ops[i]? = some o := by simpa using ho
  have hil : i < ops.length := by simpa using h1
  have hl : i < listed.size := by omega
  have hck := pO hc ho'; rw [Nat.zero_add] at hck
  have hli : listed[i] = false := by simpa [Array.getD_eq_getD_getElem?, Array.getElem?_eq_getElem hl] using h2'
  have hnl : listed.getD i false = false := by simp [Array.getD_eq_getD_getElem?, Array.getElem?_eq_getElem hl, hli]
  have waits : ∀ j o', ops[j]? = some o' → ((nD ops []).getD j 0).testBit i = true → listed.getD j false = false := by
   intro j o' hjo hb
   cases hlj : listed.getD j false with
   | false => rfl
   | true =>
    exfalso; have := hcl.bits j o' hjo (fun e he hb' => hcl j o' hlj hjo e he hb') i hb; rw [hnl] at this; cases this
  have hslots : ∀ t ∈ looks ops o, (slL ops X sl fun j => decide (j < i)) t = (slL ops X sl fun j => listed.getD j false) t := by
   intro t ht; unfold slL
   cases hw : dI t ops 0 with
   | none => rfl
   | some j =>
    rcases hck.look t ht j hw with ⟨hj, hb⟩ | ⟨hj, hb⟩
    ·dsimp only; rw [decide_eq_true hj, hcl.bits i o ho' h3 j hb]
    ·obtain ⟨j', o', e, g1, _⟩ := iC hw
     have hjo : ops[j]? = some o' := by rw [show j = j' by omega]; exact g1
     dsimp only; rw [decide_eq_false (show ¬ j < i by omega), waits j o' hjo hb]
  have hboxes : ∃ m', m' ≤ ops.length ∧ GStep P tt ops o (slL ops X sl fun j => listed.getD j false) (B m) (X i) (B m') ∧ (∀ j o', ops[j]? = some o' → isE o'.op = true → ((listed.setIfInBounds i true).getD j false = true ↔ j < m')) := by
   have hg := (hst i o ho').2
   have set_ne : ∀ j, j ≠ i → (listed.setIfInBounds i true).getD j false = listed.getD j false := fun j hj => by
    simp [Array.getD_eq_getD_getElem?, Array.getElem?_setIfInBounds, Ne.symm hj]
   have set_eq : (listed.setIfInBounds i true).getD i false = true := by simp [Array.getD_eq_getD_getElem?, Array.getElem?_setIfInBounds, hl]
   cases he : isE o.op with
   | true =>
    have hmi : m ≤ i := by
     by_cases e : m ≤ i
     ·exact e
     ·have := (hE i o ho' he).2 (by omega); rw [hnl] at this; cases this
    have noE : ∀ j o', m ≤ j → j < i → ops[j]? = some o' → isE o'.op = false := by
     intro j o' h1 h2 hjo
     cases he' : isE o'.op with
     | false => rfl
     | true =>
      have hb := (hck.low j o' hjo he' (by rw [he]; rfl) h2).resolve_right (by simp [Ke]); have := (hE j o' hjo he').1 (hcl.bits i o ho' h3 j hb); omega
    have hB : B i = B m := by
     have := ko hst (i - m) m (by omega) (fun j o' h1 h2 hjo => noE j o' h1 (by omega) hjo)
     rwa [show m + (i - m) = i by omega] at this
    refine ⟨i + 1, by omega, ?_, ?_⟩
    ·exact hg.lift hslots (fun h => by rw [← hB]; exact h) (fun h => by rw [h, hB])
    ·intro j o' hjo he'
     by_cases e : j = i
     ·subst e; rw [set_eq]; exact ⟨fun _ => by omega, fun _ => rfl⟩
     ·rw [set_ne j e]; have hjl : j < ops.length := (List.getElem?_eq_some_iff.1 hjo).1
      by_cases hlt : j < i
      ·have hb := (hck.low j o' hjo he' (by rw [he]; rfl) hlt).resolve_right (by simp [Ke]); exact ⟨fun _ => by omega, fun _ => hcl.bits i o ho' h3 j hb⟩
      ·have AX := pO hc hjo; rw [Nat.zero_add] at AX; have hb := (AX.low i o ho' he (by rw [he']; rfl) (by omega)).resolve_right (by simp [Ke]); have := waits j o' hjo hb; rw [this]; exact ⟨fun h => (by cases h), fun h => (by omega)⟩
   | false =>
    have hbx : B (i + 1) = B i := hg.notE he; refine ⟨m, hm, ?_, ?_⟩
    ·by_cases hld : isLoad o.op = true
     ·
      obtain ⟨tl, yl, hol⟩ : ∃ t y, o.op = .load t y := by
       cases hop : o.op <;> rw [hop] at hld <;> first | exact ⟨_, _, rfl⟩ | (simp [isLoad] at hld; done)
      have keep : ∀ j off, ev (slL ops X sl fun j => listed.getD j false) yl = .a (.p j off) → ∀ b, (B i)[j]? = some b → (B m)[j]? = some b := by
       intro j0 Z9 hev b hb0
       by_cases hmi : m ≤ i
       ·have := ko hst (i - m) m (by omega) (fun j o' h1 h2 hjo => by
         cases he' : isE o'.op with
         | false => rfl
         | true =>
          have hb := (hck.low j o' hjo he' (by rw [hld]; simp) (by omega)).resolve_right (by simp [Ke])
          have := (hE j o' hjo he').1 (hcl.bits i o ho' h3 j hb); omega)
        rw [show m + (i - m) = i by omega] at this; rw [← this]; exact hb0
       ·have := AU hst (j0 := j0) (b := b) (m - i) i (by omega) (fun j o' h1 h2 hjo he' => by
         rcases hck.high j o' hjo he' hld he h1 with h | h | h
         ·exact .inl h
         ·have h5 := (hE j o' hjo he').2 (by omega); rw [waits j o' hjo h] at h5; cases h5
         ·right
          obtain ⟨t, a, y, u, b', j1, aaa, j2, ai7, p1, p2, p3, p4, p5, p6, p7⟩ := Hr h; refine ⟨t, a, y, j1, aaa, p1, p3, p5, ?_⟩; rw [hol] at p2; cases p2; have hev' : slL ops X sl (fun j => listed.getD j false) b' = .a (.p j0 Z9) := hev; rw [Kh p4, p6] at hev'; cases hev'
          exact p7) hb0
        rwa [show i + (m - i) = m by omega] at this
      refine hg.lift hslots (fun h => ?_) (fun _ => rfl)
      rcases h with ⟨h, _⟩ | h
      ·exact .inl ⟨h.keep hol keep, rfl⟩
      ·rw [h.kind] at he; cases he
     ·rw [Bool.not_eq_true] at hld; refine hg.lift hslots (fun h => ?_) (fun _ => rfl)
      rcases h with ⟨h, _⟩ | h
      ·exact .inl ⟨h.any hld _, rfl⟩
      ·rw [h.kind] at he; cases he
    ·intro j o' hjo he'
     have e : j ≠ i := fun e => by subst e; rw [ho'] at hjo; cases hjo; rw [he] at he'; cases he'
     rw [set_ne j e]; exact hE j o' hjo he'
  obtain ⟨m', hm', hstep, hE'⟩ := hboxes
  have hput : ∀ x, x = X i → rq (slL ops X sl fun j => listed.getD j false) o.dst x = slL ops X sl fun j => (listed.setIfInBounds i true).getD j false := by
   rintro x rfl
   refine EB ho' hck.dst ?_ fun j hj => ?_
   ·simp [Array.getD_eq_getD_getElem?, Array.getElem?_setIfInBounds, hl]
   ·simp [Array.getD_eq_getD_getElem?, Array.getElem?_setIfInBounds, Ne.symm hj]
  have hcnt' : cnt (listed.setIfInBounds i true).toList ≤ fuel := by
   have := yj (l := listed.toList) (i := i) (by simp [hl, hli]); rw [Array.toList_setIfInBounds]; omega
  have hcl' : Closed ops (listed.setIfInBounds i true) := hcl.set fun o'' ho'' => by rw [ho'] at ho''; cases ho''; exact h3
  have hw := wQ ops hrel.sl o; have hdst := (hst i o ho').1
  have nextOk : ∀ ρ' v W1, Rel w0 Pk n ρ' (rq (slL ops X sl fun j => listed.getD j false) o.dst (X i)) (B m') (a.put o.dst v) W1 → wpAny P .any ops.toArray Q fuel (listed.setIfInBounds i true) (a.put o.dst v) W1 := by
   intro ρ' v W1 hr; rw [hput _ rfl] at hr; exact ih _ m' ρ' _ _ (by simpa using hsz) hcnt' hcl' hm' hE' hr
  unfold wpOp; rw [ho]; dsimp only
  have goCase : Region.wanted o (yielded ops.toArray a.tmps) = true → Step P tt o (slL ops X sl fun j => listed.getD j false) (B m) (X i) (B m') → _ := fun hw hs =>
   show (if Region.wanted o (yielded ops.toArray a.tmps) = true then o.wp P a W (wpAny P .any ops.toArray Q fuel (listed.setIfInBounds i true)) Q ∨ (o.asks P a W ∧ LetsOut Q) else wpAny P .any ops.toArray Q fuel (listed.setIfInBounds i true) (a.put o.dst undef) W) by
    rw [if_pos hw]; exact .inl (hs.sound htt hrel fun ρ' v W1 hr => nextOk ρ' v W1 (hr hdst))
  have skipCase : Region.wanted o (yielded ops.toArray a.tmps) = false → X i = .u → B m' = B m → _ := fun hw hs hb =>
   show (if Region.wanted o (yielded ops.toArray a.tmps) = true then o.wp P a W (wpAny P .any ops.toArray Q fuel (listed.setIfInBounds i true)) Q ∨ (o.asks P a W ∧ LetsOut Q) else wpAny P .any ops.toArray Q fuel (listed.setIfInBounds i true) (a.put o.dst undef) W) by
    rw [if_neg (by rw [hw]; simp)]; refine nextOk ρ undef W ?_; rw [hs, hb]; exact ⟨hrel.st, Ay hrel.sl _ (by rw [hrel.sz]; exact hdst) rfl, by rw [tH]; exact hrel.df, by rw [tF]; exact hrel.sz⟩
  unfold GStep at hstep
  cases hg : lN ops (slL ops X sl fun j => listed.getD j false) o.guard with
  | yes => rw [hg] at hstep hw; exact goCase hw hstep
  | skip => rw [hg] at hstep hw; exact skipCase hw hstep.1 hstep.2
  | test b want =>
   rw [hg] at hstep hw; dsimp only at hstep hw
   cases hb : b == want with
   | true => rw [hb] at hstep hw; exact goCase hw hstep
   | false => rw [hb] at hstep hw; exact skipCase hw hstep.1 hstep.2
  | no => rw [hg] at hstep; exact hstep.elim
theorem xy (htt : tt.okB P = true) (hm : P.follows .mixedOrders = true) {w0 W : World} {Pk : Nat → Prop} {ρ : List Nat} {ops : List Oper} {sl : Sl} (hchk : xI sl ops = true) {n : Nat} {bx : List Bx} {K : Sl → List Bx → Prop} {Q : Exit → Act → World → Prop} {a : Act}
 (h : jZ P tt n ops K ops sl bx) (hrel : Rel w0 Pk n ρ sl bx a W) (hK : ∀ sl bx ρ a W, K sl bx → Rel w0 Pk n ρ sl bx a W → Q .normal a W) {id : Nat} : (Code.region id ops.toArray true).wp P Q a W := by
 rw [VA] at hchk; unfold chk at hchk; simp only [Bool.and_eq_true] at hchk; obtain ⟨hc, hA⟩ := hchk; obtain ⟨xs, htr, hk⟩ := vE ops h
 obtain ⟨X, hX⟩ : ∃ X : Nat → AV, ∀ i, X i = (xs.getD i (.u, [])).1 := ⟨_, fun _ => rfl⟩
 obtain ⟨B, hB0, hB⟩ : ∃ B : Nat → List Bx, B 0 = bx ∧ ∀ i, i < xs.length → B (i + 1) = (xs.getD i (.u, [])).2 := ⟨fun i => match i with | 0 => bx | i + 1 => (xs.getD i (.u, [])).2, rfl, fun _ _ => rfl⟩
 have h0 : slL ops X sl (fun j => decide (j < 0)) = sl := vF fun i => by simp
 obtain ⟨hs, hp, hlast⟩ := Tr.steps (P := P) (tt := tt) hc rfl hX hB (sl0 := sl) ops 0 xs rfl rfl (by rw [h0, hB0]; exact htr); rw [h0] at hp; rw [hB0, Nat.zero_add] at hlast; rw [hp, hlast] at hk; refine wp_region_any hm (OJ (w0 := w0) (Pk := Pk) htt hc hA (fun i o ho => hs i o (Nat.zero_le _) ho) (fun ρ a W hr => hK _ _ ρ a W hk hr) _ _ 0 ρ _ _ (by simp) (by simp [wV]) ?_ (Nat.zero_le _) ?_ ?_)
 ·intro k o hk'; exfalso
  have : (Array.replicate ops.toArray.size false).getD k false = false := by
   simp [Array.getD_eq_getD_getElem?, Array.getElem?_replicate]
   split <;> rfl
  rw [this] at hk'; cases hk'
 ·intro j o _ _
  have : (Array.replicate ops.toArray.size false).getD j false = false := by
   simp [Array.getD_eq_getD_getElem?, Array.getElem?_replicate]
   split <;> rfl
  rw [this]; exact ⟨fun h => (by cases h), fun h => by omega⟩
 ·have : (slL ops X sl fun j => (Array.replicate ops.toArray.size false).getD j false) = sl := vF fun i => by
   simp [Array.getD_eq_getD_getElem?, Array.getElem?_replicate]
   split <;> rfl
  rw [this, hB0]; exact hrel.below (xu W)
end
end Go.Proofs.Ytkgeihbcikiedaa.A
set_option linter.unusedVariables false
set_option linter.unusedSimpArgs false
set_option linter.constructorNameAsVariable false
namespace Go.Proofs.Ytkgeihbcikiedaa.A
open Go.RowKit Go.Proofs.YtkgeihbcikiedaaW.PrintWords Go.Proofs.YtkgeihbcikiedaaW.PrintMore
def AA.lt (k : Nat) : AA → Bool
 | .p j _ => Nat.blt j k
 | _ => true
def AA.lts (k : Nat) : List AA → Bool
 | [] => true
 | x :: r => x.lt k && AA.lts k r
def AE.lt (k : Nat) : AE → Bool
 | .a x => x.lt k
 | .g xs => AA.lts k xs
def AE.lts (k : Nat) : List AE → Bool
 | [] => true
 | x :: r => x.lt k && AE.lts k r
def AV.lt (k : Nat) : AV → Bool
 | .a x => x.lt k
 | .g xs => AA.lts k xs
 | .t es => AE.lts k es
 | .c _ es => AE.lts k es
 | .u => true
 | .z => true
section
variable {ρ : List Nat} {ok : Nat → Prop} {W : World} {v : Value} {k : Nat}
theorem AA.R.lt {x : AA} (h : x.R ρ ok W v) : x.lt ρ.length = true := by
 cases x with
 | p j off => obtain ⟨g, hg, _⟩ := h; exact Nat.ble_eq_true_of_le (List.getElem?_eq_some_iff.1 hg).1
 | _ => rfl
theorem Rs.lt : ∀ {xs : List AA} {vs : List Value}, Rs ρ ok W xs vs → AA.lts ρ.length xs = true
 | [], [], _ => rfl
 | _ :: _, _ :: _, h => by unfold AA.lts; rw [AA.R.lt h.1, Rs.lt h.2]; rfl
 | [], _ :: _, h => h.elim
 | _ :: _, [], h => h.elim
theorem AE.R.lt {x : AE} (h : x.R ρ ok W v) : x.lt ρ.length = true := by
 cases x with
 | a x => exact AA.R.lt (x := x) (v := v) h
 | g xs => obtain ⟨arr, _, hr⟩ := h; exact hr.lt
theorem REs.lt : ∀ {xs : List AE} {vs : List Value}, REs ρ ok W xs vs → AE.lts ρ.length xs = true
 | [], [], _ => rfl
 | _ :: _, _ :: _, h => by unfold AE.lts; rw [AE.R.lt h.1, REs.lt h.2]; rfl
 | [], _ :: _, h => h.elim
 | _ :: _, [], h => h.elim
theorem AV.R.lt {x : AV} (h : x.R ρ ok W v) : x.lt ρ.length = true := by
 cases x with
 | a x => exact AA.R.lt (x := x) (v := v) h
 | g xs => obtain ⟨arr, _, hr⟩ := h; exact hr.lt
 | t es => obtain ⟨arr, _, hr⟩ := h; exact hr.lt
 | c f es => obtain ⟨arr, _, hr⟩ := h; exact hr.lt
 | u => rfl
 | z => rfl
theorem AA.R.cut {x : AA} (h : x.R ρ ok W v) (hl : x.lt k = true) : x.R (ρ.take k) ok W v := by
 cases x with
 | p j off =>
  obtain ⟨g, hg, hv⟩ := h; have hj : j < k := Nat.le_of_ble_eq_true hl; exact ⟨g, by rw [List.getElem?_take_of_lt hj]; exact hg, hv⟩
 | _ => exact h
theorem Rs.cut : ∀ {xs : List AA} {vs : List Value}, Rs ρ ok W xs vs → AA.lts k xs = true → Rs (ρ.take k) ok W xs vs
 | [], [], _, _ => trivial
 | _ :: _, _ :: _, h, hl => by
  unfold AA.lts at hl; rw [Bool.and_eq_true] at hl; exact ⟨AA.R.cut h.1 hl.1, Rs.cut h.2 hl.2⟩
 | [], _ :: _, h, _ => h.elim
 | _ :: _, [], h, _ => h.elim
theorem AE.R.cut {x : AE} (h : x.R ρ ok W v) (hl : x.lt k = true) : x.R (ρ.take k) ok W v := by
 cases x with
 | a x => exact AA.R.cut (x := x) (v := v) h hl
 | g xs => obtain ⟨arr, hv, hr⟩ := h; exact ⟨arr, hv, hr.cut hl⟩
theorem REs.cut : ∀ {xs : List AE} {vs : List Value}, REs ρ ok W xs vs → AE.lts k xs = true → REs (ρ.take k) ok W xs vs
 | [], [], _, _ => trivial
 | _ :: _, _ :: _, h, hl => by
  unfold AE.lts at hl; rw [Bool.and_eq_true] at hl; exact ⟨AE.R.cut h.1 hl.1, REs.cut h.2 hl.2⟩
 | [], _ :: _, h, _ => h.elim
 | _ :: _, [], h, _ => h.elim
theorem AV.R.cut {x : AV} (h : x.R ρ ok W v) (hl : x.lt k = true) : x.R (ρ.take k) ok W v := by
 cases x with
 | a x => exact AA.R.cut (x := x) (v := v) h hl
 | g xs => obtain ⟨arr, hv, hr⟩ := h; exact ⟨arr, hv, hr.cut hl⟩
 | t es => obtain ⟨arr, hv, hr⟩ := h; exact ⟨arr, hv, hr.cut hl⟩
 | c f es => obtain ⟨arr, hv, hr⟩ := h; exact ⟨arr, hv, hr.cut hl⟩
 | u => exact h
 | z => trivial
end
theorem Rel.swap {w0 W : World} {Pk : Nat → Prop} {n : Nat} {ρ : List Nat} {bx : List Bx} {ca cb : Bx} {sl sl' : Sl} {a : Act} (h : Rel w0 Pk n ρ sl (bx ++ [cb] ++ [ca]) a W) (hb : ∀ c ∈ bx, AA.lts bx.length c.cells = true) (hca : AA.lts bx.length ca.cells = true) (hcb : AA.lts bx.length cb.cells = true)
 (hs : ∀ t, (sl t = .a (.p bx.length 0) ∧ sl' t = .a (.p (bx.length + 1) 0)) ∨ (sl t = .a (.p (bx.length + 1) 0) ∧ sl' t = .a (.p bx.length 0)) ∨ (sl' t = sl t ∧ (sl t).lt bx.length = true)) : ∃ ρ', Rel w0 Pk n ρ' sl' (bx ++ [ca] ++ [cb]) a W := by
 have hlen := h.st.len; simp only [List.length_append, List.length_singleton] at hlen
 obtain ⟨ρ1, gb, ga, rfl, hl⟩ : ∃ ρ1 gb ga, ρ = ρ1 ++ [gb] ++ [ga] ∧ ρ1.length = bx.length := by
  have n1 : ρ ≠ [] := fun e => by rw [e] at hlen; simp at hlen
  have e1 := List.dropLast_concat_getLast n1
  have l1 : ρ.dropLast.length = bx.length + 1 := by rw [List.length_dropLast]; omega
  have n2 : ρ.dropLast ≠ [] := fun e => by rw [e] at l1; simp at l1
  have e2 := List.dropLast_concat_getLast n2; exact ⟨ρ.dropLast.dropLast, _, _, by rw [e2, e1], by rw [List.length_dropLast]; omega⟩
 have perm : (ρ1 ++ [gb] ++ [ga]).Perm (ρ1 ++ [ga] ++ [gb]) := by
  rw [List.append_assoc, List.append_assoc]; exact List.Perm.append_left ρ1 (List.Perm.swap _ _ _)
 have take1 : (ρ1 ++ [gb] ++ [ga]).take bx.length = ρ1 := by rw [← hl, List.append_assoc, List.take_left']; rfl
 have g1 : ∀ j g, ρ1[j]? = some g → (ρ1 ++ [ga] ++ [gb])[j]? = some g := fun j g hj => by
  have := (List.getElem?_eq_some_iff.1 hj).1; rw [List.append_assoc, List.getElem?_append_left this]; exact hj
 have ok1 : ∀ k, okS Pk w0.heap.size (ρ1 ++ [gb] ++ [ga]) k → okS Pk w0.heap.size (ρ1 ++ [ga] ++ [gb]) k := fun k hk => ⟨hk.1, fun hm => hk.2 (perm.mem_iff.2 hm)⟩
 have cells : ∀ {cs : List AA} {vs : List Value}, Rs (ρ1 ++ [gb] ++ [ga]) (okS Pk w0.heap.size (ρ1 ++ [gb] ++ [ga])) W cs vs → AA.lts bx.length cs = true → Rs (ρ1 ++ [ga] ++ [gb]) (okS Pk w0.heap.size (ρ1 ++ [ga] ++ [gb])) W cs vs := fun hr hlt => by
  have := hr.cut hlt; rw [take1] at this; exact this.move (fun _ _ _ => rfl) (fun k hk _ => ok1 k hk) g1
 refine ⟨ρ1 ++ [ga] ++ [gb], ⟨h.st.bel, by simp [hl], (List.Perm.nodup_iff perm).1 h.st.nodup, fun g hg => h.st.ge g (perm.mem_iff.2 hg), ?_⟩, ?_, h.df, h.sz⟩
 ·intro j g c hj hc; have hjl := (List.getElem?_eq_some_iff.1 hj).1; simp only [List.length_append, List.length_singleton] at hjl
  by_cases h1 : j < bx.length
  ·rw [List.append_assoc, List.getElem?_append_left (by omega)] at hj; rw [List.append_assoc, List.getElem?_append_left h1] at hc; obtain ⟨arr, e1, e2⟩ := h.st.box j g c (by rw [List.append_assoc, List.getElem?_append_left (by omega)]; exact hj) (by rw [List.append_assoc, List.getElem?_append_left h1]; exact hc); exact ⟨arr, e1, cells e2 (hb c (List.mem_of_getElem? hc))⟩
  ·by_cases h2 : j = bx.length
   ·subst h2; rw [List.append_assoc, List.getElem?_append_right (by omega), hl, Nat.sub_self] at hj; rw [List.append_assoc, List.getElem?_append_right (by omega), Nat.sub_self] at hc; simp at hj hc; subst hj; subst hc; obtain ⟨arr, e1, e2⟩ := h.st.box (bx.length + 1) ga ca (by rw [List.append_assoc, List.getElem?_append_right (by omega), hl]; simp) (by rw [List.append_assoc, List.getElem?_append_right (by omega)]; simp); exact ⟨arr, e1, cells e2 hca⟩
   ·have h3 : j = bx.length + 1 := by omega
    subst h3; rw [List.append_assoc, List.getElem?_append_right (by omega), hl] at hj; rw [List.append_assoc, List.getElem?_append_right (by omega)] at hc; simp at hj hc; subst hj; subst hc; obtain ⟨arr, e1, e2⟩ := h.st.box bx.length gb cb (by rw [List.append_assoc, List.getElem?_append_right (by omega), hl]; simp) (by rw [List.append_assoc, List.getElem?_append_right (by omega)]; simp); exact ⟨arr, e1, cells e2 hcb⟩
 ·intro t; have ht := h.sl t
  rcases hs t with ⟨s1, s2⟩ | ⟨s1, s2⟩ | ⟨s1, s2⟩
  ·rw [s1] at ht; rw [s2]; obtain ⟨g, hg, hv⟩ := ht; rw [List.append_assoc, List.getElem?_append_right (by omega), hl, Nat.sub_self] at hg; simp at hg; subst hg; exact ⟨gb, by rw [List.append_assoc, List.getElem?_append_right (by omega), hl]; simp, hv⟩
  ·rw [s1] at ht; rw [s2]; obtain ⟨g, hg, hv⟩ := ht; rw [List.append_assoc, List.getElem?_append_right (by omega), hl] at hg; simp at hg; subst hg; exact ⟨ga, by rw [List.append_assoc, List.getElem?_append_right (by omega), hl]; simp, hv⟩
  ·rw [s1]; have := ht.cut s2; rw [take1] at this; exact this.move (fun _ _ _ => rfl) (fun k hk _ => ok1 k hk) g1
def j3 : Op → Bool
 | .alloc _ => true
 | _ => false
def Xo : Option (Nat × Bool) → Bool
 | none => true
 | some _ => false
def ym : List Oper → Nat → List Nat
 | [], _ => []
 | o :: r, i => bif j3 o.op then i :: ym r (i + 1) else ym r (i + 1)
def Ki (l : List Oper) : Bool := match ym l 0 with
 | [_, _] => true
 | _ => false
def OL (ia ib : Nat) (C : List Nat) : List Oper → Nat → Bool
 | [], _ => true
 | o :: r, i => ((bif Nat.beq i ia || Nat.beq i ib then j3 o.op && Xo o.guard else (bif Nat.blt i ib then !isE o.op else true)) && (!(C.getD i 0).testBit ib || (C.getD i 0).testBit ia)) && OL ia ib C r (i + 1)
def EC (ia ib : Nat) : Nat → Nat → Bool := fun j i => Nat.beq j ia && Nat.beq i ib
def adH (sl : Sl) (ops : List Oper) (ia ib : Nat) : Bool := AL ops fun ops => Ht ops [] fun C => BG ops sl (EC ia ib) C ops 0 && BH ops 0 && OL ia ib C ops 0 && Nat.blt ia ib && Nat.blt ib ops.length
def VB (sl : Sl) (ops : List Oper) : Bool := match ym ops 0 with
 | [ia, ib] => adH sl ops ia ib
 | _ => false
def AY (k : Nat) (sl : Sl) : List Oper → Bool
 | [] => true
 | o :: r => (bif j3 o.op then true else (match o.dst with
  | some d => (sl d).lt k
  | none => true)) && AY k sl r
theorem Hw {k : Nat} {sl : Sl} : ∀ {l : List Oper}, AY k sl l = true → ∀ {i : Nat} {o : Oper}, l[i]? = some o → j3 o.op = false → ∀ d, o.dst = some d → (sl d).lt k = true
 | [], _, i, o, h, _, _, _ => by simp at h
 | o :: r, h, 0, o', e, ha, d, hd => by
  simp at e; subst e; unfold AY at h; rw [ha, hd] at h; simp only [cond_false, Bool.and_eq_true] at h; exact h.1
 | o :: r, h, i + 1, o', e, ha, d, hd => by
  unfold AY at h; rw [Bool.and_eq_true] at h; exact Hw h.2 (i := i) (by simpa using e) ha d hd
structure aab (ia ib : Nat) (C : List Nat) (o : Oper) (i : Nat) : Prop where
 al : i = ia ∨ i = ib → j3 o.op = true ∧ o.guard = none
 noE : i < ib → i ≠ ia → isE o.op = false
 dep : (C.getD i 0).testBit ib = true → (C.getD i 0).testBit ia = true
theorem vG {ia ib : Nat} {C : List Nat} : ∀ {l : List Oper} {i : Nat}, OL ia ib C l i = true → ∀ {k : Nat} {o : Oper}, l[k]? = some o → aab ia ib C o (i + k)
 | [], _, _, k, o, h => by simp at h
 | o :: r, i, h, 0, o', e => by
  simp at e; subst e; unfold OL at h; rw [Bool.and_eq_true, Bool.and_eq_true] at h; obtain ⟨⟨h1, h2⟩, _⟩ := h; refine ⟨fun hi => ?_, fun h3 h4 => ?_, fun h3 => ?_⟩
  ·have : (Nat.beq i ia || Nat.beq i ib) = true := by rcases hi with e | e <;> simp at e <;> subst e <;> simp
   rw [this] at h1; simp only [cond_true, Bool.and_eq_true] at h1; refine ⟨h1.1, ?_⟩
   cases hg : o.guard with
   | none => rfl
   | some g => rw [hg] at h1; simp [Xo] at h1
  ·have e1 : Nat.beq i ia = false := by cases hb : Nat.beq i ia with | false => rfl | true => exact absurd (Nat.eq_of_beq_eq_true hb) (by simpa using h4)
   have e2 : Nat.beq i ib = false := by cases hb : Nat.beq i ib with | false => rfl | true => (have := Nat.eq_of_beq_eq_true hb; simp at h3; omega)
   have e3 : Nat.blt i ib = true := Nat.ble_eq_true_of_le (show i + 1 ≤ ib by simp at h3; omega); rw [e1, e2, e3] at h1
   simpa using h1
  ·rw [Nat.add_zero] at h3 ⊢; rw [h3] at h2
   simpa using h2
 | o :: r, i, h, k + 1, o', e => by
  unfold OL at h; rw [Bool.and_eq_true] at h; have := vG h.2 (k := k) (o := o') (by simpa using e); rw [show i + (k + 1) = i + 1 + k by omega]; exact this
section
variable {P : Program} {tt : TT}
theorem ED (htt : tt.okB P = true) {w0 W : World} {Pk : Nat → Prop} {ρ : List Nat} {ops : List Oper} {o : Oper} {i n : Nat} {sl : Sl} {bx bx' : List Bx} {x : AV} {a : Act} {K : Act → World → Prop} {Q : Exit → Act → World → Prop} (ho : ops[i]? = some o)
 (hrel : Rel w0 Pk n ρ sl bx a W) (hstep : GStep P tt ops o sl bx x bx') (hdst : nV n o.dst) (next : ∀ ρ' v W1, Rel w0 Pk n ρ' (rq sl o.dst x) bx' (a.put o.dst v) W1 → K (a.put o.dst v) W1) : wpOp P ops.toArray Q i K a W := by
 have hw := wQ ops hrel.sl o; unfold wpOp; rw [show ops.toArray[i]? = some o by simpa using ho]; dsimp only
 have goCase : Region.wanted o (yielded ops.toArray a.tmps) = true → Step P tt o sl bx x bx' → _ := fun hw hs =>
  show (if Region.wanted o (yielded ops.toArray a.tmps) = true then o.wp P a W K Q ∨ (o.asks P a W ∧ LetsOut Q) else K (a.put o.dst undef) W) by
   rw [if_pos hw]; exact .inl (hs.sound htt hrel fun ρ' v W1 hr => next ρ' v W1 (hr hdst))
 have skipCase : Region.wanted o (yielded ops.toArray a.tmps) = false → x = .u → bx' = bx → _ := fun hw hs hb =>
  show (if Region.wanted o (yielded ops.toArray a.tmps) = true then o.wp P a W K Q ∨ (o.asks P a W ∧ LetsOut Q) else K (a.put o.dst undef) W) by
   rw [if_neg (by rw [hw]; simp)]; refine next ρ undef W ?_; rw [hs, hb]; exact ⟨hrel.st, Ay hrel.sl _ (by rw [hrel.sz]; exact hdst) rfl, by rw [tH]; exact hrel.df, by rw [tF]; exact hrel.sz⟩
 unfold GStep at hstep
 cases hg : lN ops sl o.guard with
 | yes => rw [hg] at hstep hw; exact goCase hw hstep
 | skip => rw [hg] at hstep hw; exact skipCase hw hstep.1 hstep.2
 | test b want =>
  rw [hg] at hstep hw; dsimp only at hstep hw
  cases hb : b == want with
  | true => rw [hb] at hstep hw; exact goCase hw hstep
  | false => rw [hb] at hstep hw; exact skipCase hw hstep.1 hstep.2
 | no => rw [hg] at hstep; exact hstep.elim
theorem AZ {ops : List Oper} {o : Oper} {sl : Sl} {bx bx' : List Bx} {x : AV} (ha : j3 o.op = true) (hg : o.guard = none) (h : GStep P tt ops o sl bx x bx') (htt : tt.okB P = true) (W : World) :
 ∃ c : Bx, (∀ k, AA.lts k c.cells = true) ∧ x = .a (.p bx.length 0) ∧ bx' = bx ++ [c] ∧ ∀ (sl2 : Sl) (bx2 : List Bx), GStep P tt ops o sl2 bx2 (.a (.p bx2.length 0)) (bx2 ++ [c]) := by
 unfold GStep at h; rw [hg] at h; have h : Step P tt o sl bx x bx' := h
 rcases h with ⟨h, _⟩ | h
 ·have := h.notE; exfalso
  cases hop : o.op <;> rw [hop] at ha this <;> simp [j3, isE] at ha this
 ·unfold ql at h
  split at h
  ·rename_i ho; rw [ho] at ha; cases ha
  ·rename_i t ho; obtain ⟨ti, h1, h2, h3⟩ := h; refine ⟨⟨ti.zero, t⟩, fun k => ?_, by rw [h2, rQ]; simp, h3, fun sl2 bx2 => ?_⟩
   ·obtain ⟨_, z, _, _, _, hz⟩ := TI.info (TT.fF htt h1); have := (oK (ρ := List.replicate k 0) (ok := fun _ => True) (W := W) hz).lt
    rwa [List.length_replicate] at this
   unfold GStep; rw [hg]; show Step P tt o sl2 bx2 _ _
   right
   unfold ql; rw [ho]; exact ⟨ti, h1, by rw [rQ]; simp, rfl⟩
  ·rename_i ho; rw [ho] at ha; cases ha
  ·exact h.elim
theorem MP {w0 : World} {Pk : Nat → Prop} {ops : List Oper} {sl : Sl} {n : Nat} {X : Nat → AV} {B : Nat → List Bx} {Q : Exit → Act → World → Prop}
 (hst : ∀ i o, ops[i]? = some o → nV n o.dst ∧ GStep P tt ops o (slL ops X sl fun j => decide (j < i)) (B i) (X i) (B (i + 1)))
 (hend : ∀ ρ a W, Rel w0 Pk n ρ (slL ops X sl fun j => decide (j < ops.length)) (B ops.length) a W → Q .normal a W)
 {listed : Array Bool} {m : Nat} {ρ : List Nat} {a : Act} {W : World} (hm : m ≤ ops.length) (hE : ∀ j o, ops[j]? = some o → isE o.op = true → (listed.getD j false = true ↔ j < m))
 (hrel : Rel w0 Pk n ρ (slL ops X sl fun j => listed.getD j false) (B m) a W) (hall : ∀ i, i < ops.length → listed.getD i false = true) : Q .normal a W := by
 have e1 : (slL ops X sl fun j => listed.getD j false) = slL ops X sl fun j => decide (j < ops.length) := wT fun j hj => by rw [hall j hj, decide_eq_true hj]
 have e2 : B ops.length = B m := by
  have := ko hst (ops.length - m) m (by omega) (fun j o h1 h2 ho => by
   cases he : isE o.op with
   | false => rfl
   | true =>
    have := (hE j o ho he).1 (hall j (by omega)); omega)
  rwa [show m + (ops.length - m) = ops.length by omega] at this
 rw [e1, ← e2] at hrel; exact hend ρ a W hrel
theorem OM (htt : tt.okB P = true) {w0 : World} {Pk : Nat → Prop} {ops : List Oper} {sl : Sl} {ia ib : Nat} (hc : BG ops sl (EC ia ib) (nD ops []) ops 0 = true) (hA : BH ops 0 = true) (hO : OL ia ib (nD ops []) ops 0 = true) (hab : ia < ib) (hib : ib < ops.length) {n : Nat} {X : Nat → AV} {B : Nat → List Bx} {Q : Exit → Act → World → Prop}
 (hst : ∀ i o, ops[i]? = some o → nV n o.dst ∧ GStep P tt ops o (slL ops X sl fun j => decide (j < i)) (B i) (X i) (B (i + 1)))
 (hend : ∀ ρ a W, Rel w0 Pk n ρ (slL ops X sl fun j => decide (j < ops.length)) (B ops.length) a W → Q .normal a W)
 (hsl : ∀ t, (sl t).lt (B 0).length = true) (hcl0 : ∀ c ∈ B 0, AA.lts (B 0).length c.cells = true) (hX : ∀ i o, ops[i]? = some o → j3 o.op = false → ∀ d, o.dst = some d → (X i).lt (B 0).length = true) (W0 : World) :
 ∀ (fuel : Nat) (listed : Array Bool) (a : Act) (W : World), listed.size = ops.length → cnt listed.toList ≤ fuel → Closed ops listed →
  ((∃ m ρ, m ≤ ops.length ∧ (∀ j o, ops[j]? = some o → isE o.op = true → (listed.getD j false = true ↔ j < m)) ∧ Rel w0 Pk n ρ (slL ops X sl fun j => listed.getD j false) (B m) a W) ∨
   (∃ cb ρ, listed.getD ia false = false ∧ listed.getD ib false = true ∧ (∀ k, AA.lts k cb.cells = true) ∧ (X ib = .a (.p ((B 0).length + 1) 0) ∧ B (ib + 1) = B ib ++ [cb]) ∧ Rel w0 Pk n ρ (slL ops (fun i => bif Nat.beq i ib then .a (.p (B 0).length 0) else X i) sl fun j => listed.getD j false) (B 0 ++ [cb]) a W)) → wpAny P .any ops.toArray Q fuel listed a W := by
 have hia : ia < ops.length := by omega
 have oa : ops[ia]? = some ops[ia] := List.getElem?_eq_getElem hia; have ob : ops[ib]? = some ops[ib] := List.getElem?_eq_getElem hib; have ka := vG hO oa; have kb := vG hO ob; rw [Nat.zero_add] at ka kb; obtain ⟨aa, ag⟩ := ka.al (.inl rfl); obtain ⟨ba, bg⟩ := kb.al (.inr rfl)
 have isEa : ∀ {op : Op}, j3 op = true → isE op = true := fun {op} h => by cases op <;> simp [j3] at h <;> rfl
 have noE : ∀ j o', j < ib → j ≠ ia → ops[j]? = some o' → isE o'.op = false := fun j o' h1 h2 hj => by
  have := vG hO hj; rw [Nat.zero_add] at this; exact this.noE h1 h2
 have Ba : ∀ m, m ≤ ia → B m = B 0 := fun m hm => by
  have := ko hst m 0 (by omega) (fun j o' h1 h2 hjo => noE j o' (by omega) (by omega) hjo)
  rwa [Nat.zero_add] at this
 obtain ⟨ca, la, xa, ea, sa⟩ := AZ aa ag (hst ia _ oa).2 htt W0; obtain ⟨cb, lb, xb, eb, sb⟩ := AZ ba bg (hst ib _ ob).2 htt W0; rw [Ba ia (Nat.le_refl _)] at xa ea
 have Bb : B ib = B 0 ++ [ca] := by
  have := ko hst (ib - (ia + 1)) (ia + 1) (by omega) (fun j o' h1 h2 hjo => noE j o' (by omega) (by omega) hjo); rw [show ia + 1 + (ib - (ia + 1)) = ib by omega] at this; rw [this, ea]
 rw [Bb] at xb eb
 have xb' : X ib = .a (.p ((B 0).length + 1) 0) := by rw [xb]; simp
 intro fuel
 induction fuel with
 | zero =>
  intro listed a W hsz hcnt hcl hph
  have hall : ∀ i, i < ops.length → listed.getD i false = true := by
   intro i hi
   have hl : i < listed.size := by omega
   have : listed.toList[i]? = some (listed[i]) := by simp [hl]
   have ht := AP (by omega) i _ this; simp [Array.getD_eq_getD_getElem?, Array.getElem?_eq_getElem hl, ht]
  have hr : Region.ready .any ops.toArray listed = [] := by
   apply List.eq_nil_iff_forall_not_mem.2; intro i hi; obtain ⟨h1, h2, _⟩ := mem_ready.1 hi
   have hil : i < ops.length := by simpa using h1
   have hl : i < listed.size := by omega
   have := hall i hil; simp [Array.getD_eq_getD_getElem?, Array.getElem?_eq_getElem hl] at this h2; rw [this] at h2; cases h2
  refine ⟨hr, ?_⟩
  rcases hph with ⟨m, ρ, hm, hE, hrel⟩ | ⟨cb, ρ, h1, _⟩
  ·exact MP hst hend hm hE hrel hall
  ·rw [hall ia hia] at h1; cases h1
 | succ fuel ih =>
  intro listed a W hsz hcnt hcl hph; refine ⟨fun hr => ?_, fun i hi => ?_⟩
  ·have hall := Cs hA hsz hr
   rcases hph with ⟨m, ρ, hm, hE, hrel⟩ | ⟨cb, ρ, h1, _⟩
   ·exact MP hst hend hm hE hrel hall
   ·rw [hall ia hia] at h1; cases h1
  obtain ⟨h1, h2', o, ho, h3⟩ := mem_ready.1 hi
  have ho' : ops[i]? = some o := by simpa using ho
  have hil : i < ops.length := by simpa using h1
  have hl : i < listed.size := by omega
  have hck := pO hc ho'; have hok := vG hO ho'; rw [Nat.zero_add] at hck hok
  have hli : listed[i] = false := by simpa [Array.getD_eq_getD_getElem?, Array.getElem?_eq_getElem hl] using h2'
  have hnl : listed.getD i false = false := by simp [Array.getD_eq_getD_getElem?, Array.getElem?_eq_getElem hl, hli]
  have waits : ∀ j o', ops[j]? = some o' → ((nD ops []).getD j 0).testBit i = true → listed.getD j false = false := by
   intro j o' hjo hb
   cases hlj : listed.getD j false with
   | false => rfl
   | true =>
    exfalso; have := hcl.bits j o' hjo (fun e he hb' => hcl j o' hlj hjo e he hb') i hb; rw [hnl] at this; cases this
  have done : ∀ j, ((nD ops []).getD i 0).testBit j = true → listed.getD j false = true := hcl.bits i o ho' h3
  have set_ne : ∀ j, j ≠ i → (listed.setIfInBounds i true).getD j false = listed.getD j false := fun j hj => by
   simp [Array.getD_eq_getD_getElem?, Array.getElem?_setIfInBounds, Ne.symm hj]
  have set_eq : (listed.setIfInBounds i true).getD i false = true := by simp [Array.getD_eq_getD_getElem?, Array.getElem?_setIfInBounds, hl]
  have hcnt' : cnt (listed.setIfInBounds i true).toList ≤ fuel := by
   have := yj (l := listed.toList) (i := i) (by simp [hl, hli]); rw [Array.toList_setIfInBounds]; omega
  have hcl' : Closed ops (listed.setIfInBounds i true) := hcl.set fun o'' ho'' => by rw [ho'] at ho''; cases ho''; exact h3
  have hdst := (hst i o ho').1; have again := ih (listed.setIfInBounds i true); have hslots : ∀ Y : Nat → AV, (∀ j, j ≠ ib → Y j = X j) → (listed.getD ia false = false → listed.getD ib false = true → True) → (listed.getD ib false = true → listed.getD ia false = true ∨ True) →
   (∀ t ∈ looks ops o, dI t ops 0 = some ib → Y ib = X ib ∨ False) → ∀ t ∈ looks ops o, (slL ops X sl fun j => decide (j < i)) t = (slL ops Y sl fun j => listed.getD j false) t := by
   intro Y hY _ _ hyb t ht; unfold slL
   cases hw : dI t ops 0 with
   | none => rfl
   | some j =>
    have eY : Y j = X j := by
     by_cases e : j = ib
     ·subst e; exact (hyb t ht hw).resolve_right id
     ·exact hY j e
    rcases hck.look t ht j hw with ⟨hj, hb⟩ | ⟨hj, hb⟩
    ·dsimp only; rw [decide_eq_true hj, done j hb, eY]
    ·obtain ⟨j', o', e, g1, _⟩ := iC hw
     have hjo : ops[j]? = some o' := by rw [show j = j' by omega]; exact g1
     dsimp only; rw [decide_eq_false (show ¬ j < i by omega), waits j o' hjo hb]; rfl
  have putX : ∀ Y : Nat → AV, rq (slL ops Y sl fun j => listed.getD j false) o.dst (Y i) = slL ops Y sl fun j => (listed.setIfInBounds i true).getD j false := fun Y =>
   EB ho' hck.dst set_eq fun j hj => set_ne j hj
  rcases hph with ⟨m, ρ, hm, hE, hrel⟩ | ⟨cb', ρ, nla, lbt, lcb, ⟨_, ebb⟩, hrel⟩
  ·
   have hg := (hst i o ho').2; have hs0 := hslots X (fun _ _ => rfl) (fun _ _ => trivial) (fun _ => .inr trivial) (fun _ _ _ => .inl rfl)
   by_cases hbi : i = ib ∧ listed.getD ia false = false
   ·obtain ⟨rfl, nla⟩ := hbi
    have hmi : m ≤ ia := by
     by_cases e : m ≤ ia
     ·exact e
     ·have := (hE ia _ oa (isEa aa)).2 (by omega); rw [nla] at this; cases this
    rw [Ba m hmi] at hrel; rw [ob] at ho'; cases ho'
    refine ED htt ob hrel (sb _ (B 0)) hdst fun ρ' v W1 hr => ?_
    refine again _ W1 (by simpa using hsz) hcnt' hcl' (.inr ⟨cb, ρ', by rw [set_ne ia (by omega)]; exact nla, set_eq, lb, ⟨xb', by rw [eb, Bb]⟩, ?_⟩)
    have e1 : (slL ops X sl fun j => listed.getD j false) = slL ops (fun j => bif Nat.beq j i then .a (.p (B 0).length 0) else X j) sl fun j => listed.getD j false := by
     funext t
     unfold slL
     cases hw : dI t ops 0 with
     | none => rfl
     | some j =>
      dsimp only
      by_cases e : j = i
      ·subst e; rw [hnl]; rfl
      ·rw [show Nat.beq j i = false by cases hb : Nat.beq j i with | false => rfl | true => exact absurd (Nat.eq_of_beq_eq_true hb) e]; rfl
    rw [e1] at hr; have e2 := putX (fun j => bif Nat.beq j i then .a (.p (B 0).length 0) else X j); rw [show (bif Nat.beq i i then AV.a (.p (B 0).length 0) else X i) = .a (.p (B 0).length 0) by simp] at e2; rw [e2] at hr; exact hr
   ·have hboxes : ∃ m', m' ≤ ops.length ∧ GStep P tt ops o (slL ops X sl fun j => listed.getD j false) (B m) (X i) (B m') ∧ (∀ j o', ops[j]? = some o' → isE o'.op = true → ((listed.setIfInBounds i true).getD j false = true ↔ j < m')) := by
     cases he : isE o.op with
     | true =>
      have hmi : m ≤ i := by
       by_cases e : m ≤ i
       ·exact e
       ·have := (hE i o ho' he).2 (by omega); rw [hnl] at this; cases this
      have iba : i = ib → listed.getD ia false = true := fun e => by
       cases h : listed.getD ia false with
       | true => rfl
       | false => exact absurd ⟨e, h⟩ hbi
      have noE' : ∀ j o', m ≤ j → j < i → ops[j]? = some o' → isE o'.op = false := by
       intro j o' h1 h2 hjo
       cases he' : isE o'.op with
       | false => rfl
       | true =>
        exfalso
        rcases hck.low j o' hjo he' (by rw [he]; rfl) h2 with hb | hb
        ·have := (hE j o' hjo he').1 (done j hb); omega
        ·unfold EC at hb; rw [Bool.and_eq_true] at hb; have e1 := Nat.eq_of_beq_eq_true hb.1; have e2 := Nat.eq_of_beq_eq_true hb.2; subst e1; have := (hE j o' hjo he').1 (iba e2); omega
      have hB : B i = B m := by
       have := ko hst (i - m) m (by omega) (fun j o' h1 h2 hjo => noE' j o' h1 (by omega) hjo)
       rwa [show m + (i - m) = i by omega] at this
      refine ⟨i + 1, by omega, ?_, ?_⟩
      ·exact hg.lift hs0 (fun h => by rw [← hB]; exact h) (fun h => by rw [h, hB])
      ·intro j o' hjo he'
       by_cases e : j = i
       ·subst e; rw [set_eq]; exact ⟨fun _ => by omega, fun _ => rfl⟩
       ·rw [set_ne j e]
        by_cases hlt : j < i
        ·refine ⟨fun _ => by omega, fun _ => ?_⟩
         rcases hck.low j o' hjo he' (by rw [he]; rfl) hlt with hb | hb
         ·exact done j hb
         ·unfold EC at hb; rw [Bool.and_eq_true] at hb; have e1 := Nat.eq_of_beq_eq_true hb.1; have e2 := Nat.eq_of_beq_eq_true hb.2; subst e1; exact iba e2
        ·have AX := pO hc hjo; rw [Nat.zero_add] at AX
         have hjf : listed.getD j false = false := by
          rcases AX.low i o ho' he (by rw [he']; rfl) (by omega) with hb | hb
          ·exact waits j o' hjo hb
          ·cases hlj : listed.getD j false with
           | false => rfl
           | true => have := (hE j o' hjo he').1 hlj; omega
         rw [hjf]; exact ⟨fun h => (by cases h), fun h => (by omega)⟩
     | false =>
      refine ⟨m, hm, ?_, ?_⟩
      ·by_cases hld : isLoad o.op = true
       ·obtain ⟨tl, yl, hol⟩ : ∃ t y, o.op = .load t y := by
         cases hop : o.op <;> rw [hop] at hld <;> first | exact ⟨_, _, rfl⟩ | (simp [isLoad] at hld; done)
        have keep : ∀ j off, ev (slL ops X sl fun j => listed.getD j false) yl = .a (.p j off) → ∀ b, (B i)[j]? = some b → (B m)[j]? = some b := by
         intro j0 Z9 hev b hb0
         by_cases hmi : m ≤ i
         ·have := ko hst (i - m) m (by omega) (fun j o' h1 h2 hjo => by
           cases he' : isE o'.op with
           | false => rfl
           | true =>
            rcases hck.low j o' hjo he' (by rw [hld]; simp) (by omega) with hb | hb
            ·have := (hE j o' hjo he').1 (done j hb); omega
            ·unfold EC at hb; rw [Bool.and_eq_true] at hb; have e2 := Nat.eq_of_beq_eq_true hb.2; subst e2; rw [ob] at ho'; cases ho'
             rw [isEa ba] at he; cases he)
          rw [show m + (i - m) = i by omega] at this; rw [← this]; exact hb0
         ·have := AU hst (j0 := j0) (b := b) (m - i) i (by omega) (fun j o' h1 h2 hjo he' => by
           rcases hck.high j o' hjo he' hld he h1 with h | h | h
           ·exact .inl h
           ·have h5 := (hE j o' hjo he').2 (by omega); rw [waits j o' hjo h] at h5; cases h5
           ·right
            obtain ⟨t, a, y, u, b', j1, aaa, j2, ai7, p1, p2, p3, p4, p5, p6, p7⟩ := Hr h; refine ⟨t, a, y, j1, aaa, p1, p3, p5, ?_⟩; rw [hol] at p2; cases p2; have hev' : slL ops X sl (fun j => listed.getD j false) b' = .a (.p j0 Z9) := hev; rw [Kh p4, p6] at hev'; cases hev'
            exact p7) hb0
          rwa [show i + (m - i) = m by omega] at this
        refine hg.lift hs0 (fun h => ?_) (fun _ => rfl)
        rcases h with ⟨h, _⟩ | h
        ·exact .inl ⟨h.keep hol keep, rfl⟩
        ·rw [h.kind] at he; cases he
       ·rw [Bool.not_eq_true] at hld; refine hg.lift hs0 (fun h => ?_) (fun _ => rfl)
        rcases h with ⟨h, _⟩ | h
        ·exact .inl ⟨h.any hld _, rfl⟩
        ·rw [h.kind] at he; cases he
      ·intro j o' hjo he'
       have e : j ≠ i := fun e => by subst e; rw [ho'] at hjo; cases hjo; rw [he] at he'; cases he'
       rw [set_ne j e]; exact hE j o' hjo he'
    obtain ⟨m', hm', hstep, hE'⟩ := hboxes
    refine ED htt ho' hrel hstep hdst fun ρ' v W1 hr => ?_
    rw [putX X] at hr; exact again _ W1 (by simpa using hsz) hcnt' hcl' (.inl ⟨m', ρ', hm', hE', hr⟩)
  ·
   have ecb : cb' = cb := by
    rw [ebb, Bb] at eb; have := List.append_cancel_left eb
    simpa using this
   subst ecb
   obtain ⟨Y, hY⟩ : ∃ Y : Nat → AV, Y = fun j => bif Nat.beq j ib then .a (.p (B 0).length 0) else X j := ⟨_, rfl⟩
   have Yne : ∀ j, j ≠ ib → Y j = X j := fun j e => by
    rw [hY]; dsimp only; rw [show Nat.beq j ib = false by cases hb : Nat.beq j ib with | false => rfl | true => exact absurd (Nat.eq_of_beq_eq_true hb) e]; rfl
   have Yib : Y ib = .a (.p (B 0).length 0) := by rw [hY]; simp
   rw [← hY] at hrel
   have iib : i ≠ ib := fun e => by subst e; rw [hnl] at lbt; cases lbt
   have nodep : ((nD ops []).getD i 0).testBit ib = true → False := fun h => by
    have := done ia (hok.dep h); rw [nla] at this; cases this
   have noda : ((nD ops []).getD i 0).testBit ia = true → False := fun h => by
    have := done ia h; rw [nla] at this; cases this
   have hs1 := hslots Y Yne (fun _ _ => trivial) (fun _ => .inr trivial) (fun t ht hw => by
    rcases hck.look t ht ib hw with ⟨_, hb⟩ | ⟨_, hb⟩
    ·exact (nodep hb).elim
    ·have := waits ib _ ob hb; rw [lbt] at this; cases this)
   by_cases hia' : i = ia
   ·subst hia'; rw [oa] at ho'; cases ho'
    refine ED htt oa hrel (sa _ (B 0 ++ [cb'])) hdst fun ρ' v W1 hr => ?_
    obtain ⟨ρ'', hr2⟩ := hr.swap (sl' := slL ops X sl fun j => (listed.setIfInBounds i true).getD j false) hcl0 (la _) (lcb _) (fun t => by
     have ai8 : rq (slL ops Y sl fun j => listed.getD j false) (ops[i]).dst (.a (.p (B 0 ++ [cb']).length 0)) = slL ops (fun j => bif Nat.beq j i then .a (.p (B 0 ++ [cb']).length 0) else Y j) sl fun j => (listed.setIfInBounds i true).getD j false := by
      have e1 : (slL ops Y sl fun j => listed.getD j false) = slL ops (fun j => bif Nat.beq j i then .a (.p (B 0 ++ [cb']).length 0) else Y j) sl fun j => listed.getD j false := by
       funext t
       unfold slL
       cases hw : dI t ops 0 with
       | none => rfl
       | some j =>
        dsimp only
        by_cases e : j = i
        ·subst e; rw [hnl]; rfl
        ·rw [show Nat.beq j i = false by cases hb : Nat.beq j i with | false => rfl | true => exact absurd (Nat.eq_of_beq_eq_true hb) e]; rfl
      rw [e1]; have := putX (fun j => bif Nat.beq j i then .a (.p (B 0 ++ [cb']).length 0) else Y j)
      rwa [show (bif Nat.beq i i then AV.a (.p (B 0 ++ [cb']).length 0) else Y i) = .a (.p (B 0 ++ [cb']).length 0) by simp] at this
     rw [ai8]; unfold slL
     cases hw : dI t ops 0 with
     | none => exact .inr (.inr ⟨rfl, hsl t⟩)
     | some j =>
      dsimp only
      by_cases e : j = i
      ·subst e; rw [set_eq]; simp only [cond_true, Nat.beq_refl, List.length_append, List.length_singleton]; exact .inr (.inl ⟨trivial, xa⟩)
      ·have be : Nat.beq j i = false := by cases hb : Nat.beq j i with | false => rfl | true => exact absurd (Nat.eq_of_beq_eq_true hb) e
       rw [set_ne j e, be]
       by_cases e2 : j = ib
       ·subst e2; rw [lbt]; simp only [cond_true, cond_false]; exact .inl ⟨Yib, xb'⟩
       ·simp only [cond_false]; rw [Yne j e2]
        cases hlj : listed.getD j false with
        | false => exact .inr (.inr ⟨rfl, hsl t⟩)
        | true =>
         obtain ⟨j', o', ej, g1, g2⟩ := iC hw
         have hjo : ops[j]? = some o' := by rw [show j = j' by omega]; exact g1
         refine .inr (.inr ⟨rfl, ?_⟩)
         cases hal : j3 o'.op with
         | false => exact hX j o' hjo hal t g2
         | true =>
          exfalso; have hEj := isEa hal
          by_cases hjb : j < ib
          ·have := noE j o' hjb e hjo; rw [hEj] at this; cases this
          ·have AX := pO hc hjo; rw [Nat.zero_add] at AX
           rcases AX.low i _ oa (isEa aa) (by rw [hEj]; rfl) (by omega) with hb | hb
           ·have := waits j o' hjo hb; rw [hlj] at this; cases this
           ·unfold EC at hb; rw [Bool.and_eq_true] at hb
            exact e2 (Nat.eq_of_beq_eq_true hb.2))
    refine again _ W1 (by simpa using hsz) hcnt' hcl' (.inl ⟨ib + 1, ρ'', by omega, ?_, by rw [ebb, Bb]; exact hr2⟩); intro j o' hjo he'
    by_cases e : j = i
    ·subst e; rw [set_eq]; exact ⟨fun _ => by omega, fun _ => rfl⟩
    rw [set_ne j e]
    by_cases e2 : j = ib
    ·subst e2; exact ⟨fun _ => by omega, fun _ => lbt⟩
    by_cases hjb : j < ib
    ·have := noE j o' hjb e hjo; rw [he'] at this; cases this
    have AX := pO hc hjo; rw [Nat.zero_add] at AX
    have hjf : listed.getD j false = false := by
     rcases AX.low i _ oa (isEa aa) (by rw [he']; rfl) (by omega) with hb | hb
     ·exact waits j o' hjo hb
     ·unfold EC at hb; rw [Bool.and_eq_true] at hb; exact (e2 (Nat.eq_of_beq_eq_true hb.2)).elim
    rw [hjf]; exact ⟨fun h => (by cases h), fun h => (by omega)⟩
   ·
    have hg := (hst i o ho').2
    have he : isE o.op = false := by
     cases he : isE o.op with
     | false => rfl
     | true =>
      exfalso
      by_cases hlt : i < ib
      ·have := noE i o hlt hia' ho'; rw [he] at this; cases this
      ·rcases hck.low ia _ oa (isEa aa) (by rw [he]; rfl) (by omega) with hb | hb
       ·exact noda hb
       ·unfold EC at hb; rw [Bool.and_eq_true] at hb; exact iib (Nat.eq_of_beq_eq_true hb.2)
    have hstep : GStep P tt ops o (slL ops Y sl fun j => listed.getD j false) (B 0 ++ [cb']) (X i) (B 0 ++ [cb']) := by
     refine hg.lift hs1 (fun h => ?_) (fun _ => rfl)
     rcases h with ⟨h, _⟩ | h
     ·refine .inl ⟨?_, rfl⟩
      by_cases hld : isLoad o.op = true
      ·have hii : i ≤ ia := by
        apply Classical.byContradiction; intro hn
        rcases hck.low ia _ oa (isEa aa) (by rw [hld]; simp) (by omega) with hb | hb
        ·exact noda hb
        ·unfold EC at hb; rw [Bool.and_eq_true] at hb; exact iib (Nat.eq_of_beq_eq_true hb.2)
       rw [Ba i hii] at h; exact h.more [cb']
      ·rw [Bool.not_eq_true] at hld; exact h.any hld _
     ·rw [h.kind] at he; cases he
    refine ED htt ho' hrel hstep hdst fun ρ' v W1 hr => ?_
    rw [← Yne i iib, putX Y] at hr; exact again _ W1 (by simpa using hsz) hcnt' hcl' (.inr ⟨cb', ρ', by rw [set_ne ia (Ne.symm hia')]; exact nla, by rw [set_ne ib (Ne.symm iib)]; exact lbt, lcb, ⟨xb', ebb⟩, by rw [← hY]; exact hr⟩)
end
theorem EE {P : Program} {tt : TT} (htt : tt.okB P = true) (hm : P.follows .mixedOrders = true) {w0 W : World} {Pk : Nat → Prop} {ρ : List Nat} {ops : List Oper} {sl : Sl} {bx : List Bx} (hchk : (xI sl ops || VB sl ops) = true) {n : Nat} {K : Sl → List Bx → Prop} {Q : Exit → Act → World → Prop} {a : Act}
 (h : jZ P tt n ops (fun sl' bx' => (xI sl ops || AY (Aw bx 0) sl' ops) = true ∧ K sl' bx') ops sl bx) (hrel : Rel w0 Pk n ρ sl bx a W) (hK : ∀ sl bx ρ a W, K sl bx → Rel w0 Pk n ρ sl bx a W → Q .normal a W) {id : Nat} : (Code.region id ops.toArray true).wp P Q a W := by
 cases hcc : xI sl ops with
 | true => exact xy htt hm hcc h hrel (fun sl bx ρ a W hk hr => hK _ _ _ _ _ hk.2 hr)
 | false =>
 rw [hcc, Bool.false_or] at hchk; unfold VB at hchk
 split at hchk
 case h_2 => cases hchk
 rename_i ia ib _; unfold adH at hchk; rw [wS, AO] at hchk; simp only [Bool.and_eq_true] at hchk; obtain ⟨⟨⟨⟨hc, hA⟩, hO⟩, hab⟩, hib⟩ := hchk; obtain ⟨xs, htr, hk⟩ := vE ops h
 obtain ⟨X, hX⟩ : ∃ X : Nat → AV, ∀ i, X i = (xs.getD i (.u, [])).1 := ⟨_, fun _ => rfl⟩
 obtain ⟨B, hB0, hB⟩ : ∃ B : Nat → List Bx, B 0 = bx ∧ ∀ i, i < xs.length → B (i + 1) = (xs.getD i (.u, [])).2 := ⟨fun i => match i with | 0 => bx | i + 1 => (xs.getD i (.u, [])).2, rfl, fun _ _ => rfl⟩
 have h0 : slL ops X sl (fun j => decide (j < 0)) = sl := vF fun i => by simp
 obtain ⟨hs, hp, hlast⟩ := Tr.steps (P := P) (tt := tt) hc rfl hX hB (sl0 := sl) ops 0 xs rfl rfl (by rw [h0, hB0]; exact htr); rw [h0] at hp; rw [hB0, Nat.zero_add] at hlast; rw [hp, hlast] at hk; obtain ⟨hlt, hk⟩ := hk; rw [hcc, Bool.false_or, rQ, Nat.add_zero] at hlt
 have fl : ∀ i, (Array.replicate ops.toArray.size false).getD i false = false := fun i => by
  simp [Array.getD_eq_getD_getElem?, Array.getElem?_replicate]
  split <;> rfl
 refine wp_region_any hm (OM (w0 := w0) (Pk := Pk) htt hc hA hO (Nat.le_of_ble_eq_true hab) (Nat.le_of_ble_eq_true hib) (fun i o ho => hs i o (Nat.zero_le _) ho) (fun ρ a W hr => hK _ _ ρ a W hk hr) ?_ ?_ ?_ W _ _ _ _ (by simp) (by simp [wV]) ?_ (.inl ⟨0, ρ, Nat.zero_le _, ?_, ?_⟩))
 ·intro t; rw [hB0, ← hrel.st.len]; exact (hrel.sl t).lt
 ·intro c hcm; rw [hB0] at hcm ⊢; obtain ⟨j, hj⟩ := List.getElem?_of_mem hcm; have hjl := (List.getElem?_eq_some_iff.1 hj).1
  have hjr : j < ρ.length := by rw [hrel.st.len]; exact hjl
  obtain ⟨arr, _, hr⟩ := hrel.st.box j ρ[j] c (List.getElem?_eq_getElem hjr) hj; rw [← hrel.st.len]; exact hr.lt
 ·intro i o ho hal d hd; have := Hw hlt ho hal d hd; unfold slL at this; have hw := (pO hc ho).dst d hd; rw [Nat.zero_add] at hw; rw [hw] at this; dsimp only at this; rw [decide_eq_true (List.getElem?_eq_some_iff.1 ho).1] at this; rw [hB0]; exact this
 ·intro k o hk'; rw [fl] at hk'; cases hk'
 ·intro j o _ _; rw [fl]; exact ⟨fun h => (by cases h), fun h => by omega⟩
 ·have : (slL ops X sl fun j => (Array.replicate ops.toArray.size false).getD j false) = sl := vF fl; rw [this, hB0]; exact hrel.below (xu W)
abbrev AQ := Exit → Sl → List Bx → Prop
def VC (next : Sl → List Bx → Prop) (Q : AQ) : AQ
 | .normal => next
 | e => Q e
def Rf (body : AQ → Sl → List Bx → Prop) (Q : AQ) (m : Nat) : Sl → List Bx → Prop :=
 Nat.rec (motive := fun _ => Sl → List Bx → Prop) (fun _ _ => False) (fun _ ih sl bx => body (VC ih Q) sl bx) m
def Rh (id : Nat) (Q : AQ) : AQ
 | .exit i => bif Nat.beq i id then Q .normal else Q (.exit i)
 | e => Q e
def Ri (b : AV) (x y : Prop) : Prop := match b with
 | .a (.b b) => br b x y
 | _ => False
def fO (l : List Oper) (K : List Oper → Prop) : Prop := List.rec (motive := fun _ => (List Oper → Prop) → Prop) (fun K => K []) (fun o _ ih K => ih fun r => K (o :: r)) l K
theorem VD (o : Oper) (l : List Oper) (K : List Oper → Prop) : fO (o :: l) K = fO l fun r => K (o :: r) := rfl
theorem Xp : ∀ (l : List Oper) (K : List Oper → Prop), fO l K = K l
 | [], _ => rfl
 | o :: l, K => by rw [VD, Xp l]
def awp (P : Program) (tt : TT) (n : Nat) (c : Code) : AQ → Sl → List Bx → Prop :=
 Code.rec (motive := fun _ => AQ → Sl → List Bx → Prop)
  (fun Q => Q .normal)
  (fun _ ops draw Q sl bx => fO ops.toList fun l => bif draw then (bif Ki l then ((xI sl l || VB sl l) = true ∧ jZ P tt n l (fun sl' bx' => (xI sl l || AY (Aw bx 0) sl' l) = true ∧ Q .normal sl' bx') l sl bx) else (xI sl l = true ∧ jZ P tt n l (Q .normal) l sl bx)) else jZ P tt n l (Q .normal) l sl bx)
  (fun _ _ ix iy Q => ix (VC (iy Q) Q))
  (fun c _ _ ix iy Q sl bx => Ri (ev sl c) (ix Q sl bx) (iy Q sl bx))
  (fun id _ ic Q => ic (Rh id Q))
  (fun _ ic Q sl bx => ∃ m, Rf ic Q m sl bx)
  (fun _ _ _ _ _ _ _ _ _ => False)
  (fun id Q => Q (.exit id))
  (fun _ _ _ _ _ => False)
  (fun _ _ _ _ => False)
  (fun _ _ _ _ => False)
  (fun Q => Q .ret)
  (fun _ _ _ _ => False) c
section
variable {P : Program} {tt : TT} {w0 : World} {Pk : Nat → Prop} {n : Nat}
def Gives (w0 : World) (Pk : Nat → Prop) (n : Nat) (Q : AQ) (R : Exit → Act → World → Prop) : Prop := ∀ e sl bx ρ a W, Q e sl bx → Rel w0 Pk n ρ sl bx a W → R e a W
theorem lQ (htt : tt.okB P = true) (hm : P.follows .mixedOrders = true) : ∀ (c : Code) {Q : AQ} {R : Exit → Act → World → Prop}, Gives w0 Pk n Q R → ∀ {sl : Sl} {bx : List Bx} {ρ : List Nat} {a : Act} {W : World}, awp P tt n c Q sl bx → Rel w0 Pk n ρ sl bx a W → c.wp P R a W
 | .skip, Q, R, hQ, sl, bx, ρ, a, W, h, hr => wp_skip (hQ _ _ _ _ _ _ h hr)
 | .region id ops draw, Q, R, hQ, sl, bx, ρ, a, W, h, hr => by
  have h : fO ops.toList fun l => (bif draw then (bif Ki l then ((xI sl l || VB sl l) = true ∧ jZ P tt n l (fun sl' bx' => (xI sl l || AY (Aw bx 0) sl' l) = true ∧ Q .normal sl' bx') l sl bx) else (xI sl l = true ∧ jZ P tt n l (Q .normal) l sl bx)) else jZ P tt n l (Q .normal) l sl bx) := h
  rw [Xp] at h
  cases draw with
  | false =>
   have := pM (w0 := w0) (Pk := Pk) (Q := R) htt ops.toList (K := Q .normal) (n := n) (fun sl bx ρ a W hk hr => hQ _ _ _ _ _ _ hk hr) ops.toList h hr; exact wp_region_list this
  | true =>
   cases hb : Ki ops.toList with
   | true => rw [hb] at h; exact EE htt hm h.1 h.2 hr (fun sl bx ρ a W hk hr => hQ _ _ _ _ _ _ hk hr)
   | false => rw [hb] at h; exact xy htt hm h.1 h.2 hr (fun sl bx ρ a W hk hr => hQ _ _ _ _ _ _ hk hr)
 | .seq x y, Q, R, hQ, sl, bx, ρ, a, W, h, hr => by
  refine wp_seq (lQ htt hm x (Q := VC (awp P tt n y Q) Q) ?_ h hr); intro e sl bx ρ a W hq hr
  cases e with
  | normal => exact lQ htt hm y hQ hq hr
  | _ => exact hQ _ _ _ _ _ _ hq hr
 | .cond c x y, Q, R, hQ, sl, bx, ρ, a, W, h, hr => by
  have h : Ri (ev sl c) (awp P tt n x Q sl bx) (awp P tt n y Q sl bx) := h; unfold Ri at h
  split at h
  ·rename_i b hb; have hc := lu hr.sl c; rw [hb] at hc; exact wp_cond_split hc (fun e => lQ htt hm x hQ (br.t h e) hr) (fun e => lQ htt hm y hQ (br.f h e) hr)
  ·exact h.elim
 | .block id c, Q, R, hQ, sl, bx, ρ, a, W, h, hr => by
  refine wp_block (lQ htt hm c (Q := Rh id Q) ?_ h hr); intro e sl bx ρ a W hq hr
  cases e with
  | exit i =>
   have hq' : (bif Nat.beq i id then Q .normal else Q (.exit i)) sl bx := hq; show (if i = id then R .normal a W else R (.exit i) a W)
   cases hb : Nat.beq i id with
   | true =>
    rw [hb] at hq'; have := Nat.eq_of_beq_eq_true hb; rw [if_pos this]; exact hQ _ _ _ _ _ _ hq' hr
   | false =>
    rw [hb] at hq'; rw [if_neg (fun e => by rw [e] at hb; simp at hb)]; exact hQ _ _ _ _ _ _ hq' hr
  | _ => exact hQ _ _ _ _ _ _ hq hr
 | .loop c, Q, R, hQ, sl, bx, ρ, a, W, h, hr => by
  obtain ⟨m0, hn⟩ := h; refine wp_loop_ghost (fun m a W => ∃ sl bx ρ, Rf (awp P tt n c) Q m sl bx ∧ Rel w0 Pk n ρ sl bx a W) m0 ⟨sl, bx, ρ, hn, hr⟩ ?_; rintro m a W ⟨sl, bx, ρ, hm', hr⟩
  cases m with
  | zero => exact hm'.elim
  | succ m =>
   refine lQ htt hm c (Q := VC (Rf (awp P tt n c) Q m) Q) ?_ hm' hr; intro e sl bx ρ a W hq hr
   cases e with
   | normal => exact ⟨m, Nat.lt_succ_self m, sl, bx, ρ, hq, hr⟩
   | _ => exact hQ _ _ _ _ _ _ hq hr
 | .exit id, Q, R, hQ, sl, bx, ρ, a, W, h, hr => wp_exit (hQ _ _ _ _ _ _ h hr)
 | .ret, Q, R, hQ, sl, bx, ρ, a, W, h, hr => wp_ret (hQ _ _ _ _ _ _ h hr)
 | .rangeFunc .., _, _, _, _, _, _, _, _, h, _ => h.elim
 | .scope _, _, _, _, _, _, _, _, _, h, _ => h.elim
 | .label _, _, _, _, _, _, _, _, _, h, _ => h.elim
 | .goto _, _, _, _, _, _, _, _, _, h, _ => h.elim
 | .refuse _, _, _, _, _, _, _, _, _, h, _ => h.elim
end
def EF (tt : TT) (sl : Sl) (bx : List Bx) : List ResultVar → Option (List AE)
 | [] => some []
 | .tmp t :: r => match (sl t).ae, EF tt sl bx r with
  | some e, some es => some (e :: es)
  | _, _ => none
 | .cell p t :: r => match vB tt bx t (sl p), EF tt sl bx r with
  | .val x, some es => (match x.ae with
   | some e => some (e :: es)
   | none => none)
  | _, _ => none
def one : List AE → AV
 | [e] => e.av
 | es => .t es
def Xq (tt : TT) (rs : List ResultVar) (r : AV) : AQ
 | .normal, sl, bx => match EF tt sl bx rs with
  | some es => npE es = true ∧ one es = r
  | none => False
 | .ret, sl, bx => match EF tt sl bx rs with
  | some es => npE es = true ∧ one es = r
  | none => False
 | _, _, _ => False
section
variable {P : Program} {tt : TT} {w0 : World} {Pk : Nat → Prop} {ρ : List Nat} {W : World} {sl : Sl} {bx : List Bx} {a : Act} {n : Nat}
def wW (tmps : Array Value) : ResultVar → Sem Value
 | .tmp t => pure (tmps.getD t undef)
 | .cell p t => do loadVar t (← asAddr (tmps.getD p undef))
theorem AE.Xr {x : AV} {e : AE} (h : x.ae = some e) {ok : Nat → Prop} {v : Value} (hx : x.R ρ ok W v) : e.R ρ ok W v := by
 unfold AV.ae at h
 split at h
 ·cases h; exact hx
 ·cases h; exact hx
 ·cases h
theorem A8 (htt : tt.okB P = true) (hr : Rel w0 Pk n ρ sl bx a W) : ∀ {rs : List ResultVar} {es : List AE}, EF tt sl bx rs = some es →
 ∃ vs, (rs.mapM (wW a.tmps)).run P W = .ok vs W ∧ REs ρ (okS Pk w0.heap.size ρ) W es vs
 | [], es, h => by cases h; exact ⟨[], rfl, trivial⟩
 | .tmp t :: r, es, h => by
  unfold EF at h
  split at h
  ·rename_i e es' h1 h2; cases h; obtain ⟨vs, hrun, hR⟩ := A8 htt hr h2; have hv : (sl t).R ρ (okS Pk w0.heap.size ρ) W (a.tmps.getD t undef) := lu hr.sl (.tmp t); refine ⟨a.tmps.getD t undef :: vs, ?_, AE.Xr h1 hv, hR⟩; rw [List.mapM_cons, Sem.run_bind]; simp only [wW, Sem.run_pure, Result.andThen_ok, Sem.run_bind, hrun]
  ·cases h
 | .cell p t :: r, es, h => by
  unfold EF at h
  split at h
  ·rename_i x es' h1 h2
   split at h
   ·rename_i e h3; cases h; obtain ⟨vs, hrun, hR⟩ := A8 htt hr h2; have hv : (sl p).R ρ (okS Pk w0.heap.size ρ) W (a.tmps.getD p undef) := lu hr.sl (.tmp p); obtain ⟨ad, v, had, hl, hxR⟩ := Ap (P := P) htt hr.st (t := t) (x := sl p) (r := x) (by rw [h1]; rfl) hv
    have hl2 : (wW a.tmps (.cell p t)).run P W = .ok v W := by
     have : (Instr.loadAt t (.pointer (some ad))).run P W = (loadVar t ad).run P W := by simp [Instr.loadAt, Instr.sureAddr]
     rw [this] at hl; show (asAddr (a.tmps.getD p undef) >>= fun x => loadVar t x).run P W = _; rw [had]; exact hl
    refine ⟨v :: vs, ?_, AE.Xr h3 hxR, hR⟩; rw [List.mapM_cons, Sem.run_bind, hl2]; simp only [Sem.run_pure, Result.andThen_ok, Sem.run_bind, hrun]
   ·cases h
  ·cases h
theorem Hy (htt : tt.okB P = true) (hr : Rel w0 Pk n ρ sl bx a W) {fn : Func} {es : List AE} (h : EF tt sl bx fn.results.toList = some es) (hnp : npE es = true) :
 ∃ v, (results fn a.tmps).run P W = .ok v W ∧ (one es).R [] (okS Pk w0.heap.size ρ) W v := by
 obtain ⟨vs, hrun, hR⟩ := A8 htt hr h; have hR' := ML (ρ' := []) hnp hR
 have hm : (fn.results.mapM (wW a.tmps)).run P W = .ok vs.toArray W := by
  rw [Array.mapM_eq_mapM_toList]; show Sem.run P ((fn.results.toList.mapM (wW a.tmps)) >>= fun l => (pure l.toArray : Sem (Array Value))) W = _; rw [Sem.run_bind, hrun]; rfl
 have hres : results fn a.tmps = (do let vs ← fn.results.mapM (wW a.tmps); pure (if h : vs.size = 1 then vs[0] else .tuple vs) : Sem Value) := by
  unfold results
  congr 1
  (try (congr 1; funext x; cases x <;> rfl))
 refine ⟨if h : vs.toArray.size = 1 then vs.toArray[0] else .tuple vs.toArray, ?_, ?_⟩
 ·rw [hres, Sem.run_bind, hm]; rfl
 ·match es, vs, hR' with
  | [], [], _ => exact ⟨#[], rfl, trivial⟩
  | [e], [v], h => cases e <;> exact h.1
  | e :: e' :: es, v :: v' :: vs, h => exact ⟨(v :: v' :: vs).toArray, by simp, by simpa using h⟩
  | [], _ :: _, h => exact h.elim
  | _ :: _, [], h => exact h.elim
  | [_], _ :: _ :: _, h => exact h.2.elim
  | _ :: _ :: _, [_], h => exact h.2.elim
theorem RVs.bound {vs : List Value} : ∀ {xs : List AV} {vs : List Value} {ok : Nat → Prop}, RVs ρ ok W xs vs → RVs ρ (fun k => ok k ∧ k < W.heap.size) W xs vs := fun h =>
 h.move (fun _ _ _ => rfl) (fun _ hk hlt => ⟨hk, hlt⟩) (fun _ _ hg => hg)
def sl0 : List AV → Sl
 | [], _ => .u
 | x :: _, 0 => x
 | _ :: xs, n + 1 => sl0 xs n
theorem Xt {ok : Nat → Prop} {m : Nat} : ∀ {xs : List AV} {vs : List Value}, RVs ρ ok W xs vs → ∀ t, (sl0 xs t).R ρ ok W ((vs ++ List.replicate m undef).getD t undef)
 | [], [], _, t => by
  show (sl0 [] t).R ρ ok W _
  have : sl0 [] t = .u := by cases t <;> rfl
  rw [this]; show ([] ++ List.replicate m undef).getD t undef = undef
  rw [List.nil_append, List.getD_eq_getElem?_getD, List.getElem?_replicate]; split <;> rfl
 | x :: xs, v :: vs, h, 0 => h.1
 | x :: xs, v :: vs, h, t + 1 => by have := Xt (m := m) h.2 t; simpa [sl0] using this
 | [], _ :: _, h, _ => h.elim
 | _ :: _, [], h, _ => h.elim
theorem gD (htt : tt.okB P = true) (hm : P.follows .mixedOrders = true) {f : FuncId} {fn : Func} {c : Code} (hf : P.funcs[f]? = some fn) {n : Nat} (hnt : fn.ntmps = n) (hb : fn.body = some c) (hname : (fn.name == "runtime.NumGoroutine") = false) {args : List AV} (hlen : Nat.ble args.length n = true) {r : AV}
 (h : awp P tt n c (Xq tt fn.results.toList r) (sl0 args) []) : Snd P f args r := by
 refine ⟨⟨fn, hf, hname, by rw [hb]; rfl⟩, fun w Pk vs hvs => ?_⟩; refine calls_of_wp hf hb ?_
 have hst : St w (fun k => Pk k ∧ k < w.heap.size) [] [] w := ⟨Below.refl _ _, rfl, List.nodup_nil, fun g hg => absurd hg (by simp), fun j g c hj => absurd hj (by simp)⟩
 have hrel : Rel w (fun k => Pk k ∧ k < w.heap.size) n [] (sl0 args) [] { tmps := vs.toArray ++ Array.replicate (fn.ntmps - vs.toArray.size) undef, defers := [] } w := by
  have hl := hvs.length; have hle := Nat.le_of_ble_eq_true hlen; refine ⟨hst, ?_, rfl, by simp; omega⟩; have h1 : RVs [] (okS (fun k => Pk k ∧ k < w.heap.size) w.heap.size []) w args vs := hvs.move (fun _ _ _ => rfl) (fun k hk hlt => ⟨.inl ⟨hk, hlt⟩, by simp⟩) (fun _ _ hg => hg); intro t; have := Xt (m := fn.ntmps - vs.length) h1 t; rw [List.getD_eq_getElem?_getD] at this; rw [Array.getD_eq_getD_getElem?]
  have e : (vs.toArray ++ Array.replicate (fn.ntmps - vs.toArray.size) undef)[t]? = (vs ++ List.replicate (fn.ntmps - vs.length) undef)[t]? := by
   rw [← Array.getElem?_toList]; simp
  rw [e]; exact this
 refine lQ htt hm c (Q := Xq tt fn.results.toList r) ?_ h hrel; intro e sl bx ρ a W hq hr
 have key : (match EF tt sl bx fn.results.toList with
  | some es => npE es = true ∧ one es = r
  | none => False) → a.defers = [] ∧ ∃ v, (results fn a.tmps).run P W = .ok v W ∧ (∃ v', Ending.returned v = .returned v' ∧ r.R [] (fun k => Pk k ∨ w.heap.size ≤ k) W v' ∧ Below w.heap.size w W) := by
  intro hq
  split at hq
  ·rename_i es hes; obtain ⟨hnp, rfl⟩ := hq; obtain ⟨v, hv, hR⟩ := Hy htt hr hes hnp; refine ⟨hr.df, v, hv, v, rfl, hR.move (fun _ _ _ => rfl) (fun k hk _ => ?_) (fun _ _ hg => hg), hr.st.bel⟩
   rcases hk.1 with h1 | h1
   ·exact .inl h1.1
   ·exact .inr h1
  ·exact hq.elim
 cases e with
 | normal => exact key hq
 | ret => exact key hq
 | exit id => exact hq.elim
 | goto l => exact hq.elim
 | panic ch => exact hq.elim
 | outgrown => exact hq.elim
end
end Go.Proofs.Ytkgeihbcikiedaa.A
