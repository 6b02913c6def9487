/- A value of a struct of a bool, a slice of 32-bit numbers and an int, opened: its cells, what the slice reads, and how long the slice can be; for every program with such a type. -/
import Derived.WalkKit
import Derived.ProofKit
import Derived.OpenShut
import Derived.SizedLaws
import Derived.Test.YtlapfomfnmccgaaWSized
namespace Go.Proofs.Ytlapfomfnmccgaa.Dyads
open Go.ChangeShapes Go.WideShapes Go.ChangeAt Go.RowKit
set_option linter.unusedVariables false

def Row (w : World) (a : Option Addr) (len cap : Nat) (zs : List Int) : Prop :=
  (a = none ∧ len = 0 ∧ cap = 0 ∧ zs = []) ∨
  ∃ x, a = some x ∧ len ≤ cap ∧ cap ≤ maxLen ∧ zs.length = cap ∧ (∀ i, i < zs.length → w.cell? (x.add i) = some (.int .u32 (zs.getD i 0))) ∧ ∀ n ∈ zs, (Lit.int .u32 n).wf = true

theorem open_dyad {H : Type} {enc : TypeId × Value → H} {P : Program} {W : World} {r : Reach} {base b0 : Nat} {held : Bool} {t e : TypeId} {f0 f1 f2 : Field} {v : Value} {d : DataW H} {ps : List MemPlace}
    (ht : P.underlying t = some (.struct #[f0, f1, f2])) (o0 : f0.offset = 0) (o1 : f1.offset = 1) (o2 : f2.offset = 2) (ct : P.cellsOf t = 3)
    (c0 : P.cellsOf f0.type = 1) (c1 : P.cellsOf f1.type = 1) (c2 : P.cellsOf f2.type = 1)
    (h0 : P.underlying f0.type = some .bool) (h1 : P.underlying f1.type = some (.slice e)) (he : P.underlying e = some (.int .u32)) (ce : P.cellsOf e = 1) (be : P.bytesOf e = 4) (h2 : P.underlying f2.type = some (.int .i64))
    (hval : Value.okWide P W r b0 t v) (hd : DataW.Trod enc P W base (fun _ => true) held t v d ps)
    {ts : List TypeId} {ds : List (DataW H)} {j : Nat} (hsz : (DataW.weightsEach P ts ds).all (· ≤ reachBytes) = true) (hts : ts[j]? = some t) (hds : ds[j]? = some d) :
    ∃ (neg : Bool) (a : Option Addr) (len cap : Nat) (zs : List Int) (ex : Int), v = .agg #[.bool neg, .slice a len cap, .int .i64 ex] ∧ Row W a len cap zs ∧ len * 4 ≤ 140737488351232 ∧ (Lit.int .i64 ex).wf = true := by
  obtain ⟨cs, rfl, hcs⟩ := okWide_struct ht hval
  rw [ct] at hcs
  obtain ⟨fuel, hf⟩ := hd
  obtain ⟨xs, n, _, hx, _, hxl, hfs⟩ := DataW.trod_struct ht hf
  have hl : cs.toList.length = 3 := by simpa using hcs
  obtain ⟨v0, v1, v2, hc⟩ : ∃ v0 v1 v2, cs.toList = [v0, v1, v2] := by
    rcases hq : cs.toList with _ | ⟨v0, _ | ⟨v1, _ | ⟨v2, _ | _⟩⟩⟩ <;> rw [hq] at hl <;> simp at hl
    exact ⟨_, _, _, rfl⟩
  have hcs' : cs = #[v0, v1, v2] := by cases cs; simp_all
  subst hcs'
  obtain ⟨x0, x1, x2, rfl⟩ : ∃ x0 x1 x2, xs = [x0, x1, x2] := by
    rcases xs with _ | ⟨v0, _ | ⟨v1, _ | ⟨v2, _ | _⟩⟩⟩ <;> simp at hxl
    exact ⟨_, _, _, rfl⟩
  have g0 := hfs 0 f0 rfl
  have g1 := hfs 1 f1 rfl
  have g2 := hfs 2 f2 rfl
  rw [o0, c0] at g0
  rw [o1, c1] at g1
  rw [o2, c2] at g2
  simp [Value.cells] at g0 g1 g2
  obtain ⟨neg, e0, _⟩ := DataW.trod_bool h0 g0
  obtain ⟨ex, e2, _, w2⟩ := DataW.trod_int h2 g2
  obtain rfl : v0 = .bool neg := by simpa using e0
  obtain rfl : v2 = .int .i64 ex := by simpa using e2
  obtain ⟨hd', _⟩ := Prod.mk.inj hx
  have hsz' : (DataW.weightsEach P [f0.type, f1.type, f2.type] [x0.1, x1.1, x2.1]).all (· ≤ reachBytes) = true := by
    rw [List.all_eq_true]
    intro m hm
    refine List.all_eq_true.1 hsz _ (DataW.weights_mem_each hts hds m ?_)
    rw [hd']
    simpa [DataW.weights, ht] using hm
  rcases open_ints h1 he ce g1 with ⟨hv, _⟩ | ⟨x, l, c, zs, hv, _, hle, hm, hz, hx1, hcell, hwz⟩
  · obtain rfl : v1 = .slice none 0 0 := by simpa using hv
    exact ⟨neg, none, 0, 0, [], ex, rfl, .inl ⟨rfl, rfl, rfl, rfl⟩, by omega, w2⟩
  · obtain rfl : v1 = .slice (some x) l c := by simpa using hv
    have y := Go.Proofs.YtlapfomfnmccgaaW.PrintWords.sized_ints (W := W) (base := base) (spare := fun _ => true) (held := held) (enc := enc) (a := some x) (len := l) (cap := c) (d := x1.1) (ps := x1.2) (j := 1) (t := f1.type) hsz' rfl rfl h1 he ce be ⟨n, by simpa [Value.cells] using g1⟩
    exact ⟨neg, some x, l, c, zs, ex, rfl, .inr ⟨x, rfl, hle, hm, by simpa using hz, hcell, hwz⟩, y, w2⟩
end Go.Proofs.Ytlapfomfnmccgaa.Dyads
