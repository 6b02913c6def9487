/- The law UnpackFirst answers true, at every input of its types. -/
import Derived.Test.YtkgeihbcikiedaaS87
import Derived.Deep.QuietTactic
import Derived.BigQuiet
import Derived.StillTailTactics
import Derived.Test.YtkgeihbcikiedaaPx0
import Derived.Test.YtkgeihbcikiedaaPx1
set_option linter.unusedVariables false
set_option linter.unusedSimpArgs false
set_option linter.constructorNameAsVariable false
set_option linter.unusedSectionVars false
namespace Go.Proofs.Ytkgeihbcikiedaa.A
open Go.RowKit Go.Shelf Go.Proofs.Ytkgeihbcikiedaa.P Go.Proofs.YtkgeihbcikiedaaW.PrintWords Go.Proofs.YtkgeihbcikiedaaW.PrintLast Go.Proofs.YtkgeihbcikiedaaW.PrintMore Go.Proofs.Ytkgeihbcikiedaa.N Sk Dy
attribute [local go_sem] dM dN eu eB dx dz dO dP
section
variable {P : Program} {tt : TT} {w0 : World} {Pk : Nat → Prop} {n : Nat}
theorem Qi (htt : tt.okB P = true) (hm : P.follows .mixedOrders = true) {c rest : Code} {Q : AQ} {R : Exit → Act → World → Prop} {K : Act → World → Prop} (hK : ∀ a w, rest.wp P R a w → K a w) (g : Gives w0 Pk n Q R)
 {sl : Sl} {bx : List Bx} {ρ : List Nat} {a : Act} {W : World} (h : awp P tt n (.seq c rest) Q sl bx) (hr : Rel w0 Pk n ρ sl bx a W) : c.wp P (Exit.then K R) a W := by
 refine jK htt hm c (Q := Qj (awp P tt n rest Q) Q) ?_ h hr; intro e sl bx ρ a W hq hr
 cases e with
 | normal => exact hK _ _ (jK htt hm rest g hq hr)
 | ret => exact g _ _ _ _ _ _ hq hr
 | exit id => exact g _ _ _ _ _ _ hq hr
 | goto l => exact g _ _ _ _ _ _ hq hr
 | panic ch => exact g _ _ _ _ _ _ hq hr
 | outgrown => exact g _ _ _ _ _ _ hq hr
theorem Jo (htt : tt.okB P = true) {fn : Func} {r : AV} {R : Ending → World → Prop} (hR : ∀ ok v W, r.R [] ok W v → Below w0.heap.size w0 W → R (.returned v) W) : Gives w0 Pk n (Qk tt fn.results.toList r) (bodyPost P fn R) := by
 intro e sl bx ρ a W hq hr
 have key : (match BJ tt sl bx fn.results.toList with
  | some es => npE es = true ∧ one es = r
  | none => False) → a.defers = [] ∧ ∃ v, (results fn a.tmps).run P W = .ok v W ∧ R (.returned v) W := by
  intro hq
  split at hq
  ·rename_i es hes; obtain ⟨hnp, rfl⟩ := hq; obtain ⟨v, hv, hRv⟩ := xz htt hr hes hnp; exact ⟨hr.df, v, hv, hR _ _ _ hRv hr.st.bel⟩
  ·exact hq.elim
 cases e with
 | normal => exact key hq
 | ret => exact key hq
 | exit id => exact hq.elim
 | goto l => exact hq.elim
 | panic ch => exact hq.elim
 | outgrown => exact hq.elim
end
def FV (f : Fm) : Value := .agg #[.int .i64 ((f.p + f.w : Nat) : Int), .int .i64 (f.p : Int), .int .i64 (f.w : Int)]
def mH (W : World) (x y z : Nat) : World := W.alloc (.cells #[.int .u64 (x : Int), .int .u64 (y : Int), .int .u64 (z : Int)] 22)
theorem Ql (W : World) (x y z : Nat) : Kd.C (Kd.int .u64) (mH W x y z) (some ⟨W.heap.size, 0, none⟩) 3 [(x : Int), (y : Int), (z : Int)] := by
 refine Kd.mW (enc := Value.int .u64) (d := (0 : Int)) (h1 := fun _ => rfl) ⟨rfl, by omega, fun _ => ⟨_, rfl, fun j hj => ?_⟩⟩; have hj : j < 3 := hj; rw [show Addr.add ⟨W.heap.size, 0, none⟩ j = ⟨W.heap.size, j, none⟩ from by unfold Addr.add; split <;> simp [*]]; unfold mH; rw [aj (heap_alloc_new W _) j]
 match j, hj with
 | 0, _ => rfl
 | 1, _ => rfl
 | 2, _ => rfl
 | j + 3, h => omega
theorem Lb {ok : Nat → Prop} {W : World} {a1 a2 a3 : Int} {b : Bool} {v : Value} (h : AV.R [] ok W (.t [.g [iA a1, iA a2, iA a3], .g [iA a1, iA a2, iA a3], .a (.b b)]) v) :
 v = .tuple #[.agg #[.int .i64 a1, .int .i64 a2, .int .i64 a3], .agg #[.int .i64 a1, .int .i64 a2, .int .i64 a3], .bool b] := by
 obtain ⟨⟨l⟩, rfl, h⟩ := h
 match l, h with
 | [v1, v2, v3], ⟨⟨⟨l1⟩, h1, g1⟩, ⟨⟨l2⟩, h2, g2⟩, h3, _⟩ =>
  match l1, g1, l2, g2 with
  | [u1, u2, u3], ⟨e1, e2, e3, _⟩, [t1, t2, t3], ⟨d1, d2, d3, _⟩ =>
   have e1 : u1 = .int .i64 a1 := e1; have e2 : u2 = .int .i64 a2 := e2; have e3 : u3 = .int .i64 a3 := e3; have d1 : t1 = .int .i64 a1 := d1; have d2 : t2 = .int .i64 a2 := d2; have d3 : t3 = .int .i64 a3 := d3; have h3 : v3 = .bool b := h3; rw [h1, h2, h3, e1, e2, e3, d1, d2, d3]
theorem Lc (bits : Int) (x y z : Nat) (W : World) : RVs [] (fun k => k < (mH W x y z).heap.size) (mH W x y z) [.a (iA bits), .a (.v .u64 [(x : Int), (y : Int), (z : Int)])] [.int .i64 bits, .slice (some ⟨W.heap.size, 0, none⟩) 3 3] :=
 ⟨rfl, ⟨_, _, rfl, Nat.le_refl _, Kd.C_F (Kd.FR _) (Ql W x y z)⟩, trivial⟩
theorem Gg {bits : Int} {f : Fm} (hf : vX bits = some f) {x y z : Nat} (hx : x < 2 ^ 64) (hy : y < 2 ^ 64) (hz : z < 2 ^ 64) (W : World) :
 Calls Try.prog 7 #[.int .i64 bits, .slice (some ⟨W.heap.size, 0, none⟩) 3 3] (mH W x y z) fun e w' => e = .returned (.tuple #[FV f, FV f, .bool (!(decide (2 ^ (f.p + f.w) ≤ x) || decide (2 ^ (f.p + f.w) ≤ y) || decide (2 ^ (f.p + f.w) ≤ z)))]) ∧ Below (mH W x y z).heap.size (mH W x y z) w' := by
 refine ((Qm hf hx hy hz).2 (mH W x y z) (fun k => k < (mH W x y z).heap.size) _ (Lc bits x y z W)).mono ?_; rintro e w' ⟨v, rfl, hv, hb⟩; exact ⟨by rw [Lb hv]; rfl, hb⟩
theorem Jp {bits : Int} {f : Fm} (hf : vX bits = some f) {x y z : Nat} (hx : x < 2 ^ 64) (hy : y < 2 ^ 64) (hz : z < 2 ^ 64) (fx : x < 2 ^ (f.p + f.w)) (fy : y < 2 ^ (f.p + f.w)) (fz : z < 2 ^ (f.p + f.w)) (n p wd : Nat) (hn : n = f.p + f.w) (hp : p = f.p) (hwd : wd = f.w) (W : World) :
 Calls Try.prog 7 #[.int .i64 bits, .slice (some ⟨W.heap.size, 0, none⟩) 3 3] (mH W x y z) fun e w' => e = .returned (.tuple #[.agg #[.int .i64 (n : Int), .int .i64 (p : Int), .int .i64 (wd : Int)], .agg #[.int .i64 (n : Int), .int .i64 (p : Int), .int .i64 (wd : Int)], .bool true]) ∧ Below (mH W x y z).heap.size (mH W x y z) w' := by
 subst hn hp hwd; refine (Gg hf hx hy hz W).mono ?_; rintro e w' ⟨rfl, hb⟩; rw [decide_eq_false (show ¬ 2 ^ (f.p + f.w) ≤ x by omega), decide_eq_false (show ¬ 2 ^ (f.p + f.w) ≤ y by omega), decide_eq_false (show ¬ 2 ^ (f.p + f.w) ≤ z by omega)]; exact ⟨rfl, hb⟩
theorem NB {bits : Int} (hf : vX bits = none) (x y z : Nat) (W : World) :
 Calls Try.prog 7 #[.int .i64 bits, .slice (some ⟨W.heap.size, 0, none⟩) 3 3] (mH W x y z) fun e w' => e = .returned (.tuple #[.agg #[.int .i64 0, .int .i64 0, .int .i64 0], .agg #[.int .i64 0, .int .i64 0, .int .i64 0], .bool false]) ∧ Below (mH W x y z).heap.size (mH W x y z) w' := by
 refine ((Qn bits x y z hf).2 (mH W x y z) (fun k => k < (mH W x y z).heap.size) _ (Lc bits x y z W)).mono ?_; rintro e w' ⟨v, rfl, hv, hb⟩; exact ⟨by rw [Lb hv], hb⟩
set_option maxHeartbeats 8000000 in
set_option maxRecDepth 100000 in
theorem Cm {bits : Int} {a1 a2 a3 : Int} {x y z : Nat} (c : Bool) (w : World)
 (hi : ∀ W, Calls Try.prog 7 #[.int .i64 bits, .slice (some ⟨W.heap.size, 0, none⟩) 3 3] (mH W x y z) fun e w' => e = .returned (.tuple #[.agg #[.int .i64 a1, .int .i64 a2, .int .i64 a3], .agg #[.int .i64 a1, .int .i64 a2, .int .i64 a3], .bool false]) ∧ Below (mH W x y z).heap.size (mH W x y z) w') :
 Calls Try.prog 4 #[.int .i64 bits, .int .u64 (x : Int), .int .u64 (y : Int), .int .u64 (z : Int), .bool c] w fun e w' => e = .returned (.bool true) ∧ Below w.heap.size w w' := by
 have Ou := Try.underlying25; have HI := af.mk hi; clear hi
 go_enter Try.func4, Try.ntmps4
 go_wp2_with (first | (go_at_call 6; refine (xy.2 _ (fun _ => True) [] trivial).mono ?_; rintro e w1 ⟨v, rfl, hv, hb⟩; obtain rfl : v = .bool true := hv; have HB1 := af.mk hb; clear hb) | (go_at_call 7; refine (HI.out w1).mono ?_; rintro e w2 ⟨rfl, hb⟩; have HB2 := af.mk (az (ai HB1.out _) hb); clear hb)); go_ret; exact ⟨rfl, ai (ai HB2.out _) _⟩
theorem ZC (W : World) (a b : Int) : IL (W.alloc (.cells #[.int .i64 a, .int .i64 b] 3)) W.heap.size [a, b] :=
 ⟨_, heap_alloc_new W _, fun j hj => by
  have hj : j < 2 := hj
  match j, hj with
  | 0, _ => rfl
  | 1, _ => rfl
  | j + 2, h => omega⟩
theorem Vf {w0 w W : World} {g : Nat} {s : BSt} (h : WE w0 w W g s) (hl : s.nodes.length < 1000000 ∧ s.ins.length < 1000000 ∧ s.outs.length < 1000000) (hli : ∀ p ∈ s.ins, p.f1.length < 1000000) (hlo : ∀ p ∈ s.outs, p.f1.length < 1000000) :
 Calls Try.prog 20 #[.pointer (some ⟨g, 0, none⟩)] W fun e w' => ∃ A0 c0 A1 c1 A2 c2, e = .returned (.agg #[.slice A0 s.nodes.length c0, .slice A1 s.ins.length c1, .slice A2 s.outs.length c2]) ∧
  (s.nodes.length ≤ c0 ∧ Kd.F k92 w' (fun k => W.heap.size ≤ k) A0 s.nodes.length s.nodes) ∧ (s.ins.length ≤ c1 ∧ Kd.F k94 w' (fun k => W.heap.size ≤ k) A1 s.ins.length s.ins) ∧ (s.outs.length ≤ c2 ∧ Kd.F k94 w' (fun k => W.heap.size ≤ k) A2 s.outs.length s.outs) ∧ WE w0 w w' g s ∧ Below W.heap.size W w' := by
 obtain ⟨nb, h⟩ := h; refine (zY nb g s w0 W h.bs hl hli hlo).mono ?_; rintro e w' ⟨A0, c0, A1, c1, A2, c2, he, a1, a2, a3, a, b⟩; exact ⟨A0, c0, A1, c1, A2, c2, he, a1, a2, a3, ⟨nb, h.below b⟩, b⟩
def tsl (x y z : Nat) (c : Bool) (L : List (List Int)) : Sl := fun t => bif Nat.beq t 1 then .a (uA x) else bif Nat.beq t 2 then .a (uA y) else bif Nat.beq t 3 then .a (uA z) else bif Nat.beq t 4 then .a (.b c) else bif Nat.beq t 11 then .a (.p 0 0) else bif Nat.beq t 12 then .a (.p 1 0) else bif Nat.beq t 24 then .a (.rs L) else bif Nat.beq t 25 then .a (.b true) else .z
theorem adi {x y z : Nat} {c : Bool} {L : List (List Int)} {ρ : List Nat} {ok : Nat → Prop} {W : World} {v : Nat → Value} {g1 g2 : Nat} (h1 : v 1 = .int .u64 (x : Int)) (h2 : v 2 = .int .u64 (y : Int)) (h3 : v 3 = .int .u64 (z : Int)) (h4 : v 4 = .bool c)
 (h11 : v 11 = .pointer (some ⟨g1, 0, none⟩)) (h12 : v 12 = .pointer (some ⟨g2, 0, none⟩)) (h24 : AV.R ρ ok W (.a (.rs L)) (v 24)) (h25 : v 25 = .bool true) (r1 : ρ[0]? = some g1) (r2 : ρ[1]? = some g2) : ∀ t, (tsl x y z c L t).R ρ ok W (v t) := by
 intro t; unfold tsl
 cases e1 : Nat.beq t 1 with
 | true => rw [Nat.eq_of_beq_eq_true e1]; exact h1
 | false =>
 cases e2 : Nat.beq t 2 with
 | true => rw [Nat.eq_of_beq_eq_true e2]; exact h2
 | false =>
 cases e3 : Nat.beq t 3 with
 | true => rw [Nat.eq_of_beq_eq_true e3]; exact h3
 | false =>
 cases e4 : Nat.beq t 4 with
 | true => rw [Nat.eq_of_beq_eq_true e4]; exact h4
 | false =>
 cases e5 : Nat.beq t 11 with
 | true => rw [Nat.eq_of_beq_eq_true e5]; exact ⟨g1, r1, h11⟩
 | false =>
 cases e6 : Nat.beq t 12 with
 | true => rw [Nat.eq_of_beq_eq_true e6]; exact ⟨g2, r2, h12⟩
 | false =>
 cases e7 : Nat.beq t 24 with
 | true => rw [Nat.eq_of_beq_eq_true e7]; exact h24
 | false =>
 cases e8 : Nat.beq t 25 with
 | true => rw [Nat.eq_of_beq_eq_true e8]; exact h25
 | false => trivial
theorem Vg {p n : Nat} (x : Nat) (hp : 2 ≤ p) (hpn : p + 1 ≤ n) : (fo x (gF p n).st (n - 1)).outs = [] ∧ (fo x (gF p n).st (n - 1)).ins = (wL n).ins ∧ (fo x (gF p n).st (n - 1)).nodes.length ≤ 30 * n + 1000 ∧ (gF p n).out.length = n ∧ (gF p n).st.nodes.length ≤ 30 * n + 1000 := by
 obtain ⟨g0, g1, g2, g3⟩ := FM n 0 0 0 false; obtain ⟨v1, u1, f1, f2, f3⟩ := Pv (xs := fxs n) (p := p) (KV n 0 0 0 false) g0 g1 g2 (aX _ _) (aX _ _) (aX _ _) hp hpn; obtain ⟨v2, u2, w1⟩ := KT u1.nt x (n - 1); have U := u1.trans u2; have hpre := vQ (s := wL n) (p := p) (n := n) (len := 3) (xs := fxs n) (fun i _ => by unfold fxs; split; exact aX _ _; split; exact aX _ _; exact aX _ _) hp hpn (List.finRange 3); have h := hpre.2; rw [zB, List.length_finRange] at h; have h' : (gF p n).st.nodes.length ≤ n + n + n + 1 + n + 2 + 3 * (7 * n + 40) := h; refine ⟨U.outs, U.ins, ?_, hpre.1, by omega⟩; rw [mY]; omega
def adj : List Nat := [0, 0, 2, 7, 0, 0, 32, 127, 0, 0, 512, 2047, 0, 8191, 16383, 32767, 65535, 131071]
noncomputable def WR : Bool × List (List Nat × List Nat) := gp .any (opsOf Try.f4 7)
theorem Vh : gp .any (opsOf Try.f4 7) = WR := rfl
theorem Qo : fZ WR.2 adj = true := by kernel_rfl
def ZE : List Nat := [0, 0, 0, 4, 12, 0, 63, 127]
noncomputable def Qp : Bool × List (List Nat × List Nat) := gp .any (opsOf Try.f4 11)
theorem Qq : gp .any (opsOf Try.f4 11) = Qp := rfl
theorem NC : fZ Qp.2 ZE = true := by kernel_rfl
set_option maxHeartbeats 8000000 in
set_option maxRecDepth 100000 in
theorem Jq {bits : Int} {f : Fm} (hf : vX bits = some f) {x y z : Nat} (c : Bool) (hx : x < 2 ^ 64) (hy : y < 2 ^ 64) (hz : z < 2 ^ 64) (fx : x < 2 ^ (f.p + f.w)) (fy : y < 2 ^ (f.p + f.w)) (fz : z < 2 ^ (f.p + f.w)) (w : World) :
 Calls Try.prog 4 #[.int .i64 bits, .int .u64 (x : Int), .int .u64 (y : Int), .int .u64 (z : Int), .bool c] w fun e w' => e = .returned (.bool true) ∧ Below w.heap.size w w' := by
 have Ou := Try.underlying25; have amx := Try.underlying26; obtain ⟨h, hbt⟩ := KD hf; have hB := Fm.bounds h; obtain ⟨Wv, hW, hfir, hE⟩ := IX h fx fy fz c
 obtain ⟨p, hp⟩ : ∃ p, p = f.p := ⟨_, rfl⟩
 obtain ⟨wd, hwd⟩ : ∃ wd, wd = f.w := ⟨_, rfl⟩
 obtain ⟨n, hn⟩ : ∃ n, n = f.p + f.w := ⟨_, rfl⟩
 have HEV := af.mk (show (Wv < 2 ^ n ∧ ((f.qZ [x, y, z]).2 = true → Wv = (f.qZ [x, y, z]).1)) ∧ qN (l7 p n x).nodes (l7 p n x).ins (l7 p n x).outs [parts x, parts y, parts z, parts (bN c)] [parts Wv, parts (bv [(f.qZ [x, y, z]).2, f.qp [x, y, z]]), parts (f.bld c (f.ex x) (f.fr x))] from by rw [hn, hp]; exact ⟨⟨hW, hfir⟩, hE⟩); have HI := af.mk (Jp hf hx hy hz fx fy fz n p wd hn hp hwd); have HN := af.mk (show 2 ≤ p ∧ p + 1 ≤ n ∧ n ≤ 64 ∧ 0 < n ∧ x < 2 ^ 64 ∧ y < 2 ^ 64 ∧ z < 2 ^ 64 from ⟨by omega, by omega, by omega, by omega, hx, hy, hz⟩); have HF := af.mk (show f.ok ∧ p = f.p ∧ wd = f.w ∧ n = f.p + f.w from ⟨h, hp, hwd, hn⟩); clear h hbt hB hW hfir hE hx hy hz fx fy fz hf hp hwd hn
 go_enter Try.func4, Try.ntmps4
 go_upto_region 7 with (first | (go_at_call 6; refine (xy.2 _ (fun _ => True) [] trivial).mono ?_; rintro e w1 ⟨v, rfl, hv, hb⟩; obtain rfl : v = .bool true := hv; have HB1 := af.mk hb; clear hb) | (go_at_call 7; refine (HI.out w1).mono ?_; rintro e w2 ⟨rfl, hb⟩; have HB2 := af.mk (az (ai HB1.out _) hb); clear hb) | (go_at_call 13; refine (BZ.calls w _ (ai (ai HB2.out _) _)).mono ?_; rintro e w3 ⟨g, rfl, hi, hb, hb2⟩; have HV3 : af (WE w w3 w3 g st0) := ⟨_, hi, hb, KB.refl _ _⟩; have b25 := bf (bf (heap_alloc_new w2 (.cells #[.int .i64 (n : Int), .int .i64 (p : Int), .int .i64 (wd : Int)] 25)) (ai (Below.refl _ _) (.cells #[.int .i64 (n : Int), .int .i64 (p : Int), .int .i64 (wd : Int)] 26))) hb2; have b26 := bf (heap_alloc_new (w2.alloc (.cells #[.int .i64 (n : Int), .int .i64 (p : Int), .int .i64 (wd : Int)] 25)) (.cells #[.int .i64 (n : Int), .int .i64 (p : Int), .int .i64 (wd : Int)] 26)) hb2; rw [World.size_alloc] at b26; have B25 := af.mk b25; have B26 := af.mk b26; clear b25 b26 hi hb hb2))
 refine jk (n := 18) (S := fun w' => w'.cell? ⟨w2.heap.size, 0, none⟩ = some (.int .i64 (n : Int))) (ds := [11, 13, 14, 15, 16, 17]) #[false, false, false, false, false, false, false, false, false, false, false, false, false, false, false, false, false, false] (by kernel_rfl) rfl rfl ((aj (aA B25.out) 0).trans rfl) (fun hHeld => ?_); refine eT Vh Qo (fun HT_ HW_ => ?_); refine bB (i := 0) (N := some 48) (v := ?_) (a' := ?_) #[true, false, false, false, false, false, false, false, false, false, false, false, false, false, false, false, false, false] rfl rfl (aU HT_.out (by kernel_rfl)) (fun _ _ _ h => h) (Or.inl ⟨by rfl, ?_⟩) ?_ ?_; rotate_left
 ·intro w'; go_simp; with_reducible rfl
 rotate_left
 ·simp only [Act.put, List.setIfInBounds_toArray, List.set_cons_zero, List.set_cons_succ, aG, aJ]; rfl
 refine bB (i := 1) (N := some 49) (v := ?_) (a' := ?_) #[true, true, false, false, false, false, false, false, false, false, false, false, false, false, false, false, false, false] rfl rfl (aU HT_.out (by kernel_rfl)) (fun _ _ _ h => h) (Or.inl ⟨by rfl, ?_⟩) ?_ ?_; rotate_left
 ·intro w'; go_simp; with_reducible rfl
 rotate_left
 ·simp only [Act.put, List.setIfInBounds_toArray, List.set_cons_zero, List.set_cons_succ, aG, aJ]; rfl
 refine eD (i := 2) (N := some 50) (v := ?_) (a' := ?_) #[true, true, true, false, false, false, false, false, false, false, false, false, false, false, false, false, false, false] rfl rfl (bP HT_.out HW_.out (by kernel_rfl)) (fun _ _ _ h => h) (Or.inl ⟨by rfl, ?_⟩) hHeld ?_ ?_; rotate_left
 ·rintro w' s0; go_simp; with_reducible rfl
 rotate_left
 ·simp only [Act.put, List.setIfInBounds_toArray, List.set_cons_zero, List.set_cons_succ, aG, aJ]; rfl
 refine bB (i := 4) (N := some 52) (v := ?_) (a' := ?_) #[true, true, true, false, true, false, false, false, false, false, false, false, false, false, false, false, false, false] rfl rfl (aU HT_.out (by kernel_rfl)) (fun _ _ _ h => h) (Or.inl ⟨by rfl, ?_⟩) ?_ ?_; rotate_left
 ·intro w'; go_simp; with_reducible rfl
 rotate_left
 ·simp only [Act.put, List.setIfInBounds_toArray, List.set_cons_zero, List.set_cons_succ, aG, aJ]; rfl
 refine bB (i := 5) (N := some 53) (v := ?_) (a' := ?_) #[true, true, true, false, true, true, false, false, false, false, false, false, false, false, false, false, false, false] rfl rfl (aU HT_.out (by kernel_rfl)) (fun _ _ _ h => h) (Or.inl ⟨by rfl, ?_⟩) ?_ ?_; rotate_left
 ·intro w'; go_simp; with_reducible rfl
 rotate_left
 ·simp only [Act.put, List.setIfInBounds_toArray, List.set_cons_zero, List.set_cons_succ, aG, aJ]; rfl
 refine eD (i := 6) (N := some 54) (v := ?_) (a' := ?_) #[true, true, true, false, true, true, true, false, false, false, false, false, false, false, false, false, false, false] rfl rfl (bP HT_.out HW_.out (by kernel_rfl)) (fun _ _ _ h => h) (Or.inl ⟨by rfl, ?_⟩) hHeld ?_ ?_; rotate_left
 ·rintro w' s0; go_simp; with_reducible rfl
 rotate_left
 ·simp only [Act.put, List.setIfInBounds_toArray, List.set_cons_zero, List.set_cons_succ, aG, aJ]; rfl
 refine bB (i := 8) (N := some 56) (v := ?_) (a' := ?_) #[true, true, true, false, true, true, true, false, true, false, false, false, false, false, false, false, false, false] rfl rfl (aU HT_.out (by kernel_rfl)) (fun _ _ _ h => h) (Or.inl ⟨by rfl, ?_⟩) ?_ ?_; rotate_left
 ·intro w'; go_simp; with_reducible rfl
 rotate_left
 ·simp only [Act.put, List.setIfInBounds_toArray, List.set_cons_zero, List.set_cons_succ, aG, aJ]; rfl
 refine bB (i := 9) (N := some 57) (v := ?_) (a' := ?_) #[true, true, true, false, true, true, true, false, true, true, false, false, false, false, false, false, false, false] rfl rfl (aU HT_.out (by kernel_rfl)) (fun _ _ _ h => h) (Or.inl ⟨by rfl, ?_⟩) ?_ ?_; rotate_left
 ·intro w'; go_simp; with_reducible rfl
 rotate_left
 ·simp only [Act.put, List.setIfInBounds_toArray, List.set_cons_zero, List.set_cons_succ, aG, aJ]; rfl
 refine eD (i := 10) (N := some 58) (v := ?_) (a' := ?_) #[true, true, true, false, true, true, true, false, true, true, true, false, false, false, false, false, false, false] rfl rfl (bP HT_.out HW_.out (by kernel_rfl)) (fun _ _ _ h => h) (Or.inl ⟨by rfl, ?_⟩) hHeld ?_ ?_; rotate_left
 ·rintro w' s0; go_simp; with_reducible rfl
 rotate_left
 ·simp only [Act.put, List.setIfInBounds_toArray, List.set_cons_zero, List.set_cons_succ, aG, aJ]; rfl
 refine bB (i := 12) (N := some 60) (v := ?_) (a' := ?_) #[true, true, true, false, true, true, true, false, true, true, true, false, true, false, false, false, false, false] rfl rfl (aU HT_.out (by kernel_rfl)) (fun _ _ _ h => h) (Or.inl ⟨by rfl, ?_⟩) ?_ ?_; rotate_left
 ·intro w'; go_simp; with_reducible rfl
 rotate_left
 ·simp only [Act.put, List.setIfInBounds_toArray, List.set_cons_zero, List.set_cons_succ, aG, aJ]; rfl
 refine jR (i := 3) (N := some 51) #[true, true, true, true, true, true, true, false, true, true, true, false, true, false, false, false, false, false] rfl rfl (dD HT_.out (by kernel_rfl)) (by decide) (fun K hK => ?_); refine iC Try.func14 (by kernel_rfl) rfl #[.pointer (some ⟨g, 0, none⟩), .string ⟨#[120]⟩, .int .i64 (n : Int)] (by rfl) rfl rfl (by (try simp only [List.map_toArray, List.map_cons, List.map_nil]); first | done | rfl) ?_; refine (Fy (HV3.out.below (fT (Below.refl _ _))) ⟨#[120]⟩ n (by have := HN.out; show 0 + n < 1000000; omega) (by simp [kW, oG, st0])).mono ?_; rintro ee w4 ⟨v4, rfl, hr, hv, hk⟩; refine ⟨_, rfl, ?_⟩; have hr' : Kd.R (Kd.int .i64) 3 w4 w3.drew.heap.size (fun _ => True) v4 (bR 0 n) := hr; obtain ⟨b1, c1, ev, hc, _, hi⟩ := lG hr' (by rw [aX]; have := HN.out; omega); rw [aX] at hc ev; subst ev; have HV4 := af.mk hv; have HC1 := af.mk hc; have adk := af.mk hi; have WS := af.mk (hk.cells (show w3.drew.heap[w2.heap.size]? = _ from B25.out) (by decide)); have adl := af.mk (hk.cells (show w3.drew.heap[w2.heap.size + 1]? = _ from B26.out) (by decide)); clear hr hr' hv hk hc hi; refine hK.out _ _ ((aj WS.out 0).trans rfl) (fun hHeld => ?_); clear hK K; refine fD (a' := ?_) ?_ ?_; rotate_left
 ·show Act.put _ (some 51) _ = _; simp only [Act.put, List.setIfInBounds_toArray, List.set_cons_zero, List.set_cons_succ, aG, aJ]; rfl
 refine jR (i := 7) (N := some 55) #[true, true, true, true, true, true, true, true, true, true, true, false, true, false, false, false, false, false] rfl rfl (dD HT_.out (by kernel_rfl)) (by decide) (fun K hK => ?_); refine iC Try.func14 (by kernel_rfl) rfl #[.pointer (some ⟨g, 0, none⟩), .string ⟨#[121]⟩, .int .i64 (n : Int)] (by rfl) rfl rfl (by (try simp only [List.map_toArray, List.map_cons, List.map_nil]); first | done | rfl) ?_; refine (Fy HV4.out ⟨#[121]⟩ n (by have := HN.out; rw [xW]; omega) (by simp [kW, oG, st0])).mono ?_; rintro ee w5 ⟨v5, rfl, hr, hv, hk⟩; refine ⟨_, rfl, ?_⟩; have hr' := hr; rw [xW] at hr'; obtain ⟨b2, c2, ev, hc, _, hi⟩ := lG hr' (by rw [aX]; have := HN.out; omega); rw [aX] at hc ev; subst ev; have HV5 := af.mk hv; have HC2 := af.mk hc; have adm := af.mk hi; have WT := af.mk (hk.cells WS.out (by decide)); have adn := af.mk (hk.cells adl.out (by decide)); have ado := af.mk (IL.KB adk.out hk); clear hr hr' hv hk hc hi; refine hK.out _ _ ((aj WT.out 0).trans rfl) (fun hHeld => ?_); clear hK K; refine fD (a' := ?_) ?_ ?_; rotate_left
 ·show Act.put _ (some 55) _ = _; simp only [Act.put, List.setIfInBounds_toArray, List.set_cons_zero, List.set_cons_succ, aG, aJ]; rfl
 refine jg (i := 11) (N := some 59) #[true, true, true, true, true, true, true, true, true, true, true, true, true, false, false, false, false, false] rfl rfl (dD HT_.out (by kernel_rfl)) (by decide) (fun K hK => ?_); refine iC Try.func14 (by kernel_rfl) rfl #[.pointer (some ⟨g, 0, none⟩), .string ⟨#[122]⟩, .int .i64 (n : Int)] (by rfl) rfl rfl (by (try simp only [List.map_toArray, List.map_cons, List.map_nil]); first | done | rfl) ?_; refine (Fy HV5.out ⟨#[122]⟩ n (by have := HN.out; rw [xX]; omega) (by simp [kW, oG, st0])).mono ?_; rintro ee w6 ⟨v6, rfl, hr, hv, hk⟩; refine ⟨_, rfl, ?_⟩; have hr' := hr; rw [xX] at hr'; obtain ⟨b3, c3, ev, hc, _, hi⟩ := lG hr' (by rw [aX]; have := HN.out; omega); rw [aX] at hc ev; subst ev; have HV6 := af.mk hv; have HC3 := af.mk hc; have adp := af.mk hi; have adq := af.mk (hk.cells WT.out (by decide)); have adr := af.mk (hk.cells adn.out (by decide)); have ads := af.mk (IL.KB ado.out hk); have adt := af.mk (IL.KB adm.out hk); clear hr hr' hv hk hc hi; refine hK.out _ _ ?_; clear hK K; refine fD (a' := ?_) ?_ ?_; rotate_left
 ·show Act.put _ (some 59) _ = _; simp only [Act.put, List.setIfInBounds_toArray, List.set_cons_zero, List.set_cons_succ, aG, aJ]; rfl
 refine jg (i := 13) (N := some 61) #[true, true, true, true, true, true, true, true, true, true, true, true, true, true, false, false, false, false] rfl rfl (dD HT_.out (by kernel_rfl)) (by decide) (fun K hK => ?_); refine iC Try.func14 (by kernel_rfl) rfl #[.pointer (some ⟨g, 0, none⟩), .string ⟨#[99]⟩, .int .i64 1] (by rfl) rfl rfl (by (try simp only [List.map_toArray, List.map_cons, List.map_nil]); first | done | rfl) ?_; refine (Fy HV6.out ⟨#[99]⟩ 1 (by have := HN.out; rw [xY]; omega) (by simp [kW, oG, st0])).mono ?_; rintro ee w7 ⟨v7, rfl, hr, hv, hk⟩; refine ⟨_, rfl, ?_⟩; have hr' := hr; rw [xY] at hr'; obtain ⟨b4, c4, ev, hc, _, hi⟩ := lG hr' (by rw [aX]; have := HN.out; omega); rw [aX] at hc ev; subst ev; have HV7 := af.mk hv; have HC4 := af.mk hc; have WU := af.mk hi; have Ld := af.mk (hk.cells adq.out (by decide)); have adu := af.mk (hk.cells adr.out (by decide)); have WV := af.mk (IL.KB ads.out hk); have WW := af.mk (IL.KB adt.out hk); have WX := af.mk (IL.KB adp.out hk); clear hr hr' hv hk hc hi; refine hK.out _ _ ?_; clear hK K; refine fD (a' := ?_) ?_ ?_; rotate_left
 ·show Act.put _ (some 61) _ = _; simp only [Act.put, List.setIfInBounds_toArray, List.set_cons_zero, List.set_cons_succ, aG, aJ]; rfl
 refine bB (i := 14) (N := some 15) (v := ?_) (a' := ?_) #[true, true, true, true, true, true, true, true, true, true, true, true, true, true, true, false, false, false] rfl rfl (aU HT_.out (by kernel_rfl)) (fun _ _ _ h => h) (Or.inl ⟨by rfl, ?_⟩) ?_ ?_; rotate_left
 ·intro w'; go_simp; with_reducible rfl
 rotate_left
 ·simp only [Act.put, List.setIfInBounds_toArray, List.set_cons_zero, List.set_cons_succ, aG, aJ]; rfl
 refine bB (i := 15) (N := some 16) (v := ?_) (a' := ?_) #[true, true, true, true, true, true, true, true, true, true, true, true, true, true, true, true, false, false] rfl rfl (aU HT_.out (by kernel_rfl)) (fun _ _ _ h => h) (Or.inl ⟨by rfl, ?_⟩) ?_ ?_; rotate_left
 ·intro w'; go_simp; with_reducible rfl
 rotate_left
 ·simp only [Act.put, List.setIfInBounds_toArray, List.set_cons_zero, List.set_cons_succ, aG, aJ]; rfl
 refine bB (i := 16) (N := some 17) (v := ?_) (a' := ?_) #[true, true, true, true, true, true, true, true, true, true, true, true, true, true, true, true, true, false] rfl rfl (aU HT_.out (by kernel_rfl)) (fun _ _ _ h => h) (Or.inl ⟨by rfl, ?_⟩) ?_ ?_; rotate_left
 ·intro w'; go_simp; with_reducible rfl
 rotate_left
 ·simp only [Act.put, List.setIfInBounds_toArray, List.set_cons_zero, List.set_cons_succ, aG, aJ]; rfl
 refine bB (i := 17) (N := some 18) (v := ?_) (a' := ?_) #[true, true, true, true, true, true, true, true, true, true, true, true, true, true, true, true, true, true] rfl rfl (aU HT_.out (by kernel_rfl)) (fun _ _ _ h => h) (Or.inl ⟨by rfl, ?_⟩) ?_ ?_; rotate_left
 ·intro w'; go_simp; with_reducible rfl
 rotate_left
 ·simp only [Act.put, List.setIfInBounds_toArray, List.set_cons_zero, List.set_cons_succ, aG, aJ]; rfl
 refine jB (gq HT_.out (by kernel_rfl)) ?_
 have HV7 : af (WE w w3 w7 g (wL n)) := ⟨HV7.out⟩
 have q0 : w7.cell? ⟨w2.heap.size, 0, none⟩ = some (.int .i64 (n : Int)) := (aj Ld.out 0).trans rfl; have q1 : w7.cell? ⟨w2.heap.size, 1, none⟩ = some (.int .i64 (p : Int)) := (aj Ld.out 1).trans rfl; have q2 : w7.cell? ⟨w2.heap.size, 2, none⟩ = some (.int .i64 (wd : Int)) := (aj Ld.out 2).trans rfl; have bl7 := ai (Below.refl w7.heap.size w7) (.cells #[.slice (some ⟨b1, 0, none⟩) n c1, .slice (some ⟨b2, 0, none⟩) n c2, .slice (some ⟨b3, 0, none⟩) n c3] 44); obtain ⟨nb7, wk7⟩ := HV7.out.below bl7
 have mvi : ∀ (b : Nat) (L : List Int), IL w7 b L → IL (w7.alloc (.cells #[.slice (some ⟨b1, 0, none⟩) n c1, .slice (some ⟨b2, 0, none⟩) n c2, .slice (some ⟨b3, 0, none⟩) n c3] 44)) b L := fun b L hh => hh.move (bl7.block b hh.tb.lt)
 have HIO := af.mk (Vg (p := p) (n := n) x HN.out.1 HN.out.2.1 |> fun hh => (⟨hh.1, hh.2.1, hh.2.2.1, hh.2.2.2.1, hh.2.2.2.2⟩ : (fo x (gF p n).st (n - 1)).outs = [] ∧ (fo x (gF p n).st (n - 1)).ins = (wL n).ins ∧ (fo x (gF p n).st (n - 1)).nodes.length ≤ 30 * n + 1000 ∧ (gF p n).out.length = n ∧ (gF p n).st.nodes.length ≤ 30 * n + 1000))
 have HFC := af.mk (OB n p (wd : Int) 3 w7.heap.size 3 (fun i => if i = 0 then b1 else if i = 1 then b2 else b3) (fun i => if i = 0 then c1 else if i = 1 then c2 else c3) (fxs n) wk7.bs wk7.bl
  ⟨_, heap_alloc_new w7 _, fun i hi => by
   match i, hi with
   | 0, _ => rfl
   | 1, _ => rfl
   | 2, _ => rfl⟩
  (fun i hi => by
   match i, hi with
   | 0, _ => exact ⟨mvi b1 _ WV.out, aX _ _, HC1.out⟩
   | 1, _ => exact ⟨mvi b2 _ WW.out, aX _ _, HC2.out⟩
   | 2, _ => exact ⟨mvi b3 _ WX.out, aX _ _, HC3.out⟩) (Nat.le_refl _) HN.out.1 HN.out.2.1 (by have := HN.out; omega) (by omega) (by rw [zB]; have := HN.out; omega))
 have HW7 := af.mk wk7; have adv := af.mk (mvi b4 _ WU.out); have adw := af.mk (bf Ld.out bl7); have adx := af.mk (bf adu.out bl7); clear wk7 mvi bl7 HV7 WV WW WX WU HC1 HC2 HC3
 go_upto_region 11 with (go_at_call 15; refine HFC.out.mono ?_; rintro ee w8 ⟨ob, oc, rfl, hoc, hr, hi, hb, hk⟩; rw [show jQ p n 3 (fxs n) (wL n) (List.finRange 3) = gF p n from rfl] at hr hi ⊢; have HV8 : af (WE w w3 w8 g (gF p n).st) := ⟨nb7, HW7.out.call hi hb hk⟩; have HR8 := af.mk hr; have HOC := af.mk hoc; have HI4 := af.mk (IL.KB adv.out hk); have Gh := af.mk (hk.cells adw.out (by decide)); have WY := af.mk (hk.cells adx.out (by decide)); clear hoc hr hi hb hk)
 clear HFC HW7 adv adw adx q0 q1 q2; have d0 : w8.cell? ⟨w2.heap.size, 0, none⟩ = some (.int .i64 (n : Int)) := (aj Gh.out 0).trans rfl; have d1 : w8.cell? ⟨w2.heap.size, 1, none⟩ = some (.int .i64 (p : Int)) := (aj Gh.out 1).trans rfl; have d2 : w8.cell? ⟨w2.heap.size, 2, none⟩ = some (.int .i64 (wd : Int)) := (aj Gh.out 2).trans rfl; have d4 := HI4.out.cell (j := 0) (by rw [aX]; omega)
 obtain ⟨k3, hk3⟩ : ∃ k3 : Int, k3 = ((n + n + n : Nat) : Int) := ⟨_, rfl⟩
 rw [oF (by omega), Nat.add_zero, ← hk3] at d4; have HK3 := af.mk hk3; clear hk3; refine jk (n := 8) (S := fun w' => w'.cell? ⟨w2.heap.size, 0, none⟩ = some (.int .i64 (n : Int)) ∧ w'.cell? ⟨w2.heap.size, 1, none⟩ = some (.int .i64 (p : Int)) ∧ w'.cell? ⟨w2.heap.size, 2, none⟩ = some (.int .i64 (wd : Int)) ∧ w'.cell? ⟨b4, 0, none⟩ = some (.int .i64 k3)) (ds := [6, 7]) #[false, false, false, false, false, false, false, false] (by kernel_rfl) rfl rfl ⟨d0, d1, d2, d4⟩ (fun hHeld => ?_); refine eT Qq NC (fun HT_ HW_ => ?_); refine bB (i := 0) (N := some 97) (v := ?_) (a' := ?_) #[true, false, false, false, false, false, false, false] rfl rfl (aU HT_.out (by kernel_rfl)) (fun _ _ _ h => h) (Or.inl ⟨by rfl, ?_⟩) ?_ ?_; rotate_left
 ·intro w'; go_simp; with_reducible rfl
 rotate_left
 ·simp only [Act.put, List.setIfInBounds_toArray, List.set_cons_zero, List.set_cons_succ, aG, aJ]; rfl
 refine eD (i := 1) (N := some 98) (v := ?_) (a' := ?_) #[true, true, false, false, false, false, false, false] rfl rfl (bP HT_.out HW_.out (by kernel_rfl)) (fun _ _ _ h => h) (Or.inl ⟨by rfl, ?_⟩) hHeld ?_ ?_; rotate_left
 ·rintro w' ⟨s0, s1, s2, s3⟩; go_simp; with_reducible rfl
 rotate_left
 ·simp only [Act.put, List.setIfInBounds_toArray, List.set_cons_zero, List.set_cons_succ, aG, aJ]; rfl
 refine bB (i := 2) (N := some 99) (v := ?_) (a' := ?_) #[true, true, true, false, false, false, false, false] rfl rfl (aU HT_.out (by kernel_rfl)) (fun _ _ _ h => h) (Or.inl ⟨by rfl, ?_⟩) ?_ ?_; rotate_left
 ·intro w'; go_simp; with_reducible rfl
 rotate_left
 ·simp only [Act.put, List.setIfInBounds_toArray, List.set_cons_zero, List.set_cons_succ, aG, aJ]; rfl
 refine bB (i := 3) (N := some 100) (v := ?_) (a' := ?_) #[true, true, true, true, false, false, false, false] rfl rfl (aU HT_.out (by kernel_rfl)) (fun _ _ _ h => h) (Or.inl ⟨by rfl, ?_⟩) ?_ ?_; rotate_left
 ·intro w'; go_simp; with_reducible rfl
 rotate_left
 ·simp only [Act.put, List.setIfInBounds_toArray, List.set_cons_zero, List.set_cons_succ, aG, aJ]; rfl
 refine eD (i := 4) (N := some 101) (v := ?_) (a' := ?_) #[true, true, true, true, true, false, false, false] rfl rfl (bP HT_.out HW_.out (by kernel_rfl)) (fun _ _ _ h => h) (Or.inl ⟨by rfl, ?_⟩) hHeld ?_ ?_; rotate_left
 ·rintro w' ⟨s0, s1, s2, s3⟩; go_simp; with_reducible rfl
 rotate_left
 ·simp only [Act.put, List.setIfInBounds_toArray, List.set_cons_zero, List.set_cons_succ, aG, aJ]; rfl
 refine bB (i := 5) (N := some 102) (v := ?_) (a' := ?_) #[true, true, true, true, true, true, false, false] rfl rfl (aU HT_.out (by kernel_rfl)) (fun _ _ _ h => h) (Or.inl ⟨by rfl, ?_⟩) ?_ ?_; rotate_left
 ·intro w'; go_simp; with_reducible rfl
 rotate_left
 ·simp only [Act.put, List.setIfInBounds_toArray, List.set_cons_zero, List.set_cons_succ, aG, aJ]; rfl
 refine jg (i := 6) (N := some 103) #[true, true, true, true, true, true, true, false] rfl rfl (dD HT_.out (by kernel_rfl)) (by decide) (fun K hK => ?_); refine iC Try.func16 (by kernel_rfl) rfl #[.pointer (some ⟨g, 0, none⟩), .agg #[.int .i64 (n : Int), .int .i64 (p : Int), .int .i64 (wd : Int)], .int .i64 k3, .int .u64 (x : Int)] (by rfl) rfl rfl (by (try simp only [List.map_toArray, List.map_cons, List.map_nil]); first | done | rfl) ?_; obtain ⟨nb8, wk8⟩ := HV8.out.below (fT (Below.refl _ _)); refine (XO n (n - 1) (.int .i64 (p : Int)) (.int .i64 (wd : Int)) k3 x (by have := HN.out; omega) HN.out.2.2.2.2.1 wk8.bs wk8.bl (by have := HIO.out; have := HN.out; omega)).mono ?_; rintro ee w9 ⟨v9, rfl, hr, h4, h5, h6⟩; refine ⟨_, rfl, ?_⟩
 have hwe : WE w w3 w9 g (fo x (gF p n).st (n - 1)) := ⟨nb8, wk8.call h4 h5 h6⟩
 rw [HK3.out] at hr
 have hln : (zA p n x).length = n := by unfold zA; rw [List.length_append, aX, List.length_singleton]; have := HN.out; omega
 obtain ⟨b9, c9, ev, hc9, _, hi9⟩ := lG (show Kd.R (Kd.int .i64) 3 w9 _ (fun _ => True) v9 (zA p n x) from hr) (by rw [hln]; exact HN.out.2.2.2.1); rw [hln] at ev hc9; subst ev; have HV9 := af.mk hwe; have HP9 := af.mk (show IL w9 b9 (zA p n x) ∧ (zA p n x).length = n ∧ n ≤ c9 from ⟨hi9, hln, hc9⟩); have HO9 := af.mk (show IL w9 ob (gF p n).out from Ic (iB (Kd.bD HR8.out) h6) (by rw [HIO.out.2.2.2.1]; exact HN.out.2.2.2.1)); have Qr := af.mk (h6.cells (show w8.drew.heap[w2.heap.size]? = _ from Gh.out) (by decide)); have WZ := af.mk (h6.cells (show w8.drew.heap[w2.heap.size + 1]? = _ from WY.out) (by decide)); clear hr h4 h5 h6 hwe hln hc9 hi9 wk8 HV8 HR8 Gh WY; refine hK.out _ _ ?_; clear hK K; refine fD (a' := ?_) ?_ ?_; rotate_left
 ·show Act.put _ (some 103) _ = _; simp only [Act.put, List.setIfInBounds_toArray, List.set_cons_zero, List.set_cons_succ, aG, aJ]; rfl
 refine bB (i := 7) (N := some 22) (v := ?_) (a' := ?_) #[true, true, true, true, true, true, true, true] rfl rfl (aU HT_.out (by kernel_rfl)) (fun _ _ _ h => h) (Or.inl ⟨by rfl, ?_⟩) ?_ ?_; rotate_left
 ·intro w'; go_simp; with_reducible rfl
 rotate_left
 ·simp only [Act.put, List.setIfInBounds_toArray, List.set_cons_zero, List.set_cons_succ, aG, aJ]; rfl
 refine jB (gq HT_.out (by kernel_rfl)) ?_; have q0 : w9.cell? ⟨w2.heap.size, 0, none⟩ = some (.int .i64 (n : Int)) := (aj Qr.out 0).trans rfl; obtain ⟨LK, hLK⟩ := FN HN.out.2.2.2.2.1 HN.out.2.2.2.2.2.1 HN.out.2.2.2.2.2.2; have HWK := af.mk (hLK LK (Nat.le_refl _)); obtain ⟨PK, hPK⟩ := oH (n := bN c) (Nat.le_trans (gm (k := 1) (by cases c <;> decide)) (by decide)); have HPK := af.mk (hPK PK (Nat.le_refl _))
 have HLN : af ((fo x (gF p n).st (n - 1)).outs.length < 1000000 ∧ (nk (fo x (gF p n).st (n - 1)) ⟨#[119]⟩ (gF p n).out).outs.length < 1000000 ∧ (nk (nk (fo x (gF p n).st (n - 1)) ⟨#[119]⟩ (gF p n).out) ⟨#[118]⟩ [(gF p n).is, (gF p n).sg]).outs.length < 1000000 ∧ ((l7 p n x).nodes.length < 1000000 ∧ (l7 p n x).ins.length < 1000000 ∧ (l7 p n x).outs.length < 1000000) ∧ (∀ p_ ∈ (l7 p n x).ins, p_.f1.length < 1000000) ∧ (∀ p_ ∈ (l7 p n x).outs, p_.f1.length < 1000000)) := by
  obtain ⟨e1, e2, e3, e4, _⟩ := HIO.out; have hN := HN.out
  have eO : (l7 p n x).outs = [⟨⟨#[119]⟩, (gF p n).out⟩, ⟨⟨#[118]⟩, [(gF p n).is, (gF p n).sg]⟩, ⟨⟨#[116]⟩, zA p n x⟩] := by
   show (fo x (gF p n).st (n - 1)).outs ++ [_] ++ [_] ++ [_] = _; rw [e1]; rfl
  have eI : (l7 p n x).ins = [⟨⟨#[120]⟩, bR 0 n⟩, ⟨⟨#[121]⟩, bR n n⟩, ⟨⟨#[122]⟩, bR (n + n) n⟩, ⟨⟨#[99]⟩, bR (n + n + n) 1⟩] := by rw [← FL]; exact e2
  refine ⟨?_, ?_, ?_, ⟨?_, ?_, ?_⟩, ?_, ?_⟩
  ·rw [e1]; simp
  ·show ((fo x (gF p n).st (n - 1)).outs ++ [_]).length < 1000000; rw [e1]; simp
  ·show ((fo x (gF p n).st (n - 1)).outs ++ [_] ++ [_]).length < 1000000; rw [e1]; simp
  ·show (fo x (gF p n).st (n - 1)).nodes.length < 1000000; omega
  ·rw [eI]; simp
  ·rw [eO]; simp
  ·rw [eI]; intro q hq; simp only [List.mem_cons, List.not_mem_nil, or_false] at hq
   rcases hq with rfl | rfl | rfl | rfl
   all_goals
    show (bR _ _).length < 1000000; rw [aX]; omega
  ·rw [eO]; intro q hq; simp only [List.mem_cons, List.not_mem_nil, or_false] at hq
   rcases hq with rfl | rfl | rfl
   ·show (gF p n).out.length < 1000000; omega
   ·show 2 < 1000000; omega
   ·show (zA p n x).length < 1000000; rw [HP9.out.2.1]; omega
 clear hLK hPK
 go_upto_region 19 with (first | (go_at_call 17; (refine (wH HV9.out ⟨#[119]⟩ (l := (gF p n).out) (qB HO9.out HIO.out.2.2.2.1 (by have := HN.out; omega)) HOC.out (by have := HN.out; omega) HLN.out.1).mono ?_); rintro ee w10 ⟨rfl, h, hk⟩; have Qs := af.mk (WE.below h (ai (Below.refl _ _) (.cells #[.int .i64 (gF p n).is, .int .i64 (gF p n).sg] 3))); have P10 := af.mk (IL.KB HP9.out.1 hk); have Qt := af.mk (hk.cells Qr.out (by decide)); have Qu := af.mk (hk.cells WZ.out (by decide)); clear h hk HV9 Qr WZ) | (go_at_call 17; (refine (wH Qs.out ⟨#[118]⟩ (c := 2) (n := 2) (l := [(gF p n).is, (gF p n).sg]) (qB (n := 2) (ZC w10 (gF p n).is (gF p n).sg) rfl (by omega)) (Nat.le_refl 2) (by omega) HLN.out.2.1).mono ?_); rintro ee w11 ⟨rfl, h, hk⟩; have Gi := af.mk h; have P11 := af.mk (IL.KB (IL.move P10.out (Below.heap_alloc w10 (.cells #[.int .i64 (gF p n).is, .int .i64 (gF p n).sg] 3) b9 P10.out.tb.lt)) hk); have Qv := af.mk (hk.cells (bf Qt.out (ai (Below.refl _ _) (.cells #[.int .i64 (gF p n).is, .int .i64 (gF p n).sg] 3))) (by decide)); have Qw := af.mk (hk.cells (bf Qu.out (ai (Below.refl _ _) (.cells #[.int .i64 (gF p n).is, .int .i64 (gF p n).sg] 3))) (by decide)); clear h hk Qs P10 Qt Qu) | (go_at_call 17; (refine (wH Gi.out ⟨#[116]⟩ (l := zA p n x) (qB P11.out HP9.out.2.1 (by have := HN.out; omega)) HP9.out.2.2 (by have := HN.out; omega) HLN.out.2.2.1).mono ?_); rintro ee w12 ⟨rfl, h, hk⟩; have Pp : af (WE w w3 (mH w12 x y z) g (l7 p n x)) := ⟨WE.below h (ai (Below.refl _ _) _)⟩; have HBW := af.mk Pp.out.bl; have Qx := af.mk (bf (hk.cells Qv.out (by decide)) (ai (Below.refl _ _) (.cells #[.int .u64 (x : Int), .int .u64 (y : Int), .int .u64 (z : Int)] 22))); have Qy := af.mk (bf (hk.cells Qw.out (by decide)) (ai (Below.refl _ _) (.cells #[.int .u64 (x : Int), .int .u64 (y : Int), .int .u64 (z : Int)] 22))); clear h hk Gi P11 Qv Qw) | (go_at_call 18; refine (bC.calls LK _ _ [(x : Int), (y : Int), (z : Int)] [parts x, parts y, parts z] (mH w12 x y z) (Ql w12 x y z) (Nat.le_refl _) HWK.out).mono ?_; rintro ee w13 ⟨v13, rfl, hs, hb⟩; obtain ⟨A13, c13, e13⟩ := Kd.xR hs; subst e13; have ZF := af.mk hs; have ady := af.mk (WE.below Pp.out hb); have Qz := af.mk (bf Qx.out hb); have QA := af.mk (bf Qy.out hb); have HBL := af.mk hb; clear hs hb Pp Qx Qy) | (go_at_call 20; refine (Vf ady.out HLN.out.2.2.2.1 HLN.out.2.2.2.2.1 HLN.out.2.2.2.2.2).mono ?_; rintro ee w14 ⟨A0, c0, A1, c1', A2, c2', rfl, h0, h1, h2, hv, hb⟩; have HF0 := af.mk h0; have HF1 := af.mk h1; have HF2 := af.mk h2; have adz := af.mk hv; have adA := af.mk (Kd.o7 ZF.out hb); have HSL := af.mk (Kd.aiB ZF.out); have QB := af.mk (bf Qz.out hb); have QC := af.mk (bf QA.out hb); have Xa := af.mk (az HBL.out hb); have HSZ := af.mk hb.size; clear h0 h1 h2 hv hb ZF ady Qz QA HBL) | (go_at_call 22; refine ((Vi c).2 _ (fun _ => True) [.bool c] ⟨rfl, trivial⟩).mono ?_; rintro ee w15 ⟨v15, rfl, hv, hb⟩; have hv' : Kd.V Kd.bool 0 w15 0 _ v15 (bts (bN c)) := hv; obtain ⟨A15, c15, e15⟩ := Kd.jJ hv'; subst e15; have adB := af.mk (And.intro (Kd.jT hv').2.2 (Kd.jT hv').2.1); have adC := af.mk (WE.below adz.out hb); have adD := af.mk (Kd.o7 adA.out hb); have G0 := af.mk (Kd.jW HF0.out.2 hb); have G1 := af.mk (Kd.jW HF1.out.2 hb); have G2 := af.mk (Kd.jW HF2.out.2 hb); have QD := af.mk (bf QB.out hb); have QE := af.mk (bf QC.out hb); have QF := af.mk (az Xa.out hb); clear hv hv' hb adz adA QB QC Xa) | (go_at_call 21; refine (aN.calls PK A15 c15 (bts (bN c)) (parts (bN c)) _ adB.out.1 adB.out.2 HPK.out).mono ?_; rintro ee w16 ⟨v16, rfl, hr, hb⟩; obtain ⟨A16, c16, e16⟩ := Kd.bL hr; subst e16; have amy := af.mk (WE.below adC.out hb); have ND := af.mk (Kd.yP adD.out (Kd.gW hr) hb); have ZG := af.mk (Kd.dW hr (aD QF.out)); have J0 := af.mk (Kd.jW G0.out hb); have J1 := af.mk (Kd.jW G1.out hb); have J2 := af.mk (Kd.jW G2.out hb); have DT := af.mk (bf QD.out hb); have DU := af.mk (bf QE.out hb); have QG := af.mk (az QF.out hb); clear hr hb adC adD G0 G1 G2 QD QE QF) | ((with_reducible refine eZ (b := .append) (xs := #[.tmp 135, .tmp 139]) rfl ?_); at_builtin; refine Kd.yQ (Kd.slice 73 (Kd.int .u32)) (w0 := mH w12 x y z) (mH w12 x y z).heap.size rfl (.tmp 135) (.tmp 139) 29 36 (.slice none 0 0) 24 rfl Try.underlying29 Jf rfl (by decide) (by omega) (.slice A13 [parts x, parts y, parts z].length c13) [parts x, parts y, parts z] (parts (bN c)) [.slice A16 (parts (bN c)).length c16] (fun _ => True) (fun k_ => some k_ = (.slice A16 (parts (bN c)).length c16 : Value).ownBlock) rfl rfl ?aP (fun k_ hk_ => ((Kd.dV (ok' := fun k_ => ((fun _ => True)) k_ ∧ some k_ ≠ (Value.slice A13 [parts x, parts y, parts z].length c13).ownBlock) (Kd.nD ZG.out (Kd.kD ND.out) (by decide)) (fun k_ hk => ⟨trivial, hk.2⟩))).1 k_ hk_.symm) ?aF ?aO ?aB ?aS ?aL ?_; (case aP => exact Kd.KX (Kd.dV (Kd.lD rfl (Kd.dV (ok' := fun k_ => ((fun _ => True)) k_ ∧ some k_ ≠ (Value.slice A13 [parts x, parts y, parts z].length c13).ownBlock) (Kd.nD ZG.out (Kd.kD ND.out) (by decide)) (fun k_ hk => ⟨trivial, hk.2⟩))) (fun _ h_ => h_))); (case aB => exact QG.out); (case aF => exact fun _ _ => trivial); (case aO => exact Kd.vS ND.out (fun k_ hk => ⟨trivial, fun e_ => hk.2 e_⟩)); (case aS => exact aD QG.out); (case aL => simp); intro v17 w17 ho hb hg hat; obtain ⟨A17, c17, e17⟩ := Kd.xR ho; subst e17; have adE := af.mk (Kd.S_V ho (base' := w17.heap.size)); have L0 := af.mk (Kd.vO J0.out (fun k hk lt => hg.block k lt (fun ee => by have h1 := HSL.out k ee.symm; omega))); have L1 := af.mk (Kd.vO J1.out (fun k hk lt => hg.block k lt (fun ee => by have h1 := HSL.out k ee.symm; omega))); have L2 := af.mk (Kd.vO J2.out (fun k hk lt => hg.block k lt (fun ee => by have h1 := HSL.out k ee.symm; omega))); have QH := af.mk ((hg.block _ (fC DT.out) (fun ee => by obtain ⟨cc, hh⟩ := Kd.kD ND.out _ ee.symm; rw [DT.out] at hh; injection hh with hh; injection hh with _ hh; cases hh)).trans DT.out); have Jr := af.mk ((hg.block _ (fC DU.out) (fun ee => by obtain ⟨cc, hh⟩ := Kd.kD ND.out _ ee.symm; rw [DU.out] at hh; injection hh with hh; injection hh with _ hh; cases hh)).trans DU.out); have Xb := af.mk hb; clear ho hb hg hat J0 J1 J2 ND ZG DT DU QG) | (go_at_call 19; refine (HEV.out.2 A0 c0 A1 c1' A2 c2' (fun _ => True) A17 c17 w17 (Kd.nL L0.out) HF0.out.1 (Kd.nL L1.out) HF1.out.1 (Kd.nL L2.out) HF2.out.1 adE.out).mono ?_; rintro ee w18 ⟨u, rfl, hv, hb⟩; have HU := af.mk hv; have ZH := af.mk (bf QH.out hb); have ZI := af.mk (bf Jr.out hb); have adF := af.mk (az Xb.out hb); have adG := af.mk (fC Jr.out); clear hv hb L0 L1 L2 adE QH Jr Xb))
 rename_i K19 adH; obtain ⟨h, hp, hwd, hn⟩ := HF.out; have hB := Fm.bounds h; obtain ⟨_, _, _, _, hx, hy, hz⟩ := HN.out; obtain ⟨⟨hW, hfir⟩, _⟩ := HEV.out; have b25 := ZH.out; have b26 := ZI.out; have hu := HU.out; have hlt := adG.out; have hbel : Below w.heap.size w w18 := az HBW.out adF.out; have hge : w.heap.size ≤ w2.heap.size := HB2.out.size; rw [hn, hp, hwd] at b25 b26; have h64 : 2 ^ n ≤ 2 ^ 64 := Nat.pow_le_pow_right (by omega) (by omega)
 obtain ⟨any, hany⟩ : ∃ any, any = (f.qZ [x, y, z]).2 := ⟨_, rfl⟩
 have r1 := xw h hx hy hz; have r2 := kw h hx; have r3 := Cj h hx hy hz; have r4 := NE any (f.qp [x, y, z]); have hbv := KN [any, f.qp [x, y, z]]; have hbld := Fm.qP h (neg := c) (Fm.mf (f := f) (b := x)) (Fm.oL h (b := x)); have hbld' : f.bld c (f.ex x) (f.fr x) < 2 ^ 64 := Nat.lt_of_lt_of_le hbld (by rw [← hn]; exact h64); have hbv' : bv [any, f.qp [x, y, z]] < 2 ^ 64 := Nat.lt_of_lt_of_le hbv (by simp); have q2 := wP hbv'; have i2 := DR hbv'; have rb := y7 h (neg := c) (Fm.mf (f := f) (b := x)) (Fm.oL h (b := x)); have q3 := wP hbld'; have i3 := DR hbld'; rw [← hany] at r1 hu hfir
 have z0 : 0 ≤ (0 : Int) ∧ (0 : Int) < (([parts Wv, parts (bv [any, f.qp [x, y, z]]), parts (f.bld c (f.ex x) (f.fr x))] : List (List Int)).length : Int) := ⟨by omega, by simp⟩
 have z1 : 0 ≤ (1 : Int) ∧ (1 : Int) < (([parts Wv, parts (bv [any, f.qp [x, y, z]]), parts (f.bld c (f.ex x) (f.fr x))] : List (List Int)).length : Int) := ⟨by omega, by simp⟩
 have z2 : 0 ≤ (2 : Int) ∧ (2 : Int) < (([parts Wv, parts (bv [any, f.qp [x, y, z]]), parts (f.bld c (f.ex x) (f.fr x))] : List (List Int)).length : Int) := ⟨by omega, by simp⟩
 refine Qi (w0 := w) (Pk := fun _ => True) (n := 205) (ρ := [w2.heap.size, w2.heap.size + 1]) (sl := tsl x y z c [parts Wv, parts (bv [any, f.qp [x, y, z]]), parts (f.bld c (f.ex x) (f.fr x))]) (bx := [⟨fmA f, 25⟩, ⟨fmA f, 26⟩]) oI mixed adH (Jo oI (r := .a (.b true)) ?gives) ?run ?rel
 case gives =>
  intro ok v W hv hb; obtain rfl : v = .bool true := hv; exact ⟨rfl, hb⟩
 case rel =>
  refine ⟨⟨hbel, rfl, by simp, ?_, ?_⟩, ?_, rfl, rfl⟩
  ·intro g' hg'; simp only [List.mem_cons, List.not_mem_nil, or_false] at hg'
   rcases hg' with rfl | rfl <;> omega
  ·intro j g' c' hj hc'
   match j, hj, hc' with
   | 0, hj, hc' =>
    injection hj with hj; injection hc' with hc'; subst hj; subst hc'; exact ⟨_, b25, rfl, rfl, rfl, trivial⟩
   | 1, hj, hc' =>
    injection hj with hj; injection hc' with hc'; subst hj; subst hc'; exact ⟨_, b26, rfl, rfl, rfl, trivial⟩
   | j + 2, hj, hc' => simp at hj
  ·refine adi rfl rfl rfl rfl rfl rfl ?_ rfl rfl rfl
   exact Kd.j6 (e := 0) (base := 0) hu (fun k hk => ⟨.inl trivial, by
    simp only [List.mem_cons, List.not_mem_nil, or_false, not_or]; have hk' : w17.heap.size ≤ k := hk
    omega⟩)
 case run =>
  clear hu b25 b26 hbel hge hlt adH
  cases any with
  | true =>
   have hw := hfir rfl; have adI : Wv < 2 ^ 64 := Nat.lt_of_lt_of_le hW h64; have q1 := wP adI; have i1 := DR adI; rw [← hw] at r1; clear hfir hw
   repeat (conv => whnf); first | refine fH ?_ | refine fI ?_ | refine ⟨_, r1, ?_⟩ | refine ⟨_, r2, ?_⟩ | refine ⟨_, r3, ?_⟩ | refine ⟨_, r4, ?_⟩ | refine ⟨_, q1, ?_⟩ | refine ⟨_, q2, ?_⟩ | refine ⟨_, q3, ?_⟩ | refine ⟨_, i1, ?_⟩ | refine ⟨_, i2, ?_⟩ | refine ⟨_, i3, ?_⟩ | refine ⟨_, rb, ?_⟩ | refine And.intro z0 ?_ | refine And.intro z1 ?_ | refine And.intro z2 ?_ | refine And.intro (by kernel_rfl) ?_ | refine And.intro (by decide) ?_
   rfl
  | false =>
   repeat (conv => whnf); first | refine fH ?_ | refine fI ?_ | refine ⟨_, r1, ?_⟩ | refine ⟨_, r2, ?_⟩ | refine ⟨_, r3, ?_⟩ | refine ⟨_, r4, ?_⟩ | refine ⟨_, q2, ?_⟩ | refine ⟨_, q3, ?_⟩ | refine ⟨_, i2, ?_⟩ | refine ⟨_, i3, ?_⟩ | refine ⟨_, rb, ?_⟩ | refine And.intro z0 ?_ | refine And.intro z1 ?_ | refine And.intro z2 ?_ | refine And.intro (by kernel_rfl) ?_ | refine And.intro (by decide) ?_
   rfl
end Go.Proofs.Ytkgeihbcikiedaa.A
set_option linter.unusedVariables false
set_option linter.unusedSimpArgs false
set_option linter.constructorNameAsVariable false
set_option linter.unusedSectionVars false
set_option maxRecDepth 100000
set_option maxHeartbeats 8000000
namespace Go.Proofs.Ytkgeihbcikiedaa.A
open Go.RowKit Go.Proofs.Ytkgeihbcikiedaa.P Go.Proofs.YtkgeihbcikiedaaW.PrintWords Go.Proofs.YtkgeihbcikiedaaW.PrintMore Go.Proofs.Ytkgeihbcikiedaa.N Sk Dy
theorem unpackFirst_law (bits x y z : Int) (c : Bool) (hbits : (Lit.int .i64 bits).wf = true) (hx : (Lit.int .u64 x).wf = true) (hy : (Lit.int .u64 y).wf = true) (hz : (Lit.int .u64 z).wf = true) :
 Snd Try.prog 4 [.a (iA bits), .a (.i .u64 x), .a (.i .u64 y), .a (.i .u64 z), .a (.b c)] (.a (.b true)) := by
 obtain ⟨a, rfl, ha⟩ := DN hx; obtain ⟨b, rfl, hb⟩ := DN hy; obtain ⟨d, rfl, hd⟩ := DN hz
 have key : ∀ w : World, Calls Try.prog 4 #[.int .i64 bits, .int .u64 (a : Int), .int .u64 (b : Int), .int .u64 (d : Int), .bool c] w fun e w' => e = .returned (.bool true) ∧ Below w.heap.size w w' := by
  intro w
  cases hf : vX bits with
  | none => exact Cm c w (fun W => NB hf a b d W)
  | some f =>
   by_cases h1 : a < 2 ^ (f.p + f.w) ∧ b < 2 ^ (f.p + f.w) ∧ d < 2 ^ (f.p + f.w)
   ·exact Jq hf c ha hb hd h1.1 h1.2.1 h1.2.2 w
   ·refine Cm (a1 := ((f.p + f.w : Nat) : Int)) (a2 := (f.p : Int)) (a3 := (f.w : Int)) c w (fun W => (Gg hf ha hb hd W).mono ?_); rintro e w' ⟨rfl, hb'⟩
    have hb0 : (!(decide (2 ^ (f.p + f.w) ≤ a) || decide (2 ^ (f.p + f.w) ≤ b) || decide (2 ^ (f.p + f.w) ≤ d))) = false := by
     by_cases k1 : 2 ^ (f.p + f.w) ≤ a
     ·simp [k1]
     ·by_cases k2 : 2 ^ (f.p + f.w) ≤ b
      ·simp [k2]
      ·have k3 : 2 ^ (f.p + f.w) ≤ d := by omega
       simp [k3]
    rw [hb0]; exact ⟨rfl, hb'⟩
 refine ⟨⟨_, Try.func4, by kernel_rfl, rfl⟩, fun w Pk vs hvs => ?_⟩
 match vs, hvs with
 | [v1, v2, v3, v4, v5], ⟨h1, h2, h3, h4, h5, _⟩ =>
  have h1 : v1 = .int .i64 bits := h1; have h2 : v2 = .int .u64 (a : Int) := h2; have h3 : v3 = .int .u64 (b : Int) := h3; have h4 : v4 = .int .u64 (d : Int) := h4; have h5 : v5 = .bool c := h5; subst h1 h2 h3 h4 h5; refine (key w).mono ?_; rintro e w' ⟨rfl, hb⟩; exact ⟨_, rfl, rfl, hb⟩
end Go.Proofs.Ytkgeihbcikiedaa.A
