/- The contract of reference 7's Fast, for all nets of fewer than a million nodes that stand behind those they use. -/
import Derived.Test.YtkgeihbcikiedaaS75
import Derived.Test.YtkgeihbcikiedaaPx0
import Derived.Test.YtkgeihbcikiedaaPx2
set_option linter.unusedVariables false
set_option linter.unusedSimpArgs false
set_option linter.constructorNameAsVariable false
set_option linter.unusedSectionVars false
namespace Go.Proofs.Ytkgeihbcikiedaa.P
open Go.RowKit Go.Proofs.Ytkgeihbcikiedaa.N Go.Proofs.YtkgeihbcikiedaaW.PrintWords Go.Proofs.YtkgeihbcikiedaaW.PrintLast Go.Proofs.YtkgeihbcikiedaaW.PrintMore
attribute [local go_sem] eU eX fU fV dX dY eZ fo
def abj : Value → Nat
 | .slice _ n _ => n
 | _ => 0
def Tri (B : Nat) (W : World) (v4 v5 v6 : Value) (x4 x5 x6 : List Int) : Prop :=
 Kd.R (Kd.int .i64) 3 W B (fun k_ => some k_ ≠ v5.ownBlock ∧ some k_ ≠ v6.ownBlock) v4 x4 ∧ Kd.R (Kd.int .i64) 3 W B (fun k_ => some k_ ≠ v4.ownBlock ∧ some k_ ≠ v6.ownBlock) v5 x5 ∧ Kd.R (Kd.int .i64) 3 W B (fun k_ => some k_ ≠ v4.ownBlock ∧ some k_ ≠ v5.ownBlock) v6 x6
namespace Tri
variable {B : Nat} {W W1 : World} {v4 v5 v6 v : Value} {x4 x5 x6 x : List Int}
theorem below (h : Tri B W v4 v5 v6 x4 x5 x6) (hb : Below W.heap.size W W1) : Tri B W1 v4 v5 v6 x4 x5 x6 := ⟨Kd.dE h.1 hb, Kd.dE h.2.1 hb, Kd.dE h.2.2 hb⟩
theorem abk (h : Tri B W v4 v5 v6 x4 x5 x6) (ho : Kd.R (Kd.int .i64) 3 W1 B (fun k_ => some k_ ≠ v4.ownBlock ∧ some k_ ≠ v5.ownBlock) v x) (hg : W.grownBy W1 v6.ownBlock) (hat : v.ownBlock = v6.ownBlock ∨ ∃ b, v.ownBlock = some b ∧ W.heap.size ≤ b) : Tri B W1 v4 v5 v x4 x5 x :=
 ⟨Kd.rz (ok := fun k_ => some k_ ≠ v5.ownBlock) h.1 hg hat, Kd.rz (ok := fun k_ => some k_ ≠ v4.ownBlock) h.2.1 hg hat, ho⟩
theorem abl (h : Tri B W v4 v5 v6 x4 x5 x6) (ho : Kd.R (Kd.int .i64) 3 W1 B (fun k_ => some k_ ≠ v4.ownBlock ∧ some k_ ≠ v6.ownBlock) v x) (hg : W.grownBy W1 v5.ownBlock) (hat : v.ownBlock = v5.ownBlock ∨ ∃ b, v.ownBlock = some b ∧ W.heap.size ≤ b) : Tri B W1 v4 v v6 x4 x x6 :=
 ⟨Kd.eG (Kd.rz (ok := fun k_ => some k_ ≠ v6.ownBlock) (Kd.eG h.1 fun _ hk => ⟨hk.2, hk.1⟩) hg hat) (fun _ hk => ⟨hk.2, hk.1⟩), ho, Kd.rz (ok := fun k_ => some k_ ≠ v4.ownBlock) h.2.2 hg hat⟩
theorem abm (h : Tri B W v4 v5 v6 x4 x5 x6) (ho : Kd.R (Kd.int .i64) 3 W1 B (fun k_ => some k_ ≠ v5.ownBlock ∧ some k_ ≠ v6.ownBlock) v x) (hg : W.grownBy W1 v4.ownBlock) (hat : v.ownBlock = v4.ownBlock ∨ ∃ b, v.ownBlock = some b ∧ W.heap.size ≤ b) : Tri B W1 v v5 v6 x x5 x6 :=
 ⟨ho, Kd.eG (Kd.rz (ok := fun k_ => some k_ ≠ v6.ownBlock) (Kd.eG h.2.1 fun _ hk => ⟨hk.2, hk.1⟩) hg hat) (fun _ hk => ⟨hk.2, hk.1⟩), Kd.eG (Kd.rz (ok := fun k_ => some k_ ≠ v5.ownBlock) (Kd.eG h.2.2 fun _ hk => ⟨hk.2, hk.1⟩) hg hat) (fun _ hk => ⟨hk.2, hk.1⟩)⟩
theorem abn {g n c : Nat} (h : Tri B W (.slice (some ⟨g, 0, none⟩) n c) v5 v6 x4 x5 x6) (i : Int) (x : Int) : Tri B (W.setCell ⟨g, i.toNat, none⟩ (.int .i64 x)) (.slice (some ⟨g, 0, none⟩) n c) v5 v6 (x4.set i.toNat x) x5 x6 :=
 h.abm (Kd.lH h.1 i x).1 (Kd.lH h.1 i x).2 (.inl rfl)
theorem abo {A : Option Addr} {n c m : Nat} (h : Tri B W v4 v5 (.slice A n c) x4 x5 x6) (hm : m ≤ x6.length) (he : (Value.slice A m c).ownBlock = (Value.slice A n c).ownBlock) : Tri B W v4 v5 (.slice A m c) x4 x5 (x6.take m) := by
 refine ⟨?_, ?_, Kd.O6 h.2.2 hm⟩
 ·rw [he]; exact h.1
 ·rw [he]; exact h.2.1
end Tri
theorem SS {P : Program} (t e : TypeId) (kh : IntKind) {i : TypeInfo} (ht : P.underlying t = some (.slice e)) (hi : P.info? e = some i) (A : Option Addr) (n c j : Nat) (hj : j ≤ n) (hc : n ≤ c) :
 ∀ W : World, (Instr.slice t (.slice A n c) none (some (.int kh (j : Int))) none).run P W = .ok (.slice A j c) W := by
 intro W
 have hel : P.elem t = e := by simp [Program.elem, ht]
 have hu : P.underlying t = some (.slice (P.elem t)) := by rw [hel]; exact ht
 rw [run_slice_h W t _ n c hu kh j (by omega) (by omega), hel]
 have ha : (A.map fun x => x.add 0) = A := by cases A <;> simp [Addr.add]
 simp [sizeOf, typeInfo, hi, sliced, Result.andThen, ha]
theorem Iz {v : List Bool} {i : Nat} {g : S92} {b : Bool} (h : Gt v i g b) (w : World) : Calls Try.prog 73 #[.agg #[.int .i64 g.f0, .int .i64 g.f1, .int .i64 g.f2, .int .i64 g.f3]] w fun e w' => ∃ u, e = .returned u ∧ Kd.R (Kd.int .i64) 3 w' w.heap.size (fun _ => True) u (lC g) ∧ Below w.heap.size w w' := by
 obtain ⟨K, hK⟩ := SV h; exact cK.calls K _ _ _ _ _ w (hK K (Nat.le_refl _))
set_option maxHeartbeats 8000000 in
set_option maxRecDepth 100000 in
theorem IA {nodes : List S92} {v : List Bool} {ins outs : List S94} (hn : Nt nodes v) (hl : nodes.length < 1000000) (hi : ∀ p ∈ ins ++ outs, vP nodes.length p) (hli : (ins ++ outs).length < 1000000)
 (A0 : Option Addr) (c0 : Nat) (A1 : Option Addr) (c1 : Nat) (A2 : Option Addr) (c2 : Nat) (w : World) (hr0 : Kd.C k92 w A0 nodes.length nodes) (hc0 : nodes.length ≤ c0) (hr1 : Kd.C k94 w A1 ins.length ins) (hc1 : ins.length ≤ c1) (hr2 : Kd.C k94 w A2 outs.length outs) (hc2 : outs.length ≤ c2) :
 Calls Try.prog 46 #[.agg #[.slice A0 nodes.length c0, .slice A1 ins.length c1, .slice A2 outs.length c2]] w fun e w' => ∃ u, e = .returned (.tuple #[u, .bool true]) ∧ Kd.R (Kd.int .i64) 3 w' w.heap.size (fun _ => True) u (upTo nodes.length) ∧ Below w.heap.size w w' := by
 have Bl := Try.underlying55; have Nf := Try.underlying92; have HR0 := af.mk hr0
 have HF := fun W (hb : Below w.heap.size w W) => CG hn hl hi hli A0 c0 A1 c1 A2 c2 W (Kd.bR hr0 hb) hc0 (Kd.bR hr1 hb) hc1 (Kd.bR hr2 hb) hc2
 have HFF := af.mk HF; have HN := af.mk hn; have HL := af.mk hl; clear hr0 hr1 hr2 hc0 hc1 hc2 hn hl hi hli HF
 go_enter Try.func46, Try.ntmps46
 go_wp2_with (first | ((with_reducible refine bS (N := 1) rfl ?_); (try (refine sG (by rfl) ?_; dsimp only)); refine dw ?hg (N := 1) ?hd (cs := #[.slice A0 nodes.length c0, .slice A1 ins.length c1, .slice A2 outs.length c2]) (t := 55) ?hr ?_; (case hd => rfl); (case hg => rfl); (case hr => first | (go_simp; done) | (go_simp; rfl)); intro gb hg w2 hbox hb; have HBX := af.mk hbox; have HB := af.mk (aA (Below.refl _ _) hb); have q0 : w2.cell? ⟨gb, 0, none⟩ = some (.slice A0 nodes.length c0) := (ak hbox 0).trans rfl; have q1 : w2.cell? ⟨gb, 1, none⟩ = some (.slice A1 ins.length c1) := (ak hbox 1).trans rfl; have q2 : w2.cell? ⟨gb, 2, none⟩ = some (.slice A2 outs.length c2) := (ak hbox 2).trans rfl; clear hg hbox hb) | (go_at_call 72; refine (HFF.out _ HB.out).mono ?_; rintro e w3 ⟨rfl, hb⟩; have HB3 := af.mk (aA HB.out hb); have qp := af.mk (bP HBX.out hb); clear hb HBX HB HFF q0 q1 q2; have q0 : w3.cell? ⟨gb, 0, none⟩ = some (.slice A0 nodes.length c0) := (ak qp.out 0).trans rfl) | ((with_reducible refine bS (N := 18) rfl ?_); refine Kd.oM (Kd.int .i64) w.heap.size 3 rfl (N := 18) rfl 44 _ _ rfl (nodes.length : Int) rfl rfl Try.underlying44 (.int .i64 0) 8 info3 rfl (by decide) (by omega) 0 (ok := fun _ => True) (okp := fun _ => True) rfl (fun _ hk => hk) trivial (by omega) (by have := HL.out; omega) HB3.out HB3.out.size ?_; intro v4 w4 ho hb hg hnew; rw [Int.toNat_natCast] at ho; have HO4 := af.mk ho; have HB4 := af.mk hb; have IB := af.mk ((hg.block gb (gU qp.out) (by simp)).trans qp.out); clear ho hb hg hnew HB3 qp q0) | ((with_reducible refine bS (N := 19) rfl ?_); refine Kd.oz (Kd.int .i64) _ 3 ?hg (N := 19) ?hd (xs := ([] : List Int)) (inner := []) (ok := fun _ => True) (okp := fun _ => True) ?hr ?hp (fun _ hk => hk) trivial (Below.refl _ _) (Nat.le_refl _) (by simp) ?_; (case hd => rfl); (case hg => rfl); (case hr => first | (go_simp; done) | (go_simp; rfl)); (case hp => exact (eF.none _ _)); intro v5 w5 ho hb hg hnew; have XR := af.mk (Kd.jI HO4.out (Kd.iN ho) hb); have HO5 := af.mk (Kd.fA (Kd.nY ho (Kd.oN HO4.out)) HB4.out.size); have HB5 := af.mk (aA HB4.out hb); have abp := af.mk (bP IB.out hb); clear ho hb hg hnew HB4 IB HO4) | ((with_reducible refine bS (N := 20) rfl ?_); refine Kd.oz (Kd.int .i64) _ 3 ?hg (N := 20) ?hd (xs := ([] : List Int)) (inner := []) (ok := fun _ => True) (okp := fun _ => True) ?hr ?hp (fun _ hk => hk) trivial (Below.refl _ _) (Nat.le_refl _) (by simp) ?_; (case hd => rfl); (case hg => rfl); (case hr => first | (go_simp; done) | (go_simp; rfl)); (case hp => exact (eF.none _ _)); intro v6 w6 ho hb hg hnew; have HT : af (Tri w.heap.size w6 v4 v5 v6 (List.replicate nodes.length 0) [] []) := ⟨Kd.eG (Kd.jI XR.out (Kd.iN ho) hb) (fun _ hk => ⟨hk.1.2, hk.2⟩), Kd.eG (Kd.jI HO5.out (Kd.iN ho) hb) (fun _ hk => ⟨hk.1.2, hk.2⟩), Kd.eG (Kd.fA (Kd.nY (Kd.nY ho (Kd.oN XR.out)) (Kd.oN HO5.out)) HB5.out.size) (fun _ hk => ⟨hk.1.2, hk.2⟩)⟩; have HB6 := af.mk (aA HB5.out hb); have abq := af.mk (bP abp.out hb); clear ho hb hg hnew HB5 abp XR HO5))
 go_loopw [5, 6, 7] (fun v5 v6 x wr => ∃ (k : Nat) (x4 : List Int), k ≤ nodes.length ∧ x = .int .i64 (k : Int) ∧ af (Tri w.heap.size wr v4 v5 v6 x4 (upTo k) []) ∧ af (x4.length = nodes.length ∧ (∀ a, a < k → rd x4 (a : Int) = 2) ∧ (∀ a, k ≤ a → a < nodes.length → rd x4 (a : Int) = 0)) ∧ af (wr.heap[gb]? = some (.cells #[.slice A0 nodes.length c0, .slice A1 ins.length c1, .slice A2 outs.length c2] 55 (0, 0))) ∧ af (Below w.heap.size w wr))
  (fun _ _ x _ => nodes.length - (intOf x).toNat)
 case atStart => exact ⟨0, _, Nat.zero_le _, rfl, HT, ⟨by simp, fun a ha => by omega, fun a _ _ => EX _ a⟩, abq, HB6⟩
 case round =>
  clear HT abq HB6; obtain ⟨k, x4, hk, rfl, HT, HX, HBX, HB⟩ := hrel; have q0 : wr.cell? ⟨gb, 0, none⟩ = some (.slice A0 nodes.length c0) := (ak HBX.out 0).trans rfl
  by_cases hlt : k < nodes.length
  ·obtain ⟨sb, sc, e4, hsb, _, cells, hcl⟩ := Kd.kH HT.out.1 (by have := HX.out.1; omega); have HSB := af.mk hsb
   have HNE : af (gb ≠ sb) := ⟨fun h => by
    have h1 := HBX.out; rw [h, hcl] at h1
    simp at h1⟩
   clear hsb hcl; have hx4 : x4.length = nodes.length := HX.out.1; rw [hx4] at e4; subst e4; obtain ⟨z1, z2⟩ := Kd.gu 0 HT.out.1 (k : Int) (by omega) (by omega); rw [show lI 0 x4 (k : Int) = 0 from HX.out.2.2 k (Nat.le_refl _) hlt, Int.toNat_natCast] at z1; rw [Int.toNat_natCast] at z2
   have d1 : (k : Int) < (nodes.length : Int) := by omega
   go_wp2_with (first | ((with_reducible refine gy (b := .append) (xs := #[.tmp 33, .tmp 35]) rfl ?_); at_builtin; refine Kd.kP (Kd.int .i64) (w0 := w) w.heap.size rfl (.tmp 33) (.tmp 35) 44 3 (.int .i64 0) 8 rfl Try.underlying44 info3 rfl (by decide) (by omega) u6 ([] : List Int) (k : Int) [.int .i64 (k : Int)] (fun k_ => some k_ ≠ (Value.slice (some ⟨sb, 0, none⟩) nodes.length sc).ownBlock ∧ some k_ ≠ u5.ownBlock) (fun _ => False) rfl rfl ?aP (fun _ hk => hk.elim) ?aF ?aO ?aB ?aS ?aL ?_; (case aP => exact rfl); (case aB => exact HB.out); (case aF => exact fun k_ hk => ⟨Kd.fresh' (Kd.oN HT.out.1) k_ hk, Kd.fresh' (Kd.oN HT.out.2.1) k_ hk⟩); (case aO => exact HT.out.2.2); (case aS => exact HB.out.size); (case aL => have := HL.out; simp [tT]; try omega); intro v61 w61 ho hb hg hat; have HT' := af.mk (HT.out.abk ho hg hat); have HBX' := af.mk (fQ (g := gb) HBX.out hg (Kd.mI HT.out.2.2 HBX.out (by decide))); have HB' := af.mk hb; clear ho hb hg hat HT HBX HB; clear z1 z2 q0))
   have hnx : ∃ x4' : List Int, x4'.length = nodes.length ∧ (∀ a, a < k + 1 → rd x4' (a : Int) = 2) ∧ (∀ a, k + 1 ≤ a → a < nodes.length → rd x4' (a : Int) = 0) ∧ x4' = (x4.set k 1).set k 2 := ⟨_, by simp [hx4], fun a ha => by
    rw [sH _ _ _ _ (by simp; omega)]
    by_cases h : k = a
    ·rw [if_pos h]
    ·rw [if_neg h, sH _ _ _ _ (by omega), if_neg h]; exact HX.out.2.1 a (by omega), fun a ha hb => by
    rw [sH _ _ _ _ (by simp; omega), if_neg (by omega), sH _ _ _ _ (by omega), if_neg (by omega)]; exact HX.out.2.2 a (by omega) hb, rfl⟩
   obtain ⟨x4', hx1, hx2, hx3, hx5⟩ := hnx
   have HX' : af (x4'.length = nodes.length ∧ (∀ a, a < k + 1 → rd x4' (a : Int) = 2) ∧ (∀ a, k + 1 ≤ a → a < nodes.length → rd x4' (a : Int) = 0)) := ⟨hx1, hx2, hx3⟩
   have HX5 := af.mk hx5; clear hx1 hx2 hx3 hx5
   go_loopw [5, 6] (fun v5 v6 wr => ∃ b : Bool, af (Tri w.heap.size wr (.slice (some ⟨sb, 0, none⟩) nodes.length sc) v5 v6 (if b = true then x4' else x4) (if b = true then upTo (k + 1) else upTo k) (if b = true then [] else [(k : Int)])) ∧ af (wr.heap[gb]? = some (.cells #[.slice A0 nodes.length c0, .slice A1 ins.length c1, .slice A2 outs.length c2] 55 (0, 0))) ∧ af (Below w.heap.size w wr))
    (fun _ v6 _ => abj v6)
   case atStart => exact ⟨false, HT', HBX', HB'⟩
   case round =>
    clear HT' HBX' HB'; obtain ⟨b, HT, HBX, HB⟩ := hrel; have q0 : wr.cell? ⟨gb, 0, none⟩ = some (.slice A0 nodes.length c0) := (ak HBX.out 0).trans rfl
    cases b with
    | true =>
     obtain ⟨A6, c6, e6⟩ := Kd.bQ HT.out.2.2; subst e6; go_wp2; have hL := HL.out; exact ⟨⟨k + 1, x4', hlt, KQ (by omega), HT, HX', HBX, HB⟩, KR hlt (by omega)⟩
    | false =>
     have hT : Tri w.heap.size wr (.slice (some ⟨sb, 0, none⟩) nodes.length sc) u5 u6 x4 (upTo k) [(k : Int)] := HT.out; clear HT; obtain ⟨g6, c6, e6, _⟩ := Kd.kH hT.2.2 (by simp); subst e6; obtain ⟨s1, s2⟩ := Kd.gu 0 hT.2.2 (0 : Int) (by omega) (by simp); have s1 : wr.cell? ⟨g6, 0, none⟩ = some (.int .i64 (k : Int)) := s1; have hc6 : 1 ≤ c6 := (Kd.bY hT.2.2).2.1; have HC6 := af.mk hc6; have HT := af.mk hT; obtain ⟨ad, e, x0, x1, x2, x3⟩ := mE (Kd.bR HR0.out HB.out) (k : Int) (by omega) (by omega); subst e; rw [Int.toNat_natCast] at x0 x1 x2 x3; obtain ⟨bb, hbb, hgg⟩ := HN.out.at hlt; have HG := af.mk hgg
     obtain ⟨g, hg⟩ : ∃ g, g = aM nodes (k : Int) := ⟨_, rfl⟩
     rw [← hg] at x0 x1 x2 x3 HG; have z7 : (g.f0 != 7) = true := bne_iff_ne.mpr HG.out.kind; clear hbb hgg hg hT s2; go_wp2_with (first | (go_at_call 73; refine (Iz HG.out _).mono ?_; rintro e w7 ⟨u10, rfl, hu, hb⟩; obtain ⟨A10, c10, e10⟩ := Kd.bQ hu; subst e10; have HU := af.mk (Kd.bY hu).2.2; have HT7 := af.mk (HT.out.below hb); have abr := af.mk (bP HBX.out hb); have HB7 := af.mk (aA HB.out hb); clear hu hb HT HBX HB))
     have hs1 := (Kd.kH HT7.out.2.2 (by simp))
     go_loopw [9, 11] (fun x9 x11 wq => ∃ j : Nat, j ≤ (lC g).length ∧ x9 = .int .i64 (-1) ∧ x11 = .int .i64 (j : Int) ∧ wq = w7)
      (fun _ x _ => (lC g).length - (intOf x).toNat)
     case atStart => exact ⟨0, Nat.zero_le _, rfl, rfl, rfl⟩
     case round =>
      obtain ⟨j, hj, rfl, rfl, rfl⟩ := hrel; have u3 := (KS HG.out).1
      by_cases hlj : j < (lC g).length
      ·obtain ⟨a, ha, hak⟩ := (KS HG.out).2 j hlj; obtain ⟨a5, e5, y5⟩ := Kd.cZ HU.out (j : Int) (by omega) (by omega); subst e5; rw [ha, Int.toNat_natCast] at y5; obtain ⟨t1, t2⟩ := Kd.gu 0 HT7.out.1 (a : Int) (by omega) (by omega); rw [show lI 0 x4 (a : Int) = 2 from HX.out.2.1 a hak, Int.toNat_natCast] at t1
       have d3 : (j : Int) < ((lC g).length : Int) := by omega
       have d4 : (a : Int) < (nodes.length : Int) := by omega
       clear ha t2; go_wp2; exact ⟨⟨j + 1, hlj, rfl, by simp, trivial⟩, by simp only [intOf]; omega⟩
      ·obtain ⟨t1, t2⟩ := Kd.gu 0 HT7.out.1 (k : Int) (by omega) (by omega); rw [show lI 0 x4 (k : Int) = 0 from HX.out.2.2 k (Nat.le_refl _) hlt, Int.toNat_natCast] at t1; rw [Int.toNat_natCast] at t2; have hcut := SS (P := Try.prog) 44 3 .i64 Try.underlying44 rfl (some ⟨g6, 0, none⟩) 1 c6 0 (by omega) HC6.out; go_wp2_with (first | ((with_reducible refine gp (t := 3) (p := 84) rfl ?_); refine fT (t := 3) (p := 84) (v := ?aj7) (w1 := (wr.setCell ⟨sb, k, none⟩ (.int .i64 1))) ?hg ?ho ?hn ?hr ?_; (case ho => rfl); (case hg => rfl); (case hn => rfl); (case hr => first | (go_simp; done) | (go_simp; rfl)); intro w8 hw; have HT8 := af.mk (HT7.out.abn (k : Int) 1); rw [Int.toNat_natCast, ← hw] at HT8; have HB8 := af.mk (show Below w.heap.size w (wr.setCell ⟨sb, k, none⟩ (.int .i64 1)) from ay HB7.out HSB.out); rw [← hw] at HB8; have XT : af (w8.heap[gb]? = some (.cells #[.slice (some ad) nodes.length c0, .slice A1 ins.length c1, .slice A2 outs.length c2] 55 (0, 0))) := ⟨by rw [hw]; exact (Below.heap_setCell wr ⟨sb, k, none⟩ _ gb HNE.out).trans abr.out⟩; clear hw HT7 HB7 abr t1 t2; obtain ⟨t1, t2⟩ := Kd.gu 0 HT8.out.1 (k : Int) (by omega) (by omega); rw [show lI 0 (x4.set k 1) (k : Int) = 1 from (sH _ _ _ _ (by omega)).trans (if_pos rfl), Int.toNat_natCast] at t1; rw [Int.toNat_natCast] at t2) | ((with_reducible refine gy (b := .append) (xs := #[.tmp 92, .tmp 94]) rfl ?_); at_builtin; refine Kd.kP (Kd.int .i64) (w0 := w) w.heap.size rfl (.tmp 92) (.tmp 94) 44 3 (.int .i64 0) 8 rfl Try.underlying44 info3 rfl (by decide) (by omega) u5 (upTo k) (k : Int) [.int .i64 (k : Int)] (fun k_ => some k_ ≠ (Value.slice (some ⟨sb, 0, none⟩) nodes.length sc).ownBlock ∧ some k_ ≠ (Value.slice (some ⟨g6, 0, none⟩) 1 c6).ownBlock) (fun _ => False) rfl rfl ?aP (fun _ hk => hk.elim) ?aF ?aO ?aB ?aS ?aL ?_; (case aP => exact rfl); (case aB => exact HB8.out); (case aF => exact fun k_ hk => ⟨Kd.fresh' (Kd.oN HT8.out.1) k_ hk, Kd.fresh' (Kd.oN HT8.out.2.2) k_ hk⟩); (case aO => exact HT8.out.2.1); (case aS => exact HB8.out.size); (case aL => have := HL.out; rw [tT]; omega); intro v59 w9 ho hb hg hat; have HT9 := af.mk (HT8.out.abl ho hg hat); have abt := af.mk (fQ (g := gb) XT.out hg (Kd.mI HT8.out.2.1 XT.out (by decide))); have HB9 := af.mk hb; clear ho hb hg hat HT8 XT HB8 t1 t2; obtain ⟨t1, t2⟩ := Kd.gu 0 HT9.out.1 (k : Int) (by omega) (by omega); rw [Int.toNat_natCast] at t1 t2) | ((with_reducible refine gp (t := 3) (p := 98) rfl ?_); refine fT (t := 3) (p := 98) (v := ?ahL) (w1 := (w9.setCell ⟨sb, k, none⟩ (.int .i64 2))) ?hg ?ho ?hn ?hr ?_; (case ho => rfl); (case hg => rfl); (case hn => rfl); (case hr => first | (go_simp; done) | (go_simp; rfl)); intro w10 hw; have abu := af.mk (HT9.out.abn (k : Int) 2); rw [Int.toNat_natCast, ← hw] at abu; have abv := af.mk (show Below w.heap.size w (w9.setCell ⟨sb, k, none⟩ (.int .i64 2)) from ay HB9.out HSB.out); rw [← hw] at abv; have abw : af (w10.heap[gb]? = some (.cells #[.slice (some ad) nodes.length c0, .slice A1 ins.length c1, .slice A2 outs.length c2] 55 (0, 0))) := ⟨by rw [hw]; exact (Below.heap_setCell w9 ⟨sb, k, none⟩ _ gb HNE.out).trans abt.out⟩; clear hw HT9 HB9 abt t1 t2)); have h := abu.out.abo (m := 0) (by simp) rfl; rw [← HX5.out, ← Ng] at h; exact ⟨⟨true, ⟨h⟩, abw, abv⟩, by show 0 < 1; omega⟩
  ·obtain rfl : k = nodes.length := by omega
   go_wp2; go_ret2; exact ⟨_, rfl, Kd.eG HT.out.2.1 (fun _ _ => trivial), HB.out⟩
end Go.Proofs.Ytkgeihbcikiedaa.P
