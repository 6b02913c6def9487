/- The contract of reference 7's Eval (and, where they lie here, of Formed and Fast), for all nets of fewer than a million nodes that stand behind those they use. -/
import Derived.Test.YtkgeihbcikiedaaS76
import Derived.Test.YtkgeihbcikiedaaPx0
import Derived.Test.YtkgeihbcikiedaaPx10
set_option linter.unusedVariables false
set_option linter.unusedSimpArgs false
set_option linter.constructorNameAsVariable false
set_option linter.unusedSectionVars false
namespace Go.Proofs.Ytkgeihbcikiedaa.P
open Go.RowKit Go.Proofs.Ytkgeihbcikiedaa.N Go.Proofs.YtkgeihbcikiedaaW.PrintWords Go.Proofs.YtkgeihbcikiedaaW.PrintLast Go.Proofs.YtkgeihbcikiedaaW.PrintMore Go.Proofs.Ytkgeihbcikiedaa.Sk
attribute [local go_sem] eU eX fU fV dX dY eZ fo
def yS (nodes : List S92) (ins outs : List S94) (ws res : List (List Int)) : Prop :=
 ∀ (A0 : Option Addr) (c0 : Nat) (A1 : Option Addr) (c1 : Nat) (A2 : Option Addr) (c2 : Nat) (P1 : Nat → Prop) (A3 : Option Addr) (c3 : Nat) (w : World), Kd.C k92 w A0 nodes.length nodes → nodes.length ≤ c0 → Kd.C k94 w A1 ins.length ins → ins.length ≤ c1 → Kd.C k94 w A2 outs.length outs → outs.length ≤ c2 →
  Kd.V (Kd.slice 73 (Kd.int .u32)) 36 w w.heap.size P1 (.slice A3 ws.length c3) ws →
  Calls Try.prog 19 #[.agg #[.slice A0 nodes.length c0, .slice A1 ins.length c1, .slice A2 outs.length c2], .slice A3 ws.length c3] w fun e w' => ∃ u, e = .returned (.tuple #[u, .bool true]) ∧ Kd.V (Kd.slice 73 (Kd.int .u32)) 36 w' w.heap.size (fun k_ => w.heap.size ≤ k_) u res ∧ Below w.heap.size w w'
theorem Vs {w w5 : World} {A5 : Option Addr} {n c5 : Nat} {rs : List (List Int)} (hv : Kd.R (Kd.slice 36 (Kd.slice 73 (Kd.int .u32))) 29 w5 w.heap.size (fun _ => True) (.slice A5 n c5) [rs]) :
 ∃ ad A7 c7, A5 = some ad ∧ w5.cell? ad = some (.slice A7 rs.length c7) ∧ Kd.V (Kd.slice 73 (Kd.int .u32)) 36 w5 w.heap.size (fun k_ => w.heap.size ≤ k_) (.slice A7 rs.length c7) rs := by
 have hv6 : Kd.V (Kd.slice 36 (Kd.slice 73 (Kd.int .u32))) 29 w5 w.heap.size (fun k_ => w.heap.size ≤ k_) (.slice A5 n c5) [rs] := Kd.R_V (Kd.eG (Kd.gP hv) (fun k_ hk => hk.2.1)); have hn : n = 1 := (Kd.jl hv6).1; obtain ⟨ad, cs, e, hcl, hK, hcc, hin⟩ := Kd.L8 (Kd.V_F hv6) [] (0 : Int) (by omega) (by omega); obtain ⟨A7, c7, rfl, hl7, hf7⟩ := Kd.BB hK
 have e0 : ad.add 0 = ad := by simp [Addr.add]
 refine ⟨ad, A7, c7, e, ?_, Kd.vQ hl7 hf7⟩; have h := hcc 0 _ rfl
 simpa [e0] using h
set_option maxHeartbeats 8000000 in
set_option maxRecDepth 100000 in
theorem Tv {nodes : List S92} {v : List Bool} {ins outs : List S94} (xs : List Nat) (hn : Nt nodes v) (hl : nodes.length < 1000000) (hp : ∀ p ∈ ins ++ outs, vP nodes.length p) (hlp : (ins ++ outs).length < 1000000) (hx : xs.length = ins.length)
 (hb : ∀ i, i < ins.length → bu (xs.getD i 0) ≤ (bG ins (i : Int)).f1.length)
 (hI : ∀ (i : Nat) (b : Bool), v[i]? = some b → (aM nodes (i : Int)).f0 = 1 → (b = true ↔ Hit ins xs ins.length 0 i)) :
 yS nodes ins outs (xs.map parts) (outs.map fun p => parts (bv (yP v p))) := by
 intro A0 c0 A1 c1 A2 c2 P1 A3 c3 w hr0 hc0 hr1 hc1 hr2 hc2 hw; obtain ⟨K, hK⟩ := Je (outs := outs) xs hn hl hp hlp hx hb hI; have HK := af.mk (hK K (Nat.le_refl _)); have HF := af.mk (fun W (hb : Below w.heap.size w W) => IA hn hl hp hlp A0 c0 A1 c1 A2 c2 W (Kd.bR hr0 hb) hc0 (Kd.bR hr1 hb) hc1 (Kd.bR hr2 hb) hc2); have HC := af.mk (show Kd.C k92 w A0 nodes.length nodes ∧ nodes.length ≤ c0 ∧ Kd.C k94 w A1 ins.length ins ∧ ins.length ≤ c1 ∧ Kd.C k94 w A2 outs.length outs ∧ outs.length ≤ c2 from ⟨hr0, hc0, hr1, hc1, hr2, hc2⟩); have HW := af.mk hw; have Bl := Try.underlying55
 obtain ⟨ws, hws⟩ : ∃ ws, ws = xs.map parts := ⟨_, rfl⟩
 obtain ⟨rs, hrs⟩ : ∃ rs, rs = outs.map fun p => parts (bv (yP v p)) := ⟨_, rfl⟩
 rw [← hws, ← hrs] at HK; rw [← hws] at HW ⊢; rw [← hrs]; have HPX := af.mk (show ∀ W : World, Below w.heap.size w W → eF (Kd.FK (Kd.slice 36 (Kd.slice 73 (Kd.int .u32))) W (fun _ => True)) 1 [ws] [.slice A3 ws.length c3] from fun W hb => eF.one (Kd.Gs (Kd.jl HW.out).2.1 (Kd.Cz (Kd.lT (Kd.V_F HW.out) hb) (fun _ _ => trivial))) (eF.none _ _)); clear hK hn hl hp hlp hx hb hI hr0 hc0 hr1 hc1 hr2 hc2 hw hws hrs
 go_enter Try.func19, Try.ntmps19
 go_wp2_with (first | ((with_reducible refine bS (N := 2) rfl ?_); (try (refine sG (by rfl) ?_; dsimp only)); refine dw ?hg (N := 2) ?hd (cs := #[.slice A0 nodes.length c0, .slice A1 ins.length c1, .slice A2 outs.length c2]) (t := 55) ?hr ?_; (case hd => rfl); (case hg => rfl); (case hr => first | (go_simp; done) | (go_simp; rfl)); intro gb hg w2 hbox hb; have HBX := af.mk hbox; have HB := af.mk (aA (Below.refl _ _) hb); have q0 : w2.cell? ⟨gb, 0, none⟩ = some (.slice A0 nodes.length c0) := (ak hbox 0).trans rfl; have q1 : w2.cell? ⟨gb, 1, none⟩ = some (.slice A1 ins.length c1) := (ak hbox 1).trans rfl; have q2 : w2.cell? ⟨gb, 2, none⟩ = some (.slice A2 outs.length c2) := (ak hbox 2).trans rfl; clear hg hbox hb) | (go_at_call 46; refine (HF.out _ HB.out).mono ?_; rintro e w3 ⟨u, rfl, hu, hb⟩; obtain ⟨A6, c6, e6⟩ := Kd.bQ hu; subst e6; have HU := af.mk (Kd.bY hu).2; have HB3 := af.mk (aA HB.out hb); have qp := af.mk (bP HBX.out hb); clear hb HBX HB HF q0 q1 q2 hu; have q0 : w3.cell? ⟨gb, 0, none⟩ = some (.slice A0 nodes.length c0) := (ak qp.out 0).trans rfl; have q1 : w3.cell? ⟨gb, 1, none⟩ = some (.slice A1 ins.length c1) := (ak qp.out 1).trans rfl; have q2 : w3.cell? ⟨gb, 2, none⟩ = some (.slice A2 outs.length c2) := (ak qp.out 2).trans rfl) | ((with_reducible refine bS (N := 21) rfl ?_); refine Kd.abx (Kd.slice 36 (Kd.slice 73 (Kd.int .u32))) _ 29 ?hg (N' := 21) ?hd (xs := ([ws] : List (List (List Int)))) (inner := [.slice A3 ws.length c3]) (ok := fun _ => True) (okp := fun _ => True) ?hr ?hp (fun _ hk => hk) trivial (Below.refl _ _) (Nat.le_refl _) (by simp) ?_; (case hd => rfl); (case hg => rfl); (case hr => first | (go_simp; done) | (go_simp; rfl)); (case hp => exact HPX.out _ HB3.out); intro v4 w4 ho hb hg hnew; obtain ⟨A4, c4, e4⟩ := Kd.rC ho; subst e4; have HN4 := af.mk (Kd.uX ho).2; have HB4 := af.mk (aA HB3.out hb); have HU4 := af.mk (Kd.bR HU.out.2 hb); clear ho hb hg hnew qp HB3 q0 q1 q2) | (go_at_call 47; refine (aT.calls K A0 c0 nodes A1 c1 ins A2 c2 outs A6 c6 (upTo nodes.length) A4 c4 [ws] [rs] 0 w4 (Kd.bR HC.out.1 HB4.out) HC.out.2.1 (Kd.bR HC.out.2.2.1 HB4.out) HC.out.2.2.2.1 (Kd.bR HC.out.2.2.2.2.1 HB4.out) HC.out.2.2.2.2.2 HU4.out HU.out.1 HN4.out.2 HN4.out.1 HK.out).mono ?_; rintro e w5 ⟨v5, rfl, hv, hb⟩; obtain ⟨A5, c5, e5⟩ := Kd.bQ hv; subst e5; have HB5 := af.mk hb; have HV7 := Vs hv; have hle := HB4.out.size; clear hv hb; obtain ⟨ad, A7, c7, rfl, x0, hV⟩ := HV7; have HV7 := af.mk (Kd.iB hV (fun k_ hk => Nat.le_trans hle hk)); clear hV hle)); go_ret2; exact ⟨_, rfl, HV7.out, aA HB4.out HB5.out⟩
end Go.Proofs.Ytkgeihbcikiedaa.P
