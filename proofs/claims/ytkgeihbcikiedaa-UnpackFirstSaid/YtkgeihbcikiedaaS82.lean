/- The contracts of build's Pad, both, Pick and Word, of nat.Of and of unpack.Put, for all builders of fewer than a million nodes. -/
import Derived.Test.YtkgeihbcikiedaaS64
import Derived.Deep.QuietTactic
import Derived.BigQuiet
import Derived.StillTailTactics
import Derived.Test.YtkgeihbcikiedaaPx0
import Derived.Test.YtkgeihbcikiedaaN7
import Derived.Test.YtkgeihbcikiedaaPx11
set_option linter.unusedVariables false
set_option linter.unusedSimpArgs false
set_option linter.constructorNameAsVariable false
set_option linter.unusedSectionVars false
namespace Go.Proofs.Ytkgeihbcikiedaa.P
open Go.RowKit Go.Shelf Go.Proofs.YtkgeihbcikiedaaW.PrintWords Go.Proofs.YtkgeihbcikiedaaW.PrintLast Go.Proofs.YtkgeihbcikiedaaW.PrintMore
attribute [local go_sem] dM dN eu eB dx dz dO dP
def jf (s : BSt) (n : Nat) : BSt := { s with nodes := s.nodes ++ List.replicate n ⟨0, 0, 0, 0⟩ }
theorem mM (s : BSt) (n : Nat) : (jf s n).nodes.length = s.nodes.length + n := by simp [jf]
theorem yK (s : BSt) (n : Nat) : jf s (n + 1) = (d9 (jf s n) ⟨0, 0, 0, 0⟩).2 := by simp [jf, d9, List.replicate_succ']
theorem sP (s : BSt) : jf s 0 = s := by simp [jf]
set_option maxHeartbeats 8000000 in
set_option maxRecDepth 100000 in
theorem Oh {w0 w : World} {nb g : Nat} {s : BSt} {A : Option Addr} {c n : Nat} {l : List Int} (m : Nat) (hI : BS w0 w nb g s) (hB : Below w0.heap.size w0 w) (hr : Kd.C (Kd.int .i64) w A n l) (hc : n ≤ c) (hnm : n ≤ m) (hl : s.nodes.length + m < 1000000) :
 Calls Try.prog 39 #[.pointer (some ⟨g, 0, none⟩), .slice A n c, .int .i64 (m : Int)] w fun e w' => ∃ v, e = .returned v ∧ Kd.R (Kd.int .i64) 3 w' w.heap.size (fun _ => True) v (l ++ bR s.nodes.length (m - n)) ∧ BS w0 w' nb g (jf s (m - n)) ∧ Below w0.heap.size w0 w' ∧ KB w w' g := by
 have HI := af.mk hI; have HB := af.mk hB; have HS0 := af.mk hB.size; have HNB := af.mk hI.uf; have HR := af.mk hr; have HL := af.mk (show s.nodes.length + m < 1000000 ∧ l.length = n ∧ n ≤ m ∧ n < 1000000 from ⟨hl, hr.1, hnm, by omega⟩); obtain ⟨i03, BA, _, wZ, _⟩ := info_parts info3; have hcut := Oi (P := Try.prog) 44 3 .i64 Try.underlying44 BA A n c n (Nat.le_refl _) hc
 have hmn : ¬ ((m : Int) < (n : Int)) := by omega
 have hm0 : ¬ ((m : Int) < 0) := by omega
 have HC := af.mk hc; clear hI hB hr hl hnm BA wZ hc
 go_enter Try.func39, Try.ntmps39
 go_wp2_with (go_at_call 38; refine (ug HR.out HC.out HL.out.2.2.2).mono ?_; rintro e w1 ⟨v1, rfl, hv, hb⟩; have HV := af.mk hv; have HI1 := af.mk (HI.out.below hb); have HB1 := af.mk (az HB.out hb); have HK1 := af.mk (KB.of_below hb g); clear hv hb)
 go_loopw [7] (fun v wr => ∃ j : Nat, n ≤ j ∧ j ≤ m ∧ af (Kd.R (Kd.int .i64) 3 wr w.heap.size (fun _ => True) v (l ++ bR s.nodes.length (j - n))) ∧ af (BS w0 wr nb g (jf s (j - n))) ∧ af (Below w0.heap.size w0 wr) ∧ af (KB w wr g))
  (fun v _ => m - (sliceLen v))
 case atStart => exact ⟨n, Nat.le_refl _, HL.out.2.2.1, ⟨by rw [Nat.sub_self]; show Kd.R _ _ _ _ _ _ (l ++ []); rw [List.append_nil]; exact HV.out⟩, ⟨by rw [Nat.sub_self, sP]; exact HI1.out⟩, HB1, HK1⟩
 case round =>
  clear HV HI1 HB1 HK1; obtain ⟨j, hnj, hjm, HO, HIr, HBr, HKr⟩ := hrel; have HNJ := af.mk hnj; obtain ⟨A7, c7, e7⟩ := Kd.bL HO.out
  have hl7 : (l ++ bR s.nodes.length (j - n)).length = j := by rw [List.length_append, aX, HL.out.2.1]; omega
  rw [hl7] at e7; subst e7; have HL7 := af.mk hl7; clear hl7 hnj
  by_cases hlt : j < m
  ·have HLk := af.mk (show (jf s (j - n)).nodes.length < 1000000 by rw [mM]; have := HL.out; omega); have HNk := af.mk (show ((jf s (j - n)).nodes.length : Int) = ((s.nodes.length + (j - n) : Nat) : Int) by rw [mM])
   obtain ⟨x7, hx7⟩ : ∃ x7 : Int, x7 = ((jf s (j - n)).nodes.length : Int) := ⟨_, rfl⟩
   have HX7 := af.mk hx7; have HR7 := af.mk (show iU.f (jf s (j - n)) 0 = some (x7, (d9 (jf s (j - n)) ⟨0, 0, 0, 0⟩).2) by show oC (jf s (j - n)) ⟨0, 0, 0, 0⟩ = _; rw [jH _ HLk.out, hx7]; rfl); clear hx7; go_wp2_with (first | (go_at_call 40; with_reducible refine (iU.calls nb g (jf s (j - n)) 0 x7 _ w0 _ HIr.out HBr.out HR7.out).mono ?_; rintro e w1 ⟨rfl, hi, hb, hk1⟩; have HI2 := af.mk hi; have HB2 := af.mk hb; have HK2 := af.mk (HKr.out.trans hk1); have HO2 := af.mk (iB HO.out hk1); clear hi hb hk1 HIr HBr HKr HO) | ((with_reducible refine eZ (b := .append) (xs := #[.tmp 21, .tmp 24]) rfl ?_); at_builtin; refine Kd.jy (Kd.int .i64) w.heap.size rfl (.tmp 21) (.tmp 24) 44 3 (.int .i64 0) 8 rfl Try.underlying44 info3 rfl (by decide) (by omega) (.slice A7 j c7) (l ++ bR s.nodes.length (j - n)) x7 [.int .i64 x7] (fun _ => True) (fun _ => False) rfl rfl rfl (fun _ hk => hk.elim) (fun _ _ => trivial) HO2.out (Below.refl _ _) HK2.out.1 (by rw [HL7.out]; have := HL.out; omega) ?_; intro v2 w2 ho2 hb2 hg2 CB; have HO3 := af.mk ho2; have HG2 := af.mk hg2; clear ho2 hb2 hg2 CB)); obtain ⟨A8, c8, e8⟩ := Kd.bL HO3.out
   have hl8 : (l ++ bR s.nodes.length (j - n) ++ [x7]).length = j + 1 := by rw [List.length_append, HL7.out, List.length_singleton]
   rw [hl8] at e8
   have ej : j + 1 - n = (j - n) + 1 := by have := HNJ.out; omega
   refine ⟨⟨j + 1, by have := HNJ.out; omega, by omega, ⟨?_⟩, ⟨?_⟩, ⟨Below.jA HB2.out HO2.out HS0.out HG2.out⟩, ⟨HK2.out.jA HO2.out (Nat.le_refl _) HG2.out⟩⟩, ?_⟩
   ·rw [ej, mU, ← HNk.out, ← HX7.out, ← List.append_assoc]; exact HO3.out
   ·rw [ej, yK]; exact HI2.out.jA HO2.out HNB.out HG2.out
   ·rw [e8]; show m - (j + 1) < m - j; omega
  ·obtain rfl : j = m := by omega
   go_wp2; go_ret; exact ⟨_, rfl, HO.out, HIr.out, HBr.out, HKr.out⟩
theorem EM {w0 w : World} {nb g : Nat} {s : BSt} {xb c n : Nat} {l : List Int} (hI : BS w0 w nb g s) (hB : Below w0.heap.size w0 w) (hx : IL w xb l) (hln : l.length = n) (hc : n ≤ c) (hn : 0 < n) (hl : s.nodes.length + n < 1000000) :
 Calls Try.prog 39 #[.pointer (some ⟨g, 0, none⟩), .slice (some ⟨xb, 0, none⟩) n c, .int .i64 (n : Int)] w fun e w' => ∃ b c', e = .returned (.slice (some ⟨b, 0, none⟩) n c') ∧ n ≤ c' ∧ w.heap.size ≤ b ∧ b < w'.heap.size ∧ Kd.R (Kd.int .i64) 3 w' w.heap.size (fun _ => True) (.slice (some ⟨b, 0, none⟩) n c') l ∧ IL w' b l ∧ BS w0 w' nb g s ∧ Below w0.heap.size w0 w' ∧ KB w w' g := by
 refine (Oh n hI hB (qB hx hln (by omega)) hc (Nat.le_refl _) hl).mono ?_; rintro e w1 ⟨v1, he, hv, hi, hb, hk⟩; rw [Nat.sub_self] at hv hi; rw [sP] at hi; rw [show bR s.nodes.length 0 = [] from rfl, List.append_nil] at hv; obtain ⟨b1, c1, e1, hc1, hb1, hil⟩ := lG hv (by omega); rw [hln] at e1 hc1; subst e1; exact ⟨b1, c1, he, hc1, hb1, Kd.nJ hv b1 rfl, hv, hil, hi, hb, hk⟩
set_option maxHeartbeats 8000000 in
set_option maxRecDepth 100000 in
theorem SB {w0 w : World} {nb g : Nat} {s : BSt} {xb xc yb yc n : Nat} {xs ys : List Int} (hI : BS w0 w nb g s) (hB : Below w0.heap.size w0 w) (hx : IL w xb xs) (hlx : xs.length = n) (hxc : n ≤ xc) (hy : IL w yb ys) (hly : ys.length = n) (hyc : n ≤ yc) (hn : 0 < n) (hl : s.nodes.length + n < 1000000) :
 Calls Try.prog 69 #[.pointer (some ⟨g, 0, none⟩), .slice (some ⟨xb, 0, none⟩) n xc, .slice (some ⟨yb, 0, none⟩) n yc] w fun e w' => ∃ b1 c1 b2 c2, e = .returned (.tuple #[.slice (some ⟨b1, 0, none⟩) n c1, .slice (some ⟨b2, 0, none⟩) n c2]) ∧ n ≤ c1 ∧ n ≤ c2 ∧ w.heap.size ≤ b1 ∧ b1 < b2 ∧ Kd.R (Kd.int .i64) 3 w' w.heap.size (fun _ => True) (.slice (some ⟨b1, 0, none⟩) n c1) xs ∧ IL w' b2 ys ∧ BS w0 w' nb g s ∧ Below w0.heap.size w0 w' ∧ KB w w' g := by
 have HI := af.mk hI; have HB := af.mk hB; have HX := af.mk hx; have HY := af.mk hy; have HL := af.mk (show s.nodes.length + n < 1000000 ∧ xs.length = n ∧ ys.length = n ∧ n ≤ xc ∧ n ≤ yc ∧ 0 < n from ⟨hl, hlx, hly, hxc, hyc, hn⟩); clear hI hB hx hlx hxc hy hly hyc hn hl
 go_enter Try.func69, Try.ntmps69
 go_wp2_with (first | (go_at_call 39; refine (EM HI.out HB.out HX.out HL.out.2.1 HL.out.2.2.2.1 HL.out.2.2.2.2.2 HL.out.1).mono ?_; rintro e w1 ⟨b1, c1, rfl, hc1, hb1, hlt1, hv1, SC, hi, hb, hk⟩; have HI2 := af.mk hi; have HB2 := af.mk hb; have HK2 := af.mk hk; have HV1 := af.mk hv1; have HF1 := af.mk (show n ≤ c1 ∧ w.heap.size ≤ b1 ∧ b1 < w1.heap.size from ⟨hc1, hb1, hlt1⟩); have HY2 := af.mk (IL.KB HY.out hk); clear hc1 hb1 hlt1 hv1 SC hi hb hk HI HB HX HY) | (go_at_call 39; refine (EM HI2.out HB2.out HY2.out HL.out.2.2.1 HL.out.2.2.2.2.1 HL.out.2.2.2.2.2 HL.out.1).mono ?_; rintro e w2 ⟨b2, c2, rfl, hc2, hb2, hlt2, hv2, yL, hi, hb, hk⟩; have HI3 := af.mk hi; have HB3 := af.mk hb; have HK3 := af.mk (HK2.out.trans hk); have HV2 := af.mk (iB HV1.out hk); have HF2 := af.mk (show n ≤ c2 ∧ w1.heap.size ≤ b2 from ⟨hc2, hb2⟩); have HY3 := af.mk yL; clear hc2 hb2 hlt2 hv2 yL hi hb hk HI2 HB2 HK2 HV1 HY2)); go_ret2; exact ⟨b1, c1, b2, c2, rfl, HF1.out.1, HF2.out.1, HF1.out.2.1, Nat.lt_of_lt_of_le HF1.out.2.2 HF2.out.2, HV2.out, HY3.out, HI3.out, HB3.out, HK3.out⟩
def abk : List Nat := [0, 0, 0, 0, 0, 24, 56, 0, 0, 384, 896, 0, 4092, 8191, 16383]
noncomputable def VY : Bool × List (List Nat × List Nat) := gp .any (opsOf Try.f42 5)
theorem SE : gp .any (opsOf Try.f42 5) = VY := rfl
theorem Oj : fZ VY.2 abk = true := by kernel_rfl
def iK (xs ys : List Int) (c : Int) (s : BSt) (k : Nat) : BSt := { s with nodes := s.nodes ++ (List.range k).map fun i => ⟨6, xs.getD i 0, ys.getD i 0, c⟩ }
theorem mV (xs ys : List Int) (c : Int) (s : BSt) (k : Nat) : (iK xs ys c s k).nodes.length = s.nodes.length + k := by simp [iK]
theorem xe (xs ys : List Int) (c : Int) (s : BSt) (k : Nat) : iK xs ys c s (k + 1) = (d9 (iK xs ys c s k) ⟨6, xs.getD k 0, ys.getD k 0, c⟩).2 := by simp [iK, d9, List.range_succ]
theorem xg (xs ys : List Int) (c : Int) (s : BSt) : iK xs ys c s 0 = s := by simp [iK]
theorem Ol (m k : Nat) (xs : List Int) : (bR m k ++ xs.drop k).getD k 0 = xs.getD k 0 := by
 rw [List.getD_eq_getElem?_getD, List.getElem?_append_right (by rw [aX]; exact Nat.le_refl _), aX, Nat.sub_self, List.getElem?_drop, List.getD_eq_getElem?_getD, Nat.add_zero]
theorem Om (m k : Nat) (xs : List Int) (hk : k < xs.length) : (bR m k ++ xs.drop k).set k ((m + k : Nat) : Int) = bR m (k + 1) ++ xs.drop (k + 1) := by
 rw [List.set_append, if_neg (by rw [aX]; omega), aX, Nat.sub_self, mU, List.append_assoc, List.drop_eq_getElem_cons hk]; rfl
set_option maxHeartbeats 8000000 in
set_option maxRecDepth 100000 in
theorem SF {w0 w : World} {nb g : Nat} {s : BSt} {xb xc yb yc n : Nat} {xs ys : List Int} (q : Int) (hI : BS w0 w nb g s) (hB : Below w0.heap.size w0 w) (hx : IL w xb xs) (hlx : xs.length = n) (hxc : n ≤ xc) (hy : IL w yb ys) (hly : ys.length = n) (hyc : n ≤ yc) (hn : 0 < n) (hl : s.nodes.length + n < 1000000) :
 Calls Try.prog 42 #[.pointer (some ⟨g, 0, none⟩), .slice (some ⟨xb, 0, none⟩) n xc, .slice (some ⟨yb, 0, none⟩) n yc, .int .i64 q] w fun e w' => ∃ b c, e = .returned (.slice (some ⟨b, 0, none⟩) n c) ∧ n ≤ c ∧ w.heap.size ≤ b ∧ Kd.R (Kd.int .i64) 3 w' w.heap.size (fun _ => True) (.slice (some ⟨b, 0, none⟩) n c) (bR s.nodes.length n) ∧ BS w0 w' nb g (iK xs ys q s n) ∧ Below w0.heap.size w0 w' ∧ KB w w' g := by
 have HI := af.mk hI; have HB := af.mk hB; have HS0 := af.mk hB.size; have HNB := af.mk hI.uf; have HX := af.mk hx; have HY := af.mk hy; have HL := af.mk (show s.nodes.length + n < 1000000 ∧ xs.length = n ∧ ys.length = n ∧ n ≤ xc ∧ n ≤ yc ∧ 0 < n from ⟨hl, hlx, hly, hxc, hyc, hn⟩); clear hI hB hx hlx hxc hy hly hyc hn hl
 go_enter Try.func42, Try.ntmps42
 go_wp2_with (go_at_call 69; refine (SB HI.out HB.out HX.out HL.out.2.1 HL.out.2.2.2.1 HY.out HL.out.2.2.1 HL.out.2.2.2.2.1 HL.out.2.2.2.2.2 HL.out.1).mono ?_; rintro e w1 ⟨b1, c1, b2, c2, rfl, hc1, hc2, hb1, XK, hv1, yL, hi, hb, hk⟩; have HI1 := af.mk hi; have HB1 := af.mk hb; have HK1 := af.mk hk; have HV1 := af.mk hv1; have HF1 := af.mk (show n ≤ c1 ∧ n ≤ c2 ∧ w.heap.size ≤ b1 ∧ b1 < b2 from ⟨hc1, hc2, hb1, XK⟩); have HY1 := af.mk yL; clear hc1 hc2 hb1 XK hv1 yL hi hb hk HI HB HX HY)
 go_loopw [19] (fun i wr => ∃ k : Nat, k ≤ n ∧ i = .int .i64 (k : Int) ∧ af (Kd.R (Kd.int .i64) 3 wr w.heap.size (fun _ => True) (.slice (some ⟨b1, 0, none⟩) n c1) (bR s.nodes.length k ++ xs.drop k)) ∧ af (IL wr b2 ys) ∧ af (BS w0 wr nb g (iK xs ys q s k)) ∧ af (Below w0.heap.size w0 wr) ∧ af (KB w wr g))
  (fun i _ => n - (intOf i).toNat)
 case atStart => exact ⟨0, Nat.zero_le _, rfl, ⟨by rw [List.drop_zero]; exact HV1.out⟩, HY1, ⟨by rw [xg]; exact HI1.out⟩, HB1, HK1⟩
 case round =>
  clear HV1 HY1 HI1 HB1 HK1; obtain ⟨k, hk, rfl, HO, HY, HIr, HBr, HKr⟩ := hrel
  by_cases hlt : k < n
  ·obtain ⟨x0, x0f⟩ := Kd.fP 0 HO.out (k : Int) (by omega) (by omega); rw [Int.toNat_natCast, show j4 0 (bR s.nodes.length k ++ xs.drop k) (k : Int) = xs.getD k 0 from by unfold j4; rw [Int.toNat_natCast]; exact Ol _ _ _] at x0; have y0 := HY.out.cell (j := k) (by have := HL.out; omega)
   have d3 : (k : Int) < (n : Int) := by omega
   have HLk := af.mk (show (iK xs ys q s k).nodes.length < 1000000 by rw [mV]; have := HL.out; omega); have HNk := af.mk (show ((iK xs ys q s k).nodes.length : Int) = ((s.nodes.length + k : Nat) : Int) by rw [mV])
   obtain ⟨xk, hxk⟩ : ∃ xk : Int, xk = xs.getD k 0 := ⟨_, rfl⟩
   obtain ⟨yk, hyk⟩ : ∃ yk : Int, yk = ys.getD k 0 := ⟨_, rfl⟩
   rw [← hxk] at x0; rw [← hyk] at y0; have HXY := af.mk (show xk = xs.getD k 0 ∧ yk = ys.getD k 0 from ⟨hxk, hyk⟩); clear hxk hyk x0f; go_wp2
   obtain ⟨rn, hrn⟩ : ∃ rn : Int, rn = ((iK xs ys q s k).nodes.length : Int) := ⟨_, rfl⟩
   have HRN := af.mk hrn; have HM := af.mk (show oC (iK xs ys q s k) ⟨6, xk, yk, q⟩ = some (rn, (d9 (iK xs ys q s k) ⟨6, xk, yk, q⟩).2) by rw [jH _ HLk.out, hrn]; rfl); clear hrn; have hcc := HF1.out.1; refine jk (n := 15) (S := fun w' => w'.cell? ⟨b1, k, none⟩ = some (.int .i64 xk) ∧ w'.cell? ⟨b2, k, none⟩ = some (.int .i64 yk)) (ds := [12, 13, 14]) #[false, false, false, false, false, false, false, false, false, false, false, false, false, false, false] (by kernel_rfl) rfl rfl ⟨x0, y0⟩ (fun hHeld => ?_); refine eT SE Oj (fun HT_ HW_ => ?_); refine bB (i := 0) (N := some 22) (v := ?_) (a' := ?_) #[true, false, false, false, false, false, false, false, false, false, false, false, false, false, false] rfl rfl (aU HT_.out (by kernel_rfl)) (fun _ _ _ h => h) (Or.inl ⟨by rfl, ?_⟩) ?_ ?_; rotate_left
   ·intro w'; go_simp; with_reducible rfl
   rotate_left
   ·simp only [Act.put, List.setIfInBounds_toArray, List.set_cons_zero, List.set_cons_succ, aG, aJ]; rfl
   refine bB (i := 1) (N := some 23) (v := ?_) (a' := ?_) #[true, true, false, false, false, false, false, false, false, false, false, false, false, false, false] rfl rfl (aU HT_.out (by kernel_rfl)) (fun _ _ _ h => h) (Or.inl ⟨by rfl, ?_⟩) ?_ ?_; rotate_left
   ·intro w'; go_simp; with_reducible rfl
   rotate_left
   ·simp only [Act.put, List.setIfInBounds_toArray, List.set_cons_zero, List.set_cons_succ, aG, aJ]; rfl
   refine bB (i := 2) (N := some 24) (v := ?_) (a' := ?_) #[true, true, true, false, false, false, false, false, false, false, false, false, false, false, false] rfl rfl (aU HT_.out (by kernel_rfl)) (fun _ _ _ h => h) (Or.inl ⟨by rfl, ?_⟩) ?_ ?_; rotate_left
   ·intro w'; go_simp; with_reducible rfl
   rotate_left
   ·simp only [Act.put, List.setIfInBounds_toArray, List.set_cons_zero, List.set_cons_succ, aG, aJ]; rfl
   refine bB (i := 3) (N := some 25) (v := ?_) (a' := ?_) #[true, true, true, true, false, false, false, false, false, false, false, false, false, false, false] rfl rfl (aU HT_.out (by kernel_rfl)) (fun _ _ _ h => h) (Or.inl ⟨by rfl, ?_⟩) ?_ ?_; rotate_left
   ·intro w'; go_simp; with_reducible rfl
   rotate_left
   ·simp only [Act.put, List.setIfInBounds_toArray, List.set_cons_zero, List.set_cons_succ, aG, aJ]; rfl
   refine bB (i := 4) (N := some 26) (v := ?_) (a' := ?_) #[true, true, true, true, true, false, false, false, false, false, false, false, false, false, false] rfl rfl (aU HT_.out (by kernel_rfl)) (fun _ _ _ h => h) (Or.inl ⟨by rfl, ?_⟩) ?_ ?_; rotate_left
   ·intro w'; go_simp; with_reducible rfl
   rotate_left
   ·simp only [Act.put, List.setIfInBounds_toArray, List.set_cons_zero, List.set_cons_succ, aG, aJ]; rfl
   refine bB (i := 7) (N := some 29) (v := ?_) (a' := ?_) #[true, true, true, true, true, false, false, true, false, false, false, false, false, false, false] rfl rfl (aU HT_.out (by kernel_rfl)) (fun _ _ _ h => h) (Or.inl ⟨by rfl, ?_⟩) ?_ ?_; rotate_left
   ·intro w'; go_simp; with_reducible rfl
   rotate_left
   ·simp only [Act.put, List.setIfInBounds_toArray, List.set_cons_zero, List.set_cons_succ, aG, aJ]; rfl
   refine bB (i := 8) (N := some 30) (v := ?_) (a' := ?_) #[true, true, true, true, true, false, false, true, true, false, false, false, false, false, false] rfl rfl (aU HT_.out (by kernel_rfl)) (fun _ _ _ h => h) (Or.inl ⟨by rfl, ?_⟩) ?_ ?_; rotate_left
   ·intro w'; go_simp; with_reducible rfl
   rotate_left
   ·simp only [Act.put, List.setIfInBounds_toArray, List.set_cons_zero, List.set_cons_succ, aG, aJ]; rfl
   refine bB (i := 11) (N := some 33) (v := ?_) (a' := ?_) #[true, true, true, true, true, false, false, true, true, false, false, true, false, false, false] rfl rfl (aU HT_.out (by kernel_rfl)) (fun _ _ _ h => h) (Or.inl ⟨by rfl, ?_⟩) ?_ ?_; rotate_left
   ·intro w'; go_simp; with_reducible rfl
   rotate_left
   ·simp only [Act.put, List.setIfInBounds_toArray, List.set_cons_zero, List.set_cons_succ, aG, aJ]; rfl
   refine bB (i := 5) (N := some 27) (v := ?_) (a' := ?_) #[true, true, true, true, true, true, false, true, true, false, false, true, false, false, false] rfl rfl (aU HT_.out (by kernel_rfl)) (fun _ _ _ h => h) (Or.inl ⟨by rfl, ?_⟩) ?_ ?_; rotate_left
   ·intro w'; go_simp; with_reducible rfl
   rotate_left
   ·simp only [Act.put, List.setIfInBounds_toArray, List.set_cons_zero, List.set_cons_succ, aG, aJ]; rfl
   refine eD (i := 6) (N := some 28) (v := ?_) (a' := ?_) #[true, true, true, true, true, true, true, true, true, false, false, true, false, false, false] rfl rfl (bP HT_.out HW_.out (by kernel_rfl)) (fun _ _ _ h => h) (Or.inl ⟨by rfl, ?_⟩) hHeld ?_ ?_; rotate_left
   ·rintro w' ⟨s0, s1⟩; go_simp; with_reducible rfl
   rotate_left
   ·simp only [Act.put, List.setIfInBounds_toArray, List.set_cons_zero, List.set_cons_succ, aG, aJ]; rfl
   refine bB (i := 9) (N := some 31) (v := ?_) (a' := ?_) #[true, true, true, true, true, true, true, true, true, true, false, true, false, false, false] rfl rfl (aU HT_.out (by kernel_rfl)) (fun _ _ _ h => h) (Or.inl ⟨by rfl, ?_⟩) ?_ ?_; rotate_left
   ·intro w'; go_simp; with_reducible rfl
   rotate_left
   ·simp only [Act.put, List.setIfInBounds_toArray, List.set_cons_zero, List.set_cons_succ, aG, aJ]; rfl
   refine eD (i := 10) (N := some 32) (v := ?_) (a' := ?_) #[true, true, true, true, true, true, true, true, true, true, true, true, false, false, false] rfl rfl (bP HT_.out HW_.out (by kernel_rfl)) (fun _ _ _ h => h) (Or.inl ⟨by rfl, ?_⟩) hHeld ?_ ?_; rotate_left
   ·rintro w' ⟨s0, s1⟩; go_simp; with_reducible rfl
   rotate_left
   ·simp only [Act.put, List.setIfInBounds_toArray, List.set_cons_zero, List.set_cons_succ, aG, aJ]; rfl
   refine jg (i := 12) (N := some 34) #[true, true, true, true, true, true, true, true, true, true, true, true, true, false, false] rfl rfl (dD HT_.out (by kernel_rfl)) (by decide) (fun K hK => ?_); refine iC Try.func70 (by kernel_rfl) rfl #[.pointer (some ⟨g, 0, none⟩), .int .i64 xk, .int .i64 yk, .int .i64 q] (by rfl) rfl rfl (by (try simp only [List.map_toArray, List.map_cons, List.map_nil]); first | done | rfl) ?_; refine (qC.calls nb g (iK xs ys q s k) xk yk q rn _ w0 _ HIr.out.drew (ak HBr.out) HM.out).mono ?_; rintro e w2 ⟨rfl, hi, hb, hk1⟩; refine ⟨_, rfl, ?_⟩; have HI2 := af.mk hi; have HB2 := af.mk hb; have HK2 := af.mk (HKr.out.drew.trans hk1); have HO2 := af.mk (iB (Kd.bD HO.out) hk1); have HY2 := af.mk (IL.KB (IL.KB HY.out ((KB.refl _ g).drew)) hk1); obtain ⟨qc, qf⟩ := Kd.fP 0 HO2.out (k : Int) (by omega) (by omega); rw [Int.toNat_natCast] at qc qf; clear hi hb hk1 HIr HBr HKr HO HY x0 y0; refine hK.out _ _ ?_; clear hK K; refine fD (a' := ?_) ?_ ?_; rotate_left
   ·show Act.put _ (some 34) _ = _; simp only [Act.put, List.setIfInBounds_toArray, List.set_cons_zero, List.set_cons_succ, aG, aJ]; rfl
   refine bB (i := 13) (N := some 35) (v := ?_) (a' := ?_) #[true, true, true, true, true, true, true, true, true, true, true, true, true, true, false] rfl rfl (aU HT_.out (by kernel_rfl)) (fun _ _ _ h => h) (Or.inl ⟨by rfl, ?_⟩) ?_ ?_; rotate_left
   ·intro w'; go_simp; with_reducible rfl
   rotate_left
   ·simp only [Act.put, List.setIfInBounds_toArray, List.set_cons_zero, List.set_cons_succ, aG, aJ]; rfl
   refine jg (i := 14) (N := none) #[true, true, true, true, true, true, true, true, true, true, true, true, true, true, true] rfl rfl (dD HT_.out (by kernel_rfl)) (by decide) (fun K hK => ?_); refine nM (w1 := ?_) (by rfl) rfl ?_ ?_; rotate_left
   ·go_simp; rfl
   refine hK.out _ _ ?_; clear hK K; refine jB (gq HT_.out (by kernel_rfl)) ?_; go_wp2; have hP := Kd.H8 HO2.out (k : Int) rn; rw [Int.toNat_natCast, HRN.out, HNk.out, Om _ _ _ (by have := HL.out; omega)] at hP; rw [HRN.out, HNk.out]; have hw1 : w.heap.size ≤ b1 := HF1.out.2.2.1; have XK : b1 < b2 := HF1.out.2.2.2; have tb1 : TB w2 3 b1 := Kd.gK HO2.out b1 rfl; refine ⟨⟨k + 1, by omega, by rw [show wrap64 ((k : Int) + 1) = ((k + 1 : Nat) : Int) by unfold wrap64; have := HL.out; omega], ⟨hP⟩, ⟨HY2.out.move (Below.heap_setCell w2 ⟨b1, k, none⟩ _ b2 (by show ¬ b2 = b1; omega))⟩, ⟨?_⟩, ⟨ay HB2.out (by have := HS0.out; show w0.heap.size ≤ b1; omega)⟩, ⟨HK2.out.far hw1 _⟩⟩, ?_⟩
   ·rw [xe, ← HXY.out.1, ← HXY.out.2]; exact HI2.out.far (j5 tb1 (by decide) (fun _ => by have := HNB.out; show nb ≤ b1; omega)) _
   ·rw [show wrap64 ((k : Int) + 1) = ((k + 1 : Nat) : Int) by unfold wrap64; have := HL.out; omega]; simp only [intOf, Int.toNat_natCast]; omega
  ·obtain rfl : k = n := by omega
   go_wp2; go_ret; refine ⟨b1, c1, rfl, HF1.out.1, HF1.out.2.2.1, ?_, HIr.out, HBr.out, HKr.out⟩; have := HO.out; rw [List.drop_of_length_le (by have := HL.out; omega), List.append_nil] at this; exact this
end Go.Proofs.Ytkgeihbcikiedaa.P
set_option linter.unusedVariables false
set_option linter.unusedSimpArgs false
set_option linter.constructorNameAsVariable false
set_option linter.unusedSectionVars false
namespace Go.Proofs.Ytkgeihbcikiedaa.P
open Go.RowKit Go.Shelf Go.Proofs.YtkgeihbcikiedaaW.PrintWords Go.Proofs.YtkgeihbcikiedaaW.PrintLast Go.Proofs.YtkgeihbcikiedaaW.PrintMore Go.Proofs.Ytkgeihbcikiedaa.N Go.Proofs.Ytkgeihbcikiedaa.Sk
attribute [local go_sem] dM dN eu eB dx dz dO dP
def UL (W : World) (b : Nat) (L : List Int) : Prop := ∃ cells, W.heap[b]? = some (.cells cells 73 (0, 0)) ∧ ∀ j, j < L.length → cells[j]? = some (.int .u32 (L.getD j 0))
theorem UL.cell {W : World} {b : Nat} {L : List Int} (h : UL W b L) {j : Nat} (hj : j < L.length) : W.cell? ⟨b, j, none⟩ = some (.int .u32 (L.getD j 0)) := by
 obtain ⟨c, h1, h2⟩ := h; exact (aj h1 j).trans (h2 j hj)
theorem UL.lt {W : World} {b : Nat} {L : List Int} (h : UL W b L) : b < W.heap.size := by obtain ⟨c, h1, _⟩ := h; exact fC h1
theorem UL.move {W W1 : World} {b : Nat} {L : List Int} (h : UL W b L) (hm : W1.heap[b]? = W.heap[b]?) : UL W1 b L := by
 obtain ⟨c, h1, h2⟩ := h; exact ⟨c, hm.trans h1, h2⟩
theorem UL.KB {W W1 : World} {b g : Nat} {L : List Int} (h : UL W b L) (hk : KB W W1 g) : UL W1 b L := by
 have hb := h; obtain ⟨c, h1, h2⟩ := hb; exact h.move (hk.2 b (fC h1) (.of ⟨c, h1⟩ (by decide)))
theorem UL.below {W W1 : World} {b : Nat} {L : List Int} (h : UL W b L) (hb : Below W.heap.size W W1) : UL W1 b L := h.move (hb.block b h.lt)
theorem UL.take {W : World} {b : Nat} {L : List Int} (h : UL W b L) (m : Nat) : UL W b (L.take m) := by
 obtain ⟨c, h1, h2⟩ := h; refine ⟨c, h1, fun j hj => ?_⟩
 have hj' : j < m ∧ j < L.length := by rw [List.length_take] at hj; omega
 rw [h2 j hj'.2]; simp [List.getD_eq_getElem?_getD, List.getElem?_take, hj'.1]
theorem UL.C {W : World} {b n : Nat} {L : List Int} (h : UL W b L) (hn : L.length = n) (hb : n ≤ 1000000) : Kd.C (Kd.int .u32) W (some ⟨b, 0, none⟩) n L := by
 refine Kd.mW (enc := Value.int .u32) (d := (0 : Int)) (h1 := fun _ => rfl) ⟨hn, by omega, fun _ => ⟨_, rfl, fun j hj => ?_⟩⟩; have := h.cell (j := j) (by omega); rw [show Addr.add ⟨b, 0, none⟩ j = ⟨b, j, none⟩ from by unfold Addr.add; split <;> simp [*], this]
theorem abl {W : World} {base : Nat} {ok : Nat → Prop} {v : Value} {xs : List Int} (h : Kd.R (Kd.int .u32) 73 W base ok v xs) (hp : 0 < xs.length) : ∃ bb c, v = .slice (some ⟨bb, 0, none⟩) xs.length c ∧ xs.length ≤ c ∧ UL W bb xs := by
 obtain ⟨bb, c, rfl, hb, hl, cells, hc⟩ := Kd.kz h hp; refine ⟨bb, c, rfl, (Kd.bX h).2.1, cells, hc, fun j hj => ?_⟩; have := (Kd.fP 0 h (j : Int) (by omega) (by omega)).1; rw [Int.toNat_natCast, show j4 0 xs (j : Int) = xs.getD j 0 from by unfold j4; rw [Int.toNat_natCast]] at this; rw [← this, aj hc j]
theorem SG (l : List Int) : ∃ m, m ≤ l.length ∧ (∀ i, m ≤ i → l.getD i 0 = 0) ∧ (m = 0 ∨ l.getD (m - 1) 0 ≠ 0) := by
 suffices H : ∀ m, m ≤ l.length → (∀ i, m ≤ i → l.getD i 0 = 0) → ∃ m, m ≤ l.length ∧ (∀ i, m ≤ i → l.getD i 0 = 0) ∧ (m = 0 ∨ l.getD (m - 1) 0 ≠ 0) from H l.length (Nat.le_refl _) (fun i hi => xO hi)
 intro m
 induction m with
 | zero => intro h hz; exact ⟨0, h, hz, .inl rfl⟩
 | succ m ih =>
  intro h hz
  by_cases h0 : l.getD m 0 = 0
  ·refine ih (by omega) (fun i hi => ?_)
   by_cases e : i = m
   ·rw [e]; exact h0
   ·exact hz i (by omega)
  ·exact ⟨m + 1, h, hz, .inr h0⟩
theorem XL {P : Program} (t e : TypeId) (kh : IntKind) {i : TypeInfo} (ht : P.underlying t = some (.slice e)) (hi : P.info? e = some i) (A : Option Addr) (n c j : Nat) (hj : j ≤ c) :
 ∀ W : World, (Instr.slice t (.slice A n c) none (some (.int kh (j : Int))) (some (.int kh (j : Int)))).run P W = .ok (.slice A j j) W := by
 intro W
 have hel : P.elem t = e := by simp [Program.elem, ht]
 have hu : P.underlying t = some (.slice (P.elem t)) := by rw [hel]; exact ht
 rw [run_slice_hm W t _ n c hu kh kh j j (by omega) (by omega) (by omega), hel]
 have ha : (A.map fun x => x.add 0) = A := by cases A <;> simp [Addr.add]
 simp [sizeOf, typeInfo, hi, sliced, Result.andThen, ha]
set_option maxHeartbeats 8000000 in
set_option maxRecDepth 100000 in
theorem SH {w : World} {b c : Nat} {l : List Int} (hx : UL w b l) (ho : Ok l) (hc : l.length ≤ c) (hl : l.length ≤ 1000) :
 Calls Try.prog 58 #[.slice (some ⟨b, 0, none⟩) l.length c] w fun e w' => e = .returned (.slice (some ⟨b, 0, none⟩) (parts (nv l)).length (parts (nv l)).length) ∧ Below w.heap.size w w' := by
 have HX := af.mk hx; have HO := af.mk ho; obtain ⟨i73, aik, _⟩ := info_parts Oo; have HC := af.mk (show l.length ≤ c ∧ l.length ≤ 1000 from ⟨hc, hl⟩); clear hx ho hl
 go_enter Try.func58, Try.ntmps58
 go_wp2
 go_loopw [3] (fun i wr => ∃ j : Nat, j ≤ l.length ∧ i = .int .i64 (j : Int) ∧ af (∀ i, j ≤ i → l.getD i 0 = 0) ∧ wr = w) (fun i _ => (intOf i).toNat)
 case atStart => exact ⟨l.length, Nat.le_refl _, rfl, ⟨fun i hi => xO hi⟩, rfl⟩
 case round =>
  obtain ⟨j, hj, rfl, HZ, rfl⟩ := hrel; have hcut := XL (P := Try.prog) 67 73 .i64 Try.underlying67 aik (some ⟨b, 0, none⟩) l.length c j (by omega)
  by_cases h0 : j = 0
  ·have d0 : decide ((0 : Int) < (j : Int)) = false := decide_eq_false (by omega); have d1 : decide (0 < j) = false := decide_eq_false (by omega)
   have e1 : (parts (nv l)).length = j := by
    rw [← sQ HO.out j hj HZ.out (.inl h0), List.length_take]; omega
   clear h0; go_wp2; go_ret; rw [e1]; exact ⟨rfl, Below.refl _ _⟩
  ·obtain ⟨q, hq⟩ : ∃ q, q = j - 1 := ⟨_, rfl⟩
   have d0 : decide ((j : Int) > 0) = true := decide_eq_true (by omega); have y := HX.out.cell (j := q) (by omega)
   have wq : IntKind.i64.wrap ((j : Int) - 1) = (q : Int) := by rw [aG]; unfold wrap64; have := HC.out; omega
   have wq' : wrap64 ((j : Int) - 1) = (q : Int) := by unfold wrap64; have := HC.out; omega
   have d3 : (q : Int) < (l.length : Int) := by omega
   have HQ := af.mk hq
   obtain ⟨xq, hxq⟩ : ∃ xq : Int, xq = l.getD q 0 := ⟨_, rfl⟩
   rw [← hxq] at y
   by_cases hz : xq = 0
   ·have z : (xq == 0) = true := beq_iff_eq.2 hz
    have HZ2 : af (∀ i, q ≤ i → l.getD i 0 = 0) := ⟨fun i hi => by
     by_cases e : i = q
     ·rw [e, ← hxq]; exact hz
     ·exact HZ.out i (by omega)⟩
    clear hxq hz hq; go_wp2; exact ⟨⟨q, by omega, rfl, HZ2, trivial⟩, by show q < j; have := HQ.out; omega⟩
   ·have z : (xq == 0) = false := beq_eq_false_iff_ne.2 hz
    have e1 : (parts (nv l)).length = j := by
     rw [← sQ HO.out j hj HZ.out (.inr (by rw [← hq, ← hxq]; exact hz)), List.length_take]; omega
    clear hxq hz hq; go_wp2; go_ret; rw [e1]; exact ⟨rfl, Below.refl _ _⟩
set_option maxHeartbeats 8000000 in
set_option maxRecDepth 100000 in
theorem XM (x : Nat) (hx : x < 2 ^ 64) (w : World) :
 Calls Try.prog 45 #[.int .u64 (x : Int)] w fun e w' => ∃ b c, e = .returned (.slice (some ⟨b, 0, none⟩) (parts x).length c) ∧ (parts x).length ≤ c ∧ UL w' b (parts x) ∧ Below w.heap.size w w' := by
 obtain ⟨a0, ha0⟩ : ∃ a0 : Int, a0 = (x : Int) := ⟨_, rfl⟩
 rw [← ha0]
 obtain ⟨l, hl⟩ : ∃ l : List Int, l = [a0 % 4294967296, (a0 / 4294967296) % 4294967296] := ⟨_, rfl⟩
 have ho : Ok l := by rw [hl]; exact Ok.cons (by omega) (by omega) (Ok.cons (by omega) (by omega) Ok.nil)
 have hv : nv l = x := by rw [hl]; simp only [nv]; omega
 have hll : l.length = 2 := by rw [hl]; rfl
 have hpt : parts x = l.take (parts x).length := by
  obtain ⟨m, hm, hz, hn⟩ := SG l; have := sQ ho m hm hz hn; rw [hv] at this; rw [← this, List.length_take, Nat.min_eq_left hm]
 have HH := af.mk (show Ok l ∧ nv l = x ∧ l.length = 2 ∧ parts x = l.take (parts x).length from ⟨ho, hv, hll, hpt⟩); have HE := af.mk hl; clear ho hv hll hpt hl ha0
 go_enter Try.func45, Try.ntmps45
 go_wp2_with (first | ((with_reducible refine bQ (N := 8) rfl ?_); refine Kd.oz (Kd.int .u32) _ 73 ?hg (N := 8) ?hd (xs := ([a0 % 4294967296, (a0 / 4294967296) % 4294967296] : List Int)) (inner := [.int .u32 (a0 % 4294967296), .int .u32 ((a0 / 4294967296) % 4294967296)]) (ok := fun _ => True) (okp := fun _ => True) ?hr ?hp (fun _ hk => hk) trivial (Below.refl _ _) (Nat.le_refl _) (by simp) ?_; (case hd => rfl); (case hg => rfl); (case hr => first | (go_simp; done) | (go_simp; rfl)); (case hp => exact (dX.one (show Kd.M (Kd.int .u32) _ _ _ (a0 % 4294967296) [.int .u32 (a0 % 4294967296)] from rfl) (dX.one (show Kd.M (Kd.int .u32) _ _ _ (a0 / 4294967296 % 4294967296) [.int .u32 (a0 / 4294967296 % 4294967296)] from rfl) (dX.none _ _)))); intro v3 w3 ho hb hg_ hnew_; rw [← HE.out] at ho; obtain ⟨b3, c3, e3, hc3, hu3⟩ := abl ho (by have := HH.out.2.2.1; omega); subst e3; have HU := af.mk hu3; have HC := af.mk hc3; have HB := af.mk hb; clear ho hb hg_ hnew_ hu3 hc3) | (go_at_call 58; refine (SH HU.out HH.out.1 HC.out (by have := HH.out.2.2.1; omega)).mono ?_; rintro e w4 ⟨rfl, hb⟩; have HB2 := af.mk (az HB.out hb); have HU2 := af.mk (HU.out.below hb); clear hb)); go_ret; rw [HH.out.2.1]; refine ⟨b3, _, rfl, Nat.le_refl _, ?_, HB2.out⟩; have := HU2.out.take (parts x).length; rw [← HH.out.2.2.2] at this; exact this
end Go.Proofs.Ytkgeihbcikiedaa.P
set_option linter.unusedVariables false
set_option linter.unusedSimpArgs false
set_option linter.constructorNameAsVariable false
set_option linter.unusedSectionVars false
namespace Go.Proofs.Ytkgeihbcikiedaa.P
open Go.RowKit Go.Shelf Go.Proofs.YtkgeihbcikiedaaW.PrintWords Go.Proofs.YtkgeihbcikiedaaW.PrintLast Go.Proofs.YtkgeihbcikiedaaW.PrintMore Go.Proofs.Ytkgeihbcikiedaa.N Go.Proofs.Ytkgeihbcikiedaa.Sk
attribute [local go_sem] dM dN eu eB dx dz dO dP
section
variable {P : Program} {ops : Array Oper} {Q : Exit → Act → World → Prop} {md : Region.Mode} {S : World → Prop} {ds : List Nat} {T : Bool × List (List Nat × List Nat)}
theorem BU {l : List Bool} {i : Nat} (h : l[i]? = some false) : (l.set i true).count false + 1 = l.count false := by
 induction l generalizing i with
 | nil => simp at h
 | cons b l ih =>
  cases i with
  | zero => simp at h; subst h; simp [List.set_cons_zero]
  | succ i =>
   simp at h; have := ih h; rw [List.set_cons_succ, List.count_cons, List.count_cons]; omega
theorem abm (hT : gp md ops = T) (J : List Bool → Act → World → Prop) (fin : List Bool → Bool)
 (hstep : ∀ l a w, J l a w → fin l = false → mX T.2 l ≠ [] ∧ ∀ i ∈ mX T.2 l, l[i]? = some false ∧ wpOp P ops Q i (fun a' w' => (i ∉ ds → S w → S w') ∧ J (l.set i true) a' w') a w)
 (hfin : ∀ l a w, J l a w → fin l = true → bW P md ops Q S ds (l.count false) l.toArray a w) :
 ∀ n l a w, l.count false = n → J l a w → bW P md ops Q S ds n l.toArray a w := by
 intro n
 induction n with
 | zero =>
  intro l a w hn hJ
  cases hf : fin l with
  | true => rw [← hn]; exact hfin l a w hJ hf
  | false =>
   obtain ⟨h1, h2⟩ := hstep l a w hJ hf; obtain ⟨i, hi⟩ := List.exists_mem_of_ne_nil _ h1; have := BU (h2 i hi).1; omega
 | succ n ih =>
  intro l a w hn hJ
  cases hf : fin l with
  | true => rw [← hn]; exact hfin l a w hJ hf
  | false =>
   obtain ⟨h1, h2⟩ := hstep l a w hJ hf
   have hr : Region.ready md ops l.toArray = mX T.2 l := by rw [ready_eq, hT]
   refine ⟨fun h0 => absurd (hr.symm.trans h0) h1, fun i hi => ?_⟩; rw [hr] at hi; obtain ⟨h3, h4⟩ := h2 i hi; refine wpOp_mono (fun a' w' h => ⟨h.1, ?_⟩) h4; rw [List.setIfInBounds_toArray]; exact ih _ a' w' (by have := BU h3; omega) h.2
end
def CE (x i : Nat) : Int := if x.testBit i = true then 1 else 0
def fo (x : Nat) (s : BSt) (k : Nat) : BSt := { s with nodes := s.nodes ++ (List.range k).map fun i => ⟨0, CE x i, 0, 0⟩ }
theorem mY (x : Nat) (s : BSt) (k : Nat) : (fo x s k).nodes.length = s.nodes.length + k := by simp [fo]
theorem xh (x : Nat) (s : BSt) (k : Nat) : fo x s (k + 1) = (d9 (fo x s k) ⟨0, CE x k, 0, 0⟩).2 := by simp [fo, d9, List.range_succ]
theorem xn (x : Nat) (s : BSt) : fo x s 0 = s := by simp [fo]
theorem Mw (x i : Nat) : qD (CE x i) = CE x i := by unfold CE qD; split <;> rfl
theorem SI (x i : Nat) (h : i < 1000000) : jC.f (parts x) (i : Int) = some (CE x i) := by
 rw [XN (mZ x) (i : Int) (by omega), ng, Int.toNat_natCast]; unfold CE
 by_cases h : x.testBit i = true
 ·rw [if_pos h, if_pos ⟨by omega, h⟩]
 ·rw [if_neg h, if_neg (fun e => h e.2)]
set_option maxHeartbeats 8000000 in
set_option maxRecDepth 100000 in
theorem SK {w0 w : World} {nb g : Nat} {s : BSt} {b c : Nat} (x m : Nat) (hI : BS w0 w nb g s) (hB : Below w0.heap.size w0 w) (hU : UL w b (parts x)) (hc : (parts x).length ≤ c) (hp : (parts x).length ≤ 1000) (hl : s.nodes.length + m < 1000000) :
 Calls Try.prog 44 #[.pointer (some ⟨g, 0, none⟩), .slice (some ⟨b, 0, none⟩) (parts x).length c, .int .i64 (m : Int)] w fun e w' => ∃ v, e = .returned v ∧ Kd.R (Kd.int .i64) 3 w' w.heap.size (fun _ => True) v (bR s.nodes.length m) ∧ BS w0 w' nb g (fo x s m) ∧ Below w0.heap.size w0 w' ∧ KB w w' g := by
 have HI := af.mk hI; have HB := af.mk hB; have HS0 := af.mk hB.size; have HNB := af.mk hI.uf; have HU := af.mk hU; have HL := af.mk (show s.nodes.length + m < 1000000 ∧ (parts x).length ≤ c ∧ (parts x).length ≤ 1000 from ⟨hl, hc, hp⟩)
 have hm0 : ¬ ((m : Int) < 0) := by omega
 clear hI hB hl hU hc hp
 go_enter Try.func44, Try.ntmps44
 go_wp2
 go_loopw [7, 11] (fun v i wr => ∃ k : Nat, k ≤ m ∧ i = .int .i64 (k : Int) ∧ af (Kd.R (Kd.int .i64) 3 wr w.heap.size (fun _ => True) v (bR s.nodes.length k)) ∧ af (BS w0 wr nb g (fo x s k)) ∧ af (Below w0.heap.size w0 wr) ∧ af (KB w wr g))
  (fun _ i _ => m - (intOf i).toNat)
 case atStart => exact ⟨0, Nat.zero_le _, rfl, ⟨Kd.oD _ _ _ _ _⟩, ⟨by rw [xn]; exact HI.out⟩, HB, ⟨KB.refl _ _⟩⟩
 case round =>
  obtain ⟨k, hk, rfl, HO, HIr, HBr, HKr⟩ := hrel; clear HI HB; obtain ⟨A7, c7, e7⟩ := Kd.bL HO.out; rw [aX] at e7; subst e7
  by_cases hlt : k < m
  ·have HLk := af.mk (show (fo x s k).nodes.length < 1000000 by rw [mY]; have := HL.out; omega); have HNk := af.mk (show ((fo x s k).nodes.length : Int) = ((s.nodes.length + k : Nat) : Int) by rw [mY])
   obtain ⟨x7, hx7⟩ : ∃ x7 : Int, x7 = ((fo x s k).nodes.length : Int) := ⟨_, rfl⟩
   have HX7 := af.mk hx7
   obtain ⟨bk, hbk⟩ : ∃ bk : Int, bk = CE x k := ⟨_, rfl⟩
   have HBK := af.mk (show jC.f (parts x) (k : Int) = some bk by rw [hbk]; exact SI x k (by have := HL.out; omega)); have HR7 := af.mk (show iU.f (fo x s k) bk = some (x7, (d9 (fo x s k) ⟨0, CE x k, 0, 0⟩).2) by unfold iU.f; rw [hbk, Mw, jH _ HLk.out, hx7]; rfl); clear hx7 hbk; have HUr := af.mk (HU.out.KB HKr.out); go_wp2_with (first | (go_at_call 71; refine (jC.calls _ _ (parts x) (k : Int) bk _ (HUr.out.C rfl (by have := HL.out; omega)) HL.out.2.1 HBK.out).mono ?_; rintro e w1 ⟨rfl, hd⟩; have HI1 := af.mk (HIr.out.below hd.below); have HB1 := af.mk (az HBr.out hd.below); have HK1 := af.mk (HKr.out.trans (.of_below hd.below g)); have HO1 := af.mk (Kd.dB HO.out hd.below); clear hd HIr HBr HKr HO) | (go_at_call 40; with_reducible refine (iU.calls nb g (fo x s k) bk x7 _ w0 _ HI1.out HB1.out HR7.out).mono ?_; rintro e w1 ⟨rfl, hi, hb, hk1⟩; have HI2 := af.mk hi; have HB2 := af.mk hb; have HK2 := af.mk (HK1.out.trans hk1); have HO2 := af.mk (iB HO1.out hk1); clear hi hb hk1 HI1 HB1 HK1 HO1) | ((with_reducible refine eZ (b := .append) (xs := #[.tmp 14, .tmp 20]) rfl ?_); at_builtin; refine Kd.jy (Kd.int .i64) w.heap.size rfl (.tmp 14) (.tmp 20) 44 3 (.int .i64 0) 8 rfl Try.underlying44 info3 rfl (by decide) (by omega) (.slice A7 k c7) (bR s.nodes.length k) x7 [.int .i64 x7] (fun _ => True) (fun _ => False) rfl rfl rfl (fun _ hk => hk.elim) (fun _ _ => trivial) HO2.out (Below.refl _ _) HK2.out.1 (by rw [aX]; have := HL.out; omega) ?_; intro v2 w2 ho2 hb2 hg2 CB; have HO3 := af.mk ho2; have HG2 := af.mk hg2; clear ho2 hb2 hg2 CB)); refine ⟨⟨k + 1, by omega, by rw [show wrap64 ((k : Int) + 1) = ((k + 1 : Nat) : Int) by unfold wrap64; have := HL.out; omega], ⟨?_⟩, ⟨?_⟩, ⟨Below.jA HB2.out HO2.out HS0.out HG2.out⟩, ⟨HK2.out.jA HO2.out (Nat.le_refl _) HG2.out⟩⟩, ?_⟩
   ·rw [mU, ← HNk.out, ← HX7.out]; exact HO3.out
   ·rw [xh]; exact HI2.out.jA HO2.out HNB.out HG2.out
   ·rw [show wrap64 ((k : Int) + 1) = ((k + 1 : Nat) : Int) by unfold wrap64; have := HL.out; omega]; simp only [intOf, Int.toNat_natCast]; omega
  ·obtain rfl : k = m := by omega
   go_wp2; go_ret; exact ⟨_, rfl, HO.out, HIr.out, HBr.out, HKr.out⟩
def abn (w0 w W1 : World) (nb g : Nat) (s : BSt) (n m : Nat) (pv wv : Value) (sg : Int) (x : Nat) (l : List Bool) (a : Act) (w' : World) : Prop :=
 ∃ (b2 b6 b8 : Bool) (v11 v15 v17 : Value), l = [true, true, b2, true, true, true, b6, true, b8, false, false] ∧
  a = { tmps := #[.pointer (some ⟨g, 0, none⟩), .agg #[.int .i64 (n : Int), pv, wv], .int .i64 sg, .int .u64 (x : Int), undef, .pointer (some ⟨w.heap.size, 0, none⟩), undef, undef, .slice none 0 0, .pointer (some ⟨g, 0, none⟩), .int .u64 (x : Int), v11, .pointer (some ⟨w.heap.size, 0, none⟩), .int .i64 (n : Int), .int .i64 (m : Int), v15, .int .i64 sg, v17, undef], defers := [] } ∧
  (b6 = true → b2 = true) ∧ (b2 = true → ∃ bb cc, v11 = .slice (some ⟨bb, 0, none⟩) (parts x).length cc ∧ (parts x).length ≤ cc ∧ UL w' bb (parts x)) ∧
  WK w0 W1 w' nb g (cond b6 (fo x s m) s) ∧ (b6 = true → Kd.R (Kd.int .i64) 3 w' W1.heap.size (fun _ => True) v15 (bR s.nodes.length m)) ∧ (b8 = true → Kd.R (Kd.int .i64) 3 w' W1.heap.size (fun _ => True) v17 [sg]) ∧
  w'.cell? ⟨w.heap.size, 0, none⟩ = some (.int .i64 (n : Int))
theorem qE {W : World} {k : Nat} {o : Obj} (h : W.heap[k]? = some o) : k ≤ W.heap.size := Nat.le_of_lt (fC h)
def abo : List Nat := [0, 0, 2, 0, 8, 24, 63, 0, 128, 511, 1023]
noncomputable def Oq : Bool × List (List Nat × List Nat) := gp .any (opsOf Try.f16 1)
theorem SL : gp .any (opsOf Try.f16 1) = Oq := rfl
theorem Ot : fZ Oq.2 abo = true := by kernel_rfl
set_option maxHeartbeats 8000000 in
set_option maxRecDepth 100000 in
theorem XO {w0 w : World} {nb g : Nat} {s : BSt} (n m : Nat) (pv wv : Value) (sg : Int) (x : Nat) (hnm : n = m + 1) (hx : x < 2 ^ 64) (hI : BS w0 w nb g s) (hB : Below w0.heap.size w0 w) (hl : s.nodes.length + n < 1000000) :
 Calls Try.prog 16 #[.pointer (some ⟨g, 0, none⟩), .agg #[.int .i64 (n : Int), pv, wv], .int .i64 sg, .int .u64 (x : Int)] w fun e w' => ∃ v, e = .returned v ∧ Kd.R (Kd.int .i64) 3 w' w.heap.size (fun _ => True) v (bR s.nodes.length m ++ [sg]) ∧ BS w0 w' nb g (fo x s m) ∧ Below w0.heap.size w0 w' ∧ KB w w' g := by
 have Ou := Try.underlying25; have HS0 := af.mk hB.size; have HNB := af.mk hI.uf; have HL := af.mk (show s.nodes.length + n < 1000000 ∧ n = m + 1 ∧ x < 2 ^ 64 from ⟨hl, hnm, hx⟩)
 have HW : af (WK w0 w w nb g s) := ⟨hI, hB, KB.refl _ _⟩
 clear hI hB hl hnm hx
 go_enter Try.func16, Try.ntmps16
 go_wp2
 have HW1 : af (WK w0 (w.alloc (.cells #[.int .i64 (n : Int), pv, wv] 25)) _ nb g s) := ⟨(HW.out.alloc (.cells #[.int .i64 (n : Int), pv, wv] 25)).1, (HW.out.alloc (.cells #[.int .i64 (n : Int), pv, wv] 25)).2.1, KB.refl _ _⟩
 have HKW := af.mk ((HW.out.alloc (.cells #[.int .i64 (n : Int), pv, wv] 25)).2.2); have HB1 := af.mk (heap_alloc_new w (.cells #[.int .i64 (n : Int), pv, wv] 25)); generalize w.alloc (.cells #[.int .i64 (n : Int), pv, wv] 25) = W1 at HW1 HB1 HKW ⊢; clear HW
 have wm : IntKind.i64.wrap ((n : Int) - 1) = (m : Int) := by rw [aG]; unfold wrap64; have := HL.out; omega
 have wm' : wrap64 ((n : Int) - 1) = (m : Int) := by unfold wrap64; have := HL.out; omega
 refine jk (n := 11) (S := fun w' => w'.cell? ⟨w.heap.size, 0, none⟩ = some (.int .i64 (n : Int))) (ds := [6, 9, 10]) #[false, false, false, false, false, false, false, false, false, false, false] (by kernel_rfl) rfl rfl ((aj (aA HB1.out) 0).trans rfl) (fun hHeld => ?_); refine eT SL Ot (fun HT_ HW_ => ?_); refine bB (i := 0) (N := some 9) (v := ?_) (a' := ?_) #[true, false, false, false, false, false, false, false, false, false, false] rfl rfl (aU HT_.out (by kernel_rfl)) (fun _ _ _ h => h) (Or.inl ⟨by rfl, ?_⟩) ?_ ?_; rotate_left
 ·intro w'; go_simp; with_reducible rfl
 rotate_left
 ·simp only [Act.put, List.setIfInBounds_toArray, List.set_cons_zero, List.set_cons_succ, aG, aJ]; rfl
 refine bB (i := 1) (N := some 10) (v := ?_) (a' := ?_) #[true, true, false, false, false, false, false, false, false, false, false] rfl rfl (aU HT_.out (by kernel_rfl)) (fun _ _ _ h => h) (Or.inl ⟨by rfl, ?_⟩) ?_ ?_; rotate_left
 ·intro w'; go_simp; with_reducible rfl
 rotate_left
 ·simp only [Act.put, List.setIfInBounds_toArray, List.set_cons_zero, List.set_cons_succ, aG, aJ]; rfl
 refine bB (i := 3) (N := some 12) (v := ?_) (a' := ?_) #[true, true, false, true, false, false, false, false, false, false, false] rfl rfl (aU HT_.out (by kernel_rfl)) (fun _ _ _ h => h) (Or.inl ⟨by rfl, ?_⟩) ?_ ?_; rotate_left
 ·intro w'; go_simp; with_reducible rfl
 rotate_left
 ·simp only [Act.put, List.setIfInBounds_toArray, List.set_cons_zero, List.set_cons_succ, aG, aJ]; rfl
 refine bB (i := 7) (N := some 16) (v := ?_) (a' := ?_) #[true, true, false, true, false, false, false, true, false, false, false] rfl rfl (aU HT_.out (by kernel_rfl)) (fun _ _ _ h => h) (Or.inl ⟨by rfl, ?_⟩) ?_ ?_; rotate_left
 ·intro w'; go_simp; with_reducible rfl
 rotate_left
 ·simp only [Act.put, List.setIfInBounds_toArray, List.set_cons_zero, List.set_cons_succ, aG, aJ]; rfl
 refine eD (i := 4) (N := some 13) (v := ?_) (a' := ?_) #[true, true, false, true, true, false, false, true, false, false, false] rfl rfl (bP HT_.out HW_.out (by kernel_rfl)) (fun _ _ _ h => h) (Or.inl ⟨by rfl, ?_⟩) hHeld ?_ ?_; rotate_left
 ·rintro w' s0; go_simp; with_reducible rfl
 rotate_left
 ·simp only [Act.put, List.setIfInBounds_toArray, List.set_cons_zero, List.set_cons_succ, aG, aJ]; rfl
 refine bB (i := 5) (N := some 14) (v := ?_) (a' := ?_) #[true, true, false, true, true, true, false, true, false, false, false] rfl rfl (aU HT_.out (by kernel_rfl)) (fun _ _ _ h => h) (Or.inl ⟨by rfl, ?_⟩) ?_ ?_; rotate_left
 ·intro w'; go_simp; with_reducible rfl
 rotate_left
 ·simp only [Act.put, List.setIfInBounds_toArray, List.set_cons_zero, List.set_cons_succ, aG, aJ]; rfl
 have hJ0 : abn w0 w W1 nb g s n m pv wv sg x [true, true, false, true, true, true, false, true, false, false, false] _ W1.drew := ⟨false, false, false, undef, undef, undef, rfl, rfl, fun h => (by cases h), fun h => (by cases h), HW1.out.drew, fun h => (by cases h), fun h => (by cases h), hHeld⟩
 refine abm HT_.out (abn w0 w W1 nb g s n m pv wv sg x) (fun l => l.getD 2 true && l.getD 6 true && l.getD 8 true) ?hstep ?hfin 5 _ _ _ rfl hJ0
 case hstep =>
  rintro l a w' ⟨b2, b6, b8, v11, v15, v17, rfl, rfl, p1, p2, p3, p4, p5, hS⟩ hf; have hf' : (b2 && b6 && b8) = false := hf
  have hcl : mX Oq.2 [true, true, b2, true, true, true, b6, true, b8, false, false] = (if b2 then (if b6 then [] else [6]) else [2]) ++ (if b8 then [] else [8]) := by
   cases b2 <;> cases b6 <;> cases b8 <;> first | (exfalso; revert hf' p1; simp; done) | kernel_rfl
  rw [hcl]; refine ⟨by cases b2 <;> cases b6 <;> cases b8 <;> first | (exfalso; revert hf'; simp; done) | (simp; done), fun i hi => ?_⟩; rw [List.mem_append] at hi; have HS1 := af.mk hS; have HP := af.mk (show _ ∧ _ ∧ _ ∧ _ ∧ _ from ⟨p1, p2, p3, p4, p5⟩); clear p1 p2 p3 p4 p5 hf hf' hcl hJ0 hHeld hS
  rcases hi with hi | hi
  ·cases b2 with
   | false =>
    have e6 : b6 = false := by cases h : b6 with
     | false => rfl
     | true => exact absurd (HP.out.1 h) (by simp)
    subst e6; rw [if_neg (by simp), List.mem_singleton] at hi; subst hi; refine ⟨rfl, wpOp_step rfl (fun K hK => ?_)⟩; refine iC Try.func45 (by kernel_rfl) rfl #[.int .u64 (x : Int)] (by rfl) rfl rfl (by (try simp only [List.map_toArray, List.map_cons, List.map_nil]); first | done | rfl) ?_; refine (XM x HL.out.2.2 _).mono ?_; rintro e w2 ⟨bb, cc, rfl, h1, h2, hb⟩; refine ⟨_, rfl, hK _ _ ⟨fun _ _ => cell_below hb HS1.out, true, false, b8, _, v15, v17, rfl, rfl, fun h => (by cases h), fun _ => ⟨bb, cc, rfl, h1, h2⟩, HP.out.2.2.1.below hb, fun h => (by cases h), fun h => Kd.dB (HP.out.2.2.2.2 h) hb, cell_below hb HS1.out⟩⟩
   | true =>
    cases b6 with
    | true => rw [if_pos rfl, if_pos rfl] at hi; cases hi
    | false =>
     rw [if_pos rfl, if_neg (by simp), List.mem_singleton] at hi; subst hi; obtain ⟨bb, cc, rfl, h1, h2⟩ := HP.out.2.1 rfl; refine ⟨rfl, wpOp_step rfl (fun K hK => ?_)⟩; refine iC Try.func44 (by kernel_rfl) rfl #[.pointer (some ⟨g, 0, none⟩), .slice (some ⟨bb, 0, none⟩) (parts x).length cc, .int .i64 (m : Int)] (by rfl) rfl rfl (by (try simp only [List.map_toArray, List.map_cons, List.map_nil]); first | done | rfl) ?_; have hwk : WK w0 W1 w' nb g s := HP.out.2.2.1; refine (SK x m hwk.bs hwk.bl h2 h1 (Nat.le_trans (gL (k := 2) (by simpa using HL.out.2.2)) (by omega)) (by have := HL.out; omega)).mono ?_; rintro e w2 ⟨v, rfl, h3, h4, h5, h6⟩; have hS2 : w2.cell? ⟨w.heap.size, 0, none⟩ = some (.int .i64 (n : Int)) := (aj (h6.cells ((hwk.kb.cells HB1.out (by decide))) (by decide)) 0).trans rfl; refine ⟨_, rfl, hK _ _ ⟨fun _ _ => hS2, true, true, b8, _, _, v17, rfl, rfl, fun _ => rfl, fun _ => ⟨bb, cc, rfl, h1, h2.KB h6⟩, hwk.call h4 h5 h6, fun _ => Kd.dW h3 hwk.size, fun h => iB (HP.out.2.2.2.2 h) h6, hS2⟩⟩
  ·cases b8 with
   | true => rw [if_pos rfl] at hi; cases hi
   | false =>
    rw [if_neg (by simp), List.mem_singleton] at hi; subst hi; refine ⟨rfl, wpOp_step rfl (fun K hK => ?_)⟩; refine Kd.iV (Kd.int .i64) _ 3 ?hg (N := 17) ?hd (xs := [sg]) (inner := [.int .i64 sg]) (ok := fun _ => True) (okp := fun _ => False) ?hr ?hp (fun _ hk => hk.elim) trivial (Below.refl _ _) (Nat.le_refl _) (by simp) ?_; (case hd => rfl); (case hg => rfl); (case hr => first | (go_simp; done) | (go_simp; rfl)); (case hp => exact CF sg); intro v w2 ho hb hg hn
    have hsz : W1.heap.size ≤ w'.heap.size := by cases b6 with
     | false => exact HP.out.2.2.1.size
     | true => exact HP.out.2.2.1.size
    exact hK _ _ ⟨fun _ _ => cell_below hb HS1.out, b2, b6, true, v11, v15, _, rfl, rfl, HP.out.1, fun h => by obtain ⟨bb, cc, e, h1, h2⟩ := HP.out.2.1 h; exact ⟨bb, cc, e, h1, h2.below hb⟩, HP.out.2.2.1.below hb, fun h => Kd.dB (HP.out.2.2.2.1 h) hb, fun _ => Kd.dW ho hsz, cell_below hb HS1.out⟩
 case hfin =>
  rintro l a w' ⟨b2, b6, b8, v11, v15, v17, rfl, rfl, p1, p2, p3, p4, p5, hS⟩ hf; have hf' : (b2 && b6 && b8) = true := hf; simp only [Bool.and_eq_true] at hf'; obtain ⟨⟨rfl, rfl⟩, rfl⟩ := hf'; have hwk : WK w0 W1 w' nb g (fo x s m) := p3; have h15 := p4 rfl; have h17 := p5 rfl; obtain ⟨A15, c15, rfl⟩ := Kd.bL h15; obtain ⟨A17, c17, rfl⟩ := Kd.bL h17; have HWK := af.mk hwk; have H15 := af.mk h15; have H17 := af.mk h17; clear p1 p2 p3 p4 p5 hf hwk h15 h17 hJ0 hHeld hS; rw [aX]; show bW _ _ _ _ _ _ 2 #[true, true, true, true, true, true, true, true, true, false, false] _ _; refine jg (i := 9) (N := some 18) #[true, true, true, true, true, true, true, true, true, true, false] rfl rfl (dD HT_.out (by kernel_rfl)) (by decide) (fun K hK => ?_); refine Kd.fU (Kd.int .i64) (Rr := fun x cs => cs = [.int .i64 x]) (w0 := w') W1.heap.size ?hw (.tmp 15) (.tmp 17) 44 3 (.int .i64 0) 8 rfl Try.underlying44 info3 rfl (by decide) (by omega) (.slice A15 m c15) (bR s.nodes.length m) [sg] A17 1 c17 (fun _ => True) (fun _ => False) rfl rfl (by have := H15.out; rw [aX] at this; exact this) (Kd.bX H17.out).2.2 (fun _ _ h => h) (fun _ h => h.elim) (fun _ _ => trivial) (Below.refl _ _) HWK.out.size ?hl ?_
  case hw => rfl
  case hl => have := HL.out; rw [aX]; omega
  intro v7 w7 ho7 hB7 hg7 XP
  have ail : af (Kd.R (Kd.int .i64) 3 w' W1.heap.size (fun _ => True) (.slice A15 m c15) (bR s.nodes.length m)) := ⟨by have := H15.out; rw [aX] at this; exact this⟩
  have HF := af.mk (HWK.out.jA ail.out (Nat.le_trans HNB.out (by have := HWK.out.kb; exact (qE HB1.out))) (Nat.le_trans HS0.out (qE HB1.out)) (Nat.le_refl _) hg7); have HO7 := af.mk ho7; clear ho7 hB7 hg7 XP; refine hK.out _ _ ?_; clear hK K; refine fD (a' := ?_) ?_ ?_; rotate_left
  ·show Act.put _ (some 18) _ = _; simp only [Act.put, List.setIfInBounds_toArray, List.set_cons_zero, List.set_cons_succ, aG, aJ]; rfl
  refine bB (i := 10) (N := some 8) (v := ?_) (a' := ?_) #[true, true, true, true, true, true, true, true, true, true, true] rfl rfl (aU HT_.out (by kernel_rfl)) (fun _ _ _ h => h) (Or.inl ⟨by rfl, ?_⟩) ?_ ?_; rotate_left
  ·intro w'; go_simp; with_reducible rfl
  rotate_left
  ·simp only [Act.put, List.setIfInBounds_toArray, List.set_cons_zero, List.set_cons_succ, aG, aJ]; rfl
  refine jB (gq HT_.out (by kernel_rfl)) ?_; go_wp2; go_ret; exact ⟨v7, rfl, Kd.dW HO7.out (qE HB1.out), HF.out.bs, HF.out.bl, (HKW.out.trans HF.out.kb)⟩
end Go.Proofs.Ytkgeihbcikiedaa.P
