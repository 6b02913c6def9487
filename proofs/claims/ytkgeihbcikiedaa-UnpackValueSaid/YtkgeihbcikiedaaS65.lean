/- The contract of unpack.Of, for all words of at most a hundred thousand bits. -/
import Derived.Test.YtkgeihbcikiedaaS64
import Derived.Test.YtkgeihbcikiedaaPx0
set_option linter.unusedVariables false
set_option linter.unusedSimpArgs false
set_option linter.constructorNameAsVariable false
set_option linter.unusedSectionVars false
namespace Go.Proofs.Ytkgeihbcikiedaa.P
open Go.RowKit Go.Shelf Go.Proofs.YtkgeihbcikiedaaW.PrintWords Go.Proofs.YtkgeihbcikiedaaW.PrintLast Go.Proofs.YtkgeihbcikiedaaW.PrintMore
attribute [local go_sem] eU eX fU fV dX dY eZ fo
def adI : List Nat := [0, 0, 2, 6, 15, 0, 0, 64, 192, 0, 512, 1536, 4064, 31, 16383]
noncomputable def Xu : Bool × List (List Nat × List Nat) := iZ .any (opsOf Try.f34 1)
theorem VE : iZ .any (opsOf Try.f34 1) = Xu := rfl
theorem Rj : ji Xu.2 adI = true := by kernel_rfl
def adJ : List Nat := [0, 0, 0, 4, 12, 0, 0, 96, 254, 511, 1023]
noncomputable def Xv : Bool × List (List Nat × List Nat) := iZ .any (opsOf Try.f34 5)
theorem VF : iZ .any (opsOf Try.f34 5) = Xv := rfl
theorem Rk : ji Xv.2 adJ = true := by kernel_rfl
def adK : List Nat := [0, 0, 2, 6, 15, 31, 0, 0, 128, 0, 512, 1920, 0, 0, 0, 0, 61312, 130944, 0, 0, 0, 0, 3407744, 8388480, 0, 0, 0, 0, 0, 0, 536870912, 1610612736, 4026531840, 8321499136, 17062428544, 34342961024, 68719476735, 137438953471]
noncomputable def Xw : Bool × List (List Nat × List Nat) := iZ .any (opsOf Try.f34 7)
theorem VG : iZ .any (opsOf Try.f34 7) = Xw := rfl
theorem Rl : ji Xw.2 adK = true := by kernel_rfl
set_option maxHeartbeats 8000000 in
set_option maxRecDepth 100000 in
theorem PY (nb g : Nat) (s : BSt) (n p : Nat) (wd : Int) (xb xc : Nat) (xs : List Int) (w0 w : World) (hI : BS w0 w nb g s) (hB : Below w0.heap.size w0 w) (hx : IL w xb xs) (hlx : xs.length = n) (hxc : n ≤ xc) (hp : 2 ≤ p) (hpn : p + 1 ≤ n) (hn : n ≤ 100000) (hl : s.nodes.length + 6 * n + 20 < 1000000) :
 Calls Try.prog 34 #[.pointer (some ⟨g, 0, none⟩), .agg #[.int .i64 (n : Int), .int .i64 (p : Int), .int .i64 wd], .slice (some ⟨xb, 0, none⟩) n xc] w fun e w' => ∃ v1 v2 : Value, e = .returned (.agg #[.int .i64 (ofF p n xs s).sign, v1, v2, .int .i64 (ofF p n xs s).zero, .int .i64 (ofF p n xs s).inf, .int .i64 (ofF p n xs s).none_, .int .i64 (ofF p n xs s).sig]) ∧
  Kd.R (Kd.int .i64) 3 w' w.heap.size (fun _ => True) v1 (ofF p n xs s).exp ∧ Kd.R (Kd.int .i64) 3 w' w.heap.size (fun _ => True) v2 (ofF p n xs s).size ∧ BS w0 w' nb g (ofF p n xs s).st ∧ Below w0.heap.size w0 w' ∧ KB w w' g := by
 have aio := Try.underlying25; have acy := Try.underlying84; have HX := af.mk hx; have HLX := af.mk hlx; have HL := af.mk hl; have HN := af.mk hn; have HS0 := af.mk hB.size; have HNB := af.mk hI.Lb
 have HW : af (WK w0 w w nb g s) := ⟨hI, hB, KB.refl _ _⟩
 clear hI hB hx hlx hl hn
 go_enter Try.func34, Try.ntmps34
 go_wp2; have hb1 : (w.alloc (.cells #[.int .i64 (n : Int), .int .i64 (p : Int), .int .i64 wd] 25)).heap[w.heap.size]? = some (.cells #[.int .i64 (n : Int), .int .i64 (p : Int), .int .i64 wd] 25 (0, 0)) := heap_alloc_new w _; have hb2 := heap_alloc_new (w.alloc (.cells #[.int .i64 (n : Int), .int .i64 (p : Int), .int .i64 wd] 25)) (.cells #[.int .i64 0, .slice none 0 0, .slice none 0 0, .int .i64 0, .int .i64 0, .int .i64 0, .int .i64 0] 84); rw [World.size_alloc] at hb2; have hb1' := bP hb1 (ai (Below.refl _ (w.alloc (.cells #[.int .i64 (n : Int), .int .i64 (p : Int), .int .i64 wd] 25))) (.cells #[.int .i64 0, .slice none 0 0, .slice none 0 0, .int .i64 0, .int .i64 0, .int .i64 0, .int .i64 0] 84))
 have HW1 : af (WK w0 w _ nb g s) := ⟨(HW.out.alloc (.cells #[.int .i64 (n : Int), .int .i64 (p : Int), .int .i64 wd] 25)).alloc (.cells #[.int .i64 0, .slice none 0 0, .slice none 0 0, .int .i64 0, .int .i64 0, .int .i64 0, .int .i64 0] 84)⟩
 generalize (w.alloc (.cells #[.int .i64 (n : Int), .int .i64 (p : Int), .int .i64 wd] 25)).alloc (.cells #[.int .i64 0, .slice none 0 0, .slice none 0 0, .int .i64 0, .int .i64 0, .int .i64 0, .int .i64 0] 84) = W1 at hb1' hb2 HW1 ⊢; have HB1 := af.mk hb1'; have HB2 := af.mk hb2; clear hb1 hb1' hb2 HW
 obtain ⟨q, hq⟩ : ∃ q, q = p - 1 := ⟨_, rfl⟩
 obtain ⟨m, hm⟩ : ∃ m, m = n - 1 := ⟨_, rfl⟩
 obtain ⟨r, hr⟩ : ∃ r, r = p - 2 := ⟨_, rfl⟩
 have wq : IntKind.i64.wrap ((p : Int) - 1) = (q : Int) := by rw [aU]; unfold wrap64; have := HN.out; omega
 have wq' : wrap64 ((p : Int) - 1) = (q : Int) := by unfold wrap64; have := HN.out; omega
 have wm : IntKind.i64.wrap ((n : Int) - 1) = (m : Int) := by rw [aU]; unfold wrap64; have := HN.out; omega
 have wm' : wrap64 ((n : Int) - 1) = (m : Int) := by unfold wrap64; have := HN.out; omega
 have wr : IntKind.i64.wrap ((p : Int) - 2) = (r : Int) := by rw [aU]; unfold wrap64; have := HN.out; omega
 have wr' : wrap64 ((p : Int) - 2) = (r : Int) := by unfold wrap64; have := HN.out; omega
 have Hq := af.mk (show q = p - 1 ∧ m = n - 1 ∧ r = p - 2 ∧ 2 ≤ p ∧ p + 1 ≤ n from ⟨hq, hm, hr, hp, hpn⟩); obtain ⟨i03, Jk, _, Ca, _⟩ := info_parts info3; have WR := aac (P := Try.prog) 44 3 .i64 Try.underlying44 Jk (some ⟨xb, 0, none⟩) n xc q (by omega) hxc; have Lv := aad (P := Try.prog) 44 3 .i64 Try.underlying44 Jk Ca xb 0 n xc q m (by omega) (by omega) hxc; rw [Nat.zero_add] at Lv
 obtain ⟨fl, hfl⟩ : ∃ fl, fl = m - q := ⟨_, rfl⟩
 rw [← hfl] at Lv; have Hf := af.mk hfl; have HX1 := af.mk (IL.KB HX.out HW1.out.2.2); have HKw := af.mk HW1.out.2.2
 have HV1 : af (WK w0 W1 W1 nb g s) := ⟨HW1.out.1, HW1.out.2.1, KB.refl _ _⟩
 clear hq hm hr Jk Ca hfl HW1 HX; refine mF (n := 15) (S := fun w' => w'.cell? ⟨w.heap.size, 0, none⟩ = some (.int .i64 (n : Int)) ∧ w'.cell? ⟨w.heap.size, 1, none⟩ = some (.int .i64 (p : Int)) ∧ w'.cell? ⟨w.heap.size, 2, none⟩ = some (.int .i64 wd)) (ds := []) #[false, false, false, false, false, false, false, false, false, false, false, false, false, false, false] (by kernel_rfl) rfl rfl ⟨(ak (aH HB1.out) 0).trans rfl, (ak (aH HB1.out) 1).trans rfl, (ak (aH HB1.out) 2).trans rfl⟩ (fun hHeld => ?_); refine gW VE Rj (fun HT_ HW_ => ?_); refine bT (i := 0) (N := some 14) (v := ?_) (a' := ?_) #[true, false, false, false, false, false, false, false, false, false, false, false, false, false, false] rfl rfl (bB HT_.out (by kernel_rfl)) (fun _ _ _ h => h) (Or.inl ⟨by rfl, ?_⟩) ?_ ?_; rotate_left
 ·intro w'; go_simp; with_reducible rfl
 rotate_left
 ·simp only [Act.put, List.setIfInBounds_toArray, List.set_cons_zero, List.set_cons_succ, aU, aV]; rfl
 refine bT (i := 1) (N := some 15) (v := ?_) (a' := ?_) #[true, true, false, false, false, false, false, false, false, false, false, false, false, false, false] rfl rfl (bB HT_.out (by kernel_rfl)) (fun _ _ _ h => h) (Or.inl ⟨by rfl, ?_⟩) ?_ ?_; rotate_left
 ·intro w'; go_simp; with_reducible rfl
 rotate_left
 ·simp only [Act.put, List.setIfInBounds_toArray, List.set_cons_zero, List.set_cons_succ, aU, aV]; rfl
 refine bT (i := 5) (N := some 19) (v := ?_) (a' := ?_) #[true, true, false, false, false, true, false, false, false, false, false, false, false, false, false] rfl rfl (bB HT_.out (by kernel_rfl)) (fun _ _ _ h => h) (Or.inl ⟨by rfl, ?_⟩) ?_ ?_; rotate_left
 ·intro w'; go_simp; with_reducible rfl
 rotate_left
 ·simp only [Act.put, List.setIfInBounds_toArray, List.set_cons_zero, List.set_cons_succ, aU, aV]; rfl
 refine bT (i := 6) (N := some 20) (v := ?_) (a' := ?_) #[true, true, false, false, false, true, true, false, false, false, false, false, false, false, false] rfl rfl (bB HT_.out (by kernel_rfl)) (fun _ _ _ h => h) (Or.inl ⟨by rfl, ?_⟩) ?_ ?_; rotate_left
 ·intro w'; go_simp; with_reducible rfl
 rotate_left
 ·simp only [Act.put, List.setIfInBounds_toArray, List.set_cons_zero, List.set_cons_succ, aU, aV]; rfl
 refine bT (i := 9) (N := some 23) (v := ?_) (a' := ?_) #[true, true, false, false, false, true, true, false, false, true, false, false, false, false, false] rfl rfl (bB HT_.out (by kernel_rfl)) (fun _ _ _ h => h) (Or.inl ⟨by rfl, ?_⟩) ?_ ?_; rotate_left
 ·intro w'; go_simp; with_reducible rfl
 rotate_left
 ·simp only [Act.put, List.setIfInBounds_toArray, List.set_cons_zero, List.set_cons_succ, aU, aV]; rfl
 refine iq (i := 2) (N := some 16) (v := ?_) (a' := ?_) #[true, true, true, false, false, true, true, false, false, true, false, false, false, false, false] rfl rfl (eB HT_.out HW_.out (by kernel_rfl)) (fun _ _ _ h => h) (Or.inl ⟨by rfl, ?_⟩) hHeld ?_ ?_; rotate_left
 ·rintro w' ⟨s0, s1, s2⟩; go_simp; with_reducible rfl
 rotate_left
 ·simp only [Act.put, List.setIfInBounds_toArray, List.set_cons_zero, List.set_cons_succ, aU, aV]; rfl
 refine bT (i := 3) (N := some 17) (v := ?_) (a' := ?_) #[true, true, true, true, false, true, true, false, false, true, false, false, false, false, false] rfl rfl (bB HT_.out (by kernel_rfl)) (fun _ _ _ h => h) (Or.inl ⟨by rfl, ?_⟩) ?_ ?_; rotate_left
 ·intro w'; go_simp; with_reducible rfl
 rotate_left
 ·simp only [Act.put, List.setIfInBounds_toArray, List.set_cons_zero, List.set_cons_succ, aU, aV]; rfl
 refine bT (i := 4) (N := some 18) (v := ?_) (a' := ?_) #[true, true, true, true, true, true, true, false, false, true, false, false, false, false, false] rfl rfl (bB HT_.out (by kernel_rfl)) (fun _ _ _ h => h) (Or.inl ⟨by rfl, ?_⟩) ?_ ?_; rotate_left
 ·intro w'; go_simp; with_reducible rfl
 rotate_left
 ·simp only [Act.put, List.setIfInBounds_toArray, List.set_cons_zero, List.set_cons_succ, aU, aV]; rfl
 refine bT (i := 13) (N := some 7) (v := ?_) (a' := ?_) #[true, true, true, true, true, true, true, false, false, true, false, false, false, true, false] rfl rfl (bB HT_.out (by kernel_rfl)) (fun _ _ _ h => h) (Or.inl ⟨by rfl, ?_⟩) ?_ ?_; rotate_left
 ·intro w'; go_simp; with_reducible rfl
 rotate_left
 ·simp only [Act.put, List.setIfInBounds_toArray, List.set_cons_zero, List.set_cons_succ, aU, aV]; rfl
 refine iq (i := 7) (N := some 21) (v := ?_) (a' := ?_) #[true, true, true, true, true, true, true, true, false, true, false, false, false, true, false] rfl rfl (eB HT_.out HW_.out (by kernel_rfl)) (fun _ _ _ h => h) (Or.inl ⟨by rfl, ?_⟩) hHeld ?_ ?_; rotate_left
 ·rintro w' ⟨s0, s1, s2⟩; go_simp; with_reducible rfl
 rotate_left
 ·simp only [Act.put, List.setIfInBounds_toArray, List.set_cons_zero, List.set_cons_succ, aU, aV]; rfl
 refine bT (i := 8) (N := some 22) (v := ?_) (a' := ?_) #[true, true, true, true, true, true, true, true, true, true, false, false, false, true, false] rfl rfl (bB HT_.out (by kernel_rfl)) (fun _ _ _ h => h) (Or.inl ⟨by rfl, ?_⟩) ?_ ?_; rotate_left
 ·intro w'; go_simp; with_reducible rfl
 rotate_left
 ·simp only [Act.put, List.setIfInBounds_toArray, List.set_cons_zero, List.set_cons_succ, aU, aV]; rfl
 refine iq (i := 10) (N := some 24) (v := ?_) (a' := ?_) #[true, true, true, true, true, true, true, true, true, true, true, false, false, true, false] rfl rfl (eB HT_.out HW_.out (by kernel_rfl)) (fun _ _ _ h => h) (Or.inl ⟨by rfl, ?_⟩) hHeld ?_ ?_; rotate_left
 ·rintro w' ⟨s0, s1, s2⟩; go_simp; with_reducible rfl
 rotate_left
 ·simp only [Act.put, List.setIfInBounds_toArray, List.set_cons_zero, List.set_cons_succ, aU, aV]; rfl
 refine bT (i := 11) (N := some 25) (v := ?_) (a' := ?_) #[true, true, true, true, true, true, true, true, true, true, true, true, false, true, false] rfl rfl (bB HT_.out (by kernel_rfl)) (fun _ _ _ h => h) (Or.inl ⟨by rfl, ?_⟩) ?_ ?_; rotate_left
 ·intro w'; go_simp; with_reducible rfl
 rotate_left
 ·simp only [Act.put, List.setIfInBounds_toArray, List.set_cons_zero, List.set_cons_succ, aU, aV]; rfl
 refine bT (i := 12) (N := some 26) (v := ?_) (a' := ?_) #[true, true, true, true, true, true, true, true, true, true, true, true, true, true, false] rfl rfl (bB HT_.out (by kernel_rfl)) (fun _ _ _ h => h) (Or.inl ⟨by rfl, ?_⟩) ?_ ?_; rotate_left
 ·intro w'; go_simp; with_reducible rfl
 rotate_left
 ·simp only [Act.put, List.setIfInBounds_toArray, List.set_cons_zero, List.set_cons_succ, aU, aV]; rfl
 refine bT (i := 14) (N := some 8) (v := ?_) (a' := ?_) #[true, true, true, true, true, true, true, true, true, true, true, true, true, true, true] rfl rfl (bB HT_.out (by kernel_rfl)) (fun _ _ _ h => h) (Or.inl ⟨by rfl, ?_⟩) ?_ ?_; rotate_left
 ·intro w'; go_simp; with_reducible rfl
 rotate_left
 ·simp only [Act.put, List.setIfInBounds_toArray, List.set_cons_zero, List.set_cons_succ, aU, aV]; rfl
 refine mY (jA HT_.out (by kernel_rfl)) ?_
 have HV2 : af (WK w0 W1 W1.drew nb g s) := ⟨HV1.out.drew⟩
 clear HV1; generalize W1.drew = W2 at HV2 ⊢
 obtain ⟨fr, hfr⟩ : ∃ fr, fr = xs.take q := ⟨_, rfl⟩
 obtain ⟨fd, hfd⟩ : ∃ fd, fd = (xs.drop q).take fl := ⟨_, rfl⟩
 obtain ⟨so, hso⟩ : ∃ so, so = ig 4 fr s := ⟨_, rfl⟩
 obtain ⟨hi, hhi⟩ : ∃ hi, hi = ig 4 fd so.2 := ⟨_, rfl⟩
 obtain ⟨fu, hfu⟩ : ∃ fu, fu = ig 3 fd hi.2 := ⟨_, rfl⟩
 have lfr : fr.length = q := by rw [hfr, List.length_take]; have := Hq.out; have := HLX.out; omega
 have lfd : fd.length = fl := by rw [hfd, List.length_take, List.length_drop]; have := Hq.out; have := HLX.out; have := Hf.out; omega
 have b1 : so.2.nodes.length ≤ s.nodes.length + 2 * q := by have := mU q 4 fr s lfr (by have := Hq.out; omega); rw [← hso] at this; omega
 have b2 : hi.2.nodes.length ≤ so.2.nodes.length + 2 * fl := by have := mU fl 4 fd so.2 lfd (by have := Hq.out; have := Hf.out; omega); rw [← hhi] at this; omega
 have b3 : fu.2.nodes.length ≤ hi.2.nodes.length + 2 * fl := by have := mU fl 3 fd hi.2 lfd (by have := Hq.out; have := Hf.out; omega); rw [← hfu] at this; omega
 have HN3 := af.mk (show fu.2.nodes.length + 10 < 1000000 ∧ hi.2.nodes.length + 2 * fl < 1000000 ∧ so.2.nodes.length + 2 * fl < 1000000 ∧ s.nodes.length + 2 * q < 1000000 ∧ q ≤ xc ∧ fl ≤ xc - q ∧ fl < 1000000 ∧ 0 < fl ∧ q + fl ≤ xs.length ∧ q < 1000000 ∧ 0 < q ∧ q + fl = m from by have := HL.out; have := Hq.out; have := Hf.out; have := HLX.out; have := HN.out; omega)
 have Cfr : ∀ W, WK w0 W1 W nb g s → Kd.C (Kd.int .i64) W (some ⟨xb, 0, none⟩) q fr := fun W h => by
  have := VH (IL.KB HX1.out h.2.2) 0 q (by have := HN3.out; omega) (by have := HN3.out; omega); rw [List.drop_zero, ← hfr] at this; exact this
 have Cfd : ∀ W, KB W1 W g → Kd.C (Kd.int .i64) W (some ⟨xb, q, none⟩) fl fd := fun W h => by
  have := VH (IL.KB HX1.out h) q fl (by have := HN3.out; omega) (by have := HN3.out; omega); rw [← hfd] at this; exact this
 have F1 : ∀ W, WK w0 W1 W nb g s → Calls Try.prog 64 #[.pointer (some ⟨g, 0, none⟩), .int .i64 4, .slice (some ⟨xb, 0, none⟩) q xc] W fun e w' => e = .returned (.int .i64 so.1) ∧ WK w0 W1 w' nb g so.2 := fun W h => by
  refine (fold_at h.1 h.2.1 (Cfr W h) HN3.out.2.2.2.2.1 HN3.out.2.2.2.2.2.2.2.2.2.2.1 HN3.out.2.2.2.1).mono ?_; rintro e w' ⟨he, a, b, c⟩; rw [← hso] at he a; exact ⟨he, h.call a b c⟩
 have F2 : ∀ W, WK w0 W1 W nb g so.2 → Calls Try.prog 64 #[.pointer (some ⟨g, 0, none⟩), .int .i64 4, .slice (some ⟨xb, q, none⟩) fl (xc - q)] W fun e w' => e = .returned (.int .i64 hi.1) ∧ WK w0 W1 w' nb g hi.2 := fun W h => by
  refine (fold_at h.1 h.2.1 (Cfd W h.2.2) HN3.out.2.2.2.2.2.1 HN3.out.2.2.2.2.2.2.2.1 HN3.out.2.2.1).mono ?_; rintro e w' ⟨he, a, b, c⟩; rw [← hhi] at he a; exact ⟨he, h.call a b c⟩
 have F3 : ∀ W, WK w0 W1 W nb g hi.2 → Calls Try.prog 64 #[.pointer (some ⟨g, 0, none⟩), .int .i64 3, .slice (some ⟨xb, q, none⟩) fl (xc - q)] W fun e w' => e = .returned (.int .i64 fu.1) ∧ WK w0 W1 w' nb g fu.2 := fun W h => by
  refine (fold_at h.1 h.2.1 (Cfd W h.2.2) HN3.out.2.2.2.2.2.1 HN3.out.2.2.2.2.2.2.2.1 HN3.out.2.1).mono ?_; rintro e w' ⟨he, a, b, c⟩; rw [← hfu] at he a; exact ⟨he, h.call a b c⟩
 have F4 : ∀ W, KB W1 W g → Calls Try.prog 38 #[.slice (some ⟨xb, q, none⟩) fl (xc - q)] W fun e w' => ∃ v, e = .returned v ∧ Kd.R (Kd.int .i64) 3 w' W.heap.size (fun _ => True) v fd ∧ Below W.heap.size W w' := fun W h => Hz (Cfd W h) HN3.out.2.2.2.2.2.1 HN3.out.2.2.2.2.2.2.1
 have HE := af.mk (show fr = xs.take q ∧ fd = (xs.drop q).take fl ∧ so = ig 4 fr s ∧ hi = ig 4 fd so.2 ∧ fu = ig 3 fd hi.2 ∧ fr.length = q ∧ fd.length = fl from ⟨hfr, hfd, hso, hhi, hfu, lfr, lfd⟩); clear hfr hfd hso hhi hfu lfr lfd b1 b2 b3; go_wp2_with (first | (go_at_call 64; with_reducible refine (F1 _ HV2.out).mono ?_; rintro e w3 ⟨rfl, h⟩; have HV3 := af.mk h; clear h HV2 F1) | (go_at_call 64; with_reducible refine (F2 _ HV3.out).mono ?_; rintro e w4 ⟨rfl, h⟩; have HV4 := af.mk h; clear h HV3 F2) | (go_at_call 64; with_reducible refine (F3 _ HV4.out).mono ?_; rintro e w5 ⟨rfl, h⟩; have HV5 := af.mk h; clear h HV4 F3) | (go_at_call 38; with_reducible refine (F4 _ HV5.out.kb).mono ?_; rintro e w6 ⟨v6, rfl, h1, h2⟩; have HR6 := af.mk h1; have HV6 := af.mk (HV5.out.below h2); have HS6 := af.mk HV5.out.size; clear h1 h2 HV5 F4)); obtain ⟨eb, ec, hv6, hec, heb, ai9⟩ := xe HR6.out (by rw [HE.out.2.2.2.2.2.2]; exact HN3.out.2.2.2.2.2.2.2.1); rw [HE.out.2.2.2.2.2.2] at hv6 hec; subst hv6; have HEC := af.mk hec; have HEB := af.mk heb; clear hec heb ai9
 obtain ⟨x0, hx0⟩ : ∃ x0, x0 = fd.getD 0 0 := ⟨_, rfl⟩
 have hx0' : xs.getD q 0 = x0 := by
  have := HN3.out; rw [hx0, HE.out.2.1]; simp [List.getD_eq_getElem?_getD, List.getElem?_take, List.getElem?_drop, show 0 < fl by omega]
 have Hx0 := af.mk hx0
 have fq : ∀ W, KB W1 W g → W.cell? ⟨xb, q, none⟩ = some (.int .i64 x0) := fun W h => by
  rw [← hx0']; exact (IL.KB HX1.out h).cell (by have := HN3.out; omega)
 clear hx0 hx0'
 have fl1 : 0 < fl := by have := HN3.out; omega
 obtain ⟨nh, hnh⟩ : ∃ nh, nh = gQ fu.2 ⟨2, hi.1, 0, 0⟩ := ⟨_, rfl⟩
 obtain ⟨e0, he0⟩ : ∃ e0, e0 = gQ nh.2 ⟨4, x0, nh.1, 0⟩ := ⟨_, rfl⟩
 have ln1 : nh.2.nodes.length = fu.2.nodes.length + 1 := by rw [hnh]; exact mM _ _
 have ln2 : e0.2.nodes.length = fu.2.nodes.length + 2 := by rw [he0, mM, ln1]
 have HLN := af.mk (show nh.2.nodes.length = fu.2.nodes.length + 1 ∧ e0.2.nodes.length = fu.2.nodes.length + 2 from ⟨ln1, ln2⟩)
 have G1 : ∀ W, WK w0 W1 W nb g fu.2 → Calls Try.prog 65 #[.pointer (some ⟨g, 0, none⟩), .int .i64 hi.1] W fun e w' => e = .returned (.int .i64 nh.1) ∧ WK w0 W1 w' nb g nh.2 ∧ KB W w' g := fun W h => by
  have := EG h (by have := HN3.out; omega) hi.1; rw [← hnh] at this; exact this
 have G2 : ∀ W, WK w0 W1 W nb g nh.2 → Calls Try.prog 43 #[.pointer (some ⟨g, 0, none⟩), .int .i64 x0, .int .i64 nh.1] W fun e w' => e = .returned (.int .i64 e0.1) ∧ WK w0 W1 w' nb g e0.2 ∧ KB W w' g := fun W h => by
  have := Xx h (by have := HN3.out; omega) x0 nh.1; rw [← he0] at this; exact this
 have HE2 := af.mk (show nh = gQ fu.2 ⟨2, hi.1, 0, 0⟩ ∧ e0 = gQ nh.2 ⟨4, x0, nh.1, 0⟩ from ⟨hnh, he0⟩); clear hnh he0 ln1 ln2; refine mF (n := 11) (S := fun w' => w'.cell? ⟨xb, q, none⟩ = some (.int .i64 x0)) (ds := [10]) #[false, false, false, false, false, false, false, false, false, false, false] (by kernel_rfl) rfl rfl (fq _ HV6.out.drew.kb) (fun hHeld => ?_); refine gW VF Rk (fun HT_ HW_ => ?_); refine bT (i := 0) (N := some 38) (v := ?_) (a' := ?_) #[true, false, false, false, false, false, false, false, false, false, false] rfl rfl (bB HT_.out (by kernel_rfl)) (fun _ _ _ h => h) (Or.inl ⟨by rfl, ?_⟩) ?_ ?_; rotate_left
 ·intro w'; go_simp; with_reducible rfl
 rotate_left
 ·simp only [Act.put, List.setIfInBounds_toArray, List.set_cons_zero, List.set_cons_succ, aU, aV]; rfl
 refine bT (i := 1) (N := some 39) (v := ?_) (a' := ?_) #[true, true, false, false, false, false, false, false, false, false, false] rfl rfl (bB HT_.out (by kernel_rfl)) (fun _ _ _ h => h) (Or.inl ⟨by rfl, ?_⟩) ?_ ?_; rotate_left
 ·intro w'; go_simp; with_reducible rfl
 rotate_left
 ·simp only [Act.put, List.setIfInBounds_toArray, List.set_cons_zero, List.set_cons_succ, aU, aV]; rfl
 refine bT (i := 2) (N := some 40) (v := ?_) (a' := ?_) #[true, true, true, false, false, false, false, false, false, false, false] rfl rfl (bB HT_.out (by kernel_rfl)) (fun _ _ _ h => h) (Or.inl ⟨by rfl, ?_⟩) ?_ ?_; rotate_left
 ·intro w'; go_simp; with_reducible rfl
 rotate_left
 ·simp only [Act.put, List.setIfInBounds_toArray, List.set_cons_zero, List.set_cons_succ, aU, aV]; rfl
 refine bT (i := 3) (N := some 41) (v := ?_) (a' := ?_) #[true, true, true, true, false, false, false, false, false, false, false] rfl rfl (bB HT_.out (by kernel_rfl)) (fun _ _ _ h => h) (Or.inl ⟨by rfl, ?_⟩) ?_ ?_; rotate_left
 ·intro w'; go_simp; with_reducible rfl
 rotate_left
 ·simp only [Act.put, List.setIfInBounds_toArray, List.set_cons_zero, List.set_cons_succ, aU, aV]; rfl
 refine bT (i := 5) (N := some 43) (v := ?_) (a' := ?_) #[true, true, true, true, false, true, false, false, false, false, false] rfl rfl (bB HT_.out (by kernel_rfl)) (fun _ _ _ h => h) (Or.inl ⟨by rfl, ?_⟩) ?_ ?_; rotate_left
 ·intro w'; go_simp; with_reducible rfl
 rotate_left
 ·simp only [Act.put, List.setIfInBounds_toArray, List.set_cons_zero, List.set_cons_succ, aU, aV]; rfl
 refine bT (i := 6) (N := some 44) (v := ?_) (a' := ?_) #[true, true, true, true, false, true, true, false, false, false, false] rfl rfl (bB HT_.out (by kernel_rfl)) (fun _ _ _ h => h) (Or.inl ⟨by rfl, ?_⟩) ?_ ?_; rotate_left
 ·intro w'; go_simp; with_reducible rfl
 rotate_left
 ·simp only [Act.put, List.setIfInBounds_toArray, List.set_cons_zero, List.set_cons_succ, aU, aV]; rfl
 refine iq (i := 4) (N := some 42) (v := ?_) (a' := ?_) #[true, true, true, true, true, true, true, false, false, false, false] rfl rfl (eB HT_.out HW_.out (by kernel_rfl)) (fun _ _ _ h => h) (Or.inl ⟨by rfl, ?_⟩) hHeld ?_ ?_; rotate_left
 ·rintro w' s0; go_simp; with_reducible rfl
 rotate_left
 ·simp only [Act.put, List.setIfInBounds_toArray, List.set_cons_zero, List.set_cons_succ, aU, aV]; rfl
 refine jy (i := 7) (N := some 45) #[true, true, true, true, true, true, true, true, false, false, false] rfl rfl (fI HT_.out (by kernel_rfl)) (by decide) (fun K hK => ?_); refine ng Try.func65 (by kernel_rfl) rfl #[.pointer (some ⟨g, 0, none⟩), .int .i64 hi.1] (by rfl) rfl rfl (by (try simp only [List.map_toArray, List.map_cons, List.map_nil]); first | done | rfl) ?_; refine (G1 _ HV6.out.drew).mono ?_; rintro e w7 ⟨rfl, Rm, Xy⟩; refine ⟨_, rfl, ?_⟩; refine hK.out _ _ (fq _ Rm.kb) (fun hHeld => ?_); clear hK K; refine gN (a' := ?_) ?_ ?_; rotate_left
 ·show Act.put _ (some 45) _ = _; simp only [Act.put, List.setIfInBounds_toArray, List.set_cons_zero, List.set_cons_succ, aU, aV]; rfl
 refine jy (i := 8) (N := some 46) #[true, true, true, true, true, true, true, true, true, false, false] rfl rfl (fI HT_.out (by kernel_rfl)) (by decide) (fun K hK => ?_); refine ng Try.func43 (by kernel_rfl) rfl #[.pointer (some ⟨g, 0, none⟩), .int .i64 x0, .int .i64 nh.1] (by rfl) rfl rfl (by (try simp only [List.map_toArray, List.map_cons, List.map_nil]); first | done | rfl) ?_; refine (G2 _ Rm).mono ?_; rintro e w8 ⟨rfl, Rn, Xz⟩; refine ⟨_, rfl, ?_⟩; refine hK.out _ _ (fq _ Rn.kb) (fun hHeld => ?_); clear hK K; refine gN (a' := ?_) ?_ ?_; rotate_left
 ·show Act.put _ (some 46) _ = _; simp only [Act.put, List.setIfInBounds_toArray, List.set_cons_zero, List.set_cons_succ, aU, aV]; rfl
 have HR8 := lF (lF (Kd.bn HR6.out) Xy) Xz; obtain ⟨qc, qf⟩ := Kd.gu 0 HR8 (0 : Int) (by omega) (by have := HN3.out; omega); have HP8 := Kd.aae HR8 (0 : Int) e0.1; have HV8 := af.mk Rn; have HPP := af.mk HP8; have adL := af.mk HR8; rw [show ((0 : Int)).toNat = 0 from rfl] at qc qf; clear HR8 HP8 Xy Xz Rm Rn; refine bT (i := 9) (N := some 47) (v := ?_) (a' := ?_) #[true, true, true, true, true, true, true, true, true, true, false] rfl rfl (bB HT_.out (by kernel_rfl)) (fun _ _ _ h => h) (Or.inl ⟨by rfl, ?_⟩) ?_ ?_; rotate_left
 ·intro w'; go_simp; with_reducible rfl
 rotate_left
 ·simp only [Act.put, List.setIfInBounds_toArray, List.set_cons_zero, List.set_cons_succ, aU, aV]; rfl
 refine qg (i := 10) (N := none) #[true, true, true, true, true, true, true, true, true, true, true] rfl rfl (fI HT_.out (by kernel_rfl)) (by decide) (fun K hK => ?_); refine yN (w1 := ?_) (by rfl) rfl ?_ ?_; rotate_left
 ·go_simp; rfl
 refine hK.out _ _ ?_; clear hK K; refine mY (jA HT_.out (by kernel_rfl)) ?_; have hsz1 : W1.heap.size ≤ eb := Nat.le_trans HS6.out HEB.out; have hsw : w.heap.size ≤ W1.heap.size := HKw.out.1; have ty8 : TB w8 3 eb := Kd.iY adL.out eb rfl
 have HV9 : af (WK w0 W1 (w8.setCell ⟨eb, 0, none⟩ (.int .i64 e0.1)) nb g e0.2) := ⟨HV8.out.far (p := ⟨eb, 0, none⟩) hsz1 (by have := HS0.out; omega) (sM ty8 (by decide) (fun _ => by have := HNB.out; show nb ≤ eb; omega)) _⟩
 have HP9 := af.mk (show Kd.R (Kd.int .i64) 3 (w8.setCell ⟨eb, 0, none⟩ (.int .i64 e0.1)) w5.heap.size (fun _ => True) (.slice (some ⟨eb, 0, none⟩) fl ec) (fd.set 0 e0.1) from HPP.out); clear HPP adL HV8 ty8 qc qf; generalize w8.setCell ⟨eb, 0, none⟩ (.int .i64 e0.1) = W9 at HV9 HP9 ⊢
 obtain ⟨no, hno⟩ : ∃ no, no = gQ e0.2 ⟨3, fu.1, so.1, 0⟩ := ⟨_, rfl⟩
 have G3 : ∀ W, WK w0 W1 W nb g e0.2 → Calls Try.prog 66 #[.pointer (some ⟨g, 0, none⟩), .int .i64 fu.1, .int .i64 so.1] W fun e w' => e = .returned (.int .i64 no.1) ∧ WK w0 W1 w' nb g no.2 ∧ KB W w' g := fun W h => by
  have := Kj h (by have := HN3.out; have := HLN.out; omega) fu.1 so.1; rw [← hno] at this; exact this
 have ln3 : no.2.nodes.length = fu.2.nodes.length + 3 := by rw [hno, mM, HLN.out.2]
 have adM := af.mk ln3; have Hno := af.mk hno; clear hno ln3; go_wp2_with (go_at_call 66; with_reducible refine (G3 _ HV9.out).mono ?_; rintro e w10 ⟨rfl, h1, h2⟩; have adN := af.mk h1; have adO := af.mk (lF HP9.out h2); clear h1 h2)
 obtain ⟨xm, hxm⟩ : ∃ xm, xm = xs.getD m 0 := ⟨_, rfl⟩
 obtain ⟨xr, hxr⟩ : ∃ xr, xr = xs.getD r 0 := ⟨_, rfl⟩
 have Hxm := af.mk (show xm = xs.getD m 0 ∧ xr = xs.getD r 0 from ⟨hxm, hxr⟩)
 have fm : ∀ W, KB W1 W g → W.cell? ⟨xb, m, none⟩ = some (.int .i64 xm) ∧ W.cell? ⟨xb, r, none⟩ = some (.int .i64 xr) := fun W h => by
  rw [hxm, hxr]; exact ⟨(IL.KB HX1.out h).cell (by have := HN3.out; have := Hq.out; have := HLX.out; omega), (IL.KB HX1.out h).cell (by have := HN3.out; have := Hq.out; have := HLX.out; omega)⟩
 have fb : ∀ W, KB W1 W g → W.cell? ⟨w.heap.size, 0, none⟩ = some (.int .i64 (n : Int)) ∧ W.cell? ⟨w.heap.size, 1, none⟩ = some (.int .i64 (p : Int)) := fun W h => by
  have := KB.cells h HB1.out (by decide); exact ⟨(ak this 0).trans rfl, (ak this 1).trans rfl⟩
 have ff : ∀ W, KB W1 W g → W.cell? ⟨w.heap.size, 0, none⟩ = some (.int .i64 (n : Int)) ∧ W.cell? ⟨w.heap.size, 1, none⟩ = some (.int .i64 (p : Int)) ∧ W.cell? ⟨xb, m, none⟩ = some (.int .i64 xm) ∧ W.cell? ⟨xb, r, none⟩ = some (.int .i64 xr) := fun W h => ⟨(fb W h).1, (fb W h).2, (fm W h).1, (fm W h).2⟩
 clear hxm hxr fm fb
 have mlt : m < n := by have := Hq.out; omega
 have rlt : r < q := by have := Hq.out; omega
 obtain ⟨o1, ho1⟩ : ∃ o1, o1 = gQ no.2 ⟨4, hi.1, so.1, 0⟩ := ⟨_, rfl⟩
 obtain ⟨ze, hze⟩ : ∃ ze, ze = gQ o1.2 ⟨2, o1.1, 0, 0⟩ := ⟨_, rfl⟩
 obtain ⟨ns, hns⟩ : ∃ ns, ns = gQ ze.2 ⟨2, so.1, 0, 0⟩ := ⟨_, rfl⟩
 obtain ⟨nf, hnf⟩ : ∃ nf, nf = gQ ns.2 ⟨3, fu.1, ns.1, 0⟩ := ⟨_, rfl⟩
 obtain ⟨nt, hnt⟩ : ∃ nt, nt = gQ nf.2 ⟨2, xr, 0, 0⟩ := ⟨_, rfl⟩
 obtain ⟨sg, hsg⟩ : ∃ sg, sg = gQ nt.2 ⟨3, no.1, nt.1, 0⟩ := ⟨_, rfl⟩
 have k1 : o1.2.nodes.length = fu.2.nodes.length + 4 := by rw [ho1, mM, adM.out]
 have k2 : ze.2.nodes.length = fu.2.nodes.length + 5 := by rw [hze, mM, k1]
 have k3 : ns.2.nodes.length = fu.2.nodes.length + 6 := by rw [hns, mM, k2]
 have k4 : nf.2.nodes.length = fu.2.nodes.length + 7 := by rw [hnf, mM, k3]
 have k5 : nt.2.nodes.length = fu.2.nodes.length + 8 := by rw [hnt, mM, k4]
 have P1 : ∀ W, WK w0 W1 W nb g no.2 → Calls Try.prog 43 #[.pointer (some ⟨g, 0, none⟩), .int .i64 hi.1, .int .i64 so.1] W fun e w' => e = .returned (.int .i64 o1.1) ∧ WK w0 W1 w' nb g o1.2 ∧ KB W w' g := fun W h => by
  have := Xx h (by have := HN3.out; have := adM.out; omega) hi.1 so.1; rw [← ho1] at this; exact this
 have P2 : ∀ W, WK w0 W1 W nb g o1.2 → Calls Try.prog 65 #[.pointer (some ⟨g, 0, none⟩), .int .i64 o1.1] W fun e w' => e = .returned (.int .i64 ze.1) ∧ WK w0 W1 w' nb g ze.2 ∧ KB W w' g := fun W h => by
  have := EG h (by have := HN3.out; omega) o1.1; rw [← hze] at this; exact this
 have P3 : ∀ W, WK w0 W1 W nb g ze.2 → Calls Try.prog 65 #[.pointer (some ⟨g, 0, none⟩), .int .i64 so.1] W fun e w' => e = .returned (.int .i64 ns.1) ∧ WK w0 W1 w' nb g ns.2 ∧ KB W w' g := fun W h => by
  have := EG h (by have := HN3.out; omega) so.1; rw [← hns] at this; exact this
 have P4 : ∀ W, WK w0 W1 W nb g ns.2 → Calls Try.prog 66 #[.pointer (some ⟨g, 0, none⟩), .int .i64 fu.1, .int .i64 ns.1] W fun e w' => e = .returned (.int .i64 nf.1) ∧ WK w0 W1 w' nb g nf.2 ∧ KB W w' g := fun W h => by
  have := Kj h (by have := HN3.out; omega) fu.1 ns.1; rw [← hnf] at this; exact this
 have P5 : ∀ W, WK w0 W1 W nb g nf.2 → Calls Try.prog 65 #[.pointer (some ⟨g, 0, none⟩), .int .i64 xr] W fun e w' => e = .returned (.int .i64 nt.1) ∧ WK w0 W1 w' nb g nt.2 ∧ KB W w' g := fun W h => by
  have := EG h (by have := HN3.out; omega) xr; rw [← hnt] at this; exact this
 have P6 : ∀ W, WK w0 W1 W nb g nt.2 → Calls Try.prog 66 #[.pointer (some ⟨g, 0, none⟩), .int .i64 no.1, .int .i64 nt.1] W fun e w' => e = .returned (.int .i64 sg.1) ∧ WK w0 W1 w' nb g sg.2 ∧ KB W w' g := fun W h => by
  have := Kj h (by have := HN3.out; omega) no.1 nt.1; rw [← hsg] at this; exact this
 have HE3 := af.mk (show o1 = gQ no.2 ⟨4, hi.1, so.1, 0⟩ ∧ ze = gQ o1.2 ⟨2, o1.1, 0, 0⟩ ∧ ns = gQ ze.2 ⟨2, so.1, 0, 0⟩ ∧ nf = gQ ns.2 ⟨3, fu.1, ns.1, 0⟩ ∧ nt = gQ nf.2 ⟨2, xr, 0, 0⟩ ∧ sg = gQ nt.2 ⟨3, no.1, nt.1, 0⟩ from ⟨ho1, hze, hns, hnf, hnt, hsg⟩); clear ho1 hze hns hnf hnt hsg k1 k2 k3 k4 k5
 have Ro : af (WK w0 W1 w10.drew nb g no.2) := ⟨adN.out.drew⟩
 have aaf : af (Kd.R (Kd.int .i64) 3 w10.drew w5.heap.size (fun _ => True) (.slice (some ⟨eb, 0, none⟩) fl ec) (fd.set 0 e0.1)) := ⟨Kd.bn adO.out⟩
 have Cfr' : ∀ W, KB W1 W g → Kd.C (Kd.int .i64) W (some ⟨xb, 0, none⟩) q fr := fun W h => by
  have := VH (IL.KB HX1.out h) 0 q (by have := HN3.out; omega) (by have := HN3.out; omega); rw [List.drop_zero, ← HE.out.1] at this; exact this
 have P7 : ∀ W, KB W1 W g → Calls Try.prog 38 #[.slice (some ⟨xb, 0, none⟩) q xc] W fun e w' => ∃ v, e = .returned v ∧ Kd.R (Kd.int .i64) 3 w' W.heap.size (fun _ => True) v fr ∧ Below W.heap.size W w' := fun W h => Hz (Cfr' W h) HN3.out.2.2.2.2.1 HN3.out.2.2.2.2.2.2.2.2.2.1
 refine mF (n := 38) (S := fun w' => w'.cell? ⟨w.heap.size, 0, none⟩ = some (.int .i64 (n : Int)) ∧ w'.cell? ⟨w.heap.size, 1, none⟩ = some (.int .i64 (p : Int)) ∧ w'.cell? ⟨xb, m, none⟩ = some (.int .i64 xm) ∧ w'.cell? ⟨xb, r, none⟩ = some (.int .i64 xr)) (ds := [37]) #[false, false, false, false, false, false, false, false, false, false, false, false, false, false, false, false, false, false, false, false, false, false, false, false, false, false, false, false, false, false, false, false, false, false, false, false, false, false] (by kernel_rfl) rfl rfl (ff _ Ro.out.kb) (fun hHeld => ?_); refine gW VG Rl (fun HT_ HW_ => ?_); have NU := af.mk Ro.out.size; have XA : eb < w10.drew.heap.size := Kd.oN aaf.out eb rfl; have adP := af.mk XA; clear XA adN adO; generalize w10.drew = W11 at *; refine bT (i := 0) (N := some 52) (v := ?_) (a' := ?_) #[true, false, false, false, false, false, false, false, false, false, false, false, false, false, false, false, false, false, false, false, false, false, false, false, false, false, false, false, false, false, false, false, false, false, false, false, false, false] rfl rfl (bB HT_.out (by kernel_rfl)) (fun _ _ _ h => h) (Or.inl ⟨by rfl, ?_⟩) ?_ ?_; rotate_left
 ·intro w'; go_simp; with_reducible rfl
 rotate_left
 ·simp only [Act.put, List.setIfInBounds_toArray, List.set_cons_zero, List.set_cons_succ, aU, aV]; rfl
 refine bT (i := 1) (N := some 53) (v := ?_) (a' := ?_) #[true, true, false, false, false, false, false, false, false, false, false, false, false, false, false, false, false, false, false, false, false, false, false, false, false, false, false, false, false, false, false, false, false, false, false, false, false, false] rfl rfl (bB HT_.out (by kernel_rfl)) (fun _ _ _ h => h) (Or.inl ⟨by rfl, ?_⟩) ?_ ?_; rotate_left
 ·intro w'; go_simp; with_reducible rfl
 rotate_left
 ·simp only [Act.put, List.setIfInBounds_toArray, List.set_cons_zero, List.set_cons_succ, aU, aV]; rfl
 refine bT (i := 6) (N := some 58) (v := ?_) (a' := ?_) #[true, true, false, false, false, false, true, false, false, false, false, false, false, false, false, false, false, false, false, false, false, false, false, false, false, false, false, false, false, false, false, false, false, false, false, false, false, false] rfl rfl (bB HT_.out (by kernel_rfl)) (fun _ _ _ h => h) (Or.inl ⟨by rfl, ?_⟩) ?_ ?_; rotate_left
 ·intro w'; go_simp; with_reducible rfl
 rotate_left
 ·simp only [Act.put, List.setIfInBounds_toArray, List.set_cons_zero, List.set_cons_succ, aU, aV]; rfl
 refine bT (i := 7) (N := some 59) (v := ?_) (a' := ?_) #[true, true, false, false, false, false, true, true, false, false, false, false, false, false, false, false, false, false, false, false, false, false, false, false, false, false, false, false, false, false, false, false, false, false, false, false, false, false] rfl rfl (bB HT_.out (by kernel_rfl)) (fun _ _ _ h => h) (Or.inl ⟨by rfl, ?_⟩) ?_ ?_; rotate_left
 ·intro w'; go_simp; with_reducible rfl
 rotate_left
 ·simp only [Act.put, List.setIfInBounds_toArray, List.set_cons_zero, List.set_cons_succ, aU, aV]; rfl
 refine bT (i := 9) (N := some 61) (v := ?_) (a' := ?_) #[true, true, false, false, false, false, true, true, false, true, false, false, false, false, false, false, false, false, false, false, false, false, false, false, false, false, false, false, false, false, false, false, false, false, false, false, false, false] rfl rfl (bB HT_.out (by kernel_rfl)) (fun _ _ _ h => h) (Or.inl ⟨by rfl, ?_⟩) ?_ ?_; rotate_left
 ·intro w'; go_simp; with_reducible rfl
 rotate_left
 ·simp only [Act.put, List.setIfInBounds_toArray, List.set_cons_zero, List.set_cons_succ, aU, aV]; rfl
 refine bT (i := 12) (N := some 64) (v := ?_) (a' := ?_) #[true, true, false, false, false, false, true, true, false, true, false, false, true, false, false, false, false, false, false, false, false, false, false, false, false, false, false, false, false, false, false, false, false, false, false, false, false, false] rfl rfl (bB HT_.out (by kernel_rfl)) (fun _ _ _ h => h) (Or.inl ⟨by rfl, ?_⟩) ?_ ?_; rotate_left
 ·intro w'; go_simp; with_reducible rfl
 rotate_left
 ·simp only [Act.put, List.setIfInBounds_toArray, List.set_cons_zero, List.set_cons_succ, aU, aV]; rfl
 refine bT (i := 13) (N := some 65) (v := ?_) (a' := ?_) #[true, true, false, false, false, false, true, true, false, true, false, false, true, true, false, false, false, false, false, false, false, false, false, false, false, false, false, false, false, false, false, false, false, false, false, false, false, false] rfl rfl (bB HT_.out (by kernel_rfl)) (fun _ _ _ h => h) (Or.inl ⟨by rfl, ?_⟩) ?_ ?_; rotate_left
 ·intro w'; go_simp; with_reducible rfl
 rotate_left
 ·simp only [Act.put, List.setIfInBounds_toArray, List.set_cons_zero, List.set_cons_succ, aU, aV]; rfl
 refine bT (i := 14) (N := some 66) (v := ?_) (a' := ?_) #[true, true, false, false, false, false, true, true, false, true, false, false, true, true, true, false, false, false, false, false, false, false, false, false, false, false, false, false, false, false, false, false, false, false, false, false, false, false] rfl rfl (bB HT_.out (by kernel_rfl)) (fun _ _ _ h => h) (Or.inl ⟨by rfl, ?_⟩) ?_ ?_; rotate_left
 ·intro w'; go_simp; with_reducible rfl
 rotate_left
 ·simp only [Act.put, List.setIfInBounds_toArray, List.set_cons_zero, List.set_cons_succ, aU, aV]; rfl
 refine bT (i := 15) (N := some 67) (v := ?_) (a' := ?_) #[true, true, false, false, false, false, true, true, false, true, false, false, true, true, true, true, false, false, false, false, false, false, false, false, false, false, false, false, false, false, false, false, false, false, false, false, false, false] rfl rfl (bB HT_.out (by kernel_rfl)) (fun _ _ _ h => h) (Or.inl ⟨by rfl, ?_⟩) ?_ ?_; rotate_left
 ·intro w'; go_simp; with_reducible rfl
 rotate_left
 ·simp only [Act.put, List.setIfInBounds_toArray, List.set_cons_zero, List.set_cons_succ, aU, aV]; rfl
 refine bT (i := 18) (N := some 70) (v := ?_) (a' := ?_) #[true, true, false, false, false, false, true, true, false, true, false, false, true, true, true, true, false, false, true, false, false, false, false, false, false, false, false, false, false, false, false, false, false, false, false, false, false, false] rfl rfl (bB HT_.out (by kernel_rfl)) (fun _ _ _ h => h) (Or.inl ⟨by rfl, ?_⟩) ?_ ?_; rotate_left
 ·intro w'; go_simp; with_reducible rfl
 rotate_left
 ·simp only [Act.put, List.setIfInBounds_toArray, List.set_cons_zero, List.set_cons_succ, aU, aV]; rfl
 refine bT (i := 19) (N := some 71) (v := ?_) (a' := ?_) #[true, true, false, false, false, false, true, true, false, true, false, false, true, true, true, true, false, false, true, true, false, false, false, false, false, false, false, false, false, false, false, false, false, false, false, false, false, false] rfl rfl (bB HT_.out (by kernel_rfl)) (fun _ _ _ h => h) (Or.inl ⟨by rfl, ?_⟩) ?_ ?_; rotate_left
 ·intro w'; go_simp; with_reducible rfl
 rotate_left
 ·simp only [Act.put, List.setIfInBounds_toArray, List.set_cons_zero, List.set_cons_succ, aU, aV]; rfl
 refine bT (i := 20) (N := some 72) (v := ?_) (a' := ?_) #[true, true, false, false, false, false, true, true, false, true, false, false, true, true, true, true, false, false, true, true, true, false, false, false, false, false, false, false, false, false, false, false, false, false, false, false, false, false] rfl rfl (bB HT_.out (by kernel_rfl)) (fun _ _ _ h => h) (Or.inl ⟨by rfl, ?_⟩) ?_ ?_; rotate_left
 ·intro w'; go_simp; with_reducible rfl
 rotate_left
 ·simp only [Act.put, List.setIfInBounds_toArray, List.set_cons_zero, List.set_cons_succ, aU, aV]; rfl
 refine bT (i := 21) (N := some 73) (v := ?_) (a' := ?_) #[true, true, false, false, false, false, true, true, false, true, false, false, true, true, true, true, false, false, true, true, true, true, false, false, false, false, false, false, false, false, false, false, false, false, false, false, false, false] rfl rfl (bB HT_.out (by kernel_rfl)) (fun _ _ _ h => h) (Or.inl ⟨by rfl, ?_⟩) ?_ ?_; rotate_left
 ·intro w'; go_simp; with_reducible rfl
 rotate_left
 ·simp only [Act.put, List.setIfInBounds_toArray, List.set_cons_zero, List.set_cons_succ, aU, aV]; rfl
 refine bT (i := 24) (N := some 76) (v := ?_) (a' := ?_) #[true, true, false, false, false, false, true, true, false, true, false, false, true, true, true, true, false, false, true, true, true, true, false, false, true, false, false, false, false, false, false, false, false, false, false, false, false, false] rfl rfl (bB HT_.out (by kernel_rfl)) (fun _ _ _ h => h) (Or.inl ⟨by rfl, ?_⟩) ?_ ?_; rotate_left
 ·intro w'; go_simp; with_reducible rfl
 rotate_left
 ·simp only [Act.put, List.setIfInBounds_toArray, List.set_cons_zero, List.set_cons_succ, aU, aV]; rfl
 refine bT (i := 25) (N := some 77) (v := ?_) (a' := ?_) #[true, true, false, false, false, false, true, true, false, true, false, false, true, true, true, true, false, false, true, true, true, true, false, false, true, true, false, false, false, false, false, false, false, false, false, false, false, false] rfl rfl (bB HT_.out (by kernel_rfl)) (fun _ _ _ h => h) (Or.inl ⟨by rfl, ?_⟩) ?_ ?_; rotate_left
 ·intro w'; go_simp; with_reducible rfl
 rotate_left
 ·simp only [Act.put, List.setIfInBounds_toArray, List.set_cons_zero, List.set_cons_succ, aU, aV]; rfl
 refine bT (i := 26) (N := some 78) (v := ?_) (a' := ?_) #[true, true, false, false, false, false, true, true, false, true, false, false, true, true, true, true, false, false, true, true, true, true, false, false, true, true, true, false, false, false, false, false, false, false, false, false, false, false] rfl rfl (bB HT_.out (by kernel_rfl)) (fun _ _ _ h => h) (Or.inl ⟨by rfl, ?_⟩) ?_ ?_; rotate_left
 ·intro w'; go_simp; with_reducible rfl
 rotate_left
 ·simp only [Act.put, List.setIfInBounds_toArray, List.set_cons_zero, List.set_cons_succ, aU, aV]; rfl
 refine bT (i := 27) (N := some 79) (v := ?_) (a' := ?_) #[true, true, false, false, false, false, true, true, false, true, false, false, true, true, true, true, false, false, true, true, true, true, false, false, true, true, true, true, false, false, false, false, false, false, false, false, false, false] rfl rfl (bB HT_.out (by kernel_rfl)) (fun _ _ _ h => h) (Or.inl ⟨by rfl, ?_⟩) ?_ ?_; rotate_left
 ·intro w'; go_simp; with_reducible rfl
 rotate_left
 ·simp only [Act.put, List.setIfInBounds_toArray, List.set_cons_zero, List.set_cons_succ, aU, aV]; rfl
 refine bT (i := 28) (N := some 80) (v := ?_) (a' := ?_) #[true, true, false, false, false, false, true, true, false, true, false, false, true, true, true, true, false, false, true, true, true, true, false, false, true, true, true, true, true, false, false, false, false, false, false, false, false, false] rfl rfl (bB HT_.out (by kernel_rfl)) (fun _ _ _ h => h) (Or.inl ⟨by rfl, ?_⟩) ?_ ?_; rotate_left
 ·intro w'; go_simp; with_reducible rfl
 rotate_left
 ·simp only [Act.put, List.setIfInBounds_toArray, List.set_cons_zero, List.set_cons_succ, aU, aV]; rfl
 refine bT (i := 29) (N := some 81) (v := ?_) (a' := ?_) #[true, true, false, false, false, false, true, true, false, true, false, false, true, true, true, true, false, false, true, true, true, true, false, false, true, true, true, true, true, true, false, false, false, false, false, false, false, false] rfl rfl (bB HT_.out (by kernel_rfl)) (fun _ _ _ h => h) (Or.inl ⟨by rfl, ?_⟩) ?_ ?_; rotate_left
 ·intro w'; go_simp; with_reducible rfl
 rotate_left
 ·simp only [Act.put, List.setIfInBounds_toArray, List.set_cons_zero, List.set_cons_succ, aU, aV]; rfl
 refine iq (i := 2) (N := some 54) (v := ?_) (a' := ?_) #[true, true, true, false, false, false, true, true, false, true, false, false, true, true, true, true, false, false, true, true, true, true, false, false, true, true, true, true, true, true, false, false, false, false, false, false, false, false] rfl rfl (eB HT_.out HW_.out (by kernel_rfl)) (fun _ _ _ h => h) (Or.inl ⟨by rfl, ?_⟩) hHeld ?_ ?_; rotate_left
 ·rintro w' ⟨s0, s1, s2, s3⟩; go_simp; with_reducible rfl
 rotate_left
 ·simp only [Act.put, List.setIfInBounds_toArray, List.set_cons_zero, List.set_cons_succ, aU, aV]; rfl
 refine bT (i := 3) (N := some 55) (v := ?_) (a' := ?_) #[true, true, true, true, false, false, true, true, false, true, false, false, true, true, true, true, false, false, true, true, true, true, false, false, true, true, true, true, true, true, false, false, false, false, false, false, false, false] rfl rfl (bB HT_.out (by kernel_rfl)) (fun _ _ _ h => h) (Or.inl ⟨by rfl, ?_⟩) ?_ ?_; rotate_left
 ·intro w'; go_simp; with_reducible rfl
 rotate_left
 ·simp only [Act.put, List.setIfInBounds_toArray, List.set_cons_zero, List.set_cons_succ, aU, aV]; rfl
 refine bT (i := 4) (N := some 56) (v := ?_) (a' := ?_) #[true, true, true, true, true, false, true, true, false, true, false, false, true, true, true, true, false, false, true, true, true, true, false, false, true, true, true, true, true, true, false, false, false, false, false, false, false, false] rfl rfl (bB HT_.out (by kernel_rfl)) (fun _ _ _ h => h) (Or.inl ⟨by rfl, ?_⟩) ?_ ?_; rotate_left
 ·intro w'; go_simp; with_reducible rfl
 rotate_left
 ·simp only [Act.put, List.setIfInBounds_toArray, List.set_cons_zero, List.set_cons_succ, aU, aV]; rfl
 refine iq (i := 5) (N := some 57) (v := ?_) (a' := ?_) #[true, true, true, true, true, true, true, true, false, true, false, false, true, true, true, true, false, false, true, true, true, true, false, false, true, true, true, true, true, true, false, false, false, false, false, false, false, false] rfl rfl (eB HT_.out HW_.out (by kernel_rfl)) (fun _ _ _ h => h) (Or.inl ⟨by rfl, ?_⟩) hHeld ?_ ?_; rotate_left
 ·rintro w' ⟨s0, s1, s2, s3⟩; go_simp; with_reducible rfl
 rotate_left
 ·simp only [Act.put, List.setIfInBounds_toArray, List.set_cons_zero, List.set_cons_succ, aU, aV]; rfl
 refine iq (i := 30) (N := some 82) (v := ?_) (a' := ?_) #[true, true, true, true, true, true, true, true, false, true, false, false, true, true, true, true, false, false, true, true, true, true, false, false, true, true, true, true, true, true, true, false, false, false, false, false, false, false] rfl rfl (eB HT_.out HW_.out (by kernel_rfl)) (fun _ _ _ h => h) (Or.inl ⟨by rfl, ?_⟩) hHeld ?_ ?_; rotate_left
 ·rintro w' ⟨s0, s1, s2, s3⟩; go_simp; with_reducible rfl
 rotate_left
 ·simp only [Act.put, List.setIfInBounds_toArray, List.set_cons_zero, List.set_cons_succ, aU, aV]; rfl
 refine bT (i := 31) (N := some 83) (v := ?_) (a' := ?_) #[true, true, true, true, true, true, true, true, false, true, false, false, true, true, true, true, false, false, true, true, true, true, false, false, true, true, true, true, true, true, true, true, false, false, false, false, false, false] rfl rfl (bB HT_.out (by kernel_rfl)) (fun _ _ _ h => h) (Or.inl ⟨by rfl, ?_⟩) ?_ ?_; rotate_left
 ·intro w'; go_simp; with_reducible rfl
 rotate_left
 ·simp only [Act.put, List.setIfInBounds_toArray, List.set_cons_zero, List.set_cons_succ, aU, aV]; rfl
 refine bT (i := 32) (N := some 84) (v := ?_) (a' := ?_) #[true, true, true, true, true, true, true, true, false, true, false, false, true, true, true, true, false, false, true, true, true, true, false, false, true, true, true, true, true, true, true, true, true, false, false, false, false, false] rfl rfl (bB HT_.out (by kernel_rfl)) (fun _ _ _ h => h) (Or.inl ⟨by rfl, ?_⟩) ?_ ?_; rotate_left
 ·intro w'; go_simp; with_reducible rfl
 rotate_left
 ·simp only [Act.put, List.setIfInBounds_toArray, List.set_cons_zero, List.set_cons_succ, aU, aV]; rfl
 refine iq (i := 33) (N := some 85) (v := ?_) (a' := ?_) #[true, true, true, true, true, true, true, true, false, true, false, false, true, true, true, true, false, false, true, true, true, true, false, false, true, true, true, true, true, true, true, true, true, true, false, false, false, false] rfl rfl (eB HT_.out HW_.out (by kernel_rfl)) (fun _ _ _ h => h) (Or.inl ⟨by rfl, ?_⟩) hHeld ?_ ?_; rotate_left
 ·rintro w' ⟨s0, s1, s2, s3⟩; go_simp; with_reducible rfl
 rotate_left
 ·simp only [Act.put, List.setIfInBounds_toArray, List.set_cons_zero, List.set_cons_succ, aU, aV]; rfl
 refine aco (σ := Value × Value) 9 #[true, true, true, true, true, true, true, true, true, true, true, false, true, true, true, true, false, false, true, true, true, true, false, false, true, true, true, true, true, true, true, true, true, true, false, false, false, false] (fun s_ => [(60, s_.1), (62, s_.2)]) (fun s_ w' => (w'.cell? ⟨w.heap.size, 0, none⟩ = some (.int .i64 (n : Int)) ∧ w'.cell? ⟨w.heap.size, 1, none⟩ = some (.int .i64 (p : Int)) ∧ w'.cell? ⟨xb, m, none⟩ = some (.int .i64 xm) ∧ w'.cell? ⟨xb, r, none⟩ = some (.int .i64 xr)) ∧ WK w0 W1 w' nb g no.2 ∧ Kd.R (Kd.int .i64) 3 w' w5.heap.size (fun _ => True) (.slice (some ⟨eb, 0, none⟩) fl ec) (fd.set 0 e0.1) ∧ Kd.R (Kd.int .i64) 3 w' W11.heap.size (fun _ => True) s_.1 fr ∧ Kd.R (Kd.int .i64) 3 w' W11.heap.size (fun _ => True) s_.2 [hi.1]) ?_ ?_; rotate_left
 ·intro hCont; refine ain (i := 8) (j := 10) (Ni := some 60) (Nj := some 62) #[true, true, true, true, true, true, true, true, true, true, false, false, true, true, true, true, false, false, true, true, true, true, false, false, true, true, true, true, true, true, true, true, true, true, false, false, false, false] #[true, true, true, true, true, true, true, true, false, true, true, false, true, true, true, true, false, false, true, true, true, true, false, false, true, true, true, true, true, true, true, true, true, true, false, false, false, false] rfl rfl rfl rfl (ZB HT_.out (by kernel_rfl)) (by decide) (by decide) (fun K hK => ?_) (fun K hK => ?_)
  ·refine ng Try.func38 (by kernel_rfl) rfl #[.slice (some ⟨xb, 0, none⟩) q xc] (by rfl) rfl rfl (by (try simp only [List.map_toArray, List.map_cons, List.map_nil]); first | done | rfl) ?_; refine (P7 _ Ro.out.kb).mono ?_; rintro e w12 ⟨v12, rfl, h1, h2⟩; refine ⟨_, rfl, ?_⟩; have Ji := Ro.out.below h2; refine hK.out _ _ (ff _ Ji.kb) (fun hHeld => ?_); clear hK K; refine gN (a' := ?_) ?_ ?_; rotate_left
   ·show Act.put _ (some 60) _ = _; simp only [Act.put, List.setIfInBounds_toArray, List.set_cons_zero, List.set_cons_succ, aU, aV]; rfl
   refine jy (i := 10) (N := some 62) #[true, true, true, true, true, true, true, true, true, true, true, false, true, true, true, true, false, false, true, true, true, true, false, false, true, true, true, true, true, true, true, true, true, true, false, false, false, false] rfl rfl (fI HT_.out (by kernel_rfl)) (by decide) (fun K hK => ?_); refine Kd.jS (Kd.int .i64) _ 3 ?hg (N := 62) ?hd (xs := [hi.1]) (inner := [.int .i64 hi.1]) (ok := fun _ => True) (okp := fun _ => False) ?hr ?hp (fun _ hk => hk.elim) trivial (Below.refl _ _) (Nat.le_refl _) (by simp) ?_; (case hd => rfl); (case hg => rfl); (case hr => first | (go_simp; done) | (go_simp; rfl)); (case hp => exact MQ hi.1); intro v13 w13 C8 Kk aja ajb; have OO := Ji.below Kk; refine hK.out _ _ (ff _ OO.kb) (fun hHeld => ?_); clear hK K; refine gN (a' := ?_) ?_ ?_; rotate_left
   ·show Act.put _ (some 62) _ = _; simp only [Act.put, List.setIfInBounds_toArray, List.set_cons_zero, List.set_cons_succ, aU, aV]; rfl
   exact gN (by simp only [wG, Act.put, List.setIfInBounds_toArray, List.set_cons_zero, List.set_cons_succ]) (hCont (v12, v13) _ ⟨hHeld, OO, Kd.dE (Kd.dE aaf.out h2) Kk, Kd.dE h1 Kk, Kd.fA C8 h2.size⟩)
  ·refine Kd.jS (Kd.int .i64) _ 3 ?hg (N := 62) ?hd (xs := [hi.1]) (inner := [.int .i64 hi.1]) (ok := fun _ => True) (okp := fun _ => False) ?hr ?hp (fun _ hk => hk.elim) trivial (Below.refl _ _) (Nat.le_refl _) (by simp) ?_; (case hd => rfl); (case hg => rfl); (case hr => first | (go_simp; done) | (go_simp; rfl)); (case hp => exact MQ hi.1); intro v13 w13 C8 Kk aja ajb; have OO := Ro.out.below Kk; refine hK.out _ _ (ff _ OO.kb) (fun hHeld => ?_); clear hK K; refine gN (a' := ?_) ?_ ?_; rotate_left
   ·show Act.put _ (some 62) _ = _; simp only [Act.put, List.setIfInBounds_toArray, List.set_cons_zero, List.set_cons_succ, aU, aV]; rfl
   refine jy (i := 8) (N := some 60) #[true, true, true, true, true, true, true, true, true, true, true, false, true, true, true, true, false, false, true, true, true, true, false, false, true, true, true, true, true, true, true, true, true, true, false, false, false, false] rfl rfl (fI HT_.out (by kernel_rfl)) (by decide) (fun K hK => ?_); refine ng Try.func38 (by kernel_rfl) rfl #[.slice (some ⟨xb, 0, none⟩) q xc] (by rfl) rfl rfl (by (try simp only [List.map_toArray, List.map_cons, List.map_nil]); first | done | rfl) ?_; refine (P7 _ OO.kb).mono ?_; rintro e w12 ⟨v12, rfl, h1, h2⟩; refine ⟨_, rfl, ?_⟩; have Ji := OO.below h2; refine hK.out _ _ (ff _ Ji.kb) (fun hHeld => ?_); clear hK K; refine gN (a' := ?_) ?_ ?_; rotate_left
   ·show Act.put _ (some 60) _ = _; simp only [Act.put, List.setIfInBounds_toArray, List.set_cons_zero, List.set_cons_succ, aU, aV]; rfl
   exact gN (by simp only [wG, Act.put, List.setIfInBounds_toArray, List.set_cons_zero, List.set_cons_succ]) (hCont (v12, v13) _ ⟨hHeld, Ji, Kd.dE (Kd.dE aaf.out Kk) h2, Kd.fA h1 Kk.size, Kd.dE C8 h2⟩)
 rintro ⟨v12, v13⟩ w14 ⟨hHeld, adQ, adR, Rp, OP⟩; refine gN (a' := ?_) ?_ ?_; rotate_left
 ·simp only [wG, Act.put, List.setIfInBounds_toArray, List.set_cons_zero, List.set_cons_succ]; rfl
 obtain ⟨A12, c12, e12⟩ := Kd.bQ Rp; obtain ⟨A13, c13, e13⟩ := Kd.bQ OP; have lq : fr.length = q := HE.out.2.2.2.2.2.1; rw [lq] at e12; dsimp only at e12 e13; subst e12; subst e13; clear lq; refine jy (i := 11) (N := some 63) #[true, true, true, true, true, true, true, true, true, true, true, true, true, true, true, true, false, false, true, true, true, true, false, false, true, true, true, true, true, true, true, true, true, true, false, false, false, false] rfl rfl (fI HT_.out (by kernel_rfl)) (by decide) (fun K hK => ?_); refine Kd.gV (Kd.int .i64) (Rr := fun x cs => cs = [.int .i64 x]) (w0 := w14) W11.heap.size ?hw (.tmp 60) (.tmp 62) 44 3 (.int .i64 0) 8 rfl Try.underlying44 info3 rfl (by decide) (by omega) (.slice A12 q c12) fr [hi.1] A13 1 c13 (fun _ => True) (fun _ => False) rfl rfl Rp (Kd.bY OP).2.2 (fun _ _ h => h) (fun _ h => h.elim) (fun _ _ => trivial) (Below.refl _ _) ?hbase ?hl ?_
 case hw => rfl
 case hbase => exact Nat.le_of_lt (Nat.lt_of_le_of_lt (Nat.le_refl _) (by have := Kd.oN OP; have := Kd.iN OP; obtain ⟨bb, cc, e, _, hbb, hbl⟩ := xe OP (by simp); have := hbl.tb.lt; omega))
 case hl => rw [HE.out.2.2.2.2.2.1]; have := HN3.out; omega
 intro v15 w15 adS ajc aag adT; obtain ⟨A15, c15, e15⟩ := Kd.bQ adS
 obtain ⟨L15, aah⟩ : ∃ L15, L15 = (fr ++ [hi.1]).length := ⟨_, rfl⟩
 rw [← aah] at e15; subst e15; have amj := af.mk aah; clear aah
 have ajd : nb ≤ W11.heap.size := by have := HNB.out; have := NU.out; omega
 have adU : w0.heap.size ≤ W11.heap.size := by have := HS0.out; have := NU.out; omega
 have adV := adQ.ou Rp ajd adU NU.out aag; have aje : Kd.R (Kd.int .i64) 3 w15 w5.heap.size (fun _ => True) (.slice (some ⟨eb, 0, none⟩) fl ec) (fd.set 0 e0.1) := Kd.QC adR rfl aag (fun k hk e => by have h1 := Kd.iN Rp k hk; have h2 : k = eb := (by simpa [Value.ownBlock] using e); have := adP.out; omega); refine hK.out _ _ (ff _ adV.kb) (fun hHeld => ?_); clear adQ adR Rp OP ajc aag adT; clear hK K; refine gN (a' := ?_) ?_ ?_; rotate_left
 ·show Act.put _ (some 63) _ = _; simp only [Act.put, List.setIfInBounds_toArray, List.set_cons_zero, List.set_cons_succ, aU, aV]; rfl
 refine jy (i := 16) (N := some 68) #[true, true, true, true, true, true, true, true, true, true, true, true, true, true, true, true, true, false, true, true, true, true, false, false, true, true, true, true, true, true, true, true, true, true, false, false, false, false] rfl rfl (fI HT_.out (by kernel_rfl)) (by decide) (fun K hK => ?_); refine ng Try.func43 (by kernel_rfl) rfl #[.pointer (some ⟨g, 0, none⟩), .int .i64 hi.1, .int .i64 so.1] (by rfl) rfl rfl (by (try simp only [List.map_toArray, List.map_cons, List.map_nil]); first | done | rfl) ?_; refine (P1 _ adV).mono ?_; rintro e w16 ⟨rfl, Rq, Rt⟩; refine ⟨_, rfl, ?_⟩; refine hK.out _ _ (ff _ Rq.kb) (fun hHeld => ?_); clear hK K; refine gN (a' := ?_) ?_ ?_; rotate_left
 ·show Act.put _ (some 68) _ = _; simp only [Act.put, List.setIfInBounds_toArray, List.set_cons_zero, List.set_cons_succ, aU, aV]; rfl
 refine jy (i := 17) (N := some 69) #[true, true, true, true, true, true, true, true, true, true, true, true, true, true, true, true, true, true, true, true, true, true, false, false, true, true, true, true, true, true, true, true, true, true, false, false, false, false] rfl rfl (fI HT_.out (by kernel_rfl)) (by decide) (fun K hK => ?_); refine ng Try.func65 (by kernel_rfl) rfl #[.pointer (some ⟨g, 0, none⟩), .int .i64 o1.1] (by rfl) rfl rfl (by (try simp only [List.map_toArray, List.map_cons, List.map_nil]); first | done | rfl) ?_; refine (P2 _ Rq).mono ?_; rintro e w17 ⟨rfl, Ru, Rv⟩; refine ⟨_, rfl, ?_⟩; refine hK.out _ _ (ff _ Ru.kb) (fun hHeld => ?_); clear hK K; refine gN (a' := ?_) ?_ ?_; rotate_left
 ·show Act.put _ (some 69) _ = _; simp only [Act.put, List.setIfInBounds_toArray, List.set_cons_zero, List.set_cons_succ, aU, aV]; rfl
 refine jy (i := 22) (N := some 74) #[true, true, true, true, true, true, true, true, true, true, true, true, true, true, true, true, true, true, true, true, true, true, true, false, true, true, true, true, true, true, true, true, true, true, false, false, false, false] rfl rfl (fI HT_.out (by kernel_rfl)) (by decide) (fun K hK => ?_); refine ng Try.func65 (by kernel_rfl) rfl #[.pointer (some ⟨g, 0, none⟩), .int .i64 so.1] (by rfl) rfl rfl (by (try simp only [List.map_toArray, List.map_cons, List.map_nil]); first | done | rfl) ?_; refine (P3 _ Ru).mono ?_; rintro e w18 ⟨rfl, Rw, Rx⟩; refine ⟨_, rfl, ?_⟩; refine hK.out _ _ (ff _ Rw.kb) (fun hHeld => ?_); clear hK K; refine gN (a' := ?_) ?_ ?_; rotate_left
 ·show Act.put _ (some 74) _ = _; simp only [Act.put, List.setIfInBounds_toArray, List.set_cons_zero, List.set_cons_succ, aU, aV]; rfl
 refine jy (i := 23) (N := some 75) #[true, true, true, true, true, true, true, true, true, true, true, true, true, true, true, true, true, true, true, true, true, true, true, true, true, true, true, true, true, true, true, true, true, true, false, false, false, false] rfl rfl (fI HT_.out (by kernel_rfl)) (by decide) (fun K hK => ?_); refine ng Try.func66 (by kernel_rfl) rfl #[.pointer (some ⟨g, 0, none⟩), .int .i64 fu.1, .int .i64 ns.1] (by rfl) rfl rfl (by (try simp only [List.map_toArray, List.map_cons, List.map_nil]); first | done | rfl) ?_; refine (P4 _ Rw).mono ?_; rintro e w19 ⟨rfl, Ry, Rz⟩; refine ⟨_, rfl, ?_⟩; refine hK.out _ _ (ff _ Ry.kb) (fun hHeld => ?_); clear hK K; refine gN (a' := ?_) ?_ ?_; rotate_left
 ·show Act.put _ (some 75) _ = _; simp only [Act.put, List.setIfInBounds_toArray, List.set_cons_zero, List.set_cons_succ, aU, aV]; rfl
 refine jy (i := 34) (N := some 86) #[true, true, true, true, true, true, true, true, true, true, true, true, true, true, true, true, true, true, true, true, true, true, true, true, true, true, true, true, true, true, true, true, true, true, true, false, false, false] rfl rfl (fI HT_.out (by kernel_rfl)) (by decide) (fun K hK => ?_); refine ng Try.func65 (by kernel_rfl) rfl #[.pointer (some ⟨g, 0, none⟩), .int .i64 xr] (by rfl) rfl rfl (by (try simp only [List.map_toArray, List.map_cons, List.map_nil]); first | done | rfl) ?_; refine (P5 _ Ry).mono ?_; rintro e w20 ⟨rfl, RA, RB⟩; refine ⟨_, rfl, ?_⟩; refine hK.out _ _ (ff _ RA.kb) (fun hHeld => ?_); clear hK K; refine gN (a' := ?_) ?_ ?_; rotate_left
 ·show Act.put _ (some 86) _ = _; simp only [Act.put, List.setIfInBounds_toArray, List.set_cons_zero, List.set_cons_succ, aU, aV]; rfl
 refine jy (i := 35) (N := some 87) #[true, true, true, true, true, true, true, true, true, true, true, true, true, true, true, true, true, true, true, true, true, true, true, true, true, true, true, true, true, true, true, true, true, true, true, true, false, false] rfl rfl (fI HT_.out (by kernel_rfl)) (by decide) (fun K hK => ?_); refine ng Try.func66 (by kernel_rfl) rfl #[.pointer (some ⟨g, 0, none⟩), .int .i64 no.1, .int .i64 nt.1] (by rfl) rfl rfl (by (try simp only [List.map_toArray, List.map_cons, List.map_nil]); first | done | rfl) ?_; refine (P6 _ RA).mono ?_; rintro e w21 ⟨rfl, Bc, RD⟩; refine ⟨_, rfl, ?_⟩; refine hK.out _ _ (ff _ Bc.kb) (fun hHeld => ?_); clear hK K; refine gN (a' := ?_) ?_ ?_; rotate_left
 ·show Act.put _ (some 87) _ = _; simp only [Act.put, List.setIfInBounds_toArray, List.set_cons_zero, List.set_cons_succ, aU, aV]; rfl
 refine bT (i := 36) (N := some 88) (v := ?_) (a' := ?_) #[true, true, true, true, true, true, true, true, true, true, true, true, true, true, true, true, true, true, true, true, true, true, true, true, true, true, true, true, true, true, true, true, true, true, true, true, true, false] rfl rfl (bB HT_.out (by kernel_rfl)) (fun _ _ _ h => h) (Or.inl ⟨by rfl, ?_⟩) ?_ ?_; rotate_left
 ·intro w'; go_simp; with_reducible rfl
 rotate_left
 ·simp only [Act.put, List.setIfInBounds_toArray, List.set_cons_zero, List.set_cons_succ, aU, aV]; rfl
 have pQ := KB.cells Bc.kb HB2.out (by decide); have z0 : w21.cell? ⟨w.heap.size + 1, 0, none⟩ = some (.int .i64 0) := (ak pQ 0).trans rfl; have z1 : w21.cell? ⟨w.heap.size + 1, 1, none⟩ = some (.slice none 0 0) := (ak pQ 1).trans rfl; have z2 : w21.cell? ⟨w.heap.size + 1, 2, none⟩ = some (.slice none 0 0) := (ak pQ 2).trans rfl; have z3 : w21.cell? ⟨w.heap.size + 1, 3, none⟩ = some (.int .i64 0) := (ak pQ 3).trans rfl; have z4 : w21.cell? ⟨w.heap.size + 1, 4, none⟩ = some (.int .i64 0) := (ak pQ 4).trans rfl; have z5 : w21.cell? ⟨w.heap.size + 1, 5, none⟩ = some (.int .i64 0) := (ak pQ 5).trans rfl; have z6 : w21.cell? ⟨w.heap.size + 1, 6, none⟩ = some (.int .i64 0) := (ak pQ 6).trans rfl; have y0 := au pQ 0; have y1 := au pQ 1; have y2 := au pQ 2; have y3 := au pQ 3; have y4 := au pQ 4; have y5 := au pQ 5; have y6 := au pQ 6; refine qg (i := 37) (N := none) #[true, true, true, true, true, true, true, true, true, true, true, true, true, true, true, true, true, true, true, true, true, true, true, true, true, true, true, true, true, true, true, true, true, true, true, true, true, true] rfl rfl (fI HT_.out (by kernel_rfl)) (by decide) (fun K hK => ?_); refine yN (w1 := ?_) (by rfl) rfl ?_ ?_; rotate_left
 ·go_simp; rfl
 refine hK.out _ _ ?_; clear hK K; refine mY (jA HT_.out (by kernel_rfl)) ?_; obtain ⟨g1, g2, g3⟩ := ajf pQ (.int .i64 xm) (.slice (some ⟨eb, 0, none⟩) fl ec) (.slice A15 L15 c15) (.int .i64 ze.1) (.int .i64 nf.1) (.int .i64 no.1) (.int .i64 sg.1); have g3' := g3 _ (Nat.le_refl _); generalize ajg : (((((((w21.setCell ⟨w.heap.size + 1, 0, none⟩ (.int .i64 xm)).setCell ⟨w.heap.size + 1, 1, none⟩ (.slice (some ⟨eb, 0, none⟩) fl ec)).setCell ⟨w.heap.size + 1, 2, none⟩ (.slice A15 L15 c15)).setCell ⟨w.heap.size + 1, 3, none⟩ (.int .i64 ze.1)).setCell ⟨w.heap.size + 1, 4, none⟩ (.int .i64 nf.1)).setCell ⟨w.heap.size + 1, 5, none⟩ (.int .i64 no.1)).setCell ⟨w.heap.size + 1, 6, none⟩ (.int .i64 sg.1)) = W22 at g1 g2 g3 g3' ⊢; have VI := uH (W1 := W22) (lF (lF (lF (lF (lF (lF aje Rt) Rv) Rx) Rz) RB) RD) (fun k _ ht => g2 k (fun e => absurd ((show TB w21 84 k from ⟨_, e ▸ pQ⟩).uniq ht) (by decide))); have VJ := uH (W1 := W22) (lF (lF (lF (lF (lF (lF adS Rt) Rv) Rx) Rz) RB) RD) (fun k _ ht => g2 k (fun e => absurd ((show TB w21 84 k from ⟨_, e ▸ pQ⟩).uniq ht) (by decide)))
 have VK : BS w0 W22 nb g sg.2 := Bc.bs.step g3'.size (fun k hk hB => g2 k (fun e => by
  have t84 : TB w21 84 k := ⟨_, e ▸ pQ⟩
  exact absurd hB (sM t84 (by decide) (fun e => absurd e (by decide)))))
 have VL : KB w W22 g := by
  have := HKw.out.trans Bc.kb; exact ⟨Nat.le_trans this.1 g3'.size, fun k hk hs => (g2 k (by omega)).trans (this.2 k hk hs)⟩
 have VM : Below w0.heap.size w0 W22 := Bc.bl.trans ((g3 w0.heap.size (by have := HS0.out; omega))); have HF := af.mk (And.intro (And.intro VI VJ) (And.intro VK (And.intro VL VM))); have c0 : W22.cell? ⟨w.heap.size + 1, 0, none⟩ = some (.int .i64 xm) := (ak g1 0).trans rfl; have c1 : W22.cell? ⟨w.heap.size + 1, 1, none⟩ = some (.slice (some ⟨eb, 0, none⟩) fl ec) := (ak g1 1).trans rfl; have c2 : W22.cell? ⟨w.heap.size + 1, 2, none⟩ = some (.slice A15 L15 c15) := (ak g1 2).trans rfl; have c3 : W22.cell? ⟨w.heap.size + 1, 3, none⟩ = some (.int .i64 ze.1) := (ak g1 3).trans rfl; have c4 : W22.cell? ⟨w.heap.size + 1, 4, none⟩ = some (.int .i64 nf.1) := (ak g1 4).trans rfl; have c5 : W22.cell? ⟨w.heap.size + 1, 5, none⟩ = some (.int .i64 no.1) := (ak g1 5).trans rfl; have c6 : W22.cell? ⟨w.heap.size + 1, 6, none⟩ = some (.int .i64 sg.1) := (ak g1 6).trans rfl; clear VI VJ VK VL VM g1 g2 g3 g3' ajg pQ z0 z1 z2 z3 z4 z5 z6 y0 y1 y2 y3 y4 y5 y6; go_wp2; refine bodyPost_ret (v := .agg #[.int .i64 xm, .slice (some ⟨eb, 0, none⟩) fl ec, .slice A15 L15 c15, .int .i64 ze.1, .int .i64 nf.1, .int .i64 no.1, .int .i64 sg.1]) ?_ rfl ?_
 ·simp [results, Try.f34, go_sem, c0, c1, c2, c3, c4, c5, c6, acy]
 have hof : ofF p n xs s = ⟨xm, fd.set 0 e0.1, fr ++ [hi.1], ze.1, nf.1, no.1, sg.1, sg.2⟩ := by
  obtain ⟨a1, a2, a3, a4, a5, a6, a7⟩ := HE.out; obtain ⟨b1, b2⟩ := HE2.out; obtain ⟨d1, d2, d3, d4, d5, d6⟩ := HE3.out; obtain ⟨f1, f2⟩ := Hxm.out; have h1 := Hq.out; have h2 := Hf.out
  have hxr : fr.getD r 0 = xr := by
   rw [f2, a1]; simp [List.getD_eq_getElem?_getD, List.getElem?_take, rlt]
  unfold ofF; rw [show p - 1 = q by omega, show n - p = fl by omega, show n - 1 = m by omega, show p - 2 = r by omega, ← a1, ← a2]; simp only []; rw [← a3, ← a4, ← a5, ← Hx0.out, ← b1, ← b2, ← Hno.out, ← d1, ← d2, ← d3, ← d4, hxr, ← d5, ← d6, ← f1]
 rw [hof]; obtain ⟨⟨VI, VJ⟩, VK, VL, VM⟩ := HF.out; exact ⟨_, _, rfl, Kd.fA VI (by have := HKw.out.1; have := HS6.out; omega), Kd.fA VJ (by have := HKw.out.1; have := NU.out; omega), VK, VM, VL⟩
end Go.Proofs.Ytkgeihbcikiedaa.P
