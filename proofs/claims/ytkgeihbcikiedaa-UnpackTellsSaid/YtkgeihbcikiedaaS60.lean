/- The contract of build's Fold, for all kinds and all lists with fewer than a million nodes. -/
import Derived.Test.YtkgeihbcikiedaaS59
import Derived.Laws.EntriesVeiled
import Derived.Test.YtkgeihbcikiedaaPx0
set_option linter.unusedVariables false
set_option linter.unusedSimpArgs false
set_option linter.constructorNameAsVariable false
set_option linter.unusedSectionVars false
namespace Go.Proofs.Ytkgeihbcikiedaa.P
open Go.RowKit Go.Shelf Go.Proofs.YtkgeihbcikiedaaW.PrintWords Go.Proofs.YtkgeihbcikiedaaW.PrintLast Go.Proofs.YtkgeihbcikiedaaW.PrintMore
attribute [local go_sem] eU eX fU fV dX dY eZ fo
attribute [local go_sem] Oper.semAt_some
theorem Ib (n : Nat) (hn : 1 ≤ n) (S : Nat → Prop) (Bs Bn b off len cap : Nat) (hS1 : S Bs) (hS2 : S Bn) (hcap : len ≤ cap) (hreach : len ≤ 1000000) (w : World)
 (hBs : w.heap[Bs]? = some (.cells #[.slice (some ⟨b, off, none⟩) len cap] 44 (0, 0))) (hBn : w.heap[Bn]? = some (.cells #[.int .i64 2] 3 (0, 0))) :
 SeqStopsK Fence.wide n Try.prog 96 #[.pointer (some ⟨Bs, 0, none⟩), .pointer (some ⟨Bn, 0, none⟩)] (fun x : Fin ((len + 1) / 2) => #[oo b off len x.1]) (KC S)
  (fun ys => ys = List.finRange ((len + 1) / 2)) (fun pre => pre <+: List.finRange ((len + 1) / 2)) ((len + 1) / 2) w := fun l J Jx W hW hJ _ hY h0 =>
 NY n hn S l Bs Bn b off len cap hS1 hS2 hcap hreach J Jx W hJ hY ((hW.block _ (gU hBs)).trans hBs) ((hW.block _ (gU hBn)).trans hBn) h0
def aaG : List Nat := [0, 0, 2, 6, 0, 16, 48, 127, 255, 511]
noncomputable def RS : Bool × List (List Nat × List Nat) := iZ .any (opsOf Try.f64 14)
theorem RU : iZ .any (opsOf Try.f64 14) = RS := rfl
theorem OQ : ji RS.2 aaG = true := by kernel_rfl
def aaH : List Nat := [0, 0, 2, 6, 14, 31, 63]
noncomputable def RV : Bool × List (List Nat × List Nat) := iZ .any (opsOf Try.f64 15)
theorem Ic : iZ .any (opsOf Try.f64 15) = RV := rfl
theorem Cv : ji RV.2 aaH = true := by kernel_rfl
set_option maxRecDepth 100000 in
set_option maxHeartbeats 8000000 in
theorem OT (nb g : Nat) (s : BSt) (kind : Int) (A : Option Addr) (c : Nat) (l : List Int) (w0 w : World) (hI : BS w0 w nb g s) (hB : Below w0.heap.size w0 w) (hr : Kd.C (Kd.int .i64) w A l.length l) (hc : l.length ≤ c) (hp : 0 < l.length) (hl : s.nodes.length + 2 * l.length < 1000000) :
 Calls Try.prog 64 #[.pointer (some ⟨g, 0, none⟩), .int .i64 kind, .slice A l.length c] w fun e w' => e = .returned (.int .i64 (ig kind l s).1) ∧ BS w0 w' nb g (ig kind l s).2 ∧ Below w0.heap.size w0 w' ∧ KB w w' g := by
 have HI := af.mk hI; have HB := af.mk hB; have HR := af.mk hr; have HC := af.mk hc; have HS0 := af.mk hB.size; have HL := af.mk hl; have HF := af.mk (show eQ.f l = some l by unfold eQ.f; rw [if_pos (by omega)]); have hb0 : ((l.length : Int) == 0) = false := beq_eq_false_iff_ne.mpr (by omega); have hb1 : (l.length == 0) = false := beq_eq_false_iff_ne.mpr (by omega); clear hI hB hr hc hl; refine (callsIn_wide (n := 8)).1 ?_; refine callsIn_of_wp_marks Try.func64 rfl trivial ?_ rfl; simp only [Try.ntmps64, List.size_toArray, List.length_cons, List.length_nil, Nat.reduceAdd, Nat.reduceSub, Array.replicate_succ, Array.replicate_zero, List.push_toArray, List.append_toArray, List.nil_append, List.cons_append]
 gi_wp2_with (first | (refine ⟨trivial, ?_⟩; gi_at_call 84; refine (callsIn_wide.2 (Jj _ _ _)).mono ?_; rintro e w1 ⟨rfl, hb⟩; have HI1 := af.mk (HI.out.below hb); have HB1 := af.mk (aA HB.out hb); have HK1 := af.mk (KB.of_below hb g); have HR1 := af.mk (Kd.bR HR.out hb); have amu := af.mk hb; have HX1 := af.mk hb.size; clear hb HI HB HR; obtain ⟨hc1, hf1⟩ := TR w1 .nilFunc 103) | (refine ⟨trivial, ?_⟩; gi_at_call 38; refine (callsIn_wide.2 (eQ.calls A c l l _ (Kd.bR HR1.out (ai (Below.refl _ _) _)) HC.out HF.out)).mono ?_; rintro e w2 ⟨v2, rfl, ho, hb⟩; have HO := af.mk ho; have ajG := af.mk hb; clear ho hb))
 have hW2 := ajG.out
 have hbox := (Boxed.new w1 103 (.func (.func (lL kind)) #[.pointer (some ⟨g, 0, none⟩)] #[]))
 have HI2 : af (BS w0 w2 nb g s) := ⟨(HI1.out.alloc _).below hW2⟩
 have HB2 : af (Below w0.heap.size w0 w2) := ⟨aA (ai HB1.out _) hW2⟩
 have HK2 : af (KB w w2 g) := ⟨(HK1.out.alloc _).trans (.of_below hW2 g)⟩
 have HX2 : af (Boxed w2 w1.heap.size 103 (.func (.func (lL kind)) #[.pointer (some ⟨g, 0, none⟩)] #[])) := ⟨(hW2.block _ hbox.lt).trans hbox⟩
 obtain ⟨bb2, cc2, hv2, ajH, amv, PZ⟩ := xe HO.out hp; subst hv2; have aen := af.mk PZ; clear hW2 hbox PZ HI1 HB1 HK1 HR1 HO
 refine wpIn_loop (fun a' W => ∃ u10 u11 u25 u26 u27 u28 u29 u30 u31 u32 u33 u34 u35 u36 u37 u38 u39 u40 u41 u42 u43 u44 u45 u46 u47 u48 u49 u50 u51 u52 : Value, ∃ (L : List Int) (bb cc : Nat) (s' : BSt) (ds : List Deferred), a' = ({ tmps := #[(.pointer (some ⟨g, 0, none⟩) : Value), .int .i64 kind, .slice A l.length c, undef, undef, undef, .int .i64 0, undef, .pointer (some ⟨w1.heap.size, 0, none⟩), .slice (some ⟨bb, 0, none⟩) L.length cc, u10, u11, .slice A l.length c, .int .i64 l.length, .bool false, undef, undef, undef, undef, undef, .pointer (some ⟨g, 0, none⟩), .int .i64 kind, .func (.func (lL kind)) #[.pointer (some ⟨g, 0, none⟩)] #[], .slice A l.length c, (.slice (some ⟨bb2, 0, none⟩) l.length cc2), u25, u26, u27, u28, u29, u30, u31, u32, u33, u34, u35, u36, u37, u38, u39, u40, u41, u42, u43, u44, u45, u46, u47, u48, u49, u50, u51, u52], defers := ds } : Act) ∧
  0 < L.length ∧ L.length ≤ cc ∧ af (s'.nodes.length + 2 * L.length < 1000000) ∧ af (ig kind L s' = ig kind l s) ∧ af (IL W bb L) ∧ af (BS w0 W nb g s') ∧ af (Below w0.heap.size w0 W) ∧ af (KB w W g) ∧ af (Boxed W w1.heap.size 103 (.func (.func (lL kind)) #[.pointer (some ⟨g, 0, none⟩)] #[])) ∧ af (Mk w.heap.size W ds))
  (fun a' _ => sliceLen (a'.tmps.getD 9 undef)) ?start ?round
 case start =>
  exact ⟨_, _, _, _, _, _, _, _, _, _, _, _, _, _, _, _, _, _, _, _, _, _, _, _, _, _, _, _, _, _, l, bb2, cc2, s, [], rfl, hp, ajH, HL, ⟨rfl⟩, aen, HI2, HB2, HK2, HX2, ⟨[], rfl, List.nodup_nil, by simp⟩⟩
 case round =>
  rintro _ W ⟨u10, u11, u25, u26, u27, u28, u29, u30, u31, u32, u33, u34, u35, u36, u37, u38, u39, u40, u41, u42, u43, u44, u45, u46, u47, u48, u49, u50, u51, u52, L, bb, cc, s', ds, rfl, hLp, hLc, HN, HFo, HIL, HI, HB, HK, HX, HM⟩; clear aen HI2 HB2 HK2 HX2 HL; have hcell0 := HIL.out.cell hLp
  by_cases hL1 : L.length = 1
  ·have hb2 : ((L.length : Int) == 1) = true := beq_iff_eq.mpr (by omega)
   gi_wp2
   refine HM.out.leaves (fun W' ht => ⟨_, results_tmp rfl _ _ _, ?_, HI.out.turn ht |> fun h => by rw [← HFo.out, ig, dif_neg (by omega)]; exact h, Below.turn HB.out ht HS0.out, HK.out.turn ht (Nat.le_refl _)⟩); rw [← HFo.out, ig, dif_neg (by omega)]; simp [List.getElem?_eq_getElem hLp]
  ·have hb2 : ((L.length : Int) == 1) = false := beq_eq_false_iff_ne.mpr (by omega)
   gi_wp2_with (refine ⟨trivial, ?_⟩; gi_at_call 85; refine (callsIn_wide.2 (FZ _ _ _ _)).mono ?_; rintro e w3 ⟨rfl, rfl⟩)
   obtain ⟨W3, hW3⟩ : ∃ W3, ((W.alloc (.cells #[.slice none 0 0] 44)).alloc (.cells #[.slice (some ⟨bb, 0, none⟩) L.length cc] 44)).alloc (.cells #[.int .i64 2] 3) = W3 := ⟨_, rfl⟩
   have b10 := (((Boxed.new W 44 (.slice none 0 0)).alloc (.cells #[.slice (some ⟨bb, 0, none⟩) L.length cc] 44)).alloc (.cells #[.int .i64 2] 3))
   have bs1 := (Boxed.new (W.alloc (.cells #[.slice none 0 0] 44)) 44 (.slice (some ⟨bb, 0, none⟩) L.length cc)).alloc (.cells #[.int .i64 2] 3); have bn1 := Boxed.new ((W.alloc (.cells #[.slice none 0 0] 44)).alloc (.cells #[.slice (some ⟨bb, 0, none⟩) L.length cc] 44)) 3 (.int .i64 2); have bl3 : Below W.heap.size W (((W.alloc (.cells #[.slice none 0 0] 44)).alloc (.cells #[.slice (some ⟨bb, 0, none⟩) L.length cc] 44)).alloc (.cells #[.int .i64 2] 3)) := ai (ai (ai (Below.refl _ _) _) _) _
   have hs3 : (((W.alloc (.cells #[.slice none 0 0] 44)).alloc (.cells #[.slice (some ⟨bb, 0, none⟩) L.length cc] 44)).alloc (.cells #[.int .i64 2] 3)).heap.size = W.heap.size + 3 := by simp
   have hI3 := ((HI.out.alloc (.cells #[.slice none 0 0] 44)).alloc (.cells #[.slice (some ⟨bb, 0, none⟩) L.length cc] 44)).alloc (.cells #[.int .i64 2] 3); simp only [World.size_alloc] at bs1 bn1; rw [hW3] at b10 bs1 bn1 bl3 hs3 hI3 ⊢; clear hW3; have hw0 : w0.heap.size ≤ W.heap.size := HB.out.size; have hww : w.heap.size ≤ W.heap.size := HK.out.1; have HS3 := af.mk hs3
   have S1 : af (∀ k, (k = W.heap.size + 1 ∨ k = W.heap.size + 1 + 1) → k ≠ W.heap.size ∧ W.heap.size < k ∧ k < W3.heap.size) := ⟨fun k hk => by omega⟩
   refine wpIn_rangeFunc_ownG rfl (by omega) (gf := 96) (lb := #[.pointer (some ⟨W.heap.size + 1, 0, none⟩), .pointer (some ⟨W.heap.size + 1 + 1, 0, none⟩)]) rfl trivial (fun args w => nO Try.func96 (by kernel_rfl) rfl args w)
    (Ib 7 (by omega) (fun k => k = W.heap.size + 1 ∨ k = W.heap.size + 1 + 1) (W.heap.size + 1) (W.heap.size + 1 + 1) bb 0 L.length cc (.inl rfl) (.inr rfl) hLc (by have := HN.out; omega) W3 bs1 bn1) KC.trans (fun Wx l o o' _ hl ho _ => KC.put Wx l o o' hl ho) (Below.refl _ _) (fun _ => rfl)
    (fun pre Wc => (∃ v, Boxed Wc W.heap.size 44 v ∧ Kd.R (Kd.int .i64) 3 Wc W3.heap.size (fun _ => True) v (qO kind L s' pre).1) ∧ BS w0 Wc nb g (qO kind L s' pre).2 ∧ Below w0.heap.size w0 Wc ∧ KB W Wc g ∧ W3.heap.size ≤ Wc.heap.size ∧ (∀ k, (k = W.heap.size + 1 ∨ k = W.heap.size + 1 + 1) → Wc.heap[k]? = W3.heap[k]?))
    (fun _ _ _ => False) ?own (fun _ _ _ _ _ hs _ _ => hs) ?h0 ?a1 ?assign ?body ?done ?stop
   case own =>
    rintro pre X Y row ⟨⟨v, h1, h2⟩, h3, h4, h5, h6, h7⟩ hg hr; have ht := Qa hg hr h6; refine ⟨⟨v, Boxed.turn h1 ht, TS h2 ht⟩, h3.turn ht, Below.turn h4 ht (by omega), h5.turn ht (by omega), Nat.le_trans h6 ht.1.size, fun k hk => ?_⟩; have := S1.out k hk; exact (ht.1.block k (by omega)).trans (h7 k hk)
   case h0 => exact ⟨⟨_, b10, Kd.qd _ _ _ _ _⟩, hI3, aA HB.out bl3, .of_below bl3 g, Nat.le_refl _, fun _ _ => rfl⟩
   case assign =>
    intro lr x Wc K hK
    gi_wp2
    exact hK
   case body =>
    rintro lr pre x Wc ⟨⟨v, hbx, hR⟩, hI, hB, hK, hS, hS2⟩ hlen; obtain ⟨xk, hxk⟩ := x
    have hxl : 2 * xk < L.length := by omega
    have hIL := IL.KB HIL.out hK; have hX8 := Boxed.KB HX.out hK (by decide); have hnl := (qP kind L s' pre).2.2; have hsn := NZ kind L s' pre ⟨xk, hxk⟩
    obtain ⟨nx, hnx⟩ : ∃ nx, nx = (qO kind L s' pre).1 := ⟨_, rfl⟩
    obtain ⟨sx, hsx⟩ : ∃ sx, sx = (qO kind L s' pre).2 := ⟨_, rfl⟩
    have hnx2 : nx.length = pre.length := by rw [hnx]; exact (qP kind L s' pre).1
    rw [← hsx] at hnl hI; rw [← hnx] at hR
    have hsn' : qO kind L s' (pre ++ [⟨xk, hxk⟩]) = jo kind L (nx, sx) xk := by rw [hsn, hnx, hsx]
    have HSN := af.mk hsn'; have HNL := af.mk hnl; have HNX := af.mk hnx2; have HHL := af.mk hlen; have HR := af.mk hR; have HIc := af.mk hI; have HBc := af.mk hB; have HKc := af.mk hK; have HSc := af.mk hS; have HS2 := af.mk hS2; have HIL' := af.mk hIL; clear hsn hsn' hnx hsx hnl hnx2 hlen hR hI hB hK hS hS2; have c8 := Boxed.cell hX8; have c10 := Boxed.cell hbx; have f10 := Boxed.frozen hbx; obtain ⟨vA, vc, rfl⟩ := Kd.bQ HR.out
    by_cases h2 : 2 * xk + 1 < L.length
    ·have hcv : oo bb 0 L.length xk = .slice (some ⟨bb, 2 * xk, none⟩) 2 2 := by
      unfold oo; rw [show min 2 (L.length - 2 * xk) = 2 by omega, Nat.zero_add]
     have ca := HIL'.out.cell hxl; have cb := HIL'.out.cell h2
     obtain ⟨x0, hx0⟩ : ∃ x0, x0 = L.getD (2 * xk) 0 := ⟨_, rfl⟩
     obtain ⟨x1, hx1⟩ : ∃ x1, x1 = L.getD (2 * xk + 1) 0 := ⟨_, rfl⟩
     rw [← hx0] at ca; rw [← hx1] at cb
     have hst : jo kind L (nx, sx) xk = (nx ++ [(gQ sx ⟨gk kind, x0, x1, 0⟩).1], (gQ sx ⟨gk kind, x0, x1, 0⟩).2) := by
      unfold jo; rw [if_pos h2, hx0, hx1]
     rw [hst] at HSN; clear hst hx0 hx1
     obtain ⟨j, hj⟩ : ∃ j, j = 2 * xk := ⟨_, rfl⟩
     rw [← hj] at hcv ca cb; dsimp only; rw [hcv]; clear hcv hj h2 hxl
     gi_wp2
     refine zh (m := 10) (S := fun w' => w'.cell? ⟨w1.heap.size, 0, none⟩ = some (.func (.func (lL kind)) #[.pointer (some ⟨g, 0, none⟩)] #[]) ∧ w'.cell? ⟨bb, j, none⟩ = some (.int .i64 x0) ∧ w'.cell? ⟨bb, j + 1, none⟩ = some (.int .i64 x1)) (ds := [7, 8, 9]) #[false, false, false, false, false, false, false, false, false, false] (by kernel_rfl) ?_ (by kernel_rfl) rfl rfl ⟨c8, ca, cb⟩ (fun hHeld => ?_)
     ·rintro ⟨a, w, h⟩; exact h.elim
     refine gW RU OQ (fun HT_ HW_ => ?_); refine iq (i := 0) (N := some 37) (v := ?_) (a' := ?_) #[true, false, false, false, false, false, false, false, false, false] rfl rfl (eB HT_.out HW_.out (by kernel_rfl)) (fun _ _ _ h => h) (Or.inl ⟨by rfl, ?_⟩) hHeld ?_ ?_; rotate_left
     ·rintro w' ⟨s0, s1, s2⟩; go_simp; with_reducible rfl
     rotate_left
     ·simp only [Act.put, List.setIfInBounds_toArray, List.set_cons_zero, List.set_cons_succ, aU, aV]; rfl
     refine bT (i := 1) (N := some 38) (v := ?_) (a' := ?_) #[true, true, false, false, false, false, false, false, false, false] rfl rfl (bB HT_.out (by kernel_rfl)) (fun _ _ _ h => h) (Or.inl ⟨by rfl, ?_⟩) ?_ ?_; rotate_left
     ·intro w'; go_simp; with_reducible rfl
     rotate_left
     ·simp only [Act.put, List.setIfInBounds_toArray, List.set_cons_zero, List.set_cons_succ, aU, aV]; rfl
     refine bT (i := 2) (N := some 39) (v := ?_) (a' := ?_) #[true, true, true, false, false, false, false, false, false, false] rfl rfl (bB HT_.out (by kernel_rfl)) (fun _ _ _ h => h) (Or.inl ⟨by rfl, ?_⟩) ?_ ?_; rotate_left
     ·intro w'; go_simp; with_reducible rfl
     rotate_left
     ·simp only [Act.put, List.setIfInBounds_toArray, List.set_cons_zero, List.set_cons_succ, aU, aV]; rfl
     refine iq (i := 3) (N := some 40) (v := ?_) (a' := ?_) #[true, true, true, true, false, false, false, false, false, false] rfl rfl (eB HT_.out HW_.out (by kernel_rfl)) (fun _ _ _ h => h) (Or.inl ⟨by rfl, ?_⟩) hHeld ?_ ?_; rotate_left
     ·rintro w' ⟨s0, s1, s2⟩; go_simp; with_reducible rfl
     rotate_left
     ·simp only [Act.put, List.setIfInBounds_toArray, List.set_cons_zero, List.set_cons_succ, aU, aV]; rfl
     refine bT (i := 4) (N := some 41) (v := ?_) (a' := ?_) #[true, true, true, true, true, false, false, false, false, false] rfl rfl (bB HT_.out (by kernel_rfl)) (fun _ _ _ h => h) (Or.inl ⟨by rfl, ?_⟩) ?_ ?_; rotate_left
     ·intro w'; go_simp; with_reducible rfl
     rotate_left
     ·simp only [Act.put, List.setIfInBounds_toArray, List.set_cons_zero, List.set_cons_succ, aU, aV]; rfl
     refine bT (i := 5) (N := some 42) (v := ?_) (a' := ?_) #[true, true, true, true, true, true, false, false, false, false] rfl rfl (bB HT_.out (by kernel_rfl)) (fun _ _ _ h => h) (Or.inl ⟨by rfl, ?_⟩) ?_ ?_; rotate_left
     ·intro w'; go_simp; with_reducible rfl
     rotate_left
     ·simp only [Act.put, List.setIfInBounds_toArray, List.set_cons_zero, List.set_cons_succ, aU, aV]; rfl
     refine iq (i := 6) (N := some 43) (v := ?_) (a' := ?_) #[true, true, true, true, true, true, true, false, false, false] rfl rfl (eB HT_.out HW_.out (by kernel_rfl)) (fun _ _ _ h => h) (Or.inl ⟨by rfl, ?_⟩) hHeld ?_ ?_; rotate_left
     ·rintro w' ⟨s0, s1, s2⟩; go_simp; with_reducible rfl
     rotate_left
     ·simp only [Act.put, List.setIfInBounds_toArray, List.set_cons_zero, List.set_cons_succ, aU, aV]; rfl
     refine qg (i := 7) (N := some 44) #[true, true, true, true, true, true, true, true, false, false] rfl rfl (fI HT_.out (by kernel_rfl)) (by decide) (fun K hK => ?_); refine call_ (lL kind) #[.pointer (some ⟨g, 0, none⟩), .int .i64 x0, .int .i64 x1] (by rfl) rfl ?_ ?_
     ·have he := F6 kind #[.pointer (some ⟨g, 0, none⟩), .int .i64 x0, .int .i64 x1] Wc.drew; unfold execOp; simp [resolve, Deferred.ofValue, invoke, Act.eval, he]
     refine (P8 kind nb g sx x0 x1 _ _ w0 Wc.drew HIc.out.drew (aj HBc.out) (oI _ (by have := HNL.out; have := HHL.out; have := HN.out; omega))).mono ?_; rintro e w4 ⟨rfl, hI4, hB4, hK4⟩; refine ⟨_, rfl, ?_⟩
     have HK4 : af (KB Wc w4 g) := ⟨(KB.refl Wc g).drew.trans hK4⟩
     have HI4 := af.mk hI4; have HB4 := af.mk hB4; clear hI4 hB4 hK4; refine hK.out _ _ ?_; clear hK K; refine gN (a' := ?_) ?_ ?_; rotate_left
     ·show Act.put _ (some 44) _ = _; simp only [Act.put, List.setIfInBounds_toArray, List.set_cons_zero, List.set_cons_succ, aU, aV]; rfl
     obtain ⟨xx, hxx⟩ : ∃ xx : Int, xx = (sx.nodes.length : Int) := ⟨_, rfl⟩
     have hl1 : (gQ sx ⟨gk kind, x0, x1, 0⟩).1 = xx := hxx.symm
     obtain ⟨sy, hsy⟩ : ∃ sy : BSt, sy = (gQ sx ⟨gk kind, x0, x1, 0⟩).2 := ⟨_, rfl⟩
     rw [hl1, ← hsy] at HSN; rw [← hxx]; change af (BS w0 w4 nb g (gQ sx ⟨gk kind, x0, x1, 0⟩).2) at HI4; rw [← hsy] at HI4; clear hxx hsy hl1; refine qg (i := 8) (N := some 45) #[true, true, true, true, true, true, true, true, true, false] rfl rfl (fI HT_.out (by kernel_rfl)) (by decide) (fun K hK => ?_)
     refine Kd.jS (Kd.int .i64) _ 3 ?hg (N := 45) ?hd (xs := [xx]) (inner := [.int .i64 xx]) (ok := fun _ => True) (okp := fun _ => False) ?hr ?hp (fun _ hk => hk.elim) trivial (Below.refl _ _) (Nat.le_refl _) (by simp) ?_; (case hd => rfl); (case hg => rfl); (case hr => first | (go_simp; done) | (go_simp; rfl)); (case hp => exact ⟨rfl, fun j p hj => by
      rcases j with _ | j
      ·simp only [List.getElem?_cons_zero, Option.some.injEq] at hj; subst hj; rfl
      ·simp at hj⟩)
     intro v5 w5 ho5 hb5 hg5 hn5; obtain ⟨pb, pc, rfl, hpc, hpb, aeo⟩ := xe ho5 (by simp); have pcell := aeo.cell (j := 0) (by simp); rw [List.getD_cons_zero] at pcell; refine hK.out _ _ ?_; clear hK K; refine gN (a' := ?_) ?_ ?_; rotate_left
     ·show Act.put _ (some 45) _ = _; simp only [Act.put, List.setIfInBounds_toArray, List.set_cons_zero, List.set_cons_succ, aU, aV]; rfl
     refine bT (i := 9) (N := some 11) (v := ?_) (a' := ?_) #[true, true, true, true, true, true, true, true, true, true] rfl rfl (bB HT_.out (by kernel_rfl)) (fun _ _ _ h => h) (Or.inl ⟨by rfl, ?_⟩) ?_ ?_; rotate_left
     ·intro w'; go_simp; with_reducible rfl
     rotate_left
     ·simp only [Act.put, List.setIfInBounds_toArray, List.set_cons_zero, List.set_cons_succ, aU, aV]; rfl
     refine mY (jA HT_.out (by kernel_rfl)) ?_; have pI : BS w0 w5 nb g sy := HI4.out.below hb5; have pB : Below w0.heap.size w0 w5 := aA HB4.out hb5; have pK : KB Wc w5 g := HK4.out.trans (.of_below hb5 g); clear HI4 HB4 HK4 hb5 hg5 ho5 aeo hn5; have pbx := Boxed.KB hbx pK (by decide); have pR := lF HR.out pK; have q10 := Boxed.cell pbx; have ajI := Boxed.frozen pbx; have pS := Boxed.KB (show Boxed Wc (W.heap.size + 1) 44 _ from (HS2.out _ (.inl rfl)).trans bs1) pK (by decide); have pN := Boxed.KB (show Boxed Wc (W.heap.size + 1 + 1) 3 _ from (HS2.out _ (.inr rfl)).trans bn1) pK (by decide); have PI := af.mk pI; have PB := af.mk pB; have PK := af.mk pK; have PR := af.mk pR; have PS := af.mk pS; have PN := af.mk pN; clear pI pB pK pR pS pN
     obtain ⟨po, hpo⟩ : ∃ po : Nat, po = 0 := ⟨_, rfl⟩
     rw [List.length_singleton] at hpc ⊢; have hp1 : 0 < 1 := Nat.one_pos; clear hpo
     gi_wp2
     refine zh (m := 7) (S := fun w' => w'.cell? ⟨W.heap.size, 0, none⟩ = some (.slice vA nx.length vc) ∧ w'.cell? ⟨pb, 0, none⟩ = some (.int .i64 xx)) (ds := [5, 6]) #[false, false, false, false, false, false, false] (by kernel_rfl) ?_ (by kernel_rfl) rfl rfl ⟨q10, pcell⟩ (fun hHeld => ?_)
     ·rintro ⟨a, w, h⟩; exact h.elim
     refine gW Ic Cv (fun HT_ HW_ => ?_); refine iq (i := 0) (N := some 46) (v := ?_) (a' := ?_) #[true, false, false, false, false, false, false] rfl rfl (eB HT_.out HW_.out (by kernel_rfl)) (fun _ _ _ h => h) (Or.inl ⟨by rfl, ?_⟩) hHeld ?_ ?_; rotate_left
     ·rintro w' ⟨s0, s1⟩; go_simp; with_reducible rfl
     rotate_left
     ·simp only [Act.put, List.setIfInBounds_toArray, List.set_cons_zero, List.set_cons_succ, aU, aV]; rfl
     refine bT (i := 1) (N := some 47) (v := ?_) (a' := ?_) #[true, true, false, false, false, false, false] rfl rfl (bB HT_.out (by kernel_rfl)) (fun _ _ _ h => h) (Or.inl ⟨by rfl, ?_⟩) ?_ ?_; rotate_left
     ·intro w'; go_simp; with_reducible rfl
     rotate_left
     ·simp only [Act.put, List.setIfInBounds_toArray, List.set_cons_zero, List.set_cons_succ, aU, aV]; rfl
     refine bT (i := 2) (N := some 48) (v := ?_) (a' := ?_) #[true, true, true, false, false, false, false] rfl rfl (bB HT_.out (by kernel_rfl)) (fun _ _ _ h => h) (Or.inl ⟨by rfl, ?_⟩) ?_ ?_; rotate_left
     ·intro w'; go_simp; with_reducible rfl
     rotate_left
     ·simp only [Act.put, List.setIfInBounds_toArray, List.set_cons_zero, List.set_cons_succ, aU, aV]; rfl
     refine iq (i := 3) (N := some 49) (v := ?_) (a' := ?_) #[true, true, true, true, false, false, false] rfl rfl (eB HT_.out HW_.out (by kernel_rfl)) (fun _ _ _ h => h) (Or.inl ⟨by rfl, ?_⟩) hHeld ?_ ?_; rotate_left
     ·rintro w' ⟨s0, s1⟩; go_simp; with_reducible rfl
     rotate_left
     ·simp only [Act.put, List.setIfInBounds_toArray, List.set_cons_zero, List.set_cons_succ, aU, aV]; rfl
     refine jy (i := 4) (N := some 50) #[true, true, true, true, true, false, false] rfl rfl (fI HT_.out (by kernel_rfl)) (by decide) (fun K hK => ?_)
     refine Kd.jS (Kd.int .i64) _ 3 ?hg (N := 50) ?hd (xs := [xx]) (inner := [.int .i64 xx]) (ok := fun _ => True) (okp := fun _ => False) ?hr ?hp (fun _ hk => hk.elim) trivial (Below.refl _ _) (Nat.le_refl _) (by simp) ?_; (case hd => rfl); (case hg => rfl); (case hr => first | (go_simp; done) | (go_simp; rfl)); (case hp => exact ⟨rfl, fun j p hj => by
      rcases j with _ | j
      ·simp only [List.getElem?_cons_zero, Option.some.injEq] at hj; subst hj; rfl
      ·simp at hj⟩)
     intro v6 w6 ho6 hb6 hg6 hn6; have RX : Boxed w6 W.heap.size 44 (.slice vA nx.length vc) := (hb6.block _ pbx.lt).trans pbx; have c6 := Boxed.cell RX; have Km : Below w5.heap.size w5 w6 := aA (aj (Below.refl _ _)) hb6; refine hK.out _ _ ⟨c6, cell_below hb6 hHeld.2⟩ (fun hHeld => ?_); clear hK K; refine gN (a' := ?_) ?_ ?_; rotate_left
     ·show Act.put _ (some 50) _ = _; simp only [Act.put, List.setIfInBounds_toArray, List.set_cons_zero, List.set_cons_succ, aU, aV]; rfl
     obtain ⟨A6, c6', rfl⟩ := Kd.bQ ho6; refine qg (i := 5) (N := some 51) #[true, true, true, true, true, true, false] rfl rfl (fI HT_.out (by kernel_rfl)) (by decide) (fun K hK => ?_); refine Kd.gV (Kd.int .i64) (Rr := fun x cs => cs = [.int .i64 x]) (w0 := w6) W3.heap.size ?hw (.tmp 46) (.tmp 50) 44 3 (.int .i64 0) 8 rfl Try.underlying44 info3 rfl (by decide) (by omega) (.slice vA nx.length vc) nx [xx] A6 1 c6' (fun _ => True) (fun _ => False) rfl rfl (Kd.dE (Kd.bn PR.out) hb6) (Kd.bY ho6).2.2 (fun _ _ h => h) (fun _ h => h.elim) (fun _ _ => trivial) (Below.refl _ _) ?hbase ?hl ?_
     case hw => rfl
     case hbase => exact Nat.le_trans HSc.out (Nat.le_trans PK.out.1 hb6.size)
     case hl => have := HNX.out; have := HHL.out; have := HN.out; simp; omega
     intro v7 w7 ho7 hB7 hg7 ajJ; have ne7 : some W.heap.size ≠ (Value.slice vA nx.length vc).ownBlock := Kd.mI PR.out pbx (by decide); have bx7 : Boxed w7 W.heap.size 44 (.slice vA nx.length vc) := Boxed.kept RX hg7 ne7; have c7 := Boxed.cell bx7; have f7 := Boxed.frozen bx7; obtain ⟨A7, c7', e7⟩ := Kd.bQ ho7
     obtain ⟨L7, hL7⟩ : ∃ L7, L7 = (nx ++ [xx]).length := ⟨_, rfl⟩
     rw [← hL7] at e7; subst e7; have HL7 := af.mk hL7; clear hL7; refine hK.out _ _ ?_; clear hK K; refine gN (a' := ?_) ?_ ?_; rotate_left
     ·show Act.put _ (some 51) _ = _; simp only [Act.put, List.setIfInBounds_toArray, List.set_cons_zero, List.set_cons_succ, aU, aV]; rfl
     refine qg (i := 6) (N := none) #[true, true, true, true, true, true, true] rfl rfl (fI HT_.out (by kernel_rfl)) (by decide) (fun K hK => ?_); refine yN (w1 := ?_) (by rfl) rfl ?_ ?_; rotate_left
     ·go_simp; rfl
     refine hK.out _ _ ?_; clear hK K; refine mY (jA HT_.out (by kernel_rfl)) ?_; have sz6 : w5.heap.size ≤ w6.heap.size := hb6.size; have sz7 : w6.heap.size ≤ w7.heap.size := hg7.size; have sz3 := HSc.out; have szk := PK.out.1; have ajK := HS3.out; have vJ : ∀ r, (Value.slice vA nx.length vc).ownBlock = some r → W3.heap.size ≤ r := Kd.iN PR.out; have K6 : KB Wc w6 g := PK.out.trans (.of_below Km g)
     have ty7 : ∀ r, (Value.slice vA nx.length vc).ownBlock = some r → TB w6 3 r := fun r hr => Kd.iY (Kd.dE (Kd.bn PR.out) hb6) r hr
     have ne8 : some W.heap.size ≠ (Value.slice A7 L7 c7').ownBlock := Kd.mI ho7 bx7 (by decide)
     have BSN : ∀ k, (k = W.heap.size + 1 ∨ k = W.heap.size + 1 + 1) → (w7.setCell ⟨W.heap.size, 0, none⟩ (.slice A7 L7 c7')).heap[k]? = W3.heap[k]? := fun k hk => by
      have hk3 := S1.out k hk; refine (Below.heap_setCell w7 ⟨W.heap.size, 0, none⟩ _ k hk3.1).trans ((hg7.block k (by omega) (fun e => by have := vJ k e.symm; omega)).trans ((hb6.block k (by show k < w5.heap.size; omega)).trans ?_))
      rcases hk with rfl | rfl
      ·exact (show w5.heap[_]? = _ from PS.out).trans bs1.symm
      ·exact (show w5.heap[_]? = _ from PN.out).trans bn1.symm
     have I6 : BS w0 w6 nb g sy := PI.out.drew.below hb6
     have nb7 : ∀ r, (Value.slice vA nx.length vc).ownBlock = some r → ¬ Bld w6 nb r := fun r hr => sM (ty7 r hr) (by decide) (fun _ => by have := vJ r hr; have := HI.out.Lb; omega)
     have nb8 : ¬ Bld w7 nb W.heap.size := sM ⟨_, bx7⟩ (by decide) (fun e => absurd e (by decide)); refine ⟨?_, ⟨?_, fun k hk _ => (BSN k hk).trans (HS2.out k hk).symm⟩, ?_⟩
     ·exact ((((KeepsOthers.WS K6).trans (KeepsOthers.of_grownBy hg7 (fun r o hr ho => by
       obtain ⟨cx, hc⟩ := ty7 r hr; rw [hc] at ho; injection ho with ho; subst ho
       rfl))).trans (KeepsOthers.setCell _ _ _)).from _)
     ·have : (w7.setCell ⟨W.heap.size, 0, none⟩ (.slice A7 L7 c7')).heap.size = w7.heap.size := by simp
      omega
     ·show (∃ v, Boxed _ W.heap.size 44 v ∧ Kd.R (Kd.int .i64) 3 _ W3.heap.size (fun _ => True) v (qO kind L s' (pre ++ [⟨xk, hxk⟩])).1) ∧ BS w0 _ nb g (qO kind L s' (pre ++ [⟨xk, hxk⟩])).2 ∧ _; rw [HSN.out]; refine ⟨⟨_, Boxed.set _ bx7, Kd.eG (Kd.jr (Kd.gP ho7) (fun k hk _ => Below.heap_setCell w7 ⟨W.heap.size, 0, none⟩ _ k (fun e => ?_))) (fun _ _ => trivial)⟩, (I6.grown hg7 (fun r hr => nb7 r hr)).far nb8 _, ?_, ?_, ?_, BSN⟩
      ·have := hk.2.1; rw [e] at this; have : W3.heap.size ≤ W.heap.size := this; omega
      ·refine ay ((aA PB.out Km).grown hg7 (by have := (aA PB.out Km).size; exact this) (fun r hr => by have := vJ r hr; omega)) hw0
      ·exact ((HKc.out.trans K6).grown hg7 (fun r hr => by have := vJ r hr; omega)).far (Nat.le_refl _) _
      ·have : (w7.setCell ⟨W.heap.size, 0, none⟩ (.slice A7 L7 c7')).heap.size = w7.heap.size := by simp
       omega
    ·have hcv : oo bb 0 L.length xk = .slice (some ⟨bb, 2 * xk, none⟩) 1 1 := by
      unfold oo; rw [show min 2 (L.length - 2 * xk) = 1 by omega, Nat.zero_add]
     have ca := HIL'.out.cell hxl
     obtain ⟨x0, hx0⟩ : ∃ x0, x0 = L.getD (2 * xk) 0 := ⟨_, rfl⟩
     rw [← hx0] at ca
     have hst : jo kind L (nx, sx) xk = (nx ++ [x0], sx) := by
      unfold jo; rw [if_neg h2, hx0]
     rw [hst] at HSN; clear hst hx0
     obtain ⟨j, hj⟩ : ∃ j, j = 2 * xk := ⟨_, rfl⟩
     rw [← hj] at hcv ca; dsimp only; rw [hcv]; clear hcv hj h2 hxl; have pI : BS w0 Wc nb g sx := HIc.out; have pB : Below w0.heap.size w0 Wc := HBc.out; have pK : KB Wc Wc g := KB.refl _ _; have pcell := ca; have pbx := Boxed.KB hbx pK (by decide); have pR := lF HR.out pK; have q10 := Boxed.cell pbx; have ajI := Boxed.frozen pbx; have pS := Boxed.KB (show Boxed Wc (W.heap.size + 1) 44 _ from (HS2.out _ (.inl rfl)).trans bs1) pK (by decide); have pN := Boxed.KB (show Boxed Wc (W.heap.size + 1 + 1) 3 _ from (HS2.out _ (.inr rfl)).trans bn1) pK (by decide); have PI := af.mk pI; have PB := af.mk pB; have PK := af.mk pK; have PR := af.mk pR; have PS := af.mk pS; have PN := af.mk pN; clear pI pB pK pR pS pN
     gi_wp2
     refine zh (m := 7) (S := fun w' => w'.cell? ⟨W.heap.size, 0, none⟩ = some (.slice vA nx.length vc) ∧ w'.cell? ⟨bb, j, none⟩ = some (.int .i64 x0)) (ds := [5, 6]) #[false, false, false, false, false, false, false] (by kernel_rfl) ?_ (by kernel_rfl) rfl rfl ⟨q10, pcell⟩ (fun hHeld => ?_)
     ·rintro ⟨a, w, h⟩; exact h.elim
     refine gW Ic Cv (fun HT_ HW_ => ?_); refine iq (i := 0) (N := some 46) (v := ?_) (a' := ?_) #[true, false, false, false, false, false, false] rfl rfl (eB HT_.out HW_.out (by kernel_rfl)) (fun _ _ _ h => h) (Or.inl ⟨by rfl, ?_⟩) hHeld ?_ ?_; rotate_left
     ·rintro w' ⟨s0, s1⟩; go_simp; with_reducible rfl
     rotate_left
     ·simp only [Act.put, List.setIfInBounds_toArray, List.set_cons_zero, List.set_cons_succ, aU, aV]; rfl
     refine bT (i := 1) (N := some 47) (v := ?_) (a' := ?_) #[true, true, false, false, false, false, false] rfl rfl (bB HT_.out (by kernel_rfl)) (fun _ _ _ h => h) (Or.inl ⟨by rfl, ?_⟩) ?_ ?_; rotate_left
     ·intro w'; go_simp; with_reducible rfl
     rotate_left
     ·simp only [Act.put, List.setIfInBounds_toArray, List.set_cons_zero, List.set_cons_succ, aU, aV]; rfl
     refine bT (i := 2) (N := some 48) (v := ?_) (a' := ?_) #[true, true, true, false, false, false, false] rfl rfl (bB HT_.out (by kernel_rfl)) (fun _ _ _ h => h) (Or.inl ⟨by rfl, ?_⟩) ?_ ?_; rotate_left
     ·intro w'; go_simp; with_reducible rfl
     rotate_left
     ·simp only [Act.put, List.setIfInBounds_toArray, List.set_cons_zero, List.set_cons_succ, aU, aV]; rfl
     refine iq (i := 3) (N := some 49) (v := ?_) (a' := ?_) #[true, true, true, true, false, false, false] rfl rfl (eB HT_.out HW_.out (by kernel_rfl)) (fun _ _ _ h => h) (Or.inl ⟨by rfl, ?_⟩) hHeld ?_ ?_; rotate_left
     ·rintro w' ⟨s0, s1⟩; go_simp; with_reducible rfl
     rotate_left
     ·simp only [Act.put, List.setIfInBounds_toArray, List.set_cons_zero, List.set_cons_succ, aU, aV]; rfl
     refine jy (i := 4) (N := some 50) #[true, true, true, true, true, false, false] rfl rfl (fI HT_.out (by kernel_rfl)) (by decide) (fun K hK => ?_)
     refine Kd.jS (Kd.int .i64) _ 3 ?hg (N := 50) ?hd (xs := [x0]) (inner := [.int .i64 x0]) (ok := fun _ => True) (okp := fun _ => False) ?hr ?hp (fun _ hk => hk.elim) trivial (Below.refl _ _) (Nat.le_refl _) (by simp) ?_; (case hd => rfl); (case hg => rfl); (case hr => first | (go_simp; done) | (go_simp; rfl)); (case hp => exact ⟨rfl, fun j p hj => by
      rcases j with _ | j
      ·simp only [List.getElem?_cons_zero, Option.some.injEq] at hj; subst hj; rfl
      ·simp at hj⟩)
     intro v6 w6 ho6 hb6 hg6 hn6; have RX : Boxed w6 W.heap.size 44 (.slice vA nx.length vc) := (hb6.block _ pbx.lt).trans pbx; have c6 := Boxed.cell RX; have Km : Below Wc.heap.size Wc w6 := aA (aj (Below.refl _ _)) hb6; refine hK.out _ _ ⟨c6, cell_below hb6 hHeld.2⟩ (fun hHeld => ?_); clear hK K; refine gN (a' := ?_) ?_ ?_; rotate_left
     ·show Act.put _ (some 50) _ = _; simp only [Act.put, List.setIfInBounds_toArray, List.set_cons_zero, List.set_cons_succ, aU, aV]; rfl
     obtain ⟨A6, c6', rfl⟩ := Kd.bQ ho6; refine qg (i := 5) (N := some 51) #[true, true, true, true, true, true, false] rfl rfl (fI HT_.out (by kernel_rfl)) (by decide) (fun K hK => ?_); refine Kd.gV (Kd.int .i64) (Rr := fun x cs => cs = [.int .i64 x]) (w0 := w6) W3.heap.size ?hw (.tmp 46) (.tmp 50) 44 3 (.int .i64 0) 8 rfl Try.underlying44 info3 rfl (by decide) (by omega) (.slice vA nx.length vc) nx [x0] A6 1 c6' (fun _ => True) (fun _ => False) rfl rfl (Kd.dE (Kd.bn PR.out) hb6) (Kd.bY ho6).2.2 (fun _ _ h => h) (fun _ h => h.elim) (fun _ _ => trivial) (Below.refl _ _) ?hbase ?hl ?_
     case hw => rfl
     case hbase => exact Nat.le_trans HSc.out (Nat.le_trans PK.out.1 hb6.size)
     case hl => have := HNX.out; have := HHL.out; have := HN.out; simp; omega
     intro v7 w7 ho7 hB7 hg7 ajJ; have ne7 : some W.heap.size ≠ (Value.slice vA nx.length vc).ownBlock := Kd.mI PR.out pbx (by decide); have bx7 : Boxed w7 W.heap.size 44 (.slice vA nx.length vc) := Boxed.kept RX hg7 ne7; have c7 := Boxed.cell bx7; have f7 := Boxed.frozen bx7; obtain ⟨A7, c7', e7⟩ := Kd.bQ ho7
     obtain ⟨L7, hL7⟩ : ∃ L7, L7 = (nx ++ [x0]).length := ⟨_, rfl⟩
     rw [← hL7] at e7; subst e7; have HL7 := af.mk hL7; clear hL7; refine hK.out _ _ ?_; clear hK K; refine gN (a' := ?_) ?_ ?_; rotate_left
     ·show Act.put _ (some 51) _ = _; simp only [Act.put, List.setIfInBounds_toArray, List.set_cons_zero, List.set_cons_succ, aU, aV]; rfl
     refine qg (i := 6) (N := none) #[true, true, true, true, true, true, true] rfl rfl (fI HT_.out (by kernel_rfl)) (by decide) (fun K hK => ?_); refine yN (w1 := ?_) (by rfl) rfl ?_ ?_; rotate_left
     ·go_simp; rfl
     refine hK.out _ _ ?_; clear hK K; refine mY (jA HT_.out (by kernel_rfl)) ?_; have sz6 : Wc.heap.size ≤ w6.heap.size := hb6.size; have sz7 : w6.heap.size ≤ w7.heap.size := hg7.size; have sz3 := HSc.out; have szk := PK.out.1; have ajK := HS3.out; have vJ : ∀ r, (Value.slice vA nx.length vc).ownBlock = some r → W3.heap.size ≤ r := Kd.iN PR.out; have K6 : KB Wc w6 g := PK.out.trans (.of_below Km g)
     have ty7 : ∀ r, (Value.slice vA nx.length vc).ownBlock = some r → TB w6 3 r := fun r hr => Kd.iY (Kd.dE (Kd.bn PR.out) hb6) r hr
     have ne8 : some W.heap.size ≠ (Value.slice A7 L7 c7').ownBlock := Kd.mI ho7 bx7 (by decide)
     have BSN : ∀ k, (k = W.heap.size + 1 ∨ k = W.heap.size + 1 + 1) → (w7.setCell ⟨W.heap.size, 0, none⟩ (.slice A7 L7 c7')).heap[k]? = W3.heap[k]? := fun k hk => by
      have hk3 := S1.out k hk; refine (Below.heap_setCell w7 ⟨W.heap.size, 0, none⟩ _ k hk3.1).trans ((hg7.block k (by omega) (fun e => by have := vJ k e.symm; omega)).trans ((hb6.block k (by show k < Wc.heap.size; omega)).trans ?_))
      rcases hk with rfl | rfl
      ·exact (show Wc.heap[_]? = _ from PS.out).trans bs1.symm
      ·exact (show Wc.heap[_]? = _ from PN.out).trans bn1.symm
     have I6 : BS w0 w6 nb g sx := PI.out.drew.below hb6
     have nb7 : ∀ r, (Value.slice vA nx.length vc).ownBlock = some r → ¬ Bld w6 nb r := fun r hr => sM (ty7 r hr) (by decide) (fun _ => by have := vJ r hr; have := HI.out.Lb; omega)
     have nb8 : ¬ Bld w7 nb W.heap.size := sM ⟨_, bx7⟩ (by decide) (fun e => absurd e (by decide)); refine ⟨?_, ⟨?_, fun k hk _ => (BSN k hk).trans (HS2.out k hk).symm⟩, ?_⟩
     ·exact ((((KeepsOthers.WS K6).trans (KeepsOthers.of_grownBy hg7 (fun r o hr ho => by
       obtain ⟨cx, hc⟩ := ty7 r hr; rw [hc] at ho; injection ho with ho; subst ho
       rfl))).trans (KeepsOthers.setCell _ _ _)).from _)
     ·have : (w7.setCell ⟨W.heap.size, 0, none⟩ (.slice A7 L7 c7')).heap.size = w7.heap.size := by simp
      omega
     ·show (∃ v, Boxed _ W.heap.size 44 v ∧ Kd.R (Kd.int .i64) 3 _ W3.heap.size (fun _ => True) v (qO kind L s' (pre ++ [⟨xk, hxk⟩])).1) ∧ BS w0 _ nb g (qO kind L s' (pre ++ [⟨xk, hxk⟩])).2 ∧ _; rw [HSN.out]; refine ⟨⟨_, Boxed.set _ bx7, Kd.eG (Kd.jr (Kd.gP ho7) (fun k hk _ => Below.heap_setCell w7 ⟨W.heap.size, 0, none⟩ _ k (fun e => ?_))) (fun _ _ => trivial)⟩, (I6.grown hg7 (fun r hr => nb7 r hr)).far nb8 _, ?_, ?_, ?_, BSN⟩
      ·have := hk.2.1; rw [e] at this; have : W3.heap.size ≤ W.heap.size := this; omega
      ·refine ay ((aA PB.out Km).grown hg7 (by have := (aA PB.out Km).size; exact this) (fun r hr => by have := vJ r hr; omega)) hw0
      ·exact ((HKc.out.trans K6).grown hg7 (fun r hr => by have := vJ r hr; omega)).far (Nat.le_refl _) _
      ·have : (w7.setCell ⟨W.heap.size, 0, none⟩ (.slice A7 L7 c7')).heap.size = w7.heap.size := by simp
       omega
   case done =>
    rintro D _ Wc hD rfl ⟨⟨v, hbx, hR⟩, hI, hB, hK, hS, hS2⟩ hDk; have hfl := qG kind L s'; obtain ⟨bb4, cc4, rfl, aaI, amw, aaJ⟩ := xe hR (by show 0 < (ol kind L s').1.length; omega); have aaK := (qP kind L s' (List.finRange ((L.length + 1) / 2))).2.2; rw [List.length_finRange] at aaK; change (ol kind L s').2.nodes.length ≤ _ at aaK
    obtain ⟨nx, hnx⟩ : ∃ nx, nx = (ol kind L s').1 := ⟨_, rfl⟩
    obtain ⟨sx, hsx⟩ : ∃ sx, sx = (ol kind L s').2 := ⟨_, rfl⟩
    have hfo := HFo.out; rw [ig, dif_pos (show 2 ≤ L.length by omega)] at hfo; change Boxed Wc W.heap.size 44 (.slice (some ⟨bb4, 0, none⟩) (ol kind L s').1.length cc4) at hbx; change (ol kind L s').1.length ≤ cc4 at aaI; change IL Wc bb4 (ol kind L s').1 at aaJ; change BS w0 Wc nb g (ol kind L s').2 at hI; rw [← hnx] at hfl hbx aaI aaJ hfo; rw [← hsx] at hI aaK hfo; have hfl' := af.mk hfl; clear hnx hsx hfl hR; have hbc := Boxed.cell hbx
    gi_wp2
    refine ⟨⟨_, _, _, _, _, _, _, _, _, _, _, _, _, _, _, _, _, _, _, _, _, _, _, _, _, _, _, _, _, _, nx, bb4, cc4, sx, _, rfl, by have := hfl'.out; omega, aaI, ⟨by have := HN.out; have := hfl'.out; omega⟩, ⟨hfo⟩, ⟨aaJ⟩, ⟨hI⟩, ⟨hB⟩, ⟨HK.out.trans hK⟩, ⟨Boxed.KB HX.out hK (by decide)⟩, ⟨HM.out.cons (fun D' _ hd => hK.2 D' (gU hd) (Safe.Y1 hd)) (by have := HS3.out; omega) (by have := HS3.out; omega) hDk⟩⟩, ?_⟩; have := hfl'.out; show nx.length < L.length; omega
   case stop =>
    rintro D cd pre Wc _ _ h _; exact h.elim
end Go.Proofs.Ytkgeihbcikiedaa.P
