/- The contracts of build's In and Net and of the copies of nodes and ports, and what a builder's user keeps, for all builders of fewer than a million nodes. -/
import Derived.Test.YtkgeihbcikiedaaS60
import Derived.Test.YtkgeihbcikiedaaPx0
set_option linter.unusedVariables false
set_option linter.unusedSimpArgs false
set_option linter.constructorNameAsVariable false
set_option linter.unusedSectionVars false
namespace Go.Proofs.Ytkgeihbcikiedaa.P
open Go.RowKit Go.Shelf Go.Proofs.YtkgeihbcikiedaaW.PrintWords Go.Proofs.YtkgeihbcikiedaaW.PrintLast Go.Proofs.YtkgeihbcikiedaaW.PrintMore
attribute [local go_sem] eU eX fU fV dX dY eZ fo
def iF (m n : Nat) : List Int := (List.range n).map (fun i => ((m + i : Nat) : Int))
theorem gX (m n : Nat) : (iF m n).length = n := by simp [iF]
theorem Ko (m n : Nat) : iF m (n + 1) = iF m n ++ [((m + n : Nat) : Int)] := by simp [iF, List.range_succ]
def rV (s : BSt) (n : Nat) : BSt := { s with nodes := s.nodes ++ List.replicate n ⟨1, 0, 0, 0⟩ }
theorem ui (s : BSt) (n : Nat) : (rV s n).nodes.length = s.nodes.length + n := by simp [rV]
theorem OU (s : BSt) (n : Nat) : rV s (n + 1) = (gQ (rV s n) ⟨1, 0, 0, 0⟩).2 := by simp [rV, gQ, List.replicate_succ']
def xE (s : BSt) (nm : ByteArray) (n : Nat) : BSt := { rV s n with ins := s.ins ++ [⟨nm, iF s.nodes.length n⟩] }
theorem BS.ou {w0 W W1 : World} {nb g base : Nat} {ok : Nat → Prop} {s : BSt} {v : Value} {xs : List Int} (h : BS w0 W nb g s) (hR : Kd.R (Kd.int .i64) 3 W base ok v xs) (hb : nb ≤ base) (hg : W.grownBy W1 v.ownBlock) : BS w0 W1 nb g s :=
 h.grown hg (fun r hr => sM (Kd.iY hR r hr) (by decide) (fun _ => by have := Kd.iN hR r hr; omega))
theorem KB.ou {w W W1 : World} {g base : Nat} {ok : Nat → Prop} {v : Value} {xs : List Int} (h : KB w W g) (hR : Kd.R (Kd.int .i64) 3 W base ok v xs) (hb : w.heap.size ≤ base) (hg : W.grownBy W1 v.ownBlock) : KB w W1 g :=
 h.grown hg (fun r hr => by have := Kd.iN hR r hr; omega)
theorem Below.ou {w0 W W1 : World} {base : Nat} {ok : Nat → Prop} {v : Value} {xs : List Int} (h : Below w0.heap.size w0 W) (hR : Kd.R (Kd.int .i64) 3 W base ok v xs) (hb : w0.heap.size ≤ base) (hg : W.grownBy W1 v.ownBlock) : Below w0.heap.size w0 W1 :=
 h.grown hg h.size (fun r hr => by have := Kd.iN hR r hr; omega)
theorem BS.raise {w0 W : World} {nb nb' g : Nat} {s : BSt} (h : BS w0 W nb g s) (h1 : nb ≤ nb') (h2 : nb' ≤ W.heap.size) : BS w0 W nb' g s := by
 obtain ⟨a, b, vn, vi, vo, ok1, ok2, ok3, hb, n1, n2, n3, t1, t2, t3⟩ := h; exact ⟨a, h2, vn, vi, vo, ok1, ok2, ok3, hb, n1, n2, n3, t1, fun k hk => ⟨(t2 k hk).1.imp id (fun e => ⟨e.1, by omega⟩), (t2 k hk).2⟩, fun k hk => ⟨(t3 k hk).1.imp id (fun e => ⟨e.1, by omega⟩), (t3 k hk).2⟩⟩
set_option maxRecDepth 100000 in
set_option maxHeartbeats 8000000 in
theorem PX (nb g : Nat) (s : BSt) (nm : ByteArray) (n : Nat) (w0 w : World) (hI : BS w0 w nb g s) (hB : Below w0.heap.size w0 w) (hl : s.nodes.length + n < 1000000) (hl2 : s.ins.length < 1000000) :
 Calls Try.prog 14 #[.pointer (some ⟨g, 0, none⟩), .string nm, .int .i64 (n : Int)] w fun e w' => ∃ v, e = .returned v ∧ Kd.R (Kd.int .i64) 3 w' w.heap.size (fun _ => True) v (iF s.nodes.length n) ∧ BS w0 w' w'.heap.size g (xE s nm n) ∧ Below w0.heap.size w0 w' ∧ KB w w' g := by
 have HI := af.mk hI; have HB := af.mk hB; have HS0 := af.mk hB.size; have HNB := af.mk hI.Lb; have HL := af.mk hl; have HL2 := af.mk hl2; clear hI hB hl hl2
 go_enter Try.func14, Try.ntmps14
 go_wp2
 go_loopw [7, 10] (fun v i wr => ∃ k : Nat, k ≤ n ∧ i = .int .i64 k ∧ af (Kd.R (Kd.int .i64) 3 wr w.heap.size (fun _ => True) v (iF s.nodes.length k)) ∧ af (BS w0 wr nb g (rV s k)) ∧ af (Below w0.heap.size w0 wr) ∧ af (KB w wr g))
  (fun _ i _ => n - (intOf i).toNat)
 case atStart => exact ⟨0, Nat.zero_le _, rfl, ⟨Kd.qd _ _ _ _ _⟩, ⟨by simpa [rV] using HI.out⟩, HB, ⟨KB.refl _ _⟩⟩
 case round =>
  obtain ⟨k, hk, rfl, HO, HIr, HBr, HKr⟩ := hrel; clear HI HB; obtain ⟨A7, c7, e7⟩ := Kd.bQ HO.out; rw [gX] at e7; subst e7
  by_cases hlt : k < n
  ·have HLk := af.mk (show (rV s k).nodes.length < 1000000 by rw [ui]; have := HL.out; omega); have HNk := af.mk (show ((rV s k).nodes.length : Int) = ((s.nodes.length + k : Nat) : Int) by rw [ui])
   obtain ⟨x7, hx7⟩ : ∃ x7 : Int, x7 = ((rV s k).nodes.length : Int) := ⟨_, rfl⟩
   have HX7 := af.mk hx7; have HR7 := af.mk (show ug (rV s k) ⟨1, 0, 0, 0⟩ = some (x7, (gQ (rV s k) ⟨1, 0, 0, 0⟩).2) by rw [oI _ HLk.out, hx7]; rfl); clear hx7; go_wp2_with (first | (go_at_call 37; with_reducible refine (mZ nb g (rV s k) 1 0 0 0 x7 _ w0 _ HIr.out HBr.out HR7.out).mono ?_; rintro e w1 ⟨rfl, hi, hb, hk1⟩; have HI2 := af.mk hi; have HB2 := af.mk hb; have HK2 := af.mk (HKr.out.trans hk1); have HO2 := af.mk (lF HO.out hk1); clear hi hb hk1 HIr HBr HKr HO) | ((with_reducible refine gy (b := .append) (xs := #[.tmp 12, .tmp 16]) rfl ?_); at_builtin; refine Kd.kP (Kd.int .i64) w.heap.size rfl (.tmp 12) (.tmp 16) 44 3 (.int .i64 0) 8 rfl Try.underlying44 info3 rfl (by decide) (by omega) (.slice A7 k c7) (iF s.nodes.length k) x7 [.int .i64 x7] (fun _ => True) (fun _ => False) rfl rfl rfl (fun _ hk => hk.elim) (fun _ _ => trivial) HO2.out (Below.refl _ _) HK2.out.1 (by rw [gX]; have := HL.out; omega) ?_; intro v2 w2 ho2 hb2 hg2 Pq; have HO3 := af.mk ho2; have HG2 := af.mk hg2; clear ho2 hb2 hg2 Pq)); refine ⟨⟨k + 1, by omega, by rw [show wrap64 ((k : Int) + 1) = ((k + 1 : Nat) : Int) by unfold wrap64; have := HL.out; omega], ⟨?_⟩, ⟨?_⟩, ⟨Below.ou HB2.out HO2.out HS0.out HG2.out⟩, ⟨HK2.out.ou HO2.out (Nat.le_refl _) HG2.out⟩⟩, ?_⟩
   ·rw [Ko, ← HNk.out, ← HX7.out]; exact HO3.out
   ·rw [OU]; exact HI2.out.ou HO2.out HNB.out HG2.out
   ·rw [show wrap64 ((k : Int) + 1) = ((k + 1 : Nat) : Int) by unfold wrap64; have := HL.out; omega]; simp only [intOf, Int.toNat_natCast]; omega
  ·obtain rfl : k = n := by omega
   obtain ⟨h1, h2, vn, vi, vo, ok1, ok2, ok3, hb0, n1, n2, n3, t1, t2, t3⟩ := HIr.out; obtain ⟨Ai, ci, rfl⟩ := Kd.bQ n2; change Kd.R k94 94 wr w0.heap.size ok2 (.slice Ai s.ins.length ci) s.ins at n2; change Kd.R k94 94 wr w0.heap.size ok3 vo s.outs at n3; change wr.heap[g]? = some (.cells #[vn, .slice Ai s.ins.length ci, vo] 89 (0, 0)) at hb0; change ∀ k_, ok3 k_ → (TB wr 94 k_ ∨ TB wr 3 k_ ∧ k_ < nb) ∧ some k_ ≠ (Value.slice Ai s.ins.length ci).ownBlock at t3
   have ty2 : ∀ r, (Value.slice Ai s.ins.length ci).ownBlock = some r → TB wr 94 r := fun r hr => Kd.iY n2 r hr
   have neg : some g ≠ (Value.slice Ai s.ins.length ci).ownBlock := Kd.mI n2 hb0 (by decide); have aif : wr.cell? ⟨g, 1, none⟩ = some (.slice Ai s.ins.length ci) := (ak hb0 1).trans rfl; have hbX := Kd.iN HO.out; have hcx := (Kd.bY HO.out).2.1; go_wp2_with (first | ((with_reducible refine gy (b := .append) (xs := #[.tmp 23, .tmp 27]) rfl ?_); at_builtin; refine Kd.kP k94 (w0 := w0) w0.heap.size rfl (.tmp 23) (.tmp 27) 53 94 (.agg #[(.string ⟨#[]⟩), (.slice none 0 0)]) 40 rfl Try.underlying53 yO rfl (by decide) (by omega) (.slice Ai s.ins.length ci) s.ins ⟨nm, iF s.nodes.length k⟩ [Value.string nm, Value.slice A7 k c7] (fun k_ => ok2 k_ ∨ some k_ = (Value.slice A7 k c7).ownBlock ∨ wr.heap.size ≤ k_) (fun k_ => some k_ = (Value.slice A7 k c7).ownBlock) rfl rfl (De wr w0.heap.size _ ⟨nm, iF s.nodes.length k⟩ (Kd.kR rfl (Kd.fA HO.out HS0.out))) (fun k_ hk_ => ⟨.inr (.inl hk_), fun e => absurd ((show TB wr 3 k_ from Kd.iY HO.out k_ hk_.symm).uniq (ty2 k_ e.symm)) (by decide)⟩) (fun k_ hk_ => .inr (.inr hk_)) (Kd.eG n2 (fun _ h => .inl h)) HBr.out HBr.out.size (by have := HL2.out; omega) ?_; intro v6 w6 ho6 hB6 hg6 Tp; have nI := fQ hb0 hg6 neg; have amx : w6.cell? ⟨g, 1, none⟩ = some (.slice Ai s.ins.length ci) := (ak nI 1).trans rfl; have amy := au nI 1; have HX6 : Kd.R (Kd.int .i64) 3 w6 w.heap.size (fun _ => True) (.slice A7 k c7) (iF s.nodes.length k) := uH HO.out (fun k_ _ ht => hg6.block k_ ht.lt (fun e => absurd (ht.uniq (ty2 k_ e.symm)) (by decide))); obtain ⟨A6, c6, e6⟩ := Kd.bQ ho6; obtain ⟨L6, hL6⟩ : ∃ L6, L6 = (s.ins ++ [(⟨nm, iF s.nodes.length k⟩ : S94)]).length := ⟨_, rfl⟩; rw [← hL6] at e6; subst e6; have HL6 := af.mk hL6; clear hL6; have HX7 := Kd.aep HX6 nI (fun q hq => by have hq : q ∈ [3] := hq; rw [List.mem_singleton] at hq; subst hq; decide) 1 (.slice A6 L6 c6)) | (go_at_call 38; have ecl : Calls Try.prog 38 #[.slice A7 (iF s.nodes.length k).length c7] _ _ := (eQ.calls A7 c7 (iF s.nodes.length k) (iF s.nodes.length k) (w6.setCell ⟨g, 1, none⟩ (.slice A6 L6 c6)) (by have := (Kd.bY HX7).2.2; exact this) (by rw [gX]; exact hcx) (by unfold eQ.f; rw [gX, if_pos (by have := HL.out; omega)])); rw [gX] at ecl; refine ecl.mono ?_; rintro e w8 ⟨v8, rfl, ho8, hb8⟩)); go_ret; have sz6 : wr.heap.size ≤ w6.heap.size := hg6.size; have szw : w.heap.size ≤ wr.heap.size := HKr.out.1; have sz0 : w0.heap.size ≤ w.heap.size := HS0.out
   have sz7 : (w6.setCell ⟨g, 1, none⟩ (.slice A6 L6 c6)).heap.size = w6.heap.size := by simp
   have sz8 : w6.heap.size ≤ w8.heap.size := by have := hb8.size; omega
   have F : ∀ k_, k_ < wr.heap.size → k_ ≠ g → some k_ ≠ (Value.slice Ai s.ins.length ci).ownBlock → (w6.setCell ⟨g, 1, none⟩ (.slice A6 L6 c6)).heap[k_]? = wr.heap[k_]? := fun k_ hk_ hkg hkr =>
    (Below.heap_setCell w6 ⟨g, 1, none⟩ _ k_ hkg).trans (hg6.block k_ hk_ hkr)
   have YF : (w6.setCell ⟨g, 1, none⟩ (.slice A6 L6 c6)).heap[g]? = some (.cells #[vn, .slice A6 L6 c6, vo] 89 (0, 0)) := by simpa using jN nI 1 (.slice A6 L6 c6)
   have F2 : ∀ k_, k_ < wr.heap.size → ¬ TB wr 89 k_ → ¬ some k_ = (Value.slice Ai s.ins.length ci).ownBlock → (w6.setCell ⟨g, 1, none⟩ (.slice A6 L6 c6)).heap[k_]? = wr.heap[k_]? := fun k_ hk_ h89 hne =>
    F k_ hk_ (fun e => h89 (e ▸ ⟨_, hb0⟩)) hne
   have neq : ∀ k_, TB wr 92 k_ → k_ < wr.heap.size ∧ ¬ TB wr 89 k_ ∧ ¬ some k_ = (Value.slice Ai s.ins.length ci).ownBlock := fun k_ e => ⟨e.lt, fun h => absurd (h.uniq e) (by decide), fun h => absurd ((ty2 k_ h.symm).uniq e) (by decide)⟩
   have aaL : ∀ k_, ok3 k_ → k_ < wr.heap.size ∧ ¬ TB wr 89 k_ ∧ ¬ some k_ = (Value.slice Ai s.ins.length ci).ownBlock := fun k_ hk_ => by
    obtain ⟨e, e2⟩ := t3 k_ hk_
    rcases e with e | ⟨e, _⟩
    ·exact ⟨e.lt, fun h => absurd (h.uniq e) (by decide), e2⟩
    ·exact ⟨e.lt, fun h => absurd (h.uniq e) (by decide), e2⟩
   have kE : k94.E = [3] := rfl
   have amz : ∀ k_, (Value.slice Ai s.ins.length ci).ownBlock = some k_ → k_ < wr.heap.size := fun k_ hk_ => (ty2 k_ hk_).lt
   have BS7 : BS w0 (w6.setCell ⟨g, 1, none⟩ (.slice A6 L6 c6)) (w6.setCell ⟨g, 1, none⟩ (.slice A6 L6 c6)).heap.size g (xE s nm k) := by
    refine ⟨h1, Nat.le_refl _, vn, .slice A6 L6 c6, vo, ok1, fun k_ => (ok2 k_ ∨ some k_ = (Value.slice A7 k c7).ownBlock ∨ wr.heap.size ≤ k_) ∧ w0.heap.size ≤ k_ ∧ k_ < w6.heap.size ∧ ∃ q, q ∈ 94 :: k94.E ∧ ∃ cells, w6.heap[k_]? = some (.cells cells q (0, 0)), ok3, YF, ?_, ?_, ?_, ?_, ?_, ?_⟩
    ·exact Kd.vT n1 (fun k_ hk_ _ => by obtain ⟨p1, p2, p3⟩ := neq k_ (t1 k_ hk_); exact F2 k_ p1 p2 p3)
    ·refine Kd.jr (Kd.gP ho6) (fun k_ hk_ _ => Below.heap_setCell w6 ⟨g, 1, none⟩ _ k_ (fun e => ?_)); obtain ⟨_, _, _, q, hq, cells, hcx⟩ := hk_; rw [kE] at hq; rw [e, nI] at hcx; injection hcx with hcx; injection hcx with _ hcx; subst hcx
     revert hq; decide
    ·exact Kd.jr n3 (fun k_ hk_ _ => by obtain ⟨p1, p2, p3⟩ := aaL k_ hk_; exact F2 k_ p1 p2 p3)
    ·intro k_ hk_; obtain ⟨p1, p2, p3⟩ := neq k_ (t1 k_ hk_); exact (t1 k_ hk_).keep (F2 k_ p1 p2 p3)
    ·rintro k_ ⟨hk1, hk2, hk3, q, hq, cells, hcx⟩
     have hkg : k_ ≠ g := fun e => by
      rw [kE] at hq; rw [e, nI] at hcx; injection hcx with hcx; injection hcx with _ hcx; subst hcx
      revert hq; decide
     have tb : TB (w6.setCell ⟨g, 1, none⟩ (.slice A6 L6 c6)) q k_ := ⟨cells, (Below.heap_setCell w6 ⟨g, 1, none⟩ _ k_ hkg).trans hcx⟩
     rw [kE] at hq; simp only [List.mem_cons, List.not_mem_nil, or_false] at hq; refine ⟨by rcases hq with rfl | rfl; exact .inl tb; exact .inr ⟨tb, by omega⟩, fun e => ?_⟩; have e3 := aaL k_ (n3.1 k_ e.symm)
     rcases hk1 with h | h | h
     ·exact (t2 k_ h).2 e
     ·exact absurd ((show TB wr 3 k_ from Kd.iY HO.out k_ h.symm).uniq (show TB wr 94 k_ from Kd.iY n3 k_ e.symm)) (by decide)
     ·omega
    ·intro k_ hk_; obtain ⟨p1, p2, p3⟩ := aaL k_ hk_; refine ⟨(t3 k_ hk_).1.imp (·.keep (F2 k_ p1 p2 p3)) (fun e => ⟨e.1.keep (F2 k_ p1 p2 p3), by omega⟩), fun e => ?_⟩
     rcases Tp with h | ⟨b, h, hb⟩
     ·exact p3 (e.trans h)
     ·rw [h] at e; injection e with e; omega
   refine ⟨v8, rfl, Kd.fA ho8 (by omega), (BS7.below hb8).raise hb8.size (Nat.le_refl _), aA (ay hB6 h1) hb8, ?_⟩; refine KB.trans ⟨by omega, fun k_ hk_ hs => ?_⟩ (.of_below hb8 g); have e := HKr.out.2 k_ hk_ hs; have hs' := hs.move e; exact (F2 k_ (by omega) (fun e => hs' (.inl e)) (fun e => hs' (.inr (.inr (ty2 k_ e.symm))))).trans e
end Go.Proofs.Ytkgeihbcikiedaa.P
set_option linter.unusedVariables false
set_option linter.unusedSimpArgs false
set_option linter.constructorNameAsVariable false
set_option linter.unusedSectionVars false
namespace Go.Proofs.Ytkgeihbcikiedaa.P
open Go.RowKit Go.Shelf Go.Proofs.YtkgeihbcikiedaaW.PrintWords Go.Proofs.YtkgeihbcikiedaaW.PrintLast Go.Proofs.YtkgeihbcikiedaaW.PrintMore
attribute [local go_sem] eU eX fU fV dX dY eZ fo
set_option maxHeartbeats 8000000 in
set_option maxRecDepth 100000 in
theorem EJ (A : Option Addr) (c : Nat) (l : List S92) (w : World) (hr : Kd.C k92 w A l.length l) (hc : l.length ≤ c) (hl : l.length < 1000000) :
 Calls Try.prog 49 #[.slice A l.length c] w fun e w' => ∃ v, e = .returned v ∧ Kd.R k92 92 w' w.heap.size (fun _ => True) v l ∧ Below w.heap.size w w' := by
 have HR := af.mk hr; have HC := af.mk hc; have HL := af.mk hl; clear hr hc hl; have HB := af.mk (Below.refl w.heap.size w)
 cases A with
 | none =>
  have h0 : l = [] := by
   have := HR.out.2.2
   cases l with
   | nil => rfl
   | cons a l => obtain ⟨ad, e, _⟩ := this (by simp); cases e
  subst h0
  have he : ∀ w : World, (binOp .eql 52 (.slice none 0 c) (.slice none 0 0)).run Try.prog w = .ok (.bool true) w := fun _ => rfl
  go_enter Try.func49, Try.ntmps49
  go_wp2; go_ret; exact ⟨_, rfl, Kd.qd _ _ _ _ _, HB.out⟩
 | some ad =>
  have he : ∀ w : World, (binOp .eql 52 (.slice (some ad) l.length c) (.slice none 0 0)).run Try.prog w = .ok (.bool false) w := fun _ => rfl
  go_enter Try.func49, Try.ntmps49
  go_wp2_with (first | ((with_reducible refine bS (N := 5) rfl ?_); refine Kd.oz k92 _ 92 ?hg (N := 5) ?hd (xs := ([] : List S92)) (inner := []) (ok := fun _ => True) (okp := fun _ => True) ?hr ?hp (fun _ hk => hk) trivial (Below.refl _ _) (Nat.le_refl _) (by simp) ?_; (case hd => rfl); (case hg => rfl); (case hr => first | (go_simp; done) | (go_simp; rfl)); (case hp => exact (eF.none _ _)); intro v1 w1 ho hb hg_ hnew_; have HO := af.mk ho; have HB1 := af.mk hb; clear ho hb hg_ hnew_) | ((with_reducible refine gy (b := .append) (xs := #[.tmp 5, .tmp 6]) rfl ?_); at_builtin; refine Kd.rY k92 (Rr := fun x cs => cs = [.int .i64 x.f0, .int .i64 x.f1, .int .i64 x.f2, .int .i64 x.f3]) (w0 := w) w.heap.size rfl (.tmp 5) (.tmp 6) 52 92 (.agg #[(.int .i64 0), (.int .i64 0), (.int .i64 0), (.int .i64 0)]) 32 rfl Try.underlying52 Po rfl (by decide) (by omega) v1 [] l (some ad) l.length c (fun _ => True) (fun _ => False) rfl rfl HO.out (Kd.bR HR.out HB1.out |>.l9 (Below.refl _ _) (fun _ _ h => yM h)) (fun x cs h => by subst h; exact U6 _ _ _ _) (fun _ h => h.elim) (fun _ _ => trivial) HB1.out HB1.out.size (by have := HL.out; simp; omega) ?_; intro v2 w2 ho2 hb2 hg2 Pq; have HO2 := af.mk ho2; have HB2 := af.mk hb2; clear ho2 hb2 hg2 Pq)); go_ret; exact ⟨_, rfl, HO2.out, HB2.out⟩
def aeq : List Nat := [0, 0, 2, 0, 8, 24, 62, 126, 255, 511]
noncomputable def XD : Bool × List (List Nat × List Nat) := iZ .any (opsOf Try.f48 5)
theorem VO : iZ .any (opsOf Try.f48 5) = XD := rfl
theorem RY : ji XD.2 aeq = true := by kernel_rfl
set_option maxHeartbeats 8000000 in
set_option maxRecDepth 100000 in
theorem Bf (A : Option Addr) (c : Nat) (l : List S94) (w : World) (hr : Kd.C k94 w A l.length l) (hc : l.length ≤ c) (hl : l.length < 1000000) (hlb : ∀ p ∈ l, p.f1.length < 1000000) :
 Calls Try.prog 48 #[.slice A l.length c] w fun e w' => ∃ v, e = .returned v ∧ Kd.R k94 94 w' w.heap.size (fun _ => True) v l ∧ Below w.heap.size w w' := by
 have HR := af.mk hr; have HC := af.mk hc; have HL := af.mk hl; have HLB := af.mk hlb; have amA := Try.underlying94; clear hr hc hl hlb
 go_enter Try.func48, Try.ntmps48
 go_wp2
 go_loopw [3, 8] (fun v i wr => ∃ k : Nat, k ≤ l.length ∧ i = .int .i64 k ∧ af (Kd.R k94 94 wr w.heap.size (fun _ => True) v (l.take k)) ∧ af (Below w.heap.size w wr))
  (fun _ i _ => l.length - (intOf i).toNat)
 case atStart => exact ⟨0, Nat.zero_le _, rfl, ⟨by simpa using Kd.qd _ _ _ _ _⟩, ⟨Below.refl _ _⟩⟩
 case round =>
  obtain ⟨k, hk, rfl, HO, HB⟩ := hrel; obtain ⟨A3, c3, e3⟩ := Kd.bQ HO.out; rw [List.length_take, Nat.min_eq_left hk] at e3; subst e3
  by_cases hlt : k < l.length
  ·obtain ⟨ad, A1, c1, e, hx0, hx1, hl1, hi1⟩ := qX (Kd.bR HR.out HB.out) (k : Int) (by omega) (by omega); subst e
   obtain ⟨pn, hpn⟩ : ∃ pn, pn = bG l (k : Int) := ⟨_, rfl⟩
   rw [← hpn] at hx0 hx1 hl1 hi1; rw [Int.toNat_natCast] at hx0 hx1; have HI1 := af.mk hi1; have HP := af.mk hpn; have HL1 := af.mk hl1; clear hi1 hpn hl1; have HCL := af.mk (show eQ.f pn.f1 = some pn.f1 by unfold eQ.f; rw [if_pos (HLB.out pn (by rw [HP.out]; simp [bG, hlt]))]); go_wp2
   obtain ⟨W5, hW5⟩ : ∃ W5, wr.alloc (.cells #[.string pn.f0, .slice A1 pn.f1.length c1] 94) = W5 := ⟨_, rfl⟩
   have hbp : W5.heap[wr.heap.size]? = some (.cells #[.string pn.f0, .slice A1 pn.f1.length c1] 94 (0, 0)) := by rw [← hW5]; exact heap_alloc_new wr _
   have hb5 : Below wr.heap.size wr W5 := by rw [← hW5]; exact ai (Below.refl _ _) _
   rw [hW5]; clear hW5; refine mF (n := 10) (S := fun w' => w'.cell? ⟨wr.heap.size, 0, none⟩ = some (.string pn.f0) ∧ w'.cell? ⟨wr.heap.size, 1, none⟩ = some (.slice A1 pn.f1.length c1)) (ds := [8, 9]) #[false, false, false, false, false, false, false, false, false, false] (by kernel_rfl) rfl rfl ⟨(ak (aH hbp) 0).trans rfl, (ak (aH hbp) 1).trans rfl⟩ (fun hHeld => ?_); refine gW VO RY (fun HT_ HW_ => ?_); refine bT (i := 0) (N := some 12) (v := ?_) (a' := ?_) #[true, false, false, false, false, false, false, false, false, false] rfl rfl (bB HT_.out (by kernel_rfl)) (fun _ _ _ h => h) (Or.inl ⟨by rfl, ?_⟩) ?_ ?_; rotate_left
   ·intro w'; go_simp; with_reducible rfl
   rotate_left
   ·simp only [Act.put, List.setIfInBounds_toArray, List.set_cons_zero, List.set_cons_succ, aU, aV]; rfl
   refine bT (i := 1) (N := some 13) (v := ?_) (a' := ?_) #[true, true, false, false, false, false, false, false, false, false] rfl rfl (bB HT_.out (by kernel_rfl)) (fun _ _ _ h => h) (Or.inl ⟨by rfl, ?_⟩) ?_ ?_; rotate_left
   ·intro w'; go_simp; with_reducible rfl
   rotate_left
   ·simp only [Act.put, List.setIfInBounds_toArray, List.set_cons_zero, List.set_cons_succ, aU, aV]; rfl
   refine bT (i := 3) (N := some 15) (v := ?_) (a' := ?_) #[true, true, false, true, false, false, false, false, false, false] rfl rfl (bB HT_.out (by kernel_rfl)) (fun _ _ _ h => h) (Or.inl ⟨by rfl, ?_⟩) ?_ ?_; rotate_left
   ·intro w'; go_simp; with_reducible rfl
   rotate_left
   ·simp only [Act.put, List.setIfInBounds_toArray, List.set_cons_zero, List.set_cons_succ, aU, aV]; rfl
   refine iq (i := 2) (N := some 14) (v := ?_) (a' := ?_) #[true, true, true, true, false, false, false, false, false, false] rfl rfl (eB HT_.out HW_.out (by kernel_rfl)) (fun _ _ _ h => h) (Or.inl ⟨by rfl, ?_⟩) hHeld ?_ ?_; rotate_left
   ·rintro w' ⟨s0, s1⟩; go_simp; with_reducible rfl
   rotate_left
   ·simp only [Act.put, List.setIfInBounds_toArray, List.set_cons_zero, List.set_cons_succ, aU, aV]; rfl
   refine iq (i := 4) (N := some 16) (v := ?_) (a' := ?_) #[true, true, true, true, true, false, false, false, false, false] rfl rfl (eB HT_.out HW_.out (by kernel_rfl)) (fun _ _ _ h => h) (Or.inl ⟨by rfl, ?_⟩) hHeld ?_ ?_; rotate_left
   ·rintro w' ⟨s0, s1⟩; go_simp; with_reducible rfl
   rotate_left
   ·simp only [Act.put, List.setIfInBounds_toArray, List.set_cons_zero, List.set_cons_succ, aU, aV]; rfl
   refine jy (i := 5) (N := some 17) #[true, true, true, true, true, true, false, false, false, false] rfl rfl (fI HT_.out (by kernel_rfl)) (by decide) (fun K hK => ?_); refine ng Try.func38 (by kernel_rfl) rfl #[.slice A1 pn.f1.length c1] (by rfl) rfl rfl (by (try simp only [List.map_toArray, List.map_cons, List.map_nil]); first | done | rfl) ?_; refine (eQ.calls A1 c1 pn.f1 pn.f1 _ (Kd.bR (Kd.bR HI1.out hb5) (gT (Below.refl _ _))) HL1.out HCL.out).mono ?_; rintro e w4 ⟨vc, rfl, hRc, hb4⟩; refine ⟨_, rfl, ?_⟩; have aaM := bP (aH hbp) hb4; refine hK.out _ _ ⟨(ak aaM 0).trans rfl, (ak aaM 1).trans rfl⟩ (fun hHeld => ?_); clear hK K; refine gN (a' := ?_) ?_ ?_; rotate_left
   ·show Act.put _ (some 17) _ = _; simp only [Act.put, List.setIfInBounds_toArray, List.set_cons_zero, List.set_cons_succ, aU, aV]; rfl
   obtain ⟨Ac, cc, rfl⟩ := Kd.bQ hRc; refine bT (i := 6) (N := some 18) (v := ?_) (a' := ?_) #[true, true, true, true, true, true, true, false, false, false] rfl rfl (bB HT_.out (by kernel_rfl)) (fun _ _ _ h => h) (Or.inl ⟨by rfl, ?_⟩) ?_ ?_; rotate_left
   ·intro w'; go_simp; with_reducible rfl
   rotate_left
   ·simp only [Act.put, List.setIfInBounds_toArray, List.set_cons_zero, List.set_cons_succ, aU, aV]; rfl
   refine jy (i := 7) (N := some 19) #[true, true, true, true, true, true, true, true, false, false] rfl rfl (fI HT_.out (by kernel_rfl)) (by decide) (fun K hK => ?_)
   refine Kd.jS (Kd.raw 2) _ 94 ?hg (N := 19) ?hd (xs := [[Value.string pn.f0, Value.slice Ac pn.f1.length cc]]) (inner := [Value.string pn.f0, Value.slice Ac pn.f1.length cc]) (ok := fun k => w4.heap.size ≤ k) (okp := fun k => w4.heap.size ≤ k) ?hr ?hp (fun _ hk => hk) (Nat.le_refl _) (Below.refl _ _) (Nat.le_refl _) (by simp) ?_; (case hd => rfl); (case hg => rfl); (case hr => first | (go_simp; done) | (go_simp; rfl)); (case hp => exact ⟨rfl, fun j p hj => by
    rcases j with _ | j
    ·simp only [List.getElem?_cons_zero, Option.some.injEq] at hj; subst hj; exact ⟨rfl, rfl, fun u hu => by
      have hu : u ∈ [Value.string pn.f0, Value.slice Ac pn.f1.length cc] := hu
      have hu : u = Value.string pn.f0 ∨ u = Value.slice Ac pn.f1.length cc := by simpa using hu
      rcases hu with rfl | rfl <;> rfl⟩
    ·simp at hj⟩)
   intro v5 w5 ho5 RZ hg5 hn5; have aer := bP aaM RZ; refine hK.out _ _ ⟨(ak aer 0).trans rfl, (ak aer 1).trans rfl⟩ (fun hHeld => ?_); clear hK K; refine gN (a' := ?_) ?_ ?_; rotate_left
   ·show Act.put _ (some 19) _ = _; simp only [Act.put, List.setIfInBounds_toArray, List.set_cons_zero, List.set_cons_succ, aU, aV]; rfl
   obtain ⟨A5, c5, rfl⟩ := Kd.bQ ho5; refine qg (i := 8) (N := some 20) #[true, true, true, true, true, true, true, true, true, false] rfl rfl (fI HT_.out (by kernel_rfl)) (by decide) (fun K hK => ?_); refine Kd.gV k94 (Rr := fun x cs => x = pn ∧ cs = [Value.string pn.f0, Value.slice Ac pn.f1.length cc]) (w0 := w) w.heap.size ?hw (.tmp 12) (.tmp 19) 53 94 (.agg #[(.string ⟨#[]⟩), (.slice none 0 0)]) 40 rfl Try.underlying53 yO rfl (by decide) (by omega) (.slice A3 k c3) (l.take k) [pn] A5 1 c5 (fun _ => True) (fun k_ => some k_ = (Value.slice Ac pn.f1.length cc).ownBlock) rfl rfl (Kd.dE (Kd.dE (Kd.bn (Kd.dE HO.out hb5)) hb4) RZ) ?HRR ?hKM ?hokp (fun _ _ => trivial) (aA (aA (aj (aA HB.out hb5)) hb4) RZ) ?hbase ?hl ?_
   case hw => rfl
   case HRR =>
    obtain ⟨_, _, hC⟩ := Kd.bY ho5; refine ⟨rfl, by omega, fun hp => ?_⟩; obtain ⟨ad5, e, hcx⟩ := hC.2.2 hp; refine ⟨ad5, e, fun j p hj => ?_⟩
    rcases j with _ | j
    ·obtain ⟨cs, c1, ⟨c2, _, _⟩, c3⟩ := hcx 0 _ rfl; simp only [List.getElem?_cons_zero, Option.some.injEq] at hj; exact ⟨cs, c1, ⟨hj.symm, c2⟩, c3⟩
    ·simp at hj
   case hKM =>
    rintro x cs ⟨rfl, rfl⟩; exact De w5 w.heap.size _ _ (Kd.kR rfl (Kd.fA (Kd.dE hRc RZ) (by have := HB.out.size; have := hb5.size; show w.heap.size ≤ W5.heap.size; omega)))
   case hokp =>
    intro k_ hk_; have hb := Kd.iN hRc k_ hk_.symm; have hlt := Kd.oN HO.out; exact ⟨trivial, fun e => by have := hlt k_ e.symm; have := hb5.size; have h0 : W5.drew.heap.size ≤ k_ := hb; have h1 : W5.heap.size ≤ k_ := h0; omega⟩
   case hbase => have := HB.out.size; have := hb5.size; have h4 : W5.heap.size ≤ w4.heap.size := hb4.size; have := RZ.size; omega
   case hl => have := HL.out; rw [List.length_take]; simp; omega
   intro v6 w6 ho6 hB6 hg6 Tp; refine hK.out _ _ ?_; clear hK K; refine gN (a' := ?_) ?_ ?_; rotate_left
   ·show Act.put _ (some 20) _ = _; simp only [Act.put, List.setIfInBounds_toArray, List.set_cons_zero, List.set_cons_succ, aU, aV]; rfl
   refine bT (i := 9) (N := some 3) (v := ?_) (a' := ?_) #[true, true, true, true, true, true, true, true, true, true] rfl rfl (bB HT_.out (by kernel_rfl)) (fun _ _ _ h => h) (Or.inl ⟨by rfl, ?_⟩) ?_ ?_; rotate_left
   ·intro w'; go_simp; with_reducible rfl
   rotate_left
   ·simp only [Act.put, List.setIfInBounds_toArray, List.set_cons_zero, List.set_cons_succ, aU, aV]; rfl
   refine mY (jA HT_.out (by kernel_rfl)) ?_; go_wp2
   have hw : wrap64 ((k : Int) + 1) = ((k + 1 : Nat) : Int) := by unfold wrap64; have := HL.out; omega
   refine ⟨⟨k + 1, by omega, by rw [hw], ⟨?_⟩, ⟨hB6⟩⟩, ?_⟩
   ·have e : l.take (k + 1) = l.take k ++ [pn] := by
     rw [List.take_succ_eq_append_getElem hlt, HP.out]; simp [bG, hlt]
    rw [e]; exact ho6
   ·rw [hw]; simp only [intOf, Int.toNat_natCast]; omega
  ·obtain rfl : k = l.length := by omega
   go_wp2; go_ret; exact ⟨_, rfl, by have := HO.out; rw [List.take_length] at this; exact this, HB.out⟩
end Go.Proofs.Ytkgeihbcikiedaa.P
set_option linter.unusedVariables false
set_option linter.unusedSimpArgs false
set_option linter.constructorNameAsVariable false
set_option linter.unusedSectionVars false
namespace Go.Proofs.Ytkgeihbcikiedaa.P
open Go.RowKit Go.Shelf Go.Proofs.YtkgeihbcikiedaaW.PrintWords Go.Proofs.YtkgeihbcikiedaaW.PrintLast Go.Proofs.YtkgeihbcikiedaaW.PrintMore
attribute [local go_sem] eU eX fU fV dX dY eZ fo
def aes : List Nat := [0, 1, 3, 7, 15, 0, 0, 64, 192, 448, 1023, 0, 0, 4096, 12288, 28672, 65535, 131071, 262143]
noncomputable def XE : Bool × List (List Nat × List Nat) := iZ .any (opsOf Try.f20 2)
theorem VP : iZ .any (opsOf Try.f20 2) = XE := rfl
theorem R3 : ji XE.2 aes = true := by kernel_rfl
set_option maxHeartbeats 8000000 in
set_option maxRecDepth 100000 in
theorem NT (nb g : Nat) (s : BSt) (w0 w : World) (hI : BS w0 w nb g s) (hl : s.nodes.length < 1000000 ∧ s.ins.length < 1000000 ∧ s.outs.length < 1000000) (hli : ∀ p ∈ s.ins, p.f1.length < 1000000) (hlo : ∀ p ∈ s.outs, p.f1.length < 1000000) :
 Calls Try.prog 20 #[.pointer (some ⟨g, 0, none⟩)] w fun e w' => ∃ A0 c0 A1 c1 A2 c2, e = .returned (.agg #[.slice A0 s.nodes.length c0, .slice A1 s.ins.length c1, .slice A2 s.outs.length c2]) ∧
  (s.nodes.length ≤ c0 ∧ Kd.C k92 w' A0 s.nodes.length s.nodes) ∧ (s.ins.length ≤ c1 ∧ Kd.C k94 w' A1 s.ins.length s.ins) ∧ (s.outs.length ≤ c2 ∧ Kd.C k94 w' A2 s.outs.length s.outs) ∧ BS w0 w' nb g s ∧ Below w.heap.size w w' := by
 have HL := af.mk hl; have HLi := af.mk hli; have HLo := af.mk hlo; have HI := af.mk hI; have Bl := Try.underlying55; have acb := Try.underlying89; clear hl hli hlo; have lg := hI.lt; obtain ⟨h1, h2, vn, vi, vo, ok1, ok2, ok3, hb0, n1, n2, n3, t1, t2, t3⟩ := hI; obtain ⟨An, cn, rfl⟩ := Kd.rC n1; obtain ⟨Ai, ci, rfl⟩ := Kd.bQ n2; obtain ⟨Ao, co, rfl⟩ := Kd.bQ n3; obtain ⟨_, hcn, hrn⟩ := Kd.uX n1; obtain ⟨_, hci, hri⟩ := Kd.bY n2; obtain ⟨_, hco, hro⟩ := Kd.bY n3; have HRn := af.mk hrn; have HRi := af.mk hri; have HRo := af.mk hro; have HCn := af.mk hcn; have HCi := af.mk hci; have HCo := af.mk hco; clear hcn hci hco hrn hri hro n1 n2 n3 t1 t2 t3 h1 h2; have HG := af.mk hb0; clear hb0
 go_enter Try.func20, Try.ntmps20
 go_wp2; have hbx := heap_alloc_new w (.cells #[.slice none 0 0, .slice none 0 0, .slice none 0 0] 55); have bl1 : Below w.heap.size w (w.alloc (.cells #[.slice none 0 0, .slice none 0 0, .slice none 0 0] 55)) := ai (Below.refl _ _) _; have hb1 := bP HG.out bl1; refine mF (n := 19) (S := fun w' => w'.cell? ⟨g, 0, none⟩ = some (.slice An s.nodes.length cn) ∧ w'.cell? ⟨g, 1, none⟩ = some (.slice Ai s.ins.length ci) ∧ w'.cell? ⟨g, 2, none⟩ = some (.slice Ao s.outs.length co)) (ds := [18]) #[false, false, false, false, false, false, false, false, false, false, false, false, false, false, false, false, false, false, false] (by kernel_rfl) rfl rfl ⟨(ak (aH hb1) 0).trans rfl, (ak (aH hb1) 1).trans rfl, (ak (aH hb1) 2).trans rfl⟩ (fun hHeld => ?_); refine gW VP R3 (fun HT_ HW_ => ?_); refine bT (i := 0) (N := some 4) (v := ?_) (a' := ?_) #[true, false, false, false, false, false, false, false, false, false, false, false, false, false, false, false, false, false, false] rfl rfl (bB HT_.out (by kernel_rfl)) (fun _ _ _ h => h) (Or.inl ⟨by rfl, ?_⟩) ?_ ?_; rotate_left
 ·intro w'; go_simp; with_reducible rfl
 rotate_left
 ·simp only [Act.put, List.setIfInBounds_toArray, List.set_cons_zero, List.set_cons_succ, aU, aV]; rfl
 refine bT (i := 1) (N := some 5) (v := ?_) (a' := ?_) #[true, true, false, false, false, false, false, false, false, false, false, false, false, false, false, false, false, false, false] rfl rfl (bB HT_.out (by kernel_rfl)) (fun _ _ _ h => h) (Or.inl ⟨by rfl, ?_⟩) ?_ ?_; rotate_left
 ·intro w'; go_simp; with_reducible rfl
 rotate_left
 ·simp only [Act.put, List.setIfInBounds_toArray, List.set_cons_zero, List.set_cons_succ, aU, aV]; rfl
 refine bT (i := 2) (N := some 6) (v := ?_) (a' := ?_) #[true, true, true, false, false, false, false, false, false, false, false, false, false, false, false, false, false, false, false] rfl rfl (bB HT_.out (by kernel_rfl)) (fun _ _ _ h => h) (Or.inl ⟨by rfl, ?_⟩) ?_ ?_; rotate_left
 ·intro w'; go_simp; with_reducible rfl
 rotate_left
 ·simp only [Act.put, List.setIfInBounds_toArray, List.set_cons_zero, List.set_cons_succ, aU, aV]; rfl
 refine iq (i := 3) (N := some 7) (v := ?_) (a' := ?_) #[true, true, true, true, false, false, false, false, false, false, false, false, false, false, false, false, false, false, false] rfl rfl (eB HT_.out HW_.out (by kernel_rfl)) (fun _ _ _ h => h) (Or.inl ⟨by rfl, ?_⟩) hHeld ?_ ?_; rotate_left
 ·rintro w' ⟨s0, s1, s2⟩; go_simp; with_reducible rfl
 rotate_left
 ·simp only [Act.put, List.setIfInBounds_toArray, List.set_cons_zero, List.set_cons_succ, aU, aV]; rfl
 refine bT (i := 5) (N := some 9) (v := ?_) (a' := ?_) #[true, true, true, true, false, true, false, false, false, false, false, false, false, false, false, false, false, false, false] rfl rfl (bB HT_.out (by kernel_rfl)) (fun _ _ _ h => h) (Or.inl ⟨by rfl, ?_⟩) ?_ ?_; rotate_left
 ·intro w'; go_simp; with_reducible rfl
 rotate_left
 ·simp only [Act.put, List.setIfInBounds_toArray, List.set_cons_zero, List.set_cons_succ, aU, aV]; rfl
 refine bT (i := 6) (N := some 10) (v := ?_) (a' := ?_) #[true, true, true, true, false, true, true, false, false, false, false, false, false, false, false, false, false, false, false] rfl rfl (bB HT_.out (by kernel_rfl)) (fun _ _ _ h => h) (Or.inl ⟨by rfl, ?_⟩) ?_ ?_; rotate_left
 ·intro w'; go_simp; with_reducible rfl
 rotate_left
 ·simp only [Act.put, List.setIfInBounds_toArray, List.set_cons_zero, List.set_cons_succ, aU, aV]; rfl
 refine bT (i := 7) (N := some 11) (v := ?_) (a' := ?_) #[true, true, true, true, false, true, true, true, false, false, false, false, false, false, false, false, false, false, false] rfl rfl (bB HT_.out (by kernel_rfl)) (fun _ _ _ h => h) (Or.inl ⟨by rfl, ?_⟩) ?_ ?_; rotate_left
 ·intro w'; go_simp; with_reducible rfl
 rotate_left
 ·simp only [Act.put, List.setIfInBounds_toArray, List.set_cons_zero, List.set_cons_succ, aU, aV]; rfl
 refine bT (i := 8) (N := some 12) (v := ?_) (a' := ?_) #[true, true, true, true, false, true, true, true, true, false, false, false, false, false, false, false, false, false, false] rfl rfl (bB HT_.out (by kernel_rfl)) (fun _ _ _ h => h) (Or.inl ⟨by rfl, ?_⟩) ?_ ?_; rotate_left
 ·intro w'; go_simp; with_reducible rfl
 rotate_left
 ·simp only [Act.put, List.setIfInBounds_toArray, List.set_cons_zero, List.set_cons_succ, aU, aV]; rfl
 refine iq (i := 9) (N := some 13) (v := ?_) (a' := ?_) #[true, true, true, true, false, true, true, true, true, true, false, false, false, false, false, false, false, false, false] rfl rfl (eB HT_.out HW_.out (by kernel_rfl)) (fun _ _ _ h => h) (Or.inl ⟨by rfl, ?_⟩) hHeld ?_ ?_; rotate_left
 ·rintro w' ⟨s0, s1, s2⟩; go_simp; with_reducible rfl
 rotate_left
 ·simp only [Act.put, List.setIfInBounds_toArray, List.set_cons_zero, List.set_cons_succ, aU, aV]; rfl
 refine bT (i := 11) (N := some 15) (v := ?_) (a' := ?_) #[true, true, true, true, false, true, true, true, true, true, false, true, false, false, false, false, false, false, false] rfl rfl (bB HT_.out (by kernel_rfl)) (fun _ _ _ h => h) (Or.inl ⟨by rfl, ?_⟩) ?_ ?_; rotate_left
 ·intro w'; go_simp; with_reducible rfl
 rotate_left
 ·simp only [Act.put, List.setIfInBounds_toArray, List.set_cons_zero, List.set_cons_succ, aU, aV]; rfl
 refine bT (i := 12) (N := some 16) (v := ?_) (a' := ?_) #[true, true, true, true, false, true, true, true, true, true, false, true, true, false, false, false, false, false, false] rfl rfl (bB HT_.out (by kernel_rfl)) (fun _ _ _ h => h) (Or.inl ⟨by rfl, ?_⟩) ?_ ?_; rotate_left
 ·intro w'; go_simp; with_reducible rfl
 rotate_left
 ·simp only [Act.put, List.setIfInBounds_toArray, List.set_cons_zero, List.set_cons_succ, aU, aV]; rfl
 refine bT (i := 13) (N := some 17) (v := ?_) (a' := ?_) #[true, true, true, true, false, true, true, true, true, true, false, true, true, true, false, false, false, false, false] rfl rfl (bB HT_.out (by kernel_rfl)) (fun _ _ _ h => h) (Or.inl ⟨by rfl, ?_⟩) ?_ ?_; rotate_left
 ·intro w'; go_simp; with_reducible rfl
 rotate_left
 ·simp only [Act.put, List.setIfInBounds_toArray, List.set_cons_zero, List.set_cons_succ, aU, aV]; rfl
 refine bT (i := 14) (N := some 18) (v := ?_) (a' := ?_) #[true, true, true, true, false, true, true, true, true, true, false, true, true, true, true, false, false, false, false] rfl rfl (bB HT_.out (by kernel_rfl)) (fun _ _ _ h => h) (Or.inl ⟨by rfl, ?_⟩) ?_ ?_; rotate_left
 ·intro w'; go_simp; with_reducible rfl
 rotate_left
 ·simp only [Act.put, List.setIfInBounds_toArray, List.set_cons_zero, List.set_cons_succ, aU, aV]; rfl
 refine iq (i := 15) (N := some 19) (v := ?_) (a' := ?_) #[true, true, true, true, false, true, true, true, true, true, false, true, true, true, true, true, false, false, false] rfl rfl (eB HT_.out HW_.out (by kernel_rfl)) (fun _ _ _ h => h) (Or.inl ⟨by rfl, ?_⟩) hHeld ?_ ?_; rotate_left
 ·rintro w' ⟨s0, s1, s2⟩; go_simp; with_reducible rfl
 rotate_left
 ·simp only [Act.put, List.setIfInBounds_toArray, List.set_cons_zero, List.set_cons_succ, aU, aV]; rfl
 refine jy (i := 4) (N := some 8) #[true, true, true, true, true, true, true, true, true, true, false, true, true, true, true, true, false, false, false] rfl rfl (fI HT_.out (by kernel_rfl)) (by decide) (fun K hK => ?_); refine ng Try.func49 (by kernel_rfl) rfl #[.slice An s.nodes.length cn] (by rfl) rfl rfl (by (try simp only [List.map_toArray, List.map_cons, List.map_nil]); first | done | rfl) ?_; refine (EJ An cn s.nodes _ (Kd.bR HRn.out (gT bl1)) HCn.out HL.out.1).mono ?_; rintro e w4 ⟨v4, rfl, hR4, hb4⟩; refine ⟨_, rfl, ?_⟩; have Bt := bP (aH hb1) hb4; refine hK.out _ _ ⟨(ak Bt 0).trans rfl, (ak Bt 1).trans rfl, (ak Bt 2).trans rfl⟩ (fun hHeld => ?_); clear hK K; refine gN (a' := ?_) ?_ ?_; rotate_left
 ·show Act.put _ (some 8) _ = _; simp only [Act.put, List.setIfInBounds_toArray, List.set_cons_zero, List.set_cons_succ, aU, aV]; rfl
 obtain ⟨A4, c4, rfl⟩ := Kd.bQ hR4; refine jy (i := 10) (N := some 14) #[true, true, true, true, true, true, true, true, true, true, true, true, true, true, true, true, false, false, false] rfl rfl (fI HT_.out (by kernel_rfl)) (by decide) (fun K hK => ?_); refine call_ 48 #[.slice Ai s.ins.length ci] (by rfl) rfl ?_ ?_
 ·have he := nO Try.func48 (by kernel_rfl) rfl #[.slice Ai s.ins.length ci] w4; unfold execOp; simp [resolve, Deferred.ofValue, invoke, Act.eval, he]
 refine (Bf Ai ci s.ins w4 (Kd.bR HRi.out (aA (gT bl1) hb4)) HCi.out HL.out.2.1 HLi.out).mono ?_; rintro e w5 ⟨v5, rfl, aet, OV⟩; refine ⟨_, rfl, ?_⟩; have vU := bP Bt OV; refine hK.out _ _ ⟨(ak vU 0).trans rfl, (ak vU 1).trans rfl, (ak vU 2).trans rfl⟩ (fun hHeld => ?_); clear hK K; refine gN (a' := ?_) ?_ ?_; rotate_left
 ·show Act.put _ (some 14) _ = _; simp only [Act.put, List.setIfInBounds_toArray, List.set_cons_zero, List.set_cons_succ, aU, aV]; rfl
 obtain ⟨A5, c5, rfl⟩ := Kd.bQ aet; refine jy (i := 16) (N := some 20) #[true, true, true, true, true, true, true, true, true, true, true, true, true, true, true, true, true, false, false] rfl rfl (fI HT_.out (by kernel_rfl)) (by decide) (fun K hK => ?_); refine call_ 48 #[.slice Ao s.outs.length co] (by rfl) rfl ?_ ?_
 ·have he := nO Try.func48 (by kernel_rfl) rfl #[.slice Ao s.outs.length co] w5; unfold execOp; simp [resolve, Deferred.ofValue, invoke, Act.eval, he]
 refine (Bf Ao co s.outs w5 (Kd.bR HRo.out (aA (aA (gT bl1) hb4) OV)) HCo.out HL.out.2.2 HLo.out).mono ?_; rintro e w6 ⟨v6, rfl, aeu, R4⟩; refine ⟨_, rfl, ?_⟩; have nI := bP vU R4; refine hK.out _ _ ⟨(ak nI 0).trans rfl, (ak nI 1).trans rfl, (ak nI 2).trans rfl⟩ (fun hHeld => ?_); clear hK K; refine gN (a' := ?_) ?_ ?_; rotate_left
 ·show Act.put _ (some 20) _ = _; simp only [Act.put, List.setIfInBounds_toArray, List.set_cons_zero, List.set_cons_succ, aU, aV]; rfl
 obtain ⟨A6, c6, rfl⟩ := Kd.bQ aeu; refine bT (i := 17) (N := some 21) (v := ?_) (a' := ?_) #[true, true, true, true, true, true, true, true, true, true, true, true, true, true, true, true, true, true, false] rfl rfl (bB HT_.out (by kernel_rfl)) (fun _ _ _ h => h) (Or.inl ⟨by rfl, ?_⟩) ?_ ?_; rotate_left
 ·intro w'; go_simp; with_reducible rfl
 rotate_left
 ·simp only [Act.put, List.setIfInBounds_toArray, List.set_cons_zero, List.set_cons_succ, aU, aV]; rfl
 refine qg (i := 18) (N := none) #[true, true, true, true, true, true, true, true, true, true, true, true, true, true, true, true, true, true, true] rfl rfl (fI HT_.out (by kernel_rfl)) (by decide) (fun K hK => ?_); have IV := bP (aH hbx) hb4; have Nv := bP IV OV; have Kq := bP Nv R4; have q0 : w6.cell? ⟨w.heap.size, 0, none⟩ = some (.slice none 0 0) := (ak Kq 0).trans rfl; have q1 : w6.cell? ⟨w.heap.size, 1, none⟩ = some (.slice none 0 0) := (ak Kq 1).trans rfl; have q2 : w6.cell? ⟨w.heap.size, 2, none⟩ = some (.slice none 0 0) := (ak Kq 2).trans rfl; have f0 := au Kq 0; have f1 := au Kq 1; have f2 := au Kq 2; refine yN (w1 := ?_) (by rfl) rfl ?_ ?_; rotate_left
 ·go_simp; rfl
 refine hK.out _ _ ?_; clear hK K; refine mY (jA HT_.out (by kernel_rfl)) ?_
 have e7 : (w6.setCell ⟨w.heap.size, 0, none⟩ (.slice A4 s.nodes.length c4)).heap[w.heap.size]? = some (.cells #[.slice A4 s.nodes.length c4, .slice none 0 0, .slice none 0 0] 55 (0, 0)) := by simpa using jN Kq 0 (.slice A4 s.nodes.length c4)
 have e8 : ((w6.setCell ⟨w.heap.size, 0, none⟩ (.slice A4 s.nodes.length c4)).setCell ⟨w.heap.size, 1, none⟩ (.slice A5 s.ins.length c5)).heap[w.heap.size]? = some (.cells #[.slice A4 s.nodes.length c4, .slice A5 s.ins.length c5, .slice none 0 0] 55 (0, 0)) := by simpa using jN e7 1 (.slice A5 s.ins.length c5)
 have e9 : (((w6.setCell ⟨w.heap.size, 0, none⟩ (.slice A4 s.nodes.length c4)).setCell ⟨w.heap.size, 1, none⟩ (.slice A5 s.ins.length c5)).setCell ⟨w.heap.size, 2, none⟩ (.slice A6 s.outs.length c6)).heap[w.heap.size]? = some (.cells #[.slice A4 s.nodes.length c4, .slice A5 s.ins.length c5, .slice A6 s.outs.length c6] 55 (0, 0)) := by simpa using jN e8 2 (.slice A6 s.outs.length c6)
 have bl6 : Below w.heap.size w w6 := aA (aA (aA (gT bl1) hb4) OV) R4; have bl9 : Below w.heap.size w (((w6.setCell ⟨w.heap.size, 0, none⟩ (.slice A4 s.nodes.length c4)).setCell ⟨w.heap.size, 1, none⟩ (.slice A5 s.ins.length c5)).setCell ⟨w.heap.size, 2, none⟩ (.slice A6 s.outs.length c6)) := ay (ay (ay bl6 (Nat.le_refl _)) (Nat.le_refl _)) (Nat.le_refl _)
 have fr : ∀ k, k ≠ w.heap.size → (((w6.setCell ⟨w.heap.size, 0, none⟩ (.slice A4 s.nodes.length c4)).setCell ⟨w.heap.size, 1, none⟩ (.slice A5 s.ins.length c5)).setCell ⟨w.heap.size, 2, none⟩ (.slice A6 s.outs.length c6)).heap[k]? = w6.heap[k]? := fun k hk =>
  (Below.heap_setCell _ ⟨w.heap.size, 2, none⟩ _ k hk).trans ((Below.heap_setCell _ ⟨w.heap.size, 1, none⟩ _ k hk).trans (Below.heap_setCell _ ⟨w.heap.size, 0, none⟩ _ k hk))
 have c90 : (((w6.setCell ⟨w.heap.size, 0, none⟩ (.slice A4 s.nodes.length c4)).setCell ⟨w.heap.size, 1, none⟩ (.slice A5 s.ins.length c5)).setCell ⟨w.heap.size, 2, none⟩ (.slice A6 s.outs.length c6)).cell? ⟨w.heap.size, 0, none⟩ = some (.slice A4 s.nodes.length c4) := (ak e9 0).trans rfl; have c91 : (((w6.setCell ⟨w.heap.size, 0, none⟩ (.slice A4 s.nodes.length c4)).setCell ⟨w.heap.size, 1, none⟩ (.slice A5 s.ins.length c5)).setCell ⟨w.heap.size, 2, none⟩ (.slice A6 s.outs.length c6)).cell? ⟨w.heap.size, 1, none⟩ = some (.slice A5 s.ins.length c5) := (ak e9 1).trans rfl; have c92 : (((w6.setCell ⟨w.heap.size, 0, none⟩ (.slice A4 s.nodes.length c4)).setCell ⟨w.heap.size, 1, none⟩ (.slice A5 s.ins.length c5)).setCell ⟨w.heap.size, 2, none⟩ (.slice A6 s.outs.length c6)).cell? ⟨w.heap.size, 2, none⟩ = some (.slice A6 s.outs.length c6) := (ak e9 2).trans rfl; generalize hW9 : (((w6.setCell ⟨w.heap.size, 0, none⟩ (.slice A4 s.nodes.length c4)).setCell ⟨w.heap.size, 1, none⟩ (.slice A5 s.ins.length c5)).setCell ⟨w.heap.size, 2, none⟩ (.slice A6 s.outs.length c6)) = W9 at *; go_wp2; refine bodyPost_ret (v := .agg #[.slice A4 s.nodes.length c4, .slice A5 s.ins.length c5, .slice A6 s.outs.length c6]) ?_ rfl ?_
 ·simp [results, Try.f20, go_sem, c90, c91, c92, Bl]
 have sz1 : (w.alloc (.cells #[.slice none 0 0, .slice none 0 0, .slice none 0 0] 55)).heap.size = w.heap.size + 1 := by simp
 have s4 : w.heap.size + 1 ≤ w4.heap.size := by have h := hb4.size; have h1 : (w.alloc (.cells #[.slice none 0 0, .slice none 0 0, .slice none 0 0] 55)).heap.size ≤ w4.heap.size := h; omega
 have s5 : w4.heap.size ≤ w5.heap.size := OV.size; have r4 := Kd.dE (Kd.dE hR4 OV) R4; have r5 := Kd.dE aet R4; have m4 := Kd.jr (Kd.gP r4) (w1 := W9) (fun k hk _ => fr k (by have h := hk.2.1; have h1 : (w.alloc (.cells #[.slice none 0 0, .slice none 0 0, .slice none 0 0] 55)).heap.size ≤ k := h; omega)); have m5 := Kd.jr (Kd.gP r5) (w1 := W9) (fun k hk _ => fr k (by have h := hk.2.1; omega)); have m6 := Kd.jr (Kd.gP aeu) (w1 := W9) (fun k hk _ => fr k (by have h := hk.2.1; omega)); exact ⟨_, _, _, _, _, _, rfl, (Kd.bY m4).2, (Kd.bY m5).2, (Kd.bY m6).2, HI.out.below bl9, bl9⟩
end Go.Proofs.Ytkgeihbcikiedaa.P
set_option linter.unusedVariables false
set_option linter.unusedSimpArgs false
set_option linter.constructorNameAsVariable false
set_option linter.unusedSectionVars false
namespace Go.Proofs.Ytkgeihbcikiedaa.P
open Go.RowKit Go.Shelf Go.Proofs.YtkgeihbcikiedaaW.PrintWords Go.Proofs.YtkgeihbcikiedaaW.PrintLast Go.Proofs.YtkgeihbcikiedaaW.PrintMore
attribute [local go_sem] eU eX fU fV dX dY eZ fo
def WK (w0 w W : World) (nb g : Nat) (s : BSt) : Prop := BS w0 W nb g s ∧ Below w0.heap.size w0 W ∧ KB w W g
section
variable {w0 w W W1 : World} {nb g : Nat} {s s1 : BSt}
theorem WK.below (h : WK w0 w W nb g s) (hb : Below W.heap.size W W1) : WK w0 w W1 nb g s := ⟨h.1.below hb, aA h.2.1 hb, h.2.2.trans (.of_below hb g)⟩
theorem WK.drew (h : WK w0 w W nb g s) : WK w0 w W.drew nb g s := ⟨h.1.drew, aj h.2.1, h.2.2.drew⟩
theorem WK.alloc (h : WK w0 w W nb g s) (o : Obj) : WK w0 w (W.alloc o) nb g s := h.below (ai (Below.refl _ _) _)
theorem WK.call (h : WK w0 w W nb g s) (hi : BS w0 W1 nb g s1) (hb : Below w0.heap.size w0 W1) (hk : KB W W1 g) : WK w0 w W1 nb g s1 := ⟨hi, hb, h.2.2.trans hk⟩
theorem WK.kb (h : WK w0 w W nb g s) : KB w W g := h.2.2
theorem WK.bs (h : WK w0 w W nb g s) : BS w0 W nb g s := h.1
theorem WK.bl (h : WK w0 w W nb g s) : Below w0.heap.size w0 W := h.2.1
theorem WK.size (h : WK w0 w W nb g s) : w.heap.size ≤ W.heap.size := h.2.2.1
theorem WK.far (h : WK w0 w W nb g s) {p : Addr} (hp : w.heap.size ≤ p.block) (hw : w0.heap.size ≤ w.heap.size) (hn : ¬ Bld W nb p.block) (u : Value) : WK w0 w (W.setCell p u) nb g s :=
 ⟨h.1.far hn u, h.2.1.setCell (by omega) u, h.2.2.far hp u⟩
theorem WK.ou {base : Nat} {ok : Nat → Prop} {v : Value} {xs : List Int} (h : WK w0 w W nb g s) (hR : Kd.R (Kd.int .i64) 3 W base ok v xs) (hb : nb ≤ base) (hw0 : w0.heap.size ≤ base) (hw : w.heap.size ≤ base) (hg : W.grownBy W1 v.ownBlock) : WK w0 w W1 nb g s :=
 ⟨h.1.ou hR hb hg, Below.ou h.2.1 hR hw0 hg, h.2.2.ou hR hw hg⟩
theorem KB.cells {k : Nat} {c : Array Value} {t : TypeId} (hk : KB W W1 g) (h : W.heap[k]? = some (.cells c t (0, 0))) (ht : t ≠ 89 ∧ t ≠ 92 ∧ t ≠ 94) : W1.heap[k]? = some (.cells c t (0, 0)) := (hk.2 k (gU h) (.of ⟨_, h⟩ ht)).trans h
end
theorem VH {W : World} {bb : Nat} {L : List Int} (h : IL W bb L) (i m : Nat) (hm : i + m ≤ L.length) (hb : m ≤ 1000000) : Kd.C (Kd.int .i64) W (some ⟨bb, i, none⟩) m ((L.drop i).take m) := by
 refine Kd.sS (enc := Value.int .i64) (d := (0 : Int)) (h1 := fun _ => rfl) ⟨by simp; omega, by omega, fun _ => ⟨_, rfl, fun j hj => ?_⟩⟩; have := h.cell (j := i + j) (by omega); rw [show Addr.add ⟨bb, i, none⟩ j = ⟨bb, i + j, none⟩ from by unfold Addr.add; split <;> simp [*], this]; have hj' : j < m := hj; simp [List.getD_eq_getElem?_getD, List.getElem?_take, List.getElem?_drop, hj']
theorem Jh {W : World} {bb n : Nat} {L : List Int} (h : IL W bb L) (hn : L.length = n) (hb : n ≤ 1000000) : Kd.C (Kd.int .i64) W (some ⟨bb, 0, none⟩) n L := by
 have := VH h 0 n (by omega) hb; rw [List.drop_zero, List.take_of_length_le (by omega)] at this; exact this
theorem fold_at {nb g : Nat} {s : BSt} {kind : Int} {A : Option Addr} {c n : Nat} {l : List Int} {w0 w : World} (hI : BS w0 w nb g s) (hB : Below w0.heap.size w0 w) (hr : Kd.C (Kd.int .i64) w A n l) (hc : n ≤ c) (hp : 0 < n) (hl : s.nodes.length + 2 * n < 1000000) :
 Calls Try.prog 64 #[.pointer (some ⟨g, 0, none⟩), .int .i64 kind, .slice A n c] w fun e w' => e = .returned (.int .i64 (ig kind l s).1) ∧ BS w0 w' nb g (ig kind l s).2 ∧ Below w0.heap.size w0 w' ∧ KB w w' g := by
 obtain rfl : l.length = n := hr.1; exact OT nb g s kind A c l w0 w hI hB hr hc hp hl
theorem Hz {A : Option Addr} {c n : Nat} {l : List Int} {w : World} (hr : Kd.C (Kd.int .i64) w A n l) (hc : n ≤ c) (hl : n < 1000000) :
 Calls Try.prog 38 #[.slice A n c] w fun e w' => ∃ v, e = .returned v ∧ Kd.R (Kd.int .i64) 3 w' w.heap.size (fun _ => True) v l ∧ Below w.heap.size w w' := by
 obtain rfl : l.length = n := hr.1; exact eQ.calls A c l l w hr hc (by unfold eQ.f; rw [if_pos hl])
section
variable {w0 w W : World} {nb g : Nat} {s : BSt}
theorem mM (s : BSt) (x : S92) : (gQ s x).2.nodes.length = s.nodes.length + 1 := by simp [gQ]
theorem EG (h : WK w0 w W nb g s) (hl : s.nodes.length < 1000000) (a : Int) : Calls Try.prog 65 #[.pointer (some ⟨g, 0, none⟩), .int .i64 a] W fun e w' => e = .returned (.int .i64 (gQ s ⟨2, a, 0, 0⟩).1) ∧ WK w0 w w' nb g (gQ s ⟨2, a, 0, 0⟩).2 ∧ KB W w' g := by
 refine (qF.calls nb g s a _ _ w0 W h.bs h.bl (oI _ hl)).mono ?_; rintro e w' ⟨he, a, b, c⟩; exact ⟨he, h.call a b c, c⟩
theorem Xx (h : WK w0 w W nb g s) (hl : s.nodes.length < 1000000) (a b : Int) : Calls Try.prog 43 #[.pointer (some ⟨g, 0, none⟩), .int .i64 a, .int .i64 b] W fun e w' => e = .returned (.int .i64 (gQ s ⟨4, a, b, 0⟩).1) ∧ WK w0 w w' nb g (gQ s ⟨4, a, b, 0⟩).2 ∧ KB W w' g := by
 refine (o7.calls nb g s a b _ _ w0 W h.bs h.bl (oI _ hl)).mono ?_; rintro e w' ⟨he, a, b, c⟩; exact ⟨he, h.call a b c, c⟩
theorem Kj (h : WK w0 w W nb g s) (hl : s.nodes.length < 1000000) (a b : Int) : Calls Try.prog 66 #[.pointer (some ⟨g, 0, none⟩), .int .i64 a, .int .i64 b] W fun e w' => e = .returned (.int .i64 (gQ s ⟨3, a, b, 0⟩).1) ∧ WK w0 w w' nb g (gQ s ⟨3, a, b, 0⟩).2 ∧ KB W w' g := by
 refine (nM.calls nb g s a b _ _ w0 W h.bs h.bl (oI _ hl)).mono ?_; rintro e w' ⟨he, a, b, c⟩; exact ⟨he, h.call a b c, c⟩
end
theorem Kr (kind : Int) (L : List Int) (s : BSt) : (ol kind L s).2.nodes.length ≤ s.nodes.length + (L.length + 1) / 2 := by
 have := (qP kind L s (List.finRange ((L.length + 1) / 2))).2.2; rw [List.length_finRange] at this; exact this
theorem mU : ∀ (n : Nat) (kind : Int) (L : List Int) (s : BSt), L.length = n → 0 < n → (ig kind L s).2.nodes.length + 1 ≤ s.nodes.length + 2 * n := fun n => by
 induction n using Nat.strongRecOn with
 | _ n ih =>
  intro kind L s hL hn; rw [ig]
  by_cases h : 2 ≤ L.length
  ·rw [dif_pos h]; have h1 := qG kind L s; have h2 := Kr kind L s; have := ih ((L.length + 1) / 2) (by omega) kind (ol kind L s).1 (ol kind L s).2 h1 (by omega); omega
  ·rw [dif_neg h]; show s.nodes.length + 1 ≤ _; omega
theorem ajf {W : World} {b : Nat} {t : TypeId} {u0 u1 u2 u3 u4 u5 u6 : Value} (h : W.heap[b]? = some (.cells #[u0, u1, u2, u3, u4, u5, u6] t (0, 0))) (v0 v1 v2 v3 v4 v5 v6 : Value) :
 (((((((W.setCell ⟨b, 0, none⟩ v0).setCell ⟨b, 1, none⟩ v1).setCell ⟨b, 2, none⟩ v2).setCell ⟨b, 3, none⟩ v3).setCell ⟨b, 4, none⟩ v4).setCell ⟨b, 5, none⟩ v5).setCell ⟨b, 6, none⟩ v6).heap[b]? = some (.cells #[v0, v1, v2, v3, v4, v5, v6] t (0, 0)) ∧
 (∀ k, k ≠ b → (((((((W.setCell ⟨b, 0, none⟩ v0).setCell ⟨b, 1, none⟩ v1).setCell ⟨b, 2, none⟩ v2).setCell ⟨b, 3, none⟩ v3).setCell ⟨b, 4, none⟩ v4).setCell ⟨b, 5, none⟩ v5).setCell ⟨b, 6, none⟩ v6).heap[k]? = W.heap[k]?) ∧
 (∀ B, B ≤ b → Below B W (((((((W.setCell ⟨b, 0, none⟩ v0).setCell ⟨b, 1, none⟩ v1).setCell ⟨b, 2, none⟩ v2).setCell ⟨b, 3, none⟩ v3).setCell ⟨b, 4, none⟩ v4).setCell ⟨b, 5, none⟩ v5).setCell ⟨b, 6, none⟩ v6)) := by
 have e0 : (W.setCell ⟨b, 0, none⟩ v0).heap[b]? = some (.cells #[v0, u1, u2, u3, u4, u5, u6] t (0, 0)) := by simpa using jN h 0 v0
 have e1 := by simpa using jN e0 1 v1
 have e2 := by simpa using jN e1 2 v2
 have e3 := by simpa using jN e2 3 v3
 have e4 := by simpa using jN e3 4 v4
 have e5 := by simpa using jN e4 5 v5
 have e6 := by simpa using jN e5 6 v6
 refine ⟨e6, fun k hk => ?_, fun B hB => ?_⟩
 ·have f : ∀ (X : World) (j : Nat) (v : Value), (X.setCell ⟨b, j, none⟩ v).heap[k]? = X.heap[k]? := fun X j v => Below.heap_setCell X ⟨b, j, none⟩ v k hk
  rw [f, f, f, f, f, f, f]
 ·exact ((((((((Below.refl B W).setCell (p := ⟨b, 0, none⟩) hB _).setCell (p := ⟨b, 1, none⟩) hB _).setCell (p := ⟨b, 2, none⟩) hB _).setCell (p := ⟨b, 3, none⟩) hB _).setCell (p := ⟨b, 4, none⟩) hB _).setCell (p := ⟨b, 5, none⟩) hB _).setCell (p := ⟨b, 6, none⟩) hB _)
theorem MQ {W : World} {base : Nat} (x : Int) : eF (Kd.M (Kd.int .i64) W base (fun _ => False)) (Kd.int .i64).sz [x] [.int .i64 x] := ⟨rfl, fun j p hj => by
 rcases j with _ | j
 ·simp only [List.getElem?_cons_zero, Option.some.injEq] at hj; subst hj; rfl
 ·simp at hj⟩
theorem aac {P : Program} (t e : TypeId) (kh : IntKind) {i : TypeInfo} (ht : P.underlying t = some (.slice e)) (hi : P.info? e = some i) (A : Option Addr) (n c j : Nat) (hj : j ≤ n) (hc : n ≤ c) :
 ∀ W : World, (Instr.slice t (.slice A n c) none (some (.int kh (j : Int))) none).run P W = .ok (.slice A j c) W := by
 intro W
 have hel : P.elem t = e := by simp [Program.elem, ht]
 have hu : P.underlying t = some (.slice (P.elem t)) := by rw [hel]; exact ht
 rw [run_slice_h W t _ n c hu kh j (by omega) (by omega), hel]
 have ha : (A.map fun x => x.add 0) = A := by cases A <;> simp [Addr.add]
 simp [sizeOf, typeInfo, hi, sliced, Result.andThen, ha]
theorem aad {P : Program} (t e : TypeId) (kh : IntKind) {i : TypeInfo} (ht : P.underlying t = some (.slice e)) (hi : P.info? e = some i) (hs : i.size = 1) (b off n c j m : Nat) (hj : j < m) (hm : m ≤ n) (hc : n ≤ c) :
 ∀ W : World, (Instr.slice t (.slice (some ⟨b, off, none⟩) n c) (some (.int kh (j : Int))) (some (.int kh (m : Int))) none).run P W = .ok (.slice (some ⟨b, off + j, none⟩) (m - j) (c - j)) W := by
 intro W
 have hel : P.elem t = e := by simp [Program.elem, ht]
 have hu : P.underlying t = some (.slice (P.elem t)) := by rw [hel]; exact ht
 rw [run_slice_lh W t _ n c hu kh kh j m (by omega) (by omega) (by omega), hel]
 have h1 : ¬ c = j := by omega
 have ha : Addr.add ⟨b, off, none⟩ j = ⟨b, off + j, none⟩ := by unfold Addr.add; split <;> simp [*]
 simp [sizeOf, typeInfo, hi, hs, sliced, Result.andThen, h1, ha]
structure OfR where
 sign : Int
 exp : List Int
 size : List Int
 zero : Int
 inf : Int
 none_ : Int
 sig : Int
 st : BSt
def ofF (p n : Nat) (xs : List Int) (s : BSt) : OfR :=
 let fr := xs.take (p - 1)
 let fd := (xs.drop (p - 1)).take (n - p)
 let so := ig 4 fr s
 let hi := ig 4 fd so.2
 let fu := ig 3 fd hi.2
 let nh := gQ fu.2 ⟨2, hi.1, 0, 0⟩
 let e0 := gQ nh.2 ⟨4, fd.getD 0 0, nh.1, 0⟩
 let no := gQ e0.2 ⟨3, fu.1, so.1, 0⟩
 let o1 := gQ no.2 ⟨4, hi.1, so.1, 0⟩
 let ze := gQ o1.2 ⟨2, o1.1, 0, 0⟩
 let ns := gQ ze.2 ⟨2, so.1, 0, 0⟩
 let inf := gQ ns.2 ⟨3, fu.1, ns.1, 0⟩
 let nt := gQ inf.2 ⟨2, fr.getD (p - 2) 0, 0, 0⟩
 let sg := gQ nt.2 ⟨3, no.1, nt.1, 0⟩
 ⟨xs.getD (n - 1) 0, fd.set 0 e0.1, fr ++ [hi.1], ze.1, inf.1, no.1, sg.1, sg.2⟩
end Go.Proofs.Ytkgeihbcikiedaa.P
