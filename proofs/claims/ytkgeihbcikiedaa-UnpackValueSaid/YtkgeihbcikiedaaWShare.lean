/- Words on memory, rows and regions that the contracts name, for every program; cut out of a text that the kit's print wrote. -/
import Derived.Test.YtkgeihbcikiedaaWKept
namespace Go.Proofs.YtkgeihbcikiedaaW.PrintWords
open Go.RowKit
def iH (P : World → Prop) (W : World) (ok : Nat → Prop) : Prop := ∀ W' : World, (∀ k, ok k → k < W.heap.size → W'.heap[k]? = W.heap[k]?) → P W'
theorem SH {W W1 : World} {k : Nat} (h : W1.heap[k]? = W.heap[k]?) (hlt : k < W.heap.size) : k < W1.heap.size := by
 rw [Array.getElem?_eq_getElem hlt] at h; exact (Array.getElem?_eq_some_iff.1 h).1
namespace iH
variable {P Q : World → Prop} {W W1 : World} {ok ok' : Nat → Prop}
theorem now (h : iH P W ok) : P W := h W (fun _ _ _ => rfl)
theorem mono (h : iH P W ok) (hok : ∀ k, ok k → ok' k) : iH P W ok' := fun W' hW => h W' (fun k hk hlt => hW k (hok k hk) hlt)
theorem bound (h : iH P W ok) : iH P W (fun k => ok k ∧ k < W.heap.size) := fun W' hW => h W' (fun k hk hlt => hW k ⟨hk, hlt⟩ hlt)
theorem step (h : iH P W ok) (hm : ∀ k, ok k → k < W.heap.size → W1.heap[k]? = W.heap[k]?) : iH P W1 ok := fun W' hW => h W' (fun k hk hlt => (hW k hk (SH (hm k hk hlt) hlt)).trans (hm k hk hlt))
theorem imp (h : iH P W ok) (hi : ∀ W', P W' → Q W') : iH Q W ok := fun W' hW => hi W' (h W' hW)
end iH
namespace Kd
def F {α : Type} (d : Kd α) (W : World) (ok : Nat → Prop) (A : Option Addr) (n : Nat) (xs : List α) : Prop := iH (fun W => d.C W A n xs) W ok
def FK {α : Type} (d : Kd α) (W : World) (ok : Nat → Prop) (x : α) (c : List Value) : Prop := iH (fun W => d.K W x c) W ok
section
variable {α β : Type} {d : Kd α} {e base n n' cc g N : Nat} {ok ok' okp S : Nat → Prop} {w w0 w1 W W1 : World} {A A' : Option Addr} {u v v1 : Value} {xs : List α} {xs' : List β} {d' : Kd β} {x : α} {c : List Value}
theorem mW (h : F d W ok A n xs) : d.C W A n xs := iH.now h
theorem Cz (h : F d W ok A n xs) (hok : ∀ k, ok k → ok' k) : F d W ok' A n xs := iH.mono h hok
theorem CB (h : F d W ok A n xs) : F d W (fun k => ok k ∧ k < W.heap.size) A n xs := iH.bound h
theorem Iy (h : F d W ok A n xs) (hm : ∀ k, ok k → k < W.heap.size → W1.heap[k]? = W.heap[k]?) : F d W1 ok A n xs := iH.step h hm
theorem We (h : F d W ok A n xs) (hi : ∀ W', d.C W' A n xs → d'.C W' A' n' xs') : F d' W ok A' n' xs' := iH.imp h hi
theorem lT (h : F d W ok A n xs) (hb : Below W.heap.size W W1) : F d W1 ok A n xs := Iy h (fun k _ hlt => hb.block k hlt)
theorem SI (h : F d W ok A n xs) (o : Obj) : F d (W.alloc o) ok A n xs := lT h (ai (Below.refl _ _) o)
theorem XQ (h : F d W ok A n xs) : F d W.drew ok A n xs := lT h (gT (Below.refl _ _))
theorem SK (h : F d W ok A n xs) (m : Nat) : F d (W.drewN m) ok A n xs := lT h (ah (Below.refl _ _) m)
theorem abg (d : Kd α) (W : World) (ok : Nat → Prop) : F d W ok none ([] : List α).length [] := fun W' _ => abh d W'
theorem SL (h : F d W (fun k => ok k ∧ some k ≠ v.ownBlock) A n xs) (hg : W.grownBy W1 v.ownBlock) (hat : v1.ownBlock = v.ownBlock ∨ ∃ b, v1.ownBlock = some b ∧ W.heap.size ≤ b) : F d W1 (fun k => ok k ∧ some k ≠ v1.ownBlock) A n xs := by
 refine Cz (iH.step (CB h) (fun k hk hlt => hg.block k hlt hk.1.2)) (fun k hk => ⟨hk.1.1, ?_⟩)
 rcases hat with hat | ⟨b, hb, hle⟩
 ·rw [hat]; exact hk.1.2
 ·rw [hb]; intro he; injection he with he; have := hk.2; omega
theorem C_F (hd : Heap d) (h : d.C w A n xs) : F d w (fun k => k < w.heap.size) A n xs := fun _ hW => hd.C (fun k hlt => hW k hlt hlt) h
theorem R_F (h : d.R e W base ok (.slice A n cc) xs) : F d W ok A n xs := fun W' hW => by
 have h2 := bY (jr h hW); rw [h2.1]; exact h2.2.2
theorem oL (h : FK d W ok x c) : d.K W x c := iH.now h
theorem CE (h : FK d W ok x c) (hok : ∀ k, ok k → ok' k) : FK d W ok' x c := iH.mono h hok
theorem EW (h : FK d W ok x c) : FK d W (fun k => ok k ∧ k < W.heap.size) x c := iH.bound h
theorem CF (h : FK d W ok x c) (hm : ∀ k, ok k → k < W.heap.size → W1.heap[k]? = W.heap[k]?) : FK d W1 ok x c := iH.step h hm
theorem SN (h : d.M W base ok x c) : FK d W ok x c := fun _ hW => d.K_of_M (O5 h hW)
theorem SQ (W : World) (g : Nat) : ∃ W' : World, (∀ k, k ≠ g → W'.heap[k]? = W.heap[k]?) ∧ ∀ a : Addr, a.block = g → W'.cell? a = none := by
 refine ⟨{ W with heap := W.heap.setIfInBounds g (.cells #[] 0) }, fun k hk => by simp [Ne.symm hk], fun a ha => ?_⟩; subst ha
 by_cases hlt : a.block < W.heap.size
 ·simp [World.cell?, hlt]
 ·simp [World.cell?, hlt]
end
end Kd
end Go.Proofs.YtkgeihbcikiedaaW.PrintWords
