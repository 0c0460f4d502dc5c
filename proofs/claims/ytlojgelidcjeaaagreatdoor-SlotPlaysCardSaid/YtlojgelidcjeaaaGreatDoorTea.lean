/- PROVED: how tears lie in memory. No conditions beyond those that each theorem states. -/
import Derived.Test.YtlojgelidcjeaaaGreatDoorDkG
namespace Go.Proofs.YtlojgelidcjeaaaGreatDoor
open Go.RowKit Go.Proofs.YtlojgelidcjeaaaGreatDoorLib
set_option linter.unusedSimpArgs false
set_option linter.unusedVariables false

/-- the cells of a tear; its bytes lie below B -/
def TearK (B : Nat) (w : World) (cs : List Value) (t : Int × List Int) : Prop := ∃ bv, cs = [.int .i64 t.1, bv] ∧ SliceAt Byte1 1 w B bv t.2
theorem TearK.kept {B : Nat} {w w1 : World} {cs : List Value} {t : Int × List Int} {S : List Nat} (h : TearK B w cs t) (hk : Kept w w1 S) (hB : B ≤ w.heap.size) (hS : ∀ b, b ∈ S → B ≤ b) : TearK B w1 cs t := by
  obtain ⟨bv, rfl, h⟩ := h
  exact ⟨bv, rfl, h.kept hk hB hS (fun _ _ h => h)⟩
theorem BtsAt.of {w : World} {B : Nat} {F : List Nat} {v : Value} {l : List Int} (h : SliceAt Byte1 1 w B v l) (hF : ∀ g, g ∈ F → B ≤ g) : BtsAt w F v l := by
  obtain ⟨b, off, h1, h2, h3⟩ := Sl.of_at h
  exact ⟨b, off, h1, h2, h3.imp id (fun hb hm => by have := hF _ hm; omega)⟩
theorem TearsAt.of {w : World} {B : Nat} {F : List Nat} {v : Value} {ts : List (Int × List Int)} (h : SliceAt (TearK B) 2 w B v ts) (hF : ∀ g, g ∈ F → B ≤ g) : TearsAt w F v ts := by
  obtain ⟨A, c, rfl, h1, h2, h3⟩ := h
  refine ⟨A, c, rfl, h1, h2, fun i t hi => ?_⟩
  rcases h3 with rfl | ⟨b, off, rfl, hb, hx⟩
  · simp at hi
  · obtain ⟨cs, _, ⟨bv, rfl, hv⟩, hc⟩ := hx i t hi
    exact ⟨b, off, bv, rfl, fun hm => by have := hF _ hm; omega, hc 0 _ rfl, hc 1 _ rfl, BtsAt.of hv hF⟩
end Go.Proofs.YtlojgelidcjeaaaGreatDoor
