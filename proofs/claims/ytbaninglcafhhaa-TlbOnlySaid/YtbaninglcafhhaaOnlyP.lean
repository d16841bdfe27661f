/-
  'TlbOnly' returns true, and of what was there nothing has turned. Conditions: the argument reads as such.
-/
import Derived.Test.YtbaninglcafhhaaLook
import Derived.Test.YtbaninglcafhhaaRFill
import Derived.Deep.CutRange
namespace Go.Proofs.Ytbaninglcafhhaa
open Go.RowKit

theorem tlbOk_fill {es : List Ent} {ds : List Inv} {e : Ent} (h : tlbOk es ds = true) (he : entOk e = true) : tlbOk (fillE es e) ds = true := by
  unfold fillE
  by_cases hg : (decide (es.length < 8) && !(es.any (entEq e))) = true
  · rw [if_pos hg]
    simp only [Bool.and_eq_true, decide_eq_true_eq, Bool.not_eq_true', List.any_eq_false] at hg
    rw [tlbOk_iff] at h ⊢
    obtain ⟨h1, h2, h3, h4, h5⟩ := h
    refine ⟨by simp; omega, h2, fun x hx => ?_, ?_, h5⟩
    · rcases List.mem_append.1 hx with hx | hx
      · exact h3 x hx
      · rw [List.mem_singleton] at hx; rw [hx]; exact he
    · rw [List.nodup_append]
      refine ⟨h4, by simp, fun x hx y hy => ?_⟩
      rw [List.mem_singleton] at hy
      subst hy
      intro hxy
      subst hxy
      exact hg.2 x hx (entEq_refl x)
  · rw [if_neg hg]; exact h
theorem look_mid {es : List Ent} {e : Ent} (A : Option Addr) (c : Nat) (B : Option Addr) (d : Nat) (h : tlbOk es [] = true) (he : entOk e = true) : lookOk ⟨A, c, es, B, d, []⟩ e.vmid 0 e.page 0 = true := by
  have h1 := he
  unfold entOk at h1
  simp only [Bool.and_eq_true] at h1
  unfold lookOk
  dsimp only
  rw [h, h1.1.1, h1.1.2.2.1]
  decide
/-- An entry of stage 2 that is there and lets be read is found, or one like it. -/
theorem found_mid {es : List Ent} {e : Ent} (he : entOk e = true) (hk : e.kind = 2) (hr : e.r = true) (hin : es.any (entEq e) = true) :
    foundX es (fun x => ofE x 2 e.vmid 0 e.page && letsE x 0) = 0 ∧ (foundR es (fun x => ofE x 2 e.vmid 0 e.page && letsE x 0)).page = e.page ∧ (foundR es (fun x => ofE x 2 e.vmid 0 e.page && letsE x 0)).vmid = e.vmid ∧ (foundR es (fun x => ofE x 2 e.vmid 0 e.page && letsE x 0)).r = true := by
  obtain ⟨_, _, _, h4⟩ := entOk_parts he
  have hp : (ofE e 2 e.vmid 0 e.page && letsE e 0) = true := by
    unfold ofE pageOf letsE mayOf
    simp [hk, hr, h4 hk]
  obtain ⟨x, hx, hxe⟩ := List.any_eq_true.1 hin
  rw [entEq_iff] at hxe
  subst hxe
  have hany : es.any (fun x => ofE x 2 e.vmid 0 e.page && letsE x 0) = true := List.any_eq_true.2 ⟨e, hx, hp⟩
  refine ⟨by unfold foundX; rw [hany]; rfl, ?_⟩
  unfold foundR
  cases hf : es.find? (fun x => ofE x 2 e.vmid 0 e.page && letsE x 0) with
  | none =>
    rw [List.find?_eq_none] at hf
    exact absurd hp (hf e hx)
  | some y =>
    have hy := List.find?_some hf
    simp only [Bool.and_eq_true] at hy
    unfold ofE pageOf letsE mayOf at hy
    simp only [Bool.and_eq_true, beq_iff_eq] at hy
    obtain ⟨⟨k1, k2, k3, k4⟩, k5⟩ := hy
    rw [k1] at k4
    exact ⟨by simpa using k4, k2, by simpa using k5⟩

end Go.Proofs.Ytbaninglcafhhaa
