/-
  What may be remembered, said without its places; a part of it may be too; taking away once more takes nothing. Plain facts.
-/
import Derived.Test.YtbaninglcafhhaaRefT
import Derived.Test.YtbaninglcafhhaaApp
namespace Go.Proofs.Ytbaninglcafhhaa
open Go.RowKit

theorem tlbOk_iff (es : List Ent) (ds : List Inv) : tlbOk es ds = true ↔ es.length ≤ 8 ∧ ds.length ≤ 8 ∧ (∀ e ∈ es, entOk e = true) ∧ es.Nodup ∧ (∀ i ∈ ds, dueOk i = true) := by
  rw [tlbOk_eq]
  simp only [Bool.and_eq_true, decide_eq_true_eq, List.all_eq_true, List.mem_range]
  constructor
  · rintro ⟨⟨h1, h2⟩, h3, h4⟩
    refine ⟨h1, h2, fun e he => ?_, ?_, h4⟩
    · obtain ⟨k, hk, rfl⟩ := List.getElem_of_mem he
      have := h3 k hk
      rw [entGood_at hk rfl, Bool.and_eq_true] at this
      exact this.1
    · unfold List.Nodup
      rw [List.pairwise_iff_getElem]
      intro i j hi hj hij he
      have := h3 j hj
      rw [entGood_at hj rfl, Bool.and_eq_true] at this
      have h5 := this.2
      rw [Bool.not_eq_true', List.any_eq_false] at h5
      refine h5 es[i] ?_ ?_
      · rw [List.mem_take_iff_getElem]
        exact ⟨i, by omega, rfl⟩
      · rw [entEq_iff]; exact he.symm
  · rintro ⟨h1, h2, h3, h5, h4⟩
    refine ⟨⟨h1, h2⟩, fun k hk => ?_, h4⟩
    rw [entGood_at hk rfl, Bool.and_eq_true]
    refine ⟨h3 _ (List.getElem_mem hk), ?_⟩
    rw [Bool.not_eq_true', List.any_eq_false]
    intro x hx he
    rw [entEq_iff] at he
    rw [List.mem_take_iff_getElem] at hx
    obtain ⟨i, hi, rfl⟩ := hx
    unfold List.Nodup at h5
    rw [List.pairwise_iff_getElem] at h5
    exact h5 i k (by omega) hk (by omega) he.symm
theorem tlbOk_filter {es : List Ent} {ds : List Inv} (p : Ent → Bool) (h : tlbOk es ds = true) : tlbOk (es.filter p) ds = true := by
  rw [tlbOk_iff] at h ⊢
  obtain ⟨h1, h2, h3, h4, h5⟩ := h
  exact ⟨Nat.le_trans (List.length_filter_le _ _) h1, h2, fun e he => h3 e (List.mem_filter.1 he).1, h4.sublist List.filter_sublist, h5⟩
theorem gone_again (es : List Ent) (v : Inv) : (es.filter fun e => !goneE [v] e).filter (fun e => !goneE [v, v] e) = es.filter fun e => !goneE [v] e := by
  rw [List.filter_eq_self]
  intro e he
  have := (List.mem_filter.1 he).2
  simpa [goneE] using this
theorem TlAt.of_own {w : World} {b1 b2 : Nat} {es : List Ent} {ds : List Inv} {A B : Option Addr} {c d : Nat} (h1 : Own w b1 entT 14 Ent.cells es A c) (h2 : Own w b2 invT 4 Inv.cells ds B d) (he : es.length ≤ 140737488355328) (hd : ds.length ≤ 140737488355328) : TlAt w ⟨A, c, es, B, d, ds⟩ :=
  ⟨he, h1.cap_, h1.at_ ent_len, hd, h2.cap_, h2.at_ inv_len⟩

end Go.Proofs.Ytbaninglcafhhaa
