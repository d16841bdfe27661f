/-
  The place of a number in a row; what both stages' answer has to do with stage 2's: the frames that are read, and where a page is. Conditions: what is asked may be.
-/
import Derived.Test.YtddbndmbcdeggaaNsL
import Derived.Test.YtddbndmbcdeggaaNsJ
namespace Go.Proofs.Ytddbndmbcdeggaa
open Go.RowKit

theorem leafTr_len (ws : List Int) (two : Rt) (page acc : Int) (d : De) (level : Int) : (leafTr ws two page acc d level).2.2.length ≤ 4 := by
  unfold leafTr leafIn
  split
  · split
    · exact midRes_len _ _ _ _
    · exact midRes_len _ _ _ _
  · exact Nat.zero_le _
theorem transA_len (ws : List Int) (two : Rt) (page acc : Int) : ∀ (n : Nat) (level tb : Int) (rd : List Int), (transA ws two page acc n level tb rd).2.2.length ≤ rd.length + 9 * n
  | 0, _, _, _ => Nat.le_refl _
  | n + 1, level, tb, rd => by
    unfold transA
    have h1 := midRes_len ws two tb 0
    split
    · split
      · have h2 := leafTr_len ws two page acc (tabRes ws 1 level (midRes ws two tb 0).1.frame page) level
        simp only [List.length_append, List.length_cons, List.length_nil]
        omega
      · split
        · simp only [List.length_append, List.length_cons, List.length_nil]
          omega
        · have h3 := transA_len ws two page acc n (level + 1) (tabRes ws 1 level (midRes ws two tb 0).1.frame page).frame (rd ++ (midRes ws two tb 0).2.2 ++ [(midRes ws two tb 0).1.frame])
          simp only [List.length_append, List.length_cons, List.length_nil] at h3
          omega
    · simp only [List.length_append]
      omega
theorem transRes_len (ws : List Int) (one two : Rt) (page acc : Int) : (transRes ws one two page acc).2.2.length ≤ 36 := by
  unfold transRes
  split
  · unfold transOf
    split
    · have h := transA_len ws two page acc 4 0 one.frame []
      simp only [List.length_nil] at h
      omega
    · have h := midRes_len ws two page acc
      unfold offTr
      dsimp only
      omega
  · exact Nat.zero_le _

theorem idx_in (l : List Int) (x : Int) : (idx (· == x) l < 0 ∧ x ∉ l) ∨ (0 ≤ idx (· == x) l ∧ x ∈ l) := by
  unfold idx
  by_cases h : l.any (· == x) = true
  · rw [if_pos h]
    exact .inr ⟨by omega, by simpa using h⟩
  · rw [if_neg h]
    exact .inl ⟨by decide, by simpa using h⟩

set_option maxHeartbeats 1000000 in
theorem In_any (n : Int) (L : Option Addr) (cl : Nat) (l : List Int) (w : World) (hl : l.length ≤ 140737488355328) (hL : At w L 1 intCells l) :
    Calls Try.prog 35 #[.slice L l.length cl, .int .i64 n] w fun e w' => e = .returned (.int .i64 (idx (· == n) l)) ∧ w = w' := by
  go_enter Try.func35, Try.ntmps35
  go_wp2
  go_loop [5] (fun i => ∃ k : Nat, k ≤ l.length ∧ i = .int .i64 k ∧ (l.take k).any (· == n) = false) (fun i => l.length - (intOf i).toNat)
  case atStart => exact ⟨0, Nat.zero_le _, rfl, rfl⟩
  case round =>
    obtain ⟨k, hk, rfl, ht⟩ := hrel
    have HT := Lib.hid ht
    clear ht
    by_cases hlt : k < l.length
    · obtain ⟨ba, oa, rfl, hba, hca⟩ := at_cell hL (Below.refl _ _) hlt rfl
      obtain ⟨x, hxk⟩ : ∃ x, l[k] = x := ⟨_, rfl⟩
      rw [hxk] at hca
      have HXK := Lib.hid hxk
      clear hxk
      have hki : (k : Int) < l.length := by omega
      cases hg : (x == n)
      · have HG := Lib.hid hg
        go_wp2
        go_round
        case rel => exact ⟨k + 1, by omega, by go_num, any_take_step HT.out hlt (by rw [HXK.out]; exact HG.out)⟩
        case measure => simp [intOf]; omega
      · have HG := Lib.hid hg
        go_wp2
        go_ret
        exact ⟨by rw [idx_yes HT.out hlt (by rw [HXK.out]; exact HG.out)]; rfl, rfl⟩
    · go_wp2
      go_ret
      exact ⟨by rw [idx_no HT.out (by omega)]; rfl, rfl⟩

/-- The tables that stage 2 reads are the same whatever the access. -/
theorem mid_reads {ws : List Int} {two : Rt} {mid acc : Int} (hon : two.on = true) (ha : accOk acc = true) : (midRes ws two mid acc).2.2 = (midRes ws two mid 0).2.2 := by
  have h : midOk ws.length two mid acc = midOk ws.length two mid 0 := by rw [midOk_all, midOk_all, ha]; rfl
  unfold midRes
  rw [h]
  split
  · unfold midOf
    rw [if_pos hon, if_pos hon]
    rfl
  · rfl
theorem mid_mid {ws : List Int} {two : Rt} {mid acc : Int} (hon : two.on = true) (hok : midOk ws.length two mid acc = true) (h : (midRes ws two mid acc).2.1.kind = 0) : (midRes ws two mid acc).1.mid = mid := by
  unfold midRes at h ⊢
  rw [if_pos hok] at h ⊢
  unfold midOf at h ⊢
  rw [if_pos hon] at h ⊢
  unfold onMid at h ⊢
  dsimp only at h ⊢
  rw [if_pos h]
  rfl
/-- Stage 2's tables, and what it lets be read. -/
def Given2 (ws : List Int) (two : Rt) (x : Int) : Prop := ∃ mid : Int, 0 ≤ mid ∧ mid ≤ 4095 ∧ (x ∈ (midRes ws two mid 0).2.2 ∨ ((midRes ws two mid 0).2.1.kind = 0 ∧ x = (midRes ws two mid 0).1.frame))
/-- Where a page is, stage 2 says so. -/
def Lets2 (ws : List Int) (two : Rt) (acc : Int) (r : Ht × Ft × List Int) : Prop := r.2.1.kind = 0 → numOk r.1.mid 4095 = true ∧ (midRes ws two r.1.mid acc).2.1.kind = 0 ∧ (midRes ws two r.1.mid acc).1.frame = r.1.frame
theorem num_of {x : Int} (h : numOk x 4095 = true) : 0 ≤ x ∧ x ≤ 4095 := by
  unfold numOk at h
  simp only [Bool.and_eq_true, decide_eq_true_eq] at h
  exact h
theorem given_reads {ws : List Int} {two : Rt} {mid acc : Int} (hon : two.on = true) (ha : accOk acc = true) (hm : numOk mid 4095 = true) : ∀ x ∈ (midRes ws two mid acc).2.2, Given2 ws two x := fun x hx => by
  rw [mid_reads hon ha] at hx
  exact ⟨mid, (num_of hm).1, (num_of hm).2, .inl hx⟩
theorem lets_mid {ws : List Int} {two : Rt} {mid acc : Int} (hon : two.on = true) (hok : midOk ws.length two mid acc = true) (hm : numOk mid 4095 = true) : Lets2 ws two acc (midRes ws two mid acc) := fun h => by
  rw [mid_mid hon hok h]
  exact ⟨hm, h, rfl⟩

theorem leaf_conf {ws : List Int} {two : Rt} {page acc level : Int} {d : De} (hon : two.on = true) (ha : accOk acc = true) (hmem : memOk ws.length = true) (htf : numOk two.frame 4095 = true) (hm : numOk (d.frame + page % coversOf level) 4095 = true) :
    (∀ x ∈ (leafTr ws two page acc d level).2.2, Given2 ws two x) ∧ Lets2 ws two acc (leafTr ws two page acc d level) := by
  have hok := midOk_of ha hmem htf hm
  have h1 := given_reads (ws := ws) hon ha hm
  have h2 := lets_mid hon hok hm
  unfold leafTr leafIn
  generalize flagFt (deHt d) acc 1 level page = f
  by_cases hf : f.kind = 0
  · rw [if_pos hf]
    by_cases hr : (midRes ws two (d.frame + page % coversOf level) acc).2.1.kind = 0
    · rw [if_pos hr]
      exact ⟨h1, fun _ => h2 hr⟩
    · rw [if_neg hr]
      exact ⟨h1, fun h => absurd h hr⟩
  · rw [if_neg hf]
    exact ⟨fun x hx => by simp at hx, fun h => absurd h hf⟩

theorem transA_conf {ws : List Int} {two : Rt} {page acc : Int} (hon : two.on = true) (ha : accOk acc = true) (hmem : memOk ws.length = true) (htf : numOk two.frame 4095 = true) :
    ∀ (n : Nat) (level tb : Int) (rd : List Int), (n : Int) + level = 3 → 0 ≤ level → numOk tb 4095 = true → (∀ x ∈ rd, Given2 ws two x) → (∀ x ∈ (transA ws two page acc (n + 1) level tb rd).2.2, Given2 ws two x) ∧ Lets2 ws two acc (transA ws two page acc (n + 1) level tb rd)
  | n, level, tb, rd, hl, hl0, htb, hrd => by
    have hg := given_reads (ws := ws) (acc := 0) hon rfl htb
    have htk := tabRes_kind ws 1 level (midRes ws two tb 0).1.frame page
    have hfit := @tabRes_fits ws 1 level (midRes ws two tb 0).1.frame page
    have hgf : (midRes ws two tb 0).2.1.kind = 0 → Given2 ws two (midRes ws two tb 0).1.frame := fun h => ⟨tb, (num_of htb).1, (num_of htb).2, .inr ⟨h, rfl⟩⟩
    have hih := fun (m : Nat) (hm : m + 1 = n) fr rd2 => transA_conf (page := page) hon ha hmem htf m (level + 1) fr rd2 (by omega) (by omega)
    unfold transA
    generalize tabRes ws 1 level (midRes ws two tb 0).1.frame page = d at *
    generalize midRes ws two tb 0 = mr at *
    have hr2 : ∀ x ∈ rd ++ mr.2.2, Given2 ws two x := fun x hx => by
      rcases List.mem_append.1 hx with h | h
      · exact hrd x h
      · exact hg x h
    by_cases h0 : mr.2.1.kind = 0
    · rw [if_pos h0]
      have hr3 : ∀ x ∈ rd ++ mr.2.2 ++ [mr.1.frame], Given2 ws two x := fun x hx => by
        rcases List.mem_append.1 hx with h | h
        · exact hr2 x h
        · rw [List.mem_singleton.1 h]
          exact hgf h0
      by_cases h2 : d.kind = 2
      · rw [if_pos h2]
        have hf := hfit h2 (by omega)
        have hlf := leaf_conf (level := level) (d := d) (page := page) hon ha hmem htf (num_mid hf.1 hf.2)
        exact ⟨fun x hx => by
          rcases List.mem_append.1 hx with h | h
          · exact hr3 x h
          · exact hlf.1 x h, hlf.2⟩
      · rw [if_neg h2]
        by_cases h3 : d.kind = 0
        · rw [if_pos h3]
          exact ⟨hr3, fun h => absurd h (show ¬ (2 : Int) = 0 by decide)⟩
        · rw [if_neg h3]
          have h1 : d.kind = 1 := by
            rcases htk.1 with h | h | h
            · exact absurd h h3
            · exact h
            · exact absurd h h2
          have hlt := htk.2.1 h1
          obtain ⟨m, rfl⟩ : ∃ m, n = m + 1 := ⟨n - 1, by omega⟩
          exact hih m rfl d.frame _ (num_mid htk.2.2.1 htk.2.2.2) hr3
    · rw [if_neg h0]
      exact ⟨hr2, fun h => absurd h h0⟩

/-- What is read is stage 2's, or let by it; where a page is, stage 2 says so. -/
theorem transRes_conf {ws : List Int} {one two : Rt} {page acc : Int} (hon : two.on = true) (hok : transOk ws.length one two page acc = true) : (∀ x ∈ (transRes ws one two page acc).2.2, Given2 ws two x) ∧ Lets2 ws two acc (transRes ws one two page acc) := by
  obtain ⟨ha, hm, h1f, h2f, hpg⟩ := transOk_parts hok
  unfold transRes
  rw [if_pos hok]
  unfold transOf
  by_cases h1 : one.on = true
  · rw [if_pos h1]
    exact transA_conf hon ha hm h2f 3 0 one.frame [] (by decide) (by decide) h1f (fun x hx => by simp at hx)
  · rw [if_neg h1]
    have hmk := midOk_of ha hm h2f hpg
    have h3 := lets_mid hon hmk hpg
    refine ⟨given_reads hon ha hpg, ?_⟩
    intro h
    have h' : (midRes ws two page acc).2.1.kind = 0 := h
    have h4 := h3 h'
    unfold offTr
    rw [if_pos h']
    exact h4

end Go.Proofs.Ytddbndmbcdeggaa
