/-
  What waiting leaves of a row: plain words; the row with one's list struck out. Conditions: none.
-/
import Derived.Test.YtbaninglcafhhaaTlsB
import Derived.Test.YtbaninglcafhhaaApp
import Derived.Test.YtbaninglcafhhaaPair
namespace Go.Proofs.Ytbaninglcafhhaa
open Go Go.RowKit

def goneT (due : List Inv) (p : List Ent × List Inv) : List Ent × List Inv := (p.1.filter fun e => !goneE due e, p.2)
/-- The k-th has nothing to wait for any more. -/
def noDue : List (List Ent × List Inv) → Nat → List (List Ent × List Inv)
  | [], _ => []
  | p :: l, 0 => (p.1, []) :: l
  | p :: l, k + 1 => p :: noDue l k
def noDueT : List Tl → Nat → List Tl
  | [], _ => []
  | t :: l, 0 => ⟨t.ea, t.ec, t.es, none, 0, []⟩ :: l
  | t :: l, k + 1 => t :: noDueT l k
theorem held_noDue : ∀ (ts : List Tl) (k : Nat), held (noDueT ts k) = noDue (held ts) k
  | [], _ => rfl
  | _ :: _, 0 => rfl
  | t :: l, k + 1 => by
    show (t.es, t.ds) :: held (noDueT l k) = (t.es, t.ds) :: noDue (held l) k
    rw [held_noDue l k]
theorem noDueT_len : ∀ (ts : List Tl) (k : Nat), (noDueT ts k).length = ts.length
  | [], _ => rfl
  | _ :: _, 0 => rfl
  | t :: l, k + 1 => by
    show (noDueT l k).length + 1 = l.length + 1
    rw [noDueT_len l k]
theorem noDueT_same : ∀ (ts : List Tl) (k : Nat) (hk : k < ts.length) (hk2 : k < (noDueT ts k).length), (noDueT ts k)[k] = ⟨ts[k].ea, ts[k].ec, ts[k].es, none, 0, []⟩
  | [], _, h, _ => absurd h (Nat.not_lt_zero _)
  | _ :: _, 0, _, _ => rfl
  | _ :: l, k + 1, h, h2 => noDueT_same l k (Nat.lt_of_succ_lt_succ h) (Nat.lt_of_succ_lt_succ h2)
theorem noDueT_other : ∀ (ts : List Tl) (k i : Nat) (_ : i ≠ k) (hi : i < ts.length) (hi2 : i < (noDueT ts k).length), (noDueT ts k)[i] = ts[i]
  | [], _, _, _, h, _ => absurd h (Nat.not_lt_zero _)
  | _ :: _, 0, 0, h, _, _ => absurd rfl h
  | _ :: _, 0, _ + 1, _, _, _ => rfl
  | _ :: _, _ + 1, 0, _, _, _ => rfl
  | _ :: l, k + 1, i + 1, h, h1, h2 => noDueT_other l k i (fun e => h (by rw [e])) (Nat.lt_of_succ_lt_succ h1) (Nat.lt_of_succ_lt_succ h2)
theorem noDueT_mem {ts : List Tl} {k : Nat} {t : Tl} (h : t ∈ noDueT ts k) : ∃ s ∈ ts, t = s ∨ t = ⟨s.ea, s.ec, s.es, none, 0, []⟩ := by
  obtain ⟨i, hi, rfl⟩ := List.getElem_of_mem h
  have hi2 : i < ts.length := by rw [noDueT_len] at hi; exact hi
  by_cases he : i = k
  · subst he
    exact ⟨ts[i], List.getElem_mem hi2, .inr (noDueT_same ts i hi2 hi)⟩
  · exact ⟨ts[i], List.getElem_mem hi2, .inl (noDueT_other ts k i he hi2 hi)⟩
/-- A row that may be read and stored to, and rows of the call's own in it. -/
structure TlsRow (w : World) (B : Nat) (A : Option Addr) (ts : List Tl) : Prop where
  row : At w A 2 Tl.cells ts
  room : Room w B 2 A ts.length
  typ : ∀ p : Addr, A = some p → ∃ cs, w.heap[p.block]? = some (.cells cs tlbT (0, 0))
  ents : ∀ t ∈ ts, Own w B entT 14 Ent.cells t.es t.ea t.ec
  dues : ∀ t ∈ ts, Own w B invT 4 Inv.cells t.ds t.da t.dc
theorem TlsRow.below {w w' : World} {B : Nat} {A : Option Addr} {ts : List Tl} (h : TlsRow w B A ts) (hb : Below w.heap.size w w') : TlsRow w' B A ts :=
  ⟨h.row.below hb, h.room.below hb (Nat.le_refl _), fun p hp => by
    obtain ⟨cs, hc⟩ := h.typ p hp
    exact ⟨cs, (hb.block _ (heap_lt hc)).trans hc⟩, fun t ht => (h.ents t ht).below hb (Nat.le_refl _), fun t ht => (h.dues t ht).below hb (Nat.le_refl _)⟩
theorem TlsRow.mono {w : World} {B B' : Nat} {A : Option Addr} {ts : List Tl} (h : TlsRow w B A ts) (hb : B' ≤ B) : TlsRow w B' A ts :=
  ⟨h.row, fun hl => by
    obtain ⟨b, off, cs, t, h1, h2, h3⟩ := h.room hl
    exact ⟨b, off, cs, t, h1, Nat.le_trans hb h2, h3⟩, h.typ, fun t ht => (h.ents t ht).mono hb, fun t ht => (h.dues t ht).mono hb⟩
theorem TlsRow.at_ {w : World} {B : Nat} {A : Option Addr} {ts : List Tl} (h : TlsRow w B A ts) (hl : ∀ t ∈ ts, t.es.length ≤ 140737488355328 ∧ t.ds.length ≤ 140737488355328) : TlsAt w A ts :=
  ⟨h.row, fun t ht => TlAt.of_own (h.ents t ht) (h.dues t ht) (hl t ht).1 (hl t ht).2⟩
theorem TlsOwn.block_ {w : World} {B : Nat} {A : Option Addr} {c : Nat} {ts : List Tl} (h : TlsOwn w B A c ts) (hl : 0 < ts.length) : ∃ g, A = some ⟨g, 0, none⟩ ∧ B ≤ g ∧ ∃ cs, w.heap[g]? = some (.cells cs tlbT (0, 0)) := by
  obtain ⟨g, rfl, h1, h2, _⟩ := h.row.spot hl
  obtain ⟨cur, _, h4, _⟩ := h.row.parts
  exact ⟨g, rfl, h1, cur, h4⟩
/-- 'out[k].Due = nil': the row behind the store. -/
theorem TlsOwn.strike {w : World} {B : Nat} {g c : Nat} {ts : List Tl} (h : TlsOwn w B (some ⟨g, 0, none⟩) c ts) {k : Nat} (hk : k < ts.length) :
    TlsRow (w.setCell ⟨g, k * 2 + 1, none⟩ (.slice none 0 0)) B (some ⟨g, 0, none⟩) (noDueT ts k) := by
  have hroom : Room w B 2 (some ⟨g, 0, none⟩) ts.length := Room.of_own h.row
  have hat := h.row.at_ tl_len
  obtain ⟨cur, h1, h2, h3, h4, h5, h6⟩ := h.row.parts
  have hsz : k * 2 + 1 < cur.size := by rw [h5]; omega
  have hblk : (w.setCell ⟨g, k * 2 + 1, none⟩ (.slice none 0 0)).heap[g]? = some (.cells (cur.setIfInBounds (k * 2 + 1) (.slice none 0 0)) tlbT (0, 0)) := by simp [World.setCell, Array.getElem?_modify, h2]
  refine ⟨fun hl => ?_, ?_, fun p hp => ?_, fun t ht => ?_, fun t ht => ?_⟩
  · obtain ⟨b, off, e, hb, hc⟩ := hat (by omega)
    injection e with e
    injection e with e1 e2
    subst e1 e2
    refine ⟨g, 0, rfl, by simpa using hb, fun i hi j u hu => ?_⟩
    have hi2 : i < ts.length := by rw [noDueT_len] at hi; exact hi
    have hj : j < 2 := by rw [← tl_len (noDueT ts k)[i]]; exact (List.getElem?_eq_some_iff.1 hu).1
    have hcs : ∀ x, (w.setCell ⟨g, k * 2 + 1, none⟩ (.slice none 0 0)).cell? ⟨g, x, none⟩ = (cur.setIfInBounds (k * 2 + 1) (.slice none 0 0))[x]? := fun x => cell_of_row _ _ x _ _ _ hblk
    have hco : ∀ x, w.cell? ⟨g, x, none⟩ = cur[x]? := fun x => cell_of_row _ _ x _ _ _ h2
    rw [hcs]
    by_cases he : i = k
    · subst he
      rw [noDueT_same ts i hi2 hi] at hu
      have hj2 : j = 0 ∨ j = 1 := by omega
      rcases hj2 with rfl | rfl
      · have h7 := hc i hi2 0 (.slice ts[i].ea ts[i].es.length ts[i].ec) rfl
        rw [hco] at h7
        have hu' : (Value.slice ts[i].ea ts[i].es.length ts[i].ec) = u := by simpa [Tl.cells] using hu
        rw [← hu', Array.getElem?_setIfInBounds, if_neg (by omega)]
        exact h7
      · have hu' : (Value.slice none 0 0) = u := by simpa [Tl.cells] using hu
        rw [← hu', Array.getElem?_setIfInBounds, if_pos (by omega), if_pos hsz]
    · rw [noDueT_other ts k i he hi2 hi] at hu
      have h7 := hc i hi2 j u hu
      rw [hco] at h7
      rw [Array.getElem?_setIfInBounds, if_neg (by omega)]
      exact h7
  · rw [noDueT_len]
    exact hroom.set_ _ _
  · injection hp with hp
    subst hp
    exact ⟨_, hblk⟩
  · obtain ⟨s, hs, he⟩ := noDueT_mem ht
    have h7 : Own w B entT 14 Ent.cells s.es s.ea s.ec := h.ents s hs
    have h8 := h7.set_ne (p := ⟨g, k * 2 + 1, none⟩) (fun q hq => Own.ne_blk h7 h2 (by decide) q hq) (.slice none 0 0)
    rcases he with rfl | rfl
    · exact h8
    · exact h8
  · obtain ⟨s, hs, he⟩ := noDueT_mem ht
    rcases he with rfl | rfl
    · have h7 : Own w B invT 4 Inv.cells t.ds t.da t.dc := h.dues t hs
      exact h7.set_ne (p := ⟨g, k * 2 + 1, none⟩) (fun q hq => Own.ne_blk h7 h2 (by decide) q hq) (.slice none 0 0)
    · exact World.ownsRow_nil _ _ _ _
theorem held_gone_snoc {xs ts : List Tl} {due : List Inv} {k : Nat} (h : held xs = (held (ts.take k)).map (goneT due)) (hk : k < ts.length) {y : Tl} (h1 : y.es = ts[k].es.filter fun e => !goneE due e) (h2 : y.ds = ts[k].ds) : held (xs ++ [y]) = (held (ts.take (k + 1))).map (goneT due) := by
  rw [List.take_succ_eq_append_getElem hk]
  simp only [held, List.map_append] at h ⊢
  rw [h]
  simp [h1, h2, goneT]

theorem wait1_any (t : Tl) (w : World) (h : TlAt w t) : Calls Try.prog 78 #[.agg t.cells.toArray] w fun e w' => e = .returned (.bool (!tlbOk t.es t.ds)) ∧ Below w.heap.size w w' := by
  have HC := Lib.hid (fun W (hb : Below w.heap.size w W) => Check_any t W (h.below hb))
  generalize tlbOk t.es t.ds = ok at *
  obtain ⟨ea, ec, es, da, dc, ds⟩ := t
  dsimp only [Tl.cells] at *
  have E0 : okErr false = 1 := rfl
  have E1 : okErr true = 0 := rfl
  clear h
  cases ok
  · go_enter Try.func78, Try.ntmps78
    go_wp2_with fail
    refine Calls.mono (HC.out _ (by repeat' (first | (with_reducible exact Below.refl _ _) | (with_reducible (refine Below.setCell ?_ ?_ _)) | (with_reducible (refine Below.alloc ?_ ?_ _)) | (with_reducible (refine Below.drew ?_)) | omega | (simp; done) | (simp; omega)))) ?_
    rintro e w1 ⟨rfl, hb1⟩
    have hs1 := hb1.size
    try simp at hs1
    have HB1 := Lib.hid hb1
    clear hb1
    go_wp2
    go_ret
    exact ⟨rfl, (by repeat' (first | (with_reducible exact Below.refl _ _) | (with_reducible (refine Below.setCell ?_ ?_ _)) | (with_reducible (refine Below.alloc ?_ ?_ _)) | (with_reducible (refine Below.drew ?_)) | (with_reducible (refine below_via ?_ HB1.out ?_)) | omega | (simp; done) | (simp; omega)))⟩
  · go_enter Try.func78, Try.ntmps78
    go_wp2_with fail
    refine Calls.mono (HC.out _ (by repeat' (first | (with_reducible exact Below.refl _ _) | (with_reducible (refine Below.setCell ?_ ?_ _)) | (with_reducible (refine Below.alloc ?_ ?_ _)) | (with_reducible (refine Below.drew ?_)) | omega | (simp; done) | (simp; omega)))) ?_
    rintro e w1 ⟨rfl, hb1⟩
    have hs1 := hb1.size
    try simp at hs1
    have HB1 := Lib.hid hb1
    clear hb1
    go_wp2
    go_ret
    exact ⟨rfl, (by repeat' (first | (with_reducible exact Below.refl _ _) | (with_reducible (refine Below.setCell ?_ ?_ _)) | (with_reducible (refine Below.alloc ?_ ?_ _)) | (with_reducible (refine Below.drew ?_)) | (with_reducible (refine below_via ?_ HB1.out ?_)) | omega | (simp; done) | (simp; omega)))⟩

end Go.Proofs.Ytbaninglcafhhaa
