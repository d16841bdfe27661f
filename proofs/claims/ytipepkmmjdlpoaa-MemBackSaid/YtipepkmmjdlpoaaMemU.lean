/-
  'MemBack' returns true, and of what was there nothing has turned. Conditions: the script reads as such.
-/
import Derived.Test.YtipepkmmjdlpoaaMemS0
import Derived.Test.YtipepkmmjdlpoaaByte
import Derived.Test.YtipepkmmjdlpoaaPairM
import Derived.Deep.CutRange
import Derived.Deep.DeepCutAuto
namespace Go.Proofs.Ytipepkmmjdlpoaa
open Go.RowKit

/-- A row of words that lies in neither of two blocks. -/
def AtNe (w : World) (A : Option Addr) (ws : List Int) (b3 b5 : Nat) : Prop :=
  0 < ws.length → ∃ b off, A = some ⟨b, off, none⟩ ∧ b < w.heap.size ∧ b ≠ b3 ∧ b ≠ b5 ∧ ∀ i (h : i < ws.length), w.cell? ⟨b, off + i, none⟩ = some (.int .u64 ws[i])

section
variable {w w' : World} {A : Option Addr} {ws : List Int} {b3 b5 : Nat}
theorem AtNe.at_ (h : AtNe w A ws b3 b5) : At w A 1 wordCells ws := fun hl => by
  obtain ⟨b, off, e, hb, _, _, hc⟩ := h hl
  refine ⟨b, off, e, hb, fun i hi j u hu => ?_⟩
  match j, hu with
  | 0, hu =>
    simp only [wordCells, List.getElem?_cons_zero, Option.some.injEq] at hu
    rw [← hu]
    simpa using hc i hi
theorem AtNe.below (h : AtNe w A ws b3 b5) (hb : Below w.heap.size w w') : AtNe w' A ws b3 b5 := fun hl => by
  obtain ⟨b, off, e, hlt, h3, h5, hc⟩ := h hl
  exact ⟨b, off, e, Nat.lt_of_lt_of_le hlt hb.size, h3, h5, fun i hi => (hb.cell (p := ⟨b, off + i, none⟩) hlt).trans (hc i hi)⟩
theorem AtNe.set (h : AtNe w A ws b3 b5) {p : Addr} (hp : p.block = b3 ∨ p.block = b5) (u : Value) : AtNe (w.setCell p u) A ws b3 b5 := fun hl => by
  obtain ⟨b, off, e, hlt, h3, h5, hc⟩ := h hl
  refine ⟨b, off, e, by rw [size_set]; exact hlt, h3, h5, fun i hi => ?_⟩
  rw [World.cell?_setCell_other w p ⟨b, off + i, none⟩ u (fun e => by subst e; rcases hp with hp | hp <;> simp at hp <;> omega)]
  exact hc i hi
theorem Own.atNe {base : Nat} {c : Nat} (h : Own w base wordT 1 wordCells ws A c) (hb3 : ∀ p : Addr, A = some p → p.block ≠ b3) (hb5 : ∀ p : Addr, A = some p → p.block ≠ b5) : AtNe w A ws b3 b5 := fun hl => by
  obtain ⟨b, off, e, hb, hc⟩ := (h.at_ word_len) hl
  exact ⟨b, off, e, hb, hb3 _ e, hb5 _ e, fun i hi => by simpa using hc i hi 0 _ rfl⟩
end

def byteCells (bs : List Int) : Array Value := (bs.map (Value.int .u8)).toArray
theorem byteCells_set (bs : List Int) (j : Nat) (x : Int) : (byteCells bs).set! j (.int .u8 x) = byteCells (bs.set j x) := by
  unfold byteCells
  simp
def bytesT : TypeId := 32

structure BackAt (w1 : World) (b3 : Nat) (wr : World) (ws bs : List Int) (A : Option Addr) (c : Nat) : Prop where
  len : ws.length = 24
  ok : ∀ x ∈ ws, isWord x
  row : AtNe wr A ws b3 (b3 + 1)
  mem : wr.heap[b3]? = some (.cells #[.slice A 24 c] memT2 (0, 0))
  byt : wr.heap[b3 + 1]? = some (.cells (byteCells bs) bytesT (0, 0))
  bl : bs.length = 192
  val : ∀ j, j < 192 → bs.getD j 0 = byteAt ws j
  below : Below b3 w1 wr

structure MidAt (w1 : World) (b3 : Nat) (wr : World) (ws bs : List Int) (A : Option Addr) (c : Nat) : Prop where
  len : ws.length = 24
  ok : ∀ x ∈ ws, isWord x
  row : AtNe wr A ws b3 (b3 + 1)
  mem : wr.heap[b3]? = some (.cells #[.slice A 24 c] memT2 (0, 0))
  byt : wr.heap[b3 + 1]? = some (.cells (byteCells bs) bytesT (0, 0))
  bl : bs.length = 192
  below : Below b3 w1 wr
theorem MidAt.back {w1 : World} {b3 : Nat} {wr : World} {ws bs : List Int} {A : Option Addr} {c : Nat} (h : MidAt w1 b3 wr ws bs A c) (hv : ∀ j, j < 192 → bs.getD j 0 = byteAt ws j) : BackAt w1 b3 wr ws bs A c := ⟨h.len, h.ok, h.row, h.mem, h.byt, h.bl, hv, h.below⟩
theorem MidAt.put {w1 : World} {b3 : Nat} {wr : World} {ws bs : List Int} {A : Option Addr} {c : Nat} (h : MidAt w1 b3 wr ws bs A c) (j : Nat) (x : Int) : MidAt w1 b3 (wr.setCell ⟨b3 + 1, j, none⟩ (.int .u8 x)) ws (bs.set j x) A c :=
  ⟨h.len, h.ok, h.row.set (.inr rfl) _, (heap_set_other (by simp) _).trans h.mem, by rw [← byteCells_set]; exact heap_set_same h.byt j _, by rw [List.length_set]; exact h.bl, h.below.setCell (Nat.le_succ _) _⟩
theorem put_get {bs bs2 : List Int} {at_ kk : Nat} {v x : Int} (hl : bs2.length = 192) (hk : at_ + kk < 192) (hx : x = byteOf v kk) (h : ∀ i, i < 192 → bs2.getD i 0 = if at_ ≤ i ∧ i < at_ + kk then byteOf v (i - at_) else bs.getD i 0) :
    ∀ i, i < 192 → (bs2.set (at_ + kk) x).getD i 0 = if at_ ≤ i ∧ i < at_ + (kk + 1) then byteOf v (i - at_) else bs.getD i 0 := fun i hi => by
  rw [List.getD_eq_getElem?_getD, List.getElem?_set]
  by_cases e : at_ + kk = i
  · subst e
    rw [if_pos rfl, if_pos (by omega), if_pos (by omega), Option.getD_some, hx, show at_ + kk - at_ = kk by omega]
  · rw [if_neg e, ← List.getD_eq_getElem?_getD, h i hi]
    by_cases h1 : at_ ≤ i ∧ i < at_ + kk
    · rw [if_pos h1, if_pos (by omega)]
    · rw [if_neg h1, if_neg (by omega)]

theorem zero_bytes : ∀ j, j < 192 → (List.replicate 192 (0 : Int)).getD j 0 = byteAt (zeros 24) j := by
  intro j hj
  have h1 : (List.replicate 192 (0 : Int)).getD j 0 = 0 := by
    rw [List.getD_eq_getElem?_getD, List.getElem?_replicate]
    split <;> rfl
  have h2 : (zeros 24).getD (j / 8) 0 = 0 := by
    unfold zeros
    rw [List.getD_eq_getElem?_getD, List.getElem?_replicate]
    split <;> rfl
  rw [h1]
  unfold byteAt
  rw [h2]
  unfold byteOf
  simp

theorem size_of {d : Int} (h : 0 ≤ d ∧ d < 4) : ∃ sz q : Nat, (sz = 1 ∨ sz = 2 ∨ sz = 4 ∨ sz = 8) ∧ wrap64 (2 ^ d.toNat) = sz ∧ Int.tdiv 192 sz = q ∧ q * sz = 192 ∧ 1 ≤ q ∧ q ≤ 192 := by
  have : d = 0 ∨ d = 1 ∨ d = 2 ∨ d = 3 := by omega
  rcases this with rfl | rfl | rfl | rfl
  · exact ⟨1, 192, by omega, by decide +kernel, by decide +kernel, by decide, by decide, by decide⟩
  · exact ⟨2, 96, by omega, by decide +kernel, by decide +kernel, by decide, by decide, by decide⟩
  · exact ⟨4, 48, by omega, by decide +kernel, by decide +kernel, by decide, by decide, by decide⟩
  · exact ⟨8, 24, by omega, by decide +kernel, by decide +kernel, by decide, by decide, by decide⟩
theorem place_of {d : Int} {sz q : Nat} (h : 0 ≤ d ∧ d < q) (hq : q * sz = 192) (_hs : sz = 1 ∨ sz = 2 ∨ sz = 4 ∨ sz = 8) : ∃ p : Nat, wrap64 (d * sz) = p ∧ p + sz ≤ 192 ∧ p % sz = 0 := by
  obtain ⟨n, rfl⟩ : ∃ n : Nat, d = n := ⟨d.toNat, by omega⟩
  have h1 : n + 1 ≤ q := by omega
  have h2 : (n + 1) * sz ≤ q * sz := Nat.mul_le_mul_right _ h1
  rw [hq, Nat.add_mul] at h2
  refine ⟨n * sz, ?_, by omega, Nat.mul_mod_left _ _⟩
  rw [← Int.natCast_mul]
  unfold wrap64; omega

theorem down_of (at_ s : Nat) (h : at_ < 192) (hs : s = 1 ∨ s = 2 ∨ s = 4 ∨ s = 8) : ∃ m b : Nat, wrap64 ((at_ : Int) / s) = m ∧ wrap64 ((m : Int) * s) = b ∧ b + s ≤ 192 ∧ b % s = 0 := by
  have h1 : at_ / s * s ≤ at_ := Nat.div_mul_le_self _ _
  refine ⟨at_ / s, at_ / s * s, ?_, ?_, ?_, Nat.mul_mod_left _ _⟩
  · rw [← Int.natCast_ediv]
    have : at_ / s ≤ at_ := Nat.div_le_self _ _
    generalize at_ / s = p at *
    unfold wrap64; omega
  · rw [← Int.natCast_mul]
    generalize at_ / s * s = p at *
    unfold wrap64; omega
  · have h2 : at_ / s * s % s = 0 := Nat.mul_mod_left _ _
    rcases hs with rfl | rfl | rfl | rfl <;> omega
theorem byte_read {w1 : World} {b3 : Nat} {wr : World} {ws bs : List Int} {A : Option Addr} {c : Nat} (h : BackAt w1 b3 wr ws bs A c) {b s : Nat} (hs : s = 1 ∨ s = 2 ∨ s = 4 ∨ s = 8) (hb1 : b + s ≤ 192) (hb2 : b % s = 0) :
    ∃ y : Nat, y < 18446744073709551616 ∧ (∀ k, k < s → wr.cell? ⟨b3 + 1, b + k, none⟩ = some (.int .u8 ((y / 2 ^ (8 * k) % 256 : Nat) : Int))) ∧
      ∀ W, Below wr.heap.size wr W → Calls Try.prog 14 #[.agg #[.slice A 24 c], .int .i64 b, .int .i64 s] W fun e w' => e = .returned (.tuple #[.int .u64 ((y % 2 ^ (8 * s) : Nat) : Int), .int .i64 0]) ∧ Below W.heap.size W w' := by
  have hl := h.len
  obtain ⟨x, hx⟩ : ∃ x, ws[b / 8]'(by omega) = x := ⟨_, rfl⟩
  obtain ⟨y, hy, hg, hb⟩ := byteAt_read ws h.ok b s hs hb2 (by omega) x hx
  refine ⟨y, hy, fun k hk => ?_, fun W hW => ?_⟩
  · rw [cell_of_row _ _ _ _ _ _ h.byt]
    have h1 := h.val (b + k) (by omega)
    have hbl := h.bl
    rw [List.getD_eq_getElem?_getD, List.getElem?_eq_getElem (by omega), Option.getD_some] at h1
    simp only [byteCells, List.getElem?_toArray, List.getElem?_map, List.getElem?_eq_getElem (show b + k < bs.length by omega), Option.map_some]
    rw [h1, hb k hk]
  · have hmi : (b : Int) % s = 0 := by have := congrArg (Nat.cast (R := Int)) hb2; simpa using this
    have h1 := read_yes A c ws b s W (by omega) (h.row.below hW).at_ h.ok (by rw [hl]; decide) (by omega) (by omega) (by omega) hmi (b / 8) (by omega) (by omega) x hx
    rw [hl, hg] at h1
    exact h1

theorem BackAt.keep {w1 : World} {b3 : Nat} {wr w' : World} {ws bs : List Int} {A : Option Addr} {c : Nat} (h : BackAt w1 b3 wr ws bs A c) (hb : Below wr.heap.size wr w') : BackAt w1 b3 w' ws bs A c :=
  ⟨h.len, h.ok, h.row.below hb, (hb.block _ (heap_lt h.mem)).trans h.mem, (hb.block _ (heap_lt h.byt)).trans h.byt, h.bl, h.val, below_via h.below hb (by have := heap_lt h.mem; omega)⟩
theorem want_end {y kk : Nat} (hy : y < 18446744073709551616) (_hk : kk < 8) : bits .or .u64 ((y : Int) % 2 ^ (8 * kk)) (IntKind.u64.wrap ((y : Int) / 2 ^ (8 * kk) % 256 * 2 ^ (8 * kk))) = ((y % 2 ^ (8 * (kk + 1)) : Nat) : Int) := by
  have e1 : (y : Int) % 2 ^ (8 * kk) = ((y % 2 ^ (8 * kk) : Nat) : Int) := by simp
  have e2 : (y : Int) / 2 ^ (8 * kk) % 256 * 2 ^ (8 * kk) = ((y / 2 ^ (8 * kk) % 256 * 2 ^ (8 * kk) : Nat) : Int) := by simp
  have h1 : y / 2 ^ (8 * kk) % 256 * 2 ^ (8 * kk) ≤ y := Nat.le_trans (Nat.mul_le_mul_right _ (Nat.mod_le _ _)) (Nat.div_mul_le_self _ _)
  rw [e1, e2, wrap_u64_nat, Nat.mod_eq_of_lt (show y / 2 ^ (8 * kk) % 256 * 2 ^ (8 * kk) < 18446744073709551616 by omega)]
  exact want_step y kk (by omega) (by have := Nat.mod_le y (2 ^ (8 * kk)); omega)
theorem byte_one {w1 : World} {b3 : Nat} {wr : World} {ws bs : List Int} {A : Option Addr} {c : Nat} (h : BackAt w1 b3 wr ws bs A c) {b : Nat} (hb : b < 192) :
    ∃ y : Nat, y < 18446744073709551616 ∧ wr.cell? ⟨b3 + 1, b, none⟩ = some (.int .u8 ((y : Int) % 256)) ∧
      ∀ W, Below wr.heap.size wr W → Calls Try.prog 14 #[.agg #[.slice A 24 c], .int .i64 b, .int .i64 1] W fun e w' => e = .returned (.tuple #[.int .u64 ((y : Int) % 256), .int .i64 0]) ∧ Below W.heap.size W w' := by
  obtain ⟨y, hy, h1, h2⟩ := byte_read h (b := b) (s := 1) (.inl rfl) (by omega) (Nat.mod_one _)
  refine ⟨y, hy, ?_, fun W hW => ?_⟩
  · have := h1 0 (by omega)
    simpa using this
  · have := h2 W hW
    simpa using this

set_option maxRecDepth 100000 in
set_option maxHeartbeats 4000000 in
theorem memBack_walk (s : Script) (w : World) (hs : ScriptAt w s) :
    Calls Try.prog 3 #[.agg s.cells.toArray] w fun e w' => e = .returned (.bool true) ∧ Below w.heap.size w w' := by
  obtain ⟨hcap, hml, hmat, hmok, hll, hlat, hlok⟩ := hs
  obtain ⟨ma, mc, ws0, la, lc, acts⟩ := s
  simp only [Script.cells] at *
  have HLA := Lib.hid hlat
  have HLO := Lib.hid hlok
  have HWA := Lib.hid (fun W => wakes_any W)
  have HNU := Lib.hid (fun (n : Int) W => mnum_w n W)
  have HNW := Lib.hid (fun W => New_yes 3 W (by decide) (by decide))
  have HN0 := Lib.hid (fun W => New_no 0 W (by decide))
  have HN65 := Lib.hid (fun W => New_no 65 W (by decide))
  clear hcap hml hmat hmok hlat hlok
  have hzv : ∀ W : World, (zeroValue 32).run Try.prog W = .ok (.agg (byteCells (List.replicate 192 0))) W := fun W => by kernel_rfl
  go_enter Try.func3, Try.ntmps3
  go_wp2_with fail
  refine Calls.mono (HNW.out _) ?_
  rintro e w1 ⟨Am, cm, rfl, hown, hb1⟩
  have hs1 := hb1.size
  try simp at hs1
  have hc1_0 := fun o => (bcell hb1).1 (w.heap.size) o (by first | omega | (simp; done) | (simp; omega))
  have hf1_0 := fun o => (bcell hb1).2.1 (w.heap.size) o (by first | omega | (simp; done) | (simp; omega))
  have hz1_0 := (bcell hb1).2.2 (w.heap.size) (by first | omega | (simp; done) | (simp; omega))
  have HB1 := Lib.hid hb1
  clear hb1
  have Hhown := Lib.hid hown
  clear hown
  go_wp2_with (go_at_call 11; refine (HNU.out _ _).mono ?_; rintro e w' ⟨rfl, rfl⟩)
  refine name_world ?_
  intro wo hwo
  have hso : w1.heap.size + 2 ≤ wo.heap.size := by rw [hwo]; simp
  have HX := Lib.hid (show wo.heap[w.heap.size]? = some (.cells #[.slice ma ws0.length mc, .slice la acts.length lc] 27 (0, 0)) by rw [hwo]; exact (by repeat (first | (with_reducible assumption) | (with_reducible refine heap_below_is HB1.out (by (first | omega | (simp; done) | (simp; omega))) ?_) | (exact heap_at _ _ (by simp; done)) | (with_reducible refine heap_old_is _ _ (by (first | omega | (simp; done) | (simp; omega))) ?_) | (with_reducible refine heap_far_is (by (first | omega | (simp; done) | (simp; omega))) ?_))))
  have HB := Lib.hid (show Below w.heap.size w wo by rw [hwo]; repeat' (first | (with_reducible exact Below.refl _ _) | (with_reducible (refine Below.setCell ?_ ?_ _)) | (with_reducible (refine Below.alloc ?_ ?_ _)) | (with_reducible (refine Below.drew ?_)) | (with_reducible (refine below_via ?_ HB1.out ?_)) | omega | (simp; done) | (simp; omega)))
  have HS := Lib.hid (show BackAt wo w1.heap.size wo (zeros 24) (List.replicate 192 0) Am cm from ⟨rfl, fun x hx => by have := List.eq_of_mem_replicate hx; subst this; exact ⟨by decide, by decide⟩, (Own.atNe Hhown.out (fun p hp => by have := (Hhown.out.block_ hp).2; omega) (fun p hp => by have := (Hhown.out.block_ hp).2; omega)).below (by rw [hwo]; repeat' (first | (with_reducible exact Below.refl _ _) | (with_reducible (refine Below.setCell ?_ ?_ _)) | (with_reducible (refine Below.alloc ?_ ?_ _)) | (with_reducible (refine Below.drew ?_)) | omega | (simp; done) | (simp; omega))), by rw [hwo]; exact (heap_old _ _ (by simp)).trans (heap_new _ _), by rw [hwo]; exact heap_at _ _ (by simp), rfl, zero_bytes, Below.refl _ _⟩)
  clear hwo hc1_0 hf1_0 hz1_0 Hhown HB1 hzv
  go_loopg [6] 30 (fun gg i wr => ∃ (k : Nat) (ws bs : List Int) (A : Option Addr) (c : Nat), k ≤ acts.length ∧ k ≤ 30 ∧ gg = 30 - k ∧ i = .int .i64 k ∧ BackAt wo w1.heap.size wr ws bs A c)
  case atStart => exact ⟨0, zeros 24, List.replicate 192 0, Am, cm, Nat.zero_le _, Nat.zero_le _, rfl, rfl, HS.out⟩
  case round =>
    obtain ⟨k, ws, bs, A, c, hk, hk30, hgk, rfl, hst⟩ := hrel
    have HSA := Lib.hid hst
    have HGK := Lib.hid hgk
    have hsw := hst.below.size
    have hsb := heap_lt hst.byt
    have HXR := Lib.hid ((hst.below.block w.heap.size (by omega)).trans HX.out)
    clear hgk hst
    have e1 := cell_of_row _ _ 1 _ _ _ HXR.out
    have ef := fun j => frozen_of_row _ _ j _ _ HXR.out
    have hxl := heap_lt HXR.out
    by_cases hlt : k < acts.length ∧ k < 30
    · obtain ⟨hlt, hlt30⟩ := hlt
      have HBR := Lib.hid ((by repeat' (first | (with_reducible exact Below.refl _ _) | (with_reducible (refine Below.setCell ?_ ?_ _)) | (with_reducible (refine Below.alloc ?_ ?_ _)) | (with_reducible (refine Below.drew ?_)) | (with_reducible (refine below_via ?_ HSA.out.below ?_)) | (with_reducible (refine below_via ?_ HB.out ?_)) | omega | (simp; done) | (simp; omega))) : Below w.heap.size w wr)
      have hwr := HBR.out.size
      obtain ⟨ba, oa, rfl, hba, _, f1, f2, f3, _⟩ := act_cells HLA.out HB.out hlt
      have hba1 : ba < w1.heap.size := by omega
      have HAA := Lib.hid (HLO.out acts[k] (List.getElem_mem hlt))
      have hki : (k : Int) < acts.length := by omega
      have hk30i : decide ((k : Int) < 30) = true := by simp; omega
      generalize acts[k] = a at *
      obtain ⟨a0, a1, a2, a3, lad, lcap, l⟩ := a
      dsimp only at f1 f2 f3
      have F1 := Lib.hid f1
      have F3 := Lib.hid f3
      have c1 := (HSA.out.below.cell (p := ⟨ba, oa + k * 5 + 1, none⟩) hba1).trans f1
      have c2 := (HSA.out.below.cell (p := ⟨ba, oa + k * 5 + 2, none⟩) hba1).trans f2
      have c3 := (HSA.out.below.cell (p := ⟨ba, oa + k * 5 + 3, none⟩) hba1).trans f3
      clear f1 f2 f3
      have HW4 := Lib.hid (fun W => within_any a2 4 W (by decide) (by decide) HAA.out.2.2.1)
      have hdd := within_lt a2 4 (by decide)
      generalize withinOf a2 4 = d4 at *
      obtain ⟨sz, q, hs4, hsz, hq, hsq, hq1, hq2⟩ := size_of hdd
      go_upto_region 9 with (go_at_call 12; refine (HW4.out _).mono ?_; rintro e w' ⟨rfl, rfl⟩)
      rw [hsz]
      clear hsz hdd HW4
      have hsz0 : ¬ (sz : Int) = 0 := by omega
      have hsz0' : ¬ sz = 0 := by omega
      have hwq : IntKind.i64.wrap (q : Int) = q := by rw [IntKind.wrap_i64]; omega
      obtain ⟨wr, rfl⟩ : ∃ x, x = w' := ⟨_, rfl⟩
      have HWQ := Lib.hid (fun W => within_any a1 q W (by omega) (by omega) HAA.out.2.1)
      obtain ⟨at_, hat, hat1, hat2⟩ := place_of (within_lt a1 q (by omega)) hsq hs4
      generalize withinOf a1 q = d1 at *
      have hat' : IntKind.i64.wrap (d1 * sz) = at_ := by rw [IntKind.wrap_i64]; have := hat; unfold wrap64 at this; omega
      have HSZ := Lib.hid hs4
      have HSQ := Lib.hid hsq
      clear hsq
      have hbaw : ba < wr.heap.size := by omega
      refine wp_region_class (fun w' => Below (wr.heap.size) (wr) w') (by kernel_rfl) (by kernel_rfl) (Below.refl _ _).drew ?_
      repeat (first
        | (refine wpLex_pass (by rfl) passes_plain ?_; (conv => arg 9; simp only [put_lit, put_lit_none, List.set]))
        | (refine wpLex_plain (by rfl) ?_
           apply Exists.intro
           refine ⟨?_, ?_⟩
           · intro w' hb
             have hsz := hb.size
             try simp at hsz
             have hcw := fun b o (h : b < wr.heap.size) => hb.cell (p := ⟨b, o, none⟩) h
             have hfw := fun b o (h : b < wr.heap.size) => hb.frozen (p := ⟨b, o, none⟩) h
             go_simp
             first
               | exact ⟨rfl, hb⟩
               | exact rfl
               | ((with_reducible refine Calls.mono (HWQ.out _) ?_); rintro e w2 ⟨rfl, rfl⟩; exact ⟨_, rfl, rfl, hb⟩)
           conv => arg 9; simp only [put_lit, put_lit_none, List.set]))
      refine wpLex_nil ?_
      intro wq hbq
      have hsq := hbq.size
      try simp at hsq
      have hcq := fun b o (h : b < wr.heap.size) => hbq.cell (p := ⟨b, o, none⟩) h
      have hfq := fun b o (h : b < wr.heap.size) => hbq.frozen (p := ⟨b, o, none⟩) h
      have HBq := Lib.hid hbq
      clear hbq
      have hlen := HSA.out.len
      obtain ⟨x, hx⟩ : ∃ x, ws[at_ / 8]'(by omega) = x := ⟨_, rfl⟩
      obtain ⟨ws', hws⟩ : ∃ y, y = ws.set (at_ / 8) (putOf x ((at_ : Int) % 8 * 8) (maskOf (sz : Int)) a3) := ⟨_, rfl⟩
      have hl' : ws'.length = 24 := by rw [hws, List.length_set]; exact hlen
      have HBY := Lib.hid (show ∀ i, i < 192 → byteAt ws' i = if at_ ≤ i ∧ i < at_ + sz then byteOf a3 (i - at_) else byteAt ws i from fun i hi => by
        rw [hws]; exact byteAt_write ws HSA.out.ok a3 HAA.out.2.2.2.1 at_ sz HSZ.out hat2 (by omega) x hx i (by omega))
      have HOK := Lib.hid (show ∀ y ∈ ws', isWord y by rw [hws]; exact mem_set_of HSA.out.ok (putOf_word _ _ _ _))
      have hmi : (at_ : Int) % sz = 0 := by have := congrArg (Nat.cast (R := Int)) hat2; simpa using this
      have HWR := Lib.hid (show ∀ W, Below wr.heap.size wr W → Calls Try.prog 13 #[.agg #[.slice A 24 c], .int .i64 at_, .int .i64 sz, .int .u64 a3] W fun e w' => ∃ A' c', e = .returned (.tuple #[.agg #[.slice A' ws'.length c'], .int .i64 0]) ∧ Own w' (W.heap.size + 2) wordT 1 wordCells ws' A' c' ∧ Below W.heap.size W w' from fun W hb => by
        have h := write_yes A c ws at_ sz a3 W (by omega) (HSA.out.row.below hb).at_ HSA.out.ok HAA.out.2.2.2.1 (by rw [hlen]; decide) (by have := HSZ.out; omega) (by omega) (by omega) hmi (at_ / 8) (by omega) (by omega) x hx
        rw [hlen] at h
        rw [hl', hws]
        exact h)
      have HMq := Lib.hid (show wq.heap[w1.heap.size]? = some (.cells #[.slice A 24 c] memT2 (0, 0)) from (HBq.out.block _ (by omega)).trans HSA.out.mem)
      have HXq := Lib.hid ((HBq.out.block _ hxl).trans HXR.out)
      have m4 := fun j => cell_of_row _ _ j _ _ _ HMq.out
      have m4f := fun j => frozen_of_row _ _ j _ _ HMq.out
      have x4 := fun j => cell_of_row _ _ j _ _ _ HXq.out
      have x4f := fun j => frozen_of_row _ _ j _ _ HXq.out
      have c3q := (HBq.out.cell (p := ⟨ba, oa + k * 5 + 3, none⟩) hbaw).trans c3
      have HL' := Lib.hid hl'
      clear hl' hlen hx hws hmi c1 c2 c3 e1 ef hcq hfq hq hat hat' hwq HWQ
      have hn1 : ba < wq.heap.size := by omega
      have hn2 : w.heap.size < wq.heap.size := by omega
      have hn3 : w1.heap.size < wq.heap.size := by omega
      have hn4 : w1.heap.size + 1 < wq.heap.size := by omega
      go_upto_region 10 with fail
      have HST : Stays (mePs wq.heap.size wq.heap.size ws' 0 9 10 11 13 14 72 62 73 9 []) := stays_me stays_nil
      refine wp_region_lex [72, 62, 73, 9] (PromC (wq) (mePs wq.heap.size wq.heap.size ws' 0 9 10 11 13 14 72 62 73 9 [])) (promC_looks (by rfl)) (by kernel_rfl) (by kernel_rfl) (by kernel_rfl) (promC_start _) ?_
      repeat (first
        | (refine wpLex_promMake 0 _ [] HST rfl (by rfl) (by rfl) (by rfl) (by rfl) (by rfl) (by rfl) (by rfl) ?_ ?_
           · intro u w' hb hk
             have hsz := hb.size
             try simp at hsz
             have hcw := fun b o (h : b < (wq).heap.size) => hb.cell (p := ⟨b, o, none⟩) h
             have hfw := fun b o (h : b < (wq).heap.size) => hb.frozen (p := ⟨b, o, none⟩) h
             try simp only [putS, List.foldl, put_lit, List.set]
             go_simp
             (with_reducible refine Calls.mono (HWR.out _ (by repeat' (first | (with_reducible exact Below.refl _ _) | (with_reducible (refine Below.setCell ?_ ?_ _)) | (with_reducible (refine Below.alloc ?_ ?_ _)) | (with_reducible (refine Below.drew ?_)) | (with_reducible (refine below_via ?_ hb ?_)) | (with_reducible (refine below_via ?_ HBq.out ?_)) | omega | (simp; done) | (simp; omega)))) ?_)
             rintro e w2 ⟨A', c', rfl, h1, hb2⟩
             exact ⟨_, rfl, ⟨_, rfl⟩, ⟨A', c', rfl, h1.mono (by omega)⟩, hb2⟩
           (conv => arg 9; simp only [put_lit, put_lit_none, List.set]))
        | (refine wpLex_promMake 1 _ [0] HST rfl (by rfl) (by rfl) (by rfl) (by rfl) (by rfl) (by rfl) (by rfl) ?_ ?_
           · intro u w' hb hk
             have hsz := hb.size
             try simp at hsz
             have hcw := fun b o (h : b < (wq).heap.size) => hb.cell (p := ⟨b, o, none⟩) h
             have hfw := fun b o (h : b < (wq).heap.size) => hb.frozen (p := ⟨b, o, none⟩) h
             try simp only [putS, List.foldl, put_lit, List.set]
             obtain ⟨A, c, e0, h1⟩ := (hk 0 (by simp) _ rfl).2
             have e0' : u 72 = _ := e0
             rw [e0']
             go_simp
             exact ⟨⟨_, rfl⟩, ⟨A, c, rfl, h1⟩, Below.refl _ _⟩
           (conv => arg 9; simp only [put_lit, put_lit_none, List.set]))
        | (refine wpLex_promMake 2 _ [1] HST rfl (by rfl) (by rfl) (by rfl) (by rfl) (by rfl) (by rfl) (by rfl) ?_ ?_
           · intro u w' hb hk
             have hsz := hb.size
             try simp at hsz
             have hcw := fun b o (h : b < (wq).heap.size) => hb.cell (p := ⟨b, o, none⟩) h
             have hfw := fun b o (h : b < (wq).heap.size) => hb.frozen (p := ⟨b, o, none⟩) h
             try simp only [putS, List.foldl, put_lit, List.set]
             obtain ⟨A, c, e1, h1⟩ := (hk 1 (by simp) _ rfl).2
             have e1' : u 62 = _ := e1
             rw [e1']
             go_simp
             exact ⟨trivial, ⟨A, c, rfl, h1⟩, Below.refl _ _⟩
           (conv => arg 9; simp only [put_lit, put_lit_none, List.set]))
        | (refine wpLex_promUseV [1] HST (by rfl) (by rfl) (by rfl) ?_
           apply Exists.intro
           refine ⟨?_, ?_⟩
           · intro u w' hb hk
             have hsz := hb.size
             try simp at hsz
             have hcw := fun b o (h : b < (wq).heap.size) => hb.cell (p := ⟨b, o, none⟩) h
             have hfw := fun b o (h : b < (wq).heap.size) => hb.frozen (p := ⟨b, o, none⟩) h
             try simp only [putS, List.foldl, put_lit, List.set]
             obtain ⟨x, e1⟩ := hk 1 (by simp) _ rfl
             have e1' : u 62 = _ := e1
             rw [e1']
             go_simp
             exact ⟨rfl, Below.refl _ _⟩
           (conv => arg 9; simp only [put_lit, put_lit_none, List.set]))
        | (refine wpLex_promMake 3 _ [] HST rfl (by rfl) (by rfl) (by rfl) (by rfl) (by rfl) (by rfl) (by rfl) ?_ ?_
           · intro u w' hb hk
             have hsz := hb.size
             try simp at hsz
             have hcw := fun b o (h : b < (wq).heap.size) => hb.cell (p := ⟨b, o, none⟩) h
             have hfw := fun b o (h : b < (wq).heap.size) => hb.frozen (p := ⟨b, o, none⟩) h
             try simp only [putS, List.foldl, put_lit, List.set]
             go_simp
             exact ⟨trivial, ⟨_, rfl, hsz, heap_new _ _⟩, (Below.refl _ _).alloc (Nat.le_refl _) _⟩
           (conv => arg 9; simp only [put_lit, put_lit_none, List.set]))
        | (refine wpLex_promStore 4 _ [2, 3] rfl (by rfl) (by rfl) (by rfl) (by rfl) (by rfl) (by rfl) ?_ ?_
           · intro u w' hb hk
             have hsz := hb.size
             try simp at hsz
             have hcw := fun b o (h : b < (wq).heap.size) => hb.cell (p := ⟨b, o, none⟩) h
             have hfw := fun b o (h : b < (wq).heap.size) => hb.frozen (p := ⟨b, o, none⟩) h
             try simp only [putS, List.foldl, put_lit, List.set]
             obtain ⟨g, A, c, e2, e3, hz, hP, hB⟩ := put_step hb (hk 2 (by simp) _ rfl).2 (hk 3 (by simp) _ rfl).2
             have e2' : u 73 = _ := e2
             have e3' : u 9 = _ := e3
             have hP2 : PutF _ _ _ (u 9) _ := hP
             rw [e3'] at hP2
             rw [e2', e3']
             have hzc := fun j => cell_of_row _ _ j _ _ _ hz
             have hzf := fun j => frozen_of_row _ _ j _ _ hz
             go_simp
             first | exact trivial | exact ⟨trivial, hP2, hB⟩ | exact ⟨rfl, trivial, hP2, hB⟩)
        | (refine wpLex_pass (by rfl) (passes_prom HST (by rfl)) ?_; (conv => arg 9; simp only [put_lit, put_lit_none, List.set]))
        | (refine wpLex_promUse [] HST (by rfl) (by rfl) (by rfl) ?_
           apply Exists.intro
           refine ⟨?_, ?_⟩
           · intro u w' hb _
             have hsz := hb.size
             try simp at hsz
             have hcw := fun b o (h : b < (wq).heap.size) => hb.cell (p := ⟨b, o, none⟩) h
             have hfw := fun b o (h : b < (wq).heap.size) => hb.frozen (p := ⟨b, o, none⟩) h
             try simp only [putS, List.foldl, put_lit, List.set]
             go_simp
             first
               | exact ⟨rfl, Below.refl _ _⟩
               | exact Below.refl _ _
               | exact rfl
           (conv => arg 9; simp only [put_lit, put_lit_none, List.set])))
      refine wpLex_nil ?_
      intro wp bp dp hdp hCp hop
      obtain ⟨up, rfl, hbp, hkp⟩ := promC_end hCp hdp hop
      clear hCp hop hdp dp
      simp only [putS, List.foldl, put_lit, List.set]
      have hsp := hbp.size
      try simp at hsp
      have hcp := fun b o (h : b < (wq).heap.size) => hbp.cell (p := ⟨b, o, none⟩) h
      have hfp := fun b o (h : b < (wq).heap.size) => hbp.frozen (p := ⟨b, o, none⟩) h
      have HBp := Lib.hid hbp
      clear hbp
      obtain ⟨gp, Ap, cp, ep, hgp, hxp, hop⟩ := (hkp 4 _ rfl (of_decide_eq_true (by rfl)) rfl).2
      have ep' : up 9 = _ := ep
      rw [ep']
      clear hkp
      generalize up 72 = xp72 at *
      generalize up 62 = xp62 at *
      generalize up 73 = xp73 at *
      clear ep ep' up
      have hlp := heap_lt hxp
      have HXp := Lib.hid hxp
      have HOp := Lib.hid hop
      clear hxp hop
      have mp := fun j => (hcp w1.heap.size j hn3).trans (m4 j)
      have mfp := fun j => (hfp w1.heap.size j hn3).trans (m4f j)
      have zp := fun j => cell_of_row _ _ j _ _ _ HXp.out
      have zfp := fun j => frozen_of_row _ _ j _ _ HXp.out
      clear m4 m4f x4 x4f c3q hcp hfp
      go_upto_region 14 with (go_at_call 11; refine (HNU.out _ _).mono ?_; rintro e w' ⟨rfl, rfl⟩)
      clear mp mfp zp zfp
      refine name_world ?_
      intro wb hwb
      have HMB := Lib.hid (show MidAt wo w1.heap.size wb ws' bs Ap cp from ⟨HL'.out, HOK.out, by rw [hwb]; exact (Own.atNe (b3 := w1.heap.size) (b5 := w1.heap.size + 1) HOp.out (fun p hp => by have := (HOp.out.block_ hp).1; omega) (fun p hp => by have := (HOp.out.block_ hp).1; omega)).set (.inl rfl) _, by
        have h := heap_set_same ((HBp.out.block _ hn3).trans HMq.out) 0 (.slice Ap ws'.length cp)
        rw [HL'.out] at h
        rw [hwb, HL'.out]; exact h, by rw [hwb]; exact (heap_set_other (by simp) _).trans ((HBp.out.block _ (by omega)).trans ((HBq.out.block _ (by omega)).trans HSA.out.byt)), HSA.out.bl, by rw [hwb]; repeat' (first | (with_reducible exact Below.refl _ _) | (with_reducible (refine Below.setCell ?_ ?_ _)) | (with_reducible (refine Below.alloc ?_ ?_ _)) | (with_reducible (refine Below.drew ?_)) | (with_reducible (refine below_via ?_ HBp.out ?_)) | (with_reducible (refine below_via ?_ HBq.out ?_)) | (with_reducible (refine below_via ?_ HSA.out.below ?_)) | omega | (simp; done) | (simp; omega))⟩)
      have HVAL := Lib.hid HSA.out.val
      have hsw : w1.heap.size + 2 ≤ wo.heap.size := hso
      clear hwb HOp HXp HBp HMq HXq HWR HBq HXR HSA HST
      go_wp2
      go_loopw [11] (fun j wr2 => ∃ (kk : Nat) (bs2 : List Int), kk ≤ sz ∧ j = .int .i64 kk ∧ MidAt wo w1.heap.size wr2 ws' bs2 Ap cp ∧ ∀ i, i < 192 → bs2.getD i 0 = if at_ ≤ i ∧ i < at_ + kk then byteOf a3 (i - at_) else bs.getD i 0) (fun i _ => 8 - (intOf i).toNat)
      case atStart => exact ⟨0, bs, Nat.zero_le _, rfl, HMB.out, fun i _ => by rw [if_neg (by omega)]⟩
      case round =>
        obtain ⟨kk, bs2, hkk, rfl, hmid, hbs⟩ := hrel
        have HMI := Lib.hid hmid
        have HBS := Lib.hid hbs
        have hsr := hmid.below.size
        have hbl2 := hmid.bl
        clear hmid hbs
        have HXr := Lib.hid ((HMI.out.below.block w.heap.size (by omega)).trans HX.out)
        have x1 := fun j => cell_of_row _ _ j _ _ _ HXr.out
        have x1f := fun j => frozen_of_row _ _ j _ _ HXr.out
        have c3 := (HMI.out.below.cell (p := ⟨ba, oa + k * 5 + 3, none⟩) hba1).trans F3.out
        have hkil := hki
        have hz8 : sz ≤ 8 := by have := HSZ.out; omega
        by_cases hlt : kk < sz
        · have hlti : (kk : Int) < sz := by omega
          obtain ⟨y, hy⟩ : ∃ y, wr.cell? ⟨w1.heap.size + 1, at_ + kk, none⟩ = some (.int .u8 y) := ⟨bs2[at_ + kk]'(by omega), by rw [cell_of_row _ _ _ _ _ _ HMI.out.byt]; simp [byteCells, List.getElem?_eq_getElem (show at_ + kk < bs2.length by omega)]⟩
          have hyf := frozen_of_row _ _ (at_ + kk) _ _ HMI.out.byt
          go_wp2
          go_roundw
          case rel => exact ⟨kk + 1, _, by omega, by go_num, HMI.out.put _ _, put_get hbl2 (by omega) rfl HBS.out⟩
          case measure => simp [intOf]; omega
        · have hlti : ¬ (kk : Int) < sz := by omega
          obtain rfl : kk = sz := by omega
          have HBK := Lib.hid (show BackAt wo w1.heap.size wr ws' bs2 Ap cp from HMI.out.back fun i hi => by rw [HBS.out i hi, HBY.out i hi, HVAL.out i hi])
          clear HMI HBS HVAL HBY
          go_wp2
          go_loopw [12] (fun j wr3 => ∃ s : Nat, (s = 1 ∨ s = 2 ∨ s = 4 ∨ s = 8 ∨ s = 16) ∧ j = .int .i64 s ∧ BackAt wo w1.heap.size wr3 ws' bs2 Ap cp) (fun i _ => 16 - (intOf i).toNat)
          case atStart => exact ⟨1, .inl rfl, rfl, HBK.out⟩
          case round =>
            obtain ⟨s, hs, rfl, hbk⟩ := hrel
            have HB2 := Lib.hid hbk
            have hsr2 := hbk.below.size
            clear hbk
            by_cases h16 : s = 16
            · subst h16
              go_wp2
              go_roundg (30 - (k + 1))
              case rel => exact ⟨k + 1, ws', bs2, Ap, cp, by omega, by omega, rfl, by go_num, HB2.out⟩
              case measure => have := HGK.out; omega
            · have hs4 : s = 1 ∨ s = 2 ∨ s = 4 ∨ s = 8 := by omega
              have hs8 : (s : Int) ≤ 8 := by omega
              obtain ⟨m, b, hq, hb, hb1, hb2⟩ := down_of at_ s (by omega) hs4
              have hs0 : ¬ (s : Int) = 0 := by omega
              have hs0' : ¬ s = 0 := by omega
              obtain ⟨y, hy, hby, hr⟩ := byte_read HB2.out hs4 hb1 hb2
              have HBY := Lib.hid hby
              have HR := Lib.hid hr
              clear hby hr
              have m3 := fun j => cell_of_row _ _ j _ _ _ HB2.out.mem
              have m3f := fun j => frozen_of_row _ _ j _ _ HB2.out.mem
              go_wp2_with fail
              have hz5 : w1.heap.size + 1 < wr.heap.size := by omega
              refine Calls.mono (HR.out _ (by repeat' (first | (with_reducible exact Below.refl _ _) | (with_reducible (refine Below.setCell ?_ ?_ _)) | (with_reducible (refine Below.alloc ?_ ?_ _)) | (with_reducible (refine Below.drew ?_)) | omega | (simp; done) | (simp; omega)))) ?_
              rintro e w6 ⟨rfl, hb6⟩
              have hs6 := hb6.size
              try simp at hs6
              have hc6_0 := fun o => (bcell hb6).1 (w1.heap.size) o (by first | omega | (simp; done) | (simp; omega))
              have hf6_0 := fun o => (bcell hb6).2.1 (w1.heap.size) o (by first | omega | (simp; done) | (simp; omega))
              have hz6_0 := (bcell hb6).2.2 (w1.heap.size) (by first | omega | (simp; done) | (simp; omega))
              have hc6_1 := fun o => (bcell hb6).1 (w1.heap.size + 1) o (by first | omega | (simp; done) | (simp; omega))
              have hf6_1 := fun o => (bcell hb6).2.1 (w1.heap.size + 1) o (by first | omega | (simp; done) | (simp; omega))
              have hz6_1 := (bcell hb6).2.2 (w1.heap.size + 1) (by first | omega | (simp; done) | (simp; omega))
              have HB6 := Lib.hid hb6
              clear hb6
              go_wp2
              go_loop [16, 17] (fun v i => ∃ kk : Nat, kk ≤ s ∧ v = .int .u64 ((y % 2 ^ (8 * kk) : Nat) : Int) ∧ i = .int .i64 kk) (fun _ i => 8 - (intOf i).toNat)
              case atStart => exact ⟨0, Nat.zero_le _, by rw [Nat.mul_zero, Nat.pow_zero, Nat.mod_one]; rfl, rfl⟩
              case round =>
                obtain ⟨kk, hkk, rfl, rfl⟩ := hrel
                by_cases hlt : kk < s
                · have hlti : (kk : Int) < s := by omega
                  have hcb := HBY.out kk hlt
                  have hcf := frozen_of_row _ _ (b + kk) _ _ HB2.out.byt
                  go_wp2
                  go_round
                  case rel => exact ⟨kk + 1, by omega, congrArg (Value.int .u64) (want_end hy (by omega)), by go_num⟩
                  case measure => simp [intOf]; omega
                · have hlti : ¬ (kk : Int) < s := by omega
                  obtain rfl : kk = s := by omega
                  go_wp2_with (go_at_call 11; refine (HNU.out _ _).mono ?_; rintro e w' ⟨rfl, rfl⟩)
                  go_roundw
                  case rel => exact ⟨2 * kk, by omega, by go_num, HB2.out.keep HB6.out⟩
                  case measure => simp [intOf]; omega
    · have HEND := Lib.hid HSA.out
      clear HSA
      rcases (show ((k : Int) < acts.length ∧ k = 30) ∨ ¬ (k : Int) < acts.length by omega) with ⟨hki, rfl⟩ | hki
      · go_wp2
        go_loopw [18] (fun i wr3 => ∃ m : Nat, m ≤ 192 ∧ i = .int .i64 m ∧ BackAt wo w1.heap.size wr3 ws bs A c) (fun i _ => 192 - (intOf i).toNat)
        case atStart => exact ⟨0, Nat.zero_le _, rfl, HEND.out⟩
        case round =>
          obtain ⟨m, hm, rfl, hbk⟩ := hrel
          have HB2 := Lib.hid hbk
          have hsr2 := hbk.below.size
          clear hbk
          by_cases hlt : m < 192
          · have hlti : (m : Int) < 192 := by omega
            obtain ⟨y, hy, hby, hr⟩ := byte_one HB2.out hlt
            have HR := Lib.hid hr
            clear hr
            have hbf := frozen_of_row _ _ m _ _ HB2.out.byt
            have m3 := fun j => cell_of_row _ _ j _ _ _ HB2.out.mem
            have m3f := fun j => frozen_of_row _ _ j _ _ HB2.out.mem
            have hz5 : w1.heap.size + 1 < wr.heap.size := by omega
            go_wp2_with fail
            refine Calls.mono (HR.out _ (by repeat' (first | (with_reducible exact Below.refl _ _) | (with_reducible (refine Below.setCell ?_ ?_ _)) | (with_reducible (refine Below.alloc ?_ ?_ _)) | (with_reducible (refine Below.drew ?_)) | omega | (simp; done) | (simp; omega)))) ?_
            rintro e w6 ⟨rfl, hb6⟩
            have hs6 := hb6.size
            try simp at hs6
            have hc6_0 := fun o => (bcell hb6).1 (w1.heap.size) o (by first | omega | (simp; done) | (simp; omega))
            have hf6_0 := fun o => (bcell hb6).2.1 (w1.heap.size) o (by first | omega | (simp; done) | (simp; omega))
            have hz6_0 := (bcell hb6).2.2 (w1.heap.size) (by first | omega | (simp; done) | (simp; omega))
            have hc6_1 := fun o => (bcell hb6).1 (w1.heap.size + 1) o (by first | omega | (simp; done) | (simp; omega))
            have hf6_1 := fun o => (bcell hb6).2.1 (w1.heap.size + 1) o (by first | omega | (simp; done) | (simp; omega))
            have hz6_1 := (bcell hb6).2.2 (w1.heap.size + 1) (by first | omega | (simp; done) | (simp; omega))
            have HB6 := Lib.hid hb6
            clear hb6
            go_wp2_with (go_at_call 11; refine (HNU.out _ _).mono ?_; rintro e w' ⟨rfl, rfl⟩)
            go_roundw
            case rel => exact ⟨m + 1, by omega, by go_num, HB2.out.keep HB6.out⟩
            case measure => simp [intOf]; omega
          · obtain rfl : m = 192 := by omega
            go_wp2_with fail
            refine Calls.mono (HN0.out _) ?_
            rintro e w7 ⟨rfl, hb7⟩
            have hs7 := hb7.size
            try simp at hs7
            have HB7 := Lib.hid hb7
            clear hb7
            go_wp2_with fail
            refine Calls.mono (HN65.out _) ?_
            rintro e w8 ⟨rfl, hb8⟩
            have hs8 := hb8.size
            try simp at hs8
            have HB8 := Lib.hid hb8
            clear hb8
            go_wp2_with (first | (go_at_call 11; refine (HNU.out _ _).mono ?_; rintro e w' ⟨rfl, rfl⟩) | (go_at_call 15; refine (HWA.out _).mono ?_; rintro e w9 ⟨rfl, hb9⟩; have hs9 := hb9.size; (try simp at hs9); have HB9 := Lib.hid hb9; clear hb9))
            go_ret
            exact ⟨rfl, (by repeat' (first | (with_reducible exact Below.refl _ _) | (with_reducible (refine Below.setCell ?_ ?_ _)) | (with_reducible (refine Below.alloc ?_ ?_ _)) | (with_reducible (refine Below.drew ?_)) | (with_reducible (refine below_via ?_ HB9.out ?_)) | (with_reducible (refine below_via ?_ HB8.out ?_)) | (with_reducible (refine below_via ?_ HB7.out ?_)) | (with_reducible (refine below_via ?_ HB2.out.below ?_)) | (with_reducible (refine below_via ?_ HB.out ?_)) | omega | (simp; done) | (simp; omega)))⟩
      · go_wp2
        go_loopw [18] (fun i wr3 => ∃ m : Nat, m ≤ 192 ∧ i = .int .i64 m ∧ BackAt wo w1.heap.size wr3 ws bs A c) (fun i _ => 192 - (intOf i).toNat)
        case atStart => exact ⟨0, Nat.zero_le _, rfl, HEND.out⟩
        case round =>
          obtain ⟨m, hm, rfl, hbk⟩ := hrel
          have HB2 := Lib.hid hbk
          have hsr2 := hbk.below.size
          clear hbk
          by_cases hlt : m < 192
          · have hlti : (m : Int) < 192 := by omega
            obtain ⟨y, hy, hby, hr⟩ := byte_one HB2.out hlt
            have HR := Lib.hid hr
            clear hr
            have hbf := frozen_of_row _ _ m _ _ HB2.out.byt
            have m3 := fun j => cell_of_row _ _ j _ _ _ HB2.out.mem
            have m3f := fun j => frozen_of_row _ _ j _ _ HB2.out.mem
            have hz5 : w1.heap.size + 1 < wr.heap.size := by omega
            go_wp2_with fail
            refine Calls.mono (HR.out _ (by repeat' (first | (with_reducible exact Below.refl _ _) | (with_reducible (refine Below.setCell ?_ ?_ _)) | (with_reducible (refine Below.alloc ?_ ?_ _)) | (with_reducible (refine Below.drew ?_)) | omega | (simp; done) | (simp; omega)))) ?_
            rintro e w6 ⟨rfl, hb6⟩
            have hs6 := hb6.size
            try simp at hs6
            have hc6_0 := fun o => (bcell hb6).1 (w1.heap.size) o (by first | omega | (simp; done) | (simp; omega))
            have hf6_0 := fun o => (bcell hb6).2.1 (w1.heap.size) o (by first | omega | (simp; done) | (simp; omega))
            have hz6_0 := (bcell hb6).2.2 (w1.heap.size) (by first | omega | (simp; done) | (simp; omega))
            have hc6_1 := fun o => (bcell hb6).1 (w1.heap.size + 1) o (by first | omega | (simp; done) | (simp; omega))
            have hf6_1 := fun o => (bcell hb6).2.1 (w1.heap.size + 1) o (by first | omega | (simp; done) | (simp; omega))
            have hz6_1 := (bcell hb6).2.2 (w1.heap.size + 1) (by first | omega | (simp; done) | (simp; omega))
            have HB6 := Lib.hid hb6
            clear hb6
            go_wp2_with (go_at_call 11; refine (HNU.out _ _).mono ?_; rintro e w' ⟨rfl, rfl⟩)
            go_roundw
            case rel => exact ⟨m + 1, by omega, by go_num, HB2.out.keep HB6.out⟩
            case measure => simp [intOf]; omega
          · obtain rfl : m = 192 := by omega
            go_wp2_with fail
            refine Calls.mono (HN0.out _) ?_
            rintro e w7 ⟨rfl, hb7⟩
            have hs7 := hb7.size
            try simp at hs7
            have HB7 := Lib.hid hb7
            clear hb7
            go_wp2_with fail
            refine Calls.mono (HN65.out _) ?_
            rintro e w8 ⟨rfl, hb8⟩
            have hs8 := hb8.size
            try simp at hs8
            have HB8 := Lib.hid hb8
            clear hb8
            go_wp2_with (first | (go_at_call 11; refine (HNU.out _ _).mono ?_; rintro e w' ⟨rfl, rfl⟩) | (go_at_call 15; refine (HWA.out _).mono ?_; rintro e w9 ⟨rfl, hb9⟩; have hs9 := hb9.size; (try simp at hs9); have HB9 := Lib.hid hb9; clear hb9))
            go_ret
            exact ⟨rfl, (by repeat' (first | (with_reducible exact Below.refl _ _) | (with_reducible (refine Below.setCell ?_ ?_ _)) | (with_reducible (refine Below.alloc ?_ ?_ _)) | (with_reducible (refine Below.drew ?_)) | (with_reducible (refine below_via ?_ HB9.out ?_)) | (with_reducible (refine below_via ?_ HB8.out ?_)) | (with_reducible (refine below_via ?_ HB7.out ?_)) | (with_reducible (refine below_via ?_ HB2.out.below ?_)) | (with_reducible (refine below_via ?_ HB.out ?_)) | omega | (simp; done) | (simp; omega)))⟩

end Go.Proofs.Ytipepkmmjdlpoaa
