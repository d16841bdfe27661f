/-
  slices.DeleteFunc of entries, in a row of the call's own. Conditions: the length fits.
-/
import Derived.Test.YtbaninglcafhhaaTlA
namespace Go.Proofs.Ytbaninglcafhhaa
open Go.RowKit

structure Del (q : Ent → Bool) (l cur : List Ent) (i j : Nat) : Prop where
  len : cur.length = l.length
  lt : i < j
  le : j ≤ l.length
  pre : cur.take i = (l.take j).filter q
  post : cur.drop j = l.drop j
section
variable {q : Ent → Bool} {l cur : List Ent} {i j : Nat}
theorem Del.get (h : Del q l cur i j) (hj : j < l.length) (hc : j < cur.length) : cur[j] = l[j] := by
  have h1 := congrArg (fun m => m[0]?) h.post
  simp only [List.getElem?_drop, Nat.add_zero] at h1
  rw [List.getElem?_eq_getElem hj, List.getElem?_eq_getElem hc] at h1
  exact Option.some.inj h1
theorem Del.keep (h : Del q l cur i j) (hj : j < l.length) {x : Ent} (hx : l[j] = x) (hq : q x = true) : Del q l (cur.set i x) (i + 1) (j + 1) := by
  have h1 := h.lt
  have h2 := h.len
  refine ⟨by rw [List.length_set]; exact h2, by omega, by omega, ?_, ?_⟩
  · rw [List.take_set, take_snoc_get cur i (by omega), take_snoc_get l j hj, List.filter_append, ← h.pre, hx]
    have h3 : (cur.take i).length = i := by simp; omega
    rw [List.set_append_right _ _ (by omega), h3, Nat.sub_self]
    simp [hq]
  · rw [List.drop_set_of_lt (by omega)]
    have := congrArg (List.drop 1) h.post
    simpa using this
theorem Del.drop (h : Del q l cur i j) (hj : j < l.length) {x : Ent} (hx : l[j] = x) (hq : q x = false) : Del q l cur i (j + 1) := by
  have h1 := h.lt
  refine ⟨h.len, by omega, by omega, ?_, ?_⟩
  · rw [take_snoc_get l j hj, List.filter_append, ← h.pre, hx]
    simp [hq]
  · have := congrArg (List.drop 1) h.post
    simpa using this
theorem Del.done (h : Del q l cur i j) (hj : l.length ≤ j) : cur.take i = l.filter q := by
  have := h.pre
  rwa [List.take_of_length_le hj] at this
theorem Del.start {p : Ent → Bool} {k : Nat} (hk : k < l.length) (hp : p l[k] = true) (h : (l.take k).any p = false) : Del (fun x => !p x) l l k (k + 1) := by
  refine ⟨rfl, by omega, by omega, ?_, rfl⟩
  rw [take_snoc_get l k hk, List.filter_append]
  have h1 : (l.take k).filter (fun x => !p x) = l.take k := by
    rw [List.filter_eq_self]
    intro a ha
    rw [List.any_eq_false] at h
    simpa using h a ha
  rw [h1]
  simp [hp]
end
theorem filter_none {p : Ent → Bool} {l : List Ent} (h : l.any p = false) : l.filter (fun x => !p x) = l := by
  rw [List.filter_eq_self]
  intro a ha
  rw [List.any_eq_false] at h
  simpa using h a ha

/-- 'clear(s)', s a slice of n > 0 elements of several cells. -/
theorem run_clear_many {P : Program} (w : World) (t e ty : TypeId) (z : Value) (ht : P.underlying t = some (.slice e)) (hv : ∀ w, (zeroValue e).run P w = .ok z w) (b o n c : Nat) (hn : 0 < n) (h1 : ∀ v ∈ (Builtin.zeroCells z.cells n).toList, v.oneCell' = true)
    (hc : ∀ j, j < n * z.cells.size → (w.cell? ⟨b, o + j, none⟩).isSome = true) (hf : ∀ j, j < n * z.cells.size → w.frozen? ⟨b, o + j, none⟩ = false) :
    (Builtin.clear_ #[t] ty #[.slice (some ⟨b, o, none⟩) n c]).run P w = .ok (.tuple #[]) (w.setCells b o (Builtin.zeroCells z.cells n).toList) := by
  have hlen : (Builtin.zeroCells z.cells n).toList.length = n * z.cells.size := by simp [Builtin.zeroCells]
  have hst := run_storeCells_cells (P := P) b o (Builtin.zeroCells z.cells n).toList 0 w (by rw [hlen]; simpa using hc) (by rw [hlen]; simpa using hf) h1
  simp only [Nat.add_zero] at hst
  obtain ⟨m, rfl⟩ : ∃ m, n = m + 1 := ⟨n - 1, by omega⟩
  simp [Builtin.clear_, run_underlying ht, hv, hst]

def noEntV : Value := .agg #[.int .i64 0, .int .i64 0, .int .i64 0, .bool false, .int .i64 0, .int .i64 0, .int .i64 0, .int .i64 0, .bool false, .bool false, .bool false, .bool false, .bool false, .int .i64 0]
theorem zero_ent (w : World) : (zeroValue entT).run Try.prog w = .ok noEntV w := by kernel_rfl
theorem zero_ones (n : Nat) : ∀ v ∈ (Builtin.zeroCells noEntV.cells n).toList, v.oneCell' = true := by
  intro v hv
  simp only [Builtin.zeroCells, Array.toList_map, Array.toList_range, List.mem_map, List.mem_range] at hv
  obtain ⟨i, _, rfl⟩ := hv
  have : i % noEntV.cells.size < 14 := Nat.mod_lt _ (by decide)
  generalize i % noEntV.cells.size = j at *
  have : j = 0 ∨ j = 1 ∨ j = 2 ∨ j = 3 ∨ j = 4 ∨ j = 5 ∨ j = 6 ∨ j = 7 ∨ j = 8 ∨ j = 9 ∨ j = 10 ∨ j = 11 ∨ j = 12 ∨ j = 13 := by omega
  rcases this with rfl | rfl | rfl | rfl | rfl | rfl | rfl | rfl | rfl | rfl | rfl | rfl | rfl | rfl <;> rfl

set_option maxRecDepth 100000 in
theorem Own.putE {w : World} {B g c : Nat} {l : List Ent} (h : Own w B entT 14 Ent.cells l (some ⟨g, 0, none⟩) c) {i : Nat} (hi : i < l.length) (a0 : Int) (a1 : Int) (a2 : Int) (a3 : Bool) (a4 : Int) (a5 : Int) (a6 : Int) (a7 : Int) (a8 : Bool) (a9 : Bool) (a10 : Bool) (a11 : Bool) (a12 : Bool) (a13 : Int) :
    Own ((((((((((((((w.setCell ⟨g, i * 14, none⟩ (.int .i64 a0)).setCell ⟨g, i * 14 + 1, none⟩ (.int .i64 a1)).setCell ⟨g, i * 14 + 2, none⟩ (.int .i64 a2)).setCell ⟨g, i * 14 + 3, none⟩ (.bool a3)).setCell ⟨g, i * 14 + 4, none⟩ (.int .i64 a4)).setCell ⟨g, i * 14 + 5, none⟩ (.int .i64 a5)).setCell ⟨g, i * 14 + 6, none⟩ (.int .i64 a6)).setCell ⟨g, i * 14 + 7, none⟩ (.int .i64 a7)).setCell ⟨g, i * 14 + 8, none⟩ (.bool a8)).setCell ⟨g, i * 14 + 9, none⟩ (.bool a9)).setCell ⟨g, i * 14 + 10, none⟩ (.bool a10)).setCell ⟨g, i * 14 + 11, none⟩ (.bool a11)).setCell ⟨g, i * 14 + 12, none⟩ (.bool a12)).setCell ⟨g, i * 14 + 13, none⟩ (.int .i64 a13)) B entT 14 Ent.cells (l.set i ⟨a0, a1, a2, a3, a4, a5, a6, a7, a8, a9, a10, a11, a12, a13⟩) (some ⟨g, 0, none⟩) c := h.put ent_len hi ⟨a0, a1, a2, a3, a4, a5, a6, a7, a8, a9, a10, a11, a12, a13⟩

set_option maxRecDepth 100000 in
theorem heap_putE {w : World} {g b : Nat} (hb : b ≠ g) (i : Nat) (a0 : Int) (a1 : Int) (a2 : Int) (a3 : Bool) (a4 : Int) (a5 : Int) (a6 : Int) (a7 : Int) (a8 : Bool) (a9 : Bool) (a10 : Bool) (a11 : Bool) (a12 : Bool) (a13 : Int) : (((((((((((((((w.setCell ⟨g, i * 14, none⟩ (.int .i64 a0)).setCell ⟨g, i * 14 + 1, none⟩ (.int .i64 a1)).setCell ⟨g, i * 14 + 2, none⟩ (.int .i64 a2)).setCell ⟨g, i * 14 + 3, none⟩ (.bool a3)).setCell ⟨g, i * 14 + 4, none⟩ (.int .i64 a4)).setCell ⟨g, i * 14 + 5, none⟩ (.int .i64 a5)).setCell ⟨g, i * 14 + 6, none⟩ (.int .i64 a6)).setCell ⟨g, i * 14 + 7, none⟩ (.int .i64 a7)).setCell ⟨g, i * 14 + 8, none⟩ (.bool a8)).setCell ⟨g, i * 14 + 9, none⟩ (.bool a9)).setCell ⟨g, i * 14 + 10, none⟩ (.bool a10)).setCell ⟨g, i * 14 + 11, none⟩ (.bool a11)).setCell ⟨g, i * 14 + 12, none⟩ (.bool a12)).setCell ⟨g, i * 14 + 13, none⟩ (.int .i64 a13))).heap[b]? = w.heap[b]? := heap_cells hb [.int .i64 a0, .int .i64 a1, .int .i64 a2, .bool a3, .int .i64 a4, .int .i64 a5, .int .i64 a6, .int .i64 a7, .bool a8, .bool a9, .bool a10, .bool a11, .bool a12, .int .i64 a13] (i * 14) w

set_option maxRecDepth 100000 in
set_option maxHeartbeats 8000000 in
theorem DeleteFunc_ent (K : Nat) (cap : Value) (p : Ent → Bool) (B : Nat) (A : Option Addr) (c : Nat) (l : List Ent) (w : World) (hl : l.length ≤ 1000000) (hO : Own w B entT 14 Ent.cells l A c) (hB : B ≤ w.heap.size)
    (hK : ∀ (v : Value) (W : World), Sem.run Try.prog (callFunc K #[v, cap]) W = .ok (.enter K #[v, cap]) W)
    (hp : ∀ (W : World), ∀ x ∈ l, Below B w W → Calls Try.prog K #[.agg (Ent.cells x).toArray, cap] W fun e w' => e = .returned (.bool (p x)) ∧ Below W.heap.size W w') :
    Calls Try.prog 73 #[.slice A l.length c, .func (.func K) #[] #[cap]] w fun e w' => ∃ A', e = .returned (.slice A' (l.filter fun x => !p x).length c) ∧ Own w' B entT 14 Ent.cells (l.filter fun x => !p x) A' c ∧ Below B w w' ∧ (∀ b, b < w.heap.size → (∀ p : Addr, A = some p → p.block ≠ b) → w'.heap[b]? = w.heap[b]?) := by
  have HP := Lib.hid hp
  have HO := Lib.hid hO
  have HI := Lib.hid (IndexFunc_ent1 K cap p A c l w (by omega) (hO.at_ ent_len) hK (fun W x hx hb => hp W x hx (hb.mono hB)))
  have HCAP := Lib.hid hO.cap_
  clear hp hO
  rcases idx_cases p l with ⟨h1, h2⟩ | ⟨k, hk, h1, h2, h3⟩
  · rw [h1] at HI
    have HF := Lib.hid (filter_none h2)
    clear h1 h2
    go_enter Try.func73, Try.ntmps73
    go_wp2_with fail
    refine Calls.mono (HI.out) ?_
    rintro e w1 ⟨rfl, hb1⟩
    have hs1 := hb1.size
    try simp at hs1
    have HB1 := Lib.hid hb1
    clear hb1
    go_wp2
    go_ret
    exact ⟨A, by rw [HF.out]; rfl, by rw [HF.out]; exact HO.out.below HB1.out (Nat.le_refl _), HB1.out.mono hB, fun b hb _ => HB1.out.block b hb⟩
  · rw [h1] at HI
    have HS := Lib.hid (Del.start hk h2 h3)
    clear h1 h2 h3
    obtain ⟨g, rfl, hg1, hg2, hg3⟩ := HO.out.spot (by omega)
    have hk1 : ((k : Int) == -1) = false := by first | (simp; done) | (simp; omega)
    go_enter Try.func73, Try.ntmps73
    go_wp2_with fail
    refine Calls.mono (HI.out) ?_
    rintro e w1 ⟨rfl, hb1⟩
    have hs1 := hb1.size
    try simp at hs1
    have HB1 := Lib.hid hb1
    clear hb1
    go_wp2_with fail
    go_loopw [5, 6] (fun i j wr => ∃ (m n : Nat) (cur : List Ent), i = .int .i64 m ∧ j = .int .i64 n ∧ Del (fun x => !p x) l cur m n ∧ Own wr B entT 14 Ent.cells cur (some ⟨g, 0, none⟩) c ∧ Below B w wr ∧ (w.heap.size ≤ wr.heap.size ∧ ∀ b, b < w.heap.size → b ≠ g → wr.heap[b]? = w.heap[b]?)) (fun _ j _ => l.length - (intOf j).toNat)
    case atStart => exact ⟨k, k + 1, l, rfl, by go_num, HS.out, HO.out.below HB1.out (Nat.le_refl _), HB1.out.mono hB, HB1.out.size, fun b hb _ => HB1.out.block b hb⟩
    case round =>
      obtain ⟨m, n, cur, rfl, rfl, hdel, hown, hbw, hkp⟩ := hrel
      have HKP := Lib.hid hkp
      clear hkp
      have HD := Lib.hid hdel
      have HW := Lib.hid hown
      have HBW := Lib.hid hbw
      have hlt := hdel.lt
      have hle := hdel.le
      have hcl := hdel.len
      clear hdel hown hbw
      have hgl := (HW.out.block_ rfl).2
      dsimp only at hgl
      by_cases hnt : n < l.length
      · have hnc : n < cur.length := by omega
        obtain ⟨x, hxk⟩ : ∃ x, l[n] = x := ⟨_, rfl⟩
        have HXK := Lib.hid hxk
        have HCX := Lib.hid (fun (r : Nat) (u : Value) (hu : (Ent.cells x)[r]? = some u) => HW.out.cell ent_len (i := n) (j := r) hnc (u := u) (by rw [HD.out.get hnt hnc, hxk]; exact hu))
        have HPX := Lib.hid (fun W (hb : Below B w W) => HP.out W x (by rw [← hxk]; exact List.getElem_mem _) hb)
        clear hxk
        obtain ⟨pv, hpv⟩ : ∃ pv, p x = pv := ⟨_, rfl⟩
        have HPV := Lib.hid hpv
        rw [hpv] at HPX
        clear hpv
        obtain ⟨a0, a1, a2, a3, a4, a5, a6, a7, a8, a9, a10, a11, a12, a13⟩ := x
        have HPY := Lib.hid (show ∀ (W : World), Below B w W → Calls Try.prog K #[.agg #[.int .i64 a0, .int .i64 a1, .int .i64 a2, .bool a3, .int .i64 a4, .int .i64 a5, .int .i64 a6, .int .i64 a7, .bool a8, .bool a9, .bool a10, .bool a11, .bool a12, .int .i64 a13], cap] W fun e w' => e = .returned (.bool pv) ∧ Below W.heap.size W w' from HPX.out)
        clear HPX
        have c0 := HCX.out 0 _ rfl
        have c1 := HCX.out 1 _ rfl
        have c2 := HCX.out 2 _ rfl
        have c3 := HCX.out 3 _ rfl
        have c4 := HCX.out 4 _ rfl
        have c5 := HCX.out 5 _ rfl
        have c6 := HCX.out 6 _ rfl
        have c7 := HCX.out 7 _ rfl
        have c8 := HCX.out 8 _ rfl
        have c9 := HCX.out 9 _ rfl
        have c10 := HCX.out 10 _ rfl
        have c11 := HCX.out 11 _ rfl
        have c12 := HCX.out 12 _ rfl
        have c13 := HCX.out 13 _ rfl
        simp only [Nat.add_zero] at c0
        have hni : (n : Int) < l.length := by omega
        have hmi : (m : Int) < l.length := by omega
        cases pv
        · go_wp2_with fail
          refine Calls.mono (HPY.out _ (by repeat' (first | (with_reducible exact Below.refl _ _) | (with_reducible (refine Below.setCell ?_ ?_ _)) | (with_reducible (refine Below.alloc ?_ ?_ _)) | (with_reducible (refine Below.drew ?_)) | (with_reducible (refine below_via ?_ HBW.out ?_)) | omega | (simp; done) | (simp; omega)))) ?_
          rintro e w1 ⟨rfl, hb1⟩
          have hs1 := hb1.size
          try simp at hs1
          have hc1_0 := fun o => (bcell hb1).1 (wr.heap.size) o (by first | omega | (simp; done) | (simp; omega))
          have hf1_0 := fun o => (bcell hb1).2.1 (wr.heap.size) o (by first | omega | (simp; done) | (simp; omega))
          have hz1_0 := (bcell hb1).2.2 (wr.heap.size) (by first | omega | (simp; done) | (simp; omega))
          have HB1 := Lib.hid hb1
          clear hb1
          have HW1 := Lib.hid ((HW.out.alloc (.cells #[.int .i64 a0, .int .i64 a1, .int .i64 a2, .bool a3, .int .i64 a4, .int .i64 a5, .int .i64 a6, .int .i64 a7, .bool a8, .bool a9, .bool a10, .bool a11, .bool a12, .int .i64 a13] entT)).below HB1.out (by simp))
          have HOS := Lib.hid (fun r (hr : r < 14) => (HW1.out.cells_ (m * 14 + r) (by have := HCAP.out; omega)).1)
          obtain ⟨o0, ho0⟩ := Option.isSome_iff_exists.1 (HOS.out 0 (by decide))
          obtain ⟨o1, ho1⟩ := Option.isSome_iff_exists.1 (HOS.out 1 (by decide))
          obtain ⟨o2, ho2⟩ := Option.isSome_iff_exists.1 (HOS.out 2 (by decide))
          obtain ⟨o3, ho3⟩ := Option.isSome_iff_exists.1 (HOS.out 3 (by decide))
          obtain ⟨o4, ho4⟩ := Option.isSome_iff_exists.1 (HOS.out 4 (by decide))
          obtain ⟨o5, ho5⟩ := Option.isSome_iff_exists.1 (HOS.out 5 (by decide))
          obtain ⟨o6, ho6⟩ := Option.isSome_iff_exists.1 (HOS.out 6 (by decide))
          obtain ⟨o7, ho7⟩ := Option.isSome_iff_exists.1 (HOS.out 7 (by decide))
          obtain ⟨o8, ho8⟩ := Option.isSome_iff_exists.1 (HOS.out 8 (by decide))
          obtain ⟨o9, ho9⟩ := Option.isSome_iff_exists.1 (HOS.out 9 (by decide))
          obtain ⟨o10, ho10⟩ := Option.isSome_iff_exists.1 (HOS.out 10 (by decide))
          obtain ⟨o11, ho11⟩ := Option.isSome_iff_exists.1 (HOS.out 11 (by decide))
          obtain ⟨o12, ho12⟩ := Option.isSome_iff_exists.1 (HOS.out 12 (by decide))
          obtain ⟨o13, ho13⟩ := Option.isSome_iff_exists.1 (HOS.out 13 (by decide))
          simp only [Nat.add_zero] at ho0
          have hgf := HW1.out.spot (by omega)
          obtain ⟨g', hg', _, _, hgf⟩ := hgf
          obtain rfl : g = g' := by injection hg' with hg'; injection hg'
          have hgn : ¬ wr.heap.size = g := by omega
          have hgn2 : ¬ g = wr.heap.size := by omega
          clear c0 c1 c2 c3 c4 c5 c6 c7 c8 c9 c10 c11 c12 c13 hg'
          go_wp2
          go_roundw
          case rel => exact ⟨m + 1, n + 1, cur.set m ⟨a0, a1, a2, a3, a4, a5, a6, a7, a8, a9, a10, a11, a12, a13⟩, by go_num, by go_num, HD.out.keep hnt HXK.out (by rw [HPV.out]; rfl), HW1.out.putE (by omega) .., (by repeat' (first | (with_reducible exact Below.refl _ _) | (with_reducible (refine Below.setCell ?_ ?_ _)) | (with_reducible (refine Below.alloc ?_ ?_ _)) | (with_reducible (refine Below.drew ?_)) | (with_reducible (refine below_via ?_ HB1.out ?_)) | (with_reducible (refine below_via ?_ HBW.out ?_)) | omega | (simp; done) | (simp; omega))), (by have := HKP.out.1; simp; omega), fun b hb hbg => (heap_putE hbg ..).trans ((HB1.out.block b (by have := HKP.out.1; simp; omega)).trans ((heap_old _ _ (by have := HKP.out.1; omega)).trans (HKP.out.2 b hb hbg)))⟩
          case measure => simp [intOf]; omega
        · go_wp2_with fail
          refine Calls.mono (HPY.out _ (by repeat' (first | (with_reducible exact Below.refl _ _) | (with_reducible (refine Below.setCell ?_ ?_ _)) | (with_reducible (refine Below.alloc ?_ ?_ _)) | (with_reducible (refine Below.drew ?_)) | (with_reducible (refine below_via ?_ HBW.out ?_)) | omega | (simp; done) | (simp; omega)))) ?_
          rintro e w1 ⟨rfl, hb1⟩
          have hs1 := hb1.size
          try simp at hs1
          have HB1 := Lib.hid hb1
          clear hb1
          go_wp2
          go_roundw
          case rel => exact ⟨m, n + 1, cur, rfl, by go_num, HD.out.drop hnt HXK.out (by rw [HPV.out]; rfl), (HW.out.alloc _).below HB1.out (by simp), (by repeat' (first | (with_reducible exact Below.refl _ _) | (with_reducible (refine Below.setCell ?_ ?_ _)) | (with_reducible (refine Below.alloc ?_ ?_ _)) | (with_reducible (refine Below.drew ?_)) | (with_reducible (refine below_via ?_ HB1.out ?_)) | (with_reducible (refine below_via ?_ HBW.out ?_)) | omega | (simp; done) | (simp; omega))), (by have := HKP.out.1; omega), fun b hb hbg => (HB1.out.block b (by have := HKP.out.1; simp; omega)).trans ((heap_old _ _ (by have := HKP.out.1; omega)).trans (HKP.out.2 b hb hbg))⟩
          case measure => simp [intOf]; omega
      · have hmi : (m : Int) < l.length := by omega
        have hmc : (m : Int) ≤ c := by have := HCAP.out; omega
        have hcm : ¬ c = m := by have := HCAP.out; omega
        have hlen : (Builtin.zeroCells noEntV.cells (l.length - m)).toList.length = (l.length - m) * 14 := by simp [Builtin.zeroCells, noEntV, Value.cells]
        have hcl2 : ∀ ty, (Builtin.clear_ #[24] ty #[.slice (some ⟨g, m * 14, none⟩) (l.length - m) (c - m)]).run Try.prog wr = .ok (.tuple #[]) (wr.setCells g (m * 14) (Builtin.zeroCells noEntV.cells (l.length - m)).toList) :=
          fun ty => run_clear_many wr _ _ ty noEntV Try.underlying24 zero_ent g (m * 14) (l.length - m) _ (by omega) (zero_ones _)
            (fun j hj => (HW.out.cells_ _ (by have := HCAP.out; have h14 : noEntV.cells.size = 14 := rfl; rw [h14] at hj; omega)).1) (fun j hj => (HW.out.cells_ _ (by have := HCAP.out; have h14 : noEntV.cells.size = 14 := rfl; rw [h14] at hj; omega)).2)
        obtain ⟨w5, hw5⟩ : ∃ w5, w5 = wr.setCells g (m * 14) (Builtin.zeroCells noEntV.cells (l.length - m)).toList := ⟨_, rfl⟩
        rw [← hw5] at hcl2
        have hlm : (cur.take m).length = m := by simp; omega
        have HFIN := Lib.hid (show Own w5 B entT 14 Ent.cells (l.filter fun x => !p x) (some ⟨g, 0, none⟩) c by
          rw [hw5, ← HD.out.done (by omega)]
          exact (HW.out.cut ent_len (k := m) (by omega)).behind ent_len (by rw [hlm]; exact Nat.le_refl _) _ (by rw [hlen]; have := HCAP.out; omega))
        have HFL := Lib.hid (show (l.filter fun x => !p x).length = m by rw [← HD.out.done (by omega)]; exact hlm)
        have HBF := Lib.hid (show Below B w w5 by rw [hw5]; exact below_cells hg1 _ _ _ HBW.out)
        have HKF := Lib.hid (show ∀ b, b < w.heap.size → (∀ p : Addr, some (⟨g, 0, none⟩ : Addr) = some p → p.block ≠ b) → w5.heap[b]? = w.heap[b]? from fun b hb h => by
          have hbg : b ≠ g := fun e => h _ rfl e.symm
          rw [hw5, heap_cells hbg]
          exact HKP.out.2 b hb hbg)
        clear hw5 hlen hlm
        go_wp2_with (simp only [hcl2])
        go_ret
        exact ⟨some ⟨g, 0, none⟩, by rw [HFL.out]; rfl, HFIN.out, HBF.out, HKF.out⟩

end Go.Proofs.Ytbaninglcafhhaa
