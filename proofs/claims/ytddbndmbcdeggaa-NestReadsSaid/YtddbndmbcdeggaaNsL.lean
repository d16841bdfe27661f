/-
  What an argument of the statements of layer 7 looks like in memory; whether it may be asked; the statement's own example. Conditions: that it reads.
-/
import Derived.Test.YtddbndmbcdeggaaNsG
namespace Go.Proofs.Ytddbndmbcdeggaa
open Go.RowKit Go.ChangeShapes Go.WideShapes

structure AskN where
  a : AskW
  one : Rt
  two : Rt
  acc : Int
def AskN.cells (q : AskN) : List Value := [.slice q.a.ma q.a.ws.length q.a.mc, .int .i64 q.a.frame, .slice q.a.pa q.a.pages.length q.a.pc, .bool q.one.on, .int .i64 q.one.frame, .int .i64 q.one.tag, .bool q.two.on, .int .i64 q.two.frame, .int .i64 q.two.tag, .int .i64 q.acc]

set_option maxRecDepth 100000 in
theorem opens_root : OpensW Try.prog 55 Rt.cells (fun _ _ => True) := by
  intro w H enc fuel cs x h hwt
  obtain ⟨hl, hf⟩ := opensW_fields Try.underlying55 h hwt
  rw [show Try.prog.cellsOf 55 = 3 by kernel_rfl] at hl
  obtain ⟨n0, y0, h0, w0⟩ := opensW_field hf 0 4 0 1 rfl rfl rfl (by kernel_rfl)
  obtain ⟨n1, y1, h1, w1⟩ := opensW_field hf 1 3 1 1 rfl rfl rfl (by kernel_rfl)
  obtain ⟨n2, y2, h2, w2⟩ := opensW_field hf 2 3 2 1 rfl rfl rfl (by kernel_rfl)
  obtain ⟨b0, e0, d0⟩ := opens_bools w H enc n0 _ _ h0 w0
  obtain ⟨b1, e1, d1⟩ := opens_ints w H enc n1 _ _ h1 w1
  obtain ⟨b2, e2, d2⟩ := opens_ints w H enc n2 _ _ h2 w2
  match cs, hl with
  | [c0, c1, c2], _ =>
    (simp [intCells, boolCells] at e0 e1 e2; subst e0 e1 e2; exact ⟨⟨b0, b1, b2⟩, rfl, trivial⟩)

set_option maxRecDepth 100000 in
theorem opens_askn : OpensW Try.prog 57 AskN.cells (fun w q => AskWAt w q.a) := by
  intro w H enc fuel cs x h hwt
  obtain ⟨hl, hf⟩ := opensW_fields Try.underlying57 h hwt
  rw [show Try.prog.cellsOf 57 = 10 by kernel_rfl] at hl
  obtain ⟨n0, y0, h0, w0⟩ := opensW_field hf 0 27 0 3 rfl rfl rfl (by kernel_rfl)
  obtain ⟨n1, y1, h1, w1⟩ := opensW_field hf 1 55 3 3 rfl rfl rfl (by kernel_rfl)
  obtain ⟨n2, y2, h2, w2⟩ := opensW_field hf 2 55 6 3 rfl rfl rfl (by kernel_rfl)
  obtain ⟨n3, y3, h3, w3⟩ := opensW_field hf 3 3 9 1 rfl rfl rfl (by kernel_rfl)
  obtain ⟨b0, e0, d0⟩ := opens_askw w H enc n0 _ _ h0 w0
  obtain ⟨b1, e1, d1⟩ := opens_root w H enc n1 _ _ h1 w1
  obtain ⟨b2, e2, d2⟩ := opens_root w H enc n2 _ _ h2 w2
  obtain ⟨b3, e3, d3⟩ := opens_ints w H enc n3 _ _ h3 w3
  match cs, hl with
  | [c0, c1, c2, c3, c4, c5, c6, c7, c8, c9], _ =>
    (simp [AskW.cells, Rt.cells, intCells] at e0 e1 e2 e3; obtain ⟨f0, f1, f2⟩ := e0; obtain ⟨f3, f4, f5⟩ := e1; obtain ⟨f6, f7, f8⟩ := e2; subst f0 f1 f2 f3 f4 f5 f6 f7 f8 e3; exact ⟨⟨b0, b1, b2, b3⟩, rfl, d0⟩)

set_option maxRecDepth 100000 in
/-- The argument. -/
theorem open_askn {w : World} {H : Type} {enc : TypeId × Value → H} {v : Value} {d : DataW H} {p : List MemPlace} {r : Reach} {b0 : Nat} (hv : Value.okWide Try.prog w r b0 57 v)
    (h : DataW.Trod enc Try.prog w 0 (fun _ => true) true 57 v d p) (hwt : ∀ n ∈ d.weights Try.prog 57, n ≤ reachBytes) : ∃ s : AskN, v = .agg s.cells.toArray ∧ AskWAt w s.a := by
  obtain ⟨cs0, rfl, hcs⟩ := okWide_struct Try.underlying57 hv
  obtain ⟨fuel, hf⟩ := h
  obtain ⟨s, e, d⟩ := opens_askn w H enc fuel _ _ hf hwt
  refine ⟨s, ?_, d⟩
  rw [← e]
  simp [Value.cells]

theorem num7_any (n : Int) (w : World) : Calls Try.prog 30 #[.int .i64 n] w fun e w' => e = .returned (.int .i64 n) ∧ w' = w := by
  go_enter Try.func30, Try.ntmps30
  go_wp2
  go_ret
  exact ⟨rfl, rfl⟩

/-- What may be asked of stage 2. -/
theorem midOk_all (n : Nat) (two : Rt) (mid acc : Int) : midOk n two mid acc = (memOk n && numOk two.frame 4095 && numOk mid 4095 && accOk acc) := by
  unfold midOk askedB
  simp only [List.all_cons, List.all_nil, Bool.and_true]
  cases accOk acc <;> cases memOk n <;> simp
theorem transOk_all (n : Nat) (one two : Rt) (page acc : Int) : transOk n one two page acc = (midOk n two page acc && numOk one.frame 4095) := by
  rw [midOk_all]
  unfold transOk askedB
  simp only [List.all_cons, List.all_nil, Bool.and_true]
  cases accOk acc <;> cases memOk n <;> cases numOk one.frame 4095 <;> cases numOk two.frame 4095 <;> cases numOk page 4095 <;> rfl

set_option maxRecDepth 100000 in
set_option maxHeartbeats 4000000 in
theorem may7_any (q : AskN) (page acc : Int) (w : World) (hl : q.a.ws.length ≤ 9223372036854775807) :
    Calls Try.prog 28 #[.agg q.cells.toArray, .int .i64 page, .int .i64 acc] w fun e w' => e = .returned (.bool (midOk q.a.ws.length q.two page acc)) ∧ Below w.heap.size w w' := by
  obtain ⟨⟨ma, mc, ws, frame, pa, pc, pages⟩, ⟨on1, of1, ot1⟩, ⟨on2, of2, ot2⟩, ac⟩ := q
  dsimp only [AskN.cells] at *
  rw [midOk_all]
  dsimp only
  have HRM := Lib.hid (fun W => refMem_any ma ws.length mc W hl)
  have HPF := Lib.hid (fun W => page_any of2 W)
  have HPP := Lib.hid (fun W => page_any page W)
  have HAC := Lib.hid (fun W => acc_any acc W)
  generalize memOk ws.length = gm at *
  generalize numOk of2 4095 = gf at *
  generalize numOk page 4095 = gp at *
  generalize accOk acc = ga at *
  cases gm
  · go_enter Try.func28, Try.ntmps28
    go_wp2_with fail
    refine Calls.mono (HRM.out _) ?_
    rintro e w1 ⟨rfl, hb1⟩
    have hs1 := hb1.size
    try simp at hs1
    have hc1_0 := fun o => (bcell hb1).1 (w.heap.size) o (by first | omega | (simp; done) | (simp; omega))
    have hf1_0 := fun o => (bcell hb1).2.1 (w.heap.size) o (by first | omega | (simp; done) | (simp; omega))
    have hz1_0 := (bcell hb1).2.2 (w.heap.size) (by first | omega | (simp; done) | (simp; omega))
    have HB1 := Lib.hid hb1
    clear hb1
    go_wp2
    go_ret
    exact ⟨rfl, (by repeat' (first | (with_reducible exact Below.refl _ _) | (with_reducible (refine Below.setCell ?_ ?_ _)) | (with_reducible (refine Below.alloc ?_ ?_ _)) | (with_reducible (refine Below.drew ?_)) | (with_reducible (refine below_via ?_ HB1.out ?_)) | omega | (simp; done) | (simp; omega)))⟩
  · cases gf
    · go_enter Try.func28, Try.ntmps28
      go_wp2_with fail
      refine Calls.mono (HRM.out _) ?_
      rintro e w1 ⟨rfl, hb1⟩
      have hs1 := hb1.size
      try simp at hs1
      have hc1_0 := fun o => (bcell hb1).1 (w.heap.size) o (by first | omega | (simp; done) | (simp; omega))
      have hf1_0 := fun o => (bcell hb1).2.1 (w.heap.size) o (by first | omega | (simp; done) | (simp; omega))
      have hz1_0 := (bcell hb1).2.2 (w.heap.size) (by first | omega | (simp; done) | (simp; omega))
      have HB1 := Lib.hid hb1
      clear hb1
      go_wp2_with (go_at_call 17; refine (HPF.out _).mono ?_; rintro e w' ⟨rfl, rfl⟩)
      go_ret
      exact ⟨rfl, (by repeat' (first | (with_reducible exact Below.refl _ _) | (with_reducible (refine Below.setCell ?_ ?_ _)) | (with_reducible (refine Below.alloc ?_ ?_ _)) | (with_reducible (refine Below.drew ?_)) | (with_reducible (refine below_via ?_ HB1.out ?_)) | omega | (simp; done) | (simp; omega)))⟩
    · cases gp
      · go_enter Try.func28, Try.ntmps28
        go_wp2_with fail
        refine Calls.mono (HRM.out _) ?_
        rintro e w1 ⟨rfl, hb1⟩
        have hs1 := hb1.size
        try simp at hs1
        have hc1_0 := fun o => (bcell hb1).1 (w.heap.size) o (by first | omega | (simp; done) | (simp; omega))
        have hf1_0 := fun o => (bcell hb1).2.1 (w.heap.size) o (by first | omega | (simp; done) | (simp; omega))
        have hz1_0 := (bcell hb1).2.2 (w.heap.size) (by first | omega | (simp; done) | (simp; omega))
        have HB1 := Lib.hid hb1
        clear hb1
        go_wp2_with (first | (go_at_call 17; refine (HPF.out _).mono ?_; rintro e w' ⟨rfl, rfl⟩) | (go_at_call 17; refine (HPP.out _).mono ?_; rintro e w' ⟨rfl, rfl⟩))
        go_ret
        exact ⟨rfl, (by repeat' (first | (with_reducible exact Below.refl _ _) | (with_reducible (refine Below.setCell ?_ ?_ _)) | (with_reducible (refine Below.alloc ?_ ?_ _)) | (with_reducible (refine Below.drew ?_)) | (with_reducible (refine below_via ?_ HB1.out ?_)) | omega | (simp; done) | (simp; omega)))⟩
      · go_enter Try.func28, Try.ntmps28
        go_wp2_with fail
        refine Calls.mono (HRM.out _) ?_
        rintro e w1 ⟨rfl, hb1⟩
        have hs1 := hb1.size
        try simp at hs1
        have hc1_0 := fun o => (bcell hb1).1 (w.heap.size) o (by first | omega | (simp; done) | (simp; omega))
        have hf1_0 := fun o => (bcell hb1).2.1 (w.heap.size) o (by first | omega | (simp; done) | (simp; omega))
        have hz1_0 := (bcell hb1).2.2 (w.heap.size) (by first | omega | (simp; done) | (simp; omega))
        have HB1 := Lib.hid hb1
        clear hb1
        go_wp2_with (first | (go_at_call 17; refine (HPF.out _).mono ?_; rintro e w' ⟨rfl, rfl⟩) | (go_at_call 17; refine (HPP.out _).mono ?_; rintro e w' ⟨rfl, rfl⟩) | (go_at_call 49; refine (HAC.out _).mono ?_; rintro e w' ⟨rfl, rfl⟩))
        go_ret
        exact ⟨by cases ga <;> rfl, (by repeat' (first | (with_reducible exact Below.refl _ _) | (with_reducible (refine Below.setCell ?_ ?_ _)) | (with_reducible (refine Below.alloc ?_ ?_ _)) | (with_reducible (refine Below.drew ?_)) | (with_reducible (refine below_via ?_ HB1.out ?_)) | omega | (simp; done) | (simp; omega)))⟩

def sixteen : List Int := [0, 0, 0, 0, 0, 0, 0, 0, 0, 0, 0, 0, 0, 0, 0, 0]
theorem wake7 : transRes sixteen ⟨false, 0, 0⟩ ⟨false, 0, 0⟩ 1 0 = (⟨1, 1, true, true, true, true, false, 0, 3⟩, noFt, []) ∧ transEr 16 ⟨false, 0, 0⟩ ⟨false, 0, 0⟩ 1 0 = 0 := ⟨by kernel_rfl, by kernel_rfl⟩

theorem make16 (u : World) : (Instr.makeSlice 22 (.int .i64 16) (.int .i64 16)).run Try.prog u = .ok (.slice (some ⟨u.heap.size, 0, none⟩) 16 16) (u.alloc (.cells #[.int .u64 0, .int .u64 0, .int .u64 0, .int .u64 0, .int .u64 0, .int .u64 0, .int .u64 0, .int .u64 0, .int .u64 0, .int .u64 0, .int .u64 0, .int .u64 0, .int .u64 0, .int .u64 0, .int .u64 0, .int .u64 0] wordT)) := by
  obtain ⟨i0, hi0, hz0, hz1, hz2⟩ := info_parts word_info
  have := run_make (P := Try.prog) u _ _ i0 _ Try.underlying22 hi0 hz0 .i64 .i64 16 16 (by omega) (Int.le_refl _) (by rw [hz2]; decide) (by omega)
  rw [hz1, show madeCells (Value.int .u64 0).cells (Int.toNat 16 * 1) = #[.int .u64 0, .int .u64 0, .int .u64 0, .int .u64 0, .int .u64 0, .int .u64 0, .int .u64 0, .int .u64 0, .int .u64 0, .int .u64 0, .int .u64 0, .int .u64 0, .int .u64 0, .int .u64 0, .int .u64 0, .int .u64 0] by kernel_rfl] at this
  exact this

set_option maxRecDepth 100000 in
set_option maxHeartbeats 4000000 in
theorem wakes7_any (w : World) : Calls Try.prog 31 #[] w fun e w' => e = .returned (.bool true) ∧ Below w.heap.size w w' := by
  have HW := Lib.hid (fun (W : World) (b : Nat) (hb : W.heap[b]? = some (.cells #[.int .u64 0, .int .u64 0, .int .u64 0, .int .u64 0, .int .u64 0, .int .u64 0, .int .u64 0, .int .u64 0, .int .u64 0, .int .u64 0, .int .u64 0, .int .u64 0, .int .u64 0, .int .u64 0, .int .u64 0, .int .u64 0] wordT (0, 0))) => by
    have h := Trans_any (some ⟨b, 0, none⟩) 16 sixteen ⟨false, 0, 0⟩ ⟨false, 0, 0⟩ 1 0 W ⟨fun _ => ⟨b, 0, rfl, heap_lt hb, fun i hi j u hu => by
      have hj : j = 0 := by
        have := (List.getElem?_eq_some_iff.1 hu).1
        simp [wordCells] at this
        omega
      subst hj
      have hi8 : i < 16 := hi
      rw [cell_of_row _ _ _ _ _ _ hb]
      have e : i = 0 ∨ i = 1 ∨ i = 2 ∨ i = 3 ∨ i = 4 ∨ i = 5 ∨ i = 6 ∨ i = 7 ∨ i = 8 ∨ i = 9 ∨ i = 10 ∨ i = 11 ∨ i = 12 ∨ i = 13 ∨ i = 14 ∨ i = 15 := by omega
      rcases e with rfl | rfl | rfl | rfl | rfl | rfl | rfl | rfl | rfl | rfl | rfl | rfl | rfl | rfl | rfl | rfl
      all_goals exact hu⟩, by decide, by decide, fun x hx => by simp [sixteen] at hx; omega⟩
    rw [show sixteen.length = 16 by rfl, wake7.1, wake7.2] at h
    exact h)
  unfold WPost at HW
  dsimp only [noFt, Ht.cells, Ft.cells, Rt.cells] at HW
  have HNU := Lib.hid (fun (n : Int) W => num7_any n W)
  have hmk := make16
  go_enter Try.func31, Try.ntmps31
  go_wp2_with fail
 
  refine Calls.mono (HW.out _ _ (by first | exact heap_new _ _ | exact (by repeat (first | (with_reducible assumption) | (exact heap_at _ _ (by simp; done)) | (with_reducible refine heap_old_is _ _ (by (first | omega | (simp; done) | (simp; omega))) ?_) | (with_reducible refine heap_far_is (by (first | omega | (simp; done) | (simp; omega))) ?_))))) ?_
  rintro e w1 ⟨R, c, rfl, hr, hb1⟩
  have hs1 := hb1.size
  try simp at hs1
  have HB1 := Lib.hid hb1
  clear hb1
  have Hhr := Lib.hid hr
  clear hr
 
  go_wp2_with (go_at_call 30; refine (HNU.out _ _).mono ?_; rintro e w' ⟨rfl, rfl⟩)
 
  go_wp2
  go_ret
  exact ⟨rfl, (by repeat' (first | (with_reducible exact Below.refl _ _) | (with_reducible (refine Below.setCell ?_ ?_ _)) | (with_reducible (refine Below.alloc ?_ ?_ _)) | (with_reducible (refine Below.drew ?_)) | (with_reducible (refine below_via ?_ HB1.out ?_)) | omega | (simp; done) | (simp; omega)))⟩

end Go.Proofs.Ytddbndmbcdeggaa
