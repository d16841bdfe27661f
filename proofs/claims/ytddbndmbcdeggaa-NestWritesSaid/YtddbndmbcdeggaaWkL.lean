/-
  What an argument of the statements of layer 5 looks like in memory; whether it weighs much; the statement's own example. Conditions: that it reads.
-/
import Derived.Test.YtddbndmbcdeggaaWkF
import Derived.Test.YtddbndmbcdeggaaWkD
import Derived.Test.YtddbndmbcdeggaaOpenI
namespace Go.Proofs.Ytddbndmbcdeggaa
open Go.RowKit Go.ChangeShapes Go.WideShapes

structure AskW where
  ma : Option Addr
  mc : Nat
  ws : List Int
  frame : Int
  pa : Option Addr
  pc : Nat
  pages : List Int
def AskW.cells (q : AskW) : List Value := [.slice q.ma q.ws.length q.mc, .int .i64 q.frame, .slice q.pa q.pages.length q.pc]
structure AskWAt (w : World) (q : AskW) : Prop where
  mcap : q.ws.length ≤ q.mc
  mlen : q.ws.length ≤ 140737488355328
  mat : At w q.ma 1 wordCells q.ws
  mok : ∀ x ∈ q.ws, isWord x
  fok : isInt q.frame
  plen : q.pages.length ≤ 140737488355328
  pat : At w q.pa 1 intCells q.pages
  pok : ∀ x ∈ q.pages, isInt x
theorem AskWAt.below {w w' : World} {q : AskW} (h : AskWAt w q) (hb : Below w.heap.size w w') : AskWAt w' q := ⟨h.mcap, h.mlen, h.mat.below hb, h.mok, h.fok, h.plen, h.pat.below hb, h.pok⟩
theorem AskWAt.me {w : World} {q : AskW} (h : AskWAt w q) (hl : q.ws.length ≤ 2000) : MeAt w q.ma q.mc q.ws := ⟨h.mat, h.mcap, by omega, h.mok⟩

set_option maxRecDepth 100000 in
theorem opens_introw : OpensW Try.prog 25 (Sl.cells (α := Int)) (fun w s => s.list.length ≤ s.cap ∧ s.cap * 8 ≤ reachBytes ∧ At w s.addr 1 intCells s.list ∧ ∀ a ∈ s.list, isInt a) :=
  opensW_slice (size := 1) Try.underlying25 (by kernel_rfl) (by decide) (by kernel_rfl) opens_ints
set_option maxRecDepth 100000 in
theorem opens_wordrow : OpensW Try.prog 22 (Sl.cells (α := Int)) (fun w s => s.list.length ≤ s.cap ∧ s.cap * 8 ≤ reachBytes ∧ At w s.addr 1 wordCells s.list ∧ ∀ a ∈ s.list, isWord a) :=
  opensW_slice (size := 1) Try.underlying22 (by kernel_rfl) (by decide) (by kernel_rfl) opens_words

set_option maxRecDepth 100000 in
theorem opens_mem : OpensW Try.prog 24 (Sl.cells (α := Int)) (fun w s => s.list.length ≤ s.cap ∧ s.cap * 8 ≤ reachBytes ∧ At w s.addr 1 wordCells s.list ∧ ∀ a ∈ s.list, isWord a) := by
  intro w H enc fuel cs x h hwt
  obtain ⟨hl, hf⟩ := opensW_fields Try.underlying24 h hwt
  rw [show Try.prog.cellsOf 24 = 1 by kernel_rfl] at hl
  obtain ⟨n0, y0, h0, w0⟩ := opensW_field hf 0 22 0 1 rfl rfl rfl (by kernel_rfl)
  obtain ⟨b0, e0, d0⟩ := opens_wordrow w H enc n0 _ _ h0 w0
  match cs, hl with
  | [c0], _ =>
    (simp [Sl.cells] at e0; subst e0; exact ⟨b0, rfl, d0⟩)

set_option maxRecDepth 100000 in
theorem opens_askw : OpensW Try.prog 27 AskW.cells AskWAt := by
  intro w H enc fuel cs x h hwt
  obtain ⟨hl, hf⟩ := opensW_fields Try.underlying27 h hwt
  rw [show Try.prog.cellsOf 27 = 3 by kernel_rfl] at hl
  obtain ⟨n0, y0, h0, w0⟩ := opensW_field hf 0 24 0 1 rfl rfl rfl (by kernel_rfl)
  obtain ⟨n1, y1, h1, w1⟩ := opensW_field hf 1 3 1 1 rfl rfl rfl (by kernel_rfl)
  obtain ⟨n2, y2, h2, w2⟩ := opensW_field hf 2 25 2 1 rfl rfl rfl (by kernel_rfl)
  obtain ⟨b0, e0, d0⟩ := opens_mem w H enc n0 _ _ h0 w0
  obtain ⟨b1, e1, d1⟩ := opens_ints w H enc n1 _ _ h1 w1
  obtain ⟨b2, e2, d2⟩ := opens_introw w H enc n2 _ _ h2 w2
  match cs, hl with
  | [c0, c1, c2], _ =>
    (simp [Sl.cells, intCells] at e0 e1 e2; subst e0 e1 e2; exact ⟨⟨b0.addr, b0.cap, b0.list, b1, b2.addr, b2.cap, b2.list⟩, rfl, ⟨d0.1, reach_len d0.1 d0.2.1, d0.2.2.1, d0.2.2.2, d1, reach_len d2.1 d2.2.1, d2.2.2.1, d2.2.2.2⟩⟩)

set_option maxRecDepth 100000 in
/-- The argument. -/
theorem open_askw {w : World} {H : Type} {enc : TypeId × Value → H} {v : Value} {d : DataW H} {p : List MemPlace} {r : Reach} {b0 : Nat} (hv : Value.okWide Try.prog w r b0 27 v)
    (h : DataW.Trod enc Try.prog w 0 (fun _ => true) true 27 v d p) (hwt : ∀ n ∈ d.weights Try.prog 27, n ≤ reachBytes) : ∃ s : AskW, v = .agg s.cells.toArray ∧ AskWAt w s := by
  obtain ⟨cs0, rfl, hcs⟩ := okWide_struct Try.underlying27 hv
  obtain ⟨fuel, hf⟩ := h
  obtain ⟨s, e, d⟩ := opens_askw w H enc fuel _ _ hf hwt
  refine ⟨s, ?_, d⟩
  rw [← e]
  simp [Value.cells]

def heavyW (q : AskW) : Bool := decide (2000 < q.ws.length) || decide (500 < q.pages.length)
set_option maxHeartbeats 1000000 in
theorem heavy5_any (q : AskW) (w : World) :
    Calls Try.prog 12 #[.agg q.cells.toArray] w fun e w' => e = .returned (.bool (heavyW q)) ∧ Below w.heap.size w w' := by
  obtain ⟨ma, mc, ws, frame, pa, pc, pages⟩ := q
  dsimp only [AskW.cells]
  by_cases h1 : 2000 < ws.length
  · have HE := Lib.hid (show heavyW ⟨ma, mc, ws, frame, pa, pc, pages⟩ = true by unfold heavyW; simp [h1])
    have q1 : decide ((2000 : Int) < ws.length) = true := by simp; omega
    clear h1
    go_enter Try.func12, Try.ntmps12
    go_wp2
    go_ret
    exact ⟨by rw [HE.out]; rfl, (by repeat' (first | (with_reducible exact Below.refl _ _) | (with_reducible (refine Below.setCell ?_ ?_ _)) | (with_reducible (refine Below.alloc ?_ ?_ _)) | (with_reducible (refine Below.drew ?_)) | omega | (simp; done) | (simp; omega)))⟩
  · have q1 : decide ((2000 : Int) < ws.length) = false := by simp; omega
    by_cases h2 : 500 < pages.length
    · have HE := Lib.hid (show heavyW ⟨ma, mc, ws, frame, pa, pc, pages⟩ = true by unfold heavyW; simp [h2])
      have q2 : decide ((500 : Int) < pages.length) = true := by simp; omega
      clear h1 h2
      go_enter Try.func12, Try.ntmps12
      go_wp2
      go_ret
      exact ⟨by rw [HE.out]; rfl, (by repeat' (first | (with_reducible exact Below.refl _ _) | (with_reducible (refine Below.setCell ?_ ?_ _)) | (with_reducible (refine Below.alloc ?_ ?_ _)) | (with_reducible (refine Below.drew ?_)) | omega | (simp; done) | (simp; omega)))⟩
    · have HE := Lib.hid (show heavyW ⟨ma, mc, ws, frame, pa, pc, pages⟩ = false by unfold heavyW; simp; omega)
      have q2 : decide ((500 : Int) < pages.length) = false := by simp; omega
      clear h1 h2
      go_enter Try.func12, Try.ntmps12
      go_wp2
      go_ret
      exact ⟨by rw [HE.out]; rfl, (by repeat' (first | (with_reducible exact Below.refl _ _) | (with_reducible (refine Below.setCell ?_ ?_ _)) | (with_reducible (refine Below.alloc ?_ ?_ _)) | (with_reducible (refine Below.drew ?_)) | omega | (simp; done) | (simp; omega)))⟩

theorem num5_any (n : Int) (w : World) : Calls Try.prog 21 #[.int .i64 n] w fun e w' => e = .returned (.int .i64 n) ∧ w' = w := by
  go_enter Try.func21, Try.ntmps21
  go_wp2
  go_ret
  exact ⟨rfl, rfl⟩

def eight : List Int := [0, 0, 0, 0, 0, 0, 0, 0]
theorem wake5 : walkRes eight 2 0 5 = (noHt, ⟨2, 2, 0, false, 5⟩, [0]) ∧ walkEr 8 2 0 5 = 0 := ⟨by kernel_rfl, by kernel_rfl⟩

theorem make8 (u : World) : (Instr.makeSlice 22 (.int .i64 8) (.int .i64 8)).run Try.prog u = .ok (.slice (some ⟨u.heap.size, 0, none⟩) 8 8) (u.alloc (.cells #[.int .u64 0, .int .u64 0, .int .u64 0, .int .u64 0, .int .u64 0, .int .u64 0, .int .u64 0, .int .u64 0] wordT)) := by
  obtain ⟨i0, hi0, hz0, hz1, hz2⟩ := info_parts word_info
  have := run_make (P := Try.prog) u _ _ i0 _ Try.underlying22 hi0 hz0 .i64 .i64 8 8 (by omega) (Int.le_refl _) (by rw [hz2]; decide) (by omega)
  rw [hz1, show madeCells (Value.int .u64 0).cells (Int.toNat 8 * 1) = #[.int .u64 0, .int .u64 0, .int .u64 0, .int .u64 0, .int .u64 0, .int .u64 0, .int .u64 0, .int .u64 0] by kernel_rfl] at this
  exact this

set_option maxRecDepth 100000 in
set_option maxHeartbeats 4000000 in
theorem wakes5_any (w : World) : Calls Try.prog 22 #[] w fun e w' => e = .returned (.bool true) ∧ Below w.heap.size w w' := by
  have HW := Lib.hid (fun (W : World) (b : Nat) (hb : W.heap[b]? = some (.cells #[.int .u64 0, .int .u64 0, .int .u64 0, .int .u64 0, .int .u64 0, .int .u64 0, .int .u64 0, .int .u64 0] wordT (0, 0))) => by
    have h := Walk_any (some ⟨b, 0, none⟩) 8 eight 2 0 5 W ⟨fun _ => ⟨b, 0, rfl, heap_lt hb, fun i hi j u hu => by
      have hj : j = 0 := by
        have := (List.getElem?_eq_some_iff.1 hu).1
        simp [wordCells] at this
        omega
      subst hj
      have hi8 : i < 8 := hi
      rw [cell_of_row _ _ _ _ _ _ hb]
      have e : i = 0 ∨ i = 1 ∨ i = 2 ∨ i = 3 ∨ i = 4 ∨ i = 5 ∨ i = 6 ∨ i = 7 := by omega
      rcases e with rfl | rfl | rfl | rfl | rfl | rfl | rfl | rfl
      all_goals exact hu⟩, by decide, by decide, fun x hx => by simp [eight] at hx; omega⟩
    rw [show eight.length = 8 by rfl, wake5.1, wake5.2] at h
    exact h)
  unfold WPost at HW
  dsimp only [noHt, Ht.cells, Ft.cells] at HW
  have HNU := Lib.hid (fun (n : Int) W => num5_any n W)
  have HEQ := Lib.hid (fun (A B : Option Addr) (c c' : Nat) (W : World) (h1 : At W A 1 intCells [0]) (h2 : At W B 1 intCells [0]) => EqNumbers_any A B c c' [0] [0] W (by decide) (by decide) h1 h2)
  have hmk := make8
  go_enter Try.func22, Try.ntmps22
  go_wp2_with fail
  refine Calls.mono (HW.out _ _ (by first | exact heap_new _ _ | exact (by repeat (first | (with_reducible assumption) | (exact heap_at _ _ (by simp; done)) | (with_reducible refine heap_old_is _ _ (by (first | omega | (simp; done) | (simp; omega))) ?_) | (with_reducible refine heap_far_is (by (first | omega | (simp; done) | (simp; omega))) ?_))))) ?_
  rintro e w1 ⟨R, c, rfl, hr, hb1⟩
  have hs1 := hb1.size
  try simp at hs1
  have HB1 := Lib.hid hb1
  clear hb1
  have Hhr := Lib.hid hr
  clear hr
 
  go_wp2_with (go_at_call 21; refine (HNU.out _ _).mono ?_; rintro e w' ⟨rfl, rfl⟩)
 
  refine Calls.mono (HEQ.out _ _ _ _ _ ((Hhr.out.at_ int_len).below (by repeat' (first | (with_reducible exact Below.refl _ _) | (with_reducible (refine Below.setCell ?_ ?_ _)) | (with_reducible (refine Below.alloc ?_ ?_ _)) | (with_reducible (refine Below.drew ?_)) | omega | (simp; done) | (simp; omega)))) (by exact at_new1 _ _ _ _ (by simp) rfl)) ?_
  rintro e w2 ⟨rfl, hb2⟩
  have hs2 := hb2.size
  try simp at hs2
  have HB2 := Lib.hid hb2
  clear hb2
  go_wp2
  go_ret
  exact ⟨rfl, (by repeat' (first | (with_reducible exact Below.refl _ _) | (with_reducible (refine Below.setCell ?_ ?_ _)) | (with_reducible (refine Below.alloc ?_ ?_ _)) | (with_reducible (refine Below.drew ?_)) | (with_reducible (refine below_via ?_ HB2.out ?_)) | (with_reducible (refine below_via ?_ HB1.out ?_)) | omega | (simp; done) | (simp; omega)))⟩

def ask5T : TypeId := 27
theorem rWalk_w (A : Option Addr) (c : Nat) (ws : List Int) (stage frame page : Int) (w : World) (hA : MeAt w A c ws) (h : walkOk ws.length stage frame page = true) :
    Calls Try.prog 24 #[.agg #[.slice A ws.length c], .int .i64 stage, .int .i64 frame, .int .i64 page] w (WPost w (walkRes ws stage frame page).1.cells.toArray (walkRes ws stage frame page).2.1.cells.toArray [] (walkRes ws stage frame page).2.2) := by
  have h2 := h
  unfold walkOk numOk at h2
  simp only [Bool.and_eq_true, decide_eq_true_eq, Bool.or_eq_true, beq_iff_eq] at h2
  unfold walkRes
  rw [if_pos h]
  exact (rWalk_any A c ws stage frame page w hA h2.1 h2.2.1 h2.2.2.2.1 h2.2.2.2.2 h2.2.2.1.1).mono fun e w' ⟨R, cr, e1, h3, h4⟩ => ⟨R, cr, e1, h3, h4⟩
theorem heavyW_no {q : AskW} (h : heavyW q = false) : q.ws.length ≤ 2000 ∧ q.pages.length ≤ 500 := by
  unfold heavyW at h
  simp at h
  omega

theorem walkG_len (ws : List Int) (stage page : Int) : ∀ (n : Nat) (level fr : Int) (rd : List Int), (walkG ws stage page n level fr rd).2.2.length ≤ rd.length + n
  | 0, _, _, _ => Nat.le_refl _
  | n + 1, level, fr, rd => by
    unfold walkG
    by_cases h1 : (ws.length : Int) / 8 ≤ fr
    · rw [if_pos h1]; exact Nat.le_add_right _ _
    · rw [if_neg h1]
      by_cases h2 : (tabDe ws stage level fr page).kind = 0
      · rw [if_pos h2]; simp
      · rw [if_neg h2]
        by_cases h3 : (tabDe ws stage level fr page).kind = 1
        · rw [if_pos h3]
          have := walkG_len ws stage page n (level + 1) (tabDe ws stage level fr page).frame (rd ++ [fr])
          simp at this ⊢
          omega
        · rw [if_neg h3]; simp
theorem walkRes_len (ws : List Int) (stage frame page : Int) : (walkRes ws stage frame page).2.2.length ≤ 4 := by
  unfold walkRes
  cases walkOk ws.length stage frame page
  · exact Nat.zero_le _
  · exact walkG_len ws stage page 4 0 frame []

end Go.Proofs.Ytddbndmbcdeggaa
