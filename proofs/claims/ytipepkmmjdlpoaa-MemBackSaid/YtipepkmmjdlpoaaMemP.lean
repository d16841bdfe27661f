/-
  What an argument of the statements of layer 2 looks like in memory; whether it weighs much. Conditions: that it reads.
-/
import Derived.Test.YtipepkmmjdlpoaaOpenW
import Derived.Test.YtipepkmmjdlpoaaMemO
namespace Go.Proofs.Ytipepkmmjdlpoaa
open Go.RowKit Go.ChangeShapes Go.WideShapes

structure Act where
  do_ : Int
  at_ : Int
  size : Int
  v : Int
  addr : Option Addr
  cap : Nat
  list : List Int
def Act.cells (a : Act) : List Value := [.int .i64 a.do_, .int .i64 a.at_, .int .i64 a.size, .int .u64 a.v, .slice a.addr a.list.length a.cap]
def isInt (n : Int) : Prop := -9223372036854775808 ≤ n ∧ n ≤ 9223372036854775807
def isWord (n : Int) : Prop := 0 ≤ n ∧ n ≤ 18446744073709551615
def ActAt (w : World) (a : Act) : Prop := isInt a.do_ ∧ isInt a.at_ ∧ isInt a.size ∧ isWord a.v ∧ a.list.length ≤ 140737488355328 ∧ At w a.addr 1 intCells a.list ∧ ∀ x ∈ a.list, isInt x

theorem int_of_wf {n : Int} (h : (Lit.int .i64 n).wf = true) : isInt n := by
  simp only [Lit.wf, IntKind.min, IntKind.max, IntKind.signed, IntKind.bits, Bool.and_eq_true, decide_eq_true_eq, if_true] at h
  unfold isInt
  omega
theorem word_of_wf {n : Int} (h : (Lit.int .u64 n).wf = true) : isWord n := by
  simp only [Lit.wf, IntKind.min, IntKind.max, IntKind.signed, IntKind.bits, Bool.and_eq_true, decide_eq_true_eq, Bool.false_eq_true, if_false] at h
  unfold isWord
  omega

theorem reach_len {n c k : Nat} (h : n ≤ c) (hc : c * (k + 1) ≤ reachBytes) : n ≤ 140737488355328 := by
  unfold reachBytes at hc
  have : c * 1 ≤ c * (k + 1) := Nat.mul_le_mul_left _ (by omega)
  omega

theorem opens_ints : OpensW Try.prog 3 intCells (fun _ n => isInt n) := by
  intro w H enc fuel cs x h _
  obtain ⟨n, e, hd⟩ := opens_int Try.underlying3 w H enc fuel cs x h
  exact ⟨n, e, int_of_wf hd⟩
theorem opens_words : OpensW Try.prog 34 wordCells (fun _ n => isWord n) := by
  intro w H enc fuel cs x h _
  obtain ⟨n, e, hd⟩ := opens_int Try.underlying34 w H enc fuel cs x h
  exact ⟨n, e, word_of_wf hd⟩
theorem opens_introw : OpensW Try.prog 35 (Sl.cells (α := Int)) (fun w s => s.list.length ≤ s.cap ∧ s.cap * 8 ≤ reachBytes ∧ At w s.addr 1 intCells s.list ∧ ∀ a ∈ s.list, isInt a) :=
  opensW_slice (size := 1) Try.underlying35 (by kernel_rfl) (by decide) (by kernel_rfl) opens_ints
theorem opens_wordrow : OpensW Try.prog 22 (Sl.cells (α := Int)) (fun w s => s.list.length ≤ s.cap ∧ s.cap * 8 ≤ reachBytes ∧ At w s.addr 1 wordCells s.list ∧ ∀ a ∈ s.list, isWord a) :=
  opensW_slice (size := 1) Try.underlying22 (by kernel_rfl) (by decide) (by kernel_rfl) opens_words

theorem opens_act : OpensW Try.prog 37 Act.cells ActAt := by
  intro w H enc fuel cs x h hwt
  obtain ⟨hl, hf⟩ := opensW_fields Try.underlying37 h hwt
  rw [show Try.prog.cellsOf 37 = 5 by kernel_rfl] at hl
  obtain ⟨n0, y0, h0, w0⟩ := opensW_field hf 0 3 0 1 rfl rfl rfl (by kernel_rfl)
  obtain ⟨n1, y1, h1, w1⟩ := opensW_field hf 1 3 1 1 rfl rfl rfl (by kernel_rfl)
  obtain ⟨n2, y2, h2, w2⟩ := opensW_field hf 2 3 2 1 rfl rfl rfl (by kernel_rfl)
  obtain ⟨n3, y3, h3, w3⟩ := opensW_field hf 3 34 3 1 rfl rfl rfl (by kernel_rfl)
  obtain ⟨n4, y4, h4, w4⟩ := opensW_field hf 4 35 4 1 rfl rfl rfl (by kernel_rfl)
  obtain ⟨b0, e0, d0⟩ := opens_ints w H enc n0 _ _ h0 w0
  obtain ⟨b1, e1, d1⟩ := opens_ints w H enc n1 _ _ h1 w1
  obtain ⟨b2, e2, d2⟩ := opens_ints w H enc n2 _ _ h2 w2
  obtain ⟨b3, e3, d3⟩ := opens_words w H enc n3 _ _ h3 w3
  obtain ⟨b4, e4, d4⟩ := opens_introw w H enc n4 _ _ h4 w4
  match cs, hl with
  | [c0, c1, c2, c3, c4], _ =>
    (simp [intCells, wordCells, Sl.cells] at e0 e1 e2 e3 e4; subst e0 e1 e2 e3 e4; exact ⟨⟨b0, b1, b2, b3, b4.addr, b4.cap, b4.list⟩, rfl, d0, d1, d2, d3, reach_len d4.1 d4.2.1, d4.2.2.1, d4.2.2.2⟩)

theorem opens_mem : OpensW Try.prog 24 (Sl.cells (α := Int)) (fun w s => s.list.length ≤ s.cap ∧ s.cap * 8 ≤ reachBytes ∧ At w s.addr 1 wordCells s.list ∧ ∀ a ∈ s.list, isWord a) := by
  intro w H enc fuel cs x h hwt
  obtain ⟨hl, hf⟩ := opensW_fields Try.underlying24 h hwt
  rw [show Try.prog.cellsOf 24 = 1 by kernel_rfl] at hl
  obtain ⟨n0, y0, h0, w0⟩ := opensW_field hf 0 22 0 1 rfl rfl rfl (by kernel_rfl)
  obtain ⟨b0, e0, d0⟩ := opens_wordrow w H enc n0 _ _ h0 w0
  match cs, hl with
  | [c0], _ =>
    (simp [Sl.cells] at e0; subst e0; exact ⟨b0, rfl, d0⟩)

theorem opens_acts : OpensW Try.prog 25 (Sl.cells (α := Act)) (fun w s => s.list.length ≤ s.cap ∧ s.cap * 56 ≤ reachBytes ∧ At w s.addr 5 Act.cells s.list ∧ ∀ a ∈ s.list, ActAt w a) :=
  opensW_slice (size := 5) Try.underlying25 (by kernel_rfl) (by decide) (by kernel_rfl) opens_act

structure Script where
  ma : Option Addr
  mc : Nat
  ws : List Int
  la : Option Addr
  lc : Nat
  acts : List Act
def Script.cells (s : Script) : List Value := [.slice s.ma s.ws.length s.mc, .slice s.la s.acts.length s.lc]
structure ScriptAt (w : World) (s : Script) : Prop where
  mcap : s.ws.length ≤ s.mc
  mlen : s.ws.length ≤ 140737488355328
  mat : At w s.ma 1 wordCells s.ws
  mok : ∀ x ∈ s.ws, isWord x
  llen : s.acts.length ≤ 140737488355328
  lat : At w s.la 5 Act.cells s.acts
  lok : ∀ a ∈ s.acts, ActAt w a

theorem opens_script : OpensW Try.prog 27 Script.cells ScriptAt := by
  intro w H enc fuel cs x h hwt
  obtain ⟨hl, hf⟩ := opensW_fields Try.underlying27 h hwt
  rw [show Try.prog.cellsOf 27 = 2 by kernel_rfl] at hl
  obtain ⟨n0, y0, h0, w0⟩ := opensW_field hf 0 24 0 1 rfl rfl rfl (by kernel_rfl)
  obtain ⟨n1, y1, h1, w1⟩ := opensW_field hf 1 25 1 1 rfl rfl rfl (by kernel_rfl)
  obtain ⟨b0, e0, d0⟩ := opens_mem w H enc n0 _ _ h0 w0
  obtain ⟨b1, e1, d1⟩ := opens_acts w H enc n1 _ _ h1 w1
  match cs, hl with
  | [c0, c1], _ =>
    (simp [Sl.cells] at e0 e1; subst e0 e1; exact ⟨⟨b0.addr, b0.cap, b0.list, b1.addr, b1.cap, b1.list⟩, rfl, ⟨d0.1, reach_len d0.1 d0.2.1, d0.2.2.1, d0.2.2.2, reach_len d1.1 d1.2.1, d1.2.2.1, d1.2.2.2⟩⟩)

/-- The argument. -/
theorem open_script {w : World} {H : Type} {enc : TypeId × Value → H} {v : Value} {d : DataW H} {p : List MemPlace} {r : Reach} {b0 : Nat} (hv : Value.okWide Try.prog w r b0 27 v)
    (h : DataW.Trod enc Try.prog w 0 (fun _ => true) true 27 v d p) (hwt : ∀ n ∈ d.weights Try.prog 27, n ≤ reachBytes) : ∃ s : Script, v = .agg s.cells.toArray ∧ ScriptAt w s := by
  obtain ⟨cs0, rfl, hcs⟩ := okWide_struct Try.underlying27 hv
  obtain ⟨fuel, hf⟩ := h
  obtain ⟨s, e, d⟩ := opens_script w H enc fuel _ _ hf hwt
  refine ⟨s, ?_, d⟩
  rw [← e]
  simp [Value.cells]

/-- What it weighs, up to some act. -/
def weigh : Nat → List Act → Nat
  | n, [] => n
  | n, a :: l => weigh (n + 1 + a.list.length) l
theorem weigh_ge (l : List Act) : ∀ n, n ≤ weigh n l := by
  induction l with
  | nil => intro n; exact Nat.le_refl _
  | cons a l ih => intro n; exact Nat.le_trans (by omega) (ih _)
theorem weigh_snoc (a : Act) (l : List Act) : ∀ n, weigh n (l ++ [a]) = weigh n l + 1 + a.list.length := by
  induction l with
  | nil => intro n; rfl
  | cons b l ih => intro n; exact ih _
theorem weigh_mem (l : List Act) : ∀ n, ∀ a ∈ l, a.list.length ≤ weigh n l := by
  induction l with
  | nil => intro n a h; cases h
  | cons b l ih =>
    intro n a h
    rcases List.mem_cons.1 h with rfl | h
    · exact Nat.le_trans (by omega) (weigh_ge l _)
    · exact ih _ a h
theorem weigh_len (l : List Act) : ∀ n, n + l.length ≤ weigh n l := by
  induction l with
  | nil => intro n; exact Nat.le_refl _
  | cons b l ih => intro n; have := ih (n + 1 + b.list.length); simp only [List.length_cons, weigh]; omega

/-- It is light. -/
def Light (s : Script) : Prop := s.ws.length ≤ 3000 ∧ s.acts.length ≤ 3000 ∧ ∀ a ∈ s.acts, a.list.length ≤ 3000

theorem act_cells {w w' : World} {A : Option Addr} {l : List Act} (h : At w A 5 Act.cells l) (hb : Below w.heap.size w w') {k : Nat} (hk : k < l.length) :
    ∃ b off, A = some ⟨b, off, none⟩ ∧ b < w.heap.size ∧ w'.cell? ⟨b, off + k * 5, none⟩ = some (.int .i64 l[k].do_) ∧ w'.cell? ⟨b, off + k * 5 + 1, none⟩ = some (.int .i64 l[k].at_) ∧ w'.cell? ⟨b, off + k * 5 + 2, none⟩ = some (.int .i64 l[k].size) ∧
      w'.cell? ⟨b, off + k * 5 + 3, none⟩ = some (.int .u64 l[k].v) ∧ w'.cell? ⟨b, off + k * 5 + 4, none⟩ = some (.slice l[k].addr l[k].list.length l[k].cap) := by
  obtain ⟨b, off, e, hb', hc⟩ := h (by omega)
  have hh := fun j u hu => (hb.cell (p := ⟨b, off + k * 5 + j, none⟩) hb').trans (hc k hk j u hu)
  exact ⟨b, off, e, hb', hh 0 _ rfl, hh 1 _ rfl, hh 2 _ rfl, hh 3 _ rfl, hh 4 _ rfl⟩

def HeavyPost (s : Script) (w : World) (e : Ending) (w' : World) : Prop := ∃ b, (b = false → Light s) ∧ e = .returned (.bool b) ∧ Below w.heap.size w w'

set_option maxHeartbeats 1000000 in
theorem heavy_any (s : Script) (w : World) (hs : ScriptAt w s) :
    Calls Try.prog 16 #[.agg s.cells.toArray] w (HeavyPost s w) := by
  obtain ⟨hcap, hml, hmat, hmok, hll, hlat, hlok⟩ := hs
  obtain ⟨ma, mc, ws, la, lc, acts⟩ := s
  simp only [Script.cells]
  dsimp only at *
  have HW := Lib.hid (show ∀ a ∈ acts, a.list.length ≤ 140737488355328 from fun a ha => (hlok a ha).2.2.2.2.1)
  clear hcap hmat hmok hlok
  have HL := Lib.hid hlat
  clear hlat
  go_enter Try.func16, Try.ntmps16
  go_wp2
  obtain ⟨wo, hwo⟩ : ∃ wo, wo = w.alloc (.cells #[.slice ma ws.length mc, .slice la acts.length lc] 27) := ⟨_, rfl⟩
  have HBO := Lib.hid (show Below w.heap.size w wo by rw [hwo]; exact (Below.refl _ _).alloc (Nat.le_refl _) _)
  have HXO := Lib.hid (show wo.heap[w.heap.size]? = some (.cells #[.slice ma ws.length mc, .slice la acts.length lc] 27 (0, 0)) by rw [hwo]; exact heap_new _ _)
  have hso : w.heap.size < wo.heap.size := by rw [hwo]; simp
  have HLO := Lib.hid (HL.out.below HBO.out)
  rw [← hwo]
  clear hwo
  have hx := HXO.out
  have e0 := cell_of_row _ _ 0 _ _ _ hx
  have e1 := cell_of_row _ _ 1 _ _ _ hx
  clear hx
  go_loop [3, 4] (fun n i => ∃ k : Nat, k ≤ acts.length ∧ i = .int .i64 k ∧ n = .int .i64 (weigh ws.length (acts.take k)) ∧ (weigh ws.length (acts.take k) : Int) ≤ 281474976710656) (fun _ i => acts.length - (intOf i).toNat)
  case atStart => exact ⟨0, Nat.zero_le _, rfl, rfl, by simp [weigh]; omega⟩
  case round =>
    obtain ⟨k, hk, rfl, rfl, hwe⟩ := hrel
    have HEND := Lib.hid (show (weigh ws.length (acts.take k) : Int) ≤ 3000 → acts.length ≤ k → Light ⟨ma, mc, ws, la, lc, acts⟩ from fun h1 h2 => by
      rw [List.take_of_length_le h2] at h1
      exact ⟨by have := weigh_ge acts ws.length; dsimp only; omega, by have := weigh_len acts ws.length; dsimp only; omega, fun a ha => by have := weigh_mem acts ws.length a ha; omega⟩)
    have HS := Lib.hid (show ∀ h : k < acts.length, (weigh ws.length (acts.take (k + 1)) : Int) = weigh ws.length (acts.take k) + 1 + acts[k].list.length from fun h => by rw [take_snoc_get acts k h, weigh_snoc]; omega)
    have HM0 := Lib.hid (show (0 : Int) ≤ (weigh ws.length (acts.take k) : Int) by omega)
    generalize (weigh ws.length (acts.take k) : Int) = m at *
    have hm0 := HM0.out
    by_cases hlt : k < acts.length
    · by_cases h20 : m < 1048576
      · obtain ⟨ba, oa, rfl, hba, c0, c1, c2, c3, c4⟩ := act_cells HLO.out (Below.refl _ _) hlt
        have hln := HW.out acts[k] (List.getElem_mem hlt)
        have HSK := Lib.hid (HS.out hlt)
        have hki : (k : Int) < acts.length := by omega
        generalize acts[k] = a at *
        obtain ⟨a0, a1, a2, a3, a4, a5, a6⟩ := a
        dsimp only at c0 c1 c2 c3 c4 hln HSK
        have hf := fun j => frozen_of_row _ _ j _ _ HXO.out
        go_wp2
        go_round
        case rel => exact ⟨k + 1, by omega, by go_num, by rw [HSK.out], by rw [HSK.out]; omega⟩
        case measure => simp [intOf]; omega
      · have h30 : 3000 < m := by omega
        go_wp2
        go_ret
        exact ⟨true, fun h => (by cases h), rfl, HBO.out⟩
    · have hkk : acts.length ≤ k := by omega
      by_cases h30 : 3000 < m
      · go_wp2
        go_ret
        exact ⟨true, fun h => (by cases h), rfl, HBO.out⟩
      · go_wp2
        go_ret
        exact ⟨false, fun _ => HEND.out (by omega) hkk, rfl, HBO.out⟩

end Go.Proofs.Ytipepkmmjdlpoaa
