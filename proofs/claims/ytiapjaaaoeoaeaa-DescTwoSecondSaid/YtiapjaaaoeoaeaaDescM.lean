/-
  What an argument of the statements of layer 3 looks like in memory. Conditions: that it reads.
-/
import Derived.Test.YtiapjaaaoeoaeaaDescL
import Derived.Test.YtiapjaaaoeoaeaaOpenI
namespace Go.Proofs.Ytiapjaaaoeoaeaa
open Go.RowKit Go.ChangeShapes Go.WideShapes

structure At6 where
  r : Bool
  w : Bool
  x : Bool
  af : Bool
  ng : Bool
  soft : Int
def At6.cells (a : At6) : List Value := [.bool a.r, .bool a.w, .bool a.x, .bool a.af, .bool a.ng, .int .i64 a.soft]
structure AskD where
  stage : Int
  level : Int
  page : Int
  d : De
  x : Int
def AskD.cells (q : AskD) : List Value := [.int .i64 q.stage, .int .i64 q.level, .int .i64 q.page, .int .i64 q.d.kind, .int .i64 q.d.frame, .bool q.d.r, .bool q.d.w, .bool q.d.x, .bool q.d.af, .bool q.d.ng, .int .i64 q.d.soft, .int .i64 q.d.note, .int .u64 q.x]
def AskDOk (q : AskD) : Prop := isInt q.stage ∧ isInt q.level ∧ isInt q.page ∧ isInt q.d.kind ∧ isInt q.d.frame ∧ isInt q.d.soft ∧ isInt q.d.note ∧ isWord q.x
theorem askd_len (q : AskD) : q.cells.length = 13 := rfl

theorem opens_attr : OpensW Try.prog 24 At6.cells (fun _ a => isInt a.soft) := by
  intro w H enc fuel cs x h hwt
  obtain ⟨hl, hf⟩ := opensW_fields Try.underlying24 h hwt
  rw [show Try.prog.cellsOf 24 = 6 by kernel_rfl] at hl
  obtain ⟨n0, y0, h0, w0⟩ := opensW_field hf 0 4 0 1 rfl rfl rfl (by kernel_rfl)
  obtain ⟨n1, y1, h1, w1⟩ := opensW_field hf 1 4 1 1 rfl rfl rfl (by kernel_rfl)
  obtain ⟨n2, y2, h2, w2⟩ := opensW_field hf 2 4 2 1 rfl rfl rfl (by kernel_rfl)
  obtain ⟨n3, y3, h3, w3⟩ := opensW_field hf 3 4 3 1 rfl rfl rfl (by kernel_rfl)
  obtain ⟨n4, y4, h4, w4⟩ := opensW_field hf 4 4 4 1 rfl rfl rfl (by kernel_rfl)
  obtain ⟨n5, y5, h5, w5⟩ := opensW_field hf 5 3 5 1 rfl rfl rfl (by kernel_rfl)
  obtain ⟨b0, e0, d0⟩ := opens_bools w H enc n0 _ _ h0 w0
  obtain ⟨b1, e1, d1⟩ := opens_bools w H enc n1 _ _ h1 w1
  obtain ⟨b2, e2, d2⟩ := opens_bools w H enc n2 _ _ h2 w2
  obtain ⟨b3, e3, d3⟩ := opens_bools w H enc n3 _ _ h3 w3
  obtain ⟨b4, e4, d4⟩ := opens_bools w H enc n4 _ _ h4 w4
  obtain ⟨b5, e5, d5⟩ := opens_ints w H enc n5 _ _ h5 w5
  match cs, hl with
  | [c0, c1, c2, c3, c4, c5], _ =>
    (simp [intCells, boolCells] at e0 e1 e2 e3 e4 e5; subst e0 e1 e2 e3 e4 e5; exact ⟨⟨b0, b1, b2, b3, b4, b5⟩, rfl, d5⟩)

theorem opens_de : OpensW Try.prog 26 De.cells (fun _ d => isInt d.kind ∧ isInt d.frame ∧ isInt d.soft ∧ isInt d.note) := by
  intro w H enc fuel cs x h hwt
  obtain ⟨hl, hf⟩ := opensW_fields Try.underlying26 h hwt
  rw [show Try.prog.cellsOf 26 = 9 by kernel_rfl] at hl
  obtain ⟨n0, y0, h0, w0⟩ := opensW_field hf 0 3 0 1 rfl rfl rfl (by kernel_rfl)
  obtain ⟨n1, y1, h1, w1⟩ := opensW_field hf 1 3 1 1 rfl rfl rfl (by kernel_rfl)
  obtain ⟨n2, y2, h2, w2⟩ := opensW_field hf 2 24 2 6 rfl rfl rfl (by kernel_rfl)
  obtain ⟨n3, y3, h3, w3⟩ := opensW_field hf 3 3 8 1 rfl rfl rfl (by kernel_rfl)
  obtain ⟨b0, e0, d0⟩ := opens_ints w H enc n0 _ _ h0 w0
  obtain ⟨b1, e1, d1⟩ := opens_ints w H enc n1 _ _ h1 w1
  obtain ⟨b2, e2, d2⟩ := opens_attr w H enc n2 _ _ h2 w2
  obtain ⟨b3, e3, d3⟩ := opens_ints w H enc n3 _ _ h3 w3
  match cs, hl with
  | [c0, c1, c2, c3, c4, c5, c6, c7, c8], _ =>
    (simp [intCells, At6.cells] at e0 e1 e2 e3; obtain ⟨rfl, rfl, rfl, rfl, rfl, rfl⟩ := e2; subst e0 e1 e3; exact ⟨⟨b0, b1, b2.r, b2.w, b2.x, b2.af, b2.ng, b2.soft, b3⟩, rfl, d0, d1, d2, d3⟩)

theorem opens_ask : OpensW Try.prog 29 AskD.cells (fun _ q => AskDOk q) := by
  intro w H enc fuel cs x h hwt
  obtain ⟨hl, hf⟩ := opensW_fields Try.underlying29 h hwt
  rw [show Try.prog.cellsOf 29 = 13 by kernel_rfl] at hl
  obtain ⟨n0, y0, h0, w0⟩ := opensW_field hf 0 3 0 1 rfl rfl rfl (by kernel_rfl)
  obtain ⟨n1, y1, h1, w1⟩ := opensW_field hf 1 3 1 1 rfl rfl rfl (by kernel_rfl)
  obtain ⟨n2, y2, h2, w2⟩ := opensW_field hf 2 3 2 1 rfl rfl rfl (by kernel_rfl)
  obtain ⟨n3, y3, h3, w3⟩ := opensW_field hf 3 26 3 9 rfl rfl rfl (by kernel_rfl)
  obtain ⟨n4, y4, h4, w4⟩ := opensW_field hf 4 27 12 1 rfl rfl rfl (by kernel_rfl)
  obtain ⟨b0, e0, d0⟩ := opens_ints w H enc n0 _ _ h0 w0
  obtain ⟨b1, e1, d1⟩ := opens_ints w H enc n1 _ _ h1 w1
  obtain ⟨b2, e2, d2⟩ := opens_ints w H enc n2 _ _ h2 w2
  obtain ⟨b3, e3, d3⟩ := opens_de w H enc n3 _ _ h3 w3
  obtain ⟨b4, e4, d4⟩ := opens_words w H enc n4 _ _ h4 w4
  match cs, hl with
  | [c0, c1, c2, c3, c4, c5, c6, c7, c8, c9, c10, c11, c12], _ =>
    (simp [intCells, wordCells, De.cells] at e0 e1 e2 e3 e4; obtain ⟨rfl, rfl, rfl, rfl, rfl, rfl, rfl, rfl, rfl⟩ := e3; subst e0 e1 e2 e4; exact ⟨⟨b0, b1, b2, b3, b4⟩, rfl, d0, d1, d2, d3.1, d3.2.1, d3.2.2.1, d3.2.2.2, d4⟩)

theorem opens_asks : OpensW Try.prog 22 (Sl.cells (α := AskD)) (fun w s => s.list.length ≤ s.cap ∧ s.cap * 72 ≤ reachBytes ∧ At w s.addr 13 AskD.cells s.list ∧ ∀ a ∈ s.list, AskDOk a) :=
  opensW_slice (size := 13) Try.underlying22 (by kernel_rfl) (by decide) (by kernel_rfl) opens_ask

/-- What is handed in: a row of asks. -/
structure AsksAt (w : World) (s : Sl AskD) : Prop where
  len : s.list.length ≤ 140737488355328
  at_ : At w s.addr 13 AskD.cells s.list
  ok : ∀ a ∈ s.list, AskDOk a

/-- The argument. -/
theorem open_asks {w : World} {H : Type} {enc : TypeId × Value → H} {v : Value} {d : DataW H} {p : List MemPlace} {r : Reach} {b0 : Nat} (hv : Value.okWide Try.prog w r b0 22 v)
    (h : DataW.Trod enc Try.prog w 0 (fun _ => true) true 22 v d p) (hwt : ∀ n ∈ d.weights Try.prog 22, n ≤ reachBytes) : ∃ s : Sl AskD, v = .slice s.addr s.list.length s.cap ∧ AsksAt w s := by
  obtain ⟨a0, len0, cap0, rfl⟩ := okWide_slice Try.underlying22 hv
  obtain ⟨fuel, hf⟩ := h
  obtain ⟨s, e, d⟩ := opens_asks w H enc fuel _ _ hf hwt
  simp [Value.cells, Sl.cells] at e
  obtain ⟨rfl, rfl, rfl⟩ := e
  exact ⟨s, rfl, reach_len (k := 71) d.1 d.2.1, d.2.2.1, d.2.2.2⟩

/-- An ask's cells. -/
theorem askd_cells {w w' : World} {A : Option Addr} {l : List AskD} (h : At w A 13 AskD.cells l) (hb : Below w.heap.size w w') {k : Nat} (hk : k < l.length) :
    ∃ b off, A = some ⟨b, off, none⟩ ∧ b < w.heap.size ∧ ∀ j u, (AskD.cells l[k])[j]? = some u → w'.cell? ⟨b, off + k * 13 + j, none⟩ = some u := by
  obtain ⟨b, off, e, hb', hc⟩ := h (by omega)
  exact ⟨b, off, e, hb', fun j u hu => (hb.cell (p := ⟨b, off + k * 13 + j, none⟩) hb').trans (hc k hk j u hu)⟩

end Go.Proofs.Ytiapjaaaoeoaeaa
