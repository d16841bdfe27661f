/-
  What an argument of the statements of layer 9 looks like in memory; whether it weighs much; the searches by their names; 'wakes'. Conditions: that it reads.
-/
import Derived.Test.YtbaninglcafhhaaAsk
import Derived.Test.YtbaninglcafhhaaFound
import Derived.Test.YtbaninglcafhhaaFill
namespace Go.Proofs.Ytbaninglcafhhaa
open Go.RowKit Go.ChangeShapes Go.WideShapes

structure ActT where
  do_ : Int
  n : Int
  vmid : Int
  asid : Int
  acc : Int
  e : Ent
def ActT.cells (a : ActT) : List Value := .int .i64 a.do_ :: .int .i64 a.n :: .int .i64 a.vmid :: .int .i64 a.asid :: .int .i64 a.acc :: a.e.cells
theorem actt_len (a : ActT) : a.cells.length = 19 := rfl
def actT : TypeId := 49
def ActI (a : ActT) : Prop := isInt a.do_ ∧ isInt a.n ∧ isInt a.vmid ∧ isInt a.asid ∧ isInt a.acc ∧ EntI a.e

set_option maxRecDepth 100000 in
theorem opens_actt : OpensW Try.prog 49 ActT.cells (fun _ a => ActI a) := by
  intro w H enc fuel cs x h hwt
  obtain ⟨hl, hf⟩ := opensW_fields Try.underlying49 h hwt
  rw [show Try.prog.cellsOf 49 = 19 by kernel_rfl] at hl
  obtain ⟨n0, y0, h0, w0⟩ := opensW_field hf 0 3 0 1 rfl rfl rfl (by kernel_rfl)
  obtain ⟨n1, y1, h1, w1⟩ := opensW_field hf 1 3 1 1 rfl rfl rfl (by kernel_rfl)
  obtain ⟨n2, y2, h2, w2⟩ := opensW_field hf 2 3 2 1 rfl rfl rfl (by kernel_rfl)
  obtain ⟨n3, y3, h3, w3⟩ := opensW_field hf 3 3 3 1 rfl rfl rfl (by kernel_rfl)
  obtain ⟨n4, y4, h4, w4⟩ := opensW_field hf 4 3 4 1 rfl rfl rfl (by kernel_rfl)
  obtain ⟨n5, y5, h5, w5⟩ := opensW_field hf 5 36 5 14 rfl rfl rfl (by kernel_rfl)
  obtain ⟨b0, e0, d0⟩ := opens_ints w H enc n0 _ _ h0 w0
  obtain ⟨b1, e1, d1⟩ := opens_ints w H enc n1 _ _ h1 w1
  obtain ⟨b2, e2, d2⟩ := opens_ints w H enc n2 _ _ h2 w2
  obtain ⟨b3, e3, d3⟩ := opens_ints w H enc n3 _ _ h3 w3
  obtain ⟨b4, e4, d4⟩ := opens_ints w H enc n4 _ _ h4 w4
  obtain ⟨b5, e5, d5⟩ := opens_ent w H enc n5 _ _ h5 w5
  match cs, hl with
  | [c0, c1, c2, c3, c4, c5, c6, c7, c8, c9, c10, c11, c12, c13, c14, c15, c16, c17, c18], _ =>
    (simp [intCells, Ent.cells] at e0 e1 e2 e3 e4 e5; obtain ⟨f0, f1, f2, f3, f4, f5, f6, f7, f8, f9, f10, f11, f12, f13⟩ := e5; subst e0 e1 e2 e3 e4 f0 f1 f2 f3 f4 f5 f6 f7 f8 f9 f10 f11 f12 f13; exact ⟨⟨b0, b1, b2, b3, b4, b5⟩, rfl, ⟨d0, d1, d2, d3, d4, d5⟩⟩)

theorem opens_actts : OpensW Try.prog 44 (Sl.cells (α := ActT)) (fun w s => s.list.length ≤ s.cap ∧ s.cap * 120 ≤ reachBytes ∧ At w s.addr 19 ActT.cells s.list ∧ ∀ a ∈ s.list, ActI a) :=
  opensW_slice (size := 19) Try.underlying44 (by kernel_rfl) (by decide) (by kernel_rfl) opens_actt

structure ScrT where
  t : Tl
  la : Option Addr
  lc : Nat
  l : List ActT
def ScrT.cells (q : ScrT) : List Value := [.slice q.t.ea q.t.es.length q.t.ec, .slice q.t.da q.t.ds.length q.t.dc, .slice q.la q.l.length q.lc]
def scrT : TypeId := 46
structure ScrAt (w : World) (q : ScrT) : Prop where
  tok : TlGood w q.t
  llen : q.l.length ≤ 140737488355328
  lcap : q.l.length ≤ q.lc
  lat : At w q.la 19 ActT.cells q.l
  lok : ∀ a ∈ q.l, ActI a
theorem ScrAt.below {w w' : World} {q : ScrT} (h : ScrAt w q) (hb : Below w.heap.size w w') : ScrAt w' q := ⟨h.tok.below hb, h.llen, h.lcap, h.lat.below hb, h.lok⟩

set_option maxRecDepth 100000 in
theorem opens_scr : OpensW Try.prog 46 ScrT.cells ScrAt := by
  intro w H enc fuel cs x h hwt
  obtain ⟨hl, hf⟩ := opensW_fields Try.underlying46 h hwt
  rw [show Try.prog.cellsOf 46 = 3 by kernel_rfl] at hl
  obtain ⟨n0, y0, h0, w0⟩ := opensW_field hf 0 43 0 2 rfl rfl rfl (by kernel_rfl)
  obtain ⟨n1, y1, h1, w1⟩ := opensW_field hf 1 44 2 1 rfl rfl rfl (by kernel_rfl)
  obtain ⟨b0, e0, d0⟩ := opens_tlb w H enc n0 _ _ h0 w0
  obtain ⟨b1, e1, d1⟩ := opens_actts w H enc n1 _ _ h1 w1
  match cs, hl with
  | [c0, c1, c2], _ =>
    (simp [Sl.cells, Tl.cells] at e0 e1; obtain ⟨f0, f1⟩ := e0; subst f0 f1 e1; exact ⟨⟨b0, b1.addr, b1.cap, b1.list⟩, rfl, ⟨d0, reach_len d1.1 d1.2.1, d1.1, d1.2.2.1, d1.2.2.2⟩⟩)

set_option maxRecDepth 100000 in
/-- The argument. -/
theorem open_scr {w : World} {H : Type} {enc : TypeId × Value → H} {v : Value} {d : DataW H} {p : List MemPlace} {r : Reach} {b0 : Nat} (hv : Value.okWide Try.prog w r b0 46 v)
    (h : DataW.Trod enc Try.prog w 0 (fun _ => true) true 46 v d p) (hwt : ∀ n ∈ d.weights Try.prog 46, n ≤ reachBytes) : ∃ q : ScrT, v = .agg q.cells.toArray ∧ ScrAt w q := by
  obtain ⟨cs0, rfl, hcs⟩ := okWide_struct Try.underlying46 hv
  obtain ⟨fuel, hf⟩ := h
  obtain ⟨s, e, d⟩ := opens_scr w H enc fuel _ _ hf hwt
  refine ⟨s, ?_, d⟩
  rw [← e]
  simp [Value.cells]

def Light9 (q : ScrT) : Prop := q.t.es.length ≤ 200 ∧ q.t.ds.length ≤ 200 ∧ q.l.length ≤ 500
def Heavy9Post (q : ScrT) (w : World) (e : Ending) (w' : World) : Prop := ∃ b, (b = false → Light9 q) ∧ e = .returned (.bool b) ∧ Below w.heap.size w w'

set_option maxRecDepth 100000 in
set_option maxHeartbeats 1000000 in
theorem heavy9_any (q : ScrT) (w : World) (hs : ScrAt w q) :
    Calls Try.prog 26 #[.agg q.cells.toArray] w (Heavy9Post q w) := by
  have h1 := hs.tok.at_.elen
  have h2 := hs.tok.at_.dlen
  have h3 := hs.llen
  obtain ⟨⟨ea, ec, es, da, dc, ds⟩, la, lc, l⟩ := q
  dsimp only [ScrT.cells] at *
  have HW := Lib.hid (fun W => weight_any ⟨ea, ec, es, da, dc, ds⟩ W h1 h2)
  dsimp only [Tl.cells] at HW
  clear hs
  go_enter Try.func26, Try.ntmps26
  go_wp2_with fail
  refine Calls.mono (HW.out _) ?_
  rintro e w1 ⟨rfl, hb1⟩
  have hs1 := hb1.size
  try simp at hs1
  have hc1_0 := fun o => (bcell hb1).1 (w.heap.size) o (by first | omega | (simp; done) | (simp; omega))
  have hf1_0 := fun o => (bcell hb1).2.1 (w.heap.size) o (by first | omega | (simp; done) | (simp; omega))
  have hz1_0 := (bcell hb1).2.2 (w.heap.size) (by first | omega | (simp; done) | (simp; omega))
  have HB1 := Lib.hid hb1
  clear hb1
  by_cases hl : (es.length : Int) + ds.length ≤ 200
  · have hq : decide ((200 : Int) < (es.length : Int) + ds.length) = false := by simp; omega
    by_cases hm : (l.length : Int) ≤ 500
    · have hq2 : decide ((500 : Int) < (l.length : Int)) = false := by simp; omega
      go_wp2
      go_ret
      exact ⟨false, fun _ => ⟨by dsimp only; omega, by dsimp only; omega, by dsimp only; omega⟩, rfl, (by repeat' (first | (with_reducible exact Below.refl _ _) | (with_reducible (refine Below.setCell ?_ ?_ _)) | (with_reducible (refine Below.alloc ?_ ?_ _)) | (with_reducible (refine Below.drew ?_)) | (with_reducible (refine below_via ?_ HB1.out ?_)) | omega | (simp; done) | (simp; omega)))⟩
    · have hq2 : decide ((500 : Int) < (l.length : Int)) = true := by simp; omega
      go_wp2
      go_ret
      exact ⟨true, fun h => (by cases h), rfl, (by repeat' (first | (with_reducible exact Below.refl _ _) | (with_reducible (refine Below.setCell ?_ ?_ _)) | (with_reducible (refine Below.alloc ?_ ?_ _)) | (with_reducible (refine Below.drew ?_)) | (with_reducible (refine below_via ?_ HB1.out ?_)) | omega | (simp; done) | (simp; omega)))⟩
  · have hq : decide ((200 : Int) < (es.length : Int) + ds.length) = true := by simp; omega
    go_wp2
    go_ret
    exact ⟨true, fun h => (by cases h), rfl, (by repeat' (first | (with_reducible exact Below.refl _ _) | (with_reducible (refine Below.setCell ?_ ?_ _)) | (with_reducible (refine Below.alloc ?_ ?_ _)) | (with_reducible (refine Below.drew ?_)) | (with_reducible (refine below_via ?_ HB1.out ?_)) | omega | (simp; done) | (simp; omega)))⟩

theorem num9_any (n : Int) (w : World) : Calls Try.prog 28 #[.int .i64 n] w fun e w' => e = .returned (.int .i64 n) ∧ w = w' := by
  go_enter Try.func28, Try.ntmps28
  go_wp2
  go_ret
  exact ⟨rfl, rfl⟩

end Go.Proofs.Ytbaninglcafhhaa
