/-
  What an argument of the statements of layer 10 looks like in memory; whether it weighs much. Conditions: that it reads.
-/
import Derived.Test.YtbaninglcafhhaaChkA
namespace Go.Proofs.Ytbaninglcafhhaa
open Go.RowKit Go.ChangeShapes Go.WideShapes

def EntI (e : Ent) : Prop := isInt e.kind ∧ isInt e.vmid ∧ isInt e.asid ∧ isInt e.page ∧ isInt e.level ∧ isInt e.frame ∧ isInt e.mid ∧ isInt e.soft
def InvI (i : Inv) : Prop := isInt i.kind ∧ isInt i.vmid ∧ isInt i.asid ∧ isInt i.page
structure At6 where
  r : Bool
  w : Bool
  x : Bool
  af : Bool
  ng : Bool
  soft : Int
def At6.cells (a : At6) : List Value := [.bool a.r, .bool a.w, .bool a.x, .bool a.af, .bool a.ng, .int .i64 a.soft]

set_option maxRecDepth 100000 in
theorem opens_attr : OpensW Try.prog 34 At6.cells (fun _ a => isInt a.soft) := by
  intro w H enc fuel cs x h hwt
  obtain ⟨hl, hf⟩ := opensW_fields Try.underlying34 h hwt
  rw [show Try.prog.cellsOf 34 = 6 by kernel_rfl] at hl
  obtain ⟨n0, y0, h0, w0⟩ := opensW_field hf 0 4 0 1 rfl rfl rfl (by kernel_rfl)
  obtain ⟨n1, y1, h1, w1⟩ := opensW_field hf 1 4 1 1 rfl rfl rfl (by kernel_rfl)
  obtain ⟨n2, y2, h2, w2⟩ := opensW_field hf 2 4 2 1 rfl rfl rfl (by kernel_rfl)
  obtain ⟨n3, y3, h3, w3⟩ := opensW_field hf 3 4 3 1 rfl rfl rfl (by kernel_rfl)
  obtain ⟨n4, y4, h4, w4⟩ := opensW_field hf 4 4 4 1 rfl rfl rfl (by kernel_rfl)
  obtain ⟨n5, y5, h5, w5⟩ := opensW_field hf 5 3 5 1 rfl rfl rfl (by kernel_rfl)
  obtain ⟨b0, e0, d0⟩ := opens_bools w H enc n0 _ _ h0 w0
  obtain ⟨b1, e1, d1⟩ := opens_bools w H enc n1 _ _ h1 w1
  obtain ⟨b2, e2, d2⟩ := opens_bools w H enc n2 _ _ h2 w2
  obtain ⟨b3, e3, d3⟩ := opens_bools w H enc n3 _ _ h3 w3
  obtain ⟨b4, e4, d4⟩ := opens_bools w H enc n4 _ _ h4 w4
  obtain ⟨b5, e5, d5⟩ := opens_ints w H enc n5 _ _ h5 w5
  match cs, hl with
  | [c0, c1, c2, c3, c4, c5], _ =>
    (simp [intCells, boolCells] at e0 e1 e2 e3 e4 e5; subst e0 e1 e2 e3 e4 e5; exact ⟨⟨b0, b1, b2, b3, b4, b5⟩, rfl, d5⟩)

set_option maxRecDepth 100000 in
theorem opens_ent : OpensW Try.prog 36 Ent.cells (fun _ e => EntI e) := by
  intro w H enc fuel cs x h hwt
  obtain ⟨hl, hf⟩ := opensW_fields Try.underlying36 h hwt
  rw [show Try.prog.cellsOf 36 = 14 by kernel_rfl] at hl
  obtain ⟨n0, y0, h0, w0⟩ := opensW_field hf 0 3 0 1 rfl rfl rfl (by kernel_rfl)
  obtain ⟨n1, y1, h1, w1⟩ := opensW_field hf 1 3 1 1 rfl rfl rfl (by kernel_rfl)
  obtain ⟨n2, y2, h2, w2⟩ := opensW_field hf 2 3 2 1 rfl rfl rfl (by kernel_rfl)
  obtain ⟨n3, y3, h3, w3⟩ := opensW_field hf 3 4 3 1 rfl rfl rfl (by kernel_rfl)
  obtain ⟨n4, y4, h4, w4⟩ := opensW_field hf 4 3 4 1 rfl rfl rfl (by kernel_rfl)
  obtain ⟨n5, y5, h5, w5⟩ := opensW_field hf 5 3 5 1 rfl rfl rfl (by kernel_rfl)
  obtain ⟨n6, y6, h6, w6⟩ := opensW_field hf 6 3 6 1 rfl rfl rfl (by kernel_rfl)
  obtain ⟨n7, y7, h7, w7⟩ := opensW_field hf 7 3 7 1 rfl rfl rfl (by kernel_rfl)
  obtain ⟨n8, y8, h8, w8⟩ := opensW_field hf 8 34 8 6 rfl rfl rfl (by kernel_rfl)
  obtain ⟨b0, e0, d0⟩ := opens_ints w H enc n0 _ _ h0 w0
  obtain ⟨b1, e1, d1⟩ := opens_ints w H enc n1 _ _ h1 w1
  obtain ⟨b2, e2, d2⟩ := opens_ints w H enc n2 _ _ h2 w2
  obtain ⟨b3, e3, d3⟩ := opens_bools w H enc n3 _ _ h3 w3
  obtain ⟨b4, e4, d4⟩ := opens_ints w H enc n4 _ _ h4 w4
  obtain ⟨b5, e5, d5⟩ := opens_ints w H enc n5 _ _ h5 w5
  obtain ⟨b6, e6, d6⟩ := opens_ints w H enc n6 _ _ h6 w6
  obtain ⟨b7, e7, d7⟩ := opens_ints w H enc n7 _ _ h7 w7
  obtain ⟨b8, e8, d8⟩ := opens_attr w H enc n8 _ _ h8 w8
  match cs, hl with
  | [c0, c1, c2, c3, c4, c5, c6, c7, c8, c9, c10, c11, c12, c13], _ =>
    (simp [intCells, boolCells, At6.cells] at e0 e1 e2 e3 e4 e5 e6 e7 e8; obtain ⟨e8, e9, e10, e11, e12, e13⟩ := e8; subst e0 e1 e2 e3 e4 e5 e6 e7 e8 e9 e10 e11 e12 e13; exact ⟨⟨b0, b1, b2, b3, b4, b5, b6, b7, b8.r, b8.w, b8.x, b8.af, b8.ng, b8.soft⟩, rfl, ⟨d0, d1, d2, d4, d5, d6, d7, d8⟩⟩)

set_option maxRecDepth 100000 in
theorem opens_inv : OpensW Try.prog 32 Inv.cells (fun _ i => InvI i) := by
  intro w H enc fuel cs x h hwt
  obtain ⟨hl, hf⟩ := opensW_fields Try.underlying32 h hwt
  rw [show Try.prog.cellsOf 32 = 4 by kernel_rfl] at hl
  obtain ⟨n0, y0, h0, w0⟩ := opensW_field hf 0 3 0 1 rfl rfl rfl (by kernel_rfl)
  obtain ⟨n1, y1, h1, w1⟩ := opensW_field hf 1 3 1 1 rfl rfl rfl (by kernel_rfl)
  obtain ⟨n2, y2, h2, w2⟩ := opensW_field hf 2 3 2 1 rfl rfl rfl (by kernel_rfl)
  obtain ⟨n3, y3, h3, w3⟩ := opensW_field hf 3 3 3 1 rfl rfl rfl (by kernel_rfl)
  obtain ⟨b0, e0, d0⟩ := opens_ints w H enc n0 _ _ h0 w0
  obtain ⟨b1, e1, d1⟩ := opens_ints w H enc n1 _ _ h1 w1
  obtain ⟨b2, e2, d2⟩ := opens_ints w H enc n2 _ _ h2 w2
  obtain ⟨b3, e3, d3⟩ := opens_ints w H enc n3 _ _ h3 w3
  match cs, hl with
  | [c0, c1, c2, c3], _ =>
    (simp [intCells] at e0 e1 e2 e3; subst e0 e1 e2 e3; exact ⟨⟨b0, b1, b2, b3⟩, rfl, ⟨d0, d1, d2, d3⟩⟩)

theorem opens_ents : OpensW Try.prog 24 (Sl.cells (α := Ent)) (fun w s => s.list.length ≤ s.cap ∧ s.cap * 80 ≤ reachBytes ∧ At w s.addr 14 Ent.cells s.list ∧ ∀ a ∈ s.list, EntI a) :=
  opensW_slice (size := 14) Try.underlying24 (by kernel_rfl) (by decide) (by kernel_rfl) opens_ent
theorem opens_invs : OpensW Try.prog 23 (Sl.cells (α := Inv)) (fun w s => s.list.length ≤ s.cap ∧ s.cap * 32 ≤ reachBytes ∧ At w s.addr 4 Inv.cells s.list ∧ ∀ a ∈ s.list, InvI a) :=
  opensW_slice (size := 4) Try.underlying23 (by kernel_rfl) (by decide) (by kernel_rfl) opens_inv

structure TlGood (w : World) (t : Tl) : Prop where
  at_ : TlAt w t
  ei : ∀ e ∈ t.es, EntI e
  di : ∀ i ∈ t.ds, InvI i
theorem TlGood.below {w w' : World} {t : Tl} (h : TlGood w t) (hb : Below w.heap.size w w') : TlGood w' t := ⟨h.at_.below hb, h.ei, h.di⟩

set_option maxRecDepth 100000 in
theorem opens_tlb : OpensW Try.prog 43 Tl.cells TlGood := by
  intro w H enc fuel cs x h hwt
  obtain ⟨hl, hf⟩ := opensW_fields Try.underlying43 h hwt
  rw [show Try.prog.cellsOf 43 = 2 by kernel_rfl] at hl
  obtain ⟨n0, y0, h0, w0⟩ := opensW_field hf 0 24 0 1 rfl rfl rfl (by kernel_rfl)
  obtain ⟨n1, y1, h1, w1⟩ := opensW_field hf 1 23 1 1 rfl rfl rfl (by kernel_rfl)
  obtain ⟨b0, e0, d0⟩ := opens_ents w H enc n0 _ _ h0 w0
  obtain ⟨b1, e1, d1⟩ := opens_invs w H enc n1 _ _ h1 w1
  match cs, hl with
  | [c0, c1], _ =>
    (simp [Sl.cells] at e0 e1; subst e0 e1; exact ⟨⟨b0.addr, b0.cap, b0.list, b1.addr, b1.cap, b1.list⟩, rfl, ⟨⟨reach_len d0.1 d0.2.1, d0.1, d0.2.2.1, reach_len d1.1 d1.2.1, d1.1, d1.2.2.1⟩, d0.2.2.2, d1.2.2.2⟩⟩)

theorem opens_tlbs : OpensW Try.prog 22 (Sl.cells (α := Tl)) (fun w s => s.list.length ≤ s.cap ∧ s.cap * 48 ≤ reachBytes ∧ At w s.addr 2 Tl.cells s.list ∧ ∀ a ∈ s.list, TlGood w a) :=
  opensW_slice (size := 2) Try.underlying22 (by kernel_rfl) (by decide) (by kernel_rfl) opens_tlb

structure Ask where
  ta : Option Addr
  tc : Nat
  ts : List Tl
  ia : Option Addr
  ic : Nat
  is_ : List Inv
  ea : Option Addr
  ec : Nat
  es : List Ent
def Ask.cells (q : Ask) : List Value := [.slice q.ta q.ts.length q.tc, .slice q.ia q.is_.length q.ic, .slice q.ea q.es.length q.ec]
def askT : TypeId := 26
structure AskAt (w : World) (q : Ask) : Prop where
  tlen : q.ts.length ≤ 140737488355328
  tcap : q.ts.length ≤ q.tc
  tat : At w q.ta 2 Tl.cells q.ts
  tok : ∀ t ∈ q.ts, TlGood w t
  ilen : q.is_.length ≤ 140737488355328
  icap : q.is_.length ≤ q.ic
  iat : At w q.ia 4 Inv.cells q.is_
  iok : ∀ i ∈ q.is_, InvI i
  elen : q.es.length ≤ 140737488355328
  ecap : q.es.length ≤ q.ec
  eat : At w q.ea 14 Ent.cells q.es
  eok : ∀ e ∈ q.es, EntI e
theorem AskAt.below {w w' : World} {q : Ask} (h : AskAt w q) (hb : Below w.heap.size w w') : AskAt w' q := ⟨h.tlen, h.tcap, h.tat.below hb, fun t ht => (h.tok t ht).below hb, h.ilen, h.icap, h.iat.below hb, h.iok, h.elen, h.ecap, h.eat.below hb, h.eok⟩

set_option maxRecDepth 100000 in
theorem opens_ask : OpensW Try.prog 26 Ask.cells AskAt := by
  intro w H enc fuel cs x h hwt
  obtain ⟨hl, hf⟩ := opensW_fields Try.underlying26 h hwt
  rw [show Try.prog.cellsOf 26 = 3 by kernel_rfl] at hl
  obtain ⟨n0, y0, h0, w0⟩ := opensW_field hf 0 22 0 1 rfl rfl rfl (by kernel_rfl)
  obtain ⟨n1, y1, h1, w1⟩ := opensW_field hf 1 23 1 1 rfl rfl rfl (by kernel_rfl)
  obtain ⟨n2, y2, h2, w2⟩ := opensW_field hf 2 24 2 1 rfl rfl rfl (by kernel_rfl)
  obtain ⟨b0, e0, d0⟩ := opens_tlbs w H enc n0 _ _ h0 w0
  obtain ⟨b1, e1, d1⟩ := opens_invs w H enc n1 _ _ h1 w1
  obtain ⟨b2, e2, d2⟩ := opens_ents w H enc n2 _ _ h2 w2
  match cs, hl with
  | [c0, c1, c2], _ =>
    (simp [Sl.cells] at e0 e1 e2; subst e0 e1 e2; exact ⟨⟨b0.addr, b0.cap, b0.list, b1.addr, b1.cap, b1.list, b2.addr, b2.cap, b2.list⟩, rfl, ⟨reach_len d0.1 d0.2.1, d0.1, d0.2.2.1, d0.2.2.2, reach_len d1.1 d1.2.1, d1.1, d1.2.2.1, d1.2.2.2, reach_len d2.1 d2.2.1, d2.1, d2.2.2.1, d2.2.2.2⟩⟩)

set_option maxRecDepth 100000 in
/-- The argument. -/
theorem open_ask {w : World} {H : Type} {enc : TypeId × Value → H} {v : Value} {d : DataW H} {p : List MemPlace} {r : Reach} {b0 : Nat} (hv : Value.okWide Try.prog w r b0 26 v)
    (h : DataW.Trod enc Try.prog w 0 (fun _ => true) true 26 v d p) (hwt : ∀ n ∈ d.weights Try.prog 26, n ≤ reachBytes) : ∃ q : Ask, v = .agg q.cells.toArray ∧ AskAt w q := by
  obtain ⟨cs0, rfl, hcs⟩ := okWide_struct Try.underlying26 hv
  obtain ⟨fuel, hf⟩ := h
  obtain ⟨s, e, d⟩ := opens_ask w H enc fuel _ _ hf hwt
  refine ⟨s, ?_, d⟩
  rw [← e]
  simp [Value.cells]

set_option maxRecDepth 100000 in
theorem weight_any (t : Tl) (w : World) (h1 : t.es.length ≤ 140737488355328) (h2 : t.ds.length ≤ 140737488355328) : Calls Try.prog 64 #[.agg t.cells.toArray] w fun e w' => e = .returned (.int .i64 ((t.es.length : Int) + t.ds.length)) ∧ Below w.heap.size w w' := by
  obtain ⟨ea, ec, es, da, dc, ds⟩ := t
  dsimp only [Tl.cells] at *
  go_enter Try.func64, Try.ntmps64
  go_wp2
  go_ret
  exact ⟨rfl, (by repeat' (first | (with_reducible exact Below.refl _ _) | (with_reducible (refine Below.setCell ?_ ?_ _)) | (with_reducible (refine Below.alloc ?_ ?_ _)) | (with_reducible (refine Below.drew ?_)) | omega | (simp; done) | (simp; omega)))⟩

/-- What the TLBs weigh, up to some of them. -/
def weigh : Nat → List Tl → Nat
  | n, [] => n
  | n, t :: l => weigh (n + (t.es.length + t.ds.length)) l
theorem weigh_ge (l : List Tl) : ∀ n, n ≤ weigh n l := by
  induction l with
  | nil => intro n; exact Nat.le_refl _
  | cons a l ih => intro n; exact Nat.le_trans (by omega) (ih _)
theorem weigh_snoc (a : Tl) (l : List Tl) : ∀ n, weigh n (l ++ [a]) = weigh n l + (a.es.length + a.ds.length) := by
  induction l with
  | nil => intro n; rfl
  | cons b l ih => intro n; exact ih _
theorem weigh_mem (l : List Tl) : ∀ n, ∀ a ∈ l, a.es.length + a.ds.length ≤ weigh n l := by
  induction l with
  | nil => intro n a h; cases h
  | cons b l ih =>
    intro n a h
    rcases List.mem_cons.1 h with rfl | h
    · exact Nat.le_trans (by omega) (weigh_ge l _)
    · exact ih _ a h

/-- It is light. -/
def Light (q : Ask) : Prop := q.ts.length ≤ 600 ∧ q.is_.length ≤ 600 ∧ q.es.length ≤ 600 ∧ ∀ t ∈ q.ts, t.es.length + t.ds.length ≤ 600
def HeavyPost (q : Ask) (w : World) (e : Ending) (w' : World) : Prop := ∃ b, (b = false → Light q) ∧ e = .returned (.bool b) ∧ Below w.heap.size w w'

theorem tl_cells {w w' : World} {A : Option Addr} {l : List Tl} (h : At w A 2 Tl.cells l) (hb : Below w.heap.size w w') {k : Nat} (hk : k < l.length) :
    ∃ b off, A = some ⟨b, off, none⟩ ∧ b < w.heap.size ∧ w'.cell? ⟨b, off + k * 2, none⟩ = some (.slice l[k].ea l[k].es.length l[k].ec) ∧ w'.cell? ⟨b, off + k * 2 + 1, none⟩ = some (.slice l[k].da l[k].ds.length l[k].dc) := by
  obtain ⟨b, off, e, hb', hc⟩ := at_cells h hb hk
  have hh := fun j u hu => hc j u hu
  have h0 := hc 0 _ rfl
  exact ⟨b, off, e, hb', by simpa using h0, hc 1 _ rfl⟩

set_option maxRecDepth 100000 in
set_option maxHeartbeats 1000000 in
theorem heavy10_any (q : Ask) (w : World) (hs : AskAt w q) :
    Calls Try.prog 19 #[.agg q.cells.toArray] w (HeavyPost q w) := by
  obtain ⟨htl, htc, hta, hto, hil, hic, hia, hio, hel, hec, hea, heo⟩ := hs
  obtain ⟨ta, tc, ts, ia, ic, is_, ea, ec, es⟩ := q
  simp only [Ask.cells]
  dsimp only at *
  have HW := Lib.hid (show ∀ t ∈ ts, t.es.length ≤ 140737488355328 ∧ t.ds.length ≤ 140737488355328 from fun t ht => ⟨(hto t ht).at_.elen, (hto t ht).at_.dlen⟩)
  have HWT := Lib.hid (fun (t : Tl) W (ht : t ∈ ts) => weight_any t W (HW.out t ht).1 (HW.out t ht).2)
  clear htc hto hic hia hio hec hea heo
  have HL := Lib.hid hta
  clear hta
  go_enter Try.func19, Try.ntmps19
  go_wp2
  obtain ⟨wo, hwo⟩ : ∃ wo, wo = w.alloc (.cells #[.slice ta ts.length tc, .slice ia is_.length ic, .slice ea es.length ec] 26) := ⟨_, rfl⟩
  have HBO := Lib.hid (show Below w.heap.size w wo by rw [hwo]; exact (Below.refl _ _).alloc (Nat.le_refl _) _)
  have HXO := Lib.hid (show wo.heap[w.heap.size]? = some (.cells #[.slice ta ts.length tc, .slice ia is_.length ic, .slice ea es.length ec] 26 (0, 0)) by rw [hwo]; exact heap_new _ _)
  have hso : w.heap.size < wo.heap.size := by rw [hwo]; simp
  rw [← hwo]
  clear hwo
  go_loopw [3, 4] (fun n i wr => ∃ k : Nat, k ≤ ts.length ∧ i = .int .i64 k ∧ n = .int .i64 (weigh (ts.length + is_.length + es.length) (ts.take k)) ∧ (weigh (ts.length + is_.length + es.length) (ts.take k) : Int) ≤ 844424930131968 ∧ Below wo.heap.size wo wr) (fun _ i _ => ts.length - (intOf i).toNat)
  case atStart => exact ⟨0, Nat.zero_le _, rfl, by simp [weigh], by simp [weigh]; omega, Below.refl _ _⟩
  case round =>
    obtain ⟨k, hk, rfl, rfl, hwe, hbw⟩ := hrel
    have HBW := Lib.hid hbw
    have hsw := hbw.size
    have HXR := Lib.hid ((hbw.block _ hso).trans HXO.out)
    clear hbw
    have e0 := cell_of_row _ _ 0 _ _ _ HXR.out
    have e1 := cell_of_row _ _ 1 _ _ _ HXR.out
    have e2 := cell_of_row _ _ 2 _ _ _ HXR.out
    have hf := fun j => frozen_of_row _ _ j _ _ HXR.out
    have HEND := Lib.hid (show (weigh (ts.length + is_.length + es.length) (ts.take k) : Int) ≤ 600 → ts.length ≤ k → Light ⟨ta, tc, ts, ia, ic, is_, ea, ec, es⟩ from fun h1 h2 => by
      rw [List.take_of_length_le h2] at h1
      have h3 := weigh_ge ts (ts.length + is_.length + es.length)
      exact ⟨by dsimp only; omega, by dsimp only; omega, by dsimp only; omega, fun a ha => by have := weigh_mem ts (ts.length + is_.length + es.length) a ha; omega⟩)
    have HS := Lib.hid (show ∀ h : k < ts.length, (weigh (ts.length + is_.length + es.length) (ts.take (k + 1)) : Int) = weigh (ts.length + is_.length + es.length) (ts.take k) + ((ts[k].es.length : Int) + ts[k].ds.length) from fun h => by rw [take_snoc_get ts k h, weigh_snoc]; omega)
    have HM0 := Lib.hid (show (0 : Int) ≤ (weigh (ts.length + is_.length + es.length) (ts.take k) : Int) by omega)
    generalize (weigh (ts.length + is_.length + es.length) (ts.take k) : Int) = m at *
    have hm0 := HM0.out
    by_cases hlt : k < ts.length
    · by_cases h20 : m < 1048576
      · obtain ⟨ba, oa, rfl, hba, c0, c1⟩ := tl_cells HL.out (show Below w.heap.size w wr from (by repeat' (first | (with_reducible exact Below.refl _ _) | (with_reducible (refine Below.setCell ?_ ?_ _)) | (with_reducible (refine Below.alloc ?_ ?_ _)) | (with_reducible (refine Below.drew ?_)) | (with_reducible (refine below_via ?_ HBW.out ?_)) | (with_reducible (refine below_via ?_ HBO.out ?_)) | omega | (simp; done) | (simp; omega)))) hlt
        have hln := HW.out ts[k] (List.getElem_mem hlt)
        have HTK := Lib.hid (fun W => HWT.out ts[k] W (List.getElem_mem hlt))
        have HSK := Lib.hid (HS.out hlt)
        have hki : (k : Int) < ts.length := by omega
        generalize ts[k] = a at *
        obtain ⟨a0, a1, a2, a3, a4, a5⟩ := a
        dsimp only [Tl.cells] at c0 c1 hln HSK HTK
        have q20 : decide (m < 1048576) = true := by simpa using h20
        go_wp2_with fail
        refine Calls.mono (HTK.out _) ?_
        rintro e w1 ⟨rfl, hb1⟩
        have hs1 := hb1.size
        try simp at hs1
        have HB1 := Lib.hid hb1
        clear hb1
        go_wp2
        go_roundw
        case rel => exact ⟨k + 1, by omega, by go_num, by rw [HSK.out], by rw [HSK.out]; omega, (by repeat' (first | (with_reducible exact Below.refl _ _) | (with_reducible (refine Below.setCell ?_ ?_ _)) | (with_reducible (refine Below.alloc ?_ ?_ _)) | (with_reducible (refine Below.drew ?_)) | (with_reducible (refine below_via ?_ HB1.out ?_)) | (with_reducible (refine below_via ?_ HBW.out ?_)) | omega | (simp; done) | (simp; omega)))⟩
        case measure => simp [intOf]; omega
      · have h30 : 600 < m := by omega
        go_wp2
        go_ret
        exact ⟨true, fun h => (by cases h), rfl, (by repeat' (first | (with_reducible exact Below.refl _ _) | (with_reducible (refine Below.setCell ?_ ?_ _)) | (with_reducible (refine Below.alloc ?_ ?_ _)) | (with_reducible (refine Below.drew ?_)) | (with_reducible (refine below_via ?_ HBW.out ?_)) | (with_reducible (refine below_via ?_ HBO.out ?_)) | omega | (simp; done) | (simp; omega)))⟩
    · have hkk : ts.length ≤ k := by omega
      by_cases h30 : 600 < m
      · go_wp2
        go_ret
        exact ⟨true, fun h => (by cases h), rfl, (by repeat' (first | (with_reducible exact Below.refl _ _) | (with_reducible (refine Below.setCell ?_ ?_ _)) | (with_reducible (refine Below.alloc ?_ ?_ _)) | (with_reducible (refine Below.drew ?_)) | (with_reducible (refine below_via ?_ HBW.out ?_)) | (with_reducible (refine below_via ?_ HBO.out ?_)) | omega | (simp; done) | (simp; omega)))⟩
      · go_wp2
        go_ret
        exact ⟨false, fun _ => HEND.out (by omega) hkk, rfl, (by repeat' (first | (with_reducible exact Below.refl _ _) | (with_reducible (refine Below.setCell ?_ ?_ _)) | (with_reducible (refine Below.alloc ?_ ?_ _)) | (with_reducible (refine Below.drew ?_)) | (with_reducible (refine below_via ?_ HBW.out ?_)) | (with_reducible (refine below_via ?_ HBO.out ?_)) | omega | (simp; done) | (simp; omega)))⟩

end Go.Proofs.Ytbaninglcafhhaa
