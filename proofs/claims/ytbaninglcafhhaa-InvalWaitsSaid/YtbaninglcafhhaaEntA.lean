/-
  Entries, what takes entries away: their cells, whether two are the same, whether one may be. Plain Lean.
-/
import Derived.Test.YtbaninglcafhhaaWithin
import Derived.Test.YtbaninglcafhhaaOpenK
import Derived.Test.YtbaninglcafhhaaOwn
import Derived.Laws.StructEq
namespace Go.Proofs.Ytbaninglcafhhaa
open Go.RowKit

structure Ent where
  kind : Int
  vmid : Int
  asid : Int
  all : Bool
  page : Int
  level : Int
  frame : Int
  mid : Int
  r : Bool
  w : Bool
  x : Bool
  af : Bool
  ng : Bool
  soft : Int
def Ent.cells (e : Ent) : List Value := [.int .i64 e.kind, .int .i64 e.vmid, .int .i64 e.asid, .bool e.all, .int .i64 e.page, .int .i64 e.level, .int .i64 e.frame, .int .i64 e.mid, .bool e.r, .bool e.w, .bool e.x, .bool e.af, .bool e.ng, .int .i64 e.soft]
def noEnt : Ent := ⟨0, 0, 0, false, 0, 0, 0, 0, false, false, false, false, false, 0⟩
theorem ent_len (e : Ent) : e.cells.length = 14 := rfl
def entT : TypeId := 36

structure Inv where
  kind : Int
  vmid : Int
  asid : Int
  page : Int
def Inv.cells (i : Inv) : List Value := [.int .i64 i.kind, .int .i64 i.vmid, .int .i64 i.asid, .int .i64 i.page]
theorem inv_len (i : Inv) : i.cells.length = 4 := rfl
def invT : TypeId := 32

def entEq (a b : Ent) : Bool := a.kind == b.kind && (a.vmid == b.vmid && (a.asid == b.asid && (a.all == b.all && (a.page == b.page && (a.level == b.level && (a.frame == b.frame && (a.mid == b.mid && (a.r == b.r && (a.w == b.w && (a.x == b.x && (a.af == b.af && (a.ng == b.ng && a.soft == b.soft))))))))))))
def invEq (a b : Inv) : Bool := a.kind == b.kind && (a.vmid == b.vmid && (a.asid == b.asid && a.page == b.page))
theorem entEq_iff (a b : Ent) : entEq a b = true ↔ a = b := by
  obtain ⟨a0, a1, a2, a3, a4, a5, a6, a7, a8, a9, a10, a11, a12, a13⟩ := a
  obtain ⟨b0, b1, b2, b3, b4, b5, b6, b7, b8, b9, b10, b11, b12, b13⟩ := b
  simp [entEq]
theorem invEq_iff (a b : Inv) : invEq a b = true ↔ a = b := by
  obtain ⟨a0, a1, a2, a3⟩ := a
  obtain ⟨b0, b1, b2, b3⟩ := b
  simp [invEq]
theorem entEq_refl (a : Ent) : entEq a a = true := (entEq_iff a a).2 rfl
theorem invEq_refl (a : Inv) : invEq a a = true := (invEq_iff a a).2 rfl
theorem entEq_comm (a b : Ent) : entEq a b = entEq b a := by
  rw [Bool.eq_iff_iff, entEq_iff, entEq_iff]; exact eq_comm

theorem run_eql_ent (a0 a1 a2 : Int) (a3 : Bool) (a4 a5 a6 a7 : Int) (a8 a9 a10 a11 a12 : Bool) (a13 : Int) (b0 b1 b2 : Int) (b3 : Bool) (b4 b5 b6 b7 : Int) (b8 b9 b10 b11 b12 : Bool) (b13 : Int) (w : World) :
    (binOp .eql 36 (.agg #[.int .i64 a0, .int .i64 a1, .int .i64 a2, .bool a3, .int .i64 a4, .int .i64 a5, .int .i64 a6, .int .i64 a7, .bool a8, .bool a9, .bool a10, .bool a11, .bool a12, .int .i64 a13]) (.agg #[.int .i64 b0, .int .i64 b1, .int .i64 b2, .bool b3, .int .i64 b4, .int .i64 b5, .int .i64 b6, .int .i64 b7, .bool b8, .bool b9, .bool b10, .bool b11, .bool b12, .int .i64 b13])).run Try.prog w =
      .ok (.bool (entEq ⟨a0, a1, a2, a3, a4, a5, a6, a7, a8, a9, a10, a11, a12, a13⟩ ⟨b0, b1, b2, b3, b4, b5, b6, b7, b8, b9, b10, b11, b12, b13⟩)) w := by
  unfold entEq
  dsimp only
  go_simp
  by_cases e : a0 = b0
  case neg => simp [e]
  subst e
  by_cases e : a1 = b1
  case neg => simp [e]
  subst e
  by_cases e : a2 = b2
  case neg => simp [e]
  subst e
  by_cases e : a3 = b3
  case neg => simp [e]
  subst e
  by_cases e : a4 = b4
  case neg => simp [e]
  subst e
  by_cases e : a5 = b5
  case neg => simp [e]
  subst e
  by_cases e : a6 = b6
  case neg => simp [e]
  subst e
  by_cases e : a7 = b7
  case neg => simp [e]
  subst e
  by_cases e : a8 = b8
  case neg => simp [e]
  subst e
  by_cases e : a9 = b9
  case neg => simp [e]
  subst e
  by_cases e : a10 = b10
  case neg => simp [e]
  subst e
  by_cases e : a11 = b11
  case neg => simp [e]
  subst e
  by_cases e : a12 = b12
  case neg => simp [e]
  subst e
  by_cases e : a13 = b13
  case neg => simp [e]
  subst e
  simp
theorem run_neq_ent (a0 a1 a2 : Int) (a3 : Bool) (a4 a5 a6 a7 : Int) (a8 a9 a10 a11 a12 : Bool) (a13 : Int) (b0 b1 b2 : Int) (b3 : Bool) (b4 b5 b6 b7 : Int) (b8 b9 b10 b11 b12 : Bool) (b13 : Int) (w : World) :
    (binOp .neq 36 (.agg #[.int .i64 a0, .int .i64 a1, .int .i64 a2, .bool a3, .int .i64 a4, .int .i64 a5, .int .i64 a6, .int .i64 a7, .bool a8, .bool a9, .bool a10, .bool a11, .bool a12, .int .i64 a13]) (.agg #[.int .i64 b0, .int .i64 b1, .int .i64 b2, .bool b3, .int .i64 b4, .int .i64 b5, .int .i64 b6, .int .i64 b7, .bool b8, .bool b9, .bool b10, .bool b11, .bool b12, .int .i64 b13])).run Try.prog w =
      .ok (.bool (!entEq ⟨a0, a1, a2, a3, a4, a5, a6, a7, a8, a9, a10, a11, a12, a13⟩ ⟨b0, b1, b2, b3, b4, b5, b6, b7, b8, b9, b10, b11, b12, b13⟩)) w := by
  unfold entEq
  dsimp only
  go_simp
  by_cases e : a0 = b0
  case neg => simp [e]
  subst e
  by_cases e : a1 = b1
  case neg => simp [e]
  subst e
  by_cases e : a2 = b2
  case neg => simp [e]
  subst e
  by_cases e : a3 = b3
  case neg => simp [e]
  subst e
  by_cases e : a4 = b4
  case neg => simp [e]
  subst e
  by_cases e : a5 = b5
  case neg => simp [e]
  subst e
  by_cases e : a6 = b6
  case neg => simp [e]
  subst e
  by_cases e : a7 = b7
  case neg => simp [e]
  subst e
  by_cases e : a8 = b8
  case neg => simp [e]
  subst e
  by_cases e : a9 = b9
  case neg => simp [e]
  subst e
  by_cases e : a10 = b10
  case neg => simp [e]
  subst e
  by_cases e : a11 = b11
  case neg => simp [e]
  subst e
  by_cases e : a12 = b12
  case neg => simp [e]
  subst e
  by_cases e : a13 = b13
  case neg => simp [e]
  subst e
  simp
theorem run_neq_inv (a0 a1 a2 a3 b0 b1 b2 b3 : Int) (w : World) :
    (binOp .neq 32 (.agg #[.int .i64 a0, .int .i64 a1, .int .i64 a2, .int .i64 a3]) (.agg #[.int .i64 b0, .int .i64 b1, .int .i64 b2, .int .i64 b3])).run Try.prog w =
      .ok (.bool (!invEq ⟨a0, a1, a2, a3⟩ ⟨b0, b1, b2, b3⟩)) w := by
  unfold invEq
  dsimp only
  go_simp
  by_cases e : a0 = b0
  case neg => simp [e]
  subst e
  by_cases e : a1 = b1
  case neg => simp [e]
  subst e
  by_cases e : a2 = b2
  case neg => simp [e]
  subst e
  by_cases e : a3 = b3
  case neg => simp [e]
  subst e
  simp

def numOk (n m : Int) : Bool := decide (0 ≤ n) && decide (n ≤ m)
/-- How many pages a table of a level tells of: what lies below its index, and its index. -/
def spanOf (level : Int) : Int := 2 ^ (3 * (4 - level)).toNat
def cutOf (page level : Int) : Int := page - page % spanOf level
def bare (e : Ent) : Bool := e.mid == 0 && (!e.r && (!e.w && (!e.x && (!e.af && (!e.ng && e.soft == 0)))))
def entOk (e : Ent) : Bool :=
  (numOk e.vmid 15 && (numOk e.asid 15 && (numOk e.page 4095 && (numOk e.frame 4095 && (numOk e.mid 4095 && e.soft == 0))))) &&
  (if e.kind = 1 then e.level == 0
   else if e.kind = 2 then e.asid == 0 && (e.all && (e.level == 0 && (e.mid == 0 && !e.ng)))
   else if e.kind = 3 then decide (1 ≤ e.level) && (decide (e.level ≤ 3) && (e.page == cutOf e.page e.level && bare e))
   else false)
def dueOk (i : Inv) : Bool := (decide (1 ≤ i.kind) && decide (i.kind ≤ 6)) && (numOk i.vmid 15 && (numOk i.asid 15 && numOk i.page 4095))
def tlbOk (es : List Ent) (ds : List Inv) : Bool := (decide (es.length ≤ 8) && decide (ds.length ≤ 8)) && ((List.range es.length).all (fun i => match es[i]? with | some e => entOk e && !(es.take i).any (entEq e) | none => true) && ds.all dueOk)

theorem span_cases {level : Int} (h0 : 1 ≤ level) (h1 : level ≤ 3) : (level = 1 ∧ spanOf level = 512) ∨ (level = 2 ∧ spanOf level = 64) ∨ (level = 3 ∧ spanOf level = 8) := by
  have : level = 1 ∨ level = 2 ∨ level = 3 := by omega
  rcases this with rfl | rfl | rfl <;> simp [spanOf]

end Go.Proofs.Ytbaninglcafhhaa
