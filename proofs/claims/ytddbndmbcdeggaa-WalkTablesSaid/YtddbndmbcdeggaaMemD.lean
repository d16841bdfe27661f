/-
  slices.Clone of words, and 'copied': the words in new memory. Conditions: the length fits.
-/
import Derived.Test.YtddbndmbcdeggaaMemC
import Derived.Test.YtddbndmbcdeggaaOwn
namespace Go.Proofs.Ytddbndmbcdeggaa
open Go.RowKit

def wordT : TypeId := 75
theorem word_len (x : Int) : (wordCells x).length = 1 := rfl
theorem word_info : (Try.prog.info? wordT).map (fun i => (i.zero, i.size, i.bytes)) = some (some (.int .u64 0), 1, 8) := by kernel_rfl
theorem word_one {l : List Int} (u : Value) (h : u ∈ l.flatMap wordCells) : u.oneCell' = true := by
  obtain ⟨a, _, ha⟩ := List.mem_flatMap.1 h
  simp only [wordCells, List.mem_cons, List.not_mem_nil, or_false] at ha
  subst ha
  rfl

theorem below_grown1 {w w' : World} {o : Obj} {n c : Nat} (h : (w.alloc o).grownBy w' (Value.slice (some ⟨w.heap.size, 0, none⟩) n c).ownBlock) : Below w.heap.size w w' :=
  ((Below.refl _ _).alloc (Nat.le_refl _) o).grown h (by simp) (fun k hk => by simp [Value.ownBlock] at hk; omega)

set_option maxHeartbeats 1000000 in
theorem clone_any (A : Option Addr) (c : Nat) (ws : List Int) (w : World) (hn : ws.length ≤ 1000000) (hA : At w A 1 wordCells ws) :
    Calls Try.prog 58 #[.slice A ws.length c] w fun e w' => ∃ A' c', e = .returned (.slice A' ws.length c') ∧ Own w' w.heap.size wordT 1 wordCells ws A' c' ∧ Below w.heap.size w w' := by
  cases A with
  | none =>
    have h0 : ws = [] := by
      cases ws with
      | nil => rfl
      | cons x l => obtain ⟨_, _, h, _⟩ := hA (by simp); cases h
    subst h0
    have he := fun (W : World) => Lib.run_eql_slice_nil (P := Try.prog) W _ _ none 0 c 0 0 Try.underlying22
    go_enter Try.func58, Try.ntmps58
    go_wp2
    go_ret
    exact ⟨_, _, rfl, World.ownsRow_nil _ _ _ _, Below.refl _ _⟩
  | some a =>
    obtain ⟨i0, hi0, hz0, hz1, hz2⟩ := info_parts word_info
    have HA := Lib.hid hA
    have HOWN := Lib.hid (World.ownsRow_lit (base := w.heap.size) (size := 1) (e := wordT) w #[] 0 (Nat.le_refl _) (by decide) rfl)
    have he := fun (W : World) => Lib.run_eql_slice_nil (P := Try.prog) W _ _ (some a) ws.length c 0 0 Try.underlying22
    simp only [Option.isNone] at he
    clear hA
    go_enter Try.func58, Try.ntmps58
    go_wp2_with (first
      | (at_builtin
         refine wpList_append_any _ rfl (.tmp 5) (.tmp 6) _ rfl w.heap.size wordT i0 _ 1 8 Try.underlying22 hi0 hz0 hz1 hz2 rfl (by omega) _ 0 _ rfl HOWN.out (w.alloc (.cells #[] wordT)).heap.size (some a) ws.length c (ws.flatMap wordCells) rfl
           ((HA.out.below ((Below.refl _ _).alloc (Nat.le_refl _) _)).reads word_len) (by intro u hu; exact word_one _ hu) (by simp only [maxLen]; omega) (by omega) (by simp) ?_
         intro v2 w2 hown2 hg2 hat2
         have HG2 := Lib.hid (below_grown1 hg2)
         have HO2 := Lib.hid hown2
         clear hown2 hg2 hat2))
    obtain ⟨A', c', rfl, ho⟩ := own_form (by simpa using HO2.out)
    go_ret
    exact ⟨A', c', rfl, ho, HG2.out⟩

def memoryT : TypeId := 97

end Go.Proofs.Ytddbndmbcdeggaa
