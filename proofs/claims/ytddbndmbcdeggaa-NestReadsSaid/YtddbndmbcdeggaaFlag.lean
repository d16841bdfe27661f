/-
  What 'perm.Flag' and the page's own 'Flag' hand back, by what access is asked. Conditions: none.
-/
import Derived.Test.YtddbndmbcdeggaaMay
namespace Go.Proofs.Ytddbndmbcdeggaa
open Go.RowKit

/-- Why an access may not be: the kind of the fault. -/
def faultOf (f may : Bool) : Int := if f then (if may then 0 else 4) else 3
def faultCells (k stage level : Int) (walk : Bool) (page : Int) : List Value := [.int .i64 k, .int .i64 stage, .int .i64 level, .bool walk, .int .i64 page]
/-- The fault that an access meets, or none. -/
def flagOf (f may : Bool) (stage level page : Int) : List Value := if f && may then faultCells 0 0 0 false 0 else faultCells (faultOf f may) stage level false page

set_option maxHeartbeats 1000000 in
theorem flag_any (r w x f n : Bool) (s acc stage level page : Int) (W : World) :
    Calls Try.prog 48 #[.agg #[.bool r, .bool w, .bool x, .bool f, .bool n, .int .i64 s], .int .i64 acc, .int .i64 stage, .int .i64 level, .int .i64 page] W fun e w' =>
      e = .returned (.tuple #[.agg (if accOk acc then flagOf f (mayOf r w x acc) stage level page else faultCells 0 0 0 false 0).toArray, .int .i64 (formIf (accOk acc))]) ∧ Below W.heap.size W w' := by
  have hm := pmay_any r w x f n s acc
  have HM := Lib.hid hm
  clear hm
  generalize mayOf r w x acc = m at *
  generalize accOk acc = g at *
  have E0 : formIf false = 1 := rfl
  have E1 : formIf true = 0 := rfl
  cases g
  · go_enter Try.func48, Try.ntmps48
    go_wp2_with (go_at_call 69; refine (HM.out _).mono ?_; rintro e w1 ⟨rfl, hb1⟩; have hs1 := hb1.size; (try simp at hs1); have hc1_0 := fun o => (bcell hb1).1 (W.heap.size) o (by first | omega | (simp; done) | (simp; omega)); have hf1_0 := fun o => (bcell hb1).2.1 (W.heap.size) o (by first | omega | (simp; done) | (simp; omega)); have hz1_0 := (bcell hb1).2.2 (W.heap.size) (by first | omega | (simp; done) | (simp; omega)); have hc1_1 := fun o => (bcell hb1).1 (W.heap.size + 1) o (by first | omega | (simp; done) | (simp; omega)); have hf1_1 := fun o => (bcell hb1).2.1 (W.heap.size + 1) o (by first | omega | (simp; done) | (simp; omega)); have hz1_1 := (bcell hb1).2.2 (W.heap.size + 1) (by first | omega | (simp; done) | (simp; omega)); have HB1 := Lib.hid hb1; clear hb1)
    refine bodyPost_ret (v := .tuple #[.agg (faultCells 0 0 0 false 0).toArray, .int .i64 1]) (by simp only [results, Try.results48]; simp only [faultCells]; go_simp) rfl ⟨rfl, ?_⟩
    repeat' (first | (with_reducible exact Below.refl _ _) | (with_reducible (refine Below.setCell ?_ ?_ _)) | (with_reducible (refine Below.alloc ?_ ?_ _)) | (with_reducible (refine Below.drew ?_)) | (with_reducible (refine below_via ?_ HB1.out ?_)) | omega | (simp; done) | (simp; omega))
  · cases f
    · go_enter Try.func48, Try.ntmps48
      go_wp2_with (go_at_call 69; refine (HM.out _).mono ?_; rintro e w1 ⟨rfl, hb1⟩; have hs1 := hb1.size; (try simp at hs1); have hc1_0 := fun o => (bcell hb1).1 (W.heap.size) o (by first | omega | (simp; done) | (simp; omega)); have hf1_0 := fun o => (bcell hb1).2.1 (W.heap.size) o (by first | omega | (simp; done) | (simp; omega)); have hz1_0 := (bcell hb1).2.2 (W.heap.size) (by first | omega | (simp; done) | (simp; omega)); have hc1_1 := fun o => (bcell hb1).1 (W.heap.size + 1) o (by first | omega | (simp; done) | (simp; omega)); have hf1_1 := fun o => (bcell hb1).2.1 (W.heap.size + 1) o (by first | omega | (simp; done) | (simp; omega)); have hz1_1 := (bcell hb1).2.2 (W.heap.size + 1) (by first | omega | (simp; done) | (simp; omega)); have HB1 := Lib.hid hb1; clear hb1)
      refine bodyPost_ret (v := .tuple #[.agg (faultCells 3 stage level false page).toArray, .int .i64 0]) (by simp only [results, Try.results48]; simp only [faultCells]; go_simp) rfl ⟨by cases m <;> rfl, ?_⟩
      repeat' (first | (with_reducible exact Below.refl _ _) | (with_reducible (refine Below.setCell ?_ ?_ _)) | (with_reducible (refine Below.alloc ?_ ?_ _)) | (with_reducible (refine Below.drew ?_)) | (with_reducible (refine below_via ?_ HB1.out ?_)) | omega | (simp; done) | (simp; omega))
    · cases m
      · go_enter Try.func48, Try.ntmps48
        go_wp2_with (go_at_call 69; refine (HM.out _).mono ?_; rintro e w1 ⟨rfl, hb1⟩; have hs1 := hb1.size; (try simp at hs1); have hc1_0 := fun o => (bcell hb1).1 (W.heap.size) o (by first | omega | (simp; done) | (simp; omega)); have hf1_0 := fun o => (bcell hb1).2.1 (W.heap.size) o (by first | omega | (simp; done) | (simp; omega)); have hz1_0 := (bcell hb1).2.2 (W.heap.size) (by first | omega | (simp; done) | (simp; omega)); have hc1_1 := fun o => (bcell hb1).1 (W.heap.size + 1) o (by first | omega | (simp; done) | (simp; omega)); have hf1_1 := fun o => (bcell hb1).2.1 (W.heap.size + 1) o (by first | omega | (simp; done) | (simp; omega)); have hz1_1 := (bcell hb1).2.2 (W.heap.size + 1) (by first | omega | (simp; done) | (simp; omega)); have HB1 := Lib.hid hb1; clear hb1)
        refine bodyPost_ret (v := .tuple #[.agg (faultCells 4 stage level false page).toArray, .int .i64 0]) (by simp only [results, Try.results48]; simp only [faultCells]; go_simp) rfl ⟨rfl, ?_⟩
        repeat' (first | (with_reducible exact Below.refl _ _) | (with_reducible (refine Below.setCell ?_ ?_ _)) | (with_reducible (refine Below.alloc ?_ ?_ _)) | (with_reducible (refine Below.drew ?_)) | (with_reducible (refine below_via ?_ HB1.out ?_)) | omega | (simp; done) | (simp; omega))
      · go_enter Try.func48, Try.ntmps48
        go_wp2_with (go_at_call 69; refine (HM.out _).mono ?_; rintro e w1 ⟨rfl, hb1⟩; have hs1 := hb1.size; (try simp at hs1); have hc1_0 := fun o => (bcell hb1).1 (W.heap.size) o (by first | omega | (simp; done) | (simp; omega)); have hf1_0 := fun o => (bcell hb1).2.1 (W.heap.size) o (by first | omega | (simp; done) | (simp; omega)); have hz1_0 := (bcell hb1).2.2 (W.heap.size) (by first | omega | (simp; done) | (simp; omega)); have hc1_1 := fun o => (bcell hb1).1 (W.heap.size + 1) o (by first | omega | (simp; done) | (simp; omega)); have hf1_1 := fun o => (bcell hb1).2.1 (W.heap.size + 1) o (by first | omega | (simp; done) | (simp; omega)); have hz1_1 := (bcell hb1).2.2 (W.heap.size + 1) (by first | omega | (simp; done) | (simp; omega)); have HB1 := Lib.hid hb1; clear hb1)
        refine bodyPost_ret (v := .tuple #[.agg (faultCells 0 0 0 false 0).toArray, .int .i64 0]) (by simp only [results, Try.results48]; simp only [faultCells]; go_simp) rfl ⟨rfl, ?_⟩
        repeat' (first | (with_reducible exact Below.refl _ _) | (with_reducible (refine Below.setCell ?_ ?_ _)) | (with_reducible (refine Below.alloc ?_ ?_ _)) | (with_reducible (refine Below.drew ?_)) | (with_reducible (refine below_via ?_ HB1.out ?_)) | omega | (simp; done) | (simp; omega))

set_option maxHeartbeats 1000000 in
theorem refFlag_any (r w x f n : Bool) (s acc stage level page : Int) (W : World) :
    Calls Try.prog 50 #[.agg #[.bool r, .bool w, .bool x, .bool f, .bool n, .int .i64 s], .int .i64 acc, .int .i64 stage, .int .i64 level, .int .i64 page] W fun e w' =>
      e = .returned (.agg (flagOf f (mayOf r w x acc) stage level page).toArray) ∧ Below W.heap.size W w' := by
  have hm := prefMay_any r w x f n s acc
  have HM := Lib.hid hm
  clear hm
  generalize mayOf r w x acc = m at *
  cases f
  · go_enter Try.func50, Try.ntmps50
    go_wp2
    refine bodyPost_ret (v := .agg (faultCells 3 stage level false page).toArray) (by simp only [results, Try.results50]; simp only [faultCells]; go_simp) rfl ⟨by cases m <;> rfl, ?_⟩
    repeat' (first | (with_reducible exact Below.refl _ _) | (with_reducible (refine Below.setCell ?_ ?_ _)) | (with_reducible (refine Below.alloc ?_ ?_ _)) | (with_reducible (refine Below.drew ?_)) | omega | (simp; done) | (simp; omega))
  · cases m
    · go_enter Try.func50, Try.ntmps50
      go_wp2_with (go_at_call 72; refine (HM.out _).mono ?_; rintro e w1 ⟨rfl, hb1⟩; have hs1 := hb1.size; (try simp at hs1); have hc1_0 := fun o => (bcell hb1).1 (W.heap.size) o (by first | omega | (simp; done) | (simp; omega)); have hf1_0 := fun o => (bcell hb1).2.1 (W.heap.size) o (by first | omega | (simp; done) | (simp; omega)); have hz1_0 := (bcell hb1).2.2 (W.heap.size) (by first | omega | (simp; done) | (simp; omega)); have hc1_1 := fun o => (bcell hb1).1 (W.heap.size + 1) o (by first | omega | (simp; done) | (simp; omega)); have hf1_1 := fun o => (bcell hb1).2.1 (W.heap.size + 1) o (by first | omega | (simp; done) | (simp; omega)); have hz1_1 := (bcell hb1).2.2 (W.heap.size + 1) (by first | omega | (simp; done) | (simp; omega)); have hc1_2 := fun o => (bcell hb1).1 (W.heap.size + 1 + 1) o (by first | omega | (simp; done) | (simp; omega)); have hf1_2 := fun o => (bcell hb1).2.1 (W.heap.size + 1 + 1) o (by first | omega | (simp; done) | (simp; omega)); have hz1_2 := (bcell hb1).2.2 (W.heap.size + 1 + 1) (by first | omega | (simp; done) | (simp; omega)); have HB1 := Lib.hid hb1; clear hb1)
      refine bodyPost_ret (v := .agg (faultCells 4 stage level false page).toArray) (by simp only [results, Try.results50]; simp only [faultCells]; go_simp) rfl ⟨rfl, ?_⟩
      repeat' (first | (with_reducible exact Below.refl _ _) | (with_reducible (refine Below.setCell ?_ ?_ _)) | (with_reducible (refine Below.alloc ?_ ?_ _)) | (with_reducible (refine Below.drew ?_)) | (with_reducible (refine below_via ?_ HB1.out ?_)) | omega | (simp; done) | (simp; omega))
    · go_enter Try.func50, Try.ntmps50
      go_wp2_with (go_at_call 72; refine (HM.out _).mono ?_; rintro e w1 ⟨rfl, hb1⟩; have hs1 := hb1.size; (try simp at hs1); have hc1_0 := fun o => (bcell hb1).1 (W.heap.size) o (by first | omega | (simp; done) | (simp; omega)); have hf1_0 := fun o => (bcell hb1).2.1 (W.heap.size) o (by first | omega | (simp; done) | (simp; omega)); have hz1_0 := (bcell hb1).2.2 (W.heap.size) (by first | omega | (simp; done) | (simp; omega)); have hc1_1 := fun o => (bcell hb1).1 (W.heap.size + 1) o (by first | omega | (simp; done) | (simp; omega)); have hf1_1 := fun o => (bcell hb1).2.1 (W.heap.size + 1) o (by first | omega | (simp; done) | (simp; omega)); have hz1_1 := (bcell hb1).2.2 (W.heap.size + 1) (by first | omega | (simp; done) | (simp; omega)); have hc1_2 := fun o => (bcell hb1).1 (W.heap.size + 1 + 1) o (by first | omega | (simp; done) | (simp; omega)); have hf1_2 := fun o => (bcell hb1).2.1 (W.heap.size + 1 + 1) o (by first | omega | (simp; done) | (simp; omega)); have hz1_2 := (bcell hb1).2.2 (W.heap.size + 1 + 1) (by first | omega | (simp; done) | (simp; omega)); have HB1 := Lib.hid hb1; clear hb1)
      refine bodyPost_ret (v := .agg (faultCells 0 0 0 false 0).toArray) (by simp only [results, Try.results50]; simp only [faultCells]; go_simp) rfl ⟨rfl, ?_⟩
      repeat' (first | (with_reducible exact Below.refl _ _) | (with_reducible (refine Below.setCell ?_ ?_ _)) | (with_reducible (refine Below.alloc ?_ ?_ _)) | (with_reducible (refine Below.drew ?_)) | (with_reducible (refine below_via ?_ HB1.out ?_)) | omega | (simp; done) | (simp; omega))

end Go.Proofs.Ytddbndmbcdeggaa
