/-
  All fields' word, as the program and the page join them. Conditions: the fields may be, and no two have a bit in common.
-/
import Derived.Test.YtddbndmbcdeggaaFieldB
namespace Go.Proofs.Ytddbndmbcdeggaa
open Go.RowKit

def joinStep (a : Int) (f : Fd) : Int := bits .or .u64 a (IntKind.u64.wrap (f.v * 2 ^ f.at_.toNat))
def takenStep (a : Int) (f : Fd) : Int := bits .or .u64 a (maskAt f.at_ f.n)
def joinW (l : List Fd) : Int := l.foldl joinStep 0
def takenW (l : List Fd) : Int := l.foldl takenStep 0
theorem joinW_take (l : List Fd) (k : Nat) (h : k < l.length) : joinW (l.take (k + 1)) = joinStep (joinW (l.take k)) l[k] := by
  unfold joinW
  rw [List.take_succ_eq_append_getElem h, List.foldl_append]
  rfl
theorem takenW_take (l : List Fd) (k : Nat) (h : k < l.length) : takenW (l.take (k + 1)) = takenStep (takenW (l.take k)) l[k] := by
  unfold takenW
  rw [List.take_succ_eq_append_getElem h, List.foldl_append]
  rfl
/-- No two have a bit in common. -/
def Disj (l : List Fd) : Prop := ∀ k (h : k < l.length), bits .and .u64 (takenW (l.take k)) (maskAt l[k].at_ l[k].n) = 0

def fieldT : TypeId := 124

theorem fd_cells {w wr : World} {A : Option Addr} {l : List Fd} {k : Nat} (hA : At w A 3 Fd.cells l) (hb : Below w.heap.size w wr) (hk : k < l.length) :
    ∃ b o, A = some ⟨b, o, none⟩ ∧ b < w.heap.size ∧ wr.cell? ⟨b, o + k * 3, none⟩ = some (.int .i64 l[k].at_) ∧ wr.cell? ⟨b, o + k * 3 + 1, none⟩ = some (.int .i64 l[k].n) ∧ wr.cell? ⟨b, o + k * 3 + 2, none⟩ = some (.int .u64 l[k].v) := by
  obtain ⟨b, o, rfl, hbl, hc⟩ := hA (by omega)
  have h := fun j u (hj : (Fd.cells l[k])[j]? = some u) => (hb.cell (p := ⟨b, o + k * 3 + j, none⟩) hbl).trans (hc k hk j u hj)
  exact ⟨b, o, rfl, hbl, h 0 _ rfl, h 1 _ rfl, h 2 _ rfl⟩

set_option maxRecDepth 100000 in
set_option maxHeartbeats 2000000 in
theorem joined_any (A : Option Addr) (c : Nat) (l : List Fd) (w : World) (hl : l.length ≤ 100) (hA : At w A 3 Fd.cells l) (hok : ∀ f ∈ l, FdOk f) (hd : Disj l) :
    Calls Try.prog 88 #[.slice A l.length c] w fun e w' => e = .returned (.tuple #[.int .u64 (joinW l), .int .u64 (takenW l), .int .i64 0]) ∧ Below w.heap.size w w' := by
  have HA := Lib.hid hA
  have HO := Lib.hid hok
  have HD := Lib.hid hd
  clear hA hok hd
  go_enter Try.func88, Try.ntmps88
  go_wp2
  go_loopw [2, 3, 12] (fun v t i wr => ∃ k : Nat, k ≤ l.length ∧ i = .int .i64 k ∧ v = .int .u64 0 ∧ t = .int .u64 0 ∧ Below w.heap.size w wr) (fun _ _ i _ => l.length - (intOf i).toNat)
  case atStart => exact ⟨0, Nat.zero_le _, rfl, rfl, rfl, Below.refl _ _⟩
  case round =>
    obtain ⟨k, hk, rfl, rfl, rfl, hb⟩ := hrel
    have HB := Lib.hid hb
    by_cases hlt : k < l.length
    · obtain ⟨b, o, rfl, hbl, c0, c1, c2⟩ := fd_cells HA.out hb hlt
      have HM := Lib.hid (fun W => fmay_any l[k].at_ l[k].n l[k].v (HO.out _ (List.getElem_mem hlt)) W)
      have hsz := hb.size
      clear hb
      generalize l[k] = f at *
      obtain ⟨fa, fn, fv⟩ := f
      dsimp only at c0 c1 c2 HM
      go_wp2_with fail
      refine Calls.mono (HM.out _) ?_
      rintro e w1 ⟨rfl, hb1⟩
      have hs1 := hb1.size
      try simp at hs1
      have HB1 := Lib.hid hb1
      clear hb1
      go_wp2
      go_roundw
      case rel => exact ⟨k + 1, by omega, by go_num, rfl, rfl, (by repeat' (first | (with_reducible exact Below.refl _ _) | (with_reducible (refine Below.setCell ?_ ?_ _)) | (with_reducible (refine Below.alloc ?_ ?_ _)) | (with_reducible (refine Below.drew ?_)) | (with_reducible (refine below_via ?_ HB1.out ?_)) | (with_reducible (refine below_via ?_ HB.out ?_)) | omega | (simp; done) | (simp; omega)))⟩
      case measure => simp [intOf]; omega
    · obtain rfl : k = l.length := by omega
      clear hb hlt
      go_wp2
      go_loopw [2, 3, 23] (fun v t i wr => ∃ k : Nat, k ≤ l.length ∧ i = .int .i64 k ∧ v = .int .u64 (joinW (l.take k)) ∧ t = .int .u64 (takenW (l.take k)) ∧ Below w.heap.size w wr) (fun _ _ i _ => l.length - (intOf i).toNat)
      case atStart => exact ⟨0, Nat.zero_le _, rfl, rfl, rfl, HB.out⟩
      case round =>
        obtain ⟨k, hk, rfl, rfl, rfl, hb⟩ := hrel
        have HB2 := Lib.hid hb
        by_cases hlt : k < l.length
        · obtain ⟨b, o, rfl, hbl, c0, c1, c2⟩ := fd_cells HA.out hb hlt
          have hF := HO.out _ (List.getElem_mem hlt)
          have HM := Lib.hid (fun v W => fmask_any l[k].at_ l[k].n v hF.1 hF.2.1 hF.2.2.1 hF.2.2.2.1 W)
          have hdk := HD.out k hlt
          have HJ := Lib.hid (joinW_take l k hlt)
          have HT := Lib.hid (takenW_take l k hlt)
          have hsz := hb.size
          have h0 := hF.2.2.1
          have h3 := hF.2.2.2.1
          have h1 := hF.1
          clear hb hF
          generalize l[k] = f at *
          obtain ⟨fa, fn, fv⟩ := f
          dsimp only [joinStep, takenStep] at c0 c1 c2 HM hdk HJ HT h0 h3 h1
          generalize joinW (l.take k) = jw at *
          generalize takenW (l.take k) = tw at *
          have HDK := Lib.hid (show (bits .and .u64 tw (maskAt fa fn) != 0) = false by rw [hdk]; rfl)
          clear hdk
          go_wp2_with fail
          refine Calls.mono (HM.out _ _) ?_
          rintro e w1 ⟨rfl, hb1⟩
          have hs1 := hb1.size
          try simp at hs1
          have hc1_0 := fun o => (bcell hb1).1 (wr.heap.size + 1) o (by first | omega | (simp; done) | (simp; omega))
          have hf1_0 := fun o => (bcell hb1).2.1 (wr.heap.size + 1) o (by first | omega | (simp; done) | (simp; omega))
          have hz1_0 := (bcell hb1).2.2 (wr.heap.size + 1) (by first | omega | (simp; done) | (simp; omega))
          have HB1 := Lib.hid hb1
          clear hb1
          have hdk := HDK.out
          go_wp2_with fail
          refine wp_region_class (fun w' => Below (w1.heap.size) (w1) w') (by kernel_rfl) (by kernel_rfl) (Below.refl _ _).drew ?_
          repeat (first
            | (refine wpLex_pass (by rfl) passes_plain ?_; (conv => arg 9; simp only [put_lit, put_lit_none, List.set]))
            | (refine wpLex_plain (by rfl) ?_
               apply Exists.intro
               refine ⟨?_, ?_⟩
               · intro w' hb
                 have hsz := hb.size
                 try simp at hsz
                 have hcw := fun b o (h : b < w1.heap.size) => hb.cell (p := ⟨b, o, none⟩) h
                 have hfw := fun b o (h : b < w1.heap.size) => hb.frozen (p := ⟨b, o, none⟩) h
                 go_simp
                 first
                   | exact ⟨rfl, hb⟩
                   | exact rfl
                   | ((with_reducible refine Calls.mono (HM.out _ _) ?_); rintro e w2 ⟨rfl, hb2⟩; exact ⟨_, rfl, rfl, hb.trans (hb2.mono hsz)⟩)
               conv => arg 9; simp only [put_lit, put_lit_none, List.set]))
          refine wpLex_nil ?_
          intro wp hbp
          have hsp := hbp.size
          try simp at hsp
          have hcp := fun b o (h : b < w1.heap.size) => hbp.cell (p := ⟨b, o, none⟩) h
          have hfp := fun b o (h : b < w1.heap.size) => hbp.frozen (p := ⟨b, o, none⟩) h
          have HBp := Lib.hid hbp
          clear hbp
          go_wp2
          go_roundw
          case rel => exact ⟨k + 1, by omega, by go_num, by rw [HJ.out], by rw [HT.out], (by repeat' (first | (with_reducible exact Below.refl _ _) | (with_reducible (refine Below.setCell ?_ ?_ _)) | (with_reducible (refine Below.alloc ?_ ?_ _)) | (with_reducible (refine Below.drew ?_)) | (with_reducible (refine below_via ?_ HBp.out ?_)) | (with_reducible (refine below_via ?_ HB1.out ?_)) | (with_reducible (refine below_via ?_ HB2.out ?_)) | omega | (simp; done) | (simp; omega)))⟩
          case measure => simp [intOf]; omega
        · obtain rfl : k = l.length := by omega
          clear hb hlt
          have HL := Lib.hid (List.take_length (l := l))
          go_wp2
          go_ret3
          exact ⟨by rw [HL.out]; rfl, HB2.out⟩

set_option maxRecDepth 100000 in
set_option maxHeartbeats 2000000 in
theorem join_any (A : Option Addr) (c : Nat) (l : List Fd) (w : World) (hl : l.length ≤ 100) (hA : At w A 3 Fd.cells l) (hok : ∀ f ∈ l, FdOk f) (hd : Disj l) :
    Calls Try.prog 78 #[.slice A l.length c] w fun e w' => e = .returned (.tuple #[.int .u64 (joinW l), .int .i64 0]) ∧ Below w.heap.size w w' := by
  have HJ := Lib.hid (joined_any A c l w hl hA hok hd)
  clear hA hok hd
  go_enter Try.func78, Try.ntmps78
  go_wp2_with fail
  refine Calls.mono (HJ.out) ?_
  rintro e w1 ⟨rfl, hb1⟩
  have hs1 := hb1.size
  try simp at hs1
  have HB1 := Lib.hid hb1
  clear hb1
  go_wp2
  go_ret2
  exact ⟨rfl, (by repeat' (first | (with_reducible exact Below.refl _ _) | (with_reducible (refine Below.setCell ?_ ?_ _)) | (with_reducible (refine Below.alloc ?_ ?_ _)) | (with_reducible (refine Below.drew ?_)) | (with_reducible (refine below_via ?_ HB1.out ?_)) | omega | (simp; done) | (simp; omega)))⟩

set_option maxRecDepth 100000 in
set_option maxHeartbeats 2000000 in
theorem rjoin_any (A : Option Addr) (c : Nat) (l : List Fd) (w : World) (hl : l.length ≤ 100) (hA : At w A 3 Fd.cells l) (hok : ∀ f ∈ l, FdOk f) (hd : Disj l) :
    Calls Try.prog 82 #[.slice A l.length c] w fun e w' => e = .returned (.tuple #[.int .u64 (joinW l), .int .u64 (takenW l), .int .i64 0]) ∧ Below w.heap.size w w' := by
  have HA := Lib.hid hA
  have HO := Lib.hid hok
  have HD := Lib.hid hd
  clear hA hok hd
  go_enter Try.func82, Try.ntmps82
  go_wp2
  go_loopw [5] (fun i wr => ∃ k : Nat, k ≤ l.length ∧ i = .int .i64 k ∧ Below w.heap.size w wr) (fun i _ => l.length - (intOf i).toNat)
  case atStart => exact ⟨0, Nat.zero_le _, rfl, Below.refl _ _⟩
  case round =>
    obtain ⟨k, hk, rfl, hb⟩ := hrel
    have HB := Lib.hid hb
    by_cases hlt : k < l.length
    · obtain ⟨b, o, rfl, hbl, c0, c1, c2⟩ := fd_cells HA.out hb hlt
      have HM := Lib.hid (fun W => rfield_any l[k].at_ l[k].n l[k].v (HO.out _ (List.getElem_mem hlt)) W)
      have hsz := hb.size
      clear hb
      generalize l[k] = f at *
      obtain ⟨fa, fn, fv⟩ := f
      dsimp only at c0 c1 c2 HM
      go_wp2_with fail
      refine Calls.mono (HM.out _) ?_
      rintro e w1 ⟨rfl, hb1⟩
      have hs1 := hb1.size
      try simp at hs1
      have HB1 := Lib.hid hb1
      clear hb1
      go_wp2
      go_roundw
      case rel => exact ⟨k + 1, by omega, by go_num, (by repeat' (first | (with_reducible exact Below.refl _ _) | (with_reducible (refine Below.setCell ?_ ?_ _)) | (with_reducible (refine Below.alloc ?_ ?_ _)) | (with_reducible (refine Below.drew ?_)) | (with_reducible (refine below_via ?_ HB1.out ?_)) | (with_reducible (refine below_via ?_ HB.out ?_)) | omega | (simp; done) | (simp; omega)))⟩
      case measure => simp [intOf]; omega
    · obtain rfl : k = l.length := by omega
      clear hb hlt
      go_wp2
      go_loopw [6, 7, 8] (fun v t i wr => ∃ k : Nat, k ≤ l.length ∧ i = .int .i64 k ∧ v = .int .u64 (joinW (l.take k)) ∧ t = .int .u64 (takenW (l.take k)) ∧ Below w.heap.size w wr) (fun _ _ i _ => l.length - (intOf i).toNat)
      case atStart => exact ⟨0, Nat.zero_le _, rfl, rfl, rfl, HB.out⟩
      case round =>
        obtain ⟨k, hk, rfl, rfl, rfl, hb⟩ := hrel
        have HB2 := Lib.hid hb
        by_cases hlt : k < l.length
        · obtain ⟨b, o, rfl, hbl, c0, c1, c2⟩ := fd_cells HA.out hb hlt
          have hF := HO.out _ (List.getElem_mem hlt)
          have HM := Lib.hid (fun W => rmask_any l[k].n hF.1 hF.2.1 W)
          have hdk := HD.out k hlt
          have HJ := Lib.hid (joinW_take l k hlt)
          have HT := Lib.hid (takenW_take l k hlt)
          have hsz := hb.size
          have h0 := hF.2.2.1
          have h3 := hF.2.2.2.1
          have h1 := hF.1
          have hki : (k : Int) < l.length := by omega
          have hki0 : (0 : Int) ≤ (k : Int) := by omega
          clear hb hF
          generalize l[k] = f at *
          obtain ⟨fa, fn, fv⟩ := f
          dsimp only [joinStep, takenStep] at c0 c1 c2 HM hdk HJ HT h0 h3 h1
          generalize joinW (l.take k) = jw at *
          generalize takenW (l.take k) = tw at *
          have HDK := Lib.hid (show (bits .and .u64 tw (maskAt fa fn) != 0) = false by rw [hdk]; rfl)
          clear hdk
          have hbr : b < wr.heap.size := by omega
          go_wp2_with fail
          refine wp_region_class (fun w' => Below (wr.heap.size) (wr) w') (by kernel_rfl) (by kernel_rfl) (Below.refl _ _).drew ?_
          repeat (first
            | (refine wpLex_pass (by rfl) passes_plain ?_; (conv => arg 9; simp only [put_lit, put_lit_none, List.set]))
            | (refine wpLex_plain (by rfl) ?_
               apply Exists.intro
               refine ⟨?_, ?_⟩
               · intro w' hb
                 have hsz := hb.size
                 try simp at hsz
                 have hcw := fun b o (h : b < wr.heap.size) => hb.cell (p := ⟨b, o, none⟩) h
                 have hfw := fun b o (h : b < wr.heap.size) => hb.frozen (p := ⟨b, o, none⟩) h
                 go_simp
                 first
                   | exact ⟨rfl, hb⟩
                   | exact rfl
                   | ((with_reducible refine Calls.mono (HM.out _) ?_); rintro e w2 ⟨rfl, rfl⟩; exact ⟨_, rfl, rfl, hb⟩)
               conv => arg 9; simp only [put_lit, put_lit_none, List.set]))
          refine wpLex_nil ?_
          intro wp hbp
          have hsp := hbp.size
          try simp at hsp
          have hcp := fun b o (h : b < wr.heap.size) => hbp.cell (p := ⟨b, o, none⟩) h
          have hfp := fun b o (h : b < wr.heap.size) => hbp.frozen (p := ⟨b, o, none⟩) h
          have HBp := Lib.hid hbp
          clear hbp
          have hdk := HDK.out
          have hbp2 : b < wp.heap.size := by omega
          unfold maskAt at hdk
          go_wp2_with fail
          refine wp_region_class (fun w' => Below (wp.heap.size) (wp) w') (by kernel_rfl) (by kernel_rfl) (Below.refl _ _).drew ?_
          repeat (first
            | (refine wpLex_pass (by rfl) passes_plain ?_; (conv => arg 9; simp only [put_lit, put_lit_none, List.set]))
            | (refine wpLex_plain (by rfl) ?_
               apply Exists.intro
               refine ⟨?_, ?_⟩
               · intro w' hb
                 have hsz := hb.size
                 try simp at hsz
                 have hcw := fun b o (h : b < wp.heap.size) => hb.cell (p := ⟨b, o, none⟩) h
                 have hfw := fun b o (h : b < wp.heap.size) => hb.frozen (p := ⟨b, o, none⟩) h
                 go_simp
                 first
                   | exact ⟨rfl, hb⟩
                   | exact rfl
               conv => arg 9; simp only [put_lit, put_lit_none, List.set]))
          refine wpLex_nil ?_
          intro wq hbq
          have hsq := hbq.size
          try simp at hsq
          have hcq := fun b o (h : b < wp.heap.size) => hbq.cell (p := ⟨b, o, none⟩) h
          have hfq := fun b o (h : b < wp.heap.size) => hbq.frozen (p := ⟨b, o, none⟩) h
          have HBq := Lib.hid hbq
          clear hbq
          go_wp2
          go_roundw
          case rel => exact ⟨k + 1, by omega, by go_num, by rw [HJ.out], by rw [HT.out]; rfl, (by repeat' (first | (with_reducible exact Below.refl _ _) | (with_reducible (refine Below.setCell ?_ ?_ _)) | (with_reducible (refine Below.alloc ?_ ?_ _)) | (with_reducible (refine Below.drew ?_)) | (with_reducible (refine below_via ?_ HBq.out ?_)) | (with_reducible (refine below_via ?_ HBp.out ?_)) | (with_reducible (refine below_via ?_ HB2.out ?_)) | omega | (simp; done) | (simp; omega)))⟩
          case measure => simp [intOf]; omega
        · obtain rfl : k = l.length := by omega
          clear hb hlt
          have HL := Lib.hid (List.take_length (l := l))
          go_wp2
          go_ret3
          exact ⟨by rw [HL.out]; rfl, HB2.out⟩

end Go.Proofs.Ytddbndmbcdeggaa
