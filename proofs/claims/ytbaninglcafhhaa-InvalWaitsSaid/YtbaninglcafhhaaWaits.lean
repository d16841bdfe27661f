/-
  'InvalWaits' returns true, and of what was there nothing has turned. Conditions: the argument reads as such.
-/
import Derived.Test.YtbaninglcafhhaaTlsE
import Derived.Test.YtbaninglcafhhaaInvT
namespace Go.Proofs.Ytbaninglcafhhaa
open Go.RowKit

theorem noDue_fst : ∀ (l : List (List Ent × List Inv)) (k : Nat), (noDue l k).map Prod.fst = l.map Prod.fst
  | [], _ => rfl
  | _ :: _, 0 => rfl
  | p :: l, k + 1 => by
    show p.1 :: (noDue l k).map Prod.fst = p.1 :: l.map Prod.fst
    rw [noDue_fst l k]
/-- What is left of one: nothing that was waited for, and nothing new. -/
theorem waited_ents {xs ts : List Tl} {due : List Inv} {m : Nat} (h : held xs = noDue ((held ts).map (goneT due)) m) {x : Tl} (hx : x ∈ xs) {e : Ent} (he : e ∈ x.es) : goneE due e = false ∧ ∃ t ∈ ts, e ∈ t.es := by
  have h1 := congrArg (List.map Prod.fst) h
  rw [noDue_fst] at h1
  have h2 : x.es ∈ (held xs).map Prod.fst := by
    simp only [held, List.map_map, List.mem_map]
    exact ⟨x, hx, rfl⟩
  rw [h1] at h2
  simp only [held, List.map_map, List.mem_map] at h2
  obtain ⟨t, ht, h3⟩ := h2
  have h4 : e ∈ t.es.filter fun e => !goneE due e := by
    have h5 : (t.es.filter fun e => !goneE due e) = x.es := h3
    rw [h5]
    exact he
  rw [List.mem_filter] at h4
  exact ⟨by simpa using h4.2, t, ht, h4.1⟩
theorem gone_not {due : List Inv} {e : Ent} (h : goneE due e = false) {i : Inv} (hi : i ∈ due) : takesE i e = false := by
  unfold goneE at h
  rw [List.any_eq_false] at h
  simpa using h i hi
theorem waited_len {xs ts : List Tl} {due : List Inv} {m n : Nat} (h : held xs = noDue ((held ts).map (goneT due)) m) (hl : ∀ t ∈ ts, t.es.length + t.ds.length ≤ n) : ∀ x ∈ xs, x.es.length ≤ n := fun x hx => by
  have h1 := congrArg (List.map Prod.fst) h
  rw [noDue_fst] at h1
  have h2 : x.es ∈ (held xs).map Prod.fst := by
    simp only [held, List.map_map, List.mem_map]
    exact ⟨x, hx, rfl⟩
  rw [h1] at h2
  simp only [held, List.map_map, List.mem_map] at h2
  obtain ⟨t, ht, h3⟩ := h2
  have h5 : (t.es.filter fun e => !goneE due e) = x.es := h3
  have h6 := List.length_filter_le (fun e => !goneE due e) t.es
  rw [h5] at h6
  have := hl t ht
  omega
theorem noDue_snd : ∀ (l : List (List Ent × List Inv)) (k : Nat) (n : Nat), (∀ p ∈ l, p.2.length ≤ n) → ∀ p ∈ noDue l k, p.2.length ≤ n
  | [], _, _, _, p, hp => by cases hp
  | q :: l, 0, n, h, p, hp => by
    rcases List.mem_cons.1 hp with rfl | h2
    · exact Nat.zero_le _
    · exact h p (List.mem_cons_of_mem _ h2)
  | q :: l, k + 1, n, h, p, hp => by
    rcases List.mem_cons.1 hp with rfl | h2
    · exact h p (List.mem_cons_self ..)
    · exact noDue_snd l k n (fun r hr => h r (List.mem_cons_of_mem _ hr)) p h2
theorem waited_dues {xs ts : List Tl} {due : List Inv} {m n : Nat} (h : held xs = noDue ((held ts).map (goneT due)) m) (hl : ∀ t ∈ ts, t.es.length + t.ds.length ≤ n) : ∀ x ∈ xs, x.ds.length ≤ n := fun x hx => by
  have h2 : (x.es, x.ds) ∈ held xs := by
    simp only [held, List.mem_map]
    exact ⟨x, hx, rfl⟩
  rw [h] at h2
  refine noDue_snd _ m n (fun p hp => ?_) _ h2
  simp only [held, List.map_map, List.mem_map] at hp
  obtain ⟨t, ht, rfl⟩ := hp
  have := hl t ht
  show t.ds.length ≤ n
  omega
theorem held_ok {xs ts : List Tl} (h : held xs = held ts) : tlsOk xs = tlsOk ts := by
  have h1 : ∀ l : List Tl, tlsOk l = (held l).all fun p => tlbOk p.1 p.2 := fun l => by
    unfold tlsOk held
    rw [List.all_map]
    rfl
  rw [h1, h1, h]
theorem held_mem {xs ts : List Tl} (h : held xs = held ts) {x : Tl} (hx : x ∈ xs) : ∃ t ∈ ts, t.es = x.es ∧ t.ds = x.ds := by
  have h2 : (x.es, x.ds) ∈ held xs := by
    simp only [held, List.mem_map]
    exact ⟨x, hx, rfl⟩
  rw [h] at h2
  simp only [held, List.mem_map] at h2
  obtain ⟨t, ht, he⟩ := h2
  injection he with h3 h4
  exact ⟨t, ht, h3, h4⟩

set_option maxRecDepth 100000 in
set_option maxHeartbeats 16000000 in
theorem waits_walk (q : Ask) (w : World) (hq : AskAt w q) :
    Calls Try.prog 13 #[.agg q.cells.toArray] w fun e w' => e = .returned (.bool true) ∧ Below w.heap.size w w' := by
  have HHV := Lib.hid (fun W (hb : Below w.heap.size w W) => heavy10_any q W (hq.below hb))
  have HT := Lib.hid (show TlsAt w q.ta q.ts from ⟨hq.tat, fun t ht => (hq.tok t ht).at_⟩)
  have htl := hq.tlen
  clear hq
  obtain ⟨ta, tc, ts, ia, ic, is_, ea, ec, es⟩ := q
  simp only [Ask.cells] at *
  have HWA := Lib.hid (fun W => wakes10_any W)
  have HNU := Lib.hid (fun (n : Int) W => dnum_any n W)
  go_enter Try.func13, Try.ntmps13
  go_wp2_with fail
  refine (HHV.out _ (by repeat' (first | (with_reducible exact Below.refl _ _) | (with_reducible (refine Below.setCell ?_ ?_ _)) | (with_reducible (refine Below.alloc ?_ ?_ _)) | (with_reducible (refine Below.drew ?_)) | omega | (simp; done) | (simp; omega)))).mono ?_
  rintro e w1 ⟨b, hlight, rfl, hb1⟩
  have HLI := Lib.hid hlight
  clear hlight HHV
  have hs1 := hb1.size
  simp at hs1
  have hc1 := fun o => (bcell hb1).1 w.heap.size o (by simp)
  have hf1 := fun o => (bcell hb1).2.1 w.heap.size o (by simp)
  have hz1 : w.heap.size < w1.heap.size := by omega
  have HB1 := Lib.hid hb1
  clear hb1
  cases b
  case true =>
    go_wp2
    go_ret
    exact ⟨rfl, (by repeat' (first | (with_reducible exact Below.refl _ _) | (with_reducible (refine Below.setCell ?_ ?_ _)) | (with_reducible (refine Below.alloc ?_ ?_ _)) | (with_reducible (refine Below.drew ?_)) | (with_reducible (refine below_via ?_ HB1.out ?_)) | omega | (simp; done) | (simp; omega)))⟩
  case false =>
    obtain ⟨ht600, _, _, hw600⟩ := HLI.out rfl
    dsimp only at ht600 hw600
    have HW6 := Lib.hid hw600
    clear hw600 HLI
    go_wp2_with fail
    clear hc1 hf1
    have HX := Lib.hid (show w1.heap[w.heap.size]? = some (.cells #[.slice ta ts.length tc, .slice ia is_.length ic, .slice ea es.length ec] askT (0, 0)) from (by repeat (first | (with_reducible assumption) | (with_reducible refine heap_below_is HB1.out (by (first | omega | (simp; done) | (simp; omega))) ?_) | (exact heap_at _ _ (by simp; done)) | (with_reducible refine heap_old_is _ _ (by (first | omega | (simp; done) | (simp; omega))) ?_) | (with_reducible refine heap_far_is (by (first | omega | (simp; done) | (simp; omega))) ?_))))
    have HB := Lib.hid ((by repeat' (first | (with_reducible exact Below.refl _ _) | (with_reducible (refine Below.setCell ?_ ?_ _)) | (with_reducible (refine Below.alloc ?_ ?_ _)) | (with_reducible (refine Below.drew ?_)) | (with_reducible (refine below_via ?_ HB1.out ?_)) | omega | (simp; done) | (simp; omega))) : Below w.heap.size w w1)
    go_loopg [3] 6 (fun gg v wr => ∃ s : Int, -1 ≤ s ∧ s ≤ 5 ∧ gg = (5 - s).toNat ∧ v = .int .i64 s ∧ Below w1.heap.size w1 wr)
    case atStart => exact ⟨-1, by omega, by omega, rfl, rfl, Below.refl _ _⟩
    case round =>
      obtain ⟨s, hs0, hs5, hgs, rfl, hbw⟩ := hrel
      have HGS := Lib.hid hgs
      have HXR := Lib.hid ((hbw.block _ hz1).trans HX.out)
      have HBW := Lib.hid hbw
      have hsw := hbw.size
      clear hgs hbw
      have HBR := Lib.hid ((by repeat' (first | (with_reducible exact Below.refl _ _) | (with_reducible (refine Below.setCell ?_ ?_ _)) | (with_reducible (refine Below.alloc ?_ ?_ _)) | (with_reducible (refine Below.drew ?_)) | (with_reducible (refine below_via ?_ HBW.out ?_)) | (with_reducible (refine below_via ?_ HB.out ?_)) | omega | (simp; done) | (simp; omega))) : Below w.heap.size w wr)
      have e0 := cell_of_row _ _ 0 _ _ _ HXR.out
      have ef := fun j => frozen_of_row _ _ j _ _ HXR.out
      have hxl := heap_lt HXR.out
      by_cases hlt : s ≤ ts.length ∧ s < 5
      · obtain ⟨hlt, hlt5⟩ := hlt
        have hki : s ≤ (ts.length : Int) := hlt
        have q5 : decide (s < 5) = true := by simpa using hlt5
        have hsn : IntKind.i64.wrap (s + 1) = s + 1 := IntWalk.i64_in _ (by omega)
        have HCP := Lib.hid (CopyTLBs_any ta tc ts wr (HT.out.below HBR.out) (by omega) (fun t ht => by have := HW6.out t ht; omega))
       
        go_wp2_with fail
        refine Calls.mono (HCP.out) ?_
        rintro e w2 ⟨Ai, ci, ins, rfl, hio, hih, hb2⟩
        have hs2 := hb2.size
        try simp at hs2
        have hc2_0 := fun o => (bcell hb2).1 (w.heap.size) o (by first | omega | (simp; done) | (simp; omega))
        have hf2_0 := fun o => (bcell hb2).2.1 (w.heap.size) o (by first | omega | (simp; done) | (simp; omega))
        have hz2_0 := (bcell hb2).2.2 (w.heap.size) (by first | omega | (simp; done) | (simp; omega))
        have HB2 := Lib.hid hb2
        clear hb2
        have Hhio := Lib.hid hio
        clear hio
        have Hhih := Lib.hid hih
        clear hih
        have HIW := Lib.hid (show ∀ t ∈ ins, t.es.length + t.ds.length ≤ 600 from fun t ht => by
          obtain ⟨u, hu, e1, e2⟩ := held_mem Hhih.out ht
          have := HW6.out u hu
          rw [e1, e2] at this
          exact this)
        have hil := held_len Hhih.out
        have HIL := Lib.hid hil
        have hile : ins.length ≤ 600 := by omega
        clear hil
        have HIA := Lib.hid (Hhio.out.at_ (fun t ht => by have := HIW.out t ht; omega))
        have HXC := Lib.hid ((HB2.out.block _ hxl).trans HXR.out)
        have HBC := Lib.hid (show Below w.heap.size w w2 from (by repeat' (first | (with_reducible exact Below.refl _ _) | (with_reducible (refine Below.setCell ?_ ?_ _)) | (with_reducible (refine Below.alloc ?_ ?_ _)) | (with_reducible (refine Below.drew ?_)) | (with_reducible (refine below_via ?_ HB2.out ?_)) | (with_reducible (refine below_via ?_ HBR.out ?_)) | omega | (simp; done) | (simp; omega))))
        have hsc := HB2.out.size
        clear e0 ef hc2_0 hf2_0 hz2_0 HCP
       
        by_cases hok : tlsOk ts = true ∧ 0 ≤ s ∧ s < ts.length
        · obtain ⟨hok1, hok2, hok3⟩ := hok
          obtain ⟨m, rfl⟩ := Int.eq_ofNat_of_zero_le hok2
          have hm : m < ts.length := by omega
          have hmi : m < ins.length := by have := HIL.out; omega
          have HOK := Lib.hid hok1
          have hde := (held_get Hhih.out hmi hm).2
          have HWY := Lib.hid (Wait_yes Ai ci ins m w2 HIA.out (by omega) (by rw [held_ok Hhih.out]; exact hok1) hmi)
          rw [Hhih.out, hde] at HWY
          have HTL := Lib.hid (fun W (hb : Below w.heap.size w W) => rTLBs_any ta tc ts W (HT.out.below hb) (by omega))
          rw [hok1] at HTL
          have HNB := Lib.hid (fun W => num_any m ((ts.length : Int) - 1) W)
          rw [show numOk m ((ts.length : Int) - 1) = true by unfold numOk; simp; omega] at HNB
          have HRW := Lib.hid (fun W (hb : Below w.heap.size w W) => rWait_any ta tc ts m W (HT.out.below hb) (by omega) hok1 hm)
          clear hok1 hde
         
          go_wp2_with fail
          refine Calls.mono (HWY.out) ?_
          rintro e w3 ⟨Ax, cx, xs, rfl, hxr, hxh, hb3⟩
          have hs3 := hb3.size
          try simp at hs3
          have hc3_0 := fun o => (bcell hb3).1 (w.heap.size) o (by first | omega | (simp; done) | (simp; omega))
          have hf3_0 := fun o => (bcell hb3).2.1 (w.heap.size) o (by first | omega | (simp; done) | (simp; omega))
          have hz3_0 := (bcell hb3).2.2 (w.heap.size) (by first | omega | (simp; done) | (simp; omega))
          have HB3 := Lib.hid hb3
          clear hb3
          have Hhxr := Lib.hid hxr
          clear hxr
          have Hhxh := Lib.hid hxh
          clear hxh
          have HX3 := Lib.hid ((HB3.out.block _ (heap_lt HXC.out)).trans HXC.out)
          have HB3W := Lib.hid (show Below w.heap.size w w3 from (by repeat' (first | (with_reducible exact Below.refl _ _) | (with_reducible (refine Below.setCell ?_ ?_ _)) | (with_reducible (refine Below.alloc ?_ ?_ _)) | (with_reducible (refine Below.drew ?_)) | (with_reducible (refine below_via ?_ HB3.out ?_)) | (with_reducible (refine below_via ?_ HBC.out ?_)) | omega | (simp; done) | (simp; omega))))
          have x0 := cell_of_row _ _ 0 _ _ _ HX3.out
          have xf := fun j => frozen_of_row _ _ j _ _ HX3.out
          have hx3 := heap_lt HX3.out
          clear hc3_0 hf3_0 hz3_0 HWY
          have hw1 : IntKind.i64.wrap ((ts.length : Int) - 1) = (ts.length : Int) - 1 := IntWalk.i64_in _ (by omega)
         
          go_wp2_with fail
          refine Calls.mono (HTL.out _ HB3W.out) ?_
          rintro e w4 ⟨rfl, hb4⟩
          have hs4 := hb4.size
          try simp at hs4
          have hc4_0 := fun o => (bcell hb4).1 (w.heap.size) o (by first | omega | (simp; done) | (simp; omega))
          have hf4_0 := fun o => (bcell hb4).2.1 (w.heap.size) o (by first | omega | (simp; done) | (simp; omega))
          have hz4_0 := (bcell hb4).2.2 (w.heap.size) (by first | omega | (simp; done) | (simp; omega))
          have HB4 := Lib.hid hb4
          clear hb4
          go_wp2_with (go_at_call 46; refine (HNB.out _).mono ?_; rintro e w' ⟨rfl, hww⟩; have hww2 := hww.symm; clear hww; subst hww2)
          refine Calls.mono (HRW.out _ (below_via HB3W.out HB4.out HB3W.out.size)) ?_
          rintro e w5 ⟨Ay, cy, ys, rfl, hyr, hyh, hb5⟩
          have hs5 := hb5.size
          try simp at hs5
          have hc5_0 := fun o => (bcell hb5).1 (w.heap.size) o (by first | omega | (simp; done) | (simp; omega))
          have hf5_0 := fun o => (bcell hb5).2.1 (w.heap.size) o (by first | omega | (simp; done) | (simp; omega))
          have hz5_0 := (bcell hb5).2.2 (w.heap.size) (by first | omega | (simp; done) | (simp; omega))
          have HB5 := Lib.hid hb5
          clear hb5
          have Hhyr := Lib.hid hyr
          clear hyr
          have Hhyh := Lib.hid hyh
          clear hyh
         
          have HB5W := Lib.hid (show Below w.heap.size w w5 from (by repeat' (first | (with_reducible exact Below.refl _ _) | (with_reducible (refine Below.setCell ?_ ?_ _)) | (with_reducible (refine Below.alloc ?_ ?_ _)) | (with_reducible (refine Below.drew ?_)) | (with_reducible (refine below_via ?_ HB5.out ?_)) | (with_reducible (refine below_via ?_ HB4.out ?_)) | (with_reducible (refine below_via ?_ HB3W.out ?_)) | omega | (simp; done) | (simp; omega))))
          have HB52 := Lib.hid (show Below w2.heap.size w2 w5 from (by repeat' (first | (with_reducible exact Below.refl _ _) | (with_reducible (refine Below.setCell ?_ ?_ _)) | (with_reducible (refine Below.alloc ?_ ?_ _)) | (with_reducible (refine Below.drew ?_)) | (with_reducible (refine below_via ?_ HB5.out ?_)) | (with_reducible (refine below_via ?_ HB4.out ?_)) | (with_reducible (refine below_via ?_ HB3.out ?_)) | omega | (simp; done) | (simp; omega))))
          have HB53 := Lib.hid (show Below w3.heap.size w3 w5 from (by repeat' (first | (with_reducible exact Below.refl _ _) | (with_reducible (refine Below.setCell ?_ ?_ _)) | (with_reducible (refine Below.alloc ?_ ?_ _)) | (with_reducible (refine Below.drew ?_)) | (with_reducible (refine below_via ?_ HB5.out ?_)) | (with_reducible (refine below_via ?_ HB4.out ?_)) | omega | (simp; done) | (simp; omega))))
          have HX5 := Lib.hid ((HB53.out.block _ hx3).trans HX3.out)
          have HXW := Lib.hid (show ∀ x ∈ xs, x.es.length ≤ 600 ∧ x.ds.length ≤ 600 from fun x hx => ⟨waited_len Hhxh.out HW6.out x hx, waited_dues Hhxh.out HW6.out x hx⟩)
          have HYW := Lib.hid (show ∀ x ∈ ys, x.es.length ≤ 600 ∧ x.ds.length ≤ 600 from fun x hx => ⟨waited_len Hhyh.out HW6.out x hx, waited_dues Hhyh.out HW6.out x hx⟩)
          have HXY := Lib.hid (Hhxh.out.trans Hhyh.out.symm)
          have hxl6 : xs.length ≤ 600 := by
            have h1 := congrArg (List.map Prod.fst) Hhxh.out
            rw [noDue_fst] at h1
            have h2 := congrArg List.length h1
            simp [held] at h2
            omega
          have HXO := Lib.hid (Hhxr.out.below HB53.out)
          have HXA := Lib.hid (HXO.out.at_ (fun t ht => by have := HXW.out t ht; omega))
          have HYA := Lib.hid (Hhyr.out.at_ (fun t ht => by have := HYW.out t ht; omega))
          have HI5 := Lib.hid (HIA.out.below HB52.out)
          have HT5 := Lib.hid (HT.out.below HB5W.out)
          have HEXY := Lib.hid (fun W (hb : Below w5.heap.size w5 W) => EqTLBs_same Ax Ay cx cy xs ys W (HXA.out.below hb) (HYA.out.below hb) HXY.out (by omega))
          have HEIT := Lib.hid (fun W (hb : Below w5.heap.size w5 W) => EqTLBs_same Ai ta ci tc ins ts W (HI5.out.below hb) (HT5.out.below hb) Hhih.out (by omega))
          clear x0 xf hc4_0 hf4_0 hz4_0 hc5_0 hf5_0 hz5_0 HTL HNB HRW Hhxr Hhyr
          have x0 := cell_of_row _ _ 0 _ _ _ HX5.out
          have xf := fun j => frozen_of_row _ _ j _ _ HX5.out
          have hx5 := heap_lt HX5.out
         
          go_wp2_with (go_at_call 24; refine (HNU.out _ _).mono ?_; rintro e w' ⟨rfl, hww⟩; have hww2 := hww.symm; clear hww; subst hww2)
          refine Calls.mono (HEXY.out _ (Below.refl _ _)) ?_
          rintro e w6 ⟨rfl, hb6⟩
          have hs6 := hb6.size
          try simp at hs6
          have hc6_0 := fun o => (bcell hb6).1 (w.heap.size) o (by first | omega | (simp; done) | (simp; omega))
          have hf6_0 := fun o => (bcell hb6).2.1 (w.heap.size) o (by first | omega | (simp; done) | (simp; omega))
          have hz6_0 := (bcell hb6).2.2 (w.heap.size) (by first | omega | (simp; done) | (simp; omega))
          have HB6 := Lib.hid hb6
          clear hb6
          go_wp2_with fail
          refine Calls.mono (HEIT.out _ HB6.out) ?_
          rintro e w7 ⟨rfl, hb7⟩
          have hs7 := hb7.size
          try simp at hs7
          have HB7 := Lib.hid hb7
          clear hb7
         
          have HB75 := Lib.hid (below_via HB6.out HB7.out HB6.out.size)
          have HX7 := Lib.hid ((HB75.out.block _ hx5).trans HX5.out)
          have HB7W := Lib.hid (show Below w.heap.size w w7 from (by repeat' (first | (with_reducible exact Below.refl _ _) | (with_reducible (refine Below.setCell ?_ ?_ _)) | (with_reducible (refine Below.alloc ?_ ?_ _)) | (with_reducible (refine Below.drew ?_)) | (with_reducible (refine below_via ?_ HB75.out ?_)) | (with_reducible (refine below_via ?_ HB5W.out ?_)) | omega | (simp; done) | (simp; omega))))
          have hx7 := heap_lt HX7.out
          clear x0 xf hc6_0 hf6_0 hz6_0 HEXY HEIT
          go_wp2_with fail
          have HX7A := Lib.hid (HXA.out.below HB75.out)
         
          obtain ⟨wo, rfl⟩ : ∃ wo : World, wo = wr := ⟨_, rfl⟩
          go_loopg [9] xs.length (fun gg v wr => ∃ i : Nat, i ≤ xs.length ∧ gg = xs.length - i ∧ v = .int .i64 i ∧ Below w7.heap.size w7 wr)
          case atStart => exact ⟨0, Nat.zero_le _, rfl, rfl, Below.refl _ _⟩
          case round =>
            obtain ⟨i, hi, hgi, rfl, hbi⟩ := hrel
            have HGI := Lib.hid hgi
            have HBI := Lib.hid hbi
            have hsi := hbi.size
            clear hgi hbi
            by_cases hilt : i < xs.length
            · have hii : (i : Int) < xs.length := by omega
              have hxw := HXW.out xs[i] (List.getElem_mem hilt)
              have HXI := Lib.hid (show ∀ e ∈ xs[i].es, goneE ts[m].ds e = false ∧ entOk e = true from fun e he => by
                obtain ⟨h1, t, ht, h2⟩ := waited_ents Hhxh.out (List.getElem_mem hilt) he
                obtain ⟨j, hj, rfl⟩ := List.getElem_of_mem ht
                exact ⟨h1, (tlbOk_ents (tlsOk_at HOK.out hj)).2.2.1 e h2⟩)
              have HXE := Lib.hid (HX7A.out.each xs[i] (List.getElem_mem hilt)).eat
              have HTC := Lib.hid (fun W (hb : Below w7.heap.size w7 W) => tl_cells HX7A.out.row hb hilt)
              generalize xs[i] = x at *
              obtain ⟨xa, xc, xe, xd, xf2, xg⟩ := x
              dsimp only at hxw HXI HXE HTC
              go_wp2_with fail
              obtain ⟨wp, rfl⟩ : ∃ wp : World, wp = wr := ⟨_, rfl⟩
              go_loopg [10] xe.length (fun gg v wr => ∃ k : Nat, k ≤ xe.length ∧ gg = xe.length - k ∧ v = .int .i64 k ∧ Below w7.heap.size w7 wr)
              case atStart => exact ⟨0, Nat.zero_le _, rfl, rfl, HBI.out⟩
              case round =>
                obtain ⟨k, hk, hgk, rfl, hbk⟩ := hrel
                have HGK := Lib.hid hgk
                have HBK := Lib.hid hbk
                have hsk := hbk.size
                clear hgk hbk
                obtain ⟨bx, ox, hbe, hbx, c0, c1⟩ := HTC.out _ HBK.out
                subst hbe
                clear c1
                by_cases hklt : k < xe.length
                · have hkk : (k : Int) < xe.length := by omega
                  go_wp2_with fail
                  clear c0
                  obtain ⟨wq, rfl⟩ : ∃ wq : World, wq = wr := ⟨_, rfl⟩
                  go_loopg [11] ts[m].ds.length (fun gg v wr => ∃ j : Nat, j ≤ ts[m].ds.length ∧ gg = ts[m].ds.length - j ∧ v = .int .i64 j ∧ Below w7.heap.size w7 wr)
                  case atStart => exact ⟨0, Nat.zero_le _, rfl, rfl, HBK.out⟩
                  case round =>
                    obtain ⟨j, hj, hgj, rfl, hbj⟩ := hrel
                    have HGJ := Lib.hid hgj
                    have HBJ := Lib.hid hbj
                    have hsj := hbj.size
                    clear hgj hbj
                    have HXJ := Lib.hid ((HBJ.out.block _ hx7).trans HX7.out)
                    have x0 := cell_of_row _ _ 0 _ _ _ HXJ.out
                    have xf := fun j => frozen_of_row _ _ j _ _ HXJ.out
                    have hxj := heap_lt HXJ.out
                    have HBJW := Lib.hid (show Below w.heap.size w wr from (by repeat' (first | (with_reducible exact Below.refl _ _) | (with_reducible (refine Below.setCell ?_ ?_ _)) | (with_reducible (refine Below.alloc ?_ ?_ _)) | (with_reducible (refine Below.drew ?_)) | (with_reducible (refine below_via ?_ HBJ.out ?_)) | (with_reducible (refine below_via ?_ HB7W.out ?_)) | omega | (simp; done) | (simp; omega))))
                    obtain ⟨bt, ot, hte, hbt, d0, d1⟩ := tl_cells HT.out.row HBJW.out hm
                    subst hte
                    clear d0
                    have hmt : (m : Int) < ts.length := by omega
                    have HTD := Lib.hid (HT.out.each ts[m] (List.getElem_mem hm)).dat
                    have HDO := Lib.hid (tlbOk_ents (tlsOk_at HOK.out hm)).2.2.2
                    have hm6 := HW6.out ts[m] (List.getElem_mem hm)
                    generalize ts[m] = tm at *
                    obtain ⟨ma, mc, me, md, mf, mg⟩ := tm
                    dsimp only at *
                    by_cases hjlt : j < mg.length
                    · have hjj : (j : Int) < mg.length := by omega
                      obtain ⟨bd, od, hde, hbd, hdc⟩ := at_cells HTD.out HBJW.out hjlt
                      subst hde
                      obtain ⟨be, oe, hee, hbe, hec⟩ := at_cells HXE.out HBJ.out hklt
                      subst hee
                      obtain ⟨bx2, ox2, hbe2, hbx2, c0, c1⟩ := HTC.out _ HBJ.out
                      injection hbe2 with hbe2
                      injection hbe2 with hbe2 hbe3
                      subst hbe2 hbe3
                      clear c1
                      have hgo := HXI.out xe[k] (List.getElem_mem hklt)
                      have hdo := HDO.out mg[j] (List.getElem_mem hjlt)
                      have HTK := Lib.hid (fun W => rtakes_any mg[j] xe[k] W hgo.2 (dueOk_page hdo).1 (dueOk_page hdo).2)
                      rw [gone_not hgo.1 (List.getElem_mem hjlt)] at HTK
                      clear hgo hdo
                      generalize mg[j] = du at *
                      generalize xe[k] = en at *
                      obtain ⟨a0, a1, a2, a3, a4, a5, a6, a7, a8, a9, a10, a11, a12, a13⟩ := en
                      obtain ⟨b0, b1, b2, b3⟩ := du
                      dsimp only [Ent.cells, Inv.cells] at *
                      have f0 := hec 0 _ rfl
                      have f1 := hec 1 _ rfl
                      have f2 := hec 2 _ rfl
                      have f3 := hec 3 _ rfl
                      have f4 := hec 4 _ rfl
                      have f5 := hec 5 _ rfl
                      have f6 := hec 6 _ rfl
                      have f7 := hec 7 _ rfl
                      have f8 := hec 8 _ rfl
                      have f9 := hec 9 _ rfl
                      have f10 := hec 10 _ rfl
                      have f11 := hec 11 _ rfl
                      have f12 := hec 12 _ rfl
                      have f13 := hec 13 _ rfl
                      have i0 := hdc 0 _ rfl
                      have i1 := hdc 1 _ rfl
                      have i2 := hdc 2 _ rfl
                      have i3 := hdc 3 _ rfl
                      simp only [Nat.add_zero] at f0 i0
                      clear hec hdc
                      have hbr1 : bt < wr.heap.size := by have := HBJW.out.size; omega
                      have hbr2 : bd < wr.heap.size := by have := HBJW.out.size; omega
                      have hbr3 : be < wr.heap.size := by omega
                      have hbr4 : bx < wr.heap.size := by omega
                     
                      go_upto_region 24 with fail
                      refine wp_region_class (fun w' => Below (wr.heap.size) (wr) w') (by kernel_rfl) (by kernel_rfl) (Below.refl _ _).drew ?_
                      repeat (first
                        | (refine wpLex_pass (by rfl) passes_plain ?_; (conv => arg 9; simp only [put_lit, put_lit_none, List.set]))
                        | (refine wpLex_plain (by rfl) ?_
                           apply Exists.intro
                           refine ⟨?_, ?_⟩
                           · intro w' hb
                             have hsz := hb.size
                             try simp at hsz
                             have hcw := fun b o (h : b < wr.heap.size) => hb.cell (p := ⟨b, o, none⟩) h
                             have hfw := fun b o (h : b < wr.heap.size) => hb.frozen (p := ⟨b, o, none⟩) h
                             go_simp
                             first
                               | exact ⟨rfl, hb⟩
                               | exact rfl
                               | ((with_reducible refine Calls.mono (HTK.out _) ?_); rintro e w2 ⟨rfl, hb2⟩; exact ⟨_, rfl, rfl, hb.trans (hb2.mono hsz)⟩)
                           conv => arg 9; simp only [put_lit, put_lit_none, List.set]))
                      refine wpLex_nil ?_
                      intro wg hbg
                      have hsg := hbg.size
                      try simp at hsg
                      have hcg := fun b o (h : b < wr.heap.size) => hbg.cell (p := ⟨b, o, none⟩) h
                      have hfg := fun b o (h : b < wr.heap.size) => hbg.frozen (p := ⟨b, o, none⟩) h
                      have HBg := Lib.hid hbg
                      clear hbg
                      clear hcg hfg x0 xf c0 d1 f0 f1 f2 f3 f4 f5 f6 f7 f8 f9 f10 f11 f12 f13 i0 i1 i2 i3
                     
                      go_wp2_with fail
                      go_roundg (mg.length - (j + 1))
                      case rel => exact ⟨j + 1, by omega, rfl, by go_num, below_via HBJ.out HBg.out HBJ.out.size⟩
                      case measure => have := HGJ.out; omega
                    · have hjj : ¬ (j : Int) < mg.length := by omega
                     
                      go_wp2_with fail
                      go_roundg (xe.length - (k + 1))
                      case rel => exact ⟨k + 1, by omega, rfl, by go_num, HBJ.out⟩
                      case measure => have := HGK.out; omega
                · have hkk : ¬ (k : Int) < xe.length := by omega
                 
                  go_wp2_with fail
                  go_roundg (xs.length - (i + 1))
                  case rel => exact ⟨i + 1, by omega, rfl, by go_num, HBK.out⟩
                  case measure => have := HGI.out; omega
            · have hii : ¬ (i : Int) < xs.length := by omega
              have HXO7 := Lib.hid (HXO.out.below (below_via HB75.out HBI.out HB75.out.size))
              have HSC := Lib.hid (scrawls_any w2.heap.size Ax cx xs wr (HXO7.out) (by omega) (fun t ht => by have := HXW.out t ht; omega) (by have := HB52.out.size; have := HB75.out.size; omega))
             
              go_wp2_with fail
              refine Calls.mono (HSC.out) ?_
              rintro e w8 ⟨rfl, hb8⟩
              have hs8 := hb8.size
              try simp at hs8
              have HB8 := Lib.hid hb8
              clear hb8
             
              have HB82 := Lib.hid (show Below w2.heap.size w2 w8 from HB52.out.trans ((HB75.out.mono (HB52.out.size)).trans ((HBI.out.mono (Nat.le_trans HB52.out.size HB75.out.size)).trans HB8.out)))
              have HB8W := Lib.hid (below_via HBC.out HB82.out HBC.out.size)
              have HX8 := Lib.hid ((HB82.out.block _ (heap_lt HXC.out)).trans HXC.out)
              have x0 := cell_of_row _ _ 0 _ _ _ HX8.out
              have xf := fun j => frozen_of_row _ _ j _ _ HX8.out
              have hx8 := heap_lt HX8.out
              have HEIT := Lib.hid (EqTLBs_same Ai ta ci tc ins ts w8 (HIA.out.below HB82.out) (HT.out.below HB8W.out) Hhih.out (by omega))
              go_wp2_with fail
              refine Calls.mono (HEIT.out) ?_
              rintro e w9 ⟨rfl, hb9⟩
              have hs9 := hb9.size
              try simp at hs9
              have HB9 := Lib.hid hb9
              clear hb9
              clear x0 xf
             
              go_wp2_with fail
              go_roundg ((5 - ((m : Int) + 1)).toNat)
              case rel => exact ⟨(m : Int) + 1, by omega, by omega, rfl, rfl, (by repeat' (first | (with_reducible exact Below.refl _ _) | (with_reducible (refine Below.setCell ?_ ?_ _)) | (with_reducible (refine Below.alloc ?_ ?_ _)) | (with_reducible (refine Below.drew ?_)) | (with_reducible (refine below_via ?_ HB9.out ?_)) | (with_reducible (refine below_via ?_ HB82.out ?_)) | (with_reducible (refine below_via ?_ HB2.out ?_)) | (with_reducible (refine below_via ?_ HBW.out ?_)) | omega | (simp; done) | (simp; omega)))⟩
              case measure => have := HGS.out; omega
        · have HNO := Lib.hid (Wait_no Ai ci ins s w2 HIA.out (by omega) (by
            rw [held_ok Hhih.out, HIL.out]
            cases hk : tlsOk ts
            · rfl
            · rw [hk] at hok
              simp at hok ⊢
              omega))
          have HTL := Lib.hid (fun W (hb : Below w.heap.size w W) => rTLBs_any ta tc ts W (HT.out.below hb) (by omega))
          have HNB := Lib.hid (fun W => num_any s ((ts.length : Int) - 1) W)
          have hw1 : IntKind.i64.wrap ((ts.length : Int) - 1) = (ts.length : Int) - 1 := IntWalk.i64_in _ (by omega)
          obtain ⟨g1, hg1⟩ : ∃ g, tlsOk ts = g := ⟨_, rfl⟩
          obtain ⟨g2, hg2⟩ : ∃ g, numOk s ((ts.length : Int) - 1) = g := ⟨_, rfl⟩
          have hgg : (g1 && g2) = false := by
            rw [← hg1, ← hg2]
            cases hk : tlsOk ts
            · rfl
            · rw [hk] at hok
              unfold numOk
              simp at hok ⊢
              omega
          rw [hg1] at HTL
          rw [hg2] at HNB
          clear hg1 hg2 hok
          have HEN := Lib.hid (fun W => EqTLBs_same none none 0 0 [] [] W ⟨fun h => absurd h (Nat.lt_irrefl 0), fun t ht => by cases ht⟩ ⟨fun h => absurd h (Nat.lt_irrefl 0), fun t ht => by cases ht⟩ rfl (Nat.zero_le _))
         
          go_wp2_with fail
          refine Calls.mono (HNO.out) ?_
          rintro e w3 ⟨rfl, hb3⟩
          have hs3 := hb3.size
          try simp at hs3
          have hc3_0 := fun o => (bcell hb3).1 (w.heap.size) o (by first | omega | (simp; done) | (simp; omega))
          have hf3_0 := fun o => (bcell hb3).2.1 (w.heap.size) o (by first | omega | (simp; done) | (simp; omega))
          have hz3_0 := (bcell hb3).2.2 (w.heap.size) (by first | omega | (simp; done) | (simp; omega))
          have HB3 := Lib.hid hb3
          clear hb3
          have HX3 := Lib.hid ((HB3.out.block _ (heap_lt HXC.out)).trans HXC.out)
          have HB3W := Lib.hid (show Below w.heap.size w w3 from (by repeat' (first | (with_reducible exact Below.refl _ _) | (with_reducible (refine Below.setCell ?_ ?_ _)) | (with_reducible (refine Below.alloc ?_ ?_ _)) | (with_reducible (refine Below.drew ?_)) | (with_reducible (refine below_via ?_ HB3.out ?_)) | (with_reducible (refine below_via ?_ HBC.out ?_)) | omega | (simp; done) | (simp; omega))))
          have x0 := cell_of_row _ _ 0 _ _ _ HX3.out
          have xf := fun j => frozen_of_row _ _ j _ _ HX3.out
          have hx3 := heap_lt HX3.out
          clear hc3_0 hf3_0 hz3_0 HNO
          go_upto_region 10 with fail
         
          go_cut [44] from 44 to 44 (fun v W => v = .bool false ∧ Below w3.heap.size w3 W)
          case first =>
            cases g1
            · go_wp2_with fail
              refine Calls.mono (HTL.out _ HB3W.out) ?_
              rintro e w4 ⟨rfl, hb4⟩
              have hs4 := hb4.size
              try simp at hs4
              have hc4_0 := fun o => (bcell hb4).1 (w.heap.size) o (by first | omega | (simp; done) | (simp; omega))
              have hf4_0 := fun o => (bcell hb4).2.1 (w.heap.size) o (by first | omega | (simp; done) | (simp; omega))
              have hz4_0 := (bcell hb4).2.2 (w.heap.size) (by first | omega | (simp; done) | (simp; omega))
              have HB4 := Lib.hid hb4
              clear hb4
              go_wp2_with fail
              go_meet
              case rel => exact ⟨rfl, HB4.out⟩
            · obtain rfl : g2 = false := by simpa using hgg
              go_wp2_with fail
              refine Calls.mono (HTL.out _ HB3W.out) ?_
              rintro e w4 ⟨rfl, hb4⟩
              have hs4 := hb4.size
              try simp at hs4
              have hc4_0 := fun o => (bcell hb4).1 (w.heap.size) o (by first | omega | (simp; done) | (simp; omega))
              have hf4_0 := fun o => (bcell hb4).2.1 (w.heap.size) o (by first | omega | (simp; done) | (simp; omega))
              have hz4_0 := (bcell hb4).2.2 (w.heap.size) (by first | omega | (simp; done) | (simp; omega))
              have HB4 := Lib.hid hb4
              clear hb4
              go_wp2_with (go_at_call 46; refine (HNB.out _).mono ?_; rintro e w' ⟨rfl, hww⟩; have hww2 := hww.symm; clear hww; subst hww2)
              go_meet
              case rel => exact ⟨rfl, HB4.out⟩
          case rest =>
           
            obtain ⟨rfl, hbc⟩ := hcut
            obtain ⟨w5, rfl⟩ : ∃ w5 : World, w5 = wc := ⟨_, rfl⟩
            have HB53 := Lib.hid hbc
            have hs53 := hbc.size
            clear hbc x0 xf
            have HX5 := Lib.hid ((HB53.out.block _ hx3).trans HX3.out)
            have HB5W := Lib.hid (show Below w.heap.size w w5 from (by repeat' (first | (with_reducible exact Below.refl _ _) | (with_reducible (refine Below.setCell ?_ ?_ _)) | (with_reducible (refine Below.alloc ?_ ?_ _)) | (with_reducible (refine Below.drew ?_)) | (with_reducible (refine below_via ?_ HB53.out ?_)) | (with_reducible (refine below_via ?_ HB3W.out ?_)) | omega | (simp; done) | (simp; omega))))
            have HB52 := Lib.hid (below_via HB3.out HB53.out HB3.out.size)
            have HEIT := Lib.hid (fun W (hb : Below w5.heap.size w5 W) => EqTLBs_same Ai ta ci tc ins ts W ((HIA.out.below HB52.out).below hb) ((HT.out.below HB5W.out).below hb) Hhih.out (by omega))
            have x0 := cell_of_row _ _ 0 _ _ _ HX5.out
            have xf := fun j => frozen_of_row _ _ j _ _ HX5.out
            have hx5 := heap_lt HX5.out
            go_wp2_with (go_at_call 24; refine (HNU.out _ _).mono ?_; rintro e w' ⟨rfl, hww⟩; have hww2 := hww.symm; clear hww; subst hww2)
            refine Calls.mono (HEN.out _) ?_
            rintro e w6 ⟨rfl, hb6⟩
            have hs6 := hb6.size
            try simp at hs6
            have hc6_0 := fun o => (bcell hb6).1 (w.heap.size) o (by first | omega | (simp; done) | (simp; omega))
            have hf6_0 := fun o => (bcell hb6).2.1 (w.heap.size) o (by first | omega | (simp; done) | (simp; omega))
            have hz6_0 := (bcell hb6).2.2 (w.heap.size) (by first | omega | (simp; done) | (simp; omega))
            have HB6 := Lib.hid hb6
            clear hb6
            go_wp2_with fail
            refine Calls.mono (HEIT.out _ HB6.out) ?_
            rintro e w7 ⟨rfl, hb7⟩
            have hs7 := hb7.size
            try simp at hs7
            have HB7 := Lib.hid hb7
            clear hb7
            clear x0 xf hc6_0 hf6_0 hz6_0
           
            go_wp2_with fail
            go_roundg ((5 - (s + 1)).toNat)
            case rel => exact ⟨s + 1, by omega, by omega, rfl, rfl, (by repeat' (first | (with_reducible exact Below.refl _ _) | (with_reducible (refine Below.setCell ?_ ?_ _)) | (with_reducible (refine Below.alloc ?_ ?_ _)) | (with_reducible (refine Below.drew ?_)) | (with_reducible (refine below_via ?_ HB7.out ?_)) | (with_reducible (refine below_via ?_ HB6.out ?_)) | (with_reducible (refine below_via ?_ HB52.out ?_)) | (with_reducible (refine below_via ?_ HB2.out ?_)) | (with_reducible (refine below_via ?_ HBW.out ?_)) | omega | (simp; done) | (simp; omega)))⟩
            case measure => have := HGS.out; omega
      ·
        by_cases hka : s ≤ ts.length
        · obtain rfl : s = 5 := by omega
          have hki : (5 : Int) ≤ ts.length := hka
          go_wp2_with fail
          refine Calls.mono (HWA.out _) ?_
          rintro e w5 ⟨rfl, hb5⟩
          have hs5 := hb5.size
          try simp at hs5
          have HB5 := Lib.hid hb5
          clear hb5
          go_wp2
          go_ret
          exact ⟨rfl, (by repeat' (first | (with_reducible exact Below.refl _ _) | (with_reducible (refine Below.setCell ?_ ?_ _)) | (with_reducible (refine Below.alloc ?_ ?_ _)) | (with_reducible (refine Below.drew ?_)) | (with_reducible (refine below_via ?_ HB5.out ?_)) | (with_reducible (refine below_via ?_ HBR.out ?_)) | omega | (simp; done) | (simp; omega)))⟩
        · have hki : ¬ s ≤ (ts.length : Int) := hka
          go_wp2_with fail
          refine Calls.mono (HWA.out _) ?_
          rintro e w5 ⟨rfl, hb5⟩
          have hs5 := hb5.size
          try simp at hs5
          have HB5 := Lib.hid hb5
          clear hb5
          go_wp2
          go_ret
          exact ⟨rfl, (by repeat' (first | (with_reducible exact Below.refl _ _) | (with_reducible (refine Below.setCell ?_ ?_ _)) | (with_reducible (refine Below.alloc ?_ ?_ _)) | (with_reducible (refine Below.drew ?_)) | (with_reducible (refine below_via ?_ HB5.out ?_)) | (with_reducible (refine below_via ?_ HBR.out ?_)) | omega | (simp; done) | (simp; omega)))⟩

end Go.Proofs.Ytbaninglcafhhaa
