/-
  'PermBoths' returns true, and of what was there nothing has turned. Conditions: the asks read as such.
-/
import Derived.Test.YtjbjepjbnklccaaPermLess
import Derived.Test.YtjbjepjbnklccaaNew
import Derived.Deep.Cut
namespace Go.Proofs.Ytjbjepjbnklccaa
open Go.RowKit

theorem both_eq (l : List Attr) : both l = ⟨l.all (·.r), l.all (·.w), l.all (·.x), l.all (·.af), l.any (·.ng), 0⟩ := by
  have h : ∀ (l : List Attr) (o : Attr), l.foldl both1 o = ⟨o.r && l.all (·.r), o.w && l.all (·.w), o.x && l.all (·.x), o.af && l.all (·.af), o.ng || l.any (·.ng), o.soft⟩ := by
    intro l
    induction l with
    | nil => intro o; cases o; simp
    | cons a l ih =>
      intro o
      simp only [List.foldl_cons, ih, both1, List.all_cons, List.any_cons, Bool.and_assoc, Bool.or_assoc]
  unfold both
  rw [h]
  simp
theorem both_reverse (l : List Attr) : both l.reverse = both l := by
  rw [both_eq, both_eq]
  simp

/-- A row of the call's own, as a slice that reads. -/
theorem own_at {B : Nat} {w : World} {v : Value} {n : Nat} {l : List Attr} {xs : List Value} (h : w.ownsRow B attrT 6 v n xs) (hn : n = l.length) (hx : xs = l.flatMap Attr.cells) :
    ∃ A c, v = .slice A l.length c ∧ At w A 6 Attr.cells l := by
  subst hn hx
  rcases h.2 with ⟨rfl, h0⟩ | ⟨g, cap, cur, rfl, _⟩
  · refine ⟨none, 0, by rw [h0], fun hp => by omega⟩
  · exact ⟨_, _, rfl, At.of_own h attr_len⟩

theorem reads_new1 (w : World) (r x y f z : Bool) (s : Int) : Reads (w.alloc (.cells #[.bool r, .bool x, .bool y, .bool f, .bool z, .int .i64 s] attrT)) (w.heap.size + 1) 6 (some ⟨w.heap.size, 0, none⟩) 1 [.bool r, .bool x, .bool y, .bool f, .bool z, .int .i64 s] := by
  refine ⟨rfl, fun _ => ⟨_, rfl, by simp, fun j u hu => ?_⟩⟩
  have e1 : (⟨w.heap.size, 0, none⟩ : Addr).add j = ⟨w.heap.size, j, none⟩ := by
    unfold Addr.add
    by_cases h : j = 0 <;> simp [h]
  rw [e1, cell_of_row _ _ j _ _ _ (heap_new w _), ← hu]
  simp
theorem take_rev (l : List Attr) (m kk : Nat) (h : kk + m + 1 = l.length) (hk : kk < l.length) : l.reverse.take (m + 1) = l.reverse.take m ++ [l[kk]] := by
  rw [List.take_succ_eq_append_getElem (by simp; omega)]
  congr 2
  rw [List.getElem_reverse]
  congr 1
  omega
theorem attr_one1 (r x y f z : Bool) (s : Int) : ∀ u ∈ ([.bool r, .bool x, .bool y, .bool f, .bool z, .int .i64 s] : List Value), u.oneCell' = true := by
  intro u hu
  simp only [List.mem_cons, List.not_mem_nil, or_false] at hu
  rcases hu with rfl | rfl | rfl | rfl | rfl | rfl <;> rfl
theorem six_facts {w : World} {b o : Nat} {a : Attr} (h : ∀ j u, (a.cells)[j]? = some u → w.cell? ⟨b, o + j, none⟩ = some u) :
    w.cell? ⟨b, o, none⟩ = some (.bool a.r) ∧ w.cell? ⟨b, o + 1, none⟩ = some (.bool a.w) ∧ w.cell? ⟨b, o + 2, none⟩ = some (.bool a.x) ∧ w.cell? ⟨b, o + 3, none⟩ = some (.bool a.af) ∧ w.cell? ⟨b, o + 4, none⟩ = some (.bool a.ng) ∧ w.cell? ⟨b, o + 5, none⟩ = some (.int .i64 a.soft) :=
  ⟨h 0 _ rfl, h 1 _ rfl, h 2 _ rfl, h 3 _ rfl, h 4 _ rfl, h 5 _ rfl⟩

theorem own_below {w w' : World} {B n : Nat} {e : TypeId} {size : Nat} {v : Value} {xs : List Value} (h : w.ownsRow B e size v n xs) (hb : Below w.heap.size w w') : w'.ownsRow B e size v n xs := by
  refine ⟨h.1, ?_⟩
  rcases h.2 with h2 | ⟨g, cap, cur, hv, hg, hh, r⟩
  · exact .inl h2
  · exact .inr ⟨g, cap, cur, hv, hg, (hb.block g (heap_lt hh)).trans hh, r⟩

theorem two_list (l : List Attr) (h : l.length = 2) : [l[0], l[1]] = l := by
  match l, h with
  | [a, b], _ => rfl

theorem at_two {w : World} {g : Nat} {r0 x0 y0 f0 z0 r1 x1 y1 f1 z1 : Bool} {s0 s1 : Int} (h : w.heap[g]? = some (.cells #[.bool r0, .bool x0, .bool y0, .bool f0, .bool z0, .int .i64 s0, .bool r1, .bool x1, .bool y1, .bool f1, .bool z1, .int .i64 s1] attrT (0, 0))) :
    At w (some ⟨g, 0, none⟩) 6 Attr.cells [⟨r0, x0, y0, f0, z0, s0⟩, ⟨r1, x1, y1, f1, z1, s1⟩] := by
  intro _
  refine ⟨g, 0, rfl, heap_lt h, fun i hi j u hu => ?_⟩
  rw [cell_of_row _ _ _ _ _ _ h]
  have hj : j < 6 := by
    have := (List.getElem?_eq_some_iff.1 hu).1
    exact this
  match i, hi with
  | 0, _ =>
    match j, hj with
    | 0, _ => exact hu
    | 1, _ => exact hu
    | 2, _ => exact hu
    | 3, _ => exact hu
    | 4, _ => exact hu
    | 5, _ => exact hu
  | 1, _ =>
    match j, hj with
    | 0, _ => exact hu
    | 1, _ => exact hu
    | 2, _ => exact hu
    | 3, _ => exact hu
    | 4, _ => exact hu
    | 5, _ => exact hu

theorem x_facts {w : World} {g : Nat} {r x y f z : Bool} {s : Int} (h : w.heap[g]? = some (.cells #[.bool r, .bool x, .bool y, .bool f, .bool z, .int .i64 s] attrT (0, 0))) :
    w.cell? ⟨g, 0, none⟩ = some (.bool r) ∧ w.cell? ⟨g, 1, none⟩ = some (.bool x) ∧ w.cell? ⟨g, 2, none⟩ = some (.bool y) ∧ w.cell? ⟨g, 3, none⟩ = some (.bool f) ∧ w.cell? ⟨g, 4, none⟩ = some (.bool z) ∧ w.cell? ⟨g, 5, none⟩ = some (.int .i64 s) :=
  ⟨cell_of_row _ _ 0 _ _ _ h, cell_of_row _ _ 1 _ _ _ h, cell_of_row _ _ 2 _ _ _ h, cell_of_row _ _ 3 _ _ _ h, cell_of_row _ _ 4 _ _ _ h, cell_of_row _ _ 5 _ _ _ h⟩

set_option maxRecDepth 100000 in
set_option maxHeartbeats 2000000 in
theorem permBoths_walk (A : Option Addr) (c : Nat) (asks : List Ask) (w : World) (hn : asks.length ≤ maxLen) (hA : At w A 5 Ask.cells asks) (hq : ∀ q ∈ asks, AskAt w q) :
    Calls Try.prog 3 #[.slice A asks.length c] w fun e w' => e = .returned (.bool true) ∧ Below w.heap.size w w' := by
  unfold maxLen at hn
  obtain ⟨i0, hi0, hz0, hz1, hz2⟩ := info_parts attr_info
  have HA := Lib.hid hA
  have HQ := Lib.hid hq
  clear hA hq
  go_enter Try.func3, Try.ntmps3
  go_wp2
  go_loopw [3] (fun i wr => ∃ k : Nat, k ≤ asks.length ∧ i = .int .i64 k ∧ Below w.heap.size w wr) (fun i _ => asks.length - (intOf i).toNat)
  case atStart => exact ⟨0, Nat.zero_le _, rfl, Below.refl _ _⟩
  case round =>
    obtain ⟨k, hk, rfl, hb⟩ := hrel
    have HB := Lib.hid hb
    clear hb
    by_cases hlt : k < asks.length
    · by_cases h15 : k < 15
      · have q15 : decide ((k : Int) < 15) = true := by simp; omega
        obtain ⟨b, off, rfl, hbl, hc⟩ := HA.out (by omega)
        obtain ⟨hl, hat⟩ := HQ.out asks[k] (List.getElem_mem hlt)
        have HL := Lib.hid (show w.cell? ⟨b, off + k * 5, none⟩ = some (.slice asks[k].addr asks[k].l.length asks[k].cap) from hc k hlt 0 _ rfl)
        have HAT := Lib.hid hat
        clear hc hat
        generalize asks[k] = q at *
        obtain ⟨qad, qc, l, qa, qs, qe, qp⟩ := q
        dsimp only at *
        have hL : wr.cell? ⟨b, off + k * 5, none⟩ = some (.slice qad l.length qc) := by rw [HB.out.cell hbl]; exact HL.out
        have hbw : b < wr.heap.size := by have := HB.out.size; omega
        by_cases h300 : l.length ≤ 300
        · have q300 : decide ((300 : Int) < (l.length : Int)) = false := by simp; omega
          rcases hbo : both l with ⟨r1, w1, x1, f1, n1, s1⟩
          have hown := World.ownsRow_lit (base := wr.heap.size) (size := 6) (e := attrT) wr #[] 0 (Nat.le_refl _) (by decide) rfl
          have HOWN := Lib.hid hown
          have HBO := Lib.hid hbo
          clear hown hl hbo
          obtain ⟨wo, rfl⟩ : ∃ wo : World, wo = wr := ⟨_, rfl⟩
          go_upto_region 7 with (first
            | (at_builtin
               refine wpList_append_any _ rfl (.tmp 25) (.tmp 30) _ rfl wo.heap.size attrT i0 _ 6 16 Try.underlying23 hi0 hz0 hz1 hz2 rfl (by omega) _ 0 _ rfl HOWN.out (wo.alloc (.cells #[] attrT)).heap.size qad l.length qc (l.flatMap Attr.cells) rfl
                 (((HAT.out.below HB.out).below ((Below.refl _ _).alloc (Nat.le_refl _) _)).reads attr_len) (by intro u hu; exact attr_one _ hu) (by simp only [maxLen]; omega) (by omega) (by simp) ?_
               intro v2 w2 hown2 hg2 hat2
               have HG2 := Lib.hid (below_grown hg2 hat2)
               obtain ⟨A2, c2, rfl, hA2⟩ := own_at (l := l) hown2 (by omega) (by rfl)
               have HA2 := Lib.hid hA2
               clear hown2 hg2 hat2 hA2))
          have HBC := Lib.hid (fun (A : Option Addr) (c : Nat) (W : World) h => both_lit HBO.out A c W (by omega) h)
          have HRC := Lib.hid (fun (A : Option Addr) (c : Nat) (W : World) h => refBoth_lit HBO.out A c W (by omega) h)
          go_upto_region 8 with (first
            | (go_at_call 6
               refine (HBC.out _ _ _ HA2.out).mono ?_
               rintro e w3 ⟨rfl, hb3⟩
               have HG3 := Lib.hid (HG2.out.trans (hb3.mono HG2.out.size))
               have HA3 := Lib.hid (HA2.out.below hb3)
               clear hb3))
          have HW3 := Lib.hid (below_call HB.out HG3.out HB.out.size)
          have hs3 := HG3.out.size
          have HFA := Lib.hid (fun w' (hb : Below (w3.heap.size + 1) (w3.alloc (.cells #[.bool r1, .bool w1, .bool x1, .bool f1, .bool n1, .int .i64 s1] attrT)) w') =>
            And.intro (((below_call HW3.out (below_new hb) HW3.out.size).cell hbl).trans HL.out) (x_facts ((hb.block _ (by omega)).trans (heap_new _ _))))
          clear hL
          refine wp_region_class (fun w' => Below (w3.heap.size + 1) (w3.alloc (.cells #[.bool r1, .bool w1, .bool x1, .bool f1, .bool n1, .int .i64 s1] attrT)) w') (by kernel_rfl) (by kernel_rfl) (Below.refl _ _).drew ?_
          refine wpLex_plain (by rfl) ?_
          apply Exists.intro
          refine ⟨?_, ?_⟩
          · intro w' hb
            have hfacts := HFA.out w' hb; have d0 := hfacts.1; have c0 := hfacts.2.1; have c1 := hfacts.2.2.1; have c2 := hfacts.2.2.2.1; have c3 := hfacts.2.2.2.2.1; have c4 := hfacts.2.2.2.2.2.1; have c5 := hfacts.2.2.2.2.2.2; clear hfacts
            go_simp
            first | exact rfl | exact ⟨rfl, hb⟩
          conv => arg 9; simp only [put_lit, put_lit_none, List.set]
          refine wpLex_plain (by rfl) ?_
          apply Exists.intro
          refine ⟨?_, ?_⟩
          · intro w' hb
            have hfacts := HFA.out w' hb; have d0 := hfacts.1; have c0 := hfacts.2.1; have c1 := hfacts.2.2.1; have c2 := hfacts.2.2.2.1; have c3 := hfacts.2.2.2.2.1; have c4 := hfacts.2.2.2.2.2.1; have c5 := hfacts.2.2.2.2.2.2; clear hfacts
            go_simp
            first | exact rfl | exact ⟨rfl, hb⟩
          conv => arg 9; simp only [put_lit, put_lit_none, List.set]
          refine wpLex_plain (by rfl) ?_
          apply Exists.intro
          refine ⟨?_, ?_⟩
          · intro w' hb
            have hfacts := HFA.out w' hb; have d0 := hfacts.1; have c0 := hfacts.2.1; have c1 := hfacts.2.2.1; have c2 := hfacts.2.2.2.1; have c3 := hfacts.2.2.2.2.1; have c4 := hfacts.2.2.2.2.2.1; have c5 := hfacts.2.2.2.2.2.2; clear hfacts
            go_simp
            first | exact rfl | exact ⟨rfl, hb⟩
          conv => arg 9; simp only [put_lit, put_lit_none, List.set]
          refine wpLex_plain (by rfl) ?_
          apply Exists.intro
          refine ⟨?_, ?_⟩
          · intro w' hb
            have hfacts := HFA.out w' hb; have d0 := hfacts.1; have c0 := hfacts.2.1; have c1 := hfacts.2.2.1; have c2 := hfacts.2.2.2.1; have c3 := hfacts.2.2.2.2.1; have c4 := hfacts.2.2.2.2.2.1; have c5 := hfacts.2.2.2.2.2.2; clear hfacts
            go_simp
            first | exact rfl | exact ⟨rfl, hb⟩
          conv => arg 9; simp only [put_lit, put_lit_none, List.set]
          refine wpLex_plain (by rfl) ?_
          apply Exists.intro
          refine ⟨?_, ?_⟩
          · intro w' hb
            have hfacts := HFA.out w' hb; have d0 := hfacts.1; have c0 := hfacts.2.1; have c1 := hfacts.2.2.1; have c2 := hfacts.2.2.2.1; have c3 := hfacts.2.2.2.2.1; have c4 := hfacts.2.2.2.2.2.1; have c5 := hfacts.2.2.2.2.2.2; clear hfacts
            go_simp
            first | exact rfl | exact ⟨rfl, hb⟩
          conv => arg 9; simp only [put_lit, put_lit_none, List.set]
          refine wpLex_plain (by rfl) ?_
          apply Exists.intro
          refine ⟨?_, ?_⟩
          · intro w' hb
            have hfacts := HFA.out w' hb; have d0 := hfacts.1; have c0 := hfacts.2.1; have c1 := hfacts.2.2.1; have c2 := hfacts.2.2.2.1; have c3 := hfacts.2.2.2.2.1; have c4 := hfacts.2.2.2.2.2.1; have c5 := hfacts.2.2.2.2.2.2; clear hfacts
            go_simp
            first | exact rfl | exact ⟨rfl, hb⟩
          conv => arg 9; simp only [put_lit, put_lit_none, List.set]
          refine wpLex_plain (by rfl) ?_
          apply Exists.intro
          refine ⟨?_, ?_⟩
          · intro w' hb
            have hsz := hb.size; rw [size_new] at hsz
            go_simp
            refine (HRC.out _ _ _ (HAT.out.below (below_call HW3.out (below_new hb) HW3.out.size))).mono ?_
            rintro e w2 ⟨rfl, hb2⟩
            first | exact ⟨_, rfl, rfl, hb.trans (hb2.mono hsz)⟩ | exact ⟨rfl, hb.trans (hb2.mono hsz)⟩
          conv => arg 9; simp only [put_lit, put_lit_none, List.set]
          refine wpLex_plain (by rfl) ?_
          apply Exists.intro
          refine ⟨?_, ?_⟩
          · intro w' hb
            skip
            go_simp
            first | exact rfl | exact ⟨rfl, hb⟩
          conv => arg 9; simp only [put_lit, put_lit_none, List.set]
          refine wpLex_nil ?_
          intro w4 hb4
          have hx4 := (hb4.block w3.heap.size (by omega)).trans (heap_new _ _)
          have HX4 := Lib.hid hx4
          have HB4 := Lib.hid (below_call HW3.out (below_new hb4) HW3.out.size)
          have HA4 := Lib.hid (HA3.out.below (below_new hb4))
          have hs4 := hb4.size
          rw [size_new] at hs4
          clear hb4 HFA hx4
          go_wp2
          obtain ⟨wl, rfl⟩ : ∃ wl : World, wl = w4 := ⟨_, rfl⟩
          go_loopw [6, 7] (fun v i wr => ∃ (j : Int) (m : Nat), i = .int .i64 j ∧ j + m + 1 = l.length ∧ wr.ownsRow wl.heap.size attrT 6 v m ((l.reverse.take m).flatMap Attr.cells) ∧ Below wl.heap.size wl wr) (fun _ i _ => (intOf i + 1).toNat)
          case atStart => exact ⟨_, 0, rfl, by omega, World.ownsRow_nil _ _ _ _, Below.refl _ _⟩
          case round =>
            rename_i v6 _
            obtain ⟨j, m, rfl, hjm, hown, hbl5⟩ := hrel
            by_cases hm : m < l.length
            · obtain ⟨kk, rfl⟩ := Int.eq_ofNat_of_zero_le (show 0 ≤ j by omega)
              have hkk : kk + m + 1 = l.length := by omega
              have hkl : kk < l.length := by omega
              obtain ⟨b3, off3, rfl, hb3l, hc3⟩ := HA4.out (by omega)
              obtain ⟨b2, off2, rfl, hb2l, hc2⟩ := HAT.out (by omega)
              have HT := Lib.hid (take_rev l m kk hkk hkl)
              have HC3 := Lib.hid (hc3 kk hkl)
              have HC2 := Lib.hid (hc2 kk hkl)
              have HOW := Lib.hid hown
              have HBL := Lib.hid hbl5
              have hwsz := hbl5.size
              clear hc3 hc2 hown hbl5 hjm
              generalize l[kk] = a at *
              obtain ⟨r2, w2', x2, f2, n2, s2⟩ := a
              have hfacts := six_facts (fun j u h => (HBL.out.cell hb3l).trans (HC3.out j u h)); have c0 := hfacts.1; have c1 := hfacts.2.1; have c2' := hfacts.2.2.1; have c3 := hfacts.2.2.2.1; have c4 := hfacts.2.2.2.2.1; have c5 := hfacts.2.2.2.2.2; clear hfacts
              dsimp only at c0 c1 c2' c3 c4 c5
              have hb3w : b3 < wr.heap.size := by omega
              have hkkn : (kk : Int) < l.length := by omega
              have hkk0 : (0 : Int) ≤ (kk : Int) := by omega
              go_upto_region 15 with (first
                | (at_builtin
                   refine wpList_append_any _ rfl (.tmp 49) (.tmp 54) _ rfl wl.heap.size attrT i0 _ 6 16 Try.underlying23 hi0 hz0 hz1 hz2 rfl (by omega) _ m _ rfl (HOW.out.alloc _) (wr.heap.size + 1) (some ⟨wr.heap.size, 0, none⟩) 1 1 [.bool r2, .bool w2', .bool x2, .bool f2, .bool n2, .int .i64 s2] rfl
                     (reads_new1 wr r2 w2' x2 f2 n2 s2) (attr_one1 _ _ _ _ _ _) (by simp only [maxLen]; omega) (by omega) (by simp; omega) ?_
                   intro v5 w5 hown5 hg5 _
                   have HB5 := Lib.hid ((HBL.out.alloc hwsz _).grown hg5 (by simp; omega) (fun k hk => (HOW.out.lt k hk).1))
                   have HOWN5 := Lib.hid hown5
                   have HG5 := Lib.hid (((Below.refl wl.heap.size wr).alloc hwsz _).grown hg5 (by simp; omega) (fun k hk => (HOW.out.lt k hk).1))
                   clear hown5 hg5))
              have HW5 := Lib.hid (HB4.out.trans (HB5.out.mono HB4.out.size))
              have hs5 := HB5.out.size
              clear c0 c1 c2' c3 c4 c5
              have HFA := Lib.hid (fun w' (hb : Below w5.heap.size w5 w') =>
                And.intro (((below_call HW5.out hb HW5.out.size).cell hbl).trans HL.out)
                  (And.intro (six_facts (fun j u h => ((hb.cell (show b3 < w5.heap.size by omega)).trans (HB5.out.cell hb3l)).trans (HC3.out j u h)))
                    (six_facts (fun j u h => ((below_call HW5.out hb HW5.out.size).cell hb2l).trans (HC2.out j u h)))))
              refine wp_region_class (fun w' => Below w5.heap.size w5 w') (by kernel_rfl) (by kernel_rfl) (Below.refl _ _).drew ?_
              refine wpLex_plain (by rfl) ?_
              apply Exists.intro
              refine ⟨?_, ?_⟩
              · intro w' hb
                have hh := HFA.out w' hb; have d0 := hh.1; have c0 := hh.2.1.1; have c1 := hh.2.1.2.1; have c2' := hh.2.1.2.2.1; have c3 := hh.2.1.2.2.2.1; have c4 := hh.2.1.2.2.2.2.1; have c5 := hh.2.1.2.2.2.2.2; have k0 := hh.2.2.1; have k1 := hh.2.2.2.1; have k2 := hh.2.2.2.2.1; have k3 := hh.2.2.2.2.2.1; have k4 := hh.2.2.2.2.2.2.1; have k5 := hh.2.2.2.2.2.2.2; clear hh; dsimp only at c0 c1 c2' c3 c4 c5 k0 k1 k2 k3 k4 k5
                go_simp
                first | exact rfl | exact ⟨rfl, hb⟩
              conv => arg 9; simp only [put_lit, put_lit_none, List.set]
              refine wpLex_plain (by rfl) ?_
              apply Exists.intro
              refine ⟨?_, ?_⟩
              · intro w' hb
                have hh := HFA.out w' hb; have d0 := hh.1; have c0 := hh.2.1.1; have c1 := hh.2.1.2.1; have c2' := hh.2.1.2.2.1; have c3 := hh.2.1.2.2.2.1; have c4 := hh.2.1.2.2.2.2.1; have c5 := hh.2.1.2.2.2.2.2; have k0 := hh.2.2.1; have k1 := hh.2.2.2.1; have k2 := hh.2.2.2.2.1; have k3 := hh.2.2.2.2.2.1; have k4 := hh.2.2.2.2.2.2.1; have k5 := hh.2.2.2.2.2.2.2; clear hh; dsimp only at c0 c1 c2' c3 c4 c5 k0 k1 k2 k3 k4 k5
                go_simp
                first | exact rfl | exact ⟨rfl, hb⟩
              conv => arg 9; simp only [put_lit, put_lit_none, List.set]
              refine wpLex_plain (by rfl) ?_
              apply Exists.intro
              refine ⟨?_, ?_⟩
              · intro w' hb
                have hh := HFA.out w' hb; have d0 := hh.1; have c0 := hh.2.1.1; have c1 := hh.2.1.2.1; have c2' := hh.2.1.2.2.1; have c3 := hh.2.1.2.2.2.1; have c4 := hh.2.1.2.2.2.2.1; have c5 := hh.2.1.2.2.2.2.2; have k0 := hh.2.2.1; have k1 := hh.2.2.2.1; have k2 := hh.2.2.2.2.1; have k3 := hh.2.2.2.2.2.1; have k4 := hh.2.2.2.2.2.2.1; have k5 := hh.2.2.2.2.2.2.2; clear hh; dsimp only at c0 c1 c2' c3 c4 c5 k0 k1 k2 k3 k4 k5
                go_simp
                first | exact rfl | exact ⟨rfl, hb⟩
              conv => arg 9; simp only [put_lit, put_lit_none, List.set]
              refine wpLex_plain (by rfl) ?_
              apply Exists.intro
              refine ⟨?_, ?_⟩
              · intro w' hb
                have hh := HFA.out w' hb; have d0 := hh.1; have c0 := hh.2.1.1; have c1 := hh.2.1.2.1; have c2' := hh.2.1.2.2.1; have c3 := hh.2.1.2.2.2.1; have c4 := hh.2.1.2.2.2.2.1; have c5 := hh.2.1.2.2.2.2.2; have k0 := hh.2.2.1; have k1 := hh.2.2.2.1; have k2 := hh.2.2.2.2.1; have k3 := hh.2.2.2.2.2.1; have k4 := hh.2.2.2.2.2.2.1; have k5 := hh.2.2.2.2.2.2.2; clear hh; dsimp only at c0 c1 c2' c3 c4 c5 k0 k1 k2 k3 k4 k5
                go_simp
                first | exact rfl | exact ⟨rfl, hb⟩
              conv => arg 9; simp only [put_lit, put_lit_none, List.set]
              refine wpLex_plain (by rfl) ?_
              apply Exists.intro
              refine ⟨?_, ?_⟩
              · intro w' hb
                have hh := HFA.out w' hb; have d0 := hh.1; have c0 := hh.2.1.1; have c1 := hh.2.1.2.1; have c2' := hh.2.1.2.2.1; have c3 := hh.2.1.2.2.2.1; have c4 := hh.2.1.2.2.2.2.1; have c5 := hh.2.1.2.2.2.2.2; have k0 := hh.2.2.1; have k1 := hh.2.2.2.1; have k2 := hh.2.2.2.2.1; have k3 := hh.2.2.2.2.2.1; have k4 := hh.2.2.2.2.2.2.1; have k5 := hh.2.2.2.2.2.2.2; clear hh; dsimp only at c0 c1 c2' c3 c4 c5 k0 k1 k2 k3 k4 k5
                go_simp
                first | exact rfl | exact ⟨rfl, hb⟩
              conv => arg 9; simp only [put_lit, put_lit_none, List.set]
              refine wpLex_plain (by rfl) ?_
              apply Exists.intro
              refine ⟨?_, ?_⟩
              · intro w' hb
                have hh := HFA.out w' hb; have d0 := hh.1; have c0 := hh.2.1.1; have c1 := hh.2.1.2.1; have c2' := hh.2.1.2.2.1; have c3 := hh.2.1.2.2.2.1; have c4 := hh.2.1.2.2.2.2.1; have c5 := hh.2.1.2.2.2.2.2; have k0 := hh.2.2.1; have k1 := hh.2.2.2.1; have k2 := hh.2.2.2.2.1; have k3 := hh.2.2.2.2.2.1; have k4 := hh.2.2.2.2.2.2.1; have k5 := hh.2.2.2.2.2.2.2; clear hh; dsimp only at c0 c1 c2' c3 c4 c5 k0 k1 k2 k3 k4 k5
                go_simp
                first | exact rfl | exact ⟨rfl, hb⟩
              conv => arg 9; simp only [put_lit, put_lit_none, List.set]
              refine wpLex_plain (by rfl) ?_
              apply Exists.intro
              refine ⟨?_, ?_⟩
              · intro w' hb
                have hh := HFA.out w' hb; have d0 := hh.1; have c0 := hh.2.1.1; have c1 := hh.2.1.2.1; have c2' := hh.2.1.2.2.1; have c3 := hh.2.1.2.2.2.1; have c4 := hh.2.1.2.2.2.2.1; have c5 := hh.2.1.2.2.2.2.2; have k0 := hh.2.2.1; have k1 := hh.2.2.2.1; have k2 := hh.2.2.2.2.1; have k3 := hh.2.2.2.2.2.1; have k4 := hh.2.2.2.2.2.2.1; have k5 := hh.2.2.2.2.2.2.2; clear hh; dsimp only at c0 c1 c2' c3 c4 c5 k0 k1 k2 k3 k4 k5
                go_simp
                first | exact rfl | exact ⟨rfl, hb⟩
              conv => arg 9; simp only [put_lit, put_lit_none, List.set]
              refine wpLex_plain (by rfl) ?_
              apply Exists.intro
              refine ⟨?_, ?_⟩
              · intro w' hb
                have hh := HFA.out w' hb; have d0 := hh.1; have c0 := hh.2.1.1; have c1 := hh.2.1.2.1; have c2' := hh.2.1.2.2.1; have c3 := hh.2.1.2.2.2.1; have c4 := hh.2.1.2.2.2.2.1; have c5 := hh.2.1.2.2.2.2.2; have k0 := hh.2.2.1; have k1 := hh.2.2.2.1; have k2 := hh.2.2.2.2.1; have k3 := hh.2.2.2.2.2.1; have k4 := hh.2.2.2.2.2.2.1; have k5 := hh.2.2.2.2.2.2.2; clear hh; dsimp only at c0 c1 c2' c3 c4 c5 k0 k1 k2 k3 k4 k5
                go_simp
                first | exact rfl | exact ⟨rfl, hb⟩
              conv => arg 9; simp only [put_lit, put_lit_none, List.set]
              refine wpLex_plain (by rfl) ?_
              apply Exists.intro
              refine ⟨?_, ?_⟩
              · intro w' hb
                have hh := HFA.out w' hb; have d0 := hh.1; have c0 := hh.2.1.1; have c1 := hh.2.1.2.1; have c2' := hh.2.1.2.2.1; have c3 := hh.2.1.2.2.2.1; have c4 := hh.2.1.2.2.2.2.1; have c5 := hh.2.1.2.2.2.2.2; have k0 := hh.2.2.1; have k1 := hh.2.2.2.1; have k2 := hh.2.2.2.2.1; have k3 := hh.2.2.2.2.2.1; have k4 := hh.2.2.2.2.2.2.1; have k5 := hh.2.2.2.2.2.2.2; clear hh; dsimp only at c0 c1 c2' c3 c4 c5 k0 k1 k2 k3 k4 k5
                go_simp
                first | exact rfl | exact ⟨rfl, hb⟩
              conv => arg 9; simp only [put_lit, put_lit_none, List.set]
              refine wpLex_plain (by rfl) ?_
              apply Exists.intro
              refine ⟨?_, ?_⟩
              · intro w' hb
                have hh := HFA.out w' hb; have d0 := hh.1; have c0 := hh.2.1.1; have c1 := hh.2.1.2.1; have c2' := hh.2.1.2.2.1; have c3 := hh.2.1.2.2.2.1; have c4 := hh.2.1.2.2.2.2.1; have c5 := hh.2.1.2.2.2.2.2; have k0 := hh.2.2.1; have k1 := hh.2.2.2.1; have k2 := hh.2.2.2.2.1; have k3 := hh.2.2.2.2.2.1; have k4 := hh.2.2.2.2.2.2.1; have k5 := hh.2.2.2.2.2.2.2; clear hh; dsimp only at c0 c1 c2' c3 c4 c5 k0 k1 k2 k3 k4 k5
                go_simp
                first | exact rfl | exact ⟨rfl, hb⟩
              conv => arg 9; simp only [put_lit, put_lit_none, List.set]
              refine wpLex_plain (by rfl) ?_
              apply Exists.intro
              refine ⟨?_, ?_⟩
              · intro w' hb
                have hh := HFA.out w' hb; have d0 := hh.1; have c0 := hh.2.1.1; have c1 := hh.2.1.2.1; have c2' := hh.2.1.2.2.1; have c3 := hh.2.1.2.2.2.1; have c4 := hh.2.1.2.2.2.2.1; have c5 := hh.2.1.2.2.2.2.2; have k0 := hh.2.2.1; have k1 := hh.2.2.2.1; have k2 := hh.2.2.2.2.1; have k3 := hh.2.2.2.2.2.1; have k4 := hh.2.2.2.2.2.2.1; have k5 := hh.2.2.2.2.2.2.2; clear hh; dsimp only at c0 c1 c2' c3 c4 c5 k0 k1 k2 k3 k4 k5
                go_simp
                first | exact rfl | exact ⟨rfl, hb⟩
              conv => arg 9; simp only [put_lit, put_lit_none, List.set]
              refine wpLex_plain (by rfl) ?_
              apply Exists.intro
              refine ⟨?_, ?_⟩
              · intro w' hb
                have hh := HFA.out w' hb; have d0 := hh.1; have c0 := hh.2.1.1; have c1 := hh.2.1.2.1; have c2' := hh.2.1.2.2.1; have c3 := hh.2.1.2.2.2.1; have c4 := hh.2.1.2.2.2.2.1; have c5 := hh.2.1.2.2.2.2.2; have k0 := hh.2.2.1; have k1 := hh.2.2.2.1; have k2 := hh.2.2.2.2.1; have k3 := hh.2.2.2.2.2.1; have k4 := hh.2.2.2.2.2.2.1; have k5 := hh.2.2.2.2.2.2.2; clear hh; dsimp only at c0 c1 c2' c3 c4 c5 k0 k1 k2 k3 k4 k5
                go_simp
                first | exact rfl | exact ⟨rfl, hb⟩
              conv => arg 9; simp only [put_lit, put_lit_none, List.set]
              refine wpLex_plain (by rfl) ?_
              apply Exists.intro
              refine ⟨?_, ?_⟩
              · intro w' hb
                have hh := HFA.out w' hb; have d0 := hh.1; have c0 := hh.2.1.1; have c1 := hh.2.1.2.1; have c2' := hh.2.1.2.2.1; have c3 := hh.2.1.2.2.2.1; have c4 := hh.2.1.2.2.2.2.1; have c5 := hh.2.1.2.2.2.2.2; have k0 := hh.2.2.1; have k1 := hh.2.2.2.1; have k2 := hh.2.2.2.2.1; have k3 := hh.2.2.2.2.2.1; have k4 := hh.2.2.2.2.2.2.1; have k5 := hh.2.2.2.2.2.2.2; clear hh; dsimp only at c0 c1 c2' c3 c4 c5 k0 k1 k2 k3 k4 k5
                go_simp
                first | exact rfl | exact ⟨rfl, hb⟩
              conv => arg 9; simp only [put_lit, put_lit_none, List.set]
              refine wpLex_nil ?_
              intro w6 hb6
              have HB6 := Lib.hid (HB5.out.trans (hb6.mono hs5))
              have HOWN6 := Lib.hid (own_below HOWN5.out hb6)
              clear hb6 HFA
              go_wp2
              go_roundw
              case rel => exact ⟨(kk : Int) - 1, m + 1, rfl, by omega, by rw [HT.out, List.flatMap_append]; exact HOWN6.out, HB6.out⟩
              case measure => simp [intOf]
            · have hmle : m ≤ l.length := by
                have h1 := hown.1
                rw [flat_len Attr.cells 6 attr_len, List.length_take, List.length_reverse] at h1
                omega
              obtain rfl : m = l.length := by omega
              obtain rfl : j = -1 := by omega
              obtain ⟨A6, c6, hv6, hA6⟩ := own_at (l := l.reverse) hown (by simp) (by rw [List.take_of_length_le (by simp)])
              rw [List.length_reverse] at hv6
              subst hv6
              have HA6 := Lib.hid hA6
              have HBL := Lib.hid hbl5
              have hwsz := hbl5.size
              have HRB := Lib.hid (fun (W : World) h => both_len ((both_reverse l).trans HBO.out) A6 c6 W l.length (by simp) (by simp; omega) h)
              have HWR := Lib.hid (below_call HB4.out hbl5 HB4.out.size)
              clear hown hbl5 hA6 hm hjm
              go_upto_region 17 with (fail)
              have HFA := Lib.hid (fun w' (hb : Below wr.heap.size wr w') => x_facts ((hb.block _ (by omega)).trans ((HBL.out.block _ (by omega)).trans HX4.out)))
              by_cases h2 : l.length = 2
              · have hl2 : ((l.length : Int) == 2) = true := by simp; omega
                obtain ⟨b3, off3, rfl, hb3l, hc3⟩ := HA4.out (by omega)
                have HC0 := Lib.hid (hc3 0 (by omega))
                have HC1 := Lib.hid (hc3 1 (by omega))
                have HB2 := Lib.hid (show both [l[0], l[1]] = ⟨r1, w1, x1, f1, n1, s1⟩ by rw [show [l[0], l[1]] = l from two_list l h2]; exact HBO.out)
                clear hc3 HA4
                generalize l[0] = a0 at *
                generalize l[1] = a1 at *
                obtain ⟨p0, p1, p2, p3, p4, p5⟩ := a0
                obtain ⟨o0, o1, o2, o3, o4, o5⟩ := a1
                have h20 : (0 : Int) < (l.length : Int) := by omega
                have HH2 := Lib.hid h2
                have h20n : 0 < l.length := by omega
                have h21n : 1 < l.length := by omega
                have h21 : (1 : Int) < (l.length : Int) := by omega
                have HFB := Lib.hid (fun w' (hb : Below wr.heap.size wr w') => And.intro
                  (six_facts (b := b3) (o := off3) (a := ⟨p0, p1, p2, p3, p4, p5⟩) (fun j u h => by have := ((hb.cell (show b3 < wr.heap.size by omega)).trans (HBL.out.cell hb3l)).trans (HC0.out j u h); simpa using this))
                  (six_facts (b := b3) (o := off3 + 6) (a := ⟨o0, o1, o2, o3, o4, o5⟩) (fun j u h => by have := ((hb.cell (show b3 < wr.heap.size by omega)).trans (HBL.out.cell hb3l)).trans (HC1.out j u h); simpa using this)))
                clear h2
                refine wp_region_lex [84] (NewC wr 84 15 (fun g => .slice (some ⟨g, 0, none⟩) 2 2) attrT #[.bool p0, .bool p1, .bool p2, .bool p3, .bool p4, .int .i64 p5, .bool o0, .bool o1, .bool o2, .bool o3, .bool o4, .int .i64 o5]) newC_looks (by kernel_rfl) (by kernel_rfl) (by kernel_rfl) (newC_start _) ?_
                refine wpLex_new (by rfl) (by rfl) (by decide) (by rfl) ?_
                apply Exists.intro
                refine ⟨?_, ?_⟩
                · intro w' hb
                  skip
                  go_simp
                  exact ⟨rfl, Below.refl _ _⟩
                conv => arg 9; simp only [put_lit, put_lit_none, List.set]
                refine wpLex_new (by rfl) (by rfl) (by decide) (by rfl) ?_
                apply Exists.intro
                refine ⟨?_, ?_⟩
                · intro w' hb
                  skip
                  go_simp
                  refine (HRB.out _ (HA6.out.below hb)).mono ?_
                  rintro e w2 ⟨rfl, hb2⟩
                  first | exact ⟨_, rfl, rfl, hb2⟩ | exact ⟨rfl, hb2⟩
                conv => arg 9; simp only [put_lit, put_lit_none, List.set]
                refine wpLex_new (by rfl) (by rfl) (by decide) (by rfl) ?_
                apply Exists.intro
                refine ⟨?_, ?_⟩
                · intro w' hb
                  have hfacts := HFA.out w' hb; have d0 := hfacts.1; have d1 := hfacts.2.1; have d2 := hfacts.2.2.1; have d3 := hfacts.2.2.2.1; have d4 := hfacts.2.2.2.2.1; have d5 := hfacts.2.2.2.2.2; clear hfacts
                  go_simp
                  exact ⟨rfl, Below.refl _ _⟩
                conv => arg 9; simp only [put_lit, put_lit_none, List.set]
                refine wpLex_new (by rfl) (by rfl) (by decide) (by rfl) ?_
                apply Exists.intro
                refine ⟨?_, ?_⟩
                · intro w' hb
                  have hfacts := HFA.out w' hb; have d0 := hfacts.1; have d1 := hfacts.2.1; have d2 := hfacts.2.2.1; have d3 := hfacts.2.2.2.1; have d4 := hfacts.2.2.2.2.1; have d5 := hfacts.2.2.2.2.2; clear hfacts
                  go_simp
                  exact ⟨rfl, Below.refl _ _⟩
                conv => arg 9; simp only [put_lit, put_lit_none, List.set]
                refine wpLex_new (by rfl) (by rfl) (by decide) (by rfl) ?_
                apply Exists.intro
                refine ⟨?_, ?_⟩
                · intro w' hb
                  have hfacts := HFA.out w' hb; have d0 := hfacts.1; have d1 := hfacts.2.1; have d2 := hfacts.2.2.1; have d3 := hfacts.2.2.2.1; have d4 := hfacts.2.2.2.2.1; have d5 := hfacts.2.2.2.2.2; clear hfacts
                  go_simp
                  exact ⟨rfl, Below.refl _ _⟩
                conv => arg 9; simp only [put_lit, put_lit_none, List.set]
                refine wpLex_new (by rfl) (by rfl) (by decide) (by rfl) ?_
                apply Exists.intro
                refine ⟨?_, ?_⟩
                · intro w' hb
                  have hfacts := HFA.out w' hb; have d0 := hfacts.1; have d1 := hfacts.2.1; have d2 := hfacts.2.2.1; have d3 := hfacts.2.2.2.1; have d4 := hfacts.2.2.2.2.1; have d5 := hfacts.2.2.2.2.2; clear hfacts
                  go_simp
                  exact ⟨rfl, Below.refl _ _⟩
                conv => arg 9; simp only [put_lit, put_lit_none, List.set]
                refine wpLex_new (by rfl) (by rfl) (by decide) (by rfl) ?_
                apply Exists.intro
                refine ⟨?_, ?_⟩
                · intro w' hb
                  have hfacts := HFA.out w' hb; have d0 := hfacts.1; have d1 := hfacts.2.1; have d2 := hfacts.2.2.1; have d3 := hfacts.2.2.2.1; have d4 := hfacts.2.2.2.2.1; have d5 := hfacts.2.2.2.2.2; clear hfacts
                  go_simp
                  exact ⟨rfl, Below.refl _ _⟩
                conv => arg 9; simp only [put_lit, put_lit_none, List.set]
                refine wpLex_new (by rfl) (by rfl) (by decide) (by rfl) ?_
                apply Exists.intro
                refine ⟨?_, ?_⟩
                · intro w' hb
                  have hfacts := HFA.out w' hb; have d0 := hfacts.1; have d1 := hfacts.2.1; have d2 := hfacts.2.2.1; have d3 := hfacts.2.2.2.1; have d4 := hfacts.2.2.2.2.1; have d5 := hfacts.2.2.2.2.2; clear hfacts
                  go_simp
                  exact ⟨rfl, Below.refl _ _⟩
                conv => arg 9; simp only [put_lit, put_lit_none, List.set]
                refine wpLex_new (by rfl) (by rfl) (by decide) (by rfl) ?_
                apply Exists.intro
                refine ⟨?_, ?_⟩
                · intro w' hb
                  have hfacts := HFA.out w' hb; have d0 := hfacts.1; have d1 := hfacts.2.1; have d2 := hfacts.2.2.1; have d3 := hfacts.2.2.2.1; have d4 := hfacts.2.2.2.2.1; have d5 := hfacts.2.2.2.2.2; clear hfacts
                  go_simp
                  exact ⟨rfl, Below.refl _ _⟩
                conv => arg 9; simp only [put_lit, put_lit_none, List.set]
                refine wpLex_new (by rfl) (by rfl) (by decide) (by rfl) ?_
                apply Exists.intro
                refine ⟨?_, ?_⟩
                · intro w' hb
                  have hfacts := HFA.out w' hb; have d0 := hfacts.1; have d1 := hfacts.2.1; have d2 := hfacts.2.2.1; have d3 := hfacts.2.2.2.1; have d4 := hfacts.2.2.2.2.1; have d5 := hfacts.2.2.2.2.2; clear hfacts
                  go_simp
                  exact ⟨rfl, Below.refl _ _⟩
                conv => arg 9; simp only [put_lit, put_lit_none, List.set]
                refine wpLex_new (by rfl) (by rfl) (by decide) (by rfl) ?_
                apply Exists.intro
                refine ⟨?_, ?_⟩
                · intro w' hb
                  have hh := HFB.out w' hb; have c0 := hh.1.1; have c1 := hh.1.2.1; have c2' := hh.1.2.2.1; have c3 := hh.1.2.2.2.1; have c4 := hh.1.2.2.2.2.1; have c5 := hh.1.2.2.2.2.2; have k0 := hh.2.1; have k1 := hh.2.2.1; have k2 := hh.2.2.2.1; have k3 := hh.2.2.2.2.1; have k4 := hh.2.2.2.2.2.1; have k5 := hh.2.2.2.2.2.2; clear hh; dsimp only at c0 c1 c2' c3 c4 c5 k0 k1 k2 k3 k4 k5
                  go_simp
                  exact ⟨rfl, Below.refl _ _⟩
                conv => arg 9; simp only [put_lit, put_lit_none, List.set]
                refine wpLex_new (by rfl) (by rfl) (by decide) (by rfl) ?_
                apply Exists.intro
                refine ⟨?_, ?_⟩
                · intro w' hb
                  have hh := HFB.out w' hb; have c0 := hh.1.1; have c1 := hh.1.2.1; have c2' := hh.1.2.2.1; have c3 := hh.1.2.2.2.1; have c4 := hh.1.2.2.2.2.1; have c5 := hh.1.2.2.2.2.2; have k0 := hh.2.1; have k1 := hh.2.2.1; have k2 := hh.2.2.2.1; have k3 := hh.2.2.2.2.1; have k4 := hh.2.2.2.2.2.1; have k5 := hh.2.2.2.2.2.2; clear hh; dsimp only at c0 c1 c2' c3 c4 c5 k0 k1 k2 k3 k4 k5
                  go_simp
                  exact ⟨rfl, Below.refl _ _⟩
                conv => arg 9; simp only [put_lit, put_lit_none, List.set]
                refine wpLex_new (by rfl) (by rfl) (by decide) (by rfl) ?_
                apply Exists.intro
                refine ⟨?_, ?_⟩
                · intro w' hb
                  have hh := HFB.out w' hb; have c0 := hh.1.1; have c1 := hh.1.2.1; have c2' := hh.1.2.2.1; have c3 := hh.1.2.2.2.1; have c4 := hh.1.2.2.2.2.1; have c5 := hh.1.2.2.2.2.2; have k0 := hh.2.1; have k1 := hh.2.2.1; have k2 := hh.2.2.2.1; have k3 := hh.2.2.2.2.1; have k4 := hh.2.2.2.2.2.1; have k5 := hh.2.2.2.2.2.2; clear hh; dsimp only at c0 c1 c2' c3 c4 c5 k0 k1 k2 k3 k4 k5
                  go_simp
                  exact ⟨rfl, Below.refl _ _⟩
                conv => arg 9; simp only [put_lit, put_lit_none, List.set]
                refine wpLex_new (by rfl) (by rfl) (by decide) (by rfl) ?_
                apply Exists.intro
                refine ⟨?_, ?_⟩
                · intro w' hb
                  have hh := HFB.out w' hb; have c0 := hh.1.1; have c1 := hh.1.2.1; have c2' := hh.1.2.2.1; have c3 := hh.1.2.2.2.1; have c4 := hh.1.2.2.2.2.1; have c5 := hh.1.2.2.2.2.2; have k0 := hh.2.1; have k1 := hh.2.2.1; have k2 := hh.2.2.2.1; have k3 := hh.2.2.2.2.1; have k4 := hh.2.2.2.2.2.1; have k5 := hh.2.2.2.2.2.2; clear hh; dsimp only at c0 c1 c2' c3 c4 c5 k0 k1 k2 k3 k4 k5
                  go_simp
                  exact ⟨rfl, Below.refl _ _⟩
                conv => arg 9; simp only [put_lit, put_lit_none, List.set]
                refine wpLex_new (by rfl) (by rfl) (by decide) (by rfl) ?_
                apply Exists.intro
                refine ⟨?_, ?_⟩
                · intro w' hb
                  have hh := HFB.out w' hb; have c0 := hh.1.1; have c1 := hh.1.2.1; have c2' := hh.1.2.2.1; have c3 := hh.1.2.2.2.1; have c4 := hh.1.2.2.2.2.1; have c5 := hh.1.2.2.2.2.2; have k0 := hh.2.1; have k1 := hh.2.2.1; have k2 := hh.2.2.2.1; have k3 := hh.2.2.2.2.1; have k4 := hh.2.2.2.2.2.1; have k5 := hh.2.2.2.2.2.2; clear hh; dsimp only at c0 c1 c2' c3 c4 c5 k0 k1 k2 k3 k4 k5
                  go_simp
                  exact ⟨rfl, Below.refl _ _⟩
                conv => arg 9; simp only [put_lit, put_lit_none, List.set]
                refine wpLex_want undef (by rfl) (comes_new rfl (by simp) rfl (by decide) (fun w _ => by go_simp; rfl)) ?_
                conv => arg 9; simp only [put_lit, put_lit_none, List.set]
                refine wpLex_newUse (by rfl) (by rfl) (by rfl) (by kernel_rfl) ?_
                apply Exists.intro
                refine ⟨?_, ?_⟩
                · intro g w' hb hg hx
                  simp only [put_lit, List.set]
                  have hat := at_two hx
                  clear hx
                  go_simp
                  refine (both_len HB2.out (some ⟨g, 0, none⟩) 2 w' 2 (by rfl) (by simp) hat).mono ?_
                  rintro e w2 ⟨rfl, hb2⟩
                  first | exact ⟨_, rfl, rfl, hb2⟩ | exact ⟨rfl, hb2⟩
                conv => arg 9; simp only [put_lit, put_lit_none, List.set]
                refine wpLex_new (by rfl) (by rfl) (by decide) (by rfl) ?_
                apply Exists.intro
                refine ⟨?_, ?_⟩
                · intro w' hb
                  have hfacts := HFA.out w' hb; have d0 := hfacts.1; have d1 := hfacts.2.1; have d2 := hfacts.2.2.1; have d3 := hfacts.2.2.2.1; have d4 := hfacts.2.2.2.2.1; have d5 := hfacts.2.2.2.2.2; clear hfacts
                  go_simp
                  exact ⟨rfl, Below.refl _ _⟩
                conv => arg 9; simp only [put_lit, put_lit_none, List.set]
                refine wpLex_new (by rfl) (by rfl) (by decide) (by rfl) ?_
                apply Exists.intro
                refine ⟨?_, ?_⟩
                · intro w' hb
                  have hfacts := HFA.out w' hb; have d0 := hfacts.1; have d1 := hfacts.2.1; have d2 := hfacts.2.2.1; have d3 := hfacts.2.2.2.1; have d4 := hfacts.2.2.2.2.1; have d5 := hfacts.2.2.2.2.2; clear hfacts
                  go_simp
                  exact ⟨rfl, Below.refl _ _⟩
                conv => arg 9; simp only [put_lit, put_lit_none, List.set]
                refine wpLex_new (by rfl) (by rfl) (by decide) (by rfl) ?_
                apply Exists.intro
                refine ⟨?_, ?_⟩
                · intro w' hb
                  have hfacts := HFA.out w' hb; have d0 := hfacts.1; have d1 := hfacts.2.1; have d2 := hfacts.2.2.1; have d3 := hfacts.2.2.2.1; have d4 := hfacts.2.2.2.2.1; have d5 := hfacts.2.2.2.2.2; clear hfacts
                  go_simp
                  exact ⟨rfl, Below.refl _ _⟩
                conv => arg 9; simp only [put_lit, put_lit_none, List.set]
                refine wpLex_new (by rfl) (by rfl) (by decide) (by rfl) ?_
                apply Exists.intro
                refine ⟨?_, ?_⟩
                · intro w' hb
                  have hfacts := HFA.out w' hb; have d0 := hfacts.1; have d1 := hfacts.2.1; have d2 := hfacts.2.2.1; have d3 := hfacts.2.2.2.1; have d4 := hfacts.2.2.2.2.1; have d5 := hfacts.2.2.2.2.2; clear hfacts
                  go_simp
                  exact ⟨rfl, Below.refl _ _⟩
                conv => arg 9; simp only [put_lit, put_lit_none, List.set]
                refine wpLex_nil ?_
                intro w6 b6 d hd hC ho
                obtain ⟨u84', rfl⟩ := ho.one
                simp only [put_lit, List.set]
                have HB6 := Lib.hid (below_call HWR.out hC.1 HWR.out.size)
                clear hC hd ho HFA HFB
                go_wp2
                go_roundw
                case rel => exact ⟨k + 1, by omega, by go_num, HB6.out⟩
                case measure => simp [intOf]; omega
              · have hl2 : ((l.length : Int) == 2) = false := by simp; omega
                refine wp_region_class (fun w' => Below wr.heap.size wr w') (by kernel_rfl) (by kernel_rfl) (Below.refl _ _).drew ?_
                refine wpLex_plain (by rfl) ?_
                apply Exists.intro
                refine ⟨?_, ?_⟩
                · intro w' hb
                  skip
                  go_simp
                  first | exact rfl | exact ⟨rfl, hb⟩
                conv => arg 9; simp only [put_lit, put_lit_none, List.set]
                refine wpLex_plain (by rfl) ?_
                apply Exists.intro
                refine ⟨?_, ?_⟩
                · intro w' hb
                  have hsz := hb.size
                  go_simp
                  refine (HRB.out _ (HA6.out.below hb)).mono ?_
                  rintro e w2 ⟨rfl, hb2⟩
                  first | exact ⟨_, rfl, rfl, hb.trans (hb2.mono hsz)⟩ | exact ⟨rfl, hb.trans (hb2.mono hsz)⟩
                conv => arg 9; simp only [put_lit, put_lit_none, List.set]
                refine wpLex_plain (by rfl) ?_
                apply Exists.intro
                refine ⟨?_, ?_⟩
                · intro w' hb
                  have hfacts := HFA.out w' hb; have d0 := hfacts.1; have d1 := hfacts.2.1; have d2 := hfacts.2.2.1; have d3 := hfacts.2.2.2.1; have d4 := hfacts.2.2.2.2.1; have d5 := hfacts.2.2.2.2.2; clear hfacts
                  go_simp
                  first | exact rfl | exact ⟨rfl, hb⟩
                conv => arg 9; simp only [put_lit, put_lit_none, List.set]
                refine wpLex_plain (by rfl) ?_
                apply Exists.intro
                refine ⟨?_, ?_⟩
                · intro w' hb
                  have hfacts := HFA.out w' hb; have d0 := hfacts.1; have d1 := hfacts.2.1; have d2 := hfacts.2.2.1; have d3 := hfacts.2.2.2.1; have d4 := hfacts.2.2.2.2.1; have d5 := hfacts.2.2.2.2.2; clear hfacts
                  go_simp
                  first | exact rfl | exact ⟨rfl, hb⟩
                conv => arg 9; simp only [put_lit, put_lit_none, List.set]
                refine wpLex_plain (by rfl) ?_
                apply Exists.intro
                refine ⟨?_, ?_⟩
                · intro w' hb
                  have hfacts := HFA.out w' hb; have d0 := hfacts.1; have d1 := hfacts.2.1; have d2 := hfacts.2.2.1; have d3 := hfacts.2.2.2.1; have d4 := hfacts.2.2.2.2.1; have d5 := hfacts.2.2.2.2.2; clear hfacts
                  go_simp
                  first | exact rfl | exact ⟨rfl, hb⟩
                conv => arg 9; simp only [put_lit, put_lit_none, List.set]
                refine wpLex_plain (by rfl) ?_
                apply Exists.intro
                refine ⟨?_, ?_⟩
                · intro w' hb
                  have hfacts := HFA.out w' hb; have d0 := hfacts.1; have d1 := hfacts.2.1; have d2 := hfacts.2.2.1; have d3 := hfacts.2.2.2.1; have d4 := hfacts.2.2.2.2.1; have d5 := hfacts.2.2.2.2.2; clear hfacts
                  go_simp
                  first | exact rfl | exact ⟨rfl, hb⟩
                conv => arg 9; simp only [put_lit, put_lit_none, List.set]
                refine wpLex_plain (by rfl) ?_
                apply Exists.intro
                refine ⟨?_, ?_⟩
                · intro w' hb
                  have hfacts := HFA.out w' hb; have d0 := hfacts.1; have d1 := hfacts.2.1; have d2 := hfacts.2.2.1; have d3 := hfacts.2.2.2.1; have d4 := hfacts.2.2.2.2.1; have d5 := hfacts.2.2.2.2.2; clear hfacts
                  go_simp
                  first | exact rfl | exact ⟨rfl, hb⟩
                conv => arg 9; simp only [put_lit, put_lit_none, List.set]
                refine wpLex_plain (by rfl) ?_
                apply Exists.intro
                refine ⟨?_, ?_⟩
                · intro w' hb
                  have hfacts := HFA.out w' hb; have d0 := hfacts.1; have d1 := hfacts.2.1; have d2 := hfacts.2.2.1; have d3 := hfacts.2.2.2.1; have d4 := hfacts.2.2.2.2.1; have d5 := hfacts.2.2.2.2.2; clear hfacts
                  go_simp
                  first | exact rfl | exact ⟨rfl, hb⟩
                conv => arg 9; simp only [put_lit, put_lit_none, List.set]
                refine wpLex_plain (by rfl) ?_
                apply Exists.intro
                refine ⟨?_, ?_⟩
                · intro w' hb
                  have hfacts := HFA.out w' hb; have d0 := hfacts.1; have d1 := hfacts.2.1; have d2 := hfacts.2.2.1; have d3 := hfacts.2.2.2.1; have d4 := hfacts.2.2.2.2.1; have d5 := hfacts.2.2.2.2.2; clear hfacts
                  go_simp
                  first | exact rfl | exact ⟨rfl, hb⟩
                conv => arg 9; simp only [put_lit, put_lit_none, List.set]
                refine wpLex_pass (by rfl) passes_plain ?_
                conv => arg 9; simp only [put_lit, put_lit_none, List.set]
                refine wpLex_pass (by rfl) passes_plain ?_
                conv => arg 9; simp only [put_lit, put_lit_none, List.set]
                refine wpLex_pass (by rfl) passes_plain ?_
                conv => arg 9; simp only [put_lit, put_lit_none, List.set]
                refine wpLex_pass (by rfl) passes_plain ?_
                conv => arg 9; simp only [put_lit, put_lit_none, List.set]
                refine wpLex_pass (by rfl) passes_plain ?_
                conv => arg 9; simp only [put_lit, put_lit_none, List.set]
                refine wpLex_pass (by rfl) passes_plain ?_
                conv => arg 9; simp only [put_lit, put_lit_none, List.set]
                refine wpLex_pass (by rfl) passes_plain ?_
                conv => arg 9; simp only [put_lit, put_lit_none, List.set]
                refine wpLex_pass (by rfl) passes_plain ?_
                conv => arg 9; simp only [put_lit, put_lit_none, List.set]
                refine wpLex_pass (by rfl) passes_plain ?_
                conv => arg 9; simp only [put_lit, put_lit_none, List.set]
                refine wpLex_pass (by rfl) passes_plain ?_
                conv => arg 9; simp only [put_lit, put_lit_none, List.set]
                refine wpLex_plain (by rfl) ?_
                apply Exists.intro
                refine ⟨?_, ?_⟩
                · intro w' hb
                  skip
                  go_simp
                  first | exact rfl | exact ⟨rfl, hb⟩
                conv => arg 9; simp only [put_lit, put_lit_none, List.set]
                refine wpLex_plain (by rfl) ?_
                apply Exists.intro
                refine ⟨?_, ?_⟩
                · intro w' hb
                  skip
                  go_simp
                  first | exact rfl | exact ⟨rfl, hb⟩
                conv => arg 9; simp only [put_lit, put_lit_none, List.set]
                refine wpLex_nil ?_
                intro w6 hb6
                have HB6 := Lib.hid (below_call HWR.out hb6 HWR.out.size)
                clear hb6 HFA
                go_wp2
                go_roundw
                case rel => exact ⟨k + 1, by omega, by go_num, HB6.out⟩
                case measure => simp [intOf]; omega
        · unfold maxLen at hl
          go_wp2
          go_ret
          exact ⟨rfl, HB.out⟩
      · go_wp2_with (go_at_call 8; refine (wakes_any _).mono ?_; rintro e w1 ⟨rfl, hb1⟩; have HB1 := Lib.hid hb1; clear hb1)
        go_ret
        exact ⟨rfl, below_call HB.out HB1.out HB.out.size⟩
    · go_wp2_with (go_at_call 8; refine (wakes_any _).mono ?_; rintro e w1 ⟨rfl, hb1⟩; have HB1 := Lib.hid hb1; clear hb1)
      go_ret
      exact ⟨rfl, below_call HB.out HB1.out HB.out.size⟩

end Go.Proofs.Ytjbjepjbnklccaa
