/-
  The way through both stages, from the table at an intermediate page on. Conditions: the way's block reads as such.
-/
import Derived.Test.YtddbndmbcdeggaaNsE
import Derived.Test.YtddbndmbcdeggaaWkT
namespace Go.Proofs.Ytddbndmbcdeggaa
open Go Go.RowKit

def walkFt (f : Ft) : Ft := ⟨f.kind, f.stage, f.level, true, f.page⟩
/-- The translation from a table of a level on, whatever was read before. -/
def transA (ws : List Int) (two : Rt) (page acc : Int) : Nat → Int → Int → List Int → Ht × Ft × List Int
  | 0, _, _, rd => (noHt, noFt, rd)
  | n + 1, level, table, rd =>
    if (midRes ws two table 0).2.1.kind = 0 then
      if (tabRes ws 1 level (midRes ws two table 0).1.frame page).kind = 2 then
        ((leafTr ws two page acc (tabRes ws 1 level (midRes ws two table 0).1.frame page) level).1, (leafTr ws two page acc (tabRes ws 1 level (midRes ws two table 0).1.frame page) level).2.1, (rd ++ (midRes ws two table 0).2.2 ++ [(midRes ws two table 0).1.frame]) ++ (leafTr ws two page acc (tabRes ws 1 level (midRes ws two table 0).1.frame page) level).2.2)
      else if (tabRes ws 1 level (midRes ws two table 0).1.frame page).kind = 0 then (noHt, ⟨2, 1, level, false, page⟩, rd ++ (midRes ws two table 0).2.2 ++ [(midRes ws two table 0).1.frame])
      else transA ws two page acc n (level + 1) (tabRes ws 1 level (midRes ws two table 0).1.frame page).frame (rd ++ (midRes ws two table 0).2.2 ++ [(midRes ws two table 0).1.frame])
    else (noHt, walkFt (midRes ws two table 0).2.1, rd ++ (midRes ws two table 0).2.2)

theorem tabRes_kind (ws : List Int) (stage level frame page : Int) : ((tabRes ws stage level frame page).kind = 0 ∨ (tabRes ws stage level frame page).kind = 1 ∨ (tabRes ws stage level frame page).kind = 2) ∧ ((tabRes ws stage level frame page).kind = 1 → level < 3) ∧ 0 ≤ (tabRes ws stage level frame page).frame ∧ (tabRes ws stage level frame page).frame ≤ 4095 := by
  unfold tabRes
  have h0 : (noDe.kind = 0 ∨ noDe.kind = 1 ∨ noDe.kind = 2) ∧ (noDe.kind = 1 → level < 3) ∧ 0 ≤ noDe.frame ∧ noDe.frame ≤ 4095 := ⟨.inl rfl, (fun h => absurd h (by decide)), by decide, by decide⟩
  cases tabOk ws.length stage level page
  · exact h0
  · rw [if_pos rfl]
    cases numOk frame ((ws.length : Int) / 8 - 1)
    · exact h0
    · exact tabDe_kind ws stage level frame page

def InG (x : Int) (v : Value) (w : World) : Prop := ∃ g, v = .slice (some ⟨g, 0, none⟩) 1 1 ∧ w.heap[g]? = some (.cells #[.int .i64 x] intT (0, 0))
def OwnF (B : Nat) (rd : List Int) (R : Option Addr) (c : Nat) (_ : Value) (w : World) : Prop := Own w B intT 1 intCells rd R c
def KeepI (W : World) (_ : Value) (w : World) : Prop := KeepT intT intT W w
def appPs (W : World) (B : Nat) (x : Int) (rd rd3 : List Int) (R : Option Addr) (c : Nat) : List Gp := [⟨some 7, some 8, some 33, NoW, InG x⟩, ⟨none, some 8, none, NoW, OwnF B rd R c⟩, ⟨some 8, none, some 34, NoW, SlF B rd3⟩, ⟨none, none, none, NoW, KeepI W⟩]
section
variable {W : World} {B : Nat} {x : Int} {rd rd3 : List Int} {R : Option Addr} {c : Nat}
theorem InG.keep {v : Value} {w w' : World} (h : InG x v w) (hb : Below w.heap.size w w') : InG x v w' := by
  obtain ⟨g, e, h1⟩ := h
  exact ⟨g, e, (hb.block g (heap_lt h1)).trans h1⟩
theorem stays_app : StaysG (appPs W B x rd rd3 R c) :=
  staysG_cons (fun _ _ _ h hb => InG.keep h hb) (staysG_cons (fun _ _ _ h hb => Own.below h hb (Nat.le_refl _)) (staysG_cons (fun _ _ _ h hb => SlF.keep (rd := rd3) (B := B) h hb) (staysG_cons (fun _ _ _ h hb => KeepT.trans h (.of_below hb)) staysG_nil)))
theorem stabC_app : StabCFrom intT intT 8 2 0 (appPs W B x rd rd3 R c) :=
  stabC_cons (.inr (.inl rfl)) (stabC_cons (.inr (.inl rfl)) (stabC_cons (.inl rfl) (stabC_cons (.inr (.inr fun _ _ _ h k => KeepT.trans h k)) stabC_nil)))
theorem start_app (h : Own W B intT 1 intCells rd R c) : ∀ p ∈ appPs W B x rd rd3 R c, p.on = none → p.slot = none ∧ p.V undef ∧ p.F undef W.drew := by
  intro p hp hn
  simp only [appPs, List.mem_cons, List.not_mem_nil, or_false] at hp
  rcases hp with rfl | rfl | rfl | rfl
  · cases hn
  · exact ⟨rfl, trivial, h⟩
  · cases hn
  · exact ⟨rfl, trivial, ⟨Nat.le_refl _, fun _ _ _ h _ _ => h⟩⟩
end

def NFromPost (g : Nat) (A : Option Addr) (n c : Nat) (two : Rt) (page acc : Int) (w : World) (res : Ht × Ft × List Int) (e : Ending) (w' : World) : Prop :=
  ∃ R cr, e = .returned (.tuple #[.agg res.1.cells.toArray, .agg res.2.1.cells.toArray]) ∧ w'.heap[g]? = some (.cells (nwayRow A n c two page acc R res.2.2.length cr) nwayT (0, 0)) ∧ Own w' (g + 1) intT 1 intCells res.2.2 R cr ∧ Below g w w'

set_option maxRecDepth 100000 in
set_option maxHeartbeats 16000000 in
theorem nFrom_any (g : Nat) (A : Option Addr) (c : Nat) (ws : List Int) (two : Rt) (page acc table : Int) (w0 w : World) (hA : MeAt w0 A c ws) (h0g : w0.heap.size ≤ g) (hb0 : Below w0.heap.size w0 w)
    (hg : w.heap[g]? = some (.cells (nwayRow A ws.length c two page acc none 0 0) nwayT (0, 0))) (ha : accOk acc = true) (hp0 : 0 ≤ page) (hp1 : page ≤ 4095) :
    Calls Try.prog 51 #[.pointer (some ⟨g, 0, none⟩), .int .i64 table] w (NFromPost g A ws.length c two page acc w (transA ws two page acc 4 0 table [])) := by
  have HA := Lib.hid hA
  have HB0 := Lib.hid hb0
  have HAC := Lib.hid ha
  have hgl := heap_lt hg
  have hsz0 := hb0.size
  obtain ⟨n, hn⟩ : ∃ n, ws.length = n := ⟨_, rfl⟩
  have HN := Lib.hid hn
  rw [hn] at hg ⊢
  have HG := Lib.hid (show w.heap[g]? = some (.cells (nwayRow A n c two page acc none ([] : List Int).length 0) nwayT (0, 0)) from hg)
  obtain ⟨res, hres⟩ : ∃ r, transA ws two page acc 4 0 table [] = r := ⟨_, rfl⟩
  have HRES := Lib.hid hres
  rw [hres]
  clear hA hb0 hg ha hres hn
  obtain ⟨j0, hi0, hz0, hz1, hz2⟩ := info_parts int_info
  have HI0 := Lib.hid hi0
  have HZ0 := Lib.hid hz0
  have HZ1 := Lib.hid hz1
  have HZ2 := Lib.hid hz2
  clear hi0 hz0 hz1 hz2
  go_enter Try.func51, Try.ntmps51
  go_wp2_with fail
  go_loopg [1, 11] 4 (fun gg v1 v11 wr => ∃ (k : Nat) (tb : Int) (rd : List Int) (R : Option Addr) (cr : Nat), k ≤ 3 ∧ gg = 4 - k ∧ v11 = .int .i64 k ∧ v1 = .int .i64 tb ∧ transA ws two page acc (3 - k + 1) k tb rd = res ∧ rd.length ≤ 5 * k ∧
    wr.heap[g]? = some (.cells (nwayRow A n c two page acc R rd.length cr) nwayT (0, 0)) ∧ Own wr (g + 1) intT 1 intCells rd R cr ∧ wr.heap[w.heap.size]? = some (.cells zHit hitT (0, 0)) ∧ wr.heap[w.heap.size + 1]? = some (.cells zFault faultT (0, 0)) ∧ Below g w wr)
  case atStart => exact ⟨0, table, [], none, 0, by omega, rfl, rfl, rfl, HRES.out, Nat.le_refl _, (by repeat (first | (with_reducible assumption) | (with_reducible exact HG.out) | (exact heap_at _ _ (by simp; done)) | (with_reducible refine heap_old_is _ _ (by (first | omega | (simp; done) | (simp; omega))) ?_) | (with_reducible refine heap_far_is (by (first | omega | (simp; done) | (simp; omega))) ?_))), World.ownsRow_nil _ _ _ _, (by repeat (first | (with_reducible assumption) | (exact heap_at _ _ (by simp; done)) | (with_reducible refine heap_old_is _ _ (by (first | omega | (simp; done) | (simp; omega))) ?_) | (with_reducible refine heap_far_is (by (first | omega | (simp; done) | (simp; omega))) ?_))), (by repeat (first | (with_reducible assumption) | (exact heap_at _ _ (by simp; done)) | (with_reducible refine heap_old_is _ _ (by (first | omega | (simp; done) | (simp; omega))) ?_) | (with_reducible refine heap_far_is (by (first | omega | (simp; done) | (simp; omega))) ?_))), (by repeat' (first | (with_reducible exact Below.refl _ _) | (with_reducible (refine Below.setCell ?_ ?_ _)) | (with_reducible (refine Below.alloc ?_ ?_ _)) | (with_reducible (refine Below.drew ?_)) | omega | (simp; done) | (simp; omega)))⟩
  case round =>
    obtain ⟨k, tb, rd, R, cr, hk, hgk, rfl, rfl, hrs, hrl, hx, hown, hx4, hx5, hbw⟩ := hrel
    have HGK := Lib.hid hgk
    have HRS := Lib.hid hrs
    have HX4 := Lib.hid hx4
    have HX5 := Lib.hid hx5
    have HBW := Lib.hid hbw
    have hsw := hbw.size
    have hki : (k : Int) < 4 := by omega
    have HMI := Lib.hid (nMid_any g A c ws two page acc rd R cr tb 0 w0 wr HA.out h0g (HB0.out.trans (hbw.mono h0g)) (by omega) (by rw [HN.out]; exact hx) hown)
    rw [HN.out] at HMI
    have hml := midRes_len ws two tb 0
    have hrs2 := HRS.out
    unfold transA at hrs2
    have HTK := Lib.hid (fun fr => tabRes_kind ws 1 k fr page)
    obtain ⟨mr, hmr⟩ : ∃ x, midRes ws two tb 0 = x := ⟨_, rfl⟩
    rw [hmr] at HMI hml hrs2
    clear hgk hrs hx hown hx4 hx5 hbw hmr HRS
    obtain ⟨⟨l0, l1, l2, l3, l4, l5, l6, l7, l8⟩, ⟨m0, m1, m2, m3, m4⟩, rm⟩ := mr
    have HRS := Lib.hid hrs2
    clear hrs2
    unfold WayPost at HMI
    dsimp only [Ht.cells, Ft.cells] at HMI hml
    obtain ⟨rd2, hrd2⟩ : ∃ x, x = rd ++ rm := ⟨_, rfl⟩
    have hrd2l : rd2.length ≤ 5 * k + 4 := by rw [hrd2, List.length_append]; omega
    have HRD := Lib.hid hrd2
    rw [← hrd2] at HMI
    clear hrd2
    go_wp2_with fail
    refine Calls.mono (HMI.out) ?_
    rintro e w2 ⟨R2, cr2, rfl, hg2, ho2, hb2, hk2⟩
    have hs2 := hb2.size
    try simp at hs2
    have HB2 := Lib.hid hb2
    clear hb2
    have Hhg2 := Lib.hid hg2
    clear hg2
    have Hho2 := Lib.hid ho2
    clear ho2
    have E4 := Lib.hid (hk2.2 _ _ _ HX4.out (by decide) (by decide))
    have E5 := Lib.hid (hk2.2 _ _ _ HX5.out (by decide) (by decide))
    have hs2g := hk2.1
    have hg2l := heap_lt Hhg2.out
    clear hk2 HMI HX4 HX5
    have hk52 := heap_lt E5.out
   
    go_upto_region 5 with fail
    refine name_world ?_
    intro w3 hw3
    have F4 := Lib.hid (show w3.heap[w.heap.size]? = some (.cells zHit hitT (0, 0)) by rw [hw3]; exact (by repeat (first | (with_reducible assumption) | (with_reducible exact E4.out) | (exact heap_at _ _ (by simp; done)) | (with_reducible refine heap_old_is _ _ (by (first | omega | (simp; done) | (simp; omega))) ?_) | (with_reducible refine heap_far_is (by (first | omega | (simp; done) | (simp; omega))) ?_))))
    have F5 := Lib.hid (show w3.heap[w.heap.size + 1]? = some (.cells zFault faultT (0, 0)) by rw [hw3]; exact (by repeat (first | (with_reducible assumption) | (with_reducible exact E5.out) | (exact heap_at _ _ (by simp; done)) | (with_reducible refine heap_old_is _ _ (by (first | omega | (simp; done) | (simp; omega))) ?_) | (with_reducible refine heap_far_is (by (first | omega | (simp; done) | (simp; omega))) ?_))))
    have F7 := Lib.hid (show w3.heap[w2.heap.size]? = some (.cells #[.int .i64 l0, .int .i64 l1, .bool l2, .bool l3, .bool l4, .bool l5, .bool l6, .int .i64 l7, .int .i64 l8] hitT (0, 0)) by rw [hw3]; exact (by repeat (first | (with_reducible assumption) | (exact heap_at _ _ (by simp; done)) | (with_reducible refine heap_old_is _ _ (by (first | omega | (simp; done) | (simp; omega))) ?_) | (with_reducible refine heap_far_is (by (first | omega | (simp; done) | (simp; omega))) ?_))))
    have F8 := Lib.hid (show w3.heap[w2.heap.size + 1]? = some (.cells #[.int .i64 m0, .int .i64 m1, .int .i64 m2, .bool m3, .int .i64 m4] faultT (0, 0)) by rw [hw3]; exact (by repeat (first | (with_reducible assumption) | (exact heap_at _ _ (by simp; done)) | (with_reducible refine heap_old_is _ _ (by (first | omega | (simp; done) | (simp; omega))) ?_) | (with_reducible refine heap_far_is (by (first | omega | (simp; done) | (simp; omega))) ?_))))
    have FG := Lib.hid (show w3.heap[g]? = some (.cells (nwayRow A n c two page acc R2 rd2.length cr2) nwayT (0, 0)) by rw [hw3]; exact (by repeat (first | (with_reducible assumption) | (with_reducible exact Hhg2.out) | (exact heap_at _ _ (by simp; done)) | (with_reducible refine heap_old_is _ _ (by (first | omega | (simp; done) | (simp; omega))) ?_) | (with_reducible refine heap_far_is (by (first | omega | (simp; done) | (simp; omega))) ?_))))
    have FO := Lib.hid (show Own w3 (g + 1) intT 1 intCells rd2 R2 cr2 by rw [hw3]; exact (by repeat (first | (with_reducible exact Own.mono Hho2.out (by (first | omega | (simp; done) | (simp; omega)))) | (with_reducible refine Own.set_far ?_ (by (first | omega | (simp; done) | (simp; omega))) _) | (with_reducible refine Own.alloc ?_ _) | (with_reducible refine Own.drew ?_))))
    have FR := Lib.hid (fun p (hp : R2 = some p) => (Hho2.out.block_ hp).2)
    have HBX := Lib.hid (show Below g w w2 from HBW.out.trans HB2.out)
    have FB := Lib.hid (show Below g w w3 by rw [hw3]; exact (HBX.out.alloc (by omega) _).alloc (by simp; omega) _)
    have h3s : w2.heap.size + 2 ≤ w3.heap.size := by rw [hw3]; simp
    clear hw3 E4 E5 Hhg2 Hho2 HBX
    have y7 := fun j => cell_of_row _ _ j _ _ _ F7.out
    have y8 := fun j => cell_of_row _ _ j _ _ _ F8.out
    have yf7 := fun j => frozen_of_row _ _ j _ _ F7.out
    have yf8 := fun j => frozen_of_row _ _ j _ _ F8.out
    have h7l := heap_lt F7.out
    have h8l := heap_lt F8.out
    by_cases hm0 : m0 = 0
    · subst hm0
      have hr3 := HRS.out
      rw [if_pos rfl, ← HRD.out] at hr3
      try dsimp only at hr3
      obtain ⟨rd3, hrd3⟩ : ∃ x, x = rd2 ++ [l0] := ⟨_, rfl⟩
      have hrd3l : rd3.length ≤ 5 * k + 5 := by rw [hrd3, List.length_append]; simp; omega
      have HRD3 := Lib.hid hrd3
      rw [← hrd3] at hr3
      have HR3 := Lib.hid hr3
      clear hr3 hrd3 HRS
      have z6 := cell_of_row _ _ 6 _ _ _ FG.out
      have zf := fun j => frozen_of_row _ _ j _ _ FG.out
      simp only [nwayRow] at z6
      have hg3l := heap_lt FG.out
     
      go_upto_region 8 with fail
      have hBw3 : g ≤ w3.heap.size := Nat.le_of_lt hg3l
      clear z6 zf y7 y8 yf7 yf8
      refine wp_region_lex_tail 9 [33, 34] (GenC g w3 (appPs w3 (g + 1) l0 rd2 rd3 R2 cr2)) (genC_looks (by rfl)) (by kernel_rfl) (by kernel_rfl) (by kernel_rfl) (by kernel_rfl) (genC_start _ (start_app FO.out)) ?_
      repeat (first
        | (refine wpLex_pass (by rfl) (passes_gen stays_app (by rfl)) ?_; (conv => arg 9; simp only [put_lit, put_lit_none, List.set]))
        | (refine wpLex_genMake 0 _ 33 [] hBw3 stays_app rfl (by rfl) (by rfl) (by rfl) (by rfl) (by rfl) (by rfl) (by rfl) (by rfl) ?_ ?_
           · intro u w' hb hk
             try simp only [putS, List.foldl, put_lit, List.set]
             go_simp
             exact makeOk trivial ⟨_, rfl, heap_new _ _⟩ ((Below.refl _ _).alloc (Nat.le_refl _) _)
           (conv => arg 9; simp only [put_lit, put_lit_none, List.set]))
        | (refine wpLex_genCallM intT intT 2 _ 34 [0, 1] rfl (by rfl) (by rfl) (by rfl) (by rfl) (by rfl) (by rfl) (by rfl) (by rfl) stabC_app ?_ ?_
           · intro u w' hb hk
             obtain ⟨g2, e0, hz⟩ := (hk 0 (by simp) _ rfl).2
             have hO : Own w' (g + 1) intT 1 intCells rd2 R2 cr2 := (hk 1 (by simp) _ rfl).2
             have e0' : u 33 = _ := e0
             have hsz := hb.size
             try simp only [putS, List.foldl, put_lit, List.set]
             refine (upon_append_one (.tmp 30) (.tmp 33) _ rfl (g + 1) intT j0 _ 1 8 Try.underlying25 HI0.out HZ0.out HZ1.out HZ2.out rfl (by omega) int_len int_ones rd2 rd3 l0 HRD3.out R2 cr2 rfl hO g2 (by exact e0') hz (by simp only [maxLen]; omega) (by omega) (by omega)).mono ?_
             rintro v w2 ⟨A', c', rfl, q1, q2, q3⟩
             exact ⟨trivial, ⟨A', c', rfl, q1⟩, hb.trans (q2.mono (Nat.le_succ _)), q2.size, fun b cs T hb n1 _ => (q3 b (heap_lt hb) (fun p hp => Own.blk_off hO hb (fun e => n1 e.symm) p hp)).trans hb⟩
           (conv => arg 9; simp only [put_lit, put_lit_none, List.set]))
        | (refine wpLex_genUse [3] hBw3 stays_app (by rfl) (by rfl) (by rfl) ?_
           apply Exists.intro
           refine ⟨?_, ?_⟩
           · intro u w' hb hk
             have hkp : KeepT intT intT w3 w' := (hk 3 (by simp) _ rfl).2
             have hzg := hkp.2 _ _ _ FG.out (by decide) (by decide)
             have hz7 := hkp.2 _ _ _ F7.out (by decide) (by decide)
             have z6 := cell_of_row _ _ 6 _ _ _ hzg
             have zf := fun j => frozen_of_row _ _ j _ _ hzg
             have z7 := fun j => cell_of_row _ _ j _ _ _ hz7
             have zf7 := fun j => frozen_of_row _ _ j _ _ hz7
             simp only [nwayRow] at z6
             clear hzg hz7 hkp hk
             try simp only [putS, List.foldl, put_lit, List.set]
             go_simp
             first
               | exact ⟨rfl, Below.refl _ _⟩
               | exact Below.refl _ _
           (conv => arg 9; simp only [put_lit, put_lit_none, List.set])))
      refine wpLex_nil ?_
      intro w5 bp dp hdp hCp hop
     
      obtain ⟨up, rfl, hbp, hkp⟩ := genC_end hCp hdp hop
      clear hCp hop hdp dp
      simp only [putS, List.foldl, put_lit, List.set, List.drop]
      obtain ⟨R5, c5, e34, ho5⟩ := (hkp 2 _ rfl (by rfl) rfl).2
      have hk5 : KeepT intT intT w3 w5 := (hkp 3 _ rfl (by rfl) rfl).2
      have e34' : up 34 = _ := e34
      rw [e34']
      clear hkp e34 e34'
      generalize up 33 = x33 at *
      clear up
      have HO5 := Lib.hid ho5
      have hg5 := hk5.2 _ _ _ FG.out (by decide) (by decide)
      have S4 := Lib.hid (hk5.2 _ _ _ F4.out (by decide) (by decide))
      have S5 := Lib.hid (hk5.2 _ _ _ F5.out (by decide) (by decide))
      have S7 := Lib.hid (hk5.2 _ _ _ F7.out (by decide) (by decide))
      have SB := Lib.hid (show Below g w w5 from FB.out.trans hbp)
      have HG5 := Lib.hid hg5
      have hs5 := hk5.1
      clear ho5 hk5 hbp
      have g5 := fun j => cell_of_row _ _ j _ _ _ hg5
      have gf5 := fun j => frozen_of_row _ _ j _ _ hg5
      have hg5l := heap_lt hg5
      clear hg5
      simp only [nwayRow] at g5
     
      go_upto_region 9 with fail
      refine name_world ?_
      intro wq hwq
      have Q4 := Lib.hid (show wq.heap[w.heap.size]? = some (.cells zHit hitT (0, 0)) by rw [hwq]; exact (by repeat (first | (with_reducible exact S4.out) | (with_reducible refine heap_far_is (by (first | (dsimp only; omega) | omega | (simp; done) | (simp; omega))) ?_))))
      have Q5 := Lib.hid (show wq.heap[w.heap.size + 1]? = some (.cells zFault faultT (0, 0)) by rw [hwq]; exact (by repeat (first | (with_reducible exact S5.out) | (with_reducible refine heap_far_is (by (first | (dsimp only; omega) | omega | (simp; done) | (simp; omega))) ?_))))
      have Q7 := Lib.hid (show wq.heap[w2.heap.size]? = some (.cells #[.int .i64 l0, .int .i64 l1, .bool l2, .bool l3, .bool l4, .bool l5, .bool l6, .int .i64 l7, .int .i64 l8] hitT (0, 0)) by rw [hwq]; exact (by repeat (first | (with_reducible exact S7.out) | (with_reducible refine heap_far_is (by (first | (dsimp only; omega) | omega | (simp; done) | (simp; omega))) ?_))))
      have QG := Lib.hid (show wq.heap[g]? = some (.cells (nwayRow A n c two page acc R5 rd3.length c5) nwayT (0, 0)) by rw [hwq]; exact heap_set_same HG5.out 6 _)
      have QO := Lib.hid (show Own wq (g + 1) intT 1 intCells rd3 R5 c5 by rw [hwq]; exact (by repeat (first | (with_reducible exact HO5.out) | (with_reducible refine Own.set_far ?_ (by (first | (dsimp only; omega) | omega | (simp; done) | (simp; omega))) _))))
      have QB := Lib.hid (show Below g w wq by rw [hwq]; exact (by repeat' (first | (with_reducible exact SB.out) | (with_reducible refine Below.setCell ?_ ?_ _) | (first | (dsimp only; omega) | omega | (simp; done) | (simp; omega)))))
      clear hwq g5 gf5 S4 S5 S7 SB HG5 HO5
      have HAQ := Lib.hid (HA.out.below (HB0.out.trans (QB.out.mono h0g)))
      have HTB := Lib.hid (fun W (hb : Below wq.heap.size wq W) => Table_any A c ws 1 k l0 page W (HAQ.out.below hb))
      have htk := HTK.out l0
      obtain ⟨er, her⟩ : ∃ x, tabEr ws.length 1 k l0 page = x := ⟨_, rfl⟩
      rw [her] at HTB
      have HLF := Lib.hid (fun (d : De) (hd0 : 0 ≤ d.frame) (hd1 : d.frame ≤ 4095) W (hb : Below g w W) (h1 : W.heap[g]? = some (.cells (nwayRow A n c two page acc R5 rd3.length c5) nwayT (0, 0))) (h2 : Own W (g + 1) intT 1 intCells rd3 R5 c5) => nLeaf_any g A c ws two page acc rd3 R5 c5 d k w0 W HA.out h0g (HB0.out.trans (hb.mono h0g)) (by omega) (by rw [HN.out]; exact h1) h2 HAC.out (by omega) (by omega) hp0 hp1 hd0 hd1)
      rw [HN.out] at HTB HLF
      have hr4 := HR3.out
      clear her HR3
      generalize tabRes ws 1 k l0 page = d at *
      have HR4 := Lib.hid hr4
      clear hr4
      have HLD := Lib.hid (HLF.out d htk.2.2.1 htk.2.2.2)
      clear HLF
      have q7 := fun j => cell_of_row _ _ j _ _ _ Q7.out
      have q0 := cell_of_row _ _ 0 _ _ _ QG.out
      have q4 := cell_of_row _ _ 4 _ _ _ QG.out
      have qf := fun j => frozen_of_row _ _ j _ _ QG.out
      simp only [nwayRow] at q0 q4
      have hq7l := heap_lt Q7.out
      have hqgl := heap_lt QG.out
      obtain ⟨lt, hlt⟩ : ∃ x, leafTr ws two page acc d k = x := ⟨_, rfl⟩
      rw [hlt] at HLD HR4
      clear hlt
      obtain ⟨⟨a0, a1, a2, a3, a4, a5, a6, a7, a8⟩, ⟨b0, b1, b2, b3, b4⟩, rl⟩ := lt
      obtain ⟨dk, df, dr, dw, dx, daf, dng, dso, dno⟩ := d
      unfold WayPost at HLD
      unfold OfPost deV at HTB
      dsimp only [De.cells, Ht.cells, Ft.cells] at HTB htk HLD
      obtain ⟨hk012, hk1, hdf0, hdf1⟩ := htk
     
      refine wp_region_lex [9] (BoxC (wq) 9 15 16 (descT) (#[.int .i64 0, .int .i64 0, .bool false, .bool false, .bool false, .bool false, .bool false, .int .i64 0, .int .i64 0]) (#[.int .i64 dk, .int .i64 df, .bool dr, .bool dw, .bool dx, .bool daf, .bool dng, .int .i64 dso, .int .i64 dno])) boxC_looks (by kernel_rfl) (by kernel_rfl) (by kernel_rfl) (boxC_start _) ?_
      repeat (first
        | (refine wpLex_pass (by rfl) (passes_box (by decide) (by rfl) (by rfl)) ?_; (conv => arg 9; simp only [put_lit, put_lit_none, List.set]))
        | (refine wpLex_box (by rfl) (by rfl) (by decide) (by rfl) (by rfl) ?_
           apply Exists.intro
           refine ⟨?_, ?_⟩
           · intro w' hb
             have hsz := hb.size
             try simp at hsz
             have hcw := fun b o (h : b < (wq).heap.size) => hb.cell (p := ⟨b, o, none⟩) h
             have hfw := fun b o (h : b < (wq).heap.size) => hb.frozen (p := ⟨b, o, none⟩) h
             go_simp
             first
               | exact ⟨rfl, Below.refl _ _⟩
               | exact Below.refl _ _
               | ((with_reducible refine Calls.mono (HTB.out _ (by repeat' (first | (with_reducible exact Below.refl _ _) | (with_reducible (refine Below.setCell ?_ ?_ _)) | (with_reducible (refine Below.alloc ?_ ?_ _)) | (with_reducible (refine Below.drew ?_)) | (with_reducible (refine below_via ?_ hb ?_)) | omega | (simp; done) | (simp; omega)))) ?_); rintro e w2 ⟨rfl, hb2⟩; first | exact ⟨_, rfl, rfl, hb2⟩ | exact ⟨rfl, hb2⟩)
           conv => arg 9; simp only [put_lit, put_lit_none, List.set])
        | (refine wpLex_want undef (by rfl) (comes_alloc rfl rfl (by simp) (by kernel_rfl) rfl (fun w => by go_simp; rfl)) ?_; (conv => arg 9; simp only [put_lit, put_lit_none, List.set]))
        | (refine wpLex_want undef (by rfl) (comes_store rfl (by kernel_rfl) ?_) ?_
           · intro g w' hg hz
             have hzc := fun j => cell_of_row _ _ j _ _ _ hz
             have hzf := fun j => frozen_of_row _ _ j _ _ hz
             simp only [put_lit, List.set]
             go_simp
             exact ⟨(by repeat' (first | (with_reducible exact Below.refl _ _) | (with_reducible (refine Below.setCell ?_ ?_ _)) | omega | (simp; done))), (by simp [World.setCell, Array.getElem?_modify, hz])⟩
           conv => arg 9; simp only [put_lit, put_lit_none, List.set]))
      refine wpLex_nil ?_
      intro wt bt dt hdt hCt hot
      obtain ⟨gt, rfl, hgt, hxt, hbt⟩ := boxC_end hCt (hdt 15 (by decide)) (hdt 16 (by decide)) hot
      clear hCt hdt hot
      simp only [put_lit, List.set]
      have hst := hbt.size
      try simp at hst hgt
      have hlt := heap_lt hxt
      have hct := fun b o (h : b < (wq).heap.size) => hbt.cell (p := ⟨b, o, none⟩) h
      have hft := fun b o (h : b < (wq).heap.size) => hbt.frozen (p := ⟨b, o, none⟩) h
      have HBt := Lib.hid hbt
      have HXt := Lib.hid hxt
      clear hbt hxt
     
      have T4 := Lib.hid ((HBt.out.block _ (by have := heap_lt Q5.out; omega)).trans Q4.out)
      have T5 := Lib.hid ((HBt.out.block _ (heap_lt Q5.out)).trans Q5.out)
      have TG := Lib.hid ((HBt.out.block _ hqgl).trans QG.out)
      have TO := Lib.hid (QO.out.below HBt.out (Nat.le_refl _))
      have TB := Lib.hid (show Below g w wt from below_via QB.out HBt.out (by omega))
      clear q7 q0 q4 qf hct hft HTB
      have d9 := fun j => cell_of_row _ _ j _ _ _ HXt.out
      have df9 := fun j => frozen_of_row _ _ j _ _ HXt.out
      have ht5l := heap_lt T5.out
      have htgl := heap_lt TG.out
      by_cases hd2 : dk = 2
      · subst hd2
        have hr5 := HR4.out
        rw [if_pos rfl] at hr5
        obtain rfl : res = _ := hr5.symm
        have HLD2 := Lib.hid (HLD.out wt TB.out TG.out TO.out)
        obtain ⟨rd4, hrd4⟩ : ∃ x, x = rd3 ++ rl := ⟨_, rfl⟩
        rw [← hrd4] at HLD2 ⊢
       
        go_wp2_with fail
        refine Calls.mono (HLD2.out) ?_
        rintro e w6 ⟨R6, cr6, rfl, hg6, ho6, hb6, hk6⟩
        have hs6 := hb6.size
        try simp at hs6
        have HB6 := Lib.hid hb6
        clear hb6
        have Hhg6 := Lib.hid hg6
        clear hg6
        have Hho6 := Lib.hid ho6
        clear ho6
        have U4 := Lib.hid (hk6.2 _ _ _ T4.out (by decide) (by decide))
        have U5 := Lib.hid (hk6.2 _ _ _ T5.out (by decide) (by decide))
        have u4 := fun j => cell_of_row _ _ j _ _ _ U4.out
        have u5 := fun j => cell_of_row _ _ j _ _ _ U5.out
        have uf4 := fun j => frozen_of_row _ _ j _ _ U4.out
        have uf5 := fun j => frozen_of_row _ _ j _ _ U5.out
        simp only [zHit, zFault] at u4 u5
        have h4l := heap_lt U4.out
        have h5l := heap_lt U5.out
        have UR := Lib.hid (show ∀ p : Addr, R6 = some p → p.block ≠ w.heap.size ∧ p.block ≠ w.heap.size + 1 from fun p hp => ⟨Own.blk_off Hho6.out U4.out (by decide) p hp, Own.blk_off Hho6.out U5.out (by decide) p hp⟩)
        have UB := Lib.hid (show Below g w w6 from TB.out.trans HB6.out)
        clear hk6 d9 df9
        subst hrd4
       
        go_wp2
        refine bodyPost_ret (v := .tuple #[.agg #[.int .i64 a0, .int .i64 a1, .bool a2, .bool a3, .bool a4, .bool a5, .bool a6, .int .i64 a7, .int .i64 a8], .agg #[.int .i64 b0, .int .i64 b1, .int .i64 b2, .bool b3, .int .i64 b4]]) (by simp [results, Try.results51, go_sem, *]) rfl ⟨R6, cr6, rfl, ?_, ?_, ?_⟩
        · show _ = some (Obj.cells (nwayRow A n c two page acc R6 (rd3 ++ rl).length cr6) nwayT (0, 0))
          exact (by repeat (first | (with_reducible exact Hhg6.out) | (with_reducible refine heap_far_is (by (first | (dsimp only; omega) | omega | (simp; done) | (simp; omega))) ?_)))
        · refine Hho6.out.keep2 fun p hp => ?_
          have h := UR.out p hp
          obtain ⟨h1, h2⟩ := h
          exact (by repeat (first | (with_reducible exact rfl) | (with_reducible refine heap_far_is (by (first | (dsimp only; omega) | omega | (simp; done) | (simp; omega))) ?_)))
        · exact (by repeat' (first | (with_reducible exact UB.out) | (with_reducible refine Below.setCell ?_ ?_ _) | (first | (dsimp only; omega) | omega | (simp; done) | (simp; omega))))
      · have qd2 : (dk == 2) = false := by simpa using hd2
        have hr5 := HR4.out
        rw [if_neg hd2] at hr5
        by_cases hd0 : dk = 0
        · subst hd0
          rw [if_pos rfl] at hr5
          obtain rfl : res = _ := hr5.symm
         
          go_upto_region 14 with fail
          refine wp_region_done (fun d w9 => Put2C (wt) 7 (w.heap.size) (hitT) (#[.int .i64 0, .int .i64 0, .bool false, .bool false, .bool false, .bool false, .bool false, .int .i64 0, .int .i64 0]) (#[.int .i64 0, .int .i64 0, .bool false, .bool false, .bool false, .bool false, .bool false, .int .i64 0, .int .i64 0]) 8 (w.heap.size + 1) (faultT) (#[.int .i64 0, .int .i64 0, .int .i64 0, .bool false, .int .i64 0]) (#[.int .i64 2, .int .i64 1, .int .i64 k, .bool false, .int .i64 page]) d w9) (by kernel_rfl) (by kernel_rfl) (put2_start (T4.out) (T5.out)) ?_
          repeat (first
            | (refine wpLex_pass (by rfl) (passes_put2 (by rfl) (by rfl)) ?_; (conv => arg 9; simp only [put_lit, put_lit_none, List.set]))
            | (refine wpLex_put2 (by rfl) (by rfl) (by rfl) ?_
               apply Exists.intro
               refine ⟨?_, ?_⟩
               · intro w' hsz hkw hz1 hz2
                 try (replace hz1 := hz1 rfl; have hzc1 := fun j => cell_of_row _ _ j _ _ _ hz1; have hzf1 := fun j => frozen_of_row _ _ j _ _ hz1)
                 try (replace hz2 := hz2 rfl; have hzc2 := fun j => cell_of_row _ _ j _ _ _ hz2; have hzf2 := fun j => frozen_of_row _ _ j _ _ hz2)
                 have q0_ := (hkw (g) (by omega) (by omega) (by omega)).trans ((show wt.heap[g]? = some (.cells #[.slice A n c, .bool two.on, .int .i64 two.frame, .int .i64 two.tag, .int .i64 page, .int .i64 acc, .slice R5 rd3.length c5] nwayT (0, 0)) from TG.out)); have q0 := fun j => cell_of_row _ _ j _ _ _ q0_; have qf0 := fun j => frozen_of_row _ _ j _ _ q0_; clear q0_
                 clear hkw
                 try clear hz1
                 try clear hz2
                 go_simp
                 first
                   | exact ⟨rfl, Below.refl _ _⟩
                   | exact Below.refl _ _
               conv => arg 9; simp only [put_lit, put_lit_none, List.set])
            | (refine wpLex_put2a (by rfl) (by rfl) (by rfl) (by omega) undef ?_ ?_
               · intro w' hz
                 have hzc := fun j => cell_of_row _ _ j _ _ _ hz
                 have hzf := fun j => frozen_of_row _ _ j _ _ hz
                 go_simp
                 exact ⟨(by repeat' (first | (with_reducible exact Below.refl _ _) | (with_reducible (refine Below.setCell ?_ ?_ _)) | omega | (simp; done))), (fun x hx => by repeat (rw [heap_set_other (by exact hx)])), (by simp [World.setCell, Array.getElem?_modify, hz])⟩
               conv => arg 9; simp only [put_lit, put_lit_none, List.set])
            | (refine wpLex_put2b (by rfl) (by rfl) (by rfl) (by omega) undef ?_ ?_
               · intro w' hz
                 have hzc := fun j => cell_of_row _ _ j _ _ _ hz
                 have hzf := fun j => frozen_of_row _ _ j _ _ hz
                 go_simp
                 exact ⟨(by repeat' (first | (with_reducible exact Below.refl _ _) | (with_reducible (refine Below.setCell ?_ ?_ _)) | omega | (simp; done))), (fun x hx => by repeat (rw [heap_set_other (by exact hx)])), (by simp [World.setCell, Array.getElem?_modify, hz])⟩
               conv => arg 9; simp only [put_lit, put_lit_none, List.set]))
          refine wpLex_nil ?_
          intro wv dv hdv hCv
          obtain ⟨hbv, hkv, hxv, hyv⟩ := put2_done hCv (hdv 7 (by decide)) (hdv 8 (by decide))
          clear hCv hdv
          have hsv := hbv.size
          have HBv := Lib.hid hbv
          have HKv := Lib.hid hkv
          have HXv := Lib.hid hxv
          have HYv := Lib.hid hyv
          clear hbv hkv hxv hyv
          have e8 := fun j => cell_of_row _ _ j _ _ _ HXv.out
          have e9 := fun j => cell_of_row _ _ j _ _ _ HYv.out
          clear d9 df9
          go_wp2
          refine bodyPost_ret (v := .tuple #[.agg noHt.cells.toArray, .agg #[.int .i64 2, .int .i64 1, .int .i64 k, .bool false, .int .i64 page]]) (by simp [noHt, Ht.cells, results, Try.results51, go_sem, *]) rfl ⟨R5, c5, rfl, ?_, ?_, ?_⟩
          · exact (HKv.out g htgl (by omega) (by omega)).trans TG.out
          · exact TO.out.keep2 fun p hp => HKv.out p.block (TO.out.block_ hp).2 (Own.blk_off TO.out T4.out (by decide) p hp) (Own.blk_off TO.out T5.out (by decide) p hp)
          · exact below_via TB.out HBv.out (by omega)
        · have qd0 : (dk == 0) = false := by simpa using hd0
          have hk3 := hk1 (by omega)
          rw [if_neg hd0] at hr5
          have HRN := Lib.hid (show transA ws two page acc (3 - (k + 1) + 1) ((k + 1 : Nat) : Int) df rd3 = res by rw [show 3 - (k + 1) + 1 = 3 - k by omega]; exact hr5)
          clear hr5
         
          go_wp2_with fail
          go_roundg (4 - (k + 1))
          case rel => exact ⟨k + 1, df, rd3, R5, c5, by omega, rfl, by go_num, rfl, HRN.out, by omega, TG.out, TO.out, T4.out, T5.out, TB.out⟩
          case measure => have := HGK.out; omega
    · have qm : (m0 != 0) = true := by simpa using hm0
      have hr3 := HRS.out
      rw [if_neg hm0, ← HRD.out] at hr3
      obtain rfl : res = _ := hr3.symm
     
      go_upto_region 7 with fail
      refine name_world ?_
      intro w7 hw7
      have K4 := Lib.hid (show w7.heap[w.heap.size]? = some (.cells zHit hitT (0, 0)) by rw [hw7]; exact (by repeat (first | (with_reducible exact F4.out) | (with_reducible refine heap_far_is (by (first | (dsimp only; omega) | omega | (simp; done) | (simp; omega))) ?_))))
      have K5 := Lib.hid (show w7.heap[w.heap.size + 1]? = some (.cells zFault faultT (0, 0)) by rw [hw7]; exact (by repeat (first | (with_reducible exact F5.out) | (with_reducible refine heap_far_is (by (first | (dsimp only; omega) | omega | (simp; done) | (simp; omega))) ?_))))
      have K8 := Lib.hid (show w7.heap[w2.heap.size + 1]? = some (.cells #[.int .i64 m0, .int .i64 m1, .int .i64 m2, .bool true, .int .i64 m4] faultT (0, 0)) by rw [hw7]; exact heap_set_same F8.out 3 _)
      have KG := Lib.hid (show w7.heap[g]? = some (.cells (nwayRow A n c two page acc R2 rd2.length cr2) nwayT (0, 0)) by rw [hw7]; exact (by repeat (first | (with_reducible exact FG.out) | (with_reducible refine heap_far_is (by (first | (dsimp only; omega) | omega | (simp; done) | (simp; omega))) ?_))))
      have KO := Lib.hid (show Own w7 (g + 1) intT 1 intCells rd2 R2 cr2 from FO.out.keep2 fun p hp => by
        have h := FR.out p hp
        rw [hw7]
        exact (by repeat (first | (with_reducible exact rfl) | (with_reducible refine heap_far_is (by (first | (dsimp only; omega) | omega | (simp; done) | (simp; omega))) ?_))))
      have KB := Lib.hid (show Below g w w7 by rw [hw7]; exact (by repeat' (first | (with_reducible exact FB.out) | (with_reducible refine Below.setCell ?_ ?_ _) | (first | (dsimp only; omega) | omega | (simp; done) | (simp; omega)))))
      have k8l := heap_lt K8.out
      clear hw7 y7 y8 yf7 yf8
      refine wp_region_done (fun d w9 => Put2C (w7) 2 (w.heap.size) (hitT) (#[.int .i64 0, .int .i64 0, .bool false, .bool false, .bool false, .bool false, .bool false, .int .i64 0, .int .i64 0]) (#[.int .i64 0, .int .i64 0, .bool false, .bool false, .bool false, .bool false, .bool false, .int .i64 0, .int .i64 0]) 3 (w.heap.size + 1) (faultT) (#[.int .i64 0, .int .i64 0, .int .i64 0, .bool false, .int .i64 0]) (#[.int .i64 m0, .int .i64 m1, .int .i64 m2, .bool true, .int .i64 m4]) d w9) (by kernel_rfl) (by kernel_rfl) (put2_start (K4.out) (K5.out)) ?_
      repeat (first
        | (refine wpLex_pass (by rfl) (passes_put2 (by rfl) (by rfl)) ?_; (conv => arg 9; simp only [put_lit, put_lit_none, List.set]))
        | (refine wpLex_put2 (by rfl) (by rfl) (by rfl) ?_
           apply Exists.intro
           refine ⟨?_, ?_⟩
           · intro w' hsz hkw hz1 hz2
             try (replace hz1 := hz1 rfl; have hzc1 := fun j => cell_of_row _ _ j _ _ _ hz1; have hzf1 := fun j => frozen_of_row _ _ j _ _ hz1)
             try (replace hz2 := hz2 rfl; have hzc2 := fun j => cell_of_row _ _ j _ _ _ hz2; have hzf2 := fun j => frozen_of_row _ _ j _ _ hz2)
             have q0_ := (hkw (w2.heap.size + 1) (by omega) (by omega) (by omega)).trans (K8.out); have q0 := fun j => cell_of_row _ _ j _ _ _ q0_; have qf0 := fun j => frozen_of_row _ _ j _ _ q0_; clear q0_
             clear hkw
             try clear hz1
             try clear hz2
             go_simp
             first
               | exact ⟨rfl, Below.refl _ _⟩
               | exact Below.refl _ _
           conv => arg 9; simp only [put_lit, put_lit_none, List.set])
        | (refine wpLex_put2a (by rfl) (by rfl) (by rfl) (by omega) undef ?_ ?_
           · intro w' hz
             have hzc := fun j => cell_of_row _ _ j _ _ _ hz
             have hzf := fun j => frozen_of_row _ _ j _ _ hz
             go_simp
             exact ⟨(by repeat' (first | (with_reducible exact Below.refl _ _) | (with_reducible (refine Below.setCell ?_ ?_ _)) | omega | (simp; done))), (fun x hx => by repeat (rw [heap_set_other (by exact hx)])), (by simp [World.setCell, Array.getElem?_modify, hz])⟩
           conv => arg 9; simp only [put_lit, put_lit_none, List.set])
        | (refine wpLex_put2b (by rfl) (by rfl) (by rfl) (by omega) undef ?_ ?_
           · intro w' hz
             have hzc := fun j => cell_of_row _ _ j _ _ _ hz
             have hzf := fun j => frozen_of_row _ _ j _ _ hz
             go_simp
             exact ⟨(by repeat' (first | (with_reducible exact Below.refl _ _) | (with_reducible (refine Below.setCell ?_ ?_ _)) | omega | (simp; done))), (fun x hx => by repeat (rw [heap_set_other (by exact hx)])), (by simp [World.setCell, Array.getElem?_modify, hz])⟩
           conv => arg 9; simp only [put_lit, put_lit_none, List.set]))
      refine wpLex_nil ?_
      intro wt dt hdt hCt
      obtain ⟨hbt, hkt, hxt, hyt⟩ := put2_done hCt (hdt 2 (by decide)) (hdt 3 (by decide))
      clear hCt hdt
      have hst := hbt.size
      have HBt := Lib.hid hbt
      have HKt := Lib.hid hkt
      have HXt := Lib.hid hxt
      have HYt := Lib.hid hyt
      clear hbt hkt hxt hyt
      have e8 := fun j => cell_of_row _ _ j _ _ _ HXt.out
      have e9 := fun j => cell_of_row _ _ j _ _ _ HYt.out
      go_wp2
      refine bodyPost_ret (v := .tuple #[.agg noHt.cells.toArray, .agg #[.int .i64 m0, .int .i64 m1, .int .i64 m2, .bool true, .int .i64 m4]]) (by simp [noHt, Ht.cells, results, Try.results51, go_sem, *]) rfl ⟨R2, cr2, rfl, ?_, ?_, ?_⟩
      · exact (HKt.out g (heap_lt KG.out) (by omega) (by omega)).trans KG.out
      · exact KO.out.keep2 fun p hp => HKt.out p.block (KO.out.block_ hp).2 (Own.blk_off KO.out K4.out (by decide) p hp) (Own.blk_off KO.out K5.out (by decide) p hp)
      · exact below_via KB.out HBt.out (by omega)

end Go.Proofs.Ytddbndmbcdeggaa
