/-
  The way through both stages: one more intermediate page. Conditions: the way's block reads as such.
-/
import Derived.Test.YtddbndmbcdeggaaNsB
import Derived.Test.YtddbndmbcdeggaaGenC
namespace Go.Proofs.Ytddbndmbcdeggaa
open Go Go.RowKit

theorem wpList_many {P : Program} {α : Type} {f : α → List Value} {w : World} {ops : Array Oper} {rest : List Oper} {o : Oper} {a : Act} {Q : Exit → Act → World → Prop} (hgd : o.guard = none) (s x : Operand) (t : TypeId)
    (ho : o.op = .call { callee := .builtin .append, args := #[s, x], argTypes := #[t, t] })
    (base base2 : Nat) (e : TypeId) (i : TypeInfo) (z : Value) (size bytes : Nat) (ht : P.underlying t = some (.slice e)) (hi : P.info? e = some i) (hz : i.zero = some z)
    (hsize : i.size = size) (hby : i.bytes = bytes) (hzs : z.cells.size = size) (hsz : 0 < size) (h1 : ∀ a, ∀ u ∈ f a, u.oneCell' = true)
    (l l' ys : List α) (hl : l' = l ++ ys) (A : Option Addr) (c : Nat) (hs : a.eval s = .slice A l.length c) (hown : Own w base e size f l A c) (A2 : Option Addr) (c2 : Nat) (hx : a.eval x = .slice A2 ys.length c2) (hown2 : Own w base2 e size f ys A2 c2)
    (h63 : l.length + ys.length ≤ maxLen) (hbytes : (l.length + ys.length) * bytes ≤ 140737488355328) (hbase : base ≤ w.heap.size)
    (h : ∀ A' c' w', Own w' base e size f l' A' c' → Below base w w' → (∀ b, b < w.heap.size → (∀ p : Addr, A = some p → p.block ≠ b) → w'.heap[b]? = w.heap[b]?) → wpList P ops Q rest (a.put o.dst (.slice A' l'.length c')) w') : wpList P ops Q (o :: rest) a w := by
  refine wpList_append_any w hgd s x t ho base e i z size bytes ht hi hz hsize hby hzs hsz _ l.length (l.flatMap f) hs hown w.heap.size A2 ys.length c2 (ys.flatMap f) hx (Reads.of_own hown2) (fun u hu => by
    obtain ⟨y, _, hy⟩ := List.mem_flatMap.1 hu
    exact h1 y u hy) h63 hbytes hbase ?_
  intro v' w' hown' hgr _
  have hown3 : w'.ownsRow base e size v' l'.length (l'.flatMap f) := by rw [hl, List.length_append, List.flatMap_append]; exact hown'
  obtain ⟨A', c', rfl, ho'⟩ := own_form hown3
  refine h A' c' w' ho' ((Below.refl _ _).grown hgr hbase (fun k hk => (World.ownsRow.lt hown k hk).1)) (fun b hb hne => hgr.block b hb (fun e => ?_))
  cases A with
  | none => cases e
  | some p =>
    have : b = p.block := by injection e
    exact hne p rfl this.symm

theorem Own.blk_off {α : Type} {w : World} {base : Nat} {e : TypeId} {size : Nat} {f : α → List Value} {l : List α} {A : Option Addr} {c g : Nat} {cs : Array Value} {t : TypeId} (h : Own w base e size f l A c) (hx : w.heap[g]? = some (.cells cs t (0, 0))) (hne : e ≠ t) : ∀ p : Addr, A = some p → p.block ≠ g := by
  intro p hp he
  rcases h.2 with ⟨h1, _⟩ | ⟨g1, cap1, cur1, e3, _, h3, _⟩
  · injection h1 with h1; rw [hp] at h1; cases h1
  injection e3 with e3; rw [hp] at e3; injection e3 with e3; subst e3
  dsimp only at he
  subst he
  rw [h3] at hx
  injection hx with hx
  injection hx with _ h5
  exact hne h5

def nwayT : TypeId := 91
def nwayRow (A : Option Addr) (n c : Nat) (two : Rt) (page acc : Int) (R : Option Addr) (k cr : Nat) : Array Value := #[.slice A n c, .bool two.on, .int .i64 two.frame, .int .i64 two.tag, .int .i64 page, .int .i64 acc, .slice R k cr]
/-- What comes of a step of the way. -/
def WayPost (g : Nat) (A : Option Addr) (n c : Nat) (two : Rt) (page acc : Int) (w : World) (h : Ht) (f : Ft) (rd : List Int) (e : Ending) (w' : World) : Prop :=
  ∃ R cr, e = .returned (.tuple #[.agg h.cells.toArray, .agg f.cells.toArray]) ∧ w'.heap[g]? = some (.cells (nwayRow A n c two page acc R rd.length cr) nwayT (0, 0)) ∧ Own w' (g + 1) intT 1 intCells rd R cr ∧ Below g w w' ∧ KeepT intT nwayT w w'

theorem midRes_len (ws : List Int) (two : Rt) (mid acc : Int) : (midRes ws two mid acc).2.2.length ≤ 4 := by
  unfold midRes
  cases midOk ws.length two mid acc
  · exact Nat.zero_le _
  · show (midOf ws two mid acc).2.2.length ≤ 4
    unfold midOf
    cases two.on
    · show (offMid ws.length mid).2.2.length ≤ 4
      unfold offMid
      by_cases h : (ws.length : Int) / 8 ≤ mid
      · rw [if_pos h]; exact Nat.zero_le _
      · rw [if_neg h]; exact Nat.zero_le _
    · exact walkG_len ws 2 mid 4 0 two.frame []

set_option maxRecDepth 100000 in
set_option maxHeartbeats 16000000 in
theorem nMid_any (g : Nat) (A : Option Addr) (c : Nat) (ws : List Int) (two : Rt) (page acc : Int) (rd0 : List Int) (R0 : Option Addr) (c0 : Nat) (mid ac : Int) (w0 w : World) (hA : MeAt w0 A c ws) (_h0g : w0.heap.size ≤ g) (hb0 : Below w0.heap.size w0 w) (hl0 : rd0.length ≤ 100)
    (hg : w.heap[g]? = some (.cells (nwayRow A ws.length c two page acc R0 rd0.length c0) nwayT (0, 0))) (ho : Own w (g + 1) intT 1 intCells rd0 R0 c0) :
    Calls Try.prog 52 #[.pointer (some ⟨g, 0, none⟩), .int .i64 mid, .int .i64 ac] w (WayPost g A ws.length c two page acc w (midRes ws two mid ac).1 (midRes ws two mid ac).2.1 (rd0 ++ (midRes ws two mid ac).2.2)) := by
  have HG := Lib.hid hg
  have HO := Lib.hid ho
  have hgl := heap_lt hg
  have hsz0 := hb0.size
  have HMI := Lib.hid (fun W (hb : Below w0.heap.size w W) => Mid_any A c ws two mid ac W (hA.below (hb0.trans hb)))
  have hml := midRes_len ws two mid ac
  obtain ⟨er, her⟩ : ∃ x, midEr ws.length two mid ac = x := ⟨_, rfl⟩
  rw [her] at HMI
  clear hA hb0 hg ho her
  obtain ⟨res, hres⟩ : ∃ r, midRes ws two mid ac = r := ⟨_, rfl⟩
  rw [hres] at HMI hml ⊢
  clear hres
  obtain ⟨⟨l0, l1, l2, l3, l4, l5, l6, l7, l8⟩, ⟨m0, m1, m2, m3, m4⟩, rd⟩ := res
  dsimp only [Ht.cells, Ft.cells] at HMI hml ⊢
  obtain ⟨rd2, hrd2⟩ : ∃ x, x = rd0 ++ rd := ⟨_, rfl⟩
  have HRD := Lib.hid hrd2
  rw [← hrd2]
  clear hrd2
  obtain ⟨n, hn⟩ : ∃ n, ws.length = n := ⟨_, rfl⟩
  rw [hn] at HG HMI ⊢
  clear hn
  obtain ⟨on, tf, tg⟩ := two
  dsimp only [Rt.cells] at *
  obtain ⟨j0, hi0, hz0, hz1, hz2⟩ := info_parts int_info
  have HI0 := Lib.hid hi0
  have HZ0 := Lib.hid hz0
  have HZ1 := Lib.hid hz1
  have HZ2 := Lib.hid hz2
  clear hi0 hz0 hz1 hz2
  go_enter Try.func52, Try.ntmps52
  go_upto_region 1 with fail
  refine name_world ?_
  intro w1 hw1
  have H6 := Lib.hid (show w1.heap[w.heap.size]? = some (.cells zHit hitT (0, 0)) by rw [hw1]; exact (by repeat (first | (with_reducible assumption) | (exact heap_at _ _ (by simp; done)) | (with_reducible refine heap_old_is _ _ (by (first | omega | (simp; done) | (simp; omega))) ?_) | (with_reducible refine heap_far_is (by (first | omega | (simp; done) | (simp; omega))) ?_))))
  have H7 := Lib.hid (show w1.heap[w.heap.size + 1]? = some (.cells zFault faultT (0, 0)) by rw [hw1]; exact (by repeat (first | (with_reducible assumption) | (exact heap_at _ _ (by simp; done)) | (with_reducible refine heap_old_is _ _ (by (first | omega | (simp; done) | (simp; omega))) ?_) | (with_reducible refine heap_far_is (by (first | omega | (simp; done) | (simp; omega))) ?_))))
  have HG1 := Lib.hid (show w1.heap[g]? = some (.cells (nwayRow A n c ⟨on, tf, tg⟩ page acc R0 rd0.length c0) nwayT (0, 0)) by rw [hw1]; exact (by repeat (first | (with_reducible assumption) | (with_reducible exact HG.out) | (exact heap_at _ _ (by simp; done)) | (with_reducible refine heap_old_is _ _ (by (first | omega | (simp; done) | (simp; omega))) ?_) | (with_reducible refine heap_far_is (by (first | omega | (simp; done) | (simp; omega))) ?_))))
  have HO1 := Lib.hid (show Own w1 (g + 1) intT 1 intCells rd0 R0 c0 by rw [hw1]; exact (by repeat (first | (with_reducible exact Own.mono HO.out (by (first | omega | (simp; done) | (simp; omega)))) | (with_reducible refine Own.set_far ?_ (by (first | omega | (simp; done) | (simp; omega))) _) | (with_reducible refine Own.alloc ?_ _) | (with_reducible refine Own.drew ?_))))
  have HR0 := Lib.hid (fun p (hp : R0 = some p) => HO.out.block_ hp)
  have HB1 := Lib.hid (show Below w.heap.size w w1 by rw [hw1]; repeat' (first | (with_reducible exact Below.refl _ _) | (with_reducible (refine Below.setCell ?_ ?_ _)) | (with_reducible (refine Below.alloc ?_ ?_ _)) | (with_reducible (refine Below.drew ?_)) | omega | (simp; done) | (simp; omega)))
  have hs1 : w.heap.size + 2 ≤ w1.heap.size := by rw [hw1]; simp
  clear hw1
  have x0 := cell_of_row _ _ 0 _ _ _ HG1.out
  have x1 := cell_of_row _ _ 1 _ _ _ HG1.out
  have x2 := cell_of_row _ _ 2 _ _ _ HG1.out
  have x3 := cell_of_row _ _ 3 _ _ _ HG1.out
  have xf := fun j => frozen_of_row _ _ j _ _ HG1.out
  simp only [nwayRow] at x0 x1 x2 x3
  have hg1l := heap_lt HG1.out
  have HMI1 := Lib.hid (fun W (hb : Below w1.heap.size w1 W) => HMI.out W ((HB1.out.mono (by omega)).trans (hb.mono (by omega))))
 
  refine wp_region_lex [23, 12, 26, 8, 9, 10] (GenC ((w1).heap.size) (w1) (quadPs (w1).heap.size (w1).heap.size #[.int .i64 l0, .int .i64 l1, .bool l2, .bool l3, .bool l4, .bool l5, .bool l6, .int .i64 l7, .int .i64 l8] #[.int .i64 m0, .int .i64 m1, .int .i64 m2, .bool m3, .int .i64 m4] [.int .i64 er] (rd) 23 12 26 8 9 10 10 11 14 16 17 18 19 20)) (genC_looks (by rfl)) (by kernel_rfl) (by kernel_rfl) (by kernel_rfl) (genC_start _ (start_quad)) ?_
  repeat (first
    | (refine wpLex_genMake 0 _ 23 [] (Nat.le_refl _) stays_quad rfl (by rfl) (by rfl) (by rfl) (by rfl) (by rfl) (by rfl) (by rfl) (by rfl) ?_ ?_
       · intro u w' hb hk
         have hsz := hb.size
         try simp at hsz
         have hcw := fun b o (h : b < (w1).heap.size) => hb.cell (p := ⟨b, o, none⟩) h
         have hfw := fun b o (h : b < (w1).heap.size) => hb.frozen (p := ⟨b, o, none⟩) h
         try simp only [putS, List.foldl, put_lit, List.set]
         go_simp
         (with_reducible refine Calls.mono (HMI1.out _ (by repeat' (first | (with_reducible exact Below.refl _ _) | (with_reducible (refine Below.setCell ?_ ?_ _)) | (with_reducible (refine Below.alloc ?_ ?_ _)) | (with_reducible (refine Below.drew ?_)) | (with_reducible (refine below_via ?_ hb ?_)) | omega | (simp; done) | (simp; omega)))) ?_)
         rintro e w2 ⟨R, c, rfl, h1, hb2⟩
         exact ⟨_, rfl, makeOk ⟨_, rfl⟩ ⟨R, c, rfl, h1.mono (by first | exact Nat.le_refl _ | exact hsz | omega)⟩ hb2⟩
       (conv => arg 9; simp only [put_lit, put_lit_none, List.set]))
    | (refine wpLex_genMake 1 _ 12 [0] (Nat.le_refl _) stays_quad rfl (by rfl) (by rfl) (by rfl) (by rfl) (by rfl) (by rfl) (by rfl) (by rfl) ?_ ?_
       · intro u w' hb hk
         have hsz := hb.size
         try simp at hsz
         have hcw := fun b o (h : b < (w1).heap.size) => hb.cell (p := ⟨b, o, none⟩) h
         have hfw := fun b o (h : b < (w1).heap.size) => hb.frozen (p := ⟨b, o, none⟩) h
         try simp only [putS, List.foldl, put_lit, List.set]
         obtain ⟨R, c, e0, h1⟩ := (hk 0 (by simp) _ rfl).2
         have e0' : u 23 = .tuple #[.agg #[.int .i64 l0, .int .i64 l1, .bool l2, .bool l3, .bool l4, .bool l5, .bool l6, .int .i64 l7, .int .i64 l8], .agg #[.int .i64 m0, .int .i64 m1, .int .i64 m2, .bool m3, .int .i64 m4], .slice R (rd).length c, .int .i64 er] := e0
         rw [e0']
         go_simp
         exact makeOk ⟨_, rfl⟩ ⟨R, c, rfl, h1⟩ (Below.refl _ _)
       (conv => arg 9; simp only [put_lit, put_lit_none, List.set]))
    | (refine wpLex_genMake 2 _ 26 [1] (Nat.le_refl _) stays_quad rfl (by rfl) (by rfl) (by rfl) (by rfl) (by rfl) (by rfl) (by rfl) (by rfl) ?_ ?_
       · intro u w' hb hk
         have hsz := hb.size
         try simp at hsz
         have hcw := fun b o (h : b < (w1).heap.size) => hb.cell (p := ⟨b, o, none⟩) h
         have hfw := fun b o (h : b < (w1).heap.size) => hb.frozen (p := ⟨b, o, none⟩) h
         try simp only [putS, List.foldl, put_lit, List.set]
         obtain ⟨R, c, e0, h1⟩ := (hk 1 (by simp) _ rfl).2
         have e0' : u 12 = .tuple #[.agg #[.int .i64 l0, .int .i64 l1, .bool l2, .bool l3, .bool l4, .bool l5, .bool l6, .int .i64 l7, .int .i64 l8], .agg #[.int .i64 m0, .int .i64 m1, .int .i64 m2, .bool m3, .int .i64 m4], .slice R (rd).length c, .int .i64 er] := e0
         rw [e0']
         go_simp
         exact makeOk trivial ⟨R, c, rfl, h1⟩ (Below.refl _ _)
       (conv => arg 9; simp only [put_lit, put_lit_none, List.set]))
    | (refine wpLex_genUseV [1] (Nat.le_refl _) stays_quad (by rfl) (by rfl) (by rfl) ?_
       apply Exists.intro
       refine ⟨?_, ?_⟩
       · intro u w' hb hk
         have hsz := hb.size
         try simp at hsz
         have hcw := fun b o (h : b < (w1).heap.size) => hb.cell (p := ⟨b, o, none⟩) h
         have hfw := fun b o (h : b < (w1).heap.size) => hb.frozen (p := ⟨b, o, none⟩) h
         try simp only [putS, List.foldl, put_lit, List.set]
         obtain ⟨x, e0⟩ := hk 1 (by simp) _ rfl
         have e0' : u 12 = .tuple #[.agg #[.int .i64 l0, .int .i64 l1, .bool l2, .bool l3, .bool l4, .bool l5, .bool l6, .int .i64 l7, .int .i64 l8], .agg #[.int .i64 m0, .int .i64 m1, .int .i64 m2, .bool m3, .int .i64 m4], x, .int .i64 er] := e0
         rw [e0']
         go_simp
         exact ⟨rfl, Below.refl _ _⟩
       (conv => arg 9; simp only [put_lit, put_lit_none, List.set]))
    | (refine wpLex_genMake 7 _ 10 [2] (Nat.le_refl _) stays_quad rfl (by rfl) (by rfl) (by rfl) (by rfl) (by rfl) (by rfl) (by rfl) (by rfl) ?_ ?_
       · intro u w' hb hk
         have hsz := hb.size
         try simp at hsz
         have hcw := fun b o (h : b < (w1).heap.size) => hb.cell (p := ⟨b, o, none⟩) h
         have hfw := fun b o (h : b < (w1).heap.size) => hb.frozen (p := ⟨b, o, none⟩) h
         try simp only [putS, List.foldl, put_lit, List.set]
         obtain ⟨R, c, e0, h1⟩ := (hk 2 (by simp) _ rfl).2
         have e0' : u 26 = .slice R (rd).length c := e0
         rw [e0']
         go_simp
         exact makeOk trivial ⟨R, c, rfl, h1⟩ (Below.refl _ _)
       (conv => arg 9; simp only [put_lit, put_lit_none, List.set]))
    | (refine wpLex_genMake 3 _ 8 [] (Nat.le_refl _) stays_quad rfl (by rfl) (by rfl) (by rfl) (by rfl) (by rfl) (by rfl) (by rfl) (by rfl) ?_ ?_
       · intro u w' hb hk
         have hsz := hb.size
         try simp at hsz
         have hcw := fun b o (h : b < (w1).heap.size) => hb.cell (p := ⟨b, o, none⟩) h
         have hfw := fun b o (h : b < (w1).heap.size) => hb.frozen (p := ⟨b, o, none⟩) h
         try simp only [putS, List.foldl, put_lit, List.set]
         go_simp
         exact makeOk trivial ⟨_, rfl, hsz, heap_new _ _⟩ ((Below.refl _ _).alloc (Nat.le_refl _) _)
       (conv => arg 9; simp only [put_lit, put_lit_none, List.set]))
    | (refine wpLex_genMake 4 _ 9 [] (Nat.le_refl _) stays_quad rfl (by rfl) (by rfl) (by rfl) (by rfl) (by rfl) (by rfl) (by rfl) (by rfl) ?_ ?_
       · intro u w' hb hk
         have hsz := hb.size
         try simp at hsz
         have hcw := fun b o (h : b < (w1).heap.size) => hb.cell (p := ⟨b, o, none⟩) h
         have hfw := fun b o (h : b < (w1).heap.size) => hb.frozen (p := ⟨b, o, none⟩) h
         try simp only [putS, List.foldl, put_lit, List.set]
         go_simp
         exact makeOk trivial ⟨_, rfl, hsz, heap_new _ _⟩ ((Below.refl _ _).alloc (Nat.le_refl _) _)
       (conv => arg 9; simp only [put_lit, put_lit_none, List.set]))
    | (refine wpLex_genStore hitT 5 _ [3] rfl (by rfl) (by rfl) (by rfl) (by rfl) (by rfl) (by rfl) stab_quad1 ?_ ?_
       · intro u w' hb hk
         have hsz := hb.size
         try simp at hsz
         have hcw := fun b o (h : b < (w1).heap.size) => hb.cell (p := ⟨b, o, none⟩) h
         have hfw := fun b o (h : b < (w1).heap.size) => hb.frozen (p := ⟨b, o, none⟩) h
         try simp only [putS, List.foldl, put_lit, List.set]
         obtain ⟨g, e0, hg, hz⟩ := (hk 3 (by simp) _ rfl).2
         have e0' : u 8 = _ := e0
         rw [e0']
         have hzc := fun j => cell_of_row _ _ j _ _ _ hz
         have hzf := fun j => frozen_of_row _ _ j _ _ hz
         simp only [zHit] at hzc
         go_simp
         exact storeOk trivial ⟨g, e0, hg, by simp [World.setCell, Array.getElem?_modify, hz, zHit]⟩ (by repeat' (first | (with_reducible exact hb) | (with_reducible (refine Below.setCell ?_ ?_ _)) | omega | (simp; done))) (by simp) g hz (fun x hx => by repeat (rw [heap_set_other (by exact hx)])))
    | (refine wpLex_genStore faultT 6 _ [4] rfl (by rfl) (by rfl) (by rfl) (by rfl) (by rfl) (by rfl) stab_quad2 ?_ ?_
       · intro u w' hb hk
         have hsz := hb.size
         try simp at hsz
         have hcw := fun b o (h : b < (w1).heap.size) => hb.cell (p := ⟨b, o, none⟩) h
         have hfw := fun b o (h : b < (w1).heap.size) => hb.frozen (p := ⟨b, o, none⟩) h
         try simp only [putS, List.foldl, put_lit, List.set]
         obtain ⟨g, e0, hg, hz⟩ := (hk 4 (by simp) _ rfl).2
         have e0' : u 9 = _ := e0
         rw [e0']
         have hzc := fun j => cell_of_row _ _ j _ _ _ hz
         have hzf := fun j => frozen_of_row _ _ j _ _ hz
         simp only [zFault] at hzc
         go_simp
         exact storeOk trivial ⟨g, e0, hg, by simp [World.setCell, Array.getElem?_modify, hz, zFault]⟩ (by repeat' (first | (with_reducible exact hb) | (with_reducible (refine Below.setCell ?_ ?_ _)) | omega | (simp; done))) (by simp) g hz (fun x hx => by repeat (rw [heap_set_other (by exact hx)])))
    | (refine wpLex_pass (by rfl) (passes_gen stays_quad (by rfl)) ?_; (conv => arg 9; simp only [put_lit, put_lit_none, List.set]))
    | (refine wpLex_genUse [] (Nat.le_refl _) stays_quad (by rfl) (by rfl) (by rfl) ?_
       apply Exists.intro
       refine ⟨?_, ?_⟩
       · intro u w' hb _
         have hsz := hb.size
         try simp at hsz
         have hcw := fun b o (h : b < (w1).heap.size) => hb.cell (p := ⟨b, o, none⟩) h
         have hfw := fun b o (h : b < (w1).heap.size) => hb.frozen (p := ⟨b, o, none⟩) h
         try simp only [putS, List.foldl, put_lit, List.set]
         go_simp
         first
           | exact ⟨rfl, Below.refl _ _⟩
           | exact Below.refl _ _
           | exact rfl
       (conv => arg 9; simp only [put_lit, put_lit_none, List.set])))
  refine wpLex_nil ?_
  intro wd bd dd hdd hCd hod
  obtain ⟨ud, rfl, hbd, hkd⟩ := genC_end hCd hdd hod
  clear hCd hod hdd dd
  simp only [putS, List.foldl, put_lit, List.set]
  have hsd := hbd.size
  try simp at hsd
  obtain ⟨hd, ehd, hghd, hxd⟩ := (hkd 5 _ rfl (by rfl) rfl).2
  obtain ⟨fd, efd, hgfd, hyd⟩ := (hkd 6 _ rfl (by rfl) rfl).2
  obtain ⟨Rd, cd, eld, hrd⟩ := (hkd 7 _ rfl (by rfl) rfl).2
  have ehd' : ud 8 = _ := ehd
  have efd' : ud 9 = _ := efd
  have eld' : ud 10 = _ := eld
  rw [ehd', efd', eld']
  clear hkd
  generalize ud 23 = xd23 at *
  generalize ud 12 = xd12 at *
  generalize ud 26 = xd26 at *
  clear ehd efd eld ehd' efd' eld' ud
  have hlhd := heap_lt hxd
  have hlfd := heap_lt hyd
  have HXd := Lib.hid hxd
  have HYd := Lib.hid hyd
  have HOd := Lib.hid hrd
  clear hxd hyd hrd
  have hcd := fun b o (h : b < (w1).heap.size) => hbd.cell (p := ⟨b, o, none⟩) h
  have hfd := fun b o (h : b < (w1).heap.size) => hbd.frozen (p := ⟨b, o, none⟩) h
  have HBd := Lib.hid hbd
  clear hbd
 
  have HRD1 := Lib.hid (fun p (hp : Rd = some p) => HOd.out.block_ hp)
  have GG := Lib.hid ((HBd.out.block _ hg1l).trans HG1.out)
  have G6 := Lib.hid ((HBd.out.block _ (by omega)).trans H6.out)
  have G7 := Lib.hid ((HBd.out.block _ (by omega)).trans H7.out)
  have GO := Lib.hid (HO1.out.below HBd.out (Nat.le_refl _))
  have GB := Lib.hid (show Below w.heap.size w wd from (by repeat' (first | (with_reducible exact Below.refl _ _) | (with_reducible (refine Below.setCell ?_ ?_ _)) | (with_reducible (refine Below.alloc ?_ ?_ _)) | (with_reducible (refine Below.drew ?_)) | (with_reducible (refine below_via ?_ HBd.out ?_)) | (with_reducible (refine below_via ?_ HB1.out ?_)) | omega | (simp; done) | (simp; omega))))
  clear x0 x1 x2 x3 xf hcd hfd
  have y6 := cell_of_row _ _ 6 _ _ _ GG.out
  have yf := fun j => frozen_of_row _ _ j _ _ GG.out
  simp only [nwayRow] at y6
  have hgd := heap_lt GG.out
 
  go_upto_region 3 with (at_builtin; refine wpList_many rfl (.tmp 32) (.tmp 33) _ rfl (g + 1) w1.heap.size intT j0 _ 1 8 Try.underlying25 HI0.out HZ0.out HZ1.out HZ2.out rfl (by omega) int_ones rd0 rd2 rd HRD.out R0 c0 rfl GO.out Rd cd rfl HOd.out (by simp only [maxLen]; omega) (by omega) (by omega) ?_; intro R5 c5 w5 ho5 hb5 hk5; have HO5 := Lib.hid ho5; have HK5 := Lib.hid hk5; have HB5 := Lib.hid hb5; clear ho5 hk5 hb5; have hg5 := (HB5.out.block g (by omega)).trans GG.out; have HG5 := Lib.hid hg5; have g5 := fun j => cell_of_row _ _ j _ _ _ hg5; have gf5 := fun j => frozen_of_row _ _ j _ _ hg5; have hg5l := heap_lt hg5; clear hg5; simp only [nwayRow] at g5)
  refine name_world ?_
  intro wq hwq
  have hgd2 := hghd
  have hgf2 := hgfd
  have Q6 := Lib.hid (show wq.heap[w.heap.size]? = some (.cells zHit hitT (0, 0)) by rw [hwq]; exact (by repeat (first | (with_reducible exact (HK5.out _ (heap_lt G6.out) (fun p hp => by have := HR0.out p hp; omega)).trans G6.out) | (with_reducible refine heap_far_is (by (first | (dsimp only; omega) | omega | (simp; done) | (simp; omega))) ?_))))
  have Q7 := Lib.hid (show wq.heap[w.heap.size + 1]? = some (.cells zFault faultT (0, 0)) by rw [hwq]; exact (by repeat (first | (with_reducible exact (HK5.out _ (heap_lt G7.out) (fun p hp => by have := HR0.out p hp; omega)).trans G7.out) | (with_reducible refine heap_far_is (by (first | (dsimp only; omega) | omega | (simp; done) | (simp; omega))) ?_))))
  have Q8 := Lib.hid (show wq.heap[hd]? = some (.cells #[.int .i64 l0, .int .i64 l1, .bool l2, .bool l3, .bool l4, .bool l5, .bool l6, .int .i64 l7, .int .i64 l8] hitT (0, 0)) by rw [hwq]; exact (by repeat (first | (with_reducible exact (HK5.out _ (heap_lt HXd.out) (fun p hp => by have := HR0.out p hp; omega)).trans HXd.out) | (with_reducible refine heap_far_is (by (first | (dsimp only; omega) | omega | (simp; done) | (simp; omega))) ?_))))
  have Q9 := Lib.hid (show wq.heap[fd]? = some (.cells #[.int .i64 m0, .int .i64 m1, .int .i64 m2, .bool m3, .int .i64 m4] faultT (0, 0)) by rw [hwq]; exact (by repeat (first | (with_reducible exact (HK5.out _ (heap_lt HYd.out) (fun p hp => by have := HR0.out p hp; omega)).trans HYd.out) | (with_reducible refine heap_far_is (by (first | (dsimp only; omega) | omega | (simp; done) | (simp; omega))) ?_))))
  have QG := Lib.hid (show wq.heap[g]? = some (.cells (nwayRow A n c ⟨on, tf, tg⟩ page acc R5 rd2.length c5) nwayT (0, 0)) by rw [hwq]; exact heap_set_same HG5.out 6 _)
  have QO := Lib.hid (show Own wq (g + 1) intT 1 intCells rd2 R5 c5 by rw [hwq]; exact (by repeat (first | (with_reducible exact HO5.out) | (with_reducible refine Own.set_far ?_ (by (first | (dsimp only; omega) | omega | (simp; done) | (simp; omega))) _))))
  have HZB := Lib.hid (show Below g w w5 from below_via (GB.out.mono (Nat.le_of_lt hgl)) HB5.out (Nat.le_succ _))
  have QB := Lib.hid (show Below g w wq by rw [hwq]; exact (by repeat' (first | (with_reducible exact HZB.out) | (with_reducible refine Below.setCell ?_ ?_ _) | (first | (dsimp only; omega) | omega | (simp; done) | (simp; omega)))))
  have QK := Lib.hid (show KeepT intT nwayT w wq from ⟨QB.out.size, fun b cs T hb n1 n2 => by
    have hbl := heap_lt hb
    have hne : b ≠ g := blk_ne HG.out hb n2
    have h1 := (HB1.out.block b hbl).trans hb
    have h2 := (HBd.out.block b (by omega)).trans h1
    have h3 := (HK5.out b (heap_lt h2) (fun p hp => Own.blk_off GO.out h2 (fun e => n1 e.symm) p hp)).trans h2
    rw [hwq]
    exact (heap_set_other (by exact hne) _).trans h3⟩)
  clear hwq g5 gf5 y6 yf
  have q8l := heap_lt Q8.out
  have q9l := heap_lt Q9.out
 
  refine wp_region_done (fun d w9 => Put2C (wq) 2 (w.heap.size) (hitT) (#[.int .i64 0, .int .i64 0, .bool false, .bool false, .bool false, .bool false, .bool false, .int .i64 0, .int .i64 0]) (#[.int .i64 l0, .int .i64 l1, .bool l2, .bool l3, .bool l4, .bool l5, .bool l6, .int .i64 l7, .int .i64 l8]) 3 (w.heap.size + 1) (faultT) (#[.int .i64 0, .int .i64 0, .int .i64 0, .bool false, .int .i64 0]) (#[.int .i64 m0, .int .i64 m1, .int .i64 m2, .bool m3, .int .i64 m4]) d w9) (by kernel_rfl) (by kernel_rfl) (put2_start (Q6.out) (Q7.out)) ?_
  repeat (first
    | (refine wpLex_pass (by rfl) (passes_put2 (by rfl) (by rfl)) ?_; (conv => arg 9; simp only [put_lit, put_lit_none, List.set]))
    | (refine wpLex_put2 (by rfl) (by rfl) (by rfl) ?_
       apply Exists.intro
       refine ⟨?_, ?_⟩
       · intro w' hsz hkw hz1 hz2
         try (replace hz1 := hz1 rfl; have hzc1 := fun j => cell_of_row _ _ j _ _ _ hz1; have hzf1 := fun j => frozen_of_row _ _ j _ _ hz1)
         try (replace hz2 := hz2 rfl; have hzc2 := fun j => cell_of_row _ _ j _ _ _ hz2; have hzf2 := fun j => frozen_of_row _ _ j _ _ hz2)
         have q0_ := (hkw (hd) (by omega) (by omega) (by omega)).trans (Q8.out); have q0 := fun j => cell_of_row _ _ j _ _ _ q0_; have qf0 := fun j => frozen_of_row _ _ j _ _ q0_; clear q0_
         have q1_ := (hkw (fd) (by omega) (by omega) (by omega)).trans (Q9.out); have q1 := fun j => cell_of_row _ _ j _ _ _ q1_; have qf1 := fun j => frozen_of_row _ _ j _ _ q1_; clear q1_
         clear hkw
         try clear hz1
         try clear hz2
         go_simp
         first
           | exact ⟨rfl, Below.refl _ _⟩
           | exact Below.refl _ _
       conv => arg 9; simp only [put_lit, put_lit_none, List.set])
    | (refine wpLex_put2a (by rfl) (by rfl) (by rfl) (by omega) undef ?_ ?_
       · intro w' hz
         have hzc := fun j => cell_of_row _ _ j _ _ _ hz
         have hzf := fun j => frozen_of_row _ _ j _ _ hz
         go_simp
         exact ⟨(by repeat' (first | (with_reducible exact Below.refl _ _) | (with_reducible (refine Below.setCell ?_ ?_ _)) | omega | (simp; done))), (fun x hx => by repeat (rw [heap_set_other (by exact hx)])), (by simp [World.setCell, Array.getElem?_modify, hz])⟩
       conv => arg 9; simp only [put_lit, put_lit_none, List.set])
    | (refine wpLex_put2b (by rfl) (by rfl) (by rfl) (by omega) undef ?_ ?_
       · intro w' hz
         have hzc := fun j => cell_of_row _ _ j _ _ _ hz
         have hzf := fun j => frozen_of_row _ _ j _ _ hz
         go_simp
         exact ⟨(by repeat' (first | (with_reducible exact Below.refl _ _) | (with_reducible (refine Below.setCell ?_ ?_ _)) | omega | (simp; done))), (fun x hx => by repeat (rw [heap_set_other (by exact hx)])), (by simp [World.setCell, Array.getElem?_modify, hz])⟩
       conv => arg 9; simp only [put_lit, put_lit_none, List.set]))
  refine wpLex_nil ?_
  intro wt dt hdt hCt
  obtain ⟨hbt, hkt, hxt, hyt⟩ := put2_done hCt (hdt 2 (by decide)) (hdt 3 (by decide))
  clear hCt hdt
  have hst := hbt.size
  have HBt := Lib.hid hbt
  have HKt := Lib.hid hkt
  have HXt := Lib.hid hxt
  have HYt := Lib.hid hyt
  clear hbt hkt hxt hyt
 
  have e8 := fun j => cell_of_row _ _ j _ _ _ HXt.out
  have e9 := fun j => cell_of_row _ _ j _ _ _ HYt.out
  go_wp2
  refine bodyPost_ret (v := .tuple #[.agg #[.int .i64 l0, .int .i64 l1, .bool l2, .bool l3, .bool l4, .bool l5, .bool l6, .int .i64 l7, .int .i64 l8], .agg #[.int .i64 m0, .int .i64 m1, .int .i64 m2, .bool m3, .int .i64 m4]]) (by simp [results, Try.results52, go_sem, *]) rfl ⟨R5, c5, rfl, ?_, ?_, ?_, ?_⟩
  · exact (HKt.out g (heap_lt QG.out) (by omega) (by omega)).trans QG.out
  · have HRQ := Lib.hid (show ∀ p : Addr, R5 = some p → p.block ≠ w.heap.size ∧ p.block ≠ w.heap.size + 1 from fun p hp => ⟨fun e => Own.blk_off QO.out Q6.out (by decide) p hp e, fun e => Own.blk_off QO.out Q7.out (by decide) p hp e⟩)
    exact QO.out.keep2 fun p hp => HKt.out p.block (QO.out.block_ hp).2 (HRQ.out p hp).1 (HRQ.out p hp).2
  · exact below_via QB.out HBt.out (by omega)
  · refine ⟨Nat.le_trans QB.out.size HBt.out.size, fun b cs T hb n1 n2 => ?_⟩
    have hbl := heap_lt hb
    have h1 := QK.out.2 b cs T hb n1 n2
    exact (HKt.out b (heap_lt h1) (by omega) (by omega)).trans h1

end Go.Proofs.Ytddbndmbcdeggaa
