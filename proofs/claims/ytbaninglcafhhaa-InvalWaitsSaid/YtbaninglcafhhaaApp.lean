/-
  A TLB without what is taken away: the program's answer. Conditions: it reads; the lengths fit.
-/
import Derived.Test.YtbaninglcafhhaaDelF
import Derived.Test.YtbaninglcafhhaaTakeC
namespace Go.Proofs.Ytbaninglcafhhaa
open Go.RowKit

def invsT : TypeId := 23
def goneE (l : List Inv) (e : Ent) : Bool := l.any fun i => takesE i e

set_option maxRecDepth 100000 in
set_option maxHeartbeats 4000000 in
theorem app11_any (g : Nat) (e : Ent) (i : Inv) (w : World) (hc : w.heap[g]? = some (.cells e.cells.toArray entT (0, 0))) (hok : entOk e = true) (h0 : 0 ≤ i.page ∧ i.page ≤ 4095) :
    Calls Try.prog 76 #[.agg i.cells.toArray, .pointer (some ⟨g, 0, none⟩)] w fun y w' => y = .returned (.bool (takesE i e)) ∧ Below w.heap.size w w' := by
  have HT := Lib.hid (fun W => takes_any i e W hok h0.1 h0.2)
  generalize takesE i e = tk at *
  have hg := heap_lt hc
  have HC := Lib.hid hc
  clear hok h0 hc
  obtain ⟨b0, b1, b2, b3⟩ := i
  obtain ⟨a0, a1, a2, a3, a4, a5, a6, a7, a8, a9, a10, a11, a12, a13⟩ := e
  dsimp only [Inv.cells, Ent.cells] at *
  have cx := fun j => cell_of_row _ _ j _ _ _ HC.out
  go_enter Try.func76, Try.ntmps76
  go_wp2_with fail
  refine Calls.mono (HT.out _) ?_
  rintro e w1 ⟨rfl, hb1⟩
  have hs1 := hb1.size
  try simp at hs1
  have HB1 := Lib.hid hb1
  clear hb1
  go_wp2
  go_ret
  exact ⟨rfl, (by repeat' (first | (with_reducible exact Below.refl _ _) | (with_reducible (refine Below.setCell ?_ ?_ _)) | (with_reducible (refine Below.alloc ?_ ?_ _)) | (with_reducible (refine Below.drew ?_)) | (with_reducible (refine below_via ?_ HB1.out ?_)) | omega | (simp; done) | (simp; omega)))⟩

set_option maxRecDepth 100000 in
set_option maxHeartbeats 4000000 in
theorem app1_any (gl : Nat) (L : Option Addr) (cl : Nat) (l : List Inv) (e : Ent) (w : World) (hbox : w.heap[gl]? = some (.cells #[.slice L l.length cl] invsT (0, 0))) (hl : l.length ≤ 140737488355328) (hL : At w L 4 Inv.cells l) (hok : entOk e = true) (hd : ∀ i ∈ l, dueOk i = true) :
    Calls Try.prog 74 #[.agg e.cells.toArray, .pointer (some ⟨gl, 0, none⟩)] w fun y w' => y = .returned (.bool (goneE l e)) ∧ Below w.heap.size w w' := by
  have HC := Lib.hid (fun (g : Nat) W (hb : Below w.heap.size w W) (hg : W.heap[g]? = some (.cells e.cells.toArray entT (0, 0))) => ContainsFunc_inv1 76 (.pointer (some ⟨g, 0, none⟩)) (fun i => takesE i e) L cl l W hl (hL.below hb) (fun _ _ => by kernel_rfl)
    (fun W' i hi hb' => app11_any g e i W' ((hb'.block g (heap_lt hg)).trans hg) hok (dueOk_page (hd i hi))))
  rw [show (l.any fun i => takesE i e) = goneE l e from rfl] at HC
  generalize goneE l e = tk at *
  have hg := heap_lt hbox
  have HX := Lib.hid hbox
  clear hok hd hL hbox
  obtain ⟨a0, a1, a2, a3, a4, a5, a6, a7, a8, a9, a10, a11, a12, a13⟩ := e
  dsimp only [Ent.cells] at *
  have cx := fun j => cell_of_row _ _ j _ _ _ HX.out
  go_enter Try.func74, Try.ntmps74
  go_wp2_with fail
  refine Calls.mono (HC.out w.heap.size _ (by repeat' (first | (with_reducible exact Below.refl _ _) | (with_reducible (refine Below.setCell ?_ ?_ _)) | (with_reducible (refine Below.alloc ?_ ?_ _)) | (with_reducible (refine Below.drew ?_)) | omega | (simp; done) | (simp; omega))) (heap_new _ _)) ?_
  rintro e w1 ⟨rfl, hb1⟩
  have hs1 := hb1.size
  try simp at hs1
  have HB1 := Lib.hid hb1
  clear hb1
  go_wp2
  go_ret
  exact ⟨rfl, (by repeat' (first | (with_reducible exact Below.refl _ _) | (with_reducible (refine Below.setCell ?_ ?_ _)) | (with_reducible (refine Below.alloc ?_ ?_ _)) | (with_reducible (refine Below.drew ?_)) | (with_reducible (refine below_via ?_ HB1.out ?_)) | omega | (simp; done) | (simp; omega)))⟩

set_option maxRecDepth 100000 in
set_option maxHeartbeats 4000000 in
theorem Apply_no (t : Tl) (L : Option Addr) (cl : Nat) (l : List Inv) (w : World) (h : TlAt w t) (hl : l.length ≤ 140737488355328) (hL : At w L 4 Inv.cells l) (hno : (tlbOk t.es t.ds && l.all dueOk) = false) :
    Calls Try.prog 36 #[.agg t.cells.toArray, .slice L l.length cl] w fun y w' => y = .returned (.tuple #[.agg #[.slice none 0 0, .slice none 0 0], .int .i64 1]) ∧ Below w.heap.size w w' := by
  have HC := Lib.hid (fun W (hb : Below w.heap.size w W) => Check_any t W (h.below hb))
  have HM := Lib.hid (fun W (hb : Below w.heap.size w W) => imay_any L cl l W hl (hL.below hb))
  obtain ⟨ea, ec, es, da, dc, ds⟩ := t
  dsimp only [Tl.cells] at *
  generalize tlbOk es ds = g1 at *
  generalize l.all dueOk = g2 at *
  have E0 : okErr false = 1 := rfl
  have E1 : okErr true = 0 := rfl
  clear h hL
  cases g1
  · clear hno
    go_enter Try.func36, Try.ntmps36
    go_wp2_with fail
    refine Calls.mono (HC.out _ (by repeat' (first | (with_reducible exact Below.refl _ _) | (with_reducible (refine Below.setCell ?_ ?_ _)) | (with_reducible (refine Below.alloc ?_ ?_ _)) | (with_reducible (refine Below.drew ?_)) | omega | (simp; done) | (simp; omega)))) ?_
    rintro e w1 ⟨rfl, hb1⟩
    have hs1 := hb1.size
    try simp at hs1
    have hc1_0 := fun o => (bcell hb1).1 (w.heap.size) o (by first | omega | (simp; done) | (simp; omega))
    have hf1_0 := fun o => (bcell hb1).2.1 (w.heap.size) o (by first | omega | (simp; done) | (simp; omega))
    have hz1_0 := (bcell hb1).2.2 (w.heap.size) (by first | omega | (simp; done) | (simp; omega))
    have hc1_1 := fun o => (bcell hb1).1 (w.heap.size + 1) o (by first | omega | (simp; done) | (simp; omega))
    have hf1_1 := fun o => (bcell hb1).2.1 (w.heap.size + 1) o (by first | omega | (simp; done) | (simp; omega))
    have hz1_1 := (bcell hb1).2.2 (w.heap.size + 1) (by first | omega | (simp; done) | (simp; omega))
    have hc1_2 := fun o => (bcell hb1).1 (w.heap.size + 2) o (by first | omega | (simp; done) | (simp; omega))
    have hf1_2 := fun o => (bcell hb1).2.1 (w.heap.size + 2) o (by first | omega | (simp; done) | (simp; omega))
    have hz1_2 := (bcell hb1).2.2 (w.heap.size + 2) (by first | omega | (simp; done) | (simp; omega))
    have HB1 := Lib.hid hb1
    clear hb1
    go_wp2
    refine bodyPost_ret (v := .tuple #[.agg #[.slice none 0 0, .slice none 0 0], .int .i64 1]) (by simp [results, Try.results36, go_sem, *]) rfl ⟨rfl, ?_⟩
    repeat' (first | (with_reducible exact Below.refl _ _) | (with_reducible (refine Below.setCell ?_ ?_ _)) | (with_reducible (refine Below.alloc ?_ ?_ _)) | (with_reducible (refine Below.drew ?_)) | (with_reducible (refine below_via ?_ HB1.out ?_)) | omega | (simp; done) | (simp; omega))
  · obtain rfl : g2 = false := by simpa using hno
    clear hno
    go_enter Try.func36, Try.ntmps36
    go_wp2_with fail
    refine Calls.mono (HC.out _ (by repeat' (first | (with_reducible exact Below.refl _ _) | (with_reducible (refine Below.setCell ?_ ?_ _)) | (with_reducible (refine Below.alloc ?_ ?_ _)) | (with_reducible (refine Below.drew ?_)) | omega | (simp; done) | (simp; omega)))) ?_
    rintro e w1 ⟨rfl, hb1⟩
    have hs1 := hb1.size
    try simp at hs1
    have hc1_0 := fun o => (bcell hb1).1 (w.heap.size) o (by first | omega | (simp; done) | (simp; omega))
    have hf1_0 := fun o => (bcell hb1).2.1 (w.heap.size) o (by first | omega | (simp; done) | (simp; omega))
    have hz1_0 := (bcell hb1).2.2 (w.heap.size) (by first | omega | (simp; done) | (simp; omega))
    have hc1_1 := fun o => (bcell hb1).1 (w.heap.size + 1) o (by first | omega | (simp; done) | (simp; omega))
    have hf1_1 := fun o => (bcell hb1).2.1 (w.heap.size + 1) o (by first | omega | (simp; done) | (simp; omega))
    have hz1_1 := (bcell hb1).2.2 (w.heap.size + 1) (by first | omega | (simp; done) | (simp; omega))
    have hc1_2 := fun o => (bcell hb1).1 (w.heap.size + 2) o (by first | omega | (simp; done) | (simp; omega))
    have hf1_2 := fun o => (bcell hb1).2.1 (w.heap.size + 2) o (by first | omega | (simp; done) | (simp; omega))
    have hz1_2 := (bcell hb1).2.2 (w.heap.size + 2) (by first | omega | (simp; done) | (simp; omega))
    have HB1 := Lib.hid hb1
    clear hb1
    go_wp2_with fail
    refine Calls.mono (HM.out _ (by repeat' (first | (with_reducible exact Below.refl _ _) | (with_reducible (refine Below.setCell ?_ ?_ _)) | (with_reducible (refine Below.alloc ?_ ?_ _)) | (with_reducible (refine Below.drew ?_)) | (with_reducible (refine below_via ?_ HB1.out ?_)) | omega | (simp; done) | (simp; omega)))) ?_
    rintro e w2 ⟨rfl, hb2⟩
    have hs2 := hb2.size
    try simp at hs2
    have hc2_0 := fun o => (bcell hb2).1 (w.heap.size) o (by first | omega | (simp; done) | (simp; omega))
    have hf2_0 := fun o => (bcell hb2).2.1 (w.heap.size) o (by first | omega | (simp; done) | (simp; omega))
    have hz2_0 := (bcell hb2).2.2 (w.heap.size) (by first | omega | (simp; done) | (simp; omega))
    have hc2_1 := fun o => (bcell hb2).1 (w.heap.size + 1) o (by first | omega | (simp; done) | (simp; omega))
    have hf2_1 := fun o => (bcell hb2).2.1 (w.heap.size + 1) o (by first | omega | (simp; done) | (simp; omega))
    have hz2_1 := (bcell hb2).2.2 (w.heap.size + 1) (by first | omega | (simp; done) | (simp; omega))
    have hc2_2 := fun o => (bcell hb2).1 (w.heap.size + 2) o (by first | omega | (simp; done) | (simp; omega))
    have hf2_2 := fun o => (bcell hb2).2.1 (w.heap.size + 2) o (by first | omega | (simp; done) | (simp; omega))
    have hz2_2 := (bcell hb2).2.2 (w.heap.size + 2) (by first | omega | (simp; done) | (simp; omega))
    have HB2 := Lib.hid hb2
    clear hb2
    go_wp2
    refine bodyPost_ret (v := .tuple #[.agg #[.slice none 0 0, .slice none 0 0], .int .i64 1]) (by simp [results, Try.results36, go_sem, *]) rfl ⟨rfl, ?_⟩
    repeat' (first | (with_reducible exact Below.refl _ _) | (with_reducible (refine Below.setCell ?_ ?_ _)) | (with_reducible (refine Below.alloc ?_ ?_ _)) | (with_reducible (refine Below.drew ?_)) | (with_reducible (refine below_via ?_ HB2.out ?_)) | (with_reducible (refine below_via ?_ HB1.out ?_)) | omega | (simp; done) | (simp; omega))

theorem Own.blk_ne {α β : Type} {w : World} {b1 b2 : Nat} {e1 e2 : TypeId} {s1 s2 : Nat} {f1 : α → List Value} {f2 : β → List Value} {l1 : List α} {l2 : List β} {A1 A2 : Option Addr} {c1 c2 : Nat}
    (h1 : Own w b1 e1 s1 f1 l1 A1 c1) (h2 : Own w b2 e2 s2 f2 l2 A2 c2) (hne : e1 ≠ e2) : ∀ p q : Addr, A1 = some p → A2 = some q → p.block ≠ q.block := by
  intro p q hp hq he
  rcases h1.2 with ⟨h, _⟩ | ⟨g1, cap1, cur1, e3, _, h3, _⟩
  · injection h with h; rw [hp] at h; cases h
  rcases h2.2 with ⟨h, _⟩ | ⟨g2, cap2, cur2, e4, _, h4, _⟩
  · injection h with h; rw [hq] at h; cases h
  injection e3 with e3; rw [hp] at e3; injection e3 with e3; subst e3
  injection e4 with e4; rw [hq] at e4; injection e4 with e4; subst e4
  dsimp only at he
  subst he
  rw [h3] at h4
  injection h4 with h4
  injection h4 with _ h4
  exact hne h4

theorem Own.keep2 {α : Type} {w w' : World} {base : Nat} {e : TypeId} {size : Nat} {f : α → List Value} {l : List α} {A : Option Addr} {c : Nat} (h : Own w base e size f l A c) (hk : ∀ p : Addr, A = some p → w'.heap[p.block]? = w.heap[p.block]?) : Own w' base e size f l A c := by
  refine ⟨h.1, ?_⟩
  rcases h.2 with ⟨h1, h2⟩ | ⟨g, cap, cur, h1, h2, h3, h4⟩
  · exact .inl ⟨h1, h2⟩
  · have hA : A = some ⟨g, 0, none⟩ := by injection h1
    exact .inr ⟨g, cap, cur, h1, h2, (hk _ hA).trans h3, h4⟩
theorem Own.ne_blk {α : Type} {w : World} {base : Nat} {e : TypeId} {size : Nat} {f : α → List Value} {l : List α} {A : Option Addr} {c g : Nat} {cs : Array Value} {t : TypeId} (h : Own w base e size f l A c) (hx : w.heap[g]? = some (.cells cs t (0, 0))) (hne : e ≠ t) : ∀ p : Addr, A = some p → p.block ≠ g := by
  intro p hp he
  rcases h.2 with ⟨h1, _⟩ | ⟨g1, cap1, cur1, e3, _, h3, _⟩
  · injection h1 with h1; rw [hp] at h1; cases h1
  injection e3 with e3; rw [hp] at e3; injection e3 with e3; subst e3
  dsimp only at he
  subst he
  rw [h3] at hx
  injection hx with hx
  injection hx with _ hx
  exact hne hx
theorem Own.set_ne {α : Type} {w : World} {base : Nat} {e : TypeId} {size : Nat} {f : α → List Value} {l : List α} {A : Option Addr} {c : Nat} (h : Own w base e size f l A c) {p : Addr} (hp : ∀ q : Addr, A = some q → q.block ≠ p.block) (u : Value) : Own (w.setCell p u) base e size f l A c :=
  h.keep2 fun q hq => heap_set_other (hp q hq) u

set_option maxRecDepth 100000 in
set_option maxHeartbeats 4000000 in
theorem Apply_yes (t : Tl) (L : Option Addr) (cl : Nat) (l : List Inv) (w : World) (h : TlAt w t) (hl : l.length ≤ 140737488355328) (hL : At w L 4 Inv.cells l) (h1 : tlbOk t.es t.ds = true) (h2 : l.all dueOk = true) :
    Calls Try.prog 36 #[.agg t.cells.toArray, .slice L l.length cl] w fun y w' => ∃ A c B d, y = .returned (.tuple #[.agg #[.slice A (t.es.filter fun e => !goneE l e).length c, .slice B t.ds.length d], .int .i64 0]) ∧
      Own w' (w.heap.size + 3) entT 14 Ent.cells (t.es.filter fun e => !goneE l e) A c ∧ Own w' (w.heap.size + 3) invT 4 Inv.cells t.ds B d ∧ Below w.heap.size w w' := by
  have HC := Lib.hid (fun W (hb : Below w.heap.size w W) => Check_any t W (h.below hb))
  have HM := Lib.hid (fun W (hb : Below w.heap.size w W) => imay_any L cl l W hl (hL.below hb))
  obtain ⟨k1, k2, k3, k4⟩ := tlbOk_ents h1
  have HCP := Lib.hid (fun W (hb : Below w.heap.size w W) => tCopy_any t W (h.below hb) (by omega) (by omega))
  have HDF := Lib.hid (fun (gl : Nat) (A : Option Addr) (c : Nat) (B : Nat) W (hO : Own W B entT 14 Ent.cells t.es A c) (hB : B ≤ W.heap.size) (hgl : gl < B) (hbox : W.heap[gl]? = some (.cells #[.slice L l.length cl] invsT (0, 0))) (hwB : w.heap.size ≤ B) (hLW : At W L 4 Inv.cells l) (hLB : ∀ W', Below B W W' → At W' L 4 Inv.cells l) =>
    DeleteFunc_ent 74 (.pointer (some ⟨gl, 0, none⟩)) (goneE l) B A c t.es W (by omega) hO hB (fun _ _ => by kernel_rfl) (fun W' x hx hb => app1_any gl L cl l x W' ((hb.block gl hgl).trans hbox) hl (hLB W' hb) (k3 x hx) (fun i hi => List.all_eq_true.1 h2 i hi)))
  have HL := Lib.hid (fun W (hb : Below w.heap.size w W) => hL.below hb)
  rw [h1] at HC
  rw [h2] at HM
  have E1 : okErr true = 0 := rfl
  rw [E1] at HC
  obtain ⟨ea, ec, es, da, dc, ds⟩ := t
  dsimp only [Tl.cells] at *
  generalize (es.filter fun e => !goneE l e) = es' at *
  clear h hL h1 h2 k3 k4
  go_enter Try.func36, Try.ntmps36
  go_wp2_with fail
  refine Calls.mono (HC.out _ (by repeat' (first | (with_reducible exact Below.refl _ _) | (with_reducible (refine Below.setCell ?_ ?_ _)) | (with_reducible (refine Below.alloc ?_ ?_ _)) | (with_reducible (refine Below.drew ?_)) | omega | (simp; done) | (simp; omega)))) ?_
  rintro e w1 ⟨rfl, hb1⟩
  have hs1 := hb1.size
  try simp at hs1
  have hc1_0 := fun o => (bcell hb1).1 (w.heap.size) o (by first | omega | (simp; done) | (simp; omega))
  have hf1_0 := fun o => (bcell hb1).2.1 (w.heap.size) o (by first | omega | (simp; done) | (simp; omega))
  have hz1_0 := (bcell hb1).2.2 (w.heap.size) (by first | omega | (simp; done) | (simp; omega))
  have hc1_1 := fun o => (bcell hb1).1 (w.heap.size + 1) o (by first | omega | (simp; done) | (simp; omega))
  have hf1_1 := fun o => (bcell hb1).2.1 (w.heap.size + 1) o (by first | omega | (simp; done) | (simp; omega))
  have hz1_1 := (bcell hb1).2.2 (w.heap.size + 1) (by first | omega | (simp; done) | (simp; omega))
  have hc1_2 := fun o => (bcell hb1).1 (w.heap.size + 2) o (by first | omega | (simp; done) | (simp; omega))
  have hf1_2 := fun o => (bcell hb1).2.1 (w.heap.size + 2) o (by first | omega | (simp; done) | (simp; omega))
  have hz1_2 := (bcell hb1).2.2 (w.heap.size + 2) (by first | omega | (simp; done) | (simp; omega))
  have HB1 := Lib.hid hb1
  clear hb1
  go_wp2_with fail
  refine Calls.mono (HM.out _ (by repeat' (first | (with_reducible exact Below.refl _ _) | (with_reducible (refine Below.setCell ?_ ?_ _)) | (with_reducible (refine Below.alloc ?_ ?_ _)) | (with_reducible (refine Below.drew ?_)) | (with_reducible (refine below_via ?_ HB1.out ?_)) | omega | (simp; done) | (simp; omega)))) ?_
  rintro e w2 ⟨rfl, hb2⟩
  have hs2 := hb2.size
  try simp at hs2
  have hc2_0 := fun o => (bcell hb2).1 (w.heap.size) o (by first | omega | (simp; done) | (simp; omega))
  have hf2_0 := fun o => (bcell hb2).2.1 (w.heap.size) o (by first | omega | (simp; done) | (simp; omega))
  have hz2_0 := (bcell hb2).2.2 (w.heap.size) (by first | omega | (simp; done) | (simp; omega))
  have hc2_1 := fun o => (bcell hb2).1 (w.heap.size + 1) o (by first | omega | (simp; done) | (simp; omega))
  have hf2_1 := fun o => (bcell hb2).2.1 (w.heap.size + 1) o (by first | omega | (simp; done) | (simp; omega))
  have hz2_1 := (bcell hb2).2.2 (w.heap.size + 1) (by first | omega | (simp; done) | (simp; omega))
  have hc2_2 := fun o => (bcell hb2).1 (w.heap.size + 2) o (by first | omega | (simp; done) | (simp; omega))
  have hf2_2 := fun o => (bcell hb2).2.1 (w.heap.size + 2) o (by first | omega | (simp; done) | (simp; omega))
  have hz2_2 := (bcell hb2).2.2 (w.heap.size + 2) (by first | omega | (simp; done) | (simp; omega))
  have HB2 := Lib.hid hb2
  clear hb2
  go_wp2_with fail
  refine Calls.mono (HCP.out _ (by repeat' (first | (with_reducible exact Below.refl _ _) | (with_reducible (refine Below.setCell ?_ ?_ _)) | (with_reducible (refine Below.alloc ?_ ?_ _)) | (with_reducible (refine Below.drew ?_)) | (with_reducible (refine below_via ?_ HB2.out ?_)) | (with_reducible (refine below_via ?_ HB1.out ?_)) | omega | (simp; done) | (simp; omega)))) ?_
  rintro e w3 ⟨A, c, B, d, rfl, hown, howd, hb3⟩
  have hs3 := hb3.size
  try simp at hs3
  have hc3_0 := fun o => (bcell hb3).1 (w.heap.size) o (by first | omega | (simp; done) | (simp; omega))
  have hf3_0 := fun o => (bcell hb3).2.1 (w.heap.size) o (by first | omega | (simp; done) | (simp; omega))
  have hz3_0 := (bcell hb3).2.2 (w.heap.size) (by first | omega | (simp; done) | (simp; omega))
  have hc3_1 := fun o => (bcell hb3).1 (w.heap.size + 1) o (by first | omega | (simp; done) | (simp; omega))
  have hf3_1 := fun o => (bcell hb3).2.1 (w.heap.size + 1) o (by first | omega | (simp; done) | (simp; omega))
  have hz3_1 := (bcell hb3).2.2 (w.heap.size + 1) (by first | omega | (simp; done) | (simp; omega))
  have hc3_2 := fun o => (bcell hb3).1 (w.heap.size + 2) o (by first | omega | (simp; done) | (simp; omega))
  have hf3_2 := fun o => (bcell hb3).2.1 (w.heap.size + 2) o (by first | omega | (simp; done) | (simp; omega))
  have hz3_2 := (bcell hb3).2.2 (w.heap.size + 2) (by first | omega | (simp; done) | (simp; omega))
  have HB3 := Lib.hid hb3
  clear hb3
  have Hhown := Lib.hid hown
  clear hown
  have Hhowd := Lib.hid howd
  clear howd
  go_wp2_with fail
  have HBX := Lib.hid (show Below w.heap.size w w3 from (by repeat' (first | (with_reducible exact Below.refl _ _) | (with_reducible (refine Below.setCell ?_ ?_ _)) | (with_reducible (refine Below.alloc ?_ ?_ _)) | (with_reducible (refine Below.drew ?_)) | (with_reducible (refine below_via ?_ HB3.out ?_)) | (with_reducible (refine below_via ?_ HB2.out ?_)) | (with_reducible (refine below_via ?_ HB1.out ?_)) | omega | (simp; done) | (simp; omega))))
  have HBY := Lib.hid (show w3.heap[w.heap.size + 1]? = some (.cells #[.slice L l.length cl] invsT (0, 0)) from (by repeat (first | (with_reducible assumption) | (with_reducible refine heap_below_is HB3.out (by (first | omega | (simp; done) | (simp; omega))) ?_) | (with_reducible refine heap_below_is HB2.out (by (first | omega | (simp; done) | (simp; omega))) ?_) | (with_reducible refine heap_below_is HB1.out (by (first | omega | (simp; done) | (simp; omega))) ?_) | (exact heap_at _ _ (by simp; done)) | (with_reducible refine heap_old_is _ _ (by (first | omega | (simp; done) | (simp; omega))) ?_) | (with_reducible refine heap_far_is (by (first | omega | (simp; done) | (simp; omega))) ?_))))
  refine Calls.mono (HDF.out (w.heap.size + 1) A c w2.heap.size _ ((Hhown.out.mono (by omega)).alloc _) (by simp; omega) (by omega) ((heap_old _ _ (by omega)).trans HBY.out) (by omega) (HL.out _ (by repeat' (first | (with_reducible exact Below.refl _ _) | (with_reducible (refine Below.setCell ?_ ?_ _)) | (with_reducible (refine Below.alloc ?_ ?_ _)) | (with_reducible (refine Below.drew ?_)) | (with_reducible (refine below_via ?_ HBX.out ?_)) | omega | (simp; done) | (simp; omega)))) (fun W' hb => HL.out W' (by repeat' (first | (with_reducible exact Below.refl _ _) | (with_reducible (refine Below.setCell ?_ ?_ _)) | (with_reducible (refine Below.alloc ?_ ?_ _)) | (with_reducible (refine Below.drew ?_)) | (with_reducible (refine below_via ?_ hb ?_)) | (with_reducible (refine below_via ?_ HBX.out ?_)) | omega | (simp; done) | (simp; omega))))) ?_
  rintro e w4 ⟨A', rfl, hown4, hb4, hkp⟩
  have hs4 := hb4.size
  try simp at hs4
  have HB4 := Lib.hid hb4
  clear hb4
  have Hhown4 := Lib.hid hown4
  clear hown4
  have Hhkp := Lib.hid hkp
  clear hkp
  have hA3 : ∀ p : Addr, A = some p → p.block < w3.heap.size := fun p hp => (Hhown.out.block_ hp).2
  have HX4 := Lib.hid (show w4.heap[w3.heap.size]? = some (.cells #[.slice A es.length c, .slice B ds.length d] tlbT (0, 0)) from (Hhkp.out _ (by simp) (fun p hp => by have := hA3 p hp; omega)).trans (heap_new _ _))
  have HI4 := Lib.hid ((Hhowd.out.alloc (.cells #[.slice A es.length c, .slice B ds.length d] tlbT)).keep2 (w' := w4) (fun p hp => Hhkp.out p.block (by have := (Hhowd.out.block_ hp).2; simp; omega) (fun q hq => Own.blk_ne Hhown.out Hhowd.out (by decide) q p hq hp)))
  have hn1 := Hhown4.out.ne_blk HX4.out (by decide)
  have hn2 := HI4.out.ne_blk HX4.out (by decide)
  have HO5 := Lib.hid (fun u => Hhown4.out.set_ne (p := ⟨w3.heap.size, 0, none⟩) hn1 u)
  have HI5 := Lib.hid (fun u => HI4.out.set_ne (p := ⟨w3.heap.size, 0, none⟩) hn2 u)
  have t6 := fun j => cell_of_row _ _ j _ _ _ HX4.out
  have tf := fun j => frozen_of_row _ _ j _ _ HX4.out
  have s2 := fun o => HB4.out.cell (p := ⟨w.heap.size + 2, o, none⟩) (by simp; omega)
  have sf := fun o => HB4.out.frozen (p := ⟨w.heap.size + 2, o, none⟩) (by simp; omega)
  have hne1 : ¬ w3.heap.size = w.heap.size + 2 := by omega
  have hne2 : ¬ w.heap.size + 2 = w3.heap.size := by omega
  clear hA3 hn1 hn2
  go_wp2
  refine bodyPost_ret (v := .tuple #[.agg #[.slice A' es'.length c, .slice B ds.length d], .int .i64 0]) (by simp [results, Try.results36, go_sem, *]) rfl ⟨A', c, B, d, rfl, ?_, ?_, ?_⟩
  · exact (((HO5.out _).set_far (by simp; omega) _).set_far (by simp; omega) _).mono (by omega)
  · exact (((HI5.out _).set_far (by simp; omega) _).set_far (by simp; omega) _).mono (by omega)
  · repeat' (first | (with_reducible exact Below.refl _ _) | (with_reducible (refine Below.setCell ?_ ?_ _)) | (with_reducible (refine Below.alloc ?_ ?_ _)) | (with_reducible (refine Below.drew ?_)) | (with_reducible (refine below_via ?_ HB4.out ?_)) | (with_reducible (refine below_via ?_ HBX.out ?_)) | omega | (simp; done) | (simp; omega))

end Go.Proofs.Ytbaninglcafhhaa
