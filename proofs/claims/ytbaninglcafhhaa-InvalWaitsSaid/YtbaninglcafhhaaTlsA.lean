/-
  Rows of what is remembered: what one is in memory; the library's search in one; the same, one by one. Conditions: the lengths fit.
-/
import Derived.Test.YtbaninglcafhhaaRefT
import Derived.Test.YtbaninglcafhhaaTlA
import Derived.Test.YtbaninglcafhhaaFindE
import Derived.Test.YtbaninglcafhhaaLeft
import Derived.Test.YtbaninglcafhhaaAsk
namespace Go.Proofs.Ytbaninglcafhhaa
open Go Go.RowKit

/-- A row, and what each of it holds. -/
structure TlsAt (w : World) (A : Option Addr) (ts : List Tl) : Prop where
  row : At w A 2 Tl.cells ts
  each : ∀ t ∈ ts, TlAt w t
theorem TlsAt.below {w w' : World} {A : Option Addr} {ts : List Tl} (h : TlsAt w A ts) (hb : Below w.heap.size w w') : TlsAt w' A ts := ⟨h.row.below hb, fun t ht => (h.each t ht).below hb⟩
/-- A row of the call's own, and rows of its own in it. -/
structure TlsOwn (w : World) (B : Nat) (A : Option Addr) (c : Nat) (ts : List Tl) : Prop where
  row : Own w B tlbT 2 Tl.cells ts A c
  ents : ∀ t ∈ ts, Own w B entT 14 Ent.cells t.es t.ea t.ec
  dues : ∀ t ∈ ts, Own w B invT 4 Inv.cells t.ds t.da t.dc
theorem TlsOwn.nil {w : World} {B : Nat} : TlsOwn w B none 0 [] := ⟨World.ownsRow_nil _ _ _ _, fun _ h => by simp at h, fun _ h => by simp at h⟩
theorem TlsOwn.below {w w' : World} {B : Nat} {A : Option Addr} {c : Nat} {ts : List Tl} (h : TlsOwn w B A c ts) (hb : Below w.heap.size w w') : TlsOwn w' B A c ts := ⟨h.row.below hb (Nat.le_refl _), fun t ht => (h.ents t ht).below hb (Nat.le_refl _), fun t ht => (h.dues t ht).below hb (Nat.le_refl _)⟩
theorem TlsOwn.mono {w : World} {B B' : Nat} {A : Option Addr} {c : Nat} {ts : List Tl} (h : TlsOwn w B A c ts) (hb : B' ≤ B) : TlsOwn w B' A c ts := ⟨h.row.mono hb, fun t ht => (h.ents t ht).mono hb, fun t ht => (h.dues t ht).mono hb⟩
theorem TlsOwn.at_ {w : World} {B : Nat} {A : Option Addr} {c : Nat} {ts : List Tl} (h : TlsOwn w B A c ts) (hl : ∀ t ∈ ts, t.es.length ≤ 140737488355328 ∧ t.ds.length ≤ 140737488355328) : TlsAt w A ts :=
  ⟨h.row.at_ tl_len, fun t ht => TlAt.of_own (h.ents t ht) (h.dues t ht) (hl t ht).1 (hl t ht).2⟩
/-- One more: the row's block alone has turned. -/
theorem TlsOwn.snoc {w w' : World} {B : Nat} {A A' : Option Addr} {c c' : Nat} {ts ts' : List Tl} {y : Tl} (h : TlsOwn w B A c ts) (hl : ts' = ts ++ [y]) (he : Own w B entT 14 Ent.cells y.es y.ea y.ec) (hd : Own w B invT 4 Inv.cells y.ds y.da y.dc)
    (ho : Own w' B tlbT 2 Tl.cells ts' A' c') (hk : ∀ b, b < w.heap.size → (∀ p : Addr, A = some p → p.block ≠ b) → w'.heap[b]? = w.heap[b]?) : TlsOwn w' B A' c' ts' := by
  subst hl
  refine ⟨ho, fun t ht => ?_, fun t ht => ?_⟩
  · have h1 : Own w B entT 14 Ent.cells t.es t.ea t.ec := by
      rcases List.mem_append.1 ht with h2 | h2
      · exact h.ents t h2
      · rw [List.mem_singleton.1 h2]; exact he
    exact h1.keep2 fun p hp => hk _ (h1.block_ hp).2 fun q hq => Own.blk_ne h.row h1 (by decide) q p hq hp
  · have h1 : Own w B invT 4 Inv.cells t.ds t.da t.dc := by
      rcases List.mem_append.1 ht with h2 | h2
      · exact h.dues t h2
      · rw [List.mem_singleton.1 h2]; exact hd
    exact h1.keep2 fun p hp => hk _ (h1.block_ hp).2 fun q hq => Own.blk_ne h.row h1 (by decide) q p hq hp
/-- What a row holds, wherever it lies. -/
def held (ts : List Tl) : List (List Ent × List Inv) := ts.map fun t => (t.es, t.ds)
theorem held_len {xs ys : List Tl} (h : held xs = held ys) : xs.length = ys.length := by
  have := congrArg List.length h
  simpa [held] using this
theorem held_get {xs ys : List Tl} (h : held xs = held ys) {k : Nat} (h1 : k < xs.length) (h2 : k < ys.length) : xs[k].es = ys[k].es ∧ xs[k].ds = ys[k].ds := by
  have e : (held xs)[k]? = (held ys)[k]? := by rw [h]
  simp only [held, List.getElem?_map, List.getElem?_eq_getElem h1, List.getElem?_eq_getElem h2, Option.map_some] at e
  injection e with e
  injection e with e1 e2
  exact ⟨e1, e2⟩
theorem held_snoc {xs ys : List Tl} {k : Nat} (h : held xs = held (ys.take k)) (hk : k < ys.length) {y : Tl} (h1 : y.es = ys[k].es) (h2 : y.ds = ys[k].ds) : held (xs ++ [y]) = held (ys.take (k + 1)) := by
  rw [List.take_succ_eq_append_getElem hk]
  simp only [held, List.map_append] at h ⊢
  rw [h]
  simp [h1, h2]
theorem tl_one {l : List Tl} (u : Value) (h : u ∈ l.flatMap Tl.cells) : u.oneCell' = true := by
  obtain ⟨t, _, hu⟩ := List.mem_flatMap.1 h
  simp [Tl.cells] at hu
  rcases hu with rfl | rfl <;> rfl
theorem tl_ones (t : Tl) : ∀ u ∈ t.cells, u.oneCell' = true := fun u hu => by
  simp [Tl.cells] at hu
  rcases hu with rfl | rfl <;> rfl
theorem tlb_info : (Try.prog.info? tlbT).map (fun i => (i.zero, i.size, i.bytes)) = some (some (.agg #[.slice none 0 0, .slice none 0 0]), 2, 48) := by kernel_rfl

set_option maxRecDepth 100000 in
set_option maxHeartbeats 4000000 in
theorem IndexFunc_tlb0 (K : Nat) (p : Tl → Bool) (L : Option Addr) (cl : Nat) (l : List Tl) (w : World) (hl : l.length ≤ 140737488355328) (hL : At w L 2 Tl.cells l)
    (hK : ∀ (v : Value) (W : World), Sem.run Try.prog (callFunc K #[v]) W = .ok (.enter K #[v]) W)
    (hp : ∀ (W : World), ∀ x ∈ l, Below w.heap.size w W → Calls Try.prog K #[.agg (Tl.cells x).toArray] W fun e w' => e = .returned (.bool (p x)) ∧ Below W.heap.size W w') :
    Calls Try.prog 98 #[.slice L l.length cl, .func (.func K) #[] #[]] w fun e w' => e = .returned (.int .i64 (idx p l)) ∧ Below w.heap.size w w' := by
  have HP := Lib.hid hp
  have HL := Lib.hid hL
  clear hp hL
  go_enter Try.func98, Try.ntmps98
  go_wp2
  go_loopw [8] (fun i wr => ∃ k : Nat, k ≤ l.length ∧ i = .int .i64 k ∧ (l.take k).any p = false ∧ Below w.heap.size w wr) (fun i _ => l.length - (intOf i).toNat)
  case atStart => exact ⟨0, Nat.zero_le _, rfl, rfl, Below.refl _ _⟩
  case round =>
    obtain ⟨k, hk, rfl, ht, hbw⟩ := hrel
    have HT := Lib.hid ht
    clear ht
    have HBW := Lib.hid hbw
    have hsw := hbw.size
    clear hbw
    by_cases hlt : k < l.length
    · obtain ⟨b, off, rfl, hbl, hc⟩ := at_cells HL.out HBW.out hlt
      have hbr : b < wr.heap.size := by omega
      have HPX := Lib.hid (fun W (hb : Below wr.heap.size wr W) => HP.out W l[k] (List.getElem_mem hlt) ((by repeat' (first | (with_reducible exact Below.refl _ _) | (with_reducible (refine Below.setCell ?_ ?_ _)) | (with_reducible (refine Below.alloc ?_ ?_ _)) | (with_reducible (refine Below.drew ?_)) | (with_reducible (refine below_via ?_ hb ?_)) | (with_reducible (refine below_via ?_ HBW.out ?_)) | omega | (simp; done) | (simp; omega)))))
      obtain ⟨x, hxk⟩ : ∃ x, l[k] = x := ⟨_, rfl⟩
      rw [hxk] at hc HPX
      have HXK := Lib.hid hxk
      clear hxk
      obtain ⟨pv, hpv⟩ : ∃ pv, p x = pv := ⟨_, rfl⟩
      have HPV := Lib.hid hpv
      rw [hpv] at HPX
      clear hpv
      obtain ⟨a0, a1, a2, a3, a4, a5⟩ := x
      have HPY := Lib.hid (show ∀ (W : World), Below wr.heap.size wr W → Calls Try.prog K #[.agg #[.slice a0 a2.length a1, .slice a3 a5.length a4]] W fun e w' => e = .returned (.bool pv) ∧ Below W.heap.size W w' from HPX.out)
      clear HPX
      have c0 := hc 0 _ rfl
      have c1 := hc 1 _ rfl
      clear hc
      simp only [Nat.add_zero] at c0
      have hki : (k : Int) < l.length := by omega
      cases pv
      · go_wp2_with fail
        refine Calls.mono (HPY.out _ (Below.refl _ _)) ?_
        rintro e w1 ⟨rfl, hb1⟩
        have hs1 := hb1.size
        try simp at hs1
        have HB1 := Lib.hid hb1
        clear hb1
        clear c0 c1
        go_wp2
        go_roundw
        case rel => exact ⟨k + 1, by omega, by go_num, any_take_step HT.out hlt (by rw [HXK.out]; exact HPV.out), (by repeat' (first | (with_reducible exact Below.refl _ _) | (with_reducible (refine Below.setCell ?_ ?_ _)) | (with_reducible (refine Below.alloc ?_ ?_ _)) | (with_reducible (refine Below.drew ?_)) | (with_reducible (refine below_via ?_ HB1.out ?_)) | (with_reducible (refine below_via ?_ HBW.out ?_)) | omega | (simp; done) | (simp; omega)))⟩
        case measure => simp [intOf]; omega
      · go_wp2_with fail
        refine Calls.mono (HPY.out _ (Below.refl _ _)) ?_
        rintro e w1 ⟨rfl, hb1⟩
        have hs1 := hb1.size
        try simp at hs1
        have HB1 := Lib.hid hb1
        clear hb1
        clear c0 c1
        go_wp2
        go_ret
        exact ⟨by rw [idx_yes HT.out hlt (by rw [HXK.out]; exact HPV.out)]; rfl, (by repeat' (first | (with_reducible exact Below.refl _ _) | (with_reducible (refine Below.setCell ?_ ?_ _)) | (with_reducible (refine Below.alloc ?_ ?_ _)) | (with_reducible (refine Below.drew ?_)) | (with_reducible (refine below_via ?_ HB1.out ?_)) | (with_reducible (refine below_via ?_ HBW.out ?_)) | omega | (simp; done) | (simp; omega)))⟩
    · go_wp2
      go_ret
      exact ⟨by rw [idx_no HT.out (by omega)]; rfl, HBW.out⟩

set_option maxHeartbeats 1000000 in
theorem ContainsFunc_tlb0 (K : Nat) (p : Tl → Bool) (L : Option Addr) (cl : Nat) (l : List Tl) (w : World) (hl : l.length ≤ 140737488355328) (hL : At w L 2 Tl.cells l)
    (hK : ∀ (v : Value) (W : World), Sem.run Try.prog (callFunc K #[v]) W = .ok (.enter K #[v]) W)
    (hp : ∀ (W : World), ∀ x ∈ l, Below w.heap.size w W → Calls Try.prog K #[.agg (Tl.cells x).toArray] W fun e w' => e = .returned (.bool (p x)) ∧ Below W.heap.size W w') :
    Calls Try.prog 77 #[.slice L l.length cl, .func (.func K) #[] #[]] w fun e w' => e = .returned (.bool (l.any p)) ∧ Below w.heap.size w w' := by
  have HI := Lib.hid (IndexFunc_tlb0 K p L cl l w hl hL hK hp)
  have HG := Lib.hid (idx_ge p l)
  clear hp hL hK
  go_enter Try.func77, Try.ntmps77
  go_wp2_with fail
  refine Calls.mono (HI.out) ?_
  rintro e w1 ⟨rfl, hb1⟩
  have hs1 := hb1.size
  try simp at hs1
  have HB1 := Lib.hid hb1
  clear hb1
  generalize idx p l = ix at *
  go_wp2
  go_ret
  exact ⟨by rw [← HG.out]; rfl, HB1.out⟩

end Go.Proofs.Ytbaninglcafhhaa
