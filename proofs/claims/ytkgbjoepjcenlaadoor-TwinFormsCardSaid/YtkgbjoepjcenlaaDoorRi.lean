/- The walks of kdf and share. -/
import Derived.Test.YtkgbjoepjcenlaaDoorRh
namespace Go.Proofs.YtkgbjoepjcenlaaDoor
open Go.RowKit
theorem cell_ne {B : Nat} {L : List (Nat × Tm)} {w : World} {b : Nat} (hb : w.heap[b]? = some (.cells #[.int .i64 0, .int .i64 0, .slice none 0 0] 28 (0, 0))) {t : Tm} (hz : Tm.nz t = true) {a : Option Addr} {n : Nat} (hT : TR (okW B L) w t a n) : TR (fun k => okW B L k ∧ k ≠ b) w t a n := by
  revert a n
  refine Tm.rec (motive_1 := fun t => Tm.nz t = true → ∀ {a : Option Addr} {n : Nat}, TR (okW B L) w t a n → TR (fun k => okW B L k ∧ k ≠ b) w t a n) (motive_2 := fun l => ∀ t ∈ l, Tm.nz t = true → ∀ {a : Option Addr} {n : Nat}, TR (okW B L) w t a n → TR (fun k => okW B L k ∧ k ≠ b) w t a n) ?_ ?_ ?_ t hz
  · intro o m ks ih hz a n h
    rw [TR_iff] at h ⊢
    unfold Tm.nz at hz
    rw [Bool.and_eq_true] at hz
    refine ⟨h.1, h.2.1, fun j hj => ?_⟩
    obtain ⟨b', o', an, nn, cc, e, hb', c0, c1, c2, ht⟩ := h.2.2 j hj
    have hzj := Tm.nzs_mem hz.2 _ (List.getElem_mem hj)
    refine ⟨b', o', an, nn, cc, e, ⟨⟨hb'.1, fun hbb => ?_⟩, hb'.2⟩, c0, c1, c2, ih _ (List.getElem_mem hj) hzj ht⟩
    subst hbb
    rw [cell_of_arr hb] at c0
    have hop : (Tm.kids (.mk o m ks))[j].op ≠ 0 := by
      cases hk : (Tm.kids (.mk o m ks))[j] with
      | mk o1 m1 ks1 =>
        rw [hk] at hzj
        unfold Tm.nz at hzj
        rw [Bool.and_eq_true] at hzj
        simpa [Tm.op] using hzj.1
    rcases hq : o' + j * 3 with _ | _ | _ | q
    · rw [hq] at c0; simp at c0; exact hop c0.symm
    · rw [hq] at c0; simp at c0; exact hop c0.symm
    · rw [hq] at c0; simp at c0
    · rw [hq] at c0; simp at c0
  · intro t ht; simp at ht
  · intro k ks h1 h2 t ht
    rcases List.mem_cons.1 ht with rfl | ht
    · exact h1
    · exact h2 t ht
/-- A variable more. -/
theorem TR.more {B : Nat} {L : List (Nat × Tm)} {w w' : World} {b : Nat} {u t : Tm} {a : Option Addr} {n : Nat} (hT : TR (fun k => okW B L k ∧ k ≠ b) w t a n) (hw : ∀ k, okW B L k ∧ k ≠ b → k < w.heap.size → w'.heap[k]? = w.heap[k]?) : TR (okW B ((b, u) :: L)) w' t a n :=
  hT.keep fun k hk hl => ⟨hw k hk hl, hk.1.1, fun p hp => by
    rcases List.mem_cons.1 hp with rfl | hp
    · exact fun e => hk.2 e.symm
    · exact hk.1.2 p hp⟩
theorem TR.fresh {B : Nat} {L : List (Nat × Tm)} {w : World} {t : Tm} {a : Option Addr} {n : Nat} (hT : TR (okW B L) w t a n) {b : Nat} (hb : w.heap.size ≤ b) : TR (fun k => okW B L k ∧ k ≠ b) w t a n :=
  hT.imp fun k hk hl => ⟨hk, by omega⟩
theorem GM.boxed {B : Nat} {L : List (Nat × Tm)} {w : World} (hG : GM B L w) {t : Tm} {a : Option Addr} {n c : Nat} (hz : Tm.nz t = true) (hT : TR (okW B L) w t a n) (hn : n ≤ c) : GM B ((w.heap.size, t) :: L) (w.alloc (.cells #[.int .i64 t.op, .int .i64 t.num, .slice a n c] 28)) := by
  have hb := pure_alloc w (.cells #[.int .i64 t.op, .int .i64 t.num, .slice a n c] 28)
  have hk : ∀ k, okW B L k ∧ k ≠ w.heap.size → k < w.heap.size → (w.alloc (.cells #[.int .i64 t.op, .int .i64 t.num, .slice a n c] 28)).heap[k]? = w.heap[k]? := fun k _ hl => hb.block k hl
  refine ⟨Nat.le_trans hG.1 hb.size, fun p hp => ?_⟩
  rcases List.mem_cons.1 hp with rfl | hp
  · exact ⟨hz, a, n, c, alloc_new _ _, (hT.fresh (Nat.le_refl _)).more hk, hn⟩
  · obtain ⟨hz', a', n', c', hb', hT', hn'⟩ := hG.2 p hp
    exact ⟨hz', a', n', c', Below.keep hb hb' (lt_of_block hb'), (hT'.fresh (Nat.le_refl _)).more hk, hn'⟩
theorem Fa.boxed {B : Nat} {L : List (Nat × Tm)} {w : World} {t u : Tm} {v : Value} (h : (Fa.tm t).holds B L v w) (o : Obj) : (Fa.tm t).holds B ((w.heap.size, u) :: L) v (w.alloc o) := by
  obtain ⟨hz, a, n, c, e, hT, hn⟩ := h
  exact ⟨hz, a, n, c, e, (hT.fresh (Nat.le_refl _)).more fun k _ hl => (pure_alloc w o).block k hl, hn⟩
/-- The stores of a term into a new variable. -/
theorem GM.stored {B : Nat} {L : List (Nat × Tm)} {w : World} (hG : GM B L w) {b : Nat} (hb : w.heap[b]? = some (.cells #[.int .i64 0, .int .i64 0, .slice none 0 0] 28 (0, 0))) (hL : ∀ p ∈ L, p.1 ≠ b) {t : Tm} (hz : Tm.nz t = true) {a : Option Addr} {n c : Nat} (hT : TR (okW B L) w t a n) (hn : n ≤ c) :
    GM B ((b, t) :: L) (((w.setCell ⟨b, 0, none⟩ (.int .i64 t.op)).setCell ⟨b, 1, none⟩ (.int .i64 t.num)).setCell ⟨b, 2, none⟩ (.slice a n c)) ∧ TR (okW B ((b, t) :: L)) (((w.setCell ⟨b, 0, none⟩ (.int .i64 t.op)).setCell ⟨b, 1, none⟩ (.int .i64 t.num)).setCell ⟨b, 2, none⟩ (.slice a n c)) t a n ∧ (((w.setCell ⟨b, 0, none⟩ (.int .i64 t.op)).setCell ⟨b, 1, none⟩ (.int .i64 t.num)).setCell ⟨b, 2, none⟩ (.slice a n c)).heap[b]? = some (.cells #[.int .i64 t.op, .int .i64 t.num, .slice a n c] 28 (0, 0)) := by
  obtain ⟨S1, S2, S3⟩ := put3 hb (.int .i64 t.op) (.int .i64 t.num) (.slice a n c) _ rfl
  have hk : ∀ k, okW B L k ∧ k ≠ b → k < w.heap.size → (((w.setCell ⟨b, 0, none⟩ (.int .i64 t.op)).setCell ⟨b, 1, none⟩ (.int .i64 t.num)).setCell ⟨b, 2, none⟩ (.slice a n c)).heap[k]? = w.heap[k]? := fun k h _ => S2 k h.2
  refine ⟨⟨Nat.le_trans hG.1 (by simp [World.setCell]), fun p hp => ?_⟩, (cell_ne hb hz hT).more hk, S1⟩
  rcases List.mem_cons.1 hp with rfl | hp
  · exact ⟨hz, a, n, c, S1, (cell_ne hb hz hT).more hk, hn⟩
  · obtain ⟨hz', a', n', c', hb', hT', hn'⟩ := hG.2 p hp
    exact ⟨hz', a', n', c', (S2 _ (hL p hp)).trans hb', (cell_ne hb hz' hT').more hk, hn'⟩
theorem GM.lt {B : Nat} {L : List (Nat × Tm)} {w : World} (h : GM B L w) : ∀ p ∈ L, p.1 < w.heap.size := fun p hp => by
  obtain ⟨_, a, n, c, hb, _⟩ := h.2 p hp
  exact lt_of_block hb
theorem TR.fewer {B : Nat} {L : List (Nat × Tm)} {p : Nat × Tm} {w : World} {t : Tm} {a : Option Addr} {n : Nat} (hT : TR (okW B (p :: L)) w t a n) : TR (okW B L) w t a n := hT.imp fun k hk _ => ⟨hk.1, fun q hq => hk.2 q (by simp [hq])⟩
theorem GM.fewer {B : Nat} {L : List (Nat × Tm)} {p : Nat × Tm} {w : World} (h : GM B (p :: L) w) : GM B L w := ⟨h.1, fun q hq => by
  obtain ⟨hz, a, n, c, hb, hT, hn⟩ := h.2 q (by simp [hq])
  exact ⟨hz, a, n, c, hb, hT.fewer, hn⟩⟩
theorem RB.stored {w0 w : World} (h : Below w0.heap.size w0 w) {b : Nat} (hb : w0.heap.size ≤ b) (x y z : Value) : Below w0.heap.size w0 (((w.setCell ⟨b, 0, none⟩ x).setCell ⟨b, 1, none⟩ y).setCell ⟨b, 2, none⟩ z) := ((h.setCell (by simpa using hb) _).setCell (by simpa using hb) _).setCell (by simpa using hb) _
abbrev facts (B : Nat) (L : List (Nat × Tm)) (l : List Fa) (j : Nat) : Value → World → Prop := Fa.holds B L (l.getD j .any)
theorem region_tm {B : Nat} {L : List (Nat × Tm)} {M id : Nat} {b : Bool} {w : World} {Q : Exit → Act → World → Prop} {ops : Array Oper} {a0 : Act} (l : List Fa) (hok : Rg.okB ops M a0.tmps.size = true) (ht : (if b then Rg.tailB ops M else decide (M ≤ ops.size)) = true) (hG : GM B L w)
    (hs : Rg.Steps Tryd.prog a0 ops w RB (GM B L) (facts B L l) 0 (ops.toList.take M))
    (hend : ∀ vs w', RB w w' → GM B L w' → (∀ j, j < M → facts B L l j (vs j) w') → wpList Tryd.prog ops Q (ops.toList.drop M) (Rg.putAll ops M vs a0) w') : (Code.region id ops b).wp Tryd.prog Q a0 w :=
  Rg.region_of RB (GM B L) (facts B L l) (by kernel_rfl) RB.refl RB.trans RB.drew (fun _ _ _ _ h hf => Fa.stable _ _ _ _ _ _ h hf) hok ht (fun h => GM.stable (RB.drew _) h) hG hs hend
set_option maxHeartbeats 1000000 in
theorem kdf_ends {B : Nat} {L : List (Nat × Tm)} {w : World} (hG : GM B L w) {k c : Tm} {vk vc : Value} (hk : (Fa.tm k).holds B L vk w) (hc : (Fa.tm c).holds B L vc w) (q : Int) : Calls Tryd.prog 50 #[vk, .int .i64 q, vc] w fun e w' => ∃ v, e = .returned v ∧ Ends B L w (Tm.kdf k q c) v w' := by
  obtain ⟨zk, ak, nk, ck, rfl, Tk, lk⟩ := hk
  obtain ⟨zc, ac, nc, cc, rfl, Tc, lc⟩ := hc
  have G1 := hG.boxed zk Tk lk
  have C1 : (Fa.tm c).holds B ((w.heap.size, k) :: L) (.agg #[.int .i64 c.op, .int .i64 c.num, .slice ac nc cc]) (w.alloc (.cells #[.int .i64 k.op, .int .i64 k.num, .slice ak nk ck] 28)) := Fa.boxed ⟨zc, ac, nc, cc, rfl, Tc, lc⟩ _
  have G2 : GM B ((w.heap.size + 1, c) :: (w.heap.size, k) :: L) ((w.alloc (.cells #[.int .i64 k.op, .int .i64 k.num, .slice ak nk ck] 28)).alloc (.cells #[.int .i64 c.op, .int .i64 c.num, .slice ac nc cc] 28)) := by
    obtain ⟨z, a, n, cc', e, hT, hn⟩ := C1
    cases e
    have := G1.boxed z hT hn
    simpa using this
  have N3 : (((w.alloc (.cells #[.int .i64 k.op, .int .i64 k.num, .slice ak nk ck] 28)).alloc (.cells #[.int .i64 c.op, .int .i64 c.num, .slice ac nc cc] 28)).alloc (.cells #[.int .i64 0, .int .i64 0, .slice none 0 0] 28)).heap[w.heap.size + 1 + 1]? = some (.cells #[.int .i64 0, .int .i64 0, .slice none 0 0] 28 (0, 0)) := alloc_new' _ _ _ (by simp)
  have HG0 := Lib.hid (G2.stable (pure_alloc _ (.cells #[.int .i64 0, .int .i64 0, .slice none 0 0] 28)))
  have HB0 : Hid (Below w.heap.size w (((w.alloc (.cells #[.int .i64 k.op, .int .i64 k.num, .slice ak nk ck] 28)).alloc (.cells #[.int .i64 c.op, .int .i64 c.num, .slice ac nc cc] 28)).alloc (.cells #[.int .i64 0, .int .i64 0, .slice none 0 0] 28))) := ((pure_alloc _ _).alloc (by simp) _).alloc (by simp; omega) _
  have HN0 := Lib.hid N3
  have HL : Hid (∀ p ∈ L, p.1 < w.heap.size) := hG.lt
  clear G1 C1 G2 N3 hG Tk Tc
  go_enter Tryd.func50, Tryd.ntmps50
  go_upto_region 1 with fail
  generalize (((w.alloc (.cells #[.int .i64 k.op, .int .i64 k.num, .slice ak nk ck] 28)).alloc (.cells #[.int .i64 c.op, .int .i64 c.num, .slice ac nc cc] 28)).alloc (.cells #[.int .i64 0, .int .i64 0, .slice none 0 0] 28)) = w1 at *
  refine region_tm (M := 8) [.tm k, .eq (.int .i64 q), .tm (Tm.nm q), .tm c, .tl [Tm.nm q, c], .tm (Tm.tup [Tm.nm q, c]), .tl [k, Tm.tup [Tm.nm q, c]], .tm (Tm.mk 8 0 [k, Tm.tup [Tm.nm q, c]])] (by kernel_rfl) (by kernel_rfl) HG0.out ?_ ?_
  · refine ⟨fun vs W hR hG hd => ?_, fun vs W hR hG hd => ?_, fun vs W hR hG hd => ?_, fun vs W hR hG hd => ?_, fun vs W hR hG hd => ?_, fun vs W hR hG hd => ?_, fun vs W hR hG hd => ?_, fun vs W hR hG hd => ?_, trivial⟩
    · exact does_load hG (.tmp 3) w.heap.size k (by simp) rfl (by kernel_rfl)
    · exact Rg.Does.move (.tmp 1) rfl ⟨RB.refl _, hG, show _ = _ by kernel_rfl⟩
    · have e1 : vs 1 = .int .i64 q := hd 1 (by decide); exact does_call (vals := #[vs 1]) 45 (.func 45) #[.tmp 8] _ rfl (by kernel_rfl) (by kernel_rfl) (cf 45 _ Tryd.func45 (by kernel_rfl) (by kernel_rfl) _) (by rw [e1]; exact name_ends hG q)
    · exact does_load hG (.tmp 5) (w.heap.size + 1) c (by simp) rfl (by kernel_rfl)
    · exact does_row2 hG (.tmp 9) (.tmp 10) (Tm.nm q) c rfl (hd 2 (by decide)) (hd 3 (by decide))
    · exact does_call (vals := #[vs 4]) 48 (.func 48) #[.tmp 11] _ rfl (by kernel_rfl) (by kernel_rfl) (cf 48 _ Tryd.func48 (by kernel_rfl) (by kernel_rfl) _) (tuple_ends hG (by simp) (hd 4 (by decide)))
    · exact does_row2 hG (.tmp 7) (.tmp 12) k (Tm.tup [Tm.nm q, c]) rfl (hd 0 (by decide)) (hd 5 (by decide))
    · exact does_call (vals := #[.int .i64 8, vs 6]) 47 (.func 47) #[.const (.int .i64 8), .tmp 13] _ rfl (by kernel_rfl) (by kernel_rfl) (cf 47 _ Tryd.func47 (by kernel_rfl) (by kernel_rfl) _) (node_ends hG 8 (by decide) (hd 6 (by decide)))
  · intro vs W1 hR1 hG1 hf
    obtain ⟨z, a, n, c', ev, hT, hn⟩ := hf 7 (by decide)
    have HB1 := Lib.hid (HB0.out.trans (hR1.mono (HB0.out.size)))
    have N1 := Below.keep hR1 HN0.out (lt_of_block HN0.out)
    have HG1 := Lib.hid hG1
    have HT := Lib.hid hT
    have HN1 := Lib.hid N1
    clear hf hR1 hG1 hT
    have r0 := cell_of_arr N1 0
    have r1 := cell_of_arr N1 1
    have r2 := cell_of_arr N1 2
    simp at r0 r1 r2
    have f0 := frozen_of_arr N1 0
    have f1 := frozen_of_arr N1 1
    have f2 := frozen_of_arr N1 2
    clear N1
    simp only [Rg.putAll, Rg.putFrom, List.take_succ_cons, List.take_zero, List.drop_succ_cons, List.drop_zero, Act.put, List.setIfInBounds_toArray, List.set_cons_zero, List.set_cons_succ, ev]
    clear ev
    obtain ⟨HS, HTT, HSS⟩ := GM.stored HG1.out HN1.out (by
      intro p hp e
      simp only [List.mem_cons] at hp
      rcases hp with rfl | rfl | hp
      · simp at e <;> omega
      · simp at e <;> omega
      · have := HL.out p hp; omega) z HT.out hn
    have HE : Hid (Ends B L w (Tm.kdf k q c) (.agg #[.int .i64 8, .int .i64 0, .slice a n c']) (((W1.setCell ⟨w.heap.size + 1 + 1, 0, none⟩ (.int .i64 8)).setCell ⟨w.heap.size + 1 + 1, 1, none⟩ (.int .i64 0)).setCell ⟨w.heap.size + 1 + 1, 2, none⟩ (.slice a n c'))) := by
      refine ⟨RB.stored HB1.out (by omega) _ _ _, HS.fewer.fewer.fewer, z, a, n, c', rfl, HTT.fewer.fewer.fewer, hn⟩
    have p0 := cell_of_arr HSS 0
    have p1 := cell_of_arr HSS 1
    have p2 := cell_of_arr HSS 2
    simp [Tm.op, Tm.num] at p0 p1 p2
    simp only [Tm.op, Tm.num]
    clear HS HTT HSS
    go_wp2_with fail
    exact bodyPost_ret (v := .agg #[.int .i64 8, .int .i64 0, .slice a n c']) (by simp [results, Tryd.results50, go_sem, p0, p1, p2]) rfl ⟨_, rfl, HE.out⟩
set_option maxHeartbeats 1000000 in
theorem share_ends {B : Nat} {L : List (Nat × Tm)} {w : World} (hG : GM B L w) (p q : Int) : Calls Tryd.prog 46 #[.int .i64 p, .int .i64 q] w fun e w' => ∃ v, e = .returned v ∧ Ends B L w (Tm.share p q) v w' := by
  have HG0 := Lib.hid (hG.stable (pure_alloc _ (.cells #[.int .i64 0, .int .i64 0, .slice none 0 0] 28)))
  have HB0 : Hid (Below w.heap.size w (w.alloc (.cells #[.int .i64 0, .int .i64 0, .slice none 0 0] 28))) := pure_alloc _ _
  have HN0 := Lib.hid (alloc_new w (.cells #[.int .i64 0, .int .i64 0, .slice none 0 0] 28))
  have HL : Hid (∀ p ∈ L, p.1 < w.heap.size) := hG.lt
  clear hG
  go_enter Tryd.func46, Tryd.ntmps46
  go_upto_region 1 with fail
  generalize (w.alloc (.cells #[.int .i64 0, .int .i64 0, .slice none 0 0] 28)) = w1 at *
  refine region_tm (M := 6) [.eq (.int .i64 p), .tm (Tm.nm p), .eq (.int .i64 q), .tm (Tm.nm q), .tl [Tm.nm p, Tm.nm q], .tm (Tm.mk 7 0 [Tm.nm p, Tm.nm q])] (by kernel_rfl) (by kernel_rfl) HG0.out ?_ ?_
  · refine ⟨fun vs W hR hG hd => ?_, fun vs W hR hG hd => ?_, fun vs W hR hG hd => ?_, fun vs W hR hG hd => ?_, fun vs W hR hG hd => ?_, fun vs W hR hG hd => ?_, trivial⟩
    · exact Rg.Does.move (.tmp 0) rfl ⟨RB.refl _, hG, show _ = _ by kernel_rfl⟩
    · have e0 : vs 0 = .int .i64 p := hd 0 (by decide); exact does_call (vals := #[vs 0]) 45 (.func 45) #[.tmp 5] _ rfl (by kernel_rfl) (by kernel_rfl) (cf 45 _ Tryd.func45 (by kernel_rfl) (by kernel_rfl) _) (by rw [e0]; exact name_ends hG p)
    · exact Rg.Does.move (.tmp 1) rfl ⟨RB.refl _, hG, show _ = _ by kernel_rfl⟩
    · have e2 : vs 2 = .int .i64 q := hd 2 (by decide); exact does_call (vals := #[vs 2]) 45 (.func 45) #[.tmp 7] _ rfl (by kernel_rfl) (by kernel_rfl) (cf 45 _ Tryd.func45 (by kernel_rfl) (by kernel_rfl) _) (by rw [e2]; exact name_ends hG q)
    · exact does_row2 hG (.tmp 6) (.tmp 8) (Tm.nm p) (Tm.nm q) rfl (hd 1 (by decide)) (hd 3 (by decide))
    · exact does_call (vals := #[.int .i64 7, vs 4]) 47 (.func 47) #[.const (.int .i64 7), .tmp 9] _ rfl (by kernel_rfl) (by kernel_rfl) (cf 47 _ Tryd.func47 (by kernel_rfl) (by kernel_rfl) _) (node_ends hG 7 (by decide) (hd 4 (by decide)))
  · intro vs W1 hR1 hG1 hf
    obtain ⟨z, a, n, c', ev, hT, hn⟩ := hf 5 (by decide)
    have HB1 := Lib.hid (HB0.out.trans (hR1.mono (HB0.out.size)))
    have N1 := Below.keep hR1 HN0.out (lt_of_block HN0.out)
    have HG1 := Lib.hid hG1
    have HT := Lib.hid hT
    have HN1 := Lib.hid N1
    clear hf hR1 hG1 hT
    have r0 := cell_of_arr N1 0
    have r1 := cell_of_arr N1 1
    have r2 := cell_of_arr N1 2
    simp at r0 r1 r2
    have f0 := frozen_of_arr N1 0
    have f1 := frozen_of_arr N1 1
    have f2 := frozen_of_arr N1 2
    clear N1
    simp only [Rg.putAll, Rg.putFrom, List.take_succ_cons, List.take_zero, List.drop_succ_cons, List.drop_zero, Act.put, List.setIfInBounds_toArray, List.set_cons_zero, List.set_cons_succ, ev]
    clear ev
    obtain ⟨HS, HTT, HSS⟩ := GM.stored HG1.out HN1.out (by
      intro p hp e
      have := HL.out p hp; omega) z HT.out hn
    have HE : Hid (Ends B L w (Tm.share p q) (.agg #[.int .i64 7, .int .i64 0, .slice a n c']) (((W1.setCell ⟨w.heap.size, 0, none⟩ (.int .i64 7)).setCell ⟨w.heap.size, 1, none⟩ (.int .i64 0)).setCell ⟨w.heap.size, 2, none⟩ (.slice a n c'))) := by
      refine ⟨RB.stored HB1.out (by omega) _ _ _, HS.fewer, z, a, n, c', rfl, HTT.fewer, hn⟩
    have p0 := cell_of_arr HSS 0
    have p1 := cell_of_arr HSS 1
    have p2 := cell_of_arr HSS 2
    simp [Tm.op, Tm.num] at p0 p1 p2
    simp only [Tm.op, Tm.num]
    clear HS HTT HSS
    go_wp2_with fail
    exact bodyPost_ret (v := .agg #[.int .i64 7, .int .i64 0, .slice a n c']) (by simp [results, Tryd.results46, go_sem, p0, p1, p2]) rfl ⟨_, rfl, HE.out⟩
end Go.Proofs.YtkgbjoepjcenlaaDoor
