/- The walk of do: a byte is written. -/
import Derived.Test.YtnfjfifdkmgbdaaWn
import Derived.Deep.LoopGhost
namespace Go.Proofs.Ytnfjfifdkmgbdaa
open Go.RowKit

theorem setPage_len (m : Fl.Mem) (q : Nat) (x : List UInt8) : (Fl.setPage m q x).pages.length = m.pages.length := by simp [Fl.setPage]
theorem setPage_get (m : Fl.Mem) (q : Nat) (x : List UInt8) (h : q < m.pages.length) : (Fl.setPage m q x).pages.getD q [] = x := by simp [Fl.setPage, h]
theorem setPage_set (m : Fl.Mem) (q : Nat) (x y : List UInt8) : Fl.setPage (Fl.setPage m q x) q y = Fl.setPage m q y := by simp [Fl.setPage]
theorem setPage_self (m : Fl.Mem) (q : Nat) (h : q < m.pages.length) : Fl.setPage m q (m.pages.getD q []) = m := by
  unfold Fl.setPage
  congr 1
  apply List.ext_getElem?
  intro i
  by_cases e : q = i
  · subst e; simp [h]
  · rw [List.getElem?_set_ne e]
theorem rep_snoc (j : Nat) (x : UInt8) : List.replicate (j + 1) x = List.replicate j x ++ [x] := by rw [List.replicate_succ']

/-- One byte more on page q: what the walk leaves is the memory with that byte. -/
theorem OwnF.push {wr w4 w5 : World} {base X : Nat} {m : Fl.Mem} {g pc : Nat} {ea : Option Addr} {ec : Nat} {vs : List Value} {q : Nat} {a a5 : Option Addr} {c c5 L : Nat} {x : UInt8} {p : List UInt8} (h : OwnF wr base X m (some ⟨g, 0, none⟩) pc ea ec vs) (hq : q < m.pages.length)
    (hv : vs.getD q undef = .slice a L c) (hp4 : Below wr.heap.size wr w4) (hown5 : OwnB w5 base (.slice a5 (L + 1) c5) (p ++ [x])) (hgr : w4.grownBy w5 (Value.slice a L c).ownBlock)
    (hob : (Value.slice a5 (L + 1) c5).ownBlock = (Value.slice a L c).ownBlock ∨ (Value.slice a5 (L + 1) c5).ownBlock = some w4.heap.size) :
    OwnF (w5.setCell ⟨g, q, none⟩ (.slice a5 (L + 1) c5)) base X (Fl.setPage m q (p ++ [x])) (some ⟨g, 0, none⟩) pc ea ec (vs.set q (.slice a5 (L + 1) c5)) ∧ FK wr (w5.setCell ⟨g, q, none⟩ (.slice a5 (L + 1) c5)) (some ⟨g, 0, none⟩) ea vs (vs.set q (.slice a5 (L + 1) c5)) := by
  refine h.upd hq (by rw [hv]; exact grown_trans hp4 hgr) hown5 ?_
  rcases hob with h1 | h1
  · exact .inr (.inl (by rw [hv]; exact h1))
  · exact .inr (.inr ⟨_, h1, hp4.size⟩)

set_option maxHeartbeats 1600000 in
theorem do_write (base X : Nat) (m : Fl.Mem) (pa : Option Addr) (pc : Nat) (ea : Option Addr) (ec : Nat) (vs : List Value) (q : Nat) (at_ : Int) (b : UInt8) (w : World) (h : OwnF w base X m pa pc ea ec vs) (hq : q < m.pages.length) (hpl : m.pages.length ≤ 1000) (ha0 : 0 ≤ at_) (ha1 : at_ ≤ 100000) (hl : (m.pages.getD q []).length ≤ 200000) (hbase : base ≤ w.heap.size) :
    Calls Try.prog 44 #[.pointer (some ⟨X, 0, none⟩), .agg #[.int .i64 (q : Int), .int .i64 at_, .bool false, .int .u8 (b.toNat : Int)]] w
      (fun e w' => e = .returned (.tuple #[]) ∧ ∃ vs', OwnF w' base X (Fl.doP m ⟨(q : Int), at_, false, b⟩) pa pc ea ec vs' ∧ FK w w' pa ea vs vs') := by
  have hXl := lt_of_block h.box
  obtain ⟨N, rfl⟩ := Int.eq_ofNat_of_zero_le ha0
  obtain ⟨p, hp⟩ : ∃ p, m.pages.getD q [] = p := ⟨_, rfl⟩
  rw [hp] at hl
  have P1 := pure_alloc w (.cells #[.int .i64 (q : Int), .int .i64 (N : Int), .bool false, .int .u8 (b.toNat : Int)] 74)
  have h1 : OwnF (w.alloc (.cells #[.int .i64 (q : Int), .int .i64 (N : Int), .bool false, .int .u8 (b.toNat : Int)] 74)) base X (Fl.setPage m q (p ++ List.replicate 0 255)) pa pc ea ec vs := by
    have := h.pure P1
    rw [← hp, show m.pages.getD q [] ++ List.replicate 0 255 = m.pages.getD q [] by simp, setPage_self m q hq]
    exact this
  have n1 : (w.alloc (.cells #[.int .i64 (q : Int), .int .i64 (N : Int), .bool false, .int .u8 (b.toNat : Int)] 74)).heap[w.heap.size]? = some (.cells #[.int .i64 (q : Int), .int .i64 (N : Int), .bool false, .int .u8 (b.toNat : Int)] 74 (0, 0)) := alloc_new _ _
  have HD : Hid (Fl.doP m ⟨(q : Int), (N : Int), false, b⟩ = Fl.setPage m q ((p ++ List.replicate (N - p.length) 255) ++ [b])) := by
    show Fl.doP _ _ = _
    simp [Fl.doP, Fl.padTo, Fl.page, hp]
    rw [← hp]; rfl
  have HP1 := Lib.hid P1
  have H1 := Lib.hid h1
  have HN1 := Lib.hid n1
  have HH := Lib.hid h
  clear P1 h1 n1 h hp
  go_enter Try.func44, Try.ntmps44
  go_wp2_with fail
  go_loopg [34] (N - p.length) (fun gk s wr => ∃ (j : Nat) (vs' : List Value), gk = N - (p.length + j) ∧ j ≤ N - p.length ∧ OwnF wr base X (Fl.setPage m q (p ++ List.replicate j 255)) pa pc ea ec vs' ∧ FK w wr pa ea vs vs' ∧ wr.heap[w.heap.size]? = some (.cells #[.int .i64 (q : Int), .int .i64 (N : Int), .bool false, .int .u8 (b.toNat : Int)] 74 (0, 0)))
  case atStart => exact ⟨0, vs, rfl, by omega, H1.out, FK.pure HP1.out, HN1.out⟩
  case round =>
    obtain ⟨j, vs', rfl, hj, hO, hK, hB⟩ := hrel
    obtain ⟨g, a, c, rfl, hvi, c1, c2, ci, fi, gX, gl⟩ := hO.reads (i := q) (by rw [setPage_len]; exact hq)
    rw [setPage_get m q _ hq] at hvi ci
    rw [setPage_len] at c1
    have hL : (p ++ List.replicate j 255).length = p.length + j := by simp
    rw [hL] at hvi ci
    have s0 := cell_of_arr hB 0
    have s1 := cell_of_arr hB 1
    have s3 := cell_of_arr hB 3
    simp at s0 s1 s3
    have bl := lt_of_block hB
    have gB : g ≠ w.heap.size := fun e => by
      have := HH.out.blk (k := g) (.inl ⟨_, rfl, rfl⟩)
      omega
    have oB : (Value.slice a (p.length + j) c).ownBlock ≠ some w.heap.size := fun e => by
      have he := hO.pages.each q (by have := hO.pages.len; rw [setPage_len] at this; omega)
      rw [hvi] at he
      obtain ⟨_, _, cur, hc⟩ := own_lt he e
      exact kind_ne hc hB (by decide) rfl
    have oX : (Value.slice a (p.length + j) c).ownBlock ≠ some X := fun e => by
      have he := hO.pages.each q (by have := hO.pages.len; rw [setPage_len] at this; omega)
      rw [hvi] at he
      obtain ⟨_, _, cur, hc⟩ := own_lt he e
      exact kind_ne hc hO.box (by decide) rfl
    have oG : (Value.slice a (p.length + j) c).ownBlock ≠ some g := fun e => by
      have he := hO.pages.each q (by have := hO.pages.len; rw [setPage_len] at this; omega)
      rw [hvi] at he
      obtain ⟨_, _, cur, hc⟩ := own_lt he e
      obtain ⟨_, _, cur', hc'⟩ := own_lt hO.pages.row (g := g) rfl
      exact kind_ne hc hc' (by decide) rfl
    have he5 : OwnB wr base (.slice a (p.length + j) c) (p ++ List.replicate j 255) := by
      have he := hO.pages.each q (by have := hO.pages.len; rw [setPage_len] at this; omega)
      rw [hvi, setPage_get m q _ hq] at he
      exact he
    have HO := Lib.hid hO
    have HK := Lib.hid hK
    have HB := Lib.hid hB
    have HVI := Lib.hid hvi
    have HE5 := Lib.hid he5
    have Xl := lt_of_block hO.box
    have hbr : base ≤ wr.heap.size := Nat.le_trans hbase hK.size
    have q0 : (0 : Int) ≤ (q : Int) := by omega
    have q1 : (q : Int) < (m.pages.length : Int) := by omega
    clear hO hK hB hvi he5 c2 H1 HP1 HN1 hL
    go_upto_region 4 with fail
    refine wp_region_held_drew (S := (fun W => W.cell? ⟨X, 1, none⟩ = some (.slice (some ⟨g, 0, none⟩) m.pages.length pc) ∧ W.cell? ⟨w.heap.size, 0, none⟩ = some (.int .i64 (q : Int)) ∧ W.cell? ⟨w.heap.size, 1, none⟩ = some (.int .i64 (N : Int)) ∧ W.cell? ⟨g, q, none⟩ = some (.slice a (p.length + j) c))) (by kernel_rfl) ⟨c1, s0, s1, ci⟩ (fun hHeld => ?_)
    refine wpAnyH_take (i := 0) (v := ?_) rfl (by kernel_rfl) (by kernel_rfl) (by kernel_rfl) (fun _ _ _ h => h) (Or.inl ⟨by rfl, ?_⟩) hHeld ?_
    rotate_left
    · (intro W hSw; (try dsimp only at hSw); go_simp; try with_reducible rfl)
    try simp only [Act.put, List.setIfInBounds_toArray, List.set_cons_zero, List.set_cons_succ, List.getElem_toArray, List.getElem_cons_succ, List.getElem_cons_zero]
    refine wpAnyH_take (i := 1) (v := ?_) rfl (by kernel_rfl) (by kernel_rfl) (by kernel_rfl) (fun _ _ _ h => h) (Or.inl ⟨by rfl, ?_⟩) hHeld ?_
    rotate_left
    · (intro W hSw; (try dsimp only at hSw); go_simp; try with_reducible rfl)
    try simp only [Act.put, List.setIfInBounds_toArray, List.set_cons_zero, List.set_cons_succ, List.getElem_toArray, List.getElem_cons_succ, List.getElem_cons_zero]
    refine wpAnyH_take (i := 2) (v := ?_) rfl (by kernel_rfl) (by kernel_rfl) (by kernel_rfl) (fun _ _ _ h => h) (Or.inl ⟨by rfl, ?_⟩) hHeld ?_
    rotate_left
    · (intro W hSw; (try dsimp only at hSw); go_simp; try with_reducible rfl)
    try simp only [Act.put, List.setIfInBounds_toArray, List.set_cons_zero, List.set_cons_succ, List.getElem_toArray, List.getElem_cons_succ, List.getElem_cons_zero]
    refine wpAnyH_take (i := 3) (v := ?_) rfl (by kernel_rfl) (by kernel_rfl) (by kernel_rfl) (fun _ _ _ h => h) (Or.inl ⟨by rfl, ?_⟩) hHeld ?_
    rotate_left
    · (intro W hSw; (try dsimp only at hSw); go_simp; try with_reducible rfl)
    try simp only [Act.put, List.setIfInBounds_toArray, List.set_cons_zero, List.set_cons_succ, List.getElem_toArray, List.getElem_cons_succ, List.getElem_cons_zero]
    refine wpAnyH_take (i := 4) (v := ?_) rfl (by kernel_rfl) (by kernel_rfl) (by kernel_rfl) (fun _ _ _ h => h) (Or.inl ⟨by rfl, ?_⟩) hHeld ?_
    rotate_left
    · (intro W hSw; (try dsimp only at hSw); go_simp; try with_reducible rfl)
    try simp only [Act.put, List.setIfInBounds_toArray, List.set_cons_zero, List.set_cons_succ, List.getElem_toArray, List.getElem_cons_succ, List.getElem_cons_zero]
    refine wpAnyH_take (i := 5) (v := ?_) rfl (by kernel_rfl) (by kernel_rfl) (by kernel_rfl) (fun _ _ _ h => h) (Or.inl ⟨by rfl, ?_⟩) hHeld ?_
    rotate_left
    · (intro W hSw; (try dsimp only at hSw); go_simp; try with_reducible rfl)
    try simp only [Act.put, List.setIfInBounds_toArray, List.set_cons_zero, List.set_cons_succ, List.getElem_toArray, List.getElem_cons_succ, List.getElem_cons_zero]
    refine wpAnyH_take (i := 6) (v := ?_) rfl (by kernel_rfl) (by kernel_rfl) (by kernel_rfl) (fun _ _ _ h => h) (Or.inl ⟨by rfl, ?_⟩) hHeld ?_
    rotate_left
    · (intro W hSw; (try dsimp only at hSw); go_simp; try with_reducible rfl)
    try simp only [Act.put, List.setIfInBounds_toArray, List.set_cons_zero, List.set_cons_succ, List.getElem_toArray, List.getElem_cons_succ, List.getElem_cons_zero]
    refine wpAnyH_take (i := 7) (v := ?_) rfl (by kernel_rfl) (by kernel_rfl) (by kernel_rfl) (fun _ _ _ h => h) (Or.inl ⟨by rfl, ?_⟩) hHeld ?_
    rotate_left
    · (intro W hSw; (try dsimp only at hSw); go_simp; try with_reducible rfl)
    try simp only [Act.put, List.setIfInBounds_toArray, List.set_cons_zero, List.set_cons_succ, List.getElem_toArray, List.getElem_cons_succ, List.getElem_cons_zero]
    refine wpAnyH_take (i := 8) (v := ?_) rfl (by kernel_rfl) (by kernel_rfl) (by kernel_rfl) (fun _ _ _ h => h) (Or.inl ⟨by rfl, ?_⟩) hHeld ?_
    rotate_left
    · (intro W hSw; (try dsimp only at hSw); go_simp; try with_reducible rfl)
    try simp only [Act.put, List.setIfInBounds_toArray, List.set_cons_zero, List.set_cons_succ, List.getElem_toArray, List.getElem_cons_succ, List.getElem_cons_zero]
    refine wpAnyH_take (i := 9) (v := ?_) rfl (by kernel_rfl) (by kernel_rfl) (by kernel_rfl) (fun _ _ _ h => h) (Or.inl ⟨by rfl, ?_⟩) hHeld ?_
    rotate_left
    · (intro W hSw; (try dsimp only at hSw); go_simp; try with_reducible rfl)
    try simp only [Act.put, List.setIfInBounds_toArray, List.set_cons_zero, List.set_cons_succ, List.getElem_toArray, List.getElem_cons_succ, List.getElem_cons_zero]
    refine wpAnyH_take (i := 10) (v := ?_) rfl (by kernel_rfl) (by kernel_rfl) (by kernel_rfl) (fun _ _ _ h => h) (Or.inl ⟨by rfl, ?_⟩) hHeld ?_
    rotate_left
    · (intro W hSw; (try dsimp only at hSw); go_simp; try with_reducible rfl)
    try simp only [Act.put, List.setIfInBounds_toArray, List.set_cons_zero, List.set_cons_succ, List.getElem_toArray, List.getElem_cons_succ, List.getElem_cons_zero]
    refine wpAnyH_take (i := 11) (v := ?_) rfl (by kernel_rfl) (by kernel_rfl) (by kernel_rfl) (fun _ _ _ h => h) (Or.inl ⟨by rfl, ?_⟩) hHeld ?_
    rotate_left
    · (intro W hSw; (try dsimp only at hSw); go_simp; try with_reducible rfl)
    try simp only [Act.put, List.setIfInBounds_toArray, List.set_cons_zero, List.set_cons_succ, List.getElem_toArray, List.getElem_cons_succ, List.getElem_cons_zero]
    refine wpAnyH_done (by kernel_rfl) ?_ _
    try simp only [Act.put, List.setIfInBounds_toArray, List.set_cons_zero, List.set_cons_succ, List.getElem_toArray, List.getElem_cons_succ, List.getElem_cons_zero]
    by_cases hlt : p.length + j < N
    · have hlt2 : ((p.length : Int) + (j : Int)) < (N : Int) := by omega
      go_upto_region 5 with fail
      have D := (Below.refl wr.heap.size wr).drew
      have HO2 := Lib.hid (HO.out.pure D)
      have HK2 := Lib.hid (HK.out.trans (FK.pure D))
      have HE52 : Hid (OwnB wr.drew base (.slice a (p.length + j) c) (p ++ List.replicate j 255)) := own_pure HE5.out D
      have HB2 := Lib.hid (Below.keep D HB.out bl)
      have c1 : wr.drew.cell? ⟨X, 1, none⟩ = some (.slice (some ⟨g, 0, none⟩) m.pages.length pc) := c1
      have s0 : wr.drew.cell? ⟨w.heap.size, 0, none⟩ = some (.int .i64 (q : Int)) := s0
      have s3 : wr.drew.cell? ⟨w.heap.size, 3, none⟩ = some (.int .u8 (b.toNat : Int)) := s3
      have ci : wr.drew.cell? ⟨g, q, none⟩ = some (.slice a (p.length + j) c) := ci
      have fi : wr.drew.frozen? ⟨g, q, none⟩ = false := fi
      have bl : w.heap.size < wr.drew.heap.size := bl
      have gl : g < wr.drew.heap.size := gl
      have Xl : X < wr.drew.heap.size := Xl
      have hbr : base ≤ wr.drew.heap.size := hbr
      generalize hwd : wr.drew = wd at *
      clear hwd D
      have HVI2 := HVI
      have L1 : p.length + j ≤ 200000 := by omega
      refine wp_region_held_drew (S := (fun W => W.cell? ⟨X, 1, none⟩ = some (.slice (some ⟨g, 0, none⟩) m.pages.length pc) ∧ W.cell? ⟨w.heap.size, 0, none⟩ = some (.int .i64 (q : Int)))) (by kernel_rfl) ⟨c1, s0⟩ (fun hHeld => ?_)
      refine wpAnyH_take (i := 0) (v := ?_) rfl (by kernel_rfl) (by kernel_rfl) (by kernel_rfl) (fun _ _ _ h => h) (Or.inl ⟨by rfl, ?_⟩) hHeld ?_
      rotate_left
      · (intro W hSw; (try dsimp only at hSw); go_simp; try with_reducible rfl)
      try simp only [Act.put, List.setIfInBounds_toArray, List.set_cons_zero, List.set_cons_succ, List.getElem_toArray, List.getElem_cons_succ, List.getElem_cons_zero]
      refine wpAnyH_take (i := 1) (v := ?_) rfl (by kernel_rfl) (by kernel_rfl) (by kernel_rfl) (fun _ _ _ h => h) (Or.inl ⟨by rfl, ?_⟩) hHeld ?_
      rotate_left
      · (intro W hSw; (try dsimp only at hSw); go_simp; try with_reducible rfl)
      try simp only [Act.put, List.setIfInBounds_toArray, List.set_cons_zero, List.set_cons_succ, List.getElem_toArray, List.getElem_cons_succ, List.getElem_cons_zero]
      refine wpAnyH_take (i := 2) (v := ?_) rfl (by kernel_rfl) (by kernel_rfl) (by kernel_rfl) (fun _ _ _ h => h) (Or.inl ⟨by rfl, ?_⟩) hHeld ?_
      rotate_left
      · (intro W hSw; (try dsimp only at hSw); go_simp; try with_reducible rfl)
      try simp only [Act.put, List.setIfInBounds_toArray, List.set_cons_zero, List.set_cons_succ, List.getElem_toArray, List.getElem_cons_succ, List.getElem_cons_zero]
      refine wpAnyH_take (i := 3) (v := ?_) rfl (by kernel_rfl) (by kernel_rfl) (by kernel_rfl) (fun _ _ _ h => h) (Or.inl ⟨by rfl, ?_⟩) hHeld ?_
      rotate_left
      · (intro W hSw; (try dsimp only at hSw); go_simp; try with_reducible rfl)
      try simp only [Act.put, List.setIfInBounds_toArray, List.set_cons_zero, List.set_cons_succ, List.getElem_toArray, List.getElem_cons_succ, List.getElem_cons_zero]
      refine wpAnyH_take (i := 4) (v := ?_) rfl (by kernel_rfl) (by kernel_rfl) (by kernel_rfl) (fun _ _ _ h => h) (Or.inl ⟨by rfl, ?_⟩) hHeld ?_
      rotate_left
      · (intro W hSw; (try dsimp only at hSw); go_simp; try with_reducible rfl)
      try simp only [Act.put, List.setIfInBounds_toArray, List.set_cons_zero, List.set_cons_succ, List.getElem_toArray, List.getElem_cons_succ, List.getElem_cons_zero]
      refine wpAnyH_take (i := 5) (v := ?_) rfl (by kernel_rfl) (by kernel_rfl) (by kernel_rfl) (fun _ _ _ h => h) (Or.inl ⟨by rfl, ?_⟩) hHeld ?_
      rotate_left
      · (intro W hSw; (try dsimp only at hSw); go_simp; try with_reducible rfl)
      try simp only [Act.put, List.setIfInBounds_toArray, List.set_cons_zero, List.set_cons_succ, List.getElem_toArray, List.getElem_cons_succ, List.getElem_cons_zero]
      refine wpAnyH_take (i := 6) (v := ?_) rfl (by kernel_rfl) (by kernel_rfl) (by kernel_rfl) (fun _ _ _ h => h) (Or.inl ⟨by rfl, ?_⟩) hHeld ?_
      rotate_left
      · (intro W hSw; (try dsimp only at hSw); go_simp; try with_reducible rfl)
      try simp only [Act.put, List.setIfInBounds_toArray, List.set_cons_zero, List.set_cons_succ, List.getElem_toArray, List.getElem_cons_succ, List.getElem_cons_zero]
      refine wpAnyH_take (i := 7) (v := ?_) rfl (by kernel_rfl) (by kernel_rfl) (by kernel_rfl) (fun _ _ _ h => h) (Or.inl ⟨by rfl, ?_⟩) hHeld ?_
      rotate_left
      · (intro W hSw; (try dsimp only at hSw); go_simp; try with_reducible rfl)
      try simp only [Act.put, List.setIfInBounds_toArray, List.set_cons_zero, List.set_cons_succ, List.getElem_toArray, List.getElem_cons_succ, List.getElem_cons_zero]
      refine wpAnyH_take (i := 8) (v := ?_) rfl (by kernel_rfl) (by kernel_rfl) (by kernel_rfl) (fun _ _ _ h => h) (Or.inl ⟨by rfl, ?_⟩) hHeld ?_
      rotate_left
      · (intro W hSw; (try dsimp only at hSw); go_simp; try with_reducible rfl)
      try simp only [Act.put, List.setIfInBounds_toArray, List.set_cons_zero, List.set_cons_succ, List.getElem_toArray, List.getElem_cons_succ, List.getElem_cons_zero]
      refine wpAnyH_take (i := 9) (v := ?_) rfl (by kernel_rfl) (by kernel_rfl) (by kernel_rfl) (fun _ _ _ h => h) (Or.inl ⟨by rfl, ?_⟩) hHeld ?_
      rotate_left
      · (intro W hSw; (try dsimp only at hSw); go_simp; try with_reducible rfl)
      try simp only [Act.put, List.setIfInBounds_toArray, List.set_cons_zero, List.set_cons_succ, List.getElem_toArray, List.getElem_cons_succ, List.getElem_cons_zero]
      refine wpAnyH_take (i := 10) (v := ?_) rfl (by kernel_rfl) (by kernel_rfl) (by kernel_rfl) (fun _ _ _ h => h) (Or.inl ⟨by rfl, ?_⟩) hHeld ?_
      rotate_left
      · (intro W hSw; (try dsimp only at hSw); go_simp; try with_reducible rfl)
      try simp only [Act.put, List.setIfInBounds_toArray, List.set_cons_zero, List.set_cons_succ, List.getElem_toArray, List.getElem_cons_succ, List.getElem_cons_zero]
      refine wpAnyH_take (i := 11) (v := ?_) rfl (by kernel_rfl) (by kernel_rfl) (by kernel_rfl) (fun _ _ _ h => h) (Or.inl ⟨by rfl, ?_⟩) hHeld ?_
      rotate_left
      · (intro W hSw; (try dsimp only at hSw); go_simp; try with_reducible rfl)
      try simp only [Act.put, List.setIfInBounds_toArray, List.set_cons_zero, List.set_cons_succ, List.getElem_toArray, List.getElem_cons_succ, List.getElem_cons_zero]
      refine wpAnyH_take (i := 12) (v := ?_) rfl (by kernel_rfl) (by kernel_rfl) (by kernel_rfl) (fun _ _ _ h => h) (Or.inl ⟨by rfl, ?_⟩) hHeld ?_
      rotate_left
      · (intro W hSw; (try dsimp only at hSw); go_simp; try with_reducible rfl)
      try simp only [Act.put, List.setIfInBounds_toArray, List.set_cons_zero, List.set_cons_succ, List.getElem_toArray, List.getElem_cons_succ, List.getElem_cons_zero]
      refine wpAnyH_ready (rs := [13, 14]) (by kernel_rfl) (by simp) ?_
      refine AllReadyH.cons rfl (fun K1 hK1 => ?_) ?_
      ·
        go_simp
        refine hK1.out _ _ ⟨c1, s0⟩ (fun hHeld2 => ?_)
        clear hK1
        try simp only [Act.put, List.setIfInBounds_toArray, List.set_cons_zero, List.set_cons_succ, List.getElem_toArray, List.getElem_cons_succ, List.getElem_cons_zero]
        refine wpAnyH_ready (rs := [14]) (by kernel_rfl) (by simp) ?_
        refine AllReadyH.cons rfl (fun K1 hK1 => ?_) AllReadyH.nil
        go_simp
        refine hK1.out _ _ ⟨((pure_alloc wd _).cell (p := ⟨X, 1, none⟩) Xl).trans c1, ((pure_alloc wd _).cell (p := ⟨w.heap.size, 0, none⟩) bl).trans s0⟩ (fun hHeld4 => ?_)
        clear hK1
        try simp only [Act.put, List.setIfInBounds_toArray, List.set_cons_zero, List.set_cons_succ, List.getElem_toArray, List.getElem_cons_succ, List.getElem_cons_zero]
        have Z4 : (wd.alloc (.cells #[.int .u8 255] 5)).drew.heap[wd.heap.size]? = some (.cells #[.int .u8 255] 5 (0, 0)) := alloc_new _ _
        have hp4 : Below wd.heap.size wd (wd.alloc (.cells #[.int .u8 255] 5)).drew := (pure_alloc wd _).drew
        generalize hw4 : (wd.alloc (.cells #[.int .u8 255] 5)).drew = w4 at *
        clear hw4
        have k4 : w4.cell? ⟨g, q, none⟩ = some (.slice a (p.length + j) c) := (hp4.cell (p := ⟨g, q, none⟩) gl).trans ci
        refine wpAnyH_ready (rs := [15]) (by kernel_rfl) (by simp) ?_
        refine AllReadyH.cons rfl (fun K1 hK1 => ?_) AllReadyH.nil
        have hbs : Bs w4 (some ⟨wd.heap.size, 0, none⟩) 1 [255] := ⟨rfl, by omega, fun i hi => ⟨wd.heap.size, 0, rfl, by
          obtain rfl : i = 0 := by omega
          rw [cell_of_arr Z4]; rfl⟩⟩
        obtain ⟨a5, c5, w5, hrun5, hown5, hgr5, hob5⟩ := app_bytes w4 base (.slice a (p.length + j) c) (p ++ List.replicate j 255) (own_pure HE52.out hp4) (some ⟨wd.heap.size, 0, none⟩) 1 1 [255] hbs (by simp; omega) (Nat.le_trans hbr hp4.size)
        rw [List.length_append, List.length_replicate] at hrun5 hown5 hob5
        have keep5 : ∀ k o, k < wd.heap.size → wd.heap[k]? = some o → (Value.slice a (p.length + j) c).ownBlock ≠ some k → w5.heap[k]? = some o := fun k o hk ho hne => by
          rw [hgr5.block k (Nat.lt_of_lt_of_le hk hp4.size) (fun e => hne e.symm), hp4.block k hk]; exact ho
        have X5 := keep5 X _ Xl HO2.out.box oX
        have B5 := keep5 w.heap.size _ bl HB2.out oB
        obtain ⟨_, _, gcur, gh⟩ := own_lt HO2.out.pages.row (g := g) rfl
        have G5 := keep5 g _ gl gh oG
        have g5c : w5.cell? ⟨g, q, none⟩ = some (.slice a (p.length + j) c) := by
          rw [cell_of_arr G5, ← cell_of_arr gh]; exact ci
        have g5f := frozen_of_arr G5 q
        have x5 := cell_of_arr X5 1
        have b5 := cell_of_arr B5 0
        have b53 := cell_of_arr B5 3
        simp [setPage_len] at x5 b5 b53
        rw [if_pos (by rfl)]
        refine wp_app _ _ 22 rfl rfl rfl hrun5 ?_
        refine hK1.out _ _ ⟨x5, b5⟩ (fun hHeld5 => ?_)
        clear hK1
        try simp only [Act.put, List.setIfInBounds_toArray, List.set_cons_zero, List.set_cons_succ, List.getElem_toArray, List.getElem_cons_succ, List.getElem_cons_zero]
        refine wpAnyH_take (i := 16) (v := ?_) rfl (by kernel_rfl) (by kernel_rfl) (by kernel_rfl) (fun _ _ _ h => h) (Or.inl ⟨by rfl, ?_⟩) hHeld5 ?_
        rotate_left
        · (intro W hSw; (try dsimp only at hSw); go_simp; try with_reducible rfl)
        try simp only [Act.put, List.setIfInBounds_toArray, List.set_cons_zero, List.set_cons_succ, List.getElem_toArray, List.getElem_cons_succ, List.getElem_cons_zero]
        refine wpAnyH_ready (rs := [17]) (by kernel_rfl) (by simp) ?_
        refine AllReadyH.cons rfl (fun K1 hK1 => ?_) AllReadyH.nil
        go_simp
        refine hK1.out _ _ ⟨(World.cell?_setCell_far w5 ⟨g, q, none⟩ _ _ gX).trans x5, (World.cell?_setCell_far w5 ⟨g, q, none⟩ _ _ gB).trans b5⟩ (fun hHeld6 => ?_)
        clear hK1
        try simp only [Act.put, List.setIfInBounds_toArray, List.set_cons_zero, List.set_cons_succ, List.getElem_toArray, List.getElem_cons_succ, List.getElem_cons_zero]
        refine wpAnyH_done (by kernel_rfl) ?_ _
        try simp only [Act.put, List.setIfInBounds_toArray, List.set_cons_zero, List.set_cons_succ, List.getElem_toArray, List.getElem_cons_succ, List.getElem_cons_zero]
        go_wp2_with fail
        obtain ⟨hO6, hK6⟩ := HO2.out.push (x := 255) (by rw [setPage_len]; exact hq) HVI2.out hp4 hown5 hgr5 hob5
        rw [setPage_set] at hO6
        rw [List.append_assoc, ← rep_snoc] at hO6
        go_roundg (N - (p.length + (j + 1)))
        case measure => omega
        case rel => exact ⟨j + 1, _, rfl, by omega, hO6, HK2.out.trans hK6, set_other B5 (fun e => gB e.symm)⟩
      refine AllReadyH.cons rfl (fun K1 hK1 => ?_) AllReadyH.nil
      ·
        go_simp
        refine hK1.out _ _ ⟨((pure_alloc wd _).cell (p := ⟨X, 1, none⟩) Xl).trans c1, ((pure_alloc wd _).cell (p := ⟨w.heap.size, 0, none⟩) bl).trans s0⟩ (fun hHeld4 => ?_)
        clear hK1
        try simp only [Act.put, List.setIfInBounds_toArray, List.set_cons_zero, List.set_cons_succ, List.getElem_toArray, List.getElem_cons_succ, List.getElem_cons_zero]
        have Z4 : (wd.alloc (.cells #[.int .u8 255] 5)).drew.heap[wd.heap.size]? = some (.cells #[.int .u8 255] 5 (0, 0)) := alloc_new _ _
        have hp4 : Below wd.heap.size wd (wd.alloc (.cells #[.int .u8 255] 5)).drew := (pure_alloc wd _).drew
        generalize hw4 : (wd.alloc (.cells #[.int .u8 255] 5)).drew = w4 at *
        clear hw4
        have k4 : w4.cell? ⟨g, q, none⟩ = some (.slice a (p.length + j) c) := (hp4.cell (p := ⟨g, q, none⟩) gl).trans ci
        refine wpAnyH_ready (rs := [13]) (by kernel_rfl) (by simp) ?_
        refine AllReadyH.cons rfl (fun K1 hK1 => ?_) AllReadyH.nil
        go_simp
        refine hK1.out _ _ hHeld4 (fun hHeld2 => ?_)
        clear hK1
        try simp only [Act.put, List.setIfInBounds_toArray, List.set_cons_zero, List.set_cons_succ, List.getElem_toArray, List.getElem_cons_succ, List.getElem_cons_zero]
        refine wpAnyH_ready (rs := [15]) (by kernel_rfl) (by simp) ?_
        refine AllReadyH.cons rfl (fun K1 hK1 => ?_) AllReadyH.nil
        have hbs : Bs w4 (some ⟨wd.heap.size, 0, none⟩) 1 [255] := ⟨rfl, by omega, fun i hi => ⟨wd.heap.size, 0, rfl, by
          obtain rfl : i = 0 := by omega
          rw [cell_of_arr Z4]; rfl⟩⟩
        obtain ⟨a5, c5, w5, hrun5, hown5, hgr5, hob5⟩ := app_bytes w4 base (.slice a (p.length + j) c) (p ++ List.replicate j 255) (own_pure HE52.out hp4) (some ⟨wd.heap.size, 0, none⟩) 1 1 [255] hbs (by simp; omega) (Nat.le_trans hbr hp4.size)
        rw [List.length_append, List.length_replicate] at hrun5 hown5 hob5
        have keep5 : ∀ k o, k < wd.heap.size → wd.heap[k]? = some o → (Value.slice a (p.length + j) c).ownBlock ≠ some k → w5.heap[k]? = some o := fun k o hk ho hne => by
          rw [hgr5.block k (Nat.lt_of_lt_of_le hk hp4.size) (fun e => hne e.symm), hp4.block k hk]; exact ho
        have X5 := keep5 X _ Xl HO2.out.box oX
        have B5 := keep5 w.heap.size _ bl HB2.out oB
        obtain ⟨_, _, gcur, gh⟩ := own_lt HO2.out.pages.row (g := g) rfl
        have G5 := keep5 g _ gl gh oG
        have g5c : w5.cell? ⟨g, q, none⟩ = some (.slice a (p.length + j) c) := by
          rw [cell_of_arr G5, ← cell_of_arr gh]; exact ci
        have g5f := frozen_of_arr G5 q
        have x5 := cell_of_arr X5 1
        have b5 := cell_of_arr B5 0
        have b53 := cell_of_arr B5 3
        simp [setPage_len] at x5 b5 b53
        rw [if_pos (by rfl)]
        refine wp_app _ _ 22 rfl rfl rfl hrun5 ?_
        refine hK1.out _ _ ⟨x5, b5⟩ (fun hHeld5 => ?_)
        clear hK1
        try simp only [Act.put, List.setIfInBounds_toArray, List.set_cons_zero, List.set_cons_succ, List.getElem_toArray, List.getElem_cons_succ, List.getElem_cons_zero]
        refine wpAnyH_take (i := 16) (v := ?_) rfl (by kernel_rfl) (by kernel_rfl) (by kernel_rfl) (fun _ _ _ h => h) (Or.inl ⟨by rfl, ?_⟩) hHeld5 ?_
        rotate_left
        · (intro W hSw; (try dsimp only at hSw); go_simp; try with_reducible rfl)
        try simp only [Act.put, List.setIfInBounds_toArray, List.set_cons_zero, List.set_cons_succ, List.getElem_toArray, List.getElem_cons_succ, List.getElem_cons_zero]
        refine wpAnyH_ready (rs := [17]) (by kernel_rfl) (by simp) ?_
        refine AllReadyH.cons rfl (fun K1 hK1 => ?_) AllReadyH.nil
        go_simp
        refine hK1.out _ _ ⟨(World.cell?_setCell_far w5 ⟨g, q, none⟩ _ _ gX).trans x5, (World.cell?_setCell_far w5 ⟨g, q, none⟩ _ _ gB).trans b5⟩ (fun hHeld6 => ?_)
        clear hK1
        try simp only [Act.put, List.setIfInBounds_toArray, List.set_cons_zero, List.set_cons_succ, List.getElem_toArray, List.getElem_cons_succ, List.getElem_cons_zero]
        refine wpAnyH_done (by kernel_rfl) ?_ _
        try simp only [Act.put, List.setIfInBounds_toArray, List.set_cons_zero, List.set_cons_succ, List.getElem_toArray, List.getElem_cons_succ, List.getElem_cons_zero]
        go_wp2_with fail
        obtain ⟨hO6, hK6⟩ := HO2.out.push (x := 255) (by rw [setPage_len]; exact hq) HVI2.out hp4 hown5 hgr5 hob5
        rw [setPage_set] at hO6
        rw [List.append_assoc, ← rep_snoc] at hO6
        go_roundg (N - (p.length + (j + 1)))
        case measure => omega
        case rel => exact ⟨j + 1, _, rfl, by omega, hO6, HK2.out.trans hK6, set_other B5 (fun e => gB e.symm)⟩
    · have hlt2 : ¬ ((p.length : Int) + (j : Int)) < (N : Int) := by omega
      go_upto_region 6 with fail
      have D := (Below.refl wr.heap.size wr).drew
      have HO2 := Lib.hid (HO.out.pure D)
      have HK2 := Lib.hid (HK.out.trans (FK.pure D))
      have HE52 : Hid (OwnB wr.drew base (.slice a (p.length + j) c) (p ++ List.replicate j 255)) := own_pure HE5.out D
      have HB2 := Lib.hid (Below.keep D HB.out bl)
      have c1 : wr.drew.cell? ⟨X, 1, none⟩ = some (.slice (some ⟨g, 0, none⟩) m.pages.length pc) := c1
      have s0 : wr.drew.cell? ⟨w.heap.size, 0, none⟩ = some (.int .i64 (q : Int)) := s0
      have s3 : wr.drew.cell? ⟨w.heap.size, 3, none⟩ = some (.int .u8 (b.toNat : Int)) := s3
      have ci : wr.drew.cell? ⟨g, q, none⟩ = some (.slice a (p.length + j) c) := ci
      have fi : wr.drew.frozen? ⟨g, q, none⟩ = false := fi
      have bl : w.heap.size < wr.drew.heap.size := bl
      have gl : g < wr.drew.heap.size := gl
      have Xl : X < wr.drew.heap.size := Xl
      have hbr : base ≤ wr.drew.heap.size := hbr
      generalize hwd : wr.drew = wd at *
      clear hwd D
      have HVI2 := HVI
      have L1 : p.length + j ≤ 200000 := by omega
      refine wp_region_held_drew (S := (fun W => W.cell? ⟨X, 1, none⟩ = some (.slice (some ⟨g, 0, none⟩) m.pages.length pc) ∧ W.cell? ⟨w.heap.size, 0, none⟩ = some (.int .i64 (q : Int)) ∧ W.cell? ⟨w.heap.size, 3, none⟩ = some (.int .u8 (b.toNat : Int)))) (by kernel_rfl) ⟨c1, s0, s3⟩ (fun hHeld => ?_)
      refine wpAnyH_take (i := 0) (v := ?_) rfl (by kernel_rfl) (by kernel_rfl) (by kernel_rfl) (fun _ _ _ h => h) (Or.inl ⟨by rfl, ?_⟩) hHeld ?_
      rotate_left
      · (intro W hSw; (try dsimp only at hSw); go_simp; try with_reducible rfl)
      try simp only [Act.put, List.setIfInBounds_toArray, List.set_cons_zero, List.set_cons_succ, List.getElem_toArray, List.getElem_cons_succ, List.getElem_cons_zero]
      refine wpAnyH_take (i := 1) (v := ?_) rfl (by kernel_rfl) (by kernel_rfl) (by kernel_rfl) (fun _ _ _ h => h) (Or.inl ⟨by rfl, ?_⟩) hHeld ?_
      rotate_left
      · (intro W hSw; (try dsimp only at hSw); go_simp; try with_reducible rfl)
      try simp only [Act.put, List.setIfInBounds_toArray, List.set_cons_zero, List.set_cons_succ, List.getElem_toArray, List.getElem_cons_succ, List.getElem_cons_zero]
      refine wpAnyH_take (i := 2) (v := ?_) rfl (by kernel_rfl) (by kernel_rfl) (by kernel_rfl) (fun _ _ _ h => h) (Or.inl ⟨by rfl, ?_⟩) hHeld ?_
      rotate_left
      · (intro W hSw; (try dsimp only at hSw); go_simp; try with_reducible rfl)
      try simp only [Act.put, List.setIfInBounds_toArray, List.set_cons_zero, List.set_cons_succ, List.getElem_toArray, List.getElem_cons_succ, List.getElem_cons_zero]
      refine wpAnyH_take (i := 3) (v := ?_) rfl (by kernel_rfl) (by kernel_rfl) (by kernel_rfl) (fun _ _ _ h => h) (Or.inl ⟨by rfl, ?_⟩) hHeld ?_
      rotate_left
      · (intro W hSw; (try dsimp only at hSw); go_simp; try with_reducible rfl)
      try simp only [Act.put, List.setIfInBounds_toArray, List.set_cons_zero, List.set_cons_succ, List.getElem_toArray, List.getElem_cons_succ, List.getElem_cons_zero]
      refine wpAnyH_take (i := 4) (v := ?_) rfl (by kernel_rfl) (by kernel_rfl) (by kernel_rfl) (fun _ _ _ h => h) (Or.inl ⟨by rfl, ?_⟩) hHeld ?_
      rotate_left
      · (intro W hSw; (try dsimp only at hSw); go_simp; try with_reducible rfl)
      try simp only [Act.put, List.setIfInBounds_toArray, List.set_cons_zero, List.set_cons_succ, List.getElem_toArray, List.getElem_cons_succ, List.getElem_cons_zero]
      refine wpAnyH_take (i := 5) (v := ?_) rfl (by kernel_rfl) (by kernel_rfl) (by kernel_rfl) (fun _ _ _ h => h) (Or.inl ⟨by rfl, ?_⟩) hHeld ?_
      rotate_left
      · (intro W hSw; (try dsimp only at hSw); go_simp; try with_reducible rfl)
      try simp only [Act.put, List.setIfInBounds_toArray, List.set_cons_zero, List.set_cons_succ, List.getElem_toArray, List.getElem_cons_succ, List.getElem_cons_zero]
      refine wpAnyH_take (i := 6) (v := ?_) rfl (by kernel_rfl) (by kernel_rfl) (by kernel_rfl) (fun _ _ _ h => h) (Or.inl ⟨by rfl, ?_⟩) hHeld ?_
      rotate_left
      · (intro W hSw; (try dsimp only at hSw); go_simp; try with_reducible rfl)
      try simp only [Act.put, List.setIfInBounds_toArray, List.set_cons_zero, List.set_cons_succ, List.getElem_toArray, List.getElem_cons_succ, List.getElem_cons_zero]
      refine wpAnyH_take (i := 7) (v := ?_) rfl (by kernel_rfl) (by kernel_rfl) (by kernel_rfl) (fun _ _ _ h => h) (Or.inl ⟨by rfl, ?_⟩) hHeld ?_
      rotate_left
      · (intro W hSw; (try dsimp only at hSw); go_simp; try with_reducible rfl)
      try simp only [Act.put, List.setIfInBounds_toArray, List.set_cons_zero, List.set_cons_succ, List.getElem_toArray, List.getElem_cons_succ, List.getElem_cons_zero]
      refine wpAnyH_take (i := 8) (v := ?_) rfl (by kernel_rfl) (by kernel_rfl) (by kernel_rfl) (fun _ _ _ h => h) (Or.inl ⟨by rfl, ?_⟩) hHeld ?_
      rotate_left
      · (intro W hSw; (try dsimp only at hSw); go_simp; try with_reducible rfl)
      try simp only [Act.put, List.setIfInBounds_toArray, List.set_cons_zero, List.set_cons_succ, List.getElem_toArray, List.getElem_cons_succ, List.getElem_cons_zero]
      refine wpAnyH_take (i := 9) (v := ?_) rfl (by kernel_rfl) (by kernel_rfl) (by kernel_rfl) (fun _ _ _ h => h) (Or.inl ⟨by rfl, ?_⟩) hHeld ?_
      rotate_left
      · (intro W hSw; (try dsimp only at hSw); go_simp; try with_reducible rfl)
      try simp only [Act.put, List.setIfInBounds_toArray, List.set_cons_zero, List.set_cons_succ, List.getElem_toArray, List.getElem_cons_succ, List.getElem_cons_zero]
      refine wpAnyH_take (i := 10) (v := ?_) rfl (by kernel_rfl) (by kernel_rfl) (by kernel_rfl) (fun _ _ _ h => h) (Or.inl ⟨by rfl, ?_⟩) hHeld ?_
      rotate_left
      · (intro W hSw; (try dsimp only at hSw); go_simp; try with_reducible rfl)
      try simp only [Act.put, List.setIfInBounds_toArray, List.set_cons_zero, List.set_cons_succ, List.getElem_toArray, List.getElem_cons_succ, List.getElem_cons_zero]
      refine wpAnyH_take (i := 11) (v := ?_) rfl (by kernel_rfl) (by kernel_rfl) (by kernel_rfl) (fun _ _ _ h => h) (Or.inl ⟨by rfl, ?_⟩) hHeld ?_
      rotate_left
      · (intro W hSw; (try dsimp only at hSw); go_simp; try with_reducible rfl)
      try simp only [Act.put, List.setIfInBounds_toArray, List.set_cons_zero, List.set_cons_succ, List.getElem_toArray, List.getElem_cons_succ, List.getElem_cons_zero]
      refine wpAnyH_take (i := 12) (v := ?_) rfl (by kernel_rfl) (by kernel_rfl) (by kernel_rfl) (fun _ _ _ h => h) (Or.inl ⟨by rfl, ?_⟩) hHeld ?_
      rotate_left
      · (intro W hSw; (try dsimp only at hSw); go_simp; try with_reducible rfl)
      try simp only [Act.put, List.setIfInBounds_toArray, List.set_cons_zero, List.set_cons_succ, List.getElem_toArray, List.getElem_cons_succ, List.getElem_cons_zero]
      refine wpAnyH_take (i := 14) (v := ?_) rfl (by kernel_rfl) (by kernel_rfl) (by kernel_rfl) (fun _ _ _ h => h) (Or.inl ⟨by rfl, ?_⟩) hHeld ?_
      rotate_left
      · (intro W hSw; (try dsimp only at hSw); go_simp; try with_reducible rfl)
      try simp only [Act.put, List.setIfInBounds_toArray, List.set_cons_zero, List.set_cons_succ, List.getElem_toArray, List.getElem_cons_succ, List.getElem_cons_zero]
      refine wpAnyH_take (i := 15) (v := ?_) rfl (by kernel_rfl) (by kernel_rfl) (by kernel_rfl) (fun _ _ _ h => h) (Or.inl ⟨by rfl, ?_⟩) hHeld ?_
      rotate_left
      · (intro W hSw; (try dsimp only at hSw); go_simp; try with_reducible rfl)
      try simp only [Act.put, List.setIfInBounds_toArray, List.set_cons_zero, List.set_cons_succ, List.getElem_toArray, List.getElem_cons_succ, List.getElem_cons_zero]
      refine wpAnyH_ready (rs := [13, 16]) (by kernel_rfl) (by simp) ?_
      refine AllReadyH.cons rfl (fun K1 hK1 => ?_) ?_
      ·
        go_simp
        refine hK1.out _ _ ⟨c1, s0, s3⟩ (fun hHeld2 => ?_)
        clear hK1
        try simp only [Act.put, List.setIfInBounds_toArray, List.set_cons_zero, List.set_cons_succ, List.getElem_toArray, List.getElem_cons_succ, List.getElem_cons_zero]
        refine wpAnyH_ready (rs := [16]) (by kernel_rfl) (by simp) ?_
        refine AllReadyH.cons rfl (fun K1 hK1 => ?_) AllReadyH.nil
        go_simp
        refine hK1.out _ _ ⟨((pure_alloc wd _).cell (p := ⟨X, 1, none⟩) Xl).trans c1, ((pure_alloc wd _).cell (p := ⟨w.heap.size, 0, none⟩) bl).trans s0, ((pure_alloc wd _).cell (p := ⟨w.heap.size, 3, none⟩) bl).trans s3⟩ (fun hHeld4 => ?_)
        clear hK1
        try simp only [Act.put, List.setIfInBounds_toArray, List.set_cons_zero, List.set_cons_succ, List.getElem_toArray, List.getElem_cons_succ, List.getElem_cons_zero]
        have Z4 : (wd.alloc (.cells #[.int .u8 (b.toNat : Int)] 5)).drew.heap[wd.heap.size]? = some (.cells #[.int .u8 (b.toNat : Int)] 5 (0, 0)) := alloc_new _ _
        have hp4 : Below wd.heap.size wd (wd.alloc (.cells #[.int .u8 (b.toNat : Int)] 5)).drew := (pure_alloc wd _).drew
        generalize hw4 : (wd.alloc (.cells #[.int .u8 (b.toNat : Int)] 5)).drew = w4 at *
        clear hw4
        have k4 : w4.cell? ⟨g, q, none⟩ = some (.slice a (p.length + j) c) := (hp4.cell (p := ⟨g, q, none⟩) gl).trans ci
        refine wpAnyH_ready (rs := [17]) (by kernel_rfl) (by simp) ?_
        refine AllReadyH.cons rfl (fun K1 hK1 => ?_) AllReadyH.nil
        have hbs : Bs w4 (some ⟨wd.heap.size, 0, none⟩) 1 [b] := ⟨rfl, by omega, fun i hi => ⟨wd.heap.size, 0, rfl, by
          obtain rfl : i = 0 := by omega
          rw [cell_of_arr Z4]; rfl⟩⟩
        obtain ⟨a5, c5, w5, hrun5, hown5, hgr5, hob5⟩ := app_bytes w4 base (.slice a (p.length + j) c) (p ++ List.replicate j 255) (own_pure HE52.out hp4) (some ⟨wd.heap.size, 0, none⟩) 1 1 [b] hbs (by simp; omega) (Nat.le_trans hbr hp4.size)
        rw [List.length_append, List.length_replicate] at hrun5 hown5 hob5
        have keep5 : ∀ k o, k < wd.heap.size → wd.heap[k]? = some o → (Value.slice a (p.length + j) c).ownBlock ≠ some k → w5.heap[k]? = some o := fun k o hk ho hne => by
          rw [hgr5.block k (Nat.lt_of_lt_of_le hk hp4.size) (fun e => hne e.symm), hp4.block k hk]; exact ho
        have X5 := keep5 X _ Xl HO2.out.box oX
        have B5 := keep5 w.heap.size _ bl HB2.out oB
        obtain ⟨_, _, gcur, gh⟩ := own_lt HO2.out.pages.row (g := g) rfl
        have G5 := keep5 g _ gl gh oG
        have g5c : w5.cell? ⟨g, q, none⟩ = some (.slice a (p.length + j) c) := by
          rw [cell_of_arr G5, ← cell_of_arr gh]; exact ci
        have g5f := frozen_of_arr G5 q
        have x5 := cell_of_arr X5 1
        have b5 := cell_of_arr B5 0
        have b53 := cell_of_arr B5 3
        simp [setPage_len] at x5 b5 b53
        rw [if_pos (by rfl)]
        refine wp_app _ _ 22 rfl rfl rfl hrun5 ?_
        refine hK1.out _ _ ⟨x5, b5, b53⟩ (fun hHeld5 => ?_)
        clear hK1
        try simp only [Act.put, List.setIfInBounds_toArray, List.set_cons_zero, List.set_cons_succ, List.getElem_toArray, List.getElem_cons_succ, List.getElem_cons_zero]
        refine wpAnyH_take (i := 18) (v := ?_) rfl (by kernel_rfl) (by kernel_rfl) (by kernel_rfl) (fun _ _ _ h => h) (Or.inl ⟨by rfl, ?_⟩) hHeld5 ?_
        rotate_left
        · (intro W hSw; (try dsimp only at hSw); go_simp; try with_reducible rfl)
        try simp only [Act.put, List.setIfInBounds_toArray, List.set_cons_zero, List.set_cons_succ, List.getElem_toArray, List.getElem_cons_succ, List.getElem_cons_zero]
        refine wpAnyH_ready (rs := [19]) (by kernel_rfl) (by simp) ?_
        refine AllReadyH.cons rfl (fun K1 hK1 => ?_) AllReadyH.nil
        go_simp
        refine hK1.out _ _ ⟨(World.cell?_setCell_far w5 ⟨g, q, none⟩ _ _ gX).trans x5, (World.cell?_setCell_far w5 ⟨g, q, none⟩ _ _ gB).trans b5, (World.cell?_setCell_far w5 ⟨g, q, none⟩ _ _ gB).trans b53⟩ (fun hHeld6 => ?_)
        clear hK1
        try simp only [Act.put, List.setIfInBounds_toArray, List.set_cons_zero, List.set_cons_succ, List.getElem_toArray, List.getElem_cons_succ, List.getElem_cons_zero]
        refine wpAnyH_done (by kernel_rfl) ?_ _
        try simp only [Act.put, List.setIfInBounds_toArray, List.set_cons_zero, List.set_cons_succ, List.getElem_toArray, List.getElem_cons_succ, List.getElem_cons_zero]
        go_wp2_with fail
        obtain ⟨hO6, hK6⟩ := HO2.out.push (x := b) (by rw [setPage_len]; exact hq) HVI2.out hp4 hown5 hgr5 hob5
        rw [setPage_set] at hO6
        go_end0
        refine ⟨rfl, _, ?_, HK2.out.trans hK6⟩
        rw [HD.out, show N - p.length = j by omega]
        exact hO6
      refine AllReadyH.cons rfl (fun K1 hK1 => ?_) AllReadyH.nil
      ·
        go_simp
        refine hK1.out _ _ ⟨((pure_alloc wd _).cell (p := ⟨X, 1, none⟩) Xl).trans c1, ((pure_alloc wd _).cell (p := ⟨w.heap.size, 0, none⟩) bl).trans s0, ((pure_alloc wd _).cell (p := ⟨w.heap.size, 3, none⟩) bl).trans s3⟩ (fun hHeld4 => ?_)
        clear hK1
        try simp only [Act.put, List.setIfInBounds_toArray, List.set_cons_zero, List.set_cons_succ, List.getElem_toArray, List.getElem_cons_succ, List.getElem_cons_zero]
        have Z4 : (wd.alloc (.cells #[.int .u8 (b.toNat : Int)] 5)).drew.heap[wd.heap.size]? = some (.cells #[.int .u8 (b.toNat : Int)] 5 (0, 0)) := alloc_new _ _
        have hp4 : Below wd.heap.size wd (wd.alloc (.cells #[.int .u8 (b.toNat : Int)] 5)).drew := (pure_alloc wd _).drew
        generalize hw4 : (wd.alloc (.cells #[.int .u8 (b.toNat : Int)] 5)).drew = w4 at *
        clear hw4
        have k4 : w4.cell? ⟨g, q, none⟩ = some (.slice a (p.length + j) c) := (hp4.cell (p := ⟨g, q, none⟩) gl).trans ci
        refine wpAnyH_ready (rs := [13]) (by kernel_rfl) (by simp) ?_
        refine AllReadyH.cons rfl (fun K1 hK1 => ?_) AllReadyH.nil
        go_simp
        refine hK1.out _ _ hHeld4 (fun hHeld2 => ?_)
        clear hK1
        try simp only [Act.put, List.setIfInBounds_toArray, List.set_cons_zero, List.set_cons_succ, List.getElem_toArray, List.getElem_cons_succ, List.getElem_cons_zero]
        refine wpAnyH_ready (rs := [17]) (by kernel_rfl) (by simp) ?_
        refine AllReadyH.cons rfl (fun K1 hK1 => ?_) AllReadyH.nil
        have hbs : Bs w4 (some ⟨wd.heap.size, 0, none⟩) 1 [b] := ⟨rfl, by omega, fun i hi => ⟨wd.heap.size, 0, rfl, by
          obtain rfl : i = 0 := by omega
          rw [cell_of_arr Z4]; rfl⟩⟩
        obtain ⟨a5, c5, w5, hrun5, hown5, hgr5, hob5⟩ := app_bytes w4 base (.slice a (p.length + j) c) (p ++ List.replicate j 255) (own_pure HE52.out hp4) (some ⟨wd.heap.size, 0, none⟩) 1 1 [b] hbs (by simp; omega) (Nat.le_trans hbr hp4.size)
        rw [List.length_append, List.length_replicate] at hrun5 hown5 hob5
        have keep5 : ∀ k o, k < wd.heap.size → wd.heap[k]? = some o → (Value.slice a (p.length + j) c).ownBlock ≠ some k → w5.heap[k]? = some o := fun k o hk ho hne => by
          rw [hgr5.block k (Nat.lt_of_lt_of_le hk hp4.size) (fun e => hne e.symm), hp4.block k hk]; exact ho
        have X5 := keep5 X _ Xl HO2.out.box oX
        have B5 := keep5 w.heap.size _ bl HB2.out oB
        obtain ⟨_, _, gcur, gh⟩ := own_lt HO2.out.pages.row (g := g) rfl
        have G5 := keep5 g _ gl gh oG
        have g5c : w5.cell? ⟨g, q, none⟩ = some (.slice a (p.length + j) c) := by
          rw [cell_of_arr G5, ← cell_of_arr gh]; exact ci
        have g5f := frozen_of_arr G5 q
        have x5 := cell_of_arr X5 1
        have b5 := cell_of_arr B5 0
        have b53 := cell_of_arr B5 3
        simp [setPage_len] at x5 b5 b53
        rw [if_pos (by rfl)]
        refine wp_app _ _ 22 rfl rfl rfl hrun5 ?_
        refine hK1.out _ _ ⟨x5, b5, b53⟩ (fun hHeld5 => ?_)
        clear hK1
        try simp only [Act.put, List.setIfInBounds_toArray, List.set_cons_zero, List.set_cons_succ, List.getElem_toArray, List.getElem_cons_succ, List.getElem_cons_zero]
        refine wpAnyH_take (i := 18) (v := ?_) rfl (by kernel_rfl) (by kernel_rfl) (by kernel_rfl) (fun _ _ _ h => h) (Or.inl ⟨by rfl, ?_⟩) hHeld5 ?_
        rotate_left
        · (intro W hSw; (try dsimp only at hSw); go_simp; try with_reducible rfl)
        try simp only [Act.put, List.setIfInBounds_toArray, List.set_cons_zero, List.set_cons_succ, List.getElem_toArray, List.getElem_cons_succ, List.getElem_cons_zero]
        refine wpAnyH_ready (rs := [19]) (by kernel_rfl) (by simp) ?_
        refine AllReadyH.cons rfl (fun K1 hK1 => ?_) AllReadyH.nil
        go_simp
        refine hK1.out _ _ ⟨(World.cell?_setCell_far w5 ⟨g, q, none⟩ _ _ gX).trans x5, (World.cell?_setCell_far w5 ⟨g, q, none⟩ _ _ gB).trans b5, (World.cell?_setCell_far w5 ⟨g, q, none⟩ _ _ gB).trans b53⟩ (fun hHeld6 => ?_)
        clear hK1
        try simp only [Act.put, List.setIfInBounds_toArray, List.set_cons_zero, List.set_cons_succ, List.getElem_toArray, List.getElem_cons_succ, List.getElem_cons_zero]
        refine wpAnyH_done (by kernel_rfl) ?_ _
        try simp only [Act.put, List.setIfInBounds_toArray, List.set_cons_zero, List.set_cons_succ, List.getElem_toArray, List.getElem_cons_succ, List.getElem_cons_zero]
        go_wp2_with fail
        obtain ⟨hO6, hK6⟩ := HO2.out.push (x := b) (by rw [setPage_len]; exact hq) HVI2.out hp4 hown5 hgr5 hob5
        rw [setPage_set] at hO6
        go_end0
        refine ⟨rfl, _, ?_, HK2.out.trans hK6⟩
        rw [HD.out, show N - p.length = j by omega]
        exact hO6
end Go.Proofs.Ytnfjfifdkmgbdaa
