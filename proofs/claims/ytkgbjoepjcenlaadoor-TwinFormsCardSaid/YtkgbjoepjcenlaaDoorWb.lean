/- The walks of Size, of the program and of the reference. -/
import Derived.Test.YtkgbjoepjcenlaaDoorWa
namespace Go.Proofs.YtkgbjoepjcenlaaDoor
open Go.RowKit
namespace Tm
theorem sizes_append : ∀ l m : List Tm, sizes (l ++ m) = sizes l + sizes m
  | [], m => by simp [sizes]
  | k :: ks, m => by simp [sizes, sizes_append ks m]; omega
theorem sizes_take_succ {l : List Tm} {j : Nat} (h : j < l.length) : sizes (l.take (j + 1)) = sizes (l.take j) + size l[j] := by
  rw [List.take_succ_eq_append_getElem h, sizes_append]; simp [sizes]
theorem sizes_take_le (l : List Tm) (j : Nat) : sizes (l.take j) ≤ sizes l := by
  conv => rhs; rw [← List.take_append_drop j l, sizes_append]
  omega
theorem size_kids (t : Tm) : t.size = 1 + sizes t.kids := by cases t; simp [size, kids]
theorem size_get {l : List Tm} {j : Nat} (h : j < l.length) : size l[j] ≤ sizes l := by
  have h1 := sizes_take_succ h
  have h2 := sizes_take_le l (j + 1)
  omega
end Tm
set_option maxHeartbeats 800000 in
theorem size_any (m : Nat) : ∀ (t : Tm) (a : Option Addr) (n c : Nat) (w : World) (ok : Nat → Prop), t.size ≤ m → TR ok w t a n → t.size ≤ 1000000000 →
    Calls Tryd.prog 20 #[.agg #[.int .i64 t.op, .int .i64 t.num, .slice a n c]] w fun e w' => e = .returned (.int .i64 (t.size : Nat)) ∧ Below w.heap.size w w' := by
  induction m with
  | zero => intro t a n c w ok h; have := t.size_pos; omega
  | succ m ih =>
    intro t a n c w ok hm hT hs
    have hsz := t.size_kids
    generalize t.size = s at *
    generalize t.op = q0 at *
    generalize t.num = q1 at *
    rw [TR_iff] at hT
    generalize t.kids = ks at *
    have P1 := pure_alloc w (.cells #[.int .i64 q0, .int .i64 q1, .slice a n c] 28)
    have N1 := alloc_new w (.cells #[.int .i64 q0, .int .i64 q1, .slice a n c] 28)
    have HT := Lib.hid (hT.below P1)
    have hn := hT.2.1
    have HSZ := Lib.hid hsz
    have HLN := Lib.hid hT.1
    have HIH := Lib.hid ih
    clear hT hsz ih
    go_enter Tryd.func20, Tryd.ntmps20
    go_wp2_with fail
    generalize w.alloc (.cells #[.int .i64 q0, .int .i64 q1, .slice a n c] 28) = w1 at *
    have HP1 := Lib.hid P1
    clear P1 N1
    go_loopw [3, 9] (fun x i W => ∃ j : Nat, i = .int .i64 j ∧ j ≤ n ∧ x = .int .i64 (1 + (Tm.sizes (ks.take j) : Nat)) ∧ Below w1.heap.size w1 W) (fun _ i _ => n - (intOf i).toNat)
    case atStart => exact ⟨0, rfl, by omega, rfl, Below.refl _ _⟩
    case round =>
      obtain ⟨j, rfl, hj, rfl, hB⟩ := hrel
      by_cases hjn : j < n
      · have hjl : j < ks.length := by have := HLN.out; omega
        obtain ⟨b, o, an, nn, cc, rfl, hb, c0, c1, c2, ht⟩ := (HT.out.below hB).2.2 j hjl
        have PA := pure_alloc wr (.cells #[.int .i64 ks[j].op, .int .i64 ks[j].num, .slice an nn cc] 28)
        have HTK := Lib.hid (ht.below PA)
        have HB := Lib.hid (hB.trans (PA.mono hB.size))
        have h1 := Tm.sizes_take_succ hjl
        have h2 := Tm.sizes_take_le ks (j + 1)
        have h3 := HSZ.out
        have hk1 : ks[j].size ≤ m := by have := Tm.size_get hjl; omega
        have hk2 : ks[j].size ≤ 1000000000 := by omega
        have h4 : Tm.sizes (ks.take j) + ks[j].size ≤ 1000000000 := by omega
        have H1 := Lib.hid h1
        clear h1 h2 h3 hB ht PA
        generalize hkj : ks[j] = k at *
        have hlt : (j : Int) < n := by omega
        go_wp2_with fail
        refine (HIH.out k an nn cc _ ok hk1 HTK.out hk2).mono ?_
        rintro e w3 ⟨rfl, hw3⟩
        have HB3 := Lib.hid (HB.out.trans (hw3.mono HB.out.size))
        clear hw3 c0 c1 c2
        go_wp2_with fail
        go_roundw
        case rel => exact ⟨j + 1, by go_num, by omega, by rw [H1.out]; go_num, HB3.out⟩
        case measure => simp [intOf]; omega
      · have hjn' : ¬ ((j : Int) < n) := by omega
        have HB := Lib.hid (pure_trans HP1.out hB)
        clear hB
        go_wp2_with fail
        go_ret
        refine ⟨ret_int ?_, HB.out⟩
        have h1 := HSZ.out
        have h2 := HLN.out
        rw [List.take_of_length_le (by omega)]
        omega
set_option maxHeartbeats 800000 in
theorem sizeR_any (m : Nat) : ∀ (t : Tm) (a : Option Addr) (n c : Nat) (w : World) (ok : Nat → Prop), t.size ≤ m → TR ok w t a n → t.size ≤ 1000000000 →
    Calls Tryd.prog 21 #[.agg #[.int .i64 t.op, .int .i64 t.num, .slice a n c]] w fun e w' => e = .returned (.int .i64 (t.size : Nat)) ∧ Below w.heap.size w w' := by
  induction m with
  | zero => intro t a n c w ok h; have := t.size_pos; omega
  | succ m ih =>
    intro t a n c w ok hm hT hs
    have hsz := t.size_kids
    generalize t.size = s at *
    generalize t.op = q0 at *
    generalize t.num = q1 at *
    rw [TR_iff] at hT
    generalize t.kids = ks at *
    have P1 := pure_alloc w (.cells #[.int .i64 q0, .int .i64 q1, .slice a n c] 28)
    have N1 := alloc_new w (.cells #[.int .i64 q0, .int .i64 q1, .slice a n c] 28)
    have HT := Lib.hid (hT.below P1)
    have hn := hT.2.1
    have HSZ := Lib.hid hsz
    have HLN := Lib.hid hT.1
    have HIH := Lib.hid ih
    clear hT hsz ih
    go_enter Tryd.func21, Tryd.ntmps21
    go_wp2_with fail
    generalize w.alloc (.cells #[.int .i64 q0, .int .i64 q1, .slice a n c] 28) = w1 at *
    have HP1 := Lib.hid P1
    clear P1 N1
    go_loopw [3, 9] (fun x i W => ∃ j : Nat, i = .int .i64 j ∧ j ≤ n ∧ x = .int .i64 (1 + (Tm.sizes (ks.take j) : Nat)) ∧ Below w1.heap.size w1 W) (fun _ i _ => n - (intOf i).toNat)
    case atStart => exact ⟨0, rfl, by omega, rfl, Below.refl _ _⟩
    case round =>
      obtain ⟨j, rfl, hj, rfl, hB⟩ := hrel
      by_cases hjn : j < n
      · have hjl : j < ks.length := by have := HLN.out; omega
        obtain ⟨b, o, an, nn, cc, rfl, hb, c0, c1, c2, ht⟩ := (HT.out.below hB).2.2 j hjl
        have PA := pure_alloc wr (.cells #[.int .i64 ks[j].op, .int .i64 ks[j].num, .slice an nn cc] 28)
        have HTK := Lib.hid (ht.below PA)
        have HB := Lib.hid (hB.trans (PA.mono hB.size))
        have h1 := Tm.sizes_take_succ hjl
        have h2 := Tm.sizes_take_le ks (j + 1)
        have h3 := HSZ.out
        have hk1 : ks[j].size ≤ m := by have := Tm.size_get hjl; omega
        have hk2 : ks[j].size ≤ 1000000000 := by omega
        have h4 : Tm.sizes (ks.take j) + ks[j].size ≤ 1000000000 := by omega
        have H1 := Lib.hid h1
        clear h1 h2 h3 hB ht PA
        generalize hkj : ks[j] = k at *
        have hlt : (j : Int) < n := by omega
        go_wp2_with fail
        refine (HIH.out k an nn cc _ ok hk1 HTK.out hk2).mono ?_
        rintro e w3 ⟨rfl, hw3⟩
        have HB3 := Lib.hid (HB.out.trans (hw3.mono HB.out.size))
        clear hw3 c0 c1 c2
        go_wp2_with fail
        go_roundw
        case rel => exact ⟨j + 1, by go_num, by omega, by rw [H1.out]; go_num, HB3.out⟩
        case measure => simp [intOf]; omega
      · have hjn' : ¬ ((j : Int) < n) := by omega
        have HB := Lib.hid (pure_trans HP1.out hB)
        clear hB
        go_wp2_with fail
        go_ret
        refine ⟨ret_int ?_, HB.out⟩
        have h1 := HSZ.out
        have h2 := HLN.out
        rw [List.take_of_length_le (by omega)]
        omega
end Go.Proofs.YtkgbjoepjcenlaaDoor
