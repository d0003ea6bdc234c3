/- The walks of nodes and light; of formed and Valid; of shaped and the reference's Valid. -/
import Derived.Test.YtkgbjoepjcenlaaDoorWe
namespace Go.Proofs.YtkgbjoepjcenlaaDoor
open Go.RowKit
namespace Tm
mutual
def nodesP : Tm → Int → Int | mk _ _ ks, l => nodesL ks (l - 1)
def nodesL : List Tm → Int → Int | [], l => l | k :: ks, l => if l < 0 then -1 else nodesL ks (nodesP k l)
end
mutual
theorem nodesP_eq : ∀ (t : Tm) (l : Int), 0 ≤ nodesP t l → nodesP t l = l - t.size
  | mk o n ks, l, h => by
    simp only [nodesP, size] at h ⊢
    rw [nodesL_eq ks (l - 1) h]; omega
theorem nodesL_eq : ∀ (ks : List Tm) (l : Int), 0 ≤ nodesL ks l → nodesL ks l = l - sizes ks
  | [], l, h => by simp [nodesL, sizes]
  | k :: ks, l, h => by
    simp only [nodesL, sizes] at h ⊢
    by_cases hl : l < 0
    · rw [if_pos hl] at h; omega
    · rw [if_neg hl] at h ⊢
      have h1 := nodesL_eq ks _ h
      by_cases hk : 0 ≤ nodesP k l
      · rw [h1, nodesP_eq k l hk]; omega
      · exfalso
        cases ks with
        | nil => simp [nodesL] at h; omega
        | cons k' ks' => simp only [nodesL] at h; rw [if_pos (by omega)] at h; omega
end
mutual
theorem nodesP_bd : ∀ (t : Tm) (l : Int), 0 ≤ l → -1 ≤ nodesP t l ∧ nodesP t l ≤ l
  | mk o n ks, l, h => by
    have := nodesL_bd ks (l - 1) (by omega)
    simp only [nodesP]; omega
theorem nodesL_bd : ∀ (ks : List Tm) (l : Int), -1 ≤ l → -1 ≤ nodesL ks l ∧ nodesL ks l ≤ max l (-1)
  | [], l, h => by simp [nodesL]; omega
  | k :: ks, l, h => by
    simp only [nodesL]
    by_cases hl : l < 0
    · rw [if_pos hl]; omega
    · rw [if_neg hl]
      have h1 := nodesP_bd k l (by omega)
      have h2 := nodesL_bd ks (nodesP k l) h1.1
      omega
end
theorem nodesP_kids (t : Tm) (l : Int) : nodesP t l = nodesL t.kids (l - 1) := by cases t; simp [nodesP, kids]
theorem nodesL_step {l : List Tm} {j : Nat} (h1 : j < l.length) (x : Int) : nodesL (l.drop j) x = if x < 0 then -1 else nodesL (l.drop (j + 1)) (nodesP l[j] x) := by
  rw [List.drop_eq_getElem_cons h1]; simp [nodesL]
theorem nodesL_end {l : List Tm} {j : Nat} (h1 : l.length ≤ j) (x : Int) : nodesL (l.drop j) x = x := by
  rw [List.drop_eq_nil_of_le h1]; simp [nodesL]
theorem formed_kids (t : Tm) (left level : Int) : formed t left level = if left - 1 < 0 then (false, left - 1) else if 40 < level then (false, left - 1) else if (t.kids.length : Int) ≠ arity t.op then (false, left - 1) else
    if t.op = 1 then (decide (0 ≤ t.num) && decide (t.num ≤ 1000), left - 1) else if t.num ≠ 0 then (false, left - 1) else formedL t.kids (left - 1) (level + 1) := by
  cases t; rfl
theorem formedL_step {l : List Tm} {j : Nat} (h1 : j < l.length) (x v : Int) : formedL (l.drop j) x v = if (formed l[j] x v).1 then formedL (l.drop (j + 1)) (formed l[j] x v).2 v else (false, (formed l[j] x v).2) := by
  rw [List.drop_eq_getElem_cons h1]; simp [formedL]
theorem formedL_end {l : List Tm} {j : Nat} (h1 : l.length ≤ j) (x v : Int) : formedL (l.drop j) x v = (true, x) := by
  rw [List.drop_eq_nil_of_le h1]; simp [formedL]
mutual
theorem formed_bd : ∀ (t : Tm) (l v : Int), 0 ≤ l → -1 ≤ (formed t l v).2 ∧ (formed t l v).2 ≤ l ∧ ((formed t l v).1 = true → 0 ≤ (formed t l v).2)
  | mk o n ks, l, v, h => by
    have ih := fun hl => formedL_bd ks (l - 1) (v + 1) hl
    simp only [formed]
    by_cases h1 : l - 1 < 0
    · rw [if_pos h1]; simp; omega
    · rw [if_neg h1]
      have ih := ih (by omega)
      by_cases h2 : 40 < v
      · rw [if_pos h2]; simp; omega
      · rw [if_neg h2]
        split
        · simp; omega
        · split
          · simp; omega
          · split
            · simp; omega
            · exact ⟨ih.1, by omega, ih.2.2⟩
theorem formedL_bd : ∀ (ks : List Tm) (l v : Int), 0 ≤ l → -1 ≤ (formedL ks l v).2 ∧ (formedL ks l v).2 ≤ l ∧ ((formedL ks l v).1 = true → 0 ≤ (formedL ks l v).2)
  | [], l, v, h => by simp [formedL]; omega
  | k :: ks, l, v, h => by
    have h1 := formed_bd k l v h
    simp only [formedL]
    split
    · rename_i hf
      have h2 := formedL_bd ks (formed k l v).2 v (h1.2.2 hf)
      exact ⟨h2.1, by omega, h2.2.2⟩
    · exact ⟨h1.1, h1.2.1, fun h => by cases h⟩
end
theorem shaped_kids (t : Tm) (l : Nat) : shaped t l = (decide (l ≠ 0) && okN t.op t.num t.kids.length && shapedL t.kids (l - 1)) := by
  cases t; cases l <;> simp [shaped, op, num, kids]
theorem shapedL_step {l : List Tm} {j : Nat} (h1 : j < l.length) (v : Nat) : shapedL (l.drop j) v = (shaped l[j] v && shapedL (l.drop (j + 1)) v) := by
  rw [List.drop_eq_getElem_cons h1]; simp [shapedL]
theorem shapedL_end {l : List Tm} {j : Nat} (h1 : l.length ≤ j) (v : Nat) : shapedL (l.drop j) v = true := by
  rw [List.drop_eq_nil_of_le h1]; simp [shapedL]
end Tm
set_option maxHeartbeats 800000 in
theorem nodes_any (m : Nat) : ∀ (t : Tm) (a : Option Addr) (n c : Nat) (left : Int) (w : World) (ok : Nat → Prop), t.size ≤ m → TR ok w t a n → 0 ≤ left → left ≤ 1000 →
    Calls Tryd.prog 37 #[.agg #[.int .i64 t.op, .int .i64 t.num, .slice a n c], .int .i64 left] w fun e w' => e = .returned (.int .i64 (Tm.nodesP t left)) ∧ Below w.heap.size w w' := by
  induction m with
  | zero => intro t a n c left w ok h; have := t.size_pos; omega
  | succ m ih =>
    intro t a n c left w ok hm hT hl0 hl1
    have hsz := t.size_kids
    have HEQ0 := Lib.hid (t.nodesP_kids left)
    rw [TR_iff] at hT
    have P1 := pure_alloc w (.cells #[.int .i64 t.op, .int .i64 t.num, .slice a n c] 28)
    have N1 := alloc_new w (.cells #[.int .i64 t.op, .int .i64 t.num, .slice a n c] 28)
    have HT := Lib.hid (hT.below P1)
    have hn := hT.2.1
    have HLN := Lib.hid hT.1
    have HIH := Lib.hid ih
    have HSZ : Hid (Tm.sizes t.kids ≤ m) := by show _ ≤ _; omega
    clear hT hsz ih
    go_enter Tryd.func37, Tryd.ntmps37
    go_wp2_with fail
    generalize (w.alloc (.cells #[.int .i64 t.op, .int .i64 t.num, .slice a n c] 28)) = w1 at *
    have HP1 := Lib.hid P1
    clear P1 N1
    go_loopw [1, 12] (fun x i W => ∃ (j : Nat) (l : Int), i = .int .i64 j ∧ j ≤ n ∧ x = .int .i64 l ∧ -1 ≤ l ∧ l ≤ 1000 ∧ Tm.nodesL t.kids (left - 1) = Tm.nodesL (t.kids.drop j) l ∧ Below w1.heap.size w1 W) (fun _ i _ => n - (intOf i).toNat)
    case atStart => exact ⟨0, left - 1, rfl, by omega, rfl, by omega, by omega, rfl, Below.refl _ _⟩
    case round =>
      obtain ⟨j, l, rfl, hj, rfl, hl2, hl3, hcj, hB⟩ := hrel
      by_cases hjn : j < n
      · have hjl : j < t.kids.length := by have := HLN.out; omega
        obtain ⟨b, o, an, nn, cc, hea, hb, c0, c1, c2, ht⟩ := (HT.out.below hB).2.2 j hjl
        subst hea
        have PA := pure_alloc wr (.cells #[.int .i64 t.kids[j].op, .int .i64 t.kids[j].num, .slice an nn cc] 28)
        have HTK := Lib.hid (ht.below PA)
        have HEQ := Lib.hid (hcj.trans (Tm.nodesL_step hjl l))
        have hk1 : t.kids[j].size ≤ m := Nat.le_trans (Tm.size_get hjl) HSZ.out
        have HB := Lib.hid (hB.trans (PA.mono hB.size))
        clear hcj hB ht PA
        generalize t.kids[j] = k at *
        have hlt : (j : Int) < n := by omega
        by_cases hl : l < 0
        · have HE := Lib.hid (HEQ.out.trans (if_pos hl))
          go_wp2_with fail
          go_ret
          exact ⟨ret_int (HEQ0.out.trans HE.out).symm, pure_trans HP1.out HB.out⟩
        · have HE := Lib.hid (HEQ.out.trans (if_neg hl))
          have HBD := Lib.hid (Tm.nodesP_bd k l (by omega))
          go_wp2_with fail
          refine (HIH.out k an nn cc l _ ok hk1 HTK.out (by omega) (by omega)).mono ?_
          rintro e w3 ⟨rfl, hw3⟩
          have HB3 := Lib.hid (HB.out.trans (hw3.mono HB.out.size))
          clear hw3 c0 c1 c2 HEQ
          generalize Tm.nodesP k l = l' at *
          go_wp2_with fail
          go_roundw
          case rel => exact ⟨j + 1, l', by go_num, by omega, rfl, HBD.out.1, by have := HBD.out.2; omega, HE.out, HB3.out⟩
          case measure => simp [intOf]; omega
      · have hjn' : ¬ ((j : Int) < n) := by omega
        have HB := Lib.hid (pure_trans HP1.out hB)
        have HEQ := Lib.hid (hcj.trans (Tm.nodesL_end (by have := HLN.out; omega) l))
        clear hB hcj
        go_wp2_with fail
        go_ret
        exact ⟨ret_int (HEQ0.out.trans HEQ.out).symm, HB.out⟩
def lightB (t : Tm) : Bool := decide (0 ≤ Tm.nodesP t 300)
theorem light_any (t : Tm) (a : Option Addr) (n c : Nat) (w : World) (ok : Nat → Prop) (hT : TR ok w t a n) :
    Calls Tryd.prog 12 #[.agg #[.int .i64 t.op, .int .i64 t.num, .slice a n c]] w fun e w' => e = .returned (.bool (lightB t)) ∧ Below w.heap.size w w' := by
  have P1 := pure_alloc w (.cells #[.int .i64 t.op, .int .i64 t.num, .slice a n c] 28)
  have HT := Lib.hid (hT.below P1)
  have HP1 := Lib.hid P1
  have HL : Hid (lightB t = decide (0 ≤ Tm.nodesP t 300)) := rfl
  clear hT P1
  go_enter Tryd.func12, Tryd.ntmps12
  go_wp2_with fail
  refine (nodes_any t.size t a n c 300 _ ok (Nat.le_refl _) HT.out (by omega) (by omega)).mono ?_
  rintro e w3 ⟨rfl, hw3⟩
  have HB3 := Lib.hid (pure_trans HP1.out hw3)
  clear hw3
  go_wp2_with fail
  go_ret
  rw [HL.out]
  exact ⟨rfl, HB3.out⟩
/-- A number in a block of its own, and all other blocks as they were. -/
def FmPost (L : Nat) (r : Bool × Int) (w : World) (e : Ending) (w' : World) : Prop := e = .returned (.bool r.1) ∧ w'.heap[L]? = some (.cells #[.int .i64 r.2] 3 (0, 0)) ∧ But L w w'
theorem one_set {w : World} {L : Nat} {x : Value} (h : w.heap[L]? = some (.cells #[x] 3 (0, 0))) (y : Value) : (w.setCell ⟨L, 0, none⟩ y).heap[L]? = some (.cells #[y] 3 (0, 0)) := by
  rw [set_arr h]; rfl
set_option maxHeartbeats 1600000 in
theorem formed_any (m : Nat) : ∀ (t : Tm) (a : Option Addr) (n c L : Nat) (left level : Int) (w : World), t.size ≤ m → TR (fun b => b ≠ L) w t a n → w.heap[L]? = some (.cells #[.int .i64 left] 3 (0, 0)) → 0 ≤ left → left ≤ 100000 → 0 ≤ level → level ≤ 41 →
    Calls Tryd.prog 39 #[.agg #[.int .i64 t.op, .int .i64 t.num, .slice a n c], .pointer (some ⟨L, 0, none⟩), .int .i64 level] w (FmPost L (Tm.formed t left level) w) := by
  induction m with
  | zero => intro t a n c L left level w h; have := t.size_pos; omega
  | succ m ih =>
    intro t a n c L left level w hm hT hL hl0 hl1 hv0 hv1
    have hsz := t.size_kids
    have HEQ0 := Lib.hid (t.formed_kids left level)
    rw [TR_iff] at hT
    have hLl := lt_of_block hL
    have hn := hT.2.1
    have HLN := Lib.hid hT.1
    have HIH := Lib.hid ih
    have HSZ : Hid (Tm.sizes t.kids ≤ m) := by show _ ≤ _; omega
    have hne : w.heap.size ≠ L := by omega
    have B1 : But L w ((w.setCell ⟨L, 0, none⟩ (.int .i64 (left - 1))).alloc (.cells #[.int .i64 t.op, .int .i64 t.num, .slice a n c] 28)) := But.alloc (But.setCell (b := L) (But.refl L w) (p := ⟨L, 0, none⟩) rfl _) _
    have N1 : ((w.setCell ⟨L, 0, none⟩ (.int .i64 (left - 1))).alloc (.cells #[.int .i64 t.op, .int .i64 t.num, .slice a n c] 28)).heap[w.heap.size]? = some (.cells #[.int .i64 t.op, .int .i64 t.num, .slice a n c] 28 (0, 0)) := alloc_new' _ _ _ (by simp [World.setCell])
    have L1 : ((w.setCell ⟨L, 0, none⟩ (.int .i64 (left - 1))).alloc (.cells #[.int .i64 t.op, .int .i64 t.num, .slice a n c] 28)).heap[L]? = some (.cells #[.int .i64 (left - 1)] 3 (0, 0)) := alloc_keep (one_set hL _)
    have l0 : w.cell? ⟨L, 0, none⟩ = some (.int .i64 left) := cell_of_arr hL 0
    have l1 := frozen_of_arr hL 0
    have HT := Lib.hid (hT.keep (ok' := fun b => b ≠ L) fun b hb hl => ⟨B1.block b hl hb, hb⟩)
    clear hT hsz ih hL
    go_enter Tryd.func39, Tryd.ntmps39
    go_upto_region 2 with fail
    generalize ((w.setCell ⟨L, 0, none⟩ (.int .i64 (left - 1))).alloc (.cells #[.int .i64 t.op, .int .i64 t.num, .slice a n c] 28)) = w1 at *
    clear l0 l1
    have HB1 := Lib.hid B1
    have HN1 := Lib.hid N1
    have HL1 := Lib.hid L1
    have x0 := cell_of_arr N1 0
    have x1 := cell_of_arr N1 1
    have x2 := cell_of_arr N1 2
    simp at x0 x1 x2
    have l0 : w1.cell? ⟨L, 0, none⟩ = some (.int .i64 (left - 1)) := cell_of_arr L1 0
    clear B1 N1 L1
    by_cases hA : left - 1 < 0
    · have hb : decide (left - 1 < 0) = true := by simpa using hA
      have HE := Lib.hid (HEQ0.out.trans (if_pos hA))
      clear HEQ0
      go_quiet (fail)
      go_wp2_with fail
      go_ret
      rw [HE.out]
      exact ⟨rfl, HL1.out, HB1.out.drewN _⟩
    have HEQ1 := Lib.hid (HEQ0.out.trans (if_neg hA))
    have hAb : decide (left - 1 < 0) = false := by simpa using hA
    clear HEQ0
    by_cases hV : 40 < level
    · have HE := Lib.hid (HEQ1.out.trans (if_pos hV))
      clear HEQ1
      go_quiet (fail)
      go_wp2_with fail
      go_ret
      rw [HE.out]
      exact ⟨rfl, HL1.out, HB1.out.drewN _⟩
    have HEQ2 := Lib.hid (HEQ1.out.trans (if_neg hV))
    have hVb : decide (40 < level) = false := by simpa using hV
    clear HEQ1
    by_cases hK : (n : Int) = Tm.arity t.op
    rotate_left
    · have HE := Lib.hid (HEQ2.out.trans (if_pos (by have := HLN.out; rw [← this]; exact hK)))
      have hKb : ((n : Int) != Tm.arity t.op) = true := by simpa using hK
      clear HEQ2
      go_quiet ((go_at_call 59; go_must (exact quiet_at (kids_any t.op _) ⟨_, rfl⟩)))
      go_wp2_with fail
      go_ret
      rw [HE.out]
      exact ⟨rfl, HL1.out, HB1.out.drewN _⟩
    have HEQ3 := Lib.hid (HEQ2.out.trans (if_neg (by have := HLN.out; rw [← this]; simpa using hK)))
    have hKb : ((n : Int) != Tm.arity t.op) = false := by simpa using hK
    clear HEQ2 hK
    go_quiet ((go_at_call 59; go_must (exact quiet_at (kids_any t.op _) ⟨_, rfl⟩)))
    have HB2 := Lib.hid (HB1.out.drewN nq)
    have HN2 : Hid ((w1.drewN nq).heap[w.heap.size]? = some (.cells #[.int .i64 t.op, .int .i64 t.num, .slice a n c] 28 (0, 0))) := HN1.out
    have HL2 : Hid ((w1.drewN nq).heap[L]? = some (.cells #[.int .i64 (left - 1)] 3 (0, 0))) := HL1.out
    have HT2 : Hid (TL (fun b => b ≠ L) (w1.drewN nq) t.kids a n) := HT.out.keep fun b hb _ => ⟨rfl, hb⟩
    clear x0 x1 x2 l0 HB1 HN1 HL1 HT hKb
    generalize w1.drewN nq = w2 at *
    have N2 := HN2.out
    have x0 := cell_of_arr N2 0
    have x1 := cell_of_arr N2 1
    have x2 := cell_of_arr N2 2
    simp at x0 x1 x2
    clear N2
    by_cases h1 : t.op = 1
    · have h1b : (t.op == 1) = true := by simpa using h1
      have HE := Lib.hid (HEQ3.out.trans (if_pos h1))
      clear HEQ3 h1
      by_cases hp : 0 ≤ t.num
      · go_wp2_with fail
        go_ret
        rw [HE.out]
        exact ⟨by simp [hp], HL2.out, HB2.out⟩
      · have hpb : decide (0 ≤ t.num) = false := by simpa using hp
        go_wp2_with fail
        go_ret
        rw [HE.out]
        exact ⟨by simp [hpb], HL2.out, HB2.out⟩
    have h1b : (t.op == 1) = false := by simpa using h1
    have HEQ4 := Lib.hid (HEQ3.out.trans (if_neg h1))
    clear HEQ3 h1
    by_cases h0 : t.num = 0
    rotate_left
    · have h0b : (t.num != 0) = true := by simpa using h0
      have HE := Lib.hid (HEQ4.out.trans (if_pos h0))
      clear HEQ4 h0
      go_wp2_with fail
      go_ret
      rw [HE.out]
      exact ⟨rfl, HL2.out, HB2.out⟩
    have h0b : (t.num != 0) = false := by simpa using h0
    have HEQ5 := Lib.hid (HEQ4.out.trans (if_neg (by simpa using h0)))
    clear HEQ4 h0
    go_wp2_with fail
    clear x0 x1 x2 h1b h0b
    go_loopw [48] (fun i W => ∃ (j : Nat) (l : Int), i = .int .i64 j ∧ j ≤ n ∧ 0 ≤ l ∧ l ≤ 100000 ∧ W.heap[L]? = some (.cells #[.int .i64 l] 3 (0, 0)) ∧ Tm.formedL t.kids (left - 1) (level + 1) = Tm.formedL (t.kids.drop j) l (level + 1) ∧ But L w2 W) (fun i _ => n - (intOf i).toNat)
    case atStart => exact ⟨0, left - 1, rfl, by omega, by omega, by omega, HL2.out, rfl, But.refl _ _⟩
    case round =>
      obtain ⟨j, l, rfl, hj, hl2, hl3, hLr, hcj, hB⟩ := hrel
      by_cases hjn : j < n
      · have hjl : j < t.kids.length := by have := HLN.out; omega
        have hTr : TL (fun b => b ≠ L) wr t.kids a n := HT2.out.keep fun b hb hl => ⟨hB.block b hl hb, hb⟩
        obtain ⟨b, o, an, nn, cc, hea, hb, c0, c1, c2, ht⟩ := hTr.2.2 j hjl
        subst hea
        have PA := pure_alloc wr (.cells #[.int .i64 t.kids[j].op, .int .i64 t.kids[j].num, .slice an nn cc] 28)
        have hk1 : t.kids[j].size ≤ m := Nat.le_trans (Tm.size_get hjl) HSZ.out
        have HCL := Lib.hid (HIH.out t.kids[j] an nn cc L l (level + 1) _ hk1 (ht.below PA) (Below.keep PA hLr (lt_of_block hLr)) hl2 hl3 (by omega) (by omega))
        have HEQ := Lib.hid (hcj.trans (Tm.formedL_step hjl l (level + 1)))
        have HBD := Lib.hid (Tm.formed_bd t.kids[j] l (level + 1) hl2)
        have HB := Lib.hid (hB.alloc (.cells #[.int .i64 t.kids[j].op, .int .i64 t.kids[j].num, .slice an nn cc] 28))
        clear hcj hB ht PA hTr hLr
        generalize t.kids[j] = k at *
        have hlt : (j : Int) < n := by omega
        go_wp2_with fail
        refine HCL.out.mono ?_
        rintro e w3 ⟨rfl, hL3, hb3⟩
        have HB3 := Lib.hid (HB.out.trans hb3)
        have HL3 := Lib.hid hL3
        clear hb3 hL3 c0 c1 c2 HCL
        generalize Tm.formed k l (level + 1) = fr at *
        obtain ⟨r, l'⟩ := fr
        dsimp only at HEQ HBD HL3 ⊢
        cases r
        · have HE := Lib.hid (HEQ.out.trans (if_neg (by simp)))
          clear HEQ
          go_wp2_with fail
          go_ret
          rw [HEQ5.out, HE.out]
          exact ⟨rfl, HL3.out, HB2.out.trans HB3.out⟩
        · have HE := Lib.hid (HEQ.out.trans (if_pos rfl))
          clear HEQ
          go_wp2_with fail
          go_roundw
          case rel => exact ⟨j + 1, l', by go_num, by omega, HBD.out.2.2 rfl, by have := HBD.out.2.1; omega, HL3.out, HE.out, HB3.out⟩
          case measure => simp [intOf]; omega
      · have hjn' : ¬ ((j : Int) < n) := by omega
        have HE := Lib.hid (hcj.trans (Tm.formedL_end (by have := HLN.out; omega) l (level + 1)))
        have HB := Lib.hid (HB2.out.trans hB)
        have HL3 := Lib.hid hLr
        clear hB hcj hLr
        go_wp2_with fail
        go_ret
        rw [HEQ5.out, HE.out]
        exact ⟨rfl, HL3.out, HB.out⟩
end Go.Proofs.YtkgbjoepjcenlaaDoor
