/- The walk of parts. -/
import Derived.Test.YtkgbjoepjcenlaaDoorWn
namespace Go.Proofs.YtkgbjoepjcenlaaDoor
open Go.RowKit Go.Maps
def PPost (l : List Tm) (ok : Nat → Prop) (w : World) (e : Ending) (w' : World) : Prop := ∃ a n c, e = .returned (.slice a n c) ∧ TL ok w' l a n ∧ Below w.heap.size w w'
theorem Tm.parts_eq (C : List Tm) (t : Tm) : Tm.parts C t = if t.op = 2 then t.kids else if t.op = 5 then t.kids.drop 1 else if t.op = 4 then (if ((t.kids.head?).map (Tm.builds C)).getD false then t.kids.drop 3 else []) else [] := by cases t; rfl
set_option maxHeartbeats 1600000 in
theorem parts_any (K M : Nat) (C : List Tm) (t : Tm) (a : Option Addr) (n c : Nat) (w : World) (ok : Nat → Prop) (hT : TR ok w t a n) (hnc : n ≤ c) (hwf : Tm.wf t = true) (hE : Env w) (hK : KB w K M C) (hsz : t.size ≤ 99999) :
    Calls Tryd.prog 58 #[.pointer (some ⟨K, 0, none⟩), .agg #[.int .i64 t.op, .int .i64 t.num, .slice a n c]] w (PPost (Tm.parts C t) ok w) := by
  have hs1 := t.size_kids
  have P1 := pure_alloc w (.cells #[.int .i64 t.op, .int .i64 t.num, .slice a n c] 28)
  have N1 := alloc_new w (.cells #[.int .i64 t.op, .int .i64 t.num, .slice a n c] 28)
  have HTL := Lib.hid (TR_iff.1 (hT.below P1))
  have HLN := Lib.hid (TR_iff.1 hT).1
  have hn := (TR_iff.1 hT).2.1
  have HE := Lib.hid (hE.below P1)
  have HK := Lib.hid (hK.below P1)
  have HWF := Lib.hid hwf
  have HSZ : Hid (Tm.sizes t.kids ≤ 99999) := by show _ ≤ _; omega
  have HPE := Lib.hid (Tm.parts_eq C t)
  have hok := Tm.okN_len (Tm.wf_kids hwf).1
  rw [← HLN.out] at hok
  clear hT hs1 hsz hE hK hwf
  go_enter Tryd.func58, Tryd.ntmps58
  go_upto_region 1 with fail
  generalize (w.alloc (.cells #[.int .i64 t.op, .int .i64 t.num, .slice a n c] 28)) = w1 at *
  have HP1 := Lib.hid P1
  have HN1 := Lib.hid N1
  have x0 := cell_of_arr N1 0
  have x1 := cell_of_arr N1 1
  have x2 := cell_of_arr N1 2
  simp at x0 x1 x2
  clear P1 N1
  by_cases h2 : t.op = 2
  · have HR : Hid (Tm.parts C t = t.kids) := by show _ = _; rw [HPE.out, if_pos h2]
    have h2b : (t.op == 2) = true := by simpa using h2
    clear h2 HPE hok
    go_wp2_with fail
    go_ret
    rw [HR.out]
    exact ⟨_, _, _, rfl, HTL.out, HP1.out⟩
  have h2b : (t.op == 2) = false := by simpa using h2
  by_cases h5 : t.op = 5
  · have HR : Hid (Tm.parts C t = t.kids.drop 1) := by show _ = _; rw [HPE.out, if_neg h2, if_pos h5]
    have h5b : (t.op == 5) = true := by simpa using h5
    have hn2 : n = 2 := by rw [h5] at hok; have h3 : Tm.arity 5 = 2 := rfl; omega
    have hk0 : 0 < t.kids.length := by have := HLN.out; omega
    obtain ⟨b, o, hea⟩ : ∃ b o, a = some ⟨b, o, none⟩ := by
      obtain ⟨b, o, an, nn, cc, hea, _⟩ := HTL.out.2.2 0 hk0
      exact ⟨b, o, hea⟩
    subst hea
    have HDR := Lib.hid (HTL.out.drop 1)
    have hc1 : ¬ c = 1 := by omega
    have hl0 : (1 : Int) ≤ (n : Int) := by omega
    clear h2 h5 HPE hok hn2
    go_wp2_with fail
    go_ret
    rw [HR.out]
    exact ⟨_, _, _, rfl, HDR.out, HP1.out⟩
  have h5b : (t.op == 5) = false := by simpa using h5
  by_cases h4 : t.op = 4
  rotate_left
  · have HR : Hid (Tm.parts C t = []) := by show _ = _; rw [HPE.out, if_neg h2, if_neg h5, if_neg h4]
    have h4b : (t.op == 4) = false := by simpa using h4
    clear h2 h5 h4 HPE hok
    go_wp2_with fail
    go_ret
    rw [HR.out]
    exact ⟨_, _, _, rfl, TL.nil _ _ _, HP1.out⟩
  have h4b : (t.op == 4) = true := by simpa using h4
  have hn4 : n = 4 := by rw [h4] at hok; have h3 : Tm.arity 4 = 4 := rfl; omega
  have hk0 : 0 < t.kids.length := by have := HLN.out; omega
  obtain ⟨b, o, an, nn, cc, hea, hb, c0, c1, c2, ht⟩ := HTL.out.2.2 0 hk0
  subst hea
  simp only [Nat.zero_mul, Nat.add_zero] at c0 c1 c2
  have hhd : t.kids.head? = some t.kids[0] := by rw [List.head?_eq_getElem?]; exact List.getElem?_eq_getElem hk0
  have HR : Hid (Tm.parts C t = if Tm.builds C t.kids[0] then t.kids.drop 3 else []) := by
    show _ = _
    rw [HPE.out, if_neg h2, if_neg h5, if_pos h4, hhd]; rfl
  have HBD := Lib.hid (builds_any K M C t.kids[0].size t.kids[0] an nn cc w1 ok (Nat.le_refl _) ht (Tm.wf_kid HWF.out hk0) HE.out HK.out (Nat.le_trans (Tm.size_get hk0) HSZ.out))
  have hl0 : (0 : Int) < (n : Int) := by omega
  have hl3 : (3 : Int) ≤ (n : Int) := by omega
  have hc3 : ¬ c = 3 := by omega
  have HDR := Lib.hid (HTL.out.drop 3)
  clear h2 h5 h4 HPE hok hn4 hhd ht
  generalize t.kids[0] = k at *
  go_wp2_with fail
  refine HBD.out.mono ?_
  rintro e w2 ⟨rfl, hw2⟩
  have HP2 := Lib.hid (pure_trans HP1.out hw2)
  have HDR2 := Lib.hid (HDR.out.below hw2)
  have N2 := Below.keep hw2 HN1.out (lt_of_block HN1.out)
  clear hw2 c0 c1 c2 x0 x1 x2 HBD
  have x0 := cell_of_arr N2 0
  have x1 := cell_of_arr N2 1
  have x2 := cell_of_arr N2 2
  simp at x0 x1 x2
  clear N2
  cases hbk : Tm.builds C k
  · rw [hbk] at HR
    have HR2 : Hid (Tm.parts C t = []) := by show _ = _; rw [HR.out]; rfl
    clear hbk HR
    go_wp2_with fail
    go_ret
    rw [HR2.out]
    exact ⟨_, _, _, rfl, TL.nil _ _ _, HP2.out⟩
  · rw [hbk] at HR
    have HR2 : Hid (Tm.parts C t = t.kids.drop 3) := by show _ = _; rw [HR.out]; rfl
    clear hbk HR
    go_wp2_with fail
    go_ret
    rw [HR2.out]
    exact ⟨_, _, _, rfl, HDR2.out, HP2.out⟩
end Go.Proofs.YtkgbjoepjcenlaaDoor
