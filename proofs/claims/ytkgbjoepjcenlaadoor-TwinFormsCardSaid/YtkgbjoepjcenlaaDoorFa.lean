/- The walks of the reference's digits, text and Print; Print at any term. -/
import Derived.Test.YtkgbjoepjcenlaaDoorWs
import Derived.Laws.BytesArg
namespace Go.Proofs.YtkgbjoepjcenlaaDoor
open Go.RowKit Go.Maps
theorem conv_one (w : World) (c : Int) : (convert 83 9 (.slice (some ⟨w.heap.size, 0, none⟩) 1 1)).run Tryd.prog (w.alloc (.cells #[.int .u8 c] 5)) = .ok (.string (strOfNums [c])) (w.alloc (.cells #[.int .u8 c] 5)) :=
  run_convert_bytes_arg _ 83 5 Tryd.underlying83 Tryd.underlying5 w.heap.size 0 1 1 [c] rfl (fun i hi => by
    obtain rfl : i = 0 := by omega
    rw [cell_of_arr (alloc_new w (.cells #[.int .u8 c] 5))]
    rfl) 9 Tryd.underlying9
theorem dec_split : ∀ n, n < 1001 → 10 ≤ n → Tm.dec n = Tm.dec (n / 10) ++ Tm.dec (n % 10) := by decide +kernel
set_option maxRecDepth 100000 in
set_option maxHeartbeats 1000000 in
theorem digits_any (m : Nat) : ∀ (z : Int) (w : World), 0 ≤ z → z ≤ 1000 → z ≤ m → Calls Tryd.prog 62 #[.int .i64 z] w fun e w' => e = .returned (Str (Tm.dec z.toNat)) ∧ Below w.heap.size w w' := by
  induction m with
  | zero =>
    intro z w h0 h1 h2
    obtain rfl : z = 0 := by omega
    have hcv := conv_one w
    go_enter Tryd.func62, Tryd.ntmps62
    go_wp2_with fail
    go_ret
    exact ⟨ret_str (by kernel_rfl), pure_alloc _ _⟩
  | succ m ih =>
    intro z w h0 h1 h2
    by_cases hz : z < 10
    · rcases (show z = 0 ∨ z = 1 ∨ z = 2 ∨ z = 3 ∨ z = 4 ∨ z = 5 ∨ z = 6 ∨ z = 7 ∨ z = 8 ∨ z = 9 by omega) with rfl | rfl | rfl | rfl | rfl | rfl | rfl | rfl | rfl | rfl
      all_goals
        have hcv := conv_one w
        go_enter Tryd.func62, Tryd.ntmps62
        go_wp2_with fail
        go_ret
        exact ⟨ret_str (by kernel_rfl), pure_alloc _ _⟩
    · have HIH := Lib.hid ih
      have hd : Hid (Tm.dec z.toNat = Tm.dec (z / 10).toNat ++ Tm.dec (z % 10).toNat) := by
        show _ = _
        rw [dec_split z.toNat (by omega) (by omega)]
        have e1 : (z / 10).toNat = z.toNat / 10 := by omega
        have e2 : (z % 10).toNat = z.toNat % 10 := by omega
        rw [e1, e2]
      have hl1 : (Tm.dec (z / 10).toNat).length ≤ 4 := (Tm.dec_facts _ (by omega)).2.2
      have hl2 : (Tm.dec (z % 10).toNat).length ≤ 4 := (Tm.dec_facts _ (by omega)).2.2
      have hz' : 10 ≤ z := by omega
      clear ih
      go_enter Tryd.func62, Tryd.ntmps62
      go_wp2_with fail
      refine (HIH.out (z / 10) w (by omega) (by omega) (by omega)).mono ?_
      rintro e w1 ⟨rfl, hw1⟩
      have HB1 := Lib.hid hw1
      clear hw1
      simp only [Str]
      go_wp2_with fail
      refine (HIH.out (z % 10) w1 (by omega) (by omega) (by omega)).mono ?_
      rintro e w2 ⟨rfl, hw2⟩
      simp only [Str]
      have HB2 := Lib.hid (pure_trans HB1.out hw2)
      clear hw2
      generalize hA : Tm.dec (z / 10).toNat = A at *
      generalize hB : Tm.dec (z % 10).toNat = B at *
      have hAB : A.length + B.length ≤ 9223372036854775807 := by omega
      clear hA hB
      go_wp2_with fail
      go_ret
      exact ⟨ret_str ((ba_app A B).trans (by rw [hd.out])), HB2.out⟩
set_option maxRecDepth 100000 in
set_option maxHeartbeats 1600000 in
theorem textR_any (m : Nat) : ∀ (t : Tm) (a : Option Addr) (n c : Nat) (w : World) (ok : Nat → Prop), t.size ≤ m → TR ok w t a n → Tm.wf t = true → Env w → t.size ≤ 100000 →
    Calls Tryd.prog 43 #[.agg #[.int .i64 t.op, .int .i64 t.num, .slice a n c]] w fun e w' => e = .returned (Str (Tm.text t)) ∧ Below w.heap.size w w' := by
  induction m with
  | zero => intro t a n c w ok h; have := t.size_pos; omega
  | succ m ih =>
    intro t a n c w ok hm hT hwf hE hsz
    have hs1 := t.size_kids
    have P1 := pure_alloc w (.cells #[.int .i64 t.op, .int .i64 t.num, .slice a n c] 28)
    have N1 := alloc_new w (.cells #[.int .i64 t.op, .int .i64 t.num, .slice a n c] 28)
    rw [TR_iff] at hT
    have hn := hT.2.1
    have HLN := Lib.hid hT.1
    have HT := Lib.hid (hT.below P1)
    have HE := Lib.hid (hE.below P1)
    have HWF := Lib.hid hwf
    have HIH := Lib.hid ih
    have HSZ : Hid (Tm.sizes t.kids ≤ m ∧ Tm.sizes t.kids ≤ 100000) := by show _ ∧ _; omega
    clear hT ih hs1 hm hsz hE
    by_cases h1 : t.op = 1
    · obtain ⟨k1, k2, k3⟩ := Tm.okN_name (h1 ▸ (Tm.wf_kids hwf).1)
      have HTX := Lib.hid (Tm.text_name h1)
      have h1b : (t.op == 1) = true := by simpa using h1
      obtain ⟨q, hq⟩ : ∃ q : Nat, t.num = (q : Int) := ⟨t.num.toNat, by omega⟩
      have HTX2 : Hid (Tm.text t = 110 :: Tm.dec q) := by show _ = _; rw [HTX.out, hq]; rfl
      have hq3 : q ≤ 1000 := by omega
      rw [hq] at P1 N1 HT HE ⊢
      clear h1 HTX hq k1 k2 k3 hwf
      go_enter Tryd.func43, Tryd.ntmps43
      go_upto_region 1 with fail
      generalize (w.alloc (.cells #[.int .i64 t.op, .int .i64 (q : Int), .slice a n c] 28)) = w1 at *
      have HP1 := Lib.hid P1
      have x0 := cell_of_arr N1 0
      have x1 := cell_of_arr N1 1
      have x2 := cell_of_arr N1 2
      simp at x0 x1 x2
      clear P1 N1
      go_wp2_with fail
      refine (digits_any 1000 (q : Int) w1 (by omega) (by omega) (by omega)).mono ?_
      rintro e w2 ⟨rfl, hw2⟩
      rw [show (q : Int).toNat = q from rfl]
      simp only [Str]
      have HP2 := Lib.hid (pure_trans HP1.out hw2)
      have hdl : 1 + (Tm.dec q).length ≤ 9223372036854775807 := by have := (Tm.dec_facts q (by omega)).2.2; omega
      clear hw2 x0 x1 x2
      go_wp2_with fail
      go_ret
      exact ⟨ret_str ((ba_app [110] (Tm.dec q)).trans (by rw [HTX2.out]; rfl)), HP2.out⟩
    have h1b : (t.op == 1) = false := by simpa using h1
    have HTX := Lib.hid (Tm.text_op h1)
    have ho : t.op = 2 ∨ t.op = 3 ∨ t.op = 4 ∨ t.op = 5 ∨ t.op = 6 ∨ t.op = 7 ∨ t.op = 8 := by
      have := Tm.okN_op (Tm.wf_kids hwf).1
      omega
    have howf : (Lit.int IntKind.i64 t.op).wf = true := by
      rcases ho with h | h | h | h | h | h | h <;> rw [h] <;> decide
    have hol : (Tm.opName t.op).length ≤ 5 := by rcases ho with h | h | h | h | h | h | h <;> rw [h] <;> decide
    have HO := Lib.hid ho
    clear ho h1 hwf howf
    go_enter Tryd.func43, Tryd.ntmps43
    go_upto_region 1 with fail
    generalize (w.alloc (.cells #[.int .i64 t.op, .int .i64 t.num, .slice a n c] 28)) = w1 at *
    have HP1 := Lib.hid P1
    have HN1 := Lib.hid N1
    have x0 := cell_of_arr N1 0
    have x1 := cell_of_arr N1 1
    have x2 := cell_of_arr N1 2
    simp at x0 x1 x2
    clear P1 N1
    go_upto_region 3 with fail
    go_cut [3] from 13 to 18 (fun s W => s = .string ⟨(Tm.opName t.op ++ [40]).toArray⟩ ∧ Below w1.heap.size w1 W)
    case first =>
      have PS := pure_alloc w1 (.cells #[.string ⟨#[]⟩, .string ⟨#[]⟩, .string ⟨#[112, 97, 105, 114]⟩, .string ⟨#[104, 97, 115, 104]⟩, .string ⟨#[115, 101, 97, 108]⟩, .string ⟨#[115, 105, 103, 110]⟩, .string ⟨#[112, 117, 98]⟩, .string ⟨#[115, 104, 97, 114, 101]⟩, .string ⟨#[107, 100, 102]⟩] 9)
      have HPS := Lib.hid PS
      have y0 := PS.cell (p := ⟨w.heap.size, 0, none⟩) (lt_of_block HN1.out)
      have hne : ¬ w.heap.size = w1.heap.size := by have := lt_of_block HN1.out; omega
      have hne2 : w.heap.size < w1.heap.size := lt_of_block HN1.out
      rw [x0] at y0
      clear PS
      rcases HO.out with h | h | h | h | h | h | h
      all_goals
        have HH := Lib.hid h
        rw [h] at x0 y0
        clear h
        go_wp2_with fail
        go_meet
        case rel => exact ⟨by rw [HH.out]; rfl, HPS.out⟩
    case rest =>
    obtain ⟨rfl, hcutB⟩ := hcut
    obtain ⟨u7, rfl⟩ : ∃ u7 : World, u7 = wc := ⟨_, rfl⟩
    have HN7 := Below.keep hcutB HN1.out (lt_of_block HN1.out)
    have HBM7 := Lib.hid hcutB
    clear hcutB x0 x1 x2
    have x0 := cell_of_arr HN7 0
    have x1 := cell_of_arr HN7 1
    have x2 := cell_of_arr HN7 2
    simp at x0 x1 x2
    have hol2 : (Tm.opName t.op).length + 1 ≤ 9223372036854775807 := by omega
    go_wp2_with fail
    clear x0 x1 x2
    have HTW := Lib.hid (HT.out.below HBM7.out)
    have HEW := Lib.hid (HE.out.below HBM7.out)
    have HPW := Lib.hid (pure_trans HP1.out HBM7.out)
    go_loopw [3, 22] (fun x i W => ∃ j : Nat, i = .int .i64 j ∧ j ≤ n ∧ x = .string ⟨(Tm.opName t.op ++ 40 :: Tm.joined (t.kids.take j)).toArray⟩ ∧ Below u7.heap.size u7 W) (fun _ i _ => n - (intOf i).toNat)
    case atStart => exact ⟨0, rfl, by omega, rfl, Below.refl _ _⟩
    case round =>
      obtain ⟨j, rfl, hj, rfl, hB⟩ := hrel
      have hLL : (Tm.opName t.op ++ 40 :: Tm.joined (t.kids.take j)).length ≤ 6 + 12 * 100000 := by
        have h1 := Tm.joined_len (t.kids.take j) ((Tm.wfs_iff _).2 fun k hk => (Tm.wfs_iff _).1 (Tm.wf_kids HWF.out).2 k (List.mem_of_mem_take hk))
        have h2 := Tm.sizes_take_le t.kids j
        have h3 := HSZ.out.2
        simp; omega
      by_cases hjn : j < n
      · have hjl : j < t.kids.length := by have := HLN.out; omega
        obtain ⟨b, o, an, nn, cc, hea, hb, c0, c1, c2, ht⟩ := (HTW.out.below hB).2.2 j hjl
        subst hea
        have PA := pure_alloc wr (.cells #[.int .i64 t.kids[j].op, .int .i64 t.kids[j].num, .slice an nn cc] 28)
        have hk1 : t.kids[j].size ≤ m := Nat.le_trans (Tm.size_get hjl) HSZ.out.1
        have hk2 : t.kids[j].size ≤ 100000 := Nat.le_trans (Tm.size_get hjl) HSZ.out.2
        have hkl : (Tm.text t.kids[j]).length ≤ 12 * 100000 := by have := Tm.text_len _ (Tm.wf_kid HWF.out hjl); omega
        have HCL := Lib.hid (HIH.out t.kids[j] an nn cc _ ok hk1 (ht.below PA) (Tm.wf_kid HWF.out hjl) ((HEW.out.below hB).below PA) hk2)
        have HB := Lib.hid (hB.trans (PA.mono hB.size))
        have HSN : Hid (Tm.opName t.op ++ 40 :: Tm.joined (t.kids.take (j + 1)) = (Tm.opName t.op ++ 40 :: Tm.joined (t.kids.take j)) ++ ((if j = 0 then [] else [44, 32]) ++ Tm.text t.kids[j])) := by
          show _ = _
          rw [Tm.joined_take hjl]; simp
        clear hB ht PA hk1 hk2
        generalize t.kids[j] = k at *
        generalize Tm.opName t.op ++ 40 :: Tm.joined (t.kids.take j) = L at *
        have hlt : (j : Int) < n := by omega
        by_cases hj0 : j = 0
        · have HS2 : Hid (Tm.opName t.op ++ 40 :: Tm.joined (t.kids.take (j + 1)) = L ++ Tm.text k) := by show _ = _; rw [HSN.out, if_pos hj0]; rfl
          have hjp : ¬ ((0 : Int) < (j : Int)) := by omega
          clear hj0 HSN
          go_wp2_with fail
          refine HCL.out.mono ?_
          rintro e w3 ⟨rfl, hw3⟩
          simp only [Str]
          have HB3 := Lib.hid (HB.out.trans (hw3.mono HB.out.size))
          clear hw3 c0 c1 c2 HCL HB
          generalize Tm.text k = T at *
          have hb1 : L.length + T.length ≤ 9223372036854775807 := by omega
          go_wp2_with fail
          go_roundw
          case rel => exact ⟨j + 1, by go_num, by omega, by rw [HS2.out, ba_app], HB3.out⟩
          case measure => simp [intOf]; omega
        · have HS2 : Hid (Tm.opName t.op ++ 40 :: Tm.joined (t.kids.take (j + 1)) = (L ++ [44, 32]) ++ Tm.text k) := by show _ = _; rw [HSN.out, if_neg hj0]; simp
          have hjp : (0 : Int) < (j : Int) := by omega
          clear hj0 HSN
          have hb0 : L.length + 2 ≤ 9223372036854775807 := by omega
          go_upto_region 9 with fail
          rw [ba_two]
          have hl2 : (L ++ [44, 32]).length ≤ 8 + 12 * 100000 := by simp; omega
          generalize L ++ [44, 32] = L2 at *
          go_wp2_with fail
          refine HCL.out.mono ?_
          rintro e w3 ⟨rfl, hw3⟩
          simp only [Str]
          have HB3 := Lib.hid (HB.out.trans (hw3.mono HB.out.size))
          clear hw3 c0 c1 c2 HCL HB
          generalize Tm.text k = T at *
          have hb1 : L2.length + T.length ≤ 9223372036854775807 := by omega
          go_wp2_with fail
          go_roundw
          case rel => exact ⟨j + 1, by go_num, by omega, by rw [HS2.out, ba_app], HB3.out⟩
          case measure => simp [intOf]; omega
      · have hjn' : ¬ ((j : Int) < n) := by omega
        have HB := Lib.hid (pure_trans HPW.out hB)
        have HTE : Hid (Tm.text t = (Tm.opName t.op ++ 40 :: Tm.joined (t.kids.take j)) ++ [41]) := by
          show _ = _
          rw [HTX.out, List.take_of_length_le (by have := HLN.out; omega)]; simp
        clear hB
        generalize Tm.opName t.op ++ 40 :: Tm.joined (t.kids.take j) = L at *
        have hb1 : L.length + 1 ≤ 9223372036854775807 := by omega
        go_wp2_with fail
        go_ret
        exact ⟨ret_str ((ba_one L 41).trans (by rw [HTE.out])), HB.out⟩
end Go.Proofs.YtkgbjoepjcenlaaDoor
