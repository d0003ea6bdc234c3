/- The parser's pairs 136. -/
import Derived.Test.YtelefkkkccilaaaGreatDoorZu
import Derived.Test.YtelefkkkccilaaaGreatDoorZy
set_option linter.unusedVariables false
set_option linter.unusedSimpArgs false
namespace Go.Proofs.YtelefkkkccilaaaGreatDoor
open Go.RowKit
set_option maxRecDepth 100000
theorem LS.push2 {P c b o X B : Nat} {K : Int} {l : List UInt8} {w : World} {j f : Nat} {es : List (It × Ad)} {v : Value} {W W5 W6 : World} (h : LS P c b o X B K l w j f es v W) (hPX : P < X) (hBX : B < X) (hwB : w.heap.size ≤ B) (hPB : P ≠ B) {f1 j1 : Nat} (hf : f1 + 2 ≤ f) {y z : It} {A C : Ad} (h5 : But P W W5) (hA : AtP P j1 c b o l (256 - (f1 : Int)) W5) (h6 : Below W5.heap.size W5 W6) (hI : IR (fun q => W.heap.size ≤ q) W6 y A) (hJ : IR (fun q => W.heap.size ≤ q) W6 z C) :
    ∃ v' W7, (Builtin.append_ #[24, 24] 24 #[v, .slice (some ⟨W6.heap.size, 0, none⟩) 2 2]).run Tryz.prog (W6.alloc (.cells #[.int .i64 y.kind, .int .u64 (y.num : Int), .slice A.ab A.nb A.cb, .slice A.ai A.ni A.ci, .int .i64 z.kind, .int .u64 (z.num : Int), .slice C.ab C.nb C.cb, .slice C.ai C.ni C.ci] 26)) = .ok v' W7 ∧ LS P c b o X B K l w j1 f1 (es ++ [(y, A), (z, C)]) v' (W7.setCell ⟨X, 3, none⟩ v') ∧ (∃ v9, W7.heap[X]? = some (.cells #[.int .i64 K, .int .u64 0, .slice none 0 0, v9] 26 (0, 0))) := by
  have hXl := lt_of_block h.blk
  have hBl := lt_of_block h.res
  have h56 : But P W W6 := h5.trans (But.of_below h6)
  obtain ⟨v', W7, hrun, hO, hB⟩ := gen_push2 h.out (by omega) (show P < X + 1 by omega) h56 hI hJ 2 (by have := h.few; omega)
  have hs5 := h5.size
  have hs6 := h6.size
  have hX7 : W7.heap[X]? = some (.cells #[.int .i64 K, .int .u64 0, .slice none 0 0, v] 26 (0, 0)) := (hB.block X (by omega)).trans ((h56.block X hXl (by omega)).trans h.blk)
  have hB7 : W7.heap[B]? = _ := (hB.block B (by omega)).trans ((h56.block B hBl (by omega)).trans h.res)
  have hne : ∀ q, q ≠ X → (W7.setCell ⟨X, 3, none⟩ v').heap[q]? = W7.heap[q]? := fun q hq => Below.heap_setCell _ _ _ _ hq
  refine ⟨v', W7, hrun, ⟨⟨?_, hA.2⟩, by simp; have := h.few; omega, ?_, ?_, ?_, ?_⟩, v, hX7⟩
  · rw [hne P (by omega), hB.block P (by omega), h6.block P (lt_of_block hA.1)]; exact hA.1
  · have h7 := but_below (but_trans h.but h56) hB (by omega)
    exact ⟨h7.os, h7.tape, h7.output, by have := h7.size; simpa [World.setCell] using this, fun q hq hqP => (hne q (by omega)).trans (h7.block q hq hqP)⟩
  · have := set_arr hX7 3 v'
    simpa using this
  · exact hO.keep (fun g hg => hne g (by have := (own_lt hO.row hg).2.1; omega)) fun q hq _ => hne q (by omega)
  · exact (hne B (by omega)).trans hB7
def LastK (b o c : Nat) (l : List UInt8) (m : Nat) (v9 : Value) (last : Option (List UInt8)) : Prop := (m = 0 ∧ v9 = .slice none 0 0 ∧ last = none) ∨ (0 < m ∧ ∃ q z, v9 = .slice (some ⟨b, o + q, none⟩) z (c - q) ∧ q + z ≤ l.length ∧ last = some ((l.drop q).take z))
def PR5 (P c b o X B : Nat) (l : List UInt8) (w : World) (d n : Nat) (R : It.PR (List It)) (v9 i : Value) (W : World) : Prop := ∃ (m j f : Nat) (es : List (It × Ad)) (v : Value) (last : Option (List UInt8)), i = .int .u64 (m : Int) ∧ m ≤ n ∧ LS P c b o X B 5 l w j f es v W ∧ LastK b o c l m v9 last ∧ It.pre (es.map (·.1)) (It.prsN (It.item d) last (n - m) f (l.drop j)) = R
theorem BR.cut {ok : Nat → Prop} {w : World} {b o : Nat} {l : List UInt8} (h : BR ok w (some ⟨b, o, none⟩) l.length l) {q z : Nat} (hqz : q + z ≤ l.length) : BR ok w (some ⟨b, o + q, none⟩) z ((l.drop q).take z) := by
  obtain ⟨h1, h2, h3⟩ := h
  refine ⟨by rw [List.length_take, List.length_drop]; omega, by omega, fun i hi => ?_⟩
  have hi' : i < z := by rw [List.length_take] at hi; omega
  obtain ⟨b', o', e, hb, hc⟩ := h3 (q + i) (by omega)
  cases e
  refine ⟨b, o + q, rfl, hb, ?_⟩
  rw [List.getElem_take, List.getElem_drop, Nat.add_assoc]
  exact hc
theorem key_at {d f f1 j j1 : Nat} {l : List UInt8} {y : It} (h : It.item d f (l.drop j) = .ok y f1 (l.drop j1)) (hj1 : j1 ≤ l.length) : j < j1 ∧ f1 + 1 ≤ f ∧ (l.drop j).take ((l.drop j).length - (l.drop j1).length) = (l.drop j).take (j1 - j) ∧ (l.drop j).take (j1 - j) = It.enc y := by
  obtain ⟨h1, h2, h3, h4, _⟩ := It.item_takes h
  rw [List.length_drop, List.length_drop] at h3 h4 ⊢
  have e : l.length - j - (l.length - j1) = j1 - j := by omega
  rw [e] at h4 ⊢
  exact ⟨by omega, h2, rfl, h4⟩
set_option maxHeartbeats 16000000 in
theorem ppairs (P k c b o : Nat) (l : List UInt8) (f n : Nat) (it lv : Int) (w : World) (hA : AtP P k c b o l it w) (hR : BR (fun j => j ≠ P) w (some ⟨b, o, none⟩) l.length l) (hc : l.length ≤ c) (hN : l.length ≤ 4096) (hit : it = 256 - (f : Int)) (hf : f ≤ 256) (hnb : n < 18446744073709551616) (d : Nat) (hlv : lv = 8 - (d : Int)) (hPC : ParC d) (hP1 : 1 < P) (hE : Env w) (R : It.PR (List It)) (hR0 : It.prsN (It.item d) none n f (l.drop k) = R) :
    Calls Tryz.prog 136 #[.pointer (some ⟨P, 0, none⟩), .int .u64 (n : Int), .int .i64 lv] w (ParP P c b o l w (R.map fun x => .mk 5 0 [] x)) := by
  have hPl := lt_of_block hA.1
  have P0 := pure_alloc w (.cells #[.int .i64 0, .int .u64 0, .slice none 0 0, .slice none 0 0] 26)
  have P1 := pure_trans P0 (pure_alloc (w.alloc (.cells #[.int .i64 0, .int .u64 0, .slice none 0 0, .slice none 0 0] 26)) (.cells #[.int .i64 5, .int .u64 0, .slice none 0 0, .slice none 0 0] 26))
  have hs1 : (w.alloc (.cells #[.int .i64 0, .int .u64 0, .slice none 0 0, .slice none 0 0] 26)).heap.size = w.heap.size + 1 := by simp
  have N1 := alloc_new' (w.alloc (.cells #[.int .i64 0, .int .u64 0, .slice none 0 0, .slice none 0 0] 26)) (.cells #[.int .i64 5, .int .u64 0, .slice none 0 0, .slice none 0 0] 26) (w.heap.size + 1) hs1.symm
  have N0 := Below.keep (pure_alloc (w.alloc (.cells #[.int .i64 0, .int .u64 0, .slice none 0 0, .slice none 0 0] 26)) (.cells #[.int .i64 5, .int .u64 0, .slice none 0 0, .slice none 0 0] 26)) (alloc_new w (.cells #[.int .i64 0, .int .u64 0, .slice none 0 0, .slice none 0 0] 26)) (by omega)
  have hAx := Below.keep P1 hA.1 hPl
  have HAX : Hid (AtP P k c b o l (256 - (f : Int)) ((w.alloc (.cells #[.int .i64 0, .int .u64 0, .slice none 0 0, .slice none 0 0] 26)).alloc (.cells #[.int .i64 5, .int .u64 0, .slice none 0 0, .slice none 0 0] 26))) := Lib.hid ⟨by rw [← hit]; exact hAx, hA.2⟩
  have HBX : Hid (But P w ((w.alloc (.cells #[.int .i64 0, .int .u64 0, .slice none 0 0, .slice none 0 0] 26)).alloc (.cells #[.int .i64 5, .int .u64 0, .slice none 0 0, .slice none 0 0] 26))) := Lib.hid (But.of_below P1)
  have HPX : Hid (P < w.heap.size + 1 ∧ P ≠ w.heap.size) := Lib.hid ⟨by omega, by omega⟩
  have HNX := Lib.hid N0
  have HX1 := Lib.hid N1
  have HRW := Lib.hid hR
  have HPC := Lib.hid hPC
  have HP1 := Lib.hid hP1
  have HE0 := Lib.hid hE
  have HIR0 := Lib.hid hR0
  have HLV := Lib.hid hlv
  obtain ⟨NN, hNN⟩ : ∃ NN : Int, NN = n := ⟨_, rfl⟩
  rw [← hNN]
  have HNN := Lib.hid hNN
  have HNB := Lib.hid hnb
  have HF := Lib.hid hf
  have HS1 := Lib.hid hs1
  clear hPl P0 P1 hs1 N1 N0 hAx hA hR hPC hP1 hE hR0 hlv hNN hnb hf hit
  go_enter Tryz.func136, Tryz.ntmps136
  go_upto_region 4 with fail
  try rw [HS1.out]
  go_loopw [9, 10] (fun q i W => PR5 P c b o (w.heap.size + 1) w.heap.size l w d n R q i W) (fun _ i _ => n - (intOf i).toNat)
  case atStart => exact ⟨0, k, f, [], _, none, rfl, Nat.zero_le _, ⟨HAX.out, by have := HF.out; simp; omega, HBX.out, HX1.out, OutI.nil _ _ _, HNX.out⟩, .inl ⟨rfl, rfl, rfl⟩, (It.pre_nil _).trans HIR0.out⟩
  case round =>
    obtain ⟨m, j, f', es, vv, last, rfl, hml, hLS, hLK, hRR⟩ := hrel
    have HLS := Lib.hid hLS
    have HML := Lib.hid hml
    have HLK := Lib.hid hLK
    clear HAX HBX HNX HX1 HS1 HF HIR0
    have HSB : Hid (w.heap.size ≤ w.heap.size ∧ w.heap.size < w.heap.size + 1) := Lib.hid ⟨Nat.le_refl _, by omega⟩
    generalize hXq : w.heap.size + 1 = X at *
    clear hml hLS hLK hXq
    by_cases hm : (m : Int) < NN
    · obtain ⟨g, hg⟩ : ∃ g, n - m = g + 1 := ⟨n - m - 1, by have := HNN.out; omega⟩
      have hwm : IntKind.u64.wrap ((m : Int) + 1) = ((m + 1 : Nat) : Int) := by have := HNB.out; have := HNN.out; show _ % 18446744073709551616 = _; omega
      rw [hg] at hRR
      have HG : Hid (n - (m + 1) = g) := Lib.hid (by omega)
      have HRR := Lib.hid hRR
      have a1 := cell_of_arr HLS.out.at_.1 1
      simp at a1
      have HCa := Lib.hid (HPC.out P j c b o l f' _ lv wr HLS.out.at_ (HRW.out.sep HLS.out.but) hc hN rfl (by have := HLS.out.few; omega) HLV.out HP1.out (But.env HE0.out HLS.out.but HP1.out))
      clear hg hRR
      go_wp2_with fail
      refine HCa.out.mono ?_
      rintro e v ⟨hB9, h9⟩
      have HB9 := Lib.hid hB9
      have HNV := Lib.hid ((hB9.block w.heap.size (lt_of_block HLS.out.res) HPX.out.2.symm).trans HLS.out.res)
      have HBV : Hid (But P w v) := Lib.hid (but_trans HLS.out.but hB9)
      clear hB9 HCa a1
      cases hr3 : It.item d f' (l.drop j) with
      | err er =>
        rw [hr3] at h9
        obtain rfl := h9
        have hRe := It.prsN_err (n := g) (last := last) hr3 (es.map (·.1))
        rw [HRR.out] at hRe
        have HRE := Lib.hid hRe
        clear hRe
        have her : er ≠ 0 := It.item_errs _ _ _ _ hr3
        have he : ¬ (er : Int) = 0 := by omega
        have heb : ((er : Int) != 0) = true := by simpa using he
        have hen : ¬ er = 0 := her
        have HX9 := Lib.hid (alloc_new v (.cells #[.int .i64 0, .int .u64 0, .slice none 0 0, .slice none 0 0] 26))
        have HD9 := Lib.hid (pure_alloc v (.cells #[.int .i64 0, .int .u64 0, .slice none 0 0, .slice none 0 0] 26))
        have HNZ := Lib.hid (Below.keep HD9.out HNV.out (lt_of_block HNV.out))
        have HBZ : Hid (But P w (v.alloc (.cells #[.int .i64 0, .int .u64 0, .slice none 0 0, .slice none 0 0] 26))) := Lib.hid (but_below HBV.out HD9.out HBV.out.size)
        obtain ⟨r0, r1, r2, r3⟩ := cell_of4 HNZ.out
        obtain ⟨q0, q1, q2, q3⟩ := frozen_of4 HNZ.out
        go_wp2_with fail
        clear r0 r1 r2 r3 q0 q1 q2 q3
        obtain ⟨W', hW', hp4, hs4, hb4⟩ := put4_all (W := (v.alloc (.cells #[.int .i64 0, .int .u64 0, .slice none 0 0, .slice none 0 0] 26))) (b := w.heap.size) (HNZ.out) (.int .i64 0) (.int .u64 0) (.slice none 0 0) (.slice none 0 0); rw [hW']; clear hW'
        obtain ⟨g0, g1, g2, g3⟩ := cell_of4 hp4
        refine bodyPost_ret (v := .tuple #[.agg #[.int .i64 0, .int .u64 0, .slice none 0 0, .slice none 0 0], .int .i64 (er : Int)]) (by simp [results, Tryz.results136, go_sem, g0, g1, g2, g3]) rfl ?_
        have hz := hb4 0 (v.alloc (.cells #[.int .i64 0, .int .u64 0, .slice none 0 0, .slice none 0 0] 26)) (Below.refl 0 (v.alloc (.cells #[.int .i64 0, .int .u64 0, .slice none 0 0, .slice none 0 0] 26))) (Nat.zero_le _)
        have HBW : But P w W' := ⟨hz.os.trans HBZ.out.os, hz.tape.trans HBZ.out.tape, hz.output.trans HBZ.out.output, by have := HBZ.out.size; rw [hs4.1]; exact this, fun j hj hne => (hs4.2 j (by omega)).trans (HBZ.out.block j hj hne)⟩
        rw [HRE.out]
        exact ⟨HBW, rfl⟩
      | ok y f1 s1 =>
        rw [hr3] at h9
        obtain ⟨A, rfl, hIR, j1, hA1, hs1⟩ := h9
        subst hs1
        obtain ⟨hjj, hff, hke, hkey⟩ := key_at hr3 hA1.2
        have hRe := It.prsN_ok (n := g) (last := last) hr3 (es.map (·.1))
        rw [HRR.out, hke] at hRe
        have HKL : Hid (((l.drop j).take (j1 - j)).length = j1 - j) := Lib.hid (by have := hA1.2; rw [List.length_take, List.length_drop]; omega)
        obtain ⟨z0, hz0⟩ : ∃ z0, j1 - j = z0 := ⟨_, rfl⟩
        rw [hz0] at hRe HKL
        have HZJ : Hid (j + z0 ≤ l.length) := Lib.hid (by have := hA1.2; omega)
        have HRE := Lib.hid hRe
        have P6 := pure_alloc v (.cells #[.int .i64 y.kind, .int .u64 (y.num : Int), .slice A.ab A.nb A.cb, .slice A.ai A.ni A.ci] 26)
        have HY6 := Lib.hid (alloc_new v (.cells #[.int .i64 y.kind, .int .u64 (y.num : Int), .slice A.ab A.nb A.cb, .slice A.ai A.ni A.ci] 26))
        have HA6 : Hid (AtP P j1 c b o l (256 - (f1 : Int)) (v.alloc (.cells #[.int .i64 y.kind, .int .u64 (y.num : Int), .slice A.ab A.nb A.cb, .slice A.ai A.ni A.ci] 26))) := Lib.hid ⟨Below.keep P6 hA1.1 (lt_of_block hA1.1), hA1.2⟩
        have HB6 : Hid (But P wr (v.alloc (.cells #[.int .i64 y.kind, .int .u64 (y.num : Int), .slice A.ab A.nb A.cb, .slice A.ai A.ni A.ci] 26))) := Lib.hid (HB9.out.trans (But.of_below P6))
        have HI6 := Lib.hid (hIR.below P6)
        have HN6 := Lib.hid (Below.keep P6 HNV.out (lt_of_block HNV.out))
        have HFF := Lib.hid hff
        have HJ1 := Lib.hid hA1.2
        have hac : ¬ c = j := by have := hA1.2; omega
        have hs1 : j ≤ j1 := by omega
        have hs2 : j1 ≤ c := by have := hA1.2; omega
        clear hjj hff hke hkey hRe P6 hA1 hIR HNV HBV HB9 HRR
        have HXN : Hid (P < X ∧ w.heap.size < X ∧ w.heap.size ≤ w.heap.size ∧ P ≠ w.heap.size) := Lib.hid ⟨HPX.out.1, HSB.out.2, HSB.out.1, HPX.out.2⟩
        go_wp2_with fail
        generalize v.heap.size = K1 at *
        generalize v.alloc (.cells #[.int .i64 y.kind, .int .u64 (y.num : Int), .slice A.ab A.nb A.cb, .slice A.ai A.ni A.ci] 26) = w5 at *
        have a0 := cell_of_arr HA6.out.1 0
        have a1 := cell_of_arr HA6.out.1 1
        simp at a0 a1
        go_quiet (fail)
        have HY7 : Hid ((w5.drewN nq).heap[K1]? = _) := Lib.hid HY6.out
        have HA7 : Hid (AtP P j1 c b o l (256 - (f1 : Int)) (w5.drewN nq)) := Lib.hid HA6.out
        have HB7 := Lib.hid (HB6.out.drewN nq)
        have HI7 := Lib.hid (HI6.out.below (below_drewN (Below.refl _ _) nq))
        have HN7 : Hid ((w5.drewN nq).heap[w.heap.size]? = _) := Lib.hid HN6.out
        clear HY6 HA6 HB6 HI6 HN6 a0 a1
        generalize w5.drewN nq = w6 at *
        have HCb := Lib.hid (HPC.out P j1 c b o l f1 _ lv w6 HA7.out (HRW.out.sep (but_trans HLS.out.but HB7.out)) hc hN rfl (by have := HFF.out; have := HLS.out.few; omega) HLV.out HP1.out (But.env HE0.out (but_trans HLS.out.but HB7.out) HP1.out))
        rcases HLK.out with ⟨hm0, h9, hl0⟩ | ⟨hm0, q, z9, h9, hq, hl0⟩
        · subst h9
          subst hl0
          have hmz : ¬ (0 : Int) < (m : Int) := by omega
          have hmz2 : ¬ 0 < m := by omega
          have HRF := HRE
          have HRF := HRF.out
          rw [if_neg (by show ¬ (1 : Int) = 0; decide), if_neg (by show ¬ (1 : Int) < 0; decide)] at HRF
          have HRF := Lib.hid HRF
          clear hm0 HRE HLK
          go_wp2_with fail
          refine HCb.out.mono ?_
          rintro e v2 ⟨hB9, h9⟩
          have HB9 := Lib.hid hB9
          have HNV2 := Lib.hid ((hB9.block w.heap.size (lt_of_block HN7.out) HPX.out.2.symm).trans HN7.out)
          have HBV2 : Hid (But P w v2) := Lib.hid (but_trans (but_trans HLS.out.but HB7.out) hB9)
          have HB29 : Hid (But P wr v2) := Lib.hid (HB7.out.trans hB9)
          clear hB9 HCb
          cases hr3 : It.item d f1 (l.drop j1) with
          | err er =>
            rw [hr3] at h9
            obtain rfl := h9
            have hRe := It.prsO_err (key := (l.drop j).take z0) (n := g) hr3 (es.map (·.1) ++ [y])
            rw [← HRF.out] at hRe
            have HRE2 := Lib.hid hRe
            clear hRe
            have her : er ≠ 0 := It.item_errs _ _ _ _ hr3
            have he : ¬ (er : Int) = 0 := by omega
            have heb : ((er : Int) != 0) = true := by simpa using he
            have hen : ¬ er = 0 := her
            have HX9 := Lib.hid (alloc_new v2 (.cells #[.int .i64 0, .int .u64 0, .slice none 0 0, .slice none 0 0] 26))
            have HD9 := Lib.hid (pure_alloc v2 (.cells #[.int .i64 0, .int .u64 0, .slice none 0 0, .slice none 0 0] 26))
            have HNZ := Lib.hid (Below.keep HD9.out HNV2.out (lt_of_block HNV2.out))
            have HBZ : Hid (But P w (v2.alloc (.cells #[.int .i64 0, .int .u64 0, .slice none 0 0, .slice none 0 0] 26))) := Lib.hid (but_below HBV2.out HD9.out HBV2.out.size)
            obtain ⟨r0, r1, r2, r3⟩ := cell_of4 HNZ.out
            obtain ⟨q0, q1, q2, q3⟩ := frozen_of4 HNZ.out
            go_wp2_with fail
            clear r0 r1 r2 r3 q0 q1 q2 q3
            obtain ⟨W', hW', hp4, hs4, hb4⟩ := put4_all (W := (v2.alloc (.cells #[.int .i64 0, .int .u64 0, .slice none 0 0, .slice none 0 0] 26))) (b := w.heap.size) (HNZ.out) (.int .i64 0) (.int .u64 0) (.slice none 0 0) (.slice none 0 0); rw [hW']; clear hW'
            obtain ⟨g0, g1, g2, g3⟩ := cell_of4 hp4
            refine bodyPost_ret (v := .tuple #[.agg #[.int .i64 0, .int .u64 0, .slice none 0 0, .slice none 0 0], .int .i64 (er : Int)]) (by simp [results, Tryz.results136, go_sem, g0, g1, g2, g3]) rfl ?_
            have hz := hb4 0 (v2.alloc (.cells #[.int .i64 0, .int .u64 0, .slice none 0 0, .slice none 0 0] 26)) (Below.refl 0 (v2.alloc (.cells #[.int .i64 0, .int .u64 0, .slice none 0 0, .slice none 0 0] 26))) (Nat.zero_le _)
            have HBW : But P w W' := ⟨hz.os.trans HBZ.out.os, hz.tape.trans HBZ.out.tape, hz.output.trans HBZ.out.output, by have := HBZ.out.size; rw [hs4.1]; exact this, fun j hj hne => (hs4.2 j (by omega)).trans (HBZ.out.block j hj hne)⟩
            rw [HRE2.out]
            exact ⟨HBW, rfl⟩
          | ok z f2 s2 =>
            rw [hr3] at h9
            obtain ⟨C, rfl, hIR, j2, hA2, hs2'⟩ := h9
            subst hs2'
            have hRe := It.prsO_ok (key := (l.drop j).take z0) (n := g) hr3 (es.map (·.1) ++ [y])
            rw [← HRF.out] at hRe
            have HRE2 := Lib.hid hRe
            have hf2 := (It.item_takes hr3).2.1
            have P8 := pure_alloc v2 (.cells #[.int .i64 z.kind, .int .u64 (z.num : Int), .slice C.ab C.nb C.cb, .slice C.ai C.ni C.ci] 26)
            have HZ8 := Lib.hid (alloc_new v2 (.cells #[.int .i64 z.kind, .int .u64 (z.num : Int), .slice C.ab C.nb C.cb, .slice C.ai C.ni C.ci] 26))
            have hKP : K1 ≠ P := fun e => by have h1 := HY7.out; rw [e, HA7.out.1] at h1; cases h1
            have hyv := (HB9.out.block K1 (lt_of_block HY7.out) hKP).trans HY7.out
            have HY8 := Lib.hid (Below.keep P8 hyv (lt_of_block hyv))
            have hXv := (HB29.out.block X (lt_of_block HLS.out.blk) (by have := HPX.out.1; omega)).trans HLS.out.blk
            have HX8 := Lib.hid (Below.keep P8 hXv (lt_of_block hXv))
            have hszr := HB7.out.size
            have hPr := lt_of_block HLS.out.at_.1
            obtain ⟨v7, W7, hrun, hLS7, v9', hX9⟩ := HLS.out.push2 HXN.out.1 HXN.out.2.1 HXN.out.2.2.1 HXN.out.2.2.2 (f1 := f2) (by have := HFF.out; omega) (y := y) (z := z) (A := A) (C := C) HB29.out hA2 P8 (((HI7.out.keep (fun q hq hl => ⟨HB9.out.block q hl (by omega), hq⟩)).below P8)) ((hIR.imp fun q hq _ => (by omega)).below P8)
            obtain ⟨a7, c7, e7⟩ := own_form hLS7.out.row
            obtain ⟨n7, hn7⟩ : ∃ n7, (es ++ [(y, A), (z, C)]).length = n7 := ⟨_, rfl⟩
            rw [hn7] at e7
            subst e7
            clear hn7
            have HR := Lib.hid hrun
            have HX9 := Lib.hid hX9
            have hsz : (v2.alloc (.cells #[.int .i64 z.kind, .int .u64 (z.num : Int), .slice C.ab C.nb C.cb, .slice C.ai C.ni C.ci] 26)).heap.size = v2.heap.size + 1 := by simp
            rw [hsz] at HR
            have HLS7 := Lib.hid hLS7
            clear hRe hf2 P8 hrun hLS7 hX9 hA2 hIR hsz hyv hKP hXv hszr hPr
            obtain ⟨y0, y1, y2, y3⟩ := cell_of4 HY8.out
            obtain ⟨z1, z2, z3, z4⟩ := cell_of4 HZ8.out
            obtain ⟨x0, x1, x2, x3⟩ := cell_of4 HX8.out
            obtain ⟨t0, t1, t2, t3⟩ := cell_of4 HX9.out
            obtain ⟨p0, p1, p2, p3⟩ := frozen_of4 HX9.out
            go_wp2_with (at_builtin; refine wpList_app rfl _ _ 24 rfl rfl rfl HR.out ?_; clear HR)
            go_roundw
            case rel => exact ⟨m + 1, j2, f2, _, _, _, by go_num, by have := HNN.out; omega, HLS7.out, .inr ⟨Nat.succ_pos _, j, z0, rfl, HZJ.out, rfl⟩, by rw [HG.out, List.map_append, HRE2.out, List.append_assoc]; rfl⟩
            case measure => have := HNN.out; simp [intOf]; omega
        · subst h9
          subst hl0
          have hmz : (0 : Int) < (m : Int) := by omega
          have hmz2 : 0 < m := by omega
          have hK6 := HRW.out.sep (but_trans HLS.out.but HB7.out)
          obtain ⟨r, hr⟩ : ∃ r, It.cmpB ((l.drop j).take z0) ((l.drop q).take z9) = r := ⟨_, rfl⟩
          have HCc := Lib.hid (compare_any (c := c - j) (d := c - q) (hK6.cut HZJ.out) (hK6.cut hq) r hr)
          have HR9 := Lib.hid hr
          clear hm0 HLK hK6 hr hq
          go_wp2_with fail
          refine HCc.out.mono ?_
          rintro e w9 ⟨rfl, rfl⟩
          clear HCc
          by_cases hr0 : r = 0
          · have hr0b : (r == 0) = true := by simpa using hr0
            have hRX : R = .err 7 := by rw [HRE.out, if_pos (by show It.cmpB _ _ = 0; rw [HR9.out]; exact hr0)]
            have HRX := Lib.hid hRX
            have HHB := Lib.hid (but_trans HLS.out.but HB7.out)
            clear hRX
            subst hr0
            obtain ⟨r0, r1, r2, r3⟩ := cell_of4 HN7.out
            obtain ⟨q0, q1, q2, q3⟩ := frozen_of4 HN7.out
            go_wp2_with fail
            clear r0 r1 r2 r3 q0 q1 q2 q3
            obtain ⟨W', hW', hp4, hs4, hb4⟩ := put4_all (W := w6) (b := w.heap.size) (HN7.out) (.int .i64 0) (.int .u64 0) (.slice none 0 0) (.slice none 0 0); rw [hW']; clear hW'
            obtain ⟨g0, g1, g2, g3⟩ := cell_of4 hp4
            refine bodyPost_ret (v := .tuple #[.agg #[.int .i64 0, .int .u64 0, .slice none 0 0, .slice none 0 0], .int .i64 7]) (by simp [results, Tryz.results136, go_sem, g0, g1, g2, g3]) rfl ?_
            have hz := hb4 0 w6 (Below.refl 0 w6) (Nat.zero_le _)
            have HBW : But P w W' := ⟨hz.os.trans HHB.out.os, hz.tape.trans HHB.out.tape, hz.output.trans HHB.out.output, by have := HHB.out.size; rw [hs4.1]; exact this, fun j hj hne => (hs4.2 j (by omega)).trans (HHB.out.block j hj hne)⟩
            rw [HRX.out]
            exact ⟨HBW, rfl⟩
          have hr0b : (r == 0) = false := by simpa using hr0
          by_cases hrn : r < 0
          · have hrnb : decide (r < 0) = true := by simpa using hrn
            have hRX : R = .err 6 := by rw [HRE.out, if_neg (by show ¬ It.cmpB _ _ = 0; rw [HR9.out]; exact hr0), if_pos (by show It.cmpB _ _ < 0; rw [HR9.out]; exact hrn)]
            have HRX := Lib.hid hRX
            have HHB := Lib.hid (but_trans HLS.out.but HB7.out)
            clear hRX
            obtain ⟨r0, r1, r2, r3⟩ := cell_of4 HN7.out
            obtain ⟨q0, q1, q2, q3⟩ := frozen_of4 HN7.out
            go_wp2_with fail
            clear r0 r1 r2 r3 q0 q1 q2 q3
            obtain ⟨W', hW', hp4, hs4, hb4⟩ := put4_all (W := w6) (b := w.heap.size) (HN7.out) (.int .i64 0) (.int .u64 0) (.slice none 0 0) (.slice none 0 0); rw [hW']; clear hW'
            obtain ⟨g0, g1, g2, g3⟩ := cell_of4 hp4
            refine bodyPost_ret (v := .tuple #[.agg #[.int .i64 0, .int .u64 0, .slice none 0 0, .slice none 0 0], .int .i64 6]) (by simp [results, Tryz.results136, go_sem, g0, g1, g2, g3]) rfl ?_
            have hz := hb4 0 w6 (Below.refl 0 w6) (Nat.zero_le _)
            have HBW : But P w W' := ⟨hz.os.trans HHB.out.os, hz.tape.trans HHB.out.tape, hz.output.trans HHB.out.output, by have := HHB.out.size; rw [hs4.1]; exact this, fun j hj hne => (hs4.2 j (by omega)).trans (HHB.out.block j hj hne)⟩
            rw [HRX.out]
            exact ⟨HBW, rfl⟩
          have hrnb : decide (r < 0) = false := by simpa using hrn
          have hRX := HRE.out
          rw [if_neg (by show ¬ It.cmpB _ _ = 0; rw [HR9.out]; exact hr0), if_neg (by show ¬ It.cmpB _ _ < 0; rw [HR9.out]; exact hrn)] at hRX
          have HRF := Lib.hid hRX
          clear hRX HRE HR9
          go_wp2_with fail
          refine HCb.out.mono ?_
          rintro e v2 ⟨hB9, h9⟩
          have HB9 := Lib.hid hB9
          have HNV2 := Lib.hid ((hB9.block w.heap.size (lt_of_block HN7.out) HPX.out.2.symm).trans HN7.out)
          have HBV2 : Hid (But P w v2) := Lib.hid (but_trans (but_trans HLS.out.but HB7.out) hB9)
          have HB29 : Hid (But P wr v2) := Lib.hid (HB7.out.trans hB9)
          clear hB9 HCb
          cases hr3 : It.item d f1 (l.drop j1) with
          | err er =>
            rw [hr3] at h9
            obtain rfl := h9
            have hRe := It.prsO_err (key := (l.drop j).take z0) (n := g) hr3 (es.map (·.1) ++ [y])
            rw [← HRF.out] at hRe
            have HRE2 := Lib.hid hRe
            clear hRe
            have her : er ≠ 0 := It.item_errs _ _ _ _ hr3
            have he : ¬ (er : Int) = 0 := by omega
            have heb : ((er : Int) != 0) = true := by simpa using he
            have hen : ¬ er = 0 := her
            have HX9 := Lib.hid (alloc_new v2 (.cells #[.int .i64 0, .int .u64 0, .slice none 0 0, .slice none 0 0] 26))
            have HD9 := Lib.hid (pure_alloc v2 (.cells #[.int .i64 0, .int .u64 0, .slice none 0 0, .slice none 0 0] 26))
            have HNZ := Lib.hid (Below.keep HD9.out HNV2.out (lt_of_block HNV2.out))
            have HBZ : Hid (But P w (v2.alloc (.cells #[.int .i64 0, .int .u64 0, .slice none 0 0, .slice none 0 0] 26))) := Lib.hid (but_below HBV2.out HD9.out HBV2.out.size)
            obtain ⟨r0, r1, r2, r3⟩ := cell_of4 HNZ.out
            obtain ⟨q0, q1, q2, q3⟩ := frozen_of4 HNZ.out
            go_wp2_with fail
            clear r0 r1 r2 r3 q0 q1 q2 q3
            obtain ⟨W', hW', hp4, hs4, hb4⟩ := put4_all (W := (v2.alloc (.cells #[.int .i64 0, .int .u64 0, .slice none 0 0, .slice none 0 0] 26))) (b := w.heap.size) (HNZ.out) (.int .i64 0) (.int .u64 0) (.slice none 0 0) (.slice none 0 0); rw [hW']; clear hW'
            obtain ⟨g0, g1, g2, g3⟩ := cell_of4 hp4
            refine bodyPost_ret (v := .tuple #[.agg #[.int .i64 0, .int .u64 0, .slice none 0 0, .slice none 0 0], .int .i64 (er : Int)]) (by simp [results, Tryz.results136, go_sem, g0, g1, g2, g3]) rfl ?_
            have hz := hb4 0 (v2.alloc (.cells #[.int .i64 0, .int .u64 0, .slice none 0 0, .slice none 0 0] 26)) (Below.refl 0 (v2.alloc (.cells #[.int .i64 0, .int .u64 0, .slice none 0 0, .slice none 0 0] 26))) (Nat.zero_le _)
            have HBW : But P w W' := ⟨hz.os.trans HBZ.out.os, hz.tape.trans HBZ.out.tape, hz.output.trans HBZ.out.output, by have := HBZ.out.size; rw [hs4.1]; exact this, fun j hj hne => (hs4.2 j (by omega)).trans (HBZ.out.block j hj hne)⟩
            rw [HRE2.out]
            exact ⟨HBW, rfl⟩
          | ok z f2 s2 =>
            rw [hr3] at h9
            obtain ⟨C, rfl, hIR, j2, hA2, hs2'⟩ := h9
            subst hs2'
            have hRe := It.prsO_ok (key := (l.drop j).take z0) (n := g) hr3 (es.map (·.1) ++ [y])
            rw [← HRF.out] at hRe
            have HRE2 := Lib.hid hRe
            have hf2 := (It.item_takes hr3).2.1
            have P8 := pure_alloc v2 (.cells #[.int .i64 z.kind, .int .u64 (z.num : Int), .slice C.ab C.nb C.cb, .slice C.ai C.ni C.ci] 26)
            have HZ8 := Lib.hid (alloc_new v2 (.cells #[.int .i64 z.kind, .int .u64 (z.num : Int), .slice C.ab C.nb C.cb, .slice C.ai C.ni C.ci] 26))
            have hKP : K1 ≠ P := fun e => by have h1 := HY7.out; rw [e, HA7.out.1] at h1; cases h1
            have hyv := (HB9.out.block K1 (lt_of_block HY7.out) hKP).trans HY7.out
            have HY8 := Lib.hid (Below.keep P8 hyv (lt_of_block hyv))
            have hXv := (HB29.out.block X (lt_of_block HLS.out.blk) (by have := HPX.out.1; omega)).trans HLS.out.blk
            have HX8 := Lib.hid (Below.keep P8 hXv (lt_of_block hXv))
            have hszr := HB7.out.size
            have hPr := lt_of_block HLS.out.at_.1
            obtain ⟨v7, W7, hrun, hLS7, v9', hX9⟩ := HLS.out.push2 HXN.out.1 HXN.out.2.1 HXN.out.2.2.1 HXN.out.2.2.2 (f1 := f2) (by have := HFF.out; omega) (y := y) (z := z) (A := A) (C := C) HB29.out hA2 P8 (((HI7.out.keep (fun q hq hl => ⟨HB9.out.block q hl (by omega), hq⟩)).below P8)) ((hIR.imp fun q hq _ => (by omega)).below P8)
            obtain ⟨a7, c7, e7⟩ := own_form hLS7.out.row
            obtain ⟨n7, hn7⟩ : ∃ n7, (es ++ [(y, A), (z, C)]).length = n7 := ⟨_, rfl⟩
            rw [hn7] at e7
            subst e7
            clear hn7
            have HR := Lib.hid hrun
            have HX9 := Lib.hid hX9
            have hsz : (v2.alloc (.cells #[.int .i64 z.kind, .int .u64 (z.num : Int), .slice C.ab C.nb C.cb, .slice C.ai C.ni C.ci] 26)).heap.size = v2.heap.size + 1 := by simp
            rw [hsz] at HR
            have HLS7 := Lib.hid hLS7
            clear hRe hf2 P8 hrun hLS7 hX9 hA2 hIR hsz hyv hKP hXv hszr hPr
            obtain ⟨y0, y1, y2, y3⟩ := cell_of4 HY8.out
            obtain ⟨z1, z2, z3, z4⟩ := cell_of4 HZ8.out
            obtain ⟨x0, x1, x2, x3⟩ := cell_of4 HX8.out
            obtain ⟨t0, t1, t2, t3⟩ := cell_of4 HX9.out
            obtain ⟨p0, p1, p2, p3⟩ := frozen_of4 HX9.out
            go_wp2_with (at_builtin; refine wpList_app rfl _ _ 24 rfl rfl rfl HR.out ?_; clear HR)
            go_roundw
            case rel => exact ⟨m + 1, j2, f2, _, _, _, by go_num, by have := HNN.out; omega, HLS7.out, .inr ⟨Nat.succ_pos _, j, z0, rfl, HZJ.out, rfl⟩, by rw [HG.out, List.map_append, HRE2.out, List.append_assoc]; rfl⟩
            case measure => have := HNN.out; simp [intOf]; omega
    · have hmn : m = n := by have := HNN.out; have := HML.out; omega
      have hRf := hRR
      rw [hmn, Nat.sub_self, It.prsN_zero] at hRf
      have HRR := Lib.hid hRf
      clear hRR hRf hmn
      obtain ⟨la, lc, rfl⟩ := own_form HLS.out.out.row
      obtain ⟨hTL, _, hlc, hlcm⟩ := HLS.out.out.tl'
      generalize hL : es.length = L at *
      have hI4 : IR (fun q => X + 1 ≤ q) wr (.mk 5 0 [] (es.map (·.1))) ⟨none, 0, 0, la, L, lc⟩ := IR_iff.2 ⟨by show 0 < _; omega, ⟨BR.nil _ _ _, by simp, by simp⟩, hTL.imp fun q hq _ => (by rcases hq with h | h <;> exact h), hlc, hlcm⟩
      have HI4 := Lib.hid hI4
      clear hI4 hTL hL
      obtain ⟨x0, x1, x2, x3⟩ := cell_of4 HLS.out.blk
      obtain ⟨r0, r1, r2, r3⟩ := cell_of4 HLS.out.res
      obtain ⟨q0, q1, q2, q3⟩ := frozen_of4 HLS.out.res
      go_wp2_with fail
      clear r0 r1 r2 r3 q0 q1 q2 q3
      obtain ⟨W', hW', hp4, hs4, hb4⟩ := put4_all (W := wr) (b := w.heap.size) (HLS.out.res) (.int .i64 5) (.int .u64 0) (.slice none 0 0) (.slice la L lc); rw [hW']; clear hW'
      obtain ⟨g0, g1, g2, g3⟩ := cell_of4 hp4
      refine bodyPost_ret (v := .tuple #[.agg #[.int .i64 5, .int .u64 0, .slice none 0 0, .slice la L lc], .int .i64 0]) (by simp [results, Tryz.results136, go_sem, g0, g1, g2, g3]) rfl ?_
      have hz := hb4 0 wr (Below.refl 0 wr) (Nat.zero_le _)
      have HBW : But P w W' := ⟨hz.os.trans HLS.out.but.os, hz.tape.trans HLS.out.but.tape, hz.output.trans HLS.out.but.output, by have := HLS.out.but.size; rw [hs4.1]; exact this, fun j hj hne => (hs4.2 j (by omega)).trans (HLS.out.but.block j hj hne)⟩
      have hzz := HPX.out
      have hsb := HSB.out
      rw [← HRR.out]
      refine ⟨HBW, ⟨none, 0, 0, la, L, lc⟩, rfl, HI4.out.keep (fun q hq _ => ⟨hs4.2 q (by have h1 : X + 1 ≤ q := hq; omega), by have h1 : X + 1 ≤ q := hq; show w.heap.size ≤ q; omega⟩), j, ⟨(hs4.2 P hzz.2).trans HLS.out.at_.1, HLS.out.at_.2⟩, rfl⟩
end Go.Proofs.YtelefkkkccilaaaGreatDoor
