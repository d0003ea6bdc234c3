/- The parser's item 106: a list. -/
import Derived.Test.YtelefkkkccilaaaGreatDoorZq
set_option linter.unusedVariables false
set_option linter.unusedSimpArgs false
namespace Go.Proofs.YtelefkkkccilaaaGreatDoor
open Go.RowKit
set_option maxRecDepth 100000
structure LS (P c b o X B : Nat) (K : Int) (l : List UInt8) (w : World) (j f : Nat) (es : List (It × Ad)) (v : Value) (W : World) : Prop where
  at_ : AtP P j c b o l (256 - (f : Int)) W
  few : f + es.length ≤ 256
  but : But P w W
  blk : W.heap[X]? = some (.cells #[.int .i64 K, .int .u64 0, .slice none 0 0, v] 26 (0, 0))
  out : OutI W (X + 1) (fun q => X + 1 ≤ q) v es
  res : W.heap[B]? = some (.cells #[.int .i64 0, .int .u64 0, .slice none 0 0, .slice none 0 0] 26 (0, 0))
theorem BR.sep {P : Nat} {w W : World} {a : Option Addr} {n : Nat} {l : List UInt8} (h : BR (fun q => q ≠ P) w a n l) (hB : But P w W) : BR (fun q => q ≠ P) W a n l := h.keep fun q hq hl => ⟨hB.block q hl hq, hq⟩
theorem but_trans {P : Nat} {w u v : World} (h : But P w u) (k : But P u v) : But P w v := ⟨k.os.trans h.os, k.tape.trans h.tape, k.output.trans h.output, Nat.le_trans h.size k.size, fun j hj hne => (k.block j (Nat.lt_of_lt_of_le hj h.size) hne).trans (h.block j hj hne)⟩
theorem but_below {P n : Nat} {w u v : World} (h : But P w u) (k : Below n u v) (hn : w.heap.size ≤ n) : But P w v := ⟨k.os.trans h.os, k.tape.trans h.tape, k.output.trans h.output, Nat.le_trans h.size k.size, fun j hj hne => (k.block j (Nat.lt_of_lt_of_le hj hn)).trans (h.block j hj hne)⟩
theorem LS.push {P c b o X B : Nat} {K : Int} {l : List UInt8} {w : World} {j f : Nat} {es : List (It × Ad)} {v : Value} {W W5 W6 : World} (h : LS P c b o X B K l w j f es v W) (hPX : P < X) (hBX : B < X) (hwB : w.heap.size ≤ B) (hPB : P ≠ B) {f1 j1 : Nat} (hf : f1 + 1 ≤ f) {y : It} {A : Ad} (h5 : But P W W5) (hA : AtP P j1 c b o l (256 - (f1 : Int)) W5) (h6 : Below W5.heap.size W5 W6) (hI : IR (fun q => W.heap.size ≤ q) W6 y A) :
    ∃ v' W7, (Builtin.append_ #[24, 24] 24 #[v, .slice (some ⟨W6.heap.size, 0, none⟩) 1 1]).run Tryz.prog (W6.alloc (.cells #[.int .i64 y.kind, .int .u64 (y.num : Int), .slice A.ab A.nb A.cb, .slice A.ai A.ni A.ci] 26)) = .ok v' W7 ∧ LS P c b o X B K l w j1 f1 (es ++ [(y, A)]) v' (W7.setCell ⟨X, 3, none⟩ v') ∧ (∃ v9, W7.heap[X]? = some (.cells #[.int .i64 K, .int .u64 0, .slice none 0 0, v9] 26 (0, 0))) := by
  have hXl := lt_of_block h.blk
  have hBl := lt_of_block h.res
  have h56 : But P W W6 := h5.trans (But.of_below h6)
  obtain ⟨v', W7, hrun, hO, hB⟩ := gen_push h.out (by omega) (show P < X + 1 by omega) h56 hI 1 (by have := h.few; omega)
  have hs5 := h5.size
  have hs6 := h6.size
  have hX7 : W7.heap[X]? = some (.cells #[.int .i64 K, .int .u64 0, .slice none 0 0, v] 26 (0, 0)) := (hB.block X (by omega)).trans ((h56.block X hXl (by omega)).trans h.blk)
  have hB7 : W7.heap[B]? = _ := (hB.block B (by omega)).trans ((h56.block B hBl (by omega)).trans h.res)
  have hne : ∀ q, q ≠ X → (W7.setCell ⟨X, 3, none⟩ v').heap[q]? = W7.heap[q]? := fun q hq => Below.heap_setCell _ _ _ _ hq
  refine ⟨v', W7, hrun, ⟨⟨?_, hA.2⟩, by simp; have := h.few; omega, ?_, ?_, ?_, ?_⟩, v, hX7⟩
  · rw [hne P (by omega), hB.block P (by omega), h6.block P (lt_of_block hA.1)]; exact hA.1
  · have h7 := but_below (but_trans h.but h56) hB (by omega)
    exact ⟨h7.os, h7.tape, h7.output, by have := h7.size; simpa [World.setCell] using this, fun q hq hqP => (hne q (by omega)).trans (h7.block q hq hqP)⟩
  · have := set_arr hX7 3 v'
    simpa using this
  · exact hO.keep (fun g hg => hne g (by have := (own_lt hO.row hg).2.1; omega)) fun q hq _ => hne q (by omega)
  · exact (hne B (by omega)).trans hB7
def LR (P c b o X B : Nat) (l : List UInt8) (w : World) (d : Nat) (R : It.PR (List It)) (q : Value) (W : World) : Prop := ∃ (m j f : Nat) (es : List (It × Ad)) (v : Value), q = .int .u64 (m : Int) ∧ m < 18446744073709551616 ∧ LS P c b o X B 4 l w j f es v W ∧ It.pre (es.map (·.1)) (It.seqN (It.item d) m f (l.drop j)) = R
set_option maxHeartbeats 8000000 in
theorem pitem_4 (P k c b o fb n : Nat) (l r : List UInt8) (it lv : Int) (w : World) (hA : AtP P k c b o l it w) (hR : BR (fun b => b ≠ P) w (some ⟨b, o, none⟩) l.length l) (hc : l.length ≤ c) (hN : l.length ≤ 4096) (hi : 0 ≤ it) (hi2 : it < 256) (hr : It.readHead (l.drop k) = .ok fb n r) (hfb : fb < 256) (hnb : n < 18446744073709551616) (h5n : fb / 32 = 4) (d : Nat) (hd : d < 8) (hlv : lv = 7 - (d : Int)) (hPC : ParC d) (hP1 : 1 < P) (hE : Env w) (R : It.PR (List It)) (hR0 : It.seqN (It.item d) n (255 - it.toNat) r = R) :
    Calls Tryz.prog 106 #[.pointer (some ⟨P, 0, none⟩), .int .i64 lv] w (ParP P c b o l w (R.map fun x => .mk 4 0 [] x)) := by
  have P0 := pure_alloc w (.cells #[.int .i64 0, .int .u64 0, .slice none 0 0, .slice none 0 0] 26)
  have N0 := alloc_new w (.cells #[.int .i64 0, .int .u64 0, .slice none 0 0, .slice none 0 0] 26)
  have hP1 := Below.keep P0 hA.1 (lt_of_block hA.1)
  have HK := hA.2
  have hPl := lt_of_block hA.1
  have x2 := cell_of_arr hP1 2
  have f2 : (w.alloc (.cells #[.int .i64 0, .int .u64 0, .slice none 0 0, .slice none 0 0] 26)).frozen? ⟨P, 2, none⟩ = false := by simp [World.frozen?, hP1]
  simp at x2
  have hit : ¬ it = 256 := by omega
  have hitb : (it == 256) = false := by simpa using hit
  obtain ⟨it1, hit1⟩ : ∃ it1, it1 = it + 1 := ⟨_, rfl⟩
  have hw : IntKind.i64.wrap (it + 1) = it1 := by rw [hit1]; exact IntWalk.i64_in _ (by omega)
  have hR1 := hR.below P0
  have HP0 := Lib.hid P0
  have HN0 := Lib.hid N0
  have HA1 := Lib.hid hP1
  have HR1 := Lib.hid hR1
  have HRW := Lib.hid hR
  have HL := Lib.hid hPl
  clear hA hR P0 N0 hP1 hR1 hPl
  go_enter Tryz.func106, Tryz.ntmps106
  go_upto_region 1 with fail
  generalize hw1 : w.alloc (.cells #[.int .i64 0, .int .u64 0, .slice none 0 0, .slice none 0 0] 26) = w1 at *
  clear hw1
  have HA2 : Hid (AtP P k c b o l it1 (w1.setCell ⟨P, 2, none⟩ (.int .i64 it1))) := Lib.hid ⟨by have := set_arr HA1.out 2 (.int .i64 it1); simpa using this, HK⟩
  have HR2 : Hid (BR (fun b => b ≠ P) (w1.setCell ⟨P, 2, none⟩ (.int .i64 it1)) (some ⟨b, o, none⟩) l.length l) := Lib.hid (HR1.out.keep fun j hj _ => ⟨Below.heap_setCell _ _ _ _ hj, hj⟩)
  have HC := Lib.hid (phead_any P k c b o l it1 _ HA2.out HR2.out hc hN)
  have hRP : w.heap.size ≠ P := by have := HL.out; omega
  have HR9 : Hid ((w1.setCell ⟨P, 2, none⟩ (.int .i64 it1)).heap[w.heap.size]? = some (.cells #[.int .i64 0, .int .u64 0, .slice none 0 0, .slice none 0 0] 26 (0, 0))) := Lib.hid ((Below.heap_setCell _ _ _ _ hRP).trans HN0.out)
  have HB2 : Hid (But P w (w1.setCell ⟨P, 2, none⟩ (.int .i64 it1))) := Lib.hid ⟨HP0.out.os, HP0.out.tape, HP0.out.output, by have := HP0.out.size; simpa [World.setCell] using this, fun j hj hne => (Below.heap_setCell _ _ _ _ (by show j ≠ P; exact hne)).trans (HP0.out.block j hj)⟩
  rw [hr] at HC
  have HIT := Lib.hid hit1
  clear hit1
  obtain ⟨FB, hFB⟩ : ∃ FB : Int, FB = fb := ⟨_, rfl⟩
  obtain ⟨NN, hNN⟩ : ∃ NN : Int, NN = n := ⟨_, rfl⟩
  have h5 : FB / 32 = 4 := by rw [hFB]; omega
  have wk1 : IntKind.u8.wrap 4 = 4 := by show 4 % 256 = 4; omega
  have wk2 : IntKind.i64.wrap 4 = 4 := IntWalk.i64_in _ (by omega)
  have HPC := Lib.hid hPC
  have HP1 := Lib.hid hP1
  have HE0 := Lib.hid hE
  have HIR0 := Lib.hid hR0
  have HLV := Lib.hid (And.intro hlv hd)
  clear hPC hP1 hE hR0 hlv hd
  have HNN := Lib.hid (And.intro hFB hNN)
  have HC' : Hid (Calls Tryz.prog 133 #[.pointer (some ⟨P, 0, none⟩)] (w1.setCell ⟨P, 2, none⟩ (.int .i64 it1)) fun e w' => But P (w1.setCell ⟨P, 2, none⟩ (.int .i64 it1)) w' ∧ e = .returned (.tuple #[.int .u8 FB, .int .u64 NN, .int .i64 0]) ∧ ∃ j, AtP P j c b o l it1 w' ∧ r = l.drop j) := Lib.hid (by rw [hFB, hNN]; exact HC.out)
  have HNB := Lib.hid hnb
  clear HC hFB hNN hr hnb
  go_wp2_with fail
  refine HC'.out.mono ?_
  rintro e u ⟨hB, rfl, j0, hAu, hrj⟩
  have hn := (hB.block _ (lt_of_block HR9.out) hRP).trans HR9.out
  have HBU : Hid (But P w u) := Lib.hid ⟨hB.os.trans HB2.out.os, hB.tape.trans HB2.out.tape, hB.output.trans HB2.out.output, Nat.le_trans HB2.out.size hB.size, fun j hj hne => (hB.block j (Nat.lt_of_lt_of_le hj HB2.out.size) hne).trans (HB2.out.block j hj hne)⟩
  have HRU : Hid (BR (fun b => b ≠ P) u (some ⟨b, o, none⟩) l.length l) := Lib.hid (HR2.out.keep fun j hj hj2 => ⟨hB.block j hj2 hj, hj⟩)
  have HNU := Lib.hid hn
  have HAU := Lib.hid hAu
  have HRJ := Lib.hid hrj
  obtain ⟨r0, r1, r2, r3⟩ := cell_of4 HNU.out
  obtain ⟨q0, q1, q2, q3⟩ := frozen_of4 HNU.out
  clear hB hn x2 f2 hAu hrj
  generalize hBq : w.heap.size = B at *
  have hlv1 := HLV.out.1
  have hlv2 := HLV.out.2
  obtain ⟨lw, hlw⟩ : ∃ lw : Int, lw = lv + 1 := ⟨_, rfl⟩
  have hwl : IntKind.i64.wrap (lv + 1) = lw := by rw [hlw]; exact IntWalk.i64_in _ (by omega)
  have hlg : ¬ 8 ≤ lv := by omega
  have hlgb : decide (8 ≤ lv) = false := decide_eq_false hlg
  have HLW : Hid (lw = 8 - (d : Int)) := Lib.hid (by omega)
  clear hlw hlv1 hlv2
  have hP1 := pure_alloc u (.cells #[.int .i64 4, .int .u64 0, .slice none 0 0, .slice none 0 0] 26)
  have HX1 := Lib.hid (alloc_new u (.cells #[.int .i64 4, .int .u64 0, .slice none 0 0, .slice none 0 0] 26))
  have HAX := Lib.hid (Below.keep hP1 HAU.out.1 (lt_of_block HAU.out.1))
  have HNX := Lib.hid (Below.keep hP1 HNU.out (lt_of_block HNU.out))
  have HBX : Hid (But P w (u.alloc (.cells #[.int .i64 4, .int .u64 0, .slice none 0 0, .slice none 0 0] 26))) := Lib.hid ⟨hP1.os.trans HBU.out.os, hP1.tape.trans HBU.out.tape, hP1.output.trans HBU.out.output, Nat.le_trans HBU.out.size hP1.size, fun j hj hne => (hP1.block j (Nat.lt_of_lt_of_le hj HBU.out.size)).trans (HBU.out.block j hj hne)⟩
  have HF : Hid (it1 = 256 - ((255 - it.toNat : Nat) : Int)) := Lib.hid (by rw [HIT.out]; omega)
  have HPX : Hid (P < u.heap.size ∧ B < u.heap.size ∧ w.heap.size ≤ B ∧ P ≠ B) := Lib.hid ⟨lt_of_block HAU.out.1, lt_of_block HNU.out, by omega, fun e => hRP e.symm⟩
  clear hP1 r0 r1 r2 r3 q0 q1 q2 q3
  go_upto_region 34 with fail
  go_loopw [7] (fun q W => LR P c b o u.heap.size B l w d R q W) (fun q _ => (intOf q).toNat)
  case atStart => exact ⟨n, j0, 255 - it.toNat, [], _, by rw [HNN.out.2], HNB.out, ⟨⟨by rw [HAX.out, HF.out], HAU.out.2⟩, by simp; omega, HBX.out, HX1.out, OutI.nil _ _ _, HNX.out⟩, (It.pre_nil _).trans (by rw [← HRJ.out]; exact HIR0.out)⟩
  case round =>
    obtain ⟨m, j, f, es, vv, rfl, hml, hLS, hRR⟩ := hrel
    have HLS := Lib.hid hLS
    have HML := Lib.hid hml
    generalize hXq : u.heap.size = X at *
    clear hml hLS
    by_cases hm : 0 < (m : Int)
    · obtain ⟨m1, hm1⟩ : ∃ m1, m = m1 + 1 := ⟨m - 1, by omega⟩
      have hwm : IntKind.u64.wrap ((m : Int) - 1) = (m1 : Int) := by have := HML.out; rw [hm1]; show _ % 18446744073709551616 = _; omega
      rw [hm1] at hRR
      have HM1 := Lib.hid hm1
      have HRR := Lib.hid hRR
      have HCa := Lib.hid (HPC.out P j c b o l f _ lw wr HLS.out.at_ (HRW.out.sep HLS.out.but) hc hN rfl (by have := HLS.out.few; omega) HLW.out HP1.out (But.env HE0.out HLS.out.but HP1.out))
      clear hm1 hRR
      go_wp2_with fail
      refine HCa.out.mono ?_
      rintro e v ⟨hB9, h9⟩
      have HB9 := Lib.hid hB9
      have HNV := Lib.hid ((hB9.block B (lt_of_block HLS.out.res) hRP).trans HLS.out.res)
      have HBV : Hid (But P w v) := Lib.hid (but_trans HLS.out.but hB9)
      clear hB9 HCa
      cases hr3 : It.item d f (l.drop j) with
      | err er =>
        rw [hr3] at h9
        obtain rfl := h9
        have hRe := It.seqN_err (n := m1) hr3 (es.map (·.1))
        rw [HRR.out] at hRe
        have HRE := Lib.hid hRe
        clear hRe
        have her : er ≠ 0 := It.item_errs _ _ _ _ hr3
        have he : ¬ (er : Int) = 0 := by omega
        have heb : ((er : Int) != 0) = true := by simpa using he
        have hen : ¬ er = 0 := her
        have HX9 := Lib.hid (alloc_new v (.cells #[.int .i64 0, .int .u64 0, .slice none 0 0, .slice none 0 0] 26))
        have HD9 := Lib.hid (pure_alloc v (.cells #[.int .i64 0, .int .u64 0, .slice none 0 0, .slice none 0 0] 26))
        have HNZ := Lib.hid (Below.keep HD9.out HNV.out (lt_of_block HNV.out))
        have HBZ : Hid (But P w (v.alloc (.cells #[.int .i64 0, .int .u64 0, .slice none 0 0, .slice none 0 0] 26))) := Lib.hid ⟨HD9.out.os.trans HBV.out.os, HD9.out.tape.trans HBV.out.tape, HD9.out.output.trans HBV.out.output, Nat.le_trans HBV.out.size HD9.out.size, fun j hj hne => (HD9.out.block j (Nat.lt_of_lt_of_le hj HBV.out.size)).trans (HBV.out.block j hj hne)⟩
        obtain ⟨r0, r1, r2, r3⟩ := cell_of4 HNZ.out
        obtain ⟨q0, q1, q2, q3⟩ := frozen_of4 HNZ.out
        go_wp2_with fail
        clear r0 r1 r2 r3 q0 q1 q2 q3
        obtain ⟨W', hW', hp4, hs4, hb4⟩ := put4_all (W := (v.alloc (.cells #[.int .i64 0, .int .u64 0, .slice none 0 0, .slice none 0 0] 26))) (b := B) (HNZ.out) (.int .i64 0) (.int .u64 0) (.slice none 0 0) (.slice none 0 0); rw [hW']; clear hW'
        obtain ⟨g0, g1, g2, g3⟩ := cell_of4 hp4
        refine bodyPost_ret (v := .tuple #[.agg #[.int .i64 0, .int .u64 0, .slice none 0 0, .slice none 0 0], .int .i64 (er : Int)]) (by simp [results, Tryz.results106, go_sem, g0, g1, g2, g3]) rfl ?_
        have hz := hb4 0 (v.alloc (.cells #[.int .i64 0, .int .u64 0, .slice none 0 0, .slice none 0 0] 26)) (Below.refl 0 (v.alloc (.cells #[.int .i64 0, .int .u64 0, .slice none 0 0, .slice none 0 0] 26))) (Nat.zero_le _)
        have HBW : But P w W' := ⟨hz.os.trans HBZ.out.os, hz.tape.trans HBZ.out.tape, hz.output.trans HBZ.out.output, by have := HBZ.out.size; rw [hs4.1]; exact this, fun j hj hne => (hs4.2 j (by omega)).trans (HBZ.out.block j hj hne)⟩
        rw [HRE.out]
        exact ⟨HBW, rfl⟩
      | ok y f1 s1 =>
        rw [hr3] at h9
        obtain ⟨A, rfl, hIR, j1, hA1, hs1⟩ := h9
        have hRe := It.seqN_ok (n := m1) hr3 (es.map (·.1))
        rw [HRR.out, hs1] at hRe
        have HRE := Lib.hid hRe
        have hff := (It.item_takes hr3).2.1
        have P6 := pure_alloc v (.cells #[.int .i64 y.kind, .int .u64 (y.num : Int), .slice A.ab A.nb A.cb, .slice A.ai A.ni A.ci] 26)
        have HY6 := Lib.hid (alloc_new v (.cells #[.int .i64 y.kind, .int .u64 (y.num : Int), .slice A.ab A.nb A.cb, .slice A.ai A.ni A.ci] 26))
        obtain ⟨v7, W7, hrun, hLS7, v9, hX9⟩ := HLS.out.push HPX.out.1 HPX.out.2.1 HPX.out.2.2.1 HPX.out.2.2.2 hff HB9.out hA1 P6 ((hIR.imp fun q hq _ => hq).below P6)
        obtain ⟨a7, c7, e7⟩ := own_form hLS7.out.row
        obtain ⟨n7, hn7⟩ : ∃ n7, (es ++ [(y, A)]).length = n7 := ⟨_, rfl⟩
        rw [hn7] at e7
        subst e7
        clear hn7
        have HR := Lib.hid hrun
        have HX9 := Lib.hid hX9
        have hsz : (v.alloc (.cells #[.int .i64 y.kind, .int .u64 (y.num : Int), .slice A.ab A.nb A.cb, .slice A.ai A.ni A.ci] 26)).heap.size = v.heap.size + 1 := by simp
        have HX6 := Lib.hid (Below.keep P6 ((HB9.out.block X (lt_of_block HLS.out.blk) (by have := HPX.out.1; omega)).trans HLS.out.blk) (by have := lt_of_block HLS.out.blk; have := HB9.out.size; omega))
        rw [hsz] at HR
        have HLS7 := Lib.hid hLS7
        clear hRe hs1 hff P6 hrun hLS7 hX9 hA1 hIR hsz
        obtain ⟨y0, y1, y2, y3⟩ := cell_of4 HY6.out
        obtain ⟨x0, x1, x2, x3⟩ := cell_of4 HX6.out
        obtain ⟨z0, z1, z2, z3⟩ := cell_of4 HX9.out
        obtain ⟨p0, p1, p2, p3⟩ := frozen_of4 HX9.out
        go_wp2_with (at_builtin; refine wpList_app rfl _ _ 24 rfl rfl rfl HR.out ?_; clear HR)
        go_roundw
        case rel => exact ⟨m1, j1, f1, _, _, by go_num, by have := HML.out; have := HM1.out; omega, HLS7.out, by rw [List.map_append]; exact HRE.out.symm⟩
        case measure => have := HM1.out; simp [intOf]; omega
    · have hm0 : m = 0 := by omega
      subst hm0
      obtain ⟨la, lc, rfl⟩ := own_form HLS.out.out.row
      rw [It.seqN_zero] at hRR
      obtain ⟨hTL, _, hlc, hlcm⟩ := HLS.out.out.tl'
      generalize hL : es.length = L at *
      have hI4 : IR (fun q => X + 1 ≤ q) wr (.mk 4 0 [] (es.map (·.1))) ⟨none, 0, 0, la, L, lc⟩ := IR_iff.2 ⟨by show 0 < _; omega, ⟨BR.nil _ _ _, by simp, by simp⟩, hTL.imp fun q hq _ => (by rcases hq with h | h <;> exact h), hlc, hlcm⟩
      have HI4 := Lib.hid hI4
      have HRR := Lib.hid hRR
      clear hI4 hTL hRR hL
      obtain ⟨x0, x1, x2, x3⟩ := cell_of4 HLS.out.blk
      obtain ⟨r0, r1, r2, r3⟩ := cell_of4 HLS.out.res
      obtain ⟨q0, q1, q2, q3⟩ := frozen_of4 HLS.out.res
      go_wp2_with fail
      clear r0 r1 r2 r3 q0 q1 q2 q3
      obtain ⟨W', hW', hp4, hs4, hb4⟩ := put4_all (W := wr) (b := B) (HLS.out.res) (.int .i64 4) (.int .u64 0) (.slice none 0 0) (.slice la L lc); rw [hW']; clear hW'
      obtain ⟨g0, g1, g2, g3⟩ := cell_of4 hp4
      refine bodyPost_ret (v := .tuple #[.agg #[.int .i64 4, .int .u64 0, .slice none 0 0, .slice la L lc], .int .i64 0]) (by simp [results, Tryz.results106, go_sem, g0, g1, g2, g3]) rfl ?_
      have hz := hb4 0 wr (Below.refl 0 wr) (Nat.zero_le _)
      have HBW : But P w W' := ⟨hz.os.trans HLS.out.but.os, hz.tape.trans HLS.out.but.tape, hz.output.trans HLS.out.but.output, by have := HLS.out.but.size; rw [hs4.1]; exact this, fun j hj hne => (hs4.2 j (by omega)).trans (HLS.out.but.block j hj hne)⟩
      have hzz := HPX.out
      rw [← HRR.out]
      refine ⟨HBW, ⟨none, 0, 0, la, L, lc⟩, rfl, HI4.out.keep (fun q hq _ => ⟨hs4.2 q (by have h1 : X + 1 ≤ q := hq; omega), by have h1 : X + 1 ≤ q := hq; show w.heap.size ≤ q; omega⟩), j, ⟨(hs4.2 P hzz.2.2.2).trans HLS.out.at_.1, HLS.out.at_.2⟩, rfl⟩
end Go.Proofs.YtelefkkkccilaaaGreatDoor
