/- The parser's item 106: a tag. -/
import Derived.Test.YtelefkkkccilaaaGreatDoorZp
import Derived.Test.YtelefkkkccilaaaGreatDoorXp
set_option linter.unusedVariables false
set_option linter.unusedSimpArgs false
namespace Go.Proofs.YtelefkkkccilaaaGreatDoor
open Go.RowKit
set_option maxRecDepth 100000
set_option maxHeartbeats 8000000 in
theorem pitem_6 (P k c b o fb n : Nat) (l r : List UInt8) (it lv : Int) (w : World) (hA : AtP P k c b o l it w) (hR : BR (fun b => b ≠ P) w (some ⟨b, o, none⟩) l.length l) (hc : l.length ≤ c) (hN : l.length ≤ 4096) (hi : 0 ≤ it) (hi2 : it < 256) (hr : It.readHead (l.drop k) = .ok fb n r) (hfb : fb < 256) (hnb : n < 18446744073709551616) (h5n : fb / 32 = 6) (d : Nat) (hd : d < 8) (hlv : lv = 7 - (d : Int)) (hPC : ParC d) (hP1 : 1 < P) (hE : Env w) (R : It.PR It) (hR0 : It.item d (255 - it.toNat) r = R) (her : ∀ er, R = .err er → er ≠ 0) :
    Calls Tryz.prog 106 #[.pointer (some ⟨P, 0, none⟩), .int .i64 lv] w (ParP P c b o l w (R.map fun x => .mk 6 n [] [x])) := by
  have P0 := pure_alloc w (.cells #[.int .i64 0, .int .u64 0, .slice none 0 0, .slice none 0 0] 26)
  have N0 := alloc_new w (.cells #[.int .i64 0, .int .u64 0, .slice none 0 0, .slice none 0 0] 26)
  have hP1 := Below.keep P0 hA.1 (lt_of_block hA.1)
  have HK := hA.2
  have hPl := lt_of_block hA.1
  have x2 := cell_of_arr hP1 2
  have f2 : (w.alloc (.cells #[.int .i64 0, .int .u64 0, .slice none 0 0, .slice none 0 0] 26)).frozen? ⟨P, 2, none⟩ = false := by simp [World.frozen?, hP1]
  simp at x2
  have hit : ¬ it = 256 := by omega
  have hitb : (it == 256) = false := by simpa using hit
  obtain ⟨it1, hit1⟩ : ∃ it1, it1 = it + 1 := ⟨_, rfl⟩
  have hw : IntKind.i64.wrap (it + 1) = it1 := by rw [hit1]; exact IntWalk.i64_in _ (by omega)
  have hR1 := hR.below P0
  have HP0 := Lib.hid P0
  have HN0 := Lib.hid N0
  have HA1 := Lib.hid hP1
  have HR1 := Lib.hid hR1
  have HL := Lib.hid hPl
  clear hA hR P0 N0 hP1 hR1 hPl
  go_enter Tryz.func106, Tryz.ntmps106
  go_upto_region 1 with fail
  generalize hw1 : w.alloc (.cells #[.int .i64 0, .int .u64 0, .slice none 0 0, .slice none 0 0] 26) = w1 at *
  clear hw1
  have HA2 : Hid (AtP P k c b o l it1 (w1.setCell ⟨P, 2, none⟩ (.int .i64 it1))) := Lib.hid ⟨by have := set_arr HA1.out 2 (.int .i64 it1); simpa using this, HK⟩
  have HR2 : Hid (BR (fun b => b ≠ P) (w1.setCell ⟨P, 2, none⟩ (.int .i64 it1)) (some ⟨b, o, none⟩) l.length l) := Lib.hid (HR1.out.keep fun j hj _ => ⟨Below.heap_setCell _ _ _ _ hj, hj⟩)
  have HC := Lib.hid (phead_any P k c b o l it1 _ HA2.out HR2.out hc hN)
  have hRP : w.heap.size ≠ P := by have := HL.out; omega
  have HR9 : Hid ((w1.setCell ⟨P, 2, none⟩ (.int .i64 it1)).heap[w.heap.size]? = some (.cells #[.int .i64 0, .int .u64 0, .slice none 0 0, .slice none 0 0] 26 (0, 0))) := Lib.hid ((Below.heap_setCell _ _ _ _ hRP).trans HN0.out)
  have HB2 : Hid (But P w (w1.setCell ⟨P, 2, none⟩ (.int .i64 it1))) := Lib.hid ⟨HP0.out.os, HP0.out.tape, HP0.out.output, by have := HP0.out.size; simpa [World.setCell] using this, fun j hj hne => (Below.heap_setCell _ _ _ _ (by show j ≠ P; exact hne)).trans (HP0.out.block j hj)⟩
  rw [hr] at HC
  have HIT := Lib.hid hit1
  clear hit1
  obtain ⟨FB, hFB⟩ : ∃ FB : Int, FB = fb := ⟨_, rfl⟩
  obtain ⟨NN, hNN⟩ : ∃ NN : Int, NN = n := ⟨_, rfl⟩
  have h5 : FB / 32 = 6 := by rw [hFB]; omega
  have wk1 : IntKind.u8.wrap 6 = 6 := by show 6 % 256 = 6; omega
  have wk2 : IntKind.i64.wrap 6 = 6 := IntWalk.i64_in _ (by omega)
  have HPC := Lib.hid hPC
  have HP1 := Lib.hid hP1
  have HE0 := Lib.hid hE
  have HER := Lib.hid her
  have HIR0 := Lib.hid hR0
  have HLV := Lib.hid (And.intro hlv hd)
  clear hPC hP1 hE her hR0 hlv hd
  have HNN := Lib.hid (And.intro hFB hNN)
  have HC' : Hid (Calls Tryz.prog 133 #[.pointer (some ⟨P, 0, none⟩)] (w1.setCell ⟨P, 2, none⟩ (.int .i64 it1)) fun e w' => But P (w1.setCell ⟨P, 2, none⟩ (.int .i64 it1)) w' ∧ e = .returned (.tuple #[.int .u8 FB, .int .u64 NN, .int .i64 0]) ∧ ∃ j, AtP P j c b o l it1 w' ∧ r = l.drop j) := Lib.hid (by rw [hFB, hNN]; exact HC.out)
  have HNB := Lib.hid hnb
  clear HC hFB hNN hr hnb
  go_wp2_with fail
  refine HC'.out.mono ?_
  rintro e u ⟨hB, rfl, j0, hAu, hrj⟩
  have hn := (hB.block _ (lt_of_block HR9.out) hRP).trans HR9.out
  have HBU : Hid (But P w u) := Lib.hid ⟨hB.os.trans HB2.out.os, hB.tape.trans HB2.out.tape, hB.output.trans HB2.out.output, Nat.le_trans HB2.out.size hB.size, fun j hj hne => (hB.block j (Nat.lt_of_lt_of_le hj HB2.out.size) hne).trans (HB2.out.block j hj hne)⟩
  have HRU : Hid (BR (fun b => b ≠ P) u (some ⟨b, o, none⟩) l.length l) := Lib.hid (HR2.out.keep fun j hj hj2 => ⟨hB.block j hj2 hj, hj⟩)
  have HNU := Lib.hid hn
  have HAU := Lib.hid hAu
  have HRJ := Lib.hid hrj
  obtain ⟨r0, r1, r2, r3⟩ := cell_of4 HNU.out
  obtain ⟨q0, q1, q2, q3⟩ := frozen_of4 HNU.out
  clear hB hn x2 f2 hAu hrj
  generalize hBq : w.heap.size = B at *
  have HF : Hid (it1 = 256 - ((255 - it.toNat : Nat) : Int)) := Lib.hid (by rw [HIT.out]; omega)
  have hlv1 := HLV.out.1
  have hlv2 := HLV.out.2
  obtain ⟨lw, hlw⟩ : ∃ lw : Int, lw = lv + 1 := ⟨_, rfl⟩
  have hwl : IntKind.i64.wrap (lv + 1) = lw := by rw [hlw]; exact IntWalk.i64_in _ (by omega)
  have hlg : ¬ 8 ≤ lv := by omega
  have hlgb : decide (8 ≤ lv) = false := decide_eq_false hlg
  have HS := Lib.hid (HPC.out P j0 c b o l (255 - it.toNat) it1 lw u HAU.out HRU.out hc hN HF.out (by omega) (by omega) HP1.out (But.env HE0.out HBU.out HP1.out))
  rw [← HRJ.out, HIR0.out] at HS
  clear hlw hlv1 hlv2
  go_wp2_with fail
  refine HS.out.mono ?_
  rintro e v ⟨hB9, h9⟩
  have HB9 := Lib.hid hB9
  have HNV := Lib.hid ((hB9.block B (lt_of_block HNU.out) hRP).trans HNU.out)
  have HBV : Hid (But P w v) := Lib.hid ⟨hB9.os.trans HBU.out.os, hB9.tape.trans HBU.out.tape, hB9.output.trans HBU.out.output, Nat.le_trans HBU.out.size hB9.size, fun j hj hne => (hB9.block j (Nat.lt_of_lt_of_le hj HBU.out.size) hne).trans (HBU.out.block j hj hne)⟩
  clear hB9 r0 r1 r2 r3 q0 q1 q2 q3 HS
  cases R with
  | err er =>
    obtain rfl := h9
    have her : er ≠ 0 := HER.out er rfl
    have he : ¬ (er : Int) = 0 := by omega
    have heb : ((er : Int) != 0) = true := by simpa using he
    have hen : ¬ er = 0 := her
    have HX9 := Lib.hid (alloc_new v (.cells #[.int .i64 0, .int .u64 0, .slice none 0 0, .slice none 0 0] 26))
    have HD9 := Lib.hid (pure_alloc v (.cells #[.int .i64 0, .int .u64 0, .slice none 0 0, .slice none 0 0] 26))
    have HNZ := Lib.hid (Below.keep HD9.out HNV.out (lt_of_block HNV.out))
    have HBZ : Hid (But P w (v.alloc (.cells #[.int .i64 0, .int .u64 0, .slice none 0 0, .slice none 0 0] 26))) := Lib.hid ⟨HD9.out.os.trans HBV.out.os, HD9.out.tape.trans HBV.out.tape, HD9.out.output.trans HBV.out.output, Nat.le_trans HBV.out.size HD9.out.size, fun j hj hne => (HD9.out.block j (Nat.lt_of_lt_of_le hj HBV.out.size)).trans (HBV.out.block j hj hne)⟩
    obtain ⟨r0, r1, r2, r3⟩ := cell_of4 HNZ.out
    obtain ⟨q0, q1, q2, q3⟩ := frozen_of4 HNZ.out
    go_wp2_with fail
    clear r0 r1 r2 r3 q0 q1 q2 q3
    obtain ⟨W', hW', hp4, hs4, hb4⟩ := put4_all (W := (v.alloc (.cells #[.int .i64 0, .int .u64 0, .slice none 0 0, .slice none 0 0] 26))) (b := B) (HNZ.out) (.int .i64 0) (.int .u64 0) (.slice none 0 0) (.slice none 0 0); rw [hW']; clear hW'
    obtain ⟨g0, g1, g2, g3⟩ := cell_of4 hp4
    refine bodyPost_ret (v := .tuple #[.agg #[.int .i64 0, .int .u64 0, .slice none 0 0, .slice none 0 0], .int .i64 (er : Int)]) (by simp [results, Tryz.results106, go_sem, g0, g1, g2, g3]) rfl ?_
    have hz := hb4 0 (v.alloc (.cells #[.int .i64 0, .int .u64 0, .slice none 0 0, .slice none 0 0] 26)) (Below.refl 0 (v.alloc (.cells #[.int .i64 0, .int .u64 0, .slice none 0 0, .slice none 0 0] 26))) (Nat.zero_le _)
    have HBW : But P w W' := ⟨hz.os.trans HBZ.out.os, hz.tape.trans HBZ.out.tape, hz.output.trans HBZ.out.output, by have := HBZ.out.size; rw [hs4.1]; exact this, fun j hj hne => (hs4.2 j (by omega)).trans (HBZ.out.block j hj hne)⟩
    exact ⟨HBW, rfl⟩
  | ok x f1 s1 =>
    obtain ⟨A, rfl, hIR, j1, hA1, hs1⟩ := h9
    have HIR := Lib.hid hIR
    have HA9 := Lib.hid hA1
    have HS1 := Lib.hid hs1
    clear hIR hA1 hs1
    have HX9 := Lib.hid (alloc_new v (.cells #[.int .i64 x.kind, .int .u64 (x.num : Int), .slice A.ab A.nb A.cb, .slice A.ai A.ni A.ci] 26))
    have HD9 := Lib.hid (pure_alloc v (.cells #[.int .i64 x.kind, .int .u64 (x.num : Int), .slice A.ab A.nb A.cb, .slice A.ai A.ni A.ci] 26))
    have HNZ := Lib.hid (Below.keep HD9.out HNV.out (lt_of_block HNV.out))
    have HBZ : Hid (But P w (v.alloc (.cells #[.int .i64 x.kind, .int .u64 (x.num : Int), .slice A.ab A.nb A.cb, .slice A.ai A.ni A.ci] 26))) := Lib.hid ⟨HD9.out.os.trans HBV.out.os, HD9.out.tape.trans HBV.out.tape, HD9.out.output.trans HBV.out.output, Nat.le_trans HBV.out.size HD9.out.size, fun j hj hne => (HD9.out.block j (Nat.lt_of_lt_of_le hj HBV.out.size)).trans (HBV.out.block j hj hne)⟩
    have hsz : (v.alloc (.cells #[.int .i64 x.kind, .int .u64 (x.num : Int), .slice A.ab A.nb A.cb, .slice A.ai A.ni A.ci] 26)).heap.size = v.heap.size + 1 := by simp
    have P4 := pure_alloc (v.alloc (.cells #[.int .i64 x.kind, .int .u64 (x.num : Int), .slice A.ab A.nb A.cb, .slice A.ai A.ni A.ci] 26)) (.cells #[.int .i64 x.kind, .int .u64 (x.num : Int), .slice A.ab A.nb A.cb, .slice A.ai A.ni A.ci] 26)
    have N4 := alloc_new (v.alloc (.cells #[.int .i64 x.kind, .int .u64 (x.num : Int), .slice A.ab A.nb A.cb, .slice A.ai A.ni A.ci] 26)) (.cells #[.int .i64 x.kind, .int .u64 (x.num : Int), .slice A.ab A.nb A.cb, .slice A.ai A.ni A.ci] 26)
    rw [hsz] at N4
    have hvB := lt_of_block HNV.out
    have hvu := lt_of_block HNU.out
    have hvz := HD9.out.size
    have huv := HB9.out.size
    have hI4 : IR (fun q => B + 1 ≤ q) ((v.alloc (.cells #[.int .i64 x.kind, .int .u64 (x.num : Int), .slice A.ab A.nb A.cb, .slice A.ai A.ni A.ci] 26)).alloc (.cells #[.int .i64 x.kind, .int .u64 (x.num : Int), .slice A.ab A.nb A.cb, .slice A.ai A.ni A.ci] 26)) (.mk 6 n [] [x]) ⟨none, 0, 0, some ⟨v.heap.size + 1, 0, none⟩, 1, 1⟩ := IR_iff.2 ⟨HNB.out, ⟨BR.nil _ _ _, by simp, by simp⟩, TL.one N4 (by show B + 1 ≤ v.heap.size + 1; omega) (((HIR.out.below HD9.out).imp fun q hq _ => by have h1 : u.heap.size ≤ q := hq; omega).below P4), by simp, by simp⟩
    have HN4 := Lib.hid (Below.keep P4 HNZ.out (lt_of_block HNZ.out))
    have HI4 := Lib.hid hI4
    have HA4 := Lib.hid (Below.keep P4 (Below.keep HD9.out HA9.out.1 (lt_of_block HA9.out.1)) (lt_of_block (Below.keep HD9.out HA9.out.1 (lt_of_block HA9.out.1))))
    have HB4 : Hid (But P w ((v.alloc (.cells #[.int .i64 x.kind, .int .u64 (x.num : Int), .slice A.ab A.nb A.cb, .slice A.ai A.ni A.ci] 26)).alloc (.cells #[.int .i64 x.kind, .int .u64 (x.num : Int), .slice A.ab A.nb A.cb, .slice A.ai A.ni A.ci] 26))) := Lib.hid ⟨P4.os.trans HBZ.out.os, P4.tape.trans HBZ.out.tape, P4.output.trans HBZ.out.output, Nat.le_trans HBZ.out.size P4.size, fun j hj hne => (P4.block j (Nat.lt_of_lt_of_le hj HBZ.out.size)).trans (HBZ.out.block j hj hne)⟩
    clear hsz P4 N4 hI4 hvB hvu hvz huv
    obtain ⟨x0, x1, x2, x3⟩ := cell_of4 HX9.out
    obtain ⟨r0, r1, r2, r3⟩ := cell_of4 HN4.out
    obtain ⟨q0, q1, q2, q3⟩ := frozen_of4 HN4.out
    go_wp2_with fail
    clear r0 r1 r2 r3 q0 q1 q2 q3
    obtain ⟨W', hW', hp4, hs4, hb4⟩ := put4_all (W := ((v.alloc (.cells #[.int .i64 x.kind, .int .u64 (x.num : Int), .slice A.ab A.nb A.cb, .slice A.ai A.ni A.ci] 26)).alloc (.cells #[.int .i64 x.kind, .int .u64 (x.num : Int), .slice A.ab A.nb A.cb, .slice A.ai A.ni A.ci] 26))) (b := B) (HN4.out) (.int .i64 6) (.int .u64 NN) (.slice none 0 0) (.slice (some ⟨v.heap.size + 1, 0, none⟩) 1 1); rw [hW']; clear hW'
    obtain ⟨g0, g1, g2, g3⟩ := cell_of4 hp4
    refine bodyPost_ret (v := .tuple #[.agg #[.int .i64 6, .int .u64 NN, .slice none 0 0, .slice (some ⟨v.heap.size + 1, 0, none⟩) 1 1], .int .i64 0]) (by simp [results, Tryz.results106, go_sem, g0, g1, g2, g3]) rfl ?_
    have hz := hb4 0 ((v.alloc (.cells #[.int .i64 x.kind, .int .u64 (x.num : Int), .slice A.ab A.nb A.cb, .slice A.ai A.ni A.ci] 26)).alloc (.cells #[.int .i64 x.kind, .int .u64 (x.num : Int), .slice A.ab A.nb A.cb, .slice A.ai A.ni A.ci] 26)) (Below.refl 0 ((v.alloc (.cells #[.int .i64 x.kind, .int .u64 (x.num : Int), .slice A.ab A.nb A.cb, .slice A.ai A.ni A.ci] 26)).alloc (.cells #[.int .i64 x.kind, .int .u64 (x.num : Int), .slice A.ab A.nb A.cb, .slice A.ai A.ni A.ci] 26))) (Nat.zero_le _)
    have HBW : But P w W' := ⟨hz.os.trans HB4.out.os, hz.tape.trans HB4.out.tape, hz.output.trans HB4.out.output, by have := HB4.out.size; rw [hs4.1]; exact this, fun j hj hne => (hs4.2 j (by omega)).trans (HB4.out.block j hj hne)⟩
    refine ⟨HBW, ⟨none, 0, 0, some ⟨v.heap.size + 1, 0, none⟩, 1, 1⟩, ?_, HI4.out.keep (fun j hj _ => ⟨hs4.2 j (by have h1 : B + 1 ≤ j := hj; omega), by have h1 : B + 1 ≤ j := hj; show w.heap.size ≤ j; omega⟩), j1, ⟨(hs4.2 P (by omega)).trans HA4.out, HA9.out.2⟩, HS1.out⟩
    rw [HNN.out.2]; rfl
end Go.Proofs.YtelefkkkccilaaaGreatDoor
