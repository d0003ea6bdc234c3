/- The parser's item 106: the contract, and the ways with no items inside. -/
import Derived.Test.YtelefkkkccilaaaGreatDoorZm
import Derived.Test.YtelefkkkccilaaaGreatDoorPi
import Derived.Test.YtelefkkkccilaaaGreatDoorLC
import Derived.Test.YtelefkkkccilaaaGreatDoorLL
import Derived.Test.YtelefkkkccilaaaGreatDoorLM
set_option linter.unusedVariables false
set_option linter.unusedSimpArgs false
namespace Go.Proofs.YtelefkkkccilaaaGreatDoor
open Go.RowKit
set_option maxRecDepth 100000
def NoItem (er : Nat) (e : Ending) : Prop := e = .returned (.tuple #[.agg #[.int .i64 0, .int .u64 0, .slice none 0 0, .slice none 0 0], .int .i64 (er : Int)])
def ParP (P c b o : Nat) (l : List UInt8) (w : World) (r : It.PR It) (e : Ending) (w' : World) : Prop := But P w w' ∧ match r with
  | .err er => NoItem er e
  | .ok x f s => ∃ A : Ad, e = .returned (.tuple #[.agg #[.int .i64 x.kind, .int .u64 (x.num : Int), .slice A.ab A.nb A.cb, .slice A.ai A.ni A.ci], .int .i64 0]) ∧ IR (fun j => w.heap.size ≤ j) w' x A ∧ ∃ j, AtP P j c b o l (256 - (f : Int)) w' ∧ s = l.drop j
def ParC (d : Nat) : Prop := ∀ (P k c b o : Nat) (l : List UInt8) (f : Nat) (it lv : Int) (w : World), AtP P k c b o l it w → BR (fun j => j ≠ P) w (some ⟨b, o, none⟩) l.length l → l.length ≤ c → l.length ≤ 4096 → it = 256 - (f : Int) → f ≤ 256 → lv = 8 - (d : Int) → 1 < P → Env w →
  Calls Tryz.prog 106 #[.pointer (some ⟨P, 0, none⟩), .int .i64 lv] w (ParP P c b o l w (It.item d f (l.drop k)))
theorem item_zero (d : Nat) (s : List UInt8) : It.item d 0 s = .err 8 := by cases d <;> rfl
theorem item_hd {d f er : Nat} {s : List UInt8} (h : It.readHead s = .err er) : It.item d (f + 1) s = .err er := by
  cases d <;> (unfold It.item It.step; simp only [h])
def ofO (r : Option It) (f : Nat) (s : List UInt8) : It.PR It := match r with
  | some x => .ok x f s
  | .none => .err 4
set_option maxHeartbeats 8000000 in
theorem pitem_hd (P k c b o er : Nat) (l : List UInt8) (it lv : Int) (w : World) (hA : AtP P k c b o l it w) (hR : BR (fun b => b ≠ P) w (some ⟨b, o, none⟩) l.length l) (hc : l.length ≤ c) (hN : l.length ≤ 4096) (hi : 0 ≤ it) (hi2 : it < 256) (hr : It.readHead (l.drop k) = .err er) (h0 : er ≠ 0) :
    Calls Tryz.prog 106 #[.pointer (some ⟨P, 0, none⟩), .int .i64 lv] w fun e w' => But P w w' ∧ NoItem er e := by
  have P0 := pure_alloc w (.cells #[.int .i64 0, .int .u64 0, .slice none 0 0, .slice none 0 0] 26)
  have N0 := alloc_new w (.cells #[.int .i64 0, .int .u64 0, .slice none 0 0, .slice none 0 0] 26)
  have hP1 := Below.keep P0 hA.1 (lt_of_block hA.1)
  have HK := hA.2
  have hPl := lt_of_block hA.1
  have x2 := cell_of_arr hP1 2
  have f2 : (w.alloc (.cells #[.int .i64 0, .int .u64 0, .slice none 0 0, .slice none 0 0] 26)).frozen? ⟨P, 2, none⟩ = false := by simp [World.frozen?, hP1]
  simp at x2
  have hit : ¬ it = 256 := by omega
  have hitb : (it == 256) = false := by simpa using hit
  obtain ⟨it1, hit1⟩ : ∃ it1, it1 = it + 1 := ⟨_, rfl⟩
  have hw : IntKind.i64.wrap (it + 1) = it1 := by rw [hit1]; exact IntWalk.i64_in _ (by omega)
  have hR1 := hR.below P0
  have HP0 := Lib.hid P0
  have HN0 := Lib.hid N0
  have HA1 := Lib.hid hP1
  have HR1 := Lib.hid hR1
  have HL := Lib.hid hPl
  clear hA hR P0 N0 hP1 hR1 hPl
  go_enter Tryz.func106, Tryz.ntmps106
  go_upto_region 1 with fail
  generalize hw1 : w.alloc (.cells #[.int .i64 0, .int .u64 0, .slice none 0 0, .slice none 0 0] 26) = w1 at *
  clear hw1
  have HA2 : Hid (AtP P k c b o l it1 (w1.setCell ⟨P, 2, none⟩ (.int .i64 it1))) := Lib.hid ⟨by have := set_arr HA1.out 2 (.int .i64 it1); simpa using this, HK⟩
  have HR2 : Hid (BR (fun b => b ≠ P) (w1.setCell ⟨P, 2, none⟩ (.int .i64 it1)) (some ⟨b, o, none⟩) l.length l) := Lib.hid (HR1.out.keep fun j hj _ => ⟨Below.heap_setCell _ _ _ _ hj, hj⟩)
  have HC := Lib.hid (phead_any P k c b o l it1 _ HA2.out HR2.out hc hN)
  have hRP : w.heap.size ≠ P := by have := HL.out; omega
  have HR9 : Hid ((w1.setCell ⟨P, 2, none⟩ (.int .i64 it1)).heap[w.heap.size]? = some (.cells #[.int .i64 0, .int .u64 0, .slice none 0 0, .slice none 0 0] 26 (0, 0))) := Lib.hid ((Below.heap_setCell _ _ _ _ hRP).trans HN0.out)
  have HB2 : Hid (But P w (w1.setCell ⟨P, 2, none⟩ (.int .i64 it1))) := Lib.hid ⟨HP0.out.os, HP0.out.tape, HP0.out.output, by have := HP0.out.size; simpa [World.setCell] using this, fun j hj hne => (Below.heap_setCell _ _ _ _ (by show j ≠ P; exact hne)).trans (HP0.out.block j hj)⟩
  rw [hr] at HC
  clear hit1
  go_wp2_with fail
  refine HC.out.mono ?_
  rintro e u ⟨hB, rfl, _⟩
  have hn := (hB.block _ (lt_of_block HR9.out) hRP).trans HR9.out
  have HBU : Hid (But P w u) := Lib.hid ⟨hB.os.trans HB2.out.os, hB.tape.trans HB2.out.tape, hB.output.trans HB2.out.output, Nat.le_trans HB2.out.size hB.size, fun j hj hne => (hB.block j (Nat.lt_of_lt_of_le hj HB2.out.size) hne).trans (HB2.out.block j hj hne)⟩
  have HNU := Lib.hid hn
  obtain ⟨r0, r1, r2, r3⟩ := cell_of4 HNU.out
  obtain ⟨q0, q1, q2, q3⟩ := frozen_of4 HNU.out
  have he : ¬ (er : Int) = 0 := by omega
  have heb : ((er : Int) != 0) = true := by simpa using he
  have hen : ¬ er = 0 := h0
  clear hB hn x2 f2
  generalize hBq : w.heap.size = B at *
  go_wp2_with fail
  clear r0 r1 r2 r3 q0 q1 q2 q3
  obtain ⟨W', hW', hp4, hs4, hb4⟩ := put4_all (W := u) (b := B) (HNU.out) (.int .i64 0) (.int .u64 0) (.slice none 0 0) (.slice none 0 0); rw [hW']; clear hW'
  obtain ⟨g0, g1, g2, g3⟩ := cell_of4 hp4
  refine bodyPost_ret (v := .tuple #[.agg #[.int .i64 0, .int .u64 0, .slice none 0 0, .slice none 0 0], .int .i64 (er : Int)]) (by simp [results, Tryz.results106, go_sem, g0, g1, g2, g3]) rfl ?_
  have hz := hb4 0 u (Below.refl 0 u) (Nat.zero_le _)
  exact ⟨⟨hz.os.trans HBU.out.os, hz.tape.trans HBU.out.tape, hz.output.trans HBU.out.output, by have := HBU.out.size; rw [hs4.1]; exact this, fun j hj hne => (hs4.2 j (by omega)).trans (HBU.out.block j hj hne)⟩, rfl⟩
set_option maxHeartbeats 8000000 in
theorem pitem_0 (P k c b o fb n : Nat) (l r : List UInt8) (it lv : Int) (w : World) (hA : AtP P k c b o l it w) (hR : BR (fun b => b ≠ P) w (some ⟨b, o, none⟩) l.length l) (hc : l.length ≤ c) (hN : l.length ≤ 4096) (hi : 0 ≤ it) (hi2 : it < 256) (hr : It.readHead (l.drop k) = .ok fb n r) (hfb : fb < 256) (hnb : n < 18446744073709551616) (h5n : fb / 32 = 0) :
    Calls Tryz.prog 106 #[.pointer (some ⟨P, 0, none⟩), .int .i64 lv] w (ParP P c b o l w (.ok (.mk 0 n [] []) (255 - it.toNat) r)) := by
  have P0 := pure_alloc w (.cells #[.int .i64 0, .int .u64 0, .slice none 0 0, .slice none 0 0] 26)
  have N0 := alloc_new w (.cells #[.int .i64 0, .int .u64 0, .slice none 0 0, .slice none 0 0] 26)
  have hP1 := Below.keep P0 hA.1 (lt_of_block hA.1)
  have HK := hA.2
  have hPl := lt_of_block hA.1
  have x2 := cell_of_arr hP1 2
  have f2 : (w.alloc (.cells #[.int .i64 0, .int .u64 0, .slice none 0 0, .slice none 0 0] 26)).frozen? ⟨P, 2, none⟩ = false := by simp [World.frozen?, hP1]
  simp at x2
  have hit : ¬ it = 256 := by omega
  have hitb : (it == 256) = false := by simpa using hit
  obtain ⟨it1, hit1⟩ : ∃ it1, it1 = it + 1 := ⟨_, rfl⟩
  have hw : IntKind.i64.wrap (it + 1) = it1 := by rw [hit1]; exact IntWalk.i64_in _ (by omega)
  have hR1 := hR.below P0
  have HP0 := Lib.hid P0
  have HN0 := Lib.hid N0
  have HA1 := Lib.hid hP1
  have HR1 := Lib.hid hR1
  have HL := Lib.hid hPl
  clear hA hR P0 N0 hP1 hR1 hPl
  go_enter Tryz.func106, Tryz.ntmps106
  go_upto_region 1 with fail
  generalize hw1 : w.alloc (.cells #[.int .i64 0, .int .u64 0, .slice none 0 0, .slice none 0 0] 26) = w1 at *
  clear hw1
  have HA2 : Hid (AtP P k c b o l it1 (w1.setCell ⟨P, 2, none⟩ (.int .i64 it1))) := Lib.hid ⟨by have := set_arr HA1.out 2 (.int .i64 it1); simpa using this, HK⟩
  have HR2 : Hid (BR (fun b => b ≠ P) (w1.setCell ⟨P, 2, none⟩ (.int .i64 it1)) (some ⟨b, o, none⟩) l.length l) := Lib.hid (HR1.out.keep fun j hj _ => ⟨Below.heap_setCell _ _ _ _ hj, hj⟩)
  have HC := Lib.hid (phead_any P k c b o l it1 _ HA2.out HR2.out hc hN)
  have hRP : w.heap.size ≠ P := by have := HL.out; omega
  have HR9 : Hid ((w1.setCell ⟨P, 2, none⟩ (.int .i64 it1)).heap[w.heap.size]? = some (.cells #[.int .i64 0, .int .u64 0, .slice none 0 0, .slice none 0 0] 26 (0, 0))) := Lib.hid ((Below.heap_setCell _ _ _ _ hRP).trans HN0.out)
  have HB2 : Hid (But P w (w1.setCell ⟨P, 2, none⟩ (.int .i64 it1))) := Lib.hid ⟨HP0.out.os, HP0.out.tape, HP0.out.output, by have := HP0.out.size; simpa [World.setCell] using this, fun j hj hne => (Below.heap_setCell _ _ _ _ (by show j ≠ P; exact hne)).trans (HP0.out.block j hj)⟩
  rw [hr] at HC
  have HIT := Lib.hid hit1
  clear hit1
  obtain ⟨FB, hFB⟩ : ∃ FB : Int, FB = fb := ⟨_, rfl⟩
  obtain ⟨NN, hNN⟩ : ∃ NN : Int, NN = n := ⟨_, rfl⟩
  have h5 : FB / 32 = 0 := by rw [hFB]; omega
  have wk1 : IntKind.u8.wrap 0 = 0 := by show 0 % 256 = 0; omega
  have wk2 : IntKind.i64.wrap 0 = 0 := IntWalk.i64_in _ (by omega)
  have HNN := Lib.hid (And.intro hFB hNN)
  have HC' : Hid (Calls Tryz.prog 133 #[.pointer (some ⟨P, 0, none⟩)] (w1.setCell ⟨P, 2, none⟩ (.int .i64 it1)) fun e w' => But P (w1.setCell ⟨P, 2, none⟩ (.int .i64 it1)) w' ∧ e = .returned (.tuple #[.int .u8 FB, .int .u64 NN, .int .i64 0]) ∧ ∃ j, AtP P j c b o l it1 w' ∧ r = l.drop j) := Lib.hid (by rw [hFB, hNN]; exact HC.out)
  have HNB := Lib.hid hnb
  clear HC hFB hNN hr hnb
  go_wp2_with fail
  refine HC'.out.mono ?_
  rintro e u ⟨hB, rfl, j0, hAu, hrj⟩
  have hn := (hB.block _ (lt_of_block HR9.out) hRP).trans HR9.out
  have HBU : Hid (But P w u) := Lib.hid ⟨hB.os.trans HB2.out.os, hB.tape.trans HB2.out.tape, hB.output.trans HB2.out.output, Nat.le_trans HB2.out.size hB.size, fun j hj hne => (hB.block j (Nat.lt_of_lt_of_le hj HB2.out.size) hne).trans (HB2.out.block j hj hne)⟩
  have HRU : Hid (BR (fun b => b ≠ P) u (some ⟨b, o, none⟩) l.length l) := Lib.hid (HR2.out.keep fun j hj hj2 => ⟨hB.block j hj2 hj, hj⟩)
  have HNU := Lib.hid hn
  have HAU := Lib.hid hAu
  have HRJ := Lib.hid hrj
  obtain ⟨r0, r1, r2, r3⟩ := cell_of4 HNU.out
  obtain ⟨q0, q1, q2, q3⟩ := frozen_of4 HNU.out
  clear hB hn x2 f2 hAu hrj
  generalize hBq : w.heap.size = B at *
  go_wp2_with fail
  clear r0 r1 r2 r3 q0 q1 q2 q3
  obtain ⟨W', hW', hp4, hs4, hb4⟩ := put4_all (W := u) (b := B) (HNU.out) (.int .i64 0) (.int .u64 NN) (.slice none 0 0) (.slice none 0 0); rw [hW']; clear hW'
  obtain ⟨g0, g1, g2, g3⟩ := cell_of4 hp4
  refine bodyPost_ret (v := .tuple #[.agg #[.int .i64 0, .int .u64 NN, .slice none 0 0, .slice none 0 0], .int .i64 0]) (by simp [results, Tryz.results106, go_sem, g0, g1, g2, g3]) rfl ?_
  have hz := hb4 0 u (Below.refl 0 u) (Nat.zero_le _)
  have HBW : But P w W' := ⟨hz.os.trans HBU.out.os, hz.tape.trans HBU.out.tape, hz.output.trans HBU.out.output, by have := HBU.out.size; rw [hs4.1]; exact this, fun j hj hne => (hs4.2 j (by omega)).trans (HBU.out.block j hj hne)⟩
  have hq : it1 = 256 - ((255 - it.toNat : Nat) : Int) := by rw [HIT.out]; omega
  refine ⟨HBW, ⟨none, 0, 0, none, 0, 0⟩, ?_, IR.flat _ _ HNB.out, j0, ⟨(hs4.2 P (by omega)).trans (by rw [HAU.out.1, hq]), HAU.out.2⟩, HRJ.out⟩
  rw [HNN.out.2]; rfl
set_option maxHeartbeats 8000000 in
theorem pitem_1 (P k c b o fb n : Nat) (l r : List UInt8) (it lv : Int) (w : World) (hA : AtP P k c b o l it w) (hR : BR (fun b => b ≠ P) w (some ⟨b, o, none⟩) l.length l) (hc : l.length ≤ c) (hN : l.length ≤ 4096) (hi : 0 ≤ it) (hi2 : it < 256) (hr : It.readHead (l.drop k) = .ok fb n r) (hfb : fb < 256) (hnb : n < 18446744073709551616) (h5n : fb / 32 = 1) :
    Calls Tryz.prog 106 #[.pointer (some ⟨P, 0, none⟩), .int .i64 lv] w (ParP P c b o l w (.ok (.mk 1 n [] []) (255 - it.toNat) r)) := by
  have P0 := pure_alloc w (.cells #[.int .i64 0, .int .u64 0, .slice none 0 0, .slice none 0 0] 26)
  have N0 := alloc_new w (.cells #[.int .i64 0, .int .u64 0, .slice none 0 0, .slice none 0 0] 26)
  have hP1 := Below.keep P0 hA.1 (lt_of_block hA.1)
  have HK := hA.2
  have hPl := lt_of_block hA.1
  have x2 := cell_of_arr hP1 2
  have f2 : (w.alloc (.cells #[.int .i64 0, .int .u64 0, .slice none 0 0, .slice none 0 0] 26)).frozen? ⟨P, 2, none⟩ = false := by simp [World.frozen?, hP1]
  simp at x2
  have hit : ¬ it = 256 := by omega
  have hitb : (it == 256) = false := by simpa using hit
  obtain ⟨it1, hit1⟩ : ∃ it1, it1 = it + 1 := ⟨_, rfl⟩
  have hw : IntKind.i64.wrap (it + 1) = it1 := by rw [hit1]; exact IntWalk.i64_in _ (by omega)
  have hR1 := hR.below P0
  have HP0 := Lib.hid P0
  have HN0 := Lib.hid N0
  have HA1 := Lib.hid hP1
  have HR1 := Lib.hid hR1
  have HL := Lib.hid hPl
  clear hA hR P0 N0 hP1 hR1 hPl
  go_enter Tryz.func106, Tryz.ntmps106
  go_upto_region 1 with fail
  generalize hw1 : w.alloc (.cells #[.int .i64 0, .int .u64 0, .slice none 0 0, .slice none 0 0] 26) = w1 at *
  clear hw1
  have HA2 : Hid (AtP P k c b o l it1 (w1.setCell ⟨P, 2, none⟩ (.int .i64 it1))) := Lib.hid ⟨by have := set_arr HA1.out 2 (.int .i64 it1); simpa using this, HK⟩
  have HR2 : Hid (BR (fun b => b ≠ P) (w1.setCell ⟨P, 2, none⟩ (.int .i64 it1)) (some ⟨b, o, none⟩) l.length l) := Lib.hid (HR1.out.keep fun j hj _ => ⟨Below.heap_setCell _ _ _ _ hj, hj⟩)
  have HC := Lib.hid (phead_any P k c b o l it1 _ HA2.out HR2.out hc hN)
  have hRP : w.heap.size ≠ P := by have := HL.out; omega
  have HR9 : Hid ((w1.setCell ⟨P, 2, none⟩ (.int .i64 it1)).heap[w.heap.size]? = some (.cells #[.int .i64 0, .int .u64 0, .slice none 0 0, .slice none 0 0] 26 (0, 0))) := Lib.hid ((Below.heap_setCell _ _ _ _ hRP).trans HN0.out)
  have HB2 : Hid (But P w (w1.setCell ⟨P, 2, none⟩ (.int .i64 it1))) := Lib.hid ⟨HP0.out.os, HP0.out.tape, HP0.out.output, by have := HP0.out.size; simpa [World.setCell] using this, fun j hj hne => (Below.heap_setCell _ _ _ _ (by show j ≠ P; exact hne)).trans (HP0.out.block j hj)⟩
  rw [hr] at HC
  have HIT := Lib.hid hit1
  clear hit1
  obtain ⟨FB, hFB⟩ : ∃ FB : Int, FB = fb := ⟨_, rfl⟩
  obtain ⟨NN, hNN⟩ : ∃ NN : Int, NN = n := ⟨_, rfl⟩
  have h5 : FB / 32 = 1 := by rw [hFB]; omega
  have wk1 : IntKind.u8.wrap 1 = 1 := by show 1 % 256 = 1; omega
  have wk2 : IntKind.i64.wrap 1 = 1 := IntWalk.i64_in _ (by omega)
  have HNN := Lib.hid (And.intro hFB hNN)
  have HC' : Hid (Calls Tryz.prog 133 #[.pointer (some ⟨P, 0, none⟩)] (w1.setCell ⟨P, 2, none⟩ (.int .i64 it1)) fun e w' => But P (w1.setCell ⟨P, 2, none⟩ (.int .i64 it1)) w' ∧ e = .returned (.tuple #[.int .u8 FB, .int .u64 NN, .int .i64 0]) ∧ ∃ j, AtP P j c b o l it1 w' ∧ r = l.drop j) := Lib.hid (by rw [hFB, hNN]; exact HC.out)
  have HNB := Lib.hid hnb
  clear HC hFB hNN hr hnb
  go_wp2_with fail
  refine HC'.out.mono ?_
  rintro e u ⟨hB, rfl, j0, hAu, hrj⟩
  have hn := (hB.block _ (lt_of_block HR9.out) hRP).trans HR9.out
  have HBU : Hid (But P w u) := Lib.hid ⟨hB.os.trans HB2.out.os, hB.tape.trans HB2.out.tape, hB.output.trans HB2.out.output, Nat.le_trans HB2.out.size hB.size, fun j hj hne => (hB.block j (Nat.lt_of_lt_of_le hj HB2.out.size) hne).trans (HB2.out.block j hj hne)⟩
  have HRU : Hid (BR (fun b => b ≠ P) u (some ⟨b, o, none⟩) l.length l) := Lib.hid (HR2.out.keep fun j hj hj2 => ⟨hB.block j hj2 hj, hj⟩)
  have HNU := Lib.hid hn
  have HAU := Lib.hid hAu
  have HRJ := Lib.hid hrj
  obtain ⟨r0, r1, r2, r3⟩ := cell_of4 HNU.out
  obtain ⟨q0, q1, q2, q3⟩ := frozen_of4 HNU.out
  clear hB hn x2 f2 hAu hrj
  generalize hBq : w.heap.size = B at *
  go_wp2_with fail
  clear r0 r1 r2 r3 q0 q1 q2 q3
  obtain ⟨W', hW', hp4, hs4, hb4⟩ := put4_all (W := u) (b := B) (HNU.out) (.int .i64 1) (.int .u64 NN) (.slice none 0 0) (.slice none 0 0); rw [hW']; clear hW'
  obtain ⟨g0, g1, g2, g3⟩ := cell_of4 hp4
  refine bodyPost_ret (v := .tuple #[.agg #[.int .i64 1, .int .u64 NN, .slice none 0 0, .slice none 0 0], .int .i64 0]) (by simp [results, Tryz.results106, go_sem, g0, g1, g2, g3]) rfl ?_
  have hz := hb4 0 u (Below.refl 0 u) (Nat.zero_le _)
  have HBW : But P w W' := ⟨hz.os.trans HBU.out.os, hz.tape.trans HBU.out.tape, hz.output.trans HBU.out.output, by have := HBU.out.size; rw [hs4.1]; exact this, fun j hj hne => (hs4.2 j (by omega)).trans (HBU.out.block j hj hne)⟩
  have hq : it1 = 256 - ((255 - it.toNat : Nat) : Int) := by rw [HIT.out]; omega
  refine ⟨HBW, ⟨none, 0, 0, none, 0, 0⟩, ?_, IR.flat _ _ HNB.out, j0, ⟨(hs4.2 P (by omega)).trans (by rw [HAU.out.1, hq]), HAU.out.2⟩, HRJ.out⟩
  rw [HNN.out.2]; rfl
set_option maxHeartbeats 8000000 in
theorem pitem_full (P k c b o : Nat) (l : List UInt8) (lv : Int) (w : World) (hA : AtP P k c b o l 256 w) :
    Calls Tryz.prog 106 #[.pointer (some ⟨P, 0, none⟩), .int .i64 lv] w fun e w' => But P w w' ∧ NoItem 8 e := by
  have P0 := pure_alloc w (.cells #[.int .i64 0, .int .u64 0, .slice none 0 0, .slice none 0 0] 26)
  have N0 := alloc_new w (.cells #[.int .i64 0, .int .u64 0, .slice none 0 0, .slice none 0 0] 26)
  have hP1 := Below.keep P0 hA.1 (lt_of_block hA.1)
  have x2 := cell_of_arr hP1 2
  simp at x2
  have HP0 := Lib.hid P0
  have HNU := Lib.hid N0
  clear hA P0 N0 hP1
  go_enter Tryz.func106, Tryz.ntmps106
  go_upto_region 1 with fail
  generalize hw1 : w.alloc (.cells #[.int .i64 0, .int .u64 0, .slice none 0 0, .slice none 0 0] 26) = u at *
  clear hw1
  generalize hBq : w.heap.size = B at *
  obtain ⟨r0, r1, r2, r3⟩ := cell_of4 HNU.out
  obtain ⟨q0, q1, q2, q3⟩ := frozen_of4 HNU.out
  go_wp2_with fail
  clear x2
  clear r0 r1 r2 r3 q0 q1 q2 q3
  obtain ⟨W', hW', hp4, hs4, hb4⟩ := put4_all (W := u) (b := B) (HNU.out) (.int .i64 0) (.int .u64 0) (.slice none 0 0) (.slice none 0 0); rw [hW']; clear hW'
  obtain ⟨g0, g1, g2, g3⟩ := cell_of4 hp4
  refine bodyPost_ret (v := .tuple #[.agg #[.int .i64 0, .int .u64 0, .slice none 0 0, .slice none 0 0], .int .i64 8]) (by simp [results, Tryz.results106, go_sem, g0, g1, g2, g3]) rfl ?_
  have hz := hb4 0 u (Below.refl 0 u) (Nat.zero_le _)
  have HBW : But P w W' := ⟨hz.os.trans HP0.out.os, hz.tape.trans HP0.out.tape, hz.output.trans HP0.out.output, by have := HP0.out.size; rw [hs4.1]; omega, fun j hj _ => (hs4.2 j (by omega)).trans (HP0.out.block j (by omega))⟩
  exact ⟨HBW, rfl⟩
set_option maxHeartbeats 8000000 in
theorem pitem_7 (P k c b o fb n : Nat) (l r : List UInt8) (it lv : Int) (w : World) (hA : AtP P k c b o l it w) (hR : BR (fun b => b ≠ P) w (some ⟨b, o, none⟩) l.length l) (hc : l.length ≤ c) (hN : l.length ≤ 4096) (hi : 0 ≤ it) (hi2 : it < 256) (hr : It.readHead (l.drop k) = .ok fb n r) (hfb : fb < 256) (hnb : n < 18446744073709551616) (h5n : fb / 32 = 7) (hsv : ∀ W, Calls Tryz.prog 135 #[.int .u8 (fb : Int), .int .u64 (n : Int)] W (SevP (It.seven (fb % 32) n) W)) :
    Calls Tryz.prog 106 #[.pointer (some ⟨P, 0, none⟩), .int .i64 lv] w (ParP P c b o l w (ofO (It.seven (fb % 32) n) (255 - it.toNat) r)) := by
  have P0 := pure_alloc w (.cells #[.int .i64 0, .int .u64 0, .slice none 0 0, .slice none 0 0] 26)
  have N0 := alloc_new w (.cells #[.int .i64 0, .int .u64 0, .slice none 0 0, .slice none 0 0] 26)
  have hP1 := Below.keep P0 hA.1 (lt_of_block hA.1)
  have HK := hA.2
  have hPl := lt_of_block hA.1
  have x2 := cell_of_arr hP1 2
  have f2 : (w.alloc (.cells #[.int .i64 0, .int .u64 0, .slice none 0 0, .slice none 0 0] 26)).frozen? ⟨P, 2, none⟩ = false := by simp [World.frozen?, hP1]
  simp at x2
  have hit : ¬ it = 256 := by omega
  have hitb : (it == 256) = false := by simpa using hit
  obtain ⟨it1, hit1⟩ : ∃ it1, it1 = it + 1 := ⟨_, rfl⟩
  have hw : IntKind.i64.wrap (it + 1) = it1 := by rw [hit1]; exact IntWalk.i64_in _ (by omega)
  have hR1 := hR.below P0
  have HP0 := Lib.hid P0
  have HN0 := Lib.hid N0
  have HA1 := Lib.hid hP1
  have HR1 := Lib.hid hR1
  have HL := Lib.hid hPl
  clear hA hR P0 N0 hP1 hR1 hPl
  go_enter Tryz.func106, Tryz.ntmps106
  go_upto_region 1 with fail
  generalize hw1 : w.alloc (.cells #[.int .i64 0, .int .u64 0, .slice none 0 0, .slice none 0 0] 26) = w1 at *
  clear hw1
  have HA2 : Hid (AtP P k c b o l it1 (w1.setCell ⟨P, 2, none⟩ (.int .i64 it1))) := Lib.hid ⟨by have := set_arr HA1.out 2 (.int .i64 it1); simpa using this, HK⟩
  have HR2 : Hid (BR (fun b => b ≠ P) (w1.setCell ⟨P, 2, none⟩ (.int .i64 it1)) (some ⟨b, o, none⟩) l.length l) := Lib.hid (HR1.out.keep fun j hj _ => ⟨Below.heap_setCell _ _ _ _ hj, hj⟩)
  have HC := Lib.hid (phead_any P k c b o l it1 _ HA2.out HR2.out hc hN)
  have hRP : w.heap.size ≠ P := by have := HL.out; omega
  have HR9 : Hid ((w1.setCell ⟨P, 2, none⟩ (.int .i64 it1)).heap[w.heap.size]? = some (.cells #[.int .i64 0, .int .u64 0, .slice none 0 0, .slice none 0 0] 26 (0, 0))) := Lib.hid ((Below.heap_setCell _ _ _ _ hRP).trans HN0.out)
  have HB2 : Hid (But P w (w1.setCell ⟨P, 2, none⟩ (.int .i64 it1))) := Lib.hid ⟨HP0.out.os, HP0.out.tape, HP0.out.output, by have := HP0.out.size; simpa [World.setCell] using this, fun j hj hne => (Below.heap_setCell _ _ _ _ (by show j ≠ P; exact hne)).trans (HP0.out.block j hj)⟩
  rw [hr] at HC
  have HIT := Lib.hid hit1
  clear hit1
  obtain ⟨FB, hFB⟩ : ∃ FB : Int, FB = fb := ⟨_, rfl⟩
  obtain ⟨NN, hNN⟩ : ∃ NN : Int, NN = n := ⟨_, rfl⟩
  have h5 : FB / 32 = 7 := by rw [hFB]; omega
  have wk1 : IntKind.u8.wrap 7 = 7 := by show 7 % 256 = 7; omega
  have wk2 : IntKind.i64.wrap 7 = 7 := IntWalk.i64_in _ (by omega)
  rw [← hFB, ← hNN] at hsv
  have HSV := Lib.hid hsv
  clear hsv
  have HNN := Lib.hid (And.intro hFB hNN)
  have HC' : Hid (Calls Tryz.prog 133 #[.pointer (some ⟨P, 0, none⟩)] (w1.setCell ⟨P, 2, none⟩ (.int .i64 it1)) fun e w' => But P (w1.setCell ⟨P, 2, none⟩ (.int .i64 it1)) w' ∧ e = .returned (.tuple #[.int .u8 FB, .int .u64 NN, .int .i64 0]) ∧ ∃ j, AtP P j c b o l it1 w' ∧ r = l.drop j) := Lib.hid (by rw [hFB, hNN]; exact HC.out)
  have HNB := Lib.hid hnb
  clear HC hFB hNN hr hnb
  go_wp2_with fail
  refine HC'.out.mono ?_
  rintro e u ⟨hB, rfl, j0, hAu, hrj⟩
  have hn := (hB.block _ (lt_of_block HR9.out) hRP).trans HR9.out
  have HBU : Hid (But P w u) := Lib.hid ⟨hB.os.trans HB2.out.os, hB.tape.trans HB2.out.tape, hB.output.trans HB2.out.output, Nat.le_trans HB2.out.size hB.size, fun j hj hne => (hB.block j (Nat.lt_of_lt_of_le hj HB2.out.size) hne).trans (HB2.out.block j hj hne)⟩
  have HRU : Hid (BR (fun b => b ≠ P) u (some ⟨b, o, none⟩) l.length l) := Lib.hid (HR2.out.keep fun j hj hj2 => ⟨hB.block j hj2 hj, hj⟩)
  have HNU := Lib.hid hn
  have HAU := Lib.hid hAu
  have HRJ := Lib.hid hrj
  obtain ⟨r0, r1, r2, r3⟩ := cell_of4 HNU.out
  obtain ⟨q0, q1, q2, q3⟩ := frozen_of4 HNU.out
  clear hB hn x2 f2 hAu hrj
  generalize hBq : w.heap.size = B at *
  have HS := Lib.hid (HSV.out u)
  clear r0 r1 r2 r3 q0 q1 q2 q3
  generalize It.seven (fb % 32) n = R at *
  cases R with
  | none =>
    go_wp2_with fail
    refine HS.out.mono ?_
    rintro e v ⟨rfl, B9⟩
    have hnv := Below.keep B9 HNU.out (lt_of_block HNU.out)
    have HNV := Lib.hid hnv
    obtain ⟨r0, r1, r2, r3⟩ := cell_of4 HNV.out
    obtain ⟨q0, q1, q2, q3⟩ := frozen_of4 HNV.out
    have HB9 := Lib.hid B9
    clear hnv B9
    go_wp2_with fail
    clear r0 r1 r2 r3 q0 q1 q2 q3
    obtain ⟨W', hW', hp4, hs4, hb4⟩ := put4_all (W := v) (b := B) (HNV.out) (.int .i64 0) (.int .u64 0) (.slice none 0 0) (.slice none 0 0); rw [hW']; clear hW'
    obtain ⟨g0, g1, g2, g3⟩ := cell_of4 hp4
    refine bodyPost_ret (v := .tuple #[.agg #[.int .i64 0, .int .u64 0, .slice none 0 0, .slice none 0 0], .int .i64 4]) (by simp [results, Tryz.results106, go_sem, g0, g1, g2, g3]) rfl ?_
    have hz := hb4 0 v (Below.refl 0 v) (Nat.zero_le _)
    have HBW : But P w W' := ⟨hz.os.trans (HB9.out.os.trans HBU.out.os), hz.tape.trans (HB9.out.tape.trans HBU.out.tape), hz.output.trans (HB9.out.output.trans HBU.out.output), by have := HBU.out.size; have := HB9.out.size; rw [hs4.1]; omega, fun j hj hne => (hs4.2 j (by omega)).trans ((HB9.out.block j (Nat.lt_of_lt_of_le hj HBU.out.size)).trans (HBU.out.block j hj hne))⟩
    exact ⟨HBW, rfl⟩
  | some x =>
    go_wp2_with fail
    refine HS.out.mono ?_
    rintro e v ⟨A, rfl, hIR, B9⟩
    have hnv := Below.keep B9 HNU.out (lt_of_block HNU.out)
    have HNV := Lib.hid hnv
    obtain ⟨r0, r1, r2, r3⟩ := cell_of4 HNV.out
    obtain ⟨q0, q1, q2, q3⟩ := frozen_of4 HNV.out
    have HB9 := Lib.hid B9
    have HIR := Lib.hid hIR
    clear hnv B9 hIR
    go_wp2_with fail
    clear r0 r1 r2 r3 q0 q1 q2 q3
    obtain ⟨W', hW', hp4, hs4, hb4⟩ := put4_all (W := v) (b := B) (HNV.out) (.int .i64 x.kind) (.int .u64 (x.num : Int)) (.slice A.ab A.nb A.cb) (.slice A.ai A.ni A.ci); rw [hW']; clear hW'
    obtain ⟨g0, g1, g2, g3⟩ := cell_of4 hp4
    refine bodyPost_ret (v := .tuple #[.agg #[.int .i64 x.kind, .int .u64 (x.num : Int), .slice A.ab A.nb A.cb, .slice A.ai A.ni A.ci], .int .i64 0]) (by simp [results, Tryz.results106, go_sem, g0, g1, g2, g3]) rfl ?_
    have hz := hb4 0 v (Below.refl 0 v) (Nat.zero_le _)
    have HBW : But P w W' := ⟨hz.os.trans (HB9.out.os.trans HBU.out.os), hz.tape.trans (HB9.out.tape.trans HBU.out.tape), hz.output.trans (HB9.out.output.trans HBU.out.output), by have := HBU.out.size; have := HB9.out.size; rw [hs4.1]; omega, fun j hj hne => (hs4.2 j (by omega)).trans ((HB9.out.block j (Nat.lt_of_lt_of_le hj HBU.out.size)).trans (HBU.out.block j hj hne))⟩
    have hq : it1 = 256 - ((255 - it.toNat : Nat) : Int) := by rw [HIT.out]; omega
    have hsz := HBU.out.size
    refine ⟨HBW, A, rfl, IR.keep (fun j hj hj2 => ⟨hs4.2 j (by have h1 := lt_of_block HNU.out; have h2 : u.heap.size ≤ j := hj; omega), by have h2 : u.heap.size ≤ j := hj; show w.heap.size ≤ j; omega⟩) HIR.out, j0, ⟨(hs4.2 P (by omega)).trans (by rw [Below.keep HB9.out HAU.out.1 (lt_of_block HAU.out.1), hq]), HAU.out.2⟩, HRJ.out⟩
set_option maxHeartbeats 8000000 in
theorem pitem_lv4 (P k c b o fb n : Nat) (l r : List UInt8) (it lv : Int) (w : World) (hA : AtP P k c b o l it w) (hR : BR (fun b => b ≠ P) w (some ⟨b, o, none⟩) l.length l) (hc : l.length ≤ c) (hN : l.length ≤ 4096) (hi : 0 ≤ it) (hi2 : it < 256) (hr : It.readHead (l.drop k) = .ok fb n r) (hfb : fb < 256) (hnb : n < 18446744073709551616) (h5n : fb / 32 = 4) (hlv : lv = 8) :
    Calls Tryz.prog 106 #[.pointer (some ⟨P, 0, none⟩), .int .i64 lv] w (ParP P c b o l w (.err 8)) := by
  have P0 := pure_alloc w (.cells #[.int .i64 0, .int .u64 0, .slice none 0 0, .slice none 0 0] 26)
  have N0 := alloc_new w (.cells #[.int .i64 0, .int .u64 0, .slice none 0 0, .slice none 0 0] 26)
  have hP1 := Below.keep P0 hA.1 (lt_of_block hA.1)
  have HK := hA.2
  have hPl := lt_of_block hA.1
  have x2 := cell_of_arr hP1 2
  have f2 : (w.alloc (.cells #[.int .i64 0, .int .u64 0, .slice none 0 0, .slice none 0 0] 26)).frozen? ⟨P, 2, none⟩ = false := by simp [World.frozen?, hP1]
  simp at x2
  have hit : ¬ it = 256 := by omega
  have hitb : (it == 256) = false := by simpa using hit
  obtain ⟨it1, hit1⟩ : ∃ it1, it1 = it + 1 := ⟨_, rfl⟩
  have hw : IntKind.i64.wrap (it + 1) = it1 := by rw [hit1]; exact IntWalk.i64_in _ (by omega)
  have hR1 := hR.below P0
  have HP0 := Lib.hid P0
  have HN0 := Lib.hid N0
  have HA1 := Lib.hid hP1
  have HR1 := Lib.hid hR1
  have HL := Lib.hid hPl
  clear hA hR P0 N0 hP1 hR1 hPl
  go_enter Tryz.func106, Tryz.ntmps106
  go_upto_region 1 with fail
  generalize hw1 : w.alloc (.cells #[.int .i64 0, .int .u64 0, .slice none 0 0, .slice none 0 0] 26) = w1 at *
  clear hw1
  have HA2 : Hid (AtP P k c b o l it1 (w1.setCell ⟨P, 2, none⟩ (.int .i64 it1))) := Lib.hid ⟨by have := set_arr HA1.out 2 (.int .i64 it1); simpa using this, HK⟩
  have HR2 : Hid (BR (fun b => b ≠ P) (w1.setCell ⟨P, 2, none⟩ (.int .i64 it1)) (some ⟨b, o, none⟩) l.length l) := Lib.hid (HR1.out.keep fun j hj _ => ⟨Below.heap_setCell _ _ _ _ hj, hj⟩)
  have HC := Lib.hid (phead_any P k c b o l it1 _ HA2.out HR2.out hc hN)
  have hRP : w.heap.size ≠ P := by have := HL.out; omega
  have HR9 : Hid ((w1.setCell ⟨P, 2, none⟩ (.int .i64 it1)).heap[w.heap.size]? = some (.cells #[.int .i64 0, .int .u64 0, .slice none 0 0, .slice none 0 0] 26 (0, 0))) := Lib.hid ((Below.heap_setCell _ _ _ _ hRP).trans HN0.out)
  have HB2 : Hid (But P w (w1.setCell ⟨P, 2, none⟩ (.int .i64 it1))) := Lib.hid ⟨HP0.out.os, HP0.out.tape, HP0.out.output, by have := HP0.out.size; simpa [World.setCell] using this, fun j hj hne => (Below.heap_setCell _ _ _ _ (by show j ≠ P; exact hne)).trans (HP0.out.block j hj)⟩
  rw [hr] at HC
  have HIT := Lib.hid hit1
  clear hit1
  obtain ⟨FB, hFB⟩ : ∃ FB : Int, FB = fb := ⟨_, rfl⟩
  obtain ⟨NN, hNN⟩ : ∃ NN : Int, NN = n := ⟨_, rfl⟩
  have h5 : FB / 32 = 4 := by rw [hFB]; omega
  have wk1 : IntKind.u8.wrap 4 = 4 := by show 4 % 256 = 4; omega
  have wk2 : IntKind.i64.wrap 4 = 4 := IntWalk.i64_in _ (by omega)
  subst hlv
  have HNN := Lib.hid (And.intro hFB hNN)
  have HC' : Hid (Calls Tryz.prog 133 #[.pointer (some ⟨P, 0, none⟩)] (w1.setCell ⟨P, 2, none⟩ (.int .i64 it1)) fun e w' => But P (w1.setCell ⟨P, 2, none⟩ (.int .i64 it1)) w' ∧ e = .returned (.tuple #[.int .u8 FB, .int .u64 NN, .int .i64 0]) ∧ ∃ j, AtP P j c b o l it1 w' ∧ r = l.drop j) := Lib.hid (by rw [hFB, hNN]; exact HC.out)
  have HNB := Lib.hid hnb
  clear HC hFB hNN hr hnb
  go_wp2_with fail
  refine HC'.out.mono ?_
  rintro e u ⟨hB, rfl, j0, hAu, hrj⟩
  have hn := (hB.block _ (lt_of_block HR9.out) hRP).trans HR9.out
  have HBU : Hid (But P w u) := Lib.hid ⟨hB.os.trans HB2.out.os, hB.tape.trans HB2.out.tape, hB.output.trans HB2.out.output, Nat.le_trans HB2.out.size hB.size, fun j hj hne => (hB.block j (Nat.lt_of_lt_of_le hj HB2.out.size) hne).trans (HB2.out.block j hj hne)⟩
  have HRU : Hid (BR (fun b => b ≠ P) u (some ⟨b, o, none⟩) l.length l) := Lib.hid (HR2.out.keep fun j hj hj2 => ⟨hB.block j hj2 hj, hj⟩)
  have HNU := Lib.hid hn
  have HAU := Lib.hid hAu
  have HRJ := Lib.hid hrj
  obtain ⟨r0, r1, r2, r3⟩ := cell_of4 HNU.out
  obtain ⟨q0, q1, q2, q3⟩ := frozen_of4 HNU.out
  clear hB hn x2 f2 hAu hrj
  generalize hBq : w.heap.size = B at *
  go_wp2_with fail
  clear r0 r1 r2 r3 q0 q1 q2 q3
  obtain ⟨W', hW', hp4, hs4, hb4⟩ := put4_all (W := u) (b := B) (HNU.out) (.int .i64 0) (.int .u64 0) (.slice none 0 0) (.slice none 0 0); rw [hW']; clear hW'
  obtain ⟨g0, g1, g2, g3⟩ := cell_of4 hp4
  refine bodyPost_ret (v := .tuple #[.agg #[.int .i64 0, .int .u64 0, .slice none 0 0, .slice none 0 0], .int .i64 8]) (by simp [results, Tryz.results106, go_sem, g0, g1, g2, g3]) rfl ?_
  have hz := hb4 0 u (Below.refl 0 u) (Nat.zero_le _)
  have HBW : But P w W' := ⟨hz.os.trans HBU.out.os, hz.tape.trans HBU.out.tape, hz.output.trans HBU.out.output, by have := HBU.out.size; rw [hs4.1]; exact this, fun j hj hne => (hs4.2 j (by omega)).trans (HBU.out.block j hj hne)⟩
  exact ⟨HBW, rfl⟩
set_option maxHeartbeats 8000000 in
theorem pitem_lv5 (P k c b o fb n : Nat) (l r : List UInt8) (it lv : Int) (w : World) (hA : AtP P k c b o l it w) (hR : BR (fun b => b ≠ P) w (some ⟨b, o, none⟩) l.length l) (hc : l.length ≤ c) (hN : l.length ≤ 4096) (hi : 0 ≤ it) (hi2 : it < 256) (hr : It.readHead (l.drop k) = .ok fb n r) (hfb : fb < 256) (hnb : n < 18446744073709551616) (h5n : fb / 32 = 5) (hlv : lv = 8) :
    Calls Tryz.prog 106 #[.pointer (some ⟨P, 0, none⟩), .int .i64 lv] w (ParP P c b o l w (.err 8)) := by
  have P0 := pure_alloc w (.cells #[.int .i64 0, .int .u64 0, .slice none 0 0, .slice none 0 0] 26)
  have N0 := alloc_new w (.cells #[.int .i64 0, .int .u64 0, .slice none 0 0, .slice none 0 0] 26)
  have hP1 := Below.keep P0 hA.1 (lt_of_block hA.1)
  have HK := hA.2
  have hPl := lt_of_block hA.1
  have x2 := cell_of_arr hP1 2
  have f2 : (w.alloc (.cells #[.int .i64 0, .int .u64 0, .slice none 0 0, .slice none 0 0] 26)).frozen? ⟨P, 2, none⟩ = false := by simp [World.frozen?, hP1]
  simp at x2
  have hit : ¬ it = 256 := by omega
  have hitb : (it == 256) = false := by simpa using hit
  obtain ⟨it1, hit1⟩ : ∃ it1, it1 = it + 1 := ⟨_, rfl⟩
  have hw : IntKind.i64.wrap (it + 1) = it1 := by rw [hit1]; exact IntWalk.i64_in _ (by omega)
  have hR1 := hR.below P0
  have HP0 := Lib.hid P0
  have HN0 := Lib.hid N0
  have HA1 := Lib.hid hP1
  have HR1 := Lib.hid hR1
  have HL := Lib.hid hPl
  clear hA hR P0 N0 hP1 hR1 hPl
  go_enter Tryz.func106, Tryz.ntmps106
  go_upto_region 1 with fail
  generalize hw1 : w.alloc (.cells #[.int .i64 0, .int .u64 0, .slice none 0 0, .slice none 0 0] 26) = w1 at *
  clear hw1
  have HA2 : Hid (AtP P k c b o l it1 (w1.setCell ⟨P, 2, none⟩ (.int .i64 it1))) := Lib.hid ⟨by have := set_arr HA1.out 2 (.int .i64 it1); simpa using this, HK⟩
  have HR2 : Hid (BR (fun b => b ≠ P) (w1.setCell ⟨P, 2, none⟩ (.int .i64 it1)) (some ⟨b, o, none⟩) l.length l) := Lib.hid (HR1.out.keep fun j hj _ => ⟨Below.heap_setCell _ _ _ _ hj, hj⟩)
  have HC := Lib.hid (phead_any P k c b o l it1 _ HA2.out HR2.out hc hN)
  have hRP : w.heap.size ≠ P := by have := HL.out; omega
  have HR9 : Hid ((w1.setCell ⟨P, 2, none⟩ (.int .i64 it1)).heap[w.heap.size]? = some (.cells #[.int .i64 0, .int .u64 0, .slice none 0 0, .slice none 0 0] 26 (0, 0))) := Lib.hid ((Below.heap_setCell _ _ _ _ hRP).trans HN0.out)
  have HB2 : Hid (But P w (w1.setCell ⟨P, 2, none⟩ (.int .i64 it1))) := Lib.hid ⟨HP0.out.os, HP0.out.tape, HP0.out.output, by have := HP0.out.size; simpa [World.setCell] using this, fun j hj hne => (Below.heap_setCell _ _ _ _ (by show j ≠ P; exact hne)).trans (HP0.out.block j hj)⟩
  rw [hr] at HC
  have HIT := Lib.hid hit1
  clear hit1
  obtain ⟨FB, hFB⟩ : ∃ FB : Int, FB = fb := ⟨_, rfl⟩
  obtain ⟨NN, hNN⟩ : ∃ NN : Int, NN = n := ⟨_, rfl⟩
  have h5 : FB / 32 = 5 := by rw [hFB]; omega
  have wk1 : IntKind.u8.wrap 5 = 5 := by show 5 % 256 = 5; omega
  have wk2 : IntKind.i64.wrap 5 = 5 := IntWalk.i64_in _ (by omega)
  subst hlv
  have HNN := Lib.hid (And.intro hFB hNN)
  have HC' : Hid (Calls Tryz.prog 133 #[.pointer (some ⟨P, 0, none⟩)] (w1.setCell ⟨P, 2, none⟩ (.int .i64 it1)) fun e w' => But P (w1.setCell ⟨P, 2, none⟩ (.int .i64 it1)) w' ∧ e = .returned (.tuple #[.int .u8 FB, .int .u64 NN, .int .i64 0]) ∧ ∃ j, AtP P j c b o l it1 w' ∧ r = l.drop j) := Lib.hid (by rw [hFB, hNN]; exact HC.out)
  have HNB := Lib.hid hnb
  clear HC hFB hNN hr hnb
  go_wp2_with fail
  refine HC'.out.mono ?_
  rintro e u ⟨hB, rfl, j0, hAu, hrj⟩
  have hn := (hB.block _ (lt_of_block HR9.out) hRP).trans HR9.out
  have HBU : Hid (But P w u) := Lib.hid ⟨hB.os.trans HB2.out.os, hB.tape.trans HB2.out.tape, hB.output.trans HB2.out.output, Nat.le_trans HB2.out.size hB.size, fun j hj hne => (hB.block j (Nat.lt_of_lt_of_le hj HB2.out.size) hne).trans (HB2.out.block j hj hne)⟩
  have HRU : Hid (BR (fun b => b ≠ P) u (some ⟨b, o, none⟩) l.length l) := Lib.hid (HR2.out.keep fun j hj hj2 => ⟨hB.block j hj2 hj, hj⟩)
  have HNU := Lib.hid hn
  have HAU := Lib.hid hAu
  have HRJ := Lib.hid hrj
  obtain ⟨r0, r1, r2, r3⟩ := cell_of4 HNU.out
  obtain ⟨q0, q1, q2, q3⟩ := frozen_of4 HNU.out
  clear hB hn x2 f2 hAu hrj
  generalize hBq : w.heap.size = B at *
  go_wp2_with fail
  clear r0 r1 r2 r3 q0 q1 q2 q3
  obtain ⟨W', hW', hp4, hs4, hb4⟩ := put4_all (W := u) (b := B) (HNU.out) (.int .i64 0) (.int .u64 0) (.slice none 0 0) (.slice none 0 0); rw [hW']; clear hW'
  obtain ⟨g0, g1, g2, g3⟩ := cell_of4 hp4
  refine bodyPost_ret (v := .tuple #[.agg #[.int .i64 0, .int .u64 0, .slice none 0 0, .slice none 0 0], .int .i64 8]) (by simp [results, Tryz.results106, go_sem, g0, g1, g2, g3]) rfl ?_
  have hz := hb4 0 u (Below.refl 0 u) (Nat.zero_le _)
  have HBW : But P w W' := ⟨hz.os.trans HBU.out.os, hz.tape.trans HBU.out.tape, hz.output.trans HBU.out.output, by have := HBU.out.size; rw [hs4.1]; exact this, fun j hj hne => (hs4.2 j (by omega)).trans (HBU.out.block j hj hne)⟩
  exact ⟨HBW, rfl⟩
set_option maxHeartbeats 8000000 in
theorem pitem_lv6 (P k c b o fb n : Nat) (l r : List UInt8) (it lv : Int) (w : World) (hA : AtP P k c b o l it w) (hR : BR (fun b => b ≠ P) w (some ⟨b, o, none⟩) l.length l) (hc : l.length ≤ c) (hN : l.length ≤ 4096) (hi : 0 ≤ it) (hi2 : it < 256) (hr : It.readHead (l.drop k) = .ok fb n r) (hfb : fb < 256) (hnb : n < 18446744073709551616) (h5n : fb / 32 = 6) (hlv : lv = 8) :
    Calls Tryz.prog 106 #[.pointer (some ⟨P, 0, none⟩), .int .i64 lv] w (ParP P c b o l w (.err 8)) := by
  have P0 := pure_alloc w (.cells #[.int .i64 0, .int .u64 0, .slice none 0 0, .slice none 0 0] 26)
  have N0 := alloc_new w (.cells #[.int .i64 0, .int .u64 0, .slice none 0 0, .slice none 0 0] 26)
  have hP1 := Below.keep P0 hA.1 (lt_of_block hA.1)
  have HK := hA.2
  have hPl := lt_of_block hA.1
  have x2 := cell_of_arr hP1 2
  have f2 : (w.alloc (.cells #[.int .i64 0, .int .u64 0, .slice none 0 0, .slice none 0 0] 26)).frozen? ⟨P, 2, none⟩ = false := by simp [World.frozen?, hP1]
  simp at x2
  have hit : ¬ it = 256 := by omega
  have hitb : (it == 256) = false := by simpa using hit
  obtain ⟨it1, hit1⟩ : ∃ it1, it1 = it + 1 := ⟨_, rfl⟩
  have hw : IntKind.i64.wrap (it + 1) = it1 := by rw [hit1]; exact IntWalk.i64_in _ (by omega)
  have hR1 := hR.below P0
  have HP0 := Lib.hid P0
  have HN0 := Lib.hid N0
  have HA1 := Lib.hid hP1
  have HR1 := Lib.hid hR1
  have HL := Lib.hid hPl
  clear hA hR P0 N0 hP1 hR1 hPl
  go_enter Tryz.func106, Tryz.ntmps106
  go_upto_region 1 with fail
  generalize hw1 : w.alloc (.cells #[.int .i64 0, .int .u64 0, .slice none 0 0, .slice none 0 0] 26) = w1 at *
  clear hw1
  have HA2 : Hid (AtP P k c b o l it1 (w1.setCell ⟨P, 2, none⟩ (.int .i64 it1))) := Lib.hid ⟨by have := set_arr HA1.out 2 (.int .i64 it1); simpa using this, HK⟩
  have HR2 : Hid (BR (fun b => b ≠ P) (w1.setCell ⟨P, 2, none⟩ (.int .i64 it1)) (some ⟨b, o, none⟩) l.length l) := Lib.hid (HR1.out.keep fun j hj _ => ⟨Below.heap_setCell _ _ _ _ hj, hj⟩)
  have HC := Lib.hid (phead_any P k c b o l it1 _ HA2.out HR2.out hc hN)
  have hRP : w.heap.size ≠ P := by have := HL.out; omega
  have HR9 : Hid ((w1.setCell ⟨P, 2, none⟩ (.int .i64 it1)).heap[w.heap.size]? = some (.cells #[.int .i64 0, .int .u64 0, .slice none 0 0, .slice none 0 0] 26 (0, 0))) := Lib.hid ((Below.heap_setCell _ _ _ _ hRP).trans HN0.out)
  have HB2 : Hid (But P w (w1.setCell ⟨P, 2, none⟩ (.int .i64 it1))) := Lib.hid ⟨HP0.out.os, HP0.out.tape, HP0.out.output, by have := HP0.out.size; simpa [World.setCell] using this, fun j hj hne => (Below.heap_setCell _ _ _ _ (by show j ≠ P; exact hne)).trans (HP0.out.block j hj)⟩
  rw [hr] at HC
  have HIT := Lib.hid hit1
  clear hit1
  obtain ⟨FB, hFB⟩ : ∃ FB : Int, FB = fb := ⟨_, rfl⟩
  obtain ⟨NN, hNN⟩ : ∃ NN : Int, NN = n := ⟨_, rfl⟩
  have h5 : FB / 32 = 6 := by rw [hFB]; omega
  have wk1 : IntKind.u8.wrap 6 = 6 := by show 6 % 256 = 6; omega
  have wk2 : IntKind.i64.wrap 6 = 6 := IntWalk.i64_in _ (by omega)
  subst hlv
  have HNN := Lib.hid (And.intro hFB hNN)
  have HC' : Hid (Calls Tryz.prog 133 #[.pointer (some ⟨P, 0, none⟩)] (w1.setCell ⟨P, 2, none⟩ (.int .i64 it1)) fun e w' => But P (w1.setCell ⟨P, 2, none⟩ (.int .i64 it1)) w' ∧ e = .returned (.tuple #[.int .u8 FB, .int .u64 NN, .int .i64 0]) ∧ ∃ j, AtP P j c b o l it1 w' ∧ r = l.drop j) := Lib.hid (by rw [hFB, hNN]; exact HC.out)
  have HNB := Lib.hid hnb
  clear HC hFB hNN hr hnb
  go_wp2_with fail
  refine HC'.out.mono ?_
  rintro e u ⟨hB, rfl, j0, hAu, hrj⟩
  have hn := (hB.block _ (lt_of_block HR9.out) hRP).trans HR9.out
  have HBU : Hid (But P w u) := Lib.hid ⟨hB.os.trans HB2.out.os, hB.tape.trans HB2.out.tape, hB.output.trans HB2.out.output, Nat.le_trans HB2.out.size hB.size, fun j hj hne => (hB.block j (Nat.lt_of_lt_of_le hj HB2.out.size) hne).trans (HB2.out.block j hj hne)⟩
  have HRU : Hid (BR (fun b => b ≠ P) u (some ⟨b, o, none⟩) l.length l) := Lib.hid (HR2.out.keep fun j hj hj2 => ⟨hB.block j hj2 hj, hj⟩)
  have HNU := Lib.hid hn
  have HAU := Lib.hid hAu
  have HRJ := Lib.hid hrj
  obtain ⟨r0, r1, r2, r3⟩ := cell_of4 HNU.out
  obtain ⟨q0, q1, q2, q3⟩ := frozen_of4 HNU.out
  clear hB hn x2 f2 hAu hrj
  generalize hBq : w.heap.size = B at *
  go_wp2_with fail
  clear r0 r1 r2 r3 q0 q1 q2 q3
  obtain ⟨W', hW', hp4, hs4, hb4⟩ := put4_all (W := u) (b := B) (HNU.out) (.int .i64 0) (.int .u64 0) (.slice none 0 0) (.slice none 0 0); rw [hW']; clear hW'
  obtain ⟨g0, g1, g2, g3⟩ := cell_of4 hp4
  refine bodyPost_ret (v := .tuple #[.agg #[.int .i64 0, .int .u64 0, .slice none 0 0, .slice none 0 0], .int .i64 8]) (by simp [results, Tryz.results106, go_sem, g0, g1, g2, g3]) rfl ?_
  have hz := hb4 0 u (Below.refl 0 u) (Nat.zero_le _)
  have HBW : But P w W' := ⟨hz.os.trans HBU.out.os, hz.tape.trans HBU.out.tape, hz.output.trans HBU.out.output, by have := HBU.out.size; rw [hs4.1]; exact this, fun j hj hne => (hs4.2 j (by omega)).trans (HBU.out.block j hj hne)⟩
  exact ⟨HBW, rfl⟩
set_option maxHeartbeats 8000000 in
theorem pitem_sh2 (P k c b o fb n : Nat) (l r : List UInt8) (it lv : Int) (w : World) (hA : AtP P k c b o l it w) (hR : BR (fun b => b ≠ P) w (some ⟨b, o, none⟩) l.length l) (hc : l.length ≤ c) (hN : l.length ≤ 4096) (hi : 0 ≤ it) (hi2 : it < 256) (hr : It.readHead (l.drop k) = .ok fb n r) (hfb : fb < 256) (hnb : n < 18446744073709551616) (h5n : fb / 32 = 2) (hsh : r.length < n) :
    Calls Tryz.prog 106 #[.pointer (some ⟨P, 0, none⟩), .int .i64 lv] w (ParP P c b o l w (.err 2)) := by
  have P0 := pure_alloc w (.cells #[.int .i64 0, .int .u64 0, .slice none 0 0, .slice none 0 0] 26)
  have N0 := alloc_new w (.cells #[.int .i64 0, .int .u64 0, .slice none 0 0, .slice none 0 0] 26)
  have hP1 := Below.keep P0 hA.1 (lt_of_block hA.1)
  have HK := hA.2
  have hPl := lt_of_block hA.1
  have x2 := cell_of_arr hP1 2
  have f2 : (w.alloc (.cells #[.int .i64 0, .int .u64 0, .slice none 0 0, .slice none 0 0] 26)).frozen? ⟨P, 2, none⟩ = false := by simp [World.frozen?, hP1]
  simp at x2
  have hit : ¬ it = 256 := by omega
  have hitb : (it == 256) = false := by simpa using hit
  obtain ⟨it1, hit1⟩ : ∃ it1, it1 = it + 1 := ⟨_, rfl⟩
  have hw : IntKind.i64.wrap (it + 1) = it1 := by rw [hit1]; exact IntWalk.i64_in _ (by omega)
  have hR1 := hR.below P0
  have HP0 := Lib.hid P0
  have HN0 := Lib.hid N0
  have HA1 := Lib.hid hP1
  have HR1 := Lib.hid hR1
  have HL := Lib.hid hPl
  clear hA hR P0 N0 hP1 hR1 hPl
  go_enter Tryz.func106, Tryz.ntmps106
  go_upto_region 1 with fail
  generalize hw1 : w.alloc (.cells #[.int .i64 0, .int .u64 0, .slice none 0 0, .slice none 0 0] 26) = w1 at *
  clear hw1
  have HA2 : Hid (AtP P k c b o l it1 (w1.setCell ⟨P, 2, none⟩ (.int .i64 it1))) := Lib.hid ⟨by have := set_arr HA1.out 2 (.int .i64 it1); simpa using this, HK⟩
  have HR2 : Hid (BR (fun b => b ≠ P) (w1.setCell ⟨P, 2, none⟩ (.int .i64 it1)) (some ⟨b, o, none⟩) l.length l) := Lib.hid (HR1.out.keep fun j hj _ => ⟨Below.heap_setCell _ _ _ _ hj, hj⟩)
  have HC := Lib.hid (phead_any P k c b o l it1 _ HA2.out HR2.out hc hN)
  have hRP : w.heap.size ≠ P := by have := HL.out; omega
  have HR9 : Hid ((w1.setCell ⟨P, 2, none⟩ (.int .i64 it1)).heap[w.heap.size]? = some (.cells #[.int .i64 0, .int .u64 0, .slice none 0 0, .slice none 0 0] 26 (0, 0))) := Lib.hid ((Below.heap_setCell _ _ _ _ hRP).trans HN0.out)
  have HB2 : Hid (But P w (w1.setCell ⟨P, 2, none⟩ (.int .i64 it1))) := Lib.hid ⟨HP0.out.os, HP0.out.tape, HP0.out.output, by have := HP0.out.size; simpa [World.setCell] using this, fun j hj hne => (Below.heap_setCell _ _ _ _ (by show j ≠ P; exact hne)).trans (HP0.out.block j hj)⟩
  rw [hr] at HC
  have HIT := Lib.hid hit1
  clear hit1
  obtain ⟨FB, hFB⟩ : ∃ FB : Int, FB = fb := ⟨_, rfl⟩
  obtain ⟨NN, hNN⟩ : ∃ NN : Int, NN = n := ⟨_, rfl⟩
  have h5 : FB / 32 = 2 := by rw [hFB]; omega
  have wk1 : IntKind.u8.wrap 2 = 2 := by show 2 % 256 = 2; omega
  have wk2 : IntKind.i64.wrap 2 = 2 := IntWalk.i64_in _ (by omega)
  have HSH := Lib.hid hsh
  clear hsh
  have HNN := Lib.hid (And.intro hFB hNN)
  have HC' : Hid (Calls Tryz.prog 133 #[.pointer (some ⟨P, 0, none⟩)] (w1.setCell ⟨P, 2, none⟩ (.int .i64 it1)) fun e w' => But P (w1.setCell ⟨P, 2, none⟩ (.int .i64 it1)) w' ∧ e = .returned (.tuple #[.int .u8 FB, .int .u64 NN, .int .i64 0]) ∧ ∃ j, AtP P j c b o l it1 w' ∧ r = l.drop j) := Lib.hid (by rw [hFB, hNN]; exact HC.out)
  have HNB := Lib.hid hnb
  clear HC hFB hNN hr hnb
  go_wp2_with fail
  refine HC'.out.mono ?_
  rintro e u ⟨hB, rfl, j0, hAu, hrj⟩
  have hn := (hB.block _ (lt_of_block HR9.out) hRP).trans HR9.out
  have HBU : Hid (But P w u) := Lib.hid ⟨hB.os.trans HB2.out.os, hB.tape.trans HB2.out.tape, hB.output.trans HB2.out.output, Nat.le_trans HB2.out.size hB.size, fun j hj hne => (hB.block j (Nat.lt_of_lt_of_le hj HB2.out.size) hne).trans (HB2.out.block j hj hne)⟩
  have HRU : Hid (BR (fun b => b ≠ P) u (some ⟨b, o, none⟩) l.length l) := Lib.hid (HR2.out.keep fun j hj hj2 => ⟨hB.block j hj2 hj, hj⟩)
  have HNU := Lib.hid hn
  have HAU := Lib.hid hAu
  have HRJ := Lib.hid hrj
  obtain ⟨r0, r1, r2, r3⟩ := cell_of4 HNU.out
  obtain ⟨q0, q1, q2, q3⟩ := frozen_of4 HNU.out
  clear hB hn x2 f2 hAu hrj
  generalize hBq : w.heap.size = B at *
  have hlj : r.length = l.length - j0 := by rw [HRJ.out, List.length_drop]
  have hj0 := HAU.out.2
  have y0 := cell_of_arr HAU.out.1 0
  have y1 := cell_of_arr HAU.out.1 1
  simp at y0 y1
  obtain ⟨Z, hZ⟩ : ∃ Z : Int, Z = (l.length : Int) - (j0 : Int) := ⟨_, rfl⟩
  have hz1 : IntKind.i64.wrap ((l.length : Int) - (j0 : Int)) = Z := by rw [hZ]; exact IntWalk.i64_in _ (by omega)
  have hz2 : IntKind.u64.wrap Z = Z := by show Z % 18446744073709551616 = Z; omega
  have hsn := HSH.out
  have hnn := HNN.out.2
  have hgt : decide (Z < NN) = true := decide_eq_true (by omega)
  have hgt2 : Z < NN := by omega
  have HZ := Lib.hid hZ
  clear hlj hsn hnn hZ hj0
  go_wp2_with fail
  go_quiet (fail)
  have HB9 : Hid (Below u.heap.size u (u.drewN nq)) := Lib.hid (below_drewN (Below.refl _ _) nq)
  have HNV : Hid ((u.drewN nq).heap[B]? = some (.cells #[.int .i64 0, .int .u64 0, .slice none 0 0, .slice none 0 0] 26 (0, 0))) := Lib.hid HNU.out
  clear r0 r1 r2 r3 q0 q1 q2 q3 y0 y1
  generalize u.drewN nq = v at *
  obtain ⟨r0, r1, r2, r3⟩ := cell_of4 HNV.out
  obtain ⟨q0, q1, q2, q3⟩ := frozen_of4 HNV.out
  go_wp2_with fail
  clear r0 r1 r2 r3 q0 q1 q2 q3
  obtain ⟨W', hW', hp4, hs4, hb4⟩ := put4_all (W := v) (b := B) (HNV.out) (.int .i64 0) (.int .u64 0) (.slice none 0 0) (.slice none 0 0); rw [hW']; clear hW'
  obtain ⟨g0, g1, g2, g3⟩ := cell_of4 hp4
  refine bodyPost_ret (v := .tuple #[.agg #[.int .i64 0, .int .u64 0, .slice none 0 0, .slice none 0 0], .int .i64 2]) (by simp [results, Tryz.results106, go_sem, g0, g1, g2, g3]) rfl ?_
  have hz := hb4 0 v (Below.refl 0 v) (Nat.zero_le _)
  have HBW : But P w W' := ⟨hz.os.trans (HB9.out.os.trans HBU.out.os), hz.tape.trans (HB9.out.tape.trans HBU.out.tape), hz.output.trans (HB9.out.output.trans HBU.out.output), by have := HBU.out.size; have := HB9.out.size; rw [hs4.1]; omega, fun j hj hne => (hs4.2 j (by omega)).trans ((HB9.out.block j (Nat.lt_of_lt_of_le hj HBU.out.size)).trans (HBU.out.block j hj hne))⟩
  exact ⟨HBW, rfl⟩
set_option maxHeartbeats 8000000 in
theorem pitem_sh3 (P k c b o fb n : Nat) (l r : List UInt8) (it lv : Int) (w : World) (hA : AtP P k c b o l it w) (hR : BR (fun b => b ≠ P) w (some ⟨b, o, none⟩) l.length l) (hc : l.length ≤ c) (hN : l.length ≤ 4096) (hi : 0 ≤ it) (hi2 : it < 256) (hr : It.readHead (l.drop k) = .ok fb n r) (hfb : fb < 256) (hnb : n < 18446744073709551616) (h5n : fb / 32 = 3) (hsh : r.length < n) :
    Calls Tryz.prog 106 #[.pointer (some ⟨P, 0, none⟩), .int .i64 lv] w (ParP P c b o l w (.err 2)) := by
  have P0 := pure_alloc w (.cells #[.int .i64 0, .int .u64 0, .slice none 0 0, .slice none 0 0] 26)
  have N0 := alloc_new w (.cells #[.int .i64 0, .int .u64 0, .slice none 0 0, .slice none 0 0] 26)
  have hP1 := Below.keep P0 hA.1 (lt_of_block hA.1)
  have HK := hA.2
  have hPl := lt_of_block hA.1
  have x2 := cell_of_arr hP1 2
  have f2 : (w.alloc (.cells #[.int .i64 0, .int .u64 0, .slice none 0 0, .slice none 0 0] 26)).frozen? ⟨P, 2, none⟩ = false := by simp [World.frozen?, hP1]
  simp at x2
  have hit : ¬ it = 256 := by omega
  have hitb : (it == 256) = false := by simpa using hit
  obtain ⟨it1, hit1⟩ : ∃ it1, it1 = it + 1 := ⟨_, rfl⟩
  have hw : IntKind.i64.wrap (it + 1) = it1 := by rw [hit1]; exact IntWalk.i64_in _ (by omega)
  have hR1 := hR.below P0
  have HP0 := Lib.hid P0
  have HN0 := Lib.hid N0
  have HA1 := Lib.hid hP1
  have HR1 := Lib.hid hR1
  have HL := Lib.hid hPl
  clear hA hR P0 N0 hP1 hR1 hPl
  go_enter Tryz.func106, Tryz.ntmps106
  go_upto_region 1 with fail
  generalize hw1 : w.alloc (.cells #[.int .i64 0, .int .u64 0, .slice none 0 0, .slice none 0 0] 26) = w1 at *
  clear hw1
  have HA2 : Hid (AtP P k c b o l it1 (w1.setCell ⟨P, 2, none⟩ (.int .i64 it1))) := Lib.hid ⟨by have := set_arr HA1.out 2 (.int .i64 it1); simpa using this, HK⟩
  have HR2 : Hid (BR (fun b => b ≠ P) (w1.setCell ⟨P, 2, none⟩ (.int .i64 it1)) (some ⟨b, o, none⟩) l.length l) := Lib.hid (HR1.out.keep fun j hj _ => ⟨Below.heap_setCell _ _ _ _ hj, hj⟩)
  have HC := Lib.hid (phead_any P k c b o l it1 _ HA2.out HR2.out hc hN)
  have hRP : w.heap.size ≠ P := by have := HL.out; omega
  have HR9 : Hid ((w1.setCell ⟨P, 2, none⟩ (.int .i64 it1)).heap[w.heap.size]? = some (.cells #[.int .i64 0, .int .u64 0, .slice none 0 0, .slice none 0 0] 26 (0, 0))) := Lib.hid ((Below.heap_setCell _ _ _ _ hRP).trans HN0.out)
  have HB2 : Hid (But P w (w1.setCell ⟨P, 2, none⟩ (.int .i64 it1))) := Lib.hid ⟨HP0.out.os, HP0.out.tape, HP0.out.output, by have := HP0.out.size; simpa [World.setCell] using this, fun j hj hne => (Below.heap_setCell _ _ _ _ (by show j ≠ P; exact hne)).trans (HP0.out.block j hj)⟩
  rw [hr] at HC
  have HIT := Lib.hid hit1
  clear hit1
  obtain ⟨FB, hFB⟩ : ∃ FB : Int, FB = fb := ⟨_, rfl⟩
  obtain ⟨NN, hNN⟩ : ∃ NN : Int, NN = n := ⟨_, rfl⟩
  have h5 : FB / 32 = 3 := by rw [hFB]; omega
  have wk1 : IntKind.u8.wrap 3 = 3 := by show 3 % 256 = 3; omega
  have wk2 : IntKind.i64.wrap 3 = 3 := IntWalk.i64_in _ (by omega)
  have HSH := Lib.hid hsh
  clear hsh
  have HNN := Lib.hid (And.intro hFB hNN)
  have HC' : Hid (Calls Tryz.prog 133 #[.pointer (some ⟨P, 0, none⟩)] (w1.setCell ⟨P, 2, none⟩ (.int .i64 it1)) fun e w' => But P (w1.setCell ⟨P, 2, none⟩ (.int .i64 it1)) w' ∧ e = .returned (.tuple #[.int .u8 FB, .int .u64 NN, .int .i64 0]) ∧ ∃ j, AtP P j c b o l it1 w' ∧ r = l.drop j) := Lib.hid (by rw [hFB, hNN]; exact HC.out)
  have HNB := Lib.hid hnb
  clear HC hFB hNN hr hnb
  go_wp2_with fail
  refine HC'.out.mono ?_
  rintro e u ⟨hB, rfl, j0, hAu, hrj⟩
  have hn := (hB.block _ (lt_of_block HR9.out) hRP).trans HR9.out
  have HBU : Hid (But P w u) := Lib.hid ⟨hB.os.trans HB2.out.os, hB.tape.trans HB2.out.tape, hB.output.trans HB2.out.output, Nat.le_trans HB2.out.size hB.size, fun j hj hne => (hB.block j (Nat.lt_of_lt_of_le hj HB2.out.size) hne).trans (HB2.out.block j hj hne)⟩
  have HRU : Hid (BR (fun b => b ≠ P) u (some ⟨b, o, none⟩) l.length l) := Lib.hid (HR2.out.keep fun j hj hj2 => ⟨hB.block j hj2 hj, hj⟩)
  have HNU := Lib.hid hn
  have HAU := Lib.hid hAu
  have HRJ := Lib.hid hrj
  obtain ⟨r0, r1, r2, r3⟩ := cell_of4 HNU.out
  obtain ⟨q0, q1, q2, q3⟩ := frozen_of4 HNU.out
  clear hB hn x2 f2 hAu hrj
  generalize hBq : w.heap.size = B at *
  have hlj : r.length = l.length - j0 := by rw [HRJ.out, List.length_drop]
  have hj0 := HAU.out.2
  have y0 := cell_of_arr HAU.out.1 0
  have y1 := cell_of_arr HAU.out.1 1
  simp at y0 y1
  obtain ⟨Z, hZ⟩ : ∃ Z : Int, Z = (l.length : Int) - (j0 : Int) := ⟨_, rfl⟩
  have hz1 : IntKind.i64.wrap ((l.length : Int) - (j0 : Int)) = Z := by rw [hZ]; exact IntWalk.i64_in _ (by omega)
  have hz2 : IntKind.u64.wrap Z = Z := by show Z % 18446744073709551616 = Z; omega
  have hsn := HSH.out
  have hnn := HNN.out.2
  have hgt : decide (Z < NN) = true := decide_eq_true (by omega)
  have hgt2 : Z < NN := by omega
  have HZ := Lib.hid hZ
  clear hlj hsn hnn hZ hj0
  go_wp2_with fail
  go_quiet (fail)
  have HB9 : Hid (Below u.heap.size u (u.drewN nq)) := Lib.hid (below_drewN (Below.refl _ _) nq)
  have HNV : Hid ((u.drewN nq).heap[B]? = some (.cells #[.int .i64 0, .int .u64 0, .slice none 0 0, .slice none 0 0] 26 (0, 0))) := Lib.hid HNU.out
  clear r0 r1 r2 r3 q0 q1 q2 q3 y0 y1
  generalize u.drewN nq = v at *
  obtain ⟨r0, r1, r2, r3⟩ := cell_of4 HNV.out
  obtain ⟨q0, q1, q2, q3⟩ := frozen_of4 HNV.out
  go_wp2_with fail
  clear r0 r1 r2 r3 q0 q1 q2 q3
  obtain ⟨W', hW', hp4, hs4, hb4⟩ := put4_all (W := v) (b := B) (HNV.out) (.int .i64 0) (.int .u64 0) (.slice none 0 0) (.slice none 0 0); rw [hW']; clear hW'
  obtain ⟨g0, g1, g2, g3⟩ := cell_of4 hp4
  refine bodyPost_ret (v := .tuple #[.agg #[.int .i64 0, .int .u64 0, .slice none 0 0, .slice none 0 0], .int .i64 2]) (by simp [results, Tryz.results106, go_sem, g0, g1, g2, g3]) rfl ?_
  have hz := hb4 0 v (Below.refl 0 v) (Nat.zero_le _)
  have HBW : But P w W' := ⟨hz.os.trans (HB9.out.os.trans HBU.out.os), hz.tape.trans (HB9.out.tape.trans HBU.out.tape), hz.output.trans (HB9.out.output.trans HBU.out.output), by have := HBU.out.size; have := HB9.out.size; rw [hs4.1]; omega, fun j hj hne => (hs4.2 j (by omega)).trans ((HB9.out.block j (Nat.lt_of_lt_of_le hj HBU.out.size)).trans (HBU.out.block j hj hne))⟩
  exact ⟨HBW, rfl⟩
end Go.Proofs.YtelefkkkccilaaaGreatDoor
