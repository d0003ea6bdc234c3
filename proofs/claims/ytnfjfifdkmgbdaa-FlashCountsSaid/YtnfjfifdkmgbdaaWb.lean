/- Walks of Record, of the program and of the reference. -/
import Derived.Test.YtnfjfifdkmgbdaaWa
namespace Go.Proofs.Ytnfjfifdkmgbdaa
open Go.RowKit

def bv (x : UInt8) : Value := .int .u8 (x.toNat : Int)
/-- The slice value v holds the bytes l, in a row of its own from block 'base' on. -/
def OwnB (w : World) (base : Nat) (v : Value) (l : List UInt8) : Prop := w.ownsRow base 5 1 v l.length (l.map bv)

theorem OwnB.bs {w : World} {base : Nat} {v : Value} {l : List UInt8} (h : OwnB w base v l) : ∃ a cap, v = .slice a l.length cap ∧ Bs w a l.length l := by
  obtain ⟨h1, h2⟩ := h
  rcases h2 with ⟨rfl, h3⟩ | ⟨g, cap, cur, rfl, hg, hb, hn, hc, hs, ht⟩
  · have : l = [] := List.eq_nil_of_length_eq_zero h3
    subst this
    exact ⟨none, 0, rfl, Bs.nil _ _⟩
  · refine ⟨_, cap, rfl, rfl, by unfold maxLen at hc; omega, fun i hi => ⟨g, 0, rfl, ?_⟩⟩
    simp only [Nat.mul_one] at ht hs
    have e : (cur.toList.take l.length)[i]? = (l.map bv)[i]? := by rw [ht]
    rw [List.getElem?_take_of_lt hi] at e
    simp only [World.cell?, hb, Nat.zero_add]
    simp [hi, bv] at e ⊢
    exact e

theorem u8_conv (n : Int) : (IntKind.u8.wrap n) = ((Fl.u8 n).toNat : Int) := by
  simp [IntKind.wrap, IntKind.bits, IntKind.signed, Fl.u8]
  omega

theorem recOk_val {key value : Int} (h : Fl.recOk key value = true) : 0 ≤ value ∧ value ≤ 1099511627775 := by
  simp [Fl.recOk] at h; omega
theorem u8_val (n : Int) : ((Fl.u8 n).toNat : Int) = n % 256 := by
  unfold Fl.u8
  have h : (n % 256).toNat < 256 := by omega
  rw [UInt8.toNat_ofNat_of_lt' (by simpa using h)]
  omega
theorem bv_u8 (n : Int) : bv (Fl.u8 n) = .int .u8 (n % 256) := by unfold bv; rw [u8_val]
theorem body_cells (key value : Int) (h1 : 0 ≤ value) (h2 : value ≤ 1099511627775) :
    (Fl.body key value).map bv = [.int .u8 (key % 256), .int .u8 (value / 4294967296), .int .u8 (value / 16777216 % 256), .int .u8 (value / 65536 % 256), .int .u8 (value / 256 % 256), .int .u8 (value % 256)] := by
  simp only [Fl.body, List.map_cons, List.map_nil, bv_u8]
  rw [show value / 4294967296 % 256 = value / 4294967296 by omega]
/-- A row of one's own, off its block. -/
theorem OwnB.mk {w : World} {base g cap : Nat} {cur : Array Value} {l : List UInt8} (hb : base ≤ g) (h : w.heap[g]? = some (.cells cur 5 (0, 0))) (hl : l.length ≤ cap) (hc : cap ≤ maxLen) (hs : cur.size = cap) (ht : cur.toList.take l.length = l.map bv) :
    OwnB w base (.slice (some ⟨g, 0, none⟩) l.length cap) l :=
  ⟨by simp, .inr ⟨g, cap, cur, rfl, hb, h, hl, hc, by omega, by simpa using ht⟩⟩
theorem OwnB.bs' {w : World} {base : Nat} {a : Option Addr} {len cap : Nat} {l : List UInt8} (h : OwnB w base (.slice a len cap) l) : Bs w a len l := by
  obtain ⟨a', cap', e, hb⟩ := h.bs
  simp only [Value.slice.injEq] at e
  obtain ⟨rfl, rfl, rfl⟩ := e
  exact hb
theorem cap_bd (need old e t : Nat) (h : need < 2 ^ 62) : need ≤ (Question.appendCap need old e).cut t ∧ (Question.appendCap need old e).cut t ≤ maxLen := by
  simp only [Question.cut, maxLen]
  have := Nat.mod_lt t (show 2 ^ 63 - need > 0 by omega)
  omega
theorem zero_size (z : Value) (n : Nat) : (Builtin.zeroCells #[z] n).size = n := by
  simp [Builtin.zeroCells]
theorem full_cells (key value : Int) (h1 : 0 ≤ value) (h2 : value ≤ 1099511627775) {z : Int} (hz : z = (Fl.check (Fl.body key value) : Nat)) :
    (Fl.full key value).map bv = [.int .u8 (key % 256), .int .u8 (value / 4294967296), .int .u8 (value / 16777216 % 256), .int .u8 (value / 65536 % 256), .int .u8 (value / 256 % 256), .int .u8 (value % 256), .int .u8 (z / 256), .int .u8 (z % 256)] := by
  have hl := Fl.check_lt (Fl.body key value)
  unfold Fl.full
  rw [List.map_append, body_cells key value h1 h2]
  simp only [List.map_cons, List.map_nil, bv_u8]
  rw [hz, show ((Fl.check (Fl.body key value) / 256 : Nat) : Int) % 256 = ((Fl.check (Fl.body key value) : Nat) : Int) / 256 by omega]
  rfl
def RecPost (key value : Int) (w : World) (e : Ending) (w' : World) : Prop := ∃ v, e = .returned v ∧ OwnB w' w.heap.size v (Fl.record key value) ∧ Below w.heap.size w w'

set_option maxHeartbeats 800000 in
theorem record_any (key value : Int) (w : World) (b1 : -9223372036854775808 ≤ key) (b2 : key ≤ 9223372036854775807) (b3 : -9223372036854775808 ≤ value) (b4 : value ≤ 9223372036854775807) :
    Calls Try.prog 14 #[.int .i64 key, .int .i64 value] w (RecPost key value w) := by
  go_enter Try.func14, Try.ntmps14
  go_upto_region 1 with fail
  go_cut [28] (fun s wx => s = .bool (!Fl.recOk key value) ∧ w = wx)
  case first =>
    cases h240 : (key != 240) <;> cases h241 : (key != 241)
    all_goals
      go_wp2_with fail
      all_goals go_meet
      all_goals
        case rel =>
          refine ⟨congrArg Value.bool ?_, rfl⟩
          simp at h240 h241
          rw [Bool.eq_iff_iff]
          simp [Fl.recOk, Fl.keyOk]
          omega
  case rest =>
    obtain ⟨rfl, rfl⟩ := hcut
    cases hr : Fl.recOk key value
    · have H : Hid (Fl.record key value = []) := by show Fl.record key value = []; unfold Fl.record; rw [hr]; rfl
      go_wp2_with fail
      go_ret
      exact ⟨_, rfl, by rw [H.out]; exact ⟨rfl, .inl ⟨rfl, rfl⟩⟩, Below.refl _ _⟩
    · have H : Hid (Fl.record key value = Fl.full key value) := by show Fl.record key value = _; unfold Fl.record; rw [hr]; rfl
      obtain ⟨k1, k2⟩ := recOk_val hr
      go_wp2_with fail
      have hB : OwnB (w.alloc (.cells #[.int .u8 (key % 256), .int .u8 (value / 4294967296), .int .u8 (value / 16777216 % 256), .int .u8 (value / 65536 % 256), .int .u8 (value / 256 % 256), .int .u8 (value % 256)] 5)) 0 (.slice (some ⟨w.heap.size, 0, none⟩) 6 6) (Fl.body key value) :=
        OwnB.mk (l := Fl.body key value) (Nat.zero_le _) (alloc_new _ _) (Nat.le_refl _) (by simp [maxLen, Fl.body]) rfl (by rw [body_cells key value k1 k2]; rfl)
      refine (check_any _ _ _ _ _ hB.bs').mono ?_
      rintro e w' ⟨rfl, rfl⟩
      have hz := Fl.check_lt (Fl.body key value)
      obtain ⟨z, hz0⟩ : ∃ z : Int, z = (Fl.check (Fl.body key value) : Nat) := ⟨_, rfl⟩
      have z1 : 0 ≤ z := by omega
      have z2 : z < 32768 := by omega
      rw [← hz0]
      have HZ := Lib.hid hz0
      clear hz hz0 hB
      go_wp2_with fail
      go_ret
      have hc := cap_bd 8 6 5 (w.tape w.drawn (Question.appendCap 8 6 5)) (by omega)
      refine ⟨_, rfl, ?_, below_drewN (((pure_alloc w _).alloc (by simp) _).alloc (by simp; omega) _) 1⟩
      rw [H.out]
      have hf := full_cells key value k1 k2 HZ.out
      exact OwnB.mk (l := Fl.full key value) (w := (World.alloc _ _)) (by omega) (alloc_new' _ _ _ (by simp)) hc.1 hc.2 (by simp [zero_size]; omega) (by rw [hf]; simp [Fl.full, Fl.body])
set_option maxHeartbeats 800000 in
theorem recordR_any (key value : Int) (w : World) (b1 : -9223372036854775808 ≤ key) (b2 : key ≤ 9223372036854775807) (b3 : -9223372036854775808 ≤ value) (b4 : value ≤ 9223372036854775807) :
    Calls Try.prog 15 #[.int .i64 key, .int .i64 value] w (RecPost key value w) := by
  go_enter Try.func15, Try.ntmps15
  go_upto_region 1 with fail
  go_cut [28] (fun s wx => s = .bool (!Fl.recOk key value) ∧ w = wx)
  case first =>
    cases h240 : (key != 240) <;> cases h241 : (key != 241)
    all_goals
      go_wp2_with fail
      all_goals go_meet
      all_goals
        case rel =>
          refine ⟨congrArg Value.bool ?_, rfl⟩
          simp at h240 h241
          rw [Bool.eq_iff_iff]
          simp [Fl.recOk, Fl.keyOk]
          omega
  case rest =>
    obtain ⟨rfl, rfl⟩ := hcut
    cases hr : Fl.recOk key value
    · have H : Hid (Fl.record key value = []) := by show Fl.record key value = []; unfold Fl.record; rw [hr]; rfl
      go_wp2_with fail
      go_ret
      exact ⟨_, rfl, by rw [H.out]; exact ⟨rfl, .inl ⟨rfl, rfl⟩⟩, Below.refl _ _⟩
    · have H : Hid (Fl.record key value = Fl.full key value) := by show Fl.record key value = _; unfold Fl.record; rw [hr]; rfl
      obtain ⟨k1, k2⟩ := recOk_val hr
      go_wp2_with fail
      have hB : OwnB (w.alloc (.cells #[.int .u8 (key % 256), .int .u8 (value / 4294967296), .int .u8 (value / 16777216 % 256), .int .u8 (value / 65536 % 256), .int .u8 (value / 256 % 256), .int .u8 (value % 256)] 5)) 0 (.slice (some ⟨w.heap.size, 0, none⟩) 6 6) (Fl.body key value) :=
        OwnB.mk (l := Fl.body key value) (Nat.zero_le _) (alloc_new _ _) (Nat.le_refl _) (by simp [maxLen, Fl.body]) rfl (by rw [body_cells key value k1 k2]; rfl)
      refine (checkR_any _ _ _ _ _ hB.bs').mono ?_
      rintro e w' ⟨rfl, rfl⟩
      have hz := Fl.check_lt (Fl.body key value)
      obtain ⟨z, hz0⟩ : ∃ z : Int, z = (Fl.check (Fl.body key value) : Nat) := ⟨_, rfl⟩
      have z1 : 0 ≤ z := by omega
      have z2 : z < 32768 := by omega
      rw [← hz0]
      have HZ := Lib.hid hz0
      clear hz hz0 hB
      go_wp2_with fail
      go_ret
      have hc := cap_bd 8 6 5 (w.tape w.drawn (Question.appendCap 8 6 5)) (by omega)
      refine ⟨_, rfl, ?_, below_drewN (((pure_alloc w _).alloc (by simp) _).alloc (by simp; omega) _) 1⟩
      rw [H.out]
      have hf := full_cells key value k1 k2 HZ.out
      exact OwnB.mk (l := Fl.full key value) (w := (World.alloc _ _)) (by omega) (alloc_new' _ _ _ (by simp)) hc.1 hc.2 (by simp [zero_size]; omega) (by rw [hf]; simp [Fl.full, Fl.body])
end Go.Proofs.Ytnfjfifdkmgbdaa
