/- The walk of read. -/
import Derived.Test.YtnfjfifdkmgbdaaWc
namespace Go.Proofs.Ytnfjfifdkmgbdaa
open Go.RowKit

/-- 'string(b)' of a slice that holds the bytes l. -/
theorem str_of_bs {w : World} {a : Option Addr} {len : Nat} {l : List UInt8} (h : Bs w a len l) (cap : Nat) : (convert 22 9 (.slice a len cap)).run Try.prog w = .ok (.string ⟨l.toArray⟩) w := by
  obtain ⟨h1, h2, h3⟩ := h
  subst h1
  cases l with
  | nil =>
    rw [run_convert_bytes_string w 22 9 5 a _ cap Try.underlying22 Try.underlying5 Try.underlying9]
    cases a with
    | none => simp [Conv.bytesToString]; rfl
    | some a =>
      rw [← run_convert_bytes_string w 22 9 5 _ _ cap Try.underlying22 Try.underlying5 Try.underlying9]
      exact run_convert_bytes_back w 22 9 5 a cap [] Try.underlying22 Try.underlying5 Try.underlying9 (fun j hj => absurd hj (by simp))
  | cons x l =>
    obtain ⟨b, o, rfl, _⟩ := h3 0 (by simp)
    refine run_convert_bytes_back w 22 9 5 _ cap (x :: l) Try.underlying22 Try.underlying5 Try.underlying9 fun j hj => ?_
    obtain ⟨b', o', e1, e2⟩ := h3 j hj
    simp only [Option.some.injEq, Addr.mk.injEq, and_true] at e1
    obtain ⟨rfl, rfl⟩ := e1
    have hadd : (⟨b, o, none⟩ : Addr).add j = ⟨b, o + j, none⟩ := by unfold Addr.add; split <;> simp_all
    rw [hadd, e2]
    simp [List.getElem?_eq_getElem hj]

theorem bs_of_arr {w : World} {g : Nat} {l : List UInt8} (h : w.heap[g]? = some (.cells (l.map bv).toArray 5 (0, 0))) (hl : l.length ≤ 9223372036854775807) : Bs w (some ⟨g, 0, none⟩) l.length l := by
  refine ⟨rfl, hl, fun i hi => ⟨g, 0, rfl, ?_⟩⟩
  rw [cell_of_arr h]
  simp [hi, bv]

/-- From here on the world stays as it is: what is left only reads. -/
theorem wpAnyH_weaken {P : Program} {md : Region.Mode} {ops : Array Oper} {Q : Exit → Act → World → Prop} {S S' : World → Prop} (h : ∀ W, S' W → S W) : ∀ (fuel : Nat) (listed : Array Bool) (a : Act) (w : World), wpAnyH P md ops Q S' fuel listed a w → wpAnyH P md ops Q S fuel listed a w
  | 0, _, _, _, k => k
  | fuel + 1, _, _, _, k => ⟨k.1, fun i hi => wpOp_mono (fun a' w' k' => ⟨h _ k'.1, wpAnyH_weaken h fuel _ a' w' k'.2⟩) (k.2 i hi)⟩
theorem wpAnyH_at {P : Program} {md : Region.Mode} {ops : Array Oper} {Q : Exit → Act → World → Prop} {S : World → Prop} {fuel : Nat} {listed : Array Bool} {a : Act} {w : World} (hS : S w) (h : wpAnyH P md ops Q (fun W => W = w) fuel listed a w) : wpAnyH P md ops Q S fuel listed a w :=
  wpAnyH_weaken (fun W e => e ▸ hS) fuel listed a w h
def ReadPost (p : List UInt8) (n : Nat) (w : World) (e : Ending) (w' : World) : Prop :=
  e = .returned (.tuple #[.int .i64 (Fl.keyAt p n : Nat), .int .i64 (Fl.valAt p n : Nat), .bool (Fl.goodAt p n)]) ∧ Below w.heap.size w w'

set_option maxHeartbeats 800000 in
theorem read_any (a : Option Addr) (len cap : Nat) (p : List UInt8) (n : Nat) (w : World) (h : Bs w a len p) (hn : n ≤ 1000000) :
    Calls Try.prog 55 #[.slice a len cap, .int .i64 n] w (ReadPost p n w) := by
  have H := Lib.hid h
  clear h
  go_enter Try.func55, Try.ntmps55
  go_wp2_with fail
  refine (slot_any _ _ _ _ _ _ H.out hn).mono ?_
  rintro e w1 ⟨g, rfl, hg, hb, hw⟩
  have HB := Lib.hid hb
  have HW := Lib.hid hw
  have hcell : ∀ i, i < 8 → w1.cell? ⟨g, i, none⟩ = some (.int .u8 (Fl.at255 p (n * 8 + i)).toNat) := fun i hi => by
    rw [cell_of_arr hb]
    have := Fl.slotB_get p n i hi
    simp [hi, Fl.slotB_length, bv, ← this, List.getElem?_eq_getElem (show i < (Fl.slotB p n).length from hi)]
  have HC := Lib.hid hcell
  have hgl := lt_of_block hb
  clear hb hw hcell
  go_wp2_with fail
  go_loop [8, 17] (fun v i => ∃ k : Nat, k ≤ 5 ∧ i = .int .i64 k ∧ v = .int .i64 (Fl.valK p n k : Nat)) (fun _ i => 5 - (intOf i).toNat)
  case atStart => exact ⟨0, by omega, rfl, rfl⟩
  case round =>
    obtain ⟨k, hk, rfl, rfl⟩ := hrel
    have hv := Fl.valK_lt p n k
    by_cases hk5 : k < 5
    · have hv2 : Fl.valK p n k < 4294967296 := Nat.lt_of_lt_of_le hv (Nat.pow_le_pow_right (by omega) (show k ≤ 4 by omega))
      have e1 := HC.out (k + 1) (by omega)
      have e2 : Fl.valK p n (k + 1) = Fl.valK p n k * 256 + (Fl.at255 p (n * 8 + (k + 1))).toNat := rfl
      have E2 := Lib.hid e2
      have hx := Fl.byte_lt (Fl.at255 p (n * 8 + (k + 1)))
      clear e2 hv
      generalize Fl.at255 p (n * 8 + (k + 1)) = x at *
      generalize Fl.valK p n k = v0 at *
      have e3 : bits .or .i64 ((v0 : Int) * 256) (x.toNat : Int) = ((v0 * 256 + x.toNat : Nat) : Int) := by
        have := i64_or (v0 * 256) x.toNat (by omega) (by omega)
        rw [Fl.or_byte _ _ hx] at this; rw [← this]; simp
      rw [Nat.add_comm k 1] at e1
      go_wp2_with fail
      go_round
      case rel => exact ⟨k + 1, by omega, by go_num, by rw [E2.out]; go_num⟩
      case measure => simp [intOf]; omega
    · obtain rfl : k = 5 := by omega
      clear hv
      rw [Fl.valK_five]
      have hvl := Fl.valAt_lt p n
      have hkl := Fl.keyAt_lt p n
      have c0 : w1.cell? ⟨g, 0, none⟩ = some (.int .u8 (Fl.keyAt p n : Nat)) := HC.out 0 (by omega)
      have hcv : ∀ W : World, W.heap[g]? = some (.cells ((Fl.slotB p n).map bv).toArray 5 (0, 0)) → (convert 22 9 (.slice (some ⟨g, 0, none⟩) 8 8)).run Try.prog W = .ok (.string ⟨(Fl.slotB p n).toArray⟩) W := fun W hW => str_of_bs (bs_of_arr hW (by simp [Fl.slotB_length])) 8
      have G0 : Hid (Fl.goodAt p n = (Fl.record (Fl.keyAt p n : Nat) (Fl.valAt p n : Nat) == Fl.slotB p n)) := rfl
      have hb := HB.out
      generalize hkn : Fl.keyAt p n = kn at *
      generalize hvn : Fl.valAt p n = vn at *
      have HKN := Lib.hid hkn
      have HVN := Lib.hid hvn
      clear hkn hvn
      generalize Fl.slotB p n = sb at *
      go_upto_region 8 with fail
      have hwr : IntKind.i64.wrap (kn : Int) = (kn : Int) := wrap_i64 _ (by omega) (by omega)
      have REC : Hid (∀ W, Calls Try.prog 14 #[.int .i64 (kn : Int), .int .i64 (vn : Int)] W (RecPost kn vn W)) := fun W => record_any kn vn W (by omega) (by omega) (by omega) (by omega)
      clear hkl hvl
      refine wp_region_held_drew (S := fun w' => w'.heap[g]? = some (.cells (sb.map bv).toArray 5 (0, 0)) ∧ w'.cell? ⟨g, 0, none⟩ = some (.int .u8 (kn : Nat))) (by kernel_rfl) ⟨hb, c0⟩ (fun hHeld => ?_)
      refine wpAnyH_take (i := 0) (v := ?_) rfl (by kernel_rfl) (by kernel_rfl) (by kernel_rfl) (fun _ _ _ h => h) (Or.inl ⟨by rfl, ?_⟩) hHeld ?_
      rotate_left
      · (intro W hSw; (try dsimp only at hSw); go_simp; try with_reducible rfl)
      try simp only [Act.put, List.setIfInBounds_toArray, List.set_cons_zero, List.set_cons_succ]
      refine wpAnyH_take (i := 1) (v := ?_) rfl (by kernel_rfl) (by kernel_rfl) (by kernel_rfl) (fun _ _ _ h => h) (Or.inl ⟨by rfl, ?_⟩) hHeld ?_
      rotate_left
      · (intro W hSw; (try dsimp only at hSw); go_simp; try with_reducible rfl)
      try simp only [Act.put, List.setIfInBounds_toArray, List.set_cons_zero, List.set_cons_succ]
      refine wpAnyH_take (i := 2) (v := ?_) rfl (by kernel_rfl) (by kernel_rfl) (by kernel_rfl) (fun _ _ _ h => h) (Or.inl ⟨by rfl, ?_⟩) hHeld ?_
      rotate_left
      · (intro W hSw; (try dsimp only at hSw); go_simp; try with_reducible rfl)
      try simp only [Act.put, List.setIfInBounds_toArray, List.set_cons_zero, List.set_cons_succ]
      refine wpAnyH_take (i := 3) (v := ?_) rfl (by kernel_rfl) (by kernel_rfl) (by kernel_rfl) (fun _ _ _ h => h) (Or.inl ⟨by rfl, ?_⟩) hHeld ?_
      rotate_left
      · (intro W hSw; (try dsimp only at hSw); go_simp; try with_reducible rfl)
      try simp only [Act.put, List.setIfInBounds_toArray, List.set_cons_zero, List.set_cons_succ]
      refine wpAnyH_take (i := 4) (v := ?_) rfl (by kernel_rfl) (by kernel_rfl) (by kernel_rfl) (fun _ _ _ h => h) (Or.inl ⟨by rfl, ?_⟩) hHeld ?_
      rotate_left
      · (intro W hSw; (try dsimp only at hSw); go_simp; try with_reducible rfl)
      try simp only [Act.put, List.setIfInBounds_toArray, List.set_cons_zero, List.set_cons_succ]
      refine wpAnyH_take (i := 5) (v := ?_) rfl (by kernel_rfl) (by kernel_rfl) (by kernel_rfl) (fun _ _ _ h => h) (Or.inl ⟨by rfl, ?_⟩) hHeld ?_
      rotate_left
      · (intro W hSw; (try dsimp only at hSw); go_simp; try with_reducible rfl)
      try simp only [Act.put, List.setIfInBounds_toArray, List.set_cons_zero, List.set_cons_succ]
      refine wpAnyH_take (i := 6) (v := ?_) rfl (by kernel_rfl) (by kernel_rfl) (by kernel_rfl) (fun _ _ _ h => h) (Or.inl ⟨by rfl, ?_⟩) hHeld ?_
      rotate_left
      · (intro W hSw; (try dsimp only at hSw); go_simp; try with_reducible rfl)
      try simp only [Act.put, List.setIfInBounds_toArray, List.set_cons_zero, List.set_cons_succ]
      refine wpAnyH_take (i := 7) (v := ?_) rfl (by kernel_rfl) (by kernel_rfl) (by kernel_rfl) (fun _ _ _ h => h) (Or.inl ⟨by rfl, ?_⟩) hHeld ?_
      rotate_left
      · (intro W hSw; (try dsimp only at hSw); go_simp; try with_reducible rfl)
      try simp only [Act.put, List.setIfInBounds_toArray, List.set_cons_zero, List.set_cons_succ]
      refine wpAnyH_take (i := 8) (v := ?_) rfl (by kernel_rfl) (by kernel_rfl) (by kernel_rfl) (fun _ _ _ h => h) (Or.inl ⟨by rfl, ?_⟩) hHeld ?_
      rotate_left
      · (intro W hSw; (try dsimp only at hSw); go_simp; try with_reducible rfl)
      try simp only [Act.put, List.setIfInBounds_toArray, List.set_cons_zero, List.set_cons_succ]
      refine wpAnyH_take (i := 9) (v := ?_) rfl (by kernel_rfl) (by kernel_rfl) (by kernel_rfl) (fun _ _ _ h => h) (Or.inl ⟨by rfl, ?_⟩) hHeld ?_
      rotate_left
      · (intro W hSw; (try dsimp only at hSw); go_simp; try with_reducible rfl)
      try simp only [Act.put, List.setIfInBounds_toArray, List.set_cons_zero, List.set_cons_succ]
      refine wpAnyH_take (i := 12) (v := ?_) rfl (by kernel_rfl) (by kernel_rfl) (by kernel_rfl) (fun _ _ _ h => h) (Or.inl ⟨by rfl, ?_⟩) hHeld ?_
      rotate_left
      · (intro W hSw; (try dsimp only at hSw); go_simp; try with_reducible rfl)
      try simp only [Act.put, List.setIfInBounds_toArray, List.set_cons_zero, List.set_cons_succ]
      refine wpAnyH_take (i := 13) (v := ?_) rfl (by kernel_rfl) (by kernel_rfl) (by kernel_rfl) (fun _ _ _ h => h) (Or.inl ⟨by rfl, ?_⟩) hHeld ?_
      rotate_left
      · (intro W hSw; (try dsimp only at hSw); go_simp; try with_reducible rfl)
      try simp only [Act.put, List.setIfInBounds_toArray, List.set_cons_zero, List.set_cons_succ]
      refine wpAnyH_ready (rs := [10]) (by kernel_rfl) (by simp) (AllReadyH.cons rfl (fun K hK => ?_) AllReadyH.nil)
      go_simp
      refine (REC.out _).mono ?_
      rintro e w2 ⟨v, rfl, ho, hbl⟩
      obtain ⟨a2, cap2, rfl, hbs⟩ := ho.bs
      refine hK.out _ _ ⟨Below.keep hbl hb (by simpa using hgl), (hbl.cell (p := ⟨g, 0, none⟩) (by simpa using hgl)).trans c0⟩ (fun hHeld2 => ?_)
      clear hK
      try simp only [Act.put, List.setIfInBounds_toArray, List.set_cons_zero, List.set_cons_succ]
      refine wpAnyH_at hHeld2 ?_
      have hcv2 := str_of_bs hbs cap2
      refine wpAnyH_take (i := 11) (v := ?_) rfl (by kernel_rfl) (by kernel_rfl) (by kernel_rfl) (fun _ _ _ h => h) (Or.inl ⟨by rfl, ?_⟩) (Eq.refl w2) ?_
      rotate_left
      · (intro W hSw; (try dsimp only at hSw); go_simp; try with_reducible rfl)
      try simp only [Act.put, List.setIfInBounds_toArray, List.set_cons_zero, List.set_cons_succ]
      refine wpAnyH_take (i := 14) (v := ?_) rfl (by kernel_rfl) (by kernel_rfl) (by kernel_rfl) (fun _ _ _ h => h) (Or.inl ⟨by rfl, ?_⟩) (Eq.refl w2) ?_
      rotate_left
      · (intro W hSw; (try dsimp only at hSw); go_simp; try with_reducible rfl)
      try simp only [Act.put, List.setIfInBounds_toArray, List.set_cons_zero, List.set_cons_succ]
      refine wpAnyH_take (i := 15) (v := ?_) rfl (by kernel_rfl) (by kernel_rfl) (by kernel_rfl) (fun _ _ _ h => h) (Or.inl ⟨by rfl, ?_⟩) (Eq.refl w2) ?_
      rotate_left
      · (intro W hSw; (try dsimp only at hSw); go_simp; try with_reducible rfl)
      try simp only [Act.put, List.setIfInBounds_toArray, List.set_cons_zero, List.set_cons_succ]
      refine wpAnyH_take (i := 16) (v := ?_) rfl (by kernel_rfl) (by kernel_rfl) (by kernel_rfl) (fun _ _ _ h => h) (Or.inl ⟨by rfl, ?_⟩) (Eq.refl w2) ?_
      rotate_left
      · (intro W hSw; (try dsimp only at hSw); go_simp; try with_reducible rfl)
      try simp only [Act.put, List.setIfInBounds_toArray, List.set_cons_zero, List.set_cons_succ]
      refine wpAnyH_take (i := 17) (v := ?_) rfl (by kernel_rfl) (by kernel_rfl) (by kernel_rfl) (fun _ _ _ h => h) (Or.inl ⟨by rfl, ?_⟩) (Eq.refl w2) ?_
      rotate_left
      · (intro W hSw; (try dsimp only at hSw); go_simp; try with_reducible rfl)
      try simp only [Act.put, List.setIfInBounds_toArray, List.set_cons_zero, List.set_cons_succ]
      refine wpAnyH_done (by kernel_rfl) ?_ _
      simp only [Act.put, List.setIfInBounds_toArray, List.set_cons_zero, List.set_cons_succ, List.getElem_toArray, List.getElem_cons_succ, List.getElem_cons_zero]
      go_wp2_with fail
      go_ret3
      exact ⟨by rw [HKN.out, HVN.out, G0.out]; rfl, HW.out.drew.trans (hbl.mono (Nat.le_trans HW.out.size (Nat.le_refl _)))⟩
end Go.Proofs.Ytnfjfifdkmgbdaa
