/- Walks of Check, of the program and of the reference: both return the check of the bytes. -/
import Derived.Test.YtnfjfifdkmgbdaaBa
namespace Go.Proofs.Ytnfjfifdkmgbdaa
open Go.RowKit

theorem take_snoc (l : List UInt8) (k : Nat) (h : k < l.length) : l.take (k + 1) = l.take k ++ [l.getD k 0] := by
  rw [List.take_succ_eq_append_getElem h]; simp [h]

/-- One bit of the check, as the walk writes it. -/
def crcZ (z : Int) : Int := if 65536 ≤ z * 2 then bits .xor .i64 (bits .and .i64 (z * 2) 65535) 4129 else z * 2
theorem mask_step (c : Nat) (hc : c < 65536) : bits .xor .i64 (bits .and .i64 ((c : Int) * 2) 65535) 4129 = (((c * 2 % 65536) ^^^ 4129 : Nat) : Int) := by
  have h1 := i64_and (c * 2) 65535 (by omega) (by omega)
  rw [Fl.and_mask] at h1
  have h2 := i64_xor (c * 2 % 65536) 4129 (by omega) (by omega)
  rw [← h2, ← h1]
  have e : ((c * 2 : Nat) : Int) = (c : Int) * 2 := by omega
  rw [e]; rfl
theorem crcZ_nat (c : Nat) (hc : c < 65536) : ((Fl.crcBit c : Nat) : Int) = crcZ c := by
  unfold Fl.crcBit crcZ
  by_cases h : 65536 ≤ c * 2
  · rw [if_pos h, if_pos (by omega), mask_step c hc, show c * 2 % 65536 = c * 2 - 65536 by omega]
  · rw [if_neg h, if_neg (by omega)]; omega
theorem crcZ_eq {z : Int} {j c1 : Nat} (h : z = (Fl.crcBits j c1 : Nat)) (hc : Fl.crcBits j c1 < 65536) : ((Fl.crcBits (j + 1) c1 : Nat) : Int) = crcZ z := by
  rw [h]; exact crcZ_nat _ hc
theorem crcZ_bd (z : Int) (h1 : 0 ≤ z) (h2 : z < 65536) : 0 ≤ crcZ z ∧ crcZ z < 65536 := by
  obtain ⟨c, rfl⟩ := Int.eq_ofNat_of_zero_le h1
  have := Fl.crcBit_lt (c := c) (by omega)
  rw [← crcZ_nat c (by omega)]; omega
set_option maxHeartbeats 800000 in
set_option maxRecDepth 100000 in
theorem check_any (a : Option Addr) (len cap : Nat) (l : List UInt8) (w : World) (h : Bs w a len l) :
    Calls Try.prog 10 #[.slice a len cap] w fun e w' => e = .returned (.int .i64 (Fl.check l : Nat)) ∧ w = w' := by
  obtain ⟨h1, h2, h3⟩ := h
  have H1 := Lib.hid h1
  have H3 := Lib.hid h3
  clear h1 h3
  go_enter Try.func10, Try.ntmps10
  go_wp2
  go_loop [3, 9] (fun c i => ∃ k : Nat, k ≤ len ∧ i = .int .i64 k ∧ c = .int .i64 (Fl.crc (l.take k) : Nat)) (fun _ i => len - (intOf i).toNat)
  case atStart => exact ⟨0, Nat.zero_le _, rfl, rfl⟩
  case round =>
    obtain ⟨k, hk, rfl, rfl⟩ := hrel
    have hlt := Fl.crc_lt (l.take k)
    by_cases hlk : k < len
    · obtain ⟨b, o, e1, e2⟩ := H3.out k hlk
      have hby := Fl.byte_lt (l.getD k 0)
      have hs : Fl.crc (l.take (k + 1)) = Fl.crcByte (Fl.crc (l.take k)) (l.getD k 0) := by rw [take_snoc l k (by have := H1.out; omega), Fl.crc_snoc]
      have HS := Lib.hid hs
      clear hs
      generalize l.getD k 0 = x at *
      generalize Fl.crc (l.take k) = c0 at *
      have e3 : bits .xor .i64 (c0 : Int) ((x.toNat : Int) * 256) = ((c0 ^^^ (x.toNat * 256) : Nat) : Int) := by
        have := i64_xor c0 (x.toNat * 256) (by omega) (by omega)
        rw [← this]; simp
      subst e1
      go_wp2
      have hx := Fl.xor_lt hlt (show x.toNat * 256 < 65536 by omega)
      have hsd : Fl.crcByte c0 x = Fl.crcBits 8 (c0 ^^^ x.toNat * 256) := rfl
      have HS2 : Hid (Fl.crc (List.take (k + 1) l) = Fl.crcBits 8 (c0 ^^^ x.toNat * 256)) := HS.out.trans hsd
      clear HS hsd
      generalize c0 ^^^ x.toNat * 256 = c1 at *
      clear e3
      go_loop [3, 6] (fun c i => ∃ (j : Nat) (z : Int), j ≤ 8 ∧ i = .int .i64 j ∧ c = .int .i64 z ∧ Hid (z = (Fl.crcBits j c1 : Nat)) ∧ 0 ≤ z ∧ z < 65536) (fun _ i => 8 - (intOf i).toNat)
      case atStart => exact ⟨0, _, Nat.zero_le _, rfl, rfl, rfl, by omega, by omega⟩
      case round =>
        obtain ⟨j, z, hj, rfl, rfl, hz, hz1, hz2⟩ := hrel
        have hc := Fl.crcBits_lt hx j
        by_cases hj8 : j < 8
        · have HN : Hid (((Fl.crcBits (j + 1) c1 : Nat) : Int) = crcZ z) := crcZ_eq hz.out hc
          have hb := crcZ_bd z hz1 hz2
          have HB := Lib.hid hb
          clear hb hc hx
          by_cases h6 : 65536 ≤ z * 2
          · obtain ⟨m2, e4⟩ : ∃ m2, m2 = bits .xor .i64 (bits .and .i64 (z * 2) 65535) 4129 := ⟨_, rfl⟩
            have hm : crcZ z = m2 := by unfold crcZ; rw [if_pos h6, e4]
            have HM := Lib.hid hm
            have E4 := e4.symm
            clear hm e4
            go_wp2
            go_round
            case rel => exact ⟨j + 1, m2, by omega, by go_num, rfl, by rw [← HM.out, ← HN.out]; rfl, by rw [← HM.out]; exact HB.out.1, by rw [← HM.out]; exact HB.out.2⟩
            case measure => simp [intOf]; omega
          · have hm : crcZ z = z * 2 := by unfold crcZ; rw [if_neg h6]
            have HM := Lib.hid hm
            clear hm
            go_wp2
            go_round
            case rel => exact ⟨j + 1, z * 2, by omega, by go_num, rfl, by rw [← HM.out, ← HN.out]; rfl, by omega, by omega⟩
            case measure => simp [intOf]; omega
        · obtain rfl : j = 8 := by omega
          clear hc
          go_wp2
          go_round
          case rel => exact ⟨k + 1, by omega, by go_num, by rw [HS2.out, hz.out]⟩
          case measure => simp [intOf]; omega
    · obtain rfl : k = len := by omega
      go_wp2
      go_ret
      exact ⟨ret_int (by rw [List.take_of_length_le (by have := H1.out; omega)]; simp [Fl.check]), rfl⟩
theorem crcZ_R (z : Int) (h1 : 0 ≤ z) (h2 : z < 65536) (h : 65536 ≤ z * 2) : crcZ z = bits .xor .i64 (z * 2 - 65536) 4129 := by
  obtain ⟨c, rfl⟩ := Int.eq_ofNat_of_zero_le h1
  unfold crcZ
  rw [if_pos h, mask_step c (by omega)]
  have h2 := i64_xor (c * 2 % 65536) 4129 (by omega) (by omega)
  rw [← h2]
  have e : ((c * 2 % 65536 : Nat) : Int) = (c : Int) * 2 - 65536 := by omega
  rw [e]; rfl
set_option maxHeartbeats 800000 in
set_option maxRecDepth 100000 in
theorem checkR_any (a : Option Addr) (len cap : Nat) (l : List UInt8) (w : World) (h : Bs w a len l) :
    Calls Try.prog 11 #[.slice a len cap] w fun e w' => e = .returned (.int .i64 (Fl.check l : Nat)) ∧ w = w' := by
  obtain ⟨h1, h2, h3⟩ := h
  have H1 := Lib.hid h1
  have H3 := Lib.hid h3
  clear h1 h3
  go_enter Try.func11, Try.ntmps11
  go_wp2
  go_loop [3, 9] (fun c i => ∃ k : Nat, k ≤ len ∧ i = .int .i64 k ∧ c = .int .i64 (Fl.crc (l.take k) : Nat)) (fun _ i => len - (intOf i).toNat)
  case atStart => exact ⟨0, Nat.zero_le _, rfl, rfl⟩
  case round =>
    obtain ⟨k, hk, rfl, rfl⟩ := hrel
    have hlt := Fl.crc_lt (l.take k)
    by_cases hlk : k < len
    · obtain ⟨b, o, e1, e2⟩ := H3.out k hlk
      have hby := Fl.byte_lt (l.getD k 0)
      have hs : Fl.crc (l.take (k + 1)) = Fl.crcByte (Fl.crc (l.take k)) (l.getD k 0) := by rw [take_snoc l k (by have := H1.out; omega), Fl.crc_snoc]
      have HS := Lib.hid hs
      clear hs
      generalize l.getD k 0 = x at *
      generalize Fl.crc (l.take k) = c0 at *
      have e3 : bits .xor .i64 (c0 : Int) ((x.toNat : Int) * 256) = ((c0 ^^^ (x.toNat * 256) : Nat) : Int) := by
        have := i64_xor c0 (x.toNat * 256) (by omega) (by omega)
        rw [← this]; simp
      subst e1
      go_wp2
      have hx := Fl.xor_lt hlt (show x.toNat * 256 < 65536 by omega)
      have hsd : Fl.crcByte c0 x = Fl.crcBits 8 (c0 ^^^ x.toNat * 256) := rfl
      have HS2 : Hid (Fl.crc (List.take (k + 1) l) = Fl.crcBits 8 (c0 ^^^ x.toNat * 256)) := HS.out.trans hsd
      clear HS hsd
      generalize c0 ^^^ x.toNat * 256 = c1 at *
      clear e3
      go_loop [3, 6] (fun c i => ∃ (j : Nat) (z : Int), j ≤ 8 ∧ i = .int .i64 j ∧ c = .int .i64 z ∧ Hid (z = (Fl.crcBits j c1 : Nat)) ∧ 0 ≤ z ∧ z < 65536) (fun _ i => 8 - (intOf i).toNat)
      case atStart => exact ⟨0, _, Nat.zero_le _, rfl, rfl, rfl, by omega, by omega⟩
      case round =>
        obtain ⟨j, z, hj, rfl, rfl, hz, hz1, hz2⟩ := hrel
        have hc := Fl.crcBits_lt hx j
        by_cases hj8 : j < 8
        · have HN : Hid (((Fl.crcBits (j + 1) c1 : Nat) : Int) = crcZ z) := crcZ_eq hz.out hc
          have hb := crcZ_bd z hz1 hz2
          have HB := Lib.hid hb
          clear hb hc hx
          by_cases h6 : 65536 ≤ z * 2
          · obtain ⟨m2, e4⟩ : ∃ m2, m2 = bits .xor .i64 (z * 2 - 65536) 4129 := ⟨_, rfl⟩
            have hm : crcZ z = m2 := by rw [crcZ_R z hz1 hz2 h6, e4]
            have HM := Lib.hid hm
            have E4 := e4.symm
            clear hm e4
            go_wp2
            go_round
            case rel => exact ⟨j + 1, m2, by omega, by go_num, rfl, by rw [← HM.out, ← HN.out]; rfl, by rw [← HM.out]; exact HB.out.1, by rw [← HM.out]; exact HB.out.2⟩
            case measure => simp [intOf]; omega
          · have hm : crcZ z = z * 2 := by unfold crcZ; rw [if_neg h6]
            have HM := Lib.hid hm
            clear hm
            go_wp2
            go_round
            case rel => exact ⟨j + 1, z * 2, by omega, by go_num, rfl, by rw [← HM.out, ← HN.out]; rfl, by omega, by omega⟩
            case measure => simp [intOf]; omega
        · obtain rfl : j = 8 := by omega
          clear hc
          go_wp2
          go_round
          case rel => exact ⟨k + 1, by omega, by go_num, by rw [HS2.out, hz.out]⟩
          case measure => simp [intOf]; omega
    · obtain rfl : k = len := by omega
      go_wp2
      go_ret
      exact ⟨ret_int (by rw [List.take_of_length_le (by have := H1.out; omega)]; simp [Fl.check]), rfl⟩
end Go.Proofs.Ytnfjfifdkmgbdaa
