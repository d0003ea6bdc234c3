/- The walk of the reference's slots. -/
import Derived.Test.YtnfjfifdkmgbdaaXe
namespace Go.Proofs.Ytnfjfifdkmgbdaa
open Go.RowKit Go.Shelf
namespace Fl
def slotCells (p : List UInt8) : Nat → List Value
  | 0 => []
  | n + 1 => slotCells p n ++ [.int .i64 (keyAt p n : Nat), .int .i64 (valAt p n : Nat), .bool (goodAt p n)]
theorem slotCells_length (p : List UInt8) (n : Nat) : (slotCells p n).length = n * 3 := by
  induction n with
  | zero => rfl
  | succ n ih => simp only [slotCells, List.length_append, ih, List.length_cons, List.length_nil]; omega
end Fl
theorem inf91 : (Try.prog.info? 91).map (fun i => (i.zero, i.size, i.bytes)) = some (some (.agg #[.int .i64 0, .int .i64 0, .bool false]), 3, 24) := by kernel_rfl
theorem app_slots (w : World) (base : Nat) (v : Value) (n : Nat) (xs : List Value) (h : w.ownsRow base 91 3 v n xs) (a : Nat) (c : Nat) (x y z : Value) (h1 : w.heap[a]? = some (.cells #[x, y, z] 91 (0, 0))) (hx : x.oneCell' = true) (hy : y.oneCell' = true) (hz : z.oneCell' = true) (hsz : n ≤ 1000000) (hb : base ≤ w.heap.size) :
    ∃ v' w', (Builtin.append_ #[88, 88] 88 #[v, .slice (some ⟨a, 0, none⟩) 1 c]).run Try.prog w = .ok v' w' ∧ w'.ownsRow base 91 3 v' (n + 1) (xs ++ [x, y, z]) ∧ w.grownBy w' v.ownBlock ∧ (v'.ownBlock = v.ownBlock ∨ v'.ownBlock = some w.heap.size) := by
  obtain ⟨i0, hi, hz0, hz1, hz2⟩ := info_parts inf91
  have c0 := cell_of_arr h1 0
  have c1 := cell_of_arr h1 1
  have c2 := cell_of_arr h1 2
  simp at c0 c1 c2
  obtain ⟨v', w', h2, h3, h4, _, h5⟩ := run_append_own_at (P := Try.prog) w base 88 88 91 i0 _ 3 24 Try.underlying88 hi hz0 hz1 hz2 rfl (by omega) v n xs h ⟨a, 0, none⟩ 1 c [x, y, z] rfl (fun j u hu => by
    rcases (show j = 0 ∨ j = 1 ∨ j = 2 ∨ 3 ≤ j by omega) with rfl | rfl | rfl | hj
    · simp at hu; subst hu; exact c0
    · simp at hu; subst hu; exact c1
    · simp at hu; subst hu; exact c2
    · rw [List.getElem?_eq_none (by simpa using hj)] at hu; cases hu) (fun u hu => by simp at hu; rcases hu with rfl | rfl | rfl <;> assumption) (by unfold maxLen; omega) (by omega) hb
  exact ⟨v', w', h2, h3, h4, h5⟩
/-- What a grown row of one's own leaves below its base. -/
theorem below_grown {n : Nat} {w W W' : World} {e size : Nat} {v : Value} {k : Nat} {xs : List Value} (h1 : Below n w W) (hn : n ≤ W.heap.size) (hown : W.ownsRow n e size v k xs) (hgr : W.grownBy W' v.ownBlock) : Below n w W' :=
  ⟨hgr.os.trans h1.os, hgr.tape.trans h1.tape, hgr.output.trans h1.output, Nat.le_trans h1.size hgr.size, fun i hi => (hgr.block i (by omega) fun e => by have := (own_lt hown e.symm).2.1; omega).trans (h1.block i hi)⟩
/-- How good a slot looks after j bytes. -/
def goodJ (r sb : List UInt8) (j : Nat) : Bool := decide (r.take j = sb.take j)
theorem goodJ_zero (r sb : List UInt8) : goodJ r sb 0 = true := by simp [goodJ]
theorem goodJ_succ (r sb : List UInt8) (j : Nat) (hr : j < r.length) (hs : j < sb.length) : goodJ r sb (j + 1) = (goodJ r sb j && (((r.getD j 0).toNat : Int) == ((sb.getD j 0).toNat : Int))) := by
  unfold goodJ
  rw [List.take_succ_eq_append_getElem hr, List.take_succ_eq_append_getElem hs, Bool.eq_iff_iff]
  simp only [decide_eq_true_eq, Bool.and_eq_true, beq_iff_eq]
  simp only [List.getD_eq_getElem?_getD, List.getElem?_eq_getElem hr, List.getElem?_eq_getElem hs, Option.getD_some, Int.natCast_inj]
  constructor
  · intro h
    obtain ⟨h1, h2⟩ := List.append_inj h (by simp; omega)
    exact ⟨h1, by rw [List.cons.inj h2 |>.1]⟩
  · rintro ⟨h1, h2⟩
    rw [h1, UInt8.toNat_inj.1 h2]
theorem goodJ_all (p : List UInt8) (n : Nat) (h : (Fl.record (Fl.keyAt p n) (Fl.valAt p n)).length = 8) : goodJ (Fl.record (Fl.keyAt p n) (Fl.valAt p n)) (Fl.slotB p n) 8 = Fl.goodAt p n := by
  unfold goodJ Fl.goodAt
  rw [List.take_of_length_le (by omega), List.take_of_length_le (by rw [Fl.slotB_length]; omega), Bool.eq_iff_iff]
  simp
theorem good_none (p : List UInt8) (n : Nat) (h : (Fl.record (Fl.keyAt p n) (Fl.valAt p n)).length ≠ 8) : Fl.goodAt p n = false := by
  cases hg : Fl.goodAt p n
  · rfl
  · unfold Fl.goodAt at hg
    rw [beq_iff_eq.1 hg] at h
    exact absurd (Fl.slotB_length p n) h
theorem record_len8 (key v : Int) : (Fl.record key v).length = 8 ∨ Fl.record key v = [] := by
  unfold Fl.record; split
  · left; rfl
  · right; rfl
set_option maxRecDepth 100000 in
set_option maxHeartbeats 1600000 in
theorem slots_any (sz : Int) (pa : Option Addr) (pn pc : Nat) (ea : Option Addr) (en ec : Nat) (q : Nat) (m : Fl.Mem) (w : World) (h : FRep w sz pa pn ea en m) (hs : 0 ≤ sz) (hs2 : sz ≤ 8000) (hq : q < pn) :
    Calls Try.prog 57 #[.agg #[.int .i64 sz, .slice pa pn pc, .slice ea en ec], .int .i64 q] w fun e w' => ∃ v, e = .returned v ∧ w'.ownsRow w.heap.size 91 3 v (sz / 8).toNat (Fl.slotCells (m.pages.getD q []) (sz / 8).toNat) ∧ Below w.heap.size w w' := by
  obtain ⟨b, o, c, len, cap, rfl, e2, e3⟩ := h.pages.2.2 q hq
  have P1 := pure_alloc w (.cells #[.int .i64 sz, .slice (some ⟨b, o, none⟩) pn pc, .slice ea en ec] 32)
  have N1 := alloc_new w (.cells #[.int .i64 sz, .slice (some ⟨b, o, none⟩) pn pc, .slice ea en ec] 32)
  have e4 := (P1.cell (p := ⟨b, o + q, none⟩) (lt_of_cell e2)).trans e2
  have HP := Lib.hid (e3.below P1)
  have hpn := h.pages.2.1
  have E2 := Lib.hid e2
  clear h e2
  generalize m.pages.getD q [] = p at *
  go_enter Try.func57, Try.ntmps57
  go_wp2_with fail
  have E3 := Lib.hid e3
  have HC : Hid (w.cell? ⟨b, o + q, none⟩ = some (.slice c len cap)) := E2.out
  have hbw := lt_of_cell E2.out
  clear e4 e3 E2
  go_loopw [5, 6] (fun v i wr => ∃ k : Nat, i = .int .i64 ((k * 8 : Nat) : Int) ∧ k ≤ (sz / 8).toNat ∧ wr.ownsRow w.heap.size 91 3 v k (Fl.slotCells p k) ∧ Below w.heap.size w wr ∧ wr.heap[w.heap.size]? = some (.cells #[.int .i64 sz, .slice (some ⟨b, o, none⟩) pn pc, .slice ea en ec] 32 (0, 0)) ∧ (∀ g, v.ownBlock = some g → g ≠ w.heap.size)) (fun _ i _ => (sz / 8).toNat * 8 - (intOf i).toNat)
  case atStart => exact ⟨0, rfl, by omega, ⟨rfl, .inl ⟨rfl, rfl⟩⟩, P1, N1, fun g hg => by cases hg⟩
  case round =>
    obtain ⟨k, rfl, hk, hown, hB, hX, hng⟩ := hrel
    clear P1 N1 HP
    by_cases hlt : k < (sz / 8).toNat
    · have hle : ((k * 8 : Nat) : Int) + 8 ≤ sz := by omega
      have c0 := cell_of_arr hX 0
      have c1 := cell_of_arr hX 1
      simp at c0 c1
      have cq := (hB.cell (p := ⟨b, o + q, none⟩) hbw).trans HC.out
      have HPr := Lib.hid (E3.out.below hB)
      have HOWN := Lib.hid hown
      have HB := Lib.hid hB
      have HX := Lib.hid hX
      have HNG := Lib.hid hng
      have hxl := lt_of_block hX
      clear hown hB hX hng
      go_wp2_with fail
      obtain ⟨wo, rfl⟩ : ∃ wo : World, wo = wr := ⟨_, rfl⟩
      have N2 := alloc_new wo (.cells #[.int .u8 0, .int .u8 0, .int .u8 0, .int .u8 0, .int .u8 0, .int .u8 0, .int .u8 0, .int .u8 0] 96)
      have P2 := pure_alloc wo (.cells #[.int .u8 0, .int .u8 0, .int .u8 0, .int .u8 0, .int .u8 0, .int .u8 0, .int .u8 0, .int .u8 0] 96)
      generalize wo.alloc (.cells #[.int .u8 0, .int .u8 0, .int .u8 0, .int .u8 0, .int .u8 0, .int .u8 0, .int .u8 0, .int .u8 0] 96) = w2 at *
      have HN2 := Lib.hid N2
      have HP2 := Lib.hid P2
      have HQC := Lib.hid cq
      clear N2 P2 c0 c1 cq
      go_loopw [8] (fun i W => ∃ (j : Nat) (A : Array Value), i = .int .i64 j ∧ j ≤ 8 ∧ W.heap[wo.heap.size]? = some (.cells A 96 (0, 0)) ∧ SlotRow p k j A ∧ Below wo.heap.size wo W) (fun i _ => 8 - (intOf i).toNat)
      case atStart => exact ⟨0, _, rfl, by omega, HN2.out, ⟨rfl, fun j hj => by omega⟩, HP2.out⟩
      case round =>
        obtain ⟨j, A, rfl, hj, hA, hrow, hBW⟩ := hrel
        have HA := Lib.hid hA
        have HROW := Lib.hid hrow
        have HBW := Lib.hid hBW
        have hX := Below.keep hBW HX.out hxl
        have c0 := cell_of_arr hX 0
        have c1 := cell_of_arr hX 1
        simp at c0 c1
        have cq := (hBW.cell (p := ⟨b, o + q, none⟩) (lt_of_cell HQC.out)).trans HQC.out
        by_cases hj8 : j < 8
        · have d1 : wr.cell? ⟨wo.heap.size, j, none⟩ = some A[j]! := by rw [cell_of_arr hA]; simp [hrow.1, hj8]
          have d2 := frozen_of_arr hA j
          have hab := lt_of_block hA
          clear hA hrow hBW hX
          have hne1 : wo.heap.size ≠ w.heap.size := by omega
          have hne2 : wo.heap.size ≠ b := by have := lt_of_cell HQC.out; omega
          by_cases hin : k * 8 + j < len
          · obtain ⟨b2, o2, rfl, f2⟩ := HPr.out.2.2 (k * 8 + j) hin
            have f3 := (HBW.out.cell (p := ⟨b2, o2 + (k * 8 + j), none⟩) (lt_of_cell f2)).trans f2
            have hne3 : wo.heap.size ≠ b2 := by have := lt_of_cell f2; omega
            have hlen := HPr.out.2.1
            clear f2
            go_wp2_with fail
            go_roundw
            case rel =>
              have e4 : Value.int .u8 ((p[k * 8 + j]?.getD 0).toNat : Int) = bv (Fl.at255 p (k * 8 + j)) := by
                have := HPr.out.1
                simp [bv, Fl.at255, List.getElem?_eq_getElem (show k * 8 + j < p.length by omega)]
              rw [e4]
              exact ⟨j + 1, _, by go_num, by omega, set_arr (set_arr HA.out j _) j _, (by simpa using HROW.out.step hj8), (HBW.out.setCell (p := ⟨wo.heap.size, j, none⟩) (Nat.le_refl _) _).setCell (p := ⟨wo.heap.size, j, none⟩) (Nat.le_refl _) _⟩
            case measure => simp [intOf]; omega
          · go_wp2_with fail
            go_roundw
            case rel =>
              have e4 : Value.int .u8 255 = bv (Fl.at255 p (k * 8 + j)) := by
                have := HPr.out.1
                simp [bv, Fl.at255, List.getElem?_eq_none (show p.length ≤ k * 8 + j by omega)]
              rw [e4]
              exact ⟨j + 1, _, by go_num, by omega, set_arr HA.out j _, HROW.out.step hj8, HBW.out.setCell (p := ⟨wo.heap.size, j, none⟩) (Nat.le_refl _) _⟩
            case measure => simp [intOf]; omega
        · obtain rfl : j = 8 := by omega
          have hAe := hrow.done
          subst hAe
          have hA0 := cell_of_arr hA 0
          have hab := lt_of_block hA
          obtain ⟨ky, hky⟩ : ∃ ky : Nat, Fl.keyAt p k = ky := ⟨_, rfl⟩
          have hkb := Fl.keyAt_lt p k
          have hA0' : wr.cell? ⟨wo.heap.size, 0, none⟩ = some (.int .u8 (ky : Int)) := by rw [hA0, ← hky]; rfl
          rw [hky] at hkb
          have HKY := Lib.hid hky
          clear hA0 hA hrow hBW hX c0 c1 cq hky HROW
          go_wp2_with fail
          obtain ⟨wi, rfl⟩ : ∃ wi : World, wi = wr := ⟨_, rfl⟩
          have N4 := alloc_new wi (.cells #[.int .i64 ky, .int .i64 0, .bool false] 91)
          have P4 := pure_alloc wi (.cells #[.int .i64 ky, .int .i64 0, .bool false] 91)
          have M4 := Below.keep P4 HA.out hab
          have HB4 := Lib.hid (HBW.out.alloc HBW.out.size (.cells #[.int .i64 ky, .int .i64 0, .bool false] 91))
          generalize wi.alloc (.cells #[.int .i64 ky, .int .i64 0, .bool false] 91) = w4 at *
          have HN4 := Lib.hid N4
          have HM4 := Lib.hid M4
          clear N4 P4 M4 hA0' HA
          have hsw := HBW.out.size
          generalize hbi : wi.heap.size = bi at *
          have hbo : wo.heap.size < bi := by omega
          clear hbi hab hsw HBW
          go_loopw [10] (fun i W => ∃ (j : Nat) (x : Int), i = .int .i64 j ∧ 1 ≤ j ∧ j ≤ 6 ∧ Hid (x = (Fl.valK p k (j - 1) : Nat)) ∧ W.heap[bi]? = some (.cells #[.int .i64 ky, .int .i64 x, .bool false] 91 (0, 0)) ∧ W.heap[wo.heap.size]? = some (.cells ((Fl.slotB p k).map bv).toArray 96 (0, 0)) ∧ Below wo.heap.size wo W) (fun i _ => 6 - (intOf i).toNat)
          case atStart => exact ⟨1, 0, rfl, by omega, by omega, rfl, HN4.out, HM4.out, HB4.out⟩
          case round =>
            obtain ⟨j, x, rfl, hj1, hj6, hx, hV, hA, hBW⟩ := hrel
            have HV := Lib.hid hV
            have HA := Lib.hid hA
            have HBW := Lib.hid hBW
            have v0 := cell_of_arr hV 0
            have v1 := cell_of_arr hV 1
            have v2 := cell_of_arr hV 2
            have f1 := frozen_of_arr hV 1
            have f2 := frozen_of_arr hV 2
            simp at v0 v1 v2
            clear HN4 HM4 HB4
            by_cases hj : j < 6
            · have hx0 : 0 ≤ x := by rw [hx.out]; omega
              have hx1 : x < 4294967296 := by
                have h1 := Fl.valK_lt p k (j - 1)
                have h2 : 256 ^ (j - 1) ≤ 256 ^ 4 := Nat.pow_le_pow_right (by omega) (by omega)
                have := hx.out
                omega
              have a1 : wr.cell? ⟨wo.heap.size, j, none⟩ = some (.int .u8 ((Fl.at255 p (k * 8 + j)).toNat : Int)) := by
                rw [cell_of_arr hA]
                have e := Fl.slotB_get p k j (by omega)
                simp [bv, ← e, List.getElem?_eq_getElem (show j < (Fl.slotB p k).length by rw [Fl.slotB_length]; omega)]
              have hy : ((Fl.at255 p (k * 8 + j)).toNat : Int) < 256 := by have := Fl.byte_lt (Fl.at255 p (k * 8 + j)); omega
              have hy0 : 0 ≤ ((Fl.at255 p (k * 8 + j)).toNat : Int) := by omega
              have HNX : Hid (x * 256 + ((Fl.at255 p (k * 8 + j)).toNat : Int) = (Fl.valK p k j : Nat)) := by
                show _ = _
                rw [hx.out]
                obtain ⟨j', rfl⟩ : ∃ j', j = j' + 1 := ⟨j - 1, by omega⟩
                simp only [Nat.add_sub_cancel, Fl.valK]
                omega
              generalize ((Fl.at255 p (k * 8 + j)).toNat : Int) = y at *
              clear hV hA hBW hx
              go_upto_region 16 with fail
              have hw1 : IntKind.i64.wrap (x * 256) = x * 256 := wrap_i64 _ (by omega) (by omega)
              have hw2 : IntKind.i64.wrap (x * 256 + y) = x * 256 + y := wrap_i64 _ (by omega) (by omega)
              go_region
              clear hw1 hw2
              go_wp2_with fail
              go_roundw
              case rel =>
                refine ⟨j + 1, _, by go_num, by omega, by omega, HNX, ?_, set_other HA.out (by dsimp only; omega), below_drew (HBW.out.setCell (by dsimp only; omega) _)⟩
                refine Eq.trans (set_arr HV.out 1 _) ?_; simp
              case measure => simp [intOf]; omega
            · obtain rfl : j = 6 := by omega
              have hxv : x = (Fl.valAt p k : Nat) := by rw [hx.out, ← Fl.valK_five]
              have hvb := Fl.valAt_lt p k
              have hx0 : 0 ≤ x := by omega
              have hx1 : x < 1099511627776 := by omega
              have HREC := Lib.hid (recordR_any (ky : Int) x wr (by omega) (by omega) (by omega) (by omega))
              have HXV := Lib.hid hxv
              clear hV hA hBW hx hxv hvb
              go_wp2_with fail
              refine HREC.out.mono ?_
              rintro e w5 ⟨rv, rfl, hrv, hw5⟩
              obtain ⟨ra, rc, rfl, hrb⟩ := hrv.bs
              have V5 := Below.keep hw5 HV.out (lt_of_block HV.out)
              have A5 := Below.keep hw5 HA.out (lt_of_block HA.out)
              have HB5 := Lib.hid (HBW.out.trans (hw5.mono HBW.out.size))
              have hbi5 := lt_of_block V5
              have HRB := Lib.hid hrb
              have hfar : Hid (∀ g i, ra = some ⟨g, i, none⟩ → g ≠ bi) := by
                show ∀ g i, _ → _
                rintro g i rfl
                have h1 := (own_lt hrv (g := g) rfl).2.1
                have h2 := lt_of_block HV.out
                omega
              clear HREC HV HA HBW hw5 hrv hrb v0 v1 v2 f1 f2
              have v0 := cell_of_arr V5 0
              have v1 := cell_of_arr V5 1
              have v2 := cell_of_arr V5 2
              have f2 := frozen_of_arr V5 2
              simp at v0 v1 v2
              have HV5 := Lib.hid V5
              have HA5 := Lib.hid A5
              clear V5 A5
              have hr8 : (Fl.record ky x).length = 8 ∨ (Fl.record ky x).length = 0 := by rcases record_len8 ky x with h | h <;> simp [h]
              have HG : Hid (∀ gd : Bool, ((Fl.record ky x).length = 8 → gd = goodJ (Fl.record ky x) (Fl.slotB p k) 8) → ((Fl.record ky x).length = 0 → gd = false) → gd = Fl.goodAt p k) := by
                show ∀ gd : Bool, _ → _ → _
                intro gd h1 h2
                rw [← HKY.out, HXV.out] at h1 h2 hr8
                rcases hr8 with h | h
                · rw [h1 h, goodJ_all p k h]
                · rw [h2 h, good_none p k (by omega)]
              generalize Fl.record ky x = r at *
              generalize hrl : r.length = rl at *
              have HRL := Lib.hid hrl
              clear hrl
              obtain ⟨g0, hg0⟩ : ∃ g0, ((rl : Int) == 8) = g0 := ⟨_, rfl⟩
              have HG0 := Lib.hid hg0
              have hrl8 : rl ≤ 8 := by omega
              have HR8 := Lib.hid hr8
              clear hr8
              go_wp2_with fail
              have V6 : (w5.setCell ⟨bi, 2, none⟩ (.bool g0)).heap[bi]? = some (.cells #[.int .i64 ky, .int .i64 x, .bool g0] 91 (0, 0)) := by rw [set_arr HV5.out 2 _]; simp
              have K6 : ∀ g, g ≠ bi → (w5.setCell ⟨bi, 2, none⟩ (.bool g0)).heap[g]? = w5.heap[g]? := fun g hg => Below.heap_setCell _ _ _ _ hg
              have B6 := HB5.out.setCell (p := ⟨bi, 2, none⟩) (by dsimp only; omega) (.bool g0)
              generalize w5.setCell ⟨bi, 2, none⟩ (.bool g0) = w6 at *
              have HV6 := Lib.hid V6
              have HK6 := Lib.hid K6
              have HB6 := Lib.hid B6
              clear V6 K6 B6 v0 v1 v2 f2 hg0 HV5
              go_loopw [12] (fun i W => ∃ (j : Nat) (gd : Bool), i = .int .i64 j ∧ j ≤ rl ∧ Hid (rl = 8 → gd = goodJ r (Fl.slotB p k) j) ∧ Hid (rl = 0 → gd = false) ∧ W.heap[bi]? = some (.cells #[.int .i64 ky, .int .i64 x, .bool gd] 91 (0, 0)) ∧ Hid (∀ g, g ≠ bi → W.heap[g]? = w5.heap[g]?) ∧ Below wo.heap.size wo W) (fun i _ => rl - (intOf i).toNat)
              case atStart => exact ⟨0, g0, rfl, by omega, (fun h => by rw [goodJ_zero, ← HG0.out, h]; rfl), (fun h => by rw [← HG0.out, h]; rfl), HV6.out, HK6.out, HB6.out⟩
              case round =>
                obtain ⟨j, gd, rfl, hj, hg1, hg2, hV, hK, hBW⟩ := hrel
                have HV := Lib.hid hV
                have HBW := Lib.hid hBW
                have v0 := cell_of_arr hV 0
                have v1 := cell_of_arr hV 1
                have v2 := cell_of_arr hV 2
                have f2 := frozen_of_arr hV 2
                simp at v0 v1 v2
                clear HV6 HK6 HB6 HG0
                by_cases hjl : j < rl
                · have hrl : rl = 8 := by have := HR8.out; omega
                  have HGS : Hid (goodJ r (Fl.slotB p k) (j + 1) = (gd && (((r.getD j 0).toNat : Int) == (((Fl.slotB p k).getD j 0).toNat : Int)))) := by
                    show _ = _
                    rw [goodJ_succ _ _ _ (by have := HRL.out; omega) (by rw [Fl.slotB_length]; omega), hg1.out hrl]
                  obtain ⟨b3, o3, hra, r1⟩ := HRB.out.2.2 j hjl
                  have hb3 := hfar.out b3 o3 hra
                  subst hra
                  have r2 : wr.cell? ⟨b3, o3 + j, none⟩ = some (.int .u8 ((r.getD j 0).toNat : Int)) := by
                    rw [← r1]; unfold World.cell?; rw [hK.out b3 hb3]
                  have a2 : wr.cell? ⟨wo.heap.size, j, none⟩ = some (.int .u8 (((Fl.slotB p k).getD j 0).toNat : Int)) := by
                    have := hK.out wo.heap.size (by omega)
                    rw [cell_of_arr (this.trans HA5.out)]
                    simp [bv, List.getElem?_eq_getElem (show j < (Fl.slotB p k).length by rw [Fl.slotB_length]; omega)]
                  have HRL0 := Lib.hid hrl
                  have hK' := Lib.hid hK.out
                  clear hV hBW hg1 hg2 hrl r1 hK
                  generalize (r.getD j 0).toNat = y1 at *
                  generalize ((Fl.slotB p k).getD j 0).toNat = y2 at *
                  have hj8 : j < 8 := by omega
                  go_upto_region 22 with fail
                  cases gd
                  · go_region
                    go_wp2_with fail
                    go_roundw
                    case rel =>
                      refine ⟨j + 1, false, by go_num, by omega, (fun _ => HGS.out.symm), (fun _ => rfl), ?_, ?_, below_drew (HBW.out.setCell (by dsimp only; omega) _)⟩
                      · refine Eq.trans (set_arr HV.out 2 _) ?_; simp
                      · exact fun g hg => (Below.heap_setCell _ _ _ _ hg).trans (hK'.out g hg)
                    case measure => simp [intOf]; omega
                  · obtain ⟨eqb, heqb⟩ : ∃ eqb, ((y1 : Int) == (y2 : Int)) = eqb := ⟨_, rfl⟩
                    have HEQ := Lib.hid heqb
                    go_region
                    clear heqb
                    go_wp2_with fail
                    go_roundw
                    case rel =>
                      refine ⟨j + 1, eqb, by go_num, by omega, (fun _ => by rw [HGS.out, HEQ.out]; rfl), (fun h => by have := HRL0.out; omega), ?_, ?_, below_drew (HBW.out.setCell (by dsimp only; omega) _)⟩
                      · refine Eq.trans (set_arr HV.out 2 _) ?_; simp
                      · exact fun g hg => (Below.heap_setCell _ _ _ _ hg).trans (hK'.out g hg)
                    case measure => simp [intOf]; omega
                · obtain rfl : j = rl := by omega
                  have hgd : gd = Fl.goodAt p k := HG.out gd (fun h => by rw [hg1.out h, h]) hg2.out
                  have HGD := Lib.hid hgd
                  have hsz := hBW.size
                  have hBb := HB.out.trans (hBW.mono HB.out.size)
                  have N7 := alloc_new wr (.cells #[.int .i64 ky, .int .i64 x, .bool gd] 91)
                  have P7 := pure_alloc wr (.cells #[.int .i64 ky, .int .i64 x, .bool gd] 91)
                  have O7 := own_pure (own_pure HOWN.out hBW) P7
                  have X7 := Below.keep P7 (Below.keep hBW HX.out (lt_of_block HX.out)) (by have := lt_of_block HX.out; omega)
                  have B7 := hBb.alloc hBb.size (.cells #[.int .i64 ky, .int .i64 x, .bool gd] 91)
                  obtain ⟨v', w8, hrun, hown8, hgr8, hob8⟩ := app_slots (wr.alloc (.cells #[.int .i64 ky, .int .i64 x, .bool gd] 91)) w.heap.size u5 k _ O7 wr.heap.size 1 (.int .i64 ky) (.int .i64 x) (.bool gd) N7 rfl rfl rfl (by omega) B7.size
                  have B8 := below_grown B7 B7.size O7 hgr8
                  have X8 := (hgr8.block _ (lt_of_block X7) (fun e => HNG.out _ e.symm rfl)).trans X7
                  have HO8 := Lib.hid hown8
                  have HB8 := Lib.hid B8
                  have HX8 := Lib.hid X8
                  have HNG8 : Hid (∀ g, v'.ownBlock = some g → g ≠ w.heap.size) := by
                    show ∀ g, _ → _
                    intro g hg
                    rcases hob8 with h | h
                    · exact HNG.out g (h ▸ hg)
                    · rw [h] at hg; cases hg; have := B7.size; have := lt_of_block X7; omega
                  clear hV hBW hg1 hg2 hgd hBb N7 P7 O7 X7 B7 B8 X8 hown8 hgr8 hob8 HNG HOWN HG hfar HRB
                  go_wp2_with (at_builtin; refine wpList_app rfl _ _ 88 rfl rfl rfl hrun ?_)
                  clear hrun
                  go_wp2_with fail
                  go_roundw
                  case rel =>
                    refine ⟨k + 1, ?_, by omega, ?_, HB8.out, HX8.out, HNG8.out⟩
                    · congr 1; omega
                    · rw [Fl.slotCells, HKY.out, ← HXV.out, ← HGD.out]; exact HO8.out
                  case measure => simp [intOf]; omega
    · obtain rfl : k = (sz / 8).toNat := by omega
      have c0 := cell_of_arr hX 0
      simp at c0
      have HO := Lib.hid hown
      have HB := Lib.hid hB
      have hge : ¬ ((((sz / 8).toNat * 8 : Nat) : Int) + 8 ≤ sz) := by omega
      clear hown hB hX hng
      go_wp2_with fail
      go_ret
      exact ⟨_, rfl, HO.out, HB.out⟩
end Go.Proofs.Ytnfjfifdkmgbdaa
