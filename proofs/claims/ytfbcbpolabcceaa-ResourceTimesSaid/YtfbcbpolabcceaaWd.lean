/- The walk of the law ResourceTimes. -/
import Derived.Test.YtfbcbpolabcceaaWc
import Derived.Deep.RegionHeld3
import Derived.Deep.DeepMust
import Derived.Deep.DeepCutAuto
namespace Go.Proofs.Ytfbcbpolabcceaa
open Go.RowKit

/-- The slice reads as integers, below block B. -/
def Ints (w : World) (B : Nat) (la : Option Addr) (len : Nat) : Prop :=
  len ≤ 9223372036854775807 ∧ ∀ j, j < len → ∃ bl ol x, la = some ⟨bl, ol, none⟩ ∧ bl < B ∧ w.cell? ⟨bl, ol + j, none⟩ = some (.int .i64 x)

theorem Ints.alloc {w : World} {la : Option Addr} {len : Nat} (h : Ints w w.heap.size la len) (o : Obj) : Ints (w.alloc o) (w.heap.size + 1) la len := by
  obtain ⟨h1, h2⟩ := h
  refine ⟨h1, fun j hj => ?_⟩
  obtain ⟨bl, ol, x, e1, e2, e3⟩ := h2 j hj
  exact ⟨bl, ol, x, e1, by omega, (World.cell?_of_block (w := w) (Below.heap_alloc _ _ _ e2)).trans e3⟩
theorem alloc_new (w : World) (o : Obj) : (w.alloc o).heap[w.heap.size]? = some o := by
  show (w.heap.push o)[w.heap.size]? = _
  simp
def NewPost (w : World) (e : Ending) (w' : World) : Prop := e = .returned (.pointer (some ⟨w.heap.size, 0, none⟩)) ∧ Deck w' w.heap.size ∧ Below w.heap.size w w' ∧ w'.heap.size = w.heap.size + 1
theorem new_any (la : Option Addr) (len cap : Nat) (w : World) (h : Ints w w.heap.size la len) :
    Calls Try.prog 4 #[.slice la len cap] w (NewPost w) := by
  have H := Lib.hid h
  clear h
  go_enter Try.func4, Try.ntmps4
  go_wp2
  go_ret
  refine ⟨rfl, ?_, (Below.refl _ _).alloc (Nat.le_refl _) _, by simp⟩
  obtain ⟨h1, h2⟩ := H.out
  refine ⟨la, len, cap, 0, alloc_new _ _, Nat.zero_le _, h1, fun j hj => ?_⟩
  obtain ⟨bl, ol, x, e1, e2, e3⟩ := h2 j hj
  exact ⟨bl, ol, x, e1, e2, (World.cell?_of_block (w := w) (Below.heap_alloc _ _ _ e2)).trans e3⟩

theorem cells4 {w : World} {b : Nat} {x0 x1 x2 x3 : Value} {T : Nat} (h : w.heap[b]? = some (.cells #[x0, x1, x2, x3] T (0, 0))) :
    w.cell? ⟨b, 0, none⟩ = some x0 ∧ w.cell? ⟨b, 1, none⟩ = some x1 ∧ w.cell? ⟨b, 2, none⟩ = some x2 ∧ w.cell? ⟨b, 3, none⟩ = some x3 := by
  simp [World.cell?, h]
theorem But.keep {b k : Nat} {w w' : World} {o : Obj} (h : But b w w') (hk : w.heap[k]? = some o) (hb : k ≠ b) : w'.heap[k]? = some o :=
  (h.block k (lt_of_block hk) hb).trans hk
theorem Below.keep {B k : Nat} {w w' : World} {o : Obj} (h : Below B w w') (hk : w.heap[k]? = some o) (hb : k < B) : w'.heap[k]? = some o :=
  (h.block k hb).trans hk
theorem alloc_keep {w : World} {k : Nat} {o o' : Obj} (h : w.heap[k]? = some o) : (w.alloc o').heap[k]? = some o := (Below.heap_alloc _ _ _ (lt_of_block h)).trans h

theorem butcell {D : Nat} {w w' : World} (h : But D w w') : (∀ b o, b < w.heap.size → b ≠ D → w'.cell? ⟨b, o, none⟩ = w.cell? ⟨b, o, none⟩) ∧ (∀ b o, b < w.heap.size → b ≠ D → w'.frozen? ⟨b, o, none⟩ = w.frozen? ⟨b, o, none⟩) :=
  ⟨fun b o h1 h2 => h.cell (p := ⟨b, o, none⟩) h1 h2, fun b o h1 h2 => h.frozen (p := ⟨b, o, none⟩) h1 h2⟩
def Good (k at_ loc : Int) : Prop := k ≠ 1 ∧ 0 ≤ k ∧ k ≤ 1073741824 ∧ 0 ≤ at_ ∧ at_ ≤ 1073741824 ∧ 0 ≤ loc ∧ loc ≤ 1073741824

def goodB (k at_ loc : Int) : Bool := decide (k ≠ 1 ∧ 0 ≤ k ∧ k ≤ 1073741824 ∧ 0 ≤ at_ ∧ at_ ≤ 1073741824 ∧ 0 ≤ loc ∧ loc ≤ 1073741824)
instance (k at_ loc : Int) : Decidable (Good k at_ loc) := by unfold Good; infer_instance
theorem good_of {k at_ loc : Int} (h : goodB k at_ loc = true) : Good k at_ loc := of_decide_eq_true h
theorem good_no {k at_ loc : Int} (h : ¬ Good k at_ loc) : Value.bool false = Value.bool (goodB k at_ loc) := by
  have : goodB k at_ loc = false := decide_eq_false h
  rw [this]
theorem good_yes {k at_ loc : Int} (h : Good k at_ loc) : Value.bool true = Value.bool (goodB k at_ loc) := by
  have : goodB k at_ loc = true := decide_eq_true h
  rw [this]
theorem good_last {k at_ loc : Int} (h1 : k ≠ 1) (h2 : 0 ≤ k ∧ k ≤ 1073741824 ∧ 0 ≤ at_ ∧ at_ ≤ 1073741824 ∧ 0 ≤ loc) : Value.bool (decide (loc ≤ 1073741824)) = Value.bool (goodB k at_ loc) := by
  unfold goodB; congr 1; rw [decide_eq_decide]; omega
/-- Element j of a slice of clocks. -/
def ClockAt (w : World) (b j : Nat) : Prop := ∃ (kn : Bool) (at_ loc k : Int), Good k at_ loc ∧ w.cell? ⟨b, j, none⟩ = some (.bool kn) ∧ w.cell? ⟨b, j + 1, none⟩ = some (.int .i64 at_) ∧ w.cell? ⟨b, j + 1 + 1, none⟩ = some (.int .i64 loc) ∧ w.cell? ⟨b, j + 1 + 1 + 1, none⟩ = some (.int .i64 k)

theorem clocks1 {w : World} {g : Nat} {kn : Bool} {at_ loc k : Int} {T : Nat} (h : w.heap[g]? = some (.cells #[.bool kn, .int .i64 at_, .int .i64 loc, .int .i64 k] T (0, 0))) (hg : Good k at_ loc) : ∀ j, j < 1 → ClockAt w g (j * 4) := by
  intro j hj
  obtain rfl : j = 0 := by omega
  exact ⟨kn, at_, loc, k, hg, by simp [World.cell?, h]⟩
theorem clocks2 {w : World} {g : Nat} {kn kn' : Bool} {at_ loc k at' loc' k' : Int} {T : Nat} {Z : Array Value} (h : w.heap[g]? = some (.cells (#[.bool kn, .int .i64 at_, .int .i64 loc, .int .i64 k] ++ (#[.bool kn', .int .i64 at', .int .i64 loc', .int .i64 k'] ++ Z)) T (0, 0))) (hg : Good k at_ loc) (hg' : Good k' at' loc') : ∀ j, j < 2 → ClockAt w g (j * 4) := by
  intro j hj
  have : j = 0 ∨ j = 1 := by omega
  obtain ⟨Z⟩ := Z
  rcases this with rfl | rfl
  · exact ⟨kn, at_, loc, k, hg, by simp [World.cell?, h]⟩
  · exact ⟨kn', at', loc', k', hg', by simp [World.cell?, h]⟩
theorem ClockAt.but {D : Nat} {w w' : World} {g j : Nat} (h : ClockAt w g j) (hb : But D w w') (h1 : g < w.heap.size) (h2 : g ≠ D) : ClockAt w' g j := by
  obtain ⟨kn, at_, loc, k, hg, c0, c1, c2, c3⟩ := h
  exact ⟨kn, at_, loc, k, hg, (hb.cell (p := ⟨g, _, none⟩) h1 h2).trans c0, (hb.cell (p := ⟨g, _, none⟩) h1 h2).trans c1, (hb.cell (p := ⟨g, _, none⟩) h1 h2).trans c2, (hb.cell (p := ⟨g, _, none⟩) h1 h2).trans c3⟩
theorem alloc_new' (w : World) (o : Obj) (b : Nat) (h : b = w.heap.size) : (w.alloc o).heap[b]? = some o := by subst h; exact alloc_new w o
theorem three {w : World} {g m : Nat} {r q : Int} {T : Nat} (h : w.heap[g]? = some (.cells #[.int .i64 r, .int .i64 q, .int .i64 (q - 1)] T (0, 0))) (hm : m < 3) (h1 : 0 ≤ r) (h2 : r < 2000) (h3 : 0 ≤ q) (h4 : q ≤ 1073741824) :
    ∃ n : Int, w.cell? ⟨g, m, none⟩ = some (.int .i64 n) ∧ -1 ≤ n ∧ n ≤ 1073741824 := by
  have : m = 0 ∨ m = 1 ∨ m = 2 := by omega
  rcases this with rfl | rfl | rfl
  · exact ⟨r, by simp [World.cell?, h], by omega, by omega⟩
  · exact ⟨q, by simp [World.cell?, h], by omega, by omega⟩
  · exact ⟨q - 1, by simp [World.cell?, h], by omega, by omega⟩
def tOk (kn : Bool) (loc t : Int) : Bool := kn && decide (loc ≤ t)
def tLo (kn : Bool) (at_ loc k t : Int) : Int := if tOk kn loc t then at_ + lowF k (dF loc t) else 0
def tHi (kn : Bool) (at_ loc k t : Int) : Int := if tOk kn loc t then at_ + (dF loc t + fF k (dF loc t)) else 0
theorem time_any (kn : Bool) (at_ loc k t : Int) (w : World) (hk : 0 ≤ k) (hk' : k ≤ 1073741824) (hf : 0 ≤ loc) (hf' : loc ≤ 1073741824) (ht : -1 ≤ t) (ht' : t ≤ 1073741824) (ha : 0 ≤ at_) (ha' : at_ ≤ 1073741824) :
    Calls Try.prog 8 #[.agg #[.bool kn, .int .i64 at_, .int .i64 loc, .int .i64 k], .int .i64 t] w fun e w' => e = .returned (.tuple #[.int .i64 (tLo kn at_ loc k t), .int .i64 (tHi kn at_ loc k t), .bool (tOk kn loc t)]) ∧ Below w.heap.size w w' := by
  unfold tLo tHi
  by_cases h : kn = true ∧ loc ≤ t
  · obtain ⟨rfl, h⟩ := h
    have : tOk true loc t = true := by simp [tOk, h]
    rw [this, if_pos rfl, if_pos rfl]
    exact time_yes at_ loc k t w h hk hk' hf hf' ht ht' ha ha'
  · have : tOk kn loc t = false := by cases kn <;> simp [tOk] at *; omega
    rw [this]
    exact time_no kn at_ loc k t w (by cases kn <;> simp at *; omega)
theorem timeR_any (kn : Bool) (at_ loc k t : Int) (w : World) (hk : 0 ≤ k) (hk' : k ≤ 1073741824) (hf : 0 ≤ loc) (hf' : loc ≤ 1073741824) (ht : -1 ≤ t) (ht' : t ≤ 1073741824) (ha : 0 ≤ at_) (ha' : at_ ≤ 1073741824) :
    Calls Try.prog 9 #[.agg #[.bool kn, .int .i64 at_, .int .i64 loc, .int .i64 k], .int .i64 t] w fun e w' => e = .returned (.tuple #[.int .i64 (tLo kn at_ loc k t), .int .i64 (tHi kn at_ loc k t), .bool (tOk kn loc t)]) ∧ Below w.heap.size w w' := by
  unfold tLo tHi
  by_cases h : kn = true ∧ loc ≤ t
  · obtain ⟨rfl, h⟩ := h
    have : tOk true loc t = true := by simp [tOk, h]
    rw [this, if_pos rfl, if_pos rfl]
    exact timeR_yes at_ loc k t w h hk hk' hf hf' ht ht' ha ha'
  · have : tOk kn loc t = false := by cases kn <;> simp [tOk] at *; omega
    rw [this]
    exact timeR_no kn at_ loc k t w (by cases kn <;> simp at *; omega)
theorem drifts (w : World) (b : Nat) (r : Int) (h0 : 0 ≤ r) (h1 : r < 6) (h : w.heap[b]? = some (.cells #[.int .i64 0, .int .i64 2, .int .i64 3, .int .i64 10, .int .i64 100, .int .i64 1000] 3 (0, 0))) :
    ∃ d : Int, w.cell? ⟨b, r.toNat, none⟩ = some (.int .i64 d) ∧ d ≠ 1 ∧ 0 ≤ d ∧ d ≤ 1000 := by
  have : r = 0 ∨ r = 1 ∨ r = 2 ∨ r = 3 ∨ r = 4 ∨ r = 5 := by omega
  rcases this with rfl | rfl | rfl | rfl | rfl | rfl <;> simp [World.cell?, h]

set_option maxHeartbeats 1000000 in
set_option maxRecDepth 100000 in
theorem law_any (kn : Bool) (at_ loc k : Int) (la : Option Addr) (len cap : Nat) (w : World) (h : Ints w w.heap.size la len) 
   (b1 : -9223372036854775808 ≤ at_) (b2 : at_ ≤ 9223372036854775807) (b3 : -9223372036854775808 ≤ loc) (b4 : loc ≤ 9223372036854775807) (b5 : -9223372036854775808 ≤ k) (b6 : k ≤ 9223372036854775807) :
    Calls Try.prog 3 #[.agg #[.bool kn, .int .i64 at_, .int .i64 loc, .int .i64 k], .slice la len cap] w fun e w' => e = .returned (.bool true) ∧ Below w.heap.size w w' := by
  have h' := h.alloc (.cells #[.bool kn, .int .i64 at_, .int .i64 loc, .int .i64 k] 23)
  have H := Lib.hid h'
  clear h h'
  go_enter Try.func3, Try.ntmps3
  go_wp2_with fail
  refine (new_any _ _ _ _ (by simpa using H.out)).mono ?_
  rintro e w1 ⟨rfl, hd1, hb1, hz1⟩
  simp only [World.size_alloc] at hd1 hb1 hz1 ⊢
  have hc1 : ∀ b o, b < w.heap.size + 1 → w1.cell? ⟨b, o, none⟩ = (w.alloc (.cells #[.bool kn, .int .i64 at_, .int .i64 loc, .int .i64 k] 23)).cell? ⟨b, o, none⟩ := fun b o h => hb1.cell (p := ⟨b, o, none⟩) h
  clear H
  go_wp2_with fail
  refine (next_any _ _ _ hd1 (by omega) (by omega)).mono ?_
  rintro e w2 ⟨r1, r1a, r1b, rfl, hd2, hb2, hz2⟩
  have hc2 := butcell hb2
  go_wp2_with fail
  refine (next_any _ _ _ hd2 (by omega) (by omega)).mono ?_
  rintro e w3 ⟨r2, r2a, r2b, rfl, hd3, hb3, hz3⟩
  have hc3 := butcell hb3
  go_wp2_with fail
  refine (next_any _ _ _ hd3 (by omega) (by omega)).mono ?_
  rintro e w4 ⟨r3, r3a, r3b, rfl, hd4, hb4, hz4⟩
  have hc4 := butcell hb4
  go_wp2_with fail
  refine (next_any _ _ _ (hd4.alloc _) (by omega) (by omega)).mono ?_
  rintro e w5 ⟨r4, r4a, r4b, rfl, hd5, hb5, hz5⟩
  simp only [World.size_alloc] at hz5
  obtain ⟨dr, dr0, dr1, dr2, dr3⟩ := drifts w5 w4.heap.size r4 r4a r4b (hb5.keep (alloc_new _ _) (by omega))
  rw [show w4.heap.size = w.heap.size + 1 + 1 by omega] at dr0
  have HGd : Hid (Good dr r2 r3) := ⟨dr1, dr2, by omega, by omega, by omega, by omega, by omega⟩
  go_upto_region 4 with (fail)
  have hc5 := butcell hb5
  clear dr0
  generalize hkn' : decide (0 < r1) = kn' at *
  have hd6 := (hd5.alloc (.cells #[.bool kn', .int .i64 r2, .int .i64 r3, .int .i64 dr] 23)).alloc (.cells #[.bool kn', .int .i64 r2, .int .i64 r3, .int .i64 dr] 23)
  have hb6 : Below w.heap.size w ((w5.alloc (.cells #[.bool kn', .int .i64 r2, .int .i64 r3, .int .i64 dr] 23)).alloc (.cells #[.bool kn', .int .i64 r2, .int .i64 r3, .int .i64 dr] 23)) :=
    (((((((Below.refl _ _).alloc (Nat.le_refl _) _).trans (hb1.mono (by omega))).trans (((hb2.trans hb3).trans hb4).below (by omega) (by omega))).alloc (by omega) _).trans (hb5.below (by omega) (by simp; omega))).alloc (by omega) _).alloc (by simp; omega) _
  have hr6 : ((w5.alloc (.cells #[.bool kn', .int .i64 r2, .int .i64 r3, .int .i64 dr] 23)).alloc (.cells #[.bool kn', .int .i64 r2, .int .i64 r3, .int .i64 dr] 23)).heap[w.heap.size]? = some (.cells #[.bool kn, .int .i64 at_, .int .i64 loc, .int .i64 k] 23 (0, 0)) :=
    alloc_keep (alloc_keep (hb5.keep (alloc_keep (((hb2.trans hb3).trans hb4).keep (Below.keep hb1 (alloc_new w _) (by omega)) (by omega))) (by omega)))
  have hn6 := alloc_new (w5.alloc (.cells #[.bool kn', .int .i64 r2, .int .i64 r3, .int .i64 dr] 23)) (.cells #[.bool kn', .int .i64 r2, .int .i64 r3, .int .i64 dr] 23)
  have hs6 : ((w5.alloc (.cells #[.bool kn', .int .i64 r2, .int .i64 r3, .int .i64 dr] 23)).alloc (.cells #[.bool kn', .int .i64 r2, .int .i64 r3, .int .i64 dr] 23)).heap.size = w.heap.size + 5 := by simp; omega
  rw [World.size_alloc, show w5.heap.size + 1 = w.heap.size + 4 by omega] at hn6
  generalize ((w5.alloc (.cells #[.bool kn', .int .i64 r2, .int .i64 r3, .int .i64 dr] 23)).alloc (.cells #[.bool kn', .int .i64 r2, .int .i64 r3, .int .i64 dr] 23)) = w6 at *
  clear hb1 hb2 hb3 hb4 hb5 hc1 hc2 hc3 hc4 hc5 hd1 hd2 hd3 hd4 hd5 hz1 hz2 hz3 hz4 hz5
  obtain ⟨c60, c61, c62, c63⟩ := cells4 hr6
  obtain ⟨c64, c65, c66, c67⟩ := cells4 hn6
  have HR6 := Lib.hid hr6
  have HN6 := Lib.hid hn6
  clear hr6 hn6
  go_cut [68] (fun s wx => s = .bool (goodB k at_ loc) ∧ wx = w6)
  case first =>
    cases hk1 : (k != 1)
    · have hG : ¬ Good k at_ loc := fun h => h.1 (by simpa using hk1)
      have HG := Lib.hid hG
      clear hG
      go_wp2_with fail
      go_meet
      case rel => exact ⟨good_no HG.out, rfl⟩
    · have hG : k ≠ 1 := by simpa using hk1
      have HG := Lib.hid hG
      clear hG
      go_wp2_with fail
      all_goals go_meet
      all_goals
        case rel => first | exact ⟨good_no (fun h => by unfold Good at h; omega), rfl⟩ | exact ⟨good_last HG.out (by omega), rfl⟩
  case rest =>
    obtain ⟨rfl, rfl⟩ := hcut
    go_upto_if 68 with (fail)
    go_cut [7] (fun s wx => ∃ g n c : Nat, s = .slice (some ⟨g, 0, none⟩) n c ∧ 1 ≤ n ∧ n ≤ 2 ∧ g < wx.heap.size ∧ w.heap.size + 1 < g ∧ (∀ j, j < n → ClockAt wx g (j * 4)) ∧ Deck wx (w.heap.size + 1) ∧ Below w.heap.size w wx)
    case first =>
      cases hG : goodB k at_ loc
      · go_wp2_with fail
        go_meet
        case rel => exact ⟨_, _, _, rfl, by omega, by omega, by omega, by omega, clocks1 HN6.out HGd.out, hd6, hb6⟩
      · have hG' := good_of hG
        have HG' := Lib.hid hG'
        clear hG'
        go_wp2_with fail
        go_meet
        case rel =>
          refine ⟨_, _, _, rfl, by omega, by omega, by simp; omega, by omega, clocks2 (alloc_new' _ _ _ (by simp; omega)) HGd.out HG'.out, ((hd6.alloc _).alloc _).drewN 1, (below_drewN ((hb6.alloc (by omega) _).alloc (by simp; omega) _) 1)⟩
    case rest =>
      obtain ⟨g, n, c, rfl, hn1, hn2, hg1, hg2, hcl, hd7, hb7⟩ := hcut
      have HC := Lib.hid hcl
      have HB7 := Lib.hid hb7
      clear hcl hb7 HN6 HR6 c60 c61 c62 c63 c64 c65 c66 c67 HGd
      clear hd6 hb6 hs6
      go_wp2_with fail
      go_loopw [75] (fun i wr => ∃ j : Nat, i = .int .i64 j ∧ j ≤ n ∧ Deck wr (w.heap.size + 1) ∧ But (w.heap.size + 1) wc wr) (fun i _ => n - (intOf i).toNat)
      case atStart => exact ⟨0, rfl, by omega, hd7, But.refl _ _⟩
      case round =>
        obtain ⟨j, rfl, hj, hd8, hb8⟩ := hrel
        by_cases hlt : j < n
        · obtain ⟨kx, ax, lx, dx, hgx, x0, x1, x2, x3⟩ := (HC.out j hlt).but hb8 hg1 (by omega)
          have hsz := hb8.size
          have HB8 := Lib.hid hb8
          clear hb8
          go_upto_region 9 with (fail)
          have hd9 := hd8.alloc (.cells #[.bool kx, .int .i64 ax, .int .i64 lx, .int .i64 dx] 23)
          have hb9 := HB8.out.alloc (.cells #[.bool kx, .int .i64 ax, .int .i64 lx, .int .i64 dx] 23)
          have hx9 := alloc_new wr (.cells #[.bool kx, .int .i64 ax, .int .i64 lx, .int .i64 dx] 23)
          generalize (wr.alloc (.cells #[.bool kx, .int .i64 ax, .int .i64 lx, .int .i64 dx] 23)) = w9 at *
          obtain ⟨y0, y1, y2, y3⟩ := cells4 hx9
          have HX9 := Lib.hid hx9
          have HB9 := Lib.hid hb9
          have hxD : wr.heap.size ≠ w.heap.size + 1 := by have := hd8.lt; omega
          have hXl := lt_of_block hx9
          generalize wr.heap.size = X at *
          clear x0 x1 x2 x3 hx9 hb9 HB8 hd8
          go_cut [86, 87, 88] (fun s86 s87 s88 wx => ∃ (g2 : Nat) (r : Int), s86 = .slice (some ⟨g2, 0, none⟩) 3 3 ∧ s87 = .int .i64 3 ∧ s88 = .int .i64 0 ∧ 0 ≤ r ∧ r < 2000 ∧ wx.heap[g2]? = some (.cells #[.int .i64 r, .int .i64 lx, .int .i64 (lx - 1)] 3 (0, 0)) ∧ Deck wx (w.heap.size + 1) ∧ But (w.heap.size + 1) w9 wx ∧ w.heap.size + 1 < g2)
          case first =>
            go_region_held3 (fun w' => w'.cell? ⟨X, 2, none⟩ = some (.int .i64 lx)) (first | exact y2 | go_keep) (first | (go_at_call 5; refine (next_any _ _ _ (hd9.drewN 1) (by omega) (by omega)).mono ?_; rintro e w10 ⟨r, ra, rb, rfl, hd10, hb10, hz10⟩; have y2' : w10.cell? ⟨X, 2, none⟩ = some (.int .i64 lx) := (hb10.cell (p := ⟨X, 2, none⟩) hXl hxD).trans y2))
            have hlx : IntKind.i64.wrap (lx - 1) = lx - 1 := IntWalk.i64_in _ (by have := hgx.2.2.2.2.2; omega)
            rw [hlx]
            clear hlx
            go_wp2_with fail
            go_meet
            case rel => exact ⟨_, r, rfl, rfl, rfl, ra, rb, alloc_new' _ _ _ hz10.symm, hd10.alloc _, (((But.refl _ _).drewN 1).trans hb10).alloc _, hd9.lt⟩
          case rest =>
            obtain ⟨g2, r, rfl, rfl, rfl, ra, rb, hg3, hd10, hb10, hg4⟩ := hcut
            have HG3 := Lib.hid hg3
            have hg3l := lt_of_block hg3
            have HB10 := Lib.hid hb10
            clear hg3 hb10 y0 y1 y2 y3 hd9
            obtain ⟨q1, q2, q3, q4, q5, q6, q7⟩ := hgx
            go_wp2_with fail
            go_loopw [88] (fun i wq => ∃ m : Nat, i = .int .i64 m ∧ m ≤ 3 ∧ Deck wq (w.heap.size + 1) ∧ But (w.heap.size + 1) wc wq) (fun i _ => 3 - (intOf i).toNat)
            case atStart => exact ⟨0, rfl, by omega, hd10, But.refl _ _⟩
            case round =>
              obtain ⟨m, rfl, hm, hd11, hb11⟩ := hrel
              by_cases hlt2 : m < 3
              · obtain ⟨nv, nv0, nv1, nv2⟩ := three (hb11.keep HG3.out (by omega)) hlt2 (q := lx) (r := r) (by omega) (by omega) (by omega) (by omega)
                have hb12 := HB10.out.trans hb11
                obtain ⟨z0, z1, z2, z3⟩ := cells4 (hb12.keep HX9.out hxD)
                have HB12 := Lib.hid hb12
                have hsz2 := hb11.size
                have hXl2 := Nat.lt_of_lt_of_le hXl hb12.size
                have HB11 := Lib.hid hb11
                clear hb12 hb11
                go_wp2_with fail
                refine (next_any _ _ _ hd11 (by omega) (by omega)).mono ?_
                rintro e w13 ⟨mv, mva, mvb, rfl, hd13, hb13, hz13⟩
                obtain ⟨z0', z1', z2', z3'⟩ := cells4 (hb13.keep (HB12.out.keep HX9.out hxD) hxD)
                have HB13 := Lib.hid (HB11.out.trans hb13)
                rw [← hz13] at hXl2
                have HZ13 := Lib.hid hz13
                clear hb13 z0 z1 z2 z3 nv0 hd11 hz13
                go_wp2_with fail
                refine (elapsed_any _ _ _ _ _ _ _ (by omega) (by omega) (by omega) (by omega) (by omega) (by omega)).mono ?_
                rintro e w14 ⟨rfl, hb14⟩
                obtain ⟨hc14, hf14⟩ := bcell hb14
                go_wp2_with fail
                refine (elapsedR_any _ _ _ _ _ _ _ (by omega) (by omega) (by omega) (by omega) (by omega) (by omega)).mono ?_
                rintro e w15 ⟨rfl, hb15⟩
                have hb15' := hb14.trans (hb15.mono hb14.size)
                have hsz15 := hb15'.size
                obtain ⟨hc15, hf15⟩ := bcell hb15'
                clear hc14 hf14 hb15 hf15
                go_wp2_with fail
                refine (time_any _ _ _ _ _ _ (by omega) (by omega) (by omega) (by omega) (by omega) (by omega) (by omega) (by omega)).mono ?_
                rintro e w16 ⟨rfl, hb16⟩
                have hb16' := hb15'.trans (hb16.mono hsz15)
                have hsz16 := hb16'.size
                obtain ⟨hc16, hf16⟩ := bcell hb16'
                clear hc15 hb16 hf16
                go_wp2_with fail
                refine (timeR_any _ _ _ _ _ _ (by omega) (by omega) (by omega) (by omega) (by omega) (by omega) (by omega) (by omega)).mono ?_
                rintro e w17 ⟨rfl, hb17⟩
                have hb17' := hb16'.trans (hb17.mono hsz16)
                have HB17 := Lib.hid hb17'
                clear hc16 hb17 hb17' hb16' hb15' hb14
                go_wp2_with fail
                go_roundw
                case rel => exact ⟨m + 1, by go_num, by omega, hd13.below HB17.out, HB13.out.trans (But.of_below HB17.out)⟩
                case measure => simp [intOf]; omega
              · have HB11 := Lib.hid hb11
                clear hb11
                go_wp2_with fail
                go_roundw
                case rel => exact ⟨j + 1, by go_num, by omega, hd11, HB9.out.trans (HB10.out.trans HB11.out)⟩
                case measure => simp [intOf]; omega
        · have HB8 := Lib.hid hb8
          clear hb8
          go_wp2_with fail
          refine (awake_any _).mono ?_
          rintro e w20 ⟨rfl, hb20⟩
          have HB20 := Lib.hid hb20
          clear hb20
          go_wp2_with fail
          go_ret
          exact ⟨rfl, (HB7.out.trans (HB8.out.below (by omega) (by omega))).trans (HB20.out.mono (by have := HB8.out.size; omega))⟩
end Go.Proofs.Ytfbcbpolabcceaa
