/- The walk of make2.Terms. -/
import Derived.Test.YtkgbjoepjcenlaaDoorWu
namespace Go.Proofs.YtkgbjoepjcenlaaDoor
open Go.RowKit
def TsPost (b : Nat) (w : World) (e : Ending) (w' : World) : Prop := ∃ (l : List Tm) (a : Option Addr) (n c : Nat), e = .returned (.slice a n c) ∧ Tm.shapedL l 4 = true ∧ l.length ≤ 5 ∧ (TL (fun k => w.heap.size ≤ k) w' l a n ∧ n ≤ c) ∧ Deck w' b ∧ But b w w'
set_option maxHeartbeats 1600000 in
theorem terms_any (b : Nat) (w : World) (hd : Deck w b) : Calls Tryd.prog 7 #[.pointer (some ⟨b, 0, none⟩)] w (TsPost b w) := by
  have hlt := hd.lt
  have HD := Lib.hid hd
  clear hd
  go_enter Tryd.func7, Tryd.ntmps7
  go_wp2_with fail
  refine (next_any b 6 w HD.out (by omega) (by omega)).mono ?_
  rintro e w1 ⟨r, hr0, hr1, rfl, hD1, hB1, hs1⟩
  obtain ⟨m, rfl⟩ := Int.eq_ofNat_of_zero_le hr0
  have HD1 := Lib.hid hD1
  have HB1 := Lib.hid hB1
  have HS1 := Lib.hid hs1
  clear hD1 hB1 hs1 HD
  go_wp2_with fail
  go_loopw [3, 4] (fun v i W => ∃ (k : Nat) (es : List Elem) (ts : List Tm), i = .int .i64 k ∧ k ≤ m ∧ ts.length + k = m ∧ OutT W w.heap.size w.heap.size b v es ts ∧ Tm.shapedL ts 4 = true ∧ Deck W b ∧ But b w W) (fun _ i _ => (intOf i).toNat)
  case atStart => exact ⟨m, [], [], rfl, Nat.le_refl _, by simp, OutT.nil _ _ _ _, rfl, HD1.out, HB1.out⟩
  case round =>
    obtain ⟨k, es, ts, rfl, hk, hlen, hO, hsh, hD, hB⟩ := hrel
    have hsz := hB.size
    by_cases hk0 : 0 < k
    · have hk0' : (0 : Int) < (k : Int) := by omega
      have HO := Lib.hid hO
      have HLE := Lib.hid hlen
      have HSH := Lib.hid hsh
      have HB := Lib.hid hB
      have HTM : Hid (Calls Tryd.prog 9 #[.pointer (some ⟨b, 0, none⟩), .int .i64 3] wr (TmPost b 3 wr)) := term_any 3 b wr hD (by omega)
      clear hO hlen hsh hD hB
      go_wp2_with fail
      refine HTM.out.mono ?_
      rintro e w5 ⟨t, ra, rn, rc, rfl, hst, ⟨hTR, hrc⟩, hD5, hB5⟩
      have PB := pure_alloc w5 (.cells #[.int .i64 t.op, .int .i64 t.num, .slice ra rn rc] 28)
      have HTB := (show TR (fun j => wr.heap.size ≤ j) w5 t ra rn from hTR).below PB
      have hw5 := hB5.size
      have hp5 := PB.size
      have O6 := HO.out.since (W' := w5.alloc (.cells #[.int .i64 t.op, .int .i64 t.num, .slice ra rn rc] 28)) fun j h1 h2 => (hB5.alloc (.cells #[.int .i64 t.op, .int .i64 t.num, .slice ra rn rc] 28)).block j h2 (by omega)
      have hoX : u3.ownBlock ≠ some b := fun e => by have h1 := (own_lt HO.out.row e).2.1; omega
      obtain ⟨v', w7, hrun, hO7, hgr, hob, hoX'⟩ := O6.push (c := 1) (e := ⟨t.op, t.num, ra, rn, rc⟩) (t := t) (alloc_new w5 (.cells #[.int .i64 t.op, .int .i64 t.num, .slice ra rn rc] 28)) rfl rfl hrc (HTB.imp fun j hj _ => ⟨by have h2 : wr.heap.size ≤ j := hj; omega, by have h2 : wr.heap.size ≤ j := hj; omega, fun e => by have h1 := (own_lt HO.out.row e).1; have h2 : wr.heap.size ≤ j := hj; omega⟩) (by have h1 := HLE.out; omega) (by omega) hoX (by omega)
      have HB7 : Hid (But b w w7) := (HB.out.trans (hB5.alloc (.cells #[.int .i64 t.op, .int .i64 t.num, .slice ra rn rc] 28))).grown O6.row hgr
      have HD7 := Lib.hid ((hD5.alloc (.cells #[.int .i64 t.op, .int .i64 t.num, .slice ra rn rc] 28)).keep (w' := w7) fun j hj => hgr.block j (by omega) (fun e => by have h1 := (own_lt O6.row e.symm).2.1; omega))
      have HO7 := Lib.hid hO7
      have HS7 := Lib.hid (Tm.shapedL_snoc HSH.out hst)
      have HRUN := Lib.hid hrun
      clear hTR hD5 hB5 PB HTB O6 hO7 hgr hob hst HTM HO HSH HB hrun
      go_wp2_with (at_builtin; refine wpList_app rfl _ _ 23 rfl rfl rfl HRUN.out ?_)
      go_roundw
      case rel => exact ⟨k - 1, _, _, by rw [show ((k - 1 : Nat) : Int) = (k : Int) - 1 by omega], by omega, by have h1 := HLE.out; simp; omega, HO7.out, HS7.out, HD7.out, HB7.out⟩
      case measure => simp [intOf]; omega
    · have hk0' : ¬ ((0 : Int) < (k : Int)) := by omega
      obtain ⟨a', c', hv', hTL, hcap⟩ := hO.tl (Nat.le_refl _) (by omega)
      subst hv'
      have HE : Hid (TsPost b w (.returned (.slice a' ts.length c')) wr) := ⟨ts, a', ts.length, c', rfl, hsh, by omega, ⟨hTL, hcap⟩, hD, hB⟩
      generalize ts.length = nl at *
      clear hO hsh hD hB hTL hlen
      go_wp2_with fail
      go_ret
      exact HE.out
end Go.Proofs.YtkgbjoepjcenlaaDoor
