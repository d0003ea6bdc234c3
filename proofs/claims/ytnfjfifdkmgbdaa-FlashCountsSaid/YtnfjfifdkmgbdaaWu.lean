/- The walks of Put and Format. -/
import Derived.Test.YtnfjfifdkmgbdaaWt
namespace Go.Proofs.Ytnfjfifdkmgbdaa
open Go.RowKit Go.Shelf

theorem made_get (z : Value) (n i : Nat) (h : i < n) : (madeCells #[z] n)[i]? = some z := by
  simp [madeCells, h, Nat.mod_one]
namespace Fl
def formatP (size pages : Int) : Mem × Int := if sizedP size pages then (⟨size, (record 240 0 ++ record 241 0) :: List.replicate (pages.toNat - 1) [], List.replicate pages.toNat 0⟩, 0) else (none_, 1)
end Fl
theorem fmt_rep {W : World} {size : Int} {gp ge n : Nat} {a : Option Addr} {L c : Nat} {r : List UInt8} (h1 : W.heap[gp]? = some (.cells ((madeCells #[.slice none 0 0] n).setIfInBounds 0 (.slice a L c)) 22 (0, 0))) (h2 : W.heap[ge]? = some (.cells (madeCells #[.int .i64 0] n) 3 (0, 0))) (hb : Bs W a L r) (hn : 1 ≤ n) (hn8 : n ≤ 8) (hs : 0 ≤ size ∧ size ≤ 256) :
    FRep W size (some ⟨gp, 0, none⟩) n (some ⟨ge, 0, none⟩) n ⟨size, r :: List.replicate (n - 1) [], List.replicate n 0⟩ := by
  refine ⟨rfl, ⟨by simp; omega, by omega, fun i hi => ?_⟩, ⟨by simp, by omega, fun i hi => ?_⟩, by omega⟩
  · cases i with
    | zero =>
      refine ⟨gp, 0, a, L, c, rfl, ?_, by simpa using hb⟩
      have := cell_of_arr h1 0
      rw [Nat.zero_add, this, Array.getElem?_setIfInBounds_self_of_lt (by rw [size_madeCells]; omega)]
    | succ i =>
      refine ⟨gp, 0, none, 0, 0, rfl, ?_, ?_⟩
      · have := cell_of_arr h1 (0 + (i + 1))
        rw [this, Array.getElem?_setIfInBounds_ne (by omega), Nat.zero_add, made_get _ _ _ hi]
      · have : (List.replicate (n - 1) ([] : List UInt8)).getD i [] = [] := by simp [List.getElem?_replicate]; split <;> rfl
        show Bs W none 0 ((List.replicate (n - 1) ([] : List UInt8)).getD i [])
        rw [this]
        exact ⟨rfl, by omega, fun j hj => by omega⟩
  · refine ⟨ge, 0, rfl, ?_, ?_⟩
    · have := cell_of_arr h2 (0 + i)
      rw [this, Nat.zero_add, made_get _ _ _ hi]
      simp [hi]
    · simp [hi]
set_option maxHeartbeats 1600000 in
theorem format_any (size pages : Int) (w : World) (b1 : -9223372036854775808 ≤ size) (b2 : size ≤ 9223372036854775807) (b3 : -9223372036854775808 ≤ pages) (b4 : pages ≤ 9223372036854775807) :
    Calls Try.prog 16 #[.int .i64 size, .int .i64 pages] w (FPost (Fl.formatP size pages) w) := by
  go_enter Try.func16, Try.ntmps16
  have P1 := pure_alloc w (.cells #[.int .i64 0, .slice none 0 0, .slice none 0 0] 32)
  have B1 := alloc_new w (.cells #[.int .i64 0, .slice none 0 0, .slice none 0 0] 32)
  go_upto_region 1 with fail
  generalize w.alloc (.cells #[.int .i64 0, .slice none 0 0, .slice none 0 0] 32) = w1 at *
  have c0 := cell_of_arr B1 0
  have c1 := cell_of_arr B1 1
  have c2 := cell_of_arr B1 2
  have f0 := frozen_of_arr B1 0
  have f1 := frozen_of_arr B1 1
  have f2 := frozen_of_arr B1 2
  simp at c0 c1 c2
  have HP1 := Lib.hid P1
  have HB1 := Lib.hid B1
  clear P1 B1
  cases hs : Fl.sizedP size pages
  · have R1 : Hid (Fl.formatP size pages = (Fl.none_, 1)) := by show _ = _; unfold Fl.formatP; rw [hs]; rfl
    go_wp2_with (go_at_call 34; refine (sized_any _ _ _).mono ?_; rintro e w2 ⟨rfl, rfl⟩; rw [hs])
    have S3 := set_arr (set_arr (set_arr HB1.out 0 (.int .i64 0)) 1 (.slice none 0 0)) 2 (.slice none 0 0)
    simp at S3
    have g1 := cell_of_arr S3 0
    have g2 := cell_of_arr S3 1
    have g3 := cell_of_arr S3 2
    simp at g1 g2 g3
    refine bodyPost_ret (v := .tuple #[.agg #[.int .i64 0, .slice none 0 0, .slice none 0 0], .int .i64 1]) (by simp [results, Try.results16, go_sem, g1, g2, g3]) rfl ?_
    rw [R1.out]
    exact FPost.mk rfl (fun W _ => frep_none W) (((HP1.out.setCell (by simp) _).setCell (by simp) _).setCell (by simp) _)
  · obtain ⟨s1, s2, s3, s4, s5⟩ := Fl.sized_bd hs
    obtain ⟨n, rfl⟩ : ∃ n : Nat, pages = (n : Int) := ⟨pages.toNat, by omega⟩
    go_upto_region 3 with (go_at_call 34; refine (sized_any _ _ _).mono ?_; rintro e w2 ⟨rfl, rfl⟩; rw [hs])
    have hn2 : 2 ≤ n := by omega
    have hn8 : n ≤ 8 := by omega
    have hm30 : ∀ u : World, (Instr.makeSlice 30 (.int .i64 (n : Int)) (.int .i64 (n : Int))).run Try.prog u = .ok (.slice (some ⟨u.heap.size, 0, none⟩) n n) (u.alloc (.cells (madeCells #[.slice none 0 0] n) 22)) := fun u => by
      obtain ⟨i, hi, z1, z2, z3⟩ := info_parts inf22
      have := run_makeSlice (P := Try.prog) u 30 22 i (.slice none 0 0) Try.underlying30 hi z1 .i64 .i64 n n (by omega) (Int.le_refl _) (by rw [z2]; omega) (by rw [z3]; omega) (by omega)
      simpa [z2, Value.cells] using this
    have hm27 : ∀ u : World, (Instr.makeSlice 27 (.int .i64 (n : Int)) (.int .i64 (n : Int))).run Try.prog u = .ok (.slice (some ⟨u.heap.size, 0, none⟩) n n) (u.alloc (.cells (madeCells #[.int .i64 0] n) 3)) := fun u => by
      obtain ⟨i, hi, z1, z2, z3⟩ := info_parts inf3
      have := run_makeSlice (P := Try.prog) u 27 3 i (.int .i64 0) Try.underlying27 hi z1 .i64 .i64 n n (by omega) (Int.le_refl _) (by rw [z2]; omega) (by rw [z3]; omega) (by omega)
      simpa [z2, Value.cells] using this
    go_cut [6, 17] (fun s t W => ∃ (X gp ge : Nat), s = .pointer (some ⟨X, 0, none⟩) ∧ t = .agg #[.int .i64 size, .slice (some ⟨gp, 0, none⟩) n n, .slice (some ⟨ge, 0, none⟩) n n] ∧ Below w1.heap.size w1 W ∧ W.heap[X]? = some (.cells #[.int .i64 size, .slice (some ⟨gp, 0, none⟩) n n, .slice (some ⟨ge, 0, none⟩) n n] 32 (0, 0)) ∧ W.heap[gp]? = some (.cells (madeCells #[.slice none 0 0] n) 22 (0, 0)) ∧ W.heap[ge]? = some (.cells (madeCells #[.int .i64 0] n) 3 (0, 0)) ∧ w1.heap.size ≤ X ∧ w1.heap.size ≤ gp ∧ w1.heap.size ≤ ge)
    case first =>
      go_region
      all_goals (go_wp2_with fail; go_meet; case rel => exact ⟨_, _, _, rfl, rfl, ((((Below.refl _ _).alloc (Nat.le_refl _) _).alloc (by simp) _).alloc (by simp; omega) _).drew, (by first | exact alloc_keep (alloc_keep (alloc_new _ _)) | exact alloc_keep (alloc_new' _ _ _ (by simp)) | exact alloc_new' _ _ _ (by simp)), (by first | exact alloc_keep (alloc_keep (alloc_new _ _)) | exact alloc_keep (alloc_new' _ _ _ (by simp)) | exact alloc_new' _ _ _ (by simp)), (by first | exact alloc_keep (alloc_keep (alloc_new _ _)) | exact alloc_keep (alloc_new' _ _ _ (by simp)) | exact alloc_new' _ _ _ (by simp)), by omega, by omega, by omega⟩)
    case rest =>
      obtain ⟨X, gp, ge, rfl, rfl, hB, hX, hgp, hge, l1, l2, l3⟩ := hcut
      go_upto_region 4 with fail
      have cX := cell_of_arr hX 1
      simp at cX
      have HB := Lib.hid hB
      have HX := Lib.hid hX
      have HGP := Lib.hid hgp
      have HGE := Lib.hid hge
      clear hB hX hgp hge
      refine wp_region_held_drew (S := (fun u => u.cell? ⟨X, 1, none⟩ = some (.slice (some ⟨gp, 0, none⟩) n n))) (by kernel_rfl) cX (fun hHeld => ?_)
      refine wpAnyH_take (i := 0) (v := ?_) rfl (by kernel_rfl) (by kernel_rfl) (by kernel_rfl) (fun _ _ _ h => h) (Or.inl ⟨by rfl, ?_⟩) hHeld ?_
      rotate_left
      · (intro W hSw; (try dsimp only at hSw); go_simp; try with_reducible rfl)
      try simp only [Act.put, List.setIfInBounds_toArray, List.set_cons_zero, List.set_cons_succ, List.getElem_toArray, List.getElem_cons_succ, List.getElem_cons_zero]
      refine wpAnyH_take (i := 1) (v := ?_) rfl (by kernel_rfl) (by kernel_rfl) (by kernel_rfl) (fun _ _ _ h => h) (Or.inl ⟨by rfl, ?_⟩) hHeld ?_
      rotate_left
      · (intro W hSw; (try dsimp only at hSw); go_simp; try with_reducible rfl)
      try simp only [Act.put, List.setIfInBounds_toArray, List.set_cons_zero, List.set_cons_succ, List.getElem_toArray, List.getElem_cons_succ, List.getElem_cons_zero]
      refine wpAnyH_ready (rs := [2]) (by kernel_rfl) (by simp) ?_
      refine AllReadyH.cons rfl (fun K1 hK1 => ?_) AllReadyH.nil
      go_simp
      refine (record_any 240 0 _ (by omega) (by omega) (by omega) (by omega)).mono ?_
      rintro e u1 ⟨v1, rfl, hr1, hu1⟩
      have HU1 := Lib.hid hu1
      have HR1 := Lib.hid hr1
      refine hK1.out _ _ ((hu1.cell (p := ⟨X, 1, none⟩) (lt_of_cell hHeld)).trans hHeld) (fun hHeld2 => ?_)
      clear hK1 hHeld hu1 hr1
      try simp only [Act.put, List.setIfInBounds_toArray, List.set_cons_zero, List.set_cons_succ, List.getElem_toArray, List.getElem_cons_succ, List.getElem_cons_zero]
      refine wpAnyH_ready (rs := [3]) (by kernel_rfl) (by simp) ?_
      refine AllReadyH.cons rfl (fun K1 hK1 => ?_) AllReadyH.nil
      go_simp
      refine (record_any 241 0 _ (by omega) (by omega) (by omega) (by omega)).mono ?_
      rintro e u2 ⟨v2, rfl, hr2, hu2⟩
      have HU2 := Lib.hid hu2
      obtain ⟨a2, c2', rfl, hbs2⟩ := hr2.bs
      refine hK1.out _ _ ((hu2.cell (p := ⟨X, 1, none⟩) (lt_of_cell hHeld2)).trans hHeld2) (fun hHeld3 => ?_)
      clear hK1 hHeld2 hr2
      try simp only [Act.put, List.setIfInBounds_toArray, List.set_cons_zero, List.set_cons_succ, List.getElem_toArray, List.getElem_cons_succ, List.getElem_cons_zero]
      obtain ⟨a3, c3, u3, hrun, hown, hgr, hob⟩ := app_bytes u2 wc.heap.size v1 _ (own_pure HR1.out hu2) a2 _ c2' _ hbs2 (by have := record_len 240 0; have := record_len 241 0; omega) (by have := HU1.out.size; have := HU2.out.size; simp at *; omega)
      have hu3 : Below wc.heap.size wc u3 := by
        have h1 : Below wc.heap.size wc u2 := (Below.refl _ wc).drew.trans (HU1.out.trans (HU2.out.mono HU1.out.size))
        refine ⟨hgr.os.trans h1.os, hgr.tape.trans h1.tape, hgr.output.trans h1.output, Nat.le_trans h1.size hgr.size, fun k hk => (hgr.block k (Nat.lt_of_lt_of_le hk h1.size) fun e => ?_).trans (h1.block k hk)⟩
        have := (own_lt HR1.out e.symm).2.1
        simp at this
        omega
      clear hu2
      refine wpAnyH_ready (rs := [4]) (by kernel_rfl) (by simp) ?_
      refine AllReadyH.cons rfl (fun K1 hK1 => ?_) AllReadyH.nil
      rw [if_pos (by rfl)]
      refine wp_app _ _ 22 rfl rfl rfl hrun ?_
      refine hK1.out _ _ ((hu3.cell (p := ⟨X, 1, none⟩) (lt_of_cell cX)).trans cX) (fun hHeld4 => ?_)
      clear hK1
      try simp only [Act.put, List.setIfInBounds_toArray, List.set_cons_zero, List.set_cons_succ, List.getElem_toArray, List.getElem_cons_succ, List.getElem_cons_zero]
      have kp : ∀ {b : Nat} {o : Obj}, wc.heap[b]? = some o → u3.heap[b]? = some o := fun hb => Below.keep hu3 hb (lt_of_block hb)
      have GP := kp HGP.out
      have GE := kp HGE.out
      have GX := kp HX.out
      have ci := cell_of_arr GP 0
      have fi := frozen_of_arr GP 0
      have mi : (madeCells #[Value.slice none 0 0] n)[0]? = some (.slice none 0 0) := made_get _ _ _ (by omega)
      rw [mi] at ci
      have hn0 : 0 < n := by omega
      refine wpAnyH_take (i := 5) (v := ?_) rfl (by kernel_rfl) (by kernel_rfl) (by kernel_rfl) (fun _ _ _ h => h) (Or.inl ⟨by rfl, ?_⟩) hHeld4 ?_
      rotate_left
      · (intro W hSw; (try dsimp only at hSw); go_simp; try with_reducible rfl)
      try simp only [Act.put, List.setIfInBounds_toArray, List.set_cons_zero, List.set_cons_succ, List.getElem_toArray, List.getElem_cons_succ, List.getElem_cons_zero]
      refine wpAnyH_ready (rs := [6]) (by kernel_rfl) (by simp) ?_
      refine AllReadyH.cons rfl (fun K1 hK1 => ?_) AllReadyH.nil
      have gX : X ≠ gp := kind_ne GX GP (by decide)
      have gE : ge ≠ gp := kind_ne GE GP (by decide)
      go_simp
      refine hK1.out _ _ (by have := cell_of_arr (set_other (a := ⟨gp, 0, none⟩) (v := .slice a3 ((Fl.record 240 0).length + (Fl.record 241 0).length) c3) GX gX) 1; simpa using this) (fun hHeld5 => ?_)
      clear hK1
      try simp only [Act.put, List.setIfInBounds_toArray, List.set_cons_zero, List.set_cons_succ, List.getElem_toArray, List.getElem_cons_succ, List.getElem_cons_zero]
      refine wpAnyH_done (by kernel_rfl) ?_ _
      try simp only [Act.put, List.setIfInBounds_toArray, List.set_cons_zero, List.set_cons_succ, List.getElem_toArray, List.getElem_cons_succ, List.getElem_cons_zero]
      clear hHeld3 hHeld4 hHeld5 hrun hob hgr HU1 HU2 HR1 hbs2 kp
      have OB : OwnB (u3.setCell ⟨gp, 0, none⟩ (.slice a3 ((Fl.record 240 0).length + (Fl.record 241 0).length) c3)) wc.heap.size (.slice a3 ((Fl.record 240 0).length + (Fl.record 241 0).length) c3) (Fl.record 240 0 ++ Fl.record 241 0) :=
        own_keep hown fun g hg => Below.heap_setCell _ _ _ _ (fun e => by obtain ⟨_, h2, c, hc⟩ := own_lt hown hg; rw [e] at hc; exact kind_ne hc GP (by decide) rfl)
      have GX4 := set_other (a := ⟨gp, 0, none⟩) (v := .slice a3 ((Fl.record 240 0).length + (Fl.record 241 0).length) c3) GX gX
      have GE4 := set_other (a := ⟨gp, 0, none⟩) (v := .slice a3 ((Fl.record 240 0).length + (Fl.record 241 0).length) c3) GE gE
      have GP4 := set_arr GP 0 (.slice a3 ((Fl.record 240 0).length + (Fl.record 241 0).length) c3)
      have gw : w.heap.size ≠ gp := by have := lt_of_block HB1.out; omega
      have R4 := set_other (a := ⟨gp, 0, none⟩) (v := .slice a3 ((Fl.record 240 0).length + (Fl.record 241 0).length) c3) (Below.keep hu3 (Below.keep HB.out HB1.out (lt_of_block HB1.out)) (Nat.lt_of_lt_of_le (lt_of_block HB1.out) HB.out.size)) gw
      have P4 : Below w.heap.size w (u3.setCell ⟨gp, 0, none⟩ (.slice a3 ((Fl.record 240 0).length + (Fl.record 241 0).length) c3)) := (HP1.out.trans ((HB.out.mono HP1.out.size).trans (hu3.mono (Nat.le_trans HP1.out.size HB.out.size)))).setCell (by have := HP1.out.size; simp; omega) _
      have wl1 := lt_of_block HB1.out
      have wcl := HB.out.size
      generalize hL : (Fl.record 240 0).length + (Fl.record 241 0).length = L at *
      generalize hW4 : u3.setCell ⟨gp, 0, none⟩ (.slice a3 L c3) = W4 at *
      clear hW4 GX GE GP ci fi hown hu3 cX c0 c1 c2 f0 f1 f2 mi
      have x0 := cell_of_arr GX4 0
      have x1 := cell_of_arr GX4 1
      have x2 := cell_of_arr GX4 2
      have r0 := cell_of_arr R4 0
      have r1 := cell_of_arr R4 1
      have r2 := cell_of_arr R4 2
      have f0 := frozen_of_arr R4 0
      have f1 := frozen_of_arr R4 1
      have f2 := frozen_of_arr R4 2
      simp at x0 x1 x2 r0 r1 r2
      have hXw : X ≠ w.heap.size := by omega
      go_wp2_with fail
      have S3 := set_arr (set_arr (set_arr R4 0 (.int .i64 size)) 1 (.slice (some ⟨gp, 0, none⟩) n n)) 2 (.slice (some ⟨ge, 0, none⟩) n n)
      simp at S3
      have g1 := cell_of_arr S3 0
      have g2 := cell_of_arr S3 1
      have g3 := cell_of_arr S3 2
      simp at g1 g2 g3
      refine bodyPost_ret (v := .tuple #[.agg #[.int .i64 size, .slice (some ⟨gp, 0, none⟩) n n, .slice (some ⟨ge, 0, none⟩) n n], .int .i64 0]) (by simp [results, Try.results16, go_sem, g1, g2, g3]) rfl ?_
      rw [show Fl.formatP size (n : Int) = (⟨size, (Fl.record 240 0 ++ Fl.record 241 0) :: List.replicate (n - 1) [], List.replicate n 0⟩, 0) by unfold Fl.formatP; rw [hs]; simp]
      have so : ∀ {b : Nat} {o : Obj}, W4.heap[b]? = some o → b ≠ w.heap.size → (((W4.setCell ⟨w.heap.size, 0, none⟩ (.int .i64 size)).setCell ⟨w.heap.size, 1, none⟩ (.slice (some ⟨gp, 0, none⟩) n n)).setCell ⟨w.heap.size, 2, none⟩ (.slice (some ⟨ge, 0, none⟩) n n)).heap[b]? = some o := fun h hb => set_other (set_other (set_other h hb) hb) hb
      have OB5 : OwnB (((W4.setCell ⟨w.heap.size, 0, none⟩ (.int .i64 size)).setCell ⟨w.heap.size, 1, none⟩ (.slice (some ⟨gp, 0, none⟩) n n)).setCell ⟨w.heap.size, 2, none⟩ (.slice (some ⟨ge, 0, none⟩) n n)) wc.heap.size (.slice a3 L c3) (Fl.record 240 0 ++ Fl.record 241 0) :=
        own_keep OB fun g hg => by
          obtain ⟨_, h2, c, hc⟩ := own_lt OB hg
          rw [so hc (by omega), hc]
      exact FPost.mk rfl (fun W hW => fmt_rep ((hW gp (by omega)).trans (so GP4 (by omega))) ((hW ge (by omega)).trans (so GE4 (by omega))) (OwnB.bs' (own_keep OB5 fun g hg => hW g (by have := (own_lt OB5 hg).2.1; omega))) (by omega) (by omega) (by omega)) (((P4.setCell (by simp) _).setCell (by simp) _).setCell (by simp) _)
end Go.Proofs.Ytnfjfifdkmgbdaa
