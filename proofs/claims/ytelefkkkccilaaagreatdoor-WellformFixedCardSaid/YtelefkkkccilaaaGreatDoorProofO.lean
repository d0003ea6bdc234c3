/- Proved: for all bytes, every list of numbers and two numbers, coreseclaw02.WellformFixed returns true and leaves its arguments as they were, the listed tables as the program lays them. No further conditions. -/
import Derived.Test.YtelefkkkccilaaaGreatDoorJL
import Derived.Test.YtelefkkkccilaaaGreatDoorLP
import Derived.Test.YtelefkkkccilaaaGreatDoorLP9
import Derived.Test.YtelefkkkccilaaaGreatDoorCards
import Derived.Test.YtelefkkkccilaaaGreatDoorTie
import Derived.ProofKit
import Derived.OpenShut
import Derived.ChangeOld
import Derived.Below
import Derived.Lib.SmallJoins
import Derived.Deep.DeepHandedRow
import Derived.Lib.LaidU8T
import Derived.Lib.LaidIn
import Derived.MakeChecks
import Derived.Stop.LaidErr
namespace Go.Proofs.YtelefkkkccilaaaGreatDoor
open Go.ChangeShapes Go.WideShapes Go.ChangeAt Go.RowKit Go.Joins Go.Shelf

theorem own : ownKnob Tryz.prog.godebug = none := by kernel_rfl
theorem laidOut : laidOutB Tryz.prog = true := by kernel_rfl
theorem env_of {W : World} (h : laidMetH Tryz.prog Rows.wellformFixedRow.laid W) : Env W := envOf h
set_option maxRecDepth 100000 in
theorem contract (H : Type) (enc : TypeId × Value → H) (W : World) (base : Nat) (args : Array Value) (ds gs : List (DataW H)) (before : List MemPlace)
    (hval : ∀ (j : Nat) t v, Tryz.f16.params[j]? = some t → args[j]? = some v → Value.okWide Tryz.prog W .any base t v)
    (hW : DataW.Whole enc Tryz.prog Tryz.f16.params.toList Rows.wellformFixedSpec.vars false W args.toList ds gs before) (hL : laidMetH Tryz.prog Rows.wellformFixedRow.laid W) :
    Calls Tryz.prog 16 args W fun e W' => ∃ v, e = .returned v ∧ Rows.wellformFixedSpec.post enc Tryz.prog Tryz.f16 false true false false W args v W' := by
  have hW' := hW
  obtain ⟨p, q, hA0, hV, rfl, hfz, hnd⟩ := hW
  have hA : DataW.TrodAll enc Tryz.prog W 0 (fun _ => true) true Tryz.f16.params.toList args.toList ds p := hA0
  rw [Tryz.params16] at hA hval
  obtain ⟨v0, vs0, d0, ds0, p0, q0, hargs, rfl, rfl, h0, hr0⟩ := trodAll_cons hA
  obtain ⟨v1, vs1, d1, ds1, p1, q1, rfl, rfl, rfl, h1, hr1⟩ := trodAll_cons hr0
  obtain ⟨v2, vs2, d2, ds2, p2, q2, rfl, rfl, rfl, h2, hr2⟩ := trodAll_cons hr1
  obtain ⟨v3, vs3, d3, ds3, p3, q3, rfl, rfl, rfl, h3, hr3⟩ := trodAll_cons hr2
  obtain ⟨rfl, rfl, rfl⟩ := trodAll_nil hr3
  obtain rfl : args = #[v0, v1, v2, v3] := by cases args; simp_all
  obtain ⟨rfl, rfl⟩ := trodVars_none hV
  have k0 := h0
  have lt0 : ∀ x ∈ p0, x.block < W.heap.size := by obtain ⟨m, hm⟩ := k0; exact DataW.trod_lt m _ _ _ hm
  have k1 := h1
  have lt1 : ∀ x ∈ p1, x.block < W.heap.size := by obtain ⟨m, hm⟩ := k1; exact DataW.trod_lt m _ _ _ hm
  have k2 := h2
  have lt2 : ∀ x ∈ p2, x.block < W.heap.size := by obtain ⟨m, hm⟩ := k2; exact DataW.trod_lt m _ _ _ hm
  have k3 := h3
  have lt3 : ∀ x ∈ p3, x.block < W.heap.size := by obtain ⟨m, hm⟩ := k3; exact DataW.trod_lt m _ _ _ hm
  obtain ⟨a0, n0, c0, l0, rfl, hR0, hc0, hm0⟩ : ∃ (a : Option Addr) (n c : Nat) (l : List UInt8), v0 = .slice a n c ∧ BR (fun b => b < W.heap.size) W a n l ∧ n ≤ c ∧ c ≤ 9223372036854775807 := by
    obtain ⟨a, n, c, rfl⟩ := okWide_slice Tryz.underlying23 (hval 0 23 v0 rfl rfl)
    obtain ⟨fuel, hf⟩ := h0
    exact br_of hf
  obtain ⟨a1, n1, c1, rfl, hR1, hc1, hm1⟩ : ∃ (a : Option Addr) (n c : Nat), v1 = .slice a n c ∧ InL W a n ∧ n ≤ c ∧ c ≤ 9223372036854775807 := by
    obtain ⟨a, n, c, rfl⟩ := okWide_slice Tryz.underlying29 (hval 1 29 v1 rfl rfl)
    obtain ⟨fuel, hf⟩ := h1
    exact nums_of hf
  obtain ⟨x2, rfl, rfl, rfl, w2⟩ := open_int Tryz.underlying3 (hval 2 3 v2 rfl rfl) h2
  have b2 := bounds_i64 w2
  obtain ⟨x3, rfl, rfl, rfl, w3⟩ := open_int Tryz.underlying3 (hval 3 3 v3 rfl rfl) h3
  have b3 := bounds_i64 w3
  clear hA0 hr0 hr1 hr2 hr3
  refine (fixed_any a0 a1 n0 c0 n1 c1 l0 x2 x3 W b3.1 b3.2 hR0 hc0 hm0 hR1 hc1 hm1 (env_of hL)).mono fun e W' ⟨he, bel⟩ => ?_
  subst he
  exact ⟨_, rfl, _, _, _, [], _, [], hW', trodAll_mk1 (shut_bool Tryz.underlying4 _), (trodAll_cons_mk (Below.trod laidOut (by kernel_rfl) (of_decide_eq_true (by kernel_rfl)) k0 bel lt0) (trodAll_cons_mk (Below.trod laidOut (by kernel_rfl) (of_decide_eq_true (by kernel_rfl)) k1 bel lt1) (trodAll_cons_mk (Below.trod laidOut (by kernel_rfl) (of_decide_eq_true (by kernel_rfl)) k2 bel lt2) (trodAll_cons_mk (Below.trod laidOut (by kernel_rfl) (of_decide_eq_true (by kernel_rfl)) k3 bel lt3) trodAll_mk0)))), rfl, bel.frame _, fun h => by cases h⟩

/-- A WORLD FOR THE WITNESS: the two tables hold what their initialisers lay. -/
theorem laid_met (os : Os) : laidMet Tryz.prog Rows.wellformFixedRow.laid ((laidWorld os).forCall (fun _ _ => 0) ⟨#[], #[.slice none 0 0, .slice none 0 0, .int .i64 0, .int .i64 0], []⟩).memory :=
  laidMet_of_run' 8 (by kernel_rfl) (by kernel_rfl)
theorem reads (os : Os) {H : Type} (enc : TypeId × Value → H) : ∃ places, DataW.whole enc Tryz.prog ((laidWorld os).forCall (fun _ _ => 0) ⟨#[], #[.slice none 0 0, .slice none 0 0, .int .i64 0, .int .i64 0], []⟩).memory Tryz.f16.params.toList Rows.wellformFixedSpec.vars false #[Value.slice none 0 0, .slice none 0 0, .int .i64 0, .int .i64 0].toList 8 = some ([.nil, .nil, .lit (.int .i64 0), .lit (.int .i64 0)], [], places) :=
  ⟨[], by kernel_rfl⟩

set_option maxRecDepth 100000 in
theorem lifted (os : Os) (started : os.Started) (H : Type) (enc : TypeId × Value → H) (F : Stop.Interp) :
    ReturnsInHanded {} Tryz.checked os 16 .any ((OpenSpec.ofChange Rows.wellformFixedSpec).preRow enc Tryz.prog Tryz.f16 Rows.wellformFixedRow.domain false Rows.wellformFixedRow.laid) (((OpenSpec.ofChange Rows.wellformFixedSpec).at F).post enc Tryz.prog Tryz.f16 false true false false) := by
  obtain ⟨places, hx⟩ := reads os enc
  refine returnsInHanded_of_row (C := Tryz.checked) (s := OpenSpec.ofChange Rows.wellformFixedSpec) own started (by kernel_rfl) Tryz.func16
    (witness_row_at (enc := enc) (C := Tryz.checked) false (laidWorld os) #[.slice none 0 0, .slice none 0 0, .int .i64 0, .int .i64 0] rfl (by kernel_rfl) (by kernel_rfl) (by kernel_rfl)
      (OpenSpec.preRow_of_cond 8 hx (by kernel_rfl) (fun k hk => by cases hk) (by kernel_rfl) (laid_met os))) ?_
  intro W base args ds gs before hval hW _ _ _ hL _ _
  exact contract H enc W base args ds gs before hval hW hL

theorem named_ : Tryz.pinned.checked.prog.funcNamed Rows.wellformFixedRow.func = some 16 := by kernel_rfl
theorem closed_ : joinedFacts Tryz.pinned.checked.prog 16 Tryz.f16 (OpenSpec.ofChange Rows.wellformFixedSpec).bare Rows.wellformFixedRow = true := by kernel_rfl
theorem inst_ : Tryz.f16.isInstance Tryz.pinned.checked.prog Rows.wellformFixedRow.origin Rows.wellformFixedRow.targs := of_decide_eq_true (by kernel_rfl)
theorem said : Rows.WellformFixedSaid :=
  OpenClaim.holds_of_cond 16 Tryz.f16 rfl rfl rfl rfl rfl rfl rfl ⟨rfl, rfl, rfl, rfl, rfl⟩ rfl rfl rfl rfl rfl named_ Tryz.func16 closed_ inst_
    (by unfold Func.isWrapper; first | (rw [if_pos (by decide +kernel)]; kernel_rfl) | (rw [if_neg (by decide +kernel)]; exact ⟨rfl, rfl⟩))
    (fun os started H enc _ F => by rw [OpenClaim.pre_eq_preRow]; exact lifted os started H enc F)

theorem plain (f : FuncId) (fn : Func) (hf : Tryz.pinned.checked.prog.funcNamed "coresec/coreseclaw02.WellformFixed" = some f) (hfn : Tryz.pinned.checked.prog.funcs[f]? = some fn) :
    false = Tryz.pinned.checked.prog.looks [] ∧ ∀ (j : Nat) t, fn.params[j]? = some t → Tryz.pinned.checked.prog.wantsStandIn t = false := by
  obtain rfl : f = 16 := Option.some.inj ((show Tryz.prog.funcNamed "coresec/coreseclaw02.WellformFixed" = some 16 by kernel_rfl).symm.trans hf) |>.symm
  obtain rfl : fn = Tryz.f16 := (Option.some.inj (Tryz.func16.symm.trans hfn)).symm
  refine ⟨by kernel_rfl, fun j t ht => ?_⟩
  rw [Tryz.params16] at ht
  have hm := Array.mem_of_getElem? ht
  have hm' : t = 23 ∨ t = 29 ∨ t = 3 := by simpa using hm
  rcases hm' with rfl | rfl | rfl
  · exact (show Tryz.prog.wantsStandIn 23 = false by kernel_rfl)
  · exact (show Tryz.prog.wantsStandIn 29 = false by kernel_rfl)
  · exact (show Tryz.prog.wantsStandIn 3 = false by kernel_rfl)

theorem wellform_fixed : Rows.WellformFixedCardSaid :=
  Claim7.holds_tied_plain_at .later [] _ _ _ _ said (fun _ h => by cases h) (by kernel_rfl) (fun _ h => by cases h) wellformFixed_row_tie rfl ⟨rfl, rfl⟩ (by kernel_rfl) rfl plain (by kernel_rfl)
#print axioms wellform_fixed
end Go.Proofs.YtelefkkkccilaaaGreatDoor
