/- strconv.Itoa at the numbers of names: the library's proved contract, laid at this program. -/
import Derived.Test.YtkgbjoepjcenlaaDoorBa
import Derived.Shelf.LaysM
import Derived.Shelf.Strconv.Itoa3
import Derived.Lib.SmallJoins
namespace Go.Proofs.YtkgbjoepjcenlaaDoor
open Go.RowKit Go.Shelf
def shLays_ren : Go.Shelf.Ren := ⟨fun | 171 => 61 | 243 => 65 | 246 => 69 | 283 => 70 | 284 => 71 | 285 => 72 | 286 => 73 | 129 => 75 | 317 => 74 | 318 => 76 | 319 => 77 | 320 => 78 | 337 => 79 | 338 => 80 | n => n, fun | 3 => 3 | 9 => 9 | 2 => 2 | 4 => 4 | 171 => 86 | 0 => 0 | 53 => 87 | 37 => 83 | 5 => 5 | 173 => 90 | 212 => 93 | 51 => 94 | 20 => 20 | 213 => 95 | 46 => 48 | 232 => 99 | 233 => 100 | n => n, fun | 17 => 0 | 18 => 1 | 19 => 2 | n => n⟩
theorem shLays : Go.Proofs.LaysM.n171 Tryd.prog shLays_ren := {
  mixed := by kernel_rfl
  f129 := Tryd.func75.trans (congrArg some (by kernel_rfl))
  f171 := Tryd.func61.trans (congrArg some (by kernel_rfl))
  f243 := Tryd.func65.trans (congrArg some (by kernel_rfl))
  f246 := Tryd.func69.trans (congrArg some (by kernel_rfl))
  f283 := Tryd.func70.trans (congrArg some (by kernel_rfl))
  f284 := Tryd.func71.trans (congrArg some (by kernel_rfl))
  f285 := Tryd.func72.trans (congrArg some (by kernel_rfl))
  f286 := Tryd.func73.trans (congrArg some (by kernel_rfl))
  f317 := Tryd.func74.trans (congrArg some (by kernel_rfl))
  f318 := Tryd.func76.trans (congrArg some (by kernel_rfl))
  f319 := Tryd.func77.trans (congrArg some (by kernel_rfl))
  f320 := Tryd.func78.trans (congrArg some (by kernel_rfl))
  f337 := Tryd.func79.trans (congrArg some (by kernel_rfl))
  f338 := Tryd.func80.trans (congrArg some (by kernel_rfl))
  t0 := Tryd.underlying0
  a0 := Tryd.isAgg0
  z0 := Tryd.sizeOf0
  v0 := Tryd.zeroValue0
  t2 := Tryd.underlying2
  a2 := Tryd.isAgg2
  z2 := Tryd.sizeOf2
  v2 := Tryd.zeroValue2
  t3 := Tryd.underlying3
  a3 := Tryd.isAgg3
  z3 := Tryd.sizeOf3
  v3 := Tryd.zeroValue3
  t4 := Tryd.underlying4
  a4 := Tryd.isAgg4
  z4 := Tryd.sizeOf4
  v4 := Tryd.zeroValue4
  t5 := Tryd.underlying5
  a5 := Tryd.isAgg5
  z5 := Tryd.sizeOf5
  v5 := Tryd.zeroValue5
  t9 := Tryd.underlying9
  a9 := Tryd.isAgg9
  z9 := Tryd.sizeOf9
  v9 := Tryd.zeroValue9
  t20 := Tryd.underlying20
  a20 := Tryd.isAgg20
  z20 := Tryd.sizeOf20
  v20 := Tryd.zeroValue20
  t37 := Tryd.underlying83
  a37 := Tryd.isAgg83
  z37 := Tryd.sizeOf83
  v37 := Tryd.zeroValue83
  t46 := Tryd.underlying48
  a46 := Tryd.isAgg48
  z46 := Tryd.sizeOf48
  v46 := Tryd.zeroValue48
  t51 := Tryd.underlying94
  a51 := Tryd.isAgg94
  z51 := Tryd.sizeOf94
  v51 := Tryd.zeroValue94
  t53 := Tryd.underlying87
  a53 := Tryd.isAgg87
  z53 := Tryd.sizeOf87
  v53 := Tryd.zeroValue87
  t171 := Tryd.underlying86
  a171 := Tryd.isAgg86
  z171 := Tryd.sizeOf86
  v171 := Tryd.zeroValue86
  t173 := Tryd.underlying90
  a173 := Tryd.isAgg90
  z173 := Tryd.sizeOf90
  v173 := Tryd.zeroValue90
  t212 := Tryd.underlying93
  a212 := Tryd.isAgg93
  z212 := Tryd.sizeOf93
  v212 := Tryd.zeroValue93
  t213 := Tryd.underlying95
  a213 := Tryd.isAgg95
  z213 := Tryd.sizeOf95
  t232 := Tryd.underlying99
  a232 := Tryd.isAgg99
  z232 := Tryd.sizeOf99
  v232 := Tryd.zeroValue99
  t233 := Tryd.underlying100
  a233 := Tryd.isAgg100
  z233 := Tryd.sizeOf100
  v233 := Tryd.zeroValue100
  g17 := by kernel_rfl
  g18 := by kernel_rfl
  g19 := by kernel_rfl
  i0 := by kernel_rfl
  i2 := by kernel_rfl
  i3 := by kernel_rfl
  i4 := by kernel_rfl
  i5 := by kernel_rfl
  i9 := by kernel_rfl
  i20 := by kernel_rfl
  i37 := by kernel_rfl
  i46 := by kernel_rfl
  i51 := by kernel_rfl
  i53 := by kernel_rfl
  i171 := by kernel_rfl
  i173 := by kernel_rfl
  i212 := by kernel_rfl
  i232 := by kernel_rfl
  i233 := by kernel_rfl
  m17 := by kernel_rfl
  m18 := by kernel_rfl
  m19 := by kernel_rfl }
/-- The name of the table that Itoa reads. -/
def tabN : String := Rows.twinGrowsRow.named.headD (String.ofList [])
/-- The table reads as its initialiser lays it. -/
def Env (w : World) : Prop := Lib.TabIs Tryd.prog w tabN .u64 Lib.pow10Tab
theorem Env.below {w w' : World} (h : Env w) (hb : Below w.heap.size w w') : Env w' := Go.Joins.tab_stays (P := Tryd.prog) (show Tryd.prog.globalNamed tabN = some 0 by kernel_rfl) h hb (Nat.le_refl _)
theorem itoa_dec : ∀ n, n < 1001 → Lib.itoa ((n : Nat) : Int) = Tm.dec n := by decide +kernel
theorem below_grow (w : World) (k : Nat) (os : Array Obj) : Below w.heap.size w (Go.Sort.grow (w.drewN k) os) :=
  ⟨rfl, rfl, rfl, by simp [Go.Sort.grow, World.drewN], fun i hi => by
    show (w.heap ++ os)[i]? = w.heap[i]?
    rw [Array.getElem?_append_left hi]⟩
theorem itoa_any (n : Nat) (hn : n ≤ 1000) (w : World) (h : Env w) : Calls Tryd.prog 61 #[.int .i64 n] w fun e w' => e = .returned (.string ⟨(Tm.dec n).toArray⟩) ∧ Below w.heap.size w w' :=
  (Any.strconv_Itoa shLays n (by omega) (by omega) w h).mono fun e w' ⟨he, k, os, hw⟩ => ⟨by rw [he, itoa_dec n (by omega)], hw ▸ below_grow w k os⟩
end Go.Proofs.YtkgbjoepjcenlaaDoor
