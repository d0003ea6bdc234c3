/- Maps of one's own: a literal's insert, a look-up of strings and of bools; and the texts of numbers in the reference. -/
import Derived.Test.YtkgbjoepjcenlaaDoorWj
import Derived.Test.YtkgbjoepjcenlaaDoorSh
import Derived.Maps.OwnOps
import Derived.Maps.OwnSet
import Derived.Maps.Views
import Derived.Maps.StringElems
namespace Go.Proofs.YtkgbjoepjcenlaaDoor
open Go.RowKit Go.Maps
theorem wpList_insert_own {P : Program} (w : World) {ops : Array Oper} {rest : List Oper} {o : Oper} {a : Act} {Q : Exit → Act → World → Prop}
    (hg : o.guard = none) (hd : o.dst = none) (m x v : Operand) (t : TypeId) (hop : o.op = Op.insert t m x v)
    (k e : TypeId) (K : Keyed P k) (ht : P.underlying t = some (.map k e)) (R : Value → Option (DataW Unit × List MemPlace)) (b n : Nat) (D : DataW Unit)
    (hm : a.eval m = .map (some b)) (hown : w.ownsMap P k R b n D) (hn : n < maxLen) (key val : Value) (kl : Lit) (hx : a.eval x = key) (hv : a.eval v = val) (hkey : keyOf P k key = some kl)
    (d : DataW Unit) (hval : R val = some (d, []))
    (hK : ∀ w', w'.ownsMap P k R b (n + 1) (D.put kl d) → w.grownBy w' (some b) → wpList P ops Q rest a w') : wpList P ops Q (o :: rest) a w := by
  refine wpList_plain hg fun K' hK' => ?_
  obtain ⟨w', hrun, r1, r2⟩ := hown.update K ht hn hkey hval
  unfold Oper.wp
  simp [execOp, hop, hm, hx, hv, hrun, Result.andThen]
  refine hK' _ _ ?_
  rw [hd]
  exact hK w' r1 r2
theorem wpList_makeMap {P : Program} (w : World) {ops : Array Oper} {rest : List Oper} {o : Oper} {a : Act} {Q : Exit → Act → World → Prop}
    (hg : o.guard = none) (t : TypeId) (hop : o.op = Op.makeMap t none)
    (hK : wpList P ops Q rest (a.put o.dst (.map (some w.heap.size))) (w.alloc (.map #[] 0))) : wpList P ops Q (o :: rest) a w := by
  refine wpList_plain hg fun K' hK' => ?_
  have hrun := run_makeMap (P := P) t w
  unfold Oper.wp
  simp [execOp, hop, hrun, Result.andThen]
  exact hK' _ _ hK
theorem below_map {B b : Nat} {a w w' : World} (h : Below B a w) (hgr : w.grownBy w' (some b)) (hB : B ≤ b) (hs : B ≤ w.heap.size) : Below B a w' :=
  ⟨hgr.os.trans h.os, hgr.tape.trans h.tape, hgr.output.trans h.output, Nat.le_trans h.size hgr.size, fun i hi => (hgr.block i (Nat.lt_of_lt_of_le hi hs) (fun e => by cases e; omega)).trans (h.block i hi)⟩
theorem wpList_lookup_str {P : Program} (w : World) {ops : Array Oper} {rest : List Oper} {o : Oper} {a : Act} {Q : Exit → Act → World → Prop}
    (hg : o.guard = none) (m x : Operand) (t : TypeId) (hop : o.op = Op.lookup t m x false)
    (k e : TypeId) (K : Keyed P k) (ht : P.underlying t = some (.map k e)) (he : P.underlying e = some .string) (hz : (zeroValue e).run P w = .ok (.string ⟨#[]⟩) w) (b n : Nat) (D : DataW Unit)
    (hm : a.eval m = .map (some b)) (hown : w.ownsMap P k (plainElem P e) b n D) (key : Value) (kl : Lit) (hx : a.eval x = key) (hkey : keyOf P k key = some kl) (l : List UInt8) (hat : D.atKey kl (.lit (.string [])) = .lit (.string l))
    (hK : wpList P ops Q rest (a.put o.dst (.string ⟨l.toArray⟩)) w) : wpList P ops Q (o :: rest) a w := by
  refine wpList_plain hg fun K' hK' => ?_
  obtain ⟨v, ps, hrun, hv⟩ := hown.lookup K ht hz (zd := .lit (.string [])) (zp := []) (plainElem_string he (Nat.zero_le _)) hkey
  rw [hat] at hv
  obtain ⟨s, rfl, hs, _⟩ := plainElem_string_inv he hv
  have hs' : s = ⟨l.toArray⟩ := by
    have h1 : s.data.toList = l := by
      have := congrArg Prod.fst hs
      simp at this
      exact this.symm
    rw [← h1]
  subst hs'
  unfold Oper.wp
  simp [execOp, hop, hm, hx, hrun, Result.andThen]
  exact hK' _ _ hK
theorem wpList_lookup_bool {P : Program} (w : World) {ops : Array Oper} {rest : List Oper} {o : Oper} {a : Act} {Q : Exit → Act → World → Prop}
    (hg : o.guard = none) (m x : Operand) (t : TypeId) (hop : o.op = Op.lookup t m x false)
    (k e : TypeId) (K : Keyed P k) (ht : P.underlying t = some (.map k e)) (he : P.underlying e = some .bool) (hz : (zeroValue e).run P w = .ok (.bool false) w) (b n : Nat) (D : DataW Unit)
    (hm : a.eval m = .map (some b)) (hown : w.ownsMap P k (plainElem P e) b n D) (key : Value) (kl : Lit) (hx : a.eval x = key) (hkey : keyOf P k key = some kl) (r : Bool) (hat : D.atKey kl (.lit (.bool false)) = .lit (.bool r))
    (hK : wpList P ops Q rest (a.put o.dst (.bool r)) w) : wpList P ops Q (o :: rest) a w := by
  refine wpList_plain hg fun K' hK' => ?_
  obtain ⟨v, ps, hrun, hv⟩ := hown.lookup K ht hz (zd := .lit (.bool false)) (zp := []) (plainElem_bool he false) hkey
  rw [hat] at hv
  have hvr : v = .bool r := by
    unfold plainElem at hv
    rw [he] at hv
    cases v <;> simp at hv
    rw [hv.1]
  subst hvr
  unfold Oper.wp
  simp [execOp, hop, hm, hx, hrun, Result.andThen]
  exact hK' _ _ hK
/-- The literal's entries. -/
def litD : DataW Unit := ((((((((DataW.map []).put (.int .i64 2) (.lit (.string [112, 97, 105, 114]))).put (.int .i64 3) (.lit (.string [104, 97, 115, 104]))).put (.int .i64 4) (.lit (.string [115, 101, 97, 108]))).put (.int .i64 5) (.lit (.string [115, 105, 103, 110]))).put (.int .i64 6) (.lit (.string [112, 117, 98]))).put (.int .i64 7) (.lit (.string [115, 104, 97, 114, 101]))).put (.int .i64 8) (.lit (.string [107, 100, 102])))
theorem litD_at {o : Int} (h : o = 2 ∨ o = 3 ∨ o = 4 ∨ o = 5 ∨ o = 6 ∨ o = 7 ∨ o = 8) : litD.atKey (.int .i64 o) (.lit (.string [])) = .lit (.string (Tm.opName o)) := by
  rcases h with rfl | rfl | rfl | rfl | rfl | rfl | rfl <;> kernel_rfl
namespace Tm
theorem text_op {t : Tm} (h : t.op ≠ 1) : text t = opName t.op ++ 40 :: (joined t.kids ++ [41]) := by cases t; simp only [text, op, kids] at h ⊢; rw [if_neg h]
theorem text_name {t : Tm} (h : t.op = 1) : text t = 110 :: dec t.num.toNat := by cases t; simp only [text, op, num] at h ⊢; rw [if_pos h]
theorem joined_take {l : List Tm} {j : Nat} (h : j < l.length) : joined (l.take (j + 1)) = joined (l.take j) ++ ((if j = 0 then [] else [44, 32]) ++ text l[j]) := by
  rw [List.take_succ_eq_append_getElem h, joined_snoc]
  by_cases hj : j = 0
  · subst hj; simp
  · rw [if_neg hj, if_neg]
    intro e
    have := congrArg List.length e
    rw [List.length_take] at this
    simp only [List.length_nil] at this
    omega
end Tm
end Go.Proofs.YtkgbjoepjcenlaaDoor
