/- The parser's number. -/
import Derived.Test.YtelefkkkccilaaaGreatDoorLJ
set_option linter.all false
namespace Go.Proofs.YtelefkkkccilaaaGreatDoor
open Go.RowKit
set_option maxRecDepth 100000
theorem unbe_snoc (l:List UInt8) (c:UInt8):It.unbe (l ++ [c])=It.unbe l * 256 + c.toNat:=by simp [It.unbe]
theorem unbe_lt:∀ l:List UInt8,It.unbe l < 256 ^ l.length:=by
 intro l;have h:∀ (l:List UInt8) (x k:Nat),x < 256 ^ k→l.foldl (fun x c=>x * 256 + c.toNat) x < 256 ^ (k + l.length):=by
  intro l
  induction l with
  | nil=>intro x k h;simpa using h
  | cons c l ih=>
    intro x k h;have hc:=c.toNat_lt;have:=ih (x * 256 + c.toNat) (k + 1) (by rw [Nat.pow_succ];omega);simpa [Nat.add_assoc,Nat.add_comm 1] using this
 have:=h l 0 0 (by simp);rw [Nat.zero_add] at this;exact this
def AtP (P k c b o:Nat) (l:List UInt8) (it:Int) (w:World):Prop:=w.heap[P]?=some (.cells #[.slice (some ⟨b,o,none⟩) l.length c,.int .i64 (k:Int),.int .i64 it] 121 (0,0))∧k≤l.length
theorem and31:∀ k:Fin 256,bits .and .u8 (k.val:Int) 31=((k.val % 32:Nat):Int):=by decide
theorem and31' (c:UInt8):bits .and .u8 (c.toNat:Int) 31=((c.toNat % 32:Nat):Int):=and31 ⟨c.toNat,c.toNat_lt⟩
