/- What LA holds besides. -/
import Derived.Test.YtelefkkkccilaaaGreatDoorLA
set_option linter.all false
namespace Go.Proofs.YtelefkkkccilaaaGreatDoor
namespace Fl
set_option maxRecDepth 100000
theorem aux9 (q r:Nat):q % r=0→q % r * 536870912=0:=by intro h;rw [h]
end Fl
namespace It
set_option maxRecDepth 100000
theorem cmpB_range:∀ a b:List UInt8,cmpB a b= -1∨cmpB a b=0∨cmpB a b=1
 | [],[]=>.inr (.inl rfl)
 | [],_ :: _=>.inl rfl
 | _ :: _,[]=>.inr (.inr rfl)
 | a :: as,b :: bs=>by
   unfold cmpB
   split
   ·exact .inl rfl
   split
   ·exact .inr (.inr rfl)
   ·exact cmpB_range as bs
theorem nan_lt:Fl.nan < 18446744073709551616:=by decide
end It
namespace It
set_option maxRecDepth 100000
theorem decode_ok {z:List UInt8} {x:It} (h:decodeP z=.ok x):enc x=z∧valid x=true:=by
 unfold decodeP at h
 split at h
 ·cases h
 rename_i hl
 split at h
 ·cases h
 rename_i y f s hy
 split at h
 ·rename_i hs
  cases h
  subst hs;unfold prefixP at hy;rw [List.take_of_length_le (by omega)] at hy;obtain ⟨a1,a2,a3⟩:=item_sound 8 _ _ _ _ _ hy;rw [List.append_nil] at a1;refine ⟨a1.symm,?_⟩;unfold valid;rw [a2,← a1];simp;omega
 ·cases h
end It
namespace It
theorem own_enc {d:Nat} {x:It} (h:wf d x=true):(enc x).length=own x + (encs x.kids).length:=by
 cases x with
 | mk k n b ks=>
   unfold wf at h;unfold own enc;simp only [kids];rw [Bool.and_eq_true] at h;obtain ⟨_,h⟩:=h
   split at h
   ·rename_i h1;simp at h;rw [if_pos h1,if_pos (by omega),h.1,h.2];simp [encs]
   split at h
   ·rename_i h1 h2;simp at h;subst h2;simp [h.2,encs]
   split at h
   ·rename_i h1 h2 h3;simp at h;subst h3;simp [h.1.2,encs]
   split at h
   ·rename_i h1 h2 h3 h4;simp at h;subst h4;simp [h.1.2,encs];split <;> rfl
   split at h
   ·rename_i h1 h2 h3 h4 h5;simp at h;subst h5;simp [h.1.2,encs]
   split at h
   ·rename_i h1 h2 h3 h4 h5 h6
    simp only [Bool.and_eq_true,List.isEmpty_iff] at h;obtain ⟨⟨⟨⟨rfl,_⟩,_⟩,_⟩,_⟩:=h;rcases h6 with rfl | rfl | rfl <;> simp
   ·cases h
end It
namespace It
theorem leftP_ge {d n:Nat} {x:It}:(0≤leftP d x n)=(okS d x n=true):=by
 unfold leftP
 split
 ·rename_i h
  have:=okS_le h;rw [eq_iff_iff];exact ⟨fun _=>h,fun _=>by omega⟩
 ·rename_i h
  rw [eq_iff_iff];exact ⟨fun h1=>by omega,fun h1=>absurd h1 h⟩
end It
