/- What LA holds besides. -/
import Derived.Test.YtelefkkkccilaaaGreatDoorLA
set_option linter.unusedVariables false
set_option linter.unusedSimpArgs false
namespace Go.Proofs.YtelefkkkccilaaaGreatDoor
namespace Fl
set_option maxRecDepth 100000
end Fl
namespace It
set_option maxRecDepth 100000
end It
namespace It
set_option maxRecDepth 100000
theorem decode_ok {z:List UInt8} {x:It} (h:decodeP z=.ok x):enc x=z∧valid x=true:=by
 unfold decodeP at h
 split at h
 ·cases h
 rename_i hl
 split at h
 ·cases h
 rename_i y f s hy
 split at h
 ·rename_i hs
  cases h
  subst hs;unfold prefixP at hy;rw [List.take_of_length_le (by omega)] at hy;obtain ⟨a1,a2,a3⟩:=item_sound 8 _ _ _ _ _ hy;rw [List.append_nil] at a1;refine ⟨a1.symm,?_⟩;unfold valid;rw [a2,← a1];simp;omega
 ·cases h
end It
namespace It
end It
namespace It
end It
end Go.Proofs.YtelefkkkccilaaaGreatDoor
