/- Reading, a step at a time. -/
import Derived.Test.YtelefkkkccilaaaDoorLA
set_option linter.unusedVariables false
set_option linter.unusedSimpArgs false
namespace Go.Proofs.YtelefkkkccilaaaDoor
namespace It
def pre (l:List It) (r:PR (List It)):PR (List It):=r.map (l ++ ·)
theorem pre_nil (r:PR (List It)):pre [] r=r:=by cases r <;> simp [pre,PR.map]
theorem pre_cons (l:List It) (y:It) (r:PR (List It)):pre l (r.map (y :: ·))=pre (l ++ [y]) r:=by cases r <;> simp [pre,PR.map]
theorem seqN_zero (it:Nat→List UInt8→PR It) (f:Nat) (s:List UInt8) (l:List It):pre l (seqN it 0 f s)=.ok l f s:=by simp [pre,seqN,PR.map]
theorem seqN_err {it:Nat→List UInt8→PR It} {n f:Nat} {s:List UInt8} {e:Nat} (h:it f s=.err e) (l:List It):pre l (seqN it (n + 1) f s)=.err e:=by
 unfold seqN;rw [h];rfl
theorem seqN_ok {it:Nat→List UInt8→PR It} {n f f1:Nat} {s s1:List UInt8} {y:It} (h:it f s=.ok y f1 s1) (l:List It):pre l (seqN it (n + 1) f s)=pre (l ++ [y]) (seqN it n f1 s1):=by
 conv=>lhs;unfold seqN
 rw [h];exact pre_cons _ _ _
def prsO (it:Nat→List UInt8→PR It) (key:List UInt8) (n f:Nat) (s:List UInt8):PR (List It):=match it f s with
 | .err e=>.err e
 | .ok v f2 s2=>(prsN it (some key) n f2 s2).map (v :: ·)
theorem prsN_zero (it:Nat→List UInt8→PR It) (last:Option (List UInt8)) (f:Nat) (s:List UInt8) (l:List It):pre l (prsN it last 0 f s)=.ok l f s:=by simp [pre,prsN,PR.map]
theorem prsN_err {it:Nat→List UInt8→PR It} {last:Option (List UInt8)} {n f:Nat} {s:List UInt8} {e:Nat} (h:it f s=.err e) (l:List It):pre l (prsN it last (n + 1) f s)=.err e:=by
 unfold prsN;rw [h];rfl
theorem prsN_ok {it:Nat→List UInt8→PR It} {last:Option (List UInt8)} {n f f1:Nat} {s s1:List UInt8} {k:It} (h:it f s=.ok k f1 s1) (l:List It):pre l (prsN it last (n + 1) f s)=
 if keyC last (s.take (s.length - s1.length))=0 then .err 7 else if keyC last (s.take (s.length - s1.length)) < 0 then .err 6 else pre (l ++ [k]) (prsO it (s.take (s.length - s1.length)) n f1 s1):=by
 conv=>lhs;unfold prsN
 rw [h];simp only
 split
 ·rfl
 split
 ·rfl
 unfold prsO;cases h2:it f1 s1 with
 | err e=>simp [pre,PR.map]
 | ok v f2 s2=>
  simp only;have h3:(prsN it (some (s.take (s.length - s1.length))) n f2 s2).map (fun x=>k :: v :: x)=((prsN it (some (s.take (s.length - s1.length))) n f2 s2).map (v :: ·)).map (k :: ·):=by
   cases prsN it (some (s.take (s.length - s1.length))) n f2 s2 <;> simp [PR.map]
  rw [h3];exact pre_cons _ _ _
theorem prsO_err {it:Nat→List UInt8→PR It} {key:List UInt8} {n f:Nat} {s:List UInt8} {e:Nat} (h:it f s=.err e) (l:List It):pre l (prsO it key n f s)=.err e:=by
 unfold prsO;rw [h];rfl
theorem prsO_ok {it:Nat→List UInt8→PR It} {key:List UInt8} {n f f1:Nat} {s s1:List UInt8} {v:It} (h:it f s=.ok v f1 s1) (l:List It):pre l (prsO it key n f s)=pre (l ++ [v]) (prsN it (some key) n f1 s1):=by
 unfold prsO;rw [h];exact pre_cons _ _ _
theorem item_takes {d f f1:Nat} {s s1:List UInt8} {x:It} (h:item d f s=.ok x f1 s1):s=enc x ++ s1∧f1 + 1≤f∧s1.length < s.length∧s.take (s.length - s1.length)=enc x∧s1=s.drop (s.length - s1.length):=by
 obtain ⟨h1,h2,h3⟩:=item_sound d f s x f1 s1 h;have h4:=nodes_pos x;have h5:=enc_pos x;have h6:s.length=(enc x).length + s1.length:=by rw [h1,List.length_append]
 have h7:s.length - s1.length=(enc x).length:=by omega
 refine ⟨h1,by omega,by omega,?_,?_⟩
 ·rw [h7];conv=>lhs;rw [h1]
  simp
 ·rw [h7];conv=>rhs;rw [h1]
  simp
def Errs (it:Nat→List UInt8→PR It):Prop:=∀ f s e,it f s=.err e→e≠0
theorem readHead_errs {s:List UInt8} {e:Nat} (h:readHead s=.err e):e≠0:=by
 unfold readHead at h
 split at h
 ·cases h;decide
 ·split at h
  ·cases h;decide
  split at h
  ·cases h
  split at h
  ·cases h;decide
  split at h
  ·cases h;decide
  ·cases h
theorem seqN_errs {it:Nat→List UInt8→PR It} (hi:Errs it):∀ n f s e,seqN it n f s=.err e→e≠0
 | 0,f,s,e,h=>by unfold seqN at h;cases h
 | n + 1,f,s,e,h=>by
  unfold seqN at h
  split at h
  ·rename_i e' h'
   cases h;exact hi _ _ _ h'
  ·rename_i y f1 s1 h'
   cases h2:seqN it n f1 s1 with
   | err e2=>rw [h2] at h;simp only [PR.map] at h;cases h;exact seqN_errs hi n _ _ _ h2
   | ok y2 f2 s2=>rw [h2] at h;simp only [PR.map] at h;cases h
theorem prsN_errs {it:Nat→List UInt8→PR It} (hi:Errs it):∀ last n f s e,prsN it last n f s=.err e→e≠0
 | last,0,f,s,e,h=>by unfold prsN at h;cases h
 | last,n + 1,f,s,e,h=>by
  unfold prsN at h
  split at h
  ·rename_i e' h'
   cases h;exact hi _ _ _ h'
  ·simp only at h
   split at h
   ·cases h;decide
   split at h
   ·cases h;decide
   split at h
   ·rename_i e' h'
    cases h;exact hi _ _ _ h'
   ·rename_i y f1 s1 h' v f2 s2 h''
    revert h
    generalize hk:some _=K;intro h
    first
     | (cases h2:prsN it K n f2 s2 with
      | err e2=>rw [h2] at h;simp only [PR.map] at h;cases h;exact prsN_errs hi K n _ _ _ h2
      | ok y2 f2 s2=>rw [h2] at h;simp only [PR.map] at h;cases h)
theorem map_err {α β:Type} {f:α→β} {r:PR α} {e:Nat} (h:r.map f=.err e):r=.err e:=by
 cases r with
 | err e'=>simp only [PR.map] at h;cases h;rfl
 | ok y f1 s1=>simp only [PR.map] at h;cases h
theorem step_errs {sub:Option (Nat→List UInt8→PR It)} (hs:∀ it,sub=some it→Errs it):Errs (step sub):=by
 intro f s e h;cases f with
 | zero=>unfold step at h;cases h;decide
 | succ f=>
  unfold step at h;cases hr:readHead s with
  | err er=>simp only [hr] at h;cases h;exact readHead_errs hr
  | ok c n r=>
   simp only [hr] at h
   split at h
   ·cases h
   split at h
   ·split at h
    ·cases h;decide
    split at h
    ·cases h;decide
    ·cases h
   split at h
   ·split at h
    ·cases h
    ·cases h;decide
   split at h
   ·cases h;decide
   ·rename_i it
    have hi:=hs it rfl
    split at h
    ·exact prsN_errs hi _ _ _ _ _ (map_err h)
    split at h
    ·exact hi _ _ _ (map_err h)
    ·exact seqN_errs hi _ _ _ _ (map_err h)
theorem item_errs:∀ d,Errs (item d)
 | 0=>by unfold item;exact step_errs fun it h=>by cases h
 | d + 1=>by unfold item;exact step_errs fun it h=>by cases h;exact item_errs d
end It
end Go.Proofs.YtelefkkkccilaaaDoor
