/- Joined texts. -/
import Derived.Test.YtelefkkkccilaaaGreatDoorJC
import Derived.Test.YtelefkkkccilaaaGreatDoorJF
import Derived.Test.YtelefkkkccilaaaGreatDoorLA
import Derived.Test.YtelefkkkccilaaaGreatDoorLA9
import Derived.Test.YtelefkkkccilaaaGreatDoorJE
import Derived.Test.YtelefkkkccilaaaGreatDoorLG
set_option linter.unusedVariables false
set_option linter.unusedSimpArgs false
namespace Go.Proofs.YtelefkkkccilaaaGreatDoor
mutual
def Gt.ok:Gt→Prop
 | .mk mj lw _ _ n sub=>mj < 8∧(lw < 28∨lw=31)∧n < 18446744073709551616∧(lw=25→n < 65536)∧(lw=26→n < 4294967296)∧sub.length≤256∧Gt.oks sub
def Gt.oks:List Gt→Prop
 | []=>True
 | t :: l=>Gt.ok t∧Gt.oks l
end
mutual
theorem gi_ok {b:List UInt8}:∀ {g lv p it ck:Nat} {t:Gt} {q i:Nat},gi b g lv p it ck=.ok (t,q,i)→it≤256→p≤b.length→t.ok
 | 0,_,_,_,_,_,_,_,h,_,_=>by simp [gi] at h
 | g + 1,lv,p,it,ck,t,q,i,h,hi,hp=>by
   rw [gi] at h;cases hh:hdP b p it ck with
   | error e=>rw [hh] at h;cases h
   | ok x=>
     obtain ⟨mj,lw,n,z,r⟩:=x;obtain ⟨h1,h2,h3,h4,h5,h6,h7,h8,_⟩:=hdP_ok hh;have h7:=h7 (by omega);have h25:lw=25→n < 65536:=fun e=>by have:=hdP_num hh (by omega) (by omega);rw [e] at this;simpa using this
     have h26:lw=26→n < 4294967296:=fun e=>by have:=hdP_num hh (by omega) (by omega);rw [e] at this;simpa using this
     rw [hh] at h;simp only at h
     split at h
     ·split at h
      ·cases hg:gl b g lv r (it + 1) none mj with
       | error e=>rw [hg] at h;cases h
       | ok y=>
         obtain ⟨l,u,j⟩:=y;have h9:=gl_bd hg (by omega) h7;have h10:=gl_ok hg (by omega) h7;rw [hg] at h;injection h with h;simp only [Prod.mk.injEq] at h
         obtain ⟨rfl,rfl,rfl⟩:=h;exact ⟨h3,h8,by omega,by omega,by omega,by omega,h10⟩
      ·split at h
       ·injection h with h;simp only [Prod.mk.injEq] at h
        obtain ⟨rfl,rfl,rfl⟩:=h;exact ⟨h3,h8,h5,h25,h26,by simp,trivial⟩
       ·cases h
     ·split at h
      ·injection h with h;simp only [Prod.mk.injEq] at h
       obtain ⟨rfl,rfl,rfl⟩:=h;exact ⟨h3,h8,h5,h25,h26,by simp,trivial⟩
      ·split at h
       ·cases h
       ·cases hg:gl b g (lv + 1) r (it + 1) (if lw=31 then none else some (cntP mj n)) 8 with
        | error e=>rw [hg] at h;cases h
        | ok y=>
          obtain ⟨l,u,j⟩:=y;have h9:=gl_bd hg (by omega) h7;have h10:=gl_ok hg (by omega) h7;rw [hg] at h;simp only at h
          split at h
          ·cases h
          ·injection h with h;simp only [Prod.mk.injEq] at h
           obtain ⟨rfl,rfl,rfl⟩:=h;exact ⟨h3,h8,h5,h25,h26,by omega,h10⟩
theorem gl_ok {b:List UInt8}:∀ {g lv p it:Nat} {c:Option Nat} {ck:Nat} {l:List Gt} {q i:Nat},gl b g lv p it c ck=.ok (l,q,i)→it≤256→p≤b.length→Gt.oks l
 | 0,_,_,_,_,_,_,_,_,h,_,_=>by simp [gl] at h
 | g + 1,lv,p,it,c,ck,l,q,i,h,hi,hp=>by
   rw [gl] at h
   split at h
   ·injection h with h;simp only [Prod.mk.injEq] at h;obtain ⟨rfl,rfl,rfl⟩:=h;trivial
   ·split at h
    ·injection h with h;simp only [Prod.mk.injEq] at h;obtain ⟨rfl,rfl,rfl⟩:=h;trivial
    ·cases hg:gi b g lv p it ck with
     | error e=>rw [hg] at h;cases h
     | ok x=>
       obtain ⟨t,r,j⟩:=x;have h1:=gi_bd hg hi hp;have h3:=gi_ok hg hi hp;rw [hg] at h;simp only at h;cases hl:gl b g lv r j (c.map (· - 1)) ck with
       | error e=>rw [hl] at h;cases h
       | ok y=>
         obtain ⟨m,u,k⟩:=y;have h2:=gl_ok hl (by omega) (by omega);rw [hl] at h;injection h with h;simp only [Prod.mk.injEq] at h;obtain ⟨rfl,rfl,rfl⟩:=h
         exact ⟨h3,h2⟩
end
theorem nan_wH {n:Nat} (hn:n < 65536) (h:Fl.nanH n=true):Fl.isNaN (Fl.widenH n)=true∧(Fl.widenH n=Fl.nan↔n=32256)∧Fl.widenH n < 18446744073709551616:=by
 unfold Fl.nanH at h;simp only [Bool.and_eq_true,beq_iff_eq,bne_iff_ne,ne_eq] at h;have e:Fl.widenH n=n / 32768 * 9223372036854775808 + 9218868437227405312 + n % 1024 * 4398046511104:=by
  unfold Fl.widenH;simp only [h.1,if_true]
 rw [e];unfold Fl.isNaN Fl.nan;simp only [Bool.and_eq_true,beq_iff_eq,bne_iff_ne,ne_eq];omega
theorem nan_wS {n:Nat} (hn:n < 4294967296) (h:Fl.nanS n=true):Fl.isNaN (Fl.widenS n)=true∧Fl.widenS n < 18446744073709551616:=by
 unfold Fl.nanS at h;simp only [Bool.and_eq_true,beq_iff_eq,bne_iff_ne,ne_eq] at h;have e:Fl.widenS n=n / 2147483648 * 9223372036854775808 + 9218868437227405312 + n % 8388608 * 536870912:=by
  unfold Fl.widenS;simp only [h.1,if_true]
 rw [e];unfold Fl.isNaN;simp only [Bool.and_eq_true,beq_iff_eq,bne_iff_ne,ne_eq];omega
theorem flt_nan:(It.flt Fl.nan).length=3:=by decide +kernel
theorem isNaN_nan:Fl.isNaN Fl.nan=true:=by decide
def prefP (b:List UInt8) (R:Except Nat (Gt × Nat × Nat)):Bool:=match R with
 | .error _=>false
 | .ok (t,p,_)=>decide (p=b.length) && !t.loose
end Go.Proofs.YtelefkkkccilaaaGreatDoor
namespace Go.Proofs.YtelefkkkccilaaaGreatDoor
open Am Go.RowKit
set_option maxRecDepth 100000
section
variable {X:Ev}
section
variable (l:List Gt) (i:Nat)
end
end
end Go.Proofs.YtelefkkkccilaaaGreatDoor
namespace Go.Proofs.YtelefkkkccilaaaGreatDoor
namespace It
namespace Q
theorem readHead_end {b:List UInt8} {p:Nat} (h:b.length≤p):readHead (b.drop p)=.err 2:=by
 rw [List.drop_eq_nil_of_le h];rfl
theorem readHead_at {b:List UInt8} {p:Nat} (h:p < b.length):readHead (b.drop p)=
 if 27 < b[p].toNat % 32 then .err 3
 else if b[p].toNat % 32 < 24 then .ok b[p].toNat (b[p].toNat % 32) (b.drop (p + 1))
 else if b.length - (p + 1) < 2 ^ (b[p].toNat % 32 - 24) then .err 2
 else if b[p].toNat / 32 < 7∧(head 0 (unbe ((b.drop (p + 1)).take (2 ^ (b[p].toNat % 32 - 24))))).length≠1 + 2 ^ (b[p].toNat % 32 - 24) then .err 4
 else .ok b[p].toNat (unbe ((b.drop (p + 1)).take (2 ^ (b[p].toNat % 32 - 24)))) (b.drop (p + 1 + 2 ^ (b[p].toNat % 32 - 24))):=by
 rw [List.drop_eq_getElem_cons h,readHead,List.length_drop,List.drop_drop]
theorem readHead_ok {b s:List UInt8} {p c n:Nat} (h:readHead (b.drop p)=.ok c n s):∃ q,s=b.drop q∧p < q∧q≤b.length∧c < 256∧c % 32 < 28∧n < 18446744073709551616∧(24≤c % 32→n < 256 ^ 2 ^ (c % 32 - 24))∧(c % 32 < 24→n=c % 32):=by
 rcases Nat.lt_or_ge p b.length with hp | hp
 ·rw [readHead_at hp] at h
  have hc:=b[p].toNat_lt;generalize b[p].toNat=x at *
  split at h
  ·cases h
  split at h
  ·cases h
   exact ⟨p + 1,rfl,by omega,by omega,hc,by omega,by omega,fun _=>by omega,fun _=>rfl⟩
  split at h
  ·cases h
  split at h
  ·cases h
  cases h
  have hk:2 ^ (c % 32 - 24)≤8∧0 < 2 ^ (c % 32 - 24):=by
   have:=Nat.pow_le_pow_right (n:=2) (by omega) (show c % 32 - 24≤3 by omega);exact ⟨by omega,Nat.pow_pos (by omega)⟩
  have hu:unbe ((b.drop (p + 1)).take (2 ^ (c % 32 - 24))) < 256 ^ 2 ^ (c % 32 - 24):=
   Nat.lt_of_lt_of_le (unbe_lt _) (Nat.pow_le_pow_right (by omega) (by rw [List.length_take];exact Nat.min_le_left ..))
  refine ⟨_,rfl,by omega,by omega,hc,by omega,Nat.lt_of_lt_of_le hu (Nat.le_trans (Nat.pow_le_pow_right (by omega) hk.1) (by decide)),fun _=>hu,fun _=>by omega⟩
 ·rw [readHead_end hp] at h;cases h
theorem readHead_ne {s:List UInt8} {e:Nat} (h:readHead s=.err e):e≠0:=by
 unfold readHead at h
 repeat' (split at h)
 all_goals first | (injection h with h;omega) | cases h
theorem item_eq (d f:Nat) (s:List UInt8):item d (f + 1) s=match readHead s with
 | .err e=>.err e
 | .ok c n r=>
   if c / 32≤1 then .ok (mk (c / 32:Nat) n [] []) f r
   else if c / 32≤3 then
    if r.length < n then .err 2
    else if c / 32=3∧Lib.validD (r.take n)=false then .err 5
    else .ok (mk (c / 32:Nat) 0 (r.take n) []) f (r.drop n)
   else if c / 32=7 then match seven (c % 32) n with | some x=>.ok x f r | .none=>.err 4
   else if d=0 then .err 8
   else if c / 32=5 then (prsN (item (d - 1)) .none n f r).map (mk 5 0 [] ·)
   else if c / 32=6 then (item (d - 1) f r).map fun x=>mk 6 n [] [x]
   else (seqN (item (d - 1)) n f r).map (mk 4 0 [] ·):=by
 cases d with
 | zero=>rfl
 | succ d=>rfl
theorem item_er {d f e:Nat} {s:List UInt8} (h:readHead s=.err e):item d (f + 1) s=.err e:=by rw [item_eq,h]
theorem item_ok {d f c n:Nat} {s r:List UInt8} (h:readHead s=.ok c n r):item d (f + 1) s=
 if c / 32≤1 then .ok (mk (c / 32:Nat) n [] []) f r
 else if c / 32≤3 then
  if r.length < n then .err 2
  else if c / 32=3∧Lib.validD (r.take n)=false then .err 5
  else .ok (mk (c / 32:Nat) 0 (r.take n) []) f (r.drop n)
 else if c / 32=7 then match seven (c % 32) n with | some x=>.ok x f r | .none=>.err 4
 else if d=0 then .err 8
 else if c / 32=5 then (prsN (item (d - 1)) .none n f r).map (mk 5 0 [] ·)
 else if c / 32=6 then (item (d - 1) f r).map fun x=>mk 6 n [] [x]
 else (seqN (item (d - 1)) n f r).map (mk 4 0 [] ·):=by rw [item_eq,h]
theorem item_0 (d:Nat) (s:List UInt8):item d 0 s=.err 8:=by cases d <;> rfl
def pre (l:List It) (r:PR (List It)):PR (List It):=r.map (l ++ ·)
theorem pre_nil (r:PR (List It)):pre [] r=r:=by cases r <;> simp [pre,PR.map]
theorem pre_cons (l:List It) (y:It) (r:PR (List It)):pre l (r.map (y :: ·))=pre (l ++ [y]) r:=by cases r <;> simp [pre,PR.map]
theorem seqN_st (it:Nat→List UInt8→PR It) (n f:Nat) (s:List UInt8) (l:List It):pre l (seqN it (n + 1) f s)=match it f s with
 | .err e=>.err e
 | .ok y f1 s1=>pre (l ++ [y]) (seqN it n f1 s1):=by
 conv=>lhs;unfold seqN
 cases it f s with
 | err e=>rfl
 | ok y f1 s1=>exact pre_cons _ _ _
theorem seqN_z (it:Nat→List UInt8→PR It) (f:Nat) (s:List UInt8) (l:List It):pre l (seqN it 0 f s)=.ok l f s:=by simp [pre,seqN,PR.map]
def prsO (it:Nat→List UInt8→PR It) (key:List UInt8) (n f:Nat) (s:List UInt8):PR (List It):=match it f s with
 | .err e=>.err e
 | .ok v f2 s2=>(prsN it (some key) n f2 s2).map (v :: ·)
theorem prsN_z (it:Nat→List UInt8→PR It) (last:Option (List UInt8)) (f:Nat) (s:List UInt8) (l:List It):pre l (prsN it last 0 f s)=.ok l f s:=by simp [pre,prsN,PR.map]
theorem prsN_st (it:Nat→List UInt8→PR It) (last:Option (List UInt8)) (n f:Nat) (s:List UInt8) (l:List It):pre l (prsN it last (n + 1) f s)=match it f s with
 | .err e=>.err e
 | .ok k f1 s1=>if keyC last (s.take (s.length - s1.length))=0 then .err 7 else if keyC last (s.take (s.length - s1.length)) < 0 then .err 6 else pre (l ++ [k]) (prsO it (s.take (s.length - s1.length)) n f1 s1):=by
 conv=>lhs;unfold prsN
 cases it f s with
 | err e=>rfl
 | ok k f1 s1=>
   simp only
   split
   ·rfl
   split
   ·rfl
   unfold prsO;cases it f1 s1 with
   | err e=>simp [pre,PR.map]
   | ok v f2 s2=>
     simp only;have h3:(prsN it (some (s.take (s.length - s1.length))) n f2 s2).map (fun x=>k :: v :: x)=((prsN it (some (s.take (s.length - s1.length))) n f2 s2).map (v :: ·)).map (k :: ·):=by
      cases prsN it (some (s.take (s.length - s1.length))) n f2 s2 <;> simp [PR.map]
     rw [h3];exact pre_cons _ _ _
theorem prsO_st (it:Nat→List UInt8→PR It) (key:List UInt8) (n f:Nat) (s:List UInt8) (l:List It):pre l (prsO it key n f s)=match it f s with
 | .err e=>.err e
 | .ok v f1 s1=>pre (l ++ [v]) (prsN it (some key) n f1 s1):=by
 unfold prsO;cases it f s with
 | err e=>rfl
 | ok v f2 s2=>exact pre_cons _ _ _
theorem item_at {d f g p:Nat} {b s:List UInt8} {x:It} (h:item d f (b.drop p)=.ok x g s):∃ q,s=b.drop q∧p < q∧q≤b.length∧(b.drop p).take (q - p)=enc x∧g + x.nodes=f∧1≤x.nodes∧wf d x=true∧(b.drop p).take ((b.drop p).length - s.length)=enc x∧q=b.length - s.length:=by
 obtain ⟨h1,h2,h3⟩:=item_sound d f (b.drop p) x g s h;have h4:=nodes_pos x;have h5:=enc_pos x;have h6:=congrArg List.length h1;rw [List.length_append,List.length_drop] at h6;have h7:s=b.drop (p + x.enc.length):=by
  rw [← List.drop_drop,h1,List.drop_left]
 have h8:(b.drop p).take x.enc.length=enc x:=by rw [h1,List.take_left]
 refine ⟨p + x.enc.length,h7,by omega,by omega,?_,by omega,h4,h2,?_,?_⟩
 ·rw [show p + x.enc.length - p=x.enc.length by omega];exact h8
 ·rw [List.length_drop,show b.length - p - s.length=x.enc.length by omega];exact h8
 ·omega
def Errs (it:Nat→List UInt8→PR It):Prop:=∀ f s e,it f s=.err e→e≠0
theorem map_err {α β:Type} {f:α→β} {r:PR α} {e:Nat} (h:r.map f=.err e):r=.err e:=by
 cases r with
 | err e'=>simp only [PR.map] at h;cases h;rfl
 | ok y f1 s1=>simp only [PR.map] at h;cases h
theorem seqN_errs {it:Nat→List UInt8→PR It} (hi:Errs it):∀ n f s e,seqN it n f s=.err e→e≠0
 | 0,f,s,e,h=>by unfold seqN at h;cases h
 | n + 1,f,s,e,h=>by
   unfold seqN at h
   split at h
   ·rename_i e' h';cases h;exact hi _ _ _ h'
   ·exact seqN_errs hi n _ _ _ (map_err h)
theorem prsN_errs {it:Nat→List UInt8→PR It} (hi:Errs it):∀ last n f s e,prsN it last n f s=.err e→e≠0
 | last,0,f,s,e,h=>by unfold prsN at h;cases h
 | last,n + 1,f,s,e,h=>by
   unfold prsN at h
   split at h
   ·rename_i e' h';cases h;exact hi _ _ _ h'
   ·simp only at h
    split at h
    ·cases h;decide
    split at h
    ·cases h;decide
    split at h
    ·rename_i e' h';cases h;exact hi _ _ _ h'
    ·exact prsN_errs hi _ n _ _ _ (map_err h)
theorem item_errs:∀ d,Errs (item d)
 | d,0,s,e,h=>by rw [item_0] at h;cases h;decide
 | d,f + 1,s,e,h=>by
   rw [item_eq] at h;cases hr:readHead s with
   | err er=>simp only [hr] at h;cases h;exact readHead_ne hr
   | ok c n r=>
     simp only [hr] at h
     split at h
     ·cases h
     split at h
     ·split at h
      ·cases h;decide
      split at h
      ·cases h;decide
      ·cases h
     split at h
     ·split at h
      ·cases h
      ·cases h;decide
     split at h
     ·cases h;decide
     rename_i hd
     have hi:=item_errs (d - 1)
     split at h
     ·exact prsN_errs hi _ _ _ _ _ (map_err h)
     split at h
     ·exact hi _ _ _ (map_err h)
     ·exact seqN_errs hi _ _ _ _ (map_err h)
termination_by d=>d
def detP (z:List UInt8):Bool:=match decodeP z with | .ok _=>true | .err _=>false
def decE (z:List UInt8):Nat:=match decodeP z with | .ok _=>0 | .err e=>e
theorem decE_det (z:List UInt8):decide (decE z=0)=detP z:=by
 unfold decE detP;cases h:decodeP z with
 | ok x=>rfl
 | err e=>
   refine decide_eq_false ?_;unfold decodeP at h
   split at h
   ·cases h;decide
   ·split at h
    ·rename_i h2;cases h;exact item_errs _ _ _ _ h2
    ·split at h
     ·cases h
     ·cases h;decide
end Q
end It
end Go.Proofs.YtelefkkkccilaaaGreatDoor
namespace Go.Proofs.YtelefkkkccilaaaGreatDoor
open Am Go.RowKit
set_option maxRecDepth 100000
set_option maxHeartbeats 8000000 in
theorem widen_any (g e m:Nat) (N:Int) (hN:N=((g * 32768 + e * 1024 + m:Nat):Int)) (hg:g < 2) (he:e < 32) (hm:m < 1024) (w:World):Calls Tryz.prog 163 #[.int .u16 N] w fun e' w'=>e'=.returned (.int .u64 (Fl.widenP (g * 32768 + e * 1024 + m):Nat))∧w=w':=by
 obtain ⟨M,hM⟩:∃ M:Int,M=m:=⟨_,rfl⟩;obtain ⟨E,hE⟩:∃ E:Int,E=e:=⟨_,rfl⟩;obtain ⟨G,hG⟩:∃ G:Int,G=g:=⟨_,rfl⟩;have hb1:bits .and .u16 N 1023=M:=by
  rw [hN,hM];have:=Go.u16_and_nat (g * 32768 + e * 1024 + m) 1023 (by omega) (by omega);rw [show (1023:Nat)=2 ^ 10 - 1 from rfl,Nat.and_two_pow_sub_one_eq_mod] at this;rw [show (1023:Int)=((2 ^ 10 - 1:Nat):Int) from rfl,this];congr 1;omega
 have hb2:bits .and .u16 (N / 1024) 31=E:=by
  have h1:N / 1024=((g * 32 + e:Nat):Int):=by omega
  rw [h1,hE];have:=Go.u16_and_nat (g * 32 + e) 31 (by omega) (by omega);rw [show (31:Nat)=2 ^ 5 - 1 from rfl,Nat.and_two_pow_sub_one_eq_mod] at this;rw [show (31:Int)=((2 ^ 5 - 1:Nat):Int) from rfl,this];congr 1;omega
 have hb3:N / 32768=G:=by omega
 have hwE:IntKind.i64.wrap E=E:=IntWalk.i64_in _ (by omega);by_cases hnan:e=31∧m≠0
 case pos=>
  have hres:Fl.widenP (g * 32768 + e * 1024 + m)=9221120237041090560:=by
   unfold Fl.widenP Fl.nanH;have a2:(g * 32768 + e * 1024 + m) / 1024 % 32=e:=by omega
   have a3:(g * 32768 + e * 1024 + m) % 1024=m:=by omega
   rw [a2,a3,if_pos (by simp [hnan.1,hnan.2])]
   rfl
  rw [hres];obtain rfl:E=31:=by omega
  have hmb:(M !=0)=true:=by simp;omega
  have hmz:¬ M=0:=by omega
  clear hN hM hE hG hnan hres hb3;go_enter Tryz.func163,Tryz.ntmps163
  go_wp2_with fail
  go_ret
  exact ⟨rfl,rfl⟩
 have hres:=widenP_eq hg he hm (fun h=>by omega);have hpl:=posH_lt he hm;rw [hres];have HS:=dh (sign_any hpl w);obtain ⟨R,hR⟩:∃ R:Int,R=((g * 9223372036854775808 + Fl.posH e m:Nat):Int):=⟨_,rfl⟩;rw [← hR];have HR:=dh hR;have X1:∀ z:Nat,(z:Int)=R→∀ W,(callFunc 158 #[.float .f64 z]).run Tryz.prog W=.ok (.value (.int .u64 R)) W:=fun z hz W=>x158 hz.symm W
 rcases (show g=0∨g=1 by omega) with rfl | rfl
 ·obtain rfl:G=0:=by omega
  have X1':=X1 (Fl.posH e m) (by have:=HR.out;omega);by_cases h31:e=31
  ·obtain rfl:E=31:=by omega
   obtain rfl:M=0:=by omega
   have hP:Fl.posH e m=9218868437227405312:=by unfold Fl.posH;rw [if_pos h31]
   have HC:=dh (inf_any w);rw [hP] at HS X1';clear hP h31 HR;clear hN hM hE hG hg he hm hnan hres hpl hR X1;go_enter Tryz.func163,Tryz.ntmps163
   go_wp2_with (first | simp only [X1'] | (go_at_call 198;refine HC.out.mono ?_;rintro e' w' ⟨rfl,rfl⟩) | (go_at_call 200;refine HS.out.mono ?_;rintro e' w' ⟨rfl,rfl⟩))
   go_ret
   exact ⟨rfl,rfl⟩
  by_cases h0:e=0
  ·by_cases hm0:m=0
   ·obtain rfl:E=0:=by omega
    obtain rfl:M=0:=by omega
    have hP:Fl.posH e m=0:=by unfold Fl.posH;rw [if_neg h31,if_pos h0,if_pos hm0]
    have HC:=dh (Ldexp_zero (-24) w);have hF:floatOfInt .f64 0=0:=by kernel_rfl
    rw [hP] at HS X1';clear hP h31 h0 hm0 HR;clear hN hM hE hG hg he hm hnan hres hpl hR X1;go_enter Tryz.func163,Tryz.ntmps163
    go_wp2_with (first | simp only [X1'] | (simp only [hF];go_at_call 199;refine HC.out.mono ?_;rintro e' w' ⟨rfl,rfl⟩) | (go_at_call 199;refine HC.out.mono ?_;rintro e' w' ⟨rfl,rfl⟩) | (go_at_call 200;refine HS.out.mono ?_;rintro e' w' ⟨rfl,rfl⟩))
    go_ret
    exact ⟨rfl,rfl⟩
   ·obtain rfl:E=0:=by omega
    have hsn:=sub_norm hm0 hm;have HC:=dh (Ldexp_any hsn.1 hsn.2 (-24) (by omega) w);rw [← hM] at HC;rw [h0] at HS X1';clear hsn h31 h0 hm0 HR;clear hN hM hE hG hg he hm hnan hres hpl hR X1;go_enter Tryz.func163,Tryz.ntmps163
    go_wp2_with (first | simp only [X1'] | (go_at_call 199;refine HC.out.mono ?_;rintro e' w' ⟨rfl,rfl⟩) | (go_at_call 200;refine HS.out.mono ?_;rintro e' w' ⟨rfl,rfl⟩))
    go_ret
    exact ⟨rfl,rfl⟩
  have hE31:(E==31)=false:=(by simp;omega);have hE0:(E==0)=false:=(by simp;omega);have hP:Fl.posH e m=(e + 1008) * 4503599627370496 + m * 4398046511104:=by unfold Fl.posH;rw [if_neg h31,if_neg h0]
  have hfa:=float_add ⟨m,hm⟩;simp only at hfa;rw [← hM] at hfa;have X3:=fun W=>run_float_arith (P:=Tryz.prog) (w:=W) .add 198 .f64 _ _ _ hfa
  have hwk:IntKind.i64.wrap (E - 25)=E - 25:=IntWalk.i64_in _ (by omega);have HC:=dh (Ldexp_any (E:=1033) (F:=m * 4398046511104) (G:=e + 1008) ⟨by omega,by omega,by omega,rfl⟩ ⟨by omega,by omega,by omega,hP⟩ (E - 25) (by omega) w);clear hP h31 h0 HR hfa;clear hN hM hE hG hg he hm hnan hres hpl hR X1;go_enter Tryz.func163,Tryz.ntmps163
  go_wp2_with (first | simp only [X1'] | simp only [X3] | (go_at_call 199;refine HC.out.mono ?_;rintro e' w' ⟨rfl,rfl⟩) | (go_at_call 200;refine HS.out.mono ?_;rintro e' w' ⟨rfl,rfl⟩))
  go_ret
  exact ⟨rfl,rfl⟩
 ·obtain rfl:G=1:=by omega
  have X1':=X1 (9223372036854775808 + Fl.posH e m) (by have:=HR.out;omega);by_cases h31:e=31
  ·obtain rfl:E=31:=by omega
   obtain rfl:M=0:=by omega
   have hP:Fl.posH e m=9218868437227405312:=by unfold Fl.posH;rw [if_pos h31]
   have HC:=dh (inf_any w);rw [hP] at HS X1';clear hP h31 HR;clear hN hM hE hG hg he hm hnan hres hpl hR X1;go_enter Tryz.func163,Tryz.ntmps163
   go_wp2_with (first | simp only [X1'] | (go_at_call 198;refine HC.out.mono ?_;rintro e' w' ⟨rfl,rfl⟩) | (go_at_call 200;refine HS.out.mono ?_;rintro e' w' ⟨rfl,rfl⟩))
   go_ret
   exact ⟨rfl,rfl⟩
  by_cases h0:e=0
  ·by_cases hm0:m=0
   ·obtain rfl:E=0:=by omega
    obtain rfl:M=0:=by omega
    have hP:Fl.posH e m=0:=by unfold Fl.posH;rw [if_neg h31,if_pos h0,if_pos hm0]
    have HC:=dh (Ldexp_zero (-24) w);have hF:floatOfInt .f64 0=0:=by kernel_rfl
    rw [hP] at HS X1';clear hP h31 h0 hm0 HR;clear hN hM hE hG hg he hm hnan hres hpl hR X1;go_enter Tryz.func163,Tryz.ntmps163
    go_wp2_with (first | simp only [X1'] | (simp only [hF];go_at_call 199;refine HC.out.mono ?_;rintro e' w' ⟨rfl,rfl⟩) | (go_at_call 199;refine HC.out.mono ?_;rintro e' w' ⟨rfl,rfl⟩) | (go_at_call 200;refine HS.out.mono ?_;rintro e' w' ⟨rfl,rfl⟩))
    go_ret
    exact ⟨rfl,rfl⟩
   ·obtain rfl:E=0:=by omega
    have hsn:=sub_norm hm0 hm;have HC:=dh (Ldexp_any hsn.1 hsn.2 (-24) (by omega) w);rw [← hM] at HC;rw [h0] at HS X1';clear hsn h31 h0 hm0 HR;clear hN hM hE hG hg he hm hnan hres hpl hR X1;go_enter Tryz.func163,Tryz.ntmps163
    go_wp2_with (first | simp only [X1'] | (go_at_call 199;refine HC.out.mono ?_;rintro e' w' ⟨rfl,rfl⟩) | (go_at_call 200;refine HS.out.mono ?_;rintro e' w' ⟨rfl,rfl⟩))
    go_ret
    exact ⟨rfl,rfl⟩
  have hE31:(E==31)=false:=(by simp;omega);have hE0:(E==0)=false:=(by simp;omega);have hP:Fl.posH e m=(e + 1008) * 4503599627370496 + m * 4398046511104:=by unfold Fl.posH;rw [if_neg h31,if_neg h0]
  have hfa:=float_add ⟨m,hm⟩;simp only at hfa;rw [← hM] at hfa;have X3:=fun W=>run_float_arith (P:=Tryz.prog) (w:=W) .add 198 .f64 _ _ _ hfa
  have hwk:IntKind.i64.wrap (E - 25)=E - 25:=IntWalk.i64_in _ (by omega);have HC:=dh (Ldexp_any (E:=1033) (F:=m * 4398046511104) (G:=e + 1008) ⟨by omega,by omega,by omega,rfl⟩ ⟨by omega,by omega,by omega,hP⟩ (E - 25) (by omega) w);clear hP h31 h0 HR hfa;clear hN hM hE hG hg he hm hnan hres hpl hR X1;go_enter Tryz.func163,Tryz.ntmps163
  go_wp2_with (first | simp only [X1'] | simp only [X3] | (go_at_call 199;refine HC.out.mono ?_;rintro e' w' ⟨rfl,rfl⟩) | (go_at_call 200;refine HS.out.mono ?_;rintro e' w' ⟨rfl,rfl⟩))
  go_ret
  exact ⟨rfl,rfl⟩
theorem AC.fb {P:Program} {X:Ev} {f:FuncId} {l:List UInt8} {args:List SV} (hgo:∀ vals w,(callFunc f vals).run P w=.ok (.enter f vals) w) (hc:∀ g w vals,agL g w args vals→Calls P f vals.toArray w (FB l w)):AC P X f args [] fun r rows=>r=bsl l∧rows=[]:=
 AC.fresh hgo fun g w vals _ ha=>(hc g w vals ha).mono fun e w' h=>by
  obtain ⟨a,c,he,_,h3,h4,h5,hB⟩:=h.open;exact ⟨a,c,he,h3,h4,h5,hB⟩
section
variable (X:Ev)
theorem head8_c (m n:Nat) (hm:m < 8):AC Tryz.prog X 131 [y8 m,uv n] [] fun r rows=>r=bsl (It.head m n)∧rows=[]:=
 AC.fb Tryz.call131 fun g w vals ha=>by
  match vals,ha with
  | [v1,v2],ha=>
    have h1:v1=.int .u8 (m:Int):=ha.1;have h2:v2=.int .u64 (n:Int):=ha.2.1;subst h1;subst h2;exact head_any m n _ rfl _ rfl hm w
theorem float8_c (n:Nat) (hn:n < 18446744073709551616):AC Tryz.prog X 130 [uv n] [] fun r rows=>r=bsl (It.flt n)∧rows=[]:=
 AC.fb Tryz.call130 fun g w vals ha=>by
  match vals,ha with
  | [v1],ha=>
    have h1:v1=.int .u64 (n:Int):=ha.1;subst h1;exact float_any n _ rfl hn w
theorem wid8_c (n:Nat) (hn:n < 65536):AC Tryz.prog X 163 [.v (.int .u16 (n:Int))] [] fun r rows=>r=uv (Fl.widenP n)∧rows=[]:=by
 have e:n / 32768 * 32768 + n / 1024 % 32 * 1024 + n % 1024=n:=by omega
 refine AC.pure1 (v:=.int .u64 ((Fl.widenP n:Nat):Int)) [.int .u16 (n:Int)] Tryz.call163 fun w=>?_
 have h:=widen_any (n / 32768) (n / 1024 % 32) (n % 1024) (n:Int) (by rw [e]) (by omega) (by omega) (by omega) w;rw [e] at h;exact h
theorem cmp8_c (x y:List UInt8) (hx:x.length≤9223372036854775807) (hy:y.length≤9223372036854775807):AC Tryz.prog X 111 [bsl x,bsl y] [] fun r rows=>r=iv (It.cmpB x y)∧rows=[]:=
 AC.below Tryz.call111 fun g w vals hE ha=>by
  match vals,ha with
  | [v1,v2],ha=>
    obtain ⟨a,c,rfl,hc,hB⟩:=bro_of ha.1 hx;obtain ⟨a2,c2,rfl,hc2,hB2⟩:=bro_of ha.2.1 hy;exact (compare_any hB hB2 _ rfl).mono fun e w' ⟨h1,h2⟩=>⟨h1,h2 ▸ Below.refl _ _⟩
end
abbrev PW (T v:Nat) (b:List UInt8) (p it:Nat):Row:=⟨v,T,3,[bsl b,iv p,iv it]⟩
def NmC (T ver:Nat) (b:List UInt8) (p it k:Nat) (r:SV) (rows:List Row):Prop:=
 (b.length - p < k→r=.tup [uv 0,bov false]∧rows=[PW T ver b p it])∧
 (k≤b.length - p→r=.tup [uv (It.unbe ((b.drop p).take k)),bov true]∧rows=[PW T ver b (p + k) it])
section
variable {X:Ev}
set_option maxHeartbeats 4000000 in
theorem pnum_c (s ver:Nat) (b:List UInt8) (p it k:Nat) (hb:b.length≤4096) (hp:p≤b.length) (hk:k≤8):AC Tryz.prog X 162 [.ptr s ver 0,iv k] [PW 121 ver b p it] (NmC 121 ver b p it k):=by
 refine AC.bodyW false Tryz.func162 rfl Tryz.call162 Tryz.ntmps162 (by simp) fun e nx=>?_
 go_simp
 refine sqc ?_;go_simp;refine sqc ?_;go_simp;refine rg hmx (by kernel_rfl) ?_;go_simp;go_bits
 refine ifd (fun h=>?_) (fun h=>?_) <;> go_simp
 ·exact ⟨fun _=>⟨rfl,rfl⟩,fun h'=>by omega⟩
 ·refine sqc ?_;go_simp
  refine sqc ?_;go_simp;refine rg hmx (by kernel_rfl) ?_;go_simp;go_bits
  have e1:p + k - p=k:=by omega
  rw [e1];refine ⟨by omega,?_⟩;have hl:((b.drop p).take k).length=k:=by rw [List.length_take,List.length_drop];omega
  generalize hL:(b.drop p).take k=l at *;refine lp (α:=Nat × Nat) (fun x=>x.2≤k) (fun x=>⟨[(0,.ptr 1000 ver 0),(1,iv k),(6,uv (It.unbe (l.take x.2))),(35,.sl k 1 (bys l)),(36,iv k),(37,iv x.2)],[(1000,PW 121 ver b p it)],x.1,[],56⟩) (fun x=>k - x.2) [] [] (nx,0) ?_ ?_
  ·go_simp
   rfl
  ·rintro ⟨u,j⟩ hj
   replace hj:j≤k:=hj
   refine gw ?_;go_simp
   refine ifd (fun h=>?_) (fun h=>?_) <;> go_simp
   ·have hjl:j < l.length:=by omega
    have hcj:l[j].toNat < 256:=l[j].toNat_lt;have hu:=unbe_l7 (l.take j) (by rw [List.length_take];omega);go_simp;go_bits
    refine ⟨_,j + 1,by omega,by omega,Nat.le_refl _,?_,by omega⟩;rw [unbeS l j hjl];exact num8 _ _ hu hcj
   ·obtain rfl:j=k:=by omega
    have hlk:l.take j=l:=List.take_of_length_le (by omega);rw [hlk];refine gw ?_;go_simp;go_bits;exact ⟨fun h=>by omega,fun _=>⟨by rw [hL],rfl⟩⟩
def HcC (ver:Nat) (b:List UInt8) (it:Nat) (R:It.HR) (r:SV) (rows:List Row):Prop:=match R with
 | .err e=>r=.tup [y8 0,uv 0,iv e]∧∃ p',rows=[PW 121 ver b p' it]
 | .ok c n s=>r=.tup [y8 c,uv n,iv 0]∧rows=[PW 121 ver b (b.length - s.length) it]
theorem HcC.err {ver:Nat} {b:List UInt8} {it e p':Nat} {R:It.HR} (h:R=.err e):HcC ver b it R (.tup [y8 0,uv 0,iv e]) [PW 121 ver b p' it]:=by
 rw [h];exact ⟨rfl,p',rfl⟩
theorem HcC.ok {ver:Nat} {b:List UInt8} {it c n p':Nat} {R:It.HR} (h:R=.ok c n (b.drop p')) (hp:p'≤b.length):HcC ver b it R (.tup [y8 c,uv n,iv 0]) [PW 121 ver b p' it]:=by
 rw [h];exact ⟨rfl,by rw [List.length_drop,show b.length - (b.length - p')=p' by omega]⟩
theorem fd32 (c:Nat):((c:Int)).fdiv 32=((c / 32:Nat):Int):=by
 rw [Int.fdiv_eq_ediv_of_nonneg _ (by omega)];norm_cast
set_option maxHeartbeats 4000000 in
theorem phead_c (s ver:Nat) (b:List UInt8) (p it:Nat) (hb:b.length≤4096) (hp:p≤b.length):AC Tryz.prog X 133 [.ptr s ver 0] [PW 121 ver b p it] (HcC ver b it (It.readHead (b.drop p))):=by
 refine AC.bodyW false Tryz.func133 rfl Tryz.call133 Tryz.ntmps133 (by simp) fun e nx=>?_
 obtain ⟨R,hR⟩:∃ R,R=It.readHead (b.drop p):=⟨_,rfl⟩;rw [← hR];have HR:=dh hR;clear hR;go_simp
 refine sqc ?_;go_simp;refine sqc ?_;go_simp;refine rg hmx (by kernel_rfl) ?_;go_simp
 refine ifd (fun h0=>?_) (fun h0=>?_) <;> go_simp
 ·exact HcC.err (by rw [HR.out,It.Q.readHead_end (by omega)])
 have hpl:p < b.length:=by omega
 have HR:=dh (HR.out.trans (It.Q.readHead_at hpl));refine sqc ?_;go_simp;refine rg hmx (by kernel_rfl) ?_;go_simp
 refine sqc ?_;go_simp;rw [and31 b[p].toNat b[p].toNat_lt];have hc:=b[p].toNat_lt;generalize b[p].toNat=c at *;have hl32:c % 32 < 32:=Nat.mod_lt _ (by omega);generalize hlw:c % 32=lw at *;refine sqc ?_;go_simp;refine ifd (fun h1=>?_) (fun h1=>?_) <;> go_simp
 ·exact HcC.err (HR.out.trans (if_pos (by omega)))
 have HR2:=dh (HR.out.trans (if_neg (by omega)));clear HR;refine sqc ?_;go_simp;go_bits;refine sqc ?_;go_simp;refine ifd (fun h2=>?_) (fun h2=>?_) <;> go_simp
 ·have HR3:=dh (HR2.out.trans (if_pos (by omega)))
  go_bits
  exact cg (HcC.ok (p':=p + 1) HR3.out (by omega)) rfl rfl
 have HR3:=dh (HR2.out.trans (if_neg (by omega)));clear HR2;refine sqc ?_;go_simp;rw [kk lw (by omega) (by omega)];have hk8:2 ^ (lw - 24)≤8∧0 < 2 ^ (lw - 24):=by
  have:=Nat.pow_le_pow_right (n:=2) (by omega) (show lw - 24≤3 by omega);exact ⟨by omega,Nat.pow_pos (by omega)⟩
 have HK:=dh (kk lw (by omega) (by omega));generalize 2 ^ (lw - 24)=k at *;refine cl [] [1000] (pnum_c 1000 ver b (p + 1) it k hb (by omega) (by omega)) (by go_simp) ?_;rintro r rows ⟨hE,hO⟩;by_cases hk:b.length - (p + 1) < k
 ·obtain ⟨rfl,rfl⟩:=hE hk
  have HE:=dh (HR3.out.trans (if_pos hk));clear hE hO HR3;go_simp
  refine sqc ?_;go_simp;exact HcC.err HE.out
 obtain ⟨rfl,rfl⟩:=hO (by omega);have HR4:=dh (HR3.out.trans (if_neg hk));clear hE hO HR3;have hn:It.unbe ((b.drop (p + 1)).take k) < 18446744073709551616:=unbe_l8 _ (by rw [List.length_take];omega);generalize It.unbe ((b.drop (p + 1)).take k)=n at *;go_simp
 refine sqc ?_;go_simp;refine sqc ?_;go_simp;rw [fd32 c];generalize hmj:c / 32=mj at *;have hG:HcC ver b it R (.tup [y8 c,uv n,iv 0]) [PW 121 ver b (p + 1 + k) it]∨(mj < 7∧(It.head 0 n).length≠1 + k):=by
  by_cases h:mj < 7∧(It.head 0 n).length≠1 + k
  ·exact .inr h
  ·exact .inl (HcC.ok (HR4.out.trans (if_neg h)) (by omega))
 refine gdd (fun h6=>?_) (fun h6=>?_) <;> go_simp
 ·refine cl [] [] (head8_c X 0 n (by omega)) (by go_simp) ?_
  rintro r rows ⟨rfl,rfl⟩;go_simp
  rw [HK.out];go_simp;go_bits
  refine ifn (fun h7=>?_) (fun h7=>?_) <;> go_simp
  ·exact HcC.err (e:=4) (by rw [HR4.out];exact if_pos ⟨by omega,by omega⟩)
  ·refine gw ?_;go_simp
   exact hG.resolve_right fun h=>by omega
 ·refine gw ?_;go_simp
  exact hG.resolve_right fun h=>by omega
abbrev zA:SV:=.agg [iv 0,uv 0,.v (.slice none 0 0),.v (.slice none 0 0)]
def SvC (R:Option It) (r:SV) (rows:List Row):Prop:=rows=[]∧match R with
 | .none=>r=.tup [zA,iv 4]
 | some x=>∃ (k:Int) (m:Nat),x=.mk k m [] []∧r=.tup [.agg [iv k,uv m,.v (.slice none 0 0),.v (.slice none 0 0)],iv 0]
theorem SvC.no {R:Option It} (h:R=.none):SvC R (.tup [zA,iv 4]) []:=by rw [h];exact ⟨rfl,rfl⟩
theorem SvC.ok {R:Option It} {k:Int} {n:Nat} (h:R=some (.mk k n [] [])):SvC R (.tup [.agg [iv k,uv n,.v (.slice none 0 0),.v (.slice none 0 0)],iv 0]) []:=by rw [h];exact ⟨rfl,_,_,rfl,rfl⟩
theorem sevenF_len {f k:Nat} (hk:k=2∨k=4∨k=8) (h2:k=2→¬ (Fl.isNaN f=true∧f≠Fl.nan)):It.sevenF f k=if (It.flt f).length≠1 + k then .none else some (.mk 8 f [] []):=by
 unfold It.sevenF;by_cases h:Fl.isNaN f=true∧f≠Fl.nan
 ·have h3:(It.flt f).length=3:=by unfold It.flt;rw [if_pos h.1];rfl
  rw [if_pos (.inl h),if_pos (by rw [h3];rcases hk with rfl | rfl | rfl;exact absurd h (h2 rfl);omega;omega)]
 ·by_cases h4:(It.flt f).length≠1 + k
  ·rw [if_pos (.inr h4),if_pos h4]
  ·rw [if_neg (by rintro (h5 | h5);exact h h5;exact h4 h5),if_neg h4]
theorem flt_nan3 {f:Nat} (h:Fl.isNaN f=true):(It.flt f).length=3:=by unfold It.flt;rw [if_pos h];rfl
theorem seven25 {n:Nat} (h:n < 65536):It.sevenF (Fl.widenH n) 2=if Fl.widenP n=Fl.nan∧n≠32256 then .none else if (It.flt (Fl.widenP n)).length≠1 + 2 then .none else some (.mk 8 (Fl.widenP n) [] []):=by
 have hP:=Fl.widenP.eq_1 n;by_cases hN:Fl.nanH n=true
 ·rw [if_pos hN] at hP
  obtain ⟨h1,h2,_⟩:=nan_wH h hN;by_cases h3:n=32256
  ·rw [if_neg fun h4=>h4.2 h3,hP,h2.2 h3,sevenF_len (.inl rfl) fun _ h4=>h4.2 rfl]
  ·rw [if_pos ⟨hP,h3⟩]
   unfold It.sevenF;rw [if_pos (.inl ⟨h1,fun h4=>h3 (h2.1 h4)⟩)]
 ·have hN:Fl.nanH n=false:=by simpa using hN
  rw [hN,if_neg Bool.false_ne_true] at hP;obtain ⟨_,_,h3⟩:=Fl.widenH_narrow h hN;have h4:Fl.widenH n≠Fl.nan:=fun h4=>by rw [h4,isNaN_nan] at h3;cases h3
  rw [hP,if_neg fun h5=>h4 h5.1,sevenF_len (.inl rfl) fun _ h5=>by rw [h3] at h5;cases h5.1]
theorem seven26 {n q:Nat} (h:n < 4294967296) (h1:Fl.nanS n=false→q=Fl.widenS n) (h2:Fl.nanS n=true→Fl.isNaN q=true):It.sevenF (Fl.widenS n) 4=if (It.flt q).length≠1 + 4 then .none else some (.mk 8 q [] []):=by
 rw [sevenF_len (.inr (.inl rfl)) fun h=>by cases h];cases hN:Fl.nanS n with
 | true=>
   have e1:=flt_nan3 (nan_wS h hN).1;have e2:=flt_nan3 (h2 hN);rw [if_pos (by rw [e1];decide),if_pos (by rw [e2];decide)]
 | false=>rw [h1 hN]
theorem widenP_lt {n:Nat} (h:n < 65536):Fl.widenP n < 18446744073709551616:=by
 unfold Fl.widenP
 split
 ·decide
 ·rename_i hN
  exact (Fl.widenH_narrow h (by simpa using hN)).2.1
set_option maxHeartbeats 4000000 in
theorem pseven_c (c n:Nat) (hc:c < 256) (hl:c % 32 < 28) (hn:n < 18446744073709551616) (hnum:24≤c % 32→n < 256 ^ 2 ^ (c % 32 - 24)):AC Tryz.prog X 135 [y8 c,uv n] [] (SvC (It.seven (c % 32) n)):=by
 obtain ⟨R,hR⟩:∃ R,R=It.seven (c % 32) n:=⟨_,rfl⟩;rw [← hR];have HR:=dh hR;clear hR;refine AC.bodyW false Tryz.func135 rfl Tryz.call135 Tryz.ntmps135 (by simp) fun e nx=>?_
 go_simp
 refine sqc ?_;go_simp;refine sqc ?_;go_simp;have hlI:andI .u8 (c:Int) 31=((c % 32:Nat):Int):=and31 c hc;generalize c % 32=lw at *;refine ct (α:=Nat) (fun F=>25≤lw∧F < 18446744073709551616∧Hid (R=if (It.flt F).length≠1 + 2 ^ (lw - 24) then .none else some (.mk 8 F [] []))) (fun F=>⟨[(0,y8 c),(1,uv n),(4,.ptr 4 nx 0),(5,iv 0),(6,uv F)],[(4,⟨nx,26,4,[iv 0,uv 0,.v (.slice none 0 0),.v (.slice none 0 0)]⟩)],nx + 1,[],52⟩) [] (gw ?_) ?_
 ·rcases (show lw < 24∨lw=24∨lw=25∨lw=26∨lw=27 by omega) with h | rfl | rfl | rfl | rfl
  ·have HE:=dh (show R=some (.mk 7 n [] []) by rw [HR.out];unfold It.seven;rw [if_neg (by omega),if_neg (by omega),if_neg (by omega),if_neg (by omega)])
   clear HR hnum;have e0:¬ (lw:Int)=24:=by omega
   have e1:¬ (lw:Int)=25:=by omega
   have e2:¬ (lw:Int)=26:=by omega
   have e3:¬ (lw:Int)=27:=by omega
   go_simp
   exact SvC.ok HE.out
  ·have HE:=dh (show R=if n < 32 then .none else some (.mk 7 n [] []) by rw [HR.out];unfold It.seven;rw [if_pos rfl])
   clear HR hnum;go_simp
   refine ifd (fun h=>?_) (fun h=>?_) <;> go_simp
   ·exact SvC.no (HE.out.trans (if_pos (by omega)))
   ·exact SvC.ok (HE.out.trans (if_neg (by omega)))
  ·have h5:n < 65536:=by simpa using hnum (by omega)
   have HE:=dh (show R=It.sevenF (Fl.widenH n) 2 by rw [HR.out];unfold It.seven;rw [if_neg (by decide),if_pos rfl]);clear HR hnum;go_simp;go_bits
   refine cl [] [] (wid8_c X n h5) (by go_simp) ?_;rintro r rows ⟨rfl,rfl⟩;have hP:=widenP_lt h5;have HE:=dh (HE.out.trans (seven25 h5));generalize Fl.widenP n=F at *;go_simp
   refine gdd (fun h8=>?_) (fun h8=>?_) <;> go_simp
   ·refine ifn (fun h9=>?_) (fun h9=>?_) <;> go_simp
    ·exact SvC.no (by rw [HE.out];exact if_pos ⟨show F=9221120237041090560 by omega,by omega⟩)
    ·exact ⟨F,⟨hP,dh (by rw [HE.out,if_neg fun h=>by omega];simp)⟩,by omega⟩
   ·exact ⟨F,⟨hP,dh (by rw [HE.out,if_neg fun h=>h8 (by rw [h.1];rfl)];simp)⟩,rfl⟩
  ·have h6:n < 4294967296:=by simpa using hnum (by omega)
   have HE:=dh (show R=It.sevenF (Fl.widenS n) 4 by rw [HR.out];unfold It.seven;rw [if_neg (by decide),if_neg (by decide),if_pos rfl]);clear HR hnum;go_simp;go_bits
   refine cl [] [] (x164_c X n) (by go_simp) ?_;rintro r rows ⟨rfl,rfl⟩;go_simp
   refine cvf (fun v=>∃ q,v=.float .f64 q∧q < 18446744073709551616∧(Fl.nanS n=false→q=Fl.widenS n)∧(Fl.nanS n=true→Fl.isNaN q=true)) (by go_simp) (fun W=>?_) ?_
   ·obtain ⟨q,W',h1,h2,h3,h4,h5⟩:=conv_back h6 W
    exact ⟨_,W',h1,h2,q,rfl,h3,fun h=>(h4 h).1,h5⟩
   rintro v ⟨q,rfl,hq1,hq2,hq3⟩;go_simp
   refine cl [] [] (x158_c X q) (by go_simp) ?_;rintro r rows ⟨rfl,rfl⟩;go_simp
   exact ⟨q,⟨hq1,dh (by rw [HE.out,seven26 h6 hq2 hq3];simp)⟩,rfl⟩
  ·have HE:=dh (show R=It.sevenF n 8 by rw [HR.out];unfold It.seven;rw [if_neg (by decide),if_neg (by decide),if_neg (by decide),if_pos rfl])
   clear HR hnum;go_simp
   exact ⟨n,⟨hn,dh (by rw [HE.out,sevenF_len (.inr (.inr rfl)) (fun h=>by cases h)];simp)⟩,rfl⟩
 ·rintro F ⟨h25,hF,HE⟩
  replace hF:F < 18446744073709551616:=hF
  replace HE:Hid (R=if (It.flt F).length≠1 + 2 ^ (lw - 24) then .none else some (.mk 8 F [] [])):=HE
  refine sqc ?_;go_simp;refine cl [] [] (float8_c X F hF) (by go_simp) ?_;rintro r rows ⟨rfl,rfl⟩;go_simp
  rw [kk lw (by omega) (by omega)];have hk8:2 ^ (lw - 24)≤8:=by
   have:=Nat.pow_le_pow_right (n:=2) (by omega) (show lw - 24≤3 by omega);omega
  generalize 2 ^ (lw - 24)=k at *
  go_bits
  refine ifn (fun h=>?_) (fun h=>?_) <;> go_simp
  ·exact SvC.no (HE.out.trans (if_pos (by omega)))
  ·refine gw ?_;go_simp
   exact SvC.ok (HE.out.trans (if_neg (by omega)))
end
def DkC (T ver:Nat) (b:List UInt8) (S:It→SV→Prop) (R:It.PR It) (r:SV) (rows:List Row):Prop:=match R with
 | .err e=>r=.tup [zA,iv e]∧∃ p it,rows=[PW T ver b p it]
 | .ok x f s=>(∃ a,S x a∧r=.tup [a,iv 0])∧rows=[PW T ver b (b.length - s.length) (256 - f)]
theorem DkC.err {T ver:Nat} {b:List UInt8} {S:It→SV→Prop} {R:It.PR It} {e p it:Nat} (h:R=.err e):DkC T ver b S R (.tup [zA,iv e]) [PW T ver b p it]:=by rw [h];exact ⟨rfl,p,it,rfl⟩
theorem DkC.ok {T ver:Nat} {b:List UInt8} {S:It→SV→Prop} {R:It.PR It} {x:It} {a:SV} {f p it:Nat} (h:R=.ok x f (b.drop p)) (ha:S x a) (hp:p≤b.length) (hi:it=256 - f):DkC T ver b S R (.tup [a,iv 0]) [PW T ver b p it]:=by
 rw [h];exact ⟨⟨a,ha,rfl⟩,by rw [List.length_drop,show b.length - (b.length - p)=p by omega,hi]⟩
theorem AC.wkd {X:Ev} {f:FuncId} {args:List SV} {rows:List Row} {T ver:Nat} {b:List UInt8} {R:It.PR It} (h:AC Tryz.prog X f args rows (DkC T ver b itN R)):AC Tryz.prog X f args rows (DkC T ver b isI R):=by
 refine h.weak fun r rows hr=>?_
 cases R with
 | err e=>exact ⟨r,hr,fun _ _ _ _ h=>h⟩
 | ok x f s=>
   obtain ⟨⟨a,ha,rfl⟩,hrow⟩:=hr;refine ⟨_,⟨⟨_,rfl,rfl⟩,hrow⟩,fun g w v nx hv=>?_⟩;obtain ⟨vs,e,hv⟩:=hv
   match vs,hv with
   | [v1,v2],hv=>exact ⟨_,e,by have:=hv.1;rw [ha.ren] at this;exact ha.holds this,hv.2.1,trivial⟩
def ItD (b:List UInt8) (d:Nat):Prop:=∀ (s ver lv p it:Nat),d + lv=8→p≤b.length→it≤256→AC Tryz.prog XU 106 [.ptr s ver 0,iv lv] [PW 121 ver b p it] (DkC 121 ver b isI (It.item d (256 - it) (b.drop p)))
def PrD (b:List UInt8) (d:Nat):Prop:=∀ (s ver lv p it n:Nat),d + lv=8→p≤b.length→it≤256→n < 18446744073709551616→AC Tryz.prog XU 136 [.ptr s ver 0,uv n,iv lv] [PW 121 ver b p it] (DkC 121 ver b isI ((It.prsN (It.item d) .none n (256 - it) (b.drop p)).map (.mk 5 0 [] ·)))
theorem itL1 (x:It):itL [x]=itc x:=by rw [itL_cons,itL_nil,List.append_nil]
set_option maxHeartbeats 8000000 in
theorem pitem_c (b:List UInt8) (hb:b.length≤4096) (d:Nat) (ih:∀ k,d=k + 1→ItD b k) (hpr:∀ k,d=k + 1→PrD b k):ItD b d:=by
 intro s ver lv p it hd hp hi;obtain ⟨R,hR⟩:∃ R,R=It.item d (256 - it) (b.drop p):=⟨_,rfl⟩;rw [← hR];have HR:=dh hR;clear hR;refine AC.wkd ?_;refine AC.bodyW false Tryz.func106 rfl Tryz.call106 Tryz.ntmps106 (by simp) fun e nx=>?_
 go_simp
 refine sqc ?_;go_simp;refine sqc ?_;go_simp;refine ifd (fun h0=>?_) (fun h0=>?_) <;> go_simp
 ·have HE:=dh (show R=.err 8 by rw [HR.out,show 256 - it=0 by omega];exact It.Q.item_0 _ _)
  rw [← h0];exact DkC.err HE.out
 obtain ⟨f,hf⟩:∃ f,256 - it=f + 1:=⟨255 - it,by omega⟩;have HR2:=dh (show R=It.item d (f + 1) (b.drop p) by rw [HR.out,hf]);clear HR;refine sqc ?_;go_simp;go_bits;refine sqc ?_;go_simp;refine cl [] [1000] (phead_c 1000 ver b p (it + 1) hb hp) (by go_simp) ?_;rintro r rows hH;cases hh:It.readHead (b.drop p) with
 | err e'=>
   rw [hh] at hH;have hne:=It.Q.readHead_ne hh;obtain ⟨rfl,p2,rfl⟩:=hH;have HE:=dh (HR2.out.trans (It.Q.item_er hh));clear hh HR2;go_simp
   refine sqc ?_;go_simp;exact DkC.err HE.out
 | ok c n s'=>
   obtain ⟨q,rfl,hq1,hq2,hc,hl,hn,hnum,hn24⟩:=It.Q.readHead_ok hh;rw [hh] at hH;obtain ⟨rfl,rfl⟩:=hH;have HR3:=dh (HR2.out.trans (It.Q.item_ok hh));clear hh HR2 hn24;rw [List.length_drop,show b.length - (b.length - q)=q by omega];go_simp
   refine sqc ?_;go_simp;refine sqc ?_;go_simp;rw [fd32 c]
   go_bits
   have hm8:c / 32 < 8:=by omega
   have HS:=dh (fun h7:c / 32=7=>(pseven_c (X:=XU) c n hc hl hn hnum));clear hnum;generalize hmj:c / 32=mj at *;have h01:mj≤1→Hid (R=.ok (.mk mj n [] []) f (b.drop q)):=fun h=>dh (HR3.out.trans (if_pos h))
   have h23:mj=2∨mj=3→Hid (R=if b.length - q < n then .err 2 else if mj=3∧Lib.validD ((b.drop q).take n)=false then .err 5 else .ok (.mk mj 0 ((b.drop q).take n) []) f (b.drop (q + n))):=fun h=>dh (HR3.out.trans ((if_neg (by omega)).trans ((if_pos (by omega)).trans (by rw [List.length_drop,List.drop_drop]))))
   have h7:mj=7→Hid (R=match It.seven (c % 32) n with | some x=>.ok x f (b.drop q) | .none=>.err 4):=fun h=>dh (HR3.out.trans ((if_neg (by omega)).trans ((if_neg (by omega)).trans (if_pos h))))
   have h46:4≤mj∧mj≤6→Hid (R=if d=0 then .err 8 else if mj=5 then (It.prsN (It.item (d - 1)) .none n f (b.drop q)).map (.mk 5 0 [] ·) else if mj=6 then (It.item (d - 1) f (b.drop q)).map fun x=>.mk 6 n [] [x] else (It.seqN (It.item (d - 1)) n f (b.drop q)).map (.mk 4 0 [] ·)):=fun h=>dh (HR3.out.trans ((if_neg (by omega)).trans ((if_neg (by omega)).trans (if_neg (by omega)))))
   clear HR3;have HI:=dh (show it + 1=256 - f by omega);refine sqc ?_;go_simp;rcases (show mj≤1∨(mj=2∨mj=3)∨mj=7∨(4≤mj∧mj≤6) by omega) with h | h | h | h
   ·have HE:=h01 h
    clear h01 h23 h7 h46 HS;rcases (show mj=0∨mj=1 by omega) with rfl | rfl
    all_goals
     go_simp
     exact cg (DkC.ok (p:=q) (it:=it + 1) HE.out (itN.flat _ _) hq2 HI.out) rfl rfl
   ·have HE:=h23 h
    clear h01 h23 h7 h46 HS;rcases h with rfl | rfl
    all_goals
     go_simp
     refine rg hmx (by kernel_rfl) ?_;go_simp;go_bits
     refine ifd (fun h1=>?_) (fun h1=>?_) <;> go_simp
     ·exact DkC.err (HE.out.trans (if_pos (by omega)))
     have HE:=dh (HE.out.trans (if_neg (by omega)));refine rg hmx (by kernel_rfl) ?_;go_simp;go_bits
     have e1:q + n - q=n:=by omega
     rw [e1];refine ⟨by omega,?_⟩;have hl2:((b.drop q).take n).length=n:=by rw [List.length_take,List.length_drop];omega
     generalize (b.drop q).take n=L at *;subst hl2;refine cl [] [] (clone_c XU L (by omega)) (by go_simp) ?_;rintro r rows ⟨rfl,rfl⟩;go_simp;go_bits
     first
      | refine cl [] [] (valid_c L (by omega)) (by go_simp) ?_
        rintro r rows ⟨rfl,rfl⟩;go_simp
        refine ifk (fun h4=>?_) (fun h4=>?_) <;> go_simp
        ·have h5:Lib.validD L=false:=by simpa using h4
         exact DkC.err (HE.out.trans (if_pos ⟨rfl,h5⟩))
        ·exact cg (DkC.ok (p:=q + L.length) (it:=it + 1) (HE.out.trans (if_neg fun h=>by rw [h.2] at h4;simp at h4)) ⟨_,_,rfl,.inl rfl,.inr ⟨rfl,rfl,rfl⟩⟩ (by omega) HI.out) rfl rfl
      | exact cg (DkC.ok (p:=q + L.length) (it:=it + 1) (HE.out.trans (if_neg fun h=>by simp at h)) ⟨_,_,rfl,.inl rfl,.inr ⟨rfl,rfl,rfl⟩⟩ (by omega) HI.out) rfl rfl
   ·have HE:=h7 h
    have HC:=HS.out h;clear h01 h23 h7 h46 HS;subst h;go_simp
    refine cl [] [] HC (by go_simp) ?_;rintro r rows ⟨rfl,hV⟩;cases hs:It.seven (c % 32) n with
    | none=>
      rw [hs] at hV;have HE:=dh (HE.out.trans (by rw [hs]));clear hs;subst hV;go_simp
      exact DkC.err HE.out
    | some x=>
      rw [hs] at hV;have HE:=dh (show R=.ok x f (b.drop q) by rw [HE.out,hs]);clear hs;obtain ⟨k,m,rfl,rfl⟩:=hV;go_simp
      exact cg (DkC.ok (p:=q) (it:=it + 1) HE.out (itN.flat _ _) hq2 HI.out) rfl rfl
   ·have HE:=h46 h
    clear h01 h23 h7 h46 HS;by_cases h8:d=0
    ·have HE8:=dh (HE.out.trans (if_pos h8))
     have hlv:lv=8:=by omega
     subst hlv;rcases (show mj=4∨mj=5∨mj=6 by omega) with rfl | rfl | rfl
     all_goals
      go_simp
      refine sqc ?_;go_simp;exact DkC.err HE8.out
    have HE:=dh (HE.out.trans (if_neg h8));obtain ⟨k,rfl⟩:∃ k,d=k + 1:=⟨d - 1,by omega⟩;have IH:=dh (ih k rfl);have IP:=dh (hpr k rfl);clear ih h8 hpr;have hlv:lv≤7:=by omega
    rcases (show mj=4∨mj=5∨mj=6 by omega) with rfl | rfl | rfl
    ·obtain ⟨Q,hQ⟩:∃ Q,Q=It.seqN (It.item k) n f (b.drop q):=⟨_,rfl⟩
     have HE:=dh (show R=Q.map (.mk 4 0 [] ·) by rw [hQ];exact HE.out);have HQ:=dh (show It.Q.pre [] (It.seqN (It.item k) n (255 - it) (b.drop q))=Q by rw [It.Q.pre_nil,hQ,show 255 - it=f by omega]);clear hQ;go_simp
     refine sqc ?_;go_simp;refine ifd (fun h=>by omega) (fun _=>?_) <;> go_simp
     refine sqc ?_;go_simp;refine sqc ?_;go_simp;refine sqc ?_;go_simp;refine lp (α:=Nat × Nat × Nat × Nat × List It × Option Nat) (fun x=>x.2.1≤b.length∧x.2.2.1≤256∧x.2.2.2.2.1.length≤x.2.2.1∧x.2.2.2.1≤n∧(x.2.2.2.2.2=none→x.2.2.2.2.1=[])∧Hid (It.Q.pre x.2.2.2.2.1 (It.seqN (It.item k) x.2.2.2.1 (256 - x.2.2.1) (b.drop x.2.1))=Q)) (fun x=>match x with
      | (u,p,it,m,es,none)=>⟨[(0,.ptr 1000 ver 0),(1,iv lv),(4,.ptr 4 nx 0),(7,uv m),(13,.ptr 13 (nx + 1 + 1) 0)],[(1000,PW 121 ver b p it),(4,⟨nx,26,4,[iv 0,uv 0,.v (.slice none 0 0),.v (.slice none 0 0)]⟩),(13,⟨nx + 1 + 1,26,4,[iv 4,uv 0,.v (.slice none 0 0),.v (.slice none 0 0)]⟩)],u,[],165⟩
      | (u,p,it,m,es,some v)=>⟨[(0,.ptr 1000 ver 0),(1,iv lv),(4,.ptr 4 nx 0),(7,uv m),(13,.ptr 13 (nx + 1 + 1) 0)],[(1000,PW 121 ver b p it),(4,⟨nx,26,4,[iv 0,uv 0,.v (.slice none 0 0),.v (.slice none 0 0)]⟩),(13,⟨nx + 1 + 1,26,4,[iv 4,uv 0,.v (.slice none 0 0),.own 162 v es.length 4]⟩),(162,⟨v,26,4,itL es⟩)],u,[],165⟩) (fun x=>x.2.2.2.1) [] [] (nx + 1 + 1 + 1 + 1,q,it + 1,n,[],none) ?_ ?_
     ·go_simp
      omega
     ·rintro ⟨u,p',it',m,es,o⟩ ⟨hp',hi',hs',hm',ho',HQ'⟩
      replace hp':p'≤b.length:=hp'
      replace hi':it'≤256:=hi'
      replace hs':es.length≤it':=hs'
      replace hm':m≤n:=hm'
      replace ho':o=none→es=[]:=ho'
      replace HQ':Hid (It.Q.pre es (It.seqN (It.item k) m (256 - it') (b.drop p'))=Q):=HQ'
      have hend:m=0→Hid (R=.ok (.mk 4 0 [] es) (256 - it') (b.drop p')):=fun h=>dh (by
       subst h;rw [HE.out,← HQ'.out,It.Q.seqN_z];rfl)
      have hst:∀ j,m=j + 1→Hid ((match It.item k (256 - it') (b.drop p') with | .err e=>.err e | .ok y f1 s1=>It.Q.pre (es ++ [y]) (It.seqN (It.item k) j f1 s1))=Q):=fun j h=>dh (by
       subst h;rw [← HQ'.out,It.Q.seqN_st]
       all_goals (cases It.item k (256 - it') (b.drop p') <;> rfl))
      rcases o with _ | v
      all_goals
       refine gw ?_;go_simp
       refine ifd (fun h=>?_) (fun h=>?_) <;> go_simp
       ·obtain ⟨j,rfl⟩:∃ j,m=j + 1:=⟨m - 1,by omega⟩
        have HS:=hst j rfl;clear hst hend HQ'
        go_bits
        refine cl [] [1000] (IH.out 1000 ver (lv + 1) p' it' (by omega) hp' hi') (by go_simp) ?_;rintro r rows hR;cases hh:It.item k (256 - it') (b.drop p') with
        | err e'=>
          rw [hh] at hR;have HE:=dh (show R=.err e' by rw [HE.out,← HS.out,hh];rfl);have hne:=It.Q.item_errs _ _ _ _ hh;obtain ⟨rfl,p2,it2,rfl⟩:=hR;clear hh;go_simp
          exact DkC.err HE.out
        | ok y f1 s1=>
          rw [hh] at hR;obtain ⟨q',rfl,hq3,hq4,-,hf1,hn1,-,-,-⟩:=It.Q.item_at hh;have HS:=dh (show It.Q.pre (es ++ [y]) (It.seqN (It.item k) j (256 - (256 - f1)) (b.drop q'))=Q by rw [← HS.out,hh,show 256 - (256 - f1)=f1 by omega]);obtain ⟨⟨a,rfl,rfl⟩,rfl⟩:=hR;clear hh;rw [List.length_drop,show b.length - (b.length - q')=q' by omega];have hl5:es.length + 1≤256 - f1:=by omega
          go_simp;go_bits
          first
           | have he:=ho' rfl
             subst he;refine ⟨by rw [show Tryz.t26.bytes=64 from rfl];omega,u + 1 + 1 + 1 + 1 + 1,q',256 - f1,j,[y],some (u + 1 + 1 + 1),⟨hq4,by omega,hl5,by omega,(fun h=>by cases h),HS⟩,by omega,?_⟩;go_simp
             exact (itL1 y).symm
           | refine ⟨⟨by rw [show Tryz.t26.bytes=64 from rfl];omega,by omega⟩,u + 1 + 1 + 1 + 1 + 1,q',256 - f1,j,es ++ [y],some (u + 1 + 1 + 1),⟨hq4,by omega,by rw [List.length_append];exact hl5,by omega,(fun h=>by cases h),HS⟩,by omega,?_⟩
             dsimp only
             rw [List.length_append];go_simp
       ·have HE:=hend (by omega)
        clear hst hend;refine gw ?_;go_simp
        first
         | have he:=ho' rfl
           subst he;exact cg (DkC.ok (x:=.mk 4 0 [] []) (p:=p') (it:=it') HE.out (itN.flat _ _) hp' (by omega)) rfl rfl
         | exact cg (DkC.ok (x:=.mk 4 0 [] es) (p:=p') (it:=it') HE.out ⟨_,_,rfl,.inr ⟨rfl,rfl,rfl⟩,.inl (by show SV.sl es.length 4 (List.take (es.length * 4) (itL es))=SV.sl es.length 4 (itL es);rw [List.take_of_length_le (by rw [itL_len];exact Nat.le_refl _)])⟩ hp' (by omega)) rfl rfl
    ·obtain ⟨Q,hQ⟩:∃ Q,Q=(It.prsN (It.item k) .none n f (b.drop q)).map (It.mk 5 0 [] ·):=⟨_,rfl⟩
     have HE:=dh (show R=Q by rw [hQ];exact HE.out);have HC:=IP.out 1000 ver (lv + 1) q (it + 1) n (by omega) hq2 (by omega) hn;rw [show 256 - (it + 1)=f by omega,← hQ] at HC;clear hQ;go_simp
     refine sqc ?_;go_simp;refine ifd (fun h=>by omega) (fun _=>?_) <;> go_simp
     refine sqc ?_;go_simp
     go_bits
     refine cl [] [1000] HC (by go_simp) ?_;rintro r rows hR;cases Q with
     | err e'=>
       obtain ⟨rfl,p2,it2,rfl⟩:=hR;go_simp
       exact DkC.err HE.out
     | ok x f1 s1=>
       obtain ⟨⟨a,rfl,rfl⟩,rfl⟩:=hR;go_simp
       rw [HE.out];exact ⟨⟨_,⟨_,_,rfl,.inl rfl,.inl rfl⟩,rfl⟩,rfl⟩
    ·obtain ⟨Q,hQ⟩:∃ Q,Q=It.item k f (b.drop q):=⟨_,rfl⟩
     have HE:=dh (show R=Q.map fun x=>.mk 6 n [] [x] by rw [hQ];exact HE.out);have HC:=IH.out 1000 ver (lv + 1) q (it + 1) (by omega) hq2 (by omega);rw [show 256 - (it + 1)=f by omega,← hQ] at HC;have HQ:=dh hQ;clear hQ;go_simp
     refine sqc ?_;go_simp;refine ifd (fun h=>by omega) (fun _=>?_) <;> go_simp
     refine sqc ?_;go_simp
     go_bits
     refine cl [] [1000] HC (by go_simp) ?_;rintro r rows hR;cases Q with
     | err e'=>
       have hne:=It.Q.item_errs _ _ _ _ HQ.out.symm;obtain ⟨rfl,p2,it2,rfl⟩:=hR;go_simp
       exact DkC.err HE.out
     | ok x f1 s1=>
       obtain ⟨q',rfl,hq3,hq4,-,hf1,hn1,-,-,-⟩:=It.Q.item_at HQ.out.symm;obtain ⟨⟨a,rfl,rfl⟩,rfl⟩:=hR;rw [List.length_drop,show b.length - (b.length - q')=q' by omega];go_simp
       exact cg (DkC.ok (x:=.mk 6 n [] [x]) (p:=q') (it:=256 - f1) HE.out ⟨_,_,rfl,.inr ⟨rfl,rfl,rfl⟩,.inl rfl⟩ hq4 rfl) (by show SV.tup [.agg [iv 6,uv n,.v (.slice none 0 0),.sl 1 4 (itL [x])],iv 0]=_;rw [itL1]) rfl
theorem itL2 (x y:It):itL [x,y]=itc x ++ itc y:=by rw [itL_cons,itL1]
set_option maxHeartbeats 8000000 in
theorem ppairs_c (b:List UInt8) (hb:b.length≤4096) (k:Nat) (ih:ItD b k):PrD b k:=by
 intro s ver lv p it n hd hp hi hn;obtain ⟨Q,hQ⟩:∃ Q,Q=It.prsN (It.item k) .none n (256 - it) (b.drop p):=⟨_,rfl⟩;rw [← hQ];obtain ⟨R,hR⟩:∃ R,R=Q.map (It.mk 5 0 [] ·):=⟨_,rfl⟩;rw [← hR];have HR:=dh hR;have HQ:=dh (show It.Q.pre [] (It.prsN (It.item k) none n (256 - it) (b.drop p))=Q by rw [It.Q.pre_nil,hQ]);have IH:=dh ih;clear hQ hR ih;refine AC.wkd ?_;refine AC.bodyW false Tryz.func136 rfl Tryz.call136 Tryz.ntmps136 (by simp) fun e nx=>?_
 go_simp
 refine sqc ?_;go_simp;refine sqc ?_;go_simp;refine sqc ?_;go_simp;refine sqc ?_;go_simp;refine lp (α:=Nat × Nat × Nat × Nat × List It × Option Nat × List UInt8) (fun x=>x.2.1≤b.length∧x.2.2.1≤256∧x.2.2.2.2.1.length≤x.2.2.1∧x.2.2.2.1≤n∧(x.2.2.2.2.2.1=none→x.2.2.2.2.1=[]∧x.2.2.2.1=0)∧(x.2.2.2.2.2.1≠none→0 < x.2.2.2.1)∧x.2.2.2.2.2.2.length≤4096∧Hid (It.Q.pre x.2.2.2.2.1 (It.prsN (It.item k) (x.2.2.2.2.2.1.map fun _=>x.2.2.2.2.2.2) (n - x.2.2.2.1) (256 - x.2.2.1) (b.drop x.2.1))=Q)) (fun x=>match x with
  | (u,p,it,i,es,none,key)=>⟨[(0,.ptr 1000 ver 0),(1,uv n),(2,iv lv),(6,.ptr 6 nx 0),(8,.ptr 8 (nx + 1) 0),(9,.v (.slice none 0 0)),(10,uv i)],[(1000,PW 121 ver b p it),(6,⟨nx,26,4,[iv 0,uv 0,.v (.slice none 0 0),.v (.slice none 0 0)]⟩),(8,⟨nx + 1,26,4,[iv 5,uv 0,.v (.slice none 0 0),.v (.slice none 0 0)]⟩)],u,[],79⟩
  | (u,p,it,i,es,some v,key)=>⟨[(0,.ptr 1000 ver 0),(1,uv n),(2,iv lv),(6,.ptr 6 nx 0),(8,.ptr 8 (nx + 1) 0),(9,bsl key),(10,uv i)],[(1000,PW 121 ver b p it),(6,⟨nx,26,4,[iv 0,uv 0,.v (.slice none 0 0),.v (.slice none 0 0)]⟩),(8,⟨nx + 1,26,4,[iv 5,uv 0,.v (.slice none 0 0),.own 76 v es.length 4]⟩),(76,⟨v,26,4,itL es⟩)],u,[],79⟩) (fun x=>n - x.2.2.2.1) [] [] (nx + 1 + 1 + 1,p,it,0,[],none,[]) ?_ ?_
 ·go_simp
 ·rintro ⟨u,p',it',i,es,o,key⟩ ⟨hp',hi',hs',hin,ho',ho2,hkl,HQ'⟩
  replace hp':p'≤b.length:=hp'
  replace hi':it'≤256:=hi'
  replace hs':es.length≤it':=hs'
  replace hin:i≤n:=hin
  replace ho':o=none→es=[]∧i=0:=ho'
  replace ho2:o≠none→0 < i:=ho2
  replace hkl:key.length≤4096:=hkl
  replace HQ':Hid (It.Q.pre es (It.prsN (It.item k) (o.map fun _=>key) (n - i) (256 - it') (b.drop p'))=Q):=HQ'
  have hend:i=n→Hid (R=.ok (.mk 5 0 [] es) (256 - it') (b.drop p')):=fun h=>dh (by
   subst h;rw [HR.out,← HQ'.out,Nat.sub_self,It.Q.prsN_z];rfl)
  have hst:i < n→Hid (Q=match It.item k (256 - it') (b.drop p') with
   | .err e=>.err e
   | .ok x f1 s1=>if It.keyC (o.map fun _=>key) ((b.drop p').take ((b.drop p').length - s1.length))=0 then .err 7 else if It.keyC (o.map fun _=>key) ((b.drop p').take ((b.drop p').length - s1.length)) < 0 then .err 6 else It.Q.pre (es ++ [x]) (It.Q.prsO (It.item k) ((b.drop p').take ((b.drop p').length - s1.length)) (n - (i + 1)) f1 s1)):=fun h=>dh (by
   rw [← HQ'.out,show n - i=n - (i + 1) + 1 by omega,It.Q.prsN_st]
   all_goals (cases It.item k (256 - it') (b.drop p') <;> rfl))
  clear HQ';have HO:=dh (And.intro ho' ho2);clear ho' ho2;rcases o with _ | v
  all_goals
   refine gw ?_;go_simp
   refine ifd (fun h=>?_) (fun h=>?_) <;> go_simp
   ·have HS:=hst (by omega)
    clear hst hend;refine cl [] [1000] (IH.out 1000 ver lv p' it' hd hp' hi') (by go_simp) ?_;rintro r rows hR;cases hh:It.item k (256 - it') (b.drop p') with
    | err e'=>
      rw [hh] at hR;have HE:=dh (show R=.err e' by rw [HR.out,HS.out,hh];rfl);have hne:=It.Q.item_errs _ _ _ _ hh;obtain ⟨rfl,p2,it2,rfl⟩:=hR;clear hh;go_simp
      exact DkC.err HE.out
    | ok x f1 s1=>
      rw [hh] at hR;obtain ⟨q',rfl,hq3,hq4,hk1,hf1,hn1,-,hk2,-⟩:=It.Q.item_at hh;have HS:=dh (HS.out.trans (by rw [hh]));obtain ⟨⟨a,rfl,rfl⟩,rfl⟩:=hR;clear hh;have hlen:=congrArg List.length hk1;rw [List.length_take,List.length_drop] at hlen;have HL:=dh (show q' - p'=x.enc.length by omega);have hxl:x.enc.length≤4096:=by omega
      clear hlen;simp only [hk2] at HS;clear hk2;rw [List.length_drop,show b.length - (b.length - q')=q' by omega];go_simp
      refine rg hmx (by kernel_rfl) ?_;go_simp
      rw [HL.out];refine ⟨by omega,?_⟩;have HP:Hid (Q=It.Q.pre (es ++ [x]) (It.Q.prsO (It.item k) x.enc (n - (i + 1)) (256 - (256 - f1)) (b.drop q')))→Hid (Q=match It.item k (256 - (256 - f1)) (b.drop q') with
       | .err e=>.err e
       | .ok y f1 s1=>It.Q.pre (es ++ [x] ++ [y]) (It.prsN (It.item k) (some x.enc) (n - (i + 1)) f1 s1)):=fun h=>dh (by
         rw [h.out,It.Q.prsO_st]
         all_goals (cases It.item k (256 - (256 - f1)) (b.drop q') <;> rfl))
      have hf2:256 - (256 - f1)=f1:=by omega
      simp only [hf2] at HP;have hf3:256 - f1≤256:=by omega
      have hf4:es.length + 1≤256 - f1:=by omega
      have HF:=dh hf2;clear hf2
      first
       | refine ifd (fun h0=>absurd (HO.out.1 rfl).2 (by omega)) (fun h0=>?_)
         have HS:=HP (dh (HS.out.trans ((if_neg (show ¬ (1:Int)=0 by decide)).trans (if_neg (show ¬ (1:Int) < 0 by decide)))));clear HP;go_simp
       | refine ifd (fun h0=>?_) (fun h0=>absurd (HO.out.2 (by simp)) (by omega))
         go_simp
         refine cl [] [] (cmp8_c XU x.enc key (by omega) (by omega)) (by go_simp) ?_;rintro r rows ⟨rfl,rfl⟩
         replace HS:Hid (Q=if It.cmpB x.enc key=0 then .err 7 else if It.cmpB x.enc key < 0 then .err 6 else It.Q.pre (es ++ [x]) (It.Q.prsO (It.item k) x.enc (n - (i + 1)) f1 (b.drop q'))):=HS
         generalize It.cmpB x.enc key=C at *;go_simp
         refine ifd (fun h5=>?_) (fun h5=>?_) <;> go_simp
         ·have HE:=dh (show R=.err 7 by rw [HR.out,HS.out,if_pos h5];rfl)
          exact DkC.err HE.out
         have HS:=dh (HS.out.trans (if_neg h5));refine ifd (fun h6=>?_) (fun h6=>?_) <;> go_simp
         ·have HE:=dh (show R=.err 6 by rw [HR.out,HS.out,if_pos h6];rfl)
          exact DkC.err HE.out
         have HS:=HP (dh (HS.out.trans (if_neg h6)));clear HP
      have HI:=IH.out 1000 ver lv q' (256 - f1) hd hq4 hf3;rw [HF.out] at HI;refine cl [] [1000] HI (by go_simp) ?_;rintro r rows hR;cases hh:It.item k f1 (b.drop q') with
      | err e'=>
        rw [hh] at hR;have HE:=dh (show R=.err e' by rw [HR.out,HS.out,hh];rfl);have hne:=It.Q.item_errs _ _ _ _ hh;obtain ⟨rfl,p2,it2,rfl⟩:=hR;clear hh;go_simp
        exact DkC.err HE.out
      | ok y f2 s2=>
        rw [hh] at hR;obtain ⟨q2,rfl,hq5,hq6,-,hf5,hn5,-,-,-⟩:=It.Q.item_at hh;have HS:=dh (show It.Q.pre (es ++ [x] ++ [y]) (It.prsN (It.item k) (some x.enc) (n - (i + 1)) (256 - (256 - f2)) (b.drop q2))=Q by rw [HS.out,hh,show 256 - (256 - f2)=f2 by omega]);obtain ⟨⟨a,rfl,rfl⟩,rfl⟩:=hR;clear hh;rw [List.length_drop,show b.length - (b.length - q2)=q2 by omega];have hl5:es.length + 2≤256 - f2:=by omega
        go_simp;go_bits
        first
         | have he:=(HO.out.1 rfl).1
           subst he;refine ⟨by rw [show Tryz.t26.bytes=64 from rfl];omega,u + 1 + 1 + 1 + 1 + 1 + 1 + 1,q2,256 - f2,i + 1,[x,y],some (u + 1 + 1 + 1 + 1 + 1),x.enc,⟨hq6,by omega,by simpa using hl5,by omega,(fun h=>by cases h),(fun _=>by omega),hxl,HS⟩,by omega,?_⟩
           dsimp only
           rw [itL2];go_simp
         | refine ⟨⟨by rw [show Tryz.t26.bytes=64 from rfl];omega,by omega⟩,u + 1 + 1 + 1 + 1 + 1 + 1 + 1,q2,256 - f2,i + 1,es ++ [x] ++ [y],some (u + 1 + 1 + 1 + 1 + 1),x.enc,⟨hq6,by omega,by simpa using hl5,by omega,(fun h=>by cases h),(fun _=>by omega),hxl,HS⟩,by omega,?_⟩
           dsimp only
           rw [List.length_append,List.length_append,← itL_app,← itL_app,List.append_assoc];go_simp
   ·have HE:=hend (by omega)
    clear hst hend;refine gw ?_;go_simp
    first
     | have he:=(HO.out.1 rfl).1
       subst he;exact cg (DkC.ok (x:=.mk 5 0 [] []) (p:=p') (it:=it') HE.out (itN.flat _ _) hp' (by omega)) rfl rfl
     | exact cg (DkC.ok (x:=.mk 5 0 [] es) (p:=p') (it:=it') HE.out ⟨_,_,rfl,.inr ⟨rfl,rfl,rfl⟩,.inl (by show SV.sl es.length 4 (List.take (es.length * 4) (itL es))=SV.sl es.length 4 (itL es);rw [List.take_of_length_le (by rw [itL_len];exact Nat.le_refl _)])⟩ hp' (by omega)) rfl rfl
def PfC (b:List UInt8) (R:It.PR It) (r:SV) (rows:List Row):Prop:=rows=[]∧match R with
 | .err e=>r=.tup [zA,iv 0,iv e]
 | .ok x _ s=>r=.tup [itS x,iv (b.length - s.length:Nat),iv 0]
def DcC (R:It.DR) (r:SV) (rows:List Row):Prop:=rows=[]∧match R with
 | .err e=>r=.tup [zA,iv e]
 | .ok x=>r=.tup [itS x,iv 0]
theorem ItD.all (b:List UInt8) (hb:b.length≤4096):∀ d,d≤8→ItD b d
 | 0,_=>pitem_c b hb 0 (fun k h=>by omega) (fun k h=>by omega)
 | d + 1,h=>pitem_c b hb (d + 1) (fun k e=>by obtain rfl:d=k:=by omega
                                              exact ItD.all b hb d (by omega)) (fun k e=>by
  obtain rfl:d=k:=by omega
  exact ppairs_c b hb d (ItD.all b hb d (by omega)))
theorem cprefix_c (z:List UInt8) (hz:z.length≤1000000000):AC Tryz.prog XU 56 [bsl z] [] (PfC (z.take 4096) (It.prefixP z)):=by
 have hl4:(z.take 4096).length≤4096:=by rw [List.length_take];exact Nat.min_le_left ..
 have HC:∀ s ver,AC Tryz.prog XU 106 [.ptr s ver 0,iv (0:Nat)] [PW 121 ver (z.take 4096) 0 0] (DkC 121 ver (z.take 4096) isI (It.prefixP z)):=fun s ver=>ItD.all (z.take 4096) hl4 8 (by omega) s ver 0 0 0 rfl (by omega) (by omega)
 obtain ⟨R,hR⟩:∃ R,R=It.prefixP z:=⟨_,rfl⟩;rw [← hR] at HC ⊢;have HE:=dh (show ∀ e,R=.err e→e≠0 from fun e h=>It.Q.item_errs _ _ _ _ (hR.symm.trans h));clear hR;refine AC.bodyW false Tryz.func56 rfl Tryz.call56 Tryz.ntmps56 (by simp) fun e nx=>gw ?_
 go_simp
 have e1:(min (z.length:Int) 4096).toNat=(z.take 4096).length:=by rw [List.length_take];omega
 have e2:z.take ((z.take 4096).length)=z.take 4096:=by rw [List.length_take];by_cases h:4096≤z.length;rw [Nat.min_eq_left h];rw [Nat.min_eq_right (by omega),List.take_of_length_le (by omega),List.take_of_length_le (by omega)]
 rw [e1,e2];clear e1 e2;refine ⟨by omega,?_⟩;refine cl [] [5] (HC 5 (nx + 1)) (by go_simp) ?_;rintro r rows hI;cases R with
 | err e'=>
   have hne:=HE.out e' rfl;obtain ⟨rfl,p2,it2,rfl⟩:=hI;go_simp
   exact ⟨rfl,rfl⟩
 | ok x f s=>
   obtain ⟨⟨a,rfl,rfl⟩,rfl⟩:=hI;go_simp
   refine rg hmx (by kernel_rfl) ?_;go_simp
   rw [show min 4096 z.length=(z.take 4096).length from List.length_take.symm];exact ⟨rfl,rfl⟩
theorem cdecode_c (z:List UInt8) (hz:z.length≤1000000000):AC Tryz.prog XU 55 [bsl z] [] (DcC (It.decodeP z)):=by
 have hD:=It.decodeP.eq_1 z;have HC:=cprefix_c z hz;have HE:=dh (show ∀ e,It.prefixP z=.err e→e≠0 from fun e h=>It.Q.item_errs _ _ _ _ h);have HS:=dh (show ∀ x f s,It.prefixP z=.ok x f s→s.length≤(z.take 4096).length∧(s=[]↔s.length=0) from fun x f s h=>by
  obtain ⟨q,rfl,-⟩:=It.Q.item_at (p:=0) (b:=z.take 4096) (by rw [List.drop_zero];exact h);exact ⟨by rw [List.length_drop];omega,List.length_eq_zero_iff.symm⟩)
 generalize It.prefixP z=R at *;generalize It.decodeP z=D at *;have HD:=dh hD;clear hD;refine AC.bodyW false Tryz.func55 rfl Tryz.call55 Tryz.ntmps55 (by simp) fun e nx=>gw ?_
 go_simp
 refine ifd (fun h=>?_) (fun h=>?_) <;> go_simp
 ·rw [HD.out,if_pos (by omega)]
  exact ⟨rfl,rfl⟩
 have HD:=dh (HD.out.trans (if_neg (by omega)));refine cl [] [] HC (by go_simp) ?_;rintro r rows ⟨rfl,hI⟩;cases R with
 | err e'=>
   have hne:=HE.out e' rfl
   replace HD:Hid (D=.err e'):=HD
   replace hI:r=.tup [zA,iv 0,iv e']:=hI
   subst hI;go_simp
   rw [HD.out];exact ⟨rfl,rfl⟩
 | ok x f s=>
   obtain ⟨hs1,hs2⟩:=HS.out x f s rfl
   replace HD:Hid (D=if s=[] then .ok x else .err 9):=HD
   replace hI:r=.tup [itS x,iv ((z.take 4096).length - s.length:Nat),iv 0]:=hI
   subst hI;rw [List.length_take,Nat.min_eq_right (by omega)] at hs1 ⊢;go_simp
   refine ifd (fun h2=>?_) (fun h2=>?_) <;> go_simp
   ·rw [HD.out,if_neg (by rw [hs2];omega)]
    exact ⟨rfl,rfl⟩
   ·rw [HD.out,if_pos (by rw [hs2];omega)]
    exact ⟨rfl,rfl⟩
theorem det78_c (z:List UInt8) (hz:z.length≤1000000000):AC Tryz.prog XU 78 [bsl z] [] fun r rows=>r=bov (It.Q.detP z)∧rows=[]:=by
 refine AC.bodyW false Tryz.func78 rfl Tryz.call78 Tryz.ntmps78 (by simp) fun e nx=>gw ?_
 go_simp
 refine cl [] [] (cdecode_c z hz) (by go_simp) ?_;rintro r rows ⟨rfl,hI⟩;have hE:=It.Q.decE_det z;unfold It.Q.detP It.Q.decE at *;cases hD:It.decodeP z with
 | err e'=>
   rw [hD] at hI hE
   replace hE:decide (e'=0)=false:=hE
   replace hE:¬ e'=0:=of_decide_eq_false hE
   replace hI:r=.tup [zA,iv e']:=hI
   subst hI;clear hD;go_simp
 | ok x=>
   rw [hD] at hI
   replace hI:r=.tup [itS x,iv 0]:=hI
   subst hI;clear hD hE;go_simp
end Go.Proofs.YtelefkkkccilaaaGreatDoor
