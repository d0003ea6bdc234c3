/- Headers: a new parameter fits where there is room, and what is found then, plainly. -/
import Derived.Test.YtelefkkkccilaaaGreatDoorHb
set_option linter.all false
namespace Go.Proofs.YtelefkkkccilaaaGreatDoor
namespace It
theorem look_iff {l:List KV} (hn:(l.map key).Nodup) {q v:It}:look (flatK l) q=some v↔(q,v) ∈ l:=by
 constructor
 ·intro h
  have:=look_some h;rwa [pairsK_flat] at this
 ·intro h
  exact look_flat hn h
theorem look_perm {l m:List KV} (hp:l.Perm m) (hn:(l.map key).Nodup) (q:It):look (flatK l) q=look (flatK m) q:=by
 have hm:(m.map key).Nodup:=(hp.map key).nodup_iff.1 hn;apply Option.ext
 intro v;rw [look_iff hn,look_iff hm,hp.mem_iff]
theorem pairsK_append:∀ {l m:List It},l.length % 2=0→pairsK (l ++ m)=pairsK l ++ pairsK m
 | [],m,_=>by rfl
 | [_],m,h=>by simp at h
 | k :: v :: l,m,h=>by
   have:=pairsK_append (l:=l) (m:=m) (by simp at h;omega)
   show (k,v) :: pairsK (l ++ m)=(k,v) :: pairsK l ++ pairsK m
   rw [this];rfl
theorem valid_int {n:Int} (h0: -9223372036854775808≤n) (h1:n≤9223372036854775807):wf 0 (int n)=true∧valid (int n)=true∧nodes (int n)=1∧(enc (int n)).length≤9:=by
 have hw:∀ (k:Int) (m d:Nat),k=0∨k=1→m < 18446744073709551616→wf d (mk k m [] [])=true:=fun k m d hk hm=>by
  unfold wf;rw [if_pos hk];simp [hm]
 have he:∀ (k:Int) (m:Nat),(enc (mk k m [] [])).length≤9:=fun k m=>by
  have:=enc_le k m [] [];have h4:(encs ([]:List It)).length=0:=rfl;simp only [List.length_nil] at this;omega
 have hv:∀ (k:Int) (m:Nat),k=0∨k=1→m < 18446744073709551616→valid (mk k m [] [])=true:=fun k m hk hm=>by
  have h9:=he k m;unfold valid;rw [hw k m 8 hk hm];simp only [Bool.true_and,Bool.and_eq_true,decide_eq_true_eq];exact ⟨by show 1 + 0≤256;omega,by omega⟩
 unfold int
 split
 ·exact ⟨hw _ _ _ (.inr rfl) (by omega),hv _ _ (.inr rfl) (by omega),rfl,he _ _⟩
 ·exact ⟨hw _ _ _ (.inl rfl) (by omega),hv _ _ (.inl rfl) (by omega),rfl,he _ _⟩
theorem build_put {m q v x:It} (hm:valid m=true) (hk:m.kind=5) (hb:buildP (m.kids ++ [q,v])=.ok x):
 valid x=true∧x.kind=5∧(pairsK x.kids).Perm ((q,v) :: pairsK m.kids)∧((pairsK x.kids).map key).Nodup:=by
 have he:=(mev hm hk).1;unfold buildP at hb
 split at hb
 ·cases hb
 split at hb
 ·cases hb
 split at hb
 ·cases hb
 rename_i h1
 split at hb
 ·cases hb
 rename_i h2
 cases hb
 rw [pairsK_append he] at h1 h2 ⊢;have h1:asc .none (flatK (sortK (pairsK m.kids ++ pairsK [q,v])))=true:=by simpa using h1
 refine ⟨by simpa using h2,rfl,?_,?_⟩
 ·show (pairsK (flatK (sortK (pairsK m.kids ++ pairsK [q,v])))).Perm _
  rw [pairsK_flat];exact (sortK_perm _).trans List.perm_append_comm
 ·show ((pairsK (flatK (sortK (pairsK m.kids ++ pairsK [q,v])))).map key).Nodup
  rw [pairsK_flat];exact (((sortK_perm _).map key).nodup_iff).2 ((asc_sort _).1 h1)
theorem look_put {m q v x:It} (hm:valid m=true) (hk:m.kind=5) (hb:buildP (m.kids ++ [q,v])=.ok x) (r:It):
 look x.kids r=if same q r=true then some v else look m.kids r:=by
 obtain ⟨hx,hkx,hp,hn⟩:=build_put hm hk hb;rw [← flat_pairs x.kids (mev hx hkx).1,look_perm hp hn]
 show look (q :: v :: flatK (pairsK m.kids)) r=_
 rw [flat_pairs m.kids (mev hm hk).1,look]
theorem find2_none {p u:It} {n:Int} (h:find2 p u n=.none):look p.kids (int n)=.none∧look u.kids (int n)=.none:=by
 unfold find2 at h;cases hl:look p.kids (int n) with
 | some x=>rw [hl] at h;cases h
 | none=>rw [hl] at h;exact ⟨rfl,h⟩
end It
