/- Joined texts. -/
import Derived.Test.YtkgbjoepjcenlaaDoorKAK
import Derived.Laws.BytesArg
import Derived.Test.YtkgbjoepjcenlaaDoorKAM
import Derived.Test.YtkgbjoepjcenlaaDoorKAN
set_option linter.unusedVariables false
set_option linter.unusedSimpArgs false
namespace Go.Proofs.YtkgbjoepjcenlaaDoor
open Go.RowKit Go.Maps
end Go.Proofs.YtkgbjoepjcenlaaDoor
namespace Go.Proofs.YtkgbjoepjcenlaaDoor
open Go.RowKit
set_option maxHeartbeats 1000000 in
theorem normR_good (t:Tm) (a:Option Addr) (n c:Nat) (w:World) (ok:Nat→Prop) (hT:TR ok w t a n) (hv:Tm.valid t=true):
 Calls Tryd.prog 17 #[.agg #[.int .i64 t.op,.int .i64 t.num,.slice a n c]] w (NmPost (Tm.normal t) w):=by
 have hsz:t.size≤1000000:=by
  unfold Tm.valid at hv
  rw [Bool.and_eq_true] at hv
  have:=hv.1
  simp at this;omega
 have P1:Below w.heap.size w ((w.alloc (.cells #[.int .i64 t.op,.int .i64 t.num,.slice a n c] 28)).alloc (.cells #[.int .i64 0,.int .i64 0,.slice none 0 0] 28)):=(pure_alloc _ _).alloc (by simp) _
 have N1:((w.alloc (.cells #[.int .i64 t.op,.int .i64 t.num,.slice a n c] 28)).alloc (.cells #[.int .i64 0,.int .i64 0,.slice none 0 0] 28)).heap[w.heap.size]?=some (.cells #[.int .i64 t.op,.int .i64 t.num,.slice a n c] 28 (0,0)):=alloc_keep (alloc_new _ _)
 have Z1:((w.alloc (.cells #[.int .i64 t.op,.int .i64 t.num,.slice a n c] 28)).alloc (.cells #[.int .i64 0,.int .i64 0,.slice none 0 0] 28)).heap[w.heap.size + 1]?=some (.cells #[.int .i64 0,.int .i64 0,.slice none 0 0] 28 (0,0)):=alloc_new' _ _ _ (by simp)
 have HT:=Lib.hid (hT.below P1)
 have HV:=Lib.hid hv
 clear hT hv
 go_enter Tryd.func17,Tryd.ntmps17
 go_upto_region 1 with fail
 generalize ((w.alloc (.cells #[.int .i64 t.op,.int .i64 t.num,.slice a n c] 28)).alloc (.cells #[.int .i64 0,.int .i64 0,.slice none 0 0] 28))=w1 at *
 have HP1:=Lib.hid P1
 have HN1:=Lib.hid N1
 have HZ1:=Lib.hid Z1
 have x0:=cell_of_arr N1 0
 have x1:=cell_of_arr N1 1
 have x2:=cell_of_arr N1 2
 simp at x0 x1 x2
 clear P1 N1 Z1
 go_wp2_with fail
 refine (validR_any t a n c w1 _ HT.out (by omega)).mono ?_
 rintro e w2 ⟨rfl,hw2⟩
 rw [HV.out]
 have HP2:=Lib.hid (HP1.out.trans (hw2.mono HP1.out.size))
 have HT2:=Lib.hid (HT.out.below hw2)
 have N2:=Below.keep hw2 HN1.out (lt_of_block HN1.out)
 have HZ2:=Lib.hid (Below.keep hw2 HZ1.out (lt_of_block HZ1.out))
 clear hw2 x0 x1 x2 HP1 HT HN1 HZ1
 have x0:=cell_of_arr N2 0
 have x1:=cell_of_arr N2 1
 have x2:=cell_of_arr N2 2
 simp at x0 x1 x2
 clear N2
 go_wp2_with fail
 refine (normalR_any t.size t a n c w2 _ (Nat.le_refl _) HT2.out (by omega) (Tm.valid_wf HV.out)).mono ?_
 rintro e w3 ⟨ra,rn,rc,rfl,⟨hTR,hrc⟩,hw3⟩
 have HP3:=Lib.hid (HP2.out.trans (hw3.mono HP2.out.size))
 have Z3:=Below.keep hw3 HZ2.out (lt_of_block HZ2.out)
 have hs2:=lt_of_block HZ2.out
 have hT3:TR (fun b=>okW w.heap.size [] b∧b≠w.heap.size + 1) w3 (Tm.normal t) ra rn:=hTR.imp fun k hk _=>⟨⟨by omega,fun p hp=>by simp at hp⟩,by omega⟩
 have HT3:=Lib.hid hT3
 have HZ3:=Lib.hid Z3
 clear hw3 hTR hT3 HP2 HT2 HZ2 x0 x1 x2 hs2
 have r0:=cell_of_arr Z3 0
 have r1:=cell_of_arr Z3 1
 have r2:=cell_of_arr Z3 2
 simp at r0 r1 r2
 have f0:=frozen_of_arr Z3 0
 have f1:=frozen_of_arr Z3 1
 have f2:=frozen_of_arr Z3 2
 clear Z3
 obtain ⟨S1,S2,S3⟩:=put3 HZ3.out (.int .i64 (Tm.normal t).op) (.int .i64 (Tm.normal t).num) (.slice ra rn rc) _ rfl
 have HE:Hid (NmPost (Tm.normal t) w (.returned (.tuple #[.agg #[.int .i64 (Tm.normal t).op,.int .i64 (Tm.normal t).num,.slice ra rn rc],.int .i64 0])) (((w3.setCell ⟨w.heap.size + 1,0,none⟩ (.int .i64 (Tm.normal t).op)).setCell ⟨w.heap.size + 1,1,none⟩ (.int .i64 (Tm.normal t).num)).setCell ⟨w.heap.size + 1,2,none⟩ (.slice ra rn rc))):=
  ⟨ra,rn,rc,rfl,⟨HT3.out.keep fun k hk _=>⟨S2 k hk.2,hk.1.1⟩,hrc⟩,RB.stored HP3.out (by omega) _ _ _⟩
 have p0:=cell_of_arr S1 0
 have p1:=cell_of_arr S1 1
 have p2:=cell_of_arr S1 2
 simp at p0 p1 p2
 clear S1 S2 S3
 go_wp2_with fail
 exact bodyPost_ret (v:=.tuple #[.agg #[.int .i64 (Tm.normal t).op,.int .i64 (Tm.normal t).num,.slice ra rn rc],.int .i64 0]) (by simp [results,Tryd.results17,go_sem,p0,p1,p2]) rfl HE.out
end Go.Proofs.YtkgbjoepjcenlaaDoor
namespace Go.Proofs.YtkgbjoepjcenlaaDoor
open Go.RowKit
theorem TL.elems {ok:Nat→Prop} {w:World} {l:List Tm} {b o n:Nat} (h:TL ok w l (some ⟨b,o,none⟩) n):∀ k,k≤l.length→∃ es:List Elem,es.length=k∧∀ i (h1:i < es.length) (h2:i < l.length),es[i].op=l[i].op∧(es[i].num=l[i].num∧es[i].nn≤es[i].cc)∧(∀ r u,(Elem.cells es[i])[r]?=some u→w.cell? ⟨b,o + i * 3 + r,none⟩=some u)∧TR ok w l[i] es[i].an es[i].nn:=by
 intro k
 induction k with
 | zero=>intro _;exact ⟨[],rfl,fun i h1=>by simp at h1⟩
 | succ k ih=>
   intro hk
   obtain ⟨es,hlen,hes⟩:=ih (by omega)
   obtain ⟨b',o',an,nn,cc,e,hb,c0,c1,c2,ht⟩:=h.2.2 k (by omega)
   cases e
   refine ⟨es ++ [⟨l[k].op,l[k].num,an,nn,cc⟩],by simp [hlen],fun i h1 h2=>?_⟩
   by_cases hi:i < es.length
   ·rw [List.getElem_append_left hi]
    exact hes i hi h2
   ·have e1:i=es.length:=by simp at h1;omega
    subst e1
    rw [List.getElem_append_right (by omega)]
    simp only [Nat.sub_self,List.getElem_cons_zero]
    have e2:es.length=k:=hlen
    subst e2
    refine ⟨rfl,⟨rfl,hb.2⟩,fun r u hu=>?_,ht⟩
    rcases (show r=0∨r=1∨r=2∨3≤r by omega) with rfl | rfl | rfl | hr
    ·simp [Elem.cells] at hu;subst hu;exact c0
    ·simp [Elem.cells] at hu;subst hu;exact c1
    ·simp [Elem.cells] at hu;subst hu;exact c2
    ·rw [List.getElem?_eq_none (by simpa [Elem.cells] using hr)] at hu;cases hu
theorem flat_get:∀ (es:List Elem) (j:Nat) (u:Value),(es.flatMap Elem.cells)[j]?=some u→∃ i r,∃ h:i < es.length,j=i * 3 + r∧(Elem.cells es[i])[r]?=some u
 | [],j,u,h=>by simp at h
 | e :: es,j,u,h=>by
   rw [List.flatMap_cons] at h
   by_cases hj:j < 3
   ·rw [List.getElem?_append_left (by simpa [Elem.cells] using hj)] at h
    exact ⟨0,j,by simp,by omega,h⟩
   ·rw [List.getElem?_append_right (by simp [Elem.cells];omega)] at h
    obtain ⟨i,r,hi,e1,e2⟩:=flat_get es _ u h
    refine ⟨i + 1,r,by simpa using hi,?_,e2⟩
    simp [Elem.cells] at e1
    omega
theorem one_cell:∀ (es:List Elem) (u:Value),u ∈ es.flatMap Elem.cells→u.oneCell'=true:=fun es u hu=>by
 obtain ⟨e,_,he⟩:=List.mem_flatMap.1 hu
 simp [Elem.cells] at he
 rcases he with rfl | rfl | rfl <;> rfl
theorem OutT.app {W:World} {base lo X:Nat} {v:Value} {es:List Elem} {ts:List Tm} (h:OutT W base lo X v es ts) {b o n c:Nat} {l:List Tm} (hT:TL (okV lo X v) W l (some ⟨b,o,none⟩) n) (hsz:ts.length + l.length≤1000000000000) (hb:base≤W.heap.size) (hX:v.ownBlock≠some X) (hXl:X < W.heap.size):
 ∃ v' W' es',(Builtin.append_ #[23,23] 23 #[v,.slice (some ⟨b,o,none⟩) n c]).run Tryd.prog W=.ok v' W'∧OutT W' base lo X v' es' (ts ++ l)∧W.grownBy W' v.ownBlock∧(v'.ownBlock=v.ownBlock∨v'.ownBlock=some W.heap.size)∧v'.ownBlock≠some X:=by
 obtain ⟨i0,hi,hz0,hz1,hz2⟩:=info_parts inf28
 obtain ⟨es2,hlen,hes⟩:=hT.elems l.length (Nat.le_refl _)
 have hn:=hT.1
 obtain ⟨v',W',h2,h3,h4,_,h5⟩:=run_append_own_at (P:=Tryd.prog) W base 23 23 28 i0 _ 3 40 Tryd.underlying23 hi hz0 hz1 hz2 rfl (by omega) v ts.length _ h.row ⟨b,o,none⟩ n c (es2.flatMap Elem.cells) (by rw [flatMap_len,hlen,hn]) (fun j u hu=>by
  obtain ⟨i,r,hi,rfl,hr⟩:=flat_get _ _ _ hu
  have:=(hes i hi (by omega)).2.2.1 r u hr
  have e:(⟨b,o,none⟩:Addr).add (i * 3 + r)=⟨b,o + (i * 3 + r),none⟩:=by unfold Addr.add;split <;> simp_all
  rw [e,← Nat.add_assoc];exact this) (one_cell es2) (by unfold maxLen;omega) (by omega) hb
 have hk:∀ b,okV lo X v b→b < W.heap.size→W'.heap[b]?=W.heap[b]?∧okV lo X v' b:=fun b hb hl=>⟨h4.block b hl (fun e=>hb.2.2 e.symm),hb.1,hb.2.1,fun e=>by
  rcases h5 with h5 | h5
  ·exact hb.2.2 (h5 ▸ e)
  ·rw [h5] at e;cases e;omega⟩
 refine ⟨v',W',es ++ es2,h2,⟨by simp [h.len,hlen],?_,fun i h1 h2=>?_⟩,h4,h5,?_⟩
 ·rw [List.length_append,List.flatMap_append,← hn]
  exact h3
 ·by_cases hi:i < es.length
  ·simp only [List.getElem_append_left hi,List.getElem_append_left (show i < ts.length by rw [← h.len];exact hi)]
   have:=h.each i hi (by rw [← h.len];exact hi)
   exact ⟨this.1,this.2.1,this.2.2.keep hk⟩
  ·have hle:ts.length=es.length:=h.len.symm
   rw [List.getElem_append_right (by omega)]
   have e2:(ts ++ l)[i]'h2=l[i - es.length]'(by simp at h2;omega):=by
    rw [List.getElem_append_right (by omega)]
    simp only [hle]
   rw [e2]
   have:=hes (i - es.length) (by simp at h1;omega) (by simp at h2;omega)
   exact ⟨this.1,this.2.1,this.2.2.2.keep hk⟩
 ·rcases h5 with h5 | h5
  ·rw [h5];exact hX
  ·rw [h5];simp;omega
end Go.Proofs.YtkgbjoepjcenlaaDoor
namespace Go.Proofs.YtkgbjoepjcenlaaDoor
open Go.RowKit Go.Maps
structure Names (l:List Int) (ts:List Tm):Prop where
 nd:ts.Nodup
 mem:∀ t,t ∈ ts↔∃ n ∈ l,t=Tm.nm n
theorem Names.nil:Names [] []:=⟨by simp,fun t=>by simp⟩
theorem nm_inj {a b:Int} (h:Tm.nm a=Tm.nm b):a=b:=by simpa [Tm.nm] using h
theorem Names.again {l:List Int} {ts:List Tm} (h:Names l ts) {q:Int} (hq:q ∈ l):Names (l ++ [q]) ts:=⟨h.nd,fun t=>by
 rw [h.mem]
 constructor
 ·rintro ⟨n,hn,e⟩;exact ⟨n,by simp [hn],e⟩
 ·rintro ⟨n,hn,e⟩
  rcases List.mem_append.1 hn with hn | hn
  ·exact ⟨n,hn,e⟩
  ·simp at hn;subst hn;exact ⟨_,hq,e⟩⟩
theorem Names.more {l:List Int} {ts:List Tm} (h:Names l ts) {q:Int} (hq:q ∉ l):Names (l ++ [q]) (ts ++ [Tm.nm q]):=⟨by
 rw [List.nodup_append]
 refine ⟨h.nd,by simp,fun a ha b hb=>?_⟩
 simp at hb;subst hb
 intro e;subst e
 obtain ⟨n,hn,e⟩:=(h.mem _).1 ha
 exact hq (nm_inj e ▸ hn),fun t=>by
 rw [List.mem_append,h.mem]
 constructor
 ·rintro (⟨n,hn,e⟩ | ht)
  ·exact ⟨n,by simp [hn],e⟩
  ·simp at ht;exact ⟨q,by simp,ht⟩
 ·rintro ⟨n,hn,e⟩
  rcases List.mem_append.1 hn with hn | hn
  ·exact .inl ⟨n,hn,e⟩
  ·simp at hn;subst hn;exact .inr (by simp [e])⟩
theorem Names.len {l:List Int} {ts:List Tm} (h:Names l ts) (hl:∀ n ∈ l,100≤n∧n≤103):ts.length≤4:=by
 have:=Tm.nodup_le (l:=[Tm.nm 100,Tm.nm 101,Tm.nm 102,Tm.nm 103]) h.nd fun x hx=>by
  obtain ⟨n,hn,e⟩:=(h.mem _).1 hx
  have:=hl n hn
  rcases (show n=100∨n=101∨n=102∨n=103 by omega) with rfl | rfl | rfl | rfl <;> simp [e]
 simpa using this
theorem Names.leaks {l:List Int} {ts:List Tm} (h:Names l ts) (hl:∀ n ∈ l,100≤n∧n≤103) (t:Tm):t ∈ ts↔t ∈ Tm.leaks (decide (100 ∈ l)) (decide (101 ∈ l)) (decide (102 ∈ l)) (decide (103 ∈ l)):=by
 rw [h.mem]
 unfold Tm.leaks
 simp only [List.mem_append]
 constructor
 ·rintro ⟨n,hn,e⟩
  have:=hl n hn
  rcases (show n=100∨n=101∨n=102∨n=103 by omega) with rfl | rfl | rfl | rfl <;> simp [e,hn]
 ·rintro (((h1 | h1) | h1) | h1)
  ·by_cases hc:(100:Int) ∈ l
   ·simp [hc] at h1;exact ⟨100,hc,h1⟩
   ·simp [hc] at h1
  ·by_cases hc:(101:Int) ∈ l
   ·simp [hc] at h1;exact ⟨101,hc,h1⟩
   ·simp [hc] at h1
  ·by_cases hc:(102:Int) ∈ l
   ·simp [hc] at h1;exact ⟨102,hc,h1⟩
   ·simp [hc] at h1
  ·by_cases hc:(103:Int) ∈ l
   ·simp [hc] at h1;exact ⟨103,hc,h1⟩
   ·simp [hc] at h1
theorem Names.acc {l:List Int} {ts:List Tm} (h:Names l ts):(Tm.accN ts).length=ts.length:=by
 have:∀ us:List Tm,(∀ t ∈ us,∃ n,t=Tm.nm n)→(Tm.accN us).length=us.length:=by
  intro us
  induction us with
  | nil=>intro _;rfl
  | cons u us ih=>
    intro hu
    obtain ⟨n,rfl⟩:=hu u (by simp)
    have:=ih fun t ht=>hu t (by simp [ht])
    unfold Tm.accN at *
    simp only [List.map_cons,Tm.accF,List.length_append,this,List.length_cons]
    have:(Tm.acc (Tm.normal (Tm.nm n))).length=1:=rfl
    omega
 exact this ts fun t ht=>by obtain ⟨n,_,e⟩:=(h.mem t).1 ht;exact ⟨n,e⟩
theorem Names.valid {l:List Int} {ts:List Tm} (h:Names l ts) (hl:∀ n ∈ l,100≤n∧n≤103):∀ t ∈ ts,Tm.valid t=true:=fun t ht=>by
 obtain ⟨n,hn,rfl⟩:=(h.mem t).1 ht
 have:=hl n hn
 rcases (show n=100∨n=101∨n=102∨n=103 by omega) with rfl | rfl | rfl | rfl <;> decide +kernel
def MapI (D:DataW Unit) (l:List Int):Prop:=∀ q:Int,D.atKey (.int .i64 q) (.lit (.bool false))=.lit (.bool (decide (q ∈ l)))
theorem MapI.nil:MapI (.map []) []:=fun q=>rfl
theorem MapI.again {D:DataW Unit} {l:List Int} (h:MapI D l) {q:Int} (hq:q ∈ l):MapI D (l ++ [q]):=fun p=>by
 rw [h p]
 by_cases e:p=q
 ·subst e;simp [hq]
 ·simp [e]
theorem MapI.add {D:DataW Unit} {l:List Int} (h:MapI D l) (hD:IsMap D) (q:Int):MapI (D.put (.int .i64 q) (.lit (.bool true))) (l ++ [q]):=fun p=>by
 by_cases e:p=q
 ·subst e
  rw [atKey_put_same hD (k:=.int .i64 p) (show WideAt.IsKeyLit (.int .i64 p) from trivial)];simp
 ·have hne:Lit.int .i64 p≠Lit.int .i64 q:=fun h=>e (by injection h)
  rw [atKey_put_other hne,h p]
  simp [e]
def SLoop (w:World) (ld:List Int) (n:Nat) (i v:Value) (W:World):Prop:=∃ (j:Nat) (es:List Elem) (ts:List Tm),i=.int .i64 j∧j≤n∧OutT W (w.heap.size + 1) (w.heap.size + 1) w.heap.size v es ts∧Names (ld.take j) ts∧(∃ q D,W.ownsMap Tryd.prog 3 (plainElem Tryd.prog 4) w.heap.size q D∧q≤j∧MapI D (ld.take j))∧Below w.heap.size w W∧v.ownBlock≠some w.heap.size∧w.heap.size < W.heap.size
def ScPost (k:Nat) (ld:List Int) (w:World) (e:Ending) (w':World):Prop:=e=.returned (.tuple #[.bool (Tm.wantB k (decide (100 ∈ ld)) (decide (101 ∈ ld)) (decide (102 ∈ ld)) (decide (103 ∈ ld))),.int .i64 0])∧Below w.heap.size w w'
theorem take_snocI (l:List Int) (j:Nat) (h:j < l.length):l.take (j + 1)=l.take j ++ [l.getD j 0]:=by
 rw [List.take_succ_eq_append_getElem h];simp [h]
set_option maxHeartbeats 2000000 in
set_option maxRecDepth 100000 in
theorem secret_good (k:Nat) (hk:k < 4) (ld:List Int) (la:Option Addr) (n cap:Nat) (w:World) (hI:Is w la n ld) (hld:∀ q ∈ ld,100≤q∧q≤103) (hE:Env w):Calls Tryd.prog 29 #[.int .i64 (k:Int),.slice la n cap] w (ScPost k ld w):=by
 have hk3:(k:Int)≤3:=by omega
 have hmm:= @run_makeMap Tryd.prog
 have HI:=Lib.hid hI
 have HL:=Lib.hid hld
 have HE:=Lib.hid hE
 have hn:=hI.2.1
 clear hI hld hE
 go_enter Tryd.func29,Tryd.ntmps29
 go_wp2_with fail
 have HO0:=Lib.hid (OutT.nil (w.alloc (.map #[] 0)) (w.heap.size + 1) (w.heap.size + 1) w.heap.size)
 have HM0:=Lib.hid (World.ownsMap_made (H:=Unit) w Tryd.prog 3 (plainElem Tryd.prog 4))
 have HB0:=Lib.hid (pure_alloc w (.map #[] 0))
 clear hmm
 go_loopw [23,6] (fun i v W=>SLoop w ld n i v W) (fun i _ _=>n - (intOf i).toNat)
 case atStart=>exact ⟨0,[],[],rfl,by omega,HO0.out,Names.nil,⟨0,_,HM0.out,by omega,MapI.nil⟩,HB0.out,by simp [Value.ownBlock],by simp⟩
 case round=>
  obtain ⟨j,es,ts,rfl,hj,hO,hN,⟨q,D,hM,hq,hD⟩,hB,hX,hW⟩:=hrel
  obtain ⟨va,vcap,hvf⟩:=own_form hO.row
  subst hvf
  by_cases hjn:j < n
  ·have hjl:j < ld.length:=by have:=HI.out.1;omega
   obtain ⟨b,o,hea,hc,hlo,hhi⟩:=HI.out.2.2 j hjn
   subst hea
   have hcW:=(hB.cell (p:=⟨b,o + j,none⟩) (lt_of_cell hc)).trans hc
   have hrng:100≤ld.getD j 0∧ld.getD j 0≤103:=HL.out _ (by rw [List.getD_eq_getElem?_getD,List.getElem?_eq_getElem hjl];exact List.getElem_mem hjl)
   have htk:=Lib.hid (take_snocI ld j hjl)
   have hkw:keyOf Tryd.prog 3 (.int .i64 (ld.getD j 0))=some (.int .i64 (ld.getD j 0)):=keyOf_int_mk Tryd.underlying3 (WalkArith.wf_i64 (by omega))
   have HKW:=Lib.hid hkw
   have hAT:=hD (ld.getD j 0)
   have hDm:=own_map_isMap hM
   have HO:=Lib.hid hO
   have HN:=Lib.hid hN
   have HMM:=Lib.hid hM
   have HD:=Lib.hid hD
   have HB:=Lib.hid hB
   have HDm:=Lib.hid hDm
   obtain ⟨hr1,hr2⟩:=hrng
   clear hc hlo hhi hkw hO hN hM hD hB hDm
   generalize ld.getD j 0=p at *
   have hlt:(j:Int) < n:=by omega
   have hz2:Hid ((zeroValue 4).run Tryd.prog wr=.ok (.bool false) wr):=by show _=_;kernel_rfl
   by_cases hin:p ∈ ld.take j
   ·have HAT:Hid (D.atKey (.int .i64 p) (.lit (.bool false))=.lit (.bool true)):=by show _=_;rw [hAT];simp [hin]
    have HIN:=Lib.hid hin
    clear hAT hin
    go_wp2_with (at_lookup;refine wpList_lookup_bool _ rfl _ _ 66 rfl 3 4 (int_keyed Tryd.underlying3) Tryd.underlying66 Tryd.underlying4 hz2.out w.heap.size q D rfl HMM.out _ _ rfl HKW.out true HAT.out ?_)
    go_roundw
    case rel=>exact ⟨j + 1,es,ts,by go_num,by omega,HO.out,by rw [htk.out];exact HN.out.again HIN.out,⟨q,D,HMM.out,by omega,by rw [htk.out];exact HD.out.again HIN.out⟩,HB.out,hX,hW⟩
    case measure=>simp [intOf];omega
   ·have HAT:Hid (D.atKey (.int .i64 p) (.lit (.bool false))=.lit (.bool false)):=by show _=_;rw [hAT];simp [hin]
    have HIN:=Lib.hid hin
    have hqm:q < maxLen:=by unfold maxLen;omega
    clear hAT hin
    go_upto_region 12 with (first | (at_lookup;refine wpList_lookup_bool _ rfl _ _ 66 rfl 3 4 (int_keyed Tryd.underlying3) Tryd.underlying66 Tryd.underlying4 hz2.out w.heap.size q D rfl HMM.out _ _ rfl HKW.out false HAT.out ?_) | (at_mapUpdate;refine wpList_mapUpdate_own (H:=Unit) _ rfl _ _ _ 66 rfl 3 4 (int_keyed Tryd.underlying3) Tryd.underlying66 (plainElem Tryd.prog 4) w.heap.size q D rfl HMM.out hqm _ _ _ rfl rfl HKW.out (.lit (.bool true)) [] (plainElem_bool Tryd.underlying4 true) ?_;intro w3 hown3 hgr3))
    have hs3:=hgr3.size
    have b3:∀ k,k≠w.heap.size→k < wr.heap.size→w3.heap[k]?=wr.heap[k]?:=fun k h1 h2=>hgr3.block k h2 (fun e=>h1 (by cases e;rfl))
    have HO3:=Lib.hid (HO.out.var b3 hX)
    have HB3:Hid (Below w.heap.size w w3):=by
     have h1:=HB.out
     exact ⟨hgr3.os.trans h1.os,hgr3.tape.trans h1.tape,hgr3.output.trans h1.output,Nat.le_trans h1.size hs3,fun i hi=>(b3 i (by omega) (by omega)).trans (h1.block i hi)⟩
    have HM3:=Lib.hid hown3
    have HD3:=Lib.hid (HD.out.add HDm.out p)
    have hW3:w.heap.size < w3.heap.size:=by omega
    have HLN:Hid (ts.length≤4):=HN.out.len fun q hq=>HL.out q (List.mem_of_mem_take hq)
    clear hown3 hgr3 b3 HMM HD HDm HAT HO HB hs3 hz2 hcW HKW hqm
    simp only [Act.put]
    go_wp2_with fail
    refine (tname_any p w3).mono ?_
    rintro e w4 ⟨rfl,hw4⟩
    have O4:=HO3.out.pure (pure_trans hw4 (pure_alloc w4 (.cells #[.int .i64 1,.int .i64 p,.slice none 0 0] 28)))
    have hs4:w3.heap.size≤(w4.alloc (.cells #[.int .i64 1,.int .i64 p,.slice none 0 0] 28)).heap.size:=(pure_trans hw4 (pure_alloc w4 (.cells #[.int .i64 1,.int .i64 p,.slice none 0 0] 28))).size
    obtain ⟨v',w6,hrun,hO6,hgr,hob,hoX⟩:=O4.push (a:=w4.heap.size) (c:=1) (e:=⟨1,p,none,0,0⟩) (t:=Tm.nm p) (alloc_new w4 _) rfl rfl (Nat.le_refl _) (TR_iff.2 (TL.nil _ _ _)) (by have:=HLN.out;omega) (by omega) hX (by omega)
    have hbk:∀ k,k≤w.heap.size→w6.heap[k]?=w3.heap[k]?:=fun k hk=>(hgr.block k (by omega) fun e=>by
     have:=(own_lt O4.row e.symm).2.1
     omega).trans ((pure_trans hw4 (pure_alloc w4 (.cells #[.int .i64 1,.int .i64 p,.slice none 0 0] 28))).block k (by omega))
    have HM6:=Lib.hid (own_map_keep HM3.out (hbk _ (Nat.le_refl _)))
    have HB6:Hid (Below w.heap.size w w6):=by
     have h1:=HB3.out.trans ((pure_trans hw4 (pure_alloc w4 (.cells #[.int .i64 1,.int .i64 p,.slice none 0 0] 28))).mono (by omega:w.heap.size≤w3.heap.size))
     exact ⟨hgr.os.trans h1.os,hgr.tape.trans h1.tape,hgr.output.trans h1.output,Nat.le_trans h1.size hgr.size,fun i hi=>(hbk i (by omega)).trans (HB3.out.block i hi)⟩
    have HO6:=Lib.hid hO6
    have hW6:w.heap.size < w6.heap.size:=by have:=hgr.size;omega
    clear hO6 hgr hob O4 hbk hw4 hs4
    go_wp2_with (refine wpList_app rfl _ _ 23 rfl rfl rfl hrun ?_)
    clear hrun
    go_roundw
    case rel=>exact ⟨j + 1,_,_,by go_num,by omega,HO6.out,by rw [htk.out];exact HN.out.more HIN.out,⟨q + 1,_,HM6.out,by omega,by rw [htk.out];exact HD3.out⟩,HB6.out,hoX,hW6⟩
    case measure=>simp [intOf];omega
  ·have hjn':j=n:=by omega
   have hnl:¬ ((j:Int) < n):=by omega
   have hts:Names ld ts:=by
    have e:ld.take j=ld:=List.take_of_length_le (by have:=HI.out.1;omega)
    rw [e] at hN;exact hN
   have HN':=Lib.hid hts
   have HLN:Hid (ts.length≤4):=hts.len HL.out
   have HO:=Lib.hid hO
   have HB:=Lib.hid hB
   have HX:=Lib.hid hX
   clear hts hN hM hD hO hB hX hjn'
   go_wp2_with fail
   refine (exch_good (k:Int) 100 101 102 103 (by omega) (by omega) (by omega) (by omega) (by omega) (by omega) (by omega) (by omega) (by omega) rfl rfl rfl rfl rfl rfl wr (k % 2==1) (decide (2≤k)) (by rcases (show k=0∨k=1∨k=2∨k=3 by omega) with rfl | rfl | rfl | rfl <;> rfl) (by rcases (show k=0∨k=1∨k=2∨k=3 by omega) with rfl | rfl | rfl | rfl <;> rfl)).mono ?_
   rintro e w2 ⟨ma,mc,ra,rn,rc,rfl,hmc,hTL,hTR,hrc,hw2⟩
   have HR2:Hid (TR (fun b=>wr.heap.size≤b) w2 (Tm.resOf k) ra rn):=hTR
   have HT2:Hid (TL (fun b=>wr.heap.size≤b) w2 (Tm.msgs k) ma 4):=hTL
   obtain ⟨mb,mo,hma⟩:∃ mb mo,ma=some ⟨mb,mo,none⟩:=by
    obtain ⟨b,o,_,_,_,e,_⟩:=hTL.2.2 0 (by simp)
    exact ⟨b,o,e⟩
   subst hma
   have hop:(Tm.normal (Tm.eres (k % 2==1) (decide (2≤k)) (k:Int) 100 101 102 103))=Tm.resOf k:=rfl
   rw [hop]
   clear hop
   have P3:=pure_alloc w2 (.cells #[.int .i64 (Tm.resOf k).op,.int .i64 (Tm.resOf k).num,.slice ra rn rc] 28)
   have HP3:=Lib.hid (pure_trans hw2 P3)
   have HT3:=Lib.hid (HT2.out.below P3)
   have HR3:=Lib.hid (HR2.out.below P3)
   have N3:=alloc_new w2 (.cells #[.int .i64 (Tm.resOf k).op,.int .i64 (Tm.resOf k).num,.slice ra rn rc] 28)
   have HRS:Hid (wr.heap.size≤w2.heap.size):=hw2.size
   clear hTL hTR hw2 P3 HT2 HR2
   go_upto_region 17 with fail
   generalize w2.alloc (.cells #[.int .i64 (Tm.resOf k).op,.int .i64 (Tm.resOf k).num,.slice ra rn rc] 28)=w3 at *
   have HN3:=Lib.hid N3
   have x0:=cell_of_arr N3 0
   have x1:=cell_of_arr N3 1
   have x2:=cell_of_arr N3 2
   simp at x0 x1 x2
   clear N3
   have hs3:wr.heap.size≤w3.heap.size:=HP3.out.size
   have hP3d:RB wr w3.drew:=HP3.out.drew
   have O3:=HO.out.pure hP3d
   have hvl:∀ g,(Value.slice va ts.length vcap).ownBlock=some g→g < wr.heap.size:=fun g e=>(own_lt HO.out.row e).1
   obtain ⟨v',w4,es',hrun,hO4,hgr,hob,hoX⟩:=O3.app (c:=mc) (b:=mb) (o:=mo) (n:=4) (l:=Tm.msgs k) ((HT3.out.below (RB.drew w3)).imp fun b hb _=>by
    have h1:wr.heap.size≤b:=hb
    exact ⟨by omega,by omega,fun e=>by have:=hvl b e;omega⟩) (by have:=HLN.out;have h4:(Tm.msgs k).length=4:=rfl;omega) (by show w.heap.size + 1≤w3.heap.size;omega) HX.out (by show w.heap.size < w3.heap.size;omega)
   have hv3:w2.heap.size < w3.heap.size:=lt_of_block HN3.out
   have N4:w4.heap[w2.heap.size]?=some (.cells #[.int .i64 (Tm.resOf k).op,.int .i64 (Tm.resOf k).num,.slice ra rn rc] 28 (0,0)):=(hgr.block _ hv3 fun e=>by have:=hvl _ e.symm;have:=HRS.out;omega).trans HN3.out
   have y0:=cell_of_arr N4 0
   have y1:=cell_of_arr N4 1
   have y2:=cell_of_arr N4 2
   simp at y0 y1 y2
   obtain ⟨ta,tc,hte,htl,htc⟩:=hO4.tl (Nat.le_refl _) (by have:=HLN.out;have h4:(Tm.msgs k).length=4:=rfl;rw [List.length_append];omega)
   subst hte
   have hnl4:(ts ++ Tm.msgs k).length≤60:=by have:=HLN.out;have h4:(Tm.msgs k).length=4:=rfl;rw [List.length_append];omega
   have HN60:=Lib.hid hnl4
   clear hnl4 htc
   generalize (ts ++ Tm.msgs k).length=nl at hrun htl
   have HB4:Hid (Below w.heap.size w w4):=by
    have h1:=HB.out.trans (hP3d.mono HB.out.size)
    exact ⟨hgr.os.trans h1.os,hgr.tape.trans h1.tape,hgr.output.trans h1.output,Nat.le_trans h1.size hgr.size,fun i hi=>(hgr.block i (by show i < w3.heap.size;omega) fun e=>by have:=(own_lt HO.out.row e.symm).2.1;omega).trans (h1.block i hi)⟩
   have HR4:Hid (TR (fun b=>wr.heap.size≤b) w4 (Tm.resOf k) ra rn):=(HR3.out.below (RB.drew w3)).keep fun b hb hl=>⟨hgr.block b hl fun e=>by have:=hvl _ e.symm;have h1:wr.heap.size≤b:=hb;omega,hb⟩
   have HD4:=Lib.hid (derives_any (ts ++ Tm.msgs k) ta _ tc (Tm.resOf k) ra rn rc w4 _ _ htl HR4.out (fun t ht=>by
    rcases List.mem_append.1 ht with ht | ht
    ·exact HN'.out.valid HL.out t ht
    ·exact List.all_eq_true.1 (Tm.msgs_valid k hk).1 t ht) (Tm.msgs_valid k hk).2 HN60.out (by
     have h1:=HN'.out.acc
     have h2:=Tm.msgs_acc k hk
     have h3:=HLN.out
     unfold Tm.accN at *
     rw [List.map_append,Tm.accF_append,List.length_append]
     omega) (HE.out.below HB4.out))
   clear hO4 htl hob hgr O3 hP3d HO HT3 HR3 N4 hvl
   refine wp_region_held_drew (S:=(fun W=>W.cell? ⟨w2.heap.size,0,none⟩=some (.int .i64 (Tm.resOf k).op)∧W.cell? ⟨w2.heap.size,1,none⟩=some (.int .i64 (Tm.resOf k).num)∧W.cell? ⟨w2.heap.size,2,none⟩=some (.slice ra rn rc))) (by kernel_rfl) ⟨x0,x1,x2⟩ (fun hHeld=>?_)
   refine wpAnyH_take (i:=0) (v:=?_) rfl (by kernel_rfl) (by kernel_rfl) (by kernel_rfl) (fun _ _ _ h=>h) (Or.inl ⟨by rfl,?_⟩) hHeld ?_
   rotate_left
   ·(intro W hSw;(try dsimp only at hSw);go_simp;try with_reducible rfl)
   try simp only [Act.put,List.setIfInBounds_toArray,List.set_cons_zero,List.set_cons_succ,List.getElem_toArray,List.getElem_cons_succ,List.getElem_cons_zero]
   refine wpAnyH_take (i:=1) (v:=?_) rfl (by kernel_rfl) (by kernel_rfl) (by kernel_rfl) (fun _ _ _ h=>h) (Or.inl ⟨by rfl,?_⟩) hHeld ?_
   rotate_left
   ·(intro W hSw;(try dsimp only at hSw);go_simp;try with_reducible rfl)
   try simp only [Act.put,List.setIfInBounds_toArray,List.set_cons_zero,List.set_cons_succ,List.getElem_toArray,List.getElem_cons_succ,List.getElem_cons_zero]
   refine wpAnyH_take (i:=3) (v:=?_) rfl (by kernel_rfl) (by kernel_rfl) (by kernel_rfl) (fun _ _ _ h=>h) (Or.inl ⟨by rfl,?_⟩) hHeld ?_
   rotate_left
   ·(intro W hSw;(try dsimp only at hSw);go_simp;try with_reducible rfl)
   try simp only [Act.put,List.setIfInBounds_toArray,List.set_cons_zero,List.set_cons_succ,List.getElem_toArray,List.getElem_cons_succ,List.getElem_cons_zero]
   refine wpAnyH_ready (rs:=[2]) (by kernel_rfl) (by simp) ?_
   refine AllReadyH.cons rfl (fun K1 hK1=>?_) AllReadyH.nil
   rw [if_pos (by rfl)]
   refine wp_app _ _ 23 rfl rfl rfl hrun ?_
   refine hK1.out _ _ ⟨y0,y1,y2⟩ (fun hHeld=>?_)
   clear hK1
   try simp only [Act.put,List.setIfInBounds_toArray,List.set_cons_zero,List.set_cons_succ,List.getElem_toArray,List.getElem_cons_succ,List.getElem_cons_zero]
   clear hrun
   refine wpAnyH_ready (rs:=[4]) (by kernel_rfl) (by simp) ?_
   refine AllReadyH.cons rfl (fun K1 hK1=>?_) AllReadyH.nil
   go_simp
   refine HD4.out.mono ?_
   rintro e w5 ⟨C,hC,rfl,hw5⟩
   have HC:=Lib.hid hC
   have HB5:=Lib.hid (HB4.out.trans (hw5.mono HB4.out.size))
   have hl2:=lt_of_cell y0
   refine hK1.out _ _ ⟨(hw5.cell (p:=⟨w2.heap.size,0,none⟩) hl2).trans y0,(hw5.cell (p:=⟨w2.heap.size,1,none⟩) hl2).trans y1,(hw5.cell (p:=⟨w2.heap.size,2,none⟩) hl2).trans y2⟩ (fun hHeld=>?_)
   clear hK1
   try simp only [Act.put,List.setIfInBounds_toArray,List.set_cons_zero,List.set_cons_succ,List.getElem_toArray,List.getElem_cons_succ,List.getElem_cons_zero]
   refine wpAnyH_take (i:=5) (v:=?_) rfl (by kernel_rfl) (by kernel_rfl) (by kernel_rfl) (fun _ _ _ h=>h) (Or.inl ⟨by rfl,?_⟩) hHeld ?_
   rotate_left
   ·(intro W hSw;(try dsimp only at hSw);go_simp;try with_reducible rfl)
   try simp only [Act.put,List.setIfInBounds_toArray,List.set_cons_zero,List.set_cons_succ,List.getElem_toArray,List.getElem_cons_succ,List.getElem_cons_zero]
   refine wpAnyH_take (i:=6) (v:=?_) rfl (by kernel_rfl) (by kernel_rfl) (by kernel_rfl) (fun _ _ _ h=>h) (Or.inl ⟨by rfl,?_⟩) hHeld ?_
   rotate_left
   ·(intro W hSw;(try dsimp only at hSw);go_simp;try with_reducible rfl)
   try simp only [Act.put,List.setIfInBounds_toArray,List.set_cons_zero,List.set_cons_succ,List.getElem_toArray,List.getElem_cons_succ,List.getElem_cons_zero]
   refine wpAnyH_take (i:=7) (v:=?_) rfl (by kernel_rfl) (by kernel_rfl) (by kernel_rfl) (fun _ _ _ h=>h) (Or.inl ⟨by rfl,?_⟩) hHeld ?_
   rotate_left
   ·(intro W hSw;(try dsimp only at hSw);go_simp;try with_reducible rfl)
   try simp only [Act.put,List.setIfInBounds_toArray,List.set_cons_zero,List.set_cons_succ,List.getElem_toArray,List.getElem_cons_succ,List.getElem_cons_zero]
   refine wpAnyH_take (i:=8) (v:=?_) rfl (by kernel_rfl) (by kernel_rfl) (by kernel_rfl) (fun _ _ _ h=>h) (Or.inl ⟨by rfl,?_⟩) hHeld ?_
   rotate_left
   ·(intro W hSw;(try dsimp only at hSw);go_simp;try with_reducible rfl)
   try simp only [Act.put,List.setIfInBounds_toArray,List.set_cons_zero,List.set_cons_succ,List.getElem_toArray,List.getElem_cons_succ,List.getElem_cons_zero]
   refine wpAnyH_take (i:=9) (v:=?_) rfl (by kernel_rfl) (by kernel_rfl) (by kernel_rfl) (fun _ _ _ h=>h) (Or.inl ⟨by rfl,?_⟩) hHeld ?_
   rotate_left
   ·(intro W hSw;(try dsimp only at hSw);go_simp;try with_reducible rfl)
   try simp only [Act.put,List.setIfInBounds_toArray,List.set_cons_zero,List.set_cons_succ,List.getElem_toArray,List.getElem_cons_succ,List.getElem_cons_zero]
   refine wpAnyH_done (by kernel_rfl) ?_ _
   try simp only [Act.put,List.setIfInBounds_toArray,List.set_cons_zero,List.set_cons_succ,List.getElem_toArray,List.getElem_cons_succ,List.getElem_cons_zero]
   have hb:=Tm.sec_builds hk (decide ((100:Int) ∈ ld)) (decide ((101:Int) ∈ ld)) (decide ((102:Int) ∈ ld)) (decide ((103:Int) ∈ ld)) (HC.out.of_mem (m:=Tm.leaks (decide ((100:Int) ∈ ld)) (decide ((101:Int) ∈ ld)) (decide ((102:Int) ∈ ld)) (decide ((103:Int) ∈ ld)) ++ Tm.msgs k) fun t=>by rw [List.mem_append,List.mem_append,HN'.out.leaks HL.out t])
   rw [hb]
   clear hb
   go_wp2_with fail
   go_ret2
   exact ⟨by simp,HB5.out⟩
end Go.Proofs.YtkgbjoepjcenlaaDoor
