/- Joined texts. -/
import Derived.Test.YtkgbjoepjcenlaaDoorKAC
import Derived.Deep.AppendLies
import Derived.BigRegion
set_option linter.unusedVariables false
set_option linter.unusedSimpArgs false
namespace Go.Proofs.YtkgbjoepjcenlaaDoor
open Go.RowKit
set_option maxHeartbeats 400000 in
theorem valid_any (t:Tm) (a:Option Addr) (n c:Nat) (w:World) (ok:Nat→Prop) (hT:TR ok w t a n):
 Calls Tryd.prog 18 #[.agg #[.int .i64 t.op,.int .i64 t.num,.slice a n c]] w fun e w'=>e=.returned (.bool (Tm.valid t))∧Below w.heap.size w w':=by
 have P1:Below w.heap.size w ((w.alloc (.cells #[.int .i64 t.op,.int .i64 t.num,.slice a n c] 28)).alloc (.cells #[.int .i64 2000] 3)):=(pure_alloc _ _).alloc (by simp) _
 have N1:((w.alloc (.cells #[.int .i64 t.op,.int .i64 t.num,.slice a n c] 28)).alloc (.cells #[.int .i64 2000] 3)).heap[w.heap.size]?=some (.cells #[.int .i64 t.op,.int .i64 t.num,.slice a n c] 28 (0,0)):=alloc_keep (alloc_new _ _)
 have N2:((w.alloc (.cells #[.int .i64 t.op,.int .i64 t.num,.slice a n c] 28)).alloc (.cells #[.int .i64 2000] 3)).heap[w.heap.size + 1]?=some (.cells #[.int .i64 2000] 3 (0,0)):=alloc_new' _ _ _ (by simp)
 have HT:=Lib.hid (((hT.imp (ok':=fun b=>b≠w.heap.size + 1) fun b _ hl=>by omega)).below P1)
 have HV:=Lib.hid t.formed_valid
 clear hT
 go_enter Tryd.func18,Tryd.ntmps18
 go_upto_region 2 with fail
 generalize (w.alloc (.cells #[.int .i64 t.op,.int .i64 t.num,.slice a n c] 28)).alloc (.cells #[.int .i64 2000] 3)=w1 at *
 have HP1:=Lib.hid P1
 have HN2:=Lib.hid N2
 have x0:=cell_of_arr N1 0
 have x1:=cell_of_arr N1 1
 have x2:=cell_of_arr N1 2
 simp at x0 x1 x2
 clear P1 N1 N2
 go_wp2_with fail
 refine (formed_any t.size t a n c (w.heap.size + 1) 2000 1 w1 (Nat.le_refl _) HT.out HN2.out (by omega) (by omega) (by omega) (by omega)).mono ?_
 rintro e w2 ⟨rfl,hL,hb⟩
 rw [HV.out]
 have HB2:=Lib.hid (HP1.out.trans (hb.below (B:=w.heap.size) (by omega) HP1.out.size))
 clear hL hb x0 x1 x2
 go_wp2_with fail
 go_ret
 exact ⟨rfl,HB2.out⟩
set_option maxHeartbeats 3200000 in
theorem shaped_any (m:Nat):∀ (t:Tm) (a:Option Addr) (n c l:Nat) (w:World) (ok:Nat→Prop),t.size≤m→TR ok w t a n→l≤1000→
 Calls Tryd.prog 40 #[.agg #[.int .i64 t.op,.int .i64 t.num,.slice a n c],.int .i64 l] w fun e w'=>e=.returned (.bool (Tm.shaped t l))∧Below w.heap.size w w':=by
 induction m with
 | zero=>intro t a n c l w ok h;have:=t.size_pos;omega
 | succ m ih=>
   intro t a n c l w ok hm hT hl
   have hsz:=t.size_kids
   have HS0:=Lib.hid (t.shaped_kids l)
   rw [TR_iff] at hT
   have hn:=hT.2.1
   have HLN:=Lib.hid hT.1
   have HIH:=Lib.hid ih
   have HSZ:Hid (Tm.sizes t.kids≤m):=by show _≤_;omega
   have P1:=pure_alloc w (.cells #[.int .i64 t.op,.int .i64 t.num,.slice a n c] 28)
   have N1:=alloc_new w (.cells #[.int .i64 t.op,.int .i64 t.num,.slice a n c] 28)
   have HT:=Lib.hid (hT.below P1)
   clear hT hsz ih
   go_enter Tryd.func40,Tryd.ntmps40
   go_upto_region 1 with fail
   generalize (w.alloc (.cells #[.int .i64 t.op,.int .i64 t.num,.slice a n c] 28))=w1 at *
   have HP1:=Lib.hid P1
   have HN1:=Lib.hid N1
   have x0:=cell_of_arr N1 0
   have x1:=cell_of_arr N1 1
   have x2:=cell_of_arr N1 2
   simp at x0 x1 x2
   clear P1 N1
   cases l with
   | zero=>
     have HE:Hid (Tm.shaped t 0=false):=by show _=_;rw [HS0.out];rfl
     go_quiet (fail)
     go_wp2_with fail
     go_ret
     rw [HE.out]
     exact ⟨rfl,below_drewN HP1.out _⟩
   | succ lv=>
   have hlb:(((lv + 1:Nat):Int)==0)=false:=by simp;omega
   have hcast:((lv + 1:Nat):Int)=(lv:Int) + 1:=by omega
   rw [hcast] at hlb ⊢
   clear hcast
   have HS1:Hid (Tm.shaped t (lv + 1)=(Tm.okN t.op t.num n && Tm.shapedL t.kids lv)):=by show _=_;rw [HS0.out,HLN.out];simp
   have HOK:Hid (Tm.okN t.op t.num n=(((n:Int)==Tm.arity t.op) && if t.op==1 then decide (0≤t.num) && decide (t.num≤1000) else t.num==0)):=rfl
   clear HS0
   by_cases hK:(n:Int)=Tm.arity t.op
   rotate_left
   ·have hKb:((n:Int) !=Tm.arity t.op)=true:=by simpa using hK
    have HE:Hid (Tm.shaped t (lv + 1)=false):=by show _=_;rw [HS1.out,HOK.out];simp [hK]
    go_quiet ((go_at_call 60;go_must (exact quiet_at (arity_any t.op _) ⟨_,rfl⟩)))
    go_wp2_with fail
    go_ret
    rw [HE.out]
    exact ⟨rfl,below_drewN HP1.out _⟩
   have hKb:((n:Int) !=Tm.arity t.op)=false:=by simpa using hK
   by_cases h1:t.op=1
   ·have h1b:(t.op==1)=true:=by simpa using h1
    have h1c:(t.op !=1)=false:=by simpa using h1
    by_cases hp:t.num < 0
    ·have HE:Hid (Tm.shaped t (lv + 1)=false):=by
      show _=_;rw [HS1.out,HOK.out,h1b];simp;omega
     clear hK h1
     go_quiet ((go_at_call 60;go_must (exact quiet_at (arity_any t.op _) ⟨_,rfl⟩)))
     go_wp2_with fail
     go_ret
     rw [HE.out]
     exact ⟨rfl,below_drewN HP1.out _⟩
    have hpb:decide (t.num < 0)=false:=by simpa using hp
    by_cases hq:1000 < t.num
    ·have HE:Hid (Tm.shaped t (lv + 1)=false):=by
      show _=_;rw [HS1.out,HOK.out,h1b];simp;omega
     clear hK h1
     go_quiet ((go_at_call 60;go_must (exact quiet_at (arity_any t.op _) ⟨_,rfl⟩)))
     go_wp2_with fail
     go_ret
     rw [HE.out]
     exact ⟨rfl,below_drewN HP1.out _⟩
    have hqb:decide (1000 < t.num)=false:=by simpa using hq
    have HEQ0:Hid (Tm.shaped t (lv + 1)=Tm.shapedL t.kids lv):=by
     show _=_;rw [HS1.out,HOK.out,h1b];simp [hK];omega
    clear hK h1 HS1 HOK
    go_quiet ((go_at_call 60;go_must (exact quiet_at (arity_any t.op _) ⟨_,rfl⟩)))
    clear hpb hqb h1b h1c hKb
    have HP2:=Lib.hid (below_drewN HP1.out nq)
    have HN2:Hid ((w1.drewN nq).heap[w.heap.size]?=some (.cells #[.int .i64 t.op,.int .i64 t.num,.slice a n c] 28 (0,0))):=HN1.out
    have HT2:Hid (TL ok (w1.drewN nq) t.kids a n):=HT.out.keep fun b hb _=>⟨rfl,hb⟩
    clear x0 x1 x2 HP1 HN1 HT
    generalize w1.drewN nq=w2 at *
    have N2:=HN2.out
    have x0:=cell_of_arr N2 0
    have x1:=cell_of_arr N2 1
    have x2:=cell_of_arr N2 2
    simp at x0 x1 x2
    clear N2
    go_wp2_with fail
    clear x0 x1 x2
    go_loopw [46] (fun i W=>∃ j:Nat,i=.int .i64 j∧j≤n∧Tm.shapedL t.kids lv=Tm.shapedL (t.kids.drop j) lv∧Below w2.heap.size w2 W) (fun i _=>n - (intOf i).toNat)
    case atStart=>exact ⟨0,rfl,by omega,rfl,Below.refl _ _⟩
    case round=>
     obtain ⟨j,rfl,hj,hcj,hB⟩:=hrel
     by_cases hjn:j < n
     ·have hjl:j < t.kids.length:=by have:=HLN.out;omega
      obtain ⟨b,o,an,nn,cc,hea,hb,c0,c1,c2,ht⟩:=(HT2.out.below hB).2.2 j hjl
      subst hea
      have PA:=pure_alloc wr (.cells #[.int .i64 t.kids[j].op,.int .i64 t.kids[j].num,.slice an nn cc] 28)
      have hk1:t.kids[j].size≤m:=Nat.le_trans (Tm.size_get hjl) HSZ.out
      have HCL:=Lib.hid (HIH.out t.kids[j] an nn cc lv _ ok hk1 (ht.below PA) (by omega))
      have HEQ:=Lib.hid (hcj.trans (Tm.shapedL_step hjl lv))
      have HB:=Lib.hid (hB.trans (PA.mono hB.size))
      clear hcj hB ht PA hk1
      generalize t.kids[j]=k at *
      have hlt:(j:Int) < n:=by omega
      go_wp2_with fail
      refine HCL.out.mono ?_
      rintro e w3 ⟨rfl,hw3⟩
      have HB3:=Lib.hid (HB.out.trans (hw3.mono HB.out.size))
      clear hw3 c0 c1 c2 HCL HB
      cases hr:Tm.shaped k lv
      ·rw [hr] at HEQ
       have HE:=Lib.hid (HEQ0.out.trans (HEQ.out.trans (Bool.false_and _)))
       clear HEQ hr
       go_wp2_with fail
       go_ret
       rw [HE.out]
       exact ⟨rfl,pure_trans HP2.out HB3.out⟩
      ·rw [hr] at HEQ
       have HE:=Lib.hid (HEQ.out.trans (Bool.true_and _))
       clear HEQ hr
       go_wp2_with fail
       go_roundw
       case rel=>exact ⟨j + 1,by go_num,by omega,HE.out,HB3.out⟩
       case measure=>simp [intOf];omega
     ·have hjn':¬ ((j:Int) < n):=by omega
      have HE:=Lib.hid (HEQ0.out.trans (hcj.trans (Tm.shapedL_end (by have:=HLN.out;omega) lv)))
      have HB:=Lib.hid (pure_trans HP2.out hB)
      clear hB hcj
      go_wp2_with fail
      go_ret
      rw [HE.out]
      exact ⟨rfl,HB.out⟩
   have h1b:(t.op==1)=false:=by simpa using h1
   have h1c:(t.op !=1)=true:=by simpa using h1
   by_cases h0:t.num=0
   rotate_left
   ·have h0b:(t.num !=0)=true:=by simpa using h0
    have HE:Hid (Tm.shaped t (lv + 1)=false):=by
     show _=_;rw [HS1.out,HOK.out,h1b];simp [h0]
    clear hK h1 h0
    go_quiet ((go_at_call 60;go_must (exact quiet_at (arity_any t.op _) ⟨_,rfl⟩)))
    go_wp2_with fail
    go_ret
    rw [HE.out]
    exact ⟨rfl,below_drewN HP1.out _⟩
   have h0b:(t.num !=0)=false:=by simpa using h0
   have HEQ0:Hid (Tm.shaped t (lv + 1)=Tm.shapedL t.kids lv):=by
    show _=_;rw [HS1.out,HOK.out,h1b];simp [hK,h0]
   clear hK h1 h0 HS1 HOK
   go_quiet ((go_at_call 60;go_must (exact quiet_at (arity_any t.op _) ⟨_,rfl⟩)))
   clear h0b h1b h1c hKb
   have HP2:=Lib.hid (below_drewN HP1.out nq)
   have HN2:Hid ((w1.drewN nq).heap[w.heap.size]?=some (.cells #[.int .i64 t.op,.int .i64 t.num,.slice a n c] 28 (0,0))):=HN1.out
   have HT2:Hid (TL ok (w1.drewN nq) t.kids a n):=HT.out.keep fun b hb _=>⟨rfl,hb⟩
   clear x0 x1 x2 HP1 HN1 HT
   generalize w1.drewN nq=w2 at *
   have N2:=HN2.out
   have x0:=cell_of_arr N2 0
   have x1:=cell_of_arr N2 1
   have x2:=cell_of_arr N2 2
   simp at x0 x1 x2
   clear N2
   go_wp2_with fail
   clear x0 x1 x2
   go_loopw [46] (fun i W=>∃ j:Nat,i=.int .i64 j∧j≤n∧Tm.shapedL t.kids lv=Tm.shapedL (t.kids.drop j) lv∧Below w2.heap.size w2 W) (fun i _=>n - (intOf i).toNat)
   case atStart=>exact ⟨0,rfl,by omega,rfl,Below.refl _ _⟩
   case round=>
    obtain ⟨j,rfl,hj,hcj,hB⟩:=hrel
    by_cases hjn:j < n
    ·have hjl:j < t.kids.length:=by have:=HLN.out;omega
     obtain ⟨b,o,an,nn,cc,hea,hb,c0,c1,c2,ht⟩:=(HT2.out.below hB).2.2 j hjl
     subst hea
     have PA:=pure_alloc wr (.cells #[.int .i64 t.kids[j].op,.int .i64 t.kids[j].num,.slice an nn cc] 28)
     have hk1:t.kids[j].size≤m:=Nat.le_trans (Tm.size_get hjl) HSZ.out
     have HCL:=Lib.hid (HIH.out t.kids[j] an nn cc lv _ ok hk1 (ht.below PA) (by omega))
     have HEQ:=Lib.hid (hcj.trans (Tm.shapedL_step hjl lv))
     have HB:=Lib.hid (hB.trans (PA.mono hB.size))
     clear hcj hB ht PA hk1
     generalize t.kids[j]=k at *
     have hlt:(j:Int) < n:=by omega
     go_wp2_with fail
     refine HCL.out.mono ?_
     rintro e w3 ⟨rfl,hw3⟩
     have HB3:=Lib.hid (HB.out.trans (hw3.mono HB.out.size))
     clear hw3 c0 c1 c2 HCL HB
     cases hr:Tm.shaped k lv
     ·rw [hr] at HEQ
      have HE:=Lib.hid (HEQ0.out.trans (HEQ.out.trans (Bool.false_and _)))
      clear HEQ hr
      go_wp2_with fail
      go_ret
      rw [HE.out]
      exact ⟨rfl,pure_trans HP2.out HB3.out⟩
     ·rw [hr] at HEQ
      have HE:=Lib.hid (HEQ.out.trans (Bool.true_and _))
      clear HEQ hr
      go_wp2_with fail
      go_roundw
      case rel=>exact ⟨j + 1,by go_num,by omega,HE.out,HB3.out⟩
      case measure=>simp [intOf];omega
    ·have hjn':¬ ((j:Int) < n):=by omega
     have HE:=Lib.hid (HEQ0.out.trans (hcj.trans (Tm.shapedL_end (by have:=HLN.out;omega) lv)))
     have HB:=Lib.hid (pure_trans HP2.out hB)
     clear hB hcj
     go_wp2_with fail
     go_ret
     rw [HE.out]
     exact ⟨rfl,HB.out⟩
set_option maxHeartbeats 400000 in
theorem validR_any (t:Tm) (a:Option Addr) (n c:Nat) (w:World) (ok:Nat→Prop) (hT:TR ok w t a n) (hsz:t.size≤1000000000):
 Calls Tryd.prog 19 #[.agg #[.int .i64 t.op,.int .i64 t.num,.slice a n c]] w fun e w'=>e=.returned (.bool (Tm.valid t))∧Below w.heap.size w w':=by
 have P1:=pure_alloc w (.cells #[.int .i64 t.op,.int .i64 t.num,.slice a n c] 28)
 have N1:=alloc_new w (.cells #[.int .i64 t.op,.int .i64 t.num,.slice a n c] 28)
 have HT:=Lib.hid (hT.below P1)
 have HV:Hid (Tm.valid t=(decide (t.size≤2000) && Tm.shaped t 40)):=rfl
 clear hT
 go_enter Tryd.func19,Tryd.ntmps19
 go_upto_region 1 with fail
 generalize (w.alloc (.cells #[.int .i64 t.op,.int .i64 t.num,.slice a n c] 28))=w1 at *
 have HP1:=Lib.hid P1
 have HN1:=Lib.hid N1
 have x0:=cell_of_arr N1 0
 have x1:=cell_of_arr N1 1
 have x2:=cell_of_arr N1 2
 simp at x0 x1 x2
 clear P1 N1
 go_wp2_with fail
 refine (sizeR_any t.size t a n c w1 ok (Nat.le_refl _) HT.out hsz).mono ?_
 rintro e w2 ⟨rfl,hw2⟩
 have HP2:=Lib.hid (pure_trans HP1.out hw2)
 have HT2:=Lib.hid (HT.out.below hw2)
 have N2:=Below.keep hw2 HN1.out (lt_of_block HN1.out)
 clear hw2 x0 x1 x2
 have x0:=cell_of_arr N2 0
 have x1:=cell_of_arr N2 1
 have x2:=cell_of_arr N2 2
 simp at x0 x1 x2
 clear N2
 by_cases hs:t.size≤2000
 ·have HE:Hid (Tm.valid t=Tm.shaped t 40):=by show _=_;rw [HV.out];simp [hs]
  have hs':decide (((t.size:Nat):Int)≤2000)=true:=by simp;omega
  have HSH:=Lib.hid (shaped_any t.size t a n c 40 w2 ok (Nat.le_refl _) HT2.out (by omega))
  generalize t.size=sz at *
  go_wp2_with fail
  refine HSH.out.mono ?_
  rintro e w3 ⟨rfl,hw3⟩
  have HP3:=Lib.hid (pure_trans HP2.out hw3)
  clear hw3
  go_wp2_with fail
  go_ret
  rw [HE.out]
  exact ⟨rfl,HP3.out⟩
 ·have HE:Hid (Tm.valid t=false):=by show _=_;rw [HV.out];simp [hs]
  have hs':decide (((t.size:Nat):Int)≤2000)=false:=by simp;omega
  generalize t.size=sz at *
  go_wp2_with fail
  go_ret
  rw [HE.out]
  exact ⟨rfl,HP2.out⟩
end Go.Proofs.YtkgbjoepjcenlaaDoor
namespace Go.Proofs.YtkgbjoepjcenlaaDoor
open Go.RowKit
structure Elem where
 op:Int
 num:Int
 an:Option Addr
 nn:Nat
 cc:Nat
def Elem.cells (e:Elem):List Value:=[.int .i64 e.op,.int .i64 e.num,.slice e.an e.nn e.cc]
def okV (lo X:Nat) (v:Value) (b:Nat):Prop:=lo≤b∧b≠X∧v.ownBlock≠some b
structure OutT (W:World) (base lo X:Nat) (v:Value) (es:List Elem) (ts:List Tm):Prop where
 len:es.length=ts.length
 row:W.ownsRow base 28 3 v ts.length (es.flatMap Elem.cells)
 each:∀ i (h:i < es.length) (h':i < ts.length),es[i].op=ts[i].op∧(es[i].num=ts[i].num∧es[i].nn≤es[i].cc)∧TR (okV lo X v) W ts[i] es[i].an es[i].nn
theorem OutT.nil (W:World) (base lo X:Nat):OutT W base lo X (.slice none 0 0) [] []:=⟨rfl,⟨rfl,.inl ⟨rfl,rfl⟩⟩,fun i h=>by simp at h⟩
theorem OutT.pure {W W':World} {base lo X:Nat} {v:Value} {es:List Elem} {ts:List Tm} (h:OutT W base lo X v es ts) (hB:Below W.heap.size W W'):OutT W' base lo X v es ts:=
 ⟨h.len,own_pure h.row hB,fun i h1 h2=>⟨(h.each i h1 h2).1,(h.each i h1 h2).2.1,(h.each i h1 h2).2.2.below hB⟩⟩
theorem OutT.var {W W':World} {base lo X:Nat} {v:Value} {es:List Elem} {ts:List Tm} (h:OutT W base lo X v es ts) (hk:∀ k,k≠X→k < W.heap.size→W'.heap[k]?=W.heap[k]?) (hX:v.ownBlock≠some X):OutT W' base lo X v es ts:=
 ⟨h.len,own_keep h.row (fun g hg=>hk g (fun e=>hX (e ▸ hg)) (own_lt h.row hg).1),fun i h1 h2=>⟨(h.each i h1 h2).1,(h.each i h1 h2).2.1,(h.each i h1 h2).2.2.keep fun b hb hl=>⟨hk b hb.2.1 hl,hb⟩⟩⟩
theorem inf28:(Tryd.prog.info? 28).map (fun i=>(i.zero,i.size,i.bytes))=some (some (.agg #[.int .i64 0,.int .i64 0,.slice none 0 0]),3,40):=by kernel_rfl
theorem flatMap_len (es:List Elem):(es.flatMap Elem.cells).length=es.length * 3:=by
 induction es with
 | nil=>rfl
 | cons e es ih=>simp only [List.flatMap_cons,List.length_append,ih,List.length_cons];simp [Elem.cells];omega
theorem OutT.push {W:World} {base lo X:Nat} {v:Value} {es:List Elem} {ts:List Tm} (h:OutT W base lo X v es ts) {a c:Nat} {e:Elem} {t:Tm} (ha:W.heap[a]?=some (.cells #[.int .i64 e.op,.int .i64 e.num,.slice e.an e.nn e.cc] 28 (0,0))) (ho:e.op=t.op) (hn:e.num=t.num) (hcc:e.nn≤e.cc) (he:TR (okV lo X v) W t e.an e.nn) (hsz:ts.length≤1000000) (hb:base≤W.heap.size) (hX:v.ownBlock≠some X) (hXl:X < W.heap.size):
 ∃ v' W',(Builtin.append_ #[23,23] 23 #[v,.slice (some ⟨a,0,none⟩) 1 c]).run Tryd.prog W=.ok v' W'∧OutT W' base lo X v' (es ++ [e]) (ts ++ [t])∧W.grownBy W' v.ownBlock∧(v'.ownBlock=v.ownBlock∨v'.ownBlock=some W.heap.size)∧v'.ownBlock≠some X:=by
 obtain ⟨i0,hi,hz0,hz1,hz2⟩:=info_parts inf28
 have c0:=cell_of_arr ha 0
 have c1:=cell_of_arr ha 1
 have c2:=cell_of_arr ha 2
 simp at c0 c1 c2
 obtain ⟨v',W',h2,h3,h4,_,h5⟩:=run_append_own_at (P:=Tryd.prog) W base 23 23 28 i0 _ 3 40 Tryd.underlying23 hi hz0 hz1 hz2 rfl (by omega) v ts.length _ h.row ⟨a,0,none⟩ 1 c e.cells rfl (fun j u hu=>by
  rcases (show j=0∨j=1∨j=2∨3≤j by omega) with rfl | rfl | rfl | hj
  ·simp [Elem.cells] at hu;subst hu;exact c0
  ·simp [Elem.cells] at hu;subst hu;exact c1
  ·simp [Elem.cells] at hu;subst hu;exact c2
  ·rw [List.getElem?_eq_none (by simpa [Elem.cells] using hj)] at hu;cases hu) (fun u hu=>by simp [Elem.cells] at hu;rcases hu with rfl | rfl | rfl <;> rfl) (by unfold maxLen;omega) (by omega) hb
 have hk:∀ b,okV lo X v b→b < W.heap.size→W'.heap[b]?=W.heap[b]?∧okV lo X v' b:=fun b hb hl=>⟨h4.block b hl (fun e=>hb.2.2 e.symm),hb.1,hb.2.1,fun e=>by
  rcases h5 with h5 | h5
  ·exact hb.2.2 (h5 ▸ e)
  ·rw [h5] at e;cases e;omega⟩
 refine ⟨v',W',h2,⟨by simp [h.len],?_,fun i h1 h2=>?_⟩,h4,h5,?_⟩
 ·rw [List.length_append,List.flatMap_append]
  simpa [Elem.cells] using h3
 ·by_cases hi:i < es.length
  ·simp only [List.getElem_append_left hi,List.getElem_append_left (show i < ts.length by rw [← h.len];exact hi)]
   have:=h.each i hi (by rw [← h.len];exact hi)
   exact ⟨this.1,this.2.1,this.2.2.keep hk⟩
  ·have e1:i=es.length:=by simp at h1;omega
   subst e1
   rw [List.getElem_append_right (by omega)]
   have e2:(ts ++ [t])[es.length]'h2=t:=by
    rw [List.getElem_append_right (by rw [h.len];omega)]
    simp
   simp only [Nat.sub_self,List.getElem_cons_zero]
   rw [e2]
   exact ⟨ho,⟨hn,hcc⟩,he.keep hk⟩
 ·rcases h5 with h5 | h5
  ·rw [h5];exact hX
  ·rw [h5];simp;omega
theorem OutT.get {W:World} {base lo X:Nat} {v:Value} {es:List Elem} {ts:List Tm} (h:OutT W base lo X v es ts) (hne:0 < ts.length):∃ g cap,v=.slice (some ⟨g,0,none⟩) ts.length cap∧(base≤g∧ts.length≤cap)∧(∃ cur,W.heap[g]?=some (.cells cur 28 (0,0)))∧∀ i (h0:i < es.length) (h1:i < ts.length),W.cell? ⟨g,i * 3,none⟩=some (.int .i64 ts[i].op)∧W.cell? ⟨g,i * 3 + 1,none⟩=some (.int .i64 ts[i].num)∧W.cell? ⟨g,i * 3 + 2,none⟩=some (.slice es[i].an es[i].nn es[i].cc)∧TR (okV lo X v) W ts[i] es[i].an es[i].nn∧es[i].nn≤es[i].cc:=by
 obtain ⟨g,cap,rfl,_,_⟩:=World.ownsRow.form h.row hne
 have hb:=own_lt h.row (g:=g) rfl
 have hcap:ts.length≤cap:=by
  rcases h.row.2 with ⟨hv,_⟩ | ⟨g',cap',cur,hv,_,_,hc,_⟩
  ·cases hv
  ·simp only [Value.slice.injEq] at hv
   omega
 refine ⟨g,cap,rfl,⟨hb.2.1,hcap⟩,hb.2.2,fun i h2 h1=>?_⟩
 rcases h.row.2 with ⟨hv,_⟩ | ⟨g',cap',cur,hv,_,hg,_,_,_,ht⟩
 ·cases hv
 ·simp only [Value.slice.injEq,Option.some.injEq,Addr.mk.injEq,and_true,true_and] at hv
  obtain ⟨rfl,rfl⟩:=hv
  have hcell:∀ (k:Nat) (u:Value),(es.flatMap Elem.cells)[k]?=some u→W.cell? ⟨g,k,none⟩=some u:=fun k u hk=>by
   rw [cell_of_arr hg]
   rw [← ht,List.getElem?_take] at hk
   split at hk
   ·simpa using hk
   ·cases hk
  have hat:∀ (es:List Elem) (i:Nat) (h:i < es.length) (j:Nat),j < 3→(es.flatMap Elem.cells)[i * 3 + j]?=(es[i].cells)[j]?:=by
   intro es
   induction es with
   | nil=>intro i h;simp at h
   | cons e es ih=>
     intro i h j hj
     rw [List.flatMap_cons]
     cases i with
     | zero=>rw [List.getElem?_append_left (by simp [Elem.cells];omega)];simp
     | succ i=>
       rw [List.getElem?_append_right (by simp [Elem.cells];omega)]
       have:(i + 1) * 3 + j - e.cells.length=i * 3 + j:=by simp [Elem.cells];omega
       rw [this,ih i (by simpa using h) j hj]
       simp
  obtain ⟨e1,e2,e3⟩:=h.each i h2 h1
  refine ⟨hcell _ _ ?_,hcell _ _ ?_,hcell _ _ ?_,e3,e2.2⟩
  ·have:=hat es i h2 0 (by omega);rw [Nat.add_zero] at this;rw [this,← e1];rfl
  ·rw [hat es i h2 1 (by omega),← e2.1];rfl
  ·rw [hat es i h2 2 (by omega)];rfl
theorem OutT.tl {W:World} {base lo X:Nat} {v:Value} {es:List Elem} {ts:List Tm} (h:OutT W base lo X v es ts) (hl:lo≤base) (hsz:ts.length≤1000000):∃ a c,v=.slice a ts.length c∧TL (fun b=>lo≤b) W ts a ts.length∧ts.length≤c:=by
 by_cases hne:0 < ts.length
 ·obtain ⟨g,cap,rfl,hb,_,hc⟩:=h.get hne
  refine ⟨_,cap,rfl,⟨rfl,by omega,fun j hj=>?_⟩,hb.2⟩
  obtain ⟨c0,c1,c2,ht⟩:=hc j (by rw [h.len];exact hj) hj
  exact ⟨g,0,_,_,_,rfl,⟨Nat.le_trans hl hb.1,ht.2⟩,by simpa using c0,by simpa using c1,by simpa using c2,ht.1.imp fun b hb _=>hb.1⟩
 ·have:ts=[]:=List.length_eq_zero_iff.1 (by omega)
  subst this
  obtain ⟨a,c,rfl⟩:=own_form h.row
  exact ⟨a,c,rfl,TL.nil _ _ _,Nat.zero_le _⟩
theorem But.tr {ok ok':Nat→Prop} {X:Nat} {w w':World} (h:But X w w') {t:Tm} {a:Option Addr} {n:Nat} (hT:TR ok w t a n) (hk:∀ b,ok b→b < w.heap.size→b≠X∧ok' b):TR ok' w' t a n:=hT.keep fun b hb hl=>⟨h.block b hl (hk b hb hl).1,(hk b hb hl).2⟩
theorem But.tl {ok ok':Nat→Prop} {X:Nat} {w w':World} (h:But X w w') {l:List Tm} {a:Option Addr} {n:Nat} (hT:TL ok w l a n) (hk:∀ b,ok b→b < w.heap.size→b≠X∧ok' b):TL ok' w' l a n:=hT.keep fun b hb hl=>⟨h.block b hl (hk b hb hl).1,(hk b hb hl).2⟩
def NPost (r:Tm) (w:World) (e:Ending) (w':World):Prop:=∃ a n c,e=.returned (.agg #[.int .i64 r.op,.int .i64 r.num,.slice a n c])∧(TR (fun b=>w.heap.size≤b) w' r a n∧n≤c)∧Below w.heap.size w w'
end Go.Proofs.YtkgbjoepjcenlaaDoor
