/- Joined texts. -/
import Derived.Test.YtkgbjoepjcenlaaDoorKAI
set_option linter.unusedVariables false
set_option linter.unusedSimpArgs false
namespace Go.Proofs.YtkgbjoepjcenlaaDoor
open Go.RowKit Go.Maps
def PPost (l:List Tm) (ok:Nat→Prop) (w:World) (e:Ending) (w':World):Prop:=∃ a n c,e=.returned (.slice a n c)∧TL ok w' l a n∧Below w.heap.size w w'
theorem Tm.parts_eq (C:List Tm) (t:Tm):Tm.parts C t=if t.op=2 then t.kids else if t.op=5 then t.kids.drop 1 else if t.op=4 then (if ((t.kids.head?).map (Tm.builds C)).getD false then t.kids.drop 3 else []) else []:=by cases t;rfl
set_option maxHeartbeats 1600000 in
theorem parts_any (K M:Nat) (C:List Tm) (t:Tm) (a:Option Addr) (n c:Nat) (w:World) (ok:Nat→Prop) (hT:TR ok w t a n) (hnc:n≤c) (hwf:Tm.wf t=true) (hE:Env w) (hK:KB w K M C) (hsz:t.size≤99999):
 Calls Tryd.prog 58 #[.pointer (some ⟨K,0,none⟩),.agg #[.int .i64 t.op,.int .i64 t.num,.slice a n c]] w (PPost (Tm.parts C t) ok w):=by
 have hs1:=t.size_kids
 have P1:=pure_alloc w (.cells #[.int .i64 t.op,.int .i64 t.num,.slice a n c] 28)
 have N1:=alloc_new w (.cells #[.int .i64 t.op,.int .i64 t.num,.slice a n c] 28)
 have HTL:=Lib.hid (TR_iff.1 (hT.below P1))
 have HLN:=Lib.hid (TR_iff.1 hT).1
 have hn:=(TR_iff.1 hT).2.1
 have HE:=Lib.hid (hE.below P1)
 have HK:=Lib.hid (hK.below P1)
 have HWF:=Lib.hid hwf
 have HSZ:Hid (Tm.sizes t.kids≤99999):=by show _≤_;omega
 have HPE:=Lib.hid (Tm.parts_eq C t)
 have hok:=Tm.okN_len (Tm.wf_kids hwf).1
 rw [← HLN.out] at hok
 clear hT hs1 hsz hE hK hwf
 go_enter Tryd.func58,Tryd.ntmps58
 go_upto_region 1 with fail
 generalize (w.alloc (.cells #[.int .i64 t.op,.int .i64 t.num,.slice a n c] 28))=w1 at *
 have HP1:=Lib.hid P1
 have HN1:=Lib.hid N1
 have x0:=cell_of_arr N1 0
 have x1:=cell_of_arr N1 1
 have x2:=cell_of_arr N1 2
 simp at x0 x1 x2
 clear P1 N1
 by_cases h2:t.op=2
 ·have HR:Hid (Tm.parts C t=t.kids):=by show _=_;rw [HPE.out,if_pos h2]
  have h2b:(t.op==2)=true:=by simpa using h2
  clear h2 HPE hok
  go_wp2_with fail
  go_ret
  rw [HR.out]
  exact ⟨_,_,_,rfl,HTL.out,HP1.out⟩
 have h2b:(t.op==2)=false:=by simpa using h2
 by_cases h5:t.op=5
 ·have HR:Hid (Tm.parts C t=t.kids.drop 1):=by show _=_;rw [HPE.out,if_neg h2,if_pos h5]
  have h5b:(t.op==5)=true:=by simpa using h5
  have hn2:n=2:=by rw [h5] at hok;have h3:Tm.arity 5=2:=rfl;omega
  have hk0:0 < t.kids.length:=by have:=HLN.out;omega
  obtain ⟨b,o,hea⟩:∃ b o,a=some ⟨b,o,none⟩:=by
   obtain ⟨b,o,an,nn,cc,hea,_⟩:=HTL.out.2.2 0 hk0
   exact ⟨b,o,hea⟩
  subst hea
  have HDR:=Lib.hid (HTL.out.drop 1)
  have hc1:¬ c=1:=by omega
  have hl0:(1:Int)≤(n:Int):=by omega
  clear h2 h5 HPE hok hn2
  go_wp2_with fail
  go_ret
  rw [HR.out]
  exact ⟨_,_,_,rfl,HDR.out,HP1.out⟩
 have h5b:(t.op==5)=false:=by simpa using h5
 by_cases h4:t.op=4
 rotate_left
 ·have HR:Hid (Tm.parts C t=[]):=by show _=_;rw [HPE.out,if_neg h2,if_neg h5,if_neg h4]
  have h4b:(t.op==4)=false:=by simpa using h4
  clear h2 h5 h4 HPE hok
  go_wp2_with fail
  go_ret
  rw [HR.out]
  exact ⟨_,_,_,rfl,TL.nil _ _ _,HP1.out⟩
 have h4b:(t.op==4)=true:=by simpa using h4
 have hn4:n=4:=by rw [h4] at hok;have h3:Tm.arity 4=4:=rfl;omega
 have hk0:0 < t.kids.length:=by have:=HLN.out;omega
 obtain ⟨b,o,an,nn,cc,hea,hb,c0,c1,c2,ht⟩:=HTL.out.2.2 0 hk0
 subst hea
 simp only [Nat.zero_mul,Nat.add_zero] at c0 c1 c2
 have hhd:t.kids.head?=some t.kids[0]:=by rw [List.head?_eq_getElem?];exact List.getElem?_eq_getElem hk0
 have HR:Hid (Tm.parts C t=if Tm.builds C t.kids[0] then t.kids.drop 3 else []):=by
  show _=_
  rw [HPE.out,if_neg h2,if_neg h5,if_pos h4,hhd];rfl
 have HBD:=Lib.hid (builds_any K M C t.kids[0].size t.kids[0] an nn cc w1 ok (Nat.le_refl _) ht (Tm.wf_kid HWF.out hk0) HE.out HK.out (Nat.le_trans (Tm.size_get hk0) HSZ.out))
 have hl0:(0:Int) < (n:Int):=by omega
 have hl3:(3:Int)≤(n:Int):=by omega
 have hc3:¬ c=3:=by omega
 have HDR:=Lib.hid (HTL.out.drop 3)
 clear h2 h5 h4 HPE hok hn4 hhd ht
 generalize t.kids[0]=k at *
 go_wp2_with fail
 refine HBD.out.mono ?_
 rintro e w2 ⟨rfl,hw2⟩
 have HP2:=Lib.hid (pure_trans HP1.out hw2)
 have HDR2:=Lib.hid (HDR.out.below hw2)
 have N2:=Below.keep hw2 HN1.out (lt_of_block HN1.out)
 clear hw2 c0 c1 c2 x0 x1 x2 HBD
 have x0:=cell_of_arr N2 0
 have x1:=cell_of_arr N2 1
 have x2:=cell_of_arr N2 2
 simp at x0 x1 x2
 clear N2
 cases hbk:Tm.builds C k
 ·rw [hbk] at HR
  have HR2:Hid (Tm.parts C t=[]):=by show _=_;rw [HR.out];rfl
  clear hbk HR
  go_wp2_with fail
  go_ret
  rw [HR2.out]
  exact ⟨_,_,_,rfl,TL.nil _ _ _,HP2.out⟩
 ·rw [hbk] at HR
  have HR2:Hid (Tm.parts C t=t.kids.drop 3):=by show _=_;rw [HR.out];rfl
  clear hbk HR
  go_wp2_with fail
  go_ret
  rw [HR2.out]
  exact ⟨_,_,_,rfl,HDR2.out,HP2.out⟩
end Go.Proofs.YtkgbjoepjcenlaaDoor
namespace Go.Proofs.YtkgbjoepjcenlaaDoor
open Go.RowKit Go.Maps
theorem own_last3 {w:World} {base e g k cap:Nat} {ys:List Value} {a0 b0 c0:Value} (h:w.ownsRow base e 3 (.slice (some ⟨g,0,none⟩) (k + 1) cap) (k + 1) (ys ++ [a0,b0,c0])) (hy:ys.length=k * 3) (a b c:Value) (W:World)
 (hW:W=((w.setCell ⟨g,k * 3,none⟩ a).setCell ⟨g,k * 3 + 1,none⟩ b).setCell ⟨g,k * 3 + 2,none⟩ c):
 W.ownsRow base e 3 (.slice (some ⟨g,0,none⟩) (k + 1) cap) (k + 1) (ys ++ [a,b,c]):=by
 obtain ⟨h1,h2⟩:=h
 refine ⟨by simp at h1 ⊢;omega,?_⟩
 rcases h2 with ⟨hv,_⟩ | ⟨g',cap',cur,hv,hb,hg,hn,hm,hs,ht⟩
 ·cases hv
 ·simp only [Value.slice.injEq,Option.some.injEq,Addr.mk.injEq,and_true,true_and] at hv
  obtain ⟨rfl,rfl⟩:=hv
  have hg':=set_arr (set_arr (set_arr hg (k * 3) a) (k * 3 + 1) b) (k * 3 + 2) c
  rw [← hW] at hg'
  refine .inr ⟨g,cap,_,rfl,hb,hg',hn,hm,by simpa using hs,?_⟩
  have hcs:(k + 1) * 3≤cur.size:=by rw [hs];exact Nat.mul_le_mul_right 3 hn
  apply List.ext_getElem?
  intro i
  have hti:=congrArg (fun l:List Value=>l[i]?) ht
  simp only [List.getElem?_take] at hti ⊢
  by_cases hi:i < (k + 1) * 3
  ·rw [if_pos hi] at hti ⊢
   simp only [Array.getElem?_toList,Array.getElem?_setIfInBounds] at hti ⊢
   have hsz:k * 3 < cur.size∧k * 3 + 1 < cur.size∧k * 3 + 2 < cur.size:=by omega
   by_cases e2:k * 3 + 2=i
   ·subst e2
    rw [List.getElem?_append_right (by omega),hy]
    simp [hsz.2.2,show k * 3 + 2 - k * 3=2 by omega]
   ·by_cases e1:k * 3 + 1=i
    ·subst e1
     rw [List.getElem?_append_right (by omega),hy]
     simp [hsz.2.1,show k * 3 + 1 - k * 3=1 by omega]
    ·by_cases e0:k * 3=i
     ·subst e0
      rw [List.getElem?_append_right (by omega),hy]
      simp [hsz.1]
     ·have hlt:i < k * 3:=by omega
      rw [List.getElem?_append_left (by omega)] at hti ⊢
      simp [e2,e1,e0,hti]
  ·rw [if_neg hi,List.getElem?_eq_none (by simp;omega)]
theorem OutT.fill {W:World} {base lo X:Nat} {g cap:Nat} {es:List Elem} {ts:List Tm} {z:Elem} {tz:Tm} (h:OutT W base lo X (.slice (some ⟨g,0,none⟩) (ts.length + 1) cap) (es ++ [z]) (ts ++ [tz])) {e:Elem} {t:Tm} (ho:e.op=t.op) (hn:e.num=t.num) (hcc:e.nn≤e.cc) (he:TR (okV lo X (.slice (some ⟨g,0,none⟩) (ts.length + 1) cap)) W t e.an e.nn) (W':World)
 (hW:W'=((W.setCell ⟨g,ts.length * 3,none⟩ (.int .i64 e.op)).setCell ⟨g,ts.length * 3 + 1,none⟩ (.int .i64 e.num)).setCell ⟨g,ts.length * 3 + 2,none⟩ (.slice e.an e.nn e.cc)):
 OutT W' base lo X (.slice (some ⟨g,0,none⟩) (ts.length + 1) cap) (es ++ [e]) (ts ++ [t]):=by
 have hle:es.length=ts.length:=by have:=h.len;simpa using this
 have hk:∀ b,okV lo X (.slice (some ⟨g,0,none⟩) (ts.length + 1) cap) b→b < W.heap.size→W'.heap[b]?=W.heap[b]?∧okV lo X (.slice (some ⟨g,0,none⟩) (ts.length + 1) cap) b:=fun b hb _=>by
  refine ⟨?_,hb⟩
  have hne:b≠g:=fun e=>hb.2.2 (by rw [e];rfl)
  rw [hW,Below.heap_setCell _ _ _ _ hne,Below.heap_setCell _ _ _ _ hne,Below.heap_setCell _ _ _ _ hne]
 refine ⟨by simp [hle],?_,fun i h1 h2=>?_⟩
 ·have hr:=h.row
  rw [List.flatMap_append] at hr ⊢
  simp only [List.length_append,List.length_cons,List.length_nil,Nat.zero_add,List.flatMap_cons,List.flatMap_nil,List.append_nil,Elem.cells] at hr ⊢
  exact own_last3 hr (by rw [flatMap_len,hle]) _ _ _ W' hW
 ·by_cases hi:i < es.length
  ·have h3:=h.each i (by simp;omega) (by simp;omega)
   simp only [List.getElem_append_left hi,List.getElem_append_left (show i < ts.length by omega)] at h3 ⊢
   exact ⟨h3.1,h3.2.1,h3.2.2.keep hk⟩
  ·have e1:i=es.length:=by simp at h1;omega
   subst e1
   rw [List.getElem_append_right (by omega)]
   have e2:(ts ++ [t])[es.length]'h2=t:=by
    rw [List.getElem_append_right (by omega)]
    simp [hle]
   simp only [Nat.sub_self,List.getElem_cons_zero]
   rw [e2]
   exact ⟨ho,⟨hn,hcc⟩,he.keep hk⟩
structure KN (W:World) (B K M:Nat) (v:Value) (es:List Elem) (C:List Tm):Prop where
 blk:W.heap[K]?=some (.cells #[v,.map (some M)] 75 (0,0))
 out:OutT W B B K v es C
 map:∃ n D,W.ownsMap Tryd.prog 9 (plainElem Tryd.prog 4) M n D∧n≤C.length∧MapOf D C
 lt:K < B∧M < B∧K≠M∧B≤W.heap.size
theorem KN.kb {W:World} {B K M:Nat} {v:Value} {es:List Elem} {C:List Tm} (h:KN W B K M v es C) (hC:C.length≤100000):KB W K M C:=by
 obtain ⟨n,D,h1,h2,h3⟩:=h.map
 exact ⟨⟨v,h.blk⟩,n,D,h1,by omega,h3⟩
theorem KN.pure {W W':World} {B K M:Nat} {v:Value} {es:List Elem} {C:List Tm} (h:KN W B K M v es C) (k:Below W.heap.size W W'):KN W' B K M v es C:=by
 obtain ⟨n,D,h1,h2,h3⟩:=h.map
 exact ⟨Below.keep k h.blk (lt_of_block h.blk),h.out.pure k,⟨n,D,own_map_keep h1 (k.block M (own_map_lt h1)),h2,h3⟩,h.lt.1,h.lt.2.1,h.lt.2.2.1,Nat.le_trans h.lt.2.2.2 k.size⟩
theorem KN.ownX {W:World} {B K M:Nat} {v:Value} {es:List Elem} {C:List Tm} (h:KN W B K M v es C):v.ownBlock≠some K∧v.ownBlock≠some M:=by
 have:=h.lt
 exact ⟨fun e=>by have:=(own_lt h.out.row e).2.1;omega,fun e=>by have:=(own_lt h.out.row e).2.1;omega⟩
def AddPost (B K M:Nat) (v:Value) (C:List Tm) (t:Tm) (w:World) (e:Ending) (w':World):Prop:=∃ v' es',e=.returned (.bool (decide (t ∉ C)))∧KN w' B K M v' es' (if t ∈ C then C else C ++ [t])∧
 (∀ b,okV B K v b→b < w.heap.size→w'.heap[b]?=w.heap[b]?∧okV B K v' b)∧∀ n,n≤K→n≤M→Below n w w'
end Go.Proofs.YtkgbjoepjcenlaaDoor
namespace Go.Proofs.YtkgbjoepjcenlaaDoor
open Go.RowKit Go.Maps
theorem OutT.from {W W':World} {B X:Nat} {v:Value} {es:List Elem} {ts:List Tm} (h:OutT W B B X v es ts) (hk:∀ b,B≤b→b < W.heap.size→W'.heap[b]?=W.heap[b]?):OutT W' B B X v es ts:=
 ⟨h.len,own_keep h.row (fun g hg=>hk g (own_lt h.row hg).2.1 (own_lt h.row hg).1),fun i h1 h2=>⟨(h.each i h1 h2).1,(h.each i h1 h2).2.1,(h.each i h1 h2).2.2.keep fun b hb hl=>⟨hk b hb.1 hl,hb⟩⟩⟩
theorem store_set {w:World} {K:Nat} {x y:Value} (h:w.heap[K]?=some (.cells #[x,y] 75 (0,0))) (x':Value):(w.setCell ⟨K,0,none⟩ x').heap[K]?=some (.cells #[x',y] 75 (0,0)):=by rw [set_arr h];rfl
theorem grow3 {w W:World} {g:Nat} {k0 k1 k2:Nat} {a b c:Value} (hW:W=((w.setCell ⟨g,k0,none⟩ a).setCell ⟨g,k1,none⟩ b).setCell ⟨g,k2,none⟩ c):(∀ k,k≠g→W.heap[k]?=w.heap[k]?)∧W.heap.size=w.heap.size∧∀ n u,n≤g→Below n u w→Below n u W:=by
 refine ⟨fun k h=>?_,by rw [hW];simp [World.setCell],fun n u h2 h=>?_⟩
 ·rw [hW,Below.heap_setCell _ _ _ _ h,Below.heap_setCell _ _ _ _ h,Below.heap_setCell _ _ _ _ h]
 ·rw [hW];exact ((h.setCell h2 _).setCell h2 _).setCell h2 _
theorem below_grownD' {n b:Nat} {w W W':World} {e size:Nat} {v:Value} {k:Nat} {xs:List Value} (h1:Below n w W) (hn:n≤W.heap.size) (hown:W.ownsRow b e size v k xs) (hb:n≤b) (hgr:W.grownBy W' v.ownBlock):Below n w W':=
 ⟨hgr.os.trans h1.os,hgr.tape.trans h1.tape,hgr.output.trans h1.output,Nat.le_trans h1.size hgr.size,fun i hi=>(hgr.block i (by omega) fun e=>by have:=(own_lt hown e.symm).2.1;omega).trans (h1.block i hi)⟩
set_option maxRecDepth 100000 in
set_option maxHeartbeats 3200000 in
theorem add_any (B K M:Nat) (v:Value) (es:List Elem) (C:List Tm) (t:Tm) (a:Option Addr) (n c:Nat) (w:World) (hKN:KN w B K M v es C) (hT:TR (okV B K v) w t a n) (hnc:n≤c) (hwf:Tm.wf t=true) (hE:Env w) (hsz:t.size≤99999) (hC:C.length≤1000):
 Calls Tryd.prog 57 #[.pointer (some ⟨K,0,none⟩),.agg #[.int .i64 t.op,.int .i64 t.num,.slice a n c]] w (AddPost B K M v C t w):=by
 have P1:=pure_alloc w (.cells #[.int .i64 t.op,.int .i64 t.num,.slice a n c] 28)
 have N1:=alloc_new w (.cells #[.int .i64 t.op,.int .i64 t.num,.slice a n c] 28)
 have HT:=Lib.hid (hT.below P1)
 have HE:=Lib.hid (hE.below P1)
 have HKN:=Lib.hid (hKN.pure P1)
 have HKN0:=Lib.hid hKN
 have HWF:=Lib.hid hwf
 have HSZ:=Lib.hid hsz
 have HM1:=Lib.hid (Tm.text_len t hwf)
 have HBL:=Lib.hid hKN.lt
 clear hKN hT hE hwf hsz
 go_enter Tryd.func57,Tryd.ntmps57
 go_upto_region 1 with fail
 generalize (w.alloc (.cells #[.int .i64 t.op,.int .i64 t.num,.slice a n c] 28))=w1 at *
 have HP1:=Lib.hid P1
 have HN1:=Lib.hid N1
 have x0:=cell_of_arr N1 0
 have x1:=cell_of_arr N1 1
 have x2:=cell_of_arr N1 2
 simp at x0 x1 x2
 clear P1 N1
 go_wp2_with fail
 refine (text_any t.size t a n c w1 _ (Nat.le_refl _) HT.out HWF.out HE.out (by have:=HSZ.out;omega)).mono ?_
 rintro e w2 ⟨rfl,hw2⟩
 simp only [Str]
 have HP2:=Lib.hid (pure_trans HP1.out hw2)
 have HKN2:=Lib.hid (HKN.out.pure hw2)
 have HT2:=Lib.hid (HT.out.below hw2)
 have HN2:=Lib.hid (Below.keep hw2 HN1.out (lt_of_block HN1.out))
 clear hw2 x0 x1 x2 HKN HT HE HP1 HN1
 obtain ⟨nm,D,hmap,hnm,hD⟩:=HKN2.out.map
 have k0:=cell_of_arr HKN2.out.blk 0
 have k1:=cell_of_arr HKN2.out.blk 1
 simp at k0 k1
 have HMAP:=Lib.hid hmap
 have HD:=Lib.hid hD
 have hz2:Hid ((zeroValue 4).run Tryd.prog w2=.ok (.bool false) w2):=by show _=_;kernel_rfl
 have hnm2:nm < maxLen:=by unfold maxLen;omega
 clear hmap hD
 by_cases hin:t ∈ C
 ·have HAT:Hid (D.atKey (.string (Tm.text t)) (.lit (.bool false))=.lit (.bool true)):=by show _=_;rw [HD.out t HWF.out];simp [hin]
  have HIN:=Lib.hid hin
  clear hin
  go_wp2_with (at_lookup;refine wpList_lookup_bool _ rfl _ _ 73 rfl 9 4 (string_keyed Tryd.underlying9) Tryd.underlying73 Tryd.underlying4 hz2.out M nm D rfl HMAP.out _ _ rfl (keyStr (Tm.text t) (by have h1:=HM1.out;have h2:=HSZ.out;omega)) true HAT.out ?_)
  go_ret
  exact ⟨v,es,by simp [HIN.out],by rw [if_pos HIN.out];exact HKN2.out,fun b hb hl=>⟨HP2.out.block b hl,hb⟩,fun n h1 _=>HP2.out.mono (by have h3:=HBL.out;omega)⟩
 have HAT:Hid (D.atKey (.string (Tm.text t)) (.lit (.bool false))=.lit (.bool false)):=by show _=_;rw [HD.out t HWF.out];simp [hin]
 have HIN:=Lib.hid hin
 clear hin
 have N2:=HN2.out
 have x0:=cell_of_arr N2 0
 have x1:=cell_of_arr N2 1
 have x2:=cell_of_arr N2 2
 simp at x0 x1 x2
 clear N2
 go_upto_region 5 with (first | (at_lookup;refine wpList_lookup_bool _ rfl _ _ 73 rfl 9 4 (string_keyed Tryd.underlying9) Tryd.underlying73 Tryd.underlying4 hz2.out M nm D rfl HMAP.out _ _ rfl (keyStr (Tm.text t) (by have h1:=HM1.out;have h2:=HSZ.out;omega)) false HAT.out ?_) | (at_mapUpdate;refine wpList_mapUpdate_own (H:=Unit) _ rfl _ _ _ 73 rfl 9 4 (string_keyed Tryd.underlying9) Tryd.underlying73 (plainElem Tryd.prog 4) M nm D rfl HMAP.out hnm2 _ _ _ rfl rfl (keyStr (Tm.text t) (by have h1:=HM1.out;have h2:=HSZ.out;omega)) (.lit (.bool true)) [] (plainElem_bool Tryd.underlying4 true) ?_;intro w3 hown3 hgr3))
 have hlt:=HBL.out
 have hbx:w.heap.size < w2.heap.size:=lt_of_block HN2.out
 have b23:∀ k,k < w2.heap.size→k≠M→w3.heap[k]?=w2.heap[k]?:=fun k h1 h2=>hgr3.block k h1 (fun e=>h2 (by cases e;rfl))
 have K3:=(b23 K (lt_of_block HKN2.out.blk) (by omega)).trans HKN2.out.blk
 have X3:=(b23 w.heap.size hbx (by omega)).trans HN2.out
 have HO3:=Lib.hid (HKN2.out.out.from (W':=w3) fun b h1 h2=>b23 b h2 (by omega))
 have HT3:=Lib.hid (HT2.out.keep (w':=w3) (ok':=okV B K v) fun b hb hl=>⟨b23 b hl (by have h1:=hb.1;omega),hb⟩)
 have HM3:=Lib.hid hown3
 have HD3:=Lib.hid (HD.out.add (own_map_isMap HMAP.out) HWF.out)
 have HB3:Hid (∀ n,n≤K→n≤M→Below n w w3):=by
  show ∀ n,_→_→_
  exact fun n h1 h2=>below_map (HP2.out.mono (by omega)) hgr3 h2 (by have:=HP2.out.size;omega)
 have HS3:Hid (w2.heap.size≤w3.heap.size):=hgr3.size
 have HK23:Hid (∀ b,okV B K v b→b < w.heap.size→w3.heap[b]?=w.heap[b]?):=by
  show ∀ b,_→_→_
  exact fun b hb hl=>(b23 b (by have:=HP2.out.size;omega) (by have h1:=hb.1;omega)).trans (HP2.out.block b hl)
 have hoX:=HKN2.out.ownX.1
 have hoL:∀ g,v.ownBlock=some g→g < w.heap.size:=fun g e=>(own_lt HKN0.out.out.row e).1
 have HOL:=Lib.hid hoL
 obtain ⟨va,vc,hv⟩:=own_form HO3.out.row
 subst hv
 clear k0 k1 x0 x1 x2 hown3 hgr3 b23 HAT HMAP HD hz2 hnm2 HT2 HKN2 HN2 HP2 hoL
 have k0:=cell_of_arr K3 0
 simp at k0
 have HK3:=Lib.hid K3
 have HX3:=Lib.hid X3
 have x0:=cell_of_arr X3 0
 have x1:=cell_of_arr X3 1
 have x2:=cell_of_arr X3 2
 simp at x0 x1 x2
 clear K3 X3
 have hbx3:w.heap.size < w3.heap.size:=lt_of_cell x0
 have hK3:K < w3.heap.size:=lt_of_cell k0
 refine wp_region_held_drew (S:=(fun W=>W.cell? ⟨w.heap.size,0,none⟩=some (.int .i64 t.op)∧W.cell? ⟨w.heap.size,1,none⟩=some (.int .i64 t.num)∧W.cell? ⟨w.heap.size,2,none⟩=some (.slice a n c))) (by kernel_rfl) ⟨x0,x1,x2⟩ (fun hHeld=>?_)
 refine wpAnyH_take (i:=0) (v:=?_) rfl (by kernel_rfl) (by kernel_rfl) (by kernel_rfl) (fun _ _ _ h=>h) (Or.inl ⟨by rfl,?_⟩) hHeld ?_
 rotate_left
 ·(intro W hSw;(try dsimp only at hSw);go_simp;try with_reducible rfl)
 try simp only [Act.put,List.setIfInBounds_toArray,List.set_cons_zero,List.set_cons_succ,List.getElem_toArray,List.getElem_cons_succ,List.getElem_cons_zero]
 refine wpAnyH_take (i:=1) (v:=?_) rfl (by kernel_rfl) (by kernel_rfl) (by kernel_rfl) (fun _ _ _ h=>h) (Or.inl ⟨by rfl,?_⟩) hHeld ?_
 rotate_left
 ·(intro W hSw;(try dsimp only at hSw);go_simp;try with_reducible rfl)
 try simp only [Act.put,List.setIfInBounds_toArray,List.set_cons_zero,List.set_cons_succ,List.getElem_toArray,List.getElem_cons_succ,List.getElem_cons_zero]
 refine wpAnyH_take (i:=2) (v:=?_) rfl (by kernel_rfl) (by kernel_rfl) (by kernel_rfl) (fun _ _ _ h=>h) (Or.inl ⟨by rfl,?_⟩) hHeld ?_
 rotate_left
 ·(intro W hSw;(try dsimp only at hSw);go_simp;try with_reducible rfl)
 try simp only [Act.put,List.setIfInBounds_toArray,List.set_cons_zero,List.set_cons_succ,List.getElem_toArray,List.getElem_cons_succ,List.getElem_cons_zero]
 refine wpAnyH_take (i:=4) (v:=?_) rfl (by kernel_rfl) (by kernel_rfl) (by kernel_rfl) (fun _ _ _ h=>h) (Or.inl ⟨by rfl,?_⟩) hHeld ?_
 rotate_left
 ·(intro W hSw;(try dsimp only at hSw);go_simp;try with_reducible rfl)
 try simp only [Act.put,List.setIfInBounds_toArray,List.set_cons_zero,List.set_cons_succ,List.getElem_toArray,List.getElem_cons_succ,List.getElem_cons_zero]
 refine wpAnyH_ready (rs:=[3,6]) (by kernel_rfl) (by simp) ?_
 refine AllReadyH.cons rfl (fun K1 hK1=>?_) (AllReadyH.cons rfl (fun K1 hK1=>?_) AllReadyH.nil)
 ·go_simp
  refine hK1.out _ _ hHeld (fun hHeld=>?_)
  clear hK1
  try simp only [Act.put,List.setIfInBounds_toArray,List.set_cons_zero,List.set_cons_succ,List.getElem_toArray,List.getElem_cons_succ,List.getElem_cons_zero]
  refine wpAnyH_take (i:=5) (v:=?_) rfl (by kernel_rfl) (by kernel_rfl) (by kernel_rfl) (fun _ _ _ h=>h) (Or.inl ⟨by rfl,?_⟩) hHeld ?_
  rotate_left
  ·(intro W hSw;(try dsimp only at hSw);go_simp;try with_reducible rfl)
  try simp only [Act.put,List.setIfInBounds_toArray,List.set_cons_zero,List.set_cons_succ,List.getElem_toArray,List.getElem_cons_succ,List.getElem_cons_zero]
  refine wpAnyH_ready (rs:=[6]) (by kernel_rfl) (by simp) ?_
  refine AllReadyH.cons rfl (fun K1 hK1=>?_) AllReadyH.nil
  go_simp
  have PZ:Below w3.heap.size w3 (w3.alloc (.cells #[.int .i64 0,.int .i64 0,.slice none 0 0] 28)).drew:=below_drewN (pure_alloc _ _) 1
  have NZ:(w3.alloc (.cells #[.int .i64 0,.int .i64 0,.slice none 0 0] 28)).drew.heap[w3.heap.size]?=some (.cells #[.int .i64 0,.int .i64 0,.slice none 0 0] 28 (0,0)):=alloc_new _ _
  have y0:=(PZ.cell (p:=⟨K,0,none⟩) hK3).trans k0
  have hsz4:(w3.alloc (.cells #[.int .i64 0,.int .i64 0,.slice none 0 0] 28)).drew.heap.size=w3.heap.size + 1:=by simp
  refine hK1.out _ _ ⟨(PZ.cell (p:=⟨w.heap.size,0,none⟩) hbx3).trans x0,(PZ.cell (p:=⟨w.heap.size,1,none⟩) hbx3).trans x1,(PZ.cell (p:=⟨w.heap.size,2,none⟩) hbx3).trans x2⟩ (fun hHeld=>?_)
  clear hK1
  try simp only [Act.put,List.setIfInBounds_toArray,List.set_cons_zero,List.set_cons_succ,List.getElem_toArray,List.getElem_cons_succ,List.getElem_cons_zero]
  have HPZ:=Lib.hid PZ
  have HNZ:=Lib.hid NZ
  clear PZ NZ
  generalize (w3.alloc (.cells #[.int .i64 0,.int .i64 0,.slice none 0 0] 28)).drew=w4 at *
  refine wpAnyH_ready (rs:=[7]) (by kernel_rfl) (by simp) ?_
  refine AllReadyH.cons rfl (fun K1 hK1=>?_) AllReadyH.nil
  have O4:=HO3.out.pure HPZ.out
  have hbb:=HBL.out
  have h23:=HS3.out
  obtain ⟨v',w5,hrun,hO5,hgr5,hob,hoX'⟩:=O4.push (c:=1) (e:=⟨0,0,none,0,0⟩) (t:=Tm.mk 0 0 []) HNZ.out rfl rfl (Nat.le_refl _) (TR_iff.2 (TL.nil _ _ _)) (by omega) (by omega) hoX (by omega)
  obtain ⟨g,cap,hv',⟨hgB,hgc⟩,⟨cur,hcur⟩,hget⟩:=hO5.get (by simp)
  rw [show (C ++ [Tm.mk 0 0 []]).length=C.length + 1 by simp] at hv'
  subst hv'
  have hel:es.length=C.length:=HO3.out.len
  obtain ⟨g0,g1,g2,_⟩:=hget C.length (by simp [hel]) (by simp)
  have e1:(C ++ [Tm.mk 0 0 []])[C.length]'(by simp)=Tm.mk 0 0 []:=by simp
  have e2:(es ++ [(⟨0,0,none,0,0⟩:Elem)])[C.length]'(by simp [hel])=⟨0,0,none,0,0⟩:=by
   rw [List.getElem_append_right (by omega)];simp [hel]
  rw [e1] at g0 g1
  rw [e2] at g2
  replace g0:w5.cell? ⟨g,C.length * 3,none⟩=some (.int .i64 0):=g0
  replace g1:w5.cell? ⟨g,C.length * 3 + 1,none⟩=some (.int .i64 0):=g1
  replace g2:w5.cell? ⟨g,C.length * 3 + 2,none⟩=some (.slice none 0 0):=g2
  have hix:(C.length:Int) < (C.length:Int) + 1:=by omega
  have z0:=frozen_of_arr hcur (C.length * 3)
  have z1:=frozen_of_arr hcur (C.length * 3 + 1)
  have z2:=frozen_of_arr hcur (C.length * 3 + 2)
  have hgK:g≠K:=by omega
  have hgX:g≠w.heap.size:=by
   rcases hob with h | h
   ·have h1:=HOL.out g h.symm;omega
   ·have h1:g=w4.heap.size:=by cases h;rfl
    omega
  have b45:∀ k,k < w4.heap.size→(Value.slice va C.length vc).ownBlock≠some k→w5.heap[k]?=w4.heap[k]?:=fun k h1 h2=>hgr5.block k h1 (fun e=>h2 e.symm)
  have K5:=(b45 K (by omega) hoX).trans (Below.keep HPZ.out HK3.out hK3)
  have X5:=(b45 w.heap.size (by omega) (fun e=>by have h1:=HOL.out _ e;omega)).trans (Below.keep HPZ.out HX3.out hbx3)
  have q0:=cell_of_arr K5 0
  have qf:=frozen_of_arr K5 0
  simp at q0
  have m0:=cell_of_arr X5 0
  have m1:=cell_of_arr X5 1
  have m2:=cell_of_arr X5 2
  simp at m0 m1 m2
  have HK5:=Lib.hid K5
  have HO5:=Lib.hid hO5
  have HK45:Hid (∀ b,okV B K (Value.slice va C.length vc) b→b < w3.heap.size→w5.heap[b]?=w3.heap[b]?∧okV B K (Value.slice (some ⟨g,0,none⟩) (C.length + 1) cap) b):=by
   show ∀ b,_→_→_
   intro b hb hl
   refine ⟨(b45 b (by omega) hb.2.2).trans (HPZ.out.block b hl),hb.1,hb.2.1,fun e=>?_⟩
   have hbg:b=g:=by cases e;rfl
   rcases hob with h | h
   ·exact hb.2.2 (by rw [hbg];exact h.symm)
   ·have h1:g=w4.heap.size:=by cases h;rfl
    omega
  have HT5:=Lib.hid (HT3.out.keep (w':=w5) (ok':=okV B K (Value.slice (some ⟨g,0,none⟩) (C.length + 1) cap)) fun b hb hl=>HK45.out b hb hl)
  have HM5:=Lib.hid (own_map_keep HM3.out ((b45 M (by have:=own_map_lt HM3.out;omega) (fun e=>by have h1:=(own_lt HO3.out.row e).2.1;omega)).trans (HPZ.out.block M (own_map_lt HM3.out))))
  have HB5:Hid (∀ n,n≤K→n≤M→Below n w w5):=by
   show ∀ n,_→_→_
   intro n h1 h2
   exact below_grownD' ((HB3.out n h1 h2).trans (HPZ.out.mono (by omega))) (by omega) (own_pure HO3.out.row HPZ.out) (by omega) hgr5
  have HSZ5:Hid (w4.heap.size≤w5.heap.size):=hgr5.size
  clear O4 hO5 hgr5 hob hget e1 e2 hcur b45 K5 X5
  rw [if_pos (by rfl)]
  refine wp_app _ _ 23 rfl rfl rfl hrun ?_
  refine hK1.out _ _ ⟨m0,m1,m2⟩ (fun hHeld=>?_)
  clear hK1
  try simp only [Act.put,List.setIfInBounds_toArray,List.set_cons_zero,List.set_cons_succ,List.getElem_toArray,List.getElem_cons_succ,List.getElem_cons_zero]
  clear hrun
  refine wpAnyH_take (i:=8) (v:=?_) rfl (by kernel_rfl) (by kernel_rfl) (by kernel_rfl) (fun _ _ _ h=>h) (Or.inl ⟨by rfl,?_⟩) hHeld ?_
  rotate_left
  ·(intro W hSw;(try dsimp only at hSw);go_simp;try with_reducible rfl)
  try simp only [Act.put,List.setIfInBounds_toArray,List.set_cons_zero,List.set_cons_succ,List.getElem_toArray,List.getElem_cons_succ,List.getElem_cons_zero]
  refine wpAnyH_take (i:=10) (v:=?_) rfl (by kernel_rfl) (by kernel_rfl) (by kernel_rfl) (fun _ _ _ h=>h) (Or.inl ⟨by rfl,?_⟩) hHeld ?_
  rotate_left
  ·(intro W hSw;(try dsimp only at hSw);go_simp;try with_reducible rfl)
  try simp only [Act.put,List.setIfInBounds_toArray,List.set_cons_zero,List.set_cons_succ,List.getElem_toArray,List.getElem_cons_succ,List.getElem_cons_zero]
  refine wpAnyH_take (i:=11) (v:=?_) rfl (by kernel_rfl) (by kernel_rfl) (by kernel_rfl) (fun _ _ _ h=>h) (Or.inl ⟨by rfl,?_⟩) hHeld ?_
  rotate_left
  ·(intro W hSw;(try dsimp only at hSw);go_simp;try with_reducible rfl)
  try simp only [Act.put,List.setIfInBounds_toArray,List.set_cons_zero,List.set_cons_succ,List.getElem_toArray,List.getElem_cons_succ,List.getElem_cons_zero]
  refine wpAnyH_ready (rs:=[9,12]) (by kernel_rfl) (by simp) ?_
  refine AllReadyH.cons rfl (fun K1 hK1=>?_) (AllReadyH.cons rfl (fun K1 hK1=>?_) AllReadyH.nil)
  ·go_simp
   refine hK1.out _ _ ⟨by simpa [World.cell?_setCell_far,hgX] using m0,by simpa [World.cell?_setCell_far,hgX] using m1,by simpa [World.cell?_setCell_far,hgX] using m2⟩ (fun hHeld=>?_)
   clear hK1
   try simp only [Act.put,List.setIfInBounds_toArray,List.set_cons_zero,List.set_cons_succ,List.getElem_toArray,List.getElem_cons_succ,List.getElem_cons_zero]
   refine wpAnyH_ready (rs:=[12]) (by kernel_rfl) (by simp) ?_
   refine AllReadyH.cons rfl (fun K1 hK1=>?_) AllReadyH.nil
   go_simp
   refine hK1.out _ _ ?_ (fun hHeld=>?_)
   ·have hKX:K≠w.heap.size:=by omega
    exact ⟨by simpa [World.cell?_setCell_far,hgX,hKX] using m0,by simpa [World.cell?_setCell_far,hgX,hKX] using m1,by simpa [World.cell?_setCell_far,hgX,hKX] using m2⟩
   clear hK1
   try simp only [Act.put,List.setIfInBounds_toArray,List.set_cons_zero,List.set_cons_succ,List.getElem_toArray,List.getElem_cons_succ,List.getElem_cons_zero]
   refine wpAnyH_done (by kernel_rfl) ?_ _
   try simp only [Act.put,List.setIfInBounds_toArray,List.set_cons_zero,List.set_cons_succ,List.getElem_toArray,List.getElem_cons_succ,List.getElem_cons_zero]
   have hbb:=HBL.out
   obtain ⟨T1,T2,T3⟩:=grow3 (w:=w5) (W:=((w5.setCell ⟨g,C.length * 3,none⟩ (.int .i64 t.op)).setCell ⟨g,C.length * 3 + 1,none⟩ (.int .i64 t.num)).setCell ⟨g,C.length * 3 + 2,none⟩ (.slice a n c)) rfl
   have O6:=HO5.out.fill (e:=⟨t.op,t.num,a,n,c⟩) (t:=t) rfl rfl hnc HT5.out (((w5.setCell ⟨g,C.length * 3,none⟩ (.int .i64 t.op)).setCell ⟨g,C.length * 3 + 1,none⟩ (.int .i64 t.num)).setCell ⟨g,C.length * 3 + 2,none⟩ (.slice a n c)) rfl
   have K6:=(T1 K (Ne.symm hgK)).trans HK5.out
   have M6:=own_map_keep HM5.out (T1 M (by omega))
   generalize ((w5.setCell ⟨g,C.length * 3,none⟩ (.int .i64 t.op)).setCell ⟨g,C.length * 3 + 1,none⟩ (.int .i64 t.num)).setCell ⟨g,C.length * 3 + 2,none⟩ (.slice a n c)=w6 at *
   have O7:=O6.var (W':=w6.setCell ⟨K,0,none⟩ (Value.slice (some ⟨g,0,none⟩) (C.length + 1) cap)) (fun b hb _=>Below.heap_setCell _ _ _ _ hb) (fun e=>hgK (by cases e;rfl))
   have K7:=store_set K6 (Value.slice (some ⟨g,0,none⟩) (C.length + 1) cap)
   have M7:=own_map_keep M6 (Below.heap_setCell w6 ⟨K,0,none⟩ (Value.slice (some ⟨g,0,none⟩) (C.length + 1) cap) M (show M≠K by omega))
   have B7:∀ k,k≠g→k≠K→(w6.setCell ⟨K,0,none⟩ (Value.slice (some ⟨g,0,none⟩) (C.length + 1) cap)).heap[k]?=w5.heap[k]?:=fun k h1 h2=>(Below.heap_setCell _ _ _ _ h2).trans (T1 k h1)
   have S7:(w6.setCell ⟨K,0,none⟩ (Value.slice (some ⟨g,0,none⟩) (C.length + 1) cap)).heap.size=w5.heap.size:=by simp [World.setCell,T2]
   have L7:∀ n,n≤K→n≤M→Below n w (w6.setCell ⟨K,0,none⟩ (Value.slice (some ⟨g,0,none⟩) (C.length + 1) cap)):=fun n h1 h2=>(T3 n w (by omega) (HB5.out n h1 h2)).setCell h1 _
   generalize w6.setCell ⟨K,0,none⟩ (Value.slice (some ⟨g,0,none⟩) (C.length + 1) cap)=w7 at *
   have HKN7:Hid (KN w7 B K M (Value.slice (some ⟨g,0,none⟩) (C.length + 1) cap) (es ++ [⟨t.op,t.num,a,n,c⟩]) (C ++ [t])):=⟨K7,O7,⟨nm + 1,_,M7,by simp;omega,HD3.out⟩,by omega,by omega,by omega,by have h1:=HSZ5.out;have h2:=HS3.out;omega⟩
   have HKP:Hid (∀ b,okV B K (Value.slice va C.length vc) b→b < w.heap.size→w7.heap[b]?=w.heap[b]?∧okV B K (Value.slice (some ⟨g,0,none⟩) (C.length + 1) cap) b):=by
    show ∀ b,_→_→_
    intro b hb hl
    have h1:=HK45.out b hb (by omega)
    exact ⟨(B7 b (fun e=>h1.2.2.2 (by rw [e];rfl)) hb.2.1).trans (h1.1.trans (HK23.out b hb hl)),h1.2⟩
   have HL7:=Lib.hid L7
   clear hHeld O6 O7 K6 K7 M6 M7 T1 T2 T3 B7 S7 L7
   go_wp2_with fail
   go_ret
   exact ⟨_,_,by simp [HIN.out],by rw [if_neg HIN.out];exact HKN7.out,HKP.out,HL7.out⟩
  ·have hKX:K≠w.heap.size:=by omega
   go_simp
   refine hK1.out _ _ ⟨by simpa [World.cell?_setCell_far,hKX] using m0,by simpa [World.cell?_setCell_far,hKX] using m1,by simpa [World.cell?_setCell_far,hKX] using m2⟩ (fun hHeld=>?_)
   clear hK1
   try simp only [Act.put,List.setIfInBounds_toArray,List.set_cons_zero,List.set_cons_succ,List.getElem_toArray,List.getElem_cons_succ,List.getElem_cons_zero]
   have r0:(w5.setCell ⟨K,0,none⟩ (Value.slice (some ⟨g,0,none⟩) (C.length + 1) cap)).cell? ⟨g,C.length * 3,none⟩=some (.int .i64 0):=by simpa [World.cell?_setCell_far,Ne.symm hgK] using g0
   have r1:(w5.setCell ⟨K,0,none⟩ (Value.slice (some ⟨g,0,none⟩) (C.length + 1) cap)).cell? ⟨g,C.length * 3 + 1,none⟩=some (.int .i64 0):=by simpa [World.cell?_setCell_far,Ne.symm hgK] using g1
   have r2:(w5.setCell ⟨K,0,none⟩ (Value.slice (some ⟨g,0,none⟩) (C.length + 1) cap)).cell? ⟨g,C.length * 3 + 2,none⟩=some (.slice none 0 0):=by simpa [World.cell?_setCell_far,Ne.symm hgK] using g2
   refine wpAnyH_ready (rs:=[9]) (by kernel_rfl) (by simp) ?_
   refine AllReadyH.cons rfl (fun K1 hK1=>?_) AllReadyH.nil
   go_simp
   refine hK1.out _ _ ⟨by simpa [World.cell?_setCell_far,hgX,hKX] using m0,by simpa [World.cell?_setCell_far,hgX,hKX] using m1,by simpa [World.cell?_setCell_far,hgX,hKX] using m2⟩ (fun hHeld=>?_)
   clear hK1
   try simp only [Act.put,List.setIfInBounds_toArray,List.set_cons_zero,List.set_cons_succ,List.getElem_toArray,List.getElem_cons_succ,List.getElem_cons_zero]
   refine wpAnyH_done (by kernel_rfl) ?_ _
   try simp only [Act.put,List.setIfInBounds_toArray,List.set_cons_zero,List.set_cons_succ,List.getElem_toArray,List.getElem_cons_succ,List.getElem_cons_zero]
   have hbb:=HBL.out
   have O6:=HO5.out.var (W':=w5.setCell ⟨K,0,none⟩ (Value.slice (some ⟨g,0,none⟩) (C.length + 1) cap)) (fun b hb _=>Below.heap_setCell _ _ _ _ hb) (fun e=>hgK (by cases e;rfl))
   have K6:=store_set HK5.out (Value.slice (some ⟨g,0,none⟩) (C.length + 1) cap)
   have M6:=own_map_keep HM5.out (Below.heap_setCell w5 ⟨K,0,none⟩ (Value.slice (some ⟨g,0,none⟩) (C.length + 1) cap) M (show M≠K by omega))
   have T6:=HT5.out.keep (w':=w5.setCell ⟨K,0,none⟩ (Value.slice (some ⟨g,0,none⟩) (C.length + 1) cap)) (ok':=okV B K (Value.slice (some ⟨g,0,none⟩) (C.length + 1) cap)) fun b hb _=>⟨Below.heap_setCell _ _ _ _ hb.2.1,hb⟩
   have B6:∀ k,k≠K→(w5.setCell ⟨K,0,none⟩ (Value.slice (some ⟨g,0,none⟩) (C.length + 1) cap)).heap[k]?=w5.heap[k]?:=fun k h2=>Below.heap_setCell _ _ _ _ h2
   have S6:(w5.setCell ⟨K,0,none⟩ (Value.slice (some ⟨g,0,none⟩) (C.length + 1) cap)).heap.size=w5.heap.size:=by simp [World.setCell]
   have L6:∀ n,n≤K→n≤M→Below n w (w5.setCell ⟨K,0,none⟩ (Value.slice (some ⟨g,0,none⟩) (C.length + 1) cap)):=fun n h1 h2=>(HB5.out n h1 h2).setCell h1 _
   generalize w5.setCell ⟨K,0,none⟩ (Value.slice (some ⟨g,0,none⟩) (C.length + 1) cap)=w6 at *
   obtain ⟨T1,T2,T3⟩:=grow3 (w:=w6) (W:=((w6.setCell ⟨g,C.length * 3,none⟩ (.int .i64 t.op)).setCell ⟨g,C.length * 3 + 1,none⟩ (.int .i64 t.num)).setCell ⟨g,C.length * 3 + 2,none⟩ (.slice a n c)) rfl
   have O7:=O6.fill (e:=⟨t.op,t.num,a,n,c⟩) (t:=t) rfl rfl hnc T6 (((w6.setCell ⟨g,C.length * 3,none⟩ (.int .i64 t.op)).setCell ⟨g,C.length * 3 + 1,none⟩ (.int .i64 t.num)).setCell ⟨g,C.length * 3 + 2,none⟩ (.slice a n c)) rfl
   have K7:=(T1 K (Ne.symm hgK)).trans K6
   have M7:=own_map_keep M6 (T1 M (by omega))
   have B7:∀ k,k≠g→k≠K→(((w6.setCell ⟨g,C.length * 3,none⟩ (.int .i64 t.op)).setCell ⟨g,C.length * 3 + 1,none⟩ (.int .i64 t.num)).setCell ⟨g,C.length * 3 + 2,none⟩ (.slice a n c)).heap[k]?=w5.heap[k]?:=fun k h1 h2=>(T1 k h1).trans (B6 k h2)
   have S7:(((w6.setCell ⟨g,C.length * 3,none⟩ (.int .i64 t.op)).setCell ⟨g,C.length * 3 + 1,none⟩ (.int .i64 t.num)).setCell ⟨g,C.length * 3 + 2,none⟩ (.slice a n c)).heap.size=w5.heap.size:=T2.trans S6
   have L7:∀ p,p≤K→p≤M→Below p w (((w6.setCell ⟨g,C.length * 3,none⟩ (.int .i64 t.op)).setCell ⟨g,C.length * 3 + 1,none⟩ (.int .i64 t.num)).setCell ⟨g,C.length * 3 + 2,none⟩ (.slice a n c)):=fun p h1 h2=>T3 p w (by omega) (L6 p h1 h2)
   generalize ((w6.setCell ⟨g,C.length * 3,none⟩ (.int .i64 t.op)).setCell ⟨g,C.length * 3 + 1,none⟩ (.int .i64 t.num)).setCell ⟨g,C.length * 3 + 2,none⟩ (.slice a n c)=w7 at *
   have HKN7:Hid (KN w7 B K M (Value.slice (some ⟨g,0,none⟩) (C.length + 1) cap) (es ++ [⟨t.op,t.num,a,n,c⟩]) (C ++ [t])):=⟨K7,O7,⟨nm + 1,_,M7,by simp;omega,HD3.out⟩,by omega,by omega,by omega,by have h1:=HSZ5.out;have h2:=HS3.out;omega⟩
   have HKP:Hid (∀ b,okV B K (Value.slice va C.length vc) b→b < w.heap.size→w7.heap[b]?=w.heap[b]?∧okV B K (Value.slice (some ⟨g,0,none⟩) (C.length + 1) cap) b):=by
    show ∀ b,_→_→_
    intro b hb hl
    have h1:=HK45.out b hb (by omega)
    exact ⟨(B7 b (fun e=>h1.2.2.2 (by rw [e];rfl)) hb.2.1).trans (h1.1.trans (HK23.out b hb hl)),h1.2⟩
   have HL7:=Lib.hid L7
   clear hHeld O6 O7 K6 K7 M6 M7 T1 T2 T3 B7 S7 L7
   go_wp2_with fail
   go_ret
   exact ⟨_,_,by simp [HIN.out],by rw [if_neg HIN.out];exact HKN7.out,HKP.out,HL7.out⟩
 ·go_simp
  have PZ:Below w3.heap.size w3 (w3.alloc (.cells #[.int .i64 0,.int .i64 0,.slice none 0 0] 28)).drew:=below_drewN (pure_alloc _ _) 1
  have NZ:(w3.alloc (.cells #[.int .i64 0,.int .i64 0,.slice none 0 0] 28)).drew.heap[w3.heap.size]?=some (.cells #[.int .i64 0,.int .i64 0,.slice none 0 0] 28 (0,0)):=alloc_new _ _
  have y0:=(PZ.cell (p:=⟨K,0,none⟩) hK3).trans k0
  have hsz4:(w3.alloc (.cells #[.int .i64 0,.int .i64 0,.slice none 0 0] 28)).drew.heap.size=w3.heap.size + 1:=by simp
  refine hK1.out _ _ ⟨(PZ.cell (p:=⟨w.heap.size,0,none⟩) hbx3).trans x0,(PZ.cell (p:=⟨w.heap.size,1,none⟩) hbx3).trans x1,(PZ.cell (p:=⟨w.heap.size,2,none⟩) hbx3).trans x2⟩ (fun hHeld=>?_)
  clear hK1
  try simp only [Act.put,List.setIfInBounds_toArray,List.set_cons_zero,List.set_cons_succ,List.getElem_toArray,List.getElem_cons_succ,List.getElem_cons_zero]
  have HPZ:=Lib.hid PZ
  have HNZ:=Lib.hid NZ
  clear PZ NZ
  generalize (w3.alloc (.cells #[.int .i64 0,.int .i64 0,.slice none 0 0] 28)).drew=w4 at *
  refine wpAnyH_ready (rs:=[3]) (by kernel_rfl) (by simp) ?_
  refine AllReadyH.cons rfl (fun K1 hK1=>?_) AllReadyH.nil
  go_simp
  refine hK1.out _ _ hHeld (fun hHeld=>?_)
  clear hK1
  try simp only [Act.put,List.setIfInBounds_toArray,List.set_cons_zero,List.set_cons_succ,List.getElem_toArray,List.getElem_cons_succ,List.getElem_cons_zero]
  refine wpAnyH_take (i:=5) (v:=?_) rfl (by kernel_rfl) (by kernel_rfl) (by kernel_rfl) (fun _ _ _ h=>h) (Or.inl ⟨by rfl,?_⟩) hHeld ?_
  rotate_left
  ·(intro W hSw;(try dsimp only at hSw);go_simp;try with_reducible rfl)
  try simp only [Act.put,List.setIfInBounds_toArray,List.set_cons_zero,List.set_cons_succ,List.getElem_toArray,List.getElem_cons_succ,List.getElem_cons_zero]
  refine wpAnyH_ready (rs:=[7]) (by kernel_rfl) (by simp) ?_
  refine AllReadyH.cons rfl (fun K1 hK1=>?_) AllReadyH.nil
  have O4:=HO3.out.pure HPZ.out
  have hbb:=HBL.out
  have h23:=HS3.out
  obtain ⟨v',w5,hrun,hO5,hgr5,hob,hoX'⟩:=O4.push (c:=1) (e:=⟨0,0,none,0,0⟩) (t:=Tm.mk 0 0 []) HNZ.out rfl rfl (Nat.le_refl _) (TR_iff.2 (TL.nil _ _ _)) (by omega) (by omega) hoX (by omega)
  obtain ⟨g,cap,hv',⟨hgB,hgc⟩,⟨cur,hcur⟩,hget⟩:=hO5.get (by simp)
  rw [show (C ++ [Tm.mk 0 0 []]).length=C.length + 1 by simp] at hv'
  subst hv'
  have hel:es.length=C.length:=HO3.out.len
  obtain ⟨g0,g1,g2,_⟩:=hget C.length (by simp [hel]) (by simp)
  have e1:(C ++ [Tm.mk 0 0 []])[C.length]'(by simp)=Tm.mk 0 0 []:=by simp
  have e2:(es ++ [(⟨0,0,none,0,0⟩:Elem)])[C.length]'(by simp [hel])=⟨0,0,none,0,0⟩:=by
   rw [List.getElem_append_right (by omega)];simp [hel]
  rw [e1] at g0 g1
  rw [e2] at g2
  replace g0:w5.cell? ⟨g,C.length * 3,none⟩=some (.int .i64 0):=g0
  replace g1:w5.cell? ⟨g,C.length * 3 + 1,none⟩=some (.int .i64 0):=g1
  replace g2:w5.cell? ⟨g,C.length * 3 + 2,none⟩=some (.slice none 0 0):=g2
  have hix:(C.length:Int) < (C.length:Int) + 1:=by omega
  have z0:=frozen_of_arr hcur (C.length * 3)
  have z1:=frozen_of_arr hcur (C.length * 3 + 1)
  have z2:=frozen_of_arr hcur (C.length * 3 + 2)
  have hgK:g≠K:=by omega
  have hgX:g≠w.heap.size:=by
   rcases hob with h | h
   ·have h1:=HOL.out g h.symm;omega
   ·have h1:g=w4.heap.size:=by cases h;rfl
    omega
  have b45:∀ k,k < w4.heap.size→(Value.slice va C.length vc).ownBlock≠some k→w5.heap[k]?=w4.heap[k]?:=fun k h1 h2=>hgr5.block k h1 (fun e=>h2 e.symm)
  have K5:=(b45 K (by omega) hoX).trans (Below.keep HPZ.out HK3.out hK3)
  have X5:=(b45 w.heap.size (by omega) (fun e=>by have h1:=HOL.out _ e;omega)).trans (Below.keep HPZ.out HX3.out hbx3)
  have q0:=cell_of_arr K5 0
  have qf:=frozen_of_arr K5 0
  simp at q0
  have m0:=cell_of_arr X5 0
  have m1:=cell_of_arr X5 1
  have m2:=cell_of_arr X5 2
  simp at m0 m1 m2
  have HK5:=Lib.hid K5
  have HO5:=Lib.hid hO5
  have HK45:Hid (∀ b,okV B K (Value.slice va C.length vc) b→b < w3.heap.size→w5.heap[b]?=w3.heap[b]?∧okV B K (Value.slice (some ⟨g,0,none⟩) (C.length + 1) cap) b):=by
   show ∀ b,_→_→_
   intro b hb hl
   refine ⟨(b45 b (by omega) hb.2.2).trans (HPZ.out.block b hl),hb.1,hb.2.1,fun e=>?_⟩
   have hbg:b=g:=by cases e;rfl
   rcases hob with h | h
   ·exact hb.2.2 (by rw [hbg];exact h.symm)
   ·have h1:g=w4.heap.size:=by cases h;rfl
    omega
  have HT5:=Lib.hid (HT3.out.keep (w':=w5) (ok':=okV B K (Value.slice (some ⟨g,0,none⟩) (C.length + 1) cap)) fun b hb hl=>HK45.out b hb hl)
  have HM5:=Lib.hid (own_map_keep HM3.out ((b45 M (by have:=own_map_lt HM3.out;omega) (fun e=>by have h1:=(own_lt HO3.out.row e).2.1;omega)).trans (HPZ.out.block M (own_map_lt HM3.out))))
  have HB5:Hid (∀ n,n≤K→n≤M→Below n w w5):=by
   show ∀ n,_→_→_
   intro n h1 h2
   exact below_grownD' ((HB3.out n h1 h2).trans (HPZ.out.mono (by omega))) (by omega) (own_pure HO3.out.row HPZ.out) (by omega) hgr5
  have HSZ5:Hid (w4.heap.size≤w5.heap.size):=hgr5.size
  clear O4 hO5 hgr5 hob hget e1 e2 hcur b45 K5 X5
  rw [if_pos (by rfl)]
  refine wp_app _ _ 23 rfl rfl rfl hrun ?_
  refine hK1.out _ _ ⟨m0,m1,m2⟩ (fun hHeld=>?_)
  clear hK1
  try simp only [Act.put,List.setIfInBounds_toArray,List.set_cons_zero,List.set_cons_succ,List.getElem_toArray,List.getElem_cons_succ,List.getElem_cons_zero]
  clear hrun
  refine wpAnyH_take (i:=8) (v:=?_) rfl (by kernel_rfl) (by kernel_rfl) (by kernel_rfl) (fun _ _ _ h=>h) (Or.inl ⟨by rfl,?_⟩) hHeld ?_
  rotate_left
  ·(intro W hSw;(try dsimp only at hSw);go_simp;try with_reducible rfl)
  try simp only [Act.put,List.setIfInBounds_toArray,List.set_cons_zero,List.set_cons_succ,List.getElem_toArray,List.getElem_cons_succ,List.getElem_cons_zero]
  refine wpAnyH_take (i:=10) (v:=?_) rfl (by kernel_rfl) (by kernel_rfl) (by kernel_rfl) (fun _ _ _ h=>h) (Or.inl ⟨by rfl,?_⟩) hHeld ?_
  rotate_left
  ·(intro W hSw;(try dsimp only at hSw);go_simp;try with_reducible rfl)
  try simp only [Act.put,List.setIfInBounds_toArray,List.set_cons_zero,List.set_cons_succ,List.getElem_toArray,List.getElem_cons_succ,List.getElem_cons_zero]
  refine wpAnyH_take (i:=11) (v:=?_) rfl (by kernel_rfl) (by kernel_rfl) (by kernel_rfl) (fun _ _ _ h=>h) (Or.inl ⟨by rfl,?_⟩) hHeld ?_
  rotate_left
  ·(intro W hSw;(try dsimp only at hSw);go_simp;try with_reducible rfl)
  try simp only [Act.put,List.setIfInBounds_toArray,List.set_cons_zero,List.set_cons_succ,List.getElem_toArray,List.getElem_cons_succ,List.getElem_cons_zero]
  refine wpAnyH_ready (rs:=[9,12]) (by kernel_rfl) (by simp) ?_
  refine AllReadyH.cons rfl (fun K1 hK1=>?_) (AllReadyH.cons rfl (fun K1 hK1=>?_) AllReadyH.nil)
  ·go_simp
   refine hK1.out _ _ ⟨by simpa [World.cell?_setCell_far,hgX] using m0,by simpa [World.cell?_setCell_far,hgX] using m1,by simpa [World.cell?_setCell_far,hgX] using m2⟩ (fun hHeld=>?_)
   clear hK1
   try simp only [Act.put,List.setIfInBounds_toArray,List.set_cons_zero,List.set_cons_succ,List.getElem_toArray,List.getElem_cons_succ,List.getElem_cons_zero]
   refine wpAnyH_ready (rs:=[12]) (by kernel_rfl) (by simp) ?_
   refine AllReadyH.cons rfl (fun K1 hK1=>?_) AllReadyH.nil
   go_simp
   refine hK1.out _ _ ?_ (fun hHeld=>?_)
   ·have hKX:K≠w.heap.size:=by omega
    exact ⟨by simpa [World.cell?_setCell_far,hgX,hKX] using m0,by simpa [World.cell?_setCell_far,hgX,hKX] using m1,by simpa [World.cell?_setCell_far,hgX,hKX] using m2⟩
   clear hK1
   try simp only [Act.put,List.setIfInBounds_toArray,List.set_cons_zero,List.set_cons_succ,List.getElem_toArray,List.getElem_cons_succ,List.getElem_cons_zero]
   refine wpAnyH_done (by kernel_rfl) ?_ _
   try simp only [Act.put,List.setIfInBounds_toArray,List.set_cons_zero,List.set_cons_succ,List.getElem_toArray,List.getElem_cons_succ,List.getElem_cons_zero]
   have hbb:=HBL.out
   obtain ⟨T1,T2,T3⟩:=grow3 (w:=w5) (W:=((w5.setCell ⟨g,C.length * 3,none⟩ (.int .i64 t.op)).setCell ⟨g,C.length * 3 + 1,none⟩ (.int .i64 t.num)).setCell ⟨g,C.length * 3 + 2,none⟩ (.slice a n c)) rfl
   have O6:=HO5.out.fill (e:=⟨t.op,t.num,a,n,c⟩) (t:=t) rfl rfl hnc HT5.out (((w5.setCell ⟨g,C.length * 3,none⟩ (.int .i64 t.op)).setCell ⟨g,C.length * 3 + 1,none⟩ (.int .i64 t.num)).setCell ⟨g,C.length * 3 + 2,none⟩ (.slice a n c)) rfl
   have K6:=(T1 K (Ne.symm hgK)).trans HK5.out
   have M6:=own_map_keep HM5.out (T1 M (by omega))
   generalize ((w5.setCell ⟨g,C.length * 3,none⟩ (.int .i64 t.op)).setCell ⟨g,C.length * 3 + 1,none⟩ (.int .i64 t.num)).setCell ⟨g,C.length * 3 + 2,none⟩ (.slice a n c)=w6 at *
   have O7:=O6.var (W':=w6.setCell ⟨K,0,none⟩ (Value.slice (some ⟨g,0,none⟩) (C.length + 1) cap)) (fun b hb _=>Below.heap_setCell _ _ _ _ hb) (fun e=>hgK (by cases e;rfl))
   have K7:=store_set K6 (Value.slice (some ⟨g,0,none⟩) (C.length + 1) cap)
   have M7:=own_map_keep M6 (Below.heap_setCell w6 ⟨K,0,none⟩ (Value.slice (some ⟨g,0,none⟩) (C.length + 1) cap) M (show M≠K by omega))
   have B7:∀ k,k≠g→k≠K→(w6.setCell ⟨K,0,none⟩ (Value.slice (some ⟨g,0,none⟩) (C.length + 1) cap)).heap[k]?=w5.heap[k]?:=fun k h1 h2=>(Below.heap_setCell _ _ _ _ h2).trans (T1 k h1)
   have S7:(w6.setCell ⟨K,0,none⟩ (Value.slice (some ⟨g,0,none⟩) (C.length + 1) cap)).heap.size=w5.heap.size:=by simp [World.setCell,T2]
   have L7:∀ n,n≤K→n≤M→Below n w (w6.setCell ⟨K,0,none⟩ (Value.slice (some ⟨g,0,none⟩) (C.length + 1) cap)):=fun n h1 h2=>(T3 n w (by omega) (HB5.out n h1 h2)).setCell h1 _
   generalize w6.setCell ⟨K,0,none⟩ (Value.slice (some ⟨g,0,none⟩) (C.length + 1) cap)=w7 at *
   have HKN7:Hid (KN w7 B K M (Value.slice (some ⟨g,0,none⟩) (C.length + 1) cap) (es ++ [⟨t.op,t.num,a,n,c⟩]) (C ++ [t])):=⟨K7,O7,⟨nm + 1,_,M7,by simp;omega,HD3.out⟩,by omega,by omega,by omega,by have h1:=HSZ5.out;have h2:=HS3.out;omega⟩
   have HKP:Hid (∀ b,okV B K (Value.slice va C.length vc) b→b < w.heap.size→w7.heap[b]?=w.heap[b]?∧okV B K (Value.slice (some ⟨g,0,none⟩) (C.length + 1) cap) b):=by
    show ∀ b,_→_→_
    intro b hb hl
    have h1:=HK45.out b hb (by omega)
    exact ⟨(B7 b (fun e=>h1.2.2.2 (by rw [e];rfl)) hb.2.1).trans (h1.1.trans (HK23.out b hb hl)),h1.2⟩
   have HL7:=Lib.hid L7
   clear hHeld O6 O7 K6 K7 M6 M7 T1 T2 T3 B7 S7 L7
   go_wp2_with fail
   go_ret
   exact ⟨_,_,by simp [HIN.out],by rw [if_neg HIN.out];exact HKN7.out,HKP.out,HL7.out⟩
  ·have hKX:K≠w.heap.size:=by omega
   go_simp
   refine hK1.out _ _ ⟨by simpa [World.cell?_setCell_far,hKX] using m0,by simpa [World.cell?_setCell_far,hKX] using m1,by simpa [World.cell?_setCell_far,hKX] using m2⟩ (fun hHeld=>?_)
   clear hK1
   try simp only [Act.put,List.setIfInBounds_toArray,List.set_cons_zero,List.set_cons_succ,List.getElem_toArray,List.getElem_cons_succ,List.getElem_cons_zero]
   have r0:(w5.setCell ⟨K,0,none⟩ (Value.slice (some ⟨g,0,none⟩) (C.length + 1) cap)).cell? ⟨g,C.length * 3,none⟩=some (.int .i64 0):=by simpa [World.cell?_setCell_far,Ne.symm hgK] using g0
   have r1:(w5.setCell ⟨K,0,none⟩ (Value.slice (some ⟨g,0,none⟩) (C.length + 1) cap)).cell? ⟨g,C.length * 3 + 1,none⟩=some (.int .i64 0):=by simpa [World.cell?_setCell_far,Ne.symm hgK] using g1
   have r2:(w5.setCell ⟨K,0,none⟩ (Value.slice (some ⟨g,0,none⟩) (C.length + 1) cap)).cell? ⟨g,C.length * 3 + 2,none⟩=some (.slice none 0 0):=by simpa [World.cell?_setCell_far,Ne.symm hgK] using g2
   refine wpAnyH_ready (rs:=[9]) (by kernel_rfl) (by simp) ?_
   refine AllReadyH.cons rfl (fun K1 hK1=>?_) AllReadyH.nil
   go_simp
   refine hK1.out _ _ ⟨by simpa [World.cell?_setCell_far,hgX,hKX] using m0,by simpa [World.cell?_setCell_far,hgX,hKX] using m1,by simpa [World.cell?_setCell_far,hgX,hKX] using m2⟩ (fun hHeld=>?_)
   clear hK1
   try simp only [Act.put,List.setIfInBounds_toArray,List.set_cons_zero,List.set_cons_succ,List.getElem_toArray,List.getElem_cons_succ,List.getElem_cons_zero]
   refine wpAnyH_done (by kernel_rfl) ?_ _
   try simp only [Act.put,List.setIfInBounds_toArray,List.set_cons_zero,List.set_cons_succ,List.getElem_toArray,List.getElem_cons_succ,List.getElem_cons_zero]
   have hbb:=HBL.out
   have O6:=HO5.out.var (W':=w5.setCell ⟨K,0,none⟩ (Value.slice (some ⟨g,0,none⟩) (C.length + 1) cap)) (fun b hb _=>Below.heap_setCell _ _ _ _ hb) (fun e=>hgK (by cases e;rfl))
   have K6:=store_set HK5.out (Value.slice (some ⟨g,0,none⟩) (C.length + 1) cap)
   have M6:=own_map_keep HM5.out (Below.heap_setCell w5 ⟨K,0,none⟩ (Value.slice (some ⟨g,0,none⟩) (C.length + 1) cap) M (show M≠K by omega))
   have T6:=HT5.out.keep (w':=w5.setCell ⟨K,0,none⟩ (Value.slice (some ⟨g,0,none⟩) (C.length + 1) cap)) (ok':=okV B K (Value.slice (some ⟨g,0,none⟩) (C.length + 1) cap)) fun b hb _=>⟨Below.heap_setCell _ _ _ _ hb.2.1,hb⟩
   have B6:∀ k,k≠K→(w5.setCell ⟨K,0,none⟩ (Value.slice (some ⟨g,0,none⟩) (C.length + 1) cap)).heap[k]?=w5.heap[k]?:=fun k h2=>Below.heap_setCell _ _ _ _ h2
   have S6:(w5.setCell ⟨K,0,none⟩ (Value.slice (some ⟨g,0,none⟩) (C.length + 1) cap)).heap.size=w5.heap.size:=by simp [World.setCell]
   have L6:∀ n,n≤K→n≤M→Below n w (w5.setCell ⟨K,0,none⟩ (Value.slice (some ⟨g,0,none⟩) (C.length + 1) cap)):=fun n h1 h2=>(HB5.out n h1 h2).setCell h1 _
   generalize w5.setCell ⟨K,0,none⟩ (Value.slice (some ⟨g,0,none⟩) (C.length + 1) cap)=w6 at *
   obtain ⟨T1,T2,T3⟩:=grow3 (w:=w6) (W:=((w6.setCell ⟨g,C.length * 3,none⟩ (.int .i64 t.op)).setCell ⟨g,C.length * 3 + 1,none⟩ (.int .i64 t.num)).setCell ⟨g,C.length * 3 + 2,none⟩ (.slice a n c)) rfl
   have O7:=O6.fill (e:=⟨t.op,t.num,a,n,c⟩) (t:=t) rfl rfl hnc T6 (((w6.setCell ⟨g,C.length * 3,none⟩ (.int .i64 t.op)).setCell ⟨g,C.length * 3 + 1,none⟩ (.int .i64 t.num)).setCell ⟨g,C.length * 3 + 2,none⟩ (.slice a n c)) rfl
   have K7:=(T1 K (Ne.symm hgK)).trans K6
   have M7:=own_map_keep M6 (T1 M (by omega))
   have B7:∀ k,k≠g→k≠K→(((w6.setCell ⟨g,C.length * 3,none⟩ (.int .i64 t.op)).setCell ⟨g,C.length * 3 + 1,none⟩ (.int .i64 t.num)).setCell ⟨g,C.length * 3 + 2,none⟩ (.slice a n c)).heap[k]?=w5.heap[k]?:=fun k h1 h2=>(T1 k h1).trans (B6 k h2)
   have S7:(((w6.setCell ⟨g,C.length * 3,none⟩ (.int .i64 t.op)).setCell ⟨g,C.length * 3 + 1,none⟩ (.int .i64 t.num)).setCell ⟨g,C.length * 3 + 2,none⟩ (.slice a n c)).heap.size=w5.heap.size:=T2.trans S6
   have L7:∀ p,p≤K→p≤M→Below p w (((w6.setCell ⟨g,C.length * 3,none⟩ (.int .i64 t.op)).setCell ⟨g,C.length * 3 + 1,none⟩ (.int .i64 t.num)).setCell ⟨g,C.length * 3 + 2,none⟩ (.slice a n c)):=fun p h1 h2=>T3 p w (by omega) (L6 p h1 h2)
   generalize ((w6.setCell ⟨g,C.length * 3,none⟩ (.int .i64 t.op)).setCell ⟨g,C.length * 3 + 1,none⟩ (.int .i64 t.num)).setCell ⟨g,C.length * 3 + 2,none⟩ (.slice a n c)=w7 at *
   have HKN7:Hid (KN w7 B K M (Value.slice (some ⟨g,0,none⟩) (C.length + 1) cap) (es ++ [⟨t.op,t.num,a,n,c⟩]) (C ++ [t])):=⟨K7,O7,⟨nm + 1,_,M7,by simp;omega,HD3.out⟩,by omega,by omega,by omega,by have h1:=HSZ5.out;have h2:=HS3.out;omega⟩
   have HKP:Hid (∀ b,okV B K (Value.slice va C.length vc) b→b < w.heap.size→w7.heap[b]?=w.heap[b]?∧okV B K (Value.slice (some ⟨g,0,none⟩) (C.length + 1) cap) b):=by
    show ∀ b,_→_→_
    intro b hb hl
    have h1:=HK45.out b hb (by omega)
    exact ⟨(B7 b (fun e=>h1.2.2.2 (by rw [e];rfl)) hb.2.1).trans (h1.1.trans (HK23.out b hb hl)),h1.2⟩
   have HL7:=Lib.hid L7
   clear hHeld O6 O7 K6 K7 M6 M7 T1 T2 T3 B7 S7 L7
   go_wp2_with fail
   go_ret
   exact ⟨_,_,by simp [HIN.out],by rw [if_neg HIN.out];exact HKN7.out,HKP.out,HL7.out⟩
end Go.Proofs.YtkgbjoepjcenlaaDoor
