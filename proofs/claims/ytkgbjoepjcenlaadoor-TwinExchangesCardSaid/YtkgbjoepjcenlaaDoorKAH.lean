/- Joined texts. -/
import Derived.Test.YtkgbjoepjcenlaaDoorKAG
import Derived.StringKeys
set_option linter.unusedVariables false
set_option linter.unusedSimpArgs false
namespace Go.Proofs.YtkgbjoepjcenlaaDoor
open Go.RowKit Go.Maps
def Str (l:List UInt8):Value:=.string ⟨l.toArray⟩
theorem ba_app (x y:List UInt8):(⟨x.toArray⟩:ByteArray) ++ (⟨y.toArray⟩:ByteArray)=⟨(x ++ y).toArray⟩:=by
 apply ByteArray.ext;simp
theorem ba_one (x:List UInt8) (c:UInt8):(⟨x.toArray⟩:ByteArray) ++ (⟨#[c]⟩:ByteArray)=⟨(x ++ [c]).toArray⟩:=ba_app x [c]
theorem ba_two (x:List UInt8) (c d:UInt8):(⟨x.toArray⟩:ByteArray) ++ (⟨#[c,d]⟩:ByteArray)=⟨(x ++ [c,d]).toArray⟩:=ba_app x [c,d]
theorem ret_str {x:ByteArray} {l:List UInt8} (h:x=⟨l.toArray⟩):Ending.returned (.string x)=.returned (Str l):=by rw [h];rfl
set_option maxRecDepth 100000 in
set_option maxHeartbeats 1600000 in
theorem text_any (m:Nat):∀ (t:Tm) (a:Option Addr) (n c:Nat) (w:World) (ok:Nat→Prop),t.size≤m→TR ok w t a n→Tm.wf t=true→Env w→t.size≤100000→
 Calls Tryd.prog 42 #[.agg #[.int .i64 t.op,.int .i64 t.num,.slice a n c]] w fun e w'=>e=.returned (Str (Tm.text t))∧Below w.heap.size w w':=by
 induction m with
 | zero=>intro t a n c w ok h;have:=t.size_pos;omega
 | succ m ih=>
   intro t a n c w ok hm hT hwf hE hsz
   have hs1:=t.size_kids
   have P1:=pure_alloc w (.cells #[.int .i64 t.op,.int .i64 t.num,.slice a n c] 28)
   have N1:=alloc_new w (.cells #[.int .i64 t.op,.int .i64 t.num,.slice a n c] 28)
   rw [TR_iff] at hT
   have hn:=hT.2.1
   have HLN:=Lib.hid hT.1
   have HT:=Lib.hid (hT.below P1)
   have HE:=Lib.hid (hE.below P1)
   have HWF:=Lib.hid hwf
   have HIH:=Lib.hid ih
   have HSZ:Hid (Tm.sizes t.kids≤m∧Tm.sizes t.kids≤100000):=by show _∧_;omega
   clear hT ih hs1 hm hsz hE
   by_cases h1:t.op=1
   ·obtain ⟨k1,k2,k3⟩:=Tm.okN_name (h1 ▸ (Tm.wf_kids hwf).1)
    have HTX:=Lib.hid (Tm.text_name h1)
    have h1b:(t.op==1)=true:=by simpa using h1
    obtain ⟨q,hq⟩:∃ q:Nat,t.num=(q:Int):=⟨t.num.toNat,by omega⟩
    have HTX2:Hid (Tm.text t=110 :: Tm.dec q):=by show _=_;rw [HTX.out,hq];rfl
    have hq3:q≤1000:=by omega
    rw [hq] at P1 N1 HT HE ⊢
    clear h1 HTX hq k1 k2 k3 hwf
    go_enter Tryd.func42,Tryd.ntmps42
    go_upto_region 1 with fail
    generalize (w.alloc (.cells #[.int .i64 t.op,.int .i64 (q:Int),.slice a n c] 28))=w1 at *
    have HP1:=Lib.hid P1
    have x0:=cell_of_arr N1 0
    have x1:=cell_of_arr N1 1
    have x2:=cell_of_arr N1 2
    simp at x0 x1 x2
    clear P1 N1
    go_wp2_with fail
    refine (itoa_any q hq3 w1 HE.out).mono ?_
    rintro e w2 ⟨rfl,hw2⟩
    have HP2:=Lib.hid (pure_trans HP1.out hw2)
    have hdl:1 + (Tm.dec q).length≤9223372036854775807:=by have:=(Tm.dec_facts q (by omega)).2.2;omega
    clear hw2 x0 x1 x2
    go_wp2_with fail
    go_ret
    exact ⟨ret_str ((ba_app [110] (Tm.dec q)).trans (by rw [HTX2.out];rfl)),HP2.out⟩
   have h1b:(t.op==1)=false:=by simpa using h1
   have HTX:=Lib.hid (Tm.text_op h1)
   have ho:t.op=2∨t.op=3∨t.op=4∨t.op=5∨t.op=6∨t.op=7∨t.op=8:=by
    have:=Tm.okN_op (Tm.wf_kids hwf).1
    omega
   have HLA:=Lib.hid (litD_at ho)
   have howf:(Lit.int IntKind.i64 t.op).wf=true:=by
    rcases ho with h | h | h | h | h | h | h <;> rw [h] <;> decide
   have hol:(Tm.opName t.op).length≤5:=by rcases ho with h | h | h | h | h | h | h <;> rw [h] <;> decide
   clear ho h1 hwf
   have HWO:=Lib.hid howf
   go_enter Tryd.func42,Tryd.ntmps42
   go_upto_region 1 with fail
   generalize (w.alloc (.cells #[.int .i64 t.op,.int .i64 t.num,.slice a n c] 28))=w1 at *
   have HP1:=Lib.hid P1
   have HN1:=Lib.hid N1
   have x0:=cell_of_arr N1 0
   have x1:=cell_of_arr N1 1
   have x2:=cell_of_arr N1 2
   simp at x0 x1 x2
   clear P1 N1
   go_upto_region 3 with fail
   have hk2:Hid (keyOf Tryd.prog 3 (.int .i64 2)=some (.int .i64 2)):=keyOf_int_mk Tryd.underlying3 (by decide)
   have hv2:Hid (plainElem (H:=Unit) Tryd.prog 9 (.string ⟨#[112,97,105,114]⟩)=some (.lit (.string [112,97,105,114]),[])):=plainElem_string Tryd.underlying9 (s:=⟨#[112,97,105,114]⟩) (show (_:Nat)≤_ by unfold maxLen;decide)
   have hk3:Hid (keyOf Tryd.prog 3 (.int .i64 3)=some (.int .i64 3)):=keyOf_int_mk Tryd.underlying3 (by decide)
   have hv3:Hid (plainElem (H:=Unit) Tryd.prog 9 (.string ⟨#[104,97,115,104]⟩)=some (.lit (.string [104,97,115,104]),[])):=plainElem_string Tryd.underlying9 (s:=⟨#[104,97,115,104]⟩) (show (_:Nat)≤_ by unfold maxLen;decide)
   have hk4:Hid (keyOf Tryd.prog 3 (.int .i64 4)=some (.int .i64 4)):=keyOf_int_mk Tryd.underlying3 (by decide)
   have hv4:Hid (plainElem (H:=Unit) Tryd.prog 9 (.string ⟨#[115,101,97,108]⟩)=some (.lit (.string [115,101,97,108]),[])):=plainElem_string Tryd.underlying9 (s:=⟨#[115,101,97,108]⟩) (show (_:Nat)≤_ by unfold maxLen;decide)
   have hk5:Hid (keyOf Tryd.prog 3 (.int .i64 5)=some (.int .i64 5)):=keyOf_int_mk Tryd.underlying3 (by decide)
   have hv5:Hid (plainElem (H:=Unit) Tryd.prog 9 (.string ⟨#[115,105,103,110]⟩)=some (.lit (.string [115,105,103,110]),[])):=plainElem_string Tryd.underlying9 (s:=⟨#[115,105,103,110]⟩) (show (_:Nat)≤_ by unfold maxLen;decide)
   have hk6:Hid (keyOf Tryd.prog 3 (.int .i64 6)=some (.int .i64 6)):=keyOf_int_mk Tryd.underlying3 (by decide)
   have hv6:Hid (plainElem (H:=Unit) Tryd.prog 9 (.string ⟨#[112,117,98]⟩)=some (.lit (.string [112,117,98]),[])):=plainElem_string Tryd.underlying9 (s:=⟨#[112,117,98]⟩) (show (_:Nat)≤_ by unfold maxLen;decide)
   have hk7:Hid (keyOf Tryd.prog 3 (.int .i64 7)=some (.int .i64 7)):=keyOf_int_mk Tryd.underlying3 (by decide)
   have hv7:Hid (plainElem (H:=Unit) Tryd.prog 9 (.string ⟨#[115,104,97,114,101]⟩)=some (.lit (.string [115,104,97,114,101]),[])):=plainElem_string Tryd.underlying9 (s:=⟨#[115,104,97,114,101]⟩) (show (_:Nat)≤_ by unfold maxLen;decide)
   have hk8:Hid (keyOf Tryd.prog 3 (.int .i64 8)=some (.int .i64 8)):=keyOf_int_mk Tryd.underlying3 (by decide)
   have hv8:Hid (plainElem (H:=Unit) Tryd.prog 9 (.string ⟨#[107,100,102]⟩)=some (.lit (.string [107,100,102]),[])):=plainElem_string Tryd.underlying9 (s:=⟨#[107,100,102]⟩) (show (_:Nat)≤_ by unfold maxLen;decide)
   have hown0:=Lib.hid (World.ownsMap_made (H:=Unit) w1 Tryd.prog 3 (plainElem Tryd.prog 9))
   have HBM0:=Lib.hid (pure_alloc w1 (.map #[] 0))
   refine wp_region_list ?_
   refine wpList_makeMap _ rfl 78 rfl ?_
   simp only [Act.put,List.setIfInBounds_toArray,List.set_cons_zero,List.set_cons_succ,List.getElem_toArray,List.getElem_cons_succ,List.getElem_cons_zero]
   refine wpList_insert_own _ rfl rfl _ _ _ 78 rfl 3 9 (int_keyed Tryd.underlying3) Tryd.underlying78 (plainElem Tryd.prog 9) w1.heap.size 0 _ rfl hown0.out (by unfold maxLen;omega) _ _ _ rfl rfl hk2.out _ hv2.out ?_
   intro u1 hown1' hgr1
   have hown1:=Lib.hid hown1'
   have HBM1:=Lib.hid (below_map HBM0.out hgr1 (Nat.le_refl _) HBM0.out.size)
   clear hown1' hgr1 hown0 HBM0 hk2 hv2
   refine wpList_insert_own _ rfl rfl _ _ _ 78 rfl 3 9 (int_keyed Tryd.underlying3) Tryd.underlying78 (plainElem Tryd.prog 9) w1.heap.size 1 _ rfl hown1.out (by unfold maxLen;omega) _ _ _ rfl rfl hk3.out _ hv3.out ?_
   intro u2 hown2' hgr2
   have hown2:=Lib.hid hown2'
   have HBM2:=Lib.hid (below_map HBM1.out hgr2 (Nat.le_refl _) HBM1.out.size)
   clear hown2' hgr2 hown1 HBM1 hk3 hv3
   refine wpList_insert_own _ rfl rfl _ _ _ 78 rfl 3 9 (int_keyed Tryd.underlying3) Tryd.underlying78 (plainElem Tryd.prog 9) w1.heap.size 2 _ rfl hown2.out (by unfold maxLen;omega) _ _ _ rfl rfl hk4.out _ hv4.out ?_
   intro u3 hown3' hgr3
   have hown3:=Lib.hid hown3'
   have HBM3:=Lib.hid (below_map HBM2.out hgr3 (Nat.le_refl _) HBM2.out.size)
   clear hown3' hgr3 hown2 HBM2 hk4 hv4
   refine wpList_insert_own _ rfl rfl _ _ _ 78 rfl 3 9 (int_keyed Tryd.underlying3) Tryd.underlying78 (plainElem Tryd.prog 9) w1.heap.size 3 _ rfl hown3.out (by unfold maxLen;omega) _ _ _ rfl rfl hk5.out _ hv5.out ?_
   intro u4 hown4' hgr4
   have hown4:=Lib.hid hown4'
   have HBM4:=Lib.hid (below_map HBM3.out hgr4 (Nat.le_refl _) HBM3.out.size)
   clear hown4' hgr4 hown3 HBM3 hk5 hv5
   refine wpList_insert_own _ rfl rfl _ _ _ 78 rfl 3 9 (int_keyed Tryd.underlying3) Tryd.underlying78 (plainElem Tryd.prog 9) w1.heap.size 4 _ rfl hown4.out (by unfold maxLen;omega) _ _ _ rfl rfl hk6.out _ hv6.out ?_
   intro u5 hown5' hgr5
   have hown5:=Lib.hid hown5'
   have HBM5:=Lib.hid (below_map HBM4.out hgr5 (Nat.le_refl _) HBM4.out.size)
   clear hown5' hgr5 hown4 HBM4 hk6 hv6
   refine wpList_insert_own _ rfl rfl _ _ _ 78 rfl 3 9 (int_keyed Tryd.underlying3) Tryd.underlying78 (plainElem Tryd.prog 9) w1.heap.size 5 _ rfl hown5.out (by unfold maxLen;omega) _ _ _ rfl rfl hk7.out _ hv7.out ?_
   intro u6 hown6' hgr6
   have hown6:=Lib.hid hown6'
   have HBM6:=Lib.hid (below_map HBM5.out hgr6 (Nat.le_refl _) HBM5.out.size)
   clear hown6' hgr6 hown5 HBM5 hk7 hv7
   refine wpList_insert_own _ rfl rfl _ _ _ 78 rfl 3 9 (int_keyed Tryd.underlying3) Tryd.underlying78 (plainElem Tryd.prog 9) w1.heap.size 6 _ rfl hown6.out (by unfold maxLen;omega) _ _ _ rfl rfl hk8.out _ hv8.out ?_
   intro u7 hown7' hgr7
   have hown7:=Lib.hid hown7'
   have HBM7:=Lib.hid (below_map HBM6.out hgr7 (Nat.le_refl _) HBM6.out.size)
   clear hown7' hgr7 hown6 HBM6 hk8 hv8
   have HN7:=Below.keep HBM7.out HN1.out (lt_of_block HN1.out)
   clear x0 x1 x2
   have x0:=cell_of_arr HN7 0
   have x1:=cell_of_arr HN7 1
   have x2:=cell_of_arr HN7 2
   simp at x0 x1 x2
   have hzs:Hid ((zeroValue 9).run Tryd.prog u7=.ok (.string ⟨#[]⟩) u7):=by show _=_;kernel_rfl
   have hol2:(Tm.opName t.op).length + 1≤9223372036854775807:=by omega
   have hkl:Hid (keyOf Tryd.prog 3 (.int .i64 t.op)=some (.int .i64 t.op)):=keyOf_int_mk Tryd.underlying3 howf
   clear howf
   go_wp2_with (at_lookup;refine wpList_lookup_str _ rfl _ _ 78 rfl 3 9 (int_keyed Tryd.underlying3) Tryd.underlying78 Tryd.underlying9 hzs.out w1.heap.size 7 _ rfl hown7.out _ _ rfl hkl.out (Tm.opName t.op) HLA.out ?_)
   rw [ba_one]
   clear x0 x1 x2 hzs hkl hown7
   have HTW:=Lib.hid (HT.out.below HBM7.out)
   have HEW:=Lib.hid (HE.out.below HBM7.out)
   have HPW:=Lib.hid (pure_trans HP1.out HBM7.out)
   go_loopw [3,22] (fun x i W=>∃ j:Nat,i=.int .i64 j∧j≤n∧x=.string ⟨(Tm.opName t.op ++ 40 :: Tm.joined (t.kids.take j)).toArray⟩∧Below u7.heap.size u7 W) (fun _ i _=>n - (intOf i).toNat)
   case atStart=>exact ⟨0,rfl,by omega,rfl,Below.refl _ _⟩
   case round=>
    obtain ⟨j,rfl,hj,rfl,hB⟩:=hrel
    have hLL:(Tm.opName t.op ++ 40 :: Tm.joined (t.kids.take j)).length≤6 + 12 * 100000:=by
     have h1:=Tm.joined_len (t.kids.take j) ((Tm.wfs_iff _).2 fun k hk=>(Tm.wfs_iff _).1 (Tm.wf_kids HWF.out).2 k (List.mem_of_mem_take hk))
     have h2:=Tm.sizes_take_le t.kids j
     have h3:=HSZ.out.2
     simp;omega
    by_cases hjn:j < n
    ·have hjl:j < t.kids.length:=by have:=HLN.out;omega
     obtain ⟨b,o,an,nn,cc,hea,hb,c0,c1,c2,ht⟩:=(HTW.out.below hB).2.2 j hjl
     subst hea
     have PA:=pure_alloc wr (.cells #[.int .i64 t.kids[j].op,.int .i64 t.kids[j].num,.slice an nn cc] 28)
     have hk1:t.kids[j].size≤m:=Nat.le_trans (Tm.size_get hjl) HSZ.out.1
     have hk2:t.kids[j].size≤100000:=Nat.le_trans (Tm.size_get hjl) HSZ.out.2
     have hkl:(Tm.text t.kids[j]).length≤12 * 100000:=by have:=Tm.text_len _ (Tm.wf_kid HWF.out hjl);omega
     have HCL:=Lib.hid (HIH.out t.kids[j] an nn cc _ ok hk1 (ht.below PA) (Tm.wf_kid HWF.out hjl) ((HEW.out.below hB).below PA) hk2)
     have HB:=Lib.hid (hB.trans (PA.mono hB.size))
     have HSN:Hid (Tm.opName t.op ++ 40 :: Tm.joined (t.kids.take (j + 1))=(Tm.opName t.op ++ 40 :: Tm.joined (t.kids.take j)) ++ ((if j=0 then [] else [44,32]) ++ Tm.text t.kids[j])):=by
      show _=_
      rw [Tm.joined_take hjl];simp
     clear hB ht PA hk1 hk2
     generalize t.kids[j]=k at *
     generalize Tm.opName t.op ++ 40 :: Tm.joined (t.kids.take j)=L at *
     have hlt:(j:Int) < n:=by omega
     by_cases hj0:j=0
     ·have HS2:Hid (Tm.opName t.op ++ 40 :: Tm.joined (t.kids.take (j + 1))=L ++ Tm.text k):=by show _=_;rw [HSN.out,if_pos hj0];rfl
      have hjp:¬ ((0:Int) < (j:Int)):=by omega
      clear hj0 HSN
      go_wp2_with fail
      refine HCL.out.mono ?_
      rintro e w3 ⟨rfl,hw3⟩
      simp only [Str]
      have HB3:=Lib.hid (HB.out.trans (hw3.mono HB.out.size))
      clear hw3 c0 c1 c2 HCL HB
      generalize Tm.text k=T at *
      have hb1:L.length + T.length≤9223372036854775807:=by omega
      go_wp2_with fail
      go_roundw
      case rel=>exact ⟨j + 1,by go_num,by omega,by rw [HS2.out,ba_app],HB3.out⟩
      case measure=>simp [intOf];omega
     ·have HS2:Hid (Tm.opName t.op ++ 40 :: Tm.joined (t.kids.take (j + 1))=(L ++ [44,32]) ++ Tm.text k):=by show _=_;rw [HSN.out,if_neg hj0];simp
      have hjp:(0:Int) < (j:Int):=by omega
      clear hj0 HSN
      have hb0:L.length + 2≤9223372036854775807:=by omega
      go_upto_region 9 with fail
      rw [ba_two]
      have hl2:(L ++ [44,32]).length≤8 + 12 * 100000:=by simp;omega
      generalize L ++ [44,32]=L2 at *
      go_wp2_with fail
      refine HCL.out.mono ?_
      rintro e w3 ⟨rfl,hw3⟩
      simp only [Str]
      have HB3:=Lib.hid (HB.out.trans (hw3.mono HB.out.size))
      clear hw3 c0 c1 c2 HCL HB
      generalize Tm.text k=T at *
      have hb1:L2.length + T.length≤9223372036854775807:=by omega
      go_wp2_with fail
      go_roundw
      case rel=>exact ⟨j + 1,by go_num,by omega,by rw [HS2.out,ba_app],HB3.out⟩
      case measure=>simp [intOf];omega
    ·have hjn':¬ ((j:Int) < n):=by omega
     have HB:=Lib.hid (pure_trans HPW.out hB)
     have HTE:Hid (Tm.text t=(Tm.opName t.op ++ 40 :: Tm.joined (t.kids.take j)) ++ [41]):=by
      show _=_
      rw [HTX.out,List.take_of_length_le (by have:=HLN.out;omega)];simp
     clear hB
     generalize Tm.opName t.op ++ 40 :: Tm.joined (t.kids.take j)=L at *
     have hb1:L.length + 1≤9223372036854775807:=by omega
     go_wp2_with fail
     go_ret
     exact ⟨ret_str ((ba_one L 41).trans (by rw [HTE.out])),HB.out⟩
end Go.Proofs.YtkgbjoepjcenlaaDoor
namespace Go.Proofs.YtkgbjoepjcenlaaDoor
open Go.RowKit Go.Maps
def MapOf (D:DataW Unit) (C:List Tm):Prop:=∀ t,Tm.wf t=true→D.atKey (.string (Tm.text t)) (.lit (.bool false))=.lit (.bool (decide (t ∈ C)))
theorem MapOf.nil:MapOf (.map []) []:=fun t _=>rfl
theorem MapOf.add {D:DataW Unit} {C:List Tm} (h:MapOf D C) (hD:IsMap D) {t:Tm} (ht:Tm.wf t=true):MapOf (D.put (.string (Tm.text t)) (.lit (.bool true))) (C ++ [t]):=fun u hu=>by
 by_cases e:u=t
 ·subst e
  rw [atKey_put_same hD (k:=.string (Tm.text u)) (show WideAt.IsKeyLit (.string _) from trivial)];simp
 ·have hne:Lit.string (Tm.text u)≠Lit.string (Tm.text t):=fun h=>e (Tm.text_eq hu ht (by injection h))
  rw [atKey_put_other hne,h u hu]
  simp [e]
def KB (w:World) (K M:Nat) (C:List Tm):Prop:=(∃ v,w.heap[K]?=some (.cells #[v,.map (some M)] 75 (0,0)))∧∃ n D,w.ownsMap Tryd.prog 9 (plainElem Tryd.prog 4) M n D∧n≤100000∧MapOf D C
theorem own_map_keep {w w':World} {k:TypeId} {R:Value→Option (DataW Unit × List MemPlace)} {b n:Nat} {D:DataW Unit} (h:w.ownsMap Tryd.prog k R b n D) (e:w'.heap[b]?=w.heap[b]?):w'.ownsMap Tryd.prog k R b n D:=by
 obtain ⟨es,clock,h1,h2⟩:=h
 exact ⟨es,clock,e.trans h1,h2⟩
theorem own_map_lt {w:World} {k:TypeId} {R:Value→Option (DataW Unit × List MemPlace)} {b n:Nat} {D:DataW Unit} (h:w.ownsMap Tryd.prog k R b n D):b < w.heap.size:=by
 obtain ⟨es,clock,h1,h2⟩:=h
 exact lt_of_block h1
theorem own_map_isMap {w:World} {k:TypeId} {R:Value→Option (DataW Unit × List MemPlace)} {b n:Nat} {D:DataW Unit} (h:w.ownsMap Tryd.prog k R b n D):IsMap D:=by
 obtain ⟨es,clock,h1,h2,h3,rfl⟩:=h
 exact ⟨_,rfl⟩
theorem KB.below {w w':World} {K M:Nat} {C:List Tm} (h:KB w K M C) (k:Below w.heap.size w w'):KB w' K M C:=by
 obtain ⟨⟨v,hv⟩,n,D,hm,hn,hD⟩:=h
 exact ⟨⟨v,Below.keep k hv (lt_of_block hv)⟩,n,D,own_map_keep hm (k.block M (own_map_lt hm)),hn,hD⟩
theorem keyStr (l:List UInt8) (h:l.length≤1000000000):keyOf Tryd.prog 9 (.string ⟨l.toArray⟩)=some (.string l):=by
 have:=Go.WideMaps.keyOf_string_mk (P:=Tryd.prog) Tryd.underlying9 (s:=⟨l.toArray⟩) (by show l.toArray.size≤maxLen;simp [maxLen];omega)
 simpa using this
theorem wp_lookup_bool {P:Program} (w:World) {o:Oper} {a:Act} {K':Act→World→Prop} {Q:Exit→Act→World→Prop}
 (m x:Operand) (t:TypeId) (hop:o.op=Op.lookup t m x false)
 (k e:TypeId) (K:Keyed P k) (ht:P.underlying t=some (.map k e)) (he:P.underlying e=some .bool) (hz:(zeroValue e).run P w=.ok (.bool false) w) (b n:Nat) (D:DataW Unit)
 (hm:a.eval m=.map (some b)) (hown:w.ownsMap P k (plainElem P e) b n D) (key:Value) (kl:Lit) (hx:a.eval x=key) (hkey:keyOf P k key=some kl) (r:Bool) (hat:D.atKey kl (.lit (.bool false))=.lit (.bool r))
 (hK:K' (a.put o.dst (.bool r)) w):o.wp P a w K' Q:=by
 obtain ⟨v,ps,hrun,hv⟩:=hown.lookup K ht hz (zd:=.lit (.bool false)) (zp:=[]) (plainElem_bool he false) hkey
 rw [hat] at hv
 have hvr:v=.bool r:=by
  unfold plainElem at hv
  rw [he] at hv
  cases v <;> simp at hv
  rw [hv.1]
 subst hvr
 unfold Oper.wp
 simp [execOp,hop,hm,hx,hrun,Result.andThen]
 exact hK
set_option maxHeartbeats 400000 in
theorem pub_any (k:Tm) (a:Option Addr) (n c:Nat) (w:World) (ok:Nat→Prop) (hT:TR ok w k a n) (hnc:n≤c):
 Calls Tryd.prog 49 #[.agg #[.int .i64 k.op,.int .i64 k.num,.slice a n c]] w fun e w'=>∃ g,e=.returned (.agg #[.int .i64 6,.int .i64 0,.slice (some ⟨g,0,none⟩) 1 1])∧TR (fun b=>ok b∨w.heap.size≤b) w' (Tm.pub k) (some ⟨g,0,none⟩) 1∧Below w.heap.size w w':=by
 have HT:=Lib.hid hT
 clear hT
 go_enter Tryd.func49,Tryd.ntmps49
 go_wp2_with fail
 have W3:Hid (Below w.heap.size w (((w.alloc (.cells #[.int .i64 k.op,.int .i64 k.num,.slice a n c] 28)).alloc (.cells #[.int .i64 6,.int .i64 0,.slice (some ⟨w.heap.size + 1 + 1,0,none⟩) 1 1] 28)).alloc (.cells #[.int .i64 k.op,.int .i64 k.num,.slice a n c] 28))):=((pure_alloc _ _).alloc (by simp) _).alloc (by simp;omega) _
 have N2:(((w.alloc (.cells #[.int .i64 k.op,.int .i64 k.num,.slice a n c] 28)).alloc (.cells #[.int .i64 6,.int .i64 0,.slice (some ⟨w.heap.size + 1 + 1,0,none⟩) 1 1] 28)).alloc (.cells #[.int .i64 k.op,.int .i64 k.num,.slice a n c] 28)).heap[w.heap.size + 1 + 1]?=some (.cells #[.int .i64 k.op,.int .i64 k.num,.slice a n c] 28 (0,0)):=alloc_new' _ _ _ (by simp)
 have N1:(((w.alloc (.cells #[.int .i64 k.op,.int .i64 k.num,.slice a n c] 28)).alloc (.cells #[.int .i64 6,.int .i64 0,.slice (some ⟨w.heap.size + 1 + 1,0,none⟩) 1 1] 28)).alloc (.cells #[.int .i64 k.op,.int .i64 k.num,.slice a n c] 28)).heap[w.heap.size + 1]?=some (.cells #[.int .i64 6,.int .i64 0,.slice (some ⟨w.heap.size + 1 + 1,0,none⟩) 1 1] 28 (0,0)):=alloc_keep (alloc_new' _ _ _ (by simp))
 generalize (((w.alloc (.cells #[.int .i64 k.op,.int .i64 k.num,.slice a n c] 28)).alloc (.cells #[.int .i64 6,.int .i64 0,.slice (some ⟨w.heap.size + 1 + 1,0,none⟩) 1 1] 28)).alloc (.cells #[.int .i64 k.op,.int .i64 k.num,.slice a n c] 28))=w3 at *
 have p0:=cell_of_arr N1 0
 have p1:=cell_of_arr N1 1
 have p2:=cell_of_arr N1 2
 simp at p0 p1 p2
 refine bodyPost_ret (v:=.agg #[.int .i64 6,.int .i64 0,.slice (some ⟨w.heap.size + 1 + 1,0,none⟩) 1 1]) (by simp [results,Tryd.results49,go_sem,p0,p1,p2]) rfl ?_
 refine ⟨_,rfl,TR_iff.2 ⟨rfl,by omega,fun j hj=>?_⟩,W3.out⟩
 have e:j=0:=by simp [Tm.pub,Tm.kids] at hj;exact hj
 subst e
 refine ⟨w.heap.size + 1 + 1,0,a,n,c,rfl,⟨.inr (by omega),hnc⟩,cell_of_arr N2 0,cell_of_arr N2 1,cell_of_arr N2 2,(HT.out.below W3.out).imp fun b hb _=>.inl hb⟩
end Go.Proofs.YtkgbjoepjcenlaaDoor
