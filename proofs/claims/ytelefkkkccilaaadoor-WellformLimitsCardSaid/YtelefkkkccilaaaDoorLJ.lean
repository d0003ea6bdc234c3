/- The reference's look at every item, and which items it calls valid. Valid and Encode, of the program and of the reference. The reference's copies of items. Items of numbers, bytes and texts; a deck's numbers. The program's numbers. -/
import Derived.Test.YtelefkkkccilaaaDoorXh
import Derived.Test.YtelefkkkccilaaaDoorXi
import Derived.Test.YtelefkkkccilaaaDoorLC
import Derived.Test.YtelefkkkccilaaaDoorLE
import Derived.Lib.ConvBytes
import Derived.Test.YtelefkkkccilaaaDoorLA
set_option linter.unusedVariables false
set_option linter.unusedSimpArgs false
namespace Go.Proofs.YtelefkkkccilaaaDoor
open Go.RowKit
set_option maxRecDepth 100000
theorem okS_false {d n:Nat} {x:It} (h:It.wf d x=true→It.st x=true→It.nodes x≤n→False):It.okS d x n=false:=by
 rw [Bool.eq_false_iff];intro h1;unfold It.okS at h1;simp only [Bool.and_eq_true,decide_eq_true_eq] at h1;exact h h1.1.1 h1.1.2 h1.2
theorem LP.no {d n:Nat} {x:It} {w:World} {e:Ending} {w':World} (h:LP (-1) w e w') (hr:It.wf d x=true→It.st x=true→It.nodes x≤n→False):LP (It.leftP d x n) w e w':=by
 rw [It.leftP_no (okS_false hr)];exact h
theorem LP.one {d n:Nat} {k:Int} {nn:Nat} {b:List UInt8} {w:World} {e:Ending} {w':World} (h:LP ((n:Int) - 1) w e w') (hw:It.wf d (.mk k nn b [])=true) (hb:b.length≤4096) (hn:1≤n):LP (It.leftP d (.mk k nn b []) n) w e w':=by
 have hs:It.okS d (.mk k nn b []) n=true:=by
  unfold It.okS;rw [hw,show It.st (.mk k nn b [])=(decide (b.length≤4096) && true) from rfl,decide_eq_true hb,show It.nodes (.mk k nn b [])=1 from rfl,decide_eq_true hn]
  rfl
 rw [It.leftP_ok hs];exact h
theorem okS_cont {d n m:Nat} {k:Int} {ks:List It} (hd:0 < d) (hn:n < 18446744073709551616) (hk:k=4∨k=5∨k=6) (h6:k=6→ks.length=1) (h0:k≠6→n=0) (h5:k=5→ks.length % 2=0) (hm:1≤m):
 It.okS d (.mk k n [] ks) m=(It.okSL (d - 1) ks (m - 1) && (if k=5 then It.asc .none ks else true)):=by
 have hw:It.wf d (.mk k n [] ks)=((if k=5 then It.asc .none ks else true) && It.wfs (d - 1) ks):=by
  rcases hk with rfl | rfl | rfl
  ·simp [It.wf,hd,h0 (by decide)]
  ·simp [It.wf,hd,h0 (by decide),h5 rfl]
  ·simp [It.wf,hd,hn,h6 rfl]
 unfold It.okS It.okSL;rw [hw,show It.st (.mk k n [] ks)=(decide (([]:List UInt8).length≤4096) && It.sts ks) from rfl,show It.nodes (.mk k n [] ks)=1 + It.nodesL ks from rfl];have e:decide (1 + It.nodesL ks≤m)=decide (It.nodesL ks≤m - 1):=by rw [decide_eq_decide];omega
 rw [e];generalize (if k=5 then It.asc .none ks else true)=p;cases p <;> cases It.wfs (d - 1) ks <;> simp
set_option maxHeartbeats 4000000 in
theorem left_step (d:Nat) (hd8:d≤8) (ih:0 < d→LeftC (d - 1)):LeftC d:=by
 intro x A w ok n N D hI hE hN hn hD;subst hN;have hnn:=hI.num;have hnb:=hI.nb.1;have hni:=hI.ni.1;have hbr:=hI.br;have htl:=hI.tl;have hcb:=hI.caps.1;have hcn:=hI.ni.2;cases x with
 | mk k m b ks=>
   simp only [It.kind,It.num,It.bytes,It.kids] at *;have x0:(0:Int)≤(n:Int):=by omega
   have x1:(n:Int)≤256:=by omega
   have hnd:It.nodes (.mk k m b ks)=1 + It.nodesL ks:=rfl;have hkl:=It.length_le_nodesL ks;by_cases hx:(n:Int) < 1
   ·exact (left_few k m n D A.ab A.ai A.nb A.cb A.ni A.ci w x0 x1 hx).mono fun e w' h=>h.no fun _ _ h=>by omega
   have hx1:1≤n:=by omega
   by_cases hneg:k < 0
   ·exact (left_neg k m n D A.ab A.ai A.nb A.cb A.ni A.ci w x0 x1 hx hneg).mono fun e w' h=>h.no fun h _ _=>wf_none (by omega) h
   by_cases hbig:8 < k
   ·exact (left_big k m n D A.ab A.ai A.nb A.cb A.ni A.ci w x0 x1 hx hbig).mono fun e w' h=>h.no fun h _ _=>wf_none (by omega) h
   have eb:A.nb=0→b=[]:=fun h=>List.eq_nil_of_length_eq_zero (by omega)
   have ei:A.ni=0→ks=[]:=fun h=>List.eq_nil_of_length_eq_zero (by omega)
   have wb:¬ (k=2∨k=3)→0 < (A.nb:Int)→It.wf d (.mk k m b ks)=true→False:=fun h1 h2 hw=>by
    obtain ⟨_,h⟩:=wf_kinds hw;have hb0:b=[]:=by
     rcases h with ⟨_,rfl,_⟩ | ⟨h,_⟩ | ⟨_,rfl,_⟩ | ⟨_,rfl,_⟩ | ⟨_,rfl,_⟩
     ·rfl
     ·exact absurd h h1
     ·rfl
     ·rfl
     ·rfl
    rw [hb0,List.length_nil] at hnb;omega
   have wi:¬ (k=4∨k=5∨k=6)→0 < (A.ni:Int)→It.wf d (.mk k m b ks)=true→False:=fun h1 h2 hw=>by
    obtain ⟨_,h⟩:=wf_kinds hw;have hb0:ks=[]:=by
     rcases h with ⟨_,_,rfl⟩ | ⟨_,_,rfl,_⟩ | ⟨_,_,rfl,_⟩ | ⟨_,_,rfl,_⟩ | ⟨h,_⟩
     ·rfl
     ·rfl
     ·rfl
     ·rfl
     ·exact absurd h h1
    rw [hb0,List.length_nil] at hni;omega
   have hk:k=0∨k=1∨k=2∨k=3∨k=4∨k=5∨k=6∨k=7∨k=8:=by omega
   rcases hk with rfl | rfl | rfl | rfl | rfl | rfl | rfl | rfl | rfl
   ·by_cases h1:0 < (A.nb:Int)
    ·exact (left_0_bytes m n D A.ab A.ai A.nb A.cb A.ni A.ci w x0 x1 hx h1).mono fun e w' h=>h.no fun h _ _=>wb (by decide) h1 h
    by_cases h2:0 < (A.ni:Int)
    ·exact (left_0_items m n D A.ab A.ai A.nb A.cb A.ni A.ci w x0 x1 hx (by omega) h2).mono fun e w' h=>h.no fun h _ _=>wi (by decide) h2 h
    refine (left_0 m n D A.ab A.ai A.nb A.cb A.ni A.ci w x0 x1 hx (by omega) (by omega)).mono fun e w' h=>?_
    rw [eb (by omega),ei (by omega)];exact h.one (by rw [wf_0 (.inl rfl) hnn];rfl) (by simp) hx1
   ·by_cases h1:0 < (A.nb:Int)
    ·exact (left_1_bytes m n D A.ab A.ai A.nb A.cb A.ni A.ci w x0 x1 hx h1).mono fun e w' h=>h.no fun h _ _=>wb (by decide) h1 h
    by_cases h2:0 < (A.ni:Int)
    ·exact (left_1_items m n D A.ab A.ai A.nb A.cb A.ni A.ci w x0 x1 hx (by omega) h2).mono fun e w' h=>h.no fun h _ _=>wi (by decide) h2 h
    refine (left_1 m n D A.ab A.ai A.nb A.cb A.ni A.ci w x0 x1 hx (by omega) (by omega)).mono fun e w' h=>?_
    rw [eb (by omega),ei (by omega)];exact h.one (by rw [wf_0 (.inr rfl) hnn];rfl) (by simp) hx1
   ·by_cases h2:0 < (A.ni:Int)
    ·exact (left_2_items m n D A.ab A.ai A.nb A.cb A.ni A.ci w x0 x1 hx h2).mono fun e w' h=>h.no fun h _ _=>wi (by decide) h2 h
    have hks:=ei (by omega);subst hks;by_cases h3:(m:Int)=0
    ·by_cases h4:4096 < (A.nb:Int)
     ·exact (left_2_long m n D A.ab A.ai A.nb A.cb A.ni A.ci w x0 x1 hx (by omega) h3 h4).mono fun e w' h=>h.no fun _ hs _=>by
       unfold It.st at hs;simp only [Bool.and_eq_true,decide_eq_true_eq] at hs;omega
     ·exact (left_2 m n D A.ab A.ai A.nb A.cb A.ni A.ci w x0 x1 hx (by omega) h3 h4).mono fun e w' h=>h.one (by rw [wf_2 hnn,decide_eq_true h3];rfl) (by omega) hx1
    ·exact (left_2_num m n D A.ab A.ai A.nb A.cb A.ni A.ci w x0 x1 hx (by omega) h3).mono fun e w' h=>h.no fun h _ _=>by
      rw [wf_2 hnn,decide_eq_false h3] at h;cases h
   ·by_cases h2:0 < (A.ni:Int)
    ·exact (left_3_items m n D A.ab A.ai A.nb A.cb A.ni A.ci w x0 x1 hx h2).mono fun e w' h=>h.no fun h _ _=>wi (by decide) h2 h
    have hks:=ei (by omega);subst hks;by_cases h3:(m:Int)=0
    ·by_cases h4:4096 < (A.nb:Int)
     ·exact (left_3_long m n D A.ab A.ai A.nb A.cb A.ni A.ci w x0 x1 hx (by omega) h3 h4).mono fun e w' h=>h.no fun _ hs _=>by
       unfold It.st at hs;simp only [Bool.and_eq_true,decide_eq_true_eq] at hs;omega
     ·have hV:∀ W,Below w.heap.size w W→Calls Tryd.prog 55 #[.slice A.ab A.nb A.cb] W fun e w'=>e=.returned (.bool (Lib.validD b))∧Below W.heap.size W w':=fun W hB=>valid_any (hE.below hB) (hbr.below hB) hcb.1 _ rfl
      cases hv:Lib.validD b with
      | false=>
        rw [hv] at hV;exact (left_3_text m n D A.ab A.ai A.nb A.cb A.ni A.ci w x0 x1 hx (by omega) h3 h4 hV).mono fun e w' h=>h.no fun h _ _=>by
         rw [wf_3 hnn,hv,Bool.and_false] at h;cases h
      | true=>
        rw [hv] at hV;exact (left_3 m n D A.ab A.ai A.nb A.cb A.ni A.ci w x0 x1 hx (by omega) h3 h4 hV).mono fun e w' h=>h.one (by rw [wf_3 hnn,decide_eq_true h3,hv];rfl) (by omega) hx1
    ·exact (left_3_num m n D A.ab A.ai A.nb A.cb A.ni A.ci w x0 x1 hx (by omega) h3).mono fun e w' h=>h.no fun h _ _=>by
      rw [wf_3 hnn,decide_eq_false h3] at h;cases h
   ·by_cases h1:0 < (A.nb:Int)
    ·exact (left_4_bytes m n D A.ab A.ai A.nb A.cb A.ni A.ci w x0 x1 hx h1).mono fun e w' h=>h.no fun h _ _=>wb (by decide) h1 h
    have hb:=eb (by omega);subst hb;by_cases h3:(m:Int)=0
    ·by_cases h4:8≤D
     ·exact (left_4_deep m n D A.ab A.ai A.nb A.cb A.ni A.ci w x0 x1 hx (by omega) h3 h4).mono fun e w' h=>h.no fun h _ _=>by
       obtain ⟨_,h⟩:=wf_kinds h;omega
     by_cases h5:(n:Int) - 1 < (A.ni:Int)
     ·exact (left_4_many m n D A.ab A.ai A.nb A.cb A.ni A.ci w x0 x1 hx (by omega) h3 (by omega) h5 hcn).mono fun e w' h=>h.no fun _ _ h=>by omega
     have hc:=okS_cont (d:=d) (n:=m) (m:=n) (k:=4) (ks:=ks) (by omega) hnn (by omega) (fun h=>by omega) (fun _=>by omega) (fun h=>by omega) hx1;rw [if_neg (by decide),Bool.and_true] at hc;by_cases h7:A.ni=0
     ·have hks:=ei h7
      subst hks;exact (left_4_empty m n D A.ab A.ai A.nb A.cb A.ni A.ci w x0 x1 hx (by omega) h3 (by omega) h7).mono fun e w' h=>h.one (by
       have hd0:0 < d:=by omega
       have hm0:m=0:=by omega
       simp [It.wf,It.wfs,It.asc,hd0,hm0]) (by simp) hx1
     refine left_4_kids m n D A.ab A.ai A.nb A.cb A.ni A.ci w x0 x1 hx (by omega) h3 h5 (by omega) (by omega) (by omega) (d - 1) (ih (by omega)) (by omega) ks ok htl hE (n - 1) (by omega) _ rfl _ (fun h=>?_) (fun h=>?_)
     ·rw [It.leftP_ok (hc.trans h)];omega
     ·rw [It.leftP_no (hc.trans h)]
    ·exact (left_4_num m n D A.ab A.ai A.nb A.cb A.ni A.ci w x0 x1 hx (by omega) h3).mono fun e w' h=>h.no fun h _ _=>by
      obtain ⟨_,h⟩:=wf_kinds h;rcases h with ⟨h,_⟩ | ⟨h,_⟩ | ⟨h,_⟩ | ⟨h,_⟩ | ⟨_,_,_,_,g2,_⟩
      ·omega
      ·omega
      ·omega
      ·omega
      ·have:=g2 (by decide);omega
   ·by_cases h1:0 < (A.nb:Int)
    ·exact (left_5_bytes m n D A.ab A.ai A.nb A.cb A.ni A.ci w x0 x1 hx h1).mono fun e w' h=>h.no fun h _ _=>wb (by decide) h1 h
    have hb:=eb (by omega);subst hb;by_cases h3:(m:Int)=0
    ·by_cases h4:8≤D
     ·exact (left_5_deep m n D A.ab A.ai A.nb A.cb A.ni A.ci w x0 x1 hx (by omega) h3 h4).mono fun e w' h=>h.no fun h _ _=>by
       obtain ⟨_,h⟩:=wf_kinds h;omega
     by_cases h6:A.ni % 2=1
     ·exact (left_5_odd m n D A.ab A.ai A.nb A.cb A.ni A.ci w x0 x1 hx (by omega) h3 (by omega) h6 hcn).mono fun e w' h=>h.no fun h _ _=>by
       obtain ⟨_,h⟩:=wf_kinds h;rcases h with ⟨h,_⟩ | ⟨h,_⟩ | ⟨h,_⟩ | ⟨h,_⟩ | ⟨_,_,_,_,_,g3,_⟩
       ·omega
       ·omega
       ·omega
       ·omega
       ·have:=(g3 rfl).1;omega
     by_cases h5:(n:Int) - 1 < (A.ni:Int)
     ·exact (left_5_many m n D A.ab A.ai A.nb A.cb A.ni A.ci w x0 x1 hx (by omega) h3 (by omega) (by omega) h5 hcn).mono fun e w' h=>h.no fun _ _ h=>by omega
     have hc:=okS_cont (d:=d) (n:=m) (m:=n) (k:=5) (ks:=ks) (by omega) hnn (by omega) (fun h=>by omega) (fun _=>by omega) (fun h=>by omega) hx1;rw [if_pos rfl] at hc;by_cases h7:A.ni=0
     ·have hks:=ei h7
      subst hks;exact (left_5_empty m n D A.ab A.ai A.nb A.cb A.ni A.ci w x0 x1 hx (by omega) h3 (by omega) h7).mono fun e w' h=>h.one (by
       have hd0:0 < d:=by omega
       have hm0:m=0:=by omega
       simp [It.wf,It.wfs,It.asc,hd0,hm0]) (by simp) hx1
     refine left_5_kids m n D A.ab A.ai A.nb A.cb A.ni A.ci w x0 x1 hx (by omega) h3 (by omega) h5 (by omega) (by omega) (by omega) (d - 1) (ih (by omega)) (by omega) ks ok htl hE (n - 1) (by omega) _ rfl _ _ rfl (fun h=>?_) (fun h=>?_)
     ·rw [It.leftP_ok (hc.trans h)];omega
     ·rw [It.leftP_no (hc.trans h)]
    ·exact (left_5_num m n D A.ab A.ai A.nb A.cb A.ni A.ci w x0 x1 hx (by omega) h3).mono fun e w' h=>h.no fun h _ _=>by
      obtain ⟨_,h⟩:=wf_kinds h;rcases h with ⟨h,_⟩ | ⟨h,_⟩ | ⟨h,_⟩ | ⟨h,_⟩ | ⟨_,_,_,_,g2,_⟩
      ·omega
      ·omega
      ·omega
      ·omega
      ·have:=g2 (by decide);omega
   ·by_cases h1:0 < (A.nb:Int)
    ·exact (left_6_bytes m n D A.ab A.ai A.nb A.cb A.ni A.ci w x0 x1 hx h1).mono fun e w' h=>h.no fun h _ _=>wb (by decide) h1 h
    have hb:=eb (by omega);subst hb;by_cases h4:8≤D
    ·exact (left_6_deep m n D A.ab A.ai A.nb A.cb A.ni A.ci w x0 x1 hx (by omega) h4).mono fun e w' h=>h.no fun h _ _=>by
      obtain ⟨_,h⟩:=wf_kinds h;omega
    by_cases h6:A.ni=1
    ·by_cases h5:(n:Int) - 1 < (A.ni:Int)
     ·exact (left_6_many m n D A.ab A.ai A.nb A.cb A.ni A.ci w x0 x1 hx (by omega) (by omega) h6 h5).mono fun e w' h=>h.no fun _ _ h=>by omega
     have hc:=okS_cont (d:=d) (n:=m) (m:=n) (k:=6) (ks:=ks) (by omega) hnn (by omega) (fun _=>by omega) (fun h=>by omega) (fun h=>by omega) hx1;rw [if_neg (by decide),Bool.and_true] at hc;refine left_6_kids m n D A.ab A.ai A.nb A.cb A.ni A.ci w x0 x1 hx (by omega) h6 h5 (by omega) (by omega) (d - 1) (ih (by omega)) (by omega) ks ok htl hE (n - 1) (by omega) _ rfl _ (fun h=>?_) (fun h=>?_)
     ·rw [It.leftP_ok (hc.trans h)];omega
     ·rw [It.leftP_no (hc.trans h)]
    ·exact (left_6_shape m n D A.ab A.ai A.nb A.cb A.ni A.ci w x0 x1 hx (by omega) (by omega) h6).mono fun e w' h=>h.no fun h _ _=>by
      obtain ⟨_,h⟩:=wf_kinds h;rcases h with ⟨h,_⟩ | ⟨h,_⟩ | ⟨h,_⟩ | ⟨h,_⟩ | ⟨_,_,_,g1,_⟩
      ·omega
      ·omega
      ·omega
      ·omega
      ·have:=g1 rfl;omega
   ·by_cases h1:0 < (A.nb:Int)
    ·exact (left_7_bytes m n D A.ab A.ai A.nb A.cb A.ni A.ci w x0 x1 hx h1).mono fun e w' h=>h.no fun h _ _=>wb (by decide) h1 h
    by_cases h2:0 < (A.ni:Int)
    ·exact (left_7_items m n D A.ab A.ai A.nb A.cb A.ni A.ci w x0 x1 hx (by omega) h2).mono fun e w' h=>h.no fun h _ _=>wi (by decide) h2 h
    have hb:=eb (by omega);have hks:=ei (by omega);subst hb hks;have hwf:=wf_7 (d:=d) (b:=[]) (ks:=[]) hnn;have hbad:¬ ((m:Int) < 24∨32≤(m:Int)∧(m:Int) < 256)→It.wf d (.mk 7 m [] [])=true→False:=fun h1 h2=>by
     rw [hwf] at h2;simp only [Bool.and_eq_true,Bool.or_eq_true,decide_eq_true_eq] at h2;exact h1 h2.2
    by_cases h3:255 < (m:Int)
    ·exact (left_7_over m n D A.ab A.ai A.nb A.cb A.ni A.ci w x0 x1 hx (by omega) (by omega) h3).mono fun e w' h=>h.no fun h _ _=>hbad (by omega) h
    by_cases h4:23 < (m:Int)
    ·by_cases h5:(m:Int) < 32
     ·exact (left_7_gap m n D A.ab A.ai A.nb A.cb A.ni A.ci w x0 x1 hx (by omega) (by omega) h4 h5).mono fun e w' h=>h.no fun h _ _=>hbad (by omega) h
     ·exact (left_7_high m n D A.ab A.ai A.nb A.cb A.ni A.ci w x0 x1 hx (by omega) (by omega) (by omega) (by omega)).mono fun e w' h=>h.one (by
       rw [hwf,decide_eq_true (show 32≤(m:Int)∧(m:Int) < 256 by omega)];simp) (by simp) hx1
    ·exact (left_7_low m n D A.ab A.ai A.nb A.cb A.ni A.ci w x0 x1 hx (by omega) (by omega) h4).mono fun e w' h=>h.one (by
      rw [hwf,decide_eq_true (show (m:Int) < 24 by omega)];simp) (by simp) hx1
   ·by_cases h1:0 < (A.nb:Int)
    ·exact (left_8_bytes m n D A.ab A.ai A.nb A.cb A.ni A.ci w x0 x1 hx h1).mono fun e w' h=>h.no fun h _ _=>wb (by decide) h1 h
    by_cases h2:0 < (A.ni:Int)
    ·exact (left_8_items m n D A.ab A.ai A.nb A.cb A.ni A.ci w x0 x1 hx (by omega) h2).mono fun e w' h=>h.no fun h _ _=>wi (by decide) h2 h
    have hb:=eb (by omega);have hks:=ei (by omega);subst hb hks;have hwf:=wf_8 (d:=d) (b:=[]) (ks:=[]) hnn;have hV:∀ W,Calls Tryd.prog 57 #[.int .u64 (m:Int)] W fun e w'=>e=.returned (.bool (Fl.isNaN m))∧W=w':=fun W=>isnan_any m m rfl hnn W
    cases hv:Fl.isNaN m with
    | false=>
      rw [hv] at hV;exact (left_8 m n D A.ab A.ai A.nb A.cb A.ni A.ci w x0 x1 hx (by omega) (by omega) hV).mono fun e w' h=>h.one (by rw [hwf,hv];rfl) (by simp) hx1
    | true=>
      rw [hv] at hV;have hm0:(m:Int)≠0:=fun h=>by
       have:m=0:=by omega
       subst this;simp [Fl.isNaN] at hv
      by_cases h3:(m:Int)=9221120237041090560
      ·exact (left_8_nan m n D A.ab A.ai A.nb A.cb A.ni A.ci w x0 x1 hx (by omega) (by omega) hm0 h3 hV).mono fun e w' h=>h.one (by
        rw [hwf,hv,decide_eq_true (show m=Fl.nan by have:Fl.nan=9221120237041090560:=rfl;omega)];rfl) (by simp) hx1
      ·exact (left_8_bad m n D A.ab A.ai A.nb A.cb A.ni A.ci w x0 x1 hx (by omega) (by omega) hm0 h3 hV).mono fun e w' h=>h.no fun h _ _=>by
        rw [hwf,hv,decide_eq_false (show ¬ m=Fl.nan by have:Fl.nan=9221120237041090560:=rfl;omega)] at h;simp at h
theorem left_any:∀ d,d≤8→LeftC d
 | 0,_=>left_step 0 (by omega) fun h=>by omega
 | d + 1,h=>left_step (d + 1) h fun _=>left_any d (by omega)
def EP (x:It) (w:World) (e:Ending) (w':World):Prop:=∃ v,e=.returned (.tuple #[v,.int .i64 (if It.valid x=true then 0 else 1)])∧OwnB w' w.heap.size v (if It.valid x=true then It.enc x else [])∧Below w.heap.size w w'
def VP (V:Bool) (w:World) (e:Ending) (w':World):Prop:=e=.returned (.bool V)∧Below w.heap.size w w'
theorem Env.lt {w:World} (h:Env w):1 < w.heap.size:=by
 have h1:=(h.2 0 (by decide)).1;exact lg (b:=1) h1
set_option maxHeartbeats 4000000 in
theorem cva (x:It) (A:Ad) (w:World) (ok:Nat→Prop) (hI:IR ok w x A) (hE:Env w) (V:Bool) (hV:It.valid x=V):
 Calls Tryd.prog 25 #[.agg #[.int .i64 x.kind,.int .u64 (x.num:Int),.slice A.ab A.nb A.cb,.slice A.ai A.ni A.ci]] w (VP V w):=by
 have h1:=hE.lt;have P0:=al w (.cells #[.int .i64 x.kind,.int .u64 (x.num:Int),.slice A.ab A.nb A.cb,.slice A.ai A.ni A.ci] 31);have N0:=aw w (.cells #[.int .i64 x.kind,.int .u64 (x.num:Int),.slice A.ab A.nb A.cb,.slice A.ai A.ni A.ci] 31);have P1:=al (w.alloc (.cells #[.int .i64 x.kind,.int .u64 (x.num:Int),.slice A.ab A.nb A.cb,.slice A.ai A.ni A.ci] 31)) (.cells #[.int .i64 0,.int .i64 0] 99);have N1:=aw (w.alloc (.cells #[.int .i64 x.kind,.int .u64 (x.num:Int),.slice A.ab A.nb A.cb,.slice A.ai A.ni A.ci] 31)) (.cells #[.int .i64 0,.int .i64 0] 99);have N01:=Below.keep P1 N0 (lb N0);have hsz:(w.alloc (.cells #[.int .i64 x.kind,.int .u64 (x.num:Int),.slice A.ab A.nb A.cb,.slice A.ai A.ni A.ci] 31)).heap.size=w.heap.size + 1:=by simp
 rw [hsz] at N1;have HC:=dh (item_any 8 (by omega) x A ((w.alloc (.cells #[.int .i64 x.kind,.int .u64 (x.num:Int),.slice A.ab A.nb A.cb,.slice A.ai A.ni A.ci] 31)).alloc (.cells #[.int .i64 0,.int .i64 0] 99)) (fun b=>b < w.heap.size) (w.heap.size + 1) 0 0 0 (((hI.imp (ok':=fun b=>b < w.heap.size) fun b _ hl=>hl).below P0).below P1) (fun b hb=>by omega) ((hE.below P0).below P1) (by omega) N1 (by omega) (by omega) (by omega));rw [← It.valid_ok,hV] at HC;have HP:=dh (pt P0 P1);have HS:Hid (w.heap.size≤((w.alloc (.cells #[.int .i64 x.kind,.int .u64 (x.num:Int),.slice A.ab A.nb A.cb,.slice A.ai A.ni A.ci] 31)).alloc (.cells #[.int .i64 0,.int .i64 0] 99)).heap.size):=dh (by simp;omega);obtain ⟨x0,x1,x2,x3⟩:=cf N01;clear P0 P1 N0 N1 N01 hI hE hsz h1 hV;go_enter Tryd.func25,Tryd.ntmps25
 go_wp2_with fail
 refine HC.out.mono ?_;rintro e w6 ⟨rfl,B6,C6⟩;have HB6:=dh (HP.out.trans (B6.below (by omega) HS.out));clear B6 C6;go_wp2_with fail
 go_ret
 exact ⟨rfl,HB6.out⟩
set_option maxHeartbeats 4000000 in
theorem cencode_any (x:It) (A:Ad) (w:World) (ok:Nat→Prop) (hI:IR ok w x A) (hE:Env w):
 Calls Tryd.prog 18 #[.agg #[.int .i64 x.kind,.int .u64 (x.num:Int),.slice A.ab A.nb A.cb,.slice A.ai A.ni A.ci]] w (EP x w):=by
 have P0:=al w (.cells #[.int .i64 x.kind,.int .u64 (x.num:Int),.slice A.ab A.nb A.cb,.slice A.ai A.ni A.ci] 31);have N0:=aw w (.cells #[.int .i64 x.kind,.int .u64 (x.num:Int),.slice A.ab A.nb A.cb,.slice A.ai A.ni A.ci] 31);obtain ⟨x0,x1,x2,x3⟩:=cf N0;have HN0:=dh N0;have HP:=dh P0;unfold EP;cases hv:It.valid x with
 | false=>
   have HC:=dh (cva x A (w.alloc (.cells #[.int .i64 x.kind,.int .u64 (x.num:Int),.slice A.ab A.nb A.cb,.slice A.ai A.ni A.ci] 31)) ok (hI.below P0) (hE.below P0) false hv);clear P0 N0 hI hE hv;go_enter Tryd.func18,Tryd.ntmps18
   go_upto_region 1 with fail
   generalize w.alloc (.cells #[.int .i64 x.kind,.int .u64 (x.num:Int),.slice A.ab A.nb A.cb,.slice A.ai A.ni A.ci] 31)=w1 at *;go_wp2_with fail
   refine HC.out.mono ?_;rintro e w6 ⟨rfl,B6⟩;have HB6:=dh (pt HP.out B6);clear B6 x0 x1 x2 x3;go_wp2_with fail
   go_ret2
   exact ⟨_,rfl,OwnB.nil _ _,HB6.out⟩
 | true=>
   have HC:=dh (cva x A (w.alloc (.cells #[.int .i64 x.kind,.int .u64 (x.num:Int),.slice A.ab A.nb A.cb,.slice A.ai A.ni A.ci] 31)) ok (hI.below P0) (hE.below P0) true hv);have hw:It.wf 8 x=true∧(It.enc x).length≤4096:=by
    unfold It.valid at hv;simp only [Bool.and_eq_true,decide_eq_true_eq] at hv;exact ⟨hv.1.1,hv.2⟩
   have HA:=dh (add_new hw.1 (hI.below P0) (by omega));clear P0 N0 hI hE hv hw;go_enter Tryd.func18,Tryd.ntmps18
   go_upto_region 1 with fail
   generalize w.alloc (.cells #[.int .i64 x.kind,.int .u64 (x.num:Int),.slice A.ab A.nb A.cb,.slice A.ai A.ni A.ci] 31)=w1 at *;go_wp2_with fail
   refine HC.out.mono ?_;rintro e w6 ⟨rfl,B6⟩;have HB6:=dh B6;clear B6 x0 x1 x2 x3;obtain ⟨x0,x1,x2,x3⟩:=cf (Below.keep HB6.out HN0.out (lb HN0.out));go_wp2_with fail
   refine (HA.out w6 HB6.out).mono ?_;rintro e w7 ⟨v,rfl,O7,B7⟩;have HO7:=dh (OwnB.lower O7 (Nat.le_trans HP.out.size HB6.out.size));have HB7:=dh (pt HP.out (pt HB6.out B7));clear O7 B7 x0 x1 x2 x3;go_wp2_with fail
   go_ret2
   exact ⟨_,rfl,HO7.out,HB7.out⟩
set_option maxHeartbeats 4000000 in
theorem rva (x:It) (A:Ad) (w:World) (ok:Nat→Prop) (hI:IR ok w x A) (hE:Env w) (V:Bool) (hV:It.valid x=V):
 Calls Tryd.prog 28 #[.agg #[.int .i64 x.kind,.int .u64 (x.num:Int),.slice A.ab A.nb A.cb,.slice A.ai A.ni A.ci]] w (VP V w):=by
 have P0:=al w (.cells #[.int .i64 x.kind,.int .u64 (x.num:Int),.slice A.ab A.nb A.cb,.slice A.ai A.ni A.ci] 31);have N0:=aw w (.cells #[.int .i64 x.kind,.int .u64 (x.num:Int),.slice A.ab A.nb A.cb,.slice A.ai A.ni A.ci] 31);obtain ⟨x0,x1,x2,x3⟩:=cf N0;have HN0:=dh N0;have HP:=dh P0;have hC:=left_any 8 (by omega) x A (w.alloc (.cells #[.int .i64 x.kind,.int .u64 (x.num:Int),.slice A.ab A.nb A.cb,.slice A.ai A.ni A.ci] 31)) ok 256 256 0 (hI.below P0) (hE.below P0) (by omega) (by omega) (by omega);rw [It.valid_left] at hV;cases hs:It.okS 8 x 256 with
 | false=>
   rw [It.leftP_no hs] at hC;have HC:=dh hC;have HV:Hid (V=false):=dh (by rw [← hV,hs];rfl);clear P0 N0 hI hE hs hV hC;go_enter Tryd.func28,Tryd.ntmps28
   go_upto_region 1 with fail
   generalize w.alloc (.cells #[.int .i64 x.kind,.int .u64 (x.num:Int),.slice A.ab A.nb A.cb,.slice A.ai A.ni A.ci] 31)=w1 at *;go_wp2_with fail
   refine HC.out.mono ?_;rintro e w6 ⟨rfl,B6⟩;have HB6:=dh (pt HP.out B6);clear B6 x0 x1 x2 x3;go_wp2_with fail
   go_ret
   exact ⟨by rw [HV.out];rfl,HB6.out⟩
 | true=>
   have hle:=It.okS_le hs;obtain ⟨q,hq⟩:∃ q,q=256 - It.nodes x:=⟨_,rfl⟩;rw [It.leftP_ok hs,show ((256:Nat):Int) - It.nodes x=(q:Int) by omega] at hC;have hq0:(0:Int)≤(q:Int):=by omega
   have hq0d:decide ((0:Int)≤(q:Int))=true:=decide_eq_true hq0;have hwf:It.wf 8 x=true∧It.st x=true:=by
    unfold It.okS at hs;simp only [Bool.and_eq_true,decide_eq_true_eq] at hs;exact hs.1
   have hel:=It.st_enc hwf.2;have HA:=dh (raw_new hwf.1 (hI.below P0) (by omega));have HC:=dh hC;have HV:Hid (decide ((It.enc x).length≤4096)=V):=dh (by rw [← hV,hs,Bool.true_and]);generalize It.enc x=l at *;clear P0 N0 hI hE hs hV hC hwf hel hle hq;go_enter Tryd.func28,Tryd.ntmps28
   go_upto_region 1 with fail
   generalize w.alloc (.cells #[.int .i64 x.kind,.int .u64 (x.num:Int),.slice A.ab A.nb A.cb,.slice A.ai A.ni A.ci] 31)=w1 at *;go_wp2_with fail
   refine HC.out.mono ?_;rintro e w6 ⟨rfl,B6⟩;have HB6:=dh B6;clear B6 x0 x1 x2 x3;obtain ⟨x0,x1,x2,x3⟩:=cf (Below.keep HB6.out HN0.out (lb HN0.out));go_wp2_with fail
   refine (HA.out w6 HB6.out).mono ?_;rintro e w7 h7;obtain ⟨a7,c7,rfl,z1,z2,z3,z4,B7⟩:=h7.open;have HB7:=dh (pt HP.out (pt HB6.out B7));clear z1 z2 z3 z4 B7 h7 x0 x1 x2 x3;go_wp2_with fail
   go_ret
   refine ⟨?_,HB7.out⟩;rw [← HV.out];simp;omega
theorem IR.flat {ok:Nat→Prop} {w:World} (k:Int) (n:Nat) (hn:n < 18446744073709551616):IR ok w (.mk k n [] []) ⟨none,0,0,none,0,0⟩:=IR_iff.2 ⟨hn,⟨BR.nil _ _ _,by simp,by simp⟩,TL.nil _ _ _,by simp,by simp⟩
end Go.Proofs.YtelefkkkccilaaaDoor
