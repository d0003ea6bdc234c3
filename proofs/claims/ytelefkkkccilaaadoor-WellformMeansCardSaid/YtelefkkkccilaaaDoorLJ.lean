/- The reference's look at every item, and which items it calls valid. Valid and Encode, of the program and of the reference. The reference's copies of items. Items of numbers, bytes and texts; a deck's numbers. The program's numbers. -/
import Derived.Test.YtelefkkkccilaaaDoorXh
import Derived.Test.YtelefkkkccilaaaDoorXi
import Derived.Test.YtelefkkkccilaaaDoorLC
import Derived.Test.YtelefkkkccilaaaDoorLE
import Derived.Lib.ConvBytes
import Derived.Test.YtelefkkkccilaaaDoorLA
set_option linter.unusedVariables false
set_option linter.unusedSimpArgs false
namespace Go.Proofs.YtelefkkkccilaaaDoor
open Go.RowKit
set_option maxRecDepth 100000
theorem okS_false {d n:Nat} {x:It} (h:It.wf d x=true→It.st x=true→It.nodes x≤n→False):It.okS d x n=false:=by
 rw [Bool.eq_false_iff];intro h1;unfold It.okS at h1;simp only [Bool.and_eq_true,decide_eq_true_eq] at h1;exact h h1.1.1 h1.1.2 h1.2
theorem LP.no {d n:Nat} {x:It} {w:World} {e:Ending} {w':World} (h:LP (-1) w e w') (hr:It.wf d x=true→It.st x=true→It.nodes x≤n→False):LP (It.leftP d x n) w e w':=by
 rw [It.leftP_no (okS_false hr)];exact h
theorem LP.one {d n:Nat} {k:Int} {nn:Nat} {b:List UInt8} {w:World} {e:Ending} {w':World} (h:LP ((n:Int) - 1) w e w') (hw:It.wf d (.mk k nn b [])=true) (hb:b.length≤4096) (hn:1≤n):LP (It.leftP d (.mk k nn b []) n) w e w':=by
 have hs:It.okS d (.mk k nn b []) n=true:=by
  unfold It.okS;rw [hw,show It.st (.mk k nn b [])=(decide (b.length≤4096) && true) from rfl,decide_eq_true hb,show It.nodes (.mk k nn b [])=1 from rfl,decide_eq_true hn]
  rfl
 rw [It.leftP_ok hs];exact h
theorem okS_cont {d n m:Nat} {k:Int} {ks:List It} (hd:0 < d) (hn:n < 18446744073709551616) (hk:k=4∨k=5∨k=6) (h6:k=6→ks.length=1) (h0:k≠6→n=0) (h5:k=5→ks.length % 2=0) (hm:1≤m):
 It.okS d (.mk k n [] ks) m=(It.okSL (d - 1) ks (m - 1) && (if k=5 then It.asc .none ks else true)):=by
 have hw:It.wf d (.mk k n [] ks)=((if k=5 then It.asc .none ks else true) && It.wfs (d - 1) ks):=by
  rcases hk with rfl | rfl | rfl
  ·simp [It.wf,hd,h0 (by decide)]
  ·simp [It.wf,hd,h0 (by decide),h5 rfl]
  ·simp [It.wf,hd,hn,h6 rfl]
 unfold It.okS It.okSL;rw [hw,show It.st (.mk k n [] ks)=(decide (([]:List UInt8).length≤4096) && It.sts ks) from rfl,show It.nodes (.mk k n [] ks)=1 + It.nodesL ks from rfl];have e:decide (1 + It.nodesL ks≤m)=decide (It.nodesL ks≤m - 1):=by rw [decide_eq_decide];omega
 rw [e];generalize (if k=5 then It.asc .none ks else true)=p;cases p <;> cases It.wfs (d - 1) ks <;> simp
set_option maxHeartbeats 4000000 in
theorem left_step (d:Nat) (hd8:d≤8) (ih:0 < d→LeftC (d - 1)):LeftC d:=by
 intro x A w ok n N D hI hE hN hn hD;subst hN;have hnn:=hI.num;have hnb:=hI.nb.1;have hni:=hI.ni.1;have hbr:=hI.br;have htl:=hI.tl;have hcb:=hI.caps.1;have hcn:=hI.ni.2;cases x with
 | mk k m b ks=>
   simp only [It.kind,It.num,It.bytes,It.kids] at *;have x0:(0:Int)≤(n:Int):=by omega
   have x1:(n:Int)≤256:=by omega
   have hnd:It.nodes (.mk k m b ks)=1 + It.nodesL ks:=rfl;have hkl:=It.length_le_nodesL ks;by_cases hx:(n:Int) < 1
   ·exact (left_few k m n D A.ab A.ai A.nb A.cb A.ni A.ci w x0 x1 hx).mono fun e w' h=>h.no fun _ _ h=>by omega
   have hx1:1≤n:=by omega
   by_cases hneg:k < 0
   ·exact (left_neg k m n D A.ab A.ai A.nb A.cb A.ni A.ci w x0 x1 hx hneg).mono fun e w' h=>h.no fun h _ _=>wf_none (by omega) h
   by_cases hbig:8 < k
   ·exact (left_big k m n D A.ab A.ai A.nb A.cb A.ni A.ci w x0 x1 hx hbig).mono fun e w' h=>h.no fun h _ _=>wf_none (by omega) h
   have eb:A.nb=0→b=[]:=fun h=>List.eq_nil_of_length_eq_zero (by omega)
   have ei:A.ni=0→ks=[]:=fun h=>List.eq_nil_of_length_eq_zero (by omega)
   have wb:¬ (k=2∨k=3)→0 < (A.nb:Int)→It.wf d (.mk k m b ks)=true→False:=fun h1 h2 hw=>by
    obtain ⟨_,h⟩:=wf_kinds hw;have hb0:b=[]:=by
     rcases h with ⟨_,rfl,_⟩ | ⟨h,_⟩ | ⟨_,rfl,_⟩ | ⟨_,rfl,_⟩ | ⟨_,rfl,_⟩
     ·rfl
     ·exact absurd h h1
     ·rfl
     ·rfl
     ·rfl
    rw [hb0,List.length_nil] at hnb;omega
   have wi:¬ (k=4∨k=5∨k=6)→0 < (A.ni:Int)→It.wf d (.mk k m b ks)=true→False:=fun h1 h2 hw=>by
    obtain ⟨_,h⟩:=wf_kinds hw;have hb0:ks=[]:=by
     rcases h with ⟨_,_,rfl⟩ | ⟨_,_,rfl,_⟩ | ⟨_,_,rfl,_⟩ | ⟨_,_,rfl,_⟩ | ⟨h,_⟩
     ·rfl
     ·rfl
     ·rfl
     ·rfl
     ·exact absurd h h1
    rw [hb0,List.length_nil] at hni;omega
   have hk:k=0∨k=1∨k=2∨k=3∨k=4∨k=5∨k=6∨k=7∨k=8:=by omega
   rcases hk with rfl | rfl | rfl | rfl | rfl | rfl | rfl | rfl | rfl
   ·by_cases h1:0 < (A.nb:Int)
    ·exact (left_0_bytes m n D A.ab A.ai A.nb A.cb A.ni A.ci w x0 x1 hx h1).mono fun e w' h=>h.no fun h _ _=>wb (by decide) h1 h
    by_cases h2:0 < (A.ni:Int)
    ·exact (left_0_items m n D A.ab A.ai A.nb A.cb A.ni A.ci w x0 x1 hx (by omega) h2).mono fun e w' h=>h.no fun h _ _=>wi (by decide) h2 h
    refine (left_0 m n D A.ab A.ai A.nb A.cb A.ni A.ci w x0 x1 hx (by omega) (by omega)).mono fun e w' h=>?_
    rw [eb (by omega),ei (by omega)];exact h.one (by rw [wf_0 (.inl rfl) hnn];rfl) (by simp) hx1
   ·by_cases h1:0 < (A.nb:Int)
    ·exact (left_1_bytes m n D A.ab A.ai A.nb A.cb A.ni A.ci w x0 x1 hx h1).mono fun e w' h=>h.no fun h _ _=>wb (by decide) h1 h
    by_cases h2:0 < (A.ni:Int)
    ·exact (left_1_items m n D A.ab A.ai A.nb A.cb A.ni A.ci w x0 x1 hx (by omega) h2).mono fun e w' h=>h.no fun h _ _=>wi (by decide) h2 h
    refine (left_1 m n D A.ab A.ai A.nb A.cb A.ni A.ci w x0 x1 hx (by omega) (by omega)).mono fun e w' h=>?_
    rw [eb (by omega),ei (by omega)];exact h.one (by rw [wf_0 (.inr rfl) hnn];rfl) (by simp) hx1
   ·by_cases h2:0 < (A.ni:Int)
    ·exact (left_2_items m n D A.ab A.ai A.nb A.cb A.ni A.ci w x0 x1 hx h2).mono fun e w' h=>h.no fun h _ _=>wi (by decide) h2 h
    have hks:=ei (by omega);subst hks;by_cases h3:(m:Int)=0
    ·by_cases h4:4096 < (A.nb:Int)
     ·exact (left_2_long m n D A.ab A.ai A.nb A.cb A.ni A.ci w x0 x1 hx (by omega) h3 h4).mono fun e w' h=>h.no fun _ hs _=>by
       unfold It.st at hs;simp only [Bool.and_eq_true,decide_eq_true_eq] at hs;omega
     ·exact (left_2 m n D A.ab A.ai A.nb A.cb A.ni A.ci w x0 x1 hx (by omega) h3 h4).mono fun e w' h=>h.one (by rw [wf_2 hnn,decide_eq_true h3];rfl) (by omega) hx1
    ·exact (left_2_num m n D A.ab A.ai A.nb A.cb A.ni A.ci w x0 x1 hx (by omega) h3).mono fun e w' h=>h.no fun h _ _=>by
      rw [wf_2 hnn,decide_eq_false h3] at h;cases h
   ·by_cases h2:0 < (A.ni:Int)
    ·exact (left_3_items m n D A.ab A.ai A.nb A.cb A.ni A.ci w x0 x1 hx h2).mono fun e w' h=>h.no fun h _ _=>wi (by decide) h2 h
    have hks:=ei (by omega);subst hks;by_cases h3:(m:Int)=0
    ·by_cases h4:4096 < (A.nb:Int)
     ·exact (left_3_long m n D A.ab A.ai A.nb A.cb A.ni A.ci w x0 x1 hx (by omega) h3 h4).mono fun e w' h=>h.no fun _ hs _=>by
       unfold It.st at hs;simp only [Bool.and_eq_true,decide_eq_true_eq] at hs;omega
     ·have hV:∀ W,Below w.heap.size w W→Calls Tryd.prog 55 #[.slice A.ab A.nb A.cb] W fun e w'=>e=.returned (.bool (Lib.validD b))∧Below W.heap.size W w':=fun W hB=>valid_any (hE.below hB) (hbr.below hB) hcb.1 _ rfl
      cases hv:Lib.validD b with
      | false=>
        rw [hv] at hV;exact (left_3_text m n D A.ab A.ai A.nb A.cb A.ni A.ci w x0 x1 hx (by omega) h3 h4 hV).mono fun e w' h=>h.no fun h _ _=>by
         rw [wf_3 hnn,hv,Bool.and_false] at h;cases h
      | true=>
        rw [hv] at hV;exact (left_3 m n D A.ab A.ai A.nb A.cb A.ni A.ci w x0 x1 hx (by omega) h3 h4 hV).mono fun e w' h=>h.one (by rw [wf_3 hnn,decide_eq_true h3,hv];rfl) (by omega) hx1
    ·exact (left_3_num m n D A.ab A.ai A.nb A.cb A.ni A.ci w x0 x1 hx (by omega) h3).mono fun e w' h=>h.no fun h _ _=>by
      rw [wf_3 hnn,decide_eq_false h3] at h;cases h
   ·by_cases h1:0 < (A.nb:Int)
    ·exact (left_4_bytes m n D A.ab A.ai A.nb A.cb A.ni A.ci w x0 x1 hx h1).mono fun e w' h=>h.no fun h _ _=>wb (by decide) h1 h
    have hb:=eb (by omega);subst hb;by_cases h3:(m:Int)=0
    ·by_cases h4:8≤D
     ·exact (left_4_deep m n D A.ab A.ai A.nb A.cb A.ni A.ci w x0 x1 hx (by omega) h3 h4).mono fun e w' h=>h.no fun h _ _=>by
       obtain ⟨_,h⟩:=wf_kinds h;omega
     by_cases h5:(n:Int) - 1 < (A.ni:Int)
     ·exact (left_4_many m n D A.ab A.ai A.nb A.cb A.ni A.ci w x0 x1 hx (by omega) h3 (by omega) h5 hcn).mono fun e w' h=>h.no fun _ _ h=>by omega
     have hc:=okS_cont (d:=d) (n:=m) (m:=n) (k:=4) (ks:=ks) (by omega) hnn (by omega) (fun h=>by omega) (fun _=>by omega) (fun h=>by omega) hx1;rw [if_neg (by decide),Bool.and_true] at hc;by_cases h7:A.ni=0
     ·have hks:=ei h7
      subst hks;exact (left_4_empty m n D A.ab A.ai A.nb A.cb A.ni A.ci w x0 x1 hx (by omega) h3 (by omega) h7).mono fun e w' h=>h.one (by
       have hd0:0 < d:=by omega
       have hm0:m=0:=by omega
       simp [It.wf,It.wfs,It.asc,hd0,hm0]) (by simp) hx1
     refine left_4_kids m n D A.ab A.ai A.nb A.cb A.ni A.ci w x0 x1 hx (by omega) h3 h5 (by omega) (by omega) (by omega) (d - 1) (ih (by omega)) (by omega) ks ok htl hE (n - 1) (by omega) _ rfl _ (fun h=>?_) (fun h=>?_)
     ·rw [It.leftP_ok (hc.trans h)];omega
     ·rw [It.leftP_no (hc.trans h)]
    ·exact (left_4_num m n D A.ab A.ai A.nb A.cb A.ni A.ci w x0 x1 hx (by omega) h3).mono fun e w' h=>h.no fun h _ _=>by
      obtain ⟨_,h⟩:=wf_kinds h;rcases h with ⟨h,_⟩ | ⟨h,_⟩ | ⟨h,_⟩ | ⟨h,_⟩ | ⟨_,_,_,_,g2,_⟩
      ·omega
      ·omega
      ·omega
      ·omega
      ·have:=g2 (by decide);omega
   ·by_cases h1:0 < (A.nb:Int)
    ·exact (left_5_bytes m n D A.ab A.ai A.nb A.cb A.ni A.ci w x0 x1 hx h1).mono fun e w' h=>h.no fun h _ _=>wb (by decide) h1 h
    have hb:=eb (by omega);subst hb;by_cases h3:(m:Int)=0
    ·by_cases h4:8≤D
     ·exact (left_5_deep m n D A.ab A.ai A.nb A.cb A.ni A.ci w x0 x1 hx (by omega) h3 h4).mono fun e w' h=>h.no fun h _ _=>by
       obtain ⟨_,h⟩:=wf_kinds h;omega
     by_cases h6:A.ni % 2=1
     ·exact (left_5_odd m n D A.ab A.ai A.nb A.cb A.ni A.ci w x0 x1 hx (by omega) h3 (by omega) h6 hcn).mono fun e w' h=>h.no fun h _ _=>by
       obtain ⟨_,h⟩:=wf_kinds h;rcases h with ⟨h,_⟩ | ⟨h,_⟩ | ⟨h,_⟩ | ⟨h,_⟩ | ⟨_,_,_,_,_,g3,_⟩
       ·omega
       ·omega
       ·omega
       ·omega
       ·have:=(g3 rfl).1;omega
     by_cases h5:(n:Int) - 1 < (A.ni:Int)
     ·exact (left_5_many m n D A.ab A.ai A.nb A.cb A.ni A.ci w x0 x1 hx (by omega) h3 (by omega) (by omega) h5 hcn).mono fun e w' h=>h.no fun _ _ h=>by omega
     have hc:=okS_cont (d:=d) (n:=m) (m:=n) (k:=5) (ks:=ks) (by omega) hnn (by omega) (fun h=>by omega) (fun _=>by omega) (fun h=>by omega) hx1;rw [if_pos rfl] at hc;by_cases h7:A.ni=0
     ·have hks:=ei h7
      subst hks;exact (left_5_empty m n D A.ab A.ai A.nb A.cb A.ni A.ci w x0 x1 hx (by omega) h3 (by omega) h7).mono fun e w' h=>h.one (by
       have hd0:0 < d:=by omega
       have hm0:m=0:=by omega
       simp [It.wf,It.wfs,It.asc,hd0,hm0]) (by simp) hx1
     refine left_5_kids m n D A.ab A.ai A.nb A.cb A.ni A.ci w x0 x1 hx (by omega) h3 (by omega) h5 (by omega) (by omega) (by omega) (d - 1) (ih (by omega)) (by omega) ks ok htl hE (n - 1) (by omega) _ rfl _ _ rfl (fun h=>?_) (fun h=>?_)
     ·rw [It.leftP_ok (hc.trans h)];omega
     ·rw [It.leftP_no (hc.trans h)]
    ·exact (left_5_num m n D A.ab A.ai A.nb A.cb A.ni A.ci w x0 x1 hx (by omega) h3).mono fun e w' h=>h.no fun h _ _=>by
      obtain ⟨_,h⟩:=wf_kinds h;rcases h with ⟨h,_⟩ | ⟨h,_⟩ | ⟨h,_⟩ | ⟨h,_⟩ | ⟨_,_,_,_,g2,_⟩
      ·omega
      ·omega
      ·omega
      ·omega
      ·have:=g2 (by decide);omega
   ·by_cases h1:0 < (A.nb:Int)
    ·exact (left_6_bytes m n D A.ab A.ai A.nb A.cb A.ni A.ci w x0 x1 hx h1).mono fun e w' h=>h.no fun h _ _=>wb (by decide) h1 h
    have hb:=eb (by omega);subst hb;by_cases h4:8≤D
    ·exact (left_6_deep m n D A.ab A.ai A.nb A.cb A.ni A.ci w x0 x1 hx (by omega) h4).mono fun e w' h=>h.no fun h _ _=>by
      obtain ⟨_,h⟩:=wf_kinds h;omega
    by_cases h6:A.ni=1
    ·by_cases h5:(n:Int) - 1 < (A.ni:Int)
     ·exact (left_6_many m n D A.ab A.ai A.nb A.cb A.ni A.ci w x0 x1 hx (by omega) (by omega) h6 h5).mono fun e w' h=>h.no fun _ _ h=>by omega
     have hc:=okS_cont (d:=d) (n:=m) (m:=n) (k:=6) (ks:=ks) (by omega) hnn (by omega) (fun _=>by omega) (fun h=>by omega) (fun h=>by omega) hx1;rw [if_neg (by decide),Bool.and_true] at hc;refine left_6_kids m n D A.ab A.ai A.nb A.cb A.ni A.ci w x0 x1 hx (by omega) h6 h5 (by omega) (by omega) (d - 1) (ih (by omega)) (by omega) ks ok htl hE (n - 1) (by omega) _ rfl _ (fun h=>?_) (fun h=>?_)
     ·rw [It.leftP_ok (hc.trans h)];omega
     ·rw [It.leftP_no (hc.trans h)]
    ·exact (left_6_shape m n D A.ab A.ai A.nb A.cb A.ni A.ci w x0 x1 hx (by omega) (by omega) h6).mono fun e w' h=>h.no fun h _ _=>by
      obtain ⟨_,h⟩:=wf_kinds h;rcases h with ⟨h,_⟩ | ⟨h,_⟩ | ⟨h,_⟩ | ⟨h,_⟩ | ⟨_,_,_,g1,_⟩
      ·omega
      ·omega
      ·omega
      ·omega
      ·have:=g1 rfl;omega
   ·by_cases h1:0 < (A.nb:Int)
    ·exact (left_7_bytes m n D A.ab A.ai A.nb A.cb A.ni A.ci w x0 x1 hx h1).mono fun e w' h=>h.no fun h _ _=>wb (by decide) h1 h
    by_cases h2:0 < (A.ni:Int)
    ·exact (left_7_items m n D A.ab A.ai A.nb A.cb A.ni A.ci w x0 x1 hx (by omega) h2).mono fun e w' h=>h.no fun h _ _=>wi (by decide) h2 h
    have hb:=eb (by omega);have hks:=ei (by omega);subst hb hks;have hwf:=wf_7 (d:=d) (b:=[]) (ks:=[]) hnn;have hbad:¬ ((m:Int) < 24∨32≤(m:Int)∧(m:Int) < 256)→It.wf d (.mk 7 m [] [])=true→False:=fun h1 h2=>by
     rw [hwf] at h2;simp only [Bool.and_eq_true,Bool.or_eq_true,decide_eq_true_eq] at h2;exact h1 h2.2
    by_cases h3:255 < (m:Int)
    ·exact (left_7_over m n D A.ab A.ai A.nb A.cb A.ni A.ci w x0 x1 hx (by omega) (by omega) h3).mono fun e w' h=>h.no fun h _ _=>hbad (by omega) h
    by_cases h4:23 < (m:Int)
    ·by_cases h5:(m:Int) < 32
     ·exact (left_7_gap m n D A.ab A.ai A.nb A.cb A.ni A.ci w x0 x1 hx (by omega) (by omega) h4 h5).mono fun e w' h=>h.no fun h _ _=>hbad (by omega) h
     ·exact (left_7_high m n D A.ab A.ai A.nb A.cb A.ni A.ci w x0 x1 hx (by omega) (by omega) (by omega) (by omega)).mono fun e w' h=>h.one (by
       rw [hwf,decide_eq_true (show 32≤(m:Int)∧(m:Int) < 256 by omega)];simp) (by simp) hx1
    ·exact (left_7_low m n D A.ab A.ai A.nb A.cb A.ni A.ci w x0 x1 hx (by omega) (by omega) h4).mono fun e w' h=>h.one (by
      rw [hwf,decide_eq_true (show (m:Int) < 24 by omega)];simp) (by simp) hx1
   ·by_cases h1:0 < (A.nb:Int)
    ·exact (left_8_bytes m n D A.ab A.ai A.nb A.cb A.ni A.ci w x0 x1 hx h1).mono fun e w' h=>h.no fun h _ _=>wb (by decide) h1 h
    by_cases h2:0 < (A.ni:Int)
    ·exact (left_8_items m n D A.ab A.ai A.nb A.cb A.ni A.ci w x0 x1 hx (by omega) h2).mono fun e w' h=>h.no fun h _ _=>wi (by decide) h2 h
    have hb:=eb (by omega);have hks:=ei (by omega);subst hb hks;have hwf:=wf_8 (d:=d) (b:=[]) (ks:=[]) hnn;have hV:∀ W,Calls Tryd.prog 57 #[.int .u64 (m:Int)] W fun e w'=>e=.returned (.bool (Fl.isNaN m))∧W=w':=fun W=>isnan_any m m rfl hnn W
    cases hv:Fl.isNaN m with
    | false=>
      rw [hv] at hV;exact (left_8 m n D A.ab A.ai A.nb A.cb A.ni A.ci w x0 x1 hx (by omega) (by omega) hV).mono fun e w' h=>h.one (by rw [hwf,hv];rfl) (by simp) hx1
    | true=>
      rw [hv] at hV;have hm0:(m:Int)≠0:=fun h=>by
       have:m=0:=by omega
       subst this;simp [Fl.isNaN] at hv
      by_cases h3:(m:Int)=9221120237041090560
      ·exact (left_8_nan m n D A.ab A.ai A.nb A.cb A.ni A.ci w x0 x1 hx (by omega) (by omega) hm0 h3 hV).mono fun e w' h=>h.one (by
        rw [hwf,hv,decide_eq_true (show m=Fl.nan by have:Fl.nan=9221120237041090560:=rfl;omega)];rfl) (by simp) hx1
      ·exact (left_8_bad m n D A.ab A.ai A.nb A.cb A.ni A.ci w x0 x1 hx (by omega) (by omega) hm0 h3 hV).mono fun e w' h=>h.no fun h _ _=>by
        rw [hwf,hv,decide_eq_false (show ¬ m=Fl.nan by have:Fl.nan=9221120237041090560:=rfl;omega)] at h;simp at h
theorem left_any:∀ d,d≤8→LeftC d
 | 0,_=>left_step 0 (by omega) fun h=>by omega
 | d + 1,h=>left_step (d + 1) h fun _=>left_any d (by omega)
def EP (x:It) (w:World) (e:Ending) (w':World):Prop:=∃ v,e=.returned (.tuple #[v,.int .i64 (if It.valid x=true then 0 else 1)])∧OwnB w' w.heap.size v (if It.valid x=true then It.enc x else [])∧Below w.heap.size w w'
def VP (V:Bool) (w:World) (e:Ending) (w':World):Prop:=e=.returned (.bool V)∧Below w.heap.size w w'
theorem Env.lt {w:World} (h:Env w):1 < w.heap.size:=by
 have h1:=(h.2 0 (by decide)).1;exact lg (b:=1) h1
set_option maxHeartbeats 4000000 in
theorem cva (x:It) (A:Ad) (w:World) (ok:Nat→Prop) (hI:IR ok w x A) (hE:Env w) (V:Bool) (hV:It.valid x=V):
 Calls Tryd.prog 25 #[.agg #[.int .i64 x.kind,.int .u64 (x.num:Int),.slice A.ab A.nb A.cb,.slice A.ai A.ni A.ci]] w (VP V w):=by
 have h1:=hE.lt;have P0:=al w (.cells #[.int .i64 x.kind,.int .u64 (x.num:Int),.slice A.ab A.nb A.cb,.slice A.ai A.ni A.ci] 31);have N0:=aw w (.cells #[.int .i64 x.kind,.int .u64 (x.num:Int),.slice A.ab A.nb A.cb,.slice A.ai A.ni A.ci] 31);have P1:=al (w.alloc (.cells #[.int .i64 x.kind,.int .u64 (x.num:Int),.slice A.ab A.nb A.cb,.slice A.ai A.ni A.ci] 31)) (.cells #[.int .i64 0,.int .i64 0] 99);have N1:=aw (w.alloc (.cells #[.int .i64 x.kind,.int .u64 (x.num:Int),.slice A.ab A.nb A.cb,.slice A.ai A.ni A.ci] 31)) (.cells #[.int .i64 0,.int .i64 0] 99);have N01:=Below.keep P1 N0 (lb N0);have hsz:(w.alloc (.cells #[.int .i64 x.kind,.int .u64 (x.num:Int),.slice A.ab A.nb A.cb,.slice A.ai A.ni A.ci] 31)).heap.size=w.heap.size + 1:=by simp
 rw [hsz] at N1;have HC:=dh (item_any 8 (by omega) x A ((w.alloc (.cells #[.int .i64 x.kind,.int .u64 (x.num:Int),.slice A.ab A.nb A.cb,.slice A.ai A.ni A.ci] 31)).alloc (.cells #[.int .i64 0,.int .i64 0] 99)) (fun b=>b < w.heap.size) (w.heap.size + 1) 0 0 0 (((hI.imp (ok':=fun b=>b < w.heap.size) fun b _ hl=>hl).below P0).below P1) (fun b hb=>by omega) ((hE.below P0).below P1) (by omega) N1 (by omega) (by omega) (by omega));rw [← It.valid_ok,hV] at HC;have HP:=dh (pt P0 P1);have HS:Hid (w.heap.size≤((w.alloc (.cells #[.int .i64 x.kind,.int .u64 (x.num:Int),.slice A.ab A.nb A.cb,.slice A.ai A.ni A.ci] 31)).alloc (.cells #[.int .i64 0,.int .i64 0] 99)).heap.size):=dh (by simp;omega);obtain ⟨x0,x1,x2,x3⟩:=cf N01;clear P0 P1 N0 N1 N01 hI hE hsz h1 hV;go_enter Tryd.func25,Tryd.ntmps25
 go_wp2_with fail
 refine HC.out.mono ?_;rintro e w6 ⟨rfl,B6,C6⟩;have HB6:=dh (HP.out.trans (B6.below (by omega) HS.out));clear B6 C6;go_wp2_with fail
 go_ret
 exact ⟨rfl,HB6.out⟩
set_option maxHeartbeats 4000000 in
theorem cencode_any (x:It) (A:Ad) (w:World) (ok:Nat→Prop) (hI:IR ok w x A) (hE:Env w):
 Calls Tryd.prog 18 #[.agg #[.int .i64 x.kind,.int .u64 (x.num:Int),.slice A.ab A.nb A.cb,.slice A.ai A.ni A.ci]] w (EP x w):=by
 have P0:=al w (.cells #[.int .i64 x.kind,.int .u64 (x.num:Int),.slice A.ab A.nb A.cb,.slice A.ai A.ni A.ci] 31);have N0:=aw w (.cells #[.int .i64 x.kind,.int .u64 (x.num:Int),.slice A.ab A.nb A.cb,.slice A.ai A.ni A.ci] 31);obtain ⟨x0,x1,x2,x3⟩:=cf N0;have HN0:=dh N0;have HP:=dh P0;unfold EP;cases hv:It.valid x with
 | false=>
   have HC:=dh (cva x A (w.alloc (.cells #[.int .i64 x.kind,.int .u64 (x.num:Int),.slice A.ab A.nb A.cb,.slice A.ai A.ni A.ci] 31)) ok (hI.below P0) (hE.below P0) false hv);clear P0 N0 hI hE hv;go_enter Tryd.func18,Tryd.ntmps18
   go_upto_region 1 with fail
   generalize w.alloc (.cells #[.int .i64 x.kind,.int .u64 (x.num:Int),.slice A.ab A.nb A.cb,.slice A.ai A.ni A.ci] 31)=w1 at *;go_wp2_with fail
   refine HC.out.mono ?_;rintro e w6 ⟨rfl,B6⟩;have HB6:=dh (pt HP.out B6);clear B6 x0 x1 x2 x3;go_wp2_with fail
   go_ret2
   exact ⟨_,rfl,OwnB.nil _ _,HB6.out⟩
 | true=>
   have HC:=dh (cva x A (w.alloc (.cells #[.int .i64 x.kind,.int .u64 (x.num:Int),.slice A.ab A.nb A.cb,.slice A.ai A.ni A.ci] 31)) ok (hI.below P0) (hE.below P0) true hv);have hw:It.wf 8 x=true∧(It.enc x).length≤4096:=by
    unfold It.valid at hv;simp only [Bool.and_eq_true,decide_eq_true_eq] at hv;exact ⟨hv.1.1,hv.2⟩
   have HA:=dh (add_new hw.1 (hI.below P0) (by omega));clear P0 N0 hI hE hv hw;go_enter Tryd.func18,Tryd.ntmps18
   go_upto_region 1 with fail
   generalize w.alloc (.cells #[.int .i64 x.kind,.int .u64 (x.num:Int),.slice A.ab A.nb A.cb,.slice A.ai A.ni A.ci] 31)=w1 at *;go_wp2_with fail
   refine HC.out.mono ?_;rintro e w6 ⟨rfl,B6⟩;have HB6:=dh B6;clear B6 x0 x1 x2 x3;obtain ⟨x0,x1,x2,x3⟩:=cf (Below.keep HB6.out HN0.out (lb HN0.out));go_wp2_with fail
   refine (HA.out w6 HB6.out).mono ?_;rintro e w7 ⟨v,rfl,O7,B7⟩;have HO7:=dh (OwnB.lower O7 (Nat.le_trans HP.out.size HB6.out.size));have HB7:=dh (pt HP.out (pt HB6.out B7));clear O7 B7 x0 x1 x2 x3;go_wp2_with fail
   go_ret2
   exact ⟨_,rfl,HO7.out,HB7.out⟩
set_option maxHeartbeats 4000000 in
theorem rva (x:It) (A:Ad) (w:World) (ok:Nat→Prop) (hI:IR ok w x A) (hE:Env w) (V:Bool) (hV:It.valid x=V):
 Calls Tryd.prog 28 #[.agg #[.int .i64 x.kind,.int .u64 (x.num:Int),.slice A.ab A.nb A.cb,.slice A.ai A.ni A.ci]] w (VP V w):=by
 have P0:=al w (.cells #[.int .i64 x.kind,.int .u64 (x.num:Int),.slice A.ab A.nb A.cb,.slice A.ai A.ni A.ci] 31);have N0:=aw w (.cells #[.int .i64 x.kind,.int .u64 (x.num:Int),.slice A.ab A.nb A.cb,.slice A.ai A.ni A.ci] 31);obtain ⟨x0,x1,x2,x3⟩:=cf N0;have HN0:=dh N0;have HP:=dh P0;have hC:=left_any 8 (by omega) x A (w.alloc (.cells #[.int .i64 x.kind,.int .u64 (x.num:Int),.slice A.ab A.nb A.cb,.slice A.ai A.ni A.ci] 31)) ok 256 256 0 (hI.below P0) (hE.below P0) (by omega) (by omega) (by omega);rw [It.valid_left] at hV;cases hs:It.okS 8 x 256 with
 | false=>
   rw [It.leftP_no hs] at hC;have HC:=dh hC;have HV:Hid (V=false):=dh (by rw [← hV,hs];rfl);clear P0 N0 hI hE hs hV hC;go_enter Tryd.func28,Tryd.ntmps28
   go_upto_region 1 with fail
   generalize w.alloc (.cells #[.int .i64 x.kind,.int .u64 (x.num:Int),.slice A.ab A.nb A.cb,.slice A.ai A.ni A.ci] 31)=w1 at *;go_wp2_with fail
   refine HC.out.mono ?_;rintro e w6 ⟨rfl,B6⟩;have HB6:=dh (pt HP.out B6);clear B6 x0 x1 x2 x3;go_wp2_with fail
   go_ret
   exact ⟨by rw [HV.out];rfl,HB6.out⟩
 | true=>
   have hle:=It.okS_le hs;obtain ⟨q,hq⟩:∃ q,q=256 - It.nodes x:=⟨_,rfl⟩;rw [It.leftP_ok hs,show ((256:Nat):Int) - It.nodes x=(q:Int) by omega] at hC;have hq0:(0:Int)≤(q:Int):=by omega
   have hq0d:decide ((0:Int)≤(q:Int))=true:=decide_eq_true hq0;have hwf:It.wf 8 x=true∧It.st x=true:=by
    unfold It.okS at hs;simp only [Bool.and_eq_true,decide_eq_true_eq] at hs;exact hs.1
   have hel:=It.st_enc hwf.2;have HA:=dh (raw_new hwf.1 (hI.below P0) (by omega));have HC:=dh hC;have HV:Hid (decide ((It.enc x).length≤4096)=V):=dh (by rw [← hV,hs,Bool.true_and]);generalize It.enc x=l at *;clear P0 N0 hI hE hs hV hC hwf hel hle hq;go_enter Tryd.func28,Tryd.ntmps28
   go_upto_region 1 with fail
   generalize w.alloc (.cells #[.int .i64 x.kind,.int .u64 (x.num:Int),.slice A.ab A.nb A.cb,.slice A.ai A.ni A.ci] 31)=w1 at *;go_wp2_with fail
   refine HC.out.mono ?_;rintro e w6 ⟨rfl,B6⟩;have HB6:=dh B6;clear B6 x0 x1 x2 x3;obtain ⟨x0,x1,x2,x3⟩:=cf (Below.keep HB6.out HN0.out (lb HN0.out));go_wp2_with fail
   refine (HA.out w6 HB6.out).mono ?_;rintro e w7 h7;obtain ⟨a7,c7,rfl,z1,z2,z3,z4,B7⟩:=h7.open;have HB7:=dh (pt HP.out (pt HB6.out B7));clear z1 z2 z3 z4 B7 h7 x0 x1 x2 x3;go_wp2_with fail
   go_ret
   refine ⟨?_,HB7.out⟩;rw [← HV.out];simp;omega
theorem nodes_get:∀ {ks:List It} {j:Nat} (h:j < ks.length),It.nodes ks[j]≤It.nodesL ks
 | [],j,h=>by simp at h
 | k :: ks,0,_=>by simp [It.nodesL]
 | k :: ks,j + 1,h=>by
   have:=nodes_get (ks:=ks) (j:=j) (by simpa using h);simp only [It.nodesL,List.getElem_cons_succ];omega
theorem sts_get:∀ {ks:List It} {j:Nat} (_:It.sts ks=true) (h:j < ks.length),It.st ks[j]=true
 | [],j,_,h=>by simp at h
 | k :: ks,0,hs,_=>by unfold It.sts at hs;simp only [Bool.and_eq_true] at hs;exact hs.1
 | k :: ks,j + 1,hs,h=>by
   unfold It.sts at hs;simp only [Bool.and_eq_true] at hs;exact sts_get (ks:=ks) (j:=j) hs.2 (by simpa using h)
def CopyC (m:Nat):Prop:=∀ (x:It) (A:Ad) (w:World) (ok:Nat→Prop),It.nodes x≤m→m≤100000→It.st x=true→IR ok w x A→Calls Tryd.prog 60 #[.agg #[.int .i64 x.kind,.int .u64 (x.num:Int),.slice A.ab A.nb A.cb,.slice A.ai A.ni A.ci]] w (CPost x w)
set_option maxHeartbeats 4000000 in
theorem copy_one (k N:Int) (bs:List UInt8) (ks:List It) (ab ai:Option Addr) (nb cb ni ci:Nat) (w:World) (ok:Nat→Prop) (n:Nat) (hN:N=n) (hR:BR ok w ab nb bs) (hT:TL ok w ks ai ni) (hl:bs.length≤4096) (hk:ks.length≤100000)
 (hkid:∀ (j:Nat) (h:j < ks.length) (A:Ad) (W:World),IR ok W ks[j] A→Calls Tryd.prog 60 #[.agg #[.int .i64 ks[j].kind,.int .u64 (ks[j].num:Int),.slice A.ab A.nb A.cb,.slice A.ai A.ni A.ci]] W (CPost ks[j] W)):
 Calls Tryd.prog 60 #[.agg #[.int .i64 k,.int .u64 N,.slice ab nb cb,.slice ai ni ci]] w (CPost (.mk k n bs ks) w):=by
 have P0:=al w (.cells #[.int .i64 k,.int .u64 N,.slice ab nb cb,.slice ai ni ci] 31);have N0:=aw w (.cells #[.int .i64 k,.int .u64 N,.slice ab nb cb,.slice ai ni ci] 31);have P1:=al (w.alloc (.cells #[.int .i64 k,.int .u64 N,.slice ab nb cb,.slice ai ni ci] 31)) (.cells #[.int .i64 0,.int .u64 0,.slice none 0 0,.slice none 0 0] 31);have N1:=aw (w.alloc (.cells #[.int .i64 k,.int .u64 N,.slice ab nb cb,.slice ai ni ci] 31)) (.cells #[.int .i64 0,.int .u64 0,.slice none 0 0,.slice none 0 0] 31);have HB0:=dh (Below.keep P1 N0 (lb N0));have HR1:=dh N1;have HP1:=dh (pt P0 P1);have HBR:=dh (hR.below (pt P0 P1));have HTL:=dh hT;have HNI:Hid (ni=ks.length):=dh hT.1;have HKID:=dh hkid;have HN:=dh hN;have HL:=dh hl;have hsz1:((w.alloc (.cells #[.int .i64 k,.int .u64 N,.slice ab nb cb,.slice ai ni ci] 31)).alloc (.cells #[.int .i64 0,.int .u64 0,.slice none 0 0,.slice none 0 0] 31)).heap.size=w.heap.size + 2:=by simp
 have hsz0:(w.alloc (.cells #[.int .i64 k,.int .u64 N,.slice ab nb cb,.slice ai ni ci] 31)).heap.size=w.heap.size + 1:=by simp
 rw [hsz0] at HR1;have HS1:=dh hsz1;clear hR hT hkid hN hl N0 N1 P0 P1 hsz1 hsz0;go_enter Tryd.func60,Tryd.ntmps60
 go_upto_region 1 with fail
 generalize (w.alloc (.cells #[.int .i64 k,.int .u64 N,.slice ab nb cb,.slice ai ni ci] 31)).alloc (.cells #[.int .i64 0,.int .u64 0,.slice none 0 0,.slice none 0 0] 31)=w1 at *;generalize hB:w.heap.size=B at *;obtain ⟨x0,x1,x2,x3⟩:=cf HB0.out;have HBL:=dh (lb HB0.out);go_cut [3] from 7 to 14 (fun y W=>∃ Y vb,y=.pointer (some ⟨Y,0,none⟩)∧CL w Y (w.heap.size + 1) vb k N bs W (.slice none 0 0) []∧W.heap[w.heap.size]?=some (.cells #[.int .i64 k,.int .u64 N,.slice ab nb cb,.slice ai ni ci] 31 (0,0)))
 case first=>
  refine wp_region_held_drew (S:=(fun w'=>w'.cell? ⟨B,0,none⟩=some (.int .i64 k)∧w'.cell? ⟨B,1,none⟩=some (.int .u64 N)∧w'.cell? ⟨B,2,none⟩=some (.slice ab nb cb))) (by kernel_rfl) ⟨x0,x1,x2⟩ (fun hHeld=>?_);refine tk 0 (v:=?_) rfl hHeld ?_ ?_;rotate_left
  ·intro W h;(try dsimp only at h);go_simp;try with_reducible rfl
  try simp only [Act.put,sx]
  refine tk 1 (v:=?_) rfl hHeld ?_ ?_;rotate_left
  ·intro W h;(try dsimp only at h);go_simp;try with_reducible rfl
  try simp only [Act.put,sx]
  refine tk 2 (v:=?_) rfl hHeld ?_ ?_;rotate_left
  ·intro W h;(try dsimp only at h);go_simp;try with_reducible rfl
  try simp only [Act.put,sx]
  refine tk 3 (v:=?_) rfl hHeld ?_ ?_;rotate_left
  ·intro W h;(try dsimp only at h);go_simp;try with_reducible rfl
  try simp only [Act.put,sx]
  refine tk 4 (v:=?_) rfl hHeld ?_ ?_;rotate_left
  ·intro W h;(try dsimp only at h);go_simp;try with_reducible rfl
  try simp only [Act.put,sx]
  refine tk 5 (v:=?_) rfl hHeld ?_ ?_;rotate_left
  ·intro W h;(try dsimp only at h);go_simp;try with_reducible rfl
  try simp only [Act.put,sx]
  refine wpAnyH_ready (rs:=[6,8]) (by kernel_rfl) (by simp) ?_;refine AllReadyH.cons rfl (fun K1 hK1=>?_) (AllReadyH.cons rfl (fun K1 hK1=>?_) AllReadyH.nil)
  ·obtain ⟨v4,W4,hrun,hO4,hB4⟩:=app_nil (w:=w1.drew) (c:=cb) (HBR.out.below (bd (Below.refl _ _) 1)) (by have:=HL.out;omega)
   obtain ⟨a4,c4,rfl⟩:=og hO4;have HO4:=dh hO4;have HB4:=dh (pt (bd (Below.refl w1.heap.size w1) 1) hB4);rw [if_pos (by rfl)];refine wp_app _ _ 23 rfl rfl rfl hrun ?_;clear hrun hO4 hB4;refine hK1.out _ _ ⟨(HB4.out.cell (p:=⟨B,0,none⟩) HBL.out).trans x0,(HB4.out.cell (p:=⟨B,1,none⟩) HBL.out).trans x1,(HB4.out.cell (p:=⟨B,2,none⟩) HBL.out).trans x2⟩ (fun hHeld=>?_);clear hK1
   try simp only [Act.put,sx]
   refine tk 7 (v:=?_) rfl hHeld ?_ ?_;rotate_left
   ·intro W h;(try dsimp only at h);go_simp;try with_reducible rfl
   try simp only [Act.put,sx]
   refine wpAnyH_ready (rs:=[8]) (by kernel_rfl) (by simp) ?_;refine AllReadyH.cons rfl (fun K1 hK1=>?_) AllReadyH.nil;go_simp
   have HA5:=dh (pt HB4.out (al W4 (.cells #[.int .i64 0,.int .u64 0,.slice none 0 0,.slice none 0 0] 31)));refine hK1.out _ _ ⟨(HA5.out.cell (p:=⟨B,0,none⟩) HBL.out).trans x0,(HA5.out.cell (p:=⟨B,1,none⟩) HBL.out).trans x1,(HA5.out.cell (p:=⟨B,2,none⟩) HBL.out).trans x2⟩ (fun hHeld=>?_);clear hK1
   try simp only [Act.put,sx]
   refine wpAnyH_ready (rs:=[9]) (by kernel_rfl) (by simp) ?_;refine AllReadyH.cons rfl (fun K1 hK1=>?_) AllReadyH.nil;go_simp
   have hN5:=aw W4 (.cells #[.int .i64 k,.int .u64 N,.slice a4 bs.length c4,.slice none 0 0] 31);have HA6:=dh (pt HB4.out (al W4 (.cells #[.int .i64 k,.int .u64 N,.slice a4 bs.length c4,.slice none 0 0] 31)));have HCL:=dh (CL.begin (k:=k) (N:=N) (bs:=bs) (Y:=W4.heap.size) (hB ▸ HP1.out) (hB ▸ HR1.out) (hB ▸ HS1.out) HA6.out (OwnB.pure HO4.out (al _ _) |>.lower (Nat.le_refl _)) hN5 HB4.out.size (fun e=>by have:=olt HO4.out e;omega));clear hN5;refine hK1.out _ _ ⟨(HA6.out.cell (p:=⟨B,0,none⟩) HBL.out).trans x0,(HA6.out.cell (p:=⟨B,1,none⟩) HBL.out).trans x1,(HA6.out.cell (p:=⟨B,2,none⟩) HBL.out).trans x2⟩ (fun hHeld=>?_);clear hK1
   try simp only [Act.put,sx]
   refine wpAnyH_done (by kernel_rfl) ?_ _
   try simp only [Act.put,sx]
   go_wp2_with fail
   go_meet
   exact ⟨_,_,rfl,HCL.out,by rw [hB];exact Below.keep HA6.out HB0.out HBL.out⟩
  ·go_simp
   have HA5:=dh (al w1 (.cells #[.int .i64 0,.int .u64 0,.slice none 0 0,.slice none 0 0] 31));refine hK1.out _ _ ⟨(HA5.out.cell (p:=⟨B,0,none⟩) HBL.out).trans x0,(HA5.out.cell (p:=⟨B,1,none⟩) HBL.out).trans x1,(HA5.out.cell (p:=⟨B,2,none⟩) HBL.out).trans x2⟩ (fun hHeld=>?_);clear hK1
   try simp only [Act.put,sx]
   refine wpAnyH_ready (rs:=[6]) (by kernel_rfl) (by simp) ?_;refine AllReadyH.cons rfl (fun K1 hK1=>?_) AllReadyH.nil;obtain ⟨v4,W4,hrun,hO4,hB4⟩:=app_nil (w:=(w1.alloc (.cells #[.int .i64 0,.int .u64 0,.slice none 0 0,.slice none 0 0] 31)).drew) (c:=cb) (HBR.out.below (bd (al _ _) 1)) (by have:=HL.out;omega);obtain ⟨a4,c4,rfl⟩:=og hO4;have HO4:=dh hO4;have HB4:=dh (pt (bd (al w1 (.cells #[.int .i64 0,.int .u64 0,.slice none 0 0,.slice none 0 0] 31)) 1) hB4);have HY4:=dh (Below.keep hB4 (aw w1 (.cells #[.int .i64 0,.int .u64 0,.slice none 0 0,.slice none 0 0] 31)) (lb (aw w1 _)));rw [if_pos (by rfl)];refine wp_app _ _ 23 rfl rfl rfl hrun ?_;clear hrun hO4 hB4;refine hK1.out _ _ ⟨(HB4.out.cell (p:=⟨B,0,none⟩) HBL.out).trans x0,(HB4.out.cell (p:=⟨B,1,none⟩) HBL.out).trans x1,(HB4.out.cell (p:=⟨B,2,none⟩) HBL.out).trans x2⟩ (fun hHeld=>?_);clear hK1
   try simp only [Act.put,sx]
   refine tk 7 (v:=?_) rfl hHeld ?_ ?_;rotate_left
   ·intro W h;(try dsimp only at h);go_simp;try with_reducible rfl
   try simp only [Act.put,sx]
   refine wpAnyH_ready (rs:=[9]) (by kernel_rfl) (by simp) ?_;refine AllReadyH.cons rfl (fun K1 hK1=>?_) AllReadyH.nil;have hw4:=HB4.out.size;have hY4:=HY4.out;have HLT:=dh HBL.out;have hYB:Hid (w1.heap.size≠B):=dh (by have:=HBL.out;omega);obtain ⟨y0,y1,y2,y3⟩:=cf hY4;obtain ⟨f0,f1,f2,f3⟩:=ff hY4;clear hY4 hw4;go_simp
   clear y0 y1 y2 y3 f0 f1 f2 f3;have hA6:=put4_below HB4.out (Nat.le_refl w1.heap.size) (.int .i64 k) (.int .u64 N) (.slice a4 bs.length c4) (.slice none 0 0);have hN6:=put4 HY4.out (.int .i64 k) (.int .u64 N) (.slice a4 bs.length c4) (.slice none 0 0);have hK6:=(pk (W:=W4) (b:=w1.heap.size) (.int .i64 k) (.int .u64 N) (.slice a4 bs.length c4) (.slice none 0 0)).2;have HA6:=dh hA6;have hal:(w1.alloc (.cells #[.int .i64 0,.int .u64 0,.slice none 0 0,.slice none 0 0] 31)).drew.heap.size=w1.heap.size + 1:=by simp
   have HCL:=dh (CL.begin (k:=k) (N:=N) (bs:=bs) (Y:=w1.heap.size) (hB ▸ HP1.out) (hB ▸ HR1.out) (hB ▸ HS1.out) hA6 (OwnB.lower (own_keep HO4.out (fun g hg=>hK6 g (fun e=>by have:=olt HO4.out hg;omega))) (by omega)) hN6 (Nat.le_refl _) (fun e=>by have:=olt HO4.out e;omega));clear hA6 hN6 hK6 hal;refine hK1.out _ _ ⟨(HA6.out.cell (p:=⟨B,0,none⟩) HBL.out).trans x0,(HA6.out.cell (p:=⟨B,1,none⟩) HBL.out).trans x1,(HA6.out.cell (p:=⟨B,2,none⟩) HBL.out).trans x2⟩ (fun hHeld=>?_);clear hK1
   try simp only [Act.put,sx]
   refine wpAnyH_done (by kernel_rfl) ?_ _
   try simp only [Act.put,sx]
   go_wp2_with fail
   go_meet
   exact ⟨_,_,rfl,HCL.out,by rw [hB];exact Below.keep HA6.out HB0.out HBL.out⟩
 case rest=>
  obtain ⟨Y,vb,rfl,hC0,hX⟩:=hcut;obtain ⟨a5,c5,rfl⟩:=og hC0.own;have HC0:=dh hC0;rw [hB] at hX;clear hC0 x0 x1 x2 x3 HBR HBL;have hni:ni≤100000:=by have:=HNI.out;omega
  obtain ⟨x0,x1,x2,x3⟩:=cf hX;go_wp2_with fail
  clear x0 x1 x2 x3 hX;go_loopw [4,18] (fun v i W=>∃ (j:Nat) (es:List (It × Ad)),i=.int .i64 j∧j≤ni∧es.map (·.1)=ks.take j∧CL w Y (w.heap.size + 1) (.slice a5 bs.length c5) k N bs W v es) (fun _ i _=>ni - (intOf i).toNat)
  case atStart=>exact ⟨0,[],rfl,by omega,by simp,HC0.out⟩
  case round=>
   obtain ⟨j,es,rfl,hj,hes,hC⟩:=hrel;by_cases hjn:j < ni
   ·have hjk:j < ks.length:=by have:=HNI.out;omega
    obtain ⟨b',o',A',rfl,hb',⟨c0,c1,c2,c3⟩,hI'⟩:=(HTL.out.below hC.bel).2.2 j hjk;have PA:=al wr (.cells #[.int .i64 ks[j].kind,.int .u64 (ks[j].num:Int),.slice A'.ab A'.nb A'.cb,.slice A'.ai A'.ni A'.ci] 31);have HCC:=dh (HKID.out j hjk A' (wr.alloc (.cells #[.int .i64 ks[j].kind,.int .u64 (ks[j].num:Int),.slice A'.ab A'.nb A'.cb,.slice A'.ai A'.ni A'.ci] 31)) (hI'.below PA));have HTK:Hid ((es.map (·.1)) ++ [ks[j]]=ks.take (j + 1)):=dh (by rw [hes,List.take_succ_eq_append_getElem hjk]);have HES:Hid (es.length=j):=dh (by have:=congrArg List.length hes;simp at this;omega);have HNM:=dh hI'.num;have HPA:=dh PA;have HC:=dh hC;have hlt:(j:Int) < (ni:Int):=by omega
    clear hC hI' PA hes;generalize ks[j]=y at *;go_wp2_with fail
    refine HCC.out.mono ?_;rintro e w6 h6;obtain ⟨A6,rfl,hI6,hB6⟩:=h6.ir HNM.out;clear h6;obtain ⟨v7,W7,hrun,hC7⟩:=HC.out.push (pt HPA.out hB6) (hI6.imp (fun b hb _=>Nat.le_trans HPA.out.size hb)) 31 1 (by have:=HES.out;omega);have HR:=dh hrun;have HC7:=dh hC7;clear hrun hC7 hI6 hB6 c0 c1 c2 c3;go_wp2_with (at_builtin;refine wj rfl _ _ 29 rfl rfl rfl HR.out ?_;clear HR)
    go_roundw
    case rel=>exact ⟨j + 1,_,by go_num,by omega,by rw [List.map_append];exact HTK.out,HC7.out⟩
    case measure=>simp [intOf];omega
   ·obtain rfl:j=ni:=by omega
    obtain ⟨a4,c4,rfl⟩:=og hC.out.row;have HC:=dh hC;have HES:=dh hes;have HBK:=dh hC.blk;have hres:=hC.res;rw [hB] at hres;have HRS:=dh hres;have hYR:Y≠B + 1:=by have:=hC.YR;omega
    clear hC hes hres;have hYl:=lb HBK.out;obtain ⟨y0,y1,y2,y3⟩:=cf HBK.out;obtain ⟨f0,f1,f2,f3⟩:=ff HBK.out;obtain ⟨r0,r1,r2,r3⟩:=cf HRS.out;obtain ⟨q0,q1,q2,q3⟩:=ff HRS.out;go_wp2_with fail
    clear y0 y1 y2 y3 f0 f1 f2 f3 r0 r1 r2 r3 q0 q1 q2 q3;have hp:=put4 ((Below.heap_setCell wr ⟨Y,3,none⟩ (.slice a4 es.length c4) (B + 1) (fun e=>hYR e.symm)).trans HRS.out) (.int .i64 k) (.int .u64 N) (.slice a5 bs.length c5) (.slice a4 es.length c4);have hs:=pk (W:=wr.setCell ⟨Y,3,none⟩ (.slice a4 es.length c4)) (b:=B + 1) (.int .i64 k) (.int .u64 N) (.slice a5 bs.length c5) (.slice a4 es.length c4);have hq:=pm (W:=wr.setCell ⟨Y,3,none⟩ (.slice a4 es.length c4)) (b:=B + 1) (.int .i64 k) (.int .u64 N) (.slice a5 bs.length c5) (.slice a4 es.length c4);generalize ((((wr.setCell ⟨Y,3,none⟩ (.slice a4 es.length c4)).setCell ⟨B + 1,0,none⟩ (.int .i64 k)).setCell ⟨B + 1,1,none⟩ (.int .u64 N)).setCell ⟨B + 1,2,none⟩ (.slice a5 bs.length c5)).setCell ⟨B + 1,3,none⟩ (.slice a4 es.length c4)=W' at *;obtain ⟨g0,g1,g2,g3⟩:=cf hp;refine bodyPost_ret (v:=.agg #[.int .i64 k,.int .u64 N,.slice a5 bs.length c5,.slice a4 es.length c4]) (by simp [results,Tryd.results60,go_sem,g0,g1,g2,g3]) rfl ?_;have hn:=HN.out;have hC:=HC.out;have he:=HES.out;rw [List.take_of_length_le (by have:=HNI.out;omega)] at he;subst hn;refine hC.stop ?_ hq (fun q _ h1 h2=>(hs.2 q (by omega)).trans (Below.heap_setCell _ _ _ _ h1)) (by rw [he]);rw [hs.1];simp [World.setCell]
theorem copy_any:∀ m,CopyC m
 | 0=>fun x A w ok hm _ _ _=>by have:=It.nodes_pos x;omega
 | m + 1=>fun x A w ok hm hM hs hI=>by
   have hni:=hI.ni;have hbr:=hI.br;have htl:=hI.tl;cases x with
   | mk k n b ks=>
     simp only [It.kind,It.num,It.bytes,It.kids] at *;unfold It.st at hs;simp only [Bool.and_eq_true,decide_eq_true_eq] at hs;have hnn:It.nodes (.mk k n b ks)=1 + It.nodesL ks:=rfl;have hkl:=It.length_le_nodesL ks;exact copy_one k n b ks _ _ _ _ _ _ w ok n rfl hbr htl hs.1 (by omega) fun j hj A' W hI'=>copy_any m ks[j] A' W ok (by have:=nodes_get hj;omega) (by omega) (sts_get hs.2 hj) hI'
def IP (x:It) (w:World) (e:Ending) (w':World):Prop:=∃ A:Ad,e=.returned (.agg #[.int .i64 x.kind,.int .u64 (x.num:Int),.slice A.ab A.nb A.cb,.slice A.ai A.ni A.ci])∧IR (fun b=>w.heap.size≤b) w' x A∧Below w.heap.size w w'
theorem IR.flat {ok:Nat→Prop} {w:World} (k:Int) (n:Nat) (hn:n < 18446744073709551616):IR ok w (.mk k n [] []) ⟨none,0,0,none,0,0⟩:=IR_iff.2 ⟨hn,⟨BR.nil _ _ _,by simp,by simp⟩,TL.nil _ _ _,by simp,by simp⟩
set_option maxHeartbeats 4000000 in
theorem rtext_any (l:List UInt8) (w:World) (hl:l.length≤1000000000):
 Calls Tryd.prog 34 #[.string ⟨l.toArray⟩] w (IP (.mk 3 0 l []) w):=by
 have P0:=al w (.cells #[.int .i64 0,.int .u64 0,.slice none 0 0,.slice none 0 0] 31);have N0:=aw w (.cells #[.int .i64 0,.int .u64 0,.slice none 0 0,.slice none 0 0] 31);obtain ⟨r0,r1,r2,r3⟩:=cf N0;obtain ⟨q0,q1,q2,q3⟩:=ff N0;have HP:=dh P0;have HN:=dh N0;go_enter Tryd.func34,Tryd.ntmps34
 go_upto_region 1 with fail
 generalize w.alloc (.cells #[.int .i64 0,.int .u64 0,.slice none 0 0,.slice none 0 0] 31)=w1 at *;generalize hB:w.heap.size=B at *;have hcv:=Lib.run_convert_string_bytes (P:=Tryd.prog) w1 9 23 5 ⟨l.toArray⟩ Tryd.underlying9 Tryd.underlying23 Tryd.underlying5;have hbel:Below w1.heap.size w1 (Lib.bytesWorld w1 5 ⟨l.toArray⟩):=⟨rfl,rfl,rfl,by rw [Lib.bytesWorld_size];omega,fun k hk=>Lib.bytesWorld_at_old _ _ _ _ hk⟩;have hcl:∀ j (h:j < l.length),(Lib.bytesWorld w1 5 ⟨l.toArray⟩).cell? ⟨w1.heap.size,j,none⟩=some (.int .u8 (l[j].toNat:Int)):=fun j h=>by
  rw [Lib.bytesWorld_cell w1 5 ⟨l.toArray⟩ j h];simp [List.getD,h]
 have hlen:(⟨l.toArray⟩:ByteArray).size=l.length:=rfl;rw [hlen] at hcv;generalize hcap:grownCap w1 l.length 0 5=cap at *;generalize Lib.bytesWorld w1 5 ⟨l.toArray⟩=W2 at *;have HB2:=dh (hB ▸ (HP.out.trans (hbel.mono (by have:=HP.out.size;omega))));have HN2:=dh (Below.keep hbel HN.out (lb HN.out));have HCL:=dh hcl;clear r0 r1 r2 r3 q0 q1 q2 q3 hbel hcl;obtain ⟨r0,r1,r2,r3⟩:=cf HN2.out;obtain ⟨q0,q1,q2,q3⟩:=ff HN2.out;go_wp2_with fail
 clear r0 r1 r2 r3 q0 q1 q2 q3;obtain ⟨W',hW',hp4,hs4,hb4⟩:=pq (W:=W2) (b:=B) (HN2.out) (.int .i64 3) (.int .u64 0) (.slice (some ⟨w1.heap.size,0,none⟩) l.length cap) (.slice none 0 0);rw [hW'];clear hW';obtain ⟨g0,g1,g2,g3⟩:=cf hp4;refine bodyPost_ret (v:=.agg #[.int .i64 3,.int .u64 0,.slice (some ⟨w1.heap.size,0,none⟩) l.length cap,.slice none 0 0]) (by simp [results,Tryd.results34,go_sem,g0,g1,g2,g3]) rfl ?_;have hlt:=lb HN.out;refine ⟨⟨some ⟨w1.heap.size,0,none⟩,l.length,cap,none,0,0⟩,rfl,IR_iff.2 ⟨(by show 0 < _;omega),⟨⟨rfl,(by show l.length≤_;omega),fun i hi=>⟨w1.heap.size,0,rfl,(by omega),?_⟩⟩,(by rw [← hcap];exact grownCap_ge _ _ _ _),(by rw [← hcap];exact grownCap_le_maxLen _ _ _ _ (by unfold maxLen;omega))⟩,TL.nil _ _ _,by simp,by simp⟩,?_⟩
 ·rw [Nat.zero_add]
  exact (cu (hs4.2 w1.heap.size (by omega))).trans (HCL.out i hi)
 ·first | exact hb4 B w (hB ▸ HB2.out) (by omega) | (rw [hB];exact hb4 B w (hB ▸ HB2.out) (by omega))
end Go.Proofs.YtelefkkkccilaaaDoor
