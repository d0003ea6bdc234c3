/- The parser's item 106: the ways with no items inside, joined. -/
import Derived.Test.YtelefkkkccilaaaDoorZo
set_option linter.unusedVariables false
set_option linter.unusedSimpArgs false
namespace Go.Proofs.YtelefkkkccilaaaDoor
open Go.RowKit
namespace It
theorem item_int {d f c n:Nat} {s r:List UInt8} (h:readHead s=.ok c n r) (hk:c / 32≤1):item d (f + 1) s=.ok (mk (c / 32:Nat) n [] []) f r:=by
 cases d <;> (unfold item step;simp only [h];rw [if_pos hk])
theorem item_short {d f c n:Nat} {s r:List UInt8} (h:readHead s=.ok c n r) (h1:¬ c / 32≤1) (h2:c / 32≤3) (h3:r.length < n):item d (f + 1) s=.err 2:=by
 cases d <;> (unfold item step;simp only [h];rw [if_neg h1,if_pos h2,if_pos h3])
theorem item_bad {d f c n:Nat} {s r:List UInt8} (h:readHead s=.ok c n r) (h2:c / 32=3) (h3:¬ r.length < n) (h4:Lib.validD (r.take n)=false):item d (f + 1) s=.err 5:=by
 cases d <;> (unfold item step;simp only [h];rw [if_neg (by omega),if_pos (by omega),if_neg h3,if_pos ⟨h2,h4⟩])
theorem item_by {d f c n:Nat} {s r:List UInt8} (h:readHead s=.ok c n r) (h1:¬ c / 32≤1) (h2:c / 32≤3) (h3:¬ r.length < n) (h4:c / 32=3→Lib.validD (r.take n)=true):item d (f + 1) s=.ok (mk (c / 32:Nat) 0 (r.take n) []) f (r.drop n):=by
 cases d <;> (unfold item step;simp only [h];rw [if_neg h1,if_pos h2,if_neg h3,if_neg (by rintro ⟨a,b⟩;rw [h4 a] at b;cases b)])
theorem item_seven {d f c n:Nat} {s r:List UInt8} (h:readHead s=.ok c n r) (h2:c / 32=7):item d (f + 1) s=ofO (seven (c % 32) n) f r:=by
 cases d <;> (unfold item step;simp only [h];rw [if_neg (by omega),if_neg (by omega),if_pos h2];unfold ofO;cases seven (c % 32) n <;> rfl)
theorem item_lv {f c n:Nat} {s r:List UInt8} (h:readHead s=.ok c n r) (h1:¬ c / 32≤3) (h2:c / 32≠7):item 0 (f + 1) s=.err 8:=by
 unfold item step;simp only [h];rw [if_neg (by omega),if_neg h1,if_neg h2]
end It
theorem unbe_take_lt (k:Nat) (s:List UInt8):It.unbe (s.take k) < 256 ^ k:=Nat.lt_of_lt_of_le (It.unbe_lt _) (Nat.pow_le_pow_right (by omega) (by rw [List.length_take];omega))
theorem readHead_bounds {s r:List UInt8} {c n:Nat} (h:It.readHead s=.ok c n r):c < 256∧c % 32≤27∧n < capN (c % 32)∧n < 18446744073709551616:=by
 cases s with
 | nil=>simp [It.readHead] at h
 | cons u s=>
  have hu:=u.toNat_lt;rw [It.readHead] at h
  split at h
  ·cases h
  rename_i h27
  split at h
  ·rename_i hl
   cases h
   refine ⟨hu,by omega,?_,by omega⟩;unfold capN;rw [if_pos hl];omega
  rename_i h24
  split at h
  ·cases h
  split at h
  ·cases h
  cases h
  have hb:=unbe_take_lt (2 ^ (u.toNat % 32 - 24)) s;refine ⟨hu,by omega,?_⟩;rcases (show u.toNat % 32=24∨u.toNat % 32=25∨u.toNat % 32=26∨u.toNat % 32=27 by omega) with e | e | e | e <;> (rw [e] at hb ⊢;revert hb;generalize It.unbe _=N;intro hb;simp [capN] at hb ⊢;omega)
theorem readHead_len {s r:List UInt8} {c n:Nat} (h:It.readHead s=.ok c n r):r.length < s.length:=by
 cases s with
 | nil=>simp [It.readHead] at h
 | cons u s=>
  rw [It.readHead] at h
  split at h
  ·cases h
  split at h
  ·cases h;simp
  split at h
  ·cases h
  split at h
  ·cases h
  cases h
  simp only [List.length_drop,List.length_cons];exact Nat.lt_succ_of_le (Nat.sub_le _ _)
theorem par_leaf (d P k c b o:Nat) (l:List UInt8) (f:Nat) (it lv:Int) (w:World) (hA:AtP P k c b o l it w) (hR:BR (fun j=>j≠P) w (some ⟨b,o,none⟩) l.length l) (hc:l.length≤c) (hN:l.length≤4096) (hit:it=256 - (f:Int)) (hf:f≤256) (hlv:lv=8 - (d:Int)) (hP1:1 < P) (hE:Env w)
 (hk:∀ fb n r,It.readHead (l.drop k)=.ok fb n r→(fb / 32=4∨fb / 32=5∨fb / 32=6)→d=0):
 Calls Tryd.prog 42 #[.pointer (some ⟨P,0,none⟩),.int .i64 lv] w (ParP P c b o l w (It.item d f (l.drop k))):=by
 cases f with
 | zero=>
  rw [item_zero];have:it=256:=by omega
  subst this;exact (pitem_full P k c b o l lv w hA).mono fun e w' h=>⟨h.1,h.2⟩
 | succ f=>
  have hi:0≤it:=by omega
  have hi2:it < 256:=by omega
  have hft:255 - it.toNat=f:=by omega
  cases hr:It.readHead (l.drop k) with
  | err er=>
   rw [item_hd hr];exact (pitem_hd P k c b o er l it lv w hA hR hc hN hi hi2 hr (It.readHead_errs hr)).mono fun e w' h=>⟨h.1,h.2⟩
  | ok fb n r=>
   obtain ⟨b1,b2,b3,b4⟩:=readHead_bounds hr;have hbp:c=l.length - r.length→∀ j,r=l.drop j→j≤l.length→c=j:=fun hq j h1 h2=>by
    rw [h1,List.length_drop] at hq;omega
   have hap:¬ c=l.length - r.length→∀ j,r=l.drop j→j≤l.length→¬ c=j:=fun hq j h1 h2 h3=>hq (by rw [h1,List.length_drop];omega)
   rcases (show fb / 32=0∨fb / 32=1∨fb / 32=2∨fb / 32=3∨fb / 32=4∨fb / 32=5∨fb / 32=6∨fb / 32=7 by omega) with h | h | h | h | h | h | h | h
   ·have:=pitem_0 P k c b o fb n l r it lv w hA hR hc hN hi hi2 hr b1 b4 h
    rw [hft] at this;rw [It.item_int hr (by omega),h];exact this
   ·have:=pitem_1 P k c b o fb n l r it lv w hA hR hc hN hi hi2 hr b1 b4 h
    rw [hft] at this;rw [It.item_int hr (by omega),h];exact this
   ·by_cases hsh:r.length < n
    ·have:=pitem_sh2 P k c b o fb n l r it lv w hA hR hc hN hi hi2 hr b1 b4 h hsh
     rw [It.item_short hr (by omega) (by omega) hsh];exact this
    ·rw [It.item_by hr (by omega) (by omega) hsh (by omega),h,← hft]
     by_cases hq:c=l.length - r.length
     ·exact pitem_by2b P k c b o fb n l r it lv w hA hR hc hN hi hi2 hr b1 b4 h hsh (hbp hq)
     ·exact pitem_by2a P k c b o fb n l r it lv w hA hR hc hN hi hi2 hr b1 b4 h hsh (hap hq)
   ·by_cases hsh:r.length < n
    ·have:=pitem_sh3 P k c b o fb n l r it lv w hA hR hc hN hi hi2 hr b1 b4 h hsh
     rw [It.item_short hr (by omega) (by omega) hsh];exact this
    ·cases hd:Lib.validD (r.take n) with
     | true=>
      rw [It.item_by hr (by omega) (by omega) hsh (fun _=>hd),h,← hft];by_cases hq:c=l.length - r.length
      ·exact pitem_by3b_true P k c b o fb n l r it lv w hA hR hc hN hi hi2 hr b1 b4 h hsh (hbp hq) hE hP1 hd
      ·exact pitem_by3a_true P k c b o fb n l r it lv w hA hR hc hN hi hi2 hr b1 b4 h hsh (hap hq) hE hP1 hd
     | false=>
      rw [It.item_bad hr h hsh hd];refine pitem_by3a_false P k c b o fb n l r it lv w hA hR hc hN hi hi2 hr b1 b4 h hsh (hap fun hq=>?_) hE hP1 hd;have hl0:r.length=0∨l.length < r.length:=by omega
      rcases hl0 with h0 | h0
      ·have hn0:n=0:=by omega
       rw [hn0,List.take_zero] at hd;exact absurd hd (by decide)
      ·have h9:=readHead_len hr
       rw [List.length_drop] at h9;omega
   ·have h0:=hk fb n r hr (by omega)
    subst h0;rw [It.item_lv hr (by omega) (by omega)];exact pitem_lv4 P k c b o fb n l r it lv w hA hR hc hN hi hi2 hr b1 b4 h (by omega)
   ·have h0:=hk fb n r hr (by omega)
    subst h0;rw [It.item_lv hr (by omega) (by omega)];exact pitem_lv5 P k c b o fb n l r it lv w hA hR hc hN hi hi2 hr b1 b4 h (by omega)
   ·have h0:=hk fb n r hr (by omega)
    subst h0;rw [It.item_lv hr (by omega) (by omega)];exact pitem_lv6 P k c b o fb n l r it lv w hA hR hc hN hi hi2 hr b1 b4 h (by omega)
   ·rw [It.item_seven hr h,← hft]
    exact pitem_7 P k c b o fb n l r it lv w hA hR hc hN hi hi2 hr b1 b4 h fun W=>seven_any _ _ n rfl W (fb % 32) b2 (by have:=and31 ⟨fb,b1⟩;exact this) b3
end Go.Proofs.YtelefkkkccilaaaDoor
