/- Joined texts. -/
import Derived.Test.YtelefkkkccilaaaDoorJE
import Derived.Test.YtelefkkkccilaaaDoorJM
import Derived.Test.YtelefkkkccilaaaDoorJD
import Derived.Test.YtelefkkkccilaaaDoorLP
set_option linter.unusedVariables false
set_option linter.unusedSimpArgs false
namespace Go.Proofs.YtelefkkkccilaaaDoor
open Am Go.RowKit
set_option maxRecDepth 100000
inductive GH (m n:Nat):List UInt8→Prop
 | tiny:n < 24→GH m n [UInt8.ofNat (m * 32 + n)]
 | more (k s:Nat):(k=1∧s=1∨k=2∧s=2∨k=3∧s=4∨k=4∧s=8)→n < 256 ^ s→GH m n (UInt8.ofNat (m * 32 + 23 + k) :: It.be s n)
theorem GH.len {m n:Nat} {l:List UInt8} (h:GH m n l):l.length≤9:=by
 cases h with
 | tiny h=>simp
 | more k s h hn=>simp only [List.length_cons,It.be_length];omega
theorem GH.head {m n:Nat} (hn:n < 18446744073709551616):GH m n (It.head m n):=by
 unfold It.head
 split
 ·exact .tiny (by assumption)
 split
 ·exact .more 1 1 (by omega) (by simpa using (by assumption))
 split
 ·exact .more 2 2 (by omega) (by simpa using (by assumption))
 split
 ·exact .more 3 4 (by omega) (by simpa using (by assumption))
 ·exact .more 4 8 (by omega) (by simpa using hn)
section
variable {X:Ev}
end
mutual
def It.gsz:It→Nat
 | .mk _ _ b ks=>30 + b.length + It.gszs ks
def It.gszs:List It→Nat
 | []=>0
 | x :: l=>It.gsz x + It.gszs l
end
theorem It.gsz_eq (x:It):x.gsz=30 + x.bytes.length + It.gszs x.kids:=by cases x;rfl
theorem It.gszs_len:∀ l:List It,l.length≤It.gszs l
 | []=>by simp
 | x :: l=>by have:=It.gszs_len l;have:=x.gsz_eq;simp [It.gszs];omega
def LhP (m c:Nat) (op:Bool) (l:List UInt8):Prop:=(op=true→l=[UInt8.ofNat (m * 32 + 31)])∧(op=false→GH m c l)
theorem LhP.len {m c:Nat} {op:Bool} {l:List UInt8} (h:LhP m c op l):l.length≤9:=by
 cases op with
 | true=>rw [h.1 rfl];simp
 | false=>exact (h.2 rfl).len
theorem It.gszs_in:∀ {l:List It} {i:Nat} (h:i < l.length),(l[i]).gsz≤It.gszs l
 | x :: l,0,_=>by simp [It.gszs]
 | x :: l,i + 1,h=>by have:=It.gszs_in (l:=l) (i:=i) (by simpa using h);simp [It.gszs];omega
section
variable {X:Ev}
end
theorem encode_c (x:It) (hf:x.fits) (hv:x.valid=true):AC Tryd.prog XU 18 [itS x] [] fun r rows=>r=.tup [bsl x.enc,iv 0]∧rows=[]:=by
 have hw:x.wf 8=true∧x.enc.length≤4096:=by
  unfold It.valid at hv;simp only [Bool.and_eq_true,decide_eq_true_eq] at hv;exact ⟨hv.1.1,hv.2⟩
 refine AC.bodyW false Tryd.func18 rfl Tryd.call18 Tryd.ntmps18 (by simp) fun e nx=>gw ?_
 go_simp
 refine cl [] [] (valid8_c x hf) (by go_simp) ?_;rintro r rows ⟨rfl,rfl⟩;go_simp
 refine cl [] [] (add_c x hf hw.1 (by omega)) (by go_simp) ?_;rintro r rows ⟨rfl,rfl⟩;go_simp
theorem It.wf_parts {d:Nat} {k:Int} {n:Nat} {b:List UInt8} {ks:List It} (h:It.wf d (.mk k n b ks)=true):(k=2∨k=3)∧ks=[]∨b=[]∧(ks=[]∨(k=4∨k=5∨k=6)∧It.wfs (d - 1) ks=true):=by
 unfold It.wf at h;rw [Bool.and_eq_true] at h;have h:=h.2
 split at h
 ·simp only [Bool.and_eq_true,List.isEmpty_iff] at h;exact .inr ⟨h.1,.inl h.2⟩
 split at h
 ·rename_i h2
  simp only [Bool.and_eq_true,List.isEmpty_iff] at h;exact .inl ⟨.inl h2,h.2⟩
 split at h
 ·rename_i h2
  simp only [Bool.and_eq_true,List.isEmpty_iff] at h;exact .inl ⟨.inr h2,h.1.2⟩
 split at h
 ·simp only [Bool.and_eq_true,List.isEmpty_iff] at h;exact .inr ⟨h.1.1,.inl h.1.2⟩
 split at h
 ·simp only [Bool.and_eq_true,List.isEmpty_iff] at h;exact .inr ⟨h.1.1,.inl h.1.2⟩
 split at h
 ·rename_i h4
  simp only [Bool.and_eq_true,List.isEmpty_iff] at h;exact .inr ⟨h.1.1.1.1,.inr ⟨h4,h.2⟩⟩
 ·cases h
mutual
theorem It.gsz_enc:∀ (x:It) (d:Nat),It.wf d x=true→x.gsz≤30 * x.nodes + x.enc.length
 | .mk k n b ks,d,h=>by
   have hn:(It.mk k n b ks).nodes=1 + It.nodesL ks:=rfl;have hg:(It.mk k n b ks).gsz=30 + b.length + It.gszs ks:=rfl;rw [hn,hg];rcases It.wf_parts h with ⟨hk,rfl⟩ | ⟨rfl,rfl | ⟨hk,hs⟩⟩
   ·have he:(It.mk k n b []).enc=It.head k.toNat b.length ++ b:=by unfold It.enc;rw [if_neg (by omega),if_pos hk]
    rw [he,List.length_append];simp only [It.gszs];omega
   ·simp only [It.gszs,List.length_nil];omega
   ·have:=It.gszs_encs ks (d - 1) hs
    have he:(It.encs ks).length≤(It.mk k n [] ks).enc.length:=by
     unfold It.enc;rcases hk with rfl | rfl | rfl <;> simp
    simp only [List.length_nil];omega
theorem It.gszs_encs:∀ (l:List It) (d:Nat),It.wfs d l=true→It.gszs l≤30 * It.nodesL l + (It.encs l).length
 | [],_,_=>by simp [It.gszs]
 | x :: l,d,h=>by
   unfold It.wfs at h;rw [Bool.and_eq_true] at h;have h1:=It.gsz_enc x d h.1;have h2:=It.gszs_encs l d h.2;simp only [It.gszs,It.nodesL,It.encs,List.length_append];omega
end
theorem It.valid_gsz {x:It} (h:x.valid=true):It.wf 8 x=true∧x.gsz≤12000:=by
 unfold It.valid at h;simp only [Bool.and_eq_true,decide_eq_true_eq] at h;have:=It.gsz_enc x 8 h.1.1;exact ⟨h.1.1,by omega⟩
def rws (Ls:List (List UInt8)):List SV:=Ls.map bsl
section
variable (Ls:List (List UInt8)) (n i:Nat)
@[go_sem] theorem rws_len:(rws Ls).length=Ls.length:=by simp [rws]
@[go_sem] theorem rws_cv (H):(rws Ls).map (cv H (n + 1))=rws Ls:=by simp [rws,cv]
@[go_sem] theorem rws_sub (h:i < Ls.length):sub (rws Ls) i 1=[bsl Ls[i]]:=by
 unfold sub rws;rw [Nat.mul_one,List.drop_eq_getElem_cons (by simpa using h)];simp
end
theorem AC.calls {P:Program} {X:Ev} {f:FuncId} {args:List SV} {C:SV→List Row→Prop} {D:Value→Prop} (h:AC P X f args [] fun r rows=>C r rows) (hgo:∀ vals w,(callFunc f vals).run P w=.ok (.enter f vals) w) (hD:∀ (g:Cx) (w:World) (r:SV) (rows:List Row) (v:Value) (nx:Nat),C r rows→holds g w (ren 0 nx r) v→D v) {w:World} {vals:List Value} (hE:X.E w) (ha:agL ⟨fun b=>b < w.heap.size,fun _=>False,fun _=>0,fun _=>0⟩ w args vals):Calls P f vals.toArray w fun e w'=>∃ v,e=.returned v∧D v∧Below w.heap.size w w':=by
 have h1:=h.out ⟨fun b=>b < w.heap.size,fun _=>False,fun _=>0,fun _=>0⟩ w vals 0 hE (fun b hb=>hb) (fun u hu=>hu.elim) (fun u hu=>hu.elim) ha (fun r hr=>by simp at hr) (fun i j r q hi=>by simp at hi);rcases h1 with ⟨_,h1⟩ | ⟨v,w',h2,_⟩
 ·refine h1.mono fun e w' ⟨v,r,rows',g',he,hC,hh,_,_,_,_,_,_,hs,hb,ho,_⟩=>⟨v,he,hD _ _ _ _ _ _ hC hh,?_⟩
  exact ⟨ho.1,ho.2.1,ho.2.2,hs,fun k hk=>hb k hk (fun r hr=>by simp at hr)⟩
 ·rw [hgo] at h2;cases h2
end Go.Proofs.YtelefkkkccilaaaDoor
