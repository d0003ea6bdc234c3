/- Joined texts. -/
import Derived.Orders
import Derived.WalkKit
import Derived.Test.YtkgbjoepjcenlaaDoorKAA
import Derived.Shelf.LaysM
import Derived.Shelf.Strconv.Itoa3
import Derived.Lib.SmallJoins
import Derived.Test.YtkgbjoepjcenlaaDoorKAF
import Derived.Maps.OwnOps
import Derived.Maps.OwnSet
import Derived.Maps.Views
import Derived.Maps.StringElems
set_option linter.unusedVariables false
set_option linter.unusedSimpArgs false
namespace Go.Proofs.YtkgbjoepjcenlaaDoor
namespace Rg
def doesIn (P:Program) (o:Oper) (ρ:Operand→Value) (w:World) (K:Value→World→Prop):Prop:=
 match (execOp ρ o).run P w with
 | .ok (.value v) w'=>K v w'
 | .ok .skip w'=>K undef w'
 | .ok (.enter f args) w'=>Calls P f args w' fun e w''=>match e with | .returned v=>K v w'' | _=>False
 | _=>False
structure Does (P:Program) (o:Oper) (ρ:Operand→Value) (w:World) (K:Value→World→Prop):Prop where
 out:doesIn P o ρ w K
theorem Does.wp {P:Program} {o:Oper} {ρ:Operand→Value} {w:World} {K:Value→World→Prop} (h:Does P o ρ w K) {a:Act} (he:execOp a.eval o=execOp ρ o) {next:Act→World→Prop} {Q:Exit→Act→World→Prop} (hn:∀ v w',K v w'→next (a.put o.dst v) w'):o.wp P a w next Q:=by
 have h:=h.out
 unfold doesIn at h
 unfold Oper.wp
 rw [he]
 generalize (execOp ρ o).run P w=r at h
 cases r with
 | ok n w'=>
   cases n <;> simp only [Oper.upon] at h ⊢
   case value v=>exact hn _ _ h
   case skip=>exact hn _ _ h
   case enter f args=>
    refine Calls.mono h fun e w'' he=>?_
    cases e with
    | returned v=>exact hn _ _ he
    | panicked c=>exact he.elim
    | outgrown=>exact he.elim
 | halt x w'=>exact h.elim
theorem Does.mono {P:Program} {o:Oper} {ρ:Operand→Value} {w:World} {K K':Value→World→Prop} (h:Does P o ρ w K) (hk:∀ v w',K v w'→K' v w'):Does P o ρ w K':=by
 refine ⟨?_⟩
 have h:=h.out
 unfold doesIn at *
 generalize (execOp ρ o).run P w=r at h
 cases r with
 | ok n w'=>
   cases n <;> simp only at h ⊢
   case value v=>exact hk _ _ h
   case skip=>exact hk _ _ h
   case enter f args=>
    refine Calls.mono h fun e w'' he=>?_
    cases e with
    | returned v=>exact hk _ _ he
    | panicked c=>exact he.elim
    | outgrown=>exact he.elim
 | halt x w'=>exact h.elim
def dstOf (ops:Array Oper) (i:Nat):Option Tmp:=(ops[i]?).bind (·.dst)
def depsOf (o:Oper):List Nat:=(o.after.toList.filter (Region.binds .any)).map (·.on)
def deps (ops:Array Oper) (i:Nat):List Nat:=((ops[i]?).map depsOf).getD []
def rho (a0:Act) (ops:Array Oper) (i:Nat) (vs:Nat→Value):Operand→Value
 | .tmp d=>match (deps ops i).find? (fun j=>dstOf ops j==some d) with
   | some j=>vs j
   | none=>a0.eval (.tmp d)
 | x=>a0.eval x
def reads (o:Oper) (d:Tmp):Bool:=o.op.operands.any fun x=>match x with | .tmp t=>t==d | _=>false
def isSel:Op→Bool | .select _ _=>true | _=>false
def okB (ops:Array Oper) (M N:Nat):Bool:=
 (List.range M).all fun i=>match ops[i]? with
  | none=>false
  | some o=>
    !isSel o.op && (match o.dst with | none=>true | some d=>decide (d < N)) &&
    (match o.guard with | none=>true | some (g,_)=>(deps ops i).contains g && (dstOf ops g).isSome) &&
    ((deps ops i).all fun j=>decide (j < i)) &&
    (List.range M).all fun j=>match dstOf ops j with
     | none=>true
     | some d=>(decide (j=i) || o.dst !=some d) &&
       (j==i || !(reads o d) || (deps ops i).contains j || (deps ops j).contains i)
def putFrom (ops:Array Oper) (vs:Nat→Value):Nat→List Oper→Act→Act
 | _,[],a=>a
 | k,o :: r,a=>putFrom ops vs (k + 1) r (a.put o.dst (vs k))
def putAll (ops:Array Oper) (M:Nat) (vs:Nat→Value) (a:Act):Act:=putFrom ops vs 0 (ops.toList.take M) a
def tailB (ops:Array Oper) (M:Nat):Bool:=decide (M≤ops.size) && (List.range ops.size).all fun i=>decide (i < M) || ((List.range i).all fun j=>(deps ops i).contains j) && (deps ops i).all fun j=>decide (j < i)
section
variable {P:Program} {ops:Array Oper} {Q:Exit→Act→World→Prop} {a0:Act} {w0:World}
structure Looks (ops:Array Oper) (M N i:Nat) (o:Oper):Prop where
 sel:∀ cs b,o.op≠.select cs b
 lt:∀ d,o.dst=some d→d < N
 guard:∀ g b,o.guard=some (g,b)→g ∈ deps ops i∧(dstOf ops g).isSome=true
 before:∀ j ∈ deps ops i,j < i
 one:∀ j d,j < M→dstOf ops j=some d→j=i∨o.dst≠some d
 read:∀ j d,j < M→dstOf ops j=some d→j=i∨reads o d=false∨j ∈ deps ops i∨i ∈ deps ops j
theorem dstOf_lt {j:Nat} {d:Tmp} (h:dstOf ops j=some d):j < ops.size:=by
 unfold dstOf at h
 cases hj:ops[j]? with
 | none=>simp [hj] at h
 | some o=>exact (Array.getElem?_eq_some_iff.1 hj).1
theorem looks {M N i:Nat} {o:Oper} (h:okB ops M N=true) (hiM:i < M) (hi:ops[i]?=some o):Looks ops M N i o:=by
 unfold okB at h
 rw [List.all_eq_true] at h
 have h1:=h i (List.mem_range.2 hiM)
 simp only [hi,Bool.and_eq_true,List.all_eq_true] at h1
 obtain ⟨⟨⟨⟨hs,hd⟩,hg⟩,hb⟩,hr⟩:=h1
 have hr':∀ j d,j < M→dstOf ops j=some d→(j=i∨o.dst≠some d)∧(j=i∨reads o d=false∨j ∈ deps ops i∨i ∈ deps ops j):=fun j d hjM hj=>by
  have:=hr j (List.mem_range.2 hjM)
  simp only [hj] at this
  simp at this
  refine ⟨?_,?_⟩
  ·rcases this.1 with h | h
   ·exact .inl h
   ·exact .inr h
  ·rcases this.2 with ((h | h) | h) | h
   ·exact .inl h
   ·exact .inr (.inl h)
   ·exact .inr (.inr (.inl h))
   ·exact .inr (.inr (.inr h))
 refine ⟨fun cs b e=>by rw [e] at hs;simp [isSel] at hs,fun d e=>by simpa [e] using hd,fun g b e=>by rw [e] at hg;simpa using hg,fun j hj=>by simpa using hb j hj,fun j d hM hj=>(hr' j d hM hj).1,fun j d hM hj=>(hr' j d hM hj).2⟩
structure Inv (a0:Act) (ops:Array Oper) (M:Nat) (w0:World) (R:World→World→Prop) (G:World→Prop) (F:Nat→Value→World→Prop) (listed:Nat→Bool) (a:Act) (w:World) (vs:Nat→Value):Prop where
 defers:a.defers=a0.defers
 size:a.tmps.size=a0.tmps.size
 new:∀ j d,listed j=true→dstOf ops j=some d→a.tmps[d]?=some (vs j)
 old:∀ d,(∀ j,listed j=true→dstOf ops j≠some d)→a.tmps[d]?=a0.tmps[d]?
 closed:∀ j,listed j=true→∀ i ∈ deps ops j,listed i=true
 below:∀ j,listed j=true→j < M
 rel:R w0 w
 glob:G w
 fact:∀ j,listed j=true→F j (vs j) w
def StepOk (P:Program) (a0:Act) (ops:Array Oper) (w0:World) (R:World→World→Prop) (G:World→Prop) (F:Nat→Value→World→Prop) (i:Nat) (o:Oper):Prop:=
 ∀ (vs:Nat→Value) (w:World),R w0 w→G w→(∀ j ∈ deps ops i,F j (vs j) w)→
  match o.guard with
  | none=>Does P o (rho a0 ops i vs) w fun v w'=>R w w'∧G w'∧F i v w'
  | some (g,b)=>(vs g=.bool b→Does P o (rho a0 ops i vs) w fun v w'=>R w w'∧G w'∧F i v w')∧(vs g≠.bool b→F i undef w)
theorem Inv.step {M:Nat} {R:World→World→Prop} (hRr:∀ w,R w w) (hRt:∀ u v w,R u v→R v w→R u w) {G:World→Prop} {F:Nat→Value→World→Prop} (hF:∀ j v w w',R w w'→F j v w→F j v w')
 (hok:okB ops M a0.tmps.size=true) {listed:Nat→Bool} {a:Act} {w:World} {vs:Nat→Value} (h:Inv a0 ops M w0 R G F listed a w vs) {i:Nat} {o:Oper} (hiM:i < M) (hi:ops[i]?=some o) (hun:listed i=false) (hready:∀ j ∈ deps ops i,listed j=true)
 (hs:StepOk P a0 ops w0 R G F i o) {next:Act→World→Prop} (hn:∀ a' w' vs',Inv a0 ops M w0 R G F (fun j=>listed j || j==i) a' w' vs'→next a' w'):wpOp P ops Q i next a w:=by
 have L:=looks hok hiM hi
 have hev:execOp a.eval o=execOp (rho a0 ops i vs) o:=by
  refine execOp_congr o L.sel fun x hx=>?_
  cases x with
  | tmp d=>
    unfold rho
    cases hf:(deps ops i).find? (fun j=>dstOf ops j==some d) with
    | some j=>
      have hj:=List.mem_of_find?_eq_some hf
      have hd:=List.find?_some hf
      simp only [beq_iff_eq] at hd
      simp only [Act.eval,Array.getD_eq_getD_getElem?,h.new j d (hready j hj) hd,Option.getD_some]
      rw [hf]
    | none=>
      have ho:a.tmps[d]?=a0.tmps[d]?:=h.old d fun j hj hjd=>by
       have hji:j≠i:=fun e=>by subst e;rw [hj] at hun;cases hun
       have hrd:reads o d=true:=by
        unfold reads
        rw [Array.any_eq_true]
        obtain ⟨k,hk,e⟩:=Array.mem_iff_getElem.1 hx
        exact ⟨k,hk,by rw [e];simp⟩
       rcases L.read j d (h.below j hj) hjd with e | e | e | e
       ·exact hji e
       ·rw [hrd] at e;cases e
       ·have:=List.find?_eq_none.1 hf j e
        simp [hjd] at this
       ·have:=h.closed j hj i e
        rw [hun] at this;cases this
      simp only [Act.eval,Array.getD_eq_getD_getElem?,ho]
      rw [hf]
  | _=>rfl
 have hput:∀ v w',R w w'→G w'→F i v w'→Inv a0 ops M w0 R G F (fun j=>listed j || j==i) (a.put o.dst v) w' (fun j=>if j=i then v else vs j):=fun v w' hR hG hFi=>by
  have hio:dstOf ops i=o.dst:=by simp [dstOf,hi]
  refine ⟨?_,?_,?_,?_,?_,?_,hRt _ _ _ h.rel hR,hG,?_⟩
  ·cases hd:o.dst <;> simp [Act.put,h.defers]
  ·cases hd:o.dst <;> simp [Act.put,h.size]
  ·intro j d hj hjd
   by_cases hji:j=i
   ·subst hji
    rw [hio] at hjd
    have:=L.lt d hjd
    simp [Act.put,hjd,h.size,this]
   ·have hl:listed j=true:=by simpa [hji] using hj
    have hne:o.dst≠some d:=(L.one j d (h.below j hl) hjd).resolve_left hji
    rw [if_neg hji]
    cases hd:o.dst with
    | none=>simpa [Act.put] using h.new j d hl hjd
    | some d'=>
      have:d'≠d:=fun e=>hne (by rw [hd,e])
      simp [Act.put,Array.getElem?_setIfInBounds_ne this,h.new j d hl hjd]
  ·intro d hd
   have h1:=h.old d fun j hj=>hd j (by simp [hj])
   cases hdd:o.dst with
   | none=>simpa [Act.put] using h1
   | some d'=>
     have:d'≠d:=fun e=>hd i (by simp) (by rw [hio,hdd,e])
     simp [Act.put,Array.getElem?_setIfInBounds_ne this,h1]
  ·intro j hj k hk
   by_cases hji:j=i
   ·subst hji;simp [hready k hk]
   ·have hl:listed j=true:=by simpa [hji] using hj
    simp [h.closed j hl k hk]
  ·intro j hj
   by_cases hji:j=i
   ·subst hji;exact hiM
   ·exact h.below j (by simpa [hji] using hj)
  ·intro j hj
   by_cases hji:j=i
   ·subst hji;simpa using hFi
   ·have hl:listed j=true:=by simpa [hji] using hj
    rw [if_neg hji]
    exact hF _ _ _ _ hR (h.fact j hl)
 have hs':=hs vs w h.rel h.glob (fun j hj=>h.fact j (hready j hj))
 unfold wpOp
 simp only [hi]
 cases hg:o.guard with
 | none=>
   rw [hg] at hs'
   rw [if_pos (by simp [Region.wanted,hg])]
   exact .inl (hs'.wp hev fun v w' hK=>hn _ _ _ (hput v w' hK.1 hK.2.1 hK.2.2))
 | some gb=>
   obtain ⟨g,b⟩:=gb
   rw [hg] at hs'
   obtain ⟨hgd,hgs⟩:=L.guard g b hg
   obtain ⟨d,hd⟩:=Option.isSome_iff_exists.1 hgs
   have ht:=h.new g d (hready g hgd) hd
   have hy:yielded ops a.tmps g=match vs g with | .bool b=>some b | _=>none:=by
    unfold yielded
    rw [show (ops[g]?).bind (·.dst)=some d from hd]
    simp only [Option.bind_some,ht]
    cases vs g <;> rfl
   by_cases hw:vs g=.bool b
   ·rw [if_pos (by simp [Region.wanted,hg,hy,hw])]
    exact .inl ((hs'.1 hw).wp hev fun v w' hK=>hn _ _ _ (hput v w' hK.1 hK.2.1 hK.2.2))
   ·rw [if_neg (by
     simp only [Region.wanted,hg,hy]
     cases hv:vs g <;> simp
     rename_i b'
     intro e;exact hw (by rw [hv,e]))]
    exact hn _ _ _ (hput undef w (hRr w) h.glob (hs'.2 hw))
theorem Inv.start {M:Nat} {R:World→World→Prop} {G:World→Prop} {F:Nat→Value→World→Prop} {w:World} (hR:R w0 w) (hG:G w):Inv a0 ops M w0 R G F (fun _=>false) a0 w (fun _=>undef):=
 ⟨rfl,rfl,fun _ _ h=>(by cases h),fun _ _=>rfl,fun _ h=>(by cases h),fun _ h=>(by cases h),hR,hG,fun _ h=>(by cases h)⟩
theorem putFrom_get (vs:Nat→Value) (M:Nat) (hM:M≤ops.size):∀ (l:List Oper) (k:Nat) (a:Act),k + l.length=M→(∀ j,j < l.length→l[j]?=ops[k + j]?)→(∀ i j d,i < M→j < M→dstOf ops i=some d→dstOf ops j=some d→i=j)→(∀ j d,j < M→dstOf ops j=some d→d < a.tmps.size)→
 (putFrom ops vs k l a).defers=a.defers∧(putFrom ops vs k l a).tmps.size=a.tmps.size∧(∀ j d,k≤j→j < M→dstOf ops j=some d→(putFrom ops vs k l a).tmps[d]?=some (vs j))∧∀ d,(∀ j,k≤j→j < M→dstOf ops j≠some d)→(putFrom ops vs k l a).tmps[d]?=a.tmps[d]?
 | [],k,a,hk,hl,_,_=>⟨rfl,rfl,fun j d hk' hj=>(by simp at hk;omega),fun d hd=>rfl⟩
 | o :: r,k,a,hk,hl,hone,hlt=>by
  simp only [List.length_cons] at hk
  have h0:ops[k]?=some o:=by simpa using (hl 0 (by simp)).symm
  have hdk:dstOf ops k=o.dst:=by simp [dstOf,h0]
  have hsz:(a.put o.dst (vs k)).tmps.size=a.tmps.size:=by cases hd:o.dst <;> simp [Act.put]
  have ih:=putFrom_get vs M hM r (k + 1) (a.put o.dst (vs k)) (by omega) (fun j hj=>by have:=hl (j + 1) (by simpa using hj);simpa [Nat.add_assoc,Nat.add_comm 1 j] using this) hone (fun j d hjM hj=>by rw [hsz];exact hlt j d hjM hj)
  obtain ⟨i1,i2,i3,i4⟩:=ih
  refine ⟨i1.trans (by cases hd:o.dst <;> simp [Act.put]),i2.trans hsz,fun j d hj hjM hjd=>?_,fun d hd=>?_⟩
  ·rcases Nat.lt_or_ge k j with hkj | hkj
   ·exact i3 j d hkj hjM hjd
   ·have:j=k:=by omega
    subst this
    refine (i4 d fun i hi hiM hid=>?_).trans ?_
    ·have:=hone _ _ _ hiM hjM hid hjd;omega
    ·rw [hdk] at hjd
     simp [Act.put,hjd,hlt j d hjM (by rw [hdk];exact hjd)]
  ·refine (i4 d fun i hi hiM=>hd i (by omega) hiM).trans ?_
   have hne:=hd k (Nat.le_refl _) (by omega)
   rw [hdk] at hne
   cases hdd:o.dst with
   | none=>rfl
   | some d'=>
     have:d'≠d:=fun e=>hne (by rw [hdd,e])
     simp [Act.put,Array.getElem?_setIfInBounds_ne this]
theorem Inv.all {M:Nat} {R:World→World→Prop} {G:World→Prop} {F:Nat→Value→World→Prop} {w:World} {a:Act} {l:Nat→Bool} {vs:Nat→Value} (hM:M≤ops.size) (hok:okB ops M a0.tmps.size=true) (h:Inv a0 ops M w0 R G F l a w vs) (hl:∀ j,j < M→l j=true):a=putAll ops M vs a0:=by
 have hone:∀ i j d,i < M→j < M→dstOf ops i=some d→dstOf ops j=some d→i=j:=fun i j d hiM hjM hi hj=>by
  have h1:=dstOf_lt hi
  have hoi:ops[i]?=some ops[i]:=Array.getElem?_eq_getElem h1
  have hd:ops[i].dst=some d:=by simpa [dstOf,hoi] using hi
  rcases (looks hok hiM hoi).one j d hjM hj with e | e
  ·exact e.symm
  ·exact absurd hd e
 have hlt:∀ j d,j < M→dstOf ops j=some d→d < a0.tmps.size:=fun j d hjM hj=>by
  have h1:=dstOf_lt hj
  have hoj:ops[j]?=some ops[j]:=Array.getElem?_eq_getElem h1
  exact (looks hok hjM hoj).lt d (by simpa [dstOf,hoj] using hj)
 obtain ⟨p1,p2,p3,p4⟩:=putFrom_get (ops:=ops) vs M hM (ops.toList.take M) 0 a0 (by simp;omega) (fun j hj=>by
  have:j < M:=by simp at hj;omega
  simp [List.getElem?_take,this]) hone hlt
 have ht:a.tmps=(putAll ops M vs a0).tmps:=by
  refine Array.ext_getElem? fun d=>?_
  by_cases hd:∃ j,j < M∧dstOf ops j=some d
  ·obtain ⟨j,hjM,hj⟩:=hd
   exact (h.new j d (hl j hjM) hj).trans (p3 j d (Nat.zero_le _) hjM hj).symm
  ·exact (h.old d fun j hj e=>hd ⟨j,h.below j hj,e⟩).trans (p4 d fun j _ hjM e=>hd ⟨j,hjM,e⟩).symm
 have hd:a.defers=(putAll ops M vs a0).defers:=h.defers.trans p1.symm
 cases a
 cases hp:putAll ops M vs a0
 rw [hp] at ht hd
 simp only at ht hd
 rw [ht,hd]
def Firsts (ops:Array Oper) (k:Nat) (listed:Array Bool):Prop:=listed.size=ops.size∧∀ j,j < ops.size→listed.getD j false=decide (j < k)
theorem Firsts.succ {k:Nat} {listed:Array Bool} (h:Firsts ops k listed):Firsts ops (k + 1) (listed.setIfInBounds k true):=by
 refine ⟨by simpa using h.1,fun j hj=>?_⟩
 by_cases e:k=j
 ·subst e;simp [h.1,hj]
 ·have:=h.2 j hj
  rw [getD_set_ne _ e,this]
  simp;omega
theorem any_tail {M:Nat} (ht:tailB ops M=true):∀ (l:List Oper) (k fuel:Nat) (listed:Array Bool) (a:Act) (w:World),M≤k→ops.toList.drop k=l→l.length≤fuel→Firsts ops k listed→wpList P ops Q l a w→wpAny P .any ops Q fuel listed a w:=by
 have ht2:∀ i,M≤i→i < ops.size→(∀ j,j < i→j ∈ deps ops i)∧∀ j ∈ deps ops i,j < i:=by
  unfold tailB at ht
  simp only [Bool.and_eq_true,decide_eq_true_eq,List.all_eq_true] at ht
  intro i hM hi
  have:=ht.2 i (List.mem_range.2 hi)
  simp at this
  rcases this with h | h
  ·omega
  ·exact h
 have ht':∀ i,M≤i→i < ops.size→∀ j,j < i→j ∈ deps ops i:=fun i hM hi=>(ht2 i hM hi).1
 intro l
 induction l with
 | nil=>
   intro k fuel listed a w hk hl hf hfi h
   have hks:ops.size≤k:=by
    have:=congrArg List.length hl
    simp at this;omega
   have hr:Region.ready .any ops listed=[]:=by
    refine List.eq_nil_iff_forall_not_mem.2 fun j hj=>?_
    obtain ⟨h3,o,h4,_⟩:=mem_ready.1 hj
    have h5:j < ops.size:=(Array.getElem?_eq_some_iff.1 h4).1
    have h6:=hfi.2 j h5
    have h7:j < listed.size:=by rw [hfi.1];exact h5
    simp [h7] at h3 h6
    rw [h3] at h6
    simp at h6;omega
   cases fuel with
   | zero=>exact ⟨hr,h⟩
   | succ n=>exact ⟨fun _=>h,fun i hi=>by rw [hr] at hi;cases hi⟩
 | cons o r ih=>
   intro k fuel listed a w hk hl hf hfi h
   have hks:k < ops.size:=by
    have:=congrArg List.length hl
    simp at this;omega
   have hok:ops[k]?=some o:=by
    have:=congrArg (fun l=>l[0]?) hl
    simpa using this
   have hr:∀ i ∈ Region.ready .any ops listed,i=k:=by
    intro i hi
    obtain ⟨h3,oi,h4,h5⟩:=mem_ready.1 hi
    have h6:i < ops.size:=(Array.getElem?_eq_some_iff.1 h4).1
    have h7:i < listed.size:=by rw [hfi.1];exact h6
    have h8:=hfi.2 i h6
    simp [h7] at h3 h8
    rw [h3] at h8
    have h9:k≤i:=by simpa using h8
    rcases Nat.lt_or_ge k i with h10 | h10
    ·exfalso
     have h11:=ht' i (by omega) h6 k h10
     simp only [deps,h4,Option.map_some,Option.getD_some,depsOf] at h11
     obtain ⟨e,he,h12⟩:=List.mem_map.1 h11
     obtain ⟨he1,he2⟩:=List.mem_filter.1 he
     have h13:=h5 e (by simpa using he1) he2
     rw [h12,hfi.2 k hks] at h13
     simp at h13
    ·omega
   cases fuel with
   | zero=>simp at hf
   | succ n=>
     refine ⟨fun h0=>?_,fun i hi=>?_⟩
     ·exfalso
      have hd:∀ j ∈ deps ops k,j < k:=(ht2 k hk hks).2
      have:k ∈ Region.ready .any ops listed:=by
       refine mem_ready.2 ⟨?_,o,hok,fun e he hb=>?_⟩
       ·have h7:k < listed.size:=by rw [hfi.1];exact hks
        have h8:=hfi.2 k hks
        simp [h7] at h8 ⊢
        exact h8
       ·have h11:e.on ∈ deps ops k:=by
         simp only [deps,hok,Option.map_some,Option.getD_some,depsOf]
         exact List.mem_map.2 ⟨e,List.mem_filter.2 ⟨by simpa using he,hb⟩,rfl⟩
        have h12:=hd _ h11
        rw [hfi.2 e.on (by omega)]
        simpa using h12
      rw [h0] at this;cases this
     ·obtain rfl:=hr i hi
      have h1:wpOp P ops Q i (wpList P ops Q r) a w:=by
       unfold wpOp
       simp only [hok]
       exact h
      refine wpOp_mono (fun a' w' h'=>ih (i + 1) n _ a' w' (by omega) ?_ (by simp at hf;omega) hfi.succ h') h1
      rw [← List.tail_drop,hl];rfl
theorem cnt_le {l:List Bool}:(l.filter id).length≤l.length:=List.length_filter_le _ _
theorem any_inv {M:Nat} {R:World→World→Prop} (hRr:∀ w,R w w) (hRt:∀ u v w,R u v→R v w→R u w) {G:World→Prop} {F:Nat→Value→World→Prop} (hF:∀ j v w w',R w w'→F j v w→F j v w')
 (hok:okB ops M a0.tmps.size=true) (ht:tailB ops M=true) (hs:∀ i o,i < M→ops[i]?=some o→StepOk P a0 ops w0 R G F i o)
 (hend:∀ vs w',R w0 w'→G w'→(∀ j,j < M→F j (vs j) w')→wpList P ops Q (ops.toList.drop M) (putAll ops M vs a0) w'):
 ∀ (fuel:Nat) (listed:Array Bool) (a:Act) (w:World) (vs:Nat→Value),listed.size=ops.size→ops.size≤fuel + (listed.toList.filter id).length→Inv a0 ops M w0 R G F (fun j=>listed.getD j false) a w vs→wpAny P .any ops Q fuel listed a w:=by
 have hM:M≤ops.size:=by unfold tailB at ht;simp only [Bool.and_eq_true,decide_eq_true_eq] at ht;exact ht.1
 have hfin:∀ (fuel:Nat) (listed:Array Bool) (a:Act) (w:World) (vs:Nat→Value),listed.size=ops.size→ops.size≤fuel + (listed.toList.filter id).length→(∀ j,j < M→listed.getD j false=true)→Inv a0 ops M w0 R G F (fun j=>listed.getD j false) a w vs→wpAny P .any ops Q fuel listed a w:=by
  intro fuel listed a w vs hsz hfu hl hI
  have hfi:Firsts ops M listed:=⟨hsz,fun j hj=>by
   cases hc:listed.getD j false with
   | true=>have:=hI.below j hc;simp [this]
   | false=>
     by_cases h:j < M
     ·rw [hl j h] at hc;cases hc
     ·simp [h]⟩
  have hcnt:(listed.toList.filter id).length≤M:=by
   have e1:listed.toList=listed.toList.take M ++ listed.toList.drop M:=(List.take_append_drop _ _).symm
   have e2:(listed.toList.drop M).filter id=[]:=by
    refine List.filter_eq_nil_iff.2 fun x hx=>?_
    obtain ⟨j,hj,e⟩:=List.mem_iff_getElem.1 hx
    simp at hj
    have h1:=hfi.2 (M + j) (by omega)
    have h2:M + j < listed.size:=by omega
    simp [h2] at h1
    simp at e
    rw [← e,h1];simp
   rw [e1,List.filter_append,e2,List.append_nil]
   refine Nat.le_trans cnt_le (by simp;omega)
  rw [hI.all hM hok hl]
  exact any_tail ht (ops.toList.drop M) M fuel listed _ w (Nat.le_refl _) rfl (by simp;omega) hfi (hend vs w hI.rel hI.glob fun j hj=>hI.fact j (hl j hj))
 intro fuel
 induction fuel with
 | zero=>
   intro listed a w vs hsz hfu hI
   refine hfin 0 listed a w vs hsz hfu (fun j hj=>?_) hI
   have h1:(listed.toList.filter id).length=listed.toList.length:=by
    have:=cnt_le (l:=listed.toList)
    have h2:listed.toList.length=ops.size:=by simpa using hsz
    omega
   have h2:=List.length_filter_eq_length_iff.1 h1
   have h6:j < listed.size:=by omega
   have h7:=h2 listed[j] (by simp)
   simp [h6];simpa using h7
 | succ fuel ih=>
   intro listed a w vs hsz hfu hI
   by_cases hall:∀ j,j < M→listed.getD j false=true
   ·exact hfin _ listed a w vs hsz hfu hall hI
   have hex:∃ i,i ∈ Region.ready .any ops listed:=by
    refine Classical.byContradiction fun hno=>hall ?_
    have hno':Region.ready .any ops listed=[]:=List.eq_nil_iff_forall_not_mem.2 fun j hj=>hno ⟨j,hj⟩
    have:∀ n j,j < n→j < M→listed.getD j false=true:=by
     intro n
     induction n with
     | zero=>intro j h;omega
     | succ n ihn=>
       intro j hj hjM
       cases hc:listed.getD j false with
       | true=>rfl
       | false=>
         exfalso
         have hjs:j < ops.size:=by omega
         have hoj:ops[j]?=some ops[j]:=Array.getElem?_eq_getElem hjs
         have hm:j ∈ Region.ready .any ops listed:=by
          refine mem_ready.2 ⟨?_,ops[j],hoj,fun e he hb=>?_⟩
          ·have:j < listed.size:=by omega
           simp [this] at hc ⊢;exact hc
          ·have hd:e.on ∈ deps ops j:=by
            simp only [deps,hoj,Option.map_some,Option.getD_some,depsOf]
            exact List.mem_map.2 ⟨e,List.mem_filter.2 ⟨by simpa using he,hb⟩,rfl⟩
           have hlt:=(looks hok hjM hoj).before _ hd
           exact ihn e.on (by omega) (by omega)
         rw [hno'] at hm;cases hm
    exact fun j hj=>this (j + 1) j (by omega) hj
   refine ⟨fun hr=>?_,fun i hi=>?_⟩
   ·obtain ⟨i,hi⟩:=hex
    rw [hr] at hi;cases hi
   obtain ⟨h3,o,h4,h5⟩:=mem_ready.1 hi
   have h6:i < listed.size:=by have:=(Array.getElem?_eq_some_iff.1 h4).1;omega
   have hun:listed.getD i false=false:=by simp [h6] at h3 ⊢;exact h3
   have hdep:∀ j ∈ deps ops i,listed.getD j false=true:=fun j hj=>by
    simp only [deps,h4,Option.map_some,Option.getD_some,depsOf] at hj
    obtain ⟨e,he,rfl⟩:=List.mem_map.1 hj
    obtain ⟨he1,he2⟩:=List.mem_filter.1 he
    exact h5 e (by simpa using he1) he2
   have hiM:i < M:=by
    refine Nat.lt_of_not_le fun hMi=>hall fun j hj=>?_
    unfold tailB at ht
    simp only [Bool.and_eq_true,decide_eq_true_eq,List.all_eq_true] at ht
    have:=ht.2 i (List.mem_range.2 (by omega))
    simp at this
    rcases this with h | h
    ·omega
    ·exact hdep j (h.1 j (by omega))
   refine hI.step hRr hRt hF hok hiM h4 hun hdep (hs i o hiM h4) fun a' w' vs' hI'=>ih _ a' w' vs' (by simpa using hsz) ?_ ?_
   ·have:((listed.setIfInBounds i true).toList.filter id).length=(listed.toList.filter id).length + 1:=by
     have hg:listed.toList[i]'(by simpa using h6)=false:=by
      simp [h6] at hun;simpa using hun
     rw [Array.toList_setIfInBounds]
     have e1:listed.toList=listed.toList.take i ++ false :: listed.toList.drop (i + 1):=by
      conv=>lhs;rw [← List.take_append_drop i listed.toList]
      rw [List.drop_eq_getElem_cons (by simpa using h6),hg]
     have e2:listed.toList.set i true=listed.toList.take i ++ true :: listed.toList.drop (i + 1):=by
      rw [List.set_eq_take_append_cons_drop,if_pos (by simpa using h6)]
     rw [e2]
     conv=>rhs;rw [e1]
     simp [List.filter_append]
     omega
    omega
   ·have hl:(fun j=>(listed.setIfInBounds i true).getD j false)=fun j=>listed.getD j false || j==i:=by
     funext j
     by_cases hji:j=i
     ·subst hji;simp [h6]
     ·have hij:i≠j:=fun e=>hji e.symm
      rw [getD_set_ne _ hij];simp [hji]
    rw [hl];exact hI'
theorem wpOps_list (l:List Oper):∀ k,ops.toList.drop k=l→k≤ops.size→∀ a w,wpOps P ops Q (List.range' k (ops.size - k)) a w=wpList P ops Q l a w:=by
 intro k hl hk a w
 have h:=wpOps_eq_wpList (P:=P) (ops:=ops) (Q:=Q) l k (fun j=>by subst hl;simp)
 have hlen:l.length=ops.size - k:=by subst hl;simp
 rw [← hlen,h]
theorem region {M:Nat} {id:Nat} {b:Bool} {w:World} (hm:P.follows .mixedOrders=true) (R:World→World→Prop) (hRr:∀ w,R w w) (hRt:∀ u v w,R u v→R v w→R u w) (hRd:∀ w:World,R w w.drew) (G:World→Prop) (F:Nat→Value→World→Prop) (hF:∀ j v w w',R w w'→F j v w→F j v w')
 (hok:okB ops M a0.tmps.size=true) (ht:(if b then tailB ops M else decide (M≤ops.size))=true) (hGd:G w→G w.drew) (hG:G w) (hs:∀ i o,i < M→ops[i]?=some o→StepOk P a0 ops w R G F i o)
 (hend:∀ vs w',R w w'→G w'→(∀ j,j < M→F j (vs j) w')→wpList P ops Q (ops.toList.drop M) (putAll ops M vs a0) w'):(Code.region id ops b).wp P Q a0 w:=by
 cases b with
 | true=>
   have ht:tailB ops M=true:=ht
   refine wp_region_any hm (any_inv hRr hRt hF hok ht hs hend ops.size _ a0 w.drew (fun _=>undef) (by simp) (by omega) ?_)
   have hl:(fun j=>(Array.replicate ops.size false).getD j false)=fun _=>false:=by
    funext j
    rcases Nat.lt_or_ge j ops.size with h | h
    ·simp [h]
    ·have h':¬ j < ops.size:=by omega
     simp [Array.getElem?_replicate,h']
   rw [hl]
   exact Inv.start (hRd w) (hGd hG)
 | false=>
   have hM:M≤ops.size:=by simpa using ht
   refine wp_region ?_
   have hall:∀ n k (a:Act) (w':World) (vs:Nat→Value),k + n=M→Inv a0 ops M w R G F (fun j=>decide (j < k)) a w' vs→wpOps P ops Q (List.range' k (ops.size - k)) a w':=by
    intro n
    induction n with
    | zero=>
      intro k a w' vs hk hI
      obtain rfl:k=M:=by omega
      rw [hI.all hM hok (fun j hj=>by simpa using hj),wpOps_list _ k rfl hM]
      exact hend vs w' hI.rel hI.glob fun j hj=>hI.fact j (by simpa using hj)
    | succ n ih=>
      intro k a w' vs hk hI
      have hks:k < ops.size:=by omega
      have hok':ops[k]?=some ops[k]:=Array.getElem?_eq_getElem hks
      have hL:=looks hok (show k < M by omega) hok'
      have e:ops.size - k=(ops.size - (k + 1)) + 1:=by omega
      rw [e,List.range'_succ,wpOps_cons]
      refine hI.step hRr hRt hF hok (show k < M by omega) hok' (by simp) (fun j hj=>by simpa using hL.before j hj) (hs k _ (by omega) hok') fun a' w'' vs' hI'=>ih (k + 1) a' w'' vs' (by omega) ?_
      have hl:(fun j=>decide (j < k) || j==k)=fun j=>decide (j < k + 1):=by
       funext j
       rcases Nat.lt_trichotomy j k with h | h | h
       ·simp [h];omega
       ·subst h;simp
       ·have h1:¬ j < k:=by omega
        have h2:j≠k:=by omega
        have h3:¬ j < k + 1:=by omega
        simp [h1,h2,h3]
      rw [hl] at hI'
      exact hI'
   have:=hall M 0 a0 w (fun _=>undef) (by omega) (by
    have hl:(fun j=>decide (j < 0))=fun _=>false:=by funext j;simp
    rw [hl];exact Inv.start (hRr w) hG)
   rw [List.range_eq_range'];exact this
def Steps (P:Program) (a0:Act) (ops:Array Oper) (w0:World) (R:World→World→Prop) (G:World→Prop) (F:Nat→Value→World→Prop):Nat→List Oper→Prop
 | _,[]=>True
 | k,o :: r=>StepOk P a0 ops w0 R G F k o∧Steps P a0 ops w0 R G F (k + 1) r
theorem Steps.get {R:World→World→Prop} {G:World→Prop} {F:Nat→Value→World→Prop}:∀ (l:List Oper) (k:Nat),Steps P a0 ops w0 R G F k l→∀ j o,l[j]?=some o→StepOk P a0 ops w0 R G F (k + j) o
 | [],_,_,j,o,h=>by simp at h
 | x :: r,k,hs,j,o,h=>by
   cases j with
   | zero=>simp at h;subst h;exact hs.1
   | succ j=>
     have:=Steps.get r (k + 1) hs.2 j o (by simpa using h)
     have e:k + 1 + j=k + (j + 1):=by omega
     rw [e] at this;exact this
theorem region_of {M:Nat} {id:Nat} {b:Bool} {w:World} {Q:Exit→Act→World→Prop} {P:Program} {ops:Array Oper} {a0:Act} (R:World→World→Prop) (G:World→Prop) (F:Nat→Value→World→Prop) (hm:P.follows .mixedOrders=true) (hRr:∀ w,R w w) (hRt:∀ u v w,R u v→R v w→R u w) (hRd:∀ w:World,R w w.drew) (hF:∀ j v w w',R w w'→F j v w→F j v w')
 (hok:okB ops M a0.tmps.size=true) (ht:(if b then tailB ops M else decide (M≤ops.size))=true) (hGd:G w→G w.drew) (hG:G w) (hs:Steps P a0 ops w R G F 0 (ops.toList.take M))
 (hend:∀ vs w',R w w'→G w'→(∀ j,j < M→F j (vs j) w')→wpList P ops Q (ops.toList.drop M) (putAll ops M vs a0) w'):(Code.region id ops b).wp P Q a0 w:=
 region hm R hRr hRt hRd G F hF hok ht hGd hG (fun i o hi ho=>by
  have:=Steps.get _ 0 hs i o (by simp [List.getElem?_take,hi,ho])
  simpa using this) hend
end
theorem Does.value {P:Program} {o:Oper} {ρ:Operand→Value} {w w':World} {v:Value} {K:Value→World→Prop} (h:(execOp ρ o).run P w=.ok (.value v) w') (hk:K v w'):Does P o ρ w K:=⟨by unfold doesIn;rw [h];exact hk⟩
theorem Does.move {P:Program} {o:Oper} {ρ:Operand→Value} {w:World} {K:Value→World→Prop} (x:Operand) (ho:o.op=.move x) (hk:K (ρ x) w):Does P o ρ w K:=Does.value (w':=w) (by simp [execOp,ho]) hk
theorem Does.assign {P:Program} {o:Oper} {ρ:Operand→Value} {w:World} {K:Value→World→Prop} (x:Operand) (ho:o.op=.assign x) (hk:K (ρ x) w):Does P o ρ w K:=Does.value (w':=w) (by simp [execOp,ho]) hk
theorem Does.call {P:Program} {o:Oper} {ρ:Operand→Value} {w:World} {K:Value→World→Prop} (f:FuncId) (fo:Operand) (args:Array Operand) (ts:Array TypeId) (ho:o.op=.call { callee:=.value fo,args:=args,argTypes:=ts }) (hf:ρ fo=.func (.func f) #[] #[]) {vals:Array Value} (hv:args.map ρ=vals)
 (hcf:∀ w,(callFunc f vals).run P w=.ok (.enter f vals) w) (h:Calls P f vals w fun e w'=>∃ v,e=.returned v∧K v w'):Does P o ρ w K:=by
 have hr:(execOp ρ o).run P w=.ok (.enter f vals) w:=by
  simp only [execOp,ho,resolve,hf,hv,Deferred.ofValue,Sem.run_bind,Sem.run_pure,Result.andThen_ok,invoke]
  have:=hcf w
  simpa using this
 refine ⟨?_⟩
 unfold doesIn
 rw [hr]
 refine h.mono fun e w' ⟨v,he,hk⟩=>?_
 subst he
 exact hk
end Rg
end Go.Proofs.YtkgbjoepjcenlaaDoor
namespace Go.Proofs.YtkgbjoepjcenlaaDoor
open Go.RowKit Go.Shelf
def shLays_ren:Go.Shelf.Ren:=⟨fun | 171=>61 | 243=>65 | 246=>69 | 283=>70 | 284=>71 | 285=>72 | 286=>73 | 129=>75 | 317=>74 | 318=>76 | 319=>77 | 320=>78 | 337=>79 | 338=>80 | n=>n,fun | 3=>3 | 9=>9 | 2=>2 | 4=>4 | 171=>86 | 0=>0 | 53=>87 | 37=>83 | 5=>5 | 173=>90 | 212=>93 | 51=>94 | 20=>20 | 213=>95 | 46=>48 | 232=>99 | 233=>100 | n=>n,fun | 17=>0 | 18=>1 | 19=>2 | n=>n⟩
theorem shLays:Go.Proofs.LaysM.n171 Tryd.prog shLays_ren:={
 mixed:=by kernel_rfl
 f129:=Tryd.func75.trans (congrArg some (by kernel_rfl))
 f171:=Tryd.func61.trans (congrArg some (by kernel_rfl))
 f243:=Tryd.func65.trans (congrArg some (by kernel_rfl))
 f246:=Tryd.func69.trans (congrArg some (by kernel_rfl))
 f283:=Tryd.func70.trans (congrArg some (by kernel_rfl))
 f284:=Tryd.func71.trans (congrArg some (by kernel_rfl))
 f285:=Tryd.func72.trans (congrArg some (by kernel_rfl))
 f286:=Tryd.func73.trans (congrArg some (by kernel_rfl))
 f317:=Tryd.func74.trans (congrArg some (by kernel_rfl))
 f318:=Tryd.func76.trans (congrArg some (by kernel_rfl))
 f319:=Tryd.func77.trans (congrArg some (by kernel_rfl))
 f320:=Tryd.func78.trans (congrArg some (by kernel_rfl))
 f337:=Tryd.func79.trans (congrArg some (by kernel_rfl))
 f338:=Tryd.func80.trans (congrArg some (by kernel_rfl))
 t0:=Tryd.underlying0
 a0:=Tryd.isAgg0
 z0:=Tryd.sizeOf0
 v0:=Tryd.zeroValue0
 t2:=Tryd.underlying2
 a2:=Tryd.isAgg2
 z2:=Tryd.sizeOf2
 v2:=Tryd.zeroValue2
 t3:=Tryd.underlying3
 a3:=Tryd.isAgg3
 z3:=Tryd.sizeOf3
 v3:=Tryd.zeroValue3
 t4:=Tryd.underlying4
 a4:=Tryd.isAgg4
 z4:=Tryd.sizeOf4
 v4:=Tryd.zeroValue4
 t5:=Tryd.underlying5
 a5:=Tryd.isAgg5
 z5:=Tryd.sizeOf5
 v5:=Tryd.zeroValue5
 t9:=Tryd.underlying9
 a9:=Tryd.isAgg9
 z9:=Tryd.sizeOf9
 v9:=Tryd.zeroValue9
 t20:=Tryd.underlying20
 a20:=Tryd.isAgg20
 z20:=Tryd.sizeOf20
 v20:=Tryd.zeroValue20
 t37:=Tryd.underlying83
 a37:=Tryd.isAgg83
 z37:=Tryd.sizeOf83
 v37:=Tryd.zeroValue83
 t46:=Tryd.underlying48
 a46:=Tryd.isAgg48
 z46:=Tryd.sizeOf48
 v46:=Tryd.zeroValue48
 t51:=Tryd.underlying94
 a51:=Tryd.isAgg94
 z51:=Tryd.sizeOf94
 v51:=Tryd.zeroValue94
 t53:=Tryd.underlying87
 a53:=Tryd.isAgg87
 z53:=Tryd.sizeOf87
 v53:=Tryd.zeroValue87
 t171:=Tryd.underlying86
 a171:=Tryd.isAgg86
 z171:=Tryd.sizeOf86
 v171:=Tryd.zeroValue86
 t173:=Tryd.underlying90
 a173:=Tryd.isAgg90
 z173:=Tryd.sizeOf90
 v173:=Tryd.zeroValue90
 t212:=Tryd.underlying93
 a212:=Tryd.isAgg93
 z212:=Tryd.sizeOf93
 v212:=Tryd.zeroValue93
 t213:=Tryd.underlying95
 a213:=Tryd.isAgg95
 z213:=Tryd.sizeOf95
 t232:=Tryd.underlying99
 a232:=Tryd.isAgg99
 z232:=Tryd.sizeOf99
 v232:=Tryd.zeroValue99
 t233:=Tryd.underlying100
 a233:=Tryd.isAgg100
 z233:=Tryd.sizeOf100
 v233:=Tryd.zeroValue100
 g17:=by kernel_rfl
 g18:=by kernel_rfl
 g19:=by kernel_rfl
 i0:=by kernel_rfl
 i2:=by kernel_rfl
 i3:=by kernel_rfl
 i4:=by kernel_rfl
 i5:=by kernel_rfl
 i9:=by kernel_rfl
 i20:=by kernel_rfl
 i37:=by kernel_rfl
 i46:=by kernel_rfl
 i51:=by kernel_rfl
 i53:=by kernel_rfl
 i171:=by kernel_rfl
 i173:=by kernel_rfl
 i212:=by kernel_rfl
 i232:=by kernel_rfl
 i233:=by kernel_rfl
 m17:=by kernel_rfl
 m18:=by kernel_rfl
 m19:=by kernel_rfl }
def tabN:String:=Rows.twinGrowsRow.named.headD (String.ofList [])
def Env (w:World):Prop:=Lib.TabIs Tryd.prog w tabN .u64 Lib.pow10Tab
theorem Env.below {w w':World} (h:Env w) (hb:Below w.heap.size w w'):Env w':=Go.Joins.tab_stays (P:=Tryd.prog) (show Tryd.prog.globalNamed tabN=some 0 by kernel_rfl) h hb (Nat.le_refl _)
theorem itoa_dec:∀ n,n < 1001→Lib.itoa ((n:Nat):Int)=Tm.dec n:=by decide +kernel
theorem below_grow (w:World) (k:Nat) (os:Array Obj):Below w.heap.size w (Go.Sort.grow (w.drewN k) os):=
 ⟨rfl,rfl,rfl,by simp [Go.Sort.grow,World.drewN],fun i hi=>by
  show (w.heap ++ os)[i]?=w.heap[i]?
  rw [Array.getElem?_append_left hi]⟩
theorem itoa_any (n:Nat) (hn:n≤1000) (w:World) (h:Env w):Calls Tryd.prog 61 #[.int .i64 n] w fun e w'=>e=.returned (.string ⟨(Tm.dec n).toArray⟩)∧Below w.heap.size w w':=
 (Any.strconv_Itoa shLays n (by omega) (by omega) w h).mono fun e w' ⟨he,k,os,hw⟩=>⟨by rw [he,itoa_dec n (by omega)],hw ▸ below_grow w k os⟩
end Go.Proofs.YtkgbjoepjcenlaaDoor
namespace Go.Proofs.YtkgbjoepjcenlaaDoor
open Go.RowKit Go.Maps
theorem wpList_insert_own {P:Program} (w:World) {ops:Array Oper} {rest:List Oper} {o:Oper} {a:Act} {Q:Exit→Act→World→Prop}
 (hg:o.guard=none) (hd:o.dst=none) (m x v:Operand) (t:TypeId) (hop:o.op=Op.insert t m x v)
 (k e:TypeId) (K:Keyed P k) (ht:P.underlying t=some (.map k e)) (R:Value→Option (DataW Unit × List MemPlace)) (b n:Nat) (D:DataW Unit)
 (hm:a.eval m=.map (some b)) (hown:w.ownsMap P k R b n D) (hn:n < maxLen) (key val:Value) (kl:Lit) (hx:a.eval x=key) (hv:a.eval v=val) (hkey:keyOf P k key=some kl)
 (d:DataW Unit) (hval:R val=some (d,[]))
 (hK:∀ w',w'.ownsMap P k R b (n + 1) (D.put kl d)→w.grownBy w' (some b)→wpList P ops Q rest a w'):wpList P ops Q (o :: rest) a w:=by
 refine wpList_plain hg fun K' hK'=>?_
 obtain ⟨w',hrun,r1,r2⟩:=hown.update K ht hn hkey hval
 unfold Oper.wp
 simp [execOp,hop,hm,hx,hv,hrun,Result.andThen]
 refine hK' _ _ ?_
 rw [hd]
 exact hK w' r1 r2
theorem wpList_makeMap {P:Program} (w:World) {ops:Array Oper} {rest:List Oper} {o:Oper} {a:Act} {Q:Exit→Act→World→Prop}
 (hg:o.guard=none) (t:TypeId) (hop:o.op=Op.makeMap t none)
 (hK:wpList P ops Q rest (a.put o.dst (.map (some w.heap.size))) (w.alloc (.map #[] 0))):wpList P ops Q (o :: rest) a w:=by
 refine wpList_plain hg fun K' hK'=>?_
 have hrun:=run_makeMap (P:=P) t w
 unfold Oper.wp
 simp [execOp,hop,hrun,Result.andThen]
 exact hK' _ _ hK
theorem below_map {B b:Nat} {a w w':World} (h:Below B a w) (hgr:w.grownBy w' (some b)) (hB:B≤b) (hs:B≤w.heap.size):Below B a w':=
 ⟨hgr.os.trans h.os,hgr.tape.trans h.tape,hgr.output.trans h.output,Nat.le_trans h.size hgr.size,fun i hi=>(hgr.block i (Nat.lt_of_lt_of_le hi hs) (fun e=>by cases e;omega)).trans (h.block i hi)⟩
theorem wpList_lookup_str {P:Program} (w:World) {ops:Array Oper} {rest:List Oper} {o:Oper} {a:Act} {Q:Exit→Act→World→Prop}
 (hg:o.guard=none) (m x:Operand) (t:TypeId) (hop:o.op=Op.lookup t m x false)
 (k e:TypeId) (K:Keyed P k) (ht:P.underlying t=some (.map k e)) (he:P.underlying e=some .string) (hz:(zeroValue e).run P w=.ok (.string ⟨#[]⟩) w) (b n:Nat) (D:DataW Unit)
 (hm:a.eval m=.map (some b)) (hown:w.ownsMap P k (plainElem P e) b n D) (key:Value) (kl:Lit) (hx:a.eval x=key) (hkey:keyOf P k key=some kl) (l:List UInt8) (hat:D.atKey kl (.lit (.string []))=.lit (.string l))
 (hK:wpList P ops Q rest (a.put o.dst (.string ⟨l.toArray⟩)) w):wpList P ops Q (o :: rest) a w:=by
 refine wpList_plain hg fun K' hK'=>?_
 obtain ⟨v,ps,hrun,hv⟩:=hown.lookup K ht hz (zd:=.lit (.string [])) (zp:=[]) (plainElem_string he (Nat.zero_le _)) hkey
 rw [hat] at hv
 obtain ⟨s,rfl,hs,_⟩:=plainElem_string_inv he hv
 have hs':s=⟨l.toArray⟩:=by
  have h1:s.data.toList=l:=by
   have:=congrArg Prod.fst hs
   simp at this
   exact this.symm
  rw [← h1]
 subst hs'
 unfold Oper.wp
 simp [execOp,hop,hm,hx,hrun,Result.andThen]
 exact hK' _ _ hK
theorem wpList_lookup_bool {P:Program} (w:World) {ops:Array Oper} {rest:List Oper} {o:Oper} {a:Act} {Q:Exit→Act→World→Prop}
 (hg:o.guard=none) (m x:Operand) (t:TypeId) (hop:o.op=Op.lookup t m x false)
 (k e:TypeId) (K:Keyed P k) (ht:P.underlying t=some (.map k e)) (he:P.underlying e=some .bool) (hz:(zeroValue e).run P w=.ok (.bool false) w) (b n:Nat) (D:DataW Unit)
 (hm:a.eval m=.map (some b)) (hown:w.ownsMap P k (plainElem P e) b n D) (key:Value) (kl:Lit) (hx:a.eval x=key) (hkey:keyOf P k key=some kl) (r:Bool) (hat:D.atKey kl (.lit (.bool false))=.lit (.bool r))
 (hK:wpList P ops Q rest (a.put o.dst (.bool r)) w):wpList P ops Q (o :: rest) a w:=by
 refine wpList_plain hg fun K' hK'=>?_
 obtain ⟨v,ps,hrun,hv⟩:=hown.lookup K ht hz (zd:=.lit (.bool false)) (zp:=[]) (plainElem_bool he false) hkey
 rw [hat] at hv
 have hvr:v=.bool r:=by
  unfold plainElem at hv
  rw [he] at hv
  cases v <;> simp at hv
  rw [hv.1]
 subst hvr
 unfold Oper.wp
 simp [execOp,hop,hm,hx,hrun,Result.andThen]
 exact hK' _ _ hK
def litD:DataW Unit:=((((((((DataW.map []).put (.int .i64 2) (.lit (.string [112,97,105,114]))).put (.int .i64 3) (.lit (.string [104,97,115,104]))).put (.int .i64 4) (.lit (.string [115,101,97,108]))).put (.int .i64 5) (.lit (.string [115,105,103,110]))).put (.int .i64 6) (.lit (.string [112,117,98]))).put (.int .i64 7) (.lit (.string [115,104,97,114,101]))).put (.int .i64 8) (.lit (.string [107,100,102])))
theorem litD_at {o:Int} (h:o=2∨o=3∨o=4∨o=5∨o=6∨o=7∨o=8):litD.atKey (.int .i64 o) (.lit (.string []))=.lit (.string (Tm.opName o)):=by
 rcases h with rfl | rfl | rfl | rfl | rfl | rfl | rfl <;> kernel_rfl
namespace Tm
theorem text_op {t:Tm} (h:t.op≠1):text t=opName t.op ++ 40 :: (joined t.kids ++ [41]):=by cases t;simp only [text,op,kids] at h ⊢;rw [if_neg h]
theorem text_name {t:Tm} (h:t.op=1):text t=110 :: dec t.num.toNat:=by cases t;simp only [text,op,num] at h ⊢;rw [if_pos h]
theorem joined_take {l:List Tm} {j:Nat} (h:j < l.length):joined (l.take (j + 1))=joined (l.take j) ++ ((if j=0 then [] else [44,32]) ++ text l[j]):=by
 rw [List.take_succ_eq_append_getElem h,joined_snoc]
 by_cases hj:j=0
 ·subst hj;simp
 ·rw [if_neg hj,if_neg]
  intro e
  have:=congrArg List.length e
  rw [List.length_take] at this
  simp only [List.length_nil] at this
  omega
end Tm
end Go.Proofs.YtkgbjoepjcenlaaDoor
