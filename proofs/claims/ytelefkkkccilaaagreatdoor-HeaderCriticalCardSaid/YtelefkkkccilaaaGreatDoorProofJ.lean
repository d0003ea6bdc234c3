/- Proved: for all headers and every two lists of numbers, coreseclaw12.HeaderCritical returns true and leaves its arguments as they were, the listed tables as the program lays them. No further conditions. -/
import Derived.Test.YtelefkkkccilaaaGreatDoorSw
import Derived.Test.YtelefkkkccilaaaGreatDoorSx
import Derived.Test.YtelefkkkccilaaaGreatDoorSr
import Derived.Test.YtelefkkkccilaaaGreatDoorCards
import Derived.Test.YtelefkkkccilaaaGreatDoorTie
import Derived.Deep.DeepHandedRow
import Derived.Lib.LaidIn
import Derived.Stop.LaidErr
set_option linter.all false
namespace Go.Proofs.YtelefkkkccilaaaGreatDoor
open Go.ChangeShapes Go.WideShapes Go.ChangeAt Go.RowKit Go.Joins Go.Shelf
theorem own:ownKnob Tryz.prog.godebug=none:=by kernel_rfl
theorem laidOut:laidOutB Tryz.prog=true:=by kernel_rfl
theorem env_of {W:World} (h:laidMetH Tryz.prog Rows.headerCriticalRow.laid W):Env W:=envOf h
set_option maxRecDepth 100000 in
theorem contract (H:Type) (enc:TypeId × Value→H) (W:World) (base:Nat) (args:Array Value) (ds gs:List (DataW H)) (before:List MemPlace)
 (hval:∀ (j:Nat) t v,Tryz.f6.params[j]?=some t→args[j]?=some v→Value.okWide Tryz.prog W .any base t v)
 (hW:DataW.Whole enc Tryz.prog Tryz.f6.params.toList Rows.headerCriticalSpec.vars false W args.toList ds gs before) (hL:laidMetH Tryz.prog Rows.headerCriticalRow.laid W):
 Calls Tryz.prog 6 args W fun e W'=>∃ v,e=.returned v∧Rows.headerCriticalSpec.post enc Tryz.prog Tryz.f6 false true false false W args v W':=by
 have hW':=hW;obtain ⟨p,q,hA0,hV,rfl,hfz,hnd⟩:=hW;have hA:DataW.TrodAll enc Tryz.prog W 0 (fun _=>true) true Tryz.f6.params.toList args.toList ds p:=hA0;rw [Tryz.params6] at hA hval;obtain ⟨v0,vs0,d0,ds0,p0,q0,hargs,rfl,rfl,h0,hr0⟩:=trodAll_cons hA;obtain ⟨v1,vs1,d1,ds1,p1,q1,rfl,rfl,rfl,h1,hr1⟩:=trodAll_cons hr0;obtain ⟨v2,vs2,d2,ds2,p2,q2,rfl,rfl,rfl,h2,hr2⟩:=trodAll_cons hr1;obtain ⟨rfl,rfl,rfl⟩:=trodAll_nil hr2;obtain rfl:args=#[v0,v1,v2]:=by cases args;simp_all
 obtain ⟨rfl,rfl⟩:=trodVars_none hV;have k0:=h0;have lt0:∀ x ∈ p0,x.block < W.heap.size:=by obtain ⟨m,hm⟩:=k0;exact DataW.trod_lt m _ _ _ hm
 have k1:=h1;have lt1:∀ x ∈ p1,x.block < W.heap.size:=by obtain ⟨m,hm⟩:=k1;exact DataW.trod_lt m _ _ _ hm
 have k2:=h2;have lt2:∀ x ∈ p2,x.block < W.heap.size:=by obtain ⟨m,hm⟩:=k2;exact DataW.trod_lt m _ _ _ hm
 obtain ⟨cs0,rfl,_⟩:=okWide_struct Tryz.underlying28 (hval 0 28 v0 rfl rfl);obtain ⟨x0,y0,A0,C0,hcs0,hI0,hJ0⟩:∃ x y,ReadsH W cs0.toList x y:=by
  obtain ⟨fuel,hf⟩:=h0;exact readsH_of hf
 obtain rfl:cs0=#[.int .i64 x0.kind,.int .u64 (x0.num:Int),.slice A0.ab A0.nb A0.cb,.slice A0.ai A0.ni A0.ci,.int .i64 y0.kind,.int .u64 (y0.num:Int),.slice C0.ab C0.nb C0.cb,.slice C0.ai C0.ni C0.ci]:=Array.ext' hcs0;obtain ⟨a1,n1,c1,rfl,hR1,hc1,hm1⟩:∃ (a:Option Addr) (n c:Nat),v1=.slice a n c∧InL W a n∧n≤c∧c≤9223372036854775807:=by
  obtain ⟨a,n,c,rfl⟩:=okWide_slice Tryz.underlying29 (hval 1 29 v1 rfl rfl);obtain ⟨fuel,hf⟩:=h1;exact nums_of hf
 obtain ⟨a2,n2,c2,l2,rfl,hR2,hc2,hm2⟩:∃ (a:Option Addr) (n c:Nat) (l:List Int),v2=.slice a n c∧NL W a n l∧n≤c∧c≤9223372036854775807:=by
  obtain ⟨a,n,c,rfl⟩:=okWide_slice Tryz.underlying29 (hval 2 29 v2 rfl rfl);obtain ⟨fuel,hf⟩:=h2;exact nl_of hf
 clear hA0 hr0 hr1 hr2;refine (critical_law x0 y0 A0 C0 W _ _ hI0 hJ0 (env_of hL) a1 n1 c1 hR1 l2 a2 n2 c2 hR2).mono fun e W' ⟨he,bel⟩=>?_
 subst he;exact ⟨_,rfl,_,_,_,[],_,[],hW',trodAll_mk1 (shut_bool Tryz.underlying4 _),(trodAll_cons_mk (Below.trod laidOut (by kernel_rfl) (of_decide_eq_true (by kernel_rfl)) k0 bel lt0) (trodAll_cons_mk (Below.trod laidOut (by kernel_rfl) (of_decide_eq_true (by kernel_rfl)) k1 bel lt1) (trodAll_cons_mk (Below.trod laidOut (by kernel_rfl) (of_decide_eq_true (by kernel_rfl)) k2 bel lt2) trodAll_mk0))),rfl,bel.frame _,fun h=>by cases h⟩
theorem laid_met (os:Os):laidMet Tryz.prog Rows.headerCriticalRow.laid ((laidWorld os).forCall (fun _ _=>0) ⟨#[],#[.agg #[.int .i64 0,.int .u64 0,.slice none 0 0,.slice none 0 0,.int .i64 0,.int .u64 0,.slice none 0 0,.slice none 0 0],.slice none 0 0,.slice none 0 0],[]⟩).memory:=
 laidMet_of_run' 8 (by kernel_rfl) (by kernel_rfl)
theorem reads (os:Os) {H:Type} (enc:TypeId × Value→H):∃ places,DataW.whole enc Tryz.prog ((laidWorld os).forCall (fun _ _=>0) ⟨#[],#[.agg #[.int .i64 0,.int .u64 0,.slice none 0 0,.slice none 0 0,.int .i64 0,.int .u64 0,.slice none 0 0,.slice none 0 0],.slice none 0 0,.slice none 0 0],[]⟩).memory Tryz.f6.params.toList Rows.headerCriticalSpec.vars false #[Value.agg #[.int .i64 0,.int .u64 0,.slice none 0 0,.slice none 0 0,.int .i64 0,.int .u64 0,.slice none 0 0,.slice none 0 0],.slice none 0 0,.slice none 0 0].toList 8=some ([.agg [.agg [.lit (.int .i64 0),.lit (.int .u64 0),.nil,.nil],.agg [.lit (.int .i64 0),.lit (.int .u64 0),.nil,.nil]],.nil,.nil],[],places):=
 ⟨[],by kernel_rfl⟩
set_option maxRecDepth 100000 in
theorem lifted (os:Os) (started:os.Started) (H:Type) (enc:TypeId × Value→H) (F:Stop.Interp):
 ReturnsInHanded {} Tryz.checked os 6 .any ((OpenSpec.ofChange Rows.headerCriticalSpec).preRow enc Tryz.prog Tryz.f6 Rows.headerCriticalRow.domain false Rows.headerCriticalRow.laid) (((OpenSpec.ofChange Rows.headerCriticalSpec).at F).post enc Tryz.prog Tryz.f6 false true false false):=by
 obtain ⟨places,hx⟩:=reads os enc;refine returnsInHanded_of_row (C:=Tryz.checked) (s:=OpenSpec.ofChange Rows.headerCriticalSpec) own started (by kernel_rfl) Tryz.func6
  (witness_row_at (enc:=enc) (C:=Tryz.checked) false (laidWorld os) #[.agg #[.int .i64 0,.int .u64 0,.slice none 0 0,.slice none 0 0,.int .i64 0,.int .u64 0,.slice none 0 0,.slice none 0 0],.slice none 0 0,.slice none 0 0] rfl (by kernel_rfl) (by kernel_rfl) (by kernel_rfl)
   (OpenSpec.preRow_of_cond 8 hx (by kernel_rfl) (fun k hk=>by cases hk) (by kernel_rfl) (laid_met os))) ?_
 intro W base args ds gs before hval hW _ _ _ hL _ _;exact contract H enc W base args ds gs before hval hW hL
theorem named_:Tryz.pinned.checked.prog.funcNamed Rows.headerCriticalRow.func=some 6:=by kernel_rfl
theorem closed_:joinedFacts Tryz.pinned.checked.prog 6 Tryz.f6 (OpenSpec.ofChange Rows.headerCriticalSpec).bare Rows.headerCriticalRow=true:=by kernel_rfl
theorem inst_:Tryz.f6.isInstance Tryz.pinned.checked.prog Rows.headerCriticalRow.origin Rows.headerCriticalRow.targs:=of_decide_eq_true (by kernel_rfl)
theorem said:Rows.HeaderCriticalSaid:=
 OpenClaim.holds_of_cond 6 Tryz.f6 rfl rfl rfl rfl rfl rfl rfl ⟨rfl,rfl,rfl,rfl,rfl⟩ rfl rfl rfl rfl rfl named_ Tryz.func6 closed_ inst_
  (by unfold Func.isWrapper;first | (rw [if_pos (by decide +kernel)];kernel_rfl) | (rw [if_neg (by decide +kernel)];exact ⟨rfl,rfl⟩))
  (fun os started H enc _ F=>by rw [OpenClaim.pre_eq_preRow];exact lifted os started H enc F)
theorem plain (f:FuncId) (fn:Func) (hf:Tryz.pinned.checked.prog.funcNamed "coresec/coreseclaw12.HeaderCritical" =some f) (hfn:Tryz.pinned.checked.prog.funcs[f]?=some fn):
 false=Tryz.pinned.checked.prog.looks []∧∀ (j:Nat) t,fn.params[j]?=some t→Tryz.pinned.checked.prog.wantsStandIn t=false:=by
 obtain rfl:f=6:=Option.some.inj ((show Tryz.prog.funcNamed "coresec/coreseclaw12.HeaderCritical" =some 6 by kernel_rfl).symm.trans hf) |>.symm;obtain rfl:fn=Tryz.f6:=(Option.some.inj (Tryz.func6.symm.trans hfn)).symm;refine ⟨by kernel_rfl,fun j t ht=>?_⟩;rw [Tryz.params6] at ht;have hm:=Array.mem_of_getElem? ht;have hm':t=28∨t=29:=by simpa using hm
 rcases hm' with rfl | rfl
 ·exact (show Tryz.prog.wantsStandIn 28=false by kernel_rfl)
 ·exact (show Tryz.prog.wantsStandIn 29=false by kernel_rfl)
theorem header_critical:Rows.HeaderCriticalCardSaid:=
 Claim7.holds_tied_plain_at .later [] _ _ _ _ said (fun _ h=>by cases h) (by kernel_rfl) (fun _ h=>by cases h) headerCritical_row_tie rfl ⟨rfl,rfl⟩ (by kernel_rfl) rfl plain (by kernel_rfl)
#print axioms header_critical
