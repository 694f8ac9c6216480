/- The law StoreGrows: for every input the call returns true, and each argument reads behind it as it read before; what the listed package-level variables hold is tied to the program's text. -/
import Derived.Test.YtlelcmkbcejjkaaDoorCards
import Derived.Test.YtlelcmkbcejjkaaDoorTie
import Derived.Test.YtlelcmkbcejjkaaDoorStoG
import Derived.Test.YtlelcmkbcejjkaaDoorLabK
import Derived.Test.YtlelcmkbcejjkaaDoorOpen
import Derived.WalkKit
import Derived.ProofKit
import Derived.OpenShut
import Derived.ShutString
import Derived.ChangeOld
import Derived.Below
import Derived.Deep.DeepHandedRow
import Derived.Lib.LaidTab
namespace Go.Proofs.YtlelcmkbcejjkaaDoor.storeGrows
open Go.Proofs.YtlelcmkbcejjkaaDoor.L Go.Proofs.YtlelcmkbcejjkaaDoor.Open Go.Proofs.YtlelcmkbcejjkaaDoorW.PrintWords
open Go.ChangeShapes Go.WideShapes Go.ChangeAt Go.RowKit
open Go.ChangeMaps (open_string shut_string)
set_option linter.unusedVariables false
theorem own : ownKnob Tryd.prog.godebug = none := by kernel_rfl
theorem laidOut : laidOutB Tryd.prog = true := by kernel_rfl
theorem opens_9 : Opens Tryd.prog Kd.string 9 (fun x => x.size ≤ maxLen) := opens_string Tryd.underlying9 (by kernel_rfl)
theorem opens_67 : Opens Tryd.prog k67 67 (fun x => (x.f0.size ≤ maxLen) ∧ (x.f1.size ≤ maxLen)) := opens_struct2 Tryd.underlying67 (by kernel_rfl) rfl rfl opens_9 opens_9 (fun x : S67 => (x.f0, x.f1)) (fun a b => ⟨a, b⟩) (fun _ _ => rfl)
theorem opens_37 : Opens Tryd.prog (Kd.slice 67 k67) 37 (fun x => x.length ≤ 9223372036854775807 ∧ ∀ x37 ∈ x, (x37.f0.size ≤ maxLen) ∧ (x37.f1.size ≤ maxLen)) := opens_slice Tryd.underlying37 (by kernel_rfl) opens_67
theorem opens_2 : Opens Tryd.prog (Kd.int .i64) 2 (fun x => (Lit.int .i64 x).wf = true) := opens_int Tryd.underlying2 (by kernel_rfl)
theorem opens_38 : Opens Tryd.prog (Kd.int .u64) 38 (fun x => (Lit.int .u64 x).wf = true) := opens_int Tryd.underlying38 (by kernel_rfl)
theorem opens_40 : Opens Tryd.prog k40 40 (fun x => ((Lit.int .i64 x.f0).wf = true) ∧ ((Lit.int .u64 x.f1).wf = true)) := opens_struct2 Tryd.underlying40 (by kernel_rfl) rfl rfl opens_2 opens_38 (fun x : S40 => (x.f0, x.f1)) (fun a b => ⟨a, b⟩) (fun _ _ => rfl)
theorem opens_57 : Opens Tryd.prog (Kd.slice 40 k40) 57 (fun x => x.length ≤ 9223372036854775807 ∧ ∀ x57 ∈ x, ((Lit.int .i64 x57.f0).wf = true) ∧ ((Lit.int .u64 x57.f1).wf = true)) := opens_slice Tryd.underlying57 (by kernel_rfl) opens_40
theorem opens_59 : Opens Tryd.prog k59 59 (fun x => (x.f0.length ≤ 9223372036854775807 ∧ ∀ x37 ∈ x.f0, (x37.f0.size ≤ maxLen) ∧ (x37.f1.size ≤ maxLen)) ∧ (x.f1.length ≤ 9223372036854775807 ∧ ∀ x57 ∈ x.f1, ((Lit.int .i64 x57.f0).wf = true) ∧ ((Lit.int .u64 x57.f1).wf = true))) := opens_struct2 Tryd.underlying59 (by kernel_rfl) rfl rfl opens_37 opens_57 (fun x : S59 => (x.f0, x.f1)) (fun a b => ⟨a, b⟩) (fun _ _ => rfl)
theorem opens_36 : Opens Tryd.prog (Kd.slice 59 k59) 36 (fun x => x.length ≤ 9223372036854775807 ∧ ∀ x36 ∈ x, (x36.f0.length ≤ 9223372036854775807 ∧ ∀ x37 ∈ x36.f0, (x37.f0.size ≤ maxLen) ∧ (x37.f1.size ≤ maxLen)) ∧ (x36.f1.length ≤ 9223372036854775807 ∧ ∀ x57 ∈ x36.f1, ((Lit.int .i64 x57.f0).wf = true) ∧ ((Lit.int .u64 x57.f1).wf = true))) := opens_slice Tryd.underlying36 (by kernel_rfl) opens_59
set_option maxRecDepth 100000 in
theorem contract (H : Type) (enc : TypeId × Value → H) (W : World) (base : Nat) (args : Array Value) (ds gs : List (DataW H)) (before : List MemPlace)
    (hval : ∀ (j : Nat) t v, Tryd.f6.params[j]? = some t → args[j]? = some v → Value.okWide Tryd.prog W .any base t v)
    (hW : DataW.Whole enc Tryd.prog Tryd.f6.params.toList Rows.storeGrowsSpec.vars false W args.toList ds gs before) (hL : laidMetH Tryd.prog Rows.storeGrowsRow.laid W) :
    Calls Tryd.prog 6 args W fun e W' => ∃ v, e = .returned v ∧ Rows.storeGrowsSpec.post enc Tryd.prog Tryd.f6 false true false false W args v W' := by
  have hW' := hW
  obtain ⟨p, q, hA0, hV, rfl, hfz, hnd⟩ := hW
  have hA : DataW.TrodAll enc Tryd.prog W 0 (fun _ => true) true Tryd.f6.params.toList args.toList ds p := hA0
  rw [Tryd.params6] at hA hval
  obtain ⟨v0, vs0, d0, ds0, p0, q0, hargs, rfl, rfl, h0, r0⟩ := trodAll_cons hA
  obtain ⟨v1, vs1, d1, ds1, p1, q1, rfl, rfl, rfl, h1, r1⟩ := trodAll_cons r0
  obtain ⟨v2, vs2, d2, ds2, p2, q2, rfl, rfl, rfl, h2, r2⟩ := trodAll_cons r1
  obtain ⟨v3, vs3, d3, ds3, p3, q3, rfl, rfl, rfl, h3, r3⟩ := trodAll_cons r2
  obtain ⟨rfl, rfl, rfl⟩ := trodAll_nil r3
  obtain rfl : args = #[v0, v1, v2, v3] := by cases args; simp_all
  obtain ⟨rfl, rfl⟩ := trodVars_none hV
  obtain ⟨a0, len0, cap0, rfl⟩ := okWide_slice Tryd.underlying36 (hval 0 36 v0 rfl rfl)
  have k0 := h0
  have lt0 : ∀ x ∈ p0, x.block < W.heap.size := by obtain ⟨m, hm⟩ := k0; exact DataW.trod_lt m _ _ _ hm
  obtain ⟨l0, rfl, hc0, hC0, ok0⟩ := param_slice opens_36 h0
  obtain ⟨a1, len1, cap1, rfl⟩ := okWide_slice Tryd.underlying37 (hval 1 37 v1 rfl rfl)
  have k1 := h1
  have lt1 : ∀ x ∈ p1, x.block < W.heap.size := by obtain ⟨m, hm⟩ := k1; exact DataW.trod_lt m _ _ _ hm
  obtain ⟨l1, rfl, hc1, hC1, ok1⟩ := param_slice opens_37 h1
  obtain ⟨cs2, rfl, hz2⟩ := okWide_struct Tryd.underlying40 (hval 2 40 v2 rfl rfl)
  have k2 := h2
  have lt2 : ∀ x ∈ p2, x.block < W.heap.size := by obtain ⟨m, hm⟩ := k2; exact DataW.trod_lt m _ _ _ hm
  obtain ⟨x2, hK2, ok2⟩ := param_agg opens_40 h2
  have e2 := k40_open hK2
  obtain rfl : cs2 = #[.int .i64 x2.f0, .int .u64 x2.f1] := Array.ext' e2
  obtain ⟨a3, rfl, rfl, rfl, w3⟩ := open_int Tryd.underlying38 (hval 3 38 v3 rfl rfl) h3
  clear hA0 hval
  have hp := storeGrows_pure l0 l1 x2 a3 hC0.2.1 (fun x hx => ⟨(ok0.2 x hx).1.1, (ok0.2 x hx).2.1⟩) hC1.2.1
  refine (storeGrows.calls _ _ l0 _ _ l1 x2 a3 true W hC0 hc0 hC1 hc1 (Laid.gl hL) hp).mono fun e W' ⟨he, bel⟩ => ?_
  subst he
  exact ⟨_, rfl, _, _, _, [], _, [], hW', trodAll_mk1 (shut_bool Tryd.underlying4 _), (trodAll_cons_mk (Below.trod laidOut (by kernel_rfl) (of_decide_eq_true (by kernel_rfl)) k0 bel lt0) (trodAll_cons_mk (Below.trod laidOut (by kernel_rfl) (of_decide_eq_true (by kernel_rfl)) k1 bel lt1) (trodAll_cons_mk (Below.trod laidOut (by kernel_rfl) (of_decide_eq_true (by kernel_rfl)) k2 bel lt2) (trodAll_cons_mk (shut_int Tryd.underlying38 w3) trodAll_mk0)))), rfl, bel.frame _, fun h => by cases h⟩
theorem reads (os : Os) {H : Type} (enc : TypeId × Value → H) : ∃ places, DataW.whole enc Tryd.prog ((Laid.laidWorld os).forCall (fun _ _ => 0) ⟨#[], #[.slice none 0 0, .slice none 0 0, .agg #[.int .i64 0, .int .u64 0], .int .u64 0], []⟩).memory Tryd.f6.params.toList Rows.storeGrowsSpec.vars false #[.slice none 0 0, .slice none 0 0, .agg #[.int .i64 0, .int .u64 0], .int .u64 0].toList 8 = some ([.nil, .nil, .agg [.lit (.int .i64 0), .lit (.int .u64 0)], .lit (.int .u64 0)], [], places) :=
  ⟨[], by kernel_rfl⟩
set_option maxRecDepth 100000 in
theorem lifted (os : Os) (started : os.Started) (H : Type) (enc : TypeId × Value → H) (F : Stop.Interp) :
    ReturnsInHanded {} Tryd.checked os 6 .any ((OpenSpec.ofChange Rows.storeGrowsSpec).preRow enc Tryd.prog Tryd.f6 Rows.storeGrowsRow.domain false Rows.storeGrowsRow.laid) (((OpenSpec.ofChange Rows.storeGrowsSpec).at F).post enc Tryd.prog Tryd.f6 false true false false) := by
  obtain ⟨places, hx⟩ := reads os enc
  refine returnsInHanded_of_row (C := Tryd.checked) (s := OpenSpec.ofChange Rows.storeGrowsSpec) own started (by kernel_rfl) Tryd.func6
    (witness_row_at (enc := enc) (C := Tryd.checked) false (Laid.laidWorld os) #[.slice none 0 0, .slice none 0 0, .agg #[.int .i64 0, .int .u64 0], .int .u64 0] rfl (by kernel_rfl) (by kernel_rfl) (by kernel_rfl)
      (OpenSpec.preRow_of_cond 8 hx (by kernel_rfl) (fun k hk => by cases hk) (by kernel_rfl) (Laid.laid_met os _))) ?_
  intro W base args ds gs before hval hW _ _ _ hL _ _
  exact contract H enc W base args ds gs before hval hW hL
theorem said : Rows.StoreGrowsSaid :=
  OpenClaim.holds_of_cond 6 Tryd.f6 rfl rfl rfl rfl rfl rfl rfl ⟨rfl, rfl, rfl, rfl, rfl⟩ rfl rfl rfl rfl rfl (by kernel_rfl) Tryd.func6 (by kernel_rfl)
    (of_decide_eq_true (by kernel_rfl)) (by unfold Func.isWrapper; first | (rw [if_pos (by decide +kernel)]; kernel_rfl) | (rw [if_neg (by decide +kernel)]; exact ⟨rfl, rfl⟩))
    (fun os started H enc _ F => by rw [OpenClaim.pre_eq_preRow]; exact lifted os started H enc F)
theorem plain (f : FuncId) (fn : Func) (hf : Tryd.pinned.checked.prog.funcNamed "soundings/soundingslaw05.StoreGrows" = some f) (hfn : Tryd.pinned.checked.prog.funcs[f]? = some fn) :
    true = Tryd.pinned.checked.prog.looks [] ∧ ∀ (j : Nat) t, fn.params[j]? = some t → Tryd.pinned.checked.prog.wantsStandIn t = false := by
  obtain rfl : f = 6 := Option.some.inj ((show Tryd.prog.funcNamed "soundings/soundingslaw05.StoreGrows" = some 6 by kernel_rfl).symm.trans hf) |>.symm
  obtain rfl : fn = Tryd.f6 := (Option.some.inj (Tryd.func6.symm.trans hfn)).symm
  refine ⟨by kernel_rfl, fun j t ht => ?_⟩
  rw [Tryd.params6] at ht
  have : t = 36 ∨ t = 37 ∨ t = 40 ∨ t = 38 := by simpa using Array.mem_of_getElem? ht
  rcases this with rfl | rfl | rfl | rfl <;> exact (show Tryd.prog.wantsStandIn _ = false by kernel_rfl)
theorem proved : Rows.StoreGrowsCardSaid :=
  Claim7.holds_tied_plain_at .later [] _ _ _ _ said (fun _ h => by cases h) (by kernel_rfl) (fun _ h => by cases h) storeGrows_row_tie rfl ⟨rfl, rfl⟩ (by kernel_rfl) rfl plain (by kernel_rfl)
#print axioms proved
end Go.Proofs.YtlelcmkbcejjkaaDoor.storeGrows
