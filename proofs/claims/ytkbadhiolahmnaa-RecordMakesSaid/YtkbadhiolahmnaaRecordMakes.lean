/- RecordMakes returns true: which record is made of a status is what the reference says, for any map and numbers, and for made ones. Conditions: none. -/
import Derived.Test.YtkbadhiolahmnaaRecordMakesC
import Derived.Test.YtkbadhiolahmnaaRows
import Derived.ProofKit
import Derived.OpenShut
import Derived.ShutString
import Derived.ChangeOld
namespace Go.Proofs.Ytkbadhiolahmnaa
open Go.ChangeShapes Go.WideShapes Go.ChangeAt Go.RowKit Go.Sx
set_option linter.unusedVariables false
theorem own : ownKnob Try.prog.godebug = none := by kernel_rfl
theorem laidOut : laidOutB Try.prog = true := by kernel_rfl
set_option maxRecDepth 100000 in
set_option maxHeartbeats 1600000 in
theorem lifted (os : Os) (started : os.Started) (H : Type) (enc : TypeId × Value → H) :
    ReturnsInHanded {} Try.checked os 3 .any (Rows.recordMakesSpec.pre6 enc Try.prog Try.f3 Rows.recordMakesRow.domain false) (Rows.recordMakesSpec.post enc Try.prog Try.f3 false true false false) := by
  refine returnsInHanded_of_change (C := Try.checked) own started (by kernel_rfl) Try.func3
    (ChangeSpec.witness6 (enc := enc) (C := Try.checked) false ⟨#[], #[.agg #[.int .i64 0, .int .i64 0, .int .i64 0, .int .i64 0, .int .i64 0, .int .i64 0, .slice none 0 0, .int .i64 0, .int .i64 0], .agg #[.int .i64 0, .int .i64 0, .int .i64 0], .slice none 0 0], []⟩ 8 (by kernel_rfl) (by kernel_rfl) (by kernel_rfl) (by kernel_rfl)) ?_
  intro W base args ds gs before hval0 hW hcnd _
  have hval : ∀ (j : Nat) t v, Try.f3.params[j]? = some t → args[j]? = some v → Value.okWide Try.prog W .any base t v := hval0
  have hW' := hW
  obtain ⟨p, q, hA0, hV, rfl, hfz, hnd⟩ := hW
  have hA : DataW.TrodAll enc Try.prog W 0 (fun _ => true) true Try.f3.params.toList args.toList ds p := hA0
  rw [Try.params3] at hA hval
  obtain ⟨v0, vs'0, d0, ds0, p0, q'0, hargs, rfl, rfl, h0, r0⟩ := trodAll_cons hA
  obtain ⟨v1, vs'1, d1, ds1, p1, q'1, rfl, rfl, rfl, h1, r1⟩ := trodAll_cons r0
  obtain ⟨v2, vs'2, d2, ds2, p2, q'2, rfl, rfl, rfl, h2, r2⟩ := trodAll_cons r1
  obtain ⟨rfl, rfl, rfl⟩ := trodAll_nil r2
  obtain rfl : args = #[v0, v1, v2] := by cases args; simp_all
  obtain ⟨rfl, rfl⟩ := trodVars_none hV
  have k0 := h0
  have lt0 : ∀ x ∈ p0, x.block < W.heap.size := by obtain ⟨m, hm⟩ := k0; exact DataW.trod_lt m _ _ _ hm
  have k1 := h1
  have lt1 : ∀ x ∈ p1, x.block < W.heap.size := by obtain ⟨m, hm⟩ := k1; exact DataW.trod_lt m _ _ _ hm
  have k2 := h2
  have lt2 : ∀ x ∈ p2, x.block < W.heap.size := by obtain ⟨m, hm⟩ := k2; exact DataW.trod_lt m _ _ _ hm
  obtain ⟨vs0, rfl, S0⟩ := open_agg (l := [.c (.i .i64), .c (.i .i64), .c (.i .i64), .c (.i .i64), .c (.i .i64), .c (.i .i64), .s [.i .u64], .c (.i .i64), .c (.i .i64)]) (by kernel_rfl) (by kernel_rfl) (hval 0 26 v0 rfl rfl) h0
  obtain ⟨_, _, rfl, ⟨x0_0, rfl, lo0_0, hi0_0⟩, _, _, rfl, ⟨x0_1, rfl, lo0_1, hi0_1⟩, _, _, rfl, ⟨x0_2, rfl, lo0_2, hi0_2⟩, _, _, rfl, ⟨x0_3, rfl, lo0_3, hi0_3⟩, _, _, rfl, ⟨x0_4, rfl, lo0_4, hi0_4⟩, _, _, rfl, ⟨x0_5, rfl, lo0_5, hi0_5⟩, _, _, rfl, ⟨a0_6, len0_6, cap0_6, rs0_6, rfl, R0_6⟩, _, _, rfl, ⟨x0_7, rfl, lo0_7, hi0_7⟩, _, _, rfl, ⟨x0_8, rfl, lo0_8, hi0_8⟩, rfl⟩ := S0
  obtain ⟨z0_6, w0_6⟩ := R0_6.ints
  obtain ⟨m0_6, hm0_6⟩ := ints_name w0_6
  obtain ⟨vs1, rfl, S1⟩ := open_agg (l := [.c (.i .i64), .c (.i .i64), .c (.i .i64)]) (by kernel_rfl) (by kernel_rfl) (hval 1 27 v1 rfl rfl) h1
  obtain ⟨_, _, rfl, ⟨x1_0, rfl, lo1_0, hi1_0⟩, _, _, rfl, ⟨x1_1, rfl, lo1_1, hi1_1⟩, _, _, rfl, ⟨x1_2, rfl, lo1_2, hi1_2⟩, rfl⟩ := S1
  obtain ⟨a2, len2, cap2, rs2, rfl, R2⟩ := open_rows (ks := [.i .i64]) (by kernel_rfl) Try.underlying28 (hval 2 28 v2 rfl rfl) h2
  obtain ⟨z2, w2⟩ := R2.ints
  obtain ⟨m2, hm2⟩ := ints_name w2
  clear hA0 hval0
  refine (law_calls (Sx.T1.Makes18.law ⟨x0_0, x0_1, x0_2, x0_3, x0_4, x0_5⟩ (z0_6.take len0_6) x0_7 x0_8 x1_0 x1_1 x1_2 (z2.take len2) (Sx.T1.row_nat w0_6 len0_6)) [m0_6, m2] W [.agg #[.int .i64 x0_0, .int .i64 x0_1, .int .i64 x0_2, .int .i64 x0_3, .int .i64 x0_4, .int .i64 x0_5, .slice a0_6 len0_6 cap0_6, .int .i64 x0_7, .int .i64 x0_8], .agg #[.int .i64 x1_0, .int .i64 x1_1, .int .i64 x1_2], .slice a2 len2 cap2] ⟨⟨rfl, (hm0_6 _).1⟩, ⟨rfl, (hm2 _).1⟩, trivial⟩ ⟨⟨_, rfl, rfl, rfl, rfl, rfl, rfl, rfl, (hm0_6 _).2 0 rfl, rfl, rfl, trivial⟩, ⟨_, rfl, rfl, rfl, rfl, trivial⟩, (hm2 _).2 1 rfl, trivial⟩).mono fun e W' ⟨he, bel⟩ => ?_
  subst he
  exact ⟨_, rfl, _, _, _, [], _, [], hW', trodAll_mk1 (shut_bool Try.underlying4 _), (trodAll_cons_mk (Below.trod laidOut (by kernel_rfl) (of_decide_eq_true (by kernel_rfl)) k0 bel lt0) (trodAll_cons_mk (Below.trod laidOut (by kernel_rfl) (of_decide_eq_true (by kernel_rfl)) k1 bel lt1) (trodAll_cons_mk (Below.trod laidOut (by kernel_rfl) (of_decide_eq_true (by kernel_rfl)) k2 bel lt2) trodAll_mk0))), rfl, bel.frame _, fun h => by cases h⟩

theorem over : Rows.recordMakesRow.holds Try.pinned (OpenSpec.ofChange Rows.recordMakesSpec) :=
  OpenClaim.holds_of_wide 3 Try.f3 rfl rfl rfl rfl rfl rfl rfl ⟨rfl, rfl, rfl, rfl, rfl⟩ rfl rfl rfl rfl rfl (by kernel_rfl) Try.func3 (by kernel_rfl)
    (of_decide_eq_true (by kernel_rfl)) (by unfold Func.isWrapper; first | (rw [if_pos (by decide +kernel)]; kernel_rfl) | (rw [if_neg (by decide +kernel)]; exact ⟨rfl, rfl⟩))
    (fun os started H enc _ => lifted os started H enc)

theorem proved : Rows.RecordMakesSaid := over
end Go.Proofs.Ytkbadhiolahmnaa
