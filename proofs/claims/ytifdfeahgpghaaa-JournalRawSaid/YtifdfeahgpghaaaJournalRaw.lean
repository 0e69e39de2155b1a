/- JournalRaw returns true: all functions of journal return what the reference returns, for any journal, record and number. Conditions: none. -/
import Derived.Test.YtifdfeahgpghaaaJournalRawC
import Derived.Test.YtifdfeahgpghaaaRows
import Derived.ProofKit
import Derived.OpenShut
import Derived.ShutString
import Derived.ChangeOld
namespace Go.Proofs.Ytifdfeahgpghaaa
open Go.ChangeShapes Go.WideShapes Go.ChangeAt Go.RowKit Go.Sx
set_option linter.unusedVariables false
theorem own : ownKnob Try.prog.godebug = none := by kernel_rfl
theorem laidOut : laidOutB Try.prog = true := by kernel_rfl
set_option maxRecDepth 100000 in
set_option maxHeartbeats 1600000 in
theorem lifted (os : Os) (started : os.Started) (H : Type) (enc : TypeId × Value → H) :
    ReturnsInHanded {} Try.checked os 5 .any (Rows.journalRawSpec.pre6 enc Try.prog Try.f5 Rows.journalRawRow.domain false) (Rows.journalRawSpec.post enc Try.prog Try.f5 false true false false) := by
  refine returnsInHanded_of_change (C := Try.checked) own started (by kernel_rfl) Try.func5
    (ChangeSpec.witness6 (enc := enc) (C := Try.checked) false ⟨#[], #[.agg #[.slice none 0 0, .int .i64 0, .int .i64 0, .int .i64 0], .agg #[.int .i64 0, .int .i64 0, .int .i64 0, .bool false, .bool false, .int .i64 0, .int .i64 0, .int .i64 0, .int .i64 0, .int .u64 0, .int .i64 0, .int .i64 0, .int .i64 0, .int .i64 0, .int .i64 0, .int .i64 0], .int .i64 0], []⟩ 8 (by kernel_rfl) (by kernel_rfl) (by kernel_rfl) (by kernel_rfl)) ?_
  intro W base args ds gs before hval0 hW hcnd _
  have hval : ∀ (j : Nat) t v, Try.f5.params[j]? = some t → args[j]? = some v → Value.okWide Try.prog W .any base t v := hval0
  have hW' := hW
  obtain ⟨p, q, hA0, hV, rfl, hfz, hnd⟩ := hW
  have hA : DataW.TrodAll enc Try.prog W 0 (fun _ => true) true Try.f5.params.toList args.toList ds p := hA0
  rw [Try.params5] at hA hval
  obtain ⟨v0, vs'0, d0, ds0, p0, q'0, hargs, rfl, rfl, h0, r0⟩ := trodAll_cons hA
  obtain ⟨v1, vs'1, d1, ds1, p1, q'1, rfl, rfl, rfl, h1, r1⟩ := trodAll_cons r0
  obtain ⟨v2, vs'2, d2, ds2, p2, q'2, rfl, rfl, rfl, h2, r2⟩ := trodAll_cons r1
  obtain ⟨rfl, rfl, rfl⟩ := trodAll_nil r2
  obtain rfl : args = #[v0, v1, v2] := by cases args; simp_all
  obtain ⟨rfl, rfl⟩ := trodVars_none hV
  have k0 := h0
  have lt0 : ∀ x ∈ p0, x.block < W.heap.size := by obtain ⟨m, hm⟩ := k0; exact DataW.trod_lt m _ _ _ hm
  have k1 := h1
  have lt1 : ∀ x ∈ p1, x.block < W.heap.size := by obtain ⟨m, hm⟩ := k1; exact DataW.trod_lt m _ _ _ hm
  have k2 := h2
  have lt2 : ∀ x ∈ p2, x.block < W.heap.size := by obtain ⟨m, hm⟩ := k2; exact DataW.trod_lt m _ _ _ hm
  obtain ⟨vs0, rfl, S0⟩ := open_agg (l := [.s [.i .u8], .c (.i .i64), .c (.i .i64), .c (.i .i64)]) (by kernel_rfl) (by kernel_rfl) (hval 0 31 v0 rfl rfl) h0
  obtain ⟨_, _, rfl, ⟨a0_0, len0_0, cap0_0, rs0_0, rfl, R0_0⟩, _, _, rfl, ⟨x0_1, rfl, lo0_1, hi0_1⟩, _, _, rfl, ⟨x0_2, rfl, lo0_2, hi0_2⟩, _, _, rfl, ⟨x0_3, rfl, lo0_3, hi0_3⟩, rfl⟩ := S0
  obtain ⟨z0_0, w0_0⟩ := R0_0.ints
  obtain ⟨m0_0, hm0_0⟩ := ints_name w0_0
  obtain ⟨vs1, rfl, S1⟩ := open_agg (l := [.c (.i .i64), .c (.i .i64), .c (.i .i64), .c .b, .c .b, .c (.i .i64), .c (.i .i64), .c (.i .i64), .c (.i .i64), .c (.i .u64), .c (.i .i64), .c (.i .i64), .c (.i .i64), .c (.i .i64), .c (.i .i64), .c (.i .i64)]) (by kernel_rfl) (by kernel_rfl) (hval 1 43 v1 rfl rfl) h1
  obtain ⟨_, _, rfl, ⟨x1_0, rfl, lo1_0, hi1_0⟩, _, _, rfl, ⟨x1_1, rfl, lo1_1, hi1_1⟩, _, _, rfl, ⟨x1_2, rfl, lo1_2, hi1_2⟩, _, _, rfl, ⟨x1_3, rfl⟩, _, _, rfl, ⟨x1_4, rfl⟩, _, _, rfl, ⟨x1_5, rfl, lo1_5, hi1_5⟩, _, _, rfl, ⟨x1_6, rfl, lo1_6, hi1_6⟩, _, _, rfl, ⟨x1_7, rfl, lo1_7, hi1_7⟩, _, _, rfl, ⟨x1_8, rfl, lo1_8, hi1_8⟩, _, _, rfl, ⟨x1_9, rfl, lo1_9, hi1_9⟩, _, _, rfl, ⟨x1_10, rfl, lo1_10, hi1_10⟩, _, _, rfl, ⟨x1_11, rfl, lo1_11, hi1_11⟩, _, _, rfl, ⟨x1_12, rfl, lo1_12, hi1_12⟩, _, _, rfl, ⟨x1_13, rfl, lo1_13, hi1_13⟩, _, _, rfl, ⟨x1_14, rfl, lo1_14, hi1_14⟩, _, _, rfl, ⟨x1_15, rfl, lo1_15, hi1_15⟩, rfl⟩ := S1
  obtain ⟨x2, rfl, _, _, w2⟩ := open_int Try.underlying3 (hval 2 3 v2 rfl rfl) h2
  have hx2 : -9223372036854775808 ≤ x2 ∧ x2 ≤ 9223372036854775807 := by simpa [Lit.wf, IntKind.min, IntKind.max, IntKind.signed, IntKind.bits] using w2
  clear hA0 hval0
  refine (law_calls (Sx.T1.law ⟨x1_0, x1_1, x1_2, ⟨x1_3, x1_4, x1_5, x1_6, x1_7, x1_8, x1_9⟩, ⟨x1_10, x1_11, x1_12, x1_13, x1_14, x1_15⟩⟩ (z0_0.take len0_0) x0_1 x0_2 x0_3 x2 (Sx.T1.row_n8 w0_0 len0_0)) [m0_0] W [.agg #[.slice a0_0 len0_0 cap0_0, .int .i64 x0_1, .int .i64 x0_2, .int .i64 x0_3], .agg #[.int .i64 x1_0, .int .i64 x1_1, .int .i64 x1_2, .bool x1_3, .bool x1_4, .int .i64 x1_5, .int .i64 x1_6, .int .i64 x1_7, .int .i64 x1_8, .int .u64 x1_9, .int .i64 x1_10, .int .i64 x1_11, .int .i64 x1_12, .int .i64 x1_13, .int .i64 x1_14, .int .i64 x1_15], .int .i64 x2] ⟨⟨rfl, (hm0_0 _).1⟩, trivial⟩ ⟨⟨_, rfl, (hm0_0 _).2 0 rfl, rfl, rfl, rfl, trivial⟩, ⟨_, rfl, rfl, rfl, rfl, rfl, rfl, rfl, rfl, rfl, rfl, rfl, rfl, rfl, rfl, rfl, rfl, rfl, trivial⟩, rfl, trivial⟩).mono fun e W' ⟨he, bel⟩ => ?_
  subst he
  exact ⟨_, rfl, _, _, _, [], _, [], hW', trodAll_mk1 (shut_bool Try.underlying4 _), (trodAll_cons_mk (Below.trod laidOut (by kernel_rfl) (of_decide_eq_true (by kernel_rfl)) k0 bel lt0) (trodAll_cons_mk (Below.trod laidOut (by kernel_rfl) (of_decide_eq_true (by kernel_rfl)) k1 bel lt1) (trodAll_cons_mk (Below.trod laidOut (by kernel_rfl) (of_decide_eq_true (by kernel_rfl)) k2 bel lt2) trodAll_mk0))), rfl, bel.frame _, fun h => by cases h⟩

theorem over : Rows.journalRawRow.holds Try.pinned (OpenSpec.ofChange Rows.journalRawSpec) :=
  OpenClaim.holds_of_wide 5 Try.f5 rfl rfl rfl rfl rfl rfl rfl ⟨rfl, rfl, rfl, rfl, rfl⟩ rfl rfl rfl rfl rfl (by kernel_rfl) Try.func5 (by kernel_rfl)
    (of_decide_eq_true (by kernel_rfl)) (by unfold Func.isWrapper; first | (rw [if_pos (by decide +kernel)]; kernel_rfl) | (rw [if_neg (by decide +kernel)]; exact ⟨rfl, rfl⟩))
    (fun os started H enc _ => lifted os started H enc)

theorem proved : Rows.JournalRawSaid := over
end Go.Proofs.Ytifdfeahgpghaaa
