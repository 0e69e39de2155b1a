/- RecordRaw returns true: the functions of record return what the reference returns, for any record and bytes. Conditions: none. -/
import Derived.Test.YtkbadhiolahmnaaRecordRawB
import Derived.Test.YtkbadhiolahmnaaRows
import Derived.ProofKit
import Derived.OpenShut
import Derived.ShutString
import Derived.ChangeOld
namespace Go.Proofs.Ytkbadhiolahmnaa
open Go.ChangeShapes Go.WideShapes Go.ChangeAt Go.RowKit Go.Sx
set_option linter.unusedVariables false
theorem own : ownKnob Try.prog.godebug = none := by kernel_rfl
theorem laidOut : laidOutB Try.prog = true := by kernel_rfl
set_option maxRecDepth 100000 in
set_option maxHeartbeats 1600000 in
theorem lifted (os : Os) (started : os.Started) (H : Type) (enc : TypeId × Value → H) :
    ReturnsInHanded {} Try.checked os 4 .any (Rows.recordRawSpec.pre6 enc Try.prog Try.f4 Rows.recordRawRow.domain false) (Rows.recordRawSpec.post enc Try.prog Try.f4 false true false false) := by
  refine returnsInHanded_of_change (C := Try.checked) own started (by kernel_rfl) Try.func4
    (ChangeSpec.witness6 (enc := enc) (C := Try.checked) false ⟨#[], #[.agg #[.int .i64 0, .int .i64 0, .int .i64 0, .bool false, .bool false, .int .i64 0, .int .i64 0, .int .i64 0, .int .i64 0, .int .u64 0, .int .i64 0, .int .i64 0, .int .i64 0, .int .i64 0, .int .i64 0, .int .i64 0], .slice none 0 0], []⟩ 8 (by kernel_rfl) (by kernel_rfl) (by kernel_rfl) (by kernel_rfl)) ?_
  intro W base args ds gs before hval0 hW hcnd _
  have hval : ∀ (j : Nat) t v, Try.f4.params[j]? = some t → args[j]? = some v → Value.okWide Try.prog W .any base t v := hval0
  have hW' := hW
  obtain ⟨p, q, hA0, hV, rfl, hfz, hnd⟩ := hW
  have hA : DataW.TrodAll enc Try.prog W 0 (fun _ => true) true Try.f4.params.toList args.toList ds p := hA0
  rw [Try.params4] at hA hval
  obtain ⟨v0, vs'0, d0, ds0, p0, q'0, hargs, rfl, rfl, h0, r0⟩ := trodAll_cons hA
  obtain ⟨v1, vs'1, d1, ds1, p1, q'1, rfl, rfl, rfl, h1, r1⟩ := trodAll_cons r0
  obtain ⟨rfl, rfl, rfl⟩ := trodAll_nil r1
  obtain rfl : args = #[v0, v1] := by cases args; simp_all
  obtain ⟨rfl, rfl⟩ := trodVars_none hV
  have k0 := h0
  have lt0 : ∀ x ∈ p0, x.block < W.heap.size := by obtain ⟨m, hm⟩ := k0; exact DataW.trod_lt m _ _ _ hm
  have k1 := h1
  have lt1 : ∀ x ∈ p1, x.block < W.heap.size := by obtain ⟨m, hm⟩ := k1; exact DataW.trod_lt m _ _ _ hm
  obtain ⟨vs0, rfl, S0⟩ := open_agg (l := [.c (.i .i64), .c (.i .i64), .c (.i .i64), .c .b, .c .b, .c (.i .i64), .c (.i .i64), .c (.i .i64), .c (.i .i64), .c (.i .u64), .c (.i .i64), .c (.i .i64), .c (.i .i64), .c (.i .i64), .c (.i .i64), .c (.i .i64)]) (by kernel_rfl) (by kernel_rfl) (hval 0 46 v0 rfl rfl) h0
  obtain ⟨_, _, rfl, ⟨x0_0, rfl, lo0_0, hi0_0⟩, _, _, rfl, ⟨x0_1, rfl, lo0_1, hi0_1⟩, _, _, rfl, ⟨x0_2, rfl, lo0_2, hi0_2⟩, _, _, rfl, ⟨x0_3, rfl⟩, _, _, rfl, ⟨x0_4, rfl⟩, _, _, rfl, ⟨x0_5, rfl, lo0_5, hi0_5⟩, _, _, rfl, ⟨x0_6, rfl, lo0_6, hi0_6⟩, _, _, rfl, ⟨x0_7, rfl, lo0_7, hi0_7⟩, _, _, rfl, ⟨x0_8, rfl, lo0_8, hi0_8⟩, _, _, rfl, ⟨x0_9, rfl, lo0_9, hi0_9⟩, _, _, rfl, ⟨x0_10, rfl, lo0_10, hi0_10⟩, _, _, rfl, ⟨x0_11, rfl, lo0_11, hi0_11⟩, _, _, rfl, ⟨x0_12, rfl, lo0_12, hi0_12⟩, _, _, rfl, ⟨x0_13, rfl, lo0_13, hi0_13⟩, _, _, rfl, ⟨x0_14, rfl, lo0_14, hi0_14⟩, _, _, rfl, ⟨x0_15, rfl, lo0_15, hi0_15⟩, rfl⟩ := S0
  obtain ⟨a1, len1, cap1, rs1, rfl, R1⟩ := open_rows (ks := [.i .u8]) (by kernel_rfl) Try.underlying53 (hval 1 53 v1 rfl rfl) h1
  obtain ⟨z1, w1⟩ := R1.ints
  obtain ⟨m1, hm1⟩ := ints_name w1
  clear hA0 hval0
  refine (law_calls (Sx.T1.Raw18.law ⟨x0_0, x0_1, x0_2, ⟨x0_3, x0_4, x0_5, x0_6, x0_7, x0_8, x0_9⟩, ⟨x0_10, x0_11, x0_12, x0_13, x0_14, x0_15⟩⟩ (z1.take len1) (Sx.T1.row_n8 w1 len1)) [m1] W [.agg #[.int .i64 x0_0, .int .i64 x0_1, .int .i64 x0_2, .bool x0_3, .bool x0_4, .int .i64 x0_5, .int .i64 x0_6, .int .i64 x0_7, .int .i64 x0_8, .int .u64 x0_9, .int .i64 x0_10, .int .i64 x0_11, .int .i64 x0_12, .int .i64 x0_13, .int .i64 x0_14, .int .i64 x0_15], .slice a1 len1 cap1] ⟨⟨rfl, (hm1 _).1⟩, trivial⟩ ⟨⟨_, rfl, rfl, rfl, rfl, rfl, rfl, rfl, rfl, rfl, rfl, rfl, rfl, rfl, rfl, rfl, rfl, rfl, trivial⟩, (hm1 _).2 0 rfl, trivial⟩).mono fun e W' ⟨he, bel⟩ => ?_
  subst he
  exact ⟨_, rfl, _, _, _, [], _, [], hW', trodAll_mk1 (shut_bool Try.underlying4 _), (trodAll_cons_mk (Below.trod laidOut (by kernel_rfl) (of_decide_eq_true (by kernel_rfl)) k0 bel lt0) (trodAll_cons_mk (Below.trod laidOut (by kernel_rfl) (of_decide_eq_true (by kernel_rfl)) k1 bel lt1) trodAll_mk0)), rfl, bel.frame _, fun h => by cases h⟩

theorem over : Rows.recordRawRow.holds Try.pinned (OpenSpec.ofChange Rows.recordRawSpec) :=
  OpenClaim.holds_of_wide 4 Try.f4 rfl rfl rfl rfl rfl rfl rfl ⟨rfl, rfl, rfl, rfl, rfl⟩ rfl rfl rfl rfl rfl (by kernel_rfl) Try.func4 (by kernel_rfl)
    (of_decide_eq_true (by kernel_rfl)) (by unfold Func.isWrapper; first | (rw [if_pos (by decide +kernel)]; kernel_rfl) | (rw [if_neg (by decide +kernel)]; exact ⟨rfl, rfl⟩))
    (fun os started H enc _ => lifted os started H enc)

theorem proved : Rows.RecordRawSaid := over
end Go.Proofs.Ytkbadhiolahmnaa
