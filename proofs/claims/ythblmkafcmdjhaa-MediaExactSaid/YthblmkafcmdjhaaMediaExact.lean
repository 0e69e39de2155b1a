/- MediaExact returns true: all functions of the devices return what the reference returns, for any device, bytes and numbers, and for a device near its greatest size. Conditions: none. -/
import Derived.Test.YthblmkafcmdjhaaMediaExactA
import Derived.Test.YthblmkafcmdjhaaRows
import Derived.ProofKit
import Derived.OpenShut
import Derived.ShutString
import Derived.ChangeOld
namespace Go.Proofs.Ythblmkafcmdjhaa
open Go.ChangeShapes Go.WideShapes Go.ChangeAt Go.RowKit Go.Sx
set_option linter.unusedVariables false
theorem own : ownKnob Try.prog.godebug = none := by kernel_rfl
theorem laidOut : laidOutB Try.prog = true := by kernel_rfl
set_option maxRecDepth 100000 in
set_option maxHeartbeats 1600000 in
theorem lifted (os : Os) (started : os.Started) (H : Type) (enc : TypeId × Value → H) :
    ReturnsInHanded {} Try.checked os 4 .any (Rows.mediaExactSpec.pre6 enc Try.prog Try.f4 Rows.mediaExactRow.domain false) (Rows.mediaExactSpec.post enc Try.prog Try.f4 false true false false) := by
  refine returnsInHanded_of_change (C := Try.checked) own started (by kernel_rfl) Try.func4
    (ChangeSpec.witness6 (enc := enc) (C := Try.checked) false ⟨#[], #[.agg #[.slice none 0 0, .int .i64 0], .slice none 0 0, .agg #[.int .i64 0, .int .i64 0, .int .i64 0]], []⟩ 8 (by kernel_rfl) (by kernel_rfl) (by kernel_rfl) (by kernel_rfl)) ?_
  intro W base args ds gs before hval0 hW hcnd _
  have hval : ∀ (j : Nat) t v, Try.f4.params[j]? = some t → args[j]? = some v → Value.okWide Try.prog W .any base t v := hval0
  have hW' := hW
  obtain ⟨p, q, hA0, hV, rfl, hfz, hnd⟩ := hW
  have hA : DataW.TrodAll enc Try.prog W 0 (fun _ => true) true Try.f4.params.toList args.toList ds p := hA0
  rw [Try.params4] at hA hval
  obtain ⟨v0, vs'0, d0, ds0, p0, q'0, hargs, rfl, rfl, h0, r0⟩ := trodAll_cons hA
  obtain ⟨v1, vs'1, d1, ds1, p1, q'1, rfl, rfl, rfl, h1, r1⟩ := trodAll_cons r0
  obtain ⟨v2, vs'2, d2, ds2, p2, q'2, rfl, rfl, rfl, h2, r2⟩ := trodAll_cons r1
  obtain ⟨rfl, rfl, rfl⟩ := trodAll_nil r2
  obtain rfl : args = #[v0, v1, v2] := by cases args; simp_all
  obtain ⟨rfl, rfl⟩ := trodVars_none hV
  have k0 := h0
  have lt0 : ∀ x ∈ p0, x.block < W.heap.size := by obtain ⟨m, hm⟩ := k0; exact DataW.trod_lt m _ _ _ hm
  have k1 := h1
  have lt1 : ∀ x ∈ p1, x.block < W.heap.size := by obtain ⟨m, hm⟩ := k1; exact DataW.trod_lt m _ _ _ hm
  have k2 := h2
  have lt2 : ∀ x ∈ p2, x.block < W.heap.size := by obtain ⟨m, hm⟩ := k2; exact DataW.trod_lt m _ _ _ hm
  obtain ⟨vs0, rfl, S0⟩ := open_agg (l := [.s [.i .u8], .c (.i .i64)]) (by kernel_rfl) (by kernel_rfl) (hval 0 29 v0 rfl rfl) h0
  obtain ⟨_, _, rfl, ⟨a0_0, len0_0, cap0_0, rs0_0, rfl, R0_0⟩, _, _, rfl, ⟨x0_1, rfl, lo0_1, hi0_1⟩, rfl⟩ := S0
  obtain ⟨z0_0, w0_0⟩ := R0_0.ints
  obtain ⟨m0_0, hm0_0⟩ := ints_name w0_0
  obtain ⟨a1, len1, cap1, rs1, rfl, R1⟩ := open_rows (ks := [.i .u8]) (by kernel_rfl) Try.underlying27 (hval 1 27 v1 rfl rfl) h1
  obtain ⟨z1, w1⟩ := R1.ints
  obtain ⟨m1, hm1⟩ := ints_name w1
  obtain ⟨vs2, rfl, S2⟩ := open_agg (l := [.c (.i .i64), .c (.i .i64), .c (.i .i64)]) (by kernel_rfl) (by kernel_rfl) (hval 2 39 v2 rfl rfl) h2
  obtain ⟨_, _, rfl, ⟨x2_0, rfl, lo2_0, hi2_0⟩, _, _, rfl, ⟨x2_1, rfl, lo2_1, hi2_1⟩, _, _, rfl, ⟨x2_2, rfl, lo2_2, hi2_2⟩, rfl⟩ := S2
  clear hA0 hval0
  refine (law_calls (Sx.T1.law (z0_0.take len0_0) x0_1 (z1.take len1) x2_0 x2_1 x2_2) [m0_0, m1] W [.agg #[.slice a0_0 len0_0 cap0_0, .int .i64 x0_1], .slice a1 len1 cap1, .agg #[.int .i64 x2_0, .int .i64 x2_1, .int .i64 x2_2]] ⟨⟨rfl, (hm0_0 _).1⟩, ⟨rfl, (hm1 _).1⟩, trivial⟩ ⟨⟨_, rfl, (hm0_0 _).2 0 rfl, rfl, trivial⟩, (hm1 _).2 1 rfl, ⟨_, rfl, rfl, rfl, rfl, trivial⟩, trivial⟩).mono fun e W' ⟨he, bel⟩ => ?_
  subst he
  exact ⟨_, rfl, _, _, _, [], _, [], hW', trodAll_mk1 (shut_bool Try.underlying4 _), (trodAll_cons_mk (Below.trod laidOut (by kernel_rfl) (of_decide_eq_true (by kernel_rfl)) k0 bel lt0) (trodAll_cons_mk (Below.trod laidOut (by kernel_rfl) (of_decide_eq_true (by kernel_rfl)) k1 bel lt1) (trodAll_cons_mk (Below.trod laidOut (by kernel_rfl) (of_decide_eq_true (by kernel_rfl)) k2 bel lt2) trodAll_mk0))), rfl, bel.frame _, fun h => by cases h⟩

theorem over : Rows.mediaExactRow.holds Try.pinned (OpenSpec.ofChange Rows.mediaExactSpec) :=
  OpenClaim.holds_of_wide 4 Try.f4 rfl rfl rfl rfl rfl rfl rfl ⟨rfl, rfl, rfl, rfl, rfl⟩ rfl rfl rfl rfl rfl (by kernel_rfl) Try.func4 (by kernel_rfl)
    (of_decide_eq_true (by kernel_rfl)) (by unfold Func.isWrapper; first | (rw [if_pos (by decide +kernel)]; kernel_rfl) | (rw [if_neg (by decide +kernel)]; exact ⟨rfl, rfl⟩))
    (fun os started H enc _ => lifted os started H enc)

theorem proved : Rows.MediaExactSaid := over
end Go.Proofs.Ythblmkafcmdjhaa
