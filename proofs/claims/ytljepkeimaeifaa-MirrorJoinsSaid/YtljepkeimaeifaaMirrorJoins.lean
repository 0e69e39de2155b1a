/- MirrorJoins returns true: Join and Repair return what the reference returns, for any readings and made ones. Conditions: none. -/
import Derived.Test.YtljepkeimaeifaaMirrorJoinsA
import Derived.Test.YtljepkeimaeifaaRows
import Derived.ProofKit
import Derived.OpenShut
import Derived.ShutString
import Derived.ChangeOld
namespace Go.Proofs.Ytljepkeimaeifaa
open Go.ChangeShapes Go.WideShapes Go.ChangeAt Go.RowKit Go.Sx
set_option linter.unusedVariables false
theorem own : ownKnob Try.prog.godebug = none := by kernel_rfl
theorem laidOut : laidOutB Try.prog = true := by kernel_rfl
set_option maxRecDepth 100000 in
set_option maxHeartbeats 1600000 in
theorem lifted (os : Os) (started : os.Started) (H : Type) (enc : TypeId × Value → H) :
    ReturnsInHanded {} Try.checked os 3 .any (Rows.mirrorJoinsSpec.pre6 enc Try.prog Try.f3 Rows.mirrorJoinsRow.domain false) (Rows.mirrorJoinsSpec.post enc Try.prog Try.f3 false true false false) := by
  refine returnsInHanded_of_change (C := Try.checked) own started (by kernel_rfl) Try.func3
    (ChangeSpec.witness6 (enc := enc) (C := Try.checked) false ⟨#[], #[.agg #[.int .i64 0, .slice none 0 0, .slice none 0 0], .slice none 0 0], []⟩ 8 (by kernel_rfl) (by kernel_rfl) (by kernel_rfl) (by kernel_rfl)) ?_
  intro W base args ds gs before hval0 hW hcnd _
  have hval : ∀ (j : Nat) t v, Try.f3.params[j]? = some t → args[j]? = some v → Value.okWide Try.prog W .any base t v := hval0
  have hW' := hW
  obtain ⟨p, q, hA0, hV, rfl, hfz, hnd⟩ := hW
  have hA : DataW.TrodAll enc Try.prog W 0 (fun _ => true) true Try.f3.params.toList args.toList ds p := hA0
  rw [Try.params3] at hA hval
  obtain ⟨v0, vs'0, d0, ds0, p0, q'0, hargs, rfl, rfl, h0, r0⟩ := trodAll_cons hA
  obtain ⟨v1, vs'1, d1, ds1, p1, q'1, rfl, rfl, rfl, h1, r1⟩ := trodAll_cons r0
  obtain ⟨rfl, rfl, rfl⟩ := trodAll_nil r1
  obtain rfl : args = #[v0, v1] := by cases args; simp_all
  obtain ⟨rfl, rfl⟩ := trodVars_none hV
  have k0 := h0
  have lt0 : ∀ x ∈ p0, x.block < W.heap.size := by obtain ⟨m, hm⟩ := k0; exact DataW.trod_lt m _ _ _ hm
  have k1 := h1
  have lt1 : ∀ x ∈ p1, x.block < W.heap.size := by obtain ⟨m, hm⟩ := k1; exact DataW.trod_lt m _ _ _ hm
  obtain ⟨vs0, rfl, S0⟩ := open_agg (l := [.c (.i .i64), .s [.i .u8], .s [.i .i64]]) (by kernel_rfl) (by kernel_rfl) (hval 0 25 v0 rfl rfl) h0
  obtain ⟨_, _, rfl, ⟨x0_0, rfl, lo0_0, hi0_0⟩, _, _, rfl, ⟨a0_1, len0_1, cap0_1, rs0_1, rfl, R0_1⟩, _, _, rfl, ⟨a0_2, len0_2, cap0_2, rs0_2, rfl, R0_2⟩, rfl⟩ := S0
  obtain ⟨z0_1, w0_1⟩ := R0_1.ints
  obtain ⟨m0_1, hm0_1⟩ := ints_name w0_1
  obtain ⟨z0_2, w0_2⟩ := R0_2.ints
  obtain ⟨m0_2, hm0_2⟩ := ints_name w0_2
  obtain ⟨a1, len1, cap1, rs1, rfl, R1⟩ := open_rows (ks := [.i .i64]) (by kernel_rfl) Try.underlying23 (hval 1 23 v1 rfl rfl) h1
  obtain ⟨z1, w1⟩ := R1.ints
  obtain ⟨m1, hm1⟩ := ints_name w1
  clear hA0 hval0
  refine (law_calls (Sx.T1.law ⟨x0_0, z0_1.take len0_1, z0_2.take len0_2⟩ (z1.take len1)) [m0_1, m0_2, m1] W [.agg #[.int .i64 x0_0, .slice a0_1 len0_1 cap0_1, .slice a0_2 len0_2 cap0_2], .slice a1 len1 cap1] ⟨⟨rfl, (hm0_1 _).1⟩, ⟨rfl, (hm0_2 _).1⟩, ⟨rfl, (hm1 _).1⟩, trivial⟩ ⟨⟨_, rfl, rfl, (hm0_1 _).2 0 rfl, (hm0_2 _).2 1 rfl, trivial⟩, (hm1 _).2 2 rfl, trivial⟩).mono fun e W' ⟨he, bel⟩ => ?_
  subst he
  exact ⟨_, rfl, _, _, _, [], _, [], hW', trodAll_mk1 (shut_bool Try.underlying4 _), (trodAll_cons_mk (Below.trod laidOut (by kernel_rfl) (of_decide_eq_true (by kernel_rfl)) k0 bel lt0) (trodAll_cons_mk (Below.trod laidOut (by kernel_rfl) (of_decide_eq_true (by kernel_rfl)) k1 bel lt1) trodAll_mk0)), rfl, bel.frame _, fun h => by cases h⟩

theorem over : Rows.mirrorJoinsRow.holds Try.pinned (OpenSpec.ofChange Rows.mirrorJoinsSpec) :=
  OpenClaim.holds_of_wide 3 Try.f3 rfl rfl rfl rfl rfl rfl rfl ⟨rfl, rfl, rfl, rfl, rfl⟩ rfl rfl rfl rfl rfl (by kernel_rfl) Try.func3 (by kernel_rfl)
    (of_decide_eq_true (by kernel_rfl)) (by unfold Func.isWrapper; first | (rw [if_pos (by decide +kernel)]; kernel_rfl) | (rw [if_neg (by decide +kernel)]; exact ⟨rfl, rfl⟩))
    (fun os started H enc _ => lifted os started H enc)

theorem proved : Rows.MirrorJoinsSaid := over
end Go.Proofs.Ytljepkeimaeifaa
