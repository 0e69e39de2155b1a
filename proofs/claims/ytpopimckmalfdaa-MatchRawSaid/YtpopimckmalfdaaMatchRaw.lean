/- MatchRaw returns true: all functions of match return what the reference returns, for any records and banks. Conditions: none. -/
import Derived.Test.YtpopimckmalfdaaMatchRawA
import Derived.Test.YtpopimckmalfdaaRows
import Derived.ProofKit
import Derived.OpenShut
import Derived.ShutString
import Derived.ChangeOld
namespace Go.Proofs.Ytpopimckmalfdaa
open Go.ChangeShapes Go.WideShapes Go.ChangeAt Go.RowKit Go.Sx
set_option linter.unusedVariables false
theorem own : ownKnob Try.prog.godebug = none := by kernel_rfl
theorem laidOut : laidOutB Try.prog = true := by kernel_rfl
set_option maxRecDepth 100000 in
set_option maxHeartbeats 1600000 in
theorem lifted (os : Os) (started : os.Started) (H : Type) (enc : TypeId × Value → H) :
    ReturnsInHanded {} Try.checked os 5 .any (Rows.matchRawSpec.pre6 enc Try.prog Try.f5 Rows.matchRawRow.domain false) (Rows.matchRawSpec.post enc Try.prog Try.f5 false true false false) := by
  refine returnsInHanded_of_change_sized (C := Try.checked) own started (by kernel_rfl) Try.func5
    (ChangeSpec.witness6 (enc := enc) (C := Try.checked) false ⟨#[], #[.slice none 0 0, .slice none 0 0, .slice none 0 0], []⟩ 8 (by kernel_rfl) (by kernel_rfl) (by kernel_rfl) (by kernel_rfl)) ?_
  intro W base args ds gs before hval0 hW hcnd hsz _
  have hval : ∀ (j : Nat) t v, Try.f5.params[j]? = some t → args[j]? = some v → Value.okWide Try.prog W .any base t v := hval0
  have hW' := hW
  obtain ⟨p, q, hA0, hV, rfl, hfz, hnd⟩ := hW
  have hA : DataW.TrodAll enc Try.prog W 0 (fun _ => true) true Try.f5.params.toList args.toList ds p := hA0
  rw [Try.params5] at hA hval
  obtain ⟨v0, vs'0, d0, ds0, p0, q'0, hargs, rfl, rfl, h0, r0⟩ := trodAll_cons hA
  obtain ⟨v1, vs'1, d1, ds1, p1, q'1, rfl, rfl, rfl, h1, r1⟩ := trodAll_cons r0
  obtain ⟨v2, vs'2, d2, ds2, p2, q'2, rfl, rfl, rfl, h2, r2⟩ := trodAll_cons r1
  obtain ⟨rfl, rfl, rfl⟩ := trodAll_nil r2
  obtain rfl : args = #[v0, v1, v2] := by cases args; simp_all
  obtain ⟨rfl, rfl⟩ := trodVars_none hV
  have k0 := h0
  have lt0 : ∀ x ∈ p0, x.block < W.heap.size := by obtain ⟨m, hm⟩ := k0; exact DataW.trod_lt m _ _ _ hm
  have k1 := h1
  have lt1 : ∀ x ∈ p1, x.block < W.heap.size := by obtain ⟨m, hm⟩ := k1; exact DataW.trod_lt m _ _ _ hm
  have k2 := h2
  have lt2 : ∀ x ∈ p2, x.block < W.heap.size := by obtain ⟨m, hm⟩ := k2; exact DataW.trod_lt m _ _ _ hm
  obtain ⟨a0, len0, cap0, rs0, rfl, R0⟩ := open_rows (ks := Sx.T1.Raw.kR) (by kernel_rfl) Try.underlying27 (hval 0 27 v0 rfl rfl) h0
  obtain ⟨xs0, m0, l0, q0, hm0⟩ := rows_name (by decide) Sx.T1.rcC (fun _ => True) Sx.T1.zR Sx.T1.Raw.hR R0
  have tl0 : xs0.length ≤ 140737488351232 := by
    rw [l0]
    rcases slice_datum Try.underlying27 k0 with ⟨_, e⟩ | ⟨es, sp, e, el⟩
    · omega
    · have h : (es.length + sp.length) * Try.prog.bytesOf 41 ≤ reachBytes := sized_slice hsz (j := 0) rfl (by rw [e]; rfl) Try.underlying27
      have hb : Try.prog.bytesOf 41 = 120 := by kernel_rfl
      rw [hb] at h
      have hr : reachBytes = 140737488351232 := by decide
      omega
  obtain ⟨a1, len1, cap1, rs1, rfl, R1⟩ := open_rows (ks := Sx.T1.Raw.kR) (by kernel_rfl) Try.underlying27 (hval 1 27 v1 rfl rfl) h1
  obtain ⟨xs1, m1, l1, q1, hm1⟩ := rows_name (by decide) Sx.T1.rcC (fun _ => True) Sx.T1.zR Sx.T1.Raw.hR R1
  have tl1 : xs1.length ≤ 140737488351232 := by
    rw [l1]
    rcases slice_datum Try.underlying27 k1 with ⟨_, e⟩ | ⟨es, sp, e, el⟩
    · omega
    · have h : (es.length + sp.length) * Try.prog.bytesOf 41 ≤ reachBytes := sized_slice hsz (j := 1) rfl (by rw [e]; rfl) Try.underlying27
      have hb : Try.prog.bytesOf 41 = 120 := by kernel_rfl
      rw [hb] at h
      have hr : reachBytes = 140737488351232 := by decide
      omega
  obtain ⟨a2, len2, cap2, rs2, rfl, R2⟩ := open_rows (ks := Sx.T1.Raw.kB) (by kernel_rfl) Try.underlying29 (hval 2 29 v2 rfl rfl) h2
  obtain ⟨xs2, m2, l2, q2, hm2⟩ := rows_name (by decide) Sx.T1.banC (fun _ => True) Sx.T1.zB Sx.T1.Raw.hB R2
  have tl2 : xs2.length ≤ 140737488351232 := by
    rw [l2]
    rcases slice_datum Try.underlying29 k2 with ⟨_, e⟩ | ⟨es, sp, e, el⟩
    · omega
    · have h : (es.length + sp.length) * Try.prog.bytesOf 36 ≤ reachBytes := sized_slice hsz (j := 2) rfl (by rw [e]; rfl) Try.underlying29
      have hb : Try.prog.bytesOf 36 = 56 := by kernel_rfl
      rw [hb] at h
      have hr : reachBytes = 140737488351232 := by decide
      omega
  clear hA0 hval0
  refine (law_calls (Sx.T1.Raw.law xs0 xs1 xs2 tl0 tl1 tl2) [m0, m1, m2] W [.slice a0 len0 cap0, .slice a1 len1 cap1, .slice a2 len2 cap2] ⟨⟨rfl, (hm0 _).1⟩, ⟨rfl, (hm1 _).1⟩, ⟨rfl, (hm2 _).1⟩, trivial⟩ ⟨(hm0 _).2 0 rfl, (hm1 _).2 1 rfl, (hm2 _).2 2 rfl, trivial⟩).mono fun e W' ⟨he, bel⟩ => ?_
  subst he
  exact ⟨_, rfl, _, _, _, [], _, [], hW', trodAll_mk1 (shut_bool Try.underlying4 _), (trodAll_cons_mk (Below.trod laidOut (by kernel_rfl) (of_decide_eq_true (by kernel_rfl)) k0 bel lt0) (trodAll_cons_mk (Below.trod laidOut (by kernel_rfl) (of_decide_eq_true (by kernel_rfl)) k1 bel lt1) (trodAll_cons_mk (Below.trod laidOut (by kernel_rfl) (of_decide_eq_true (by kernel_rfl)) k2 bel lt2) trodAll_mk0))), rfl, bel.frame _, fun h => by cases h⟩

theorem over : Rows.matchRawRow.holds Try.pinned (OpenSpec.ofChange Rows.matchRawSpec) :=
  OpenClaim.holds_of_wide 5 Try.f5 rfl rfl rfl rfl rfl rfl rfl ⟨rfl, rfl, rfl, rfl, rfl⟩ rfl rfl rfl rfl rfl (by kernel_rfl) Try.func5 (by kernel_rfl)
    (of_decide_eq_true (by kernel_rfl)) (by unfold Func.isWrapper; first | (rw [if_pos (by decide +kernel)]; kernel_rfl) | (rw [if_neg (by decide +kernel)]; exact ⟨rfl, rfl⟩))
    (fun os started H enc _ => lifted os started H enc)

theorem proved : Rows.MatchRawSaid := over
end Go.Proofs.Ytpopimckmalfdaa
