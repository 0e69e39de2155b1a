/- BitmatRaw returns true: all functions of bitmat return what the reference returns, for any matrices of at most 70 rows, and any vector and number. Conditions: none. -/
import Derived.Test.YtphmlacpgnjhfaaDoorBitmatRawB
import Derived.Test.YtphmlacpgnjhfaaDoorRows
import Derived.Test.YtphmlacpgnjhfaaDoorCards
import Derived.Test.YtphmlacpgnjhfaaDoorTie
import Derived.LaidMore
import Derived.LaidOnce
import Derived.SevenTiedAt
import Derived.Lib.LaidTab
import Derived.Stop.Joined
import Derived.ProofKit
import Derived.OpenShut
import Derived.ShutString
import Derived.ChangeOld
namespace Go.Proofs.YtphmlacpgnjhfaaDoor
open Go.ChangeShapes Go.WideShapes Go.ChangeAt Go.RowKit Go.Sx
set_option linter.unusedVariables false
theorem own : ownKnob Tryd.prog.godebug = none := by kernel_rfl
theorem laidOut : laidOutB Tryd.prog = true := by kernel_rfl
theorem tab_there {W : World} (h : laidMetH Tryd.prog Rows.bitmatRawRow.laid W) : ∃ c T fz, W.heap[0]? = some (.cells c T fz) ∧ ∀ i : Nat, c[i]? = ((Sx.T1.tabL.map fun z => Value.int .u8 z).toArray)[i]? := by
  have h' : laidMet Tryd.prog (("math/bits.deBruijn64tab", Lib.tabData .u8 Sx.T1.tabL) :: []) W := h
  have ht : Lib.TabIs Tryd.prog W "math/bits.deBruijn64tab" .u8 Sx.T1.tabL :=
    Lib.tabIs_of_head (g := 0) (t := 62) (e := 5) (n := 64) (by kernel_rfl) (by kernel_rfl) (by kernel_rfl) (by kernel_rfl) (by kernel_rfl) (by kernel_rfl) h'
  unfold Lib.TabIs World.var? at ht
  rw [show Tryd.prog.globalNamed "math/bits.deBruijn64tab" = some 0 by kernel_rfl] at ht
  simp only [Option.bind_some] at ht
  split at ht
  · rename_i cs T fz hb
    exact ⟨cs, T, fz, hb, fun i => by rw [Option.some.inj ht]⟩
  · cases ht
theorem tab_holds {W : World} (h : laidMetH Tryd.prog Rows.bitmatRawRow.laid W) (β : Sx.Bet) : Sx.holds W β ⟨0, 0, 1, 1⟩ ⟨.map .glob Sx.T1.tabE, false⟩ := by
  obtain ⟨c, T, fz, hb, hc⟩ := tab_there h
  refine ⟨.inl rfl, Nat.le_refl _, fun hk => (by cases hk), fun s es he => ?_⟩
  cases he
  refine ⟨c, T, fz, hb, 0, .u8, _, rfl, rfl, rfl, fun i hi => ?_⟩
  rw [hc i]
  have hi' : i < Sx.T1.tabL.length := by simpa using hi
  rw [Sx.T1.tab_get Sx.T1.tabL i hi']
  simp [List.getD_eq_getElem?_getD, hi']
theorem door_met (os : Os) (args : Array Value) : laidMetH Tryd.prog Rows.bitmatRawRow.laid ((World.doorLaid Tryd.prog 14 os).forCall (fun _ _ => 0) ⟨#[], args, []⟩).memory :=
  laidMet_of_run' 8 (by kernel_rfl) (by kernel_rfl)
set_option maxRecDepth 100000 in
set_option maxHeartbeats 1600000 in
theorem lifted (os : Os) (started : os.Started) (H : Type) (enc : TypeId × Value → H) :
    ReturnsInHanded {} Tryd.checked os 5 .any (fun w args => (Rows.bitmatRawSpec.pre enc Tryd.prog Tryd.f5 [] false w args ∧ laidMetH Tryd.prog Rows.bitmatRawRow.laid w) ∧ sizedMet enc Tryd.prog Tryd.f5 (OpenSpec.ofChange Rows.bitmatRawSpec) false w args)
      (Rows.bitmatRawSpec.post enc Tryd.prog Tryd.f5 false true false false) := by
  refine returnsInHanded_of_change_and (C := Tryd.checked) (X := fun w _ => laidMetH Tryd.prog Rows.bitmatRawRow.laid w) (fun _ _ _ hh h => h.of_heap hh) own started (by kernel_rfl) Tryd.func5
    (ChangeSpec.witness_shaped (enc := enc) (C := Tryd.checked) (os := os) (X := fun w _ => laidMetH Tryd.prog Rows.bitmatRawRow.laid w) false (World.doorLaid Tryd.prog 14 os) #[.agg #[.int .i64 0, .slice none 0 0], .agg #[.int .i64 0, .slice none 0 0], .int .u64 0] 8 rfl (World.shaped_of_RefB (by kernel_rfl) (by kernel_rfl)) (by kernel_rfl) (by kernel_rfl) (by kernel_rfl) (door_met os _)) ?_
  intro W base args ds gs before hval0 hW _ _ hL _
  have hval : ∀ (j : Nat) t v, Tryd.f5.params[j]? = some t → args[j]? = some v → Value.okWide Tryd.prog W .any base t v := hval0
  have hW' := hW
  obtain ⟨p, q, hA0, hV, rfl, hfz, hnd⟩ := hW
  have hA : DataW.TrodAll enc Tryd.prog W 0 (fun _ => true) true Tryd.f5.params.toList args.toList ds p := hA0
  rw [Tryd.params5] at hA hval
  obtain ⟨v0, vs'0, d0, ds0, p0, q'0, hargs, rfl, rfl, h0, r0⟩ := trodAll_cons hA
  obtain ⟨v1, vs'1, d1, ds1, p1, q'1, rfl, rfl, rfl, h1, r1⟩ := trodAll_cons r0
  obtain ⟨v2, vs'2, d2, ds2, p2, q'2, rfl, rfl, rfl, h2, r2⟩ := trodAll_cons r1
  obtain ⟨rfl, rfl, rfl⟩ := trodAll_nil r2
  obtain rfl : args = #[v0, v1, v2] := by cases args; simp_all
  obtain ⟨rfl, rfl⟩ := trodVars_none hV
  have k0 := h0
  have lt0 : ∀ x ∈ p0, x.block < W.heap.size := by obtain ⟨m, hm⟩ := k0; exact DataW.trod_lt m _ _ _ hm
  have k1 := h1
  have lt1 : ∀ x ∈ p1, x.block < W.heap.size := by obtain ⟨m, hm⟩ := k1; exact DataW.trod_lt m _ _ _ hm
  have k2 := h2
  have lt2 : ∀ x ∈ p2, x.block < W.heap.size := by obtain ⟨m, hm⟩ := k2; exact DataW.trod_lt m _ _ _ hm
  obtain ⟨vs0, rfl, S0⟩ := open_agg (l := [.c (.i .i64), .s [.i .u64]]) (by kernel_rfl) (by kernel_rfl) (hval 0 30 v0 rfl rfl) h0
  obtain ⟨_, _, rfl, ⟨x0_0, rfl, lo0_0, hi0_0⟩, _, _, rfl, ⟨a0_1, len0_1, cap0_1, rs0_1, rfl, R0_1⟩, rfl⟩ := S0
  obtain ⟨z0_1, w0_1⟩ := R0_1.ints
  obtain ⟨m0_1, hm0_1⟩ := ints_name w0_1
  obtain ⟨vs1, rfl, S1⟩ := open_agg (l := [.c (.i .i64), .s [.i .u64]]) (by kernel_rfl) (by kernel_rfl) (hval 1 30 v1 rfl rfl) h1
  obtain ⟨_, _, rfl, ⟨x1_0, rfl, lo1_0, hi1_0⟩, _, _, rfl, ⟨a1_1, len1_1, cap1_1, rs1_1, rfl, R1_1⟩, rfl⟩ := S1
  obtain ⟨z1_1, w1_1⟩ := R1_1.ints
  obtain ⟨m1_1, hm1_1⟩ := ints_name w1_1
  obtain ⟨x2, rfl, _, _, w2⟩ := open_int Tryd.underlying38 (hval 2 38 v2 rfl rfl) h2
  have hx2 : 0 ≤ x2 ∧ x2 ≤ 18446744073709551615 := by simpa [Lit.wf, IntKind.min, IntKind.max, IntKind.signed, IntKind.bits] using w2
  clear hA0 hval0
  refine (law_calls (Sx.T1.Raw05.law x0_0 (z0_1.take len0_1) x1_0 (z1_1.take len1_1) x2 (Sx.T1.row_nat w0_1 len0_1) (Sx.T1.row_nat w1_1 len1_1) hx2) [m0_1, m1_1, ⟨0, 0, 1, 1⟩] W [.agg #[.int .i64 x0_0, .slice a0_1 len0_1 cap0_1], .agg #[.int .i64 x1_0, .slice a1_1 len1_1 cap1_1], .int .u64 x2] ⟨⟨rfl, (hm0_1 _).1⟩, ⟨rfl, (hm1_1 _).1⟩, ⟨rfl, tab_holds hL _⟩, trivial⟩ ⟨⟨_, rfl, rfl, (hm0_1 _).2 0 rfl, trivial⟩, ⟨_, rfl, rfl, (hm1_1 _).2 1 rfl, trivial⟩, rfl, trivial⟩).mono fun e W' ⟨he, bel⟩ => ?_
  subst he
  exact ⟨_, rfl, _, _, _, [], _, [], hW', trodAll_mk1 (shut_bool Tryd.underlying4 _), (trodAll_cons_mk (Below.trod laidOut (by kernel_rfl) (of_decide_eq_true (by kernel_rfl)) k0 bel lt0) (trodAll_cons_mk (Below.trod laidOut (by kernel_rfl) (of_decide_eq_true (by kernel_rfl)) k1 bel lt1) (trodAll_cons_mk (Below.trod laidOut (by kernel_rfl) (of_decide_eq_true (by kernel_rfl)) k2 bel lt2) trodAll_mk0))), rfl, bel.frame _, fun h => by cases h⟩

theorem over : Rows.bitmatRawRow.holds Tryd.pinned (OpenSpec.ofChange Rows.bitmatRawSpec) :=
  OpenClaim.holds_of_wide 5 Tryd.f5 rfl rfl rfl rfl rfl rfl rfl ⟨rfl, rfl, rfl, rfl, rfl⟩ rfl rfl rfl rfl rfl (by kernel_rfl) Tryd.func5 (by kernel_rfl)
    (of_decide_eq_true (by kernel_rfl)) (by unfold Func.isWrapper; first | (rw [if_pos (by decide +kernel)]; kernel_rfl) | (rw [if_neg (by decide +kernel)]; exact ⟨rfl, rfl⟩))
    (fun os started H enc _ => lifted os started H enc)

theorem proved : Rows.BitmatRawCardSaid :=
  Claim7.holds_tied_plain_at .later [] [.data] true Rows.bitmatRawCard.stood.harness false
    over (fun _ h => by cases h) (by kernel_rfl) (fun _ h => by cases h) bitmatRaw_row_tie rfl ⟨rfl, rfl⟩ (by kernel_rfl) rfl
    (fun f fn hf hfn => by
      obtain rfl : f = 5 := Option.some.inj ((show Tryd.prog.funcNamed Rows.bitmatRawRow.func = some 5 by kernel_rfl).symm.trans hf) |>.symm
      obtain rfl : fn = Tryd.f5 := (Option.some.inj (Tryd.func5.symm.trans hfn)).symm
      exact ⟨by kernel_rfl, fun j t ht => by
        rw [Tryd.params5] at ht
        have hm := Array.mem_of_getElem? ht
        have hall : ((Tryd.f5.params).all fun u => !Tryd.prog.wantsStandIn u) = true := by kernel_rfl
        rw [Tryd.params5] at hall
        exact (show Tryd.prog.wantsStandIn t = false by simpa using Array.all_eq_true'.1 hall t hm)⟩)
    (by kernel_rfl)
end Go.Proofs.YtphmlacpgnjhfaaDoor
