/- BitmatMade returns true: all functions of bitmat return what the reference returns, for made matrices. Conditions: none. -/
import Derived.Test.YtphmlacpgnjhfaaDoorBitmatMadeB
import Derived.Test.YtphmlacpgnjhfaaDoorRows
import Derived.Test.YtphmlacpgnjhfaaDoorCards
import Derived.Test.YtphmlacpgnjhfaaDoorTie
import Derived.LaidMore
import Derived.LaidOnce
import Derived.SevenTiedAt
import Derived.Lib.LaidTab
import Derived.Stop.Joined
import Derived.ProofKit
import Derived.OpenShut
import Derived.ShutString
import Derived.ChangeOld
namespace Go.Proofs.YtphmlacpgnjhfaaDoor
open Go.ChangeShapes Go.WideShapes Go.ChangeAt Go.RowKit Go.Sx
set_option linter.unusedVariables false
theorem own : ownKnob Tryd.prog.godebug = none := by kernel_rfl
theorem laidOut : laidOutB Tryd.prog = true := by kernel_rfl
theorem tab_there {W : World} (h : laidMetH Tryd.prog Rows.bitmatMadeRow.laid W) : ∃ c T fz, W.heap[0]? = some (.cells c T fz) ∧ ∀ i : Nat, c[i]? = ((Sx.T1.tabL.map fun z => Value.int .u8 z).toArray)[i]? := by
  have h' : laidMet Tryd.prog (("math/bits.deBruijn64tab", Lib.tabData .u8 Sx.T1.tabL) :: []) W := h
  have ht : Lib.TabIs Tryd.prog W "math/bits.deBruijn64tab" .u8 Sx.T1.tabL :=
    Lib.tabIs_of_head (g := 0) (t := 62) (e := 5) (n := 64) (by kernel_rfl) (by kernel_rfl) (by kernel_rfl) (by kernel_rfl) (by kernel_rfl) (by kernel_rfl) h'
  unfold Lib.TabIs World.var? at ht
  rw [show Tryd.prog.globalNamed "math/bits.deBruijn64tab" = some 0 by kernel_rfl] at ht
  simp only [Option.bind_some] at ht
  split at ht
  · rename_i cs T fz hb
    exact ⟨cs, T, fz, hb, fun i => by rw [Option.some.inj ht]⟩
  · cases ht
theorem tab_holds {W : World} (h : laidMetH Tryd.prog Rows.bitmatMadeRow.laid W) (β : Sx.Bet) : Sx.holds W β ⟨0, 0, 1, 1⟩ ⟨.map .glob Sx.T1.tabE, false⟩ := by
  obtain ⟨c, T, fz, hb, hc⟩ := tab_there h
  refine ⟨.inl rfl, Nat.le_refl _, fun hk => (by cases hk), fun s es he => ?_⟩
  cases he
  refine ⟨c, T, fz, hb, 0, .u8, _, rfl, rfl, rfl, fun i hi => ?_⟩
  rw [hc i]
  have hi' : i < Sx.T1.tabL.length := by simpa using hi
  rw [Sx.T1.tab_get Sx.T1.tabL i hi']
  simp [List.getD_eq_getElem?_getD, hi']
theorem door_met (os : Os) (args : Array Value) : laidMetH Tryd.prog Rows.bitmatMadeRow.laid ((World.doorLaid Tryd.prog 14 os).forCall (fun _ _ => 0) ⟨#[], args, []⟩).memory :=
  laidMet_of_run' 8 (by kernel_rfl) (by kernel_rfl)
set_option maxRecDepth 100000 in
set_option maxHeartbeats 1600000 in
theorem lifted (os : Os) (started : os.Started) (H : Type) (enc : TypeId × Value → H) :
    ReturnsInHanded {} Tryd.checked os 6 .any (fun w args => (Rows.bitmatMadeSpec.pre enc Tryd.prog Tryd.f6 [] false w args ∧ laidMetH Tryd.prog Rows.bitmatMadeRow.laid w) ∧ sizedMet enc Tryd.prog Tryd.f6 (OpenSpec.ofChange Rows.bitmatMadeSpec) false w args)
      (Rows.bitmatMadeSpec.post enc Tryd.prog Tryd.f6 false true false false) := by
  refine returnsInHanded_of_change_and (C := Tryd.checked) (X := fun w _ => laidMetH Tryd.prog Rows.bitmatMadeRow.laid w) (fun _ _ _ hh h => h.of_heap hh) own started (by kernel_rfl) Tryd.func6
    (ChangeSpec.witness_shaped (enc := enc) (C := Tryd.checked) (os := os) (X := fun w _ => laidMetH Tryd.prog Rows.bitmatMadeRow.laid w) false (World.doorLaid Tryd.prog 14 os) #[.slice none 0 0, .int .u64 0] 8 rfl (World.shaped_of_RefB (by kernel_rfl) (by kernel_rfl)) (by kernel_rfl) (by kernel_rfl) (by kernel_rfl) (door_met os _)) ?_
  intro W base args ds gs before hval0 hW _ _ hL _
  have hval : ∀ (j : Nat) t v, Tryd.f6.params[j]? = some t → args[j]? = some v → Value.okWide Tryd.prog W .any base t v := hval0
  have hW' := hW
  obtain ⟨p, q, hA0, hV, rfl, hfz, hnd⟩ := hW
  have hA : DataW.TrodAll enc Tryd.prog W 0 (fun _ => true) true Tryd.f6.params.toList args.toList ds p := hA0
  rw [Tryd.params6] at hA hval
  obtain ⟨v0, vs'0, d0, ds0, p0, q'0, hargs, rfl, rfl, h0, r0⟩ := trodAll_cons hA
  obtain ⟨v1, vs'1, d1, ds1, p1, q'1, rfl, rfl, rfl, h1, r1⟩ := trodAll_cons r0
  obtain ⟨rfl, rfl, rfl⟩ := trodAll_nil r1
  obtain rfl : args = #[v0, v1] := by cases args; simp_all
  obtain ⟨rfl, rfl⟩ := trodVars_none hV
  have k0 := h0
  have lt0 : ∀ x ∈ p0, x.block < W.heap.size := by obtain ⟨m, hm⟩ := k0; exact DataW.trod_lt m _ _ _ hm
  have k1 := h1
  have lt1 : ∀ x ∈ p1, x.block < W.heap.size := by obtain ⟨m, hm⟩ := k1; exact DataW.trod_lt m _ _ _ hm
  obtain ⟨a0, len0, cap0, rs0, rfl, R0⟩ := open_rows (ks := [.i .i64]) (by kernel_rfl) Tryd.underlying22 (hval 0 22 v0 rfl rfl) h0
  obtain ⟨z0, w0⟩ := R0.ints
  obtain ⟨m0, hm0⟩ := ints_name w0
  obtain ⟨x1, rfl, _, _, w1⟩ := open_int Tryd.underlying38 (hval 1 38 v1 rfl rfl) h1
  have hx1 : 0 ≤ x1 ∧ x1 ≤ 18446744073709551615 := by simpa [Lit.wf, IntKind.min, IntKind.max, IntKind.signed, IntKind.bits] using w1
  clear hA0 hval0
  refine (law_calls (Sx.T1.Mad05.law (z0.take len0) x1 hx1) [m0, ⟨0, 0, 1, 1⟩] W [.slice a0 len0 cap0, .int .u64 x1] ⟨⟨rfl, (hm0 _).1⟩, ⟨rfl, tab_holds hL _⟩, trivial⟩ ⟨(hm0 _).2 0 rfl, rfl, trivial⟩).mono fun e W' ⟨he, bel⟩ => ?_
  subst he
  exact ⟨_, rfl, _, _, _, [], _, [], hW', trodAll_mk1 (shut_bool Tryd.underlying4 _), (trodAll_cons_mk (Below.trod laidOut (by kernel_rfl) (of_decide_eq_true (by kernel_rfl)) k0 bel lt0) (trodAll_cons_mk (Below.trod laidOut (by kernel_rfl) (of_decide_eq_true (by kernel_rfl)) k1 bel lt1) trodAll_mk0)), rfl, bel.frame _, fun h => by cases h⟩

theorem over : Rows.bitmatMadeRow.holds Tryd.pinned (OpenSpec.ofChange Rows.bitmatMadeSpec) :=
  OpenClaim.holds_of_wide 6 Tryd.f6 rfl rfl rfl rfl rfl rfl rfl ⟨rfl, rfl, rfl, rfl, rfl⟩ rfl rfl rfl rfl rfl (by kernel_rfl) Tryd.func6 (by kernel_rfl)
    (of_decide_eq_true (by kernel_rfl)) (by unfold Func.isWrapper; first | (rw [if_pos (by decide +kernel)]; kernel_rfl) | (rw [if_neg (by decide +kernel)]; exact ⟨rfl, rfl⟩))
    (fun os started H enc _ => lifted os started H enc)

theorem proved : Rows.BitmatMadeCardSaid :=
  Claim7.holds_tied_plain_at .later [] [.data] true Rows.bitmatMadeCard.stood.harness false
    over (fun _ h => by cases h) (by kernel_rfl) (fun _ h => by cases h) bitmatMade_row_tie rfl ⟨rfl, rfl⟩ (by kernel_rfl) rfl
    (fun f fn hf hfn => by
      obtain rfl : f = 6 := Option.some.inj ((show Tryd.prog.funcNamed Rows.bitmatMadeRow.func = some 6 by kernel_rfl).symm.trans hf) |>.symm
      obtain rfl : fn = Tryd.f6 := (Option.some.inj (Tryd.func6.symm.trans hfn)).symm
      exact ⟨by kernel_rfl, fun j t ht => by
        rw [Tryd.params6] at ht
        have hm := Array.mem_of_getElem? ht
        have hall : ((Tryd.f6.params).all fun u => !Tryd.prog.wantsStandIn u) = true := by kernel_rfl
        rw [Tryd.params6] at hall
        exact (show Tryd.prog.wantsStandIn t = false by simpa using Array.all_eq_true'.1 hall t hm)⟩)
    (by kernel_rfl)
end Go.Proofs.YtphmlacpgnjhfaaDoor
