/- Different statuses have different words: RawApart returns true for every list of numbers. Conditions: none. -/
import Derived.Test.YtihnmopehcjneaaRawA
import Derived.Test.YtihnmopehcjneaaRows
import Derived.ProofKit
import Derived.OpenShut
import Derived.ShutString
import Derived.ChangeOld
namespace Go.Sx.T1
open Go.Proofs
theorem next_x (ts : List Int) (k : Nat) (n : Int) (hn : n < 9223372036854775808) (hl : ts.length ≤ 400) :
    ∃ v, FC Try.prog 10 [.o (.c (.p 0 0 0)), int .i64 n] [diceB ts k, diceL ts] (int .i64 v) [diceB ts (k + 1), diceL ts] ∧ v = dv ts k n := ⟨_, next_fc ts k n hn hl, rfl⟩
theorem one_x (ts : List Int) (k : Nat) (n : Int) (hn : n < 9223372036854775808) (hn1 : 1 ≤ n) (hl : ts.length ≤ 400) :
    ∃ v, FC Try.prog 11 [.o (.c (.p 0 0 0)), int .i64 n] [diceB ts k, diceL ts] (boo v) [diceB ts (k + 1), diceL ts] ∧ v = (dv ts k n == n - 1) := ⟨_, one_fc ts k n hn hn1 hl, rfl⟩
theorem status_x (ts : List Int) (k : Nat) (a : Int) (hl : ts.length ≤ 400) (h0 : 0 ≤ a) (h1 : a < 1048576) :
    ∃ s, FC Try.prog 9 [.o (.c (.p 0 0 0)), int .i64 a] [diceB ts k, diceL ts] (.o (.a (stC s))) [diceB ts (k + 6), diceL ts] ∧ validS s = true ∧ s = dStatus ts k a := ⟨_, status_fc ts k a hl, dStatus_valid ts k a h0 h1, rfl⟩
theorem pack_x {s : Stt} (h : validS s = true) : ∃ w, FC Try.prog 14 [.o (.a (stC s))] [] (tup3 w s.chips 0) [] ∧ w = (wordS s : Nat) := by
  have := pack_fc s
  simp only [packA, packB, packE, h, cond] at this
  exact ⟨_, this, rfl⟩
theorem restamp_valid {x : Stt} (hx : validS x = true) (hv : x.valid = true) {n : Int} (h0 : 0 ≤ n) (h3 : n < 3) :
    validS { x with stamp := (IntKind.i64.wrap (x.stamp + n)).tmod 65536 } = true := by
  have hf := validS_fits hx
  rw [wrap64_in (by have := hf.st; omega) (by have := hf.st; omega), Int.tmod_eq_emod_of_nonneg (by have := hf.st; omega)]
  have hz : eqS x zS = false := by
    cases h : eqS x zS with
    | false => rfl
    | true => rw [eqS_iff] at h; subst h; exact absurd hv (by decide)
  simp only [validS, hz, hv, in8, Bool.false_or, Bool.true_and, Bool.and_eq_true, Bool.or_eq_true, decide_eq_true_eq, beq_iff_eq] at hx ⊢
  exact .inr ⟨hx.1, hx.2.1, by omega, hx.2.2.2⟩
set_option maxRecDepth 10000 in
theorem law5 (ts : List Int) : FC Try.prog 5 [.o (.c (.s 0 0 ts.length 1))] [diceL ts] (boo true) [diceL ts] := by
  refine FC.b mix Try.func5 ?_
  refine FC.u (light_fc ts) [0] ?_
  refine bselNot ?_
  refine bsel_intro (fun h => ?_) (fun h => ?_)
  rotate_left
  · refine FC.u awake_fc [] ?_
    exact ⟨rfl, rfl, trivial⟩
  have hl : ts.length ≤ 400 := of_decide_eq_true h
  refine FC.u (roll_fc ts) [0] ?_
  refine FC.x (next_x ts 0 300 (by omega) hl) [1, 0] (fun n1 e1 => ?_)
  have a0 := dv_bd ts 0 (n := 300) (by omega)
  refine FC.x (status_x ts 1 n1 hl (by omega) (by omega)) [1, 0] (fun x ⟨vx, ex⟩ => ?_)
  have hv : x.valid = true := by rw [ex]; rfl
  refine FC.x (next_x ts 7 300 (by omega) hl) [1, 0] (fun n2 e2 => ?_)
  have a1 := dv_bd ts 7 (n := 300) (by omega)
  refine FC.x (status_x ts 8 n2 hl (by omega) (by omega)) [1, 0] (fun y ⟨vy, _⟩ => ?_)
  refine FC.x (one_x ts 14 2 (by omega) (by omega) hl) [1, 0] (fun o eo => ?_)
  refine bsel_intro (fun h1 => ?_) (fun h1 => ?_)
  · refine FC.x (next_x ts 15 3 (by omega) hl) [1, 0] (fun n3 e3 => ?_)
    have a3 := dv_bd ts 15 (n := 3) (by omega)
    refine And.intro (by decide) ?_
    refine And.intro (by kernel_rfl) ?_
    have vy2 := restamp_valid vx hv (n := n3) (by omega) (by omega)
    refine FC.x (pack_x vx) [] (fun wx hwx => ?_)
    refine FC.x (pack_x vy2) [] (fun wy hwy => ?_)
    refine FC.u awake_fc [] ?_
    refine bselE (fun hA => ?_) (fun hA => ?_)
    · refine And.intro (by kernel_rfl) ?_
      exact ⟨congrArg boo ((word_law vx vy2 hwx hwy).1 hA), rfl, trivial⟩
    · refine And.intro (by kernel_rfl) ?_
      exact ⟨congrArg boo ((word_law vx vy2 hwx hwy).2 hA), rfl, trivial⟩
  · refine FC.x (pack_x vx) [] (fun wx hwx => ?_)
    refine FC.x (pack_x vy) [] (fun wy hwy => ?_)
    refine FC.u awake_fc [] ?_
    refine bselE (fun hA => ?_) (fun hA => ?_)
    · refine And.intro (by kernel_rfl) ?_
      exact ⟨congrArg boo ((word_law vx vy hwx hwy).1 hA), rfl, trivial⟩
    · refine And.intro (by kernel_rfl) ?_
      exact ⟨congrArg boo ((word_law vx vy hwx hwy).2 hA), rfl, trivial⟩
end Go.Sx.T1
namespace Go.Proofs.Ytihnmopehcjneaa
open Go.ChangeShapes Go.WideShapes Go.ChangeAt Go.RowKit Go.Sx
set_option linter.unusedVariables false

theorem own : ownKnob Try.prog.godebug = none := by kernel_rfl
theorem laidOut : laidOutB Try.prog = true := by kernel_rfl

theorem walk5 (a0 : Option Addr) (len0 cap0 : Nat) (z0 : List Int) (w : World) (w0 : IsRowI .i64 w a0 len0 cap0 z0) :
    Calls Try.prog 5 #[.slice a0 len0 cap0] w fun e w' => e = .returned (.bool true) ∧ Below w.heap.size w w' := by
  obtain ⟨m, hm⟩ := ints_name w0
  exact law_calls (T1.law5 (z0.take len0)) [m] w [.slice a0 len0 cap0] ⟨⟨rfl, (hm _).1⟩, trivial⟩ ⟨(hm _).2 0 rfl, trivial⟩

set_option maxRecDepth 100000 in
theorem lifted (os : Os) (started : os.Started) (H : Type) (enc : TypeId × Value → H) :
    ReturnsInHanded {} Try.checked os 5 .any (Rows.rawApartSpec.pre6 enc Try.prog Try.f5 Rows.rawApartRow.domain false) (Rows.rawApartSpec.post enc Try.prog Try.f5 false true false false) := by
  refine returnsInHanded_of_change (C := Try.checked) own started (by kernel_rfl) Try.func5
    (ChangeSpec.witness6 (enc := enc) (C := Try.checked) false ⟨#[], #[.slice none 0 0], []⟩ 8 (by kernel_rfl) (by kernel_rfl) (by kernel_rfl) (by kernel_rfl)) ?_
  intro W base args ds gs before hval0 hW hcnd _
  have hval : ∀ (j : Nat) t v, Try.f5.params[j]? = some t → args[j]? = some v → Value.okWide Try.prog W .any base t v := hval0
  have hW' := hW
  obtain ⟨p, q, hA0, hV, rfl, hfz, hnd⟩ := hW
  have hA : DataW.TrodAll enc Try.prog W 0 (fun _ => true) true Try.f5.params.toList args.toList ds p := hA0
  rw [Try.params5] at hA hval
  obtain ⟨v0, vs0, d0, ds0, p0, q0, hargs, rfl, rfl, h0, r0⟩ := trodAll_cons hA
  obtain ⟨rfl, rfl, rfl⟩ := trodAll_nil r0
  obtain rfl : args = #[v0] := by cases args; simp_all
  obtain ⟨rfl, rfl⟩ := trodVars_none hV
  obtain ⟨a0, len0, cap0, rfl⟩ := okWide_slice Try.underlying26 (hval 0 26 v0 rfl rfl)
  have k0 := h0
  have lt0 : ∀ x ∈ p0, x.block < W.heap.size := by obtain ⟨m, hm⟩ := k0; exact DataW.trod_lt m _ _ _ hm
  obtain ⟨z0, w0⟩ : ∃ zs, IsRowI .i64 W a0 len0 cap0 zs := by
    obtain ⟨fuel, hf⟩ := h0
    rcases open_ints Try.underlying26 Try.underlying3 (by kernel_rfl) hf with ⟨hcs, _⟩ | ⟨x, l, c, zs, hcs, _, hl, hm, hz, _, hcell, hwz⟩
    · simp [Value.cells] at hcs
      obtain ⟨rfl, rfl, rfl⟩ := hcs
      exact ⟨[], .inl ⟨rfl, rfl, rfl, rfl⟩⟩
    · simp [Value.cells] at hcs
      obtain ⟨rfl, rfl, rfl⟩ := hcs
      exact ⟨zs, .inr ⟨_, rfl, hl, hm, by simpa using hz, hcell, hwz⟩⟩
  clear hA0 hval0
  refine (walk5 a0 len0 cap0 z0 W w0).mono fun e W' ⟨he, bel⟩ => ?_
  subst he
  exact ⟨_, rfl, _, _, _, [], _, [], hW', trodAll_mk1 (shut_bool Try.underlying4 _), (trodAll_cons_mk (Below.trod laidOut (by kernel_rfl) (of_decide_eq_true (by kernel_rfl)) k0 bel lt0) trodAll_mk0), rfl, bel.frame _, fun h => by cases h⟩

theorem over : Rows.rawApartRow.holds Try.pinned (OpenSpec.ofChange Rows.rawApartSpec) :=
  OpenClaim.holds_of_wide 5 Try.f5 rfl rfl rfl rfl rfl rfl rfl ⟨rfl, rfl, rfl, rfl, rfl⟩ rfl rfl rfl rfl rfl (by kernel_rfl) Try.func5 (by kernel_rfl)
    (of_decide_eq_true (by kernel_rfl)) (by unfold Func.isWrapper; first | (rw [if_pos (by decide +kernel)]; kernel_rfl) | (rw [if_neg (by decide +kernel)]; exact ⟨rfl, rfl⟩))
    (fun os started H enc _ => lifted os started H enc)

theorem proved : Rows.RawApartSaid := over
end Go.Proofs.Ytihnmopehcjneaa
