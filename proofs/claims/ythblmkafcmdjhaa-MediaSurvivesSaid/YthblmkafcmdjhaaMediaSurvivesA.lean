/- Contracts of the functions that MediaSurvives reaches, and the walk of the law, part 1. Conditions: none. -/
import Derived.Test.YthblmkafcmdjhaaSxTwo
import Derived.Test.YthblmkafcmdjhaaChecked
namespace Go.Sx.T1
open Go.Proofs

theorem mix : Try.prog.follows .mixedOrders = true := by kernel_rfl

def mMod (n m : Int) : Int := if m < 1 then 0 else n % m

theorem tmod_fix (n m : Int) (h : 1 ≤ m) : (n.tmod m < 0 → n.tmod m + m = n % m) ∧ (¬ n.tmod m < 0 → n.tmod m = n % m) := by
  have h1 := Int.emod_lt_of_pos n (show 0 < m by omega)
  have h2 := Int.emod_nonneg n (show m ≠ 0 by omega)
  rw [Int.tmod_eq_emod]
  split <;> omega

set_option maxRecDepth 10000 in
theorem mod_fc (n m : Int) (hm : m < 9223372036854775808) : FC Try.prog 16 [int .i64 n, int .i64 m] [] (int .i64 (mMod n m)) [] := by
  refine FC.b mix Try.func16 ?_
  refine bselD (fun h => ?_) (fun h => ?_)
  · exact ⟨congrArg (int .i64) (by simp [mMod, h]), trivial⟩
  · refine ⟨by omega, ?_⟩
    have hlt := Int.tmod_lt_of_pos n (show 0 < m by omega)
    have hgt := Int.lt_tmod_of_pos n (show 0 < m by omega)
    have e := tmod_fix n m (by omega)
    refine bselD (fun h2 => ?_) (fun h2 => ?_)
    · refine ⟨congrArg (int .i64) ?_, trivial⟩
      rw [wrap64_in (by omega) (by omega)]
      simp only [mMod, h, if_false]
      exact e.1 h2
    · exact ⟨congrArg (int .i64) (by simp [mMod, h]; exact e.2 h2), trivial⟩

/-- the dice: name 0 the two fields, name 1 the numbers; k numbers have been asked for -/
def diceB (ts : List Int) (k : Nat) : Option Blk := some ⟨.box [.s 1 0 ts.length 1, .v (.int .i64 (min k ts.length : Nat))], true⟩
def diceL (ts : List Int) : Option Blk := some ⟨.ints .i64 ts, false⟩
def dv (ts : List Int) (k : Nat) (n : Int) : Int := mMod (ts.getD k 0) n

set_option maxRecDepth 10000 in
theorem next_fc (ts : List Int) (k : Nat) (n : Int) (hn : n < 9223372036854775808) (hl : ts.length ≤ 400) :
    FC Try.prog 9 [.o (.c (.p 0 0 0)), int .i64 n] [diceB ts k, diceL ts] (int .i64 (dv ts k n)) [diceB ts (k + 1), diceL ts] := by
  refine FC.b mix Try.func9 ?_
  refine ⟨by kernel_rfl, ?_⟩
  refine bselD (fun h => ?_) (fun h => ?_)
  · have h' : ts.length ≤ k := by omega
    refine ⟨congrArg (int .i64) ?_, congrArg some ?_, rfl, trivial⟩
    · simp [dv, h', mMod]
    · simp [Nat.min_eq_right h', Nat.min_eq_right (Nat.le_succ_of_le h')]
  · have h' : k < ts.length := by omega
    have e : min k ts.length = k := Nat.min_eq_left (by omega)
    have e2 : min (k + 1) ts.length = k + 1 := Nat.min_eq_left (by omega)
    have w1 : IntKind.i64.wrap ((k : Int) + 1) = (k : Int) + 1 := wrap64_in (by omega) (by omega)
    have w2 : IntKind.i64.wrap ((k : Int) + 1 - 1) = (k : Int) := by rw [wrap64_in (by omega) (by omega)]; omega
    skip
    refine ⟨⟨?_, ?_⟩, ?_, ?_⟩
    · rw [e, w1, w2]; omega
    · rw [e, w1, w2]; omega
    · rw [e, w1, w2]; omega
    refine FC.use (mod_fc (ts.getD k 0) n hn) [] (congrArg (fun x => [int .i64 (ts.getD x 0), int .i64 n]) ?_) rfl trivial rfl rfl trivial ?_
    · rw [e, w1, w2]; simp
    refine ⟨by kernel_rfl, ?_⟩
    refine ⟨congrArg (int .i64) ?_, congrArg some ?_, rfl, trivial⟩
    · rfl
    · rw [e, w1, e2]; rfl
end Go.Sx.T1
namespace Go.Sx.T1
open Go.Proofs
set_option maxRecDepth 10000 in
theorem light_fc (ts : List Int) : FC Try.prog 6 [.o (.c (.s 0 0 ts.length 1))] [diceL ts] (boo (decide (ts.length ≤ 400))) [diceL ts] := by
  refine FC.b mix Try.func6 ?_
  exact ⟨congrArg boo (show decide ((ts.length : Int) ≤ 400) = decide (ts.length ≤ 400) by rw [Bool.eq_iff_iff]; simp; omega), rfl, trivial⟩
set_option maxRecDepth 10000 in
theorem roll_fc (ts : List Int) : FC Try.prog 8 [.o (.c (.s 0 0 ts.length 1))] [diceL ts] (.o (.c (.p 1 0 0))) [diceL ts, some ⟨.box [.s 0 0 ts.length 1, .v (.int .i64 0)], true⟩] := by
  refine FC.b mix Try.func8 ?_
  exact ⟨rfl, rfl, rfl, trivial⟩
theorem mMod_bd {n m : Int} (h : 1 ≤ m) : 0 ≤ mMod n m ∧ mMod n m < m := by
  unfold mMod
  rw [if_neg (by omega)]
  exact ⟨Int.emod_nonneg n (by omega), Int.emod_lt_of_pos n (by omega)⟩
theorem dv_bd (ts : List Int) (k : Nat) {n : Int} (h : 1 ≤ n) : 0 ≤ dv ts k n ∧ dv ts k n < n := mMod_bd h

theorem next_x (ts : List Int) (k : Nat) (n : Int) (hn : n < 9223372036854775808) (hl : ts.length ≤ 400) :
    ∃ v, FC Try.prog 9 [.o (.c (.p 0 0 0)), int .i64 n] [diceB ts k, diceL ts] (int .i64 v) [diceB ts (k + 1), diceL ts] ∧ v = dv ts k n := ⟨_, next_fc ts k n hn hl, rfl⟩
end Go.Sx.T1
namespace Go.Sx.T1
open Go.Proofs
def u8s (xs : List Int) (wr : Bool) : Option Blk := some ⟨.ints .u8 xs, wr⟩
set_option maxRecDepth 10000 in
theorem clone_fc (xs : List Int) (n : Nat) (hn : n ≤ xs.length) (h32 : n ≤ 4294967296) :
    FC Try.prog 26 [.o (.c (.s 0 0 n 1))] [u8s xs false] (.o (.c (.s 1 0 n 1))) [u8s xs false, u8s (xs.take n) true] := by
  refine FC.nil3 (fun h0 => ?_) (fun h0 a cap => ?_) (fun k hk => ?_)
  · refine FC.one (FC.r mix Try.func26 ?_)
    subst h0
    exact ⟨(), trivial, isEnd.go [(1, .new 1)] rfl ⟨.inl rfl, ⟨.inr ⟨rfl, Nat.le_refl 1, fun _ h => absurd h (Nat.not_lt_zero _)⟩, rfl⟩, trivial⟩⟩
  · refine FC.one (FC.r mix Try.func26 ?_)
    subst h0
    refine And.intro (by decide) ?_
    exact ⟨(), trivial, .id rfl ⟨.inl rfl, leB.empty rfl rfl rfl rfl id, trivial⟩⟩
  · refine FC.one (FC.r mix Try.func26 ?_)
    subst hk
    refine And.intro ⟨by show 0 + (k + 1) ≤ xs.length; omega, trivial⟩ ?_
    refine And.intro (by omega) ?_
    exact ⟨(), trivial, .id (congrArg (fun n => SV.o (.c (.s 1 0 n 1))) (Nat.zero_add (k + 1))) ⟨.inl rfl, .inl rfl, trivial⟩⟩
set_option maxRecDepth 10000 in
/-- two lists of bytes are compared -/
theorem same4_fc (xs ys : List Int) (n m : Nat) (hn : n ≤ xs.length) (hm : m ≤ ys.length) (h32 : n ≤ 4294967296) :
    FC Try.prog 15 [.o (.c (.s 0 0 n 1)), .o (.c (.s 1 0 m 1))] [u8s xs false, u8s ys false] (boo (decide (xs.take n = ys.take m))) [u8s xs false, u8s ys false] := by
  refine FC.one (FC.r mix Try.func15 ?_)
  refine bselN (fun hne => ?_) (fun he => ?_)
  · have : xs.take n ≠ ys.take m := fun e => hne (by have := congrArg List.length e; rw [List.length_take, List.length_take] at this; omega)
    exact ⟨(), trivial, .id (congrArg boo (by simp [this])) ⟨.inl rfl, .inl rfl, trivial⟩⟩
  have hnm : n = m := by omega
  subst hnm
  refine ALoop.go (X := Nat) (fun i => i ≤ n ∧ ∀ j, j < i → xs.getD j 0 = ys.getD j 0) (fun i => n - i) [0, 1] [0, 1] (fun i => [(5, int .i64 i)]) (fun _ => []) 0 ⟨Nat.zero_le _, fun j h => absurd h (Nat.not_lt_zero _)⟩ ⟨rfl, trivial⟩ trivial ?_
  rintro i ⟨hi, heq⟩
  dsimp only [headF, headM]
  refine bselD (fun hlt => ?_) (fun hge => ?_)
  · have hlt' : i < n := by have : (i : Int) < n := hlt; omega
    have hb1 : 0 ≤ (i : Int) ∧ (i : Int) < (n : Int) := by omega
    refine And.intro hb1 ?_
    refine And.intro (by omega) ?_
    refine And.intro hb1 ?_
    refine And.intro (by omega) ?_
    refine And.intro (by kernel_rfl) ?_
    have e0 : 0 + (i : Int).toNat = i := by omega
    refine bselN (fun hne => ?_) (fun he => ?_)
    · rw [e0] at hne
      have : xs.take n ≠ ys.take n := fun e => hne (by
        have := congrArg (fun l => l.getD i 0) e
        simpa [List.getD, List.getElem?_take_of_lt hlt'] using this)
      exact ⟨(), trivial, .id (congrArg boo (by simp [this])) ⟨.inl rfl, .inl rfl, trivial⟩⟩
    · rw [e0] at he
      exact ⟨i + 1, ⟨⟨by omega, fun j hj => by
        rcases Nat.lt_succ_iff_lt_or_eq.1 hj with h | h
        · exact heq j h
        · subst h; exact he⟩, by simp only; omega⟩, .id ⟨congrArg (int .i64) (wrap64_in (by omega) (by omega)), trivial⟩ rfl trivial rfl⟩
  · have hin : i = n := by have : ¬ (i : Int) < n := hge; omega
    subst hin
    refine ⟨(), trivial, .id (congrArg boo (?_ : true = decide (xs.take i = ys.take i))) ⟨.inl rfl, .inl rfl, trivial⟩⟩
    symm
    rw [decide_eq_true_eq]
    apply List.ext_getElem?
    intro j
    by_cases hj : j < i
    · rw [List.getElem?_take_of_lt hj, List.getElem?_take_of_lt hj]
      have := heq j hj
      rw [List.getD_eq_getElem?_getD, List.getD_eq_getElem?_getD, List.getElem?_eq_getElem (by omega), List.getElem?_eq_getElem (by omega)] at this
      rw [List.getElem?_eq_getElem (by omega), List.getElem?_eq_getElem (by omega)]
      exact congrArg some this
    · rw [List.getElem?_eq_none (by rw [List.length_take]; omega), List.getElem?_eq_none (by rw [List.length_take]; omega)]
end Go.Sx.T1
namespace Go.Sx.T1
open Go.Proofs
def dBytes (ts : List Int) (k n : Nat) : List Int := (List.range n).map fun i => dv ts (k + i) 256
theorem dBytes_length (ts : List Int) (k n : Nat) : (dBytes ts k n).length = n := by simp [dBytes]
theorem dBytes_succ (ts : List Int) (k n : Nat) : dBytes ts k (n + 1) = dBytes ts k n ++ [dv ts (k + n) 256] := by simp [dBytes, List.range_succ]
theorem wrapU8_in {n : Int} (h1 : 0 ≤ n) (h2 : n < 256) : IntKind.u8.wrap n = n := by rw [IntKind.wrap_u8]; omega
set_option maxHeartbeats 1600000 in
set_option maxRecDepth 10000 in
theorem bytes_fc (ts : List Int) (k n : Nat) (hl : ts.length ≤ 400) (hn : n ≤ 100000) :
    FC Try.prog 11 [.o (.c (.p 0 0 0)), int .i64 n] [diceB ts k, diceL ts] (.o (.c (.s 2 0 n 1))) [diceB ts (k + n), diceL ts, u8s (dBytes ts k n) true] := by
  refine FC.one (FC.r mix Try.func11 ?_)
  refine ALoop.goN (X := Nat) (fun i => i ≤ n) (fun i => n - i) [0] [1] (fun i => [(1, int .i64 (n - i : Nat)), (5, .o (.c (.s 2 0 i 1)))])
    (fun i => [(0, ⟨.box [.s 1 0 ts.length 1, .v (.int .i64 (min (k + i) ts.length : Nat))], true⟩), (2, ⟨.ints .u8 (dBytes ts k i), true⟩)]) 0 3 (Nat.zero_le _)
    (isAt.go [(2, .new 1)] ⟨rfl, rfl, trivial⟩ ⟨.inl rfl, ⟨.inr ⟨rfl, Nat.le_refl 1, fun _ h => absurd h (Nat.not_lt_zero _)⟩, rfl⟩, trivial⟩) ?_
  intro i hi
  dsimp only [headF, headM]
  refine bselD (fun hgt => ?_) (fun hle => ?_)
  · have hlt : i < n := by have : ((n - i : Nat) : Int) > 0 := hgt; omega
    refine FC.u (next_fc ts (k + i) 256 (by omega) hl) [0, 1] ?_
    have hb := dv_bd ts (k + i) (n := 256) (by omega)
    refine And.intro ⟨by show 0 + i ≤ (dBytes ts k i).length; rw [dBytes_length]; omega, trivial⟩ ?_
    refine And.intro ⟨by show 0 + 1 ≤ 1; omega, trivial⟩ ?_
    refine And.intro (by omega) ?_
    have e1 : IntKind.i64.wrap (((n - i : Nat) : Int) - 1) = ((n - (i + 1) : Nat) : Int) := by rw [wrap64_in (by omega) (by omega)]; omega
    have e2 : ((dBytes ts k i).drop 0).take i ++ [IntKind.u8.wrap (dv ts (k + i) 256)] = dBytes ts k (i + 1) := by
      rw [dBytes_succ, wrapU8_in hb.1 hb.2, List.drop_zero, List.take_of_length_le (by rw [dBytes_length]; exact Nat.le_refl _)]
    exact ⟨i + 1, ⟨hlt, by simp only; omega⟩, isAt.go [(2, .to 4)] ⟨congrArg (int .i64) e1, rfl, trivial⟩ ⟨.inl rfl, .inl (congrArg (fun x => some (⟨.ints .u8 x, true⟩ : Blk)) e2), trivial⟩⟩
  · have hin : i = n := by have : ¬ ((n - i : Nat) : Int) > 0 := hle; omega
    subst hin
    exact ⟨(), trivial, .id rfl ⟨.inl rfl, .inl rfl, .inl rfl, trivial⟩⟩
end Go.Sx.T1
namespace Go.Sx.T1
open Go.Proofs
def validD (xs : List Int) (sy : Int) : Bool := decide (xs.length ≤ 16384) && (decide (0 ≤ sy) && decide (sy ≤ xs.length))
def dvS (nm : Nat) (xs : List Int) (sy : Int) : V1 := .a [.s nm 0 xs.length 1, .v (.int .i64 sy)]
theorem clone_full (xs : List Int) (h32 : xs.length ≤ 4294967296) :
    FC Try.prog 26 [.o (.c (.s 0 0 xs.length 1))] [u8s xs false] (.o (.c (.s 1 0 xs.length 1))) [u8s xs false, u8s xs true] := by
  have := clone_fc xs xs.length (Nat.le_refl _) h32
  rwa [List.take_length] at this
set_option maxRecDepth 10000 in
theorem validD_fc (xs : List Int) (sy : Int) : FC Try.prog 14 [.o (dvS 0 xs sy)] [u8s xs false] (boo (validD xs sy)) [u8s xs false] := by
  refine FC.b mix Try.func14 ?_
  refine bselD (fun h1 => ?_) (fun h1 => ?_)
  · have h1' : xs.length ≤ 16384 := by have : (xs.length : Int) ≤ 16384 := h1; omega
    refine bselD (fun h2 => ?_) (fun h2 => ?_)
    · exact ⟨congrArg boo (show decide (sy ≤ (xs.length : Int)) = validD xs sy by simp [validD, h1', show 0 ≤ sy from h2]), rfl, trivial⟩
    · exact ⟨congrArg boo (show false = validD xs sy by simp [validD, show ¬ 0 ≤ sy from h2]), rfl, trivial⟩
  · have h1' : ¬ xs.length ≤ 16384 := by have : ¬ (xs.length : Int) ≤ 16384 := h1; omega
    exact ⟨congrArg boo (show false = validD xs sy by simp [validD, h1']), rfl, trivial⟩
set_option maxRecDepth 10000 in
theorem validDR_fc (xs : List Int) (sy : Int) : FC Try.prog 25 [.o (dvS 0 xs sy)] [u8s xs false] (boo (validD xs sy)) [u8s xs false] := by
  refine FC.b mix Try.func25 ?_
  refine bselD (fun h1 => ?_) (fun h1 => ?_)
  · have h1' : xs.length ≤ 16384 := by have : (xs.length : Int) ≤ 16384 := h1; omega
    refine bselD (fun h2 => ?_) (fun h2 => ?_)
    · exact ⟨congrArg boo (show decide (sy ≤ (xs.length : Int)) = validD xs sy by simp [validD, h1', show 0 ≤ sy from h2]), rfl, trivial⟩
    · exact ⟨congrArg boo (show false = validD xs sy by simp [validD, show ¬ 0 ≤ sy from h2]), rfl, trivial⟩
  · have h1' : ¬ xs.length ≤ 16384 := by have : ¬ (xs.length : Int) ≤ 16384 := h1; omega
    exact ⟨congrArg boo (show false = validD xs sy by simp [validD, h1']), rfl, trivial⟩
set_option maxRecDepth 10000 in
theorem private_fc (xs : List Int) (sy : Int) (h32 : xs.length ≤ 4294967296) : FC Try.prog 20 [.o (dvS 0 xs sy)] [u8s xs false] (.o (dvS 1 xs sy)) [u8s xs false, u8s xs true] := by
  refine FC.one (FC.r mix Try.func20 ?_)
  refine FC.u (clone_full xs h32) [0] ?_
  exact ⟨(), trivial, isEnd.go [(1, .to 3)] rfl ⟨.inl rfl, .inl rfl, trivial⟩⟩
set_option maxRecDepth 10000 in
theorem copy_fc (xs : List Int) (sy : Int) (h32 : xs.length ≤ 4294967296) : FC Try.prog 27 [.o (dvS 0 xs sy)] [u8s xs false] (.o (dvS 1 xs sy)) [u8s xs false, u8s xs true] := by
  refine FC.one (FC.r mix Try.func27 ?_)
  refine And.intro ⟨by show 0 + xs.length ≤ xs.length; omega, trivial⟩ ?_
  refine And.intro (by omega) ?_
  exact ⟨(), trivial, isEnd.go [(1, .to 3)] (congrArg (fun n => SV.o (.a [.s 3 0 n 1, .v (.int .i64 sy)])) (Nat.zero_add xs.length)) ⟨.inl rfl, .inl (congrArg (fun x => some (⟨.ints .u8 x, true⟩ : Blk)) (List.take_length (l := xs))), trivial⟩⟩
end Go.Sx.T1
namespace Go.Sx.T1
open Go.Proofs
structure DR where
  d : List Int
  sy : Int
  e : Int
def drV (nm : Nat) (r : DR) : SV := .t [dvS nm r.d r.sy, .c (.v (.int .i64 r.e))]
def appD (xs : List Int) (sy : Int) (bs : List Int) : DR := if validD xs sy = false then ⟨xs, sy, 1⟩ else if 16384 < xs.length + bs.length then ⟨xs, sy, 16⟩ else ⟨xs ++ bs, sy, 0⟩
def syncD (xs : List Int) (sy : Int) : DR := if validD xs sy = false then ⟨xs, sy, 1⟩ else ⟨xs, xs.length, 0⟩
def cutD (xs : List Int) (sy n : Int) : DR := if validD xs sy = false then ⟨xs, sy, 1⟩ else if n < 0 ∨ (xs.length : Int) < n then ⟨xs, sy, 2⟩ else ⟨xs.take n.toNat, (if n < sy then n else sy), 0⟩
theorem validD_le {xs : List Int} {sy : Int} (h : validD xs sy = true) : xs.length ≤ 16384 ∧ 0 ≤ sy ∧ sy ≤ xs.length := by
  simp only [validD, Bool.and_eq_true, decide_eq_true_eq] at h; exact h
theorem wd {n : Nat} (h : n ≤ 16384) : IntKind.i64.wrap (16384 - (n : Int)) = 16384 - n := wrap64_in (by omega) (by omega)
theorem cat_eq (xs bs : List Int) : (xs.drop 0).take xs.length ++ (bs.drop 0).take bs.length = xs ++ bs := by simp
set_option maxHeartbeats 1600000 in
set_option maxRecDepth 10000 in
theorem append_fc (xs : List Int) (sy : Int) (bs : List Int) (h32 : xs.length ≤ 2147483648) (hb32 : bs.length ≤ 2147483648) :
    FC Try.prog 10 [.o (dvS 0 xs sy), .o (.c (.s 1 0 bs.length 1))] [u8s xs false, u8s bs false] (drV 2 (appD xs sy bs)) [u8s xs false, u8s bs false, u8s (appD xs sy bs).d true] := by
  refine FC.one (FC.r mix Try.func10 ?_)
  refine FC.u (private_fc xs sy (by omega)) [0] ?_
  refine FC.u (validD_fc xs sy) [0] ?_
  refine bselNot ?_
  refine bsel_intro (fun h => ?_) (fun h => ?_)
  rotate_left
  · have e : appD xs sy bs = ⟨xs, sy, 1⟩ := by simp [appD, h]
    rw [e]
    exact ⟨(), trivial, isEnd.go [(2, .to 4)] rfl ⟨.inl rfl, .inl rfl, .inl rfl, trivial⟩⟩
  have hv := validD_le h
  refine bselD (fun h1 => ?_) (fun h1 => ?_)
  · replace h1 : (bs.length : Int) > IntKind.i64.wrap (16384 - xs.length) := h1
    rw [wd hv.1] at h1
    have e : appD xs sy bs = ⟨xs, sy, 16⟩ := by simp [appD, h, show 16384 < xs.length + bs.length by omega]
    rw [e]
    exact ⟨(), trivial, isEnd.go [(2, .to 4)] rfl ⟨.inl rfl, .inl rfl, .inl rfl, trivial⟩⟩
  · replace h1 : ¬ (bs.length : Int) > IntKind.i64.wrap (16384 - xs.length) := h1
    rw [wd hv.1] at h1
    have e : appD xs sy bs = ⟨xs ++ bs, sy, 0⟩ := by simp [appD, h, show ¬ 16384 < xs.length + bs.length by omega]
    rw [e]
    refine And.intro ⟨by show 0 + xs.length ≤ xs.length; omega, trivial⟩ ?_
    refine And.intro ⟨by show 0 + bs.length ≤ bs.length; omega, trivial⟩ ?_
    refine And.intro (by omega) ?_
    exact ⟨(), trivial, isEnd.go [(2, .to 6)] (congrArg (fun n => SV.t [.a [.s 6 0 n 1, .v (.int .i64 sy)], .c (.v (.int .i64 0))]) (show xs.length + bs.length = (xs ++ bs).length by simp))
      ⟨.inl rfl, .inl rfl, .inl (congrArg (fun x => some (⟨.ints .u8 x, true⟩ : Blk)) (cat_eq xs bs)), trivial⟩⟩
set_option maxHeartbeats 1600000 in
set_option maxRecDepth 10000 in
theorem appendR_fc (xs : List Int) (sy : Int) (bs : List Int) (h32 : xs.length ≤ 2147483648) (hb32 : bs.length ≤ 2147483648) :
    FC Try.prog 21 [.o (dvS 0 xs sy), .o (.c (.s 1 0 bs.length 1))] [u8s xs false, u8s bs false] (drV 2 (appD xs sy bs)) [u8s xs false, u8s bs false, u8s (appD xs sy bs).d true] := by
  refine FC.one (FC.r mix Try.func21 ?_)
  refine FC.u (validDR_fc xs sy) [0] ?_
  refine bselNot ?_
  refine bsel_intro (fun h => ?_) (fun h => ?_)
  rotate_left
  · have e : appD xs sy bs = ⟨xs, sy, 1⟩ := by simp [appD, h]
    rw [e]
    refine FC.u (copy_fc xs sy (by omega)) [0] ?_
    exact ⟨(), trivial, isEnd.go [(2, .to 4)] rfl ⟨.inl rfl, .inl rfl, .inl rfl, trivial⟩⟩
  have hv := validD_le h
  have w2 : IntKind.i64.wrap ((xs.length : Int) + bs.length) = (xs.length : Int) + bs.length := wrap64_in (by omega) (by omega)
  refine bselD (fun h1 => ?_) (fun h1 => ?_)
  · replace h1 : IntKind.i64.wrap ((xs.length : Int) + bs.length) > 16384 := h1
    rw [w2] at h1
    have e : appD xs sy bs = ⟨xs, sy, 16⟩ := by simp [appD, h, show 16384 < xs.length + bs.length by omega]
    rw [e]
    refine FC.u (copy_fc xs sy (by omega)) [0] ?_
    exact ⟨(), trivial, isEnd.go [(2, .to 4)] rfl ⟨.inl rfl, .inl rfl, .inl rfl, trivial⟩⟩
  · replace h1 : ¬ IntKind.i64.wrap ((xs.length : Int) + bs.length) > 16384 := h1
    rw [w2] at h1
    have e : appD xs sy bs = ⟨xs ++ bs, sy, 0⟩ := by simp [appD, h, show ¬ 16384 < xs.length + bs.length by omega]
    rw [e]
    refine FC.u (copy_fc xs sy (by omega)) [0] ?_
    refine And.intro ⟨by show 0 + xs.length ≤ xs.length; omega, trivial⟩ ?_
    refine And.intro ⟨by show 0 + bs.length ≤ bs.length; omega, trivial⟩ ?_
    refine And.intro (by omega) ?_
    exact ⟨(), trivial, isEnd.go [(2, .to 5)] (congrArg (fun n => SV.t [.a [.s 5 0 n 1, .v (.int .i64 sy)], .c (.v (.int .i64 0))]) (show xs.length + bs.length = (xs ++ bs).length by simp))
      ⟨.inl rfl, .inl rfl, .inl (congrArg (fun x => some (⟨.ints .u8 x, true⟩ : Blk)) (cat_eq xs bs)), trivial⟩⟩
end Go.Sx.T1
namespace Go.Sx.T1
open Go.Proofs
set_option maxHeartbeats 1600000 in
set_option maxRecDepth 10000 in
theorem sync_fc (xs : List Int) (sy : Int) (h32 : xs.length ≤ 2147483648) :
    FC Try.prog 12 [.o (dvS 0 xs sy)] [u8s xs false] (drV 1 (syncD xs sy)) [u8s xs false, u8s (syncD xs sy).d true] := by
  refine FC.one (FC.r mix Try.func12 ?_)
  refine FC.u (private_fc xs sy (by omega)) [0] ?_
  refine FC.u (validD_fc xs sy) [0] ?_
  refine bselNot ?_
  refine bsel_intro (fun h => ?_) (fun h => ?_)
  · have e : syncD xs sy = ⟨xs, xs.length, 0⟩ := by simp [syncD, h]
    rw [e]
    exact ⟨(), trivial, isEnd.go [(1, .to 3)] rfl ⟨.inl rfl, .inl rfl, trivial⟩⟩
  · have e : syncD xs sy = ⟨xs, sy, 1⟩ := by simp [syncD, h]
    rw [e]
    exact ⟨(), trivial, isEnd.go [(1, .to 3)] rfl ⟨.inl rfl, .inl rfl, trivial⟩⟩
set_option maxHeartbeats 1600000 in
set_option maxRecDepth 10000 in
theorem syncR_fc (xs : List Int) (sy : Int) (h32 : xs.length ≤ 2147483648) :
    FC Try.prog 24 [.o (dvS 0 xs sy)] [u8s xs false] (drV 1 (syncD xs sy)) [u8s xs false, u8s (syncD xs sy).d true] := by
  refine FC.one (FC.r mix Try.func24 ?_)
  refine FC.u (validDR_fc xs sy) [0] ?_
  refine bselNot ?_
  refine bsel_intro (fun h => ?_) (fun h => ?_)
  · have e : syncD xs sy = ⟨xs, xs.length, 0⟩ := by simp [syncD, h]
    rw [e]
    refine FC.u (copy_fc xs sy (by omega)) [0] ?_
    exact ⟨(), trivial, isEnd.go [(1, .to 3)] rfl ⟨.inl rfl, .inl rfl, trivial⟩⟩
  · have e : syncD xs sy = ⟨xs, sy, 1⟩ := by simp [syncD, h]
    rw [e]
    refine FC.u (copy_fc xs sy (by omega)) [0] ?_
    exact ⟨(), trivial, isEnd.go [(1, .to 3)] rfl ⟨.inl rfl, .inl rfl, trivial⟩⟩
theorem take_len {xs : List Int} {n : Int} (h0 : 0 ≤ n) (h1 : n ≤ xs.length) : n.toNat = (xs.take n.toNat).length := by rw [List.length_take]; omega
set_option maxHeartbeats 1600000 in
set_option maxRecDepth 10000 in
theorem cut_fc (xs : List Int) (sy n : Int) (h32 : xs.length ≤ 2147483648) :
    FC Try.prog 18 [.o (dvS 0 xs sy), int .i64 n] [u8s xs false] (drV 1 (cutD xs sy n)) [u8s xs false, u8s (cutD xs sy n).d true] := by
  refine FC.one (FC.r mix Try.func18 ?_)
  refine FC.u (private_fc xs sy (by omega)) [0] ?_
  refine FC.u (validD_fc xs sy) [0] ?_
  refine bselNot ?_
  refine bsel_intro (fun h => ?_) (fun h => ?_)
  rotate_left
  · have e : cutD xs sy n = ⟨xs, sy, 1⟩ := by simp [cutD, h]
    rw [e]
    exact ⟨(), trivial, isEnd.go [(1, .to 3)] rfl ⟨.inl rfl, .inl rfl, trivial⟩⟩
  have hv := validD_le h
  refine bselD (fun h1 => ?_) (fun h1 => ?_)
  · have e : cutD xs sy n = ⟨xs, sy, 2⟩ := by simp [cutD, h, show n < 0 from h1]
    rw [e]
    exact ⟨(), trivial, isEnd.go [(1, .to 3)] rfl ⟨.inl rfl, .inl rfl, trivial⟩⟩
  refine bselD (fun h2 => ?_) (fun h2 => ?_)
  · have e : cutD xs sy n = ⟨xs, sy, 2⟩ := by simp [cutD, h, show (xs.length : Int) < n from h2]
    rw [e]
    exact ⟨(), trivial, isEnd.go [(1, .to 3)] rfl ⟨.inl rfl, .inl rfl, trivial⟩⟩
  replace h1 : ¬ n < 0 := h1
  replace h2 : ¬ n > xs.length := h2
  have e : cutD xs sy n = ⟨xs.take n.toNat, (if n < sy then n else sy), 0⟩ := by simp [cutD, h, show ¬ (n < 0 ∨ (xs.length : Int) < n) by omega]
  rw [e]
  refine And.intro ⟨by omega, rfl, by omega⟩ ?_
  refine And.intro (by kernel_rfl) ?_
  have el := take_len (xs := xs) (n := n) (by omega) (by omega)
  exact ⟨(), trivial, isEnd.go [(1, .to 3)] (congrArg (fun k => SV.t [.a [.s 3 0 k 1, .v (.int .i64 (if n < sy then n else sy))], .c (.v (.int .i64 0))]) el) ⟨.inl rfl, leB.take _ id, trivial⟩⟩
set_option maxHeartbeats 1600000 in
set_option maxRecDepth 10000 in
theorem cutR_fc (xs : List Int) (sy n : Int) (h32 : xs.length ≤ 2147483648) :
    FC Try.prog 22 [.o (dvS 0 xs sy), int .i64 n] [u8s xs false] (drV 1 (cutD xs sy n)) [u8s xs false, u8s (cutD xs sy n).d true] := by
  refine FC.one (FC.r mix Try.func22 ?_)
  refine FC.u (validDR_fc xs sy) [0] ?_
  refine bselNot ?_
  refine bsel_intro (fun h => ?_) (fun h => ?_)
  rotate_left
  · have e : cutD xs sy n = ⟨xs, sy, 1⟩ := by simp [cutD, h]
    rw [e]
    refine FC.u (copy_fc xs sy (by omega)) [0] ?_
    exact ⟨(), trivial, isEnd.go [(1, .to 3)] rfl ⟨.inl rfl, .inl rfl, trivial⟩⟩
  have hv := validD_le h
  refine bselD (fun h1 => ?_) (fun h1 => ?_)
  · have e : cutD xs sy n = ⟨xs, sy, 2⟩ := by simp [cutD, h, show n < 0 from h1]
    rw [e]
    refine FC.u (copy_fc xs sy (by omega)) [0] ?_
    exact ⟨(), trivial, isEnd.go [(1, .to 3)] rfl ⟨.inl rfl, .inl rfl, trivial⟩⟩
  refine bselD (fun h2 => ?_) (fun h2 => ?_)
  · have e : cutD xs sy n = ⟨xs, sy, 2⟩ := by simp [cutD, h, show (xs.length : Int) < n from h2]
    rw [e]
    refine FC.u (copy_fc xs sy (by omega)) [0] ?_
    exact ⟨(), trivial, isEnd.go [(1, .to 3)] rfl ⟨.inl rfl, .inl rfl, trivial⟩⟩
  replace h1 : ¬ n < 0 := h1
  replace h2 : ¬ n > xs.length := h2
  have e : cutD xs sy n = ⟨xs.take n.toNat, (if n < sy then n else sy), 0⟩ := by simp [cutD, h, show ¬ (n < 0 ∨ (xs.length : Int) < n) by omega]
  rw [e]
  refine FC.u (copy_fc xs sy (by omega)) [0] ?_
  refine And.intro (by omega) ?_
  have el := take_len (xs := xs) (n := n) (by omega) (by omega)
  refine bselD (fun h3 => ?_) (fun h3 => ?_)
  · replace h3 : sy > n := h3
    rw [if_pos (show n < sy by omega)]
    exact ⟨(), trivial, isEnd.go [(1, .to 3)] (congrArg (fun k => SV.t [.a [.s 3 0 k 1, .v (.int .i64 n)], .c (.v (.int .i64 0))]) el) ⟨.inl rfl, leB.take _ id, trivial⟩⟩
  · replace h3 : ¬ sy > n := h3
    rw [if_neg (show ¬ n < sy by omega)]
    exact ⟨(), trivial, isEnd.go [(1, .to 3)] (congrArg (fun k => SV.t [.a [.s 3 0 k 1, .v (.int .i64 sy)], .c (.v (.int .i64 0))]) el) ⟨.inl rfl, leB.take _ id, trivial⟩⟩
end Go.Sx.T1
namespace Go.Sx.T1
open Go.Proofs
def x255 (v : Int) : Int := bitI .xor .u8 v 255
def flipR (xs : List Int) (lo hi : Nat) : List Int := (List.range xs.length).map fun j => if lo ≤ j ∧ j < hi then x255 (xs.getD j 0) else xs.getD j 0
theorem flipR_length (xs : List Int) (lo hi : Nat) : (flipR xs lo hi).length = xs.length := by simp [flipR]
theorem flipR_get {xs : List Int} {lo hi j : Nat} (hj : j < xs.length) : (flipR xs lo hi)[j]? = some (if lo ≤ j ∧ j < hi then x255 (xs.getD j 0) else xs.getD j 0) := by simp [flipR, hj]
theorem flipR_none (xs : List Int) (lo hi : Nat) (h : hi ≤ lo) : flipR xs lo hi = xs := by
  apply List.ext_getElem?
  intro j
  by_cases hj : j < xs.length
  · rw [flipR_get hj, if_neg (by omega), List.getElem?_eq_getElem hj, List.getD_eq_getElem?_getD, List.getElem?_eq_getElem hj]; rfl
  · rw [List.getElem?_eq_none (by rw [flipR_length]; omega), List.getElem?_eq_none (by omega)]
theorem flipR_step {xs : List Int} {lo i : Nat} (hi : i < xs.length) (hlo : lo ≤ i) : (flipR xs lo i).set i (x255 ((flipR xs lo i).getD i 0)) = flipR xs lo (i + 1) := by
  apply List.ext_getElem?
  intro j
  have e : (flipR xs lo i).getD i 0 = xs.getD i 0 := by rw [List.getD_eq_getElem?_getD, flipR_get hi, if_neg (by omega)]; rfl
  by_cases hj : j < xs.length
  · rw [flipR_get hj, List.getElem?_set]
    by_cases hij : i = j
    · subst hij
      rw [if_pos rfl, if_pos (by rw [flipR_length]; exact hi), if_pos (by omega), e]
    · rw [if_neg hij, flipR_get hj]
      congr 1
      by_cases h1 : lo ≤ j ∧ j < i
      · rw [if_pos h1, if_pos (by omega)]
      · rw [if_neg h1, if_neg (by omega)]
  · rw [List.getElem?_eq_none (by rw [List.length_set, flipR_length]; omega), List.getElem?_eq_none (by rw [flipR_length]; omega)]
def crashD (xs : List Int) (sy keep spoil : Int) : DR :=
  if validD xs sy = false then ⟨xs, sy, 1⟩
  else if keep < 0 ∨ keep > (xs.length : Int) - sy ∨ spoil < 0 ∨ spoil > keep then ⟨xs, sy, 2⟩
  else ⟨(flipR xs (sy + keep - spoil).toNat (sy + keep).toNat).take (sy + keep).toNat, sy + keep, 0⟩
set_option maxHeartbeats 1600000 in
set_option maxRecDepth 10000 in
theorem crash_fc (xs : List Int) (sy keep spoil : Int) (h32 : xs.length ≤ 2147483648) :
    FC Try.prog 13 [.o (dvS 0 xs sy), int .i64 keep, int .i64 spoil] [u8s xs false] (drV 1 (crashD xs sy keep spoil)) [u8s xs false, u8s (crashD xs sy keep spoil).d true] := by
  refine FC.one (FC.r mix Try.func13 ?_)
  refine FC.u (private_fc xs sy (by omega)) [0] ?_
  refine FC.u (validD_fc xs sy) [0] ?_
  refine bselNot ?_
  refine bsel_intro (fun h => ?_) (fun h => ?_)
  rotate_left
  · have e : crashD xs sy keep spoil = ⟨xs, sy, 1⟩ := by simp [crashD, h]
    rw [e]
    exact ⟨(), trivial, isEnd.go [(1, .to 3)] rfl ⟨.inl rfl, .inl rfl, trivial⟩⟩
  have hv := validD_le h
  have bad : (keep < 0 ∨ keep > (xs.length : Int) - sy ∨ spoil < 0 ∨ spoil > keep) → crashD xs sy keep spoil = ⟨xs, sy, 2⟩ := fun hb => by simp [crashD, h, hb]
  have w1 : IntKind.i64.wrap ((xs.length : Int) - sy) = (xs.length : Int) - sy := wrap64_in (by omega) (by omega)
  refine bselD (fun h1 => ?_) (fun h1 => ?_)
  · rw [bad (.inl h1)]
    exact ⟨(), trivial, isEnd.go [(1, .to 3)] rfl ⟨.inl rfl, .inl rfl, trivial⟩⟩
  refine bselD (fun h2 => ?_) (fun h2 => ?_)
  · replace h2 : keep > IntKind.i64.wrap ((xs.length : Int) - sy) := h2
    rw [w1] at h2
    rw [bad (.inr (.inl h2))]
    exact ⟨(), trivial, isEnd.go [(1, .to 3)] rfl ⟨.inl rfl, .inl rfl, trivial⟩⟩
  refine bselD (fun h3 => ?_) (fun h3 => ?_)
  · rw [bad (.inr (.inr (.inl h3)))]
    exact ⟨(), trivial, isEnd.go [(1, .to 3)] rfl ⟨.inl rfl, .inl rfl, trivial⟩⟩
  refine bselD (fun h4 => ?_) (fun h4 => ?_)
  · rw [bad (.inr (.inr (.inr h4)))]
    exact ⟨(), trivial, isEnd.go [(1, .to 3)] rfl ⟨.inl rfl, .inl rfl, trivial⟩⟩
  replace h1 : ¬ keep < 0 := h1
  replace h2 : ¬ keep > IntKind.i64.wrap ((xs.length : Int) - sy) := h2
  rw [w1] at h2
  replace h3 : ¬ spoil < 0 := h3
  replace h4 : ¬ spoil > keep := h4
  have good : crashD xs sy keep spoil = ⟨(flipR xs (sy + keep - spoil).toNat (sy + keep).toNat).take (sy + keep).toNat, sy + keep, 0⟩ := by
    simp [crashD, h, show ¬ (keep < 0 ∨ keep > (xs.length : Int) - sy ∨ spoil < 0 ∨ spoil > keep) by omega]
  rw [good]
  conv => whnf
  have hn : IntKind.i64.wrap (sy + keep) = sy + keep := wrap64_in (by omega) (by omega)
  generalize IntKind.i64.wrap (sy + keep) = n at *
  subst hn
  refine And.intro ⟨by omega, rfl, by omega⟩ ?_
  first | refine And.intro (by kernel_rfl) ?_ | skip
  have hlo : IntKind.i64.wrap (sy + keep - spoil) = (((sy + keep - spoil).toNat : Nat) : Int) := by rw [wrap64_in (by omega) (by omega)]; omega
  refine ALoop.go (X := Nat) (fun i => (sy + keep - spoil).toNat ≤ i ∧ i ≤ (sy + keep).toNat) (fun i => (sy + keep).toNat - i) [6, 8, 9] [0, 2, 4] (fun i => [(10, int .i64 i)])
    (fun i => [(3, ⟨.ints .u8 (flipR xs (sy + keep - spoil).toNat i), true⟩)]) (sy + keep - spoil).toNat ⟨Nat.le_refl _, by omega⟩ ⟨congrArg (int .i64) hlo, trivial⟩
    ⟨.inl (congrArg (fun x => some (⟨.ints .u8 x, true⟩ : Blk)) (flipR_none xs _ _ (Nat.le_refl _)).symm), trivial⟩ ?_
  rintro i ⟨hi1, hi2⟩
  dsimp only [headF, headM]
  refine bselD (fun hlt => ?_) (fun hge => ?_)
  · replace hlt : (i : Int) < sy + keep := hlt
    repeat (first | refine And.intro (by kernel_rfl) ?_ | refine And.intro (by first | omega | (rw [flipR_length]; omega)) ?_)
    have e0 : 0 + (i : Int).toNat = i := by omega
    have hst : (flipR xs (sy + keep - spoil).toNat i).set (0 + (i : Int).toNat) (bitI .xor .u8 ((flipR xs (sy + keep - spoil).toNat i).getD (0 + (i : Int).toNat) 0) 255) = flipR xs (sy + keep - spoil).toNat (i + 1) := by
      rw [e0]; exact flipR_step (by omega) hi1
    exact ⟨i + 1, ⟨⟨by omega, by omega⟩, by simp only; omega⟩, .id ⟨congrArg (int .i64) (wrap64_in (by omega) (by omega)), trivial⟩ rfl ⟨.inl (congrArg (fun x => some (⟨.ints .u8 x, true⟩ : Blk)) hst), trivial⟩ rfl⟩
  · replace hge : ¬ (i : Int) < sy + keep := hge
    have hi : i = (sy + keep).toNat := by omega
    subst hi
    have hnn : (sy + keep).toNat = ((flipR xs (sy + keep - spoil).toNat (sy + keep).toNat).take (sy + keep).toNat).length := by rw [List.length_take, flipR_length]; omega
    exact ⟨(), trivial, isEnd.go [(1, .to 3)] (congrArg (fun k => SV.t [.a [.s 3 0 k 1, .v (.int .i64 (sy + keep))], .c (.v (.int .i64 0))]) hnn) ⟨.inl rfl, leB.take _ id, trivial⟩⟩
end Go.Sx.T1
namespace Go.Sx.T1
open Go.Proofs
set_option maxHeartbeats 1600000 in
set_option maxRecDepth 10000 in
theorem crashR_fc (xs : List Int) (sy keep spoil : Int) (h32 : xs.length ≤ 2147483648) :
    FC Try.prog 23 [.o (dvS 0 xs sy), int .i64 keep, int .i64 spoil] [u8s xs false] (drV 1 (crashD xs sy keep spoil)) [u8s xs false, u8s (crashD xs sy keep spoil).d true] := by
  refine FC.one (FC.r mix Try.func23 ?_)
  refine FC.u (validDR_fc xs sy) [0] ?_
  refine bselNot ?_
  refine bsel_intro (fun h => ?_) (fun h => ?_)
  rotate_left
  · have e : crashD xs sy keep spoil = ⟨xs, sy, 1⟩ := by simp [crashD, h]
    rw [e]
    refine FC.u (copy_fc xs sy (by omega)) [0] ?_
    exact ⟨(), trivial, isEnd.go [(1, .to 3)] rfl ⟨.inl rfl, .inl rfl, trivial⟩⟩
  have hv := validD_le h
  have bad : (keep < 0 ∨ keep > (xs.length : Int) - sy ∨ spoil < 0 ∨ spoil > keep) → crashD xs sy keep spoil = ⟨xs, sy, 2⟩ := fun hb => by simp [crashD, h, hb]
  have w1 : IntKind.i64.wrap ((xs.length : Int) - sy) = (xs.length : Int) - sy := wrap64_in (by omega) (by omega)
  refine bselD (fun h1 => ?_) (fun h1 => ?_)
  · rw [bad (.inl h1)]
    refine FC.u (copy_fc xs sy (by omega)) [0] ?_
    exact ⟨(), trivial, isEnd.go [(1, .to 3)] rfl ⟨.inl rfl, .inl rfl, trivial⟩⟩
  refine bselD (fun h2 => ?_) (fun h2 => ?_)
  · replace h2 : keep > IntKind.i64.wrap ((xs.length : Int) - sy) := h2
    rw [w1] at h2
    rw [bad (.inr (.inl h2))]
    refine FC.u (copy_fc xs sy (by omega)) [0] ?_
    exact ⟨(), trivial, isEnd.go [(1, .to 3)] rfl ⟨.inl rfl, .inl rfl, trivial⟩⟩
  refine bselD (fun h3 => ?_) (fun h3 => ?_)
  · rw [bad (.inr (.inr (.inl h3)))]
    refine FC.u (copy_fc xs sy (by omega)) [0] ?_
    exact ⟨(), trivial, isEnd.go [(1, .to 3)] rfl ⟨.inl rfl, .inl rfl, trivial⟩⟩
  refine bselD (fun h4 => ?_) (fun h4 => ?_)
  · rw [bad (.inr (.inr (.inr h4)))]
    refine FC.u (copy_fc xs sy (by omega)) [0] ?_
    exact ⟨(), trivial, isEnd.go [(1, .to 3)] rfl ⟨.inl rfl, .inl rfl, trivial⟩⟩
  replace h1 : ¬ keep < 0 := h1
  replace h2 : ¬ keep > IntKind.i64.wrap ((xs.length : Int) - sy) := h2
  rw [w1] at h2
  replace h3 : ¬ spoil < 0 := h3
  replace h4 : ¬ spoil > keep := h4
  have good : crashD xs sy keep spoil = ⟨(flipR xs (sy + keep - spoil).toNat (sy + keep).toNat).take (sy + keep).toNat, sy + keep, 0⟩ := by
    simp [crashD, h, show ¬ (keep < 0 ∨ keep > (xs.length : Int) - sy ∨ spoil < 0 ∨ spoil > keep) by omega]
  rw [good]
  refine FC.u (copy_fc xs sy (by omega)) [0] ?_
  conv => whnf
  have hn : IntKind.i64.wrap (sy + keep) = sy + keep := wrap64_in (by omega) (by omega)
  generalize IntKind.i64.wrap (sy + keep) = n at *
  subst hn
  repeat (first | refine And.intro (by kernel_rfl) ?_ | refine And.intro (by first | omega | exact ⟨by omega, rfl, by omega⟩) ?_)
  have hlo : IntKind.i64.wrap (((sy + keep).toNat : Int) - spoil) = (((sy + keep - spoil).toNat : Nat) : Int) := by rw [wrap64_in (by omega) (by omega)]; omega
  refine ALoop.go (X := Nat) (fun i => (sy + keep - spoil).toNat ≤ i ∧ i ≤ (sy + keep).toNat) (fun i => (sy + keep).toNat - i) [3, 6] [0, 1, 2] (fun i => [(8, int .i64 i)])
    (fun i => [(3, ⟨.ints .u8 (flipR xs (sy + keep - spoil).toNat i), true⟩)]) (sy + keep - spoil).toNat ⟨Nat.le_refl _, by omega⟩ ⟨congrArg (int .i64) hlo, trivial⟩
    ⟨.inl (congrArg (fun x => some (⟨.ints .u8 x, true⟩ : Blk)) (flipR_none xs _ _ (Nat.le_refl _)).symm), trivial⟩ ?_
  rintro i ⟨hi1, hi2⟩
  dsimp only [headF, headM]
  refine bselD (fun hlt => ?_) (fun hge => ?_)
  · replace hlt : (i : Int) < ((sy + keep).toNat : Int) := hlt
    repeat (first | refine And.intro (by kernel_rfl) ?_ | refine And.intro (by first | omega | (rw [flipR_length]; omega)) ?_)
    have e0 : 0 + (i : Int).toNat = i := by omega
    have hst : (flipR xs (sy + keep - spoil).toNat i).set (0 + (i : Int).toNat) (bitI .xor .u8 ((flipR xs (sy + keep - spoil).toNat i).getD (0 + (i : Int).toNat) 0) 255) = flipR xs (sy + keep - spoil).toNat (i + 1) := by
      rw [e0]; exact flipR_step (by omega) hi1
    exact ⟨i + 1, ⟨⟨by omega, by omega⟩, by simp only; omega⟩, .id ⟨congrArg (int .i64) (wrap64_in (by omega) (by omega)), trivial⟩ rfl ⟨.inl (congrArg (fun x => some (⟨.ints .u8 x, true⟩ : Blk)) hst), trivial⟩ rfl⟩
  · replace hge : ¬ (i : Int) < ((sy + keep).toNat : Int) := hge
    have hi : i = (sy + keep).toNat := by omega
    subst hi
    have hnn : (sy + keep).toNat = ((flipR xs (sy + keep - spoil).toNat (sy + keep).toNat).take (sy + keep).toNat).length := by rw [List.length_take, flipR_length]; omega
    have hs : (((sy + keep).toNat : Nat) : Int) = sy + keep := by omega
    refine ⟨(), trivial, isEnd.go [(1, .to 3)] ?_ ⟨.inl rfl, leB.take _ id, trivial⟩⟩
    exact (congrArg (fun k => SV.t [.a [.s 3 0 (sy + keep).toNat 1, .v (.int .i64 k)], .c (.v (.int .i64 0))]) hs).trans (congrArg (fun k => SV.t [.a [.s 3 0 k 1, .v (.int .i64 (sy + keep))], .c (.v (.int .i64 0))]) hnn)
end Go.Sx.T1
namespace Go.Sx.T1
open Go.Proofs
set_option maxRecDepth 10000 in
theorem same19_fc (xs ys : List Int) (sx sy : Int) (h32 : xs.length ≤ 4294967296) :
    FC Try.prog 19 [.o (dvS 0 xs sx), .o (dvS 1 ys sy)] [u8s xs false, u8s ys false] (boo (decide (sx = sy ∧ xs = ys))) [u8s xs false, u8s ys false] := by
  refine FC.one (FC.r mix Try.func19 ?_)
  have h4 := same4_fc xs ys xs.length ys.length (Nat.le_refl _) (Nat.le_refl _) h32
  rw [List.take_length, List.take_length] at h4
  refine bselE (fun h => ?_) (fun h => ?_)
  · refine FC.u h4 [0, 1] ?_
    first | exact ⟨(), trivial, .id (congrArg boo (by simp [h])) ⟨.inl rfl, .inl rfl, trivial⟩⟩ | exact And.intro (by kernel_rfl) ⟨(), trivial, .id (congrArg boo (by simp [h])) ⟨.inl rfl, .inl rfl, trivial⟩⟩
  · first | exact ⟨(), trivial, .id (congrArg boo (by simp [h])) ⟨.inl rfl, .inl rfl, trivial⟩⟩ | exact And.intro (by kernel_rfl) ⟨(), trivial, .id (congrArg boo (by simp [h])) ⟨.inl rfl, .inl rfl, trivial⟩⟩
theorem appD_len {xs : List Int} {sy : Int} {bs : List Int} (h : xs.length ≤ 2147483648) : (appD xs sy bs).d.length ≤ 2147483648 := by
  unfold appD
  split
  · exact h
  · split
    · exact h
    · simp only [List.length_append]; omega
theorem app_x (xs : List Int) (sy : Int) (bs : List Int) (h : xs.length ≤ 2147483648) (hb : bs.length ≤ 2147483648) :
    ∃ r : DR, FC Try.prog 10 [.o (dvS 0 xs sy), .o (.c (.s 1 0 bs.length 1))] [u8s xs false, u8s bs false] (drV 2 r) [u8s xs false, u8s bs false, u8s r.d true] ∧
      FC Try.prog 21 [.o (dvS 0 xs sy), .o (.c (.s 1 0 bs.length 1))] [u8s xs false, u8s bs false] (drV 2 r) [u8s xs false, u8s bs false, u8s r.d true] ∧ r.d.length ≤ 4294967296 :=
  ⟨appD xs sy bs, append_fc xs sy bs h hb, appendR_fc xs sy bs h hb, by have := appD_len (xs := xs) (sy := sy) (bs := bs) h; omega⟩
theorem cut_x (xs : List Int) (sy n : Int) (h : xs.length ≤ 2147483648) :
    ∃ r : DR, FC Try.prog 18 [.o (dvS 0 xs sy), int .i64 n] [u8s xs false] (drV 1 r) [u8s xs false, u8s r.d true] ∧
      FC Try.prog 22 [.o (dvS 0 xs sy), int .i64 n] [u8s xs false] (drV 1 r) [u8s xs false, u8s r.d true] ∧ r.d.length ≤ 4294967296 :=
  ⟨cutD xs sy n, cut_fc xs sy n h, cutR_fc xs sy n h, by
    unfold cutD
    split
    · simp only; omega
    · split
      · simp only; omega
      · simp only [List.length_take]; omega⟩
theorem crash_x (xs : List Int) (sy k s : Int) (h : xs.length ≤ 2147483648) :
    ∃ r : DR, FC Try.prog 13 [.o (dvS 0 xs sy), int .i64 k, int .i64 s] [u8s xs false] (drV 1 r) [u8s xs false, u8s r.d true] ∧
      FC Try.prog 23 [.o (dvS 0 xs sy), int .i64 k, int .i64 s] [u8s xs false] (drV 1 r) [u8s xs false, u8s r.d true] ∧ r.d.length ≤ 4294967296 :=
  ⟨crashD xs sy k s, crash_fc xs sy k s h, crashR_fc xs sy k s h, by
    unfold crashD
    split
    · simp only; omega
    · split
      · simp only; omega
      · simp only [List.length_take, flipR_length]; omega⟩
theorem sync_x (xs : List Int) (sy : Int) (h : xs.length ≤ 2147483648) :
    ∃ r : DR, FC Try.prog 12 [.o (dvS 0 xs sy)] [u8s xs false] (drV 1 r) [u8s xs false, u8s r.d true] ∧
      FC Try.prog 24 [.o (dvS 0 xs sy)] [u8s xs false] (drV 1 r) [u8s xs false, u8s r.d true] ∧ r.d.length ≤ 4294967296 :=
  ⟨syncD xs sy, sync_fc xs sy h, syncR_fc xs sy h, by
    unfold syncD
    split <;> (simp only; omega)⟩
def n2C (a b : Int) : V1 := .a [.v (.int .i64 a), .v (.int .i64 b)]
set_option maxHeartbeats 3200000 in
set_option maxRecDepth 10000 in
theorem agree_fc (xs : List Int) (sy : Int) (bs : List Int) (n0 n1 : Int) (h : xs.length ≤ 2147483648) (hb : bs.length ≤ 2147483648) :
    FC Try.prog 17 [.o (dvS 0 xs sy), .o (.c (.s 1 0 bs.length 1)), .o (n2C n0 n1)] [u8s xs false, u8s bs false] (boo true) [u8s xs false, u8s bs false] := by
  refine FC.one (FC.r mix Try.func17 ?_)
  refine FC.x (app_x xs sy bs h hb) [0, 1] (fun r1 ⟨q1, l1⟩ => ?_)
  refine FC.u q1 [0, 1] ?_
  repeat (first | refine And.intro (by kernel_rfl) ?_ | refine And.intro (by decide) ?_)
  refine FC.x (cut_x xs sy n0 h) [0] (fun r2 ⟨q2, l2⟩ => ?_)
  repeat (first | refine And.intro (by kernel_rfl) ?_ | refine And.intro (by decide) ?_)
  refine FC.u q2 [0] ?_
  repeat (first | refine And.intro (by kernel_rfl) ?_ | refine And.intro (by decide) ?_)
  refine FC.x (crash_x xs sy n0 n1 h) [0] (fun r3 ⟨q3, l3⟩ => ?_)
  repeat (first | refine And.intro (by kernel_rfl) ?_ | refine And.intro (by decide) ?_)
  refine FC.u q3 [0] ?_
  repeat (first | refine And.intro (by kernel_rfl) ?_ | refine And.intro (by decide) ?_)
  refine FC.x (sync_x xs sy h) [0] (fun r4 ⟨q4, l4⟩ => ?_)
  repeat (first | refine And.intro (by kernel_rfl) ?_ | refine And.intro (by decide) ?_)
  refine FC.u q4 [0] ?_
  repeat (first | refine And.intro (by kernel_rfl) ?_ | refine And.intro (by decide) ?_)
  refine FC.x (⟨validD xs sy, validD_fc xs sy, validDR_fc xs sy⟩ : ∃ r : Bool, FC Try.prog 14 [.o (dvS 0 xs sy)] [u8s xs false] (boo r) [u8s xs false] ∧ FC Try.prog 25 [.o (dvS 0 xs sy)] [u8s xs false] (boo r) [u8s xs false]) [0] (fun r hr => ?_)
  refine FC.u hr [0] ?_
  refine bselT ?_ ?_
  · simp
  refine bselT ?_ ?_
  · simp
  refine FC.u (same19_fc r1.d r1.d r1.sy r1.sy l1) [4, 6] ?_
  refine bselT ?_ ?_
  · simp
  refine bselT ?_ ?_
  · simp
  refine FC.u (same19_fc r2.d r2.d r2.sy r2.sy l2) [8, 10] ?_
  refine bselT ?_ ?_
  · simp
  refine bselT ?_ ?_
  · simp
  refine FC.u (same19_fc r3.d r3.d r3.sy r3.sy l3) [12, 14] ?_
  refine bselT ?_ ?_
  · simp
  refine bselT ?_ ?_
  · simp
  refine FC.u (same19_fc r4.d r4.d r4.sy r4.sy l4) [16, 18] ?_
  first | exact ⟨(), trivial, .id (congrArg boo (by simp)) ⟨.inl rfl, .inl rfl, trivial⟩⟩ | exact And.intro (by kernel_rfl) ⟨(), trivial, .id (congrArg boo (by simp)) ⟨.inl rfl, .inl rfl, trivial⟩⟩
end Go.Sx.T1
namespace Go.Sx.T1
open Go.Proofs
theorem aw1 : FC Try.prog 10 [.o (dvS 0 [] 0), .o (.c (.s 1 0 1 1))] [u8s [] false, u8s [1] false] (drV 2 ⟨[1], 0, 0⟩) [u8s [] false, u8s [1] false, u8s [1] true] := by
  have h := append_fc [] 0 [1] (by simp) (by simp)
  rwa [show appD [] 0 [1] = ⟨[1], 0, 0⟩ by kernel_rfl] at h
theorem aw2 : FC Try.prog 12 [.o (dvS 0 [1] 0)] [u8s [1] false] (drV 1 ⟨[1], 1, 0⟩) [u8s [1] false, u8s [1] true] := by
  have h := sync_fc [1] 0 (by simp)
  rwa [show syncD [1] 0 = ⟨[1], 1, 0⟩ by kernel_rfl] at h
theorem aw3 : FC Try.prog 10 [.o (dvS 0 [1] 1), .o (.c (.s 1 0 2 1))] [u8s [1] false, u8s [2, 3] false] (drV 2 ⟨[1, 2, 3], 1, 0⟩) [u8s [1] false, u8s [2, 3] false, u8s [1, 2, 3] true] := by
  have h := append_fc [1] 1 [2, 3] (by simp) (by simp)
  rwa [show appD [1] 1 [2, 3] = ⟨[1, 2, 3], 1, 0⟩ by kernel_rfl] at h
theorem aw4 : FC Try.prog 13 [.o (dvS 0 [1, 2, 3] 1), int .i64 1, int .i64 1] [u8s [1, 2, 3] false] (drV 1 ⟨[1, 253], 2, 0⟩) [u8s [1, 2, 3] false, u8s [1, 253] true] := by
  have h := crash_fc [1, 2, 3] 1 1 1 (by simp)
  rwa [show crashD [1, 2, 3] 1 1 1 = ⟨[1, 253], 2, 0⟩ by kernel_rfl] at h
set_option maxHeartbeats 1600000 in
set_option maxRecDepth 10000 in
theorem awake_fc : FC Try.prog 7 [] [] (boo true) [] := by
  refine FC.one (FC.r mix Try.func7 ?_)
  refine acall.nilAt 0 0 1 (.ints .u8 []) ?_
  refine FC.u aw1 [1, 0] ?_
  refine FC.u aw2 [2] ?_
  repeat (first | refine And.intro (by kernel_rfl) ?_ | refine And.intro (by decide) ?_)
  refine FC.u aw3 [4, 5] ?_
  repeat (first | refine And.intro (by kernel_rfl) ?_ | refine And.intro (by decide) ?_)
  refine FC.u aw4 [6] ?_
  repeat (first | refine And.intro (by kernel_rfl) ?_ | refine And.intro (by decide) ?_)
  exact ⟨(), trivial, .id rfl trivial⟩
end Go.Sx.T1
namespace Go.Sx.T1
open Go.Proofs
theorem bytes_x (ts : List Int) (k n : Nat) (hl : ts.length ≤ 400) (hn : n ≤ 100000) :
    ∃ D : List Int, FC Try.prog 11 [.o (.c (.p 0 0 0)), int .i64 n] [diceB ts k, diceL ts] (.o (.c (.s 2 0 D.length 1))) [diceB ts (k + n), diceL ts, u8s D true] ∧ D.length = n := by
  refine ⟨dBytes ts k n, ?_, dBytes_length ts k n⟩
  have := bytes_fc ts k n hl hn
  rwa [dBytes_length]
theorem validD_of {xs : List Int} {sy : Int} (h1 : xs.length ≤ 16384) (h2 : 0 ≤ sy) (h3 : sy ≤ xs.length) : validD xs sy = true := by simp [validD, h1, h2, h3]
theorem app_ok {xs : List Int} {sy : Int} {bs : List Int} (h2 : 0 ≤ sy) (h3 : sy ≤ xs.length) (h : xs.length + bs.length ≤ 16384) :
    FC Try.prog 10 [.o (dvS 0 xs sy), .o (.c (.s 1 0 bs.length 1))] [u8s xs false, u8s bs false] (drV 2 ⟨xs ++ bs, sy, 0⟩) [u8s xs false, u8s bs false, u8s (xs ++ bs) true] := by
  have := append_fc xs sy bs (by omega) (by omega)
  have e : appD xs sy bs = ⟨xs ++ bs, sy, 0⟩ := by simp [appD, validD_of (show xs.length ≤ 16384 by omega) h2 h3, show ¬ 16384 < xs.length + bs.length by omega]
  rwa [e] at this
theorem sync_ok {xs : List Int} {sy : Int} (h2 : 0 ≤ sy) (h3 : sy ≤ xs.length) (h : xs.length ≤ 16384) :
    FC Try.prog 12 [.o (dvS 0 xs sy)] [u8s xs false] (drV 1 ⟨xs, xs.length, 0⟩) [u8s xs false, u8s xs true] := by
  have := sync_fc xs sy (by omega)
  have e : syncD xs sy = ⟨xs, xs.length, 0⟩ := by simp [syncD, validD_of h h2 h3]
  rwa [e] at this
theorem cut_ok {xs : List Int} {sy n : Int} (h2 : 0 ≤ sy) (h3 : sy ≤ n) (h4 : n ≤ xs.length) (h : xs.length ≤ 16384) :
    FC Try.prog 18 [.o (dvS 0 xs sy), int .i64 n] [u8s xs false] (drV 1 ⟨xs.take n.toNat, sy, 0⟩) [u8s xs false, u8s (xs.take n.toNat) true] := by
  have := cut_fc xs sy n (by omega)
  have e : cutD xs sy n = ⟨xs.take n.toNat, sy, 0⟩ := by simp [cutD, validD_of h h2 (by omega), show ¬ (n < 0 ∨ (xs.length : Int) < n) by omega, show ¬ n < sy by omega]
  rwa [e] at this
theorem crash_ok {xs : List Int} {sy k s : Int} (h2 : 0 ≤ sy) (h3 : sy ≤ xs.length) (h : xs.length ≤ 16384) (hk : 0 ≤ k) (hk2 : k ≤ (xs.length : Int) - sy) (hs : 0 ≤ s) (hs2 : s ≤ k) :
    ∃ ys : List Int, FC Try.prog 13 [.o (dvS 0 xs sy), int .i64 k, int .i64 s] [u8s xs false] (drV 1 ⟨ys, sy + k, 0⟩) [u8s xs false, u8s ys true] ∧ ys = (flipR xs (sy + k - s).toNat (sy + k).toNat).take (sy + k).toNat := by
  have := crash_fc xs sy k s (by omega)
  have e : crashD xs sy k s = ⟨(flipR xs (sy + k - s).toNat (sy + k).toNat).take (sy + k).toNat, sy + k, 0⟩ := by
    simp [crashD, validD_of h h2 h3, show ¬ (k < 0 ∨ k > (xs.length : Int) - sy ∨ s < 0 ∨ s > k) by omega]
  rw [e] at this
  exact ⟨_, this, rfl⟩
end Go.Sx.T1
namespace Go.Sx.T1
open Go.Proofs
structure MsS where
  (D S : List Int)
  (k r : Nat)
structure MsS.Ok (p : MsS) : Prop where
  le : p.S.length ≤ p.D.length
  pre : p.D.take p.S.length = p.S
  small : p.D.length + 8 * p.r ≤ 240
set_option maxHeartbeats 3200000 in
set_option maxRecDepth 10000 in
theorem law (ts : List Int) : FC Try.prog 3 [.o (.c (.s 0 0 ts.length 1))] [diceL ts] (boo true) [diceL ts] := by
  refine FC.one (FC.rj mix Try.func3 ?_)
  refine FC.u (light_fc ts) [0] ?_
  refine bsel_intro (fun h => ?_) (fun h => ?_)
  · refine FC.u awake_fc [] ?_
    exact ⟨(), trivial, .id rfl ⟨.inl rfl, trivial⟩⟩
  have hl : ts.length ≤ 400 := by simpa using h
  refine FC.u (roll_fc ts) [0] ?_
  refine FC.x (next_x ts 0 30 (by omega) hl) [1, 0] (fun n en => ?_)
  have bn := dv_bd ts 0 (n := 30) (by omega)
  obtain ⟨n, rfl⟩ : ∃ m : Nat, n = m := ⟨n.toNat, by omega⟩
  refine ALoop.goN (X := MsS) MsS.Ok (fun p => p.r) [3, 4] [0] (fun p => [(5, .o (.c (.s 4 0 p.S.length 1))), (6, int .i64 p.r)])
    (fun p => [(1, ⟨.box [.s 0 0 ts.length 1, .v (.int .i64 (min p.k ts.length : Nat))], true⟩), (2, ⟨.box [.s 3 0 p.D.length 1, .v (.int .i64 p.S.length)], true⟩), (3, ⟨.ints .u8 p.D, true⟩), (4, ⟨.ints .u8 p.S, true⟩)])
    ⟨[], [], 1, n⟩ 5 ⟨Nat.le_refl _, rfl, by simp only [List.length_nil]; omega⟩
    (isAt.go [(3, .new 1), (4, .new 1)] ⟨rfl, rfl, trivial⟩ ⟨.inl rfl, .inl rfl, ⟨.inr ⟨rfl, Nat.le_refl 1, fun _ h => absurd h (Nat.not_lt_zero _)⟩, rfl⟩, ⟨.inr ⟨rfl, Nat.le_refl 1, fun _ h => absurd h (Nat.not_lt_zero _)⟩, rfl⟩, trivial⟩) ?_
  rintro ⟨D, S, k, r⟩ ⟨h1, h2, h3⟩
  simp only at h1 h2 h3
  dsimp only [headF, headM]
  refine bselD (fun hr => ?_) (fun hr => ?_)
  · have hr' : 0 < r := by have : (r : Int) > 0 := hr; omega
    refine AJoin.cutN (X := MsS) (fun p => p.S.length ≤ p.D.length ∧ p.D.take p.S.length = p.S ∧ p.D.length + 8 * (r - 1) ≤ 240) [3, 4, 6] [0] (fun p => [(5, .o (.c (.s 4 0 p.S.length 1))), (7, int .i64 0)])
      (fun p => [(1, ⟨.box [.s 0 0 ts.length 1, .v (.int .i64 (min p.k ts.length : Nat))], true⟩), (2, ⟨.box [.s 3 0 p.D.length 1, .v (.int .i64 p.S.length)], true⟩), (3, ⟨.ints .u8 p.D, true⟩), (4, ⟨.ints .u8 p.S, true⟩)]) 5 ?_ ?_
    · repeat refine AJoin.plain ?_
      refine FC.x (next_x ts k 4 (by omega) hl) [1, 0] (fun c ec => ?_)
      repeat refine AJoin.plain ?_
      have bc := dv_bd ts k (n := 4) (by omega)
      have hD : D.length ≤ 240 := by omega
      refine bselE (fun c0 => ?_) (fun c0 => bselE (fun c1 => ?_) (fun c1 => bselE (fun c2 => ?_) (fun c2 => ?_)))
      · refine bselT (by simp [c0]) ?_
        refine FC.x (next_x ts (k + 1) 9 (by omega) hl) [1, 0] (fun m em => ?_)
        have bm := dv_bd ts (k + 1) (n := 9) (by omega)
        obtain ⟨m, rfl⟩ : ∃ m' : Nat, m = m' := ⟨m.toNat, by omega⟩
        refine FC.x (bytes_x ts (k + 2) m hl (by omega)) [1, 0] (fun B hB => ?_)
        repeat (first | refine And.intro (by kernel_rfl) ?_ | refine And.intro (by decide) ?_)
        refine FC.u (app_ok (xs := D) (sy := S.length) (bs := B) (by omega) (by omega) (by omega)) [3, 5] ?_
        repeat (first | refine And.intro (by kernel_rfl) ?_ | refine And.intro (by decide) ?_)
        refine ⟨⟨D ++ B, S, k + 2 + m, r⟩, ⟨by simp only [List.length_append]; omega, by simp only [List.take_append_of_le_length h1]; exact h2, by simp only [List.length_append]; omega⟩, isAt.go [(3, .to 6), (4, .to 4)] ⟨rfl, rfl, trivial⟩ ⟨.inl rfl, .inl rfl, .inl rfl, .inl rfl, trivial⟩⟩
      · refine FC.x (next_x ts (k + 1) 9 (by omega) hl) [1, 0] (fun m em => ?_)
        have bm := dv_bd ts (k + 1) (n := 9) (by omega)
        obtain ⟨m, rfl⟩ : ∃ m' : Nat, m = m' := ⟨m.toNat, by omega⟩
        refine FC.x (bytes_x ts (k + 2) m hl (by omega)) [1, 0] (fun B hB => ?_)
        repeat (first | refine And.intro (by kernel_rfl) ?_ | refine And.intro (by decide) ?_)
        refine FC.u (app_ok (xs := D) (sy := S.length) (bs := B) (by omega) (by omega) (by omega)) [3, 5] ?_
        repeat (first | refine And.intro (by kernel_rfl) ?_ | refine And.intro (by decide) ?_)
        refine ⟨⟨D ++ B, S, k + 2 + m, r⟩, ⟨by simp only [List.length_append]; omega, by simp only [List.take_append_of_le_length h1]; exact h2, by simp only [List.length_append]; omega⟩, isAt.go [(3, .to 6), (4, .to 4)] ⟨rfl, rfl, trivial⟩ ⟨.inl rfl, .inl rfl, .inl rfl, .inl rfl, trivial⟩⟩
      · refine FC.u (sync_ok (xs := D) (sy := S.length) (by omega) (by omega) (by omega)) [3] ?_
        refine And.intro ⟨by show 0 + D.length ≤ D.length; omega, trivial⟩ ?_
        refine And.intro (by show 0 + D.length ≤ 4294967296; omega) ?_
        repeat (first | refine And.intro (by kernel_rfl) ?_ | refine And.intro (by decide) ?_)
        have e1 : (D.drop 0).take D.length = D := by simp
        refine ⟨⟨D, D, k + 1, r⟩, ⟨by simp, by simp, by simp; omega⟩, isAt.go [(3, .to 5), (4, .to 6)] ⟨(by show SV.o (V1.c (C.s 6 0 (0 + D.length) 1)) = SV.o (V1.c (C.s 6 0 D.length 1)); rw [Nat.zero_add]), rfl, trivial⟩ ⟨.inl rfl, .inl rfl, .inl rfl, .inl (by rw [e1]; rfl), trivial⟩⟩
      · have w1 : IntKind.i64.wrap ((D.length : Int) - S.length) = (D.length : Int) - S.length := wrap64_in (by omega) (by omega)
        have w2 : IntKind.i64.wrap ((D.length : Int) - S.length + 1) = (D.length : Int) - S.length + 1 := wrap64_in (by omega) (by omega)
        have bk := dv_bd ts (k + 1) (n := (D.length : Int) - S.length + 1) (by omega)
        refine FC.x (next_x ts (k + 1) (IntKind.i64.wrap (IntKind.i64.wrap ((D.length : Int) - S.length) + 1)) (by rw [w1, w2]; omega) hl) [1, 0] (fun q eq => ?_)
        rw [w1, w2] at eq
        rw [← eq] at bk
        obtain ⟨q, rfl⟩ : ∃ q' : Nat, q = q' := ⟨q.toNat, by omega⟩
        have w3 : IntKind.i64.wrap ((q : Int) + 1) = (q : Int) + 1 := wrap64_in (by omega) (by omega)
        have bz := dv_bd ts (k + 2) (n := (q : Int) + 1) (by omega)
        repeat (first | refine And.intro (by kernel_rfl) ?_ | refine And.intro (by decide) ?_)
        refine FC.x (next_x ts (k + 2) (IntKind.i64.wrap ((q : Int) + 1)) (by rw [w3]; omega) hl) [1, 0] (fun z ez => ?_)
        rw [w3] at ez
        rw [← ez] at bz
        repeat (first | refine And.intro (by kernel_rfl) ?_ | refine And.intro (by decide) ?_)
        refine FC.x (crash_ok (xs := D) (sy := S.length) (k := q) (s := z) (by omega) (by omega) (by omega) (by omega) (by omega) (by omega) (by omega)) [3] (fun ys ey => ?_)
        have ly : ys.length = S.length + q := by
          subst ey
          rw [List.length_take, flipR_length]
          omega
        have py : ys.take S.length = S := by
          subst ey
          rw [List.take_take, show min S.length ((S.length : Int) + q).toNat = S.length by omega]
          refine List.ext_getElem? (fun i => ?_)
          by_cases hi : i < S.length
          · have e0 : S[i]? = D[i]? := by
              have : (D.take S.length)[i]? = D[i]? := by simp [hi]
              rwa [h2] at this
            rw [List.getElem?_take_of_lt hi, flipR_get (by omega), e0, if_neg (by omega)]
            simp [List.getElem?_eq_getElem (show i < D.length by omega)]
          · rw [List.getElem?_eq_none (by rw [List.length_take]; omega), List.getElem?_eq_none (by omega)]
        repeat (first | refine And.intro (by kernel_rfl) ?_ | refine And.intro (by decide) ?_)
        have w4 : IntKind.i64.wrap ((S.length : Int) + q) = (S.length : Int) + q := wrap64_in (by omega) (by omega)
        refine bselF ?_ ?_
        · rw [w4]; simp [ly]
        refine And.intro ⟨by show 0 + ys.length ≤ ys.length; omega, trivial⟩ ?_
        refine And.intro (by show 0 + ys.length ≤ 4294967296; omega) ?_
        repeat (first | refine And.intro (by kernel_rfl) ?_ | refine And.intro (by decide) ?_)
        have e3 : (S.length : Int) + q = (ys.length : Nat) := by omega
        have e1 : (ys.drop 0).take ys.length = ys := by simp
        refine ⟨⟨ys, ys, k + 3, r⟩, ⟨by simp, by simp, by simp; omega⟩, isAt.go [(3, .to 5), (4, .to 6)] ⟨?_, rfl, trivial⟩ ⟨.inl rfl, .inl (congrArg (fun z : Int => some (⟨.box [.s 5 0 ys.length 1, .v (.int .i64 z)], true⟩ : Blk)) e3), .inl rfl, .inl (by rw [e1]; rfl), trivial⟩⟩
        show SV.o (V1.c (C.s 6 0 (0 + ys.length) 1)) = SV.o (V1.c (C.s 6 0 ys.length 1)); rw [Nat.zero_add]
    · rintro ⟨D, S, k, r2⟩ ⟨h1, h2, h3⟩
      simp only at h1 h2 h3
      dsimp only [headF, headM]
      repeat refine AJoin.plain ?_
      refine FC.u (validD_fc D S.length) [3] ?_
      refine bselF (by rw [validD_of (by omega) (by omega) (by omega)]; rfl) ?_
      refine bselF (by simp) ?_
      refine bselF (by simp; omega) ?_
      refine And.intro ⟨by omega, by omega⟩ ?_
      refine FC.u (same4_fc D S S.length S.length (by omega) (by omega) (by omega)) [3, 4] ?_
      refine bselF (by simpa using h2) ?_
      have w5 : IntKind.i64.wrap ((r : Int) - 1) = ((r - 1 : Nat) : Int) := by rw [wrap64_in (by omega) (by omega)]; omega
      refine ⟨⟨D, S, k, r - 1⟩, ⟨⟨h1, h2, h3⟩, by show r - 1 < r; omega⟩, .id ⟨rfl, congrArg (int .i64) w5, trivial⟩ rfl ⟨.inl rfl, .inl rfl, .inl rfl, .inl rfl, trivial⟩ rfl⟩
  · refine FC.u awake_fc [] ?_
    first | exact ⟨(), trivial, .id rfl ⟨.inl rfl, trivial⟩⟩ | exact And.intro (by kernel_rfl) ⟨(), trivial, .id rfl ⟨.inl rfl, trivial⟩⟩
end Go.Sx.T1
