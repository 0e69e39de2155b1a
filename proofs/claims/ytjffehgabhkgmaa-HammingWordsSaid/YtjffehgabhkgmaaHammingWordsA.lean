/- Contracts of the functions that HammingWords reaches, and the walk of the law, part 1. Conditions: none. -/
import Derived.Test.YtjffehgabhkgmaaSxTwo
import Derived.Test.YtjffehgabhkgmaaChecked
namespace Go.Sx.T1
open Go.Proofs

theorem mix : Try.prog.follows .mixedOrders = true := by kernel_rfl

def mMod (n m : Int) : Int := if m < 1 then 0 else n % m

theorem tmod_fix (n m : Int) (h : 1 ≤ m) : (n.tmod m < 0 → n.tmod m + m = n % m) ∧ (¬ n.tmod m < 0 → n.tmod m = n % m) := by
  have h1 := Int.emod_lt_of_pos n (show 0 < m by omega)
  have h2 := Int.emod_nonneg n (show m ≠ 0 by omega)
  rw [Int.tmod_eq_emod]
  split <;> omega

set_option maxRecDepth 10000 in
theorem mod_fc (n m : Int) (hm : m < 9223372036854775808) : FC Try.prog 13 [int .i64 n, int .i64 m] [] (int .i64 (mMod n m)) [] := by
  refine FC.b mix Try.func13 ?_
  refine bselD (fun h => ?_) (fun h => ?_)
  · exact ⟨congrArg (int .i64) (by simp [mMod, h]), trivial⟩
  · refine ⟨by omega, ?_⟩
    have hlt := Int.tmod_lt_of_pos n (show 0 < m by omega)
    have hgt := Int.lt_tmod_of_pos n (show 0 < m by omega)
    have e := tmod_fix n m (by omega)
    refine bselD (fun h2 => ?_) (fun h2 => ?_)
    · refine ⟨congrArg (int .i64) ?_, trivial⟩
      rw [wrap64_in (by omega) (by omega)]
      simp only [mMod, h, if_false]
      exact e.1 h2
    · exact ⟨congrArg (int .i64) (by simp [mMod, h]; exact e.2 h2), trivial⟩

/-- the dice: name 0 the two fields, name 1 the numbers; k numbers have been asked for -/
def diceB (ts : List Int) (k : Nat) : Option Blk := some ⟨.box [.s 1 0 ts.length 1, .v (.int .i64 (min k ts.length : Nat))], true⟩
def diceL (ts : List Int) : Option Blk := some ⟨.ints .i64 ts, false⟩
def dv (ts : List Int) (k : Nat) (n : Int) : Int := mMod (ts.getD k 0) n

set_option maxRecDepth 10000 in
theorem next_fc (ts : List Int) (k : Nat) (n : Int) (hn : n < 9223372036854775808) (hl : ts.length ≤ 400) :
    FC Try.prog 21 [.o (.c (.p 0 0 0)), int .i64 n] [diceB ts k, diceL ts] (int .i64 (dv ts k n)) [diceB ts (k + 1), diceL ts] := by
  refine FC.b mix Try.func21 ?_
  refine ⟨by kernel_rfl, ?_⟩
  refine bselD (fun h => ?_) (fun h => ?_)
  · have h' : ts.length ≤ k := by omega
    refine ⟨congrArg (int .i64) ?_, congrArg some ?_, rfl, trivial⟩
    · simp [dv, h', mMod]
    · simp [Nat.min_eq_right h', Nat.min_eq_right (Nat.le_succ_of_le h')]
  · have h' : k < ts.length := by omega
    have e : min k ts.length = k := Nat.min_eq_left (by omega)
    have e2 : min (k + 1) ts.length = k + 1 := Nat.min_eq_left (by omega)
    have w1 : IntKind.i64.wrap ((k : Int) + 1) = (k : Int) + 1 := wrap64_in (by omega) (by omega)
    have w2 : IntKind.i64.wrap ((k : Int) + 1 - 1) = (k : Int) := by rw [wrap64_in (by omega) (by omega)]; omega
    skip
    refine ⟨⟨?_, ?_⟩, ?_, ?_⟩
    · rw [e, w1, w2]; omega
    · rw [e, w1, w2]; omega
    · rw [e, w1, w2]; omega
    refine FC.use (mod_fc (ts.getD k 0) n hn) [] (congrArg (fun x => [int .i64 (ts.getD x 0), int .i64 n]) ?_) rfl trivial rfl rfl trivial ?_
    · rw [e, w1, w2]; simp
    refine ⟨by kernel_rfl, ?_⟩
    refine ⟨congrArg (int .i64) ?_, congrArg some ?_, rfl, trivial⟩
    · rfl
    · rw [e, w1, e2]; rfl
end Go.Sx.T1
namespace Go.Sx.T1
open Go.Proofs
set_option maxRecDepth 10000 in
theorem light_fc (ts : List Int) : FC Try.prog 7 [.o (.c (.s 0 0 ts.length 1))] [diceL ts] (boo (decide (ts.length ≤ 400))) [diceL ts] := by
  refine FC.b mix Try.func7 ?_
  exact ⟨congrArg boo (show decide ((ts.length : Int) ≤ 400) = decide (ts.length ≤ 400) by rw [Bool.eq_iff_iff]; simp; omega), rfl, trivial⟩
set_option maxRecDepth 10000 in
theorem roll_fc (ts : List Int) : FC Try.prog 9 [.o (.c (.s 0 0 ts.length 1))] [diceL ts] (.o (.c (.p 1 0 0))) [diceL ts, some ⟨.box [.s 0 0 ts.length 1, .v (.int .i64 0)], true⟩] := by
  refine FC.b mix Try.func9 ?_
  exact ⟨rfl, rfl, rfl, trivial⟩
theorem mMod_bd {n m : Int} (h : 1 ≤ m) : 0 ≤ mMod n m ∧ mMod n m < m := by
  unfold mMod
  rw [if_neg (by omega)]
  exact ⟨Int.emod_nonneg n (by omega), Int.emod_lt_of_pos n (by omega)⟩
theorem dv_bd (ts : List Int) (k : Nat) {n : Int} (h : 1 ≤ n) : 0 ≤ dv ts k n ∧ dv ts k n < n := mMod_bd h

theorem next_x (ts : List Int) (k : Nat) (n : Int) (hn : n < 9223372036854775808) (hl : ts.length ≤ 400) :
    ∃ v, FC Try.prog 21 [.o (.c (.p 0 0 0)), int .i64 n] [diceB ts k, diceL ts] (int .i64 v) [diceB ts (k + 1), diceL ts] ∧ v = dv ts k n := ⟨_, next_fc ts k n hn hl, rfl⟩
def u8s (xs : List Int) (wr : Bool) : Option Blk := some ⟨.ints .u8 xs, wr⟩
def i64s (xs : List Int) (wr : Bool) : Option Blk := some ⟨.ints .i64 xs, wr⟩
theorem newI (sz : Nat) {k : IntKind} (h : sz = 1) : Bk.fits (.ints k []) sz ∧ Bk.need (.ints k []) = 0 := ⟨.inr ⟨h, Nat.le_refl 1, fun _ h => absurd h (Nat.not_lt_zero _)⟩, rfl⟩
end Go.Sx.T1
namespace Go.Sx.T1
open Go.Proofs
def dBytes (ts : List Int) (k n : Nat) : List Int := (List.range n).map fun i => dv ts (k + i) 256
theorem dBytes_length (ts : List Int) (k n : Nat) : (dBytes ts k n).length = n := by simp [dBytes]
theorem dBytes_succ (ts : List Int) (k n : Nat) : dBytes ts k (n + 1) = dBytes ts k n ++ [dv ts (k + n) 256] := by simp [dBytes, List.range_succ]
theorem wrapU8_in {n : Int} (h1 : 0 ≤ n) (h2 : n < 256) : IntKind.u8.wrap n = n := by rw [IntKind.wrap_u8]; omega
set_option maxHeartbeats 1600000 in
set_option maxRecDepth 10000 in
theorem bytes_fc (ts : List Int) (k n : Nat) (hl : ts.length ≤ 400) (hn : n ≤ 100000) :
    FC Try.prog 10 [.o (.c (.p 0 0 0)), int .i64 n] [diceB ts k, diceL ts] (.o (.c (.s 2 0 n 1))) [diceB ts (k + n), diceL ts, u8s (dBytes ts k n) true] := by
  refine FC.one (FC.r mix Try.func10 ?_)
  refine ALoop.goN (X := Nat) (fun i => i ≤ n) (fun i => n - i) [0] [1] (fun i => [(1, int .i64 (n - i : Nat)), (5, .o (.c (.s 2 0 i 1)))])
    (fun i => [(0, ⟨.box [.s 1 0 ts.length 1, .v (.int .i64 (min (k + i) ts.length : Nat))], true⟩), (2, ⟨.ints .u8 (dBytes ts k i), true⟩)]) 0 3 (Nat.zero_le _)
    (isAt.go [(2, .new 1)] ⟨rfl, rfl, trivial⟩ ⟨.inl rfl, ⟨.inr ⟨rfl, Nat.le_refl 1, fun _ h => absurd h (Nat.not_lt_zero _)⟩, rfl⟩, trivial⟩) ?_
  intro i hi
  dsimp only [headF, headM]
  refine bselD (fun hgt => ?_) (fun hle => ?_)
  · have hlt : i < n := by have : ((n - i : Nat) : Int) > 0 := hgt; omega
    refine FC.u (next_fc ts (k + i) 256 (by omega) hl) [0, 1] ?_
    have hb := dv_bd ts (k + i) (n := 256) (by omega)
    refine And.intro ⟨by show 0 + i ≤ (dBytes ts k i).length; rw [dBytes_length]; omega, trivial⟩ ?_
    refine And.intro ⟨by show 0 + 1 ≤ 1; omega, trivial⟩ ?_
    refine And.intro (by omega) ?_
    have e1 : IntKind.i64.wrap (((n - i : Nat) : Int) - 1) = ((n - (i + 1) : Nat) : Int) := by rw [wrap64_in (by omega) (by omega)]; omega
    have e2 : ((dBytes ts k i).drop 0).take i ++ [IntKind.u8.wrap (dv ts (k + i) 256)] = dBytes ts k (i + 1) := by
      rw [dBytes_succ, wrapU8_in hb.1 hb.2, List.drop_zero, List.take_of_length_le (by rw [dBytes_length]; exact Nat.le_refl _)]
    exact ⟨i + 1, ⟨hlt, by simp only; omega⟩, isAt.go [(2, .to 4)] ⟨congrArg (int .i64) e1, rfl, trivial⟩ ⟨.inl rfl, .inl (congrArg (fun x => some (⟨.ints .u8 x, true⟩ : Blk)) e2), trivial⟩⟩
  · have hin : i = n := by have : ¬ ((n - i : Nat) : Int) > 0 := hle; omega
    subst hin
    exact ⟨(), trivial, .id rfl ⟨.inl rfl, .inl rfl, .inl rfl, trivial⟩⟩
end Go.Sx.T1
namespace Go.Sx.T1
open Go.Proofs
set_option maxRecDepth 10000 in
theorem clone_fc (xs : List Int) (n : Nat) (hn : n ≤ xs.length) (h32 : n ≤ 4294967296) :
    FC Try.prog 24 [.o (.c (.s 0 0 n 1))] [u8s xs false] (.o (.c (.s 1 0 n 1))) [u8s xs false, u8s (xs.take n) true] := by
  refine FC.nil3 (fun h0 => ?_) (fun h0 a cap => ?_) (fun k hk => ?_)
  · refine FC.one (FC.r mix Try.func24 ?_)
    subst h0
    exact ⟨(), trivial, isEnd.go [(1, .new 1)] rfl ⟨.inl rfl, ⟨.inr ⟨rfl, Nat.le_refl 1, fun _ h => absurd h (Nat.not_lt_zero _)⟩, rfl⟩, trivial⟩⟩
  · refine FC.one (FC.r mix Try.func24 ?_)
    subst h0
    refine And.intro (by decide) ?_
    exact ⟨(), trivial, .id rfl ⟨.inl rfl, leB.empty rfl rfl rfl rfl id, trivial⟩⟩
  · refine FC.one (FC.r mix Try.func24 ?_)
    subst hk
    refine And.intro ⟨by show 0 + (k + 1) ≤ xs.length; omega, trivial⟩ ?_
    refine And.intro (by omega) ?_
    exact ⟨(), trivial, .id (congrArg (fun n => SV.o (.c (.s 1 0 n 1))) (Nat.zero_add (k + 1))) ⟨.inl rfl, .inl rfl, trivial⟩⟩
end Go.Sx.T1
namespace Go.Sx.T1
open Go.Proofs
/-- the number of bits of a byte -/
def pc (x : Nat) : Nat := x % 2 + x / 2 % 2 + x / 4 % 2 + x / 8 % 2 + x / 16 % 2 + x / 32 % 2 + x / 64 % 2 + x / 128 % 2
abbrev sh (x : Int) (n : Int) : Int := x.fdiv (2 ^ min (Int.toNat n) IntKind.u64.bits)
def g1 (x : Int) : Int := IntKind.u64.wrap (bitI .and .u64 (sh x 1) 6148914691236517205 + bitI .and .u64 x 6148914691236517205)
def g2 (x : Int) : Int := IntKind.u64.wrap (bitI .and .u64 (sh x 2) 3689348814741910323 + bitI .and .u64 x 3689348814741910323)
def g3 (x : Int) : Int := bitI .and .u64 (IntKind.u64.wrap (sh x 4 + x)) 1085102592571150095
def g4 (x k : Int) : Int := IntKind.u64.wrap (x + sh x k)
def g7 (x : Int) : Int := bitI .and .i64 (IntKind.i64.wrap x) 127
theorem pcs : ∀ x : Fin 256, g7 (g4 (g4 (g4 (g3 (g2 (g1 (x.val : Nat)))) 8) 16) 32) = (pc x.val : Nat) := by decide +kernel
set_option maxHeartbeats 3200000 in
set_option maxRecDepth 10000 in
theorem ones64_fc (x : Nat) (hx : x < 256) : FC Try.prog 31 [int .u64 x] [] (int .i64 (pc x)) [] := by
  refine FC.one (FC.r mix Try.func31 ?_)
  refine And.intro (by decide) ?_
  conv => whnf
  generalize h1 : IntKind.u64.wrap (bitI .and .u64 (sh x 1) 6148914691236517205 + bitI .and .u64 x 6148914691236517205) = y1
  refine And.intro (by decide) ?_
  conv => whnf
  generalize h2 : IntKind.u64.wrap (bitI .and .u64 (sh y1 2) 3689348814741910323 + bitI .and .u64 y1 3689348814741910323) = y2
  refine And.intro (by decide) ?_
  conv => whnf
  generalize h3 : bitI .and .u64 (IntKind.u64.wrap (sh y2 4 + y2)) 1085102592571150095 = y3
  refine And.intro (by decide) ?_
  conv => whnf
  generalize h4 : IntKind.u64.wrap (y3 + sh y3 8) = y4
  refine And.intro (by decide) ?_
  conv => whnf
  generalize h5 : IntKind.u64.wrap (y4 + sh y4 16) = y5
  refine And.intro (by decide) ?_
  conv => whnf
  generalize h6 : IntKind.u64.wrap (y5 + sh y5 32) = y6
  repeat (first | refine And.intro (by kernel_rfl) ?_ | refine And.intro (by decide) ?_)
  refine ⟨(), trivial, .id ?_ trivial⟩
  show int .i64 (g7 y6) = int .i64 (pc x)
  refine congrArg (int .i64) ?_
  rw [← pcs ⟨x, hx⟩, ← h6, ← h5, ← h4, ← h3, ← h2, ← h1]
  rfl
set_option maxHeartbeats 3200000 in
set_option maxRecDepth 10000 in
theorem ones_fc (x : Nat) (hx : x < 256) : FC Try.prog 28 [int .u64 x] [] (int .i64 (pc x)) [] := by
  refine FC.one (FC.r mix Try.func28 ?_)
  refine FC.u (ones64_fc x hx) [] ?_
  first | exact ⟨(), trivial, .id rfl trivial⟩ | exact And.intro (by kernel_rfl) ⟨(), trivial, .id rfl trivial⟩
end Go.Sx.T1
namespace Go.Sx.T1
open Go.Proofs
def pcL (n x : Nat) : List Int := ((List.range x).filter (fun b => pc b == n)).map (fun b : Nat => (b : Int))
theorem pcL_s1 {n x : Nat} (h : pc x = n) : pcL n (x + 1) = pcL n x ++ [(x : Int)] := by simp [pcL, List.range_succ, h]
theorem pcL_s0 {n x : Nat} (h : pc x ≠ n) : pcL n (x + 1) = pcL n x := by simp [pcL, List.range_succ, h]
theorem pcL_len {n x : Nat} : (pcL n x).length ≤ x := by
  simp only [pcL, List.length_map]
  exact Nat.le_trans (List.length_filter_le _ _) (by simp)
def pwL (k : Nat) : List Int := (List.range k).map (fun b : Nat => ((2 ^ b : Nat) : Int))
def colsL : List Int := (pcL 3 256).take 56 ++ (pcL 5 256).take 8 ++ pwL 8
set_option maxHeartbeats 3200000 in
set_option maxRecDepth 10000 in
theorem columns_fc : ∃ L : List Int, FC Try.prog 23 [] [] (.o (.c (.s 0 0 L.length 1))) [u8s L true] ∧ L = colsL := by
  refine FC.rj mix Try.func23 ?_
  refine ALoop.goN (X := Nat) (fun x => x ≤ 256) (fun x => 256 - x) [0, 3] [] (fun x => [(1, .o (.c (.s 0 0 (pcL 3 x).length 1))), (2, .o (.c (.s 1 0 (pcL 5 x).length 1))), (6, int .i64 x)])
    (fun x => [(0, ⟨.ints .u8 (pcL 3 x), true⟩), (1, ⟨.ints .u8 (pcL 5 x), true⟩)])
    0 2 (by omega)
    (isAt.go [(0, .new 1), (1, .new 1)] ⟨rfl, rfl, rfl, trivial⟩ ⟨⟨.inr ⟨rfl, Nat.le_refl 1, fun _ h => absurd h (Nat.not_lt_zero _)⟩, rfl⟩, ⟨.inr ⟨rfl, Nat.le_refl 1, fun _ h => absurd h (Nat.not_lt_zero _)⟩, rfl⟩, trivial⟩) ?_
  intro x hx
  dsimp only [headF, headM]
  refine bselD (fun h => ?_) (fun h => ?_)
  · have hx' : x < 256 := by omega
    have wx : IntKind.u64.wrap (x : Int) = x := wrapU64_in (by omega) (by omega)
    have w8 : IntKind.u8.wrap (x : Int) = x := by show ((x : Int) % 256) = x; omega
    have wi : IntKind.i64.wrap ((x : Int) + 1) = ((x + 1 : Nat) : Int) := wrap64_in (by omega) (by omega)
    repeat refine AJoin.plain ?_
    conv => whnf
    rw [wx]
    refine FC.u (ones_fc x hx') [] ?_
    repeat refine AJoin.plain ?_
    refine bselE (fun c3 => ?_) (fun c3 => bselE (fun c5 => ?_) (fun c5 => ?_))
    · have c' : pc x = 3 := by omega
      have hl := pcL_len (n := 3) (x := x)
      have L1 : (pcL 3 (x + 1)).length = (pcL 3 x).length + 1 := by rw [pcL_s1 c']; simp
      have L2 : pcL 5 (x + 1) = pcL 5 x := pcL_s0 (by omega)
      refine And.intro ⟨by show 0 + (pcL 3 x).length ≤ (pcL 3 x).length; omega, trivial⟩ ?_
      repeat (first | refine And.intro (by kernel_rfl) ?_ | refine And.intro (by decide) ?_)
      refine And.intro ⟨by show (0 + (0 + 1)) ≤ 1; omega, trivial⟩ ?_
      refine And.intro (by show (pcL 3 x).length + 1 ≤ 4294967296; omega) ?_
      repeat (first | refine And.intro (by kernel_rfl) ?_ | refine And.intro (by decide) ?_)
      exact ⟨x + 1, ⟨by omega, by show 256 - (x + 1) < 256 - x; omega⟩, isAt.go [(0, .to 3), (1, .to 1)] ⟨(by show SV.o (.c (.s 3 0 ((pcL 3 x).length + 1) 1)) = SV.o (.c (.s 3 0 (pcL 3 (x + 1)).length 1)); rw [L1]), (by show SV.o (.c (.s 1 0 (pcL 5 x).length 1)) = SV.o (.c (.s 1 0 (pcL 5 (x + 1)).length 1)); rw [L2]), congrArg (int .i64) wi, trivial⟩ ⟨.inl (by show some (⟨.ints .u8 (((pcL 3 x).drop 0).take (pcL 3 x).length ++ [IntKind.u8.wrap (x : Int)]), true⟩ : Blk) = some ⟨.ints .u8 (pcL 3 (x + 1)), true⟩; rw [pcL_s1 c', w8]; simp), .inl (by show some (⟨.ints .u8 (pcL 5 x), true⟩ : Blk) = some ⟨.ints .u8 (pcL 5 (x + 1)), true⟩; rw [L2]), trivial⟩⟩
    · have c' : pc x = 5 := by omega
      have hl := pcL_len (n := 5) (x := x)
      have L1 : (pcL 5 (x + 1)).length = (pcL 5 x).length + 1 := by rw [pcL_s1 c']; simp
      have L2 : pcL 3 (x + 1) = pcL 3 x := pcL_s0 (by omega)
      refine And.intro ⟨by show 0 + (pcL 5 x).length ≤ (pcL 5 x).length; omega, trivial⟩ ?_
      repeat (first | refine And.intro (by kernel_rfl) ?_ | refine And.intro (by decide) ?_)
      refine And.intro ⟨by show (0 + (0 + 1)) ≤ 1; omega, trivial⟩ ?_
      refine And.intro (by show (pcL 5 x).length + 1 ≤ 4294967296; omega) ?_
      repeat (first | refine And.intro (by kernel_rfl) ?_ | refine And.intro (by decide) ?_)
      exact ⟨x + 1, ⟨by omega, by show 256 - (x + 1) < 256 - x; omega⟩, isAt.go [(0, .to 0), (1, .to 3)] ⟨(by show SV.o (.c (.s 0 0 (pcL 3 x).length 1)) = SV.o (.c (.s 0 0 (pcL 3 (x + 1)).length 1)); rw [L2]), (by show SV.o (.c (.s 3 0 ((pcL 5 x).length + 1) 1)) = SV.o (.c (.s 3 0 (pcL 5 (x + 1)).length 1)); rw [L1]), congrArg (int .i64) wi, trivial⟩ ⟨.inl (by show some (⟨.ints .u8 (pcL 3 x), true⟩ : Blk) = some ⟨.ints .u8 (pcL 3 (x + 1)), true⟩; rw [L2]), .inl (by show some (⟨.ints .u8 (((pcL 5 x).drop 0).take (pcL 5 x).length ++ [IntKind.u8.wrap (x : Int)]), true⟩ : Blk) = some ⟨.ints .u8 (pcL 5 (x + 1)), true⟩; rw [pcL_s1 c', w8]; simp), trivial⟩⟩
    · repeat (first | refine And.intro (by kernel_rfl) ?_ | refine And.intro (by decide) ?_)
      have L3 : pcL 3 (x + 1) = pcL 3 x := pcL_s0 (by omega)
      have L5 : pcL 5 (x + 1) = pcL 5 x := pcL_s0 (by omega)
      refine ⟨x + 1, ⟨by omega, by show 256 - (x + 1) < 256 - x; omega⟩, .id ⟨?_, ?_, congrArg (int .i64) wi, trivial⟩ rfl ⟨.inl ?_, .inl ?_, trivial⟩ rfl⟩
      · show SV.o (.c (.s 0 0 (pcL 3 x).length 1)) = SV.o (.c (.s 0 0 (pcL 3 (x + 1)).length 1)); rw [L3]
      · show SV.o (.c (.s 1 0 (pcL 5 x).length 1)) = SV.o (.c (.s 1 0 (pcL 5 (x + 1)).length 1)); rw [L5]
      · show some (⟨.ints .u8 (pcL 3 x), true⟩ : Blk) = some ⟨.ints .u8 (pcL 3 (x + 1)), true⟩; rw [L3]
      · show some (⟨.ints .u8 (pcL 5 x), true⟩ : Blk) = some ⟨.ints .u8 (pcL 5 (x + 1)), true⟩; rw [L5]
  · have hx' : x = 256 := by omega
    have l3 : (pcL 3 x).length = 56 := by subst hx'; decide +kernel
    have l5 : (pcL 5 x).length = 56 := by subst hx'; decide +kernel
    have e : colsL = (pcL 3 x).take 56 ++ (pcL 5 x).take 8 ++ pwL 8 := by subst hx'; rfl
    generalize pcL 3 x = A at l3 e
    generalize pcL 5 x = B at l5 e
    refine And.intro ⟨by omega, by omega⟩ ?_
    repeat (first | refine And.intro (by kernel_rfl) ?_ | refine And.intro (by decide) ?_)
    refine And.intro ⟨by show 0 + 56 ≤ A.length; omega, trivial⟩ ?_
    refine And.intro (by decide) ?_
    repeat (first | refine And.intro (by kernel_rfl) ?_ | refine And.intro (by decide) ?_)
    refine And.intro ⟨by omega, by omega⟩ ?_
    repeat (first | refine And.intro (by kernel_rfl) ?_ | refine And.intro (by decide) ?_)
    have lA : (List.take 56 (List.drop 0 A)).length = 56 := by simp [l3]
    refine And.intro ⟨by show 0 + 56 ≤ (List.take 56 (List.drop 0 A)).length; omega, trivial⟩ ?_
    refine And.intro ⟨by show 0 + 8 ≤ B.length; omega, trivial⟩ ?_
    repeat (first | refine And.intro (by kernel_rfl) ?_ | refine And.intro (by decide) ?_)
    have lO : (A.take 56 ++ B.take 8).length = 64 := by simp [l3, l5]
    refine ALoop.goN (X := Nat) (fun k => k ≤ 8) (fun k => 8 - k) [0] [] (fun k => [(3, .o (.c (.s 3 0 (64 + k) 1))), (35, int .i64 k)])
      (fun k => [(3, ⟨.ints .u8 (A.take 56 ++ B.take 8 ++ pwL k), true⟩)])
      0 4 (by omega) (.id ⟨rfl, rfl, trivial⟩ rfl ⟨.inl ?_, trivial⟩ rfl) ?_
    · show some (⟨.ints .u8 (List.take (0 + 56) (List.drop 0 (List.take 56 (List.drop 0 A))) ++ List.take 8 (List.drop 0 B)), true⟩ : Blk) = some ⟨.ints .u8 (List.take 56 A ++ List.take 8 B ++ pwL 0), true⟩
      simp [pwL, List.take_take]
    intro k hk
    have lp : (pwL k).length = k := by simp [pwL]
    have lQ : (A.take 56 ++ B.take 8 ++ pwL k).length = 64 + k := by rw [List.length_append, lO, lp]
    dsimp only [headF, headM]
    refine bselD (fun h => ?_) (fun h => ?_)
    · have wi : IntKind.i64.wrap ((k : Int) + 1) = ((k + 1 : Nat) : Int) := wrap64_in (by omega) (by omega)
      have ps : pwL (k + 1) = pwL k ++ [((2 ^ k : Nat) : Int)] := by simp [pwL, List.range_succ]
      repeat refine AJoin.plain ?_
      refine And.intro (by omega) ?_
      repeat (first | refine And.intro (by kernel_rfl) ?_ | refine And.intro (by decide) ?_)
      generalize hQ : A.take 56 ++ B.take 8 ++ pwL k = Q at lQ
      refine And.intro ⟨by show 0 + (64 + k) ≤ Q.length; omega, trivial⟩ ?_
      refine And.intro ⟨by show (0 + (0 + 1)) ≤ 1; omega, trivial⟩ ?_
      refine And.intro (by show (64 + k) + 1 ≤ 4294967296; omega) ?_
      repeat (first | refine And.intro (by kernel_rfl) ?_ | refine And.intro (by decide) ?_)
      refine ⟨k + 1, ⟨by omega, by show 8 - (k + 1) < 8 - k; omega⟩, isAt.go [(3, .to 5)] ⟨rfl, congrArg (int .i64) wi, trivial⟩ ⟨.inl ?_, trivial⟩⟩
      have wk : IntKind.u8.wrap (1 * 2 ^ min (k : Int).toNat IntKind.u8.bits) = ((2 ^ k : Nat) : Int) := by
        have : ∀ j : Fin 8, IntKind.u8.wrap (1 * 2 ^ min (j.val : Int).toNat IntKind.u8.bits) = ((2 ^ j.val : Nat) : Int) := by decide +kernel
        exact this ⟨k, by omega⟩
      show some (⟨.ints .u8 (List.take (64 + k) (List.drop 0 Q) ++ [IntKind.u8.wrap (1 * 2 ^ min (k : Int).toNat IntKind.u8.bits)]), true⟩ : Blk) = some ⟨.ints .u8 (A.take 56 ++ B.take 8 ++ pwL (k + 1)), true⟩
      rw [wk, ps, ← List.append_assoc, hQ, ← lQ]
      simp
    · have hk' : k = 8 := by omega
      have hr : ∀ L : List Int, L.length = 64 + k → L = colsL → ∃ a : List Int, a = colsL ∧
        isEnd 0 [none, none, none, some ⟨.ints .u8 L, true⟩]
          (tupA [V1.c (C.s 3 0 (64 + k) 1)]) (SV.o (V1.c (C.s 0 0 a.length 1))) [u8s a true] := by
        intro L hL hE
        exact ⟨L, hE, isEnd.go [(0, .to 3)] (by rw [hL]; rfl) ⟨.inl rfl, trivial⟩⟩
      have r := hr _ lQ (by rw [e, hk'])
      first | exact r | exact And.intro (by kernel_rfl) r
set_option maxRecDepth 10000 in
theorem colsL_len : colsL.length = 72 := by decide +kernel
end Go.Sx.T1
namespace Go.Sx.T1
open Go.Proofs
def tb (w : List Int) (n : Nat) : Bool := bitI .and .u8 ((w.getD (n / 8) 0).fdiv (2 ^ min (n % 8) IntKind.u8.bits)) 1 == 1
def synF (w cs : List Int) : Nat → Int
  | 0 => 0
  | n + 1 => if tb w n then bitI .xor .u8 (synF w cs n) (cs.getD n 0) else synF w cs n
set_option maxHeartbeats 3200000 in
set_option maxRecDepth 10000 in
theorem syn_fc (w cs : List Int) (hw : w.length ≤ 9) (hc : cs.length = 72) :
    FC Try.prog 22 [.o (.c (.s 0 0 w.length 1)), .o (.c (.s 1 0 cs.length 1))] [u8s w false, u8s cs false] (int .u8 (synF w cs (8 * w.length))) [u8s w false, u8s cs false] := by
  refine FC.one (FC.rj mix Try.func22 ?_)
  have wm : IntKind.i64.wrap (8 * (w.length : Int)) = ((8 * w.length : Nat) : Int) := wrap64_in (by omega) (by omega)
  have hn : (IntKind.i64.wrap (8 * (w.length : Int))).toNat = 8 * w.length := by rw [wm]; omega
  refine And.intro ⟨by rw [wm]; omega, by rw [wm]; omega⟩ ?_
  repeat (first | refine And.intro (by kernel_rfl) ?_ | refine And.intro (by decide) ?_)
  refine ALoop.go (X := Nat × Int) (fun p => p.1 ≤ 8 * w.length ∧ p.2 = synF w cs p.1) (fun p => 8 * w.length - p.1) [0, 1, 4, 12, 13] [0, 1] (fun p => [(14, int .i64 p.1), (5, int .u8 p.2)])
    (fun p => [])
    (0, 0) ⟨Nat.zero_le _, rfl⟩ ⟨rfl, rfl, trivial⟩ trivial ?_
  rintro ⟨i, s⟩ ⟨h1, h2⟩
  simp only at h1 h2
  dsimp only [headF, headM]
  refine bselD (fun h => ?_) (fun h => ?_)
  · rw [hn] at h
    have h' : i < 8 * w.length := by omega
    have wi : IntKind.i64.wrap ((i : Int) + 1) = ((i + 1 : Nat) : Int) := wrap64_in (by omega) (by omega)
    repeat refine AJoin.plain ?_
    refine And.intro ⟨by omega, by rw [hn]; omega⟩ ?_
    refine And.intro (by show 0 + i < cs.length; omega) ?_
    repeat refine AJoin.plain ?_
    repeat (first | refine And.intro (by kernel_rfl) ?_ | refine And.intro (by decide) ?_)
    have q0 : IntKind.i64.wrap ((i : Int).tdiv 8) = ((i / 8 : Nat) : Int) := wrap64_in (n := ((i / 8 : Nat) : Int)) (by omega) (by omega)
    have r0 : (i : Int).tmod 8 = ((i % 8 : Nat) : Int) := rfl
    have q1 : (IntKind.i64.wrap ((i : Int).tdiv 8)).toNat = i / 8 := by rw [q0]; omega
    have r1 : ((i : Int).tmod 8).toNat = i % 8 := by rw [r0]; omega
    refine And.intro ⟨by rw [q0]; omega, by rw [q0]; omega⟩ ?_
    refine And.intro (by show 0 + (IntKind.i64.wrap ((i : Int).tdiv 8)).toNat < w.length; rw [q1]; omega) ?_
    repeat (first | refine And.intro (by kernel_rfl) ?_ | refine And.intro (by decide) ?_)
    refine And.intro (by rw [r0]; omega) ?_
    have htb : (bitI .and .u8 ((w.getD (0 + (IntKind.i64.wrap ((i : Int).tdiv 8)).toNat) 0).fdiv (2 ^ min ((i : Int).tmod 8).toNat IntKind.u8.bits)) 1 == 1) = tb w i := by
      rw [q1, r1, Nat.zero_add]; rfl
    repeat (first | refine And.intro (by kernel_rfl) ?_ | refine And.intro (by decide) ?_)
    repeat refine AJoin.plain ?_
    refine bselE (fun c => ?_) (fun c => ?_)
    · have hs : synF w cs (i + 1) = bitI .xor .u8 (synF w cs i) (cs.getD i 0) := by
        have : tb w i = true := by rw [← htb, c]; rfl
        simp [synF, this]
      repeat (first | refine And.intro (by kernel_rfl) ?_ | refine And.intro (by decide) ?_)
      refine ⟨(i + 1, bitI .xor .u8 s (cs.getD (0 + i) 0)), ⟨⟨by simp only; omega, by simp only [Nat.zero_add]; rw [hs, h2]⟩, by show 8 * w.length - (i + 1) < 8 * w.length - i; omega⟩, .id ⟨congrArg (int .i64) wi, rfl, trivial⟩ rfl trivial rfl⟩
    · have hs : synF w cs (i + 1) = synF w cs i := by
        have : tb w i = false := by rw [← htb]; exact beq_false_of_ne c
        simp [synF, this]
      repeat (first | refine And.intro (by kernel_rfl) ?_ | refine And.intro (by decide) ?_)
      refine ⟨(i + 1, s), ⟨⟨by simp only; omega, by simp only; rw [hs, h2]⟩, by show 8 * w.length - (i + 1) < 8 * w.length - i; omega⟩, .id ⟨congrArg (int .i64) wi, rfl, trivial⟩ rfl trivial rfl⟩
  · rw [hn] at h
    have h' : i = 8 * w.length := by omega
    subst h'
    subst h2
    first | exact ⟨(), trivial, .id rfl ⟨.inl rfl, .inl rfl, trivial⟩⟩ | exact And.intro (by kernel_rfl) ⟨(), trivial, .id rfl ⟨.inl rfl, .inl rfl, trivial⟩⟩
end Go.Sx.T1
namespace Go.Sx.T1
open Go.Proofs
def u8e (v e : Int) : SV := .t [.c (.v (.int .u8 v)), .c (.v (.int .i64 e))]
set_option maxHeartbeats 3200000 in
set_option maxRecDepth 10000 in
theorem column_fc (b : Nat) (hb : b < 72) : ∃ v : Int, FC Try.prog 14 [int .i64 b] [] (u8e v 0) [] ∧ v = colsL.getD b 0 := by
  refine FC.r mix Try.func14 ?_
  refine bselD (fun h => by exfalso; have : (b : Int) ≥ 72 := h; omega) (fun h => ?_)
  refine FC.x columns_fc [] (fun L hL => ?_)
  have ll : L.length = 72 := by rw [hL]; exact colsL_len
  refine And.intro ⟨by omega, by omega⟩ ?_
  refine And.intro (by show 0 + b < L.length; omega) ?_
  repeat (first | refine And.intro (by kernel_rfl) ?_ | refine And.intro (by decide) ?_)
  refine ⟨L.getD b 0, by rw [hL], .id ?_ trivial⟩
  show SV.t [.c (.v (.int .u8 (L.getD (0 + b) 0))), .c (.v (.int .i64 0))] = u8e (L.getD b 0) 0
  rw [Nat.zero_add]; rfl
set_option maxHeartbeats 3200000 in
set_option maxRecDepth 10000 in
theorem syndrome_fc (w : List Int) (hw : w.length = 9) : ∃ v : Int, FC Try.prog 15 [.o (.c (.s 0 0 w.length 1))] [u8s w false] (u8e v 0) [u8s w false] ∧ v = synF w colsL 72 := by
  refine FC.r mix Try.func15 ?_
  refine bselN (fun h => by exfalso; have : (w.length : Int) ≠ 9 := h; omega) (fun h => ?_)
  refine FC.x columns_fc [] (fun L hL => ?_)
  have ll : L.length = 72 := by rw [hL]; exact colsL_len
  refine FC.u (syn_fc w L (by omega) ll) [0, 1] ?_
  repeat (first | refine And.intro (by kernel_rfl) ?_ | refine And.intro (by decide) ?_)
  refine ⟨synF w L (8 * w.length), by rw [hL, hw], .id rfl ⟨.inl rfl, trivial⟩⟩
def idxL (v : Int) : List Int → Nat → Int
  | [], _ => -1
  | x :: xs, i => if v = x then (i : Int) else idxL v xs (i + 1)
theorem idxL_no {v : Int} {x : Int} {xs : List Int} {i : Nat} (h : v ≠ x) : idxL v (x :: xs) i = idxL v xs (i + 1) := by simp [idxL, h]
theorem drop_cons {xs : List Int} {i : Nat} (h : i < xs.length) : xs.drop i = xs.getD i 0 :: xs.drop (i + 1) := by
  rw [List.drop_eq_getElem_cons h]; simp [List.getD, List.getElem?_eq_getElem h]
set_option maxHeartbeats 3200000 in
set_option maxRecDepth 10000 in
theorem index_fc (xs : List Int) (v : Int) (h32 : xs.length ≤ 4294967296) : FC Try.prog 25 [.o (.c (.s 0 0 xs.length 1)), int .u8 v] [u8s xs false] (int .i64 (idxL v xs 0)) [u8s xs false] := by
  refine FC.one (FC.rj mix Try.func25 ?_)
  refine ALoop.go (X := Nat) (fun i => i ≤ xs.length ∧ idxL v xs 0 = idxL v (xs.drop i) i) (fun i => xs.length - i) [0, 1, 4, 7] [0] (fun i => [(8, int .i64 i)])
    (fun _ => []) 0 ⟨Nat.zero_le _, rfl⟩ ⟨rfl, trivial⟩ trivial ?_
  rintro i ⟨h1, h2⟩
  dsimp only [headF, headM]
  refine bselD (fun h => ?_) (fun h => ?_)
  · have h' : i < xs.length := by omega
    have wi : IntKind.i64.wrap ((i : Int) + 1) = ((i + 1 : Nat) : Int) := wrap64_in (by omega) (by omega)
    rw [drop_cons h'] at h2
    repeat refine AJoin.plain ?_
    refine And.intro ⟨by omega, by omega⟩ ?_
    refine And.intro (by show 0 + i < xs.length; omega) ?_
    repeat (first | refine And.intro (by kernel_rfl) ?_ | refine And.intro (by decide) ?_)
    repeat refine AJoin.plain ?_
    refine bselE (fun c => ?_) (fun c => ?_)
    · have c' : v = xs.getD i 0 := by
        have : v = xs.getD (0 + i) 0 := c
        rwa [Nat.zero_add] at this
      have e : idxL v xs 0 = i := by rw [h2]; simp only [idxL]; rw [if_pos c']
      rw [e]
      first | exact ⟨(), trivial, .id rfl ⟨.inl rfl, trivial⟩⟩ | exact And.intro (by kernel_rfl) ⟨(), trivial, .id rfl ⟨.inl rfl, trivial⟩⟩
    · have c' : v ≠ xs.getD i 0 := by
        have : v ≠ xs.getD (0 + i) 0 := c
        rwa [Nat.zero_add] at this
      rw [idxL_no c'] at h2
      repeat (first | refine And.intro (by kernel_rfl) ?_ | refine And.intro (by decide) ?_)
      exact ⟨i + 1, ⟨⟨by omega, h2⟩, by show xs.length - (i + 1) < xs.length - i; omega⟩, .id ⟨congrArg (int .i64) wi, trivial⟩ rfl trivial rfl⟩
  · have e : idxL v xs 0 = -1 := by rw [h2, List.drop_eq_nil_of_le (by omega)]; rfl
    rw [e]
    first | exact ⟨(), trivial, .id rfl ⟨.inl rfl, trivial⟩⟩ | exact And.intro (by kernel_rfl) ⟨(), trivial, .id rfl ⟨.inl rfl, trivial⟩⟩
end Go.Sx.T1
namespace Go.Sx.T1
open Go.Proofs
def decV (o : Int) (n m : Nat) (W C : List Int) (bit e : Int) : SV := .t [.a [.v (.int .i64 o), .s n 0 W.length 1, .s m 0 C.length 1], .c (.v (.int .i64 bit)), .c (.v (.int .i64 e))]
def flipB (w : List Int) (b : Nat) : List Int := w.set (b / 8) (bitI .xor .u8 (w.getD (b / 8) 0) (IntKind.u8.wrap (1 * 2 ^ min (b % 8) IntKind.u8.bits)))
theorem syn_fc9 (w cs : List Int) (hw : w.length = 9) (hc : cs.length = 72) :
    ∃ s : Int, FC Try.prog 22 [.o (.c (.s 0 0 w.length 1)), .o (.c (.s 1 0 cs.length 1))] [u8s w false, u8s cs false] (int .u8 s) [u8s w false, u8s cs false] ∧ s = synF w cs 72 :=
  ⟨_, syn_fc w cs (by omega) hc, by rw [hw]⟩
theorem index_x (xs : List Int) (v : Int) (h32 : xs.length ≤ 4294967296) :
    ∃ i : Int, FC Try.prog 25 [.o (.c (.s 0 0 xs.length 1)), int .u8 v] [u8s xs false] (int .i64 i) [u8s xs false] ∧ i = idxL v xs 0 := ⟨_, index_fc xs v h32, rfl⟩
theorem clone_w (xs : List Int) (h32 : xs.length ≤ 4294967296) :
    FC Try.prog 24 [.o (.c (.s 0 0 xs.length 1))] [u8s xs false] (.o (.c (.s 1 0 xs.length 1))) [u8s xs false, u8s xs true] := by
  have := clone_fc xs xs.length (Nat.le_refl _) h32
  rwa [List.take_length] at this
set_option maxHeartbeats 3200000 in
set_option maxRecDepth 10000 in
theorem decode_fix (w : List Int) (b : Nat) (hw : w.length = 9) (hb : b < 72) (hs : synF w colsL 72 ≠ 0) (hi : idxL (synF w colsL 72) colsL 0 = b) :
    ∃ W : List Int, FC Try.prog 12 [.o (.c (.s 0 0 w.length 1))] [u8s w false] (decV 1 1 2 W [((b / 8 : Nat) : Int)] b 0) [u8s w false, u8s W true, some ⟨.ints .i64 [((b / 8 : Nat) : Int)], true⟩] ∧ W = flipB w b := by
  refine FC.r mix Try.func12 ?_
  refine bselN (fun h => by exfalso; have : (w.length : Int) ≠ 9 := h; omega) (fun h => ?_)
  refine FC.x columns_fc [] (fun L hL => ?_)
  have ll : L.length = 72 := by rw [hL]; exact colsL_len
  refine FC.x (syn_fc9 w L hw ll) [0, 2] (fun s es => ?_)
  rw [hL] at es
  refine bselE (fun h => by exfalso; have : s = 0 := h; exact hs (es ▸ this)) (fun h => ?_)
  refine FC.x (index_x L s (by omega)) [2] (fun i ei => ?_)
  have ei' : i = (b : Int) := by rw [ei, hL, es]; exact hi
  subst ei'
  refine FC.u (clone_w w (by omega)) [0] ?_
  repeat (first | refine And.intro (by kernel_rfl) ?_ | refine And.intro (by decide) ?_)
  have q0 : IntKind.i64.wrap ((b : Int).tdiv 8) = ((b / 8 : Nat) : Int) := wrap64_in (n := ((b / 8 : Nat) : Int)) (by omega) (by omega)
  have r0 : (b : Int).tmod 8 = ((b % 8 : Nat) : Int) := rfl
  have q1 : (IntKind.i64.wrap ((b : Int).tdiv 8)).toNat = b / 8 := by rw [q0]; omega
  have r1 : ((b : Int).tmod 8).toNat = b % 8 := by rw [r0]; omega
  refine And.intro ⟨by rw [q0]; omega, by rw [q0]; omega⟩ ?_
  refine And.intro (by show 0 + (IntKind.i64.wrap ((b : Int).tdiv 8)).toNat < w.length; rw [q1]; omega) ?_
  repeat (first | refine And.intro (by kernel_rfl) ?_ | refine And.intro (by decide) ?_)
  refine And.intro (by rw [r0]; omega) ?_
  repeat (first | refine And.intro (by kernel_rfl) ?_ | refine And.intro (by decide) ?_)
  refine And.intro ⟨by rw [q0]; omega, by rw [q0]; omega⟩ ?_
  repeat (first | refine And.intro (by kernel_rfl) ?_ | refine And.intro (by decide) ?_)
  refine And.intro (by show 0 + (IntKind.i64.wrap ((b : Int).tdiv 8)).toNat < w.length; rw [q1]; omega) ?_
  repeat (first | refine And.intro (by kernel_rfl) ?_ | refine And.intro (by decide) ?_)
  refine ⟨w.set (0 + (IntKind.i64.wrap ((b : Int).tdiv 8)).toNat) (bitI .xor .u8 (w.getD (0 + (IntKind.i64.wrap ((b : Int).tdiv 8)).toNat) 0) (IntKind.u8.wrap (1 * 2 ^ min ((b : Int).tmod 8).toNat IntKind.u8.bits))), by rw [q1, r1, Nat.zero_add]; rfl, isEnd.go [(1, .to 3), (2, .to 4)] ?_ ⟨.inl rfl, .inl rfl, .inl ?_, trivial⟩⟩
  · simp only [decV, List.length_set]
    rfl
  · rw [q0]; rfl
end Go.Sx.T1
namespace Go.Sx.T1
open Go.Proofs
set_option maxRecDepth 10000 in
theorem c1 : colsL.getD 1 0 = 11 := by decide +kernel
set_option maxRecDepth 10000 in
theorem c56 : colsL.getD 56 0 = 31 := by decide +kernel
def w0 : List Int := [0, 0, 4, 0, 0, 0, 0, 0, 0]
set_option maxRecDepth 10000 in
theorem s0 : synF w0 colsL 72 ≠ 0 := by decide +kernel
set_option maxRecDepth 10000 in
theorem i0 : idxL (synF w0 colsL 72) colsL 0 = (18 : Nat) := by decide +kernel
theorem dec0 : ∃ W : List Int, FC Try.prog 12 [.o (.c (.s 0 0 9 1))] [some ⟨.ints .u8 [0, 0, 4, 0, 0, 0, 0, 0, 0], false⟩] (decV 1 1 2 W [2] 18 0) [some ⟨.ints .u8 [0, 0, 4, 0, 0, 0, 0, 0, 0], false⟩, u8s W true, some ⟨.ints .i64 [2], true⟩] ∧ W.length = 9 := by
  obtain ⟨W, h, e⟩ := decode_fix w0 18 rfl (by omega) s0 i0
  exact ⟨W, h, by rw [e]; simp [flipB, w0]⟩
theorem col1 : FC Try.prog 14 [int .i64 1] [] (u8e 11 0) [] := by
  obtain ⟨v, h, e⟩ := column_fc 1 (by omega)
  rw [c1] at e
  subst e
  exact h
theorem col56 : FC Try.prog 14 [int .i64 56] [] (u8e 31 0) [] := by
  obtain ⟨v, h, e⟩ := column_fc 56 (by omega)
  rw [c56] at e
  subst e
  exact h
set_option maxHeartbeats 3200000 in
set_option maxRecDepth 10000 in
theorem awake_fc : FC Try.prog 8 [] [] (boo true) [] := by
  refine FC.one (FC.r mix Try.func8 ?_)
  refine FC.u col1 [] ?_
  refine FC.u col56 [] ?_
  refine FC.x dec0 [0] (fun W hW => ?_)
  repeat (first | refine And.intro (by kernel_rfl) ?_ | refine And.intro (by decide) ?_)
  exact ⟨(), trivial, .id rfl trivial⟩
end Go.Sx.T1
namespace Go.Sx.T1
open Go.Proofs
theorem bytes_b (ts : List Int) (k n : Nat) (hl : ts.length ≤ 400) (hn : n ≤ 100000) :
    ∃ D : List Int, FC Try.prog 10 [.o (.c (.p 0 0 0)), int .i64 n] [diceB ts k, diceL ts] (.o (.c (.s 2 0 n 1))) [diceB ts (k + n), diceL ts, u8s D true] ∧ D.length = n ∧ ∀ j, 0 ≤ D.getD j 0 ∧ D.getD j 0 < 256 := by
  refine ⟨dBytes ts k n, bytes_fc ts k n hl hn, dBytes_length ts k n, fun j => ?_⟩
  by_cases hj : j < n
  · have : (dBytes ts k n).getD j 0 = dv ts (k + j) 256 := by simp [dBytes, hj]
    rw [this]
    exact dv_bd ts (k + j) (n := 256) (by omega)
  · have : (dBytes ts k n).getD j 0 = 0 := by simp [dBytes, hj]
    rw [this]
    omega
theorem colsL_odd : ∀ i : Fin 72, 0 ≤ colsL.getD i.val 0 ∧ colsL.getD i.val 0 < 256 ∧ pc (colsL.getD i.val 0).toNat % 2 = 1 := by decide +kernel
theorem colsL_idx : ∀ i : Fin 72, idxL (colsL.getD i.val 0) colsL 0 = (i.val : Int) := by decide +kernel
theorem colsL_inj {i k : Nat} (hi : i < 72) (hk : k < 72) (h : colsL.getD i 0 = colsL.getD k 0) : i = k := by
  have a := colsL_idx ⟨i, hi⟩
  have b := colsL_idx ⟨k, hk⟩
  simp only at a b
  rw [h, b] at a
  omega
def kern (v : Int) : Int := bitI .and .u8 v (IntKind.u8.wrap (v - 1))
theorem kern_ok : ∀ v : Fin 256, v.val ≠ 0 → 0 ≤ kern (v.val : Nat) ∧ (kern (v.val : Nat)) < (v.val : Nat) ∧ pc (kern (v.val : Nat)).toNat + 1 = pc v.val := by decide +kernel
theorem xorN {m n : Nat} (hm : m < 256) (hn : n < 256) : bitI .xor .u8 (m : Int) (n : Int) = ((m ^^^ n : Nat) : Int) := by
  have h : m ^^^ n < 2 ^ 8 := Nat.xor_lt_two_pow (by omega) (by omega)
  show IntKind.u8.wrap ((BitVec.ofInt 8 (m : Int) ^^^ BitVec.ofInt 8 (n : Int)).toNat : Int) = _
  rw [BitVec.ofInt_natCast, BitVec.ofInt_natCast, BitVec.toNat_xor, BitVec.toNat_ofNat, BitVec.toNat_ofNat, Nat.mod_eq_of_lt hm, Nat.mod_eq_of_lt hn]
  exact wrapU8_in (by omega) (by omega)
theorem tbN : ∀ m : Fin 256, ∀ k : Fin 8, (bitI .and .u8 (((m.val : Nat) : Int).fdiv (2 ^ min k.val IntKind.u8.bits)) 1 == 1) = m.val.testBit k.val := by decide +kernel
theorem tb_eq {w : List Int} {n m : Nat} (h : w.getD (n / 8) 0 = (m : Int)) (hm : m < 256) : tb w n = m.testBit (n % 8) := by
  unfold tb
  rw [h]
  exact tbN ⟨m, hm⟩ ⟨n % 8, by omega⟩
def xorL (x y : List Int) (j : Nat) : List Int := (List.range j).map fun i => bitI .xor .u8 (x.getD i 0) (y.getD i 0)
theorem xorL_len (x y : List Int) (j : Nat) : (xorL x y j).length = j := by simp [xorL]
theorem xorL_succ (x y : List Int) (j : Nat) : xorL x y (j + 1) = xorL x y j ++ [bitI .xor .u8 (x.getD j 0) (y.getD j 0)] := by simp [xorL, List.range_succ]
theorem syn_lin {x y : List Int} (hx : ∀ j, 0 ≤ x.getD j 0 ∧ x.getD j 0 < 256) (hy : ∀ j, 0 ≤ y.getD j 0 ∧ y.getD j 0 < 256) (n : Nat) (hn : n ≤ 72) :
    ∃ p q : Nat, p < 256 ∧ q < 256 ∧ synF x colsL n = p ∧ synF y colsL n = q ∧ synF (xorL x y 9) colsL n = ((p ^^^ q : Nat) : Int) := by
  induction n with
  | zero => exact ⟨0, 0, by omega, by omega, rfl, rfl, rfl⟩
  | succ n ih =>
    obtain ⟨p, q, hp, hq, e1, e2, e3⟩ := ih (by omega)
    obtain ⟨c0, c1, -⟩ := colsL_odd ⟨n, by omega⟩
    simp only at c0 c1
    obtain ⟨c, hc⟩ : ∃ c : Nat, colsL.getD n 0 = c := ⟨(colsL.getD n 0).toNat, by omega⟩
    have hc' : c < 256 := by omega
    obtain ⟨a, ha⟩ : ∃ a : Nat, x.getD (n / 8) 0 = a := ⟨(x.getD (n / 8) 0).toNat, by have := hx (n / 8); omega⟩
    obtain ⟨b, hb⟩ : ∃ b : Nat, y.getD (n / 8) 0 = b := ⟨(y.getD (n / 8) 0).toNat, by have := hy (n / 8); omega⟩
    have ha' : a < 256 := by have := (hx (n / 8)).2; omega
    have hb' : b < 256 := by have := (hy (n / 8)).2; omega
    have hz : (xorL x y 9).getD (n / 8) 0 = ((a ^^^ b : Nat) : Int) := by
      have : n / 8 < 9 := by omega
      have e : (xorL x y 9).getD (n / 8) 0 = bitI .xor .u8 (x.getD (n / 8) 0) (y.getD (n / 8) 0) := by simp [xorL, this]
      rw [e, ha, hb, xorN ha' hb']
    have t1 := tb_eq ha ha'
    have t2 := tb_eq hb hb'
    have t3 := tb_eq hz (Nat.xor_lt_two_pow (n := 8) ha' hb')
    rw [Nat.testBit_xor, ← t1, ← t2] at t3
    have xl {u v : Nat} (hu : u < 256) (hv : v < 256) : u ^^^ v < 256 := Nat.xor_lt_two_pow (n := 8) hu hv
    have pq := xl hp hq
    simp only [synF, hc, e1, e2, e3, t3]
    rcases Bool.eq_false_or_eq_true (tb x n) with h1 | h1 <;> rcases Bool.eq_false_or_eq_true (tb y n) with h2 | h2 <;> simp only [h1, h2, Bool.xor_false, Bool.xor_true, Bool.false_xor, Bool.true_xor, Bool.not_true, Bool.not_false, if_true, if_false, Bool.false_eq_true]
    · refine ⟨p ^^^ c, q ^^^ c, xl hp hc', xl hq hc', xorN hp hc', xorN hq hc', ?_⟩
      rw [Nat.xor_assoc, Nat.xor_comm q c, ← Nat.xor_assoc c c q, Nat.xor_self, Nat.zero_xor]
    · refine ⟨p ^^^ c, q, xl hp hc', hq, xorN hp hc', rfl, ?_⟩
      rw [xorN pq hc', Nat.xor_assoc, Nat.xor_assoc, Nat.xor_comm q c]
    · refine ⟨p, q ^^^ c, hp, xl hq hc', rfl, xorN hq hc', ?_⟩
      rw [xorN pq hc', Nat.xor_assoc]
    · exact ⟨p, q, hp, hq, rfl, rfl, rfl⟩
end Go.Sx.T1
namespace Go.Sx.T1
open Go.Proofs
set_option maxHeartbeats 3200000 in
set_option maxRecDepth 10000 in
theorem decode_lost (w : List Int) (hw : w.length = 9) (hs : synF w colsL 72 ≠ 0) (hi : idxL (synF w colsL 72) colsL 0 < 0) :
    FC Try.prog 12 [.o (.c (.s 0 0 w.length 1))] [u8s w false] (.t [.a [.v (.int .i64 2), .v (.slice none 0 0), .v (.slice none 0 0)], .c (.v (.int .i64 (-1))), .c (.v (.int .i64 0))]) [u8s w false] := by
  refine FC.one (FC.r mix Try.func12 ?_)
  refine bselN (fun h => by exfalso; have : (w.length : Int) ≠ 9 := h; omega) (fun h => ?_)
  refine FC.x columns_fc [] (fun L hL => ?_)
  have ll : L.length = 72 := by rw [hL]; exact colsL_len
  refine FC.x (syn_fc9 w L hw ll) [0, 2] (fun s es => ?_)
  rw [hL] at es
  refine bselE (fun h => by exfalso; have : s = 0 := h; exact hs (es ▸ this)) (fun h => ?_)
  refine FC.x (index_x L s (by omega)) [2] (fun i ei => ?_)
  have ei' : i < 0 := by rw [ei, hL, es]; exact hi
  refine bselD (fun h => ?_) (fun h => absurd ei' h)
  repeat (first | refine And.intro (by kernel_rfl) ?_ | refine And.intro (by decide) ?_)
  exact ⟨(), trivial, .id rfl ⟨.inl rfl, trivial⟩⟩
set_option maxHeartbeats 3200000 in
set_option maxRecDepth 10000 in
theorem decode_clean (w : List Int) (hw : w.length = 9) (hs : synF w colsL 72 = 0) :
    FC Try.prog 12 [.o (.c (.s 0 0 w.length 1))] [u8s w false] (.t [.a [.v (.int .i64 0), .s 1 0 w.length 1, .v (.slice none 0 0)], .c (.v (.int .i64 (-1))), .c (.v (.int .i64 0))]) [u8s w false, u8s w true] := by
  refine FC.one (FC.r mix Try.func12 ?_)
  refine bselN (fun h => by exfalso; have : (w.length : Int) ≠ 9 := h; omega) (fun h => ?_)
  refine FC.x columns_fc [] (fun L hL => ?_)
  have ll : L.length = 72 := by rw [hL]; exact colsL_len
  refine FC.x (syn_fc9 w L hw ll) [0, 2] (fun s es => ?_)
  rw [hL] at es
  refine bselE (fun h => ?_) (fun h => by exfalso; have : s ≠ 0 := h; exact this (es.trans hs))
  refine FC.u (clone_w w (by omega)) [0] ?_
  repeat (first | refine And.intro (by kernel_rfl) ?_ | refine And.intro (by decide) ?_)
  exact ⟨(), trivial, isEnd.go [(1, .to 3)] rfl ⟨.inl rfl, .inl rfl, trivial⟩⟩
set_option maxHeartbeats 3200000 in
set_option maxRecDepth 10000 in
theorem decode_size (w : List Int) (hw : w.length ≠ 9) :
    FC Try.prog 12 [.o (.c (.s 0 0 w.length 1))] [u8s w false] (.t [.a [.v (.int .i64 0), .v (.slice none 0 0), .v (.slice none 0 0)], .c (.v (.int .i64 0)), .c (.v (.int .i64 7))]) [u8s w false] := by
  refine FC.one (FC.r mix Try.func12 ?_)
  refine bselN (fun h => ?_) (fun h => by exfalso; have : (w.length : Int) = 9 := h; omega)
  repeat (first | refine And.intro (by kernel_rfl) ?_ | refine And.intro (by decide) ?_)
  exact ⟨(), trivial, .id rfl ⟨.inl rfl, trivial⟩⟩
end Go.Sx.T1
namespace Go.Sx.T1
open Go.Proofs
set_option maxHeartbeats 3200000 in
set_option maxRecDepth 10000 in
theorem check_fc (w : List Int) (hw : w.length = 8) : ∃ v : Int, FC Try.prog 11 [.o (.c (.s 0 0 w.length 1))] [u8s w false] (u8e v 0) [u8s w false] ∧ v = synF w colsL 64 := by
  refine FC.r mix Try.func11 ?_
  refine bselN (fun h => by exfalso; have : (w.length : Int) ≠ 8 := h; omega) (fun h => ?_)
  refine FC.x columns_fc [] (fun L hL => ?_)
  have ll : L.length = 72 := by rw [hL]; exact colsL_len
  refine FC.u (syn_fc w L (by omega) ll) [0, 1] ?_
  repeat (first | refine And.intro (by kernel_rfl) ?_ | refine And.intro (by decide) ?_)
  refine ⟨synF w L (8 * w.length), by rw [hL, hw], .id rfl ⟨.inl rfl, trivial⟩⟩
set_option maxHeartbeats 3200000 in
set_option maxRecDepth 10000 in
theorem check_no (w : List Int) (hw : w.length ≠ 8) : FC Try.prog 11 [.o (.c (.s 0 0 w.length 1))] [u8s w false] (u8e 0 7) [u8s w false] := by
  refine FC.one (FC.r mix Try.func11 ?_)
  refine bselN (fun h => ?_) (fun h => by exfalso; have : (w.length : Int) = 8 := h; omega)
  repeat (first | refine And.intro (by kernel_rfl) ?_ | refine And.intro (by decide) ?_)
  exact ⟨(), trivial, .id rfl ⟨.inl rfl, trivial⟩⟩
set_option maxHeartbeats 3200000 in
set_option maxRecDepth 10000 in
theorem syndrome_no (w : List Int) (hw : w.length ≠ 9) : FC Try.prog 15 [.o (.c (.s 0 0 w.length 1))] [u8s w false] (u8e 0 7) [u8s w false] := by
  refine FC.one (FC.r mix Try.func15 ?_)
  refine bselN (fun h => ?_) (fun h => by exfalso; have : (w.length : Int) = 9 := h; omega)
  repeat (first | refine And.intro (by kernel_rfl) ?_ | refine And.intro (by decide) ?_)
  exact ⟨(), trivial, .id rfl ⟨.inl rfl, trivial⟩⟩
set_option maxHeartbeats 3200000 in
set_option maxRecDepth 10000 in
theorem column_no (b : Int) (hb : b < 0 ∨ 72 ≤ b) : FC Try.prog 14 [int .i64 b] [] (u8e 0 2) [] := by
  refine FC.one (FC.r mix Try.func14 ?_)
  refine bselD (fun h => ?_) (fun h => ?_)
  · repeat (first | refine And.intro (by kernel_rfl) ?_ | refine And.intro (by decide) ?_)
    exact ⟨(), trivial, .id rfl trivial⟩
  · refine bselD (fun h2 => ?_) (fun h2 => by exfalso; have a : ¬ b < 0 := h; have c : ¬ b ≥ 72 := h2; omega)
    repeat (first | refine And.intro (by kernel_rfl) ?_ | refine And.intro (by decide) ?_)
    exact ⟨(), trivial, .id rfl trivial⟩
end Go.Sx.T1
namespace Go.Sx.T1
open Go.Proofs
def kernI (v : Int) : Int := bitI .and .i64 v (IntKind.i64.wrap (v - 1))
theorem kernI_ok : ∀ v : Fin 256, v.val ≠ 0 → 0 ≤ kernI (v.val : Nat) ∧ (kernI (v.val : Nat)) < (v.val : Nat) ∧ pc (kernI (v.val : Nat)).toNat + 1 = pc v.val := by decide +kernel
theorem pc_le8 (x : Nat) : pc x ≤ 8 := by unfold pc; omega
set_option maxHeartbeats 3200000 in
set_option maxRecDepth 10000 in
theorem weight_fc (b : Nat) (hb : b < 256) : FC Try.prog 29 [int .i64 b] [] (int .i64 (pc b)) [] := by
  refine FC.one (FC.rj mix Try.func29 ?_)
  have pb := pc_le8 b
  refine ALoop.go (X := Nat × Nat) (fun p => p.1 < 256 ∧ p.2 + pc p.1 = pc b) (fun p => p.1) [2] [] (fun p => [(0, int .i64 p.1), (3, int .i64 p.2)])
    (fun _ => []) (b, 0) ⟨hb, by show 0 + pc b = pc b; omega⟩ ⟨rfl, rfl, trivial⟩ trivial ?_
  rintro ⟨v, n⟩ ⟨v1, v2⟩
  simp only at v1 v2
  dsimp only [headF, headM]
  refine bselN (fun hv => ?_) (fun hv => ?_)
  · have hv' : v ≠ 0 := by intro e; exact hv (by rw [e]; rfl)
    obtain ⟨k1, k2, k3⟩ := kernI_ok ⟨v, v1⟩ hv'
    simp only at k1 k2 k3
    have wn : IntKind.i64.wrap ((n : Int) + 1) = ((n + 1 : Nat) : Int) := wrap64_in (by omega) (by omega)
    repeat refine AJoin.plain ?_
    repeat (first | refine And.intro (by kernel_rfl) ?_ | refine And.intro (by decide) ?_)
    refine ⟨((kernI v).toNat, n + 1), ⟨⟨by simp only; omega, by simp only; omega⟩, by show (kernI v).toNat < v; omega⟩, .id ⟨congrArg (int .i64) (show kernI v = ((kernI v).toNat : Int) by omega), congrArg (int .i64) wn, trivial⟩ rfl trivial rfl⟩
  · have hv' : v = 0 := by have : (v : Int) = 0 := hv; omega
    subst hv'
    have hn : n = pc b := v2
    subst hn
    first | exact ⟨(), trivial, .id rfl trivial⟩ | exact And.intro (by kernel_rfl) ⟨(), trivial, .id rfl trivial⟩
end Go.Sx.T1
namespace Go.Sx.T1
open Go.Proofs
theorem pcL_pre (n b c : Nat) : pcL n (b + c) = pcL n b ++ ((((List.range c).map (b + ·)).filter (fun b => pc b == n)).map (fun b : Nat => (b : Int))) := by simp [pcL, List.range_add]
theorem pcL_take {n b : Nat} (hb : b ≤ 256) : (pcL n 256).take (pcL n b).length = pcL n b := by
  obtain ⟨c, e⟩ : ∃ c, 256 = b + c := ⟨256 - b, by omega⟩
  rw [e, pcL_pre, List.take_left]
theorem pcL_stop : ∀ b : Fin 257, (pcL 5 b.val).length < 8 → b.val < 256 := by decide +kernel
set_option maxHeartbeats 3200000 in
set_option maxRecDepth 10000 in
theorem columnsR_fc : ∃ L : List Int, FC Try.prog 27 [] [] (.o (.c (.s 0 0 L.length 1))) [u8s L true] ∧ L = colsL := by
  refine FC.rj mix Try.func27 ?_
  refine ALoop.goN (X := Nat) (fun x => x ≤ 256) (fun x => 256 - x) [0] [] (fun x => [(1, .o (.c (.s 0 0 (pcL 3 x).length 1))), (2, int .i64 x)])
    (fun x => [(0, ⟨.ints .u8 (pcL 3 x), true⟩)])
    0 1 (by omega)
    (isAt.go [(0, .new 1)] ⟨rfl, rfl, trivial⟩ ⟨⟨.inr ⟨rfl, Nat.le_refl 1, fun _ h => absurd h (Nat.not_lt_zero _)⟩, rfl⟩, trivial⟩) ?_
  intro x hx
  dsimp only [headF, headM]
  refine bselD (fun h => ?_) (fun h => ?_)
  · have hx' : x < 256 := by omega
    have w8 : IntKind.u8.wrap (x : Int) = x := by show ((x : Int) % 256) = x; omega
    have wi : IntKind.i64.wrap ((x : Int) + 1) = ((x + 1 : Nat) : Int) := wrap64_in (by omega) (by omega)
    repeat refine AJoin.plain ?_
    refine FC.u (weight_fc x hx') [] ?_
    repeat refine AJoin.plain ?_
    refine bselE (fun c3 => ?_) (fun c3 => ?_)
    · have c' : pc x = 3 := by omega
      have hl := pcL_len (n := 3) (x := x)
      have L1 : (pcL 3 (x + 1)).length = (pcL 3 x).length + 1 := by rw [pcL_s1 c']; simp
      refine And.intro ⟨by show 0 + (pcL 3 x).length ≤ (pcL 3 x).length; omega, trivial⟩ ?_
      repeat (first | refine And.intro (by kernel_rfl) ?_ | refine And.intro (by decide) ?_)
      refine And.intro ⟨by show (0 + (0 + 1)) ≤ 1; omega, trivial⟩ ?_
      refine And.intro (by show (pcL 3 x).length + 1 ≤ 4294967296; omega) ?_
      repeat (first | refine And.intro (by kernel_rfl) ?_ | refine And.intro (by decide) ?_)
      exact ⟨x + 1, ⟨by omega, by show 256 - (x + 1) < 256 - x; omega⟩, isAt.go [(0, .to 2)] ⟨(by show SV.o (.c (.s 2 0 ((pcL 3 x).length + 1) 1)) = SV.o (.c (.s 2 0 (pcL 3 (x + 1)).length 1)); rw [L1]), congrArg (int .i64) wi, trivial⟩ ⟨.inl (by show some (⟨.ints .u8 (((pcL 3 x).drop 0).take (pcL 3 x).length ++ [IntKind.u8.wrap (x : Int)]), true⟩ : Blk) = some ⟨.ints .u8 (pcL 3 (x + 1)), true⟩; rw [pcL_s1 c', w8]; simp), trivial⟩⟩
    · repeat (first | refine And.intro (by kernel_rfl) ?_ | refine And.intro (by decide) ?_)
      have L3 : pcL 3 (x + 1) = pcL 3 x := pcL_s0 (by omega)
      refine ⟨x + 1, ⟨by omega, by show 256 - (x + 1) < 256 - x; omega⟩, .id ⟨?_, congrArg (int .i64) wi, trivial⟩ rfl ⟨.inl ?_, trivial⟩ rfl⟩
      · show SV.o (.c (.s 0 0 (pcL 3 x).length 1)) = SV.o (.c (.s 0 0 (pcL 3 (x + 1)).length 1)); rw [L3]
      · show some (⟨.ints .u8 (pcL 3 x), true⟩ : Blk) = some ⟨.ints .u8 (pcL 3 (x + 1)), true⟩; rw [L3]
  · have hx' : x = 256 := by omega
    have l3 : (pcL 3 x).length = 56 := by subst hx'; decide +kernel
    have e : colsL = (pcL 3 x).take 56 ++ (pcL 5 256).take 8 ++ pwL 8 := by subst hx'; rfl
    generalize pcL 3 x = A at l3 e
    rw [List.take_of_length_le (by omega)] at e
    refine ALoop.goN (X := Nat) (fun b => b ≤ 256 ∧ (pcL 5 b).length ≤ 8) (fun b => 256 - b) [0] [] (fun b => [(1, .o (.c (.s 0 0 (56 + (pcL 5 b).length) 1))), (3, int .i64 b)])
      (fun b => [(0, ⟨.ints .u8 (A ++ pcL 5 b), true⟩)])
      0 1 ⟨by omega, by decide⟩ (.id ⟨(by show SV.o (.c (.s 0 0 A.length 1)) = SV.o (.c (.s 0 0 56 1)); rw [l3]), rfl, trivial⟩ rfl ⟨.inl (by show some (⟨.ints .u8 A, true⟩ : Blk) = some ⟨.ints .u8 (A ++ []), true⟩; rw [List.append_nil]), trivial⟩ rfl) ?_
    rintro b ⟨hb, hb8⟩
    dsimp only [headF, headM]
    refine bselD (fun h => ?_) (fun h => ?_)
    · have h7 : (pcL 5 b).length < 8 := by omega
      have hb' : b < 256 := pcL_stop ⟨b, by omega⟩ h7
      have w8 : IntKind.u8.wrap (b : Int) = b := by show ((b : Int) % 256) = b; omega
      have wi : IntKind.i64.wrap ((b : Int) + 1) = ((b + 1 : Nat) : Int) := wrap64_in (by omega) (by omega)
      repeat refine AJoin.plain ?_
      refine FC.u (weight_fc b hb') [] ?_
      repeat refine AJoin.plain ?_
      refine bselE (fun c5 => ?_) (fun c5 => ?_)
      · have c' : pc b = 5 := by omega
        have L1 : (pcL 5 (b + 1)).length = (pcL 5 b).length + 1 := by rw [pcL_s1 c']; simp
        have lQ : (A ++ pcL 5 b).length = 56 + (pcL 5 b).length := by rw [List.length_append, l3]
        refine And.intro ⟨by show 0 + (56 + (pcL 5 b).length) ≤ (A ++ pcL 5 b).length; omega, trivial⟩ ?_
        repeat (first | refine And.intro (by kernel_rfl) ?_ | refine And.intro (by decide) ?_)
        refine And.intro ⟨by show (0 + (0 + 1)) ≤ 1; omega, trivial⟩ ?_
        refine And.intro (by show (56 + (pcL 5 b).length) + 1 ≤ 4294967296; omega) ?_
        repeat (first | refine And.intro (by kernel_rfl) ?_ | refine And.intro (by decide) ?_)
        exact ⟨b + 1, ⟨⟨by omega, by omega⟩, by show 256 - (b + 1) < 256 - b; omega⟩, isAt.go [(0, .to 2)] ⟨(by show SV.o (.c (.s 2 0 ((56 + (pcL 5 b).length) + 1) 1)) = SV.o (.c (.s 2 0 (56 + (pcL 5 (b + 1)).length) 1)); rw [L1]; rfl), congrArg (int .i64) wi, trivial⟩ ⟨.inl (by show some (⟨.ints .u8 (((A ++ pcL 5 b).drop 0).take (56 + (pcL 5 b).length) ++ [IntKind.u8.wrap (b : Int)]), true⟩ : Blk) = some ⟨.ints .u8 (A ++ pcL 5 (b + 1)), true⟩; rw [pcL_s1 c', w8, List.drop_zero, List.take_of_length_le (by omega), List.append_assoc]), trivial⟩⟩
      · repeat (first | refine And.intro (by kernel_rfl) ?_ | refine And.intro (by decide) ?_)
        have L5 : pcL 5 (b + 1) = pcL 5 b := pcL_s0 (by omega)
        refine ⟨b + 1, ⟨⟨by omega, by rw [L5]; exact hb8⟩, by show 256 - (b + 1) < 256 - b; omega⟩, .id ⟨?_, congrArg (int .i64) wi, trivial⟩ rfl ⟨.inl ?_, trivial⟩ rfl⟩
        · show SV.o (.c (.s 0 0 (56 + (pcL 5 b).length) 1)) = SV.o (.c (.s 0 0 (56 + (pcL 5 (b + 1)).length) 1)); rw [L5]
        · show some (⟨.ints .u8 (A ++ pcL 5 b), true⟩ : Blk) = some ⟨.ints .u8 (A ++ pcL 5 (b + 1)), true⟩; rw [L5]
    · have l5 : (pcL 5 b).length = 8 := by omega
      have e5 : (pcL 5 256).take 8 = pcL 5 b := by rw [← l5]; exact pcL_take hb
      rw [e5] at e
      generalize pcL 5 b = B at l5 e
      have lO : (A ++ B).length = 64 := by rw [List.length_append, l3, l5]
      refine ALoop.goN (X := Nat) (fun k => k ≤ 8) (fun k => 8 - k) [0] [] (fun k => [(1, .o (.c (.s 0 0 (64 + k) 1))), (4, int .i64 k)])
        (fun k => [(0, ⟨.ints .u8 (A ++ B ++ pwL k), true⟩)])
        0 1 (by omega) (.id ⟨(by show SV.o (.c (.s 0 0 (56 + _) 1)) = SV.o (.c (.s 0 0 64 1)); rw [l5]), rfl, trivial⟩ rfl ⟨.inl (by show some (⟨.ints .u8 (A ++ B), true⟩ : Blk) = some ⟨.ints .u8 (A ++ B ++ []), true⟩; rw [List.append_nil]), trivial⟩ rfl) ?_
      intro k hk
      have lp : (pwL k).length = k := by simp [pwL]
      have lQ : (A ++ B ++ pwL k).length = 64 + k := by rw [List.length_append, lO, lp]
      dsimp only [headF, headM]
      refine bselD (fun h => ?_) (fun h => ?_)
      · have wi : IntKind.i64.wrap ((k : Int) + 1) = ((k + 1 : Nat) : Int) := wrap64_in (by omega) (by omega)
        have ps : pwL (k + 1) = pwL k ++ [((2 ^ k : Nat) : Int)] := by simp [pwL, List.range_succ]
        have wu : IntKind.u64.wrap (k : Int) = k := wrapU64_in (by omega) (by omega)
        repeat refine AJoin.plain ?_
        repeat (first | refine And.intro (by rw [wu]; omega) ?_ | refine And.intro (by kernel_rfl) ?_ | refine And.intro (by decide) ?_)
        generalize hQ : A ++ B ++ pwL k = Q at lQ
        refine And.intro ⟨by show 0 + (64 + k) ≤ Q.length; omega, trivial⟩ ?_
        refine And.intro ⟨by show (0 + (0 + 1)) ≤ 1; omega, trivial⟩ ?_
        refine And.intro (by show (64 + k) + 1 ≤ 4294967296; omega) ?_
        repeat (first | refine And.intro (by kernel_rfl) ?_ | refine And.intro (by decide) ?_)
        refine ⟨k + 1, ⟨by omega, by show 8 - (k + 1) < 8 - k; omega⟩, isAt.go [(0, .to 2)] ⟨rfl, congrArg (int .i64) wi, trivial⟩ ⟨.inl ?_, trivial⟩⟩
        have wk : IntKind.u8.wrap (1 * 2 ^ min (IntKind.u64.wrap (k : Int)).toNat IntKind.u8.bits) = ((2 ^ k : Nat) : Int) := by
          have : ∀ j : Fin 8, IntKind.u8.wrap (1 * 2 ^ min (j.val : Int).toNat IntKind.u8.bits) = ((2 ^ j.val : Nat) : Int) := by decide +kernel
          rw [wu]
          exact this ⟨k, by omega⟩
        show some (⟨.ints .u8 (List.take (64 + k) (List.drop 0 Q) ++ [IntKind.u8.wrap (1 * 2 ^ min (IntKind.u64.wrap (k : Int)).toNat IntKind.u8.bits)]), true⟩ : Blk) = some ⟨.ints .u8 (A ++ B ++ pwL (k + 1)), true⟩
        rw [wk, ps, ← List.append_assoc, hQ, List.drop_zero, List.take_of_length_le (by omega)]
      · have hk' : k = 8 := by omega
        have hr : ∀ L : List Int, L.length = 64 + k → L = colsL → ∃ a : List Int, a = colsL ∧
          isEnd 0 [some ⟨.ints .u8 L, true⟩]
            (tupA [V1.c (C.s 0 0 (64 + k) 1)]) (SV.o (V1.c (C.s 0 0 a.length 1))) [u8s a true] := by
          intro L hL hE
          exact ⟨L, hE, isEnd.go [(0, .to 0)] (by rw [hL]; rfl) ⟨.inl rfl, trivial⟩⟩
        have r := hr _ lQ (by rw [e, hk'])
        first | exact r | exact And.intro (by kernel_rfl) r
end Go.Sx.T1
namespace Go.Sx.T1
open Go.Proofs
set_option maxHeartbeats 3200000 in
set_option maxRecDepth 10000 in
theorem sum_fc (w : List Int) (hw : w.length ≤ 9) :
    ∃ v : Int, FC Try.prog 26 [.o (.c (.s 0 0 w.length 1))] [u8s w false] (int .u8 v) [u8s w false] ∧ v = synF w colsL (8 * w.length) := by
  refine FC.rj mix Try.func26 ?_
  refine FC.x columnsR_fc [] (fun cs hc => ?_)
  have lc : cs.length = 72 := by rw [hc]; exact colsL_len
  rw [← hc]
  refine ALoop.go (X := Nat × Int) (fun p => p.1 ≤ w.length ∧ p.2 = synF w cs (8 * p.1)) (fun p => w.length - p.1) [0, 2, 3] [0, 1] (fun p => [(4, int .u8 p.2), (5, int .i64 p.1)])
    (fun p => [])
    (0, 0) ⟨Nat.zero_le _, rfl⟩ ⟨rfl, rfl, trivial⟩ trivial ?_
  rintro ⟨i, s⟩ ⟨h1, h2⟩
  simp only at h1 h2
  dsimp only [headF, headM]
  refine bselD (fun h => ?_) (fun h => ?_)
  · have h' : i < w.length := by omega
    have wi : IntKind.i64.wrap ((i : Int) + 1) = ((i + 1 : Nat) : Int) := wrap64_in (by omega) (by omega)
    repeat refine AJoin.plain ?_
    refine ALoop.go (X := Nat × Int) (fun p => p.1 ≤ 8 ∧ p.2 = synF w cs (8 * i + p.1)) (fun p => 8 - p.1) [0, 2, 3, 5] [0, 1] (fun p => [(4, int .u8 p.2), (6, int .i64 p.1)])
      (fun p => []) (0, s) ⟨Nat.zero_le _, h2⟩ ⟨rfl, rfl, trivial⟩ trivial ?_
    rintro ⟨k, s⟩ ⟨k1, k2⟩
    simp only at k1 k2
    dsimp only [headF, headM]
    refine bselD (fun hk => ?_) (fun hk => ?_)
    · have hk' : k < 8 := by omega
      have wk : IntKind.i64.wrap ((k : Int) + 1) = ((k + 1 : Nat) : Int) := wrap64_in (by omega) (by omega)
      have wu : IntKind.u64.wrap (k : Int) = k := wrapU64_in (by omega) (by omega)
      have w8 : IntKind.i64.wrap (8 * (i : Int)) = ((8 * i : Nat) : Int) := wrap64_in (by omega) (by omega)
      have w9 : IntKind.i64.wrap (IntKind.i64.wrap (8 * (i : Int)) + k) = ((8 * i + k : Nat) : Int) := by rw [w8]; exact wrap64_in (by omega) (by omega)
      have t9 : (IntKind.i64.wrap (IntKind.i64.wrap (8 * (i : Int)) + k)).toNat = 8 * i + k := by rw [w9]; omega
      repeat refine AJoin.plain ?_
      refine And.intro ⟨by omega, by omega⟩ ?_
      refine And.intro (by show 0 + i < w.length; omega) ?_
      repeat (first | refine And.intro (by rw [wu]; omega) ?_ | refine And.intro (by kernel_rfl) ?_ | refine And.intro (by decide) ?_)
      repeat refine AJoin.plain ?_
      have htb : (bitI .and .u8 ((w.getD (0 + i) 0).fdiv (2 ^ min (IntKind.u64.wrap (k : Int)).toNat IntKind.u8.bits)) 1 == 1) = tb w (8 * i + k) := by
        unfold tb
        rw [wu, Nat.zero_add, show (8 * i + k) / 8 = i by omega, show (8 * i + k) % 8 = k by omega]; rfl
      refine bselE (fun c => ?_) (fun c => ?_)
      · have hs : synF w cs (8 * i + (k + 1)) = bitI .xor .u8 (synF w cs (8 * i + k)) (cs.getD (8 * i + k) 0) := by
          have : tb w (8 * i + k) = true := by rw [← htb]; exact (beq_iff_eq).2 c
          rw [← Nat.add_assoc]; simp [synF, this]
        refine And.intro ⟨by rw [w9]; omega, by rw [w9]; omega⟩ ?_
        refine And.intro (by show 0 + (IntKind.i64.wrap (IntKind.i64.wrap (8 * (i : Int)) + k)).toNat < cs.length; rw [t9]; omega) ?_
        repeat (first | refine And.intro (by kernel_rfl) ?_ | refine And.intro (by decide) ?_)
        refine ⟨(k + 1, bitI .xor .u8 s (cs.getD (0 + (IntKind.i64.wrap (IntKind.i64.wrap (8 * (i : Int)) + k)).toNat) 0)), ⟨⟨by simp only; omega, by simp only; rw [t9, Nat.zero_add, hs, k2]⟩, by show 8 - (k + 1) < 8 - k; omega⟩, .id ⟨rfl, congrArg (int .i64) wk, trivial⟩ rfl trivial rfl⟩
      · have hs : synF w cs (8 * i + (k + 1)) = synF w cs (8 * i + k) := by
          have : tb w (8 * i + k) = false := by rw [← htb]; exact beq_false_of_ne c
          rw [← Nat.add_assoc]; simp [synF, this]
        repeat (first | refine And.intro (by kernel_rfl) ?_ | refine And.intro (by decide) ?_)
        refine ⟨(k + 1, s), ⟨⟨by simp only; omega, by simp only; rw [hs, k2]⟩, by show 8 - (k + 1) < 8 - k; omega⟩, .id ⟨rfl, congrArg (int .i64) wk, trivial⟩ rfl trivial rfl⟩
    · have hk' : k = 8 := by omega
      subst hk'
      repeat (first | refine And.intro (by kernel_rfl) ?_ | refine And.intro (by decide) ?_)
      refine ⟨(i + 1, s), ⟨⟨by simp only; omega, by simp only; rw [k2]; rfl⟩, by show w.length - (i + 1) < w.length - i; omega⟩, .id ⟨rfl, congrArg (int .i64) wi, trivial⟩ rfl trivial rfl⟩
  · have h' : i = w.length := by omega
    subst h'
    first | exact ⟨s, h2, .id rfl ⟨.inl rfl, trivial⟩⟩ | exact And.intro (by kernel_rfl) ⟨s, h2, .id rfl ⟨.inl rfl, trivial⟩⟩
end Go.Sx.T1
namespace Go.Sx.T1
open Go.Proofs
set_option maxHeartbeats 3200000 in
set_option maxRecDepth 10000 in
theorem checkR_fc (w : List Int) (hw : w.length = 8) : ∃ v : Int, FC Try.prog 16 [.o (.c (.s 0 0 w.length 1))] [u8s w false] (u8e v 0) [u8s w false] ∧ v = synF w colsL 64 := by
  refine FC.r mix Try.func16 ?_
  refine bselN (fun h => by exfalso; have : (w.length : Int) ≠ 8 := h; omega) (fun h => ?_)
  refine FC.x (sum_fc w (by omega)) [0] (fun v ev => ?_)
  repeat (first | refine And.intro (by kernel_rfl) ?_ | refine And.intro (by decide) ?_)
  refine ⟨v, by rw [ev, hw], .id rfl ⟨.inl rfl, trivial⟩⟩
set_option maxHeartbeats 3200000 in
set_option maxRecDepth 10000 in
theorem syndromeR_fc (w : List Int) (hw : w.length = 9) : ∃ v : Int, FC Try.prog 17 [.o (.c (.s 0 0 w.length 1))] [u8s w false] (u8e v 0) [u8s w false] ∧ v = synF w colsL 72 := by
  refine FC.r mix Try.func17 ?_
  refine bselN (fun h => by exfalso; have : (w.length : Int) ≠ 9 := h; omega) (fun h => ?_)
  refine FC.x (sum_fc w (by omega)) [0] (fun v ev => ?_)
  repeat (first | refine And.intro (by kernel_rfl) ?_ | refine And.intro (by decide) ?_)
  refine ⟨v, by rw [ev, hw], .id rfl ⟨.inl rfl, trivial⟩⟩
set_option maxHeartbeats 3200000 in
set_option maxRecDepth 10000 in
theorem columnR_fc (b : Nat) (hb : b < 72) : ∃ v : Int, FC Try.prog 20 [int .i64 b] [] (u8e v 0) [] ∧ v = colsL.getD b 0 := by
  refine FC.r mix Try.func20 ?_
  refine bselD (fun h => by exfalso; have : (b : Int) > 71 := h; omega) (fun h => ?_)
  refine FC.x columnsR_fc [] (fun L hL => ?_)
  have ll : L.length = 72 := by rw [hL]; exact colsL_len
  refine And.intro ⟨by omega, by omega⟩ ?_
  refine And.intro (by show 0 + b < L.length; omega) ?_
  repeat (first | refine And.intro (by kernel_rfl) ?_ | refine And.intro (by decide) ?_)
  refine ⟨L.getD b 0, by rw [hL], .id ?_ trivial⟩
  show SV.t [.c (.v (.int .u8 (L.getD (0 + b) 0))), .c (.v (.int .i64 0))] = u8e (L.getD b 0) 0
  rw [Nat.zero_add]; rfl
end Go.Sx.T1
namespace Go.Sx.T1
open Go.Proofs
set_option maxHeartbeats 3200000 in
set_option maxRecDepth 10000 in
theorem checkR_no (w : List Int) (hw : w.length ≠ 8) : FC Try.prog 16 [.o (.c (.s 0 0 w.length 1))] [u8s w false] (u8e 0 7) [u8s w false] := by
  refine FC.one (FC.r mix Try.func16 ?_)
  refine bselN (fun h => ?_) (fun h => by exfalso; have : (w.length : Int) = 8 := h; omega)
  repeat (first | refine And.intro (by kernel_rfl) ?_ | refine And.intro (by decide) ?_)
  exact ⟨(), trivial, .id rfl ⟨.inl rfl, trivial⟩⟩
set_option maxHeartbeats 3200000 in
set_option maxRecDepth 10000 in
theorem syndromeR_no (w : List Int) (hw : w.length ≠ 9) : FC Try.prog 17 [.o (.c (.s 0 0 w.length 1))] [u8s w false] (u8e 0 7) [u8s w false] := by
  refine FC.one (FC.r mix Try.func17 ?_)
  refine bselN (fun h => ?_) (fun h => by exfalso; have : (w.length : Int) = 9 := h; omega)
  repeat (first | refine And.intro (by kernel_rfl) ?_ | refine And.intro (by decide) ?_)
  exact ⟨(), trivial, .id rfl ⟨.inl rfl, trivial⟩⟩
set_option maxHeartbeats 3200000 in
set_option maxRecDepth 10000 in
theorem columnR_no (b : Int) (hb : b < 0 ∨ 72 ≤ b) : FC Try.prog 20 [int .i64 b] [] (u8e 0 2) [] := by
  refine FC.one (FC.r mix Try.func20 ?_)
  refine bselD (fun h => ?_) (fun h => ?_)
  · repeat (first | refine And.intro (by kernel_rfl) ?_ | refine And.intro (by decide) ?_)
    exact ⟨(), trivial, .id rfl trivial⟩
  · refine bselD (fun h2 => ?_) (fun h2 => by exfalso; have a : ¬ b < 0 := h; have c : ¬ b > 71 := h2; omega)
    repeat (first | refine And.intro (by kernel_rfl) ?_ | refine And.intro (by decide) ?_)
    exact ⟨(), trivial, .id rfl trivial⟩
end Go.Sx.T1
namespace Go.Sx.T1
open Go.Proofs
structure DecR where
  o : Int
  W : List Int
  C : List Int
  bit : Int
  e : Int
def decS (d : DecR) : SV := .t [.a [.v (.int .i64 d.o), .s 1 0 d.W.length 1, .s 2 0 d.C.length 1], .c (.v (.int .i64 d.bit)), .c (.v (.int .i64 d.e))]
def decM (w : List Int) (d : DecR) : Mem := [u8s w false, u8s d.W true, i64s d.C true]
def decF (w : List Int) : DecR :=
  if w.length ≠ 9 then ⟨0, [], [], 0, 7⟩
  else if synF w colsL 72 = 0 then ⟨0, w, [], -1, 0⟩
  else if idxL (synF w colsL 72) colsL 0 < 0 then ⟨2, [], [], -1, 0⟩
  else ⟨1, flipB w (idxL (synF w colsL 72) colsL 0).toNat, [(((idxL (synF w colsL 72) colsL 0).toNat / 8 : Nat) : Int)], idxL (synF w colsL 72) colsL 0, 0⟩
theorem idxL_range (v : Int) : ∀ (xs : List Int) (i : Nat), idxL v xs i = -1 ∨ ∃ b : Nat, idxL v xs i = b ∧ i ≤ b ∧ b < i + xs.length ∧ xs.getD (b - i) 0 = v
  | [], i => .inl rfl
  | x :: xs, i => by
    unfold idxL
    split
    · rename_i h; exact .inr ⟨i, rfl, by omega, by simp, by simp [h]⟩
    · rcases idxL_range v xs (i + 1) with h | ⟨b, h1, h2, h3, h4⟩
      · exact .inl h
      · refine .inr ⟨b, h1, by omega, by simp only [List.length_cons]; omega, ?_⟩
        rw [show b - i = (b - (i + 1)) + 1 by omega]
        simpa using h4
theorem decode_any (w : List Int) : ∃ d : DecR, FC Try.prog 12 [.o (.c (.s 0 0 w.length 1))] [u8s w false] (decS d) (decM w d) ∧ d = decF w := by
  by_cases h9 : w.length = 9
  · by_cases hs : synF w colsL 72 = 0
    · exact ⟨⟨0, w, [], -1, 0⟩, (decode_clean w h9 hs).as [(2, .new 1)] rfl ⟨.inl rfl, .inl rfl, newI 1 rfl, trivial⟩, by simp [decF, h9, hs]⟩
    · rcases idxL_range (synF w colsL 72) colsL 0 with hi | ⟨b, hb, _, hl, _⟩
      · exact ⟨⟨2, [], [], -1, 0⟩, (decode_lost w h9 hs (by rw [hi]; omega)).as [(1, .new 1), (2, .new 1)] rfl ⟨.inl rfl, newI 1 rfl, newI 1 rfl, trivial⟩, by simp [decF, h9, hs, hi]⟩
      · rw [colsL_len] at hl
        obtain ⟨W, h, e⟩ := decode_fix w b h9 (by omega) hs hb
        refine ⟨⟨1, W, [((b / 8 : Nat) : Int)], b, 0⟩, h, ?_⟩
        have : ¬ (b : Int) < 0 := by omega
        simp only [decF, h9, hs, hb, this, if_false, ne_eq, not_true_eq_false, Int.toNat_natCast, e]
  · exact ⟨⟨0, [], [], 0, 7⟩, (decode_size w h9).as [(1, .new 1), (2, .new 1)] rfl ⟨.inl rfl, newI 1 rfl, newI 1 rfl, trivial⟩, by simp [decF, h9]⟩
set_option maxHeartbeats 3200000 in
set_option maxRecDepth 10000 in
theorem decodeR_any (w : List Int) (hw : w.length ≤ 30) : ∃ d : DecR, FC Try.prog 18 [.o (.c (.s 0 0 w.length 1))] [u8s w false] (decS d) (decM w d) ∧ d = decF w := by
  refine FC.rj mix Try.func18 ?_
  by_cases h9 : w.length = 9
  · refine FC.x (syndromeR_fc w h9) [0] (fun s es => ?_)
    repeat refine AJoin.plain ?_
    refine And.intro ⟨by show 0 + w.length ≤ w.length; omega, trivial⟩ ?_
    refine And.intro (by show 0 + w.length ≤ 4294967296; omega) ?_
    repeat refine AJoin.plain ?_
    have ew : List.take w.length (List.drop 0 w) = w := by simp
    refine bselE (fun h0 => ?_) (fun h0 => ?_)
    · refine ⟨⟨0, w, [], -1, 0⟩, by simp only [decF, h9, ne_eq, not_true_eq_false, if_false, ← es, h0, if_true], isEnd.go [(1, .to 2), (2, .new 1)] (congrArg (fun n => SV.t [.a [.v (.int .i64 0), .s 2 0 n 1, .v (.slice none 0 0)], .c (.v (.int .i64 (-1))), .c (.v (.int .i64 0))]) (Nat.zero_add w.length)) ⟨.inl rfl, leB.ints_eq ew id, newI 1 rfl, trivial⟩⟩
    · refine FC.x columnsR_fc [] (fun L hL => ?_)
      have ll : L.length = 72 := by rw [hL]; exact colsL_len
      refine ALoop.go (X := Nat) (fun i => i ≤ 72 ∧ idxL s L 0 = idxL s (L.drop i) i) (fun i => 72 - i) [0, 2, 3, 4, 5, 7, 8] [0, 1, 2, 3] (fun i => [(9, int .i64 i)])
        (fun _ => []) 0 ⟨Nat.zero_le _, rfl⟩ ⟨rfl, trivial⟩ trivial ?_
      rintro i ⟨h1, h2⟩
      dsimp only [headF, headM]
      refine bselD (fun h => ?_) (fun h => ?_)
      · have h' : i < 72 := by omega
        have wi : IntKind.i64.wrap ((i : Int) + 1) = ((i + 1 : Nat) : Int) := wrap64_in (by omega) (by omega)
        rw [drop_cons (by omega)] at h2
        repeat refine AJoin.plain ?_
        refine And.intro ⟨by omega, by omega⟩ ?_
        refine And.intro (by show 0 + i < L.length; omega) ?_
        repeat (first | refine And.intro (by kernel_rfl) ?_ | refine And.intro (by decide) ?_)
        repeat refine AJoin.plain ?_
        refine bselE (fun c => ?_) (fun c => ?_)
        · have c' : s = L.getD i 0 := by
            have : L.getD (0 + i) 0 = s := c
            rw [Nat.zero_add] at this; exact this.symm
          have e : idxL s L 0 = i := by rw [h2]; simp only [idxL]; rw [if_pos c']
          have q0 : IntKind.i64.wrap ((i : Int).tdiv 8) = ((i / 8 : Nat) : Int) := wrap64_in (n := ((i / 8 : Nat) : Int)) (by omega) (by omega)
          have r0 : IntKind.u64.wrap ((i : Int).tmod 8) = ((i % 8 : Nat) : Int) := wrapU64_in (n := ((i % 8 : Nat) : Int)) (by omega) (by omega)
          have q1 : (IntKind.i64.wrap ((i : Int).tdiv 8)).toNat = i / 8 := by rw [q0]; omega
          have r1 : (IntKind.u64.wrap ((i : Int).tmod 8)).toNat = i % 8 := by rw [r0]; omega
          have hq : (IntKind.i64.wrap ((i : Int).tdiv 8)).toNat < 9 := by rw [q1]; omega
          repeat (first | refine And.intro (by kernel_rfl) ?_ | refine And.intro (by decide) ?_)
          refine And.intro ⟨by rw [q0]; omega, by rw [q0]; omega⟩ ?_
          refine And.intro (by show 0 + (IntKind.i64.wrap ((i : Int).tdiv 8)).toNat < (List.take w.length (List.drop 0 w)).length; rw [ew]; omega) ?_
          repeat (first | refine And.intro (by kernel_rfl) ?_ | refine And.intro (by decide) ?_)
          refine And.intro (by rw [r0]; omega) ?_
          repeat (first | refine And.intro (by kernel_rfl) ?_ | refine And.intro (by decide) ?_)
          refine And.intro ⟨by rw [q0]; omega, by rw [q0]; omega⟩ ?_
          repeat (first | refine And.intro (by kernel_rfl) ?_ | refine And.intro (by decide) ?_)
          refine And.intro (by show 0 + (IntKind.i64.wrap ((i : Int).tdiv 8)).toNat < (List.take w.length (List.drop 0 w)).length; rw [ew]; omega) ?_
          repeat (first | refine And.intro (by kernel_rfl) ?_ | refine And.intro (by decide) ?_)
          refine ⟨⟨1, flipB w i, [((i / 8 : Nat) : Int)], i, 0⟩, ?_, isEnd.go [(1, .to 2), (2, .to 4)] (congrArg (fun n => SV.t [.a [.v (.int .i64 1), .s 2 0 n 1, .s 4 0 1 1], .c (.v (.int .i64 i)), .c (.v (.int .i64 0))]) (show 0 + w.length = (flipB w i).length by simp [flipB])) ⟨.inl rfl, leB.ints_eq ?_ id, leB.ints_eq ?_ id, trivial⟩⟩
          · have : ¬ (i : Int) < 0 := by omega
            have h0' : synF w colsL 72 ≠ 0 := by rw [← es]; exact h0
            rw [hL, es] at e
            simp only [decF, h9, h0', e, this, if_false, ne_eq, not_true_eq_false, Int.toNat_natCast]
          · show (List.take w.length (List.drop 0 w)).set (0 + (IntKind.i64.wrap ((i : Int).tdiv 8)).toNat) (bitI .xor .u8 ((List.take w.length (List.drop 0 w)).getD (0 + (IntKind.i64.wrap ((i : Int).tdiv 8)).toNat) 0) (IntKind.u8.wrap (1 * 2 ^ min (IntKind.u64.wrap ((i : Int).tmod 8)).toNat IntKind.u8.bits))) = flipB w i
            rw [ew, q1, r1, Nat.zero_add]; rfl
          · show [IntKind.i64.wrap ((i : Int).tdiv 8)] = [((i / 8 : Nat) : Int)]
            rw [q0]
        · have c' : s ≠ L.getD i 0 := by
            have : L.getD (0 + i) 0 ≠ s := c
            rw [Nat.zero_add] at this; exact this.symm
          rw [idxL_no c'] at h2
          repeat (first | refine And.intro (by kernel_rfl) ?_ | refine And.intro (by decide) ?_)
          exact ⟨i + 1, ⟨⟨by omega, h2⟩, by show 72 - (i + 1) < 72 - i; omega⟩, .id ⟨congrArg (int .i64) wi, trivial⟩ rfl trivial rfl⟩
      · have e : idxL s L 0 = -1 := by rw [h2, List.drop_eq_nil_of_le (by omega)]; rfl
        have h0' : synF w colsL 72 ≠ 0 := by rw [← es]; exact h0
        rw [hL, es] at e
        first
          | exact ⟨⟨2, [], [], -1, 0⟩, by simp [decF, h9, h0', e], isEnd.go [(1, .new 1), (2, .new 1)] rfl ⟨.inl rfl, newI 1 rfl, newI 1 rfl, trivial⟩⟩
          | exact And.intro (by kernel_rfl) ⟨⟨2, [], [], -1, 0⟩, by simp [decF, h9, h0', e], isEnd.go [(1, .new 1), (2, .new 1)] rfl ⟨.inl rfl, newI 1 rfl, newI 1 rfl, trivial⟩⟩
  · refine FC.u (syndromeR_no w h9) [0] ?_
    refine ⟨⟨0, [], [], 0, 7⟩, by simp [decF, h9], isEnd.go [(1, .new 1), (2, .new 1)] rfl ⟨.inl rfl, newI 1 rfl, newI 1 rfl, trivial⟩⟩
end Go.Sx.T1
namespace Go.Sx.T1
open Go.Proofs
theorem bneI (a : Int) : (a != a) = false := by simp
theorem bneS (xs : List Int) : (!(bytesOf xs == bytesOf xs)) = false := by rw [bytesOf_same]; rfl
set_option maxHeartbeats 3200000 in
set_option maxRecDepth 10000 in
theorem same_fc (o : Int) (W C : List Int) (hC : C.length ≤ 100) :
    FC Try.prog 19 [.o (.a [.v (.int .i64 o), .s 0 0 W.length 1, .s 1 0 C.length 1]), .o (.a [.v (.int .i64 o), .s 2 0 W.length 1, .s 3 0 C.length 1])] [u8s W false, i64s C false, u8s W false, i64s C false] (boo true) [u8s W false, i64s C false, u8s W false, i64s C false] := by
  refine FC.one (FC.rj mix Try.func19 ?_)
  refine bselF (bneI o) ?_
  refine And.intro (by show 0 + W.length ≤ W.length; omega) ?_
  refine And.intro (by show 0 + W.length ≤ W.length; omega) ?_
  refine bselF (bneS _) ?_
  refine bselF (bneI _) ?_
  repeat refine AJoin.plain ?_
  refine ALoop.go (X := Nat) (fun i => i ≤ C.length) (fun i => C.length - i) [2, 3] [0, 1, 2, 3, 4, 5] (fun i => [(5, int .i64 i)])
    (fun _ => []) 0 (Nat.zero_le _) ⟨rfl, trivial⟩ trivial ?_
  intro i hi
  dsimp only [headF, headM]
  refine bselD (fun h => ?_) (fun h => ?_)
  · have h' : i < C.length := by omega
    have wi : IntKind.i64.wrap ((i : Int) + 1) = ((i + 1 : Nat) : Int) := wrap64_in (by omega) (by omega)
    repeat refine AJoin.plain ?_
    refine And.intro ⟨by omega, by omega⟩ ?_
    refine And.intro (by show 0 + i < C.length; omega) ?_
    repeat (first | refine And.intro (by kernel_rfl) ?_ | refine And.intro (by decide) ?_)
    refine And.intro ⟨by omega, by omega⟩ ?_
    refine And.intro (by show 0 + i < C.length; omega) ?_
    repeat (first | refine And.intro (by kernel_rfl) ?_ | refine And.intro (by decide) ?_)
    refine bselF (bneI _) ?_
    repeat (first | refine And.intro (by kernel_rfl) ?_ | refine And.intro (by decide) ?_)
    exact ⟨i + 1, ⟨by omega, by show C.length - (i + 1) < C.length - i; omega⟩, .id ⟨congrArg (int .i64) wi, trivial⟩ rfl trivial rfl⟩
  · first | exact ⟨(), trivial, .id rfl ⟨.inl rfl, .inl rfl, .inl rfl, .inl rfl, trivial⟩⟩ | exact And.intro (by kernel_rfl) ⟨(), trivial, .id rfl ⟨.inl rfl, .inl rfl, .inl rfl, .inl rfl, trivial⟩⟩
end Go.Sx.T1
namespace Go.Sx.T1
open Go.Proofs
def pe (p : Int × Int) : SV := u8e p.1 p.2
def chkF (w : List Int) : Int × Int := if w.length = 8 then (synF w colsL 64, 0) else (0, 7)
def sndF (w : List Int) : Int × Int := if w.length = 9 then (synF w colsL 72, 0) else (0, 7)
def colF (b : Int) : Int × Int := if b < 0 ∨ 72 ≤ b then (0, 2) else (colsL.getD b.toNat 0, 0)
theorem chk_any (w : List Int) (n : Nat) (hn : w.length = n) : ∃ p : Int × Int, FC Try.prog 11 [.o (.c (.s 0 0 n 1))] [u8s w false] (pe p) [u8s w false] ∧ p = chkF w := by
  subst hn
  by_cases h : w.length = 8
  · obtain ⟨v, h1, h2⟩ := check_fc w h; exact ⟨(v, 0), h1, by simp [chkF, h, h2]⟩
  · exact ⟨(0, 7), check_no w h, by simp [chkF, h]⟩
theorem chkR_any (w : List Int) (n : Nat) (hn : w.length = n) : ∃ p : Int × Int, FC Try.prog 16 [.o (.c (.s 0 0 n 1))] [u8s w false] (pe p) [u8s w false] ∧ p = chkF w := by
  subst hn
  by_cases h : w.length = 8
  · obtain ⟨v, h1, h2⟩ := checkR_fc w h; exact ⟨(v, 0), h1, by simp [chkF, h, h2]⟩
  · exact ⟨(0, 7), checkR_no w h, by simp [chkF, h]⟩
theorem snd_any (w : List Int) (n : Nat) (hn : w.length = n) : ∃ p : Int × Int, FC Try.prog 15 [.o (.c (.s 0 0 n 1))] [u8s w false] (pe p) [u8s w false] ∧ p = sndF w := by
  subst hn
  by_cases h : w.length = 9
  · obtain ⟨v, h1, h2⟩ := syndrome_fc w h; exact ⟨(v, 0), h1, by simp [sndF, h, h2]⟩
  · exact ⟨(0, 7), syndrome_no w h, by simp [sndF, h]⟩
theorem sndR_any (w : List Int) (n : Nat) (hn : w.length = n) : ∃ p : Int × Int, FC Try.prog 17 [.o (.c (.s 0 0 n 1))] [u8s w false] (pe p) [u8s w false] ∧ p = sndF w := by
  subst hn
  by_cases h : w.length = 9
  · obtain ⟨v, h1, h2⟩ := syndromeR_fc w h; exact ⟨(v, 0), h1, by simp [sndF, h, h2]⟩
  · exact ⟨(0, 7), syndromeR_no w h, by simp [sndF, h]⟩
theorem col_any (b : Int) : ∃ p : Int × Int, FC Try.prog 14 [int .i64 b] [] (pe p) [] ∧ p = colF b := by
  by_cases h : b < 0 ∨ 72 ≤ b
  · exact ⟨(0, 2), column_no b h, by simp [colF, h]⟩
  · obtain ⟨n, rfl⟩ : ∃ n : Nat, b = n := ⟨b.toNat, by omega⟩
    obtain ⟨v, h1, h2⟩ := column_fc n (by omega)
    exact ⟨(v, 0), h1, by simp only [colF, h, if_false, h2, Int.toNat_natCast]⟩
theorem colR_any (b : Int) : ∃ p : Int × Int, FC Try.prog 20 [int .i64 b] [] (pe p) [] ∧ p = colF b := by
  by_cases h : b < 0 ∨ 72 ≤ b
  · exact ⟨(0, 2), columnR_no b h, by simp [colF, h]⟩
  · obtain ⟨n, rfl⟩ : ∃ n : Nat, b = n := ⟨b.toNat, by omega⟩
    obtain ⟨v, h1, h2⟩ := columnR_fc n (by omega)
    exact ⟨(v, 0), h1, by simp only [colF, h, if_false, h2, Int.toNat_natCast]⟩
theorem dec_any (w : List Int) (n : Nat) (hn : w.length = n) : ∃ d : DecR, FC Try.prog 12 [.o (.c (.s 0 0 n 1))] [u8s w false] (decS d) (decM w d) ∧ d = decF w := by
  subst hn; exact decode_any w
theorem decR_any (w : List Int) (n : Nat) (hn : w.length = n) (hw : n ≤ 30) : ∃ d : DecR, FC Try.prog 18 [.o (.c (.s 0 0 n 1))] [u8s w false] (decS d) (decM w d) ∧ d = decF w := by
  subst hn; exact decodeR_any w hw
theorem decF_C (w : List Int) : (decF w).C.length ≤ 100 := by
  unfold decF
  repeat' split
  all_goals simp
end Go.Sx.T1
namespace Go.Sx.T1
open Go.Proofs
/-- bytes -/
def Byt (w : List Int) : Prop := ∀ j, 0 ≤ w.getD j 0 ∧ w.getD j 0 < 256
theorem Byt.nat {w : List Int} (h : Byt w) (j : Nat) : ∃ m : Nat, w.getD j 0 = (m : Int) ∧ m < 256 := ⟨(w.getD j 0).toNat, by have := h j; omega, by have := h j; omega⟩
theorem shN (k : Nat) (hk : k < 8) : IntKind.u8.wrap (1 * 2 ^ min k IntKind.u8.bits) = ((2 ^ k : Nat) : Int) := by
  have : ∀ j : Fin 8, IntKind.u8.wrap (1 * 2 ^ min j.val IntKind.u8.bits) = ((2 ^ j.val : Nat) : Int) := by decide +kernel
  exact this ⟨k, hk⟩
theorem pow8 {k : Nat} (hk : k < 8) : 2 ^ k < 256 := by
  have : ∀ j : Fin 8, 2 ^ j.val < 256 := by decide
  exact this ⟨k, hk⟩
theorem flip_len (w : List Int) (b : Nat) : (flipB w b).length = w.length := by simp [flipB]
theorem flip_get {w : List Int} (h : Byt w) {b m : Nat} (hb : b < 8 * w.length) (hm : w.getD (b / 8) 0 = (m : Int)) (hm' : m < 256) (j : Nat) :
    (flipB w b).getD j 0 = if j = b / 8 then ((m ^^^ 2 ^ (b % 8) : Nat) : Int) else w.getD j 0 := by
  unfold flipB
  rw [shN _ (by omega), hm, xorN hm' (pow8 (by omega))]
  by_cases hj : j = b / 8
  · subst hj
    rw [if_pos rfl]
    simp [List.getD, show b / 8 < w.length by omega]
  · rw [if_neg hj]
    simp [List.getD, List.getElem?_set_ne (Ne.symm hj)]
theorem flip_byt {w : List Int} (h : Byt w) {b : Nat} (hb : b < 8 * w.length) : Byt (flipB w b) := by
  intro j
  obtain ⟨m, hm, hm'⟩ := h.nat (b / 8)
  rw [flip_get h hb hm hm']
  split
  · have : m ^^^ 2 ^ (b % 8) < 256 := Nat.xor_lt_two_pow (n := 8) hm' (pow8 (by omega))
    omega
  · exact h j
theorem tb_flip {w : List Int} (h : Byt w) {b : Nat} (hb : b < 8 * w.length) (n : Nat) : tb (flipB w b) n = if n = b then !tb w n else tb w n := by
  obtain ⟨m, hm, hm'⟩ := h.nat (b / 8)
  have hf := flip_get h hb hm hm' (n / 8)
  obtain ⟨q, hq, hq'⟩ := h.nat (n / 8)
  rw [tb_eq hq hq']
  by_cases hn : n / 8 = b / 8
  · rw [if_pos hn] at hf
    rw [tb_eq hf (Nat.xor_lt_two_pow (n := 8) hm' (pow8 (by omega))), Nat.testBit_xor, Nat.testBit_two_pow]
    have : q = m := by rw [hn, hm] at hq; omega
    subst this
    by_cases hb' : n = b
    · subst hb'; simp
    · rw [if_neg hb']
      have : ¬ b % 8 = n % 8 := by omega
      simp [this]
  · rw [if_neg hn] at hf
    rw [tb_eq (hf.trans hq) hq', if_neg (by intro e; exact hn (by rw [e]))]
theorem colN (i : Nat) (hi : i < 72) : ∃ c : Nat, colsL.getD i 0 = (c : Int) ∧ c < 256 ∧ pc c % 2 = 1 := by
  obtain ⟨h0, h1, h2⟩ := colsL_odd ⟨i, hi⟩
  simp only at h0 h1 h2
  refine ⟨(colsL.getD i 0).toNat, by omega, by omega, h2⟩
theorem syn_nat {w : List Int} : ∀ n, n ≤ 72 → ∃ p : Nat, synF w colsL n = (p : Int) ∧ p < 256
  | 0, _ => ⟨0, rfl, by omega⟩
  | n + 1, hn => by
    obtain ⟨p, e, hp⟩ := syn_nat (w := w) n (by omega)
    obtain ⟨c, ec, hc, _⟩ := colN n (by omega)
    simp only [synF]
    split
    · exact ⟨p ^^^ c, by rw [e, ec, xorN hp hc], Nat.xor_lt_two_pow (n := 8) hp hc⟩
    · exact ⟨p, e, hp⟩
theorem xl8 {u v : Nat} (hu : u < 256) (hv : v < 256) : u ^^^ v < 256 := Nat.xor_lt_two_pow (n := 8) hu hv
theorem syn_flip {w : List Int} (h : Byt w) {b : Nat} (hb : b < 8 * w.length) (hb' : b < 72) : ∀ n, n ≤ 72 → ∀ p c : Nat, synF w colsL n = (p : Int) → p < 256 → colsL.getD b 0 = (c : Int) → c < 256 →
    synF (flipB w b) colsL n = if b < n then ((p ^^^ c : Nat) : Int) else (p : Int) := by
  intro n
  induction n with
  | zero => intro _ p c e hp _ _; rw [if_neg (Nat.not_lt_zero _)]; exact e
  | succ n ih =>
    intro hn p c e hp ec hc
    obtain ⟨q, eq, hq⟩ := syn_nat (w := w) n (by omega)
    obtain ⟨d, ed, hd, _⟩ := colN n (by omega)
    have ih' := ih (by omega) q c eq hq ec hc
    simp only [synF, tb_flip h hb] at e ⊢
    rw [ih']
    rw [eq, ed] at e
    by_cases hnb : n = b
    · subst hnb
      have hdc : d = c := by omega
      subst hdc
      rw [if_neg (Nat.lt_irrefl n), if_pos rfl, if_pos (Nat.lt_succ_self n), ed]
      rcases Bool.eq_false_or_eq_true (tb w n) with ht | ht
      · rw [ht] at e ⊢
        simp only [if_true, Bool.not_true, Bool.false_eq_true, if_false] at e ⊢
        rw [xorN hq hd] at e
        have : q ^^^ d = p := by omega
        rw [← this, Nat.xor_assoc, Nat.xor_self, Nat.xor_zero]
      · rw [ht] at e ⊢
        simp only [if_true, Bool.not_false, Bool.false_eq_true, if_false] at e ⊢
        have : q = p := by omega
        rw [this, xorN hp hd]
    · rw [if_neg hnb]
      have hlt : (b < n + 1) ↔ b < n := by omega
      rw [ed]
      rcases Bool.eq_false_or_eq_true (tb w n) with ht | ht
      · rw [ht] at e ⊢
        simp only [if_true] at e ⊢
        rw [xorN hq hd] at e
        have : q ^^^ d = p := by omega
        subst this
        by_cases hbn : b < n
        · rw [if_pos hbn, if_pos (hlt.2 hbn), xorN (xl8 hq hc) hd, Nat.xor_assoc, Nat.xor_comm c d, ← Nat.xor_assoc]
        · rw [if_neg hbn, if_neg (fun h => hbn (hlt.1 h)), xorN hq hd]
      · rw [ht] at e ⊢
        simp only [Bool.false_eq_true, if_false] at e ⊢
        have : q = p := by omega
        subst this
        by_cases hbn : b < n
        · rw [if_pos hbn, if_pos (hlt.2 hbn)]
        · rw [if_neg hbn, if_neg (fun h => hbn (hlt.1 h))]
theorem flip_flip {w : List Int} (h : Byt w) {b : Nat} (hb : b < 8 * w.length) : flipB (flipB w b) b = w := by
  obtain ⟨m, hm, hm'⟩ := h.nat (b / 8)
  have e1 := flip_get h hb hm hm'
  have hf := flip_byt h hb
  have e2 := flip_get hf (b := b) (m := m ^^^ 2 ^ (b % 8)) (by rw [flip_len]; exact hb) (by rw [e1, if_pos rfl]) (xl8 hm' (pow8 (by omega)))
  refine List.ext_getElem (by rw [flip_len, flip_len]) fun j h1 h2 => ?_
  have hj := e2 j
  rw [e1] at hj
  have t1 : (flipB (flipB w b) b).getD j 0 = (flipB (flipB w b) b)[j] := by simp [List.getD, List.getElem?_eq_getElem h1]
  have t2 : w.getD j 0 = w[j] := by simp [List.getD, List.getElem?_eq_getElem h2]
  rw [t1, t2] at hj
  rw [hj]
  split
  · rename_i e
    subst e
    rw [Nat.xor_assoc, Nat.xor_self, Nat.xor_zero, ← hm, t2]
  · rfl
/-- parity of the number of bits -/
theorem pc_xor (a b : Nat) : pc (a ^^^ b) % 2 = (pc a + pc b) % 2 := by
  have d : ∀ (x y : Nat), (x ^^^ y) / 2 = x / 2 ^^^ y / 2 := fun x y => by simpa using Nat.xor_div_two_pow (a := x) (b := y) (n := 1)
  have m : ∀ (x y : Nat), (x ^^^ y) % 2 = (x % 2 + y % 2) % 2 := fun x y => by
    have h := Nat.xor_mod_two_pow (a := x) (b := y) (n := 1)
    simp only [Nat.pow_one] at h
    rw [h]
    rcases Nat.mod_two_eq_zero_or_one x with hx | hx <;> rcases Nat.mod_two_eq_zero_or_one y with hy | hy <;> rw [hx, hy] <;> rfl
  have h4 : ∀ x : Nat, x / 4 = x / 2 / 2 := fun x => by omega
  have h8 : ∀ x : Nat, x / 8 = x / 2 / 2 / 2 := fun x => by omega
  have h16 : ∀ x : Nat, x / 16 = x / 2 / 2 / 2 / 2 := fun x => by omega
  have h32 : ∀ x : Nat, x / 32 = x / 2 / 2 / 2 / 2 / 2 := fun x => by omega
  have h64 : ∀ x : Nat, x / 64 = x / 2 / 2 / 2 / 2 / 2 / 2 := fun x => by omega
  have h128 : ∀ x : Nat, x / 128 = x / 2 / 2 / 2 / 2 / 2 / 2 / 2 := fun x => by omega
  simp only [pc, h4, h8, h16, h32, h64, h128, d, m]
  omega
/-- the last byte of a word is its check byte -/
def tailF (c : Nat) : Nat → Int
  | 0 => c
  | k + 1 => if c.testBit k then bitI .xor .u8 (tailF c k) (colsL.getD (64 + k) 0) else tailF c k
theorem tail0 : ∀ c : Fin 256, tailF c.val 8 = 0 := by decide +kernel
theorem syn_pre (D : List Int) (c : Int) (hD : D.length = 8) : ∀ n, n ≤ 64 → synF (D ++ [c]) colsL n = synF D colsL n
  | 0, _ => rfl
  | n + 1, hn => by
    have ht : tb (D ++ [c]) n = tb D n := by
      unfold tb
      rw [show (D ++ [c]).getD (n / 8) 0 = D.getD (n / 8) 0 by simp [List.getD, List.getElem?_append_left (show n / 8 < D.length by omega)]]
    simp only [synF, ht, syn_pre D c hD n (by omega)]
theorem syn_word (D : List Int) (hD : D.length = 8) (hB : Byt D) : synF (D ++ [synF D colsL 64]) colsL 72 = 0 := by
  obtain ⟨c, e, hc⟩ := syn_nat (w := D) 64 (by omega)
  rw [e]
  have h8 : (D ++ [(c : Int)]).getD 8 0 = (c : Int) := by simp [List.getD, hD]
  have key : ∀ k, k ≤ 8 → synF (D ++ [(c : Int)]) colsL (64 + k) = tailF c k := by
    intro k
    induction k with
    | zero => intro _; rw [Nat.add_zero, syn_pre D _ hD 64 (by omega), e]; rfl
    | succ k ih =>
      intro hk
      have ht : tb (D ++ [(c : Int)]) (64 + k) = c.testBit k := by
        have := tb_eq (w := D ++ [(c : Int)]) (n := 64 + k) (m := c) (by rw [show (64 + k) / 8 = 8 by omega]; exact h8) hc
        rwa [show (64 + k) % 8 = k by omega] at this
      rw [← Nat.add_assoc]
      simp only [synF, tailF, ht, ih (by omega)]
  rw [show (72 : Nat) = 64 + 8 from rfl, key 8 (by omega)]
  exact tail0 ⟨c, hc⟩
theorem byt_app (D : List Int) (hB : Byt D) (c : Int) (h0 : 0 ≤ c) (h1 : c < 256) : Byt (D ++ [c]) := by
  intro j
  by_cases hj : j < D.length
  · rw [show (D ++ [c]).getD j 0 = D.getD j 0 by simp [List.getD, List.getElem?_append_left hj]]; exact hB j
  · by_cases hj2 : j = D.length
    · subst hj2; rw [show (D ++ [c]).getD D.length 0 = c by simp [List.getD]]; exact ⟨h0, h1⟩
    · rw [show (D ++ [c]).getD j 0 = 0 by
        have : (D ++ [c])[j]? = none := List.getElem?_eq_none (by simp; omega)
        simp [List.getD, this]]
      omega
theorem idx_col {i : Nat} (hi : i < 72) : idxL (colsL.getD i 0) colsL 0 = i := colsL_idx ⟨i, hi⟩
theorem col_ne0 {i : Nat} (hi : i < 72) : colsL.getD i 0 ≠ 0 := by
  obtain ⟨c, ec, _, hp⟩ := colN i hi
  rw [ec]
  intro e
  have : c = 0 := by omega
  subst this
  revert hp; decide
/-- what Decode returns, for a word by its syndrome -/
theorem decF_clean {w : List Int} (h9 : w.length = 9) (hs : synF w colsL 72 = 0) : decF w = ⟨0, w, [], -1, 0⟩ := by simp [decF, h9, hs]
theorem decF_fix {w : List Int} {i : Nat} (h9 : w.length = 9) (hi : i < 72) (hs : synF w colsL 72 = colsL.getD i 0) : decF w = ⟨1, flipB w i, [((i / 8 : Nat) : Int)], i, 0⟩ := by
  have h0 := col_ne0 hi
  have hx := idx_col hi
  have : ¬ (i : Int) < 0 := by omega
  simp only [decF, h9, hs, h0, hx, this, if_false, ne_eq, not_true_eq_false, Int.toNat_natCast]
theorem decF_lost {w : List Int} {p : Nat} (h9 : w.length = 9) (hs : synF w colsL 72 = (p : Int)) (hp : pc p % 2 = 0) (h0 : p ≠ 0) : decF w = ⟨2, [], [], -1, 0⟩ := by
  have hx : idxL (p : Int) colsL 0 = -1 := by
    rcases idxL_range (p : Int) colsL 0 with h | ⟨b, h1, _, h3, h4⟩
    · exact h
    · exfalso
      rw [colsL_len] at h3
      obtain ⟨c, ec, _, hc⟩ := colN b (by omega)
      rw [Nat.sub_zero, ec] at h4
      have : c = p := by omega
      subst this
      omega
  have h0' : ¬ (p : Int) = 0 := by omega
  simp [decF, h9, hs, h0, hx]
end Go.Sx.T1
namespace Go.Sx.T1
open Go.Proofs
theorem byt_take {D : List Int} {n : Nat} (h : D.length = n) (hb : ∀ j, 0 ≤ D.getD j 0 ∧ D.getD j 0 < 256) : Byt D := hb
theorem chk_is (D : List Int) (hD : D.length = 8) (c : Int) (e : synF D colsL 64 = c) : FC Try.prog 11 [.o (.c (.s 0 0 8 1))] [u8s D false] (u8e c 0) [u8s D false] := by
  obtain ⟨p, h, e'⟩ := chk_any D 8 hD
  have : p = (c, 0) := by rw [e', ← e]; simp [chkF, hD]
  subst this; exact h
theorem dec_is (w : List Int) (hw : w.length = 9) (d : DecR) (e : decF w = d) : FC Try.prog 12 [.o (.c (.s 0 0 9 1))] [u8s w false] (decS d) (decM w d) := by
  obtain ⟨d', h, e'⟩ := dec_any w 9 hw
  rw [e] at e'; subst e'; exact h
theorem mod72 (n : Int) : ∃ i : Nat, mMod n 72 = i ∧ i < 72 := ⟨(n % 72).toNat, by simp only [mMod]; rw [if_neg (by omega)]; omega, by omega⟩
theorem mod72_x (n : Int) : ∃ i : Nat, FC Try.prog 13 [int .i64 n, int .i64 72] [] (int .i64 i) [] ∧ i < 72 := by
  obtain ⟨i, e, h⟩ := mod72 n
  exact ⟨i, by rw [← e]; exact mod_fc n 72 (by omega), h⟩
theorem q8 (i : Nat) (h : i < 72) : IntKind.i64.wrap ((i : Int).tdiv 8) = ((i / 8 : Nat) : Int) := wrap64_in (n := ((i / 8 : Nat) : Int)) (by omega) (by omega)
theorem r8 (i : Nat) (h : i < 72) : IntKind.u64.wrap ((i : Int).tmod 8) = ((i % 8 : Nat) : Int) := wrapU64_in (n := ((i % 8 : Nat) : Int)) (by omega) (by omega)
set_option maxHeartbeats 3200000 in
set_option maxRecDepth 10000 in
theorem law (ts : List Int) (a0 b0 : Int) : FC Try.prog 3 [.o (.c (.s 0 0 ts.length 1)), int .i64 a0, int .i64 b0] [diceL ts] (boo true) [diceL ts] := by
  refine FC.one (FC.r mix Try.func3 ?_)
  refine FC.u (light_fc ts) [0] ?_
  refine bsel_intro (fun h => ?_) (fun h => ?_)
  · refine FC.u awake_fc [] ?_
    exact ⟨(), trivial, .id rfl ⟨.inl rfl, trivial⟩⟩
  have hl : ts.length ≤ 400 := by simpa using h
  refine FC.u (roll_fc ts) [0] ?_
  refine FC.x (bytes_b ts 0 8 hl (by omega)) [1, 0] (fun D ⟨lD, hD⟩ => ?_)
  obtain ⟨c, ec, hc⟩ := syn_nat (w := D) 64 (by omega)
  refine FC.u (chk_is D lD c ec) [2] ?_
  refine And.intro ⟨by show 0 + 8 ≤ D.length; omega, trivial⟩ ?_
  refine And.intro (by decide) ?_
  have l8 : (List.take 8 (List.drop 0 D)).length = 8 := by simp [lD]
  refine And.intro ⟨by show 0 + (0 + 8) ≤ (List.take 8 (List.drop 0 D)).length; omega, trivial⟩ ?_
  refine And.intro ⟨Nat.le_of_ble_eq_true rfl, trivial⟩ ?_
  refine And.intro (by decide) ?_
  repeat (first | refine And.intro (by kernel_rfl) ?_ | refine And.intro (by decide) ?_)
  have ew : List.take (0 + 8) (List.drop 0 (List.take 8 (List.drop 0 D))) ++ List.take 1 (List.drop 0 [(c : Int)]) = D ++ [(c : Int)] := by
    rw [List.drop_zero, List.drop_zero, List.drop_zero, List.take_take, List.take_of_length_le (show D.length ≤ min (0 + 8) 8 by omega)]; rfl
  have lw : (D ++ [(c : Int)]).length = 9 := by simp [lD]
  have bw : Byt (D ++ [(c : Int)]) := byt_app D hD c (by omega) (by omega)
  have sw : synF (D ++ [(c : Int)]) colsL 72 = 0 := by rw [← ec]; exact syn_word D lD hD
  conv => whnf
  rw [ew]
  generalize D ++ [(c : Int)] = w at lw bw sw
  refine FC.u (dec_is w lw _ (decF_clean lw sw)) [5] ?_
  refine FC.u awake_fc [] ?_
  repeat (first | refine And.intro (by kernel_rfl) ?_ | refine And.intro (by decide) ?_)
  refine FC.x (mod72_x a0) [] (fun i hi => ?_)
  refine FC.x (mod72_x b0) [] (fun k hk => ?_)
  refine And.intro ⟨by show 0 + (0 + 8 + 1) ≤ w.length; omega, trivial⟩ ?_
  refine And.intro (by decide) ?_
  repeat (first | refine And.intro (by kernel_rfl) ?_ | refine And.intro (by decide) ?_)
  have qi := q8 i hi
  have ri := r8 i hi
  have tqi : (IntKind.i64.wrap ((i : Int).tdiv 8)).toNat = i / 8 := by rw [qi]; omega
  have tri : (IntKind.u64.wrap ((i : Int).tmod 8)).toNat = i % 8 := by rw [ri]; omega
  have ew2 : List.take (0 + 8 + 1) (List.drop 0 w) = w := by rw [List.drop_zero, List.take_of_length_le (by omega)]
  refine And.intro ⟨by rw [qi]; omega, by rw [qi]; omega⟩ ?_
  refine And.intro (by show 0 + (IntKind.i64.wrap ((i : Int).tdiv 8)).toNat < (List.take (0 + 8 + 1) (List.drop 0 w)).length; rw [ew2, tqi]; omega) ?_
  repeat (first | refine And.intro (by kernel_rfl) ?_ | refine And.intro (by decide) ?_)
  refine And.intro (by rw [ri]; omega) ?_
  repeat (first | refine And.intro (by kernel_rfl) ?_ | refine And.intro (by decide) ?_)
  refine And.intro ⟨by rw [qi]; omega, by rw [qi]; omega⟩ ?_
  repeat (first | refine And.intro (by kernel_rfl) ?_ | refine And.intro (by decide) ?_)
  refine And.intro (by show 0 + (IntKind.i64.wrap ((i : Int).tdiv 8)).toNat < (List.take (0 + 8 + 1) (List.drop 0 w)).length; rw [ew2, tqi]; omega) ?_
  repeat (first | refine And.intro (by kernel_rfl) ?_ | refine And.intro (by decide) ?_)
  conv => whnf
  have ef : (List.take (0 + 8 + 1) (List.drop 0 w)).set (0 + (IntKind.i64.wrap ((i : Int).tdiv 8)).toNat) (bitI .xor .u8 ((List.take (0 + 8 + 1) (List.drop 0 w)).getD (0 + (IntKind.i64.wrap ((i : Int).tdiv 8)).toNat) 0) (IntKind.u8.wrap (1 * 2 ^ min (IntKind.u64.wrap ((i : Int).tmod 8)).toNat IntKind.u8.bits))) = flipB w i := by
    rw [ew2, tqi, tri, Nat.zero_add]; rfl
  rw [ef]
  obtain ⟨ci, eci, hci, pci⟩ := colN i hi
  obtain ⟨ck, eck, hck, pck⟩ := colN k hk
  have lf : (flipB w i).length = 9 := by rw [flip_len, lw]
  have bf : Byt (flipB w i) := flip_byt bw (by omega)
  have sf : synF (flipB w i) colsL 72 = ((ci : Nat) : Int) := by
    have := syn_flip bw (b := i) (by omega) hi 72 (by omega) 0 ci sw (by omega) eci hci
    rw [this, if_pos hi, Nat.zero_xor]
  have df : decF (flipB w i) = ⟨1, w, [((i / 8 : Nat) : Int)], i, 0⟩ := by
    have := decF_fix lf hi (by rw [sf, eci])
    rw [this, flip_flip bw (by omega)]
  refine FC.u (dec_is (flipB w i) lf _ df) [9] ?_
  repeat (first | refine And.intro (by kernel_rfl) ?_ | refine And.intro (by decide) ?_)
  refine bselF (bneI _) ?_
  repeat (first | refine And.intro (by kernel_rfl) ?_ | refine And.intro (by decide) ?_)
  refine And.intro ⟨Int.le_refl 0, by show (0 : Int) < 1; decide⟩ ?_
  refine And.intro (by show 0 + 0 < 1; decide) ?_
  repeat (first | refine And.intro (by kernel_rfl) ?_ | refine And.intro (by decide) ?_)
  refine bselF (show (((i / 8 : Nat) : Int) != IntKind.i64.wrap ((i : Int).tdiv 8)) = false by rw [qi]; exact bneI _) ?_
  refine And.intro (by show 0 + w.length ≤ w.length; omega) ?_
  refine And.intro (by show 0 + (0 + 8 + 1) ≤ w.length; omega) ?_
  refine bselF (show (!(bytesOf (List.take w.length (List.drop 0 w)) == bytesOf (List.take (0 + 8 + 1) (List.drop 0 w)))) = false by rw [ew2, List.drop_zero, List.take_length, bytesOf_same]; rfl) ?_
  refine bselE (fun hik => ?_) (fun hik => ?_)
  · exact ⟨(), trivial, .id rfl ⟨.inl rfl, trivial⟩⟩
  have hik' : i ≠ k := by intro e; exact hik (by rw [e])
  have qk := q8 k hk
  have rk := r8 k hk
  have tqk : (IntKind.i64.wrap ((k : Int).tdiv 8)).toNat = k / 8 := by rw [qk]; omega
  have trk : (IntKind.u64.wrap ((k : Int).tmod 8)).toNat = k % 8 := by rw [rk]; omega
  repeat (first | refine And.intro (by kernel_rfl) ?_ | refine And.intro (by decide) ?_)
  refine And.intro ⟨by rw [qk]; omega, by rw [qk]; omega⟩ ?_
  refine And.intro (by show 0 + (IntKind.i64.wrap ((k : Int).tdiv 8)).toNat < (flipB w i).length; rw [tqk]; omega) ?_
  repeat (first | refine And.intro (by kernel_rfl) ?_ | refine And.intro (by decide) ?_)
  refine And.intro (by rw [rk]; omega) ?_
  repeat (first | refine And.intro (by kernel_rfl) ?_ | refine And.intro (by decide) ?_)
  refine And.intro ⟨by rw [qk]; omega, by rw [qk]; omega⟩ ?_
  repeat (first | refine And.intro (by kernel_rfl) ?_ | refine And.intro (by decide) ?_)
  refine And.intro (by show 0 + (IntKind.i64.wrap ((k : Int).tdiv 8)).toNat < (flipB w i).length; rw [tqk]; omega) ?_
  repeat (first | refine And.intro (by kernel_rfl) ?_ | refine And.intro (by decide) ?_)
  have eg : (flipB w i).set (0 + (IntKind.i64.wrap ((k : Int).tdiv 8)).toNat) (bitI .xor .u8 ((flipB w i).getD (0 + (IntKind.i64.wrap ((k : Int).tdiv 8)).toNat) 0) (IntKind.u8.wrap (1 * 2 ^ min (IntKind.u64.wrap ((k : Int).tmod 8)).toNat IntKind.u8.bits))) = flipB (flipB w i) k := by
    rw [tqk, trk, Nat.zero_add]; rfl
  conv => whnf
  rw [eg]
  have lg : (flipB (flipB w i) k).length = 9 := by rw [flip_len, lf]
  have sg : synF (flipB (flipB w i) k) colsL 72 = ((ci ^^^ ck : Nat) : Int) := by
    have := syn_flip bf (b := k) (by omega) hk 72 (by omega) ci ck sf hci eck hck
    rw [this, if_pos hk]
  have ne : ci ^^^ ck ≠ 0 := by
    intro e
    have : ci = ck := by
      have h := congrArg (· ^^^ ck) e
      simp only [Nat.xor_assoc, Nat.xor_self, Nat.xor_zero, Nat.zero_xor] at h
      exact h
    exact hik' (colsL_inj hi hk (by rw [eci, eck, this]))
  have dg : decF (flipB (flipB w i) k) = ⟨2, [], [], -1, 0⟩ := decF_lost lg sg (by rw [pc_xor]; omega) ne
  refine FC.u (dec_is (flipB (flipB w i) k) lg _ dg) [9] ?_
  repeat (first | refine And.intro (by kernel_rfl) ?_ | refine And.intro (by decide) ?_)
  exact ⟨(), trivial, .id rfl ⟨.inl rfl, trivial⟩⟩
end Go.Sx.T1
namespace Go.Sx.T1.Words
open Go.Proofs
theorem snd_is (w : List Int) (n : Nat) (hn : w.length = n) (hw : n = 9) (c : Int) (e : synF w colsL 72 = c) : FC Try.prog 15 [.o (.c (.s 0 0 n 1))] [u8s w false] (u8e c 0) [u8s w false] := by
  obtain ⟨p, h, e'⟩ := snd_any w n hn
  have : p = (c, 0) := by rw [e', ← e]; simp [sndF, hn, hw]
  subst this; exact h
structure WS where
  n : Nat
  k : Nat
  w : List Int
  odd : Bool
  th : List Bool
structure WI (x : WS) : Prop where
  n : x.n ≤ 7
  lw : x.w.length = 9
  bw : Byt x.w
  lt : x.th.length = 72
  par : ∃ p : Nat, synF x.w colsL 72 = (p : Int) ∧ p < 256 ∧ pc p % 2 = if x.odd then 1 else 0
set_option maxHeartbeats 3200000 in
set_option maxRecDepth 10000 in
theorem law (ts : List Int) : FC Try.prog 6 [.o (.c (.s 0 0 ts.length 1))] [diceL ts] (boo true) [diceL ts] := by
  refine FC.one (FC.r mix Try.func6 ?_)
  refine FC.u (light_fc ts) [0] ?_
  refine bsel_intro (fun h => ?_) (fun h => ?_)
  · refine FC.u awake_fc [] ?_
    exact ⟨(), trivial, .id rfl ⟨.inl rfl, trivial⟩⟩
  have hl : ts.length ≤ 400 := by simpa using h
  refine FC.u (roll_fc ts) [0] ?_
  refine FC.x (bytes_b ts 0 8 hl (by omega)) [1, 0] (fun D ⟨lD, hD⟩ => ?_)
  obtain ⟨c, ec, hc⟩ := syn_nat (w := D) 64 (by omega)
  refine FC.u (chk_is D lD c ec) [2] ?_
  refine And.intro ⟨by show 0 + 8 ≤ D.length; omega, trivial⟩ ?_
  refine And.intro (by decide) ?_
  have l8 : (List.take 8 (List.drop 0 D)).length = 8 := by simp [lD]
  refine And.intro ⟨by show 0 + (0 + 8) ≤ (List.take 8 (List.drop 0 D)).length; omega, trivial⟩ ?_
  refine And.intro ⟨Nat.le_of_ble_eq_true rfl, trivial⟩ ?_
  refine And.intro (by decide) ?_
  repeat (first | refine And.intro (by kernel_rfl) ?_ | refine And.intro (by decide) ?_)
  have ew : List.take (0 + 8) (List.drop 0 (List.take 8 (List.drop 0 D))) ++ List.take 1 (List.drop 0 [(c : Int)]) = D ++ [(c : Int)] := by
    rw [List.drop_zero, List.drop_zero, List.drop_zero, List.take_take, List.take_of_length_le (show D.length ≤ min (0 + 8) 8 by omega)]; rfl
  have lw : (D ++ [(c : Int)]).length = 9 := by simp [lD]
  have bw : Byt (D ++ [(c : Int)]) := byt_app D hD c (by omega) (by omega)
  have sw : synF (D ++ [(c : Int)]) colsL 72 = 0 := by rw [← ec]; exact syn_word D lD hD
  conv => whnf
  rw [ew]
  generalize D ++ [(c : Int)] = w at lw bw sw
  have h7 := dv_bd ts 8 (n := 7) (by omega)
  refine FC.x (next_x ts (0 + 8) 7 (by omega) hl) [1, 0] (fun n en => ?_)
  obtain ⟨n, rfl⟩ : ∃ m : Nat, n = m := ⟨n.toNat, by rw [en]; exact (Int.toNat_of_nonneg h7.1).symm⟩
  repeat (first | refine And.intro (by kernel_rfl) ?_ | refine And.intro (by decide) ?_)
  refine ALoop.go (X := WS) WI (fun x => x.n) [3, 5, 6, 7, 9] [0, 2] (fun x => [(8, int .i64 x.n), (10, boo x.odd)])
    (fun x => [(1, ⟨.box [.s 0 0 ts.length 1, .v (.int .i64 (min x.k ts.length : Nat))], true⟩), (5, ⟨.ints .u8 x.w, true⟩), (6, ⟨.bools x.th, true⟩)])
    ⟨n, 9, w, false, List.replicate 72 false⟩ ⟨by have h := h7.2; rw [Nat.zero_add] at en; rw [← en] at h; exact Int.ofNat_le.1 (by show (n : Int) ≤ (7 : Nat); omega), lw, bw, by simp, ⟨0, sw, by omega, rfl⟩⟩ ⟨rfl, rfl, trivial⟩ ⟨.inl rfl, .inl rfl, .inl rfl, trivial⟩ ?_
  rintro x hx
  dsimp only [headF, headM]
  obtain ⟨hn7, lx, bx, lt, p, ep, hp, par⟩ := hx
  refine bselD (fun hgt => ?_) (fun hle => ?_)
  · have hn : 0 < x.n := by have : (x.n : Int) > 0 := hgt; omega
    have h72 := dv_bd ts x.k (n := 72) (by omega)
    refine FC.x (next_x ts x.k 72 (by omega) hl) [1, 0] (fun b eb => ?_)
    rw [← eb] at h72
    clear eb
    obtain ⟨b, rfl⟩ : ∃ m : Nat, b = m := ⟨b.toNat, by omega⟩
    have hb : b < 72 := by omega
    have qi := q8 b hb
    have ri := r8 b hb
    have tqi : (IntKind.i64.wrap ((b : Int).tdiv 8)).toNat = b / 8 := by rw [qi]; omega
    have tri : (IntKind.u64.wrap ((b : Int).tmod 8)).toNat = b % 8 := by rw [ri]; omega
    obtain ⟨cb, ecb, hcb, pcb⟩ := colN b hb
    have bf : Byt (flipB x.w b) := flip_byt bx (by omega)
    have sf : synF (flipB x.w b) colsL 72 = ((p ^^^ cb : Nat) : Int) := by
      have := syn_flip bx (b := b) (by omega) hb 72 (by omega) p cb ep hp ecb hcb
      rw [this, if_pos hb]
    have wn : IntKind.i64.wrap ((x.n : Int) - 1) = ((x.n - 1 : Nat) : Int) := by rw [wrap64_in (by omega) (by omega)]; omega
    refine And.intro ⟨by omega, by omega⟩ ?_
    refine And.intro (by show 0 + b < x.th.length; omega) ?_
    refine And.intro ⟨by omega, by omega⟩ ?_
    refine And.intro (by show 0 + b < x.th.length; omega) ?_
    repeat (first | refine And.intro (by kernel_rfl) ?_ | refine And.intro (by decide) ?_)
    refine And.intro ⟨by rw [qi]; omega, by rw [qi]; omega⟩ ?_
    refine And.intro (by show 0 + (IntKind.i64.wrap ((b : Int).tdiv 8)).toNat < x.w.length; rw [tqi]; omega) ?_
    repeat (first | refine And.intro (by kernel_rfl) ?_ | refine And.intro (by decide) ?_)
    refine And.intro (by rw [ri]; omega) ?_
    repeat (first | refine And.intro (by kernel_rfl) ?_ | refine And.intro (by decide) ?_)
    refine And.intro ⟨by rw [qi]; omega, by rw [qi]; omega⟩ ?_
    repeat (first | refine And.intro (by kernel_rfl) ?_ | refine And.intro (by decide) ?_)
    refine And.intro (by show 0 + (IntKind.i64.wrap ((b : Int).tdiv 8)).toNat < x.w.length; rw [tqi]; omega) ?_
    repeat (first | refine And.intro (by kernel_rfl) ?_ | refine And.intro (by decide) ?_)
    refine ⟨⟨x.n - 1, x.k + 1, flipB x.w b, !x.odd, x.th.set (0 + b) (!x.th.getD (0 + b) false)⟩, ⟨⟨by show x.n - 1 ≤ 7; omega, by rw [flip_len, lx], bf, by simp [lt], ⟨p ^^^ cb, sf, xl8 hp hcb, ?_⟩⟩, by show x.n - 1 < x.n; omega⟩, .id ⟨congrArg (int .i64) wn, rfl, trivial⟩ rfl ⟨.inl rfl, .inl ?_, .inl rfl, trivial⟩ rfl⟩
    · rw [pc_xor]
      cases ho : x.odd with
      | true => rw [ho] at par; simp at par ⊢; omega
      | false => rw [ho] at par; simp at par ⊢; omega
    · refine congrArg (fun x => some (⟨.ints .u8 x, true⟩ : Blk)) ?_
      show x.w.set (0 + (IntKind.i64.wrap ((b : Int).tdiv 8)).toNat) (bitI .xor .u8 (x.w.getD (0 + (IntKind.i64.wrap ((b : Int).tdiv 8)).toNat) 0) (IntKind.u8.wrap (1 * 2 ^ min (IntKind.u64.wrap ((b : Int).tmod 8)).toNat IntKind.u8.bits))) = flipB x.w b
      rw [tqi, tri, Nat.zero_add]; rfl
  · obtain ⟨n', k', w', odd, th'⟩ := x
    simp only at lx bx ep par
    clear hle hn7 lt
    have ew9 : List.take (0 + 8 + 1) (List.drop 0 w') = w' := by rw [List.drop_zero, List.take_of_length_le (by omega)]
    by_cases hp0 : p = 0
    · subst hp0
      obtain rfl : odd = false := by
        cases odd with
        | false => rfl
        | true => exfalso; revert par; simp [pc]
      refine FC.u (dec_is w' lx _ (decF_clean lx ep)) [5] ?_
      refine FC.u awake_fc [] ?_
      repeat (first | refine And.intro (by kernel_rfl) ?_ | refine And.intro (by decide) ?_)
      refine FC.u (snd_is w' w'.length rfl lx 0 ep) [7] ?_
      repeat (first | refine And.intro (by kernel_rfl) ?_ | refine And.intro (by decide) ?_)
      refine bselF (show ((w'.length : Int) != 9) = false by rw [lx]; rfl) ?_
      refine And.intro (by show 0 + (0 + 8 + 1) ≤ w'.length; omega) ?_
      refine And.intro (by show 0 + w'.length ≤ w'.length; omega) ?_
      have fin : (bytesOf (List.take (0 + 8 + 1) (List.drop 0 w')) == bytesOf (List.take w'.length (List.drop 0 w'))) = true := by
        rw [ew9, List.drop_zero, List.take_length, bytesOf_same]
      exact ⟨(), trivial, .id (congrArg boo fin) ⟨.inl rfl, trivial⟩⟩
    · rcases idxL_range (p : Int) colsL 0 with hx | ⟨b, hx, _, hb, hcb⟩
      · have dl : decF w' = ⟨2, [], [], -1, 0⟩ := by simp [decF, lx, ep, hp0, hx]
        cases odd with
        | true =>
          refine FC.u (dec_is w' lx _ dl) [5] ?_
          refine FC.u awake_fc [] ?_
          exact ⟨(), trivial, .id rfl ⟨.inl rfl, trivial⟩⟩
        | false =>
          refine FC.u (dec_is w' lx _ dl) [5] ?_
          refine FC.u awake_fc [] ?_
          exact ⟨(), trivial, .id rfl ⟨.inl rfl, trivial⟩⟩
      · rw [colsL_len] at hb
        have hb : b < 72 := by omega
        rw [Nat.sub_zero] at hcb
        obtain ⟨cb, ecb, hcb', pcb⟩ := colN b hb
        obtain rfl : cb = p := by rw [ecb] at hcb; omega
        obtain rfl : odd = true := by
          cases odd with
          | true => rfl
          | false => exfalso; simp at par; omega
        have df := decF_fix lx hb (ep.trans hcb.symm)
        have bf : Byt (flipB w' b) := flip_byt bx (by omega)
        have sf : synF (flipB w' b) colsL 72 = 0 := by
          have := syn_flip bx (b := b) (by omega) hb 72 (by omega) cb cb ep hp ecb hcb'
          rw [this, if_pos hb, Nat.xor_self]; rfl
        have lf : (flipB w' b).length = 9 := by rw [flip_len, lx]
        refine FC.u (dec_is w' lx _ df) [5] ?_
        refine FC.u awake_fc [] ?_
        repeat (first | refine And.intro (by kernel_rfl) ?_ | refine And.intro (by decide) ?_)
        refine FC.u (snd_is (flipB w' b) (flipB w' b).length rfl lf 0 sf) [7] ?_
        repeat (first | refine And.intro (by kernel_rfl) ?_ | refine And.intro (by decide) ?_)
        have qi := q8 b hb
        have ri := r8 b hb
        have tqi : (IntKind.i64.wrap ((b : Int).tdiv 8)).toNat = b / 8 := by rw [qi]; omega
        have tri : (IntKind.u64.wrap ((b : Int).tmod 8)).toNat = b % 8 := by rw [ri]; omega
        refine bselF (show (((flipB w' b).length : Int) != 9) = false by rw [lf]; rfl) ?_
        refine bselD (fun h => by exfalso; have h' : (b : Int) > 71 := h; omega) (fun _ => ?_)
        repeat (first | refine And.intro (by kernel_rfl) ?_ | refine And.intro (by decide) ?_)
        refine And.intro ⟨by rw [qi]; omega, by rw [qi]; omega⟩ ?_
        refine And.intro (by show 0 + (IntKind.i64.wrap ((b : Int).tdiv 8)).toNat < w'.length; rw [tqi]; omega) ?_
        repeat (first | refine And.intro (by kernel_rfl) ?_ | refine And.intro (by decide) ?_)
        refine And.intro (by rw [ri]; omega) ?_
        repeat (first | refine And.intro (by kernel_rfl) ?_ | refine And.intro (by decide) ?_)
        refine And.intro ⟨by rw [qi]; omega, by rw [qi]; omega⟩ ?_
        repeat (first | refine And.intro (by kernel_rfl) ?_ | refine And.intro (by decide) ?_)
        refine And.intro (by show 0 + (IntKind.i64.wrap ((b : Int).tdiv 8)).toNat < w'.length; rw [tqi]; omega) ?_
        repeat (first | refine And.intro (by kernel_rfl) ?_ | refine And.intro (by decide) ?_)
        have eg : w'.set (0 + (IntKind.i64.wrap ((b : Int).tdiv 8)).toNat) (bitI .xor .u8 (w'.getD (0 + (IntKind.i64.wrap ((b : Int).tdiv 8)).toNat) 0) (IntKind.u8.wrap (1 * 2 ^ min (IntKind.u64.wrap ((b : Int).tmod 8)).toNat IntKind.u8.bits))) = flipB w' b := by
          rw [tqi, tri, Nat.zero_add]; rfl
        refine And.intro (by show 0 + (0 + 8 + 1) ≤ (w'.set (0 + (IntKind.i64.wrap ((b : Int).tdiv 8)).toNat) (bitI .xor .u8 (w'.getD (0 + (IntKind.i64.wrap ((b : Int).tdiv 8)).toNat) 0) (IntKind.u8.wrap (1 * 2 ^ min (IntKind.u64.wrap ((b : Int).tmod 8)).toNat IntKind.u8.bits)))).length; rw [eg]; omega) ?_
        refine And.intro (by show 0 + (flipB w' b).length ≤ (flipB w' b).length; omega) ?_
        have fin : (bytesOf (List.take (0 + 8 + 1) (List.drop 0 (w'.set (0 + (IntKind.i64.wrap ((b : Int).tdiv 8)).toNat) (bitI .xor .u8 (w'.getD (0 + (IntKind.i64.wrap ((b : Int).tdiv 8)).toNat) 0) (IntKind.u8.wrap (1 * 2 ^ min (IntKind.u64.wrap ((b : Int).tmod 8)).toNat IntKind.u8.bits)))))) == bytesOf (List.take (flipB w' b).length (List.drop 0 (flipB w' b)))) = true := by
          rw [eg, List.drop_zero, List.take_length, List.take_of_length_le (by omega), bytesOf_same]
        exact ⟨(), trivial, .id (congrArg boo fin) ⟨.inl rfl, trivial⟩⟩
end Go.Sx.T1.Words
