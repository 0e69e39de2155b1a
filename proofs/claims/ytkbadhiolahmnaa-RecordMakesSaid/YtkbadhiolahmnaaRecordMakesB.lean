/- Contracts of the functions that RecordMakes reaches, and the walk of the law, part 2. Conditions: none. -/
import Derived.Test.YtkbadhiolahmnaaRecordMakesA

namespace Go.Sx.T1
open Go.Proofs Go.Sx.Gf
theorem and_i64P {a b : Nat} (ha : a < 9223372036854775808) (hb : b < 9223372036854775808) : bitI .and .i64 (a : Int) (b : Int) = ((a &&& b : Nat) : Int) := by
  unfold bitI
  simp only [BitVec.toNat_and]
  rw [ofInt_nat, ofInt_nat]
  have e1 : a % 2 ^ IntKind.i64.bits = a := Nat.mod_eq_of_lt (Nat.lt_trans ha (by decide))
  have e2 : b % 2 ^ IntKind.i64.bits = b := Nat.mod_eq_of_lt (Nat.lt_trans hb (by decide))
  have e3 : a &&& b ≤ a := Nat.and_le_left
  rw [e1, e2, wrap64_in (by omega) (by omega)]
theorem or_i64 {a b : Nat} (ha : a < 9223372036854775808) (hb : b < 9223372036854775808) : bitI .or .i64 (a : Int) (b : Int) = ((a ||| b : Nat) : Int) := by
  have h : a ||| b < 2 ^ 63 := Nat.or_lt_two_pow ha hb
  unfold bitI
  simp only [BitVec.toNat_or]
  rw [ofInt_nat, ofInt_nat]
  have e1 : a % 2 ^ IntKind.i64.bits = a := Nat.mod_eq_of_lt (Nat.lt_trans ha (by decide))
  have e2 : b % 2 ^ IntKind.i64.bits = b := Nat.mod_eq_of_lt (Nat.lt_trans hb (by decide))
  rw [e1, e2, wrap64_in (by omega) (by omega)]
theorem toNI {p : Nat} (h : p ≤ 64) : min (p : Int).toNat IntKind.i64.bits = p := by rw [Int.toNat_natCast]; exact Nat.min_eq_left h
theorem shrI (x : Nat) {k : Nat} (hk : k ≤ 64) : (x : Int).fdiv (2 ^ min (k : Int).toNat IntKind.i64.bits) = ((x / 2 ^ k : Nat) : Int) := by
  rw [toNI hk]; exact fdiv_nat x k
/-- the lowest bits of an int -/
theorem maskI {x n : Nat} (hx : x < 9223372036854775808) (hn : n ≤ 12) : bitI .and .i64 (x : Int) (IntKind.i64.wrap (IntKind.i64.wrap (1 * 2 ^ min (n : Int).toNat IntKind.i64.bits) - 1)) = ((x % 2 ^ n : Nat) : Int) := by
  have h1 := pow_small hn
  have h2 := shlI (a := 1) hn (by rw [Nat.one_mul]; omega)
  rw [Nat.one_mul] at h2
  rw [show ((1 : Nat) : Int) = 1 from rfl] at h2
  rw [h2, show IntKind.i64.wrap (((2 ^ n : Nat) : Int) - 1) = ((2 ^ n - 1 : Nat) : Int) by generalize 2 ^ n = P at h1; rw [wrap64_in (by omega) (by omega)]; omega, and_i64P hx (by omega), and_mask]
def suf (s : S6) : Nat → Nat
  | 0 => 0
  | j + 1 => suf s j + wN s (5 - j)
/-- number i of the place with index x -/
def digF (s : S6) (x i : Nat) : Nat := x / 2 ^ suf s (5 - i) % 2 ^ wN s i
def mk6 (f : Nat → Int) : S6 := ⟨f 0, f 1, f 2, f 3, f 4, f 5⟩
theorem mk6_get (f : Nat → Int) {i : Nat} (h : i < 6) : (mk6 f).get i = f i := by
  rcases below6 h with rfl | rfl | rfl | rfl | rfl | rfl <;> rfl
def atS (s : S6) (x : Nat) : S6 := mk6 fun i => ((digF s x i : Nat) : Int)
def zero6 : S6 := ⟨0, 0, 0, 0, 0, 0⟩
def atF (s : S6) (x : Int) : S6 × Int := if shB s = true then (if 0 ≤ x ∧ x < sizeF s then (atS s x.toNat, 0) else (zero6, 2)) else (zero6, 1)
def atT (p : S6 × Int) : SV := .t [.a (s6C p.1), .c (.v (.int .i64 p.2))]
theorem wN_is {s : S6} (h : ShV s) {i : Nat} (hi : i < 6) : s.get i = ((wN s i : Nat) : Int) ∧ wN s i ≤ 12 := by
  have := h.1 i hi
  unfold wN
  omega
structure AX6 where
  j : Nat
  q : S6
set_option maxHeartbeats 3200000 in
set_option maxRecDepth 10000 in
theorem at_fc (s : S6) (x : Int) : ∃ p : S6 × Int, FC Try.prog 55 [s6S s, int .i64 x] [] (atT p) [] ∧ p = atF s x := by
  refine FC.rj mix Try.func55 ?_
  repeat (first | refine And.intro (by kernel_rfl) ?_ | refine And.intro (by decide) ?_)
  refine FC.u (pvalid_is s) [] ?_
  refine bselNot (bsel_intro (fun h1 => ?_) (fun h1 => ?_))
  rotate_left
  · repeat (first | refine And.intro (by kernel_rfl) ?_ | refine And.intro (by decide) ?_)
    exact ⟨(zero6, 1), by rw [atF, h1]; rfl, .id rfl trivial⟩
  have hv := shB_iff.1 h1
  repeat refine AJoin.plain ?_
  refine bselD (fun h2 => ?_) (fun h2 => ?_)
  · repeat (first | refine And.intro (by kernel_rfl) ?_ | refine And.intro (by decide) ?_)
    exact ⟨(zero6, 2), by rw [atF, h1, if_pos rfl, if_neg (by omega)], .id rfl trivial⟩
  refine FC.u (size_fc s) [] ?_
  refine bselD (fun h3 => ?_) (fun h3 => ?_)
  · repeat (first | refine And.intro (by kernel_rfl) ?_ | refine And.intro (by decide) ?_)
    exact ⟨(zero6, 2), by rw [atF, h1, if_pos rfl, if_neg (by omega)], .id rfl trivial⟩
  obtain ⟨n, rfl⟩ : ∃ n : Nat, x = n := ⟨x.toNat, by omega⟩
  have hres : atF s (n : Int) = (atS s n, 0) := by rw [atF, h1, if_pos rfl, if_pos ⟨by omega, by omega⟩, Int.toNat_natCast]
  have hn : n < 9223372036854775808 := by
    have := pow_small (n := bitsN s) (by unfold bitsN; have := hv.2; omega)
    rw [sizeF, h1, if_pos rfl] at h3
    generalize 2 ^ bitsN s = P at this h3
    omega
  repeat refine AJoin.plain ?_
  refine FC.u (widths_fc s) [] ?_
  repeat refine AJoin.plain ?_
  refine ALoop.go (X := AX6) (fun x => x.j ≤ 6 ∧ ∀ i, i < 6 → 6 ≤ i + x.j → x.q.get i = ((digF s n i : Nat) : Int)) (fun x => 6 - x.j) [4, 6, 7] [1, 3] (fun x => [(1, int .i64 ((n / 2 ^ suf s x.j : Nat) : Int)), (8, int .i64 (5 - (x.j : Int)))]) (fun x => [(2, ⟨.box (s6C x.q), true⟩)]) ⟨0, zero6⟩ ⟨Nat.zero_le _, fun i h1 h2 => by simp only at h2; omega⟩ ⟨congrArg (int .i64) (by simp [suf]), rfl, trivial⟩ ⟨.inl rfl, trivial⟩ ?_
  rintro ⟨j, q⟩ ⟨hj, hq⟩
  simp only at hj hq
  dsimp only [headF, headM]
  refine bselD (fun h => ?_) (fun h => ?_)
  · have h' : j < 6 := by omega
    have wj : IntKind.i64.wrap (5 - (j : Int) - 1) = 5 - ((j + 1 : Nat) : Int) := by rw [wrap64_in (by omega) (by omega)]; omega
    have hi5 : 5 - j < 6 := by omega
    obtain ⟨ge, gle⟩ := wN_is hv hi5
    have hnd : n / 2 ^ suf s j < 9223372036854775808 := Nat.lt_of_le_of_lt (Nat.div_le_self _ _) hn
    have keyA : bitI .and .i64 ((n / 2 ^ suf s j : Nat) : Int) (IntKind.i64.wrap (IntKind.i64.wrap (1 * 2 ^ min (s.get (5 - j)).toNat IntKind.i64.bits) - 1)) = ((digF s n (5 - j) : Nat) : Int) := by
      rw [ge, maskI hnd gle, digF, show 5 - (5 - j) = j by omega]
    have keyB : ((n / 2 ^ suf s j : Nat) : Int).fdiv (2 ^ min (s.get (5 - j)).toNat IntKind.i64.bits) = ((n / 2 ^ suf s (j + 1) : Nat) : Int) := by
      rw [ge, shrI _ (by omega), suf, Nat.div_div_eq_div_mul, ← Nat.pow_add]
    have g0 : 0 ≤ s.get (5 - j) := by omega
    have hmu : 6 - (j + 1) < 6 - j := by omega
    have inv : j + 1 ≤ 6 ∧ ∀ i, i < 6 → 6 ≤ i + (j + 1) → (q.set (5 - j) (bitI .and .i64 ((n / 2 ^ suf s j : Nat) : Int) (IntKind.i64.wrap (IntKind.i64.wrap (1 * 2 ^ min (s.get (5 - j)).toNat IntKind.i64.bits) - 1)))).get i = ((digF s n i : Nat) : Int) := by
      refine ⟨h', fun i hi hij => ?_⟩
      rw [get_set hi5 hi]
      by_cases e : i = 5 - j
      · rw [if_pos e, keyA, e]
      · rw [if_neg e]; exact hq i hi (by omega)
    repeat refine AJoin.plain ?_
    rcases below6 h' with rfl | rfl | rfl | rfl | rfl | rfl <;>
    · refine And.intro ⟨by decide, by decide⟩ ?_
      refine And.intro g0 ?_
      refine And.intro ⟨by decide, by decide⟩ ?_
      refine And.intro ⟨by decide, by decide⟩ ?_
      refine And.intro g0 ?_
      repeat (first | refine And.intro (by kernel_rfl) ?_ | refine And.intro (by decide) ?_)
      exact ⟨⟨_, _⟩, ⟨inv, hmu⟩, .id ⟨congrArg (int .i64) keyB, congrArg (int .i64) wj, trivial⟩ rfl ⟨.inl rfl, trivial⟩ rfl⟩
  · obtain rfl : j = 6 := by omega
    have hqe : q = atS s n := by
      have e0 := hq 0 (by omega) (by omega); have e1 := hq 1 (by omega) (by omega); have e2 := hq 2 (by omega) (by omega); have e3 := hq 3 (by omega) (by omega); have e4 := hq 4 (by omega) (by omega); have e5 := hq 5 (by omega) (by omega)
      obtain ⟨a, b, c, d, e, f⟩ := q
      simp only [S6.get] at e0 e1 e2 e3 e4 e5
      subst e0 e1 e2 e3 e4 e5
      rfl
    subst hqe
    repeat (first | refine And.intro (by kernel_rfl) ?_ | refine And.intro (by decide) ?_)
    refine FC.u (placeP_fc (atS s n)) [] ?_
    repeat (first | refine And.intro (by kernel_rfl) ?_ | refine And.intro (by decide) ?_)
    exact ⟨(atS s n, 0), hres.symm, .id rfl trivial⟩
/-! ValidPlace, Index -/
def vpB (s p : S6) : Bool := shB s && (List.range 6).all fun j => decide (0 ≤ p.get j) && decide (p.get j < ((2 ^ wN s j : Nat) : Int))
theorem vpB_iff {s p : S6} : vpB s p = true ↔ ShV s ∧ ∀ j, j < 6 → 0 ≤ p.get j ∧ p.get j < ((2 ^ wN s j : Nat) : Int) := by
  simp only [vpB, Bool.and_eq_true, shB_iff, List.all_eq_true, List.mem_range, decide_eq_true_eq]
/-- no bit beyond -/
theorem fdiv_zero {x : Int} {w : Nat} (hx : 0 ≤ x) (hw : w ≤ 12) : x.fdiv (2 ^ min ((w : Nat) : Int).toNat IntKind.i64.bits) = 0 ↔ x < ((2 ^ w : Nat) : Int) := by
  obtain ⟨n, rfl⟩ : ∃ n : Nat, x = n := ⟨x.toNat, by omega⟩
  have hp := Nat.two_pow_pos w
  rw [shrI n (by omega)]
  constructor
  · intro h
    have : n / 2 ^ w = 0 := by omega
    have := (Nat.div_eq_zero_iff_lt hp).1 this
    exact Int.ofNat_lt.2 this
  · intro h
    have : n < 2 ^ w := Int.ofNat_lt.1 h
    rw [Nat.div_eq_of_lt this]; rfl
end Go.Sx.T1

namespace Go.Sx.T1
open Go.Proofs Go.Sx.Gf
/-- the index of a place, by its first j numbers -/
def ixN (s p : S6) : Nat → Nat
  | 0 => 0
  | j + 1 => ixN s p j * 2 ^ wN s j + (p.get j).toNat
def preN (s : S6) : Nat → Nat
  | 0 => 0
  | j + 1 => preN s j + wN s j
def ixF (s p : S6) : Int × Int := if shB s = true then (if vpB s p = true then (((ixN s p 6 : Nat) : Int), 0) else (0, 2)) else (0, 1)
theorem pre_sum {s : S6} (h : ShV s) : ∀ i, i ≤ 6 → ((preN s i : Nat) : Int) = sumTo s i
  | 0, _ => by simp [preN, sumTo]
  | i + 1, hi => by
    have g := (wN_is h (show i < 6 by omega)).1
    have := pre_sum h i (by omega)
    simp only [preN, sumTo, Int.natCast_add, this, g]
theorem pre_le {s : S6} (h : ShV s) {i : Nat} (hi : i ≤ 6) : preN s i ≤ 12 := by
  have h1 := pre_sum h i hi
  have h2 := sum_nat h i hi
  have := h.2
  omega
theorem ix_lt {s p : S6} (hp : ∀ j, j < 6 → 0 ≤ p.get j ∧ p.get j < ((2 ^ wN s j : Nat) : Int)) : ∀ i, i ≤ 6 → ixN s p i < 2 ^ preN s i
  | 0, _ => by simp [ixN, preN]
  | i + 1, hi => by
    have h1 := ix_lt hp i (by omega)
    have h2 := hp i (by omega)
    have h3 : (p.get i).toNat < 2 ^ wN s i := by omega
    simp only [ixN, preN, Nat.pow_add]
    calc ixN s p i * 2 ^ wN s i + (p.get i).toNat < ixN s p i * 2 ^ wN s i + 2 ^ wN s i := by omega
      _ = (ixN s p i + 1) * 2 ^ wN s i := by rw [Nat.succ_mul]
      _ ≤ 2 ^ preN s i * 2 ^ wN s i := Nat.mul_le_mul_right _ h1
/-- shift and or -/
theorem shl_or {a n w : Nat} (hw : w ≤ 12) (hn : n < 2 ^ w) (h : a * 2 ^ w + n < 9223372036854775808) : bitI .or .i64 (IntKind.i64.wrap ((a : Int) * 2 ^ min (w : Int).toNat IntKind.i64.bits)) (n : Int) = ((a * 2 ^ w + n : Nat) : Int) := by
  rw [shlI hw (by omega), or_i64 (by omega) (by omega), Nat.mul_comm, Nat.two_pow_add_eq_or_of_lt hn]
/-! Check, normal -/
structure MapN where
  s : S6
  N : List Nat
  lo : Int
  hi : Int
def nC (m : MapN) (n : Nat) : List C := [.v (.int .i64 m.s.a), .v (.int .i64 m.s.b), .v (.int .i64 m.s.c), .v (.int .i64 m.s.d), .v (.int .i64 m.s.e), .v (.int .i64 m.s.f), .s n 0 m.N.length 1, .v (.int .i64 m.lo), .v (.int .i64 m.hi)]
def nS (m : MapN) (n : Nat) : SV := .o (.a (nC m n))
def nM (m : MapN) : Mem := [u64n m.N false]
def mcF (m : MapN) : Int :=
  if shB m.s = false then 1
  else if m.N.length ≠ bitsN m.s then 7
  else if checkF m.N ≠ 0 then checkF m.N
  else if m.lo < 0 ∨ m.lo > m.hi ∨ m.hi > 1048576 ∨ m.lo > sizeF m.s ∨ m.hi - m.lo + sizeF m.s > 1048576 then 2 else 0
theorem size_is {s : S6} (h : shB s = true) : sizeF s = ((2 ^ bitsN s : Nat) : Int) ∧ bitsN s ≤ 12 := by
  have hv := shB_iff.1 h
  refine ⟨by rw [sizeF, h, if_pos rfl], ?_⟩
  have := hv.2
  unfold bitsN
  omega
set_option maxHeartbeats 3200000 in
set_option maxRecDepth 10000 in
theorem mcheck_fc (m : MapN) (hl : m.N.length ≤ 140737488351232) (hr : ∀ k, m.N.getD k 0 < 18446744073709551616) : FC Try.prog 70 [nS m 0] (nM m) (int .i64 (mcF m)) (nM m) := by
  refine FC.one (FC.rj mix Try.func70 ?_)
  repeat (first | refine And.intro (by kernel_rfl) ?_ | refine And.intro (by decide) ?_)
  refine FC.u (pvalid_is m.s) [] ?_
  refine bselNot (bsel_intro (fun h1 => ?_) (fun h1 => ?_))
  rotate_left
  · repeat (first | refine And.intro (by kernel_rfl) ?_ | refine And.intro (by decide) ?_)
    exact ⟨(), trivial, .id (congrArg (int .i64) (by rw [mcF, h1, if_pos rfl])) ⟨.inl rfl, trivial⟩⟩
  obtain ⟨hs, hb⟩ := size_is h1
  have hp := pow_small hb
  have hl' := len_fc (bitsN m.s) hb
  repeat refine AJoin.plain ?_
  refine FC.u (size_fc m.s) [] ?_
  conv => whnf
  have w1 : IntKind.u64.wrap (sizeF m.s) = ((2 ^ bitsN m.s : Nat) : Int) := by rw [hs]; generalize 2 ^ bitsN m.s = P at hp; exact wrapU64_in (by omega) (by omega)
  have w2 : IntKind.i64.wrap (((bitsN m.s + 1 : Nat) : Int) - 1) = ((bitsN m.s : Nat) : Int) := by rw [wrap64_in (by omega) (by omega)]; omega
  rw [w1]
  refine FC.u hl' [] ?_
  conv => whnf
  rw [w2]
  repeat (first | refine And.intro (by kernel_rfl) ?_ | refine And.intro (by decide) ?_)
  refine bselN (fun h2 => ?_) (fun h2 => ?_)
  · repeat (first | refine And.intro (by kernel_rfl) ?_ | refine And.intro (by decide) ?_)
    exact ⟨(), trivial, .id (congrArg (int .i64) (by rw [mcF, if_neg (by simp [h1]), if_pos (by omega)])) ⟨.inl rfl, trivial⟩⟩
  have e1 : mcF m = (if checkF m.N ≠ 0 then checkF m.N
    else if m.lo < 0 ∨ m.lo > m.hi ∨ m.hi > 1048576 ∨ m.lo > sizeF m.s ∨ m.hi - m.lo + sizeF m.s > 1048576 then 2 else 0) := by rw [mcF, if_neg (by simp [h1]), if_neg (by omega)]
  repeat refine AJoin.plain ?_
  refine FC.u (check10_fc m.N hl hr) [0] ?_
  refine bselN (fun h3 => ?_) (fun h3 => ?_)
  · repeat (first | refine And.intro (by kernel_rfl) ?_ | refine And.intro (by decide) ?_)
    exact ⟨(), trivial, .id (congrArg (int .i64) (by rw [e1, if_pos h3])) ⟨.inl rfl, trivial⟩⟩
  rw [if_neg (fun h => h h3)] at e1
  have bad : (m.lo < 0 ∨ m.lo > m.hi ∨ m.hi > 1048576 ∨ m.lo > sizeF m.s ∨ m.hi - m.lo + sizeF m.s > 1048576) → int .i64 2 = int .i64 (mcF m) := fun h => by rw [e1, if_pos h]
  repeat refine AJoin.plain ?_
  refine bselD (fun c1 => ?_) (fun c1 => ?_)
  · repeat (first | refine And.intro (by kernel_rfl) ?_ | refine And.intro (by decide) ?_)
    exact ⟨(), trivial, .id (bad (.inl c1)) ⟨.inl rfl, trivial⟩⟩
  refine bselD (fun c2 => ?_) (fun c2 => ?_)
  · repeat (first | refine And.intro (by kernel_rfl) ?_ | refine And.intro (by decide) ?_)
    exact ⟨(), trivial, .id (bad (.inr (.inl c2))) ⟨.inl rfl, trivial⟩⟩
  refine bselD (fun c3 => ?_) (fun c3 => ?_)
  · repeat (first | refine And.intro (by kernel_rfl) ?_ | refine And.intro (by decide) ?_)
    exact ⟨(), trivial, .id (bad (.inr (.inr (.inl c3)))) ⟨.inl rfl, trivial⟩⟩
  refine bselD (fun c4 => ?_) (fun c4 => ?_)
  · repeat (first | refine And.intro (by kernel_rfl) ?_ | refine And.intro (by decide) ?_)
    exact ⟨(), trivial, .id (bad (.inr (.inr (.inr (.inl c4))))) ⟨.inl rfl, trivial⟩⟩
  have w3 : IntKind.i64.wrap (IntKind.i64.wrap (m.hi - m.lo) + sizeF m.s) = m.hi - m.lo + sizeF m.s := by
    rw [hs]; generalize 2 ^ bitsN m.s = P at hp
    have w0 : IntKind.i64.wrap (m.hi - m.lo) = m.hi - m.lo := wrap64_in (by omega) (by omega)
    rw [w0, wrap64_in (by omega) (by omega)]
  refine bselD (fun c5 => ?_) (fun c5 => ?_)
  · repeat (first | refine And.intro (by kernel_rfl) ?_ | refine And.intro (by decide) ?_)
    exact ⟨(), trivial, .id (bad (.inr (.inr (.inr (.inr (by rw [← w3]; exact c5)))))) ⟨.inl rfl, trivial⟩⟩
  · rw [w3] at c5
    repeat (first | refine And.intro (by kernel_rfl) ?_ | refine And.intro (by decide) ?_)
    exact ⟨(), trivial, .id (congrArg (int .i64) (by rw [e1, if_neg (by omega)])) ⟨.inl rfl, trivial⟩⟩
def normF (m : MapN) (x : Int) : Int × Bool :=
  if x < 0 then (0, false) else if x < m.lo then (x, true) else if x < m.hi then (0, false) else (x - (m.hi - m.lo), decide (x - (m.hi - m.lo) < sizeF m.s))
structure McOk (m : MapN) : Prop where
  sh : shB m.s = true
  len : m.N.length = bitsN m.s
  ck : checkF m.N = 0
  lo : 0 ≤ m.lo ∧ m.lo ≤ sizeF m.s
  hi : m.lo ≤ m.hi ∧ m.hi ≤ 1048576
  fit : m.hi - m.lo + sizeF m.s ≤ 1048576
theorem mc_iff (m : MapN) : mcF m = 0 ↔ McOk m := by
  unfold mcF
  constructor
  · intro h
    split at h
    · exact absurd h (by decide)
    · split at h
      · exact absurd h (by decide)
      · split at h
        · exact absurd h (by assumption)
        · split at h
          · exact absurd h (by decide)
          · rename_i a b c d
            refine ⟨by simpa using a, by simpa using b, by simpa using c, ?_, ?_, ?_⟩ <;> omega
  · rintro ⟨h1, h2, h3, h4, h5, h6⟩
    rw [if_neg (by simp [h1]), if_neg (by simp [h2]), if_neg (by simp [h3]), if_neg (by omega)]
set_option maxHeartbeats 3200000 in
set_option maxRecDepth 10000 in
theorem normal_fc (m : MapN) (x : Int) (ok : McOk m) (hx : x ≤ 9223372036854775807) : ∃ r : Int × Bool, FC Try.prog 71 [nS m 0, int .i64 x] (nM m) (.t [.c (.v (.int .i64 r.1)), .c (.v (.bool r.2))]) (nM m) ∧ r = normF m x := by
  obtain ⟨hs, hb⟩ := size_is ok.sh
  have hp := pow_small hb
  have hlo := ok.lo
  have hhi := ok.hi
  have w1 : IntKind.i64.wrap (m.hi - m.lo) = m.hi - m.lo := wrap64_in (by omega) (by omega)
  refine FC.rj mix Try.func71 ?_
  repeat (first | refine And.intro (by kernel_rfl) ?_ | refine And.intro (by decide) ?_)
  refine bselD (fun c1 => ?_) (fun c1 => ?_)
  · repeat (first | refine And.intro (by kernel_rfl) ?_ | refine And.intro (by decide) ?_)
    exact ⟨(0, false), by rw [normF, if_pos c1], .id rfl ⟨.inl rfl, trivial⟩⟩
  repeat (first | refine And.intro (by kernel_rfl) ?_ | refine And.intro (by decide) ?_)
  refine bselD (fun c2 => ?_) (fun c2 => ?_)
  · repeat (first | refine And.intro (by kernel_rfl) ?_ | refine And.intro (by decide) ?_)
    exact ⟨(x, true), by rw [normF, if_neg c1, if_pos c2], .id rfl ⟨.inl rfl, trivial⟩⟩
  repeat (first | refine And.intro (by kernel_rfl) ?_ | refine And.intro (by decide) ?_)
  refine bselD (fun c3 => ?_) (fun c3 => ?_)
  · repeat (first | refine And.intro (by kernel_rfl) ?_ | refine And.intro (by decide) ?_)
    exact ⟨(0, false), by rw [normF, if_neg c1, if_neg c2, if_pos c3], .id rfl ⟨.inl rfl, trivial⟩⟩
  have w2 : IntKind.i64.wrap (x - IntKind.i64.wrap (m.hi - m.lo)) = x - (m.hi - m.lo) := by rw [w1, wrap64_in (by omega) (by omega)]
  repeat (first | refine And.intro (by kernel_rfl) ?_ | refine And.intro (by decide) ?_)
  refine FC.u (size_fc m.s) [] ?_
  repeat (first | refine And.intro (by kernel_rfl) ?_ | refine And.intro (by decide) ?_)
  exact ⟨(x - (m.hi - m.lo), decide (x - (m.hi - m.lo) < sizeF m.s)), by rw [normF, if_neg c1, if_neg c2, if_neg c3], .id (by show SV.t [.c (.v (.int .i64 (IntKind.i64.wrap (x - IntKind.i64.wrap (m.hi - m.lo))))), .c (.v (.bool (decide (IntKind.i64.wrap (x - IntKind.i64.wrap (m.hi - m.lo)) < sizeF m.s))))] = _; rw [w2]) ⟨.inl rfl, trivial⟩⟩
end Go.Sx.T1

namespace Go.Sx.T1
open Go.Proofs Go.Sx.Gf
/-! the reference of layer 9 -/
theorem rvalid_is (s : S6) : FC Try.prog 60 [s6S s] [] (boo (shB s)) [] := by
  obtain ⟨b, h, e⟩ := rvalid_fc s
  have : b = shB s := by rw [Bool.eq_iff_iff, e, shB_iff]
  rw [← this]; exact h
set_option maxHeartbeats 3200000 in
set_option maxRecDepth 10000 in
theorem rnumbers_fc (s : S6) : FC Try.prog 42 [s6S s] [] (s6S s) [] := by
  refine FC.one (FC.r mix Try.func42 ?_)
  repeat (first | refine And.intro (by kernel_rfl) ?_ | refine And.intro (by decide) ?_)
  exact ⟨(), trivial, .id rfl trivial⟩
set_option maxHeartbeats 3200000 in
set_option maxRecDepth 10000 in
theorem rbits_fc (s : S6) (hv : ShV s) : FC Try.prog 77 [s6S s] [] (int .i64 ((bitsN s : Nat) : Int)) [] := by
  have hb : ((bitsN s : Nat) : Int) = sumTo s 6 := by have := sum_nat hv 6 (by omega); unfold bitsN; omega
  rw [hb]
  refine FC.one (FC.rj mix Try.func77 ?_)
  repeat (first | refine And.intro (by kernel_rfl) ?_ | refine And.intro (by decide) ?_)
  refine FC.u (bits_fc s) [] ?_
  refine ALoop.go (X := Nat) (fun i => i ≤ 6) (fun i => 6 - i) [3] [1] (fun i => [(4, int .i64 (sumTo s i)), (5, int .i64 i)]) (fun _ => []) 0 (Nat.zero_le _) ⟨rfl, rfl, trivial⟩ trivial ?_
  intro i hi
  dsimp only [headF, headM]
  refine bselD (fun h => ?_) (fun h => ?_)
  · have h' : i < 6 := by omega
    have wi : IntKind.i64.wrap ((i : Int) + 1) = ((i + 1 : Nat) : Int) := wrap64_in (by omega) (by omega)
    have b1 := sum_nat hv i (by omega)
    have b2 := sum_nat hv (i + 1) (by omega)
    have b3 := hv.2
    have key : IntKind.i64.wrap (sumTo s i + s.get i) = sumTo s (i + 1) := by
      have e : sumTo s (i + 1) = sumTo s i + s.get i := rfl
      rw [e] at b2 ⊢
      exact wrap64_in (by omega) (by omega)
    have hmu : 6 - (i + 1) < 6 - i := by omega
    repeat refine AJoin.plain ?_
    rcases below6 h' with rfl | rfl | rfl | rfl | rfl | rfl <;>
    · refine And.intro ⟨by decide, by decide⟩ ?_
      repeat (first | refine And.intro (by kernel_rfl) ?_ | refine And.intro (by decide) ?_)
      exact ⟨_, ⟨h', hmu⟩, .id ⟨congrArg (int .i64) key, congrArg (int .i64) wi, trivial⟩ rfl trivial rfl⟩
  · obtain rfl : i = 6 := by omega
    repeat (first | refine And.intro (by kernel_rfl) ?_ | refine And.intro (by decide) ?_)
    exact ⟨(), trivial, .id rfl trivial⟩
set_option maxHeartbeats 3200000 in
set_option maxRecDepth 10000 in
theorem rsize_fc (s : S6) : FC Try.prog 61 [s6S s] [] (int .i64 (sizeF s)) [] := by
  refine FC.one (FC.rj mix Try.func61 ?_)
  repeat (first | refine And.intro (by kernel_rfl) ?_ | refine And.intro (by decide) ?_)
  refine FC.u (rvalid_is s) [] ?_
  refine bselNot (bsel_intro (fun h1 => ?_) (fun h1 => ?_))
  rotate_left
  · repeat (first | refine And.intro (by kernel_rfl) ?_ | refine And.intro (by decide) ?_)
    exact ⟨(), trivial, .id (congrArg (int .i64) (by rw [sizeF, h1]; rfl)) trivial⟩
  obtain ⟨hs, hb⟩ := size_is h1
  obtain ⟨p1, p2, p3⟩ := pow_i64 (bitsN s) hb
  repeat refine AJoin.plain ?_
  refine FC.u (rbits_fc s (shB_iff.1 h1)) [] ?_
  refine And.intro (by show 0 ≤ IntKind.u64.wrap ((bitsN s : Nat) : Int); rw [wrapU64_in (by omega) (by omega)]; omega) ?_
  repeat (first | refine And.intro (by kernel_rfl) ?_ | refine And.intro (by decide) ?_)
  exact ⟨(), trivial, .id (congrArg (int .i64) (by rw [p1, hs])) trivial⟩
theorem wid_pow {s : S6} (hv : ShV s) {i : Nat} (hi : i < 6) : IntKind.i64.wrap (1 * 2 ^ min (IntKind.u64.wrap (s.get i)).toNat IntKind.i64.bits) = ((2 ^ wN s i : Nat) : Int) ∧ 0 ≤ IntKind.u64.wrap (s.get i) := by
  obtain ⟨ge, gle⟩ := wN_is hv hi
  rw [ge]
  refine ⟨(pow_i64 (wN s i) gle).1, ?_⟩
  rw [wrapU64_in (by omega) (by omega)]; omega
set_option maxHeartbeats 3200000 in
set_option maxRecDepth 10000 in
theorem rat_fc (s : S6) (x : Int) : ∃ p : S6 × Int, FC Try.prog 37 [s6S s, int .i64 x] [] (atT p) [] ∧ p = atF s x := by
  refine FC.rj mix Try.func37 ?_
  repeat (first | refine And.intro (by kernel_rfl) ?_ | refine And.intro (by decide) ?_)
  refine FC.u (rvalid_is s) [] ?_
  refine bselNot (bsel_intro (fun h1 => ?_) (fun h1 => ?_))
  rotate_left
  · repeat (first | refine And.intro (by kernel_rfl) ?_ | refine And.intro (by decide) ?_)
    exact ⟨(zero6, 1), by rw [atF, h1]; rfl, .id rfl trivial⟩
  have hv := shB_iff.1 h1
  repeat refine AJoin.plain ?_
  refine bselD (fun h2 => ?_) (fun h2 => ?_)
  · repeat (first | refine And.intro (by kernel_rfl) ?_ | refine And.intro (by decide) ?_)
    exact ⟨(zero6, 2), by rw [atF, h1, if_pos rfl, if_neg (by omega)], .id rfl trivial⟩
  refine FC.u (rsize_fc s) [] ?_
  refine bselD (fun h3 => ?_) (fun h3 => ?_)
  · repeat (first | refine And.intro (by kernel_rfl) ?_ | refine And.intro (by decide) ?_)
    exact ⟨(zero6, 2), by rw [atF, h1, if_pos rfl, if_neg (by omega)], .id rfl trivial⟩
  obtain ⟨n, rfl⟩ : ∃ n : Nat, x = n := ⟨x.toNat, by omega⟩
  have hres : atF s (n : Int) = (atS s n, 0) := by rw [atF, h1, if_pos rfl, if_pos ⟨by omega, by omega⟩, Int.toNat_natCast]
  have hn : n < 9223372036854775808 := by
    have := pow_small (n := bitsN s) (by unfold bitsN; have := hv.2; omega)
    rw [sizeF, h1, if_pos rfl] at h3
    generalize 2 ^ bitsN s = P at this h3
    omega
  repeat refine AJoin.plain ?_
  refine FC.u (bits_fc s) [] ?_
  repeat refine AJoin.plain ?_
  refine ALoop.go (X := AX6) (fun x => x.j ≤ 6 ∧ ∀ i, i < 6 → 6 ≤ i + x.j → x.q.get i = ((digF s n i : Nat) : Int)) (fun x => 6 - x.j) [4, 6, 7] [1, 2] (fun x => [(1, int .i64 ((n / 2 ^ suf s x.j : Nat) : Int)), (8, int .i64 (5 - (x.j : Int)))]) (fun x => [(3, ⟨.box (s6C x.q), true⟩)]) ⟨0, zero6⟩ ⟨Nat.zero_le _, fun i h1 h2 => by simp only at h2; omega⟩ ⟨congrArg (int .i64) (by simp [suf]), rfl, trivial⟩ ⟨.inl rfl, trivial⟩ ?_
  rintro ⟨j, q⟩ ⟨hj, hq⟩
  simp only at hj hq
  dsimp only [headF, headM]
  refine bselD (fun h => ?_) (fun h => ?_)
  · have h' : j < 6 := by omega
    have wj : IntKind.i64.wrap (5 - (j : Int) - 1) = 5 - ((j + 1 : Nat) : Int) := by rw [wrap64_in (by omega) (by omega)]; omega
    have hi5 : 5 - j < 6 := by omega
    obtain ⟨wp, wu⟩ := wid_pow hv hi5
    obtain ⟨ge, gle⟩ := wN_is hv hi5
    have hp1 := pow_small gle
    have hnd : n / 2 ^ suf s j < 9223372036854775808 := Nat.lt_of_le_of_lt (Nat.div_le_self _ _) hn
    have keyA : ((n / 2 ^ suf s j : Nat) : Int).tmod (IntKind.i64.wrap (1 * 2 ^ min (IntKind.u64.wrap (s.get (5 - j))).toNat IntKind.i64.bits)) = ((digF s n (5 - j) : Nat) : Int) := by
      rw [wp, digF, show 5 - (5 - j) = j by omega]; rfl
    have keyB : IntKind.i64.wrap (((n / 2 ^ suf s j : Nat) : Int).tdiv (IntKind.i64.wrap (1 * 2 ^ min (IntKind.u64.wrap (s.get (5 - j))).toNat IntKind.i64.bits))) = ((n / 2 ^ suf s (j + 1) : Nat) : Int) := by
      have e : ((n / 2 ^ suf s j : Nat) : Int).tdiv ((2 ^ wN s (5 - j) : Nat) : Int) = ((n / 2 ^ suf s j / 2 ^ wN s (5 - j) : Nat) : Int) := rfl
      have e3 : n / 2 ^ suf s j / 2 ^ wN s (5 - j) ≤ n / 2 ^ suf s j := Nat.div_le_self _ _
      rw [wp, e]
      generalize hQ : n / 2 ^ suf s j / 2 ^ wN s (5 - j) = Q at e3 ⊢
      rw [wrap64_in (by omega) (by omega), ← hQ, suf, Nat.div_div_eq_div_mul, ← Nat.pow_add]
    have nz : IntKind.i64.wrap (1 * 2 ^ min (IntKind.u64.wrap (s.get (5 - j))).toNat IntKind.i64.bits) ≠ 0 := by rw [wp]; omega
    have hmu : 6 - (j + 1) < 6 - j := by omega
    have inv : j + 1 ≤ 6 ∧ ∀ i, i < 6 → 6 ≤ i + (j + 1) → (q.set (5 - j) (((n / 2 ^ suf s j : Nat) : Int).tmod (IntKind.i64.wrap (1 * 2 ^ min (IntKind.u64.wrap (s.get (5 - j))).toNat IntKind.i64.bits)))).get i = ((digF s n i : Nat) : Int) := by
      refine ⟨h', fun i hi hij => ?_⟩
      rw [get_set hi5 hi]
      by_cases e : i = 5 - j
      · rw [if_pos e, keyA, e]
      · rw [if_neg e]; exact hq i hi (by omega)
    repeat refine AJoin.plain ?_
    rcases below6 h' with rfl | rfl | rfl | rfl | rfl | rfl <;>
    · refine And.intro ⟨by decide, by decide⟩ ?_
      refine And.intro wu ?_
      refine And.intro nz ?_
      refine And.intro ⟨by decide, by decide⟩ ?_
      refine And.intro ⟨by decide, by decide⟩ ?_
      refine And.intro wu ?_
      refine And.intro nz ?_
      repeat (first | refine And.intro (by kernel_rfl) ?_ | refine And.intro (by decide) ?_)
      exact ⟨⟨_, _⟩, ⟨inv, hmu⟩, .id ⟨congrArg (int .i64) keyB, congrArg (int .i64) wj, trivial⟩ rfl ⟨.inl rfl, trivial⟩ rfl⟩
  · obtain rfl : j = 6 := by omega
    have hqe : q = atS s n := by
      have e0 := hq 0 (by omega) (by omega); have e1 := hq 1 (by omega) (by omega); have e2 := hq 2 (by omega) (by omega); have e3 := hq 3 (by omega) (by omega); have e4 := hq 4 (by omega) (by omega); have e5 := hq 5 (by omega) (by omega)
      obtain ⟨a, b, c, d, e, f⟩ := q
      simp only [S6.get] at e0 e1 e2 e3 e4 e5
      subst e0 e1 e2 e3 e4 e5
      rfl
    subst hqe
    repeat (first | refine And.intro (by kernel_rfl) ?_ | refine And.intro (by decide) ?_)
    exact ⟨(atS s n, 0), hres.symm, .id rfl trivial⟩
end Go.Sx.T1
namespace Go.Sx.Gf
theorem pv_range (ps : List Pr) : ∀ c, (solveE ps c).pv.length = c → (solveE ps c).pv = List.range c
  | 0, _ => rfl
  | c + 1, h => by
    have hi := solve_inv ps c
    have hf := free_len ps c
    rw [solveE] at h ⊢
    cases hp : pick (solveE ps c) c with
    | none =>
      rw [show stepE (solveE ps c) c = solveE ps c by simp only [stepE, hp]] at h
      omega
    | some i =>
      have hs : (stepE (solveE ps c) c).pv = (solveE ps c).pv ++ [c] := by simp only [stepE, hp]
      rw [hs] at h ⊢
      have hl : (solveE ps c).pv.length = c := by simpa using h
      rw [pv_range ps c hl, List.range_succ]
section
variable {rows pts : List Nat} {n : Nat} (hn : rows.length = n) (hp : pts.length = n) (hpt : ∀ k, k < n → pts.getD k 0 = 2 ^ k) (hrk : rk n rows = n)
include hn hp hpt hrk
/-- x is mapped to v exactly if the inverse maps v to x -/
theorem inv_iff (x v : Nat) : (∀ k, k < n → dot n (rows.getD k 0) x = v.testBit k) ↔ ∀ k, k < n → dot n (((solveE (rows.zip pts) n).ps.getD k z2).2) v = x.testBit k := by
  have hzl : (rows.zip pts).length = n := by simp [hn, hp]
  have hi := solve_inv (rows.zip pts) n
  have hpl : (solveE (rows.zip pts) n).pv.length = n := by rw [rk_zip (by omega)]; exact hrk
  have hpv := pv_range _ _ hpl
  generalize solveE (rows.zip pts) n = e at hi hpl hpv
  have hel : e.ps.length = n := by rw [hi.len, hzl]
  have hg : ∀ k, k < n → e.pv.getD k 0 = k := fun k hk => by rw [hpv]; simp [List.getD_eq_getElem?_getD, hk]
  have hrow : ∀ k, k < n → dot n (e.ps.getD k z2).1 x = x.testBit k := fun k hk => by
    have h1 := hi.piv k (by omega)
    rw [hg k hk] at h1
    rw [dot_one hk fun b hb hne => ?_, h1, Bool.true_and]
    have h2 := hi.oth b (by omega) k (fun h => hne h.symm)
    rw [hg b hb] at h2
    rw [h2]; rfl
  have hz : ∀ k, k < n → (rows.zip pts).getD k z2 = (rows.getD k 0, 2 ^ k) := fun k hk => by
    rw [← hpt k hk]
    simp [List.getD_eq_getElem?_getD, hn, hp, hk]
  have he := hi.eqv n n x v
  unfold Holds at he
  rw [hzl, hel] at he
  constructor
  · intro h k hk
    have := he.2 (fun k hk => by rw [hz k hk]; simp only [dot_two v hk]; exact h k hk) k hk
    rw [hrow k hk] at this
    exact this.symm
  · intro h k hk
    have := he.1 (fun k hk => by rw [hrow k hk]; exact (h k hk).symm) k hk
    rw [hz k hk] at this
    simpa only [dot_two v hk] using this
end
end Go.Sx.Gf
namespace Go.Sx.T1
open Go.Proofs Go.Sx.Gf
theorem MkOk.check {b : Nat} {N : List Nat} (h : MkOk b N) (hb : b ≤ 60) : checkF N = 0 := by
  have hl := h.len
  unfold checkF
  rw [if_neg (by omega)]
  by_cases h0 : N.length = 0
  · rw [if_pos h0]
  · have ho : okM N.length N = true := by
      simp only [okM, sideB, Bool.and_eq_true, decide_eq_true_eq, List.all_eq_true]
      refine ⟨⟨by omega, by omega⟩, ⟨by omega, by omega⟩, fun v hv => ?_⟩
      obtain ⟨k, hk, rfl⟩ := List.getElem_of_mem hv
      have := h.bd k
      rw [List.getD_eq_getElem?_getD, List.getElem?_eq_getElem hk] at this
      rw [hl]; simpa using this
    have hf := h.ker.full
    rw [if_neg h0, if_neg (by simp [ho]), if_neg (by rw [hl]; omega)]
theorem rk_len (n : Nat) (rows : List Nat) : rk n rows ≤ rows.length := by
  have h := solve_inv (rows.zip (units rows.length)) n
  have h1 := rk_zip (C := n) (rows := rows) (pts := units rows.length) (units_len _)
  have h2 : (rows.zip (units rows.length)).length = rows.length := by simp [units_len]
  have := h.pvl
  have := h.len
  omega
theorem apF64 {rows : List Nat} {c v x : Nat} (hc : c ≤ 64) (hb : ∀ k, rows.getD k 0 < 2 ^ c) (hv : v < 2 ^ rows.length) : apF rows x rows.length = v ↔ ∀ k, k < rows.length → dot c (rows.getD k 0) x = v.testBit k := by
  constructor
  · intro h k hk
    rw [← h, apF, ofB_bit, decide_eq_true hk, Bool.true_and, dot_cut x (hb k) hc]
  · intro h
    refine eq_bits (apF_lt _ _ _) hv fun i hi => ?_
    rw [apF, ofB_bit, decide_eq_true hi, Bool.true_and, dot_cut x (hb i) hc, h i hi]
/-- masks with a full rank, and their inverse -/
structure InvOk (N r : List Nat) : Prop where
  len : r.length = N.length
  bd : ∀ k, r.getD k 0 < 2 ^ N.length
  iff : ∀ x v, x < 2 ^ N.length → v < 2 ^ N.length → (valF N x = v ↔ valF r v = x)
theorem inv_ok {N : List Nat} (h : checkF N = 0) (hl : N.length ≤ 64) : InvOk N (inv10F N).1 ∧ (inv10F N).2 = 0 := by
  by_cases h0 : N.length = 0
  · have e : inv10F N = ([], 0) := by rw [inv10F, if_pos (.inr h0), h]
    have e2 : N = [] := List.length_eq_zero_iff.1 h0
    rw [e]
    subst e2
    refine ⟨⟨rfl, fun k => by simp, fun x v hx hv => ?_⟩, rfl⟩
    have hx' : x = 0 := by simpa using hx
    have hv' : v = 0 := by simpa using hv
    subst hx' hv'
    exact Iff.rfl
  · have e : inv10F N = ((invF N.length N).rows, 0) := by rw [inv10F, if_neg (by omega)]
    rw [checkF, if_neg (by omega), if_neg h0] at h
    have ho : okM N.length N = true := by
      cases hk : okM N.length N with
      | true => rfl
      | false => rw [hk, if_pos rfl] at h; exact absurd h (by decide)
    rw [if_neg (by simp [ho])] at h
    have hrk : rk N.length N = N.length := by
      have := rk_len N.length N
      by_cases hlt : rk N.length N < N.length
      · rw [if_pos hlt] at h; exact absurd h (by decide)
      · omega
    obtain ⟨b1, b2, b3, b4, b5⟩ := okM_bd ho
    rw [Int.toNat_natCast] at b5
    have hz : (N.zip (units N.length)).length = N.length := by simp [units_len]
    have hpv : (solveE (N.zip (units N.length)) N.length).pv.length = N.length := by rw [rk_zip (units_len _)]; exact hrk
    have er : (invF N.length N).rows = snds (solveE (N.zip (units N.length)) N.length).ps := by
      rw [invF, ho, if_pos rfl, if_neg (by simp), if_neg (by omega)]
    rw [e, er]
    have hsl : (snds (solveE (N.zip (units N.length)) N.length).ps).length = N.length := by
      rw [snds_len, (solve_inv (N.zip (units N.length)) N.length).len, hz]
    have hB : Bd N.length N.length (N.zip (units N.length)) := fun k => by
      by_cases hk : k < N.length
      · have : (N.zip (units N.length)).getD k z2 = (N.getD k 0, (units N.length).getD k 0) := by
          have hk2 : k < (units N.length).length := by rw [units_len]; exact hk
          have hk3 : k < (N.zip (units N.length)).length := by omega
          rw [List.getD_eq_getElem?_getD, List.getElem?_eq_getElem hk3, List.getD_eq_getElem?_getD, List.getElem?_eq_getElem hk, List.getD_eq_getElem?_getD, List.getElem?_eq_getElem hk2, List.getElem_zip]; rfl
        rw [this]
        exact ⟨b5 k, units_bd _ _⟩
      · rw [getD_out (by omega)]
        exact z2_bd _ _
    have hbd : ∀ k, (snds (solveE (N.zip (units N.length)) N.length).ps).getD k 0 < 2 ^ N.length := fun k => by
      rw [snds_get]; exact (hB.solve N.length k).2
    refine ⟨⟨hsl, hbd, fun x v hx hv => ?_⟩, rfl⟩
    have key := inv_iff (rows := N) (pts := units N.length) (n := N.length) rfl (units_len _) (fun k hk => units_get hk) hrk x v
    have m1 : min N.length 64 = N.length := by omega
    have m2 : min (snds (solveE (N.zip (units N.length)) N.length).ps).length 64 = (snds (solveE (N.zip (units N.length)) N.length).ps).length := by omega
    rw [valF, m1, valF, m2, apF64 hl b5 hv, apF64 (c := N.length) hl hbd (by rw [hsl]; exact hx), hsl, key]
    constructor
    · intro h k hk; rw [snds_get]; exact h k hk
    · intro h k hk; have := h k hk; rwa [snds_get] at this
end Go.Sx.T1

namespace Go.Sx.T1
open Go.Proofs Go.Sx.Gf
theorem valF_lt (masks : List Nat) (a : Nat) : valF masks a < 2 ^ min masks.length 64 := apF_lt _ _ _
theorem norm_ok {m : MapN} (ok : McOk m) {x : Int} (h : (normF m x).2 = true) : 0 ≤ (normF m x).1 ∧ (normF m x).1 < sizeF m.s := by
  have h1 := ok.lo
  have h2 := ok.hi
  unfold normF at h ⊢
  split at h
  · exact absurd h (by decide)
  · rename_i c1
    rw [if_neg c1]
    split at h
    · rename_i c2
      rw [if_pos c2]; exact ⟨Int.not_lt.1 c1, Int.lt_of_lt_of_le c2 h1.2⟩
    · rename_i c2
      rw [if_neg c2]
      split at h
      · exact absurd h (by decide)
      · rename_i c3
        rw [if_neg c3]
        simp only [decide_eq_true_eq] at h
        exact ⟨by simp only; omega, h⟩
/-- a value of the masks, in an int -/
theorem val_i64 {N : List Nat} (h : N.length ≤ 12) (a : Nat) : IntKind.i64.wrap ((valF N a : Nat) : Int) = ((valF N a : Nat) : Int) ∧ valF N a < 2 ^ N.length := by
  have h1 := valF_lt N a
  rw [show min N.length 64 = N.length by omega] at h1
  have h2 := pow_small h
  exact ⟨wrap64_in (by omega) (by omega), h1⟩
def locF (m : MapN) (x : Int) : Int × Int := if mcF m ≠ 0 then (0, mcF m) else if (normF m x).2 = false then (0, 9) else (((valF m.N (normF m x).1.toNat : Nat) : Int), 0)
def i2T (p : Int × Int) : SV := .t [.c (.v (.int .i64 p.1)), .c (.v (.int .i64 p.2))]
set_option maxHeartbeats 3200000 in
set_option maxRecDepth 10000 in
theorem locate_fc (m : MapN) (x : Int) (hl : m.N.length ≤ 140737488351232) (hr : ∀ k, m.N.getD k 0 < 18446744073709551616) (hx : x ≤ 9223372036854775807) :
    ∃ r : Int × Int, FC Try.prog 54 [nS m 0, int .i64 x] (nM m) (i2T r) (nM m) ∧ r = locF m x := by
  refine FC.rj mix Try.func54 ?_
  repeat (first | refine And.intro (by kernel_rfl) ?_ | refine And.intro (by decide) ?_)
  refine FC.u (mcheck_fc m hl hr) [0] ?_
  repeat (first | refine And.intro (by kernel_rfl) ?_ | refine And.intro (by decide) ?_)
  refine bselN (fun h1 => ?_) (fun h1 => ?_)
  · repeat (first | refine And.intro (by kernel_rfl) ?_ | refine And.intro (by decide) ?_)
    exact ⟨(0, mcF m), by rw [locF, if_pos h1], .id rfl ⟨.inl rfl, trivial⟩⟩
  have ok := (mc_iff m).1 h1
  repeat refine AJoin.plain ?_
  refine FC.x (normal_fc m x ok hx) [0] (fun r er => ?_)
  have hn := norm_ok ok (x := x)
  have e1 : locF m x = if r.2 = false then (0, 9) else (((valF m.N r.1.toNat : Nat) : Int), 0) := by rw [locF, if_neg (fun h => h h1), er]
  rw [← er] at hn
  obtain ⟨y, b⟩ := r
  clear er
  simp only at hn e1
  repeat (first | refine And.intro (by kernel_rfl) ?_ | refine And.intro (by decide) ?_)
  refine bselNot (bsel_intro (fun h2 => ?_) (fun h2 => ?_))
  rotate_left
  · repeat (first | refine And.intro (by kernel_rfl) ?_ | refine And.intro (by decide) ?_)
    exact ⟨(0, 9), by rw [show b = false from h2, if_pos rfl] at e1; exact e1.symm, .id rfl ⟨.inl rfl, trivial⟩⟩
  have h2 : b = true := h2
  obtain ⟨hs, hb⟩ := size_is ok.sh
  have hp := pow_small hb
  obtain ⟨hy0, hy1⟩ := hn h2
  obtain ⟨y, rfl⟩ : ∃ n : Nat, y = n := ⟨y.toNat, by omega⟩
  have w1 : IntKind.u64.wrap (y : Int) = (y : Int) := wrapU64_in (by omega) (by omega)
  have w2 := (val_i64 (N := m.N) (by have := ok.len; omega) y).1
  repeat refine AJoin.plain ?_
  conv => whnf
  rw [w1]
  refine FC.u (value_fc m.N y hl hr (by omega)) [0] ?_
  conv => whnf
  rw [w2]
  repeat (first | refine And.intro (by kernel_rfl) ?_ | refine And.intro (by decide) ?_)
  exact ⟨(((valF m.N y : Nat) : Int), 0), by rw [e1, if_neg (by simp [show b = true from h2]), Int.toNat_natCast], .id rfl ⟨.inl rfl, trivial⟩⟩
def adrF (m : MapN) (x : Int) : Int × Int := if mcF m ≠ 0 then (0, mcF m) else if x < 0 ∨ x ≥ sizeF m.s then (0, 2) else
  let v : Int := ((valF (inv10F m.N).1 x.toNat : Nat) : Int)
  (if v ≥ m.lo then v + (m.hi - m.lo) else v, 0)
def plF (m : MapN) (x : Int) : S6 × Int := if (locF m x).2 ≠ 0 then (zero6, (locF m x).2) else atF m.s (locF m x).1
set_option maxHeartbeats 3200000 in
set_option maxRecDepth 10000 in
theorem mplace_fc (m : MapN) (x : Int) (hl : m.N.length ≤ 140737488351232) (hr : ∀ k, m.N.getD k 0 < 18446744073709551616) (hx : x ≤ 9223372036854775807) :
    ∃ r : S6 × Int, FC Try.prog 34 [nS m 0, int .i64 x] (nM m) (atT r) (nM m) ∧ r = plF m x := by
  refine FC.rj mix Try.func34 ?_
  repeat (first | refine And.intro (by kernel_rfl) ?_ | refine And.intro (by decide) ?_)
  refine FC.x (locate_fc m x hl hr hx) [0] (fun r er => ?_)
  have e1 : plF m x = if r.2 ≠ 0 then (zero6, r.2) else atF m.s r.1 := by rw [plF, ← er]
  clear er
  obtain ⟨y, e⟩ := r
  simp only at e1
  repeat (first | refine And.intro (by kernel_rfl) ?_ | refine And.intro (by decide) ?_)
  refine bselN (fun h1 => ?_) (fun h1 => ?_)
  · repeat (first | refine And.intro (by kernel_rfl) ?_ | refine And.intro (by decide) ?_)
    exact ⟨(zero6, e), by rw [e1, if_pos h1], .id rfl ⟨.inl rfl, trivial⟩⟩
  repeat refine AJoin.plain ?_
  refine FC.x (at_fc m.s y) [] (fun q eq => ?_)
  repeat (first | refine And.intro (by kernel_rfl) ?_ | refine And.intro (by decide) ?_)
  exact ⟨q, by rw [e1, if_neg (fun h => h h1), eq], .id rfl ⟨.inl rfl, trivial⟩⟩
def ofF (m : MapN) (p : S6) : Int × Int := if mcF m ≠ 0 then (0, mcF m) else if (ixF m.s p).2 ≠ 0 then (0, (ixF m.s p).2) else adrF m (ixF m.s p).1
def nxF (m : MapN) (x : Int) : Int × Bool := if mcF m ≠ 0 then (0, false) else
  let y := max x 0
  let z := if y ≥ m.lo then max y m.hi else y
  if (normF m z).2 = true then (z, true) else (0, false)
def ibT (p : Int × Bool) : SV := .t [.c (.v (.int .i64 p.1)), .c (.v (.bool p.2))]
end Go.Sx.T1

namespace Go.Sx.T1
open Go.Proofs Go.Sx.Gf
/-! the reference of layer 12 -/
set_option maxHeartbeats 3200000 in
set_option maxRecDepth 10000 in
theorem rcheck_fc (m : MapN) (hl : m.N.length ≤ 140737488351232) (hr : ∀ k, m.N.getD k 0 < 18446744073709551616) : FC Try.prog 57 [nS m 0] (nM m) (int .i64 (mcF m)) (nM m) := by
  refine FC.one (FC.rj mix Try.func57 ?_)
  repeat (first | refine And.intro (by kernel_rfl) ?_ | refine And.intro (by decide) ?_)
  refine FC.u (rvalid_is m.s) [] ?_
  refine bselNot (bsel_intro (fun h1 => ?_) (fun h1 => ?_))
  rotate_left
  · repeat (first | refine And.intro (by kernel_rfl) ?_ | refine And.intro (by decide) ?_)
    exact ⟨(), trivial, .id (congrArg (int .i64) (by rw [mcF, h1, if_pos rfl])) ⟨.inl rfl, trivial⟩⟩
  obtain ⟨hs, hb⟩ := size_is h1
  have hp := pow_small hb
  repeat refine AJoin.plain ?_
  refine FC.u (rbits_fc m.s (shB_iff.1 h1)) [] ?_
  repeat (first | refine And.intro (by kernel_rfl) ?_ | refine And.intro (by decide) ?_)
  refine bselN (fun h2 => ?_) (fun h2 => ?_)
  · repeat (first | refine And.intro (by kernel_rfl) ?_ | refine And.intro (by decide) ?_)
    exact ⟨(), trivial, .id (congrArg (int .i64) (by rw [mcF, if_neg (by simp [h1]), if_pos (by omega)])) ⟨.inl rfl, trivial⟩⟩
  have e1 : mcF m = (if checkF m.N ≠ 0 then checkF m.N
    else if m.lo < 0 ∨ m.lo > m.hi ∨ m.hi > 1048576 ∨ m.lo > sizeF m.s ∨ m.hi - m.lo + sizeF m.s > 1048576 then 2 else 0) := by rw [mcF, if_neg (by simp [h1]), if_neg (by omega)]
  repeat refine AJoin.plain ?_
  refine FC.u (check10r_fc m.N hl hr) [0] ?_
  refine bselN (fun h3 => ?_) (fun h3 => ?_)
  · repeat (first | refine And.intro (by kernel_rfl) ?_ | refine And.intro (by decide) ?_)
    exact ⟨(), trivial, .id (congrArg (int .i64) (by rw [e1, if_pos h3])) ⟨.inl rfl, trivial⟩⟩
  rw [if_neg (fun h => h h3)] at e1
  have bad : (m.lo < 0 ∨ m.lo > m.hi ∨ m.hi > 1048576 ∨ m.lo > sizeF m.s ∨ m.hi - m.lo + sizeF m.s > 1048576) → int .i64 2 = int .i64 (mcF m) := fun h => by rw [e1, if_pos h]
  repeat refine AJoin.plain ?_
  refine FC.u (rsize_fc m.s) [] ?_
  repeat refine AJoin.plain ?_
  refine bselD (fun c1 => ?_) (fun c1 => ?_)
  · repeat (first | refine And.intro (by kernel_rfl) ?_ | refine And.intro (by decide) ?_)
    exact ⟨(), trivial, .id (bad (.inl c1)) ⟨.inl rfl, trivial⟩⟩
  refine bselD (fun c2 => ?_) (fun c2 => ?_)
  · repeat (first | refine And.intro (by kernel_rfl) ?_ | refine And.intro (by decide) ?_)
    exact ⟨(), trivial, .id (bad (.inr (.inl c2))) ⟨.inl rfl, trivial⟩⟩
  refine bselD (fun c3 => ?_) (fun c3 => ?_)
  · repeat (first | refine And.intro (by kernel_rfl) ?_ | refine And.intro (by decide) ?_)
    exact ⟨(), trivial, .id (bad (.inr (.inr (.inl c3)))) ⟨.inl rfl, trivial⟩⟩
  refine bselD (fun c4 => ?_) (fun c4 => ?_)
  · repeat (first | refine And.intro (by kernel_rfl) ?_ | refine And.intro (by decide) ?_)
    exact ⟨(), trivial, .id (bad (.inr (.inr (.inr (.inl c4))))) ⟨.inl rfl, trivial⟩⟩
  have w3 : IntKind.i64.wrap (IntKind.i64.wrap (m.hi - m.lo) + sizeF m.s) = m.hi - m.lo + sizeF m.s := by
    rw [hs]; generalize 2 ^ bitsN m.s = P at hp
    have w0 : IntKind.i64.wrap (m.hi - m.lo) = m.hi - m.lo := wrap64_in (by omega) (by omega)
    rw [w0, wrap64_in (by omega) (by omega)]
  refine bselD (fun c5 => ?_) (fun c5 => ?_)
  · repeat (first | refine And.intro (by kernel_rfl) ?_ | refine And.intro (by decide) ?_)
    exact ⟨(), trivial, .id (bad (.inr (.inr (.inr (.inr (by rw [← w3]; exact c5)))))) ⟨.inl rfl, trivial⟩⟩
  · rw [w3] at c5
    repeat (first | refine And.intro (by kernel_rfl) ?_ | refine And.intro (by decide) ?_)
    exact ⟨(), trivial, .id (congrArg (int .i64) (by rw [e1, if_neg (by omega)])) ⟨.inl rfl, trivial⟩⟩
set_option maxHeartbeats 3200000 in
set_option maxRecDepth 10000 in
theorem rnormal_fc (m : MapN) (x : Int) (ok : McOk m) (hx : x ≤ 9223372036854775807) : ∃ r : Int × Bool, FC Try.prog 58 [nS m 0, int .i64 x] (nM m) (.t [.c (.v (.int .i64 r.1)), .c (.v (.bool r.2))]) (nM m) ∧ r.2 = (normF m x).2 ∧ (r.2 = true → r.1 = (normF m x).1) := by
  obtain ⟨hs, hb⟩ := size_is ok.sh
  have hp := pow_small hb
  have hlo := ok.lo
  have hhi := ok.hi
  have hfit := ok.fit
  have w1 : IntKind.i64.wrap (m.hi - m.lo) = m.hi - m.lo := wrap64_in (by omega) (by omega)
  refine FC.rj mix Try.func58 ?_
  repeat (first | refine And.intro (by kernel_rfl) ?_ | refine And.intro (by decide) ?_)
  refine bselD (fun c1 => ?_) (fun c1 => ?_)
  · repeat (first | refine And.intro (by kernel_rfl) ?_ | refine And.intro (by decide) ?_)
    exact ⟨(0, false), ⟨by rw [normF, if_pos c1], fun h => by cases h⟩, .id rfl ⟨.inl rfl, trivial⟩⟩
  refine bselD (fun c2 => ?_) (fun c2 => ?_)
  · repeat (first | refine And.intro (by kernel_rfl) ?_ | refine And.intro (by decide) ?_)
    exact ⟨(0, false), ⟨by rw [normF, if_neg c1, if_neg (by omega), if_neg (by omega)]; simp only; rw [decide_eq_false (by omega)], fun h => by cases h⟩, .id rfl ⟨.inl rfl, trivial⟩⟩
  refine bselD (fun c3 => ?_) (fun c3 => ?_)
  · refine bselD (fun c4 => ?_) (fun c4 => ?_)
    · repeat (first | refine And.intro (by kernel_rfl) ?_ | refine And.intro (by decide) ?_)
      exact ⟨(0, false), ⟨by rw [normF, if_neg c1, if_neg (by omega), if_pos c4], fun h => by cases h⟩, .id rfl ⟨.inl rfl, trivial⟩⟩
    · have w2 : IntKind.i64.wrap (x - IntKind.i64.wrap (m.hi - m.lo)) = x - (m.hi - m.lo) := by rw [w1, wrap64_in (by omega) (by omega)]
      repeat refine AJoin.plain ?_
      refine bselD (fun c5 => ?_) (fun c5 => absurd c5 (by omega))
      repeat refine AJoin.plain ?_
      refine FC.u (rsize_fc m.s) [] ?_
      repeat (first | refine And.intro (by kernel_rfl) ?_ | refine And.intro (by decide) ?_)
      exact ⟨(x - (m.hi - m.lo), decide (x - (m.hi - m.lo) < sizeF m.s)), ⟨by rw [normF, if_neg c1, if_neg (by omega), if_neg (by omega)], fun _ => by rw [normF, if_neg c1, if_neg (by omega), if_neg (by omega)]⟩, .id (by show SV.t [.c (.v (.int .i64 (IntKind.i64.wrap (x - IntKind.i64.wrap (m.hi - m.lo))))), .c (.v (.bool (decide (IntKind.i64.wrap (x - IntKind.i64.wrap (m.hi - m.lo)) < sizeF m.s))))] = _; rw [w2]) ⟨.inl rfl, trivial⟩⟩
  · repeat refine AJoin.plain ?_
    refine bselD (fun c5 => absurd c5 (by omega)) (fun c5 => ?_)
    repeat refine AJoin.plain ?_
    refine FC.u (rsize_fc m.s) [] ?_
    repeat (first | refine And.intro (by kernel_rfl) ?_ | refine And.intro (by decide) ?_)
    exact ⟨(x, decide (x < sizeF m.s)), ⟨by rw [normF, if_neg c1, if_pos (by omega)]; exact decide_eq_true (by omega), fun _ => by rw [normF, if_neg c1, if_pos (by omega)]⟩, .id rfl ⟨.inl rfl, trivial⟩⟩
set_option maxHeartbeats 3200000 in
set_option maxRecDepth 10000 in
theorem rlocate_fc (m : MapN) (x : Int) (hl : m.N.length ≤ 140737488351232) (hr : ∀ k, m.N.getD k 0 < 18446744073709551616) (hx : x ≤ 9223372036854775807) :
    ∃ r : Int × Int, FC Try.prog 36 [nS m 0, int .i64 x] (nM m) (i2T r) (nM m) ∧ r = locF m x := by
  refine FC.rj mix Try.func36 ?_
  repeat (first | refine And.intro (by kernel_rfl) ?_ | refine And.intro (by decide) ?_)
  refine FC.u (rcheck_fc m hl hr) [0] ?_
  repeat (first | refine And.intro (by kernel_rfl) ?_ | refine And.intro (by decide) ?_)
  refine bselN (fun h1 => ?_) (fun h1 => ?_)
  · repeat (first | refine And.intro (by kernel_rfl) ?_ | refine And.intro (by decide) ?_)
    exact ⟨(0, mcF m), by rw [locF, if_pos h1], .id rfl ⟨.inl rfl, trivial⟩⟩
  have ok := (mc_iff m).1 h1
  repeat refine AJoin.plain ?_
  refine FC.x (rnormal_fc m x ok hx) [0] (fun r er => ?_)
  have hn := norm_ok ok (x := x)
  have e1 : locF m x = if r.2 = false then (0, 9) else (((valF m.N r.1.toNat : Nat) : Int), 0) := by
    rw [locF, if_neg (fun h => h h1)]
    obtain ⟨er1, er2⟩ := er
    rw [← er1]
    cases h : r.2 with
    | false => rfl
    | true => rw [if_neg (by simp), if_neg (by simp), er2 h]
  have hn' : r.2 = true → 0 ≤ r.1 ∧ r.1 < sizeF m.s := fun h => by rw [er.2 h]; exact hn (er.1 ▸ h)
  clear hn er
  have hn := hn'
  clear hn'
  obtain ⟨y, b⟩ := r
  simp only at hn e1
  repeat (first | refine And.intro (by kernel_rfl) ?_ | refine And.intro (by decide) ?_)
  refine bselNot (bsel_intro (fun h2 => ?_) (fun h2 => ?_))
  rotate_left
  · repeat (first | refine And.intro (by kernel_rfl) ?_ | refine And.intro (by decide) ?_)
    exact ⟨(0, 9), by rw [show b = false from h2, if_pos rfl] at e1; exact e1.symm, .id rfl ⟨.inl rfl, trivial⟩⟩
  have h2 : b = true := h2
  obtain ⟨hs, hb⟩ := size_is ok.sh
  have hp := pow_small hb
  obtain ⟨hy0, hy1⟩ := hn h2
  obtain ⟨y, rfl⟩ : ∃ n : Nat, y = n := ⟨y.toNat, by omega⟩
  have w1 : IntKind.u64.wrap (y : Int) = (y : Int) := wrapU64_in (by omega) (by omega)
  have w2 := (val_i64 (N := m.N) (by have := ok.len; omega) y).1
  repeat refine AJoin.plain ?_
  conv => whnf
  rw [w1]
  refine FC.u (value10r_fc m.N y hl hr (by omega)) [0] ?_
  conv => whnf
  rw [w2]
  repeat (first | refine And.intro (by kernel_rfl) ?_ | refine And.intro (by decide) ?_)
  exact ⟨(((valF m.N y : Nat) : Int), 0), by rw [e1, if_neg (by simp [show b = true from h2]), Int.toNat_natCast], .id rfl ⟨.inl rfl, trivial⟩⟩
set_option maxHeartbeats 3200000 in
set_option maxRecDepth 10000 in
theorem rplace_fc (m : MapN) (x : Int) (hl : m.N.length ≤ 140737488351232) (hr : ∀ k, m.N.getD k 0 < 18446744073709551616) (hx : x ≤ 9223372036854775807) :
    ∃ r : S6 × Int, FC Try.prog 19 [nS m 0, int .i64 x] (nM m) (atT r) (nM m) ∧ r = plF m x := by
  refine FC.rj mix Try.func19 ?_
  repeat (first | refine And.intro (by kernel_rfl) ?_ | refine And.intro (by decide) ?_)
  refine FC.x (rlocate_fc m x hl hr hx) [0] (fun r er => ?_)
  have e1 : plF m x = if r.2 ≠ 0 then (zero6, r.2) else atF m.s r.1 := by rw [plF, ← er]
  clear er
  obtain ⟨y, e⟩ := r
  simp only at e1
  repeat (first | refine And.intro (by kernel_rfl) ?_ | refine And.intro (by decide) ?_)
  refine bselN (fun h1 => ?_) (fun h1 => ?_)
  · repeat (first | refine And.intro (by kernel_rfl) ?_ | refine And.intro (by decide) ?_)
    exact ⟨(zero6, e), by rw [e1, if_pos h1], .id rfl ⟨.inl rfl, trivial⟩⟩
  repeat refine AJoin.plain ?_
  refine FC.x (rat_fc m.s y) [] (fun q eq => ?_)
  repeat (first | refine And.intro (by kernel_rfl) ?_ | refine And.intro (by decide) ?_)
  exact ⟨q, by rw [e1, if_neg (fun h => h h1), eq], .id rfl ⟨.inl rfl, trivial⟩⟩
end Go.Sx.T1
namespace Go.Sx.Crc
def poly : Nat := 79764919
/-- one step without an input -/
def S (c : Nat) : Nat := (2 * c) % 4294967296 ^^^ (if c.testBit 31 then poly else 0)
theorem poly_lt : poly < 4294967296 := by decide
theorem S_lt (c : Nat) : S c < 4294967296 :=
  Nat.xor_lt_two_pow (n := 32) (Nat.mod_lt _ (by decide)) (by split <;> decide)
theorem S_bit (c i : Nat) : (S c).testBit i = ((decide (i < 32) && (decide (1 ≤ i) && c.testBit (i - 1))) ^^ (c.testBit 31 && poly.testBit i)) := by
  unfold S
  rw [Nat.testBit_xor, show (4294967296 : Nat) = 2 ^ 32 from rfl, Nat.testBit_mod_two_pow]
  congr 1
  · congr 1
    cases i with
    | zero => simp
    | succ i => rw [Nat.testBit_succ]; simp
  · cases c.testBit 31 <;> simp
theorem S_xor (a b : Nat) : S (a ^^^ b) = S a ^^^ S b := by
  refine Nat.eq_of_testBit_eq fun i => ?_
  rw [Nat.testBit_xor, S_bit, S_bit, S_bit, Nat.testBit_xor, Nat.testBit_xor]
  cases decide (i < 32) <;> cases decide (1 ≤ i) <;> cases a.testBit (i - 1) <;> cases b.testBit (i - 1) <;> cases a.testBit 31 <;> cases b.testBit 31 <;> cases poly.testBit i <;> rfl
theorem bit31 {z : Nat} (h : z < 2147483648) : z.testBit 31 = false := Nat.testBit_lt_two_pow (by omega)
theorem S_small {z : Nat} (h : z < 2147483648) : S z = 2 * z := by
  unfold S
  rw [bit31 h, if_neg (by decide), Nat.xor_zero, Nat.mod_eq_of_lt (by omega)]
theorem S_zero : S 0 = 0 := by rw [S_small (by decide)]
theorem S_inj0 {c : Nat} (hc : c < 4294967296) (h : S c = 0) : c = 0 := by
  by_cases hb : c.testBit 31 = true
  · have := congrArg (fun n => n.testBit 0) h
    simp only [S_bit, hb] at this
    simp [poly] at this
  · have hb' : c.testBit 31 = false := by simpa using hb
    have hz : c < 2147483648 := by
      rcases Nat.lt_or_ge c 2147483648 with h' | h'
      · exact h'
      · have : c.testBit 31 = true := by
          rw [Nat.testBit_eq_decide_div_mod_eq]
          have : c / 2 ^ 31 = 1 := by
            have e : (2 : Nat) ^ 31 = 2147483648 := rfl
            rw [e]
            omega
          rw [this]; rfl
        rw [hb'] at this; cases this
    rw [S_small hz] at h
    omega
/-- some steps -/
def Sn : Nat → Nat → Nat
  | 0, c => c
  | n + 1, c => S (Sn n c)
theorem Sn_succ (n c : Nat) : Sn (n + 1) c = S (Sn n c) := by rw [Sn]
theorem Sn_lt {c : Nat} (h : c < 4294967296) : ∀ n, Sn n c < 4294967296
  | 0 => h
  | _ + 1 => S_lt _
theorem Sn_xor (a b : Nat) : ∀ n, Sn n (a ^^^ b) = Sn n a ^^^ Sn n b
  | 0 => rfl
  | n + 1 => by rw [Sn, Sn_xor a b n, S_xor]; rfl
theorem Sn_small {z n k : Nat} (hz : z < 2 ^ k) (h : n + k ≤ 32) : Sn n z = z * 2 ^ n := by
  induction n with
  | zero => simp [Sn]
  | succ n ih =>
    have hp : z * 2 ^ n < 2147483648 := by
      have h1 : z * 2 ^ n < 2 ^ k * 2 ^ n := Nat.mul_lt_mul_of_pos_right hz (Nat.two_pow_pos n)
      rw [← Nat.pow_add] at h1
      have h2 : (2 : Nat) ^ (k + n) ≤ 2 ^ 31 := Nat.pow_le_pow_right (by omega) (by omega)
      have e : (2 : Nat) ^ 31 = 2147483648 := rfl
      omega
    rw [Sn, ih (by omega), S_small hp, Nat.pow_succ]
    rw [Nat.mul_comm 2, Nat.mul_assoc]
theorem Sn_zero (n : Nat) : Sn n 0 = 0 := by
  induction n with
  | zero => rfl
  | succ n ih => rw [Sn, ih, S_zero]
theorem Sn_inj0 {c : Nat} (hc : c < 4294967296) : ∀ n, Sn n c = 0 → c = 0
  | 0, h => h
  | n + 1, h => Sn_inj0 hc n (S_inj0 (Sn_lt hc n) h)

/-! ### one bit -/
def inB (b : Bool) : Nat := if b then 2147483648 else 0
theorem inB_lt (b : Bool) : inB b < 4294967296 := by cases b <;> decide
def R (r : Nat) (b : Bool) : Nat := S (r ^^^ inB b)
/-- a byte, bit by bit -/
def Ry (r x : Nat) : Nat → Nat
  | 0 => r
  | i + 1 => R (Ry r x i) (x.testBit (7 - i))
theorem xor_lt32 {a b : Nat} (ha : a < 4294967296) (hb : b < 4294967296) : a ^^^ b < 4294967296 := Nat.xor_lt_two_pow (n := 32) ha hb
theorem R_lt (r : Nat) (b : Bool) : R r b < 4294967296 := S_lt _
theorem Ry_lt {r : Nat} (h : r < 4294967296) (x : Nat) : ∀ i, Ry r x i < 4294967296
  | 0 => h
  | _ + 1 => R_lt _ _
theorem split31 (y : Nat) (hy : y < 4294967296) : y = inB (y.testBit 31) ^^^ (y % 2147483648) := by
  refine Nat.eq_of_testBit_eq fun i => ?_
  rw [Nat.testBit_xor, show (2147483648 : Nat) = 2 ^ 31 from rfl, Nat.testBit_mod_two_pow]
  have hin : (inB (y.testBit 31)).testBit i = (decide (i = 31) && y.testBit 31) := by
    unfold inB
    cases y.testBit 31 with
    | false => simp
    | true =>
      rw [if_pos rfl, show (2147483648 : Nat) = 2 ^ 31 from rfl, Nat.testBit_two_pow]
      simp [eq_comm]
  rw [hin]
  rcases Nat.lt_trichotomy i 31 with h | h | h
  · have h1 : decide (i = 31) = false := by simp; omega
    have h2 : decide (i < 31) = true := by simpa using h
    rw [h1, h2]; simp
  · subst h; simp
  · have h1 : decide (i = 31) = false := by simp; omega
    have h2 : decide (i < 31) = false := by simp; omega
    rw [h1, h2, Nat.testBit_lt_two_pow (Nat.lt_of_lt_of_le hy (show 4294967296 ≤ 2 ^ i from by
      have := Nat.pow_le_pow_right (n := 2) (by omega) (show 32 ≤ i by omega)
      exact this))]
    rfl
theorem half (a : Nat) : 2 * (a % 4294967296 % 2147483648) = (2 * a) % 4294967296 := by omega
theorem RP {x : Nat} (r : Nat) : ∀ i, i ≤ 8 → Sn i (r ^^^ x * 16777216 % 4294967296) = Ry r x i ^^^ x * 2 ^ (24 + i) % 4294967296
  | 0, _ => rfl
  | i + 1, hi => by
    have ih := RP (x := x) r i (by omega)
    have hy : x * 2 ^ (24 + i) % 4294967296 < 4294967296 := Nat.mod_lt _ (by decide)
    have hb : (x * 2 ^ (24 + i) % 4294967296).testBit 31 = x.testBit (7 - i) := by
      rw [show (4294967296 : Nat) = 2 ^ 32 from rfl, Nat.testBit_mod_two_pow, ← Nat.shiftLeft_eq, Nat.testBit_shiftLeft, decide_eq_true (by omega : 31 < 32), decide_eq_true (by omega : 31 ≥ 24 + i), Bool.true_and, Bool.true_and, show 31 - (24 + i) = 7 - i by omega]
    rw [Sn, ih, Ry, R, ← hb]
    generalize hyy : x * 2 ^ (24 + i) % 4294967296 = y at hy
    conv => lhs; rw [split31 y hy]
    rw [← Nat.xor_assoc, S_xor, S_small (Nat.mod_lt _ (by decide)), ← hyy, half]
    congr 2
    rw [show 24 + (i + 1) = 24 + i + 1 by omega, Nat.pow_succ, Nat.mul_comm 2, Nat.mul_assoc]
/-- a byte -/
def stepB (c x : Nat) : Nat := Sn 8 (c ^^^ x * 16777216 % 4294967296)
theorem stepB_lt {c : Nat} (h : c < 4294967296) (x : Nat) : stepB c x < 4294967296 := Sn_lt (xor_lt32 h (Nat.mod_lt _ (by decide))) 8
theorem stepB_R (c x : Nat) : stepB c x = Ry c x 8 := by
  rw [stepB, RP c 8 (Nat.le_refl _), show 24 + 8 = 32 from rfl, show (2 : Nat) ^ 32 = 4294967296 from rfl, Nat.mul_mod_left, Nat.xor_zero]
def crc (l : List Nat) (c : Nat) : Nat := l.foldl stepB c
def chk (l : List Nat) : Nat := crc l 4294967295
theorem crc_lt : ∀ (l : List Nat) {c : Nat}, c < 4294967296 → crc l c < 4294967296
  | [], _, h => h
  | x :: l, _, h => crc_lt l (stepB_lt h x)
theorem chk_lt (l : List Nat) : chk l < 4294967296 := crc_lt l (by decide)
theorem crc_app (a b : List Nat) (c : Nat) : crc (a ++ b) c = crc b (crc a c) := List.foldl_append
/-! ### linear -/
theorem mul_xor (x y : Nat) : (x ^^^ y) * 16777216 % 4294967296 = (x * 16777216 % 4294967296) ^^^ (y * 16777216 % 4294967296) := by
  refine Nat.eq_of_testBit_eq fun i => ?_
  rw [Nat.testBit_xor, show (4294967296 : Nat) = 2 ^ 32 from rfl, show (16777216 : Nat) = 2 ^ 24 from rfl, Nat.testBit_mod_two_pow, Nat.testBit_mod_two_pow, Nat.testBit_mod_two_pow,
    ← Nat.shiftLeft_eq, ← Nat.shiftLeft_eq, ← Nat.shiftLeft_eq, Nat.testBit_shiftLeft, Nat.testBit_shiftLeft, Nat.testBit_shiftLeft, Nat.testBit_xor]
  cases decide (i < 32) <;> cases decide (i ≥ 24) <;> simp
theorem stepB_xor (c d x y : Nat) : stepB (c ^^^ d) (x ^^^ y) = stepB c x ^^^ stepB d y := by
  rw [stepB, stepB, stepB, mul_xor, ← Sn_xor]
  congr 1
  rw [Nat.xor_assoc, Nat.xor_assoc, ← Nat.xor_assoc d, Nat.xor_comm d, Nat.xor_assoc]
def xorL (a b : List Nat) : List Nat := List.zipWith (· ^^^ ·) a b
theorem crc_xor : ∀ (a b : List Nat) (c d : Nat), a.length = b.length → crc (xorL a b) (c ^^^ d) = crc a c ^^^ crc b d
  | [], [], _, _, _ => rfl
  | x :: a, y :: b, c, d, h => by
    show crc (xorL a b) (stepB (c ^^^ d) (x ^^^ y)) = _
    rw [stepB_xor, crc_xor a b _ _ (by simpa using h)]
    rfl
  | [], _ :: _, _, _, h => by simp at h
  | _ :: _, [], _, _, h => by simp at h
theorem chk_lin {a b z : List Nat} (h : a.length = b.length) (hz : z.length = a.length) (h0 : ∀ x ∈ z, x = 0) : chk a ^^^ chk b = chk (xorL a b) ^^^ chk z := by
  have e1 : chk a ^^^ chk b = crc (xorL a b) 0 := by
    rw [chk, chk, ← crc_xor a b _ _ h, Nat.xor_self]
  have hx : ∀ (l z : List Nat), z.length = l.length → (∀ x ∈ z, x = 0) → xorL l z = l := by
    intro l
    induction l with
    | nil => intro z _ _; simp [xorL]
    | cons x l ih =>
      intro z hz h0
      cases z with
      | nil => simp at hz
      | cons y z =>
        have := h0 y (by simp)
        subst this
        show (x ^^^ 0) :: xorL l z = _
        rw [ih z (by simpa using hz) (fun x hx => h0 x (by simp [hx])), Nat.xor_zero]
  have hl : (xorL a b).length = a.length := by simp [xorL, h]
  rw [e1, chk, chk, ← crc_xor _ _ _ _ (by rw [hl, hz]), Nat.xor_self, hx _ _ (by rw [hl, hz]) h0]
/-! ### the own check value -/
def be4 (v : Nat) : List Nat := [v / 16777216 % 256, v / 65536 % 256, v / 256 % 256, v % 256]
theorem top_off {c : Nat} (h : c < 4294967296) : c ^^^ c / 16777216 * 16777216 % 4294967296 = c % 16777216 := by
  refine Nat.eq_of_testBit_eq fun i => ?_
  rw [Nat.testBit_xor, show (4294967296 : Nat) = 2 ^ 32 from rfl, show (16777216 : Nat) = 2 ^ 24 from rfl, Nat.testBit_mod_two_pow, Nat.testBit_mod_two_pow, ← Nat.shiftLeft_eq, Nat.testBit_shiftLeft, Nat.testBit_div_two_pow]
  rcases Nat.lt_or_ge i 24 with h' | h'
  · have h1 : decide (i ≥ 24) = false := by simp; omega
    rw [h1, decide_eq_true h']; simp
  · rw [decide_eq_true h', decide_eq_false (by omega : ¬ i < 24), show i - 24 + 24 = i by omega]
    rcases Nat.lt_or_ge i 32 with h2 | h2
    · rw [decide_eq_true h2]; simp
    · rw [decide_eq_false (by omega : ¬ i < 32), Nat.testBit_lt_two_pow (Nat.lt_of_lt_of_le h (show 4294967296 ≤ 2 ^ i from Nat.pow_le_pow_right (n := 2) (by omega) h2))]
      rfl
theorem step_top {c : Nat} (h : c < 4294967296) : stepB c (c / 16777216 % 256) = c % 16777216 * 256 := by
  rw [stepB, Nat.mod_eq_of_lt (show c / 16777216 < 256 by omega), top_off h, Sn_small (k := 24) (Nat.mod_lt _ (by decide)) (by omega)]
theorem crc_self {c : Nat} (h : c < 4294967296) : crc (be4 c) c = 0 := by
  show stepB (stepB (stepB (stepB c (c / 16777216 % 256)) (c / 65536 % 256)) (c / 256 % 256)) (c % 256) = 0
  rw [step_top h]
  have e1 : c / 65536 % 256 = (c % 16777216 * 256) / 16777216 % 256 := by omega
  rw [e1, step_top (by omega)]
  have e2 : c / 256 % 256 = (c % 16777216 * 256 % 16777216 * 256) / 16777216 % 256 := by omega
  rw [e2, step_top (by omega)]
  have e3 : c % 256 = (c % 16777216 * 256 % 16777216 * 256 % 16777216 * 256) / 16777216 % 256 := by omega
  rw [e3, step_top (by omega)]
  omega
theorem chk_self (a : List Nat) : chk (a ++ be4 (chk a)) = 0 := by
  rw [chk, crc_app]
  exact crc_self (chk_lt a)
/-! ### a burst is noticed -/
/-- the bits of bytes, the highest of each first -/
def bitAt (l : List Nat) (p : Nat) : Bool := (l.getD (p / 8) 0).testBit (7 - p % 8)
/-- some bits, one after the other -/
def Fb (f : Nat → Bool) (c : Nat) : Nat → Nat
  | 0 => c
  | n + 1 => R (Fb f c n) (f n)
theorem Fb_lt {c : Nat} (h : c < 4294967296) (f : Nat → Bool) : ∀ n, Fb f c n < 4294967296
  | 0 => h
  | _ + 1 => R_lt _ _
theorem Fb_add (f : Nat → Bool) (c a : Nat) : ∀ b, Fb f c (a + b) = Fb (fun i => f (a + i)) (Fb f c a) b
  | 0 => rfl
  | b + 1 => by rw [← Nat.add_assoc, Fb, Fb_add f c a b]; rfl
theorem Fb_congr {f g : Nat → Bool} (c : Nat) : ∀ n, (∀ i, i < n → f i = g i) → Fb f c n = Fb g c n
  | 0, _ => rfl
  | n + 1, h => by rw [Fb, Fb, Fb_congr c n (fun i hi => h i (by omega)), h n (by omega)]
theorem Ry_Fb (c x : Nat) : ∀ i, i ≤ 8 → Ry c x i = Fb (fun j => x.testBit (7 - j)) c i
  | 0, _ => rfl
  | i + 1, h => by rw [Ry, Ry_Fb c x i (by omega), Fb]
theorem crc_Fb : ∀ (l : List Nat) (c : Nat), crc l c = Fb (bitAt l) c (8 * l.length)
  | [], _ => rfl
  | x :: l, c => by
    show crc l (stepB c x) = _
    rw [crc_Fb l, List.length_cons, show 8 * (l.length + 1) = 8 + 8 * l.length by omega, Fb_add, stepB_R, Ry_Fb _ _ 8 (Nat.le_refl _)]
    rw [Fb_congr (f := fun j => x.testBit (7 - j)) (g := bitAt (x :: l)) c 8 fun i hi => by
      unfold bitAt
      rw [show i / 8 = 0 by omega, show i % 8 = i by omega]; rfl]
    refine Fb_congr _ _ fun i hi => ?_
    unfold bitAt
    rw [show (8 + i) / 8 = i / 8 + 1 by omega, show (8 + i) % 8 = i % 8 by omega]
    rfl
/-- a word of bits -/
def Wd (u : Nat → Bool) : Nat → Nat
  | 0 => 0
  | j + 1 => Wd u j ^^^ (if u j then 2 ^ (31 - j) else 0)
theorem Wd_lt (u : Nat → Bool) : ∀ j, Wd u j < 4294967296
  | 0 => by show (0 : Nat) < 4294967296; decide
  | j + 1 => xor_lt32 (Wd_lt u j) (by
    split
    · have : (2 : Nat) ^ (31 - j) ≤ 2 ^ 31 := Nat.pow_le_pow_right (by omega) (by omega)
      have e : (2 : Nat) ^ 31 = 2147483648 := rfl
      omega
    · decide)
theorem Fb_word (u : Nat → Bool) : ∀ j, j ≤ 32 → Fb u 0 j = Sn j (Wd u j)
  | 0, _ => rfl
  | j + 1, h => by
    rw [Fb, Fb_word u j (by omega), R, Wd, Sn, Sn_xor]
    congr 2
    cases u j with
    | false => rw [if_neg (by decide), Sn_zero]; rfl
    | true =>
      rw [if_pos rfl, Sn_small (k := 32 - j) (Nat.pow_lt_pow_right (by omega) (by omega)) (by omega), ← Nat.pow_add, show 31 - j + j = 31 by omega]
      rfl
theorem Wd_bit (u : Nat → Bool) : ∀ j i, j ≤ 32 → i < 32 → (Wd u j).testBit (31 - i) = (decide (i < j) && u i)
  | 0, i, _, _ => by simp [Wd]
  | j + 1, i, hj, hi => by
    rw [Wd, Nat.testBit_xor, Wd_bit u j i (by omega) hi]
    have e : ((if u j then 2 ^ (31 - j) else 0 : Nat)).testBit (31 - i) = (decide (i = j) && u j) := by
      cases u j with
      | false => simp
      | true =>
        rw [if_pos rfl, Nat.testBit_two_pow, Bool.and_true]
        by_cases h : i = j
        · subst h; simp
        · simp [h]; omega
    rw [e]
    rcases Nat.lt_trichotomy i j with h | h | h
    · have h1 : decide (i = j) = false := by simp; omega
      rw [h1, decide_eq_true h, decide_eq_true (by omega : i < j + 1)]; simp
    · subst h; simp
    · have h1 : decide (i = j) = false := by simp; omega
      rw [h1, decide_eq_false (by omega : ¬ i < j), decide_eq_false (by omega : ¬ i < j + 1)]; rfl
theorem Fb_zero {f : Nat → Bool} : ∀ n, (∀ i, i < n → f i = false) → Fb f 0 n = 0
  | 0, _ => rfl
  | n + 1, h => by rw [Fb, Fb_zero n (fun i hi => h i (by omega)), h n (by omega)]; exact S_zero
theorem Fb_keep {f : Nat → Bool} {c : Nat} (hc : c < 4294967296) (h0 : c ≠ 0) : ∀ n, (∀ i, i < n → f i = false) → Fb f c n ≠ 0
  | 0, _ => h0
  | n + 1, h => by
    rw [Fb, h n (by omega), R]
    show S (Fb f c n ^^^ 0) ≠ 0
    rw [Nat.xor_zero]
    exact fun e => Fb_keep hc h0 n (fun i hi => h i (by omega)) (S_inj0 (Fb_lt hc f n) e)
/-- WHAT DIFFERS WITHIN 32 BITS IS NOTICED -/
theorem burst {f : Nat → Bool} {a n k : Nat} (hn : a + 32 ≤ n) (hlo : ∀ i, i < a → f i = false) (hhi : ∀ i, a + 32 ≤ i → f i = false) (hk : k < 32) (hf : f (a + k) = true) : Fb f 0 n ≠ 0 := by
  have e : n = a + (32 + (n - a - 32)) := by omega
  rw [e, Fb_add, Fb_zero a hlo, Fb_add]
  refine Fb_keep (Fb_lt (by decide) _ _) ?_ _ fun i hi => hhi _ (by omega)
  rw [Fb_word _ 32 (Nat.le_refl _)]
  intro h
  have := Sn_inj0 (Wd_lt _ _) 32 h
  have hb := Wd_bit (fun i => f (a + i)) 32 k (Nat.le_refl _) hk
  rw [this, decide_eq_true hk, Bool.true_and, hf] at hb
  simp at hb
end Go.Sx.Crc
namespace Go.Sx.Crc
def beP (n v j : Nat) : List Nat := (List.range j).map fun t => v / 2 ^ (8 * (n - 1 - t)) % 256
def be (n v : Nat) : List Nat := beP n v n
theorem beP_len (n v j : Nat) : (beP n v j).length = j := by simp [beP]
theorem be_len (n v : Nat) : (be n v).length = n := beP_len _ _ _
theorem beP_succ (n v j : Nat) : beP n v (j + 1) = beP n v j ++ [v / 2 ^ (8 * (n - 1 - j)) % 256] := by simp [beP, List.range_succ]
def getN (l : List Nat) : Nat := l.foldl (fun v b => v * 256 + b) 0
theorem getN_snoc (l : List Nat) (x : Nat) : getN (l ++ [x]) = getN l * 256 + x := by simp [getN]
theorem be_succ (n v : Nat) : be (n + 1) v = be n (v / 256) ++ [v % 256] := by
  rw [be, beP_succ]
  congr 1
  · unfold be beP
    refine List.map_congr_left fun t ht => ?_
    have ht : t < n := by simpa using ht
    rw [show 8 * (n + 1 - 1 - t) = 8 + 8 * (n - 1 - t) by omega, Nat.pow_add, Nat.div_div_eq_div_mul]
  · simp
theorem getN_be : ∀ n v, getN (be n v) = v % 2 ^ (8 * n)
  | 0, v => by simp [be, beP, getN, Nat.mod_one]
  | n + 1, v => by
    rw [be_succ, getN_snoc, getN_be n, show 8 * (n + 1) = 8 * n + 8 by omega, Nat.pow_succ, Nat.pow_succ, Nat.pow_succ, Nat.pow_succ, Nat.pow_succ, Nat.pow_succ, Nat.pow_succ, Nat.pow_succ]
    rw [show 2 ^ (8 * n) * 2 * 2 * 2 * 2 * 2 * 2 * 2 * 2 = 256 * 2 ^ (8 * n) by omega, Nat.mod_mul]
    omega
theorem be_byte (n v : Nat) : ∀ k, (be n v).getD k 0 < 256 := fun k => by
  unfold be beP
  simp only [List.getD_eq_getElem?_getD, List.getElem?_map]
  cases (List.range n)[k]? with
  | none => exact Nat.succ_pos _
  | some x => exact Nat.mod_lt _ (by decide)
theorem be_4 (v : Nat) : be 4 v = be4 v := by
  simp [be, beP, be4, List.range, List.range.loop]
theorem be_1 (v : Nat) : be 1 v = [v % 256] := by simp [be, beP, List.range, List.range.loop]
theorem be_inj {n v w : Nat} (hv : v < 2 ^ (8 * n)) (hw : w < 2 ^ (8 * n)) (h : be n v = be n w) : v = w := by
  have := congrArg getN h
  rwa [getN_be, getN_be, Nat.mod_eq_of_lt hv, Nat.mod_eq_of_lt hw] at this
/-- bytes -/
def By (l : List Nat) : Prop := ∀ k, l.getD k 0 < 256
theorem By.mem {l : List Nat} (h : By l) : ∀ x ∈ l, x < 256 := fun x hx => by
  obtain ⟨i, hi, rfl⟩ := List.mem_iff_getElem.1 hx
  have := h i
  simpa [List.getD_eq_getElem?_getD, hi] using this
theorem By.of_mem {l : List Nat} (h : ∀ x ∈ l, x < 256) : By l := fun k => by
  rw [List.getD_eq_getElem?_getD]
  cases hk : l[k]? with
  | none => exact Nat.succ_pos _
  | some x => exact h x (List.mem_of_getElem? hk)
theorem By.app {a b : List Nat} (h : By a) (g : By b) : By (a ++ b) := By.of_mem fun x hx => by
  rcases List.mem_append.1 hx with h' | h'
  · exact h.mem x h'
  · exact g.mem x h'
theorem By.take {a : List Nat} (h : By a) (n : Nat) : By (a.take n) := By.of_mem fun x hx => h.mem x (List.mem_of_mem_take hx)
theorem By.drop {a : List Nat} (h : By a) (n : Nat) : By (a.drop n) := By.of_mem fun x hx => h.mem x (List.mem_of_mem_drop hx)
theorem getN_lt : ∀ {l : List Nat}, By l → getN l < 2 ^ (8 * l.length) := by
  intro l
  suffices H : ∀ (n : Nat) (l : List Nat), l.length = n → By l → getN l < 2 ^ (8 * n) from fun h => H _ l rfl h
  intro n
  induction n with
  | zero => intro l hl _; rw [List.length_eq_zero_iff.1 hl]; exact Nat.one_pos
  | succ n ih =>
    intro l hl hb
    have hne : l ≠ [] := fun e => by subst e; simp at hl
    rw [← List.dropLast_concat_getLast hne, getN_snoc]
    have h1 := ih l.dropLast (by rw [List.length_dropLast, hl]; rfl) (By.of_mem fun x hx => hb.mem x (List.dropLast_subset l hx))
    have h2 := hb.mem _ (List.getLast_mem hne)
    have h3 : (2 : Nat) ^ (8 * (n + 1)) = 2 ^ (8 * n) * 256 := by rw [show 8 * (n + 1) = 8 * n + 8 by omega, Nat.pow_add]
    omega
/-- a number, byte by byte -/
def gP (l : List Nat) (a i : Nat) : Nat := getN ((l.drop a).take i)
theorem gP_succ {l : List Nat} {a i : Nat} (h : a + i < l.length) : gP l a (i + 1) = gP l a i * 256 + l.getD (a + i) 0 := by
  unfold gP
  rw [List.take_succ_eq_append_getElem (by rw [List.length_drop]; omega), getN_snoc, List.getElem_drop, List.getD_eq_getElem?_getD, List.getElem?_eq_getElem h]
  rfl
theorem gP_lt {l : List Nat} (h : By l) (a : Nat) {i : Nat} (hl : a + i ≤ l.length) : gP l a i < 2 ^ (8 * i) := by
  have := getN_lt ((h.drop a).take i)
  rwa [List.length_take, List.length_drop, Nat.min_eq_left (by omega)] at this
end Go.Sx.Crc
namespace Go.Sx.T1
open Go.Proofs Go.Sx.Crc
/-! bytes of records: put, head, Check -/
def u8n (l : List Nat) (wr : Bool) : Option Blk := some ⟨.ints .u8 (zl l), wr⟩
theorem wrapU8 (n : Nat) : IntKind.u8.wrap (n : Int) = ((n % 256 : Nat) : Int) := by rw [IntKind.wrap_u8]; exact (Int.natCast_emod n 256).symm
theorem take_zl (l : List Nat) : List.take l.length (List.drop 0 (zl l)) = zl l := by rw [List.drop_zero, List.take_of_length_le (by rw [zl_len]; omega)]
theorem app1z (l : List Nat) (x : Int) (y : Nat) (h : x = y) : List.take l.length (List.drop 0 (zl l)) ++ List.take 1 (List.drop 0 [x]) = zl (l ++ [y]) := by
  rw [take_zl, zl_app, h]; rfl
theorem shr_i {v k : Nat} (hk : k ≤ 64) : (v : Int).fdiv (2 ^ min (k : Int).toNat IntKind.u64.bits) = ((v / 2 ^ k : Nat) : Int) := by
  rw [Int.toNat_natCast, show min k IntKind.u64.bits = k from Nat.min_eq_left hk, fdiv_nat]
theorem be_app (l : List Nat) (n v j : Nat) : l ++ beP n v (j + 1) = (l ++ beP n v j) ++ [v / 2 ^ (8 * (n - 1 - j)) % 256] := by rw [beP_succ, List.append_assoc]
set_option maxHeartbeats 3200000 in
set_option maxRecDepth 10000 in
theorem put_fc (l : List Nat) (v n : Nat) (hl : l.length ≤ 100000) (hn : n ≤ 8) :
    FC Try.prog 45 [.o (.c (.s 0 0 l.length 1)), int .u64 v, int .i64 n] [u8n l true] (.o (.c (.s 1 0 (l ++ be n v).length 1))) [none, u8n (l ++ be n v) true] := by
  refine FC.one (FC.rj mix Try.func45 ?_)
  have w1 : IntKind.i64.wrap ((n : Int) - 1) = (n : Int) - 1 - (0 : Nat) := by rw [wrap64_in (by omega) (by omega)]; omega
  repeat (first | refine And.intro (by kernel_rfl) ?_ | refine And.intro (by decide) ?_)
  refine ALoop.goN (X := Nat) (fun j => j ≤ n) (fun j => n - j) [1] [] (fun j => [(0, .o (.c (.s 1 0 (l ++ beP n v j).length 1))), (7, int .i64 ((n : Int) - 1 - (j : Nat)))]) (fun j => [(1, ⟨.ints .u8 (zl (l ++ beP n v j)), true⟩)]) 0 2
    (Nat.zero_le _) (isAt.go [(1, .to 0)] ⟨congrArg (fun n : Nat => SV.o (.c (.s 0 0 n 1))) (by simp [beP]), congrArg (int .i64) w1, trivial⟩ ⟨leB.ints_eq (by simp [beP]) id, trivial⟩) ?_
  intro j hj
  have pl := beP_len n v j
  have ll : (l ++ beP n v j).length = l.length + j := by rw [List.length_append, pl]
  dsimp only [headF, headM]
  refine bselD (fun h => ?_) (fun h => ?_)
  · have h' : j < n := by
      have h2 : (n : Int) - 1 - (j : Nat) ≥ 0 := h
      clear h
      omega
    clear h
    have e0 : (n : Int) - 1 - (j : Nat) = ((n - 1 - j : Nat) : Int) := by omega
    have wd : IntKind.i64.wrap ((n : Int) - 1 - (j : Nat) - 1) = (n : Int) - 1 - ((j + 1 : Nat) : Int) := by rw [wrap64_in (by omega) (by omega)]; omega
    have w8 : IntKind.i64.wrap (8 * ((n : Int) - 1 - (j : Nat))) = ((8 * (n - 1 - j) : Nat) : Int) := by rw [wrap64_in (by omega) (by omega)]; omega
    repeat refine AJoin.plain ?_
    refine And.intro (by show 0 ≤ IntKind.i64.wrap (8 * ((n : Int) - 1 - (j : Nat))); rw [w8]; omega) ?_
    refine And.intro ⟨by show 0 + (l ++ beP n v j).length ≤ (zl (l ++ beP n v j)).length; rw [zl_len]; omega, trivial⟩ ?_
    refine And.intro ⟨Nat.le_of_ble_eq_true rfl, trivial⟩ ?_
    refine And.intro (by show (l ++ beP n v j).length + 1 ≤ 4294967296; omega) ?_
    repeat (first | refine And.intro (by kernel_rfl) ?_ | refine And.intro (by decide) ?_)
    have e1 : (l ++ beP n v j).length + 1 = (l ++ beP n v (j + 1)).length := by rw [be_app]; simp; omega
    refine ⟨j + 1, ⟨h', by show n - (j + 1) < n - j; omega⟩, isAt.go [(1, .to 3)] ⟨congrArg (fun n : Nat => SV.o (.c (.s 3 0 n 1))) e1, congrArg (int .i64) wd, trivial⟩ ⟨leB.ints_eq ?_ id, trivial⟩⟩
    rw [be_app]
    refine app1z _ _ _ ?_
    show IntKind.u8.wrap ((v : Int).fdiv (2 ^ min (IntKind.i64.wrap (8 * ((n : Int) - 1 - (j : Nat)))).toNat IntKind.u64.bits)) = _
    rw [w8, shr_i (by omega), wrapU8]
  · have hq : j = n := by
      have h2 : ¬ (n : Int) - 1 - (j : Nat) ≥ 0 := h
      clear h
      omega
    clear h
    subst hq
    repeat (first | refine And.intro (by kernel_rfl) ?_ | refine And.intro (by decide) ?_)
    exact ⟨(), trivial, .id rfl ⟨.inl rfl, trivial⟩⟩
set_option maxHeartbeats 3200000 in
set_option maxRecDepth 10000 in
theorem put18_fc (l : List Nat) (v n : Nat) (hl : l.length ≤ 100000) (hn : n ≤ 8) :
    FC Try.prog 41 [.o (.c (.s 0 0 l.length 1)), int .i64 n, int .u64 v] [u8n l true] (.o (.c (.s 1 0 (l ++ be n v).length 1))) [none, u8n (l ++ be n v) true] := by
  refine FC.one (FC.rj mix Try.func41 ?_)
  have w1 : IntKind.i64.wrap ((n : Int) - 1) = (n : Int) - 1 - (0 : Nat) := by rw [wrap64_in (by omega) (by omega)]; omega
  repeat (first | refine And.intro (by kernel_rfl) ?_ | refine And.intro (by decide) ?_)
  refine ALoop.goN (X := Nat) (fun j => j ≤ n) (fun j => n - j) [2] [] (fun j => [(0, .o (.c (.s 1 0 (l ++ beP n v j).length 1))), (7, int .i64 ((n : Int) - 1 - (j : Nat)))]) (fun j => [(1, ⟨.ints .u8 (zl (l ++ beP n v j)), true⟩)]) 0 2
    (Nat.zero_le _) (isAt.go [(1, .to 0)] ⟨congrArg (fun n : Nat => SV.o (.c (.s 0 0 n 1))) (by simp [beP]), congrArg (int .i64) w1, trivial⟩ ⟨leB.ints_eq (by simp [beP]) id, trivial⟩) ?_
  intro j hj
  have pl := beP_len n v j
  have ll : (l ++ beP n v j).length = l.length + j := by rw [List.length_append, pl]
  dsimp only [headF, headM]
  refine bselD (fun h => ?_) (fun h => ?_)
  · have h' : j < n := by
      have h2 : (n : Int) - 1 - (j : Nat) ≥ 0 := h
      clear h
      omega
    clear h
    have e0 : (n : Int) - 1 - (j : Nat) = ((n - 1 - j : Nat) : Int) := by omega
    have wd : IntKind.i64.wrap ((n : Int) - 1 - (j : Nat) - 1) = (n : Int) - 1 - ((j + 1 : Nat) : Int) := by rw [wrap64_in (by omega) (by omega)]; omega
    have w8 : IntKind.u64.wrap (IntKind.i64.wrap (8 * ((n : Int) - 1 - (j : Nat)))) = ((8 * (n - 1 - j) : Nat) : Int) := by rw [wrap64_in (by omega) (by omega), wrapU64_in (by omega) (by omega)]; omega
    repeat refine AJoin.plain ?_
    refine And.intro (by show 0 ≤ IntKind.u64.wrap (IntKind.i64.wrap (8 * ((n : Int) - 1 - (j : Nat)))); rw [w8]; omega) ?_
    refine And.intro ⟨by show 0 + (l ++ beP n v j).length ≤ (zl (l ++ beP n v j)).length; rw [zl_len]; omega, trivial⟩ ?_
    refine And.intro ⟨Nat.le_of_ble_eq_true rfl, trivial⟩ ?_
    refine And.intro (by show (l ++ beP n v j).length + 1 ≤ 4294967296; omega) ?_
    repeat (first | refine And.intro (by kernel_rfl) ?_ | refine And.intro (by decide) ?_)
    have e1 : (l ++ beP n v j).length + 1 = (l ++ beP n v (j + 1)).length := by rw [be_app]; simp; omega
    refine ⟨j + 1, ⟨h', by show n - (j + 1) < n - j; omega⟩, isAt.go [(1, .to 3)] ⟨congrArg (fun n : Nat => SV.o (.c (.s 3 0 n 1))) e1, congrArg (int .i64) wd, trivial⟩ ⟨leB.ints_eq ?_ id, trivial⟩⟩
    rw [be_app]
    refine app1z _ _ _ ?_
    show IntKind.u8.wrap ((v : Int).fdiv (2 ^ min (IntKind.u64.wrap (IntKind.i64.wrap (8 * ((n : Int) - 1 - (j : Nat))))).toNat IntKind.u64.bits)) = _
    rw [w8, shr_i (by omega), wrapU8]
  · have hq : j = n := by
      have h2 : ¬ (n : Int) - 1 - (j : Nat) ≥ 0 := h
      clear h
      omega
    clear h
    subst hq
    repeat (first | refine And.intro (by kernel_rfl) ?_ | refine And.intro (by decide) ?_)
    exact ⟨(), trivial, .id rfl ⟨.inl rfl, trivial⟩⟩
def headL : List Nat := [77, 82, 1, 53]
set_option maxHeartbeats 3200000 in
set_option maxRecDepth 10000 in
theorem head_fc : FC Try.prog 46 [] [] (.o (.c (.s 0 0 4 1))) [u8n headL true] := by
  refine FC.one (FC.rj mix Try.func46 ?_)
  repeat (first | refine And.intro (by kernel_rfl) ?_ | refine And.intro (by decide) ?_)
  exact ⟨(), trivial, .id rfl ⟨leB.ints_eq rfl id, trivial⟩⟩
/-! the check value -/
theorem fdivc {v k : Nat} (m : Nat) (h : m = k) : (v : Int).fdiv (2 ^ m) = ((v / 2 ^ k : Nat) : Int) := by subst h; exact fdiv_nat _ _
theorem xor_u32 {a b : Nat} (ha : a < 4294967296) (hb : b < 4294967296) : bitI .xor .u32 (a : Int) (b : Int) = ((a ^^^ b : Nat) : Int) := by
  show IntKind.u32.wrap (((BitVec.ofInt 32 (a : Int)) ^^^ (BitVec.ofInt 32 (b : Int))).toNat : Int) = _
  rw [BitVec.toNat_xor, ofInt_nat, ofInt_nat, Nat.mod_eq_of_lt (by simpa using ha), Nat.mod_eq_of_lt (by simpa using hb), IntKind.wrap_u32]
  have := xor_lt32 ha hb
  omega
theorem xor_i64 {a b : Nat} (ha : a < 4294967296) (hb : b < 4294967296) : bitI .xor .i64 (a : Int) (b : Int) = ((a ^^^ b : Nat) : Int) := by
  show IntKind.i64.wrap (((BitVec.ofInt 64 (a : Int)) ^^^ (BitVec.ofInt 64 (b : Int))).toNat : Int) = _
  rw [BitVec.toNat_xor, ofInt_nat, ofInt_nat, Nat.mod_eq_of_lt (by simp; omega), Nat.mod_eq_of_lt (by simp; omega)]
  have := xor_lt32 ha hb
  exact wrap64_in (by omega) (by omega)
theorem and_i64 {a : Nat} (ha : a < 9223372036854775808) : bitI .and .i64 (a : Int) 4294967295 = ((a % 4294967296 : Nat) : Int) := by
  show IntKind.i64.wrap (((BitVec.ofInt 64 (a : Int)) &&& (BitVec.ofInt 64 ((4294967295 : Nat) : Int))).toNat : Int) = _
  rw [BitVec.toNat_and, ofInt_nat, ofInt_nat, Nat.mod_eq_of_lt (by simp; omega), show 4294967295 % 2 ^ 64 = 2 ^ 32 - 1 from rfl, and_mask]
  exact wrap64_in (by omega) (by omega)
theorem bit31_div {c : Nat} (h : c < 4294967296) : c / 2147483648 = (if c.testBit 31 then 1 else 0) := by
  rw [Nat.testBit_eq_decide_div_mod_eq, show (2 : Nat) ^ 31 = 2147483648 from rfl]
  have : c / 2147483648 < 2 := by omega
  rcases Nat.lt_or_ge (c / 2147483648) 1 with h1 | h1
  · rw [show c / 2147483648 = 0 by omega]; rfl
  · rw [show c / 2147483648 = 1 by omega]; rfl
theorem S_form {c : Nat} (h : c < 4294967296) : bitI .xor .u32 (IntKind.u32.wrap ((c : Int) * 2 ^ min (Int.toNat 1) IntKind.u32.bits)) (IntKind.u32.wrap ((c : Int).fdiv (2 ^ min (Int.toNat 31) IntKind.u32.bits) * 79764919)) = ((S c : Nat) : Int) := by
  have e1 : IntKind.u32.wrap ((c : Int) * 2 ^ min (Int.toNat 1) IntKind.u32.bits) = ((2 * c % 4294967296 : Nat) : Int) := by
    show IntKind.u32.wrap ((c : Int) * 2) = _
    rw [IntKind.wrap_u32]; omega
  have e2 : IntKind.u32.wrap ((c : Int).fdiv (2 ^ min (Int.toNat 31) IntKind.u32.bits) * 79764919) = ((if c.testBit 31 then poly else 0 : Nat) : Int) := by
    rw [show min (Int.toNat 31) IntKind.u32.bits = 31 from rfl, fdiv_nat, show (2 : Nat) ^ 31 = 2147483648 from rfl, bit31_div h, IntKind.wrap_u32]
    cases c.testBit 31 <;> rfl
  rw [e1, e2, xor_u32 (Nat.mod_lt _ (by decide)) (by split <;> decide)]
  rfl
theorem in_form {c x : Nat} (h : c < 4294967296) : bitI .xor .u32 (c : Int) (IntKind.u32.wrap ((IntKind.u32.wrap (x : Int)) * 2 ^ min (Int.toNat 24) IntKind.u32.bits)) = ((c ^^^ x * 16777216 % 4294967296 : Nat) : Int) := by
  have e1 : IntKind.u32.wrap ((IntKind.u32.wrap (x : Int)) * 2 ^ min (Int.toNat 24) IntKind.u32.bits) = ((x * 16777216 % 4294967296 : Nat) : Int) := by
    show IntKind.u32.wrap ((IntKind.u32.wrap (x : Int)) * 16777216) = _
    rw [IntKind.wrap_u32, IntKind.wrap_u32]; omega
  rw [e1, xor_u32 h (Nat.mod_lt _ (by decide))]
theorem crc_succ {l : List Nat} {i : Nat} (h : i < l.length) (c : Nat) : crc (l.take (i + 1)) c = stepB (crc (l.take i) c) (l.getD i 0) := by
  rw [List.take_succ_eq_append_getElem h, crc_app, List.getD_eq_getElem?_getD, List.getElem?_eq_getElem h]; rfl
set_option maxHeartbeats 3200000 in
set_option maxRecDepth 10000 in
theorem check_fc (l : List Nat) (n : Nat) (hn : n ≤ l.length) (hl : n ≤ 100000) : FC Try.prog 31 [.o (.c (.s 0 0 n 1))] [u8n l false] (int .i64 ((chk (l.take n) : Nat) : Int)) [u8n l false] := by
  obtain ⟨c0, hc0⟩ : ∃ c : Nat, c = 4294967295 := ⟨_, rfl⟩
  have hch : chk (l.take n) = crc (l.take n) c0 := by rw [hc0]; rfl
  have hl0 : c0 < 4294967296 := by omega
  have hi0 : (4294967295 : Int) = ((crc (l.take 0) c0 : Nat) : Int) := by rw [List.take_zero]; show _ = ((c0 : Nat) : Int); omega
  rw [hch]
  clear hch hc0
  refine FC.one (FC.rj mix Try.func31 ?_)
  repeat (first | refine And.intro (by kernel_rfl) ?_ | refine And.intro (by decide) ?_)
  refine ALoop.go (X := Nat) (fun i => i ≤ n) (fun i => n - i) [7, 8] [0] (fun i => [(3, int .u32 ((crc (l.take i) c0 : Nat) : Int)), (9, int .i64 i)]) (fun _ => []) 0 (Nat.zero_le _) ⟨congrArg (int .u32) hi0, rfl, trivial⟩ trivial ?_
  clear hi0
  intro i hi
  have ei : 0 + (i : Int).toNat = i := by simp
  have hc : crc (l.take i) c0 < 4294967296 := crc_lt _ hl0
  dsimp only [headF, headM]
  refine bselD (fun h => ?_) (fun h => ?_)
  · have h' : i < n := by
      have h2 : (i : Int) < (n : Int) := h
      clear h
      omega
    have wi : IntKind.i64.wrap ((i : Int) + 1) = ((i + 1 : Nat) : Int) := wrap64_in (by omega) (by omega)
    have hs := crc_succ (Nat.lt_of_lt_of_le h' hn) c0
    repeat refine AJoin.plain ?_
    refine And.intro ⟨by omega, h⟩ ?_
    refine And.intro (by show 0 + (i : Int).toNat < (zl l).length; rw [zl_len]; omega) ?_
    repeat (first | refine And.intro (by kernel_rfl) ?_ | refine And.intro (by decide) ?_)
    have e0 : bitI .xor .u32 ((crc (l.take i) c0 : Nat) : Int) (IntKind.u32.wrap ((IntKind.u32.wrap ((zl l).getD (0 + (i : Int).toNat) 0)) * 2 ^ min (Int.toNat 24) IntKind.u32.bits)) = ((Sn 0 (crc (l.take i) c0 ^^^ l.getD i 0 * 16777216 % 4294967296) : Nat) : Int) := by
      rw [ei, zl_get, in_form hc]; rfl
    refine ALoop.go (X := Nat) (fun k => k ≤ 8) (fun k => 8 - k) [7, 8, 9] [0] (fun k => [(3, int .u32 ((Sn k (crc (l.take i) c0 ^^^ l.getD i 0 * 16777216 % 4294967296) : Nat) : Int)), (18, int .i64 k)]) (fun _ => []) 0 (by decide) ⟨congrArg (int .u32) e0, rfl, trivial⟩ trivial ?_
    rw [stepB] at hs
    have hd : crc (l.take i) c0 ^^^ l.getD i 0 * 16777216 % 4294967296 < 4294967296 := xor_lt32 hc (Nat.mod_lt _ (by decide))
    generalize crc (l.take i) c0 ^^^ l.getD i 0 * 16777216 % 4294967296 = d at hs hd
    clear e0
    intro k hk
    have hSn := Sn_lt hd k
    dsimp only [headF, headM]
    refine bselD (fun g => ?_) (fun g => ?_)
    · have g' : k < 8 := by
        have h2 : (k : Int) < 8 := g
        clear g
        omega
      have wk : IntKind.i64.wrap ((k : Int) + 1) = ((k + 1 : Nat) : Int) := wrap64_in (by omega) (by omega)
      repeat refine AJoin.plain ?_
      repeat (first | refine And.intro (by kernel_rfl) ?_ | refine And.intro (by decide) ?_)
      exact ⟨k + 1, ⟨g', by show 8 - (k + 1) < 8 - k; omega⟩, .id ⟨congrArg (int .u32) ((S_form hSn).trans (congrArg (fun n : Nat => (n : Int)) (Sn_succ k d).symm)), congrArg (int .i64) wk, trivial⟩ (Eq.trans (b := [.o (.c (.s 0 0 n 1)), int .i64 n, int .i64 i]) rfl rfl) trivial rfl⟩
    · have hq : k = 8 := by
        have h2 : ¬ (k : Int) < 8 := g
        clear g
        omega
      clear g
      subst hq
      repeat refine AJoin.plain ?_
      exact ⟨i + 1, ⟨h', by show n - (i + 1) < n - i; omega⟩, .id ⟨congrArg (fun n : Nat => int .u32 n) hs.symm, congrArg (int .i64) wi, trivial⟩ rfl trivial rfl⟩
  · have hq : i = n := by
      have h2 : ¬ (i : Int) < (n : Int) := h
      clear h
      omega
    clear h
    subst hq
    have e : IntKind.i64.wrap ((crc (l.take i) c0 : Nat) : Int) = ((crc (l.take i) c0 : Nat) : Int) := wrap64_in (by omega) (by omega)
    repeat (first | refine And.intro (by kernel_rfl) ?_ | refine And.intro (by decide) ?_)
    exact ⟨(), trivial, .id (congrArg (int .i64) e) ⟨.inl rfl, trivial⟩⟩
/-- one bit, as the reference has it -/
theorem R_form {c x : Nat} (h : c < 4294967296) (j : Nat) (hj : j ≤ 7) (b : Bool) (hb : b = ((c / 2147483648 : Nat) != x / 2 ^ j % 2)) :
    ((if b = true then (2 * c % 4294967296) ^^^ 79764919 else 2 * c % 4294967296 : Nat)) = R c (x.testBit j) := by
  have hd := bit31_div h
  rw [hd, ← Nat.toNat_testBit] at hb
  have e31 : (c ^^^ inB (x.testBit j)).testBit 31 = (c.testBit 31 ^^ x.testBit j) := by
    rw [Nat.testBit_xor]
    congr 1
    cases x.testBit j <;> rfl
  have e2 : 2 * (c ^^^ inB (x.testBit j)) % 4294967296 = 2 * c % 4294967296 := by
    refine Nat.eq_of_testBit_eq fun i => ?_
    rw [show (4294967296 : Nat) = 2 ^ 32 from rfl, Nat.testBit_mod_two_pow, Nat.testBit_mod_two_pow]
    cases i with
    | zero => simp
    | succ i =>
      rw [Nat.testBit_succ, Nat.testBit_succ, show 2 * (c ^^^ inB (x.testBit j)) / 2 = c ^^^ inB (x.testBit j) by omega, show 2 * c / 2 = c by omega, Nat.testBit_xor]
      by_cases hi : i + 1 < 32
      · have : (inB (x.testBit j)).testBit i = false := by
          unfold inB
          split
          · rw [show (2147483648 : Nat) = 2 ^ 31 from rfl, Nat.testBit_two_pow]; simp; omega
          · simp
        rw [this, Bool.xor_false]
      · simp [hi]
  unfold R S
  rw [e31, e2]
  subst hb
  cases c.testBit 31 <;> cases x.testBit j <;> simp [poly]
end Go.Sx.T1
namespace Go.Sx.T1
open Go.Proofs Go.Sx.Crc
/-! the reference's check value -/
theorem top_form (c : Nat) : (c : Int).fdiv (2 ^ min (Int.toNat 31) IntKind.i64.bits) = ((c / 2147483648 : Nat) : Int) := by
  rw [show min (Int.toNat 31) IntKind.i64.bits = 31 from rfl, fdiv_nat]
theorem dbl_form {c : Nat} (h : c < 4294967296) : bitI .and .i64 (IntKind.i64.wrap ((c : Int) * 2 ^ min (Int.toNat 1) IntKind.i64.bits)) 4294967295 = ((2 * c % 4294967296 : Nat) : Int) := by
  have e1 : IntKind.i64.wrap ((c : Int) * 2 ^ min (Int.toNat 1) IntKind.i64.bits) = ((2 * c : Nat) : Int) := by
    show IntKind.i64.wrap ((c : Int) * 2) = _
    rw [wrap64_in (by omega) (by omega)]; omega
  rw [e1, and_i64 (by omega)]
theorem and_u8 {a : Nat} (ha : a < 256) : bitI .and .u8 (a : Int) 1 = ((a % 2 : Nat) : Int) := by
  show IntKind.u8.wrap (((BitVec.ofInt 8 (a : Int)) &&& (BitVec.ofInt 8 ((1 : Nat) : Int))).toNat : Int) = _
  rw [BitVec.toNat_and, ofInt_nat, ofInt_nat, Nat.mod_eq_of_lt (by simpa using ha), show 1 % 2 ^ 8 = 2 ^ 1 - 1 from rfl, and_mask, wrapU8]
  omega
theorem bit8_form {x j : Nat} (hx : x < 256) (hj : j ≤ 7) : IntKind.i64.wrap (bitI .and .u8 ((x : Int).fdiv (2 ^ min ((j : Nat) : Int).toNat IntKind.u8.bits)) 1) = ((x / 2 ^ j % 2 : Nat) : Int) := by
  have e : min ((j : Nat) : Int).toNat IntKind.u8.bits = j := by rw [Int.toNat_natCast]; exact Nat.min_eq_left (show j ≤ 8 by omega)
  have hd : x / 2 ^ j ≤ x := Nat.div_le_self _ _
  rw [e, fdiv_nat, and_u8 (by omega), wrap64_in (by omega) (by omega)]
theorem Ry_succ (r x i : Nat) : Ry r x (i + 1) = R (Ry r x i) (x.testBit (7 - i)) := by rw [Ry]
theorem ne_nat (a b : Nat) : ((a : Int) != (b : Int)) = (a != b) := by
  rw [Bool.eq_iff_iff]
  simp only [bne_iff_ne, ne_eq]
  omega
set_option maxHeartbeats 3200000 in
set_option maxRecDepth 10000 in
theorem check18_fc (l : List Nat) (n : Nat) (hn : n ≤ l.length) (hl : n ≤ 100000) (hb : By l) : FC Try.prog 24 [.o (.c (.s 0 0 n 1))] [u8n l false] (int .i64 ((chk (l.take n) : Nat) : Int)) [u8n l false] := by
  obtain ⟨c0, hc0⟩ : ∃ c : Nat, c = 4294967295 := ⟨_, rfl⟩
  have hch : chk (l.take n) = crc (l.take n) c0 := by rw [hc0]; rfl
  have hl0 : c0 < 4294967296 := by omega
  have hi0 : (4294967295 : Int) = ((crc (l.take 0) c0 : Nat) : Int) := by rw [List.take_zero]; show _ = ((c0 : Nat) : Int); omega
  rw [hch]
  clear hch hc0
  refine FC.one (FC.rj mix Try.func24 ?_)
  repeat (first | refine And.intro (by kernel_rfl) ?_ | refine And.intro (by decide) ?_)
  refine ALoop.go (X := Nat) (fun i => i ≤ n) (fun i => n - i) [0] [0] (fun i => [(3, int .i64 ((crc (l.take i) c0 : Nat) : Int)), (4, int .i64 i)]) (fun _ => []) 0 (Nat.zero_le _) ⟨congrArg (int .i64) hi0, rfl, trivial⟩ trivial ?_
  clear hi0
  intro i hi
  have ei : 0 + (i : Int).toNat = i := by simp
  have hc : crc (l.take i) c0 < 4294967296 := crc_lt _ hl0
  dsimp only [headF, headM]
  refine bselD (fun h => ?_) (fun h => ?_)
  · have h' : i < n := by
      have h2 : (i : Int) < (n : Int) := h
      clear h
      omega
    have wi : IntKind.i64.wrap ((i : Int) + 1) = ((i + 1 : Nat) : Int) := wrap64_in (by omega) (by omega)
    have hs := crc_succ (Nat.lt_of_lt_of_le h' hn) c0
    rw [stepB_R] at hs
    have hx := hb i
    have hget : (zl l).getD (0 + (i : Int).toNat) 0 = ((l.getD i 0 : Nat) : Int) := by rw [ei, zl_get]
    have hlz : (zl l).length = l.length := zl_len l
    repeat refine AJoin.plain ?_
    refine ALoop.go (X := Nat) (fun k => k ≤ 8) (fun k => 8 - k) [0, 4] [0] (fun k => [(3, int .i64 ((Ry (crc (l.take i) c0) (l.getD i 0) k : Nat) : Int)), (5, int .i64 ((7 : Int) - (k : Nat)))]) (fun _ => []) 0 (by decide) ⟨rfl, rfl, trivial⟩ trivial ?_
    generalize crc (l.take i) c0 = d at hs hc
    generalize l.getD i 0 = x at hs hx hget
    intro k hk
    have hRy := Ry_lt hc x k
    have hst := Ry_succ d x k
    dsimp only [headF, headM]
    refine bselD (fun g => ?_) (fun g => ?_)
    · have g' : k < 8 := by
        have h2 : (7 : Int) - (k : Nat) ≥ 0 := g
        clear g
        omega
      have wk : IntKind.i64.wrap ((7 : Int) - (k : Nat) - 1) = (7 : Int) - ((k + 1 : Nat) : Int) := by rw [wrap64_in (by omega) (by omega)]; omega
      have uk : IntKind.u64.wrap ((7 : Int) - (k : Nat)) = ((7 - k : Nat) : Int) := by rw [wrapU64_in (by omega) (by omega)]; omega
      have eb : (((Ry d x k : Nat) : Int).fdiv (2 ^ min (Int.toNat 31) IntKind.i64.bits) != IntKind.i64.wrap (bitI .and .u8 (((zl l).getD (0 + (i : Int).toNat) 0).fdiv (2 ^ min (IntKind.u64.wrap ((7 : Int) - (k : Nat))).toNat IntKind.u8.bits)) 1)) = ((Ry d x k / 2147483648 : Nat) != x / 2 ^ (7 - k) % 2) := by
        rw [top_form, hget, uk, bit8_form hx (by omega), ne_nat]
      have hR := R_form hRy (7 - k) (by omega) _ eb
      rw [← hst] at hR
      have ed := dbl_form hRy
      repeat refine AJoin.plain ?_
      repeat (first | refine And.intro (by kernel_rfl) ?_ | refine And.intro (by decide) ?_)
      refine And.intro ⟨by omega, h⟩ ?_
      refine And.intro (by show 0 + (i : Int).toNat < (zl l).length; rw [hlz]; omega) ?_
      refine And.intro (by show 0 ≤ IntKind.u64.wrap ((7 : Int) - (k : Nat)); rw [uk]; omega) ?_
      repeat (first | refine And.intro (by kernel_rfl) ?_ | refine And.intro (by decide) ?_)
      refine bsel_intro (fun hbt => ?_) (fun hbt => ?_)
      · rw [if_pos hbt] at hR
        have e3 : bitI .xor .i64 (bitI .and .i64 (IntKind.i64.wrap (((Ry d x k : Nat) : Int) * 2 ^ min (Int.toNat 1) IntKind.i64.bits)) 4294967295) 79764919 = ((Ry d x (k + 1) : Nat) : Int) := by
          rw [ed, ← hR]; exact xor_i64 (b := 79764919) (Nat.mod_lt _ (by decide)) (by decide)
        repeat refine AJoin.plain ?_
        exact ⟨k + 1, ⟨g', by show 8 - (k + 1) < 8 - k; omega⟩, .id ⟨congrArg (int .i64) e3, congrArg (int .i64) wk, trivial⟩ (Eq.trans (b := [.o (.c (.s 0 0 n 1)), int .i64 i]) rfl rfl) trivial rfl⟩
      · rw [if_neg (by rw [hbt]; decide)] at hR
        rw [hR] at ed
        repeat refine AJoin.plain ?_
        exact ⟨k + 1, ⟨g', by show 8 - (k + 1) < 8 - k; omega⟩, .id ⟨congrArg (int .i64) ed, congrArg (int .i64) wk, trivial⟩ (Eq.trans (b := [.o (.c (.s 0 0 n 1)), int .i64 i]) rfl rfl) trivial rfl⟩
    · have hq : k = 8 := by
        have h2 : ¬ (7 : Int) - (k : Nat) ≥ 0 := g
        clear g
        omega
      clear g
      subst hq
      repeat refine AJoin.plain ?_
      exact ⟨i + 1, ⟨h', by show n - (i + 1) < n - i; omega⟩, .id ⟨congrArg (fun n : Nat => int .i64 n) hs.symm, congrArg (int .i64) wi, trivial⟩ (Eq.trans (b := [.o (.c (.s 0 0 n 1))]) rfl rfl) trivial rfl⟩
  · have hq : i = n := by
      have h2 : ¬ (i : Int) < (n : Int) := h
      clear h
      omega
    clear h
    subst hq
    repeat (first | refine And.intro (by kernel_rfl) ?_ | refine And.intro (by decide) ?_)
    exact ⟨(), trivial, .id rfl ⟨.inl rfl, trivial⟩⟩
end Go.Sx.T1
namespace Go.Sx.T1
open Go.Proofs Go.Sx.Crc
/-! must -/
theorem must_ok (e : Int) : FC Try.prog 49 [boo true, int .i64 e] [] (.t []) [] := by
  refine FC.b mix Try.func49 ?_
  repeat (first | refine And.intro (by kernel_rfl) ?_ | refine And.intro (by decide) ?_)
  trivial
set_option maxHeartbeats 1000000 in
set_option maxRecDepth 10000 in
theorem must_pc (e : Int) : PC Try.prog 49 [boo false, int .i64 e] (.iface 88 (.int .i64 e)) := by
  refine ⟨by kernel_rfl, fun β w vals hd => ?_⟩
  obtain ⟨x, y, rfl⟩ : ∃ x y, vals = [x, y] := by
    match vals, hd with
    | [x, y], _ => exact ⟨x, y, rfl⟩
  obtain ⟨h1, h2, _⟩ := hd
  obtain rfl : x = .bool false := h1
  obtain rfl : y = .int .i64 e := h2
  refine calls_of_wp Try.func49 rfl ?_
  have hn : Try.f49.ntmps = 8 := by kernel_rfl
  rw [hn]
  refine wp_seq (wp_region_list ?_)
  simp only [wpList, Region.wanted, if_true]
  refine .inl (wp_value (w' := w) (v := .bool false) (by simp [execOp, Act.eval]) ?_)
  refine .inl (wp_value (w' := w) (v := .bool true) (by simp [execOp, Act.eval, Act.put, Op.unary]) ?_)
  refine wp_cond_true (by simp [Act.eval, Act.put]) ?_
  refine wp_region_list ?_
  simp only [wpList, Region.wanted, if_true]
  refine .inl (wp_value (w' := w) (v := .int .i64 e) (by simp [execOp, Act.eval, Act.put]) ?_)
  refine .inl (wp_value (w' := w) (v := .iface 88 (.int .i64 e)) (by simp [execOp, Act.eval, Act.put, Instr.makeInterface, run_underlying Try.underlying88]) ?_)
  refine .inl ?_
  unfold Oper.wp
  have hp : ∀ (ev : Operand → Value) (o : Oper), o.op = .panic (.tmp 7) → ev (.tmp 7) = .iface 88 (.int .i64 e) → (execOp ev o).run Try.prog w = .halt (.panic (.iface 88 (.int .i64 e))) w := fun ev o h1 h2 => by
    simp [execOp, h1, h2, Instr.panic, goPanic]
  rw [hp _ _ rfl (by simp [Act.eval, Act.put]), Oper.upon_panic]
  refine And.intro ?_ ⟨rfl, rfl⟩
  simp only [Act.put]
end Go.Sx.T1
namespace Go.Sx.T1
open Go.Proofs Go.Sx.Crc
/-! the call that Decode defers -/
def zRc : List C := [.v (.int .i64 0), .v (.int .i64 0), .v (.int .i64 0), .v (.bool false), .v (.bool false), .v (.int .i64 0), .v (.int .i64 0), .v (.int .i64 0), .v (.int .i64 0), .v (.int .u64 0),
  .v (.int .i64 0), .v (.int .i64 0), .v (.int .i64 0), .v (.int .i64 0), .v (.int .i64 0), .v (.int .i64 0)]
theorem run_recover (ev : Operand → Value) (o : Oper) (c : Call) (w : World) (h : o.op = .call c) (hc : c.callee = .builtin .recover) : (execOp ev o).run Try.prog w = .ok .recover w := by
  simp [execOp, h, resolve, hc, invoke, builtin]
theorem run_wrong0 (ev : Operand → Value) (o : Oper) (x : Operand) (s : TypeId) (w : World) (h : o.op = .typeAssert x s 88 true) (hx : ev x = .nilIface) : (execOp ev o).run Try.prog w = .ok (.value (.tuple #[.int .i64 0, .bool false])) w := by
  have hz : (zeroValue 88).run Try.prog w = .ok (.int .i64 0) w := by
    unfold zeroValue
    have h0 : Try.t88.zero = some (.int .i64 0) := by kernel_rfl
    simp [h0]
  simp [execOp, h, hx, Instr.typeAssert, run_underlying Try.underlying88, hz]
theorem run_wrong1 (ev : Operand → Value) (o : Oper) (x : Operand) (s : TypeId) (w : World) (e : Int) (h : o.op = .typeAssert x s 88 true) (hx : ev x = .iface 88 (.int .i64 e)) : (execOp ev o).run Try.prog w = .ok (.value (.tuple #[.int .i64 e, .bool true])) w := by
  simp [execOp, h, hx, Instr.typeAssert, run_underlying Try.underlying88]
theorem run_mv (ev : Operand → Value) (o : Oper) (x : Operand) (w : World) (h : o.op = .move x ∨ o.op = .assign x) : (execOp ev o).run Try.prog w = .ok (.value (ev x)) w := by
  rcases h with h | h <;> simp [execOp, h]
theorem run_ext (ev : Operand → Value) (o : Oper) (x : Operand) (i : Nat) (vs : Array Value) (v : Value) (w : World) (h : o.op = .extract x i) (hx : ev x = .tuple vs) (hi : vs[i]? = some v) : (execOp ev o).run Try.prog w = .ok (.value v) w := by
  simp [execOp, h, hx, Instr.extract, hi]
set_option maxHeartbeats 1000000 in
set_option maxRecDepth 10000 in
theorem dec_dr (a b : Nat) : DR Try.prog 48 [.o (.c (.p a 0 0)), .o (.c (.p b 0 0))] := by
  refine ⟨by kernel_rfl, fun β w vals hd => ?_⟩
  obtain ⟨x, y, rfl⟩ : ∃ x y, vals = [x, y] := by
    match vals, hd with
    | [x, y], _ => exact ⟨x, y, rfl⟩
  refine callsD_of_wpS Try.func48 rfl fun c₀ cs hu => ?_
  have hn : Try.f48.ntmps = 12 := by kernel_rfl
  rw [hn]
  have hr : recoverD (c₀ :: cs) = none := by unfold recoverD; simp only [hu]
  refine wpS_seq (LstS.region ?_)
  refine .rec0 rfl (run_recover _ _ _ _ rfl rfl) hr ?_
  refine .val _ rfl (run_wrong0 _ _ _ _ _ rfl (by simp [Act.eval, Act.put])) ?_
  refine .val _ rfl (run_mv _ _ _ _ (.inl rfl)) ?_
  refine .val _ rfl (run_ext _ _ _ _ #[.int .i64 0, .bool false] (.int .i64 0) _ rfl (by simp [Act.eval, Act.put]) rfl) ?_
  refine .val _ rfl (run_ext _ _ _ _ #[.int .i64 0, .bool false] (.bool false) _ rfl (by simp [Act.eval, Act.put]) rfl) ?_
  refine .val _ rfl (run_mv _ _ _ _ (.inr rfl)) ?_
  refine .val _ rfl (run_mv _ _ _ _ (.inr rfl)) ?_
  refine .nil ?_
  refine wpS_seq (LstS.region ?_)
  refine .val _ rfl (run_mv _ _ _ _ (.inl rfl)) ?_
  refine .nil ?_
  refine wpS_cond (t := false) (by simp [Act.eval, Act.put]) ?_
  refine wpS_of_wp (wp_skip ?_)
  exact ⟨rfl, .returning, by rw [← hu], .tuple #[], results_none rfl _ _ _, ⟨_, rfl⟩, rfl, rfl⟩
theorem list16 {l : List C} (h : l.length = 16) : ∃ c0 c1 c2 c3 c4 c5 c6 c7 c8 c9 c10 c11 c12 c13 c14 c15, l = [c0, c1, c2, c3, c4, c5, c6, c7, c8, c9, c10, c11, c12, c13, c14, c15] := by
  match l, h with
  | [c0, c1, c2, c3, c4, c5, c6, c7, c8, c9, c10, c11, c12, c13, c14, c15], _ => exact ⟨c0, c1, c2, c3, c4, c5, c6, c7, c8, c9, c10, c11, c12, c13, c14, c15, rfl⟩
def boxR (l : List C) : Option Blk := some ⟨.box l, true⟩
set_option maxHeartbeats 2000000 in
set_option maxRecDepth 10000 in
theorem dec_dp (x0 : Option Blk) (lr : List C) (hlr : lr.length = 16) (ce : C) (rest : Mem) (e : Int) :
    DP Try.prog 48 [.o (.c (.p 1 0 0)), .o (.c (.p 2 0 0))] (.iface 88 (.int .i64 e)) (x0 :: boxR lr :: boxR [ce] :: rest) (x0 :: boxR zRc :: boxR [.v (.int .i64 e)] :: rest) := by
  obtain ⟨c0, c1, c2, c3, c4, c5, c6, c7, c8, c9, c10, c11, c12, c13, c14, c15, rfl⟩ := list16 hlr
  refine ⟨rfl, fun W A β w vals hSt hT hd => ?_⟩
  obtain ⟨x, y, rfl⟩ : ∃ x y, vals = [x, y] := by
    match vals, hd with
    | [x, y], _ => exact ⟨x, y, rfl⟩
  refine callsD_of_wpS Try.func48 rfl fun c₀ cs hu => ?_
  have hn : Try.f48.ntmps = 12 := by kernel_rfl
  rw [hn]
  have hr : recoverD (c₀ :: cs) = some (.iface 88 (.int .i64 e), { c₀ with mode := .panicking [{ v := .iface 88 (.int .i64 e), recovered := true }] } :: cs) := by
    unfold recoverD
    simp only [hu]
  refine wpS_seq (LstS.region ?_)
  refine .rec1 rfl (run_recover _ _ _ _ rfl rfl) hr ?_
  refine .val _ rfl (run_wrong1 _ _ _ _ _ e rfl (by simp [Act.eval, Act.put])) ?_
  refine .val _ rfl (run_mv _ _ _ _ (.inl rfl)) ?_
  refine .val _ rfl (run_ext _ _ _ _ #[.int .i64 e, .bool true] (.int .i64 e) _ rfl (by simp [Act.eval, Act.put]) rfl) ?_
  refine .val _ rfl (run_ext _ _ _ _ #[.int .i64 e, .bool true] (.bool true) _ rfl (by simp [Act.eval, Act.put]) rfl) ?_
  refine .val _ rfl (run_mv _ _ _ _ (.inr rfl)) ?_
  refine .val _ rfl (run_mv _ _ _ _ (.inr rfl)) ?_
  refine .nil ?_
  refine wpS_seq (LstS.region ?_)
  refine .val _ rfl (run_mv _ _ _ _ (.inl rfl)) ?_
  refine .nil ?_
  refine wpS_cond (t := true) (by simp [Act.eval, Act.put]) ?_
  rw [if_pos rfl]
  refine wpS_of_wp (wp_region_list ?_)
  refine wpList_run (fr := [.o (.c (.p 1 0 0)), .o (.c (.p 2 0 0)), int .i64 e, .o (.c .u), .o (.c .u), .o (.c .u), .o (.c .u), .o (.c .u), .o (.c .u), .o (.c .u), .o (.c .u), .o (.c .u)])
    (K := fun _ M' => M' = x0 :: boxR zRc :: boxR [.v (.int .i64 e)] :: rest) ?_ hSt ⟨?_, fun t => ?_⟩ hT fun fr' M' β' a' w' hK hle hS _ _ hds => ?_
  · exact Eq.refl _
  · simp [Act.put]
  · match t with
    | 0 => simpa [Act.put, frGet] using hd.1
    | 1 => simpa [Act.put, frGet] using hd.2.1
    | 2 => simp [Act.put, frGet]; rfl
    | 3 | 4 | 5 | 6 | 7 | 8 | 9 | 10 | 11 => exact trivial
    | t + 12 => exact trivial
  · subst hK
    exact ⟨hds, _, rfl, .tuple #[], results_none rfl _ _ _, ⟨_, rfl⟩, rfl, β', hle, hS⟩
end Go.Sx.T1
namespace Go.Sx.T1
open Go.Proofs Go.Sx.Crc
/-! reading numbers -/
theorem take_get (l : List Nat) (n i : Nat) : (zl l).take n = zl (l.take n) := by simp [zl, List.map_take]
theorem zl_bd {l : List Nat} (h : By l) : ∀ x ∈ zl l, 0 ≤ x ∧ x < 256 := fun x hx => by
  obtain ⟨y, hy, rfl⟩ := List.mem_map.1 hx
  have := h.mem y hy
  exact ⟨Int.natCast_nonneg _, by show ((y : Nat) : Int) < 256; omega⟩
theorem zl_inj {a b : List Nat} (h : zl a = zl b) : a = b := by
  have : (zl a).map Int.toNat = (zl b).map Int.toNat := by rw [h]
  simpa [zl, Function.comp_def] using this
set_option maxHeartbeats 3200000 in
set_option maxRecDepth 10000 in
theorem eq_fc (xs ys : List Int) (n m : Nat) (hn : xs.length = n) (hm : ys.length = m) (hx : ∀ x ∈ xs, 0 ≤ x ∧ x < 256) (hy : ∀ x ∈ ys, 0 ≤ x ∧ x < 256) :
    FC Try.prog 67 [.o (.c (.s 0 0 n 1)), .o (.c (.s 1 0 m 1))] [u8s xs false, u8s ys false] (boo (decide (xs = ys))) [u8s xs false, u8s ys false] := by
  subst hn hm
  refine FC.one (FC.rj mix Try.func67 ?_)
  refine And.intro (by show 0 + xs.length ≤ xs.length; omega) ?_
  refine And.intro (by show 0 + ys.length ≤ ys.length; omega) ?_
  refine ⟨(), trivial, .id (congrArg boo ?_) ⟨.inl rfl, .inl rfl, trivial⟩⟩
  show (bytesOf (List.take xs.length (List.drop 0 xs)) == bytesOf (List.take ys.length (List.drop 0 ys))) = _
  rw [List.drop_zero, List.take_of_length_le (Nat.le_refl _), List.drop_zero, List.take_of_length_le (Nat.le_refl _), bytesOf_beq _ _ hx hy]
set_option maxHeartbeats 3200000 in
set_option maxRecDepth 10000 in
theorem prefix_fc (l : List Nat) (n : Nat) (hn : n ≤ l.length) (h4 : 4 ≤ n) (hb : By l) :
    FC Try.prog 50 [.o (.c (.s 0 0 n 1)), .o (.c (.s 1 0 4 1))] [u8n l false, u8n headL false] (boo (decide (l.take 4 = headL))) [u8n l false, u8n headL false] := by
  have hd : decide (List.take 4 (zl l) = zl headL) = decide (l.take 4 = headL) := by
    rw [take_get l 4 0]
    by_cases h : l.take 4 = headL
    · rw [h]; simp
    · rw [decide_eq_false h, decide_eq_false (fun e => h (zl_inj e))]
  refine FC.one (FC.rj mix Try.func50 ?_)
  refine bselT (by simp; omega) ?_
  refine And.intro ⟨by show 0 ≤ (4 : Int); decide, by omega⟩ ?_
  refine FC.u (eq_fc ((zl l).take 4) (zl headL) 4 4 (by rw [List.length_take, zl_len]; omega) rfl (fun x hx => zl_bd hb x (List.mem_of_mem_take hx)) (zl_bd (By.of_mem (by decide)))) [0, 1] ?_
  exact ⟨(), trivial, .id (congrArg boo hd) ⟨.inl rfl, .inl rfl, trivial⟩⟩
theorem acc_form {v x : Nat} (hv : v < 2 ^ 56) (hx : x < 256) : bitI .or .u64 (IntKind.u64.wrap ((v : Int) * 2 ^ min (Int.toNat 8) IntKind.u64.bits)) (IntKind.u64.wrap (x : Int)) = ((v * 256 + x : Nat) : Int) := by
  have e56 : (2 : Nat) ^ 56 = 72057594037927936 := rfl
  have e1 : IntKind.u64.wrap ((v : Int) * 2 ^ min (Int.toNat 8) IntKind.u64.bits) = ((v * 2 ^ 8 : Nat) : Int) := by
    show IntKind.u64.wrap ((v : Int) * 256) = _
    rw [wrapU64_in (by omega) (by omega)]; omega
  rw [e1, wrapU64_in (n := (x : Int)) (by omega) (by omega), or_u64 (by omega) (by omega), Nat.or_comm, or_add (k := 8) hx]
  congr 1
  omega
def rdS (a L : Nat) : Option Blk := some ⟨.box [.s 1 a L 1], true⟩
set_option maxHeartbeats 3200000 in
set_option maxRecDepth 10000 in
theorem get_fc (l : List Nat) (a L n : Nat) (hn : n ≤ L) (h8 : n ≤ 8) (haL : a + L ≤ l.length) (hl : l.length ≤ 100000) (hb : By l) :
    ∃ v : Nat, FC Try.prog 51 [.o (.c (.p 0 0 0)), int .i64 n] [rdS a L, u8n l false] (int .u64 v) [rdS (a + n) (L - n), u8n l false] ∧ v = gP l a n := by
  refine FC.rj mix Try.func51 ?_
  repeat (first | refine And.intro (by kernel_rfl) ?_ | refine And.intro (by decide) ?_)
  refine And.intro ⟨by omega, by omega⟩ ?_
  repeat (first | refine And.intro (by kernel_rfl) ?_ | refine And.intro (by decide) ?_)
  refine ALoop.go (X := Nat) (fun i => i ≤ n) (fun i => n - i) [0, 1] [0, 1] (fun i => [(5, int .u64 ((gP l a i : Nat) : Int)), (12, .o (.c (.s 1 a n 1))), (13, int .i64 n), (14, int .i64 i)]) (fun _ => []) 0 (Nat.zero_le _) ⟨rfl, rfl, rfl, rfl, trivial⟩ trivial ?_
  intro i hi
  have hv := gP_lt hb a (show a + i ≤ l.length by omega)
  dsimp only [headF, headM]
  refine bselD (fun h => ?_) (fun h => ?_)
  · have h' : i < n := by
      have h2 : (i : Int) < (n : Int) := h
      clear h
      omega
    have wi : IntKind.i64.wrap ((i : Int) + 1) = ((i + 1 : Nat) : Int) := wrap64_in (by omega) (by omega)
    have hlz : (zl l).length = l.length := zl_len l
    have h56 : gP l a i < 2 ^ 56 := Nat.lt_of_lt_of_le hv (Nat.pow_le_pow_right (by omega) (by omega))
    have key : bitI .or .u64 (IntKind.u64.wrap (((gP l a i : Nat) : Int) * 2 ^ min (Int.toNat 8) IntKind.u64.bits)) (IntKind.u64.wrap ((zl l).getD (a + (i : Int).toNat) 0)) = ((gP l a (i + 1) : Nat) : Int) := by
      rw [Int.toNat_natCast, zl_get, acc_form h56 (hb _), gP_succ (by omega)]
    repeat refine AJoin.plain ?_
    refine And.intro ⟨by omega, h⟩ ?_
    refine And.intro (by show a + (i : Int).toNat < (zl l).length; rw [hlz, Int.toNat_natCast]; omega) ?_
    repeat (first | refine And.intro (by kernel_rfl) ?_ | refine And.intro (by decide) ?_)
    exact ⟨i + 1, ⟨h', by show n - (i + 1) < n - i; omega⟩, .id ⟨congrArg (int .u64) key, rfl, rfl, congrArg (int .i64) wi, trivial⟩ rfl trivial rfl⟩
  · have hq : i = n := by
      have h2 : ¬ (i : Int) < (n : Int) := h
      clear h
      omega
    clear h
    subst hq
    repeat (first | refine And.intro (by kernel_rfl) ?_ | refine And.intro (by decide) ?_)
    refine And.intro ⟨by omega, by omega⟩ ?_
    repeat (first | refine And.intro (by kernel_rfl) ?_ | refine And.intro (by decide) ?_)
    exact ⟨gP l a i, rfl, .id rfl ⟨.inl rfl, .inl rfl, trivial⟩⟩
set_option maxHeartbeats 3200000 in
set_option maxRecDepth 10000 in
theorem get18_fc (l : List Nat) (a n : Nat) (h8 : n ≤ 8) (haL : a + n ≤ l.length) (hl : l.length ≤ 100000) (N : Nat) (hN : N = l.length) (hb : By l) :
    ∃ v : Nat, FC Try.prog 63 [.o (.c (.s 0 0 N 1)), int .i64 a, int .i64 n] [u8n l false] (int .u64 v) [u8n l false] ∧ v = gP l a n := by
  refine FC.rj mix Try.func63 ?_
  repeat (first | refine And.intro (by kernel_rfl) ?_ | refine And.intro (by decide) ?_)
  refine ALoop.go (X := Nat) (fun i => i ≤ n) (fun i => n - i) [0, 1, 2] [0] (fun i => [(7, int .u64 ((gP l a i : Nat) : Int)), (8, int .i64 i)]) (fun _ => []) 0 (Nat.zero_le _) ⟨rfl, rfl, trivial⟩ trivial ?_
  intro i hi
  have hv := gP_lt hb a (show a + i ≤ l.length by omega)
  dsimp only [headF, headM]
  refine bselD (fun h => ?_) (fun h => ?_)
  · have h' : i < n := by
      have h2 : (i : Int) < (n : Int) := h
      clear h
      omega
    have wi : IntKind.i64.wrap ((i : Int) + 1) = ((i + 1 : Nat) : Int) := wrap64_in (by omega) (by omega)
    have wa : IntKind.i64.wrap ((a : Int) + (i : Int)) = ((a + i : Nat) : Int) := by rw [wrap64_in (by omega) (by omega)]; omega
    have hlz : (zl l).length = l.length := zl_len l
    have h56 : gP l a i < 2 ^ 56 := Nat.lt_of_lt_of_le hv (Nat.pow_le_pow_right (by omega) (by omega))
    have key : bitI .or .u64 (IntKind.u64.wrap (((gP l a i : Nat) : Int) * 2 ^ min (Int.toNat 8) IntKind.u64.bits)) (IntKind.u64.wrap ((zl l).getD (0 + (IntKind.i64.wrap ((a : Int) + (i : Int))).toNat) 0)) = ((gP l a (i + 1) : Nat) : Int) := by
      rw [wa, Int.toNat_natCast, Nat.zero_add, zl_get, acc_form h56 (hb _), gP_succ (by omega)]
    repeat refine AJoin.plain ?_
    repeat (first | refine And.intro (by kernel_rfl) ?_ | refine And.intro (by decide) ?_)
    refine And.intro (by show 0 ≤ IntKind.i64.wrap ((a : Int) + (i : Int)) ∧ IntKind.i64.wrap ((a : Int) + (i : Int)) < (N : Int); rw [wa]; omega) ?_
    refine And.intro (by show 0 + (IntKind.i64.wrap ((a : Int) + (i : Int))).toNat < (zl l).length; rw [wa, hlz, Int.toNat_natCast]; omega) ?_
    repeat (first | refine And.intro (by kernel_rfl) ?_ | refine And.intro (by decide) ?_)
    exact ⟨i + 1, ⟨h', by show n - (i + 1) < n - i; omega⟩, .id ⟨congrArg (int .u64) key, congrArg (int .i64) wi, trivial⟩ rfl trivial rfl⟩
  · have hq : i = n := by
      have h2 : ¬ (i : Int) < (n : Int) := h
      clear h
      omega
    clear h
    subst hq
    repeat (first | refine And.intro (by kernel_rfl) ?_ | refine And.intro (by decide) ?_)
    exact ⟨gP l a i, rfl, .id rfl ⟨.inl rfl, trivial⟩⟩
def smallF (v : Nat) : Int := if v > 4611686018427387904 then -1 else v
set_option maxHeartbeats 3200000 in
set_option maxRecDepth 10000 in
theorem small_fc (v : Nat) : ∃ n : Int, FC Try.prog 65 [int .u64 v] [] (int .i64 n) [] ∧ n = smallF v := by
  refine FC.rj mix Try.func65 ?_
  repeat (first | refine And.intro (by kernel_rfl) ?_ | refine And.intro (by decide) ?_)
  refine bselD (fun h => ?_) (fun h => ?_)
  · have h' : v > 4611686018427387904 := by
      have h2 : (v : Int) > 4611686018427387904 := h
      clear h
      omega
    repeat (first | refine And.intro (by kernel_rfl) ?_ | refine And.intro (by decide) ?_)
    exact ⟨-1, by rw [smallF, if_pos h'], .id rfl trivial⟩
  · have h' : ¬ v > 4611686018427387904 := by
      have h2 : ¬ (v : Int) > 4611686018427387904 := h
      clear h
      omega
    repeat (first | refine And.intro (by kernel_rfl) ?_ | refine And.intro (by decide) ?_)
    exact ⟨v, by rw [smallF, if_neg h'], .id (congrArg (int .i64) (wrap64_in (by omega) (by omega))) trivial⟩
end Go.Sx.T1
namespace Go.Sx.T1
open Go.Proofs
set_option maxRecDepth 10000 in
theorem one_fc (ts : List Int) (k : Nat) (n : Int) (hn : n < 9223372036854775808) (hn1 : 1 ≤ n) (hl : ts.length ≤ 400) :
    FC Try.prog 25 [.o (.c (.p 0 0 0)), int .i64 n] [diceB ts k, diceL ts] (boo (dv ts k n == n - 1)) [diceB ts (k + 1), diceL ts] := by
  refine FC.b mix Try.func25 ?_
  refine FC.u (next_fc ts k n hn hl) [0, 1] ?_
  exact ⟨congrArg (fun x => boo (dv ts k n == x)) (wrap64_in (by omega) (by omega)), rfl, rfl, trivial⟩

theorem one_x (ts : List Int) (k : Nat) (n : Int) (hn : n < 9223372036854775808) (hn1 : 1 ≤ n) (hl : ts.length ≤ 400) :
    ∃ v, FC Try.prog 25 [.o (.c (.p 0 0 0)), int .i64 n] [diceB ts k, diceL ts] (boo v) [diceB ts (k + 1), diceL ts] ∧ v = (dv ts k n == n - 1) := ⟨_, one_fc ts k n hn hn1 hl, rfl⟩
end Go.Sx.T1
namespace Go.Sx.T1
open Go.Proofs

structure Stt where
  valid : Bool
  overflow : Bool
  outcome : Int
  source : Int
  stamp : Int
  address : Int
  chips : Int

def stC (s : Stt) : List C := [.v (.bool s.valid), .v (.bool s.overflow), .v (.int .i64 s.outcome), .v (.int .i64 s.source), .v (.int .i64 s.stamp), .v (.int .i64 s.address), .v (.int .u64 s.chips)]
def dStatus (ts : List Int) (k : Nat) (a : Int) : Stt :=
  ⟨true, dv ts k 3 == 3 - 1, 1 + dv ts (k + 1) 2, dv ts (k + 2) 3, [0, 1, dv ts (k + 3) 20, 65535].getD (dv ts (k + 4) 4).toNat 0, a, dv ts (k + 5) 1048576⟩

set_option maxRecDepth 10000 in
theorem status_fc (ts : List Int) (k : Nat) (a : Int) (hl : ts.length ≤ 400) :
    FC Try.prog 14 [.o (.c (.p 0 0 0)), int .i64 a] [diceB ts k, diceL ts] (.o (.a (stC (dStatus ts k a)))) [diceB ts (k + 6), diceL ts] := by
  refine FC.b mix Try.func14 ?_
  refine FC.u (one_fc ts k 3 (by omega) (by omega) hl) [0, 1] ?_
  refine FC.u (next_fc ts (k + 1) 2 (by omega) hl) [0, 1] ?_
  refine FC.u (next_fc ts (k + 2) 3 (by omega) hl) [0, 1] ?_
  refine FC.u (next_fc ts (k + 3) 20 (by omega) hl) [0, 1] ?_
  refine FC.u (next_fc ts (k + 4) 4 (by omega) hl) [0, 1] ?_
  have b := dv_bd ts (k + 4) (n := 4) (by omega)
  refine And.intro b (And.intro (by simp; omega) ?_)
  refine FC.u (next_fc ts (k + 5) 1048576 (by omega) hl) [0, 1] ?_
  refine And.intro (by kernel_rfl) ?_
  have b1 := dv_bd ts (k + 1) (n := 2) (by omega)
  have b5 := dv_bd ts (k + 5) (n := 1048576) (by omega)
  refine ⟨?_, rfl, rfl, trivial⟩
  show SV.o (.a _) = _
  rw [wrap64_in (n := 1 + dv ts (k + 1) 2) (by omega) (by omega), wrapU64_in (n := dv ts (k + 5) 1048576) (by omega) (by omega), Nat.zero_add]
  rfl
end Go.Sx.T1
namespace Go.Sx.T1
open Go.Proofs

def oddV (ts : List Int) (k : Nat) : Int := [-1, 0, 1, 2, 3, 4, 65535, 65536, 1048575, 1048576].getD (dv ts k 10).toNat 0
def oddS (ts : List Int) (k : Nat) (s : Stt) : Stt :=
  let v := oddV ts k
  let c := dv ts (k + 1) 6
  if c = 0 then { s with valid := !s.valid }
  else if c = 1 then { s with outcome := v }
  else if c = 2 then { s with source := v }
  else if c = 3 then { s with stamp := v }
  else if c = 4 then { s with address := v }
  else { s with chips := [549755813888, 1099511627776, 9223372036854775808].getD (dv ts (k + 2) 3).toNat 0 }
def oddK (ts : List Int) (k : Nat) : Nat := if dv ts (k + 1) 6 = 0 ∨ dv ts (k + 1) 6 = 1 ∨ dv ts (k + 1) 6 = 2 ∨ dv ts (k + 1) 6 = 3 ∨ dv ts (k + 1) 6 = 4 then k + 2 else k + 3

set_option maxRecDepth 10000 in
theorem oddStatus_fc (ts : List Int) (k : Nat) (s : Stt) (hl : ts.length ≤ 400) :
    FC Try.prog 43 [.o (.c (.p 0 0 0)), .o (.a (stC s))] [diceB ts k, diceL ts] (.o (.a (stC (oddS ts k s)))) [diceB ts (oddK ts k), diceL ts] := by
  refine FC.b mix Try.func43 ?_
  refine FC.u (next_fc ts k 10 (by omega) hl) [0, 1] ?_
  have b := dv_bd ts k (n := 10) (by omega)
  have b2 := dv_bd ts (k + 2) (n := 3) (by omega)
  refine And.intro b (And.intro (by simp; omega) ?_)
  refine FC.u (next_fc ts (k + 1) 6 (by omega) hl) [0, 1] ?_
  refine bselE (fun h0 => ?_) (fun h0 => ?_)
  · exact ⟨congrArg (fun x => SV.o (.a (stC x))) (show ({ s with valid := !s.valid } : Stt) = oddS ts k s by simp only [oddS, if_pos h0]), congrArg (diceB ts) (show k + 2 = oddK ts k by unfold oddK; rw [if_pos (by omega)]), rfl, trivial⟩
  refine bselE (fun h1 => ?_) (fun h1 => ?_)
  · exact ⟨congrArg (fun x => SV.o (.a (stC x))) (show ({ s with outcome := [-1, 0, 1, 2, 3, 4, 65535, 65536, 1048575, 1048576].getD (0 + (dv ts k 10).toNat) 0 } : Stt) = oddS ts k s by simp only [oddS, if_neg h0, if_pos h1, oddV, Nat.zero_add]), congrArg (diceB ts) (show k + 2 = oddK ts k by unfold oddK; rw [if_pos (by omega)]), rfl, trivial⟩
  refine bselE (fun h2 => ?_) (fun h2 => ?_)
  · exact ⟨congrArg (fun x => SV.o (.a (stC x))) (show ({ s with source := [-1, 0, 1, 2, 3, 4, 65535, 65536, 1048575, 1048576].getD (0 + (dv ts k 10).toNat) 0 } : Stt) = oddS ts k s by simp only [oddS, if_neg h0, if_neg h1, if_pos h2, oddV, Nat.zero_add]), congrArg (diceB ts) (show k + 2 = oddK ts k by unfold oddK; rw [if_pos (by omega)]), rfl, trivial⟩
  refine bselE (fun h3 => ?_) (fun h3 => ?_)
  · exact ⟨congrArg (fun x => SV.o (.a (stC x))) (show ({ s with stamp := [-1, 0, 1, 2, 3, 4, 65535, 65536, 1048575, 1048576].getD (0 + (dv ts k 10).toNat) 0 } : Stt) = oddS ts k s by simp only [oddS, if_neg h0, if_neg h1, if_neg h2, if_pos h3, oddV, Nat.zero_add]), congrArg (diceB ts) (show k + 2 = oddK ts k by unfold oddK; rw [if_pos (by omega)]), rfl, trivial⟩
  refine bselE (fun h4 => ?_) (fun h4 => ?_)
  · exact ⟨congrArg (fun x => SV.o (.a (stC x))) (show ({ s with address := [-1, 0, 1, 2, 3, 4, 65535, 65536, 1048575, 1048576].getD (0 + (dv ts k 10).toNat) 0 } : Stt) = oddS ts k s by simp only [oddS, if_neg h0, if_neg h1, if_neg h2, if_neg h3, if_pos h4, oddV, Nat.zero_add]), congrArg (diceB ts) (show k + 2 = oddK ts k by unfold oddK; rw [if_pos (by omega)]), rfl, trivial⟩
  refine FC.u (next_fc ts (k + 2) 3 (by omega) hl) [0, 1] ?_
  refine And.intro b2 (And.intro (by simp; omega) ?_)
  exact ⟨congrArg (fun x => SV.o (.a (stC x))) (show ({ s with chips := [549755813888, 1099511627776, 9223372036854775808].getD (0 + (dv ts (k + 2) 3).toNat) 0 } : Stt) = oddS ts k s by simp only [oddS, if_neg h0, if_neg h1, if_neg h2, if_neg h3, if_neg h4, Nat.zero_add]), congrArg (diceB ts) (show k + 3 = oddK ts k by unfold oddK; rw [if_neg (by omega)]), rfl, trivial⟩

def eqS (s t : Stt) : Bool := s.valid == t.valid && (s.overflow == t.overflow && (s.outcome == t.outcome && (s.source == t.source && (s.stamp == t.stamp && (s.address == t.address && (s.chips == t.chips && true))))))
def zS : Stt := ⟨false, false, 0, 0, 0, 0, 0⟩
theorem eqS_iff {s t : Stt} : eqS s t = true ↔ s = t := by
  obtain ⟨a, b, c, d, e, f, g⟩ := s
  obtain ⟨a', b', c', d', e', f', g'⟩ := t
  simp [eqS]
theorem eqS_self (s : Stt) : eqS s s = true := eqS_iff.2 rfl

set_option maxRecDepth 10000 in
theorem zero_fc (s : Stt) : FC Try.prog 68 [.o (.a (stC s))] [] (boo (eqS s zS)) [] := by
  refine FC.b mix Try.func68 ?_
  refine And.intro (by kernel_rfl) ?_
  exact ⟨rfl, trivial⟩
set_option maxRecDepth 10000 in
theorem between_fc (n a b : Int) : FC Try.prog 69 [int .i64 n, int .i64 a, int .i64 b] [] (boo (decide (a ≤ n) && decide (n ≤ b))) [] := by
  refine FC.b mix Try.func69 ?_
  refine bselD (fun h => ?_) (fun h => ?_)
  · exact ⟨congrArg boo (show decide (n ≤ b) = (decide (a ≤ n) && decide (n ≤ b)) by simp [show a ≤ n by omega]), trivial⟩
  · exact ⟨congrArg boo (show false = (decide (a ≤ n) && decide (n ≤ b)) by simp [show ¬ a ≤ n by omega]), trivial⟩

end Go.Sx.T1
namespace Go.Sx.T1
open Go.Proofs
def in8 (n a b : Int) : Bool := decide (a ≤ n) && decide (n ≤ b)
def validS (s : Stt) : Bool := eqS s zS || (s.valid && (in8 s.outcome 1 2 && (in8 s.source 0 2 && (in8 s.stamp 0 65535 && (in8 s.address 0 1048575 && s.chips / 1099511627776 == 0)))))
theorem fdiv40 (n : Int) : n.fdiv (2 ^ 40) = n / 1099511627776 := Int.fdiv_eq_ediv_of_nonneg _ (by decide)
set_option maxRecDepth 10000 in
theorem valid_fc (s : Stt) : FC Try.prog 53 [.o (.a (stC s))] [] (boo (validS s)) [] := by
  refine FC.b mix Try.func53 ?_
  refine FC.u (zero_fc s) [] ?_
  refine bsel_intro (fun h0 => ?_) (fun h0 => ?_)
  · exact ⟨congrArg boo (show true = validS s by simp [validS, h0]), trivial⟩
  refine bsel_intro (fun h1 => ?_) (fun h1 => ?_)
  rotate_left
  · exact ⟨congrArg boo (show false = validS s by simp [validS, h0, h1]), trivial⟩
  refine FC.u (between_fc s.outcome 1 2) [] ?_
  refine bsel_intro (fun h2 => ?_) (fun h2 => ?_)
  rotate_left
  · exact ⟨congrArg boo (show false = validS s by simp [validS, h0, in8, h2]), trivial⟩
  refine FC.u (between_fc s.source 0 2) [] ?_
  refine bsel_intro (fun h3 => ?_) (fun h3 => ?_)
  rotate_left
  · exact ⟨congrArg boo (show false = validS s by simp [validS, h0, in8, h3]), trivial⟩
  refine FC.u (between_fc s.stamp 0 65535) [] ?_
  refine bsel_intro (fun h4 => ?_) (fun h4 => ?_)
  rotate_left
  · exact ⟨congrArg boo (show false = validS s by simp [validS, h0, in8, h4]), trivial⟩
  refine FC.u (between_fc s.address 0 1048575) [] ?_
  refine bsel_intro (fun h5 => ?_) (fun h5 => ?_)
  rotate_left
  · exact ⟨congrArg boo (show false = validS s by simp [validS, h0, in8, h5]), trivial⟩
  refine And.intro (by decide) ?_
  refine And.intro (congrArg boo ?_) trivial
  simp only [validS, h0, in8, h1, h2, h3, h4, h5, Bool.false_or, Bool.true_and]
  rw [← fdiv40]; rfl
end Go.Sx.T1
namespace Go.Sx.T1
open Go.Proofs
theorem fv {s : Stt} (h : s.valid = false) (h0 : eqS s zS = false) : false = validS s := by simp only [validS, h0, h, Bool.false_or, Bool.false_and]
theorem validS_all {s : Stt} (h0 : eqS s zS = false) (h1 : s.valid = true) : validS s = ((decide (s.outcome = 1 ∨ s.outcome = 2)) && (decide (s.source ≥ 0) && (decide (s.source ≤ 2) && (decide (s.stamp ≥ 0) && (decide (s.stamp ≤ 65535) && (decide (s.address ≥ 0) && (decide (s.address < 1048576) && (s.chips.fdiv (2 ^ 40) == 0)))))))) := by
  simp only [validS, h0, h1, in8, Bool.false_or, Bool.true_and, fdiv40]
  have e1 : decide (s.outcome = 1 ∨ s.outcome = 2) = (decide (1 ≤ s.outcome) && decide (s.outcome ≤ 2)) := by rw [Bool.eq_iff_iff]; simp; omega
  have e2 : decide (s.address < 1048576) = decide (s.address ≤ 1048575) := by rw [Bool.eq_iff_iff]; simp; omega
  rw [e1, e2]
  simp only [ge_iff_le, Bool.and_assoc]
set_option maxRecDepth 10000 in
theorem validR_fc (s : Stt) : FC Try.prog 56 [.o (.a (stC s))] [] (boo (validS s)) [] := by
  refine FC.b mix Try.func56 ?_
  refine And.intro (by kernel_rfl) ?_
  refine bsel_intro (fun h0 => ?_) (fun h0 => ?_)
  · exact ⟨congrArg boo (show true = validS s by rw [validS, show eqS s zS = true from h0]; rfl), trivial⟩
  replace h0 : eqS s zS = false := h0
  refine bsel_intro (fun h1 => ?_) (fun h1 => ?_)
  rotate_left
  · exact ⟨congrArg boo (fv h1 h0), trivial⟩
  rw [validS_all h0 h1]
  refine bselE (fun h2 => ?_) (fun h2 => ?_)
  rotate_left
  refine bselE (fun h2' => ?_) (fun h2' => ?_)
  rotate_left
  · exact ⟨congrArg boo (by simp [h2, h2']), trivial⟩
  all_goals
    refine bselD (fun h3 => ?_) (fun h3 => ?_)
    rotate_left
    · exact ⟨congrArg boo (by simp [h3]), trivial⟩
    refine bselD (fun h4 => ?_) (fun h4 => ?_)
    rotate_left
    · exact ⟨congrArg boo (by simp [h4]), trivial⟩
    refine bselD (fun h5 => ?_) (fun h5 => ?_)
    rotate_left
    · exact ⟨congrArg boo (by simp [h5]), trivial⟩
    refine bselD (fun h6 => ?_) (fun h6 => ?_)
    rotate_left
    · exact ⟨congrArg boo (by simp [h6]), trivial⟩
    refine bselD (fun h7 => ?_) (fun h7 => ?_)
    rotate_left
    · exact ⟨congrArg boo (by simp [h7]), trivial⟩
    refine bselD (fun h8 => ?_) (fun h8 => ?_)
    rotate_left
    · exact ⟨congrArg boo (by simp [h8]), trivial⟩
    refine And.intro (by decide) ?_
    refine ⟨congrArg boo ?_, trivial⟩
    simp only [h2, h3, h4, h5, h6, h7, h8]
    first | rfl | (simp only [h2', or_true, decide_true, Bool.true_and]; rfl)
end Go.Sx.T1
namespace Go.Sx.T1
open Go.Proofs

theorem dStatus_valid (ts : List Int) (k : Nat) (a : Int) (h0 : 0 ≤ a) (h1 : a < 1048576) : validS (dStatus ts k a) = true := by
  have b1 := dv_bd ts (k + 1) (n := 2) (by omega)
  have b2 := dv_bd ts (k + 2) (n := 3) (by omega)
  have b3 := dv_bd ts (k + 3) (n := 20) (by omega)
  have b4 := dv_bd ts (k + 4) (n := 4) (by omega)
  have b5 := dv_bd ts (k + 5) (n := 1048576) (by omega)
  have hs : 0 ≤ [0, 1, dv ts (k + 3) 20, 65535].getD (dv ts (k + 4) 4).toNat 0 ∧ [0, 1, dv ts (k + 3) 20, 65535].getD (dv ts (k + 4) 4).toNat 0 ≤ 65535 := by
    have : (dv ts (k + 4) 4).toNat = 0 ∨ (dv ts (k + 4) 4).toNat = 1 ∨ (dv ts (k + 4) 4).toNat = 2 ∨ (dv ts (k + 4) 4).toNat = 3 := by omega
    rcases this with h | h | h | h <;> rw [h]
    · show (0 : Int) ≤ 0 ∧ (0 : Int) ≤ 65535; omega
    · show (0 : Int) ≤ 1 ∧ (1 : Int) ≤ 65535; omega
    · show 0 ≤ dv ts (k + 3) 20 ∧ dv ts (k + 3) 20 ≤ 65535; omega
    · show (0 : Int) ≤ 65535 ∧ (65535 : Int) ≤ 65535; omega
  simp only [validS, in8, Bool.or_eq_true, Bool.and_eq_true, decide_eq_true_eq, beq_iff_eq]
  refine .inr ⟨rfl, ?_, ?_, hs, ?_, ?_⟩
  · show 1 ≤ 1 + dv ts (k + 1) 2 ∧ 1 + dv ts (k + 1) 2 ≤ 2; omega
  · show 0 ≤ dv ts (k + 2) 3 ∧ dv ts (k + 2) 3 ≤ 2; omega
  · show 0 ≤ a ∧ a ≤ 1048575; omega
  · show dv ts (k + 5) 1048576 / 1099511627776 = 0; omega
theorem status_x (ts : List Int) (k : Nat) (a : Int) (hl : ts.length ≤ 400) (h0 : 0 ≤ a) (h1 : a < 1048576) :
    ∃ s, FC Try.prog 14 [.o (.c (.p 0 0 0)), int .i64 a] [diceB ts k, diceL ts] (.o (.a (stC s))) [diceB ts (k + 6), diceL ts] ∧ validS s = true ∧ s = dStatus ts k a := ⟨_, status_fc ts k a hl, dStatus_valid ts k a h0 h1, rfl⟩
theorem dStatus_is (ts : List Int) (k : Nat) (a : Int) : (dStatus ts k a).valid = true ∧ ((dStatus ts k a).outcome = 1 ∨ (dStatus ts k a).outcome = 2) := by
  have := dv_bd ts (k + 1) (n := 2) (by omega)
  refine ⟨rfl, ?_⟩
  show 1 + dv ts (k + 1) 2 = 1 ∨ 1 + dv ts (k + 1) 2 = 2
  omega
theorem status_v (ts : List Int) (k : Nat) (a : Int) (hl : ts.length ≤ 400) (h0 : 0 ≤ a) (h1 : a < 1048576) :
    ∃ s, FC Try.prog 14 [.o (.c (.p 0 0 0)), int .i64 a] [diceB ts k, diceL ts] (.o (.a (stC s))) [diceB ts (k + 6), diceL ts] ∧ validS s = true ∧ s.valid = true ∧ (s.outcome = 1 ∨ s.outcome = 2) :=
  ⟨_, status_fc ts k a hl, dStatus_valid ts k a h0 h1, dStatus_is ts k a⟩
theorem oddStatus_x (ts : List Int) (k : Nat) (s : Stt) (hl : ts.length ≤ 400) :
    ∃ p : Stt × Nat, FC Try.prog 43 [.o (.c (.p 0 0 0)), .o (.a (stC s))] [diceB ts k, diceL ts] (.o (.a (stC p.1))) [diceB ts p.2, diceL ts] ∧ True := ⟨(_, _), oddStatus_fc ts k s hl, trivial⟩
end Go.Sx.T1
namespace Go.Sx.T1
open Go.Proofs

structure Pl where
  a : Int
  b : Int
  c : Int
  d : Int
  e : Int
  f : Int
structure Rcd where
  seq : Int
  time : Int
  bank : Int
  st : Stt
  pl : Pl
def plC (p : Pl) : List C := [.v (.int .i64 p.a), .v (.int .i64 p.b), .v (.int .i64 p.c), .v (.int .i64 p.d), .v (.int .i64 p.e), .v (.int .i64 p.f)]
def rcC (r : Rcd) : List C := [.v (.int .i64 r.seq), .v (.int .i64 r.time), .v (.int .i64 r.bank),
  .v (.bool r.st.valid), .v (.bool r.st.overflow), .v (.int .i64 r.st.outcome), .v (.int .i64 r.st.source), .v (.int .i64 r.st.stamp), .v (.int .i64 r.st.address), .v (.int .u64 r.st.chips),
  .v (.int .i64 r.pl.a), .v (.int .i64 r.pl.b), .v (.int .i64 r.pl.c), .v (.int .i64 r.pl.d), .v (.int .i64 r.pl.e), .v (.int .i64 r.pl.f)]
def dPl (ts : List Int) (k : Nat) : Pl := ⟨dv ts k 1, dv ts (k + 1) 2, dv ts (k + 2) 1, dv ts (k + 3) 4, dv ts (k + 4) 8, dv ts (k + 5) 4⟩
set_option maxHeartbeats 3200000 in
set_option maxRecDepth 10000 in
theorem place_fc (ts : List Int) (k : Nat) (hl : ts.length ≤ 400) :
    FC Try.prog 39 [.o (.c (.p 0 0 0)), .o (.a [.v (.int .i64 0), .v (.int .i64 1), .v (.int .i64 0), .v (.int .i64 2), .v (.int .i64 3), .v (.int .i64 2)])] [diceB ts k, diceL ts] (.o (.a (plC (dPl ts k)))) [diceB ts (k + 6), diceL ts] := by
  refine FC.b mix Try.func39 ?_
  repeat (first | refine And.intro (by kernel_rfl) ?_ | refine And.intro (by decide) ?_)
  refine FC.u (next_fc ts k 1 (by omega) hl) [0, 1] ?_
  repeat (first | refine And.intro (by kernel_rfl) ?_ | refine And.intro (by decide) ?_)
  refine FC.u (next_fc ts (k + 1) 2 (by omega) hl) [0, 1] ?_
  repeat (first | refine And.intro (by kernel_rfl) ?_ | refine And.intro (by decide) ?_)
  refine FC.u (next_fc ts (k + 2) 1 (by omega) hl) [0, 1] ?_
  repeat (first | refine And.intro (by kernel_rfl) ?_ | refine And.intro (by decide) ?_)
  refine FC.u (next_fc ts (k + 3) 4 (by omega) hl) [0, 1] ?_
  repeat (first | refine And.intro (by kernel_rfl) ?_ | refine And.intro (by decide) ?_)
  refine FC.u (next_fc ts (k + 4) 8 (by omega) hl) [0, 1] ?_
  repeat (first | refine And.intro (by kernel_rfl) ?_ | refine And.intro (by decide) ?_)
  refine FC.u (next_fc ts (k + 5) 4 (by omega) hl) [0, 1] ?_
  repeat (first | refine And.intro (by kernel_rfl) ?_ | refine And.intro (by decide) ?_)
  exact trivial
def dRc (ts : List Int) (k : Nat) (seq : Int) : Rcd := ⟨seq, dv ts k 1000, dv ts (k + 1) 3, dStatus ts (k + 3) (dv ts (k + 2) 256), dPl ts (k + 9)⟩
set_option maxHeartbeats 3200000 in
set_option maxRecDepth 10000 in
theorem record_fc (ts : List Int) (k : Nat) (seq : Int) (hl : ts.length ≤ 400) :
    FC Try.prog 21 [.o (.c (.p 0 0 0)), int .i64 seq] [diceB ts k, diceL ts] (.o (.a (rcC (dRc ts k seq)))) [diceB ts (k + 15), diceL ts] := by
  refine FC.b mix Try.func21 ?_
  repeat (first | refine And.intro (by kernel_rfl) ?_ | refine And.intro (by decide) ?_)
  refine FC.u (next_fc ts k 1000 (by omega) hl) [0, 1] ?_
  refine FC.u (next_fc ts (k + 1) 3 (by omega) hl) [0, 1] ?_
  refine FC.u (next_fc ts (k + 2) 256 (by omega) hl) [0, 1] ?_
  refine FC.u (status_fc ts (k + 3) _ hl) [0, 1] ?_
  refine FC.u (place_fc ts (k + 9) hl) [0, 1] ?_
  repeat (first | refine And.intro (by kernel_rfl) ?_ | refine And.intro (by decide) ?_)
  exact trivial
end Go.Sx.T1
namespace Go.Sx.T1
open Go.Proofs
def zR : Rcd := ⟨0, 0, 0, zS, ⟨0, 0, 0, 0, 0, 0⟩⟩
def recs (l : List Rcd) (wr : Bool) : Option Blk := some ⟨.rows 16 l.length (fun i => rcC (l.getD i zR)), wr⟩
structure PlV (p : Pl) : Prop where
  a : 0 ≤ p.a ∧ p.a < 8
  b : 0 ≤ p.b ∧ p.b < 8
  c : 0 ≤ p.c ∧ p.c < 8
  d : 0 ≤ p.d ∧ p.d < 8
  e : 0 ≤ p.e ∧ p.e < 8
  f : 0 ≤ p.f ∧ p.f < 8
/-- a record that was made -/
structure RcV (r : Rcd) : Prop where
  seq : 1 ≤ r.seq ∧ r.seq ≤ 100
  time : 0 ≤ r.time ∧ r.time < 1000
  bank : 0 ≤ r.bank ∧ r.bank < 3
  st : validS r.st = true ∧ r.st.valid = true
  pl : PlV r.pl
structure RcG (l : List Rcd) : Prop where
  up : l.Pairwise (fun r s => r.seq < s.seq)
  v : ∀ r ∈ l, RcV r
theorem dRc_v (ts : List Int) (k : Nat) {q : Int} (h : 1 ≤ q ∧ q ≤ 100) : RcV (dRc ts k q) := by
  have d2 := dv_bd ts (k + 2) (n := 256) (by omega)
  have p0 := dv_bd ts (k + 9) (n := 1) (by omega)
  have p1 := dv_bd ts (k + 9 + 1) (n := 2) (by omega)
  have p2 := dv_bd ts (k + 9 + 2) (n := 1) (by omega)
  have p3 := dv_bd ts (k + 9 + 3) (n := 4) (by omega)
  have p4 := dv_bd ts (k + 9 + 4) (n := 8) (by omega)
  have p5 := dv_bd ts (k + 9 + 5) (n := 4) (by omega)
  refine ⟨h, dv_bd ts k (n := 1000) (by omega), dv_bd ts (k + 1) (n := 3) (by omega), ⟨dStatus_valid ts (k + 3) _ d2.1 (by omega), (dStatus_is ts (k + 3) _).1⟩, ?_, ?_, ?_, ?_, ?_, ?_⟩
  · exact ⟨p0.1, by show dv ts (k + 9) 1 < 8; omega⟩
  · exact ⟨p1.1, by show dv ts (k + 9 + 1) 2 < 8; omega⟩
  · exact ⟨p2.1, by show dv ts (k + 9 + 2) 1 < 8; omega⟩
  · exact ⟨p3.1, by show dv ts (k + 9 + 3) 4 < 8; omega⟩
  · exact ⟨p4.1, by show dv ts (k + 9 + 4) 8 < 8; omega⟩
  · exact ⟨p5.1, by show dv ts (k + 9 + 5) 4 < 8; omega⟩
theorem record_x (ts : List Int) (k : Nat) (q : Int) (hl : ts.length ≤ 400) (h : 1 ≤ q ∧ q ≤ 100) :
    ∃ r : Rcd, FC Try.prog 21 [.o (.c (.p 0 0 0)), int .i64 q] [diceB ts k, diceL ts] (.o (.a (rcC r))) [diceB ts (k + 15), diceL ts] ∧ RcV r ∧ r.seq = q :=
  ⟨_, record_fc ts k q hl, dRc_v ts k h, rfl⟩
end Go.Sx.T1
namespace Go.Sx.T1
open Go.Proofs
def Pl.get (p : Pl) (i : Nat) : Int := match i with
  | 0 => p.a
  | 1 => p.b
  | 2 => p.c
  | 3 => p.d
  | 4 => p.e
  | _ => p.f
theorem lt6 {i : Nat} (h : i < 6) : i = 0 ∨ i = 1 ∨ i = 2 ∨ i = 3 ∨ i = 4 ∨ i = 5 := by omega
/-- a record that is valid -/
structure RcOk (r : Rcd) : Prop where
  pl : ∀ j, j < 6 → 0 ≤ r.pl.get j ∧ r.pl.get j ≤ 4095
  seq : 1 ≤ r.seq ∧ r.seq ≤ 4294967296
  time : 0 ≤ r.time ∧ r.time ≤ 1099511627776
  bank : 0 ≤ r.bank ∧ r.bank < 16
  st : validS r.st = true ∧ r.st.valid = true
theorem RcV.ok {r : Rcd} (h : RcV r) : RcOk r :=
  ⟨fun j hj => by
    obtain ⟨a, b, c, d, e, f⟩ := h.pl
    rcases lt6 hj with rfl | rfl | rfl | rfl | rfl | rfl <;> simp only [Pl.get] <;> omega, by have := h.seq; omega, by have := h.time; omega, by have := h.bank; omega, h.st⟩
def rcB (r : Rcd) : Option Blk := some ⟨.box (rcC r), true⟩
def numB : Option Blk := some ⟨.rows 1 6 (fun i => [.p 0 0 (10 + i)]), true⟩
set_option maxHeartbeats 3200000 in
set_option maxRecDepth 10000 in
theorem numbers_fc (r : Rcd) : FC Try.prog 47 [.o (.c (.p 0 0 10))] [rcB r] (.o (.c (.s 1 0 6 1))) [rcB r, numB] := by
  refine FC.one (FC.r mix Try.func47 ?_)
  repeat (first | refine And.intro (by kernel_rfl) ?_ | refine And.intro (by decide) ?_)
  refine ⟨(), trivial, .id rfl ⟨.inl rfl, leB.rows (Nat.le_refl _) (fun j hj => ?_) id, trivial⟩⟩
  have hj' : j < 6 := hj
  rcases lt6 hj' with rfl | rfl | rfl | rfl | rfl | rfl <;> rfl
set_option maxHeartbeats 3200000 in
set_option maxRecDepth 10000 in
theorem recValid_fc (r : Rcd) : ∃ b : Bool, FC Try.prog 29 [.o (.a (rcC r))] [] (boo b) [] ∧ (b = true ↔ RcOk r) := by
  refine FC.rj mix Try.func29 ?_
  repeat (first | refine And.intro (by kernel_rfl) ?_ | refine And.intro (by decide) ?_)
  refine FC.u (numbers_fc r) [0] ?_
  refine ALoop.go (X := Nat) (fun i => i ≤ 6 ∧ ∀ j, j < i → 0 ≤ r.pl.get j ∧ r.pl.get j ≤ 4095) (fun i => 6 - i) [1, 6, 7] [0, 1] (fun i => [(8, int .i64 i)])
    (fun _ => []) 0 ⟨Nat.zero_le _, fun j h => absurd h (Nat.not_lt_zero _)⟩ ⟨rfl, trivial⟩ trivial ?_
  rintro i ⟨hi, ha⟩
  dsimp only [headF, headM]
  refine bselD (fun h => ?_) (fun h => ?_)
  · have h' : i < 6 := by have : (i : Int) < 6 := h; omega
    have wi : IntKind.i64.wrap ((i : Int) + 1) = ((i + 1 : Nat) : Int) := wrap64_in (by omega) (by omega)
    have bad : (0 ≤ r.pl.get i ∧ r.pl.get i ≤ 4095 → False) → (false = true ↔ RcOk r) := fun hb => ⟨fun h => (by cases h), fun v => (hb (v.pl i h')).elim⟩
    have nxt : 0 ≤ r.pl.get i ∧ r.pl.get i ≤ 4095 → ∀ j, j < i + 1 → 0 ≤ r.pl.get j ∧ r.pl.get j ≤ 4095 := fun h j hj => by
      rcases Nat.lt_or_ge j i with h' | h'
      · exact ha j h'
      · obtain rfl : j = i := by omega
        exact h
    repeat refine AJoin.plain ?_
    rcases lt6 h' with rfl | rfl | rfl | rfl | rfl | rfl <;>
    · repeat (first | refine And.intro (by kernel_rfl) ?_ | refine And.intro (by decide) ?_)
      refine bselD (fun c1 => ?_) (fun c1 => bselD (fun c2 => ?_) (fun c2 => ?_))
      · exact ⟨false, bad fun h => by have c1' := c1; exact absurd h.1 (Int.not_le.2 c1'), .id rfl trivial⟩
      · exact ⟨false, bad fun h => by have c2' := c2; exact absurd c2' (Int.not_lt.2 h.2), .id rfl trivial⟩
      · exact ⟨_, ⟨⟨by decide, nxt ⟨Int.not_lt.1 c1, Int.not_lt.1 c2⟩⟩, by decide⟩, .id ⟨congrArg (int .i64) wi, trivial⟩ rfl trivial rfl⟩
  · obtain rfl : i = 6 := by have : ¬ (i : Int) < 6 := h; omega
    have no : (RcOk r → False) → (false = true ↔ RcOk r) := fun hb => ⟨fun h => (by cases h), fun v => (hb v).elim⟩
    repeat (first | refine And.intro (by kernel_rfl) ?_ | refine And.intro (by decide) ?_)
    refine bselD (fun c1 => ?_) (fun c1 => ?_)
    rotate_left
    · exact ⟨false, no fun v => c1 v.seq.1, .id rfl trivial⟩
    refine bselD (fun c2 => ?_) (fun c2 => ?_)
    rotate_left
    · exact ⟨false, no fun v => c2 v.seq.2, .id rfl trivial⟩
    refine bselD (fun c3 => ?_) (fun c3 => ?_)
    rotate_left
    · exact ⟨false, no fun v => c3 v.time.1, .id rfl trivial⟩
    refine bselD (fun c4 => ?_) (fun c4 => ?_)
    rotate_left
    · exact ⟨false, no fun v => c4 v.time.2, .id rfl trivial⟩
    refine bselD (fun c5 => ?_) (fun c5 => ?_)
    rotate_left
    · exact ⟨false, no fun v => c5 v.bank.1, .id rfl trivial⟩
    refine bselD (fun c6 => ?_) (fun c6 => ?_)
    rotate_left
    · exact ⟨false, no fun v => c6 v.bank.2, .id rfl trivial⟩
    refine FC.u (valid_fc r.st) [] ?_
    refine bsel_intro (fun c7 => ?_) (fun c7 => ?_)
    rotate_left
    · exact ⟨false, no (fun v => by rw [v.st.1] at c7; cases c7), .id rfl trivial⟩
    refine ⟨r.st.valid, ⟨fun h => ⟨ha, ⟨c1, c2⟩, ⟨c3, c4⟩, ⟨c5, c6⟩, c7, h⟩, fun v => v.st.2⟩, .id rfl trivial⟩
set_option maxHeartbeats 3200000 in
set_option maxRecDepth 10000 in
theorem numR_fc (p : Pl) : FC Try.prog 42 [.o (.a (plC p))] [] (.o (.a (plC p))) [] := by
  refine FC.one (FC.r mix Try.func42 ?_)
  repeat (first | refine And.intro (by kernel_rfl) ?_ | refine And.intro (by decide) ?_)
  exact ⟨(), trivial, .id rfl trivial⟩
set_option maxHeartbeats 3200000 in
set_option maxRecDepth 10000 in
theorem refValid_fc (r : Rcd) : ∃ b : Bool, FC Try.prog 35 [.o (.a (rcC r))] [] (boo b) [] ∧ (b = true ↔ RcOk r) := by
  refine FC.rj mix Try.func35 ?_
  have no : (RcOk r → False) → (false = true ↔ RcOk r) := fun hb => ⟨fun h => (by cases h), fun v => (hb v).elim⟩
  repeat (first | refine And.intro (by kernel_rfl) ?_ | refine And.intro (by decide) ?_)
  refine bselD (fun c1 => ?_) (fun c1 => ?_)
  · exact ⟨false, no (fun v => (Int.not_lt.2 v.seq.1) c1), .id rfl trivial⟩
  refine bselD (fun c2 => ?_) (fun c2 => ?_)
  · exact ⟨false, no (fun v => (Int.not_lt.2 v.seq.2) c2), .id rfl trivial⟩
  refine bselD (fun c3 => ?_) (fun c3 => ?_)
  · exact ⟨false, no (fun v => (Int.not_lt.2 v.time.1) c3), .id rfl trivial⟩
  refine bselD (fun c4 => ?_) (fun c4 => ?_)
  · exact ⟨false, no (fun v => (Int.not_lt.2 v.time.2) c4), .id rfl trivial⟩
  refine bselD (fun c5 => ?_) (fun c5 => ?_)
  · exact ⟨false, no (fun v => (Int.not_lt.2 v.bank.1) c5), .id rfl trivial⟩
  refine bselD (fun c6 => ?_) (fun c6 => ?_)
  · exact ⟨false, no (fun v => (Int.not_le.2 v.bank.2) c6), .id rfl trivial⟩
  refine FC.u (validR_fc r.st) [] ?_
  refine bselNot (bsel_intro (fun c7 => ?_) (fun c7 => ?_))
  rotate_left
  · exact ⟨false, no (fun v => by rw [v.st.1] at c7; cases c7), .id rfl trivial⟩
  refine bselNot (bsel_intro (fun c8 => ?_) (fun c8 => ?_))
  rotate_left
  · exact ⟨false, no (fun v => by rw [v.st.2] at c8; cases c8), .id rfl trivial⟩
  repeat (first | refine And.intro (by kernel_rfl) ?_ | refine And.intro (by decide) ?_)
  refine FC.u (numR_fc r.pl) [] ?_
  refine ALoop.go (X := Nat) (fun i => i ≤ 6 ∧ ∀ j, j < i → 0 ≤ r.pl.get j ∧ r.pl.get j ≤ 4095) (fun i => 6 - i) [3] [1] (fun i => [(4, int .i64 i)])
    (fun _ => []) 0 ⟨Nat.zero_le _, fun j h => absurd h (Nat.not_lt_zero _)⟩ ⟨rfl, trivial⟩ trivial ?_
  rintro i ⟨hi, ha⟩
  dsimp only [headF, headM]
  refine bselD (fun h => ?_) (fun h => ?_)
  · have h' : i < 6 := by have : (i : Int) < 6 := h; omega
    have wi : IntKind.i64.wrap ((i : Int) + 1) = ((i + 1 : Nat) : Int) := wrap64_in (by omega) (by omega)
    have bad : (0 ≤ r.pl.get i ∧ r.pl.get i ≤ 4095 → False) → (false = true ↔ RcOk r) := fun hb => ⟨fun h => (by cases h), fun v => (hb (v.pl i h')).elim⟩
    have nxt : 0 ≤ r.pl.get i ∧ r.pl.get i ≤ 4095 → ∀ j, j < i + 1 → 0 ≤ r.pl.get j ∧ r.pl.get j ≤ 4095 := fun h j hj => by
      rcases Nat.lt_or_ge j i with h' | h'
      · exact ha j h'
      · obtain rfl : j = i := by omega
        exact h
    repeat refine AJoin.plain ?_
    rcases lt6 h' with rfl | rfl | rfl | rfl | rfl | rfl <;>
    · repeat (first | refine And.intro (by kernel_rfl) ?_ | refine And.intro (by decide) ?_)
      refine bselD (fun d1 => ?_) (fun d1 => ?_)
      · exact ⟨false, bad fun h => by have d1' := d1; exact absurd h.1 (Int.not_le.2 d1'), .id rfl trivial⟩
      repeat (first | refine And.intro (by kernel_rfl) ?_ | refine And.intro (by decide) ?_)
      refine bselD (fun d2 => ?_) (fun d2 => ?_)
      · exact ⟨false, bad fun h => by have d2' := d2; exact absurd d2' (Int.not_lt.2 h.2), .id rfl trivial⟩
      · exact ⟨_, ⟨⟨by decide, nxt ⟨Int.not_lt.1 d1, Int.not_lt.1 d2⟩⟩, by decide⟩, .id ⟨congrArg (int .i64) wi, trivial⟩ rfl trivial rfl⟩
  · obtain rfl : i = 6 := by have : ¬ (i : Int) < 6 := h; omega
    repeat (first | refine And.intro (by kernel_rfl) ?_ | refine And.intro (by decide) ?_)
    exact ⟨true, ⟨fun _ => ⟨ha, ⟨by omega, by omega⟩, ⟨by omega, by omega⟩, ⟨by omega, by omega⟩, c7, c8⟩, fun _ => rfl⟩, .id rfl trivial⟩
end Go.Sx.T1
namespace Go.Sx.T1
open Go.Proofs
set_option maxRecDepth 10000 in
theorem bit_fc (c : Bool) (n : Nat) (hn : n < 64) : FC Try.prog 80 [boo c, int .i64 n] [] (int .u64 (cond c ((2 ^ n : Nat) : Int) 0)) [] := by
  refine FC.b mix Try.func80 ?_
  refine bsel_intro (fun h => ?_) (fun h => ?_)
  · refine And.intro (by omega) ?_
    refine ⟨congrArg (int .u64) ?_, trivial⟩
    have e : min (n : Int).toNat IntKind.u64.bits = n := by show min (n : Int).toNat 64 = n; omega
    have hp : 2 ^ n < 18446744073709551616 := by exact Nat.pow_lt_pow_right (by omega) hn
    rw [e, h, show (1 : Int) = ((1 : Nat) : Int) from rfl, shl_u64, Nat.one_mul, Nat.mod_eq_of_lt hp]
    rfl
  · subst h; exact ⟨rfl, trivial⟩

theorem word4 {st ad so ou : Nat} (h1 : st ≤ 65535) (h2 : ad < 1048576) (h3 : so ≤ 2) (h4 : ou ≤ 2) :
    bitI .or .u64 (bitI .or .u64 (bitI .or .u64 (IntKind.u64.wrap (st : Int)) (IntKind.u64.wrap (IntKind.u64.wrap (ad : Int) * 2 ^ min (Int.toNat 16) IntKind.u64.bits)))
      (IntKind.u64.wrap (IntKind.u64.wrap (so : Int) * 2 ^ min (Int.toNat 58) IntKind.u64.bits)))
      (IntKind.u64.wrap (IntKind.u64.wrap (ou : Int) * 2 ^ min (Int.toNat 60) IntKind.u64.bits)) = ((st + ad * 2 ^ 16 + so * 2 ^ 58 + ou * 2 ^ 60 : Nat) : Int) := by
  have e1 : min (Int.toNat 16) IntKind.u64.bits = 16 := rfl
  have e2 : min (Int.toNat 58) IntKind.u64.bits = 58 := rfl
  have e3 : min (Int.toNat 60) IntKind.u64.bits = 60 := rfl
  rw [e1, e2, e3]
  simp only [wrap_u64_nat, shl_u64]
  rw [Nat.mod_eq_of_lt (a := st) (by omega), Nat.mod_eq_of_lt (a := ad) (by omega), Nat.mod_eq_of_lt (a := so) (by omega), Nat.mod_eq_of_lt (a := ou) (by omega),
    Nat.mod_eq_of_lt (a := ad * 2 ^ 16) (by omega), Nat.mod_eq_of_lt (a := so * 2 ^ 58) (by omega), Nat.mod_eq_of_lt (a := ou * 2 ^ 60) (by omega)]
  rw [or_u64 (by omega) (by omega), or_add (by omega), or_u64 (by omega) (by omega), or_add (by omega), or_u64 (by omega) (by omega), or_add (by omega)]
theorem word1 {a k : Nat} (c : Bool) (h : a < 2 ^ k) (hk : k < 64) : bitI .or .u64 (a : Int) (cond c ((2 ^ k : Nat) : Int) 0) = ((a + cond c (2 ^ k) 0 : Nat) : Int) := by
  have hp : 2 ^ k < 18446744073709551616 := by exact Nat.pow_lt_pow_right (by omega) hk
  cases c with
  | true =>
    show bitI .or .u64 (a : Int) ((2 ^ k : Nat) : Int) = _
    rw [or_u64 (by omega) hp]
    have := or_add (b := 1) h
    rw [Nat.one_mul] at this
    rw [this]; rfl
  | false =>
    show bitI .or .u64 (a : Int) ((0 : Nat) : Int) = _
    rw [or_u64 (by omega) (by omega), Nat.or_zero]; rfl

structure Stt.Fits (s : Stt) : Prop where
  st : 0 ≤ s.stamp ∧ s.stamp ≤ 65535
  ad : 0 ≤ s.address ∧ s.address < 1048576
  so : 0 ≤ s.source ∧ s.source ≤ 2
  ou : 0 ≤ s.outcome ∧ s.outcome ≤ 2
def wordS (s : Stt) : Nat := s.stamp.toNat + s.address.toNat * 2 ^ 16 + s.source.toNat * 2 ^ 58 + s.outcome.toNat * 2 ^ 60 + cond s.overflow (2 ^ 62) 0 + cond s.valid (2 ^ 63) 0

theorem word_eq (s : Stt) (hs : s.Fits) : bitI .or .u64 (bitI .or .u64 (bitI .or .u64 (bitI .or .u64 (bitI .or .u64 (IntKind.u64.wrap s.stamp) (IntKind.u64.wrap (IntKind.u64.wrap s.address * 2 ^ min (Int.toNat 16) IntKind.u64.bits)))
      (IntKind.u64.wrap (IntKind.u64.wrap s.source * 2 ^ min (Int.toNat 58) IntKind.u64.bits)))
      (IntKind.u64.wrap (IntKind.u64.wrap s.outcome * 2 ^ min (Int.toNat 60) IntKind.u64.bits))) (cond s.overflow ((2 ^ 62 : Nat) : Int) 0)) (cond s.valid ((2 ^ 63 : Nat) : Int) 0) = (wordS s : Nat) := by
  obtain ⟨v, o, ou, so, st, ad, ch⟩ := s
  obtain ⟨⟨a1, a2⟩, ⟨b1, b2⟩, ⟨c1, c2⟩, d1, d2⟩ := hs
  simp only at a1 a2 b1 b2 c1 c2 d1 d2
  obtain ⟨ou, rfl⟩ := Int.eq_ofNat_of_zero_le d1
  obtain ⟨so, rfl⟩ := Int.eq_ofNat_of_zero_le c1
  obtain ⟨st, rfl⟩ := Int.eq_ofNat_of_zero_le a1
  obtain ⟨ad, rfl⟩ := Int.eq_ofNat_of_zero_le b1
  simp only
  have ho : cond o (2 ^ 62) 0 ≤ 4611686018427387904 := by cases o <;> decide
  rw [word4 (by omega) (by omega) (by omega) (by omega), word1 (k := 62) _ (by omega) (by omega), word1 (k := 63) _ (by omega) (by omega)]
  rfl

set_option maxRecDepth 10000 in
theorem word_fc (s : Stt) (hs : s.Fits) : FC Try.prog 66 [.o (.a (stC s))] [] (int .u64 (wordS s : Nat)) [] := by
  refine FC.b mix Try.func66 ?_
  refine And.intro (by decide) (And.intro (by decide) (And.intro (by decide) ?_))
  refine FC.u (bit_fc s.overflow 62 (by omega)) [] ?_
  refine FC.u (bit_fc s.valid 63 (by omega)) [] ?_
  refine And.intro (by kernel_rfl) ?_
  exact ⟨congrArg (int .u64) (word_eq s hs), trivial⟩

end Go.Sx.T1
namespace Go.Sx.T1
open Go.Proofs
def wordP (s : Stt) : SV × SV × SV := if validS s then (int .u64 (wordS s : Nat), int .u64 s.chips, int .i64 0) else (int .u64 0, int .u64 0, int .i64 1)
theorem validS_fits {s : Stt} (h : validS s = true) : s.Fits := by
  simp only [validS, in8, Bool.or_eq_true, Bool.and_eq_true, decide_eq_true_eq] at h
  rcases h with h | h
  · rw [eqS_iff] at h; subst h
    exact ⟨⟨by decide, by decide⟩, ⟨by decide, by decide⟩, ⟨by decide, by decide⟩, by decide, by decide⟩
  · exact ⟨h.2.2.2.1, by omega, h.2.2.1, by omega, by omega⟩
def packA (s : Stt) : Int := cond (validS s) (wordS s : Nat) 0
def packB (s : Stt) : Int := cond (validS s) s.chips 0
def packE (s : Stt) : Int := cond (validS s) 0 1
def tup3 (a b c : Int) : SV := .t [.c (.v (.int .u64 a)), .c (.v (.int .u64 b)), .c (.v (.int .i64 c))]
set_option maxRecDepth 10000 in
theorem pack_fc (s : Stt) : FC Try.prog 44 [.o (.a (stC s))] [] (tup3 (packA s) (packB s) (packE s)) [] := by
  refine FC.b mix Try.func44 ?_
  refine FC.u (valid_fc s) [] ?_
  refine bselNot ?_
  refine bsel_intro (fun h => ?_) (fun h => ?_)
  · refine FC.u (word_fc s (validS_fits h)) [] ?_
    refine And.intro (by kernel_rfl) ?_
    exact ⟨show tup3 _ _ _ = _ by simp only [packA, packB, packE, h, cond], trivial⟩
  · exact ⟨show tup3 _ _ _ = _ by simp only [packA, packB, packE, h, cond], trivial⟩
set_option maxRecDepth 10000 in
theorem packR_fc (s : Stt) : FC Try.prog 40 [.o (.a (stC s))] [] (tup3 (packA s) (packB s) (packE s)) [] := by
  refine FC.b mix Try.func40 ?_
  refine FC.u (validR_fc s) [] ?_
  refine bselNot ?_
  refine bsel_intro (fun h => ?_) (fun h => ?_)
  · refine And.intro (by decide) (And.intro (by decide) (And.intro (by decide) ?_))
    refine bsel_intro (fun h1 => ?_) (fun h1 => ?_)
    all_goals refine bsel_intro (fun h2 => ?_) (fun h2 => ?_)
    all_goals refine And.intro (by kernel_rfl) ?_
    all_goals refine ⟨show tup3 _ _ _ = _ from ?_, trivial⟩
    all_goals simp only [packA, packB, packE, h, cond, ← word_eq s (validS_fits h), h1, h2, or_zero_u64]
    all_goals rfl
  · exact ⟨show tup3 _ _ _ = _ by simp only [packA, packB, packE, h, cond], trivial⟩
end Go.Sx.T1
namespace Go.Sx.T1
open Go.Proofs
def uR (a b : Int) : Stt := ⟨a.fdiv (2 ^ min (Int.toNat 63) IntKind.u64.bits) == 1, bitI BinOp.and IntKind.u64 (a.fdiv (2 ^ min (Int.toNat 62) IntKind.u64.bits)) 1 == 1,
  IntKind.i64.wrap (bitI BinOp.and IntKind.u64 (a.fdiv (2 ^ min (Int.toNat 60) IntKind.u64.bits)) 3), IntKind.i64.wrap (bitI BinOp.and IntKind.u64 (a.fdiv (2 ^ min (Int.toNat 58) IntKind.u64.bits)) 3),
  IntKind.i64.wrap (bitI BinOp.and IntKind.u64 a 65535), IntKind.i64.wrap (bitI BinOp.and IntKind.u64 (a.fdiv (2 ^ min (Int.toNat 16) IntKind.u64.bits)) 16777215), b⟩
def okU (a b : Int) : Bool := validS (uR a b) && ((wordS (uR a b) : Int) == a)
def unA (a b : Int) : Stt := cond (okU a b) (uR a b) zS
def unE (a b : Int) : Int := cond (okU a b) 0 12
def tupU (s : Stt) (e : Int) : SV := .t [.a (stC s), .c (.v (.int .i64 e))]
set_option maxRecDepth 10000 in
theorem unpack_fc (a b : Int) : FC Try.prog 52 [int .u64 a, int .u64 b] [] (tupU (unA a b) (unE a b)) [] := by
  refine FC.b mix Try.func52 ?_
  refine And.intro (by decide) (And.intro (by decide) (And.intro (by decide) (And.intro (by decide) (And.intro (by decide) ?_))))
  refine FC.u (valid_fc (uR a b)) [] ?_
  refine bsel_intro (fun h => ?_) (fun h => ?_)
  · replace h : validS (uR a b) = false := by simpa using h
    exact ⟨show tupU zS 12 = tupU (unA a b) (unE a b) by simp only [unA, unE, okU, h, cond, Bool.false_and], trivial⟩
  · replace h : validS (uR a b) = true := by simpa using h
    refine FC.u (word_fc (uR a b) (validS_fits h)) [] ?_
    refine bselN (fun h2 => ?_) (fun h2 => ?_)
    · exact ⟨show tupU zS 12 = tupU (unA a b) (unE a b) by simp only [unA, unE, okU, h, cond, Bool.true_and, beq_eq_false_iff_ne.2 h2], trivial⟩
    · exact ⟨show tupU (uR a b) 0 = tupU (unA a b) (unE a b) by simp only [unA, unE, okU, h, cond, Bool.true_and, beq_iff_eq.2 h2], trivial⟩
set_option maxRecDepth 10000 in
theorem unpackR_fc (a b : Int) : FC Try.prog 64 [int .u64 a, int .u64 b] [] (tupU (unA a b) (unE a b)) [] := by
  refine FC.b mix Try.func64 ?_
  refine And.intro (by decide) (And.intro (by decide) (And.intro (by decide) (And.intro (by decide) (And.intro (by decide) ?_))))
  refine FC.u (packR_fc (uR a b)) [] ?_
  refine bsel_intro (fun h => ?_) (fun h => ?_)
  · have hv : validS (uR a b) = false := by
      cases hv : validS (uR a b) with
      | false => rfl
      | true => simp [packE, hv] at h
    exact ⟨show tupU zS 12 = tupU (unA a b) (unE a b) by simp only [unA, unE, okU, hv, cond, Bool.false_and], trivial⟩
  have hv : validS (uR a b) = true := by
    cases hv : validS (uR a b) with
    | false => simp [packE, hv] at h
    | true => rfl
  have eA : packA (uR a b) = (wordS (uR a b) : Int) := by simp only [packA, hv, cond]
  have eB : packB (uR a b) = b := by simp only [packB, hv, cond]; rfl
  refine bselN (fun h2 => ?_) (fun h2 => ?_)
  · rw [eA] at h2
    exact ⟨show tupU zS 12 = tupU (unA a b) (unE a b) by simp only [unA, unE, okU, hv, cond, Bool.true_and, beq_eq_false_iff_ne.2 h2], trivial⟩
  rw [eA] at h2
  refine bselN (fun h3 => absurd eB h3) (fun h3 => ?_)
  exact ⟨show tupU (uR a b) 0 = tupU (unA a b) (unE a b) by simp only [unA, unE, okU, hv, cond, Bool.true_and, beq_iff_eq.2 h2], trivial⟩
end Go.Sx.T1
namespace Go.Sx.T1
theorem wordS_num (s : Stt) : wordS s = s.stamp.toNat + s.address.toNat * 65536 + s.source.toNat * 288230376151711744 + s.outcome.toNat * 1152921504606846976 + cond s.overflow 4611686018427387904 0 + cond s.valid 9223372036854775808 0 := by
  simp only [wordS, Nat.reducePow]
theorem dig {k a b a' b' : Nat} (ha : a < k) (ha' : a' < k) (h : a + b * k = a' + b' * k) : a = a' ∧ b = b' := by
  have h1 := congrArg (· % k) h
  simp only [Nat.add_mul_mod_self_right, Nat.mod_eq_of_lt ha, Nat.mod_eq_of_lt ha'] at h1
  subst h1
  exact ⟨rfl, Nat.eq_of_mul_eq_mul_right (by omega) (Nat.add_left_cancel h)⟩
theorem cond01 (b : Bool) (n : Nat) : cond b n 0 = cond b 1 0 * n := by cases b <;> simp
theorem wordS_dig (s : Stt) : wordS s = s.stamp.toNat + (s.address.toNat + (s.source.toNat + (s.outcome.toNat + (cond s.overflow 1 0 + cond s.valid 1 0 * 2) * 4) * 4) * 4398046511104) * 65536 := by
  rw [wordS_num, cond01 s.overflow, cond01 s.valid]
  simp only [Nat.add_mul, Nat.mul_assoc, Nat.reduceMul, ← Nat.add_assoc]
theorem bit_lt (b : Bool) : cond b 1 0 < 2 := by cases b <;> decide
theorem bit_inj {b c : Bool} (h : cond b 1 0 = cond c 1 0) : b = c := by cases b <;> cases c <;> simp_all
theorem wordS_inj {s t : Stt} (hs : s.Fits) (ht : t.Fits) (h : wordS s = wordS t) : s.valid = t.valid ∧ s.overflow = t.overflow ∧ s.outcome = t.outcome ∧ s.source = t.source ∧ s.stamp = t.stamp ∧ s.address = t.address := by
  obtain ⟨⟨a1, a2⟩, ⟨b1, b2⟩, ⟨c1, c2⟩, d1, d2⟩ := hs
  obtain ⟨⟨e1, e2⟩, ⟨f1, f2⟩, ⟨g1, g2⟩, i1, i2⟩ := ht
  have s1 : s.stamp.toNat < 65536 := by clear h; omega
  have t1 : t.stamp.toNat < 65536 := by clear h; omega
  have s2 : s.address.toNat < 4398046511104 := by clear h; omega
  have t2 : t.address.toNat < 4398046511104 := by clear h; omega
  have s3 : s.source.toNat < 4 := by clear h; omega
  have t3 : t.source.toNat < 4 := by clear h; omega
  have s4 : s.outcome.toNat < 4 := by clear h; omega
  have t4 : t.outcome.toNat < 4 := by clear h; omega
  rw [wordS_dig, wordS_dig] at h
  obtain ⟨h1, h⟩ := dig s1 t1 h
  obtain ⟨h2, h⟩ := dig s2 t2 h
  obtain ⟨h3, h⟩ := dig s3 t3 h
  obtain ⟨h4, h⟩ := dig s4 t4 h
  obtain ⟨h5, h6⟩ := dig (bit_lt _) (bit_lt _) h
  clear h s1 t1 s2 t2 s3 t3 s4 t4
  refine ⟨bit_inj h6, bit_inj h5, ?_, ?_, ?_, ?_⟩ <;> clear h5 h6 <;> omega
theorem word_law {x y : Stt} (hx : validS x = true) (hy : validS y = true) {wx wy : Int} (ex : wx = (wordS x : Nat)) (ey : wy = (wordS y : Nat)) :
    (wx = wy → ((x.chips == y.chips) == eqS x y) = true) ∧ (wx ≠ wy → (false == eqS x y) = true) := by
  constructor
  · intro h
    have h' : wordS x = wordS y := by omega
    obtain ⟨h1, h2, h3, h4, h5, h6⟩ := wordS_inj (validS_fits hx) (validS_fits hy) h'
    simp [eqS, h1, h2, h3, h4, h5, h6]
  · intro h
    cases he : eqS x y with
    | false => rfl
    | true =>
      rw [eqS_iff] at he
      subst he
      omega
end Go.Sx.T1
namespace Go.Sx.T1
theorem and_m {a m k : Nat} (e : m = 2 ^ k - 1) (ha : a < 18446744073709551616) (hm : m < 18446744073709551616) : bitI .and .u64 (a : Int) (m : Int) = ((a % 2 ^ k : Nat) : Int) := by
  rw [and_u64 ha hm, e, and_mask]
theorem w64 {n : Nat} (h : n < 9223372036854775808) : IntKind.i64.wrap (n : Int) = n := wrap64_in (by omega) (by omega)
theorem uR_nat (a : Nat) (b : Int) (ha : a < 18446744073709551616) : uR a b = ⟨((a / 9223372036854775808 : Nat) : Int) == 1, ((a / 4611686018427387904 % 2 : Nat) : Int) == 1,
    ((a / 1152921504606846976 % 4 : Nat) : Int), ((a / 288230376151711744 % 4 : Nat) : Int), ((a % 65536 : Nat) : Int), ((a / 65536 % 16777216 : Nat) : Int), b⟩ := by
  have e63 : min (Int.toNat 63) IntKind.u64.bits = 63 := rfl
  have e62 : min (Int.toNat 62) IntKind.u64.bits = 62 := rfl
  have e60 : min (Int.toNat 60) IntKind.u64.bits = 60 := rfl
  have e58 : min (Int.toNat 58) IntKind.u64.bits = 58 := rfl
  have e16 : min (Int.toNat 16) IntKind.u64.bits = 16 := rfl
  have lt : ∀ k, a / k < 18446744073709551616 := fun k => Nat.lt_of_le_of_lt (Nat.div_le_self a k) ha
  have ml : ∀ x m : Nat, 0 < m → m ≤ 16777216 → x % m < 9223372036854775808 := fun x m h h2 => Nat.lt_of_lt_of_le (Nat.mod_lt x h) (by omega)
  unfold uR
  rw [e63, e62, e60, e58, e16, fdiv_nat, fdiv_nat, fdiv_nat, fdiv_nat, fdiv_nat,
    show (1 : Int) = ((1 : Nat) : Int) from rfl, show (3 : Int) = ((3 : Nat) : Int) from rfl, show (65535 : Int) = ((65535 : Nat) : Int) from rfl, show (16777215 : Int) = ((16777215 : Nat) : Int) from rfl,
    and_m (k := 1) rfl (lt _) (by omega), and_m (k := 2) rfl (lt _) (by omega), and_m (k := 2) rfl (lt _) (by omega), and_m (k := 16) rfl ha (by omega), and_m (k := 24) rfl (lt _) (by omega),
    w64 (ml _ _ (by decide) (by decide)), w64 (ml _ _ (by decide) (by decide)), w64 (ml _ _ (by decide) (by decide)), w64 (ml _ _ (by decide) (by decide))]

theorem dv_lo {k a b : Nat} (h : a < k) : (a + b * k) / k = b := by rw [Nat.add_mul_div_right _ _ (by omega), Nat.div_eq_of_lt h, Nat.zero_add]
theorem md_lo {k a b : Nat} (h : a < k) : (a + b * k) % k = a := by rw [Nat.add_mul_mod_self_right, Nat.mod_eq_of_lt h]
theorem wordS_read (s : Stt) (hs : s.Fits) : wordS s % 65536 = s.stamp.toNat ∧ wordS s / 65536 % 16777216 = s.address.toNat ∧ wordS s / 288230376151711744 % 4 = s.source.toNat ∧ wordS s / 1152921504606846976 % 4 = s.outcome.toNat ∧
    wordS s / 4611686018427387904 % 2 = cond s.overflow 1 0 ∧ wordS s / 9223372036854775808 = cond s.valid 1 0 ∧ wordS s < 18446744073709551616 := by
  obtain ⟨⟨a1, a2⟩, ⟨b1, b2⟩, ⟨c1, c2⟩, d1, d2⟩ := hs
  have hd := wordS_dig s
  have hn := wordS_num s
  have ho := bit_lt s.overflow
  have hv := bit_lt s.valid
  generalize cond s.overflow 1 0 = o at *
  generalize cond s.valid 1 0 = v at *
  generalize hst : s.stamp.toNat = st at *
  generalize had : s.address.toNat = ad at *
  generalize hso : s.source.toNat = so at *
  generalize hou : s.outcome.toNat = ou at *
  have st_lt : st < 65536 := by omega
  have ad_lt : ad < 4398046511104 := by omega
  have so_lt : so < 4 := by omega
  have ou_lt : ou < 4 := by omega
  have ad_lt2 : ad < 1048576 := by omega
  clear hn hst had hso hou a1 a2 b1 c1 c2 d1 d2
  have h16 : wordS s / 65536 = ad + (so + (ou + (o + v * 2) * 4) * 4) * 4398046511104 := by rw [hd, dv_lo st_lt]
  have h58 : wordS s / 288230376151711744 = so + (ou + (o + v * 2) * 4) * 4 := by
    rw [show 288230376151711744 = 65536 * 4398046511104 from rfl, ← Nat.div_div_eq_div_mul, h16, dv_lo ad_lt]
  have h60 : wordS s / 1152921504606846976 = ou + (o + v * 2) * 4 := by
    rw [show 1152921504606846976 = 288230376151711744 * 4 from rfl, ← Nat.div_div_eq_div_mul, h58, dv_lo so_lt]
  have h62 : wordS s / 4611686018427387904 = o + v * 2 := by
    rw [show 4611686018427387904 = 1152921504606846976 * 4 from rfl, ← Nat.div_div_eq_div_mul, h60, dv_lo ou_lt]
  have h63 : wordS s / 9223372036854775808 = v := by
    rw [show 9223372036854775808 = 4611686018427387904 * 2 from rfl, ← Nat.div_div_eq_div_mul, h62, dv_lo ho]
  refine ⟨by rw [hd, md_lo st_lt], ?_, by rw [h58, md_lo so_lt], by rw [h60, md_lo ou_lt], by rw [h62, md_lo ho], h63, ?_⟩
  · rw [h16, show ∀ X : Nat, X * 4398046511104 = X * 262144 * 16777216 from fun X => by rw [Nat.mul_assoc], Nat.add_mul_mod_self_right, Nat.mod_eq_of_lt]
    omega
  · have := Nat.div_add_mod (wordS s) 9223372036854775808
    have := Nat.mod_lt (wordS s) (show 0 < 9223372036854775808 by decide)
    omega
theorem cond_eq1 (b : Bool) : (((cond b 1 0 : Nat) : Int) == 1) = b := by cases b <;> rfl
theorem uR_word (s : Stt) (hs : s.Fits) : uR (wordS s : Nat) s.chips = s := by
  obtain ⟨h1, h2, h3, h4, h5, h6, h7⟩ := wordS_read s hs
  rw [uR_nat _ _ h7, h1, h2, h3, h4, h5, h6, cond_eq1, cond_eq1, Int.toNat_of_nonneg hs.st.1, Int.toNat_of_nonneg hs.ad.1, Int.toNat_of_nonneg hs.so.1, Int.toNat_of_nonneg hs.ou.1]
theorem unpack_same {s : Stt} (h : validS s = true) {w : Int} (hw : w = (wordS s : Nat)) : FC Go.Proofs.Try.prog 52 [int .u64 w, int .u64 s.chips] [] (tupU s 0) [] := by
  have := unpack_fc w s.chips
  have e := uR_word s (validS_fits h)
  rw [← hw] at e
  simp only [unA, unE, okU, e, h, ← hw, beq_self_eq_true, Bool.and_self, cond] at this
  exact this
theorem unpack_g (a b : Int) : ∃ p : Stt × Int, FC Go.Proofs.Try.prog 52 [int .u64 a, int .u64 b] [] (tupU p.1 p.2) [] ∧ ((p.2 = 12 ∧ p.1 = zS) ∨ (p.2 = 0 ∧ validS p.1 = true ∧ (wordS p.1 : Int) = a ∧ p.1.chips = b)) := by
  refine ⟨(unA a b, unE a b), unpack_fc a b, ?_⟩
  simp only [unA, unE]
  cases h : okU a b with
  | false => exact .inl ⟨rfl, rfl⟩
  | true =>
    simp only [okU, Bool.and_eq_true, beq_iff_eq] at h
    exact .inr ⟨rfl, h.1, h.2, rfl⟩
theorem unpackR_g (a b : Int) (p : Stt × Int) (h : p = (unA a b, unE a b)) : FC Go.Proofs.Try.prog 64 [int .u64 a, int .u64 b] [] (tupU p.1 p.2) [] := by
  subst h; exact unpackR_fc a b
end Go.Sx.T1
namespace Go.Sx.T1
open Go.Proofs Go.Sx.Crc
/-! Decode -/
def plP (l : List Nat) (i : Nat) : Pl := ⟨if 0 < i then ((gP l (37 + 2 * 0) 2 : Nat) : Int) else 0, if 1 < i then ((gP l (37 + 2 * 1) 2 : Nat) : Int) else 0, if 2 < i then ((gP l (37 + 2 * 2) 2 : Nat) : Int) else 0,
  if 3 < i then ((gP l (37 + 2 * 3) 2 : Nat) : Int) else 0, if 4 < i then ((gP l (37 + 2 * 4) 2 : Nat) : Int) else 0, if 5 < i then ((gP l (37 + 2 * 5) 2 : Nat) : Int) else 0⟩
def rcG (l : List Nat) (s : Stt) (sq tm : Int) : Rcd := ⟨sq, tm, ((gP l 20 1 : Nat) : Int), s, plP l 6⟩
noncomputable def decF (l : List Nat) : Rcd × Int :=
  open Classical in
  if l.length < 53 then (zR, 11) else if l.take 4 ≠ headL then (zR, 12) else if gP l 49 4 ≠ chk (l.take 49) then (zR, 13) else
  if unE ((gP l 21 8 : Nat) : Int) ((gP l 29 8 : Nat) : Int) ≠ 0 ∨ ¬ RcOk (rcG l (unA ((gP l 21 8 : Nat) : Int) ((gP l 29 8 : Nat) : Int)) ((gP l 4 8 : Nat) : Int) ((gP l 12 8 : Nat) : Int)) then (zR, 12)
  else (rcG l (unA ((gP l 21 8 : Nat) : Int) ((gP l 29 8 : Nat) : Int)) ((gP l 4 8 : Nat) : Int) ((gP l 12 8 : Nat) : Int), 0)
def rcE (d : Rcd × Int) : SV := .t [.a (rcC d.1), .c (.v (.int .i64 d.2))]
theorem must_p (b : Bool) (hb : b = false) (e : Int) : PC Try.prog 49 [boo b, int .i64 e] (.iface 88 (.int .i64 e)) := by subst hb; exact must_pc e
theorem must_o (b : Bool) (hb : b = true) (e : Int) : FC Try.prog 49 [boo b, int .i64 e] [] (.t []) [] := by subst hb; exact must_ok e
theorem unpack_z (a b : Int) : ∃ p : Stt × Int, FC Try.prog 52 [int .u64 a, int .u64 b] [] (tupU p.1 p.2) [] ∧ p = (unA a b, unE a b) := ⟨(unA a b, unE a b), unpack_fc a b, rfl⟩
theorem wrapS {v : Nat} (hv : v < 18446744073709551616) {k : Int} (hk : k ≤ 9223372036854775807) : (0 ≤ IntKind.i64.wrap (v : Int) ∧ IntKind.i64.wrap (v : Int) ≤ k ↔ (v : Int) ≤ k) ∧ (0 ≤ IntKind.i64.wrap (v : Int) → IntKind.i64.wrap (v : Int) = v) := by
  rw [IntKind.wrap_i64]
  omega
/-- the record as the program has it is valid exactly if the one of the numbers is; then they are the same -/
theorem rc_wrap {l : List Nat} {s : Stt} {a b : Nat} (ha : a < 18446744073709551616) (hb : b < 18446744073709551616) :
    (RcOk (rcG l s (IntKind.i64.wrap (a : Int)) (IntKind.i64.wrap (b : Int))) ↔ RcOk (rcG l s a b)) ∧ (RcOk (rcG l s (IntKind.i64.wrap (a : Int)) (IntKind.i64.wrap (b : Int))) → IntKind.i64.wrap (a : Int) = a ∧ IntKind.i64.wrap (b : Int) = b) := by
  have wa := wrapS ha (k := 4294967296) (by omega)
  have wb := wrapS hb (k := 1099511627776) (by omega)
  refine ⟨⟨fun h => ?_, fun h => ?_⟩, fun h => ⟨wa.2 ?_, wb.2 ?_⟩⟩
  · have h1 := h.seq
    have h2 := h.time
    simp only [rcG] at h1 h2
    have e1 := wa.2 (by omega)
    have e2 := wb.2 (by omega)
    rwa [e1, e2] at h
  · have h1 := h.seq
    have h2 := h.time
    simp only [rcG] at h1 h2
    have e1 := wa.2 (wa.1.2 (by omega)).1
    have e2 := wb.2 (wb.1.2 (by omega)).1
    rwa [e1, e2]
  · have h1 := h.seq
    simp only [rcG] at h1
    omega
  · have h2 := h.time
    simp only [rcG] at h2
    omega
set_option maxHeartbeats 3200000 in
set_option maxRecDepth 10000 in
theorem decode_fc (l : List Nat) (hl : l.length ≤ 100000) (hb : By l) : ∃ d : Rcd × Int, FC Try.prog 28 [.o (.c (.s 0 0 l.length 1))] [u8n l false] (rcE d) [u8n l false] ∧ d = decF l := by
  refine FC.rd mix Try.func28 ?_
  repeat (first | refine And.intro (by kernel_rfl) ?_ | refine And.intro (by decide) ?_)
  refine And.intro (Nat.le_of_ble_eq_true rfl) ?_
  refine ⟨⟨rfl, rfl, rfl, trivial⟩, rfl, dec_dr 1 2, ?_⟩
  by_cases h53 : 53 ≤ l.length
  rotate_left
  · refine APan.pan ?_
    repeat (first | refine And.intro (by kernel_rfl) ?_ | refine And.intro (by decide) ?_)
    refine ⟨_, must_p _ (decide_eq_false (by omega)) 11, ?_⟩
    refine ⟨_, dec_dp _ _ rfl _ _ 11, ?_⟩
    exact ⟨(zR, 11), (by rw [decF, if_pos (by omega)]), .id rfl ⟨.inl rfl, trivial⟩⟩
  refine APan.go ?_
  repeat (first | refine And.intro (by kernel_rfl) ?_ | refine And.intro (by decide) ?_)
  refine FC.u (must_o (decide ((l.length : Int) ≥ 53)) (decide_eq_true (by omega)) 11) [] ?_
  refine And.intro ⟨by decide, by omega⟩ ?_
  repeat (first | refine And.intro (by kernel_rfl) ?_ | refine And.intro (by decide) ?_)
  by_cases h4 : l.take 4 = headL
  rotate_left
  · refine APan.pan ?_
    refine FC.u head_fc [] ?_
    refine FC.u (prefix_fc l 53 h53 (by omega) hb) [0, 3] ?_
    refine ⟨_, must_p _ (decide_eq_false h4) 12, ?_⟩
    refine ⟨_, dec_dp _ _ rfl _ _ 12, ?_⟩
    exact ⟨(zR, 12), (by rw [decF, if_neg (by omega), if_pos h4]), .id rfl ⟨.inl rfl, trivial⟩⟩
  refine APan.go ?_
  refine FC.u head_fc [] ?_
  refine FC.u (prefix_fc l 53 h53 (by omega) hb) [0, 3] ?_
  refine FC.u (must_o (decide (l.take 4 = headL)) (decide_eq_true h4) 12) [] ?_
  refine And.intro ⟨by decide, by decide⟩ ?_
  repeat (first | refine And.intro (by kernel_rfl) ?_ | refine And.intro (by decide) ?_)
  have hg49 : gP l 49 4 < 4294967296 := gP_lt hb 49 (i := 4) (by omega)
  have hck := chk_lt (l.take 49)
  have w49 : ∀ v : Nat, v = gP l 49 4 → IntKind.i64.wrap (v : Int) = (v : Int) := fun v e => by subst e; exact wrap64_in (by omega) (by omega)
  by_cases hc : gP l 49 4 = chk (l.take 49)
  rotate_left
  · refine APan.pan ?_
    refine FC.x (get_fc l 49 4 4 (by omega) (by omega) (by omega) hl hb) [4, 0] (fun v hv => ?_)
    repeat (first | refine And.intro (by kernel_rfl) ?_ | refine And.intro (by decide) ?_)
    refine FC.u (check_fc l 49 (by omega) (by omega)) [0] ?_
    repeat (first | refine And.intro (by kernel_rfl) ?_ | refine And.intro (by decide) ?_)
    refine ⟨_, must_p _ (by rw [w49 v hv, hv]; exact beq_false_of_ne (by omega)) 13, ?_⟩
    refine ⟨_, dec_dp _ _ rfl _ _ 13, ?_⟩
    exact ⟨(zR, 13), (by rw [decF, if_neg (by omega), if_neg (by simp [h4]), if_pos hc]), .id rfl ⟨.inl rfl, trivial⟩⟩
  refine APan.go ?_
  refine FC.x (get_fc l 49 4 4 (by omega) (by omega) (by omega) hl hb) [4, 0] (fun v hv => ?_)
  repeat (first | refine And.intro (by kernel_rfl) ?_ | refine And.intro (by decide) ?_)
  refine FC.u (check_fc l 49 (by omega) (by omega)) [0] ?_
  repeat (first | refine And.intro (by kernel_rfl) ?_ | refine And.intro (by decide) ?_)
  refine FC.u (must_o (IntKind.i64.wrap (v : Int) == ((chk (l.take 49) : Nat) : Int)) (by rw [w49 v hv, hv, hc]; simp) 13) [] ?_
  repeat (first | refine And.intro (by kernel_rfl) ?_ | refine And.intro (by decide) ?_)
  clear hg49 hck w49 hv
  refine FC.u head_fc [] ?_
  refine And.intro ⟨by decide, by decide⟩ ?_
  repeat (first | refine And.intro (by kernel_rfl) ?_ | refine And.intro (by decide) ?_)
  refine FC.x (get_fc l 4 49 8 (by omega) (by omega) (by omega) hl hb) [6, 0] (fun v1 hv1 => ?_)
  repeat (first | refine And.intro (by kernel_rfl) ?_ | refine And.intro (by decide) ?_)
  refine FC.x (get_fc l 12 41 8 (by omega) (by omega) (by omega) hl hb) [6, 0] (fun v2 hv2 => ?_)
  repeat (first | refine And.intro (by kernel_rfl) ?_ | refine And.intro (by decide) ?_)
  refine FC.x (get_fc l 20 33 1 (by omega) (by omega) (by omega) hl hb) [6, 0] (fun v3 hv3 => ?_)
  repeat (first | refine And.intro (by kernel_rfl) ?_ | refine And.intro (by decide) ?_)
  refine FC.x (get_fc l 21 32 8 (by omega) (by omega) (by omega) hl hb) [6, 0] (fun v4 hv4 => ?_)
  repeat (first | refine And.intro (by kernel_rfl) ?_ | refine And.intro (by decide) ?_)
  refine FC.x (get_fc l 29 24 8 (by omega) (by omega) (by omega) hl hb) [6, 0] (fun v5 hv5 => ?_)
  repeat (first | refine And.intro (by kernel_rfl) ?_ | refine And.intro (by decide) ?_)
  refine FC.x (unpack_z (v4 : Int) (v5 : Int)) [] (fun p hp => ?_)
  rw [hv4, hv5] at hp
  have l1 : v1 < 18446744073709551616 := by rw [hv1]; exact gP_lt hb 4 (i := 8) (by omega)
  have l2 : v2 < 18446744073709551616 := by rw [hv2]; exact gP_lt hb 12 (i := 8) (by omega)
  have l3 : v3 < 256 := by rw [hv3]; exact gP_lt hb 20 (i := 1) (by omega)
  have w3 : IntKind.i64.wrap (v3 : Int) = (v3 : Int) := wrap64_in (by omega) (by omega)
  have hpa : unA ((gP l 21 8 : Nat) : Int) ((gP l 29 8 : Nat) : Int) = p.1 := (congrArg Prod.fst hp).symm
  have hpe : unE ((gP l 21 8 : Nat) : Int) ((gP l 29 8 : Nat) : Int) = p.2 := (congrArg Prod.snd hp).symm
  have hF : decF l = open Classical in if p.2 ≠ 0 ∨ ¬ RcOk (rcG l p.1 (v1 : Int) (v2 : Int)) then (zR, 12) else (rcG l p.1 (v1 : Int) (v2 : Int), 0) := by
    rw [decF, if_neg (by omega), if_neg (by simp [h4]), if_neg (by simp [hc]), hpa, hpe, ← hv1, ← hv2]
  clear hpa hpe hp hv4 hv5
  repeat (first | refine And.intro (by kernel_rfl) ?_ | refine And.intro (by decide) ?_)
  by_cases hp2 : p.2 = 0
  rotate_left
  · refine APan.pan ?_
    repeat (first | refine And.intro (by kernel_rfl) ?_ | refine And.intro (by decide) ?_)
    refine ⟨_, must_p _ (beq_false_of_ne hp2) 12, ?_⟩
    refine ⟨_, dec_dp _ _ rfl _ _ 12, ?_⟩
    exact ⟨(zR, 12), (by rw [hF, if_pos (.inl hp2)]), .id rfl ⟨.inl rfl, trivial⟩⟩
  refine APan.go ?_
  repeat (first | refine And.intro (by kernel_rfl) ?_ | refine And.intro (by decide) ?_)
  refine FC.u (must_o (p.2 == 0) (by rw [hp2]; rfl) 12) [] ?_
  repeat (first | refine And.intro (by kernel_rfl) ?_ | refine And.intro (by decide) ?_)
  refine FC.u (numbers_fc ⟨IntKind.i64.wrap (v1 : Int), IntKind.i64.wrap (v2 : Int), IntKind.i64.wrap (v3 : Int), p.1, ⟨0, 0, 0, 0, 0, 0⟩⟩) [1] ?_
  repeat (first | refine And.intro (by kernel_rfl) ?_ | refine And.intro (by decide) ?_)
  refine ALoop.go (X := Nat) (fun i => i ≤ 6) (fun i => 6 - i) [2, 3, 5, 56, 57] [0, 2, 7] (fun i => [(58, int .i64 i)])
    (fun i => [(1, ⟨.box (rcC ⟨IntKind.i64.wrap (v1 : Int), IntKind.i64.wrap (v2 : Int), IntKind.i64.wrap (v3 : Int), p.1, plP l i⟩), true⟩), (6, ⟨.box [.s 0 (37 + 2 * i) (16 - 2 * i) 1], true⟩)]) 0 (Nat.zero_le _) ⟨rfl, trivial⟩ ⟨.inl rfl, .inl rfl, trivial⟩ ?_
  intro i hi
  dsimp only [headF, headM]
  refine bselD (fun h => ?_) (fun h => ?_)
  · have h' : i < 6 := by
      have h2 : (i : Int) < 6 := h
      clear h
      omega
    have wi : IntKind.i64.wrap ((i : Int) + 1) = ((i + 1 : Nat) : Int) := wrap64_in (by omega) (by omega)
    have hg := get_fc l (37 + 2 * i) (16 - 2 * i) 2 (by omega) (by omega) (by omega) hl hb
    have hlt := gP_lt hb (37 + 2 * i) (i := 2) (by omega)
    have wg : IntKind.i64.wrap ((gP l (37 + 2 * i) 2 : Nat) : Int) = ((gP l (37 + 2 * i) 2 : Nat) : Int) := wrap64_in (by omega) (by omega)
    repeat refine AJoin.plain ?_
    rcases lt6 h' with rfl | rfl | rfl | rfl | rfl | rfl <;>
    · repeat (first | refine And.intro (by kernel_rfl) ?_ | refine And.intro (by decide) ?_)
      refine FC.x hg [6, 0] (fun v hv => ?_)
      subst hv
      conv => whnf
      rw [wg]
      repeat (first | refine And.intro (by kernel_rfl) ?_ | refine And.intro (by decide) ?_)
      exact ⟨_, ⟨h', by decide⟩, .id ⟨congrArg (int .i64) wi, trivial⟩ rfl ⟨.inl rfl, .inl rfl, trivial⟩ rfl⟩
  · have hq : i = 6 := by
      have h2 : ¬ (i : Int) < 6 := h
      clear h
      omega
    clear h
    subst hq
    have hrc : (⟨IntKind.i64.wrap (v1 : Int), IntKind.i64.wrap (v2 : Int), IntKind.i64.wrap (v3 : Int), p.1, plP l 6⟩ : Rcd) = rcG l p.1 (IntKind.i64.wrap (v1 : Int)) (IntKind.i64.wrap (v2 : Int)) := by rw [w3, hv3]; rfl
    obtain ⟨b, hfc, hbi⟩ := recValid_fc ⟨IntKind.i64.wrap (v1 : Int), IntKind.i64.wrap (v2 : Int), IntKind.i64.wrap (v3 : Int), p.1, plP l 6⟩
    rw [hrc, (rc_wrap l1 l2).1] at hbi
    cases hb2 : b with
    | false =>
      subst hb2
      refine APan.pan ?_
      repeat (first | refine And.intro (by kernel_rfl) ?_ | refine And.intro (by decide) ?_)
      refine FC.u hfc [] ?_
      refine ⟨_, must_p _ rfl 12, ?_⟩
      refine ⟨_, dec_dp _ _ rfl _ _ 12, ?_⟩
      exact ⟨(zR, 12), (by rw [hF, if_pos (.inr (fun hh => by have := hbi.2 hh; cases this))]), .id rfl ⟨.inl rfl, trivial⟩⟩
    | true =>
      subst hb2
      have hok := hbi.1 rfl
      obtain ⟨e1, e2⟩ := (rc_wrap (l := l) (s := p.1) l1 l2).2 ((rc_wrap l1 l2).1.2 hok)
      refine APan.go ?_
      repeat (first | refine And.intro (by kernel_rfl) ?_ | refine And.intro (by decide) ?_)
      refine FC.u hfc [] ?_
      refine FC.u (must_o true rfl 12) [] ?_
      repeat (first | refine And.intro (by kernel_rfl) ?_ | refine And.intro (by decide) ?_)
      refine ⟨(⟨IntKind.i64.wrap (v1 : Int), IntKind.i64.wrap (v2 : Int), IntKind.i64.wrap (v3 : Int), p.1, plP l 6⟩, 0), ?_, .id rfl ⟨.inl rfl, trivial⟩⟩
      rw [hF, if_neg (by simp [hp2, hok]), hrc, e1, e2]
end Go.Sx.T1
namespace Go.Sx.T1
open Go.Proofs Go.Sx.Crc
/-! the reference's Decode -/
theorem take4 {l : List Nat} (h : 4 ≤ l.length) : l.take 4 = headL ↔ l.getD 0 0 = 77 ∧ l.getD 1 0 = 82 ∧ l.getD 2 0 = 1 ∧ l.getD 3 0 = 53 := by
  match l, h with
  | a :: b :: c :: d :: r, _ => simp [headL]
theorem gP_0 (l : List Nat) (a : Nat) : gP l a 0 = 0 := by simp [gP, getN]
theorem gP_1 {l : List Nat} {a : Nat} (h : a < l.length) : gP l a 1 = l.getD a 0 := by rw [gP_succ (by omega), gP_0]; simp
theorem smallS {v : Nat} {k : Int} (hk : k ≤ 4294967296000) : (0 ≤ smallF v ∧ smallF v ≤ k ↔ (v : Int) ≤ k) ∧ (0 ≤ smallF v → smallF v = v) := by
  unfold smallF
  split <;> omega
theorem rc_small {l : List Nat} {s : Stt} {a b : Nat} :
    (RcOk (rcG l s (smallF a) (smallF b)) ↔ RcOk (rcG l s a b)) ∧ (RcOk (rcG l s (smallF a) (smallF b)) → smallF a = a ∧ smallF b = b) := by
  have wa := smallS (v := a) (k := 4294967296) (by omega)
  have wb := smallS (v := b) (k := 1099511627776) (by omega)
  refine ⟨⟨fun h => ?_, fun h => ?_⟩, fun h => ⟨wa.2 ?_, wb.2 ?_⟩⟩
  · have h1 := h.seq
    have h2 := h.time
    simp only [rcG] at h1 h2
    have e1 := wa.2 (by omega)
    have e2 := wb.2 (by omega)
    rwa [e1, e2] at h
  · have h1 := h.seq
    have h2 := h.time
    simp only [rcG] at h1 h2
    have e1 := wa.2 (wa.1.2 (by omega)).1
    have e2 := wb.2 (wb.1.2 (by omega)).1
    rwa [e1, e2]
  · have h1 := h.seq
    simp only [rcG] at h1
    omega
  · have h2 := h.time
    simp only [rcG] at h2
    omega
theorem unpackR_z (a b : Int) : ∃ p : Stt × Int, FC Try.prog 64 [int .u64 a, int .u64 b] [] (tupU p.1 p.2) [] ∧ p = (unA a b, unE a b) := ⟨(unA a b, unE a b), unpackR_fc a b, rfl⟩
set_option maxHeartbeats 3200000 in
set_option maxRecDepth 10000 in
theorem decode18_fc (l : List Nat) (hl : l.length ≤ 100000) (hb : By l) : ∃ d : Rcd × Int, FC Try.prog 38 [.o (.c (.s 0 0 l.length 1))] [u8n l false] (rcE d) [u8n l false] ∧ d = decF l := by
  refine FC.rj mix Try.func38 ?_
  repeat (first | refine And.intro (by kernel_rfl) ?_ | refine And.intro (by decide) ?_)
  refine bselD (fun h53 => ?_) (fun h53 => ?_)
  · have h' : l.length < 53 := by
      have h2 : (l.length : Int) < 53 := h53
      clear h53
      omega
    repeat (first | refine And.intro (by kernel_rfl) ?_ | refine And.intro (by decide) ?_)
    exact ⟨(zR, 11), by rw [decF, if_pos h'], .id rfl ⟨.inl rfl, trivial⟩⟩
  have h' : 53 ≤ l.length := by
    have h2 : ¬ (l.length : Int) < 53 := h53
    clear h53
    omega
  clear h53
  repeat refine AJoin.plain ?_
  refine And.intro ⟨by decide, by omega⟩ ?_
  refine And.intro (by show 0 + Int.toNat 0 < (zl l).length; rw [zl_len]; show 0 + 0 < l.length; omega) ?_
  repeat (first | refine And.intro (by kernel_rfl) ?_ | refine And.intro (by decide) ?_)
  have g0 : (zl l).getD (0 + Int.toNat 0) 0 = ((l.getD 0 0 : Nat) : Int) := zl_get l 0
  refine bselN (fun hne => ?_) (fun he => ?_)
  · have hne' : l.getD 0 0 ≠ 77 := fun e => hne (by rw [g0, e]; rfl)
    repeat (first | refine And.intro (by kernel_rfl) ?_ | refine And.intro (by decide) ?_)
    exact ⟨(zR, 12), by rw [decF, if_neg (by omega), if_pos (by rw [ne_eq, take4 (by omega)]; omega)], .id rfl ⟨.inl rfl, trivial⟩⟩
  have h0 : l.getD 0 0 = 77 := by rw [g0] at he; omega
  clear he g0
  refine And.intro ⟨by decide, by omega⟩ ?_
  refine And.intro (by show 0 + Int.toNat 1 < (zl l).length; rw [zl_len]; show 0 + 1 < l.length; omega) ?_
  repeat (first | refine And.intro (by kernel_rfl) ?_ | refine And.intro (by decide) ?_)
  have g1 : (zl l).getD (0 + Int.toNat 1) 0 = ((l.getD 1 0 : Nat) : Int) := zl_get l 1
  refine bselN (fun hne => ?_) (fun he => ?_)
  · have hne' : l.getD 1 0 ≠ 82 := fun e => hne (by rw [g1, e]; rfl)
    repeat (first | refine And.intro (by kernel_rfl) ?_ | refine And.intro (by decide) ?_)
    exact ⟨(zR, 12), by rw [decF, if_neg (by omega), if_pos (by rw [ne_eq, take4 (by omega)]; omega)], .id rfl ⟨.inl rfl, trivial⟩⟩
  have h1 : l.getD 1 0 = 82 := by rw [g1] at he; omega
  clear he g1
  refine And.intro ⟨by decide, by omega⟩ ?_
  refine And.intro (by show 0 + Int.toNat 2 < (zl l).length; rw [zl_len]; show 0 + 2 < l.length; omega) ?_
  repeat (first | refine And.intro (by kernel_rfl) ?_ | refine And.intro (by decide) ?_)
  have g2 : (zl l).getD (0 + Int.toNat 2) 0 = ((l.getD 2 0 : Nat) : Int) := zl_get l 2
  refine bselN (fun hne => ?_) (fun he => ?_)
  · have hne' : l.getD 2 0 ≠ 1 := fun e => hne (by rw [g2, e]; rfl)
    repeat (first | refine And.intro (by kernel_rfl) ?_ | refine And.intro (by decide) ?_)
    exact ⟨(zR, 12), by rw [decF, if_neg (by omega), if_pos (by rw [ne_eq, take4 (by omega)]; omega)], .id rfl ⟨.inl rfl, trivial⟩⟩
  have h2 : l.getD 2 0 = 1 := by rw [g2] at he; omega
  clear he g2
  refine And.intro ⟨by decide, by omega⟩ ?_
  refine And.intro (by show 0 + Int.toNat 3 < (zl l).length; rw [zl_len]; show 0 + 3 < l.length; omega) ?_
  repeat (first | refine And.intro (by kernel_rfl) ?_ | refine And.intro (by decide) ?_)
  have g3 : (zl l).getD (0 + Int.toNat 3) 0 = ((l.getD 3 0 : Nat) : Int) := zl_get l 3
  refine bselN (fun hne => ?_) (fun he => ?_)
  · have hne' : l.getD 3 0 ≠ 53 := fun e => hne (by rw [g3, e]; rfl)
    repeat (first | refine And.intro (by kernel_rfl) ?_ | refine And.intro (by decide) ?_)
    exact ⟨(zR, 12), by rw [decF, if_neg (by omega), if_pos (by rw [ne_eq, take4 (by omega)]; omega)], .id rfl ⟨.inl rfl, trivial⟩⟩
  have h3 : l.getD 3 0 = 53 := by rw [g3] at he; omega
  clear he g3
  have h4 : l.take 4 = headL := (take4 (by omega)).2 ⟨h0, h1, h2, h3⟩
  clear h0 h1 h2 h3
  repeat refine AJoin.plain ?_
  refine FC.x (get18_fc l 49 4 (by omega) (by omega) hl l.length rfl hb) [0] (fun v hv => ?_)
  have hck := chk_lt (l.take 49)
  have wk : IntKind.u64.wrap ((chk (l.take 49) : Nat) : Int) = ((chk (l.take 49) : Nat) : Int) := wrapU64_in (by omega) (by omega)
  repeat (first | refine And.intro (by kernel_rfl) ?_ | refine And.intro (by decide) ?_)
  refine And.intro ⟨by decide, by omega⟩ ?_
  refine FC.u (check18_fc l 49 (by omega) (by omega) hb) [0] ?_
  repeat (first | refine And.intro (by kernel_rfl) ?_ | refine And.intro (by decide) ?_)
  refine bselN (fun hne => ?_) (fun he => ?_)
  · have hc : gP l 49 4 ≠ chk (l.take 49) := fun e => hne (by rw [wk, hv, e])
    repeat (first | refine And.intro (by kernel_rfl) ?_ | refine And.intro (by decide) ?_)
    exact ⟨(zR, 13), by rw [decF, if_neg (by omega), if_neg (by simp [h4]), if_pos hc], .id rfl ⟨.inl rfl, trivial⟩⟩
  have hc : gP l 49 4 = chk (l.take 49) := by
    rw [wk, hv] at he
    omega
  clear he hck wk hv
  repeat refine AJoin.plain ?_
  refine FC.x (get18_fc l 21 8 (by omega) (by omega) hl l.length rfl hb) [0] (fun v4 hv4 => ?_)
  repeat (first | refine And.intro (by kernel_rfl) ?_ | refine And.intro (by decide) ?_)
  refine FC.x (get18_fc l 29 8 (by omega) (by omega) hl l.length rfl hb) [0] (fun v5 hv5 => ?_)
  repeat (first | refine And.intro (by kernel_rfl) ?_ | refine And.intro (by decide) ?_)
  refine FC.x (unpackR_z (v4 : Int) (v5 : Int)) [] (fun p hp => ?_)
  rw [hv4, hv5] at hp
  repeat (first | refine And.intro (by kernel_rfl) ?_ | refine And.intro (by decide) ?_)
  refine FC.x (get18_fc l 4 8 (by omega) (by omega) hl l.length rfl hb) [0] (fun v1 hv1 => ?_)
  repeat (first | refine And.intro (by kernel_rfl) ?_ | refine And.intro (by decide) ?_)
  refine FC.x (small_fc v1) [] (fun s1 hs1 => ?_)
  repeat (first | refine And.intro (by kernel_rfl) ?_ | refine And.intro (by decide) ?_)
  refine FC.x (get18_fc l 12 8 (by omega) (by omega) hl l.length rfl hb) [0] (fun v2 hv2 => ?_)
  repeat (first | refine And.intro (by kernel_rfl) ?_ | refine And.intro (by decide) ?_)
  refine FC.x (small_fc v2) [] (fun s2 hs2 => ?_)
  repeat (first | refine And.intro (by kernel_rfl) ?_ | refine And.intro (by decide) ?_)
  refine And.intro ⟨by decide, by omega⟩ ?_
  refine And.intro (by show 0 + Int.toNat 20 < (zl l).length; rw [zl_len]; show 0 + 20 < l.length; omega) ?_
  have g20 : IntKind.i64.wrap ((zl l).getD (0 + Int.toNat 20) 0) = ((gP l 20 1 : Nat) : Int) := by
    have e : (zl l).getD (0 + Int.toNat 20) 0 = ((l.getD 20 0 : Nat) : Int) := zl_get l 20
    have := hb 20
    rw [e, gP_1 (by omega), wrap64_in (by omega) (by omega)]
  repeat (first | refine And.intro (by kernel_rfl) ?_ | refine And.intro (by decide) ?_)
  refine FC.x (get18_fc l (37 + 2 * 0) 2 (by omega) (by omega) hl l.length rfl hb) [0] (fun u0 hu0 => ?_)
  have k0 : IntKind.i64.wrap (u0 : Int) = (u0 : Int) := by have := gP_lt hb (37 + 2 * 0) (i := 2) (by omega); rw [← hu0] at this; exact wrap64_in (by omega) (by omega)
  repeat (first | refine And.intro (by kernel_rfl) ?_ | refine And.intro (by decide) ?_)
  refine FC.x (get18_fc l (37 + 2 * 1) 2 (by omega) (by omega) hl l.length rfl hb) [0] (fun u1 hu1 => ?_)
  have k1 : IntKind.i64.wrap (u1 : Int) = (u1 : Int) := by have := gP_lt hb (37 + 2 * 1) (i := 2) (by omega); rw [← hu1] at this; exact wrap64_in (by omega) (by omega)
  repeat (first | refine And.intro (by kernel_rfl) ?_ | refine And.intro (by decide) ?_)
  refine FC.x (get18_fc l (37 + 2 * 2) 2 (by omega) (by omega) hl l.length rfl hb) [0] (fun u2 hu2 => ?_)
  have k2 : IntKind.i64.wrap (u2 : Int) = (u2 : Int) := by have := gP_lt hb (37 + 2 * 2) (i := 2) (by omega); rw [← hu2] at this; exact wrap64_in (by omega) (by omega)
  repeat (first | refine And.intro (by kernel_rfl) ?_ | refine And.intro (by decide) ?_)
  refine FC.x (get18_fc l (37 + 2 * 3) 2 (by omega) (by omega) hl l.length rfl hb) [0] (fun u3 hu3 => ?_)
  have k3 : IntKind.i64.wrap (u3 : Int) = (u3 : Int) := by have := gP_lt hb (37 + 2 * 3) (i := 2) (by omega); rw [← hu3] at this; exact wrap64_in (by omega) (by omega)
  repeat (first | refine And.intro (by kernel_rfl) ?_ | refine And.intro (by decide) ?_)
  refine FC.x (get18_fc l (37 + 2 * 4) 2 (by omega) (by omega) hl l.length rfl hb) [0] (fun u4 hu4 => ?_)
  have k4 : IntKind.i64.wrap (u4 : Int) = (u4 : Int) := by have := gP_lt hb (37 + 2 * 4) (i := 2) (by omega); rw [← hu4] at this; exact wrap64_in (by omega) (by omega)
  repeat (first | refine And.intro (by kernel_rfl) ?_ | refine And.intro (by decide) ?_)
  refine FC.x (get18_fc l (37 + 2 * 5) 2 (by omega) (by omega) hl l.length rfl hb) [0] (fun u5 hu5 => ?_)
  have k5 : IntKind.i64.wrap (u5 : Int) = (u5 : Int) := by have := gP_lt hb (37 + 2 * 5) (i := 2) (by omega); rw [← hu5] at this; exact wrap64_in (by omega) (by omega)
  repeat (first | refine And.intro (by kernel_rfl) ?_ | refine And.intro (by decide) ?_)
  have hpa : unA ((gP l 21 8 : Nat) : Int) ((gP l 29 8 : Nat) : Int) = p.1 := (congrArg Prod.fst hp).symm
  have hpe : unE ((gP l 21 8 : Nat) : Int) ((gP l 29 8 : Nat) : Int) = p.2 := (congrArg Prod.snd hp).symm
  have hF : decF l = open Classical in if p.2 ≠ 0 ∨ ¬ RcOk (rcG l p.1 (v1 : Int) (v2 : Int)) then (zR, 12) else (rcG l p.1 (v1 : Int) (v2 : Int), 0) := by
    rw [decF, if_neg (by omega), if_neg (by simp [h4]), if_neg (by simp [hc]), hpa, hpe, ← hv1, ← hv2]
  clear hpa hpe hp hv4 hv5
  have hrc : (⟨s1, s2, IntKind.i64.wrap ((zl l).getD (0 + Int.toNat 20) 0), p.1, ⟨IntKind.i64.wrap (u0 : Int), IntKind.i64.wrap (u1 : Int), IntKind.i64.wrap (u2 : Int), IntKind.i64.wrap (u3 : Int), IntKind.i64.wrap (u4 : Int), IntKind.i64.wrap (u5 : Int)⟩⟩ : Rcd) = rcG l p.1 (smallF v1) (smallF v2) := by
    rw [g20, k0, k1, k2, k3, k4, k5, hu0, hu1, hu2, hu3, hu4, hu5, hs1, hs2]; rfl
  obtain ⟨b, hfc, hbi⟩ := refValid_fc ⟨s1, s2, IntKind.i64.wrap ((zl l).getD (0 + Int.toNat 20) 0), p.1, ⟨IntKind.i64.wrap (u0 : Int), IntKind.i64.wrap (u1 : Int), IntKind.i64.wrap (u2 : Int), IntKind.i64.wrap (u3 : Int), IntKind.i64.wrap (u4 : Int), IntKind.i64.wrap (u5 : Int)⟩⟩
  rw [hrc, rc_small.1] at hbi
  repeat (first | refine And.intro (by kernel_rfl) ?_ | refine And.intro (by decide) ?_)
  refine bselN (fun hne => ?_) (fun he => ?_)
  · repeat (first | refine And.intro (by kernel_rfl) ?_ | refine And.intro (by decide) ?_)
    exact ⟨(zR, 12), by rw [hF, if_pos (.inl hne)], .id rfl ⟨.inl rfl, trivial⟩⟩
  repeat (first | refine And.intro (by kernel_rfl) ?_ | refine And.intro (by decide) ?_)
  refine FC.u hfc [] ?_
  repeat (first | refine And.intro (by kernel_rfl) ?_ | refine And.intro (by decide) ?_)
  cases hb2 : b with
  | false =>
    subst hb2
    repeat (first | refine And.intro (by kernel_rfl) ?_ | refine And.intro (by decide) ?_)
    exact ⟨(zR, 12), by rw [hF, if_pos (.inr (fun hh => by have := hbi.2 hh; cases this))], .id rfl ⟨.inl rfl, trivial⟩⟩
  | true =>
    subst hb2
    have hok := hbi.1 rfl
    obtain ⟨e1, e2⟩ := (rc_small (l := l) (s := p.1)).2 (rc_small.1.2 hok)
    repeat (first | refine And.intro (by kernel_rfl) ?_ | refine And.intro (by decide) ?_)
    refine ⟨(⟨s1, s2, IntKind.i64.wrap ((zl l).getD (0 + Int.toNat 20) 0), p.1, ⟨IntKind.i64.wrap (u0 : Int), IntKind.i64.wrap (u1 : Int), IntKind.i64.wrap (u2 : Int), IntKind.i64.wrap (u3 : Int), IntKind.i64.wrap (u4 : Int), IntKind.i64.wrap (u5 : Int)⟩⟩, 0), ?_, .id rfl ⟨.inl rfl, trivial⟩⟩
    rw [hF, if_neg (by simp [he, hok]), hrc, e1, e2]
end Go.Sx.T1
