/- Contracts of the functions that HashInverts reaches, and the walk of the law, part 2. Conditions: none. -/
import Derived.Test.YtffafjcbokfjiaaDoorHashInvertsA
namespace Go.Sx.T1
open Go.Proofs Go.Sx.Gf
def mulM2 (a b : List Nat) (d : MD) : Mem := [u64n a false, u64n b false, u64n d.rows true]
set_option maxHeartbeats 3200000 in
set_option maxRecDepth 10000 in
theorem mul05_fc (ca : Int) (a : List Nat) (cb : Int) (b : List Nat) (ha : ∀ k, a.getD k 0 < 18446744073709551616) (hb : ∀ k, b.getD k 0 < 18446744073709551616) :
    ∃ d : MD, FC Tryd.prog 30 [.o (.a (matK 0 ca a)), .o (.a (matK 1 cb b))] [u64n a false, u64n b false] (mdS 2 d) (mulM2 a b d) ∧ d = mulF ca a cb b := by
  refine FC.rj mix Tryd.func30 ?_
  repeat (first | refine And.intro (by kernel_rfl) ?_ | refine And.intro (by decide) ?_)
  refine FC.u (valid05_fc ca a ha) [0] ?_
  refine bselNot (bsel_intro (fun h1 => ?_) (fun h1 => ?_))
  rotate_left
  · repeat (first | refine And.intro (by kernel_rfl) ?_ | refine And.intro (by decide) ?_)
    exact ⟨⟨0, [], 1⟩, by rw [mulF, if_neg (by simp [h1])], isEnd.go [(2, .new 1)] rfl ⟨.inl rfl, .inl rfl, newI 1 rfl, trivial⟩⟩
  refine FC.u (valid05_fc cb b hb) [1] ?_
  refine bselNot (bsel_intro (fun h2 => ?_) (fun h2 => ?_))
  rotate_left
  · repeat (first | refine And.intro (by kernel_rfl) ?_ | refine And.intro (by decide) ?_)
    exact ⟨⟨0, [], 1⟩, by rw [mulF, if_neg (by simp [h2])], isEnd.go [(2, .new 1)] rfl ⟨.inl rfl, .inl rfl, newI 1 rfl, trivial⟩⟩
  repeat refine AJoin.plain ?_
  refine bselN (fun h3 => ?_) (fun h3 => ?_)
  · repeat (first | refine And.intro (by kernel_rfl) ?_ | refine And.intro (by decide) ?_)
    exact ⟨⟨0, [], 7⟩, by rw [mulF, if_pos ⟨h1, h2⟩, if_pos h3], isEnd.go [(2, .new 1)] rfl ⟨.inl rfl, .inl rfl, newI 1 rfl, trivial⟩⟩
  obtain ⟨a1, a2, a3, a4, a5⟩ := okM_bd h1
  obtain ⟨b1, b2, b3, b4, b5⟩ := okM_bd h2
  subst h3
  rw [Int.toNat_natCast] at a5
  have b64 : ∀ k, mulr b (a.getD k 0) k < 18446744073709551616 := fun k => mulr_lt (C := 64) hb k
  repeat refine AJoin.plain ?_
  refine ALoop.goN (X := Nat) (fun i => i ≤ a.length) (fun i => a.length - i) [2, 3, 4, 6] [0, 1, 2, 3, 4] (fun i => [(7, int .i64 i)])
    (fun i => [(5, ⟨.box [.v (.int .i64 cb), .s 6 0 (mulT a b i).length 1], true⟩), (6, ⟨.ints .u64 (zl (mulT a b i)), true⟩)]) 0 7
    (Nat.zero_le _) (isAt.go [(6, .new 1)] ⟨rfl, trivial⟩ ⟨.inl rfl, newI 1 rfl, trivial⟩) ?_
  intro i hi
  have tl := mulT_len b hi
  dsimp only [headF, headM]
  refine bselD (fun h => ?_) (fun h => ?_)
  · have h' : i < a.length := by omega
    have wi : IntKind.i64.wrap ((i : Int) + 1) = ((i + 1 : Nat) : Int) := wrap64_in (by omega) (by omega)
    have ei : 0 + (i : Int).toNat = i := by simp
    have hai := ha i
    repeat refine AJoin.plain ?_
    refine ALoop.go (X := Nat) (fun k => k ≤ b.length) (fun k => b.length - k) [2, 3, 4, 6, 7] [0, 1, 2, 3, 4, 5, 6]
      (fun k => [(8, int .u64 ((mulr b (a.getD i 0) k : Nat) : Int)), (9, int .i64 k)]) (fun _ => []) 0 (Nat.zero_le _) ⟨rfl, rfl, trivial⟩ trivial ?_
    intro k hk
    have mk64 : mulr b (a.getD i 0) k < 18446744073709551616 := mulr_lt (C := 64) hb k
    dsimp only [headF, headM]
    refine bselD (fun g => ?_) (fun g => ?_)
    · have g' : k < b.length := by omega
      have wk : IntKind.i64.wrap ((k : Int) + 1) = ((k + 1 : Nat) : Int) := wrap64_in (by omega) (by omega)
      have uk : IntKind.u64.wrap (k : Int) = (k : Int) := wrapU64_in (by omega) (by omega)
      have ek : 0 + (k : Int).toNat = k := by simp
      repeat refine AJoin.plain ?_
      refine And.intro ⟨by omega, h⟩ ?_
      refine And.intro (by show 0 + (i : Int).toNat < (zl a).length; rw [zl_len]; omega) ?_
      refine And.intro (by show 0 ≤ IntKind.u64.wrap (k : Int); rw [uk]; omega) ?_
      have eb : (bitI .and .u64 (((zl a).getD (0 + (i : Int).toNat) 0).fdiv (2 ^ min (IntKind.u64.wrap (k : Int)).toNat IntKind.u64.bits)) 1 == 1) = (a.getD i 0).testBit k := by
        rw [ei, zl_get, uk, bit_form hai (by omega), bn_eq1]
      repeat (first | refine And.intro (by kernel_rfl) ?_ | refine And.intro (by decide) ?_)
      refine bsel_intro (fun hbit => ?_) (fun hbit => ?_) <;> rw [eb] at hbit
      · have hs : mulr b (a.getD i 0) (k + 1) = mulr b (a.getD i 0) k ^^^ b.getD k 0 := by rw [mulr, hbit, if_pos rfl]
        repeat refine AJoin.plain ?_
        refine And.intro ⟨by omega, by omega⟩ ?_
        refine And.intro (by show 0 + (k : Int).toNat < (zl b).length; rw [zl_len]; omega) ?_
        repeat (first | refine And.intro (by kernel_rfl) ?_ | refine And.intro (by decide) ?_)
        exact ⟨k + 1, ⟨g', by show b.length - (k + 1) < b.length - k; omega⟩, .id ⟨congrArg (int .u64) (by rw [ek, zl_get, xor_u64 mk64 (hb k), hs]), congrArg (int .i64) wk, trivial⟩ rfl trivial rfl⟩
      · have hs : mulr b (a.getD i 0) (k + 1) = mulr b (a.getD i 0) k := by rw [mulr, hbit, if_neg (by simp), Nat.xor_zero]
        repeat refine AJoin.plain ?_
        exact ⟨k + 1, ⟨g', by show b.length - (k + 1) < b.length - k; omega⟩, .id ⟨congrArg (int .u64) (by rw [hs]), congrArg (int .i64) wk, trivial⟩ rfl trivial rfl⟩
    · obtain rfl : k = b.length := by omega
      repeat refine AJoin.plain ?_
      refine And.intro ⟨by show 0 + (mulT a b i).length ≤ (zl (mulT a b i)).length; rw [zl_len]; omega, trivial⟩ ?_
      refine And.intro ⟨Nat.le_of_ble_eq_true rfl, trivial⟩ ?_
      refine And.intro (by show (mulT a b i).length + 1 ≤ 4294967296; omega) ?_
      repeat (first | refine And.intro (by kernel_rfl) ?_ | refine And.intro (by decide) ?_)
      have e1 : (mulT a b i).length + 1 = (mulT a b (i + 1)).length := by rw [tl, mulT_len b (by omega)]
      refine ⟨i + 1, ⟨h', by show a.length - (i + 1) < a.length - i; omega⟩, isAt.go [(6, .to 8)] ⟨congrArg (int .i64) wi, trivial⟩
        ⟨.inl (congrArg (fun n : Nat => some (⟨.box [.v (.int .i64 cb), .s 8 0 n 1], true⟩ : Blk)) e1), leB.ints_eq ?_ id, trivial⟩⟩
      show List.take (mulT a b i).length (List.drop 0 (zl (mulT a b i))) ++ List.take 1 (List.drop 0 [((mulr b (a.getD i 0) b.length : Nat) : Int)]) = zl (mulT a b (i + 1))
      rw [app1, mulT_succ b h']
  · obtain rfl : i = a.length := by omega
    repeat (first | refine And.intro (by kernel_rfl) ?_ | refine And.intro (by decide) ?_)
    exact ⟨⟨cb, mulT a b a.length, 0⟩, by rw [mulF, if_pos ⟨h1, h2⟩, if_neg (by simp), mulT_all], isEnd.go [(2, .to 6)] rfl ⟨.inl rfl, .inl rfl, .inl rfl, trivial⟩⟩
end Go.Sx.T1
namespace Go.Sx.T1
open Go.Proofs Go.Sx.Gf
structure MX where
  rows : List Nat
  k : Nat
structure MXw where
  n : Nat
  k : Nat
  rows : List Nat
def mkS (x : MX) : SV := .o (.c (.s 2 0 x.rows.length 1))
def mxM (ts : List Int) (x : MX) : Mem := [diceB ts x.k, diceL ts, u64n x.rows true]
theorem other {b p d : Nat} (hp : p < b) (hd : d + 1 < b) : (p + 1 + d) % b < b ∧ (p + 1 + d) % b ≠ p := by
  refine ⟨Nat.mod_lt _ (by omega), ?_⟩
  by_cases h : p + 1 + d < b
  · rw [Nat.mod_eq_of_lt h]; omega
  · rw [Nat.mod_eq_sub_mod (by omega), Nat.mod_eq_of_lt (by omega)]; omega
set_option maxHeartbeats 3200000 in
set_option maxRecDepth 10000 in
theorem masks_fc (ts : List Int) (k b : Nat) (hl : ts.length ≤ 400) (hb : b ≤ 60) :
    ∃ x : MX, FC Tryd.prog 10 [.o (.c (.p 0 0 0)), int .i64 b] [diceB ts k, diceL ts] (mkS x) (mxM ts x) ∧ MkOk b x.rows := by
  refine FC.rj mix Tryd.func10 ?_
  repeat (first | refine And.intro (by kernel_rfl) ?_ | refine And.intro (by decide) ?_)
  refine ALoop.goN (X := Nat) (fun i => i ≤ b) (fun i => b - i) [0, 1] [0, 1] (fun i => [(5, .o (.c (.s 2 0 (units i).length 1))), (6, int .i64 i)]) (fun i => [(2, ⟨.ints .u64 (zl (units i)), true⟩)]) 0 3
    (Nat.zero_le _) (isAt.go [(2, .new 1)] ⟨rfl, rfl, trivial⟩ ⟨newI 1 rfl, trivial⟩) ?_
  intro i hi
  have ul := units_len i
  dsimp only [headF, headM]
  refine bselD (fun h => ?_) (fun h => ?_)
  · have h' : i < b := by omega
    have wi : IntKind.i64.wrap ((i : Int) + 1) = ((i + 1 : Nat) : Int) := wrap64_in (by omega) (by omega)
    have ui : IntKind.u64.wrap (i : Int) = (i : Int) := wrapU64_in (by omega) (by omega)
    repeat refine AJoin.plain ?_
    conv => whnf
    rw [ui]
    refine And.intro (by omega) ?_
    refine And.intro ⟨by show 0 + (units i).length ≤ (zl (units i)).length; rw [zl_len]; omega, trivial⟩ ?_
    refine And.intro ⟨Nat.le_of_ble_eq_true rfl, trivial⟩ ?_
    refine And.intro (by show (units i).length + 1 ≤ 4294967296; omega) ?_
    repeat (first | refine And.intro (by kernel_rfl) ?_ | refine And.intro (by decide) ?_)
    have e1 : (units i).length + 1 = (units (i + 1)).length := by rw [units_len, units_len]
    refine ⟨i + 1, ⟨h', by show b - (i + 1) < b - i; omega⟩, isAt.go [(2, .to 4)] ⟨congrArg (fun n : Nat => SV.o (.c (.s 4 0 n 1))) e1, congrArg (int .i64) wi, trivial⟩ ⟨leB.ints_eq ?_ id, trivial⟩⟩
    show List.take (units i).length (List.drop 0 (zl (units i))) ++ List.take 1 (List.drop 0 [IntKind.u64.wrap (1 * 2 ^ min (i : Int).toNat IntKind.u64.bits)]) = zl (units (i + 1))
    rw [one_shl (by omega), app1, units_succ]
  · obtain rfl : i = b := by omega
    have w3 : IntKind.i64.wrap (IntKind.i64.wrap (3 * (i : Int)) + 1) = 3 * (i : Int) + 1 := by rw [wrap64_in (n := 3 * (i : Int)) (by omega) (by omega), wrap64_in (by omega) (by omega)]
    repeat refine AJoin.plain ?_
    conv => whnf
    rw [w3]
    have d3 := dv_bd ts k (n := 3 * (i : Int) + 1) (by omega)
    refine FC.x (next_x ts k (3 * (i : Int) + 1) (by omega) hl) [0, 1] (fun n en => ?_)
    rw [← en] at d3
    clear en
    obtain ⟨n, rfl⟩ : ∃ m : Nat, n = m := ⟨n.toNat, by omega⟩
    repeat refine AJoin.plain ?_
    refine ALoop.go (X := MXw) (fun x => x.n ≤ 200 ∧ MkOk i x.rows) (fun x => x.n) [0, 1] [1] (fun x => [(5, .o (.c (.s 2 0 x.rows.length 1))), (7, int .i64 x.n)])
      (fun x => [(0, ⟨.box [.s 1 0 ts.length 1, .v (.int .i64 (min x.k ts.length : Nat))], true⟩), (2, ⟨.ints .u64 (zl x.rows), true⟩)]) ⟨n, k + 1, units i⟩
      ⟨by show n ≤ 200; omega, ul, units_bd i, Ker0.units i⟩ ⟨rfl, rfl, trivial⟩ ⟨.inl rfl, .inl rfl, trivial⟩ ?_
    clear h w3 d3
    rintro ⟨n, k, rows⟩ ⟨hn, hm⟩
    simp only at hn hm
    have hrl := hm.len
    dsimp only [headF, headM]
    refine bselD (fun h => ?_) (fun h => ?_)
    · refine bselD (fun h2 => ?_) (fun h2 => ?_)
      · have h0 : 0 < n := by have : (n : Int) > 0 := h; omega
        have wn : IntKind.i64.wrap ((n : Int) - 1) = ((n - 1 : Nat) : Int) := by rw [wrap64_in (by omega) (by omega)]; omega
        have wb : IntKind.i64.wrap ((i : Int) - 1) = (i : Int) - 1 := wrap64_in (by omega) (by omega)
        repeat refine AJoin.plain ?_
        have da := dv_bd ts k (n := (i : Int)) (by omega)
        refine FC.x (next_x ts k i (by omega) hl) [0, 1] (fun a ea => ?_)
        rw [← ea] at da
        clear ea
        repeat refine AJoin.plain ?_
        conv => whnf
        rw [wb]
        have dd := dv_bd ts (k + 1) (n := (i : Int) - 1) (by omega)
        refine FC.x (next_x ts (k + 1) ((i : Int) - 1) (by omega) hl) [0, 1] (fun d ed => ?_)
        rw [← ed] at dd
        clear ed
        obtain ⟨p, rfl⟩ : ∃ p : Nat, a = p := ⟨a.toNat, by omega⟩
        obtain ⟨d, rfl⟩ : ∃ e : Nat, d = e := ⟨d.toNat, by omega⟩
        have et : (IntKind.i64.wrap (IntKind.i64.wrap ((p : Int) + 1) + (d : Int))).tmod (i : Int) = (((p + 1 + d) % i : Nat) : Int) := by
          rw [wrap64_in (n := (p : Int) + 1) (by omega) (by omega), wrap64_in (by omega) (by omega), Int.tmod_eq_emod_of_nonneg (by omega), show (p : Int) + 1 + d = ((p + 1 + d : Nat) : Int) by omega]
          exact (Int.natCast_emod _ _).symm
        obtain ⟨q1, q2⟩ := other (b := i) (p := p) (d := d) (by omega) (by omega)
        refine And.intro (by omega) ?_
        conv => whnf
        rw [et]
        generalize (p + 1 + d) % i = q at q1 q2
        repeat refine AJoin.plain ?_
        refine And.intro ⟨by omega, by omega⟩ ?_
        refine And.intro (by show 0 + (p : Int).toNat < (zl rows).length; rw [zl_len]; omega) ?_
        refine And.intro ⟨by omega, by omega⟩ ?_
        refine And.intro (by show 0 + (q : Int).toNat < (zl rows).length; rw [zl_len]; omega) ?_
        refine And.intro ⟨by omega, by omega⟩ ?_
        refine And.intro (by show 0 + (p : Int).toNat < (zl rows).length; rw [zl_len]; omega) ?_
        repeat (first | refine And.intro (by kernel_rfl) ?_ | refine And.intro (by decide) ?_)
        have ep : 0 + (p : Int).toNat = p := by simp
        have eq : 0 + (q : Int).toNat = q := by simp
        have hb64 : ∀ k, rows.getD k 0 < 18446744073709551616 := fun k => lt64 (hm.bd k) (by omega)
        have key : (zl rows).set (0 + (p : Int).toNat) (bitI .xor .u64 ((zl rows).getD (0 + (p : Int).toNat) 0) ((zl rows).getD (0 + (q : Int).toNat) 0)) = zl (rows.set p (rows.getD p 0 ^^^ rows.getD q 0)) := by
          rw [ep, eq, zl_get, zl_get, xor_u64 (hb64 p) (hb64 q), zl_set]
        exact ⟨⟨n - 1, k + 1 + 1, rows.set p (rows.getD p 0 ^^^ rows.getD q 0)⟩, ⟨⟨by show n - 1 ≤ 200; omega, by simpa using hrl, set_bd hm.bd (xor_lt (hm.bd p) (hm.bd q)), hm.ker.step (by omega) (by omega) (Ne.symm q2)⟩, by show n - 1 < n; omega⟩,
          .id ⟨congrArg (fun n : Nat => SV.o (.c (.s 2 0 n 1))) (show rows.length = (rows.set p (rows.getD p 0 ^^^ rows.getD q 0)).length by simp), congrArg (int .i64) wn, trivial⟩ rfl ⟨.inl rfl, leB.ints_eq key id, trivial⟩ rfl⟩
      · repeat refine AJoin.plain ?_
        repeat (first | refine And.intro (by kernel_rfl) ?_ | refine And.intro (by decide) ?_)
        exact ⟨⟨rows, k⟩, hm, .id rfl ⟨.inl rfl, .inl rfl, .inl rfl, trivial⟩⟩
    · repeat refine AJoin.plain ?_
      repeat (first | refine And.intro (by kernel_rfl) ?_ | refine And.intro (by decide) ?_)
      exact ⟨⟨rows, k⟩, hm, .id rfl ⟨.inl rfl, .inl rfl, .inl rfl, trivial⟩⟩
theorem inv10_0 : inv10F [3, 2] = ([3, 2], 0) := by kernel_rfl
theorem bd2 (B : Nat) (hB : 3 < B) (k : Nat) : ([3, 2] : List Nat).getD k 0 < B := by
  rcases k with _ | _ | k <;> simp <;> omega
theorem inv10_fc : FC Tryd.prog 12 [.o (.c (.s 0 0 2 1))] [some ⟨.ints .u64 [3, 2], false⟩] (.t [.c (.s 1 0 2 1), .c (.v (.int .i64 0))]) [some ⟨.ints .u64 [3, 2], false⟩, some ⟨.ints .u64 [3, 2], true⟩] := by
  obtain ⟨d, h, e⟩ := inverse10_fc [3, 2] (by decide) (bd2 _ (by decide))
  rw [inv10_0] at e
  subst e
  exact h
theorem val10_fc (a r : Nat) (h : valF [3, 2] a = r) (ha : a < 18446744073709551616) : FC Tryd.prog 14 [.o (.c (.s 0 0 2 1)), int .u64 a] [some ⟨.ints .u64 [3, 2], false⟩] (int .u64 r) [some ⟨.ints .u64 [3, 2], false⟩] := by
  have := value_fc [3, 2] a (by decide) (bd2 _ (by decide)) ha
  rw [h] at this
  exact this
theorem check10_0 : checkF [3, 2] = 0 := by kernel_rfl
theorem chk10_fc : FC Tryd.prog 21 [.o (.c (.s 0 0 2 1))] [some ⟨.ints .u64 [3, 2], false⟩] (int .i64 0) [some ⟨.ints .u64 [3, 2], false⟩] := by
  have := check10_fc [3, 2] (by decide) (bd2 _ (by decide))
  rw [check10_0] at this
  exact this
theorem v32 : valF [3, 2] 2 = 3 := by kernel_rfl
theorem v33 : valF [3, 2] 3 = 2 := by kernel_rfl
set_option maxHeartbeats 3200000 in
set_option maxRecDepth 10000 in
theorem awake_fc : FC Tryd.prog 7 [] [] (boo true) [] := by
  refine FC.one (FC.r mix Tryd.func7 ?_)
  repeat (first | refine And.intro (by kernel_rfl) ?_ | refine And.intro (by decide) ?_)
  refine FC.u inv10_fc [0] ?_
  repeat (first | refine And.intro (by kernel_rfl) ?_ | refine And.intro (by decide) ?_)
  refine FC.u (val10_fc 2 3 v32 (by decide)) [2] ?_
  repeat (first | refine And.intro (by kernel_rfl) ?_ | refine And.intro (by decide) ?_)
  refine FC.u chk10_fc [3] ?_
  repeat (first | refine And.intro (by kernel_rfl) ?_ | refine And.intro (by decide) ?_)
  refine FC.u (val10_fc 3 2 v33 (by decide)) [1] ?_
  repeat (first | refine And.intro (by kernel_rfl) ?_ | refine And.intro (by decide) ?_)
  exact ⟨(), trivial, .id rfl trivial⟩
end Go.Sx.T1
namespace Go.Sx.T1
open Go.Proofs Go.Sx.Gf
def possB (n : Int) : Bool := decide (n ≥ 0) && decide (n ≤ 1048576)
set_option maxHeartbeats 3200000 in
set_option maxRecDepth 10000 in
theorem poss_fc (n : Int) : FC Tryd.prog 31 [int .i64 n] [] (boo (possB n)) [] := by
  refine FC.one (FC.r mix Tryd.func31 ?_)
  repeat (first | refine And.intro (by kernel_rfl) ?_ | refine And.intro (by decide) ?_)
  refine bselD (fun h => ?_) (fun h => ?_)
  · repeat (first | refine And.intro (by kernel_rfl) ?_ | refine And.intro (by decide) ?_)
    exact ⟨(), trivial, .id (congrArg boo (by simp [possB, h])) trivial⟩
  · repeat (first | refine And.intro (by kernel_rfl) ?_ | refine And.intro (by decide) ?_)
    exact ⟨(), trivial, .id (congrArg boo (by simp [possB, h])) trivial⟩
/-- how often each value occurs among the first k addresses -/
def spF (ms : List Nat) (from' stride : Nat) : Nat → List Int
  | 0 => List.replicate (2 ^ ms.length) 0
  | k + 1 => (spF ms from' stride k).set (valF ms (from' + k * stride)) ((spF ms from' stride k).getD (valF ms (from' + k * stride)) 0 + 1)
theorem spF_len (ms : List Nat) (f s : Nat) : ∀ k, (spF ms f s k).length = 2 ^ ms.length
  | 0 => by simp [spF]
  | k + 1 => by rw [spF, List.length_set, spF_len ms f s k]
theorem spF_bd (ms : List Nat) (f s : Nat) : ∀ k v, 0 ≤ (spF ms f s k).getD v 0 ∧ (spF ms f s k).getD v 0 ≤ k
  | 0, v => by
    simp only [spF, List.getD_eq_getElem?_getD, List.getElem?_replicate]
    split <;> simp
  | k + 1, v => by
    rw [spF]
    simp only [List.getD_eq_getElem?_getD, List.getElem?_set]
    have h1 := spF_bd ms f s k v
    have h2 := spF_bd ms f s k (valF ms (f + k * s))
    rw [List.getD_eq_getElem?_getD] at h1 h2
    split
    · split
      · simp only [Option.getD_some]; omega
      · simp only [Option.getD_none]; omega
    · omega
def spreadF (ms : List Nat) (f s n : Int) : List Int × Int :=
  if ms.length > 12 then ([], 7) else if possB f = true ∧ possB s = true ∧ 0 ≤ n ∧ n ≤ 4096 then (spF ms f.toNat s.toNat n.toNat, 0) else ([], 2)
def spS (k : Nat) (p : List Int × Int) : SV := .t [.c (.s k 0 p.1.length 1), .c (.v (.int .i64 p.2))]
theorem pow12 {n : Nat} (h : n ≤ 12) : 2 ^ n ≤ 4096 := Nat.pow_le_pow_right (n := 2) (by omega) h
theorem one_shlI {n : Nat} (h : n ≤ 12) : IntKind.i64.wrap (1 * 2 ^ min (n : Int).toNat IntKind.i64.bits) = ((2 ^ n : Nat) : Int) := by
  have := pow12 h
  rw [show min (n : Int).toNat IntKind.i64.bits = n by rw [Int.toNat_natCast]; exact Nat.min_eq_left (Nat.le_trans h (by decide)), Int.one_mul, show ((2 : Int) ^ n) = ((2 ^ n : Nat) : Int) by rw [Int.natCast_pow]; rfl]
  generalize 2 ^ n = P at this
  exact wrap64_in (by omega) (by omega)
set_option maxHeartbeats 3200000 in
set_option maxRecDepth 10000 in
theorem spread_fc (ms : List Nat) (f s n : Int) (hl : ms.length ≤ 140737488351232) (hr : ∀ k, ms.getD k 0 < 18446744073709551616) :
    ∃ p : List Int × Int, FC Tryd.prog 18 [.o (.c (.s 0 0 ms.length 1)), int .i64 f, int .i64 s, int .i64 n] [u64n ms false] (spS 1 p) [u64n ms false, i64s p.1 true] ∧ p = spreadF ms f s n := by
  refine FC.rj mix Tryd.func18 ?_
  repeat (first | refine And.intro (by kernel_rfl) ?_ | refine And.intro (by decide) ?_)
  repeat refine AJoin.plain ?_
  refine bselD (fun h1 => ?_) (fun h1 => ?_)
  · repeat (first | refine And.intro (by kernel_rfl) ?_ | refine And.intro (by decide) ?_)
    exact ⟨([], 7), by rw [spreadF, if_pos (by omega)], isEnd.go [(1, .new 1)] rfl ⟨.inl rfl, newI 1 rfl, trivial⟩⟩
  repeat refine AJoin.plain ?_
  refine FC.u (poss_fc f) [] ?_
  refine bselNot (bsel_intro (fun h2 => ?_) (fun h2 => ?_))
  rotate_left
  · repeat (first | refine And.intro (by kernel_rfl) ?_ | refine And.intro (by decide) ?_)
    exact ⟨([], 2), by rw [spreadF, if_neg (by omega), if_neg (by rw [h2]; simp)], isEnd.go [(1, .new 1)] rfl ⟨.inl rfl, newI 1 rfl, trivial⟩⟩
  refine FC.u (poss_fc s) [] ?_
  refine bselNot (bsel_intro (fun h3 => ?_) (fun h3 => ?_))
  rotate_left
  · repeat (first | refine And.intro (by kernel_rfl) ?_ | refine And.intro (by decide) ?_)
    exact ⟨([], 2), by rw [spreadF, if_neg (by omega), if_neg (by rw [h3]; simp)], isEnd.go [(1, .new 1)] rfl ⟨.inl rfl, newI 1 rfl, trivial⟩⟩
  refine bselD (fun h4 => ?_) (fun h4 => ?_)
  · repeat (first | refine And.intro (by kernel_rfl) ?_ | refine And.intro (by decide) ?_)
    exact ⟨([], 2), by rw [spreadF, if_neg (by omega), if_neg (by omega)], isEnd.go [(1, .new 1)] rfl ⟨.inl rfl, newI 1 rfl, trivial⟩⟩
  refine bselD (fun h5 => ?_) (fun h5 => ?_)
  · repeat (first | refine And.intro (by kernel_rfl) ?_ | refine And.intro (by decide) ?_)
    exact ⟨([], 2), by rw [spreadF, if_neg (by omega), if_neg (by omega)], isEnd.go [(1, .new 1)] rfl ⟨.inl rfl, newI 1 rfl, trivial⟩⟩
  have b2 : 0 ≤ f ∧ f ≤ 1048576 := by simpa [possB] using h2
  have b3 : 0 ≤ s ∧ s ≤ 1048576 := by simpa [possB] using h3
  obtain ⟨f, rfl⟩ : ∃ v : Nat, f = v := ⟨f.toNat, by omega⟩
  obtain ⟨s, rfl⟩ : ∃ v : Nat, s = v := ⟨s.toNat, by omega⟩
  obtain ⟨n, rfl⟩ : ∃ v : Nat, n = v := ⟨n.toNat, by omega⟩
  have o1 := one_shlI (n := ms.length) (by omega)
  have o2 := pow12 (n := ms.length) (by omega)
  repeat refine AJoin.plain ?_
  refine And.intro (by omega) ?_
  conv => whnf
  rw [o1]
  refine And.intro ⟨Int.natCast_nonneg _, rfl, by generalize 2 ^ ms.length = P at *; omega⟩ ?_
  conv => whnf
  rw [Int.toNat_natCast]
  refine ALoop.go (X := Nat) (fun k => k ≤ n) (fun k => n - k) [0, 1, 2, 40] [0] (fun k => [(11, .o (.c (.s 1 0 (spF ms f s k).length 1))), (41, int .i64 k)]) (fun k => [(1, ⟨.ints .i64 (spF ms f s k), true⟩)]) 0
    (Nat.zero_le _) ⟨congrArg (fun n : Nat => SV.o (.c (.s 1 0 n 1))) (spF_len ms f s 0).symm, rfl, trivial⟩ ⟨.inl rfl, trivial⟩ ?_
  intro k hk
  have sl := spF_len ms f s k
  dsimp only [headF, headM]
  refine bselD (fun h => ?_) (fun h => ?_)
  · have h' : k < n := by omega
    have wk : IntKind.i64.wrap ((k : Int) + 1) = ((k + 1 : Nat) : Int) := wrap64_in (by omega) (by omega)
    have km : k * s ≤ 4096 * 1048576 := Nat.mul_le_mul (by omega) (by omega)
    have w1 : IntKind.u64.wrap (IntKind.i64.wrap ((f : Int) + IntKind.i64.wrap ((k : Int) * (s : Int)))) = ((f + k * s : Nat) : Int) := by
      rw [show (k : Int) * (s : Int) = ((k * s : Nat) : Int) by rw [Int.natCast_mul], wrap64_in (n := ((k * s : Nat) : Int)) (by omega) (by omega), wrap64_in (by omega) (by omega), wrapU64_in (by omega) (by omega)]; omega
    repeat refine AJoin.plain ?_
    conv => whnf
    rw [w1]
    refine FC.u (value_fc ms (f + k * s) hl hr (by omega)) [0] ?_
    have hv : valF ms (f + k * s) < 2 ^ ms.length := by
      have := apF_lt ms (f + k * s) (min ms.length 64)
      rw [Nat.min_eq_left (by omega)] at this
      rw [valF, Nat.min_eq_left (by omega)]; exact this
    obtain ⟨v, hve⟩ : ∃ v, valF ms (f + k * s) = v := ⟨_, rfl⟩
    rw [hve] at hv ⊢
    have ev : 0 + (v : Int).toNat = v := by simp
    refine And.intro ⟨by omega, by omega⟩ ?_
    refine And.intro (by show 0 + (v : Int).toNat < (spF ms f s k).length; omega) ?_
    refine And.intro ⟨by omega, by omega⟩ ?_
    refine And.intro (by show 0 + (v : Int).toNat < (spF ms f s k).length; omega) ?_
    repeat (first | refine And.intro (by kernel_rfl) ?_ | refine And.intro (by decide) ?_)
    refine ⟨k + 1, ⟨h', by show n - (k + 1) < n - k; omega⟩, .id ⟨congrArg (fun n : Nat => SV.o (.c (.s 1 0 n 1))) (by rw [spF_len, spF_len]), congrArg (int .i64) wk, trivial⟩ rfl ⟨leB.ints_eq ?_ id, trivial⟩ rfl⟩
    show (spF ms f s k).set (0 + (v : Int).toNat) (IntKind.i64.wrap ((spF ms f s k).getD (0 + (v : Int).toNat) 0 + 1)) = spF ms f s (k + 1)
    have bd := spF_bd ms f s k v
    rw [ev, wrap64_in (by omega) (by omega), spF, hve]
  · obtain rfl : k = n := by omega
    repeat (first | refine And.intro (by kernel_rfl) ?_ | refine And.intro (by decide) ?_)
    exact ⟨(spF ms f s k, 0), by rw [spreadF, if_neg (by omega), if_pos ⟨h2, h3, by omega, by omega⟩, Int.toNat_natCast, Int.toNat_natCast, Int.toNat_natCast], isEnd.go [(1, .to 1)] rfl ⟨.inl rfl, .inl rfl, trivial⟩⟩
end Go.Sx.T1
namespace Go.Sx.T1
open Go.Proofs Go.Sx.Gf
/-- the hash that does one after the other, and the error -/
def joinF (a b : List Nat) : List Nat × Int :=
  if checkF a ≠ 0 then ([], checkF a) else if checkF b ≠ 0 then ([], checkF b) else if a.length ≠ b.length then ([], 7) else if a.length = 0 then ([], 0) else (mul b a, 0)
def joinM (a b : List Nat) (p : List Nat × Int) : Mem := [u64n a false, u64n b false, tabB, u64n p.1 true]
def joinT (k : Nat) (p : List Nat × Int) : SV := .t [.c (.s k 0 p.1.length 1), .c (.v (.int .i64 p.2))]
theorem okM_chk {a : List Nat} (h : checkF a = 0) (h0 : a.length ≠ 0) : okM a.length a = true := by
  cases ho : okM a.length a with
  | true => rfl
  | false =>
    rw [checkF, if_neg h0, ho, if_pos rfl] at h
    split at h <;> exact absurd h (by decide)
set_option maxHeartbeats 3200000 in
set_option maxRecDepth 10000 in
theorem join10_fc (a b : List Nat) (hla : a.length ≤ 140737488351232) (hlb : b.length ≤ 140737488351232) (ha : ∀ k, a.getD k 0 < 18446744073709551616) (hb : ∀ k, b.getD k 0 < 18446744073709551616) :
    ∃ p : List Nat × Int, FC Tryd.prog 13 [.o (.c (.s 0 0 a.length 1)), .o (.c (.s 1 0 b.length 1))] [u64n a false, u64n b false, tabB] (joinT 3 p) (joinM a b p) ∧ p = joinF a b := by
  refine FC.rj mix Tryd.func13 ?_
  repeat (first | refine And.intro (by kernel_rfl) ?_ | refine And.intro (by decide) ?_)
  refine ALoop.go (X := Nat) (fun i => i ≤ 2 ∧ (1 ≤ i → checkF a = 0) ∧ (2 ≤ i → checkF b = 0)) (fun i => 2 - i) [0, 1, 13, 14] [0, 1, 2, 3] (fun i => [(15, int .i64 i)]) (fun _ => []) 0 ⟨by decide, fun h => by omega, fun h => by omega⟩ ⟨rfl, trivial⟩ trivial ?_
    (hs := fun _ => ⟨Nat.le_of_ble_eq_true rfl, rfl, by repeat' (first | exact trivial | exact rfl | exact fun _ _ => rfl | (intro i hi; rcases (show i = 0 ∨ i = 1 by omega) with rfl | rfl <;> rfl) | refine ⟨?_, ?_⟩)⟩)
  rintro i ⟨hi, hia, hib⟩
  dsimp only [headF, headM]
  refine bselD (fun h => ?_) (fun h => ?_)
  · have h' : i < 2 := by omega
    obtain rfl | rfl : i = 0 ∨ i = 1 := by omega
    · repeat refine AJoin.plain ?_
      refine And.intro ⟨by decide, by decide⟩ ?_
      refine And.intro (by decide) ?_
      repeat (first | refine And.intro (by kernel_rfl) ?_ | refine And.intro (by decide) ?_)
      refine FC.u (check10_fc a hla ha) [0] ?_
      repeat (first | refine And.intro (by kernel_rfl) ?_ | refine And.intro (by decide) ?_)
      refine bselN (fun c => ?_) (fun c => ?_)
      · repeat (first | refine And.intro (by kernel_rfl) ?_ | refine And.intro (by decide) ?_)
        exact ⟨([], checkF a), by rw [joinF, if_pos c], isEnd.go [(3, .new 1)] rfl ⟨.inl rfl, .inl rfl, .inl rfl, newI 1 rfl, trivial⟩⟩
      · repeat refine AJoin.plain ?_
        exact ⟨1, ⟨⟨by decide, fun _ => c, fun h => by omega⟩, by decide⟩, .id ⟨rfl, trivial⟩ rfl trivial rfl⟩
    · have ca := hia (by decide)
      repeat refine AJoin.plain ?_
      refine And.intro ⟨by decide, by decide⟩ ?_
      refine And.intro (by decide) ?_
      repeat (first | refine And.intro (by kernel_rfl) ?_ | refine And.intro (by decide) ?_)
      refine FC.u (check10_fc b hlb hb) [1] ?_
      repeat (first | refine And.intro (by kernel_rfl) ?_ | refine And.intro (by decide) ?_)
      refine bselN (fun c => ?_) (fun c => ?_)
      · repeat (first | refine And.intro (by kernel_rfl) ?_ | refine And.intro (by decide) ?_)
        exact ⟨([], checkF b), by rw [joinF, if_neg (fun h => h ca), if_pos c], isEnd.go [(3, .new 1)] rfl ⟨.inl rfl, .inl rfl, .inl rfl, newI 1 rfl, trivial⟩⟩
      · repeat refine AJoin.plain ?_
        exact ⟨2, ⟨⟨by decide, fun _ => ca, fun _ => c⟩, by decide⟩, .id ⟨rfl, trivial⟩ rfl trivial rfl⟩
  · obtain rfl : i = 2 := by omega
    have ca := hia (by decide)
    have cb := hib (by decide)
    have e0 : joinF a b = if a.length ≠ b.length then ([], 7) else if a.length = 0 then ([], 0) else (mul b a, 0) := by rw [joinF, if_neg (fun h => h ca), if_neg (fun h => h cb)]
    repeat refine AJoin.plain ?_
    refine bselN (fun c1 => ?_) (fun c1 => ?_)
    · repeat (first | refine And.intro (by kernel_rfl) ?_ | refine And.intro (by decide) ?_)
      exact ⟨([], 7), by rw [e0, if_pos (by omega)], isEnd.go [(3, .new 1)] rfl ⟨.inl rfl, .inl rfl, .inl rfl, newI 1 rfl, trivial⟩⟩
    repeat refine AJoin.plain ?_
    refine bselE (fun c2 => ?_) (fun c2 => ?_)
    · repeat (first | refine And.intro (by kernel_rfl) ?_ | refine And.intro (by decide) ?_)
      exact ⟨([], 0), by rw [e0, if_neg (by omega), if_pos (by omega)], isEnd.go [(3, .new 1)] rfl ⟨.inl rfl, .inl rfl, .inl rfl, newI 1 rfl, trivial⟩⟩
    have e1 : joinF a b = (mul b a, 0) := by rw [e0, if_neg (by omega), if_neg (by omega)]
    have oa : okM a.length a = true := okM_chk ca (by omega)
    have ob : okM b.length b = true := okM_chk cb (by omega)
    have em : mulF b.length b a.length a = ⟨a.length, mul b a, 0⟩ := by rw [mulF, if_pos ⟨ob, oa⟩, if_neg (by omega)]
    have lm : (mul b a).length = b.length := by simp [mul]
    have bl : b.length ≤ 64 := by have := (okM_bd ob).2.2.2.1; omega
    repeat refine AJoin.plain ?_
    refine FC.u (matrix10_fc b) [1] ?_
    repeat (first | refine And.intro (by kernel_rfl) ?_ | refine And.intro (by decide) ?_)
    refine FC.u (matrix10_fc a) [0] ?_
    repeat (first | refine And.intro (by kernel_rfl) ?_ | refine And.intro (by decide) ?_)
    refine FC.x (mul_fc b.length b a.length a hlb hla hb ha) [1, 0, 2] (fun d hd => ?_)
    rw [em] at hd
    subst hd
    repeat (first | refine And.intro (by kernel_rfl) ?_ | refine And.intro (by decide) ?_)
    refine FC.u (cloneN (mul b a) (by omega)) [4] ?_
    repeat (first | refine And.intro (by kernel_rfl) ?_ | refine And.intro (by decide) ?_)
    exact ⟨(mul b a, 0), e1.symm, isEnd.go [(3, .to 6)] rfl ⟨.inl rfl, .inl rfl, .inl rfl, .inl rfl, trivial⟩⟩
end Go.Sx.T1
namespace Go.Sx.T1
open Go.Proofs Go.Sx.Gf
def joinM2 (a b : List Nat) (p : List Nat × Int) : Mem := [u64n a false, u64n b false, u64n p.1 true]
set_option maxHeartbeats 3200000 in
set_option maxRecDepth 10000 in
theorem join10r_fc (a b : List Nat) (hla : a.length ≤ 140737488351232) (hlb : b.length ≤ 140737488351232) (ha : ∀ k, a.getD k 0 < 18446744073709551616) (hb : ∀ k, b.getD k 0 < 18446744073709551616) :
    ∃ p : List Nat × Int, FC Tryd.prog 17 [.o (.c (.s 0 0 a.length 1)), .o (.c (.s 1 0 b.length 1))] [u64n a false, u64n b false] (joinT 2 p) (joinM2 a b p) ∧ p = joinF a b := by
  refine FC.rj mix Tryd.func17 ?_
  repeat (first | refine And.intro (by kernel_rfl) ?_ | refine And.intro (by decide) ?_)
  refine FC.u (check10r_fc a hla ha) [0] ?_
  repeat refine AJoin.plain ?_
  refine bselN (fun ca => ?_) (fun ca => ?_)
  · repeat (first | refine And.intro (by kernel_rfl) ?_ | refine And.intro (by decide) ?_)
    exact ⟨([], checkF a), by rw [joinF, if_pos ca], isEnd.go [(2, .new 1)] rfl ⟨.inl rfl, .inl rfl, newI 1 rfl, trivial⟩⟩
  repeat refine AJoin.plain ?_
  refine FC.u (check10r_fc b hlb hb) [1] ?_
  repeat refine AJoin.plain ?_
  refine bselN (fun cb => ?_) (fun cb => ?_)
  · repeat (first | refine And.intro (by kernel_rfl) ?_ | refine And.intro (by decide) ?_)
    exact ⟨([], checkF b), by rw [joinF, if_neg (fun h => h ca), if_pos cb], isEnd.go [(2, .new 1)] rfl ⟨.inl rfl, .inl rfl, newI 1 rfl, trivial⟩⟩
  have e0 : joinF a b = if a.length ≠ b.length then ([], 7) else if a.length = 0 then ([], 0) else (mul b a, 0) := by rw [joinF, if_neg (fun h => h ca), if_neg (fun h => h cb)]
  repeat refine AJoin.plain ?_
  refine bselN (fun c1 => ?_) (fun c1 => ?_)
  · repeat (first | refine And.intro (by kernel_rfl) ?_ | refine And.intro (by decide) ?_)
    exact ⟨([], 7), by rw [e0, if_pos (by omega)], isEnd.go [(2, .new 1)] rfl ⟨.inl rfl, .inl rfl, newI 1 rfl, trivial⟩⟩
  repeat refine AJoin.plain ?_
  refine bselE (fun c2 => ?_) (fun c2 => ?_)
  · repeat (first | refine And.intro (by kernel_rfl) ?_ | refine And.intro (by decide) ?_)
    exact ⟨([], 0), by rw [e0, if_neg (by omega), if_pos (by omega)], isEnd.go [(2, .new 1)] rfl ⟨.inl rfl, .inl rfl, newI 1 rfl, trivial⟩⟩
  have e1 : joinF a b = (mul b a, 0) := by rw [e0, if_neg (by omega), if_neg (by omega)]
  have oa : okM a.length a = true := okM_chk ca (by omega)
  have ob : okM b.length b = true := okM_chk cb (by omega)
  have em : mulF b.length b a.length a = ⟨a.length, mul b a, 0⟩ := by rw [mulF, if_pos ⟨ob, oa⟩, if_neg (by omega)]
  repeat refine AJoin.plain ?_
  refine FC.x (mul05_fc b.length b a.length a hb ha) [1, 0] (fun d hd => ?_)
  rw [em] at hd
  subst hd
  repeat (first | refine And.intro (by kernel_rfl) ?_ | refine And.intro (by decide) ?_)
  exact ⟨(mul b a, 0), e1.symm, isEnd.go [(2, .to 2)] rfl ⟨.inl rfl, .inl rfl, .inl rfl, trivial⟩⟩
set_option maxHeartbeats 3200000 in
set_option maxRecDepth 10000 in
theorem spread10r_fc (ms : List Nat) (f s n : Int) (hl : ms.length ≤ 140737488351232) (hr : ∀ k, ms.getD k 0 < 18446744073709551616) :
    ∃ p : List Int × Int, FC Tryd.prog 19 [.o (.c (.s 0 0 ms.length 1)), int .i64 f, int .i64 s, int .i64 n] [u64n ms false] (spS 1 p) [u64n ms false, i64s p.1 true] ∧ p = spreadF ms f s n := by
  refine FC.rj mix Tryd.func19 ?_
  have bad : ms.length ≤ 12 → ¬ (0 ≤ f ∧ f ≤ 1048576 ∧ 0 ≤ s ∧ s ≤ 1048576 ∧ 0 ≤ n ∧ n ≤ 4096) → (([], 2) : List Int × Int) = spreadF ms f s n := fun h0 h => by
    rw [spreadF, if_neg (by omega), if_neg]
    rintro ⟨h1, h2, h3, h4⟩
    simp [possB] at h1 h2
    omega
  repeat (first | refine And.intro (by kernel_rfl) ?_ | refine And.intro (by decide) ?_)
  repeat refine AJoin.plain ?_
  refine bselD (fun h1 => ?_) (fun h1 => ?_)
  · repeat (first | refine And.intro (by kernel_rfl) ?_ | refine And.intro (by decide) ?_)
    exact ⟨([], 7), by rw [spreadF, if_pos (by omega)], isEnd.go [(1, .new 1)] rfl ⟨.inl rfl, newI 1 rfl, trivial⟩⟩
  repeat refine AJoin.plain ?_
  refine bselD (fun c1 => ?_) (fun c1 => ?_)
  · repeat (first | refine And.intro (by kernel_rfl) ?_ | refine And.intro (by decide) ?_)
    exact ⟨([], 2), bad (by omega) (by omega), isEnd.go [(1, .new 1)] rfl ⟨.inl rfl, newI 1 rfl, trivial⟩⟩
  refine bselD (fun c2 => ?_) (fun c2 => ?_)
  · repeat (first | refine And.intro (by kernel_rfl) ?_ | refine And.intro (by decide) ?_)
    exact ⟨([], 2), bad (by omega) (by omega), isEnd.go [(1, .new 1)] rfl ⟨.inl rfl, newI 1 rfl, trivial⟩⟩
  refine bselD (fun c3 => ?_) (fun c3 => ?_)
  · repeat (first | refine And.intro (by kernel_rfl) ?_ | refine And.intro (by decide) ?_)
    exact ⟨([], 2), bad (by omega) (by omega), isEnd.go [(1, .new 1)] rfl ⟨.inl rfl, newI 1 rfl, trivial⟩⟩
  refine bselD (fun c4 => ?_) (fun c4 => ?_)
  · repeat (first | refine And.intro (by kernel_rfl) ?_ | refine And.intro (by decide) ?_)
    exact ⟨([], 2), bad (by omega) (by omega), isEnd.go [(1, .new 1)] rfl ⟨.inl rfl, newI 1 rfl, trivial⟩⟩
  refine bselD (fun c5 => ?_) (fun c5 => ?_)
  · repeat (first | refine And.intro (by kernel_rfl) ?_ | refine And.intro (by decide) ?_)
    exact ⟨([], 2), bad (by omega) (by omega), isEnd.go [(1, .new 1)] rfl ⟨.inl rfl, newI 1 rfl, trivial⟩⟩
  refine bselD (fun c6 => ?_) (fun c6 => ?_)
  · repeat (first | refine And.intro (by kernel_rfl) ?_ | refine And.intro (by decide) ?_)
    exact ⟨([], 2), bad (by omega) (by omega), isEnd.go [(1, .new 1)] rfl ⟨.inl rfl, newI 1 rfl, trivial⟩⟩
  have p2 : possB f = true := by simp [possB]; omega
  have p3 : possB s = true := by simp [possB]; omega
  obtain ⟨f, rfl⟩ : ∃ v : Nat, f = v := ⟨f.toNat, by omega⟩
  obtain ⟨s, rfl⟩ : ∃ v : Nat, s = v := ⟨s.toNat, by omega⟩
  obtain ⟨n, rfl⟩ : ∃ v : Nat, n = v := ⟨n.toNat, by omega⟩
  have o1 := one_shlI (n := ms.length) (by omega)
  have o2 := pow12 (n := ms.length) (by omega)
  have ul : IntKind.u64.wrap (ms.length : Int) = (ms.length : Int) := wrapU64_in (by omega) (by omega)
  repeat refine AJoin.plain ?_
  conv => whnf
  rw [ul]
  refine And.intro (by omega) ?_
  conv => whnf
  rw [o1]
  refine And.intro ⟨Int.natCast_nonneg _, rfl, by generalize 2 ^ ms.length = P at *; omega⟩ ?_
  conv => whnf
  rw [Int.toNat_natCast]
  refine ALoop.go (X := Nat) (fun k => k ≤ n) (fun k => n - k) [0, 1, 2, 3] [0] (fun k => [(10, .o (.c (.s 1 0 (spF ms f s k).length 1))), (11, int .i64 k)]) (fun k => [(1, ⟨.ints .i64 (spF ms f s k), true⟩)]) 0
    (Nat.zero_le _) ⟨congrArg (fun n : Nat => SV.o (.c (.s 1 0 n 1))) (spF_len ms f s 0).symm, rfl, trivial⟩ ⟨.inl rfl, trivial⟩ ?_
  intro k hk
  have sl := spF_len ms f s k
  dsimp only [headF, headM]
  refine bselD (fun h => ?_) (fun h => ?_)
  · have h' : k < n := by omega
    have wk : IntKind.i64.wrap ((k : Int) + 1) = ((k + 1 : Nat) : Int) := wrap64_in (by omega) (by omega)
    have km : k * s ≤ 4096 * 1048576 := Nat.mul_le_mul (by omega) (by omega)
    have w1 : IntKind.u64.wrap (IntKind.i64.wrap ((f : Int) + IntKind.i64.wrap ((k : Int) * (s : Int)))) = ((f + k * s : Nat) : Int) := by
      rw [show (k : Int) * (s : Int) = ((k * s : Nat) : Int) by rw [Int.natCast_mul], wrap64_in (n := ((k * s : Nat) : Int)) (by omega) (by omega), wrap64_in (by omega) (by omega), wrapU64_in (by omega) (by omega)]; omega
    repeat refine AJoin.plain ?_
    conv => whnf
    rw [w1]
    refine FC.u (value10r_fc ms (f + k * s) hl hr (by omega)) [0] ?_
    have hv : valF ms (f + k * s) < 2 ^ ms.length := by
      have := apF_lt ms (f + k * s) (min ms.length 64)
      rw [Nat.min_eq_left (by omega)] at this
      rw [valF, Nat.min_eq_left (by omega)]; exact this
    obtain ⟨v, hve⟩ : ∃ v, valF ms (f + k * s) = v := ⟨_, rfl⟩
    rw [hve] at hv ⊢
    have ev : 0 + (v : Int).toNat = v := by simp
    refine And.intro ⟨by omega, by omega⟩ ?_
    refine And.intro (by show 0 + (v : Int).toNat < (spF ms f s k).length; omega) ?_
    refine And.intro ⟨by omega, by omega⟩ ?_
    refine And.intro (by show 0 + (v : Int).toNat < (spF ms f s k).length; omega) ?_
    repeat (first | refine And.intro (by kernel_rfl) ?_ | refine And.intro (by decide) ?_)
    refine ⟨k + 1, ⟨h', by show n - (k + 1) < n - k; omega⟩, .id ⟨congrArg (fun n : Nat => SV.o (.c (.s 1 0 n 1))) (by rw [spF_len, spF_len]), congrArg (int .i64) wk, trivial⟩ rfl ⟨leB.ints_eq ?_ id, trivial⟩ rfl⟩
    show (spF ms f s k).set (0 + (v : Int).toNat) (IntKind.i64.wrap ((spF ms f s k).getD (0 + (v : Int).toNat) 0 + 1)) = spF ms f s (k + 1)
    have bd := spF_bd ms f s k v
    rw [ev, wrap64_in (by omega) (by omega), spF, hve]
  · obtain rfl : k = n := by omega
    repeat (first | refine And.intro (by kernel_rfl) ?_ | refine And.intro (by decide) ?_)
    exact ⟨(spF ms f s k, 0), by rw [spreadF, if_neg (by omega), if_pos ⟨p2, p3, by omega, by omega⟩, Int.toNat_natCast, Int.toNat_natCast, Int.toNat_natCast], isEnd.go [(1, .to 1)] rfl ⟨.inl rfl, .inl rfl, trivial⟩⟩
set_option maxHeartbeats 3200000 in
set_option maxRecDepth 10000 in
theorem samei_fc (xs : List Int) (n : Nat) (hn : xs.length = n) (h32 : xs.length ≤ 4294967296) : FC Tryd.prog 23 [.o (.c (.s 0 0 xs.length 1)), .o (.c (.s 1 0 n 1))] [i64s xs false, i64s xs false] (boo true) [i64s xs false, i64s xs false] := by
  subst hn
  refine FC.one (FC.rj mix Tryd.func23 ?_)
  repeat (first | refine And.intro (by kernel_rfl) ?_ | refine And.intro (by decide) ?_)
  repeat refine AJoin.plain ?_
  refine bselN (fun h => absurd rfl h) (fun _ => ?_)
  repeat refine AJoin.plain ?_
  refine ALoop.go (X := Nat) (fun i => i ≤ xs.length) (fun i => xs.length - i) [0, 1] [0, 1] (fun i => [(5, int .i64 i)]) (fun _ => []) 0 (Nat.zero_le _) ⟨rfl, trivial⟩ trivial ?_
  intro i hi
  dsimp only [headF, headM]
  refine bselD (fun h => ?_) (fun h => ?_)
  · have h' : i < xs.length := by omega
    have wi : IntKind.i64.wrap ((i : Int) + 1) = ((i + 1 : Nat) : Int) := wrap64_in (by omega) (by omega)
    repeat refine AJoin.plain ?_
    refine And.intro ⟨by omega, h⟩ ?_
    refine And.intro (by show 0 + (i : Int).toNat < xs.length; omega) ?_
    refine And.intro ⟨by omega, h⟩ ?_
    refine And.intro (by show 0 + (i : Int).toNat < xs.length; omega) ?_
    repeat (first | refine And.intro (by kernel_rfl) ?_ | refine And.intro (by decide) ?_)
    refine bselN (fun h => absurd rfl h) (fun _ => ?_)
    repeat refine AJoin.plain ?_
    exact ⟨i + 1, ⟨h', by show xs.length - (i + 1) < xs.length - i; omega⟩, .id ⟨congrArg (int .i64) wi, trivial⟩ rfl trivial rfl⟩
  · obtain rfl : i = xs.length := by omega
    repeat (first | refine And.intro (by kernel_rfl) ?_ | refine And.intro (by decide) ?_)
    exact ⟨(), trivial, .id rfl ⟨.inl rfl, .inl rfl, trivial⟩⟩
set_option maxHeartbeats 3200000 in
set_option maxRecDepth 10000 in
theorem samel_fc (xs : List Nat) (h32 : xs.length ≤ 4294967296) : FC Tryd.prog 15 [.o (.c (.s 0 0 xs.length 1)), .o (.c (.s 1 0 xs.length 1))] [u64n xs false, u64n xs false] (boo true) [u64n xs false, u64n xs false] := by
  refine FC.one (FC.rj mix Tryd.func15 ?_)
  repeat (first | refine And.intro (by kernel_rfl) ?_ | refine And.intro (by decide) ?_)
  repeat refine AJoin.plain ?_
  refine bselN (fun h => absurd rfl h) (fun _ => ?_)
  repeat refine AJoin.plain ?_
  refine ALoop.go (X := Nat) (fun i => i ≤ xs.length) (fun i => xs.length - i) [0, 1] [0, 1] (fun i => [(5, int .i64 i)]) (fun _ => []) 0 (Nat.zero_le _) ⟨rfl, trivial⟩ trivial ?_
  intro i hi
  dsimp only [headF, headM]
  refine bselD (fun h => ?_) (fun h => ?_)
  · have h' : i < xs.length := by omega
    have wi : IntKind.i64.wrap ((i : Int) + 1) = ((i + 1 : Nat) : Int) := wrap64_in (by omega) (by omega)
    repeat refine AJoin.plain ?_
    refine And.intro ⟨by omega, h⟩ ?_
    refine And.intro (by show 0 + (i : Int).toNat < (zl xs).length; rw [zl_len]; omega) ?_
    refine And.intro ⟨by omega, h⟩ ?_
    refine And.intro (by show 0 + (i : Int).toNat < (zl xs).length; rw [zl_len]; omega) ?_
    repeat (first | refine And.intro (by kernel_rfl) ?_ | refine And.intro (by decide) ?_)
    refine bselN (fun h => absurd rfl h) (fun _ => ?_)
    repeat refine AJoin.plain ?_
    exact ⟨i + 1, ⟨h', by show xs.length - (i + 1) < xs.length - i; omega⟩, .id ⟨congrArg (int .i64) wi, trivial⟩ rfl trivial rfl⟩
  · obtain rfl : i = xs.length := by omega
    repeat (first | refine And.intro (by kernel_rfl) ?_ | refine And.intro (by decide) ?_)
    exact ⟨(), trivial, .id rfl ⟨.inl rfl, .inl rfl, trivial⟩⟩
end Go.Sx.T1
namespace Go.Sx.Gf
theorem pv_range (ps : List Pr) : ∀ c, (solveE ps c).pv.length = c → (solveE ps c).pv = List.range c
  | 0, _ => rfl
  | c + 1, h => by
    have hi := solve_inv ps c
    have hf := free_len ps c
    rw [solveE] at h ⊢
    cases hp : pick (solveE ps c) c with
    | none =>
      rw [show stepE (solveE ps c) c = solveE ps c by simp only [stepE, hp]] at h
      omega
    | some i =>
      have hs : (stepE (solveE ps c) c).pv = (solveE ps c).pv ++ [c] := by simp only [stepE, hp]
      rw [hs] at h ⊢
      have hl : (solveE ps c).pv.length = c := by simpa using h
      rw [pv_range ps c hl, List.range_succ]
section
variable {rows pts : List Nat} {n : Nat} (hn : rows.length = n) (hp : pts.length = n) (hpt : ∀ k, k < n → pts.getD k 0 = 2 ^ k) (hrk : rk n rows = n)
include hn hp hpt hrk
/-- x is mapped to v exactly if the inverse maps v to x -/
theorem inv_iff (x v : Nat) : (∀ k, k < n → dot n (rows.getD k 0) x = v.testBit k) ↔ ∀ k, k < n → dot n (((solveE (rows.zip pts) n).ps.getD k z2).2) v = x.testBit k := by
  have hzl : (rows.zip pts).length = n := by simp [hn, hp]
  have hi := solve_inv (rows.zip pts) n
  have hpl : (solveE (rows.zip pts) n).pv.length = n := by rw [rk_zip (by omega)]; exact hrk
  have hpv := pv_range _ _ hpl
  generalize solveE (rows.zip pts) n = e at hi hpl hpv
  have hel : e.ps.length = n := by rw [hi.len, hzl]
  have hg : ∀ k, k < n → e.pv.getD k 0 = k := fun k hk => by rw [hpv]; simp [List.getD_eq_getElem?_getD, hk]
  have hrow : ∀ k, k < n → dot n (e.ps.getD k z2).1 x = x.testBit k := fun k hk => by
    have h1 := hi.piv k (by omega)
    rw [hg k hk] at h1
    rw [dot_one hk fun b hb hne => ?_, h1, Bool.true_and]
    have h2 := hi.oth b (by omega) k (fun h => hne h.symm)
    rw [hg b hb] at h2
    rw [h2]; rfl
  have hz : ∀ k, k < n → (rows.zip pts).getD k z2 = (rows.getD k 0, 2 ^ k) := fun k hk => by
    rw [← hpt k hk]
    simp [List.getD_eq_getElem?_getD, hn, hp, hk]
  have he := hi.eqv n n x v
  unfold Holds at he
  rw [hzl, hel] at he
  constructor
  · intro h k hk
    have := he.2 (fun k hk => by rw [hz k hk]; simp only [dot_two v hk]; exact h k hk) k hk
    rw [hrow k hk] at this
    exact this.symm
  · intro h k hk
    have := he.1 (fun k hk => by rw [hrow k hk]; exact (h k hk).symm) k hk
    rw [hz k hk] at this
    simpa only [dot_two v hk] using this
end
end Go.Sx.Gf
namespace Go.Sx.T1
open Go.Proofs Go.Sx.Gf
theorem MkOk.check {b : Nat} {N : List Nat} (h : MkOk b N) (hb : b ≤ 60) : checkF N = 0 := by
  have hl := h.len
  unfold checkF
  rw [if_neg (by omega)]
  by_cases h0 : N.length = 0
  · rw [if_pos h0]
  · have ho : okM N.length N = true := by
      simp only [okM, sideB, Bool.and_eq_true, decide_eq_true_eq, List.all_eq_true]
      refine ⟨⟨by omega, by omega⟩, ⟨by omega, by omega⟩, fun v hv => ?_⟩
      obtain ⟨k, hk, rfl⟩ := List.getElem_of_mem hv
      have := h.bd k
      rw [List.getD_eq_getElem?_getD, List.getElem?_eq_getElem hk] at this
      rw [hl]; simpa using this
    have hf := h.ker.full
    rw [if_neg h0, if_neg (by simp [ho]), if_neg (by rw [hl]; omega)]
theorem rk_len (n : Nat) (rows : List Nat) : rk n rows ≤ rows.length := by
  have h := solve_inv (rows.zip (units rows.length)) n
  have h1 := rk_zip (C := n) (rows := rows) (pts := units rows.length) (units_len _)
  have h2 : (rows.zip (units rows.length)).length = rows.length := by simp [units_len]
  have := h.pvl
  have := h.len
  omega
theorem apF64 {rows : List Nat} {c v x : Nat} (hc : c ≤ 64) (hb : ∀ k, rows.getD k 0 < 2 ^ c) (hv : v < 2 ^ rows.length) : apF rows x rows.length = v ↔ ∀ k, k < rows.length → dot c (rows.getD k 0) x = v.testBit k := by
  constructor
  · intro h k hk
    rw [← h, apF, ofB_bit, decide_eq_true hk, Bool.true_and, dot_cut x (hb k) hc]
  · intro h
    refine eq_bits (apF_lt _ _ _) hv fun i hi => ?_
    rw [apF, ofB_bit, decide_eq_true hi, Bool.true_and, dot_cut x (hb i) hc, h i hi]
/-- masks with a full rank, and their inverse -/
structure InvOk (N r : List Nat) : Prop where
  len : r.length = N.length
  bd : ∀ k, r.getD k 0 < 2 ^ N.length
  iff : ∀ x v, x < 2 ^ N.length → v < 2 ^ N.length → (valF N x = v ↔ valF r v = x)
theorem inv_ok {N : List Nat} (h : checkF N = 0) (hl : N.length ≤ 64) : InvOk N (inv10F N).1 ∧ (inv10F N).2 = 0 := by
  by_cases h0 : N.length = 0
  · have e : inv10F N = ([], 0) := by rw [inv10F, if_pos (.inr h0), h]
    have e2 : N = [] := List.length_eq_zero_iff.1 h0
    rw [e]
    subst e2
    refine ⟨⟨rfl, fun k => by simp, fun x v hx hv => ?_⟩, rfl⟩
    have hx' : x = 0 := by simpa using hx
    have hv' : v = 0 := by simpa using hv
    subst hx' hv'
    exact Iff.rfl
  · have e : inv10F N = ((invF N.length N).rows, 0) := by rw [inv10F, if_neg (by omega)]
    rw [checkF, if_neg (by omega), if_neg h0] at h
    have ho : okM N.length N = true := by
      cases hk : okM N.length N with
      | true => rfl
      | false => rw [hk, if_pos rfl] at h; exact absurd h (by decide)
    rw [if_neg (by simp [ho])] at h
    have hrk : rk N.length N = N.length := by
      have := rk_len N.length N
      by_cases hlt : rk N.length N < N.length
      · rw [if_pos hlt] at h; exact absurd h (by decide)
      · omega
    obtain ⟨b1, b2, b3, b4, b5⟩ := okM_bd ho
    rw [Int.toNat_natCast] at b5
    have hz : (N.zip (units N.length)).length = N.length := by simp [units_len]
    have hpv : (solveE (N.zip (units N.length)) N.length).pv.length = N.length := by rw [rk_zip (units_len _)]; exact hrk
    have er : (invF N.length N).rows = snds (solveE (N.zip (units N.length)) N.length).ps := by
      rw [invF, ho, if_pos rfl, if_neg (by simp), if_neg (by omega)]
    rw [e, er]
    have hsl : (snds (solveE (N.zip (units N.length)) N.length).ps).length = N.length := by
      rw [snds_len, (solve_inv (N.zip (units N.length)) N.length).len, hz]
    have hB : Bd N.length N.length (N.zip (units N.length)) := fun k => by
      by_cases hk : k < N.length
      · have : (N.zip (units N.length)).getD k z2 = (N.getD k 0, (units N.length).getD k 0) := by
          have hk2 : k < (units N.length).length := by rw [units_len]; exact hk
          have hk3 : k < (N.zip (units N.length)).length := by omega
          rw [List.getD_eq_getElem?_getD, List.getElem?_eq_getElem hk3, List.getD_eq_getElem?_getD, List.getElem?_eq_getElem hk, List.getD_eq_getElem?_getD, List.getElem?_eq_getElem hk2, List.getElem_zip]; rfl
        rw [this]
        exact ⟨b5 k, units_bd _ _⟩
      · rw [getD_out (by omega)]
        exact z2_bd _ _
    have hbd : ∀ k, (snds (solveE (N.zip (units N.length)) N.length).ps).getD k 0 < 2 ^ N.length := fun k => by
      rw [snds_get]; exact (hB.solve N.length k).2
    refine ⟨⟨hsl, hbd, fun x v hx hv => ?_⟩, rfl⟩
    have key := inv_iff (rows := N) (pts := units N.length) (n := N.length) rfl (units_len _) (fun k hk => units_get hk) hrk x v
    have m1 : min N.length 64 = N.length := by omega
    have m2 : min (snds (solveE (N.zip (units N.length)) N.length).ps).length 64 = (snds (solveE (N.zip (units N.length)) N.length).ps).length := by omega
    rw [valF, m1, valF, m2, apF64 hl b5 hv, apF64 (c := N.length) hl hbd (by rw [hsl]; exact hx), hsl, key]
    constructor
    · intro h k hk; rw [snds_get]; exact h k hk
    · intro h k hk; have := h k hk; rwa [snds_get] at this
end Go.Sx.T1
namespace Go.Sx.T1
open Go.Proofs Go.Sx.Gf
theorem inv_len {a : List Nat} (h : a.length ≤ 100) : (inv10F a).1.length ≤ 100 := by
  by_cases hc : checkF a ≠ 0 ∨ a.length = 0
  · rw [inv10F, if_pos hc]; simp
  · have hc0 : checkF a = 0 := by
      by_cases e : checkF a = 0
      · exact e
      · exact absurd (.inl e) hc
    have h64 : a.length ≤ 64 := by
      by_cases e : a.length > 64
      · rw [checkF, if_pos e] at hc0; exact absurd hc0 (by decide)
      · omega
    rw [(inv_ok hc0 h64).1.len]; exact h
theorem join_len (a b : List Nat) (h : b.length ≤ 100) : (joinF a b).1.length ≤ 100 := by
  unfold joinF
  split
  · simp
  · split
    · simp
    · split
      · simp
      · split
        · simp
        · simp only [mul, List.length_map]; exact h
theorem spread_len (ms : List Nat) (f s n : Int) : (spreadF ms f s n).1.length ≤ 4096 := by
  unfold spreadF
  split
  · simp
  · split
    · simp only [spF_len]; exact pow12 (by omega)
    · simp
/-- numbers that came in are natural ones -/
theorem row_nat {w : World} {a : Option Addr} {len cap : Nat} {zs : List Int} (h : IsRowI .u64 w a len cap zs) (n : Nat) : ∃ ns : List Nat, zs.take n = zl ns ∧ ∀ k, ns.getD k 0 < 18446744073709551616 := by
  have hz : ∀ z ∈ zs, 0 ≤ z ∧ z ≤ 18446744073709551615 := by
    rcases h with ⟨_, _, _, rfl⟩ | ⟨_, _, _, _, _, _, hw⟩
    · intro z hz; cases hz
    · intro z hz
      have := hw z hz
      simpa [Lit.wf, IntKind.min, IntKind.max, IntKind.signed, IntKind.bits] using this
  refine ⟨(zs.take n).map Int.toNat, ?_, fun k => ?_⟩
  · have : ∀ l : List Int, (∀ z ∈ l, 0 ≤ z) → l = zl (l.map Int.toNat) := by
      intro l
      induction l with
      | nil => intro _; rfl
      | cons x l ih =>
        intro hl
        have hx := hl x (by simp)
        have hr := ih fun z hz => hl z (by simp [hz])
        unfold zl at hr ⊢
        simp only [List.map_cons]
        rw [← hr]
        congr 1
        exact (Int.toNat_of_nonneg hx).symm
    exact this _ fun z hz' => (hz z (List.mem_of_mem_take hz')).1
  · by_cases hk : k < (zs.take n).length
    · have hm := hz (zs.take n)[k] (List.mem_of_mem_take (List.getElem_mem hk))
      simp only [List.getD_eq_getElem?_getD, List.getElem?_map, List.getElem?_eq_getElem hk, Option.map_some, Option.getD_some]
      omega
    · simp only [List.getD_eq_getElem?_getD, List.getElem?_map, List.getElem?_eq_none (Nat.not_lt.1 hk)]
      decide
namespace Raw10
set_option maxHeartbeats 3200000 in
set_option maxRecDepth 10000 in
theorem lawN (a b : List Nat) (n0 n1 n2 n3 : Int) (ha : ∀ k, a.getD k 0 < 18446744073709551616) (hb : ∀ k, b.getD k 0 < 18446744073709551616) :
    FC Tryd.prog 4 [.o (.c (.s 0 0 a.length 1)), .o (.c (.s 1 0 b.length 1)), .o (.a [.v (.int .i64 n0), .v (.int .i64 n1), .v (.int .i64 n2), .v (.int .i64 n3)])] [u64n a false, u64n b false, tabB] (boo true) [u64n a false, u64n b false, tabB] := by
  refine FC.one (FC.rj mix Tryd.func4 ?_)
  repeat (first | refine And.intro (by kernel_rfl) ?_ | refine And.intro (by decide) ?_)
  refine bselD (fun h => ?_) (fun h => ?_)
  · repeat (first | refine And.intro (by kernel_rfl) ?_ | refine And.intro (by decide) ?_)
    refine FC.u awake_fc [] ?_
    repeat (first | refine And.intro (by kernel_rfl) ?_ | refine And.intro (by decide) ?_)
    exact ⟨(), trivial, .id rfl ⟨.inl rfl, .inl rfl, .inl rfl, trivial⟩⟩
  refine bselD (fun h' => ?_) (fun h' => ?_)
  · repeat (first | refine And.intro (by kernel_rfl) ?_ | refine And.intro (by decide) ?_)
    refine FC.u awake_fc [] ?_
    repeat (first | refine And.intro (by kernel_rfl) ?_ | refine And.intro (by decide) ?_)
    exact ⟨(), trivial, .id rfl ⟨.inl rfl, .inl rfl, .inl rfl, trivial⟩⟩
  have hla : a.length ≤ 140737488351232 := by omega
  have hlb : b.length ≤ 140737488351232 := by omega
  have l1 := inv_len (a := a) (by omega)
  have l2 := join_len a b (by omega)
  have l3 := spread_len a n0 n1 n2
  repeat refine AJoin.plain ?_
  refine FC.x (inverse10_fc a hla ha) [0] (fun x ex => ?_)
  repeat (first | refine And.intro (by kernel_rfl) ?_ | refine And.intro (by decide) ?_)
  refine FC.x (inverse10r_fc a hla ha) [0] (fun x' ex' => ?_)
  obtain rfl : x = x' := ex.trans ex'.symm
  repeat (first | refine And.intro (by kernel_rfl) ?_ | refine And.intro (by decide) ?_)
  refine FC.x (join10_fc a b hla hlb ha hb) [0, 1, 2] (fun y ey => ?_)
  repeat (first | refine And.intro (by kernel_rfl) ?_ | refine And.intro (by decide) ?_)
  refine FC.x (join10r_fc a b hla hlb ha hb) [0, 1] (fun y' ey' => ?_)
  obtain rfl : y = y' := ey.trans ey'.symm
  repeat (first | refine And.intro (by kernel_rfl) ?_ | refine And.intro (by decide) ?_)
  refine FC.x (spread_fc a n0 n1 n2 hla ha) [0] (fun z ez => ?_)
  repeat (first | refine And.intro (by kernel_rfl) ?_ | refine And.intro (by decide) ?_)
  refine FC.x (spread10r_fc a n0 n1 n2 hla ha) [0] (fun z' ez' => ?_)
  obtain rfl : z = z' := ez.trans ez'.symm
  rw [← ex] at l1
  rw [← ey] at l2
  rw [← ez] at l3
  clear ex ex' ey ey' ez ez'
  repeat (first | refine And.intro (by kernel_rfl) ?_ | refine And.intro (by decide) ?_)
  refine FC.u awake_fc [] ?_
  obtain ⟨v, hv0, hv⟩ : ∃ v : Nat, IntKind.u64.wrap n3 = v ∧ v < 18446744073709551616 := ⟨(IntKind.u64.wrap n3).toNat, by rw [IntKind.wrap_u64]; omega, by rw [IntKind.wrap_u64]; omega⟩
  repeat (first | refine And.intro (by kernel_rfl) ?_ | refine And.intro (by decide) ?_)
  conv => whnf
  rw [hv0]
  refine FC.u (value_fc a v hla ha hv) [0] ?_
  repeat (first | refine And.intro (by kernel_rfl) ?_ | refine And.intro (by decide) ?_)
  conv => whnf
  rw [hv0]
  refine FC.u (value10r_fc a v hla ha hv) [0] ?_
  repeat (first | refine And.intro (by kernel_rfl) ?_ | refine And.intro (by decide) ?_)
  refine bselT (by simp) ?_
  repeat (first | refine And.intro (by kernel_rfl) ?_ | refine And.intro (by decide) ?_)
  refine FC.u (check10_fc a hla ha) [0] ?_
  repeat (first | refine And.intro (by kernel_rfl) ?_ | refine And.intro (by decide) ?_)
  refine FC.u (check10r_fc a hla ha) [0] ?_
  repeat (first | refine And.intro (by kernel_rfl) ?_ | refine And.intro (by decide) ?_)
  refine bselT (by simp) ?_
  repeat (first | refine And.intro (by kernel_rfl) ?_ | refine And.intro (by decide) ?_)
  refine bselT (by simp) ?_
  repeat (first | refine And.intro (by kernel_rfl) ?_ | refine And.intro (by decide) ?_)
  refine FC.u (samel_fc x.1 (by omega)) [4, 5] ?_
  repeat (first | refine And.intro (by kernel_rfl) ?_ | refine And.intro (by decide) ?_)
  refine bselT (by simp) ?_
  repeat (first | refine And.intro (by kernel_rfl) ?_ | refine And.intro (by decide) ?_)
  refine FC.u (samel_fc y.1 (by omega)) [6, 7] ?_
  repeat (first | refine And.intro (by kernel_rfl) ?_ | refine And.intro (by decide) ?_)
  refine bselT (by simp) ?_
  repeat (first | refine And.intro (by kernel_rfl) ?_ | refine And.intro (by decide) ?_)
  refine FC.u (samei_fc z.1 _ rfl (by omega)) [8, 9] ?_
  repeat (first | refine And.intro (by kernel_rfl) ?_ | refine And.intro (by decide) ?_)
  exact ⟨(), trivial, .id rfl ⟨.inl rfl, .inl rfl, .inl rfl, trivial⟩⟩
theorem law (xs ys : List Int) (n0 n1 n2 n3 : Int) (ha : ∃ ns : List Nat, xs = zl ns ∧ ∀ k, ns.getD k 0 < 18446744073709551616) (hb : ∃ ns : List Nat, ys = zl ns ∧ ∀ k, ns.getD k 0 < 18446744073709551616) :
    FC Tryd.prog 4 [.o (.c (.s 0 0 xs.length 1)), .o (.c (.s 1 0 ys.length 1)), .o (.a [.v (.int .i64 n0), .v (.int .i64 n1), .v (.int .i64 n2), .v (.int .i64 n3)])] [some ⟨.ints .u64 xs, false⟩, some ⟨.ints .u64 ys, false⟩, tabB] (boo true) [some ⟨.ints .u64 xs, false⟩, some ⟨.ints .u64 ys, false⟩, tabB] := by
  obtain ⟨a, rfl, ha⟩ := ha
  obtain ⟨b, rfl, hb⟩ := hb
  have := lawN a b n0 n1 n2 n3 ha hb
  rw [zl_len, zl_len]
  exact this
end Raw10
end Go.Sx.T1
namespace Go.Sx.T1
open Go.Proofs Go.Sx.Gf
namespace Inv10
theorem mod_x (n m : Int) (h1 : 1 ≤ m) (hm : m < 9223372036854775808) : ∃ v : Int, FC Tryd.prog 11 [int .i64 n, int .i64 m] [] (int .i64 v) [] ∧ 0 ≤ v ∧ v < m :=
  ⟨mMod n m, mod_fc n m hm, mMod_bd h1⟩
/-- masks with an inverse -/
structure Good (b : Nat) (r : List Nat) : Prop where
  len : r.length = b
  bd : ∀ k, r.getD k 0 < 2 ^ b
  ck : checkF r = 0
theorem good_iff {b : Nat} (hb : b ≤ 60) {r : List Nat} (hl : r.length = b) (hd : ∀ k, r.getD k 0 < 2 ^ b) : checkF r = 0 ↔ b ≤ rk b r := by
  by_cases h0 : b = 0
  · subst h0
    rw [checkF, if_neg (by omega), if_pos hl]
    simp
  · have ho : okM r.length r = true := okM_iff.2 ⟨by omega, by omega, by omega, by omega, fun k _ => by rw [Int.toNat_natCast, hl]; exact hd k⟩
    rw [checkF, if_neg (by omega), if_neg (by omega), ho, if_neg (by simp), hl]
    by_cases h : rk b r < b
    · rw [if_pos h]; constructor
      · intro h2; exact absurd h2 (by decide)
      · intro h2; omega
    · rw [if_neg h]; constructor
      · intro _; omega
      · intro _; rfl
theorem MkOk.good {b : Nat} (hb : b ≤ 60) {r : List Nat} (h : MkOk b r) : Good b r := ⟨h.len, h.bd, (good_iff hb h.len h.bd).2 h.ker.full⟩
theorem val_bit {b : Nat} (hb : b ≤ 60) {r : List Nat} (h : Good b r) (x i : Nat) : (valF r x).testBit i = (decide (i < b) && dot b (r.getD i 0) x) := by
  rw [valF, Nat.min_eq_left (by have := h.len; omega), apF, ofB_bit, h.len, dot_cut x (h.bd i) (by omega)]
theorem val_lt {b : Nat} {r : List Nat} (h : Good b r) (hb : b ≤ 60) (x : Nat) : valF r x < 2 ^ b := by
  have := apF_lt r x (min r.length 64)
  rw [Nat.min_eq_left (by have := h.len; omega), h.len] at this
  rw [valF, Nat.min_eq_left (by have := h.len; omega), h.len]
  exact this
theorem mul_bd {b : Nat} {x y : List Nat} (hx : Good b x) : ∀ k, (mul y x).getD k 0 < 2 ^ b := fun k => by
  by_cases hk : k < y.length
  · rw [mul, getD_map0 hk]; exact mulr_lt hx.bd _
  · rw [List.getD_eq_getElem?_getD, List.getElem?_eq_none (by simp [mul]; omega)]; exact Nat.two_pow_pos _
/-- Join is one after the other -/
theorem join_val {b : Nat} (hb : b ≤ 60) {x y : List Nat} (hx : Good b x) (hy : Good b y) (a : Nat) : valF (mul y x) a = valF y (valF x a) := by
  have ml : (mul y x).length = b := by simp [mul, hy.len]
  have h1 : valF (mul y x) a < 2 ^ b := by
    have := apF_lt (mul y x) a (min (mul y x).length 64)
    rw [Nat.min_eq_left (by omega), ml] at this
    rw [valF, Nat.min_eq_left (by omega), ml]; exact this
  refine eq_bits h1 (val_lt hy hb _) fun i hi => ?_
  have hi' : i < y.length := by rw [hy.len]; exact hi
  rw [val_bit hb hy, decide_eq_true hi, Bool.true_and, valF, Nat.min_eq_left (by omega), ml, apF, ofB_bit, decide_eq_true hi, Bool.true_and, dot_cut a (mul_bd hx i) (by omega), mul, getD_map0 hi', mulr_dot]
  rw [dot_F, hx.len]
  exact dotF_congr (fun _ _ => rfl) fun j hj => by rw [val_bit hb hx, decide_eq_true hj, Bool.true_and]
theorem dot_mod {b : Nat} (a x : Nat) : dot b a x = dot b a (x % 2 ^ b) := by
  rw [dot_comm, dot_comm b a (x % 2 ^ b)]
  exact dot_ext a fun i hi => by rw [Nat.testBit_mod_two_pow, decide_eq_true hi, Bool.true_and]
theorem good_of {b : Nat} (hb : b ≤ 60) {r : List Nat} (hl : r.length = b) (hd : ∀ k, r.getD k 0 < 2 ^ b) (h : ∀ v, v < 2 ^ b → valF r v = 0 → v = 0) : Good b r := by
  refine ⟨hl, hd, (good_iff hb hl hd).2 ?_⟩
  refine Ker0.full (fun x hx i hi => ?_)
  have h1 := h (x % 2 ^ b) (Nat.mod_lt _ (Nat.two_pow_pos _)) (by
    apply Nat.eq_of_testBit_eq
    intro k
    rw [Nat.zero_testBit, valF, Nat.min_eq_left (by omega), apF, ofB_bit, hl]
    by_cases hk : k < b
    · rw [decide_eq_true hk, Bool.true_and, dot_cut _ (hd k) (by omega), ← dot_mod]
      exact hx k (by omega)
    · rw [decide_eq_false hk, Bool.false_and])
  have h2 : (x % 2 ^ b).testBit i = x.testBit i := by rw [Nat.testBit_mod_two_pow, decide_eq_true hi, Bool.true_and]
  rw [← h2, h1, Nat.zero_testBit]
theorem val_zero {b : Nat} (hb : b ≤ 60) {r : List Nat} (h : Good b r) : valF r 0 = 0 := by
  apply Nat.eq_of_testBit_eq
  intro i
  rw [val_bit hb h, dot_zero_r, Bool.and_false, Nat.zero_testBit]
theorem val_inj {b : Nat} (hb : b ≤ 60) {r : List Nat} (h : Good b r) {v : Nat} (hv : v < 2 ^ b) (h0 : valF r v = 0) : v = 0 := by
  obtain ⟨io, _⟩ := inv_ok h.ck (by have := h.len; omega)
  have h1 := (io.iff v 0 (by rw [h.len]; exact hv) (Nat.two_pow_pos _)).1 h0
  have h2 := (io.iff 0 0 (Nat.two_pow_pos _) (Nat.two_pow_pos _)).1 (val_zero hb h)
  rw [← h1, h2]
theorem inv_good {b : Nat} (hb : b ≤ 60) {x : List Nat} (h : Good b x) : Good b (inv10F x).1 ∧ (inv10F x).2 = 0 ∧ ∀ a, a < 2 ^ b → valF (inv10F x).1 (valF x a) = a ∧ valF x (valF (inv10F x).1 a) = a := by
  obtain ⟨io, e⟩ := inv_ok h.ck (by have := h.len; omega)
  have hl : (inv10F x).1.length = b := by rw [io.len, h.len]
  have hd : ∀ k, (inv10F x).1.getD k 0 < 2 ^ b := fun k => by have := io.bd k; rwa [h.len] at this
  have iff : ∀ u v, u < 2 ^ b → v < 2 ^ b → (valF x u = v ↔ valF (inv10F x).1 v = u) := fun u v hu hv => io.iff u v (by rw [h.len]; exact hu) (by rw [h.len]; exact hv)
  have g : Good b (inv10F x).1 := good_of hb hl hd fun v hv h0 => by
    have h1 := (iff 0 v (Nat.two_pow_pos _) hv).2 h0
    rw [← h1, val_zero hb h]
  exact ⟨g, e, fun a ha => ⟨(iff a (valF x a) ha (val_lt h hb a)).1 rfl, (iff (valF (inv10F x).1 a) a (val_lt g hb a) ha).2 rfl⟩⟩
theorem join_good {b : Nat} (hb : b ≤ 60) {x y : List Nat} (hx : Good b x) (hy : Good b y) : Good b (mul y x) := by
  refine good_of hb (by simp [mul, hy.len]) (mul_bd hx) fun v hv h0 => ?_
  rw [join_val hb hx hy] at h0
  exact val_inj hb hx hv (val_inj hb hy (val_lt hx hb v) h0)
theorem join_is {b : Nat} {x y : List Nat} (hx : Good b x) (hy : Good b y) : joinF x y = (mul y x, 0) := by
  rw [joinF, if_neg (fun h => h hx.ck), if_neg (fun h => h hy.ck), if_neg (by rw [hx.len, hy.len]; simp)]
  by_cases h0 : x.length = 0
  · rw [if_pos h0]
    have : y = [] := List.length_eq_zero_iff.1 (by rw [hy.len, ← hx.len, h0])
    subst this; rfl
  · rw [if_neg h0]
theorem eq_of_val {b : Nat} (hb : b ≤ 60) {p q : List Nat} (hp : Good b p) (hq : Good b q) (h : ∀ a, valF p a = valF q a) : p = q := by
  refine list_ext0 (by rw [hp.len, hq.len]) fun k hk => ?_
  have hk' : k < b := by rw [← hp.len]; exact hk
  refine eq_bits (hp.bd k) (hq.bd k) fun i hi => dot_bits (fun a => ?_) hi
  have := congrArg (fun n : Nat => n.testBit k) (h a)
  simp only [val_bit hb hp, val_bit hb hq, decide_eq_true hk', Bool.true_and] at this
  exact this
theorem assoc {b : Nat} (hb : b ≤ 60) {x y z : List Nat} (hx : Good b x) (hy : Good b y) (hz : Good b z) : mul z (mul y x) = mul (mul z y) x :=
  eq_of_val hb (join_good hb (join_good hb hx hy) hz) (join_good hb hx (join_good hb hy hz)) fun a => by
    rw [join_val hb (join_good hb hx hy) hz, join_val hb hx hy, join_val hb hx (join_good hb hy hz), join_val hb hy hz]
theorem MkOk.goodM {b : Nat} (hb : b ≤ 60) {r : List Nat} (h : MkOk b r) : Good b r := ⟨h.len, h.bd, (good_iff hb h.len h.bd).2 h.ker.full⟩
theorem Good.hl {b : Nat} {r : List Nat} (h : Good b r) (hb : b ≤ 60) : r.length ≤ 140737488351232 := by have := h.len; omega
theorem Good.hr {b : Nat} {r : List Nat} (h : Good b r) (hb : b ≤ 60) (k : Nat) : r.getD k 0 < 18446744073709551616 := lt64 (h.bd k) (by omega)
theorem joinL {b : Nat} (hb : b ≤ 60) {x y : List Nat} (hx : Good b x) (hy : Good b y) (lx ly : Nat) (ex : x.length = lx) (ey : y.length = ly) :
    FC Tryd.prog 13 [.o (.c (.s 0 0 lx 1)), .o (.c (.s 1 0 ly 1))] [u64n x false, u64n y false, tabB] (.t [.c (.s 3 0 b 1), .c (.v (.int .i64 0))]) [u64n x false, u64n y false, tabB, u64n (mul y x) true] := by
  subst ex ey
  obtain ⟨p, h, e⟩ := join10_fc x y (hx.hl hb) (hy.hl hb) (hx.hr hb) (hy.hr hb)
  rw [join_is hx hy] at e
  subst e
  have el : (mul y x).length = b := by simp [mul, hy.len]
  unfold joinT at h
  rw [el] at h
  exact h
theorem invL {b : Nat} (hb : b ≤ 60) {x : List Nat} (hx : Good b x) (lx : Nat) (ex : x.length = lx) :
    FC Tryd.prog 12 [.o (.c (.s 0 0 lx 1))] [u64n x false] (.t [.c (.s 1 0 b 1), .c (.v (.int .i64 0))]) [u64n x false, u64n (inv10F x).1 true] := by
  subst ex
  obtain ⟨p, h, e⟩ := inverse10_fc x (hx.hl hb) (hx.hr hb)
  obtain ⟨g, e2, _⟩ := inv_good hb hx
  subst e
  rw [e2, g.len] at h
  exact h
theorem valL {b : Nat} (hb : b ≤ 60) {x : List Nat} (hx : Good b x) (lx : Nat) (ex : x.length = lx) (a r : Nat) (ha : a < 2 ^ b) (hr : valF x a = r) :
    FC Tryd.prog 14 [.o (.c (.s 0 0 lx 1)), int .u64 a] [u64n x false] (int .u64 r) [u64n x false] := by
  subst ex hr
  exact value_fc x a (hx.hl hb) (hx.hr hb) (lt64 ha (by omega))
theorem sameL (x y : List Nat) (e : x = y) (n m : Nat) (hn : x.length = n) (hm : y.length = m) (h32 : x.length ≤ 4294967296) : FC Tryd.prog 15 [.o (.c (.s 0 0 n 1)), .o (.c (.s 1 0 m 1))] [u64n x false, u64n y false] (boo true) [u64n x false, u64n y false] := by
  subst e hn hm
  exact samel_fc x h32
set_option maxHeartbeats 3200000 in
set_option maxRecDepth 10000 in
theorem law (ts : List Int) (ad : Int) : FC Tryd.prog 3 [.o (.c (.s 0 0 ts.length 1)), int .i64 ad] [diceL ts, tabB] (boo true) [diceL ts, tabB] := by
  refine FC.one (FC.rj mix Tryd.func3 ?_)
  repeat (first | refine And.intro (by kernel_rfl) ?_ | refine And.intro (by decide) ?_)
  refine FC.u (light_fc ts) [0] ?_
  refine bselNot (bselD (fun hl => ?_) (fun hl => ?_))
  rotate_left
  · repeat (first | refine And.intro (by kernel_rfl) ?_ | refine And.intro (by decide) ?_)
    refine FC.u awake_fc [] ?_
    exact ⟨(), trivial, .id rfl ⟨.inl rfl, .inl rfl, trivial⟩⟩
  repeat refine AJoin.plain ?_
  refine FC.u (roll_fc ts) [0] ?_
  repeat (first | refine And.intro (by kernel_rfl) ?_ | refine And.intro (by decide) ?_)
  have d1 := dv_bd ts 0 (n := 13) (by omega)
  refine FC.x (next_x ts 0 13 (by omega) hl) [2, 0] (fun b eb => ?_)
  rw [← eb] at d1
  clear eb
  obtain ⟨b, rfl⟩ : ∃ z : Nat, b = z := ⟨b.toNat, by omega⟩
  have hb : b ≤ 60 := by omega
  have hp := pow12 (n := b) (by omega)
  have hp1 := Nat.two_pow_pos b
  repeat (first | refine And.intro (by kernel_rfl) ?_ | refine And.intro (by decide) ?_)
  refine FC.x (masks_fc ts 1 b hl hb) [2, 0] (fun X hX => ?_)
  repeat (first | refine And.intro (by kernel_rfl) ?_ | refine And.intro (by decide) ?_)
  refine FC.x (masks_fc ts X.k b hl hb) [2, 0] (fun Y hY => ?_)
  repeat (first | refine And.intro (by kernel_rfl) ?_ | refine And.intro (by decide) ?_)
  refine FC.x (masks_fc ts Y.k b hl hb) [2, 0] (fun Z hZ => ?_)
  have gx := MkOk.goodM hb hX
  have gy := MkOk.goodM hb hY
  have gz := MkOk.goodM hb hZ
  obtain ⟨gi, _, iv⟩ := inv_good hb gx
  have gp := join_good hb gx gy
  have gq := join_good hb gp gz
  have gr := join_good hb gy gz
  have gs := join_good hb gx gr
  have gu := join_good hb gx gi
  have ub : IntKind.u64.wrap (b : Int) = (b : Int) := wrapU64_in (by omega) (by omega)
  have o1 := one_shlI (n := b) (by omega)
  repeat (first | refine And.intro (by kernel_rfl) ?_ | refine And.intro (by decide) ?_)
  conv => whnf
  rw [ub]
  refine And.intro (by omega) ?_
  conv => whnf
  rw [o1]
  refine FC.x (mod_x ad ((2 ^ b : Nat) : Int) (by omega) (by omega)) [] (fun a ha => ?_)
  obtain ⟨a, rfl⟩ : ∃ z : Nat, a = z := ⟨a.toNat, by omega⟩
  have ha' : a < 2 ^ b := by omega
  have ua : IntKind.u64.wrap (a : Int) = (a : Int) := wrapU64_in (by omega) (by omega)
  obtain ⟨i1, i2⟩ := iv a ha'
  repeat (first | refine And.intro (by kernel_rfl) ?_ | refine And.intro (by decide) ?_)
  refine FC.u (invL hb gx _ rfl) [3] ?_
  repeat (first | refine And.intro (by kernel_rfl) ?_ | refine And.intro (by decide) ?_)
  refine FC.u (joinL hb gx gy _ _ rfl rfl) [3, 4, 1] ?_
  repeat (first | refine And.intro (by kernel_rfl) ?_ | refine And.intro (by decide) ?_)
  refine FC.u (joinL hb gp gz _ _ gp.len rfl) [7, 5, 1] ?_
  repeat (first | refine And.intro (by kernel_rfl) ?_ | refine And.intro (by decide) ?_)
  refine FC.u (joinL hb gy gz _ _ rfl rfl) [4, 5, 1] ?_
  repeat (first | refine And.intro (by kernel_rfl) ?_ | refine And.intro (by decide) ?_)
  refine FC.u (joinL hb gx gr _ _ rfl gr.len) [3, 9, 1] ?_
  repeat (first | refine And.intro (by kernel_rfl) ?_ | refine And.intro (by decide) ?_)
  refine FC.u (joinL hb gx gi _ _ rfl gi.len) [3, 6, 1] ?_
  repeat (first | refine And.intro (by kernel_rfl) ?_ | refine And.intro (by decide) ?_)
  refine FC.u awake_fc [] ?_
  have hxa := val_lt gx hb a
  have hia := val_lt gi hb a
  conv => whnf
  rw [ua]
  refine FC.u (valL hb gx _ rfl a _ ha' rfl) [3] ?_
  repeat (first | refine And.intro (by kernel_rfl) ?_ | refine And.intro (by decide) ?_)
  refine FC.u (valL hb gi _ gi.len (valF X.rows a) a hxa i1) [6] ?_
  repeat (first | refine And.intro (by kernel_rfl) ?_ | refine And.intro (by decide) ?_)
  refine bselT (by simp) ?_
  repeat (first | refine And.intro (by kernel_rfl) ?_ | refine And.intro (by decide) ?_)
  refine FC.u (valL hb gi _ gi.len a _ ha' rfl) [6] ?_
  repeat (first | refine And.intro (by kernel_rfl) ?_ | refine And.intro (by decide) ?_)
  refine FC.u (valL hb gx _ rfl (valF (inv10F X.rows).1 a) a hia i2) [3] ?_
  repeat (first | refine And.intro (by kernel_rfl) ?_ | refine And.intro (by decide) ?_)
  refine bselT (by simp) ?_
  repeat (first | refine And.intro (by kernel_rfl) ?_ | refine And.intro (by decide) ?_)
  refine FC.u (valL hb gp _ gp.len a (valF Y.rows (valF X.rows a)) ha' (join_val hb gx gy a)) [7] ?_
  repeat (first | refine And.intro (by kernel_rfl) ?_ | refine And.intro (by decide) ?_)
  refine FC.u (valL hb gx _ rfl a _ ha' rfl) [3] ?_
  repeat (first | refine And.intro (by kernel_rfl) ?_ | refine And.intro (by decide) ?_)
  refine FC.u (valL hb gy _ rfl (valF X.rows a) _ hxa rfl) [4] ?_
  repeat (first | refine And.intro (by kernel_rfl) ?_ | refine And.intro (by decide) ?_)
  refine bselT (by simp) ?_
  repeat (first | refine And.intro (by kernel_rfl) ?_ | refine And.intro (by decide) ?_)
  refine FC.u (sameL _ _ (assoc hb gx gy gz) _ _ gq.len gs.len (by rw [gq.len]; omega)) [8, 10] ?_
  repeat (first | refine And.intro (by kernel_rfl) ?_ | refine And.intro (by decide) ?_)
  refine FC.u (valL hb gu _ gu.len a a ha' ((join_val hb gx gi a).trans i1)) [11] ?_
  repeat (first | refine And.intro (by kernel_rfl) ?_ | refine And.intro (by decide) ?_)
  exact ⟨(), trivial, .id (congrArg boo (by simp)) ⟨.inl rfl, .inl rfl, trivial⟩⟩
end Inv10
end Go.Sx.T1
