/- Contracts of the functions that BitmatMade reaches, and the walk of the law, part 2. Conditions: none. -/
import Derived.Test.YtphmlacpgnjhfaaDoorBitmatMadeA
namespace Go.Sx.T1
open Go.Proofs Go.Sx.Gf
theorem zip_zeros (rows : List Nat) : rows.zip (List.replicate rows.length 0) = zeros rows := by
  apply List.ext_getElem
  · simp [zeros]
  · intro k h1 h2; simp [zeros]
set_option maxHeartbeats 3200000 in
set_option maxRecDepth 10000 in
theorem index_fc (pv : List Nat) (v : Nat) (hl : pv.length ≤ 100000) : ∃ o : Option Nat, FC Tryd.prog 52 [.o (.c (.s 0 0 pv.length 1)), int .i64 v] [i64s (zl pv) false] (int .i64 (idxI o)) [i64s (zl pv) false] ∧ o = (pv.drop 0).findIdx? (fun x => x == v) := by
  refine FC.rj mix Tryd.func52 ?_
  refine ALoop.go (X := Nat) (fun i => i ≤ pv.length ∧ ∀ j, j < i → (pv.getD (0 + j) 0 == v) = false) (fun i => pv.length - i) [0, 1, 6, 7] [0] (fun i => [(8, int .i64 i)]) (fun _ => []) 0 ⟨Nat.zero_le _, fun j hj => absurd hj (Nat.not_lt_zero _)⟩ ⟨rfl, trivial⟩ trivial ?_
  rintro i ⟨hi, hno⟩
  dsimp only [headF, headM]
  refine bselD (fun h => ?_) (fun h => ?_)
  · have h' : i < pv.length := by omega
    have wi : IntKind.i64.wrap ((i : Int) + 1) = ((i + 1 : Nat) : Int) := wrap64_in (by omega) (by omega)
    have ei : 0 + (i : Int).toNat = i := by simp
    repeat refine AJoin.plain ?_
    refine And.intro ⟨by omega, h⟩ ?_
    refine And.intro (by show 0 + (i : Int).toNat < (zl pv).length; rw [zl_len]; omega) ?_
    conv => whnf
    rw [ei, zl_get]
    refine bselE (fun c => ?_) (fun c => ?_)
    · exact ⟨some i, (idx_some (p := fun x => x == v) (off := 0) (by omega) (by rw [Nat.zero_add]; exact beq_iff_eq.2 (by omega)) hno).symm, .id rfl ⟨.inl rfl, trivial⟩⟩
    · refine ⟨i + 1, ⟨⟨by omega, fun j hj => ?_⟩, by show pv.length - (i + 1) < pv.length - i; omega⟩, .id ⟨congrArg (int .i64) wi, trivial⟩ rfl trivial rfl⟩
      rcases Nat.lt_or_ge j i with h1 | h1
      · exact hno j h1
      · obtain rfl : j = i := by omega
        rw [Nat.zero_add]; exact beq_eq_false_iff_ne.2 (by omega)
  · repeat (first | refine And.intro (by kernel_rfl) ?_ | refine And.intro (by decide) ?_)
    exact ⟨none, (idx_none (p := fun x => x == v) (off := 0) fun j hj => hno j (by omega)).symm, .id rfl ⟨.inl rfl, trivial⟩⟩
set_option maxHeartbeats 3200000 in
set_option maxRecDepth 10000 in
theorem containsI_fc (pv : List Nat) (v : Nat) (hl : pv.length ≤ 100000) : FC Tryd.prog 50 [.o (.c (.s 0 0 pv.length 1)), int .i64 v] [i64s (zl pv) false] (boo (pv.contains v)) [i64s (zl pv) false] := by
  refine FC.one (FC.r mix Tryd.func50 ?_)
  refine FC.x (index_fc pv v hl) [0] (fun o ho => ?_)
  repeat (first | refine And.intro (by kernel_rfl) ?_ | refine And.intro (by decide) ?_)
  refine ⟨(), trivial, .id (congrArg boo ?_) ⟨.inl rfl, trivial⟩⟩
  rw [ho, idx_any, List.contains_eq_any_beq]
  congr 1
  funext x
  exact Bool.beq_comm
def kl (e : El) (C : Nat) : Nat → List Nat
  | 0 => []
  | j + 1 => kl e C j ++ (if e.pv.contains (C - 1 - j) = true then [] else [kv e (C - 1 - j) e.pv.length])
theorem kl_len (e : El) (C : Nat) : ∀ j, (kl e C j).length ≤ j
  | 0 => Nat.le_refl _
  | j + 1 => by
    have := kl_len e C j
    rw [kl]
    split <;> simp <;> omega
theorem _root_.Go.Sx.Gf.Inv.kvk_lt {ps0 : List Pr} {C : Nat} {e : El} (h : Gf.Inv ps0 C e) {c : Nat} (hc : c < C) {k : Nat} (hk : k ≤ e.pv.length) : kv e c k < 2 ^ C := lt_of_bits fun i hi => bf fun hb => by
  rcases (kv_bit ..).1 hb with h1 | ⟨j, hj, h2, _⟩
  · omega
  · have := h.lt (show j < e.pv.length by omega); omega
def kerF (c : Int) (rows : List Nat) : List Nat × Int := if okM c rows = true then (kl (solveE (zeros rows) c.toNat) c.toNat c.toNat, 0) else ([], 1)
def liS (k : Nat) (p : List Nat × Int) : SV := .t [.c (.s k 0 p.1.length 1), .c (.v (.int .i64 p.2))]
set_option maxHeartbeats 3200000 in
set_option maxRecDepth 10000 in
theorem kernel_fc (c : Int) (rows : List Nat) (hl : rows.length ≤ 140737488351232) (hr : ∀ k, rows.getD k 0 < 18446744073709551616) :
    ∃ p : List Nat × Int, FC Tryd.prog 39 [.o (.a (mat c rows))] [u64n rows false] (liS 1 p) [u64n rows false, u64n p.1 true] ∧ p = kerF c rows := by
  refine FC.rj mix Tryd.func39 ?_
  repeat (first | refine And.intro (by kernel_rfl) ?_ | refine And.intro (by decide) ?_)
  refine FC.u (valid_fc c rows hl hr) [0] ?_
  refine bselNot (bsel_intro (fun h1 => ?_) (fun h1 => ?_))
  rotate_left
  · repeat (first | refine And.intro (by kernel_rfl) ?_ | refine And.intro (by decide) ?_)
    exact ⟨([], 1), by simp only [kerF, h1, Bool.false_eq_true, if_false], isEnd.go [(1, .new 1)] rfl ⟨.inl rfl, newI 1 rfl, trivial⟩⟩
  obtain ⟨b1, b2, b3, b4, b5⟩ := okM_bd h1
  obtain ⟨m, rfl⟩ : ∃ m : Nat, c = m := ⟨c.toNat, by omega⟩
  repeat refine AJoin.plain ?_
  refine And.intro ⟨by omega, rfl, by omega⟩ ?_
  conv => whnf
  rw [Int.toNat_natCast, zl_zeros]
  refine FC.x (solve_fc m rows (List.replicate rows.length 0) (by omega) (by omega) b4 (by simp) hr (fun k => by rw [rep_get]; omega)) [0, 2] (fun e he => ?_)
  rw [zip_zeros] at he
  have hinv := solve_inv (zeros rows) m
  rw [← he] at hinv
  have il : e.ps.length = rows.length := by rw [hinv.len]; simp [zeros]
  have hBe : Bd 64 64 e.ps := by
    rw [he]
    refine Bd.solve (fun k => ?_) m
    refine ⟨by rw [zeros_get]; exact hr k, ?_⟩
    simp only [zeros, List.getD_eq_getElem?_getD, List.getElem?_map]
    cases rows[k]? <;> exact Nat.two_pow_pos 64
  have ip := hinv.pvl
  have w1 : IntKind.i64.wrap ((m : Int) - 1) = (m : Int) - 1 - (0 : Nat) := by rw [wrap64_in (by omega) (by omega)]; omega
  repeat (first | refine And.intro (by kernel_rfl) ?_ | refine And.intro (by decide) ?_)
  refine ALoop.goN (X := Nat) (fun j => j ≤ m) (fun j => m - j) [4] [0, 3, 4, 5] (fun j => [(5, .o (.c (.s 6 0 (kl e m j).length 1))), (6, int .i64 ((m : Int) - 1 - (j : Nat)))]) (fun j => [(6, ⟨.ints .u64 (zl (kl e m j)), true⟩)]) 0 7
    (Nat.zero_le _) (isAt.go [(6, .new 1)] ⟨rfl, congrArg (int .i64) w1, trivial⟩ ⟨newI 1 rfl, trivial⟩) ?_
  intro j hj
  have kle := kl_len e m j
  dsimp only [headF, headM]
  refine bselD (fun h => ?_) (fun h => ?_)
  · have h' : j < m := by omega
    obtain ⟨d, hd⟩ : ∃ d : Nat, m - 1 - j = d := ⟨_, rfl⟩
    have hd' : (m : Int) - 1 - (j : Nat) = (d : Int) := by omega
    have wd : IntKind.i64.wrap ((d : Int) - 1) = (m : Int) - 1 - ((j + 1 : Nat) : Int) := by rw [wrap64_in (by omega) (by omega)]; omega
    rw [hd'] at h
    repeat refine AJoin.plain ?_
    conv => whnf
    rw [hd']
    refine FC.u (containsI_fc e.pv d (by omega)) [4] ?_
    repeat refine AJoin.plain ?_
    refine bsel_intro (fun h2 => ?_) (fun h2 => ?_)
    · have hk : kl e m (j + 1) = kl e m j := by rw [kl, hd, if_pos h2, List.append_nil]
      repeat refine AJoin.plain ?_
      refine ⟨j + 1, ⟨h', by show m - (j + 1) < m - j; omega⟩, isAt.go [(6, .to 6)] ⟨congrArg (fun n : Nat => SV.o (.c (.s 6 0 n 1))) (by rw [hk]), congrArg (int .i64) wd, trivial⟩ ⟨leB.ints_eq (by rw [hk]) id, trivial⟩⟩
    · have hk : kl e m (j + 1) = kl e m j ++ [kv e d e.pv.length] := by rw [kl, hd, if_neg (by rw [h2]; simp)]
      have hnp : d ∉ e.pv := by simpa using h2
      repeat refine AJoin.plain ?_
      refine And.intro (by omega) ?_
      repeat refine AJoin.plain ?_
      conv => whnf
      rw [one_shl (show d < 64 by omega)]
      refine ALoop.go (X := Nat) (fun k => k ≤ e.pv.length) (fun k => e.pv.length - k) [4, 5, 6, 33, 34] [0, 3, 4, 5, 6] (fun k => [(7, int .u64 ((kv e d k : Nat) : Int)), (35, int .i64 k)]) (fun _ => []) 0 (Nat.zero_le _) ⟨rfl, rfl, trivial⟩ trivial ?_
      intro k hk2
      have ek : 0 + (k : Int).toNat = k := by simp
      dsimp only [headF, headM]
      refine bselD (fun g => ?_) (fun g => ?_)
      · have g' : k < e.pv.length := by omega
        have wk : IntKind.i64.wrap ((k : Int) + 1) = ((k + 1 : Nat) : Int) := wrap64_in (by omega) (by omega)
        have hpl := hinv.lt g'
        repeat refine AJoin.plain ?_
        refine And.intro ⟨by omega, g⟩ ?_
        refine And.intro (by show 0 + (k : Int).toNat < (zl e.pv).length; rw [zl_len]; omega) ?_
        conv => whnf
        rw [ek, zl_get]
        refine And.intro ⟨by omega, by omega⟩ ?_
        refine And.intro (by show k < (zl (fsts e.ps)).length; rw [zl_len, fsts_len]; omega) ?_
        conv => whnf
        rw [zl_get, fsts_get]
        refine And.intro (by omega) ?_
        refine And.intro (by omega) ?_
        repeat (first | refine And.intro (by kernel_rfl) ?_ | refine And.intro (by decide) ?_)
        refine ⟨k + 1, ⟨by omega, by show e.pv.length - (k + 1) < e.pv.length - k; omega⟩, .id ⟨congrArg (int .u64) ?_, congrArg (int .i64) wk, trivial⟩ rfl trivial rfl⟩
        show bitI .or .u64 ((kv e d k : Nat) : Int) (IntKind.u64.wrap (bitI .and .u64 (((e.ps.getD k z2).1 : Int).fdiv (2 ^ min (d : Int).toNat IntKind.u64.bits)) 1 * 2 ^ min (((e.pv.getD k 0 : Nat) : Int)).toNat IntKind.u64.bits)) = _
        rw [bit_form (hBe k).1 (by omega), shl_form _ (by omega), or_bt _ (lt64 (hinv.kvk_lt (by omega) (by omega)) (by omega)) (by omega), kv]
      · obtain rfl : k = e.pv.length := by omega
        repeat refine AJoin.plain ?_
        refine And.intro ⟨by show 0 + (kl e m j).length ≤ (zl (kl e m j)).length; rw [zl_len]; omega, trivial⟩ ?_
        refine And.intro ⟨Nat.le_of_ble_eq_true rfl, trivial⟩ ?_
        refine And.intro (by show (kl e m j).length + 1 ≤ 4294967296; omega) ?_
        repeat (first | refine And.intro (by kernel_rfl) ?_ | refine And.intro (by decide) ?_)
        have e1 : (kl e m j).length + 1 = (kl e m (j + 1)).length := by rw [hk]; simp
        refine ⟨j + 1, ⟨h', by show m - (j + 1) < m - j; omega⟩, isAt.go [(6, .to 8)] ⟨congrArg (fun n : Nat => SV.o (.c (.s 8 0 n 1))) e1, congrArg (int .i64) wd, trivial⟩ ⟨leB.ints_eq ?_ id, trivial⟩⟩
        show List.take (kl e m j).length (List.drop 0 (zl (kl e m j))) ++ List.take 1 (List.drop 0 [((kv e d e.pv.length : Nat) : Int)]) = zl (kl e m (j + 1))
        rw [app1, hk]
  · obtain rfl : j = m := by omega
    repeat (first | refine And.intro (by kernel_rfl) ?_ | refine And.intro (by decide) ?_)
    exact ⟨(kl e j j, 0), by rw [kerF, h1, if_pos rfl, Int.toNat_natCast, ← he], isEnd.go [(1, .to 6)] rfl ⟨.inl rfl, .inl rfl, trivial⟩⟩
end Go.Sx.T1
namespace Go.Sx.T1
open Go.Proofs Go.Sx.Gf
/-! the reference's Solve and Kernel -/
theorem beyB_all {v n : Nat} (hv : v < 18446744073709551616) (hn : n ≤ 64) : beyB v n = !decide (v < 2 ^ n) := by
  unfold beyB
  by_cases h : n < 64
  · rw [decide_eq_true h, Bool.true_and]
  · rw [decide_eq_false h, Bool.false_and, show n = 64 by omega, decide_eq_true hv]; rfl
theorem bd_bits {rows : List Nat} {v : Nat} (hr : ∀ k, rows.getD k 0 < 18446744073709551616) : Bd 64 1 (rows.zip (bitsV v rows.length)) := fun k => by
  have vl := bitsV_len v rows.length
  by_cases hk : k < rows.length
  · rw [List.getD_eq_getElem?_getD, List.getElem?_eq_getElem (by simp [vl, hk]), Option.getD_some, List.getElem_zip]
    have e1 := hr k
    have e2 := bitsV_lt v rows.length k
    rw [List.getD_eq_getElem?_getD, List.getElem?_eq_getElem hk] at e1
    rw [List.getD_eq_getElem?_getD, List.getElem?_eq_getElem (by rw [vl]; exact hk)] at e2
    exact ⟨e1, e2⟩
  · rw [getD_out (by simp [vl]; omega)]; exact z2_bd _ _
set_option maxHeartbeats 3200000 in
set_option maxRecDepth 10000 in
theorem solve05_fc (c : Int) (rows : List Nat) (v : Nat) (hr : ∀ k, rows.getD k 0 < 18446744073709551616) (hv : v < 18446744073709551616) :
    ∃ p : Nat × Int, FC Tryd.prog 38 [.o (.a (mat c rows)), int .u64 v] [u64n rows false] (niS p) [u64n rows false] ∧ p = solF c rows v := by
  refine FC.rj mix Tryd.func38 ?_
  repeat (first | refine And.intro (by kernel_rfl) ?_ | refine And.intro (by decide) ?_)
  refine FC.u (valid05_fc c rows hr) [0] ?_
  refine bselNot (bsel_intro (fun h1 => ?_) (fun h1 => ?_))
  rotate_left
  · repeat (first | refine And.intro (by kernel_rfl) ?_ | refine And.intro (by decide) ?_)
    exact ⟨(0, 1), by simp only [solF, h1, Bool.false_eq_true, if_false], .id rfl ⟨.inl rfl, trivial⟩⟩
  obtain ⟨b1, b2, b3, b4, b5⟩ := okM_bd h1
  obtain ⟨m, rfl⟩ : ∃ m : Nat, c = m := ⟨c.toNat, by omega⟩
  repeat refine AJoin.plain ?_
  refine FC.u (beyond05_fc v rows.length (by omega)) [] ?_
  refine bsel_intro (fun h2 => ?_) (fun h2 => ?_) <;> rw [beyB_all hv (by omega)] at h2
  · repeat (first | refine And.intro (by kernel_rfl) ?_ | refine And.intro (by decide) ?_)
    have h3 : ¬ v < 2 ^ rows.length := by simpa using h2
    exact ⟨(0, 7), by simp only [solF, h1, if_true, h3, if_false], .id rfl ⟨.inl rfl, trivial⟩⟩
  have h3 : v < 2 ^ rows.length := by simpa using h2
  have vl := bitsV_len v rows.length
  repeat refine AJoin.plain ?_
  refine FC.x (echelon_fc m rows v h1 hr hv) [0] (fun e he => ?_)
  have hinv := solve_inv (rows.zip (bitsV v rows.length)) m
  have hBe := (bd_bits (v := v) hr).solve m
  rw [← he] at hinv hBe
  have il : e.ps.length = rows.length := by rw [hinv.len]; simp [vl]
  have ip := hinv.pvl
  repeat refine AJoin.plain ?_
  refine ALoop.go (X := Nat) (fun k => k ≤ rows.length ∧ singF e k = false) (fun k => rows.length - k) [7, 8] [0, 3, 4] (fun k => [(9, int .u64 ((svU e k : Nat) : Int)), (10, int .i64 k)]) (fun _ => []) 0 ⟨Nat.zero_le _, rfl⟩ ⟨congrArg (int .u64) (by rw [svU, Nat.zero_min]; rfl), rfl, trivial⟩ trivial ?_
  rintro k ⟨hk, hs⟩
  dsimp only [headF, headM]
  refine bselD (fun h => ?_) (fun h => ?_)
  · have h' : k < rows.length := by
      have h2 : (k : Int) < (rows.length : Int) := h
      clear h
      omega
    have wk : IntKind.i64.wrap ((k : Int) + 1) = ((k + 1 : Nat) : Int) := wrap64_in (by omega) (by omega)
    have ek : 0 + (k : Int).toNat = k := by simp
    have er : (zl (snds e.ps)).getD (0 + (k : Int).toNat) 0 = ((bn ((e.ps.getD k z2).2.testBit 0) : Nat) : Int) := by rw [ek, zl_get, snds_get, ← bit_bn (hBe k).2]
    repeat refine AJoin.plain ?_
    refine bselD (fun h6 => ?_) (fun h6 => ?_)
    · have h7 : k < e.pv.length := by
        have h2 : (k : Int) < (e.pv.length : Int) := h6
        clear h6
        omega
      have hpl := hinv.lt h7
      have ep : (zl e.pv).getD (0 + (k : Int).toNat) 0 = ((e.pv.getD k 0 : Nat) : Int) := by rw [ek, zl_get]
      have up : IntKind.u64.wrap ((e.pv.getD k 0 : Nat) : Int) = ((e.pv.getD k 0 : Nat) : Int) := wrapU64_in (by omega) (by omega)
      refine And.intro ⟨by omega, h⟩ ?_
      refine And.intro (by show 0 + (k : Int).toNat < (zl (snds e.ps)).length; rw [zl_len, snds_len]; omega) ?_
      refine And.intro ⟨by omega, h6⟩ ?_
      refine And.intro (by show 0 + (k : Int).toNat < (zl e.pv).length; rw [zl_len]; omega) ?_
      refine And.intro (by show 0 ≤ IntKind.u64.wrap ((zl e.pv).getD (0 + (k : Int).toNat) 0); rw [ep, up]; omega) ?_
      repeat (first | refine And.intro (by kernel_rfl) ?_ | refine And.intro (by decide) ?_)
      repeat refine AJoin.plain ?_
      refine ⟨k + 1, ⟨⟨h', by rw [singF, hs, decide_eq_false (by omega)]; rfl⟩, by show rows.length - (k + 1) < rows.length - k; omega⟩, .id ⟨congrArg (int .u64) ?_, congrArg (int .i64) wk, trivial⟩ rfl trivial rfl⟩
      show bitI .or .u64 ((svU e k : Nat) : Int) (IntKind.u64.wrap ((zl (snds e.ps)).getD (0 + (k : Int).toNat) 0 * 2 ^ min (IntKind.u64.wrap ((zl e.pv).getD (0 + (k : Int).toNat) 0)).toNat IntKind.u64.bits)) = _
      rw [er, ep, up, shl_form _ (by omega), or_bt _ (lt64 (hinv.svU_lt k) (by omega)) (by omega), svU_lo h7]
    · have h7 : ¬ k < e.pv.length := by
        have h2 : ¬ (k : Int) < (e.pv.length : Int) := h6
        clear h6
        omega
      refine And.intro ⟨by omega, h⟩ ?_
      refine And.intro (by show 0 + (k : Int).toNat < (zl (snds e.ps)).length; rw [zl_len, snds_len]; omega) ?_
      have eb : ((zl (snds e.ps)).getD (0 + (k : Int).toNat) 0 == 1) = (e.ps.getD k z2).2.testBit 0 := by rw [er, bn_eq1]
      repeat (first | refine And.intro (by kernel_rfl) ?_ | refine And.intro (by decide) ?_)
      refine bsel_intro (fun h4 => ?_) (fun h4 => ?_) <;> rw [eb] at h4
      · have h7 : singF e rows.length = true := singF_mono (by omega) h4 h'
        repeat (first | refine And.intro (by kernel_rfl) ?_ | refine And.intro (by decide) ?_)
        exact ⟨(0, 6), by rw [solF, h1, if_pos rfl, if_pos h3, Int.toNat_natCast, ← he, if_pos h7], .id rfl ⟨.inl rfl, trivial⟩⟩
      · repeat refine AJoin.plain ?_
        exact ⟨k + 1, ⟨⟨h', by rw [singF, hs, h4]; simp⟩, by show rows.length - (k + 1) < rows.length - k; omega⟩, .id ⟨congrArg (fun n : Nat => int .u64 n) (svU_skip h4).symm, congrArg (int .i64) wk, trivial⟩ rfl trivial rfl⟩
  · have hq : k = rows.length := by
      have h2 : ¬ (k : Int) < (rows.length : Int) := h
      clear h
      omega
    subst hq
    repeat (first | refine And.intro (by kernel_rfl) ?_ | refine And.intro (by decide) ?_)
    exact ⟨(svU e rows.length, 0), by rw [solF, h1, if_pos rfl, if_pos h3, Int.toNat_natCast, ← he, hs]; rfl, .id rfl ⟨.inl rfl, trivial⟩⟩
theorem bits0 (n : Nat) : bitsV 0 n = List.replicate n 0 := by
  refine List.ext_getElem (by rw [bitsV_len, List.length_replicate]) fun i h1 h2 => ?_
  simp [bitsV, bn]
def ldF (pv : List Nat) (d : Nat) : Nat → Bool
  | 0 => false
  | i + 1 => ldF pv d i || (pv.getD i 0 == d)
theorem ldF_iff {pv : List Nat} {d : Nat} : ∀ {i : Nat}, ldF pv d i = true ↔ ∃ j, j < i ∧ pv.getD j 0 = d
  | 0 => by simp [ldF]
  | i + 1 => by
    rw [ldF, Bool.or_eq_true, ldF_iff]
    constructor
    · rintro (⟨j, h1, h2⟩ | h)
      · exact ⟨j, by omega, h2⟩
      · exact ⟨i, by omega, by simpa using h⟩
    · rintro ⟨j, h1, h2⟩
      by_cases e : j = i
      · subst e; exact .inr (by simpa using h2)
      · exact .inl ⟨j, by omega, h2⟩
theorem ldF_all (pv : List Nat) (d : Nat) : ldF pv d pv.length = pv.contains d := by
  rw [Bool.eq_iff_iff, ldF_iff, List.contains_iff_mem, List.mem_iff_getElem]
  constructor
  · rintro ⟨j, h1, h2⟩
    exact ⟨j, h1, by simpa [List.getD_eq_getElem?_getD, h1] using h2⟩
  · rintro ⟨j, h1, h2⟩
    exact ⟨j, h1, by simpa [List.getD_eq_getElem?_getD, h1] using h2⟩
set_option maxHeartbeats 3200000 in
set_option maxRecDepth 10000 in
theorem kernel05_fc (c : Int) (rows : List Nat) (hr : ∀ k, rows.getD k 0 < 18446744073709551616) :
    ∃ p : List Nat × Int, FC Tryd.prog 40 [.o (.a (mat c rows))] [u64n rows false] (liS 1 p) [u64n rows false, u64n p.1 true] ∧ p = kerF c rows := by
  refine FC.rj mix Tryd.func40 ?_
  repeat (first | refine And.intro (by kernel_rfl) ?_ | refine And.intro (by decide) ?_)
  refine FC.u (valid05_fc c rows hr) [0] ?_
  refine bselNot (bsel_intro (fun h1 => ?_) (fun h1 => ?_))
  rotate_left
  · repeat (first | refine And.intro (by kernel_rfl) ?_ | refine And.intro (by decide) ?_)
    exact ⟨([], 1), by simp only [kerF, h1, Bool.false_eq_true, if_false], isEnd.go [(1, .new 1)] rfl ⟨.inl rfl, newI 1 rfl, trivial⟩⟩
  obtain ⟨b1, b2, b3, b4, b5⟩ := okM_bd h1
  obtain ⟨m, rfl⟩ : ∃ m : Nat, c = m := ⟨c.toNat, by omega⟩
  repeat refine AJoin.plain ?_
  refine FC.x (echelon_fc m rows 0 h1 hr (by omega)) [0] (fun e he => ?_)
  rw [bits0, zip_zeros] at he
  have hinv := solve_inv (zeros rows) m
  rw [← he] at hinv
  have il : e.ps.length = rows.length := by rw [hinv.len]; simp [zeros]
  have hBe : Bd 64 64 e.ps := by
    rw [he]
    refine Bd.solve (fun k => ?_) m
    refine ⟨by rw [zeros_get]; exact hr k, ?_⟩
    simp only [zeros, List.getD_eq_getElem?_getD, List.getElem?_map]
    cases rows[k]? <;> exact Nat.two_pow_pos 64
  have ip := hinv.pvl
  have w1 : IntKind.i64.wrap ((m : Int) - 1) = (m : Int) - 1 - (0 : Nat) := by rw [wrap64_in (by omega) (by omega)]; omega
  repeat refine AJoin.plain ?_
  refine ALoop.goN (X := Nat) (fun j => j ≤ m) (fun j => m - j) [4, 6] [0, 2, 4] (fun j => [(7, .o (.c (.s 5 0 (kl e m j).length 1))), (8, int .i64 ((m : Int) - 1 - (j : Nat)))]) (fun j => [(5, ⟨.ints .u64 (zl (kl e m j)), true⟩)]) 0 6
    (Nat.zero_le _) (isAt.go [(5, .new 1)] ⟨rfl, congrArg (int .i64) w1, trivial⟩ ⟨newI 1 rfl, trivial⟩) ?_
  intro j hj
  have kle := kl_len e m j
  dsimp only [headF, headM]
  refine bselD (fun h => ?_) (fun h => ?_)
  · have h' : j < m := by
      have h2 : (m : Int) - 1 - (j : Nat) ≥ 0 := h
      clear h
      omega
    clear h
    have hd' : (m : Int) - 1 - (j : Nat) = ((m - 1 - j : Nat) : Int) := by omega
    have wd : IntKind.i64.wrap (((m - 1 - j : Nat) : Int) - 1) = (m : Int) - 1 - ((j + 1 : Nat) : Int) := by rw [wrap64_in (by omega) (by omega)]; omega
    have ud : IntKind.u64.wrap ((m - 1 - j : Nat) : Int) = ((m - 1 - j : Nat) : Int) := wrapU64_in (by omega) (by omega)
    have hkl : kl e m (j + 1) = kl e m j ++ (if e.pv.contains (m - 1 - j) = true then [] else [kv e (m - 1 - j) e.pv.length]) := rfl
    have hdm : m - 1 - j < m := by omega
    repeat refine AJoin.plain ?_
    refine ALoop.go (X := Nat) (fun i => i ≤ e.pv.length) (fun i => e.pv.length - i) [4, 6, 7] [0, 2, 4, 5] (fun i => [(8, int .i64 ((m - 1 - j : Nat) : Int)), (9, boo (ldF e.pv (m - 1 - j) i)), (10, int .i64 i)]) (fun _ => []) 0 (Nat.zero_le _)
      ⟨congrArg (int .i64) hd', rfl, rfl, trivial⟩ trivial ?_
    generalize m - 1 - j = d at hd' wd ud hkl hdm
    intro i hi
    have ei : 0 + (i : Int).toNat = i := by simp
    dsimp only [headF, headM]
    refine bselD (fun g => ?_) (fun g => ?_)
    · have g' : i < e.pv.length := by
        have h2 : (i : Int) < (e.pv.length : Int) := g
        clear g
        omega
      have wi : IntKind.i64.wrap ((i : Int) + 1) = ((i + 1 : Nat) : Int) := wrap64_in (by omega) (by omega)
      repeat refine AJoin.plain ?_
      refine bsel_intro (fun hh => ?_) (fun hh => ?_)
      · repeat (first | refine And.intro (by kernel_rfl) ?_ | refine And.intro (by decide) ?_)
        repeat refine AJoin.plain ?_
        refine ⟨i + 1, ⟨g', by show e.pv.length - (i + 1) < e.pv.length - i; omega⟩, .id ⟨rfl, congrArg boo ?_, congrArg (int .i64) wi, trivial⟩ rfl trivial rfl⟩
        rw [ldF, hh]; rfl
      · refine And.intro ⟨by omega, g⟩ ?_
        refine And.intro (by show 0 + (i : Int).toNat < (zl e.pv).length; rw [zl_len]; omega) ?_
        repeat (first | refine And.intro (by kernel_rfl) ?_ | refine And.intro (by decide) ?_)
        repeat refine AJoin.plain ?_
        refine ⟨i + 1, ⟨g', by show e.pv.length - (i + 1) < e.pv.length - i; omega⟩, .id ⟨rfl, congrArg boo ?_, congrArg (int .i64) wi, trivial⟩ rfl trivial rfl⟩
        show ((zl e.pv).getD (0 + (i : Int).toNat) 0 == (d : Int)) = _
        rw [ei, zl_get, ldF, hh, Bool.false_or, Bool.eq_iff_iff, beq_iff_eq, beq_iff_eq]
        omega
    · have hq : i = e.pv.length := by
        have h2 : ¬ (i : Int) < (e.pv.length : Int) := g
        clear g
        omega
      clear g
      subst hq
      repeat refine AJoin.plain ?_
      have ha := ldF_all e.pv d
      refine bsel_intro (fun h2 => ?_) (fun h2 => ?_)
      · have hk : kl e m (j + 1) = kl e m j := by rw [hkl, ← ha, if_pos h2, List.append_nil]
        repeat refine AJoin.plain ?_
        refine ⟨j + 1, ⟨h', by show m - (j + 1) < m - j; omega⟩, isAt.go [(5, .to 5)] ⟨congrArg (fun n : Nat => SV.o (.c (.s 5 0 n 1))) (by rw [hk]), congrArg (int .i64) wd, trivial⟩ ⟨leB.ints_eq (by rw [hk]) id, trivial⟩⟩
      · have hk : kl e m (j + 1) = kl e m j ++ [kv e d e.pv.length] := by rw [hkl, ← ha, if_neg (by rw [h2]; simp)]
        repeat refine AJoin.plain ?_
        refine And.intro (by show 0 ≤ IntKind.u64.wrap (d : Int); rw [ud]; omega) ?_
        repeat (first | refine And.intro (by kernel_rfl) ?_ | refine And.intro (by decide) ?_)
        refine ALoop.go (X := Nat) (fun k => k ≤ e.pv.length) (fun k => e.pv.length - k) [4, 6, 7, 8] [0, 2, 4, 5] (fun k => [(11, int .u64 ((kv e d k : Nat) : Int)), (12, int .i64 k)]) (fun _ => []) 0 (Nat.zero_le _)
          ⟨congrArg (int .u64) (by rw [ud, one_shl (by omega)]; rfl), rfl, trivial⟩ trivial ?_
        intro k hk2
        have ek : 0 + (k : Int).toNat = k := by simp
        dsimp only [headF, headM]
        refine bselD (fun g => ?_) (fun g => ?_)
        · have g' : k < e.pv.length := by
            have h2 : (k : Int) < (e.pv.length : Int) := g
            clear g
            omega
          have wk : IntKind.i64.wrap ((k : Int) + 1) = ((k + 1 : Nat) : Int) := wrap64_in (by omega) (by omega)
          have hpl := hinv.lt g'
          have ep : (zl e.pv).getD (0 + (k : Int).toNat) 0 = ((e.pv.getD k 0 : Nat) : Int) := by rw [ek, zl_get]
          have up : IntKind.u64.wrap ((e.pv.getD k 0 : Nat) : Int) = ((e.pv.getD k 0 : Nat) : Int) := wrapU64_in (by omega) (by omega)
          repeat refine AJoin.plain ?_
          refine And.intro ⟨by omega, by omega⟩ ?_
          refine And.intro (by show 0 + (k : Int).toNat < (zl (fsts e.ps)).length; rw [zl_len, fsts_len]; omega) ?_
          refine And.intro (by show 0 ≤ IntKind.u64.wrap (d : Int); rw [ud]; omega) ?_
          refine And.intro ⟨by omega, g⟩ ?_
          refine And.intro (by show 0 + (k : Int).toNat < (zl e.pv).length; rw [zl_len]; omega) ?_
          refine And.intro (by show 0 ≤ IntKind.u64.wrap ((zl e.pv).getD (0 + (k : Int).toNat) 0); rw [ep, up]; omega) ?_
          repeat (first | refine And.intro (by kernel_rfl) ?_ | refine And.intro (by decide) ?_)
          refine ⟨k + 1, ⟨by omega, by show e.pv.length - (k + 1) < e.pv.length - k; omega⟩, .id ⟨congrArg (int .u64) ?_, congrArg (int .i64) wk, trivial⟩ rfl trivial rfl⟩
          show bitI .or .u64 ((kv e d k : Nat) : Int) (IntKind.u64.wrap (bitI .and .u64 (((zl (fsts e.ps)).getD (0 + (k : Int).toNat) 0).fdiv (2 ^ min (IntKind.u64.wrap (d : Int)).toNat IntKind.u64.bits)) 1 * 2 ^ min (IntKind.u64.wrap ((zl e.pv).getD (0 + (k : Int).toNat) 0)).toNat IntKind.u64.bits)) = _
          rw [ep, up, ek, zl_get, fsts_get, ud, bit_form (hBe k).1 (by omega), shl_form _ (by omega), or_bt _ (lt64 (hinv.kvk_lt (by omega) (by omega)) (by omega)) (by omega), kv]
        · have hq : k = e.pv.length := by
            have h2 : ¬ (k : Int) < (e.pv.length : Int) := g
            clear g
            omega
          clear g
          subst hq
          repeat refine AJoin.plain ?_
          refine And.intro ⟨by show 0 + (kl e m j).length ≤ (zl (kl e m j)).length; rw [zl_len]; omega, trivial⟩ ?_
          refine And.intro ⟨Nat.le_of_ble_eq_true rfl, trivial⟩ ?_
          refine And.intro (by show (kl e m j).length + 1 ≤ 4294967296; omega) ?_
          repeat (first | refine And.intro (by kernel_rfl) ?_ | refine And.intro (by decide) ?_)
          have e1 : (kl e m j).length + 1 = (kl e m (j + 1)).length := by rw [hk]; simp
          refine ⟨j + 1, ⟨h', by show m - (j + 1) < m - j; omega⟩, isAt.go [(5, .to 7)] ⟨congrArg (fun n : Nat => SV.o (.c (.s 7 0 n 1))) e1, congrArg (int .i64) wd, trivial⟩ ⟨leB.ints_eq ?_ id, trivial⟩⟩
          show List.take (kl e m j).length (List.drop 0 (zl (kl e m j))) ++ List.take 1 (List.drop 0 [((kv e d e.pv.length : Nat) : Int)]) = zl (kl e m (j + 1))
          rw [app1, hk]
  · have hq : j = m := by
      have h2 : ¬ (m : Int) - 1 - (j : Nat) ≥ 0 := h
      clear h
      omega
    subst hq
    repeat (first | refine And.intro (by kernel_rfl) ?_ | refine And.intro (by decide) ?_)
    exact ⟨(kl e j j, 0), by rw [kerF, h1, if_pos rfl, Int.toNat_natCast, ← he], isEnd.go [(1, .to 5)] rfl ⟨.inl rfl, .inl rfl, trivial⟩⟩
end Go.Sx.T1
namespace Go.Sx.T1
open Go.Proofs Go.Sx.Gf
def turnF (c : Int) (rows : List Nat) : MD := if okM c rows = true then ⟨rows.length, turn c.toNat rows, 0⟩ else ⟨0, [], 1⟩
theorem turn_succ (i : Nat) (rows : List Nat) : turn (i + 1) rows = turn i rows ++ [trow rows i] := by simp [turn, List.range_succ]
def colN (rows : List Nat) (k j : Nat) : Nat := ofB j fun i => (rows.getD i 0).testBit k
set_option maxHeartbeats 3200000 in
set_option maxRecDepth 10000 in
theorem turn_fc (c : Int) (rows : List Nat) (hl : rows.length ≤ 140737488351232) (hr : ∀ k, rows.getD k 0 < 18446744073709551616) :
    ∃ d : MD, FC Tryd.prog 12 [.o (.a (mat c rows))] [u64n rows false] (mdS 1 d) [u64n rows false, u64n d.rows true] ∧ d = turnF c rows := by
  refine FC.rj mix Tryd.func12 ?_
  repeat (first | refine And.intro (by kernel_rfl) ?_ | refine And.intro (by decide) ?_)
  refine FC.u (valid_fc c rows hl hr) [0] ?_
  refine bselNot (bsel_intro (fun h1 => ?_) (fun h1 => ?_))
  rotate_left
  · repeat (first | refine And.intro (by kernel_rfl) ?_ | refine And.intro (by decide) ?_)
    exact ⟨⟨0, [], 1⟩, by rw [turnF, if_neg (by simp [h1])], isEnd.go [(1, .new 1)] rfl ⟨.inl rfl, newI 1 rfl, trivial⟩⟩
  obtain ⟨a1, a2, a3, a4, a5⟩ := okM_bd h1
  obtain ⟨c, rfl⟩ : ∃ n : Nat, c = n := ⟨c.toNat, by omega⟩
  repeat refine AJoin.plain ?_
  refine ALoop.goN (X := Nat) (fun k => k ≤ c) (fun k => c - k) [1, 2, 4, 18] [0, 1, 2] (fun k => [(19, int .i64 k)])
    (fun k => [(3, ⟨.box [.v (.int .i64 rows.length), .s 4 0 (turn k rows).length 1], true⟩), (4, ⟨.ints .u64 (zl (turn k rows)), true⟩)]) 0 5
    (Nat.zero_le _) (isAt.go [(4, .new 1)] ⟨rfl, trivial⟩ ⟨.inl rfl, newI 1 rfl, trivial⟩) ?_
  intro k hk
  have tl := turn_len k rows
  dsimp only [headF, headM]
  refine bselD (fun h => ?_) (fun h => ?_)
  · have h' : k < c := by omega
    have wk : IntKind.i64.wrap ((k : Int) + 1) = ((k + 1 : Nat) : Int) := wrap64_in (by omega) (by omega)
    repeat refine AJoin.plain ?_
    refine ALoop.go (X := Nat) (fun j => j ≤ rows.length) (fun j => rows.length - j) [1, 2, 4, 5, 18, 19, 23, 24] [0, 1, 2, 3, 4]
      (fun j => [(6, int .u64 ((colN rows k j : Nat) : Int)), (25, int .i64 j)]) (fun _ => []) 0 (Nat.zero_le _) ⟨rfl, rfl, trivial⟩ trivial ?_
    intro j hj
    dsimp only [headF, headM]
    refine bselD (fun g => ?_) (fun g => ?_)
    · have g' : j < rows.length := by omega
      have wj : IntKind.i64.wrap ((j : Int) + 1) = ((j + 1 : Nat) : Int) := wrap64_in (by omega) (by omega)
      have ej : 0 + (j : Int).toNat = j := by simp
      have cl : colN rows k j < 18446744073709551616 := lt64 (ofB_lt j _) (by omega)
      have key : bitI .or .u64 ((colN rows k j : Nat) : Int) (IntKind.u64.wrap (bitI .and .u64 (((zl rows).getD (0 + (j : Int).toNat) 0).fdiv (2 ^ min (k : Int).toNat IntKind.u64.bits)) 1 * 2 ^ min (j : Int).toNat IntKind.u64.bits)) = ((colN rows k (j + 1) : Nat) : Int) := by
        rw [ej, zl_get, bit_form (hr j) (by omega), shl_form _ (by omega), or_bt _ cl (by omega)]
        rfl
      repeat refine AJoin.plain ?_
      refine And.intro ⟨by omega, g⟩ ?_
      refine And.intro (by show 0 + (j : Int).toNat < (zl rows).length; rw [zl_len]; omega) ?_
      refine And.intro (by omega) ?_
      refine And.intro (by omega) ?_
      repeat (first | refine And.intro (by kernel_rfl) ?_ | refine And.intro (by decide) ?_)
      exact ⟨j + 1, ⟨g', by show rows.length - (j + 1) < rows.length - j; omega⟩, .id ⟨congrArg (int .u64) key, congrArg (int .i64) wj, trivial⟩ rfl trivial rfl⟩
    · obtain rfl : j = rows.length := by omega
      repeat refine AJoin.plain ?_
      refine And.intro ⟨by show 0 + (turn k rows).length ≤ (zl (turn k rows)).length; rw [zl_len]; omega, trivial⟩ ?_
      refine And.intro ⟨Nat.le_of_ble_eq_true rfl, trivial⟩ ?_
      refine And.intro (by show (turn k rows).length + 1 ≤ 4294967296; omega) ?_
      repeat (first | refine And.intro (by kernel_rfl) ?_ | refine And.intro (by decide) ?_)
      have e1 : (turn k rows).length + 1 = (turn (k + 1) rows).length := by rw [turn_len, turn_len]
      refine ⟨k + 1, ⟨h', by show c - (k + 1) < c - k; omega⟩, isAt.go [(4, .to 6)] ⟨congrArg (int .i64) wk, trivial⟩
        ⟨.inl (congrArg (fun n : Nat => some (⟨.box [.v (.int .i64 rows.length), .s 6 0 n 1], true⟩ : Blk)) e1), leB.ints_eq ?_ id, trivial⟩⟩
      show List.take (turn k rows).length (List.drop 0 (zl (turn k rows))) ++ List.take 1 (List.drop 0 [((colN rows k rows.length : Nat) : Int)]) = zl (turn (k + 1) rows)
      rw [app1, turn_succ]; rfl
  · obtain rfl : k = c := by omega
    repeat (first | refine And.intro (by kernel_rfl) ?_ | refine And.intro (by decide) ?_)
    exact ⟨⟨rows.length, turn k rows, 0⟩, by rw [turnF, if_pos h1, Int.toNat_natCast], isEnd.go [(1, .to 4)] rfl ⟨.inl rfl, .inl rfl, trivial⟩⟩
end Go.Sx.T1
namespace Go.Sx.T1
open Go.Proofs Go.Sx.Gf
/-! the reference's Turn and Apply -/
set_option maxHeartbeats 3200000 in
set_option maxRecDepth 10000 in
theorem turn05_fc (c : Int) (rows : List Nat) (hr : ∀ k, rows.getD k 0 < 18446744073709551616) :
    ∃ d : MD, FC Tryd.prog 33 [.o (.a (mat c rows))] [u64n rows false] (mdS 1 d) [u64n rows false, u64n d.rows true] ∧ d = turnF c rows := by
  refine FC.rj mix Tryd.func33 ?_
  repeat (first | refine And.intro (by kernel_rfl) ?_ | refine And.intro (by decide) ?_)
  refine FC.u (valid05_fc c rows hr) [0] ?_
  refine bselNot (bsel_intro (fun h1 => ?_) (fun h1 => ?_))
  rotate_left
  · repeat (first | refine And.intro (by kernel_rfl) ?_ | refine And.intro (by decide) ?_)
    exact ⟨⟨0, [], 1⟩, by rw [turnF, if_neg (by simp [h1])], isEnd.go [(1, .new 1)] rfl ⟨.inl rfl, newI 1 rfl, trivial⟩⟩
  obtain ⟨a1, a2, a3, a4, a5⟩ := okM_bd h1
  obtain ⟨c, rfl⟩ : ∃ n : Nat, c = n := ⟨c.toNat, by omega⟩
  repeat refine AJoin.plain ?_
  refine ALoop.goN (X := Nat) (fun k => k ≤ c) (fun k => c - k) [1, 2, 4] [0, 1, 2] (fun k => [(5, int .i64 k)])
    (fun k => [(3, ⟨.box [.v (.int .i64 rows.length), .s 4 0 (turn k rows).length 1], true⟩), (4, ⟨.ints .u64 (zl (turn k rows)), true⟩)]) 0 5
    (Nat.zero_le _) (isAt.go [(4, .new 1)] ⟨rfl, trivial⟩ ⟨.inl rfl, newI 1 rfl, trivial⟩) ?_
  intro k hk
  have tl := turn_len k rows
  dsimp only [headF, headM]
  refine bselD (fun h => ?_) (fun h => ?_)
  · have h' : k < c := by omega
    have wk : IntKind.i64.wrap ((k : Int) + 1) = ((k + 1 : Nat) : Int) := wrap64_in (by omega) (by omega)
    have uk : IntKind.u64.wrap (k : Int) = (k : Int) := wrapU64_in (by omega) (by omega)
    repeat refine AJoin.plain ?_
    refine ALoop.go (X := Nat) (fun j => j ≤ rows.length) (fun j => rows.length - j) [1, 2, 4, 5] [0, 1, 2, 3, 4]
      (fun j => [(6, int .u64 ((colN rows k j : Nat) : Int)), (7, int .i64 j)]) (fun _ => []) 0 (Nat.zero_le _) ⟨rfl, rfl, trivial⟩ trivial ?_
    intro j hj
    dsimp only [headF, headM]
    refine bselD (fun g => ?_) (fun g => ?_)
    · have g' : j < rows.length := by omega
      have wj : IntKind.i64.wrap ((j : Int) + 1) = ((j + 1 : Nat) : Int) := wrap64_in (by omega) (by omega)
      have uj : IntKind.u64.wrap (j : Int) = (j : Int) := wrapU64_in (by omega) (by omega)
      have ej : 0 + (j : Int).toNat = j := by simp
      have cl : colN rows k j < 18446744073709551616 := lt64 (ofB_lt j _) (by omega)
      have key : bitI .or .u64 ((colN rows k j : Nat) : Int) (IntKind.u64.wrap (bitI .and .u64 (((zl rows).getD (0 + (j : Int).toNat) 0).fdiv (2 ^ min (IntKind.u64.wrap (k : Int)).toNat IntKind.u64.bits)) 1 * 2 ^ min (IntKind.u64.wrap (j : Int)).toNat IntKind.u64.bits)) = ((colN rows k (j + 1) : Nat) : Int) := by
        rw [ej, zl_get, uk, uj, bit_form (hr j) (by omega), shl_form _ (by omega), or_bt _ cl (by omega)]
        rfl
      repeat refine AJoin.plain ?_
      refine And.intro ⟨by omega, g⟩ ?_
      refine And.intro (by show 0 + (j : Int).toNat < (zl rows).length; rw [zl_len]; omega) ?_
      refine And.intro (by show 0 ≤ IntKind.u64.wrap (k : Int); rw [uk]; omega) ?_
      refine And.intro (by show 0 ≤ IntKind.u64.wrap (j : Int); rw [uj]; omega) ?_
      repeat (first | refine And.intro (by kernel_rfl) ?_ | refine And.intro (by decide) ?_)
      exact ⟨j + 1, ⟨g', by show rows.length - (j + 1) < rows.length - j; omega⟩, .id ⟨congrArg (int .u64) key, congrArg (int .i64) wj, trivial⟩ rfl trivial rfl⟩
    · obtain rfl : j = rows.length := by omega
      repeat refine AJoin.plain ?_
      refine And.intro ⟨by show 0 + (turn k rows).length ≤ (zl (turn k rows)).length; rw [zl_len]; omega, trivial⟩ ?_
      refine And.intro ⟨Nat.le_of_ble_eq_true rfl, trivial⟩ ?_
      refine And.intro (by show (turn k rows).length + 1 ≤ 4294967296; omega) ?_
      repeat (first | refine And.intro (by kernel_rfl) ?_ | refine And.intro (by decide) ?_)
      have e1 : (turn k rows).length + 1 = (turn (k + 1) rows).length := by rw [turn_len, turn_len]
      refine ⟨k + 1, ⟨h', by show c - (k + 1) < c - k; omega⟩, isAt.go [(4, .to 6)] ⟨congrArg (int .i64) wk, trivial⟩
        ⟨.inl (congrArg (fun n : Nat => some (⟨.box [.v (.int .i64 rows.length), .s 6 0 n 1], true⟩ : Blk)) e1), leB.ints_eq ?_ id, trivial⟩⟩
      show List.take (turn k rows).length (List.drop 0 (zl (turn k rows))) ++ List.take 1 (List.drop 0 [((colN rows k rows.length : Nat) : Int)]) = zl (turn (k + 1) rows)
      rw [app1, turn_succ]; rfl
  · obtain rfl : k = c := by omega
    repeat (first | refine And.intro (by kernel_rfl) ?_ | refine And.intro (by decide) ?_)
    exact ⟨⟨rows.length, turn k rows, 0⟩, by rw [turnF, if_pos h1, Int.toNat_natCast], isEnd.go [(1, .to 4)] rfl ⟨.inl rfl, .inl rfl, trivial⟩⟩
set_option maxHeartbeats 3200000 in
set_option maxRecDepth 10000 in
theorem apply05_fc (c : Int) (rows : List Nat) (v : Nat) (hr : ∀ k, rows.getD k 0 < 18446744073709551616) (hv : v < 18446744073709551616) :
    ∃ p : Nat × Int, FC Tryd.prog 31 [.o (.a (mat c rows)), int .u64 v] [u64n rows false] (niS p) [u64n rows false] ∧ p = applyF c rows v := by
  refine FC.rj mix Tryd.func31 ?_
  repeat (first | refine And.intro (by kernel_rfl) ?_ | refine And.intro (by decide) ?_)
  refine FC.u (valid05_fc c rows hr) [0] ?_
  refine bselNot (bsel_intro (fun h1 => ?_) (fun h1 => ?_))
  rotate_left
  · repeat (first | refine And.intro (by kernel_rfl) ?_ | refine And.intro (by decide) ?_)
    exact ⟨(0, 1), by rw [applyF, if_neg (by simp [h1])], .id rfl ⟨.inl rfl, trivial⟩⟩
  obtain ⟨a1, a2, a3, a4, a5⟩ := okM_bd h1
  obtain ⟨c, rfl⟩ : ∃ n : Nat, c = n := ⟨c.toNat, by omega⟩
  repeat refine AJoin.plain ?_
  refine FC.u (beyond05_fc v c (by omega)) [] ?_
  have eb : beyB v c = !decide (v < 2 ^ c) := by
    unfold beyB
    by_cases h : c < 64
    · rw [decide_eq_true h, Bool.true_and]
    · rw [decide_eq_false h, Bool.false_and, show c = 64 by omega, decide_eq_true hv]; rfl
  refine bsel_intro (fun h2 => ?_) (fun h2 => ?_) <;> rw [eb] at h2
  · repeat (first | refine And.intro (by kernel_rfl) ?_ | refine And.intro (by decide) ?_)
    exact ⟨(0, 7), by rw [applyF, if_pos h1, Int.toNat_natCast, if_neg (by simpa using h2)], .id rfl ⟨.inl rfl, trivial⟩⟩
  repeat refine AJoin.plain ?_
  refine ALoop.go (X := Nat) (fun i => i ≤ rows.length) (fun i => rows.length - i) [1, 2] [0, 1] (fun i => [(6, int .u64 ((apF rows v i : Nat) : Int)), (7, int .i64 i)]) (fun _ => []) 0 (Nat.zero_le _) ⟨rfl, rfl, trivial⟩ trivial ?_
  intro i hi
  dsimp only [headF, headM]
  refine bselD (fun g => ?_) (fun g => ?_)
  · have g' : i < rows.length := by omega
    have wi : IntKind.i64.wrap ((i : Int) + 1) = ((i + 1 : Nat) : Int) := wrap64_in (by omega) (by omega)
    have ui : IntKind.u64.wrap (i : Int) = (i : Int) := wrapU64_in (by omega) (by omega)
    have ei : 0 + (i : Int).toNat = i := by simp
    repeat refine AJoin.plain ?_
    refine And.intro ⟨by omega, g⟩ ?_
    refine And.intro (by show 0 + (i : Int).toNat < (zl rows).length; rw [zl_len]; omega) ?_
    conv => whnf
    rw [ei, zl_get, and_u64 (hr i) hv]
    refine FC.u (parity05_fc (rows.getD i 0 &&& v) (Nat.lt_of_le_of_lt Nat.and_le_right hv)) [] ?_
    rw [pr_and]
    conv => whnf
    rw [ui]
    refine And.intro (by omega) ?_
    have key : bitI .or .u64 ((apF rows v i : Nat) : Int) (IntKind.u64.wrap (((bn (dot 64 (rows.getD i 0) v) : Nat) : Int) * 2 ^ min (i : Int).toNat IntKind.u64.bits)) = ((apF rows v (i + 1) : Nat) : Int) := by
      rw [shl_form _ (by omega), or_bt _ (lt64 (apF_lt rows v i) (by omega)) (by omega)]
      rfl
    repeat refine AJoin.plain ?_
    exact ⟨i + 1, ⟨by show i + 1 ≤ rows.length; omega, by show rows.length - (i + 1) < rows.length - i; omega⟩, .id ⟨congrArg (int .u64) key, congrArg (int .i64) wi, trivial⟩ rfl trivial rfl⟩
  · obtain rfl : i = rows.length := by omega
    repeat (first | refine And.intro (by kernel_rfl) ?_ | refine And.intro (by decide) ?_)
    exact ⟨(apF rows v rows.length, 0), by rw [applyF, if_pos h1, Int.toNat_natCast, if_pos (by simpa using h2)], .id rfl ⟨.inl rfl, trivial⟩⟩
end Go.Sx.T1
namespace Go.Sx.Gf
theorem compl_and : ∀ (n w : Nat), w < 2 ^ n → w &&& (2 ^ n - 1 - w) = 0
  | 0, w, h => by
    have : w = 0 := by simpa using h
    subst this; simp
  | n + 1, w, h => by
    have hp := Nat.two_pow_pos n
    rw [Nat.pow_succ] at h ⊢
    apply Nat.eq_of_testBit_eq
    intro i
    rw [Nat.testBit_and, Nat.zero_testBit]
    cases i with
    | zero =>
      rw [bit0, bit0]
      rcases Nat.mod_two_eq_zero_or_one w with e | e
      · rw [e]; rfl
      · rw [show (2 ^ n * 2 - 1 - w) % 2 = 0 by omega]; simp
    | succ i =>
      rw [Nat.testBit_succ, Nat.testBit_succ, show (2 ^ n * 2 - 1 - w) / 2 = 2 ^ n - 1 - w / 2 by omega, ← Nat.testBit_and, compl_and n (w / 2) (by omega), Nat.zero_testBit]
theorem neg_and : ∀ (n v : Nat), v ≠ 0 → v < 2 ^ n → v &&& (2 ^ n - v) = 2 ^ tz n v
  | 0, v, hv, h => by simp at h; exact absurd h hv
  | n + 1, v, hv, h => by
    have hp := Nat.two_pow_pos n
    have h' := h
    rw [Nat.pow_succ] at h'
    rcases half_cases v with ⟨w, rfl⟩ | ⟨w, rfl⟩
    · have e : tz (n + 1) (2 * w + 1) = 0 := by rw [tz, if_pos (by omega)]
      rw [e, Nat.pow_succ]
      apply Nat.eq_of_testBit_eq
      intro i
      rw [Nat.testBit_and]
      cases i with
      | zero => rw [bit0, bit0, show (2 * w + 1) % 2 = 1 by omega, show (2 ^ n * 2 - (2 * w + 1)) % 2 = 1 by omega]; rfl
      | succ i =>
        rw [Nat.testBit_succ, Nat.testBit_succ, show (2 * w + 1) / 2 = w by omega, show (2 ^ n * 2 - (2 * w + 1)) / 2 = 2 ^ n - 1 - w by omega, ← Nat.testBit_and, compl_and n w (by omega), Nat.zero_testBit]
        rw [Nat.pow_zero, Nat.testBit_succ, show 1 / 2 = 0 by rfl, Nat.zero_testBit]
    · have hw : w ≠ 0 := by omega
      have e : tz (n + 1) (2 * w) = tz n w + 1 := by rw [tz, if_neg (by omega), show 2 * w / 2 = w by omega]
      have ih := neg_and n w hw (by omega)
      rw [e, Nat.pow_succ, Nat.pow_succ, ← ih]
      apply Nat.eq_of_testBit_eq
      intro i
      rw [Nat.testBit_and]
      cases i with
      | zero => rw [bit0, bit0, bit0, show 2 * w % 2 = 0 by omega, show (w &&& 2 ^ n - w) * 2 % 2 = 0 by omega]; rfl
      | succ i => rw [Nat.testBit_succ, Nat.testBit_succ, Nat.testBit_succ, show 2 * w / 2 = w by omega, show (2 ^ n * 2 - 2 * w) / 2 = 2 ^ n - w by omega, show (w &&& 2 ^ n - w) * 2 / 2 = (w &&& 2 ^ n - w) by omega, Nat.testBit_and]
end Go.Sx.Gf
namespace Go.Sx.T1
open Go.Proofs Go.Sx.Gf
/-- the library's table -/
def tabL : List Int := [0, 1, 56, 2, 57, 49, 28, 3, 61, 58, 42, 50, 38, 29, 17, 4, 62, 47, 59, 36, 45, 43, 51, 22, 53, 39, 33, 30, 24, 18, 12, 5, 63, 55, 48, 27, 60, 41, 37, 16, 46, 35, 44, 21, 52, 32, 23, 11, 54, 26, 40, 15, 34, 20, 31, 10, 25, 14, 19, 9, 13, 8, 7, 6]
def tabE : List (List Int × Value) := ([0], .int .u8 0) :: tabL.map fun x => ([x], .bool false)
def tabB : Option Blk := some ⟨.map .glob tabE, false⟩
theorem tab_is : ∀ t : Nat, t < 64 → tabL.getD (((2 ^ t * 285870213051353865) % 18446744073709551616) / 2 ^ 58) 0 = (t : Int) ∧ ((2 ^ t * 285870213051353865) % 18446744073709551616) / 2 ^ 58 < 64 := by decide +kernel
theorem low1 {x : Nat} (h0 : x ≠ 0) (hx : x < 18446744073709551616) : bitI .and .u64 (x : Int) (IntKind.u64.wrap (0 - (x : Int))) = ((2 ^ tz 64 x : Nat) : Int) := by
  have h := neg_and 64 x h0 hx
  have e : IntKind.u64.wrap (0 - (x : Int)) = ((2 ^ 64 - x : Nat) : Int) := by rw [IntKind.wrap_u64]; omega
  rw [e, and_u64 hx (by omega), h]
theorem tab_get (l : List Int) (i : Nat) (hl : i < l.length) : ((l.map fun x => (([x], .bool false) : List Int × Value)).getD i ([], .int .u8 0)).1.getD 0 0 = l.getD i 0 := by
  have e1 : (l.map fun x => (([x], .bool false) : List Int × Value)).getD i ([], .int .u8 0) = ([l.getD i 0], .bool false) := by
    rw [List.getD_eq_getElem?_getD, List.getElem?_map, List.getElem?_eq_getElem hl, List.getD_eq_getElem?_getD (l := l), List.getElem?_eq_getElem hl]
    rfl
  rw [e1]; rfl
set_option maxHeartbeats 3200000 in
set_option maxRecDepth 10000 in
theorem tz64_fc (x : Nat) (h0 : x ≠ 0) (hx : x < 18446744073709551616) : FC Tryd.prog 25 [int .u64 x] [tabB] (int .i64 ((tz 64 x : Nat) : Int)) [tabB] := by
  have ht := (tz_spec 64 x h0 hx).1
  have hl := low1 h0 hx
  have htab := tab_is (tz 64 x) ht
  refine FC.one (FC.rj mix Tryd.func25 ?_)
  repeat (first | refine And.intro (by kernel_rfl) ?_ | refine And.intro (by decide) ?_)
  refine bselE (fun h => absurd h (by omega)) (fun h => ?_)
  repeat refine AJoin.plain ?_
  conv => whnf
  rw [hl]
  have hidx : ∀ t : Nat, (IntKind.u64.wrap (((2 ^ t : Nat) : Int) * 285870213051353865)).fdiv (2 ^ min (Int.toNat 58) IntKind.u64.bits) = ((2 ^ t * 285870213051353865 % 18446744073709551616 / 2 ^ 58 : Nat) : Int) := fun t => by
    rw [show ((2 ^ t : Nat) : Int) * 285870213051353865 = ((2 ^ t * 285870213051353865 : Nat) : Int) by rw [Int.natCast_mul]; rfl, wrap_u64_nat]
    exact shr_u64 _ 58 (by decide)
  generalize tz 64 x = t at ht htab
  refine And.intro (by decide) ?_
  conv => whnf
  rw [hidx t]
  obtain ⟨h1, h2⟩ := htab
  generalize 2 ^ t * 285870213051353865 % 18446744073709551616 / 2 ^ 58 = i at h1 h2
  refine And.intro ⟨by omega, by show (i : Int) < 64; omega⟩ ?_
  have eo : 0 + (i : Int).toNat * szT Tryd.prog 5 = i := by
    have : szT Tryd.prog 5 = 1 := by kernel_rfl
    rw [this, Nat.mul_one, Nat.zero_add, Int.toNat_natCast]
  have eg := tab_get tabL i h2
  rw [h1] at eg
  refine And.intro (by show 0 + (i : Int).toNat * szT Tryd.prog 5 < (tabL.map fun x => (([x], .bool false) : List Int × Value)).length; rw [eo]; exact h2) ?_
  conv => whnf
  refine ⟨(), trivial, .id (congrArg (int .i64) ?_) ⟨.inl rfl, trivial⟩⟩
  show IntKind.i64.wrap (((tabL.map fun x => (([x], .bool false) : List Int × Value)).getD (0 + (i : Int).toNat * szT Tryd.prog 5) ([], .int .u8 0)).1.getD 0 0) = _
  rw [eo, eg]
  exact wrap64_in (by omega) (by omega)
end Go.Sx.T1
namespace Go.Sx.Gf
theorem mulr_same (b : List Nat) {v u : Nat} : ∀ n, (∀ i, i < n → v.testBit i = u.testBit i) → mulr b v n = mulr b u n
  | 0, _ => rfl
  | n + 1, h => by rw [mulr, mulr, mulr_same b n (fun i hi => h i (by omega)), h n (by omega)]
theorem xor_swap (a b c : Nat) : (a ^^^ b) ^^^ c = (a ^^^ c) ^^^ b := by
  rw [Nat.xor_assoc, Nat.xor_comm b c, ← Nat.xor_assoc]
theorem mulr_low (b : List Nat) {v u t : Nat} (ht : v.testBit t = true) (hu : ∀ i, u.testBit i = (v.testBit i && decide (i ≠ t))) : ∀ n, t < n → mulr b v n = mulr b u n ^^^ b.getD t 0
  | 0, h => by omega
  | n + 1, h => by
    by_cases e : t = n
    · subst e
      rw [mulr, mulr, ht, hu t, if_pos rfl]
      simp only [ne_eq, not_true_eq_false, decide_false, Bool.and_false, Bool.false_eq_true, if_false, Nat.xor_zero]
      rw [mulr_same b t fun i hi => by rw [hu i, decide_eq_true (by omega), Bool.and_true]]
    · rw [mulr, mulr, mulr_low b ht hu n (by omega), hu n, decide_eq_true (by omega), Bool.and_true, xor_swap]
theorem mulr_low0 (b : List Nat) {v n : Nat} (h0 : v ≠ 0) (hv : v < 2 ^ n) (hn : n ≤ 64) : tz 64 v < n ∧ mulr b v n = mulr b (low v) n ^^^ b.getD (tz 64 v) 0 := by
  have h64 : v < 2 ^ 64 := Nat.lt_of_lt_of_le hv (Nat.pow_le_pow_right (by omega) hn)
  obtain ⟨h1, h2, h3, h4⟩ := tz_spec 64 v h0 h64
  have ht : tz 64 v < n := by
    rcases Nat.lt_or_ge (tz 64 v) n with h | h
    · exact h
    · have := Nat.testBit_lt_two_pow (Nat.lt_of_lt_of_le hv (Nat.pow_le_pow_right (n := 2) (by omega) h))
      rw [this] at h2; cases h2
  exact ⟨ht, mulr_low b h2 h4 n ht⟩
theorem mulr_zero (b : List Nat) : ∀ n, mulr b 0 n = 0
  | 0 => rfl
  | n + 1 => by rw [mulr, mulr_zero b n]; simp
end Go.Sx.Gf
namespace Go.Sx.T1
open Go.Proofs Go.Sx.Gf
def matK (k : Nat) (c : Int) (rows : List Nat) : List C := [.v (.int .i64 c), .s k 0 rows.length 1]
def mulF (ca : Int) (a : List Nat) (cb : Int) (b : List Nat) : MD := if okM ca a = true ∧ okM cb b = true then (if ca ≠ b.length then ⟨0, [], 7⟩ else ⟨cb, mul a b, 0⟩) else ⟨0, [], 1⟩
def mulT (a b : List Nat) (i : Nat) : List Nat := (a.take i).map fun r => mulr b r b.length
theorem mulT_len {a : List Nat} (b : List Nat) {i : Nat} (h : i ≤ a.length) : (mulT a b i).length = i := by simp [mulT]; omega
theorem mulT_succ {a : List Nat} (b : List Nat) {i : Nat} (h : i < a.length) : mulT a b (i + 1) = mulT a b i ++ [mulr b (a.getD i 0) b.length] := by
  have e : a.take (i + 1) = a.take i ++ [a.getD i 0] := by
    rw [List.take_add_one, List.getElem?_eq_getElem h, List.getD_eq_getElem?_getD, List.getElem?_eq_getElem h]; rfl
  rw [mulT, e, List.map_append]; rfl
theorem mulT_all (a b : List Nat) : mulT a b a.length = mul a b := by simp [mulT, mul]
structure VS where
  v : Nat
  s : Nat
def mulM (a b : List Nat) (d : MD) : Mem := [u64n a false, u64n b false, tabB, u64n d.rows true]
set_option maxHeartbeats 3200000 in
set_option maxRecDepth 10000 in
theorem mul_fc (ca : Int) (a : List Nat) (cb : Int) (b : List Nat) (hla : a.length ≤ 140737488351232) (hlb : b.length ≤ 140737488351232) (ha : ∀ k, a.getD k 0 < 18446744073709551616) (hb : ∀ k, b.getD k 0 < 18446744073709551616) :
    ∃ d : MD, FC Tryd.prog 13 [.o (.a (matK 0 ca a)), .o (.a (matK 1 cb b))] [u64n a false, u64n b false, tabB] (mdS 3 d) (mulM a b d) ∧ d = mulF ca a cb b := by
  refine FC.rj mix Tryd.func13 ?_
  repeat (first | refine And.intro (by kernel_rfl) ?_ | refine And.intro (by decide) ?_)
  refine FC.u (valid_fc ca a hla ha) [0] ?_
  refine bselNot (bsel_intro (fun h1 => ?_) (fun h1 => ?_))
  rotate_left
  · repeat (first | refine And.intro (by kernel_rfl) ?_ | refine And.intro (by decide) ?_)
    exact ⟨⟨0, [], 1⟩, by rw [mulF, if_neg (by simp [h1])], isEnd.go [(3, .new 1)] rfl ⟨.inl rfl, .inl rfl, .inl rfl, newI 1 rfl, trivial⟩⟩
  refine FC.u (valid_fc cb b hlb hb) [1] ?_
  refine bselNot (bsel_intro (fun h2 => ?_) (fun h2 => ?_))
  rotate_left
  · repeat (first | refine And.intro (by kernel_rfl) ?_ | refine And.intro (by decide) ?_)
    exact ⟨⟨0, [], 1⟩, by rw [mulF, if_neg (by simp [h2])], isEnd.go [(3, .new 1)] rfl ⟨.inl rfl, .inl rfl, .inl rfl, newI 1 rfl, trivial⟩⟩
  repeat refine AJoin.plain ?_
  refine bselN (fun h3 => ?_) (fun h3 => ?_)
  · repeat (first | refine And.intro (by kernel_rfl) ?_ | refine And.intro (by decide) ?_)
    exact ⟨⟨0, [], 7⟩, by rw [mulF, if_pos ⟨h1, h2⟩, if_pos h3], isEnd.go [(3, .new 1)] rfl ⟨.inl rfl, .inl rfl, .inl rfl, newI 1 rfl, trivial⟩⟩
  obtain ⟨a1, a2, a3, a4, a5⟩ := okM_bd h1
  obtain ⟨b1, b2, b3, b4, b5⟩ := okM_bd h2
  subst h3
  rw [Int.toNat_natCast] at a5
  repeat refine AJoin.plain ?_
  refine ALoop.goN (X := Nat) (fun i => i ≤ a.length) (fun i => a.length - i) [3, 4, 6, 32, 33] [0, 1, 2, 4, 5] (fun i => [(34, int .i64 i)])
    (fun i => [(6, ⟨.box [.v (.int .i64 cb), .s 7 0 (mulT a b i).length 1], true⟩), (7, ⟨.ints .u64 (zl (mulT a b i)), true⟩)]) 0 8
    (Nat.zero_le _) (isAt.go [(7, .new 1)] ⟨rfl, trivial⟩ ⟨.inl rfl, newI 1 rfl, trivial⟩) ?_
  intro i hi
  have tl := mulT_len b hi
  dsimp only [headF, headM]
  refine bselD (fun h => ?_) (fun h => ?_)
  · have h' : i < a.length := by omega
    have wi : IntKind.i64.wrap ((i : Int) + 1) = ((i + 1 : Nat) : Int) := wrap64_in (by omega) (by omega)
    have ei : 0 + (i : Int).toNat = i := by simp
    have hri := a5 i
    repeat refine AJoin.plain ?_
    refine And.intro ⟨by omega, h⟩ ?_
    refine And.intro (by show 0 + (i : Int).toNat < (zl a).length; rw [zl_len]; omega) ?_
    conv => whnf
    rw [ei, zl_get]
    refine ALoop.go (X := VS) (fun x => x.v < 2 ^ b.length ∧ x.s < 18446744073709551616 ∧ mulr b (a.getD i 0) b.length = x.s ^^^ mulr b x.v b.length) (fun x => x.v) [3, 4, 6, 32, 33, 34] [0, 1, 2, 4, 5, 6, 7]
      (fun x => [(8, int .u64 x.v), (9, int .u64 x.s)]) (fun _ => []) ⟨a.getD i 0, 0⟩ ⟨hri, (by show 0 < 18446744073709551616; decide), by simp⟩ ⟨rfl, rfl, trivial⟩ trivial ?_
    rintro ⟨v, s⟩ ⟨hv, hs, hm⟩
    simp only at hv hs hm
    have hv64 := lt64 hv b4
    dsimp only [headF, headM]
    refine bselN (fun g => ?_) (fun g => ?_)
    · have g0 : v ≠ 0 := by omega
      obtain ⟨ht, hml⟩ := mulr_low0 b g0 hv b4
      have hll := low_lt g0
      have hbt := hb (tz 64 v)
      have et : 0 + ((tz 64 v : Nat) : Int).toNat = tz 64 v := by simp
      repeat refine AJoin.plain ?_
      refine FC.u (tz64_fc v g0 hv64) [2] ?_
      refine And.intro ⟨by omega, by omega⟩ ?_
      refine And.intro (by show 0 + ((tz 64 v : Nat) : Int).toNat < (zl b).length; rw [zl_len]; omega) ?_
      conv => whnf
      rw [et, zl_get, xor_u64 hs hbt]
      repeat (first | refine And.intro (by kernel_rfl) ?_ | refine And.intro (by decide) ?_)
      refine ⟨⟨low v, s ^^^ b.getD (tz 64 v) 0⟩, ⟨⟨by show low v < 2 ^ b.length; omega, Nat.xor_lt_two_pow (n := 64) hs hbt, by rw [hm, hml, ← Nat.xor_assoc, xor_swap]⟩, hll⟩, .id ⟨congrArg (int .u64) (low_u64 g0 hv64), rfl, trivial⟩ rfl trivial rfl⟩
    · obtain rfl : v = 0 := by omega
      rw [mulr_zero, Nat.xor_zero] at hm
      subst hm
      repeat refine AJoin.plain ?_
      refine And.intro ⟨by show 0 + (mulT a b i).length ≤ (zl (mulT a b i)).length; rw [zl_len]; omega, trivial⟩ ?_
      refine And.intro ⟨Nat.le_of_ble_eq_true rfl, trivial⟩ ?_
      refine And.intro (by show (mulT a b i).length + 1 ≤ 4294967296; omega) ?_
      repeat (first | refine And.intro (by kernel_rfl) ?_ | refine And.intro (by decide) ?_)
      have e1 : (mulT a b i).length + 1 = (mulT a b (i + 1)).length := by rw [tl, mulT_len b (by omega)]
      refine ⟨i + 1, ⟨h', by show a.length - (i + 1) < a.length - i; omega⟩, isAt.go [(7, .to 9)] ⟨congrArg (int .i64) wi, trivial⟩
        ⟨.inl (congrArg (fun n : Nat => some (⟨.box [.v (.int .i64 cb), .s 9 0 n 1], true⟩ : Blk)) e1), leB.ints_eq ?_ id, trivial⟩⟩
      show List.take (mulT a b i).length (List.drop 0 (zl (mulT a b i))) ++ List.take 1 (List.drop 0 [((mulr b (a.getD i 0) b.length : Nat) : Int)]) = zl (mulT a b (i + 1))
      rw [app1, mulT_succ b h']
  · obtain rfl : i = a.length := by omega
    repeat (first | refine And.intro (by kernel_rfl) ?_ | refine And.intro (by decide) ?_)
    exact ⟨⟨cb, mulT a b a.length, 0⟩, by rw [mulF, if_pos ⟨h1, h2⟩, if_neg (by simp), mulT_all], isEnd.go [(3, .to 7)] rfl ⟨.inl rfl, .inl rfl, .inl rfl, .inl rfl, trivial⟩⟩
end Go.Sx.T1
namespace Go.Sx.T1
open Go.Proofs Go.Sx.Gf
def mulM2 (a b : List Nat) (d : MD) : Mem := [u64n a false, u64n b false, u64n d.rows true]
set_option maxHeartbeats 3200000 in
set_option maxRecDepth 10000 in
theorem mul05_fc (ca : Int) (a : List Nat) (cb : Int) (b : List Nat) (ha : ∀ k, a.getD k 0 < 18446744073709551616) (hb : ∀ k, b.getD k 0 < 18446744073709551616) :
    ∃ d : MD, FC Tryd.prog 32 [.o (.a (matK 0 ca a)), .o (.a (matK 1 cb b))] [u64n a false, u64n b false] (mdS 2 d) (mulM2 a b d) ∧ d = mulF ca a cb b := by
  refine FC.rj mix Tryd.func32 ?_
  repeat (first | refine And.intro (by kernel_rfl) ?_ | refine And.intro (by decide) ?_)
  refine FC.u (valid05_fc ca a ha) [0] ?_
  refine bselNot (bsel_intro (fun h1 => ?_) (fun h1 => ?_))
  rotate_left
  · repeat (first | refine And.intro (by kernel_rfl) ?_ | refine And.intro (by decide) ?_)
    exact ⟨⟨0, [], 1⟩, by rw [mulF, if_neg (by simp [h1])], isEnd.go [(2, .new 1)] rfl ⟨.inl rfl, .inl rfl, newI 1 rfl, trivial⟩⟩
  refine FC.u (valid05_fc cb b hb) [1] ?_
  refine bselNot (bsel_intro (fun h2 => ?_) (fun h2 => ?_))
  rotate_left
  · repeat (first | refine And.intro (by kernel_rfl) ?_ | refine And.intro (by decide) ?_)
    exact ⟨⟨0, [], 1⟩, by rw [mulF, if_neg (by simp [h2])], isEnd.go [(2, .new 1)] rfl ⟨.inl rfl, .inl rfl, newI 1 rfl, trivial⟩⟩
  repeat refine AJoin.plain ?_
  refine bselN (fun h3 => ?_) (fun h3 => ?_)
  · repeat (first | refine And.intro (by kernel_rfl) ?_ | refine And.intro (by decide) ?_)
    exact ⟨⟨0, [], 7⟩, by rw [mulF, if_pos ⟨h1, h2⟩, if_pos h3], isEnd.go [(2, .new 1)] rfl ⟨.inl rfl, .inl rfl, newI 1 rfl, trivial⟩⟩
  obtain ⟨a1, a2, a3, a4, a5⟩ := okM_bd h1
  obtain ⟨b1, b2, b3, b4, b5⟩ := okM_bd h2
  subst h3
  rw [Int.toNat_natCast] at a5
  have b64 : ∀ k, mulr b (a.getD k 0) k < 18446744073709551616 := fun k => mulr_lt (C := 64) hb k
  repeat refine AJoin.plain ?_
  refine ALoop.goN (X := Nat) (fun i => i ≤ a.length) (fun i => a.length - i) [2, 3, 4, 6] [0, 1, 2, 3, 4] (fun i => [(7, int .i64 i)])
    (fun i => [(5, ⟨.box [.v (.int .i64 cb), .s 6 0 (mulT a b i).length 1], true⟩), (6, ⟨.ints .u64 (zl (mulT a b i)), true⟩)]) 0 7
    (Nat.zero_le _) (isAt.go [(6, .new 1)] ⟨rfl, trivial⟩ ⟨.inl rfl, newI 1 rfl, trivial⟩) ?_
  intro i hi
  have tl := mulT_len b hi
  dsimp only [headF, headM]
  refine bselD (fun h => ?_) (fun h => ?_)
  · have h' : i < a.length := by omega
    have wi : IntKind.i64.wrap ((i : Int) + 1) = ((i + 1 : Nat) : Int) := wrap64_in (by omega) (by omega)
    have ei : 0 + (i : Int).toNat = i := by simp
    have hai := ha i
    repeat refine AJoin.plain ?_
    refine ALoop.go (X := Nat) (fun k => k ≤ b.length) (fun k => b.length - k) [2, 3, 4, 6, 7] [0, 1, 2, 3, 4, 5, 6]
      (fun k => [(8, int .u64 ((mulr b (a.getD i 0) k : Nat) : Int)), (9, int .i64 k)]) (fun _ => []) 0 (Nat.zero_le _) ⟨rfl, rfl, trivial⟩ trivial ?_
    intro k hk
    have mk64 : mulr b (a.getD i 0) k < 18446744073709551616 := mulr_lt (C := 64) hb k
    dsimp only [headF, headM]
    refine bselD (fun g => ?_) (fun g => ?_)
    · have g' : k < b.length := by omega
      have wk : IntKind.i64.wrap ((k : Int) + 1) = ((k + 1 : Nat) : Int) := wrap64_in (by omega) (by omega)
      have uk : IntKind.u64.wrap (k : Int) = (k : Int) := wrapU64_in (by omega) (by omega)
      have ek : 0 + (k : Int).toNat = k := by simp
      repeat refine AJoin.plain ?_
      refine And.intro ⟨by omega, h⟩ ?_
      refine And.intro (by show 0 + (i : Int).toNat < (zl a).length; rw [zl_len]; omega) ?_
      refine And.intro (by show 0 ≤ IntKind.u64.wrap (k : Int); rw [uk]; omega) ?_
      have eb : (bitI .and .u64 (((zl a).getD (0 + (i : Int).toNat) 0).fdiv (2 ^ min (IntKind.u64.wrap (k : Int)).toNat IntKind.u64.bits)) 1 == 1) = (a.getD i 0).testBit k := by
        rw [ei, zl_get, uk, bit_form hai (by omega), bn_eq1]
      repeat (first | refine And.intro (by kernel_rfl) ?_ | refine And.intro (by decide) ?_)
      refine bsel_intro (fun hbit => ?_) (fun hbit => ?_) <;> rw [eb] at hbit
      · have hs : mulr b (a.getD i 0) (k + 1) = mulr b (a.getD i 0) k ^^^ b.getD k 0 := by rw [mulr, hbit, if_pos rfl]
        repeat refine AJoin.plain ?_
        refine And.intro ⟨by omega, by omega⟩ ?_
        refine And.intro (by show 0 + (k : Int).toNat < (zl b).length; rw [zl_len]; omega) ?_
        repeat (first | refine And.intro (by kernel_rfl) ?_ | refine And.intro (by decide) ?_)
        exact ⟨k + 1, ⟨g', by show b.length - (k + 1) < b.length - k; omega⟩, .id ⟨congrArg (int .u64) (by rw [ek, zl_get, xor_u64 mk64 (hb k), hs]), congrArg (int .i64) wk, trivial⟩ rfl trivial rfl⟩
      · have hs : mulr b (a.getD i 0) (k + 1) = mulr b (a.getD i 0) k := by rw [mulr, hbit, if_neg (by simp), Nat.xor_zero]
        repeat refine AJoin.plain ?_
        exact ⟨k + 1, ⟨g', by show b.length - (k + 1) < b.length - k; omega⟩, .id ⟨congrArg (int .u64) (by rw [hs]), congrArg (int .i64) wk, trivial⟩ rfl trivial rfl⟩
    · obtain rfl : k = b.length := by omega
      repeat refine AJoin.plain ?_
      refine And.intro ⟨by show 0 + (mulT a b i).length ≤ (zl (mulT a b i)).length; rw [zl_len]; omega, trivial⟩ ?_
      refine And.intro ⟨Nat.le_of_ble_eq_true rfl, trivial⟩ ?_
      refine And.intro (by show (mulT a b i).length + 1 ≤ 4294967296; omega) ?_
      repeat (first | refine And.intro (by kernel_rfl) ?_ | refine And.intro (by decide) ?_)
      have e1 : (mulT a b i).length + 1 = (mulT a b (i + 1)).length := by rw [tl, mulT_len b (by omega)]
      refine ⟨i + 1, ⟨h', by show a.length - (i + 1) < a.length - i; omega⟩, isAt.go [(6, .to 8)] ⟨congrArg (int .i64) wi, trivial⟩
        ⟨.inl (congrArg (fun n : Nat => some (⟨.box [.v (.int .i64 cb), .s 8 0 n 1], true⟩ : Blk)) e1), leB.ints_eq ?_ id, trivial⟩⟩
      show List.take (mulT a b i).length (List.drop 0 (zl (mulT a b i))) ++ List.take 1 (List.drop 0 [((mulr b (a.getD i 0) b.length : Nat) : Int)]) = zl (mulT a b (i + 1))
      rw [app1, mulT_succ b h']
  · obtain rfl : i = a.length := by omega
    repeat (first | refine And.intro (by kernel_rfl) ?_ | refine And.intro (by decide) ?_)
    exact ⟨⟨cb, mulT a b a.length, 0⟩, by rw [mulF, if_pos ⟨h1, h2⟩, if_neg (by simp), mulT_all], isEnd.go [(2, .to 6)] rfl ⟨.inl rfl, .inl rfl, .inl rfl, trivial⟩⟩
end Go.Sx.T1
namespace Go.Sx.T1
open Go.Proofs Go.Sx.Gf
/-- a matrix of r rows and c columns -/
structure Mx (r c : Nat) (a : List Nat) : Prop where
  len : a.length = r
  bd : ∀ k, a.getD k 0 < 2 ^ c
  r1 : 1 ≤ r ∧ r ≤ 64
  c1 : 1 ≤ c ∧ c ≤ 64
theorem Mx.ok {r c : Nat} {a : List Nat} (h : Mx r c a) : okM c a = true := okM_iff.2 ⟨by have := h.c1; omega, by have := h.c1; omega, by have := h.r1; have := h.len; omega, by have := h.r1; have := h.len; omega, fun k _ => by rw [Int.toNat_natCast]; exact h.bd k⟩
theorem Mx.hl {r c : Nat} {a : List Nat} (h : Mx r c a) : a.length ≤ 140737488351232 := by have := h.r1; have := h.len; omega
theorem Mx.hr {r c : Nat} {a : List Nat} (h : Mx r c a) (k : Nat) : a.getD k 0 < 18446744073709551616 := lt64 (h.bd k) h.c1.2
theorem Mx.turn {r c : Nat} {a : List Nat} (h : Mx r c a) : Mx c r (turn c a) := ⟨turn_len c a, fun k => by
  by_cases hk : k < c
  · rw [turn_get hk, trow, h.len]; exact ofB_lt _ _
  · rw [List.getD_eq_getElem?_getD, List.getElem?_eq_none (by rw [turn_len]; omega)]; exact Nat.two_pow_pos _, h.c1, h.r1⟩
theorem Mx.mul {r k c : Nat} {a b : List Nat} (h : Mx r k a) (g : Mx k c b) : Mx r c (mul a b) := ⟨by simp [Gf.mul, h.len], fun i => by
  by_cases hi : i < a.length
  · rw [Gf.mul, getD_map0 hi]; exact mulr_lt g.bd _
  · rw [List.getD_eq_getElem?_getD, List.getElem?_eq_none (by simp [Gf.mul]; omega)]; exact Nat.two_pow_pos _, h.r1, g.c1⟩
theorem turnL {r c : Nat} {a : List Nat} (h : Mx r c a) (l : Nat) (e : a.length = l) :
    FC Tryd.prog 12 [.o (.a [.v (.int .i64 c), .s 0 0 l 1])] [u64n a false] (.t [.a [.v (.int .i64 r), .s 1 0 c 1], .c (.v (.int .i64 0))]) [u64n a false, u64n (turn c a) true] := by
  subst e
  obtain ⟨d, f, ed⟩ := turn_fc c a h.hl h.hr
  have e1 : turnF c a = ⟨r, turn c a, 0⟩ := by rw [turnF, if_pos h.ok, Int.toNat_natCast, h.len]
  rw [e1] at ed
  subst ed
  have e2 : mdS 1 ⟨r, turn c a, 0⟩ = .t [.a [.v (.int .i64 r), .s 1 0 c 1], .c (.v (.int .i64 0))] := by unfold mdS; simp only [turn_len]
  rw [e2] at f
  exact f
theorem mulL {r k c : Nat} {a b : List Nat} (h : Mx r k a) (g : Mx k c b) (l m : Nat) (e : a.length = l) (e' : b.length = m) :
    FC Tryd.prog 13 [.o (.a [.v (.int .i64 k), .s 0 0 l 1]), .o (.a [.v (.int .i64 c), .s 1 0 m 1])] [u64n a false, u64n b false, tabB] (.t [.a [.v (.int .i64 c), .s 3 0 r 1], .c (.v (.int .i64 0))]) [u64n a false, u64n b false, tabB, u64n (Gf.mul a b) true] := by
  subst e e'
  obtain ⟨d, f, ed⟩ := mul_fc k a c b h.hl g.hl h.hr g.hr
  have e1 : mulF k a c b = ⟨c, Gf.mul a b, 0⟩ := by rw [mulF, if_pos ⟨h.ok, g.ok⟩, if_neg (by rw [g.len]; simp)]
  rw [e1] at ed
  subst ed
  have e2 : mdS 3 ⟨c, Gf.mul a b, 0⟩ = .t [.a [.v (.int .i64 c), .s 3 0 r 1], .c (.v (.int .i64 0))] := by unfold mdS; simp only [(h.mul g).len]
  rw [e2] at f
  exact f
theorem rankL {r c : Nat} {a : List Nat} (h : Mx r c a) (l : Nat) (e : a.length = l) :
    FC Tryd.prog 15 [.o (.a [.v (.int .i64 c), .s 0 0 l 1])] [u64n a false] (int .i64 ((rk c a : Nat) : Int)) [u64n a false] := by
  subst e
  have := rank_fc c a h.hl h.hr
  rw [rankF, h.ok, if_pos rfl, Int.toNat_natCast] at this
  exact this
set_option maxHeartbeats 3200000 in
set_option maxRecDepth 10000 in
theorem samel_fc (xs : List Nat) (n m : Nat) (hn : xs.length = n) (hm : xs.length = m) (h32 : xs.length ≤ 4294967296) : FC Tryd.prog 26 [.o (.c (.s 0 0 n 1)), .o (.c (.s 1 0 m 1))] [u64n xs false, u64n xs false] (boo true) [u64n xs false, u64n xs false] := by
  subst hn
  subst hm
  refine FC.one (FC.rj mix Tryd.func26 ?_)
  repeat (first | refine And.intro (by kernel_rfl) ?_ | refine And.intro (by decide) ?_)
  repeat refine AJoin.plain ?_
  refine bselN (fun h => absurd rfl h) (fun _ => ?_)
  repeat refine AJoin.plain ?_
  refine ALoop.go (X := Nat) (fun i => i ≤ xs.length) (fun i => xs.length - i) [0, 1] [0, 1] (fun i => [(5, int .i64 i)]) (fun _ => []) 0 (Nat.zero_le _) ⟨rfl, trivial⟩ trivial ?_
  intro i hi
  dsimp only [headF, headM]
  refine bselD (fun h => ?_) (fun h => ?_)
  · have h' : i < xs.length := by omega
    have wi : IntKind.i64.wrap ((i : Int) + 1) = ((i + 1 : Nat) : Int) := wrap64_in (by omega) (by omega)
    repeat refine AJoin.plain ?_
    refine And.intro ⟨by omega, h⟩ ?_
    refine And.intro (by show 0 + (i : Int).toNat < (zl xs).length; rw [zl_len]; omega) ?_
    refine And.intro ⟨by omega, h⟩ ?_
    refine And.intro (by show 0 + (i : Int).toNat < (zl xs).length; rw [zl_len]; omega) ?_
    repeat (first | refine And.intro (by kernel_rfl) ?_ | refine And.intro (by decide) ?_)
    refine bselN (fun h => absurd rfl h) (fun _ => ?_)
    repeat refine AJoin.plain ?_
    exact ⟨i + 1, ⟨h', by show xs.length - (i + 1) < xs.length - i; omega⟩, .id ⟨congrArg (int .i64) wi, trivial⟩ rfl trivial rfl⟩
  · obtain rfl : i = xs.length := by omega
    repeat (first | refine And.intro (by kernel_rfl) ?_ | refine And.intro (by decide) ?_)
    exact ⟨(), trivial, .id rfl ⟨.inl rfl, .inl rfl, trivial⟩⟩
set_option maxHeartbeats 3200000 in
set_option maxRecDepth 10000 in
theorem same05_fc (c : Int) (x y : List Nat) (exy : x = y) (n m : Nat) (hn : x.length = n) (hm : y.length = m) (h32 : x.length ≤ 4294967296) :
    FC Tryd.prog 14 [.o (.a [.v (.int .i64 c), .s 0 0 n 1]), .o (.a [.v (.int .i64 c), .s 1 0 m 1])] [u64n x false, u64n y false] (boo true) [u64n x false, u64n y false] := by
  subst exy
  refine FC.one (FC.rj mix Tryd.func14 ?_)
  repeat (first | refine And.intro (by kernel_rfl) ?_ | refine And.intro (by decide) ?_)
  refine bselT (by simp) ?_
  repeat (first | refine And.intro (by kernel_rfl) ?_ | refine And.intro (by decide) ?_)
  refine FC.u (samel_fc x n m hn hm h32) [0, 1] ?_
  repeat (first | refine And.intro (by kernel_rfl) ?_ | refine And.intro (by decide) ?_)
  exact ⟨(), trivial, .id rfl ⟨.inl rfl, .inl rfl, trivial⟩⟩
end Go.Sx.T1
namespace Go.Sx.T1
open Go.Proofs Go.Sx.Gf
structure MX where
  rows : List Nat
  k : Nat
structure MXw where
  n : Nat
  k : Nat
  rows : List Nat
structure MXi where
  j : Nat
  k : Nat
  v : Nat
def mxS (c : Nat) (x : MX) : SV := .o (.a [.v (.int .i64 c), .s 2 0 x.rows.length 1])
def mxM (ts : List Int) (x : MX) : Mem := [diceB ts x.k, diceL ts, u64n x.rows true]
def MxOk (r c : Nat) (rows : List Nat) : Prop := rows.length = r ∧ ∀ k, rows.getD k 0 < 2 ^ c
theorem bd_app {l : List Nat} {v b : Nat} (h : ∀ k, l.getD k 0 < b) (hv : v < b) (k : Nat) : (l ++ [v]).getD k 0 < b := by
  rcases Nat.lt_trichotomy k l.length with h1 | h1 | h1
  · rw [List.getD_eq_getElem?_getD, List.getElem?_append_left h1, ← List.getD_eq_getElem?_getD]; exact h k
  · subst h1; simpa [List.getD_eq_getElem?_getD] using hv
  · rw [List.getD_eq_getElem?_getD, List.getElem?_eq_none (by simp; omega)]
    exact Nat.lt_of_le_of_lt (Nat.zero_le _) hv
set_option maxHeartbeats 3200000 in
set_option maxRecDepth 10000 in
theorem matrix_fc (ts : List Int) (k r c : Nat) (hl : ts.length ≤ 400) (hr : r ≤ 64) (hc : c ≤ 64) :
    ∃ x : MX, FC Tryd.prog 11 [.o (.c (.p 0 0 0)), int .i64 r, int .i64 c] [diceB ts k, diceL ts] (mxS c x) (mxM ts x) ∧ MxOk r c x.rows := by
  refine FC.rj mix Tryd.func11 ?_
  repeat (first | refine And.intro (by kernel_rfl) ?_ | refine And.intro (by decide) ?_)
  refine ALoop.goN (X := MXw) (fun x => x.rows.length + x.n = r ∧ ∀ k, x.rows.getD k 0 < 2 ^ c) (fun x => x.n) [0, 2, 6, 7] [1, 2] (fun x => [(1, int .i64 x.n)])
    (fun x => [(0, ⟨.box [.s 1 0 ts.length 1, .v (.int .i64 (min x.k ts.length : Nat))], true⟩), (3, ⟨.box [.v (.int .i64 c), .s 4 0 x.rows.length 1], true⟩), (4, ⟨.ints .u64 (zl x.rows), true⟩)]) ⟨r, k, []⟩ 5
    ⟨by simp, fun k => by simpa using Nat.two_pow_pos c⟩ (isAt.go [(4, .new 1)] ⟨rfl, trivial⟩ ⟨.inl rfl, .inl rfl, newI 1 rfl, trivial⟩) ?_
  rintro ⟨n, k, rows⟩ ⟨hn, hb⟩
  simp only at hn hb
  dsimp only [headF, headM]
  refine bselD (fun h => ?_) (fun h => ?_)
  · have h0 : 0 < n := by have : (n : Int) > 0 := h; omega
    have wn : IntKind.i64.wrap ((n : Int) - 1) = ((n - 1 : Nat) : Int) := by rw [wrap64_in (by omega) (by omega)]; omega
    repeat refine AJoin.plain ?_
    refine ALoop.go (X := MXi) (fun x => x.j ≤ c ∧ x.v < 2 ^ x.j) (fun x => c - x.j) [0, 1, 2, 6, 7] [1, 2, 3, 4] (fun x => [(8, int .u64 x.v), (9, int .i64 x.j)])
      (fun x => [(0, ⟨.box [.s 1 0 ts.length 1, .v (.int .i64 (min x.k ts.length : Nat))], true⟩)]) ⟨0, k, 0⟩ ⟨Nat.zero_le _, Nat.one_pos⟩ ⟨rfl, rfl, trivial⟩ ⟨.inl rfl, trivial⟩ ?_
    rintro ⟨j, k, v⟩ ⟨hj, hv⟩
    simp only at hj hv
    dsimp only [headF, headM]
    refine bselD (fun g => ?_) (fun g => ?_)
    · have g' : j < c := by omega
      have wj : IntKind.i64.wrap ((j : Int) + 1) = ((j + 1 : Nat) : Int) := wrap64_in (by omega) (by omega)
      have d2 := dv_bd ts k (n := 2) (by omega)
      repeat refine AJoin.plain ?_
      refine FC.x (next_x ts k 2 (by omega) hl) [0, 1] (fun a ea => ?_)
      rw [← ea] at d2
      clear ea
      obtain ⟨b, rfl⟩ : ∃ b : Bool, a = ((bn b : Nat) : Int) := by
        have : a = 0 ∨ a = 1 := by omega
        rcases this with rfl | rfl
        · exact ⟨false, rfl⟩
        · exact ⟨true, rfl⟩
      have uj : IntKind.u64.wrap (j : Int) = (j : Int) := wrapU64_in (by omega) (by omega)
      have ub : IntKind.u64.wrap ((bn b : Nat) : Int) = ((bn b : Nat) : Int) := wrapU64_in (by omega) (by omega)
      conv => whnf
      rw [uj]
      refine And.intro (by omega) ?_
      repeat (first | refine And.intro (by kernel_rfl) ?_ | refine And.intro (by decide) ?_)
      have hv2 : v ||| bt b j < 2 ^ (j + 1) := by
        refine Nat.or_lt_two_pow (Nat.lt_of_lt_of_le hv (Nat.pow_le_pow_right (by omega) (by omega))) ?_
        unfold bt
        split
        · exact Nat.pow_lt_pow_right (by omega) (by omega)
        · exact Nat.two_pow_pos _
      refine ⟨⟨j + 1, k + 1, v ||| bt b j⟩, ⟨⟨g', hv2⟩, by show c - (j + 1) < c - j; omega⟩, .id ⟨congrArg (int .u64) ?_, congrArg (int .i64) wj, trivial⟩ rfl ⟨.inl rfl, trivial⟩ rfl⟩
      show bitI .or .u64 (v : Int) (IntKind.u64.wrap (IntKind.u64.wrap ((bn b : Nat) : Int) * 2 ^ min (j : Int).toNat IntKind.u64.bits)) = _
      rw [ub, shl_form b (by omega), or_bt b (lt64 hv (by omega)) (by omega)]
    · obtain rfl : j = c := by omega
      repeat refine AJoin.plain ?_
      refine And.intro ⟨by show 0 + (rows).length ≤ (zl (rows)).length; rw [zl_len]; omega, trivial⟩ ?_
      refine And.intro ⟨Nat.le_of_ble_eq_true rfl, trivial⟩ ?_
      refine And.intro (by show (rows).length + 1 ≤ 4294967296; omega) ?_
      repeat (first | refine And.intro (by kernel_rfl) ?_ | refine And.intro (by decide) ?_)
      have e1 : rows.length + 1 = (rows ++ [v]).length := by simp
      refine ⟨⟨n - 1, k, rows ++ [v]⟩, ⟨⟨by simp; omega, bd_app hb hv⟩, by show n - 1 < n; omega⟩, isAt.go [(4, .to 6)] ⟨congrArg (int .i64) wn, trivial⟩
        ⟨.inl rfl, .inl (congrArg (fun n : Nat => some (⟨.box [.v (.int .i64 j), .s 6 0 n 1], true⟩ : Blk)) e1), leB.ints_eq (app1 rows v) id, trivial⟩⟩
  · obtain rfl : n = 0 := by have : ¬ (n : Int) > 0 := h; omega
    repeat (first | refine And.intro (by kernel_rfl) ?_ | refine And.intro (by decide) ?_)
    exact ⟨⟨rows, k⟩, ⟨by simpa using hn, hb⟩, isEnd.go [(2, .to 4)] rfl ⟨.inl rfl, .inl rfl, .inl rfl, trivial⟩⟩
end Go.Sx.T1
namespace Go.Sx.T1
open Go.Proofs Go.Sx.Gf
theorem inv0 : invF 2 [3, 2] = ⟨2, [3, 2], 0⟩ := by kernel_rfl
theorem rank0 : rankF 2 [1, 2, 3] = 2 := by kernel_rfl
theorem inv0_fc : FC Tryd.prog 18 [.o (.a [.v (.int .i64 2), .s 0 0 2 1])] [some ⟨.ints .u64 [3, 2], false⟩] (.t [.a [.v (.int .i64 2), .s 1 0 2 1], .c (.v (.int .i64 0))]) [some ⟨.ints .u64 [3, 2], false⟩, some ⟨.ints .u64 [3, 2], true⟩] := by
  obtain ⟨d, h, e⟩ := inverse_fc 2 [3, 2] (by decide) (fun k => by rcases k with _ | _ | k <;> simp)
  rw [inv0] at e
  subst e
  exact h
theorem rank0_fc : FC Tryd.prog 15 [.o (.a [.v (.int .i64 2), .s 0 0 3 1])] [some ⟨.ints .u64 [1, 2, 3], false⟩] (int .i64 2) [some ⟨.ints .u64 [1, 2, 3], false⟩] := by
  have h := rank_fc 2 [1, 2, 3] (by decide) (fun k => by rcases k with _ | _ | _ | k <;> simp)
  rw [rank0] at h
  exact h
set_option maxHeartbeats 3200000 in
set_option maxRecDepth 10000 in
theorem awake_fc : FC Tryd.prog 8 [] [] (boo true) [] := by
  refine FC.one (FC.r mix Tryd.func8 ?_)
  repeat (first | refine And.intro (by kernel_rfl) ?_ | refine And.intro (by decide) ?_)
  refine FC.u inv0_fc [0] ?_
  repeat (first | refine And.intro (by kernel_rfl) ?_ | refine And.intro (by decide) ?_)
  refine FC.u rank0_fc [4] ?_
  repeat (first | refine And.intro (by kernel_rfl) ?_ | refine And.intro (by decide) ?_)
  exact ⟨(), trivial, .id rfl trivial⟩
end Go.Sx.T1
namespace Go.Sx.T1
open Go.Proofs Go.Sx.Gf
/-! law05.agree -/
theorem mulF_len (ca : Int) (a : List Nat) (cb : Int) (b : List Nat) : (mulF ca a cb b).rows.length ≤ a.length := by
  unfold mulF
  split
  · split
    · exact Nat.zero_le _
    · simp [Gf.mul]
  · exact Nat.zero_le _
theorem turnF_len (c : Int) (rows : List Nat) : (turnF c rows).rows.length ≤ 64 := by
  unfold turnF
  split
  · rename_i h
    have := okM_bd h
    show (turn c.toNat rows).length ≤ 64
    rw [turn_len]
    omega
  · exact Nat.zero_le _
theorem invF_len (c : Int) (rows : List Nat) : (invF c rows).rows.length ≤ rows.length := by
  unfold invF
  split
  · split
    · exact Nat.zero_le _
    · split
      · exact Nat.zero_le _
      · show (snds _).length ≤ _
        rw [snds_len, (solve_inv _ _).len]
        simp
        omega
  · exact Nat.zero_le _
theorem kerF_len (c : Int) (rows : List Nat) : (kerF c rows).1.length ≤ 64 := by
  unfold kerF
  split
  · rename_i h
    have := okM_bd h
    have := kl_len (solveE (zeros rows) c.toNat) c.toNat c.toNat
    show (kl _ _ _).length ≤ 64
    omega
  · exact Nat.zero_le _
theorem unitF_len (c : Int) : (unitF c).rows.length ≤ 64 := by
  unfold unitF
  split
  · rename_i h
    simp only [sideB, Bool.and_eq_true, decide_eq_true_eq] at h
    show (units c.toNat).length ≤ 64
    rw [units_len]
    omega
  · exact Nat.zero_le _
set_option maxHeartbeats 3200000 in
set_option maxRecDepth 10000 in
theorem agree_fc (ca : Int) (a : List Nat) (cb : Int) (b : List Nat) (v : Nat) (hla : a.length ≤ 70) (hlb : b.length ≤ 70) (ha : ∀ k, a.getD k 0 < 18446744073709551616) (hb : ∀ k, b.getD k 0 < 18446744073709551616) (hv : v < 18446744073709551616) :
    FC Tryd.prog 22 [.o (.a (matK 0 ca a)), .o (.a (matK 1 cb b)), int .u64 v] [u64n a false, u64n b false, tabB] (boo true) [u64n a false, u64n b false, tabB] := by
  refine FC.one (FC.rj mix Tryd.func22 ?_)
  repeat (first | refine And.intro (by kernel_rfl) ?_ | refine And.intro (by decide) ?_)
  refine FC.x (applyM_fc ca a v (by omega) ha hv) [0] (fun p1 h1 => ?_)
  repeat (first | refine And.intro (by kernel_rfl) ?_ | refine And.intro (by decide) ?_)
  refine FC.x (apply05_fc ca a v ha hv) [0] (fun p2 h2 => ?_)
  obtain rfl : p2 = p1 := h2.trans h1.symm
  clear h1 h2
  repeat (first | refine And.intro (by kernel_rfl) ?_ | refine And.intro (by decide) ?_)
  refine FC.x (mul_fc ca a cb b (by omega) (by omega) ha hb) [0, 1, 2] (fun d1 h1 => ?_)
  have l1 := mulF_len ca a cb b
  rw [← h1] at l1
  repeat (first | refine And.intro (by kernel_rfl) ?_ | refine And.intro (by decide) ?_)
  refine FC.x (mul05_fc ca a cb b ha hb) [0, 1] (fun d2 h2 => ?_)
  obtain rfl : d2 = d1 := h2.trans h1.symm
  clear h1 h2
  repeat (first | refine And.intro (by kernel_rfl) ?_ | refine And.intro (by decide) ?_)
  refine FC.x (turn_fc ca a (by omega) ha) [0] (fun d1 h1 => ?_)
  have l2 := turnF_len ca a
  rw [← h1] at l2
  repeat (first | refine And.intro (by kernel_rfl) ?_ | refine And.intro (by decide) ?_)
  refine FC.x (turn05_fc ca a ha) [0] (fun d3 h2 => ?_)
  obtain rfl : d3 = d1 := h2.trans h1.symm
  clear h1 h2
  repeat (first | refine And.intro (by kernel_rfl) ?_ | refine And.intro (by decide) ?_)
  refine bselN (fun h => absurd rfl h) (fun _ => ?_)
  repeat (first | refine And.intro (by kernel_rfl) ?_ | refine And.intro (by decide) ?_)
  refine bselN (fun h => absurd rfl h) (fun _ => ?_)
  repeat (first | refine And.intro (by kernel_rfl) ?_ | refine And.intro (by decide) ?_)
  refine bselN (fun h => absurd rfl h) (fun _ => ?_)
  repeat (first | refine And.intro (by kernel_rfl) ?_ | refine And.intro (by decide) ?_)
  refine FC.u (same05_fc d2.c d2.rows d2.rows rfl _ _ rfl rfl (by omega)) [5, 7] ?_
  repeat (first | refine And.intro (by kernel_rfl) ?_ | refine And.intro (by decide) ?_)
  refine bselN (fun h => absurd rfl h) (fun _ => ?_)
  repeat (first | refine And.intro (by kernel_rfl) ?_ | refine And.intro (by decide) ?_)
  refine FC.u (same05_fc d3.c d3.rows d3.rows rfl _ _ rfl rfl (by omega)) [9, 11] ?_
  repeat (first | refine And.intro (by kernel_rfl) ?_ | refine And.intro (by decide) ?_)
  refine FC.u (rank_fc ca a (by omega) ha) [0] ?_
  repeat (first | refine And.intro (by kernel_rfl) ?_ | refine And.intro (by decide) ?_)
  refine FC.u (rank05_fc ca a ha) [0] ?_
  repeat (first | refine And.intro (by kernel_rfl) ?_ | refine And.intro (by decide) ?_)
  refine bselN (fun h => absurd rfl h) (fun _ => ?_)
  repeat (first | refine And.intro (by kernel_rfl) ?_ | refine And.intro (by decide) ?_)
  refine FC.u (valid_fc ca a (by omega) ha) [0] ?_
  repeat (first | refine And.intro (by kernel_rfl) ?_ | refine And.intro (by decide) ?_)
  refine FC.u (valid05_fc ca a ha) [0] ?_
  repeat (first | refine And.intro (by kernel_rfl) ?_ | refine And.intro (by decide) ?_)
  refine bselF (by simp) ?_
  repeat refine AJoin.plain ?_
  refine FC.x (inverse_fc ca a (by omega) ha) [0] (fun d1 h1 => ?_)
  have l3 := invF_len ca a
  rw [← h1] at l3
  repeat (first | refine And.intro (by kernel_rfl) ?_ | refine And.intro (by decide) ?_)
  refine FC.x (inverse05_fc ca a ha) [0] (fun d4 h2 => ?_)
  obtain rfl : d4 = d1 := h2.trans h1.symm
  clear h1 h2
  repeat (first | refine And.intro (by kernel_rfl) ?_ | refine And.intro (by decide) ?_)
  refine FC.x (solveM_fc ca a v (by omega) ha hv) [0] (fun p1 h1 => ?_)
  repeat (first | refine And.intro (by kernel_rfl) ?_ | refine And.intro (by decide) ?_)
  refine FC.x (solve05_fc ca a v ha hv) [0] (fun p3 h2 => ?_)
  obtain rfl : p3 = p1 := h2.trans h1.symm
  clear h1 h2
  repeat (first | refine And.intro (by kernel_rfl) ?_ | refine And.intro (by decide) ?_)
  refine FC.x (kernel_fc ca a (by omega) ha) [0] (fun q1 h1 => ?_)
  have l4 := kerF_len ca a
  rw [← h1] at l4
  repeat (first | refine And.intro (by kernel_rfl) ?_ | refine And.intro (by decide) ?_)
  refine FC.x (kernel05_fc ca a ha) [0] (fun q2 h2 => ?_)
  obtain rfl : q2 = q1 := h2.trans h1.symm
  clear h1 h2
  repeat (first | refine And.intro (by kernel_rfl) ?_ | refine And.intro (by decide) ?_)
  refine bselE (fun _ => ?_) (fun h => absurd rfl h)
  repeat (first | refine And.intro (by kernel_rfl) ?_ | refine And.intro (by decide) ?_)
  refine FC.u (same05_fc d4.c d4.rows d4.rows rfl _ _ rfl rfl (by omega)) [13, 14] ?_
  repeat (first | refine And.intro (by kernel_rfl) ?_ | refine And.intro (by decide) ?_)
  refine bselE (fun _ => ?_) (fun h => absurd rfl h)
  repeat (first | refine And.intro (by kernel_rfl) ?_ | refine And.intro (by decide) ?_)
  refine bselE (fun _ => ?_) (fun h => absurd rfl h)
  repeat (first | refine And.intro (by kernel_rfl) ?_ | refine And.intro (by decide) ?_)
  refine bselE (fun _ => ?_) (fun h => absurd rfl h)
  repeat (first | refine And.intro (by kernel_rfl) ?_ | refine And.intro (by decide) ?_)
  refine FC.u (samel_fc q2.1 _ _ rfl rfl (by omega)) [15, 16] ?_
  repeat (first | refine And.intro (by kernel_rfl) ?_ | refine And.intro (by decide) ?_)
  exact ⟨(), trivial, .id rfl ⟨.inl rfl, .inl rfl, .inl rfl, trivial⟩⟩
end Go.Sx.T1
namespace Go.Sx.T1
open Go.Proofs
set_option maxRecDepth 10000 in
theorem one_fc (ts : List Int) (k : Nat) (n : Int) (hn : n < 9223372036854775808) (hn1 : 1 ≤ n) (hl : ts.length ≤ 400) :
    FC Tryd.prog 16 [.o (.c (.p 0 0 0)), int .i64 n] [diceB ts k, diceL ts] (boo (dv ts k n == n - 1)) [diceB ts (k + 1), diceL ts] := by
  refine FC.b mix Tryd.func16 ?_
  refine FC.u (next_fc ts k n hn hl) [0, 1] ?_
  exact ⟨congrArg (fun x => boo (dv ts k n == x)) (wrap64_in (by omega) (by omega)), rfl, rfl, trivial⟩

theorem one_x (ts : List Int) (k : Nat) (n : Int) (hn : n < 9223372036854775808) (hn1 : 1 ≤ n) (hl : ts.length ≤ 400) :
    ∃ v, FC Tryd.prog 16 [.o (.c (.p 0 0 0)), int .i64 n] [diceB ts k, diceL ts] (boo v) [diceB ts (k + 1), diceL ts] ∧ v = (dv ts k n == n - 1) := ⟨_, one_fc ts k n hn hn1 hl, rfl⟩
end Go.Sx.T1
namespace Go.Sx.T1
open Go.Proofs Go.Sx.Gf
namespace Mad05
/-- the mask of the n lowest bits -/
theorem mask_form {v n : Nat} (hv : v < 18446744073709551616) (hn : n < 64) : bitI .and .u64 (v : Int) (IntKind.u64.wrap (IntKind.u64.wrap (1 * 2 ^ min (IntKind.u64.wrap (n : Int)).toNat IntKind.u64.bits) - 1)) = ((v % 2 ^ n : Nat) : Int) := by
  have h1 := Nat.two_pow_pos n
  have h2 : (2 ^ n : Nat) < 18446744073709551616 := lt64 (Nat.pow_lt_pow_right (a := 2) (by omega) hn) (Nat.le_refl 64)
  rw [wrapU64_in (n := (n : Int)) (by omega) (by omega), one_shl hn, wrapU64_in (by omega) (by omega), show ((2 ^ n : Nat) : Int) - 1 = ((2 ^ n - 1 : Nat) : Int) by omega, and_u64 hv (by omega), and_mask]
theorem w1 (v : Nat) (h : v < 100) : IntKind.i64.wrap (1 + (v : Int)) = ((v + 1 : Nat) : Int) := by rw [wrap64_in (by omega) (by omega)]; omega
set_option maxHeartbeats 3200000 in
set_option maxRecDepth 10000 in
theorem law (ts : List Int) (v0 : Int) (hv0 : 0 ≤ v0 ∧ v0 ≤ 18446744073709551615) : FC Tryd.prog 6 [.o (.c (.s 0 0 ts.length 1)), int .u64 v0] [diceL ts, tabB] (boo true) [diceL ts, tabB] := by
  obtain ⟨u, rfl⟩ : ∃ v : Nat, v0 = v := ⟨v0.toNat, by omega⟩
  have hu : u < 18446744073709551616 := by omega
  refine FC.one (FC.rj mix Tryd.func6 ?_)
  repeat (first | refine And.intro (by kernel_rfl) ?_ | refine And.intro (by decide) ?_)
  refine FC.u (light_fc ts) [0] ?_
  refine bselNot (bselD (fun hl => ?_) (fun hl => ?_))
  rotate_left
  · repeat (first | refine And.intro (by kernel_rfl) ?_ | refine And.intro (by decide) ?_)
    refine FC.u awake_fc [] ?_
    exact ⟨(), trivial, .id rfl ⟨.inl rfl, .inl rfl, trivial⟩⟩
  repeat refine AJoin.plain ?_
  refine FC.u (roll_fc ts) [0] ?_
  repeat (first | refine And.intro (by kernel_rfl) ?_ | refine And.intro (by decide) ?_)
  have dr := dv_bd ts 0 (n := 8) (by omega)
  refine FC.x (next_x ts 0 8 (by omega) hl) [2, 0] (fun v er => ?_)
  rw [← er] at dr
  clear er
  obtain ⟨r, rfl⟩ : ∃ z : Nat, v = z := ⟨v.toNat, by omega⟩
  repeat (first | refine And.intro (by kernel_rfl) ?_ | refine And.intro (by decide) ?_)
  conv => whnf
  rw [w1 r (by omega)]
  have dk := dv_bd ts 1 (n := 8) (by omega)
  refine FC.x (next_x ts 1 8 (by omega) hl) [2, 0] (fun v ek => ?_)
  rw [← ek] at dk
  clear ek
  obtain ⟨k, rfl⟩ : ∃ z : Nat, v = z := ⟨v.toNat, by omega⟩
  repeat (first | refine And.intro (by kernel_rfl) ?_ | refine And.intro (by decide) ?_)
  conv => whnf
  rw [w1 k (by omega)]
  have dc := dv_bd ts 2 (n := 8) (by omega)
  refine FC.x (next_x ts 2 8 (by omega) hl) [2, 0] (fun v ec => ?_)
  rw [← ec] at dc
  clear ec
  obtain ⟨c, rfl⟩ : ∃ z : Nat, v = z := ⟨v.toNat, by omega⟩
  repeat (first | refine And.intro (by kernel_rfl) ?_ | refine And.intro (by decide) ?_)
  conv => whnf
  rw [w1 c (by omega)]
  repeat refine AJoin.plain ?_
  refine FC.x (one_x ts 3 2 (by omega) (by omega) hl) [2, 0] (fun o _ => ?_)
  repeat (first | refine And.intro (by kernel_rfl) ?_ | refine And.intro (by decide) ?_)
  refine bsel_intro (fun ho => ?_) (fun ho => ?_)
  · repeat (first | refine And.intro (by kernel_rfl) ?_ | refine And.intro (by decide) ?_)
    repeat refine AJoin.plain ?_
    refine FC.x (matrix_fc ts 4 (r + 1) (r + 1) hl (by omega) (by omega)) [2, 0] (fun A hA => ?_)
    repeat (first | refine And.intro (by kernel_rfl) ?_ | refine And.intro (by decide) ?_)
    refine FC.x (matrix_fc ts A.k (r + 1) (c + 1) hl (by omega) (by omega)) [2, 0] (fun B hB => ?_)
    have a64 : ∀ k, A.rows.getD k 0 < 18446744073709551616 := fun k => lt64 (hA.2 k) (by omega)
    have b64 : ∀ k, B.rows.getD k 0 < 18446744073709551616 := fun k => lt64 (hB.2 k) (by omega)
    have la := hA.1
    have lb := hB.1
    repeat (first | refine And.intro (by kernel_rfl) ?_ | refine And.intro (by decide) ?_)
    refine FC.u awake_fc [] ?_
    repeat (first | refine And.intro (by kernel_rfl) ?_ | refine And.intro (by decide) ?_)
    obtain ⟨n, hn, en⟩ : ∃ n : Nat, n ≤ 8 ∧ (if true = true then (if ((r + 1 : Nat) : Int) < ((r + 1 : Nat) : Int) then ((r + 1 : Nat) : Int) else ((r + 1 : Nat) : Int)) else (if ((r + 1 : Nat) : Int) > ((r + 1 : Nat) : Int) then ((r + 1 : Nat) : Int) else ((r + 1 : Nat) : Int))) = (n : Int) := by
      rw [if_pos rfl]
      split
      · exact ⟨r + 1, by omega, rfl⟩
      · exact ⟨r + 1, by omega, rfl⟩
    refine And.intro (by conv => whnf
                         rw [en, wrapU64_in (by omega) (by omega)]
                         exact (show (0 : Int) ≤ (n : Int) by omega)) ?_
    conv => whnf
    rw [en, mask_form hu (by omega)]
    have hmod : u % 2 ^ n < 18446744073709551616 := Nat.lt_of_le_of_lt (Nat.mod_le _ _) hu
    refine FC.u (agree_fc ((r + 1 : Nat) : Int) A.rows ((c + 1 : Nat) : Int) B.rows (u % 2 ^ n) (by omega) (by omega) a64 b64 hmod) [3, 4, 1] ?_
    repeat (first | refine And.intro (by kernel_rfl) ?_ | refine And.intro (by decide) ?_)
    refine FC.u (agree_fc ((r + 1 : Nat) : Int) A.rows ((c + 1 : Nat) : Int) B.rows u (by omega) (by omega) a64 b64 hu) [3, 4, 1] ?_
    repeat (first | refine And.intro (by kernel_rfl) ?_ | refine And.intro (by decide) ?_)
    exact ⟨(), trivial, .id rfl ⟨.inl rfl, .inl rfl, trivial⟩⟩
  · repeat (first | refine And.intro (by kernel_rfl) ?_ | refine And.intro (by decide) ?_)
    repeat refine AJoin.plain ?_
    refine FC.x (matrix_fc ts 4 (r + 1) (k + 1) hl (by omega) (by omega)) [2, 0] (fun A hA => ?_)
    repeat (first | refine And.intro (by kernel_rfl) ?_ | refine And.intro (by decide) ?_)
    refine FC.x (matrix_fc ts A.k (k + 1) (c + 1) hl (by omega) (by omega)) [2, 0] (fun B hB => ?_)
    have a64 : ∀ k, A.rows.getD k 0 < 18446744073709551616 := fun k => lt64 (hA.2 k) (by omega)
    have b64 : ∀ k, B.rows.getD k 0 < 18446744073709551616 := fun k => lt64 (hB.2 k) (by omega)
    have la := hA.1
    have lb := hB.1
    repeat (first | refine And.intro (by kernel_rfl) ?_ | refine And.intro (by decide) ?_)
    refine FC.u awake_fc [] ?_
    repeat (first | refine And.intro (by kernel_rfl) ?_ | refine And.intro (by decide) ?_)
    obtain ⟨n, hn, en⟩ : ∃ n : Nat, n ≤ 8 ∧ (if true = true then (if ((k + 1 : Nat) : Int) < ((r + 1 : Nat) : Int) then ((k + 1 : Nat) : Int) else ((r + 1 : Nat) : Int)) else (if ((k + 1 : Nat) : Int) > ((r + 1 : Nat) : Int) then ((k + 1 : Nat) : Int) else ((r + 1 : Nat) : Int))) = (n : Int) := by
      rw [if_pos rfl]
      split
      · exact ⟨k + 1, by omega, rfl⟩
      · exact ⟨r + 1, by omega, rfl⟩
    refine And.intro (by conv => whnf
                         rw [en, wrapU64_in (by omega) (by omega)]
                         exact (show (0 : Int) ≤ (n : Int) by omega)) ?_
    conv => whnf
    rw [en, mask_form hu (by omega)]
    have hmod : u % 2 ^ n < 18446744073709551616 := Nat.lt_of_le_of_lt (Nat.mod_le _ _) hu
    refine FC.u (agree_fc ((k + 1 : Nat) : Int) A.rows ((c + 1 : Nat) : Int) B.rows (u % 2 ^ n) (by omega) (by omega) a64 b64 hmod) [3, 4, 1] ?_
    repeat (first | refine And.intro (by kernel_rfl) ?_ | refine And.intro (by decide) ?_)
    refine FC.u (agree_fc ((k + 1 : Nat) : Int) A.rows ((c + 1 : Nat) : Int) B.rows u (by omega) (by omega) a64 b64 hu) [3, 4, 1] ?_
    repeat (first | refine And.intro (by kernel_rfl) ?_ | refine And.intro (by decide) ?_)
    exact ⟨(), trivial, .id rfl ⟨.inl rfl, .inl rfl, trivial⟩⟩
end Mad05
end Go.Sx.T1
