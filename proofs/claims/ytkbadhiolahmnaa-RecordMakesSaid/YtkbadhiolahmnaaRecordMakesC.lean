/- Contracts of the functions that RecordMakes reaches, and the walk of the law, part 3. Conditions: none. -/
import Derived.Test.YtkbadhiolahmnaaRecordMakesB
namespace Go.Sx.T1
open Go.Proofs Go.Sx.Crc
/-! Encode -/
def encP (r : Rcd) (w c : Nat) : Nat → List Nat
  | 0 => (((((headL ++ be 8 r.seq.toNat) ++ be 8 r.time.toNat) ++ [r.bank.toNat % 256]) ++ be 8 w) ++ be 8 c)
  | i + 1 => encP r w c i ++ be 2 (r.pl.get i).toNat
def encL (r : Rcd) (w c : Nat) : List Nat := encP r w c 6 ++ be 4 (chk (encP r w c 6))
theorem encP_len (r : Rcd) (w c : Nat) : ∀ i, (encP r w c i).length = 37 + 2 * i
  | 0 => by simp [encP, be_len, headL]
  | i + 1 => by rw [encP, List.length_append, encP_len r w c i, be_len]; omega
theorem encP_by (r : Rcd) (w c : Nat) : ∀ i, By (encP r w c i)
  | 0 => (((((By.of_mem (by decide)).app (be_byte _ _)).app (be_byte _ _)).app (By.of_mem (by simp; omega))).app (be_byte _ _)).app (be_byte _ _)
  | i + 1 => (encP_by r w c i).app (be_byte _ _)
noncomputable def encF (r : Rcd) : List Nat × Int := open Classical in if RcOk r then (encL r (wordS r.st) r.st.chips.toNat, 0) else ([], 1)
def encS (d : List Nat × Int) : SV := .t [.c (.s 0 0 d.1.length 1), .c (.v (.int .i64 d.2))]
def encM (d : List Nat × Int) : Mem := [u8n d.1 true]
def putM1 (L : List Nat) : Mem := [none, u8n L true]
theorem put_x (l : List Nat) (v n N : Nat) (hN : N = l.length) (hl : l.length ≤ 100000) (hn : n ≤ 8) :
    ∃ L : List Nat, FC Try.prog 45 [.o (.c (.s 0 0 N 1)), int .u64 v, int .i64 n] [u8n l true] (.o (.c (.s 1 0 L.length 1))) (putM1 L) ∧ L = l ++ be n v := by
  subst hN; exact ⟨_, put_fc l v n hl hn, rfl⟩
theorem put18_x (l : List Nat) (v n N : Nat) (hN : N = l.length) (hl : l.length ≤ 100000) (hn : n ≤ 8) :
    ∃ L : List Nat, FC Try.prog 41 [.o (.c (.s 0 0 N 1)), int .i64 n, int .u64 v] [u8n l true] (.o (.c (.s 1 0 L.length 1))) (putM1 L) ∧ L = l ++ be n v := by
  subst hN; exact ⟨_, put18_fc l v n hl hn, rfl⟩
theorem chips_bd {s : Stt} (h : validS s = true) : 0 ≤ s.chips ∧ s.chips < 1099511627776 := by
  unfold validS at h
  simp only [Bool.or_eq_true, Bool.and_eq_true, beq_iff_eq] at h
  rcases h with h | ⟨_, _, _, _, _, h⟩
  · rw [eqS_iff.1 h]
    decide
  · omega
theorem pack_n {s : Stt} (h : validS s = true) : ∃ p : Nat × Nat, FC Try.prog 44 [.o (.a (stC s))] [] (tup3 p.1 p.2 0) [] ∧ p = (wordS s, s.chips.toNat) := by
  have hc : ((s.chips.toNat : Nat) : Int) = s.chips := Int.toNat_of_nonneg (chips_bd h).1
  refine ⟨(wordS s, s.chips.toNat), ?_, rfl⟩
  have := pack_fc s
  simp only [packA, packB, packE, h, cond_true] at this
  rw [hc]; exact this
theorem packR_n {s : Stt} (h : validS s = true) : ∃ p : Nat × Nat, FC Try.prog 40 [.o (.a (stC s))] [] (tup3 p.1 p.2 0) [] ∧ p = (wordS s, s.chips.toNat) := by
  have hc : ((s.chips.toNat : Nat) : Int) = s.chips := Int.toNat_of_nonneg (chips_bd h).1
  refine ⟨(wordS s, s.chips.toNat), ?_, rfl⟩
  have := packR_fc s
  simp only [packA, packB, packE, h, cond_true] at this
  rw [hc]; exact this
structure EnX where
  i : Nat
  L : List Nat
set_option maxHeartbeats 3200000 in
set_option maxRecDepth 10000 in
theorem encode_fc (r : Rcd) : ∃ d : List Nat × Int, FC Try.prog 27 [.o (.a (rcC r))] [] (encS d) (encM d) ∧ d = encF r := by
  refine FC.rj mix Try.func27 ?_
  obtain ⟨b, hfc, hbi⟩ := recValid_fc r
  repeat (first | refine And.intro (by kernel_rfl) ?_ | refine And.intro (by decide) ?_)
  refine FC.u hfc [] ?_
  refine bselNot (bsel_intro (fun h => ?_) (fun h => ?_))
  rotate_left
  · repeat (first | refine And.intro (by kernel_rfl) ?_ | refine And.intro (by decide) ?_)
    exact ⟨([], 1), by rw [encF, if_neg (fun hh => by rw [hbi.2 hh] at h; cases h)], isEnd.go [(0, .new 1)] rfl ⟨newI 1 rfl, trivial⟩⟩
  have ok := hbi.1 h
  have hF : encF r = (encL r (wordS r.st) r.st.chips.toNat, 0) := by rw [encF, if_pos ok]
  rw [hF]
  clear hF hbi h hfc
  obtain ⟨s, hs⟩ : ∃ s : Nat, r.seq = s := ⟨r.seq.toNat, by have := ok.seq; omega⟩
  obtain ⟨t, ht⟩ : ∃ s : Nat, r.time = s := ⟨r.time.toNat, by have := ok.time; omega⟩
  obtain ⟨k, hk⟩ : ∃ s : Nat, r.bank = s := ⟨r.bank.toNat, by have := ok.bank; omega⟩
  have ws : IntKind.u64.wrap r.seq = (s : Int) := by have := ok.seq; rw [hs] at this ⊢; exact wrapU64_in (by omega) (by omega)
  have wt : IntKind.u64.wrap r.time = (t : Int) := by have := ok.time; rw [ht] at this ⊢; exact wrapU64_in (by omega) (by omega)
  have wk : IntKind.u8.wrap r.bank = ((k % 256 : Nat) : Int) := by rw [hk]; exact wrapU8 k
  repeat refine AJoin.plain ?_
  refine FC.x (pack_n ok.st.1) [] (fun p hp => ?_)
  repeat (first | refine And.intro (by kernel_rfl) ?_ | refine And.intro (by decide) ?_)
  refine FC.u head_fc [] ?_
  repeat (first | refine And.intro (by kernel_rfl) ?_ | refine And.intro (by decide) ?_)
  conv => whnf
  rw [ws]
  refine FC.x (put_x headL s 8 4 rfl (by decide) (by omega)) [1] (fun L1 h1 => ?_)
  repeat (first | refine And.intro (by kernel_rfl) ?_ | refine And.intro (by decide) ?_)
  conv => whnf
  rw [wt]
  have n1 : L1.length = 12 := by rw [h1, List.length_append, be_len]; rfl
  refine FC.x (put_x L1 t 8 L1.length rfl (by omega) (by omega)) [2] (fun L2 h2 => ?_)
  have n2 : L2.length = 20 := by rw [h2, List.length_append, be_len, n1]
  repeat (first | refine And.intro (by kernel_rfl) ?_ | refine And.intro (by decide) ?_)
  refine And.intro ⟨by show 0 + (L2).length ≤ (zl (L2)).length; rw [zl_len]; omega, trivial⟩ ?_
  refine And.intro ⟨Nat.le_of_ble_eq_true rfl, trivial⟩ ?_
  refine And.intro (by show (L2).length + 1 ≤ 4294967296; omega) ?_
  repeat (first | refine And.intro (by kernel_rfl) ?_ | refine And.intro (by decide) ?_)
  obtain ⟨L3, h3⟩ : ∃ L3 : List Nat, L3 = L2 ++ [k % 256] := ⟨_, rfl⟩
  have n3 : L3.length = 21 := by rw [h3, List.length_append, n2]; rfl
  have a3 : List.take L2.length (List.drop 0 (zl L2)) ++ List.take 1 (List.drop 0 [IntKind.u8.wrap r.bank]) = zl L3 := by rw [h3]; exact app1z _ _ _ wk
  have b3 : L2.length + 1 = L3.length := by rw [n2, n3]
  conv => whnf
  rw [a3, b3]
  clear a3 b3
  refine FC.x (put_x L3 p.1 8 L3.length rfl (by omega) (by omega)) [5] (fun L4 h4 => ?_)
  have n4 : L4.length = 29 := by rw [h4, List.length_append, be_len, n3]
  repeat (first | refine And.intro (by kernel_rfl) ?_ | refine And.intro (by decide) ?_)
  refine FC.x (put_x L4 p.2 8 L4.length rfl (by omega) (by omega)) [6] (fun L5 h5 => ?_)
  have n5 : L5.length = 37 := by rw [h5, List.length_append, be_len, n4]
  have h50 : L5 = encP r (wordS r.st) r.st.chips.toNat 0 := by rw [h5, h4, h3, h2, h1, hp, encP, hs, ht, hk]; rfl
  clear h1 h2 h3 h4 h5 hp
  obtain ⟨w, hw⟩ : ∃ w, wordS r.st = w := ⟨_, rfl⟩
  obtain ⟨c, hc⟩ : ∃ c, r.st.chips.toNat = c := ⟨_, rfl⟩
  rw [hw, hc] at h50
  have hen : ∀ d : List Nat × Int, d = (encL r w c, 0) → d = (encL r (wordS r.st) r.st.chips.toNat, 0) := fun d h => by rw [hw, hc]; exact h
  clear hw hc
  repeat (first | refine And.intro (by kernel_rfl) ?_ | refine And.intro (by decide) ?_)
  refine FC.u (numbers_fc r) [0] ?_
  repeat (first | refine And.intro (by kernel_rfl) ?_ | refine And.intro (by decide) ?_)
  refine ALoop.goN (X := EnX) (fun x => x.i ≤ 6 ∧ x.L = encP r w c x.i) (fun x => 6 - x.i) [41, 42] [0, 8] (fun x => [(7, .o (.c (.s 7 0 x.L.length 1))), (43, int .i64 x.i)]) (fun x => [(7, ⟨.ints .u8 (zl x.L), true⟩)]) ⟨0, L5⟩ 9
    ⟨Nat.zero_le _, h50⟩ (isAt.go [] ⟨rfl, rfl, trivial⟩ ⟨.inl rfl, trivial⟩) ?_
  clear h50 n5 n4 n3 n2 n1 ws wt wk
  rintro ⟨i, L⟩ ⟨hi, hL⟩
  simp only at hi hL
  have nL : L.length = 37 + 2 * i := by rw [hL, encP_len]
  have bL : By L := by rw [hL]; exact encP_by r w c i
  dsimp only [headF, headM]
  refine bselD (fun h => ?_) (fun h => ?_)
  · have h' : i < 6 := by
      have h2 : (i : Int) < 6 := h
      clear h
      omega
    have wi : IntKind.i64.wrap ((i : Int) + 1) = ((i + 1 : Nat) : Int) := wrap64_in (by omega) (by omega)
    have hp := ok.pl i h'
    have wg : IntKind.u64.wrap (r.pl.get i) = (((r.pl.get i).toNat : Nat) : Int) := by rw [Int.toNat_of_nonneg hp.1]; exact wrapU64_in (by omega) (by omega)
    have hput := put_x L (r.pl.get i).toNat 2 L.length rfl (by omega) (by omega)
    have hen2 : ∀ L', L' = L ++ be 2 (r.pl.get i).toNat → L' = encP r w c (i + 1) := fun L' h => by rw [h, hL, encP]
    generalize hz : (r.pl.get i).toNat = z at wg hput hen2
    have hm : 6 - (i + 1) < 6 - i := by omega
    clear hL bL nL hp
    repeat refine AJoin.plain ?_
    rcases lt6 h' with rfl | rfl | rfl | rfl | rfl | rfl <;>
    · simp only [Pl.get] at wg
      repeat (first | refine And.intro (by kernel_rfl) ?_ | refine And.intro (by decide) ?_)
      conv => whnf
      rw [wg]
      refine FC.x hput [7] (fun L' hL' => ?_)
      repeat (first | refine And.intro (by kernel_rfl) ?_ | refine And.intro (by decide) ?_)
      exact ⟨⟨_, L'⟩, ⟨⟨h', hen2 _ hL'⟩, hm⟩, isAt.go [(7, .to 9)] ⟨rfl, congrArg (int .i64) wi, trivial⟩ ⟨.inl rfl, trivial⟩⟩
  · have hq : i = 6 := by
      have h2 : ¬ (i : Int) < 6 := h
      clear h
      omega
    clear h
    subst hq
    have hck := chk_lt L
    have wck : IntKind.u64.wrap ((chk L : Nat) : Int) = ((chk L : Nat) : Int) := wrapU64_in (by omega) (by omega)
    have hchk := check_fc L L.length (Nat.le_refl _) (by omega)
    rw [List.take_length] at hchk
    generalize hz : chk L = z at hchk wck
    repeat refine AJoin.plain ?_
    refine FC.u hchk [7] ?_
    conv => whnf
    rw [wck]
    refine FC.x (put_x L z 4 L.length rfl (by omega) (by omega)) [7] (fun L' hL' => ?_)
    repeat (first | refine And.intro (by kernel_rfl) ?_ | refine And.intro (by decide) ?_)
    exact ⟨(L', 0), hen _ (by rw [hL', ← hz, encL, ← hL]), isEnd.go [(0, .to 9)] rfl ⟨.inl rfl, trivial⟩⟩
set_option maxHeartbeats 3200000 in
set_option maxRecDepth 10000 in
theorem encode18_fc (r : Rcd) : ∃ d : List Nat × Int, FC Try.prog 22 [.o (.a (rcC r))] [] (encS d) (encM d) ∧ d = encF r := by
  refine FC.rj mix Try.func22 ?_
  obtain ⟨b, hfc, hbi⟩ := refValid_fc r
  repeat (first | refine And.intro (by kernel_rfl) ?_ | refine And.intro (by decide) ?_)
  refine FC.u hfc [] ?_
  refine bselNot (bsel_intro (fun h => ?_) (fun h => ?_))
  rotate_left
  · repeat (first | refine And.intro (by kernel_rfl) ?_ | refine And.intro (by decide) ?_)
    exact ⟨([], 1), by rw [encF, if_neg (fun hh => by rw [hbi.2 hh] at h; cases h)], isEnd.go [(0, .new 1)] rfl ⟨newI 1 rfl, trivial⟩⟩
  have ok := hbi.1 h
  have hF : encF r = (encL r (wordS r.st) r.st.chips.toNat, 0) := by rw [encF, if_pos ok]
  rw [hF]
  clear hF hbi h hfc
  obtain ⟨s, hs⟩ : ∃ s : Nat, r.seq = s := ⟨r.seq.toNat, by have := ok.seq; omega⟩
  obtain ⟨t, ht⟩ : ∃ s : Nat, r.time = s := ⟨r.time.toNat, by have := ok.time; omega⟩
  obtain ⟨k, hk⟩ : ∃ s : Nat, r.bank = s := ⟨r.bank.toNat, by have := ok.bank; omega⟩
  have ws : IntKind.u64.wrap r.seq = (s : Int) := by have := ok.seq; rw [hs] at this ⊢; exact wrapU64_in (by omega) (by omega)
  have wt : IntKind.u64.wrap r.time = (t : Int) := by have := ok.time; rw [ht] at this ⊢; exact wrapU64_in (by omega) (by omega)
  have wk : IntKind.u64.wrap r.bank = (k : Int) := by have := ok.bank; rw [hk] at this ⊢; exact wrapU64_in (by omega) (by omega)
  repeat refine AJoin.plain ?_
  refine FC.x (packR_n ok.st.1) [] (fun p hp => ?_)
  repeat (first | refine And.intro (by kernel_rfl) ?_ | refine And.intro (by decide) ?_)
  conv => whnf
  rw [ws]
  refine FC.x (put18_x headL s 8 4 rfl (by decide) (by omega)) [1] (fun L1 h1 => ?_)
  repeat (first | refine And.intro (by kernel_rfl) ?_ | refine And.intro (by decide) ?_)
  conv => whnf
  rw [wt]
  have n1 : L1.length = 12 := by rw [h1, List.length_append, be_len]; rfl
  refine FC.x (put18_x L1 t 8 L1.length rfl (by omega) (by omega)) [2] (fun L2 h2 => ?_)
  have n2 : L2.length = 20 := by rw [h2, List.length_append, be_len, n1]
  repeat (first | refine And.intro (by kernel_rfl) ?_ | refine And.intro (by decide) ?_)
  conv => whnf
  rw [wk]
  refine FC.x (put18_x L2 k 1 L2.length rfl (by omega) (by omega)) [3] (fun L3 h3 => ?_)
  have n3 : L3.length = 21 := by rw [h3, List.length_append, be_len, n2]
  repeat (first | refine And.intro (by kernel_rfl) ?_ | refine And.intro (by decide) ?_)
  refine FC.x (put18_x L3 p.1 8 L3.length rfl (by omega) (by omega)) [4] (fun L4 h4 => ?_)
  have n4 : L4.length = 29 := by rw [h4, List.length_append, be_len, n3]
  repeat (first | refine And.intro (by kernel_rfl) ?_ | refine And.intro (by decide) ?_)
  refine FC.x (put18_x L4 p.2 8 L4.length rfl (by omega) (by omega)) [5] (fun L5 h5 => ?_)
  have n5 : L5.length = 37 := by rw [h5, List.length_append, be_len, n4]
  have h50 : L5 = encP r (wordS r.st) r.st.chips.toNat 0 := by rw [h5, h4, h3, h2, h1, hp, encP, hs, ht, hk, be_1]; rfl
  clear h1 h2 h3 h4 h5 hp
  obtain ⟨w, hw⟩ : ∃ w, wordS r.st = w := ⟨_, rfl⟩
  obtain ⟨c, hc⟩ : ∃ c, r.st.chips.toNat = c := ⟨_, rfl⟩
  rw [hw, hc] at h50
  have hen : ∀ d : List Nat × Int, d = (encL r w c, 0) → d = (encL r (wordS r.st) r.st.chips.toNat, 0) := fun d h => by rw [hw, hc]; exact h
  clear hw hc
  repeat (first | refine And.intro (by kernel_rfl) ?_ | refine And.intro (by decide) ?_)
  refine FC.u (numR_fc r.pl) [] ?_
  repeat (first | refine And.intro (by kernel_rfl) ?_ | refine And.intro (by decide) ?_)
  refine ALoop.goN (X := EnX) (fun x => x.i ≤ 6 ∧ x.L = encP r w c x.i) (fun x => 6 - x.i) [8] [7] (fun x => [(7, .o (.c (.s 6 0 x.L.length 1))), (9, int .i64 x.i)]) (fun x => [(6, ⟨.ints .u8 (zl x.L), true⟩)]) ⟨0, L5⟩ 8
    ⟨Nat.zero_le _, h50⟩ (isAt.go [] ⟨rfl, rfl, trivial⟩ ⟨.inl rfl, trivial⟩) ?_
  clear h50 n5 n4 n3 n2 n1 ws wt wk
  rintro ⟨i, L⟩ ⟨hi, hL⟩
  simp only at hi hL
  have nL : L.length = 37 + 2 * i := by rw [hL, encP_len]
  have bL : By L := by rw [hL]; exact encP_by r w c i
  dsimp only [headF, headM]
  refine bselD (fun h => ?_) (fun h => ?_)
  · have h' : i < 6 := by
      have h2 : (i : Int) < 6 := h
      clear h
      omega
    have wi : IntKind.i64.wrap ((i : Int) + 1) = ((i + 1 : Nat) : Int) := wrap64_in (by omega) (by omega)
    have hp := ok.pl i h'
    have wg : IntKind.u64.wrap (r.pl.get i) = (((r.pl.get i).toNat : Nat) : Int) := by rw [Int.toNat_of_nonneg hp.1]; exact wrapU64_in (by omega) (by omega)
    have hput := put18_x L (r.pl.get i).toNat 2 L.length rfl (by omega) (by omega)
    have hen2 : ∀ L', L' = L ++ be 2 (r.pl.get i).toNat → L' = encP r w c (i + 1) := fun L' h => by rw [h, hL, encP]
    generalize hz : (r.pl.get i).toNat = z at wg hput hen2
    have hm : 6 - (i + 1) < 6 - i := by omega
    clear hL bL nL hp
    repeat refine AJoin.plain ?_
    rcases lt6 h' with rfl | rfl | rfl | rfl | rfl | rfl <;>
    · simp only [Pl.get] at wg
      repeat (first | refine And.intro (by kernel_rfl) ?_ | refine And.intro (by decide) ?_)
      conv => whnf
      rw [wg]
      refine FC.x hput [6] (fun L' hL' => ?_)
      repeat (first | refine And.intro (by kernel_rfl) ?_ | refine And.intro (by decide) ?_)
      exact ⟨⟨_, L'⟩, ⟨⟨h', hen2 _ hL'⟩, hm⟩, isAt.go [(6, .to 8)] ⟨rfl, congrArg (int .i64) wi, trivial⟩ ⟨.inl rfl, trivial⟩⟩
  · have hq : i = 6 := by
      have h2 : ¬ (i : Int) < 6 := h
      clear h
      omega
    clear h
    subst hq
    have hck := chk_lt L
    have wck : IntKind.u64.wrap ((chk L : Nat) : Int) = ((chk L : Nat) : Int) := wrapU64_in (by omega) (by omega)
    have hchk := check18_fc L L.length (Nat.le_refl _) (by omega) bL
    rw [List.take_length] at hchk
    generalize hz : chk L = z at hchk wck
    repeat refine AJoin.plain ?_
    refine FC.u hchk [6] ?_
    conv => whnf
    rw [wck]
    refine FC.x (put18_x L z 4 L.length rfl (by omega) (by omega)) [6] (fun L' hL' => ?_)
    repeat (first | refine And.intro (by kernel_rfl) ?_ | refine And.intro (by decide) ?_)
    exact ⟨(L', 0), hen _ (by rw [hL', ← hz, encL, ← hL]), isEnd.go [(0, .to 8)] rfl ⟨.inl rfl, trivial⟩⟩
end Go.Sx.T1
namespace Go.Sx.T1
open Go.Proofs Go.Sx.Crc
/-! a record is read back -/
theorem gP_at {l p q r : List Nat} {a n : Nat} (hl : l = p ++ (q ++ r)) (ha : p.length = a) (hn : q.length = n) : gP l a n = getN q := by
  subst hl ha hn
  unfold gP
  rw [List.drop_left, List.take_left]
theorem getN_lt_be {n v : Nat} (h : v < 2 ^ (8 * n)) : getN (be n v) = v := by rw [getN_be, Nat.mod_eq_of_lt h]
theorem headL_len : headL.length = 4 := rfl
theorem wordS_lt {s : Stt} (hs : s.Fits) : wordS s < 18446744073709551616 := (wordS_read s hs).2.2.2.2.2.2
theorem encL_len (r : Rcd) (w c : Nat) : (encL r w c).length = 53 := by rw [encL, List.length_append, encP_len, be_len]
theorem encL_by (r : Rcd) (w c : Nat) : By (encL r w c) := (encP_by r w c 6).app (be_byte _ _)
theorem un_word {s : Stt} (h : validS s = true) : unA ((wordS s : Nat) : Int) ((s.chips.toNat : Nat) : Int) = s ∧ unE ((wordS s : Nat) : Int) ((s.chips.toNat : Nat) : Int) = 0 := by
  have hf := validS_fits h
  have hc : ((s.chips.toNat : Nat) : Int) = s.chips := Int.toNat_of_nonneg (chips_bd h).1
  have hu := uR_word s hf
  rw [hc]
  have ho : okU ((wordS s : Nat) : Int) s.chips = true := by
    unfold okU
    rw [hu, h]
    simp
  unfold unA unE
  rw [ho, hu]
  exact ⟨rfl, rfl⟩
theorem dec_enc {r : Rcd} (ok : RcOk r) (more : List Nat) : decF (encL r (wordS r.st) r.st.chips.toNat ++ more) = (r, 0) := by
  have hw := wordS_lt (validS_fits ok.st.1)
  have hc := chips_bd ok.st.1
  obtain ⟨u1, u2⟩ := un_word ok.st.1
  have hs := ok.seq
  have ht := ok.time
  have hb := ok.bank
  generalize wordS r.st = w at hw u1 u2
  generalize hcc : r.st.chips.toNat = c at u1 u2
  have hc' : c < 18446744073709551616 := by omega
  obtain ⟨l, hl⟩ : ∃ l, l = encL r w c ++ more := ⟨_, rfl⟩
  rw [← hl]
  have len : l.length = 53 + more.length := by rw [hl, List.length_append, encL_len]
  have t49 : l.take 49 = encP r w c 6 := by
    rw [hl, encL, List.append_assoc]
    have := encP_len r w c 6
    rw [show (49 : Nat) = (encP r w c 6).length by omega]
    exact List.take_left
  have key : ∀ (p q x : List Nat) (a n v : Nat), l = p ++ (q ++ x) → p.length = a → q = be n v → v < 2 ^ (8 * n) → gP l a n = v := fun p q x a n v h1 h2 h3 h4 => by
    rw [gP_at h1 h2 (by rw [h3, be_len]), h3, getN_lt_be h4]
  have g49 := key (encP r w c 6) (be 4 (chk (encP r w c 6))) more 49 4 _ (by rw [hl, encL, List.append_assoc]) (encP_len r w c 6) rfl (chk_lt _)
  rw [← t49] at g49
  have hp := ok.pl
  have p0 := hp 0 (by omega)
  have p1 := hp 1 (by omega)
  have p2 := hp 2 (by omega)
  have p3 := hp 3 (by omega)
  have p4 := hp 4 (by omega)
  have p5 := hp 5 (by omega)
  unfold encL at hl
  generalize chk (encP r w c 6) = z at hl
  have a0 := key headL _ _ 4 8 r.seq.toNat (by rw [hl]; simp only [encP, List.append_assoc]; rfl) rfl rfl (by show r.seq.toNat < 18446744073709551616; omega)
  have a1 := key (headL ++ be 8 r.seq.toNat) _ _ 12 8 r.time.toNat (by rw [hl]; simp only [encP, List.append_assoc]; rfl) (by simp [be_len, headL]) rfl (by show r.time.toNat < 18446744073709551616; omega)
  have a2 := key (headL ++ be 8 r.seq.toNat ++ be 8 r.time.toNat) _ _ 20 1 r.bank.toNat (by rw [hl]; simp only [encP, List.append_assoc]; rfl) (by simp [be_len, headL]) (be_1 _).symm (by show r.bank.toNat < 256; omega)
  have a3 := key (headL ++ be 8 r.seq.toNat ++ be 8 r.time.toNat ++ [r.bank.toNat % 256]) _ _ 21 8 w (by rw [hl]; simp only [encP, List.append_assoc]; rfl) (by simp [be_len, headL]) rfl hw
  have a4 := key (headL ++ be 8 r.seq.toNat ++ be 8 r.time.toNat ++ [r.bank.toNat % 256] ++ be 8 w) _ _ 29 8 c (by rw [hl]; simp only [encP, List.append_assoc]; rfl) (by simp [be_len, headL]) rfl hc'
  have b0 := key (encP r w c 0) _ _ 37 2 (r.pl.get 0).toNat (by rw [hl]; simp only [encP, List.append_assoc]; rfl) (encP_len _ _ _ 0) rfl (by show (r.pl.get 0).toNat < 65536; omega)
  have b1 := key (encP r w c 1) _ _ 39 2 (r.pl.get 1).toNat (by rw [hl]; simp only [encP, List.append_assoc]; rfl) (encP_len _ _ _ 1) rfl (by show (r.pl.get 1).toNat < 65536; omega)
  have b2 := key (encP r w c 2) _ _ 41 2 (r.pl.get 2).toNat (by rw [hl]; simp only [encP, List.append_assoc]; rfl) (encP_len _ _ _ 2) rfl (by show (r.pl.get 2).toNat < 65536; omega)
  have b3 := key (encP r w c 3) _ _ 43 2 (r.pl.get 3).toNat (by rw [hl]; simp only [encP, List.append_assoc]; rfl) (encP_len _ _ _ 3) rfl (by show (r.pl.get 3).toNat < 65536; omega)
  have b4 := key (encP r w c 4) _ _ 45 2 (r.pl.get 4).toNat (by rw [hl]; simp only [encP, List.append_assoc]; rfl) (encP_len _ _ _ 4) rfl (by show (r.pl.get 4).toNat < 65536; omega)
  have b5 := key (encP r w c 5) _ _ 47 2 (r.pl.get 5).toNat (by rw [hl]; simp only [encP, List.append_assoc]; rfl) (encP_len _ _ _ 5) rfl (by show (r.pl.get 5).toNat < 65536; omega)
  have h4 : l.take 4 = headL := by
    rw [hl]
    simp only [encP, List.append_assoc]
    rfl
  have hr : rcG l r.st ((r.seq.toNat : Nat) : Int) ((r.time.toNat : Nat) : Int) = r := by
    have hpl : plP l 6 = r.pl := by
      unfold plP
      simp only [show 37 + 2 * 0 = 37 from rfl, show 37 + 2 * 1 = 39 from rfl, show 37 + 2 * 2 = 41 from rfl, show 37 + 2 * 3 = 43 from rfl, show 37 + 2 * 4 = 45 from rfl, show 37 + 2 * 5 = 47 from rfl, b0, b1, b2, b3, b4, b5]
      rw [Int.toNat_of_nonneg p0.1, Int.toNat_of_nonneg p1.1, Int.toNat_of_nonneg p2.1, Int.toNat_of_nonneg p3.1, Int.toNat_of_nonneg p4.1, Int.toNat_of_nonneg p5.1]
      rfl
    unfold rcG
    rw [hpl, a2, Int.toNat_of_nonneg (by omega), Int.toNat_of_nonneg (by omega), Int.toNat_of_nonneg (by omega)]
  rw [decF, if_neg (by omega), if_neg (by simp [h4]), if_neg (by simp [g49]), a3, a4, a0, a1, u1, u2, hr, if_neg (by simp [ok])]
end Go.Sx.T1
namespace Go.Sx.T1
open Go.Proofs
set_option maxRecDepth 10000 in
/-- two lists of bytes are compared -/
theorem same4_fc (xs ys : List Int) (n m : Nat) (hn : n ≤ xs.length) (hm : m ≤ ys.length) (h32 : n ≤ 4294967296) :
    FC Try.prog 32 [.o (.c (.s 0 0 n 1)), .o (.c (.s 1 0 m 1))] [u8s xs false, u8s ys false] (boo (decide (xs.take n = ys.take m))) [u8s xs false, u8s ys false] := by
  refine FC.one (FC.r mix Try.func32 ?_)
  refine bselN (fun hne => ?_) (fun he => ?_)
  · have : xs.take n ≠ ys.take m := fun e => hne (by have := congrArg List.length e; rw [List.length_take, List.length_take] at this; omega)
    exact ⟨(), trivial, .id (congrArg boo (by simp [this])) ⟨.inl rfl, .inl rfl, trivial⟩⟩
  have hnm : n = m := by omega
  subst hnm
  refine ALoop.go (X := Nat) (fun i => i ≤ n ∧ ∀ j, j < i → xs.getD j 0 = ys.getD j 0) (fun i => n - i) [0, 1] [0, 1] (fun i => [(5, int .i64 i)]) (fun _ => []) 0 ⟨Nat.zero_le _, fun j h => absurd h (Nat.not_lt_zero _)⟩ ⟨rfl, trivial⟩ trivial ?_
  rintro i ⟨hi, heq⟩
  dsimp only [headF, headM]
  refine bselD (fun hlt => ?_) (fun hge => ?_)
  · have hlt' : i < n := by have : (i : Int) < n := hlt; omega
    have hb1 : 0 ≤ (i : Int) ∧ (i : Int) < (n : Int) := by omega
    refine And.intro hb1 ?_
    refine And.intro (by omega) ?_
    refine And.intro hb1 ?_
    refine And.intro (by omega) ?_
    refine And.intro (by kernel_rfl) ?_
    have e0 : 0 + (i : Int).toNat = i := by omega
    refine bselN (fun hne => ?_) (fun he => ?_)
    · rw [e0] at hne
      have : xs.take n ≠ ys.take n := fun e => hne (by
        have := congrArg (fun l => l.getD i 0) e
        simpa [List.getD, List.getElem?_take_of_lt hlt'] using this)
      exact ⟨(), trivial, .id (congrArg boo (by simp [this])) ⟨.inl rfl, .inl rfl, trivial⟩⟩
    · rw [e0] at he
      exact ⟨i + 1, ⟨⟨by omega, fun j hj => by
        rcases Nat.lt_succ_iff_lt_or_eq.1 hj with h | h
        · exact heq j h
        · subst h; exact he⟩, by simp only; omega⟩, .id ⟨congrArg (int .i64) (wrap64_in (by omega) (by omega)), trivial⟩ rfl trivial rfl⟩
  · have hin : i = n := by have : ¬ (i : Int) < n := hge; omega
    subst hin
    refine ⟨(), trivial, .id (congrArg boo (?_ : true = decide (xs.take i = ys.take i))) ⟨.inl rfl, .inl rfl, trivial⟩⟩
    symm
    rw [decide_eq_true_eq]
    apply List.ext_getElem?
    intro j
    by_cases hj : j < i
    · rw [List.getElem?_take_of_lt hj, List.getElem?_take_of_lt hj]
      have := heq j hj
      rw [List.getD_eq_getElem?_getD, List.getD_eq_getElem?_getD, List.getElem?_eq_getElem (by omega), List.getElem?_eq_getElem (by omega)] at this
      rw [List.getElem?_eq_getElem (by omega), List.getElem?_eq_getElem (by omega)]
      exact congrArg some this
    · rw [List.getElem?_eq_none (by rw [List.length_take]; omega), List.getElem?_eq_none (by rw [List.length_take]; omega)]
end Go.Sx.T1
namespace Go.Sx.T1
open Go.Proofs Go.Sx.Crc
/-! awake, agree -/
theorem chk_0 : chk [] = 4294967295 := by kernel_rfl
theorem chk_1 : chk [0] = 1309196212 := by kernel_rfl
theorem check_x (l : List Nat) (n : Nat) (hn : n ≤ l.length) (hl : n ≤ 100000) : ∃ v : Int, FC Try.prog 31 [.o (.c (.s 0 0 n 1))] [u8n l false] (int .i64 v) [u8n l false] ∧ v = ((chk (l.take n) : Nat) : Int) := ⟨_, check_fc l n hn hl, rfl⟩
theorem check18_x (l : List Nat) (n : Nat) (hn : n ≤ l.length) (hl : n ≤ 100000) (hb : By l) : ∃ v : Int, FC Try.prog 24 [.o (.c (.s 0 0 n 1))] [u8n l false] (int .i64 v) [u8n l false] ∧ v = ((chk (l.take n) : Nat) : Int) := ⟨_, check18_fc l n hn hl hb, rfl⟩
def rA : Rcd := ⟨1, 0, 0, ⟨true, false, 2, 0, 0, 0, 0⟩, ⟨0, 0, 0, 0, 0, 0⟩⟩
theorem rA_ok : RcOk rA := ⟨fun j hj => by rcases lt6 hj with rfl | rfl | rfl | rfl | rfl | rfl <;> (simp only [Pl.get, rA]; omega), by simp only [rA]; omega, by simp only [rA]; omega, by simp only [rA]; omega, by constructor <;> rfl⟩
theorem encF_ok {r : Rcd} (ok : RcOk r) : encF r = (encL r (wordS r.st) r.st.chips.toNat, 0) := by rw [encF, if_pos ok]
/-- what Encode gives of a record that is valid -/
theorem encode_ok {r : Rcd} (ok : RcOk r) : ∃ L : List Nat, FC Try.prog 27 [.o (.a (rcC r))] [] (.t [.c (.s 0 0 53 1), .c (.v (.int .i64 0))]) [u8n L true] ∧ (L.length = 53 ∧ By L ∧ L = encL r (wordS r.st) r.st.chips.toNat ∧ ∀ more, decF (L ++ more) = (r, 0)) := by
  obtain ⟨d, f, e⟩ := encode_fc r
  rw [encF_ok ok] at e
  subst e
  have n := encL_len r (wordS r.st) r.st.chips.toNat
  refine ⟨_, ?_, n, encL_by _ _ _, rfl, fun more => dec_enc ok more⟩
  unfold encS encM at f
  simp only [n] at f
  exact f
theorem decode_n (l : List Nat) (n : Nat) (hn : l.length = n) (hl : l.length ≤ 100000) (hb : By l) (d : Rcd × Int) (hd : decF l = d) : FC Try.prog 28 [.o (.c (.s 0 0 n 1))] [u8n l false] (rcE d) [u8n l false] := by
  subst hn
  obtain ⟨d', f, e⟩ := decode_fc l hl hb
  rw [hd] at e
  subst e
  exact f
set_option maxHeartbeats 3200000 in
set_option maxRecDepth 10000 in
theorem awake_fc : FC Try.prog 10 [] [] (boo true) [] := by
  refine FC.one (FC.rj mix Try.func10 ?_)
  repeat (first | refine And.intro (by kernel_rfl) ?_ | refine And.intro (by decide) ?_)
  refine FC.x (encode_ok rA_ok) [] (fun L ⟨n, b, _, hd⟩ => ?_)
  repeat (first | refine And.intro (by kernel_rfl) ?_ | refine And.intro (by decide) ?_)
  refine And.intro ⟨by show 0 + 53 ≤ (zl L).length; rw [zl_len, n]; omega, trivial⟩ ?_
  refine And.intro ⟨Nat.le_of_ble_eq_true rfl, trivial⟩ ?_
  refine And.intro (by show 53 + 1 ≤ 4294967296; omega) ?_
  repeat (first | refine And.intro (by kernel_rfl) ?_ | refine And.intro (by decide) ?_)
  have a3 : List.take 53 (List.drop 0 (zl L)) ++ List.take 1 (List.drop 0 [(9 : Int)]) = zl (L ++ [9]) := by
    have := app1z L 9 9 rfl
    rwa [n] at this
  conv => whnf
  rw [a3]
  clear a3
  refine FC.u (decode_n (L ++ [9]) 54 (by simp [n]) (by simp [n]) (b.app (By.of_mem (by decide))) _ (hd [9])) [3] ?_
  repeat (first | refine And.intro (by kernel_rfl) ?_ | refine And.intro (by decide) ?_)
  refine acall.nilAt 0 0 1 (.ints .u8 []) ?_
  refine FC.x (check_x [] 0 (Nat.le_refl _) (by omega)) [5] (fun c1 h1 => ?_)
  repeat (first | refine And.intro (by kernel_rfl) ?_ | refine And.intro (by decide) ?_)
  have e1 : c1 = 4294967295 := by rw [h1, List.take_zero, chk_0]; rfl
  refine bselE (fun _ => ?_) (fun h => absurd e1 h)
  repeat (first | refine And.intro (by kernel_rfl) ?_ | refine And.intro (by decide) ?_)
  refine FC.x (check_x [0] 1 (by decide) (by omega)) [6] (fun c2 h2 => ?_)
  have e2 : c2 = 1309196212 := by rw [h2, show List.take 1 [0] = [0] from rfl, chk_1]; rfl
  repeat (first | refine And.intro (by kernel_rfl) ?_ | refine And.intro (by decide) ?_)
  refine bselE (fun _ => ?_) (fun h => absurd e2 h)
  repeat (first | refine And.intro (by kernel_rfl) ?_ | refine And.intro (by decide) ?_)
  exact ⟨(), trivial, .id rfl trivial⟩
set_option maxHeartbeats 3200000 in
set_option maxRecDepth 10000 in
theorem agree_fc (r : Rcd) (l : List Nat) (N : Nat) (hN : l.length = N) (hl : l.length ≤ 100000) (hb : By l) : FC Try.prog 20 [.o (.a (rcC r)), .o (.c (.s 0 0 N 1))] [u8n l false] (boo true) [u8n l false] := by
  subst hN
  refine FC.one (FC.rj mix Try.func20 ?_)
  repeat (first | refine And.intro (by kernel_rfl) ?_ | refine And.intro (by decide) ?_)
  refine FC.x (encode_fc r) [] (fun d h1 => ?_)
  have hL : d.1.length ≤ 100000 := by
    rw [h1]
    unfold encF
    split
    · show (encL _ _ _).length ≤ _; rw [encL_len]; omega
    · exact Nat.zero_le _
  repeat (first | refine And.intro (by kernel_rfl) ?_ | refine And.intro (by decide) ?_)
  refine FC.x (encode18_fc r) [] (fun d2 h2 => ?_)
  obtain rfl : d2 = d := h2.trans h1.symm
  clear h1 h2
  repeat (first | refine And.intro (by kernel_rfl) ?_ | refine And.intro (by decide) ?_)
  refine FC.x (decode_fc l hl hb) [0] (fun p h1 => ?_)
  repeat (first | refine And.intro (by kernel_rfl) ?_ | refine And.intro (by decide) ?_)
  refine FC.x (decode18_fc l hl hb) [0] (fun p2 h2 => ?_)
  obtain rfl : p2 = p := h2.trans h1.symm
  clear h1 h2
  repeat (first | refine And.intro (by kernel_rfl) ?_ | refine And.intro (by decide) ?_)
  obtain ⟨b1, f1, e1⟩ := recValid_fc r
  obtain ⟨b2, f2, e2⟩ := refValid_fc r
  obtain rfl : b1 = b2 := by rw [Bool.eq_iff_iff, e1, e2]
  refine FC.u f1 [] ?_
  repeat (first | refine And.intro (by kernel_rfl) ?_ | refine And.intro (by decide) ?_)
  refine FC.u f2 [] ?_
  repeat (first | refine And.intro (by kernel_rfl) ?_ | refine And.intro (by decide) ?_)
  refine bselT (by simp) ?_
  repeat (first | refine And.intro (by kernel_rfl) ?_ | refine And.intro (by decide) ?_)
  refine FC.x (check_x l l.length (Nat.le_refl _) hl) [0] (fun c1 h1 => ?_)
  repeat (first | refine And.intro (by kernel_rfl) ?_ | refine And.intro (by decide) ?_)
  refine FC.x (check18_x l l.length (Nat.le_refl _) hl hb) [0] (fun c2 h2 => ?_)
  obtain rfl : c2 = c1 := h2.trans h1.symm
  clear h1 h2
  repeat (first | refine And.intro (by kernel_rfl) ?_ | refine And.intro (by decide) ?_)
  refine bselE (fun _ => ?_) (fun h => absurd rfl h)
  repeat (first | refine And.intro (by kernel_rfl) ?_ | refine And.intro (by decide) ?_)
  refine bselE (fun _ => ?_) (fun h => absurd rfl h)
  repeat (first | refine And.intro (by kernel_rfl) ?_ | refine And.intro (by decide) ?_)
  repeat (first | refine And.intro (by kernel_rfl) ?_ | refine And.intro (by decide) ?_)
  have hz : d2.1.length ≤ (zl d2.1).length := by rw [zl_len]; exact Nat.le_refl _
  refine FC.u (same4_fc (zl d2.1) (zl d2.1) d2.1.length d2.1.length hz hz (by omega)) [2, 3] ?_
  repeat (first | refine And.intro (by kernel_rfl) ?_ | refine And.intro (by decide) ?_)
  refine bselT (by simp) ?_
  repeat (first | refine And.intro (by kernel_rfl) ?_ | refine And.intro (by decide) ?_)
  refine bselE (fun _ => ?_) (fun h => absurd rfl h)
  repeat (first | refine And.intro (by kernel_rfl) ?_ | refine And.intro (by decide) ?_)
  refine ⟨(), trivial, .id (congrArg boo ?_) ⟨.inl rfl, trivial⟩⟩
  simp
end Go.Sx.T1
namespace Go.Sx.T1
open Go.Proofs Go.Sx.Crc Go.Sx.Gf
/-! records made of a status -/
def mkR (a b c : Int) (s : Stt) (p : S6) : Rcd := ⟨a, b, c, s, ⟨p.a, p.b, p.c, p.d, p.e, p.f⟩⟩
open Classical in
noncomputable def mkF (m : MapN) (a b c : Int) (s : Stt) : Rcd × Int :=
  if (plF m s.address).2 ≠ 0 then (zR, (plF m s.address).2)
  else if RcOk (mkR a b c s (plF m s.address).1) then (mkR a b c s (plF m s.address).1, 0) else (zR, 2)
open Classical in
set_option maxHeartbeats 3200000 in
set_option maxRecDepth 10000 in
theorem make_fc (m : MapN) (a b c : Int) (s : Stt) (hl : m.N.length ≤ 140737488351232) (hr : ∀ k, m.N.getD k 0 < 18446744073709551616) (hx : s.address ≤ 9223372036854775807) :
    ∃ d : Rcd × Int, FC Try.prog 17 [nS m 0, int .i64 a, int .i64 b, int .i64 c, .o (.a (stC s))] (nM m) (rcE d) (nM m) ∧ d = mkF m a b c s := by
  refine FC.rj mix Try.func17 ?_
  repeat (first | refine And.intro (by kernel_rfl) ?_ | refine And.intro (by decide) ?_)
  refine FC.x (mplace_fc m s.address hl hr hx) [0] (fun q eq => ?_)
  have e1 : mkF m a b c s = if q.2 ≠ 0 then (zR, q.2) else if RcOk (mkR a b c s q.1) then (mkR a b c s q.1, 0) else (zR, 2) := by rw [mkF, ← eq]
  clear eq
  obtain ⟨q, e⟩ := q
  simp only at e1
  repeat (first | refine And.intro (by kernel_rfl) ?_ | refine And.intro (by decide) ?_)
  refine bselN (fun h1 => ?_) (fun h1 => ?_)
  · repeat (first | refine And.intro (by kernel_rfl) ?_ | refine And.intro (by decide) ?_)
    exact ⟨(zR, e), by rw [e1, if_pos h1], .id rfl ⟨.inl rfl, trivial⟩⟩
  repeat (first | refine And.intro (by kernel_rfl) ?_ | refine And.intro (by decide) ?_)
  obtain ⟨bb, f1, e2⟩ := recValid_fc (mkR a b c s q)
  refine FC.u f1 [] ?_
  refine bselNot (bsel_intro (fun h => ?_) (fun h => ?_))
  · repeat (first | refine And.intro (by kernel_rfl) ?_ | refine And.intro (by decide) ?_)
    exact ⟨(mkR a b c s q, 0), by rw [e1, if_neg (fun h => h h1), if_pos (e2.1 h)], .id rfl ⟨.inl rfl, trivial⟩⟩
  · repeat (first | refine And.intro (by kernel_rfl) ?_ | refine And.intro (by decide) ?_)
    exact ⟨(zR, 2), by rw [e1, if_neg (fun h => h h1), if_neg (fun hh => by rw [e2.2 hh] at h; cases h)], .id rfl ⟨.inl rfl, trivial⟩⟩
open Classical in
set_option maxHeartbeats 3200000 in
set_option maxRecDepth 10000 in
theorem make18_fc (m : MapN) (a b c : Int) (s : Stt) (hl : m.N.length ≤ 140737488351232) (hr : ∀ k, m.N.getD k 0 < 18446744073709551616) (hx : s.address ≤ 9223372036854775807) :
    ∃ d : Rcd × Int, FC Try.prog 18 [nS m 0, int .i64 a, int .i64 b, int .i64 c, .o (.a (stC s))] (nM m) (rcE d) (nM m) ∧ d = mkF m a b c s := by
  refine FC.rj mix Try.func18 ?_
  repeat (first | refine And.intro (by kernel_rfl) ?_ | refine And.intro (by decide) ?_)
  refine FC.x (rplace_fc m s.address hl hr hx) [0] (fun q eq => ?_)
  have e1 : mkF m a b c s = if q.2 ≠ 0 then (zR, q.2) else if RcOk (mkR a b c s q.1) then (mkR a b c s q.1, 0) else (zR, 2) := by rw [mkF, ← eq]
  clear eq
  obtain ⟨q, e⟩ := q
  simp only at e1
  repeat (first | refine And.intro (by kernel_rfl) ?_ | refine And.intro (by decide) ?_)
  refine bselN (fun h1 => ?_) (fun h1 => ?_)
  · repeat (first | refine And.intro (by kernel_rfl) ?_ | refine And.intro (by decide) ?_)
    exact ⟨(zR, e), by rw [e1, if_pos h1], .id rfl ⟨.inl rfl, trivial⟩⟩
  repeat (first | refine And.intro (by kernel_rfl) ?_ | refine And.intro (by decide) ?_)
  obtain ⟨bb, f1, e2⟩ := refValid_fc (mkR a b c s q)
  refine FC.u f1 [] ?_
  refine bselNot (bsel_intro (fun h => ?_) (fun h => ?_))
  · repeat (first | refine And.intro (by kernel_rfl) ?_ | refine And.intro (by decide) ?_)
    exact ⟨(mkR a b c s q, 0), by rw [e1, if_neg (fun h => h h1), if_pos (e2.1 h)], .id rfl ⟨.inl rfl, trivial⟩⟩
  · repeat (first | refine And.intro (by kernel_rfl) ?_ | refine And.intro (by decide) ?_)
    exact ⟨(zR, 2), by rw [e1, if_neg (fun h => h h1), if_neg (fun hh => by rw [e2.2 hh] at h; cases h)], .id rfl ⟨.inl rfl, trivial⟩⟩
end Go.Sx.T1
namespace Go.Sx.T1
open Go.Proofs Go.Sx.Crc
/-! made records, for any number -/
theorem dRc_ok (ts : List Int) (k : Nat) {q : Int} (h : 1 ≤ q ∧ q ≤ 4294967296) : RcOk (dRc ts k q) := by
  have d0 := dv_bd ts k (n := 1000) (by omega)
  have d1 := dv_bd ts (k + 1) (n := 3) (by omega)
  have d2 := dv_bd ts (k + 2) (n := 256) (by omega)
  have p0 := dv_bd ts (k + 9) (n := 1) (by omega)
  have p1 := dv_bd ts (k + 9 + 1) (n := 2) (by omega)
  have p2 := dv_bd ts (k + 9 + 2) (n := 1) (by omega)
  have p3 := dv_bd ts (k + 9 + 3) (n := 4) (by omega)
  have p4 := dv_bd ts (k + 9 + 4) (n := 8) (by omega)
  have p5 := dv_bd ts (k + 9 + 5) (n := 4) (by omega)
  refine ⟨fun j hj => ?_, h, ?_, ?_, dStatus_valid ts (k + 3) _ d2.1 (by omega), (dStatus_is ts (k + 3) _).1⟩
  · rcases lt6 hj with rfl | rfl | rfl | rfl | rfl | rfl <;> simp only [Pl.get, dRc, dPl] <;> omega
  · simp only [dRc]; omega
  · simp only [dRc]; omega
/-- a made record: valid, below 1000 in time -/
theorem record_m (ts : List Int) (k : Nat) (q : Int) (hl : ts.length ≤ 400) (h : 1 ≤ q ∧ q ≤ 4294967296) :
    ∃ r : Rcd, FC Try.prog 21 [.o (.c (.p 0 0 0)), int .i64 q] [diceB ts k, diceL ts] (.o (.a (rcC r))) [diceB ts (k + 15), diceL ts] ∧ (RcOk r ∧ r.seq = q ∧ 0 ≤ r.time ∧ r.time < 1000) :=
  ⟨_, record_fc ts k q hl, dRc_ok ts k h, rfl, dv_bd ts k (n := 1000) (by omega)⟩
def eqR (a b : Rcd) : Bool := (a.seq == b.seq &&
      (a.time == b.time &&
        (a.bank == b.bank &&
          ((a.st.valid == b.st.valid &&
              (a.st.overflow == b.st.overflow &&
                (a.st.outcome == b.st.outcome &&
                  (a.st.source == b.st.source &&
                    (a.st.stamp == b.st.stamp &&
                      (a.st.address == b.st.address && (a.st.chips == b.st.chips && true))))))) &&
            ((a.pl.a == b.pl.a &&
                (a.pl.b == b.pl.b &&
                  (a.pl.c == b.pl.c &&
                    (a.pl.d == b.pl.d &&
                      (a.pl.e == b.pl.e && (a.pl.f == b.pl.f && true)))))) &&
              true)))))
theorem eqR_iff {a b : Rcd} : eqR a b = true ↔ a = b := by
  obtain ⟨a1, a2, a3, ⟨b1, b2, b3, b4, b5, b6, b7⟩, ⟨c1, c2, c3, c4, c5, c6⟩⟩ := a
  obtain ⟨x1, x2, x3, ⟨y1, y2, y3, y4, y5, y6, y7⟩, ⟨z1, z2, z3, z4, z5, z6⟩⟩ := b
  simp [eqR, and_assoc]
end Go.Sx.T1
namespace Go.Sx.T1
open Go.Proofs Go.Sx.Gf
/-! made maps with natural masks -/
structure MN where
  m : MapN
  k : Nat
def mapnM (ts : List Int) (x : MN) : Mem := [diceB ts x.k, diceL ts, u64n x.m.N true]
structure MadeN (s : S6) (m : MapN) : Prop where
  eq : m.s = s
  ok : McOk m
  bd : ∀ k, m.N.getD k 0 < 2 ^ bitsN s
  le : bitsN s ≤ 12
theorem mapn_fc (ts : List Int) (k : Nat) (s : S6) (hl : ts.length ≤ 400) (g : ShG 12 s) : ∃ x : MN, FC Try.prog 12 [.o (.c (.p 0 0 0)), s6S s] [diceB ts k, diceL ts] (nS x.m 2) (mapnM ts x) ∧ MadeN s x.m := by
  have nn := sum_nn g.lo
  have hb : sumTo s 6 = bitsN s := by unfold bitsN; omega
  have hb12 : bitsN s ≤ 12 := by have := g.sum; omega
  obtain ⟨⟨⟨s', M, lo, hi⟩, k'⟩, h, rfl, G⟩ := map_fcS ts k s (bitsN s) hl g hb
  have hb12 : bitsN s' ≤ 12 := hb12
  obtain ⟨ns, rfl, ho⟩ := (show Msk (bitsN s') M from G.msk).nat (by omega)
  have hsh : shB s' = true := shB_iff.2 g.v
  have hs := (size_is hsh).1
  have G1 := G.lo
  have G2 := G.hi
  have G3 := G.fit
  simp only at G1 G2 G3
  refine ⟨⟨⟨s', ns, lo, hi⟩, k'⟩, ?_, rfl, ⟨hsh, ho.len, ho.check (by omega), by simp only [hs]; exact G1, G2, by simp only [hs]; exact G3⟩, ho.bd, hb12⟩
  have e1 : mS ⟨s', zl ns, lo, hi⟩ 2 = nS ⟨s', ns, lo, hi⟩ 2 := by unfold mS nS mC nC; simp only [zl_len]
  rw [← e1]
  exact h
/-! there and back -/
end Go.Sx.T1
namespace Go.Sx.T1
open Go.Proofs Go.Sx.Crc
theorem row_n8 {w : World} {a : Option Addr} {len cap : Nat} {zs : List Int} (h : IsRowI .u8 w a len cap zs) (n : Nat) : ∃ ns : List Nat, zs.take n = zl ns ∧ By ns := by
  have hz : ∀ z ∈ zs, 0 ≤ z ∧ z ≤ 255 := by
    rcases h with ⟨_, _, _, rfl⟩ | ⟨_, _, _, _, _, _, hw⟩
    · intro z hz; cases hz
    · intro z hz
      have := hw z hz
      simpa [Lit.wf, IntKind.min, IntKind.max, IntKind.signed, IntKind.bits] using this
  refine ⟨(zs.take n).map Int.toNat, ?_, By.of_mem fun x hx => ?_⟩
  · have : ∀ l : List Int, (∀ z ∈ l, 0 ≤ z) → l = zl (l.map Int.toNat) := by
      intro l
      induction l with
      | nil => intro _; rfl
      | cons x l ih =>
        intro hl
        have hx := hl x (by simp)
        have hr := ih fun z hz => hl z (by simp [hz])
        unfold zl at hr ⊢
        simp only [List.map_cons]
        rw [← hr]
        congr 1
        exact (Int.toNat_of_nonneg hx).symm
    exact this _ fun z hz' => (hz z (List.mem_of_mem_take hz')).1
  · obtain ⟨z, hz', rfl⟩ := List.mem_map.1 hx
    have := hz z (List.mem_of_mem_take hz')
    omega
namespace Raw18
def iL (xs : List Int) : Option Blk := some ⟨.ints .u8 xs, false⟩
set_option maxHeartbeats 3200000 in
set_option maxRecDepth 10000 in
theorem law (r : Rcd) (xs : List Int) (hx : ∃ ns : List Nat, xs = zl ns ∧ By ns) :
    FC Try.prog 4 [.o (.a (rcC r)), .o (.c (.s 0 0 xs.length 1))] [iL xs] (boo true) [iL xs] := by
  obtain ⟨l, rfl, hb⟩ := hx
  rw [zl_len]
  refine FC.one (FC.rj mix Try.func4 ?_)
  repeat (first | refine And.intro (by kernel_rfl) ?_ | refine And.intro (by decide) ?_)
  refine FC.u awake_fc [] ?_
  repeat (first | refine And.intro (by kernel_rfl) ?_ | refine And.intro (by decide) ?_)
  refine bselD (fun h => ?_) (fun h => ?_)
  · repeat (first | refine And.intro (by kernel_rfl) ?_ | refine And.intro (by decide) ?_)
    exact ⟨(), trivial, .id rfl ⟨.inl rfl, trivial⟩⟩
  · have hl : l.length ≤ 3000 := by
      have h2 : ¬ (l.length : Int) > 3000 := h
      clear h
      omega
    repeat (first | refine And.intro (by kernel_rfl) ?_ | refine And.intro (by decide) ?_)
    refine FC.u (agree_fc r l l.length rfl (by omega) hb) [0] ?_
    repeat (first | refine And.intro (by kernel_rfl) ?_ | refine And.intro (by decide) ?_)
    exact ⟨(), trivial, .id rfl ⟨.inl rfl, trivial⟩⟩
end Raw18
end Go.Sx.T1
namespace Go.Sx.T1
open Go.Proofs Go.Sx.Crc Go.Sx.Gf
/-- numbers that came in are natural ones -/
theorem row_nat {w : World} {a : Option Addr} {len cap : Nat} {zs : List Int} (h : IsRowI .u64 w a len cap zs) (n : Nat) : ∃ ns : List Nat, zs.take n = zl ns ∧ ∀ k, ns.getD k 0 < 18446744073709551616 := by
  have hz : ∀ z ∈ zs, 0 ≤ z ∧ z ≤ 18446744073709551615 := by
    rcases h with ⟨_, _, _, rfl⟩ | ⟨_, _, _, _, _, _, hw⟩
    · intro z hz; cases hz
    · intro z hz
      have := hw z hz
      simpa [Lit.wf, IntKind.min, IntKind.max, IntKind.signed, IntKind.bits] using this
  refine ⟨(zs.take n).map Int.toNat, ?_, fun k => ?_⟩
  · have : ∀ l : List Int, (∀ z ∈ l, 0 ≤ z) → l = zl (l.map Int.toNat) := by
      intro l
      induction l with
      | nil => intro _; rfl
      | cons x l ih =>
        intro hl
        have hx := hl x (by simp)
        have hr := ih fun z hz => hl z (by simp [hz])
        unfold zl at hr ⊢
        simp only [List.map_cons]
        rw [← hr]
        congr 1
        exact (Int.toNat_of_nonneg hx).symm
    exact this _ fun z hz' => (hz z (List.mem_of_mem_take hz')).1
  · by_cases hk : k < (zs.take n).length
    · have hm := hz (zs.take n)[k] (List.mem_of_mem_take (List.getElem_mem hk))
      simp only [List.getD_eq_getElem?_getD, List.getElem?_map, List.getElem?_eq_getElem hk, Option.map_some, Option.getD_some]
      omega
    · simp only [List.getD_eq_getElem?_getD, List.getElem?_map, List.getElem?_eq_none (Nat.not_lt.1 hk)]
      decide
namespace Makes18
theorem status_a (ts : List Int) (k : Nat) (a : Int) (hl : ts.length ≤ 400) :
    ∃ s, FC Try.prog 14 [.o (.c (.p 0 0 0)), int .i64 a] [diceB ts k, diceL ts] (.o (.a (stC s))) [diceB ts (k + 6), diceL ts] ∧ s.address = a :=
  ⟨_, status_fc ts k a hl, rfl⟩
theorem shl1 {b : Nat} (h : b ≤ 12) : IntKind.i64.wrap (1 * 2 ^ min (IntKind.u64.wrap (IntKind.i64.wrap ((b : Int) + 1))).toNat IntKind.i64.bits) = ((2 ^ (b + 1) : Nat) : Int) ∧ 2 ^ (b + 1) ≤ 8192 ∧ 1 ≤ 2 ^ (b + 1) ∧ 0 ≤ IntKind.u64.wrap (IntKind.i64.wrap ((b : Int) + 1)) := by
  have : b = 0 ∨ b = 1 ∨ b = 2 ∨ b = 3 ∨ b = 4 ∨ b = 5 ∨ b = 6 ∨ b = 7 ∨ b = 8 ∨ b = 9 ∨ b = 10 ∨ b = 11 ∨ b = 12 := by omega
  rcases this with rfl | rfl | rfl | rfl | rfl | rfl | rfl | rfl | rfl | rfl | rfl | rfl | rfl <;> decide
theorem mk_ok {m : MapN} {a b c : Int} {s : Stt} {d : Rcd × Int} {q : S6 × Int} (e : d = mkF m a b c s) (eq : q = plF m s.address) (h : d.2 = 0) : q.2 = 0 ∧ d.1.pl = ⟨q.1.a, q.1.b, q.1.c, q.1.d, q.1.e, q.1.f⟩ := by
  subst eq
  rw [mkF] at e
  split at e
  · rename_i h1
    rw [e] at h
    exact absurd h h1
  · rename_i h1
    split at e
    · exact ⟨Classical.not_not.1 h1, by rw [e, mkR]⟩
    · rw [e] at h
      exact absurd h (by decide)
set_option maxHeartbeats 3200000 in
set_option maxRecDepth 10000 in
theorem lawN (m : MapN) (n0 n1 n2 : Int) (ts : List Int) (hr : ∀ k, m.N.getD k 0 < 18446744073709551616) :
    FC Try.prog 3 [nS m 0, .o (.a [.v (.int .i64 n0), .v (.int .i64 n1), .v (.int .i64 n2)]), .o (.c (.s 1 0 ts.length 1))] [u64n m.N false, diceL ts] (boo true) [u64n m.N false, diceL ts] := by
  refine FC.one (FC.rj mix Try.func3 ?_)
  repeat (first | refine And.intro (by kernel_rfl) ?_ | refine And.intro (by decide) ?_)
  refine FC.u (light_fc ts) [1] ?_
  repeat (first | refine And.intro (by kernel_rfl) ?_ | refine And.intro (by decide) ?_)
  refine bselNot (bselD (fun hl => ?_) (fun hl => ?_))
  rotate_left
  · repeat (first | refine And.intro (by kernel_rfl) ?_ | refine And.intro (by decide) ?_)
    refine FC.u awake_fc [] ?_
    exact ⟨(), trivial, .id rfl ⟨.inl rfl, .inl rfl, trivial⟩⟩
  repeat (first | refine And.intro (by kernel_rfl) ?_ | refine And.intro (by decide) ?_)
  refine bselD (fun h5 => ?_) (fun h5 => ?_)
  · repeat (first | refine And.intro (by kernel_rfl) ?_ | refine And.intro (by decide) ?_)
    refine FC.u awake_fc [] ?_
    exact ⟨(), trivial, .id rfl ⟨.inl rfl, .inl rfl, trivial⟩⟩
  have hm : m.N.length ≤ 100 := by
    have h2 : ¬ (m.N.length : Int) > 100 := h5
    clear h5
    omega
  clear h5
  repeat refine AJoin.plain ?_
  refine FC.u (roll_fc ts) [1] ?_
  repeat (first | refine And.intro (by kernel_rfl) ?_ | refine And.intro (by decide) ?_)
  refine FC.x (shape_fc ts 0 12 hl (by omega)) [4, 1] (fun ⟨s, k1⟩ g => ?_)
  simp only at g
  repeat (first | refine And.intro (by kernel_rfl) ?_ | refine And.intro (by decide) ?_)
  refine FC.x (mapn_fc ts k1 s hl g) [4, 1] (fun ⟨x, k2⟩ gx => ?_)
  simp only at gx
  have g100 : ShG 100 s := ⟨g.lo, by have := g.sum; omega⟩
  have nn := sum_nn g.lo
  have hbb : sumTo s 6 = bitsN s := by unfold bitsN; omega
  have bits := bits6_fc s g100
  rw [hbb] at bits
  obtain ⟨rfl, ok, bd, le⟩ := gx
  repeat (first | refine And.intro (by kernel_rfl) ?_ | refine And.intro (by decide) ?_)
  refine FC.u bits [] ?_
  obtain ⟨p1, p2, p3, p4⟩ := shl1 le
  refine And.intro p4 ?_
  conv => whnf
  rw [p1]
  have dA := dv_bd ts k2 (n := ((2 ^ (bitsN x.s + 1) : Nat) : Int)) (by omega)
  refine FC.x (next_x ts k2 ((2 ^ (bitsN x.s + 1) : Nat) : Int) (by omega) hl) [4, 1] (fun A eA => ?_)
  rw [← eA] at dA
  clear eA
  refine FC.x (status_a ts (k2 + 1) A hl) [4, 1] (fun st hst => ?_)
  have hx : st.address ≤ 9223372036854775807 := by omega
  clear hst dA p1 p2 p3 p4
  repeat (first | refine And.intro (by kernel_rfl) ?_ | refine And.intro (by decide) ?_)
  refine FC.x (next_x ts (k2 + 1 + 6) 50 (by omega) hl) [4, 1] (fun r0 _ => ?_)
  repeat (first | refine And.intro (by kernel_rfl) ?_ | refine And.intro (by decide) ?_)
  refine FC.x (next_x ts (k2 + 1 + 6 + 1) 50 (by omega) hl) [4, 1] (fun r1 _ => ?_)
  repeat (first | refine And.intro (by kernel_rfl) ?_ | refine And.intro (by decide) ?_)
  refine FC.x (next_x ts (k2 + 1 + 6 + 1 + 1) 18 (by omega) hl) [4, 1] (fun r2 _ => ?_)
  obtain ⟨w0, ew0⟩ : ∃ w, IntKind.i64.wrap (1 + r0) = w := ⟨_, rfl⟩
  obtain ⟨w2, ew2⟩ : ∃ w, IntKind.i64.wrap (r2 - 1) = w := ⟨_, rfl⟩
  conv => whnf
  rw [ew0, ew2]
  clear ew0 ew2
  repeat (first | refine And.intro (by kernel_rfl) ?_ | refine And.intro (by decide) ?_)
  have hrx : ∀ k, x.N.getD k 0 < 18446744073709551616 := fun k => lt64 (bd k) (by omega)
  have hlx : x.N.length ≤ 140737488351232 := by have := ok.len; omega
  refine ALoop.go (X := Nat) (fun i => i ≤ 2) (fun i => 2 - i) [9, 10, 11] [0, 1, 5, 7, 8, 9] (fun i => [(12, int .i64 i)]) (fun _ => []) 0 (by decide) ⟨rfl, trivial⟩ trivial ?_
  intro i hi
  dsimp only [headF, headM]
  refine bselD (fun h => ?_) (fun h => ?_)
  · have hi2 : i = 0 ∨ i = 1 := by
      have h2 : (i : Int) < 2 := h
      clear h
      omega
    clear h
    rcases hi2 with rfl | rfl
    · repeat refine AJoin.plain ?_
      repeat (first | refine And.intro (by kernel_rfl) ?_ | refine And.intro (by decide) ?_)
      refine FC.x (make_fc m n0 n1 n2 st (by omega) hr hx) [0] (fun d e1 => ?_)
      repeat (first | refine And.intro (by kernel_rfl) ?_ | refine And.intro (by decide) ?_)
      refine FC.x (make18_fc m n0 n1 n2 st (by omega) hr hx) [0] (fun d' e2 => ?_)
      obtain rfl : d' = d := e2.trans e1.symm
      repeat (first | refine And.intro (by kernel_rfl) ?_ | refine And.intro (by decide) ?_)
      refine bselN (fun h => absurd rfl h) (fun _ => ?_)
      repeat (first | refine And.intro (by kernel_rfl) ?_ | refine And.intro (by decide) ?_)
      refine bselF (by simp) ?_
      repeat (first | refine And.intro (by kernel_rfl) ?_ | refine And.intro (by decide) ?_)
      refine FC.x (rplace_fc m st.address (by omega) hr hx) [0] (fun q eq => ?_)
      repeat (first | refine And.intro (by kernel_rfl) ?_ | refine And.intro (by decide) ?_)
      refine bselE (fun h0 => ?_) (fun h0 => ?_)
      · obtain ⟨g1, g2⟩ := mk_ok e1 eq h0
        refine bselN (fun h => absurd g1 h) (fun _ => ?_)
        repeat (first | refine And.intro (by kernel_rfl) ?_ | refine And.intro (by decide) ?_)
        refine bselF (by simp [g2]) ?_
        repeat (first | refine And.intro (by kernel_rfl) ?_ | refine And.intro (by decide) ?_)
        exact ⟨0 + 1, ⟨by decide, by decide⟩, .id ⟨rfl, trivial⟩ rfl trivial rfl⟩
      · repeat (first | refine And.intro (by kernel_rfl) ?_ | refine And.intro (by decide) ?_)
        exact ⟨0 + 1, ⟨by decide, by decide⟩, .id ⟨rfl, trivial⟩ rfl trivial rfl⟩
    · repeat refine AJoin.plain ?_
      repeat (first | refine And.intro (by kernel_rfl) ?_ | refine And.intro (by decide) ?_)
      refine FC.x (make_fc x w0 r1 w2 st hlx hrx hx) [5] (fun d e1 => ?_)
      repeat (first | refine And.intro (by kernel_rfl) ?_ | refine And.intro (by decide) ?_)
      refine FC.x (make18_fc x w0 r1 w2 st hlx hrx hx) [5] (fun d' e2 => ?_)
      obtain rfl : d' = d := e2.trans e1.symm
      repeat (first | refine And.intro (by kernel_rfl) ?_ | refine And.intro (by decide) ?_)
      refine bselN (fun h => absurd rfl h) (fun _ => ?_)
      repeat (first | refine And.intro (by kernel_rfl) ?_ | refine And.intro (by decide) ?_)
      refine bselF (by simp) ?_
      repeat (first | refine And.intro (by kernel_rfl) ?_ | refine And.intro (by decide) ?_)
      refine FC.x (rplace_fc x st.address hlx hrx hx) [5] (fun q eq => ?_)
      repeat (first | refine And.intro (by kernel_rfl) ?_ | refine And.intro (by decide) ?_)
      refine bselE (fun h0 => ?_) (fun h0 => ?_)
      · obtain ⟨g1, g2⟩ := mk_ok e1 eq h0
        refine bselN (fun h => absurd g1 h) (fun _ => ?_)
        repeat (first | refine And.intro (by kernel_rfl) ?_ | refine And.intro (by decide) ?_)
        refine bselF (by simp [g2]) ?_
        repeat (first | refine And.intro (by kernel_rfl) ?_ | refine And.intro (by decide) ?_)
        exact ⟨1 + 1, ⟨by decide, by decide⟩, .id ⟨rfl, trivial⟩ rfl trivial rfl⟩
      · repeat (first | refine And.intro (by kernel_rfl) ?_ | refine And.intro (by decide) ?_)
        exact ⟨1 + 1, ⟨by decide, by decide⟩, .id ⟨rfl, trivial⟩ rfl trivial rfl⟩
  · have hq : i = 2 := by
      have h2 : ¬ (i : Int) < 2 := h
      clear h
      omega
    clear h
    subst hq
    repeat (first | refine And.intro (by kernel_rfl) ?_ | refine And.intro (by decide) ?_)
    refine FC.u awake_fc [] ?_
    repeat (first | refine And.intro (by kernel_rfl) ?_ | refine And.intro (by decide) ?_)
    exact ⟨(), trivial, .id rfl ⟨.inl rfl, .inl rfl, trivial⟩⟩
theorem law (s : S6) (zs : List Int) (lo hi n0 n1 n2 : Int) (ts : List Int) (h : ∃ ns : List Nat, zs = zl ns ∧ ∀ k, ns.getD k 0 < 18446744073709551616) :
    FC Try.prog 3 [mS ⟨s, zs, lo, hi⟩ 0, .o (.a [.v (.int .i64 n0), .v (.int .i64 n1), .v (.int .i64 n2)]), .o (.c (.s 1 0 ts.length 1))] [u64s zs false, diceL ts] (boo true) [u64s zs false, diceL ts] := by
  obtain ⟨ns, rfl, hr⟩ := h
  have e1 : mS ⟨s, zl ns, lo, hi⟩ 0 = nS ⟨s, ns, lo, hi⟩ 0 := by unfold mS nS mC nC; simp only [zl_len]
  rw [e1]
  exact lawN ⟨s, ns, lo, hi⟩ n0 n1 n2 ts hr
end Makes18
end Go.Sx.T1
