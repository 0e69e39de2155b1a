/- Contracts of the functions that JournalSurvives reaches, and the walk of the law, part 2. Conditions: none. -/
import Derived.Test.YtifdfeahgpghaaaJournalSurvivesA
namespace Go.Sx.T1
open Go.Proofs Go.Sx.Crc
/-! the reference's Decode -/
theorem take4 {l : List Nat} (h : 4 ≤ l.length) : l.take 4 = headL ↔ l.getD 0 0 = 77 ∧ l.getD 1 0 = 82 ∧ l.getD 2 0 = 1 ∧ l.getD 3 0 = 53 := by
  match l, h with
  | a :: b :: c :: d :: r, _ => simp [headL]
theorem gP_0 (l : List Nat) (a : Nat) : gP l a 0 = 0 := by simp [gP, getN]
theorem gP_1 {l : List Nat} {a : Nat} (h : a < l.length) : gP l a 1 = l.getD a 0 := by rw [gP_succ (by omega), gP_0]; simp
theorem smallS {v : Nat} {k : Int} (hk : k ≤ 4294967296000) : (0 ≤ smallF v ∧ smallF v ≤ k ↔ (v : Int) ≤ k) ∧ (0 ≤ smallF v → smallF v = v) := by
  unfold smallF
  split <;> omega
theorem rc_small {l : List Nat} {s : Stt} {a b : Nat} :
    (RcOk (rcG l s (smallF a) (smallF b)) ↔ RcOk (rcG l s a b)) ∧ (RcOk (rcG l s (smallF a) (smallF b)) → smallF a = a ∧ smallF b = b) := by
  have wa := smallS (v := a) (k := 4294967296) (by omega)
  have wb := smallS (v := b) (k := 1099511627776) (by omega)
  refine ⟨⟨fun h => ?_, fun h => ?_⟩, fun h => ⟨wa.2 ?_, wb.2 ?_⟩⟩
  · have h1 := h.seq
    have h2 := h.time
    simp only [rcG] at h1 h2
    have e1 := wa.2 (by omega)
    have e2 := wb.2 (by omega)
    rwa [e1, e2] at h
  · have h1 := h.seq
    have h2 := h.time
    simp only [rcG] at h1 h2
    have e1 := wa.2 (wa.1.2 (by omega)).1
    have e2 := wb.2 (wb.1.2 (by omega)).1
    rwa [e1, e2]
  · have h1 := h.seq
    simp only [rcG] at h1
    omega
  · have h2 := h.time
    simp only [rcG] at h2
    omega
theorem unpackR_z (a b : Int) : ∃ p : Stt × Int, FC Try.prog 85 [int .u64 a, int .u64 b] [] (tupU p.1 p.2) [] ∧ p = (unA a b, unE a b) := ⟨(unA a b, unE a b), unpackR_fc a b, rfl⟩
set_option maxHeartbeats 3200000 in
set_option maxRecDepth 10000 in
theorem decode18_fc (l : List Nat) (hl : l.length ≤ 100000) (hb : By l) : ∃ d : Rcd × Int, FC Try.prog 71 [.o (.c (.s 0 0 l.length 1))] [u8n l false] (rcE d) [u8n l false] ∧ d = decF l := by
  refine FC.rj mix Try.func71 ?_
  repeat (first | refine And.intro (by kernel_rfl) ?_ | refine And.intro (by decide) ?_)
  refine bselD (fun h53 => ?_) (fun h53 => ?_)
  · have h' : l.length < 53 := by
      have h2 : (l.length : Int) < 53 := h53
      clear h53
      omega
    repeat (first | refine And.intro (by kernel_rfl) ?_ | refine And.intro (by decide) ?_)
    exact ⟨(zR, 11), by rw [decF, if_pos h'], .id rfl ⟨.inl rfl, trivial⟩⟩
  have h' : 53 ≤ l.length := by
    have h2 : ¬ (l.length : Int) < 53 := h53
    clear h53
    omega
  clear h53
  repeat refine AJoin.plain ?_
  refine And.intro ⟨by decide, by omega⟩ ?_
  refine And.intro (by show 0 + Int.toNat 0 < (zl l).length; rw [zl_len]; show 0 + 0 < l.length; omega) ?_
  repeat (first | refine And.intro (by kernel_rfl) ?_ | refine And.intro (by decide) ?_)
  have g0 : (zl l).getD (0 + Int.toNat 0) 0 = ((l.getD 0 0 : Nat) : Int) := zl_get l 0
  refine bselN (fun hne => ?_) (fun he => ?_)
  · have hne' : l.getD 0 0 ≠ 77 := fun e => hne (by rw [g0, e]; rfl)
    repeat (first | refine And.intro (by kernel_rfl) ?_ | refine And.intro (by decide) ?_)
    exact ⟨(zR, 12), by rw [decF, if_neg (by omega), if_pos (by rw [ne_eq, take4 (by omega)]; omega)], .id rfl ⟨.inl rfl, trivial⟩⟩
  have h0 : l.getD 0 0 = 77 := by rw [g0] at he; omega
  clear he g0
  refine And.intro ⟨by decide, by omega⟩ ?_
  refine And.intro (by show 0 + Int.toNat 1 < (zl l).length; rw [zl_len]; show 0 + 1 < l.length; omega) ?_
  repeat (first | refine And.intro (by kernel_rfl) ?_ | refine And.intro (by decide) ?_)
  have g1 : (zl l).getD (0 + Int.toNat 1) 0 = ((l.getD 1 0 : Nat) : Int) := zl_get l 1
  refine bselN (fun hne => ?_) (fun he => ?_)
  · have hne' : l.getD 1 0 ≠ 82 := fun e => hne (by rw [g1, e]; rfl)
    repeat (first | refine And.intro (by kernel_rfl) ?_ | refine And.intro (by decide) ?_)
    exact ⟨(zR, 12), by rw [decF, if_neg (by omega), if_pos (by rw [ne_eq, take4 (by omega)]; omega)], .id rfl ⟨.inl rfl, trivial⟩⟩
  have h1 : l.getD 1 0 = 82 := by rw [g1] at he; omega
  clear he g1
  refine And.intro ⟨by decide, by omega⟩ ?_
  refine And.intro (by show 0 + Int.toNat 2 < (zl l).length; rw [zl_len]; show 0 + 2 < l.length; omega) ?_
  repeat (first | refine And.intro (by kernel_rfl) ?_ | refine And.intro (by decide) ?_)
  have g2 : (zl l).getD (0 + Int.toNat 2) 0 = ((l.getD 2 0 : Nat) : Int) := zl_get l 2
  refine bselN (fun hne => ?_) (fun he => ?_)
  · have hne' : l.getD 2 0 ≠ 1 := fun e => hne (by rw [g2, e]; rfl)
    repeat (first | refine And.intro (by kernel_rfl) ?_ | refine And.intro (by decide) ?_)
    exact ⟨(zR, 12), by rw [decF, if_neg (by omega), if_pos (by rw [ne_eq, take4 (by omega)]; omega)], .id rfl ⟨.inl rfl, trivial⟩⟩
  have h2 : l.getD 2 0 = 1 := by rw [g2] at he; omega
  clear he g2
  refine And.intro ⟨by decide, by omega⟩ ?_
  refine And.intro (by show 0 + Int.toNat 3 < (zl l).length; rw [zl_len]; show 0 + 3 < l.length; omega) ?_
  repeat (first | refine And.intro (by kernel_rfl) ?_ | refine And.intro (by decide) ?_)
  have g3 : (zl l).getD (0 + Int.toNat 3) 0 = ((l.getD 3 0 : Nat) : Int) := zl_get l 3
  refine bselN (fun hne => ?_) (fun he => ?_)
  · have hne' : l.getD 3 0 ≠ 53 := fun e => hne (by rw [g3, e]; rfl)
    repeat (first | refine And.intro (by kernel_rfl) ?_ | refine And.intro (by decide) ?_)
    exact ⟨(zR, 12), by rw [decF, if_neg (by omega), if_pos (by rw [ne_eq, take4 (by omega)]; omega)], .id rfl ⟨.inl rfl, trivial⟩⟩
  have h3 : l.getD 3 0 = 53 := by rw [g3] at he; omega
  clear he g3
  have h4 : l.take 4 = headL := (take4 (by omega)).2 ⟨h0, h1, h2, h3⟩
  clear h0 h1 h2 h3
  repeat refine AJoin.plain ?_
  refine FC.x (get18_fc l 49 4 (by omega) (by omega) hl l.length rfl hb) [0] (fun v hv => ?_)
  have hck := chk_lt (l.take 49)
  have wk : IntKind.u64.wrap ((chk (l.take 49) : Nat) : Int) = ((chk (l.take 49) : Nat) : Int) := wrapU64_in (by omega) (by omega)
  repeat (first | refine And.intro (by kernel_rfl) ?_ | refine And.intro (by decide) ?_)
  refine And.intro ⟨by decide, by omega⟩ ?_
  refine FC.u (check18_fc l 49 (by omega) (by omega) hb) [0] ?_
  repeat (first | refine And.intro (by kernel_rfl) ?_ | refine And.intro (by decide) ?_)
  refine bselN (fun hne => ?_) (fun he => ?_)
  · have hc : gP l 49 4 ≠ chk (l.take 49) := fun e => hne (by rw [wk, hv, e])
    repeat (first | refine And.intro (by kernel_rfl) ?_ | refine And.intro (by decide) ?_)
    exact ⟨(zR, 13), by rw [decF, if_neg (by omega), if_neg (by simp [h4]), if_pos hc], .id rfl ⟨.inl rfl, trivial⟩⟩
  have hc : gP l 49 4 = chk (l.take 49) := by
    rw [wk, hv] at he
    omega
  clear he hck wk hv
  repeat refine AJoin.plain ?_
  refine FC.x (get18_fc l 21 8 (by omega) (by omega) hl l.length rfl hb) [0] (fun v4 hv4 => ?_)
  repeat (first | refine And.intro (by kernel_rfl) ?_ | refine And.intro (by decide) ?_)
  refine FC.x (get18_fc l 29 8 (by omega) (by omega) hl l.length rfl hb) [0] (fun v5 hv5 => ?_)
  repeat (first | refine And.intro (by kernel_rfl) ?_ | refine And.intro (by decide) ?_)
  refine FC.x (unpackR_z (v4 : Int) (v5 : Int)) [] (fun p hp => ?_)
  rw [hv4, hv5] at hp
  repeat (first | refine And.intro (by kernel_rfl) ?_ | refine And.intro (by decide) ?_)
  refine FC.x (get18_fc l 4 8 (by omega) (by omega) hl l.length rfl hb) [0] (fun v1 hv1 => ?_)
  repeat (first | refine And.intro (by kernel_rfl) ?_ | refine And.intro (by decide) ?_)
  refine FC.x (small_fc v1) [] (fun s1 hs1 => ?_)
  repeat (first | refine And.intro (by kernel_rfl) ?_ | refine And.intro (by decide) ?_)
  refine FC.x (get18_fc l 12 8 (by omega) (by omega) hl l.length rfl hb) [0] (fun v2 hv2 => ?_)
  repeat (first | refine And.intro (by kernel_rfl) ?_ | refine And.intro (by decide) ?_)
  refine FC.x (small_fc v2) [] (fun s2 hs2 => ?_)
  repeat (first | refine And.intro (by kernel_rfl) ?_ | refine And.intro (by decide) ?_)
  refine And.intro ⟨by decide, by omega⟩ ?_
  refine And.intro (by show 0 + Int.toNat 20 < (zl l).length; rw [zl_len]; show 0 + 20 < l.length; omega) ?_
  have g20 : IntKind.i64.wrap ((zl l).getD (0 + Int.toNat 20) 0) = ((gP l 20 1 : Nat) : Int) := by
    have e : (zl l).getD (0 + Int.toNat 20) 0 = ((l.getD 20 0 : Nat) : Int) := zl_get l 20
    have := hb 20
    rw [e, gP_1 (by omega), wrap64_in (by omega) (by omega)]
  repeat (first | refine And.intro (by kernel_rfl) ?_ | refine And.intro (by decide) ?_)
  refine FC.x (get18_fc l (37 + 2 * 0) 2 (by omega) (by omega) hl l.length rfl hb) [0] (fun u0 hu0 => ?_)
  have k0 : IntKind.i64.wrap (u0 : Int) = (u0 : Int) := by have := gP_lt hb (37 + 2 * 0) (i := 2) (by omega); rw [← hu0] at this; exact wrap64_in (by omega) (by omega)
  repeat (first | refine And.intro (by kernel_rfl) ?_ | refine And.intro (by decide) ?_)
  refine FC.x (get18_fc l (37 + 2 * 1) 2 (by omega) (by omega) hl l.length rfl hb) [0] (fun u1 hu1 => ?_)
  have k1 : IntKind.i64.wrap (u1 : Int) = (u1 : Int) := by have := gP_lt hb (37 + 2 * 1) (i := 2) (by omega); rw [← hu1] at this; exact wrap64_in (by omega) (by omega)
  repeat (first | refine And.intro (by kernel_rfl) ?_ | refine And.intro (by decide) ?_)
  refine FC.x (get18_fc l (37 + 2 * 2) 2 (by omega) (by omega) hl l.length rfl hb) [0] (fun u2 hu2 => ?_)
  have k2 : IntKind.i64.wrap (u2 : Int) = (u2 : Int) := by have := gP_lt hb (37 + 2 * 2) (i := 2) (by omega); rw [← hu2] at this; exact wrap64_in (by omega) (by omega)
  repeat (first | refine And.intro (by kernel_rfl) ?_ | refine And.intro (by decide) ?_)
  refine FC.x (get18_fc l (37 + 2 * 3) 2 (by omega) (by omega) hl l.length rfl hb) [0] (fun u3 hu3 => ?_)
  have k3 : IntKind.i64.wrap (u3 : Int) = (u3 : Int) := by have := gP_lt hb (37 + 2 * 3) (i := 2) (by omega); rw [← hu3] at this; exact wrap64_in (by omega) (by omega)
  repeat (first | refine And.intro (by kernel_rfl) ?_ | refine And.intro (by decide) ?_)
  refine FC.x (get18_fc l (37 + 2 * 4) 2 (by omega) (by omega) hl l.length rfl hb) [0] (fun u4 hu4 => ?_)
  have k4 : IntKind.i64.wrap (u4 : Int) = (u4 : Int) := by have := gP_lt hb (37 + 2 * 4) (i := 2) (by omega); rw [← hu4] at this; exact wrap64_in (by omega) (by omega)
  repeat (first | refine And.intro (by kernel_rfl) ?_ | refine And.intro (by decide) ?_)
  refine FC.x (get18_fc l (37 + 2 * 5) 2 (by omega) (by omega) hl l.length rfl hb) [0] (fun u5 hu5 => ?_)
  have k5 : IntKind.i64.wrap (u5 : Int) = (u5 : Int) := by have := gP_lt hb (37 + 2 * 5) (i := 2) (by omega); rw [← hu5] at this; exact wrap64_in (by omega) (by omega)
  repeat (first | refine And.intro (by kernel_rfl) ?_ | refine And.intro (by decide) ?_)
  have hpa : unA ((gP l 21 8 : Nat) : Int) ((gP l 29 8 : Nat) : Int) = p.1 := (congrArg Prod.fst hp).symm
  have hpe : unE ((gP l 21 8 : Nat) : Int) ((gP l 29 8 : Nat) : Int) = p.2 := (congrArg Prod.snd hp).symm
  have hF : decF l = open Classical in if p.2 ≠ 0 ∨ ¬ RcOk (rcG l p.1 (v1 : Int) (v2 : Int)) then (zR, 12) else (rcG l p.1 (v1 : Int) (v2 : Int), 0) := by
    rw [decF, if_neg (by omega), if_neg (by simp [h4]), if_neg (by simp [hc]), hpa, hpe, ← hv1, ← hv2]
  clear hpa hpe hp hv4 hv5
  have hrc : (⟨s1, s2, IntKind.i64.wrap ((zl l).getD (0 + Int.toNat 20) 0), p.1, ⟨IntKind.i64.wrap (u0 : Int), IntKind.i64.wrap (u1 : Int), IntKind.i64.wrap (u2 : Int), IntKind.i64.wrap (u3 : Int), IntKind.i64.wrap (u4 : Int), IntKind.i64.wrap (u5 : Int)⟩⟩ : Rcd) = rcG l p.1 (smallF v1) (smallF v2) := by
    rw [g20, k0, k1, k2, k3, k4, k5, hu0, hu1, hu2, hu3, hu4, hu5, hs1, hs2]; rfl
  obtain ⟨b, hfc, hbi⟩ := refValid_fc ⟨s1, s2, IntKind.i64.wrap ((zl l).getD (0 + Int.toNat 20) 0), p.1, ⟨IntKind.i64.wrap (u0 : Int), IntKind.i64.wrap (u1 : Int), IntKind.i64.wrap (u2 : Int), IntKind.i64.wrap (u3 : Int), IntKind.i64.wrap (u4 : Int), IntKind.i64.wrap (u5 : Int)⟩⟩
  rw [hrc, rc_small.1] at hbi
  repeat (first | refine And.intro (by kernel_rfl) ?_ | refine And.intro (by decide) ?_)
  refine bselN (fun hne => ?_) (fun he => ?_)
  · repeat (first | refine And.intro (by kernel_rfl) ?_ | refine And.intro (by decide) ?_)
    exact ⟨(zR, 12), by rw [hF, if_pos (.inl hne)], .id rfl ⟨.inl rfl, trivial⟩⟩
  repeat (first | refine And.intro (by kernel_rfl) ?_ | refine And.intro (by decide) ?_)
  refine FC.u hfc [] ?_
  repeat (first | refine And.intro (by kernel_rfl) ?_ | refine And.intro (by decide) ?_)
  cases hb2 : b with
  | false =>
    subst hb2
    repeat (first | refine And.intro (by kernel_rfl) ?_ | refine And.intro (by decide) ?_)
    exact ⟨(zR, 12), by rw [hF, if_pos (.inr (fun hh => by have := hbi.2 hh; cases this))], .id rfl ⟨.inl rfl, trivial⟩⟩
  | true =>
    subst hb2
    have hok := hbi.1 rfl
    obtain ⟨e1, e2⟩ := (rc_small (l := l) (s := p.1)).2 (rc_small.1.2 hok)
    repeat (first | refine And.intro (by kernel_rfl) ?_ | refine And.intro (by decide) ?_)
    refine ⟨(⟨s1, s2, IntKind.i64.wrap ((zl l).getD (0 + Int.toNat 20) 0), p.1, ⟨IntKind.i64.wrap (u0 : Int), IntKind.i64.wrap (u1 : Int), IntKind.i64.wrap (u2 : Int), IntKind.i64.wrap (u3 : Int), IntKind.i64.wrap (u4 : Int), IntKind.i64.wrap (u5 : Int)⟩⟩, 0), ?_, .id rfl ⟨.inl rfl, trivial⟩⟩
    rw [hF, if_neg (by simp [he, hok]), hrc, e1, e2]
end Go.Sx.T1
namespace Go.Sx.T1
open Go.Proofs Go.Sx.Crc
/-! Encode -/
def encP (r : Rcd) (w c : Nat) : Nat → List Nat
  | 0 => (((((headL ++ be 8 r.seq.toNat) ++ be 8 r.time.toNat) ++ [r.bank.toNat % 256]) ++ be 8 w) ++ be 8 c)
  | i + 1 => encP r w c i ++ be 2 (r.pl.get i).toNat
def encL (r : Rcd) (w c : Nat) : List Nat := encP r w c 6 ++ be 4 (chk (encP r w c 6))
theorem encP_len (r : Rcd) (w c : Nat) : ∀ i, (encP r w c i).length = 37 + 2 * i
  | 0 => by simp [encP, be_len, headL]
  | i + 1 => by rw [encP, List.length_append, encP_len r w c i, be_len]; omega
theorem encP_by (r : Rcd) (w c : Nat) : ∀ i, By (encP r w c i)
  | 0 => (((((By.of_mem (by decide)).app (be_byte _ _)).app (be_byte _ _)).app (By.of_mem (by simp; omega))).app (be_byte _ _)).app (be_byte _ _)
  | i + 1 => (encP_by r w c i).app (be_byte _ _)
noncomputable def encF (r : Rcd) : List Nat × Int := open Classical in if RcOk r then (encL r (wordS r.st) r.st.chips.toNat, 0) else ([], 1)
def encS (d : List Nat × Int) : SV := .t [.c (.s 0 0 d.1.length 1), .c (.v (.int .i64 d.2))]
def encM (d : List Nat × Int) : Mem := [u8n d.1 true]
def putM1 (L : List Nat) : Mem := [none, u8n L true]
theorem put_x (l : List Nat) (v n N : Nat) (hN : N = l.length) (hl : l.length ≤ 100000) (hn : n ≤ 8) :
    ∃ L : List Nat, FC Try.prog 62 [.o (.c (.s 0 0 N 1)), int .u64 v, int .i64 n] [u8n l true] (.o (.c (.s 1 0 L.length 1))) (putM1 L) ∧ L = l ++ be n v := by
  subst hN; exact ⟨_, put_fc l v n hl hn, rfl⟩
theorem put18_x (l : List Nat) (v n N : Nat) (hN : N = l.length) (hl : l.length ≤ 100000) (hn : n ≤ 8) :
    ∃ L : List Nat, FC Try.prog 81 [.o (.c (.s 0 0 N 1)), int .i64 n, int .u64 v] [u8n l true] (.o (.c (.s 1 0 L.length 1))) (putM1 L) ∧ L = l ++ be n v := by
  subst hN; exact ⟨_, put18_fc l v n hl hn, rfl⟩
theorem chips_bd {s : Stt} (h : validS s = true) : 0 ≤ s.chips ∧ s.chips < 1099511627776 := by
  unfold validS at h
  simp only [Bool.or_eq_true, Bool.and_eq_true, beq_iff_eq] at h
  rcases h with h | ⟨_, _, _, _, _, h⟩
  · rw [eqS_iff.1 h]
    decide
  · omega
theorem pack_n {s : Stt} (h : validS s = true) : ∃ p : Nat × Nat, FC Try.prog 61 [.o (.a (stC s))] [] (tup3 p.1 p.2 0) [] ∧ p = (wordS s, s.chips.toNat) := by
  have hc : ((s.chips.toNat : Nat) : Int) = s.chips := Int.toNat_of_nonneg (chips_bd h).1
  refine ⟨(wordS s, s.chips.toNat), ?_, rfl⟩
  have := pack_fc s
  simp only [packA, packB, packE, h, cond_true] at this
  rw [hc]; exact this
theorem packR_n {s : Stt} (h : validS s = true) : ∃ p : Nat × Nat, FC Try.prog 80 [.o (.a (stC s))] [] (tup3 p.1 p.2 0) [] ∧ p = (wordS s, s.chips.toNat) := by
  have hc : ((s.chips.toNat : Nat) : Int) = s.chips := Int.toNat_of_nonneg (chips_bd h).1
  refine ⟨(wordS s, s.chips.toNat), ?_, rfl⟩
  have := packR_fc s
  simp only [packA, packB, packE, h, cond_true] at this
  rw [hc]; exact this
structure EnX where
  i : Nat
  L : List Nat
set_option maxHeartbeats 3200000 in
set_option maxRecDepth 10000 in
theorem encode_fc (r : Rcd) : ∃ d : List Nat × Int, FC Try.prog 38 [.o (.a (rcC r))] [] (encS d) (encM d) ∧ d = encF r := by
  refine FC.rj mix Try.func38 ?_
  obtain ⟨b, hfc, hbi⟩ := recValid_fc r
  repeat (first | refine And.intro (by kernel_rfl) ?_ | refine And.intro (by decide) ?_)
  refine FC.u hfc [] ?_
  refine bselNot (bsel_intro (fun h => ?_) (fun h => ?_))
  rotate_left
  · repeat (first | refine And.intro (by kernel_rfl) ?_ | refine And.intro (by decide) ?_)
    exact ⟨([], 1), by rw [encF, if_neg (fun hh => by rw [hbi.2 hh] at h; cases h)], isEnd.go [(0, .new 1)] rfl ⟨newI 1 rfl, trivial⟩⟩
  have ok := hbi.1 h
  have hF : encF r = (encL r (wordS r.st) r.st.chips.toNat, 0) := by rw [encF, if_pos ok]
  rw [hF]
  clear hF hbi h hfc
  obtain ⟨s, hs⟩ : ∃ s : Nat, r.seq = s := ⟨r.seq.toNat, by have := ok.seq; omega⟩
  obtain ⟨t, ht⟩ : ∃ s : Nat, r.time = s := ⟨r.time.toNat, by have := ok.time; omega⟩
  obtain ⟨k, hk⟩ : ∃ s : Nat, r.bank = s := ⟨r.bank.toNat, by have := ok.bank; omega⟩
  have ws : IntKind.u64.wrap r.seq = (s : Int) := by have := ok.seq; rw [hs] at this ⊢; exact wrapU64_in (by omega) (by omega)
  have wt : IntKind.u64.wrap r.time = (t : Int) := by have := ok.time; rw [ht] at this ⊢; exact wrapU64_in (by omega) (by omega)
  have wk : IntKind.u8.wrap r.bank = ((k % 256 : Nat) : Int) := by rw [hk]; exact wrapU8 k
  repeat refine AJoin.plain ?_
  refine FC.x (pack_n ok.st.1) [] (fun p hp => ?_)
  repeat (first | refine And.intro (by kernel_rfl) ?_ | refine And.intro (by decide) ?_)
  refine FC.u head_fc [] ?_
  repeat (first | refine And.intro (by kernel_rfl) ?_ | refine And.intro (by decide) ?_)
  conv => whnf
  rw [ws]
  refine FC.x (put_x headL s 8 4 rfl (by decide) (by omega)) [1] (fun L1 h1 => ?_)
  repeat (first | refine And.intro (by kernel_rfl) ?_ | refine And.intro (by decide) ?_)
  conv => whnf
  rw [wt]
  have n1 : L1.length = 12 := by rw [h1, List.length_append, be_len]; rfl
  refine FC.x (put_x L1 t 8 L1.length rfl (by omega) (by omega)) [2] (fun L2 h2 => ?_)
  have n2 : L2.length = 20 := by rw [h2, List.length_append, be_len, n1]
  repeat (first | refine And.intro (by kernel_rfl) ?_ | refine And.intro (by decide) ?_)
  refine And.intro ⟨by show 0 + (L2).length ≤ (zl (L2)).length; rw [zl_len]; omega, trivial⟩ ?_
  refine And.intro ⟨Nat.le_of_ble_eq_true rfl, trivial⟩ ?_
  refine And.intro (by show (L2).length + 1 ≤ 4294967296; omega) ?_
  repeat (first | refine And.intro (by kernel_rfl) ?_ | refine And.intro (by decide) ?_)
  obtain ⟨L3, h3⟩ : ∃ L3 : List Nat, L3 = L2 ++ [k % 256] := ⟨_, rfl⟩
  have n3 : L3.length = 21 := by rw [h3, List.length_append, n2]; rfl
  have a3 : List.take L2.length (List.drop 0 (zl L2)) ++ List.take 1 (List.drop 0 [IntKind.u8.wrap r.bank]) = zl L3 := by rw [h3]; exact app1z _ _ _ wk
  have b3 : L2.length + 1 = L3.length := by rw [n2, n3]
  conv => whnf
  rw [a3, b3]
  clear a3 b3
  refine FC.x (put_x L3 p.1 8 L3.length rfl (by omega) (by omega)) [5] (fun L4 h4 => ?_)
  have n4 : L4.length = 29 := by rw [h4, List.length_append, be_len, n3]
  repeat (first | refine And.intro (by kernel_rfl) ?_ | refine And.intro (by decide) ?_)
  refine FC.x (put_x L4 p.2 8 L4.length rfl (by omega) (by omega)) [6] (fun L5 h5 => ?_)
  have n5 : L5.length = 37 := by rw [h5, List.length_append, be_len, n4]
  have h50 : L5 = encP r (wordS r.st) r.st.chips.toNat 0 := by rw [h5, h4, h3, h2, h1, hp, encP, hs, ht, hk]; rfl
  clear h1 h2 h3 h4 h5 hp
  obtain ⟨w, hw⟩ : ∃ w, wordS r.st = w := ⟨_, rfl⟩
  obtain ⟨c, hc⟩ : ∃ c, r.st.chips.toNat = c := ⟨_, rfl⟩
  rw [hw, hc] at h50
  have hen : ∀ d : List Nat × Int, d = (encL r w c, 0) → d = (encL r (wordS r.st) r.st.chips.toNat, 0) := fun d h => by rw [hw, hc]; exact h
  clear hw hc
  repeat (first | refine And.intro (by kernel_rfl) ?_ | refine And.intro (by decide) ?_)
  refine FC.u (numbers_fc r) [0] ?_
  repeat (first | refine And.intro (by kernel_rfl) ?_ | refine And.intro (by decide) ?_)
  refine ALoop.goN (X := EnX) (fun x => x.i ≤ 6 ∧ x.L = encP r w c x.i) (fun x => 6 - x.i) [41, 42] [0, 8] (fun x => [(7, .o (.c (.s 7 0 x.L.length 1))), (43, int .i64 x.i)]) (fun x => [(7, ⟨.ints .u8 (zl x.L), true⟩)]) ⟨0, L5⟩ 9
    ⟨Nat.zero_le _, h50⟩ (isAt.go [] ⟨rfl, rfl, trivial⟩ ⟨.inl rfl, trivial⟩) ?_
  clear h50 n5 n4 n3 n2 n1 ws wt wk
  rintro ⟨i, L⟩ ⟨hi, hL⟩
  simp only at hi hL
  have nL : L.length = 37 + 2 * i := by rw [hL, encP_len]
  have bL : By L := by rw [hL]; exact encP_by r w c i
  dsimp only [headF, headM]
  refine bselD (fun h => ?_) (fun h => ?_)
  · have h' : i < 6 := by
      have h2 : (i : Int) < 6 := h
      clear h
      omega
    have wi : IntKind.i64.wrap ((i : Int) + 1) = ((i + 1 : Nat) : Int) := wrap64_in (by omega) (by omega)
    have hp := ok.pl i h'
    have wg : IntKind.u64.wrap (r.pl.get i) = (((r.pl.get i).toNat : Nat) : Int) := by rw [Int.toNat_of_nonneg hp.1]; exact wrapU64_in (by omega) (by omega)
    have hput := put_x L (r.pl.get i).toNat 2 L.length rfl (by omega) (by omega)
    have hen2 : ∀ L', L' = L ++ be 2 (r.pl.get i).toNat → L' = encP r w c (i + 1) := fun L' h => by rw [h, hL, encP]
    generalize hz : (r.pl.get i).toNat = z at wg hput hen2
    have hm : 6 - (i + 1) < 6 - i := by omega
    clear hL bL nL hp
    repeat refine AJoin.plain ?_
    rcases lt6 h' with rfl | rfl | rfl | rfl | rfl | rfl <;>
    · simp only [Pl.get] at wg
      repeat (first | refine And.intro (by kernel_rfl) ?_ | refine And.intro (by decide) ?_)
      conv => whnf
      rw [wg]
      refine FC.x hput [7] (fun L' hL' => ?_)
      repeat (first | refine And.intro (by kernel_rfl) ?_ | refine And.intro (by decide) ?_)
      exact ⟨⟨_, L'⟩, ⟨⟨h', hen2 _ hL'⟩, hm⟩, isAt.go [(7, .to 9)] ⟨rfl, congrArg (int .i64) wi, trivial⟩ ⟨.inl rfl, trivial⟩⟩
  · have hq : i = 6 := by
      have h2 : ¬ (i : Int) < 6 := h
      clear h
      omega
    clear h
    subst hq
    have hck := chk_lt L
    have wck : IntKind.u64.wrap ((chk L : Nat) : Int) = ((chk L : Nat) : Int) := wrapU64_in (by omega) (by omega)
    have hchk := check_fc L L.length (Nat.le_refl _) (by omega)
    rw [List.take_length] at hchk
    generalize hz : chk L = z at hchk wck
    repeat refine AJoin.plain ?_
    refine FC.u hchk [7] ?_
    conv => whnf
    rw [wck]
    refine FC.x (put_x L z 4 L.length rfl (by omega) (by omega)) [7] (fun L' hL' => ?_)
    repeat (first | refine And.intro (by kernel_rfl) ?_ | refine And.intro (by decide) ?_)
    exact ⟨(L', 0), hen _ (by rw [hL', ← hz, encL, ← hL]), isEnd.go [(0, .to 9)] rfl ⟨.inl rfl, trivial⟩⟩
set_option maxHeartbeats 3200000 in
set_option maxRecDepth 10000 in
theorem encode18_fc (r : Rcd) : ∃ d : List Nat × Int, FC Try.prog 68 [.o (.a (rcC r))] [] (encS d) (encM d) ∧ d = encF r := by
  refine FC.rj mix Try.func68 ?_
  obtain ⟨b, hfc, hbi⟩ := refValid_fc r
  repeat (first | refine And.intro (by kernel_rfl) ?_ | refine And.intro (by decide) ?_)
  refine FC.u hfc [] ?_
  refine bselNot (bsel_intro (fun h => ?_) (fun h => ?_))
  rotate_left
  · repeat (first | refine And.intro (by kernel_rfl) ?_ | refine And.intro (by decide) ?_)
    exact ⟨([], 1), by rw [encF, if_neg (fun hh => by rw [hbi.2 hh] at h; cases h)], isEnd.go [(0, .new 1)] rfl ⟨newI 1 rfl, trivial⟩⟩
  have ok := hbi.1 h
  have hF : encF r = (encL r (wordS r.st) r.st.chips.toNat, 0) := by rw [encF, if_pos ok]
  rw [hF]
  clear hF hbi h hfc
  obtain ⟨s, hs⟩ : ∃ s : Nat, r.seq = s := ⟨r.seq.toNat, by have := ok.seq; omega⟩
  obtain ⟨t, ht⟩ : ∃ s : Nat, r.time = s := ⟨r.time.toNat, by have := ok.time; omega⟩
  obtain ⟨k, hk⟩ : ∃ s : Nat, r.bank = s := ⟨r.bank.toNat, by have := ok.bank; omega⟩
  have ws : IntKind.u64.wrap r.seq = (s : Int) := by have := ok.seq; rw [hs] at this ⊢; exact wrapU64_in (by omega) (by omega)
  have wt : IntKind.u64.wrap r.time = (t : Int) := by have := ok.time; rw [ht] at this ⊢; exact wrapU64_in (by omega) (by omega)
  have wk : IntKind.u64.wrap r.bank = (k : Int) := by have := ok.bank; rw [hk] at this ⊢; exact wrapU64_in (by omega) (by omega)
  repeat refine AJoin.plain ?_
  refine FC.x (packR_n ok.st.1) [] (fun p hp => ?_)
  repeat (first | refine And.intro (by kernel_rfl) ?_ | refine And.intro (by decide) ?_)
  conv => whnf
  rw [ws]
  refine FC.x (put18_x headL s 8 4 rfl (by decide) (by omega)) [1] (fun L1 h1 => ?_)
  repeat (first | refine And.intro (by kernel_rfl) ?_ | refine And.intro (by decide) ?_)
  conv => whnf
  rw [wt]
  have n1 : L1.length = 12 := by rw [h1, List.length_append, be_len]; rfl
  refine FC.x (put18_x L1 t 8 L1.length rfl (by omega) (by omega)) [2] (fun L2 h2 => ?_)
  have n2 : L2.length = 20 := by rw [h2, List.length_append, be_len, n1]
  repeat (first | refine And.intro (by kernel_rfl) ?_ | refine And.intro (by decide) ?_)
  conv => whnf
  rw [wk]
  refine FC.x (put18_x L2 k 1 L2.length rfl (by omega) (by omega)) [3] (fun L3 h3 => ?_)
  have n3 : L3.length = 21 := by rw [h3, List.length_append, be_len, n2]
  repeat (first | refine And.intro (by kernel_rfl) ?_ | refine And.intro (by decide) ?_)
  refine FC.x (put18_x L3 p.1 8 L3.length rfl (by omega) (by omega)) [4] (fun L4 h4 => ?_)
  have n4 : L4.length = 29 := by rw [h4, List.length_append, be_len, n3]
  repeat (first | refine And.intro (by kernel_rfl) ?_ | refine And.intro (by decide) ?_)
  refine FC.x (put18_x L4 p.2 8 L4.length rfl (by omega) (by omega)) [5] (fun L5 h5 => ?_)
  have n5 : L5.length = 37 := by rw [h5, List.length_append, be_len, n4]
  have h50 : L5 = encP r (wordS r.st) r.st.chips.toNat 0 := by rw [h5, h4, h3, h2, h1, hp, encP, hs, ht, hk, be_1]; rfl
  clear h1 h2 h3 h4 h5 hp
  obtain ⟨w, hw⟩ : ∃ w, wordS r.st = w := ⟨_, rfl⟩
  obtain ⟨c, hc⟩ : ∃ c, r.st.chips.toNat = c := ⟨_, rfl⟩
  rw [hw, hc] at h50
  have hen : ∀ d : List Nat × Int, d = (encL r w c, 0) → d = (encL r (wordS r.st) r.st.chips.toNat, 0) := fun d h => by rw [hw, hc]; exact h
  clear hw hc
  repeat (first | refine And.intro (by kernel_rfl) ?_ | refine And.intro (by decide) ?_)
  refine FC.u (numR_fc r.pl) [] ?_
  repeat (first | refine And.intro (by kernel_rfl) ?_ | refine And.intro (by decide) ?_)
  refine ALoop.goN (X := EnX) (fun x => x.i ≤ 6 ∧ x.L = encP r w c x.i) (fun x => 6 - x.i) [8] [7] (fun x => [(7, .o (.c (.s 6 0 x.L.length 1))), (9, int .i64 x.i)]) (fun x => [(6, ⟨.ints .u8 (zl x.L), true⟩)]) ⟨0, L5⟩ 8
    ⟨Nat.zero_le _, h50⟩ (isAt.go [] ⟨rfl, rfl, trivial⟩ ⟨.inl rfl, trivial⟩) ?_
  clear h50 n5 n4 n3 n2 n1 ws wt wk
  rintro ⟨i, L⟩ ⟨hi, hL⟩
  simp only at hi hL
  have nL : L.length = 37 + 2 * i := by rw [hL, encP_len]
  have bL : By L := by rw [hL]; exact encP_by r w c i
  dsimp only [headF, headM]
  refine bselD (fun h => ?_) (fun h => ?_)
  · have h' : i < 6 := by
      have h2 : (i : Int) < 6 := h
      clear h
      omega
    have wi : IntKind.i64.wrap ((i : Int) + 1) = ((i + 1 : Nat) : Int) := wrap64_in (by omega) (by omega)
    have hp := ok.pl i h'
    have wg : IntKind.u64.wrap (r.pl.get i) = (((r.pl.get i).toNat : Nat) : Int) := by rw [Int.toNat_of_nonneg hp.1]; exact wrapU64_in (by omega) (by omega)
    have hput := put18_x L (r.pl.get i).toNat 2 L.length rfl (by omega) (by omega)
    have hen2 : ∀ L', L' = L ++ be 2 (r.pl.get i).toNat → L' = encP r w c (i + 1) := fun L' h => by rw [h, hL, encP]
    generalize hz : (r.pl.get i).toNat = z at wg hput hen2
    have hm : 6 - (i + 1) < 6 - i := by omega
    clear hL bL nL hp
    repeat refine AJoin.plain ?_
    rcases lt6 h' with rfl | rfl | rfl | rfl | rfl | rfl <;>
    · simp only [Pl.get] at wg
      repeat (first | refine And.intro (by kernel_rfl) ?_ | refine And.intro (by decide) ?_)
      conv => whnf
      rw [wg]
      refine FC.x hput [6] (fun L' hL' => ?_)
      repeat (first | refine And.intro (by kernel_rfl) ?_ | refine And.intro (by decide) ?_)
      exact ⟨⟨_, L'⟩, ⟨⟨h', hen2 _ hL'⟩, hm⟩, isAt.go [(6, .to 8)] ⟨rfl, congrArg (int .i64) wi, trivial⟩ ⟨.inl rfl, trivial⟩⟩
  · have hq : i = 6 := by
      have h2 : ¬ (i : Int) < 6 := h
      clear h
      omega
    clear h
    subst hq
    have hck := chk_lt L
    have wck : IntKind.u64.wrap ((chk L : Nat) : Int) = ((chk L : Nat) : Int) := wrapU64_in (by omega) (by omega)
    have hchk := check18_fc L L.length (Nat.le_refl _) (by omega) bL
    rw [List.take_length] at hchk
    generalize hz : chk L = z at hchk wck
    repeat refine AJoin.plain ?_
    refine FC.u hchk [6] ?_
    conv => whnf
    rw [wck]
    refine FC.x (put18_x L z 4 L.length rfl (by omega) (by omega)) [6] (fun L' hL' => ?_)
    repeat (first | refine And.intro (by kernel_rfl) ?_ | refine And.intro (by decide) ?_)
    exact ⟨(L', 0), hen _ (by rw [hL', ← hz, encL, ← hL]), isEnd.go [(0, .to 8)] rfl ⟨.inl rfl, trivial⟩⟩
end Go.Sx.T1
namespace Go.Sx.T1
open Go.Proofs Go.Sx.Crc
/-! a record is read back -/
theorem gP_at {l p q r : List Nat} {a n : Nat} (hl : l = p ++ (q ++ r)) (ha : p.length = a) (hn : q.length = n) : gP l a n = getN q := by
  subst hl ha hn
  unfold gP
  rw [List.drop_left, List.take_left]
theorem getN_lt_be {n v : Nat} (h : v < 2 ^ (8 * n)) : getN (be n v) = v := by rw [getN_be, Nat.mod_eq_of_lt h]
theorem headL_len : headL.length = 4 := rfl
theorem wordS_lt {s : Stt} (hs : s.Fits) : wordS s < 18446744073709551616 := (wordS_read s hs).2.2.2.2.2.2
theorem encL_len (r : Rcd) (w c : Nat) : (encL r w c).length = 53 := by rw [encL, List.length_append, encP_len, be_len]
theorem encL_by (r : Rcd) (w c : Nat) : By (encL r w c) := (encP_by r w c 6).app (be_byte _ _)
theorem un_word {s : Stt} (h : validS s = true) : unA ((wordS s : Nat) : Int) ((s.chips.toNat : Nat) : Int) = s ∧ unE ((wordS s : Nat) : Int) ((s.chips.toNat : Nat) : Int) = 0 := by
  have hf := validS_fits h
  have hc : ((s.chips.toNat : Nat) : Int) = s.chips := Int.toNat_of_nonneg (chips_bd h).1
  have hu := uR_word s hf
  rw [hc]
  have ho : okU ((wordS s : Nat) : Int) s.chips = true := by
    unfold okU
    rw [hu, h]
    simp
  unfold unA unE
  rw [ho, hu]
  exact ⟨rfl, rfl⟩
theorem dec_enc {r : Rcd} (ok : RcOk r) (more : List Nat) : decF (encL r (wordS r.st) r.st.chips.toNat ++ more) = (r, 0) := by
  have hw := wordS_lt (validS_fits ok.st.1)
  have hc := chips_bd ok.st.1
  obtain ⟨u1, u2⟩ := un_word ok.st.1
  have hs := ok.seq
  have ht := ok.time
  have hb := ok.bank
  generalize wordS r.st = w at hw u1 u2
  generalize hcc : r.st.chips.toNat = c at u1 u2
  have hc' : c < 18446744073709551616 := by omega
  obtain ⟨l, hl⟩ : ∃ l, l = encL r w c ++ more := ⟨_, rfl⟩
  rw [← hl]
  have len : l.length = 53 + more.length := by rw [hl, List.length_append, encL_len]
  have t49 : l.take 49 = encP r w c 6 := by
    rw [hl, encL, List.append_assoc]
    have := encP_len r w c 6
    rw [show (49 : Nat) = (encP r w c 6).length by omega]
    exact List.take_left
  have key : ∀ (p q x : List Nat) (a n v : Nat), l = p ++ (q ++ x) → p.length = a → q = be n v → v < 2 ^ (8 * n) → gP l a n = v := fun p q x a n v h1 h2 h3 h4 => by
    rw [gP_at h1 h2 (by rw [h3, be_len]), h3, getN_lt_be h4]
  have g49 := key (encP r w c 6) (be 4 (chk (encP r w c 6))) more 49 4 _ (by rw [hl, encL, List.append_assoc]) (encP_len r w c 6) rfl (chk_lt _)
  rw [← t49] at g49
  have hp := ok.pl
  have p0 := hp 0 (by omega)
  have p1 := hp 1 (by omega)
  have p2 := hp 2 (by omega)
  have p3 := hp 3 (by omega)
  have p4 := hp 4 (by omega)
  have p5 := hp 5 (by omega)
  unfold encL at hl
  generalize chk (encP r w c 6) = z at hl
  have a0 := key headL _ _ 4 8 r.seq.toNat (by rw [hl]; simp only [encP, List.append_assoc]; rfl) rfl rfl (by show r.seq.toNat < 18446744073709551616; omega)
  have a1 := key (headL ++ be 8 r.seq.toNat) _ _ 12 8 r.time.toNat (by rw [hl]; simp only [encP, List.append_assoc]; rfl) (by simp [be_len, headL]) rfl (by show r.time.toNat < 18446744073709551616; omega)
  have a2 := key (headL ++ be 8 r.seq.toNat ++ be 8 r.time.toNat) _ _ 20 1 r.bank.toNat (by rw [hl]; simp only [encP, List.append_assoc]; rfl) (by simp [be_len, headL]) (be_1 _).symm (by show r.bank.toNat < 256; omega)
  have a3 := key (headL ++ be 8 r.seq.toNat ++ be 8 r.time.toNat ++ [r.bank.toNat % 256]) _ _ 21 8 w (by rw [hl]; simp only [encP, List.append_assoc]; rfl) (by simp [be_len, headL]) rfl hw
  have a4 := key (headL ++ be 8 r.seq.toNat ++ be 8 r.time.toNat ++ [r.bank.toNat % 256] ++ be 8 w) _ _ 29 8 c (by rw [hl]; simp only [encP, List.append_assoc]; rfl) (by simp [be_len, headL]) rfl hc'
  have b0 := key (encP r w c 0) _ _ 37 2 (r.pl.get 0).toNat (by rw [hl]; simp only [encP, List.append_assoc]; rfl) (encP_len _ _ _ 0) rfl (by show (r.pl.get 0).toNat < 65536; omega)
  have b1 := key (encP r w c 1) _ _ 39 2 (r.pl.get 1).toNat (by rw [hl]; simp only [encP, List.append_assoc]; rfl) (encP_len _ _ _ 1) rfl (by show (r.pl.get 1).toNat < 65536; omega)
  have b2 := key (encP r w c 2) _ _ 41 2 (r.pl.get 2).toNat (by rw [hl]; simp only [encP, List.append_assoc]; rfl) (encP_len _ _ _ 2) rfl (by show (r.pl.get 2).toNat < 65536; omega)
  have b3 := key (encP r w c 3) _ _ 43 2 (r.pl.get 3).toNat (by rw [hl]; simp only [encP, List.append_assoc]; rfl) (encP_len _ _ _ 3) rfl (by show (r.pl.get 3).toNat < 65536; omega)
  have b4 := key (encP r w c 4) _ _ 45 2 (r.pl.get 4).toNat (by rw [hl]; simp only [encP, List.append_assoc]; rfl) (encP_len _ _ _ 4) rfl (by show (r.pl.get 4).toNat < 65536; omega)
  have b5 := key (encP r w c 5) _ _ 47 2 (r.pl.get 5).toNat (by rw [hl]; simp only [encP, List.append_assoc]; rfl) (encP_len _ _ _ 5) rfl (by show (r.pl.get 5).toNat < 65536; omega)
  have h4 : l.take 4 = headL := by
    rw [hl]
    simp only [encP, List.append_assoc]
    rfl
  have hr : rcG l r.st ((r.seq.toNat : Nat) : Int) ((r.time.toNat : Nat) : Int) = r := by
    have hpl : plP l 6 = r.pl := by
      unfold plP
      simp only [show 37 + 2 * 0 = 37 from rfl, show 37 + 2 * 1 = 39 from rfl, show 37 + 2 * 2 = 41 from rfl, show 37 + 2 * 3 = 43 from rfl, show 37 + 2 * 4 = 45 from rfl, show 37 + 2 * 5 = 47 from rfl, b0, b1, b2, b3, b4, b5]
      rw [Int.toNat_of_nonneg p0.1, Int.toNat_of_nonneg p1.1, Int.toNat_of_nonneg p2.1, Int.toNat_of_nonneg p3.1, Int.toNat_of_nonneg p4.1, Int.toNat_of_nonneg p5.1]
      rfl
    unfold rcG
    rw [hpl, a2, Int.toNat_of_nonneg (by omega), Int.toNat_of_nonneg (by omega), Int.toNat_of_nonneg (by omega)]
  rw [decF, if_neg (by omega), if_neg (by simp [h4]), if_neg (by simp [g49]), a3, a4, a0, a1, u1, u2, hr, if_neg (by simp [ok])]
end Go.Sx.T1
namespace Go.Sx.T1
open Go.Proofs
set_option maxRecDepth 10000 in
/-- two lists of bytes are compared -/
theorem same4_fc (xs ys : List Int) (n m : Nat) (hn : n ≤ xs.length) (hm : m ≤ ys.length) (h32 : n ≤ 4294967296) :
    FC Try.prog 72 [.o (.c (.s 0 0 n 1)), .o (.c (.s 1 0 m 1))] [u8s xs false, u8s ys false] (boo (decide (xs.take n = ys.take m))) [u8s xs false, u8s ys false] := by
  refine FC.one (FC.r mix Try.func72 ?_)
  refine bselN (fun hne => ?_) (fun he => ?_)
  · have : xs.take n ≠ ys.take m := fun e => hne (by have := congrArg List.length e; rw [List.length_take, List.length_take] at this; omega)
    exact ⟨(), trivial, .id (congrArg boo (by simp [this])) ⟨.inl rfl, .inl rfl, trivial⟩⟩
  have hnm : n = m := by omega
  subst hnm
  refine ALoop.go (X := Nat) (fun i => i ≤ n ∧ ∀ j, j < i → xs.getD j 0 = ys.getD j 0) (fun i => n - i) [0, 1] [0, 1] (fun i => [(5, int .i64 i)]) (fun _ => []) 0 ⟨Nat.zero_le _, fun j h => absurd h (Nat.not_lt_zero _)⟩ ⟨rfl, trivial⟩ trivial ?_
  rintro i ⟨hi, heq⟩
  dsimp only [headF, headM]
  refine bselD (fun hlt => ?_) (fun hge => ?_)
  · have hlt' : i < n := by have : (i : Int) < n := hlt; omega
    have hb1 : 0 ≤ (i : Int) ∧ (i : Int) < (n : Int) := by omega
    refine And.intro hb1 ?_
    refine And.intro (by omega) ?_
    refine And.intro hb1 ?_
    refine And.intro (by omega) ?_
    refine And.intro (by kernel_rfl) ?_
    have e0 : 0 + (i : Int).toNat = i := by omega
    refine bselN (fun hne => ?_) (fun he => ?_)
    · rw [e0] at hne
      have : xs.take n ≠ ys.take n := fun e => hne (by
        have := congrArg (fun l => l.getD i 0) e
        simpa [List.getD, List.getElem?_take_of_lt hlt'] using this)
      exact ⟨(), trivial, .id (congrArg boo (by simp [this])) ⟨.inl rfl, .inl rfl, trivial⟩⟩
    · rw [e0] at he
      exact ⟨i + 1, ⟨⟨by omega, fun j hj => by
        rcases Nat.lt_succ_iff_lt_or_eq.1 hj with h | h
        · exact heq j h
        · subst h; exact he⟩, by simp only; omega⟩, .id ⟨congrArg (int .i64) (wrap64_in (by omega) (by omega)), trivial⟩ rfl trivial rfl⟩
  · have hin : i = n := by have : ¬ (i : Int) < n := hge; omega
    subst hin
    refine ⟨(), trivial, .id (congrArg boo (?_ : true = decide (xs.take i = ys.take i))) ⟨.inl rfl, .inl rfl, trivial⟩⟩
    symm
    rw [decide_eq_true_eq]
    apply List.ext_getElem?
    intro j
    by_cases hj : j < i
    · rw [List.getElem?_take_of_lt hj, List.getElem?_take_of_lt hj]
      have := heq j hj
      rw [List.getD_eq_getElem?_getD, List.getD_eq_getElem?_getD, List.getElem?_eq_getElem (by omega), List.getElem?_eq_getElem (by omega)] at this
      rw [List.getElem?_eq_getElem (by omega), List.getElem?_eq_getElem (by omega)]
      exact congrArg some this
    · rw [List.getElem?_eq_none (by rw [List.length_take]; omega), List.getElem?_eq_none (by rw [List.length_take]; omega)]
end Go.Sx.T1

namespace Go.Sx.T1
open Go.Proofs Go.Sx.Crc
/-! awake, agree -/
theorem chk_0 : chk [] = 4294967295 := by kernel_rfl
theorem chk_1 : chk [0] = 1309196212 := by kernel_rfl
theorem check_x (l : List Nat) (n : Nat) (hn : n ≤ l.length) (hl : n ≤ 100000) : ∃ v : Int, FC Try.prog 65 [.o (.c (.s 0 0 n 1))] [u8n l false] (int .i64 v) [u8n l false] ∧ v = ((chk (l.take n) : Nat) : Int) := ⟨_, check_fc l n hn hl, rfl⟩
theorem check18_x (l : List Nat) (n : Nat) (hn : n ≤ l.length) (hl : n ≤ 100000) (hb : By l) : ∃ v : Int, FC Try.prog 83 [.o (.c (.s 0 0 n 1))] [u8n l false] (int .i64 v) [u8n l false] ∧ v = ((chk (l.take n) : Nat) : Int) := ⟨_, check18_fc l n hn hl hb, rfl⟩
def rA : Rcd := ⟨1, 0, 0, ⟨true, false, 2, 0, 0, 0, 0⟩, ⟨0, 0, 0, 0, 0, 0⟩⟩
theorem rA_ok : RcOk rA := ⟨fun j hj => by rcases lt6 hj with rfl | rfl | rfl | rfl | rfl | rfl <;> (simp only [Pl.get, rA]; omega), by simp only [rA]; omega, by simp only [rA]; omega, by simp only [rA]; omega, by constructor <;> rfl⟩
theorem encF_ok {r : Rcd} (ok : RcOk r) : encF r = (encL r (wordS r.st) r.st.chips.toNat, 0) := by rw [encF, if_pos ok]
/-- what Encode gives of a record that is valid -/
theorem encode_ok {r : Rcd} (ok : RcOk r) : ∃ L : List Nat, FC Try.prog 38 [.o (.a (rcC r))] [] (.t [.c (.s 0 0 53 1), .c (.v (.int .i64 0))]) [u8n L true] ∧ (L.length = 53 ∧ By L ∧ L = encL r (wordS r.st) r.st.chips.toNat ∧ ∀ more, decF (L ++ more) = (r, 0)) := by
  obtain ⟨d, f, e⟩ := encode_fc r
  rw [encF_ok ok] at e
  subst e
  have n := encL_len r (wordS r.st) r.st.chips.toNat
  refine ⟨_, ?_, n, encL_by _ _ _, rfl, fun more => dec_enc ok more⟩
  unfold encS encM at f
  simp only [n] at f
  exact f
theorem decode_n (l : List Nat) (n : Nat) (hn : l.length = n) (hl : l.length ≤ 100000) (hb : By l) (d : Rcd × Int) (hd : decF l = d) : FC Try.prog 75 [.o (.c (.s 0 0 n 1))] [u8n l false] (rcE d) [u8n l false] := by
  subst hn
  obtain ⟨d', f, e⟩ := decode_fc l hl hb
  rw [hd] at e
  subst e
  exact f
end Go.Sx.T1
namespace Go.Sx.T1
open Go.Proofs Go.Sx.Crc
/-! the records at the front of bytes -/
noncomputable def scanN : Nat → List Nat → Int → List Rcd
  | 0, _, _ => []
  | n + 1, l, q => open Classical in if (decF l).2 ≠ 0 ∨ (decF l).1.seq ≤ q then [] else (decF l).1 :: scanN n (l.drop 53) (decF l).1.seq
theorem decF_short {l : List Nat} (h : (decF l).2 = 0) : 53 ≤ l.length := by
  rcases Nat.lt_or_ge l.length 53 with h1 | h1
  · rw [decF, if_pos h1] at h
    cases h
  · exact h1
theorem zl_dropS (l : List Nat) (n : Nat) : (zl l).drop n = zl (l.drop n) := by simp [zl, List.map_drop]
theorem dec_at (l : List Nat) (off : Nat) (hl : l.length ≤ 100000) (hb : By l) (d : Rcd × Int) (hd : d = decF (l.drop off)) : FC Try.prog 75 [.o (.c (.s 0 off (l.length - off) 1))] [u8n l false] (rcE d) [u8n l false] := by
  have h := decode_n (l.drop off) (l.length - off) (by rw [List.length_drop]) (by rw [List.length_drop]; omega) (hb.drop off) d hd.symm
  unfold u8n at h ⊢
  rw [← zl_dropS] at h
  exact FC.shift rfl rfl h
theorem cutAt {α : Type} (l : List α) (i : Nat) (y : α) (h : l[i]? = some y) : l = l.take i ++ y :: l.drop (i + 1) := by
  obtain ⟨hi, e⟩ := List.getElem?_eq_some_iff.1 h
  rw [← e, List.getElem_cons_drop, List.take_append_drop]
/-- the first range over a function in a code -/
def rgOf : Code → Option (Code × Code)
  | .seq a b => (match rgOf a with | some x => some x | none => rgOf b)
  | .block _ b => rgOf b
  | .loop b => rgOf b
  | .rangeFunc _ _ a b => some (a, b)
  | _ => none
theorem rowR2 {p : Rcd} (l : List Rcd) (j : Nat) (hj : j < l.length + 1) :
    (if j < l.length then rcC (l.getD (0 + j) zR) else ((rcC p).drop ((0 + (j - l.length)) * 16)).take 16) = rcC ((l ++ [p]).getD j zR) := by
  by_cases h : j < l.length
  · rw [if_pos h, Nat.zero_add]
    simp [List.getD, List.getElem?_append_left h]
  · rw [if_neg h]
    obtain rfl : j = l.length := by omega
    rw [Nat.sub_self]
    simp [rcC, List.getD]
def recFr : List SV := mkFr 0 13 [(3, .o (.c (.p 1 0 0)))]
structure SX where
  off : Nat
  q : Int
  out : List Rcd
def aM0 (l : List Nat) : Mem := [u8n l false, some ⟨.box [.v (.slice none 0 0)], true⟩, some ⟨.box [.s 0 0 l.length 1], true⟩]
def aCh (L : Nat) (x : SX) : List (Nat × SV) := [(0, .o (.c (.v (yv L)))), (1, .o (.c (.p 2 0 0))), (3, int .i64 x.q)]
def aCm (l : List Nat) (x : SX) : List (Nat × Blk) := [(1, ⟨.box [.s 3 0 x.out.length 16], true⟩), (2, ⟨.box [.s 0 x.off (l.length - x.off) 1], true⟩), (3, ⟨.rows 16 x.out.length (fun i => rcC (x.out.getD i zR)), true⟩)]
def aFr (L : Nat) : List SV := .o (.c (.v (yv L))) :: .o (.c (.p 2 0 0)) :: undefs 27
set_option maxHeartbeats 3200000 in
set_option maxRecDepth 10000 in
theorem all1 (l : List Nat) (hl : l.length ≤ 100000) (hb : By l) {W : World} {A : Nat → Prop} {β0 : Bet} {L D : Nat} {rec : Loop} (hrec : rec.state = .ready) (hpen : rec.pending = none) (hps : rec.params = #[7]) (hrg : Try.f32.body.bind rgOf = some (rec.assign, rec.body))
    (hWL : W.heap[L]? = some (.loop rec)) (hWD : W.heap[D]? = some (.deferred (some []))) (hAL : ¬ A L) (hAD : ¬ A D) (hLD : D ≠ L) (hrF : ∀ β, Keep 3 β0 β → Fr β rec.tmps recFr) (h0 : ∀ n, n < 3 → β0 n ≠ none) {c : Code} (hc : Try.f74.body = some c) :
    Wk Try.prog W A 29 3 β0 [] c (aFr L) (aM0 l) fun e fr' M' => e = .ret ∧ ∃ x : SX, x.out = scanN l.length l 0 ∧ isAt 3 4 (aFr L) (aM0 l) [] [0] (aCh L) (aCm l) fr' M' x := by
  unfold Try.f74 at hc
  simp only [Option.some.injEq] at hc
  subst hc
  refine Wk.seq (Wk.of (J := true) mix h0 ?_)
  refine Wk.block ?_
  refine Wk.loop (X := SX) (fun x => (x.off ≤ l.length ∧ x.out.length ≤ x.off) ∧ ∃ n, l.length ≤ x.off + n ∧ scanN l.length l 0 = x.out ++ scanN n (l.drop x.off) x.q) (fun x => l.length - x.off)
    (fun x => aCh L x ++ keepL (aFr L) []) (fun x => headM 4 (aM0 l) [0] (aCm l) x) (fun x fr' M' => isAt 3 4 (aFr L) (aM0 l) [] [0] (aCh L) (aCm l) fr' M' x) ⟨0, 0, []⟩
    ⟨⟨Nat.zero_le _, Nat.le_refl _⟩, l.length, by simp, by simp⟩ (isAt.go [(3, .new 16)] ⟨rfl, rfl, rfl, trivial⟩ ⟨.inl rfl, .inl rfl, ⟨.inr ⟨rfl, Nat.le_of_ble_eq_true rfl, fun _ h => absurd h (Nat.not_lt_zero _)⟩, rfl⟩, trivial⟩)
    (fun x fr' M' h => h.fit ⟨Nat.le_of_ble_eq_true rfl, rfl, by repeat' (first | exact trivial | exact rfl | exact fun _ _ => rfl | refine ⟨?_, ?_⟩)⟩) ?_
  rintro ⟨off, q, out⟩ ⟨⟨ho, hol⟩, n, hn, htot⟩
  simp only at ho hol hn htot
  refine Wk.block ?_
  refine Wk.seq (Wk.of (J := true) mix h0 ?_)
  dsimp only [headF, headM]
  obtain ⟨d, hd⟩ : ∃ d, d = decF (l.drop off) := ⟨_, rfl⟩
  refine FC.u (dec_at l off hl hb d hd) [0] ?_
  obtain ⟨r, e⟩ := d
  repeat (first | refine And.intro (by kernel_rfl) ?_ | refine And.intro (by decide) ?_)
  by_cases he : e = 0
  rotate_left
  · refine Wk.seq (Wk.of (J := true) mix h0 ?_)
    refine bselN (fun _ => ?_) (fun h => absurd h he)
    have hout : out = scanN l.length l 0 := by
      rw [htot]
      cases n with
      | zero => rw [scanN, List.append_nil]
      | succ n => rw [scanN, if_pos (.inl (by rw [← hd]; exact he)), List.append_nil]
    repeat (first | refine And.intro (by kernel_rfl) ?_ | refine And.intro (by decide) ?_)
    exact ⟨⟨off, q, out⟩, hout, .id ⟨rfl, rfl, rfl, trivial⟩ rfl ⟨.inl rfl, .inl rfl, .inl rfl, trivial⟩ rfl⟩
  by_cases hq : r.seq ≤ q
  · refine Wk.seq (Wk.of (J := true) mix h0 ?_)
    refine bselN (fun h => absurd he h) (fun _ => ?_)
    refine bselD (fun _ => ?_) (fun h => absurd hq h)
    have hout : out = scanN l.length l 0 := by
      rw [htot]
      cases n with
      | zero => rw [scanN, List.append_nil]
      | succ n => rw [scanN, if_pos (.inr (by rw [← hd]; exact hq)), List.append_nil]
    repeat (first | refine And.intro (by kernel_rfl) ?_ | refine And.intro (by decide) ?_)
    exact ⟨⟨off, q, out⟩, hout, .id ⟨rfl, rfl, rfl, trivial⟩ rfl ⟨.inl rfl, .inl rfl, .inl rfl, trivial⟩ rfl⟩
  subst he
  have h53 : 53 ≤ l.length - off := by
    have := decF_short (l := l.drop off) (by rw [← hd])
    rwa [List.length_drop] at this
  conv at hrg => lhs; whnf
  simp only [Option.some.injEq, Prod.mk.injEq] at hrg
  obtain ⟨has, hbo⟩ := hrg
  refine Wk.seq (Wk.seq ?_)
  refine Wk.yield (L := L) (D := D) (rec := rec) (recfr := recFr) (cutAt _ 11 _ rfl) rfl rfl rfl rfl ?n3 ?n4 hrec hpen hps has.symm hbo.symm hWL hWD hAL hAD hLD h0 hrF ?_
  case n3 => rfl
  case n4 => rfl
  refine bselD (fun h => absurd h hq) (fun _ => ?_)
  repeat (first | refine And.intro (by kernel_rfl) ?_ | refine And.intro (by decide) ?_)
  refine And.intro ⟨by show 0 + out.length ≤ out.length; omega, fun _ _ => rfl⟩ ?_
  refine And.intro ⟨Nat.le_of_ble_eq_true rfl, fun q hq => by have hq' : q < 1 := hq; obtain rfl : q = 0 := (by omega); rfl⟩ ?_
  refine And.intro (by show out.length + 1 ≤ 4294967296; omega) ?_
  repeat (first | refine And.intro (by kernel_rfl) ?_ | refine And.intro (by decide) ?_)
  refine And.intro (Nat.le_of_ble_eq_true rfl) ?_
  refine Wk.of (J := true) mix h0 ?_
  repeat (first | refine And.intro (by kernel_rfl) ?_ | refine And.intro (by decide) ?_)
  refine Wk.of (J := true) mix h0 ?_
  refine And.intro ⟨by omega, by show (53 : Int) ≤ ((l.length - off : Nat) : Int); omega⟩ ?_
  have htot' : ∃ n', l.length ≤ off + 53 + n' ∧ scanN l.length l 0 = (out ++ [r]) ++ scanN n' (l.drop (off + 53)) r.seq := by
    cases n with
    | zero => omega
    | succ n =>
      refine ⟨n, by omega, ?_⟩
      rw [htot, scanN, if_neg (by rw [← hd]; exact fun h => h.elim (fun h => h rfl) hq), ← hd, List.drop_drop, List.append_assoc]
      rfl
  have ecap : l.length - off - (53 : Int).toNat = l.length - (off + 53) := by have : (53 : Int).toNat = 53 := rfl; omega
  repeat (first | refine And.intro (by kernel_rfl) ?_ | refine And.intro (by decide) ?_)
  refine ⟨⟨off + 53, r.seq, out ++ [r]⟩, ⟨⟨⟨by show off + 53 ≤ l.length; omega, by show (out ++ [r]).length ≤ off + 53; rw [List.length_append]; have : [r].length = 1 := rfl; omega⟩, htot'⟩, by show l.length - (off + 53) < l.length - off; omega⟩,
    isAt.go [(3, .to 7)] ⟨rfl, rfl, rfl, trivial⟩ ⟨.inl (congrArg (fun n => some (⟨.box [.s 7 0 n 16], true⟩ : Blk)) (show out.length + 1 = (out ++ [r]).length by simp)), .inl (congrArg (fun n => some (⟨.box [.s 0 (off + 53) n 1], true⟩ : Blk)) ecap), leB.rows (by simp) (fun j hj => ?_) id, trivial⟩⟩
  have hj' : j < (out ++ [r]).length := hj
  exact rowR2 (p := r) out j (by simpa using hj')
set_option maxHeartbeats 3200000 in
set_option maxRecDepth 10000 in
theorem all_fc (l : List Nat) : FC Try.prog 56 [.o (.c (.s 0 0 l.length 1))] [u8n l false] (.o (.c (.f 74 [] [.p 1 0 0]))) [u8n l false, some ⟨.box [.s 0 0 l.length 1], true⟩] := by
  refine FC.one (FC.rj mix Try.func56 ?_)
  repeat (first | refine And.intro (by kernel_rfl) ?_ | refine And.intro (by decide) ?_)
  exact ⟨(), trivial, .id rfl ⟨.inl rfl, .inl rfl, trivial⟩⟩
theorem Wk.go {P : Program} {W : World} {A : Nat → Prop} {T k0 : Nat} {β0 : Bet} {ds : List Deferred} {x y : Code} {fr : List SV} {M : Mem} {Q : Exit → Act → World → Prop} {β : Bet} {a : Act} {w : World} (ab : Abs W A T k0 β0 ds fr M β a w)
    (h : Wk P W A T k0 β0 ds x fr M fun e fr' M' => e = .normal ∧ ∀ β' a' w', Abs W A T k0 β0 ds fr' M' β' a' w' → y.wp P Q a' w') : (Code.seq x y).wp P Q a w := by
  refine wp_seq (h β a w _ ab fun e fr' M' β' a' w' hk ab' => ?_)
  obtain ⟨rfl, hk⟩ := hk
  exact hk β' a' w' ab'
theorem rec_fr {β0 β : Bet} {tmps : Array Value} (hF : Fr β0 tmps recFr) (hk : β 1 = β0 1) : Fr β tmps recFr := by
  refine ⟨hF.len, fun t => ?_⟩
  by_cases h : t = 3
  · subst h
    obtain ⟨m, h1, h2⟩ := (show denC β0 (tmps.getD 3 undef) (.p 1 0 0) from hF.den 3)
    exact (show denC β (tmps.getD 3 undef) (.p 1 0 0) from ⟨m, by rw [hk]; exact h1, h2⟩)
  · have e : frGet recFr t = .o (.c .u) := by
      match t, h with
      | 0, _ | 1, _ | 2, _ | 4, _ | 5, _ | 6, _ | 7, _ | 8, _ | 9, _ | 10, _ | 11, _ | 12, _ => rfl
      | n + 13, _ => rfl
    rw [e]
    exact trivial
set_option maxHeartbeats 3200000 in
set_option maxRecDepth 10000 in
theorem scan_fc (l : List Nat) (hl : l.length ≤ 100000) (hb : By l) :
    FC Try.prog 32 [.o (.c (.s 0 0 l.length 1))] [u8n l false] (.o (.c (.s 3 0 (scanN l.length l 0).length 16))) [u8n l false, none, none, recs (scanN l.length l 0) true] := by
  refine ⟨by kernel_rfl, Nat.le_of_ble_eq_true rfl, rfl, ⟨trivial, (fun i hi => rfl), trivial⟩, fun β w vals hT hdef hSt hd => ?_⟩
  refine callsIn_wide.1 (callsIn_of_wp_marks (n := 1) Try.func32 rfl trivial ?_)
  refine (wpIn_wide (n := 1)).2 ?_
  have h01 : ∀ n, n < 1 → β n ≠ none := hdef
  have ab0 : Abs w (wrA β [u8n l false]) 13 1 β [] ([.o (.c (.s 0 0 l.length 1))] ++ undefs 12) [u8n l false] β { tmps := vals.toArray ++ Array.replicate (Try.f32.ntmps - vals.toArray.size) undef, defers := [] } w := ⟨rfl, fun _ _ => rfl, hSt, Fr.init rfl hd, hT, Nat.le_refl _, rfl⟩
  refine Wk.go ab0 (Wk.of (J := true) mix h01 ?_)
  repeat (first | refine And.intro (by kernel_rfl) ?_ | refine And.intro (by decide) ?_)
  refine fun β1 a1 w1 ab1 => Wk.go ab1 (Wk.of (J := true) mix h01 ?_)
  repeat (first | refine And.intro (by kernel_rfl) ?_ | refine And.intro (by decide) ?_)
  refine fun β2 a2 w2 ab2 => wp_seq (Wk.go ab2 (Wk.of (J := true) mix h01 ?_))
  refine FC.u (all_fc l) [0] ?_
  repeat (first | refine And.intro (by kernel_rfl) ?_ | refine And.intro (by decide) ?_)
  refine fun β3 a3 w3 ab3 => ?_
  have hg : ∃ v1, a3.eval (.tmp 6) = .func (.func 74) #[] #[v1] ∧ denC β3 v1 (.p 2 0 0) := by
    obtain ⟨fs, cs, h1, h2, h3⟩ := (show denC β3 (a3.tmps.getD 6 undef) (.f 74 [] [.p 2 0 0]) from ab3.fr.den 6)
    match fs, cs, h2, h3 with
    | [], [v1], _, ⟨h4, _⟩ => exact ⟨v1, h1, h4⟩
  obtain ⟨v1, hg, hv1⟩ := hg
  refine wp_block (range_step hg (by kernel_rfl) fun fn rec W1 hrec hW1 => ?_)
  obtain ⟨D, hDe⟩ : ∃ D, D = w3.heap.size := ⟨_, rfl⟩
  rw [← hDe] at hrec ⊢
  have hL1 : W1.heap[D + 1]? = some (.loop rec) := by
    rw [hW1, hDe]; have := World.alloc_heap_new (w3.alloc (.deferred (some []))) (.loop rec); rwa [World.size_alloc] at this
  have hK1 : W1.heap[D]? = some (.deferred (some [])) := by
    rw [hW1, hDe]; exact (Go.RowKit.Below.heap_alloc _ _ _ (by simp)).trans (World.alloc_heap_new w3 _)
  have hSt3 : St w (wrA β [u8n l false]) β3 (aM0 l) W1 := by rw [hW1]; exact (ab3.st.push _).push _
  have h03 : ∀ n, n < 3 → β3 n ≠ none := fun n hn => by
    have : ∃ k, Mem.get (aM0 l) n = some k := by
      match n, hn with
      | 0, _ => exact ⟨_, rfl⟩
      | 1, _ => exact ⟨_, rfl⟩
      | 2, _ => exact ⟨_, rfl⟩
    obtain ⟨k, hk⟩ := this
    obtain ⟨m, h1, _⟩ := hSt3.names n k hk
    rw [h1]; simp
  have hrF0 : Fr β3 a3.tmps recFr := ab3.fr.u rfl fun t => by
    by_cases h : t = 3
    · subst h; exact .inl rfl
    · refine .inr ?_
      match t, h with
      | 0, _ | 1, _ | 2, _ | 4, _ | 5, _ | 6, _ | 7, _ | 8, _ | 9, _ | 10, _ | 11, _ | 12, _ => rfl
      | n + 13, _ => rfl
  have hrt : rec.tmps = a3.tmps := by rw [hrec]
  refine calls_of_wp Try.func74 rfl ?_
  refine all1 l hl hb (W := W1) (A := wrA β3 (aM0 l)) (β0 := β3) (L := D + 1) (D := D) (rec := rec) (by rw [hrec]) (by rw [hrec]) (by rw [hrec]) (by rw [hrec]; rfl) hL1 hK1 (hSt3.notA hL1 (.inl ⟨_, rfl⟩)) (hSt3.notA hK1 (.inr ⟨_, rfl⟩)) (by omega)
    (fun β hk => rec_fr (by rw [hrt]; exact hrF0) (hk 1 (by omega))) h03 rfl β3 _ W1 _ ⟨rfl, fun _ _ => rfl, hSt3.rebase, Fr.init (vals := [yv (D + 1), v1]) (args0 := [.o (.c (.v (yv (D + 1)))), .o (.c (.p 2 0 0))]) rfl ⟨rfl, hv1, trivial⟩, ab3.top, Nat.le_refl _, rfl⟩ ?_
  rintro e fr4 M4 β4 a4 w4 ⟨rfl, x, hx, hat⟩ ab4
  obtain ⟨rn, hA⟩ := hat.fit ⟨Nat.le_of_ble_eq_true rfl, rfl, by repeat' (first | exact trivial | exact rfl | exact fun _ _ => rfl | refine ⟨?_, ?_⟩)⟩
  obtain ⟨β5, ab5⟩ := ab4.forget (fr2 := mkFr 0 29 (aCh (D + 1) x ++ keepL (aFr (D + 1)) [])) (M2 := headM 4 (aM0 l) [0] (aCm l) x) ⟨_, rn, hA, by rw [ab4.flen]⟩
  have hL4 : w4.heap[D + 1]? = some (.loop rec) := by
    rw [ab4.st.frame _ (Array.getElem?_eq_some_iff.1 hL1).1 (hSt3.notA hL1 (.inl ⟨_, rfl⟩))]; exact hL1
  have hK4 : w4.heap[D]? = some (.deferred (some [])) := by
    rw [ab4.st.frame _ (Array.getElem?_eq_some_iff.1 hK1).1 (hSt3.notA hK1 (.inr ⟨_, rfl⟩))]; exact hK1
  obtain ⟨l0, v0, hl0, _, hrun⟩ := results_sound (fn := Try.f74) (K := fun l => l = []) ab4.st ab4.fr rfl
  refine ⟨ab4.ds, v0, hrun, v0, rfl, rec, hL4, by rw [hrec]; simp, by rw [hrec], ?_⟩
  have hDw : w.heap.size ≤ D := by rw [hDe]; exact ab3.st.size
  have hSt5 : St w (wrA β [u8n l false]) β5 (headM 4 (aM0 l) [0] (aCm l) x) (w4.putObj (D + 1) (.loop { rec with state := .exhausted })) := (hSt3.join ab5.st).putO hL4 (.inl ⟨_, rfl⟩) (by omega)
  have hK5 : (w4.putObj (D + 1) (.loop { rec with state := .exhausted })).heap[D]? = some (.deferred (some [])) := (World.putObj_heap_other (by omega)).trans hK4
  have abR : Abs (w4.putObj (D + 1) (.loop { rec with state := .exhausted })) (wrA β5 (headM 4 (aM0 l) [0] (aCm l) x)) 13 1 β [{ target := .collected D, args := #[] }] recFr (headM 4 (aM0 l) [0] (aCm l) x) β5
      { a3 with defers := { target := .collected D, args := #[] } :: a3.defers } (w4.putObj (D + 1) (.loop { rec with state := .exhausted })) :=
    ⟨rfl, fun n hn => by
      have h0 : n < 3 := by omega
      rw [ab5.keep n h0]; exact ab3.keep n hn, hSt5.rebase, rec_fr hrF0 (ab5.keep 1 (by omega)), ab5.top, Nat.le_of_ble_eq_true rfl, by rw [ab3.ds]⟩
  refine Wk.go abR (Wk.of (J := true) mix h01 ?_)
  dsimp only [headM]
  repeat (first | refine And.intro (by kernel_rfl) ?_ | refine And.intro (by decide) ?_)
  refine fun β6 a6 w6 ab6 => wp_ret ?_
  have hK6 := hSt5.rob ab6.st hK5 (.inr ⟨_, rfl⟩)
  have hSt6 := hSt5.join ab6.st
  show LeavesInM Fence.wide 1 Try.prog Try.f32 a6.tmps _ a6.defers .returning w6
  rw [ab6.ds]
  refine ⟨by simp, .inl ⟨D, _, rfl, run_takeDeferred hK6, ?_⟩⟩
  have hSt7 := hSt6.putO (o' := .deferred none) hK6 (.inr ⟨_, rfl⟩) hDw
  obtain ⟨l7, v7, hl7, hd7, hrun7⟩ := results_sound (fn := Try.f32) (K := fun l => l = [.c (.s 3 0 x.out.length 16)]) hSt7 ab6.fr rfl
  subst hl7
  refine ⟨v7, hrun7, v7, β6, rfl, ab6.keep, ab6.top, ?_, by rw [← hx]; exact hd7⟩
  rw [← hx]
  refine ((hSt7.drop 1).drop 2).congr fun n => ?_
  match n with
  | 0 => rfl
  | 1 => rfl
  | 2 => rfl
  | 3 => rfl
  | n + 4 => rfl
end Go.Sx.T1
namespace Go.Sx.T1
open Go.Proofs Go.Sx.Crc
/-! ref20.read -/
theorem dec_rcok {l : List Nat} (h : (decF l).2 = 0) : RcOk (decF l).1 := by
  unfold decF at h ⊢
  split at h
  · cases h
  · split at h
    · cases h
    · split at h
      · cases h
      · split at h
        · cases h
        · rename_i h1 h2 h3 h4
          rw [if_neg h1, if_neg h2, if_neg h3, if_neg h4]
          exact Classical.not_not.1 fun hh => h4 (.inr hh)
theorem dec18_at (l : List Nat) (off : Nat) (hl : l.length ≤ 100000) (hb : By l) (d : Rcd × Int) (hd : d = decF (l.drop off)) : FC Try.prog 71 [.o (.c (.s 0 off (l.length - off) 1))] [u8n l false] (rcE d) [u8n l false] := by
  obtain ⟨d', h, e⟩ := decode18_fc (l.drop off) (by rw [List.length_drop]; omega) (hb.drop off)
  rw [← hd] at e
  subst e
  rw [List.length_drop] at h
  unfold u8n at h ⊢
  rw [← zl_dropS] at h
  exact FC.shift rfl rfl h
set_option maxHeartbeats 3200000 in
set_option maxRecDepth 10000 in
theorem read20_fc (l : List Nat) (hl : l.length ≤ 100000) (hb : By l) :
    FC Try.prog 49 [.o (.c (.s 0 0 l.length 1))] [u8n l false] (.o (.c (.s 1 0 (scanN l.length l 0).length 16))) [u8n l false, recs (scanN l.length l 0) true] := by
  refine FC.one (FC.rj mix Try.func49 ?_)
  repeat (first | refine And.intro (by kernel_rfl) ?_ | refine And.intro (by decide) ?_)
  refine ALoop.goN (X := SX) (fun x => ((x.off ≤ l.length ∧ x.out.length ≤ x.off) ∧ (x.out = [] → x.q = 0) ∧ (x.out ≠ [] → (x.out.getD (x.out.length - 1) zR).seq = x.q)) ∧ ∃ n, l.length ≤ x.off + n ∧ scanN l.length l 0 = x.out ++ scanN n (l.drop x.off) x.q)
    (fun x => l.length - x.off) [0] [0] (fun x => [(3, .o (.c (.s 1 0 x.out.length 16))), (4, int .i64 x.off)]) (fun x => [(1, ⟨.rows 16 x.out.length (fun i => rcC (x.out.getD i zR)), true⟩)]) ⟨0, 0, []⟩ 2
    ⟨⟨⟨Nat.zero_le _, Nat.le_refl _⟩, fun _ => rfl, fun h => absurd rfl h⟩, l.length, by simp, by simp⟩ (isAt.go [(1, .new 16)] ⟨rfl, rfl, trivial⟩ ⟨⟨.inr ⟨rfl, Nat.le_of_ble_eq_true rfl, fun _ h => absurd h (Nat.not_lt_zero _)⟩, rfl⟩, trivial⟩) ?_
  rintro ⟨off, q, out⟩ ⟨⟨⟨ho, hol⟩, hq0, hq1⟩, n, hn, htot⟩
  simp only at ho hol hq0 hq1 hn htot
  dsimp only [headF, headM]
  obtain ⟨d, hd⟩ : ∃ d, d = decF (l.drop off) := ⟨_, rfl⟩
  repeat refine AJoin.plain ?_
  refine And.intro ⟨by omega, by omega⟩ ?_
  have f : FC Try.prog 71 [.o (.c (.s 0 (0 + (off : Int).toNat) (l.length - (off : Int).toNat) 1))] [u8n l false] (rcE d) [u8n l false] := by
    rw [Nat.zero_add]
    exact dec18_at l off hl hb d hd
  refine FC.u f [0] ?_
  obtain ⟨r, e⟩ := d
  repeat refine AJoin.plain ?_
  refine bselN (fun he => ?_) (fun he => ?_)
  · have hout : out = scanN l.length l 0 := by
      rw [htot]
      cases n with
      | zero => rw [scanN, List.append_nil]
      | succ n => rw [scanN, if_pos (.inl (by rw [← hd]; exact he)), List.append_nil]
    repeat (first | refine And.intro (by kernel_rfl) ?_ | refine And.intro (by decide) ?_)
    exact ⟨(), trivial, .id (congrArg (fun o => SV.o (.c (.s 1 0 (List.length o) 16))) hout) ⟨.inl rfl, .inl (congrArg (fun o => recs o true) hout), trivial⟩⟩
  have he0 : e = 0 := he
  have hok : RcOk r := by
    have := dec_rcok (l := l.drop off) (by rw [← hd]; exact he0)
    rwa [← hd] at this
  have h53 : 53 ≤ l.length - off := by
    have := decF_short (l := l.drop off) (by rw [← hd]; exact he0)
    rwa [List.length_drop] at this
  have w53 : IntKind.i64.wrap ((off : Int) + 53) = ((off + 53 : Nat) : Int) := wrap64_in (by omega) (by omega)
  have next : ¬ r.seq ≤ q → ∃ n', l.length ≤ off + 53 + n' ∧ scanN l.length l 0 = (out ++ [r]) ++ scanN n' (l.drop (off + 53)) r.seq := fun hq => by
    cases n with
    | zero => omega
    | succ n =>
      refine ⟨n, by omega, ?_⟩
      rw [htot, scanN, if_neg (by rw [← hd]; exact fun h => h.elim (fun h => h he0) hq), ← hd, List.drop_drop, List.append_assoc]
      rfl
  refine bselD (fun hp => ?_) (fun hp => ?_)
  · have hp' : 0 < out.length := by have h2 : (out.length : Int) > 0 := hp; clear hp; omega
    have hne : out ≠ [] := fun h => by rw [h] at hp'; exact absurd hp' (Nat.lt_irrefl _)
    have hlast := hq1 hne
    have wl : IntKind.i64.wrap ((out.length : Int) - 1) = ((out.length - 1 : Nat) : Int) := by rw [wrap64_in (by omega) (by omega)]; omega
    repeat (first | refine And.intro (by kernel_rfl) ?_ | refine And.intro (by decide) ?_)
    refine And.intro (by rw [wl]; omega) ?_
    refine And.intro (by rw [wl]; omega) ?_
    have e2 : (out.getD (0 + (IntKind.i64.wrap ((out.length : Int) - 1)).toNat) zR).seq = q := by rw [wl, Int.toNat_natCast, Nat.zero_add]; exact hlast
    repeat (first | refine And.intro (by kernel_rfl) ?_ | refine And.intro (by decide) ?_)
    refine bselD (fun hq' => ?_) (fun hq' => ?_)
    · have hq : r.seq ≤ q := by rw [← e2]; exact hq'
      have hout : out = scanN l.length l 0 := by
        rw [htot]
        cases n with
        | zero => rw [scanN, List.append_nil]
        | succ n => rw [scanN, if_pos (.inr (by rw [← hd]; exact hq)), List.append_nil]
      repeat (first | refine And.intro (by kernel_rfl) ?_ | refine And.intro (by decide) ?_)
      exact ⟨(), trivial, .id (congrArg (fun o => SV.o (.c (.s 1 0 (List.length o) 16))) hout) ⟨.inl rfl, .inl (congrArg (fun o => recs o true) hout), trivial⟩⟩
    · have hq : ¬ r.seq ≤ q := by rw [← e2]; exact hq'
      repeat (first | refine And.intro (by kernel_rfl) ?_ | refine And.intro (by decide) ?_)
      refine And.intro ⟨by show 0 + out.length ≤ out.length; omega, fun _ _ => rfl⟩ ?_
      refine And.intro ⟨Nat.le_of_ble_eq_true rfl, fun q hq => by have hq' : q < 1 := hq; obtain rfl : q = 0 := (by omega); rfl⟩ ?_
      refine And.intro (by show out.length + 1 ≤ 4294967296; omega) ?_
      repeat (first | refine And.intro (by kernel_rfl) ?_ | refine And.intro (by decide) ?_)
      refine ⟨⟨off + 53, r.seq, out ++ [r]⟩, ⟨⟨⟨⟨by show off + 53 ≤ l.length; omega, by show (out ++ [r]).length ≤ off + 53; rw [List.length_append]; have : [r].length = 1 := rfl; omega⟩, fun h => by simp at h, fun _ => by simp⟩, next hq⟩, by show l.length - (off + 53) < l.length - off; omega⟩,
        isAt.go [(1, .to 4)] ⟨congrArg (fun n => SV.o (.c (.s 4 0 n 16))) (show out.length + 1 = (out ++ [r]).length by simp), congrArg (int .i64) w53, trivial⟩ ⟨leB.rows (by simp) (fun j hj => ?_) id, trivial⟩⟩
      have hj' : j < (out ++ [r]).length := hj
      exact rowR2 (p := r) out j (by simpa using hj')
  · have hp' : out = [] := List.eq_nil_of_length_eq_zero (by have h2 : ¬ (out.length : Int) > 0 := hp; clear hp; omega)
    have hq : ¬ r.seq ≤ q := by rw [hq0 hp']; have := hok.seq; omega
    repeat (first | refine And.intro (by kernel_rfl) ?_ | refine And.intro (by decide) ?_)
    refine And.intro ⟨by show 0 + out.length ≤ out.length; omega, fun _ _ => rfl⟩ ?_
    refine And.intro ⟨Nat.le_of_ble_eq_true rfl, fun q hq => by have hq' : q < 1 := hq; obtain rfl : q = 0 := (by omega); rfl⟩ ?_
    refine And.intro (by show out.length + 1 ≤ 4294967296; omega) ?_
    repeat (first | refine And.intro (by kernel_rfl) ?_ | refine And.intro (by decide) ?_)
    refine ⟨⟨off + 53, r.seq, out ++ [r]⟩, ⟨⟨⟨⟨by show off + 53 ≤ l.length; omega, by show (out ++ [r]).length ≤ off + 53; rw [List.length_append]; have : [r].length = 1 := rfl; omega⟩, fun h => by simp at h, fun _ => by simp⟩, next hq⟩, by show l.length - (off + 53) < l.length - off; omega⟩,
      isAt.go [(1, .to 4)] ⟨congrArg (fun n => SV.o (.c (.s 4 0 n 16))) (show out.length + 1 = (out ++ [r]).length by simp), congrArg (int .i64) w53, trivial⟩ ⟨leB.rows (by simp) (fun j hj => ?_) id, trivial⟩⟩
    have hj' : j < (out ++ [r]).length := hj
    exact rowR2 (p := r) out j (by simpa using hj')
end Go.Sx.T1
namespace Go.Sx.T1
open Go.Proofs
set_option maxRecDepth 10000 in
theorem clone_fc (xs : List Int) (n : Nat) (hn : n ≤ xs.length) (h32 : n ≤ 4294967296) :
    FC Try.prog 59 [.o (.c (.s 0 0 n 1))] [u8s xs false] (.o (.c (.s 1 0 n 1))) [u8s xs false, u8s (xs.take n) true] := by
  refine FC.nil3 (fun h0 => ?_) (fun h0 a cap => ?_) (fun k hk => ?_)
  · refine FC.one (FC.r mix Try.func59 ?_)
    subst h0
    exact ⟨(), trivial, isEnd.go [(1, .new 1)] rfl ⟨.inl rfl, ⟨.inr ⟨rfl, Nat.le_refl 1, fun _ h => absurd h (Nat.not_lt_zero _)⟩, rfl⟩, trivial⟩⟩
  · refine FC.one (FC.r mix Try.func59 ?_)
    subst h0
    refine And.intro (by decide) ?_
    exact ⟨(), trivial, .id rfl ⟨.inl rfl, leB.empty rfl rfl rfl rfl id, trivial⟩⟩
  · refine FC.one (FC.r mix Try.func59 ?_)
    subst hk
    refine And.intro ⟨by show 0 + (k + 1) ≤ xs.length; omega, trivial⟩ ?_
    refine And.intro (by omega) ?_
    exact ⟨(), trivial, .id (congrArg (fun n => SV.o (.c (.s 1 0 n 1))) (Nat.zero_add (k + 1))) ⟨.inl rfl, .inl rfl, trivial⟩⟩
end Go.Sx.T1

namespace Go.Sx.T1
open Go.Proofs
def dBytes (ts : List Int) (k n : Nat) : List Int := (List.range n).map fun i => dv ts (k + i) 256
theorem dBytes_length (ts : List Int) (k n : Nat) : (dBytes ts k n).length = n := by simp [dBytes]
theorem dBytes_succ (ts : List Int) (k n : Nat) : dBytes ts k (n + 1) = dBytes ts k n ++ [dv ts (k + n) 256] := by simp [dBytes, List.range_succ]
theorem wrapU8_in {n : Int} (h1 : 0 ≤ n) (h2 : n < 256) : IntKind.u8.wrap n = n := by rw [IntKind.wrap_u8]; omega
end Go.Sx.T1
namespace Go.Sx.T1
open Go.Proofs
def validD (xs : List Int) (sy : Int) : Bool := decide (xs.length ≤ 16384) && (decide (0 ≤ sy) && decide (sy ≤ xs.length))
def dvS (nm : Nat) (xs : List Int) (sy : Int) : V1 := .a [.s nm 0 xs.length 1, .v (.int .i64 sy)]
theorem clone_full (xs : List Int) (h32 : xs.length ≤ 4294967296) :
    FC Try.prog 59 [.o (.c (.s 0 0 xs.length 1))] [u8s xs false] (.o (.c (.s 1 0 xs.length 1))) [u8s xs false, u8s xs true] := by
  have := clone_fc xs xs.length (Nat.le_refl _) h32
  rwa [List.take_length] at this
set_option maxRecDepth 10000 in
theorem validD_fc (xs : List Int) (sy : Int) : FC Try.prog 31 [.o (dvS 0 xs sy)] [u8s xs false] (boo (validD xs sy)) [u8s xs false] := by
  refine FC.b mix Try.func31 ?_
  refine bselD (fun h1 => ?_) (fun h1 => ?_)
  · have h1' : xs.length ≤ 16384 := by have : (xs.length : Int) ≤ 16384 := h1; omega
    refine bselD (fun h2 => ?_) (fun h2 => ?_)
    · exact ⟨congrArg boo (show decide (sy ≤ (xs.length : Int)) = validD xs sy by simp [validD, h1', show 0 ≤ sy from h2]), rfl, trivial⟩
    · exact ⟨congrArg boo (show false = validD xs sy by simp [validD, show ¬ 0 ≤ sy from h2]), rfl, trivial⟩
  · have h1' : ¬ xs.length ≤ 16384 := by have : ¬ (xs.length : Int) ≤ 16384 := h1; omega
    exact ⟨congrArg boo (show false = validD xs sy by simp [validD, h1']), rfl, trivial⟩
set_option maxRecDepth 10000 in
theorem validDR_fc (xs : List Int) (sy : Int) : FC Try.prog 41 [.o (dvS 0 xs sy)] [u8s xs false] (boo (validD xs sy)) [u8s xs false] := by
  refine FC.b mix Try.func41 ?_
  refine bselD (fun h1 => ?_) (fun h1 => ?_)
  · have h1' : xs.length ≤ 16384 := by have : (xs.length : Int) ≤ 16384 := h1; omega
    refine bselD (fun h2 => ?_) (fun h2 => ?_)
    · exact ⟨congrArg boo (show decide (sy ≤ (xs.length : Int)) = validD xs sy by simp [validD, h1', show 0 ≤ sy from h2]), rfl, trivial⟩
    · exact ⟨congrArg boo (show false = validD xs sy by simp [validD, show ¬ 0 ≤ sy from h2]), rfl, trivial⟩
  · have h1' : ¬ xs.length ≤ 16384 := by have : ¬ (xs.length : Int) ≤ 16384 := h1; omega
    exact ⟨congrArg boo (show false = validD xs sy by simp [validD, h1']), rfl, trivial⟩
set_option maxRecDepth 10000 in
theorem private_fc (xs : List Int) (sy : Int) (h32 : xs.length ≤ 4294967296) : FC Try.prog 57 [.o (dvS 0 xs sy)] [u8s xs false] (.o (dvS 1 xs sy)) [u8s xs false, u8s xs true] := by
  refine FC.one (FC.r mix Try.func57 ?_)
  refine FC.u (clone_full xs h32) [0] ?_
  exact ⟨(), trivial, isEnd.go [(1, .to 3)] rfl ⟨.inl rfl, .inl rfl, trivial⟩⟩
set_option maxRecDepth 10000 in
theorem copy_fc (xs : List Int) (sy : Int) (h32 : xs.length ≤ 4294967296) : FC Try.prog 42 [.o (dvS 0 xs sy)] [u8s xs false] (.o (dvS 1 xs sy)) [u8s xs false, u8s xs true] := by
  refine FC.one (FC.r mix Try.func42 ?_)
  refine And.intro ⟨by show 0 + xs.length ≤ xs.length; omega, trivial⟩ ?_
  refine And.intro (by omega) ?_
  exact ⟨(), trivial, isEnd.go [(1, .to 3)] (congrArg (fun n => SV.o (.a [.s 3 0 n 1, .v (.int .i64 sy)])) (Nat.zero_add xs.length)) ⟨.inl rfl, .inl (congrArg (fun x => some (⟨.ints .u8 x, true⟩ : Blk)) (List.take_length (l := xs))), trivial⟩⟩
end Go.Sx.T1
namespace Go.Sx.T1
open Go.Proofs
structure DR where
  d : List Int
  sy : Int
  e : Int
def drV (nm : Nat) (r : DR) : SV := .t [dvS nm r.d r.sy, .c (.v (.int .i64 r.e))]
def appD (xs : List Int) (sy : Int) (bs : List Int) : DR := if validD xs sy = false then ⟨xs, sy, 1⟩ else if 16384 < xs.length + bs.length then ⟨xs, sy, 16⟩ else ⟨xs ++ bs, sy, 0⟩
def syncD (xs : List Int) (sy : Int) : DR := if validD xs sy = false then ⟨xs, sy, 1⟩ else ⟨xs, xs.length, 0⟩
def cutD (xs : List Int) (sy n : Int) : DR := if validD xs sy = false then ⟨xs, sy, 1⟩ else if n < 0 ∨ (xs.length : Int) < n then ⟨xs, sy, 2⟩ else ⟨xs.take n.toNat, (if n < sy then n else sy), 0⟩
theorem validD_le {xs : List Int} {sy : Int} (h : validD xs sy = true) : xs.length ≤ 16384 ∧ 0 ≤ sy ∧ sy ≤ xs.length := by
  simp only [validD, Bool.and_eq_true, decide_eq_true_eq] at h; exact h
theorem wd {n : Nat} (h : n ≤ 16384) : IntKind.i64.wrap (16384 - (n : Int)) = 16384 - n := wrap64_in (by omega) (by omega)
theorem cat_eq (xs bs : List Int) : (xs.drop 0).take xs.length ++ (bs.drop 0).take bs.length = xs ++ bs := by simp
set_option maxHeartbeats 1600000 in
set_option maxRecDepth 10000 in
theorem append_fc (xs : List Int) (sy : Int) (bs : List Int) (h32 : xs.length ≤ 2147483648) (hb32 : bs.length ≤ 2147483648) :
    FC Try.prog 39 [.o (dvS 0 xs sy), .o (.c (.s 1 0 bs.length 1))] [u8s xs false, u8s bs false] (drV 2 (appD xs sy bs)) [u8s xs false, u8s bs false, u8s (appD xs sy bs).d true] := by
  refine FC.one (FC.r mix Try.func39 ?_)
  refine FC.u (private_fc xs sy (by omega)) [0] ?_
  refine FC.u (validD_fc xs sy) [0] ?_
  refine bselNot ?_
  refine bsel_intro (fun h => ?_) (fun h => ?_)
  rotate_left
  · have e : appD xs sy bs = ⟨xs, sy, 1⟩ := by simp [appD, h]
    rw [e]
    exact ⟨(), trivial, isEnd.go [(2, .to 4)] rfl ⟨.inl rfl, .inl rfl, .inl rfl, trivial⟩⟩
  have hv := validD_le h
  refine bselD (fun h1 => ?_) (fun h1 => ?_)
  · replace h1 : (bs.length : Int) > IntKind.i64.wrap (16384 - xs.length) := h1
    rw [wd hv.1] at h1
    have e : appD xs sy bs = ⟨xs, sy, 16⟩ := by simp [appD, h, show 16384 < xs.length + bs.length by omega]
    rw [e]
    exact ⟨(), trivial, isEnd.go [(2, .to 4)] rfl ⟨.inl rfl, .inl rfl, .inl rfl, trivial⟩⟩
  · replace h1 : ¬ (bs.length : Int) > IntKind.i64.wrap (16384 - xs.length) := h1
    rw [wd hv.1] at h1
    have e : appD xs sy bs = ⟨xs ++ bs, sy, 0⟩ := by simp [appD, h, show ¬ 16384 < xs.length + bs.length by omega]
    rw [e]
    refine And.intro ⟨by show 0 + xs.length ≤ xs.length; omega, trivial⟩ ?_
    refine And.intro ⟨by show 0 + bs.length ≤ bs.length; omega, trivial⟩ ?_
    refine And.intro (by omega) ?_
    exact ⟨(), trivial, isEnd.go [(2, .to 6)] (congrArg (fun n => SV.t [.a [.s 6 0 n 1, .v (.int .i64 sy)], .c (.v (.int .i64 0))]) (show xs.length + bs.length = (xs ++ bs).length by simp))
      ⟨.inl rfl, .inl rfl, .inl (congrArg (fun x => some (⟨.ints .u8 x, true⟩ : Blk)) (cat_eq xs bs)), trivial⟩⟩
set_option maxHeartbeats 1600000 in
set_option maxRecDepth 10000 in
theorem appendR_fc (xs : List Int) (sy : Int) (bs : List Int) (h32 : xs.length ≤ 2147483648) (hb32 : bs.length ≤ 2147483648) :
    FC Try.prog 69 [.o (dvS 0 xs sy), .o (.c (.s 1 0 bs.length 1))] [u8s xs false, u8s bs false] (drV 2 (appD xs sy bs)) [u8s xs false, u8s bs false, u8s (appD xs sy bs).d true] := by
  refine FC.one (FC.r mix Try.func69 ?_)
  refine FC.u (validDR_fc xs sy) [0] ?_
  refine bselNot ?_
  refine bsel_intro (fun h => ?_) (fun h => ?_)
  rotate_left
  · have e : appD xs sy bs = ⟨xs, sy, 1⟩ := by simp [appD, h]
    rw [e]
    refine FC.u (copy_fc xs sy (by omega)) [0] ?_
    exact ⟨(), trivial, isEnd.go [(2, .to 4)] rfl ⟨.inl rfl, .inl rfl, .inl rfl, trivial⟩⟩
  have hv := validD_le h
  have w2 : IntKind.i64.wrap ((xs.length : Int) + bs.length) = (xs.length : Int) + bs.length := wrap64_in (by omega) (by omega)
  refine bselD (fun h1 => ?_) (fun h1 => ?_)
  · replace h1 : IntKind.i64.wrap ((xs.length : Int) + bs.length) > 16384 := h1
    rw [w2] at h1
    have e : appD xs sy bs = ⟨xs, sy, 16⟩ := by simp [appD, h, show 16384 < xs.length + bs.length by omega]
    rw [e]
    refine FC.u (copy_fc xs sy (by omega)) [0] ?_
    exact ⟨(), trivial, isEnd.go [(2, .to 4)] rfl ⟨.inl rfl, .inl rfl, .inl rfl, trivial⟩⟩
  · replace h1 : ¬ IntKind.i64.wrap ((xs.length : Int) + bs.length) > 16384 := h1
    rw [w2] at h1
    have e : appD xs sy bs = ⟨xs ++ bs, sy, 0⟩ := by simp [appD, h, show ¬ 16384 < xs.length + bs.length by omega]
    rw [e]
    refine FC.u (copy_fc xs sy (by omega)) [0] ?_
    refine And.intro ⟨by show 0 + xs.length ≤ xs.length; omega, trivial⟩ ?_
    refine And.intro ⟨by show 0 + bs.length ≤ bs.length; omega, trivial⟩ ?_
    refine And.intro (by omega) ?_
    exact ⟨(), trivial, isEnd.go [(2, .to 5)] (congrArg (fun n => SV.t [.a [.s 5 0 n 1, .v (.int .i64 sy)], .c (.v (.int .i64 0))]) (show xs.length + bs.length = (xs ++ bs).length by simp))
      ⟨.inl rfl, .inl rfl, .inl (congrArg (fun x => some (⟨.ints .u8 x, true⟩ : Blk)) (cat_eq xs bs)), trivial⟩⟩
end Go.Sx.T1
namespace Go.Sx.T1
open Go.Proofs
set_option maxHeartbeats 1600000 in
set_option maxRecDepth 10000 in
theorem sync_fc (xs : List Int) (sy : Int) (h32 : xs.length ≤ 2147483648) :
    FC Try.prog 40 [.o (dvS 0 xs sy)] [u8s xs false] (drV 1 (syncD xs sy)) [u8s xs false, u8s (syncD xs sy).d true] := by
  refine FC.one (FC.r mix Try.func40 ?_)
  refine FC.u (private_fc xs sy (by omega)) [0] ?_
  refine FC.u (validD_fc xs sy) [0] ?_
  refine bselNot ?_
  refine bsel_intro (fun h => ?_) (fun h => ?_)
  · have e : syncD xs sy = ⟨xs, xs.length, 0⟩ := by simp [syncD, h]
    rw [e]
    exact ⟨(), trivial, isEnd.go [(1, .to 3)] rfl ⟨.inl rfl, .inl rfl, trivial⟩⟩
  · have e : syncD xs sy = ⟨xs, sy, 1⟩ := by simp [syncD, h]
    rw [e]
    exact ⟨(), trivial, isEnd.go [(1, .to 3)] rfl ⟨.inl rfl, .inl rfl, trivial⟩⟩
set_option maxHeartbeats 1600000 in
set_option maxRecDepth 10000 in
theorem syncR_fc (xs : List Int) (sy : Int) (h32 : xs.length ≤ 2147483648) :
    FC Try.prog 70 [.o (dvS 0 xs sy)] [u8s xs false] (drV 1 (syncD xs sy)) [u8s xs false, u8s (syncD xs sy).d true] := by
  refine FC.one (FC.r mix Try.func70 ?_)
  refine FC.u (validDR_fc xs sy) [0] ?_
  refine bselNot ?_
  refine bsel_intro (fun h => ?_) (fun h => ?_)
  · have e : syncD xs sy = ⟨xs, xs.length, 0⟩ := by simp [syncD, h]
    rw [e]
    refine FC.u (copy_fc xs sy (by omega)) [0] ?_
    exact ⟨(), trivial, isEnd.go [(1, .to 3)] rfl ⟨.inl rfl, .inl rfl, trivial⟩⟩
  · have e : syncD xs sy = ⟨xs, sy, 1⟩ := by simp [syncD, h]
    rw [e]
    refine FC.u (copy_fc xs sy (by omega)) [0] ?_
    exact ⟨(), trivial, isEnd.go [(1, .to 3)] rfl ⟨.inl rfl, .inl rfl, trivial⟩⟩
theorem take_len {xs : List Int} {n : Int} (h0 : 0 ≤ n) (h1 : n ≤ xs.length) : n.toNat = (xs.take n.toNat).length := by rw [List.length_take]; omega
set_option maxHeartbeats 1600000 in
set_option maxRecDepth 10000 in
theorem cut_fc (xs : List Int) (sy n : Int) (h32 : xs.length ≤ 2147483648) :
    FC Try.prog 33 [.o (dvS 0 xs sy), int .i64 n] [u8s xs false] (drV 1 (cutD xs sy n)) [u8s xs false, u8s (cutD xs sy n).d true] := by
  refine FC.one (FC.r mix Try.func33 ?_)
  refine FC.u (private_fc xs sy (by omega)) [0] ?_
  refine FC.u (validD_fc xs sy) [0] ?_
  refine bselNot ?_
  refine bsel_intro (fun h => ?_) (fun h => ?_)
  rotate_left
  · have e : cutD xs sy n = ⟨xs, sy, 1⟩ := by simp [cutD, h]
    rw [e]
    exact ⟨(), trivial, isEnd.go [(1, .to 3)] rfl ⟨.inl rfl, .inl rfl, trivial⟩⟩
  have hv := validD_le h
  refine bselD (fun h1 => ?_) (fun h1 => ?_)
  · have e : cutD xs sy n = ⟨xs, sy, 2⟩ := by simp [cutD, h, show n < 0 from h1]
    rw [e]
    exact ⟨(), trivial, isEnd.go [(1, .to 3)] rfl ⟨.inl rfl, .inl rfl, trivial⟩⟩
  refine bselD (fun h2 => ?_) (fun h2 => ?_)
  · have e : cutD xs sy n = ⟨xs, sy, 2⟩ := by simp [cutD, h, show (xs.length : Int) < n from h2]
    rw [e]
    exact ⟨(), trivial, isEnd.go [(1, .to 3)] rfl ⟨.inl rfl, .inl rfl, trivial⟩⟩
  replace h1 : ¬ n < 0 := h1
  replace h2 : ¬ n > xs.length := h2
  have e : cutD xs sy n = ⟨xs.take n.toNat, (if n < sy then n else sy), 0⟩ := by simp [cutD, h, show ¬ (n < 0 ∨ (xs.length : Int) < n) by omega]
  rw [e]
  refine And.intro ⟨by omega, rfl, by omega⟩ ?_
  refine And.intro (by kernel_rfl) ?_
  have el := take_len (xs := xs) (n := n) (by omega) (by omega)
  exact ⟨(), trivial, isEnd.go [(1, .to 3)] (congrArg (fun k => SV.t [.a [.s 3 0 k 1, .v (.int .i64 (if n < sy then n else sy))], .c (.v (.int .i64 0))]) el) ⟨.inl rfl, leB.take _ id, trivial⟩⟩
set_option maxHeartbeats 1600000 in
set_option maxRecDepth 10000 in
theorem cutR_fc (xs : List Int) (sy n : Int) (h32 : xs.length ≤ 2147483648) :
    FC Try.prog 23 [.o (dvS 0 xs sy), int .i64 n] [u8s xs false] (drV 1 (cutD xs sy n)) [u8s xs false, u8s (cutD xs sy n).d true] := by
  refine FC.one (FC.r mix Try.func23 ?_)
  refine FC.u (validDR_fc xs sy) [0] ?_
  refine bselNot ?_
  refine bsel_intro (fun h => ?_) (fun h => ?_)
  rotate_left
  · have e : cutD xs sy n = ⟨xs, sy, 1⟩ := by simp [cutD, h]
    rw [e]
    refine FC.u (copy_fc xs sy (by omega)) [0] ?_
    exact ⟨(), trivial, isEnd.go [(1, .to 3)] rfl ⟨.inl rfl, .inl rfl, trivial⟩⟩
  have hv := validD_le h
  refine bselD (fun h1 => ?_) (fun h1 => ?_)
  · have e : cutD xs sy n = ⟨xs, sy, 2⟩ := by simp [cutD, h, show n < 0 from h1]
    rw [e]
    refine FC.u (copy_fc xs sy (by omega)) [0] ?_
    exact ⟨(), trivial, isEnd.go [(1, .to 3)] rfl ⟨.inl rfl, .inl rfl, trivial⟩⟩
  refine bselD (fun h2 => ?_) (fun h2 => ?_)
  · have e : cutD xs sy n = ⟨xs, sy, 2⟩ := by simp [cutD, h, show (xs.length : Int) < n from h2]
    rw [e]
    refine FC.u (copy_fc xs sy (by omega)) [0] ?_
    exact ⟨(), trivial, isEnd.go [(1, .to 3)] rfl ⟨.inl rfl, .inl rfl, trivial⟩⟩
  replace h1 : ¬ n < 0 := h1
  replace h2 : ¬ n > xs.length := h2
  have e : cutD xs sy n = ⟨xs.take n.toNat, (if n < sy then n else sy), 0⟩ := by simp [cutD, h, show ¬ (n < 0 ∨ (xs.length : Int) < n) by omega]
  rw [e]
  refine FC.u (copy_fc xs sy (by omega)) [0] ?_
  refine And.intro (by omega) ?_
  have el := take_len (xs := xs) (n := n) (by omega) (by omega)
  refine bselD (fun h3 => ?_) (fun h3 => ?_)
  · replace h3 : sy > n := h3
    rw [if_pos (show n < sy by omega)]
    exact ⟨(), trivial, isEnd.go [(1, .to 3)] (congrArg (fun k => SV.t [.a [.s 3 0 k 1, .v (.int .i64 n)], .c (.v (.int .i64 0))]) el) ⟨.inl rfl, leB.take _ id, trivial⟩⟩
  · replace h3 : ¬ sy > n := h3
    rw [if_neg (show ¬ n < sy by omega)]
    exact ⟨(), trivial, isEnd.go [(1, .to 3)] (congrArg (fun k => SV.t [.a [.s 3 0 k 1, .v (.int .i64 sy)], .c (.v (.int .i64 0))]) el) ⟨.inl rfl, leB.take _ id, trivial⟩⟩
end Go.Sx.T1

namespace Go.Sx.T1
open Go.Proofs
def x255 (v : Int) : Int := bitI .xor .u8 v 255
def flipR (xs : List Int) (lo hi : Nat) : List Int := (List.range xs.length).map fun j => if lo ≤ j ∧ j < hi then x255 (xs.getD j 0) else xs.getD j 0
theorem flipR_length (xs : List Int) (lo hi : Nat) : (flipR xs lo hi).length = xs.length := by simp [flipR]
theorem flipR_get {xs : List Int} {lo hi j : Nat} (hj : j < xs.length) : (flipR xs lo hi)[j]? = some (if lo ≤ j ∧ j < hi then x255 (xs.getD j 0) else xs.getD j 0) := by simp [flipR, hj]
theorem flipR_none (xs : List Int) (lo hi : Nat) (h : hi ≤ lo) : flipR xs lo hi = xs := by
  apply List.ext_getElem?
  intro j
  by_cases hj : j < xs.length
  · rw [flipR_get hj, if_neg (by omega), List.getElem?_eq_getElem hj, List.getD_eq_getElem?_getD, List.getElem?_eq_getElem hj]; rfl
  · rw [List.getElem?_eq_none (by rw [flipR_length]; omega), List.getElem?_eq_none (by omega)]
theorem flipR_step {xs : List Int} {lo i : Nat} (hi : i < xs.length) (hlo : lo ≤ i) : (flipR xs lo i).set i (x255 ((flipR xs lo i).getD i 0)) = flipR xs lo (i + 1) := by
  apply List.ext_getElem?
  intro j
  have e : (flipR xs lo i).getD i 0 = xs.getD i 0 := by rw [List.getD_eq_getElem?_getD, flipR_get hi, if_neg (by omega)]; rfl
  by_cases hj : j < xs.length
  · rw [flipR_get hj, List.getElem?_set]
    by_cases hij : i = j
    · subst hij
      rw [if_pos rfl, if_pos (by rw [flipR_length]; exact hi), if_pos (by omega), e]
    · rw [if_neg hij, flipR_get hj]
      congr 1
      by_cases h1 : lo ≤ j ∧ j < i
      · rw [if_pos h1, if_pos (by omega)]
      · rw [if_neg h1, if_neg (by omega)]
  · rw [List.getElem?_eq_none (by rw [List.length_set, flipR_length]; omega), List.getElem?_eq_none (by rw [flipR_length]; omega)]
def crashD (xs : List Int) (sy keep spoil : Int) : DR :=
  if validD xs sy = false then ⟨xs, sy, 1⟩
  else if keep < 0 ∨ keep > (xs.length : Int) - sy ∨ spoil < 0 ∨ spoil > keep then ⟨xs, sy, 2⟩
  else ⟨(flipR xs (sy + keep - spoil).toNat (sy + keep).toNat).take (sy + keep).toNat, sy + keep, 0⟩
end Go.Sx.T1
namespace Go.Sx.T1
open Go.Proofs
set_option maxHeartbeats 1600000 in
set_option maxRecDepth 10000 in
theorem crashR_fc (xs : List Int) (sy keep spoil : Int) (h32 : xs.length ≤ 2147483648) :
    FC Try.prog 16 [.o (dvS 0 xs sy), int .i64 keep, int .i64 spoil] [u8s xs false] (drV 1 (crashD xs sy keep spoil)) [u8s xs false, u8s (crashD xs sy keep spoil).d true] := by
  refine FC.one (FC.r mix Try.func16 ?_)
  refine FC.u (validDR_fc xs sy) [0] ?_
  refine bselNot ?_
  refine bsel_intro (fun h => ?_) (fun h => ?_)
  rotate_left
  · have e : crashD xs sy keep spoil = ⟨xs, sy, 1⟩ := by simp [crashD, h]
    rw [e]
    refine FC.u (copy_fc xs sy (by omega)) [0] ?_
    exact ⟨(), trivial, isEnd.go [(1, .to 3)] rfl ⟨.inl rfl, .inl rfl, trivial⟩⟩
  have hv := validD_le h
  have bad : (keep < 0 ∨ keep > (xs.length : Int) - sy ∨ spoil < 0 ∨ spoil > keep) → crashD xs sy keep spoil = ⟨xs, sy, 2⟩ := fun hb => by simp [crashD, h, hb]
  have w1 : IntKind.i64.wrap ((xs.length : Int) - sy) = (xs.length : Int) - sy := wrap64_in (by omega) (by omega)
  refine bselD (fun h1 => ?_) (fun h1 => ?_)
  · rw [bad (.inl h1)]
    refine FC.u (copy_fc xs sy (by omega)) [0] ?_
    exact ⟨(), trivial, isEnd.go [(1, .to 3)] rfl ⟨.inl rfl, .inl rfl, trivial⟩⟩
  refine bselD (fun h2 => ?_) (fun h2 => ?_)
  · replace h2 : keep > IntKind.i64.wrap ((xs.length : Int) - sy) := h2
    rw [w1] at h2
    rw [bad (.inr (.inl h2))]
    refine FC.u (copy_fc xs sy (by omega)) [0] ?_
    exact ⟨(), trivial, isEnd.go [(1, .to 3)] rfl ⟨.inl rfl, .inl rfl, trivial⟩⟩
  refine bselD (fun h3 => ?_) (fun h3 => ?_)
  · rw [bad (.inr (.inr (.inl h3)))]
    refine FC.u (copy_fc xs sy (by omega)) [0] ?_
    exact ⟨(), trivial, isEnd.go [(1, .to 3)] rfl ⟨.inl rfl, .inl rfl, trivial⟩⟩
  refine bselD (fun h4 => ?_) (fun h4 => ?_)
  · rw [bad (.inr (.inr (.inr h4)))]
    refine FC.u (copy_fc xs sy (by omega)) [0] ?_
    exact ⟨(), trivial, isEnd.go [(1, .to 3)] rfl ⟨.inl rfl, .inl rfl, trivial⟩⟩
  replace h1 : ¬ keep < 0 := h1
  replace h2 : ¬ keep > IntKind.i64.wrap ((xs.length : Int) - sy) := h2
  rw [w1] at h2
  replace h3 : ¬ spoil < 0 := h3
  replace h4 : ¬ spoil > keep := h4
  have good : crashD xs sy keep spoil = ⟨(flipR xs (sy + keep - spoil).toNat (sy + keep).toNat).take (sy + keep).toNat, sy + keep, 0⟩ := by
    simp [crashD, h, show ¬ (keep < 0 ∨ keep > (xs.length : Int) - sy ∨ spoil < 0 ∨ spoil > keep) by omega]
  rw [good]
  refine FC.u (copy_fc xs sy (by omega)) [0] ?_
  conv => whnf
  have hn : IntKind.i64.wrap (sy + keep) = sy + keep := wrap64_in (by omega) (by omega)
  generalize IntKind.i64.wrap (sy + keep) = n at *
  subst hn
  repeat (first | refine And.intro (by kernel_rfl) ?_ | refine And.intro (by first | omega | exact ⟨by omega, rfl, by omega⟩) ?_)
  have hlo : IntKind.i64.wrap (((sy + keep).toNat : Int) - spoil) = (((sy + keep - spoil).toNat : Nat) : Int) := by rw [wrap64_in (by omega) (by omega)]; omega
  refine ALoop.go (X := Nat) (fun i => (sy + keep - spoil).toNat ≤ i ∧ i ≤ (sy + keep).toNat) (fun i => (sy + keep).toNat - i) [3, 6] [0, 1, 2] (fun i => [(8, int .i64 i)])
    (fun i => [(3, ⟨.ints .u8 (flipR xs (sy + keep - spoil).toNat i), true⟩)]) (sy + keep - spoil).toNat ⟨Nat.le_refl _, by omega⟩ ⟨congrArg (int .i64) hlo, trivial⟩
    ⟨.inl (congrArg (fun x => some (⟨.ints .u8 x, true⟩ : Blk)) (flipR_none xs _ _ (Nat.le_refl _)).symm), trivial⟩ ?_
  rintro i ⟨hi1, hi2⟩
  dsimp only [headF, headM]
  refine bselD (fun hlt => ?_) (fun hge => ?_)
  · replace hlt : (i : Int) < ((sy + keep).toNat : Int) := hlt
    repeat (first | refine And.intro (by kernel_rfl) ?_ | refine And.intro (by first | omega | (rw [flipR_length]; omega)) ?_)
    have e0 : 0 + (i : Int).toNat = i := by omega
    have hst : (flipR xs (sy + keep - spoil).toNat i).set (0 + (i : Int).toNat) (bitI .xor .u8 ((flipR xs (sy + keep - spoil).toNat i).getD (0 + (i : Int).toNat) 0) 255) = flipR xs (sy + keep - spoil).toNat (i + 1) := by
      rw [e0]; exact flipR_step (by omega) hi1
    exact ⟨i + 1, ⟨⟨by omega, by omega⟩, by simp only; omega⟩, .id ⟨congrArg (int .i64) (wrap64_in (by omega) (by omega)), trivial⟩ rfl ⟨.inl (congrArg (fun x => some (⟨.ints .u8 x, true⟩ : Blk)) hst), trivial⟩ rfl⟩
  · replace hge : ¬ (i : Int) < ((sy + keep).toNat : Int) := hge
    have hi : i = (sy + keep).toNat := by omega
    subst hi
    have hnn : (sy + keep).toNat = ((flipR xs (sy + keep - spoil).toNat (sy + keep).toNat).take (sy + keep).toNat).length := by rw [List.length_take, flipR_length]; omega
    have hs : (((sy + keep).toNat : Nat) : Int) = sy + keep := by omega
    refine ⟨(), trivial, isEnd.go [(1, .to 3)] ?_ ⟨.inl rfl, leB.take _ id, trivial⟩⟩
    exact (congrArg (fun k => SV.t [.a [.s 3 0 (sy + keep).toNat 1, .v (.int .i64 k)], .c (.v (.int .i64 0))]) hs).trans (congrArg (fun k => SV.t [.a [.s 3 0 k 1, .v (.int .i64 (sy + keep))], .c (.v (.int .i64 0))]) hnn)
end Go.Sx.T1

namespace Go.Sx.T1
open Go.Proofs
set_option maxRecDepth 10000 in
theorem same19_fc (xs ys : List Int) (sx sy : Int) (h32 : xs.length ≤ 4294967296) :
    FC Try.prog 53 [.o (dvS 0 xs sx), .o (dvS 1 ys sy)] [u8s xs false, u8s ys false] (boo (decide (sx = sy ∧ xs = ys))) [u8s xs false, u8s ys false] := by
  refine FC.one (FC.r mix Try.func53 ?_)
  have h4 := same4_fc xs ys xs.length ys.length (Nat.le_refl _) (Nat.le_refl _) h32
  rw [List.take_length, List.take_length] at h4
  refine bselE (fun h => ?_) (fun h => ?_)
  · refine FC.u h4 [0, 1] ?_
    first | exact ⟨(), trivial, .id (congrArg boo (by simp [h])) ⟨.inl rfl, .inl rfl, trivial⟩⟩ | exact And.intro (by kernel_rfl) ⟨(), trivial, .id (congrArg boo (by simp [h])) ⟨.inl rfl, .inl rfl, trivial⟩⟩
  · first | exact ⟨(), trivial, .id (congrArg boo (by simp [h])) ⟨.inl rfl, .inl rfl, trivial⟩⟩ | exact And.intro (by kernel_rfl) ⟨(), trivial, .id (congrArg boo (by simp [h])) ⟨.inl rfl, .inl rfl, trivial⟩⟩
theorem appD_len {xs : List Int} {sy : Int} {bs : List Int} (h : xs.length ≤ 2147483648) : (appD xs sy bs).d.length ≤ 2147483648 := by
  unfold appD
  split
  · exact h
  · split
    · exact h
    · simp only [List.length_append]; omega
theorem app_x (xs : List Int) (sy : Int) (bs : List Int) (h : xs.length ≤ 2147483648) (hb : bs.length ≤ 2147483648) :
    ∃ r : DR, FC Try.prog 39 [.o (dvS 0 xs sy), .o (.c (.s 1 0 bs.length 1))] [u8s xs false, u8s bs false] (drV 2 r) [u8s xs false, u8s bs false, u8s r.d true] ∧
      FC Try.prog 69 [.o (dvS 0 xs sy), .o (.c (.s 1 0 bs.length 1))] [u8s xs false, u8s bs false] (drV 2 r) [u8s xs false, u8s bs false, u8s r.d true] ∧ r.d.length ≤ 4294967296 :=
  ⟨appD xs sy bs, append_fc xs sy bs h hb, appendR_fc xs sy bs h hb, by have := appD_len (xs := xs) (sy := sy) (bs := bs) h; omega⟩
theorem cut_x (xs : List Int) (sy n : Int) (h : xs.length ≤ 2147483648) :
    ∃ r : DR, FC Try.prog 33 [.o (dvS 0 xs sy), int .i64 n] [u8s xs false] (drV 1 r) [u8s xs false, u8s r.d true] ∧
      FC Try.prog 23 [.o (dvS 0 xs sy), int .i64 n] [u8s xs false] (drV 1 r) [u8s xs false, u8s r.d true] ∧ r.d.length ≤ 4294967296 :=
  ⟨cutD xs sy n, cut_fc xs sy n h, cutR_fc xs sy n h, by
    unfold cutD
    split
    · simp only; omega
    · split
      · simp only; omega
      · simp only [List.length_take]; omega⟩
theorem sync_x (xs : List Int) (sy : Int) (h : xs.length ≤ 2147483648) :
    ∃ r : DR, FC Try.prog 40 [.o (dvS 0 xs sy)] [u8s xs false] (drV 1 r) [u8s xs false, u8s r.d true] ∧
      FC Try.prog 70 [.o (dvS 0 xs sy)] [u8s xs false] (drV 1 r) [u8s xs false, u8s r.d true] ∧ r.d.length ≤ 4294967296 :=
  ⟨syncD xs sy, sync_fc xs sy h, syncR_fc xs sy h, by
    unfold syncD
    split <;> (simp only; omega)⟩
def n2C (a b : Int) : V1 := .a [.v (.int .i64 a), .v (.int .i64 b)]
end Go.Sx.T1
namespace Go.Sx.T1
open Go.Proofs Go.Sx.Crc
/-! journal: the last number among the first n records -/
def seqF (out : List Rcd) (n : Nat) : Int := if min n out.length = 0 then 0 else (out.getD (min n out.length - 1) zR).seq
set_option maxHeartbeats 3200000 in
set_option maxRecDepth 10000 in
theorem seqR_fc (out : List Rcd) (n : Nat) (hn : n ≤ out.length) (hl : out.length ≤ 100000) : FC Try.prog 78 [.o (.c (.s 0 0 out.length 16)), int .i64 n] [recs out false] (int .i64 (seqF out n)) [recs out false] := by
  refine FC.one (FC.rj mix Try.func78 ?_)
  repeat (first | refine And.intro (by kernel_rfl) ?_ | refine And.intro (by decide) ?_)
  have hm : min n out.length = n := by omega
  refine bselE (fun h => ?_) (fun h => ?_)
  · have e : (0 : Int) = seqF out n := by rw [seqF, hm, if_pos (by omega)]
    repeat (first | refine And.intro (by kernel_rfl) ?_ | refine And.intro (by decide) ?_)
    exact ⟨(), trivial, .id (congrArg (int .i64) e) ⟨.inl rfl, trivial⟩⟩
  · have h' : n ≠ 0 := fun e => h (by rw [e]; rfl)
    have wl : IntKind.i64.wrap ((n : Int) - 1) = ((n - 1 : Nat) : Int) := by rw [wrap64_in (by omega) (by omega)]; omega
    refine And.intro (by rw [wl]; omega) ?_
    refine And.intro (by rw [wl]; omega) ?_
    have e : (out.getD (0 + (IntKind.i64.wrap ((n : Int) - 1)).toNat) zR).seq = seqF out n := by rw [wl, Int.toNat_natCast, Nat.zero_add, seqF, hm, if_neg h']
    repeat (first | refine And.intro (by kernel_rfl) ?_ | refine And.intro (by decide) ?_)
    exact ⟨(), trivial, .id (congrArg (int .i64) e) ⟨.inl rfl, trivial⟩⟩
set_option maxHeartbeats 3200000 in
set_option maxRecDepth 10000 in
theorem seqJ_fc (out : List Rcd) (n : Nat) (hn : n ≤ 1000000) (hl : out.length ≤ 100000) : FC Try.prog 58 [.o (.c (.s 0 0 out.length 16)), int .i64 n] [recs out false] (int .i64 (seqF out n)) [recs out false] := by
  refine FC.one (FC.rj mix Try.func58 ?_)
  have ek : (if true = true then (if (out.length : Int) < (n : Int) then (out.length : Int) else (n : Int)) else (if (out.length : Int) > (n : Int) then (out.length : Int) else (n : Int))) = ((min n out.length : Nat) : Int) := by
    rw [if_pos rfl]
    split <;> omega
  obtain ⟨m, hm⟩ : ∃ m, m = min n out.length := ⟨_, rfl⟩
  have hml : m ≤ out.length := by omega
  rw [← hm] at ek
  repeat (first | refine And.intro (by kernel_rfl) ?_ | refine And.intro (by decide) ?_)
  conv => whnf
  rw [ek]
  clear ek
  repeat (first | refine And.intro (by kernel_rfl) ?_ | refine And.intro (by decide) ?_)
  refine bselE (fun h => ?_) (fun h => ?_)
  · have e : (0 : Int) = seqF out n := by rw [seqF, ← hm, if_pos (by omega)]
    repeat (first | refine And.intro (by kernel_rfl) ?_ | refine And.intro (by decide) ?_)
    exact ⟨(), trivial, .id (congrArg (int .i64) e) ⟨.inl rfl, trivial⟩⟩
  · have h' : m ≠ 0 := fun e => h (by rw [e]; rfl)
    have wl : IntKind.i64.wrap ((m : Int) - 1) = ((m - 1 : Nat) : Int) := by rw [wrap64_in (by omega) (by omega)]; omega
    refine And.intro (by rw [wl]; omega) ?_
    refine And.intro (by rw [wl]; omega) ?_
    have e : (out.getD (0 + (IntKind.i64.wrap ((m : Int) - 1)).toNat) zR).seq = seqF out n := by rw [wl, Int.toNat_natCast, Nat.zero_add, seqF, ← hm, if_neg h']
    repeat (first | refine And.intro (by kernel_rfl) ?_ | refine And.intro (by decide) ?_)
    exact ⟨(), trivial, .id (congrArg (int .i64) e) ⟨.inl rfl, trivial⟩⟩
end Go.Sx.T1
namespace Go.Sx.T1
open Go.Proofs Go.Sx.Crc
/-! journal.of, ref20.of -/
def jV (nm : Nat) (n : Nat) (sy a b : Int) : V1 := .a [.s nm 0 n 1, .v (.int .i64 sy), .v (.int .i64 a), .v (.int .i64 b)]
theorem quo53 {sy : Nat} (h : sy ≤ 100000) : IntKind.i64.wrap ((sy : Int).tdiv 53) = ((sy / 53 : Nat) : Int) := by
  rw [show ((sy : Int).tdiv 53) = ((sy / 53 : Nat) : Int) from rfl]
  exact wrap64_in (by omega) (by omega)
set_option maxHeartbeats 3200000 in
set_option maxRecDepth 10000 in
theorem ofJ_fc (l : List Nat) (sy : Nat) (out : List Rcd) (hl : l.length ≤ 100000) (hs : sy ≤ 100000) (ho : out.length ≤ 100000) :
    FC Try.prog 34 [.o (.a [.s 0 0 l.length 1, .v (.int .i64 sy)]), .o (.c (.s 1 0 out.length 16))] [u8n l false, recs out false] (.o (jV 0 l.length sy (seqF out out.length) (seqF out (sy / 53)))) [u8n l false, recs out false] := by
  refine FC.one (FC.rj mix Try.func34 ?_)
  repeat (first | refine And.intro (by kernel_rfl) ?_ | refine And.intro (by decide) ?_)
  refine FC.u (seqJ_fc out out.length (by omega) ho) [1] ?_
  conv => whnf
  rw [quo53 hs]
  repeat (first | refine And.intro (by kernel_rfl) ?_ | refine And.intro (by decide) ?_)
  refine FC.u (seqJ_fc out (sy / 53) (by omega) ho) [1] ?_
  repeat (first | refine And.intro (by kernel_rfl) ?_ | refine And.intro (by decide) ?_)
  exact ⟨(), trivial, .id rfl ⟨.inl rfl, .inl rfl, trivial⟩⟩
set_option maxHeartbeats 3200000 in
set_option maxRecDepth 10000 in
theorem ofR_fc (l : List Nat) (sy : Nat) (hl : l.length ≤ 100000) (hb : By l) (hs : sy / 53 ≤ (scanN l.length l 0).length) (ho : (scanN l.length l 0).length ≤ 100000) (hs1 : sy ≤ 100000) :
    FC Try.prog 66 [.o (.a [.s 0 0 l.length 1, .v (.int .i64 sy)])] [u8n l false] (.o (jV 1 l.length sy (seqF (scanN l.length l 0) (scanN l.length l 0).length) (seqF (scanN l.length l 0) (sy / 53)))) [u8n l false, u8n l true] := by
  refine FC.one (FC.rj mix Try.func66 ?_)
  repeat (first | refine And.intro (by kernel_rfl) ?_ | refine And.intro (by decide) ?_)
  refine FC.u (read20_fc l hl hb) [0] ?_
  repeat (first | refine And.intro (by kernel_rfl) ?_ | refine And.intro (by decide) ?_)
  have cp : FC Try.prog 42 [.o (.a [.s 0 0 l.length 1, .v (.int .i64 sy)])] [u8n l false] (.o (.a [.s 1 0 l.length 1, .v (.int .i64 sy)])) [u8n l false, u8n l true] := by
    have := copy_fc (zl l) sy (by rw [zl_len]; omega)
    unfold dvS at this
    rw [zl_len] at this
    exact this
  refine FC.u cp [0] ?_
  repeat (first | refine And.intro (by kernel_rfl) ?_ | refine And.intro (by decide) ?_)
  refine FC.u (seqR_fc (scanN l.length l 0) _ (Nat.le_refl _) ho) [3] ?_
  repeat (first | refine And.intro (by kernel_rfl) ?_ | refine And.intro (by decide) ?_)
  conv => whnf
  rw [quo53 hs1]
  repeat (first | refine And.intro (by kernel_rfl) ?_ | refine And.intro (by decide) ?_)
  refine FC.u (seqR_fc (scanN l.length l 0) (sy / 53) hs ho) [3] ?_
  repeat (first | refine And.intro (by kernel_rfl) ?_ | refine And.intro (by decide) ?_)
  exact ⟨(), trivial, isEnd.go [(1, .to 4)] rfl ⟨.inl rfl, .inl rfl, trivial⟩⟩
end Go.Sx.T1
namespace Go.Sx.T1
open Go.Proofs Go.Sx.Crc
/-! journal.read -/
theorem scanN_len : ∀ (n : Nat) (l : List Nat) (q : Int), 53 * (scanN n l q).length ≤ l.length
  | 0, _, _ => by rw [scanN]; exact Nat.zero_le _
  | n + 1, l, q => by
    rw [scanN]
    split
    · exact Nat.zero_le _
    · rename_i h
      have h0 : (decF l).2 = 0 := Classical.not_not.1 fun hh => h (.inl hh)
      have h1 := decF_short h0
      have ih := scanN_len n (l.drop 53) (decF l).1.seq
      rw [List.length_drop] at ih
      rw [List.length_cons]
      omega
noncomputable def readF (l : List Nat) (sy a b : Int) : List Rcd × Bool :=
  if validD (zl l) sy = false then ([], false)
  else (scanN l.length l 0, ((53 * ((scanN l.length l 0).length : Int) == (l.length : Int)) && (a == seqF (scanN l.length l 0) (scanN l.length l 0).length)) && (b == seqF (scanN l.length l 0) (sy.toNat / 53)))
def readS (d : List Rcd × Bool) : SV := .t [.c (.s 1 0 d.1.length 16), .c (.v (.bool d.2))]
theorem validD_sy {l : List Nat} {sy : Int} (h : ¬ validD (zl l) sy = false) : l.length ≤ 16384 ∧ 0 ≤ sy ∧ sy ≤ l.length := by
  have h' : validD (zl l) sy = true := by simpa using h
  unfold validD at h'
  rw [zl_len] at h'
  simpa using h'
theorem scan_x (l : List Nat) (hl : l.length ≤ 100000) (hb : By l) : ∃ out : List Rcd, FC Try.prog 32 [.o (.c (.s 0 0 l.length 1))] [u8n l false] (.o (.c (.s 3 0 out.length 16))) [u8n l false, none, none, recs out true] ∧ out = scanN l.length l 0 := ⟨_, scan_fc l hl hb, rfl⟩
set_option maxHeartbeats 3200000 in
set_option maxRecDepth 10000 in
theorem readJ_fc (l : List Nat) (sy a b : Int) (hl : l.length ≤ 100000) (hb : By l) :
    ∃ d : List Rcd × Bool, FC Try.prog 43 [.o (jV 0 l.length sy a b)] [u8n l false] (readS d) [u8n l false, recs d.1 true] ∧ d = readF l sy a b := by
  refine FC.rj mix Try.func43 ?_
  have hv : FC Try.prog 31 [.o (.a [.s 0 0 l.length 1, .v (.int .i64 sy)])] [u8n l false] (boo (validD (zl l) sy)) [u8n l false] := by
    have := validD_fc (zl l) sy
    unfold dvS at this
    rw [zl_len] at this
    exact this
  repeat (first | refine And.intro (by kernel_rfl) ?_ | refine And.intro (by decide) ?_)
  refine FC.u hv [0] ?_
  refine bselNot (bsel_intro (fun h => ?_) (fun h => ?_))
  rotate_left
  · repeat (first | refine And.intro (by kernel_rfl) ?_ | refine And.intro (by decide) ?_)
    exact ⟨([], false), by rw [readF, if_pos h], isEnd.go [(1, .new 16)] rfl ⟨.inl rfl, ⟨.inr ⟨rfl, Nat.le_of_ble_eq_true rfl, fun _ h => absurd h (Nat.not_lt_zero _)⟩, rfl⟩, trivial⟩⟩
  obtain ⟨h1, h2, h3⟩ := validD_sy (l := l) (sy := sy) (by rw [h]; simp)
  obtain ⟨sy, rfl⟩ : ∃ n : Nat, sy = n := ⟨sy.toNat, by omega⟩
  have hsl := scanN_len l.length l 0
  repeat (first | refine And.intro (by kernel_rfl) ?_ | refine And.intro (by decide) ?_)
  refine FC.x (scan_x l hl hb) [0] (fun out hout => ?_)
  rw [← hout] at hsl
  repeat (first | refine And.intro (by kernel_rfl) ?_ | refine And.intro (by decide) ?_)
  refine FC.u (ofJ_fc l sy out hl (by omega) (by omega)) [0, 4] ?_
  repeat (first | refine And.intro (by kernel_rfl) ?_ | refine And.intro (by decide) ?_)
  have w53 : IntKind.i64.wrap ((out.length : Int) * 53) = ((out.length * 53 : Nat) : Int) := wrap64_in (by omega) (by omega)
  conv => whnf
  rw [w53]
  repeat (first | refine And.intro (by kernel_rfl) ?_ | refine And.intro (by decide) ?_)
  have hF : ∀ d2 : Bool, d2 = ((53 * (out.length : Int) == (l.length : Int)) && (a == seqF out out.length) && (b == seqF out (sy / 53))) → (out, d2) = readF l sy a b := fun d2 e => by
    rw [readF, if_neg (by rw [h]; simp), ← hout, e, Int.toNat_natCast]
  refine bselE (fun c1 => ?_) (fun c1 => ?_)
  · refine bselE (fun c2 => ?_) (fun c2 => ?_)
    · repeat (first | refine And.intro (by kernel_rfl) ?_ | refine And.intro (by decide) ?_)
      exact ⟨(out, b == seqF out (sy / 53)), hF _ (by rw [beq_iff_eq.2 (show 53 * (out.length : Int) = (l.length : Int) by omega), beq_iff_eq.2 c2]; rfl), isEnd.go [(1, .to 4)] rfl ⟨.inl rfl, .inl rfl, trivial⟩⟩
    · repeat (first | refine And.intro (by kernel_rfl) ?_ | refine And.intro (by decide) ?_)
      exact ⟨(out, false), hF _ (by rw [beq_eq_false_iff_ne.2 c2, Bool.and_false, Bool.false_and]), isEnd.go [(1, .to 4)] rfl ⟨.inl rfl, .inl rfl, trivial⟩⟩
  · repeat (first | refine And.intro (by kernel_rfl) ?_ | refine And.intro (by decide) ?_)
    exact ⟨(out, false), hF _ (by rw [beq_eq_false_iff_ne.2 (show 53 * (out.length : Int) ≠ (l.length : Int) by omega), Bool.false_and, Bool.false_and]), isEnd.go [(1, .to 4)] rfl ⟨.inl rfl, .inl rfl, trivial⟩⟩
end Go.Sx.T1
namespace Go.Sx.T1
open Go.Proofs Go.Sx.Crc
/-! Valid, Records -/
set_option maxHeartbeats 3200000 in
set_option maxRecDepth 10000 in
theorem validJ_fc (l : List Nat) (sy a b : Int) (hl : l.length ≤ 100000) (hb : By l) :
    ∃ v : Bool, FC Try.prog 19 [.o (jV 0 l.length sy a b)] [u8n l false] (boo v) [u8n l false] ∧ v = (readF l sy a b).2 := by
  refine FC.rj mix Try.func19 ?_
  repeat (first | refine And.intro (by kernel_rfl) ?_ | refine And.intro (by decide) ?_)
  refine FC.x (readJ_fc l sy a b hl hb) [0] (fun d hd => ?_)
  repeat (first | refine And.intro (by kernel_rfl) ?_ | refine And.intro (by decide) ?_)
  exact ⟨d.2, by rw [hd], .id rfl ⟨.inl rfl, trivial⟩⟩
noncomputable def recsF (l : List Nat) (sy a b : Int) : List Rcd := if (readF l sy a b).2 = true then (readF l sy a b).1 else []
set_option maxHeartbeats 3200000 in
set_option maxRecDepth 10000 in
theorem recordsJ_fc (l : List Nat) (sy a b : Int) (hl : l.length ≤ 100000) (hb : By l) :
    ∃ o : List Rcd, FC Try.prog 17 [.o (jV 0 l.length sy a b)] [u8n l false] (.o (.c (.s 1 0 o.length 16))) [u8n l false, recs o true] ∧ o = recsF l sy a b := by
  refine FC.rj mix Try.func17 ?_
  repeat (first | refine And.intro (by kernel_rfl) ?_ | refine And.intro (by decide) ?_)
  refine FC.x (readJ_fc l sy a b hl hb) [0] (fun d hd => ?_)
  obtain ⟨out, v⟩ := d
  have hd2 : recsF l sy a b = if v = true then out else [] := by rw [recsF, ← hd]
  clear hd
  repeat (first | refine And.intro (by kernel_rfl) ?_ | refine And.intro (by decide) ?_)
  refine bselNot (bsel_intro (fun h => ?_) (fun h => ?_))
  · repeat (first | refine And.intro (by kernel_rfl) ?_ | refine And.intro (by decide) ?_)
    exact ⟨out, by rw [hd2, if_pos h], isEnd.go [(1, .to 2)] rfl ⟨.inl rfl, .inl rfl, trivial⟩⟩
  · repeat (first | refine And.intro (by kernel_rfl) ?_ | refine And.intro (by decide) ?_)
    exact ⟨[], by rw [hd2, if_neg (fun h1 => by have h2 : v = false := h; rw [h1] at h2; cases h2)], isEnd.go [(1, .new 16)] rfl ⟨.inl rfl, ⟨.inr ⟨rfl, Nat.le_of_ble_eq_true rfl, fun _ h => absurd h (Nat.not_lt_zero _)⟩, rfl⟩, trivial⟩⟩
theorem read20_x (l : List Nat) (hl : l.length ≤ 100000) (hb : By l) : ∃ out : List Rcd, FC Try.prog 49 [.o (.c (.s 0 0 l.length 1))] [u8n l false] (.o (.c (.s 1 0 out.length 16))) [u8n l false, recs out true] ∧ out = scanN l.length l 0 := ⟨_, read20_fc l hl hb, rfl⟩
theorem ofR_x (l : List Nat) (sy : Nat) (out : List Rcd) (hl : l.length ≤ 100000) (hb : By l) (ho : out = scanN l.length l 0) (hs : sy / 53 ≤ out.length) (hs1 : sy ≤ 100000) :
    FC Try.prog 66 [.o (.a [.s 0 0 l.length 1, .v (.int .i64 sy)])] [u8n l false] (.o (jV 1 l.length sy (seqF out out.length) (seqF out (sy / 53)))) [u8n l false, u8n l true] := by
  subst ho
  have := scanN_len l.length l 0
  exact ofR_fc l sy hl hb hs (by omega) hs1
set_option maxHeartbeats 3200000 in
set_option maxRecDepth 10000 in
theorem validR20_fc (l : List Nat) (sy a b : Int) (hl : l.length ≤ 100000) (hb : By l) :
    ∃ v : Bool, FC Try.prog 48 [.o (jV 0 l.length sy a b)] [u8n l false] (boo v) [u8n l false] ∧ v = (readF l sy a b).2 := by
  refine FC.rj mix Try.func48 ?_
  have hv : FC Try.prog 41 [.o (.a [.s 0 0 l.length 1, .v (.int .i64 sy)])] [u8n l false] (boo (validD (zl l) sy)) [u8n l false] := by
    have := validDR_fc (zl l) sy
    unfold dvS at this
    rw [zl_len] at this
    exact this
  repeat (first | refine And.intro (by kernel_rfl) ?_ | refine And.intro (by decide) ?_)
  refine FC.u hv [0] ?_
  refine bselNot (bsel_intro (fun h => ?_) (fun h => ?_))
  rotate_left
  · repeat (first | refine And.intro (by kernel_rfl) ?_ | refine And.intro (by decide) ?_)
    exact ⟨false, by rw [readF, if_pos h], .id rfl ⟨.inl rfl, trivial⟩⟩
  obtain ⟨h1, h2, h3⟩ := validD_sy (l := l) (sy := sy) (by rw [h]; simp)
  obtain ⟨sy, rfl⟩ : ∃ n : Nat, sy = n := ⟨sy.toNat, by omega⟩
  have hsl := scanN_len l.length l 0
  repeat (first | refine And.intro (by kernel_rfl) ?_ | refine And.intro (by decide) ?_)
  refine FC.x (read20_x l hl hb) [0] (fun out hout => ?_)
  rw [← hout] at hsl
  have hF : ∀ d2 : Bool, d2 = ((53 * (out.length : Int) == (l.length : Int)) && (a == seqF out out.length) && (b == seqF out (sy / 53))) → d2 = (readF l sy a b).2 := fun d2 e => by
    rw [readF, if_neg (by rw [h]; simp), ← hout, e, Int.toNat_natCast]
  have w53 : IntKind.i64.wrap ((out.length : Int) * 53) = ((out.length * 53 : Nat) : Int) := wrap64_in (by omega) (by omega)
  conv => whnf
  rw [w53]
  repeat (first | refine And.intro (by kernel_rfl) ?_ | refine And.intro (by decide) ?_)
  refine bselN (fun c1 => ?_) (fun c1 => ?_)
  · repeat (first | refine And.intro (by kernel_rfl) ?_ | refine And.intro (by decide) ?_)
    exact ⟨false, hF _ (by rw [beq_eq_false_iff_ne.2 (show 53 * (out.length : Int) ≠ (l.length : Int) by omega), Bool.false_and, Bool.false_and]), .id rfl ⟨.inl rfl, trivial⟩⟩
  have e1 : (53 * (out.length : Int) == (l.length : Int)) = true := beq_iff_eq.2 (by omega)
  repeat (first | refine And.intro (by kernel_rfl) ?_ | refine And.intro (by decide) ?_)
  refine FC.u (ofR_x l sy out hl hb hout (by omega) (by omega)) [0] ?_
  repeat (first | refine And.intro (by kernel_rfl) ?_ | refine And.intro (by decide) ?_)
  refine bselE (fun c2 => ?_) (fun c2 => ?_)
  · repeat (first | refine And.intro (by kernel_rfl) ?_ | refine And.intro (by decide) ?_)
    exact ⟨seqF out (sy / 53) == b, hF _ (by rw [e1, beq_iff_eq.2 (show a = seqF out out.length from c2.symm)]; exact Bool.eq_iff_iff.2 ⟨fun h => beq_iff_eq.2 (beq_iff_eq.1 h).symm, fun h => beq_iff_eq.2 (beq_iff_eq.1 h).symm⟩), .id rfl ⟨.inl rfl, trivial⟩⟩
  · repeat (first | refine And.intro (by kernel_rfl) ?_ | refine And.intro (by decide) ?_)
    exact ⟨false, hF _ (by rw [beq_eq_false_iff_ne.2 (show a ≠ seqF out out.length from fun h => c2 h.symm), Bool.and_false, Bool.false_and]), .id rfl ⟨.inl rfl, trivial⟩⟩
set_option maxHeartbeats 3200000 in
set_option maxRecDepth 10000 in
theorem recordsR_fc (l : List Nat) (sy a b : Int) (hl : l.length ≤ 100000) (hb : By l) :
    ∃ o : List Rcd, FC Try.prog 21 [.o (jV 0 l.length sy a b)] [u8n l false] (.o (.c (.s 1 0 o.length 16))) [u8n l false, recs o true] ∧ o = recsF l sy a b := by
  refine FC.rj mix Try.func21 ?_
  repeat (first | refine And.intro (by kernel_rfl) ?_ | refine And.intro (by decide) ?_)
  refine FC.x (validR20_fc l sy a b hl hb) [0] (fun v hv => ?_)
  repeat (first | refine And.intro (by kernel_rfl) ?_ | refine And.intro (by decide) ?_)
  refine bselNot (bsel_intro (fun h => ?_) (fun h => ?_))
  · repeat (first | refine And.intro (by kernel_rfl) ?_ | refine And.intro (by decide) ?_)
    refine FC.x (read20_x l hl hb) [0] (fun out hout => ?_)
    have e : out = recsF l sy a b := by
      have hv' : (readF l sy a b).2 = true := by rw [← hv]; exact h
      rw [recsF, if_pos hv']
      unfold readF at hv' ⊢
      split
      · rename_i h1; rw [if_pos h1] at hv'; cases hv'
      · exact hout
    repeat (first | refine And.intro (by kernel_rfl) ?_ | refine And.intro (by decide) ?_)
    exact ⟨out, e, isEnd.go [(1, .to 2)] rfl ⟨.inl rfl, .inl rfl, trivial⟩⟩
  · repeat (first | refine And.intro (by kernel_rfl) ?_ | refine And.intro (by decide) ?_)
    exact ⟨[], by rw [recsF, if_neg (fun h1 => by have h2 : v = false := h; rw [hv, h1] at h2; cases h2)], isEnd.go [(1, .new 16)] rfl ⟨.inl rfl, ⟨.inr ⟨rfl, Nat.le_of_ble_eq_true rfl, fun _ h => absurd h (Nat.not_lt_zero _)⟩, rfl⟩, trivial⟩⟩
end Go.Sx.T1
namespace Go.Sx.T1
open Go.Proofs Go.Sx.Crc
/-! a journal of its own; Open -/
structure JR where
  l : List Nat
  sy : Int
  a : Int
  b : Int
  e : Int
def jrS (r : JR) : SV := .t [jV 1 r.l.length r.sy r.a r.b, .c (.v (.int .i64 r.e))]
theorem copyD_fc (l : List Nat) (sy : Int) (hl : l.length ≤ 100000) : FC Try.prog 42 [.o (.a [.s 0 0 l.length 1, .v (.int .i64 sy)])] [u8n l false] (.o (.a [.s 1 0 l.length 1, .v (.int .i64 sy)])) [u8n l false, u8n l true] := by
  have := copy_fc (zl l) sy (by rw [zl_len]; omega)
  unfold dvS at this
  rw [zl_len] at this
  exact this
set_option maxHeartbeats 3200000 in
set_option maxRecDepth 10000 in
theorem copyJ_fc (l : List Nat) (sy a b : Int) (hl : l.length ≤ 100000) : FC Try.prog 67 [.o (jV 0 l.length sy a b)] [u8n l false] (.o (jV 1 l.length sy a b)) [u8n l false, u8n l true] := by
  refine FC.one (FC.rj mix Try.func67 ?_)
  repeat (first | refine And.intro (by kernel_rfl) ?_ | refine And.intro (by decide) ?_)
  refine FC.u (copyD_fc l sy hl) [0] ?_
  repeat (first | refine And.intro (by kernel_rfl) ?_ | refine And.intro (by decide) ?_)
  exact ⟨(), trivial, isEnd.go [(1, .to 3)] rfl ⟨.inl rfl, .inl rfl, trivial⟩⟩
theorem cloneB (l : List Nat) (hl : l.length ≤ 100000) : FC Try.prog 59 [.o (.c (.s 0 0 l.length 1))] [u8n l false] (.o (.c (.s 1 0 l.length 1))) [u8n l false, u8n l true] := by
  have := clone_full (zl l) (by rw [zl_len]; omega)
  rw [zl_len] at this
  exact this
set_option maxHeartbeats 3200000 in
set_option maxRecDepth 10000 in
theorem privJ_fc (l : List Nat) (sy a b : Int) (hl : l.length ≤ 100000) : FC Try.prog 37 [.o (jV 0 l.length sy a b)] [u8n l false] (.o (jV 1 l.length sy a b)) [u8n l false, u8n l true] := by
  refine FC.one (FC.rj mix Try.func37 ?_)
  repeat (first | refine And.intro (by kernel_rfl) ?_ | refine And.intro (by decide) ?_)
  refine FC.u (cloneB l hl) [0] ?_
  repeat (first | refine And.intro (by kernel_rfl) ?_ | refine And.intro (by decide) ?_)
  exact ⟨(), trivial, isEnd.go [(1, .to 3)] rfl ⟨.inl rfl, .inl rfl, trivial⟩⟩
end Go.Sx.T1
namespace Go.Sx.T1
open Go.Proofs Go.Sx.Crc
/-! a record is read from its own 53 bytes -/
theorem gP_take {l : List Nat} {a n m : Nat} (h : a + n ≤ m) : gP (l.take m) a n = gP l a n := by
  unfold gP
  rw [List.drop_take, List.take_take, Nat.min_eq_left (by omega)]
theorem decF_take {l : List Nat} {m : Nat} (hm : 53 ≤ m) (hl : 53 ≤ l.length) : decF (l.take m) = decF l := by
  have h1 : ¬ (l.take m).length < 53 := by rw [List.length_take]; omega
  have h2 : ¬ l.length < 53 := by omega
  unfold decF rcG plP
  rw [if_neg h1, if_neg h2, gP_take (l := l) (show 49 + 4 ≤ m by omega), gP_take (l := l) (show 21 + 8 ≤ m by omega), gP_take (l := l) (show 29 + 8 ≤ m by omega), gP_take (l := l) (show 4 + 8 ≤ m by omega), gP_take (l := l) (show 12 + 8 ≤ m by omega), gP_take (l := l) (show 20 + 1 ≤ m by omega),
    gP_take (l := l) (show 37 + 2 * 0 + 2 ≤ m by omega), gP_take (l := l) (show 37 + 2 * 1 + 2 ≤ m by omega), gP_take (l := l) (show 37 + 2 * 2 + 2 ≤ m by omega), gP_take (l := l) (show 37 + 2 * 3 + 2 ≤ m by omega), gP_take (l := l) (show 37 + 2 * 4 + 2 ≤ m by omega), gP_take (l := l) (show 37 + 2 * 5 + 2 ≤ m by omega),
    List.take_take, List.take_take, Nat.min_eq_left (show 4 ≤ m by omega), Nat.min_eq_left (show 49 ≤ m by omega)]
theorem scanN_nil (n : Nat) (q : Int) : scanN n [] q = [] := by
  cases n with
  | zero => rw [scanN]
  | succ n =>
    have h0 : (decF []).2 ≠ 0 := fun h => absurd (decF_short h) (by decide)
    rw [scanN, if_pos (.inl h0)]
theorem scanN_take : ∀ (n : Nat) (l : List Nat) (q : Int) (n' : Nat), (scanN n l q).length ≤ n' → scanN n' (l.take (53 * (scanN n l q).length)) q = scanN n l q
  | 0, l, q, n', _ => by
    have e : scanN 0 l q = [] := by rw [scanN]
    rw [e, List.length_nil, Nat.mul_zero, List.take_zero, scanN_nil]
  | n + 1, l, q, n', h => by
    by_cases hc : (decF l).2 ≠ 0 ∨ (decF l).1.seq ≤ q
    · have e : scanN (n + 1) l q = [] := by rw [scanN, if_pos hc]
      rw [e, List.length_nil, Nat.mul_zero, List.take_zero, scanN_nil]
    · have e : scanN (n + 1) l q = (decF l).1 :: scanN n (l.drop 53) (decF l).1.seq := by rw [scanN, if_neg hc]
      rw [e, List.length_cons] at h
      rw [e, List.length_cons]
      have h0 : (decF l).2 = 0 := Classical.not_not.1 fun hh => hc (.inl hh)
      have h53 := decF_short h0
      have hd : decF (l.take (53 * ((scanN n (l.drop 53) (decF l).1.seq).length + 1))) = decF l := decF_take (by omega) h53
      cases n' with
      | zero => omega
      | succ n' =>
        rw [scanN, hd, if_neg hc]
        congr 1
        rw [List.drop_take, show 53 * ((scanN n (l.drop 53) (decF l).1.seq).length + 1) - 53 = 53 * (scanN n (l.drop 53) (decF l).1.seq).length by omega]
        exact scanN_take n (l.drop 53) (decF l).1.seq n' (by omega)
end Go.Sx.T1
namespace Go.Sx.T1
open Go.Proofs Go.Sx.Crc
/-! Open -/
theorem cutD_nat {l : List Nat} {sy n : Nat} (h : validD (zl l) sy = true) (hn : n ≤ l.length) : cutD (zl l) sy n = ⟨zl (l.take n), ((min sy n : Nat) : Int), 0⟩ := by
  unfold cutD
  rw [if_neg (by rw [h]; simp), if_neg (by rw [zl_len]; omega), Int.toNat_natCast, take_get l n 0]
  congr 1
  split <;> omega
theorem cutM_fc (l : List Nat) (sy n : Nat) (hl : l.length ≤ 100000) (h : validD (zl l) sy = true) (hn : n ≤ l.length) (N : Nat) (hN : N = (l.take n).length) :
    FC Try.prog 33 [.o (.a [.s 0 0 l.length 1, .v (.int .i64 sy)]), int .i64 n] [u8n l false] (.t [.a [.s 1 0 N 1, .v (.int .i64 (min sy n : Nat))], .c (.v (.int .i64 0))]) [u8n l false, u8n (l.take n) true] := by
  subst hN
  have := cut_fc (zl l) sy n (by rw [zl_len]; omega)
  rw [cutD_nat h hn] at this
  unfold drV dvS at this
  simp only [zl_len] at this
  exact this
theorem cutR_n (l : List Nat) (sy n : Nat) (hl : l.length ≤ 100000) (h : validD (zl l) sy = true) (hn : n ≤ l.length) (N : Nat) (hN : N = (l.take n).length) :
    FC Try.prog 23 [.o (.a [.s 0 0 l.length 1, .v (.int .i64 sy)]), int .i64 n] [u8n l false] (.t [.a [.s 1 0 N 1, .v (.int .i64 (min sy n : Nat))], .c (.v (.int .i64 0))]) [u8n l false, u8n (l.take n) true] := by
  subst hN
  have := cutR_fc (zl l) sy n (by rw [zl_len]; omega)
  rw [cutD_nat h hn] at this
  unfold drV dvS at this
  simp only [zl_len] at this
  exact this
noncomputable def openF (l : List Nat) (sy : Int) : JR :=
  if validD (zl l) sy = false then ⟨[], 0, 0, 0, 1⟩
  else ⟨l.take ((scanN l.length l 0).length * 53), ((min sy.toNat ((scanN l.length l 0).length * 53) : Nat) : Int), seqF (scanN l.length l 0) (scanN l.length l 0).length, seqF (scanN l.length l 0) (min sy.toNat ((scanN l.length l 0).length * 53) / 53), 0⟩
set_option maxHeartbeats 3200000 in
set_option maxRecDepth 10000 in
theorem openJ_fc (l : List Nat) (sy : Int) (hl : l.length ≤ 100000) (hb : By l) :
    ∃ r : JR, FC Try.prog 11 [.o (.a [.s 0 0 l.length 1, .v (.int .i64 sy)])] [u8n l false] (jrS r) [u8n l false, u8n r.l true] ∧ r = openF l sy := by
  refine FC.rj mix Try.func11 ?_
  have hv : FC Try.prog 31 [.o (.a [.s 0 0 l.length 1, .v (.int .i64 sy)])] [u8n l false] (boo (validD (zl l) sy)) [u8n l false] := by
    have := validD_fc (zl l) sy
    unfold dvS at this
    rw [zl_len] at this
    exact this
  repeat (first | refine And.intro (by kernel_rfl) ?_ | refine And.intro (by decide) ?_)
  refine FC.u hv [0] ?_
  refine bselNot (bsel_intro (fun h => ?_) (fun h => ?_))
  rotate_left
  · repeat (first | refine And.intro (by kernel_rfl) ?_ | refine And.intro (by decide) ?_)
    exact ⟨⟨[], 0, 0, 0, 1⟩, by rw [openF, if_pos h], isEnd.go [(1, .new 1)] rfl ⟨.inl rfl, newI 1 rfl, trivial⟩⟩
  obtain ⟨h1, h2, h3⟩ := validD_sy (l := l) (sy := sy) (by rw [h]; simp)
  obtain ⟨sy, rfl⟩ : ∃ n : Nat, sy = n := ⟨sy.toNat, by omega⟩
  have hsl := scanN_len l.length l 0
  repeat (first | refine And.intro (by kernel_rfl) ?_ | refine And.intro (by decide) ?_)
  refine FC.x (scan_x l hl hb) [0] (fun out hout => ?_)
  have hF : openF l sy = ⟨l.take (out.length * 53), ((min sy (out.length * 53) : Nat) : Int), seqF out out.length, seqF out (min sy (out.length * 53) / 53), 0⟩ := by
    rw [openF, if_neg (by rw [h]; simp), ← hout, Int.toNat_natCast]
  rw [← hout] at hsl
  have w53 : IntKind.i64.wrap ((out.length : Int) * 53) = ((out.length * 53 : Nat) : Int) := wrap64_in (by omega) (by omega)
  have nN : (l.take (out.length * 53)).length = out.length * 53 := by rw [List.length_take]; omega
  repeat (first | refine And.intro (by kernel_rfl) ?_ | refine And.intro (by decide) ?_)
  conv => whnf
  rw [w53]
  repeat (first | refine And.intro (by kernel_rfl) ?_ | refine And.intro (by decide) ?_)
  refine FC.u (cutM_fc l sy (out.length * 53) hl h (by omega) (l.take (out.length * 53)).length rfl) [0] ?_
  repeat (first | refine And.intro (by kernel_rfl) ?_ | refine And.intro (by decide) ?_)
  refine FC.u (ofJ_fc (l.take (out.length * 53)) (min sy (out.length * 53)) out (by omega) (by omega) (by omega)) [6, 5] ?_
  repeat (first | refine And.intro (by kernel_rfl) ?_ | refine And.intro (by decide) ?_)
  exact ⟨_, hF.symm, isEnd.go [(1, .to 6)] rfl ⟨.inl rfl, .inl rfl, trivial⟩⟩
theorem scan_cut {l : List Nat} {out : List Rcd} (h : out = scanN l.length l 0) : out = scanN (l.take (out.length * 53)).length (l.take (out.length * 53)) 0 := by
  have hs := scanN_len l.length l 0
  have := scanN_take l.length l 0 (l.take ((scanN l.length l 0).length * 53)).length (by rw [List.length_take]; omega)
  subst h
  rw [Nat.mul_comm (scanN l.length l 0).length 53] at this ⊢
  exact this.symm
set_option maxHeartbeats 3200000 in
set_option maxRecDepth 10000 in
theorem openR_fc (l : List Nat) (sy : Int) (hl : l.length ≤ 100000) (hb : By l) :
    ∃ r : JR, FC Try.prog 44 [.o (.a [.s 0 0 l.length 1, .v (.int .i64 sy)])] [u8n l false] (jrS r) [u8n l false, u8n r.l true] ∧ r = openF l sy := by
  refine FC.rj mix Try.func44 ?_
  have hv : FC Try.prog 41 [.o (.a [.s 0 0 l.length 1, .v (.int .i64 sy)])] [u8n l false] (boo (validD (zl l) sy)) [u8n l false] := by
    have := validDR_fc (zl l) sy
    unfold dvS at this
    rw [zl_len] at this
    exact this
  repeat (first | refine And.intro (by kernel_rfl) ?_ | refine And.intro (by decide) ?_)
  refine FC.u hv [0] ?_
  refine bselNot (bsel_intro (fun h => ?_) (fun h => ?_))
  rotate_left
  · repeat (first | refine And.intro (by kernel_rfl) ?_ | refine And.intro (by decide) ?_)
    exact ⟨⟨[], 0, 0, 0, 1⟩, by rw [openF, if_pos h], isEnd.go [(1, .new 1)] rfl ⟨.inl rfl, newI 1 rfl, trivial⟩⟩
  obtain ⟨h1, h2, h3⟩ := validD_sy (l := l) (sy := sy) (by rw [h]; simp)
  obtain ⟨sy, rfl⟩ : ∃ n : Nat, sy = n := ⟨sy.toNat, by omega⟩
  have hsl := scanN_len l.length l 0
  repeat (first | refine And.intro (by kernel_rfl) ?_ | refine And.intro (by decide) ?_)
  refine FC.x (read20_x l hl hb) [0] (fun out hout => ?_)
  have hF : openF l sy = ⟨l.take (out.length * 53), ((min sy (out.length * 53) : Nat) : Int), seqF out out.length, seqF out (min sy (out.length * 53) / 53), 0⟩ := by
    rw [openF, if_neg (by rw [h]; simp), ← hout, Int.toNat_natCast]
  rw [← hout] at hsl
  have w53 : IntKind.i64.wrap ((out.length : Int) * 53) = ((out.length * 53 : Nat) : Int) := wrap64_in (by omega) (by omega)
  have nN : (l.take (out.length * 53)).length = out.length * 53 := by rw [List.length_take]; omega
  repeat (first | refine And.intro (by kernel_rfl) ?_ | refine And.intro (by decide) ?_)
  conv => whnf
  rw [w53]
  repeat (first | refine And.intro (by kernel_rfl) ?_ | refine And.intro (by decide) ?_)
  refine FC.u (cutR_n l sy (out.length * 53) hl h (by omega) (l.take (out.length * 53)).length rfl) [0] ?_
  repeat (first | refine And.intro (by kernel_rfl) ?_ | refine And.intro (by decide) ?_)
  refine FC.u (ofR_x (l.take (out.length * 53)) (min sy (out.length * 53)) out (by omega) (hb.take _) (scan_cut hout) (by omega) (by omega)) [4] ?_
  repeat (first | refine And.intro (by kernel_rfl) ?_ | refine And.intro (by decide) ?_)
  exact ⟨_, hF.symm, isEnd.go [(1, .to 5)] rfl ⟨.inl rfl, .inl rfl, trivial⟩⟩
end Go.Sx.T1
namespace Go.Sx.T1
open Go.Proofs Go.Sx.Crc
/-! Sync -/
structure JOk (l : List Nat) (sy : Nat) (a b : Int) (out : List Rcd) : Prop where
  hv : validD (zl l) sy = true
  hlen : l.length ≤ 16384
  hsy : sy ≤ l.length
  hout : out = scanN l.length l 0
  full : 53 * out.length = l.length
  ha : a = seqF out out.length
  hb : b = seqF out (sy / 53)
theorem read_true {l : List Nat} {sy a b : Int} (h : (readF l sy a b).2 = true) : ∃ (s : Nat) (out : List Rcd), sy = s ∧ JOk l s a b out := by
  unfold readF at h
  split at h
  · cases h
  · rename_i hv
    obtain ⟨h1, h2, h3⟩ := validD_sy hv
    obtain ⟨s, rfl⟩ : ∃ n : Nat, sy = n := ⟨sy.toNat, by omega⟩
    simp only [Bool.and_eq_true, beq_iff_eq, Int.toNat_natCast] at h
    obtain ⟨⟨h4, h5⟩, h6⟩ := h
    exact ⟨s, _, rfl, by simpa using hv, h1, by omega, rfl, by omega, h5, h6⟩
noncomputable def syncF (l : List Nat) (sy a b : Int) : JR := if (readF l sy a b).2 = true then ⟨l, l.length, a, a, 0⟩ else ⟨l, sy, a, b, 1⟩
theorem syncM_fc (l : List Nat) (sy : Int) (hl : l.length ≤ 100000) (h : validD (zl l) sy = true) :
    FC Try.prog 40 [.o (.a [.s 0 0 l.length 1, .v (.int .i64 sy)])] [u8n l false] (.t [.a [.s 1 0 l.length 1, .v (.int .i64 l.length)], .c (.v (.int .i64 0))]) [u8n l false, u8n l true] := by
  have := sync_fc (zl l) sy (by rw [zl_len]; omega)
  rw [syncD, if_neg (by rw [h]; simp)] at this
  unfold drV dvS at this
  simp only [zl_len] at this
  exact this
theorem syncR_n (l : List Nat) (sy : Int) (hl : l.length ≤ 100000) (h : validD (zl l) sy = true) :
    FC Try.prog 70 [.o (.a [.s 0 0 l.length 1, .v (.int .i64 sy)])] [u8n l false] (.t [.a [.s 1 0 l.length 1, .v (.int .i64 l.length)], .c (.v (.int .i64 0))]) [u8n l false, u8n l true] := by
  have := syncR_fc (zl l) sy (by rw [zl_len]; omega)
  rw [syncD, if_neg (by rw [h]; simp)] at this
  unfold drV dvS at this
  simp only [zl_len] at this
  exact this
set_option maxHeartbeats 3200000 in
set_option maxRecDepth 10000 in
theorem syncJ_fc (l : List Nat) (sy a b : Int) (hl : l.length ≤ 100000) (hb : By l) :
    ∃ r : JR, FC Try.prog 15 [.o (jV 0 l.length sy a b)] [u8n l false] (jrS r) [u8n l false, u8n r.l true] ∧ r = syncF l sy a b := by
  refine FC.rj mix Try.func15 ?_
  repeat (first | refine And.intro (by kernel_rfl) ?_ | refine And.intro (by decide) ?_)
  refine FC.u (privJ_fc l sy a b hl) [0] ?_
  repeat (first | refine And.intro (by kernel_rfl) ?_ | refine And.intro (by decide) ?_)
  refine FC.x (validJ_fc l sy a b hl hb) [0] (fun v hv => ?_)
  refine bselNot (bsel_intro (fun h => ?_) (fun h => ?_))
  rotate_left
  · repeat (first | refine And.intro (by kernel_rfl) ?_ | refine And.intro (by decide) ?_)
    exact ⟨⟨l, sy, a, b, 1⟩, by rw [syncF, if_neg (fun h1 => by have h2 : v = false := h; rw [hv, h1] at h2; cases h2)], isEnd.go [(1, .to 3)] rfl ⟨.inl rfl, .inl rfl, trivial⟩⟩
  have hr : (readF l sy a b).2 = true := by rw [← hv]; exact h
  obtain ⟨s, out, rfl, ok⟩ := read_true hr
  repeat (first | refine And.intro (by kernel_rfl) ?_ | refine And.intro (by decide) ?_)
  refine FC.u (syncM_fc l s hl ok.hv) [0] ?_
  repeat (first | refine And.intro (by kernel_rfl) ?_ | refine And.intro (by decide) ?_)
  exact ⟨⟨l, l.length, a, a, 0⟩, by rw [syncF, if_pos hr], isEnd.go [(1, .to 5)] rfl ⟨.inl rfl, .inl rfl, trivial⟩⟩
set_option maxHeartbeats 3200000 in
set_option maxRecDepth 10000 in
theorem syncR20_fc (l : List Nat) (sy a b : Int) (hl : l.length ≤ 100000) (hb : By l) :
    ∃ r : JR, FC Try.prog 47 [.o (jV 0 l.length sy a b)] [u8n l false] (jrS r) [u8n l false, u8n r.l true] ∧ r = syncF l sy a b := by
  refine FC.rj mix Try.func47 ?_
  repeat (first | refine And.intro (by kernel_rfl) ?_ | refine And.intro (by decide) ?_)
  refine FC.x (validR20_fc l sy a b hl hb) [0] (fun v hv => ?_)
  refine bselNot (bsel_intro (fun h => ?_) (fun h => ?_))
  rotate_left
  · repeat (first | refine And.intro (by kernel_rfl) ?_ | refine And.intro (by decide) ?_)
    refine FC.u (copyJ_fc l sy a b hl) [0] ?_
    repeat (first | refine And.intro (by kernel_rfl) ?_ | refine And.intro (by decide) ?_)
    exact ⟨⟨l, sy, a, b, 1⟩, by rw [syncF, if_neg (fun h1 => by have h2 : v = false := h; rw [hv, h1] at h2; cases h2)], isEnd.go [(1, .to 3)] rfl ⟨.inl rfl, .inl rfl, trivial⟩⟩
  have hr : (readF l sy a b).2 = true := by rw [← hv]; exact h
  obtain ⟨s, out, rfl, ok⟩ := read_true hr
  have hf := ok.full
  repeat (first | refine And.intro (by kernel_rfl) ?_ | refine And.intro (by decide) ?_)
  refine FC.u (syncR_n l s hl ok.hv) [0] ?_
  repeat (first | refine And.intro (by kernel_rfl) ?_ | refine And.intro (by decide) ?_)
  refine FC.u (ofR_x l l.length out hl hb ok.hout (by omega) (by omega)) [3] ?_
  repeat (first | refine And.intro (by kernel_rfl) ?_ | refine And.intro (by decide) ?_)
  have e2 : seqF out (l.length / 53) = a := by rw [ok.ha]; congr 1; omega
  exact ⟨⟨l, l.length, seqF out out.length, seqF out (l.length / 53), 0⟩, by rw [syncF, if_pos hr, e2, ← ok.ha], isEnd.go [(1, .to 5)] rfl ⟨.inl rfl, .inl rfl, trivial⟩⟩
end Go.Sx.T1
namespace Go.Sx.T1
open Go.Proofs Go.Sx.Crc
/-! Append -/
def lastS : Int → List Rcd → Int
  | q, [] => q
  | _, r :: t => lastS r.seq t
theorem lastS_app (q : Int) (out : List Rcd) (r : Rcd) : lastS q (out ++ [r]) = r.seq := by
  induction out generalizing q with
  | nil => rfl
  | cons d t ih => exact ih d.seq
theorem lastS_get : ∀ (out : List Rcd) (q : Int), out ≠ [] → lastS q out = (out.getD (out.length - 1) zR).seq
  | [], _, h => absurd rfl h
  | [r], _, _ => rfl
  | r :: d :: t, q, _ => by
    have := lastS_get (d :: t) r.seq (by simp)
    rw [lastS, this]
    simp
theorem seqF_last (out : List Rcd) : seqF out out.length = lastS 0 out := by
  unfold seqF
  rw [Nat.min_self]
  by_cases h : out = []
  · subst h; rfl
  · have h0 : out.length ≠ 0 := fun h1 => h (List.eq_nil_of_length_eq_zero h1)
    rw [if_neg h0, lastS_get out 0 h]
theorem seqF_app {out : List Rcd} {n : Nat} (more : List Rcd) (h : n ≤ out.length) : seqF (out ++ more) n = seqF out n := by
  unfold seqF
  rw [List.length_append, Nat.min_eq_left (by omega), Nat.min_eq_left h]
  by_cases h0 : n = 0
  · rw [if_pos h0, if_pos h0]
  · rw [if_neg h0, if_neg h0, List.getD_eq_getElem?_getD, List.getD_eq_getElem?_getD, List.getElem?_append_left (by omega)]
theorem decF_app {l : List Nat} (more : List Nat) (hl : 53 ≤ l.length) : decF (l ++ more) = decF l := by
  have := decF_take (l := l ++ more) (m := l.length) hl (by rw [List.length_append]; omega)
  rw [List.take_left'] at this
  · exact this.symm
  · rfl
theorem scanN_app {B : List Nat} {r : Rcd} (hB : decF B = (r, 0)) (h53 : B.length = 53) : ∀ (n : Nat) (l : List Nat) (q : Int) (n' : Nat), 53 * (scanN n l q).length = l.length → (scanN n l q).length < n' → lastS q (scanN n l q) < r.seq →
    scanN n' (l ++ B) q = scanN n l q ++ [r]
  | n, l, q, 0, _, h, _ => absurd h (by omega)
  | 0, l, q, n' + 1, hf, _, hq => by
    have e : scanN 0 l q = [] := by rw [scanN]
    rw [e] at hf hq
    have hl : l = [] := List.eq_nil_of_length_eq_zero hf.symm
    have hc : ¬ ((decF B).2 ≠ 0 ∨ (decF B).1.seq ≤ q) := by
      rw [hB]
      rintro (h | h)
      · exact h rfl
      · have : q < r.seq := hq
        have : r.seq ≤ q := h
        omega
    rw [e, hl, List.nil_append, List.nil_append, scanN, if_neg hc, hB, List.drop_of_length_le (by omega), scanN_nil]
  | n + 1, l, q, n' + 1, hf, hn, hq => by
    by_cases hc : (decF l).2 ≠ 0 ∨ (decF l).1.seq ≤ q
    · have e : scanN (n + 1) l q = [] := by rw [scanN, if_pos hc]
      rw [e] at hf hq
      have hl : l = [] := List.eq_nil_of_length_eq_zero hf.symm
      have hc : ¬ ((decF B).2 ≠ 0 ∨ (decF B).1.seq ≤ q) := by
        rw [hB]
        rintro (h | h)
        · exact h rfl
        · have : q < r.seq := hq
          have : r.seq ≤ q := h
          omega
      rw [e, hl, List.nil_append, List.nil_append, scanN, if_neg hc, hB, List.drop_of_length_le (by omega), scanN_nil]
    · have e : scanN (n + 1) l q = (decF l).1 :: scanN n (l.drop 53) (decF l).1.seq := by rw [scanN, if_neg hc]
      rw [e] at hf hn hq
      have h0 : (decF l).2 = 0 := Classical.not_not.1 fun hh => hc (.inl hh)
      have h53' := decF_short h0
      rw [e, scanN, decF_app B h53', if_neg hc, List.cons_append, List.drop_append_of_le_length h53']
      congr 1
      exact scanN_app hB h53 n (l.drop 53) (decF l).1.seq n' (by rw [List.length_drop]; rw [List.length_cons] at hf; omega) (by rw [List.length_cons] at hn; omega) hq
noncomputable def appF (l : List Nat) (sy a b : Int) (r : Rcd) : JR := open Classical in
  if (readF l sy a b).2 = false then ⟨l, sy, a, b, 1⟩ else if (encF r).2 ≠ 0 then ⟨l, sy, a, b, 2⟩ else if r.seq ≤ a then ⟨l, sy, a, b, 19⟩
  else if 16384 < l.length + (encF r).1.length then ⟨l, sy, a, b, 16⟩ else ⟨l ++ (encF r).1, sy, r.seq, b, 0⟩
theorem encF_zero {r : Rcd} (h : (encF r).2 = 0) : RcOk r ∧ encF r = (encL r (wordS r.st) r.st.chips.toNat, 0) := by
  by_cases hk : RcOk r
  · exact ⟨hk, encF_ok hk⟩
  · rw [encF, if_neg hk] at h; cases h
theorem encF_bd (r : Rcd) : (encF r).1.length ≤ 53 ∧ By (encF r).1 := by
  by_cases hk : RcOk r
  · rw [encF_ok hk]; exact ⟨Nat.le_of_eq (encL_len _ _ _), encL_by _ _ _⟩
  · rw [encF, if_neg hk]; exact ⟨by simp, fun i => by simp⟩
theorem app_scan {l : List Nat} {s : Nat} {a b : Int} {out : List Rcd} {r : Rcd} (ok : JOk l s a b out) (hr : (encF r).2 = 0) (ha : a < r.seq) :
    (encF r).1.length = 53 ∧ out ++ [r] = scanN (l ++ (encF r).1).length (l ++ (encF r).1) 0 := by
  obtain ⟨hk, he⟩ := encF_zero hr
  have hB := dec_enc hk []
  rw [List.append_nil] at hB
  have hf := ok.full
  have ha' := ok.ha
  rw [seqF_last] at ha'
  rw [he]
  refine ⟨encL_len _ _ _, ?_⟩
  have ho := ok.hout
  rw [ho] at hf ha' ⊢
  exact (scanN_app hB (encL_len _ _ _) l.length l 0 _ hf (by rw [List.length_append, encL_len]; omega) (by omega)).symm
theorem appM_ok (l B : List Nat) (sy : Int) (hl : l.length ≤ 100000) (hb : B.length ≤ 100000) (h : validD (zl l) sy = true) (hm : l.length + B.length ≤ 16384) :
    FC Try.prog 39 [.o (.a [.s 0 0 l.length 1, .v (.int .i64 sy)]), .o (.c (.s 1 0 B.length 1))] [u8n l false, u8n B false] (.t [.a [.s 2 0 (l ++ B).length 1, .v (.int .i64 sy)], .c (.v (.int .i64 0))]) [u8n l false, u8n B false, u8n (l ++ B) true] := by
  have := append_fc (zl l) sy (zl B) (by rw [zl_len]; omega) (by rw [zl_len]; omega)
  rw [appD, if_neg (by rw [h]; simp), if_neg (by rw [zl_len, zl_len]; omega)] at this
  unfold drV dvS at this
  simp only [← zl_app, zl_len] at this
  exact this
theorem appM_full (l B : List Nat) (sy : Int) (hl : l.length ≤ 100000) (hb : B.length ≤ 100000) (h : validD (zl l) sy = true) (hm : 16384 < l.length + B.length) :
    FC Try.prog 39 [.o (.a [.s 0 0 l.length 1, .v (.int .i64 sy)]), .o (.c (.s 1 0 B.length 1))] [u8n l false, u8n B false] (.t [.a [.s 2 0 l.length 1, .v (.int .i64 sy)], .c (.v (.int .i64 16))]) [u8n l false, u8n B false, u8n l true] := by
  have := append_fc (zl l) sy (zl B) (by rw [zl_len]; omega) (by rw [zl_len]; omega)
  rw [appD, if_neg (by rw [h]; simp), if_pos (by rw [zl_len, zl_len]; omega)] at this
  unfold drV dvS at this
  simp only [zl_len] at this
  exact this
theorem appR_ok (l B : List Nat) (sy : Int) (hl : l.length ≤ 100000) (hb : B.length ≤ 100000) (h : validD (zl l) sy = true) (hm : l.length + B.length ≤ 16384) :
    FC Try.prog 69 [.o (.a [.s 0 0 l.length 1, .v (.int .i64 sy)]), .o (.c (.s 1 0 B.length 1))] [u8n l false, u8n B false] (.t [.a [.s 2 0 (l ++ B).length 1, .v (.int .i64 sy)], .c (.v (.int .i64 0))]) [u8n l false, u8n B false, u8n (l ++ B) true] := by
  have := appendR_fc (zl l) sy (zl B) (by rw [zl_len]; omega) (by rw [zl_len]; omega)
  rw [appD, if_neg (by rw [h]; simp), if_neg (by rw [zl_len, zl_len]; omega)] at this
  unfold drV dvS at this
  simp only [← zl_app, zl_len] at this
  exact this
theorem appR_full (l B : List Nat) (sy : Int) (hl : l.length ≤ 100000) (hb : B.length ≤ 100000) (h : validD (zl l) sy = true) (hm : 16384 < l.length + B.length) :
    FC Try.prog 69 [.o (.a [.s 0 0 l.length 1, .v (.int .i64 sy)]), .o (.c (.s 1 0 B.length 1))] [u8n l false, u8n B false] (.t [.a [.s 2 0 l.length 1, .v (.int .i64 sy)], .c (.v (.int .i64 16))]) [u8n l false, u8n B false, u8n l true] := by
  have := appendR_fc (zl l) sy (zl B) (by rw [zl_len]; omega) (by rw [zl_len]; omega)
  rw [appD, if_neg (by rw [h]; simp), if_pos (by rw [zl_len, zl_len]; omega)] at this
  unfold drV dvS at this
  simp only [zl_len] at this
  exact this
end Go.Sx.T1
namespace Go.Sx.T1
open Go.Proofs Go.Sx.Crc
set_option maxHeartbeats 3200000 in
set_option maxRecDepth 10000 in
theorem appJ_fc (l : List Nat) (sy a b : Int) (r : Rcd) (hl : l.length ≤ 100000) (hb : By l) :
    ∃ x : JR, FC Try.prog 14 [.o (jV 0 l.length sy a b), .o (.a (rcC r))] [u8n l false] (jrS x) [u8n l false, u8n x.l true] ∧ x = appF l sy a b r := by
  refine FC.rj mix Try.func14 ?_
  repeat (first | refine And.intro (by kernel_rfl) ?_ | refine And.intro (by decide) ?_)
  refine FC.u (privJ_fc l sy a b hl) [0] ?_
  repeat (first | refine And.intro (by kernel_rfl) ?_ | refine And.intro (by decide) ?_)
  refine FC.x (encode_fc r) [] (fun d hd => ?_)
  obtain ⟨B, e⟩ := d
  have hB : (encF r).1 = B := by rw [← hd]
  have hE : (encF r).2 = e := by rw [← hd]
  have hBl := (encF_bd r).1
  rw [hB] at hBl
  repeat (first | refine And.intro (by kernel_rfl) ?_ | refine And.intro (by decide) ?_)
  refine FC.x (validJ_fc l sy a b hl hb) [0] (fun v hv => ?_)
  refine bselNot (bsel_intro (fun h => ?_) (fun h => ?_))
  rotate_left
  · repeat (first | refine And.intro (by kernel_rfl) ?_ | refine And.intro (by decide) ?_)
    exact ⟨⟨l, sy, a, b, 1⟩, by rw [appF, if_pos (by rw [← hv]; exact h)], isEnd.go [(1, .to 4)] rfl ⟨.inl rfl, .inl rfl, trivial⟩⟩
  have hr : (readF l sy a b).2 = true := by rw [← hv]; exact h
  have hr' : ¬ (readF l sy a b).2 = false := by rw [hr]; simp
  obtain ⟨s, out, rfl, ok⟩ := read_true hr
  refine bselN (fun h1 => ?_) (fun h1 => ?_)
  · repeat (first | refine And.intro (by kernel_rfl) ?_ | refine And.intro (by decide) ?_)
    exact ⟨⟨l, s, a, b, 2⟩, by rw [appF, if_neg hr', if_pos (by rw [hE]; exact h1)], isEnd.go [(1, .to 4)] rfl ⟨.inl rfl, .inl rfl, trivial⟩⟩
  have h1' : (encF r).2 = 0 := by rw [hE]; exact h1
  refine bselD (fun h2 => ?_) (fun h2 => ?_)
  · repeat (first | refine And.intro (by kernel_rfl) ?_ | refine And.intro (by decide) ?_)
    exact ⟨⟨l, s, a, b, 19⟩, by rw [appF, if_neg hr', if_neg (fun hh => hh h1'), if_pos h2], isEnd.go [(1, .to 4)] rfl ⟨.inl rfl, .inl rfl, trivial⟩⟩
  repeat (first | refine And.intro (by kernel_rfl) ?_ | refine And.intro (by decide) ?_)
  rcases Nat.lt_or_ge 16384 (l.length + B.length) with hm | hm
  · refine FC.u (appM_full l B s hl (by omega) ok.hv hm) [0, 6] ?_
    repeat (first | refine And.intro (by kernel_rfl) ?_ | refine And.intro (by decide) ?_)
    exact ⟨⟨l, s, a, b, 16⟩, by rw [appF, if_neg hr', if_neg (fun hh => hh h1'), if_neg h2, hB, if_pos hm], isEnd.go [(1, .to 4)] rfl ⟨.inl rfl, .inl rfl, trivial⟩⟩
  · refine FC.u (appM_ok l B s hl (by omega) ok.hv hm) [0, 6] ?_
    repeat (first | refine And.intro (by kernel_rfl) ?_ | refine And.intro (by decide) ?_)
    exact ⟨⟨l ++ B, s, r.seq, b, 0⟩, by rw [appF, if_neg hr', if_neg (fun hh => hh h1'), if_neg h2, hB, if_neg (by omega)], isEnd.go [(1, .to 7)] rfl ⟨.inl rfl, .inl rfl, trivial⟩⟩
set_option maxHeartbeats 3200000 in
set_option maxRecDepth 10000 in
theorem appR20_fc (l : List Nat) (sy a b : Int) (r : Rcd) (hl : l.length ≤ 100000) (hb : By l) :
    ∃ x : JR, FC Try.prog 46 [.o (jV 0 l.length sy a b), .o (.a (rcC r))] [u8n l false] (jrS x) [u8n l false, u8n x.l true] ∧ x = appF l sy a b r := by
  refine FC.rj mix Try.func46 ?_
  repeat (first | refine And.intro (by kernel_rfl) ?_ | refine And.intro (by decide) ?_)
  refine FC.x (validR20_fc l sy a b hl hb) [0] (fun v hv => ?_)
  refine bselNot (bsel_intro (fun h => ?_) (fun h => ?_))
  rotate_left
  · repeat (first | refine And.intro (by kernel_rfl) ?_ | refine And.intro (by decide) ?_)
    refine FC.u (copyJ_fc l sy a b hl) [0] ?_
    repeat (first | refine And.intro (by kernel_rfl) ?_ | refine And.intro (by decide) ?_)
    exact ⟨⟨l, sy, a, b, 1⟩, by rw [appF, if_pos (by rw [← hv]; exact h)], isEnd.go [(1, .to 4)] rfl ⟨.inl rfl, .inl rfl, trivial⟩⟩
  have hr : (readF l sy a b).2 = true := by rw [← hv]; exact h
  have hr' : ¬ (readF l sy a b).2 = false := by rw [hr]; simp
  obtain ⟨s, out, rfl, ok⟩ := read_true hr
  repeat (first | refine And.intro (by kernel_rfl) ?_ | refine And.intro (by decide) ?_)
  refine FC.x (encode18_fc r) [] (fun d hd => ?_)
  obtain ⟨B, e⟩ := d
  have hB : (encF r).1 = B := by rw [← hd]
  have hE : (encF r).2 = e := by rw [← hd]
  obtain ⟨hBl, hBb⟩ := encF_bd r
  rw [hB] at hBl hBb
  repeat (first | refine And.intro (by kernel_rfl) ?_ | refine And.intro (by decide) ?_)
  refine bselN (fun h1 => ?_) (fun h1 => ?_)
  · repeat (first | refine And.intro (by kernel_rfl) ?_ | refine And.intro (by decide) ?_)
    refine FC.u (copyJ_fc l s a b hl) [0] ?_
    repeat (first | refine And.intro (by kernel_rfl) ?_ | refine And.intro (by decide) ?_)
    exact ⟨⟨l, s, a, b, 2⟩, by rw [appF, if_neg hr', if_pos (by rw [hE]; exact h1)], isEnd.go [(1, .to 5)] rfl ⟨.inl rfl, .inl rfl, trivial⟩⟩
  have h1' : (encF r).2 = 0 := by rw [hE]; exact h1
  refine bselD (fun h2 => ?_) (fun h2 => ?_)
  · repeat (first | refine And.intro (by kernel_rfl) ?_ | refine And.intro (by decide) ?_)
    refine FC.u (copyJ_fc l s a b hl) [0] ?_
    repeat (first | refine And.intro (by kernel_rfl) ?_ | refine And.intro (by decide) ?_)
    exact ⟨⟨l, s, a, b, 19⟩, by rw [appF, if_neg hr', if_neg (fun hh => hh h1'), if_pos h2], isEnd.go [(1, .to 5)] rfl ⟨.inl rfl, .inl rfl, trivial⟩⟩
  repeat (first | refine And.intro (by kernel_rfl) ?_ | refine And.intro (by decide) ?_)
  rcases Nat.lt_or_ge 16384 (l.length + B.length) with hm | hm
  · refine FC.u (appR_full l B s hl (by omega) ok.hv hm) [0, 4] ?_
    repeat (first | refine And.intro (by kernel_rfl) ?_ | refine And.intro (by decide) ?_)
    refine FC.u (copyJ_fc l s a b hl) [0] ?_
    repeat (first | refine And.intro (by kernel_rfl) ?_ | refine And.intro (by decide) ?_)
    exact ⟨⟨l, s, a, b, 16⟩, by rw [appF, if_neg hr', if_neg (fun hh => hh h1'), if_neg h2, hB, if_pos hm], isEnd.go [(1, .to 7)] rfl ⟨.inl rfl, .inl rfl, trivial⟩⟩
  · have ⟨h53, hs⟩ := app_scan ok h1' (by have : ¬ r.seq ≤ a := h2; omega)
    rw [hB] at h53 hs
    have hf := ok.full
    have hsy := ok.hsy
    have h16 := ok.hlen
    refine FC.u (appR_ok l B s hl (by omega) ok.hv hm) [0, 4] ?_
    repeat (first | refine And.intro (by kernel_rfl) ?_ | refine And.intro (by decide) ?_)
    refine FC.u (ofR_x (l ++ B) s (out ++ [r]) (by rw [List.length_append]; omega) (hb.app hBb) hs (by rw [List.length_append]; omega) (by omega)) [5] ?_
    repeat (first | refine And.intro (by kernel_rfl) ?_ | refine And.intro (by decide) ?_)
    have e1 : seqF (out ++ [r]) (out ++ [r]).length = r.seq := by rw [seqF_last, lastS_app]
    have e2 : seqF (out ++ [r]) (s / 53) = b := by rw [ok.hb]; exact seqF_app _ (by omega)
    exact ⟨⟨l ++ B, s, seqF (out ++ [r]) (out ++ [r]).length, seqF (out ++ [r]) (s / 53), 0⟩, by rw [appF, if_neg hr', if_neg (fun hh => hh h1'), if_neg h2, hB, if_neg (by omega), e1, e2], isEnd.go [(1, .to 7)] rfl ⟨.inl rfl, .inl rfl, trivial⟩⟩
end Go.Sx.T1
namespace Go.Sx.T1
open Go.Proofs Go.Sx.Crc
/-! bytes that are records throughout -/
def Ch : List Nat → Int → List Rcd → Prop
  | l, _, [] => l = []
  | l, q, r :: t => decF l = (r, 0) ∧ q < r.seq ∧ Ch (l.drop 53) r.seq t
theorem Ch.len : ∀ {l : List Nat} {q : Int} {out : List Rcd}, Ch l q out → 53 * out.length = l.length
  | l, q, [], h => by rw [show l = [] from h]; rfl
  | l, q, r :: t, ⟨h1, _, h3⟩ => by
    have h := h3.len
    have h53 := decF_short (l := l) (by rw [h1])
    rw [List.length_drop] at h
    rw [List.length_cons]
    omega
theorem Ch.scan : ∀ {n : Nat} {l : List Nat} {q : Int} {out : List Rcd}, Ch l q out → out.length ≤ n → scanN n l q = out
  | n, l, q, [], h, _ => by rw [show l = [] from h, scanN_nil]
  | 0, l, q, r :: t, _, hn => by rw [List.length_cons] at hn; omega
  | n + 1, l, q, r :: t, ⟨h1, h2, h3⟩, hn => by
    have hc : ¬ ((decF l).2 ≠ 0 ∨ (decF l).1.seq ≤ q) := by
      rw [h1]
      rintro (h | h)
      · exact h rfl
      · have : r.seq ≤ q := h
        omega
    rw [scanN, if_neg hc, h1]
    congr 1
    exact h3.scan (by rw [List.length_cons] at hn; omega)
theorem ch_of_scan : ∀ (n : Nat) (l : List Nat) (q : Int), 53 * (scanN n l q).length = l.length → Ch l q (scanN n l q)
  | 0, l, q, h => by
    have e : scanN 0 l q = [] := by rw [scanN]
    rw [e] at h ⊢
    exact List.eq_nil_of_length_eq_zero h.symm
  | n + 1, l, q, h => by
    by_cases hc : (decF l).2 ≠ 0 ∨ (decF l).1.seq ≤ q
    · have e : scanN (n + 1) l q = [] := by rw [scanN, if_pos hc]
      rw [e] at h ⊢
      exact List.eq_nil_of_length_eq_zero h.symm
    · have e : scanN (n + 1) l q = (decF l).1 :: scanN n (l.drop 53) (decF l).1.seq := by rw [scanN, if_neg hc]
      rw [e] at h ⊢
      have h0 : (decF l).2 = 0 := Classical.not_not.1 fun hh => hc (.inl hh)
      have hq : q < (decF l).1.seq := by
        have : ¬ (decF l).1.seq ≤ q := fun hh => hc (.inr hh)
        omega
      rw [List.length_cons] at h
      exact ⟨Prod.ext rfl h0, hq, ch_of_scan n _ _ (by rw [List.length_drop]; omega)⟩
theorem Ch.low : ∀ {l : List Nat} {q q' : Int} {out : List Rcd}, Ch l q out → q' ≤ q → Ch l q' out
  | _, _, _, [], h, _ => h
  | _, _, _, _ :: _, ⟨h1, h2, h3⟩, hq => ⟨h1, by omega, h3⟩
theorem Ch.le_last : ∀ {l : List Nat} {q : Int} {out : List Rcd}, Ch l q out → q ≤ lastS q out
  | _, _, [], _ => Int.le_refl _
  | _, _, _ :: _, ⟨_, h2, h3⟩ => Int.le_trans (Int.le_of_lt h2) h3.le_last
theorem Ch.drop : ∀ {l : List Nat} {q : Int} {out : List Rcd} (k : Nat), Ch l q out → Ch (l.drop (53 * k)) q (out.drop k)
  | l, q, out, 0, h => by simpa using h
  | l, q, [], k + 1, h => by rw [show l = [] from h]; simp [Ch]
  | l, q, r :: t, k + 1, ⟨h1, h2, h3⟩ => by
    have := (h3.drop k).low (Int.le_of_lt h2)
    rw [List.drop_drop] at this
    rw [List.drop_succ_cons, show 53 * (k + 1) = 53 + 53 * k by omega]
    exact this
theorem Ch.take : ∀ {l : List Nat} {q : Int} {out : List Rcd} (k : Nat), Ch l q out → Ch (l.take (53 * k)) q (out.take k)
  | l, q, out, 0, h => by simp [Ch]
  | l, q, [], k + 1, h => by rw [show l = [] from h]; simp [Ch]
  | l, q, r :: t, k + 1, ⟨h1, h2, h3⟩ => by
    have h53 := decF_short (l := l) (by rw [h1])
    have := h3.take k
    rw [List.take_succ_cons]
    refine ⟨by rw [decF_take (by omega) h53, h1], h2, ?_⟩
    rw [List.drop_take, show 53 * (k + 1) - 53 = 53 * k by omega]
    exact this
theorem Ch.append : ∀ {l : List Nat} {q : Int} {out : List Rcd} {l' : List Nat} {out' : List Rcd}, Ch l q out → Ch l' (lastS q out) out' → Ch (l ++ l') q (out ++ out')
  | l, q, [], l', out', h, h' => by rw [show l = [] from h]; exact h'
  | l, q, r :: t, l', out', ⟨h1, h2, h3⟩, h' => by
    have h53 := decF_short (l := l) (by rw [h1])
    refine ⟨by rw [decF_app _ h53, h1], h2, ?_⟩
    rw [List.drop_append_of_le_length h53]
    exact h3.append h'
theorem Ch.gt {r : Rcd} : ∀ (out : List Rcd) {l : List Nat} {q : Int}, Ch l q out → r ∈ out → q < r.seq
  | [], _, _, _, hr => absurd hr (by simp)
  | d :: t, l, q, h, hr => by
    obtain ⟨h1, h2, h3⟩ := h
    rcases List.mem_cons.1 hr with e | e
    · rw [e]; exact h2
    · exact Int.lt_trans h2 (Ch.gt t h3 e)
theorem Ch.ok {r : Rcd} : ∀ (out : List Rcd) {l : List Nat} {q : Int}, Ch l q out → r ∈ out → RcOk r
  | [], _, _, _, hr => absurd hr (by simp)
  | d :: t, l, q, h, hr => by
    obtain ⟨h1, h2, h3⟩ := h
    rcases List.mem_cons.1 hr with e | e
    · have := dec_rcok (l := l) (by rw [h1])
      rw [h1] at this
      rw [e]; exact this
    · exact Ch.ok t h3 e
theorem JOk.ch {l : List Nat} {s : Nat} {a b : Int} {out : List Rcd} (ok : JOk l s a b out) : Ch l 0 out := by
  have hf := ok.full
  have ho := ok.hout
  rw [ho] at hf ⊢
  exact ch_of_scan _ _ _ hf
/-! the records that a drop takes away -/
def dropK (u b : Int) : List Rcd → Nat
  | [] => 0
  | r :: t => if r.seq ≤ u ∧ r.seq < b then dropK u b t + 1 else 0
def cntK (u b : Int) : List Rcd → Nat
  | [] => 0
  | r :: t => (if r.seq ≤ u ∧ r.seq < b then 1 else 0) + cntK u b t
theorem cntK_zero {u b : Int} : ∀ {out : List Rcd} {l : List Nat} {q : Int}, Ch l q out → (u ≤ q ∨ b ≤ q + 1) → cntK u b out = 0
  | [], _, _, _, _ => rfl
  | r :: t, l, q, ⟨_, h2, h3⟩, h => by
    rw [cntK, if_neg (by omega), cntK_zero h3 (by omega)]
theorem cntK_eq {u b : Int} : ∀ {out : List Rcd} {l : List Nat} {q : Int}, Ch l q out → cntK u b out = dropK u b out
  | [], _, _, _ => rfl
  | r :: t, l, q, ⟨_, h2, h3⟩ => by
    rw [cntK, dropK]
    by_cases h : r.seq ≤ u ∧ r.seq < b
    · rw [if_pos h, if_pos h, cntK_eq h3]; omega
    · rw [if_neg h, if_neg h, cntK_zero h3 (by omega)]
theorem dropK_le (u b : Int) : ∀ (out : List Rcd), dropK u b out ≤ out.length
  | [] => Nat.le_refl _
  | r :: t => by
    rw [dropK]
    split
    · have := dropK_le u b t; rw [List.length_cons]; omega
    · exact Nat.zero_le _
theorem dropK_get {u b : Int} : ∀ {out : List Rcd} {i : Nat}, i < dropK u b out → (out.getD i zR).seq ≤ u ∧ (out.getD i zR).seq < b
  | [], i, h => absurd h (Nat.not_lt_zero _)
  | r :: t, i, h => by
    rw [dropK] at h
    split at h
    · rename_i hr
      cases i with
      | zero => simpa using hr
      | succ i => simpa using dropK_get (out := t) (i := i) (by omega)
    · exact absurd h (Nat.not_lt_zero _)
theorem dropK_end {u b : Int} : ∀ {out : List Rcd}, dropK u b out < out.length → ¬ ((out.getD (dropK u b out) zR).seq ≤ u ∧ (out.getD (dropK u b out) zR).seq < b)
  | [], h => absurd h (Nat.not_lt_zero _)
  | r :: t, h => by
    rw [dropK] at h ⊢
    split
    · rename_i hr
      rw [if_pos hr, List.length_cons] at h
      simpa using dropK_end (out := t) (by omega)
    · rename_i hr
      simpa using hr
theorem seqF_drop {out : List Rcd} {k n : Nat} (hk : k < n) (hn : n ≤ out.length) : seqF (out.drop k) (n - k) = seqF out n := by
  unfold seqF
  rw [List.length_drop, Nat.min_eq_left (by omega), Nat.min_eq_left hn, if_neg (by omega), if_neg (by omega), List.getD_eq_getElem?_getD, List.getD_eq_getElem?_getD, List.getElem?_drop]
  congr 4
  omega
theorem drop_bd {l : List Nat} {s : Nat} {a b u : Int} {out : List Rcd} (ok : JOk l s a b out) : dropK u b out = 0 ∨ dropK u b out < s / 53 := by
  rcases Nat.eq_zero_or_pos (dropK u b out) with h0 | h0
  · exact .inl h0
  · right
    have hf := ok.full
    have hs := ok.hsy
    have hb := ok.hb
    unfold seqF at hb
    by_cases hm : min (s / 53) out.length = 0
    · rw [if_pos hm] at hb
      have h1 := (dropK_get (u := u) (b := b) (out := out) (i := 0) h0).2
      have hlen := dropK_le u b out
      have hg := Ch.gt (r := out.getD 0 zR) _ ok.ch (by
        rw [List.getD_eq_getElem?_getD, List.getElem?_eq_getElem (by omega)]
        exact List.getElem_mem _)
      omega
    · rw [if_neg hm] at hb
      rcases Nat.lt_or_ge (min (s / 53) out.length - 1) (dropK u b out) with h1 | h1
      · have := (dropK_get (u := u) (b := b) (out := out) h1).2
        omega
      · omega
theorem drop_ok {l : List Nat} {s : Nat} {a b u : Int} {out : List Rcd} (ok : JOk l s a b out) :
    ∃ k : Nat, k = dropK u b out ∧ 53 * k ≤ s ∧ 53 * k ≤ l.length ∧ k ≤ out.length ∧ JOk (l.drop (53 * k)) (s - 53 * k) a b (out.drop k) := by
  have hf := ok.full
  have hs := ok.hsy
  have h16 := ok.hlen
  have hk := dropK_le u b out
  have hbd := drop_bd (u := u) ok
  have hc := (ok.ch).drop (dropK u b out)
  generalize dropK u b out = k at *
  refine ⟨k, rfl, by omega, by omega, hk, ?_⟩
  have e1 : seqF (out.drop k) (out.length - k) = seqF out out.length ∧ seqF (out.drop k) (s / 53 - k) = seqF out (s / 53) := by
    rcases hbd with h0 | h0
    · subst h0; simp
    · exact ⟨seqF_drop (by omega) (Nat.le_refl _), seqF_drop h0 (by omega)⟩
  refine ⟨?_, by rw [List.length_drop]; omega, by rw [List.length_drop]; omega, ?_, hc.len, ?_, ?_⟩
  · unfold validD
    rw [zl_len, List.length_drop]
    simp only [Bool.and_eq_true, decide_eq_true_eq]
    omega
  · exact (hc.scan (by have := hc.len; omega)).symm
  · rw [List.length_drop, e1.1, ok.ha]
  · rw [show (s - 53 * k) / 53 = s / 53 - k by omega, e1.2, ok.hb]
end Go.Sx.T1
namespace Go.Sx.T1
open Go.Proofs Go.Sx.Crc
theorem cntK_take (u b : Int) : ∀ (out : List Rcd) (i : Nat), i < out.length → cntK u b (out.take (i + 1)) = cntK u b (out.take i) + (if (out.getD i zR).seq ≤ u ∧ (out.getD i zR).seq < b then 1 else 0)
  | [], i, h => absurd h (Nat.not_lt_zero _)
  | r :: t, 0, _ => by simp [cntK]
  | r :: t, i + 1, h => by
    have := cntK_take u b t i (by simpa using h)
    rw [List.take_succ_cons, List.take_succ_cons, cntK, cntK, this]
    simp only [List.getD_cons_succ]
    omega
theorem cntK_le (u b : Int) : ∀ (out : List Rcd), cntK u b out ≤ out.length
  | [] => Nat.le_refl _
  | r :: t => by
    have := cntK_le u b t
    rw [cntK, List.length_cons]
    split <;> omega
structure DO where
  o : Nat
  e : Int
noncomputable def dropO (l : List Nat) (sy a b u : Int) : DO := if (readF l sy a b).2 = true then ⟨53 * dropK u b (readF l sy a b).1, 0⟩ else ⟨0, 1⟩
def doS (l : List Nat) (sy a b : Int) (d : DO) : SV := .t [.a [.s 1 d.o (l.drop d.o).length 1, .v (.int .i64 (sy - (d.o : Int))), .v (.int .i64 a), .v (.int .i64 b)], .c (.v (.int .i64 d.e))]
def doJ (l : List Nat) (sy a b : Int) (d : DO) : JR := ⟨l.drop d.o, sy - (d.o : Int), a, b, d.e⟩
set_option maxHeartbeats 3200000 in
set_option maxRecDepth 10000 in
theorem dropJ_fc (l : List Nat) (sy a b u : Int) (hl : l.length ≤ 100000) (hb : By l) :
    ∃ d : DO, FC Try.prog 28 [.o (jV 0 l.length sy a b), int .i64 u] [u8n l false] (doS l sy a b d) [u8n l false, u8n l true] ∧ d = dropO l sy a b u := by
  refine FC.rj mix Try.func28 ?_
  repeat (first | refine And.intro (by kernel_rfl) ?_ | refine And.intro (by decide) ?_)
  refine FC.u (privJ_fc l sy a b hl) [0] ?_
  repeat (first | refine And.intro (by kernel_rfl) ?_ | refine And.intro (by decide) ?_)
  refine FC.x (readJ_fc l sy a b hl hb) [0] (fun d hd => ?_)
  obtain ⟨out, v⟩ := d
  have hd1 : (readF l sy a b).1 = out := by rw [← hd]
  have hd2 : (readF l sy a b).2 = v := by rw [← hd]
  repeat (first | refine And.intro (by kernel_rfl) ?_ | refine And.intro (by decide) ?_)
  refine bselNot (bsel_intro (fun h => ?_) (fun h => ?_))
  rotate_left
  · repeat (first | refine And.intro (by kernel_rfl) ?_ | refine And.intro (by decide) ?_)
    exact ⟨⟨0, 1⟩, by rw [dropO, if_neg (fun h1 => by have h2 : v = false := h; rw [hd2, h2] at h1; cases h1)], isEnd.go [(1, .to 3)] (congrArg (fun x => SV.t [.a [.s 3 0 l.length 1, .v (.int .i64 x), .v (.int .i64 a), .v (.int .i64 b)], .c (.v (.int .i64 1))]) (show sy = sy - ((0 : Nat) : Int) by omega)) ⟨.inl rfl, .inl rfl, trivial⟩⟩
  have hr : (readF l sy a b).2 = true := by rw [hd2]; exact h
  obtain ⟨s, out', rfl, ok⟩ := read_true hr
  obtain rfl : out' = out := by
    rw [ok.hout, ← hd1, readF, if_neg (by rw [ok.hv]; simp)]
  have hf := ok.full
  have h16 := ok.hlen
  repeat (first | refine And.intro (by kernel_rfl) ?_ | refine And.intro (by decide) ?_)
  refine ALoop.go (X := Nat) (fun i => i ≤ out'.length) (fun i => out'.length - i) [1, 2, 4, 5, 6, 22, 23] [0, 1, 2, 3, 4, 5] (fun i => [(9, int .i64 (53 * cntK u b (out'.take i) : Nat)), (24, int .i64 i)]) (fun _ => []) 0 (Nat.zero_le _) ⟨rfl, rfl, trivial⟩ trivial ?_
  intro i hi

  dsimp only [headF, headM]
  refine bselD (fun h1 => ?_) (fun h1 => ?_)
  · have h1' : i < out'.length := by have h2 : (i : Int) < (out'.length : Int) := h1; omega
    have ei : 0 + (i : Int).toNat = i := by simp
    have wi : IntKind.i64.wrap ((i : Int) + 1) = ((i + 1 : Nat) : Int) := wrap64_in (by omega) (by omega)
    have ct := cntK_take u b out' i h1'
    have cl := cntK_le u b (out'.take i)
    rw [List.length_take] at cl
    have wc : IntKind.i64.wrap (((53 * cntK u b (out'.take i) : Nat) : Int) + 53) = ((53 * (cntK u b (out'.take i) + 1) : Nat) : Int) := by rw [wrap64_in (by omega) (by omega)]; omega
    repeat refine AJoin.plain ?_
    refine And.intro ⟨by omega, h1⟩ ?_
    refine And.intro (by show 0 + (i : Int).toNat < out'.length; omega) ?_
    conv => whnf
    rw [ei]
    repeat (first | refine And.intro (by kernel_rfl) ?_ | refine And.intro (by decide) ?_)
    refine bselD (fun c1 => ?_) (fun c1 => ?_)
    · repeat (first | refine And.intro (by kernel_rfl) ?_ | refine And.intro (by decide) ?_)
      refine bselD (fun c2 => ?_) (fun c2 => ?_)
      · repeat (first | refine And.intro (by kernel_rfl) ?_ | refine And.intro (by decide) ?_)
        rw [if_pos ⟨c1, c2⟩] at ct
        exact ⟨i + 1, ⟨by omega, by show out'.length - (i + 1) < out'.length - i; omega⟩, .id ⟨(by rw [ct, wc]; rfl), congrArg (int .i64) wi, trivial⟩ rfl trivial rfl⟩
      · repeat (first | refine And.intro (by kernel_rfl) ?_ | refine And.intro (by decide) ?_)
        rw [if_neg (fun h => c2 h.2)] at ct
        exact ⟨i + 1, ⟨by omega, by show out'.length - (i + 1) < out'.length - i; omega⟩, .id ⟨(by rw [ct]; rfl), congrArg (int .i64) wi, trivial⟩ rfl trivial rfl⟩
    · repeat (first | refine And.intro (by kernel_rfl) ?_ | refine And.intro (by decide) ?_)
      rw [if_neg (fun h => c1 h.1)] at ct
      exact ⟨i + 1, ⟨by omega, by show out'.length - (i + 1) < out'.length - i; omega⟩, .id ⟨(by rw [ct]; rfl), congrArg (int .i64) wi, trivial⟩ rfl trivial rfl⟩
  · have hi' : out'.length ≤ i := by have h2 : ¬ (i : Int) < (out'.length : Int) := h1; omega
    have ek : cntK u b (out'.take i) = dropK u b out' := by rw [List.take_of_length_le hi', cntK_eq ok.ch]
    obtain ⟨k, hk, k1, k2, k3, ok'⟩ := drop_ok (u := u) ok
    conv => whnf
    rw [ek, ← hk]
    refine And.intro (by omega) ?_
    have ws : IntKind.i64.wrap ((s : Int) - ((53 * k : Nat) : Int)) = (s : Int) - ((53 * k : Nat) : Int) := by have := ok.hsy; exact wrap64_in (by omega) (by omega)
    have e0 : 0 + ((53 * k : Nat) : Int).toNat = 53 * k := by omega
    have e1 : l.length - ((53 * k : Nat) : Int).toNat = (l.drop (53 * k)).length := by rw [List.length_drop]; omega
    conv => whnf
    rw [ws]
    rw [e0, e1]
    repeat (first | refine And.intro (by kernel_rfl) ?_ | refine And.intro (by decide) ?_)
    exact ⟨⟨53 * k, 0⟩, by rw [dropO, if_pos hr, hd1, hk], isEnd.go [(1, .to 3)] rfl ⟨.inl rfl, .inl rfl, trivial⟩⟩
end Go.Sx.T1
namespace Go.Sx.T1
open Go.Proofs Go.Sx.Crc
theorem By.sub {l : List Nat} (h : By l) (k : Nat) : By (l.drop k) := h.drop k
theorem ofR_s (l : List Nat) (off sy : Nat) (out : List Rcd) (hoff : off ≤ l.length) (hl : l.length ≤ 100000) (hb : By l) (ho : out = scanN (l.drop off).length (l.drop off) 0) (hs : sy / 53 ≤ out.length) (hs1 : sy ≤ 100000) :
    FC Try.prog 66 [.o (.a [.s 0 off (l.drop off).length 1, .v (.int .i64 sy)])] [u8n l false] (.o (jV 1 (l.drop off).length sy (seqF out out.length) (seqF out (sy / 53)))) [u8n l false, u8n (l.drop off) true] := by
  have h := ofR_x (l.drop off) sy out (by rw [List.length_drop]; omega) (hb.drop off) ho hs hs1
  exact FC.shiftN (xs := zl l) (off := off) (args0 := [.o (.a [.s 0 0 (l.drop off).length 1, .v (.int .i64 sy)])]) (R1 := [u8n (l.drop off) true]) (by rw [zl_len]; exact hoff) rfl trivial ⟨nzB.ints, trivial⟩ rfl (by rw [zl_dropS]; exact h)
theorem drop_at {u b : Int} {out : List Rcd} {i : Nat} (hi : i ≤ dropK u b out) (h : i < out.length) (h1 : (out.getD i zR).seq ≤ u) (h2 : (out.getD i zR).seq < b) : i + 1 ≤ dropK u b out := by
  rcases Nat.lt_or_ge i (dropK u b out) with h3 | h3
  · exact h3
  · obtain rfl : i = dropK u b out := by omega
    exact absurd ⟨h1, h2⟩ (dropK_end h)
theorem drop_no {u b : Int} {out : List Rcd} {i : Nat} (hi : i ≤ dropK u b out) (h : ¬ (i < out.length ∧ (out.getD i zR).seq ≤ u ∧ (out.getD i zR).seq < b)) : i = dropK u b out := by
  rcases Nat.lt_or_ge i (dropK u b out) with h3 | h3
  · have := dropK_le u b out
    exact absurd ⟨by omega, dropK_get h3⟩ h
  · omega
set_option maxHeartbeats 3200000 in
set_option maxRecDepth 10000 in
theorem dropR20_fc (l : List Nat) (sy a b u : Int) (hl : l.length ≤ 100000) (hb : By l) :
    ∃ x : JR, FC Try.prog 50 [.o (jV 0 l.length sy a b), int .i64 u] [u8n l false] (jrS x) [u8n l false, u8n x.l true] ∧ x = doJ l sy a b (dropO l sy a b u) := by
  refine FC.rj mix Try.func50 ?_
  repeat (first | refine And.intro (by kernel_rfl) ?_ | refine And.intro (by decide) ?_)
  refine FC.x (validR20_fc l sy a b hl hb) [0] (fun v hv => ?_)
  refine bselNot (bsel_intro (fun h => ?_) (fun h => ?_))
  rotate_left
  · repeat (first | refine And.intro (by kernel_rfl) ?_ | refine And.intro (by decide) ?_)
    refine FC.u (copyJ_fc l sy a b hl) [0] ?_
    repeat (first | refine And.intro (by kernel_rfl) ?_ | refine And.intro (by decide) ?_)
    have e : doJ l sy a b (dropO l sy a b u) = ⟨l, sy, a, b, 1⟩ := by
      rw [dropO, if_neg (fun h1 => by have h2 : v = false := h; rw [hv, h1] at h2; cases h2)]
      unfold doJ
      simp
    exact ⟨⟨l, sy, a, b, 1⟩, e.symm, isEnd.go [(1, .to 3)] rfl ⟨.inl rfl, .inl rfl, trivial⟩⟩
  have hr : (readF l sy a b).2 = true := by rw [← hv]; exact h
  obtain ⟨s, out, rfl, ok⟩ := read_true hr
  have ho : (readF l s a b).1 = out := by rw [ok.hout, readF, if_neg (by rw [ok.hv]; simp)]
  have hf := ok.full
  have h16 := ok.hlen
  have hsy := ok.hsy
  obtain ⟨k, hk, k1, k2, k3, ok'⟩ := drop_ok (u := u) ok
  repeat (first | refine And.intro (by kernel_rfl) ?_ | refine And.intro (by decide) ?_)
  refine FC.x (read20_x l hl hb) [0] (fun out' ho' => ?_)
  obtain rfl : out' = out := ho'.trans ok.hout.symm
  repeat (first | refine And.intro (by kernel_rfl) ?_ | refine And.intro (by decide) ?_)
  refine ALoop.go (X := Nat) (fun i => i ≤ k) (fun i => k - i) [1, 2, 4, 5, 6] [0, 1, 2, 3] (fun i => [(7, int .i64 i)]) (fun _ => []) 0 (Nat.zero_le _) ⟨rfl, trivial⟩ trivial ?_
  intro i hi
  dsimp only [headF, headM]
  repeat refine AJoin.plain ?_
  refine bselD (fun h1 => ?_) (fun h1 => ?_)
  · have h1' : i < out'.length := by have h2 : (i : Int) < (out'.length : Int) := h1; omega
    have ei : 0 + (i : Int).toNat = i := by simp
    have wi : IntKind.i64.wrap ((i : Int) + 1) = ((i + 1 : Nat) : Int) := wrap64_in (by omega) (by omega)
    refine And.intro ⟨by omega, h1⟩ ?_
    refine And.intro (by show 0 + (i : Int).toNat < out'.length; omega) ?_
    conv => whnf
    rw [ei]
    repeat (first | refine And.intro (by kernel_rfl) ?_ | refine And.intro (by decide) ?_)
    refine bselD (fun c1 => ?_) (fun c1 => ?_)
    · repeat (first | refine And.intro (by kernel_rfl) ?_ | refine And.intro (by decide) ?_)
      refine And.intro ⟨by omega, h1⟩ ?_
      refine And.intro (by show 0 + (i : Int).toNat < out'.length; omega) ?_
      conv => whnf
      rw [ei]
      repeat (first | refine And.intro (by kernel_rfl) ?_ | refine And.intro (by decide) ?_)
      refine bselD (fun c2 => ?_) (fun c2 => ?_)
      · repeat (first | refine And.intro (by kernel_rfl) ?_ | refine And.intro (by decide) ?_)
        exact ⟨i + 1, ⟨by rw [hk]; exact drop_at (by rw [← hk]; exact hi) h1' c1 c2, by show k - (i + 1) < k - i; have := drop_at (by rw [← hk]; exact hi) h1' c1 c2; rw [← hk] at this; omega⟩, .id ⟨congrArg (int .i64) wi, trivial⟩ rfl trivial rfl⟩
      · repeat (first | refine And.intro (by kernel_rfl) ?_ | refine And.intro (by decide) ?_)
        obtain rfl : i = k := by rw [hk]; exact drop_no (by rw [← hk]; exact hi) (fun h => c2 h.2.2)
        clear hi
        have hc := ok'.ch
        have hfl := hc.len
        rw [List.length_drop] at hfl
        have w1 : IntKind.i64.wrap ((i : Int) * 53) = ((53 * i : Nat) : Int) := by rw [wrap64_in (by omega) (by omega)]; omega
        have w2 : IntKind.i64.wrap ((s : Int) - ((53 * i : Nat) : Int)) = ((s - 53 * i : Nat) : Int) := by rw [wrap64_in (by omega) (by omega)]; omega
        have e0 : 0 + ((53 * i : Nat) : Int).toNat = 53 * i := by omega
        have e1 : l.length - ((53 * i : Nat) : Int).toNat = (l.drop (53 * i)).length := by rw [List.length_drop]; omega
        refine FC.u (copyD_fc l s hl) [0] ?_
        conv => whnf
        rw [w1]
        refine And.intro (by omega) ?_
        conv => whnf
        rw [e0, e1, w1, w2]
        repeat (first | refine And.intro (by kernel_rfl) ?_ | refine And.intro (by decide) ?_)
        refine FC.u (ofR_s l (53 * i) (s - 53 * i) (out'.drop i) (by omega) hl hb ok'.hout (by rw [List.length_drop] at hfl; rw [List.length_drop]; omega) (by omega)) [4] ?_
        repeat (first | refine And.intro (by kernel_rfl) ?_ | refine And.intro (by decide) ?_)
        have ed : doJ l s a b (dropO l s a b u) = ⟨l.drop (53 * i), ((s - 53 * i : Nat) : Int), a, b, 0⟩ := by
          rw [dropO, if_pos hr, ho, ← hk]
          unfold doJ
          congr 1
          show (s : Int) - ((53 * i : Nat) : Int) = _
          omega
        exact ⟨⟨l.drop (53 * i), ((s - 53 * i : Nat) : Int), seqF (out'.drop i) (out'.drop i).length, seqF (out'.drop i) ((s - 53 * i) / 53), 0⟩, by rw [ed, ok'.ha, ok'.hb], isEnd.go [(1, .to 6)] rfl ⟨.inl rfl, .inl rfl, trivial⟩⟩
    · repeat (first | refine And.intro (by kernel_rfl) ?_ | refine And.intro (by decide) ?_)
      obtain rfl : i = k := by rw [hk]; exact drop_no (by rw [← hk]; exact hi) (fun h => c1 h.2.1)
      clear hi
      have hc := ok'.ch
      have hfl := hc.len
      rw [List.length_drop] at hfl
      have w1 : IntKind.i64.wrap ((i : Int) * 53) = ((53 * i : Nat) : Int) := by rw [wrap64_in (by omega) (by omega)]; omega
      have w2 : IntKind.i64.wrap ((s : Int) - ((53 * i : Nat) : Int)) = ((s - 53 * i : Nat) : Int) := by rw [wrap64_in (by omega) (by omega)]; omega
      have e0 : 0 + ((53 * i : Nat) : Int).toNat = 53 * i := by omega
      have e1 : l.length - ((53 * i : Nat) : Int).toNat = (l.drop (53 * i)).length := by rw [List.length_drop]; omega
      refine FC.u (copyD_fc l s hl) [0] ?_
      conv => whnf
      rw [w1]
      refine And.intro (by omega) ?_
      conv => whnf
      rw [e0, e1, w1, w2]
      repeat (first | refine And.intro (by kernel_rfl) ?_ | refine And.intro (by decide) ?_)
      refine FC.u (ofR_s l (53 * i) (s - 53 * i) (out'.drop i) (by omega) hl hb ok'.hout (by rw [List.length_drop] at hfl; rw [List.length_drop]; omega) (by omega)) [4] ?_
      repeat (first | refine And.intro (by kernel_rfl) ?_ | refine And.intro (by decide) ?_)
      have ed : doJ l s a b (dropO l s a b u) = ⟨l.drop (53 * i), ((s - 53 * i : Nat) : Int), a, b, 0⟩ := by
        rw [dropO, if_pos hr, ho, ← hk]
        unfold doJ
        congr 1
        show (s : Int) - ((53 * i : Nat) : Int) = _
        omega
      exact ⟨⟨l.drop (53 * i), ((s - 53 * i : Nat) : Int), seqF (out'.drop i) (out'.drop i).length, seqF (out'.drop i) ((s - 53 * i) / 53), 0⟩, by rw [ed, ok'.ha, ok'.hb], isEnd.go [(1, .to 6)] rfl ⟨.inl rfl, .inl rfl, trivial⟩⟩
  · repeat (first | refine And.intro (by kernel_rfl) ?_ | refine And.intro (by decide) ?_)
    obtain rfl : i = k := by rw [hk]; exact drop_no (by rw [← hk]; exact hi) (fun h => h1 (by have := h.1; show (i : Int) < (out'.length : Int); omega))
    clear hi
    have hc := ok'.ch
    have hfl := hc.len
    rw [List.length_drop] at hfl
    have w1 : IntKind.i64.wrap ((i : Int) * 53) = ((53 * i : Nat) : Int) := by rw [wrap64_in (by omega) (by omega)]; omega
    have w2 : IntKind.i64.wrap ((s : Int) - ((53 * i : Nat) : Int)) = ((s - 53 * i : Nat) : Int) := by rw [wrap64_in (by omega) (by omega)]; omega
    have e0 : 0 + ((53 * i : Nat) : Int).toNat = 53 * i := by omega
    have e1 : l.length - ((53 * i : Nat) : Int).toNat = (l.drop (53 * i)).length := by rw [List.length_drop]; omega
    refine FC.u (copyD_fc l s hl) [0] ?_
    conv => whnf
    rw [w1]
    refine And.intro (by omega) ?_
    conv => whnf
    rw [e0, e1, w1, w2]
    repeat (first | refine And.intro (by kernel_rfl) ?_ | refine And.intro (by decide) ?_)
    refine FC.u (ofR_s l (53 * i) (s - 53 * i) (out'.drop i) (by omega) hl hb ok'.hout (by rw [List.length_drop] at hfl; rw [List.length_drop]; omega) (by omega)) [4] ?_
    repeat (first | refine And.intro (by kernel_rfl) ?_ | refine And.intro (by decide) ?_)
    have ed : doJ l s a b (dropO l s a b u) = ⟨l.drop (53 * i), ((s - 53 * i : Nat) : Int), a, b, 0⟩ := by
      rw [dropO, if_pos hr, ho, ← hk]
      unfold doJ
      congr 1
      show (s : Int) - ((53 * i : Nat) : Int) = _
      omega
    exact ⟨⟨l.drop (53 * i), ((s - 53 * i : Nat) : Int), seqF (out'.drop i) (out'.drop i).length, seqF (out'.drop i) ((s - 53 * i) / 53), 0⟩, by rw [ed, ok'.ha, ok'.hb], isEnd.go [(1, .to 6)] rfl ⟨.inl rfl, .inl rfl, trivial⟩⟩
end Go.Sx.T1
namespace Go.Sx.T1
open Go.Proofs Go.Sx.Crc
/-! Since -/
def uBox (u : Int) (wr : Bool) : Option Blk := some ⟨.box [.v (.int .i64 u)], wr⟩
abbrev snc : Nat := 55
def low (u : Int) (r : Rcd) : Bool := decide (r.seq ≤ u)
set_option maxHeartbeats 3200000 in
set_option maxRecDepth 10000 in
theorem since1_fc (u : Int) (r : Rcd) : FC Try.prog 55 [.o (.a (rcC r)), .o (.c (.p 0 0 0))] [uBox u false] (boo (low u r)) [uBox u false] := by
  refine FC.one (FC.rj mix Try.func55 ?_)
  repeat (first | refine And.intro (by kernel_rfl) ?_ | refine And.intro (by decide) ?_)
  exact ⟨(), trivial, .id rfl ⟨.inl rfl, trivial⟩⟩
/-- the first record that is not newer -/
def IdxOk (u : Int) (l : List Rcd) (n : Int) : Prop := (n = -1 ∧ ∀ j, j < l.length → low u (l.getD j zR) = false) ∨ ∃ i : Nat, n = i ∧ i < l.length ∧ low u (l.getD i zR) = true ∧ ∀ j, j < i → low u (l.getD j zR) = false
set_option maxHeartbeats 3200000 in
set_option maxRecDepth 10000 in
theorem idxR_fc (u : Int) (l : List Rcd) (hl : l.length ≤ 100000) : ∃ n : Int, FC Try.prog 73 [.o (.c (.s 0 0 l.length 16)), .o (.c (.f snc [] [.p 1 0 0]))] [recs l false, uBox u false] (int .i64 n) [recs l false, uBox u false] ∧ IdxOk u l n := by
  refine FC.rj mix Try.func73 ?_
  refine ALoop.go (X := Nat) (fun i => i ≤ l.length ∧ ∀ j, j < i → low u (l.getD j zR) = false) (fun i => l.length - i) [0, 1, 6, 7] [0, 1] (fun i => [(8, int .i64 i)]) (fun _ => []) 0 ⟨Nat.zero_le _, fun j hj => absurd hj (Nat.not_lt_zero _)⟩ ⟨rfl, trivial⟩ trivial ?_
  rintro i ⟨hi, hno⟩
  dsimp only [headF, headM]
  refine bselD (fun h => ?_) (fun h => ?_)
  · have h' : i < l.length := by have : (i : Int) < l.length := h; omega
    have wi : IntKind.i64.wrap ((i : Int) + 1) = ((i + 1 : Nat) : Int) := wrap64_in (by omega) (by omega)
    have ei : 0 + (i : Int).toNat = i := by simp
    repeat refine AJoin.plain ?_
    refine And.intro ⟨by omega, by show (i : Int) < l.length; exact h⟩ ?_
    refine And.intro (by show 0 + (i : Int).toNat < l.length; omega) ?_
    conv => whnf
    rw [ei]
    refine FC.u (since1_fc u (l.getD i zR)) [1] ?_
    repeat refine AJoin.plain ?_
    refine bsel_intro (fun hp => ?_) (fun hp => ?_)
    · exact ⟨(i : Int), .inr ⟨i, rfl, h', hp, hno⟩, .id rfl ⟨.inl rfl, .inl rfl, trivial⟩⟩
    · refine ⟨i + 1, ⟨⟨by omega, fun j hj => ?_⟩, by show l.length - (i + 1) < l.length - i; omega⟩, .id ⟨congrArg (int .i64) wi, trivial⟩ rfl trivial rfl⟩
      rcases Nat.lt_or_ge j i with h1 | h1
      · exact hno j h1
      · obtain rfl : j = i := by omega
        exact hp
  · repeat (first | refine And.intro (by kernel_rfl) ?_ | refine And.intro (by decide) ?_)
    exact ⟨-1, .inl ⟨rfl, fun j hj => hno j (by have : ¬ (i : Int) < l.length := h; omega)⟩, .id rfl ⟨.inl rfl, .inl rfl, trivial⟩⟩
def newer (u : Int) (l : List Rcd) : List Rcd := l.filter fun r => !low u r
theorem newer_all {u : Int} {l : List Rcd} (h : ∀ j, j < l.length → low u (l.getD j zR) = false) : newer u l = l := by
  unfold newer
  rw [List.filter_eq_self]
  intro r hr
  obtain ⟨j, hj, rfl⟩ := List.getElem_of_mem hr
  have := h j hj
  rw [List.getD_eq_getElem?_getD, List.getElem?_eq_getElem hj] at this
  simpa using this
theorem take_next {l : List Rcd} {j : Nat} (hj : j < l.length) : l.take (j + 1) = l.take j ++ [l.getD j zR] := by
  rw [List.take_add_one, List.getD_eq_getElem?_getD, List.getElem?_eq_getElem hj]
  rfl
theorem newer_next {u : Int} {l : List Rcd} {j : Nat} (hj : j < l.length) : newer u (l.take (j + 1)) = newer u (l.take j) ++ (if low u (l.getD j zR) = true then [] else [l.getD j zR]) := by
  rw [take_next hj, newer, newer, List.filter_append]
  congr 1
  cases hb : low u (l.getD j zR) with
  | true => rw [List.filter_cons, hb]; rfl
  | false => rw [List.filter_cons, hb]; rfl
theorem newer_take {u : Int} {l : List Rcd} {i : Nat} (hi : i ≤ l.length) (h : ∀ j, j < i → low u (l.getD j zR) = false) : newer u (l.take i) = l.take i := by
  refine newer_all fun j hj => ?_
  rw [List.length_take] at hj
  have := h j (by omega)
  rw [List.getD_eq_getElem?_getD] at this ⊢
  rwa [List.getElem?_take_of_lt (by omega)]
structure DX where
  i : Nat
  j : Nat
  c : List Rcd
set_option maxHeartbeats 3200000 in
set_option maxRecDepth 10000 in
theorem delR_fc (u : Int) (l : List Rcd) (hl : l.length ≤ 100000) : ∃ o : List Rcd, FC Try.prog 54 [.o (.c (.s 0 0 l.length 16)), .o (.c (.f snc [] [.p 1 0 0]))] [recs l true, uBox u false] (.o (.c (.s 0 0 o.length 16))) [recs o true, uBox u false] ∧ o = newer u l := by
  refine FC.rj mix Try.func54 ?_
  repeat (first | refine And.intro (by kernel_rfl) ?_ | refine And.intro (by decide) ?_)
  refine FC.x (idxR_fc u l hl) [0, 1] (fun n hn => ?_)
  repeat (first | refine And.intro (by kernel_rfl) ?_ | refine And.intro (by decide) ?_)
  refine bselE (fun h => ?_) (fun h => ?_)
  · have h0 : ∀ j, j < l.length → low u (l.getD j zR) = false := by
      rcases hn with ⟨_, hn⟩ | ⟨i, rfl, _⟩
      · exact hn
      · exact absurd (show (i : Int) = -1 from h) (by omega)
    repeat (first | refine And.intro (by kernel_rfl) ?_ | refine And.intro (by decide) ?_)
    exact ⟨l, (newer_all h0).symm, .id rfl ⟨.inl rfl, .inl rfl, trivial⟩⟩
  obtain ⟨i0, rfl, hi0, hlow, hno⟩ : ∃ i : Nat, n = i ∧ i < l.length ∧ low u (l.getD i zR) = true ∧ ∀ j, j < i → low u (l.getD j zR) = false := by
    rcases hn with ⟨rfl, _⟩ | hn
    · exact absurd rfl h
    · exact hn
  have w0 : IntKind.i64.wrap ((i0 : Int) + 1) = ((i0 + 1 : Nat) : Int) := wrap64_in (by omega) (by omega)
  conv => whnf
  rw [w0]
  repeat (first | refine And.intro (by kernel_rfl) ?_ | refine And.intro (by decide) ?_)
  refine ALoop.goN (X := DX) (fun x => (x.i < x.j ∧ x.j ≤ l.length ∧ x.c.length = l.length) ∧ (x.c.take x.i = newer u (l.take x.j)) ∧ ∀ t, x.j ≤ t → x.c.getD t zR = l.getD t zR)
    (fun x => l.length - x.j) [0, 1, 4] [1] (fun x => [(5, int .i64 x.i), (6, int .i64 x.j)]) (fun x => [(0, ⟨.rows 16 l.length (fun i => rcC (x.c.getD i zR)), true⟩)]) ⟨i0, i0 + 1, l⟩ 2
    ⟨⟨Nat.lt_succ_self _, hi0, rfl⟩, by rw [newer_next hi0, if_pos hlow, List.append_nil, newer_take (Nat.le_of_lt hi0) hno], fun _ _ => rfl⟩ (isAt.go [] ⟨rfl, rfl, trivial⟩ ⟨.inl rfl, trivial⟩) ?_
  rintro ⟨i, j, c⟩ ⟨⟨hij, hj, hc⟩, htk, hrest⟩
  simp only at hij hj hc htk hrest
  dsimp only [headF, headM]
  refine bselD (fun h1 => ?_) (fun h1 => ?_)
  · have h1' : j < l.length := by have h2 : (j : Int) < (l.length : Int) := h1; omega
    have ej : 0 + (j : Int).toNat = j := by simp
    have ei : 0 + (i : Int).toNat = i := by simp
    have wj : IntKind.i64.wrap ((j : Int) + 1) = ((j + 1 : Nat) : Int) := wrap64_in (by omega) (by omega)
    have wi : IntKind.i64.wrap ((i : Int) + 1) = ((i + 1 : Nat) : Int) := wrap64_in (by omega) (by omega)
    repeat refine AJoin.plain ?_
    refine And.intro ⟨by omega, h1⟩ ?_
    refine And.intro (by show 0 + (j : Int).toNat < l.length; omega) ?_
    conv => whnf
    rw [ej]
    refine FC.u (since1_fc u (c.getD j zR)) [1] ?_
    repeat refine AJoin.plain ?_
    refine bselNot (bsel_intro (fun hp => ?_) (fun hp => ?_))
    · have hp' : low u (l.getD j zR) = true := by rw [← hrest j (Nat.le_refl _)]; exact hp
      repeat (first | refine And.intro (by kernel_rfl) ?_ | refine And.intro (by decide) ?_)
      exact ⟨⟨i, j + 1, c⟩, ⟨⟨⟨by show i < j + 1; omega, by show j + 1 ≤ l.length; omega, hc⟩, by show c.take i = newer u (l.take (j + 1)); rw [newer_next h1', if_pos hp', List.append_nil, htk], fun t ht => hrest t (by have h2 : j + 1 ≤ t := ht; omega)⟩, by show l.length - (j + 1) < l.length - j; omega⟩,
        isAt.go [] ⟨rfl, congrArg (int .i64) wj, trivial⟩ ⟨.inl rfl, trivial⟩⟩
    · have hp' : ¬ low u (l.getD j zR) = true := by rw [← hrest j (Nat.le_refl _), show low u (c.getD j zR) = false from hp]; simp
      refine And.intro ⟨by omega, by omega⟩ ?_
      refine And.intro (by show 0 + (i : Int).toNat < l.length; omega) ?_
      conv => whnf
      rw [ei]
      repeat (first | refine And.intro (by kernel_rfl) ?_ | refine And.intro (by decide) ?_)
      refine ⟨⟨i + 1, j + 1, c.set i (c.getD j zR)⟩, ⟨⟨⟨by show i + 1 < j + 1; omega, by show j + 1 ≤ l.length; omega, by show (c.set i (c.getD j zR)).length = l.length; rw [List.length_set, hc]⟩, ?_, fun t ht => ?_⟩, by show l.length - (j + 1) < l.length - j; omega⟩,
        isAt.go [] ⟨congrArg (int .i64) wi, congrArg (int .i64) wj, trivial⟩ ⟨leB.rows (Nat.le_refl _) (fun q hq => ?_) id, trivial⟩⟩
      · show (c.set i (c.getD j zR)).take (i + 1) = newer u (l.take (j + 1))
        rw [newer_next h1', if_neg hp', ← htk, take_next (by rw [List.length_set]; omega), List.take_set_of_le (Nat.le_refl _), ← hrest j (Nat.le_refl _)]
        congr 2
        rw [List.getD_eq_getElem?_getD, List.getElem?_set_self (by omega)]
        rfl
      · have h2 : j + 1 ≤ t := ht
        show (c.set i (c.getD j zR)).getD t zR = _
        rw [List.getD_eq_getElem?_getD, List.getElem?_set_ne (by omega), ← List.getD_eq_getElem?_getD]
        exact hrest t (by omega)
      · show (if q = i then rcC (c.getD j zR) else rcC (c.getD q zR)) = rcC ((c.set i (c.getD j zR)).getD q zR)
        by_cases hq' : q = i
        · subst hq'
          rw [if_pos rfl, List.getD_eq_getElem?_getD (l := c.set q (c.getD j zR)), List.getElem?_set_self (by omega)]
          rfl
        · rw [if_neg hq', List.getD_eq_getElem?_getD (l := c.set i (c.getD j zR)), List.getElem?_set_ne (fun e => hq' e.symm), ← List.getD_eq_getElem?_getD]
  · have hj' : j = l.length := by have h2 : ¬ (j : Int) < (l.length : Int) := h1; omega
    subst hj'
    rw [List.take_length] at htk
    have ei : 0 + (i : Int).toNat = i := by simp
    conv => whnf
    refine And.intro (by omega) ?_
    repeat (first | refine And.intro (by kernel_rfl) ?_ | refine And.intro (by decide) ?_)
    refine And.intro (by show 0 + (i : Int).toNat ≤ l.length; omega) ?_
    refine And.intro (by omega) ?_
    have ec : (c.take i).length = i := by rw [List.length_take]; omega
    exact ⟨c.take i, htk, .id (congrArg (fun n => SV.o (.c (.s 0 0 n 16))) (by rw [ec]; simp)) ⟨leB.rows (by rw [ec]; show i ≤ 0 + (i : Int).toNat; omega) (fun q hq => by
      rw [ec] at hq
      show rcC (c.getD (0 + q) zR) = rcC ((c.take i).getD q zR)
      rw [Nat.zero_add, List.getD_eq_getElem?_getD, List.getD_eq_getElem?_getD, List.getElem?_take_of_lt hq]) id, .inl rfl, trivial⟩⟩
theorem recsF_len (l : List Nat) (sy a b : Int) : 53 * (recsF l sy a b).length ≤ l.length := by
  rw [recsF]
  split
  · rw [readF]
    split
    · exact Nat.zero_le _
    · exact scanN_len _ _ _
  · exact Nat.zero_le _
set_option maxHeartbeats 3200000 in
set_option maxRecDepth 10000 in
theorem sinceJ_fc (l : List Nat) (sy a b u : Int) (hl : l.length ≤ 100000) (hb : By l) :
    ∃ o : List Rcd, FC Try.prog 30 [.o (jV 0 l.length sy a b), int .i64 u] [u8n l false] (.o (.c (.s 1 0 o.length 16))) [u8n l false, recs o true] ∧ o = newer u (recsF l sy a b) := by
  refine FC.rj mix Try.func30 ?_
  repeat (first | refine And.intro (by kernel_rfl) ?_ | refine And.intro (by decide) ?_)
  refine FC.x (recordsJ_fc l sy a b hl hb) [0] (fun o ho => ?_)
  repeat (first | refine And.intro (by kernel_rfl) ?_ | refine And.intro (by decide) ?_)
  refine FC.x (delR_fc u o ?_) [3, 2] (fun o' ho' => ?_)
  · have := recsF_len l sy a b; rw [← ho] at this; omega
  repeat (first | refine And.intro (by kernel_rfl) ?_ | refine And.intro (by decide) ?_)
  exact ⟨o', by rw [ho', ho], isEnd.go [(1, .to 3)] rfl ⟨.inl rfl, .inl rfl, trivial⟩⟩
set_option maxHeartbeats 3200000 in
set_option maxRecDepth 10000 in
theorem sinceR_fc (l : List Nat) (sy a b u : Int) (hl : l.length ≤ 100000) (hb : By l) :
    ∃ o : List Rcd, FC Try.prog 51 [.o (jV 0 l.length sy a b), int .i64 u] [u8n l false] (.o (.c (.s 1 0 o.length 16))) [u8n l false, recs o true] ∧ o = newer u (recsF l sy a b) := by
  refine FC.rj mix Try.func51 ?_
  repeat (first | refine And.intro (by kernel_rfl) ?_ | refine And.intro (by decide) ?_)
  refine FC.x (recordsR_fc l sy a b hl hb) [0] (fun o ho => ?_)
  have hol := recsF_len l sy a b
  rw [← ho] at hol
  repeat (first | refine And.intro (by kernel_rfl) ?_ | refine And.intro (by decide) ?_)
  refine ALoop.goN (X := Nat) (fun i => i ≤ o.length) (fun i => o.length - i) [1, 2, 4, 6] [0, 2] (fun i => [(5, .o (.c (.s 3 0 (newer u (o.take i)).length 16))), (7, int .i64 i)]) (fun i => [(3, ⟨.rows 16 (newer u (o.take i)).length (fun q => rcC ((newer u (o.take i)).getD q zR)), true⟩)]) 0 4 (Nat.zero_le _)
    (isAt.go [(3, .new 16)] ⟨rfl, rfl, trivial⟩ ⟨⟨.inr ⟨rfl, Nat.le_of_ble_eq_true rfl, fun _ h => absurd h (Nat.not_lt_zero _)⟩, rfl⟩, trivial⟩) ?_
  intro i hi
  dsimp only [headF, headM]
  refine bselD (fun h1 => ?_) (fun h1 => ?_)
  · have h1' : i < o.length := by have h2 : (i : Int) < (o.length : Int) := h1; omega
    have ei : 0 + (i : Int).toNat = i := by simp
    have wi : IntKind.i64.wrap ((i : Int) + 1) = ((i + 1 : Nat) : Int) := wrap64_in (by omega) (by omega)
    have hnl : (newer u (o.take i)).length ≤ o.length := Nat.le_trans (List.length_filter_le _ _) (by rw [List.length_take]; omega)
    have hnx := newer_next (u := u) h1'
    repeat refine AJoin.plain ?_
    refine And.intro ⟨by omega, h1⟩ ?_
    refine And.intro (by show 0 + (i : Int).toNat < o.length; omega) ?_
    conv => whnf
    rw [ei]
    repeat (first | refine And.intro (by kernel_rfl) ?_ | refine And.intro (by decide) ?_)
    refine bselD (fun c1 => ?_) (fun c1 => ?_)
    · rw [if_neg (show ¬ low u (o.getD i zR) = true by unfold low; rw [decide_eq_true_eq]; have : (o.getD i zR).seq > u := c1; omega)] at hnx
      generalize hw : newer u (o.take i) = w at *
      refine And.intro ⟨by omega, h1⟩ ?_
      refine And.intro (by show 0 + (i : Int).toNat < o.length; omega) ?_
      conv => whnf
      rw [ei]
      refine And.intro ⟨by show 0 + w.length ≤ w.length; omega, fun _ _ => rfl⟩ ?_
      refine And.intro ⟨Nat.le_of_ble_eq_true rfl, fun q hq => by have hq' : q < 1 := hq; obtain rfl : q = 0 := (by omega); rfl⟩ ?_
      refine And.intro (by show w.length + 1 ≤ 4294967296; omega) ?_
      repeat (first | refine And.intro (by kernel_rfl) ?_ | refine And.intro (by decide) ?_)
      refine ⟨i + 1, ⟨by omega, by show o.length - (i + 1) < o.length - i; omega⟩, isAt.go [(3, .to 5)] ⟨congrArg (fun n => SV.o (.c (.s 5 0 n 16))) (by rw [hnx]; simp), congrArg (int .i64) wi, trivial⟩ ⟨leB.rows (by rw [hnx]; simp) (fun j hj => ?_) id, trivial⟩⟩
      rw [hnx] at hj ⊢
      have hj' : j < (w ++ [o.getD i zR]).length := hj
      exact rowR2 (p := o.getD i zR) w j (by simpa using hj')
    · rw [if_pos (show low u (o.getD i zR) = true by unfold low; rw [decide_eq_true_eq]; have : ¬ (o.getD i zR).seq > u := c1; omega), List.append_nil] at hnx
      repeat (first | refine And.intro (by kernel_rfl) ?_ | refine And.intro (by decide) ?_)
      refine ⟨i + 1, ⟨by omega, by show o.length - (i + 1) < o.length - i; omega⟩, isAt.go [] ⟨congrArg (fun n : List Rcd => SV.o (.c (.s 3 0 n.length 16))) hnx.symm, congrArg (int .i64) wi, trivial⟩ ⟨?_, trivial⟩⟩
      rw [hnx]
      exact .inl rfl
  · have hi' : i = o.length := by have h2 : ¬ (i : Int) < (o.length : Int) := h1; omega
    subst hi'
    repeat (first | refine And.intro (by kernel_rfl) ?_ | refine And.intro (by decide) ?_)
    rw [List.take_length]
    exact ⟨newer u o, by rw [ho], isEnd.go [(1, .to 3)] rfl ⟨.inl rfl, .inl rfl, trivial⟩⟩
end Go.Sx.T1
namespace Go.Sx.T1
open Go.Proofs Go.Sx.Crc
/-! Same: records, devices, journals -/
def eqP2 (p q : Pl) : Bool := p.a == q.a && (p.b == q.b && (p.c == q.c && (p.d == q.d && (p.e == q.e && (p.f == q.f && true)))))
def eqR2 (r s : Rcd) : Bool := r.seq == s.seq && (r.time == s.time && (r.bank == s.bank && (eqS r.st s.st && (eqP2 r.pl s.pl && true))))
theorem eqP2_iff {p q : Pl} : eqP2 p q = true ↔ p = q := by
  obtain ⟨a, b, c, d, e, f⟩ := p
  obtain ⟨a', b', c', d', e', f'⟩ := q
  simp [eqP2]
theorem eqR2_iff {r s : Rcd} : eqR2 r s = true ↔ r = s := by
  obtain ⟨a, b, c, d, e⟩ := r
  obtain ⟨a', b', c', d', e'⟩ := s
  simp [eqR2, eqP2_iff, eqS_iff]
theorem eqR2_no {r s : Rcd} (h : r ≠ s) : eqR2 r s = false := by
  cases h' : eqR2 r s with
  | false => rfl
  | true => exact absurd (eqR2_iff.1 h') h
theorem ext_getD2 {α : Type} {a b : List α} (d : α) (hl : a.length = b.length) (h : ∀ i, i < a.length → a.getD i d = b.getD i d) : a = b := by
  apply List.ext_getElem hl
  intro i h1 h2
  have := h i h1
  simpa [List.getD, h1, h2] using this
set_option maxHeartbeats 3200000 in
set_option maxRecDepth 10000 in
theorem same18_fc (a b : List Rcd) (ha : a.length ≤ 1000000) : ∃ c : Bool, FC Try.prog 18 [.o (.c (.s 0 0 a.length 16)), .o (.c (.s 1 0 b.length 16))] [recs a false, recs b false] (boo c) [recs a false, recs b false] ∧ (c = true ↔ a = b) := by
  refine FC.rj mix Try.func18 ?_
  refine bselN (fun hne => ?_) (fun heq => ?_)
  · repeat (first | refine And.intro (by kernel_rfl) ?_ | refine And.intro (by decide) ?_)
    exact ⟨false, ⟨fun h => (by cases h), fun h => absurd (by rw [h]) hne⟩, .id rfl ⟨.inl rfl, .inl rfl, trivial⟩⟩
  have hl : a.length = b.length := by omega
  refine ALoop.go (X := Nat) (fun i => i ≤ a.length ∧ ∀ j, j < i → a.getD j zR = b.getD j zR) (fun i => a.length - i) [0, 1] [0, 1] (fun i => [(5, int .i64 i)]) (fun _ => []) 0 ⟨Nat.zero_le _, fun j h => by omega⟩ ⟨rfl, trivial⟩ trivial ?_
  rintro i ⟨hi, hs⟩
  have ei : 0 + (i : Int).toNat = i := by simp
  dsimp only [headF, headM]
  refine bselD (fun h => ?_) (fun h => ?_)
  · have h' : i < a.length := by have : (i : Int) < a.length := h; omega
    have wi : IntKind.i64.wrap ((i : Int) + 1) = ((i + 1 : Nat) : Int) := wrap64_in (by omega) (by omega)
    repeat refine AJoin.plain ?_
    refine And.intro ⟨by omega, h⟩ ?_
    refine And.intro (by show 0 + i < a.length; omega) ?_
    refine And.intro ⟨by omega, by omega⟩ ?_
    refine And.intro (by show 0 + i < b.length; omega) ?_
    repeat (first | refine And.intro (by kernel_rfl) ?_ | refine And.intro (by decide) ?_)
    conv => whnf
    rw [ei]
    refine bselNot (bsel_intro (b := eqR2 (a.getD i zR) (b.getD i zR)) (fun c => ?_) (fun c => ?_))
    · repeat (first | refine And.intro (by kernel_rfl) ?_ | refine And.intro (by decide) ?_)
      refine ⟨i + 1, ⟨⟨by omega, fun j hj => ?_⟩, by show a.length - (i + 1) < a.length - i; omega⟩, .id ⟨congrArg (int .i64) wi, trivial⟩ rfl trivial rfl⟩
      rcases Nat.lt_or_ge j i with e4 | e4
      · exact hs j e4
      · obtain rfl : j = i := by omega
        exact eqR2_iff.1 c
    · repeat (first | refine And.intro (by kernel_rfl) ?_ | refine And.intro (by decide) ?_)
      exact ⟨false, ⟨fun h => (by cases h), fun h => by rw [h, eqR2_iff.2 rfl] at c; cases c⟩, .id rfl ⟨.inl rfl, .inl rfl, trivial⟩⟩
  · obtain rfl : i = a.length := by have : ¬ (i : Int) < a.length := h; omega
    repeat (first | refine And.intro (by kernel_rfl) ?_ | refine And.intro (by decide) ?_)
    exact ⟨true, ⟨fun _ => ext_getD2 zR hl hs, fun _ => rfl⟩, .id rfl ⟨.inl rfl, .inl rfl, trivial⟩⟩
theorem same18_eq (a : List Rcd) (ha : a.length ≤ 1000000) : FC Try.prog 18 [.o (.c (.s 0 0 a.length 16)), .o (.c (.s 1 0 a.length 16))] [recs a false, recs a false] (boo true) [recs a false, recs a false] := by
  obtain ⟨c, h, hc⟩ := same18_fc a a ha
  rw [hc.2 rfl] at h
  exact h
theorem same19_eq (l : List Nat) (sy : Int) (hl : l.length ≤ 100000) : FC Try.prog 53 [.o (.a [.s 0 0 l.length 1, .v (.int .i64 sy)]), .o (.a [.s 1 0 l.length 1, .v (.int .i64 sy)])] [u8n l false, u8n l false] (boo true) [u8n l false, u8n l false] := by
  have := same19_fc (zl l) (zl l) sy sy (by rw [zl_len]; omega)
  rw [decide_eq_true ⟨rfl, rfl⟩] at this
  unfold dvS at this
  rw [zl_len] at this
  exact this
set_option maxHeartbeats 3200000 in
set_option maxRecDepth 10000 in
theorem same20_eq (l : List Nat) (sy a b : Int) (hl : l.length ≤ 100000) : FC Try.prog 29 [.o (jV 0 l.length sy a b), .o (jV 1 l.length sy a b)] [u8n l false, u8n l false] (boo true) [u8n l false, u8n l false] := by
  refine FC.one (FC.rj mix Try.func29 ?_)
  repeat (first | refine And.intro (by kernel_rfl) ?_ | refine And.intro (by decide) ?_)
  refine bselE (fun h => ?_) (fun h => absurd rfl h)
  repeat (first | refine And.intro (by kernel_rfl) ?_ | refine And.intro (by decide) ?_)
  refine bselE (fun h => ?_) (fun h => absurd rfl h)
  repeat (first | refine And.intro (by kernel_rfl) ?_ | refine And.intro (by decide) ?_)
  refine FC.u (same19_eq l sy hl) [0, 1] ?_
  repeat (first | refine And.intro (by kernel_rfl) ?_ | refine And.intro (by decide) ?_)
  exact ⟨(), trivial, .id rfl ⟨.inl rfl, .inl rfl, trivial⟩⟩
theorem same20_s (l : List Nat) (off : Nat) (sy a b : Int) (hoff : off ≤ l.length) (hl : l.length ≤ 100000) :
    FC Try.prog 29 [.o (.a [.s 0 off (l.drop off).length 1, .v (.int .i64 sy), .v (.int .i64 a), .v (.int .i64 b)]), .o (jV 1 (l.drop off).length sy a b)] [u8n l false, u8n (l.drop off) false] (boo true) [u8n l false, u8n (l.drop off) false] := by
  have h := same20_eq (l.drop off) sy a b (by rw [List.length_drop]; omega)
  exact FC.shiftN (xs := zl l) (off := off) (args0 := [.o (.a [.s 0 0 (l.drop off).length 1, .v (.int .i64 sy), .v (.int .i64 a), .v (.int .i64 b)]), .o (jV 1 (l.drop off).length sy a b)]) (R0 := [u8n (l.drop off) false]) (R1 := [u8n (l.drop off) false])
    (by rw [zl_len]; exact hoff) rfl ⟨nzB.ints, trivial⟩ ⟨nzB.ints, trivial⟩ rfl (by rw [zl_dropS]; exact h)
end Go.Sx.T1
namespace Go.Sx.T1
open Go.Proofs Go.Sx.Crc
/-! law20.agree -/
theorem openF_len (l : List Nat) (sy : Int) (hl : l.length ≤ 100000) : (openF l sy).l.length ≤ 100000 := by
  unfold openF
  split
  · exact Nat.zero_le _
  · show (l.take _).length ≤ _
    rw [List.length_take]; omega
theorem appF_len (l : List Nat) (sy a b : Int) (r : Rcd) (hl : l.length ≤ 100000) : (appF l sy a b r).l.length ≤ 100000 := by
  unfold appF
  split
  · exact hl
  · split
    · exact hl
    · split
      · exact hl
      · split
        · exact hl
        · show (l ++ (encF r).1).length ≤ 100000
          rw [List.length_append]; omega
theorem syncF_len (l : List Nat) (sy a b : Int) (hl : l.length ≤ 100000) : (syncF l sy a b).l.length ≤ 100000 := by
  unfold syncF
  split <;> exact hl
theorem dropO_le (l : List Nat) (sy a b u : Int) : (dropO l sy a b u).o ≤ l.length := by
  unfold dropO
  split
  · rename_i h
    obtain ⟨s, out, rfl, ok⟩ := read_true h
    have ho : (readF l s a b).1 = out := by rw [ok.hout, readF, if_neg (by rw [ok.hv]; simp)]
    have := dropK_le u b out
    have := ok.full
    rw [ho]
    show 53 * _ ≤ _
    omega
  · exact Nat.zero_le _
set_option maxHeartbeats 3200000 in
set_option maxRecDepth 10000 in
theorem agree20_fc (l : List Nat) (sy a b : Int) (r : Rcd) (u : Int) (hl : l.length ≤ 100000) (hb : By l) :
    FC Try.prog 24 [.o (jV 0 l.length sy a b), .o (.a (rcC r)), int .i64 u] [u8n l false] (boo true) [u8n l false] := by
  refine FC.one (FC.rj mix Try.func24 ?_)
  repeat (first | refine And.intro (by kernel_rfl) ?_ | refine And.intro (by decide) ?_)
  refine FC.x (openJ_fc l sy hl hb) [0] (fun x1 h1 => ?_)
  repeat (first | refine And.intro (by kernel_rfl) ?_ | refine And.intro (by decide) ?_)
  refine FC.x (openR_fc l sy hl hb) [0] (fun x1' h1' => ?_)
  obtain rfl := h1'.trans h1.symm
  have l1 := openF_len l sy hl
  rw [← h1] at l1
  clear h1 h1'
  repeat (first | refine And.intro (by kernel_rfl) ?_ | refine And.intro (by decide) ?_)
  refine FC.x (appJ_fc l sy a b r hl hb) [0] (fun x2 h2 => ?_)
  repeat (first | refine And.intro (by kernel_rfl) ?_ | refine And.intro (by decide) ?_)
  refine FC.x (appR20_fc l sy a b r hl hb) [0] (fun x2' h2' => ?_)
  obtain rfl := h2'.trans h2.symm
  have l2 := appF_len l sy a b r hl
  rw [← h2] at l2
  clear h2 h2'
  repeat (first | refine And.intro (by kernel_rfl) ?_ | refine And.intro (by decide) ?_)
  refine bselN (fun h => absurd rfl h) (fun _ => ?_)
  repeat (first | refine And.intro (by kernel_rfl) ?_ | refine And.intro (by decide) ?_)
  refine FC.u (same20_eq x1'.l x1'.sy x1'.a x1'.b l1) [3, 5] ?_
  repeat (first | refine And.intro (by kernel_rfl) ?_ | refine And.intro (by decide) ?_)
  refine bselN (fun h => absurd rfl h) (fun _ => ?_)
  repeat (first | refine And.intro (by kernel_rfl) ?_ | refine And.intro (by decide) ?_)
  refine FC.u (same20_eq x2'.l x2'.sy x2'.a x2'.b l2) [7, 9] ?_
  repeat (first | refine And.intro (by kernel_rfl) ?_ | refine And.intro (by decide) ?_)
  refine FC.x (syncJ_fc l sy a b hl hb) [0] (fun x3 h3 => ?_)
  repeat (first | refine And.intro (by kernel_rfl) ?_ | refine And.intro (by decide) ?_)
  refine FC.x (syncR20_fc l sy a b hl hb) [0] (fun x3' h3' => ?_)
  obtain rfl := h3'.trans h3.symm
  have l3 := syncF_len l sy a b hl
  rw [← h3] at l3
  clear h3 h3'
  repeat (first | refine And.intro (by kernel_rfl) ?_ | refine And.intro (by decide) ?_)
  refine FC.x (dropJ_fc l sy a b u hl hb) [0] (fun d hd => ?_)
  have hd0 := dropO_le l sy a b u
  rw [← hd] at hd0
  repeat (first | refine And.intro (by kernel_rfl) ?_ | refine And.intro (by decide) ?_)
  refine FC.x (dropR20_fc l sy a b u hl hb) [0] (fun x4 h4 => ?_)
  rw [← hd] at h4
  obtain ⟨o, e⟩ := d
  obtain rfl : x4 = ⟨l.drop o, sy - (o : Int), a, b, e⟩ := h4
  clear hd
  repeat (first | refine And.intro (by kernel_rfl) ?_ | refine And.intro (by decide) ?_)
  refine bselE (fun _ => ?_) (fun h => absurd rfl h)
  repeat (first | refine And.intro (by kernel_rfl) ?_ | refine And.intro (by decide) ?_)
  refine FC.u (same20_eq x3'.l x3'.sy x3'.a x3'.b l3) [11, 12] ?_
  repeat (first | refine And.intro (by kernel_rfl) ?_ | refine And.intro (by decide) ?_)
  refine bselE (fun _ => ?_) (fun h => absurd rfl h)
  repeat (first | refine And.intro (by kernel_rfl) ?_ | refine And.intro (by decide) ?_)
  refine FC.u (same20_s l o (sy - (o : Int)) a b hd0 hl) [13, 14] ?_
  repeat (first | refine And.intro (by kernel_rfl) ?_ | refine And.intro (by decide) ?_)
  refine FC.x (validJ_fc l sy a b hl hb) [0] (fun v1 hv1 => ?_)
  repeat (first | refine And.intro (by kernel_rfl) ?_ | refine And.intro (by decide) ?_)
  refine FC.x (validR20_fc l sy a b hl hb) [0] (fun v2 hv2 => ?_)
  obtain rfl := hv2.trans hv1.symm
  clear hv1 hv2
  repeat (first | refine And.intro (by kernel_rfl) ?_ | refine And.intro (by decide) ?_)
  refine bselT (by simp) ?_
  repeat (first | refine And.intro (by kernel_rfl) ?_ | refine And.intro (by decide) ?_)
  refine FC.x (recordsJ_fc l sy a b hl hb) [0] (fun o1 ho1 => ?_)
  repeat (first | refine And.intro (by kernel_rfl) ?_ | refine And.intro (by decide) ?_)
  refine FC.x (recordsR_fc l sy a b hl hb) [0] (fun o1' ho1' => ?_)
  obtain rfl := ho1'.trans ho1.symm
  have n1 := recsF_len l sy a b
  rw [← ho1] at n1
  repeat (first | refine And.intro (by kernel_rfl) ?_ | refine And.intro (by decide) ?_)
  refine FC.u (same18_eq o1' (by omega)) [15, 16] ?_
  repeat (first | refine And.intro (by kernel_rfl) ?_ | refine And.intro (by decide) ?_)
  refine FC.x (sinceJ_fc l sy a b u hl hb) [0] (fun o2 ho2 => ?_)
  repeat (first | refine And.intro (by kernel_rfl) ?_ | refine And.intro (by decide) ?_)
  refine FC.x (sinceR_fc l sy a b u hl hb) [0] (fun o2' ho2' => ?_)
  obtain rfl := ho2'.trans ho2.symm
  have n2 : o2'.length ≤ o1'.length := by rw [ho2, ← ho1]; exact List.length_filter_le _ _
  repeat (first | refine And.intro (by kernel_rfl) ?_ | refine And.intro (by decide) ?_)
  refine FC.u (same18_eq o2' (by omega)) [17, 18] ?_
  repeat (first | refine And.intro (by kernel_rfl) ?_ | refine And.intro (by decide) ?_)
  exact ⟨(), trivial, .id rfl ⟨.inl rfl, trivial⟩⟩
end Go.Sx.T1
namespace Go.Sx.T1
open Go.Proofs Go.Sx.Crc
/-! what the functions do with a journal -/
theorem read_ok {l : List Nat} {s : Nat} {a b : Int} {out : List Rcd} (ok : JOk l s a b out) : readF l s a b = (out, true) := by
  have hf := ok.full
  have h0 : ¬ validD (zl l) s = false := by rw [ok.hv]; simp
  rw [readF, if_neg h0, ← ok.hout, Int.toNat_natCast, ← ok.ha, ← ok.hb]
  simp
  omega
theorem recs_ok {l : List Nat} {s : Nat} {a b : Int} {out : List Rcd} (ok : JOk l s a b out) : recsF l s a b = out := by
  rw [recsF, read_ok ok, if_pos rfl]
theorem jok_of {l : List Nat} {s : Nat} {out : List Rcd} (hc : Ch l 0 out) (hl : l.length ≤ 16384) (hs : s ≤ l.length) : JOk l s (seqF out out.length) (seqF out (s / 53)) out := by
  refine ⟨?_, hl, hs, (hc.scan (by have := hc.len; omega)).symm, hc.len, rfl, rfl⟩
  unfold validD
  rw [zl_len]
  simp only [Bool.and_eq_true, decide_eq_true_eq]
  omega
theorem jok_nil : JOk [] 0 0 0 [] := jok_of (l := []) (s := 0) (out := []) rfl (Nat.zero_le _) (Nat.le_refl _)
theorem sync_ok {l : List Nat} {s : Nat} {a b : Int} {out : List Rcd} (ok : JOk l s a b out) : syncF l s a b = ⟨l, l.length, a, a, 0⟩ ∧ JOk l l.length a a out := by
  refine ⟨by rw [syncF, read_ok ok, if_pos rfl], ?_⟩
  have := jok_of (s := l.length) ok.ch ok.hlen (Nat.le_refl _)
  have hf := ok.full
  rw [show l.length / 53 = out.length by omega, ← ok.ha] at this
  exact this
theorem app_ok {l : List Nat} {s : Nat} {a b : Int} {out : List Rcd} {r : Rcd} (ok : JOk l s a b out) (hb : By l) (hr : RcOk r) (ha : a < r.seq) (hl : l.length + 53 ≤ 16384) :
    ∃ l', appF l s a b r = ⟨l', s, r.seq, b, 0⟩ ∧ JOk l' s r.seq b (out ++ [r]) ∧ l'.length = l.length + 53 ∧ By l' := by
  have he := encF_ok hr
  have e2 : (encF r).2 = 0 := by rw [he]
  obtain ⟨h53, hs⟩ := app_scan ok e2 ha
  have hB := (encF_bd r).2
  have hf := ok.full
  have hsy := ok.hsy
  refine ⟨l ++ (encF r).1, ?_, ?_, by rw [List.length_append, h53], hb.app hB⟩
  · rw [appF, if_neg (by rw [read_ok ok]; simp), if_neg (fun h => h e2), if_neg (by omega), if_neg (by rw [h53]; omega)]
  · have hc : Ch (l ++ (encF r).1) 0 (out ++ [r]) := by
      rw [hs]
      exact ch_of_scan _ _ _ (by rw [← hs, List.length_append, List.length_append, h53]; simp; omega)
    have := jok_of (s := s) hc (by rw [List.length_append, h53]; omega) (by rw [List.length_append]; omega)
    rw [seqF_last, lastS_app, seqF_app _ (by omega), ← ok.hb] at this
    exact this
theorem open_ch {l : List Nat} {s : Nat} {out : List Rcd} (hc : Ch l 0 out) (hl : l.length ≤ 16384) (hs : s ≤ l.length) : openF l s = ⟨l, s, seqF out out.length, seqF out (s / 53), 0⟩ := by
  have ok := jok_of hc hl hs
  have h0 : ¬ validD (zl l) s = false := by rw [ok.hv]; simp
  have hf := hc.len
  rw [openF, if_neg h0, ← ok.hout, Int.toNat_natCast, show out.length * 53 = l.length by omega, List.take_length, Nat.min_eq_left hs]
theorem open_ok {l : List Nat} {s : Nat} {a b : Int} {out : List Rcd} (ok : JOk l s a b out) : openF l s = ⟨l, s, a, b, 0⟩ := by
  rw [open_ch ok.ch ok.hlen ok.hsy, ← ok.ha, ← ok.hb]
end Go.Sx.T1
