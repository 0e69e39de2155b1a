/- An abstract run of the program's code, part 3. Conditions: none. -/
import Derived.Test.YtcnednlaaigagaaSxTwo
import Derived.KernelRfl
import Derived.Below
import Derived.ChangeArms
import Derived.OpenShut
import Derived.WideShapes
import Derived.SizedLaws
namespace Go.Sx

def resA (P : Program) : List ResultVar → List SV → Mem → (List V1 → Prop) → Prop
  | [], _, _, K => K []
  | .tmp t :: r, fr, M, K => (match frGet fr t with
    | .o y => resA P r fr M fun l => K (y :: l)
    | _ => False)
  | .cell a t :: r, fr, M, K => evLoad P t (frGet fr a) M fun v _ => match v with
    | .o y => resA P r fr M fun l => K (y :: l)
    | _ => False
def tupA : List V1 → SV
  | [y] => .o y
  | l => .t l
def postK (P : Program) (rs : List ResultVar) (v1 : SV) (m1 : Mem) : Kx := fun e fr M => match e with
  | .exit _ => False
  | .pan _ => False
  | _ => resA P rs fr M fun l => tupA l = v1 ∧ leM M m1

theorem evLoad_sound {P : Program} {t : TypeId} {x : SV} {M : Mem} {K : Kt} (h : evLoad P t x M K) {W : World} {A : Nat → Prop} {β : Bet} {w : World} (hSt : St W A β M w) {v : Value} (hv : denS β v x) :
    ∃ ad r y, v = .pointer (some ad) ∧ (loadVar t ad).run P w = .ok r w ∧ den1 β r y ∧ K (.o y) [] := by
  unfold evLoad at h
  split at h
  · rename_i n i j
    split at h
    · rename_i k hk
      split at h
      · rename_i ht
        obtain ⟨m, hm, hh⟩ := hSt.names n k hk
        obtain ⟨m', hm', he⟩ := hv
        rw [hm] at hm'; cases hm'
        obtain ⟨r, y, hr, hd, hK⟩ := load_sound hh ht h
        refine ⟨_, r, y, he, ?_, hd, hK⟩
        simpa [Instr.loadAt, Instr.sureAddr] using hr
      · exact h.elim
    · exact h.elim
  · exact h.elim

def resOne (tmps : Array Value) : ResultVar → Sem Value
  | .tmp t => pure (tmps.getD t undef)
  | .cell a t => do loadVar t (← asAddr (tmps.getD a undef))

theorem resA_sound {P : Program} {W : World} {A : Nat → Prop} {β : Bet} {M : Mem} {w : World} {tmps : Array Value} {fr : List SV} (hSt : St W A β M w) (hF : Fr β tmps fr) :
    ∀ (rs : List ResultVar) (K : List V1 → Prop), resA P rs fr M K → ∃ l vs, K l ∧ denL1 β vs l ∧ (rs.mapM (resOne tmps)).run P w = .ok vs w
  | [], K, h => ⟨[], [], h, trivial, by simp⟩
  | .tmp t :: r, K, h => by
    unfold resA at h
    split at h
    · rename_i y hy
      obtain ⟨l, vs, hK, hd, hr⟩ := resA_sound hSt hF r _ h
      have := hF.den t
      rw [hy] at this
      exact ⟨y :: l, tmps.getD t undef :: vs, hK, ⟨this, hd⟩, by rw [List.mapM_cons]; simp only [resOne, Sem.run_bind, Sem.run_pure, Result.andThen_ok, hr]⟩
    · exact h.elim
  | .cell a t :: r, K, h => by
    unfold resA at h
    obtain ⟨ad, v, y, he, hv, hdy, hK⟩ := evLoad_sound h hSt (hF.den a)
    simp only at hK
    obtain ⟨l, vs, hK, hd, hr⟩ := resA_sound hSt hF r _ hK
    exact ⟨y :: l, v :: vs, hK, ⟨hdy, hd⟩, by rw [List.mapM_cons]; simp only [resOne, Sem.run_bind, Sem.run_pure, Result.andThen_ok, he, asAddr, hv, hr]⟩

theorem results_sound {P : Program} {fn : Func} {W : World} {A : Nat → Prop} {β : Bet} {M : Mem} {w : World} {tmps : Array Value} {fr : List SV} (hSt : St W A β M w) (hF : Fr β tmps fr) {K : List V1 → Prop}
    (h : resA P fn.results.toList fr M K) : ∃ l v, K l ∧ denS β v (tupA l) ∧ (results fn tmps).run P w = .ok v w := by
  obtain ⟨l, vs, hK, hd, hr⟩ := resA_sound hSt hF _ _ h
  have hm : (fn.results.mapM (resOne tmps)).run P w = .ok vs.toArray w := by
    rw [Array.mapM_eq_mapM_toList]
    simp [hr]
  have hres : (results fn tmps).run P w = .ok (if h : vs.toArray.size = 1 then vs.toArray[0] else .tuple vs.toArray) w := by
    have he : results fn tmps = (do
        let vs ← fn.results.mapM (resOne tmps)
        pure (if h : vs.size = 1 then vs[0] else .tuple vs)) := rfl
    rw [he, Sem.run_bind, hm]
    rfl
  refine ⟨l, _, hK, ?_, hres⟩
  cases l with
  | nil => cases vs with
    | nil => exact ⟨[], rfl, trivial⟩
    | cons => cases hd
  | cons y l => cases vs with
    | nil => cases hd
    | cons v vs => cases l with
      | nil => cases vs with
        | nil => exact hd.1
        | cons => cases hd.2
      | cons y' l => cases vs with
        | nil => cases hd.2
        | cons v' vs => exact ⟨v :: v' :: vs, by simp, hd⟩

/-- the blocks of the names that may be written -/
def wrA (w : World) (β : Bet) (m0 : Mem) (b : Nat) : Prop := ∃ n k m, m0.get n = some k ∧ k.wr = true ∧ β n = some m ∧ ownB w m k.k b

/-- A CONTRACT, over names 0, 1, .. of its own: called with args0 where memory is m0, the function returns v1 and leaves m1 -/
structure FC (P : Program) (g : FuncId) (args0 : List SV) (m0 : Mem) (v1 : SV) (m1 : Mem) : Prop where
  can : Go.Sx.callable P g = true
  len : m0.length ≤ m1.length
  bv : bS m1.length v1 = true
  bm1 : bM m1.length m1
  run : ∀ (β : Bet) (w : World) (vals : List Value), Top β m0.length → (∀ n, n < m0.length → β n ≠ none) → St w (wrA w β m0) β m0 w → denLS β vals args0 →
    Calls P g vals.toArray w fun e w' => ∃ v' β', e = .returned v' ∧ Keep m0.length β β' ∧ Top β' m1.length ∧ St w (wrA w β m0) β' m1 w' ∧ denS β' v' v1

def undefs : Nat → List SV
  | 0 => []
  | n + 1 => .t [] :: undefs n
theorem undefs_length : ∀ n, (undefs n).length = n
  | 0 => rfl
  | n + 1 => congrArg (· + 1) (undefs_length n)
theorem frGet_undefs : ∀ (n t : Nat), frGet (undefs n) t = if t < n then .t [] else .o (.c .u)
  | 0, t => by simp [undefs, frGet]
  | n + 1, 0 => by simp [undefs, frGet]
  | n + 1, t + 1 => by simp [undefs, frGet, frGet_undefs n t]
theorem frGet_append : ∀ (l m : List SV) (t : Nat), frGet (l ++ m) t = if t < l.length then frGet l t else frGet m (t - l.length)
  | [], m, t => by simp
  | x :: l, m, 0 => by simp [frGet]
  | x :: l, m, t + 1 => by
    have := frGet_append l m t
    simp [frGet, this]

theorem denLS.get {β : Bet} : ∀ {xs : List Value} {l : List SV} (t : Nat), denLS β xs l → t < l.length → denS β (xs.getD t undef) (frGet l t)
  | x :: xs, y :: l, 0, ⟨h, _⟩, _ => by simpa [frGet] using h
  | x :: xs, y :: l, t + 1, ⟨_, r⟩, ht => by simpa [frGet] using denLS.get t r (by simpa using ht)
  | [], [], _, _, ht => by simp at ht

/-! the results are fixed -/
theorem ldRow_det {n : Nat} {row : List C} {i j : Nat} {K : C → Prop} (h : ldRow n row i j K) : ∃ c, ldRow n row i j (fun c' => c' = c) ∧ K c := by
  obtain ⟨hi, h⟩ := h
  cases hr : row[j]? with
  | none => rw [hr] at h; exact h.elim
  | some x => rw [hr] at h; exact ⟨x, ⟨hi, by rw [hr]⟩, h⟩
theorem ldOne_det {k : Bk} {i j : Nat} {K : C → Prop} (h : ldOne k i j K) : ∃ c, ldOne k i j (fun c' => c' = c) ∧ K c := by
  cases k with
  | box l =>
    cases i with
    | zero =>
      replace h : (match l[j]? with | some x => K x | none => False) := h
      cases hr : l[j]? with
      | none => rw [hr] at h; exact h.elim
      | some x => rw [hr] at h; exact ⟨x, by show (match l[j]? with | some y => y = x | none => False); rw [hr], h⟩
    | succ i => exact h.elim
  | ints k xs => exact ldRow_det (K := K) h
  | bools xs => exact ldRow_det (K := K) h
  | rows sz n row => exact ldRow_det (K := K) h
  | map s es => exact h.elim
  | deep lo rs ov => exact h.elim
theorem ldMany_det {k : Bk} {i j s : Nat} {K : List C → Prop} (h : ldMany k i j s K) : ∃ c, ldMany k i j s (fun c' => c' = c) ∧ K c := by
  cases k with
  | box l =>
    cases i with
    | zero =>
      replace h : (if j + s ≤ l.length then K ((l.drop j).take s) else False) := h
      by_cases hl : j + s ≤ l.length
      · rw [if_pos hl] at h
        exact ⟨_, by show (if j + s ≤ l.length then (l.drop j).take s = _ else False); rw [if_pos hl], h⟩
      · rw [if_neg hl] at h; exact h.elim
    | succ i => exact h.elim
  | ints k xs => exact h.elim
  | bools xs => exact h.elim
  | map s es => exact h.elim
  | deep lo rs ov => exact h.elim
  | rows sz n row =>
    obtain ⟨hi, h⟩ := h
    by_cases h1 : j = 0 ∧ s = sz
    · rw [if_pos h1] at h
      exact ⟨_, ⟨hi, by rw [if_pos h1]⟩, h⟩
    · rw [if_neg h1] at h
      by_cases h2 : j + s ≤ sz
      · rw [if_pos h2] at h
        exact ⟨_, ⟨hi, by rw [if_neg h1, if_pos h2]⟩, h⟩
      · rw [if_neg h2] at h; exact h.elim
theorem evLoad_det {P : Program} {t : TypeId} {x : SV} {M : Mem} {K : Kt} (h : evLoad P t x M K) : ∃ y, evLoad P t x M (fun v u => v = .o y) ∧ K (.o y) [] := by
  unfold evLoad at h
  split at h
  · rename_i n i j
    split at h
    · rename_i k hk
      split at h
      · rename_i ht
        split at h
        · rename_i ha
          obtain ⟨l, h1, h2⟩ := ldMany_det h
          refine ⟨.a l, ?_, h2⟩
          simp only [evLoad, hk, if_pos ht, ha]
          have : (fun l' => SV.o (V1.a l') = SV.o (V1.a l)) = fun l' => l' = l := by funext l'; simp
          rw [this]; exact h1
        · rename_i ha
          obtain ⟨l, h1, h2⟩ := ldOne_det h
          refine ⟨.c l, ?_, h2⟩
          simp only [evLoad, hk, if_pos ht, ha]
          have : (fun l' => SV.o (V1.c l') = SV.o (V1.c l)) = fun l' => l' = l := by funext l'; simp
          rw [this]; exact h1
      · exact h.elim
    · exact h.elim
  · exact h.elim
theorem evLoad_mono {P : Program} {t : TypeId} {x : SV} {M : Mem} {y : V1} {K : Kt} (h : evLoad P t x M (fun v u => v = .o y)) (hK : K (.o y) []) : evLoad P t x M K := by
  unfold evLoad at h ⊢
  split at h
  · rename_i n i j
    split at h
    · rename_i k hk
      split at h
      · rename_i ht
        simp only [hk, if_pos ht]
        split at h
        · rename_i ha
          try simp only [ha]
          have e : (fun l' => SV.o (V1.a l') = SV.o y) = fun l' => V1.a l' = y := by funext l'; simp
          rw [e] at h
          cases hk2 : k.k with
          | box l =>
            rw [hk2] at h
            cases i with
            | zero =>
              replace h : (if j + szT P t ≤ l.length then V1.a ((l.drop j).take (szT P t)) = y else False) := h
              show (if j + szT P t ≤ l.length then K (.o (.a ((l.drop j).take (szT P t)))) [] else False)
              by_cases hl : j + szT P t ≤ l.length
              · rw [if_pos hl] at h ⊢; rw [h]; exact hK
              · rw [if_neg hl] at h; exact h.elim
            | succ i => exact h.elim
          | ints k xs => rw [hk2] at h; exact h.elim
          | bools xs => rw [hk2] at h; exact h.elim
          | map s es => rw [hk2] at h; exact h.elim
          | deep lo rs ov => rw [hk2] at h; exact h.elim
          | rows sz n row =>
            rw [hk2] at h
            obtain ⟨hi, h⟩ := h
            refine ⟨hi, ?_⟩
            by_cases h1 : j = 0 ∧ szT P t = sz
            · rw [if_pos h1] at h ⊢; subst h; exact hK
            · rw [if_neg h1] at h ⊢
              by_cases h2 : j + szT P t ≤ sz
              · rw [if_pos h2] at h ⊢; subst h; exact hK
              · rw [if_neg h2] at h; exact h.elim
        · rename_i ha
          try simp only [ha]
          have row : ∀ (n : Nat) (row : List C) (i j : Nat), ldRow n row i j (fun c => SV.o (V1.c c) = SV.o y) → ldRow n row i j (fun c => K (.o (.c c)) []) := by
            intro n row i j ⟨hi, h⟩
            refine ⟨hi, ?_⟩
            cases hr : row[j]? with
            | none => rw [hr] at h; exact h.elim
            | some x => rw [hr] at h; simp only at h ⊢; rw [h]; exact hK
          cases hk2 : k.k with
          | box l =>
            rw [hk2] at h
            cases i with
            | zero =>
              replace h : (match l[j]? with | some x => SV.o (V1.c x) = SV.o y | none => False) := h
              show (match l[j]? with | some x => K (.o (.c x)) [] | none => False)
              cases hr : l[j]? with
              | none => rw [hr] at h; exact h.elim
              | some x => rw [hr] at h; simp only at h ⊢; rw [h]; exact hK
            | succ i => exact h.elim
          | ints k xs => rw [hk2] at h; exact row _ _ _ _ h
          | bools xs => rw [hk2] at h; exact row _ _ _ _ h
          | map s es => rw [hk2] at h; exact h.elim
          | deep lo rs ov => rw [hk2] at h; exact h.elim
          | rows sz n rw' => rw [hk2] at h; exact row _ _ _ _ h
      · exact h.elim
    · exact h.elim
  · exact h.elim
theorem resA_det {P : Program} : ∀ (rs : List ResultVar) (fr : List SV) (M : Mem) (K : List V1 → Prop), resA P rs fr M K → ∃ l, resA P rs fr M (fun l' => l' = l) ∧ K l
  | [], fr, M, K, h => ⟨[], rfl, h⟩
  | .tmp t :: r, fr, M, K, h => by
    unfold resA at h
    split at h
    · rename_i y hy
      obtain ⟨l, h1, h2⟩ := resA_det r fr M _ h
      refine ⟨y :: l, ?_, h2⟩
      unfold resA
      rw [hy]
      have : (fun l' => y :: l' = y :: l) = fun l' => l' = l := by funext l'; simp
      show resA P r fr M (fun l' => y :: l' = y :: l)
      rw [this]; exact h1
    · exact h.elim
  | .cell a t :: r, fr, M, K, h => by
    unfold resA at h
    obtain ⟨y, h1, h2⟩ := evLoad_det h
    obtain ⟨l, h3, h4⟩ := resA_det r fr M _ h2
    refine ⟨y :: l, ?_, h4⟩
    unfold resA
    refine evLoad_mono h1 ?_
    have : (fun l' => y :: l' = y :: l) = fun l' => l' = l := by funext l'; simp
    show resA P r fr M (fun l' => y :: l' = y :: l)
    rw [this]; exact h3

/-! no name is taken anew -/
theorem exCp_nil (c : Cp) : exCp [] c = c := by cases c <;> rfl
theorem exC_nil (c : C) : exC [] c = c := by
  cases c with
  | f g fi ca =>
    have : exCp [] = id := funext exCp_nil
    simp [exC, this]
  | _ => rfl
theorem ex1_nil (y : V1) : ex1 [] y = y := by
  have h : exC [] = id := funext exC_nil
  cases y with
  | c c => exact congrArg V1.c (exC_nil c)
  | a l => simp [ex1, h]
theorem exS_nil (y : SV) : exS [] y = y := by
  have h : ex1 [] = id := funext ex1_nil
  cases y with
  | o c => exact congrArg SV.o (ex1_nil c)
  | t l => simp [exS, h]
theorem exB_nil (k : Blk) : exB [] k = k := by
  have h : exC [] = id := funext exC_nil
  obtain ⟨k, wr⟩ := k
  cases k with
  | deep lo rs ov => cases ov with
    | none => rfl
    | some p => obtain ⟨j, c⟩ := p; simp [exB, exBk, exC_nil]
  | _ => simp [exB, exBk, h]
theorem okC_nil (c : C) : okC [] c = true := by
  cases c with
  | f g fi ca =>
    have : ∀ l : List Cp, l.all (okCp []) = true := fun l => List.all_eq_true.2 fun c _ => by cases c <;> rfl
    simp [okC, this]
  | _ => rfl
theorem okL_nil (l : List C) : l.all (okC []) = true := List.all_eq_true.2 fun c _ => okC_nil c
theorem okS_nil (y : SV) : okS [] y = true := by
  have h : ∀ z : V1, ok1 [] z = true := fun z => by cases z with | c c => exact okC_nil c | a l => exact okL_nil l
  cases y with
  | o c => exact h c
  | t l => exact List.all_eq_true.2 fun c _ => h c
theorem leFx_nil {fr : List SV} : ∀ {L : List (Nat × SV)}, leF fr L → leFx [] fr L
  | [], _ => trivial
  | (s, v) :: r, h => ⟨by rw [exS_nil]; exact h.1, leFx_nil h.2⟩
theorem okF_nil : ∀ (L : List (Nat × SV)), okF [] L = true
  | [] => rfl
  | (s, v) :: r => by simp only [okF, okS_nil, okF_nil r, Bool.and_self]
theorem AFit.nil {k0 : Nat} {fr : List SV} {M : Mem} {H : List (Nat × SV)} {G : Mem} (f : leF fr H) (m : ∀ n g, G.get n = some g → leB (M.get n) g) (len : k0 ≤ G.length) (bl : bL G.length H = true) (bm : bM G.length G) : AFit [] k0 fr M H G :=
  ⟨leFx_nil f, fun n g h => by show leB (M.get n) (exB [] g); rw [exB_nil]; exact m n g h, len, bl, bm, okF_nil H, fun n g _ => by
    cases hg : g.k with
    | box l => exact okL_nil l
    | ints k xs => exact trivial
    | bools xs => exact trivial
    | map s es => exact trivial
    | deep lo rs ov => cases ov with
      | none => exact trivial
      | some p => exact okC_nil _
    | rows sz n row => exact fun i _ => okL_nil _, fun _ _ => rfl, fun n n' g g' a hne _ _ _ h h' => by
      simp only [rnG, Rn.to.injEq] at h h'
      omega⟩

/-! checks -/
def leW : Mem → Mem → Prop
  | _, [] => True
  | [], none :: G => leW [] G
  | [], some _ :: _ => False
  | _ :: M, none :: G => leW M G
  | m :: M, some g :: G => leB m g ∧ leW M G
theorem leW_get : ∀ {M G : Mem} {n : Nat} {k : Blk}, leW M G → G.get n = some k → leB (M.get n) k
  | _, [], _, _, _, h => by cases h
  | [], none :: G, 0, _, _, h => by cases h
  | [], none :: G, n + 1, k, hl, h => by
    have := leW_get (M := []) (G := G) (n := n) hl h
    exact this
  | [], some _ :: _, _, _, hl, _ => hl.elim
  | _ :: M, none :: G, 0, _, _, h => by cases h
  | _ :: M, none :: G, n + 1, k, hl, h => leW_get (M := M) (G := G) hl h
  | m :: M, some g :: G, 0, k, hl, h => by simp only [Mem.get, Option.some.injEq] at h; subst h; exact hl.1
  | m :: M, some g :: G, n + 1, k, hl, h => leW_get (M := M) (G := G) hl.2 h
def fitM (rn : Rns) (M : Mem) : Nat → Mem → Prop
  | _, [] => True
  | i, none :: G => fitM rn M (i + 1) G
  | i, some g :: G => fitB rn M i g ∧ fitM rn M (i + 1) G
theorem fitM_get {rn : Rns} {M : Mem} : ∀ {G : Mem} {i n : Nat} {g : Blk}, fitM rn M i G → G.get n = some g → fitB rn M (i + n) g
  | [], _, _, _, _, h => by cases h
  | none :: G, i, 0, _, _, h => by cases h
  | none :: G, i, n + 1, g, hf, h => by have := fitM_get (G := G) (i := i + 1) (n := n) hf h; rwa [show i + 1 + n = i + (n + 1) by omega] at this
  | some g' :: G, i, 0, g, hf, h => by simp only [Mem.get, Option.some.injEq] at h; subst h; exact hf.1
  | some g' :: G, i, n + 1, g, hf, h => by have := fitM_get (G := G) (i := i + 1) (n := n) hf.2 h; rwa [show i + 1 + n = i + (n + 1) by omega] at this
def okMm (rn : Rns) : Mem → Prop
  | [] => True
  | none :: G => okMm rn G
  | some g :: G => okBk rn g.k ∧ okMm rn G
theorem okMm_get {rn : Rns} : ∀ {G : Mem} {n : Nat} {g : Blk}, okMm rn G → G.get n = some g → okBk rn g.k
  | [], _, _, _, h => by cases h
  | none :: G, 0, _, _, h => by cases h
  | none :: G, n + 1, g, hf, h => okMm_get (G := G) hf h
  | some g' :: G, 0, g, hf, h => by simp only [Mem.get, Option.some.injEq] at h; subst h; exact hf.1
  | some g' :: G, n + 1, g, hf, h => okMm_get (G := G) hf.2 h
def differ (a b : Rn) : Bool := match a, b with | .to a, .to b => !Nat.beq a b | _, _ => true
def injOne (rn : Rns) (n : Nat) (wr : Bool) : Nat → Mem → Bool
  | _, [] => true
  | i, none :: G => injOne rn n wr (i + 1) G
  | i, some g :: G => (differ (rnG rn n) (rnG rn i) || !(wr || g.wr)) && injOne rn n wr (i + 1) G
def okInj (rn : Rns) : Nat → Mem → Bool
  | _, [] => true
  | i, none :: G => okInj rn (i + 1) G
  | i, some g :: G => injOne rn i g.wr (i + 1) G && okInj rn (i + 1) G
theorem injOne_get {rn : Rns} {n : Nat} {wr : Bool} : ∀ {G : Mem} {i j : Nat} {g : Blk} {a : Nat}, injOne rn n wr i G = true → G.get j = some g → (wr = true ∨ g.wr = true) → rnG rn n = .to a → rnG rn (i + j) ≠ .to a
  | [], _, _, _, _, _, h, _, _ => by cases h
  | none :: G, i, 0, _, _, _, h, _, _ => by cases h
  | none :: G, i, j + 1, g, a, hi, h, hw, hn => by have := injOne_get (G := G) (i := i + 1) (j := j) hi h hw hn; rwa [show i + 1 + j = i + (j + 1) by omega] at this
  | some g' :: G, i, 0, g, a, hi, h, hw, hn => by
    simp only [Mem.get, Option.some.injEq] at h
    subst h
    simp only [injOne, Bool.and_eq_true, Bool.or_eq_true] at hi
    have hd : differ (rnG rn n) (rnG rn i) = true := by
      rcases hi.1 with h | h
      · exact h
      · rcases hw with h' | h' <;> simp [h'] at h
    intro e
    rw [Nat.add_zero] at e
    rw [hn, e] at hd
    simp [differ] at hd
  | some g' :: G, i, j + 1, g, a, hi, h, hw, hn => by
    simp only [injOne, Bool.and_eq_true] at hi
    have := injOne_get (G := G) (i := i + 1) (j := j) hi.2 h hw hn
    rwa [show i + 1 + j = i + (j + 1) by omega] at this
theorem okInj_lt {rn : Rns} : ∀ {G : Mem} {i n n' : Nat} {g g' : Blk} {a : Nat}, okInj rn i G = true → n < n' → G.get n = some g → G.get n' = some g' → (g.wr = true ∨ g'.wr = true) → rnG rn (i + n) = .to a → rnG rn (i + n') ≠ .to a
  | [], _, _, _, _, _, _, _, _, h, _, _, _ => by cases h
  | none :: G, i, 0, _, _, _, _, _, _, h, _, _, _ => by cases h
  | none :: G, i, n + 1, 0, _, _, _, _, hlt, _, _, _, _ => by omega
  | none :: G, i, n + 1, n' + 1, g, g', a, hi, hlt, h, h', hw, hn => by
    have := okInj_lt (G := G) (i := i + 1) (n := n) (n' := n') hi (by omega) h h' hw (by rwa [show i + 1 + n = i + (n + 1) by omega])
    rwa [show i + 1 + n' = i + (n' + 1) by omega] at this
  | some g0 :: G, i, 0, 0, _, _, _, _, hlt, _, _, _, _ => by omega
  | some g0 :: G, i, 0, n' + 1, g, g', a, hi, hlt, h, h', hw, hn => by
    simp only [Mem.get, Option.some.injEq] at h
    subst h
    simp only [okInj, Bool.and_eq_true] at hi
    have := injOne_get (G := G) (i := i + 1) (j := n') (g := g') (a := a) hi.1 h' hw (by simpa using hn)
    rwa [show i + 1 + n' = i + (n' + 1) by omega] at this
  | some g0 :: G, i, n + 1, 0, _, _, _, _, hlt, _, _, _, _ => by omega
  | some g0 :: G, i, n + 1, n' + 1, g, g', a, hi, hlt, h, h', hw, hn => by
    simp only [okInj, Bool.and_eq_true] at hi
    have := okInj_lt (G := G) (i := i + 1) (n := n) (n' := n') hi.2 (by omega) h h' hw (by rwa [show i + 1 + n = i + (n + 1) by omega])
    rwa [show i + 1 + n' = i + (n' + 1) by omega] at this
theorem okInj_inj {rn : Rns} {G : Mem} (hi : okInj rn 0 G = true) : ∀ n n' g g' a, n ≠ n' → G.get n = some g → G.get n' = some g' → g.wr = true → rnG rn n = .to a → rnG rn n' ≠ .to a := by
  intro n n' g g' a hne h h' hw hn
  rcases Nat.lt_or_ge n n' with hlt | hge
  · have := okInj_lt (i := 0) (a := a) hi hlt h h' (.inl hw) (by simpa using hn)
    simpa using this
  · intro e
    have := okInj_lt (i := 0) (a := a) hi (show n' < n by omega) h' h (.inr hw) (by simpa using e)
    exact this (by simpa using hn)
theorem idle_of {rn : Rns} {k0 : Nat} (h : rn.all (fun p => Nat.ble k0 p.1) = true) : ∀ n, n < k0 → rnG rn n = .to n := by
  intro n hn
  induction rn with
  | nil => rfl
  | cons p r ih =>
    obtain ⟨k, v⟩ := p
    simp only [List.all_cons, Bool.and_eq_true] at h
    have hk : k0 ≤ k := Nat.le_of_ble_eq_true h.1
    unfold rnG
    rw [if_neg (by omega)]
    exact ih h.2

/-- A CONTRACT from a run -/
theorem FC.of_run {P : Program} (hm : P.follows .mixedOrders = true) {g : FuncId} {fn : Func} (hf : P.funcs[g]? = some fn) (hc : callable P g = true) {c : Code} (hb : fn.body = some c) {T : Nat} (hT : fn.ntmps = T)
    {args0 : List SV} {m0 : Mem} {v1 : SV} {m1 : Mem} {rn : Rns} (hv : bS m1.length v1 = true) {e : AX} {fr' : List SV} {M' M'' : Mem} (hMl : MLe M' M'') (hM : AFit rn m0.length fr' M'' [] m1) (hvo : okS rn v1 = true)
    (h : ARun P m0.length c (args0 ++ undefs (T - args0.length)) m0 e fr' M') (he : e = .normal ∨ e = .ret) {l : List V1} (hr : resA P fn.results.toList fr' M' fun l' => l' = l) (hl : tupA l = exS rn v1) :
    FC P g args0 m0 v1 m1 := by
  refine ⟨hc, hM.len, hv, hM.bm, fun β w vals hT0 hdef hSt hd => ?_⟩
  refine calls_of_wp hf hb ?_
  have hvl := hd.length
  refine ARun_sound (T := (args0 ++ undefs (T - args0.length)).length) (β0 := β) (ds := []) hm hdef c _ m0 e fr' M' β _ w _ h ⟨rfl, fun n _ => rfl, hSt, ⟨?_, fun t => ?_⟩, hT0, Nat.le_refl _, rfl⟩ fun β' a' w' ab => ?_
  · simp [undefs_length, hT, hvl]
  · rw [frGet_append]
    split
    · rename_i ht
      have hlt : t < vals.length := by omega
      have := denLS.get t hd ht
      have e : (vals.toArray ++ Array.replicate (fn.ntmps - vals.toArray.size) undef).getD t undef = vals.getD t undef := by
        simp [List.getD, Array.getElem?_append, hlt]
      rw [e]; exact this
    · rename_i ht
      rw [frGet_undefs]
      split
      · rename_i ht2
        refine ⟨[], ?_, trivial⟩
        have hnl : ¬ t < vals.length := by omega
        have hr : t - vals.length < fn.ntmps - vals.length := by rw [hT]; omega
        simp [Array.getElem?_append, hnl, hr, undef]
      · exact trivial
  · have hpost : a'.defers = [] ∧ ∃ v, (results fn a'.tmps).run P w' = .ok v w' ∧ ∃ v' β', Ending.returned v = .returned v' ∧ Keep m0.length β β' ∧ Top β' m1.length ∧ St w (wrA w β m0) β' m1 w' ∧ denS β' v' v1 := by
      obtain ⟨l', v, hl', hdv, hr2⟩ := results_sound ab.st ab.fr hr
      subst hl'
      rw [hl] at hdv
      exact ⟨ab.ds, v, hr2, v, betR β' rn m1.length, rfl, fun n hn => by rw [betR_to (Nat.lt_of_lt_of_le hn hM.len) (hM.idle n hn)]; exact ab.keep n hn, betR_top, hM.st (hMl.st _ _ _ _ ab.st), denS_ex hvo hv hdv⟩
    rcases he with rfl | rfl
    · exact hpost
    · exact hpost

theorem FC.of_body {P : Program} {J : Bool} (hm : P.follows .mixedOrders = true) {g : FuncId} {fn : Func} (hf : P.funcs[g]? = some fn) (hc : callable P g = true) {c : Code} (hb : fn.body = some c) {T : Nat} (hT : fn.ntmps = T)
    {args0 : List SV} {m0 : Mem} {v1 : SV} {m1 : Mem} (hlen : m0.length ≤ m1.length) (hv : bS m1.length v1 = true) (hm1 : bM m1.length m1)
    (h : acode P J m0.length c (args0 ++ undefs (T - args0.length)) m0 (postK P fn.results.toList v1 m1)) : FC P g args0 m0 v1 m1 := by
  obtain ⟨e, fr', M', h, hk⟩ := acode_rel _ _ _ _ h
  have key : ∀ e', (e' = .normal ∨ e' = .ret) → e = e' → resA P fn.results.toList fr' M' (fun l => tupA l = v1 ∧ leM M' m1) → FC P g args0 m0 v1 m1 := fun e' he hee hk => by
    obtain ⟨l, h1, h2, h3⟩ := resA_det _ _ _ _ hk
    exact FC.of_run (rn := []) hm hf hc hb hT hv (MLe.refl _) (AFit.nil trivial (fun n g hg => .inl (leM_get h3 hg)) hlen rfl hm1) (okS_nil _) h (hee ▸ he) h1 (by rw [exS_nil]; exact h2)
  cases e with
  | normal => exact key _ (.inl rfl) rfl hk
  | ret => exact key _ (.inr rfl) rfl hk
  | exit n => exact hk.elim
  | pan v => exact hk.elim

/-- what is said of the end: as it is, or with names taken anew -/
inductive isEnd (k0 : Nat) : Mem → SV → SV → Mem → Prop where
  | id {M : Mem} {l v : SV} {m : Mem} (h : l = v) (hm : leW M m) : isEnd k0 M l v m
  | rn {M : Mem} {l v : SV} {m : Mem} (rn : Rns) (h : l = exS rn v) (hm : fitM rn M 0 m) (ho : okS rn v = true) (hom : okMm rn m) (hi : rn.all (fun p => Nat.ble k0 p.1) = true) (hj : okInj rn 0 m = true) : isEnd k0 M l v m
  | giv {M : Mem} {l v : SV} {m : Mem} (M2 : Mem) (hg : MLe M M2) (h : isEnd k0 M2 l v m) : isEnd k0 M l v m
def postR {α : Type} (P : Program) (k0 : Nat) (rs : List ResultVar) (v : α → SV) (m : α → Mem) (Q : α → Prop) : Kx := fun e fr M => match e with
  | .exit _ => False
  | .pan _ => False
  | _ => resA P rs fr M fun l => ∃ a, Q a ∧ isEnd k0 M (tupA l) (v a) (m a)
theorem FC.of_bodyR {P : Program} {J : Bool} (hm : P.follows .mixedOrders = true) {g : FuncId} {fn : Func} (hf : P.funcs[g]? = some fn) (hc : callable P g = true) {c : Code} (hb : fn.body = some c) {T : Nat} (hT : fn.ntmps = T)
    {args0 : List SV} {m0 : Mem} {α : Type} {v : α → SV} {m : α → Mem} {Q : α → Prop} (hs : ∀ a, Q a → m0.length ≤ (m a).length ∧ bS (m a).length (v a) = true ∧ bM (m a).length (m a))
    (h : acode P J m0.length c (args0 ++ undefs (T - args0.length)) m0 (postR P m0.length fn.results.toList v m Q)) : ∃ a, FC P g args0 m0 (v a) (m a) ∧ Q a := by
  obtain ⟨e, fr', M', h, hk⟩ := acode_rel _ _ _ _ h
  have key : ∀ e', (e' = .normal ∨ e' = .ret) → e = e' → resA P fn.results.toList fr' M' (fun l => ∃ a, Q a ∧ isEnd m0.length M' (tupA l) (v a) (m a)) → ∃ a, FC P g args0 m0 (v a) (m a) ∧ Q a := fun e' he hee hk => by
    obtain ⟨l, h1, a, hQ, h2⟩ := resA_det _ _ _ _ hk
    obtain ⟨s1, s2, s3⟩ := hs a hQ
    refine ⟨a, ?_, hQ⟩
    have fin : ∀ M2 l0 v0 m1, isEnd m0.length M2 l0 v0 m1 → MLe M' M2 → l0 = tupA l → v0 = v a → m1 = m a → FC P g args0 m0 (v a) (m a) := fun M2 l0 v0 m1 h2 => by
      induction h2 with
      | id h2 h3 => intro hM2 e1 e2 e3; subst e1 e2 e3; exact FC.of_run (rn := []) hm hf hc hb hT s2 hM2 (AFit.nil trivial (fun n g hg => leW_get h3 hg) s1 rfl s3) (okS_nil _) h (hee ▸ he) h1 (by rw [exS_nil]; exact h2)
      | rn rn h2 h3 h4 h5 h6 h7 => intro hM2 e1 e2 e3; subst e1 e2 e3; exact FC.of_run (rn := rn) hm hf hc hb hT s2 hM2 ⟨trivial, fun n g hg => by have := fitM_get (i := 0) h3 hg; rwa [Nat.zero_add] at this, s1, rfl, s3, rfl, fun n g hg => okMm_get h5 hg, idle_of h6, okInj_inj h7⟩ h4 h (hee ▸ he) h1 h2
      | giv M3 hg _ ih => exact fun hM2 e1 e2 e3 => ih (hM2.trans hg) e1 e2 e3
    exact fin M' _ _ _ h2 (MLe.refl _) rfl rfl rfl
  cases e with
  | normal => exact key _ (.inl rfl) rfl hk
  | ret => exact key _ (.inr rfl) rfl hk
  | exit n => exact hk.elim
  | pan v => exact hk.elim
end Go.Sx
namespace Go.Sx

def renCp (σ : Nat → Nat) : Cp → Cp
  | .v x => .v x
  | .p n i j => .p (σ n) i j
def renC (σ : Nat → Nat) : C → C
  | .v x => .v x
  | .p n i j => .p (σ n) i j
  | .s n off len sz => .s (σ n) off len sz
  | .z => .z
  | .u => .u
  | .f g fi ca => .f g (fi.map (renCp σ)) (ca.map (renCp σ))
  | .m n => .m (σ n)
def ren1 (σ : Nat → Nat) : V1 → V1
  | .c c => .c (renC σ c)
  | .a l => .a (l.map (renC σ))
def renS (σ : Nat → Nat) : SV → SV
  | .o y => .o (ren1 σ y)
  | .t l => .t (l.map (ren1 σ))
def renBk (σ : Nat → Nat) : Bk → Bk
  | .box l => .box (l.map (renC σ))
  | .ints k xs => .ints k xs
  | .bools xs => .bools xs
  | .rows sz n row => .rows sz n fun i => (row i).map (renC σ)
  | .map s es => .map s es
  | .deep lo rs ov => .deep lo rs (match ov with | some (j, c) => some (j, renC σ c) | none => none)
def renB (σ : Nat → Nat) (k : Blk) : Blk := ⟨renBk σ k.k, k.wr⟩

section
variable {σ : Nat → Nat} {β β' : Bet} {g : Nat}
theorem denCp_ren (h : ∀ n, n < g → ∀ m, β' n = some m → β (σ n) = some m) {x : Value} : ∀ {c : Cp}, bCp g c = true → denCp β' x c → denCp β x (renCp σ c)
  | .v _, _, hd => hd
  | .p n _ _, hb, ⟨m, hm, e⟩ => ⟨m, h n (by simpa [bCp, Nat.blt_eq] using hb) m hm, e⟩
theorem denCps_ren (h : ∀ n, n < g → ∀ m, β' n = some m → β (σ n) = some m) : ∀ {xs : List Value} {l : List Cp}, l.all (bCp g) = true → denCps β' xs l → denCps β xs (l.map (renCp σ))
  | [], [], _, _ => trivial
  | _ :: _, _ :: _, hb, ⟨h1, r⟩ => by
    simp only [List.all_cons, Bool.and_eq_true] at hb
    exact ⟨denCp_ren h hb.1 h1, denCps_ren h hb.2 r⟩
theorem denCp_unren (h : ∀ n, n < g → ∀ m, β (σ n) = some m → β' n = some m) {x : Value} : ∀ {c : Cp}, bCp g c = true → denCp β x (renCp σ c) → denCp β' x c
  | .v _, _, hd => hd
  | .p n _ _, hb, ⟨m, hm, e⟩ => ⟨m, h n (by simpa [bCp, Nat.blt_eq] using hb) m hm, e⟩
theorem denCps_unren (h : ∀ n, n < g → ∀ m, β (σ n) = some m → β' n = some m) : ∀ {xs : List Value} {l : List Cp}, l.all (bCp g) = true → denCps β xs (l.map (renCp σ)) → denCps β' xs l
  | [], [], _, _ => trivial
  | _ :: _, _ :: _, hb, ⟨h1, r⟩ => by
    simp only [List.all_cons, Bool.and_eq_true] at hb
    exact ⟨denCp_unren h hb.1 h1, denCps_unren h hb.2 r⟩
theorem denC_ren (h : ∀ n, n < g → ∀ m, β' n = some m → β (σ n) = some m) {x : Value} : ∀ {c : C}, bC g c = true → denC β' x c → denC β x (renC σ c)
  | .v _, _, hd => hd
  | .p n _ _, hb, ⟨m, hm, e⟩ => ⟨m, h n (by simpa [bC, Nat.blt_eq] using hb) m hm, e⟩
  | .s n _ _ _, hb, ⟨A, cap, m, hm, r⟩ => ⟨A, cap, m, h n (by simpa [bC, Nat.blt_eq] using hb) m hm, r⟩
  | .z, _, hd => hd
  | .u, _, _ => trivial
  | .f _ _ _, hb, ⟨fs, cs, e, h1, h2⟩ => by
    simp only [bC, Bool.and_eq_true] at hb
    exact ⟨fs, cs, e, denCps_ren h hb.1 h1, denCps_ren h hb.2 h2⟩
  | .m n, hb, ⟨m, hm, e⟩ => ⟨m, h n (by simpa [bC, Nat.blt_eq] using hb) m hm, e⟩
theorem denC_unren (h : ∀ n, n < g → ∀ m, β (σ n) = some m → β' n = some m) {x : Value} : ∀ {c : C}, bC g c = true → denC β x (renC σ c) → denC β' x c
  | .v _, _, hd => hd
  | .p n _ _, hb, ⟨m, hm, e⟩ => ⟨m, h n (by simpa [bC, Nat.blt_eq] using hb) m hm, e⟩
  | .s n _ _ _, hb, ⟨A, cap, m, hm, r⟩ => ⟨A, cap, m, h n (by simpa [bC, Nat.blt_eq] using hb) m hm, r⟩
  | .z, _, hd => hd
  | .u, _, _ => trivial
  | .f _ _ _, hb, ⟨fs, cs, e, h1, h2⟩ => by
    simp only [bC, Bool.and_eq_true] at hb
    exact ⟨fs, cs, e, denCps_unren h hb.1 h1, denCps_unren h hb.2 h2⟩
  | .m n, hb, ⟨m, hm, e⟩ => ⟨m, h n (by simpa [bC, Nat.blt_eq] using hb) m hm, e⟩
theorem denL_ren (h : ∀ n, n < g → ∀ m, β' n = some m → β (σ n) = some m) : ∀ {xs : List Value} {l : List C}, l.all (bC g) = true → denL β' xs l → denL β xs (l.map (renC σ))
  | [], [], _, _ => trivial
  | _ :: _, _ :: _, hb, ⟨h1, r⟩ => by
    simp only [List.all_cons, Bool.and_eq_true] at hb
    exact ⟨denC_ren h hb.1 h1, denL_ren h hb.2 r⟩
theorem denL_unren (h : ∀ n, n < g → ∀ m, β (σ n) = some m → β' n = some m) : ∀ {xs : List Value} {l : List C}, l.all (bC g) = true → denL β xs (l.map (renC σ)) → denL β' xs l
  | [], [], _, _ => trivial
  | _ :: _, _ :: _, hb, ⟨h1, r⟩ => by
    simp only [List.all_cons, Bool.and_eq_true] at hb
    exact ⟨denC_unren h hb.1 h1, denL_unren h hb.2 r⟩
theorem den1_ren (h : ∀ n, n < g → ∀ m, β' n = some m → β (σ n) = some m) {x : Value} : ∀ {y : V1}, b1 g y = true → den1 β' x y → den1 β x (ren1 σ y)
  | .c _, hb, hd => denC_ren h hb hd
  | .a _, hb, ⟨vs, e, hd⟩ => ⟨vs, e, denL_ren h hb hd⟩
theorem den1_unren (h : ∀ n, n < g → ∀ m, β (σ n) = some m → β' n = some m) {x : Value} : ∀ {y : V1}, b1 g y = true → den1 β x (ren1 σ y) → den1 β' x y
  | .c _, hb, hd => denC_unren h hb hd
  | .a _, hb, ⟨vs, e, hd⟩ => ⟨vs, e, denL_unren h hb hd⟩
theorem denL1_ren (h : ∀ n, n < g → ∀ m, β' n = some m → β (σ n) = some m) : ∀ {xs : List Value} {l : List V1}, l.all (b1 g) = true → denL1 β' xs l → denL1 β xs (l.map (ren1 σ))
  | [], [], _, _ => trivial
  | _ :: _, _ :: _, hb, ⟨h1, r⟩ => by
    simp only [List.all_cons, Bool.and_eq_true] at hb
    exact ⟨den1_ren h hb.1 h1, denL1_ren h hb.2 r⟩
theorem denL1_unren (h : ∀ n, n < g → ∀ m, β (σ n) = some m → β' n = some m) : ∀ {xs : List Value} {l : List V1}, l.all (b1 g) = true → denL1 β xs (l.map (ren1 σ)) → denL1 β' xs l
  | [], [], _, _ => trivial
  | _ :: _, _ :: _, hb, ⟨h1, r⟩ => by
    simp only [List.all_cons, Bool.and_eq_true] at hb
    exact ⟨den1_unren h hb.1 h1, denL1_unren h hb.2 r⟩
theorem denS_ren (h : ∀ n, n < g → ∀ m, β' n = some m → β (σ n) = some m) {x : Value} : ∀ {y : SV}, bS g y = true → denS β' x y → denS β x (renS σ y)
  | .o _, hb, hd => den1_ren h hb hd
  | .t _, hb, ⟨vs, e, hd⟩ => ⟨vs, e, denL1_ren h hb hd⟩
theorem denS_unren (h : ∀ n, n < g → ∀ m, β (σ n) = some m → β' n = some m) {x : Value} : ∀ {y : SV}, bS g y = true → denS β x (renS σ y) → denS β' x y
  | .o _, hb, hd => den1_unren h hb hd
  | .t _, hb, ⟨vs, e, hd⟩ => ⟨vs, e, denL1_unren h hb hd⟩
theorem denLS_unren (h : ∀ n, n < g → ∀ m, β (σ n) = some m → β' n = some m) : ∀ {xs : List Value} {l : List SV}, l.all (bS g) = true → denLS β xs (l.map (renS σ)) → denLS β' xs l
  | [], [], _, _ => trivial
  | _ :: _, _ :: _, hb, ⟨h1, r⟩ => by
    simp only [List.all_cons, Bool.and_eq_true] at hb
    exact ⟨denS_unren h hb.1 h1, denLS_unren h hb.2 r⟩
theorem renBk_at (σ : Nat → Nat) (k : Bk) (i j : Nat) : (renBk σ k).at i j = (k.at i j).map (renC σ) := by
  unfold Bk.at
  cases k with
  | box l => by_cases h : i < 1 <;> simp [renBk, Bk.n, Bk.row, h]
  | ints ki xs =>
    by_cases h : i < xs.length
    · simp only [renBk, Bk.n, Bk.row, h, if_true]
      cases j <;> simp [renC]
    · simp [renBk, Bk.n, h]
  | bools xs =>
    by_cases h : i < xs.length
    · simp only [renBk, Bk.n, Bk.row, h, if_true]
      cases j <;> simp [renC]
    · simp [renBk, Bk.n, h]
  | rows sz n row => by_cases h : i < n <;> simp [renBk, Bk.n, Bk.row, h]
  | map s es => simp [renBk, Bk.n]
  | deep lo rs ov => simp [renBk, Bk.n]
theorem renBk_map {σ : Nat → Nat} {k : Bk} {s : MK} {es : List (List Int × Value)} : renBk σ k = .map s es ↔ k = .map s es := by cases k <;> simp [renBk]
theorem renBk_noMap (σ : Nat → Nat) (k : Bk) : (renBk σ k).isMap = k.isMap := by cases k <;> rfl
theorem renBk_need (σ : Nat → Nat) (k : Bk) : (renBk σ k).need = k.need := by
  cases k with
  | deep lo rs ov => cases ov with
    | none => rfl
    | some p => rfl
  | _ => simp [renBk, Bk.need, Bk.n, Bk.sz]
theorem renBk_fits (σ : Nat → Nat) (k : Bk) (s : Nat) : (renBk σ k).fits s ↔ k.fits s := by
  cases k with
  | box l => exact ⟨fun _ => .inl rfl, fun _ => .inl rfl⟩
  | map s es => exact Iff.rfl
  | deep lo rs ov => exact ⟨fun _ => .inl rfl, fun _ => .inl rfl⟩
  | ints ki xs => exact Iff.rfl
  | bools xs => exact Iff.rfl
  | rows sz n row =>
    constructor
    · rintro (h | ⟨h1, h2, h3⟩)
      · cases h
      · exact .inr ⟨h1, h2, fun i hi => by have := h3 i hi; simpa [renBk, Bk.row, Bk.sz] using this⟩
    · rintro (h | ⟨h1, h2, h3⟩)
      · cases h
      · exact .inr ⟨h1, h2, fun i hi => by have := h3 i hi; simpa [renBk, Bk.row, Bk.sz] using this⟩
theorem deepAt_map {w : World} {β1 β2 : Bet} {m : Nm} {wr : Bool} {lo : Nat} {rs : List (List Int)} {ov ov' : Option (Nat × C)} (h : deepAt w β1 m wr lo rs ov) (h1 : ∀ j, (∀ c, ov ≠ some (j, c)) ↔ ∀ c, ov' ≠ some (j, c))
    (h2 : ∀ j c', ov' = some (j, c') → ∃ c, ov = some (j, c) ∧ ∀ y, denC β1 y c → denC β2 y c') : deepAt w β2 m wr lo rs ov' := by
  have key : ∀ i xs, isOwn lo rs ov i xs ↔ isOwn lo rs ov' i xs := fun i xs => and_congr Iff.rfl (h1 i)
  have keyB : ∀ i b, rowB w m lo rs ov i b ↔ rowB w m lo rs ov' i b := fun i b => by unfold rowB; simp only [key]
  refine ⟨h.sz, h.len, fun j' c' e => ?_, h.there.imp id fun ⟨cs, T, fz, g1, g2, g3, g4, g5⟩ => ⟨cs, T, fz, g1, g2, g3, fun i xs hx => g4 i xs ((key i xs).2 hx), fun j' x e => (by
    obtain ⟨c, hc, hd⟩ := h2 j' x e
    obtain ⟨y, hy, hdy⟩ := g5 j' c hc
    exact ⟨y, hy, hd y hdy⟩)⟩, fun i b hb => ?_⟩
  · obtain ⟨c, hc, _⟩ := h2 j' c' e
    exact h.lt j' c hc
  · have := h.dist i b ((keyB i b).2 hb)
    exact ⟨this.1, fun j' h' => this.2 j' ((keyB j' b).2 h')⟩
theorem renBk_own {w : World} {m : Nm} {k : Bk} {b : Nat} : ownB w m (renBk σ k) b ↔ ownB w m k b := by
  unfold ownB
  refine or_congr Iff.rfl ?_
  cases k with
  | deep lo rs ov =>
    have key : ∀ i xs, isOwn lo rs (match ov with | some (j, c) => some (j, renC σ c) | none => none) i xs ↔ isOwn lo rs ov i xs := by
      intro i xs
      unfold isOwn
      refine and_congr Iff.rfl ?_
      cases ov with
      | none => simp
      | some p => obtain ⟨j, c⟩ := p; simp
    constructor
    · rintro ⟨lo', rs', ov', i, e, ⟨xs, hx⟩, r⟩
      simp only [renBk, Bk.deep.injEq] at e
      obtain ⟨rfl, rfl, rfl⟩ := e
      exact ⟨_, _, _, i, rfl, ⟨xs, (key i xs).1 hx⟩, r⟩
    · rintro ⟨lo', rs', ov', i, e, ⟨xs, hx⟩, r⟩
      cases e
      exact ⟨_, _, _, i, rfl, ⟨xs, (key i xs).2 hx⟩, r⟩
  | _ => constructor <;> (rintro ⟨lo', rs', ov', i, e, _⟩; cases e)
theorem holds_ren (h : ∀ n, n < g → ∀ m, β' n = some m → β (σ n) = some m) {w : World} {m : Nm} {k : Blk} (hb : bBk g k.k) (hh : holds w β' m k) : holds w β m (renB σ k) := by
  refine ⟨(renBk_fits _ _ _).2 hh.fits, by rw [show (renB σ k).k.need = k.k.need from renBk_need _ _]; exact hh.need, fun hk => (hh.there ((renBk_noMap σ k.k).symm.trans hk)).imp id fun ⟨c, T, fz, h1, h2, h3, h4⟩ => ⟨c, T, fz, h1, h2, h3, fun i j x hx => (by
    rw [show (renB σ k).k.at i j = (k.k.at i j).map (renC σ) from renBk_at _ _ _ _] at hx
    cases hk : k.k.at i j with
    | none => rw [hk] at hx; cases hx
    | some x' =>
      rw [hk] at hx
      simp only [Option.map_some, Option.some.injEq] at hx
      subst hx
      obtain ⟨y, hy, hd⟩ := h4 i j x' hk
      exact ⟨y, hy, denC_ren h (bBk_at hb hk) hd⟩)⟩, fun s es he => hh.mth s es (renBk_map.1 he), fun lo rs ov he => ?_⟩
  obtain ⟨k, wr⟩ := k
  cases k with
  | deep lo0 rs0 ov0 =>
    have he : Bk.deep lo0 rs0 _ = .deep lo rs ov := he
    cases he
    refine deepAt_map (hh.dth lo rs ov0 rfl) (fun j => ?_) fun j c' e => ?_
    · cases ov0 with
      | none => exact Iff.rfl
      | some p => obtain ⟨j0, c0⟩ := p; simp
    · cases ov0 with
      | none => cases e
      | some p =>
        obtain ⟨j0, c0⟩ := p
        cases e
        exact ⟨c0, rfl, fun y hd => denC_ren h hb hd⟩
  | _ => cases he
theorem holds_unren (h : ∀ n, n < g → ∀ m, β (σ n) = some m → β' n = some m) {w : World} {m : Nm} {k : Blk} (hb : bBk g k.k) (hh : holds w β m (renB σ k)) : holds w β' m k := by
  have hn := hh.need
  rw [show (renB σ k).k.need = k.k.need from renBk_need _ _] at hn
  refine ⟨(renBk_fits _ _ _).1 hh.fits, hn, fun hk => (hh.there ((renBk_noMap σ k.k).trans hk)).imp id fun ⟨c, T, fz, h1, h2, h3, h4⟩ => ⟨c, T, fz, h1, h2, h3, fun i j x hx => (by
    obtain ⟨y, hy, hd⟩ := h4 i j (renC σ x) (by rw [show (renB σ k).k.at i j = (k.k.at i j).map (renC σ) from renBk_at _ _ _ _, hx]; rfl)
    exact ⟨y, hy, denC_unren h (bBk_at hb hx) hd⟩)⟩, fun s es he => hh.mth s es (renBk_map.2 he), fun lo rs ov he => ?_⟩
  obtain ⟨k, wr⟩ := k
  have he : k = .deep lo rs ov := he
  subst he
  refine deepAt_map (hh.dth lo rs _ rfl) (fun j => ?_) fun j c' e => ?_
  · cases ov with
    | none => exact Iff.rfl
    | some p => obtain ⟨j0, c0⟩ := p; simp
  · subst e
    exact ⟨_, rfl, fun y hd => denC_unren h hb hd⟩
end

/-- names 0 .. k-1 of a contract are the caller's sg; the others lie from 'top' on -/
def sgF (sg : List Nat) (top : Nat) (n : Nat) : Nat := match sg, n with
  | [], n => top + n
  | x :: _, 0 => x
  | _ :: r, n + 1 => sgF r top n
theorem sgF_in : ∀ (sg : List Nat) (top n : Nat), n < sg.length → sg[n]? = some (sgF sg top n)
  | x :: r, top, 0, _ => rfl
  | x :: r, top, n + 1, h => by simpa [sgF] using sgF_in r top n (by simpa using h)
theorem sgF_out : ∀ (sg : List Nat) (top n : Nat), sg.length ≤ n → sgF sg top n = top + (n - sg.length)
  | [], top, n, _ => by simp [sgF]
  | x :: r, top, 0, h => by simp at h
  | x :: r, top, n + 1, h => by
    have := sgF_out r top n (by simpa using h)
    simp only [sgF, this, List.length_cons]
    congr 1
    omega

/-- what the caller must hold -/
def rdOne (σ : Nat → Nat) (b : Option Blk) (k : Blk) : Prop := b = some (renB σ k) ∨ (k.wr = false ∧ b = some ⟨renBk σ k.k, true⟩) ∨ leB b (renB σ k)
def okRd (σ : Nat → Nat) (rd : Mem) : Mem → Nat → Prop
  | [], _ => True
  | none :: l, i => okRd σ rd l (i + 1)
  | some k :: l, i => rdOne σ (rd.get (σ i)) k ∧ okRd σ rd l (i + 1)
theorem okRd_get {σ : Nat → Nat} {rd : Mem} : ∀ (m0 : Mem) (i n : Nat) (k : Blk), okRd σ rd m0 i → m0.get n = some k → rdOne σ (rd.get (σ (i + n))) k
  | [], _, _, _, _, h => by cases h
  | none :: l, i, 0, k, _, h => by cases h
  | some k' :: l, i, 0, k, ho, h => by simp only [Mem.get, Option.some.injEq] at h; subst h; exact ho.1
  | none :: l, i, n + 1, k, ho, h => by have := okRd_get l (i + 1) n k ho h; rwa [show i + (n + 1) = i + 1 + n by omega]
  | some k' :: l, i, n + 1, k, ho, h => by have := okRd_get l (i + 1) n k ho.2 h; rwa [show i + (n + 1) = i + 1 + n by omega]
theorem ownAt.wr {w : World} {y : Value} {xs : List Int} {a b : Bool} (h : ownAt w a y xs) (hw : b = true → a = true) : ownAt w b y xs := by
  obtain ⟨A, cap, e1, e2, e3, e4⟩ := h
  exact ⟨A, cap, e1, e2, e3, e4.imp id fun ⟨h0, bb, o, c, T, fz, f1, f2, f3, f4, f5⟩ => ⟨h0, bb, o, c, T, fz, f1, f2, f3, fun hb => f4 (hw hb), f5⟩⟩
theorem holds.wr {w : World} {β : Bet} {m : Nm} {k : Bk} {a b : Bool} (h : holds w β m ⟨k, a⟩) (hw : b = true → a = true) : holds w β m ⟨k, b⟩ :=
  ⟨h.fits, h.need, fun hk => (h.there hk).imp id fun ⟨c, T, fz, h1, h2, h3, h4⟩ => ⟨c, T, fz, h1, h2, fun hb => h3 (hw hb), h4⟩, h.mth, fun lo rs ov he => let hd := h.dth lo rs ov he
    ⟨hd.sz, hd.len, hd.lt, hd.there.imp id fun ⟨c, T, fz, h1, h2, h3, h4, h5⟩ => ⟨c, T, fz, h1, h2, fun hb => h3 (hw hb), fun i xs hx => let ⟨y, hy, ho⟩ := h4 i xs hx; ⟨y, hy, ho.wr hw⟩, h5⟩, hd.dist⟩⟩
theorem rdOne.conv {σ : Nat → Nat} {b : Option Blk} {k : Blk} (h : rdOne σ b k) : ∃ kb, b = some kb ∧ (k.wr = true → kb.wr = true) ∧ (∀ (w : World) (β : Bet) (nm : Nm), holds w β nm kb → holds w β nm (renB σ k)) ∧ ∀ (w : World) (nm : Nm) (b : Nat), ownB w nm k.k b → ownB w nm kb.k b := by
  rcases h with h | ⟨hw, h⟩ | h
  · exact ⟨_, h, id, fun _ _ _ h => h, fun _ _ _ h => renBk_own.2 h⟩
  · exact ⟨_, h, fun _ => rfl, fun _ _ _ h => h.wr fun _ => rfl, fun _ _ _ h => renBk_own.2 h⟩
  · obtain ⟨kb, h1, h2, h3, h4⟩ := leB_conv h
    exact ⟨kb, h1, h2, h3, fun w nm b hb => h4 w nm b (renBk_own.2 hb)⟩
theorem rdOne.ints {σ : Nat → Nat} {k : IntKind} {xs : List Int} {n : Nat} {a : Bool} : rdOne σ (some ⟨.ints k xs, a⟩) ⟨.ints k (xs.take n), false⟩ :=
  .inr (.inr (.inr ⟨_, Eq.refl _, (fun h => by cases h), Eq.refl _, Eq.refl _, Eq.refl _, List.length_take_le' n xs, fun i hi => by
    show [C.v (.int k (xs.getD i 0))] = [C.v (.int k ((xs.take n).getD i 0))]
    have hi' : i < (xs.take n).length := hi
    rw [List.length_take] at hi'
    simp [List.getD, List.getElem?_take_of_lt (show i < n by omega)]⟩))
theorem rdOne.rows {σ : Nat → Nat} {sz n n' : Nat} {r : Nat → List C} {a : Bool} (h : n' ≤ n) : (∀ i, i < n' → (r i).map (renC σ) = r i) → rdOne σ (some ⟨.rows sz n r, a⟩) ⟨.rows sz n' r, false⟩ := fun hr =>
  .inr (.inr (.inr ⟨_, Eq.refl _, (fun h => by cases h), Eq.refl _, Eq.refl _, Eq.refl _, h, fun i hi => (hr i hi).symm⟩))

/-- every name of the contract has a block; a name that may be written is the caller's only once -/
def okSg : List Nat → Mem → Bool
  | [], [] => true
  | x :: r, some k :: l => okOne x k.wr r l && okSg r l
  | _, _ => false
where
  okOne (x : Nat) (wr : Bool) : List Nat → Mem → Bool
    | y :: r, some k :: l => (!(wr || k.wr) || !(x == y)) && okOne x wr r l
    | _, _ => true
theorem okSg_len : ∀ {sg : List Nat} {m0 : Mem}, okSg sg m0 = true → sg.length = m0.length
  | [], [], _ => rfl
  | _ :: _, some _ :: _, h => by simp only [okSg, Bool.and_eq_true] at h; exact congrArg (· + 1) (okSg_len h.2)
theorem okSg_some : ∀ {sg : List Nat} {m0 : Mem}, okSg sg m0 = true → ∀ n, n < m0.length → ∃ k, m0.get n = some k
  | [], [], _, n, hn => by simp at hn
  | _ :: _, some k :: _, h, 0, _ => ⟨k, rfl⟩
  | _ :: _, some _ :: _, h, n + 1, hn => by simp only [okSg, Bool.and_eq_true] at h; exact okSg_some h.2 n (by simpa using hn)
theorem okOne_get : ∀ {sg : List Nat} {m0 : Mem} {x : Nat} {wr : Bool}, okSg.okOne x wr sg m0 = true → ∀ n y k, sg[n]? = some y → m0.get n = some k → (∀ j, j ≤ n → ∃ k', m0.get j = some k') → (wr = true ∨ k.wr = true) → x ≠ y
  | y :: r, some k :: l, x, wr, h, 0, y', k', hy, hk, _, hw => by
    simp at hy
    simp only [Mem.get, Option.some.injEq] at hk
    subst hy hk
    simp only [okSg.okOne, Bool.and_eq_true, Bool.or_eq_true, Bool.not_eq_true'] at h
    rcases h.1 with h' | h'
    · rcases hw with hw | hw <;> simp [hw] at h'
    · simpa using h'
  | y :: r, some k :: l, x, wr, h, n + 1, y', k', hy, hk, hs, hw => by
    simp only [okSg.okOne, Bool.and_eq_true] at h
    exact okOne_get h.2 n y' k' (by simpa using hy) hk (fun j hj => hs (j + 1) (by omega)) hw
  | [], _, _, _, _, n, _, _, hy, _, _, _ => by simp at hy
  | _ :: _, [], _, _, _, n, _, _, _, hk, _, _ => by cases hk
  | _ :: _, none :: _, _, _, _, _, _, _, _, _, hs, _ => by obtain ⟨k', h⟩ := hs 0 (Nat.zero_le _); cases h
set_option maxHeartbeats 6400000 in
theorem okSg_inj : ∀ {sg : List Nat} {m0 : Mem}, okSg sg m0 = true → ∀ (i j x y : Nat) (k k' : Blk), i < j → sg[i]? = some x → sg[j]? = some y → m0.get i = some k → m0.get j = some k' → (k.wr = true ∨ k'.wr = true) → x ≠ y
  | a :: r, some k0 :: l, h, 0, j + 1, x, y, k, k', _, hx, hy, hk, hk', hw => by
    simp at hx
    simp only [Mem.get, Option.some.injEq] at hk
    subst hx hk
    have h' := h
    simp only [okSg, Bool.and_eq_true] at h
    have hlen : j < l.length := by
      rcases Nat.lt_or_ge j l.length with h1 | h1
      · exact h1
      · simp only [Mem.get] at hk'; rw [Mem.get_ge l j h1] at hk'; cases hk'
    exact okOne_get h.1 j y k' (by simpa using hy) hk' (fun q hq => okSg_some h.2 q (by omega)) hw
  | a :: r, some k0 :: l, h, i + 1, j + 1, x, y, k, k', hij, hx, hy, hk, hk', hw => by
    simp only [okSg, Bool.and_eq_true] at h
    exact okSg_inj h.2 i j x y k k' (by omega) (by simpa using hx) (by simpa using hy) hk hk' hw
  | [], [], _, i, j, x, y, _, _, _, hx, _, _, _, _ => by simp at hx

/-- what the call leaves, in the caller's names -/
def upsOf (σ : Nat → Nat) : Mem → Mem → Nat → Ups
  | some k :: m0, b :: m1, i => if k.wr then (σ i, b.map (renB σ)) :: upsOf σ m0 m1 (i + 1) else upsOf σ m0 m1 (i + 1)
  | none :: m0, _ :: m1, i => upsOf σ m0 m1 (i + 1)
  | [], b :: m1, i => (σ i, b.map (renB σ)) :: upsOf σ [] m1 (i + 1)
  | _, [], _ => []

theorem upsOf_has {σ : Nat → Nat} : ∀ (m0 m1 : Mem) (i n : Nat), (upsOf σ m0 m1 i).has n = true → ∃ q, q < m1.length ∧ n = σ (i + q) ∧ (m0.length ≤ q ∨ ∃ k, m0.get q = some k ∧ k.wr = true)
  | some k :: m0, b :: m1, i, n, h => by
    have rest : (upsOf σ m0 m1 (i + 1)).has n = true → ∃ q, q < (b :: m1).length ∧ n = σ (i + q) ∧ ((some k :: m0).length ≤ q ∨ ∃ k', Mem.get (some k :: m0) q = some k' ∧ k'.wr = true) := fun h => by
      obtain ⟨q, h1, h2, h3⟩ := upsOf_has m0 m1 (i + 1) n h
      exact ⟨q + 1, by simpa using h1, by rw [h2]; congr 1; omega, h3.imp (fun h => by simpa using h) fun h => h⟩
    simp only [upsOf] at h
    split at h
    · rename_i hw
      simp only [Ups.has, Bool.or_eq_true, beq_iff_eq] at h
      rcases h with rfl | h
      · exact ⟨0, by simp, rfl, .inr ⟨k, rfl, hw⟩⟩
      · exact rest h
    · exact rest h
  | none :: m0, b :: m1, i, n, h => by
    simp only [upsOf] at h
    obtain ⟨q, h1, h2, h3⟩ := upsOf_has m0 m1 (i + 1) n h
    exact ⟨q + 1, by simpa using h1, by rw [h2]; congr 1; omega, h3.imp (fun h => by simpa using h) fun h => h⟩
  | [], b :: m1, i, n, h => by
    simp only [upsOf, Ups.has, Bool.or_eq_true, beq_iff_eq] at h
    rcases h with rfl | h
    · exact ⟨0, by simp, rfl, .inl (Nat.le_refl _)⟩
    · obtain ⟨q, h1, h2, h3⟩ := upsOf_has [] m1 (i + 1) n h
      exact ⟨q + 1, by simpa using h1, by rw [h2]; congr 1; omega, .inl (Nat.zero_le _)⟩
  | some _ :: _, [], _, _, h => by simp [upsOf, Ups.has] at h
  | none :: _, [], _, _, h => by simp [upsOf, Ups.has] at h
  | [], [], _, _, h => by simp [upsOf, Ups.has] at h

theorem upsOf_look {σ : Nat → Nat} : ∀ (m0 m1 : Mem) (i q : Nat), q < m1.length → (m0.length ≤ q ∨ ∃ k, m0.get q = some k ∧ k.wr = true) →
    (∀ q', q' < m1.length → (m0.length ≤ q' ∨ ∃ k, m0.get q' = some k ∧ k.wr = true) → σ (i + q') = σ (i + q) → q' = q) →
    (upsOf σ m0 m1 i).has (σ (i + q)) = true ∧ (upsOf σ m0 m1 i).look (σ (i + q)) = (m1.get q).map (renB σ)
  | some k :: m0, b :: m1, i, 0, _, hw, hinj => by
    have hw' : k.wr = true := by
      rcases hw with hw | ⟨k', hk, hw⟩
      · simp at hw
      · simp only [Mem.get, Option.some.injEq] at hk; subst hk; exact hw
    simp only [upsOf, hw', if_true, Ups.has, Ups.look, Nat.add_zero, beq_self_eq_true, Bool.true_or, true_and]
    have hno : (upsOf σ m0 m1 (i + 1)).has (σ i) = false := by
      cases hh : (upsOf σ m0 m1 (i + 1)).has (σ i) with
      | false => rfl
      | true =>
        obtain ⟨q, h1, h2, h3⟩ := upsOf_has m0 m1 (i + 1) _ hh
        have := hinj (q + 1) (by simpa using h1) (h3.imp (fun h => by simpa using h) fun h => h) (by rw [show i + (q + 1) = i + 1 + q by omega, ← h2]; rfl)
        omega
    rw [hno]
    simp [Mem.get]
  | some k :: m0, b :: m1, i, q + 1, hq, hw, hinj => by
    have ih := upsOf_look (σ := σ) m0 m1 (i + 1) q (by simpa using hq) (hw.imp (fun h => by simpa using h) fun h => h) (fun q' h1 h2 h3 => by
      have := hinj (q' + 1) (by simpa using h1) (h2.imp (fun h => by simpa using h) fun h => h) (by rw [show i + (q' + 1) = i + 1 + q' by omega, h3]; congr 1; omega)
      omega)
    rw [show i + 1 + q = i + (q + 1) by omega] at ih
    simp only [upsOf]
    split
    · simp only [Ups.has, Ups.look, ih.1, Bool.or_true, if_true, true_and]; exact ih.2
    · exact ih
  | none :: m0, b :: m1, i, 0, _, hw, _ => by
    rcases hw with hw | ⟨k', hk, hw⟩
    · simp at hw
    · cases hk
  | none :: m0, b :: m1, i, q + 1, hq, hw, hinj => by
    have ih := upsOf_look (σ := σ) m0 m1 (i + 1) q (by simpa using hq) (hw.imp (fun h => by simpa using h) fun h => h) (fun q' h1 h2 h3 => by
      have := hinj (q' + 1) (by simpa using h1) (h2.imp (fun h => by simpa using h) fun h => h) (by rw [show i + (q' + 1) = i + 1 + q' by omega, h3]; congr 1; omega)
      omega)
    rw [show i + 1 + q = i + (q + 1) by omega] at ih
    simp only [upsOf]
    exact ih
  | [], b :: m1, i, 0, _, _, hinj => by
    simp only [upsOf, Ups.has, Ups.look, Nat.add_zero, beq_self_eq_true, Bool.true_or, true_and]
    have hno : (upsOf σ [] m1 (i + 1)).has (σ i) = false := by
      cases hh : (upsOf σ [] m1 (i + 1)).has (σ i) with
      | false => rfl
      | true =>
        obtain ⟨q, h1, h2, h3⟩ := upsOf_has [] m1 (i + 1) _ hh
        have := hinj (q + 1) (by simpa using h1) (.inl (Nat.zero_le _)) (by rw [show i + (q + 1) = i + 1 + q by omega, ← h2]; rfl)
        omega
    rw [hno]
    simp [Mem.get]
  | [], b :: m1, i, q + 1, hq, _, hinj => by
    have ih := upsOf_look (σ := σ) [] m1 (i + 1) q (by simpa using hq) (.inl (Nat.zero_le _)) (fun q' h1 h2 h3 => by
      have := hinj (q' + 1) (by simpa using h1) (.inl (Nat.zero_le _)) (by rw [show i + (q' + 1) = i + 1 + q' by omega, h3]; congr 1; omega)
      omega)
    rw [show i + 1 + q = i + (q + 1) by omega] at ih
    simp only [upsOf, Ups.has, Ups.look, ih.1, Bool.or_true, if_true, true_and]
    exact ih.2
  | _, [], _, _, hq, _, _ => by simp at hq

def okNew : Mem → Mem → Bool
  | _, [] => true
  | [], some k :: l => k.wr && okNew [] l
  | [], none :: l => okNew [] l
  | some k0 :: m0, some k :: l => (!k0.wr || k.wr) && okNew m0 l
  | _ :: m0, _ :: l => okNew m0 l
theorem okNew_get : ∀ {m0 m1 : Mem} {n : Nat} {k : Blk}, okNew m0 m1 = true → m1.get n = some k → (m0.length ≤ n ∨ ∃ k0, m0.get n = some k0 ∧ k0.wr = true) → k.wr = true
  | _, [], _, _, _, h, _ => by cases h
  | [], some k' :: l, 0, k, hn, h, _ => by simp only [okNew, Bool.and_eq_true] at hn; simp only [Mem.get, Option.some.injEq] at h; subst h; exact hn.1
  | [], some k' :: l, n + 1, k, hn, h, _ => by simp only [okNew, Bool.and_eq_true] at hn; exact okNew_get (m0 := []) hn.2 h (.inl (Nat.zero_le _))
  | [], none :: l, 0, k, _, h, _ => by cases h
  | [], none :: l, n + 1, k, hn, h, _ => okNew_get (m0 := []) (m1 := l) hn h (.inl (Nat.zero_le _))
  | some k0 :: m0, some k' :: l, 0, k, hn, h, hw => by
    simp only [okNew, Bool.and_eq_true, Bool.or_eq_true, Bool.not_eq_true'] at hn
    simp only [Mem.get, Option.some.injEq] at h
    subst h
    rcases hw with hw | ⟨k1, hk, hw⟩
    · simp at hw
    · simp only [Mem.get, Option.some.injEq] at hk
      subst hk
      rcases hn.1 with h1 | h1
      · rw [hw] at h1; cases h1
      · exact h1
  | some k0 :: m0, some k' :: l, n + 1, k, hn, h, hw => by
    simp only [okNew, Bool.and_eq_true] at hn
    exact okNew_get hn.2 h (hw.imp (fun h => by simpa using h) fun h => h)
  | none :: m0, b :: l, 0, k, _, h, hw => by
    rcases hw with hw | ⟨k1, hk, _⟩
    · simp at hw
    · cases hk
  | none :: m0, b :: l, n + 1, k, hn, h, hw => by
    have hn' : okNew m0 l = true := by cases b <;> exact hn
    exact okNew_get hn' h (hw.imp (fun h => by simpa using h) fun h => h)
  | some k0 :: m0, none :: l, 0, k, _, h, _ => by cases h
  | some k0 :: m0, none :: l, n + 1, k, hn, h, hw => okNew_get (m0 := m0) (m1 := l) hn h (hw.imp (fun h => by simpa using h) fun h => h)
end Go.Sx
namespace Go.Sx

theorem FC.fact {P : Program} {g : FuncId} {args0 : List SV} {m0 : Mem} {v1 : SV} {m1 : Mem} (h : FC P g args0 m0 v1 m1) (hba : args0.all (bS m0.length) = true) (hbm : bM m0.length m0) (hnew : okNew m0 m1 = true)
    {sg : List Nat} {rd : Mem} (hsg : okSg sg m0 = true) (hrd : okRd (sgF sg rd.length) rd m0 0) :
    CallFact P g (args0.map (renS (sgF sg rd.length))) rd (renS (sgF sg rd.length) v1) (upsOf (sgF sg rd.length) m0 m1 0) := by
  refine ⟨h.can, fun W A β M w vals hSt hd hrdM hfresh => ?_⟩
  have hlen := okSg_len hsg
  generalize hσ : sgF sg rd.length = σ at *
  have hin : ∀ n, n < m0.length → sg[n]? = some (σ n) := fun n hn => by rw [← hσ]; exact sgF_in sg _ n (by omega)
  have hout : ∀ n, m0.length ≤ n → σ n = rd.length + (n - m0.length) := fun n hn => by rw [← hσ, sgF_out sg _ n (by omega), hlen]
  have hsome := okSg_some hsg
  have hrdn : ∀ n k, m0.get n = some k → ∃ kb, rd.get (σ n) = some kb ∧ (k.wr = true → kb.wr = true) ∧ (∀ (w : World) (β : Bet) (nm : Nm), holds w β nm kb → holds w β nm (renB σ k)) ∧ ∀ (w : World) (nm : Nm) (b : Nat), ownB w nm k.k b → ownB w nm kb.k b := fun n k hk => by have := okRd_get m0 0 n k hrd hk; rw [Nat.zero_add] at this; exact this.conv
  have hlt0 : ∀ n k, m0.get n = some k → n < m0.length := fun n k hk => by
    rcases Nat.lt_or_ge n m0.length with h' | h'
    · exact h'
    · rw [Mem.get_ge m0 n h'] at hk; cases hk
  have hlt1 : ∀ n k, m1.get n = some k → n < m1.length := fun n k hk => by
    rcases Nat.lt_or_ge n m1.length with h' | h'
    · exact h'
    · rw [Mem.get_ge m1 n h'] at hk; cases hk
  have hrdlt : ∀ n, n < m0.length → σ n < rd.length := fun n hn => by
    obtain ⟨k, hk⟩ := hsome n hn
    obtain ⟨_, this, _, _⟩ := hrdn n k hk
    rcases Nat.lt_or_ge (σ n) rd.length with h' | h'
    · exact h'
    · rw [Mem.get_ge rd _ h'] at this; cases this
  -- the names that may be written are the caller's once
  have hinj0 : ∀ i j k k', i ≠ j → m0.get i = some k → m0.get j = some k' → (k.wr = true ∨ k'.wr = true) → σ i ≠ σ j := fun i j k k' hne hi hj hw => by
    rcases Nat.lt_or_gt_of_ne hne with hlt | hgt
    · exact okSg_inj hsg i j _ _ k k' hlt (hin i (hlt0 i k hi)) (hin j (hlt0 j k' hj)) hi hj hw
    · exact Ne.symm (okSg_inj hsg j i _ _ k' k hgt (hin j (hlt0 j k' hj)) (hin i (hlt0 i k hi)) hj hi hw.symm)
  have hinj : ∀ q, (m0.length ≤ q ∨ ∃ k, m0.get q = some k ∧ k.wr = true) → ∀ q', (m0.length ≤ q' ∨ ∃ k, m0.get q' = some k ∧ k.wr = true) → σ q' = σ q → q' = q := fun q hq q' hq' he => by
    rcases Nat.lt_or_ge q m0.length with h1 | h1
    · rcases Nat.lt_or_ge q' m0.length with h2 | h2
      · rcases hq with hq | ⟨k, hk, hw⟩
        · omega
        rcases hq' with hq' | ⟨k', hk', hw'⟩
        · omega
        rcases Nat.decEq q' q with hne | hne
        · exact absurd he (hinj0 q' q k' k hne hk' hk (.inl hw'))
        · exact hne
      · have := hrdlt q h1
        rw [hout q' h2] at he
        omega
    · rcases Nat.lt_or_ge q' m0.length with h2 | h2
      · have := hrdlt q' h2
        rw [hout q h1] at he
        omega
      · rw [hout q h1, hout q' h2] at he
        omega
  have hlook : ∀ q, q < m1.length → (m0.length ≤ q ∨ ∃ k, m0.get q = some k ∧ k.wr = true) → (upsOf σ m0 m1 0).has (σ q) = true ∧ (upsOf σ m0 m1 0).look (σ q) = (m1.get q).map (renB σ) := fun q hq hw => by
    have := upsOf_look (σ := σ) m0 m1 0 q hq hw (fun q' h1 h2 h3 => hinj q hw q' h2 (by simpa using h3))
    simpa using this
  have hhas : ∀ n, (upsOf σ m0 m1 0).has n = true → ∃ q, q < m1.length ∧ n = σ q ∧ (m0.length ≤ q ∨ ∃ k, m0.get q = some k ∧ k.wr = true) := fun n hn => by
    obtain ⟨q, h1, h2, h3⟩ := upsOf_has m0 m1 0 n hn
    exact ⟨q, h1, by simpa using h2, h3⟩
  let β0 : Bet := fun n => if n < m0.length then β (σ n) else none
  have hβ0 : ∀ n, n < m0.length → β0 n = β (σ n) := fun n hn => by simp [β0, hn]
  have hnames : ∀ n k, m0.get n = some k → ∃ m, β (σ n) = some m ∧ holds w β m (renB σ k) := fun n k hk => by
    obtain ⟨wr, h1, h2, h3, _⟩ := hrdn n k hk
    obtain ⟨m, hm, hh⟩ := hSt.names (σ n) _ (hrdM _ _ h1)
    exact ⟨m, hm, h3 _ _ _ hh⟩
  have hun : ∀ n, n < m0.length → ∀ m, β (σ n) = some m → β0 n = some m := fun n hn m hm => by rw [hβ0 n hn]; exact hm
  have hSt0 : St w (wrA w β0 m0) β0 m0 w := by
    refine ⟨rfl, rfl, rfl, Nat.le_refl _, fun k hk _ => rfl, fun n k hk => ?_, fun n n' k k' m m' hne hk hk' hw hm hm' b hb hb' => ?_, fun n k m hk hw hm b hb => .inl ⟨n, k, m, hk, hw, hm, hb⟩⟩
    · obtain ⟨m, hm, hh⟩ := hnames n k hk
      exact ⟨m, hun n (hlt0 n k hk) m hm, holds_unren hun (bM_get hbm hk) hh⟩
    · rw [hβ0 n (hlt0 n k hk)] at hm
      rw [hβ0 n' (hlt0 n' k' hk')] at hm'
      obtain ⟨wr, h1, h2, _, h3⟩ := hrdn n k hk
      obtain ⟨wr', h1', _, _, h3'⟩ := hrdn n' k' hk'
      exact hSt.sep (σ n) (σ n') _ _ m m' (hinj0 n n' k k' hne hk hk' (.inl hw)) (hrdM _ _ h1) (hrdM _ _ h1') (h2 hw) hm hm' b (h3 w m b hb) (h3' w m' b hb')
  refine (h.run β0 w vals (fun n hn => by simp [β0, Nat.not_lt.2 hn]) (fun n hn => ?_) hSt0 (denLS_unren hun hba hd)).mono fun e w' ⟨v', β1, he, hkeep, htop, hSt1, hdv⟩ => ?_
  · obtain ⟨k, hk⟩ := hsome n hn
    obtain ⟨m, hm, _⟩ := hnames n k hk
    rw [hβ0 n hn, hm]
    simp
  let β' : Bet := fun n => match β n with
    | some m => some m
    | none => if rd.length ≤ n ∧ n - rd.length + m0.length < m1.length then β1 (n - rd.length + m0.length) else none
  have hle : β.le β' := fun n m hm => by simp [β', hm]
  have hfr : ∀ q, m0.length ≤ q → q < m1.length → β (σ q) = none := fun q h1 h2 =>
    (hfresh (σ q) (hlook q h2 (.inl h1)).1 (Mem.get_ge rd _ (by rw [hout q h1]; omega))).1
  have hto : ∀ q, q < m1.length → ∀ m, β1 q = some m → β' (σ q) = some m := fun q hq m hm => by
    rcases Nat.lt_or_ge q m0.length with h1 | h1
    · rw [hkeep q h1, hβ0 q h1] at hm
      exact hle _ _ hm
    · have hn := hfr q h1 hq
      simp only [β', hn]
      rw [hout q h1, if_pos ⟨by omega, by omega⟩, show rd.length + (q - m0.length) - rd.length + m0.length = q by omega]
      exact hm
  -- the blocks that the call may have written
  have hwr : ∀ b, wrA w β0 m0 b → ∃ i k m, m0.get i = some k ∧ k.wr = true ∧ β (σ i) = some m ∧ ownB w m k.k b := fun b ⟨i, k, m, hk, hw, hm, hb⟩ => ⟨i, k, m, hk, hw, by rw [← hβ0 i (hlt0 i k hk)]; exact hm, hb⟩
  have hwA : ∀ b, wrA w β0 m0 b → A b ∨ W.heap.size ≤ b := fun b hb => by
    obtain ⟨i, k, m, hk, hw, hm, hb⟩ := hwr b hb
    obtain ⟨wr, h1, h2, _, h3⟩ := hrdn i k hk
    exact hSt.perm (σ i) _ m (hrdM _ _ h1) (h2 hw) hm b (h3 w m b hb)
  have hlive : ∀ n k m b, M.get n = some k → β n = some m → ownB w m k.k b → b < w.heap.size := fun n k m b hk hm hb => by
    obtain ⟨m', hm', hh⟩ := hSt.names n k hk
    rw [hm] at hm'; cases hm'
    exact ownB.lt hh hb
  -- a name that the call does not leave anew keeps its block
  have hnot : ∀ n k m b, (upsOf σ m0 m1 0).has n = false → M.get n = some k → β n = some m → ownB w m k.k b → ¬ wrA w β0 m0 b := fun n k m b hn hk hm hb hw => by
    obtain ⟨i, k', m', hk', hw', hm', hb'⟩ := hwr _ hw
    have hne : σ i ≠ n := fun e => by
      have := (hlook i (by have := hlt0 i k' hk'; have := h.len; omega) (.inr ⟨k', hk', hw'⟩)).1
      rw [e, hn] at this
      cases this
    obtain ⟨wr, h1, h2, _, h3⟩ := hrdn i k' hk'
    exact hSt.sep (σ i) n _ k m' m hne (hrdM _ _ h1) hk (h2 hw') hm' hm b (h3 w m' b hb') hb
  have hkeepH : ∀ n k m, (upsOf σ m0 m1 0).has n = false → M.get n = some k → β n = some m → ∀ b, ownB w m k.k b → w'.heap[b]? = w.heap[b]? := fun n k m hn hk hm b hb =>
    hSt1.frame b (hlive n k m b hk hm hb) (hnot n k m b hn hk hm hb)
  have hback : ∀ n k m, (upsOf σ m0 m1 0).has n = false → M.get n = some k → β n = some m → ∀ b, ownB w' m k.k b → ownB w m k.k b := fun n k m hn hk hm b hb => by
    obtain ⟨m', hm', hh⟩ := hSt.names n k hk
    rw [hm] at hm'; cases hm'
    exact (ownB.heap hh (hkeepH n k m hn hk hm)).1 hb
  have hget : ∀ n k, (M.app (upsOf σ m0 m1 0)).get n = some k → (∃ q k1, q < m1.length ∧ n = σ q ∧ m1.get q = some k1 ∧ k = renB σ k1 ∧ (m0.length ≤ q ∨ ∃ k, m0.get q = some k ∧ k.wr = true)) ∨ ((upsOf σ m0 m1 0).has n = false ∧ M.get n = some k) := fun n k hk => by
    rw [Mem.get_app] at hk
    split at hk
    · rename_i hn
      obtain ⟨q, hq, rfl, hw⟩ := hhas n hn
      rw [(hlook q hq hw).2] at hk
      cases h1 : m1.get q with
      | none => rw [h1] at hk; cases hk
      | some k1 =>
        rw [h1] at hk
        simp only [Option.map_some, Option.some.injEq] at hk
        exact .inl ⟨q, k1, hq, rfl, h1, hk.symm, hw⟩
    · rename_i hn
      exact .inr ⟨by simpa using hn, hk⟩
  have hβold : ∀ n k m, M.get n = some k → β' n = some m → β n = some m := fun n k m hk hm => by
    obtain ⟨m', hm', _⟩ := hSt.names n k hk
    rw [hle n m' hm'] at hm
    rw [hm', hm]
  have hβnew : ∀ q k1 m, m1.get q = some k1 → β' (σ q) = some m → β1 q = some m := fun q k1 m hk hm => by
    obtain ⟨m', hm', _⟩ := hSt1.names q k1 hk
    rw [hto q (hlt1 q k1 hk) m' hm'] at hm
    rw [hm', hm]
  subst he
  refine ⟨v', β', rfl, hle, fun n hn hn' => ?_, ?_, denS_ren hto h.bv hdv⟩
  · simp only [β', hn] at hn'
    split at hn'
    · rename_i hc
      have hq : m0.length ≤ n - rd.length + m0.length := by omega
      have := (hlook (n - rd.length + m0.length) hc.2 (.inl hq)).1
      rw [hout _ hq, show rd.length + (n - rd.length + m0.length - m0.length) = n by omega] at this
      exact this
    · exact absurd rfl hn'
  · refine ⟨hSt1.os.trans hSt.os, hSt1.tape.trans hSt.tape, hSt1.output.trans hSt.output, Nat.le_trans hSt.size hSt1.size, fun k hk hA => ?_, fun n k hk => ?_, fun n n' k k' m m' hne hk hk' hw hm hm' b hb hb' => ?_, fun n k m hk hw hm b hb => ?_⟩
    · rw [hSt1.frame k (by have := hSt.size; omega) (fun hw => by rcases hwA k hw with h1 | h1; exact hA h1; omega)]
      exact hSt.frame k hk hA
    · rcases hget n k hk with ⟨q, k1, hq, rfl, hk1, rfl, _⟩ | ⟨hn, hk⟩
      · obtain ⟨m, hm, hh⟩ := hSt1.names q k1 hk1
        exact ⟨m, hto q hq m hm, holds_ren hto (bM_get h.bm1 hk1) hh⟩
      · obtain ⟨m, hm, hh⟩ := hSt.names n k hk
        exact ⟨m, hle n m hm, (hh.heap (hkeepH n k m hn hk hm)).mono hle⟩
    · -- a name of the call's against one that it did not leave anew
      have cross : ∀ q k1 n k m m', q < m1.length → m1.get q = some k1 → (m0.length ≤ q ∨ ∃ k, m0.get q = some k ∧ k.wr = true) → β1 q = some m →
          (upsOf σ m0 m1 0).has n = false → M.get n = some k → β n = some m' → ∀ b, ownB w' m k1.k b → ¬ ownB w' m' k.k b := by
        intro q k1 n k m m' hq hk1 hwq hm hn hk hm' b hb hb'
        have hb2 := hback n k m' hn hk hm' b hb'
        have hlt := hlive n k m' b hk hm' hb2
        rcases hSt1.perm q k1 m hk1 (okNew_get hnew hk1 hwq) hm b hb with h1 | h1
        · exact hnot n k m' b hn hk hm' hb2 h1
        · omega
      rcases hget n k hk with ⟨q, k1, hq, rfl, hk1, rfl, hwq⟩ | ⟨hn, hk⟩
      · rcases hget n' k' hk' with ⟨q', k1', hq', rfl, hk1', rfl, hwq'⟩ | ⟨hn', hk'⟩
        · exact hSt1.sep q q' k1 k1' m m' (fun e => hne (by rw [e])) hk1 hk1' hw (hβnew q k1 m hk1 hm) (hβnew q' k1' m' hk1' hm') b (renBk_own.1 hb) (renBk_own.1 hb')
        · exact cross q k1 n' k' m m' hq hk1 hwq (hβnew q k1 m hk1 hm) hn' hk' (hβold n' k' m' hk' hm') b (renBk_own.1 hb) hb'
      · rcases hget n' k' hk' with ⟨q', k1', hq', rfl, hk1', rfl, hwq'⟩ | ⟨hn', hk'⟩
        · exact cross q' k1' n k m' m hq' hk1' hwq' (hβnew q' k1' m' hk1' hm') hn hk (hβold n k m hk hm) b (renBk_own.1 hb') hb
        · exact hSt.sep n n' k k' m m' hne hk hk' hw (hβold n k m hk hm) (hβold n' k' m' hk' hm') b (hback n k m hn hk (hβold n k m hk hm) b hb) (hback n' k' m' hn' hk' (hβold n' k' m' hk' hm') b hb')
    · rcases hget n k hk with ⟨q, k1, hq, rfl, hk1, rfl, _⟩ | ⟨hn, hk⟩
      · rcases hSt1.perm q k1 m hk1 hw (hβnew q k1 m hk1 hm) b (renBk_own.1 hb) with h1 | h1
        · exact hwA _ h1
        · exact .inr (Nat.le_trans hSt.size h1)
      · exact hSt.perm n k m hk hw (hβold n k m hk hm) b (hback n k m hn hk (hβold n k m hk hm) b hb)

/-- AT A CALL -/
theorem FC.use {P : Program} {g : FuncId} {args0 : List SV} {m0 : Mem} {v1 : SV} {m1 : Mem} (h : FC P g args0 m0 v1 m1) (sg : List Nat) {args : List SV} {rd : Mem} {nm : Nat} {K : Kt}
    (hargs : args = args0.map (renS (sgF sg rd.length))) (hba : args0.all (bS m0.length) = true) (hbm : bM m0.length m0) (hnew : okNew m0 m1 = true) (hsg : okSg sg m0 = true) (hrd : okRd (sgF sg rd.length) rd m0 0)
    (hK : K (renS (sgF sg rd.length) v1) (upsOf (sgF sg rd.length) m0 m1 0)) : acall P g args rd nm K :=
  ⟨⟨_, _, by rw [hargs]; exact h.fact hba hbm hnew hsg hrd, hK⟩⟩
end Go.Sx
namespace Go.Sx

/-- at a call, what computes is left to the machine -/
theorem FC.u {P : Program} {g : FuncId} {args0 : List SV} {m0 : Mem} {v1 : SV} {m1 : Mem} (h : FC P g args0 m0 v1 m1) (sg : List Nat) {args : List SV} {rd : Mem} {nm : Nat} {K : Kt}
    (hK : K (renS (sgF sg rd.length) v1) (upsOf (sgF sg rd.length) m0 m1 0))
    (hargs : args = args0.map (renS (sgF sg rd.length)) := by exact rfl) (hrd : okRd (sgF sg rd.length) rd m0 0 := by repeat' (first | exact trivial | exact .inl rfl | exact .inr (.inl ⟨rfl, rfl⟩) | exact rdOne.ints | refine ⟨?_, ?_⟩))
    (hba : args0.all (bS m0.length) = true := by exact rfl) (hbm : bM m0.length m0 := by repeat' (first | exact trivial | exact rfl | exact fun _ _ => rfl | refine ⟨?_, ?_⟩))
    (hnew : okNew m0 m1 = true := by exact rfl) (hsg : okSg sg m0 = true := by exact rfl) : acall P g args rd nm K :=
  FC.use h sg hargs hba hbm hnew hsg hrd hK
/-- at a call whose result is only told of -/
theorem FC.x {P : Program} {g : FuncId} {args0 : List SV} {m0 : Mem} {α : Type} {v : α → SV} {m : α → Mem} {Q : α → Prop} (h : ∃ a, FC P g args0 m0 (v a) (m a) ∧ Q a) (sg : List Nat) {args : List SV} {rd : Mem} {nm : Nat} {K : Kt}
    (hK : ∀ a, Q a → K (renS (sgF sg rd.length) (v a)) (upsOf (sgF sg rd.length) m0 (m a) 0))
    (hargs : args = args0.map (renS (sgF sg rd.length)) := by exact rfl) (hrd : okRd (sgF sg rd.length) rd m0 0 := by repeat' (first | exact trivial | exact .inl rfl | exact .inr (.inl ⟨rfl, rfl⟩) | exact rdOne.ints | refine ⟨?_, ?_⟩))
    (hba : args0.all (bS m0.length) = true := by exact rfl) (hbm : bM m0.length m0 := by repeat' (first | exact trivial | exact rfl | exact fun _ _ => rfl | refine ⟨?_, ?_⟩))
    (hnew : ∀ a, okNew m0 (m a) = true := by exact fun _ => rfl) (hsg : okSg sg m0 = true := by exact rfl) : acall P g args rd nm K := by
  obtain ⟨a, hF, hQ⟩ := h
  exact FC.use hF sg hargs hba hbm (hnew a) hsg hrd (hK a hQ)
/-- a body -/
theorem FC.b {P : Program} (hm : P.follows .mixedOrders = true) {g : FuncId} {fn : Func} (hf : P.funcs[g]? = some fn) {c : Code} 
    {args0 : List SV} {m0 : Mem} {v1 : SV} {m1 : Mem} 
    (h : acode P false m0.length c (args0 ++ undefs (fn.ntmps - args0.length)) m0 (postK P fn.results.toList v1 m1))
    (hb : fn.body = some c := by exact rfl) (hc : callable P g = true := by kernel_rfl) (hlen : m0.length ≤ m1.length := by exact Nat.le_of_ble_eq_true rfl) (hv : bS m1.length v1 = true := by exact rfl)
    (hm1 : bM m1.length m1 := by repeat' (first | exact trivial | exact rfl | exact fun _ _ => rfl | refine ⟨?_, ?_⟩)) : FC P g args0 m0 v1 m1 :=
  FC.of_body hm hf hc hb rfl hlen hv hm1 h

/-- a body of which something is told -/
theorem FC.r {P : Program} (hm : P.follows .mixedOrders = true) {g : FuncId} {fn : Func} (hf : P.funcs[g]? = some fn) {c : Code} {args0 : List SV} {m0 : Mem} {α : Type} {v : α → SV} {m : α → Mem} {Q : α → Prop}
    (h : acode P false m0.length c (args0 ++ undefs (fn.ntmps - args0.length)) m0 (postR P m0.length fn.results.toList v m Q))
    (hb : fn.body = some c := by exact rfl) (hc : callable P g = true := by kernel_rfl)
    (hs : ∀ a, Q a → m0.length ≤ (m a).length ∧ bS (m a).length (v a) = true ∧ bM (m a).length (m a) := by exact fun _ _ => ⟨Nat.le_of_ble_eq_true rfl, rfl, by repeat' (first | exact trivial | exact rfl | exact fun _ _ => rfl | refine ⟨?_, ?_⟩)⟩) :
    ∃ a, FC P g args0 m0 (v a) (m a) ∧ Q a := FC.of_bodyR hm hf hc hb rfl hs h
/-- the same with places where the text's parts may come together -/
theorem FC.rj {P : Program} (hm : P.follows .mixedOrders = true) {g : FuncId} {fn : Func} (hf : P.funcs[g]? = some fn) {c : Code} {args0 : List SV} {m0 : Mem} {α : Type} {v : α → SV} {m : α → Mem} {Q : α → Prop}
    (h : acode P true m0.length c (args0 ++ undefs (fn.ntmps - args0.length)) m0 (postR P m0.length fn.results.toList v m Q))
    (hb : fn.body = some c := by exact rfl) (hc : callable P g = true := by kernel_rfl)
    (hs : ∀ a, Q a → m0.length ≤ (m a).length ∧ bS (m a).length (v a) = true ∧ bM (m a).length (m a) := by exact fun _ _ => ⟨Nat.le_of_ble_eq_true rfl, rfl, by repeat' (first | exact trivial | exact rfl | exact fun _ _ => rfl | refine ⟨?_, ?_⟩)⟩) :
    ∃ a, FC P g args0 m0 (v a) (m a) ∧ Q a := FC.of_bodyR hm hf hc hb rfl hs h
theorem FC.bj {P : Program} (hm : P.follows .mixedOrders = true) {g : FuncId} {fn : Func} (hf : P.funcs[g]? = some fn) {c : Code} 
    {args0 : List SV} {m0 : Mem} {v1 : SV} {m1 : Mem} 
    (h : acode P true m0.length c (args0 ++ undefs (fn.ntmps - args0.length)) m0 (postK P fn.results.toList v1 m1))
    (hb : fn.body = some c := by exact rfl) (hc : callable P g = true := by kernel_rfl) (hlen : m0.length ≤ m1.length := by exact Nat.le_of_ble_eq_true rfl) (hv : bS m1.length v1 = true := by exact rfl)
    (hm1 : bM m1.length m1 := by repeat' (first | exact trivial | exact rfl | exact fun _ _ => rfl | refine ⟨?_, ?_⟩)) : FC P g args0 m0 v1 m1 :=
  FC.of_body hm hf hc hb rfl hlen hv hm1 h
/-- one case: nothing is chosen -/
theorem FC.one {P : Program} {g : FuncId} {args0 : List SV} {m0 : Mem} {v1 : SV} {m1 : Mem} (h : ∃ _ : Unit, FC P g args0 m0 v1 m1 ∧ True) : FC P g args0 m0 v1 m1 := h.elim fun _ h => h.1

/-! ### loops and joins -/
def keepL (fr : List SV) : List Nat → List (Nat × SV)
  | [] => []
  | k :: r => (k, frGet fr k) :: keepL fr r
def keepV (fr : List SV) : List Nat → List SV
  | [] => []
  | k :: r => frGet fr k :: keepV fr r
theorem leF_append {fr : List SV} : ∀ {a b : List (Nat × SV)}, leF fr a → leF fr b → leF fr (a ++ b)
  | [], _, _, h => h
  | _ :: _, _, h, k => ⟨h.1, leF_append h.2 k⟩
theorem leF_keep {fr fr' : List SV} : ∀ {ks : List Nat}, keepV fr' ks = keepV fr ks → leF fr' (keepL fr ks)
  | [], _ => trivial
  | _ :: _, h => by simp only [keepV, List.cons.injEq] at h; exact ⟨h.1, leF_keep h.2⟩
def lkM : List (Nat × Blk) → Nat → Option Blk
  | [], _ => none
  | (s, v) :: r, i => if s = i then some v else lkM r i
def mkM : Nat → Nat → List (Nat × Blk) → Mem
  | _, 0, _ => []
  | i, n + 1, L => lkM L i :: mkM (i + 1) n L
def keepB (M : Mem) : List Nat → List (Nat × Blk)
  | [] => []
  | k :: r => match M.get k with | some b => (k, b) :: keepB M r | none => keepB M r
def selM (M : Mem) : List Nat → List (Option Blk)
  | [] => []
  | k :: r => M.get k :: selM M r
def leBs (M : Mem) : List (Nat × Blk) → Prop
  | [] => True
  | (n, b) :: r => leB (M.get n) b ∧ leBs M r
theorem leBs_append {M : Mem} : ∀ {a b : List (Nat × Blk)}, leBs M a → leBs M b → leBs M (a ++ b)
  | [], _, _, h => h
  | _ :: _, _, h, k => ⟨h.1, leBs_append h.2 k⟩
theorem leBs_keep {M M' : Mem} : ∀ {ks : List Nat}, selM M' ks = selM M ks → leBs M' (keepB M ks)
  | [], _ => trivial
  | k :: r, h => by
    simp only [selM, List.cons.injEq] at h
    unfold keepB
    split
    · rename_i b hb; exact ⟨.inl (by rw [h.1, hb]), leBs_keep h.2⟩
    · exact leBs_keep h.2
theorem leBs_lk {M : Mem} : ∀ {L : List (Nat × Blk)} {n : Nat} {b : Blk}, leBs M L → lkM L n = some b → leB (M.get n) b
  | (s, v) :: r, n, b, h, hl => by
    unfold lkM at hl
    split at hl
    · rename_i hs; subst hs; cases hl; exact h.1
    · exact leBs_lk h.2 hl
theorem mkM_get (L : List (Nat × Blk)) : ∀ (len i n : Nat) (g : Blk), (mkM i len L).get n = some g → lkM L (i + n) = some g
  | 0, _, _, _, h => by cases h
  | len + 1, i, 0, g, h => h
  | len + 1, i, n + 1, g, h => by have := mkM_get L len (i + 1) n g h; rwa [show i + 1 + n = i + (n + 1) by omega] at this
theorem mkM_length (L : List (Nat × Blk)) : ∀ (n i : Nat), (mkM i n L).length = n
  | 0, _ => rfl
  | n + 1, i => congrArg (· + 1) (mkM_length L n (i + 1))
noncomputable def forceM (l : Mem) : (Mem → Prop) → Prop :=
  List.rec (motive := fun _ => (Mem → Prop) → Prop) (fun K => K []) (fun c _ ih K => forceO c fun c => ih fun l => K (c :: l)) l
theorem forceM_cons (c : Option Blk) (l : Mem) (K : Mem → Prop) : forceM (c :: l) K = forceO c fun c => forceM l fun l => K (c :: l) := rfl
theorem forceM_eq : ∀ (l : Mem) (K : Mem → Prop), forceM l K = K l
  | [], _ => rfl
  | c :: l, K => by rw [forceM_cons, forceO_eq, forceM_eq l]

/-- the state at the head of a round, or behind a join -/
def headF {X : Type} (fr : List SV) (ks : List Nat) (ch : X → List (Nat × SV)) (x : X) : List SV := mkFr 0 fr.length (ch x ++ keepL fr ks)
def headM {X : Type} (L : Nat) (M : Mem) (kb : List Nat) (cm : X → List (Nat × Blk)) (x : X) : Mem := mkM 0 L (cm x ++ keepB M kb)
def fitBs (rn : Rns) (M : Mem) : List (Nat × Blk) → Prop
  | [] => True
  | (n, b) :: r => fitB rn M n b ∧ fitBs rn M r
def okBs (rn : Rns) : List (Nat × Blk) → Prop
  | [] => True
  | (_, b) :: r => okBk rn b.k ∧ okBs rn r
theorem fitBs_lk {rn : Rns} {M : Mem} : ∀ {L : List (Nat × Blk)} {n : Nat} {b : Blk}, fitBs rn M L → lkM L n = some b → fitB rn M n b
  | (s, v) :: r, n, b, h, hl => by
    unfold lkM at hl
    split at hl
    · rename_i hs; subst hs; cases hl; exact h.1
    · exact fitBs_lk h.2 hl
theorem okBs_lk {rn : Rns} : ∀ {L : List (Nat × Blk)} {n : Nat} {b : Blk}, okBs rn L → lkM L n = some b → okBk rn b.k
  | (s, v) :: r, n, b, h, hl => by
    unfold lkM at hl
    split at hl
    · rename_i hs; subst hs; cases hl; exact h.1
    · exact okBs_lk h.2 hl
theorem fitBs_append {rn : Rns} {M : Mem} : ∀ {a b : List (Nat × Blk)}, fitBs rn M a → fitBs rn M b → fitBs rn M (a ++ b)
  | [], _, _, h => h
  | _ :: _, _, h, k => ⟨h.1, fitBs_append h.2 k⟩
theorem leFx_append {rn : Rns} {fr : List SV} : ∀ {a b : List (Nat × SV)}, leFx rn fr a → leFx rn fr b → leFx rn fr (a ++ b)
  | [], _, _, h => h
  | _ :: _, _, h, k => ⟨h.1, leFx_append h.2 k⟩
theorem leFx_keep {rn : Rns} {fr fr' : List SV} : ∀ {ks : List Nat}, keepV fr' ks = keepV fr ks → (keepV fr ks).map (exS rn) = keepV fr ks → leFx rn fr' (keepL fr ks)
  | [], _, _ => trivial
  | _ :: _, h, k => by simp only [keepV, List.map_cons, List.cons.injEq] at h k; exact ⟨by rw [k.1]; exact h.1, leFx_keep h.2 k.2⟩
theorem fitBs_keep {rn : Rns} {M M' : Mem} : ∀ {ks : List Nat}, selM M' ks = selM M ks → (keepB M ks).map (fun p => (rnG rn p.1, exB rn p.2)) = (keepB M ks).map (fun p => (Rn.to p.1, p.2)) → fitBs rn M' (keepB M ks)
  | [], _, _ => trivial
  | k :: r, h, e => by
    simp only [selM, List.cons.injEq] at h
    unfold keepB at e ⊢
    split
    · rename_i b hb
      rw [hb] at e
      simp only [List.map_cons, List.cons.injEq, Prod.mk.injEq] at e
      refine ⟨?_, fitBs_keep h.2 e.2⟩
      unfold fitB
      rw [e.1.1]
      show leB (M'.get k) (exB rn b)
      rw [e.1.2, h.1, hb]
      exact .inl rfl
    · rename_i hb
      rw [hb] at e
      exact fitBs_keep h.2 e
/-- what a new look at the names must satisfy -/
structure okRn {X : Type} (rn : Rns) (k0 L : Nat) (fr : List SV) (M : Mem) (ks kb : List Nat) (ch : X → List (Nat × SV)) (cm : X → List (Nat × Blk)) (x : X) : Prop where
  idle : rn.all (fun p => Nat.ble k0 p.1) = true
  okf : okF rn (ch x ++ keepL fr ks) = true
  okb : okBs rn (cm x ++ keepB M kb)
  kf : (keepV fr ks).map (exS rn) = keepV fr ks
  km : (keepB M kb).map (fun p => (rnG rn p.1, exB rn p.2)) = (keepB M kb).map (fun p => (Rn.to p.1, p.2))
  inj : okInj rn 0 (headM L M kb cm x) = true
inductive isAt {X : Type} (k0 L : Nat) (fr : List SV) (M : Mem) (ks kb : List Nat) (ch : X → List (Nat × SV)) (cm : X → List (Nat × Blk)) : List SV → Mem → X → Prop where
  | id {fr' : List SV} {M' : Mem} {x : X} (h1 : leF fr' (ch x)) (h2 : keepV fr' ks = keepV fr ks) (h3 : leBs M' (cm x)) (h4 : selM M' kb = selM M kb) : isAt k0 L fr M ks kb ch cm fr' M' x
  | rn {fr' : List SV} {M' : Mem} {x : X} (rn : Rns) (h1 : leFx rn fr' (ch x)) (h2 : keepV fr' ks = keepV fr ks) (h3 : fitBs rn M' (cm x)) (h4 : selM M' kb = selM M kb) (h5 : okRn rn k0 L fr M ks kb ch cm x) : isAt k0 L fr M ks kb ch cm fr' M' x
  | giv {fr' : List SV} {M' : Mem} {x : X} (M2 : Mem) (hg : MLe M' M2) (h : isAt k0 L fr M ks kb ch cm fr' M2 x) : isAt k0 L fr M ks kb ch cm fr' M' x
/-- names taken anew, what computes left to the machine -/
theorem isAt.go {X : Type} {k0 L : Nat} {fr : List SV} {M : Mem} {ks kb : List Nat} {ch : X → List (Nat × SV)} {cm : X → List (Nat × Blk)} {fr' : List SV} {M' : Mem} {x : X} (rn : Rns) (h1 : leFx rn fr' (ch x)) (h3 : fitBs rn M' (cm x))
    (h2 : keepV fr' ks = keepV fr ks := by exact rfl) (h4 : selM M' kb = selM M kb := by exact rfl)
    (h5 : okRn rn k0 L fr M ks kb ch cm x := by exact ⟨rfl, rfl, by repeat' (first | exact trivial | exact rfl | exact fun _ _ => rfl | refine ⟨?_, ?_⟩), rfl, rfl, rfl⟩) : isAt k0 L fr M ks kb ch cm fr' M' x := .rn rn h1 h2 h3 h4 h5
def loopK {X : Type} (inv : X → Prop) (μ : X → Nat) (k0 L : Nat) (fr : List SV) (M : Mem) (ks kb : List Nat) (ch : X → List (Nat × SV)) (cm : X → List (Nat × Blk)) (x : X) (K : Kx) : Kx := fun e fr' M' => match e with
  | .normal => ∃ x', (inv x' ∧ μ x' < μ x) ∧ isAt k0 L fr M ks kb ch cm fr' M' x'
  | e => K e fr' M'
def joinK {X : Type} (inv : X → Prop) (k0 L : Nat) (fr : List SV) (M : Mem) (ks kb : List Nat) (ch : X → List (Nat × SV)) (cm : X → List (Nat × Blk)) (K : Kx) : Kx := fun e fr' M' => match e with
  | .normal => ∃ x', inv x' ∧ isAt k0 L fr M ks kb ch cm fr' M' x'
  | e => K e fr' M'
def headOk {X : Type} (k0 L : Nat) (fr : List SV) (M : Mem) (ks kb : List Nat) (ch : X → List (Nat × SV)) (cm : X → List (Nat × Blk)) (x : X) : Prop :=
  k0 ≤ L ∧ bL L (ch x ++ keepL fr ks) = true ∧ bM L (mkM 0 L (cm x ++ keepB M kb))
theorem isAt.fit {X : Type} {k0 L : Nat} {fr : List SV} {M : Mem} {ks kb : List Nat} {ch : X → List (Nat × SV)} {cm : X → List (Nat × Blk)} {fr' : List SV} {M' : Mem} {x : X} (h : isAt k0 L fr M ks kb ch cm fr' M' x)
    (hs : headOk k0 L fr M ks kb ch cm x) : AFitM k0 fr' M' (ch x ++ keepL fr ks) (headM L M kb cm x) := by
  induction h with
  | @giv _ x M2 hg _ ih => obtain ⟨M3, rn, h1, h2⟩ := ih hs; exact ⟨M3, rn, hg.trans h1, h2⟩
  | @id M' x h1 h2 h3 h4 =>
    obtain ⟨s1, s2, s3⟩ := hs
    have e : (headM L M kb cm x).length = L := mkM_length _ _ _
    refine ⟨M', [], MLe.refl _, AFit.nil (leF_append h1 (leF_keep h2)) (fun n g hg => ?_) (by rw [e]; exact s1) (by rw [e]; exact s2) (by rw [e]; exact s3)⟩
    have := mkM_get _ _ _ _ _ hg
    rw [Nat.zero_add] at this
    exact leBs_lk (leBs_append h3 (leBs_keep h4)) this
  | @rn M' x rn h1 h2 h3 h4 h5 =>
    obtain ⟨s1, s2, s3⟩ := hs
    have e : (headM L M kb cm x).length = L := mkM_length _ _ _
    obtain ⟨t1, t2, t3, t4, t5, t6⟩ := h5
    refine ⟨M', rn, MLe.refl _, ⟨leFx_append h1 (leFx_keep h2 t4), fun n g hg => ?_, by rw [e]; exact s1, by rw [e]; exact s2, by rw [e]; exact s3, t2, fun n g hg => ?_, idle_of t1, okInj_inj t6⟩⟩
    · have := mkM_get _ _ _ _ _ hg
      rw [Nat.zero_add] at this
      exact fitBs_lk (fitBs_append h3 (fitBs_keep h4 t5)) this
    · have := mkM_get _ _ _ _ _ hg
      rw [Nat.zero_add] at this
      exact okBs_lk t3 this
theorem ALoop.goN {k0 : Nat} {body : List SV → Mem → Kx → Prop} {fr : List SV} {M : Mem} {K : Kx} {X : Type} (inv : X → Prop) (μ : X → Nat) (ks kb : List Nat) (ch : X → List (Nat × SV)) (cm : X → List (Nat × Blk)) (x0 : X) (L : Nat)
    (h0 : inv x0) (h1 : isAt k0 L fr M ks kb ch cm fr M x0)
    (hb : ∀ x, inv x → forceF (headF fr ks ch x) fun F => forceM (headM L M kb cm x) fun G => body F G (loopK inv μ k0 L fr M ks kb ch cm x K))
    (hs : ∀ x, headOk k0 L fr M ks kb ch cm x := by exact fun _ => ⟨Nat.le_of_ble_eq_true rfl, rfl, by repeat' (first | exact trivial | exact rfl | exact fun _ _ => rfl | refine ⟨?_, ?_⟩)⟩) : ALoop k0 body fr M K := by
  refine ALoop.mk ⟨X, inv, fr.length, fun x => ch x ++ keepL fr ks, headM L M kb cm, μ, fun x fr' M' => isAt k0 L fr M ks kb ch cm fr' M' x, x0, rfl, h0, fun x fr' M' h => h.fit (hs x), h1, fun x hx => ?_⟩
  have hb' := hb x hx
  rw [forceF_eq, forceM_eq] at hb'
  exact hb'
theorem ALoop.go {k0 : Nat} {body : List SV → Mem → Kx → Prop} {fr : List SV} {M : Mem} {K : Kx} {X : Type} (inv : X → Prop) (μ : X → Nat) (ks kb : List Nat) (ch : X → List (Nat × SV)) (cm : X → List (Nat × Blk)) (x0 : X)
    (h0 : inv x0) (hf : leF fr (ch x0)) (hM : leBs M (cm x0))
    (hb : ∀ x, inv x → forceF (headF fr ks ch x) fun F => forceM (headM M.length M kb cm x) fun G => body F G (loopK inv μ k0 M.length fr M ks kb ch cm x K))
    (hs : ∀ x, headOk k0 M.length fr M ks kb ch cm x := by exact fun _ => ⟨Nat.le_of_ble_eq_true rfl, rfl, by repeat' (first | exact trivial | exact rfl | exact fun _ _ => rfl | refine ⟨?_, ?_⟩)⟩) : ALoop k0 body fr M K :=
  ALoop.goN inv μ ks kb ch cm x0 M.length h0 (.id hf rfl hM rfl) hb hs
theorem AJoin.plain {k0 : Nat} {x y : List SV → Mem → Kx → Prop} {fr : List SV} {M : Mem} {K : Kx} (h : x fr M (seqK K y)) : AJoin k0 x y fr M K := ⟨.inl h⟩
theorem AJoin.cutN {k0 : Nat} {x y : List SV → Mem → Kx → Prop} {fr : List SV} {M : Mem} {K : Kx} {X : Type} (inv : X → Prop) (ks kb : List Nat) (ch : X → List (Nat × SV)) (cm : X → List (Nat × Blk)) (L : Nat)
    (hx : x fr M (joinK inv k0 L fr M ks kb ch cm K))
    (hy : ∀ x, inv x → forceF (headF fr ks ch x) fun F => forceM (headM L M kb cm x) fun G => y F G K)
    (hs : ∀ x, headOk k0 L fr M ks kb ch cm x := by exact fun _ => ⟨Nat.le_of_ble_eq_true rfl, rfl, by repeat' (first | exact trivial | exact rfl | exact fun _ _ => rfl | refine ⟨?_, ?_⟩)⟩) : AJoin k0 x y fr M K := by
  refine AJoin.mk (.inr ⟨X, inv, fr.length, fun x => ch x ++ keepL fr ks, headM L M kb cm, fun x fr' M' => isAt k0 L fr M ks kb ch cm fr' M' x, rfl, fun x fr' M' h => h.fit (hs x), hx, fun x hx => ?_⟩)
  have hb' := hy x hx
  rw [forceF_eq, forceM_eq] at hb'
  exact hb'
theorem AJoin.cut {k0 : Nat} {x y : List SV → Mem → Kx → Prop} {fr : List SV} {M : Mem} {K : Kx} {X : Type} (inv : X → Prop) (ks kb : List Nat) (ch : X → List (Nat × SV)) (cm : X → List (Nat × Blk))
    (hx : x fr M (joinK inv k0 M.length fr M ks kb ch cm K))
    (hy : ∀ x, inv x → forceF (headF fr ks ch x) fun F => forceM (headM M.length M kb cm x) fun G => y F G K)
    (hs : ∀ x, headOk k0 M.length fr M ks kb ch cm x := by exact fun _ => ⟨Nat.le_of_ble_eq_true rfl, rfl, by repeat' (first | exact trivial | exact rfl | exact fun _ _ => rfl | refine ⟨?_, ?_⟩)⟩) : AJoin k0 x y fr M K :=
  AJoin.cutN inv ks kb ch cm M.length hx hy hs
/-- the end, with names taken anew -/
theorem isEnd.go {k0 : Nat} {M : Mem} {l v : SV} {m : Mem} (rn : Rns) (h : l = exS rn v) (hm : fitM rn M 0 m) (ho : okS rn v = true := by exact rfl) (hom : okMm rn m := by repeat' (first | exact trivial | exact rfl | exact fun _ _ => rfl | refine ⟨?_, ?_⟩))
    (hi : rn.all (fun p => Nat.ble k0 p.1) = true := by exact rfl) (hj : okInj rn 0 m = true := by exact rfl) : isEnd k0 M l v m := .rn rn h hm ho hom hi hj

theorem bselD {p : Prop} [Decidable p] {t f : Prop} (ht : p → t) (hf : ¬ p → f) : bsel (decide p) t f := bsel_intro (fun h => ht (of_decide_eq_true h)) fun h => hf (of_decide_eq_false h)
theorem bselE {a b : Int} {t f : Prop} (ht : a = b → t) (hf : a ≠ b → f) : bsel (a == b) t f := bsel_intro (fun h => ht (by simpa using h)) fun h => hf (by simpa using h)
theorem bselN {a b : Int} {t f : Prop} (ht : a ≠ b → t) (hf : a = b → f) : bsel (a != b) t f := bsel_intro (fun h => ht (by simpa using h)) fun h => hf (by simpa using h)
theorem bselNot {b : Bool} {t f : Prop} (h : bsel b f t) : bsel (!b) t f := by cases b <;> exact h
theorem bselT {b : Bool} {t f : Prop} (hb : b = true) (h : t) : bsel b t f := by subst hb; exact h
theorem bselF {b : Bool} {t f : Prop} (hb : b = false) (h : f) : bsel b t f := by subst hb; exact h

theorem wrap64_in {n : Int} (h1 : -9223372036854775808 ≤ n) (h2 : n ≤ 9223372036854775807) : IntKind.i64.wrap n = n := by rw [IntKind.wrap_i64]; omega
theorem wrapU64_in {n : Int} (h1 : 0 ≤ n) (h2 : n ≤ 18446744073709551615) : IntKind.u64.wrap n = n := by rw [IntKind.wrap_u64]; omega
end Go.Sx
namespace Go.Sx

theorem wrap_u64_nat (n : Nat) : IntKind.u64.wrap (n : Int) = ((n % 18446744073709551616 : Nat) : Int) := by
  rw [IntKind.wrap_u64]; omega
theorem ofInt_nat (k n : Nat) : (BitVec.ofInt k (n : Int)).toNat = n % 2 ^ k := by
  simp
theorem or_u64 {a b : Nat} (ha : a < 18446744073709551616) (hb : b < 18446744073709551616) : bitI .or .u64 (a : Int) (b : Int) = ((a ||| b : Nat) : Int) := by
  have h : a ||| b < 2 ^ 64 := Nat.or_lt_two_pow (n := 64) ha hb
  unfold bitI
  simp only [BitVec.toNat_or]
  rw [wrap_u64_nat, ofInt_nat, ofInt_nat]
  have e1 : a % 2 ^ IntKind.u64.bits = a := Nat.mod_eq_of_lt ha
  have e2 : b % 2 ^ IntKind.u64.bits = b := Nat.mod_eq_of_lt hb
  rw [e1, e2, Nat.mod_eq_of_lt h]
theorem xor_u64 {a b : Nat} (ha : a < 18446744073709551616) (hb : b < 18446744073709551616) : bitI .xor .u64 (a : Int) (b : Int) = ((a ^^^ b : Nat) : Int) := by
  have h : a ^^^ b < 2 ^ 64 := Nat.xor_lt_two_pow (n := 64) ha hb
  unfold bitI
  simp only [BitVec.toNat_xor]
  rw [wrap_u64_nat, ofInt_nat, ofInt_nat]
  have e1 : a % 2 ^ IntKind.u64.bits = a := Nat.mod_eq_of_lt ha
  have e2 : b % 2 ^ IntKind.u64.bits = b := Nat.mod_eq_of_lt hb
  rw [e1, e2, Nat.mod_eq_of_lt h]
theorem and_u64 {a b : Nat} (ha : a < 18446744073709551616) (hb : b < 18446744073709551616) : bitI .and .u64 (a : Int) (b : Int) = ((a &&& b : Nat) : Int) := by
  have h : a &&& b < 2 ^ 64 := Nat.lt_of_le_of_lt Nat.and_le_left ha
  unfold bitI
  simp only [BitVec.toNat_and]
  rw [wrap_u64_nat, ofInt_nat, ofInt_nat]
  have e1 : a % 2 ^ IntKind.u64.bits = a := Nat.mod_eq_of_lt ha
  have e2 : b % 2 ^ IntKind.u64.bits = b := Nat.mod_eq_of_lt hb
  rw [e1, e2, Nat.mod_eq_of_lt h]
theorem shl_u64 (a k : Nat) : IntKind.u64.wrap ((a : Int) * 2 ^ k) = ((a * 2 ^ k % 18446744073709551616 : Nat) : Int) := by
  rw [← wrap_u64_nat]; push_cast; rfl
theorem fdiv_nat (a k : Nat) : (a : Int).fdiv (2 ^ k) = ((a / 2 ^ k : Nat) : Int) := by
  rw [Int.fdiv_eq_ediv_of_nonneg _ (Int.pow_nonneg (by omega))]
  push_cast; rfl
theorem or_add {a b k : Nat} (h : a < 2 ^ k) : a ||| b * 2 ^ k = a + b * 2 ^ k := by
  rw [Nat.mul_comm, Nat.or_comm, Nat.add_comm, Nat.two_pow_add_eq_or_of_lt h]
theorem and_mask (a k : Nat) : a &&& (2 ^ k - 1) = a % 2 ^ k := Nat.and_two_pow_sub_one_eq_mod a k
theorem bitI_u64_nat (op : BinOp) (a b : Int) : ∃ n : Nat, n < 18446744073709551616 ∧ bitI op .u64 a b = (n : Int) := by
  unfold bitI
  cases op <;> exact ⟨_, Nat.mod_lt _ (by omega), wrap_u64_nat _⟩
theorem or_zero_u64 (op : BinOp) (a b : Int) : bitI .or .u64 (bitI op .u64 a b) 0 = bitI op .u64 a b := by
  obtain ⟨n, hn, e⟩ := bitI_u64_nat op a b
  rw [e, show (0 : Int) = ((0 : Nat) : Int) from rfl, or_u64 hn (by omega), Nat.or_zero]

/-! ### a slice without elements gets a name, for a call -/
def setC : List C → Nat → C → List C
  | [], _, _ => []
  | _ :: l, 0, c => c :: l
  | x :: l, j + 1, c => x :: setC l j c
def nilAt : List SV → Nat → Nat → C → List SV
  | [], _, _, _ => []
  | .o (.c _) :: r, 0, _, c => .o (.c c) :: r
  | .o (.a l) :: r, 0, j, c => .o (.a (setC l j c)) :: r
  | .t l :: r, 0, _, _ => .t l :: r
  | x :: r, a + 1, j, c => x :: nilAt r a j c
theorem denLS_ex {β : Bet} {rn : Rns} {g : Nat} : ∀ {xs : List Value} {l : List SV}, l.all (okS rn) = true → l.all (bS g) = true → denLS β xs (l.map (exS rn)) → denLS (betR β rn g) xs l
  | [], [], _, _, _ => trivial
  | _ :: _, _ :: _, ho, hb, ⟨h, r⟩ => by
    simp only [List.all_cons, Bool.and_eq_true] at ho hb
    exact ⟨denS_ex ho.1 hb.1 h, denLS_ex ho.2 hb.2 r⟩
  | [], _ :: _, _, _, h => h.elim
  | _ :: _, [], _, _, h => h.elim
theorem acall.nil {P : Program} {g : FuncId} {args args' : List SV} {rd : Mem} {nm : Nat} {K : Kt} (sz : Nat) (k : Bk) (ha : args = args'.map (exS [(nm, .new sz)])) (ho : args'.all (okS [(nm, .new sz)]) = true) (hb : args'.all (bS (nm + 1)) = true)
    (hf : k.fits sz) (hn : k.need = 0) (hnm : rd.get nm = none) (h : acall P g args' (rd.put nm (some ⟨k, true⟩)) (nm + 1) fun v ups => K v ((nm, some ⟨k, true⟩) :: ups)) : acall P g args rd nm K := by
  obtain ⟨v, ups, hc, hK⟩ := h.ex
  refine ⟨⟨v, _, ⟨hc.1, fun W A β M w vals hSt hd hrd hfresh => ?_⟩, hK⟩⟩
  have hβ : β nm = none := (hfresh nm (by simp [Ups.has]) hnm).1
  have hSt1 := hSt.empty (n := nm) hβ (k := k) (sz := sz) hf hn
  have hle : (betR β [(nm, .new sz)] (nm + 1)).le (β.set nm ⟨0, 0, sz, 0⟩) := fun n m hm => by
    unfold betR at hm
    split at hm
    · by_cases e : n = nm
      · subst e
        simp only [rnG, if_true] at hm
        rw [Bet.set_same]; exact hm
      · simp only [rnG] at hm
        rw [if_neg (fun h => e h.symm)] at hm
        simp only [Bet.set, if_neg e]; exact hm
    · cases hm
  rw [ha] at hd
  have hd1 : denLS (β.set nm ⟨0, 0, sz, 0⟩) vals args' := (denLS_ex ho hb hd).mono hle
  refine (hc.2 W A _ _ w vals hSt1 hd1 (fun n b hb => ?_) (fun n hh hn => ?_)).mono fun e w' ⟨v', β', he, h1, h2, h3, h4⟩ => ⟨v', β', he, Bet.le_trans (Bet.set_le hβ) h1, fun n hn hn' => ?_, h3, h4⟩
  · rw [Mem.get_put] at hb ⊢
    split
    · rename_i e; rw [if_pos e] at hb; exact hb
    · rename_i e; rw [if_neg e] at hb; exact hrd n b hb
  · rw [Mem.get_put] at hn
    split at hn
    · cases hn
    · rename_i e
      have := hfresh n (by simp [Ups.has, hh]) hn
      exact ⟨by simp [Bet.set, e, this.1], by rw [Mem.get_put, if_neg e]; exact this.2⟩
  · by_cases e : n = nm
    · simp [Ups.has, e]
    · have := h2 n (by simp [Bet.set, e, hn]) hn'
      simp [Ups.has, this]
theorem acall.nilAt {P : Program} {g : FuncId} {args : List SV} {rd : Mem} {nm : Nat} {K : Kt} (a j sz : Nat) (k : Bk)
    (h : acall P g (nilAt args a j (.s nm 0 0 sz)) (rd.put nm (some ⟨k, true⟩)) (nm + 1) fun v ups => K v ((nm, some ⟨k, true⟩) :: ups))
    (ha : args = (Go.Sx.nilAt args a j (.s nm 0 0 sz)).map (exS [(nm, .new sz)]) := by exact rfl) (ho : (Go.Sx.nilAt args a j (.s nm 0 0 sz)).all (okS [(nm, .new sz)]) = true := by exact rfl) (hb : (Go.Sx.nilAt args a j (.s nm 0 0 sz)).all (bS (nm + 1)) = true := by exact rfl)
    (hf : k.fits sz := by exact .inr ⟨rfl, Nat.le_of_ble_eq_true rfl, fun _ h => absurd h (Nat.not_lt_zero _)⟩) (hn : k.need = 0 := by exact rfl) (hnm : rd.get nm = none := by exact rfl) : acall P g args rd nm K :=
  acall.nil sz k ha ho hb hf hn hnm h

/-! ### blocks that are seen shorter, or otherwise written -/
theorem leB.ints {k : IntKind} {xs ys : List Int} {a b : Bool} (h : ∀ i, i < ys.length → xs.getD i 0 = ys.getD i 0) (hl : ys.length ≤ xs.length) (hw : b = true → a = true) : leB (some ⟨.ints k xs, a⟩) ⟨.ints k ys, b⟩ :=
  .inr ⟨_, rfl, hw, rfl, rfl, rfl, hl, fun i hi => by show [C.v (.int k (xs.getD i 0))] = [C.v (.int k (ys.getD i 0))]; rw [h i hi]⟩
theorem leB.ints_eq {k : IntKind} {xs ys : List Int} {a b : Bool} (h : xs = ys) (hw : b = true → a = true) : leB (some ⟨.ints k xs, a⟩) ⟨.ints k ys, b⟩ := by
  subst h
  exact leB.ints (fun _ _ => rfl) (Nat.le_refl _) hw
theorem leB.take {k : IntKind} {xs : List Int} {a b : Bool} (n : Nat) (hw : b = true → a = true) : leB (some ⟨.ints k xs, a⟩) ⟨.ints k (xs.take n), b⟩ :=
  leB.ints (fun i hi => by rw [List.length_take] at hi; simp [List.getD, List.getElem?_take_of_lt (show i < n by omega)]) (List.length_take_le' n xs) hw
theorem leB.rows {sz n n' : Nat} {r r' : Nat → List C} {a b : Bool} (hn : n' ≤ n) (h : ∀ i, i < n' → r i = r' i) (hw : b = true → a = true) : leB (some ⟨.rows sz n r, a⟩) ⟨.rows sz n' r', b⟩ :=
  .inr ⟨_, rfl, hw, rfl, rfl, rfl, hn, h⟩

/-- a slice that comes in is nil, or empty and not nil, or has elements -/
theorem FC.nil3 {P : Program} {g : FuncId} {m0 m1 : Mem} {v1 : SV} {n off sz : Nat}
    (h1 : n = 0 → FC P g [.o (.c (.v (.slice none 0 0)))] m0 v1 m1) (h2 : n = 0 → ∀ a cap, FC P g [.o (.c (.v (.slice (some a) 0 cap)))] m0 v1 m1)
    (h3 : ∀ k, n = k + 1 → FC P g [.o (.c (.s 0 off (k + 1) sz))] m0 v1 m1) : FC P g [.o (.c (.s 0 off n sz))] m0 v1 m1 := by
  cases n with
  | succ k => exact h3 k rfl
  | zero =>
    have h := h1 rfl
    refine ⟨h.can, h.len, h.bv, h.bm1, fun β w vals t d st hd => ?_⟩
    cases vals with
    | nil => exact hd.elim
    | cons x r =>
      cases r with
      | cons _ _ => exact hd.2.elim
      | nil =>
        obtain ⟨⟨A, cap, m, _, rfl, _, _, _, hA⟩, _⟩ := hd
        cases A with
        | none =>
          have hc : cap = 0 := hA.resolve_right fun h => by cases h.1
          subst hc
          exact h.run β w _ t d st ⟨rfl, trivial⟩
        | some a => exact (h2 rfl a cap).run β w _ t d st ⟨rfl, trivial⟩
theorem leB.empty {k k' : Bk} {a b : Bool} (h1 : k.isBox = false) (h2 : k'.isBox = false) (h3 : k.sz = k'.sz) (h4 : k'.n = 0) (hw : b = true → a = true) : leB (some ⟨k, a⟩) ⟨k', b⟩ :=
  .inr ⟨_, rfl, hw, h1, h2, h3, by simp only; omega, fun i hi => by simp only at hi; omega⟩
end Go.Sx
namespace Go.Sx

/-- a contract's result over names taken anew -/
theorem FC.as {P : Program} {g : FuncId} {args0 : List SV} {m0 : Mem} {v1 v2 : SV} {m1 m2 : Mem} (h : FC P g args0 m0 v1 m1) (rn : Rns) (hv : v1 = exS rn v2) (hm : fitM rn m1 0 m2)
    (hlen : m0.length ≤ m2.length := by exact Nat.le_of_ble_eq_true rfl) (hb : bS m2.length v2 = true := by exact rfl) (hbm : bM m2.length m2 := by repeat' (first | exact trivial | exact rfl | exact fun _ _ => rfl | refine ⟨?_, ?_⟩))
    (ho : okS rn v2 = true := by exact rfl) (hom : okMm rn m2 := by repeat' (first | exact trivial | exact rfl | exact fun _ _ => rfl | refine ⟨?_, ?_⟩))
    (hi : rn.all (fun p => Nat.ble m0.length p.1) = true := by exact rfl) (hj : okInj rn 0 m2 = true := by exact rfl) : FC P g args0 m0 v2 m2 := by
  have a : AFit rn m0.length [] m1 [] m2 := ⟨trivial, fun n g hg => by have := fitM_get (i := 0) hm hg; rwa [Nat.zero_add] at this, hlen, Eq.refl _, hbm, Eq.refl _, fun n g hg => okMm_get hom hg, idle_of hi, okInj_inj hj⟩
  refine ⟨h.can, hlen, hb, hbm, fun β w vals hT hdef hSt hd => ?_⟩
  refine (h.run β w vals hT hdef hSt hd).mono fun e w' ⟨v', β', he, hk, ht, hS, hdv⟩ => ?_
  refine ⟨v', betR β' rn m2.length, he, fun n hn => ?_, betR_top, a.st hS, ?_⟩
  · rw [betR_to (Nat.lt_of_lt_of_le hn hlen) (a.idle n hn)]; exact hk n hn
  · rw [hv] at hdv
    exact denS_ex ho hb hdv
end Go.Sx
namespace Go.Sx

/-- one name's block, seen otherwise -/
theorem MLe.one {M : Mem} {n : Nat} {k k' : Blk} (hM : M.get n = some k) (hw : k'.wr = true → k.wr = true) (hh : ∀ w β m, holds w β m k → holds w β m k') (ho : ∀ w m b, ownB w m k'.k b → ownB w m k.k b) : MLe M (M.put n (some k')) := by
  refine ⟨(Mem.put_length _ _ _).1, fun W A β w hSt => ?_⟩
  refine hSt.change rfl rfl rfl (Nat.le_refl _) (Bet.le_refl β) (· = n) (fun q kq hq hN => ?_) (fun q kq hq hN => ?_) (fun b _ => .inl rfl) (fun q kq m' b hq hN hm' hb => ?_) (fun q q' kq kq' m1 m2 hqq h1 h2 => absurd (h1.trans h2.symm) hqq)
  · rw [Mem.get_put, if_neg hN] at hq; exact hq
  · subst hN
    rw [Mem.get_put, if_pos rfl] at hq
    cases hq
    obtain ⟨m, hm, h⟩ := hSt.names q k hM
    exact ⟨m, hm, hh w β m h⟩
  · subst hN
    rw [Mem.get_put, if_pos rfl] at hq
    cases hq
    exact .inr ⟨q, k, m', hM, hm', ho w m' b hb, .inl ⟨.inl rfl, hw⟩⟩

/-- what may be written is only read from now on -/
theorem MLe.frz {M : Mem} {k : Bk} (n : Nat) (hM : M.get n = some ⟨k, true⟩) : MLe M (M.put n (some ⟨k, false⟩)) :=
  MLe.one hM (fun h => by cases h) (fun _ _ _ h => h.wr fun h => by cases h) fun _ _ _ h => h

/-- rows below a bound are no longer known -/
theorem MLe.fgt {M : Mem} {lo : Nat} {rs : List (List Int)} {ov : Option (Nat × C)} {wr : Bool} (n lo' : Nat) (hM : M.get n = some ⟨.deep lo rs ov, wr⟩) (hlo : lo ≤ lo') (hov : ∀ j c, ov = some (j, c) → j < lo') : MLe M (M.put n (some ⟨.deep lo' rs none, wr⟩)) := by
  have key : ∀ q xs, isOwn lo' rs none q xs → isOwn lo rs ov q xs := fun q xs h => ⟨⟨Nat.le_trans hlo h.1.1, h.1.2⟩, fun c e => by
    have h1 := hov q c e
    have h2 := h.1.1
    omega⟩
  have keyB : ∀ w m q b, rowB w m lo' rs none q b → rowB w m lo rs ov q b := fun w m q b ⟨⟨xs, hx⟩, r⟩ => ⟨⟨xs, key q xs hx⟩, r⟩
  refine MLe.one hM id (fun w β m h => ?_) (fun w m b hb => ?_)
  · refine ⟨.inl rfl, ?_, (fun h => by cases h), fun _ _ he => (by cases he), fun lo2 rs2 ov2 he => ?_⟩
    · exact (h.dth lo rs ov rfl).len
    · cases he
      have hd := h.dth lo rs ov rfl
      exact ⟨hd.sz, hd.len, fun _ _ e => (by cases e), hd.there.imp id fun ⟨c, T, fz, h1, h2, h3, h4, h5⟩ => ⟨c, T, fz, h1, h2, h3, fun q xs hx => h4 q xs (key q xs hx), fun _ _ e => (by cases e)⟩, fun i b hb => ⟨(hd.dist i b (keyB _ _ _ _ hb)).1, fun j hj => (hd.dist i b (keyB _ _ _ _ hb)).2 j (keyB _ _ _ _ hj)⟩⟩
  · rcases hb with hb | ⟨lo2, rs2, ov2, q, e, hb⟩
    · exact .inl hb
    · cases e
      exact .inr ⟨lo, rs, ov, q, rfl, keyB _ _ _ _ hb⟩

/-- a list is given back to its row -/
theorem MLe.give {M : Mem} {lo i len : Nat} {rs : List (List Int)} {xs : List Int} (n nm : Nat) (hM : M.get n = some ⟨.deep lo rs (some (i, .s nm 0 len 1)), true⟩) (hN : M.get nm = some ⟨.ints .i64 xs, true⟩) (hlen : len = xs.length) :
    MLe M ((M.put n (some ⟨.deep lo (rs.set i xs) none, true⟩)).put nm none) := by
  have hne : n ≠ nm := fun e => by rw [e, hN] at hM; cases hM
  refine ⟨Nat.le_trans (Mem.put_length _ _ _).1 (Mem.put_length _ _ _).1, fun W A β w hSt => ?_⟩
  obtain ⟨m, hm, hh⟩ := hSt.names n _ hM
  obtain ⟨mm, hmm, hhn⟩ := hSt.names nm _ hN
  have hd := hh.dth lo rs _ rfl
  have hi := hd.lt i _ rfl
  have hget : ∀ q kq, ((M.put n (some ⟨.deep lo (rs.set i xs) none, true⟩)).put nm none).get q = some kq → (q = n ∧ kq = ⟨.deep lo (rs.set i xs) none, true⟩) ∨ (q ≠ n ∧ q ≠ nm ∧ M.get q = some kq) := by
    intro q kq hq
    simp only [Mem.get_put] at hq
    split at hq
    · cases hq
    · split at hq
      · exact .inl ⟨by assumption, by cases hq; rfl⟩
      · exact .inr ⟨by assumption, by assumption, hq⟩
  have hgone : ((M.put n (some ⟨.deep lo (rs.set i xs) none, true⟩)).put nm none).get nm = none := by
    rw [Mem.get_put, if_pos rfl]
  rcases hd.there with ⟨_, h0⟩ | ⟨c, T, fz, h1, h2, h3, h4, h5⟩
  · rw [h0] at hi; exact absurd hi (Nat.not_lt_zero _)
  have hroom : m.room ≠ 0 := by have := hd.len; omega
  -- the row that comes back
  obtain ⟨y, hy, B, cap, mm', hmm', e1, hsz, hlc, hcm, hA⟩ := h5 i _ rfl
  rw [hmm] at hmm'; cases hmm'
  rw [hsz] at hA
  simp only [Nat.zero_mul, Nat.add_zero, Nat.zero_add, Nat.mul_one] at hA
  have hsep : ∀ b, ownB w m (.deep lo rs (some (i, .s nm 0 len 1))) b → ¬ ownB w mm (.ints .i64 xs) b := fun b hb hb' => hSt.sep n nm _ _ m mm hne hM hN rfl hm hmm b hb hb'
  have hown : ownAt w true y xs := by
    refine ⟨B, cap, by rw [e1, hlen], by omega, hcm, ?_⟩
    by_cases hc : cap = 0
    · exact .inl hc
    · rcases hA with h0 | ⟨rfl, hr⟩
      · exact absurd h0 hc
      · rcases hhn.there rfl with h0 | ⟨c', T', fz', g1, g2, g3, g4⟩
        · omega
        · refine .inr ⟨hc, mm.b, mm.o, c', T', fz', rfl, g1, by omega, g3, fun q hq => ?_⟩
          obtain ⟨y', hy', hd'⟩ := g4 q 0 (.v (.int .i64 (xs.getD q 0))) (by rw [Bk.at_some]; exact ⟨hq, rfl⟩)
          rw [hsz, Nat.mul_one, Nat.add_zero] at hy'
          have : y' = .int .i64 (xs.getD q 0) := hd'
          rw [hy', this]
  have hset : ∀ q zs, isOwn lo (rs.set i xs) none q zs → (q ≠ i ∧ isOwn lo rs (some (i, .s nm 0 len 1)) q zs) ∨ (q = i ∧ zs = xs) := by
    intro q zs ⟨⟨g1, g2⟩, _⟩
    by_cases e : q = i
    · subst e
      rw [List.getElem?_set_self hi] at g2
      exact .inr ⟨rfl, by cases g2; rfl⟩
    · rw [List.getElem?_set_ne (Ne.symm e)] at g2
      exact .inl ⟨e, ⟨g1, g2⟩, fun c' h => by cases h; exact e rfl⟩
  have hrow : ∀ q b, rowB w m lo (rs.set i xs) none q b → (q ≠ i ∧ rowB w m lo rs (some (i, .s nm 0 len 1)) q b) ∨ (q = i ∧ ownB w mm (.ints .i64 xs) b) := by
    intro q b ⟨⟨zs, hz⟩, c', T', fz', oo, len', cap', g1, g2, g3⟩
    rcases hset q zs hz with ⟨e, hz⟩ | ⟨rfl, rfl⟩
    · exact .inl ⟨e, ⟨zs, hz⟩, c', T', fz', oo, len', cap', g1, g2, g3⟩
    · rw [h1] at g1; cases g1
      rw [hy, e1] at g2
      cases g2
      rcases hA with h0 | ⟨e, hr⟩
      · exact absurd h0 g3
      · cases e
        exact .inr ⟨rfl, .inl ⟨by omega, rfl⟩⟩
  refine hSt.change rfl rfl rfl (Nat.le_refl _) (Bet.le_refl β) (· = n) (fun q kq hq hNq => ?_) (fun q kq hq hNq => ?_) (fun b _ => .inl rfl) (fun q kq m' b hq hNq hm' hb => ?_) (fun q q' kq kq' m1 m2 hqq h1 h2 => absurd (h1.trans h2.symm) hqq)
  · rcases hget q kq hq with ⟨e, _⟩ | ⟨_, _, h⟩
    · exact absurd e hNq
    · exact h
  · subst hNq
    rcases hget q kq hq with ⟨_, rfl⟩ | ⟨e, _, _⟩
    · refine ⟨m, hm, .inl rfl, ?_, (fun h => by cases h), fun _ _ he => (by cases he), fun lo2 rs2 ov2 he => ?_⟩
      · show (rs.set i xs).length ≤ m.room
        rw [List.length_set]; exact hd.len
      · cases he
        refine ⟨fun _ => hd.sz (fun e => by rw [e] at hi; exact absurd hi (Nat.not_lt_zero _)), by rw [List.length_set]; exact hd.len, fun _ _ e => (by cases e), .inr ⟨c, T, fz, h1, h2, h3, fun q zs hz => ?_, fun _ _ e => (by cases e)⟩, fun q b hb => ?_⟩
        · rcases hset q zs hz with ⟨_, hz⟩ | ⟨rfl, rfl⟩
          · exact h4 q zs hz
          · exact ⟨y, hy, hown⟩
        · rcases hrow q b hb with ⟨e, hb1⟩ | ⟨e1, hb1⟩
          · refine ⟨(hd.dist q b hb1).1, fun j hj => ?_⟩
            rcases hrow j b hj with ⟨_, hj⟩ | ⟨_, hj⟩
            · exact (hd.dist q b hb1).2 j hj
            · exact absurd hj (hsep b (.inr ⟨_, _, _, q, rfl, hb1⟩))
          · refine ⟨fun e => hsep b (.inl ⟨hroom, e.symm⟩) hb1, fun j hj => ?_⟩
            rcases hrow j b hj with ⟨_, hj⟩ | ⟨e, _⟩
            · exact absurd hb1 (hsep b (.inr ⟨_, _, _, j, rfl, hj⟩))
            · rw [e, e1]
    · exact absurd rfl e
  · subst hNq
    rcases hget q kq hq with ⟨_, rfl⟩ | ⟨e, _, _⟩
    · rw [hm] at hm'; cases hm'
      rcases hb with hb | ⟨lo2, rs2, ov2, j, e, hb⟩
      · exact .inr ⟨q, _, m, hM, hm, .inl hb, .inl ⟨.inl rfl, fun _ => rfl⟩⟩
      · cases e
        rcases hrow j b hb with ⟨_, hb⟩ | ⟨_, hb⟩
        · exact .inr ⟨q, _, m, hM, hm, .inr ⟨_, _, _, j, rfl, hb⟩, .inl ⟨.inl rfl, fun _ => rfl⟩⟩
        · exact .inr ⟨nm, _, mm, hN, hmm, hb, .inl ⟨.inr hgone, fun _ => rfl⟩⟩
    · exact absurd rfl e
end Go.Sx
namespace Go.Sx
open Go.RowKit

def betL (l : List Nm) : Bet := fun n => l[n]?
/-- all names are for reading, and lie there -/
def roM (w : World) (β : Bet) : Mem → List Nm → Prop
  | [], [] => True
  | some k :: m, a :: l => (k.wr = false ∧ holds w β a k) ∧ roM w β m l
  | _, _ => False
theorem roM_length {w : World} {β : Bet} : ∀ {m : Mem} {l : List Nm}, roM w β m l → m.length = l.length
  | [], [], _ => rfl
  | some _ :: _, _ :: _, ⟨_, h⟩ => congrArg (· + 1) (roM_length h)
  | none :: _, _ :: _, h => h.elim
  | [], _ :: _, h => h.elim
  | some _ :: _, [], h => h.elim
  | none :: _, [], h => h.elim
theorem roM_get {w : World} {β : Bet} : ∀ {m : Mem} {l : List Nm} (n : Nat) (k : Blk), roM w β m l → m.get n = some k → k.wr = false ∧ ∃ a, l[n]? = some a ∧ holds w β a k
  | some k' :: m, a :: l, 0, k, ⟨h, _⟩, e => by simp only [Mem.get, Option.some.injEq] at e; subst e; exact ⟨h.1, a, rfl, h.2⟩
  | some k' :: m, a :: l, n + 1, k, ⟨_, h⟩, e => by simpa using roM_get (m := m) (l := l) n k h e
  | none :: _, _ :: _, _, _, h, _ => h.elim
  | [], _, _, _, _, e => by cases e
  | some _ :: _, [], _, _, h, _ => h.elim
  | none :: _, [], _, _, h, _ => h.elim

/-- THE LAW's CALL -/
theorem law_calls {P : Program} {g : FuncId} {args0 : List SV} {m0 m1 : Mem} (h : FC P g args0 m0 (boo true) m1) (l : List Nm) (w : World) (vals : List Value) (hm : roM w (betL l) m0 l) (hd : denLS (betL l) vals args0) :
    Calls P g vals.toArray w fun e w' => e = .returned (.bool true) ∧ Below w.heap.size w w' := by
  have hlen := roM_length hm
  have hno : ∀ b, ¬ wrA w (betL l) m0 b := fun b ⟨n, k, m, hk, hwr, _⟩ => by
    have := (roM_get n k hm hk).1
    rw [this] at hwr; cases hwr
  have hSt : St w (wrA w (betL l) m0) (betL l) m0 w := by
    refine ⟨rfl, rfl, rfl, Nat.le_refl _, fun _ _ _ => rfl, fun n k hk => ?_, fun n n' k k' m m' _ hk _ hwr => ?_, fun n k m hk hwr => ?_⟩
    · obtain ⟨_, a, ha, hh⟩ := roM_get n k hm hk
      exact ⟨a, ha, hh⟩
    · have := (roM_get n k hm hk).1
      rw [this] at hwr; cases hwr
    · have := (roM_get n k hm hk).1
      rw [this] at hwr; cases hwr
  refine (h.run (betL l) w vals (fun n hn => ?_) (fun n hn => ?_) hSt hd).mono fun e w' ⟨v', β', he, _, _, hS, hv⟩ => ?_
  · unfold betL; exact List.getElem?_eq_none (by omega)
  · unfold betL; rw [List.getElem?_eq_getElem (by omega)]; exact Option.some_ne_none _
  · have : v' = .bool true := hv
    subst this
    exact ⟨he, hS.os, hS.tape, hS.output, hS.size, fun k hk => hS.frame k hk (hno k)⟩

/-- a slice of numbers that came in -/
def IsRowI (k : IntKind) (w : World) (a : Option Addr) (len cap : Nat) (zs : List Int) : Prop :=
  (a = none ∧ len = 0 ∧ cap = 0 ∧ zs = []) ∨
  ∃ x, a = some x ∧ len ≤ cap ∧ cap ≤ maxLen ∧ zs.length = cap ∧ (∀ i, i < zs.length → w.cell? (x.add i) = some (.int k (zs.getD i 0))) ∧ ∀ n ∈ zs, (Lit.int k n).wf = true

theorem cell_in {w : World} {x : Addr} {v : Value} (h : w.cell? x = some v) : ∃ c T fz, w.heap[x.block]? = some (.cells c T fz) ∧ c[x.off]? = some v := by
  unfold World.cell? at h
  split at h
  · rename_i c T fz hb
    split at h
    · cases h
    · exact ⟨c, T, fz, hb, h⟩
  · cases h

/-- it has a name: what is read of it are its elements -/
theorem ints_name {k : IntKind} {w : World} {a : Option Addr} {len cap : Nat} {zs : List Int} (h : IsRowI k w a len cap zs) :
    ∃ m : Nm, ∀ β : Bet, holds w β m ⟨.ints k (zs.take len), false⟩ ∧ ∀ n, β n = some m → denC β (.slice a len cap) (.s n 0 (zs.take len).length 1) := by
  have dull : ∀ (a : Option Addr) (len cap : Nat), len = 0 → cap = 0 → ∃ m : Nm, ∀ β : Bet, holds w β m ⟨.ints k ([] : List Int), false⟩ ∧ ∀ n, β n = some m → denC β (.slice a len cap) (.s n 0 0 1) := by
    intro a len cap hl hc
    subst hl; subst hc
    exact ⟨⟨0, 0, 1, 0⟩, fun β => ⟨⟨.inr ⟨rfl, Nat.one_pos, fun i hi => rfl⟩, Nat.le_refl _, fun _ => .inl rfl, fun _ _ he => (by cases he), fun _ _ _ he => (by cases he)⟩, fun n hn => ⟨a, 0, _, hn, rfl, rfl, Nat.le_refl _, Nat.zero_le _, .inl rfl⟩⟩⟩
  rcases h with ⟨rfl, rfl, rfl, rfl⟩ | ⟨x, rfl, hl, hm, hz, hcell, _⟩
  · exact dull _ _ _ rfl rfl
  · by_cases h0 : cap = 0
    · subst h0
      obtain rfl : len = 0 := by omega
      obtain rfl : zs = [] := List.eq_nil_of_length_eq_zero hz
      exact dull _ _ _ rfl rfl
    · have hc0 := hcell 0 (by omega)
      have hs : x.spot = none := by simpa [Addr.add] using World.cell?_spot hc0
      obtain ⟨b, off, spot⟩ := x
      simp only at hs
      subst hs
      have hcell' : ∀ i, i < cap → w.cell? ⟨b, off + i, none⟩ = some (.int k (zs.getD i 0)) := by
        intro i hi
        have := hcell i (by omega)
        by_cases hi0 : i = 0
        · subst hi0; simpa [Addr.add] using this
        · simpa [Addr.add, hi0] using this
      obtain ⟨c, T, fz, hb, _⟩ := cell_in (hcell' 0 (by omega))
      have hin : ∀ i, i < cap → c[off + i]? = some (.int k (zs.getD i 0)) := by
        intro i hi
        obtain ⟨c', T', fz', hb', hv⟩ := cell_in (hcell' i hi)
        simp only at hb hb' hv
        rw [hb] at hb'; cases hb'
        exact hv
      have hlen : (zs.take len).length = len := by simp; omega
      refine ⟨⟨b, off, 1, cap⟩, fun β => ⟨⟨.inr ⟨rfl, Nat.one_pos, fun i hi => rfl⟩, ?_, fun _ => .inr ⟨c, T, fz, hb, ?_, (by intro h; cases h), ?_⟩, fun _ _ he => (by cases he), fun _ _ _ he => (by cases he)⟩, fun n hn => ?_⟩⟩
      · show (zs.take len).length * 1 ≤ cap
        omega
      · have := hin (cap - 1) (by omega)
        have : off + (cap - 1) < c.size := by
          rcases Nat.lt_or_ge (off + (cap - 1)) c.size with h | h
          · exact h
          · rw [Array.getElem?_eq_none h] at this; cases this
        show off + cap ≤ c.size
        omega
      · intro i j x hx
        rw [Bk.at_some] at hx
        obtain ⟨hi, hj⟩ := hx
        replace hi : i < (zs.take len).length := hi
        replace hj : [C.v (.int k ((zs.take len).getD i 0))][j]? = some x := hj
        obtain rfl : j = 0 := by
          cases j with
          | zero => rfl
          | succ j => simp at hj
        simp only [List.getElem?_cons_zero, Option.some.injEq] at hj
        subst hj
        refine ⟨_, show c[off + i * 1 + 0]? = _ by rw [Nat.mul_one, Nat.add_zero]; exact hin i (by omega), ?_⟩
        show Value.int k (zs.getD i 0) = Value.int k ((zs.take len).getD i 0)
        rw [List.getD, List.getD, List.getElem?_take_of_lt (by omega)]
      · rw [hlen]
        exact ⟨_, cap, _, hn, rfl, rfl, hl, hm, .inr ⟨by simp, by simp⟩⟩
end Go.Sx
namespace Go.Sx

inductive FK where
  | i (k : IntKind)
  | b
inductive Sh where
  | c (k : FK)
  | s (ks : List FK)

def fkOk : FK → Value → Prop
  | .i k, v => ∃ n, v = .int k n ∧ k.min ≤ n ∧ n ≤ k.max
  | .b, v => ∃ b, v = .bool b
def fksOk : List FK → List Value → Prop
  | [], vs => vs = []
  | k :: r, vs => ∃ v vs', vs = v :: vs' ∧ fkOk k v ∧ fksOk r vs'
theorem fksOk_len : ∀ {ks : List FK} {vs : List Value}, fksOk ks vs → vs.length = ks.length
  | [], vs, h => by have e : vs = [] := h; subst e; rfl
  | _ :: r, _, ⟨_, vs', e, _, h⟩ => by rw [e, List.length_cons, List.length_cons, fksOk_len h]
def IsRowsF (ks : List FK) (w : World) (a : Option Addr) (len cap : Nat) (rs : List (List Value)) : Prop :=
  (a = none ∧ len = 0 ∧ cap = 0 ∧ rs = []) ∨
  ∃ x, a = some x ∧ len ≤ cap ∧ cap ≤ maxLen ∧ rs.length = cap ∧ ∀ i r, rs[i]? = some r → fksOk ks r ∧ ∀ j v, r[j]? = some v → w.cell? (x.add (i * ks.length + j)) = some v
def shOk (w : World) : Sh → Value → Prop
  | .c k, v => fkOk k v
  | .s ks, v => ∃ a len cap rs, v = .slice a len cap ∧ IsRowsF ks w a len cap rs
def shsOk (w : World) : List Sh → List Value → Prop
  | [], vs => vs = []
  | k :: r, vs => ∃ v vs', vs = v :: vs' ∧ shOk w k v ∧ shsOk w r vs'
theorem shsOk_len {w : World} : ∀ {ks : List Sh} {vs : List Value}, shsOk w ks vs → vs.length = ks.length
  | [], vs, h => by have e : vs = [] := h; subst e; rfl
  | _ :: r, _, ⟨_, vs', e, _, h⟩ => by rw [e, List.length_cons, List.length_cons, shsOk_len h]
theorem shsOk_app {w : World} : ∀ {ks ls : List Sh} {vs us : List Value}, shsOk w ks vs → shsOk w ls us → shsOk w (ks ++ ls) (vs ++ us)
  | [], _, _, _, h, k => by rw [show _ = [] from h]; exact k
  | _ :: _, _, _, _, ⟨v, vs', e, h1, h2⟩, k => ⟨v, vs' ++ _, by rw [e]; rfl, h1, shsOk_app h2 k⟩

def flatOf : List Sh → Option (List FK)
  | [] => some []
  | .c k :: r => (match flatOf r with | some l => some (k :: l) | none => none)
  | .s _ :: _ => none
theorem flatOf_ok {w : World} : ∀ {l : List Sh} {ks : List FK} {vs : List Value}, flatOf l = some ks → shsOk w l vs → fksOk ks vs
  | [], ks, vs, h, k => by simp [flatOf] at h; subst h; exact k
  | .c k :: r, ks, vs, h, ⟨v, vs', e, h1, h2⟩ => by
    unfold flatOf at h
    split at h
    · rename_i l hl
      simp only [Option.some.injEq] at h
      subst h
      exact ⟨v, vs', e, h1, flatOf_ok hl h2⟩
    · cases h
  | .s _ :: _, _, _, h, _ => by simp [flatOf] at h
def rep (n : Nat) (l : List Sh) : List Sh := match n with | 0 => [] | n + 1 => l ++ rep n l
theorem rep_length (l : List Sh) : ∀ n, (rep n l).length = n * l.length
  | 0 => by simp [rep]
  | n + 1 => by rw [rep, List.length_append, rep_length l n, Nat.succ_mul, Nat.add_comm]
def shFs (f : TypeId → Option (List Sh)) (P : Program) : List Field → Nat → Option (List Sh)
  | [], _ => some []
  | fd :: r, off => if fd.offset = off then (match f fd.type with
    | some l => if l.length = P.cellsOf fd.type then (match shFs f P r (off + l.length) with
      | some m => some (l ++ m)
      | none => none) else none
    | none => none) else none
def shT (P : Program) : Nat → TypeId → Option (List Sh)
  | 0, _ => none
  | d + 1, t => match P.underlying t with
    | some .bool => some [.c .b]
    | some (.int k) => some [.c (.i k)]
    | some (.slice e) => (match shT P d e with
      | some l => (match flatOf l with
        | some ks => if ks.length = P.cellsOf e then some [.s ks] else none
        | none => none)
      | none => none)
    | some (.struct fs) => (match shFs (shT P d) P fs.toList 0 with
      | some l => if l.length = P.cellsOf t then some l else none
      | none => none)
    | some (.array n e) => (match shT P d e with
      | some l => if l.length = P.cellsOf e ∧ n * l.length = P.cellsOf t then some (rep n l) else none
      | none => none)
    | _ => none

theorem flatOf_length : ∀ {l : List Sh} {ks : List FK}, flatOf l = some ks → ks.length = l.length
  | [], ks, h => by simp [flatOf] at h; subst h; rfl
  | .c k :: r, ks, h => by
    unfold flatOf at h
    split at h
    · rename_i l hl
      simp only [Option.some.injEq] at h
      subst h
      rw [List.length_cons, List.length_cons, flatOf_length hl]
    · cases h
  | .s _ :: _, _, h => by simp [flatOf] at h

theorem Addr.add_two (a : Addr) (n m : Nat) : (a.add n).add m = a.add (n + m) := by
  unfold Addr.add
  by_cases hn : n = 0
  · subst hn; simp
  · by_cases hm : m = 0
    · subst hm; simp [hn]
    · simp [hn, hm, Nat.add_assoc]

section
variable {H : Type} {enc : TypeId × Value → H} {P : Program} {w : World} {base : Nat} {held : Bool}
theorem cells_get {a : Addr} {n : Nat} {cs : List Value} (h : w.cells? base a n = some cs) : cs.length = n ∧ ∀ j v, cs[j]? = some v → w.cell? (a.add j) = some v := by
  unfold World.cells? at h
  split at h
  · have hl := mapM_some_length h
    simp at hl
    refine ⟨hl, fun j v hj => ?_⟩
    have hlt : j < n := by have := (List.getElem?_eq_some_iff.1 hj).1; omega
    have := mapM_some_get h j j (by simp [hlt])
    rw [this]; exact hj
  · cases h
theorem sh_struct {f : TypeId → Option (List Sh)} {cs : List Value} (hf : ∀ t l off, f t = some l → l.length = P.cellsOf t → (∃ x fuel, DataW.trod enc P w base (fun _ => true) held fuel t ((cs.drop off).take (P.cellsOf t)) = some x) → shsOk w l ((cs.drop off).take (P.cellsOf t))) :
    ∀ (fs : List Field) (off : Nat) (l : List Sh), (∀ fd ∈ fs, ∃ x fuel, DataW.trod enc P w base (fun _ => true) held fuel fd.type ((cs.drop fd.offset).take (P.cellsOf fd.type)) = some x) → shFs f P fs off = some l → shsOk w l ((cs.drop off).take l.length)
  | [], off, l, _, h => by simp [shFs] at h; subst h; simp [shsOk]
  | fd :: r, off, l, hx, h => by
    unfold shFs at h
    split at h
    · rename_i ho
      subst ho
      split at h
      · rename_i l1 h1
        split at h
        · rename_i hl1
          split at h
          · rename_i m hm
            simp only [Option.some.injEq] at h
            subst h
            have a1 := hf fd.type l1 fd.offset h1 hl1 (hx fd (by simp))
            have a2 := sh_struct hf r _ m (fun fd' hfd => hx fd' (by simp [hfd])) hm
            rw [← hl1] at a1
            rw [List.length_append, List.take_add, List.drop_drop]
            exact shsOk_app a1 a2
          · cases h
        · cases h
      · cases h
    · cases h
theorem sh_array {l : List Sh} {sz : Nat} {cs : List Value} (hl : l.length = sz) : ∀ (n k : Nat), (∀ i, i < n → shsOk w l ((cs.drop ((k + i) * sz)).take sz)) → shsOk w (rep n l) ((cs.drop (k * sz)).take (n * sz))
  | 0, k, _ => by simp [rep, shsOk]
  | n + 1, k, h => by
    have a1 := h 0 (by omega)
    have a2 := sh_array hl n (k + 1) fun i hi => by have := h (i + 1) (by omega); rwa [show k + (i + 1) = k + 1 + i by omega] at this
    rw [rep, Nat.succ_mul, Nat.add_comm, List.take_add, List.drop_drop]
    rw [Nat.add_zero] at a1
    rw [show (k + 1) * sz = k * sz + sz by rw [Nat.succ_mul]] at a2
    exact shsOk_app a1 a2
theorem sh_open : ∀ (d fuel : Nat) (t : TypeId) (cs : List Value) (x : DataW H × List MemPlace) (l : List Sh), DataW.trod enc P w base (fun _ => true) held fuel t cs = some x → shT P d t = some l → shsOk w l cs := by
  intro d
  induction d with
  | zero => intro fuel t cs x l _ h; simp [shT] at h
  | succ d ih =>
    intro fuel t cs x l h hs
    unfold shT at hs
    split at hs
    · rename_i hu
      simp only [Option.some.injEq] at hs; subst hs
      obtain ⟨b, rfl, _⟩ := DataW.trod_bool hu h
      exact ⟨_, [], rfl, ⟨b, rfl⟩, rfl⟩
    · rename_i k hu
      simp only [Option.some.injEq] at hs; subst hs
      obtain ⟨n, rfl, _, hw⟩ := DataW.trod_int hu h
      simp only [Lit.wf, Bool.and_eq_true, decide_eq_true_eq] at hw
      exact ⟨_, [], rfl, ⟨n, rfl, hw.1, hw.2⟩, rfl⟩
    · rename_i e hu
      split at hs
      · rename_i l1 h1
        split at hs
        · rename_i ks hks
          split at hs
          · rename_i hlen
            simp only [Option.some.injEq] at hs; subst hs
            rcases DataW.trod_slice hu h with ⟨rfl, _⟩ | ⟨a, len, cap, elems, rest, m, _, rfl, _, hb, hle, hmax, hel, he, hr, _⟩
            · exact ⟨_, [], rfl, ⟨none, 0, 0, [], rfl, .inl ⟨rfl, rfl, rfl, rfl⟩⟩, rfl⟩
            · obtain ⟨hrl, hr⟩ := hr rfl
              have each : ∀ i, i < cap → ∃ c y, w.cells? base (a.add (i * P.cellsOf e)) (P.cellsOf e) = some c ∧ DataW.trod enc P w base (fun _ => true) held m e c = some y := by
                intro i hi
                by_cases hil : i < len
                · have hh := he i hil
                  rw [List.getElem?_eq_getElem (by omega)] at hh
                  rw [Option.bind_eq_some_iff] at hh
                  obtain ⟨c, h1, h2⟩ := hh
                  exact ⟨c, _, h1, h2⟩
                · have hh := hr (i - len) (by omega)
                  rw [show len + (i - len) = i by omega, List.getElem?_eq_getElem (by omega)] at hh
                  rw [Option.bind_eq_some_iff] at hh
                  obtain ⟨c, h1, h2⟩ := hh
                  exact ⟨c, _, h1, h2⟩
              refine ⟨_, [], rfl, ⟨some a, len, cap, (List.range cap).map fun i => (w.cells? base (a.add (i * P.cellsOf e)) (P.cellsOf e)).getD [], rfl, .inr ⟨a, rfl, hle, hmax, by simp, fun i r hi => ?_⟩⟩, rfl⟩
              have hic : i < cap := by have := (List.getElem?_eq_some_iff.1 hi).1; simpa using this
              obtain ⟨c, y, hc, hy⟩ := each i hic
              have : r = c := by
                rw [List.getElem?_map, List.getElem?_range hic] at hi
                simp only [Option.map_some, hc, Option.getD_some, Option.some.injEq] at hi
                exact hi.symm
              subst this
              refine ⟨flatOf_ok (w := w) hks (ih m e r y l1 hy h1), fun j v hj => ?_⟩
              have := (cells_get hc).2 j v hj
              rw [Addr.add_two] at this
              rw [hlen]; exact this
          · cases hs
        · cases hs
      · cases hs
    · rename_i fs hu
      split at hs
      · rename_i l1 h1
        split at hs
        · rename_i hlen
          simp only [Option.some.injEq] at hs; subst hs
          obtain ⟨xs, m, _, _, hcl, hxl, hx⟩ := DataW.trod_struct hu h
          have := sh_struct (enc := enc) (P := P) (w := w) (base := base) (held := held) (f := shT P d) (cs := cs) (fun t l off ht hl ⟨x, fuel, hx⟩ => ih fuel t _ x l hx ht) fs.toList 0 l1 (fun fd hfd => by
            obtain ⟨i, hi⟩ := List.getElem?_of_mem hfd
            have hi' : fs[i]? = some fd := by simpa using hi
            have hlt : i < xs.length := by rw [hxl]; have := (Array.getElem?_eq_some_iff.1 hi').1; exact this
            exact ⟨xs[i], m, by rw [hx i fd hi', List.getElem?_eq_getElem hlt]⟩) h1
          rw [List.drop_zero, hlen, ← hcl, List.take_length] at this
          exact this
        · cases hs
      · cases hs
    · rename_i n e hu
      split at hs
      · rename_i l1 h1
        split at hs
        · rename_i hlen
          simp only [Option.some.injEq] at hs; subst hs
          obtain ⟨xs, m, _, _, hcl, hxl, hx⟩ := DataW.trod_array hu h
          have := sh_array (w := w) (cs := cs) hlen.1 n 0 fun i hi => by
            rw [Nat.zero_add]
            have hh := hx i hi
            rw [List.getElem?_eq_getElem (by omega)] at hh
            exact ih m e _ _ l1 hh h1
          rw [Nat.zero_mul, List.drop_zero, ← hlen.1, hlen.2, ← hcl, List.take_length] at this
          exact this
        · cases hs
      · cases hs
    · cases hs
theorem open_agg {r : Reach} {b0 : Nat} {t : TypeId} {v : Value} {d : DataW H} {ps : List MemPlace} {l : List Sh} (hs : shT P 8 t = some l) (ha : isAggT P t = true) (hval : Value.okWide P w r b0 t v) (hd : DataW.Trod enc P w base (fun _ => true) held t v d ps) :
    ∃ vs : List Value, v = .agg vs.toArray ∧ shsOk w l vs := by
  obtain ⟨cs, rfl⟩ : ∃ cs, v = .agg cs := by
    unfold isAggT at ha
    unfold Value.okWide at hval
    split at ha
    · rename_i hu; rw [hu] at hval; obtain ⟨cs, e, _⟩ := hval; exact ⟨cs, e⟩
    · rename_i hu; rw [hu] at hval; obtain ⟨cs, e, _⟩ := hval; exact ⟨cs, e⟩
    · cases ha
  obtain ⟨fuel, hf⟩ := hd
  exact ⟨cs.toList, by simp, sh_open 8 fuel t _ _ l (by simpa [Value.cells] using hf) hs⟩
theorem open_rows {r : Reach} {b0 : Nat} {t e : TypeId} {v : Value} {d : DataW H} {ps : List MemPlace} {ks : List FK} (hs : shT P 8 t = some [.s ks]) (hu : P.underlying t = some (.slice e)) (hval : Value.okWide P w r b0 t v) (hd : DataW.Trod enc P w base (fun _ => true) held t v d ps) :
    ∃ a len cap rs, v = .slice a len cap ∧ IsRowsF ks w a len cap rs := by
  obtain ⟨a, len, cap, rfl⟩ := Go.WideShapes.okWide_slice hu hval
  obtain ⟨fuel, hf⟩ := hd
  obtain ⟨_, _, e1, ⟨a', len', cap', rs, e2, h⟩, _⟩ := sh_open 8 fuel t _ _ _ hf hs
  simp [Value.cells] at e1
  rw [← e1.1] at e2
  exact ⟨a', len', cap', rs, e2, h⟩
end

/-- the rows that came in have a name -/
theorem rows_name {α : Type} {ks : List FK} (hpos : 0 < ks.length) (E : α → List C) (Q : α → Prop) (d : α) (hE : ∀ r, fksOk ks r → ∃ a, r.map C.v = E a ∧ Q a) {w : World} {a : Option Addr} {len cap : Nat} {rs : List (List Value)} (h : IsRowsF ks w a len cap rs) :
    ∃ (xs : List α) (m : Nm), xs.length = len ∧ (∀ x ∈ xs, Q x) ∧ ∀ β : Bet, holds w β m ⟨.rows ks.length xs.length (fun i => E (xs.getD i d)), false⟩ ∧ ∀ n, β n = some m → denC β (.slice a len cap) (.s n 0 xs.length ks.length) := by
  have dull : ∀ (a : Option Addr), ∃ (xs : List α) (m : Nm), xs.length = 0 ∧ (∀ x ∈ xs, Q x) ∧ ∀ β : Bet, holds w β m ⟨.rows ks.length xs.length (fun i => E (xs.getD i d)), false⟩ ∧ ∀ n, β n = some m → denC β (.slice a 0 0) (.s n 0 xs.length ks.length) := by
    intro a
    exact ⟨[], ⟨0, 0, ks.length, 0⟩, rfl, by simp, fun β => ⟨⟨.inr ⟨rfl, hpos, fun i hi => absurd hi (Nat.not_lt_zero _)⟩, by simp [Bk.need, Bk.n], fun _ => .inl rfl, fun _ _ he => (by cases he), fun _ _ _ he => (by cases he)⟩, fun n hn => ⟨a, 0, _, hn, rfl, rfl, Nat.le_refl _, Nat.zero_le _, .inl rfl⟩⟩⟩
  rcases h with ⟨rfl, rfl, rfl, rfl⟩ | ⟨x, rfl, hl, hm, hz, hrow⟩
  · exact dull _
  · by_cases h0 : cap = 0
    · subst h0
      obtain rfl : len = 0 := by omega
      exact dull _
    · have typed : ∀ rs' : List (List Value), (∀ r ∈ rs', fksOk ks r) → ∃ xs : List α, xs.length = rs'.length ∧ (∀ x ∈ xs, Q x) ∧ ∀ i r, rs'[i]? = some r → r.map C.v = E (xs.getD i d) := by
        intro rs'
        induction rs' with
        | nil => intro _; exact ⟨[], rfl, by simp, by simp⟩
        | cons r rs' ih =>
          intro hr
          obtain ⟨xs, h1, h2, h3⟩ := ih fun r' hr' => hr r' (by simp [hr'])
          obtain ⟨y, hy, hQ⟩ := hE r (hr r (by simp))
          refine ⟨y :: xs, by simp [h1], by simpa using ⟨hQ, h2⟩, fun i r' hi => ?_⟩
          cases i with
          | zero => simp at hi; subst hi; simpa using hy
          | succ i => have := h3 i r' (by simpa using hi); simpa using this
      have hok : ∀ r ∈ rs, fksOk ks r := fun r hr => by obtain ⟨i, hi⟩ := List.getElem?_of_mem hr; exact (hrow i r hi).1
      obtain ⟨xs, hxl, hQ, hx⟩ := typed (rs.take len) fun r hr => hok r (List.mem_of_mem_take hr)
      have hxl' : xs.length = len := by rw [hxl, List.length_take]; omega
      obtain ⟨r0, hr0⟩ : ∃ r, rs[0]? = some r := ⟨rs[0], List.getElem?_eq_getElem (by omega)⟩
      have hl0 : r0.length = ks.length := fksOk_len (hrow 0 r0 hr0).1
      have hc0 := (hrow 0 r0 hr0).2 0 r0[0] (List.getElem?_eq_getElem (by omega))
      have hs : x.spot = none := by simpa [Addr.add] using World.cell?_spot hc0
      obtain ⟨b, off, spot⟩ := x
      simp only at hs
      subst hs
      have cellAt : ∀ i r j v, rs[i]? = some r → r[j]? = some v → w.cell? ⟨b, off + (i * ks.length + j), none⟩ = some v := by
        intro i r j v hi hj
        have := (hrow i r hi).2 j v hj
        by_cases h0 : i * ks.length + j = 0
        · rw [h0] at this ⊢; simpa [Addr.add] using this
        · unfold Addr.add at this; rw [if_neg h0] at this; exact this
      obtain ⟨c, T, fz, hb, _⟩ := cell_in (by simpa [Addr.add] using hc0)
      have hin : ∀ i r j v, rs[i]? = some r → r[j]? = some v → c[off + (i * ks.length + j)]? = some v := by
        intro i r j v hi hj
        obtain ⟨c', T', fz', hb', hc'⟩ := cell_in (cellAt i r j v hi hj)
        simp only at hb'
        rw [hb] at hb'
        simp only [Option.some.injEq, Obj.cells.injEq] at hb'
        obtain ⟨rfl, _, _⟩ := hb'
        exact hc'
      refine ⟨xs, ⟨b, off, ks.length, cap * ks.length⟩, hxl', hQ, fun β => ⟨⟨.inr ⟨rfl, hpos, fun i hi => ?_⟩, ?_, fun _ => .inr ⟨c, T, fz, hb, ?_, (fun h => by cases h), fun i j y hy => ?_⟩, fun _ _ he => (by cases he), fun _ _ _ he => (by cases he)⟩, fun n hn => ?_⟩⟩
      · simp only [Bk.row, Bk.sz]
        have hi' : i < len := by simpa [Bk.n, hxl'] using hi
        have hri : (rs.take len)[i]? = some rs[i] := by rw [List.getElem?_take_of_lt hi', List.getElem?_eq_getElem (by omega)]
        rw [← hx i _ hri, List.length_map]
        exact fksOk_len (hrow i _ (List.getElem?_eq_getElem (by omega))).1
      · simp only [Bk.need, Bk.n, Bk.sz, hxl']
        exact Nat.mul_le_mul_right _ hl
      · -- the last cell is there
        have hlast : rs[cap - 1]? = some rs[cap - 1] := List.getElem?_eq_getElem (by omega)
        have hll : (rs[cap - 1]).length = ks.length := fksOk_len (hrow _ _ hlast).1
        have := hin (cap - 1) _ (ks.length - 1) _ hlast (List.getElem?_eq_getElem (by omega))
        have hlt := (Array.getElem?_eq_some_iff.1 this).1
        have e : (cap - 1) * ks.length + (ks.length - 1) + 1 = cap * ks.length := by
          have : cap * ks.length = (cap - 1) * ks.length + ks.length := by
            conv => lhs; rw [show cap = (cap - 1) + 1 by omega, Nat.succ_mul]
          omega
        simp only
        omega
      · rw [Bk.at_some] at hy
        obtain ⟨hi, hj⟩ := hy
        have hi' : i < len := by simpa [Bk.n, hxl'] using hi
        have hri : (rs.take len)[i]? = some rs[i] := by rw [List.getElem?_take_of_lt hi', List.getElem?_eq_getElem (by omega)]
        simp only [Bk.row] at hj
        rw [← hx i _ hri, List.getElem?_map, Option.map_eq_some_iff] at hj
        obtain ⟨v, hv, rfl⟩ := hj
        exact ⟨v, by simp only; rw [Nat.add_assoc]; exact hin i _ j v (List.getElem?_eq_getElem (by omega)) hv, rfl⟩
      · refine ⟨some ⟨b, off, none⟩, cap, _, hn, by rw [hxl'], rfl, by omega, hm, .inr ⟨?_, ?_⟩⟩
        · simp
        · simp
/-- a slice of numbers -/
theorem IsRowsF.ints {k : IntKind} {w : World} {a : Option Addr} {len cap : Nat} {rs : List (List Value)} (h : IsRowsF [.i k] w a len cap rs) : ∃ zs : List Int, IsRowI k w a len cap zs := by
  rcases h with ⟨rfl, rfl, rfl, rfl⟩ | ⟨x, rfl, hl, hm, hz, hrow⟩
  · exact ⟨[], .inl ⟨rfl, rfl, rfl, rfl⟩⟩
  · refine ⟨rs.map fun r => match r with | [.int _ n] => n | _ => 0, .inr ⟨x, rfl, hl, hm, by simpa using hz, fun i hi => ?_, fun n hn => ?_⟩⟩
    · have hi' : i < rs.length := by simpa using hi
      obtain ⟨h1, h2⟩ := hrow i rs[i] (List.getElem?_eq_getElem hi')
      obtain ⟨v, vs', e, ⟨n, rfl, _⟩, e2⟩ := h1
      have e2' : vs' = [] := e2
      subst e2'
      have := h2 0 (.int k n) (by rw [e]; rfl)
      simp only [List.length_cons, List.length_nil, Nat.zero_add, Nat.mul_one, Nat.add_zero] at this
      rw [this, List.getD_eq_getElem?_getD, List.getElem?_map, List.getElem?_eq_getElem hi', e]
      rfl
    · rw [List.mem_map] at hn
      obtain ⟨r, hr, rfl⟩ := hn
      obtain ⟨i, hi⟩ := List.getElem?_of_mem hr
      obtain ⟨v, vs', e, ⟨n, rfl, h1, h2⟩, e2⟩ := (hrow i r hi).1
      have e2' : vs' = [] := e2
      subst e2' e
      simp [Lit.wf, h1, h2]
/-- the datum of a slice that came in has its length -/
theorem slice_datum {H : Type} {enc : TypeId × Value → H} {P : Program} {w : World} {base : Nat} {spare : Nat → Bool} {held : Bool} {t e : TypeId} {a : Option Addr} {len cap : Nat} {d : DataW H} {ps : List MemPlace}
    (hu : P.underlying t = some (.slice e)) (hd : DataW.Trod enc P w base spare held t (.slice a len cap) d ps) : (d = .nil ∧ len = 0) ∨ ∃ es sp, d = .slice es sp ∧ es.length = len := by
  obtain ⟨fuel, hf⟩ := hd
  rcases DataW.trod_slice hu hf with ⟨hc, hx⟩ | ⟨a', len', cap', elems, rest, n, _, hc, hx, _, _, _, hl, _⟩
  · simp [Value.cells] at hc
    simp only [Prod.mk.injEq] at hx
    exact .inl ⟨hx.1, hc.2.1⟩
  · simp [Value.cells] at hc
    simp only [Prod.mk.injEq] at hx
    exact .inr ⟨_, _, hx.1, by rw [List.length_map, hl, hc.2.1]⟩
end Go.Sx
