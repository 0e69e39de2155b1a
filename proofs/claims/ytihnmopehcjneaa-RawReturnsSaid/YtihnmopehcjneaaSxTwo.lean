/- An abstract run of the program's code, part 2. Conditions: none. -/
import Derived.Test.YtihnmopehcjneaaSxOne
import Derived.KernelRfl
import Derived.Below
namespace Go.Sx

inductive AX where
  | normal
  | exit (n : Nat)
  | ret

def bC (g : Nat) : C → Bool
  | .p n _ _ => Nat.blt n g
  | .s n _ _ _ => Nat.blt n g
  | _ => true
def b1 (g : Nat) : V1 → Bool
  | .c c => bC g c
  | .a l => l.all (bC g)
def bS (g : Nat) : SV → Bool
  | .o y => b1 g y
  | .t l => l.all (b1 g)
def bBk (g : Nat) : Bk → Prop
  | .box l => l.all (bC g) = true
  | .rows _ n row => ∀ i, i < n → (row i).all (bC g) = true
  | _ => True
def bM (g : Nat) : Mem → Prop
  | [] => True
  | none :: l => bM g l
  | some k :: l => bBk g k.k ∧ bM g l

def lk : List (Nat × SV) → Nat → SV
  | [], _ => .o (.c .u)
  | (s, v) :: r, i => if s = i then v else lk r i
def mkFr : Nat → Nat → List (Nat × SV) → List SV
  | _, 0, _ => []
  | i, n + 1, L => lk L i :: mkFr (i + 1) n L
def leF (fr : List SV) : List (Nat × SV) → Prop
  | [] => True
  | (s, v) :: r => frGet fr s = v ∧ leF fr r
def leM : Mem → Mem → Prop
  | _, [] => True
  | [], none :: G => leM [] G
  | [], some _ :: _ => False
  | _ :: M, none :: G => leM M G
  | m :: M, some g :: G => m = some g ∧ leM M G
def bL (g : Nat) : List (Nat × SV) → Bool
  | [] => true
  | (_, v) :: r => bS g v && bL g r

def acond (c : SV) (t f : Prop) : Prop :=
  match c with
  | .o (.c (.v (.bool b))) => bsel b t f
  | _ => False


/-! ### the run of a region, written out at each step -/
noncomputable def setF (l : List SV) : Nat → SV → (List SV → Prop) → Prop :=
  List.rec (motive := fun _ => Nat → SV → (List SV → Prop) → Prop) (fun _ _ K => K []) (fun y l ih n x K => match n with
    | 0 => K (x :: l)
    | n + 1 => ih n x fun l => K (y :: l)) l
theorem setF_succ (y : SV) (l : List SV) (n : Nat) (x : SV) (K : List SV → Prop) : setF (y :: l) (n + 1) x K = setF l n x fun l => K (y :: l) := rfl
theorem setF_eq : ∀ (l : List SV) (n : Nat) (x : SV) (K : List SV → Prop), setF l n x K = K (frSet l n x)
  | [], _, _, _ => rfl
  | _ :: _, 0, _, _ => rfl
  | y :: l, n + 1, x, K => by rw [setF_succ, setF_eq l]; rfl
noncomputable def putF (l : List SV) (d : Option Nat) (x : SV) (K : List SV → Prop) : Prop :=
  match d with
  | none => K l
  | some d => setF l d x K
theorem putF_eq (l : List SV) (d : Option Nat) (x : SV) (K : List SV → Prop) : putF l d x K = K (frPut l d x) := by cases d <;> simp [putF, frPut, setF_eq]
noncomputable def forceO (b : Option Blk) (K : Option Blk → Prop) : Prop :=
  match b with
  | none => K none
  | some b => forceB b.k fun k => match b.wr with
    | true => K (some ⟨k, true⟩)
    | false => K (some ⟨k, false⟩)
theorem forceO_eq (b : Option Blk) (K : Option Blk → Prop) : forceO b K = K b := by
  cases b with
  | none => rfl
  | some b =>
    obtain ⟨k, w⟩ := b
    cases w <;> simp only [forceO, forceB_eq]
noncomputable def putM (M : Mem) (n : Nat) : Option Blk → (Mem → Prop) → Prop :=
  Nat.rec (motive := fun _ => Mem → Option Blk → (Mem → Prop) → Prop) (fun M b K => match M with
    | [] => K [b]
    | _ :: l => K (b :: l)) (fun _ ih M b K => match M with
    | [] => ih [] b fun l => K (none :: l)
    | x :: l => ih l b fun l => K (x :: l)) n M
theorem putM_nil (n : Nat) (b : Option Blk) (K : Mem → Prop) : putM [] (n + 1) b K = putM [] n b fun l => K (none :: l) := rfl
theorem putM_cons (x : Option Blk) (l : Mem) (n : Nat) (b : Option Blk) (K : Mem → Prop) : putM (x :: l) (n + 1) b K = putM l n b fun l => K (x :: l) := rfl
theorem putM_eq : ∀ (M : Mem) (n : Nat) (b : Option Blk) (K : Mem → Prop), putM M n b K = K (M.put n b)
  | [], 0, _, _ => rfl
  | [], n + 1, b, K => by rw [putM_nil, putM_eq [] n]; rfl
  | _ :: _, 0, _, _ => rfl
  | x :: l, n + 1, b, K => by rw [putM_cons, putM_eq l n]; rfl
noncomputable def appF (M : Mem) (r : Ups) : (Mem → Prop) → Prop :=
  List.rec (motive := fun _ => Mem → (Mem → Prop) → Prop) (fun M K => K M) (fun u _ ih M K => forceO u.2 fun b => putM M u.1 b fun M => ih M K) r M
theorem appF_cons (u : Nat × Option Blk) (r : Ups) (M : Mem) (K : Mem → Prop) : appF M (u :: r) K = forceO u.2 fun b => putM M u.1 b fun M => appF M r K := rfl
theorem appF_eq : ∀ (r : Ups) (M : Mem) (K : Mem → Prop), appF M r K = K (M.app r)
  | [], _, _ => rfl
  | (n, b) :: r, M, K => by rw [appF_cons, forceO_eq, putM_eq, appF_eq r]; rfl

/-- of an operation: the names that it looked at, those that it wrote -/
structure RL where
  fp : List Nat
  un : List Nat
def Rec.light (r : Rec) : RL := ⟨r.fp, r.ups.map (·.1)⟩

abbrev Kn := List SV → Mem → List RL → Prop
/-- one operation -/
noncomputable def goF (P : Program) (draw : Bool) (o : Oper) (M : Mem) (rs : List RL) (next : Kn) (fr : List SV) : Prop :=
  let fp := if draw then fpOf o fr M else []
  let rd := if draw then res M fp else M
  evS P o fr rd M.length fun v ups => if okUps rd M.length ups then forceS v fun v => putF fr o.dst v fun fr => appF M ups fun M => next fr M (⟨fp, ups.map (·.1)⟩ :: rs) else False
noncomputable def skipF (o : Oper) (M : Mem) (rs : List RL) (next : Kn) (fr : List SV) : Prop := putF fr o.dst (.t []) fun fr => next fr M (⟨[], []⟩ :: rs)
def wantF (b : Bool) (x y : List SV → Prop) : List SV → Prop := match b with | true => x | false => y
noncomputable def stepF (P : Program) (ops : Array Oper) (draw : Bool) (o : Oper) (fr : List SV) (M : Mem) (rs : List RL) (next : Kn) : Prop :=
  match o.guard with
  | none => goF P draw o M rs next fr
  | some (j, want) => (match (ops[j]?).bind (·.dst) with
    | none => skipF o M rs next fr
    | some d => (match frGet fr d with
      | .o (.c (.v (.bool b))) => bsel b (setF fr d (boo true) (wantF want (goF P draw o M rs next) (skipF o M rs next))) (setF fr d (boo false) (wantF want (skipF o M rs next) (goF P draw o M rs next)))
      | .t [] => skipF o M rs next fr
      | _ => False))
noncomputable def runF (P : Program) (ops : Array Oper) (draw : Bool) (l : List Oper) : List SV → Mem → List RL → Kn → Prop :=
  List.rec (motive := fun _ => List SV → Mem → List RL → Kn → Prop) (fun fr M rs K => K fr M rs.reverse) (fun o _ ih fr M rs K => stepF P ops draw o fr M rs fun fr M rs => ih fr M rs K) l
theorem runF_cons (P : Program) (ops : Array Oper) (draw : Bool) (o : Oper) (l : List Oper) (fr : List SV) (M : Mem) (rs : List RL) (K : Kn) :
    runF P ops draw (o :: l) fr M rs K = stepF P ops draw o fr M rs fun fr M rs => runF P ops draw l fr M rs K := rfl

theorem evS_mono {P : Program} {o : Oper} {fr : List SV} {rd : Mem} {nm : Nat} {K K' : Kt} (hK : ∀ v ups, K v ups → K' v ups) (hnm : rd.get nm = none) (h : evS P o fr rd nm K) : ∃ v ups, SemOp P o fr rd v ups ∧ K' v ups :=
  let ⟨v, ups, h1, h2⟩ := evS_sound hnm h
  ⟨v, ups, h1, hK v ups h2⟩

theorem runF_text {P : Program} {ops : Array Oper} {draw : Bool} : ∀ (l : List Oper) (fr : List SV) (M : Mem) (rs : List RL) (K : List SV → Mem → List RL → Prop), runF P ops draw l fr M rs K →
    ∃ rs' fr' M', Text P ops draw l fr M rs' fr' M' ∧ K fr' M' (rs.reverse ++ rs'.map Rec.light)
  | [], fr, M, rs, K, h => ⟨[], fr, M, ⟨rfl, rfl⟩, by rw [List.map_nil, List.append_nil]; exact h⟩
  | o :: l, fr, M, rs, K, h => by
    have hgo : ∀ {fr : List SV}, wantA ops o fr = some true →
        (let fp := if draw then fpOf o fr M else []
         let rd := if draw then res M fp else M
         evS P o fr rd M.length fun v ups => if okUps rd M.length ups then forceS v fun v => putF fr o.dst v fun fr => appF M ups fun M => runF P ops draw l fr M (⟨fp, ups.map (·.1)⟩ :: rs) K else False) →
        ∃ rs' fr' M', Text P ops draw (o :: l) fr M rs' fr' M' ∧ K fr' M' (rs.reverse ++ rs'.map Rec.light) := by
      intro fr hw h
      simp only at h
      generalize hfp : (if draw = true then fpOf o fr M else []) = fp at h
      generalize hrdd : (if draw = true then res M fp else M) = rd at h
      have hnm : rd.get M.length = none := by
        rw [← hrdd]
        cases draw with
        | true => simp only [if_true]; rw [res_get]; split; exact Mem.get_len M; rfl
        | false => simp only [Bool.false_eq_true, if_false]; exact Mem.get_len M
      obtain ⟨v, ups, hsem, hK⟩ := evS_sound hnm h
      by_cases hok : okUps rd M.length ups = true
      · rw [if_pos hok, forceS_eq, putF_eq, appF_eq] at hK
        obtain ⟨rs', fr', M', ht, hk⟩ := runF_text l _ _ _ _ hK
        refine ⟨⟨true, fp, v, ups⟩ :: rs', fr', M', ⟨hw, ?_, ht⟩, by simpa [Rec.light] using hk⟩
        simp only [if_true, hrdd]
        exact ⟨hsem, hok⟩
      · rw [if_neg hok] at hK
        exact hK.elim
    have hskip : ∀ {fr : List SV}, wantA ops o fr = some false → (putF fr o.dst (.t []) fun fr => runF P ops draw l fr M (⟨[], []⟩ :: rs) K) →
        ∃ rs' fr' M', Text P ops draw (o :: l) fr M rs' fr' M' ∧ K fr' M' (rs.reverse ++ rs'.map Rec.light) := by
      intro fr hw h
      rw [putF_eq] at h
      obtain ⟨rs', fr', M', ht, hk⟩ := runF_text l _ _ _ _ h
      exact ⟨⟨false, [], .t [], []⟩ :: rs', fr', M', ⟨hw, by simp, ht⟩, by simpa [Rec.light] using hk⟩
    rw [runF_cons] at h
    unfold stepF at h
    split at h
    · rename_i hg
      exact hgo (by simp [wantA, hg]) h
    · rename_i j want hg
      split at h
      · rename_i hd
        exact hskip (by simp only [wantA, hg, hd]) h
      · rename_i d hd
        split at h
        · rename_i b hb
          have hself : frSet fr d (boo b) = fr := by
            have := frSet_self fr d
            rw [hb] at this
            exact this
          have hw : wantA ops o fr = some (b == want) := by simp only [wantA, hg, hd, hb]
          cases b with
          | true =>
            simp only [bsel] at h
            rw [setF_eq, hself] at h
            cases want with
            | true => exact hgo (by rw [hw]; rfl) h
            | false => exact hskip (by rw [hw]; rfl) h
          | false =>
            simp only [bsel] at h
            rw [setF_eq, hself] at h
            cases want with
            | true => exact hskip (by rw [hw]; rfl) h
            | false => exact hgo (by rw [hw]; rfl) h
        · rename_i hb
          exact hskip (by simp only [wantA, hg, hd, hb]) h
        · exact h.elim

def hasN : List Nat → Nat → Bool
  | [], _ => false
  | n :: r, k => (n == k) || hasN r k
def nameConfL (r r' : RL) : Bool := (r.un.any fun u => r'.fp.contains u || hasN r'.un u) || r'.un.any fun u => r.fp.contains u
def okRowL (ops : Array Oper) (b : Nat) (o' : Oper) (r' : RL) : List Oper → List RL → Nat → Nat → Bool
  | o :: l, r :: rs, i, j => if i < j then (!(slotConf ops o o' || nameConfL r r') || b.testBit i) && okRowL ops b o' r' l rs (i + 1) j else true
  | _, _, _, _ => true
def okAllL (ops : Array Oper) (L : List Oper) (R : List RL) (B : List Nat) : List Oper → List RL → Nat → Bool
  | o :: l, r :: rs, j => o.after.toList.all (fun e => !Region.binds .any e || Nat.blt e.on j) && okRowL ops (B.getD j 0) o r L R 0 j && okAllL ops L R B l rs (j + 1)
  | _, _, _ => true
def okOrderL (ops : Array Oper) (rs : List RL) : Bool := okAllL ops ops.toList rs (bef ops.toList []) ops.toList rs 0

theorem hasN_light : ∀ (u : Ups) (n : Nat), hasN (u.map (·.1)) n = u.has n
  | [], _ => rfl
  | (k, b) :: r, n => by simp [hasN, Ups.has, hasN_light r]
theorem nameConf_light (r r' : Rec) : nameConfL r.light r'.light = nameConf r r' := by
  simp only [nameConfL, nameConf, Rec.light, List.any_map, Function.comp_def, hasN_light]
theorem okRow_light {ops : Array Oper} {b : Nat} {o' : Oper} {r' : Rec} : ∀ (l : List Oper) (rs : List Rec) (i j : Nat), okRowL ops b o' r'.light l (rs.map Rec.light) i j = okRow ops b o' r' l rs i j
  | o :: l, r :: rs, i, j => by simp only [okRowL, okRow, List.map_cons, nameConf_light, okRow_light l rs]
  | [], _, _, _ => by simp [okRowL, okRow]
  | _ :: _, [], _, _ => by simp [okRowL, okRow]
theorem okAll_light {ops : Array Oper} {L : List Oper} {R : List Rec} {B : List Nat} : ∀ (l : List Oper) (rs : List Rec) (j : Nat), okAllL ops L (R.map Rec.light) B l (rs.map Rec.light) j = okAll ops L R B l rs j
  | o :: l, r :: rs, j => by simp only [okAllL, okAll, List.map_cons, okRow_light, okAll_light l rs]
  | [], _, _ => by simp [okAllL, okAll]
  | _ :: _, [], _ => by simp [okAllL, okAll]
theorem okOrder_light (ops : Array Oper) (rs : List Rec) : okOrderL ops (rs.map Rec.light) = okOrder ops rs := okAll_light _ _ _

abbrev Kx := AX → List SV → Mem → Prop

/-- a loop: what holds at the head of every round -/
def ALoop (k0 : Nat) (body : List SV → Mem → Kx → Prop) (fr : List SV) (M : Mem) (K : Kx) : Prop :=
  ∃ (X : Type) (inv : X → Prop) (N : Nat) (H : X → List (Nat × SV)) (G : X → Mem) (μ : X → Nat) (x0 : X),
    N = fr.length ∧ inv x0 ∧ leF fr (H x0) ∧ leM M (G x0) ∧
    ∀ x, inv x → k0 ≤ (G x).length ∧ bL (G x).length (H x) = true ∧ bM (G x).length (G x) ∧
      body (mkFr 0 N (H x)) (G x) fun e fr' M' => match e with
        | .normal => ∃ x', inv x' ∧ μ x' < μ x ∧ leF fr' (H x') ∧ leM M' (G x')
        | e => K e fr' M'

/-- what follows a part that ended so -/
def seqK (K : Kx) (b : List SV → Mem → Kx → Prop) : Kx := fun e fr M => match e with
  | .normal => b fr M K
  | e => K e fr M
def blockK (id : Nat) (K : Kx) : Kx := fun e fr M => match e with
  | .exit i => if i = id then K .normal fr M else K (.exit i) fr M
  | e => K e fr M
noncomputable def regF (P : Program) (ops : Array Oper) (draw : Bool) (fr : List SV) (M : Mem) (K : Kx) : Prop := match draw with
  | true => runF P ops true ops.toList fr M [] fun fr M rs => okOrderL ops rs = true ∧ K .normal fr M
  | false => runF P ops false ops.toList fr M [] fun fr M _ => K .normal fr M
noncomputable def acode (P : Program) (k0 : Nat) (c : Code) : List SV → Mem → Kx → Prop :=
  Code.rec (motive := fun _ => List SV → Mem → Kx → Prop)
    (fun fr M K => K .normal fr M)
    (fun _ ops draw fr M K => regF P ops draw fr M K)
    (fun _ _ iha ihb fr M K => iha fr M (seqK K ihb))
    (fun c _ _ ihx ihy fr M K => acond (evO fr c) (ihx fr M K) (ihy fr M K))
    (fun id _ ih fr M K => ih fr M (blockK id K))
    (fun _ ih fr M K => ALoop k0 ih fr M K)
    (fun _ _ _ _ _ _ _ _ _ => False)
    (fun id fr M K => K (.exit id) fr M)
    (fun _ _ _ _ _ => False)
    (fun _ _ _ _ => False)
    (fun _ _ _ _ => False)
    (fun fr M K => K .ret fr M)
    (fun _ _ _ _ => False) c

/-! ### narrowing the names -/
def Bet.cut (β : Bet) (g : Nat) : Bet := fun n => if n < g then β n else none
section
variable {β : Bet} {g : Nat}
theorem denC.cut {x : Value} : ∀ {c : C}, denC β x c → bC g c = true → denC (β.cut g) x c
  | .v _, h, _ => h
  | .p n _ _, ⟨m, h, e⟩, hb => ⟨m, by simp only [bC, Nat.blt_eq] at hb; simp [Bet.cut, hb, h], e⟩
  | .s n _ _ _, ⟨A, cap, m, h, r⟩, hb => ⟨A, cap, m, by simp only [bC, Nat.blt_eq] at hb; simp [Bet.cut, hb, h], r⟩
  | .z, h, _ => h
  | .u, _, _ => trivial
theorem denL.cut : ∀ {xs : List Value} {l : List C}, denL β xs l → l.all (bC g) = true → denL (β.cut g) xs l
  | [], [], _, _ => trivial
  | _ :: _, _ :: _, ⟨h, r⟩, hb => by
    simp only [List.all_cons, Bool.and_eq_true] at hb
    exact ⟨h.cut hb.1, denL.cut r hb.2⟩
theorem den1.cut {x : Value} : ∀ {y : V1}, den1 β x y → b1 g y = true → den1 (β.cut g) x y
  | .c _, h, hb => denC.cut h hb
  | .a _, ⟨vs, e, h⟩, hb => ⟨vs, e, h.cut hb⟩
theorem denL1.cut : ∀ {xs : List Value} {l : List V1}, denL1 β xs l → l.all (b1 g) = true → denL1 (β.cut g) xs l
  | [], [], _, _ => trivial
  | _ :: _, _ :: _, ⟨h, r⟩, hb => by
    simp only [List.all_cons, Bool.and_eq_true] at hb
    exact ⟨h.cut hb.1, denL1.cut r hb.2⟩
theorem denS.cut {x : Value} : ∀ {y : SV}, denS β x y → bS g y = true → denS (β.cut g) x y
  | .o _, h, hb => den1.cut h hb
  | .t _, ⟨vs, e, h⟩, hb => ⟨vs, e, denL1.cut h hb⟩
theorem Bet.cut_top : Top (β.cut g) g := fun n hn => by simp [Bet.cut, Nat.not_lt.2 hn]
theorem Bet.cut_le : (β.cut g).le β := fun n m h => by
  unfold Bet.cut at h
  split at h
  · exact h
  · cases h
theorem bBk_at {k : Bk} (h : bBk g k) {i j : Nat} {c : C} (hc : k.at i j = some c) : bC g c = true := by
  rw [Bk.at_some] at hc
  obtain ⟨hi, hc⟩ := hc
  cases k with
  | box l =>
    simp only [Bk.row] at hc
    have := List.all_eq_true.1 h c (List.mem_of_getElem? hc)
    exact this
  | ints ki xs =>
    cases j with
    | zero => simp [Bk.row] at hc; subst hc; rfl
    | succ j => simp [Bk.row] at hc
  | bools xs =>
    cases j with
    | zero => simp [Bk.row] at hc; subst hc; rfl
    | succ j => simp [Bk.row] at hc
  | rows sz n row => exact List.all_eq_true.1 (h i hi) c (List.mem_of_getElem? hc)
theorem bM_get : ∀ {G : Mem} {n : Nat} {k : Blk}, bM g G → G.get n = some k → bBk g k.k
  | [], _, _, _, h => by cases h
  | none :: l, 0, k, _, h => by cases h
  | some k' :: l, 0, k, hb, h => by simp only [Mem.get, Option.some.injEq] at h; subst h; exact hb.1
  | none :: l, n + 1, k, hb, h => bM_get (G := l) hb h
  | some k' :: l, n + 1, k, hb, h => bM_get (G := l) hb.2 h
end
theorem leM_get : ∀ {M G : Mem} {n : Nat} {k : Blk}, leM M G → G.get n = some k → M.get n = some k
  | _, [], _, _, _, h => by cases h
  | [], none :: G, 0, _, _, h => by cases h
  | [], none :: G, n + 1, k, hl, h => by have := leM_get (M := []) (G := G) hl h; cases this
  | [], some _ :: G, _, _, hl, _ => hl.elim
  | _ :: M, none :: G, 0, _, _, h => by cases h
  | _ :: M, none :: G, n + 1, k, hl, h => leM_get (M := M) (G := G) hl h
  | m :: M, some g :: G, 0, k, hl, h => by simp only [Mem.get, Option.some.injEq] at h; subst h; exact hl.1
  | m :: M, some g :: G, n + 1, k, hl, h => leM_get (M := M) (G := G) hl.2 h

/-- less is known, fewer names are kept -/
theorem St.less {W : World} {A : Nat → Prop} {β : Bet} {M G : Mem} {w : World} {g : Nat} (h : St W A β M w) (hl : leM M G) (hb : bM g G) (hg : G.length ≤ g) : St W A (β.cut g) G w := by
  have hcut : ∀ n k, G.get n = some k → n < g := fun n k hk => by
    rcases Nat.lt_or_ge n g with h' | h'
    · exact h'
    · rw [Mem.get_ge G n (by omega)] at hk; cases hk
  have heq : ∀ n, n < g → β.cut g n = β n := fun n hn => by simp [Bet.cut, hn]
  refine ⟨h.os, h.tape, h.output, h.size, h.frame, fun n k hk => ?_, fun n n' k k' m m' hne hk hk' hw hm hm' => ?_, fun n k m hk hw hm => ?_⟩
  · obtain ⟨m, hm, hh⟩ := h.names n k (leM_get hl hk)
    refine ⟨m, by rw [heq n (hcut n k hk)]; exact hm, hh.fits, hh.need, hh.there.imp id fun ⟨c, T, fz, h1, h2, h3, h4⟩ => ⟨c, T, fz, h1, h2, h3, fun i j x hx => ?_⟩⟩
    obtain ⟨y, hy, hd⟩ := h4 i j x hx
    exact ⟨y, hy, hd.cut (bBk_at (bM_get hb hk) hx)⟩
  · rw [heq n (hcut n k hk)] at hm
    rw [heq n' (hcut n' k' hk')] at hm'
    exact h.sep n n' k k' m m' hne (leM_get hl hk) (leM_get hl hk') hw hm hm'
  · rw [heq n (hcut n k hk)] at hm
    exact h.perm n k m (leM_get hl hk) hw hm

theorem mkFr_length : ∀ (n i : Nat) (L : List (Nat × SV)), (mkFr i n L).length = n
  | 0, _, _ => rfl
  | n + 1, i, L => congrArg (· + 1) (mkFr_length n (i + 1) L)
theorem mkFr_get : ∀ (n i : Nat) (L : List (Nat × SV)) (t : Nat), frGet (mkFr i n L) t = if t < n then lk L (i + t) else .o (.c .u)
  | 0, _, _, t => by simp [mkFr, frGet]
  | n + 1, i, L, 0 => by simp [mkFr, frGet]
  | n + 1, i, L, t + 1 => by
    have := mkFr_get n (i + 1) L t
    simp only [mkFr, frGet, this, Nat.add_lt_add_iff_right]
    rw [show i + 1 + t = i + (t + 1) by omega]
theorem Fr.less {β : Bet} {tmps : Array Value} {fr : List SV} {g N : Nat} {L : List (Nat × SV)} (h : Fr β tmps fr) (hN : N = fr.length) (hl : leF fr L) (hb : bL g L = true) : Fr (β.cut g) tmps (mkFr 0 N L) := by
  refine ⟨by rw [mkFr_length, h.len, hN], fun t => ?_⟩
  rw [mkFr_get]
  split
  · rw [Nat.zero_add]
    have key : ∀ (L : List (Nat × SV)), leF fr L → bL g L = true → denS (β.cut g) (tmps.getD t undef) (lk L t) := by
      intro L
      induction L with
      | nil => intro _ _; exact trivial
      | cons p L ih =>
        obtain ⟨s, v⟩ := p
        intro hl hb
        simp only [bL, Bool.and_eq_true] at hb
        simp only [lk]
        split
        · rename_i hst
          subst hst
          have := h.den s
          rw [hl.1] at this
          exact this.cut hb.1
        · exact ih hl.2 hb.2
    exact key L hl hb
  · exact trivial

def Keep (k0 : Nat) (β β' : Bet) : Prop := ∀ n, n < k0 → β' n = β n
theorem Keep.of_le {k0 : Nat} {β β' : Bet} (h : β.le β') (hd : ∀ n, n < k0 → β n ≠ none) : Keep k0 β β' := fun n hn => by
  cases hb : β n with
  | none => exact absurd hb (hd n hn)
  | some m => exact h n m hb

/-- the post of a body, as seen by the code -/
def AX.to : AX → Exit
  | .normal => .normal
  | .exit n => .exit n
  | .ret => .ret

theorem text_len {P : Program} {ops : Array Oper} {draw : Bool} : ∀ (l : List Oper) (fr : List SV) (M : Mem) (rs : List Rec) (fr' : List SV) (M' : Mem), Text P ops draw l fr M rs fr' M' → M.length ≤ M'.length
  | [], _, M, [], _, M', h => by rw [h.2]; exact Nat.le_refl _
  | o :: l, fr, M, r :: rs, fr', M', h => Nat.le_trans (Mem.app_length r.ups M).1 (text_len l _ _ rs _ _ h.2.2)
  | [], _, _, _ :: _, _, _, h => h.elim
  | _ :: _, _, _, [], _, _, h => h.elim

theorem text_flen {P : Program} {ops : Array Oper} {draw : Bool} : ∀ (l : List Oper) (fr : List SV) (M : Mem) (rs : List Rec) (fr' : List SV) (M' : Mem), Text P ops draw l fr M rs fr' M' → fr'.length = fr.length
  | [], fr, _, [], _, _, h => by rw [h.1]
  | o :: l, fr, M, r :: rs, fr', M', h => by rw [text_flen l _ _ rs _ _ h.2.2, frPut_length]
  | [], _, _, _ :: _, _, _, h => h.elim
  | _ :: _, _, _, [], _, _, h => h.elim

theorem wp_loop_of {X : Type} {P : Program} {c : Code} {Q : Exit → Act → World → Prop} (I : X → Act → World → Prop) (μ : X → Nat)
    (round : ∀ x a w, I x a w → c.wp P (Exit.then (fun a' w' => ∃ x', I x' a' w' ∧ μ x' < μ x) Q) a w) {x0 : X} {a : Act} {w : World} (h₀ : I x0 a w) : (Code.loop c).wp P Q a w := by
  intro b k cs
  have key : ∀ n x a w, μ x = n → I x a w → ∃ e a' w', Q e a' w' ∧ Arrives P (lone (b.at a (.code c :: .inLoop c :: k)) cs w) b k cs e a' w' := by
    intro n
    induction n using Nat.strongRecOn with
    | _ n ih =>
      intro x a w hn hI
      obtain ⟨e, a₁, w₁, hq, harr⟩ := round x a w hI b (.inLoop c :: k) cs
      cases e with
      | normal =>
        obtain ⟨x', hI₁, hlt⟩ := hq
        obtain ⟨e₂, a₂, w₂, hq₂, harr₂⟩ := ih (μ x') (hn ▸ hlt) x' a₁ w₁ rfl hI₁
        exact ⟨e₂, a₂, w₂, hq₂, .of_steps (Steps.trans harr (.one step_inLoop)) harr₂⟩
      | exit id => exact ⟨_, a₁, w₁, hq, .pass (x := .inLoop c) rfl (fun _ _ => .inl (by simp)) harr⟩
      | goto l => exact ⟨_, a₁, w₁, hq, .pass (x := .inLoop c) rfl (fun _ _ => .inl (by simp)) harr⟩
      | ret => exact ⟨_, a₁, w₁, hq, .pass (x := .inLoop c) rfl (fun _ _ => .inl (by simp)) harr⟩
      | panic ch => exact ⟨_, a₁, w₁, hq, .pass (x := .inLoop c) rfl (fun _ _ => .inl (by simp)) harr⟩
      | outgrown => exact ⟨_, a₁, w₁, hq, .pass (x := .inLoop c) rfl (fun _ _ => .inl (by simp)) harr⟩
  obtain ⟨e, a', w', hq, harr⟩ := key _ x0 a w rfl h₀
  exact ⟨e, a', w', hq, .of_steps (.one step_loop) harr⟩

structure Abs (W : World) (A : Nat → Prop) (T : Nat) (k0 : Nat) (β0 : Bet) (ds : List Deferred) (fr : List SV) (M : Mem) (β : Bet) (a : Act) (w : World) : Prop where
  flen : fr.length = T
  keep : Keep k0 β0 β
  st : St W A β M w
  fr : Fr β a.tmps fr
  top : Top β M.length
  len : k0 ≤ M.length
  ds : a.defers = ds

theorem acode_sound {P : Program} (hm : P.follows .mixedOrders = true) {k0 : Nat} {W : World} {A : Nat → Prop} {T : Nat} {β0 : Bet} {ds : List Deferred} (h0 : ∀ n, n < k0 → β0 n ≠ none) :
    ∀ (c : Code) (fr : List SV) (M : Mem) (K : Kx) (β : Bet) (a : Act) (w : World) (Q : Exit → Act → World → Prop),
    acode P k0 c fr M K → Abs W A T k0 β0 ds fr M β a w →
    (∀ e β' fr' M' a' w', K e fr' M' → Abs W A T k0 β0 ds fr' M' β' a' w' → Q e.to a' w') → c.wp P Q a w := by
  have keepTrans : ∀ {β β' : Bet}, Keep k0 β0 β → β.le β' → Keep k0 β0 β' := fun {β β'} hk hl n hn => by
    rw [← hk n hn]
    have := h0 n hn
    rw [← hk n hn] at this
    cases hb : β n with
    | none => exact absurd hb this
    | some m => exact hl n m hb
  intro c
  induction c with
  | skip => exact fun fr M K β a w Q h ab hQ => wp_skip (hQ .normal β fr M a w h ab)
  | region id ops draw =>
    intro fr M K β a w Q h ab hQ
    cases draw with
    | true =>
      obtain ⟨rs', fr', M', ht, hok, hk⟩ := runF_text _ _ _ _ _ h
      rw [List.reverse_nil, List.nil_append, okOrder_light] at hok
      exact region_draw hm ht hok ab.top ab.st ab.fr fun β' a' w' hle hSt hF hT hd =>
        hQ .normal β' fr' M' a' w' hk ⟨by rw [text_flen _ _ _ _ _ _ ht]; exact ab.flen, keepTrans ab.keep hle, hSt, hF, hT, Nat.le_trans ab.len (text_len _ _ _ _ _ _ ht), by rw [hd]; exact ab.ds⟩
    | false =>
      obtain ⟨rs', fr', M', ht, hk⟩ := runF_text _ _ _ _ _ h
      exact wp_region_list (text_wp _ _ _ _ _ _ _ _ _ ht ab.st ab.fr ab.top fun β' a' w' hle hSt hF hT hd =>
        hQ .normal β' fr' M' a' w' hk ⟨by rw [text_flen _ _ _ _ _ _ ht]; exact ab.flen, keepTrans ab.keep hle, hSt, hF, hT, Nat.le_trans ab.len (text_len _ _ _ _ _ _ ht), by rw [hd]; exact ab.ds⟩)
  | seq x y ihx ihy =>
    intro fr M K β a w Q h ab hQ
    refine wp_seq (ihx fr M _ β a w _ h ab fun e β' fr' M' a' w' hk ab' => ?_)
    cases e with
    | normal => exact ihy fr' M' K β' a' w' Q hk ab' hQ
    | exit n => exact hQ (.exit n) β' fr' M' a' w' hk ab'
    | ret => exact hQ .ret β' fr' M' a' w' hk ab'
  | cond c x y ihx ihy =>
    intro fr M K β a w Q h ab hQ
    replace h : acond (evO fr c) (acode P k0 x fr M K) (acode P k0 y fr M K) := h
    simp only [acond] at h
    split at h
    · rename_i b hb
      have hc := ab.fr.ev c
      rw [hb] at hc
      have hc' : a.eval c = .bool b := hc
      cases b with
      | true => exact wp_cond_true hc' (ihx fr M K β a w Q h ab hQ)
      | false => exact wp_cond_false hc' (ihy fr M K β a w Q h ab hQ)
    · exact h.elim
  | block id b ih =>
    intro fr M K β a w Q h ab hQ
    refine wp_block (ih fr M _ β a w _ h ab fun e β' fr' M' a' w' hk ab' => ?_)
    cases e with
    | normal => exact hQ .normal β' fr' M' a' w' hk ab'
    | exit n =>
      simp only [AX.to, Exit.inBlock]
      replace hk : (if n = id then K .normal fr' M' else K (.exit n) fr' M') := hk
      split
      · rename_i he
        rw [if_pos he] at hk
        exact hQ .normal β' fr' M' a' w' hk ab'
      · rename_i he
        rw [if_neg he] at hk
        exact hQ (.exit n) β' fr' M' a' w' hk ab'
    | ret => exact hQ .ret β' fr' M' a' w' hk ab'
  | exit id => exact fun fr M K β a w Q h ab hQ => wp_exit (hQ (.exit id) β fr M a w h ab)
  | ret => exact fun fr M K β a w Q h ab hQ => wp_ret (hQ .ret β fr M a w h ab)
  | loop b ih =>
    intro fr M K β a w Q h ab hQ
    obtain ⟨X, inv, N, H, G, μ, x0, hN, hx0, hf0, hM0, hround⟩ := h
    -- what holds at the head of a round
    let I : X → Act → World → Prop := fun x a w => inv x ∧ ∃ β, Abs W A T k0 β0 ds (mkFr 0 N (H x)) (G x) β a w
    have less : ∀ (x : X) (fr : List SV) (M : Mem) (β : Bet) (a : Act) (w : World), inv x → N = fr.length → leF fr (H x) → leM M (G x) → Abs W A T k0 β0 ds fr M β a w → I x a w := by
      intro x fr M β a w hx hN hf hMM ab
      obtain ⟨r1, r2, r3, _⟩ := hround x hx
      exact ⟨hx, β.cut (G x).length, by rw [mkFr_length, hN]; exact ab.flen, fun n hn => by rw [← ab.keep n hn]; simp [Bet.cut]; intro; omega, ab.st.less hMM r3 (Nat.le_refl _), ab.fr.less hN hf r2, Bet.cut_top, r1, ab.ds⟩
    refine wp_loop_of I μ (fun x a w hI => ?_) (less x0 fr M β a w hx0 hN hf0 hM0 ab)
    obtain ⟨hx, β, ab⟩ := hI
    obtain ⟨_, _, _, hbody⟩ := hround x hx
    refine ih (mkFr 0 N (H x)) (G x) _ β a w _ hbody ab fun e β' fr' M' a' w' hk ab' => ?_
    cases e with
    | normal =>
      obtain ⟨x', hx', hlt, hf, hM⟩ := hk
      exact ⟨x', less x' fr' M' β' a' w' hx' (by rw [ab'.flen, ← ab.flen, mkFr_length]) hf hM ab', hlt⟩
    | exit n => exact hQ (.exit n) β' fr' M' a' w' hk ab'
    | ret => exact hQ .ret β' fr' M' a' w' hk ab'
  | rangeFunc => intro fr M K β a w Q h; exact h.elim
  | scope => intro fr M K β a w Q h; exact h.elim
  | label => intro fr M K β a w Q h; exact h.elim
  | goto => intro fr M K β a w Q h; exact h.elim
  | refuse => intro fr M K β a w Q h; exact h.elim
end Go.Sx
namespace Go.Sx

def resA (P : Program) : List ResultVar → List SV → Mem → (List V1 → Prop) → Prop
  | [], _, _, K => K []
  | .tmp t :: r, fr, M, K => (match frGet fr t with
    | .o y => resA P r fr M fun l => K (y :: l)
    | _ => False)
  | .cell a t :: r, fr, M, K => evLoad P t (frGet fr a) M fun v _ => match v with
    | .o y => resA P r fr M fun l => K (y :: l)
    | _ => False
def tupA : List V1 → SV
  | [y] => .o y
  | l => .t l
def postK (P : Program) (rs : List ResultVar) (v1 : SV) (m1 : Mem) : Kx := fun e fr M => match e with
  | .exit _ => False
  | _ => resA P rs fr M fun l => tupA l = v1 ∧ leM M m1

theorem evLoad_sound {P : Program} {t : TypeId} {x : SV} {M : Mem} {K : Kt} (h : evLoad P t x M K) {W : World} {A : Nat → Prop} {β : Bet} {w : World} (hSt : St W A β M w) {v : Value} (hv : denS β v x) :
    ∃ ad r y, v = .pointer (some ad) ∧ (loadVar t ad).run P w = .ok r w ∧ den1 β r y ∧ K (.o y) [] := by
  unfold evLoad at h
  split at h
  · rename_i n i j
    split at h
    · rename_i k hk
      split at h
      · rename_i ht
        obtain ⟨m, hm, hh⟩ := hSt.names n k hk
        obtain ⟨m', hm', he⟩ := hv
        rw [hm] at hm'; cases hm'
        obtain ⟨r, y, hr, hd, hK⟩ := load_sound hh ht h
        refine ⟨_, r, y, he, ?_, hd, hK⟩
        simpa [Instr.loadAt, Instr.sureAddr] using hr
      · exact h.elim
    · exact h.elim
  · exact h.elim

def resOne (tmps : Array Value) : ResultVar → Sem Value
  | .tmp t => pure (tmps.getD t undef)
  | .cell a t => do loadVar t (← asAddr (tmps.getD a undef))

theorem resA_sound {P : Program} {W : World} {A : Nat → Prop} {β : Bet} {M : Mem} {w : World} {tmps : Array Value} {fr : List SV} (hSt : St W A β M w) (hF : Fr β tmps fr) :
    ∀ (rs : List ResultVar) (K : List V1 → Prop), resA P rs fr M K → ∃ l vs, K l ∧ denL1 β vs l ∧ (rs.mapM (resOne tmps)).run P w = .ok vs w
  | [], K, h => ⟨[], [], h, trivial, by simp⟩
  | .tmp t :: r, K, h => by
    unfold resA at h
    split at h
    · rename_i y hy
      obtain ⟨l, vs, hK, hd, hr⟩ := resA_sound hSt hF r _ h
      have := hF.den t
      rw [hy] at this
      exact ⟨y :: l, tmps.getD t undef :: vs, hK, ⟨this, hd⟩, by rw [List.mapM_cons]; simp only [resOne, Sem.run_bind, Sem.run_pure, Result.andThen_ok, hr]⟩
    · exact h.elim
  | .cell a t :: r, K, h => by
    unfold resA at h
    obtain ⟨ad, v, y, he, hv, hdy, hK⟩ := evLoad_sound h hSt (hF.den a)
    simp only at hK
    obtain ⟨l, vs, hK, hd, hr⟩ := resA_sound hSt hF r _ hK
    exact ⟨y :: l, v :: vs, hK, ⟨hdy, hd⟩, by rw [List.mapM_cons]; simp only [resOne, Sem.run_bind, Sem.run_pure, Result.andThen_ok, he, asAddr, hv, hr]⟩

theorem results_sound {P : Program} {fn : Func} {W : World} {A : Nat → Prop} {β : Bet} {M : Mem} {w : World} {tmps : Array Value} {fr : List SV} (hSt : St W A β M w) (hF : Fr β tmps fr) {K : List V1 → Prop}
    (h : resA P fn.results.toList fr M K) : ∃ l v, K l ∧ denS β v (tupA l) ∧ (results fn tmps).run P w = .ok v w := by
  obtain ⟨l, vs, hK, hd, hr⟩ := resA_sound hSt hF _ _ h
  have hm : (fn.results.mapM (resOne tmps)).run P w = .ok vs.toArray w := by
    rw [Array.mapM_eq_mapM_toList]
    simp [hr]
  have hres : (results fn tmps).run P w = .ok (if h : vs.toArray.size = 1 then vs.toArray[0] else .tuple vs.toArray) w := by
    have he : results fn tmps = (do
        let vs ← fn.results.mapM (resOne tmps)
        pure (if h : vs.size = 1 then vs[0] else .tuple vs)) := rfl
    rw [he, Sem.run_bind, hm]
    rfl
  refine ⟨l, _, hK, ?_, hres⟩
  cases l with
  | nil => cases vs with
    | nil => exact ⟨[], rfl, trivial⟩
    | cons => cases hd
  | cons y l => cases vs with
    | nil => cases hd
    | cons v vs => cases l with
      | nil => cases vs with
        | nil => exact hd.1
        | cons => cases hd.2
      | cons y' l => cases vs with
        | nil => cases hd.2
        | cons v' vs => exact ⟨v :: v' :: vs, by simp, hd⟩

/-- the blocks of the names that may be written -/
def wrA (β : Bet) (m0 : Mem) (b : Nat) : Prop := ∃ n k m, m0.get n = some k ∧ k.wr = true ∧ β n = some m ∧ m.room ≠ 0 ∧ m.b = b

/-- A CONTRACT, over names 0, 1, .. of its own: called with args0 where memory is m0, the function returns v1 and leaves m1 -/
structure FC (P : Program) (g : FuncId) (args0 : List SV) (m0 : Mem) (v1 : SV) (m1 : Mem) : Prop where
  can : Go.Sx.callable P g = true
  len : m0.length ≤ m1.length
  bv : bS m1.length v1 = true
  bm1 : bM m1.length m1
  run : ∀ (β : Bet) (w : World) (vals : List Value), Top β m0.length → (∀ n, n < m0.length → β n ≠ none) → St w (wrA β m0) β m0 w → denLS β vals args0 →
    Calls P g vals.toArray w fun e w' => ∃ v' β', e = .returned v' ∧ Keep m0.length β β' ∧ Top β' m1.length ∧ St w (wrA β m0) β' m1 w' ∧ denS β' v' v1

def undefs : Nat → List SV
  | 0 => []
  | n + 1 => .t [] :: undefs n
theorem undefs_length : ∀ n, (undefs n).length = n
  | 0 => rfl
  | n + 1 => congrArg (· + 1) (undefs_length n)
theorem frGet_undefs : ∀ (n t : Nat), frGet (undefs n) t = if t < n then .t [] else .o (.c .u)
  | 0, t => by simp [undefs, frGet]
  | n + 1, 0 => by simp [undefs, frGet]
  | n + 1, t + 1 => by simp [undefs, frGet, frGet_undefs n t]
theorem frGet_append : ∀ (l m : List SV) (t : Nat), frGet (l ++ m) t = if t < l.length then frGet l t else frGet m (t - l.length)
  | [], m, t => by simp
  | x :: l, m, 0 => by simp [frGet]
  | x :: l, m, t + 1 => by
    have := frGet_append l m t
    simp [frGet, this]

theorem denLS.get {β : Bet} : ∀ {xs : List Value} {l : List SV} (t : Nat), denLS β xs l → t < l.length → denS β (xs.getD t undef) (frGet l t)
  | x :: xs, y :: l, 0, ⟨h, _⟩, _ => by simpa [frGet] using h
  | x :: xs, y :: l, t + 1, ⟨_, r⟩, ht => by simpa [frGet] using denLS.get t r (by simpa using ht)
  | [], [], _, _, ht => by simp at ht

theorem FC.of_body {P : Program} (hm : P.follows .mixedOrders = true) {g : FuncId} {fn : Func} (hf : P.funcs[g]? = some fn) (hc : callable P g = true) {c : Code} (hb : fn.body = some c) {T : Nat} (hT : fn.ntmps = T)
    {args0 : List SV} {m0 : Mem} {v1 : SV} {m1 : Mem} (hlen : m0.length ≤ m1.length) (hv : bS m1.length v1 = true) (hm1 : bM m1.length m1)
    (h : acode P m0.length c (args0 ++ undefs (T - args0.length)) m0 (postK P fn.results.toList v1 m1)) : FC P g args0 m0 v1 m1 := by
  refine ⟨hc, hlen, hv, hm1, fun β w vals hT0 hdef hSt hd => ?_⟩
  refine calls_of_wp hf hb ?_
  have hvl := hd.length
  refine acode_sound (T := (args0 ++ undefs (T - args0.length)).length) (β0 := β) (ds := []) hm hdef c _ m0 _ β _ w _ h ⟨rfl, fun n _ => rfl, hSt, ⟨?_, fun t => ?_⟩, hT0, Nat.le_refl _, rfl⟩ fun e β' fr' M' a' w' hk ab => ?_
  · simp [undefs_length, hT, hvl]
  · rw [frGet_append]
    split
    · rename_i ht
      have hlt : t < vals.length := by omega
      have := denLS.get t hd ht
      have e : (vals.toArray ++ Array.replicate (fn.ntmps - vals.toArray.size) undef).getD t undef = vals.getD t undef := by
        simp [List.getD, Array.getElem?_append, hlt]
      rw [e]; exact this
    · rename_i ht
      rw [frGet_undefs]
      split
      · rename_i ht2
        refine ⟨[], ?_, trivial⟩
        have hnl : ¬ t < vals.length := by omega
        have hr : t - vals.length < fn.ntmps - vals.length := by rw [hT]; omega
        simp [Array.getElem?_append, hnl, hr, undef]
      · exact trivial
  · have key : ∀ (e' : Exit), (e' = .normal ∨ e' = .ret) → resA P fn.results.toList fr' M' (fun l => tupA l = v1 ∧ leM M' m1) → bodyPost P fn (fun e w' => ∃ v' β', e = .returned v' ∧ Keep m0.length β β' ∧ Top β' m1.length ∧ St w (wrA β m0) β' m1 w' ∧ denS β' v' v1) e' a' w' := by
      intro e' he hk
      obtain ⟨l, v, ⟨hl, hM⟩, hdv, hr⟩ := results_sound ab.st ab.fr hk
      have hpost : a'.defers = [] ∧ ∃ v, (results fn a'.tmps).run P w' = .ok v w' ∧ ∃ v' β', Ending.returned v = .returned v' ∧ Keep m0.length β β' ∧ Top β' m1.length ∧ St w (wrA β m0) β' m1 w' ∧ denS β' v' v1 :=
        ⟨ab.ds, v, hr, v, β'.cut m1.length, rfl, fun n hn => by rw [← ab.keep n hn]; simp [Bet.cut]; intro; omega, Bet.cut_top, ab.st.less hM hm1 (Nat.le_refl _), by rw [← hl]; exact hdv.cut (by rw [hl]; exact hv)⟩
      rcases he with rfl | rfl
      · exact hpost
      · exact hpost
    cases e with
    | normal => exact key _ (.inl rfl) hk
    | ret => exact key _ (.inr rfl) hk
    | exit n => exact hk.elim
end Go.Sx
namespace Go.Sx

def renC (σ : Nat → Nat) : C → C
  | .v x => .v x
  | .p n i j => .p (σ n) i j
  | .s n off len sz => .s (σ n) off len sz
  | .z => .z
  | .u => .u
def ren1 (σ : Nat → Nat) : V1 → V1
  | .c c => .c (renC σ c)
  | .a l => .a (l.map (renC σ))
def renS (σ : Nat → Nat) : SV → SV
  | .o y => .o (ren1 σ y)
  | .t l => .t (l.map (ren1 σ))
def renBk (σ : Nat → Nat) : Bk → Bk
  | .box l => .box (l.map (renC σ))
  | .ints k xs => .ints k xs
  | .bools xs => .bools xs
  | .rows sz n row => .rows sz n fun i => (row i).map (renC σ)
def renB (σ : Nat → Nat) (k : Blk) : Blk := ⟨renBk σ k.k, k.wr⟩

section
variable {σ : Nat → Nat} {β β' : Bet} {g : Nat}
theorem denC_ren (h : ∀ n, n < g → ∀ m, β' n = some m → β (σ n) = some m) {x : Value} : ∀ {c : C}, bC g c = true → denC β' x c → denC β x (renC σ c)
  | .v _, _, hd => hd
  | .p n _ _, hb, ⟨m, hm, e⟩ => ⟨m, h n (by simpa [bC, Nat.blt_eq] using hb) m hm, e⟩
  | .s n _ _ _, hb, ⟨A, cap, m, hm, r⟩ => ⟨A, cap, m, h n (by simpa [bC, Nat.blt_eq] using hb) m hm, r⟩
  | .z, _, hd => hd
  | .u, _, _ => trivial
theorem denC_unren (h : ∀ n, n < g → ∀ m, β (σ n) = some m → β' n = some m) {x : Value} : ∀ {c : C}, bC g c = true → denC β x (renC σ c) → denC β' x c
  | .v _, _, hd => hd
  | .p n _ _, hb, ⟨m, hm, e⟩ => ⟨m, h n (by simpa [bC, Nat.blt_eq] using hb) m hm, e⟩
  | .s n _ _ _, hb, ⟨A, cap, m, hm, r⟩ => ⟨A, cap, m, h n (by simpa [bC, Nat.blt_eq] using hb) m hm, r⟩
  | .z, _, hd => hd
  | .u, _, _ => trivial
theorem denL_ren (h : ∀ n, n < g → ∀ m, β' n = some m → β (σ n) = some m) : ∀ {xs : List Value} {l : List C}, l.all (bC g) = true → denL β' xs l → denL β xs (l.map (renC σ))
  | [], [], _, _ => trivial
  | _ :: _, _ :: _, hb, ⟨h1, r⟩ => by
    simp only [List.all_cons, Bool.and_eq_true] at hb
    exact ⟨denC_ren h hb.1 h1, denL_ren h hb.2 r⟩
theorem denL_unren (h : ∀ n, n < g → ∀ m, β (σ n) = some m → β' n = some m) : ∀ {xs : List Value} {l : List C}, l.all (bC g) = true → denL β xs (l.map (renC σ)) → denL β' xs l
  | [], [], _, _ => trivial
  | _ :: _, _ :: _, hb, ⟨h1, r⟩ => by
    simp only [List.all_cons, Bool.and_eq_true] at hb
    exact ⟨denC_unren h hb.1 h1, denL_unren h hb.2 r⟩
theorem den1_ren (h : ∀ n, n < g → ∀ m, β' n = some m → β (σ n) = some m) {x : Value} : ∀ {y : V1}, b1 g y = true → den1 β' x y → den1 β x (ren1 σ y)
  | .c _, hb, hd => denC_ren h hb hd
  | .a _, hb, ⟨vs, e, hd⟩ => ⟨vs, e, denL_ren h hb hd⟩
theorem den1_unren (h : ∀ n, n < g → ∀ m, β (σ n) = some m → β' n = some m) {x : Value} : ∀ {y : V1}, b1 g y = true → den1 β x (ren1 σ y) → den1 β' x y
  | .c _, hb, hd => denC_unren h hb hd
  | .a _, hb, ⟨vs, e, hd⟩ => ⟨vs, e, denL_unren h hb hd⟩
theorem denL1_ren (h : ∀ n, n < g → ∀ m, β' n = some m → β (σ n) = some m) : ∀ {xs : List Value} {l : List V1}, l.all (b1 g) = true → denL1 β' xs l → denL1 β xs (l.map (ren1 σ))
  | [], [], _, _ => trivial
  | _ :: _, _ :: _, hb, ⟨h1, r⟩ => by
    simp only [List.all_cons, Bool.and_eq_true] at hb
    exact ⟨den1_ren h hb.1 h1, denL1_ren h hb.2 r⟩
theorem denL1_unren (h : ∀ n, n < g → ∀ m, β (σ n) = some m → β' n = some m) : ∀ {xs : List Value} {l : List V1}, l.all (b1 g) = true → denL1 β xs (l.map (ren1 σ)) → denL1 β' xs l
  | [], [], _, _ => trivial
  | _ :: _, _ :: _, hb, ⟨h1, r⟩ => by
    simp only [List.all_cons, Bool.and_eq_true] at hb
    exact ⟨den1_unren h hb.1 h1, denL1_unren h hb.2 r⟩
theorem denS_ren (h : ∀ n, n < g → ∀ m, β' n = some m → β (σ n) = some m) {x : Value} : ∀ {y : SV}, bS g y = true → denS β' x y → denS β x (renS σ y)
  | .o _, hb, hd => den1_ren h hb hd
  | .t _, hb, ⟨vs, e, hd⟩ => ⟨vs, e, denL1_ren h hb hd⟩
theorem denS_unren (h : ∀ n, n < g → ∀ m, β (σ n) = some m → β' n = some m) {x : Value} : ∀ {y : SV}, bS g y = true → denS β x (renS σ y) → denS β' x y
  | .o _, hb, hd => den1_unren h hb hd
  | .t _, hb, ⟨vs, e, hd⟩ => ⟨vs, e, denL1_unren h hb hd⟩
theorem denLS_unren (h : ∀ n, n < g → ∀ m, β (σ n) = some m → β' n = some m) : ∀ {xs : List Value} {l : List SV}, l.all (bS g) = true → denLS β xs (l.map (renS σ)) → denLS β' xs l
  | [], [], _, _ => trivial
  | _ :: _, _ :: _, hb, ⟨h1, r⟩ => by
    simp only [List.all_cons, Bool.and_eq_true] at hb
    exact ⟨denS_unren h hb.1 h1, denLS_unren h hb.2 r⟩
theorem renBk_at (σ : Nat → Nat) (k : Bk) (i j : Nat) : (renBk σ k).at i j = (k.at i j).map (renC σ) := by
  unfold Bk.at
  cases k with
  | box l => by_cases h : i < 1 <;> simp [renBk, Bk.n, Bk.row, h]
  | ints ki xs =>
    by_cases h : i < xs.length
    · simp only [renBk, Bk.n, Bk.row, h, if_true]
      cases j <;> simp [renC]
    · simp [renBk, Bk.n, h]
  | bools xs =>
    by_cases h : i < xs.length
    · simp only [renBk, Bk.n, Bk.row, h, if_true]
      cases j <;> simp [renC]
    · simp [renBk, Bk.n, h]
  | rows sz n row => by_cases h : i < n <;> simp [renBk, Bk.n, Bk.row, h]
theorem renBk_need (σ : Nat → Nat) (k : Bk) : (renBk σ k).need = k.need := by cases k <;> simp [renBk, Bk.need, Bk.n, Bk.sz]
theorem renBk_fits (σ : Nat → Nat) (k : Bk) (s : Nat) : (renBk σ k).fits s ↔ k.fits s := by
  cases k with
  | box l => exact ⟨fun _ => .inl rfl, fun _ => .inl rfl⟩
  | ints ki xs => exact Iff.rfl
  | bools xs => exact Iff.rfl
  | rows sz n row =>
    constructor
    · rintro (h | ⟨h1, h2, h3⟩)
      · cases h
      · exact .inr ⟨h1, h2, fun i hi => by have := h3 i hi; simpa [renBk, Bk.row, Bk.sz] using this⟩
    · rintro (h | ⟨h1, h2, h3⟩)
      · cases h
      · exact .inr ⟨h1, h2, fun i hi => by have := h3 i hi; simpa [renBk, Bk.row, Bk.sz] using this⟩
theorem holds_ren (h : ∀ n, n < g → ∀ m, β' n = some m → β (σ n) = some m) {w : World} {m : Nm} {k : Blk} (hb : bBk g k.k) (hh : holds w β' m k) : holds w β m (renB σ k) := by
  refine ⟨(renBk_fits _ _ _).2 hh.fits, by rw [show (renB σ k).k.need = k.k.need from renBk_need _ _]; exact hh.need, hh.there.imp id fun ⟨c, T, fz, h1, h2, h3, h4⟩ => ⟨c, T, fz, h1, h2, h3, fun i j x hx => ?_⟩⟩
  rw [show (renB σ k).k.at i j = (k.k.at i j).map (renC σ) from renBk_at _ _ _ _] at hx
  cases hk : k.k.at i j with
  | none => rw [hk] at hx; cases hx
  | some x' =>
    rw [hk] at hx
    simp only [Option.map_some, Option.some.injEq] at hx
    subst hx
    obtain ⟨y, hy, hd⟩ := h4 i j x' hk
    exact ⟨y, hy, denC_ren h (bBk_at hb hk) hd⟩
theorem holds_unren (h : ∀ n, n < g → ∀ m, β (σ n) = some m → β' n = some m) {w : World} {m : Nm} {k : Blk} (hb : bBk g k.k) (hh : holds w β m (renB σ k)) : holds w β' m k := by
  have hn := hh.need
  rw [show (renB σ k).k.need = k.k.need from renBk_need _ _] at hn
  refine ⟨(renBk_fits _ _ _).1 hh.fits, hn, hh.there.imp id fun ⟨c, T, fz, h1, h2, h3, h4⟩ => ⟨c, T, fz, h1, h2, h3, fun i j x hx => ?_⟩⟩
  obtain ⟨y, hy, hd⟩ := h4 i j (renC σ x) (by rw [show (renB σ k).k.at i j = (k.k.at i j).map (renC σ) from renBk_at _ _ _ _, hx]; rfl)
  exact ⟨y, hy, denC_unren h (bBk_at hb hx) hd⟩
end

/-- names 0 .. k-1 of a contract are the caller's sg; the others lie from 'top' on -/
def sgF (sg : List Nat) (top : Nat) (n : Nat) : Nat := match sg, n with
  | [], n => top + n
  | x :: _, 0 => x
  | _ :: r, n + 1 => sgF r top n
theorem sgF_in : ∀ (sg : List Nat) (top n : Nat), n < sg.length → sg[n]? = some (sgF sg top n)
  | x :: r, top, 0, _ => rfl
  | x :: r, top, n + 1, h => by simpa [sgF] using sgF_in r top n (by simpa using h)
theorem sgF_out : ∀ (sg : List Nat) (top n : Nat), sg.length ≤ n → sgF sg top n = top + (n - sg.length)
  | [], top, n, _ => by simp [sgF]
  | x :: r, top, 0, h => by simp at h
  | x :: r, top, n + 1, h => by
    have := sgF_out r top n (by simpa using h)
    simp only [sgF, this, List.length_cons]
    congr 1
    omega

/-- what the caller must hold -/
def okRd (σ : Nat → Nat) (rd : Mem) : Mem → Nat → Prop
  | [], _ => True
  | none :: l, i => okRd σ rd l (i + 1)
  | some k :: l, i => rd.get (σ i) = some (renB σ k) ∧ okRd σ rd l (i + 1)
theorem okRd_get {σ : Nat → Nat} {rd : Mem} : ∀ (m0 : Mem) (i n : Nat) (k : Blk), okRd σ rd m0 i → m0.get n = some k → rd.get (σ (i + n)) = some (renB σ k)
  | [], _, _, _, _, h => by cases h
  | none :: l, i, 0, k, _, h => by cases h
  | some k' :: l, i, 0, k, ho, h => by simp only [Mem.get, Option.some.injEq] at h; subst h; exact ho.1
  | none :: l, i, n + 1, k, ho, h => by have := okRd_get l (i + 1) n k ho h; rwa [show i + (n + 1) = i + 1 + n by omega]
  | some k' :: l, i, n + 1, k, ho, h => by have := okRd_get l (i + 1) n k ho.2 h; rwa [show i + (n + 1) = i + 1 + n by omega]

/-- every name of the contract has a block; a name that may be written is the caller's only once -/
def okSg : List Nat → Mem → Bool
  | [], [] => true
  | x :: r, some k :: l => okOne x k.wr r l && okSg r l
  | _, _ => false
where
  okOne (x : Nat) (wr : Bool) : List Nat → Mem → Bool
    | y :: r, some k :: l => (!(wr || k.wr) || !(x == y)) && okOne x wr r l
    | _, _ => true
theorem okSg_len : ∀ {sg : List Nat} {m0 : Mem}, okSg sg m0 = true → sg.length = m0.length
  | [], [], _ => rfl
  | _ :: _, some _ :: _, h => by simp only [okSg, Bool.and_eq_true] at h; exact congrArg (· + 1) (okSg_len h.2)
theorem okSg_some : ∀ {sg : List Nat} {m0 : Mem}, okSg sg m0 = true → ∀ n, n < m0.length → ∃ k, m0.get n = some k
  | [], [], _, n, hn => by simp at hn
  | _ :: _, some k :: _, h, 0, _ => ⟨k, rfl⟩
  | _ :: _, some _ :: _, h, n + 1, hn => by simp only [okSg, Bool.and_eq_true] at h; exact okSg_some h.2 n (by simpa using hn)
theorem okOne_get : ∀ {sg : List Nat} {m0 : Mem} {x : Nat} {wr : Bool}, okSg.okOne x wr sg m0 = true → ∀ n y k, sg[n]? = some y → m0.get n = some k → (∀ j, j ≤ n → ∃ k', m0.get j = some k') → (wr = true ∨ k.wr = true) → x ≠ y
  | y :: r, some k :: l, x, wr, h, 0, y', k', hy, hk, _, hw => by
    simp at hy
    simp only [Mem.get, Option.some.injEq] at hk
    subst hy hk
    simp only [okSg.okOne, Bool.and_eq_true, Bool.or_eq_true, Bool.not_eq_true'] at h
    rcases h.1 with h' | h'
    · rcases hw with hw | hw <;> simp [hw] at h'
    · simpa using h'
  | y :: r, some k :: l, x, wr, h, n + 1, y', k', hy, hk, hs, hw => by
    simp only [okSg.okOne, Bool.and_eq_true] at h
    exact okOne_get h.2 n y' k' (by simpa using hy) hk (fun j hj => hs (j + 1) (by omega)) hw
  | [], _, _, _, _, n, _, _, hy, _, _, _ => by simp at hy
  | _ :: _, [], _, _, _, n, _, _, _, hk, _, _ => by cases hk
  | _ :: _, none :: _, _, _, _, _, _, _, _, _, hs, _ => by obtain ⟨k', h⟩ := hs 0 (Nat.zero_le _); cases h
theorem okSg_inj : ∀ {sg : List Nat} {m0 : Mem}, okSg sg m0 = true → ∀ (i j x y : Nat) (k k' : Blk), i < j → sg[i]? = some x → sg[j]? = some y → m0.get i = some k → m0.get j = some k' → (k.wr = true ∨ k'.wr = true) → x ≠ y
  | a :: r, some k0 :: l, h, 0, j + 1, x, y, k, k', _, hx, hy, hk, hk', hw => by
    simp at hx
    simp only [Mem.get, Option.some.injEq] at hk
    subst hx hk
    have h' := h
    simp only [okSg, Bool.and_eq_true] at h
    have hlen : j < l.length := by
      rcases Nat.lt_or_ge j l.length with h1 | h1
      · exact h1
      · simp only [Mem.get] at hk'; rw [Mem.get_ge l j h1] at hk'; cases hk'
    exact okOne_get h.1 j y k' (by simpa using hy) hk' (fun q hq => okSg_some h.2 q (by omega)) hw
  | a :: r, some k0 :: l, h, i + 1, j + 1, x, y, k, k', hij, hx, hy, hk, hk', hw => by
    simp only [okSg, Bool.and_eq_true] at h
    exact okSg_inj h.2 i j x y k k' (by omega) (by simpa using hx) (by simpa using hy) hk hk' hw
  | [], [], _, i, j, x, y, _, _, _, hx, _, _, _, _ => by simp at hx

/-- what the call leaves, in the caller's names -/
def upsOf (σ : Nat → Nat) : Mem → Mem → Nat → Ups
  | some k :: m0, b :: m1, i => if k.wr then (σ i, b.map (renB σ)) :: upsOf σ m0 m1 (i + 1) else upsOf σ m0 m1 (i + 1)
  | none :: m0, _ :: m1, i => upsOf σ m0 m1 (i + 1)
  | [], b :: m1, i => (σ i, b.map (renB σ)) :: upsOf σ [] m1 (i + 1)
  | _, [], _ => []

theorem upsOf_has {σ : Nat → Nat} : ∀ (m0 m1 : Mem) (i n : Nat), (upsOf σ m0 m1 i).has n = true → ∃ q, q < m1.length ∧ n = σ (i + q) ∧ (m0.length ≤ q ∨ ∃ k, m0.get q = some k ∧ k.wr = true)
  | some k :: m0, b :: m1, i, n, h => by
    have rest : (upsOf σ m0 m1 (i + 1)).has n = true → ∃ q, q < (b :: m1).length ∧ n = σ (i + q) ∧ ((some k :: m0).length ≤ q ∨ ∃ k', Mem.get (some k :: m0) q = some k' ∧ k'.wr = true) := fun h => by
      obtain ⟨q, h1, h2, h3⟩ := upsOf_has m0 m1 (i + 1) n h
      exact ⟨q + 1, by simpa using h1, by rw [h2]; congr 1; omega, h3.imp (fun h => by simpa using h) fun h => h⟩
    simp only [upsOf] at h
    split at h
    · rename_i hw
      simp only [Ups.has, Bool.or_eq_true, beq_iff_eq] at h
      rcases h with rfl | h
      · exact ⟨0, by simp, rfl, .inr ⟨k, rfl, hw⟩⟩
      · exact rest h
    · exact rest h
  | none :: m0, b :: m1, i, n, h => by
    simp only [upsOf] at h
    obtain ⟨q, h1, h2, h3⟩ := upsOf_has m0 m1 (i + 1) n h
    exact ⟨q + 1, by simpa using h1, by rw [h2]; congr 1; omega, h3.imp (fun h => by simpa using h) fun h => h⟩
  | [], b :: m1, i, n, h => by
    simp only [upsOf, Ups.has, Bool.or_eq_true, beq_iff_eq] at h
    rcases h with rfl | h
    · exact ⟨0, by simp, rfl, .inl (Nat.le_refl _)⟩
    · obtain ⟨q, h1, h2, h3⟩ := upsOf_has [] m1 (i + 1) n h
      exact ⟨q + 1, by simpa using h1, by rw [h2]; congr 1; omega, .inl (Nat.zero_le _)⟩
  | some _ :: _, [], _, _, h => by simp [upsOf, Ups.has] at h
  | none :: _, [], _, _, h => by simp [upsOf, Ups.has] at h
  | [], [], _, _, h => by simp [upsOf, Ups.has] at h

theorem upsOf_look {σ : Nat → Nat} : ∀ (m0 m1 : Mem) (i q : Nat), q < m1.length → (m0.length ≤ q ∨ ∃ k, m0.get q = some k ∧ k.wr = true) →
    (∀ q', q' < m1.length → (m0.length ≤ q' ∨ ∃ k, m0.get q' = some k ∧ k.wr = true) → σ (i + q') = σ (i + q) → q' = q) →
    (upsOf σ m0 m1 i).has (σ (i + q)) = true ∧ (upsOf σ m0 m1 i).look (σ (i + q)) = (m1.get q).map (renB σ)
  | some k :: m0, b :: m1, i, 0, _, hw, hinj => by
    have hw' : k.wr = true := by
      rcases hw with hw | ⟨k', hk, hw⟩
      · simp at hw
      · simp only [Mem.get, Option.some.injEq] at hk; subst hk; exact hw
    simp only [upsOf, hw', if_true, Ups.has, Ups.look, Nat.add_zero, beq_self_eq_true, Bool.true_or, true_and]
    have hno : (upsOf σ m0 m1 (i + 1)).has (σ i) = false := by
      cases hh : (upsOf σ m0 m1 (i + 1)).has (σ i) with
      | false => rfl
      | true =>
        obtain ⟨q, h1, h2, h3⟩ := upsOf_has m0 m1 (i + 1) _ hh
        have := hinj (q + 1) (by simpa using h1) (h3.imp (fun h => by simpa using h) fun h => h) (by rw [show i + (q + 1) = i + 1 + q by omega, ← h2]; rfl)
        omega
    rw [hno]
    simp [Mem.get]
  | some k :: m0, b :: m1, i, q + 1, hq, hw, hinj => by
    have ih := upsOf_look (σ := σ) m0 m1 (i + 1) q (by simpa using hq) (hw.imp (fun h => by simpa using h) fun h => h) (fun q' h1 h2 h3 => by
      have := hinj (q' + 1) (by simpa using h1) (h2.imp (fun h => by simpa using h) fun h => h) (by rw [show i + (q' + 1) = i + 1 + q' by omega, h3]; congr 1; omega)
      omega)
    rw [show i + 1 + q = i + (q + 1) by omega] at ih
    simp only [upsOf]
    split
    · simp only [Ups.has, Ups.look, ih.1, Bool.or_true, if_true, true_and]; exact ih.2
    · exact ih
  | none :: m0, b :: m1, i, 0, _, hw, _ => by
    rcases hw with hw | ⟨k', hk, hw⟩
    · simp at hw
    · cases hk
  | none :: m0, b :: m1, i, q + 1, hq, hw, hinj => by
    have ih := upsOf_look (σ := σ) m0 m1 (i + 1) q (by simpa using hq) (hw.imp (fun h => by simpa using h) fun h => h) (fun q' h1 h2 h3 => by
      have := hinj (q' + 1) (by simpa using h1) (h2.imp (fun h => by simpa using h) fun h => h) (by rw [show i + (q' + 1) = i + 1 + q' by omega, h3]; congr 1; omega)
      omega)
    rw [show i + 1 + q = i + (q + 1) by omega] at ih
    simp only [upsOf]
    exact ih
  | [], b :: m1, i, 0, _, _, hinj => by
    simp only [upsOf, Ups.has, Ups.look, Nat.add_zero, beq_self_eq_true, Bool.true_or, true_and]
    have hno : (upsOf σ [] m1 (i + 1)).has (σ i) = false := by
      cases hh : (upsOf σ [] m1 (i + 1)).has (σ i) with
      | false => rfl
      | true =>
        obtain ⟨q, h1, h2, h3⟩ := upsOf_has [] m1 (i + 1) _ hh
        have := hinj (q + 1) (by simpa using h1) (.inl (Nat.zero_le _)) (by rw [show i + (q + 1) = i + 1 + q by omega, ← h2]; rfl)
        omega
    rw [hno]
    simp [Mem.get]
  | [], b :: m1, i, q + 1, hq, _, hinj => by
    have ih := upsOf_look (σ := σ) [] m1 (i + 1) q (by simpa using hq) (.inl (Nat.zero_le _)) (fun q' h1 h2 h3 => by
      have := hinj (q' + 1) (by simpa using h1) (.inl (Nat.zero_le _)) (by rw [show i + (q' + 1) = i + 1 + q' by omega, h3]; congr 1; omega)
      omega)
    rw [show i + 1 + q = i + (q + 1) by omega] at ih
    simp only [upsOf, Ups.has, Ups.look, ih.1, Bool.or_true, if_true, true_and]
    exact ih.2
  | _, [], _, _, hq, _, _ => by simp at hq

def okNew : Mem → Mem → Bool
  | _, [] => true
  | [], some k :: l => k.wr && okNew [] l
  | [], none :: l => okNew [] l
  | some k0 :: m0, some k :: l => (!k0.wr || k.wr) && okNew m0 l
  | _ :: m0, _ :: l => okNew m0 l
theorem okNew_get : ∀ {m0 m1 : Mem} {n : Nat} {k : Blk}, okNew m0 m1 = true → m1.get n = some k → (m0.length ≤ n ∨ ∃ k0, m0.get n = some k0 ∧ k0.wr = true) → k.wr = true
  | _, [], _, _, _, h, _ => by cases h
  | [], some k' :: l, 0, k, hn, h, _ => by simp only [okNew, Bool.and_eq_true] at hn; simp only [Mem.get, Option.some.injEq] at h; subst h; exact hn.1
  | [], some k' :: l, n + 1, k, hn, h, _ => by simp only [okNew, Bool.and_eq_true] at hn; exact okNew_get (m0 := []) hn.2 h (.inl (Nat.zero_le _))
  | [], none :: l, 0, k, _, h, _ => by cases h
  | [], none :: l, n + 1, k, hn, h, _ => okNew_get (m0 := []) (m1 := l) hn h (.inl (Nat.zero_le _))
  | some k0 :: m0, some k' :: l, 0, k, hn, h, hw => by
    simp only [okNew, Bool.and_eq_true, Bool.or_eq_true, Bool.not_eq_true'] at hn
    simp only [Mem.get, Option.some.injEq] at h
    subst h
    rcases hw with hw | ⟨k1, hk, hw⟩
    · simp at hw
    · simp only [Mem.get, Option.some.injEq] at hk
      subst hk
      rcases hn.1 with h1 | h1
      · rw [hw] at h1; cases h1
      · exact h1
  | some k0 :: m0, some k' :: l, n + 1, k, hn, h, hw => by
    simp only [okNew, Bool.and_eq_true] at hn
    exact okNew_get hn.2 h (hw.imp (fun h => by simpa using h) fun h => h)
  | none :: m0, b :: l, 0, k, _, h, hw => by
    rcases hw with hw | ⟨k1, hk, _⟩
    · simp at hw
    · cases hk
  | none :: m0, b :: l, n + 1, k, hn, h, hw => by
    have hn' : okNew m0 l = true := by cases b <;> exact hn
    exact okNew_get hn' h (hw.imp (fun h => by simpa using h) fun h => h)
  | some k0 :: m0, none :: l, 0, k, _, h, _ => by cases h
  | some k0 :: m0, none :: l, n + 1, k, hn, h, hw => okNew_get (m0 := m0) (m1 := l) hn h (hw.imp (fun h => by simpa using h) fun h => h)
end Go.Sx
namespace Go.Sx

theorem FC.fact {P : Program} {g : FuncId} {args0 : List SV} {m0 : Mem} {v1 : SV} {m1 : Mem} (h : FC P g args0 m0 v1 m1) (hba : args0.all (bS m0.length) = true) (hbm : bM m0.length m0) (hnew : okNew m0 m1 = true)
    {sg : List Nat} {rd : Mem} (hsg : okSg sg m0 = true) (hrd : okRd (sgF sg rd.length) rd m0 0) :
    CallFact P g (args0.map (renS (sgF sg rd.length))) rd (renS (sgF sg rd.length) v1) (upsOf (sgF sg rd.length) m0 m1 0) := by
  refine ⟨h.can, fun W A β M w vals hSt hd hrdM hfresh => ?_⟩
  have hlen := okSg_len hsg
  generalize hσ : sgF sg rd.length = σ at *
  have hin : ∀ n, n < m0.length → sg[n]? = some (σ n) := fun n hn => by rw [← hσ]; exact sgF_in sg _ n (by omega)
  have hout : ∀ n, m0.length ≤ n → σ n = rd.length + (n - m0.length) := fun n hn => by rw [← hσ, sgF_out sg _ n (by omega), hlen]
  have hsome := okSg_some hsg
  have hrdn : ∀ n k, m0.get n = some k → rd.get (σ n) = some (renB σ k) := fun n k hk => by have := okRd_get m0 0 n k hrd hk; rwa [Nat.zero_add] at this
  have hlt0 : ∀ n k, m0.get n = some k → n < m0.length := fun n k hk => by
    rcases Nat.lt_or_ge n m0.length with h' | h'
    · exact h'
    · rw [Mem.get_ge m0 n h'] at hk; cases hk
  have hlt1 : ∀ n k, m1.get n = some k → n < m1.length := fun n k hk => by
    rcases Nat.lt_or_ge n m1.length with h' | h'
    · exact h'
    · rw [Mem.get_ge m1 n h'] at hk; cases hk
  have hrdlt : ∀ n, n < m0.length → σ n < rd.length := fun n hn => by
    obtain ⟨k, hk⟩ := hsome n hn
    have := hrdn n k hk
    rcases Nat.lt_or_ge (σ n) rd.length with h' | h'
    · exact h'
    · rw [Mem.get_ge rd _ h'] at this; cases this
  -- the names that may be written are the caller's once
  have hinj0 : ∀ i j k k', i ≠ j → m0.get i = some k → m0.get j = some k' → (k.wr = true ∨ k'.wr = true) → σ i ≠ σ j := fun i j k k' hne hi hj hw => by
    rcases Nat.lt_or_gt_of_ne hne with hlt | hgt
    · exact okSg_inj hsg i j _ _ k k' hlt (hin i (hlt0 i k hi)) (hin j (hlt0 j k' hj)) hi hj hw
    · exact Ne.symm (okSg_inj hsg j i _ _ k' k hgt (hin j (hlt0 j k' hj)) (hin i (hlt0 i k hi)) hj hi hw.symm)
  have hinj : ∀ q, (m0.length ≤ q ∨ ∃ k, m0.get q = some k ∧ k.wr = true) → ∀ q', (m0.length ≤ q' ∨ ∃ k, m0.get q' = some k ∧ k.wr = true) → σ q' = σ q → q' = q := fun q hq q' hq' he => by
    rcases Nat.lt_or_ge q m0.length with h1 | h1
    · rcases Nat.lt_or_ge q' m0.length with h2 | h2
      · rcases hq with hq | ⟨k, hk, hw⟩
        · omega
        rcases hq' with hq' | ⟨k', hk', hw'⟩
        · omega
        rcases Nat.decEq q' q with hne | hne
        · exact absurd he (hinj0 q' q k' k hne hk' hk (.inl hw'))
        · exact hne
      · have := hrdlt q h1
        rw [hout q' h2] at he
        omega
    · rcases Nat.lt_or_ge q' m0.length with h2 | h2
      · have := hrdlt q' h2
        rw [hout q h1] at he
        omega
      · rw [hout q h1, hout q' h2] at he
        omega
  have hlook : ∀ q, q < m1.length → (m0.length ≤ q ∨ ∃ k, m0.get q = some k ∧ k.wr = true) → (upsOf σ m0 m1 0).has (σ q) = true ∧ (upsOf σ m0 m1 0).look (σ q) = (m1.get q).map (renB σ) := fun q hq hw => by
    have := upsOf_look (σ := σ) m0 m1 0 q hq hw (fun q' h1 h2 h3 => hinj q hw q' h2 (by simpa using h3))
    simpa using this
  have hhas : ∀ n, (upsOf σ m0 m1 0).has n = true → ∃ q, q < m1.length ∧ n = σ q ∧ (m0.length ≤ q ∨ ∃ k, m0.get q = some k ∧ k.wr = true) := fun n hn => by
    obtain ⟨q, h1, h2, h3⟩ := upsOf_has m0 m1 0 n hn
    exact ⟨q, h1, by simpa using h2, h3⟩
  let β0 : Bet := fun n => if n < m0.length then β (σ n) else none
  have hβ0 : ∀ n, n < m0.length → β0 n = β (σ n) := fun n hn => by simp [β0, hn]
  have hnames : ∀ n k, m0.get n = some k → ∃ m, β (σ n) = some m ∧ holds w β m (renB σ k) := fun n k hk => hSt.names (σ n) _ (hrdM _ _ (hrdn n k hk))
  have hun : ∀ n, n < m0.length → ∀ m, β (σ n) = some m → β0 n = some m := fun n hn m hm => by rw [hβ0 n hn]; exact hm
  have hSt0 : St w (wrA β0 m0) β0 m0 w := by
    refine ⟨rfl, rfl, rfl, Nat.le_refl _, fun k hk _ => rfl, fun n k hk => ?_, fun n n' k k' m m' hne hk hk' hw hm hm' hr hr' => ?_, fun n k m hk hw hm hr => .inl ⟨n, k, m, hk, hw, hm, hr, rfl⟩⟩
    · obtain ⟨m, hm, hh⟩ := hnames n k hk
      exact ⟨m, hun n (hlt0 n k hk) m hm, holds_unren hun (bM_get hbm hk) hh⟩
    · rw [hβ0 n (hlt0 n k hk)] at hm
      rw [hβ0 n' (hlt0 n' k' hk')] at hm'
      exact hSt.sep (σ n) (σ n') _ _ m m' (hinj0 n n' k k' hne hk hk' (.inl hw)) (hrdM _ _ (hrdn n k hk)) (hrdM _ _ (hrdn n' k' hk')) hw hm hm' hr hr'
  refine (h.run β0 w vals (fun n hn => by simp [β0, Nat.not_lt.2 hn]) (fun n hn => ?_) hSt0 (denLS_unren hun hba hd)).mono fun e w' ⟨v', β1, he, hkeep, htop, hSt1, hdv⟩ => ?_
  · obtain ⟨k, hk⟩ := hsome n hn
    obtain ⟨m, hm, _⟩ := hnames n k hk
    rw [hβ0 n hn, hm]
    simp
  let β' : Bet := fun n => match β n with
    | some m => some m
    | none => if rd.length ≤ n ∧ n - rd.length + m0.length < m1.length then β1 (n - rd.length + m0.length) else none
  have hle : β.le β' := fun n m hm => by simp [β', hm]
  have hfr : ∀ q, m0.length ≤ q → q < m1.length → β (σ q) = none := fun q h1 h2 =>
    (hfresh (σ q) (hlook q h2 (.inl h1)).1 (Mem.get_ge rd _ (by rw [hout q h1]; omega))).1
  have hto : ∀ q, q < m1.length → ∀ m, β1 q = some m → β' (σ q) = some m := fun q hq m hm => by
    rcases Nat.lt_or_ge q m0.length with h1 | h1
    · rw [hkeep q h1, hβ0 q h1] at hm
      exact hle _ _ hm
    · have hn := hfr q h1 hq
      simp only [β', hn]
      rw [hout q h1, if_pos ⟨by omega, by omega⟩, show rd.length + (q - m0.length) - rd.length + m0.length = q by omega]
      exact hm
  -- the blocks that the call may have written
  have hwr : ∀ b, wrA β0 m0 b → ∃ i k m, m0.get i = some k ∧ k.wr = true ∧ β (σ i) = some m ∧ m.room ≠ 0 ∧ m.b = b := fun b ⟨i, k, m, hk, hw, hm, hr, hb⟩ => ⟨i, k, m, hk, hw, by rw [← hβ0 i (hlt0 i k hk)]; exact hm, hr, hb⟩
  have hwA : ∀ b, wrA β0 m0 b → A b ∨ W.heap.size ≤ b := fun b hb => by
    obtain ⟨i, k, m, hk, hw, hm, hr, rfl⟩ := hwr b hb
    exact hSt.perm (σ i) _ m (hrdM _ _ (hrdn i k hk)) hw hm hr
  have hlive : ∀ n k m, M.get n = some k → β n = some m → m.room ≠ 0 → m.b < w.heap.size := fun n k m hk hm hr => by
    obtain ⟨m', hm', hh⟩ := hSt.names n k hk
    rw [hm] at hm'; cases hm'
    rcases hh.there with h0 | ⟨c, T, fz, h1, _⟩
    · exact absurd h0 hr
    · exact (Array.getElem?_eq_some_iff.1 h1).1
  -- a name that the call does not leave anew keeps its block
  have hnot : ∀ n k m, (upsOf σ m0 m1 0).has n = false → M.get n = some k → β n = some m → m.room ≠ 0 → ¬ wrA β0 m0 m.b := fun n k m hn hk hm hr hw => by
    obtain ⟨i, k', m', hk', hw', hm', hr', hb⟩ := hwr _ hw
    have hne : σ i ≠ n := fun e => by
      have := (hlook i (by have := hlt0 i k' hk'; have := h.len; omega) (.inr ⟨k', hk', hw'⟩)).1
      rw [e, hn] at this
      cases this
    exact hSt.sep (σ i) n _ k m' m hne (hrdM _ _ (hrdn i k' hk')) hk hw' hm' hm hr' hr hb
  have hget : ∀ n k, (M.app (upsOf σ m0 m1 0)).get n = some k → (∃ q k1, q < m1.length ∧ n = σ q ∧ m1.get q = some k1 ∧ k = renB σ k1 ∧ (m0.length ≤ q ∨ ∃ k, m0.get q = some k ∧ k.wr = true)) ∨ ((upsOf σ m0 m1 0).has n = false ∧ M.get n = some k) := fun n k hk => by
    rw [Mem.get_app] at hk
    split at hk
    · rename_i hn
      obtain ⟨q, hq, rfl, hw⟩ := hhas n hn
      rw [(hlook q hq hw).2] at hk
      cases h1 : m1.get q with
      | none => rw [h1] at hk; cases hk
      | some k1 =>
        rw [h1] at hk
        simp only [Option.map_some, Option.some.injEq] at hk
        exact .inl ⟨q, k1, hq, rfl, h1, hk.symm, hw⟩
    · rename_i hn
      exact .inr ⟨by simpa using hn, hk⟩
  have hβold : ∀ n k m, M.get n = some k → β' n = some m → β n = some m := fun n k m hk hm => by
    obtain ⟨m', hm', _⟩ := hSt.names n k hk
    rw [hle n m' hm'] at hm
    rw [hm', hm]
  have hβnew : ∀ q k1 m, m1.get q = some k1 → β' (σ q) = some m → β1 q = some m := fun q k1 m hk hm => by
    obtain ⟨m', hm', _⟩ := hSt1.names q k1 hk
    rw [hto q (hlt1 q k1 hk) m' hm'] at hm
    rw [hm', hm]
  subst he
  refine ⟨v', β', rfl, hle, fun n hn hn' => ?_, ?_, denS_ren hto h.bv hdv⟩
  · simp only [β', hn] at hn'
    split at hn'
    · rename_i hc
      have hq : m0.length ≤ n - rd.length + m0.length := by omega
      have := (hlook (n - rd.length + m0.length) hc.2 (.inl hq)).1
      rw [hout _ hq, show rd.length + (n - rd.length + m0.length - m0.length) = n by omega] at this
      exact this
    · exact absurd rfl hn'
  · refine ⟨hSt1.os.trans hSt.os, hSt1.tape.trans hSt.tape, hSt1.output.trans hSt.output, Nat.le_trans hSt.size hSt1.size, fun k hk hA => ?_, fun n k hk => ?_, fun n n' k k' m m' hne hk hk' hw hm hm' hr hr' => ?_, fun n k m hk hw hm hr => ?_⟩
    · rw [hSt1.frame k (by have := hSt.size; omega) (fun hw => by rcases hwA k hw with h1 | h1; exact hA h1; omega)]
      exact hSt.frame k hk hA
    · rcases hget n k hk with ⟨q, k1, hq, rfl, hk1, rfl, _⟩ | ⟨hn, hk⟩
      · obtain ⟨m, hm, hh⟩ := hSt1.names q k1 hk1
        exact ⟨m, hto q hq m hm, holds_ren hto (bM_get h.bm1 hk1) hh⟩
      · obtain ⟨m, hm, hh⟩ := hSt.names n k hk
        refine ⟨m, hle n m hm, (hh.mono hle).heap ?_⟩
        by_cases h0 : m.room = 0
        · exact .inl h0
        · exact .inr (hSt1.frame m.b (hlive n k m hk hm h0) (hnot n k m hn hk hm h0))
    · -- a name of the call's against one that it did not leave anew
      have cross : ∀ q k1 n k m m', q < m1.length → m1.get q = some k1 → (m0.length ≤ q ∨ ∃ k, m0.get q = some k ∧ k.wr = true) → β1 q = some m → m.room ≠ 0 →
          (upsOf σ m0 m1 0).has n = false → M.get n = some k → β n = some m' → m'.room ≠ 0 → m.b ≠ m'.b := by
        intro q k1 n k m m' hq hk1 hwq hm hr hn hk hm' hr' he
        have hlt := hlive n k m' hk hm' hr'
        rcases hSt1.perm q k1 m hk1 (okNew_get hnew hk1 hwq) hm hr with h1 | h1
        · rw [he] at h1
          exact hnot n k m' hn hk hm' hr' h1
        · omega
      rcases hget n k hk with ⟨q, k1, hq, rfl, hk1, rfl, hwq⟩ | ⟨hn, hk⟩
      · rcases hget n' k' hk' with ⟨q', k1', hq', rfl, hk1', rfl, hwq'⟩ | ⟨hn', hk'⟩
        · exact hSt1.sep q q' k1 k1' m m' (fun e => hne (by rw [e])) hk1 hk1' hw (hβnew q k1 m hk1 hm) (hβnew q' k1' m' hk1' hm') hr hr'
        · exact cross q k1 n' k' m m' hq hk1 hwq (hβnew q k1 m hk1 hm) hr hn' hk' (hβold n' k' m' hk' hm') hr'
      · rcases hget n' k' hk' with ⟨q', k1', hq', rfl, hk1', rfl, hwq'⟩ | ⟨hn', hk'⟩
        · exact Ne.symm (cross q' k1' n k m' m hq' hk1' hwq' (hβnew q' k1' m' hk1' hm') hr' hn hk (hβold n k m hk hm) hr)
        · exact hSt.sep n n' k k' m m' hne hk hk' hw (hβold n k m hk hm) (hβold n' k' m' hk' hm') hr hr'
    · rcases hget n k hk with ⟨q, k1, hq, rfl, hk1, rfl, _⟩ | ⟨hn, hk⟩
      · rcases hSt1.perm q k1 m hk1 hw (hβnew q k1 m hk1 hm) hr with h1 | h1
        · exact hwA _ h1
        · exact .inr (Nat.le_trans hSt.size h1)
      · exact hSt.perm n k m hk hw (hβold n k m hk hm) hr

/-- AT A CALL -/
theorem FC.use {P : Program} {g : FuncId} {args0 : List SV} {m0 : Mem} {v1 : SV} {m1 : Mem} (h : FC P g args0 m0 v1 m1) (sg : List Nat) {args : List SV} {rd : Mem} {nm : Nat} {K : Kt}
    (hargs : args = args0.map (renS (sgF sg rd.length))) (hba : args0.all (bS m0.length) = true) (hbm : bM m0.length m0) (hnew : okNew m0 m1 = true) (hsg : okSg sg m0 = true) (hrd : okRd (sgF sg rd.length) rd m0 0)
    (hK : K (renS (sgF sg rd.length) v1) (upsOf (sgF sg rd.length) m0 m1 0)) : acall P g args rd nm K :=
  ⟨⟨_, _, by rw [hargs]; exact h.fact hba hbm hnew hsg hrd, hK⟩⟩
end Go.Sx
namespace Go.Sx

/-- at a call, what computes is left to the machine -/
theorem FC.u {P : Program} {g : FuncId} {args0 : List SV} {m0 : Mem} {v1 : SV} {m1 : Mem} (h : FC P g args0 m0 v1 m1) (sg : List Nat) {args : List SV} {rd : Mem} {nm : Nat} {K : Kt}
    (hK : K (renS (sgF sg rd.length) v1) (upsOf (sgF sg rd.length) m0 m1 0))
    (hargs : args = args0.map (renS (sgF sg rd.length)) := by exact rfl) (hrd : okRd (sgF sg rd.length) rd m0 0 := by repeat' (first | exact trivial | exact rfl | refine ⟨?_, ?_⟩))
    (hba : args0.all (bS m0.length) = true := by exact rfl) (hbm : bM m0.length m0 := by repeat' (first | exact trivial | exact rfl | refine ⟨?_, ?_⟩))
    (hnew : okNew m0 m1 = true := by exact rfl) (hsg : okSg sg m0 = true := by exact rfl) : acall P g args rd nm K :=
  FC.use h sg hargs hba hbm hnew hsg hrd hK
/-- at a call whose result is only told of -/
theorem FC.x {P : Program} {g : FuncId} {args0 : List SV} {m0 : Mem} {α : Type} {v : α → SV} {m : α → Mem} {Q : α → Prop} (h : ∃ a, FC P g args0 m0 (v a) (m a) ∧ Q a) (sg : List Nat) {args : List SV} {rd : Mem} {nm : Nat} {K : Kt}
    (hK : ∀ a, Q a → K (renS (sgF sg rd.length) (v a)) (upsOf (sgF sg rd.length) m0 (m a) 0))
    (hargs : args = args0.map (renS (sgF sg rd.length)) := by exact rfl) (hrd : okRd (sgF sg rd.length) rd m0 0 := by repeat' (first | exact trivial | exact rfl | refine ⟨?_, ?_⟩))
    (hba : args0.all (bS m0.length) = true := by exact rfl) (hbm : bM m0.length m0 := by repeat' (first | exact trivial | exact rfl | refine ⟨?_, ?_⟩))
    (hnew : ∀ a, okNew m0 (m a) = true := by exact fun _ => rfl) (hsg : okSg sg m0 = true := by exact rfl) : acall P g args rd nm K := by
  obtain ⟨a, hF, hQ⟩ := h
  exact FC.use hF sg hargs hba hbm (hnew a) hsg hrd (hK a hQ)
/-- a body -/
theorem FC.b {P : Program} (hm : P.follows .mixedOrders = true) {g : FuncId} {fn : Func} (hf : P.funcs[g]? = some fn) {c : Code} 
    {args0 : List SV} {m0 : Mem} {v1 : SV} {m1 : Mem} 
    (h : acode P m0.length c (args0 ++ undefs (fn.ntmps - args0.length)) m0 (postK P fn.results.toList v1 m1))
    (hb : fn.body = some c := by exact rfl) (hc : callable P g = true := by kernel_rfl) (hlen : m0.length ≤ m1.length := by exact Nat.le_of_ble_eq_true rfl) (hv : bS m1.length v1 = true := by exact rfl)
    (hm1 : bM m1.length m1 := by repeat' (first | exact trivial | exact rfl | refine ⟨?_, ?_⟩)) : FC P g args0 m0 v1 m1 :=
  FC.of_body hm hf hc hb rfl hlen hv hm1 h

theorem bselD {p : Prop} [Decidable p] {t f : Prop} (ht : p → t) (hf : ¬ p → f) : bsel (decide p) t f := bsel_intro (fun h => ht (of_decide_eq_true h)) fun h => hf (of_decide_eq_false h)
theorem bselE {a b : Int} {t f : Prop} (ht : a = b → t) (hf : a ≠ b → f) : bsel (a == b) t f := bsel_intro (fun h => ht (by simpa using h)) fun h => hf (by simpa using h)
theorem bselN {a b : Int} {t f : Prop} (ht : a ≠ b → t) (hf : a = b → f) : bsel (a != b) t f := bsel_intro (fun h => ht (by simpa using h)) fun h => hf (by simpa using h)
theorem bselNot {b : Bool} {t f : Prop} (h : bsel b f t) : bsel (!b) t f := by cases b <;> exact h
theorem bselT {b : Bool} {t f : Prop} (hb : b = true) (h : t) : bsel b t f := by subst hb; exact h
theorem bselF {b : Bool} {t f : Prop} (hb : b = false) (h : f) : bsel b t f := by subst hb; exact h

theorem wrap64_in {n : Int} (h1 : -9223372036854775808 ≤ n) (h2 : n ≤ 9223372036854775807) : IntKind.i64.wrap n = n := by rw [IntKind.wrap_i64]; omega
theorem wrapU64_in {n : Int} (h1 : 0 ≤ n) (h2 : n ≤ 18446744073709551615) : IntKind.u64.wrap n = n := by rw [IntKind.wrap_u64]; omega
end Go.Sx
namespace Go.Sx

theorem wrap_u64_nat (n : Nat) : IntKind.u64.wrap (n : Int) = ((n % 18446744073709551616 : Nat) : Int) := by
  rw [IntKind.wrap_u64]; omega
theorem ofInt_nat (k n : Nat) : (BitVec.ofInt k (n : Int)).toNat = n % 2 ^ k := by
  simp
theorem or_u64 {a b : Nat} (ha : a < 18446744073709551616) (hb : b < 18446744073709551616) : bitI .or .u64 (a : Int) (b : Int) = ((a ||| b : Nat) : Int) := by
  have h : a ||| b < 2 ^ 64 := Nat.or_lt_two_pow (n := 64) ha hb
  unfold bitI
  simp only [BitVec.toNat_or]
  rw [wrap_u64_nat, ofInt_nat, ofInt_nat]
  have e1 : a % 2 ^ IntKind.u64.bits = a := Nat.mod_eq_of_lt ha
  have e2 : b % 2 ^ IntKind.u64.bits = b := Nat.mod_eq_of_lt hb
  rw [e1, e2, Nat.mod_eq_of_lt h]
theorem xor_u64 {a b : Nat} (ha : a < 18446744073709551616) (hb : b < 18446744073709551616) : bitI .xor .u64 (a : Int) (b : Int) = ((a ^^^ b : Nat) : Int) := by
  have h : a ^^^ b < 2 ^ 64 := Nat.xor_lt_two_pow (n := 64) ha hb
  unfold bitI
  simp only [BitVec.toNat_xor]
  rw [wrap_u64_nat, ofInt_nat, ofInt_nat]
  have e1 : a % 2 ^ IntKind.u64.bits = a := Nat.mod_eq_of_lt ha
  have e2 : b % 2 ^ IntKind.u64.bits = b := Nat.mod_eq_of_lt hb
  rw [e1, e2, Nat.mod_eq_of_lt h]
theorem and_u64 {a b : Nat} (ha : a < 18446744073709551616) (hb : b < 18446744073709551616) : bitI .and .u64 (a : Int) (b : Int) = ((a &&& b : Nat) : Int) := by
  have h : a &&& b < 2 ^ 64 := Nat.lt_of_le_of_lt Nat.and_le_left ha
  unfold bitI
  simp only [BitVec.toNat_and]
  rw [wrap_u64_nat, ofInt_nat, ofInt_nat]
  have e1 : a % 2 ^ IntKind.u64.bits = a := Nat.mod_eq_of_lt ha
  have e2 : b % 2 ^ IntKind.u64.bits = b := Nat.mod_eq_of_lt hb
  rw [e1, e2, Nat.mod_eq_of_lt h]
theorem shl_u64 (a k : Nat) : IntKind.u64.wrap ((a : Int) * 2 ^ k) = ((a * 2 ^ k % 18446744073709551616 : Nat) : Int) := by
  rw [← wrap_u64_nat]; push_cast; rfl
theorem fdiv_nat (a k : Nat) : (a : Int).fdiv (2 ^ k) = ((a / 2 ^ k : Nat) : Int) := by
  rw [Int.fdiv_eq_ediv_of_nonneg _ (Int.pow_nonneg (by omega))]
  push_cast; rfl
theorem or_add {a b k : Nat} (h : a < 2 ^ k) : a ||| b * 2 ^ k = a + b * 2 ^ k := by
  rw [Nat.mul_comm, Nat.or_comm, Nat.add_comm, Nat.two_pow_add_eq_or_of_lt h]
theorem and_mask (a k : Nat) : a &&& (2 ^ k - 1) = a % 2 ^ k := Nat.and_two_pow_sub_one_eq_mod a k
theorem bitI_u64_nat (op : BinOp) (a b : Int) : ∃ n : Nat, n < 18446744073709551616 ∧ bitI op .u64 a b = (n : Int) := by
  unfold bitI
  cases op <;> exact ⟨_, Nat.mod_lt _ (by omega), wrap_u64_nat _⟩
theorem or_zero_u64 (op : BinOp) (a b : Int) : bitI .or .u64 (bitI op .u64 a b) 0 = bitI op .u64 a b := by
  obtain ⟨n, hn, e⟩ := bitI_u64_nat op a b
  rw [e, show (0 : Int) = ((0 : Nat) : Int) from rfl, or_u64 hn (by omega), Nat.or_zero]
end Go.Sx
namespace Go.Sx
open Go.RowKit

def betL (l : List Nm) : Bet := fun n => l[n]?
/-- all names are for reading, and lie there -/
def roM (w : World) (β : Bet) : Mem → List Nm → Prop
  | [], [] => True
  | some k :: m, a :: l => (k.wr = false ∧ holds w β a k) ∧ roM w β m l
  | _, _ => False
theorem roM_length {w : World} {β : Bet} : ∀ {m : Mem} {l : List Nm}, roM w β m l → m.length = l.length
  | [], [], _ => rfl
  | some _ :: _, _ :: _, ⟨_, h⟩ => congrArg (· + 1) (roM_length h)
  | none :: _, _ :: _, h => h.elim
  | [], _ :: _, h => h.elim
  | some _ :: _, [], h => h.elim
  | none :: _, [], h => h.elim
theorem roM_get {w : World} {β : Bet} : ∀ {m : Mem} {l : List Nm} (n : Nat) (k : Blk), roM w β m l → m.get n = some k → k.wr = false ∧ ∃ a, l[n]? = some a ∧ holds w β a k
  | some k' :: m, a :: l, 0, k, ⟨h, _⟩, e => by simp only [Mem.get, Option.some.injEq] at e; subst e; exact ⟨h.1, a, rfl, h.2⟩
  | some k' :: m, a :: l, n + 1, k, ⟨_, h⟩, e => by simpa using roM_get (m := m) (l := l) n k h e
  | none :: _, _ :: _, _, _, h, _ => h.elim
  | [], _, _, _, _, e => by cases e
  | some _ :: _, [], _, _, h, _ => h.elim
  | none :: _, [], _, _, h, _ => h.elim

/-- THE LAW's CALL -/
theorem law_calls {P : Program} {g : FuncId} {args0 : List SV} {m0 m1 : Mem} (h : FC P g args0 m0 (boo true) m1) (l : List Nm) (w : World) (vals : List Value) (hm : roM w (betL l) m0 l) (hd : denLS (betL l) vals args0) :
    Calls P g vals.toArray w fun e w' => e = .returned (.bool true) ∧ Below w.heap.size w w' := by
  have hlen := roM_length hm
  have hno : ∀ b, ¬ wrA (betL l) m0 b := fun b ⟨n, k, m, hk, hwr, _⟩ => by
    have := (roM_get n k hm hk).1
    rw [this] at hwr; cases hwr
  have hSt : St w (wrA (betL l) m0) (betL l) m0 w := by
    refine ⟨rfl, rfl, rfl, Nat.le_refl _, fun _ _ _ => rfl, fun n k hk => ?_, fun n n' k k' m m' _ hk _ hwr => ?_, fun n k m hk hwr => ?_⟩
    · obtain ⟨_, a, ha, hh⟩ := roM_get n k hm hk
      exact ⟨a, ha, hh⟩
    · have := (roM_get n k hm hk).1
      rw [this] at hwr; cases hwr
    · have := (roM_get n k hm hk).1
      rw [this] at hwr; cases hwr
  refine (h.run (betL l) w vals (fun n hn => ?_) (fun n hn => ?_) hSt hd).mono fun e w' ⟨v', β', he, _, _, hS, hv⟩ => ?_
  · unfold betL; exact List.getElem?_eq_none (by omega)
  · unfold betL; rw [List.getElem?_eq_getElem (by omega)]; exact Option.some_ne_none _
  · have : v' = .bool true := hv
    subst this
    exact ⟨he, hS.os, hS.tape, hS.output, hS.size, fun k hk => hS.frame k hk (hno k)⟩

/-- a slice of numbers that came in -/
def IsRowI (k : IntKind) (w : World) (a : Option Addr) (len cap : Nat) (zs : List Int) : Prop :=
  (a = none ∧ len = 0 ∧ cap = 0 ∧ zs = []) ∨
  ∃ x, a = some x ∧ len ≤ cap ∧ cap ≤ maxLen ∧ zs.length = cap ∧ (∀ i, i < zs.length → w.cell? (x.add i) = some (.int k (zs.getD i 0))) ∧ ∀ n ∈ zs, (Lit.int k n).wf = true

theorem cell_in {w : World} {x : Addr} {v : Value} (h : w.cell? x = some v) : ∃ c T fz, w.heap[x.block]? = some (.cells c T fz) ∧ c[x.off]? = some v := by
  unfold World.cell? at h
  split at h
  · rename_i c T fz hb
    split at h
    · cases h
    · exact ⟨c, T, fz, hb, h⟩
  · cases h

/-- it has a name: what is read of it are its elements -/
theorem ints_name {k : IntKind} {w : World} {a : Option Addr} {len cap : Nat} {zs : List Int} (h : IsRowI k w a len cap zs) :
    ∃ m : Nm, ∀ β : Bet, holds w β m ⟨.ints k (zs.take len), false⟩ ∧ ∀ n, β n = some m → denC β (.slice a len cap) (.s n 0 (zs.take len).length 1) := by
  have dull : ∀ (a : Option Addr) (len cap : Nat), len = 0 → cap = 0 → ∃ m : Nm, ∀ β : Bet, holds w β m ⟨.ints k ([] : List Int), false⟩ ∧ ∀ n, β n = some m → denC β (.slice a len cap) (.s n 0 0 1) := by
    intro a len cap hl hc
    subst hl; subst hc
    exact ⟨⟨0, 0, 1, 0⟩, fun β => ⟨⟨.inr ⟨rfl, Nat.one_pos, fun i hi => rfl⟩, Nat.le_refl _, .inl rfl⟩, fun n hn => ⟨a, 0, _, hn, rfl, rfl, Nat.le_refl _, Nat.zero_le _, .inl rfl⟩⟩⟩
  rcases h with ⟨rfl, rfl, rfl, rfl⟩ | ⟨x, rfl, hl, hm, hz, hcell, _⟩
  · exact dull _ _ _ rfl rfl
  · by_cases h0 : cap = 0
    · subst h0
      obtain rfl : len = 0 := by omega
      obtain rfl : zs = [] := List.eq_nil_of_length_eq_zero hz
      exact dull _ _ _ rfl rfl
    · have hc0 := hcell 0 (by omega)
      have hs : x.spot = none := by simpa [Addr.add] using World.cell?_spot hc0
      obtain ⟨b, off, spot⟩ := x
      simp only at hs
      subst hs
      have hcell' : ∀ i, i < cap → w.cell? ⟨b, off + i, none⟩ = some (.int k (zs.getD i 0)) := by
        intro i hi
        have := hcell i (by omega)
        by_cases hi0 : i = 0
        · subst hi0; simpa [Addr.add] using this
        · simpa [Addr.add, hi0] using this
      obtain ⟨c, T, fz, hb, _⟩ := cell_in (hcell' 0 (by omega))
      have hin : ∀ i, i < cap → c[off + i]? = some (.int k (zs.getD i 0)) := by
        intro i hi
        obtain ⟨c', T', fz', hb', hv⟩ := cell_in (hcell' i hi)
        simp only at hb hb' hv
        rw [hb] at hb'; cases hb'
        exact hv
      have hlen : (zs.take len).length = len := by simp; omega
      refine ⟨⟨b, off, 1, cap⟩, fun β => ⟨⟨.inr ⟨rfl, Nat.one_pos, fun i hi => rfl⟩, ?_, .inr ⟨c, T, fz, hb, ?_, (by intro h; cases h), ?_⟩⟩, fun n hn => ?_⟩⟩
      · show (zs.take len).length * 1 ≤ cap
        omega
      · have := hin (cap - 1) (by omega)
        have : off + (cap - 1) < c.size := by
          rcases Nat.lt_or_ge (off + (cap - 1)) c.size with h | h
          · exact h
          · rw [Array.getElem?_eq_none h] at this; cases this
        show off + cap ≤ c.size
        omega
      · intro i j x hx
        rw [Bk.at_some] at hx
        obtain ⟨hi, hj⟩ := hx
        replace hi : i < (zs.take len).length := hi
        replace hj : [C.v (.int k ((zs.take len).getD i 0))][j]? = some x := hj
        obtain rfl : j = 0 := by
          cases j with
          | zero => rfl
          | succ j => simp at hj
        simp only [List.getElem?_cons_zero, Option.some.injEq] at hj
        subst hj
        refine ⟨_, show c[off + i * 1 + 0]? = _ by rw [Nat.mul_one, Nat.add_zero]; exact hin i (by omega), ?_⟩
        show Value.int k (zs.getD i 0) = Value.int k ((zs.take len).getD i 0)
        rw [List.getD, List.getD, List.getElem?_take_of_lt (by omega)]
      · rw [hlen]
        exact ⟨_, cap, _, hn, rfl, rfl, hl, hm, .inr ⟨by simp, by simp⟩⟩
end Go.Sx
