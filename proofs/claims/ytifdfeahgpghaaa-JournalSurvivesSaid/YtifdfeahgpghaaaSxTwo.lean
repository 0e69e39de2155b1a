/- An abstract run of the program's code, part 2. Conditions: none. -/
import Derived.Test.YtifdfeahgpghaaaSxOne
import Derived.Still
import Derived.KernelRfl
import Derived.Recover
namespace Go.Sx

/-- what is kept of an operation that was carried out, or passed over -/
structure Rec where
  go : Bool
  fp : List Nat
  v : SV
  ups : Ups

def res (M : Mem) (fp : List Nat) : Mem := go M 0
where
  go : Mem → Nat → Mem
    | [], _ => []
    | x :: l, i => (if fp.contains i then x else none) :: go l (i + 1)
theorem res_go_get (fp : List Nat) : ∀ (M : Mem) (i n : Nat), (res.go fp M i).get n = if fp.contains (i + n) then M.get n else none
  | [], i, n => by simp [res.go, Mem.get]
  | x :: l, i, 0 => by simp [res.go, Mem.get]
  | x :: l, i, n + 1 => by
    have := res_go_get fp l (i + 1) n
    simp only [res.go, Mem.get, this]
    rw [show i + 1 + n = i + (n + 1) by omega]
theorem res_get (M : Mem) (fp : List Nat) (n : Nat) : (res M fp).get n = if fp.contains n then M.get n else none := by
  have := res_go_get fp M 0 n
  simpa [res] using this

def cellNames : C → List Nat
  | .p n _ _ => [n]
  | .s n _ _ _ => [n]
  | .f _ fi ca => (fi ++ ca).flatMap fun | .p n _ _ => [n] | _ => []
  | .m n => [n]
  | _ => []
def svNames : SV → List Nat
  | .o (.c c) => cellNames c
  | .o (.a l) => l.flatMap cellNames
  | .t l => l.flatMap fun | .c c => cellNames c | .a l => l.flatMap cellNames
def blkNames (M : Mem) (n : Nat) : List Nat :=
  match M.get n with
  | some ⟨.box l, _⟩ => l.flatMap cellNames
  | _ => []
def mapNames : SV → List Nat
  | .o (.c (.m n)) => [n]
  | _ => []
/-- the tables at global variables -/
def tabNames : Mem → Nat → List Nat
  | [], _ => []
  | some ⟨.map .glob _, _⟩ :: l, i => i :: tabNames l (i + 1)
  | _ :: l, i => tabNames l (i + 1)
/-- the names that an operation may look at or write -/
def fpOf (o : Oper) (fr : List SV) (M : Mem) : List Nat :=
  match o.op with
  | .load _ x => svNames (evO fr x)
  | .store _ x _ => svNames (evO fr x)
  | .convert _ _ x => svNames (evO fr x)
  | .mapUpdate _ m _ _ => svNames (evO fr m)
  | .lookup _ m _ _ => svNames (evO fr m)
  | .call c => (match c.callee with
    | .builtin .len => (evArgs fr c.args.toList).flatMap mapNames
    | .value f => let l := svNames (evO fr f) ++ (evArgs fr c.args.toList).flatMap svNames
           let l2 := l.flatMap (blkNames M)
           l ++ l2 ++ l2.flatMap (blkNames M) ++ tabNames M 0
    | _ => let l := (evArgs fr c.args.toList).flatMap svNames
           l ++ l.flatMap (blkNames M))
  | _ => []

def okUps (rd : Mem) (len : Nat) (ups : Ups) : Bool := ups.all fun u => (rd.get u.1).isSome || Nat.ble len u.1

/-- is the operation wanted? 'none': not known -/
def wantA (ops : Array Oper) (o : Oper) (fr : List SV) : Option Bool :=
  match o.guard with
  | none => some true
  | some (j, want) => (match (ops[j]?).bind (·.dst) with
    | none => some false
    | some d => (match frGet fr d with
      | .o (.c (.v (.bool b))) => some (b == want)
      | .t [] => some false
      | _ => none))

def runOps (P : Program) (ops : Array Oper) (draw : Bool) : List Oper → List SV → Mem → List Rec → (List SV → Mem → List Rec → Prop) → Prop
  | [], fr, M, rs, K => K fr M rs.reverse
  | o :: l, fr, M, rs, K =>
    let go (fr : List SV) : Prop :=
      let fp := if draw then fpOf o fr M else []
      let rd := if draw then res M fp else M
      evS P o fr rd M.length fun v ups => if okUps rd M.length ups then runOps P ops draw l (frPut fr o.dst v) (M.app ups) (⟨true, fp, v, ups⟩ :: rs) K else False
    let skip (fr : List SV) : Prop := runOps P ops draw l (frPut fr o.dst (.t [])) M (⟨false, [], .t [], []⟩ :: rs) K
    match o.guard with
    | none => go fr
    | some (j, want) => (match (ops[j]?).bind (·.dst) with
      | none => skip fr
      | some d => (match frGet fr d with
        | .o (.c (.v (.bool b))) => bsel b (bsel want (go (frSet fr d (boo true))) (skip (frSet fr d (boo true)))) (bsel want (skip (frSet fr d (boo false))) (go (frSet fr d (boo false))))
        | .t [] => skip fr
        | _ => False))

/-- the text's order, as facts -/
def Text (P : Program) (ops : Array Oper) (draw : Bool) : List Oper → List SV → Mem → List Rec → List SV → Mem → Prop
  | [], fr, M, [], fr', M' => fr' = fr ∧ M' = M
  | o :: l, fr, M, r :: rs, fr', M' =>
    wantA ops o fr = some r.go ∧
    (if r.go then
      let rd := if draw then res M r.fp else M
      SemOp P o fr rd r.v r.ups ∧ okUps rd M.length r.ups = true
     else r.v = .t [] ∧ r.ups = []) ∧
    Text P ops draw l (frPut fr o.dst r.v) (M.app r.ups) rs fr' M'
  | _, _, _, _, _, _ => False

theorem frSet_self : ∀ (fr : List SV) (d : Nat), frSet fr d (frGet fr d) = fr
  | [], _ => rfl
  | _ :: _, 0 => rfl
  | x :: l, d + 1 => congrArg (x :: ·) (frSet_self l d)

theorem Mem.get_len (M : Mem) : M.get M.length = none := Mem.get_ge M _ (Nat.le_refl _)

theorem runOps_text {P : Program} {ops : Array Oper} {draw : Bool} : ∀ (l : List Oper) (fr : List SV) (M : Mem) (rs : List Rec) (K : List SV → Mem → List Rec → Prop), runOps P ops draw l fr M rs K →
    ∃ rs' fr' M', Text P ops draw l fr M rs' fr' M' ∧ K fr' M' (rs.reverse ++ rs')
  | [], fr, M, rs, K, h => ⟨[], fr, M, ⟨rfl, rfl⟩, by simpa [runOps] using h⟩
  | o :: l, fr, M, rs, K, h => by
    have hgo : ∀ {fr : List SV}, wantA ops o fr = some true →
        (let fp := if draw then fpOf o fr M else []
         let rd := if draw then res M fp else M
         evS P o fr rd M.length fun v ups => if okUps rd M.length ups then runOps P ops draw l (frPut fr o.dst v) (M.app ups) (⟨true, fp, v, ups⟩ :: rs) K else False) →
        ∃ rs' fr' M', Text P ops draw (o :: l) fr M rs' fr' M' ∧ K fr' M' (rs.reverse ++ rs') := by
      intro fr hw h
      simp only at h
      generalize hfp : (if draw = true then fpOf o fr M else []) = fp at h
      generalize hrdd : (if draw = true then res M fp else M) = rd at h
      have hnm : rd.get M.length = none := by
        rw [← hrdd]
        cases draw with
        | true => simp only [if_true]; rw [res_get]; split; exact Mem.get_len M; rfl
        | false => simp only [Bool.false_eq_true, if_false]; exact Mem.get_len M
      obtain ⟨v, ups, hsem, hK⟩ := evS_sound hnm h
      by_cases hok : okUps rd M.length ups = true
      · rw [if_pos hok] at hK
        obtain ⟨rs', fr', M', ht, hk⟩ := runOps_text l _ _ _ _ hK
        refine ⟨⟨true, fp, v, ups⟩ :: rs', fr', M', ⟨hw, ?_, ht⟩, by simpa using hk⟩
        simp only [if_true, hrdd]
        exact ⟨hsem, hok⟩
      · rw [if_neg hok] at hK
        exact hK.elim
    have hskip : ∀ {fr : List SV}, wantA ops o fr = some false → runOps P ops draw l (frPut fr o.dst (.t [])) M (⟨false, [], .t [], []⟩ :: rs) K →
        ∃ rs' fr' M', Text P ops draw (o :: l) fr M rs' fr' M' ∧ K fr' M' (rs.reverse ++ rs') := by
      intro fr hw h
      obtain ⟨rs', fr', M', ht, hk⟩ := runOps_text l _ _ _ _ h
      exact ⟨⟨false, [], .t [], []⟩ :: rs', fr', M', ⟨hw, by simp, ht⟩, by simpa using hk⟩
    unfold runOps at h
    simp only at h
    split at h
    · rename_i hg
      exact hgo (by simp [wantA, hg]) h
    · rename_i j want hg
      split at h
      · rename_i hd
        exact hskip (by simp only [wantA, hg, hd]) h
      · rename_i d hd
        split at h
        · rename_i b hb
          have hself : frSet fr d (boo b) = fr := by
            have := frSet_self fr d
            rw [hb] at this
            exact this
          have hw : wantA ops o fr = some (b == want) := by simp only [wantA, hg, hd, hb]
          cases b with
          | true =>
            rw [hself] at h
            cases want with
            | true => exact hgo (by rw [hw]; rfl) h
            | false => exact hskip (by rw [hw]; rfl) h
          | false =>
            simp only [bsel] at h
            rw [hself] at h
            cases want with
            | true => exact hskip (by rw [hw]; rfl) h
            | false => exact hgo (by rw [hw]; rfl) h
        · rename_i hb
          exact hskip (by simp only [wantA, hg, hd, hb]) h
        · exact h.elim

theorem wanted_of {ops : Array Oper} {o : Oper} {fr : List SV} {β : Bet} {tmps : Array Value} {b : Bool} (h : wantA ops o fr = some b) (hF : ∀ d ∈ o.looksAt ops, denS β (tmps.getD d undef) (frGet fr d)) :
    Region.wanted o (yielded ops tmps) = b := by
  unfold wantA at h
  unfold Region.wanted
  split at h
  · rename_i hg; rw [hg]; cases h; rfl
  · rename_i j want hg
    rw [hg]
    simp only
    unfold yielded
    split at h
    · rename_i hd
      cases h
      simp [hd]
    · rename_i d hd
      have hdm : d ∈ o.looksAt ops := by simp [Oper.looksAt, hg, hd]
      have hden := hF d hdm
      split at h
      · rename_i b' hb
        cases h
        rw [hb] at hden
        have he : tmps.getD d undef = .bool b' := hden
        have hlt : d < tmps.size := by
          rcases Nat.lt_or_ge d tmps.size with h' | h'
          · exact h'
          · simp [Array.getD, Nat.not_lt.2 h', undef] at he
        have he' : tmps[d]? = some (.bool b') := by
          simp [Array.getD, hlt] at he
          simp [hlt, he]
        simp only [hd, Option.bind_some, he']
        cases b' <;> cases want <;> rfl
      · rename_i hb
        cases h
        rw [hb] at hden
        obtain ⟨vs, he, hvs⟩ := hden
        cases vs with
        | cons => cases hvs
        | nil =>
          simp only [hd, Option.bind_some]
          cases ht : tmps[d]? with
          | none => rfl
          | some x =>
            have : x = .tuple #[] := by
              have hlt : d < tmps.size := (Array.getElem?_eq_some_iff.1 ht).1
              simp [Array.getD, hlt] at he
              rw [Array.getElem?_eq_getElem hlt] at ht
              cases ht
              exact he
            subst this
            rfl
      · cases h

/-- names that are not yet given out -/
def Top (β : Bet) (n : Nat) : Prop := ∀ k, n ≤ k → β k = none

theorem Mem.put_length : ∀ (M : Mem) (n : Nat) (b : Option Blk), M.length ≤ (M.put n b).length ∧ n < (M.put n b).length
  | [], 0, _ => by simp [Mem.put]
  | [], n + 1, b => by have := Mem.put_length [] n b; simp [Mem.put] at this ⊢; omega
  | _ :: l, 0, _ => by simp [Mem.put]
  | _ :: l, n + 1, b => by have := Mem.put_length l n b; simp [Mem.put]; omega
theorem Mem.app_length : ∀ (ups : Ups) (M : Mem), M.length ≤ (M.app ups).length ∧ ∀ n, ups.has n = true → n < (M.app ups).length
  | [], M => ⟨Nat.le_refl _, fun n h => by cases h⟩
  | (k, b) :: r, M => by
    obtain ⟨h1, h2⟩ := Mem.app_length r (M.put k b)
    obtain ⟨h3, h4⟩ := Mem.put_length M k b
    refine ⟨Nat.le_trans h3 h1, fun n hn => ?_⟩
    simp only [Ups.has, Bool.or_eq_true, beq_iff_eq] at hn
    rcases hn with rfl | hn
    · exact Nat.lt_of_lt_of_le h4 h1
    · exact h2 n hn

theorem okUps_fresh {β : Bet} {M rd : Mem} {ups : Ups} (ht : Top β M.length) (h : okUps rd M.length ups = true) : ∀ n, ups.has n = true → rd.get n = none → β n = none ∧ M.length ≤ n := by
  intro n hn hr
  have : ∃ b, (n, b) ∈ ups := by
    clear h
    induction ups with
    | nil => cases hn
    | cons u r ih =>
      obtain ⟨k, b⟩ := u
      simp only [Ups.has, Bool.or_eq_true, beq_iff_eq] at hn
      rcases hn with rfl | hn
      · exact ⟨b, by simp⟩
      · obtain ⟨b', hb'⟩ := ih hn
        exact ⟨b', by simp [hb']⟩
  obtain ⟨b, hb⟩ := this
  have h' := List.all_eq_true.1 h _ hb
  simp only [hr, Option.isSome_none, Bool.false_or] at h'
  have hle : M.length ≤ n := Nat.le_of_ble_eq_true h'
  exact ⟨ht n hle, hle⟩

/-- A REGION IN THE TEXT's ORDER -/
theorem text_wpR {P : Program} {ops : Array Oper} {Q : Exit → Act → World → Prop} {W : World} {A : Nat → Prop} {rest : List Oper} : ∀ (l : List Oper) (fr : List SV) (M : Mem) (rs : List Rec) (fr' : List SV) (M' : Mem) (β : Bet) (a : Act) (w : World),
    Text P ops false l fr M rs fr' M' → St W A β M w → Fr β a.tmps fr → Top β M.length →
    (∀ β' a' w', β.le β' → St W A β' M' w' → Fr β' a'.tmps fr' → Top β' M'.length → a'.defers = a.defers → wpList P ops Q rest a' w') → wpList P ops Q (l ++ rest) a w
  | [], fr, M, rs, fr', M', β, a, w, ht, hSt, hF, hT, hQ => by
    cases rs with
    | cons => exact ht.elim
    | nil =>
      obtain ⟨rfl, rfl⟩ := ht
      exact hQ β a w (Bet.le_refl β) hSt hF hT rfl
  | o :: l, fr, M, rs, fr', M', β, a, w, ht, hSt, hF, hT, hQ => by
    cases rs with
    | nil => exact ht.elim
    | cons r rs =>
      obtain ⟨hw, hr, ht⟩ := ht
      have hwanted := wanted_of (β := β) (tmps := a.tmps) hw (fun d _ => hF.den d)
      show wpList P ops Q (o :: (l ++ rest)) a w
      unfold wpList
      rw [hwanted]
      have hput : ∀ (x : Act) (d : Option Tmp) (v : Value), (x.put d v).defers = x.defers := fun x d v => by cases d <;> rfl
      cases hg : r.go with
      | true =>
        rw [hg] at hr
        simp only [if_true, Bool.false_eq_true, if_false] at hr
        obtain ⟨hsem, hok⟩ := hr
        simp only [if_true]
        refine .inl (hsem W A β M w a _ Q hSt (fun x _ => hF.ev x) (fun n k h => h) (fun n hn hr => ?_) fun v' w' β' hle hdom hSt' hd => ?_)
        · obtain ⟨h1, h2⟩ := okUps_fresh hT hok n hn hr
          exact ⟨h1, hr⟩
        · obtain ⟨hl1, hl2⟩ := Mem.app_length r.ups M
          refine text_wpR l _ _ rs fr' M' β' _ w' ht hSt' ((hF.mono hle).put o.dst hd) (fun k hk => ?_) fun β'' a'' w'' hle' h1 h2 h3 h4 => hQ β'' a'' w'' (Bet.le_trans hle hle') h1 h2 h3 (by rw [h4, hput])
          cases hb : β' k with
          | none => rfl
          | some m =>
            exfalso
            have hn : β k = none := hT k (by omega)
            have := hl2 k (hdom k hn (by rw [hb]; simp))
            omega
      | false =>
        rw [hg] at hr
        simp only [Bool.false_eq_true, if_false] at hr
        obtain ⟨hv, hu⟩ := hr
        rw [hv, hu] at ht
        simp only [Bool.false_eq_true, if_false]
        exact text_wpR l _ _ rs fr' M' β _ w ht hSt (hF.put o.dst (x := .t []) ⟨[], rfl, trivial⟩) hT fun β'' a'' w'' hle' h1 h2 h3 h4 => hQ β'' a'' w'' hle' h1 h2 h3 (by rw [h4, hput])
theorem text_wp {P : Program} {ops : Array Oper} {Q : Exit → Act → World → Prop} {W : World} {A : Nat → Prop} (l : List Oper) (fr : List SV) (M : Mem) (rs : List Rec) (fr' : List SV) (M' : Mem) (β : Bet) (a : Act) (w : World)
    (ht : Text P ops false l fr M rs fr' M') (hSt : St W A β M w) (hF : Fr β a.tmps fr) (hT : Top β M.length)
    (hQ : ∀ β' a' w', β.le β' → St W A β' M' w' → Fr β' a'.tmps fr' → Top β' M'.length → a'.defers = a.defers → Q .normal a' w') : wpList P ops Q l a w := by
  have := text_wpR (rest := []) l fr M rs fr' M' β a w ht hSt hF hT hQ
  rwa [List.append_nil] at this
end Go.Sx
namespace Go.Sx

def frP (p : Nat → Bool) : List Oper → List Rec → Nat → List SV → List SV
  | o :: l, r :: rs, i, fr => frP p l rs (i + 1) (if p i then frPut fr o.dst r.v else fr)
  | _, _, _, fr => fr
def mP (p : Nat → Bool) : List Rec → Nat → Mem → Mem
  | r :: rs, i, M => mP p rs (i + 1) (if p i then M.app r.ups else M)
  | _, _, M => M
def lookF (p : Nat → Bool) : List Oper → List Rec → Nat → Nat → Option SV
  | o :: l, r :: rs, i, t => (match lookF p l rs (i + 1) t with
    | some v => some v
    | none => if p i && o.dst == some t then some r.v else none)
  | _, _, _, _ => none
def Ups.look : Ups → Nat → Option Blk
  | [], _ => none
  | (n, b) :: r, k => if Ups.has r k then Ups.look r k else if k = n then b else none
def lookM (p : Nat → Bool) : List Rec → Nat → Nat → Option (Option Blk)
  | r :: rs, i, n => (match lookM p rs (i + 1) n with
    | some v => some v
    | none => if p i && r.ups.has n then some (r.ups.look n) else none)
  | _, _, _ => none

theorem Mem.get_app : ∀ (ups : Ups) (M : Mem) (n : Nat), (M.app ups).get n = if ups.has n then ups.look n else M.get n
  | [], M, n => rfl
  | (k, b) :: r, M, n => by
    have := Mem.get_app r (M.put k b) n
    simp only [Mem.app, this, Ups.has, Ups.look, Mem.get_put]
    by_cases h1 : Ups.has r n = true
    · simp [h1]
    · simp only [h1, Bool.or_false, beq_iff_eq]
      by_cases h2 : n = k
      · subst h2; simp
      · simp [h2, Ne.symm h2]

theorem frPut_length (fr : List SV) (d : Option Nat) (x : SV) : (frPut fr d x).length = fr.length := by
  cases d with
  | none => rfl
  | some d => exact frSet_length fr d x
theorem frGet_put (fr : List SV) (d : Option Nat) (x : SV) (t : Nat) (ht : t < fr.length) : frGet (frPut fr d x) t = if d == some t then x else frGet fr t := by
  cases d with
  | none => rfl
  | some d =>
    simp only [frPut, frGet_set]
    by_cases h : t = d
    · subst h; simp [ht]
    · simp [h, Ne.symm h]
theorem frP_length (p : Nat → Bool) : ∀ (l : List Oper) (rs : List Rec) (i : Nat) (fr : List SV), (frP p l rs i fr).length = fr.length
  | o :: l, r :: rs, i, fr => by
    simp only [frP]
    rw [frP_length p l rs]
    split
    · exact frPut_length _ _ _
    · rfl
  | [], _, _, _ => by simp [frP]
  | _ :: _, [], _, _ => by simp [frP]
theorem frP_get (p : Nat → Bool) : ∀ (l : List Oper) (rs : List Rec) (i : Nat) (fr : List SV) (t : Nat), t < fr.length → frGet (frP p l rs i fr) t = (lookF p l rs i t).getD (frGet fr t)
  | o :: l, r :: rs, i, fr, t, ht => by
    simp only [frP, lookF]
    have hl : t < (if p i then frPut fr o.dst r.v else fr).length := by split; rw [frPut_length]; exact ht; exact ht
    rw [frP_get p l rs (i + 1) _ t hl]
    cases lookF p l rs (i + 1) t with
    | some v => rfl
    | none =>
      simp only [Option.getD_none]
      by_cases hp : p i = true
      · simp only [hp, if_true, Bool.true_and]
        rw [frGet_put _ _ _ _ ht]
        split <;> rfl
      · simp only [hp, Bool.false_and]
        rfl
  | [], _, _, _, _, _ => by simp [frP, lookF]
  | _ :: _, [], _, _, _, _ => by simp [frP, lookF]
theorem mP_get (p : Nat → Bool) : ∀ (rs : List Rec) (i : Nat) (M : Mem) (n : Nat), (mP p rs i M).get n = (lookM p rs i n).getD (M.get n)
  | r :: rs, i, M, n => by
    simp only [mP, lookM]
    rw [mP_get p rs (i + 1)]
    cases lookM p rs (i + 1) n with
    | some v => rfl
    | none =>
      simp only [Option.getD_none]
      by_cases hp : p i = true
      · simp only [hp, if_true, Bool.true_and, Mem.get_app]
        split <;> rfl
      · simp only [hp, Bool.false_and]
        rfl
  | [], _, _, _ => rfl

theorem lookF_congr {p q : Nat → Bool} : ∀ (l : List Oper) (rs : List Rec) (i t : Nat), (∀ k o, l[k]? = some o → o.dst = some t → p (i + k) = q (i + k)) → lookF p l rs i t = lookF q l rs i t
  | o :: l, r :: rs, i, t, h => by
    simp only [lookF]
    rw [lookF_congr (p := p) (q := q) l rs (i + 1) t fun k o' hk hd => by have := h (k + 1) o' (by simpa using hk) hd; rwa [show i + (k + 1) = i + 1 + k by omega] at this]
    by_cases hd : o.dst = some t
    · have := h 0 o rfl hd
      simp only [Nat.add_zero] at this
      rw [this]
    · simp [hd]
  | [], _, _, _, _ => by simp [lookF]
  | _ :: _, [], _, _, _ => by simp [lookF]
theorem lookM_congr {p q : Nat → Bool} : ∀ (rs : List Rec) (i n : Nat), (∀ k r, rs[k]? = some r → r.ups.has n = true → p (i + k) = q (i + k)) → lookM p rs i n = lookM q rs i n
  | r :: rs, i, n, h => by
    simp only [lookM]
    rw [lookM_congr (p := p) (q := q) rs (i + 1) n fun k r' hk hd => by have := h (k + 1) r' (by simpa using hk) hd; rwa [show i + (k + 1) = i + 1 + k by omega] at this]
    by_cases hd : r.ups.has n = true
    · have := h 0 r rfl hd
      simp only [Nat.add_zero] at this
      rw [this]
    · simp [hd]
  | [], _, _, _ => rfl
theorem lookF_none {p : Nat → Bool} : ∀ (l : List Oper) (rs : List Rec) (i t : Nat), (∀ k o, l[k]? = some o → o.dst = some t → p (i + k) = false) → lookF p l rs i t = none
  | o :: l, r :: rs, i, t, h => by
    simp only [lookF]
    rw [lookF_none l rs (i + 1) t fun k o' hk hd => by have := h (k + 1) o' (by simpa using hk) hd; rwa [show i + (k + 1) = i + 1 + k by omega] at this]
    by_cases hd : o.dst = some t
    · have := h 0 o rfl hd
      simp only [Nat.add_zero] at this
      simp [this]
    · simp [hd]
  | [], _, _, _, _ => by simp [lookF]
  | _ :: _, [], _, _, _ => by simp [lookF]
theorem lookM_none {p : Nat → Bool} : ∀ (rs : List Rec) (i n : Nat), (∀ k r, rs[k]? = some r → r.ups.has n = true → p (i + k) = false) → lookM p rs i n = none
  | r :: rs, i, n, h => by
    simp only [lookM]
    rw [lookM_none rs (i + 1) n fun k r' hk hd => by have := h (k + 1) r' (by simpa using hk) hd; rwa [show i + (k + 1) = i + 1 + k by omega] at this]
    by_cases hd : r.ups.has n = true
    · have := h 0 r rfl hd
      simp only [Nat.add_zero] at this
      simp [this]
    · simp [hd]
  | [], _, _, _ => rfl
theorem lookF_last {p : Nat → Bool} : ∀ (l : List Oper) (rs : List Rec) (i t k : Nat) (o : Oper) (r : Rec), l[k]? = some o → rs[k]? = some r → o.dst = some t → p (i + k) = true →
    (∀ k' o', k < k' → l[k']? = some o' → o'.dst = some t → p (i + k') = false) → lookF p l rs i t = some r.v
  | o' :: l, r' :: rs, i, t, 0, o, r, hl, hr, hd, hp, h => by
    simp at hl hr
    subst hl hr
    simp only [lookF]
    rw [lookF_none l rs (i + 1) t fun k o'' hk hd' => by have := h (k + 1) o'' (by omega) (by simpa using hk) hd'; rwa [show i + (k + 1) = i + 1 + k by omega] at this]
    simp only [Nat.add_zero] at hp
    simp [hp, hd]
  | o' :: l, r' :: rs, i, t, k + 1, o, r, hl, hr, hd, hp, h => by
    simp only [lookF]
    rw [lookF_last l rs (i + 1) t k o r (by simpa using hl) (by simpa using hr) hd (by rwa [show i + 1 + k = i + (k + 1) by omega]) fun k' o'' hk' hl' hd' => by
      have := h (k' + 1) o'' (by omega) (by simpa using hl') hd'; rwa [show i + (k' + 1) = i + 1 + k' by omega] at this]
  | [], _, _, _, _, _, _, hl, _, _, _, _ => by simp at hl
  | _ :: _, [], _, _, _, _, _, _, hr, _, _, _ => by simp at hr
theorem lookM_last {p : Nat → Bool} : ∀ (rs : List Rec) (i n k : Nat) (r : Rec), rs[k]? = some r → r.ups.has n = true → p (i + k) = true →
    (∀ k' r', k < k' → rs[k']? = some r' → r'.ups.has n = true → p (i + k') = false) → lookM p rs i n = some (r.ups.look n)
  | r' :: rs, i, n, 0, r, hr, hd, hp, h => by
    simp at hr
    subst hr
    simp only [lookM]
    rw [lookM_none rs (i + 1) n fun k o'' hk hd' => by have := h (k + 1) o'' (by omega) (by simpa using hk) hd'; rwa [show i + (k + 1) = i + 1 + k by omega] at this]
    simp only [Nat.add_zero] at hp
    simp [hp, hd]
  | r' :: rs, i, n, k + 1, r, hr, hd, hp, h => by
    simp only [lookM]
    rw [lookM_last rs (i + 1) n k r (by simpa using hr) hd (by rwa [show i + 1 + k = i + (k + 1) by omega]) fun k' o'' hk' hl' hd' => by
      have := h (k' + 1) o'' (by omega) (by simpa using hl') hd'; rwa [show i + (k' + 1) = i + 1 + k' by omega] at this]
  | [], _, _, _, _, hr, _, _, _ => by simp at hr

/-! ### the order of the edges -/
def befOne (acc : List Nat) (o : Oper) : Nat := o.after.toList.foldl (fun s e => if Region.binds .any e then s ||| (2 ^ e.on ||| acc.getD e.on 0) else s) 0
def bef : List Oper → List Nat → List Nat
  | [], acc => acc
  | o :: l, acc => bef l (acc ++ [befOne acc o])

theorem befOne_bit {acc : List Nat} {o : Oper} {i : Nat} (h : (befOne acc o).testBit i = true) : ∃ e ∈ o.after.toList, Region.binds .any e = true ∧ (e.on = i ∨ (acc.getD e.on 0).testBit i = true) := by
  have key : ∀ (es : List Edge) (s : Nat), (es.foldl (fun s e => if Region.binds .any e then s ||| (2 ^ e.on ||| acc.getD e.on 0) else s) s).testBit i = true →
      s.testBit i = true ∨ ∃ e ∈ es, Region.binds .any e = true ∧ (e.on = i ∨ (acc.getD e.on 0).testBit i = true) := by
    intro es
    induction es with
    | nil => exact fun s h => .inl h
    | cons e es ih =>
      intro s h
      rw [List.foldl_cons] at h
      rcases ih _ h with h | ⟨e', he', h'⟩
      · split at h
        · rename_i hb
          rw [Nat.testBit_or, Nat.testBit_or] at h
          simp only [Bool.or_eq_true] at h
          rcases h with h | h | h
          · exact .inl h
          · refine .inr ⟨e, by simp, hb, .inl ?_⟩
            rw [Nat.testBit_two_pow] at h
            simpa using h
          · exact .inr ⟨e, by simp, hb, .inr h⟩
        · exact .inl h
      · exact .inr ⟨e', by simp [he'], h'⟩
  rcases key _ _ h with h | h
  · simp at h
  · exact h

theorem bef_get : ∀ (l : List Oper) (acc : List Nat) (j : Nat), j < acc.length → (bef l acc).getD j 0 = acc.getD j 0
  | [], acc, j, _ => rfl
  | o :: l, acc, j, h => by
    simp only [bef]
    rw [bef_get l _ j (by simp; omega)]
    simp [List.getD, List.getElem?_append_left h]
theorem bef_new : ∀ (l : List Oper) (acc : List Nat) (k : Nat) (o : Oper), l[k]? = some o → ∃ acc', (bef l acc).getD (acc.length + k) 0 = befOne acc' o ∧ ∀ j, acc'.getD j 0 = if j < acc.length + k then (bef l acc).getD j 0 else 0
  | o' :: l, acc, 0, o, h => by
    simp at h
    subst h
    refine ⟨acc, ?_, fun j => ?_⟩
    · simp only [bef, Nat.add_zero]
      rw [bef_get l _ _ (by simp)]
      simp [List.getD]
    · split
      · rename_i hj
        simp only [bef]
        rw [bef_get l _ j (by simp; omega)]
        simp only [Nat.add_zero] at hj
        simp [List.getD, List.getElem?_append_left hj]
      · rename_i hj
        simp only [Nat.add_zero] at hj
        simp [List.getD, List.getElem?_eq_none (Nat.not_lt.1 hj)]
  | o' :: l, acc, k + 1, o, h => by
    obtain ⟨acc', h1, h2⟩ := bef_new l (acc ++ [befOne acc o']) k o (by simpa using h)
    simp only [List.length_append, List.length_singleton] at h1 h2
    refine ⟨acc', ?_, fun j => ?_⟩
    · simp only [bef]; rw [← h1]; congr 1; omega
    · rw [h2 j, show acc.length + 1 + k = acc.length + (k + 1) by omega]
      rfl
  | [], _, _, _, h => by simp at h

/-- closed under the edges -/
def Closed (L : List Oper) (S : Nat → Bool) : Prop := ∀ j o, L[j]? = some o → S j = true → ∀ e ∈ o.after.toList, Region.binds .any e = true → S e.on = true

theorem bef_step {L : List Oper} {j i : Nat} {o : Oper} (ho : L[j]? = some o) (h : ((bef L []).getD j 0).testBit i = true) :
    ∃ e ∈ o.after.toList, Region.binds .any e = true ∧ (e.on = i ∨ (e.on < j ∧ ((bef L []).getD e.on 0).testBit i = true)) := by
  obtain ⟨acc', h1, h2⟩ := bef_new L [] j o ho
  simp only [List.length_nil, Nat.zero_add] at h1 h2
  rw [h1] at h
  obtain ⟨e, he, hb, h⟩ := befOne_bit h
  refine ⟨e, he, hb, ?_⟩
  rcases h with h | h
  · exact .inl h
  · rw [h2] at h
    split at h
    · rename_i hlt; exact .inr ⟨hlt, h⟩
    · simp at h

theorem closed_bef {L : List Oper} {S : Nat → Bool} (hS : Closed L S) : ∀ (j : Nat) (i : Nat), S j = true → ((bef L []).getD j 0).testBit i = true → S i = true := by
  intro j
  induction j using Nat.strongRecOn with
  | _ j ih =>
    intro i hj h
    cases ho : L[j]? with
    | none =>
      exfalso
      have : ∀ (l : List Oper) (acc : List Nat), (bef l acc).length = acc.length + l.length := by
        intro l
        induction l with
        | nil => intro acc; rfl
        | cons o l ih => intro acc; simp only [bef]; rw [ih]; simp; omega
      have hlen := this L []
      have hnone : (bef L [])[j]? = none := by
        rw [List.getElem?_eq_none_iff] at ho ⊢
        simp at hlen; omega
      simp [List.getD, hnone] at h
    | some o =>
      obtain ⟨e, he, hb, h⟩ := bef_step ho h
      have hon := hS j o ho hj e he hb
      rcases h with rfl | ⟨hlt, h⟩
      · exact hon
      · exact ih e.on hlt i hon h

/-! ### the check -/
def slotConf (ops : Array Oper) (o o' : Oper) : Bool :=
  (match o.dst with | some d => (o'.looksAt ops).contains d || o'.dst == some d | none => false) || (match o'.dst with | some d => (o.looksAt ops).contains d | none => false)
def nameConf (r r' : Rec) : Bool := (r.ups.any fun u => r'.fp.contains u.1 || r'.ups.has u.1) || r'.ups.any fun u => r.fp.contains u.1
def okRow (ops : Array Oper) (b : Nat) (o' : Oper) (r' : Rec) : List Oper → List Rec → Nat → Nat → Bool
  | o :: l, r :: rs, i, j => if i < j then (!(slotConf ops o o' || nameConf r r') || b.testBit i) && okRow ops b o' r' l rs (i + 1) j else true
  | _, _, _, _ => true
def okAll (ops : Array Oper) (L : List Oper) (R : List Rec) (B : List Nat) : List Oper → List Rec → Nat → Bool
  | o :: l, r :: rs, j => o.after.toList.all (fun e => !Region.binds .any e || Nat.blt e.on j) && okRow ops (B.getD j 0) o r L R 0 j && okAll ops L R B l rs (j + 1)
  | _, _, _ => true
def okOrder (ops : Array Oper) (rs : List Rec) : Bool := okAll ops ops.toList rs (bef ops.toList []) ops.toList rs 0

theorem okRow_get {ops : Array Oper} {b : Nat} {o' : Oper} {r' : Rec} : ∀ (l : List Oper) (rs : List Rec) (i j k : Nat) (o : Oper) (r : Rec), okRow ops b o' r' l rs i j = true → l[k]? = some o → rs[k]? = some r → i + k < j →
    slotConf ops o o' = true ∨ nameConf r r' = true → b.testBit (i + k) = true
  | o1 :: l, r1 :: rs, i, j, 0, o, r, h, hl, hr, hlt, hc => by
    simp at hl hr
    subst hl hr
    simp only [okRow] at h
    rw [if_pos (by omega)] at h
    simp only [Bool.and_eq_true, Bool.or_eq_true, Bool.not_eq_true'] at h
    rcases h.1 with h' | h'
    · rcases hc with hc | hc <;> simp [hc] at h'
    · simpa using h'
  | o1 :: l, r1 :: rs, i, j, k + 1, o, r, h, hl, hr, hlt, hc => by
    simp only [okRow] at h
    rw [if_pos (by omega)] at h
    simp only [Bool.and_eq_true] at h
    have := okRow_get l rs (i + 1) j k o r h.2 (by simpa using hl) (by simpa using hr) (by omega) hc
    rwa [show i + (k + 1) = i + 1 + k by omega]
  | [], _, _, _, _, _, _, _, hl, _, _, _ => by simp at hl
  | _ :: _, [], _, _, _, _, _, _, _, hr, _, _ => by simp at hr
theorem okAll_get {ops : Array Oper} {L : List Oper} {R : List Rec} {B : List Nat} : ∀ (l : List Oper) (rs : List Rec) (j k : Nat) (o : Oper) (r : Rec), okAll ops L R B l rs j = true → l[k]? = some o → rs[k]? = some r →
    (∀ e ∈ o.after.toList, Region.binds .any e = true → e.on < j + k) ∧ okRow ops (B.getD (j + k) 0) o r L R 0 (j + k) = true
  | o1 :: l, r1 :: rs, j, 0, o, r, h, hl, hr => by
    simp at hl hr
    subst hl hr
    simp only [okAll, Bool.and_eq_true] at h
    refine ⟨fun e he hb => ?_, h.1.2⟩
    have := List.all_eq_true.1 h.1.1 e he
    simp only [hb, Bool.not_true, Bool.false_or] at this
    simpa [Nat.blt_eq] using this
  | o1 :: l, r1 :: rs, j, k + 1, o, r, h, hl, hr => by
    simp only [okAll, Bool.and_eq_true] at h
    have := okAll_get l rs (j + 1) k o r h.2 (by simpa using hl) (by simpa using hr)
    rwa [show j + 1 + k = j + (k + 1) by omega] at this
  | [], _, _, _, _, _, _, hl, _ => by simp at hl
  | _ :: _, [], _, _, _, _, _, _, hr => by simp at hr

/-! ### the theorem -/
/-- what the text's order says of one operation -/
structure Step (P : Program) (ops : Array Oper) (o : Oper) (r : Rec) (fr : List SV) (M : Mem) : Prop where
  want : wantA ops o fr = some r.go
  run : r.go = true → SemOp P o fr (res M r.fp) r.v r.ups
  ok : r.go = true → okUps (res M r.fp) M.length r.ups = true
  skip : r.go = false → r.v = .t [] ∧ r.ups = []

theorem text_steps {P : Program} {ops : Array Oper} : ∀ (l : List Oper) (fr : List SV) (M : Mem) (rs : List Rec) (fr' : List SV) (M' : Mem), Text P ops true l fr M rs fr' M' →
    rs.length = l.length ∧ fr' = frP (fun _ => true) l rs 0 fr ∧ M' = mP (fun _ => true) rs 0 M ∧
    ∀ k o r, l[k]? = some o → rs[k]? = some r → Step P ops o r (frP (fun j => decide (j < k)) l rs 0 fr) (mP (fun j => decide (j < k)) rs 0 M)
  | [], fr, M, [], fr', M', h => by
    obtain ⟨rfl, rfl⟩ := h
    exact ⟨rfl, rfl, rfl, fun k o r hk => by simp at hk⟩
  | o :: l, fr, M, r :: rs, fr', M', h => by
    obtain ⟨hw, hr, ht⟩ := h
    obtain ⟨h1, h2, h3, h4⟩ := text_steps l _ _ rs fr' M' ht
    have shiftF : ∀ (p q : Nat → Bool) (l : List Oper) (rs : List Rec) (i j : Nat) (fr : List SV), (∀ k, p (i + k) = q (j + k)) → frP p l rs i fr = frP q l rs j fr := by
      intro p q l
      induction l with
      | nil => intro rs i j fr _; simp [frP]
      | cons o l ih =>
        intro rs i j fr hpq
        cases rs with
        | nil => simp [frP]
        | cons r rs =>
          simp only [frP]
          have h0 := hpq 0
          simp only [Nat.add_zero] at h0
          rw [h0]
          exact ih rs (i + 1) (j + 1) _ fun k => by have := hpq (k + 1); rwa [show i + (k + 1) = i + 1 + k by omega, show j + (k + 1) = j + 1 + k by omega] at this
    have shiftM : ∀ (p q : Nat → Bool) (rs : List Rec) (i j : Nat) (M : Mem), (∀ k, p (i + k) = q (j + k)) → mP p rs i M = mP q rs j M := by
      intro p q rs
      induction rs with
      | nil => intro i j M _; rfl
      | cons r rs ih =>
        intro i j M hpq
        simp only [mP]
        have h0 := hpq 0
        simp only [Nat.add_zero] at h0
        rw [h0]
        exact ih (i + 1) (j + 1) _ fun k => by have := hpq (k + 1); rwa [show i + (k + 1) = i + 1 + k by omega, show j + (k + 1) = j + 1 + k by omega] at this
    refine ⟨by simp [h1], ?_, ?_, fun k o' r' hk hrk => ?_⟩
    · rw [h2]; simp only [frP, if_true]; exact shiftF _ _ l rs _ _ _ fun _ => rfl
    · rw [h3]; simp only [mP, if_true]; exact shiftM _ _ rs _ _ _ fun _ => rfl
    · cases k with
      | zero =>
        simp at hk hrk
        subst hk hrk
        have e1 : frP (fun j => decide (j < 0)) (o :: l) (r :: rs) 0 fr = fr := by
          have : ∀ (l : List Oper) (rs : List Rec) (i : Nat) (fr : List SV), frP (fun j => decide (j < 0)) l rs i fr = fr := by
            intro l
            induction l with
            | nil => intro rs i fr; simp [frP]
            | cons o l ih => intro rs i fr; cases rs with
              | nil => simp [frP]
              | cons r rs => simp only [frP, Nat.not_lt_zero, decide_false, Bool.false_eq_true, if_false]; exact ih rs _ fr
          exact this _ _ _ _
        have e2 : mP (fun j => decide (j < 0)) (r :: rs) 0 M = M := by
          have : ∀ (rs : List Rec) (i : Nat) (M : Mem), mP (fun j => decide (j < 0)) rs i M = M := by
            intro rs
            induction rs with
            | nil => intro i M; rfl
            | cons r rs ih => intro i M; simp only [mP, Nat.not_lt_zero, decide_false, Bool.false_eq_true, if_false]; exact ih _ M
          exact this _ _ _
        rw [e1, e2]
        refine ⟨hw, fun hg => ?_, fun hg => ?_, fun hg => ?_⟩
        · rw [hg] at hr; exact hr.1
        · rw [hg] at hr; exact hr.2
        · rw [hg] at hr; exact hr
      | succ k =>
        have := h4 k o' r' (by simpa using hk) (by simpa using hrk)
        have e1 : frP (fun j => decide (j < k + 1)) (o :: l) (r :: rs) 0 fr = frP (fun j => decide (j < k)) l rs 0 (frPut fr o.dst r.v) := by
          simp only [frP, Nat.zero_lt_succ, decide_true, if_true]
          exact shiftF _ _ l rs _ _ _ fun q => by simp; omega
        have e2 : mP (fun j => decide (j < k + 1)) (r :: rs) 0 M = mP (fun j => decide (j < k)) rs 0 (M.app r.ups) := by
          simp only [mP, Nat.zero_lt_succ, decide_true, if_true]
          exact shiftM _ _ rs _ _ _ fun q => by simp; omega
        rw [e1, e2]
        exact this
  | [], _, _, _ :: _, _, _, h => h.elim
  | _ :: _, _, _, [], _, _, h => h.elim

theorem St.congr {W : World} {A : Nat → Prop} {β : Bet} {M M' : Mem} {w : World} (h : St W A β M w) (he : ∀ n, M'.get n = M.get n) : St W A β M' w :=
  ⟨h.os, h.tape, h.output, h.size, h.frame, fun n k hk => h.names n k (by rw [← he]; exact hk), fun n n' k k' m m' hne hk hk' => h.sep n n' k k' m m' hne (by rw [← he]; exact hk) (by rw [← he]; exact hk'), fun n k m hk => h.perm n k m (by rw [← he]; exact hk)⟩

theorem mP_length (p : Nat → Bool) : ∀ (rs : List Rec) (i : Nat) (M : Mem), M.length ≤ (mP p rs i M).length
  | [], _, _ => Nat.le_refl _
  | r :: rs, i, M => by
    simp only [mP]
    refine Nat.le_trans ?_ (mP_length p rs (i + 1) _)
    split
    · exact (Mem.app_length r.ups M).1
    · exact Nat.le_refl _
theorem mP_has {p : Nat → Bool} : ∀ (rs : List Rec) (i : Nat) (M : Mem) (k : Nat) (r : Rec) (n : Nat), rs[k]? = some r → p (i + k) = true → r.ups.has n = true → n < (mP p rs i M).length
  | [], _, _, _, _, _, h, _, _ => by simp at h
  | r' :: rs, i, M, 0, r, n, h, hp, hn => by
    simp at h
    subst h
    simp only [Nat.add_zero] at hp
    simp only [mP, hp, if_true]
    exact Nat.lt_of_lt_of_le ((Mem.app_length _ M).2 n hn) (mP_length p rs _ _)
  | r' :: rs, i, M, k + 1, r, n, h, hp, hn => by
    simp only [mP]
    exact mP_has rs (i + 1) _ k r n (by simpa using h) (by rwa [show i + 1 + k = i + (k + 1) by omega]) hn

def sOf (listed : Array Bool) (j : Nat) : Bool := listed.getD j false

theorem sOf_set {listed : Array Bool} {i j : Nat} (hi : i < listed.size) : sOf (listed.setIfInBounds i true) j = if j = i then true else sOf listed j := by
  unfold sOf
  by_cases h : j = i
  · subst h; simp [hi]
  · rw [if_neg h]
    simp [Array.getElem?_setIfInBounds_ne (Ne.symm h)]

theorem Fr.congr {β : Bet} {tmps : Array Value} {fr fr' : List SV} (h : Fr β tmps fr) (hl : fr'.length = fr.length) (he : ∀ t, t < fr.length → frGet fr' t = frGet fr t) : Fr β tmps fr' := by
  have hout : ∀ (l : List SV) (t : Nat), l.length ≤ t → frGet l t = .o (.c .u) := by
    intro l
    induction l with
    | nil => intro t _; rfl
    | cons x l ih => intro t ht; cases t with
      | zero => simp at ht
      | succ t => exact ih t (by simpa using ht)
  refine ⟨by rw [h.len, hl], fun t => ?_⟩
  by_cases ht : t < fr.length
  · rw [he t ht]; exact h.den t
  · rw [hout fr' t (by omega)]; exact trivial

structure Inv (ops : Array Oper) (W : World) (A : Nat → Prop) (fr : List SV) (M : Mem) (rs : List Rec) (ds : List Deferred) (β0 : Bet) (listed : Array Bool) (β : Bet) (a : Act) (w : World) : Prop where
  size : listed.size = ops.size
  closed : Closed ops.toList (sOf listed)
  le : β0.le β
  st : St W A β (mP (sOf listed) rs 0 M) w
  fr : Fr β a.tmps (frP (sOf listed) ops.toList rs 0 fr)
  dom : ∀ n, β0 n = none → β n ≠ none → ∃ j r, rs[j]? = some r ∧ sOf listed j = true ∧ r.ups.has n = true
  ds : a.defers = ds

section
variable {P : Program} {ops : Array Oper} {W : World} {A : Nat → Prop} {fr : List SV} {M : Mem} {rs : List Rec} {ds : List Deferred} {β0 : Bet}
variable {mx : Nat} (hlen : rs.length = ops.toList.length) (hok : okOrder ops rs = true) (hT : Top β0 M.length)
  (hsteps : ∀ k o r, k < mx → ops.toList[k]? = some o → rs[k]? = some r → Step P ops o r (frP (fun j => decide (j < k)) ops.toList rs 0 fr) (mP (fun j => decide (j < k)) rs 0 M))
include hlen hok hT hsteps

theorem region_step {Q : Exit → Act → World → Prop} {listed : Array Bool} {β : Bet} {a : Act} {w : World} (inv : Inv ops W A fr M rs ds β0 listed β a w) {i : Nat} (hi : i ∈ Region.ready .any ops listed) (him : i < mx) :
    wpOp P ops Q i (fun a' w' => ∃ β', Inv ops W A fr M rs ds β0 (listed.setIfInBounds i true) β' a' w') a w := by
  obtain ⟨hnl, o, ho, hall⟩ := mem_ready.1 hi
  have hoL : ops.toList[i]? = some o := by simpa using ho
  have hisz : i < ops.size := (Array.getElem?_eq_some_iff.1 ho).1
  have hil : i < listed.size := by rw [inv.size]; exact hisz
  have hSi : sOf listed i = false := by
    unfold sOf
    simp [hil] at hnl ⊢
    exact hnl
  obtain ⟨r, hr⟩ : ∃ r, rs[i]? = some r := by
    have : i < rs.length := by rw [hlen]; simpa using hisz
    exact ⟨rs[i], List.getElem?_eq_getElem this⟩
  have st := hsteps i o r him hoL hr
  obtain ⟨_, hrow⟩ := okAll_get _ _ 0 i o r hok hoL hr
  simp only [Nat.zero_add] at hrow
  have hpre : ∀ k, ((bef ops.toList []).getD i 0).testBit k = true → sOf listed k = true := by
    intro k hk
    obtain ⟨e, he, hb, h⟩ := bef_step hoL hk
    have hon : sOf listed e.on = true := hall e (by simpa using he) hb
    rcases h with rfl | ⟨_, h⟩
    · exact hon
    · exact closed_bef inv.closed e.on k hon h
  have hpost : ∀ k o' r', ops.toList[k]? = some o' → rs[k]? = some r' → i < k → (slotConf ops o o' = true ∨ nameConf r r' = true) → sOf listed k = false := by
    intro k o' r' hk hrk hlt hc
    obtain ⟨_, hrow'⟩ := okAll_get _ _ 0 k o' r' hok hk hrk
    simp only [Nat.zero_add] at hrow'
    have := okRow_get _ _ 0 k i o r hrow' hoL hr (by omega) hc
    simp only [Nat.zero_add] at this
    cases hs : sOf listed k with
    | false => rfl
    | true =>
      have := closed_bef inv.closed k i hs this
      rw [hSi] at this
      cases this
  have hbefore : ∀ k o' r', ops.toList[k]? = some o' → rs[k]? = some r' → k < i → (slotConf ops o' o = true ∨ nameConf r' r = true) → sOf listed k = true := by
    intro k o' r' hk hrk hlt hc
    have := okRow_get _ _ 0 i k o' r' hrow hk hrk (by omega) hc
    simp only [Nat.zero_add] at this
    exact hpre k this
  have hrec : ∀ k o', ops.toList[k]? = some o' → ∃ r', rs[k]? = some r' := fun k o' hk => by
    have h1 := (List.getElem?_eq_some_iff.1 hk).1
    exact ⟨rs[k]'(by omega), List.getElem?_eq_getElem _⟩
  have hop : ∀ k r', rs[k]? = some r' → ∃ o', ops.toList[k]? = some o' := fun k r' hk => by
    have h1 := (List.getElem?_eq_some_iff.1 hk).1
    exact ⟨ops.toList[k]'(by omega), List.getElem?_eq_getElem _⟩
  -- slots that the operation looks at or writes
  have slotAgree : ∀ t, (t ∈ o.looksAt ops ∨ o.dst = some t) → ∀ k o', ops.toList[k]? = some o' → o'.dst = some t → k ≠ i → sOf listed k = decide (k < i) := by
    intro t ht k o' hk hd hne
    obtain ⟨r', hr'⟩ := hrec k o' hk
    rcases Nat.lt_or_gt_of_ne hne with hlt | hgt
    · rw [hbefore k o' r' hk hr' hlt (.inl (by
        simp only [slotConf, hd]
        rcases ht with ht | ht
        · simp [ht]
        · simp [ht]))]
      simp [hlt]
    · rw [hpost k o' r' hk hr' hgt (.inl (by
        simp only [slotConf, hd]
        rcases ht with ht | ht
        · simp [ht]
        · simp [ht]))]
      simp; omega
  have nameAgree : ∀ n, (r.fp.contains n = true ∨ r.ups.has n = true) → ∀ k r', rs[k]? = some r' → r'.ups.has n = true → k ≠ i → sOf listed k = decide (k < i) := by
    intro n hn k r' hk hd hne
    obtain ⟨o', ho'⟩ := hop k r' hk
    have hmem : ∀ (u : Ups), u.has n = true → ∃ b, (n, b) ∈ u := by
      intro u
      induction u with
      | nil => intro h; cases h
      | cons x u ih =>
        obtain ⟨m, b⟩ := x
        intro h
        simp only [Ups.has, Bool.or_eq_true, beq_iff_eq] at h
        rcases h with rfl | h
        · exact ⟨b, by simp⟩
        · obtain ⟨b', hb'⟩ := ih h; exact ⟨b', by simp [hb']⟩
    obtain ⟨b', hb'⟩ := hmem _ hd
    rcases Nat.lt_or_gt_of_ne hne with hlt | hgt
    · rw [hbefore k o' r' ho' hk hlt (.inr (by
        simp only [nameConf, Bool.or_eq_true, List.any_eq_true]
        exact .inl ⟨_, hb', hn⟩))]
      simp [hlt]
    · rw [hpost k o' r' ho' hk hgt (.inr (by
        simp only [nameConf, Bool.or_eq_true, List.any_eq_true]
        rcases hn with hn | hn
        · exact .inr ⟨_, hb', hn⟩
        · obtain ⟨b, hb⟩ := hmem _ hn
          exact .inl ⟨_, hb, .inr hd⟩))]
      simp; omega
  have hlook : ∀ t ∈ o.looksAt ops, frGet (frP (sOf listed) ops.toList rs 0 fr) t = frGet (frP (fun j => decide (j < i)) ops.toList rs 0 fr) t := by
    intro t ht
    by_cases htl : t < fr.length
    · rw [frP_get _ _ _ _ _ _ htl, frP_get _ _ _ _ _ _ htl]
      rw [lookF_congr (p := sOf listed) (q := fun j => decide (j < i)) ops.toList rs 0 t fun k o' hk hd => by
        simp only [Nat.zero_add]
        by_cases hki : k = i
        · subst hki; rw [hSi]; simp
        · exact slotAgree t (.inl ht) k o' hk hd hki]
    · have hout : ∀ (l : List SV) (t : Nat), l.length ≤ t → frGet l t = .o (.c .u) := by
        intro l
        induction l with
        | nil => intro t _; rfl
        | cons x l ih => intro t ht; cases t with
          | zero => simp at ht
          | succ t => exact ih t (by simpa using ht)
      rw [hout (frP (sOf listed) ops.toList rs 0 fr) t (by rw [frP_length]; exact Nat.le_of_not_lt htl), hout (frP (fun j => decide (j < i)) ops.toList rs 0 fr) t (by rw [frP_length]; exact Nat.le_of_not_lt htl)]
  have hwanted : Region.wanted o (yielded ops a.tmps) = r.go := wanted_of (β := β) st.want fun d hd => by rw [← hlook d hd]; exact inv.fr.den d
  have hclosed : Closed ops.toList (sOf (listed.setIfInBounds i true)) := by
    intro j oj hj hs e he hb
    rw [sOf_set hil] at hs ⊢
    split
    · rfl
    · split at hs
      · rename_i hji
        subst hji
        rw [hoL] at hj
        cases hj
        exact hall e (by simpa using he) hb
      · exact inv.closed j oj hj hs e he hb
  have hfrS : ∀ t, t < fr.length → frGet (frP (sOf (listed.setIfInBounds i true)) ops.toList rs 0 fr) t = frGet (frPut (frP (sOf listed) ops.toList rs 0 fr) o.dst r.v) t := by
    intro t ht
    rw [frGet_put _ _ _ _ (by rw [frP_length]; exact ht), frP_get _ _ _ _ _ _ ht, frP_get _ _ _ _ _ _ ht]
    by_cases hd : o.dst = some t
    · rw [lookF_last ops.toList rs 0 t i o r hoL hr hd (by simp [sOf_set hil]) fun k' o' hlt hk' hd' => by
        simp only [Nat.zero_add]
        rw [sOf_set hil, if_neg (by omega), slotAgree t (.inr hd) k' o' hk' hd' (by omega)]
        simp; omega]
      simp [hd]
    · rw [lookF_congr (p := sOf (listed.setIfInBounds i true)) (q := sOf listed) ops.toList rs 0 t fun k o' hk hd' => by
        simp only [Nat.zero_add]
        rw [sOf_set hil, if_neg (fun e => by subst e; rw [hoL] at hk; cases hk; exact hd hd')]]
      simp [hd]
  have hMS : ∀ n, (mP (sOf (listed.setIfInBounds i true)) rs 0 M).get n = ((mP (sOf listed) rs 0 M).app r.ups).get n := by
    intro n
    rw [Mem.get_app, mP_get, mP_get]
    by_cases hn : r.ups.has n = true
    · rw [lookM_last rs 0 n i r hr hn (by simp [sOf_set hil]) fun k' r' hlt hk' hd' => by
        simp only [Nat.zero_add]
        rw [sOf_set hil, if_neg (by omega), nameAgree n (.inr hn) k' r' hk' hd' (by omega)]
        simp; omega]
      simp [hn]
    · rw [lookM_congr (p := sOf (listed.setIfInBounds i true)) (q := sOf listed) rs 0 n fun k r' hk hd' => by
        simp only [Nat.zero_add]
        rw [sOf_set hil, if_neg (fun e => by subst e; rw [hr] at hk; cases hk; exact hn hd')]]
      simp [hn]
  have hput : ∀ (x : Act) (d : Option Tmp) (v : Value), (x.put d v).defers = x.defers := fun x d v => by cases d <;> rfl
  unfold wpOp
  simp only [ho]
  rw [hwanted]
  cases hg : r.go with
  | false =>
    obtain ⟨hv, hu⟩ := st.skip hg
    simp only [Bool.false_eq_true, if_false]
    refine ⟨β, by simpa using inv.size, hclosed, inv.le, inv.st.congr (fun n => by rw [hMS, hu]; rfl), ?_, fun n h1 h2 => ?_, by rw [hput]; exact inv.ds⟩
    · refine (inv.fr.put o.dst (x := .t []) ⟨[], rfl, trivial⟩).congr (by rw [frP_length, frPut_length, frP_length]) fun t ht => ?_
      rw [frPut_length, frP_length] at ht
      rw [hfrS t ht, hv]
    · obtain ⟨j, r', h3, h4, h5⟩ := inv.dom n h1 h2
      exact ⟨j, r', h3, by rw [sOf_set hil]; split; rfl; exact h4, h5⟩
  | true =>
    simp only [if_true]
    have hsame : ∀ n, (r.fp.contains n = true ∨ r.ups.has n = true) → (mP (sOf listed) rs 0 M).get n = (mP (fun j => decide (j < i)) rs 0 M).get n := by
      intro n hn
      rw [mP_get, mP_get, lookM_congr (p := sOf listed) (q := fun j => decide (j < i)) rs 0 n fun k r' hk hd => by
        simp only [Nat.zero_add]
        by_cases hki : k = i
        · subst hki; rw [hSi]; simp
        · exact nameAgree n hn k r' hk hd hki]
    refine .inl (st.run hg W A β (mP (sOf listed) rs 0 M) w a _ Q inv.st (fun x hx => ?_) (fun n k hk => ?_) (fun n hn hrn => ?_) fun v' w' β' hle hdom hSt' hd => ?_)
    · -- operands
      have key : evO (frP (sOf listed) ops.toList rs 0 fr) x = evO (frP (fun j => decide (j < i)) ops.toList rs 0 fr) x := by
        cases x with
        | tmp t =>
          simp only [evO]
          refine hlook t ?_
          simp only [Oper.looksAt, List.mem_append, List.mem_filterMap]
          exact .inl ⟨.tmp t, by simpa using hx, rfl⟩
        | _ => rfl
      rw [← key]
      exact inv.fr.ev x
    · rw [res_get] at hk
      split at hk
      · rename_i hc
        rw [hsame n (.inl hc)]; exact hk
      · cases hk
    · -- fresh names
      have hle : (mP (fun j => decide (j < i)) rs 0 M).length ≤ n := by
        have h1 := st.ok hg
        have : ∃ b, (n, b) ∈ r.ups := by
          have hmem : ∀ (u : Ups), u.has n = true → ∃ b, (n, b) ∈ u := by
            intro u
            induction u with
            | nil => intro h; cases h
            | cons x u ih =>
              obtain ⟨m, b⟩ := x
              intro h
              simp only [Ups.has, Bool.or_eq_true, beq_iff_eq] at h
              rcases h with rfl | h
              · exact ⟨b, by simp⟩
              · obtain ⟨b', hb'⟩ := ih h; exact ⟨b', by simp [hb']⟩
          exact hmem _ hn
        obtain ⟨b, hb⟩ := this
        have h2 := List.all_eq_true.1 h1 _ hb
        simp only [hrn, Option.isSome_none, Bool.false_or] at h2
        exact Nat.le_of_ble_eq_true h2
      refine ⟨?_, by rw [hsame n (.inr hn)]; exact Mem.get_ge _ _ hle⟩
      cases hb : β n with
      | none => rfl
      | some m =>
        exfalso
        have h0 : β0 n = none := hT n (Nat.le_trans (mP_length _ rs 0 M) hle)
        obtain ⟨j, r', h3, h4, h5⟩ := inv.dom n h0 (by rw [hb]; simp)
        by_cases hji : j = i
        · subst hji; rw [hSi] at h4; cases h4
        · have hj := nameAgree n (.inr hn) j r' h3 h5 hji
          rw [h4] at hj
          have := mP_has (p := fun j => decide (j < i)) rs 0 M j r' n h3 (by simp only [Nat.zero_add]; exact hj.symm) h5
          omega
    · refine ⟨β', by simpa using inv.size, hclosed, Bet.le_trans inv.le hle, hSt'.congr hMS, ?_, fun n h1 h2 => ?_, by rw [hput]; exact inv.ds⟩
      · refine ((inv.fr.mono hle).put o.dst hd).congr (by rw [frP_length, frPut_length, frP_length]) fun t ht => ?_
        rw [frPut_length, frP_length] at ht
        exact hfrS t ht
      · by_cases hb : β n = none
        · exact ⟨i, r, hr, by rw [sOf_set hil]; simp, hdom n hb h2⟩
        · obtain ⟨j, r', h3, h4, h5⟩ := inv.dom n h1 hb
          exact ⟨j, r', h3, by rw [sOf_set hil]; split; rfl; exact h4, h5⟩
end

theorem all_listed {ops : Array Oper} {rs : List Rec} (hlen : rs.length = ops.toList.length) (hok : okOrder ops rs = true) {listed : Array Bool} (hsz : listed.size = ops.size) (h : Region.ready .any ops listed = []) :
    ∀ i, i < ops.size → sOf listed i = true := by
  intro i
  induction i using Nat.strongRecOn with
  | _ i ih =>
    intro hi
    cases hs : sOf listed i with
    | true => rfl
    | false =>
      exfalso
      have ho : ops[i]? = some ops[i] := Array.getElem?_eq_getElem hi
      have hrl : i < rs.length := by rw [hlen]; simpa using hi
      obtain ⟨hedge, _⟩ := okAll_get _ _ 0 i ops[i] rs[i] hok (by simp [hi]) (List.getElem?_eq_getElem hrl)
      have : i ∈ Region.ready .any ops listed := mem_ready.2 ⟨by
        unfold sOf at hs
        have : i < listed.size := by omega
        simp [this] at hs ⊢
        exact hs, ops[i], ho, fun e he hb => ih e.on (by have := hedge e (by simpa using he) hb; omega) (by have := hedge e (by simpa using he) hb; omega)⟩
      rw [h] at this
      cases this

/-- A REGION THAT DRAWS ITS ORDER -/
theorem region_draw {P : Program} {ops : Array Oper} {id : Nat} {Q : Exit → Act → World → Prop} {W : World} {A : Nat → Prop} {fr : List SV} {M : Mem} {rs : List Rec} {fr' : List SV} {M' : Mem} {β0 : Bet} {a : Act} {w : World} (hm : P.follows .mixedOrders = true)
    (ht : Text P ops true ops.toList fr M rs fr' M') (hok : okOrder ops rs = true) (hT : Top β0 M.length) (hSt : St W A β0 M w) (hF : Fr β0 a.tmps fr)
    (hQ : ∀ β' a' w', β0.le β' → St W A β' M' w' → Fr β' a'.tmps fr' → Top β' M'.length → a'.defers = a.defers → Q .normal a' w') : (Code.region id ops true).wp P Q a w := by
  obtain ⟨hlen, hfr', hM', hsteps⟩ := text_steps _ _ _ _ _ _ ht
  have fin : ∀ (listed : Array Bool) (β : Bet) (a1 : Act) (w1 : World), Inv ops W A fr M rs a.defers β0 listed β a1 w1 → Region.ready .any ops listed = [] → Q .normal a1 w1 := by
    intro listed β a1 w1 inv hr
    have hall := all_listed hlen hok inv.size hr
    refine hQ β a1 w1 inv.le (inv.st.congr fun n => ?_) (inv.fr.congr (by rw [hfr', frP_length, frP_length]) fun t ht => ?_) (fun k hk => ?_) inv.ds
    · rw [hM', mP_get, mP_get, lookM_congr (p := fun _ => true) (q := sOf listed) rs 0 n fun k r hk _ => by
        rw [hall (0 + k) (by have := (List.getElem?_eq_some_iff.1 hk).1; rw [hlen] at this; simpa using this)]]
    · rw [frP_length] at ht
      rw [hfr', frP_get _ _ _ _ _ _ ht, frP_get _ _ _ _ _ _ ht, lookF_congr (p := fun _ => true) (q := sOf listed) ops.toList rs 0 t fun k o hk _ => by
        rw [hall (0 + k) (by have := (List.getElem?_eq_some_iff.1 hk).1; simpa using this)]]
    · cases hb : β k with
      | none => rfl
      | some m =>
        exfalso
        have h0 : β0 k = none := hT k (by rw [hM'] at hk; exact Nat.le_trans (mP_length _ rs 0 M) hk)
        obtain ⟨j, r, h3, _, h5⟩ := inv.dom k h0 (by rw [hb]; simp)
        have := mP_has (p := fun _ => true) rs 0 M j r k h3 rfl h5
        rw [hM'] at hk
        omega
  have go : ∀ (fuel : Nat) (listed : Array Bool) (β : Bet) (a1 : Act) (w1 : World), Inv ops W A fr M rs a.defers β0 listed β a1 w1 → (∀ i, i < ops.size → sOf listed i = false → True) → (List.range ops.size).countP (fun i => !sOf listed i) ≤ fuel → wpAny P .any ops Q fuel listed a1 w1 := by
    intro fuel
    induction fuel with
    | zero =>
      intro listed β a1 w1 inv _ hc
      have hr : Region.ready .any ops listed = [] := by
        cases hrr : Region.ready .any ops listed with
        | nil => rfl
        | cons i l =>
          exfalso
          have hi : i ∈ Region.ready .any ops listed := by rw [hrr]; simp
          obtain ⟨hnl, o, ho, _⟩ := mem_ready.1 hi
          have hisz : i < ops.size := (Array.getElem?_eq_some_iff.1 ho).1
          have hpos : 0 < (List.range ops.size).countP (fun i => !sOf listed i) := by
            rw [List.countP_pos_iff]
            refine ⟨i, by simpa using hisz, ?_⟩
            unfold sOf
            have : i < listed.size := by rw [inv.size]; exact hisz
            simp [this] at hnl ⊢
            exact hnl
          omega
      exact ⟨hr, fin listed β a1 w1 inv hr⟩
    | succ fuel ih =>
      intro listed β a1 w1 inv _ hc
      refine ⟨fin listed β a1 w1 inv, fun i hi => ?_⟩
      refine wpOp_mono (fun a2 w2 ⟨β2, inv2⟩ => ih _ β2 a2 w2 inv2 (fun _ _ _ => trivial) ?_) (region_step (mx := ops.size) hlen hok hT (fun k o r _ => hsteps k o r) inv hi (by obtain ⟨_, o, ho, _⟩ := mem_ready.1 hi; exact (Array.getElem?_eq_some_iff.1 ho).1))
      obtain ⟨hnl, o, ho, _⟩ := mem_ready.1 hi
      have hisz : i < ops.size := (Array.getElem?_eq_some_iff.1 ho).1
      have hil : i < listed.size := by rw [inv.size]; exact hisz
      have hSi : sOf listed i = false := by
        unfold sOf
        simp [hil] at hnl ⊢
        exact hnl
      -- one fewer is left
      have cnt : ∀ (l : List Nat), l.Nodup → l.countP (fun j => !sOf (listed.setIfInBounds i true) j) + (if i ∈ l then 1 else 0) ≤ l.countP (fun j => !sOf listed j) := by
        intro l
        induction l with
        | nil => intro _; simp
        | cons x l ihl =>
          intro hnd
          have hnd' := List.nodup_cons.1 hnd
          have := ihl hnd'.2
          simp only [List.countP_cons, sOf_set hil, List.mem_cons]
          simp only [sOf_set hil] at this
          by_cases hx : x = i
          · subst hx
            simp only [if_true, hSi, Bool.not_true, Bool.not_false, Bool.false_eq_true, if_false, true_or]
            rw [if_neg hnd'.1] at this
            omega
          · simp only [hx, if_false, Ne.symm hx, false_or]
            omega
      have := cnt (List.range ops.size) List.nodup_range
      rw [if_pos (by simpa using hisz)] at this
      omega
  refine wp_region_any hm (go ops.size _ β0 a _ ⟨by simp, fun j o _ hs => ?_, Bet.le_refl _, ?_, ?_, fun n h1 h2 => absurd h1 h2, rfl⟩ (fun _ _ _ => trivial) (Nat.le_trans List.countP_le_length (by simp)))
  · have : sOf (Array.replicate ops.size false) j = false := by
      unfold sOf
      rcases Nat.lt_or_ge j ops.size with h | h <;> simp [h]
    rw [this] at hs
    cases hs
  · refine hSt.drew.congr fun n => ?_
    rw [mP_get, lookM_none rs 0 n fun k r _ _ => by
      unfold sOf
      rcases Nat.lt_or_ge (0 + k) ops.size with h | h <;> simp at h <;> simp [h]]
    rfl
  · refine hF.congr (by rw [frP_length]) fun t ht => ?_
    rw [frP_get _ _ _ _ _ _ ht, lookF_none ops.toList rs 0 t fun k o _ _ => by
      unfold sOf
      rcases Nat.lt_or_ge (0 + k) ops.size with h | h <;> simp at h <;> simp [h]]
    rfl

/-! ### a region whose last operation panics -/
def Rec.dum : Rec := ⟨true, [], .t [], []⟩
def okLast (ops : Array Oper) : Bool := (List.range (ops.size - 1)).all fun k => ((bef ops.toList []).getD (ops.size - 1) 0).testBit k
/-- the last operation panics, whatever follows -/
def PanOp (P : Program) (o : Oper) (fr : List SV) (v : Value) : Prop :=
  ∀ (W : World) (A : Nat → Prop) (β : Bet) (M : Mem) (w : World) (a : Act) (next : Act → World → Prop) (Q : Exit → Act → World → Prop),
    St W A β M w → (∀ x ∈ o.op.operands, denS β (a.eval x) (evO fr x)) → Q (.panic [{ v, recovered := false }]) a w → o.wp P a w next Q

theorem frP_app (p : Nat → Bool) (o : Oper) (r : Rec) : ∀ (l : List Oper) (rs : List Rec) (i : Nat) (fr : List SV), rs.length = l.length → p (i + l.length) = false → frP p (l ++ [o]) (rs ++ [r]) i fr = frP p l rs i fr
  | [], [], i, fr, _, hp => by simp at hp; simp [frP, hp]
  | o' :: l, r' :: rs, i, fr, hl, hp => by
    simp only [List.cons_append, frP]
    exact frP_app p o r l rs (i + 1) _ (by simpa using hl) (by rw [← hp]; congr 1; simp; omega)
  | [], _ :: _, _, _, hl, _ => by simp at hl
  | _ :: _, [], _, _, hl, _ => by simp at hl
theorem mP_app (p : Nat → Bool) (r : Rec) : ∀ (rs : List Rec) (i : Nat) (M : Mem), p (i + rs.length) = false → mP p (rs ++ [r]) i M = mP p rs i M
  | [], i, M, hp => by simp at hp; simp [mP, hp]
  | r' :: rs, i, M, hp => by
    simp only [List.cons_append, mP]
    exact mP_app p r rs (i + 1) _ (by rw [← hp]; congr 1; simp; omega)

theorem region_drawP {P : Program} {ops : Array Oper} {id : Nat} {Q : Exit → Act → World → Prop} {W : World} {A : Nat → Prop} {fr : List SV} {M : Mem} {rs : List Rec} {fr' : List SV} {M' : Mem} {β0 : Bet} {a : Act} {w : World} (hm : P.follows .mixedOrders = true)
    {l : List Oper} {o : Oper} (hL : ops.toList = l ++ [o]) (hg : o.guard = none)
    (ht : Text P ops true l fr M rs fr' M') (hok : okOrder ops (rs ++ [Rec.dum]) = true) (hlast : okLast ops = true) (hT : Top β0 M.length) (hSt : St W A β0 M w) (hF : Fr β0 a.tmps fr)
    (hQ : ∀ β' a' w' next, β0.le β' → St W A β' M' w' → Fr β' a'.tmps fr' → Top β' M'.length → a'.defers = a.defers → o.wp P a' w' next Q) : (Code.region id ops true).wp P Q a w := by
  obtain ⟨hlen0, hfr', hM', hsteps0⟩ := text_steps _ _ _ _ _ _ ht
  have hsz : ops.size = l.length + 1 := by rw [← Array.length_toList, hL]; simp
  have hlen : (rs ++ [Rec.dum]).length = ops.toList.length := by rw [hL]; simp [hlen0]
  have hsteps : ∀ k o' r, k < l.length → ops.toList[k]? = some o' → (rs ++ [Rec.dum])[k]? = some r → Step P ops o' r (frP (fun j => decide (j < k)) ops.toList (rs ++ [Rec.dum]) 0 fr) (mP (fun j => decide (j < k)) (rs ++ [Rec.dum]) 0 M) := by
    intro k o' r hk h1 h2
    rw [hL, List.getElem?_append_left hk] at h1
    rw [List.getElem?_append_left (by omega)] at h2
    have := hsteps0 k o' r h1 h2
    rw [hL, frP_app _ _ _ _ _ _ _ hlen0 (by simp; omega), mP_app _ _ _ _ _ (by simp; omega)]
    exact this
  have hoL : ops.toList[l.length]? = some o := by rw [hL]; simp
  have hoA : ops[l.length]? = some o := by simpa using hoL
  have go : ∀ (fuel : Nat) (listed : Array Bool) (β : Bet) (a1 : Act) (w1 : World), Inv ops W A fr M (rs ++ [Rec.dum]) a.defers β0 listed β a1 w1 → sOf listed l.length = false → (List.range ops.size).countP (fun i => !sOf listed i) ≤ fuel → wpAny P .any ops Q fuel listed a1 w1 := by
    intro fuel
    induction fuel with
    | zero =>
      intro listed β a1 w1 inv hn hc
      exfalso
      have hpos : 0 < (List.range ops.size).countP (fun i => !sOf listed i) := by
        rw [List.countP_pos_iff]
        exact ⟨l.length, by simp [hsz], by simp [hn]⟩
      omega
    | succ fuel ih =>
      intro listed β a1 w1 inv hn hc
      refine ⟨fun hr => ?_, fun i hi => ?_⟩
      · have := all_listed hlen hok inv.size hr l.length (by omega)
        rw [hn] at this
        cases this
      · by_cases hil0 : i = l.length
        · subst hil0
          obtain ⟨_, o2, ho2, hall⟩ := mem_ready.1 hi
          have hpre : ∀ k, k < l.length → sOf listed k = true := by
            intro k hk
            have hk2 : ((bef ops.toList []).getD l.length 0).testBit k = true := by
              have := List.all_eq_true.1 hlast k (by simp [hsz]; exact hk)
              simpa [hsz] using this
            obtain ⟨e, he, hb, h⟩ := bef_step hoL hk2
            rw [hoA] at ho2
            cases ho2
            have hon : sOf listed e.on = true := hall e (by simpa using he) hb
            rcases h with rfl | ⟨_, h⟩
            · exact hon
            · exact closed_bef inv.closed e.on k hon h
          unfold wpOp
          simp only [hoA]
          have hw : Region.wanted o (yielded ops a1.tmps) = true := by unfold Region.wanted; rw [hg]
          rw [if_pos hw]
          refine .inl (hQ β a1 w1 _ inv.le (inv.st.congr fun n => ?_) (inv.fr.congr (by rw [hfr', frP_length, frP_length]) fun t ht => ?_) (fun k hk => ?_) inv.ds)
          · rw [hM', mP_app _ _ _ _ _ (by rw [Nat.zero_add, hlen0]; exact hn), mP_get, mP_get, lookM_congr (p := fun _ => true) (q := sOf listed) rs 0 n fun k r hk _ => by
              rw [hpre (0 + k) (by have := (List.getElem?_eq_some_iff.1 hk).1; omega)]]
          · rw [frP_length] at ht
            rw [hfr', hL, frP_app _ _ _ _ _ _ _ hlen0 (by rw [Nat.zero_add]; exact hn), frP_get _ _ _ _ _ _ ht, frP_get _ _ _ _ _ _ ht, lookF_congr (p := fun _ => true) (q := sOf listed) l rs 0 t fun k o hk _ => by
              rw [hpre (0 + k) (by have := (List.getElem?_eq_some_iff.1 hk).1; omega)]]
          · cases hb : β k with
            | none => rfl
            | some m =>
              exfalso
              have h0 : β0 k = none := hT k (by rw [hM'] at hk; exact Nat.le_trans (mP_length _ rs 0 M) hk)
              obtain ⟨j, r, h3, h3', h5⟩ := inv.dom k h0 (by rw [hb]; simp)
              have hjl : j < rs.length := by
                have := (List.getElem?_eq_some_iff.1 h3).1
                simp at this
                rcases Nat.lt_or_ge j rs.length with h | h
                · exact h
                · have : j = l.length := by omega
                  subst this
                  rw [hn] at h3'
                  cases h3'
              rw [List.getElem?_append_left hjl] at h3
              have := mP_has (p := fun _ => true) rs 0 M j r k h3 rfl h5
              rw [hM'] at hk
              omega
        · obtain ⟨hnl, o2, ho2, _⟩ := mem_ready.1 hi
          have hisz : i < ops.size := (Array.getElem?_eq_some_iff.1 ho2).1
          have hil : i < listed.size := by rw [inv.size]; exact hisz
          refine wpOp_mono (fun a2 w2 ⟨β2, inv2⟩ => ih _ β2 a2 w2 inv2 ?_ ?_) (region_step (mx := l.length) hlen hok hT hsteps inv hi (by omega))
          · rw [sOf_set hil, if_neg (Ne.symm hil0)]; exact hn
          have hSi : sOf listed i = false := by
            unfold sOf
            simp [hil] at hnl ⊢
            exact hnl
          have cnt : ∀ (l : List Nat), l.Nodup → l.countP (fun j => !sOf (listed.setIfInBounds i true) j) + (if i ∈ l then 1 else 0) ≤ l.countP (fun j => !sOf listed j) := by
            intro l
            induction l with
            | nil => intro _; simp
            | cons x l ihl =>
              intro hnd
              have hnd' := List.nodup_cons.1 hnd
              have := ihl hnd'.2
              simp only [List.countP_cons, sOf_set hil, List.mem_cons]
              simp only [sOf_set hil] at this
              by_cases hx : x = i
              · subst hx
                simp only [if_true, hSi, Bool.not_true, Bool.not_false, Bool.false_eq_true, if_false, true_or]
                rw [if_neg hnd'.1] at this
                omega
              · simp only [hx, if_false, Ne.symm hx, false_or]
                omega
          have := cnt (List.range ops.size) List.nodup_range
          rw [if_pos (by simpa using hisz)] at this
          omega
  have hs0 : ∀ j, sOf (Array.replicate ops.size false) j = false := fun j => by
    unfold sOf
    rcases Nat.lt_or_ge j ops.size with h | h <;> simp [h]
  refine wp_region_any hm (go ops.size _ β0 a _ ⟨by simp, fun j o _ hs => ?_, Bet.le_refl _, ?_, ?_, fun n h1 h2 => absurd h1 h2, rfl⟩ (hs0 _) (Nat.le_trans List.countP_le_length (by simp)))
  · rw [hs0] at hs
    cases hs
  · refine hSt.drew.congr fun n => ?_
    rw [mP_get, lookM_none _ 0 n fun k r _ _ => hs0 _]
    rfl
  · refine hF.congr (by rw [frP_length]) fun t ht => ?_
    rw [frP_get _ _ _ _ _ _ ht, lookF_none ops.toList _ 0 t fun k o _ _ => hs0 _]
    rfl

/-- A CONTRACT of a function that panics with v: it turns nothing -/
structure PC (P : Program) (g : FuncId) (args0 : List SV) (v : Value) : Prop where
  can : Go.Sx.callable P g = true
  run : ∀ (β : Bet) (w : World) (vals : List Value), denLS β vals args0 → Calls P g vals.toArray w fun e w' => e = .panicked [{ v, recovered := false }] ∧ w' = w
/-- a call that panics -/
def panS (P : Program) (o : Oper) (fr : List SV) (v : Value) : Prop :=
  match o.op with
  | .call c => (match c.callee with
    | .value (.func g) => PC P g (evArgs fr c.args.toList) v
    | _ => False)
  | _ => False
theorem panS_sound {P : Program} {o : Oper} {fr : List SV} {v : Value} (h : panS P o fr v) : PanOp P o fr v := by
  unfold panS at h
  split at h
  · rename_i c ho
    split at h
    · rename_i g hf
      intro W A β M w a next Q hSt hop hQ
      have hd := evArgs_den (β := β) (a := a) (fr := fr) c.args.toList (fun x hx => hop x (by simp only [ho, Op.operands, Call.operands, hf, Array.mem_append]; exact .inr (by simpa using hx)))
      have hrun := run_callFunc h.can (c.args.map a.eval) w
      have hr : (execOp a.eval o).run P w = .ok (.enter g (c.args.toList.map a.eval).toArray) w := by
        simp only [execOp, ho, resolve, hf, Act.eval, Deferred.ofValue, Sem.run_bind, Sem.run_pure, Result.andThen_ok, invoke]
        rw [show (#[] : Array Value) ++ c.args.map a.eval ++ #[] = c.args.map a.eval by simp, hrun]
        congr 2
        apply Array.ext'
        simp
      unfold Oper.wp
      rw [hr]
      refine (h.run β w _ hd).mono fun e w' ⟨he, hw⟩ => ?_
      subst he
      subst hw
      exact hQ
    · exact h.elim
  · exact h.elim
end Go.Sx
namespace Go.Sx

inductive AX where
  | normal
  | exit (n : Nat)
  | ret
  | pan (v : Value)

def bCp (g : Nat) : Cp → Bool
  | .p n _ _ => Nat.blt n g
  | _ => true
def bC (g : Nat) : C → Bool
  | .p n _ _ => Nat.blt n g
  | .s n _ _ _ => Nat.blt n g
  | .f _ fi ca => fi.all (bCp g) && ca.all (bCp g)
  | .m n => Nat.blt n g
  | _ => true
def b1 (g : Nat) : V1 → Bool
  | .c c => bC g c
  | .a l => l.all (bC g)
def bS (g : Nat) : SV → Bool
  | .o y => b1 g y
  | .t l => l.all (b1 g)
def bBk (g : Nat) : Bk → Prop
  | .box l => l.all (bC g) = true
  | .rows _ n row => ∀ i, i < n → (row i).all (bC g) = true
  | _ => True
def bM (g : Nat) : Mem → Prop
  | [] => True
  | none :: l => bM g l
  | some k :: l => bBk g k.k ∧ bM g l

def lk : List (Nat × SV) → Nat → SV
  | [], _ => .o (.c .u)
  | (s, v) :: r, i => if s = i then v else lk r i
def mkFr : Nat → Nat → List (Nat × SV) → List SV
  | _, 0, _ => []
  | i, n + 1, L => lk L i :: mkFr (i + 1) n L
def leF (fr : List SV) : List (Nat × SV) → Prop
  | [] => True
  | (s, v) :: r => frGet fr s = v ∧ leF fr r
def leM : Mem → Mem → Prop
  | _, [] => True
  | [], none :: G => leM [] G
  | [], some _ :: _ => False
  | _ :: M, none :: G => leM M G
  | m :: M, some g :: G => m = some g ∧ leM M G
def bL (g : Nat) : List (Nat × SV) → Bool
  | [] => true
  | (_, v) :: r => bS g v && bL g r

def acond (c : SV) (t f : Prop) : Prop :=
  match c with
  | .o (.c (.v (.bool b))) => bsel b t f
  | _ => False


/-! ### the run of a region, written out at each step -/
noncomputable def setF (l : List SV) : Nat → SV → (List SV → Prop) → Prop :=
  List.rec (motive := fun _ => Nat → SV → (List SV → Prop) → Prop) (fun _ _ K => K []) (fun y l ih n x K => match n with
    | 0 => K (x :: l)
    | n + 1 => ih n x fun l => K (y :: l)) l
theorem setF_succ (y : SV) (l : List SV) (n : Nat) (x : SV) (K : List SV → Prop) : setF (y :: l) (n + 1) x K = setF l n x fun l => K (y :: l) := rfl
theorem setF_eq : ∀ (l : List SV) (n : Nat) (x : SV) (K : List SV → Prop), setF l n x K = K (frSet l n x)
  | [], _, _, _ => rfl
  | _ :: _, 0, _, _ => rfl
  | y :: l, n + 1, x, K => by rw [setF_succ, setF_eq l]; rfl
noncomputable def putF (l : List SV) (d : Option Nat) (x : SV) (K : List SV → Prop) : Prop :=
  match d with
  | none => K l
  | some d => setF l d x K
theorem putF_eq (l : List SV) (d : Option Nat) (x : SV) (K : List SV → Prop) : putF l d x K = K (frPut l d x) := by cases d <;> simp [putF, frPut, setF_eq]
noncomputable def forceO (b : Option Blk) (K : Option Blk → Prop) : Prop :=
  match b with
  | none => K none
  | some b => forceB b.k fun k => match b.wr with
    | true => K (some ⟨k, true⟩)
    | false => K (some ⟨k, false⟩)
theorem forceO_eq (b : Option Blk) (K : Option Blk → Prop) : forceO b K = K b := by
  cases b with
  | none => rfl
  | some b =>
    obtain ⟨k, w⟩ := b
    cases w <;> simp only [forceO, forceB_eq]
noncomputable def putM (M : Mem) (n : Nat) : Option Blk → (Mem → Prop) → Prop :=
  Nat.rec (motive := fun _ => Mem → Option Blk → (Mem → Prop) → Prop) (fun M b K => match M with
    | [] => K [b]
    | _ :: l => K (b :: l)) (fun _ ih M b K => match M with
    | [] => ih [] b fun l => K (none :: l)
    | x :: l => ih l b fun l => K (x :: l)) n M
theorem putM_nil (n : Nat) (b : Option Blk) (K : Mem → Prop) : putM [] (n + 1) b K = putM [] n b fun l => K (none :: l) := rfl
theorem putM_cons (x : Option Blk) (l : Mem) (n : Nat) (b : Option Blk) (K : Mem → Prop) : putM (x :: l) (n + 1) b K = putM l n b fun l => K (x :: l) := rfl
theorem putM_eq : ∀ (M : Mem) (n : Nat) (b : Option Blk) (K : Mem → Prop), putM M n b K = K (M.put n b)
  | [], 0, _, _ => rfl
  | [], n + 1, b, K => by rw [putM_nil, putM_eq [] n]; rfl
  | _ :: _, 0, _, _ => rfl
  | x :: l, n + 1, b, K => by rw [putM_cons, putM_eq l n]; rfl
noncomputable def appF (M : Mem) (r : Ups) : (Mem → Prop) → Prop :=
  List.rec (motive := fun _ => Mem → (Mem → Prop) → Prop) (fun M K => K M) (fun u _ ih M K => forceO u.2 fun b => putM M u.1 b fun M => ih M K) r M
theorem appF_cons (u : Nat × Option Blk) (r : Ups) (M : Mem) (K : Mem → Prop) : appF M (u :: r) K = forceO u.2 fun b => putM M u.1 b fun M => appF M r K := rfl
theorem appF_eq : ∀ (r : Ups) (M : Mem) (K : Mem → Prop), appF M r K = K (M.app r)
  | [], _, _ => rfl
  | (n, b) :: r, M, K => by rw [appF_cons, forceO_eq, putM_eq, appF_eq r]; rfl

/-- of an operation: the names that it looked at, those that it wrote -/
structure RL where
  fp : List Nat
  un : List Nat
def Rec.light (r : Rec) : RL := ⟨r.fp, r.ups.map (·.1)⟩

abbrev Kn := List SV → Mem → List RL → Prop
/-- one operation -/
noncomputable def goF (P : Program) (draw : Bool) (o : Oper) (M : Mem) (rs : List RL) (next : Kn) (fr : List SV) : Prop :=
  let fp := if draw then fpOf o fr M else []
  let rd := if draw then res M fp else M
  evS P o fr rd M.length fun v ups => if okUps rd M.length ups then forceS v fun v => putF fr o.dst v fun fr => appF M ups fun M => next fr M (⟨fp, ups.map (·.1)⟩ :: rs) else False
noncomputable def skipF (o : Oper) (M : Mem) (rs : List RL) (next : Kn) (fr : List SV) : Prop := putF fr o.dst (.t []) fun fr => next fr M (⟨[], []⟩ :: rs)
def wantF (b : Bool) (x y : List SV → Prop) : List SV → Prop := match b with | true => x | false => y
noncomputable def stepF (P : Program) (ops : Array Oper) (draw : Bool) (o : Oper) (fr : List SV) (M : Mem) (rs : List RL) (next : Kn) : Prop :=
  match o.guard with
  | none => goF P draw o M rs next fr
  | some (j, want) => (match (ops[j]?).bind (·.dst) with
    | none => skipF o M rs next fr
    | some d => (match frGet fr d with
      | .o (.c (.v (.bool b))) => bsel b (setF fr d (boo true) (wantF want (goF P draw o M rs next) (skipF o M rs next))) (setF fr d (boo false) (wantF want (skipF o M rs next) (goF P draw o M rs next)))
      | .t [] => skipF o M rs next fr
      | _ => False))
noncomputable def runF (P : Program) (ops : Array Oper) (draw : Bool) (l : List Oper) : List SV → Mem → List RL → Kn → Prop :=
  List.rec (motive := fun _ => List SV → Mem → List RL → Kn → Prop) (fun fr M rs K => K fr M rs.reverse) (fun o _ ih fr M rs K => stepF P ops draw o fr M rs fun fr M rs => ih fr M rs K) l
theorem runF_cons (P : Program) (ops : Array Oper) (draw : Bool) (o : Oper) (l : List Oper) (fr : List SV) (M : Mem) (rs : List RL) (K : Kn) :
    runF P ops draw (o :: l) fr M rs K = stepF P ops draw o fr M rs fun fr M rs => runF P ops draw l fr M rs K := rfl

theorem evS_mono {P : Program} {o : Oper} {fr : List SV} {rd : Mem} {nm : Nat} {K K' : Kt} (hK : ∀ v ups, K v ups → K' v ups) (hnm : rd.get nm = none) (h : evS P o fr rd nm K) : ∃ v ups, SemOp P o fr rd v ups ∧ K' v ups :=
  let ⟨v, ups, h1, h2⟩ := evS_sound hnm h
  ⟨v, ups, h1, hK v ups h2⟩

theorem runF_text {P : Program} {ops : Array Oper} {draw : Bool} : ∀ (l : List Oper) (fr : List SV) (M : Mem) (rs : List RL) (K : List SV → Mem → List RL → Prop), runF P ops draw l fr M rs K →
    ∃ rs' fr' M', Text P ops draw l fr M rs' fr' M' ∧ K fr' M' (rs.reverse ++ rs'.map Rec.light)
  | [], fr, M, rs, K, h => ⟨[], fr, M, ⟨rfl, rfl⟩, by rw [List.map_nil, List.append_nil]; exact h⟩
  | o :: l, fr, M, rs, K, h => by
    have hgo : ∀ {fr : List SV}, wantA ops o fr = some true →
        (let fp := if draw then fpOf o fr M else []
         let rd := if draw then res M fp else M
         evS P o fr rd M.length fun v ups => if okUps rd M.length ups then forceS v fun v => putF fr o.dst v fun fr => appF M ups fun M => runF P ops draw l fr M (⟨fp, ups.map (·.1)⟩ :: rs) K else False) →
        ∃ rs' fr' M', Text P ops draw (o :: l) fr M rs' fr' M' ∧ K fr' M' (rs.reverse ++ rs'.map Rec.light) := by
      intro fr hw h
      simp only at h
      generalize hfp : (if draw = true then fpOf o fr M else []) = fp at h
      generalize hrdd : (if draw = true then res M fp else M) = rd at h
      have hnm : rd.get M.length = none := by
        rw [← hrdd]
        cases draw with
        | true => simp only [if_true]; rw [res_get]; split; exact Mem.get_len M; rfl
        | false => simp only [Bool.false_eq_true, if_false]; exact Mem.get_len M
      obtain ⟨v, ups, hsem, hK⟩ := evS_sound hnm h
      by_cases hok : okUps rd M.length ups = true
      · rw [if_pos hok, forceS_eq, putF_eq, appF_eq] at hK
        obtain ⟨rs', fr', M', ht, hk⟩ := runF_text l _ _ _ _ hK
        refine ⟨⟨true, fp, v, ups⟩ :: rs', fr', M', ⟨hw, ?_, ht⟩, by simpa [Rec.light] using hk⟩
        simp only [if_true, hrdd]
        exact ⟨hsem, hok⟩
      · rw [if_neg hok] at hK
        exact hK.elim
    have hskip : ∀ {fr : List SV}, wantA ops o fr = some false → (putF fr o.dst (.t []) fun fr => runF P ops draw l fr M (⟨[], []⟩ :: rs) K) →
        ∃ rs' fr' M', Text P ops draw (o :: l) fr M rs' fr' M' ∧ K fr' M' (rs.reverse ++ rs'.map Rec.light) := by
      intro fr hw h
      rw [putF_eq] at h
      obtain ⟨rs', fr', M', ht, hk⟩ := runF_text l _ _ _ _ h
      exact ⟨⟨false, [], .t [], []⟩ :: rs', fr', M', ⟨hw, by simp, ht⟩, by simpa [Rec.light] using hk⟩
    rw [runF_cons] at h
    unfold stepF at h
    split at h
    · rename_i hg
      exact hgo (by simp [wantA, hg]) h
    · rename_i j want hg
      split at h
      · rename_i hd
        exact hskip (by simp only [wantA, hg, hd]) h
      · rename_i d hd
        split at h
        · rename_i b hb
          have hself : frSet fr d (boo b) = fr := by
            have := frSet_self fr d
            rw [hb] at this
            exact this
          have hw : wantA ops o fr = some (b == want) := by simp only [wantA, hg, hd, hb]
          cases b with
          | true =>
            simp only [bsel] at h
            rw [setF_eq, hself] at h
            cases want with
            | true => exact hgo (by rw [hw]; rfl) h
            | false => exact hskip (by rw [hw]; rfl) h
          | false =>
            simp only [bsel] at h
            rw [setF_eq, hself] at h
            cases want with
            | true => exact hskip (by rw [hw]; rfl) h
            | false => exact hgo (by rw [hw]; rfl) h
        · rename_i hb
          exact hskip (by simp only [wantA, hg, hd, hb]) h
        · exact h.elim

def hasN : List Nat → Nat → Bool
  | [], _ => false
  | n :: r, k => (n == k) || hasN r k
def nameConfL (r r' : RL) : Bool := (r.un.any fun u => r'.fp.contains u || hasN r'.un u) || r'.un.any fun u => r.fp.contains u
def okRowL (ops : Array Oper) (b : Nat) (o' : Oper) (r' : RL) : List Oper → List RL → Nat → Nat → Bool
  | o :: l, r :: rs, i, j => if i < j then (!(slotConf ops o o' || nameConfL r r') || b.testBit i) && okRowL ops b o' r' l rs (i + 1) j else true
  | _, _, _, _ => true
def okAllL (ops : Array Oper) (L : List Oper) (R : List RL) (B : List Nat) : List Oper → List RL → Nat → Bool
  | o :: l, r :: rs, j => o.after.toList.all (fun e => !Region.binds .any e || Nat.blt e.on j) && okRowL ops (B.getD j 0) o r L R 0 j && okAllL ops L R B l rs (j + 1)
  | _, _, _ => true
def okOrderL (ops : Array Oper) (rs : List RL) : Bool := okAllL ops ops.toList rs (bef ops.toList []) ops.toList rs 0

theorem hasN_light : ∀ (u : Ups) (n : Nat), hasN (u.map (·.1)) n = u.has n
  | [], _ => rfl
  | (k, b) :: r, n => by simp [hasN, Ups.has, hasN_light r]
theorem nameConf_light (r r' : Rec) : nameConfL r.light r'.light = nameConf r r' := by
  simp only [nameConfL, nameConf, Rec.light, List.any_map, Function.comp_def, hasN_light]
theorem okRow_light {ops : Array Oper} {b : Nat} {o' : Oper} {r' : Rec} : ∀ (l : List Oper) (rs : List Rec) (i j : Nat), okRowL ops b o' r'.light l (rs.map Rec.light) i j = okRow ops b o' r' l rs i j
  | o :: l, r :: rs, i, j => by simp only [okRowL, okRow, List.map_cons, nameConf_light, okRow_light l rs]
  | [], _, _, _ => by simp [okRowL, okRow]
  | _ :: _, [], _, _ => by simp [okRowL, okRow]
theorem okAll_light {ops : Array Oper} {L : List Oper} {R : List Rec} {B : List Nat} : ∀ (l : List Oper) (rs : List Rec) (j : Nat), okAllL ops L (R.map Rec.light) B l (rs.map Rec.light) j = okAll ops L R B l rs j
  | o :: l, r :: rs, j => by simp only [okAllL, okAll, List.map_cons, okRow_light, okAll_light l rs]
  | [], _, _ => by simp [okAllL, okAll]
  | _ :: _, [], _ => by simp [okAllL, okAll]
theorem okOrder_light (ops : Array Oper) (rs : List Rec) : okOrderL ops (rs.map Rec.light) = okOrder ops rs := okAll_light _ _ _

abbrev Kx := AX → List SV → Mem → Prop

/-- the same rows -/
def Bk.Eqv (k k' : Bk) : Prop := k.isBox = false ∧ k'.isBox = false ∧ k.sz = k'.sz ∧ k'.n ≤ k.n ∧ ∀ i, i < k'.n → k.row i = k'.row i
def leB (m : Option Blk) (g : Blk) : Prop := m = some g ∨ ∃ k, m = some k ∧ (g.wr = true → k.wr = true) ∧ Bk.Eqv k.k g.k
theorem leB.refl {g : Blk} : leB (some g) g := .inl (Eq.refl _)
/-- names taken anew: a name of before, or a new one without cells -/
inductive Rn where
  | to (n : Nat)
  | new (sz : Nat)
abbrev Rns := List (Nat × Rn)
def rnG : Rns → Nat → Rn
  | [], n => .to n
  | (k, v) :: r, n => if k = n then v else rnG r n
def isTo : Rn → Bool
  | .to _ => true
  | .new _ => false
def exCp (rn : Rns) : Cp → Cp
  | .v x => .v x
  | .p n i j => (match rnG rn n with | .to n' => .p n' i j | .new _ => .v (.pointer none))
def exC (rn : Rns) : C → C
  | .v x => .v x
  | .p n i j => (match rnG rn n with | .to n' => .p n' i j | .new _ => .u)
  | .s n off len sz => (match rnG rn n with | .to n' => .s n' off len sz | .new _ => .v (.slice none 0 0))
  | .z => .z
  | .u => .u
  | .f g fi ca => .f g (fi.map (exCp rn)) (ca.map (exCp rn))
  | .m n => (match rnG rn n with | .to n' => .m n' | .new _ => .u)
def ex1 (rn : Rns) : V1 → V1
  | .c c => .c (exC rn c)
  | .a l => .a (l.map (exC rn))
def exS (rn : Rns) : SV → SV
  | .o y => .o (ex1 rn y)
  | .t l => .t (l.map (ex1 rn))
def okCp (rn : Rns) : Cp → Bool
  | .v _ => true
  | .p n _ _ => isTo (rnG rn n)
def okC (rn : Rns) : C → Bool
  | .p n _ _ => isTo (rnG rn n)
  | .s n _ len sz => (match rnG rn n with | .to _ => true | .new s => Nat.beq len 0 && Nat.beq sz s)
  | .f _ fi ca => fi.all (okCp rn) && ca.all (okCp rn)
  | .m n => isTo (rnG rn n)
  | _ => true
def ok1 (rn : Rns) : V1 → Bool
  | .c c => okC rn c
  | .a l => l.all (okC rn)
def okS (rn : Rns) : SV → Bool
  | .o y => ok1 rn y
  | .t l => l.all (ok1 rn)
def exBk (rn : Rns) : Bk → Bk
  | .box l => .box (l.map (exC rn))
  | .ints k xs => .ints k xs
  | .bools xs => .bools xs
  | .rows sz n row => .rows sz n fun i => (row i).map (exC rn)
  | .map s es => .map s es
def exB (rn : Rns) (k : Blk) : Blk := ⟨exBk rn k.k, k.wr⟩
def okBk (rn : Rns) : Bk → Prop
  | .box l => l.all (okC rn) = true
  | .rows _ n row => ∀ i, i < n → (row i).all (okC rn) = true
  | _ => True
def leFx (rn : Rns) (fr : List SV) : List (Nat × SV) → Prop
  | [] => True
  | (s, v) :: r => frGet fr s = exS rn v ∧ leFx rn fr r
def okF (rn : Rns) : List (Nat × SV) → Bool
  | [] => true
  | (_, v) :: r => okS rn v && okF rn r
def fitB (rn : Rns) (M : Mem) (n : Nat) (g : Blk) : Prop :=
  match rnG rn n with
  | .to n' => leB (M.get n') (exB rn g)
  | .new sz => g.k.fits sz ∧ g.k.need = 0
/-- the state (fr, M), seen as (H, G) over names of its own -/
structure AFit (rn : Rns) (k0 : Nat) (fr : List SV) (M : Mem) (H : List (Nat × SV)) (G : Mem) : Prop where
  f : leFx rn fr H
  m : ∀ n g, G.get n = some g → fitB rn M n g
  len : k0 ≤ G.length
  bl : bL G.length H = true
  bm : bM G.length G
  okf : okF rn H = true
  okm : ∀ n g, G.get n = some g → okBk rn g.k
  idle : ∀ n, n < k0 → rnG rn n = .to n
  inj : ∀ n n' g g' a, n ≠ n' → G.get n = some g → G.get n' = some g' → g.wr = true → rnG rn n = .to a → rnG rn n' ≠ .to a

/-- a loop: what holds at the head of every round -/
def ALoop0 (k0 : Nat) (body : List SV → Mem → Kx → Prop) (fr : List SV) (M : Mem) (K : Kx) : Prop :=
  ∃ (X : Type) (inv : X → Prop) (N : Nat) (H : X → List (Nat × SV)) (G : X → Mem) (μ : X → Nat) (at' : X → List SV → Mem → Prop) (x0 : X),
    N = fr.length ∧ inv x0 ∧ (∀ x fr' M', at' x fr' M' → ∃ rn, AFit rn k0 fr' M' (H x) (G x)) ∧ at' x0 fr M ∧
    ∀ x, inv x → body (mkFr 0 N (H x)) (G x) fun e fr' M' => match e with
        | .normal => ∃ x', (inv x' ∧ μ x' < μ x) ∧ at' x' fr' M'
        | e => K e fr' M'

structure ALoop (k0 : Nat) (body : List SV → Mem → Kx → Prop) (fr : List SV) (M : Mem) (K : Kx) : Prop where
  h : ALoop0 k0 body fr M K

/-- what follows a part that ended so -/
def seqK (K : Kx) (b : List SV → Mem → Kx → Prop) : Kx := fun e fr M => match e with
  | .normal => b fr M K
  | e => K e fr M
def blockK (id : Nat) (K : Kx) : Kx := fun e fr M => match e with
  | .exit i => if i = id then K .normal fr M else K (.exit i) fr M
  | e => K e fr M
noncomputable def regN (P : Program) (ops : Array Oper) (draw : Bool) (fr : List SV) (M : Mem) (K : Kx) : Prop := match draw with
  | true => runF P ops true ops.toList fr M [] fun fr M rs => okOrderL ops rs = true ∧ K .normal fr M
  | false => runF P ops false ops.toList fr M [] fun fr M _ => K .normal fr M
noncomputable def lastOf (l : List Oper) : Option Oper := List.rec (motive := fun _ => Option Oper) none (fun o l ih => match l with | [] => some o | _ :: _ => ih) l
noncomputable def initOf (l : List Oper) : List Oper := List.rec (motive := fun _ => List Oper) [] (fun o l ih => match l with | [] => [] | _ :: _ => o :: ih) l
/-- may the region end by a call that panics: the last operation calls a function without results -/
noncomputable def mayPan (ops : Array Oper) : Bool := match lastOf ops.toList with
  | some o => (match o.op with
    | .call c => (match c.callee with
      | .value (.func _) => (match o.guard with | none => Nat.beq o.type 0 | some _ => false)
      | _ => false)
    | _ => false)
  | none => false
/-- the region's last operation panics -/
noncomputable def panF (P : Program) (ops : Array Oper) (draw : Bool) (fr : List SV) (M : Mem) (K : Kx) : Prop := match lastOf ops.toList with
  | some o => runF P ops draw (initOf ops.toList) fr M [] fun fr' M' rs => match draw with
    | true => okOrderL ops (rs ++ [⟨[], []⟩]) = true ∧ (okLast ops = true ∧ ∃ v, panS P o fr' v ∧ K (.pan v) fr' M')
    | false => ∃ v, panS P o fr' v ∧ K (.pan v) fr' M'
  | none => False
structure APan (P : Program) (ops : Array Oper) (draw : Bool) (fr : List SV) (M : Mem) (K : Kx) : Prop where
  h : regN P ops draw fr M K ∨ (mayPan ops = true ∧ panF P ops draw fr M K)
theorem APan.go {P : Program} {ops : Array Oper} {draw : Bool} {fr : List SV} {M : Mem} {K : Kx} (h : regN P ops draw fr M K) : APan P ops draw fr M K := ⟨.inl h⟩
theorem APan.pan {P : Program} {ops : Array Oper} {draw : Bool} {fr : List SV} {M : Mem} {K : Kx} (h : panF P ops draw fr M K) (hm : mayPan ops = true := by kernel_rfl) : APan P ops draw fr M K := ⟨.inr ⟨hm, h⟩⟩
noncomputable def regF (P : Program) (ops : Array Oper) (draw : Bool) (fr : List SV) (M : Mem) (K : Kx) : Prop := match mayPan ops with
  | true => APan P ops draw fr M K
  | false => regN P ops draw fr M K
theorem lastOf_cons (o o' : Oper) (l : List Oper) : lastOf (o :: o' :: l) = lastOf (o' :: l) := rfl
theorem initOf_cons (o o' : Oper) (l : List Oper) : initOf (o :: o' :: l) = o :: initOf (o' :: l) := rfl
theorem init_last : ∀ (l : List Oper) (o : Oper), lastOf l = some o → l = initOf l ++ [o]
  | [], _, h => by cases h
  | [x], o, h => by
    have : some x = some o := h
    cases this
    rfl
  | x :: y :: l, o, h => by
    rw [lastOf_cons] at h
    rw [initOf_cons, List.cons_append, ← init_last (y :: l) o h]
/-- in how many ways a part of the text ends; where it leaves to -/
noncomputable def ways (c : Code) : Nat × List Nat :=
  Code.rec (motive := fun _ => Nat × List Nat) (1, []) (fun _ _ _ => (1, [])) (fun _ _ a b => match a with | (0, e) => (0, e) | (_ + 1, e) => (b.1, e ++ b.2))
    (fun _ _ _ a b => (a.1 + b.1, a.2 ++ b.2)) (fun id _ a => (a.1 + (a.2.filter fun i => Nat.beq i id).length, a.2.filter fun i => !Nat.beq i id)) (fun _ a => (0, a.2))
    (fun _ _ _ _ _ _ => (1, [])) (fun i => (0, [i])) (fun _ _ => (1, [])) (fun _ => (1, [])) (fun _ => (0, [])) (0, []) (fun _ => (0, [])) c
/-- may the parts of the text come together behind it -/
noncomputable def joinable (c : Code) : Bool := Nat.blt 1 (ways c).1
/-- where parts come together: go on from each, or from what is said of all -/
def AJoin0 (k0 : Nat) (x y : List SV → Mem → Kx → Prop) (fr : List SV) (M : Mem) (K : Kx) : Prop :=
  x fr M (seqK K y) ∨
  ∃ (X : Type) (inv : X → Prop) (N : Nat) (H : X → List (Nat × SV)) (G : X → Mem) (at' : X → List SV → Mem → Prop), N = fr.length ∧ (∀ x fr' M', at' x fr' M' → ∃ rn, AFit rn k0 fr' M' (H x) (G x)) ∧
    x fr M (fun e fr' M' => match e with
      | .normal => ∃ x', inv x' ∧ at' x' fr' M'
      | e => K e fr' M') ∧
    ∀ x, inv x → y (mkFr 0 N (H x)) (G x) K
structure AJoin (k0 : Nat) (x y : List SV → Mem → Kx → Prop) (fr : List SV) (M : Mem) (K : Kx) : Prop where
  h : AJoin0 k0 x y fr M K
noncomputable def acode (P : Program) (J : Bool) (k0 : Nat) (c : Code) : List SV → Mem → Kx → Prop :=
  Code.rec (motive := fun _ => List SV → Mem → Kx → Prop)
    (fun fr M K => K .normal fr M)
    (fun _ ops draw fr M K => regF P ops draw fr M K)
    (fun a _ iha ihb fr M K => match J with
      | true => (match joinable a with | true => AJoin k0 iha ihb fr M K | false => iha fr M (seqK K ihb))
      | false => iha fr M (seqK K ihb))
    (fun c _ _ ihx ihy fr M K => acond (evO fr c) (ihx fr M K) (ihy fr M K))
    (fun id _ ih fr M K => ih fr M (blockK id K))
    (fun _ ih fr M K => ALoop k0 ih fr M K)
    (fun _ _ _ _ _ _ _ _ _ => False)
    (fun id fr M K => K (.exit id) fr M)
    (fun _ _ _ _ _ => False)
    (fun _ _ _ _ => False)
    (fun _ _ _ _ => False)
    (fun fr M K => K .ret fr M)
    (fun _ _ _ _ => False) c

/-! ### narrowing the names -/
def Bet.cut (β : Bet) (g : Nat) : Bet := fun n => if n < g then β n else none
section
variable {β : Bet} {g : Nat}
theorem denCp.cut {x : Value} : ∀ {c : Cp}, denCp β x c → bCp g c = true → denCp (β.cut g) x c
  | .v _, h, _ => h
  | .p n _ _, ⟨m, h, e⟩, hb => ⟨m, by simp only [bCp, Nat.blt_eq] at hb; simp [Bet.cut, hb, h], e⟩
theorem denCps.cut : ∀ {xs : List Value} {l : List Cp}, denCps β xs l → l.all (bCp g) = true → denCps (β.cut g) xs l
  | [], [], _, _ => trivial
  | _ :: _, _ :: _, ⟨h, r⟩, hb => by
    simp only [List.all_cons, Bool.and_eq_true] at hb
    exact ⟨h.cut hb.1, denCps.cut r hb.2⟩
theorem denC.cut {x : Value} : ∀ {c : C}, denC β x c → bC g c = true → denC (β.cut g) x c
  | .v _, h, _ => h
  | .p n _ _, ⟨m, h, e⟩, hb => ⟨m, by simp only [bC, Nat.blt_eq] at hb; simp [Bet.cut, hb, h], e⟩
  | .s n _ _ _, ⟨A, cap, m, h, r⟩, hb => ⟨A, cap, m, by simp only [bC, Nat.blt_eq] at hb; simp [Bet.cut, hb, h], r⟩
  | .z, h, _ => h
  | .u, _, _ => trivial
  | .f _ _ _, ⟨fs, cs, e, h, k⟩, hb => by
    simp only [bC, Bool.and_eq_true] at hb
    exact ⟨fs, cs, e, h.cut hb.1, k.cut hb.2⟩
  | .m n, ⟨m, h, e⟩, hb => ⟨m, by simp only [bC, Nat.blt_eq] at hb; simp [Bet.cut, hb, h], e⟩
theorem denL.cut : ∀ {xs : List Value} {l : List C}, denL β xs l → l.all (bC g) = true → denL (β.cut g) xs l
  | [], [], _, _ => trivial
  | _ :: _, _ :: _, ⟨h, r⟩, hb => by
    simp only [List.all_cons, Bool.and_eq_true] at hb
    exact ⟨h.cut hb.1, denL.cut r hb.2⟩
theorem den1.cut {x : Value} : ∀ {y : V1}, den1 β x y → b1 g y = true → den1 (β.cut g) x y
  | .c _, h, hb => denC.cut h hb
  | .a _, ⟨vs, e, h⟩, hb => ⟨vs, e, h.cut hb⟩
theorem denL1.cut : ∀ {xs : List Value} {l : List V1}, denL1 β xs l → l.all (b1 g) = true → denL1 (β.cut g) xs l
  | [], [], _, _ => trivial
  | _ :: _, _ :: _, ⟨h, r⟩, hb => by
    simp only [List.all_cons, Bool.and_eq_true] at hb
    exact ⟨h.cut hb.1, denL1.cut r hb.2⟩
theorem denS.cut {x : Value} : ∀ {y : SV}, denS β x y → bS g y = true → denS (β.cut g) x y
  | .o _, h, hb => den1.cut h hb
  | .t _, ⟨vs, e, h⟩, hb => ⟨vs, e, denL1.cut h hb⟩
theorem Bet.cut_top : Top (β.cut g) g := fun n hn => by simp [Bet.cut, Nat.not_lt.2 hn]
theorem Bet.cut_le : (β.cut g).le β := fun n m h => by
  unfold Bet.cut at h
  split at h
  · exact h
  · cases h
theorem bBk_at {k : Bk} (h : bBk g k) {i j : Nat} {c : C} (hc : k.at i j = some c) : bC g c = true := by
  rw [Bk.at_some] at hc
  obtain ⟨hi, hc⟩ := hc
  cases k with
  | box l =>
    simp only [Bk.row] at hc
    have := List.all_eq_true.1 h c (List.mem_of_getElem? hc)
    exact this
  | ints ki xs =>
    cases j with
    | zero => simp [Bk.row] at hc; subst hc; rfl
    | succ j => simp [Bk.row] at hc
  | bools xs =>
    cases j with
    | zero => simp [Bk.row] at hc; subst hc; rfl
    | succ j => simp [Bk.row] at hc
  | rows sz n row => exact List.all_eq_true.1 (h i hi) c (List.mem_of_getElem? hc)
  | map s es => cases hi
theorem bM_get : ∀ {G : Mem} {n : Nat} {k : Blk}, bM g G → G.get n = some k → bBk g k.k
  | [], _, _, _, h => by cases h
  | none :: l, 0, k, _, h => by cases h
  | some k' :: l, 0, k, hb, h => by simp only [Mem.get, Option.some.injEq] at h; subst h; exact hb.1
  | none :: l, n + 1, k, hb, h => bM_get (G := l) hb h
  | some k' :: l, n + 1, k, hb, h => bM_get (G := l) hb.2 h
end
theorem leM_get : ∀ {M G : Mem} {n : Nat} {k : Blk}, leM M G → G.get n = some k → M.get n = some k
  | _, [], _, _, _, h => by cases h
  | [], none :: G, 0, _, _, h => by cases h
  | [], none :: G, n + 1, k, hl, h => by have := leM_get (M := []) (G := G) hl h; cases this
  | [], some _ :: G, _, _, hl, _ => hl.elim
  | _ :: M, none :: G, 0, _, _, h => by cases h
  | _ :: M, none :: G, n + 1, k, hl, h => leM_get (M := M) (G := G) hl h
  | m :: M, some g :: G, 0, k, hl, h => by simp only [Mem.get, Option.some.injEq] at h; subst h; exact hl.1
  | m :: M, some g :: G, n + 1, k, hl, h => leM_get (M := M) (G := G) hl.2 h

theorem Bk.Eqv.at {k k' : Bk} (h : Bk.Eqv k k') {i j : Nat} {c : C} (hc : k'.at i j = some c) : k.at i j = some c := by
  obtain ⟨_, _, _, hn, hr⟩ := h
  rw [Bk.at_some] at hc ⊢
  exact ⟨by omega, by rw [hr i hc.1]; exact hc.2⟩
theorem Bk.need_nobox {k : Bk} (h : k.isBox = false) : k.need = k.n * k.sz := by cases k <;> first | rfl | cases h
theorem holds.eqv {w : World} {β : Bet} {m : Nm} {k g : Blk} (h : holds w β m k) (hw : g.wr = true → k.wr = true) (he : Bk.Eqv k.k g.k) : holds w β m g := by
  obtain ⟨hb, hb', hsz, hn, hr⟩ := id he
  refine ⟨?_, ?_, fun _ => (h.there (Bk.noMap_of_box hb)).imp id fun ⟨c, T, fz, h1, h2, h3, h4⟩ => ⟨c, T, fz, h1, h2, fun hg => h3 (hw hg), fun i j x hx => h4 i j x (he.at hx)⟩, fun s es hs => by rw [hs] at hb'; cases hb'⟩
  · rcases h.fits with hf | ⟨e1, e2, e3⟩
    · rw [hb] at hf; cases hf
    · exact .inr ⟨by rw [← hsz]; exact e1, by rw [← hsz]; exact e2, fun i hi => by rw [← hr i hi, ← hsz]; exact e3 i (by omega)⟩
  · have := h.need
    rw [Bk.need_nobox hb] at this
    rw [Bk.need_nobox hb', ← hsz]
    exact Nat.le_trans (Nat.mul_le_mul_right _ hn) this
theorem leB_conv {m : Option Blk} {g : Blk} (h : leB m g) : ∃ k, m = some k ∧ (g.wr = true → k.wr = true) ∧ ∀ (w : World) (β : Bet) (nm : Nm), holds w β nm k → holds w β nm g := by
  rcases h with rfl | ⟨k, rfl, hw, he⟩
  · exact ⟨g, rfl, id, fun _ _ _ h => h⟩
  · exact ⟨k, rfl, hw, fun _ _ _ h => h.eqv hw he⟩

theorem mkFr_length : ∀ (n i : Nat) (L : List (Nat × SV)), (mkFr i n L).length = n
  | 0, _, _ => rfl
  | n + 1, i, L => congrArg (· + 1) (mkFr_length n (i + 1) L)
theorem mkFr_get : ∀ (n i : Nat) (L : List (Nat × SV)) (t : Nat), frGet (mkFr i n L) t = if t < n then lk L (i + t) else .o (.c .u)
  | 0, _, _, t => by simp [mkFr, frGet]
  | n + 1, i, L, 0 => by simp [mkFr, frGet]
  | n + 1, i, L, t + 1 => by
    have := mkFr_get n (i + 1) L t
    simp only [mkFr, frGet, this, Nat.add_lt_add_iff_right]
    rw [show i + 1 + t = i + (t + 1) by omega]
/-! ### names taken anew: what they stand for -/
def betR (β : Bet) (rn : Rns) (g : Nat) : Bet := fun n => if n < g then (match rnG rn n with | .to n' => β n' | .new sz => some ⟨0, 0, sz, 0⟩) else none
theorem betR_to {β : Bet} {rn : Rns} {g n n' : Nat} (hn : n < g) (h : rnG rn n = .to n') : betR β rn g n = β n' := by simp [betR, hn, h]
theorem betR_new {β : Bet} {rn : Rns} {g n sz : Nat} (hn : n < g) (h : rnG rn n = .new sz) : betR β rn g n = some ⟨0, 0, sz, 0⟩ := by simp [betR, hn, h]
theorem betR_top {β : Bet} {rn : Rns} {g : Nat} : Top (betR β rn g) g := fun n hn => by simp [betR, Nat.not_lt.2 hn]
section
variable {β : Bet} {rn : Rns} {g : Nat}
theorem denCp_ex {x : Value} : ∀ {c : Cp}, okCp rn c = true → bCp g c = true → denCp β x (exCp rn c) → denCp (betR β rn g) x c
  | .v _, _, _, h => h
  | .p n i j, ho, hb, h => by
    simp only [bCp, Nat.blt_eq] at hb
    simp only [okCp] at ho
    cases hr : rnG rn n with
    | to n' =>
      simp only [exCp, hr] at h
      obtain ⟨m, hm, e⟩ := h
      exact ⟨m, by rw [betR_to hb hr]; exact hm, e⟩
    | new sz => rw [hr] at ho; cases ho
theorem denCps_ex : ∀ {xs : List Value} {l : List Cp}, l.all (okCp rn) = true → l.all (bCp g) = true → denCps β xs (l.map (exCp rn)) → denCps (betR β rn g) xs l
  | [], [], _, _, _ => trivial
  | _ :: _, _ :: _, ho, hb, ⟨h, r⟩ => by
    simp only [List.all_cons, Bool.and_eq_true] at ho hb
    exact ⟨denCp_ex ho.1 hb.1 h, denCps_ex ho.2 hb.2 r⟩
  | [], _ :: _, _, _, h => h.elim
  | _ :: _, [], _, _, h => h.elim
theorem denC_ex {x : Value} : ∀ {c : C}, okC rn c = true → bC g c = true → denC β x (exC rn c) → denC (betR β rn g) x c
  | .v _, _, _, h => h
  | .p n i j, ho, hb, h => by
    simp only [bC, Nat.blt_eq] at hb
    simp only [okC] at ho
    cases hr : rnG rn n with
    | to n' =>
      simp only [exC, hr] at h
      obtain ⟨m, hm, e⟩ := h
      exact ⟨m, by rw [betR_to hb hr]; exact hm, e⟩
    | new sz => rw [hr] at ho; cases ho
  | .s n off len sz, ho, hb, h => by
    simp only [bC, Nat.blt_eq] at hb
    cases hr : rnG rn n with
    | to n' =>
      simp only [exC, hr] at h
      obtain ⟨A, cap, m, hm, r⟩ := h
      exact ⟨A, cap, m, by rw [betR_to hb hr]; exact hm, r⟩
    | new s =>
      simp only [okC, hr, Bool.and_eq_true] at ho
      obtain rfl := Nat.eq_of_beq_eq_true ho.1
      obtain rfl := Nat.eq_of_beq_eq_true ho.2
      simp only [exC, hr] at h
      have h' : x = .slice none 0 0 := h
      exact ⟨none, 0, _, betR_new hb hr, h', rfl, Nat.le_refl _, Nat.zero_le _, .inl rfl⟩
  | .z, _, _, h => h
  | .u, _, _, _ => trivial
  | .f _ _ _, ho, hb, ⟨fs, cs, e, h, k⟩ => by
    simp only [okC, bC, Bool.and_eq_true] at ho hb
    exact ⟨fs, cs, e, denCps_ex ho.1 hb.1 h, denCps_ex ho.2 hb.2 k⟩
  | .m n, ho, hb, h => by
    simp only [bC, Nat.blt_eq] at hb
    simp only [okC] at ho
    cases hr : rnG rn n with
    | to n' =>
      simp only [exC, hr] at h
      obtain ⟨m, hm, e⟩ := h
      exact ⟨m, by rw [betR_to hb hr]; exact hm, e⟩
    | new sz => rw [hr] at ho; cases ho
theorem denL_ex : ∀ {xs : List Value} {l : List C}, l.all (okC rn) = true → l.all (bC g) = true → denL β xs (l.map (exC rn)) → denL (betR β rn g) xs l
  | [], [], _, _, _ => trivial
  | _ :: _, _ :: _, ho, hb, ⟨h, r⟩ => by
    simp only [List.all_cons, Bool.and_eq_true] at ho hb
    exact ⟨denC_ex ho.1 hb.1 h, denL_ex ho.2 hb.2 r⟩
  | [], _ :: _, _, _, h => h.elim
  | _ :: _, [], _, _, h => h.elim
theorem den1_ex {x : Value} : ∀ {y : V1}, ok1 rn y = true → b1 g y = true → den1 β x (ex1 rn y) → den1 (betR β rn g) x y
  | .c _, ho, hb, h => denC_ex ho hb h
  | .a _, ho, hb, ⟨vs, e, h⟩ => ⟨vs, e, denL_ex ho hb h⟩
theorem denL1_ex : ∀ {xs : List Value} {l : List V1}, l.all (ok1 rn) = true → l.all (b1 g) = true → denL1 β xs (l.map (ex1 rn)) → denL1 (betR β rn g) xs l
  | [], [], _, _, _ => trivial
  | _ :: _, _ :: _, ho, hb, ⟨h, r⟩ => by
    simp only [List.all_cons, Bool.and_eq_true] at ho hb
    exact ⟨den1_ex ho.1 hb.1 h, denL1_ex ho.2 hb.2 r⟩
  | [], _ :: _, _, _, h => h.elim
  | _ :: _, [], _, _, h => h.elim
theorem denS_ex {x : Value} : ∀ {y : SV}, okS rn y = true → bS g y = true → denS β x (exS rn y) → denS (betR β rn g) x y
  | .o _, ho, hb, h => den1_ex ho hb h
  | .t _, ho, hb, ⟨vs, e, h⟩ => ⟨vs, e, denL1_ex ho hb h⟩
theorem exBk_at (k : Bk) (i j : Nat) : (exBk rn k).at i j = (k.at i j).map (exC rn) := by
  unfold Bk.at
  cases k with
  | box l => by_cases h : i < 1 <;> simp [exBk, Bk.n, Bk.row, h]
  | ints ki xs =>
    by_cases h : i < xs.length
    · cases j with
      | zero => simp [exBk, Bk.n, Bk.row, h, exC]
      | succ j => simp [exBk, Bk.n, Bk.row, h]
    · simp [exBk, Bk.n, h]
  | bools xs =>
    by_cases h : i < xs.length
    · cases j with
      | zero => simp [exBk, Bk.n, Bk.row, h, exC]
      | succ j => simp [exBk, Bk.n, Bk.row, h]
    · simp [exBk, Bk.n, h]
  | rows sz n row => by_cases h : i < n <;> simp [exBk, Bk.n, Bk.row, h]
  | map s es => simp [exBk, Bk.n]
theorem exBk_map {k : Bk} {s : MK} {es : List (List Int × Value)} : exBk rn k = .map s es ↔ k = .map s es := by cases k <;> simp [exBk]
theorem exBk_noMap (k : Bk) : (exBk rn k).isMap = k.isMap := by cases k <;> rfl
theorem exBk_need (k : Bk) : (exBk rn k).need = k.need := by cases k <;> simp [exBk, Bk.need, Bk.n, Bk.sz]
theorem exBk_fits (k : Bk) (s : Nat) : (exBk rn k).fits s ↔ k.fits s := by
  cases k with
  | box l => exact ⟨fun _ => .inl rfl, fun _ => .inl rfl⟩
  | map s es => exact Iff.rfl
  | ints ki xs => exact Iff.rfl
  | bools xs => exact Iff.rfl
  | rows sz n row =>
    simp [Bk.fits, exBk, Bk.isBox, Bk.sz, Bk.n, Bk.row]
theorem okBk_at {k : Bk} (h : okBk rn k) {i j : Nat} {c : C} (hc : k.at i j = some c) : okC rn c = true := by
  rw [Bk.at_some] at hc
  obtain ⟨hi, hc⟩ := hc
  cases k with
  | box l =>
    simp only [Bk.row] at hc
    exact List.all_eq_true.1 h c (List.mem_of_getElem? hc)
  | ints ki xs =>
    cases j with
    | zero => simp [Bk.row] at hc; subst hc; rfl
    | succ j => simp [Bk.row] at hc
  | bools xs =>
    cases j with
    | zero => simp [Bk.row] at hc; subst hc; rfl
    | succ j => simp [Bk.row] at hc
  | rows sz n row => exact List.all_eq_true.1 (h i hi) c (List.mem_of_getElem? hc)
  | map s es => cases hi
theorem holds_ex {w : World} {m : Nm} {k : Blk} (ho : okBk rn k.k) (hb : bBk g k.k) (h : holds w β m (exB rn k)) : holds w (betR β rn g) m k := by
  refine ⟨(exBk_fits k.k m.sz).1 h.fits, by rw [← exBk_need (rn := rn)]; exact h.need, fun hk => (h.there ((exBk_noMap k.k).trans hk)).imp id fun ⟨c, T, fz, h1, h2, h3, h4⟩ => ⟨c, T, fz, h1, h2, h3, fun i j x hx => ?_⟩, fun s es he => h.mth s es (exBk_map.2 he)⟩
  obtain ⟨y, hy, hd⟩ := h4 i j (exC rn x) (by show (exBk rn k.k).at i j = _; rw [exBk_at, hx]; rfl)
  exact ⟨y, hy, denC_ex (okBk_at ho hx) (bBk_at hb hx) hd⟩
end
theorem AFit.lt {rn : Rns} {k0 : Nat} {fr : List SV} {M : Mem} {H : List (Nat × SV)} {G : Mem} (_ : AFit rn k0 fr M H G) {n : Nat} {k : Blk} (hk : G.get n = some k) : n < G.length := by
  rcases Nat.lt_or_ge n G.length with h' | h'
  · exact h'
  · rw [Mem.get_ge G n h'] at hk; cases hk
theorem AFit.st {rn : Rns} {k0 : Nat} {fr : List SV} {M : Mem} {H : List (Nat × SV)} {G : Mem} (a : AFit rn k0 fr M H G) {W : World} {A : Nat → Prop} {β : Bet} {w : World} (h : St W A β M w) : St W A (betR β rn G.length) G w := by
  refine ⟨h.os, h.tape, h.output, h.size, h.frame, fun n k hk => ?_, fun n n' k k' m m' hne hk hk' hw hm hm' hr hr' => ?_, fun n k m hk hw hm hr => ?_⟩
  · have hn := a.lt hk
    have hf := a.m n k hk
    unfold fitB at hf
    cases hg : rnG rn n with
    | to n' =>
      rw [hg] at hf
      obtain ⟨k0', hk0, _, hcv⟩ := leB_conv hf
      obtain ⟨m, hm, hh⟩ := h.names n' k0' hk0
      exact ⟨m, by rw [betR_to hn hg]; exact hm, holds_ex (a.okm n k hk) (bM_get a.bm hk) (hcv w β m hh)⟩
    | new sz =>
      rw [hg] at hf
      exact ⟨⟨0, 0, sz, 0⟩, betR_new hn hg, ⟨hf.1, by rw [hf.2]; exact Nat.le_refl _, fun _ => .inl rfl, fun s es he => by rw [he] at hf; cases hf.2⟩⟩
  · have hn := a.lt hk
    have hn' := a.lt hk'
    have hf := a.m n k hk
    have hf' := a.m n' k' hk'
    unfold fitB at hf hf'
    cases hg : rnG rn n with
    | new sz => rw [betR_new hn hg] at hm; cases hm; exact absurd rfl hr
    | to b =>
      cases hg' : rnG rn n' with
      | new sz => rw [betR_new hn' hg'] at hm'; cases hm'; exact absurd rfl hr'
      | to b' =>
        rw [hg] at hf
        rw [hg'] at hf'
        rw [betR_to hn hg] at hm
        rw [betR_to hn' hg'] at hm'
        obtain ⟨k1, hk1, hw1, _⟩ := leB_conv hf
        obtain ⟨k1', hk1', _, _⟩ := leB_conv hf'
        have hbb : b ≠ b' := fun e => a.inj n n' k k' b hne hk hk' hw hg (by rw [hg', e])
        exact h.sep b b' k1 k1' m m' hbb hk1 hk1' (hw1 hw) hm hm' hr hr'
  · have hn := a.lt hk
    have hf := a.m n k hk
    unfold fitB at hf
    cases hg : rnG rn n with
    | new sz => rw [betR_new hn hg] at hm; cases hm; exact absurd rfl hr
    | to b =>
      rw [hg] at hf
      rw [betR_to hn hg] at hm
      obtain ⟨k1, hk1, hw1, _⟩ := leB_conv hf
      exact h.perm b k1 m hk1 (hw1 hw) hm hr
theorem AFit.frm {rn : Rns} {k0 : Nat} {fr : List SV} {M : Mem} {H : List (Nat × SV)} {G : Mem} (a : AFit rn k0 fr M H G) {β : Bet} {tmps : Array Value} {N : Nat} (h : Fr β tmps fr) (hN : N = fr.length) : Fr (betR β rn G.length) tmps (mkFr 0 N H) := by
  refine ⟨by rw [mkFr_length, h.len, hN], fun t => ?_⟩
  rw [mkFr_get]
  split
  · rw [Nat.zero_add]
    have key : ∀ (L : List (Nat × SV)), leFx rn fr L → bL G.length L = true → okF rn L = true → denS (betR β rn G.length) (tmps.getD t undef) (lk L t) := by
      intro L
      induction L with
      | nil => intro _ _ _; exact trivial
      | cons p L ih =>
        obtain ⟨s, v⟩ := p
        intro hl hb ho
        simp only [bL, okF, Bool.and_eq_true] at hb ho
        simp only [lk]
        split
        · rename_i hst
          subst hst
          have := h.den s
          rw [hl.1] at this
          exact denS_ex ho.1 hb.1 this
        · exact ih hl.2 hb.2 ho.2
    exact key H a.f a.bl a.okf
  · exact trivial

def Keep (k0 : Nat) (β β' : Bet) : Prop := ∀ n, n < k0 → β' n = β n
theorem Keep.of_le {k0 : Nat} {β β' : Bet} (h : β.le β') (hd : ∀ n, n < k0 → β n ≠ none) : Keep k0 β β' := fun n hn => by
  cases hb : β n with
  | none => exact absurd hb (hd n hn)
  | some m => exact h n m hb

/-- the post of a body, as seen by the code -/
def AX.to : AX → Exit
  | .normal => .normal
  | .exit n => .exit n
  | .ret => .ret
  | .pan v => .panic [{ v, recovered := false }]

theorem text_len {P : Program} {ops : Array Oper} {draw : Bool} : ∀ (l : List Oper) (fr : List SV) (M : Mem) (rs : List Rec) (fr' : List SV) (M' : Mem), Text P ops draw l fr M rs fr' M' → M.length ≤ M'.length
  | [], _, M, [], _, M', h => by rw [h.2]; exact Nat.le_refl _
  | o :: l, fr, M, r :: rs, fr', M', h => Nat.le_trans (Mem.app_length r.ups M).1 (text_len l _ _ rs _ _ h.2.2)
  | [], _, _, _ :: _, _, _, h => h.elim
  | _ :: _, _, _, [], _, _, h => h.elim

theorem text_flen {P : Program} {ops : Array Oper} {draw : Bool} : ∀ (l : List Oper) (fr : List SV) (M : Mem) (rs : List Rec) (fr' : List SV) (M' : Mem), Text P ops draw l fr M rs fr' M' → fr'.length = fr.length
  | [], fr, _, [], _, _, h => by rw [h.1]
  | o :: l, fr, M, r :: rs, fr', M', h => by rw [text_flen l _ _ rs _ _ h.2.2, frPut_length]
  | [], _, _, _ :: _, _, _, h => h.elim
  | _ :: _, _, _, [], _, _, h => h.elim

theorem wp_loop_of {X : Type} {P : Program} {c : Code} {Q : Exit → Act → World → Prop} (I : X → Act → World → Prop) (μ : X → Nat)
    (round : ∀ x a w, I x a w → c.wp P (Exit.then (fun a' w' => ∃ x', I x' a' w' ∧ μ x' < μ x) Q) a w) {x0 : X} {a : Act} {w : World} (h₀ : I x0 a w) : (Code.loop c).wp P Q a w := by
  intro b k cs
  have key : ∀ n x a w, μ x = n → I x a w → ∃ e a' w', Q e a' w' ∧ Arrives P (lone (b.at a (.code c :: .inLoop c :: k)) cs w) b k cs e a' w' := by
    intro n
    induction n using Nat.strongRecOn with
    | _ n ih =>
      intro x a w hn hI
      obtain ⟨e, a₁, w₁, hq, harr⟩ := round x a w hI b (.inLoop c :: k) cs
      cases e with
      | normal =>
        obtain ⟨x', hI₁, hlt⟩ := hq
        obtain ⟨e₂, a₂, w₂, hq₂, harr₂⟩ := ih (μ x') (hn ▸ hlt) x' a₁ w₁ rfl hI₁
        exact ⟨e₂, a₂, w₂, hq₂, .of_steps (Steps.trans harr (.one step_inLoop)) harr₂⟩
      | exit id => exact ⟨_, a₁, w₁, hq, .pass (x := .inLoop c) rfl (fun _ _ => .inl (by simp)) harr⟩
      | goto l => exact ⟨_, a₁, w₁, hq, .pass (x := .inLoop c) rfl (fun _ _ => .inl (by simp)) harr⟩
      | ret => exact ⟨_, a₁, w₁, hq, .pass (x := .inLoop c) rfl (fun _ _ => .inl (by simp)) harr⟩
      | panic ch => exact ⟨_, a₁, w₁, hq, .pass (x := .inLoop c) rfl (fun _ _ => .inl (by simp)) harr⟩
      | outgrown => exact ⟨_, a₁, w₁, hq, .pass (x := .inLoop c) rfl (fun _ _ => .inl (by simp)) harr⟩
  obtain ⟨e, a', w', hq, harr⟩ := key _ x0 a w rfl h₀
  exact ⟨e, a', w', hq, .of_steps (.one step_loop) harr⟩

structure Abs (W : World) (A : Nat → Prop) (T : Nat) (k0 : Nat) (β0 : Bet) (ds : List Deferred) (fr : List SV) (M : Mem) (β : Bet) (a : Act) (w : World) : Prop where
  flen : fr.length = T
  keep : Keep k0 β0 β
  st : St W A β M w
  fr : Fr β a.tmps fr
  top : Top β M.length
  len : k0 ≤ M.length
  ds : a.defers = ds

/-- the abstract run as a relation -/
def AForget (k0 : Nat) (fr : List SV) (M : Mem) (fr2 : List SV) (M2 : Mem) : Prop :=
  ∃ (H : List (Nat × SV)) (rn : Rns), AFit rn k0 fr M H M2 ∧ fr2 = mkFr 0 fr.length H
abbrev RelA := List SV → Mem → AX → List SV → Mem → Prop
inductive ALp (k0 : Nat) (R : RelA) : RelA where
  | out {fr M e fr' M'} : R fr M e fr' M' → e ≠ .normal → ALp k0 R fr M e fr' M'
  | again {fr M fr1 M1 fr2 M2 e fr' M'} : R fr M .normal fr1 M1 → AForget k0 fr1 M1 fr2 M2 → ALp k0 R fr2 M2 e fr' M' → ALp k0 R fr M e fr' M'
def exId (id : Nat) : AX → AX
  | .exit i => if i = id then .normal else .exit i
  | e => e
def ARun (P : Program) (k0 : Nat) : Code → RelA
  | .skip => fun fr M e fr' M' => e = .normal ∧ fr' = fr ∧ M' = M
  | .region _ ops draw => fun fr M e fr' M' => (e = .normal ∧ ∃ rs, Text P ops draw ops.toList fr M rs fr' M' ∧ (draw = true → okOrder ops rs = true)) ∨
      ∃ v l o rs, e = .pan v ∧ ops.toList = l ++ [o] ∧ o.guard = none ∧ Text P ops draw l fr M rs fr' M' ∧ (draw = true → okOrder ops (rs ++ [Rec.dum]) = true ∧ okLast ops = true) ∧ PanOp P o fr' v
  | .seq a b => fun fr M e fr' M' => (ARun P k0 a fr M e fr' M' ∧ e ≠ .normal) ∨
      ∃ fr1 M1 fr2 M2, ARun P k0 a fr M .normal fr1 M1 ∧ ((fr2 = fr1 ∧ M2 = M1) ∨ AForget k0 fr1 M1 fr2 M2) ∧ ARun P k0 b fr2 M2 e fr' M'
  | .cond c x y => fun fr M e fr' M' => (evO fr c = boo true ∧ ARun P k0 x fr M e fr' M') ∨ (evO fr c = boo false ∧ ARun P k0 y fr M e fr' M')
  | .block id b => fun fr M e fr' M' => ∃ e0, ARun P k0 b fr M e0 fr' M' ∧ e = exId id e0
  | .loop b => fun fr M e fr' M' => ∃ fr0 M0, AForget k0 fr M fr0 M0 ∧ ALp k0 (ARun P k0 b) fr0 M0 e fr' M'
  | .exit id => fun fr M e fr' M' => e = .exit id ∧ fr' = fr ∧ M' = M
  | .ret => fun fr M e fr' M' => e = .ret ∧ fr' = fr ∧ M' = M
  | _ => fun _ _ _ _ _ => False

theorem AForget.flen {k0 : Nat} {fr fr2 : List SV} {M M2 : Mem} (h : AForget k0 fr M fr2 M2) : fr2.length = fr.length := by
  obtain ⟨H, _, _, rfl⟩ := h
  exact mkFr_length _ _ _
theorem ALp.flen {k0 : Nat} {R : RelA} (hR : ∀ fr M e fr' M', R fr M e fr' M' → fr'.length = fr.length) {fr M e fr' M'} (h : ALp k0 R fr M e fr' M') : fr'.length = fr.length := by
  induction h with
  | out h _ => exact hR _ _ _ _ _ h
  | again h hf _ ih => rw [ih, hf.flen, hR _ _ _ _ _ h]
theorem ARun_flen {P : Program} {k0 : Nat} : ∀ (c : Code) (fr : List SV) (M : Mem) (e : AX) (fr' : List SV) (M' : Mem), ARun P k0 c fr M e fr' M' → fr'.length = fr.length := by
  intro c
  induction c with
  | skip => intro fr M e fr' M' h; rw [h.2.1]
  | region id ops draw =>
    intro fr M e fr' M' h
    rcases h with ⟨_, rs, ht, _⟩ | ⟨v, l, o, rs, _, _, _, ht, _⟩
    · exact text_flen _ _ _ _ _ _ ht
    · exact text_flen _ _ _ _ _ _ ht
  | seq a b iha ihb =>
    intro fr M e fr' M' h
    rcases h with ⟨h, _⟩ | ⟨fr1, M1, fr2, M2, h1, h2, h3⟩
    · exact iha _ _ _ _ _ h
    · rw [ihb _ _ _ _ _ h3, ← iha _ _ _ _ _ h1]
      rcases h2 with ⟨rfl, _⟩ | h2
      · rfl
      · exact h2.flen
  | cond c x y ihx ihy =>
    intro fr M e fr' M' h
    rcases h with ⟨_, h⟩ | ⟨_, h⟩
    · exact ihx _ _ _ _ _ h
    · exact ihy _ _ _ _ _ h
  | block id b ih => intro fr M e fr' M' h; obtain ⟨e0, h, _⟩ := h; exact ih _ _ _ _ _ h
  | loop b ih => intro fr M e fr' M' h; obtain ⟨fr0, M0, hf, h⟩ := h; rw [h.flen ih, hf.flen]
  | exit id => intro fr M e fr' M' h; rw [h.2.1]
  | ret => intro fr M e fr' M' h; rw [h.2.1]
  | rangeFunc => intro fr M e fr' M' h; exact h.elim
  | scope => intro fr M e fr' M' h; exact h.elim
  | label => intro fr M e fr' M' h; exact h.elim
  | goto => intro fr M e fr' M' h; exact h.elim
  | refuse => intro fr M e fr' M' h; exact h.elim

/-- THE RUN IS FIXED: what follows holds of one end -/
theorem acode_rel {P : Program} {J : Bool} {k0 : Nat} : ∀ (c : Code) (fr : List SV) (M : Mem) (K : Kx), acode P J k0 c fr M K → ∃ e fr' M', ARun P k0 c fr M e fr' M' ∧ K e fr' M' := by
  intro c
  induction c with
  | skip => exact fun fr M K h => ⟨.normal, fr, M, ⟨rfl, rfl, rfl⟩, h⟩
  | region id ops draw =>
    intro fr M K h
    have plain : regN P ops draw fr M K → ∃ e fr' M', ARun P k0 (.region id ops draw) fr M e fr' M' ∧ K e fr' M' := fun h => by
      cases draw with
      | true =>
        obtain ⟨rs', fr', M', ht, hok, hk⟩ := runF_text _ _ _ _ _ h
        rw [List.reverse_nil, List.nil_append, okOrder_light] at hok
        exact ⟨.normal, fr', M', .inl ⟨rfl, rs', ht, fun _ => hok⟩, hk⟩
      | false =>
        obtain ⟨rs', fr', M', ht, hk⟩ := runF_text _ _ _ _ _ h
        exact ⟨.normal, fr', M', .inl ⟨rfl, rs', ht, fun h => by cases h⟩, hk⟩
    replace h : regF P ops draw fr M K := h
    unfold regF at h
    cases hmp : mayPan ops with
    | false => rw [hmp] at h; exact plain h
    | true =>
      rw [hmp] at h
      rcases h.h with h | ⟨_, h⟩
      · exact plain h
      · unfold panF at h
        split at h
        · rename_i o ho
          have hL := init_last _ _ ho
          have hg : o.guard = none := by
            unfold mayPan at hmp
            rw [ho] at hmp
            simp only at hmp
            split at hmp
            · split at hmp
              · split at hmp
                · assumption
                · cases hmp
              · cases hmp
            · cases hmp
          obtain ⟨rs', fr', M', ht, hk⟩ := runF_text _ _ _ _ _ h
          rw [List.reverse_nil, List.nil_append] at hk
          cases draw with
          | true =>
            obtain ⟨hok, hlast, v, hp, hk⟩ := hk
            refine ⟨.pan v, fr', M', .inr ⟨v, _, o, rs', rfl, hL, hg, ht, fun _ => ⟨?_, hlast⟩, panS_sound hp⟩, hk⟩
            rw [← okOrder_light, List.map_append]
            exact hok
          | false =>
            obtain ⟨v, hp, hk⟩ := hk
            exact ⟨.pan v, fr', M', .inr ⟨v, _, o, rs', rfl, hL, hg, ht, fun h => (by cases h), panS_sound hp⟩, hk⟩
        · exact h.elim
  | seq x y ihx ihy =>
    intro fr M K h
    have plain : acode P J k0 x fr M (seqK K (acode P J k0 y)) → ∃ e fr' M', ARun P k0 (x.seq y) fr M e fr' M' ∧ K e fr' M' := fun h => by
      obtain ⟨e, fr1, M1, h1, hk⟩ := ihx fr M _ h
      cases e with
      | normal =>
        obtain ⟨e, fr', M', h2, hk⟩ := ihy fr1 M1 K hk
        exact ⟨e, fr', M', .inr ⟨fr1, M1, fr1, M1, h1, .inl ⟨rfl, rfl⟩, h2⟩, hk⟩
      | exit n => exact ⟨.exit n, fr1, M1, .inl ⟨h1, by simp⟩, hk⟩
      | ret => exact ⟨.ret, fr1, M1, .inl ⟨h1, by simp⟩, hk⟩
      | pan v => exact ⟨.pan v, fr1, M1, .inl ⟨h1, by simp⟩, hk⟩
    cases J with
    | false => exact plain h
    | true =>
      replace h : (match joinable x with | true => AJoin k0 (acode P true k0 x) (acode P true k0 y) fr M K | false => acode P true k0 x fr M (seqK K (acode P true k0 y))) := h
      cases hj : joinable x with
      | false => rw [hj] at h; exact plain h
      | true =>
        rw [hj] at h
        rcases h.h with h | ⟨X, inv, N, H, G, at', hN, hat, hx, hy⟩
        · exact plain h
        · obtain ⟨e, fr1, M1, h1, hk⟩ := ihx fr M _ hx
          cases e with
          | normal =>
            obtain ⟨x', hx', hat'⟩ := hk
            obtain ⟨rn, hf⟩ := hat _ _ _ hat'
            obtain ⟨e, fr', M', h2, hk⟩ := ihy _ _ K (hy x' hx')
            exact ⟨e, fr', M', .inr ⟨fr1, M1, _, _, h1, .inr ⟨H x', rn, hf, by rw [hN, ARun_flen _ _ _ _ _ _ h1]⟩, h2⟩, hk⟩
          | exit n => exact ⟨.exit n, fr1, M1, .inl ⟨h1, by simp⟩, hk⟩
          | ret => exact ⟨.ret, fr1, M1, .inl ⟨h1, by simp⟩, hk⟩
          | pan v => exact ⟨.pan v, fr1, M1, .inl ⟨h1, by simp⟩, hk⟩
  | cond c x y ihx ihy =>
    intro fr M K h
    replace h : acond (evO fr c) (acode P J k0 x fr M K) (acode P J k0 y fr M K) := h
    simp only [acond] at h
    split at h
    · rename_i b hb
      cases b with
      | true => obtain ⟨e, fr', M', h1, hk⟩ := ihx fr M K h; exact ⟨e, fr', M', .inl ⟨hb, h1⟩, hk⟩
      | false => obtain ⟨e, fr', M', h1, hk⟩ := ihy fr M K h; exact ⟨e, fr', M', .inr ⟨hb, h1⟩, hk⟩
    · exact h.elim
  | block id b ih =>
    intro fr M K h
    obtain ⟨e, fr', M', h1, hk⟩ := ih fr M _ h
    refine ⟨exId id e, fr', M', ⟨e, h1, rfl⟩, ?_⟩
    cases e with
    | normal => exact hk
    | ret => exact hk
    | pan v => exact hk
    | exit n =>
      replace hk : (if n = id then K .normal fr' M' else K (.exit n) fr' M') := hk
      show K (if n = id then .normal else .exit n) fr' M'
      split
      · rename_i he; rw [if_pos he] at hk; exact hk
      · rename_i he; rw [if_neg he] at hk; exact hk
  | exit id => exact fun fr M K h => ⟨.exit id, fr, M, ⟨rfl, rfl, rfl⟩, h⟩
  | ret => exact fun fr M K h => ⟨.ret, fr, M, ⟨rfl, rfl, rfl⟩, h⟩
  | loop b ih =>
    intro fr M K h
    obtain ⟨X, inv, N, H, G, μ, at', x0, hN, hx0, hat, hat0, hround⟩ := h.h
    obtain ⟨rn0, hf0⟩ := hat _ _ _ hat0
    have key : ∀ n x, μ x = n → inv x → ∃ e fr' M', ALp k0 (ARun P k0 b) (mkFr 0 N (H x)) (G x) e fr' M' ∧ K e fr' M' := by
      intro n
      induction n using Nat.strongRecOn with
      | _ n ihn =>
        intro x hn hx
        obtain ⟨e, fr1, M1, h1, hk⟩ := ih _ _ _ (hround x hx)
        cases e with
        | normal =>
          obtain ⟨x', ⟨hx', hlt⟩, hat'⟩ := hk
          obtain ⟨rn, hf⟩ := hat _ _ _ hat'
          obtain ⟨e, fr', M', h2, hk⟩ := ihn (μ x') (hn ▸ hlt) x' rfl hx'
          have hl : fr1.length = N := by rw [ARun_flen _ _ _ _ _ _ h1, mkFr_length]
          exact ⟨e, fr', M', .again h1 ⟨H x', rn, hf, by rw [hl]⟩ h2, hk⟩
        | exit n => exact ⟨.exit n, fr1, M1, .out h1 (by simp), hk⟩
        | ret => exact ⟨.ret, fr1, M1, .out h1 (by simp), hk⟩
        | pan v => exact ⟨.pan v, fr1, M1, .out h1 (by simp), hk⟩
    obtain ⟨e, fr', M', h1, hk⟩ := key _ x0 rfl hx0
    exact ⟨e, fr', M', ⟨_, _, ⟨H x0, rn0, hf0, by rw [hN]⟩, h1⟩, hk⟩
  | rangeFunc => intro fr M K h; exact h.elim
  | scope => intro fr M K h; exact h.elim
  | label => intro fr M K h; exact h.elim
  | goto => intro fr M K h; exact h.elim
  | refuse => intro fr M K h; exact h.elim

/-- in a round of a loop -/
def inL (P : Program) (c : Code) (Q : Exit → Act → World → Prop) (a : Act) (w : World) : Prop :=
  ∀ b k cs, ∃ e a' w', Q e a' w' ∧ Arrives P (lone (b.at a (.code c :: .inLoop c :: k)) cs w) b k cs e a' w'
theorem inL_step {P : Program} {c : Code} {Q : Exit → Act → World → Prop} {a : Act} {w : World} (h : c.wp P (Exit.then (fun a' w' => inL P c Q a' w') Q) a w) : inL P c Q a w := by
  intro b k cs
  obtain ⟨e, a₁, w₁, hq, harr⟩ := h b (.inLoop c :: k) cs
  cases e with
  | normal =>
    obtain ⟨e₂, a₂, w₂, hq₂, harr₂⟩ := hq b k cs
    exact ⟨e₂, a₂, w₂, hq₂, .of_steps (Steps.trans harr (.one step_inLoop)) harr₂⟩
  | exit id => exact ⟨_, a₁, w₁, hq, .pass (x := .inLoop c) rfl (fun _ _ => .inl (by simp)) harr⟩
  | goto l => exact ⟨_, a₁, w₁, hq, .pass (x := .inLoop c) rfl (fun _ _ => .inl (by simp)) harr⟩
  | ret => exact ⟨_, a₁, w₁, hq, .pass (x := .inLoop c) rfl (fun _ _ => .inl (by simp)) harr⟩
  | panic ch => exact ⟨_, a₁, w₁, hq, .pass (x := .inLoop c) rfl (fun _ _ => .inl (by simp)) harr⟩
  | outgrown => exact ⟨_, a₁, w₁, hq, .pass (x := .inLoop c) rfl (fun _ _ => .inl (by simp)) harr⟩
theorem wp_of_inL {P : Program} {c : Code} {Q : Exit → Act → World → Prop} {a : Act} {w : World} (h : inL P c Q a w) : (Code.loop c).wp P Q a w := by
  intro b k cs
  obtain ⟨e, a', w', hq, harr⟩ := h b k cs
  exact ⟨e, a', w', hq, .of_steps (.one step_loop) harr⟩

theorem Abs.forget {W : World} {A : Nat → Prop} {T k0 : Nat} {β0 : Bet} {ds : List Deferred} {fr fr2 : List SV} {M M2 : Mem} {β : Bet} {a : Act} {w : World}
    (ab : Abs W A T k0 β0 ds fr M β a w) (h : AForget k0 fr M fr2 M2) : ∃ β', Abs W A T k0 β0 ds fr2 M2 β' a w := by
  obtain ⟨H, rn, a, rfl⟩ := h
  exact ⟨betR β rn M2.length, by rw [mkFr_length]; exact ab.flen, fun n hn => by rw [betR_to (Nat.lt_of_lt_of_le hn a.len) (a.idle n hn)]; exact ab.keep n hn, a.st ab.st, a.frm ab.fr rfl, betR_top, a.len, ab.ds⟩

theorem ARun_sound {P : Program} (hm : P.follows .mixedOrders = true) {k0 : Nat} {W : World} {A : Nat → Prop} {T : Nat} {β0 : Bet} {ds : List Deferred} (h0 : ∀ n, n < k0 → β0 n ≠ none) :
    ∀ (c : Code) (fr : List SV) (M : Mem) (e : AX) (fr' : List SV) (M' : Mem) (β : Bet) (a : Act) (w : World) (Q : Exit → Act → World → Prop),
    ARun P k0 c fr M e fr' M' → Abs W A T k0 β0 ds fr M β a w →
    (∀ β' a' w', Abs W A T k0 β0 ds fr' M' β' a' w' → Q e.to a' w') → c.wp P Q a w := by
  have keepTrans : ∀ {β β' : Bet}, Keep k0 β0 β → β.le β' → Keep k0 β0 β' := fun {β β'} hk hl n hn => by
    rw [← hk n hn]
    have := h0 n hn
    rw [← hk n hn] at this
    cases hb : β n with
    | none => exact absurd hb this
    | some m => exact hl n m hb
  intro c
  induction c with
  | skip => intro fr M e fr' M' β a w Q h ab hQ; obtain ⟨rfl, rfl, rfl⟩ := h; exact wp_skip (hQ β a w ab)
  | region id ops draw =>
    intro fr M e fr' M' β a w Q h ab hQ
    rcases h with ⟨rfl, rs', ht, hok⟩ | ⟨v, l, o, rs', rfl, hL, hg, ht, hok, hp⟩
    · cases draw with
      | true =>
        exact region_draw hm ht (hok rfl) ab.top ab.st ab.fr fun β' a' w' hle hSt hF hT hd =>
          hQ β' a' w' ⟨by rw [text_flen _ _ _ _ _ _ ht]; exact ab.flen, keepTrans ab.keep hle, hSt, hF, hT, Nat.le_trans ab.len (text_len _ _ _ _ _ _ ht), by rw [hd]; exact ab.ds⟩
      | false =>
        exact wp_region_list (text_wp _ _ _ _ _ _ _ _ _ ht ab.st ab.fr ab.top fun β' a' w' hle hSt hF hT hd =>
          hQ β' a' w' ⟨by rw [text_flen _ _ _ _ _ _ ht]; exact ab.flen, keepTrans ab.keep hle, hSt, hF, hT, Nat.le_trans ab.len (text_len _ _ _ _ _ _ ht), by rw [hd]; exact ab.ds⟩)
    · cases draw with
      | true =>
        obtain ⟨hok, hlast⟩ := hok rfl
        exact region_drawP hm hL hg ht hok hlast ab.top ab.st ab.fr fun β' a' w' next hle hSt hF hT hd =>
          hp W A β' M' w' a' next Q hSt (fun x _ => hF.ev x) (hQ β' a' w' ⟨by rw [text_flen _ _ _ _ _ _ ht]; exact ab.flen, keepTrans ab.keep hle, hSt, hF, hT, Nat.le_trans ab.len (text_len _ _ _ _ _ _ ht), by rw [hd]; exact ab.ds⟩)
      | false =>
        refine wp_region_list ?_
        rw [hL]
        refine text_wpR _ _ _ _ _ _ _ _ _ ht ab.st ab.fr ab.top fun β' a' w' hle hSt hF hT hd => ?_
        unfold wpList
        rw [if_pos (by unfold Region.wanted; rw [hg])]
        exact .inl (hp W A β' M' w' a' _ Q hSt (fun x _ => hF.ev x) (hQ β' a' w' ⟨by rw [text_flen _ _ _ _ _ _ ht]; exact ab.flen, keepTrans ab.keep hle, hSt, hF, hT, Nat.le_trans ab.len (text_len _ _ _ _ _ _ ht), by rw [hd]; exact ab.ds⟩))
  | seq x y ihx ihy =>
    intro fr M e fr' M' β a w Q h ab hQ
    rcases h with ⟨h, hne⟩ | ⟨fr1, M1, fr2, M2, h1, h2, h3⟩
    · refine wp_seq (ihx fr M e fr' M' β a w _ h ab fun β' a' w' ab' => ?_)
      cases e with
      | normal => exact absurd rfl hne
      | exit n => exact hQ β' a' w' ab'
      | ret => exact hQ β' a' w' ab'
      | pan v => exact hQ β' a' w' ab'
    · refine wp_seq (ihx fr M .normal fr1 M1 β a w _ h1 ab fun β' a' w' ab' => ?_)
      obtain ⟨β2, ab2⟩ : ∃ β2, Abs W A T k0 β0 ds fr2 M2 β2 a' w' := by
        rcases h2 with ⟨rfl, rfl⟩ | h2
        · exact ⟨β', ab'⟩
        · exact ab'.forget h2
      exact ihy fr2 M2 e fr' M' β2 a' w' Q h3 ab2 hQ
  | cond c x y ihx ihy =>
    intro fr M e fr' M' β a w Q h ab hQ
    rcases h with ⟨hb, h⟩ | ⟨hb, h⟩
    · have hc := ab.fr.ev c
      rw [hb] at hc
      exact wp_cond_true (show a.eval c = .bool true from hc) (ihx fr M e fr' M' β a w Q h ab hQ)
    · have hc := ab.fr.ev c
      rw [hb] at hc
      exact wp_cond_false (show a.eval c = .bool false from hc) (ihy fr M e fr' M' β a w Q h ab hQ)
  | block id b ih =>
    intro fr M e fr' M' β a w Q h ab hQ
    obtain ⟨e0, h, rfl⟩ := h
    refine wp_block (ih fr M e0 fr' M' β a w _ h ab fun β' a' w' ab' => ?_)
    have := hQ β' a' w' ab'
    cases e0 with
    | normal => exact this
    | exit n =>
      simp only [AX.to, Exit.inBlock]
      simp only [exId] at this
      split
      · rename_i he; rw [if_pos he] at this; exact this
      · rename_i he; rw [if_neg he] at this; exact this
    | ret => exact this
    | pan v => exact this
  | exit id => intro fr M e fr' M' β a w Q h ab hQ; obtain ⟨rfl, rfl, rfl⟩ := h; exact wp_exit (hQ β a w ab)
  | ret => intro fr M e fr' M' β a w Q h ab hQ; obtain ⟨rfl, rfl, rfl⟩ := h; exact wp_ret (hQ β a w ab)
  | loop b ih =>
    intro fr M e fr' M' β a w Q h ab hQ
    obtain ⟨fr0, M0, hf, h⟩ := h
    obtain ⟨β1, ab1⟩ := ab.forget hf
    clear ab hf
    refine wp_of_inL ?_
    induction h generalizing β1 a w with
    | @out fr M e fr' M' h hne =>
      refine inL_step (ih fr M e fr' M' β1 a w _ h ab1 fun β' a' w' ab' => ?_)
      cases e with
      | normal => exact absurd rfl hne
      | exit n => exact hQ β' a' w' ab'
      | ret => exact hQ β' a' w' ab'
      | pan v => exact hQ β' a' w' ab'
    | @again fr M fr1 M1 fr2 M2 e fr' M' h hf _ ih2 =>
      refine inL_step (ih fr M .normal fr1 M1 β1 a w _ h ab1 fun β' a' w' ab' => ?_)
      obtain ⟨β2, ab2⟩ := ab'.forget hf
      apply ih2 <;> assumption
  | rangeFunc => intro fr M e fr' M' β a w Q h; exact h.elim
  | scope => intro fr M e fr' M' β a w Q h; exact h.elim
  | label => intro fr M e fr' M' β a w Q h; exact h.elim
  | goto => intro fr M e fr' M' β a w Q h; exact h.elim
  | refuse => intro fr M e fr' M' β a w Q h; exact h.elim
end Go.Sx
namespace Go.Sx

def resA (P : Program) : List ResultVar → List SV → Mem → (List V1 → Prop) → Prop
  | [], _, _, K => K []
  | .tmp t :: r, fr, M, K => (match frGet fr t with
    | .o y => resA P r fr M fun l => K (y :: l)
    | _ => False)
  | .cell a t :: r, fr, M, K => evLoad P t (frGet fr a) M fun v _ => match v with
    | .o y => resA P r fr M fun l => K (y :: l)
    | _ => False
def tupA : List V1 → SV
  | [y] => .o y
  | l => .t l
def postK (P : Program) (rs : List ResultVar) (v1 : SV) (m1 : Mem) : Kx := fun e fr M => match e with
  | .exit _ => False
  | .pan _ => False
  | _ => resA P rs fr M fun l => tupA l = v1 ∧ leM M m1

theorem evLoad_sound {P : Program} {t : TypeId} {x : SV} {M : Mem} {K : Kt} (h : evLoad P t x M K) {W : World} {A : Nat → Prop} {β : Bet} {w : World} (hSt : St W A β M w) {v : Value} (hv : denS β v x) :
    ∃ ad r y, v = .pointer (some ad) ∧ (loadVar t ad).run P w = .ok r w ∧ den1 β r y ∧ K (.o y) [] := by
  unfold evLoad at h
  split at h
  · rename_i n i j
    split at h
    · rename_i k hk
      split at h
      · rename_i ht
        obtain ⟨m, hm, hh⟩ := hSt.names n k hk
        obtain ⟨m', hm', he⟩ := hv
        rw [hm] at hm'; cases hm'
        obtain ⟨r, y, hr, hd, hK⟩ := load_sound hh ht h
        refine ⟨_, r, y, he, ?_, hd, hK⟩
        simpa [Instr.loadAt, Instr.sureAddr] using hr
      · exact h.elim
    · exact h.elim
  · exact h.elim

def resOne (tmps : Array Value) : ResultVar → Sem Value
  | .tmp t => pure (tmps.getD t undef)
  | .cell a t => do loadVar t (← asAddr (tmps.getD a undef))

theorem resA_sound {P : Program} {W : World} {A : Nat → Prop} {β : Bet} {M : Mem} {w : World} {tmps : Array Value} {fr : List SV} (hSt : St W A β M w) (hF : Fr β tmps fr) :
    ∀ (rs : List ResultVar) (K : List V1 → Prop), resA P rs fr M K → ∃ l vs, K l ∧ denL1 β vs l ∧ (rs.mapM (resOne tmps)).run P w = .ok vs w
  | [], K, h => ⟨[], [], h, trivial, by simp⟩
  | .tmp t :: r, K, h => by
    unfold resA at h
    split at h
    · rename_i y hy
      obtain ⟨l, vs, hK, hd, hr⟩ := resA_sound hSt hF r _ h
      have := hF.den t
      rw [hy] at this
      exact ⟨y :: l, tmps.getD t undef :: vs, hK, ⟨this, hd⟩, by rw [List.mapM_cons]; simp only [resOne, Sem.run_bind, Sem.run_pure, Result.andThen_ok, hr]⟩
    · exact h.elim
  | .cell a t :: r, K, h => by
    unfold resA at h
    obtain ⟨ad, v, y, he, hv, hdy, hK⟩ := evLoad_sound h hSt (hF.den a)
    simp only at hK
    obtain ⟨l, vs, hK, hd, hr⟩ := resA_sound hSt hF r _ hK
    exact ⟨y :: l, v :: vs, hK, ⟨hdy, hd⟩, by rw [List.mapM_cons]; simp only [resOne, Sem.run_bind, Sem.run_pure, Result.andThen_ok, he, asAddr, hv, hr]⟩

theorem results_sound {P : Program} {fn : Func} {W : World} {A : Nat → Prop} {β : Bet} {M : Mem} {w : World} {tmps : Array Value} {fr : List SV} (hSt : St W A β M w) (hF : Fr β tmps fr) {K : List V1 → Prop}
    (h : resA P fn.results.toList fr M K) : ∃ l v, K l ∧ denS β v (tupA l) ∧ (results fn tmps).run P w = .ok v w := by
  obtain ⟨l, vs, hK, hd, hr⟩ := resA_sound hSt hF _ _ h
  have hm : (fn.results.mapM (resOne tmps)).run P w = .ok vs.toArray w := by
    rw [Array.mapM_eq_mapM_toList]
    simp [hr]
  have hres : (results fn tmps).run P w = .ok (if h : vs.toArray.size = 1 then vs.toArray[0] else .tuple vs.toArray) w := by
    have he : results fn tmps = (do
        let vs ← fn.results.mapM (resOne tmps)
        pure (if h : vs.size = 1 then vs[0] else .tuple vs)) := rfl
    rw [he, Sem.run_bind, hm]
    rfl
  refine ⟨l, _, hK, ?_, hres⟩
  cases l with
  | nil => cases vs with
    | nil => exact ⟨[], rfl, trivial⟩
    | cons => cases hd
  | cons y l => cases vs with
    | nil => cases hd
    | cons v vs => cases l with
      | nil => cases vs with
        | nil => exact hd.1
        | cons => cases hd.2
      | cons y' l => cases vs with
        | nil => cases hd.2
        | cons v' vs => exact ⟨v :: v' :: vs, by simp, hd⟩

/-- the blocks of the names that may be written -/
def wrA (β : Bet) (m0 : Mem) (b : Nat) : Prop := ∃ n k m, m0.get n = some k ∧ k.wr = true ∧ β n = some m ∧ m.room ≠ 0 ∧ m.b = b

/-- A CONTRACT, over names 0, 1, .. of its own: called with args0 where memory is m0, the function returns v1 and leaves m1 -/
structure FC (P : Program) (g : FuncId) (args0 : List SV) (m0 : Mem) (v1 : SV) (m1 : Mem) : Prop where
  can : Go.Sx.callable P g = true
  len : m0.length ≤ m1.length
  bv : bS m1.length v1 = true
  bm1 : bM m1.length m1
  run : ∀ (β : Bet) (w : World) (vals : List Value), Top β m0.length → (∀ n, n < m0.length → β n ≠ none) → St w (wrA β m0) β m0 w → denLS β vals args0 →
    Calls P g vals.toArray w fun e w' => ∃ v' β', e = .returned v' ∧ Keep m0.length β β' ∧ Top β' m1.length ∧ St w (wrA β m0) β' m1 w' ∧ denS β' v' v1

def undefs : Nat → List SV
  | 0 => []
  | n + 1 => .t [] :: undefs n
theorem undefs_length : ∀ n, (undefs n).length = n
  | 0 => rfl
  | n + 1 => congrArg (· + 1) (undefs_length n)
theorem frGet_undefs : ∀ (n t : Nat), frGet (undefs n) t = if t < n then .t [] else .o (.c .u)
  | 0, t => by simp [undefs, frGet]
  | n + 1, 0 => by simp [undefs, frGet]
  | n + 1, t + 1 => by simp [undefs, frGet, frGet_undefs n t]
theorem frGet_append : ∀ (l m : List SV) (t : Nat), frGet (l ++ m) t = if t < l.length then frGet l t else frGet m (t - l.length)
  | [], m, t => by simp
  | x :: l, m, 0 => by simp [frGet]
  | x :: l, m, t + 1 => by
    have := frGet_append l m t
    simp [frGet, this]

theorem denLS.get {β : Bet} : ∀ {xs : List Value} {l : List SV} (t : Nat), denLS β xs l → t < l.length → denS β (xs.getD t undef) (frGet l t)
  | x :: xs, y :: l, 0, ⟨h, _⟩, _ => by simpa [frGet] using h
  | x :: xs, y :: l, t + 1, ⟨_, r⟩, ht => by simpa [frGet] using denLS.get t r (by simpa using ht)
  | [], [], _, _, ht => by simp at ht

/-! the results are fixed -/
theorem ldRow_det {n : Nat} {row : List C} {i j : Nat} {K : C → Prop} (h : ldRow n row i j K) : ∃ c, ldRow n row i j (fun c' => c' = c) ∧ K c := by
  obtain ⟨hi, h⟩ := h
  cases hr : row[j]? with
  | none => rw [hr] at h; exact h.elim
  | some x => rw [hr] at h; exact ⟨x, ⟨hi, by rw [hr]⟩, h⟩
theorem ldOne_det {k : Bk} {i j : Nat} {K : C → Prop} (h : ldOne k i j K) : ∃ c, ldOne k i j (fun c' => c' = c) ∧ K c := by
  cases k with
  | box l =>
    cases i with
    | zero =>
      replace h : (match l[j]? with | some x => K x | none => False) := h
      cases hr : l[j]? with
      | none => rw [hr] at h; exact h.elim
      | some x => rw [hr] at h; exact ⟨x, by show (match l[j]? with | some y => y = x | none => False); rw [hr], h⟩
    | succ i => exact h.elim
  | ints k xs => exact ldRow_det (K := K) h
  | bools xs => exact ldRow_det (K := K) h
  | rows sz n row => exact ldRow_det (K := K) h
  | map s es => exact h.elim
theorem ldMany_det {k : Bk} {i j s : Nat} {K : List C → Prop} (h : ldMany k i j s K) : ∃ c, ldMany k i j s (fun c' => c' = c) ∧ K c := by
  cases k with
  | box l =>
    cases i with
    | zero =>
      replace h : (if j + s ≤ l.length then K ((l.drop j).take s) else False) := h
      by_cases hl : j + s ≤ l.length
      · rw [if_pos hl] at h
        exact ⟨_, by show (if j + s ≤ l.length then (l.drop j).take s = _ else False); rw [if_pos hl], h⟩
      · rw [if_neg hl] at h; exact h.elim
    | succ i => exact h.elim
  | ints k xs => exact h.elim
  | bools xs => exact h.elim
  | map s es => exact h.elim
  | rows sz n row =>
    obtain ⟨hi, h⟩ := h
    by_cases h1 : j = 0 ∧ s = sz
    · rw [if_pos h1] at h
      exact ⟨_, ⟨hi, by rw [if_pos h1]⟩, h⟩
    · rw [if_neg h1] at h
      by_cases h2 : j + s ≤ sz
      · rw [if_pos h2] at h
        exact ⟨_, ⟨hi, by rw [if_neg h1, if_pos h2]⟩, h⟩
      · rw [if_neg h2] at h; exact h.elim
theorem evLoad_det {P : Program} {t : TypeId} {x : SV} {M : Mem} {K : Kt} (h : evLoad P t x M K) : ∃ y, evLoad P t x M (fun v u => v = .o y) ∧ K (.o y) [] := by
  unfold evLoad at h
  split at h
  · rename_i n i j
    split at h
    · rename_i k hk
      split at h
      · rename_i ht
        split at h
        · rename_i ha
          obtain ⟨l, h1, h2⟩ := ldMany_det h
          refine ⟨.a l, ?_, h2⟩
          simp only [evLoad, hk, if_pos ht, ha]
          have : (fun l' => SV.o (V1.a l') = SV.o (V1.a l)) = fun l' => l' = l := by funext l'; simp
          rw [this]; exact h1
        · rename_i ha
          obtain ⟨l, h1, h2⟩ := ldOne_det h
          refine ⟨.c l, ?_, h2⟩
          simp only [evLoad, hk, if_pos ht, ha]
          have : (fun l' => SV.o (V1.c l') = SV.o (V1.c l)) = fun l' => l' = l := by funext l'; simp
          rw [this]; exact h1
      · exact h.elim
    · exact h.elim
  · exact h.elim
theorem evLoad_mono {P : Program} {t : TypeId} {x : SV} {M : Mem} {y : V1} {K : Kt} (h : evLoad P t x M (fun v u => v = .o y)) (hK : K (.o y) []) : evLoad P t x M K := by
  unfold evLoad at h ⊢
  split at h
  · rename_i n i j
    split at h
    · rename_i k hk
      split at h
      · rename_i ht
        simp only [hk, if_pos ht]
        split at h
        · rename_i ha
          try simp only [ha]
          have e : (fun l' => SV.o (V1.a l') = SV.o y) = fun l' => V1.a l' = y := by funext l'; simp
          rw [e] at h
          cases hk2 : k.k with
          | box l =>
            rw [hk2] at h
            cases i with
            | zero =>
              replace h : (if j + szT P t ≤ l.length then V1.a ((l.drop j).take (szT P t)) = y else False) := h
              show (if j + szT P t ≤ l.length then K (.o (.a ((l.drop j).take (szT P t)))) [] else False)
              by_cases hl : j + szT P t ≤ l.length
              · rw [if_pos hl] at h ⊢; rw [h]; exact hK
              · rw [if_neg hl] at h; exact h.elim
            | succ i => exact h.elim
          | ints k xs => rw [hk2] at h; exact h.elim
          | bools xs => rw [hk2] at h; exact h.elim
          | map s es => rw [hk2] at h; exact h.elim
          | rows sz n row =>
            rw [hk2] at h
            obtain ⟨hi, h⟩ := h
            refine ⟨hi, ?_⟩
            by_cases h1 : j = 0 ∧ szT P t = sz
            · rw [if_pos h1] at h ⊢; subst h; exact hK
            · rw [if_neg h1] at h ⊢
              by_cases h2 : j + szT P t ≤ sz
              · rw [if_pos h2] at h ⊢; subst h; exact hK
              · rw [if_neg h2] at h; exact h.elim
        · rename_i ha
          try simp only [ha]
          have row : ∀ (n : Nat) (row : List C) (i j : Nat), ldRow n row i j (fun c => SV.o (V1.c c) = SV.o y) → ldRow n row i j (fun c => K (.o (.c c)) []) := by
            intro n row i j ⟨hi, h⟩
            refine ⟨hi, ?_⟩
            cases hr : row[j]? with
            | none => rw [hr] at h; exact h.elim
            | some x => rw [hr] at h; simp only at h ⊢; rw [h]; exact hK
          cases hk2 : k.k with
          | box l =>
            rw [hk2] at h
            cases i with
            | zero =>
              replace h : (match l[j]? with | some x => SV.o (V1.c x) = SV.o y | none => False) := h
              show (match l[j]? with | some x => K (.o (.c x)) [] | none => False)
              cases hr : l[j]? with
              | none => rw [hr] at h; exact h.elim
              | some x => rw [hr] at h; simp only at h ⊢; rw [h]; exact hK
            | succ i => exact h.elim
          | ints k xs => rw [hk2] at h; exact row _ _ _ _ h
          | bools xs => rw [hk2] at h; exact row _ _ _ _ h
          | map s es => rw [hk2] at h; exact h.elim
          | rows sz n rw' => rw [hk2] at h; exact row _ _ _ _ h
      · exact h.elim
    · exact h.elim
  · exact h.elim
theorem resA_det {P : Program} : ∀ (rs : List ResultVar) (fr : List SV) (M : Mem) (K : List V1 → Prop), resA P rs fr M K → ∃ l, resA P rs fr M (fun l' => l' = l) ∧ K l
  | [], fr, M, K, h => ⟨[], rfl, h⟩
  | .tmp t :: r, fr, M, K, h => by
    unfold resA at h
    split at h
    · rename_i y hy
      obtain ⟨l, h1, h2⟩ := resA_det r fr M _ h
      refine ⟨y :: l, ?_, h2⟩
      unfold resA
      rw [hy]
      have : (fun l' => y :: l' = y :: l) = fun l' => l' = l := by funext l'; simp
      show resA P r fr M (fun l' => y :: l' = y :: l)
      rw [this]; exact h1
    · exact h.elim
  | .cell a t :: r, fr, M, K, h => by
    unfold resA at h
    obtain ⟨y, h1, h2⟩ := evLoad_det h
    obtain ⟨l, h3, h4⟩ := resA_det r fr M _ h2
    refine ⟨y :: l, ?_, h4⟩
    unfold resA
    refine evLoad_mono h1 ?_
    have : (fun l' => y :: l' = y :: l) = fun l' => l' = l := by funext l'; simp
    show resA P r fr M (fun l' => y :: l' = y :: l)
    rw [this]; exact h3

/-! no name is taken anew -/
theorem exCp_nil (c : Cp) : exCp [] c = c := by cases c <;> rfl
theorem exC_nil (c : C) : exC [] c = c := by
  cases c with
  | f g fi ca =>
    have : exCp [] = id := funext exCp_nil
    simp [exC, this]
  | _ => rfl
theorem ex1_nil (y : V1) : ex1 [] y = y := by
  have h : exC [] = id := funext exC_nil
  cases y with
  | c c => exact congrArg V1.c (exC_nil c)
  | a l => simp [ex1, h]
theorem exS_nil (y : SV) : exS [] y = y := by
  have h : ex1 [] = id := funext ex1_nil
  cases y with
  | o c => exact congrArg SV.o (ex1_nil c)
  | t l => simp [exS, h]
theorem exB_nil (k : Blk) : exB [] k = k := by
  have h : exC [] = id := funext exC_nil
  obtain ⟨k, wr⟩ := k
  cases k <;> simp [exB, exBk, h]
theorem okC_nil (c : C) : okC [] c = true := by
  cases c with
  | f g fi ca =>
    have : ∀ l : List Cp, l.all (okCp []) = true := fun l => List.all_eq_true.2 fun c _ => by cases c <;> rfl
    simp [okC, this]
  | _ => rfl
theorem okL_nil (l : List C) : l.all (okC []) = true := List.all_eq_true.2 fun c _ => okC_nil c
theorem okS_nil (y : SV) : okS [] y = true := by
  have h : ∀ z : V1, ok1 [] z = true := fun z => by cases z with | c c => exact okC_nil c | a l => exact okL_nil l
  cases y with
  | o c => exact h c
  | t l => exact List.all_eq_true.2 fun c _ => h c
theorem leFx_nil {fr : List SV} : ∀ {L : List (Nat × SV)}, leF fr L → leFx [] fr L
  | [], _ => trivial
  | (s, v) :: r, h => ⟨by rw [exS_nil]; exact h.1, leFx_nil h.2⟩
theorem okF_nil : ∀ (L : List (Nat × SV)), okF [] L = true
  | [] => rfl
  | (s, v) :: r => by simp only [okF, okS_nil, okF_nil r, Bool.and_self]
theorem AFit.nil {k0 : Nat} {fr : List SV} {M : Mem} {H : List (Nat × SV)} {G : Mem} (f : leF fr H) (m : ∀ n g, G.get n = some g → leB (M.get n) g) (len : k0 ≤ G.length) (bl : bL G.length H = true) (bm : bM G.length G) : AFit [] k0 fr M H G :=
  ⟨leFx_nil f, fun n g h => by show leB (M.get n) (exB [] g); rw [exB_nil]; exact m n g h, len, bl, bm, okF_nil H, fun n g _ => by
    cases hg : g.k with
    | box l => exact okL_nil l
    | ints k xs => exact trivial
    | bools xs => exact trivial
    | map s es => exact trivial
    | rows sz n row => exact fun i _ => okL_nil _, fun _ _ => rfl, fun n n' g g' a hne _ _ _ h h' => by
      simp only [rnG, Rn.to.injEq] at h h'
      omega⟩

/-! checks -/
def leW : Mem → Mem → Prop
  | _, [] => True
  | [], none :: G => leW [] G
  | [], some _ :: _ => False
  | _ :: M, none :: G => leW M G
  | m :: M, some g :: G => leB m g ∧ leW M G
theorem leW_get : ∀ {M G : Mem} {n : Nat} {k : Blk}, leW M G → G.get n = some k → leB (M.get n) k
  | _, [], _, _, _, h => by cases h
  | [], none :: G, 0, _, _, h => by cases h
  | [], none :: G, n + 1, k, hl, h => by
    have := leW_get (M := []) (G := G) (n := n) hl h
    exact this
  | [], some _ :: _, _, _, hl, _ => hl.elim
  | _ :: M, none :: G, 0, _, _, h => by cases h
  | _ :: M, none :: G, n + 1, k, hl, h => leW_get (M := M) (G := G) hl h
  | m :: M, some g :: G, 0, k, hl, h => by simp only [Mem.get, Option.some.injEq] at h; subst h; exact hl.1
  | m :: M, some g :: G, n + 1, k, hl, h => leW_get (M := M) (G := G) hl.2 h
def fitM (rn : Rns) (M : Mem) : Nat → Mem → Prop
  | _, [] => True
  | i, none :: G => fitM rn M (i + 1) G
  | i, some g :: G => fitB rn M i g ∧ fitM rn M (i + 1) G
theorem fitM_get {rn : Rns} {M : Mem} : ∀ {G : Mem} {i n : Nat} {g : Blk}, fitM rn M i G → G.get n = some g → fitB rn M (i + n) g
  | [], _, _, _, _, h => by cases h
  | none :: G, i, 0, _, _, h => by cases h
  | none :: G, i, n + 1, g, hf, h => by have := fitM_get (G := G) (i := i + 1) (n := n) hf h; rwa [show i + 1 + n = i + (n + 1) by omega] at this
  | some g' :: G, i, 0, g, hf, h => by simp only [Mem.get, Option.some.injEq] at h; subst h; exact hf.1
  | some g' :: G, i, n + 1, g, hf, h => by have := fitM_get (G := G) (i := i + 1) (n := n) hf.2 h; rwa [show i + 1 + n = i + (n + 1) by omega] at this
def okMm (rn : Rns) : Mem → Prop
  | [] => True
  | none :: G => okMm rn G
  | some g :: G => okBk rn g.k ∧ okMm rn G
theorem okMm_get {rn : Rns} : ∀ {G : Mem} {n : Nat} {g : Blk}, okMm rn G → G.get n = some g → okBk rn g.k
  | [], _, _, _, h => by cases h
  | none :: G, 0, _, _, h => by cases h
  | none :: G, n + 1, g, hf, h => okMm_get (G := G) hf h
  | some g' :: G, 0, g, hf, h => by simp only [Mem.get, Option.some.injEq] at h; subst h; exact hf.1
  | some g' :: G, n + 1, g, hf, h => okMm_get (G := G) hf.2 h
def differ (a b : Rn) : Bool := match a, b with | .to a, .to b => !Nat.beq a b | _, _ => true
def injOne (rn : Rns) (n : Nat) (wr : Bool) : Nat → Mem → Bool
  | _, [] => true
  | i, none :: G => injOne rn n wr (i + 1) G
  | i, some g :: G => (differ (rnG rn n) (rnG rn i) || !(wr || g.wr)) && injOne rn n wr (i + 1) G
def okInj (rn : Rns) : Nat → Mem → Bool
  | _, [] => true
  | i, none :: G => okInj rn (i + 1) G
  | i, some g :: G => injOne rn i g.wr (i + 1) G && okInj rn (i + 1) G
theorem injOne_get {rn : Rns} {n : Nat} {wr : Bool} : ∀ {G : Mem} {i j : Nat} {g : Blk} {a : Nat}, injOne rn n wr i G = true → G.get j = some g → (wr = true ∨ g.wr = true) → rnG rn n = .to a → rnG rn (i + j) ≠ .to a
  | [], _, _, _, _, _, h, _, _ => by cases h
  | none :: G, i, 0, _, _, _, h, _, _ => by cases h
  | none :: G, i, j + 1, g, a, hi, h, hw, hn => by have := injOne_get (G := G) (i := i + 1) (j := j) hi h hw hn; rwa [show i + 1 + j = i + (j + 1) by omega] at this
  | some g' :: G, i, 0, g, a, hi, h, hw, hn => by
    simp only [Mem.get, Option.some.injEq] at h
    subst h
    simp only [injOne, Bool.and_eq_true, Bool.or_eq_true] at hi
    have hd : differ (rnG rn n) (rnG rn i) = true := by
      rcases hi.1 with h | h
      · exact h
      · rcases hw with h' | h' <;> simp [h'] at h
    intro e
    rw [Nat.add_zero] at e
    rw [hn, e] at hd
    simp [differ] at hd
  | some g' :: G, i, j + 1, g, a, hi, h, hw, hn => by
    simp only [injOne, Bool.and_eq_true] at hi
    have := injOne_get (G := G) (i := i + 1) (j := j) hi.2 h hw hn
    rwa [show i + 1 + j = i + (j + 1) by omega] at this
theorem okInj_lt {rn : Rns} : ∀ {G : Mem} {i n n' : Nat} {g g' : Blk} {a : Nat}, okInj rn i G = true → n < n' → G.get n = some g → G.get n' = some g' → (g.wr = true ∨ g'.wr = true) → rnG rn (i + n) = .to a → rnG rn (i + n') ≠ .to a
  | [], _, _, _, _, _, _, _, _, h, _, _, _ => by cases h
  | none :: G, i, 0, _, _, _, _, _, _, h, _, _, _ => by cases h
  | none :: G, i, n + 1, 0, _, _, _, _, hlt, _, _, _, _ => by omega
  | none :: G, i, n + 1, n' + 1, g, g', a, hi, hlt, h, h', hw, hn => by
    have := okInj_lt (G := G) (i := i + 1) (n := n) (n' := n') hi (by omega) h h' hw (by rwa [show i + 1 + n = i + (n + 1) by omega])
    rwa [show i + 1 + n' = i + (n' + 1) by omega] at this
  | some g0 :: G, i, 0, 0, _, _, _, _, hlt, _, _, _, _ => by omega
  | some g0 :: G, i, 0, n' + 1, g, g', a, hi, hlt, h, h', hw, hn => by
    simp only [Mem.get, Option.some.injEq] at h
    subst h
    simp only [okInj, Bool.and_eq_true] at hi
    have := injOne_get (G := G) (i := i + 1) (j := n') (g := g') (a := a) hi.1 h' hw (by simpa using hn)
    rwa [show i + 1 + n' = i + (n' + 1) by omega] at this
  | some g0 :: G, i, n + 1, 0, _, _, _, _, hlt, _, _, _, _ => by omega
  | some g0 :: G, i, n + 1, n' + 1, g, g', a, hi, hlt, h, h', hw, hn => by
    simp only [okInj, Bool.and_eq_true] at hi
    have := okInj_lt (G := G) (i := i + 1) (n := n) (n' := n') hi.2 (by omega) h h' hw (by rwa [show i + 1 + n = i + (n + 1) by omega])
    rwa [show i + 1 + n' = i + (n' + 1) by omega] at this
theorem okInj_inj {rn : Rns} {G : Mem} (hi : okInj rn 0 G = true) : ∀ n n' g g' a, n ≠ n' → G.get n = some g → G.get n' = some g' → g.wr = true → rnG rn n = .to a → rnG rn n' ≠ .to a := by
  intro n n' g g' a hne h h' hw hn
  rcases Nat.lt_or_ge n n' with hlt | hge
  · have := okInj_lt (i := 0) (a := a) hi hlt h h' (.inl hw) (by simpa using hn)
    simpa using this
  · intro e
    have := okInj_lt (i := 0) (a := a) hi (show n' < n by omega) h' h (.inr hw) (by simpa using e)
    exact this (by simpa using hn)
theorem idle_of {rn : Rns} {k0 : Nat} (h : rn.all (fun p => Nat.ble k0 p.1) = true) : ∀ n, n < k0 → rnG rn n = .to n := by
  intro n hn
  induction rn with
  | nil => rfl
  | cons p r ih =>
    obtain ⟨k, v⟩ := p
    simp only [List.all_cons, Bool.and_eq_true] at h
    have hk : k0 ≤ k := Nat.le_of_ble_eq_true h.1
    unfold rnG
    rw [if_neg (by omega)]
    exact ih h.2

/-- A CONTRACT from a run -/
theorem FC.of_run {P : Program} (hm : P.follows .mixedOrders = true) {g : FuncId} {fn : Func} (hf : P.funcs[g]? = some fn) (hc : callable P g = true) {c : Code} (hb : fn.body = some c) {T : Nat} (hT : fn.ntmps = T)
    {args0 : List SV} {m0 : Mem} {v1 : SV} {m1 : Mem} {rn : Rns} (hv : bS m1.length v1 = true) {e : AX} {fr' : List SV} {M' : Mem} (hM : AFit rn m0.length fr' M' [] m1) (hvo : okS rn v1 = true)
    (h : ARun P m0.length c (args0 ++ undefs (T - args0.length)) m0 e fr' M') (he : e = .normal ∨ e = .ret) {l : List V1} (hr : resA P fn.results.toList fr' M' fun l' => l' = l) (hl : tupA l = exS rn v1) :
    FC P g args0 m0 v1 m1 := by
  refine ⟨hc, hM.len, hv, hM.bm, fun β w vals hT0 hdef hSt hd => ?_⟩
  refine calls_of_wp hf hb ?_
  have hvl := hd.length
  refine ARun_sound (T := (args0 ++ undefs (T - args0.length)).length) (β0 := β) (ds := []) hm hdef c _ m0 e fr' M' β _ w _ h ⟨rfl, fun n _ => rfl, hSt, ⟨?_, fun t => ?_⟩, hT0, Nat.le_refl _, rfl⟩ fun β' a' w' ab => ?_
  · simp [undefs_length, hT, hvl]
  · rw [frGet_append]
    split
    · rename_i ht
      have hlt : t < vals.length := by omega
      have := denLS.get t hd ht
      have e : (vals.toArray ++ Array.replicate (fn.ntmps - vals.toArray.size) undef).getD t undef = vals.getD t undef := by
        simp [List.getD, Array.getElem?_append, hlt]
      rw [e]; exact this
    · rename_i ht
      rw [frGet_undefs]
      split
      · rename_i ht2
        refine ⟨[], ?_, trivial⟩
        have hnl : ¬ t < vals.length := by omega
        have hr : t - vals.length < fn.ntmps - vals.length := by rw [hT]; omega
        simp [Array.getElem?_append, hnl, hr, undef]
      · exact trivial
  · have hpost : a'.defers = [] ∧ ∃ v, (results fn a'.tmps).run P w' = .ok v w' ∧ ∃ v' β', Ending.returned v = .returned v' ∧ Keep m0.length β β' ∧ Top β' m1.length ∧ St w (wrA β m0) β' m1 w' ∧ denS β' v' v1 := by
      obtain ⟨l', v, hl', hdv, hr2⟩ := results_sound ab.st ab.fr hr
      subst hl'
      rw [hl] at hdv
      exact ⟨ab.ds, v, hr2, v, betR β' rn m1.length, rfl, fun n hn => by rw [betR_to (Nat.lt_of_lt_of_le hn hM.len) (hM.idle n hn)]; exact ab.keep n hn, betR_top, hM.st ab.st, denS_ex hvo hv hdv⟩
    rcases he with rfl | rfl
    · exact hpost
    · exact hpost

theorem FC.of_body {P : Program} {J : Bool} (hm : P.follows .mixedOrders = true) {g : FuncId} {fn : Func} (hf : P.funcs[g]? = some fn) (hc : callable P g = true) {c : Code} (hb : fn.body = some c) {T : Nat} (hT : fn.ntmps = T)
    {args0 : List SV} {m0 : Mem} {v1 : SV} {m1 : Mem} (hlen : m0.length ≤ m1.length) (hv : bS m1.length v1 = true) (hm1 : bM m1.length m1)
    (h : acode P J m0.length c (args0 ++ undefs (T - args0.length)) m0 (postK P fn.results.toList v1 m1)) : FC P g args0 m0 v1 m1 := by
  obtain ⟨e, fr', M', h, hk⟩ := acode_rel _ _ _ _ h
  have key : ∀ e', (e' = .normal ∨ e' = .ret) → e = e' → resA P fn.results.toList fr' M' (fun l => tupA l = v1 ∧ leM M' m1) → FC P g args0 m0 v1 m1 := fun e' he hee hk => by
    obtain ⟨l, h1, h2, h3⟩ := resA_det _ _ _ _ hk
    exact FC.of_run (rn := []) hm hf hc hb hT hv (AFit.nil trivial (fun n g hg => .inl (leM_get h3 hg)) hlen rfl hm1) (okS_nil _) h (hee ▸ he) h1 (by rw [exS_nil]; exact h2)
  cases e with
  | normal => exact key _ (.inl rfl) rfl hk
  | ret => exact key _ (.inr rfl) rfl hk
  | exit n => exact hk.elim
  | pan v => exact hk.elim

/-- what is said of the end: as it is, or with names taken anew -/
inductive isEnd (k0 : Nat) (M : Mem) (l v : SV) (m : Mem) : Prop where
  | id (h : l = v) (hm : leW M m) : isEnd k0 M l v m
  | rn (rn : Rns) (h : l = exS rn v) (hm : fitM rn M 0 m) (ho : okS rn v = true) (hom : okMm rn m) (hi : rn.all (fun p => Nat.ble k0 p.1) = true) (hj : okInj rn 0 m = true) : isEnd k0 M l v m
def postR {α : Type} (P : Program) (k0 : Nat) (rs : List ResultVar) (v : α → SV) (m : α → Mem) (Q : α → Prop) : Kx := fun e fr M => match e with
  | .exit _ => False
  | .pan _ => False
  | _ => resA P rs fr M fun l => ∃ a, Q a ∧ isEnd k0 M (tupA l) (v a) (m a)
theorem FC.of_bodyR {P : Program} {J : Bool} (hm : P.follows .mixedOrders = true) {g : FuncId} {fn : Func} (hf : P.funcs[g]? = some fn) (hc : callable P g = true) {c : Code} (hb : fn.body = some c) {T : Nat} (hT : fn.ntmps = T)
    {args0 : List SV} {m0 : Mem} {α : Type} {v : α → SV} {m : α → Mem} {Q : α → Prop} (hs : ∀ a, Q a → m0.length ≤ (m a).length ∧ bS (m a).length (v a) = true ∧ bM (m a).length (m a))
    (h : acode P J m0.length c (args0 ++ undefs (T - args0.length)) m0 (postR P m0.length fn.results.toList v m Q)) : ∃ a, FC P g args0 m0 (v a) (m a) ∧ Q a := by
  obtain ⟨e, fr', M', h, hk⟩ := acode_rel _ _ _ _ h
  have key : ∀ e', (e' = .normal ∨ e' = .ret) → e = e' → resA P fn.results.toList fr' M' (fun l => ∃ a, Q a ∧ isEnd m0.length M' (tupA l) (v a) (m a)) → ∃ a, FC P g args0 m0 (v a) (m a) ∧ Q a := fun e' he hee hk => by
    obtain ⟨l, h1, a, hQ, h2⟩ := resA_det _ _ _ _ hk
    obtain ⟨s1, s2, s3⟩ := hs a hQ
    refine ⟨a, ?_, hQ⟩
    cases h2 with
    | id h2 h3 => exact FC.of_run (rn := []) hm hf hc hb hT s2 (AFit.nil trivial (fun n g hg => leW_get h3 hg) s1 rfl s3) (okS_nil _) h (hee ▸ he) h1 (by rw [exS_nil]; exact h2)
    | rn rn h2 h3 h4 h5 h6 h7 => exact FC.of_run (rn := rn) hm hf hc hb hT s2 ⟨trivial, fun n g hg => by have := fitM_get (i := 0) h3 hg; rwa [Nat.zero_add] at this, s1, rfl, s3, rfl, fun n g hg => okMm_get h5 hg, idle_of h6, okInj_inj h7⟩ h4 h (hee ▸ he) h1 h2
  cases e with
  | normal => exact key _ (.inl rfl) rfl hk
  | ret => exact key _ (.inr rfl) rfl hk
  | exit n => exact hk.elim
  | pan v => exact hk.elim
end Go.Sx
namespace Go.Sx

def renCp (σ : Nat → Nat) : Cp → Cp
  | .v x => .v x
  | .p n i j => .p (σ n) i j
def renC (σ : Nat → Nat) : C → C
  | .v x => .v x
  | .p n i j => .p (σ n) i j
  | .s n off len sz => .s (σ n) off len sz
  | .z => .z
  | .u => .u
  | .f g fi ca => .f g (fi.map (renCp σ)) (ca.map (renCp σ))
  | .m n => .m (σ n)
def ren1 (σ : Nat → Nat) : V1 → V1
  | .c c => .c (renC σ c)
  | .a l => .a (l.map (renC σ))
def renS (σ : Nat → Nat) : SV → SV
  | .o y => .o (ren1 σ y)
  | .t l => .t (l.map (ren1 σ))
def renBk (σ : Nat → Nat) : Bk → Bk
  | .box l => .box (l.map (renC σ))
  | .ints k xs => .ints k xs
  | .bools xs => .bools xs
  | .rows sz n row => .rows sz n fun i => (row i).map (renC σ)
  | .map s es => .map s es
def renB (σ : Nat → Nat) (k : Blk) : Blk := ⟨renBk σ k.k, k.wr⟩

section
variable {σ : Nat → Nat} {β β' : Bet} {g : Nat}
theorem denCp_ren (h : ∀ n, n < g → ∀ m, β' n = some m → β (σ n) = some m) {x : Value} : ∀ {c : Cp}, bCp g c = true → denCp β' x c → denCp β x (renCp σ c)
  | .v _, _, hd => hd
  | .p n _ _, hb, ⟨m, hm, e⟩ => ⟨m, h n (by simpa [bCp, Nat.blt_eq] using hb) m hm, e⟩
theorem denCps_ren (h : ∀ n, n < g → ∀ m, β' n = some m → β (σ n) = some m) : ∀ {xs : List Value} {l : List Cp}, l.all (bCp g) = true → denCps β' xs l → denCps β xs (l.map (renCp σ))
  | [], [], _, _ => trivial
  | _ :: _, _ :: _, hb, ⟨h1, r⟩ => by
    simp only [List.all_cons, Bool.and_eq_true] at hb
    exact ⟨denCp_ren h hb.1 h1, denCps_ren h hb.2 r⟩
theorem denCp_unren (h : ∀ n, n < g → ∀ m, β (σ n) = some m → β' n = some m) {x : Value} : ∀ {c : Cp}, bCp g c = true → denCp β x (renCp σ c) → denCp β' x c
  | .v _, _, hd => hd
  | .p n _ _, hb, ⟨m, hm, e⟩ => ⟨m, h n (by simpa [bCp, Nat.blt_eq] using hb) m hm, e⟩
theorem denCps_unren (h : ∀ n, n < g → ∀ m, β (σ n) = some m → β' n = some m) : ∀ {xs : List Value} {l : List Cp}, l.all (bCp g) = true → denCps β xs (l.map (renCp σ)) → denCps β' xs l
  | [], [], _, _ => trivial
  | _ :: _, _ :: _, hb, ⟨h1, r⟩ => by
    simp only [List.all_cons, Bool.and_eq_true] at hb
    exact ⟨denCp_unren h hb.1 h1, denCps_unren h hb.2 r⟩
theorem denC_ren (h : ∀ n, n < g → ∀ m, β' n = some m → β (σ n) = some m) {x : Value} : ∀ {c : C}, bC g c = true → denC β' x c → denC β x (renC σ c)
  | .v _, _, hd => hd
  | .p n _ _, hb, ⟨m, hm, e⟩ => ⟨m, h n (by simpa [bC, Nat.blt_eq] using hb) m hm, e⟩
  | .s n _ _ _, hb, ⟨A, cap, m, hm, r⟩ => ⟨A, cap, m, h n (by simpa [bC, Nat.blt_eq] using hb) m hm, r⟩
  | .z, _, hd => hd
  | .u, _, _ => trivial
  | .f _ _ _, hb, ⟨fs, cs, e, h1, h2⟩ => by
    simp only [bC, Bool.and_eq_true] at hb
    exact ⟨fs, cs, e, denCps_ren h hb.1 h1, denCps_ren h hb.2 h2⟩
  | .m n, hb, ⟨m, hm, e⟩ => ⟨m, h n (by simpa [bC, Nat.blt_eq] using hb) m hm, e⟩
theorem denC_unren (h : ∀ n, n < g → ∀ m, β (σ n) = some m → β' n = some m) {x : Value} : ∀ {c : C}, bC g c = true → denC β x (renC σ c) → denC β' x c
  | .v _, _, hd => hd
  | .p n _ _, hb, ⟨m, hm, e⟩ => ⟨m, h n (by simpa [bC, Nat.blt_eq] using hb) m hm, e⟩
  | .s n _ _ _, hb, ⟨A, cap, m, hm, r⟩ => ⟨A, cap, m, h n (by simpa [bC, Nat.blt_eq] using hb) m hm, r⟩
  | .z, _, hd => hd
  | .u, _, _ => trivial
  | .f _ _ _, hb, ⟨fs, cs, e, h1, h2⟩ => by
    simp only [bC, Bool.and_eq_true] at hb
    exact ⟨fs, cs, e, denCps_unren h hb.1 h1, denCps_unren h hb.2 h2⟩
  | .m n, hb, ⟨m, hm, e⟩ => ⟨m, h n (by simpa [bC, Nat.blt_eq] using hb) m hm, e⟩
theorem denL_ren (h : ∀ n, n < g → ∀ m, β' n = some m → β (σ n) = some m) : ∀ {xs : List Value} {l : List C}, l.all (bC g) = true → denL β' xs l → denL β xs (l.map (renC σ))
  | [], [], _, _ => trivial
  | _ :: _, _ :: _, hb, ⟨h1, r⟩ => by
    simp only [List.all_cons, Bool.and_eq_true] at hb
    exact ⟨denC_ren h hb.1 h1, denL_ren h hb.2 r⟩
theorem denL_unren (h : ∀ n, n < g → ∀ m, β (σ n) = some m → β' n = some m) : ∀ {xs : List Value} {l : List C}, l.all (bC g) = true → denL β xs (l.map (renC σ)) → denL β' xs l
  | [], [], _, _ => trivial
  | _ :: _, _ :: _, hb, ⟨h1, r⟩ => by
    simp only [List.all_cons, Bool.and_eq_true] at hb
    exact ⟨denC_unren h hb.1 h1, denL_unren h hb.2 r⟩
theorem den1_ren (h : ∀ n, n < g → ∀ m, β' n = some m → β (σ n) = some m) {x : Value} : ∀ {y : V1}, b1 g y = true → den1 β' x y → den1 β x (ren1 σ y)
  | .c _, hb, hd => denC_ren h hb hd
  | .a _, hb, ⟨vs, e, hd⟩ => ⟨vs, e, denL_ren h hb hd⟩
theorem den1_unren (h : ∀ n, n < g → ∀ m, β (σ n) = some m → β' n = some m) {x : Value} : ∀ {y : V1}, b1 g y = true → den1 β x (ren1 σ y) → den1 β' x y
  | .c _, hb, hd => denC_unren h hb hd
  | .a _, hb, ⟨vs, e, hd⟩ => ⟨vs, e, denL_unren h hb hd⟩
theorem denL1_ren (h : ∀ n, n < g → ∀ m, β' n = some m → β (σ n) = some m) : ∀ {xs : List Value} {l : List V1}, l.all (b1 g) = true → denL1 β' xs l → denL1 β xs (l.map (ren1 σ))
  | [], [], _, _ => trivial
  | _ :: _, _ :: _, hb, ⟨h1, r⟩ => by
    simp only [List.all_cons, Bool.and_eq_true] at hb
    exact ⟨den1_ren h hb.1 h1, denL1_ren h hb.2 r⟩
theorem denL1_unren (h : ∀ n, n < g → ∀ m, β (σ n) = some m → β' n = some m) : ∀ {xs : List Value} {l : List V1}, l.all (b1 g) = true → denL1 β xs (l.map (ren1 σ)) → denL1 β' xs l
  | [], [], _, _ => trivial
  | _ :: _, _ :: _, hb, ⟨h1, r⟩ => by
    simp only [List.all_cons, Bool.and_eq_true] at hb
    exact ⟨den1_unren h hb.1 h1, denL1_unren h hb.2 r⟩
theorem denS_ren (h : ∀ n, n < g → ∀ m, β' n = some m → β (σ n) = some m) {x : Value} : ∀ {y : SV}, bS g y = true → denS β' x y → denS β x (renS σ y)
  | .o _, hb, hd => den1_ren h hb hd
  | .t _, hb, ⟨vs, e, hd⟩ => ⟨vs, e, denL1_ren h hb hd⟩
theorem denS_unren (h : ∀ n, n < g → ∀ m, β (σ n) = some m → β' n = some m) {x : Value} : ∀ {y : SV}, bS g y = true → denS β x (renS σ y) → denS β' x y
  | .o _, hb, hd => den1_unren h hb hd
  | .t _, hb, ⟨vs, e, hd⟩ => ⟨vs, e, denL1_unren h hb hd⟩
theorem denLS_unren (h : ∀ n, n < g → ∀ m, β (σ n) = some m → β' n = some m) : ∀ {xs : List Value} {l : List SV}, l.all (bS g) = true → denLS β xs (l.map (renS σ)) → denLS β' xs l
  | [], [], _, _ => trivial
  | _ :: _, _ :: _, hb, ⟨h1, r⟩ => by
    simp only [List.all_cons, Bool.and_eq_true] at hb
    exact ⟨denS_unren h hb.1 h1, denLS_unren h hb.2 r⟩
theorem renBk_at (σ : Nat → Nat) (k : Bk) (i j : Nat) : (renBk σ k).at i j = (k.at i j).map (renC σ) := by
  unfold Bk.at
  cases k with
  | box l => by_cases h : i < 1 <;> simp [renBk, Bk.n, Bk.row, h]
  | ints ki xs =>
    by_cases h : i < xs.length
    · simp only [renBk, Bk.n, Bk.row, h, if_true]
      cases j <;> simp [renC]
    · simp [renBk, Bk.n, h]
  | bools xs =>
    by_cases h : i < xs.length
    · simp only [renBk, Bk.n, Bk.row, h, if_true]
      cases j <;> simp [renC]
    · simp [renBk, Bk.n, h]
  | rows sz n row => by_cases h : i < n <;> simp [renBk, Bk.n, Bk.row, h]
  | map s es => simp [renBk, Bk.n]
theorem renBk_map {σ : Nat → Nat} {k : Bk} {s : MK} {es : List (List Int × Value)} : renBk σ k = .map s es ↔ k = .map s es := by cases k <;> simp [renBk]
theorem renBk_noMap (σ : Nat → Nat) (k : Bk) : (renBk σ k).isMap = k.isMap := by cases k <;> rfl
theorem renBk_need (σ : Nat → Nat) (k : Bk) : (renBk σ k).need = k.need := by cases k <;> simp [renBk, Bk.need, Bk.n, Bk.sz]
theorem renBk_fits (σ : Nat → Nat) (k : Bk) (s : Nat) : (renBk σ k).fits s ↔ k.fits s := by
  cases k with
  | box l => exact ⟨fun _ => .inl rfl, fun _ => .inl rfl⟩
  | map s es => exact Iff.rfl
  | ints ki xs => exact Iff.rfl
  | bools xs => exact Iff.rfl
  | rows sz n row =>
    constructor
    · rintro (h | ⟨h1, h2, h3⟩)
      · cases h
      · exact .inr ⟨h1, h2, fun i hi => by have := h3 i hi; simpa [renBk, Bk.row, Bk.sz] using this⟩
    · rintro (h | ⟨h1, h2, h3⟩)
      · cases h
      · exact .inr ⟨h1, h2, fun i hi => by have := h3 i hi; simpa [renBk, Bk.row, Bk.sz] using this⟩
theorem holds_ren (h : ∀ n, n < g → ∀ m, β' n = some m → β (σ n) = some m) {w : World} {m : Nm} {k : Blk} (hb : bBk g k.k) (hh : holds w β' m k) : holds w β m (renB σ k) := by
  refine ⟨(renBk_fits _ _ _).2 hh.fits, by rw [show (renB σ k).k.need = k.k.need from renBk_need _ _]; exact hh.need, fun hk => (hh.there ((renBk_noMap σ k.k).symm.trans hk)).imp id fun ⟨c, T, fz, h1, h2, h3, h4⟩ => ⟨c, T, fz, h1, h2, h3, fun i j x hx => ?_⟩, fun s es he => hh.mth s es (renBk_map.1 he)⟩
  rw [show (renB σ k).k.at i j = (k.k.at i j).map (renC σ) from renBk_at _ _ _ _] at hx
  cases hk : k.k.at i j with
  | none => rw [hk] at hx; cases hx
  | some x' =>
    rw [hk] at hx
    simp only [Option.map_some, Option.some.injEq] at hx
    subst hx
    obtain ⟨y, hy, hd⟩ := h4 i j x' hk
    exact ⟨y, hy, denC_ren h (bBk_at hb hk) hd⟩
theorem holds_unren (h : ∀ n, n < g → ∀ m, β (σ n) = some m → β' n = some m) {w : World} {m : Nm} {k : Blk} (hb : bBk g k.k) (hh : holds w β m (renB σ k)) : holds w β' m k := by
  have hn := hh.need
  rw [show (renB σ k).k.need = k.k.need from renBk_need _ _] at hn
  refine ⟨(renBk_fits _ _ _).1 hh.fits, hn, fun hk => (hh.there ((renBk_noMap σ k.k).trans hk)).imp id fun ⟨c, T, fz, h1, h2, h3, h4⟩ => ⟨c, T, fz, h1, h2, h3, fun i j x hx => ?_⟩, fun s es he => hh.mth s es (renBk_map.2 he)⟩
  obtain ⟨y, hy, hd⟩ := h4 i j (renC σ x) (by rw [show (renB σ k).k.at i j = (k.k.at i j).map (renC σ) from renBk_at _ _ _ _, hx]; rfl)
  exact ⟨y, hy, denC_unren h (bBk_at hb hx) hd⟩
end

/-- names 0 .. k-1 of a contract are the caller's sg; the others lie from 'top' on -/
def sgF (sg : List Nat) (top : Nat) (n : Nat) : Nat := match sg, n with
  | [], n => top + n
  | x :: _, 0 => x
  | _ :: r, n + 1 => sgF r top n
theorem sgF_in : ∀ (sg : List Nat) (top n : Nat), n < sg.length → sg[n]? = some (sgF sg top n)
  | x :: r, top, 0, _ => rfl
  | x :: r, top, n + 1, h => by simpa [sgF] using sgF_in r top n (by simpa using h)
theorem sgF_out : ∀ (sg : List Nat) (top n : Nat), sg.length ≤ n → sgF sg top n = top + (n - sg.length)
  | [], top, n, _ => by simp [sgF]
  | x :: r, top, 0, h => by simp at h
  | x :: r, top, n + 1, h => by
    have := sgF_out r top n (by simpa using h)
    simp only [sgF, this, List.length_cons]
    congr 1
    omega

/-- what the caller must hold -/
def rdOne (σ : Nat → Nat) (b : Option Blk) (k : Blk) : Prop := b = some (renB σ k) ∨ (k.wr = false ∧ b = some ⟨renBk σ k.k, true⟩) ∨ leB b (renB σ k)
def okRd (σ : Nat → Nat) (rd : Mem) : Mem → Nat → Prop
  | [], _ => True
  | none :: l, i => okRd σ rd l (i + 1)
  | some k :: l, i => rdOne σ (rd.get (σ i)) k ∧ okRd σ rd l (i + 1)
theorem okRd_get {σ : Nat → Nat} {rd : Mem} : ∀ (m0 : Mem) (i n : Nat) (k : Blk), okRd σ rd m0 i → m0.get n = some k → rdOne σ (rd.get (σ (i + n))) k
  | [], _, _, _, _, h => by cases h
  | none :: l, i, 0, k, _, h => by cases h
  | some k' :: l, i, 0, k, ho, h => by simp only [Mem.get, Option.some.injEq] at h; subst h; exact ho.1
  | none :: l, i, n + 1, k, ho, h => by have := okRd_get l (i + 1) n k ho h; rwa [show i + (n + 1) = i + 1 + n by omega]
  | some k' :: l, i, n + 1, k, ho, h => by have := okRd_get l (i + 1) n k ho.2 h; rwa [show i + (n + 1) = i + 1 + n by omega]
theorem holds.wr {w : World} {β : Bet} {m : Nm} {k : Bk} {a b : Bool} (h : holds w β m ⟨k, a⟩) (hw : b = true → a = true) : holds w β m ⟨k, b⟩ :=
  ⟨h.fits, h.need, fun hk => (h.there hk).imp id fun ⟨c, T, fz, h1, h2, h3, h4⟩ => ⟨c, T, fz, h1, h2, fun hb => h3 (hw hb), h4⟩, h.mth⟩
theorem rdOne.conv {σ : Nat → Nat} {b : Option Blk} {k : Blk} (h : rdOne σ b k) : ∃ kb, b = some kb ∧ (k.wr = true → kb.wr = true) ∧ ∀ (w : World) (β : Bet) (nm : Nm), holds w β nm kb → holds w β nm (renB σ k) := by
  rcases h with h | ⟨hw, h⟩ | h
  · exact ⟨_, h, id, fun _ _ _ h => h⟩
  · exact ⟨_, h, fun _ => rfl, fun _ _ _ h => h.wr fun _ => rfl⟩
  · exact leB_conv h
theorem rdOne.ints {σ : Nat → Nat} {k : IntKind} {xs : List Int} {n : Nat} {a : Bool} : rdOne σ (some ⟨.ints k xs, a⟩) ⟨.ints k (xs.take n), false⟩ :=
  .inr (.inr (.inr ⟨_, Eq.refl _, (fun h => by cases h), Eq.refl _, Eq.refl _, Eq.refl _, List.length_take_le' n xs, fun i hi => by
    show [C.v (.int k (xs.getD i 0))] = [C.v (.int k ((xs.take n).getD i 0))]
    have hi' : i < (xs.take n).length := hi
    rw [List.length_take] at hi'
    simp [List.getD, List.getElem?_take_of_lt (show i < n by omega)]⟩))
theorem rdOne.rows {σ : Nat → Nat} {sz n n' : Nat} {r : Nat → List C} {a : Bool} (h : n' ≤ n) : (∀ i, i < n' → (r i).map (renC σ) = r i) → rdOne σ (some ⟨.rows sz n r, a⟩) ⟨.rows sz n' r, false⟩ := fun hr =>
  .inr (.inr (.inr ⟨_, Eq.refl _, (fun h => by cases h), Eq.refl _, Eq.refl _, Eq.refl _, h, fun i hi => (hr i hi).symm⟩))

/-- every name of the contract has a block; a name that may be written is the caller's only once -/
def okSg : List Nat → Mem → Bool
  | [], [] => true
  | x :: r, some k :: l => okOne x k.wr r l && okSg r l
  | _, _ => false
where
  okOne (x : Nat) (wr : Bool) : List Nat → Mem → Bool
    | y :: r, some k :: l => (!(wr || k.wr) || !(x == y)) && okOne x wr r l
    | _, _ => true
theorem okSg_len : ∀ {sg : List Nat} {m0 : Mem}, okSg sg m0 = true → sg.length = m0.length
  | [], [], _ => rfl
  | _ :: _, some _ :: _, h => by simp only [okSg, Bool.and_eq_true] at h; exact congrArg (· + 1) (okSg_len h.2)
theorem okSg_some : ∀ {sg : List Nat} {m0 : Mem}, okSg sg m0 = true → ∀ n, n < m0.length → ∃ k, m0.get n = some k
  | [], [], _, n, hn => by simp at hn
  | _ :: _, some k :: _, h, 0, _ => ⟨k, rfl⟩
  | _ :: _, some _ :: _, h, n + 1, hn => by simp only [okSg, Bool.and_eq_true] at h; exact okSg_some h.2 n (by simpa using hn)
theorem okOne_get : ∀ {sg : List Nat} {m0 : Mem} {x : Nat} {wr : Bool}, okSg.okOne x wr sg m0 = true → ∀ n y k, sg[n]? = some y → m0.get n = some k → (∀ j, j ≤ n → ∃ k', m0.get j = some k') → (wr = true ∨ k.wr = true) → x ≠ y
  | y :: r, some k :: l, x, wr, h, 0, y', k', hy, hk, _, hw => by
    simp at hy
    simp only [Mem.get, Option.some.injEq] at hk
    subst hy hk
    simp only [okSg.okOne, Bool.and_eq_true, Bool.or_eq_true, Bool.not_eq_true'] at h
    rcases h.1 with h' | h'
    · rcases hw with hw | hw <;> simp [hw] at h'
    · simpa using h'
  | y :: r, some k :: l, x, wr, h, n + 1, y', k', hy, hk, hs, hw => by
    simp only [okSg.okOne, Bool.and_eq_true] at h
    exact okOne_get h.2 n y' k' (by simpa using hy) hk (fun j hj => hs (j + 1) (by omega)) hw
  | [], _, _, _, _, n, _, _, hy, _, _, _ => by simp at hy
  | _ :: _, [], _, _, _, n, _, _, _, hk, _, _ => by cases hk
  | _ :: _, none :: _, _, _, _, _, _, _, _, _, hs, _ => by obtain ⟨k', h⟩ := hs 0 (Nat.zero_le _); cases h
set_option maxHeartbeats 1600000 in
theorem okSg_inj : ∀ {sg : List Nat} {m0 : Mem}, okSg sg m0 = true → ∀ (i j x y : Nat) (k k' : Blk), i < j → sg[i]? = some x → sg[j]? = some y → m0.get i = some k → m0.get j = some k' → (k.wr = true ∨ k'.wr = true) → x ≠ y
  | a :: r, some k0 :: l, h, 0, j + 1, x, y, k, k', _, hx, hy, hk, hk', hw => by
    simp at hx
    simp only [Mem.get, Option.some.injEq] at hk
    subst hx hk
    have h' := h
    simp only [okSg, Bool.and_eq_true] at h
    have hlen : j < l.length := by
      rcases Nat.lt_or_ge j l.length with h1 | h1
      · exact h1
      · simp only [Mem.get] at hk'; rw [Mem.get_ge l j h1] at hk'; cases hk'
    exact okOne_get h.1 j y k' (by simpa using hy) hk' (fun q hq => okSg_some h.2 q (by omega)) hw
  | a :: r, some k0 :: l, h, i + 1, j + 1, x, y, k, k', hij, hx, hy, hk, hk', hw => by
    simp only [okSg, Bool.and_eq_true] at h
    exact okSg_inj h.2 i j x y k k' (by omega) (by simpa using hx) (by simpa using hy) hk hk' hw
  | [], [], _, i, j, x, y, _, _, _, hx, _, _, _, _ => by simp at hx

/-- what the call leaves, in the caller's names -/
def upsOf (σ : Nat → Nat) : Mem → Mem → Nat → Ups
  | some k :: m0, b :: m1, i => if k.wr then (σ i, b.map (renB σ)) :: upsOf σ m0 m1 (i + 1) else upsOf σ m0 m1 (i + 1)
  | none :: m0, _ :: m1, i => upsOf σ m0 m1 (i + 1)
  | [], b :: m1, i => (σ i, b.map (renB σ)) :: upsOf σ [] m1 (i + 1)
  | _, [], _ => []

theorem upsOf_has {σ : Nat → Nat} : ∀ (m0 m1 : Mem) (i n : Nat), (upsOf σ m0 m1 i).has n = true → ∃ q, q < m1.length ∧ n = σ (i + q) ∧ (m0.length ≤ q ∨ ∃ k, m0.get q = some k ∧ k.wr = true)
  | some k :: m0, b :: m1, i, n, h => by
    have rest : (upsOf σ m0 m1 (i + 1)).has n = true → ∃ q, q < (b :: m1).length ∧ n = σ (i + q) ∧ ((some k :: m0).length ≤ q ∨ ∃ k', Mem.get (some k :: m0) q = some k' ∧ k'.wr = true) := fun h => by
      obtain ⟨q, h1, h2, h3⟩ := upsOf_has m0 m1 (i + 1) n h
      exact ⟨q + 1, by simpa using h1, by rw [h2]; congr 1; omega, h3.imp (fun h => by simpa using h) fun h => h⟩
    simp only [upsOf] at h
    split at h
    · rename_i hw
      simp only [Ups.has, Bool.or_eq_true, beq_iff_eq] at h
      rcases h with rfl | h
      · exact ⟨0, by simp, rfl, .inr ⟨k, rfl, hw⟩⟩
      · exact rest h
    · exact rest h
  | none :: m0, b :: m1, i, n, h => by
    simp only [upsOf] at h
    obtain ⟨q, h1, h2, h3⟩ := upsOf_has m0 m1 (i + 1) n h
    exact ⟨q + 1, by simpa using h1, by rw [h2]; congr 1; omega, h3.imp (fun h => by simpa using h) fun h => h⟩
  | [], b :: m1, i, n, h => by
    simp only [upsOf, Ups.has, Bool.or_eq_true, beq_iff_eq] at h
    rcases h with rfl | h
    · exact ⟨0, by simp, rfl, .inl (Nat.le_refl _)⟩
    · obtain ⟨q, h1, h2, h3⟩ := upsOf_has [] m1 (i + 1) n h
      exact ⟨q + 1, by simpa using h1, by rw [h2]; congr 1; omega, .inl (Nat.zero_le _)⟩
  | some _ :: _, [], _, _, h => by simp [upsOf, Ups.has] at h
  | none :: _, [], _, _, h => by simp [upsOf, Ups.has] at h
  | [], [], _, _, h => by simp [upsOf, Ups.has] at h

theorem upsOf_look {σ : Nat → Nat} : ∀ (m0 m1 : Mem) (i q : Nat), q < m1.length → (m0.length ≤ q ∨ ∃ k, m0.get q = some k ∧ k.wr = true) →
    (∀ q', q' < m1.length → (m0.length ≤ q' ∨ ∃ k, m0.get q' = some k ∧ k.wr = true) → σ (i + q') = σ (i + q) → q' = q) →
    (upsOf σ m0 m1 i).has (σ (i + q)) = true ∧ (upsOf σ m0 m1 i).look (σ (i + q)) = (m1.get q).map (renB σ)
  | some k :: m0, b :: m1, i, 0, _, hw, hinj => by
    have hw' : k.wr = true := by
      rcases hw with hw | ⟨k', hk, hw⟩
      · simp at hw
      · simp only [Mem.get, Option.some.injEq] at hk; subst hk; exact hw
    simp only [upsOf, hw', if_true, Ups.has, Ups.look, Nat.add_zero, beq_self_eq_true, Bool.true_or, true_and]
    have hno : (upsOf σ m0 m1 (i + 1)).has (σ i) = false := by
      cases hh : (upsOf σ m0 m1 (i + 1)).has (σ i) with
      | false => rfl
      | true =>
        obtain ⟨q, h1, h2, h3⟩ := upsOf_has m0 m1 (i + 1) _ hh
        have := hinj (q + 1) (by simpa using h1) (h3.imp (fun h => by simpa using h) fun h => h) (by rw [show i + (q + 1) = i + 1 + q by omega, ← h2]; rfl)
        omega
    rw [hno]
    simp [Mem.get]
  | some k :: m0, b :: m1, i, q + 1, hq, hw, hinj => by
    have ih := upsOf_look (σ := σ) m0 m1 (i + 1) q (by simpa using hq) (hw.imp (fun h => by simpa using h) fun h => h) (fun q' h1 h2 h3 => by
      have := hinj (q' + 1) (by simpa using h1) (h2.imp (fun h => by simpa using h) fun h => h) (by rw [show i + (q' + 1) = i + 1 + q' by omega, h3]; congr 1; omega)
      omega)
    rw [show i + 1 + q = i + (q + 1) by omega] at ih
    simp only [upsOf]
    split
    · simp only [Ups.has, Ups.look, ih.1, Bool.or_true, if_true, true_and]; exact ih.2
    · exact ih
  | none :: m0, b :: m1, i, 0, _, hw, _ => by
    rcases hw with hw | ⟨k', hk, hw⟩
    · simp at hw
    · cases hk
  | none :: m0, b :: m1, i, q + 1, hq, hw, hinj => by
    have ih := upsOf_look (σ := σ) m0 m1 (i + 1) q (by simpa using hq) (hw.imp (fun h => by simpa using h) fun h => h) (fun q' h1 h2 h3 => by
      have := hinj (q' + 1) (by simpa using h1) (h2.imp (fun h => by simpa using h) fun h => h) (by rw [show i + (q' + 1) = i + 1 + q' by omega, h3]; congr 1; omega)
      omega)
    rw [show i + 1 + q = i + (q + 1) by omega] at ih
    simp only [upsOf]
    exact ih
  | [], b :: m1, i, 0, _, _, hinj => by
    simp only [upsOf, Ups.has, Ups.look, Nat.add_zero, beq_self_eq_true, Bool.true_or, true_and]
    have hno : (upsOf σ [] m1 (i + 1)).has (σ i) = false := by
      cases hh : (upsOf σ [] m1 (i + 1)).has (σ i) with
      | false => rfl
      | true =>
        obtain ⟨q, h1, h2, h3⟩ := upsOf_has [] m1 (i + 1) _ hh
        have := hinj (q + 1) (by simpa using h1) (.inl (Nat.zero_le _)) (by rw [show i + (q + 1) = i + 1 + q by omega, ← h2]; rfl)
        omega
    rw [hno]
    simp [Mem.get]
  | [], b :: m1, i, q + 1, hq, _, hinj => by
    have ih := upsOf_look (σ := σ) [] m1 (i + 1) q (by simpa using hq) (.inl (Nat.zero_le _)) (fun q' h1 h2 h3 => by
      have := hinj (q' + 1) (by simpa using h1) (.inl (Nat.zero_le _)) (by rw [show i + (q' + 1) = i + 1 + q' by omega, h3]; congr 1; omega)
      omega)
    rw [show i + 1 + q = i + (q + 1) by omega] at ih
    simp only [upsOf, Ups.has, Ups.look, ih.1, Bool.or_true, if_true, true_and]
    exact ih.2
  | _, [], _, _, hq, _, _ => by simp at hq

def okNew : Mem → Mem → Bool
  | _, [] => true
  | [], some k :: l => k.wr && okNew [] l
  | [], none :: l => okNew [] l
  | some k0 :: m0, some k :: l => (!k0.wr || k.wr) && okNew m0 l
  | _ :: m0, _ :: l => okNew m0 l
theorem okNew_get : ∀ {m0 m1 : Mem} {n : Nat} {k : Blk}, okNew m0 m1 = true → m1.get n = some k → (m0.length ≤ n ∨ ∃ k0, m0.get n = some k0 ∧ k0.wr = true) → k.wr = true
  | _, [], _, _, _, h, _ => by cases h
  | [], some k' :: l, 0, k, hn, h, _ => by simp only [okNew, Bool.and_eq_true] at hn; simp only [Mem.get, Option.some.injEq] at h; subst h; exact hn.1
  | [], some k' :: l, n + 1, k, hn, h, _ => by simp only [okNew, Bool.and_eq_true] at hn; exact okNew_get (m0 := []) hn.2 h (.inl (Nat.zero_le _))
  | [], none :: l, 0, k, _, h, _ => by cases h
  | [], none :: l, n + 1, k, hn, h, _ => okNew_get (m0 := []) (m1 := l) hn h (.inl (Nat.zero_le _))
  | some k0 :: m0, some k' :: l, 0, k, hn, h, hw => by
    simp only [okNew, Bool.and_eq_true, Bool.or_eq_true, Bool.not_eq_true'] at hn
    simp only [Mem.get, Option.some.injEq] at h
    subst h
    rcases hw with hw | ⟨k1, hk, hw⟩
    · simp at hw
    · simp only [Mem.get, Option.some.injEq] at hk
      subst hk
      rcases hn.1 with h1 | h1
      · rw [hw] at h1; cases h1
      · exact h1
  | some k0 :: m0, some k' :: l, n + 1, k, hn, h, hw => by
    simp only [okNew, Bool.and_eq_true] at hn
    exact okNew_get hn.2 h (hw.imp (fun h => by simpa using h) fun h => h)
  | none :: m0, b :: l, 0, k, _, h, hw => by
    rcases hw with hw | ⟨k1, hk, _⟩
    · simp at hw
    · cases hk
  | none :: m0, b :: l, n + 1, k, hn, h, hw => by
    have hn' : okNew m0 l = true := by cases b <;> exact hn
    exact okNew_get hn' h (hw.imp (fun h => by simpa using h) fun h => h)
  | some k0 :: m0, none :: l, 0, k, _, h, _ => by cases h
  | some k0 :: m0, none :: l, n + 1, k, hn, h, hw => okNew_get (m0 := m0) (m1 := l) hn h (hw.imp (fun h => by simpa using h) fun h => h)
end Go.Sx
namespace Go.Sx

theorem FC.fact {P : Program} {g : FuncId} {args0 : List SV} {m0 : Mem} {v1 : SV} {m1 : Mem} (h : FC P g args0 m0 v1 m1) (hba : args0.all (bS m0.length) = true) (hbm : bM m0.length m0) (hnew : okNew m0 m1 = true)
    {sg : List Nat} {rd : Mem} (hsg : okSg sg m0 = true) (hrd : okRd (sgF sg rd.length) rd m0 0) :
    CallFact P g (args0.map (renS (sgF sg rd.length))) rd (renS (sgF sg rd.length) v1) (upsOf (sgF sg rd.length) m0 m1 0) := by
  refine ⟨h.can, fun W A β M w vals hSt hd hrdM hfresh => ?_⟩
  have hlen := okSg_len hsg
  generalize hσ : sgF sg rd.length = σ at *
  have hin : ∀ n, n < m0.length → sg[n]? = some (σ n) := fun n hn => by rw [← hσ]; exact sgF_in sg _ n (by omega)
  have hout : ∀ n, m0.length ≤ n → σ n = rd.length + (n - m0.length) := fun n hn => by rw [← hσ, sgF_out sg _ n (by omega), hlen]
  have hsome := okSg_some hsg
  have hrdn : ∀ n k, m0.get n = some k → ∃ kb, rd.get (σ n) = some kb ∧ (k.wr = true → kb.wr = true) ∧ ∀ (w : World) (β : Bet) (nm : Nm), holds w β nm kb → holds w β nm (renB σ k) := fun n k hk => by have := okRd_get m0 0 n k hrd hk; rw [Nat.zero_add] at this; exact this.conv
  have hlt0 : ∀ n k, m0.get n = some k → n < m0.length := fun n k hk => by
    rcases Nat.lt_or_ge n m0.length with h' | h'
    · exact h'
    · rw [Mem.get_ge m0 n h'] at hk; cases hk
  have hlt1 : ∀ n k, m1.get n = some k → n < m1.length := fun n k hk => by
    rcases Nat.lt_or_ge n m1.length with h' | h'
    · exact h'
    · rw [Mem.get_ge m1 n h'] at hk; cases hk
  have hrdlt : ∀ n, n < m0.length → σ n < rd.length := fun n hn => by
    obtain ⟨k, hk⟩ := hsome n hn
    obtain ⟨_, this, _, _⟩ := hrdn n k hk
    rcases Nat.lt_or_ge (σ n) rd.length with h' | h'
    · exact h'
    · rw [Mem.get_ge rd _ h'] at this; cases this
  -- the names that may be written are the caller's once
  have hinj0 : ∀ i j k k', i ≠ j → m0.get i = some k → m0.get j = some k' → (k.wr = true ∨ k'.wr = true) → σ i ≠ σ j := fun i j k k' hne hi hj hw => by
    rcases Nat.lt_or_gt_of_ne hne with hlt | hgt
    · exact okSg_inj hsg i j _ _ k k' hlt (hin i (hlt0 i k hi)) (hin j (hlt0 j k' hj)) hi hj hw
    · exact Ne.symm (okSg_inj hsg j i _ _ k' k hgt (hin j (hlt0 j k' hj)) (hin i (hlt0 i k hi)) hj hi hw.symm)
  have hinj : ∀ q, (m0.length ≤ q ∨ ∃ k, m0.get q = some k ∧ k.wr = true) → ∀ q', (m0.length ≤ q' ∨ ∃ k, m0.get q' = some k ∧ k.wr = true) → σ q' = σ q → q' = q := fun q hq q' hq' he => by
    rcases Nat.lt_or_ge q m0.length with h1 | h1
    · rcases Nat.lt_or_ge q' m0.length with h2 | h2
      · rcases hq with hq | ⟨k, hk, hw⟩
        · omega
        rcases hq' with hq' | ⟨k', hk', hw'⟩
        · omega
        rcases Nat.decEq q' q with hne | hne
        · exact absurd he (hinj0 q' q k' k hne hk' hk (.inl hw'))
        · exact hne
      · have := hrdlt q h1
        rw [hout q' h2] at he
        omega
    · rcases Nat.lt_or_ge q' m0.length with h2 | h2
      · have := hrdlt q' h2
        rw [hout q h1] at he
        omega
      · rw [hout q h1, hout q' h2] at he
        omega
  have hlook : ∀ q, q < m1.length → (m0.length ≤ q ∨ ∃ k, m0.get q = some k ∧ k.wr = true) → (upsOf σ m0 m1 0).has (σ q) = true ∧ (upsOf σ m0 m1 0).look (σ q) = (m1.get q).map (renB σ) := fun q hq hw => by
    have := upsOf_look (σ := σ) m0 m1 0 q hq hw (fun q' h1 h2 h3 => hinj q hw q' h2 (by simpa using h3))
    simpa using this
  have hhas : ∀ n, (upsOf σ m0 m1 0).has n = true → ∃ q, q < m1.length ∧ n = σ q ∧ (m0.length ≤ q ∨ ∃ k, m0.get q = some k ∧ k.wr = true) := fun n hn => by
    obtain ⟨q, h1, h2, h3⟩ := upsOf_has m0 m1 0 n hn
    exact ⟨q, h1, by simpa using h2, h3⟩
  let β0 : Bet := fun n => if n < m0.length then β (σ n) else none
  have hβ0 : ∀ n, n < m0.length → β0 n = β (σ n) := fun n hn => by simp [β0, hn]
  have hnames : ∀ n k, m0.get n = some k → ∃ m, β (σ n) = some m ∧ holds w β m (renB σ k) := fun n k hk => by
    obtain ⟨wr, h1, h2, h3⟩ := hrdn n k hk
    obtain ⟨m, hm, hh⟩ := hSt.names (σ n) _ (hrdM _ _ h1)
    exact ⟨m, hm, h3 _ _ _ hh⟩
  have hun : ∀ n, n < m0.length → ∀ m, β (σ n) = some m → β0 n = some m := fun n hn m hm => by rw [hβ0 n hn]; exact hm
  have hSt0 : St w (wrA β0 m0) β0 m0 w := by
    refine ⟨rfl, rfl, rfl, Nat.le_refl _, fun k hk _ => rfl, fun n k hk => ?_, fun n n' k k' m m' hne hk hk' hw hm hm' hr hr' => ?_, fun n k m hk hw hm hr => .inl ⟨n, k, m, hk, hw, hm, hr, rfl⟩⟩
    · obtain ⟨m, hm, hh⟩ := hnames n k hk
      exact ⟨m, hun n (hlt0 n k hk) m hm, holds_unren hun (bM_get hbm hk) hh⟩
    · rw [hβ0 n (hlt0 n k hk)] at hm
      rw [hβ0 n' (hlt0 n' k' hk')] at hm'
      obtain ⟨wr, h1, h2, _⟩ := hrdn n k hk
      obtain ⟨wr', h1', _, _⟩ := hrdn n' k' hk'
      exact hSt.sep (σ n) (σ n') _ _ m m' (hinj0 n n' k k' hne hk hk' (.inl hw)) (hrdM _ _ h1) (hrdM _ _ h1') (h2 hw) hm hm' hr hr'
  refine (h.run β0 w vals (fun n hn => by simp [β0, Nat.not_lt.2 hn]) (fun n hn => ?_) hSt0 (denLS_unren hun hba hd)).mono fun e w' ⟨v', β1, he, hkeep, htop, hSt1, hdv⟩ => ?_
  · obtain ⟨k, hk⟩ := hsome n hn
    obtain ⟨m, hm, _⟩ := hnames n k hk
    rw [hβ0 n hn, hm]
    simp
  let β' : Bet := fun n => match β n with
    | some m => some m
    | none => if rd.length ≤ n ∧ n - rd.length + m0.length < m1.length then β1 (n - rd.length + m0.length) else none
  have hle : β.le β' := fun n m hm => by simp [β', hm]
  have hfr : ∀ q, m0.length ≤ q → q < m1.length → β (σ q) = none := fun q h1 h2 =>
    (hfresh (σ q) (hlook q h2 (.inl h1)).1 (Mem.get_ge rd _ (by rw [hout q h1]; omega))).1
  have hto : ∀ q, q < m1.length → ∀ m, β1 q = some m → β' (σ q) = some m := fun q hq m hm => by
    rcases Nat.lt_or_ge q m0.length with h1 | h1
    · rw [hkeep q h1, hβ0 q h1] at hm
      exact hle _ _ hm
    · have hn := hfr q h1 hq
      simp only [β', hn]
      rw [hout q h1, if_pos ⟨by omega, by omega⟩, show rd.length + (q - m0.length) - rd.length + m0.length = q by omega]
      exact hm
  -- the blocks that the call may have written
  have hwr : ∀ b, wrA β0 m0 b → ∃ i k m, m0.get i = some k ∧ k.wr = true ∧ β (σ i) = some m ∧ m.room ≠ 0 ∧ m.b = b := fun b ⟨i, k, m, hk, hw, hm, hr, hb⟩ => ⟨i, k, m, hk, hw, by rw [← hβ0 i (hlt0 i k hk)]; exact hm, hr, hb⟩
  have hwA : ∀ b, wrA β0 m0 b → A b ∨ W.heap.size ≤ b := fun b hb => by
    obtain ⟨i, k, m, hk, hw, hm, hr, rfl⟩ := hwr b hb
    obtain ⟨wr, h1, h2, _⟩ := hrdn i k hk
    exact hSt.perm (σ i) _ m (hrdM _ _ h1) (h2 hw) hm hr
  have hlive : ∀ n k m, M.get n = some k → β n = some m → m.room ≠ 0 → m.b < w.heap.size := fun n k m hk hm hr => by
    obtain ⟨m', hm', hh⟩ := hSt.names n k hk
    rw [hm] at hm'; cases hm'
    exact hh.lt hr
  -- a name that the call does not leave anew keeps its block
  have hnot : ∀ n k m, (upsOf σ m0 m1 0).has n = false → M.get n = some k → β n = some m → m.room ≠ 0 → ¬ wrA β0 m0 m.b := fun n k m hn hk hm hr hw => by
    obtain ⟨i, k', m', hk', hw', hm', hr', hb⟩ := hwr _ hw
    have hne : σ i ≠ n := fun e => by
      have := (hlook i (by have := hlt0 i k' hk'; have := h.len; omega) (.inr ⟨k', hk', hw'⟩)).1
      rw [e, hn] at this
      cases this
    obtain ⟨wr, h1, h2, _⟩ := hrdn i k' hk'
    exact hSt.sep (σ i) n _ k m' m hne (hrdM _ _ h1) hk (h2 hw') hm' hm hr' hr hb
  have hget : ∀ n k, (M.app (upsOf σ m0 m1 0)).get n = some k → (∃ q k1, q < m1.length ∧ n = σ q ∧ m1.get q = some k1 ∧ k = renB σ k1 ∧ (m0.length ≤ q ∨ ∃ k, m0.get q = some k ∧ k.wr = true)) ∨ ((upsOf σ m0 m1 0).has n = false ∧ M.get n = some k) := fun n k hk => by
    rw [Mem.get_app] at hk
    split at hk
    · rename_i hn
      obtain ⟨q, hq, rfl, hw⟩ := hhas n hn
      rw [(hlook q hq hw).2] at hk
      cases h1 : m1.get q with
      | none => rw [h1] at hk; cases hk
      | some k1 =>
        rw [h1] at hk
        simp only [Option.map_some, Option.some.injEq] at hk
        exact .inl ⟨q, k1, hq, rfl, h1, hk.symm, hw⟩
    · rename_i hn
      exact .inr ⟨by simpa using hn, hk⟩
  have hβold : ∀ n k m, M.get n = some k → β' n = some m → β n = some m := fun n k m hk hm => by
    obtain ⟨m', hm', _⟩ := hSt.names n k hk
    rw [hle n m' hm'] at hm
    rw [hm', hm]
  have hβnew : ∀ q k1 m, m1.get q = some k1 → β' (σ q) = some m → β1 q = some m := fun q k1 m hk hm => by
    obtain ⟨m', hm', _⟩ := hSt1.names q k1 hk
    rw [hto q (hlt1 q k1 hk) m' hm'] at hm
    rw [hm', hm]
  subst he
  refine ⟨v', β', rfl, hle, fun n hn hn' => ?_, ?_, denS_ren hto h.bv hdv⟩
  · simp only [β', hn] at hn'
    split at hn'
    · rename_i hc
      have hq : m0.length ≤ n - rd.length + m0.length := by omega
      have := (hlook (n - rd.length + m0.length) hc.2 (.inl hq)).1
      rw [hout _ hq, show rd.length + (n - rd.length + m0.length - m0.length) = n by omega] at this
      exact this
    · exact absurd rfl hn'
  · refine ⟨hSt1.os.trans hSt.os, hSt1.tape.trans hSt.tape, hSt1.output.trans hSt.output, Nat.le_trans hSt.size hSt1.size, fun k hk hA => ?_, fun n k hk => ?_, fun n n' k k' m m' hne hk hk' hw hm hm' hr hr' => ?_, fun n k m hk hw hm hr => ?_⟩
    · rw [hSt1.frame k (by have := hSt.size; omega) (fun hw => by rcases hwA k hw with h1 | h1; exact hA h1; omega)]
      exact hSt.frame k hk hA
    · rcases hget n k hk with ⟨q, k1, hq, rfl, hk1, rfl, _⟩ | ⟨hn, hk⟩
      · obtain ⟨m, hm, hh⟩ := hSt1.names q k1 hk1
        exact ⟨m, hto q hq m hm, holds_ren hto (bM_get h.bm1 hk1) hh⟩
      · obtain ⟨m, hm, hh⟩ := hSt.names n k hk
        refine ⟨m, hle n m hm, (hh.mono hle).heap ?_⟩
        by_cases h0 : m.room = 0
        · exact .inl h0
        · exact .inr (hSt1.frame m.b (hlive n k m hk hm h0) (hnot n k m hn hk hm h0))
    · -- a name of the call's against one that it did not leave anew
      have cross : ∀ q k1 n k m m', q < m1.length → m1.get q = some k1 → (m0.length ≤ q ∨ ∃ k, m0.get q = some k ∧ k.wr = true) → β1 q = some m → m.room ≠ 0 →
          (upsOf σ m0 m1 0).has n = false → M.get n = some k → β n = some m' → m'.room ≠ 0 → m.b ≠ m'.b := by
        intro q k1 n k m m' hq hk1 hwq hm hr hn hk hm' hr' he
        have hlt := hlive n k m' hk hm' hr'
        rcases hSt1.perm q k1 m hk1 (okNew_get hnew hk1 hwq) hm hr with h1 | h1
        · rw [he] at h1
          exact hnot n k m' hn hk hm' hr' h1
        · omega
      rcases hget n k hk with ⟨q, k1, hq, rfl, hk1, rfl, hwq⟩ | ⟨hn, hk⟩
      · rcases hget n' k' hk' with ⟨q', k1', hq', rfl, hk1', rfl, hwq'⟩ | ⟨hn', hk'⟩
        · exact hSt1.sep q q' k1 k1' m m' (fun e => hne (by rw [e])) hk1 hk1' hw (hβnew q k1 m hk1 hm) (hβnew q' k1' m' hk1' hm') hr hr'
        · exact cross q k1 n' k' m m' hq hk1 hwq (hβnew q k1 m hk1 hm) hr hn' hk' (hβold n' k' m' hk' hm') hr'
      · rcases hget n' k' hk' with ⟨q', k1', hq', rfl, hk1', rfl, hwq'⟩ | ⟨hn', hk'⟩
        · exact Ne.symm (cross q' k1' n k m' m hq' hk1' hwq' (hβnew q' k1' m' hk1' hm') hr' hn hk (hβold n k m hk hm) hr)
        · exact hSt.sep n n' k k' m m' hne hk hk' hw (hβold n k m hk hm) (hβold n' k' m' hk' hm') hr hr'
    · rcases hget n k hk with ⟨q, k1, hq, rfl, hk1, rfl, _⟩ | ⟨hn, hk⟩
      · rcases hSt1.perm q k1 m hk1 hw (hβnew q k1 m hk1 hm) hr with h1 | h1
        · exact hwA _ h1
        · exact .inr (Nat.le_trans hSt.size h1)
      · exact hSt.perm n k m hk hw (hβold n k m hk hm) hr

/-- AT A CALL -/
theorem FC.use {P : Program} {g : FuncId} {args0 : List SV} {m0 : Mem} {v1 : SV} {m1 : Mem} (h : FC P g args0 m0 v1 m1) (sg : List Nat) {args : List SV} {rd : Mem} {nm : Nat} {K : Kt}
    (hargs : args = args0.map (renS (sgF sg rd.length))) (hba : args0.all (bS m0.length) = true) (hbm : bM m0.length m0) (hnew : okNew m0 m1 = true) (hsg : okSg sg m0 = true) (hrd : okRd (sgF sg rd.length) rd m0 0)
    (hK : K (renS (sgF sg rd.length) v1) (upsOf (sgF sg rd.length) m0 m1 0)) : acall P g args rd nm K :=
  ⟨⟨_, _, by rw [hargs]; exact h.fact hba hbm hnew hsg hrd, hK⟩⟩
end Go.Sx
namespace Go.Sx

/-- at a call, what computes is left to the machine -/
theorem FC.u {P : Program} {g : FuncId} {args0 : List SV} {m0 : Mem} {v1 : SV} {m1 : Mem} (h : FC P g args0 m0 v1 m1) (sg : List Nat) {args : List SV} {rd : Mem} {nm : Nat} {K : Kt}
    (hK : K (renS (sgF sg rd.length) v1) (upsOf (sgF sg rd.length) m0 m1 0))
    (hargs : args = args0.map (renS (sgF sg rd.length)) := by exact rfl) (hrd : okRd (sgF sg rd.length) rd m0 0 := by repeat' (first | exact trivial | exact .inl rfl | exact .inr (.inl ⟨rfl, rfl⟩) | exact rdOne.ints | refine ⟨?_, ?_⟩))
    (hba : args0.all (bS m0.length) = true := by exact rfl) (hbm : bM m0.length m0 := by repeat' (first | exact trivial | exact rfl | exact fun _ _ => rfl | refine ⟨?_, ?_⟩))
    (hnew : okNew m0 m1 = true := by exact rfl) (hsg : okSg sg m0 = true := by exact rfl) : acall P g args rd nm K :=
  FC.use h sg hargs hba hbm hnew hsg hrd hK
/-- at a call whose result is only told of -/
theorem FC.x {P : Program} {g : FuncId} {args0 : List SV} {m0 : Mem} {α : Type} {v : α → SV} {m : α → Mem} {Q : α → Prop} (h : ∃ a, FC P g args0 m0 (v a) (m a) ∧ Q a) (sg : List Nat) {args : List SV} {rd : Mem} {nm : Nat} {K : Kt}
    (hK : ∀ a, Q a → K (renS (sgF sg rd.length) (v a)) (upsOf (sgF sg rd.length) m0 (m a) 0))
    (hargs : args = args0.map (renS (sgF sg rd.length)) := by exact rfl) (hrd : okRd (sgF sg rd.length) rd m0 0 := by repeat' (first | exact trivial | exact .inl rfl | exact .inr (.inl ⟨rfl, rfl⟩) | exact rdOne.ints | refine ⟨?_, ?_⟩))
    (hba : args0.all (bS m0.length) = true := by exact rfl) (hbm : bM m0.length m0 := by repeat' (first | exact trivial | exact rfl | exact fun _ _ => rfl | refine ⟨?_, ?_⟩))
    (hnew : ∀ a, okNew m0 (m a) = true := by exact fun _ => rfl) (hsg : okSg sg m0 = true := by exact rfl) : acall P g args rd nm K := by
  obtain ⟨a, hF, hQ⟩ := h
  exact FC.use hF sg hargs hba hbm (hnew a) hsg hrd (hK a hQ)
/-- a body -/
theorem FC.b {P : Program} (hm : P.follows .mixedOrders = true) {g : FuncId} {fn : Func} (hf : P.funcs[g]? = some fn) {c : Code} 
    {args0 : List SV} {m0 : Mem} {v1 : SV} {m1 : Mem} 
    (h : acode P false m0.length c (args0 ++ undefs (fn.ntmps - args0.length)) m0 (postK P fn.results.toList v1 m1))
    (hb : fn.body = some c := by exact rfl) (hc : callable P g = true := by kernel_rfl) (hlen : m0.length ≤ m1.length := by exact Nat.le_of_ble_eq_true rfl) (hv : bS m1.length v1 = true := by exact rfl)
    (hm1 : bM m1.length m1 := by repeat' (first | exact trivial | exact rfl | exact fun _ _ => rfl | refine ⟨?_, ?_⟩)) : FC P g args0 m0 v1 m1 :=
  FC.of_body hm hf hc hb rfl hlen hv hm1 h

/-- a body of which something is told -/
theorem FC.r {P : Program} (hm : P.follows .mixedOrders = true) {g : FuncId} {fn : Func} (hf : P.funcs[g]? = some fn) {c : Code} {args0 : List SV} {m0 : Mem} {α : Type} {v : α → SV} {m : α → Mem} {Q : α → Prop}
    (h : acode P false m0.length c (args0 ++ undefs (fn.ntmps - args0.length)) m0 (postR P m0.length fn.results.toList v m Q))
    (hb : fn.body = some c := by exact rfl) (hc : callable P g = true := by kernel_rfl)
    (hs : ∀ a, Q a → m0.length ≤ (m a).length ∧ bS (m a).length (v a) = true ∧ bM (m a).length (m a) := by exact fun _ _ => ⟨Nat.le_of_ble_eq_true rfl, rfl, by repeat' (first | exact trivial | exact rfl | exact fun _ _ => rfl | refine ⟨?_, ?_⟩)⟩) :
    ∃ a, FC P g args0 m0 (v a) (m a) ∧ Q a := FC.of_bodyR hm hf hc hb rfl hs h
/-- the same with places where the text's parts may come together -/
theorem FC.rj {P : Program} (hm : P.follows .mixedOrders = true) {g : FuncId} {fn : Func} (hf : P.funcs[g]? = some fn) {c : Code} {args0 : List SV} {m0 : Mem} {α : Type} {v : α → SV} {m : α → Mem} {Q : α → Prop}
    (h : acode P true m0.length c (args0 ++ undefs (fn.ntmps - args0.length)) m0 (postR P m0.length fn.results.toList v m Q))
    (hb : fn.body = some c := by exact rfl) (hc : callable P g = true := by kernel_rfl)
    (hs : ∀ a, Q a → m0.length ≤ (m a).length ∧ bS (m a).length (v a) = true ∧ bM (m a).length (m a) := by exact fun _ _ => ⟨Nat.le_of_ble_eq_true rfl, rfl, by repeat' (first | exact trivial | exact rfl | exact fun _ _ => rfl | refine ⟨?_, ?_⟩)⟩) :
    ∃ a, FC P g args0 m0 (v a) (m a) ∧ Q a := FC.of_bodyR hm hf hc hb rfl hs h
theorem FC.bj {P : Program} (hm : P.follows .mixedOrders = true) {g : FuncId} {fn : Func} (hf : P.funcs[g]? = some fn) {c : Code} 
    {args0 : List SV} {m0 : Mem} {v1 : SV} {m1 : Mem} 
    (h : acode P true m0.length c (args0 ++ undefs (fn.ntmps - args0.length)) m0 (postK P fn.results.toList v1 m1))
    (hb : fn.body = some c := by exact rfl) (hc : callable P g = true := by kernel_rfl) (hlen : m0.length ≤ m1.length := by exact Nat.le_of_ble_eq_true rfl) (hv : bS m1.length v1 = true := by exact rfl)
    (hm1 : bM m1.length m1 := by repeat' (first | exact trivial | exact rfl | exact fun _ _ => rfl | refine ⟨?_, ?_⟩)) : FC P g args0 m0 v1 m1 :=
  FC.of_body hm hf hc hb rfl hlen hv hm1 h
/-- one case: nothing is chosen -/
theorem FC.one {P : Program} {g : FuncId} {args0 : List SV} {m0 : Mem} {v1 : SV} {m1 : Mem} (h : ∃ _ : Unit, FC P g args0 m0 v1 m1 ∧ True) : FC P g args0 m0 v1 m1 := h.elim fun _ h => h.1

/-! ### loops and joins -/
def keepL (fr : List SV) : List Nat → List (Nat × SV)
  | [] => []
  | k :: r => (k, frGet fr k) :: keepL fr r
def keepV (fr : List SV) : List Nat → List SV
  | [] => []
  | k :: r => frGet fr k :: keepV fr r
theorem leF_append {fr : List SV} : ∀ {a b : List (Nat × SV)}, leF fr a → leF fr b → leF fr (a ++ b)
  | [], _, _, h => h
  | _ :: _, _, h, k => ⟨h.1, leF_append h.2 k⟩
theorem leF_keep {fr fr' : List SV} : ∀ {ks : List Nat}, keepV fr' ks = keepV fr ks → leF fr' (keepL fr ks)
  | [], _ => trivial
  | _ :: _, h => by simp only [keepV, List.cons.injEq] at h; exact ⟨h.1, leF_keep h.2⟩
def lkM : List (Nat × Blk) → Nat → Option Blk
  | [], _ => none
  | (s, v) :: r, i => if s = i then some v else lkM r i
def mkM : Nat → Nat → List (Nat × Blk) → Mem
  | _, 0, _ => []
  | i, n + 1, L => lkM L i :: mkM (i + 1) n L
def keepB (M : Mem) : List Nat → List (Nat × Blk)
  | [] => []
  | k :: r => match M.get k with | some b => (k, b) :: keepB M r | none => keepB M r
def selM (M : Mem) : List Nat → List (Option Blk)
  | [] => []
  | k :: r => M.get k :: selM M r
def leBs (M : Mem) : List (Nat × Blk) → Prop
  | [] => True
  | (n, b) :: r => leB (M.get n) b ∧ leBs M r
theorem leBs_append {M : Mem} : ∀ {a b : List (Nat × Blk)}, leBs M a → leBs M b → leBs M (a ++ b)
  | [], _, _, h => h
  | _ :: _, _, h, k => ⟨h.1, leBs_append h.2 k⟩
theorem leBs_keep {M M' : Mem} : ∀ {ks : List Nat}, selM M' ks = selM M ks → leBs M' (keepB M ks)
  | [], _ => trivial
  | k :: r, h => by
    simp only [selM, List.cons.injEq] at h
    unfold keepB
    split
    · rename_i b hb; exact ⟨.inl (by rw [h.1, hb]), leBs_keep h.2⟩
    · exact leBs_keep h.2
theorem leBs_lk {M : Mem} : ∀ {L : List (Nat × Blk)} {n : Nat} {b : Blk}, leBs M L → lkM L n = some b → leB (M.get n) b
  | (s, v) :: r, n, b, h, hl => by
    unfold lkM at hl
    split at hl
    · rename_i hs; subst hs; cases hl; exact h.1
    · exact leBs_lk h.2 hl
theorem mkM_get (L : List (Nat × Blk)) : ∀ (len i n : Nat) (g : Blk), (mkM i len L).get n = some g → lkM L (i + n) = some g
  | 0, _, _, _, h => by cases h
  | len + 1, i, 0, g, h => h
  | len + 1, i, n + 1, g, h => by have := mkM_get L len (i + 1) n g h; rwa [show i + 1 + n = i + (n + 1) by omega] at this
theorem mkM_length (L : List (Nat × Blk)) : ∀ (n i : Nat), (mkM i n L).length = n
  | 0, _ => rfl
  | n + 1, i => congrArg (· + 1) (mkM_length L n (i + 1))
noncomputable def forceM (l : Mem) : (Mem → Prop) → Prop :=
  List.rec (motive := fun _ => (Mem → Prop) → Prop) (fun K => K []) (fun c _ ih K => forceO c fun c => ih fun l => K (c :: l)) l
theorem forceM_cons (c : Option Blk) (l : Mem) (K : Mem → Prop) : forceM (c :: l) K = forceO c fun c => forceM l fun l => K (c :: l) := rfl
theorem forceM_eq : ∀ (l : Mem) (K : Mem → Prop), forceM l K = K l
  | [], _ => rfl
  | c :: l, K => by rw [forceM_cons, forceO_eq, forceM_eq l]

/-- the state at the head of a round, or behind a join -/
def headF {X : Type} (fr : List SV) (ks : List Nat) (ch : X → List (Nat × SV)) (x : X) : List SV := mkFr 0 fr.length (ch x ++ keepL fr ks)
def headM {X : Type} (L : Nat) (M : Mem) (kb : List Nat) (cm : X → List (Nat × Blk)) (x : X) : Mem := mkM 0 L (cm x ++ keepB M kb)
def fitBs (rn : Rns) (M : Mem) : List (Nat × Blk) → Prop
  | [] => True
  | (n, b) :: r => fitB rn M n b ∧ fitBs rn M r
def okBs (rn : Rns) : List (Nat × Blk) → Prop
  | [] => True
  | (_, b) :: r => okBk rn b.k ∧ okBs rn r
theorem fitBs_lk {rn : Rns} {M : Mem} : ∀ {L : List (Nat × Blk)} {n : Nat} {b : Blk}, fitBs rn M L → lkM L n = some b → fitB rn M n b
  | (s, v) :: r, n, b, h, hl => by
    unfold lkM at hl
    split at hl
    · rename_i hs; subst hs; cases hl; exact h.1
    · exact fitBs_lk h.2 hl
theorem okBs_lk {rn : Rns} : ∀ {L : List (Nat × Blk)} {n : Nat} {b : Blk}, okBs rn L → lkM L n = some b → okBk rn b.k
  | (s, v) :: r, n, b, h, hl => by
    unfold lkM at hl
    split at hl
    · rename_i hs; subst hs; cases hl; exact h.1
    · exact okBs_lk h.2 hl
theorem fitBs_append {rn : Rns} {M : Mem} : ∀ {a b : List (Nat × Blk)}, fitBs rn M a → fitBs rn M b → fitBs rn M (a ++ b)
  | [], _, _, h => h
  | _ :: _, _, h, k => ⟨h.1, fitBs_append h.2 k⟩
theorem leFx_append {rn : Rns} {fr : List SV} : ∀ {a b : List (Nat × SV)}, leFx rn fr a → leFx rn fr b → leFx rn fr (a ++ b)
  | [], _, _, h => h
  | _ :: _, _, h, k => ⟨h.1, leFx_append h.2 k⟩
theorem leFx_keep {rn : Rns} {fr fr' : List SV} : ∀ {ks : List Nat}, keepV fr' ks = keepV fr ks → (keepV fr ks).map (exS rn) = keepV fr ks → leFx rn fr' (keepL fr ks)
  | [], _, _ => trivial
  | _ :: _, h, k => by simp only [keepV, List.map_cons, List.cons.injEq] at h k; exact ⟨by rw [k.1]; exact h.1, leFx_keep h.2 k.2⟩
theorem fitBs_keep {rn : Rns} {M M' : Mem} : ∀ {ks : List Nat}, selM M' ks = selM M ks → (keepB M ks).map (fun p => (rnG rn p.1, exB rn p.2)) = (keepB M ks).map (fun p => (Rn.to p.1, p.2)) → fitBs rn M' (keepB M ks)
  | [], _, _ => trivial
  | k :: r, h, e => by
    simp only [selM, List.cons.injEq] at h
    unfold keepB at e ⊢
    split
    · rename_i b hb
      rw [hb] at e
      simp only [List.map_cons, List.cons.injEq, Prod.mk.injEq] at e
      refine ⟨?_, fitBs_keep h.2 e.2⟩
      unfold fitB
      rw [e.1.1]
      show leB (M'.get k) (exB rn b)
      rw [e.1.2, h.1, hb]
      exact .inl rfl
    · rename_i hb
      rw [hb] at e
      exact fitBs_keep h.2 e
/-- what a new look at the names must satisfy -/
structure okRn {X : Type} (rn : Rns) (k0 L : Nat) (fr : List SV) (M : Mem) (ks kb : List Nat) (ch : X → List (Nat × SV)) (cm : X → List (Nat × Blk)) (x : X) : Prop where
  idle : rn.all (fun p => Nat.ble k0 p.1) = true
  okf : okF rn (ch x ++ keepL fr ks) = true
  okb : okBs rn (cm x ++ keepB M kb)
  kf : (keepV fr ks).map (exS rn) = keepV fr ks
  km : (keepB M kb).map (fun p => (rnG rn p.1, exB rn p.2)) = (keepB M kb).map (fun p => (Rn.to p.1, p.2))
  inj : okInj rn 0 (headM L M kb cm x) = true
inductive isAt {X : Type} (k0 L : Nat) (fr : List SV) (M : Mem) (ks kb : List Nat) (ch : X → List (Nat × SV)) (cm : X → List (Nat × Blk)) (fr' : List SV) (M' : Mem) (x : X) : Prop where
  | id (h1 : leF fr' (ch x)) (h2 : keepV fr' ks = keepV fr ks) (h3 : leBs M' (cm x)) (h4 : selM M' kb = selM M kb) : isAt k0 L fr M ks kb ch cm fr' M' x
  | rn (rn : Rns) (h1 : leFx rn fr' (ch x)) (h2 : keepV fr' ks = keepV fr ks) (h3 : fitBs rn M' (cm x)) (h4 : selM M' kb = selM M kb) (h5 : okRn rn k0 L fr M ks kb ch cm x) : isAt k0 L fr M ks kb ch cm fr' M' x
/-- names taken anew, what computes left to the machine -/
theorem isAt.go {X : Type} {k0 L : Nat} {fr : List SV} {M : Mem} {ks kb : List Nat} {ch : X → List (Nat × SV)} {cm : X → List (Nat × Blk)} {fr' : List SV} {M' : Mem} {x : X} (rn : Rns) (h1 : leFx rn fr' (ch x)) (h3 : fitBs rn M' (cm x))
    (h2 : keepV fr' ks = keepV fr ks := by exact rfl) (h4 : selM M' kb = selM M kb := by exact rfl)
    (h5 : okRn rn k0 L fr M ks kb ch cm x := by exact ⟨rfl, rfl, by repeat' (first | exact trivial | exact rfl | exact fun _ _ => rfl | refine ⟨?_, ?_⟩), rfl, rfl, rfl⟩) : isAt k0 L fr M ks kb ch cm fr' M' x := .rn rn h1 h2 h3 h4 h5
def loopK {X : Type} (inv : X → Prop) (μ : X → Nat) (k0 L : Nat) (fr : List SV) (M : Mem) (ks kb : List Nat) (ch : X → List (Nat × SV)) (cm : X → List (Nat × Blk)) (x : X) (K : Kx) : Kx := fun e fr' M' => match e with
  | .normal => ∃ x', (inv x' ∧ μ x' < μ x) ∧ isAt k0 L fr M ks kb ch cm fr' M' x'
  | e => K e fr' M'
def joinK {X : Type} (inv : X → Prop) (k0 L : Nat) (fr : List SV) (M : Mem) (ks kb : List Nat) (ch : X → List (Nat × SV)) (cm : X → List (Nat × Blk)) (K : Kx) : Kx := fun e fr' M' => match e with
  | .normal => ∃ x', inv x' ∧ isAt k0 L fr M ks kb ch cm fr' M' x'
  | e => K e fr' M'
def headOk {X : Type} (k0 L : Nat) (fr : List SV) (M : Mem) (ks kb : List Nat) (ch : X → List (Nat × SV)) (cm : X → List (Nat × Blk)) (x : X) : Prop :=
  k0 ≤ L ∧ bL L (ch x ++ keepL fr ks) = true ∧ bM L (mkM 0 L (cm x ++ keepB M kb))
theorem isAt.fit {X : Type} {k0 L : Nat} {fr : List SV} {M : Mem} {ks kb : List Nat} {ch : X → List (Nat × SV)} {cm : X → List (Nat × Blk)} {fr' : List SV} {M' : Mem} {x : X} (h : isAt k0 L fr M ks kb ch cm fr' M' x)
    (hs : headOk k0 L fr M ks kb ch cm x) : ∃ rn, AFit rn k0 fr' M' (ch x ++ keepL fr ks) (headM L M kb cm x) := by
  obtain ⟨s1, s2, s3⟩ := hs
  have e : (headM L M kb cm x).length = L := mkM_length _ _ _
  cases h with
  | id h1 h2 h3 h4 =>
    refine ⟨[], AFit.nil (leF_append h1 (leF_keep h2)) (fun n g hg => ?_) (by rw [e]; exact s1) (by rw [e]; exact s2) (by rw [e]; exact s3)⟩
    have := mkM_get _ _ _ _ _ hg
    rw [Nat.zero_add] at this
    exact leBs_lk (leBs_append h3 (leBs_keep h4)) this
  | rn rn h1 h2 h3 h4 h5 =>
    obtain ⟨t1, t2, t3, t4, t5, t6⟩ := h5
    refine ⟨rn, ⟨leFx_append h1 (leFx_keep h2 t4), fun n g hg => ?_, by rw [e]; exact s1, by rw [e]; exact s2, by rw [e]; exact s3, t2, fun n g hg => ?_, idle_of t1, okInj_inj t6⟩⟩
    · have := mkM_get _ _ _ _ _ hg
      rw [Nat.zero_add] at this
      exact fitBs_lk (fitBs_append h3 (fitBs_keep h4 t5)) this
    · have := mkM_get _ _ _ _ _ hg
      rw [Nat.zero_add] at this
      exact okBs_lk t3 this
theorem ALoop.goN {k0 : Nat} {body : List SV → Mem → Kx → Prop} {fr : List SV} {M : Mem} {K : Kx} {X : Type} (inv : X → Prop) (μ : X → Nat) (ks kb : List Nat) (ch : X → List (Nat × SV)) (cm : X → List (Nat × Blk)) (x0 : X) (L : Nat)
    (h0 : inv x0) (h1 : isAt k0 L fr M ks kb ch cm fr M x0)
    (hb : ∀ x, inv x → forceF (headF fr ks ch x) fun F => forceM (headM L M kb cm x) fun G => body F G (loopK inv μ k0 L fr M ks kb ch cm x K))
    (hs : ∀ x, headOk k0 L fr M ks kb ch cm x := by exact fun _ => ⟨Nat.le_of_ble_eq_true rfl, rfl, by repeat' (first | exact trivial | exact rfl | exact fun _ _ => rfl | refine ⟨?_, ?_⟩)⟩) : ALoop k0 body fr M K := by
  refine ALoop.mk ⟨X, inv, fr.length, fun x => ch x ++ keepL fr ks, headM L M kb cm, μ, fun x fr' M' => isAt k0 L fr M ks kb ch cm fr' M' x, x0, rfl, h0, fun x fr' M' h => h.fit (hs x), h1, fun x hx => ?_⟩
  have hb' := hb x hx
  rw [forceF_eq, forceM_eq] at hb'
  exact hb'
theorem ALoop.go {k0 : Nat} {body : List SV → Mem → Kx → Prop} {fr : List SV} {M : Mem} {K : Kx} {X : Type} (inv : X → Prop) (μ : X → Nat) (ks kb : List Nat) (ch : X → List (Nat × SV)) (cm : X → List (Nat × Blk)) (x0 : X)
    (h0 : inv x0) (hf : leF fr (ch x0)) (hM : leBs M (cm x0))
    (hb : ∀ x, inv x → forceF (headF fr ks ch x) fun F => forceM (headM M.length M kb cm x) fun G => body F G (loopK inv μ k0 M.length fr M ks kb ch cm x K))
    (hs : ∀ x, headOk k0 M.length fr M ks kb ch cm x := by exact fun _ => ⟨Nat.le_of_ble_eq_true rfl, rfl, by repeat' (first | exact trivial | exact rfl | exact fun _ _ => rfl | refine ⟨?_, ?_⟩)⟩) : ALoop k0 body fr M K :=
  ALoop.goN inv μ ks kb ch cm x0 M.length h0 (.id hf rfl hM rfl) hb hs
theorem AJoin.plain {k0 : Nat} {x y : List SV → Mem → Kx → Prop} {fr : List SV} {M : Mem} {K : Kx} (h : x fr M (seqK K y)) : AJoin k0 x y fr M K := ⟨.inl h⟩
theorem AJoin.cutN {k0 : Nat} {x y : List SV → Mem → Kx → Prop} {fr : List SV} {M : Mem} {K : Kx} {X : Type} (inv : X → Prop) (ks kb : List Nat) (ch : X → List (Nat × SV)) (cm : X → List (Nat × Blk)) (L : Nat)
    (hx : x fr M (joinK inv k0 L fr M ks kb ch cm K))
    (hy : ∀ x, inv x → forceF (headF fr ks ch x) fun F => forceM (headM L M kb cm x) fun G => y F G K)
    (hs : ∀ x, headOk k0 L fr M ks kb ch cm x := by exact fun _ => ⟨Nat.le_of_ble_eq_true rfl, rfl, by repeat' (first | exact trivial | exact rfl | exact fun _ _ => rfl | refine ⟨?_, ?_⟩)⟩) : AJoin k0 x y fr M K := by
  refine AJoin.mk (.inr ⟨X, inv, fr.length, fun x => ch x ++ keepL fr ks, headM L M kb cm, fun x fr' M' => isAt k0 L fr M ks kb ch cm fr' M' x, rfl, fun x fr' M' h => h.fit (hs x), hx, fun x hx => ?_⟩)
  have hb' := hy x hx
  rw [forceF_eq, forceM_eq] at hb'
  exact hb'
theorem AJoin.cut {k0 : Nat} {x y : List SV → Mem → Kx → Prop} {fr : List SV} {M : Mem} {K : Kx} {X : Type} (inv : X → Prop) (ks kb : List Nat) (ch : X → List (Nat × SV)) (cm : X → List (Nat × Blk))
    (hx : x fr M (joinK inv k0 M.length fr M ks kb ch cm K))
    (hy : ∀ x, inv x → forceF (headF fr ks ch x) fun F => forceM (headM M.length M kb cm x) fun G => y F G K)
    (hs : ∀ x, headOk k0 M.length fr M ks kb ch cm x := by exact fun _ => ⟨Nat.le_of_ble_eq_true rfl, rfl, by repeat' (first | exact trivial | exact rfl | exact fun _ _ => rfl | refine ⟨?_, ?_⟩)⟩) : AJoin k0 x y fr M K :=
  AJoin.cutN inv ks kb ch cm M.length hx hy hs
/-- the end, with names taken anew -/
theorem isEnd.go {k0 : Nat} {M : Mem} {l v : SV} {m : Mem} (rn : Rns) (h : l = exS rn v) (hm : fitM rn M 0 m) (ho : okS rn v = true := by exact rfl) (hom : okMm rn m := by repeat' (first | exact trivial | exact rfl | exact fun _ _ => rfl | refine ⟨?_, ?_⟩))
    (hi : rn.all (fun p => Nat.ble k0 p.1) = true := by exact rfl) (hj : okInj rn 0 m = true := by exact rfl) : isEnd k0 M l v m := .rn rn h hm ho hom hi hj

theorem bselD {p : Prop} [Decidable p] {t f : Prop} (ht : p → t) (hf : ¬ p → f) : bsel (decide p) t f := bsel_intro (fun h => ht (of_decide_eq_true h)) fun h => hf (of_decide_eq_false h)
theorem bselE {a b : Int} {t f : Prop} (ht : a = b → t) (hf : a ≠ b → f) : bsel (a == b) t f := bsel_intro (fun h => ht (by simpa using h)) fun h => hf (by simpa using h)
theorem bselN {a b : Int} {t f : Prop} (ht : a ≠ b → t) (hf : a = b → f) : bsel (a != b) t f := bsel_intro (fun h => ht (by simpa using h)) fun h => hf (by simpa using h)
theorem bselNot {b : Bool} {t f : Prop} (h : bsel b f t) : bsel (!b) t f := by cases b <;> exact h
theorem bselT {b : Bool} {t f : Prop} (hb : b = true) (h : t) : bsel b t f := by subst hb; exact h
theorem bselF {b : Bool} {t f : Prop} (hb : b = false) (h : f) : bsel b t f := by subst hb; exact h

theorem wrap64_in {n : Int} (h1 : -9223372036854775808 ≤ n) (h2 : n ≤ 9223372036854775807) : IntKind.i64.wrap n = n := by rw [IntKind.wrap_i64]; omega
theorem wrapU64_in {n : Int} (h1 : 0 ≤ n) (h2 : n ≤ 18446744073709551615) : IntKind.u64.wrap n = n := by rw [IntKind.wrap_u64]; omega
end Go.Sx
namespace Go.Sx

theorem wrap_u64_nat (n : Nat) : IntKind.u64.wrap (n : Int) = ((n % 18446744073709551616 : Nat) : Int) := by
  rw [IntKind.wrap_u64]; omega
theorem ofInt_nat (k n : Nat) : (BitVec.ofInt k (n : Int)).toNat = n % 2 ^ k := by
  simp
theorem or_u64 {a b : Nat} (ha : a < 18446744073709551616) (hb : b < 18446744073709551616) : bitI .or .u64 (a : Int) (b : Int) = ((a ||| b : Nat) : Int) := by
  have h : a ||| b < 2 ^ 64 := Nat.or_lt_two_pow (n := 64) ha hb
  unfold bitI
  simp only [BitVec.toNat_or]
  rw [wrap_u64_nat, ofInt_nat, ofInt_nat]
  have e1 : a % 2 ^ IntKind.u64.bits = a := Nat.mod_eq_of_lt ha
  have e2 : b % 2 ^ IntKind.u64.bits = b := Nat.mod_eq_of_lt hb
  rw [e1, e2, Nat.mod_eq_of_lt h]
theorem xor_u64 {a b : Nat} (ha : a < 18446744073709551616) (hb : b < 18446744073709551616) : bitI .xor .u64 (a : Int) (b : Int) = ((a ^^^ b : Nat) : Int) := by
  have h : a ^^^ b < 2 ^ 64 := Nat.xor_lt_two_pow (n := 64) ha hb
  unfold bitI
  simp only [BitVec.toNat_xor]
  rw [wrap_u64_nat, ofInt_nat, ofInt_nat]
  have e1 : a % 2 ^ IntKind.u64.bits = a := Nat.mod_eq_of_lt ha
  have e2 : b % 2 ^ IntKind.u64.bits = b := Nat.mod_eq_of_lt hb
  rw [e1, e2, Nat.mod_eq_of_lt h]
theorem and_u64 {a b : Nat} (ha : a < 18446744073709551616) (hb : b < 18446744073709551616) : bitI .and .u64 (a : Int) (b : Int) = ((a &&& b : Nat) : Int) := by
  have h : a &&& b < 2 ^ 64 := Nat.lt_of_le_of_lt Nat.and_le_left ha
  unfold bitI
  simp only [BitVec.toNat_and]
  rw [wrap_u64_nat, ofInt_nat, ofInt_nat]
  have e1 : a % 2 ^ IntKind.u64.bits = a := Nat.mod_eq_of_lt ha
  have e2 : b % 2 ^ IntKind.u64.bits = b := Nat.mod_eq_of_lt hb
  rw [e1, e2, Nat.mod_eq_of_lt h]
theorem shl_u64 (a k : Nat) : IntKind.u64.wrap ((a : Int) * 2 ^ k) = ((a * 2 ^ k % 18446744073709551616 : Nat) : Int) := by
  rw [← wrap_u64_nat]; push_cast; rfl
theorem fdiv_nat (a k : Nat) : (a : Int).fdiv (2 ^ k) = ((a / 2 ^ k : Nat) : Int) := by
  rw [Int.fdiv_eq_ediv_of_nonneg _ (Int.pow_nonneg (by omega))]
  push_cast; rfl
theorem or_add {a b k : Nat} (h : a < 2 ^ k) : a ||| b * 2 ^ k = a + b * 2 ^ k := by
  rw [Nat.mul_comm, Nat.or_comm, Nat.add_comm, Nat.two_pow_add_eq_or_of_lt h]
theorem and_mask (a k : Nat) : a &&& (2 ^ k - 1) = a % 2 ^ k := Nat.and_two_pow_sub_one_eq_mod a k
theorem bitI_u64_nat (op : BinOp) (a b : Int) : ∃ n : Nat, n < 18446744073709551616 ∧ bitI op .u64 a b = (n : Int) := by
  unfold bitI
  cases op <;> exact ⟨_, Nat.mod_lt _ (by omega), wrap_u64_nat _⟩
theorem or_zero_u64 (op : BinOp) (a b : Int) : bitI .or .u64 (bitI op .u64 a b) 0 = bitI op .u64 a b := by
  obtain ⟨n, hn, e⟩ := bitI_u64_nat op a b
  rw [e, show (0 : Int) = ((0 : Nat) : Int) from rfl, or_u64 hn (by omega), Nat.or_zero]

/-! ### a slice without elements gets a name, for a call -/
def setC : List C → Nat → C → List C
  | [], _, _ => []
  | _ :: l, 0, c => c :: l
  | x :: l, j + 1, c => x :: setC l j c
def nilAt : List SV → Nat → Nat → C → List SV
  | [], _, _, _ => []
  | .o (.c _) :: r, 0, _, c => .o (.c c) :: r
  | .o (.a l) :: r, 0, j, c => .o (.a (setC l j c)) :: r
  | .t l :: r, 0, _, _ => .t l :: r
  | x :: r, a + 1, j, c => x :: nilAt r a j c
theorem denLS_ex {β : Bet} {rn : Rns} {g : Nat} : ∀ {xs : List Value} {l : List SV}, l.all (okS rn) = true → l.all (bS g) = true → denLS β xs (l.map (exS rn)) → denLS (betR β rn g) xs l
  | [], [], _, _, _ => trivial
  | _ :: _, _ :: _, ho, hb, ⟨h, r⟩ => by
    simp only [List.all_cons, Bool.and_eq_true] at ho hb
    exact ⟨denS_ex ho.1 hb.1 h, denLS_ex ho.2 hb.2 r⟩
  | [], _ :: _, _, _, h => h.elim
  | _ :: _, [], _, _, h => h.elim
theorem acall.nil {P : Program} {g : FuncId} {args args' : List SV} {rd : Mem} {nm : Nat} {K : Kt} (sz : Nat) (k : Bk) (ha : args = args'.map (exS [(nm, .new sz)])) (ho : args'.all (okS [(nm, .new sz)]) = true) (hb : args'.all (bS (nm + 1)) = true)
    (hf : k.fits sz) (hn : k.need = 0) (hnm : rd.get nm = none) (h : acall P g args' (rd.put nm (some ⟨k, true⟩)) (nm + 1) fun v ups => K v ((nm, some ⟨k, true⟩) :: ups)) : acall P g args rd nm K := by
  obtain ⟨v, ups, hc, hK⟩ := h.ex
  refine ⟨⟨v, _, ⟨hc.1, fun W A β M w vals hSt hd hrd hfresh => ?_⟩, hK⟩⟩
  have hβ : β nm = none := (hfresh nm (by simp [Ups.has]) hnm).1
  have hSt1 := hSt.empty (n := nm) hβ (k := k) (sz := sz) hf hn
  have hle : (betR β [(nm, .new sz)] (nm + 1)).le (β.set nm ⟨0, 0, sz, 0⟩) := fun n m hm => by
    unfold betR at hm
    split at hm
    · by_cases e : n = nm
      · subst e
        simp only [rnG, if_true] at hm
        rw [Bet.set_same]; exact hm
      · simp only [rnG] at hm
        rw [if_neg (fun h => e h.symm)] at hm
        simp only [Bet.set, if_neg e]; exact hm
    · cases hm
  rw [ha] at hd
  have hd1 : denLS (β.set nm ⟨0, 0, sz, 0⟩) vals args' := (denLS_ex ho hb hd).mono hle
  refine (hc.2 W A _ _ w vals hSt1 hd1 (fun n b hb => ?_) (fun n hh hn => ?_)).mono fun e w' ⟨v', β', he, h1, h2, h3, h4⟩ => ⟨v', β', he, Bet.le_trans (Bet.set_le hβ) h1, fun n hn hn' => ?_, h3, h4⟩
  · rw [Mem.get_put] at hb ⊢
    split
    · rename_i e; rw [if_pos e] at hb; exact hb
    · rename_i e; rw [if_neg e] at hb; exact hrd n b hb
  · rw [Mem.get_put] at hn
    split at hn
    · cases hn
    · rename_i e
      have := hfresh n (by simp [Ups.has, hh]) hn
      exact ⟨by simp [Bet.set, e, this.1], by rw [Mem.get_put, if_neg e]; exact this.2⟩
  · by_cases e : n = nm
    · simp [Ups.has, e]
    · have := h2 n (by simp [Bet.set, e, hn]) hn'
      simp [Ups.has, this]
theorem acall.nilAt {P : Program} {g : FuncId} {args : List SV} {rd : Mem} {nm : Nat} {K : Kt} (a j sz : Nat) (k : Bk)
    (h : acall P g (nilAt args a j (.s nm 0 0 sz)) (rd.put nm (some ⟨k, true⟩)) (nm + 1) fun v ups => K v ((nm, some ⟨k, true⟩) :: ups))
    (ha : args = (Go.Sx.nilAt args a j (.s nm 0 0 sz)).map (exS [(nm, .new sz)]) := by exact rfl) (ho : (Go.Sx.nilAt args a j (.s nm 0 0 sz)).all (okS [(nm, .new sz)]) = true := by exact rfl) (hb : (Go.Sx.nilAt args a j (.s nm 0 0 sz)).all (bS (nm + 1)) = true := by exact rfl)
    (hf : k.fits sz := by exact .inr ⟨rfl, Nat.le_of_ble_eq_true rfl, fun _ h => absurd h (Nat.not_lt_zero _)⟩) (hn : k.need = 0 := by exact rfl) (hnm : rd.get nm = none := by exact rfl) : acall P g args rd nm K :=
  acall.nil sz k ha ho hb hf hn hnm h

/-! ### blocks that are seen shorter, or otherwise written -/
theorem leB.ints {k : IntKind} {xs ys : List Int} {a b : Bool} (h : ∀ i, i < ys.length → xs.getD i 0 = ys.getD i 0) (hl : ys.length ≤ xs.length) (hw : b = true → a = true) : leB (some ⟨.ints k xs, a⟩) ⟨.ints k ys, b⟩ :=
  .inr ⟨_, rfl, hw, rfl, rfl, rfl, hl, fun i hi => by show [C.v (.int k (xs.getD i 0))] = [C.v (.int k (ys.getD i 0))]; rw [h i hi]⟩
theorem leB.ints_eq {k : IntKind} {xs ys : List Int} {a b : Bool} (h : xs = ys) (hw : b = true → a = true) : leB (some ⟨.ints k xs, a⟩) ⟨.ints k ys, b⟩ := by
  subst h
  exact leB.ints (fun _ _ => rfl) (Nat.le_refl _) hw
theorem leB.take {k : IntKind} {xs : List Int} {a b : Bool} (n : Nat) (hw : b = true → a = true) : leB (some ⟨.ints k xs, a⟩) ⟨.ints k (xs.take n), b⟩ :=
  leB.ints (fun i hi => by rw [List.length_take] at hi; simp [List.getD, List.getElem?_take_of_lt (show i < n by omega)]) (List.length_take_le' n xs) hw
theorem leB.rows {sz n n' : Nat} {r r' : Nat → List C} {a b : Bool} (hn : n' ≤ n) (h : ∀ i, i < n' → r i = r' i) (hw : b = true → a = true) : leB (some ⟨.rows sz n r, a⟩) ⟨.rows sz n' r', b⟩ :=
  .inr ⟨_, rfl, hw, rfl, rfl, rfl, hn, h⟩

/-- a slice that comes in is nil, or empty and not nil, or has elements -/
theorem FC.nil3 {P : Program} {g : FuncId} {m0 m1 : Mem} {v1 : SV} {n off sz : Nat}
    (h1 : n = 0 → FC P g [.o (.c (.v (.slice none 0 0)))] m0 v1 m1) (h2 : n = 0 → ∀ a cap, FC P g [.o (.c (.v (.slice (some a) 0 cap)))] m0 v1 m1)
    (h3 : ∀ k, n = k + 1 → FC P g [.o (.c (.s 0 off (k + 1) sz))] m0 v1 m1) : FC P g [.o (.c (.s 0 off n sz))] m0 v1 m1 := by
  cases n with
  | succ k => exact h3 k rfl
  | zero =>
    have h := h1 rfl
    refine ⟨h.can, h.len, h.bv, h.bm1, fun β w vals t d st hd => ?_⟩
    cases vals with
    | nil => exact hd.elim
    | cons x r =>
      cases r with
      | cons _ _ => exact hd.2.elim
      | nil =>
        obtain ⟨⟨A, cap, m, _, rfl, _, _, _, hA⟩, _⟩ := hd
        cases A with
        | none =>
          have hc : cap = 0 := hA.resolve_right fun h => by cases h.1
          subst hc
          exact h.run β w _ t d st ⟨rfl, trivial⟩
        | some a => exact (h2 rfl a cap).run β w _ t d st ⟨rfl, trivial⟩
theorem leB.empty {k k' : Bk} {a b : Bool} (h1 : k.isBox = false) (h2 : k'.isBox = false) (h3 : k.sz = k'.sz) (h4 : k'.n = 0) (hw : b = true → a = true) : leB (some ⟨k, a⟩) ⟨k', b⟩ :=
  .inr ⟨_, rfl, hw, h1, h2, h3, by simp only; omega, fun i hi => by simp only at hi; omega⟩
end Go.Sx
namespace Go.Sx

/-- a contract's result over names taken anew -/
theorem FC.as {P : Program} {g : FuncId} {args0 : List SV} {m0 : Mem} {v1 v2 : SV} {m1 m2 : Mem} (h : FC P g args0 m0 v1 m1) (rn : Rns) (hv : v1 = exS rn v2) (hm : fitM rn m1 0 m2)
    (hlen : m0.length ≤ m2.length := by exact Nat.le_of_ble_eq_true rfl) (hb : bS m2.length v2 = true := by exact rfl) (hbm : bM m2.length m2 := by repeat' (first | exact trivial | exact rfl | exact fun _ _ => rfl | refine ⟨?_, ?_⟩))
    (ho : okS rn v2 = true := by exact rfl) (hom : okMm rn m2 := by repeat' (first | exact trivial | exact rfl | exact fun _ _ => rfl | refine ⟨?_, ?_⟩))
    (hi : rn.all (fun p => Nat.ble m0.length p.1) = true := by exact rfl) (hj : okInj rn 0 m2 = true := by exact rfl) : FC P g args0 m0 v2 m2 := by
  have a : AFit rn m0.length [] m1 [] m2 := ⟨trivial, fun n g hg => by have := fitM_get (i := 0) hm hg; rwa [Nat.zero_add] at this, hlen, Eq.refl _, hbm, Eq.refl _, fun n g hg => okMm_get hom hg, idle_of hi, okInj_inj hj⟩
  refine ⟨h.can, hlen, hb, hbm, fun β w vals hT hdef hSt hd => ?_⟩
  refine (h.run β w vals hT hdef hSt hd).mono fun e w' ⟨v', β', he, hk, ht, hS, hdv⟩ => ?_
  refine ⟨v', betR β' rn m2.length, he, fun n hn => ?_, betR_top, a.st hS, ?_⟩
  · rw [betR_to (Nat.lt_of_lt_of_le hn hlen) (a.idle n hn)]; exact hk n hn
  · rw [hv] at hdv
    exact denS_ex ho hb hdv
end Go.Sx
namespace Go.Sx

/-- the region that makes the function literal and defers its call -/
noncomputable def dregion (P : Program) (ops : Array Oper) (fr : List SV) (M : Mem) (K : List SV → FuncId → List Cp → List Cp → Prop) : Prop :=
  match ops.toList with
  | [o1, o2] => (match o1.guard, o2.guard, o1.dst, o2.dst, o2.op with
    | none, none, some d, none, .defer c => (match c.callee, c.args.toList with
      | .value (.tmp d'), [] => if d' = d then d < fr.length ∧ evS P o1 fr M M.length fun v ups => (match v, ups with
        | .o (.c (.f G fi ca)), [] => setF fr d (.o (.c (.f G fi ca))) fun fr => K fr G fi ca
        | _, _ => False) else False
      | _, _ => False)
    | _, _, _, _, _ => False)
  | _ => False

def DSem (P : Program) (ops : Array Oper) (fr : List SV) (M : Mem) (fr2 : List SV) (G : FuncId) (fi ca : List Cp) : Prop :=
  ∃ o1 o2 d c, ops.toList = [o1, o2] ∧ o1.guard = none ∧ o2.guard = none ∧ o1.dst = some d ∧ o2.dst = none ∧ o2.op = .defer c ∧ c.callee = .value (.tmp d) ∧ c.args.toList = [] ∧ d < fr.length ∧
    SemOp P o1 fr M (.o (.c (.f G fi ca))) [] ∧ fr2 = frSet fr d (.o (.c (.f G fi ca)))
theorem dregion_sem {P : Program} {ops : Array Oper} {fr : List SV} {M : Mem} {K : List SV → FuncId → List Cp → List Cp → Prop} (h : dregion P ops fr M K) : ∃ fr2 G fi ca, DSem P ops fr M fr2 G fi ca ∧ K fr2 G fi ca := by
  unfold dregion at h
  split at h
  · rename_i o1 o2 hops
    split at h
    · rename_i d c hg1 hg2 hd1 hd2 ho2
      split at h
      · rename_i d' hcal hargs
        split at h
        · rename_i hdd
          subst hdd
          obtain ⟨hdl, h⟩ := h
          obtain ⟨v, ups, hsem, hK⟩ := evS_sound (Mem.get_len M) h
          split at hK
          · rename_i G fi ca
            rw [setF_eq] at hK
            exact ⟨_, G, fi, ca, ⟨o1, o2, d', c, hops, hg1, hg2, hd1, hd2, ho2, hcal, hargs, hdl, hsem, rfl⟩, hK⟩
          · exact hK.elim
        · exact h.elim
      · exact h.elim
    · exact h.elim
  · exact h.elim
theorem DSem.wp {P : Program} {id : Nat} {ops : Array Oper} {fr fr2 : List SV} {M : Mem} {G : FuncId} {fi ca : List Cp} (h : DSem P ops fr M fr2 G fi ca)
    {W : World} {A : Nat → Prop} {T k0 : Nat} {β0 β : Bet} {a : Act} {w : World} (h0 : ∀ n, n < k0 → β0 n ≠ none) (ab : Abs W A T k0 β0 [] fr M β a w) {Q : Exit → Act → World → Prop}
    (hQ : ∀ fs cs β' a' w', denCps β' fs fi → denCps β' cs ca → Abs W A T k0 β0 [{ target := .fn (.func G) cs.toArray, args := fs.toArray }] fr2 M β' a' w' → Q .normal a' w') :
    (Code.region id ops false).wp P Q a w := by
  obtain ⟨o1, o2, d', c, hops, hg1, hg2, hd1, hd2, ho2, hcal, hargs, hdl, hsem, rfl⟩ := h
  refine wp_region_list ?_
  rw [hops]
  unfold wpList
  rw [if_pos (by unfold Region.wanted; rw [hg1])]
  refine .inl (hsem W A β M w a _ Q ab.st (fun x _ => ab.fr.ev x) (fun n k h => h) (fun n hn => by cases hn) fun v' w' β' hle hdom hSt' hden => ?_)
  have hput : ∀ (x : Act) (d : Option Tmp) (v : Value), (x.put d v).defers = x.defers := fun x d v => by cases d <;> rfl
  have hF' : Fr β' (a.put o1.dst v').tmps (frSet fr d' (.o (.c (.f G fi ca)))) := by
    have := (ab.fr.mono hle).put o1.dst hden
    rw [hd1] at this ⊢
    exact this
  obtain ⟨fs, cs, hv, hfi, hca⟩ := hden
  have hev : (a.put o1.dst v').eval (.tmp d') = .func (.func G) fs.toArray cs.toArray := by
    have hlt : d' < a.tmps.size := by rw [ab.fr.len]; exact hdl
    rw [hd1, ← hv]
    simp [Act.put, Act.eval, hlt]
  unfold wpList
  rw [if_pos (by unfold Region.wanted; rw [hg2])]
  refine .inl ?_
  have hargs' : c.args = #[] := by apply Array.ext'; simpa using hargs
  have hrun : (execOp (a.put o1.dst v').eval o2).run P w' = .ok (.defer { target := .fn (.func G) cs.toArray, args := fs.toArray }) w' := by
    simp only [execOp, ho2, resolve, hcal, hargs', hev, Deferred.ofValue]
    simp
  unfold Oper.wp
  rw [hrun, Oper.upon_defer]
  refine hQ fs cs β' _ w' hfi hca ⟨by rw [frSet_length]; exact ab.flen, fun n hn => ?_, hSt', ?_, fun k hk => ?_, ab.len, ?_⟩
  · have hk0 := ab.keep n hn
    have hb0 := h0 n hn
    cases hb : β n with
    | none => rw [hk0] at hb; exact absurd hb hb0
    | some m => rw [hle n m hb, ← hk0, hb]
  · rw [hd2]; exact hF'
  · cases hb : β' k with
    | none => rfl
    | some m =>
      have := hdom k (ab.top k hk) (by rw [hb]; simp)
      cases this
  · rw [hd2, hd1]
    show _ :: (a.put (some d') v').defers = _
    rw [hput, ab.ds]

/-- WHAT THE DEFERRED CALL DOES where the function returns: nothing -/
structure DR (P : Program) (G : FuncId) (cargs : List SV) : Prop where
  can : callable P G = true
  run : ∀ (β : Bet) (w : World) (vals : List Value), denLS β vals cargs → CallsD P G vals.toArray .returning w fun e u' w' => (∃ x, e = .returned x) ∧ u' = .returning ∧ w' = w
/-- .. where it panics with x: it recovers -/
structure DP (P : Program) (G : FuncId) (cargs : List SV) (x : Value) (M M2 : Mem) : Prop where
  len : M2.length = M.length
  run : ∀ (W : World) (A : Nat → Prop) (β : Bet) (w : World) (vals : List Value), St W A β M w → Top β M.length → denLS β vals cargs →
    CallsD P G vals.toArray (.panicking [{ v := x, recovered := false }]) w fun e u' w' => (∃ y, e = .returned y) ∧ u' = .panicking [{ v := x, recovered := true }] ∧ ∃ β', β.le β' ∧ St W A β' M2 w'

def allSome : Mem → Prop
  | [] => True
  | x :: l => x.isSome = true ∧ allSome l
theorem allSome_get : ∀ {M : Mem} {n : Nat}, allSome M → n < M.length → ∃ k, M.get n = some k
  | [], _, _, h => by simp at h
  | some x :: _, 0, _, _ => ⟨x, rfl⟩
  | none :: _, 0, h, _ => by cases h.1
  | _ :: l, n + 1, h, hn => allSome_get (M := l) h.2 (by simpa using hn)
def postD {α : Type} (P : Program) (k0 : Nat) (rs : List ResultVar) (G : FuncId) (cargs : List SV) (v : α → SV) (m : α → Mem) (Q : α → Prop) : Kx := fun e fr M => match e with
  | .exit _ => False
  | .pan x => ∃ M2, DP P G cargs x M M2 ∧ resA P rs fr M2 fun l => ∃ a, Q a ∧ isEnd k0 M2 (tupA l) (v a) (m a)
  | _ => resA P rs fr M fun l => ∃ a, Q a ∧ isEnd k0 M (tupA l) (v a) (m a)

theorem FC.of_bodyD {P : Program} {J : Bool} (hm : P.follows .mixedOrders = true) {g : FuncId} {fn : Func} (hf : P.funcs[g]? = some fn) (hc : callable P g = true) {c0 rest : Code} {id1 : Nat} {ops1 : Array Oper}
    (hb : fn.body = some (.seq c0 (.seq (.region id1 ops1 false) rest))) {T : Nat} (hT : fn.ntmps = T)
    {args0 : List SV} {m0 : Mem} {α : Type} {v : α → SV} {m : α → Mem} {Q : α → Prop} (hs : ∀ a, Q a → m0.length ≤ (m a).length ∧ bS (m a).length (v a) = true ∧ bM (m a).length (m a))
    (h : acode P J m0.length c0 (args0 ++ undefs (T - args0.length)) m0 fun e fr M => match e with
      | .normal => dregion P ops1 fr M fun fr' G fi ca => allSome M ∧ (fi ++ ca).all (bCp M.length) = true ∧ DR P G (fi.map cpS ++ ca.map cpS) ∧ acode P J M.length rest fr' M (postD P m0.length fn.results.toList G (fi.map cpS ++ ca.map cpS) v m Q)
      | _ => False) : ∃ a, FC P g args0 m0 (v a) (m a) ∧ Q a := by
  obtain ⟨e, fr1, M1, hr1, hk⟩ := acode_rel _ _ _ _ h
  cases e with
  | exit n => exact hk.elim
  | ret => exact hk.elim
  | pan v => exact hk.elim
  | normal =>
    obtain ⟨fr2, G, fi, ca, hD, hsome, hbc, hDR, hk⟩ := dregion_sem hk
    obtain ⟨e2, fr', M', hr2, hk⟩ := acode_rel _ _ _ _ hk
    -- the results
    obtain ⟨M2, hM2, l, hres, a, hQ, hend⟩ : ∃ M2, (match e2 with | .exit _ => False | .pan x => DP P G (fi.map cpS ++ ca.map cpS) x M' M2 | _ => M2 = M') ∧ ∃ l, resA P fn.results.toList fr' M2 (fun l' => l' = l) ∧ ∃ a, Q a ∧ isEnd m0.length M2 (tupA l) (v a) (m a) := by
      cases e2 with
      | exit n => exact hk.elim
      | normal => obtain ⟨l, h1, h2⟩ := resA_det _ _ _ _ hk; exact ⟨M', rfl, l, h1, h2⟩
      | ret => obtain ⟨l, h1, h2⟩ := resA_det _ _ _ _ hk; exact ⟨M', rfl, l, h1, h2⟩
      | pan x => obtain ⟨M2, h0, hk⟩ := hk; obtain ⟨l, h1, h2⟩ := resA_det _ _ _ _ hk; exact ⟨M2, h0, l, h1, h2⟩
    obtain ⟨s1, s2, s3⟩ := hs a hQ
    obtain ⟨rn, hfit, hvo, hl⟩ : ∃ rn, AFit rn m0.length fr' M2 [] (m a) ∧ okS rn (v a) = true ∧ tupA l = exS rn (v a) := by
      cases hend with
      | id h2 h3 => exact ⟨[], AFit.nil trivial (fun n g hg => leW_get h3 hg) s1 rfl s3, okS_nil _, by rw [exS_nil]; exact h2⟩
      | rn rn h2 h3 h4 h5 h6 h7 => exact ⟨rn, ⟨trivial, fun n g hg => by have := fitM_get (i := 0) h3 hg; rwa [Nat.zero_add] at this, s1, rfl, s3, rfl, fun n g hg => okMm_get h5 hg, idle_of h6, okInj_inj h7⟩, h4, h2⟩
    refine ⟨a, ⟨hc, s1, s2, s3, fun β w vals hT0 hdef hSt hd => ?_⟩, hQ⟩
    refine calls_of_wp_defers hf hb ?_
    have hvl := hd.length
    have ab0 : Abs w (wrA β m0) (args0 ++ undefs (T - args0.length)).length m0.length β [] (args0 ++ undefs (T - args0.length)) m0 β { tmps := vals.toArray ++ Array.replicate (fn.ntmps - vals.toArray.size) undef, defers := [] } w := by
      refine ⟨rfl, fun n _ => rfl, hSt, ⟨?_, fun t => ?_⟩, hT0, Nat.le_refl _, rfl⟩
      · simp [undefs_length, hT, hvl]
      · rw [frGet_append]
        split
        · rename_i ht
          have hlt : t < vals.length := by omega
          have := denLS.get t hd ht
          have e : (vals.toArray ++ Array.replicate (fn.ntmps - vals.toArray.size) undef).getD t undef = vals.getD t undef := by
            simp [List.getD, Array.getElem?_append, hlt]
          rw [e]; exact this
        · rename_i ht
          rw [frGet_undefs]
          split
          · rename_i ht2
            refine ⟨[], ?_, trivial⟩
            have hnl : ¬ t < vals.length := by omega
            have hr : t - vals.length < fn.ntmps - vals.length := by rw [hT]; omega
            simp [Array.getElem?_append, hnl, hr, undef]
          · exact trivial
    refine wp_seq (ARun_sound hm hdef c0 _ _ .normal fr1 M1 β _ w _ hr1 ab0 fun β1 a1 w1 ab1 => ?_)
    refine wp_seq (hD.wp hdef ab1 fun fs cs β2 a2 w2 hfs hcs ab2 => ?_)
    have hdef2 : ∀ n, n < M1.length → β2 n ≠ none := fun n hn => by
      obtain ⟨k, hk⟩ := allSome_get hsome hn
      obtain ⟨m, hm, _⟩ := ab2.st.names n k hk
      rw [hm]; simp
    refine ARun_sound (k0 := M1.length) (β0 := β2) hm hdef2 rest _ _ e2 fr' M' β2 a2 w2 _ hr2 ⟨ab2.flen, fun n _ => rfl, ab2.st, ab2.fr, ab2.top, Nat.le_refl _, ab2.ds⟩ fun β3 a3 w3 ab3 => ?_
    have hlen1 : m0.length ≤ M1.length := ab1.len
    have hkeep : Keep m0.length β β3 := fun n hn => by rw [ab3.keep n (Nat.lt_of_lt_of_le hn hlen1), ab2.keep n hn]
    -- at the door
    have fin : ∀ β4 w4, β3.le β4 → St w (wrA β m0) β4 M2 w4 → Leaves P fn a3.tmps (fun e w' => ∃ v' β', e = Ending.returned v' ∧ Keep m0.length β β' ∧ Top β' (m a).length ∧ St w (wrA β m0) β' (m a) w' ∧ denS β' v' (v a)) [] .returning w4 := by
      intro β4 w4 hle4 hS4
      have hkeep4 : Keep m0.length β β4 := fun n hn => by
        have h1 := hkeep n hn
        have h2 := hdef n hn
        cases hb : β n with
        | none => exact absurd hb h2
        | some mm => exact hle4 n mm (by rw [h1, hb])
      obtain ⟨l', v', hl', hdv, hr4⟩ := results_sound hS4 (ab3.fr.mono hle4) hres
      subst hl'
      rw [hl] at hdv
      exact ⟨v', hr4, v', betR β4 rn (m a).length, rfl, fun n hn => by rw [betR_to (Nat.lt_of_lt_of_le hn hfit.len) (hfit.idle n hn)]; exact hkeep4 n hn, betR_top, hfit.st hS4, denS_ex hvo s2 hdv⟩
    have hfs3 : denLS β3 (fs ++ cs) (fi.map cpS ++ ca.map cpS) := by
      rw [List.all_append, Bool.and_eq_true] at hbc
      have hle : (β2.cut M1.length).le β3 := fun n m hn => by
        unfold Bet.cut at hn
        split at hn
        · rename_i hlt; rw [ab3.keep n hlt]; exact hn
        · cases hn
      exact (denLS_cpS ((hfs.cut hbc.1).mono hle)).append (denLS_cpS ((hcs.cut hbc.2).mono hle))
    have hinv : ∀ w4, (invoke (.fn (.func G) cs.toArray) fs.toArray).run P w4 = .ok (.enter G (fs ++ cs).toArray) w4 := by
      intro w4
      have := run_callFunc hDR.can (fs.toArray ++ cs.toArray) w4
      simp only [invoke]
      rw [this]
      congr 2
      simp
    cases e2 with
    | exit n => exact hM2.elim
    | normal =>
      subst hM2
      show Leaves P fn a3.tmps _ a3.defers .returning w3
      rw [ab3.ds]
      refine leaves_cons (by simp) (hinv w3) ((hDR.run β3 w3 _ hfs3).mono ?_)
      rintro e u' w' ⟨⟨x, rfl⟩, rfl, rfl⟩
      exact fin β3 _ (Bet.le_refl _) ab3.st
    | ret =>
      subst hM2
      show Leaves P fn a3.tmps _ a3.defers .returning w3
      rw [ab3.ds]
      refine leaves_cons (by simp) (hinv w3) ((hDR.run β3 w3 _ hfs3).mono ?_)
      rintro e u' w' ⟨⟨x, rfl⟩, rfl, rfl⟩
      exact fin β3 _ (Bet.le_refl _) ab3.st
    | pan x =>
      show Leaves P fn a3.tmps _ a3.defers (.panicking _) w3
      rw [ab3.ds]
      refine leaves_cons (by simp) (hinv w3) ((hM2.run w (wrA β m0) β3 w3 _ ab3.st ab3.top hfs3).mono ?_)
      rintro e u' w' ⟨⟨y, rfl⟩, rfl, β4, hle4, hS⟩
      exact fin β4 _ hle4 hS

/-- a body that defers -/
theorem FC.rd {P : Program} (hm : P.follows .mixedOrders = true) {g : FuncId} {fn : Func} (hf : P.funcs[g]? = some fn) {c0 rest : Code} {id1 : Nat} {ops1 : Array Oper} {args0 : List SV} {m0 : Mem} {α : Type} {v : α → SV} {m : α → Mem} {Q : α → Prop}
    (h : acode P true m0.length c0 (args0 ++ undefs (fn.ntmps - args0.length)) m0 fun e fr M => match e with
      | .normal => dregion P ops1 fr M fun fr' G fi ca => allSome M ∧ (fi ++ ca).all (bCp M.length) = true ∧ DR P G (fi.map cpS ++ ca.map cpS) ∧ acode P true M.length rest fr' M (postD P m0.length fn.results.toList G (fi.map cpS ++ ca.map cpS) v m Q)
      | _ => False)
    (hb : fn.body = some (.seq c0 (.seq (.region id1 ops1 false) rest)) := by exact rfl) (hc : callable P g = true := by kernel_rfl)
    (hs : ∀ a, Q a → m0.length ≤ (m a).length ∧ bS (m a).length (v a) = true ∧ bM (m a).length (m a) := by exact fun _ _ => ⟨Nat.le_of_ble_eq_true rfl, rfl, by repeat' (first | exact trivial | exact rfl | exact fun _ _ => rfl | refine ⟨?_, ?_⟩)⟩) :
    ∃ a, FC P g args0 m0 (v a) (m a) ∧ Q a := FC.of_bodyD hm hf hc hb rfl hs h
/-! ### a deferred function literal's own operations -/
section
variable {P : Program} {ops : Array Oper} {Q : Exit → Act → List Frame → World → Prop} {i : Nat} {rest : List Nat} {a : Act} {cs : List Frame} {w : World} {o : Oper}
theorem opsS_nil (h : Q .normal a cs w) : wpOpsS P ops Q [] a cs w := h
theorem opsS_val {v : Value} (ho : ops[i]? = some o) (hg : o.guard = none) (hr : (execOp a.eval o).run P w = .ok (.value v) w) (h : wpOpsS P ops Q rest (a.put o.dst v) cs w) : wpOpsS P ops Q (i :: rest) a cs w := by
  simp only [wpOpsS, ho]
  rw [if_pos (by unfold Region.wanted; rw [hg]), hr]
  exact h
theorem opsS_rec0 (ho : ops[i]? = some o) (hg : o.guard = none) (hr : (execOp a.eval o).run P w = .ok .recover w) (hn : recoverD cs = none) (h : wpOpsS P ops Q rest (a.put o.dst .nilIface) cs w) : wpOpsS P ops Q (i :: rest) a cs w := by
  simp only [wpOpsS, ho]
  rw [if_pos (by unfold Region.wanted; rw [hg]), hr]
  simp only [hn]
  exact h
theorem opsS_rec1 {v : Value} {cs' : List Frame} (ho : ops[i]? = some o) (hg : o.guard = none) (hr : (execOp a.eval o).run P w = .ok .recover w) (hn : recoverD cs = some (v, cs')) (h : wpOpsS P ops Q rest (a.put o.dst v) cs' w) : wpOpsS P ops Q (i :: rest) a cs w := by
  simp only [wpOpsS, ho]
  rw [if_pos (by unfold Region.wanted; rw [hg]), hr]
  simp only [hn]
  exact h
end

/-- a list of operations without guards, of which the first may recover -/
inductive LstS (P : Program) (Q : Exit → Act → List Frame → World → Prop) : List Oper → Act → List Frame → World → Prop where
  | nil {a cs w} (h : Q .normal a cs w) : LstS P Q [] a cs w
  | val {o rest a cs w} (v : Value) (hg : o.guard = none) (hr : (execOp a.eval o).run P w = .ok (.value v) w) (h : LstS P Q rest (a.put o.dst v) cs w) : LstS P Q (o :: rest) a cs w
  | rec0 {o rest a cs w} (hg : o.guard = none) (hr : (execOp a.eval o).run P w = .ok .recover w) (hn : recoverD cs = none) (h : LstS P Q rest (a.put o.dst .nilIface) cs w) : LstS P Q (o :: rest) a cs w
  | rec1 {o rest a cs w} {v : Value} {cs' : List Frame} (hg : o.guard = none) (hr : (execOp a.eval o).run P w = .ok .recover w) (hn : recoverD cs = some (v, cs')) (h : LstS P Q rest (a.put o.dst v) cs' w) : LstS P Q (o :: rest) a cs w
theorem LstS.ops {P : Program} {ops : Array Oper} {Q : Exit → Act → List Frame → World → Prop} : ∀ (l : List Oper) (k : Nat) (a : Act) (cs : List Frame) (w : World), (∀ i o, l[i]? = some o → ops[k + i]? = some o) → LstS P Q l a cs w → wpOpsS P ops Q (List.range' k l.length) a cs w
  | [], k, a, cs, w, _, h => by cases h with | nil h => exact h
  | o :: l, k, a, cs, w, hl, h => by
    have h0 : ops[k]? = some o := hl 0 o rfl
    have hl' : ∀ i o', l[i]? = some o' → ops[k + 1 + i]? = some o' := fun i o' hi => by
      have := hl (i + 1) o' (by simpa using hi)
      rwa [show k + (i + 1) = k + 1 + i by omega] at this
    rw [List.length_cons, List.range'_succ]
    cases h with
    | val v hg hr h => exact opsS_val h0 hg hr (LstS.ops l (k + 1) _ _ _ hl' h)
    | rec0 hg hr hn h => exact opsS_rec0 h0 hg hr hn (LstS.ops l (k + 1) _ _ _ hl' h)
    | rec1 hg hr hn h => exact opsS_rec1 h0 hg hr hn (LstS.ops l (k + 1) _ _ _ hl' h)
theorem LstS.region {P : Program} {l : List Oper} {id : Nat} {Q : Exit → Act → List Frame → World → Prop} {a : Act} {cs : List Frame} {w : World} (h : LstS P Q l a cs w) : (Code.region id l.toArray false).wpS P Q a cs w := by
  refine wpS_region ?_
  have := LstS.ops (ops := l.toArray) l 0 a cs w (fun i o hi => by simpa using hi) h
  rwa [List.range_eq_range', List.size_toArray]

/-- a list of operations, run in the abstract state -/
theorem wpList_run {P : Program} {ops : Array Oper} {l : List Oper} {fr : List SV} {M : Mem} {K : List SV → Mem → Prop} {Q : Exit → Act → World → Prop} {W : World} {A : Nat → Prop} {β : Bet} {a : Act} {w : World}
    (h : runF P ops false l fr M [] fun fr' M' _ => K fr' M') (hSt : St W A β M w) (hF : Fr β a.tmps fr) (hT : Top β M.length)
    (hQ : ∀ fr' M' β' a' w', K fr' M' → β.le β' → St W A β' M' w' → Fr β' a'.tmps fr' → Top β' M'.length → a'.defers = a.defers → Q .normal a' w') : wpList P ops Q l a w := by
  obtain ⟨rs', fr', M', ht, hk⟩ := runF_text _ _ _ _ _ h
  exact text_wp _ _ _ _ _ _ _ _ _ ht hSt hF hT fun β' a' w' h1 h2 h3 h4 h5 => hQ fr' M' β' a' w' hk h1 h2 h3 h4 h5
end Go.Sx
