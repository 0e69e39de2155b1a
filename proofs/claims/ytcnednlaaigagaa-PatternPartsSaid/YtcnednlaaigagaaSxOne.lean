/- An abstract run of the program's code, part 1. Conditions: none. -/
import Derived.WalkKit
import Derived.Laws.CopyRow
import Derived.Laws.Rows
import Derived.Laws.Cells
import Derived.Orders
import Derived.Laws.AppendOwn
import Derived.Laws.Build
import Derived.Laws.MakeOwn
import Derived.Great.BuildSlice
import Derived.Laws.BytesString
import Derived.MapKept
namespace Go.Sx

/-- what a function literal holds -/
inductive Cp where
  | v (x : Value)
  | p (n i j : Nat)

/-- one cell: a value as it is; a pointer to cell j of row i of name n; a slice of len elements from element off of name n; anything; a map -/
inductive C where
  | v (x : Value)
  | p (n i j : Nat)
  | s (n off len sz : Nat)
  | z
  | u
  | f (g : Nat) (fi ca : List Cp)
  | m (n : Nat)

inductive V1 where
  | c (x : C)
  | a (l : List C)

inductive SV where
  | o (x : V1)
  | t (l : List V1)

/-- where a name lies: block, first cell, cells of a row, cells that there are -/
structure Nm where
  b : Nat
  o : Nat
  sz : Nat
  room : Nat

abbrev Bet := Nat → Option Nm

def Bet.le (β β' : Bet) : Prop := ∀ n m, β n = some m → β' n = some m
theorem Bet.le_refl (β : Bet) : β.le β := fun _ _ h => h
theorem Bet.le_trans {a b c : Bet} (h : a.le b) (k : b.le c) : a.le c := fun n m e => k n m (h n m e)

def denCp (β : Bet) (x : Value) : Cp → Prop
  | .v y => x = y
  | .p n i j => ∃ m, β n = some m ∧ x = .pointer (some ⟨m.b, m.o + i * m.sz + j, none⟩)
def denCps (β : Bet) : List Value → List Cp → Prop
  | [], [] => True
  | x :: xs, c :: cs => denCp β x c ∧ denCps β xs cs
  | _, _ => False

def denC (β : Bet) (x : Value) : C → Prop
  | .v y => x = y
  | .p n i j => ∃ m, β n = some m ∧ x = .pointer (some ⟨m.b, m.o + i * m.sz + j, none⟩)
  | .s n off len sz => ∃ A cap m, β n = some m ∧ x = .slice A len cap ∧ m.sz = sz ∧ len ≤ cap ∧ cap ≤ maxLen ∧ (cap = 0 ∨ (A = some ⟨m.b, m.o + off * m.sz, none⟩ ∧ (off + cap) * m.sz ≤ m.room))
  | .z => ∃ A, x = .slice A 0 0
  | .u => True
  | .f g fi ca => ∃ fs cs, x = .func (.func g) fs.toArray cs.toArray ∧ denCps β fs fi ∧ denCps β cs ca
  | .m n => ∃ m, β n = some m ∧ x = .map (some m.b)

def denL (β : Bet) : List Value → List C → Prop
  | [], [] => True
  | x :: xs, c :: cs => denC β x c ∧ denL β xs cs
  | _, _ => False

def den1 (β : Bet) (x : Value) : V1 → Prop
  | .c y => denC β x y
  | .a l => ∃ vs, x = .agg vs.toArray ∧ denL β vs l

def denL1 (β : Bet) : List Value → List V1 → Prop
  | [], [] => True
  | x :: xs, c :: cs => den1 β x c ∧ denL1 β xs cs
  | _, _ => False

def denS (β : Bet) (x : Value) : SV → Prop
  | .o y => den1 β x y
  | .t l => ∃ vs, x = .tuple vs.toArray ∧ denL1 β vs l

section
variable {β β' : Bet} (hb : β.le β')
include hb
theorem denCp.mono {x : Value} : ∀ {c : Cp}, denCp β x c → denCp β' x c
  | .v _, h => h
  | .p _ _ _, ⟨m, h, e⟩ => ⟨m, hb _ _ h, e⟩
theorem denCps.mono : ∀ {xs : List Value} {l : List Cp}, denCps β xs l → denCps β' xs l
  | [], [], _ => trivial
  | _ :: _, _ :: _, ⟨h, r⟩ => ⟨denCp.mono hb h, denCps.mono r⟩
theorem denC.mono {x : Value} : ∀ {c : C}, denC β x c → denC β' x c
  | .v _, h => h
  | .p _ _ _, ⟨m, h, e⟩ => ⟨m, hb _ _ h, e⟩
  | .s _ _ _ _, ⟨A, cap, m, h, r⟩ => ⟨A, cap, m, hb _ _ h, r⟩
  | .z, h => h
  | .u, _ => trivial
  | .f _ _ _, ⟨fs, cs, e, h, k⟩ => ⟨fs, cs, e, h.mono hb, k.mono hb⟩
  | .m _, ⟨m, h, e⟩ => ⟨m, hb _ _ h, e⟩
theorem denL.mono : ∀ {xs : List Value} {l : List C}, denL β xs l → denL β' xs l
  | [], [], _ => trivial
  | _ :: _, _ :: _, ⟨h, r⟩ => ⟨h.mono hb, denL.mono r⟩
theorem den1.mono {x : Value} : ∀ {y : V1}, den1 β x y → den1 β' x y
  | .c _, h => denC.mono hb h
  | .a _, ⟨vs, e, h⟩ => ⟨vs, e, h.mono hb⟩
theorem denL1.mono : ∀ {xs : List Value} {l : List V1}, denL1 β xs l → denL1 β' xs l
  | [], [], _ => trivial
  | _ :: _, _ :: _, ⟨h, r⟩ => ⟨h.mono hb, denL1.mono r⟩
theorem denS.mono {x : Value} : ∀ {y : SV}, denS β x y → denS β' x y
  | .o _, h => den1.mono hb h
  | .t _, ⟨vs, e, h⟩ => ⟨vs, e, h.mono hb⟩
end

theorem denL.length {β : Bet} : ∀ {xs : List Value} {l : List C}, denL β xs l → xs.length = l.length
  | [], [], _ => rfl
  | _ :: _, _ :: _, ⟨_, r⟩ => congrArg (· + 1) (denL.length r)
theorem denL1.length {β : Bet} : ∀ {xs : List Value} {l : List V1}, denL1 β xs l → xs.length = l.length
  | [], [], _ => rfl
  | _ :: _, _ :: _, ⟨_, r⟩ => congrArg (· + 1) (denL1.length r)
theorem denL.get {β : Bet} : ∀ {xs : List Value} {l : List C} {i : Nat} {c : C}, denL β xs l → l[i]? = some c → ∃ x, xs[i]? = some x ∧ denC β x c
  | [], [], _, _, _, h => by simp at h
  | x :: xs, d :: l, 0, c, ⟨h, r⟩, hi => by simp at hi; subst hi; exact ⟨x, rfl, h⟩
  | x :: xs, d :: l, i + 1, c, ⟨h, r⟩, hi => by
    simp at hi; obtain ⟨y, hy, hd⟩ := denL.get r hi; exact ⟨y, by simpa using hy, hd⟩
theorem denL1.get {β : Bet} : ∀ {xs : List Value} {l : List V1} {i : Nat} {c : V1}, denL1 β xs l → l[i]? = some c → ∃ x, xs[i]? = some x ∧ den1 β x c
  | [], [], _, _, _, h => by simp at h
  | x :: xs, d :: l, 0, c, ⟨h, r⟩, hi => by simp at hi; subst hi; exact ⟨x, rfl, h⟩
  | x :: xs, d :: l, i + 1, c, ⟨h, r⟩, hi => by
    simp at hi; obtain ⟨y, hy, hd⟩ := denL1.get r hi; exact ⟨y, by simpa using hy, hd⟩
theorem denL.of_get {β : Bet} : ∀ {xs : List Value} {l : List C}, xs.length = l.length → (∀ (i : Nat) (x : Value) (c : C), xs[i]? = some x → l[i]? = some c → denC β x c) → denL β xs l
  | [], [], _, _ => trivial
  | x :: xs, c :: l, hl, h => ⟨h 0 x c rfl rfl, denL.of_get (by simpa using hl) fun i y d hy hd => h (i + 1) y d (by simpa using hy) (by simpa using hd)⟩
  | [], _ :: _, hl, _ => by simp at hl
  | _ :: _, [], hl, _ => by simp at hl
theorem denL.append {β : Bet} : ∀ {xs ys : List Value} {l m : List C}, denL β xs l → denL β ys m → denL β (xs ++ ys) (l ++ m)
  | [], _, [], _, _, h => h
  | _ :: _, _, _ :: _, _, ⟨h, r⟩, k => ⟨h, denL.append r k⟩
theorem denL.take {β : Bet} : ∀ {xs : List Value} {l : List C} (n : Nat), denL β xs l → denL β (xs.take n) (l.take n)
  | [], [], _, _ => by simp [denL]
  | _ :: _, _ :: _, 0, _ => by simp [denL]
  | _ :: _, _ :: _, n + 1, ⟨h, r⟩ => ⟨h, denL.take n r⟩
theorem denL.drop {β : Bet} : ∀ {xs : List Value} {l : List C} (n : Nat), denL β xs l → denL β (xs.drop n) (l.drop n)
  | [], [], _, _ => by simp [denL]
  | _ :: _, _ :: _, 0, h => h
  | _ :: _, _ :: _, n + 1, ⟨_, r⟩ => denL.drop n r

/-- the cells of a value that is stored -/
def V1.cells : V1 → List C
  | .c x => [x]
  | .a l => l
/-- a cell that can be stored: one cell of memory -/
def C.ok : C → Bool
  | .v x => x.oneCell'
  | .p _ _ _ => true
  | .s _ _ _ _ => true
  | .z => true
  | .u => false
  | .f _ _ _ => true
  | .m _ => true
theorem denC.ok {β : Bet} {x : Value} : ∀ {c : C}, denC β x c → c.ok = true → x.oneCell' = true
  | .v _, h, k => by simp only [denC] at h; subst h; exact k
  | .p _ _ _, ⟨m, _, e⟩, _ => by subst e; rfl
  | .s _ _ _ _, ⟨A, cap, m, _, e, _⟩, _ => by subst e; rfl
  | .z, ⟨A, e⟩, _ => by subst e; rfl
  | .u, _, k => by cases k
  | .f _ _ _, ⟨fs, cs, e, _⟩, _ => by subst e; rfl
  | .m _, ⟨m, _, e⟩, _ => by subst e; rfl
theorem denL.ok {β : Bet} : ∀ {xs : List Value} {l : List C}, denL β xs l → l.all C.ok = true → ∀ x ∈ xs, x.oneCell' = true
  | [], [], _, _, x, hx => by cases hx
  | y :: ys, c :: l, ⟨h, r⟩, k, x, hx => by
    simp only [List.all_cons, Bool.and_eq_true] at k
    cases hx with
    | head => exact h.ok k.1
    | tail _ hx => exact denL.ok r k.2 x hx
theorem cells_of_one {x : Value} (h : x.oneCell' = true) : x.cells = #[x] := by
  cases x <;> first | rfl | cases h
theorem den1.cells {β : Bet} {x : Value} : ∀ {y : V1}, den1 β x y → y.cells.all C.ok = true → denL β x.cells.toList y.cells ∧ ∀ z ∈ x.cells.toList, z.oneCell' = true
  | .c c, h, k => by
    simp only [V1.cells, List.all_cons, List.all_nil, Bool.and_true] at k
    have hx := denC.ok h k
    rw [cells_of_one hx]
    exact ⟨⟨h, trivial⟩, fun z hz => by simp at hz; subst hz; exact hx⟩
  | .a l, ⟨vs, e, h⟩, k => by
    subst e
    exact ⟨by simpa [Value.cells, V1.cells] using h, by simpa [Value.cells] using denL.ok h k⟩

/-! ### memory -/
/-- what stands in a block that is no row of cells: a map with keys that are one number, or some; a table at a global variable -/
inductive MK where
  | one
  | many
  | glob
inductive Bk where
  | box (l : List C)
  | ints (k : IntKind) (xs : List Int)
  | bools (xs : List Bool)
  | rows (sz n : Nat) (row : Nat → List C)
  | map (s : MK) (es : List (List Int × Value))
  | deep (lo : Nat) (rs : List (List Int)) (ov : Option (Nat × C))
structure Blk where
  k : Bk
  wr : Bool
abbrev Mem := List (Option Blk)
def Mem.get : Mem → Nat → Option Blk
  | [], _ => none
  | x :: _, 0 => x
  | _ :: l, n + 1 => Mem.get l n
def Mem.put : Mem → Nat → Option Blk → Mem
  | [], 0, b => [b]
  | [], n + 1, b => none :: Mem.put [] n b
  | _ :: l, 0, b => b :: l
  | x :: l, n + 1, b => x :: Mem.put l n b
theorem Mem.get_put : ∀ (M : Mem) (n : Nat) (b : Option Blk) (k : Nat), (M.put n b).get k = if k = n then b else M.get k
  | [], 0, b, 0 => rfl
  | [], 0, b, k + 1 => by simp [Mem.put, Mem.get]
  | [], n + 1, b, 0 => by simp [Mem.put, Mem.get]
  | [], n + 1, b, k + 1 => by have := Mem.get_put [] n b k; simp [Mem.put, Mem.get] at this ⊢; exact this
  | x :: l, 0, b, 0 => rfl
  | x :: l, 0, b, k + 1 => by simp [Mem.put, Mem.get]
  | x :: l, n + 1, b, 0 => by simp [Mem.put, Mem.get]
  | x :: l, n + 1, b, k + 1 => by have := Mem.get_put l n b k; simp [Mem.put, Mem.get] at this ⊢; exact this
theorem Mem.get_ge : ∀ (M : Mem) (n : Nat), M.length ≤ n → M.get n = none
  | [], _, _ => rfl
  | _ :: _, 0, h => by simp at h
  | _ :: l, n + 1, h => Mem.get_ge l n (by simpa using h)

def Bk.sz : Bk → Nat
  | .box _ => 0
  | .ints _ _ => 1
  | .bools _ => 1
  | .rows sz _ _ => sz
  | .map _ _ => 0
  | .deep _ _ _ => 0
def Bk.n : Bk → Nat
  | .box _ => 1
  | .ints _ xs => xs.length
  | .bools xs => xs.length
  | .rows _ n _ => n
  | .map _ _ => 0
  | .deep _ _ _ => 0
def Bk.row : Bk → Nat → List C
  | .box l, _ => l
  | .ints k xs, i => [.v (.int k (xs.getD i 0))]
  | .bools xs, i => [.v (.bool (xs.getD i false))]
  | .rows _ _ row, i => row i
  | .map _ _, _ => []
  | .deep _ _ _, _ => []
/-- cell j of row i -/
def Bk.at (k : Bk) (i j : Nat) : Option C := if i < k.n then (k.row i)[j]? else none
theorem Bk.at_some {k : Bk} {i j : Nat} {c : C} : k.at i j = some c ↔ i < k.n ∧ (k.row i)[j]? = some c := by
  unfold Bk.at
  by_cases h : i < k.n
  · simp [h]
  · simp [h]
def Bk.isBox : Bk → Bool
  | .box _ => true
  | .map _ _ => true
  | .deep _ _ _ => true
  | _ => false
def Bk.isMap : Bk → Bool
  | .map _ _ => true
  | .deep _ _ _ => true
  | _ => false
theorem Bk.noMap_of_box {k : Bk} (h : k.isBox = false) : k.isMap = false := by cases k <;> first | rfl | cases h
theorem Bk.noMap_of_at {k : Bk} {i j : Nat} {c : C} (h : k.at i j = some c) : k.isMap = false := by
  cases k <;> first | rfl | (simp [Bk.at, Bk.n] at h)
/-- a key of a map: one number, or some -/
def keyDen : MK → Value → List Int → Prop
  | .glob, _, _ => False
  | .one, x, l => ∃ a, l = [a] ∧ x = .int .i64 a
  | .many, x, l => x = .agg (l.map fun a => Value.int .i64 a).toArray
def mapDen (s : MK) : List MapEntry → List (List Int × Value) → Prop
  | [], [] => True
  | e :: E, p :: l => (keyDen s e.key p.1 ∧ e.val = p.2) ∧ mapDen s E l
  | _, _ => False
/-- a table at global variable g: the first entry says which one, and the kind of its numbers -/
def globDen (b o : Nat) (c : Array Value) (es : List (List Int × Value)) : Prop :=
  ∃ (g : Nat) (k : IntKind) (r : List (List Int × Value)), es = ([(g : Int)], .int k 0) :: r ∧ b = g ∧ o = 0 ∧ ∀ i, i < r.length → c[i]? = some (.int k ((r.getD i ([], .int k 0)).1.getD 0 0))
def mapAt (w : World) (m : Nm) (s : MK) (es : List (List Int × Value)) : Prop :=
  match s with
  | .glob => ∃ c T fz, w.heap[m.b]? = some (.cells c T fz) ∧ globDen m.b m.o c es
  | s => ∃ E clk, w.heap[m.b]? = some (.map E clk) ∧ mapDen s E.toList es
theorem mapAt.heap {w w' : World} {m : Nm} {s : MK} {es : List (List Int × Value)} (h : mapAt w m s es) (hw : w'.heap[m.b]? = w.heap[m.b]?) : mapAt w' m s es := by
  unfold mapAt at h ⊢
  rw [hw]
  exact h
theorem mapAt.some {w : World} {m : Nm} {s : MK} {es : List (List Int × Value)} (h : mapAt w m s es) : ∃ x, w.heap[m.b]? = some x := by
  cases s with
  | glob => obtain ⟨c, T, fz, h1, _⟩ := h; exact ⟨_, h1⟩
  | one => obtain ⟨E, clk, h1, _⟩ := h; exact ⟨_, h1⟩
  | many => obtain ⟨E, clk, h1, _⟩ := h; exact ⟨_, h1⟩
/-- how many cells it names -/
def Bk.need : Bk → Nat
  | .box l => l.length
  | .map _ _ => 1
  | .deep lo rs ov => (match ov with | none => rs.length | some (j, _) => max rs.length (j + 1))
  | k => k.n * k.sz
theorem Bk.need_deep {lo : Nat} {rs : List (List Int)} {ov : Option (Nat × C)} (h : (Bk.deep lo rs ov).need = 0) : rs = [] ∧ ov = none := by
  cases ov with
  | none => exact ⟨List.eq_nil_of_length_eq_zero h, rfl⟩
  | some p => obtain ⟨j, c⟩ := p; simp only [Bk.need] at h; omega
def Bk.fits (k : Bk) (s : Nat) : Prop := k.isBox = true ∨ (s = k.sz ∧ 0 < k.sz ∧ ∀ i, i < k.n → (k.row i).length = k.sz)

/-! ### rows that own lists -/
/-- a list that a row owns -/
def ownAt (w : World) (wr : Bool) (y : Value) (xs : List Int) : Prop :=
  ∃ A cap, y = .slice A xs.length cap ∧ xs.length ≤ cap ∧ cap ≤ maxLen ∧ (cap = 0 ∨ cap ≠ 0 ∧ ∃ b o c T fz, A = some ⟨b, o, none⟩ ∧ w.heap[b]? = some (.cells c T fz) ∧ o + cap ≤ c.size ∧ (wr = true → fz = (0, 0)) ∧ ∀ i, i < xs.length → c[o + i]? = some (.int .i64 (xs.getD i 0)))
/-- row i is its own -/
def isOwn (lo : Nat) (rs : List (List Int)) (ov : Option (Nat × C)) (i : Nat) (xs : List Int) : Prop := (lo ≤ i ∧ rs[i]? = some xs) ∧ ∀ c, ov ≠ some (i, c)
/-- block b holds the list of row i -/
def rowB (w : World) (m : Nm) (lo : Nat) (rs : List (List Int)) (ov : Option (Nat × C)) (i b : Nat) : Prop :=
  (∃ xs, isOwn lo rs ov i xs) ∧ ∃ c T fz o len cap, w.heap[m.b]? = some (.cells c T fz) ∧ c[m.o + i]? = some (.slice (some ⟨b, o, none⟩) len cap) ∧ cap ≠ 0
structure deepAt (w : World) (β : Bet) (m : Nm) (wr : Bool) (lo : Nat) (rs : List (List Int)) (ov : Option (Nat × C)) : Prop where
  sz : rs ≠ [] → m.sz = 1
  len : rs.length ≤ m.room
  lt : ∀ j c, ov = some (j, c) → j < rs.length
  there : (m.room = 0 ∧ rs = []) ∨ ∃ c T fz, w.heap[m.b]? = some (.cells c T fz) ∧ m.o + m.room ≤ c.size ∧ (wr = true → fz = (0, 0)) ∧
    (∀ i xs, isOwn lo rs ov i xs → ∃ y, c[m.o + i]? = some y ∧ ownAt w wr y xs) ∧ ∀ j x, ov = some (j, x) → ∃ y, c[m.o + j]? = some y ∧ denC β y x
  dist : ∀ i b, rowB w m lo rs ov i b → b ≠ m.b ∧ ∀ j, rowB w m lo rs ov j b → j = i
/-- the blocks that a name owns -/
def ownB (w : World) (m : Nm) (k : Bk) (b : Nat) : Prop := (m.room ≠ 0 ∧ m.b = b) ∨ ∃ lo rs ov i, k = .deep lo rs ov ∧ rowB w m lo rs ov i b
theorem ownB.plain {w : World} {m : Nm} {k : Bk} {b : Nat} (hk : k.isMap = false) (h : ownB w m k b) : m.room ≠ 0 ∧ m.b = b := by
  rcases h with h | ⟨lo, rs, ov, i, e, _⟩
  · exact h
  · rw [e] at hk; cases hk
theorem ownB.map {w : World} {m : Nm} {s : MK} {es : List (List Int × Value)} {b : Nat} (h : ownB w m (.map s es) b) : m.room ≠ 0 ∧ m.b = b := by
  rcases h with h | ⟨lo, rs, ov, i, e, _⟩
  · exact h
  · cases e
theorem deepAt.mono {w : World} {β β' : Bet} {m : Nm} {wr : Bool} {lo : Nat} {rs : List (List Int)} {ov : Option (Nat × C)} (h : deepAt w β m wr lo rs ov) (hb : β.le β') : deepAt w β' m wr lo rs ov :=
  ⟨h.sz, h.len, h.lt, h.there.imp id fun ⟨c, T, fz, h1, h2, h3, h4, h5⟩ => ⟨c, T, fz, h1, h2, h3, h4, fun j x hx => let ⟨y, hy, hd⟩ := h5 j x hx; ⟨y, hy, hd.mono hb⟩⟩, h.dist⟩
theorem rowB.nil {w : World} {m : Nm} {lo : Nat} {ov : Option (Nat × C)} {i b : Nat} (h : rowB w m lo [] ov i b) : False := by
  obtain ⟨⟨xs, ⟨_, h⟩, _⟩, _⟩ := h
  simp at h
theorem deepAt.zero (w : World) (β : Bet) (m : Nm) (wr : Bool) (lo : Nat) (h : m.room = 0) : deepAt w β m wr lo [] none :=
  ⟨fun h => absurd rfl h, Nat.zero_le _, fun _ _ e => (by cases e), .inl ⟨h, rfl⟩, fun i b h => h.nil.elim⟩
theorem rowB.heap {w w' : World} {m : Nm} {lo : Nat} {rs : List (List Int)} {ov : Option (Nat × C)} (h : w'.heap[m.b]? = w.heap[m.b]?) {i b : Nat} : rowB w' m lo rs ov i b ↔ rowB w m lo rs ov i b := by
  unfold rowB
  rw [h]
theorem ownAt.heap {w w' : World} {wr : Bool} {y : Value} {xs : List Int} (h : ownAt w wr y xs) (hw : ∀ b o len cap, y = .slice (some ⟨b, o, none⟩) len cap → cap ≠ 0 → w'.heap[b]? = w.heap[b]?) : ownAt w' wr y xs := by
  obtain ⟨A, cap, e1, e2, e3, e4⟩ := h
  refine ⟨A, cap, e1, e2, e3, e4.imp id fun ⟨hc, b, o, c', T', fz', f1, f2, f3⟩ => ⟨hc, b, o, c', T', fz', f1, ?_, f3⟩⟩
  rw [hw b o _ cap (by rw [e1, f1]) hc]
  exact f2
theorem deepAt.heap {w w' : World} {β : Bet} {m : Nm} {wr : Bool} {lo : Nat} {rs : List (List Int)} {ov : Option (Nat × C)} (h : deepAt w β m wr lo rs ov) (hw : ∀ b, ownB w m (.deep lo rs ov) b → w'.heap[b]? = w.heap[b]?) : deepAt w' β m wr lo rs ov := by
  by_cases hr : m.room = 0
  · have hz : rs = [] := List.eq_nil_of_length_eq_zero (by have := h.len; omega)
    subst hz
    exact ⟨h.sz, h.len, h.lt, .inl ⟨hr, rfl⟩, fun i b h => h.nil.elim⟩
  · rcases h.there with ⟨h0, _⟩ | ⟨c, T, fz, h1, h2, h3, h4, h5⟩
    · exact absurd h0 hr
    · have hm := hw m.b (.inl ⟨hr, rfl⟩)
      refine ⟨h.sz, h.len, h.lt, .inr ⟨c, T, fz, by rw [hm]; exact h1, h2, h3, fun i xs hx => ?_, h5⟩, fun i b hb => ?_⟩
      · obtain ⟨y, hy, ho⟩ := h4 i xs hx
        exact ⟨y, hy, ho.heap fun b o len cap e hc => hw b (.inr ⟨lo, rs, ov, i, rfl, ⟨xs, hx⟩, c, T, fz, o, len, cap, h1, by rw [hy, e], hc⟩)⟩
      · have h' := h.dist i b ((rowB.heap hm).1 hb)
        exact ⟨h'.1, fun j hj => h'.2 j ((rowB.heap hm).1 hj)⟩

structure holds (w : World) (β : Bet) (m : Nm) (k : Blk) : Prop where
  fits : k.k.fits m.sz
  need : k.k.need ≤ m.room
  there : k.k.isMap = false → m.room = 0 ∨ ∃ c T fz, w.heap[m.b]? = some (.cells c T fz) ∧ m.o + m.room ≤ c.size ∧ (k.wr = true → fz = (0, 0)) ∧
    ∀ i j x, k.k.at i j = some x → ∃ y, c[m.o + i * m.sz + j]? = some y ∧ denC β y x
  mth : ∀ s es, k.k = .map s es → mapAt w m s es
  dth : ∀ lo rs ov, k.k = .deep lo rs ov → deepAt w β m k.wr lo rs ov

theorem holds.mono {w : World} {β β' : Bet} {m : Nm} {k : Blk} (h : holds w β m k) (hb : β.le β') : holds w β' m k :=
  ⟨h.fits, h.need, fun hk => (h.there hk).imp id fun ⟨c, T, fz, h1, h2, h3, h4⟩ => ⟨c, T, fz, h1, h2, h3, fun i j x hx => let ⟨y, hy, hd⟩ := h4 i j x hx; ⟨y, hy, hd.mono hb⟩⟩, h.mth, fun lo rs ov e => (h.dth lo rs ov e).mono hb⟩
theorem holds.heap {w w' : World} {β : Bet} {m : Nm} {k : Blk} (h : holds w β m k) (hw : ∀ b, ownB w m k.k b → w'.heap[b]? = w.heap[b]?) : holds w' β m k := by
  have hw0 : m.room = 0 ∨ w'.heap[m.b]? = w.heap[m.b]? := by
    by_cases h0 : m.room = 0
    · exact .inl h0
    · exact .inr (hw _ (.inl ⟨h0, rfl⟩))
  refine ⟨h.fits, h.need, fun hk => ?_, fun s es he => ?_, fun lo rs ov he => ?_⟩
  · rcases hw0 with hw | hw
    · exact .inl hw
    · exact (h.there hk).imp id fun ⟨c, T, fz, h1, h2⟩ => ⟨c, T, fz, by rw [hw]; exact h1, h2⟩
  · rcases hw0 with hw | hw
    · have := h.need
      rw [he] at this
      simp only [Bk.need] at this
      omega
    · exact (h.mth s es he).heap hw
  · refine (h.dth lo rs ov he).heap ?_
    rw [← he]
    exact hw
theorem ownB.heap {w w' : World} {β : Bet} {m : Nm} {k : Blk} (h : holds w β m k) (hw : ∀ b, ownB w m k.k b → w'.heap[b]? = w.heap[b]?) {b : Nat} : ownB w' m k.k b ↔ ownB w m k.k b := by
  unfold ownB
  refine or_congr Iff.rfl ⟨fun ⟨lo, rs, ov, i, e, hb⟩ => ⟨lo, rs, ov, i, e, ?_⟩, fun ⟨lo, rs, ov, i, e, hb⟩ => ⟨lo, rs, ov, i, e, ?_⟩⟩
  all_goals
    have hd := h.dth lo rs ov e
    have hr : m.room ≠ 0 := by
      obtain ⟨⟨xs, ⟨_, hx⟩, _⟩, _⟩ := hb
      have := (List.getElem?_eq_some_iff.1 hx).1
      have := hd.len
      omega
    have hm := hw m.b (.inl ⟨hr, rfl⟩)
    first | exact (rowB.heap hm).1 hb | exact (rowB.heap hm).2 hb
theorem ownB.lt {w : World} {β : Bet} {m : Nm} {k : Blk} (h : holds w β m k) {b : Nat} (hb : ownB w m k.k b) : b < w.heap.size := by
  have some_lt : ∀ {q : Nat} {o : Obj}, w.heap[q]? = some o → q < w.heap.size := fun h => (Array.getElem?_eq_some_iff.1 h).1
  rcases hb with ⟨hr, rfl⟩ | ⟨lo, rs, ov, i, e, ⟨xs, hx⟩, c, T, fz, o, len, cap, h1, h2, hc⟩
  · cases hk : k.k.isMap with
    | false =>
      rcases h.there hk with h0 | ⟨c, T, fz, h1, _⟩
      · exact absurd h0 hr
      · exact some_lt h1
    | true =>
      cases hkk : k.k with
      | map s es => obtain ⟨x, h1⟩ := (h.mth s es hkk).some; exact some_lt h1
      | deep lo rs ov =>
        rcases (h.dth lo rs ov hkk).there with ⟨h0, _⟩ | ⟨c, T, fz, h1, _⟩
        · exact absurd h0 hr
        · exact some_lt h1
      | _ => rw [hkk] at hk; cases hk
  · rcases (h.dth lo rs ov e).there with ⟨_, h0⟩ | ⟨c', T', fz', g1, _, _, g4, _⟩
    · subst h0
      obtain ⟨⟨_, hx⟩, _⟩ := hx
      simp at hx
    · rw [h1] at g1
      cases g1
      obtain ⟨y, hy, A, cap', e1, _, _, e4⟩ := g4 i xs hx
      rw [h2] at hy
      cases hy
      cases e1
      rcases e4 with e4 | ⟨_, b', o', c', T', fz', f1, f2, _⟩
      · exact absurd e4 hc
      · cases f1
        exact some_lt f2
theorem holds.lt {w : World} {β : Bet} {m : Nm} {k : Blk} (h : holds w β m k) (hr : m.room ≠ 0) : m.b < w.heap.size := ownB.lt h (.inl ⟨hr, rfl⟩)

/-- THE STATE: W the world at the start, A the old blocks that may be written -/
structure St (W : World) (A : Nat → Prop) (β : Bet) (M : Mem) (w : World) : Prop where
  os : w.os = W.os
  tape : w.tape = W.tape
  output : w.output = W.output
  size : W.heap.size ≤ w.heap.size
  frame : ∀ k, k < W.heap.size → ¬ A k → w.heap[k]? = W.heap[k]?
  names : ∀ n k, M.get n = some k → ∃ m, β n = some m ∧ holds w β m k
  sep : ∀ n n' k k' m m', n ≠ n' → M.get n = some k → M.get n' = some k' → k.wr = true → β n = some m → β n' = some m' → ∀ b, ownB w m k.k b → ¬ ownB w m' k'.k b
  perm : ∀ n k m, M.get n = some k → k.wr = true → β n = some m → ∀ b, ownB w m k.k b → A b ∨ W.heap.size ≤ b

/-- A STATE FROM ANOTHER: N are the names that are new or otherwise -/
theorem St.change {W : World} {A : Nat → Prop} {β β' : Bet} {M M' : Mem} {w w' : World} (h : St W A β M w) (hos : w'.os = w.os) (htp : w'.tape = w.tape) (hout : w'.output = w.output) (hsz : w.heap.size ≤ w'.heap.size) (hle : β.le β') (N : Nat → Prop)
    (hold : ∀ q kq, M'.get q = some kq → ¬ N q → M.get q = some kq)
    (hnew : ∀ q kq, M'.get q = some kq → N q → ∃ m, β' q = some m ∧ holds w' β' m kq)
    (hD : ∀ b, b < w.heap.size → w'.heap[b]? = w.heap[b]? ∨ ∃ n k m, M.get n = some k ∧ k.wr = true ∧ β n = some m ∧ ownB w m k.k b ∧ (N n ∨ M'.get n = none))
    (hsrc : ∀ q kq m b, M'.get q = some kq → N q → β' q = some m → ownB w' m kq.k b → w.heap.size ≤ b ∨ ∃ n k mm, M.get n = some k ∧ β n = some mm ∧ ownB w mm k.k b ∧ ((N n ∨ M'.get n = none) ∧ (kq.wr = true → k.wr = true) ∨ kq.wr = false ∧ k.wr = false))
    (hdis : ∀ q q' kq kq' m m', q ≠ q' → N q → N q' → M'.get q = some kq → M'.get q' = some kq' → kq.wr = true → β' q = some m → β' q' = some m' → ∀ b, ownB w' m kq.k b → ¬ ownB w' m' kq'.k b) : St W A β' M' w' := by
  have hsame : ∀ q kq m, M'.get q = some kq → ¬ N q → β q = some m → ∀ b, ownB w m kq.k b → w'.heap[b]? = w.heap[b]? := by
    intro q kq m hq hN hm b hb
    have hqM := hold q kq hq hN
    obtain ⟨m', hm', hh⟩ := h.names q kq hqM
    rw [hm] at hm'; cases hm'
    rcases hD b (ownB.lt hh hb) with h1 | ⟨n, k, mm, h1, h2, h3, h4, h5⟩
    · exact h1
    · have hne : n ≠ q := fun e => by
        subst e
        rcases h5 with h5 | h5
        · exact hN h5
        · rw [hq] at h5; cases h5
      exact absurd hb (h.sep n q k kq mm m hne h1 hqM h2 h3 hm b h4)
  have hβ : ∀ q kq, M'.get q = some kq → ¬ N q → ∃ m, β q = some m ∧ β' q = some m ∧ holds w β m kq := by
    intro q kq hq hN
    obtain ⟨m, hm, hh⟩ := h.names q kq (hold q kq hq hN)
    exact ⟨m, hm, hle q m hm, hh⟩
  have hback : ∀ q kq m, M'.get q = some kq → ¬ N q → β' q = some m → β q = some m ∧ ∀ b, ownB w' m kq.k b → ownB w m kq.k b := by
    intro q kq m hq hN hm
    obtain ⟨m', h1, h2, hh⟩ := hβ q kq hq hN
    rw [hm] at h2; cases h2
    exact ⟨h1, fun b hb => (ownB.heap hh (hsame q kq m hq hN h1)).1 hb⟩
  -- a new name and an old one
  have hcross : ∀ q q' kq kq' m m', q ≠ q' → N q → ¬ N q' → M'.get q = some kq → M'.get q' = some kq' → (kq.wr = true ∨ kq'.wr = true) → β' q = some m → β' q' = some m' → ∀ b, ownB w' m kq.k b → ¬ ownB w' m' kq'.k b := by
    intro q q' kq kq' m m' hne hN hN' hq hq' hw hm hm' b hb hb'
    obtain ⟨hm2, hown⟩ := hback q' kq' m' hq' hN' hm'
    have hb2 := hown b hb'
    have hqM := hold q' kq' hq' hN'
    obtain ⟨m3, hm3, hh⟩ := h.names q' kq' hqM
    rw [hm2] at hm3; cases hm3
    have hlt := ownB.lt hh hb2
    rcases hsrc q kq m b hq hN hm hb with h1 | ⟨n, k, mm, h1, h2, h3, h4⟩
    · omega
    · rcases h4 with ⟨h4, h5⟩ | ⟨h4, h5⟩
      · have hne' : n ≠ q' := fun e => by
          subst e
          rcases h4 with h4 | h4
          · exact hN' h4
          · rw [hq'] at h4; cases h4
        rcases hw with hw | hw
        · exact h.sep n q' k kq' mm m' hne' h1 hqM (h5 hw) h2 hm2 b h3 hb2
        · exact h.sep q' n kq' k m' mm (Ne.symm hne') hqM h1 hw hm2 h2 b hb2 h3
      · rcases hw with hw | hw
        · rw [h4] at hw; cases hw
        · have hne' : n ≠ q' := fun e => by
            subst e
            rw [hqM] at h1
            cases h1
            rw [hw] at h5; cases h5
          exact h.sep q' n kq' k m' mm (Ne.symm hne') hqM h1 hw hm2 h2 b hb2 h3
  refine ⟨hos.trans h.os, htp.trans h.tape, hout.trans h.output, Nat.le_trans h.size hsz, fun k hk hA => ?_, fun q kq hq => ?_, fun q q' kq kq' m m' hne hq hq' hw hm hm' b hb hb' => ?_, fun q kq m hq hw hm b hb => ?_⟩
  · rcases hD k (Nat.lt_of_lt_of_le hk h.size) with h1 | ⟨n, kn, mm, h1, h2, h3, h4, _⟩
    · rw [h1]; exact h.frame k hk hA
    · rcases h.perm n kn mm h1 h2 h3 k h4 with h5 | h5
      · exact absurd h5 hA
      · omega
  · by_cases hN : N q
    · exact hnew q kq hq hN
    · obtain ⟨m, h1, h2, hh⟩ := hβ q kq hq hN
      exact ⟨m, h2, (hh.heap (hsame q kq m hq hN h1)).mono hle⟩
  · by_cases hN : N q
    · by_cases hN' : N q'
      · exact hdis q q' kq kq' m m' hne hN hN' hq hq' hw hm hm' b hb hb'
      · exact hcross q q' kq kq' m m' hne hN hN' hq hq' (.inl hw) hm hm' b hb hb'
    · by_cases hN' : N q'
      · exact hcross q' q kq' kq m' m (Ne.symm hne) hN' hN hq' hq (.inr hw) hm' hm b hb' hb
      · obtain ⟨h1, h2⟩ := hback q kq m hq hN hm
        obtain ⟨h3, h4⟩ := hback q' kq' m' hq' hN' hm'
        exact h.sep q q' kq kq' m m' hne (hold q kq hq hN) (hold q' kq' hq' hN') hw h1 h3 b (h2 b hb) (h4 b hb')
  · by_cases hN : N q
    · rcases hsrc q kq m b hq hN hm hb with h1 | ⟨n, k, mm, h1, h2, h3, h4⟩
      · exact .inr (Nat.le_trans h.size h1)
      · rcases h4 with ⟨_, h5⟩ | ⟨h4, _⟩
        · exact h.perm n k mm h1 (h5 hw) h2 b h3
        · rw [hw] at h4; cases h4
    · obtain ⟨h1, h2⟩ := hback q kq m hq hN hm
      exact h.perm q kq m (hold q kq hq hN) hw h1 b (h2 b hb)

theorem St.drew {W : World} {A : Nat → Prop} {β : Bet} {M : Mem} {w : World} (h : St W A β M w) : St W A β M { w with drawn := w.drawn + 1 } :=
  h.change rfl rfl rfl (Nat.le_refl _) (Bet.le_refl β) (fun _ => False) (fun _ _ h _ => h) (fun _ _ _ h => h.elim) (fun _ _ => .inl rfl) (fun _ _ _ _ _ h => h.elim) (fun _ _ _ _ _ _ _ h => h.elim)

/-! ### frames -/
def frGet : List SV → Nat → SV
  | [], _ => .o (.c .u)
  | x :: _, 0 => x
  | _ :: l, n + 1 => frGet l n
def frSet : List SV → Nat → SV → List SV
  | [], _, _ => []
  | _ :: l, 0, x => x :: l
  | y :: l, n + 1, x => y :: frSet l n x
theorem frSet_length : ∀ (l : List SV) (n : Nat) (x : SV), (frSet l n x).length = l.length
  | [], _, _ => rfl
  | _ :: _, 0, _ => rfl
  | _ :: l, n + 1, x => congrArg (· + 1) (frSet_length l n x)
theorem frGet_set : ∀ (l : List SV) (n : Nat) (x : SV) (k : Nat), frGet (frSet l n x) k = if k = n ∧ k < l.length then x else frGet l k
  | [], _, _, k => by simp [frSet, frGet]
  | y :: l, 0, x, 0 => by simp [frSet, frGet]
  | y :: l, 0, x, k + 1 => by simp [frSet, frGet]
  | y :: l, n + 1, x, 0 => by simp [frSet, frGet]
  | y :: l, n + 1, x, k + 1 => by have := frGet_set l n x k; simp [frSet, frGet, this]
def frPut (l : List SV) : Option Nat → SV → List SV
  | none, _ => l
  | some d, x => frSet l d x

structure Fr (β : Bet) (tmps : Array Value) (fr : List SV) : Prop where
  len : tmps.size = fr.length
  den : ∀ t, denS β (tmps.getD t undef) (frGet fr t)

theorem Fr.mono {β β' : Bet} {tmps : Array Value} {fr : List SV} (h : Fr β tmps fr) (hb : β.le β') : Fr β' tmps fr := ⟨h.len, fun t => (h.den t).mono hb⟩
theorem Fr.put {β : Bet} {a : Act} {fr : List SV} (h : Fr β a.tmps fr) (d : Option Nat) {v : Value} {x : SV} (hv : denS β v x) : Fr β (a.put d v).tmps (frPut fr d x) := by
  cases d with
  | none => exact h
  | some d =>
    refine ⟨by simp [Act.put, frPut, frSet_length, h.len], fun t => ?_⟩
    simp only [Act.put, frPut, frGet_set]
    by_cases ht : t = d ∧ t < fr.length
    · rw [if_pos ht]
      obtain ⟨rfl, hl⟩ := ht
      have : t < a.tmps.size := by rw [h.len]; exact hl
      simp [Array.getD, this]; exact hv
    · rw [if_neg ht]
      have hh := h.den t
      by_cases htd : t = d
      · subst htd
        have hl : ¬ t < a.tmps.size := by rw [h.len]; exact fun hl => ht ⟨rfl, hl⟩
        simp [Array.getD, hl] at hh ⊢; exact hh
      · have : (a.tmps.setIfInBounds d v).getD t undef = a.tmps.getD t undef := by
          simp [Array.getElem?_setIfInBounds_ne (Ne.symm htd)]
        rw [this]; exact hh

/-- the abstract value of an operand -/
def cst : Value → SV
  | .agg cs => .o (.a (cs.toList.map .v))
  | v => .o (.c (.v v))
def evO (fr : List SV) : Operand → SV
  | .tmp t => frGet fr t
  | .const v => cst v
  | .global g => .o (.c (.v (.pointer (some ⟨g, 0, none⟩))))
  | .func f => .o (.c (.v (.func (.func f) #[] #[])))
theorem denL_self {β : Bet} : ∀ (xs : List Value), denL β xs (xs.map .v)
  | [] => trivial
  | _ :: xs => ⟨rfl, denL_self xs⟩
theorem den_cst {β : Bet} (v : Value) : denS β v (cst v) := by
  cases v <;> first | rfl | (rename_i cs; exact ⟨cs.toList, by simp, denL_self _⟩)
theorem Fr.ev {β : Bet} {a : Act} {fr : List SV} (h : Fr β a.tmps fr) : ∀ x : Operand, denS β (a.eval x) (evO fr x)
  | .tmp t => h.den t
  | .const v => den_cst v
  | .global _ => rfl
  | .func _ => rfl
/-! ### forcing: the state written out between regions -/
def forceN (n : Nat) (K : Nat → Prop) : Prop := if Nat.blt n 64 then (if Nat.blt n 32 then (if Nat.blt n 16 then (if Nat.blt n 8 then (if Nat.blt n 4 then (if Nat.blt n 2 then (if Nat.blt n 1 then K 0 else K 1) else (if Nat.blt n 3 then K 2 else K 3)) else (if Nat.blt n 6 then (if Nat.blt n 5 then K 4 else K 5) else (if Nat.blt n 7 then K 6 else K 7))) else (if Nat.blt n 12 then (if Nat.blt n 10 then (if Nat.blt n 9 then K 8 else K 9) else (if Nat.blt n 11 then K 10 else K 11)) else (if Nat.blt n 14 then (if Nat.blt n 13 then K 12 else K 13) else (if Nat.blt n 15 then K 14 else K 15)))) else (if Nat.blt n 24 then (if Nat.blt n 20 then (if Nat.blt n 18 then (if Nat.blt n 17 then K 16 else K 17) else (if Nat.blt n 19 then K 18 else K 19)) else (if Nat.blt n 22 then (if Nat.blt n 21 then K 20 else K 21) else (if Nat.blt n 23 then K 22 else K 23))) else (if Nat.blt n 28 then (if Nat.blt n 26 then (if Nat.blt n 25 then K 24 else K 25) else (if Nat.blt n 27 then K 26 else K 27)) else (if Nat.blt n 30 then (if Nat.blt n 29 then K 28 else K 29) else (if Nat.blt n 31 then K 30 else K 31))))) else (if Nat.blt n 48 then (if Nat.blt n 40 then (if Nat.blt n 36 then (if Nat.blt n 34 then (if Nat.blt n 33 then K 32 else K 33) else (if Nat.blt n 35 then K 34 else K 35)) else (if Nat.blt n 38 then (if Nat.blt n 37 then K 36 else K 37) else (if Nat.blt n 39 then K 38 else K 39))) else (if Nat.blt n 44 then (if Nat.blt n 42 then (if Nat.blt n 41 then K 40 else K 41) else (if Nat.blt n 43 then K 42 else K 43)) else (if Nat.blt n 46 then (if Nat.blt n 45 then K 44 else K 45) else (if Nat.blt n 47 then K 46 else K 47)))) else (if Nat.blt n 56 then (if Nat.blt n 52 then (if Nat.blt n 50 then (if Nat.blt n 49 then K 48 else K 49) else (if Nat.blt n 51 then K 50 else K 51)) else (if Nat.blt n 54 then (if Nat.blt n 53 then K 52 else K 53) else (if Nat.blt n 55 then K 54 else K 55))) else (if Nat.blt n 60 then (if Nat.blt n 58 then (if Nat.blt n 57 then K 56 else K 57) else (if Nat.blt n 59 then K 58 else K 59)) else (if Nat.blt n 62 then (if Nat.blt n 61 then K 60 else K 61) else (if Nat.blt n 63 then K 62 else K 63)))))) else K n
theorem forceN_eq (n : Nat) (K : Nat → Prop) : forceN n K = K n := by
  rcases Nat.lt_or_ge n 64 with h | h
  · have : ∀ m, m < 64 → forceN m K = K m := by
      intro m hm
      iterate 64 (rcases m with _ | m; · rfl)
      omega
    exact this n h
  · have : Nat.blt n 64 = false := by
      cases hb : Nat.blt n 64 with
      | false => rfl
      | true => rw [Nat.blt_eq] at hb; omega
    simp [forceN, this]
def forceV (v : Value) (K : Value → Prop) : Prop :=
  match v with
  | .int k n => K (.int k n)
  | .bool b => K (.bool b)
  | .string s => K (.string s)
  | .slice a n c => K (.slice a n c)
  | .pointer a => K (.pointer a)
  | v => K v
theorem forceV_eq (v : Value) (K : Value → Prop) : forceV v K = K v := by cases v <;> rfl
noncomputable def forceCp (c : Cp) (K : Cp → Prop) : Prop :=
  match c with
  | .v v => forceV v fun v => K (.v v)
  | .p n i j => forceN n fun n => K (.p n i j)
theorem forceCp_eq (c : Cp) (K : Cp → Prop) : forceCp c K = K c := by cases c <;> simp [forceCp, forceV_eq, forceN_eq]
noncomputable def forceCps (l : List Cp) : (List Cp → Prop) → Prop :=
  List.rec (motive := fun _ => (List Cp → Prop) → Prop) (fun K => K []) (fun c _ ih K => forceCp c fun c => ih fun l => K (c :: l)) l
theorem forceCps_cons (c : Cp) (l : List Cp) (K : List Cp → Prop) : forceCps (c :: l) K = forceCp c fun c => forceCps l fun l => K (c :: l) := rfl
theorem forceCps_eq : ∀ (l : List Cp) (K : List Cp → Prop), forceCps l K = K l
  | [], _ => rfl
  | c :: l, K => by rw [forceCps_cons, forceCp_eq, forceCps_eq l]
noncomputable def forceC (c : C) (K : C → Prop) : Prop :=
  match c with
  | .v v => forceV v fun v => K (.v v)
  | .p n i j => forceN n fun n => K (.p n i j)
  | .s n off len sz => forceN n fun n => K (.s n off len sz)
  | .z => K .z
  | .u => K .u
  | .f g fi ca => forceCps fi fun fi => forceCps ca fun ca => K (.f g fi ca)
  | .m n => forceN n fun n => K (.m n)
theorem forceC_eq (c : C) (K : C → Prop) : forceC c K = K c := by cases c <;> simp [forceC, forceV_eq, forceN_eq, forceCps_eq]
noncomputable def forceL (l : List C) : (List C → Prop) → Prop :=
  List.rec (motive := fun _ => (List C → Prop) → Prop) (fun K => K []) (fun c _ ih K => forceC c fun c => ih fun l => K (c :: l)) l
theorem forceL_cons (c : C) (l : List C) (K : List C → Prop) : forceL (c :: l) K = forceC c fun c => forceL l fun l => K (c :: l) := rfl
theorem forceL_eq : ∀ (l : List C) (K : List C → Prop), forceL l K = K l
  | [], _ => rfl
  | c :: l, K => by rw [forceL_cons, forceC_eq, forceL_eq l]
noncomputable def force1 (y : V1) (K : V1 → Prop) : Prop :=
  match y with
  | .c c => forceC c fun c => K (.c c)
  | .a l => forceL l fun l => K (.a l)
theorem force1_eq (y : V1) (K : V1 → Prop) : force1 y K = K y := by cases y <;> simp [force1, forceC_eq, forceL_eq]
noncomputable def forceL1 (l : List V1) : (List V1 → Prop) → Prop :=
  List.rec (motive := fun _ => (List V1 → Prop) → Prop) (fun K => K []) (fun c _ ih K => force1 c fun c => ih fun l => K (c :: l)) l
theorem forceL1_cons (c : V1) (l : List V1) (K : List V1 → Prop) : forceL1 (c :: l) K = force1 c fun c => forceL1 l fun l => K (c :: l) := rfl
theorem forceL1_eq : ∀ (l : List V1) (K : List V1 → Prop), forceL1 l K = K l
  | [], _ => rfl
  | c :: l, K => by rw [forceL1_cons, force1_eq, forceL1_eq l]
noncomputable def forceS (y : SV) (K : SV → Prop) : Prop :=
  match y with
  | .o c => force1 c fun c => K (.o c)
  | .t l => forceL1 l fun l => K (.t l)
theorem forceS_eq (y : SV) (K : SV → Prop) : forceS y K = K y := by cases y <;> simp [forceS, force1_eq, forceL1_eq]
noncomputable def forceF (l : List SV) : (List SV → Prop) → Prop :=
  List.rec (motive := fun _ => (List SV → Prop) → Prop) (fun K => K []) (fun c _ ih K => forceS c fun c => ih fun l => K (c :: l)) l
theorem forceF_cons (c : SV) (l : List SV) (K : List SV → Prop) : forceF (c :: l) K = forceS c fun c => forceF l fun l => K (c :: l) := rfl
theorem forceF_eq : ∀ (l : List SV) (K : List SV → Prop), forceF l K = K l
  | [], _ => rfl
  | c :: l, K => by rw [forceF_cons, forceS_eq, forceF_eq l]
noncomputable def forceB (k : Bk) (K : Bk → Prop) : Prop :=
  match k with
  | .box l => forceL l fun l => K (.box l)
  | .ints k xs => K (.ints k xs)
  | .bools xs => K (.bools xs)
  | .rows sz n row => K (.rows sz n row)
  | .map s es => K (.map s es)
  | .deep lo rs ov => (match ov with
    | none => K (.deep lo rs none)
    | some (j, c) => forceC c fun c => K (.deep lo rs (some (j, c))))
theorem forceB_eq (k : Bk) (K : Bk → Prop) : forceB k K = K k := by
  cases k with
  | deep lo rs ov => cases ov with
    | none => rfl
    | some p => obtain ⟨j, c⟩ := p; simp [forceB, forceC_eq]
  | _ => simp [forceB, forceL_eq]
end Go.Sx
namespace Go.Sx

abbrev Ups := List (Nat × Option Blk)
def Mem.app (M : Mem) : Ups → Mem
  | [] => M
  | (n, b) :: r => Mem.app (M.put n b) r
def Ups.has : Ups → Nat → Bool
  | [], _ => false
  | (n, _) :: r, k => (n == k) || Ups.has r k

def bsel (b : Bool) (t f : Prop) : Prop := match b with | true => t | false => f
theorem bsel_intro {b : Bool} {t f : Prop} (ht : b = true → t) (hf : b = false → f) : bsel b t f := by cases b; exact hf rfl; exact ht rfl

def isAggT (P : Program) (t : TypeId) : Bool := match P.underlying t with | some (.struct _) => true | some (.array _ _) => true | _ => false
def szT (P : Program) (t : TypeId) : Nat := match P.info? t with | some i => i.size | none => 0
def okT (P : Program) (t : TypeId) : Bool := match P.info? t, P.underlying t with | some _, some _ => true | _, _ => false

/-- WHAT AN OPERATION DOES, seen from whatever world -/
def SemOp (P : Program) (o : Oper) (fr : List SV) (rd : Mem) (v : SV) (ups : Ups) : Prop :=
  ∀ (W : World) (A : Nat → Prop) (β : Bet) (M : Mem) (w : World) (a : Act) (next : Act → World → Prop) (Q : Exit → Act → World → Prop),
    St W A β M w → (∀ x ∈ o.op.operands, denS β (a.eval x) (evO fr x)) → (∀ n k, rd.get n = some k → M.get n = some k) →
    (∀ n, ups.has n = true → rd.get n = none → β n = none ∧ M.get n = none) →
    (∀ v' w' β', β.le β' → (∀ n, β n = none → β' n ≠ none → ups.has n = true) → St W A β' (M.app ups) w' → denS β' v' v → next (a.put o.dst v') w') →
    o.wp P a w next Q

theorem wp_value {P : Program} {o : Oper} {a : Act} {w w' : World} {v : Value} {next : Act → World → Prop} {Q : Exit → Act → World → Prop}
    (h : (execOp a.eval o).run P w = .ok (.value v) w') (hn : next (a.put o.dst v) w') : o.wp P a w next Q := by
  unfold Oper.wp; rw [h]; exact hn
theorem wp_skip' {P : Program} {o : Oper} {a : Act} {w w' : World} {next : Act → World → Prop} {Q : Exit → Act → World → Prop}
    (h : (execOp a.eval o).run P w = .ok .skip w') (hn : next (a.put o.dst undef) w') : o.wp P a w next Q := by
  unfold Oper.wp; rw [h]; exact hn

theorem SemOp.pure {P : Program} {o : Oper} {fr : List SV} {rd : Mem} {v : SV}
    (h : ∀ (β : Bet) (a : Act), (∀ x ∈ o.op.operands, denS β (a.eval x) (evO fr x)) → ∃ v', (∀ w, (execOp a.eval o).run P w = .ok (.value v') w) ∧ denS β v' v) :
    SemOp P o fr rd v [] := by
  intro W A β M w a next Q hSt hop _ _ hn
  obtain ⟨v', hr, hd⟩ := h β a hop
  exact wp_value (hr w) (hn v' w β (Bet.le_refl β) (fun n h1 h2 => absurd h1 h2) hSt hd)

/-! ### the steps -/
abbrev Kt := SV → Ups → Prop

def int (k : IntKind) (n : Int) : SV := .o (.c (.v (.int k n)))
def boo (b : Bool) : SV := .o (.c (.v (.bool b)))
def vv (v : Value) : SV := .o (.c (.v v))

def evPick (c a b : SV) (K : Kt) : Prop :=
  match c with
  | .o (.c (.v (.bool t))) => bsel t (K a []) (K b [])
  | _ => False

def bitI (op : BinOp) (k : IntKind) (x y : Int) : Int :=
  let a := BitVec.ofInt k.bits x
  let b := BitVec.ofInt k.bits y
  match op with
  | .and => k.wrap (a &&& b).toNat
  | .or => k.wrap (a ||| b).toNat
  | .xor => k.wrap (a ^^^ b).toNat
  | _ => k.wrap (a &&& ~~~b).toNat

def binInt (op : BinOp) (k : IntKind) (x : Int) (k' : IntKind) (y : Int) (K : Value → Prop) : Prop :=
  match op with
  | .shl => 0 ≤ y ∧ K (.int k (k.wrap (x * 2 ^ min y.toNat k.bits)))
  | .shr => 0 ≤ y ∧ K (.int k (x.fdiv (2 ^ min y.toNat k.bits)))
  | op => if k = k' then (match op with
    | .add => K (.int k (k.wrap (x + y)))
    | .sub => K (.int k (k.wrap (x - y)))
    | .mul => K (.int k (k.wrap (x * y)))
    | .quo => y ≠ 0 ∧ K (.int k (k.wrap (x.tdiv y)))
    | .rem => y ≠ 0 ∧ K (.int k (x.tmod y))
    | .and => K (.int k (bitI .and k x y))
    | .or => K (.int k (bitI .or k x y))
    | .xor => K (.int k (bitI .xor k x y))
    | .andNot => K (.int k (bitI .andNot k x y))
    | .eql => K (.bool (x == y))
    | .neq => K (.bool (x != y))
    | .lss => K (.bool (decide (x < y)))
    | .leq => K (.bool (decide (x ≤ y)))
    | .gtr => K (.bool (decide (x > y)))
    | .geq => K (.bool (decide (x ≥ y)))
    | _ => False) else False

theorem run_eqGuard {P : Program} {w : World} (op : BinOp) (t : TypeId) (x y : Operand) (a b : Value) (ha : ∀ c, a ≠ .agg c) (hn : a ≠ .nilIface) : (eqGuard op t x y a b).run P w = .ok () w := by
  unfold eqGuard
  cases a <;> first | exact absurd rfl (ha _) | exact absurd rfl hn | (cases op <;> rfl)

theorem binInt_sound {P : Program} {op : BinOp} {k : IntKind} {x : Int} {k' : IntKind} {y : Int} {K : Value → Prop} (t : TypeId) (h : binInt op k x k' y K) :
    ∃ v, (∀ w, (binOp op t (.int k x) (.int k' y)).run P w = .ok v w) ∧ (v.oneCell' = true) ∧ K v := by
  unfold binInt at h
  split at h
  · obtain ⟨h0, h⟩ := h
    exact ⟨_, fun w => by simp [binOp, Op.shift, show ¬ y < 0 by omega], rfl, h⟩
  · obtain ⟨h0, h⟩ := h
    exact ⟨_, fun w => by simp [binOp, Op.shift, show ¬ y < 0 by omega], rfl, h⟩
  · split at h
    · rename_i hk
      subst hk
      split at h
      all_goals first
        | (refine ⟨_, fun w => ?_, rfl, h.2⟩; simp [binOp, Op.intDiv, h.1]; done)
        | (refine ⟨_, fun w => ?_, rfl, h⟩; simp only [binOp, ne_eq, not_true_eq_false, if_false]; rfl)
        | exact h.elim
    · exact h.elim

def evUn (op : UnOp) (x : SV) (K : Kt) : Prop :=
  match op, x with
  | .not, .o (.c (.v (.bool b))) => K (boo (!b)) []
  | .neg, .o (.c (.v (.int k n))) => K (int k (k.wrap (0 - n))) []
  | .xor, .o (.c (.v (.int k n))) => K (int k (bitI .xor k (if k.signed then -1 else k.max) n)) []
  | _, _ => False

def evConv (P : Program) (src dst : TypeId) (x : SV) (K : Kt) : Prop :=
  match P.underlying src, P.underlying dst, x with
  | some _, some (.int k), .o (.c (.v (.int _ n))) => K (int k (k.wrap n)) []
  | some _, some .string, .o (.c (.v (.string s))) => K (vv (.string s)) []
  | _, _, _ => False

def evNil (x : SV) (K : Kt) : Prop :=
  match x with
  | .o (.c (.p n i j)) => K (.o (.c (.p n i j))) []
  | .o (.c (.v (.pointer (some a)))) => K (vv (.pointer (some a))) []
  | .o (.c (.v (.func (.func f) x y))) => K (vv (.func (.func f) x y)) []
  | .o (.c (.f g fi ca)) => K (.o (.c (.f g fi ca))) []
  | _ => False

def evFieldAddr (P : Program) (t : TypeId) (x : SV) (f : Nat) (K : Kt) : Prop :=
  match x, P.underlying t with
  | .o (.c (.p n i j)), some (.struct fs) => (match fs[f]? with
    | some d => if szT P d.type = 0 then False else forceN (j + d.offset) fun j => K (.o (.c (.p n i j))) []
    | none => False)
  | _, _ => False

def partC (P : Program) (t : TypeId) (l : List C) (off : Nat) (K : Kt) : Prop :=
  if okT P t then
    (match isAggT P t with
    | true => if off + szT P t ≤ l.length then K (.o (.a ((l.drop off).take (szT P t)))) [] else False
    | false => match l[off]? with | some c => K (.o (.c c)) [] | none => False)
  else False

def evField (P : Program) (t : TypeId) (x : SV) (f : Nat) (K : Kt) : Prop :=
  match x, P.underlying t with
  | .o (.a l), some (.struct fs) => (match fs[f]? with
    | some d => partC P d.type l d.offset K
    | none => False)
  | _, _ => False

def evExtract (x : SV) (i : Nat) (K : Kt) : Prop :=
  match x with
  | .t l => (match l[i]? with | some y => K (.o y) [] | none => False)
  | _ => False

def evIndexAddr (P : Program) (t : TypeId) (x ix : SV) (K : Kt) : Prop :=
  match ix with
  | .o (.c (.v (.int _ i))) => (match P.underlying t with
    | some (.array len e) => (match x with
      | .o (.c (.p n r j)) => if okT P e then (0 ≤ i ∧ i < (len : Int)) ∧ K (.o (.c (.p n r (j + i.toNat * szT P e)))) [] else False
      | _ => False)
    | some (.slice e) => (match x with
      | .o (.c (.s n off len sz)) => if okT P e = true ∧ sz = szT P e ∧ 0 < sz then (0 ≤ i ∧ i < (len : Int)) ∧ K (.o (.c (.p n (off + i.toNat) 0))) [] else False
      | _ => False)
    | _ => False)
  | _ => False

def evIndex (P : Program) (t : TypeId) (x ix : SV) (K : Kt) : Prop :=
  match ix, x, P.underlying t with
  | .o (.c (.v (.int _ i))), .o (.a l), some (.array len e) => (0 ≤ i ∧ i < (len : Int)) ∧ partC P e l (i.toNat * szT P e) K
  | _, _, _ => False

theorem den_int {β : Bet} {x : Value} {k : IntKind} {n : Int} (h : denS β x (int k n)) : x = .int k n := h
theorem den_bool {β : Bet} {x : Value} {b : Bool} (h : denS β x (boo b)) : x = .bool b := h

theorem run_isAgg {P : Program} {t : TypeId} (h : okT P t = true) (w : World) : (isAgg t).run P w = .ok (isAggT P t) w := by
  unfold okT at h
  split at h
  · rename_i i d h1 h2
    unfold isAgg isAggT
    rw [Sem.run_bind, run_underlying h2 w]
    simp only [h2, Result.andThen_ok]
    cases d <;> rfl
  · cases h
theorem run_sizeOf {P : Program} {t : TypeId} (h : okT P t = true) (w : World) : (sizeOf t).run P w = .ok (szT P t) w := by
  unfold okT at h
  split at h
  · rename_i i d h1 h2
    simp [sizeOf, typeInfo, h1, szT]
  · cases h

theorem partC_sound {P : Program} {β : Bet} {t : TypeId} {l : List C} {off : Nat} {K : Kt} {vs : List Value} (h : partC P t l off K) (hd : denL β vs l) :
    ∃ v y, (∀ w, (part t vs.toArray off).run P w = .ok v w) ∧ den1 β v y ∧ K (.o y) [] := by
  unfold partC at h
  split at h
  · rename_i ht
    split at h
    · rename_i ha
      split at h
      · rename_i hl
        refine ⟨.agg (vs.toArray.extract off (off + szT P t)), .a _, fun w => ?_, ⟨(vs.drop off).take (szT P t), ?_, (hd.drop off).take _⟩, h⟩
        · simp [part, run_isAgg ht, run_sizeOf ht, ha]
        · simp
      · exact h.elim
    · rename_i ha
      split at h
      · rename_i c hc
        obtain ⟨x, hx, hdx⟩ := hd.get hc
        exact ⟨x, .c c, fun w => by simp [part, run_isAgg ht, ha, hx], hdx, h⟩
      · exact h.elim
  · exact h.elim
end Go.Sx
namespace Go.Sx

def ldRow (n : Nat) (row : List C) (i j : Nat) (K : C → Prop) : Prop := i < n ∧ (match row[j]? with | some x => K x | none => False)
def ldOne (k : Bk) (i j : Nat) (K : C → Prop) : Prop :=
  match k with
  | .box l => (match i with
    | 0 => (match l[j]? with | some x => K x | none => False)
    | _ + 1 => False)
  | .ints k xs => ldRow xs.length [.v (.int k (xs.getD i 0))] i j K
  | .bools xs => ldRow xs.length [.v (.bool (xs.getD i false))] i j K
  | .rows _ n row => ldRow n (row i) i j K
  | .map _ _ => False
  | .deep _ _ _ => False
theorem ldRow_sound {k : Bk} {i j : Nat} {K : C → Prop} (h : ldRow k.n (k.row i) i j K) : ∃ c, k.at i j = some c ∧ K c := by
  obtain ⟨hi, h⟩ := h
  split at h
  · rename_i x hx; exact ⟨x, by simp [Bk.at, hi, hx], h⟩
  · exact h.elim
theorem ldOne_sound {k : Bk} {i j : Nat} {K : C → Prop} (h : ldOne k i j K) : ∃ c, k.at i j = some c ∧ K c := by
  unfold ldOne at h
  split at h
  · split at h
    · split at h
      · rename_i x hx; exact ⟨x, by simpa [Bk.at, Bk.n, Bk.row] using hx, h⟩
      · exact h.elim
    · exact h.elim
  · exact ldRow_sound (k := .ints _ _) h
  · exact ldRow_sound (k := .bools _) h
  · exact ldRow_sound (k := .rows _ _ _) h
  · exact h.elim
  · exact h.elim

def ldMany (k : Bk) (i j s : Nat) (K : List C → Prop) : Prop :=
  match k with
  | .box l => (match i with
    | 0 => if j + s ≤ l.length then K ((l.drop j).take s) else False
    | _ + 1 => False)
  | .rows sz n row => i < n ∧ (if j = 0 ∧ s = sz then K (row i) else if j + s ≤ sz then K (((row i).drop j).take s) else False)
  | _ => False
theorem ldMany_sound {k : Bk} {m : Nat} {i j s : Nat} {K : List C → Prop} (hf : k.fits m) (h : ldMany k i j s K) :
    ∃ l, l.length = s ∧ (∀ q c, l[q]? = some c → k.at i (j + q) = some c) ∧ K l := by
  unfold ldMany at h
  split at h
  · split at h
    · split at h
      · rename_i hl
        refine ⟨_, by simp; omega, fun q c hq => ?_, h⟩
        rw [List.getElem?_take] at hq
        split at hq
        · simpa [Bk.at, Bk.n, Bk.row, List.getElem?_drop] using hq
        · cases hq
      · exact h.elim
    · exact h.elim
  · obtain ⟨hi, h⟩ := h
    rcases hf with hf | ⟨_, _, hr⟩
    · cases hf
    have hi' := hr _ hi
    simp only [Bk.row, Bk.sz] at hi'
    split at h
    · rename_i hc
      obtain ⟨rfl, rfl⟩ := hc
      exact ⟨_, hi', fun q c hq => by simpa [Bk.at, Bk.n, Bk.row, hi] using hq, h⟩
    · split at h
      · rename_i hl
        refine ⟨_, by simp; omega, fun q c hq => ?_, h⟩
        rw [List.getElem?_take] at hq
        split at hq
        · simpa [Bk.at, Bk.n, Bk.row, hi, List.getElem?_drop] using hq
        · cases hq
      · exact h.elim
  · exact h.elim

theorem Bk.need_of_at {k : Bk} {s i j : Nat} {c : C} (hf : k.fits s) (h : k.at i j = some c) : 0 < k.need := by
  unfold Bk.at at h
  split at h
  · rename_i hi
    cases k with
    | box l => cases l with
      | nil => simp [Bk.row] at h
      | cons => simp [Bk.need]
    | ints k xs => simp only [Bk.n] at hi; simp [Bk.need, Bk.n, Bk.sz]; omega
    | bools xs => simp only [Bk.n] at hi; simp [Bk.need, Bk.n, Bk.sz]; omega
    | rows sz n row =>
      rcases hf with hf | ⟨_, hs, _⟩
      · cases hf
      · simp only [Bk.n, Bk.sz, Bk.need] at *
        exact Nat.mul_pos (by omega) hs
    | map s es => simp [Bk.need]
    | deep lo rs ov => cases hi
  · cases h

theorem holds.cell {w : World} {β : Bet} {m : Nm} {k : Blk} (h : holds w β m k) {i j : Nat} {c : C} (hc : k.k.at i j = some c) :
    ∃ y, w.cell? ⟨m.b, m.o + i * m.sz + j, none⟩ = some y ∧ denC β y c := by
  rcases h.there (Bk.noMap_of_at hc) with h0 | ⟨cs, T, fz, h1, _, _, h4⟩
  · have := Bk.need_of_at h.fits hc
    have := h.need
    omega
  · obtain ⟨y, hy, hd⟩ := h4 i j c hc
    exact ⟨y, by simp [World.cell?, h1, hy], hd⟩

theorem holds.many {w : World} {β : Bet} {m : Nm} {k : Blk} (h : holds w β m k) {i j : Nat} : ∀ (l : List C), (∀ q c, l[q]? = some c → k.k.at i (j + q) = some c) →
    ∃ ys, denL β ys l ∧ ∀ q y, ys[q]? = some y → w.cell? ⟨m.b, m.o + i * m.sz + j + q, none⟩ = some y := by
  intro l
  induction l generalizing j with
  | nil => exact fun _ => ⟨[], trivial, fun q y hq => by simp at hq⟩
  | cons c l ih =>
    intro hl
    obtain ⟨y, hy, hd⟩ := h.cell (hl 0 c rfl)
    obtain ⟨ys, hds, hys⟩ := ih (j := j + 1) (fun q c hq => by have := hl (q + 1) c (by simpa using hq); rwa [show j + (q + 1) = j + 1 + q by omega] at this)
    refine ⟨y :: ys, ⟨hd, hds⟩, fun q z hq => ?_⟩
    cases q with
    | zero => simp at hq; subst hq; simpa using hy
    | succ q => have := hys q z (by simpa using hq); rwa [show m.o + i * m.sz + (j + 1) + q = m.o + i * m.sz + j + (q + 1) by omega] at this

def evLoad (P : Program) (t : TypeId) (x : SV) (M : Mem) (K : Kt) : Prop :=
  match x with
  | .o (.c (.p n i j)) => (match M.get n with
    | some k => if okT P t then (match isAggT P t with
        | true => ldMany k.k i j (szT P t) fun l => K (.o (.a l)) []
        | false => ldOne k.k i j fun c => K (.o (.c c)) []) else False
    | none => False)
  | _ => False

theorem load_sound {P : Program} {t : TypeId} {w : World} {β : Bet} {m : Nm} {k : Blk} {i j : Nat} {K : Kt} (h : holds w β m k)
    (ht : okT P t = true) (hl : match isAggT P t with
        | true => ldMany k.k i j (szT P t) fun l => K (.o (.a l)) []
        | false => ldOne k.k i j fun c => K (.o (.c c)) []) :
    ∃ v y, (Instr.loadAt t (.pointer (some ⟨m.b, m.o + i * m.sz + j, none⟩))).run P w = .ok v w ∧ den1 β v y ∧ K (.o y) [] := by
  cases ha : isAggT P t with
  | true =>
    rw [ha] at hl
    obtain ⟨l, hlen, hat, hK⟩ := ldMany_sound h.fits hl
    obtain ⟨ys, hd, hys⟩ := h.many l hat
    refine ⟨.agg ys.toArray, .a l, ?_, ⟨ys, rfl, hd⟩, hK⟩
    have hc : (loadCells ⟨m.b, m.o + i * m.sz + j, none⟩ ys.length).run P w = .ok ys.toArray w :=
      run_loadCells_list w _ ys (fun q v hq => by rw [Addr.add_lit]; exact hys q v hq)
    rw [hd.length, hlen] at hc
    simp [Instr.loadAt, Instr.sureAddr, loadVar, run_isAgg ht, ha, run_sizeOf ht, hc]
  | false =>
    rw [ha] at hl
    obtain ⟨c, hat, hK⟩ := ldOne_sound hl
    obtain ⟨y, hy, hd⟩ := h.cell hat
    exact ⟨y, .c c, by simp [Instr.loadAt, Instr.sureAddr, loadVar, run_isAgg ht, ha, run_load, hy], hd, hK⟩

/-! ### writing -/
def repl : List C → Nat → List C → List C
  | [], _, _ => []
  | l, 0, [] => l
  | _ :: l, 0, x :: xs => x :: repl l 0 xs
  | y :: l, j + 1, xs => y :: repl l j xs
theorem repl_length : ∀ (l : List C) (j : Nat) (xs : List C), (repl l j xs).length = l.length
  | [], _, _ => by simp [repl]
  | _ :: _, 0, [] => rfl
  | _ :: l, 0, _ :: xs => congrArg (· + 1) (repl_length l 0 xs)
  | _ :: l, j + 1, xs => by simp only [repl, List.length_cons, repl_length l j xs]
theorem repl_get : ∀ (l : List C) (j : Nat) (xs : List C) (q : Nat), j + xs.length ≤ l.length → (repl l j xs)[q]? = if j ≤ q ∧ q < j + xs.length then xs[q - j]? else l[q]?
  | [], j, xs, q, h => by
    have : xs = [] := List.eq_nil_of_length_eq_zero (by simp only [List.length_nil] at h; omega)
    subst this
    simp [repl]
  | _ :: _, 0, [], q, _ => by simp [repl]
  | y :: l, 0, x :: xs, 0, _ => by simp [repl]
  | y :: l, 0, x :: xs, q + 1, h => by
    have := repl_get l 0 xs q (by simp at h ⊢; omega)
    simp [repl, this]
  | y :: l, j + 1, xs, 0, _ => by simp [repl]
  | y :: l, j + 1, xs, q + 1, h => by
    have := repl_get l j xs q (by simp at h; omega)
    simp only [repl, List.getElem?_cons_succ, this, Nat.add_le_add_iff_right, show q + 1 < j + 1 + xs.length ↔ q < j + xs.length by omega, show q + 1 - (j + 1) = q - j by omega]

def stAt (k : Bk) (i j : Nat) (xs : List C) (K : Bk → Prop) : Prop :=
  match k with
  | .box l => (match i with
    | 0 => if j + xs.length ≤ l.length then K (.box (repl l j xs)) else False
    | _ + 1 => False)
  | .ints k ns => i < ns.length ∧ (match j, xs with
    | 0, [.v (.int k' x)] => if k' = k then K (.ints k (ns.set i x)) else False
    | _, _ => False)
  | .bools bs => i < bs.length ∧ (match j, xs with
    | 0, [.v (.bool x)] => K (.bools (bs.set i x))
    | _, _ => False)
  | .rows sz n row => i < n ∧ (if j + xs.length ≤ sz then K (.rows sz n fun q => if q = i then (if xs.length = sz then xs else repl (row i) j xs) else row q) else False)
  | .map _ _ => False
  | .deep _ _ _ => False

theorem at_set_one {n i i' j' : Nat} {x c : C} {f f' : Nat → C} (hf : ∀ q, q < n → f' q = if q = i then x else f q)
    (h : i' < n ∧ [f' i'][j']? = some c) :
    (∃ q, i' = i ∧ j' = 0 + q ∧ q < 1 ∧ [x][q]? = some c) ∨ ((i' < n ∧ [f i'][j']? = some c) ∧ ∀ q, q < 1 → i' * 1 + j' ≠ i * 1 + 0 + q) := by
  obtain ⟨hi', h⟩ := h
  have hj : j' = 0 := by
    cases j' with
    | zero => rfl
    | succ j' => simp at h
  subst hj
  rw [hf i' hi'] at h
  by_cases e : i' = i
  · subst e
    simp at h
    exact .inl ⟨0, rfl, rfl, by omega, by simp [h]⟩
  · rw [if_neg e] at h
    exact .inr ⟨⟨hi', h⟩, fun q hq => by omega⟩

/-- what a store makes of a block: its cells, and which real ones it touches -/
def Stored (k k' : Bk) (i j : Nat) (xs : List C) (sz : Nat) : Prop :=
  k'.isMap = false ∧ k'.fits sz ∧ k'.need = k.need ∧ i * sz + j + xs.length ≤ k.need ∧
      (∀ i' j' c, k'.at i' j' = some c → (∃ q, i' = i ∧ j' = j + q ∧ q < xs.length ∧ xs[q]? = some c) ∨
        (k.at i' j' = some c ∧ ∀ q, q < xs.length → i' * sz + j' ≠ i * sz + j + q))

theorem stAt_sound {k : Bk} {i j : Nat} {xs : List C} {K : Bk → Prop} (h : stAt k i j xs K) : ∃ k', K k' ∧ ∀ sz, k.fits sz → Stored k k' i j xs sz := by
  unfold stAt at h
  split at h
  · rename_i l
    split at h
    · split at h
      · rename_i hl
        refine ⟨_, h, fun sz hf => ⟨rfl, .inl rfl, by simp [Bk.need, repl_length], by simpa [Bk.need] using hl, fun i' j' c hc => ?_⟩⟩
        rw [Bk.at_some] at hc ⊢
        obtain ⟨hi', hc⟩ := hc
        simp only [Bk.n, Bk.row] at hc hi' ⊢
        have hi0 : i' = 0 := by omega
        subst hi0
        rw [repl_get l j xs j' hl] at hc
        split at hc
        · rename_i hj
          exact .inl ⟨j' - j, rfl, (by omega), (by omega), hc⟩
        · rename_i hj
          exact .inr ⟨⟨by omega, hc⟩, fun q hq he => by omega⟩
      · exact h.elim
    · exact h.elim
  · rename_i k ns
    obtain ⟨hi, h⟩ := h
    split at h
    · split at h
      · rename_i k' x hk
        subst hk
        refine ⟨_, h, fun sz hf => ?_⟩
        rcases hf with hf | ⟨rfl, _, _⟩
        · cases hf
        refine ⟨rfl, .inr ⟨rfl, by simp [Bk.sz], fun q hq => rfl⟩, by simp [Bk.need, Bk.n, Bk.sz], by simp [Bk.need, Bk.n, Bk.sz]; omega, fun i' j' c hc => ?_⟩
        rw [Bk.at_some] at hc ⊢
        simp only [Bk.n, Bk.row, List.length_set] at hc ⊢
        exact at_set_one (n := ns.length) (f := fun q => .v (.int k' (ns.getD q 0))) (f' := fun q => .v (.int k' ((ns.set i x).getD q 0))) (fun q hq => by
          by_cases e : q = i
          · subst e; simp [hi]
          · simp [e, Ne.symm e]) hc
      · exact h.elim
    · exact h.elim
  · rename_i bs
    obtain ⟨hi, h⟩ := h
    split at h
    · rename_i x
      refine ⟨_, h, fun sz hf => ?_⟩
      rcases hf with hf | ⟨rfl, _, _⟩
      · cases hf
      refine ⟨rfl, .inr ⟨rfl, by simp [Bk.sz], fun q hq => rfl⟩, by simp [Bk.need, Bk.n, Bk.sz], by simp [Bk.need, Bk.n, Bk.sz]; omega, fun i' j' c hc => ?_⟩
      rw [Bk.at_some] at hc ⊢
      simp only [Bk.n, Bk.row, List.length_set] at hc ⊢
      exact at_set_one (n := bs.length) (f := fun q => .v (.bool (bs.getD q false))) (f' := fun q => .v (.bool ((bs.set i x).getD q false))) (fun q hq => by
          by_cases e : q = i
          · subst e; simp [hi]
          · simp [e, Ne.symm e]) hc
    · exact h.elim
  · rename_i szz n row
    obtain ⟨hi, h⟩ := h
    split at h
    · rename_i hl
      refine ⟨_, h, fun sz hf => ?_⟩
      rcases hf with hf | ⟨hsz, hs, hr⟩
      · cases hf
      simp only [Bk.sz, Bk.n, Bk.row] at *
      subst hsz
      have hri := hr i hi
      refine ⟨rfl, .inr ⟨rfl, hs, fun q hq => ?_⟩, rfl, ?_, fun i' j' c hc => ?_⟩
      · simp only [Bk.row, Bk.sz]
        by_cases hqi : q = i
        · simp only [hqi, if_true]
          split
          · assumption
          · rw [repl_length]; exact hri
        · simp only [hqi, if_false]; exact hr q hq
      · simp only [Bk.need, Bk.n, Bk.sz]
        have : (i + 1) * sz ≤ n * sz := Nat.mul_le_mul_right _ hi
        rw [Nat.add_mul, Nat.one_mul] at this
        omega
      · rw [Bk.at_some] at hc ⊢
        obtain ⟨hi', hc⟩ := hc
        simp only [Bk.n, Bk.row] at hc hi' ⊢
        by_cases hq : i' = i
        · subst hq
          simp only [if_true] at hc
          split at hc
          · rename_i hfull
            have hj0 : j = 0 := by omega
            subst hj0
            refine .inl ⟨j', rfl, by omega, ?_, hc⟩
            exact (List.getElem?_eq_some_iff.1 hc).1
          · rw [repl_get _ _ _ _ (by omega)] at hc
            split at hc
            · rename_i hj
              exact .inl ⟨j' - j, rfl, by omega, by omega, hc⟩
            · rename_i hj
              exact .inr ⟨⟨hi', hc⟩, fun q hq => by omega⟩
        · simp only [hq, if_false] at hc
          have hj' : j' < sz := by have := (List.getElem?_eq_some_iff.1 hc).1; have := hr i' hi'; omega
          refine .inr ⟨⟨hi', hc⟩, fun q hq' heq => ?_⟩
          rcases Nat.lt_or_gt_of_ne hq with hlt | hgt
          · have : (i' + 1) * sz ≤ i * sz := Nat.mul_le_mul_right _ hlt
            rw [Nat.add_mul, Nat.one_mul] at this
            omega
          · have : (i + 1) * sz ≤ i' * sz := Nat.mul_le_mul_right _ hgt
            rw [Nat.add_mul, Nat.one_mul] at this
            omega
    · exact h.elim
  · exact h.elim
  · exact h.elim

theorem stAt_noMap {k : Bk} {i j : Nat} {xs : List C} {K : Bk → Prop} (h : stAt k i j xs K) : k.isMap = false := by
  cases k <;> first | rfl | exact h.elim

theorem heap_setRow_other (w : World) (g : Nat) (c : Array Value) (k : Nat) (h : k ≠ g) : (w.setRow g c).heap[k]? = w.heap[k]? := by
  simp only [World.setRow, Array.getElem?_modify]
  rw [if_neg (by omega)]

/-- THE STATE BEHIND A WRITE into the block of a name -/
theorem St.write {W : World} {A : Nat → Prop} {β : Bet} {M : Mem} {w : World} (hSt : St W A β M w) {n : Nat} {k : Blk} {m : Nm} (hM : M.get n = some k) (hwr : k.wr = true) (hβ : β n = some m)
    (hroom : m.room ≠ 0) {c : Array Value} {T : TypeId} {fz : Nat × Nat} (hc : w.heap[m.b]? = some (.cells c T fz)) {c' : Array Value} (hsz : c'.size = c.size) (hfz : fz = (0, 0))
    {k' : Bk} (hmap : k'.isMap = false) (hfit : k'.fits m.sz) (hneed : k'.need ≤ m.room) (hin : m.o + m.room ≤ c.size) (hat : ∀ i j x, k'.at i j = some x → ∃ y, c'[m.o + i * m.sz + j]? = some y ∧ denC β y x) :
    St W A β (M.put n (some ⟨k', true⟩)) (w.setRow m.b c') := by
  have hh : holds (w.setRow m.b c') β m ⟨k', true⟩ :=
    ⟨hfit, hneed, fun _ => .inr ⟨c', T, fz, setRow_heap w m.b c c' T fz hc, by omega, fun _ => hfz, hat⟩, fun s es he => (by rw [show k' = .map s es from he] at hmap; cases hmap), fun lo rs ov he => (by rw [show k' = .deep lo rs ov from he] at hmap; cases hmap)⟩
  have hget : ∀ q kq, (M.put n (some ⟨k', true⟩)).get q = some kq → q = n → kq = ⟨k', true⟩ := fun q kq hq e => by
    rw [Mem.get_put, if_pos e] at hq
    cases hq; rfl
  refine hSt.change rfl rfl rfl (by simp [World.setRow]) (Bet.le_refl β) (· = n) (fun q kq hq hN => ?_) (fun q kq hq hN => ?_) (fun b _ => ?_) (fun q kq m' b hq hN hm hb => ?_) (fun q q' _ _ _ _ hne h1 h2 => ?_)
  · rw [Mem.get_put, if_neg hN] at hq; exact hq
  · subst hN
    rw [hget q kq hq rfl]
    exact ⟨m, hβ, hh⟩
  · by_cases e : b = m.b
    · subst e
      exact .inr ⟨n, k, m, hM, hwr, hβ, .inl ⟨hroom, rfl⟩, .inl rfl⟩
    · exact .inl (heap_setRow_other _ _ _ _ e)
  · subst hN
    rw [hget q kq hq rfl] at hb
    rw [hβ] at hm; cases hm
    obtain ⟨_, rfl⟩ := hb.plain hmap
    exact .inr ⟨q, k, m, hM, hβ, .inl ⟨hroom, rfl⟩, .inl ⟨.inl rfl, fun _ => hwr⟩⟩
  · exact absurd (h1.trans h2.symm) hne

def Bet.set (β : Bet) (n : Nat) (m : Nm) : Bet := fun q => if q = n then some m else β q
theorem Bet.set_le {β : Bet} {n : Nat} {m : Nm} (h : β n = none) : β.le (β.set n m) := fun q mq hq => by
  unfold Bet.set
  split
  · rename_i e; subst e; rw [h] at hq; cases hq
  · exact hq
theorem Bet.set_same (β : Bet) (n : Nat) (m : Nm) : β.set n m n = some m := by simp [Bet.set]
theorem Bet.set_dom {β : Bet} {n : Nat} {m : Nm} {q : Nat} (h : β q = none) (h' : β.set n m q ≠ none) : q = n := by
  unfold Bet.set at h'
  split at h'
  · assumption
  · exact absurd h h'

/-- THE STATE BEHIND A NEW BLOCK -/
theorem St.alloc {W : World} {A : Nat → Prop} {β : Bet} {M : Mem} {w : World} (hSt : St W A β M w) {n : Nat} (hβ : β n = none) {c : Array Value} {T : TypeId} {k : Bk} {sz room : Nat}
    (hmap : k.isMap = false) (hfit : k.fits sz) (hneed : k.need ≤ room) (hroom : room ≤ c.size) (hat : ∀ i j x, k.at i j = some x → ∃ y, c[i * sz + j]? = some y ∧ denC β y x) :
    St W A (β.set n ⟨w.heap.size, 0, sz, room⟩) (M.put n (some ⟨k, true⟩)) (w.alloc (.cells c T)) := by
  have hle := Bet.set_le (m := ⟨w.heap.size, 0, sz, room⟩) hβ
  have hold : ∀ q, q < w.heap.size → (w.alloc (.cells c T)).heap[q]? = w.heap[q]? := fun q hq => by
    show (w.heap.push _)[q]? = _
    rw [Array.getElem?_push, if_neg (by omega)]
  have hnew : (w.alloc (.cells c T)).heap[w.heap.size]? = some (.cells c T) := by
    show (w.heap.push _)[w.heap.size]? = _
    simp
  refine hSt.change rfl rfl rfl (by simp) hle (· = n) (fun q kq hq hN => ?_) (fun q kq hq hN => ?_) (fun b hb => .inl (hold b hb)) (fun q kq m' b hq hN hm hb => ?_) (fun q q' _ _ _ _ hne h1 h2 => ?_)
  · rw [Mem.get_put, if_neg hN] at hq; exact hq
  · subst hN
    rw [Mem.get_put, if_pos rfl] at hq
    cases hq
    refine ⟨_, Bet.set_same _ _ _, hfit, hneed, fun _ => .inr ⟨c, T, (0, 0), hnew, by simpa using hroom, fun _ => rfl, fun i j x hx => ?_⟩, fun s es he => (by rw [show k = .map s es from he] at hmap; cases hmap), fun lo rs ov he => (by rw [show k = .deep lo rs ov from he] at hmap; cases hmap)⟩
    obtain ⟨y, hy, hd⟩ := hat i j x hx
    exact ⟨y, by simpa using hy, hd.mono hle⟩
  · subst hN
    rw [Mem.get_put, if_pos rfl] at hq
    cases hq
    rw [Bet.set_same] at hm; cases hm
    obtain ⟨_, rfl⟩ := hb.plain hmap
    exact .inl (Nat.le_refl _)
  · exact absurd (h1.trans h2.symm) hne
end Go.Sx
namespace Go.Sx

theorem Mem.app_nil (M : Mem) : M.app [] = M := rfl
theorem Mem.app_one (M : Mem) (n : Nat) (b : Option Blk) : M.app [(n, b)] = M.put n b := rfl

/-! ### stores -/
def evStore (P : Program) (t : TypeId) (p x : SV) (M : Mem) (K : Kt) : Prop :=
  match p, x with
  | .o (.c (.p n i j)), .o y => (match M.get n with
    | some k => if okT P t = true ∧ k.wr = true ∧ y.cells.length = szT P t ∧ y.cells.all C.ok = true ∧ 0 < szT P t then stAt k.k i j y.cells fun k' => K (.t []) [(n, some ⟨k', true⟩)] else False
    | none => False)
  | _, _ => False

theorem run_storeVar {P : Program} {t : TypeId} (ht : okT P t = true) {w : World} {v : Value} (hv : v.cells.size = szT P t) (h1 : ∀ z ∈ v.cells.toList, z.oneCell' = true)
    {b o : Nat} {c : Array Value} {T : TypeId} (hc : w.heap[b]? = some (.cells c T (0, 0))) (hl : o + szT P t ≤ c.size) :
    (Instr.storeAt t (.pointer (some ⟨b, o, none⟩)) v).run P w = .ok () (w.setRow b (c.toList.take o ++ v.cells.toList ++ c.toList.drop (o + szT P t)).toArray) := by
  have hst := run_storeCells_at (P := P) b o T v.cells.toList 0 c w hc (by simpa [hv] using hl) h1
  simp only [Nat.add_zero, Array.length_toList, hv] at hst
  simp [Instr.storeAt, Instr.sureAddr, storeVar, run_sizeOf ht, hv, hst]

theorem get_splice {l xs : List Value} {o : Nat} (hl : o + xs.length ≤ l.length) (q : Nat) : (l.take o ++ xs ++ l.drop (o + xs.length))[q]? = if o ≤ q ∧ q < o + xs.length then xs[q - o]? else l[q]? := by
  have h1 : (l.take o).length = o := by simp; omega
  by_cases h : q < o
  · rw [List.append_assoc, List.getElem?_append_left (by omega), List.getElem?_take, if_pos h, if_neg (by omega)]
  · by_cases h2 : q < o + xs.length
    · rw [List.append_assoc, List.getElem?_append_right (by omega), h1, List.getElem?_append_left (by omega), if_pos ⟨by omega, h2⟩]
    · rw [List.getElem?_append_right (by simp; omega), List.getElem?_drop, if_neg (by omega)]
      congr 1
      simp
      omega

theorem store_sound {P : Program} {o : Oper} {fr : List SV} {rd : Mem} {t : TypeId} {p x : Operand} (ho : o.op = .store t p x) {K : Kt} (h : evStore P t (evO fr p) (evO fr x) rd K) :
    ∃ v ups, SemOp P o fr rd v ups ∧ K v ups := by
  unfold evStore at h
  split at h
  · rename_i n i j y hp hx
    split at h
    · rename_i k hk
      split at h
      · rename_i hcond
        obtain ⟨ht, hwr, hlen, hok, hpos⟩ := hcond
        obtain ⟨k', hK, hst⟩ := stAt_sound h
        refine ⟨.t [], [(n, some ⟨k', true⟩)], ?_, hK⟩
        intro W A β M w a next Q hSt hop hrd _ hn
        obtain ⟨m, hm, hh⟩ := hSt.names n k (hrd n k hk)
        obtain ⟨hmap, hfit, hneed, hbound, hat⟩ := hst m.sz hh.fits
        have hpd := hop p (by simp [ho, Op.operands])
        have hxd := hop x (by simp [ho, Op.operands])
        rw [hp] at hpd
        rw [hx] at hxd
        obtain ⟨m', hm', hpe⟩ := hpd
        rw [hm] at hm'; cases hm'
        obtain ⟨hcl, hone⟩ := den1.cells hxd hok
        have hcl' := hcl.length
        have hroom : m.room ≠ 0 := by have := hh.need; omega
        rcases hh.there (stAt_noMap h) with h0 | ⟨c, T, fz, h1, h2, h3, h4⟩
        · exact absurd h0 hroom
        have hz := h3 hwr
        subst hz
        have hsz : (a.eval x).cells.size = szT P t := by rw [← hlen, ← hcl']; simp
        have hin : m.o + i * m.sz + j + szT P t ≤ c.size := by have := hh.need; omega
        have hr := run_storeVar (P := P) ht hsz hone h1 hin
        refine wp_skip' (w' := w.setRow m.b ((c.toList.take (m.o + i * m.sz + j) ++ (a.eval x).cells.toList ++ c.toList.drop (m.o + i * m.sz + j + szT P t)).toArray)) ?_ ?_
        · simp only [execOp, ho, hpe]
          simp [hr]
        · refine hn undef _ β (Bet.le_refl β) (fun q h1 h2 => absurd h1 h2) ?_ ⟨[], rfl, trivial⟩
          have hlen2 : (a.eval x).cells.toList.length = szT P t := by simpa using hsz
          refine hSt.write (hrd n k hk) hwr hm hroom h1 (by simp; omega) rfl hmap hfit (by rw [hneed]; exact hh.need) (by omega) fun i' j' y' hy' => ?_
          rw [List.getElem?_toArray]
          have hsp := get_splice (l := c.toList) (xs := (a.eval x).cells.toList) (o := m.o + i * m.sz + j) (by rw [hlen2]; simpa using hin) (m.o + i' * m.sz + j')
          rw [hlen2] at hsp
          rw [hsp]
          rcases hat i' j' y' hy' with ⟨q, rfl, rfl, hq, hxq⟩ | ⟨hold, hne⟩
          · rw [if_pos ⟨by omega, by omega⟩, show m.o + i' * m.sz + (j + q) - (m.o + i' * m.sz + j) = q by omega]
            exact hcl.get hxq
          · obtain ⟨z, hz, hdz⟩ := h4 i' j' y' hold
            rw [if_neg (fun ⟨ha, hb⟩ => hne (m.o + i' * m.sz + j' - (m.o + i * m.sz + j)) (by omega) (by omega))]
            exact ⟨z, by simpa using hz, hdz⟩
      · exact h.elim
    · exact h.elim
  · exact h.elim
end Go.Sx
namespace Go.Sx

def zeroC (P : Program) (t : TypeId) : Option (List C) :=
  match P.info? t with
  | some i => (match i.zero with
    | some (.agg cs) => some (cs.toList.map .v)
    | some v => some [.v v]
    | none => none)
  | none => none
theorem zeroC_sound {P : Program} {t : TypeId} {l : List C} (h : zeroC P t = some l) (β : Bet) : ∃ z, (∀ w, (zeroValue t).run P w = .ok z w) ∧ denL β z.cells.toList l := by
  unfold zeroC at h
  split at h
  · rename_i i hi
    split at h
    · rename_i cs hz
      cases h
      exact ⟨.agg cs, fun w => by simp [zeroValue, typeInfo, hi, hz], by simpa [Value.cells] using denL_self cs.toList⟩
    · rename_i v hna hz
      cases h
      refine ⟨v, fun w => by simp [zeroValue, typeInfo, hi, hz], ?_⟩
      have : v.cells = #[v] := by cases v <;> first | rfl | exact absurd rfl (hna _)
      rw [this]
      exact ⟨rfl, trivial⟩
    · cases h
  · cases h

/-- a new variable whose cells are known -/
theorem St.box {W : World} {A : Nat → Prop} {β : Bet} {M : Mem} {w : World} (hSt : St W A β M w) {n : Nat} (hβ : β n = none) {v : Value} {T : TypeId} {l : List C} (hd : denL β v.cells.toList l) :
    St W A (β.set n ⟨w.heap.size, 0, 0, l.length⟩) (M.put n (some ⟨.box l, true⟩)) (w.alloc (.cells v.cells T)) := by
  have hl := hd.length
  refine hSt.alloc hβ rfl (.inl rfl) (Nat.le_refl _) (by simp at hl; omega) fun i j x hx => ?_
  rw [Bk.at_some] at hx
  obtain ⟨hi, hx⟩ := hx
  simp only [Bk.n, Bk.row] at hi hx
  have hi0 : i = 0 := by omega
  subst hi0
  obtain ⟨y, hy, hdy⟩ := hd.get hx
  exact ⟨y, by simpa using hy, hdy⟩

def evAlloc (P : Program) (t : TypeId) (nm : Nat) (K : Kt) : Prop :=
  match zeroC P t with
  | some l => K (.o (.c (.p nm 0 0))) [(nm, some ⟨.box l, true⟩)]
  | none => False
theorem alloc_sound {P : Program} {o : Oper} {fr : List SV} {rd : Mem} {nm : Nat} (hnm : rd.get nm = none) {t : TypeId} (ho : o.op = .alloc t) {K : Kt} (h : evAlloc P t nm K) :
    ∃ v ups, SemOp P o fr rd v ups ∧ K v ups := by
  unfold evAlloc at h
  split at h
  · rename_i l hl
    refine ⟨_, _, ?_, h⟩
    intro W A β M w a next Q hSt hop hrd hfresh hn
    obtain ⟨z, hz, hd⟩ := zeroC_sound hl β
    obtain ⟨hβ, _⟩ := hfresh nm (by simp [Ups.has]) hnm
    refine wp_value (w' := w.alloc (.cells z.cells t)) (v := .pointer (some ⟨w.heap.size, 0, none⟩)) ?_ (hn _ _ _ (Bet.set_le hβ) (fun q h1 h2 => by have := Bet.set_dom h1 h2; subst this; simp [Ups.has]) (hSt.box hβ hd) ⟨_, Bet.set_same _ _ _, by simp⟩)
    simp [execOp, ho, Instr.alloc, hz, newVar, newRow]
  · exact h.elim

def evBox (x : SV) (nm : Nat) (K : Kt) : Prop :=
  match x with
  | .o y => if y.cells.all C.ok then K (.o (.c (.p nm 0 0))) [(nm, some ⟨.box y.cells, true⟩)] else False
  | .t _ => False
theorem box_sound {P : Program} {o : Oper} {fr : List SV} {rd : Mem} {nm : Nat} (hnm : rd.get nm = none) {t : TypeId} {x : Operand} (ho : o.op = .box t x) {K : Kt} (h : evBox (evO fr x) nm K) :
    ∃ v ups, SemOp P o fr rd v ups ∧ K v ups := by
  unfold evBox at h
  split at h
  · rename_i y hy
    split at h
    · rename_i hok
      refine ⟨_, _, ?_, h⟩
      intro W A β M w a next Q hSt hop hrd hfresh hn
      have hx := hop x (by simp [ho, Op.operands])
      rw [hy] at hx
      obtain ⟨hd, _⟩ := den1.cells hx hok
      obtain ⟨hβ, _⟩ := hfresh nm (by simp [Ups.has]) hnm
      refine wp_value (w' := w.alloc (.cells (a.eval x).cells t)) (v := .pointer (some ⟨w.heap.size, 0, none⟩)) ?_ (hn _ _ _ (Bet.set_le hβ) (fun q h1 h2 => by have := Bet.set_dom h1 h2; subst this; simp [Ups.has]) (hSt.box hβ hd) ⟨_, Bet.set_same _ _ _, by simp⟩)
      simp [execOp, ho, Instr.box, newVar, newRow]
    · exact h.elim
  · exact h.elim

theorem load_op_sound {P : Program} {o : Oper} {fr : List SV} {rd : Mem} {t : TypeId} {x : Operand} (ho : o.op = .load t x) {K : Kt} (h : evLoad P t (evO fr x) rd K) :
    ∃ v ups, SemOp P o fr rd v ups ∧ K v ups := by
  unfold evLoad at h
  split at h
  · rename_i n i j hx
    split at h
    · rename_i k hk
      split at h
      · rename_i ht
        -- the value that is read hangs on the block alone
        have key : ∃ y, K (.o y) [] ∧ ∀ (w : World) (β : Bet) (m : Nm), holds w β m k → ∃ v, (Instr.loadAt t (.pointer (some ⟨m.b, m.o + i * m.sz + j, none⟩))).run P w = .ok v w ∧ den1 β v y := by
          cases ha : isAggT P t with
          | true =>
            rw [ha] at h
            simp only [] at h
            obtain ⟨l, hK, hl⟩ : ∃ l, K (.o (.a l)) [] ∧ ∀ m, k.k.fits m → l.length = szT P t ∧ ∀ q c, l[q]? = some c → k.k.at i (j + q) = some c := by
              by_cases hf : ∃ m, k.k.fits m
              · obtain ⟨m0, hm0⟩ := hf
                obtain ⟨l, h1, h2, h3⟩ := ldMany_sound hm0 h
                exact ⟨l, h3, fun _ _ => ⟨h1, h2⟩⟩
              · unfold ldMany at h
                split at h
                · rename_i e
                  exact absurd (⟨0, .inl (by rw [e]; rfl)⟩ : ∃ m, k.k.fits m) hf
                · obtain ⟨hi, h⟩ := h
                  split at h
                  · exact ⟨_, h, fun m hm => absurd ⟨m, hm⟩ hf⟩
                  · split at h
                    · exact ⟨_, h, fun m hm => absurd ⟨m, hm⟩ hf⟩
                    · exact h.elim
                · exact h.elim
            refine ⟨.a l, hK, fun w β m hh => ?_⟩
            obtain ⟨h1, h2⟩ := hl m.sz hh.fits
            obtain ⟨ys, hd, hys⟩ := hh.many l h2
            refine ⟨.agg ys.toArray, ?_, ⟨ys, rfl, hd⟩⟩
            have hc : (loadCells ⟨m.b, m.o + i * m.sz + j, none⟩ ys.length).run P w = .ok ys.toArray w :=
              run_loadCells_list w _ ys (fun q v hq => by rw [Addr.add_lit]; exact hys q v hq)
            rw [hd.length, h1] at hc
            simp [Instr.loadAt, Instr.sureAddr, loadVar, run_isAgg ht, ha, run_sizeOf ht, hc]
          | false =>
            rw [ha] at h
            obtain ⟨c, hat, hK⟩ := ldOne_sound h
            refine ⟨.c c, hK, fun w β m hh => ?_⟩
            obtain ⟨y, hy, hd⟩ := hh.cell hat
            exact ⟨y, by simp [Instr.loadAt, Instr.sureAddr, loadVar, run_isAgg ht, ha, run_load, hy], hd⟩
        obtain ⟨y, hK, hy⟩ := key
        refine ⟨_, _, ?_, hK⟩
        intro W A β M w a next Q hSt hop hrd _ hn
        obtain ⟨m, hm, hh⟩ := hSt.names n k (hrd n k hk)
        have hxd := hop x (by simp [ho, Op.operands])
        rw [hx] at hxd
        obtain ⟨m', hm', hpe⟩ := hxd
        rw [hm] at hm'; cases hm'
        obtain ⟨v, hv, hd⟩ := hy w β m hh
        exact wp_value (by simp only [execOp, ho, hpe]; simp [hv]) (hn v w β (Bet.le_refl β) (fun q h1 h2 => absurd h1 h2) hSt hd)
      · exact h.elim
    · exact h.elim
  · exact h.elim
end Go.Sx
namespace Go.Sx

theorem move_sound {P : Program} {o : Oper} {fr : List SV} {rd : Mem} {x : Operand} (ho : o.op = .move x ∨ o.op = .assign x) {K : Kt} (h : K (evO fr x) []) : ∃ v ups, SemOp P o fr rd v ups ∧ K v ups :=
  ⟨_, _, SemOp.pure fun β a hop => by
    rcases ho with ho | ho
    · exact ⟨a.eval x, fun w => by simp [execOp, ho], hop x (by simp [ho, Op.operands])⟩
    · exact ⟨a.eval x, fun w => by simp [execOp, ho], hop x (by simp [ho, Op.operands])⟩, h⟩

theorem pick_sound {P : Program} {o : Oper} {fr : List SV} {rd : Mem} {c x y : Operand} (ho : o.op = .pick c x y) {K : Kt} (h : evPick (evO fr c) (evO fr x) (evO fr y) K) : ∃ v ups, SemOp P o fr rd v ups ∧ K v ups := by
  unfold evPick at h
  split at h
  · rename_i t hc
    cases t with
    | true =>
      exact ⟨_, _, SemOp.pure fun β a hop => by
        have h1 := hop c (by simp [ho, Op.operands])
        rw [hc] at h1
        have h1' : a.eval c = .bool true := h1
        exact ⟨a.eval x, fun w => by simp [execOp, ho, h1', asBool], hop x (by simp [ho, Op.operands])⟩, h⟩
    | false =>
      exact ⟨_, _, SemOp.pure fun β a hop => by
        have h1 := hop c (by simp [ho, Op.operands])
        rw [hc] at h1
        have h1' : a.eval c = .bool false := h1
        exact ⟨a.eval y, fun w => by simp [execOp, ho, h1', asBool], hop y (by simp [ho, Op.operands])⟩, h⟩
  · exact h.elim


/-! ### '==' -/
def eqOkT (P : Program) : Nat → TypeId → Bool
  | 0, _ => false
  | d + 1, t => match P.underlying t with
    | some (.struct fs) => !P.stoodInHeld t && fs.toList.all fun f => f.name != "_" && okT P f.type && eqOkT P d f.type
    | _ => true
def eqPre (P : Program) (t : TypeId) : Bool := eqOkT P 8 t && !P.eqGuardType P.depth t

def partV (P : Program) (t : TypeId) (l : List C) (off : Nat) : Option V1 :=
  match isAggT P t with
  | true => if off + szT P t ≤ l.length then some (.a ((l.drop off).take (szT P t))) else none
  | false => match l[off]? with | some c => some (.c c) | none => none

def eqFs (eq : TypeId → V1 → V1 → Option Bool) (P : Program) (xs ys : List C) : List Field → Option Bool
  | [] => some true
  | f :: fs => match partV P f.type xs f.offset, partV P f.type ys f.offset with
    | some a, some b => (match eq f.type a b, eqFs eq P xs ys fs with
      | some r, some s => some (r && s)
      | _, _ => none)
    | _, _ => none

def eqV (P : Program) : Nat → TypeId → V1 → V1 → Option Bool
  | 0, _, _, _ => none
  | d + 1, t, x, y => match P.underlying t, x, y with
    | some (.int _), .c (.v (.int k a)), .c (.v (.int k' b)) => if k = k' then some (a == b) else none
    | some .bool, .c (.v (.bool a)), .c (.v (.bool b)) => some (a == b)
    | some .string, .c (.v (.string a)), .c (.v (.string b)) => some (a == b)
    | some (.slice _), .c (.v (.slice none _ _)), .c (.v (.slice b _ _)) => some b.isNone
    | some (.slice _), .c (.v (.slice (some _) _ _)), .c (.v (.slice none _ _)) => some false
    | some (.struct fs), .a xs, .a ys => eqFs (eqV P d) P xs ys fs.toList
    | _, _, _ => none

theorem partV_sound {P : Program} {β : Bet} {t : TypeId} {l : List C} {off : Nat} {y : V1} {vs : List Value} (ht : okT P t = true) (h : partV P t l off = some y) (hd : denL β vs l) :
    ∃ v, (∀ w, (part t vs.toArray off).run P w = .ok v w) ∧ den1 β v y := by
  unfold partV at h
  split at h
  · rename_i ha
    split at h
    · rename_i hl
      cases h
      refine ⟨.agg (vs.toArray.extract off (off + szT P t)), fun w => ?_, ⟨(vs.drop off).take (szT P t), ?_, (hd.drop off).take _⟩⟩
      · simp [part, run_isAgg ht, run_sizeOf ht, ha]
      · simp
    · cases h
  · rename_i ha
    split at h
    · rename_i c hc
      cases h
      obtain ⟨x, hx, hdx⟩ := hd.get hc
      exact ⟨x, fun w => by simp [part, run_isAgg ht, ha, hx], hdx⟩
    · cases h

theorem eqFs_sound' {P : Program} {β : Bet} {eq : TypeId → V1 → V1 → Option Bool} {good : TypeId → Bool} {e : Nat} {xs ys : List C} {vs us : List Value} (hx : denL β vs xs) (hy : denL β us ys)
    (heq : ∀ t a b r x y, good t = true → eq t a b = some r → den1 β x a → den1 β y b → ∀ w, (Op.equalIn e t x y).run P w = .ok r w) :
    ∀ (fs : List Field) (r : Bool), (fs.all fun f => f.name != "_" && okT P f.type && good f.type) = true → eqFs eq P xs ys fs = some r → ∀ w, (Op.eqFields e vs.toArray us.toArray fs).run P w = .ok r w := by
  intro fs
  induction fs with
  | nil => intro r _ h w; simp [eqFs] at h; subst h; rfl
  | cons f fs ih =>
    intro r hg h w
    simp only [List.all_cons, Bool.and_eq_true] at hg
    obtain ⟨⟨⟨hname, hokt⟩, hgood⟩, hrest⟩ := hg
    unfold eqFs at h
    split at h
    · rename_i a b ha hb
      split at h
      · rename_i r1 s hr1 hs
        cases h
        obtain ⟨va, hva, hda⟩ := partV_sound hokt ha hx
        obtain ⟨vb, hvb, hdb⟩ := partV_sound hokt hb hy
        have h1 := heq _ _ _ _ _ _ hgood hr1 hda hdb
        have h2 := ih s hrest hs w
        have hne : f.name ≠ "_" := by simpa using hname
        simp only [Op.eqFields, hne, ne_eq, not_false_eq_true, if_true, Sem.run_bind, hva, hvb, h1, Result.andThen_ok]
        cases r1 with
        | true => simpa using h2
        | false => simp
      · cases h
    · cases h

theorem eqV_sound {P : Program} {β : Bet} : ∀ (d : Nat) (t : TypeId) (a b : V1) (r : Bool) (x y : Value) (e : Nat), d ≤ e → eqOkT P d t = true → eqV P d t a b = some r → den1 β x a → den1 β y b → ∀ w, (Op.equalIn e t x y).run P w = .ok r w := by
  intro d
  induction d with
  | zero => intro t a b r x y e _ _ h; simp [eqV] at h
  | succ d ih =>
    intro t a b r x y e he hg h hx hy w
    obtain ⟨e, rfl⟩ : ∃ e', e = e' + 1 := ⟨e - 1, by omega⟩
    unfold eqV at h
    split at h
    · rename_i k0 k a k' b hu
      split at h
      · rename_i hk
        subst hk
        cases h
        have hx' : x = .int k a := hx
        have hy' : y = .int k b := hy
        subst hx' hy'
        exact run_equalIn_int w e t k k0 a b hu
      · cases h
    · rename_i a b hu
      cases h
      have hx' : x = .bool a := hx
      have hy' : y = .bool b := hy
      subst hx' hy'
      exact run_equalIn_bool w e t a b hu
    · rename_i a b hu
      cases h
      have hx' : x = .string a := hx
      have hy' : y = .string b := hy
      subst hx' hy'
      simp [Op.equalIn, run_underlying hu]
    · rename_i _ _ _ b _ _ hu
      cases h
      have hx' : x = .slice none _ _ := hx
      have hy' : y = .slice b _ _ := hy
      subst hx' hy'
      simp [Op.equalIn, run_underlying hu]
    · rename_i _ _ _ _ _ _ hu
      cases h
      have hx' : x = .slice (some _) _ _ := hx
      have hy' : y = .slice none _ _ := hy
      subst hx' hy'
      simp [Op.equalIn, run_underlying hu]
    · rename_i fs xs ys hu
      obtain ⟨vs, rfl, hvs⟩ := hx
      obtain ⟨us, rfl, hus⟩ := hy
      unfold eqOkT at hg
      simp only [hu, Bool.and_eq_true, Bool.not_eq_true'] at hg
      obtain ⟨hstood, hall⟩ := hg
      have hf : P.fieldsOf t = fs := by simp [Program.fieldsOf, hu]
      rw [run_equalIn_struct w e t _ _ (by rw [hf]; exact hu) hstood, hf]
      exact eqFs_sound' (good := eqOkT P d) hvs hus (fun t a b r x y hgd heq hxa hyb w => ih t a b r x y e (by omega) hgd heq hxa hyb w) fs.toList r hall h w
    · cases h

def evEq0 (P : Program) (t : TypeId) (x y : V1) (K : Bool → Prop) : Prop :=
  match x with
  | .a _ => eqPre P t = true ∧ (match eqV P 8 t x y with | some r => K r | none => False)
  | .c _ => (match eqV P 8 t x y with | some r => K r | none => False)

theorem eqV_shape {P : Program} {t : TypeId} {x y : V1} {r : Bool} (h : eqV P 8 t x y = some r) :
    (eqOkT P 8 t = true ∧ ((∃ k a b, x = .c (.v (.int k a)) ∧ y = .c (.v (.int k b)) ∧ r = (a == b)) ∨ (∃ a b, x = .c (.v (.bool a)) ∧ y = .c (.v (.bool b))) ∨
      (∃ a b, x = .c (.v (.string a)) ∧ y = .c (.v (.string b)) ∧ r = (a == b)) ∨ (∃ A l c B m d, x = .c (.v (.slice A l c)) ∧ y = .c (.v (.slice B m d))))) ∨ ∃ xs ys, x = .a xs ∧ y = .a ys := by
  unfold eqV at h
  unfold eqOkT
  split at h
  · rename_i hu
    simp only [hu]
    split at h
    · rename_i hk
      subst hk
      cases h
      exact .inl ⟨trivial, .inl ⟨_, _, _, rfl, rfl, rfl⟩⟩
    · cases h
  · rename_i hu
    simp only [hu]
    exact .inl ⟨trivial, .inr (.inl ⟨_, _, rfl, rfl⟩)⟩
  · rename_i hu
    simp only [hu]
    cases h
    exact .inl ⟨trivial, .inr (.inr (.inl ⟨_, _, rfl, rfl, rfl⟩))⟩
  · rename_i hu
    simp only [hu]
    exact .inl ⟨trivial, .inr (.inr (.inr ⟨_, _, _, _, _, _, rfl, rfl⟩))⟩
  · rename_i hu
    simp only [hu]
    exact .inl ⟨trivial, .inr (.inr (.inr ⟨_, _, _, _, _, _, rfl, rfl⟩))⟩
  · exact .inr ⟨_, _, rfl, rfl⟩
  · cases h

theorem evEq0_sound {P : Program} {t : TypeId} {x y : V1} {K : Bool → Prop} (h : evEq0 P t x y K) :
    ∃ r, K r ∧ ∀ (β : Bet) (a b : Value), den1 β a x → den1 β b y → ∀ w, (∀ op x y, (eqGuard op t x y a b).run P w = .ok () w) ∧ (binOp .eql t a b).run P w = .ok (.bool r) w ∧ (binOp .neq t a b).run P w = .ok (.bool (!r)) w := by
  have main : ∀ r, eqV P 8 t x y = some r → (∀ xs, x = .a xs → eqPre P t = true) → ∀ (β : Bet) (a b : Value), den1 β a x → den1 β b y → ∀ w, (∀ op x y, (eqGuard op t x y a b).run P w = .ok () w) ∧ (binOp .eql t a b).run P w = .ok (.bool r) w ∧ (binOp .neq t a b).run P w = .ok (.bool (!r)) w := by
    intro r hr hpre β a b ha hb w
    rcases eqV_shape hr with ⟨hok, hs⟩ | ⟨xs, ys, rfl, rfl⟩
    · have he : (Op.equal t a b).run P w = .ok r w := eqV_sound 8 t _ _ r a b 10000 (by omega) hok hr ha hb w
      rcases hs with ⟨k, m, n, rfl, rfl, rfl⟩ | ⟨m, n, rfl, rfl⟩ | ⟨m, n, rfl, rfl, rfl⟩ | ⟨A, l, c, B, m, d, rfl, rfl⟩
      · have ha' : a = .int k m := ha
        have hb' : b = .int k n := hb
        subst ha' hb'
        refine ⟨fun op x y => run_eqGuard op t x y _ _ (by intro cs e; cases e) (by intro e; cases e), ?_, ?_⟩
        · simp only [binOp, ne_eq, not_true_eq_false, if_false]; rfl
        · simp only [binOp, ne_eq, not_true_eq_false, if_false]; rfl
      · have ha' : a = .bool m := ha
        have hb' : b = .bool n := hb
        subst ha' hb'
        refine ⟨fun op x y => run_eqGuard op t x y _ _ (by intro cs e; cases e) (by intro e; cases e), ?_, ?_⟩
        · simp [binOp, he]
        · simp [binOp, he]
      · have ha' : a = .string m := ha
        have hb' : b = .string n := hb
        subst ha' hb'
        refine ⟨fun op x y => run_eqGuard op t x y _ _ (by intro cs e; cases e) (by intro e; cases e), ?_, ?_⟩
        · rw [beq_toListBytes]; rfl
        · rw [beq_toListBytes]; rfl
      · have ha' : a = .slice A l c := ha
        have hb' : b = .slice B m d := hb
        subst ha' hb'
        refine ⟨fun op x y => run_eqGuard op t x y _ _ (by intro cs e; cases e) (by intro e; cases e), ?_, ?_⟩
        · simp [binOp, he]
        · simp [binOp, he]
    · have hp := hpre xs rfl
      simp only [eqPre, Bool.and_eq_true, Bool.not_eq_true'] at hp
      have he : (Op.equal t a b).run P w = .ok r w := eqV_sound 8 t _ _ r a b 10000 (by omega) hp.1 hr ha hb w
      obtain ⟨vs, rfl, _⟩ := ha
      obtain ⟨us, rfl, _⟩ := hb
      refine ⟨fun op x y => run_eqGuard_agg w op t x y _ _ hp.2, ?_, ?_⟩
      · simp [binOp, he]
      · simp [binOp, he]
  unfold evEq0 at h
  split at h
  · obtain ⟨hp, h⟩ := h
    split at h
    · rename_i r hr
      exact ⟨r, h, main r hr fun _ _ => hp⟩
    · exact h.elim
  · split at h
    · rename_i r hr
      exact ⟨r, h, main r hr fun _ e => by cases e⟩
    · exact h.elim

/-- a slice with elements is not nil -/
def evEq (P : Program) (t : TypeId) (x y : V1) (K : Bool → Prop) : Prop :=
  match x, y with
  | .c (.s _ _ (_ + 1) _), .c (.v (.slice none _ _)) => (match P.underlying t with | some (.slice _) => K false | _ => False)
  | x, y => evEq0 P t x y K
theorem evEq_sound {P : Program} {t : TypeId} {x y : V1} {K : Bool → Prop} (h : evEq P t x y K) :
    ∃ r, K r ∧ ∀ (β : Bet) (a b : Value), den1 β a x → den1 β b y → ∀ w, (∀ op x y, (eqGuard op t x y a b).run P w = .ok () w) ∧ (binOp .eql t a b).run P w = .ok (.bool r) w ∧ (binOp .neq t a b).run P w = .ok (.bool (!r)) w := by
  unfold evEq at h
  split at h
  · rename_i n off len sz l c
    split at h
    · rename_i e hu
      refine ⟨false, h, fun β a b ha hb w => ?_⟩
      obtain ⟨A, cap, m, _, rfl, _, hlc, _, hA⟩ := ha
      have hb' : b = .slice none l c := hb
      subst hb'
      rcases hA with h0 | ⟨rfl, _⟩
      · omega
      · obtain ⟨r, hr, hall⟩ := evEq0_sound (P := P) (t := t) (x := .c (.v (.slice (some ⟨m.b, m.o + off * m.sz, none⟩) (len + 1) cap))) (y := .c (.v (.slice none l c))) (K := fun r => r = false) (by simp [evEq0, eqV, hu])
        subst hr
        exact hall β _ _ rfl rfl w
    · exact h.elim
  · exact evEq0_sound h

def evBin (P : Program) (op : BinOp) (t : TypeId) (x y : SV) (K : Kt) : Prop :=
  match x, y with
  | .o (.c (.v (.int k a))), .o (.c (.v (.int k' b))) => binInt op k a k' b fun r => K (vv r) []
  | .o a, .o b => (match op with
    | .eql => evEq P t a b fun r => K (boo r) []
    | .neq => evEq P t a b fun r => K (boo (!r)) []
    | _ => False)
  | _, _ => False

theorem bin_sound {P : Program} {o : Oper} {fr : List SV} {rd : Mem} {op : BinOp} {t u : TypeId} {x y : Operand} (ho : o.op = .binOp op t x y u) {K : Kt} (h : evBin P op t (evO fr x) (evO fr y) K) : ∃ v ups, SemOp P o fr rd v ups ∧ K v ups := by
  unfold evBin at h
  split at h
  · rename_i k a k' b hx hy
    obtain ⟨v, hr, _, hK⟩ := binInt_sound (P := P) t h
    refine ⟨vv v, [], SemOp.pure fun β ac hop => ⟨v, fun w => ?_, rfl⟩, hK⟩
    have h1 := hop x (by simp [ho, Op.operands])
    have h2 := hop y (by simp [ho, Op.operands])
    rw [hx] at h1
    rw [hy] at h2
    have h1' : ac.eval x = .int k a := h1
    have h2' : ac.eval y = .int k' b := h2
    have hg := run_eqGuard (P := P) (w := w) op t x y (.int k a) (.int k' b) (fun c e => by cases e) (fun e => by cases e)
    simp [execOp, ho, h1', h2', hg, hr w]
  · rename_i a b hnot hx hy
    split at h
    · obtain ⟨r, hK, hr⟩ := evEq_sound h
      refine ⟨boo r, [], SemOp.pure fun β ac hop => ⟨.bool r, fun w => ?_, rfl⟩, hK⟩
      have h1 := hop x (by simp [ho, Op.operands])
      have h2 := hop y (by simp [ho, Op.operands])
      rw [hx] at h1
      rw [hy] at h2
      obtain ⟨g1, g2, g3⟩ := hr β _ _ h1 h2 w
      simp [execOp, ho, g1, g2]
    · obtain ⟨r, hK, hr⟩ := evEq_sound h
      refine ⟨boo (!r), [], SemOp.pure fun β ac hop => ⟨.bool (!r), fun w => ?_, rfl⟩, hK⟩
      have h1 := hop x (by simp [ho, Op.operands])
      have h2 := hop y (by simp [ho, Op.operands])
      rw [hx] at h1
      rw [hy] at h2
      obtain ⟨g1, g2, g3⟩ := hr β _ _ h1 h2 w
      simp [execOp, ho, g1, g3]
    · exact h.elim
  · exact h.elim

theorem un_sound {P : Program} {o : Oper} {fr : List SV} {rd : Mem} {op : UnOp} {t : TypeId} {x : Operand} (ho : o.op = .unOp op t x) {K : Kt} (h : evUn op (evO fr x) K) : ∃ v ups, SemOp P o fr rd v ups ∧ K v ups := by
  unfold evUn at h
  split at h
  · rename_i b hx
    refine ⟨boo (!b), [], SemOp.pure fun β ac hop => ⟨.bool (!b), fun w => ?_, rfl⟩, h⟩
    have h1 := hop x (by simp [ho, Op.operands])
    rw [hx] at h1
    have h1' : ac.eval x = .bool b := h1
    simp [execOp, ho, h1', Op.unary]
  · rename_i k n hx
    refine ⟨int k (k.wrap (0 - n)), [], SemOp.pure fun β ac hop => ⟨_, fun w => ?_, rfl⟩, h⟩
    have h1 := hop x (by simp [ho, Op.operands])
    rw [hx] at h1
    have h1' : ac.eval x = .int k n := h1
    simp [execOp, ho, h1', Op.unary, Op.intArith]
  · rename_i k n hx
    refine ⟨int k (bitI .xor k (if k.signed then -1 else k.max) n), [], SemOp.pure fun β ac hop => ⟨_, fun w => ?_, rfl⟩, h⟩
    have h1 := hop x (by simp [ho, Op.operands])
    rw [hx] at h1
    have h1' : ac.eval x = .int k n := h1
    simp only [execOp, ho, h1', Op.unary, Op.intBits, bitI, Sem.run_bind, Sem.run_pure, Result.andThen_ok]
  · exact h.elim

theorem conv_sound {P : Program} {o : Oper} {fr : List SV} {rd : Mem} {s d : TypeId} {x : Operand} (ho : o.op = .convert s d x) {K : Kt} (h : evConv P s d (evO fr x) K) : ∃ v ups, SemOp P o fr rd v ups ∧ K v ups := by
  unfold evConv at h
  split at h
  · rename_i _ _ ds k k' n hs hd hx
    refine ⟨int k (k.wrap n), [], SemOp.pure fun β ac hop => ⟨_, fun w => ?_, rfl⟩, h⟩
    have h1 := hop x (by simp [ho, Op.operands])
    rw [hx] at h1
    have h1' : ac.eval x = .int k' n := h1
    simp only [execOp, ho, h1', convert, Sem.run_bind, run_underlying hs, run_underlying hd, Result.andThen_ok]
    cases ds <;> simp [Conv.intToInt]
  · rename_i _ _ ds b hs hd hx
    refine ⟨vv (.string b), [], SemOp.pure fun β ac hop => ⟨_, fun w => ?_, rfl⟩, h⟩
    have h1 := hop x (by simp [ho, Op.operands])
    rw [hx] at h1
    have h1' : ac.eval x = .string b := h1
    simp only [execOp, ho, h1', convert, Sem.run_bind, run_underlying hs, run_underlying hd, Result.andThen_ok]
    cases ds <;> simp
  · exact h.elim

theorem nil_sound {P : Program} {o : Oper} {fr : List SV} {rd : Mem} {x : Operand} (ho : o.op = .nilCheck x) {K : Kt} (h : evNil (evO fr x) K) : ∃ v ups, SemOp P o fr rd v ups ∧ K v ups := by
  unfold evNil at h
  split at h
  · rename_i n i j hx
    refine ⟨_, _, SemOp.pure fun β ac hop => ?_, h⟩
    have h1 := hop x (by simp [ho, Op.operands])
    rw [hx] at h1
    obtain ⟨m, hm, he⟩ := id h1
    exact ⟨ac.eval x, fun w => by simp [execOp, ho, he], h1⟩
  · rename_i ad hx
    refine ⟨_, _, SemOp.pure fun β ac hop => ?_, h⟩
    have h1 := hop x (by simp [ho, Op.operands])
    rw [hx] at h1
    have he : ac.eval x = .pointer (some ad) := h1
    exact ⟨ac.eval x, fun w => by simp [execOp, ho, he], h1⟩
  · rename_i f fx fy hx
    refine ⟨_, _, SemOp.pure fun β ac hop => ?_, h⟩
    have h1 := hop x (by simp [ho, Op.operands])
    rw [hx] at h1
    have he : ac.eval x = .func (.func f) fx fy := h1
    exact ⟨ac.eval x, fun w => by simp [execOp, ho, he], h1⟩
  · rename_i g fi ca hx
    refine ⟨_, _, SemOp.pure fun β ac hop => ?_, h⟩
    have h1 := hop x (by simp [ho, Op.operands])
    rw [hx] at h1
    obtain ⟨fs, cs, he, _⟩ := id h1
    exact ⟨ac.eval x, fun w => by simp [execOp, ho, he], h1⟩
  · exact h.elim

theorem fieldAddr_sound {P : Program} {o : Oper} {fr : List SV} {rd : Mem} {t : TypeId} {x : Operand} {f : Nat} (ho : o.op = .fieldAddr t x f) {K : Kt} (h : evFieldAddr P t (evO fr x) f K) : ∃ v ups, SemOp P o fr rd v ups ∧ K v ups := by
  unfold evFieldAddr at h
  split at h
  · rename_i n i j fs hx hu
    split at h
    · rename_i d hd
      split at h
      · exact h.elim
      · rename_i hsz
        rw [forceN_eq] at h
        refine ⟨_, _, SemOp.pure fun β ac hop => ?_, h⟩
        have h1 := hop x (by simp [ho, Op.operands])
        rw [hx] at h1
        obtain ⟨m, hm, he⟩ := h1
        refine ⟨.pointer (some ⟨m.b, m.o + i * m.sz + (j + d.offset), none⟩), fun w => ?_, ⟨m, hm, rfl⟩⟩
        have hs : (sizeOf d.type).run P w = .ok (szT P d.type) w := by
          unfold szT at hsz ⊢
          split at hsz
          · rename_i inf hinf; simp [sizeOf, typeInfo, hinf]
          · exact absurd rfl hsz
        simp only [execOp, ho, he, Instr.fieldAt, Sem.run_bind, run_underlying hu, Result.andThen_ok, hd, Instr.sureAddr, fieldPlace, hs, Sem.run_pure, hsz, if_false, Addr.add_lit, Nat.add_assoc]
    · exact h.elim
  · exact h.elim

theorem field_sound {P : Program} {o : Oper} {fr : List SV} {rd : Mem} {t : TypeId} {x : Operand} {f : Nat} (ho : o.op = .field t x f) {K : Kt} (h : evField P t (evO fr x) f K) : ∃ v ups, SemOp P o fr rd v ups ∧ K v ups := by
  unfold evField at h
  split at h
  · rename_i l fs hx hu
    split at h
    · rename_i d hd
      -- the part of a list of cells hangs on the list alone
      have key : ∃ y, K (.o y) [] ∧ ∀ β vs, denL β vs l → ∃ v, (∀ w, (part d.type vs.toArray d.offset).run P w = .ok v w) ∧ den1 β v y := by
        unfold partC at h
        split at h
        · rename_i ht
          split at h
          · rename_i ha
            split at h
            · rename_i hl
              refine ⟨_, h, fun β vs hd' => partV_sound ht (by simp [partV, ha, hl]) hd'⟩
            · exact h.elim
          · rename_i ha
            split at h
            · rename_i c hc
              refine ⟨_, h, fun β vs hd' => partV_sound ht (by simp [partV, ha, hc]) hd'⟩
            · exact h.elim
        · exact h.elim
      obtain ⟨y, hK, hy⟩ := key
      refine ⟨_, _, SemOp.pure fun β ac hop => ?_, hK⟩
      have h1 := hop x (by simp [ho, Op.operands])
      rw [hx] at h1
      obtain ⟨vs, he, hvs⟩ := h1
      obtain ⟨v, hv, hdv⟩ := hy β vs hvs
      refine ⟨v, fun w => ?_, hdv⟩
      simp only [execOp, ho, he, Instr.field, Sem.run_bind, run_underlying hu, Result.andThen_ok, hd, asAgg, Sem.run_pure, hv]
    · exact h.elim
  · exact h.elim

theorem index_sound {P : Program} {o : Oper} {fr : List SV} {rd : Mem} {t : TypeId} {x ix : Operand} (ho : o.op = .index t x ix) {K : Kt} (h : evIndex P t (evO fr x) (evO fr ix) K) : ∃ v ups, SemOp P o fr rd v ups ∧ K v ups := by
  unfold evIndex at h
  split at h
  · rename_i k i l len e hi hx hu
    obtain ⟨⟨hi0, hi1⟩, h⟩ := h
    have key : ∃ y, K (.o y) [] ∧ okT P e = true ∧ ∀ β vs, denL β vs l → ∃ v, (∀ w, (part e vs.toArray (i.toNat * szT P e)).run P w = .ok v w) ∧ den1 β v y := by
      unfold partC at h
      split at h
      · rename_i ht
        split at h
        · rename_i ha
          split at h
          · rename_i hl
            refine ⟨_, h, ht, fun β vs hd' => partV_sound ht (by simp [partV, ha, hl]) hd'⟩
          · exact h.elim
        · rename_i ha
          split at h
          · rename_i c hc
            refine ⟨_, h, ht, fun β vs hd' => partV_sound ht (by simp [partV, ha, hc]) hd'⟩
          · exact h.elim
      · exact h.elim
    obtain ⟨y, hK, ht, hy⟩ := key
    refine ⟨_, _, SemOp.pure fun β ac hop => ?_, hK⟩
    have h1 := hop x (by simp [ho, Op.operands])
    have h2 := hop ix (by simp [ho, Op.operands])
    rw [hx] at h1
    rw [hi] at h2
    have h2' : ac.eval ix = .int k i := h2
    obtain ⟨vs, he, hvs⟩ := h1
    obtain ⟨v, hv, hdv⟩ := hy β vs hvs
    refine ⟨v, fun w => ?_, hdv⟩
    simp only [execOp, ho, he, h2', Instr.index, asIntOf, Sem.run_bind, run_underlying hu, Result.andThen_ok, Sem.run_pure, hi0, hi1, and_self, if_true, run_sizeOf ht, hv]
  · exact h.elim

theorem indexAddr_sound {P : Program} {o : Oper} {fr : List SV} {rd : Mem} {t : TypeId} {x ix : Operand} (ho : o.op = .indexAddr t x ix) {K : Kt} (h : evIndexAddr P t (evO fr x) (evO fr ix) K) : ∃ v ups, SemOp P o fr rd v ups ∧ K v ups := by
  unfold evIndexAddr at h
  split at h
  · rename_i k i hi
    split at h
    · rename_i len e hu
      split at h
      · rename_i n r j hx
        split at h
        · rename_i ht
          obtain ⟨⟨hi0, hi1⟩, h⟩ := h
          refine ⟨_, _, SemOp.pure fun β ac hop => ?_, h⟩
          have h1 := hop x (by simp [ho, Op.operands])
          have h2 := hop ix (by simp [ho, Op.operands])
          rw [hx] at h1
          rw [hi] at h2
          have h2' : ac.eval ix = .int k i := h2
          obtain ⟨m, hm, he⟩ := h1
          refine ⟨.pointer (some ⟨m.b, m.o + r * m.sz + (j + i.toNat * szT P e), none⟩), fun w => ?_, ⟨m, hm, rfl⟩⟩
          simp only [execOp, ho, he, h2', Instr.indexAt, asIntOf, Sem.run_bind, run_underlying hu, Result.andThen_ok, Sem.run_pure, Instr.sureAddr, hi0, hi1, and_self, if_true, run_sizeOf ht, Addr.add_lit, Nat.add_assoc]
        · exact h.elim
      · exact h.elim
    · rename_i e hu
      split at h
      · rename_i n off len sz hx
        split at h
        · rename_i hc
          obtain ⟨ht, hsz, hpos⟩ := hc
          obtain ⟨⟨hi0, hi1⟩, h⟩ := h
          refine ⟨_, _, SemOp.pure fun β ac hop => ?_, h⟩
          have h1 := hop x (by simp [ho, Op.operands])
          have h2 := hop ix (by simp [ho, Op.operands])
          rw [hx] at h1
          rw [hi] at h2
          have h2' : ac.eval ix = .int k i := h2
          obtain ⟨A, cap, m, hm, he, hms, hlc, hcm, hA⟩ := h1
          rcases hA with h0 | ⟨rfl, hroom⟩
          · omega
          refine ⟨.pointer (some ⟨m.b, m.o + (off + i.toNat) * m.sz + 0, none⟩), fun w => ?_, ⟨m, hm, rfl⟩⟩
          have hmul : m.o + (off + i.toNat) * m.sz + 0 = m.o + off * m.sz + i.toNat * szT P e := by rw [← hsz, hms, Nat.add_mul]; omega
          rw [hmul]
          simp only [execOp, ho, he, h2', Instr.indexAt, asIntOf, Sem.run_bind, run_underlying hu, Result.andThen_ok, Sem.run_pure, hi0, hi1, and_self, if_true, run_sizeOf ht, Addr.add_lit]
        · exact h.elim
      · exact h.elim
    · exact h.elim
  · exact h.elim

theorem extract_sound {P : Program} {o : Oper} {fr : List SV} {rd : Mem} {x : Operand} {i : Nat} (ho : o.op = .extract x i) {K : Kt} (h : evExtract (evO fr x) i K) : ∃ v ups, SemOp P o fr rd v ups ∧ K v ups := by
  unfold evExtract at h
  split at h
  · rename_i l hx
    split at h
    · rename_i y hy
      refine ⟨_, _, SemOp.pure fun β ac hop => ?_, h⟩
      have h1 := hop x (by simp [ho, Op.operands])
      rw [hx] at h1
      obtain ⟨vs, he, hvs⟩ := h1
      obtain ⟨v, hv, hd⟩ := hvs.get hy
      exact ⟨v, fun w => by simp [execOp, ho, he, Instr.extract, hv], hd⟩
    · exact h.elim
  · exact h.elim
end Go.Sx
namespace Go.Sx

/-! ### literals -/
def fillC (place : Nat → Option (Nat × Nat)) (cells : List C) : List (Nat × SV) → Option (List C)
  | [] => some cells
  | (i, x) :: rest => (match x with
    | .o y => (match place i with
      | some (off, size) => if y.cells.length = size ∧ off + size ≤ cells.length ∧ y.cells.all C.ok = true then fillC place (repl cells off y.cells) rest else none
      | none => none)
    | .t _ => none)

theorem foldl_splice (off : Nat) : ∀ (xs : List Value) (k : Nat) (cs : Array Value), off + k + xs.length ≤ cs.size →
    ((xs.zipIdx k).foldl (fun cs (p : Value × Nat) => cs.setIfInBounds (off + p.2) p.1) cs).size = cs.size ∧
    ∀ q, ((xs.zipIdx k).foldl (fun cs (p : Value × Nat) => cs.setIfInBounds (off + p.2) p.1) cs)[q]? = if off + k ≤ q ∧ q < off + k + xs.length then xs[q - (off + k)]? else cs[q]?
  | [], k, cs, _ => by
    refine ⟨rfl, fun q => ?_⟩
    rw [if_neg (by simp only [List.length_nil]; omega)]
    rfl
  | x :: xs, k, cs, h => by
    simp only [List.length_cons] at h
    obtain ⟨h1, h2⟩ := foldl_splice off xs (k + 1) (cs.setIfInBounds (off + k) x) (by simp; omega)
    refine ⟨by simpa using h1, fun q => ?_⟩
    simp only [List.zipIdx_cons, List.foldl_cons, List.length_cons]
    rw [h2 q]
    by_cases hq : q = off + k
    · subst hq
      rw [if_neg (by omega), if_pos ⟨by omega, by omega⟩]
      simp [show off + k < cs.size by omega]
    · by_cases hr : off + (k + 1) ≤ q ∧ q < off + (k + 1) + xs.length
      · rw [if_pos hr, if_pos ⟨by omega, by omega⟩, show q - (off + k) = (q - (off + (k + 1))) + 1 by omega, List.getElem?_cons_succ]
      · rw [if_neg hr, if_neg (by omega), Array.getElem?_setIfInBounds_ne (by omega)]

theorem fillC_sound {β : Bet} {place : Nat → Option (Nat × Nat)} : ∀ (parts : List (Nat × SV)) (vals : List (Nat × Value)) (cells : List C) (cs : Array Value) (l : List C),
    fillC place cells parts = some l → denL β cs.toList cells → vals.length = parts.length → (∀ (i : Nat) (p : Nat × SV) (v : Nat × Value), parts[i]? = some p → vals[i]? = some v → v.1 = p.1 ∧ denS β v.2 p.2) →
    ∃ cs', Instr.fill place cs vals = some cs' ∧ denL β cs'.toList l
  | [], [], cells, cs, l, h, hd, _, _ => by
    simp only [fillC, Option.some.injEq] at h
    subst h
    exact ⟨cs, rfl, hd⟩
  | (i, x) :: parts, (i', v) :: vals, cells, cs, l, h, hd, hl, hp => by
    obtain ⟨e, hv⟩ := hp 0 _ _ rfl rfl
    simp only at e hv
    subst e
    unfold fillC at h
    split at h
    · rename_i y
      split at h
      · rename_i off size hpl
        split at h
        · rename_i hc
          obtain ⟨hc1, hc2, hok⟩ := hc
          obtain ⟨hcl, hone⟩ := den1.cells hv hok
          have hsz : v.cells.size = size := by have := hcl.length; simp at this; omega
          have hcs : cs.size = cells.length := by have := hd.length; simpa using this
          obtain ⟨f1, f2⟩ := foldl_splice off v.cells.toList 0 cs (by simp; omega)
          have hd' : denL β (v.cells.zipIdx.foldl (fun cs (p : Value × Nat) => cs.setIfInBounds (off + p.2) p.1) cs).toList (repl cells off y.cells) := by
            rw [← Array.foldl_toList, Array.toList_zipIdx]
            refine denL.of_get (by rw [Array.length_toList, f1, repl_length]; exact hcs) fun q xq cq hxq hcq => ?_
            rw [repl_get _ _ _ _ (by omega)] at hcq
            rw [Array.getElem?_toList, f2 q] at hxq
            simp only [Nat.add_zero, Array.length_toList] at hxq
            split at hcq
            · rename_i hr
              rw [if_pos ⟨hr.1, by omega⟩] at hxq
              obtain ⟨z, hz, hdz⟩ := hcl.get hcq
              rw [hz] at hxq
              cases hxq
              exact hdz
            · rename_i hr
              rw [if_neg (by omega)] at hxq
              obtain ⟨z, hz, hdz⟩ := hd.get hcq
              rw [Array.getElem?_toList] at hz
              rw [hz] at hxq
              cases hxq
              exact hdz
          obtain ⟨cs', h1, h2⟩ := fillC_sound parts vals _ _ l h hd' (by simpa using hl) (fun j p u hj hu => hp (j + 1) p u (by simpa using hj) (by simpa using hu))
          refine ⟨cs', ?_, h2⟩
          have hb1 : (decide (v.cells.size ≠ size) || decide (off + v.cells.size > cs.size)) = false := by
            simp only [Bool.or_eq_false_iff, decide_eq_false_iff_not]; omega
          simp only [Instr.fill, hpl, hb1]
          exact h1
        · cases h
      · cases h
    · cases h
  | [], _ :: _, _, _, _, _, _, hl, _ => by simp at hl
  | _ :: _, [], _, _, _, _, _, hl, _ => by simp at hl

def evParts (fr : List SV) : List (Nat × Operand) → List (Nat × SV)
  | [] => []
  | (i, x) :: r => (i, evO fr x) :: evParts fr r
theorem evParts_get (fr : List SV) : ∀ (ps : List (Nat × Operand)) (i : Nat), (evParts fr ps)[i]? = (ps[i]?).map fun p => (p.1, evO fr p.2)
  | [], i => by simp [evParts]
  | _ :: _, 0 => rfl
  | _ :: r, i + 1 => by simp [evParts, evParts_get fr r i]
theorem evParts_length (fr : List SV) : ∀ (ps : List (Nat × Operand)), (evParts fr ps).length = ps.length
  | [] => rfl
  | _ :: r => congrArg (· + 1) (evParts_length fr r)

theorem parts_den {β : Bet} {a : Act} {fr : List SV} {ps : Array (Nat × Operand)} (hop : ∀ p ∈ ps.toList, denS β (a.eval p.2) (evO fr p.2)) :
    ∀ (i : Nat) (p : Nat × SV) (v : Nat × Value), (evParts fr ps.toList)[i]? = some p → ((ps.map fun (i, x) => (i, a.eval x)).toList)[i]? = some v → v.1 = p.1 ∧ denS β v.2 p.2 := by
  intro i p v hp hv
  rw [evParts_get] at hp
  simp only [Array.toList_map, List.getElem?_map] at hv
  cases hq : ps.toList[i]? with
  | none => rw [hq] at hp; simp at hp
  | some q =>
    rw [hq] at hp hv
    simp at hp hv
    subst hp hv
    exact ⟨rfl, hop q (List.mem_of_getElem? hq)⟩

def buildC (P : Program) (t : TypeId) (parts : List (Nat × SV)) : Option (List C) :=
  match P.info? t, P.underlying t, zeroC P t with
  | some _, some (.array _ e), some z => (match P.info? e with
    | some ie => fillC (fun i => some (i * ie.size, ie.size)) z parts
    | none => none)
  | some _, some (.struct fields), some z => (match fields.toList.mapM (fun f => (P.info? f.type).map fun i => (f.offset, i.size)) with
    | some places => fillC (fun i => places[i]?) z parts
    | none => none)
  | _, _, _ => none
def evBuild (P : Program) (t : TypeId) (parts : List (Nat × SV)) (K : Kt) : Prop :=
  match buildC P t parts with
  | some l => K (.o (.a l)) []
  | none => False

theorem build_sound {P : Program} {o : Oper} {fr : List SV} {rd : Mem} {t : TypeId} {ps : Array (Nat × Operand)} (ho : o.op = .build t ps) {K : Kt} (h : evBuild P t (evParts fr ps.toList) K) : ∃ v ups, SemOp P o fr rd v ups ∧ K v ups := by
  unfold evBuild at h
  split at h
  · rename_i l hl
    refine ⟨_, _, SemOp.pure fun β ac hop => ?_, h⟩
    have hop' : ∀ p ∈ ps.toList, denS β (ac.eval p.2) (evO fr p.2) := fun p hp => hop p.2 (by simp only [ho, Op.operands, List.mem_toArray, List.mem_map]; exact ⟨p, hp, rfl⟩)
    have hpd := parts_den hop'
    have hb : ∃ cs, P.built t (ps.map fun (i, x) => (i, ac.eval x)).toList = some cs ∧ denL β cs.toList l := by
      unfold buildC at hl
      unfold Program.built
      split at hl
      · rename_i it _ e z hit hu hz
        split at hl
        · rename_i ie hie
          obtain ⟨zv, hzv, hzd⟩ := zeroC_sound hz β
          have hzz : it.zero = some zv := by
            have := hzv default
            simp only [zeroValue, typeInfo, Sem.run_bind, run_program, Result.andThen_ok, hit, Sem.run_pure] at this
            cases hzo : it.zero with
            | none => simp [hzo] at this
            | some zo => simp [hzo] at this; rw [this]
          obtain ⟨cs, h1, h2⟩ := fillC_sound _ _ _ _ l hl hzd (by simp [evParts_length]) hpd
          exact ⟨cs, by simp only [hit, hu, hzz, hie]; exact h1, h2⟩
        · cases hl
      · rename_i it fields z hit hu hz
        split at hl
        · rename_i places hpl
          obtain ⟨zv, hzv, hzd⟩ := zeroC_sound hz β
          have hzz : it.zero = some zv := by
            have := hzv default
            simp only [zeroValue, typeInfo, Sem.run_bind, run_program, Result.andThen_ok, hit, Sem.run_pure] at this
            cases hzo : it.zero with
            | none => simp [hzo] at this
            | some zo => simp [hzo] at this; rw [this]
          obtain ⟨cs, h1, h2⟩ := fillC_sound _ _ _ _ l hl hzd (by simp [evParts_length]) hpd
          exact ⟨cs, by simp only [hit, hu, hzz, hpl]; simpa using h1, h2⟩
        · cases hl
      · cases hl
    obtain ⟨cs, h1, h2⟩ := hb
    refine ⟨.agg cs, fun w => ?_, ⟨cs.toList, by simp, h2⟩⟩
    simp only [execOp, ho, Sem.run_bind, run_build w t _ cs h1, Result.andThen_ok, Sem.run_pure]
  · exact h.elim
end Go.Sx
namespace Go.Sx

def intsOf : List C → Option (IntKind × List Int)
  | [.v (.int k n)] => some (k, [n])
  | .v (.int k n) :: r => (match intsOf r with
    | some (k', xs) => if k = k' then some (k, n :: xs) else none
    | none => none)
  | _ => none
theorem intsOf_sound : ∀ (l : List C) (k : IntKind) (xs : List Int), intsOf l = some (k, xs) → l = xs.map fun n => .v (.int k n)
  | [], _, _, h => by simp [intsOf] at h
  | c :: r, k, xs, h => by
    unfold intsOf at h
    split at h
    · rename_i e; cases h; simp_all
    · rename_i k1 n1 r1 hne e
      simp only [List.cons.injEq] at e
      obtain ⟨rfl, rfl⟩ := e
      split at h
      · rename_i k' xs' he
        split at h
        · rename_i hk
          subst hk
          cases h
          rw [intsOf_sound _ _ _ he]
          rfl
        · cases h
      · cases h
    · cases h

def rowsBlk (l : List C) (len sz : Nat) : Bk := .rows sz len fun i => (l.drop (i * sz)).take sz
def litBlk (l : List C) (len sz : Nat) : Bk :=
  match intsOf l with
  | some (k, xs) => if sz = 1 then .ints k xs else rowsBlk l len sz
  | none => rowsBlk l len sz

theorem litBlk_noMap (l : List C) (len sz : Nat) : (litBlk l len sz).isMap = false := by
  unfold litBlk
  split
  · split <;> rfl
  · rfl

theorem rowsBlk_sound {l : List C} {len sz : Nat} (hl : l.length = len * sz) (hpos : 0 < sz) :
    (rowsBlk l len sz).fits sz ∧ (rowsBlk l len sz).need = l.length ∧ ∀ i j c, (rowsBlk l len sz).at i j = some c → l[i * sz + j]? = some c := by
  unfold rowsBlk
  refine ⟨.inr ⟨rfl, hpos, fun i hi => ?_⟩, by simp [Bk.need, Bk.n, Bk.sz, hl], fun i j c hc => ?_⟩
  · simp only [Bk.n, Bk.row, Bk.sz] at hi ⊢
    have : (i + 1) * sz ≤ len * sz := Nat.mul_le_mul_right _ hi
    rw [Nat.add_mul, Nat.one_mul] at this
    simp; omega
  · rw [Bk.at_some] at hc
    obtain ⟨hi, hc⟩ := hc
    simp only [Bk.n, Bk.row] at hi hc
    rw [List.getElem?_take] at hc
    split at hc
    · rw [List.getElem?_drop] at hc; exact hc
    · cases hc

theorem litBlk_sound {l : List C} {len sz : Nat} (hl : l.length = len * sz) (hpos : 0 < sz) :
    (litBlk l len sz).fits sz ∧ (litBlk l len sz).need = l.length ∧ ∀ i j c, (litBlk l len sz).at i j = some c → l[i * sz + j]? = some c := by
  unfold litBlk
  split
  · rename_i k xs he
    split
    · rename_i h1
      subst h1
      have e := intsOf_sound _ _ _ he
      refine ⟨.inr ⟨rfl, by simp [Bk.sz], fun i _ => rfl⟩, by rw [e]; simp [Bk.need, Bk.n, Bk.sz], fun i j c hc => ?_⟩
      rw [Bk.at_some] at hc
      obtain ⟨hi, hc⟩ := hc
      simp only [Bk.n, Bk.row] at hi hc
      cases j with
      | zero =>
        simp at hc
        subst hc
        rw [e]
        simp [hi]
      | succ j => simp at hc
    · exact rowsBlk_sound hl hpos
  · exact rowsBlk_sound hl hpos

/-- a new block of rows -/
theorem St.rows {W : World} {A : Nat → Prop} {β : Bet} {M : Mem} {w : World} (hSt : St W A β M w) {n : Nat} (hβ : β n = none) {c : Array Value} {T : TypeId} {l : List C} {len sz : Nat} (hd : denL β c.toList l) (hl : l.length = len * sz) (hpos : 0 < sz) :
    St W A (β.set n ⟨w.heap.size, 0, sz, l.length⟩) (M.put n (some ⟨litBlk l len sz, true⟩)) (w.alloc (.cells c T)) := by
  obtain ⟨h1, h2, h3⟩ := litBlk_sound hl hpos
  have := hd.length
  refine hSt.alloc hβ (litBlk_noMap l len sz) h1 (by omega) (by simp at this; omega) fun i j x hx => ?_
  obtain ⟨y, hy, hdy⟩ := hd.get (h3 i j x hx)
  exact ⟨y, by simpa using hy, hdy⟩

def zrep (z : List C) (n : Nat) : List C := (List.range n).map fun i => z.getD (i % z.length) .u
theorem den_rep {β : Bet} {zc : Array Value} {z : List C} (h : denL β zc.toList z) (n : Nat) (hz : 0 < z.length) : denL β ((Array.range n).map (zc[· % zc.size]!)).toList (zrep z n) := by
  have hl := h.length
  simp only [Array.length_toList] at hl
  refine denL.of_get (by simp [zrep]) fun i x c hx hc => ?_
  simp only [zrep, List.getElem?_map] at hc
  rw [Array.getElem?_toList] at hx
  simp only [Array.getElem?_map] at hx
  by_cases hi : i < n
  · have hr : (Array.range n)[i]? = some i := by simp [hi]
    have hr' : (List.range n)[i]? = some i := by simp [hi]
    rw [hr] at hx
    rw [hr'] at hc
    simp only [Option.map_some, Option.some.injEq] at hx hc
    subst hx hc
    have hm : i % z.length < z.length := Nat.mod_lt _ hz
    obtain ⟨y, hy, hd⟩ := h.get (List.getElem?_eq_getElem hm)
    rw [Array.getElem?_toList] at hy
    have e1 : zc[i % zc.size]! = y := by
      rw [hl]
      simp [getElem!_def, hy]
    have e2 : z.getD (i % z.length) .u = z[i % z.length] := by simp [hm]
    rw [e1, e2]
    exact hd
  · simp [hi] at hc

def evBuildSlice (P : Program) (t : TypeId) (len : Nat) (parts : List (Nat × SV)) (nm : Nat) (K : Kt) : Prop :=
  match P.underlying t with
  | some (.slice e) => (match P.info? e, zeroC P e with
    | some ie, some z => if 0 < ie.size ∧ z.length = ie.size ∧ 0 < len ∧ len * ie.size ≤ 2 ^ 24 then
        (match fillC (fun i => some (i * ie.size, ie.size)) (zrep z (len * ie.size)) parts with
        | some l => K (.o (.c (.s nm 0 len ie.size))) [(nm, some ⟨litBlk l len ie.size, true⟩)]
        | none => False) else False
    | _, _ => False)
  | _ => False

/-- a slice literal without elements -/
def evBuild0 (P : Program) (t : TypeId) (len : Nat) (parts : List (Nat × SV)) (nm : Nat) (K : Kt) : Prop :=
  match len, parts with
  | 0, [] => (match P.underlying t with
    | some (.slice e) => (match P.info? e with | some _ => K (.o (.c .z)) [] | none => False)
    | _ => False)
  | len, parts => evBuildSlice P t len parts nm K
theorem St.push {W : World} {A : Nat → Prop} {β : Bet} {M : Mem} {w : World} (hSt : St W A β M w) (ob : Obj) : St W A β M (w.alloc ob) := by
  have hold : ∀ q, q < w.heap.size → (w.alloc ob).heap[q]? = w.heap[q]? := fun q hq => by
    show (w.heap.push _)[q]? = _
    rw [Array.getElem?_push, if_neg (by omega)]
  exact hSt.change rfl rfl rfl (by simp) (Bet.le_refl β) (fun _ => False) (fun _ _ h _ => h) (fun _ _ _ h => h.elim) (fun b hb => .inl (hold b hb)) (fun _ _ _ _ _ h => h.elim) (fun _ _ _ _ _ _ _ h => h.elim)
theorem fillC_length {place : Nat → Option (Nat × Nat)} : ∀ (parts : List (Nat × SV)) (cells l : List C), fillC place cells parts = some l → l.length = cells.length
  | [], cells, l, h => by simp [fillC] at h; rw [h]
  | (i, x) :: parts, cells, l, h => by
    unfold fillC at h
    split at h
    · split at h
      · split at h
        · rw [fillC_length parts _ l h, repl_length]
        · cases h
      · cases h
    · cases h

theorem buildSlice_sound {P : Program} {o : Oper} {fr : List SV} {rd : Mem} {nm : Nat} (hnm : rd.get nm = none) {t : TypeId} {len : Nat} {ps : Array (Nat × Operand)} (ho : o.op = .buildSlice t len ps) {K : Kt}
    (h : evBuildSlice P t len (evParts fr ps.toList) nm K) : ∃ v ups, SemOp P o fr rd v ups ∧ K v ups := by
  unfold evBuildSlice at h
  split at h
  · rename_i e hu
    split at h
    · rename_i ie z hie hz
      split at h
      · rename_i hc
        obtain ⟨hpos, hzl, hlen, hsmall⟩ := hc
        split at h
        · rename_i l hl
          refine ⟨_, _, ?_, h⟩
          intro W A β M w a next Q hSt hop hrd hfresh hn
          have hop' : ∀ p ∈ ps.toList, denS β (a.eval p.2) (evO fr p.2) := fun p hp => hop p.2 (by simp only [ho, Op.operands, List.mem_toArray, List.mem_map]; exact ⟨p, hp, rfl⟩)
          obtain ⟨zv, hzv, hzd⟩ := zeroC_sound hz β
          have hzz : ie.zero = some zv := by
            have := hzv default
            simp only [zeroValue, typeInfo, Sem.run_bind, run_program, Result.andThen_ok, hie, Sem.run_pure] at this
            cases hzo : ie.zero with
            | none => simp [hzo] at this
            | some zo => simp [hzo] at this; rw [this]
          obtain ⟨cs, h1, h2⟩ := fillC_sound _ (ps.map fun (i, x) => (i, a.eval x)).toList _ _ l hl (den_rep hzd (len * ie.size) (by omega)) (by simp [evParts_length]) (parts_den hop')
          have hll : l.length = len * ie.size := by rw [fillC_length _ _ _ hl]; simp [zrep]
          obtain ⟨hβ, _⟩ := hfresh nm (by simp [Ups.has]) hnm
          have hne : ¬ len * ie.size = 0 := by have := Nat.mul_pos hlen hpos; omega
          refine wp_value (w' := w.alloc (.cells cs e)) (v := .slice (some ⟨w.heap.size, 0, none⟩) len len) ?_ (hn _ _ _ (Bet.set_le hβ) (fun q h1 h2 => by have := Bet.set_dom h1 h2; subst this; simp [Ups.has]) (hSt.rows hβ h2 hll hpos) ?_)
          · simp only [execOp, ho, Sem.run_bind, run_buildSlice w t e len _ cs ie zv hu hie hzz (by omega) hne h1, Result.andThen_ok, Sem.run_pure]
          · refine ⟨_, len, _, Bet.set_same _ _ _, rfl, rfl, Nat.le_refl _, ?_, .inr ⟨by simp, by simp [hll]⟩⟩
            have : len * 1 ≤ len * ie.size := Nat.mul_le_mul_left _ hpos
            simp only [maxLen]
            omega
        · exact h.elim
      · exact h.elim
    · exact h.elim
  · exact h.elim

theorem build0_sound {P : Program} {o : Oper} {fr : List SV} {rd : Mem} {nm : Nat} (hnm : rd.get nm = none) {t : TypeId} {len : Nat} {ps : Array (Nat × Operand)} (ho : o.op = .buildSlice t len ps) {K : Kt}
    (h : evBuild0 P t len (evParts fr ps.toList) nm K) : ∃ v ups, SemOp P o fr rd v ups ∧ K v ups := by
  unfold evBuild0 at h
  split at h
  · rename_i hp
    split at h
    · rename_i e hu
      split at h
      · rename_i ie hie
        refine ⟨_, _, ?_, h⟩
        intro W A β M w a next Q hSt hop hrd hfresh hn
        have hps : ps = #[] := by
          have hl := evParts_length fr ps.toList
          rw [hp] at hl
          exact Array.eq_empty_of_size_eq_zero (by simpa using hl.symm)
        refine wp_value (w' := w.alloc (.cells #[] e)) (v := .slice (some ⟨w.heap.size, 0, none⟩) 0 0) ?_ (hn _ _ β (Bet.le_refl β) (fun q h1 h2 => absurd h1 h2) (hSt.push _) ⟨_, rfl⟩)
        have hr : Array.map (fun _ => (default : Value)) (Array.range 0) = #[] := by apply Array.eq_empty_of_size_eq_zero; simp
        simp [execOp, ho, hps, Instr.buildSlice, run_underlying hu, sizeOf, typeInfo, hie, newRow, Instr.fill, hr]
      · exact h.elim
    · exact h.elim
  · exact buildSlice_sound hnm ho h

/-! ### make -/
def madeBlk (z : List C) (n : Nat) : Bk :=
  match z with
  | [.v (.int k x)] => .ints k (List.replicate n x)
  | [.v (.bool b)] => .bools (List.replicate n b)
  | z => .rows z.length n fun _ => z
theorem madeBlk_noMap (z : List C) (n : Nat) : (madeBlk z n).isMap = false := by
  unfold madeBlk
  split <;> rfl
theorem madeBlk_sound {z : List C} {n : Nat} (hz : 0 < z.length) :
    (madeBlk z n).fits z.length ∧ (madeBlk z n).need = n * z.length ∧ ∀ i j c, (madeBlk z n).at i j = some c → i < n ∧ z[j]? = some c := by
  unfold madeBlk
  split
  · refine ⟨.inr ⟨rfl, by simp [Bk.sz], fun i _ => rfl⟩, by simp [Bk.need, Bk.n, Bk.sz], fun i j c hc => ?_⟩
    rw [Bk.at_some] at hc
    obtain ⟨hi, hc⟩ := hc
    simp only [Bk.n, Bk.row, List.length_replicate] at hi hc
    refine ⟨hi, ?_⟩
    have e : (List.replicate n ‹Int›).getD i 0 = ‹Int› := by simp [hi]
    rw [e] at hc
    exact hc
  · refine ⟨.inr ⟨rfl, by simp [Bk.sz], fun i _ => rfl⟩, by simp [Bk.need, Bk.n, Bk.sz], fun i j c hc => ?_⟩
    rw [Bk.at_some] at hc
    obtain ⟨hi, hc⟩ := hc
    simp only [Bk.n, Bk.row, List.length_replicate] at hi hc
    refine ⟨hi, ?_⟩
    have e : (List.replicate n ‹Bool›).getD i false = ‹Bool› := by simp [hi]
    rw [e] at hc
    exact hc
  · refine ⟨.inr ⟨rfl, hz, fun i _ => rfl⟩, by simp [Bk.need, Bk.n, Bk.sz], fun i j c hc => ?_⟩
    rw [Bk.at_some] at hc
    obtain ⟨hi, hc⟩ := hc
    exact ⟨hi, hc⟩

def evMake (P : Program) (t : TypeId) (len cap : SV) (nm : Nat) (K : Kt) : Prop :=
  match len, cap with
  | .o (.c (.v (.int _ l))), .o (.c (.v (.int _ c))) => (match P.underlying t with
    | some (.slice e) => (match P.info? e, zeroC P e with
      | some ie, some z => if 0 < ie.size ∧ z.length = ie.size ∧ ie.bytes ≤ 16384 then
          (0 ≤ l ∧ l = c ∧ c ≤ 4294967296) ∧ K (.o (.c (.s nm 0 l.toNat ie.size))) [(nm, some ⟨madeBlk z l.toNat, true⟩)] else False
      | _, _ => False)
    | _ => False)
  | _, _ => False

theorem make_sound {P : Program} {o : Oper} {fr : List SV} {rd : Mem} {nm : Nat} (hnm : rd.get nm = none) {t : TypeId} {x y : Operand} (ho : o.op = .makeSlice t x y) {K : Kt}
    (h : evMake P t (evO fr x) (evO fr y) nm K) : ∃ v ups, SemOp P o fr rd v ups ∧ K v ups := by
  unfold evMake at h
  split at h
  · rename_i k l k' c hx hy
    split at h
    · rename_i e hu
      split at h
      · rename_i ie z hie hz
        split at h
        · rename_i hc
          obtain ⟨hpos, hzl, hby⟩ := hc
          obtain ⟨⟨hl0, hlc, hmax⟩, h⟩ := h
          subst hlc
          refine ⟨_, _, ?_, h⟩
          intro W A β M w a next Q hSt hop hrd hfresh hn
          have h1 := hop x (by simp [ho, Op.operands])
          have h2 := hop y (by simp [ho, Op.operands])
          rw [hx] at h1
          rw [hy] at h2
          have h1' : a.eval x = .int k l := h1
          have h2' : a.eval y = .int k' l := h2
          obtain ⟨zv, hzv, hzd⟩ := zeroC_sound hz β
          have hzz : ie.zero = some zv := by
            have := hzv default
            simp only [zeroValue, typeInfo, Sem.run_bind, run_program, Result.andThen_ok, hie, Sem.run_pure] at this
            cases hzo : ie.zero with
            | none => simp [hzo] at this
            | some zo => simp [hzo] at this; rw [this]
          have hbytes : (ie.bytes : Int) * l ≤ 281474976710656 := by
            have h3 : (ie.bytes : Int) * l ≤ 16384 * 4294967296 := Int.mul_le_mul (by omega) hmax hl0 (by omega)
            omega
          have hr := run_make (P := P) w t e ie zv hu hie hzz k k' l l hl0 (Int.le_refl _) hbytes (by omega)
          obtain ⟨hβ, _⟩ := hfresh nm (by simp [Ups.has]) hnm
          obtain ⟨m1, m2, m3⟩ := madeBlk_sound (z := z) (n := l.toNat) (by omega)
          have hden := den_rep hzd (l.toNat * ie.size) (by omega)
          refine wp_value (w' := w.alloc (.cells (madeCells zv.cells (l.toNat * ie.size)) e)) (v := .slice (some ⟨w.heap.size, 0, none⟩) l.toNat l.toNat) ?_
            (hn _ _ (β.set nm ⟨w.heap.size, 0, ie.size, l.toNat * ie.size⟩) (Bet.set_le hβ) (fun q h1 h2 => by have := Bet.set_dom h1 h2; subst this; simp [Ups.has])
              (hSt.alloc hβ (madeBlk_noMap _ _) (by rw [← hzl]; exact m1) (by rw [m2, hzl]; exact Nat.le_refl _) (by rw [size_madeCells]; exact Nat.le_refl _) fun i j c hc => ?_) ?_)
          · simp only [execOp, ho, h1', h2', Sem.run_bind, hr, Result.andThen_ok, Sem.run_pure]
          · obtain ⟨hi, hj⟩ := m3 i j c hc
            have hjl : j < z.length := (List.getElem?_eq_some_iff.1 hj).1
            have hlt : i * ie.size + j < l.toNat * ie.size := by
              have : (i + 1) * ie.size ≤ l.toNat * ie.size := Nat.mul_le_mul_right _ hi
              rw [Nat.add_mul, Nat.one_mul] at this
              omega
            have hzc : (zrep z (l.toNat * ie.size))[i * ie.size + j]? = some c := by
              simp only [zrep, List.getElem?_map]
              rw [show (List.range (l.toNat * ie.size))[i * ie.size + j]? = some (i * ie.size + j) by simp [hlt]]
              simp only [Option.map_some, Option.some.injEq]
              rw [hzl, Nat.add_comm, Nat.add_mul_mod_self_right, Nat.mod_eq_of_lt (by omega)]
              simp [List.getD, hj]
            obtain ⟨y', hy', hd'⟩ := hden.get hzc
            rw [Array.getElem?_toList] at hy'
            exact ⟨y', hy', hd'⟩
          · refine ⟨_, l.toNat, _, Bet.set_same _ _ _, rfl, rfl, Nat.le_refl _, ?_, .inr ⟨by simp, by simp⟩⟩
            simp only [maxLen]
            omega
        · exact h.elim
      · exact h.elim
    · exact h.elim
  · exact h.elim
end Go.Sx
namespace Go.Sx

def oInt : Option SV → Option (Option Int)
  | none => some none
  | some (.o (.c (.v (.int _ n)))) => some (some n)
  | some _ => none
def isZero : Option Operand → Bool
  | some (.const (.int _ n)) => n == 0
  | _ => false

def evSlice (P : Program) (t : TypeId) (x : SV) (lo hi mx : Option SV) (mz : Bool) (K : Kt) : Prop :=
  match P.underlying t with
  | some (.slice e) => (match x, oInt lo, oInt hi, oInt mx with
    | .o (.c (.s n off len sz)), some none, some none, some none => if okT P e = true ∧ sz = szT P e then K (.o (.c (.s n off len sz))) [] else False
    | .o (.c (.s n off len sz)), some none, some (some h), some none => if okT P e = true ∧ sz = szT P e then (0 ≤ h ∧ h ≤ (len : Int)) ∧ K (.o (.c (.s n off h.toNat sz))) [] else False
    | .o (.c (.s n off len sz)), some (some l), some none, some none => if okT P e = true ∧ sz = szT P e then (0 ≤ l ∧ l ≤ (len : Int)) ∧ K (.o (.c (.s n (off + l.toNat) (len - l.toNat) sz))) [] else False
    | .o (.c (.s n off len sz)), some (some l), some (some h), some none => if okT P e = true ∧ sz = szT P e then (0 ≤ l ∧ l ≤ h ∧ h ≤ (len : Int)) ∧ K (.o (.c (.s n (off + l.toNat) (h.toNat - l.toNat) sz))) [] else False
    | .o (.c (.s n off len sz)), some none, some (some h), some (some m) => (match mz with
      | true => if okT P e = true then (h = 0 ∧ m = 0) ∧ K (.o (.c .z)) [] else False
      | false => if okT P e = true ∧ sz = szT P e then (0 ≤ h ∧ h = m ∧ h ≤ (len : Int)) ∧ K (.o (.c (.s n off h.toNat sz))) [] else False)
    | .o (.c .z), some none, some (some h), some (some m) => if okT P e = true then (h = 0 ∧ m = 0) ∧ K (.o (.c .z)) [] else False
    | .o (.c (.v (.slice none 0 0))), some none, some (some h), some (some m) => if okT P e = true then (h = 0 ∧ m = 0) ∧ K (.o (.c (.v (.slice none 0 0)))) [] else False
    | _, _, _, _ => False)
  | _ => False

theorem run_sliceBounds {P : Program} {w : World} {len cap : Nat} {lo hi mx : Option Value} {l h m : Nat}
    (hm : match mx with | some v => ∃ k, v = .int k (m : Int) ∧ m ≤ cap | none => m = cap)
    (hh : match hi, mx with | some v, _ => ∃ k, v = .int k (h : Int) ∧ h ≤ m | none, some _ => False | none, none => h = len)
    (hl : match lo with | some v => ∃ k, v = .int k (l : Int) ∧ l ≤ h | none => l = 0) : (Instr.sliceBounds true len cap lo hi mx).run P w = .ok (l, h, m) w := by
  cases mx with
  | none =>
    simp only at hm
    subst hm
    cases hi with
    | none =>
      simp only at hh
      subst hh
      cases lo with
      | none => simp only at hl; subst hl; simp [Instr.sliceBounds]
      | some v => obtain ⟨k, rfl, hle⟩ := hl; simp [Instr.sliceBounds, Instr.sliceBound, asIntOf, hle]
    | some v =>
      obtain ⟨k, rfl, hhe⟩ := hh
      cases lo with
      | none => simp only at hl; subst hl; simp [Instr.sliceBounds, Instr.sliceBound, asIntOf, hhe]
      | some v => obtain ⟨k, rfl, hle⟩ := hl; simp [Instr.sliceBounds, Instr.sliceBound, asIntOf, hle, hhe]
  | some v =>
    obtain ⟨k, rfl, hme⟩ := hm
    cases hi with
    | none => exact hh.elim
    | some v =>
      obtain ⟨k, rfl, hhe⟩ := hh
      cases lo with
      | none => simp only at hl; subst hl; simp [Instr.sliceBounds, Instr.sliceBound, asIntOf, hhe, hme]
      | some v => obtain ⟨k, rfl, hle⟩ := hl; simp [Instr.sliceBounds, Instr.sliceBound, asIntOf, hle, hhe, hme]

theorem run_slice {P : Program} {w : World} {t e : TypeId} (hu : P.underlying t = some (.slice e)) (he : okT P e = true) {A : Option Addr} {len cap l h m : Nat} {lo hi mx : Option Value}
    (hb : (Instr.sliceBounds true len cap lo hi mx).run P w = .ok (l, h, m) w) :
    (Instr.sliceAt t (.slice A len cap) lo hi mx).run P w = .ok (.slice (if m = l then A else A.map (·.add (l * szT P e))) (h - l) (m - l)) w := by
  simp only [Instr.sliceAt, Instr.slice, Sem.run_bind, run_underlying hu, Result.andThen_ok, hb, run_sizeOf he, Sem.run_pure]

/-- a part of a slice is one -/
theorem den_slice {β : Bet} {A : Option Addr} {len cap l h m n off sz s : Nat} (hd : denC β (.slice A len cap) (.s n off len sz)) (hs : sz = s) (hlh : l ≤ h) (hhm : h ≤ m) (hmc : m ≤ cap) :
    denC β (.slice (if m = l then A else A.map (·.add (l * s))) (h - l) (m - l)) (.s n (off + l) (h - l) sz) := by
  obtain ⟨A', cap', nm, hn, hv, hz, hlc, hcm, hA⟩ := hd
  cases hv
  subst hs
  refine ⟨_, _, nm, hn, rfl, hz, by omega, by omega, ?_⟩
  by_cases hml : m = l
  · exact .inl (by omega)
  · rw [if_neg hml]
    rcases hA with h0 | ⟨rfl, hroom⟩
    · exact .inl (by omega)
    · refine .inr ⟨?_, ?_⟩
      · simp only [Option.map_some, Addr.add_lit, hz, Nat.add_mul, Nat.add_assoc]
      · have : (off + l + (m - l)) * nm.sz ≤ (off + cap) * nm.sz := Nat.mul_le_mul_right _ (by omega)
        omega

theorem int_toNat {n : Int} (h : 0 ≤ n) : n = ((n.toNat : Nat) : Int) := (Int.toNat_of_nonneg h).symm

theorem slice_sound {P : Program} {o : Oper} {fr : List SV} {rd : Mem} {t : TypeId} {x : Operand} {lo hi mx : Option Operand} (ho : o.op = .slice t x lo hi mx) {K : Kt}
    (h : evSlice P t (evO fr x) (lo.map (evO fr)) (hi.map (evO fr)) (mx.map (evO fr)) (isZero mx) K) : ∃ v ups, SemOp P o fr rd v ups ∧ K v ups := by
  have hmem : x ∈ o.op.operands ∧ (∀ y, lo = some y → y ∈ o.op.operands) ∧ (∀ y, hi = some y → y ∈ o.op.operands) ∧ (∀ y, mx = some y → y ∈ o.op.operands) := by
    simp only [ho, Op.operands]
    refine ⟨by simp, fun y e => by simp [e], fun y e => by simp [e], fun y e => by simp [e]⟩
  obtain ⟨hx, hlo, hhi, hmx⟩ := hmem
  have oIn : ∀ (q : Option Operand), oInt (q.map (evO fr)) = some none → q = none := by
    intro q hq
    cases q with
    | none => rfl
    | some y =>
      simp only [Option.map_some] at hq
      unfold oInt at hq
      split at hq
      · rename_i e; cases e
      · cases hq
      · cases hq
  have oIs : ∀ (q : Option Operand) (n : Int), oInt (q.map (evO fr)) = some (some n) → ∃ y k, q = some y ∧ evO fr y = .o (.c (.v (.int k n))) := by
    intro q n hq
    cases q with
    | none => cases hq
    | some y =>
      simp only [Option.map_some] at hq
      unfold oInt at hq
      split at hq
      · cases hq
      · rename_i k n e
        cases hq
        exact ⟨y, k, rfl, by simpa using e⟩
      · cases hq
  unfold evSlice at h
  split at h
  · rename_i e hu
    split at h
    · rename_i n off len sz ex el eh em
      split at h
      · rename_i hc
        obtain ⟨he, hsz⟩ := hc
        obtain rfl := oIn _ el
        obtain rfl := oIn _ eh
        obtain rfl := oIn _ em
        refine ⟨_, _, SemOp.pure fun β ac hop => ?_, h⟩
        have h1 := hop x hx
        rw [ex] at h1
        obtain ⟨A, cap, nm, hn, hv, hr⟩ := id h1
        have hd : denC β (.slice A len cap) (.s n off len sz) := by rw [← hv]; exact h1
        have hden := den_slice (l := 0) (h := len) (m := cap) hd hsz (Nat.zero_le _) hr.2.1 (Nat.le_refl _)
        refine ⟨_, fun w => ?_, hden⟩
        simp only [execOp, ho, hv, Option.map_none, Sem.run_bind, run_slice hu he (run_sliceBounds (lo := none) (hi := none) (mx := none) (l := 0) (h := len) (m := cap) rfl rfl rfl), Result.andThen_ok, Sem.run_pure]
      · exact h.elim
    · rename_i n off len sz hh ex el eh em
      split at h
      · rename_i hc
        obtain ⟨he, hsz⟩ := hc
        obtain ⟨⟨hh0, hh1⟩, h⟩ := h
        obtain rfl := oIn _ el
        obtain ⟨yh, kh, rfl, evh⟩ := oIs _ _ eh
        obtain rfl := oIn _ em
        refine ⟨_, _, SemOp.pure fun β ac hop => ?_, h⟩
        have h1 := hop x hx
        rw [ex] at h1
        have h2 := hop yh (hhi _ rfl)
        rw [evh] at h2
        have h2' : ac.eval yh = .int kh hh := h2
        obtain ⟨A, cap, nm, hn, hv, hr⟩ := id h1
        have hd : denC β (.slice A len cap) (.s n off len sz) := by rw [← hv]; exact h1
        have hden := den_slice (l := 0) (h := hh.toNat) (m := cap) hd hsz (Nat.zero_le _) (by have := hr.2.1; omega) (Nat.le_refl _)
        refine ⟨_, fun w => ?_, hden⟩
        simp only [execOp, ho, hv, h2', Option.map_none, Option.map_some, Sem.run_bind, run_slice hu he (run_sliceBounds (lo := none) (hi := some (.int kh hh)) (mx := none) (l := 0) (h := hh.toNat) (m := cap) rfl ⟨kh, by rw [← int_toNat hh0], by have := hr.2.1; omega⟩ rfl), Result.andThen_ok, Sem.run_pure]
      · exact h.elim
    · rename_i n off len sz ll ex el eh em
      split at h
      · rename_i hc
        obtain ⟨he, hsz⟩ := hc
        obtain ⟨⟨hl0, hl1⟩, h⟩ := h
        obtain ⟨yl, kl, rfl, evl⟩ := oIs _ _ el
        obtain rfl := oIn _ eh
        obtain rfl := oIn _ em
        refine ⟨_, _, SemOp.pure fun β ac hop => ?_, h⟩
        have h1 := hop x hx
        rw [ex] at h1
        have h2 := hop yl (hlo _ rfl)
        rw [evl] at h2
        have h2' : ac.eval yl = .int kl ll := h2
        obtain ⟨A, cap, nm, hn, hv, hr⟩ := id h1
        have hd : denC β (.slice A len cap) (.s n off len sz) := by rw [← hv]; exact h1
        have hden := den_slice (l := ll.toNat) (h := len) (m := cap) hd hsz (by omega) (by have := hr.2.1; omega) (Nat.le_refl _)
        refine ⟨_, fun w => ?_, hden⟩
        simp only [execOp, ho, hv, h2', Option.map_none, Option.map_some, Sem.run_bind, run_slice hu he (run_sliceBounds (lo := some (.int kl ll)) (hi := none) (mx := none) (l := ll.toNat) (h := len) (m := cap) rfl rfl ⟨kl, by rw [← int_toNat hl0], by omega⟩), Result.andThen_ok, Sem.run_pure]
      · exact h.elim
    · rename_i n off len sz ll hh ex el eh em
      split at h
      · rename_i hc
        obtain ⟨he, hsz⟩ := hc
        obtain ⟨⟨hl0, hl1, hl2⟩, h⟩ := h
        obtain ⟨yl, kl, rfl, evl⟩ := oIs _ _ el
        obtain ⟨yh, kh, rfl, evh⟩ := oIs _ _ eh
        obtain rfl := oIn _ em
        refine ⟨_, _, SemOp.pure fun β ac hop => ?_, h⟩
        have h1 := hop x hx
        rw [ex] at h1
        have h2 := hop yl (hlo _ rfl)
        rw [evl] at h2
        have h2' : ac.eval yl = .int kl ll := h2
        have h3 := hop yh (hhi _ rfl)
        rw [evh] at h3
        have h3' : ac.eval yh = .int kh hh := h3
        obtain ⟨A, cap, nm, hn, hv, hr⟩ := id h1
        have hd : denC β (.slice A len cap) (.s n off len sz) := by rw [← hv]; exact h1
        have hden := den_slice (l := ll.toNat) (h := hh.toNat) (m := cap) hd hsz (by omega) (by have := hr.2.1; omega) (Nat.le_refl _)
        refine ⟨_, fun w => ?_, hden⟩
        simp only [execOp, ho, hv, h2', h3', Option.map_none, Option.map_some, Sem.run_bind, run_slice hu he (run_sliceBounds (lo := some (.int kl ll)) (hi := some (.int kh hh)) (mx := none) (l := ll.toNat) (h := hh.toNat) (m := cap) rfl ⟨kh, by rw [← int_toNat (by omega)], by have := hr.2.1; omega⟩ ⟨kl, by rw [← int_toNat hl0], by omega⟩), Result.andThen_ok, Sem.run_pure]
      · exact h.elim
    · rename_i n off len sz hh mm ex el eh em
      obtain rfl := oIn _ el
      obtain ⟨yh, kh, rfl, evh⟩ := oIs _ _ eh
      obtain ⟨ym, km, rfl, evm⟩ := oIs _ _ em
      split at h
      · split at h
        · rename_i he
          obtain ⟨⟨rfl, rfl⟩, h⟩ := h
          refine ⟨_, _, SemOp.pure fun β ac hop => ?_, h⟩
          have h1 := hop x hx
          rw [ex] at h1
          have h2 := hop yh (hhi _ rfl)
          rw [evh] at h2
          have h2' : ac.eval yh = .int kh 0 := h2
          have h3 := hop ym (hmx _ rfl)
          rw [evm] at h3
          have h3' : ac.eval ym = .int km 0 := h3
          obtain ⟨A, cap, nm, hn, hv, hr⟩ := id h1
          refine ⟨.slice A 0 0, fun w => ?_, ⟨A, rfl⟩⟩
          have hb := run_sliceBounds (P := P) (w := w) (len := len) (cap := cap) (lo := none) (hi := some (.int kh 0)) (mx := some (.int km 0)) (l := 0) (h := 0) (m := 0) ⟨km, rfl, Nat.zero_le _⟩ ⟨kh, rfl, Nat.le_refl _⟩ rfl
          simp only [execOp, ho, hv, h2', h3', Option.map_none, Option.map_some, Sem.run_bind, run_slice hu he hb, Result.andThen_ok, Sem.run_pure, if_true, Nat.sub_self]
        · exact h.elim
      · split at h
        · rename_i hc
          obtain ⟨he, hsz⟩ := hc
          obtain ⟨⟨hh0, rfl, hh1⟩, h⟩ := h
          refine ⟨_, _, SemOp.pure fun β ac hop => ?_, h⟩
          have h1 := hop x hx
          rw [ex] at h1
          have h2 := hop yh (hhi _ rfl)
          rw [evh] at h2
          have h2' : ac.eval yh = .int kh hh := h2
          have h3 := hop ym (hmx _ rfl)
          rw [evm] at h3
          have h3' : ac.eval ym = .int km hh := h3
          obtain ⟨A, cap, nm, hn, hv, hr⟩ := id h1
          have hd : denC β (.slice A len cap) (.s n off len sz) := by rw [← hv]; exact h1
          have hden := den_slice (l := 0) (h := hh.toNat) (m := hh.toNat) hd hsz (Nat.zero_le _) (Nat.le_refl _) (by have := hr.2.1; omega)
          refine ⟨_, fun w => ?_, hden⟩
          simp only [execOp, ho, hv, h2', h3', Option.map_none, Option.map_some, Sem.run_bind, run_slice hu he (run_sliceBounds (len := len) (cap := cap) (lo := none) (hi := some (.int kh hh)) (mx := some (.int km hh)) (l := 0) (h := hh.toNat) (m := hh.toNat) ⟨km, by rw [← int_toNat hh0], by have := hr.2.1; omega⟩ ⟨kh, by rw [← int_toNat hh0], Nat.le_refl _⟩ rfl), Result.andThen_ok, Sem.run_pure]
        · exact h.elim
    · rename_i hh mm ex el eh em
      obtain rfl := oIn _ el
      obtain ⟨yh, kh, rfl, evh⟩ := oIs _ _ eh
      obtain ⟨ym, km, rfl, evm⟩ := oIs _ _ em
      split at h
      · rename_i he
        obtain ⟨⟨rfl, rfl⟩, h⟩ := h
        refine ⟨_, _, SemOp.pure fun β ac hop => ?_, h⟩
        have h1 := hop x hx
        rw [ex] at h1
        have h2 := hop yh (hhi _ rfl)
        rw [evh] at h2
        have h2' : ac.eval yh = .int kh 0 := h2
        have h3 := hop ym (hmx _ rfl)
        rw [evm] at h3
        have h3' : ac.eval ym = .int km 0 := h3
        obtain ⟨A, hv⟩ := id h1
        refine ⟨.slice A 0 0, fun w => ?_, ⟨A, rfl⟩⟩
        have hb := run_sliceBounds (P := P) (w := w) (len := 0) (cap := 0) (lo := none) (hi := some (.int kh 0)) (mx := some (.int km 0)) (l := 0) (h := 0) (m := 0) ⟨km, rfl, Nat.zero_le _⟩ ⟨kh, rfl, Nat.le_refl _⟩ rfl
        simp only [execOp, ho, hv, h2', h3', Option.map_none, Option.map_some, Sem.run_bind, run_slice hu he hb, Result.andThen_ok, Sem.run_pure, if_true, Nat.sub_self]
      · exact h.elim
    · rename_i hh mm ex el eh em
      obtain rfl := oIn _ el
      obtain ⟨yh, kh, rfl, evh⟩ := oIs _ _ eh
      obtain ⟨ym, km, rfl, evm⟩ := oIs _ _ em
      split at h
      · rename_i he
        obtain ⟨⟨rfl, rfl⟩, h⟩ := h
        refine ⟨_, _, SemOp.pure fun β ac hop => ?_, h⟩
        have h1 := hop x hx
        rw [ex] at h1
        have h2 := hop yh (hhi _ rfl)
        rw [evh] at h2
        have h2' : ac.eval yh = .int kh 0 := h2
        have h3 := hop ym (hmx _ rfl)
        rw [evm] at h3
        have h3' : ac.eval ym = .int km 0 := h3
        have hv : ac.eval x = .slice none 0 0 := h1
        refine ⟨.slice none 0 0, fun w => ?_, rfl⟩
        have hb := run_sliceBounds (P := P) (w := w) (len := 0) (cap := 0) (lo := none) (hi := some (.int kh 0)) (mx := some (.int km 0)) (l := 0) (h := 0) (m := 0) ⟨km, rfl, Nat.zero_le _⟩ ⟨kh, rfl, Nat.le_refl _⟩ rfl
        simp only [execOp, ho, hv, h2', h3', Option.map_none, Option.map_some, Sem.run_bind, run_slice hu he hb, Result.andThen_ok, Sem.run_pure, if_true, Nat.sub_self]
      · exact h.elim
    · exact h.elim
  · exact h.elim
end Go.Sx
namespace Go.Sx

def Bk.sub (k : Bk) (off len : Nat) : Bk :=
  match k with
  | .ints ki xs => .ints ki ((xs.drop off).take len)
  | .bools xs => .bools ((xs.drop off).take len)
  | k => .rows k.sz len fun i => k.row (off + i)
def catRows (sz : Nat) (k : Bk) (off len : Nat) (k2 : Bk) (off2 len2 : Nat) : Bk := .rows sz (len + len2) fun i => if i < len then k.row (off + i) else k2.row (off2 + (i - len))
def Bk.cat (k : Bk) (off len : Nat) (k2 : Bk) (off2 len2 : Nat) : Bk :=
  match k, k2 with
  | .ints a xs, .ints b ys => if a = b then .ints a ((xs.drop off).take len ++ (ys.drop off2).take len2) else catRows 1 (.ints a xs) off len (.ints b ys) off2 len2
  | .bools xs, .bools ys => .bools ((xs.drop off).take len ++ (ys.drop off2).take len2)
  | k, k2 => catRows k.sz k off len k2 off2 len2

theorem getD_sub {α : Type} (xs : List α) (off len i : Nat) (d : α) (h : i < len) : ((xs.drop off).take len).getD i d = xs.getD (off + i) d := by
  simp [List.getD, h, List.getElem?_drop]

theorem sub_sound {k : Bk} {off len sz : Nat} (hb : k.isBox = false) (hf : k.fits sz) (hn : off + len ≤ k.n) :
    (k.sub off len).fits sz ∧ (k.sub off len).need = len * sz ∧ (k.sub off len).isBox = false ∧ ∀ i j c, (k.sub off len).at i j = some c → i < len ∧ k.at (off + i) j = some c := by
  rcases hf with hf | ⟨rfl, hpos, hr⟩
  · rw [hb] at hf; cases hf
  cases k with
  | box l => cases hb
  | map s es => cases hb
  | deep lo rs ov => cases hb
  | ints ki xs =>
    simp only [Bk.n] at hn
    refine ⟨.inr ⟨rfl, by simp [Bk.sz, Bk.sub], fun i _ => rfl⟩, by simp [Bk.need, Bk.n, Bk.sz, Bk.sub]; omega, rfl, fun i j c hc => ?_⟩
    rw [Bk.at_some] at hc ⊢
    obtain ⟨hi, hc⟩ := hc
    simp only [Bk.n, Bk.row, Bk.sub] at hi hc ⊢
    have hil : i < len := by simp at hi; omega
    rw [getD_sub _ _ _ _ _ hil] at hc
    exact ⟨hil, by omega, hc⟩
  | bools xs =>
    simp only [Bk.n] at hn
    refine ⟨.inr ⟨rfl, by simp [Bk.sz, Bk.sub], fun i _ => rfl⟩, by simp [Bk.need, Bk.n, Bk.sz, Bk.sub]; omega, rfl, fun i j c hc => ?_⟩
    rw [Bk.at_some] at hc ⊢
    obtain ⟨hi, hc⟩ := hc
    simp only [Bk.n, Bk.row, Bk.sub] at hi hc ⊢
    have hil : i < len := by simp at hi; omega
    rw [getD_sub _ _ _ _ _ hil] at hc
    exact ⟨hil, by omega, hc⟩
  | rows szz n row =>
    simp only [Bk.n, Bk.row, Bk.sz] at hn hr hpos
    refine ⟨.inr ⟨rfl, hpos, fun i hi => hr _ (by simp only [Bk.n, Bk.sub] at hi; omega)⟩, rfl, rfl, fun i j c hc => ?_⟩
    rw [Bk.at_some] at hc ⊢
    obtain ⟨hi, hc⟩ := hc
    simp only [Bk.n, Bk.row, Bk.sub] at hi hc ⊢
    exact ⟨hi, by omega, hc⟩

theorem catRows_sound {k k2 : Bk} {off len off2 len2 sz : Nat} (hb : k.isBox = false) (hb2 : k2.isBox = false) (hf : k.fits sz) (hf2 : k2.fits sz) (hn : off + len ≤ k.n) (hn2 : off2 + len2 ≤ k2.n) :
    (catRows k.sz k off len k2 off2 len2).fits sz ∧ (catRows k.sz k off len k2 off2 len2).need = (len + len2) * sz ∧
      ∀ i j c, (catRows k.sz k off len k2 off2 len2).at i j = some c → (i < len ∧ k.at (off + i) j = some c) ∨ (len ≤ i ∧ i < len + len2 ∧ k2.at (off2 + (i - len)) j = some c) := by
  rcases hf with hf | ⟨rfl, hpos, hr⟩
  · rw [hb] at hf; cases hf
  rcases hf2 with hf2 | ⟨he, hpos2, hr2⟩
  · rw [hb2] at hf2; cases hf2
  refine ⟨.inr ⟨rfl, hpos, fun i hi => ?_⟩, rfl, fun i j c hc => ?_⟩
  · have hi' : i < len + len2 := hi
    show (if i < len then k.row (off + i) else k2.row (off2 + (i - len))).length = k.sz
    split
    · exact hr _ (by omega)
    · rw [hr2 _ (by omega), he]
  · rw [Bk.at_some] at hc
    obtain ⟨hi, hc⟩ := hc
    have hi : i < len + len2 := hi
    have hc : (if i < len then k.row (off + i) else k2.row (off2 + (i - len)))[j]? = some c := hc
    split at hc
    · rename_i h; exact .inl ⟨h, by rw [Bk.at_some]; exact ⟨by omega, hc⟩⟩
    · rename_i h; exact .inr ⟨by omega, hi, by rw [Bk.at_some]; exact ⟨by omega, hc⟩⟩

theorem getD_cat {α : Type} (xs ys : List α) (off len off2 len2 i : Nat) (d : α) (hn : off + len ≤ xs.length) :
    ((xs.drop off).take len ++ (ys.drop off2).take len2).getD i d = if i < len then xs.getD (off + i) d else if i < len + len2 then ys.getD (off2 + (i - len)) d else d := by
  have h1 : ((xs.drop off).take len).length = len := by simp; omega
  by_cases h : i < len
  · rw [if_pos h]
    simp [List.getD, List.getElem?_append_left (show i < ((xs.drop off).take len).length by omega), h, List.getElem?_drop]
  · rw [if_neg h]
    simp only [List.getD, List.getElem?_append_right (show ((xs.drop off).take len).length ≤ i by omega), h1, List.getElem?_take, List.getElem?_drop]
    by_cases h2 : i < len + len2
    · rw [if_pos (by omega), if_pos h2]
    · rw [if_neg (by omega), if_neg h2]; rfl

theorem cat_sound {k k2 : Bk} {off len off2 len2 sz : Nat} (hb : k.isBox = false) (hb2 : k2.isBox = false) (hf : k.fits sz) (hf2 : k2.fits sz) (hn : off + len ≤ k.n) (hn2 : off2 + len2 ≤ k2.n) :
    (k.cat off len k2 off2 len2).fits sz ∧ (k.cat off len k2 off2 len2).need = (len + len2) * sz ∧
      ∀ i j c, (k.cat off len k2 off2 len2).at i j = some c → (i < len ∧ k.at (off + i) j = some c) ∨ (len ≤ i ∧ i < len + len2 ∧ k2.at (off2 + (i - len)) j = some c) := by
  have hg := catRows_sound hb hb2 hf hf2 hn hn2
  unfold Bk.cat
  split
  · rename_i a xs b ys
    split
    · rename_i hab
      subst hab
      rcases hf with hf | ⟨rfl, hpos, hr⟩
      · cases hf
      simp only [Bk.n] at hn hn2
      refine ⟨.inr ⟨rfl, by simp [Bk.sz], fun i _ => rfl⟩, by simp [Bk.need, Bk.n, Bk.sz]; omega, fun i j c hc => ?_⟩
      rw [Bk.at_some] at hc
      obtain ⟨hi, hc⟩ := hc
      simp only [Bk.n, Bk.row] at hi hc
      rw [getD_cat _ _ _ _ _ _ _ _ hn] at hc
      have hi' : i < len + len2 := by simp at hi; omega
      split at hc
      · rename_i h; exact .inl ⟨h, by rw [Bk.at_some]; exact ⟨by simp only [Bk.n]; omega, hc⟩⟩
      · rename_i h; exact .inr ⟨by omega, hi', by rw [Bk.at_some]; exact ⟨by simp only [Bk.n]; omega, hc⟩⟩
    · exact hg
  · rename_i xs ys
    rcases hf with hf | ⟨rfl, hpos, hr⟩
    · cases hf
    simp only [Bk.n] at hn hn2
    refine ⟨.inr ⟨rfl, by simp [Bk.sz], fun i _ => rfl⟩, by simp [Bk.need, Bk.n, Bk.sz]; omega, fun i j c hc => ?_⟩
    rw [Bk.at_some] at hc
    obtain ⟨hi, hc⟩ := hc
    simp only [Bk.n, Bk.row] at hi hc
    rw [getD_cat _ _ _ _ _ _ _ _ hn] at hc
    have hi' : i < len + len2 := by simp at hi; omega
    split at hc
    · rename_i h; exact .inl ⟨h, by rw [Bk.at_some]; exact ⟨by simp only [Bk.n]; omega, hc⟩⟩
    · rename_i h; exact .inr ⟨by omega, hi', by rw [Bk.at_some]; exact ⟨by simp only [Bk.n]; omega, hc⟩⟩
  · exact hg

/-- the real cells of some rows -/
theorem holds.values {w : World} {β : Bet} {m : Nm} {k : Blk} (h : holds w β m k) (hb : k.k.isBox = false) {off len : Nat} (hn : off + len ≤ k.k.n) :
    ∃ vs : List Value, vs.length = len * m.sz ∧ (∀ q u, vs[q]? = some u → w.cell? ⟨m.b, m.o + off * m.sz + q, none⟩ = some u) ∧
      ∀ i j c, i < len → j < m.sz → k.k.at (off + i) j = some c → ∃ y, vs[i * m.sz + j]? = some y ∧ denC β y c := by
  rcases h.fits with hf | ⟨hs, hpos, hr⟩
  · rw [hb] at hf; cases hf
  rw [← hs] at hpos
  refine ⟨(List.range (len * m.sz)).map fun q => (w.cell? ⟨m.b, m.o + off * m.sz + q, none⟩).getD undef, by simp, fun q u hq => ?_, fun i j c hi hj hc => ?_⟩
  · rw [List.getElem?_map] at hq
    by_cases hql : q < len * m.sz
    · rw [show (List.range (len * m.sz))[q]? = some q by simp [hql]] at hq
      simp only [Option.map_some, Option.some.injEq] at hq
      have hdiv : q / m.sz < len := by rw [Nat.div_lt_iff_lt_mul hpos]; exact hql
      have hmod : q % m.sz < m.sz := Nat.mod_lt _ hpos
      have hrow := hr (off + q / m.sz) (by omega)
      obtain ⟨y, hy, _⟩ := h.cell (i := off + q / m.sz) (j := q % m.sz) (c := (k.k.row (off + q / m.sz))[q % m.sz]'(by rw [hrow, ← hs]; exact hmod)) (by rw [Bk.at_some]; exact ⟨by omega, List.getElem?_eq_getElem _⟩)
      have e : m.o + (off + q / m.sz) * m.sz + q % m.sz = m.o + off * m.sz + q := by
        have := Nat.div_add_mod q m.sz
        rw [Nat.add_mul, Nat.mul_comm (q / m.sz)]
        omega
      rw [e] at hy
      rw [hy] at hq
      simp only [Option.getD_some] at hq
      rw [← hq]; exact hy
    · rw [show (List.range (len * m.sz))[q]? = none by simp; omega] at hq
      cases hq
  · obtain ⟨y, hy, hd⟩ := h.cell hc
    have e : m.o + (off + i) * m.sz + j = m.o + off * m.sz + (i * m.sz + j) := by rw [Nat.add_mul]; omega
    rw [e] at hy
    have hlt : i * m.sz + j < len * m.sz := by
      have : (i + 1) * m.sz ≤ len * m.sz := Nat.mul_le_mul_right _ hi
      rw [Nat.add_mul, Nat.one_mul] at this
      omega
    refine ⟨y, ?_, hd⟩
    rw [List.getElem?_map, show (List.range (len * m.sz))[i * m.sz + j]? = some (i * m.sz + j) by simp [hlt]]
    simp [hy]

theorem run_firstCells' {P : Program} {w : World} {size n cap : Nat} {A : Option Addr} {cs : List Value} (hl : cs.length = n * size)
    (h : n = 0 ∨ ∃ a, A = some a ∧ ∀ j v, cs[j]? = some v → w.cell? (a.add j) = some v) : (Builtin.firstCells size n (.slice A n cap)).run P w = .ok cs.toArray w := by
  rcases h with rfl | ⟨a, rfl, h⟩
  · have : cs = [] := List.eq_nil_of_length_eq_zero (by simpa using hl)
    subst this
    cases A with
    | none => simp [Builtin.firstCells]
    | some a => simp [Builtin.firstCells, loadCells, loadCellsFrom]
  · exact run_firstCells_some w size n a n cap cs hl h

theorem run_append_in {P : Program} {w : World} {t ty e : TypeId} {i : TypeInfo} (ht : P.underlying t = some (.slice e)) (hi : P.info? e = some i) {b o sLen sCap : Nat} {cur : Array Value} {T : TypeId}
    (hg : w.heap[b]? = some (.cells cur T (0, 0))) {A : Option Addr} {m c : Nat} {news : List Value} (hl : news.length = m * i.size)
    (hx : m = 0 ∨ ∃ a, A = some a ∧ ∀ j v, news[j]? = some v → w.cell? (a.add j) = some v) (h1 : ∀ u ∈ news, u.oneCell' = true) (hroom : sLen + m ≤ sCap) (hfit : o + sLen * i.size + news.length ≤ cur.size) :
    (Builtin.append_ #[t, t] ty #[.slice (some ⟨b, o, none⟩) sLen sCap, .slice A m c]).run P w =
      .ok (.slice (some ⟨b, o, none⟩) (sLen + m) sCap) (w.setRow b (cur.toList.take (o + sLen * i.size) ++ news ++ cur.toList.drop (o + sLen * i.size + news.length)).toArray) := by
  have hf := run_firstCells' (P := P) (cap := c) hl hx
  have hst := run_storeCells_at (P := P) b (o + sLen * i.size) T news 0 cur w hg (by simpa using hfit) h1
  simp only [Nat.add_zero] at hst
  simp [Builtin.append_, run_underlying ht, sizeOf, typeInfo, hi, Builtin.lenOf, hroom, hf, Addr.add_lit, hst]

theorem run_append_id {P : Program} {w : World} {t ty e : TypeId} {i : TypeInfo} (ht : P.underlying t = some (.slice e)) (hi : P.info? e = some i) {B A : Option Addr} {sLen sCap c : Nat} (hs : sLen ≤ sCap) :
    (Builtin.append_ #[t, t] ty #[.slice B sLen sCap, .slice A 0 c]).run P w = .ok (.slice B sLen sCap) w := by
  have hf := run_firstCells' (P := P) (w := w) (size := i.size) (n := 0) (cap := c) (A := A) (cs := []) (by simp) (.inl rfl)
  cases B <;> simp [Builtin.append_, run_underlying ht, sizeOf, typeInfo, hi, Builtin.lenOf, hs, hf, storeCells]

theorem run_append_new {P : Program} {w : World} {t ty e : TypeId} {i : TypeInfo} {z : Value} (ht : P.underlying t = some (.slice e)) (hi : P.info? e = some i) (hz : i.zero = some z) {B : Option Addr} {sLen sCap : Nat} {olds : List Value} (hlo : olds.length = sLen * i.size)
    (ho : sLen = 0 ∨ ∃ a, B = some a ∧ ∀ j v, olds[j]? = some v → w.cell? (a.add j) = some v)
    {A : Option Addr} {m c : Nat} {news : List Value} (hl : news.length = m * i.size) (hx : m = 0 ∨ ∃ a, A = some a ∧ ∀ j v, news[j]? = some v → w.cell? (a.add j) = some v)
    (hg : sCap < sLen + m) (h63 : ((sLen + m : Nat) : Int) ≤ 9223372036854775807) (hfit : Builtin.nextslicecap (sLen + m) sCap * i.bytes ≤ 281474976710656) :
    (Builtin.append_ #[t, t] ty #[.slice B sLen sCap, .slice A m c]).run P w =
      .ok (.slice (some ⟨w.heap.size, 0, none⟩) (sLen + m) (grownCap w (sLen + m) sCap e))
        (w.drew.alloc (.cells (olds.toArray ++ news.toArray ++ Builtin.zeroCells z.cells (grownCap w (sLen + m) sCap e - (sLen + m))) e)) := by
  have hn : ¬ (sLen + m ≤ sCap) := by omega
  have h63' : ¬ (9223372036854775807 < ((sLen : Int) + (m : Int))) := by omega
  have h48' : ¬ (281474976710656 < Builtin.nextslicecap (sLen + m) sCap * i.bytes) := by omega
  have hf := run_firstCells' (P := P) (w := w.drew) (cap := c) hl (by simpa using hx)
  have hfo := run_firstCells' (P := P) (w := w.drew) (cap := sCap) hlo (by simpa using ho)
  simp [Builtin.append_, run_underlying ht, sizeOf, typeInfo, zeroValue, hi, hz, Builtin.lenOf, hn, h63', h48', Question.forced, hf, hfo, newRow, grownCap]
  congr 2
  apply Array.ext'
  simp [List.append_assoc]

/-! ### the operation -/
def Bk.okSrc (k : Bk) (off len : Nat) : Prop :=
  match k with
  | .ints _ _ => True
  | .bools _ => True
  | k => ∀ i, i < len → (k.row (off + i)).all C.ok = true
theorem okSrc_sound {k : Bk} {off len : Nat} (h : k.okSrc off len) (hb : k.isBox = false) : ∀ i, i < len → (k.row (off + i)).all C.ok = true := by
  cases k with
  | box l => cases hb
  | map s es => cases hb
  | deep lo rs ov => cases hb
  | ints ki xs => exact fun i _ => rfl
  | bools xs => exact fun i _ => rfl
  | rows sz n row => exact h

def nilBk (sz : Nat) : Bk := .rows sz 0 fun _ => []

/-- where a slice's elements lie: 'none' for a slice without elements -/
def srcOf (M : Mem) (x : SV) (sz : Nat) (K : Bool → Bk → Nat → Nat → Prop) : Prop :=
  match x with
  | .o (.c (.s n off len s)) => (match M.get n with
    | some k => if s = sz ∧ k.k.isBox = false then (off + len ≤ k.k.n ∧ k.k.okSrc off len) ∧ K true k.k off len else False
    | none => False)
  | .o (.c (.v (.slice none 0 0))) => K false (nilBk sz) 0 0
  | .o (.c .z) => K false (nilBk sz) 0 0
  | _ => False

structure Src (β : Bet) (w : World) (v : Value) (sz : Nat) (k : Bk) (off len : Nat) : Prop where
  box : k.isBox = false
  n : off + len ≤ k.n
  fits : k.fits sz
  sl : ∃ (A : Option Addr) (c : Nat) (vs : List Value), v = .slice A len c ∧ vs.length = len * sz ∧ (len = 0 ∨ ∃ a, A = some a ∧ ∀ j u, vs[j]? = some u → w.cell? (a.add j) = some u) ∧ (∀ u ∈ vs, u.oneCell' = true) ∧
    ∀ i j c, i < len → j < sz → k.at (off + i) j = some c → ∃ y, vs[i * sz + j]? = some y ∧ denC β y c

theorem srcOf_sound {rd : Mem} {x : SV} {sz : Nat} (hpos : 0 < sz) {K : Bool → Bk → Nat → Nat → Prop} (h : srcOf rd x sz K) :
    ∃ b k off len, K b k off len ∧ (b = false → len = 0) ∧ (∀ n o l s, x = .o (.c (.s n o l s)) → s = sz ∧ ∀ kb, rd.get n = some kb → kb.k.isMap = false) ∧ ((∀ n o l s, x ≠ .o (.c (.s n o l s))) → ∀ β v, denS β v x → ∃ A, v = .slice A 0 0) ∧ ∀ (W : World) (A : Nat → Prop) (β : Bet) (M : Mem) (w : World), St W A β M w → (∀ n k, rd.get n = some k → M.get n = some k) → ∀ v, denS β v x → Src β w v sz k off len := by
  unfold srcOf at h
  split at h
  · rename_i n off len s
    split at h
    · rename_i k hk
      split at h
      · rename_i hc
        obtain ⟨rfl, hb⟩ := hc
        obtain ⟨⟨hn, hok⟩, hK⟩ := h
        refine ⟨true, k.k, off, len, hK, (fun e => by cases e), (fun _ _ _ _ e => by cases e; exact ⟨rfl, fun kb hkb => by rw [hk] at hkb; cases hkb; exact Bk.noMap_of_box hb⟩), (fun hno => absurd rfl (hno _ _ _ _)), fun W A β M w hSt hrd v hv => ?_⟩
        obtain ⟨m, hm, hh⟩ := hSt.names n k (hrd n k hk)
        obtain ⟨B, cap, m', hm', he, hsz, hlc, hcm, hA⟩ := hv
        rw [hm] at hm'; cases hm'
        subst hsz
        obtain ⟨vs, hvl, hvc, hvd⟩ := hh.values hb hn
        have hfit := hh.fits
        refine ⟨hb, hn, hfit, B, cap, vs, he, hvl, ?_, ?_, hvd⟩
        · rcases hA with h0 | ⟨rfl, _⟩
          · exact .inl (by omega)
          · exact .inr ⟨_, rfl, fun j u hj => by rw [Addr.add_lit]; exact hvc j u hj⟩
        · intro u hu
          obtain ⟨q, hq, he⟩ := List.mem_iff_getElem.1 hu
          rcases hfit with hf | ⟨hs, _, hr⟩
          · rw [hb] at hf; cases hf
          have hdiv : q / m.sz < len := by rw [Nat.div_lt_iff_lt_mul hpos]; omega
          have hmod : q % m.sz < m.sz := Nat.mod_lt _ hpos
          have hrow := hr (off + q / m.sz) (by omega)
          have hat : k.k.at (off + q / m.sz) (q % m.sz) = some ((k.k.row (off + q / m.sz))[q % m.sz]'(by rw [hrow, ← hs]; exact hmod)) := by rw [Bk.at_some]; exact ⟨by omega, List.getElem?_eq_getElem _⟩
          obtain ⟨y, hy, hd⟩ := hvd _ _ _ hdiv hmod hat
          have hqq : q / m.sz * m.sz + q % m.sz = q := by have := Nat.div_add_mod q m.sz; rw [Nat.mul_comm]; exact this
          rw [hqq, List.getElem?_eq_getElem hq] at hy
          cases hy
          rw [← he]
          have hall := okSrc_sound hok hb _ hdiv
          rw [List.all_eq_true] at hall
          exact hd.ok (hall _ (List.getElem_mem _))
      · exact h.elim
    · exact h.elim
  · refine ⟨false, _, 0, 0, h, (fun _ => rfl), (fun _ _ _ _ e => by cases e), (fun _ β v hv => ⟨none, hv⟩), fun W A β M w hSt hrd v hv => ?_⟩
    have hv' : v = .slice none 0 0 := hv
    subst hv'
    exact ⟨rfl, Nat.le_refl _, .inr ⟨rfl, hpos, fun i hi => absurd hi (Nat.not_lt_zero _)⟩, none, 0, [], rfl, by simp, .inl rfl, (fun u hu => by cases hu), fun i j c hi => absurd hi (Nat.not_lt_zero _)⟩
  · refine ⟨false, _, 0, 0, h, (fun _ => rfl), (fun _ _ _ _ e => by cases e), (fun _ β v hv => hv), fun W A β M w hSt hrd v hv => ?_⟩
    obtain ⟨B, rfl⟩ := hv
    exact ⟨rfl, Nat.le_refl _, .inr ⟨rfl, hpos, fun i hi => absurd hi (Nat.not_lt_zero _)⟩, B, 0, [], rfl, by simp, .inl rfl, (fun u hu => by cases hu), fun i j c hi => absurd hi (Nat.not_lt_zero _)⟩
  · exact h.elim

/-- where the elements lie that are appended: they may be a slice that is not nil, without elements -/
def srcX (M : Mem) (x : SV) (sz : Nat) (K : Bool → Bk → Nat → Nat → Prop) : Prop :=
  match x with
  | .o (.c (.v (.slice (some _) 0 _))) => K false (nilBk sz) 0 0
  | x => srcOf M x sz K
theorem srcX_sound {rd : Mem} {x : SV} {sz : Nat} (hpos : 0 < sz) {K : Bool → Bk → Nat → Nat → Prop} (h : srcX rd x sz K) :
    ∃ b k off len, K b k off len ∧ (b = false → len = 0) ∧ ∀ (W : World) (A : Nat → Prop) (β : Bet) (M : Mem) (w : World), St W A β M w → (∀ n k, rd.get n = some k → M.get n = some k) → ∀ v, denS β v x → Src β w v sz k off len := by
  unfold srcX at h
  split at h
  · rename_i a cap
    refine ⟨false, _, 0, 0, h, (fun _ => rfl), fun W A β M w hSt hrd v hv => ?_⟩
    have hv' : v = .slice (some a) 0 cap := hv
    subst hv'
    exact ⟨rfl, Nat.le_refl _, .inr ⟨rfl, hpos, fun i hi => absurd hi (Nat.not_lt_zero _)⟩, some a, cap, [], rfl, by simp, .inl rfl, (fun u hu => by cases hu), fun i j c hi => absurd hi (Nat.not_lt_zero _)⟩
  · obtain ⟨b, k, off, len, h1, h2, _, _, h3⟩ := srcOf_sound hpos h
    exact ⟨b, k, off, len, h1, h2, h3⟩

def newBlk (b1 b2 : Bool) (k : Bk) (off len : Nat) (k2 : Bk) (off2 len2 : Nat) : Bk :=
  match b1, b2 with
  | true, true => k.cat off len k2 off2 len2
  | true, false => k.sub off len
  | false, _ => k2.sub off2 len2

theorem cat_box (k k2 : Bk) (off len off2 len2 : Nat) : (k.cat off len k2 off2 len2).isBox = false := by
  unfold Bk.cat
  split
  · split <;> rfl
  · rfl
  · rfl
theorem sub_box (k : Bk) (off len : Nat) : (k.sub off len).isBox = false := by cases k <;> rfl
theorem newBlk_box (b1 b2 : Bool) (k k2 : Bk) (off len off2 len2 : Nat) : (newBlk b1 b2 k off len k2 off2 len2).isBox = false := by
  cases b1 <;> cases b2 <;> first | exact sub_box _ _ _ | exact cat_box _ _ _ _ _ _
theorem newBlk_sound {b1 b2 : Bool} {k k2 : Bk} {off len off2 len2 sz : Nat} (hb : k.isBox = false) (hb2 : k2.isBox = false) (hf : k.fits sz) (hf2 : k2.fits sz) (hn : off + len ≤ k.n) (hn2 : off2 + len2 ≤ k2.n)
    (h1 : b1 = false → len = 0) (h2 : b2 = false → len2 = 0) :
    (newBlk b1 b2 k off len k2 off2 len2).fits sz ∧ (newBlk b1 b2 k off len k2 off2 len2).need = (len + len2) * sz ∧
      ∀ i j c, (newBlk b1 b2 k off len k2 off2 len2).at i j = some c → (i < len ∧ k.at (off + i) j = some c) ∨ (len ≤ i ∧ i < len + len2 ∧ k2.at (off2 + (i - len)) j = some c) := by
  cases b1 with
  | true => cases b2 with
    | true => exact cat_sound hb hb2 hf hf2 hn hn2
    | false =>
      obtain ⟨s1, s2, _, s3⟩ := sub_sound hb hf hn
      have := h2 rfl
      subst this
      exact ⟨s1, s2, fun i j c hc => .inl (s3 i j c hc)⟩
  | false =>
    obtain ⟨s1, s2, _, s3⟩ := sub_sound hb2 hf2 hn2
    have := h1 rfl
    subst this
    refine ⟨s1, by simpa [newBlk] using s2, fun i j c hc => ?_⟩
    obtain ⟨a, b⟩ := s3 i j c hc
    exact .inr ⟨Nat.zero_le _, by omega, by simpa using b⟩

/-- the name whose block an append takes over -/
def appUps (s : SV) (nm : Nat) (b : Bk) : Ups :=
  match s with
  | .o (.c (.s n _ _ _)) => [(n, none), (nm, some ⟨b, true⟩)]
  | _ => [(nm, some ⟨b, true⟩)]
def ownOf (M : Mem) (s : SV) : Bool :=
  match s with
  | .o (.c (.s n _ _ _)) => (match M.get n with | some k => k.wr | none => false)
  | _ => true

def evApp (P : Program) (t t' : TypeId) (s x : SV) (M : Mem) (nm : Nat) (K : Kt) : Prop :=
  if t' = t ∧ ownOf M s = true then (match P.underlying t with
    | some (.slice e) => (match P.info? e with
      | some ie => if 0 < ie.size ∧ ie.bytes ≤ 16384 ∧ (zeroC P e).map List.length = some ie.size then
          srcOf M s ie.size fun b1 k off len => srcX M x ie.size fun b2 k2 off2 len2 =>
            len + len2 ≤ 4294967296 ∧ K (.o (.c (.s nm 0 (len + len2) ie.size))) (appUps s nm (newBlk b1 b2 k off len k2 off2 len2)) else False
      | none => False)
    | _ => False) else False
end Go.Sx
namespace Go.Sx

theorem St.drop {W : World} {A : Nat → Prop} {β : Bet} {M : Mem} {w : World} (h : St W A β M w) (n : Nat) : St W A β (M.put n none) w := by
  have key : ∀ q k, (M.put n none).get q = some k → M.get q = some k := fun q k hq => by
    rw [Mem.get_put] at hq
    split at hq
    · cases hq
    · exact hq
  exact ⟨h.os, h.tape, h.output, h.size, h.frame, fun q k hq => h.names q k (key q k hq), fun q q' k k' m m' hne hq hq' => h.sep q q' k k' m m' hne (key q k hq) (key q' k' hq'), fun q k m hq => h.perm q k m (key q k hq)⟩

/-- a name without cells -/
theorem St.empty {W : World} {A : Nat → Prop} {β : Bet} {M : Mem} {w : World} (hSt : St W A β M w) {n : Nat} (hβ : β n = none) {k : Bk} {sz : Nat} (hfit : k.fits sz) (hneed : k.need = 0) :
    St W A (β.set n ⟨0, 0, sz, 0⟩) (M.put n (some ⟨k, true⟩)) w := by
  have hle := Bet.set_le (m := ⟨0, 0, sz, 0⟩) hβ
  have hset : ∀ q, q ≠ n → β.set n ⟨0, 0, sz, 0⟩ q = β q := fun q hq => by simp [Bet.set, hq]
  refine hSt.change rfl rfl rfl (Nat.le_refl _) hle (· = n) (fun q kq hq hN => ?_) (fun q kq hq hN => ?_) (fun b hb => .inl rfl) (fun q kq m' b hq hN hm hb => ?_) (fun q q' _ _ _ _ hne h1 h2 => absurd (h1.trans h2.symm) hne)
  · rw [Mem.get_put, if_neg hN] at hq; exact hq
  · subst hN
    rw [Mem.get_put, if_pos rfl] at hq
    cases hq
    exact ⟨_, Bet.set_same _ _ _, hfit, by rw [hneed]; exact Nat.le_refl _, fun _ => .inl rfl, fun s es he => (by rw [show k = .map s es from he] at hneed; cases hneed), fun lo rs ov he => (by
      have he : k = .deep lo rs ov := he
      subst he
      obtain ⟨hrs, hovn⟩ := Bk.need_deep hneed
      rw [hrs, hovn]
      exact deepAt.zero w _ _ _ _ (Eq.refl _))⟩
  · subst hN
    rw [Mem.get_put, if_pos rfl] at hq
    cases hq
    rw [Bet.set_same] at hm; cases hm
    rcases hb with ⟨h0, _⟩ | ⟨lo, rs, ov, i, e, hb⟩
    · exact absurd rfl h0
    · subst e
      obtain ⟨rfl, _⟩ := Bk.need_deep hneed
      exact hb.nil.elim

/-- a new name takes over the block of an old one, which is written -/
theorem St.take {W : World} {A : Nat → Prop} {β : Bet} {M : Mem} {w : World} (hSt : St W A β M w) {n : Nat} {k : Blk} {m : Nm} (hM : M.get n = some k) (hwr : k.wr = true) (hβ : β n = some m)
    (hroom : m.room ≠ 0) {c : Array Value} {T : TypeId} {fz : Nat × Nat} (hc : w.heap[m.b]? = some (.cells c T fz)) {c' : Array Value} (hsz : c'.size = c.size) (hfz : fz = (0, 0))
    {nm : Nat} (hnm : β nm = none) {m2 : Nm} (hb : m2.b = m.b) {k' : Bk} (hmap : k'.isMap = false) (hfit : k'.fits m2.sz) (hneed : k'.need ≤ m2.room) (hin : m2.o + m2.room ≤ c.size)
    (hat : ∀ i j x, k'.at i j = some x → ∃ y, c'[m2.o + i * m2.sz + j]? = some y ∧ denC β y x) :
    St W A (β.set nm m2) ((M.put n none).put nm (some ⟨k', true⟩)) (w.setRow m.b c') := by
  have hle := Bet.set_le (m := m2) hnm
  have hget : ∀ q kq, q ≠ nm → ((M.put n none).put nm (some ⟨k', true⟩)).get q = some kq → q ≠ n ∧ M.get q = some kq := fun q kq hq h => by
    rw [Mem.get_put, if_neg hq, Mem.get_put] at h
    split at h
    · cases h
    · exact ⟨by assumption, h⟩
  have hgone : n ≠ nm := fun e => by
    subst e
    rw [hnm] at hβ; cases hβ
  have hgone' : ((M.put n none).put nm (some ⟨k', true⟩)).get n = none := by
    rw [Mem.get_put, if_neg hgone, Mem.get_put, if_pos rfl]
  refine hSt.change rfl rfl rfl (by simp [World.setRow]) hle (· = nm) (fun q kq hq hN => (hget q kq hN hq).2) (fun q kq hq hN => ?_) (fun b _ => ?_) (fun q kq m' b hq hN hm hbb => ?_) (fun q q' _ _ _ _ hne h1 h2 => absurd (h1.trans h2.symm) hne)
  · subst hN
    rw [Mem.get_put, if_pos rfl] at hq
    cases hq
    refine ⟨m2, Bet.set_same _ _ _, hfit, hneed, fun _ => .inr ⟨c', T, fz, ?_, by omega, fun _ => hfz, fun i j x hx => ?_⟩, fun s es he => (by rw [show k' = .map s es from he] at hmap; cases hmap), fun lo rs ov he => (by rw [show k' = .deep lo rs ov from he] at hmap; cases hmap)⟩
    · rw [hb]; exact setRow_heap w m.b c c' T fz hc
    · obtain ⟨y, hy, hd⟩ := hat i j x hx
      exact ⟨y, hy, hd.mono hle⟩
  · by_cases e : b = m.b
    · subst e
      exact .inr ⟨n, k, m, hM, hwr, hβ, .inl ⟨hroom, rfl⟩, .inr hgone'⟩
    · exact .inl (heap_setRow_other _ _ _ _ e)
  · subst hN
    rw [Mem.get_put, if_pos rfl] at hq
    cases hq
    rw [Bet.set_same] at hm; cases hm
    obtain ⟨_, hb2⟩ := hbb.plain hmap
    exact .inr ⟨n, k, m, hM, hβ, .inl ⟨hroom, by rw [← hb2, hb]⟩, .inl ⟨.inr hgone', fun _ => hwr⟩⟩

theorem appUps_app (s : SV) (nm : Nat) (b : Bk) (M : Mem) :
    (∃ n off len sz, s = .o (.c (.s n off len sz)) ∧ M.app (appUps s nm b) = (M.put n none).put nm (some ⟨b, true⟩)) ∨
    ((∀ n off len sz, s ≠ .o (.c (.s n off len sz))) ∧ M.app (appUps s nm b) = M.put nm (some ⟨b, true⟩)) := by
  unfold appUps
  split
  · exact .inl ⟨_, _, _, _, rfl, rfl⟩
  · rename_i h
    exact .inr ⟨fun n off len sz e => h n off len sz e, rfl⟩
theorem appUps_has (s : SV) (nm : Nat) (b : Bk) : (appUps s nm b).has nm = true := by
  unfold appUps
  split <;> simp [Ups.has]

theorem app_sound {P : Program} {o : Oper} {fr : List SV} {rd : Mem} {nm : Nat} (hnm : rd.get nm = none) {t t' : TypeId} {s x : Operand} (ho : o.op = .call { callee := .builtin .append, args := #[s, x], argTypes := #[t, t'] }) {K : Kt}
    (h : evApp P t t' (evO fr s) (evO fr x) rd nm K) : ∃ v ups, SemOp P o fr rd v ups ∧ K v ups := by
  unfold evApp at h
  split at h
  · rename_i hc0
    obtain ⟨rfl, hown⟩ := hc0
    split at h
    · rename_i e hu
      split at h
      · rename_i ie hie
        split at h
        · rename_i hc
          obtain ⟨hpos, hby, hzl⟩ := hc
          obtain ⟨b1, k, off, len, h, hb1, hsz1, hno1, hS1⟩ := srcOf_sound hpos h
          obtain ⟨b2, k2, off2, len2, h, hb2, hS2⟩ := srcX_sound hpos h
          obtain ⟨hmax, h⟩ := h
          refine ⟨_, _, ?_, h⟩
          intro W A β M w a next Q hSt hop hrd hfresh hn
          have hsd := hop s (by simp [ho, Op.operands, Call.operands])
          have hxd := hop x (by simp [ho, Op.operands, Call.operands])
          obtain ⟨sb, sn, sf, B, cap, olds, se, sl, sc, s1, sd⟩ := hS1 W A β M w hSt hrd _ hsd
          obtain ⟨xb, xn, xf, A2, c2, news, xe, xl, xc, x1, xd⟩ := hS2 W A β M w hSt hrd _ hxd
          obtain ⟨nf, nn, nat'⟩ := newBlk_sound (b1 := b1) (b2 := b2) sb xb sf xf sn xn hb1 hb2
          obtain ⟨hβ, hMnm⟩ := hfresh nm (appUps_has _ _ _) hnm
          obtain ⟨zl, hz⟩ : ∃ zl, zeroC P e = some zl := by
            cases hzz : zeroC P e with
            | none => rw [hzz] at hzl; cases hzl
            | some zl => exact ⟨zl, rfl⟩
          rw [hz] at hzl
          simp only [Option.map_some, Option.some.injEq] at hzl
          obtain ⟨zv, hzv, hzd⟩ := zeroC_sound hz β
          have hzz : ie.zero = some zv := by
            have := hzv default
            simp only [zeroValue, typeInfo, Sem.run_bind, run_program, Result.andThen_ok, hie, Sem.run_pure] at this
            cases hzo : ie.zero with
            | none => simp [hzo] at this
            | some zo => simp [hzo] at this; rw [this]
          -- how the operation runs
          have hexec : ∀ v w', (Builtin.append_ #[t', t'] o.type #[.slice B len cap, .slice A2 len2 c2]).run P w = .ok v w' → (execOp a.eval o).run P w = .ok (.value v) w' := by
            intro v w' hr
            simp only [execOp, ho, resolve, invoke, builtin, Sem.run_bind, Sem.run_pure, Result.andThen_ok, List.map_toArray, List.map_cons, List.map_nil, se, xe, hr]
          have hdom : ∀ (m2 : Nm) q, β q = none → β.set nm m2 q ≠ none → (appUps (evO fr s) nm (newBlk b1 b2 k off len k2 off2 len2)).has q = true := by
            intro m2 q h1 h2
            have := Bet.set_dom h1 h2
            subst this
            exact appUps_has _ _ _
          have hsmall : len + len2 ≤ maxLen := by simp only [maxLen]; omega
          by_cases hroom : len + len2 ≤ cap
          · -- there is room
            by_cases hc0 : cap = 0
            · have hl0 : len = 0 := by omega
              have hl2 : len2 = 0 := by omega
              subst hl0 hl2
              have hr := run_append_id (P := P) (w := w) (ty := o.type) (c := c2) (A := A2) (B := B) hu hie (Nat.zero_le cap)
              refine wp_value (hexec _ _ hr) ?_
              have hneed : (newBlk b1 b2 k off 0 k2 off2 0).need = 0 := by rw [nn]; simp
              refine hn _ w (β.set nm ⟨0, 0, ie.size, 0⟩) (Bet.set_le hβ) (hdom _) ?_ ⟨B, cap, _, Bet.set_same _ _ _, rfl, rfl, Nat.zero_le _, by rw [hc0]; exact Nat.zero_le _, .inl hc0⟩
              rcases appUps_app (evO fr s) nm (newBlk b1 b2 k off 0 k2 off2 0) M with ⟨n, _, _, _, _, happ⟩ | ⟨_, happ⟩
              · rw [happ]; exact (hSt.drop n).empty hβ nf hneed
              · rw [happ]; exact hSt.empty hβ nf hneed
            · -- the block of a name is written
              rcases appUps_app (evO fr s) nm (newBlk b1 b2 k off len k2 off2 len2) M with ⟨n, off0, len0, sz0, hs, happ⟩ | ⟨hns, _⟩
              · rw [hs] at hsd
                obtain ⟨B', cap', m, hm, he, hsz0, hlc, hcm, hA⟩ := hsd
                have hsz' : m.sz = ie.size := by rw [hsz0]; exact (hsz1 _ _ _ _ hs).1
                rw [se] at he
                cases he
                rcases hA with h0 | ⟨rfl, hrm⟩
                · exact absurd h0 hc0
                -- the abstract block is that name's
                have hkk : ∃ kb, rd.get n = some kb ∧ kb.wr = true := by
                  unfold ownOf at hown
                  rw [hs] at hown
                  simp only at hown
                  cases hg : rd.get n with
                  | none => rw [hg] at hown; cases hown
                  | some kb => rw [hg] at hown; exact ⟨kb, rfl, hown⟩
                obtain ⟨kb, hkb, hwr⟩ := hkk
                have hM := hrd n kb hkb
                obtain ⟨m', hm', hh⟩ := hSt.names n kb hM
                rw [hm] at hm'; cases hm'
                have hposm : 0 < m.sz := by rw [hsz']; exact hpos
                have hmul : (off0 + cap) * m.sz = off0 * m.sz + cap * m.sz := Nat.add_mul _ _ _
                have hcp : 0 < cap * m.sz := Nat.mul_pos (by omega) hposm
                have hroom0 : m.room ≠ 0 := by omega
                rcases hh.there ((hsz1 _ _ _ _ hs).2 _ hkb) with h0 | ⟨c, T, fz, g1, g2, g3, g4⟩
                · exact absurd h0 hroom0
                have hz0 := g3 hwr
                subst hz0
                have hxl' : news.length = len2 * m.sz := by rw [xl, hsz']
                have hadd : (len + len2) * m.sz = len * m.sz + len2 * m.sz := Nat.add_mul _ _ _
                have hlec : (len + len2) * m.sz ≤ cap * m.sz := Nat.mul_le_mul_right _ hroom
                have hr := run_append_in (P := P) (ty := o.type) (c := c2) (o := m.o + off0 * m.sz) (sLen := len) hu hie g1 xl xc x1 hroom (by rw [← hsz', hxl']; omega)
                refine wp_value (hexec _ _ hr) ?_
                refine hn _ _ (β.set nm ⟨m.b, m.o + off0 * m.sz, m.sz, m.room - off0 * m.sz⟩) (Bet.set_le hβ) (hdom _) ?_
                  ⟨_, cap, _, Bet.set_same _ _ _, rfl, hsz', hroom, by omega, .inr ⟨by simp, by simp; omega⟩⟩
                rw [happ]
                rw [← hsz'] at nf nn sl sd xd ⊢
                have hlens : ∀ (q : Nat), q < len * m.sz → c.toList[m.o + off0 * m.sz + q]? = olds[q]? := by
                  intro q hq
                  have hql : q < olds.length := by omega
                  rcases sc with s0 | ⟨ad, had, hcell⟩
                  · rw [s0] at hq; simp at hq
                  · cases had
                    have := hcell q _ (List.getElem?_eq_getElem hql)
                    rw [Addr.add_lit, cell_of_row w m.b _ c T (0, 0) g1] at this
                    rw [Array.getElem?_toList, this, List.getElem?_eq_getElem hql]
                refine hSt.take (m2 := ⟨m.b, m.o + off0 * m.sz, m.sz, m.room - off0 * m.sz⟩) (c' := (c.toList.take (m.o + off0 * m.sz + len * m.sz) ++ news ++ c.toList.drop (m.o + off0 * m.sz + len * m.sz + news.length)).toArray) hM hwr hm hroom0 g1 (by simp; omega) rfl hβ rfl (Bk.noMap_of_box (newBlk_box ..)) nf (by rw [nn]; show _ ≤ m.room - off0 * m.sz; omega) (by show m.o + off0 * m.sz + (m.room - off0 * m.sz) ≤ c.size; omega) fun i j y hy => ?_
                show ∃ y', (c.toList.take (m.o + off0 * m.sz + len * m.sz) ++ news ++ c.toList.drop (m.o + off0 * m.sz + len * m.sz + news.length)).toArray[m.o + off0 * m.sz + i * m.sz + j]? = some y' ∧ denC β y' y
                rw [List.getElem?_toArray]
                have hsp := get_splice (l := c.toList) (xs := news) (o := m.o + off0 * m.sz + len * m.sz) (by rw [hxl']; simp; omega) (m.o + off0 * m.sz + i * m.sz + j)
                rw [hsp]
                have hj : j < m.sz := by
                  rcases nf with nf | ⟨hs1, _, hr1⟩
                  · rw [newBlk_box] at nf; cases nf
                  · rw [Bk.at_some] at hy
                    have := (List.getElem?_eq_some_iff.1 hy.2).1
                    rw [hr1 i hy.1, ← hs1] at this
                    exact this
                rcases nat' i j y hy with ⟨hi, hat⟩ | ⟨hi1, hi2, hat⟩
                · have hlt : i * m.sz + j < len * m.sz := by
                    have : (i + 1) * m.sz ≤ len * m.sz := Nat.mul_le_mul_right _ hi
                    rw [Nat.add_mul, Nat.one_mul] at this
                    omega
                  rw [if_neg (by omega), Nat.add_assoc (m.o + off0 * m.sz), hlens _ hlt]
                  exact sd i j y hi hj hat
                · have hsub : i * m.sz = len * m.sz + (i - len) * m.sz := by rw [← Nat.add_mul]; congr 1; omega
                  have hlt : (i - len) * m.sz + j < len2 * m.sz := by
                    have : (i - len + 1) * m.sz ≤ len2 * m.sz := Nat.mul_le_mul_right _ (by omega)
                    rw [Nat.add_mul, Nat.one_mul] at this
                    omega
                  rw [if_pos ⟨by omega, by rw [hxl']; omega⟩, show m.o + off0 * m.sz + i * m.sz + j - (m.o + off0 * m.sz + len * m.sz) = (i - len) * m.sz + j by omega]
                  exact xd (i - len) j y (by omega) hj hat
              · -- a slice without a name has no room
                obtain ⟨A', he⟩ := hno1 hns β _ hsd
                rw [se] at he
                cases he
                exact absurd rfl hc0
          · -- a new array
            have hgr : cap < len + len2 := by omega
            have hfit := growslice_fits (bytes := ie.bytes) hgr (by
              have : (len + len2) * ie.bytes ≤ 4294967296 * 16384 := Nat.mul_le_mul hmax hby
              omega)
            have hr := run_append_new (P := P) (w := w) (ty := o.type) (c := c2) hu hie hzz sl sc xl xc hgr (by omega) hfit
            refine wp_value (hexec _ _ hr) ?_
            have hge := grownCap_ge w (len + len2) cap e
            have hgm := grownCap_le_maxLen w (len + len2) cap e hsmall
            generalize grownCap w (len + len2) cap e = G at *
            have hden := hzd.length
            have hsize : (olds.toArray ++ news.toArray ++ Builtin.zeroCells zv.cells (G - (len + len2))).size = G * ie.size := by
              simp only [Array.size_append, List.size_toArray, size_zeroCells, sl, xl]
              rw [show zv.cells.size = ie.size by simp at hden; omega, ← Nat.add_mul, ← Nat.add_mul]
              congr 1
              omega
            have hneed : (newBlk b1 b2 k off len k2 off2 len2).need ≤ G * ie.size := by rw [nn]; exact Nat.mul_le_mul_right _ hge
            have hat : ∀ i j y, (newBlk b1 b2 k off len k2 off2 len2).at i j = some y → ∃ y', (olds.toArray ++ news.toArray ++ Builtin.zeroCells zv.cells (G - (len + len2)))[i * ie.size + j]? = some y' ∧ denC β y' y := by
              intro i j y hy
              have hj : j < ie.size := by
                rcases nf with nf | ⟨hs1, _, hr1⟩
                · rw [newBlk_box] at nf; cases nf
                · have hy' := hy
                  rw [Bk.at_some] at hy'
                  have := (List.getElem?_eq_some_iff.1 hy'.2).1
                  rw [hr1 i hy'.1, ← hs1] at this
                  exact this
              have hadd : (len + len2) * ie.size = len * ie.size + len2 * ie.size := Nat.add_mul _ _ _
              rcases nat' i j y hy with ⟨hi, hat⟩ | ⟨hi1, hi2, hat⟩
              · have hlt : i * ie.size + j < len * ie.size := by
                  have : (i + 1) * ie.size ≤ len * ie.size := Nat.mul_le_mul_right _ hi
                  rw [Nat.add_mul, Nat.one_mul] at this
                  omega
                obtain ⟨y', hy', hd⟩ := sd i j y hi hj hat
                refine ⟨y', ?_, hd⟩
                rw [Array.append_assoc, Array.getElem?_append_left (by simp; omega)]
                simpa using hy'
              · have hsub : i * ie.size = len * ie.size + (i - len) * ie.size := by rw [← Nat.add_mul]; congr 1; omega
                have hlt : (i - len) * ie.size + j < len2 * ie.size := by
                  have : (i - len + 1) * ie.size ≤ len2 * ie.size := Nat.mul_le_mul_right _ (by omega)
                  rw [Nat.add_mul, Nat.one_mul] at this
                  omega
                obtain ⟨y', hy', hd⟩ := xd (i - len) j y (by omega) hj hat
                refine ⟨y', ?_, hd⟩
                rw [Array.getElem?_append_left (by simp; omega), Array.getElem?_append_right (by simp; omega)]
                simp only [List.size_toArray, List.getElem?_toArray, sl]
                rw [hsub, show len * ie.size + (i - len) * ie.size + j - len * ie.size = (i - len) * ie.size + j by omega]
                exact hy'
            have hdr : ∀ {M' : Mem}, St W A β M' w → St W A (β.set nm ⟨w.heap.size, 0, ie.size, G * ie.size⟩) (M'.put nm (some ⟨newBlk b1 b2 k off len k2 off2 len2, true⟩))
                (w.drew.alloc (.cells (olds.toArray ++ news.toArray ++ Builtin.zeroCells zv.cells (G - (len + len2))) e)) := fun hM' =>
              hM'.drew.alloc hβ (Bk.noMap_of_box (newBlk_box ..)) nf hneed (by rw [hsize]; exact Nat.le_refl _) hat
            refine hn _ _ (β.set nm ⟨w.heap.size, 0, ie.size, G * ie.size⟩) (Bet.set_le hβ) (hdom _) ?_ ⟨_, G, _, Bet.set_same _ _ _, rfl, rfl, hge, hgm, .inr ⟨by simp, by simp⟩⟩
            rcases appUps_app (evO fr s) nm (newBlk b1 b2 k off len k2 off2 len2) M with ⟨n, _, _, _, _, happ⟩ | ⟨_, happ⟩
            · rw [happ]; exact hdr (hSt.drop n)
            · rw [happ]; exact hdr hSt
        · exact h.elim
      · exact h.elim
    · exact h.elim
  · exact h.elim
end Go.Sx
namespace Go.Sx

def bytesOf (ns : List Int) : ByteArray := ns.foldl (fun r n => r.push (UInt8.ofNat n.toNat)) ByteArray.empty
theorem bytesOf_data (ns : List Int) : (bytesOf ns).data.toList = ns.map fun n => UInt8.ofNat n.toNat := by
  have key : ∀ (ns : List Int) (b : ByteArray), (ns.foldl (fun r n => r.push (UInt8.ofNat n.toNat)) b).data.toList = b.data.toList ++ ns.map fun n => UInt8.ofNat n.toNat := by
    intro ns
    induction ns with
    | nil => intro b; simp
    | cons n ns ih => intro b; rw [List.foldl_cons, ih]; simp [ByteArray.push]
  exact key ns ByteArray.empty
theorem bytesOf_size (ns : List Int) : (bytesOf ns).size = ns.length := by
  have h := congrArg List.length (bytesOf_data ns)
  rw [Array.length_toList, List.length_map] at h
  exact h
theorem bytesOf_inj {xs ys : List Int} (hx : ∀ x ∈ xs, 0 ≤ x ∧ x < 256) (hy : ∀ y ∈ ys, 0 ≤ y ∧ y < 256) (h : bytesOf xs = bytesOf ys) : xs = ys := by
  have h' : xs.map (fun n => UInt8.ofNat n.toNat) = ys.map (fun n => UInt8.ofNat n.toNat) := by rw [← bytesOf_data, ← bytesOf_data, h]
  clear h
  induction xs generalizing ys with
  | nil => cases ys with
    | nil => rfl
    | cons y ys => simp at h'
  | cons x xs ih => cases ys with
    | nil => simp at h'
    | cons y ys =>
      simp only [List.map_cons, List.cons.injEq] at h'
      obtain ⟨h1, h2⟩ := h'
      have hx0 := hx x (by simp)
      have hy0 := hy y (by simp)
      have h3 := congrArg UInt8.toNat h1
      simp only [UInt8.toNat_ofNat'] at h3
      rw [Nat.mod_eq_of_lt (by omega), Nat.mod_eq_of_lt (by omega)] at h3
      have : x = y := by omega
      rw [this, ih (fun z hz => hx z (by simp [hz])) (fun z hz => hy z (by simp [hz])) h2]
theorem bytesOf_beq (xs ys : List Int) (hx : ∀ x ∈ xs, 0 ≤ x ∧ x < 256) (hy : ∀ y ∈ ys, 0 ≤ y ∧ y < 256) : (bytesOf xs == bytesOf ys) = decide (xs = ys) := by
  rw [beq_toListBytes, ByteArray.toList_eq, ByteArray.toList_eq, bytesOf_data, bytesOf_data]
  by_cases h : xs = ys
  · subst h; simp
  · simp only [h, decide_false]
    refine beq_false_of_ne fun e => h (bytesOf_inj hx hy ?_)
    rw [← bytesOf_data, ← bytesOf_data] at e
    generalize bytesOf xs = a at e ⊢
    generalize bytesOf ys = b at e ⊢
    obtain ⟨⟨a⟩⟩ := a
    obtain ⟨⟨b⟩⟩ := b
    exact congrArg (fun x => (⟨⟨x⟩⟩ : ByteArray)) e
theorem bytesOf_same (xs : List Int) : (bytesOf xs == bytesOf xs) = true := by
  rw [beq_toListBytes]; exact beq_self_eq_true _

def evConvS (P : Program) (src dst : TypeId) (x : SV) (M : Mem) (K : Kt) : Prop :=
  match P.underlying src, P.underlying dst with
  | some (.slice e), some .string => (match P.underlying e with
    | some (.int .u8) => (match x with
      | .o (.c (.s n off len sz)) => (match M.get n with
        | some ⟨.ints .u8 xs, _⟩ => if sz = 1 then off + len ≤ xs.length ∧ K (vv (.string (bytesOf ((xs.drop off).take len)))) [] else False
        | _ => False)
      | .o (.c .z) => K (vv (.string (bytesOf []))) []
      | .o (.c (.v (.slice none _ _))) => K (vv (.string (bytesOf []))) []
      | _ => False)
    | _ => False)
  | _, _ => evConv P src dst x K

theorem run_bts0 {P : Program} (w : World) (A : Option Addr) (c : Nat) : (Conv.bytesToString (.slice A 0 c)).run P w = .ok (.string (bytesOf [])) w := by
  cases A with
  | none => rfl
  | some a => exact run_bytesToString w a 0 c [] (by rfl)

theorem convS_sound {P : Program} {o : Oper} {fr : List SV} {rd : Mem} {s d : TypeId} {x : Operand} (ho : o.op = .convert s d x) {K : Kt} (h : evConvS P s d (evO fr x) rd K) : ∃ v ups, SemOp P o fr rd v ups ∧ K v ups := by
  unfold evConvS at h
  split at h
  · rename_i e hs hd
    split at h
    · rename_i he
      split at h
      · rename_i n off len sz hx
        split at h
        · rename_i xs wr hk
          split at h
          · rename_i hsz
            subst hsz
            obtain ⟨hl, hK⟩ := h
            refine ⟨_, _, ?_, hK⟩
            intro W A β M w a next Q hSt hop hrd _ hn
            obtain ⟨m, hm, hh⟩ := hSt.names n _ (hrd n _ hk)
            have hxd := hop x (by simp [ho, Op.operands])
            rw [hx] at hxd
            obtain ⟨B, cap, m', hm', hpe, hsz, hlc, _, hA⟩ := hxd
            rw [hm] at hm'; cases hm'
            refine wp_value (w' := w) (v := .string (bytesOf ((xs.drop off).take len))) ?_ (hn _ w β (Bet.le_refl β) (fun q h1 h2 => absurd h1 h2) hSt rfl)
            have hr : (Conv.bytesToString (.slice B len cap)).run P w = .ok (.string (bytesOf ((xs.drop off).take len))) w := by
              rcases hA with h0 | ⟨rfl, _⟩
              · have : len = 0 := by omega
                subst this
                exact run_bts0 w B cap
              · have hlen : (((xs.drop off).take len).map (Value.int .u8)).length = len := by simp; omega
                have hc := run_loadCells_list (P := P) w ⟨m.b, m.o + off * m.sz, none⟩ (((xs.drop off).take len).map (Value.int .u8)) (fun q v hq => by
                  rw [List.getElem?_map] at hq
                  cases hq' : ((xs.drop off).take len)[q]? with
                  | none => rw [hq'] at hq; cases hq
                  | some y =>
                    rw [hq'] at hq
                    simp only [Option.map_some, Option.some.injEq] at hq
                    subst hq
                    rw [List.getElem?_take] at hq'
                    split at hq'
                    · rename_i hql
                      rw [List.getElem?_drop] at hq'
                      have hlt := (List.getElem?_eq_some_iff.1 hq').1
                      obtain ⟨z, hz, hdz⟩ := hh.cell (i := off + q) (j := 0) (c := .v (.int .u8 y)) (by
                        rw [Bk.at_some]
                        refine ⟨hlt, ?_⟩
                        simp [Bk.row, List.getD, hq'])
                      have hz' : z = .int .u8 y := hdz
                      rw [Addr.add_lit, ← hz', ← hz]
                      congr 2
                      rw [hsz]; omega
                    · cases hq')
                rw [hlen] at hc
                exact run_bytesToString w _ len cap _ hc
            simp only [execOp, ho, hpe, Sem.run_bind, run_convert_bytes_string w s d e B len cap hs he hd, hr, Result.andThen_ok, Sem.run_pure]
          · exact h.elim
        · exact h.elim
      · rename_i hx
        refine ⟨_, _, SemOp.pure fun β ac hop => ?_, h⟩
        have hxd := hop x (by simp [ho, Op.operands])
        rw [hx] at hxd
        obtain ⟨B, hpe⟩ := hxd
        exact ⟨_, fun w => by simp only [execOp, ho, hpe, Sem.run_bind, run_convert_bytes_string w s d e B 0 0 hs he hd, run_bts0, Result.andThen_ok, Sem.run_pure], rfl⟩
      · rename_i l c hx
        refine ⟨_, _, SemOp.pure fun β ac hop => ?_, h⟩
        have hxd := hop x (by simp [ho, Op.operands])
        rw [hx] at hxd
        have hpe : ac.eval x = .slice none l c := hxd
        have hr : ∀ w, (Conv.bytesToString (.slice none l c)).run P w = .ok (.string (bytesOf [])) w := fun w => rfl
        exact ⟨_, fun w => by simp only [execOp, ho, hpe, Sem.run_bind, run_convert_bytes_string w s d e none l c hs he hd, hr, Result.andThen_ok, Sem.run_pure], rfl⟩
      · exact h.elim
    · exact h.elim
  · exact conv_sound ho h
end Go.Sx
namespace Go.Sx

def mfind (l : List Int) : List (List Int × Value) → Nat → Option (Nat × Value)
  | [], _ => none
  | p :: r, i => if p.1 = l then some (i, p.2) else mfind l r (i + 1)
def mget (es : List (List Int × Value)) (l : List Int) : Option Value := (mfind l es 0).map (·.2)
def mput (es : List (List Int × Value)) (l : List Int) (v : Value) : List (List Int × Value) :=
  match es with
  | [] => [(l, v)]
  | p :: r => if p.1 = l then (l, v) :: r else p :: mput r l v

theorem mapDen.length {s : MK} : ∀ {E : List MapEntry} {es : List (List Int × Value)}, mapDen s E es → E.length = es.length
  | [], [], _ => rfl
  | _ :: _, _ :: _, ⟨_, r⟩ => congrArg (· + 1) (mapDen.length r)
theorem keyDen.same {s : MK} {x y : Value} {l : List Int} (h : keyDen s x l) (k : keyDen s y l) : x = y := by
  cases s with
  | glob => exact h.elim
  | many => simp only [keyDen] at h k; rw [h, k]
  | one =>
    obtain ⟨a, rfl, rfl⟩ := h
    obtain ⟨b, hb, rfl⟩ := k
    simp at hb
    rw [hb]
theorem mfind_none {s : MK} {x v : Value} {l : List Int} {clk : Nat} (hx : keyDen s x l) : ∀ {E : List MapEntry} {es : List (List Int × Value)} {i : Nat}, mapDen s E es → mfind l es i = none → mapDen s (E ++ [⟨x, v, clk⟩]) (mput es l v)
  | [], [], _, _, _ => ⟨⟨hx, rfl⟩, trivial⟩
  | e :: E, p :: es, i, ⟨h, r⟩, hf => by
    unfold mfind at hf
    split at hf
    · cases hf
    · rename_i hp
      unfold mput
      rw [if_neg hp]
      exact ⟨h, mfind_none hx r hf⟩
theorem mfind_some {s : MK} {x v : Value} {l : List Int} (hx : keyDen s x l) : ∀ {E : List MapEntry} {es : List (List Int × Value)} {i j : Nat} {v' : Value}, mapDen s E es → mfind l es i = some (j, v') →
    ∃ q e, j = i + q ∧ E[q]? = some e ∧ e.key = x ∧ e.val = v' ∧ mapDen s (E.set q { e with key := x, val := v }) (mput es l v)
  | [], [], _, _, _, _, hf => by cases hf
  | e :: E, p :: es, i, j, v', ⟨h, r⟩, hf => by
    unfold mfind at hf
    split at hf
    · rename_i hp
      simp only [Option.some.injEq, Prod.mk.injEq] at hf
      obtain ⟨rfl, rfl⟩ := hf
      unfold mput
      rw [if_pos hp]
      exact ⟨0, e, rfl, rfl, (by rw [← hp] at hx; exact h.1.same hx), h.2, ⟨hx, rfl⟩, r⟩
    · rename_i hp
      obtain ⟨q, e', h1, h2, h3, h4, h5⟩ := mfind_some hx r hf
      unfold mput
      rw [if_neg hp]
      exact ⟨q + 1, e', by omega, by simpa using h2, h3, h4, h, h5⟩

/-! ### keys that are one number -/
theorem findNow_ints {q : IntKind} {a : Int} : ∀ {E : List MapEntry} {es : List (List Int × Value)} (i : Nat), mapDen .one E es → Instr.findNow (.int q) (.int .i64 a) E i = some (mfind [a] es i)
  | [], [], _, _ => rfl
  | e :: E, p :: es, i, ⟨⟨⟨b, hp, hk⟩, hv⟩, r⟩ => by
    unfold Instr.findNow mfind
    rw [hk, hp]
    by_cases hab : b = a
    · subst hab
      simp [Instr.sameNow, hv]
    · have hba : ¬ a = b := fun e => hab e.symm
      have hf : (a == b) = false := by simp [hba]
      simp only [Instr.sameNow, if_true, hf, findNow_ints (i + 1) r, List.cons.injEq, hab, false_and, if_false]
theorem sameBits_int (k : IntKind) (a : Int) (n : Nat) : Instr.sameBits n (.int k a) (.int k a) = true := by
  cases n <;> simp [Instr.sameBits]

theorem run_mapUpd_int {P : Program} {w : World} {t kt et : TypeId} {q : IntKind} {b : Nat} {E : Array MapEntry} {clk : Nat} {es : List (List Int × Value)} (ht : P.underlying t = some (.map kt et)) (hk : P.underlying kt = some (.int q))
    (hb : w.heap[b]? = some (.map E clk)) (hE : mapDen .one E.toList es) (a : Int) (v : Value) :
    ∃ E' clk', (Instr.mapUpdate t (.map (some b)) (.int .i64 a) v).run P w = .ok () { w with heap := w.heap.setIfInBounds b (.map E' clk') } ∧ mapDen .one E'.toList (mput es [a] v) := by
  have hx : keyDen .one (.int .i64 a) [a] := ⟨a, rfl, rfl⟩
  have hchk : (Instr.checkKey false 10000 kt (.int .i64 a)).run P w = .ok () w := by
    show (Instr.checkKey false (9999 + 1) kt (.int .i64 a)).run P w = _
    unfold Instr.checkKey
    simp only [Sem.run_bind, run_underlying hk, Result.andThen_ok]
    rfl
  have hfind : (Instr.findKey kt (.int .i64 a) E.toList).run P w = .ok (mfind [a] es 0) w := by
    simp [Instr.findKey, run_underlying hk, findNow_ints 0 hE]
  cases hf : mfind [a] es 0 with
  | none =>
    refine ⟨E.push ⟨.int .i64 a, v, clk⟩, clk + 1, ?_, by rw [Array.toList_push]; exact mfind_none hx hE hf⟩
    rw [hf] at hfind
    simp [Instr.mapUpdate, run_underlying ht, MapKept.run_getObj_map hb, hchk, hfind, MapKept.run_setObj_map _ hb]
  | some r =>
    obtain ⟨j, v'⟩ := r
    obtain ⟨q', e, rfl, h2, h3, _, h5⟩ := mfind_some (v := v) hx hE hf
    rw [hf] at hfind
    have hj : E[0 + q']? = some e := by simpa using h2
    refine ⟨E.modify (0 + q') fun e => { e with key := .int .i64 a, val := v }, clk, ?_, ?_⟩
    · simp [Instr.mapUpdate, run_underlying ht, MapKept.run_getObj_map hb, hchk, hfind, MapKept.run_setObj_map _ hb, Instr.keyThatStays, hj, h3, sameBits_int, show E[q']? = some e by simpa using h2]
    · rw [Array.toList_modify, Nat.zero_add, ChangeMaps.modify_eq_set _ _ _ _ h2]
      exact h5

/-! ### the state -/
theorem St.newMap {W : World} {A : Nat → Prop} {β : Bet} {M : Mem} {w : World} (hSt : St W A β M w) {n : Nat} (hβ : β n = none) (s : MK) (hs : s ≠ .glob) :
    St W A (β.set n ⟨w.heap.size, 0, 0, 1⟩) (M.put n (some ⟨.map s [], true⟩)) (w.alloc (.map #[] 0)) := by
  have hle := Bet.set_le (m := ⟨w.heap.size, 0, 0, 1⟩) hβ
  have hold : ∀ q, q < w.heap.size → (w.alloc (.map #[] 0)).heap[q]? = w.heap[q]? := fun q hq => by
    show (w.heap.push _)[q]? = _
    rw [Array.getElem?_push, if_neg (by omega)]
  have hnew : (w.alloc (.map #[] 0)).heap[w.heap.size]? = some (.map #[] 0) := by
    show (w.heap.push _)[w.heap.size]? = _
    simp
  refine hSt.change rfl rfl rfl (by simp) hle (· = n) (fun q kq hq hN => ?_) (fun q kq hq hN => ?_) (fun b hb => .inl (hold b hb)) (fun q kq m' b hq hN hm hb => ?_) (fun q q' _ _ _ _ hne h1 h2 => absurd (h1.trans h2.symm) hne)
  · rw [Mem.get_put, if_neg hN] at hq; exact hq
  · subst hN
    rw [Mem.get_put, if_pos rfl] at hq
    cases hq
    exact ⟨_, Bet.set_same _ _ _, .inl rfl, Nat.le_refl _, (fun h => by cases h), fun s' es he => (by cases he; cases s with | glob => exact absurd rfl hs | one => exact ⟨_, _, hnew, trivial⟩ | many => exact ⟨_, _, hnew, trivial⟩), fun lo rs ov he => (by cases he)⟩
  · subst hN
    rw [Mem.get_put, if_pos rfl] at hq
    cases hq
    rw [Bet.set_same] at hm; cases hm
    obtain ⟨_, rfl⟩ := ownB.map hb
    exact .inl (Nat.le_refl _)

theorem St.setMap {W : World} {A : Nat → Prop} {β : Bet} {M : Mem} {w : World} (hSt : St W A β M w) {n : Nat} {s : MK} {es : List (List Int × Value)} {m : Nm} (hM : M.get n = some ⟨.map s es, true⟩) (hβ : β n = some m) (hs : s ≠ .glob)
    {E' : Array MapEntry} {clk' : Nat} {es' : List (List Int × Value)} (hE : mapDen s E'.toList es') :
    St W A β (M.put n (some ⟨.map s es', true⟩)) { w with heap := w.heap.setIfInBounds m.b (.map E' clk') } := by
  obtain ⟨m0, hm0, hh⟩ := hSt.names n _ hM
  rw [hβ] at hm0; cases hm0
  have hroom : m.room ≠ 0 := by have h1 : 1 ≤ m.room := hh.need; omega
  have hlt := hh.lt hroom
  have hoth : ∀ k, k ≠ m.b → (w.heap.setIfInBounds m.b (.map E' clk'))[k]? = w.heap[k]? := fun k hk => by
    rw [Array.getElem?_setIfInBounds_ne (Ne.symm hk)]
  refine hSt.change rfl rfl rfl (by simp) (Bet.le_refl β) (· = n) (fun q kq hq hN => ?_) (fun q kq hq hN => ?_) (fun b hb => ?_) (fun q kq m' b hq hN hm hb => ?_) (fun q q' _ _ _ _ hne h1 h2 => absurd (h1.trans h2.symm) hne)
  · rw [Mem.get_put, if_neg hN] at hq; exact hq
  · subst hN
    rw [Mem.get_put, if_pos rfl] at hq
    cases hq
    exact ⟨m, hβ, .inl rfl, hh.need, (fun h => by cases h), fun s' es0 he => (by cases he; cases s with | glob => exact absurd rfl hs | one => exact ⟨E', clk', by show (w.heap.setIfInBounds m.b (.map E' clk'))[m.b]? = _; simp [hlt], hE⟩ | many => exact ⟨E', clk', by show (w.heap.setIfInBounds m.b (.map E' clk'))[m.b]? = _; simp [hlt], hE⟩), fun lo rs ov he => (by cases he)⟩
  · by_cases e : b = m.b
    · subst e
      exact .inr ⟨n, _, m, hM, rfl, hβ, .inl ⟨hroom, rfl⟩, .inl rfl⟩
    · exact .inl (hoth b e)
  · subst hN
    rw [Mem.get_put, if_pos rfl] at hq
    cases hq
    rw [hβ] at hm; cases hm
    obtain ⟨_, rfl⟩ := ownB.map hb
    exact .inr ⟨q, _, m, hM, hβ, .inl ⟨hroom, rfl⟩, .inl ⟨.inl rfl, fun _ => rfl⟩⟩

/-! ### the operations -/
def evMakeMap (P : Program) (t : TypeId) (r : Option SV) (nm : Nat) (K : Kt) : Prop :=
  match r, P.underlying t with
  | none, some (.map kt _) => (match isAggT P kt with
    | true => K (.o (.c (.m nm))) [(nm, some ⟨.map .many [], true⟩)]
    | false => K (.o (.c (.m nm))) [(nm, some ⟨.map .one [], true⟩)])
  | _, _ => False
theorem makeMap_sound {P : Program} {o : Oper} {fr : List SV} {rd : Mem} {nm : Nat} (hnm : rd.get nm = none) {t : TypeId} {x : Option Operand} (ho : o.op = .makeMap t x) {K : Kt}
    (h : evMakeMap P t (x.map (evO fr)) nm K) : ∃ v ups, SemOp P o fr rd v ups ∧ K v ups := by
  have main : x = none → ∀ s : MK, s ≠ .glob → SemOp P o fr rd (.o (.c (.m nm))) [(nm, some ⟨.map s [], true⟩)] := by
    intro hx s hs W A β M w a next Q hSt hop hrd hfresh hn
    subst hx
    obtain ⟨hβ, _⟩ := hfresh nm (by simp [Ups.has]) hnm
    refine wp_value (w' := w.alloc (.map #[] 0)) (v := .map (some w.heap.size)) ?_ (hn _ _ _ (Bet.set_le hβ) (fun q h1 h2 => by have := Bet.set_dom h1 h2; subst this; simp [Ups.has]) (hSt.newMap hβ s hs) ⟨_, Bet.set_same _ _ _, rfl⟩)
    simp [execOp, ho, Instr.makeMap, newObj, Sem.run]
  unfold evMakeMap at h
  split at h
  · rename_i hx hu
    have hx' : x = none := by cases x with | none => rfl | some y => cases hx
    split at h
    · exact ⟨_, _, main hx' .many (fun h => by cases h), h⟩
    · exact ⟨_, _, main hx' .one (fun h => by cases h), h⟩
  · exact h.elim

def evMapUpd (P : Program) (t : TypeId) (m k x : SV) (rd : Mem) (K : Kt) : Prop :=
  match P.underlying t, m with
  | some (.map kt _), .o (.c (.m n)) => (match P.underlying kt, rd.get n, k, x with
    | some (.int _), some ⟨.map .one es, true⟩, .o (.c (.v (.int .i64 a))), .o (.c (.v y)) => K (.t []) [(n, some ⟨.map .one (mput es [a] y), true⟩)]
    | _, _, _, _ => False)
  | _, _ => False
theorem mapUpd_sound {P : Program} {o : Oper} {fr : List SV} {rd : Mem} {t : TypeId} {m k x : Operand} (ho : o.op = .mapUpdate t m k x) {K : Kt}
    (h : evMapUpd P t (evO fr m) (evO fr k) (evO fr x) rd K) : ∃ v ups, SemOp P o fr rd v ups ∧ K v ups := by
  unfold evMapUpd at h
  split at h
  · rename_i kt et n hu hm
    split at h
    · rename_i q es a y hku hk hkk hx
      refine ⟨_, _, ?_, h⟩
      intro W A β M w ac next Q hSt hop hrd _ hn
      have h1 := hop m (by simp [ho, Op.operands])
      have h2 := hop k (by simp [ho, Op.operands])
      have h3 := hop x (by simp [ho, Op.operands])
      rw [hm] at h1
      rw [hkk] at h2
      rw [hx] at h3
      obtain ⟨mm, hmm, e1⟩ := h1
      have e2 : ac.eval k = .int .i64 a := h2
      have e3 : ac.eval x = y := h3
      have hM := hrd n _ hk
      obtain ⟨m', hm', hh⟩ := hSt.names n _ hM
      rw [hmm] at hm'; cases hm'
      obtain ⟨E, clk, hb, hE⟩ := hh.mth _ _ rfl
      obtain ⟨E', clk', hr, hE'⟩ := run_mapUpd_int (P := P) hu hku hb hE a y
      refine wp_skip' (w' := { w with heap := w.heap.setIfInBounds mm.b (.map E' clk') }) ?_ ?_
      · simp only [execOp, ho, e1, e2, e3]
        simp [hr]
      · exact hn undef _ β (Bet.le_refl β) (fun q h1 h2 => absurd h1 h2) (hSt.setMap hM hmm (fun h => by cases h) hE') ⟨[], rfl, trivial⟩
    · exact h.elim
  · exact h.elim

def evLenM (P : Program) (t : TypeId) (x : SV) (rd : Mem) (K : Kt) (no : Prop) : Prop :=
  match P.underlying t, x with
  | some (.map _ _), .o (.c (.m n)) => (match rd.get n with
    | some ⟨.map .one es, _⟩ => K (int .i64 es.length) []
    | some ⟨.map .many es, _⟩ => K (int .i64 es.length) []
    | _ => False)
  | _, _ => no
theorem lenM_sound {P : Program} {o : Oper} {fr : List SV} {rd : Mem} {t : TypeId} {x : Operand} {c : Call} (ho : o.op = .call c) (hc : c.callee = .builtin .len) (ha : c.args.toList = [x]) (ht : c.argTypes.toList = [t]) {K : Kt} {no : Prop}
    (hno : no → ∃ v ups, SemOp P o fr rd v ups ∧ K v ups) (h : evLenM P t (evO fr x) rd K no) : ∃ v ups, SemOp P o fr rd v ups ∧ K v ups := by
  have ha' : c.args = #[x] := by apply Array.ext'; simpa using ha
  have ht' : c.argTypes = #[t] := by apply Array.ext'; simpa using ht
  unfold evLenM at h
  split at h
  · rename_i kt et n hu hx
    split at h
    · rename_i es wr hk
      refine ⟨_, _, ?_, h⟩
      intro W A β M w ac next Q hSt hop hrd _ hn
      have h1 := hop x (by simp [ho, Op.operands, Call.operands, ha'])
      rw [hx] at h1
      obtain ⟨mm, hmm, e1⟩ := h1
      have hM := hrd n _ hk
      obtain ⟨m', hm', hh⟩ := hSt.names n _ hM
      rw [hmm] at hm'; cases hm'
      obtain ⟨E, clk, hb, hE⟩ := hh.mth _ _ rfl
      have hl : E.size = es.length := by simpa using hE.length
      refine wp_value (w' := w) (v := .int .i64 es.length) ?_ (hn _ _ β (Bet.le_refl β) (fun q h1 h2 => absurd h1 h2) hSt rfl)
      simp [execOp, ho, resolve, hc, ha', ht', invoke, builtin, Builtin.len_, e1, run_underlying hu, MapKept.run_getObj_map hb, goInt, hl]
    · rename_i es wr hk
      refine ⟨_, _, ?_, h⟩
      intro W A β M w ac next Q hSt hop hrd _ hn
      have h1 := hop x (by simp [ho, Op.operands, Call.operands, ha'])
      rw [hx] at h1
      obtain ⟨mm, hmm, e1⟩ := h1
      have hM := hrd n _ hk
      obtain ⟨m', hm', hh⟩ := hSt.names n _ hM
      rw [hmm] at hm'; cases hm'
      obtain ⟨E, clk, hb, hE⟩ := hh.mth _ _ rfl
      have hl : E.size = es.length := by simpa using hE.length
      refine wp_value (w' := w) (v := .int .i64 es.length) ?_ (hn _ _ β (Bet.le_refl β) (fun q h1 h2 => absurd h1 h2) hSt rfl)
      simp [execOp, ho, resolve, hc, ha', ht', invoke, builtin, Builtin.len_, e1, run_underlying hu, MapKept.run_getObj_map hb, goInt, hl]
    · exact h.elim
  · exact hno h
end Go.Sx
namespace Go.Sx

/-- the address of element i of a table at a global variable -/
def evIndexG (P : Program) (t : TypeId) (x ix : SV) (K : Kt) (no : Prop) : Prop :=
  match x with
  | .o (.c (.v (.pointer (some ⟨b, off, none⟩)))) => (match ix with
    | .o (.c (.v (.int _ i))) => (match P.underlying t with
      | some (.array len e) => if okT P e = true then (0 ≤ i ∧ i < (len : Int)) ∧ K (.o (.c (.v (.pointer (some ⟨b, off + i.toNat * szT P e, none⟩))))) [] else False
      | _ => False)
    | _ => False)
  | _ => no
theorem indexG_sound {P : Program} {o : Oper} {fr : List SV} {rd : Mem} {t : TypeId} {x ix : Operand} (ho : o.op = .indexAddr t x ix) {K : Kt} {no : Prop}
    (hno : no → ∃ v ups, SemOp P o fr rd v ups ∧ K v ups) (h : evIndexG P t (evO fr x) (evO fr ix) K no) : ∃ v ups, SemOp P o fr rd v ups ∧ K v ups := by
  unfold evIndexG at h
  split at h
  · rename_i b off hx
    split at h
    · rename_i k i hi
      split at h
      · rename_i len e hu
        split at h
        · rename_i ht
          obtain ⟨⟨hi0, hi1⟩, h⟩ := h
          refine ⟨_, _, SemOp.pure fun β ac hop => ?_, h⟩
          have h1 := hop x (by simp [ho, Op.operands])
          have h2 := hop ix (by simp [ho, Op.operands])
          rw [hx] at h1
          rw [hi] at h2
          have h2' : ac.eval ix = .int k i := h2
          have h1' : ac.eval x = .pointer (some ⟨b, off, none⟩) := h1
          refine ⟨.pointer (some ⟨b, off + i.toNat * szT P e, none⟩), fun w => ?_, rfl⟩
          simp only [execOp, ho, h1', h2', Instr.indexAt, asIntOf, Sem.run_bind, run_underlying hu, Result.andThen_ok, Sem.run_pure, Instr.sureAddr, hi0, hi1, and_self, if_true, run_sizeOf ht, Addr.add_lit]
        · exact h.elim
      · exact h.elim
    · exact h.elim
  · exact hno h

/-- the table at global variable b -/
noncomputable def tabF (b : Nat) (M : Mem) : (IntKind → List (List Int × Value) → Prop) → Prop :=
  List.rec (motive := fun _ => (IntKind → List (List Int × Value) → Prop) → Prop) (fun _ => False) (fun x _ ih K => match x with
    | some ⟨.map .glob (([g], .int k _) :: r), _⟩ => if g = (b : Int) then K k r else ih K
    | _ => ih K) M
theorem tabF_cons (b : Nat) (x : Option Blk) (l : Mem) (K : IntKind → List (List Int × Value) → Prop) : tabF b (x :: l) K = match x with
    | some ⟨.map .glob (([g], .int k _) :: r), _⟩ => if g = (b : Int) then K k r else tabF b l K
    | _ => tabF b l K := rfl
theorem tabF_sound {b : Nat} {K : IntKind → List (List Int × Value) → Prop} : ∀ {M : Mem}, tabF b M K → ∃ n k v r wr, M.get n = some ⟨.map .glob (([(b : Int)], .int k v) :: r), wr⟩ ∧ K k r
  | [], h => h.elim
  | x :: l, h => by
    rw [tabF_cons] at h
    split at h
    · rename_i g k v r wr
      split at h
      · rename_i hg
        subst hg
        exact ⟨0, k, v, r, wr, rfl, h⟩
      · obtain ⟨n, k, v, r, wr, h1, h2⟩ := tabF_sound h
        exact ⟨n + 1, k, v, r, wr, h1, h2⟩
    · obtain ⟨n, k, v, r, wr, h1, h2⟩ := tabF_sound h
      exact ⟨n + 1, k, v, r, wr, h1, h2⟩
noncomputable def evLoadG (P : Program) (t : TypeId) (x : SV) (M : Mem) (K : Kt) (no : Prop) : Prop :=
  match x with
  | .o (.c (.v (.pointer (some ⟨b, off, none⟩)))) => if okT P t = true ∧ isAggT P t = false then tabF b M fun k r => off < r.length ∧ K (.o (.c (.v (.int k ((r.getD off ([], .int k 0)).1.getD 0 0))))) [] else False
  | _ => no
theorem loadG_sound {P : Program} {o : Oper} {fr : List SV} {rd : Mem} {t : TypeId} {x : Operand} (ho : o.op = .load t x) {K : Kt} {no : Prop}
    (hno : no → ∃ v ups, SemOp P o fr rd v ups ∧ K v ups) (h : evLoadG P t (evO fr x) rd K no) : ∃ v ups, SemOp P o fr rd v ups ∧ K v ups := by
  unfold evLoadG at h
  split at h
  · rename_i b off hx
    split at h
    · rename_i hc
      obtain ⟨ht, ha⟩ := hc
      obtain ⟨n, k, v, r, wr, hk, hoff, hK⟩ := tabF_sound h
      refine ⟨_, _, ?_, hK⟩
      intro W A β M w a next Q hSt hop hrd _ hn
      obtain ⟨m, hm, hh⟩ := hSt.names n _ (hrd n _ hk)
      have h1 := hop x (by simp [ho, Op.operands])
      rw [hx] at h1
      have h1' : a.eval x = .pointer (some ⟨b, off, none⟩) := h1
      obtain ⟨c, T, fz, hb, g, k', r', e, hmb, hmo, hcs⟩ := hh.mth _ _ rfl
      simp only [List.cons.injEq, Prod.mk.injEq, Value.int.injEq, and_true] at e
      obtain ⟨⟨e1, e2, _⟩, e3⟩ := e
      subst e2 e3
      have hgb : m.b = b := by rw [hmb]; omega
      rw [hgb] at hb
      have hy : w.cell? ⟨b, off, none⟩ = some (.int k ((r.getD off ([], .int k 0)).1.getD 0 0)) := by
        have hc := hcs off hoff
        generalize (Value.int k ((r.getD off ([], .int k 0)).1.getD 0 0)) = y at hc ⊢
        simp [World.cell?, hb, hc]
      refine wp_value (v := .int k ((r.getD off ([], .int k 0)).1.getD 0 0)) (by simp only [execOp, ho, h1']; simp [Instr.loadAt, Instr.sureAddr, loadVar, run_isAgg ht, ha, run_load, hy]) (hn _ w β (Bet.le_refl β) (fun q h1 h2 => absurd h1 h2) hSt rfl)
    · exact h.elim
  · exact hno h

/-- a byte of a string -/
def evIndexT (P : Program) (t : TypeId) (x ix : SV) (K : Kt) (no : Prop) : Prop :=
  match x with
  | .o (.c (.v (.string s))) => (match ix with
    | .o (.c (.v (.int _ i))) => (match P.underlying t with
      | some .string => 0 ≤ i ∧ (match s[i.toNat]? with
        | some b => K (int .u8 (b.toNat : Nat)) []
        | none => False)
      | _ => False)
    | _ => False)
  | _ => no
theorem indexT_sound {P : Program} {o : Oper} {fr : List SV} {rd : Mem} {t : TypeId} {x ix : Operand} (ho : o.op = .index t x ix) {K : Kt} {no : Prop}
    (hno : no → ∃ v ups, SemOp P o fr rd v ups ∧ K v ups) (h : evIndexT P t (evO fr x) (evO fr ix) K no) : ∃ v ups, SemOp P o fr rd v ups ∧ K v ups := by
  unfold evIndexT at h
  split at h
  · rename_i s hx
    split at h
    · rename_i k i hi
      split at h
      · rename_i hu
        obtain ⟨hi0, h⟩ := h
        split at h
        · rename_i b hb
          refine ⟨_, _, SemOp.pure fun β ac hop => ?_, h⟩
          have h1 := hop x (by simp [ho, Op.operands])
          have h2 := hop ix (by simp [ho, Op.operands])
          rw [hx] at h1
          rw [hi] at h2
          have h2' : ac.eval ix = .int k i := h2
          have h1' : ac.eval x = .string s := h1
          refine ⟨.int .u8 b.toNat, fun w => ?_, rfl⟩
          simp only [execOp, ho, h1', h2', Instr.index, asIntOf, Sem.run_bind, run_underlying hu, Result.andThen_ok, Sem.run_pure, hi0, if_true, hb]
        · exact h.elim
      · exact h.elim
    · exact h.elim
  · exact hno h
end Go.Sx
namespace Go.Sx

theorem St.part {W : World} {A : Nat → Prop} {β : Bet} {M : Mem} {w : World} (hSt : St W A β M w) {n : Nat} {k : Blk} {k' : Bk} (hM : M.get n = some k) (hh : ∀ m, holds w β m k → holds w β m ⟨k', k.wr⟩) (hown : ∀ m b, ownB w m k' b → ownB w m k.k b) :
    St W A β (M.put n (some ⟨k', k.wr⟩)) w := by
  refine hSt.change rfl rfl rfl (Nat.le_refl _) (Bet.le_refl β) (· = n) (fun q kq hq hN => ?_) (fun q kq hq hN => ?_) (fun b hb => .inl rfl) (fun q kq m' b hq hN hm hb => ?_) (fun q q' _ _ _ _ hne h1 h2 => absurd (h1.trans h2.symm) hne)
  · rw [Mem.get_put, if_neg hN] at hq; exact hq
  · subst hN
    rw [Mem.get_put, if_pos rfl] at hq
    cases hq
    obtain ⟨m, hm, h⟩ := hSt.names q k hM
    exact ⟨m, hm, hh m h⟩
  · subst hN
    rw [Mem.get_put, if_pos rfl] at hq
    cases hq
    exact .inr ⟨q, k, m', hM, hm, hown m' b hb, .inl ⟨.inl rfl, id⟩⟩

def evClear (P : Program) (t : TypeId) (x : SV) (M : Mem) (K : Kt) : Prop :=
  match x with
  | .o (.c (.s n off _ sz)) => (match M.get n with
    | some k => (match P.underlying t with
      | some (.slice e) => (match zeroC P e with
        | some zl => if k.wr = true ∧ k.k.isBox = false ∧ zl.length = sz ∧ zl.all C.ok = true then off ≤ k.k.n ∧ K (.t []) [(n, some ⟨k.k.sub 0 off, true⟩)] else False
        | none => False)
      | _ => False)
    | none => False)
  | _ => False

theorem zeroCells_one {z : Array Value} {n : Nat} (h : ∀ x ∈ z.toList, x.oneCell' = true) : ∀ x ∈ (Builtin.zeroCells z n).toList, x.oneCell' = true := by
  intro x hx
  unfold Builtin.zeroCells at hx
  rw [Array.toList_map, List.mem_map] at hx
  obtain ⟨i, hi, rfl⟩ := hx
  rw [Array.toList_range, List.mem_range] at hi
  have hz : 0 < z.size := by
    rcases Nat.eq_zero_or_pos z.size with h0 | h0
    · rw [h0] at hi; omega
    · exact h0
  have hl := Nat.mod_lt i hz
  rw [getElem!_pos z _ hl]
  exact h _ (by simp)

theorem clear_sound {P : Program} {o : Oper} {fr : List SV} {rd : Mem} {t : TypeId} {x : Operand} (ho : o.op = .call { callee := .builtin .clear, args := #[x], argTypes := #[t] }) {K : Kt}
    (h : evClear P t (evO fr x) rd K) : ∃ v ups, SemOp P o fr rd v ups ∧ K v ups := by
  unfold evClear at h
  split at h
  · rename_i n off len sz hx
    split at h
    · rename_i k hk
      split at h
      · rename_i e hu
        split at h
        · rename_i zl hzl
          split at h
          · rename_i hc
            obtain ⟨hwr, hbox, hzs, hzo⟩ := hc
            obtain ⟨hoff, h⟩ := h
            refine ⟨_, _, ?_, h⟩
            intro W A β M w a next Q hSt hop hrd _ hn
            obtain ⟨m, hm, hh⟩ := hSt.names n k (hrd n k hk)
            have hxd := hop x (by simp [ho, Op.operands, Call.operands])
            rw [hx] at hxd
            obtain ⟨A', cap, m', hm', he, hsz, hlc, hcm, hA⟩ := hxd
            rw [hm] at hm'; cases hm'
            obtain ⟨fit', need', box', at'⟩ := sub_sound (off := 0) (len := off) hbox hh.fits (by omega)
            have hneed : (k.k.sub 0 off).need ≤ m.room := by
              have h1 := hh.need
              have h2 : k.k.need = k.k.n * k.k.sz := by
                cases hkk : k.k with
                | box l => rw [hkk] at hbox; cases hbox
                | map s es => rw [hkk] at hbox; cases hbox
                | deep lo rs ov => rw [hkk] at hbox; cases hbox
                | _ => rfl
              have h3 : k.k.sz = m.sz := by
                rcases hh.fits with hf | ⟨hf, _⟩
                · rw [hbox] at hf; cases hf
                · exact hf.symm
              rw [need']
              rw [h2, h3] at h1
              exact Nat.le_trans (Nat.mul_le_mul_right _ hoff) h1
            have hexec : ∀ w', (Builtin.clear_ #[t] o.type #[.slice A' len cap]).run P w = .ok (.tuple #[]) w' → (execOp a.eval o).run P w = .ok (.value (.tuple #[])) w' := by
              intro w' hr
              simp only [execOp, ho, resolve, invoke, builtin, Sem.run_bind, Sem.run_pure, Result.andThen_ok, List.map_toArray, List.map_cons, List.map_nil, he, hr]
            have hj : ∀ i j y, (k.k.sub 0 off).at i j = some y → j < m.sz := by
              intro i j y hy
              rcases fit' with nf | ⟨hs1, _, hr1⟩
              · rw [box'] at nf; cases nf
              · rw [Bk.at_some] at hy
                have := (List.getElem?_eq_some_iff.1 hy.2).1
                rw [hr1 i hy.1, ← hs1] at this
                exact this
            by_cases h0 : len = 0
            · subst h0
              refine wp_value (hexec w ?_) (hn _ w β (Bet.le_refl β) (fun q h1 h2 => absurd h1 h2) ?_ ⟨[], rfl, trivial⟩)
              · cases A' <;> simp [Builtin.clear_, run_underlying hu]
              · rw [← hwr]
                refine hSt.part (hrd n k hk) (fun m2 hm2 => ?_) fun m2 b hb => .inl (hb.plain (Bk.noMap_of_box (sub_box _ _ _)))
                have hmm : m2.sz = m.sz := by
                  rcases hh.fits with hf | ⟨hf, _⟩
                  · rw [hbox] at hf; cases hf
                  · rcases hm2.fits with hf2 | ⟨hf2, _⟩
                    · rw [hbox] at hf2; cases hf2
                    · rw [hf, hf2]
                have hneed2 : (k.k.sub 0 off).need ≤ m2.room := by
                  have h1 := hm2.need
                  have h2 : k.k.need = k.k.n * k.k.sz := by
                    cases hkk : k.k with
                    | box l => rw [hkk] at hbox; cases hbox
                    | map s es => rw [hkk] at hbox; cases hbox
                    | deep lo rs ov => rw [hkk] at hbox; cases hbox
                    | _ => rfl
                  have h3 : k.k.sz = m.sz := by
                    rcases hh.fits with hf | ⟨hf, _⟩
                    · rw [hbox] at hf; cases hf
                    · exact hf.symm
                  rw [need']
                  rw [h2, h3] at h1
                  exact Nat.le_trans (Nat.mul_le_mul_right _ hoff) h1
                refine ⟨by rw [hmm]; exact fit', hneed2, ?_, ?_, fun lo rs ov he => (by have he' : k.k.sub 0 off = .deep lo rs ov := he; rw [he'] at box'; cases box')⟩
                · intro _
                  rcases hm2.there (Bk.noMap_of_box hbox) with hr0 | ⟨c, T, fz, h1, h2, h3, h4⟩
                  · exact .inl hr0
                  · refine .inr ⟨c, T, fz, h1, h2, h3, fun i j y hy => ?_⟩
                    have := (at' i j y hy).2
                    rw [Nat.zero_add] at this
                    exact h4 i j y this
                · intro s es he
                  have hb := box'
                  have he' : k.k.sub 0 off = .map s es := he
                  rw [he'] at hb
                  cases hb
            · rcases hA with hA | ⟨rfl, hrm⟩
              · omega
              obtain ⟨z, hz, hd⟩ := zeroC_sound hzl β
              have hzn : z.cells.size = m.sz := by have := hd.length; simp at this; omega
              have hpos : 0 < m.sz := by
                rcases hh.fits with hf | ⟨hf, hp, _⟩
                · rw [hbox] at hf; cases hf
                · rw [hf]; exact hp
              have hmul : (off + cap) * m.sz = off * m.sz + cap * m.sz := Nat.add_mul _ _ _
              have hlm : len * m.sz ≤ cap * m.sz := Nat.mul_le_mul_right _ hlc
              have hlp : 0 < len * m.sz := Nat.mul_pos (by omega) hpos
              have hroom : m.room ≠ 0 := by omega
              rcases hh.there (Bk.noMap_of_box hbox) with hr0 | ⟨c, T, fz, h1, h2, h3, h4⟩
              · exact absurd hr0 hroom
              have hfz := h3 hwr
              subst hfz
              have hZ : (Builtin.zeroCells z.cells len).toList.length = len * m.sz := by rw [Array.length_toList, size_zeroCells, hzn]
              have hst := run_storeCells_at (P := P) m.b (m.o + off * m.sz) T (Builtin.zeroCells z.cells len).toList 0 c w h1 (by rw [hZ]; omega) (zeroCells_one (hd.ok hzo))
              simp only [Nat.add_zero] at hst
              have hsz' : ((c.toList.take (m.o + off * m.sz) ++ (Builtin.zeroCells z.cells len).toList ++ c.toList.drop (m.o + off * m.sz + (Builtin.zeroCells z.cells len).toList.length)).toArray).size = c.size := by
                rw [List.size_toArray, List.length_append, List.length_append, List.length_take, List.length_drop, hZ, Array.length_toList]
                omega
              refine wp_value (hexec _ ?_) (hn _ _ β (Bet.le_refl β) (fun q h1 h2 => absurd h1 h2) (hSt.write (hrd n k hk) hwr hm hroom h1 (c' := (c.toList.take (m.o + off * m.sz) ++ (Builtin.zeroCells z.cells len).toList ++ c.toList.drop (m.o + off * m.sz + (Builtin.zeroCells z.cells len).toList.length)).toArray) hsz' rfl (Bk.noMap_of_box box') fit' hneed (by omega) fun i j y hy => ?_) ⟨[], rfl, trivial⟩)
              · cases len with
                | zero => exact absurd rfl h0
                | succ len => simp [Builtin.clear_, run_underlying hu, hz, hst]
              · obtain ⟨hi, hat⟩ := at' i j y hy
                rw [Nat.zero_add] at hat
                have hjs := hj i j y hy
                have hio : i * m.sz + m.sz ≤ off * m.sz := by
                  have : (i + 1) * m.sz ≤ off * m.sz := Nat.mul_le_mul_right _ hi
                  rw [Nat.add_mul, Nat.one_mul] at this
                  exact this
                obtain ⟨y', hy', hdy⟩ := h4 i j y hat
                refine ⟨y', ?_, hdy⟩
                rw [List.getElem?_toArray]
                have hsp := get_splice (l := c.toList) (xs := (Builtin.zeroCells z.cells len).toList) (o := m.o + off * m.sz) (by rw [hZ]; simp; omega) (m.o + i * m.sz + j)
                rw [hsp, if_neg (by omega)]
                simpa using hy'
          · exact h.elim
        · exact h.elim
      · exact h.elim
    · exact h.elim
  · exact h.elim
end Go.Sx
