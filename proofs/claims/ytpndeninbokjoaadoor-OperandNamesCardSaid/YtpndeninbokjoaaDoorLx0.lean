/- Tokens of a line, as plain Lean: what the lexer answers, of lists of runes. No program in it. -/
import Derived.Lib.ValidU
import Derived.Lib.RuneBytes
namespace Go.Proofs.YtpndeninbokjoaaDoor.P
/-- The runes of bytes, as the decoder gives them. -/
def runesGo : Nat → List UInt8 → List Int
 | 0, _ => []
 | n + 1, l => if l = [] then [] else ((Go.Lib.decodeL l).1 : Int) :: runesGo n (l.drop (Go.Lib.decodeL l).2)
def runesL (l : List UInt8) : List Int := runesGo l.length l
def isLet (r : Int) : Bool := (decide (97 ≤ r) && decide (r ≤ 122)) || (decide (65 ≤ r) && decide (r ≤ 90)) || r == 95 || r == 46 || r == 36
def isDig (r : Int) : Bool := decide (48 ≤ r) && decide (r ≤ 57)
def isLD (r : Int) : Bool := isLet r || isDig r
def isWht (r : Int) : Bool := r == 32 || r == 9 || r == 13
def encL (R : List Int) : List UInt8 := R.flatMap Go.Lib.encodeRune
def mkS (l : List UInt8) : ByteArray := ⟨l.toArray⟩
/-- What stands for which rune behind a backslash. -/
def escO (r : Int) : Option Int := if r = 110 then some 10 else if r = 116 then some 9 else if r = 48 then some 0 else if r = 92 then some 92 else if r = 34 then some 34 else if r = 39 then some 39 else none
/-- By which rune, behind a backslash, a rune is written. -/
def quoO (r : Int) : Option Int := if r = 0 then some 48 else if r = 9 then some 116 else if r = 10 then some 110 else if r = 92 then some 92 else if r = 34 then some 34 else none
/-- A rune, or what stands for one, between quotes. -/
def oneL (q : Int) : List Int → Option (Int × List Int)
 | [] => none
 | v :: r => if v = q ∨ v < 32 then none else if v = 92 then (match r with | [] => none | e :: r' => (match escO e with | some x => some (x, r') | none => none)) else some (v, r)
/-- The runes of a text behind its quote; what stands behind it. -/
def textL : Nat → List Int → Option (List Int × List Int)
 | 0, _ => none
 | f + 1, l => if l.head? = some 34 then some ([], l.drop 1) else (match oneL 34 l with | none => none | some (v, r) => (match textL f r with | none => none | some (a, r') => some (v :: a, r')))
def charL (l : List Int) : Option (Int × List Int) := match oneL 39 l with | none => none | some (v, r) => if r.head? = some 39 then some (v, r.drop 1) else none
theorem oneL_cons (q v : Int) (r : List Int) : oneL q (v :: r) = if v = q ∨ v < 32 then none else if v = 92 then (match r with | [] => none | e :: r' => (match escO e with | some x => some (x, r') | none => none)) else some (v, r) := rfl
theorem oneL_len {q : Int} {l : List Int} {v : Int} {r : List Int} (h : oneL q l = some (v, r)) : r.length < l.length := by
 cases l with
 | nil => cases h
 | cons x l =>
  rw [oneL_cons] at h
  split at h
  ·cases h
  ·split at h
   ·cases l with
    | nil => cases h
    | cons e l' =>
     simp only at h
     cases he : escO e with
     | none => rw [he] at h; cases h
     | some y =>
      rw [he] at h
      cases h
      simp
      omega
   ·cases h
    simp
theorem escO_bd {e y : Int} (h : escO e = some y) : 0 ≤ y ∧ y ≤ 92 := by
 unfold escO at h
 repeat' split at h
 all_goals first | (cases h; omega) | cases h
theorem oneL_bd {q : Int} {l : List Int} {v : Int} {r : List Int} (h : oneL q l = some (v, r)) (hl : ∀ x ∈ l, 0 ≤ x ∧ x ≤ 1114111) : 0 ≤ v ∧ v ≤ 1114111 := by
 cases l with
 | nil => cases h
 | cons x l =>
  rw [oneL_cons] at h
  split at h
  ·cases h
  ·split at h
   ·cases l with
    | nil => cases h
    | cons e l' =>
     simp only at h
     cases he : escO e with
     | none => rw [he] at h; cases h
     | some y =>
      rw [he] at h
      cases h
      have := escO_bd he
      omega
   ·cases h
    exact hl _ List.mem_cons_self
theorem textL_len : ∀ (f : Nat) {l a r : List Int}, textL f l = some (a, r) → r.length < l.length
 | 0, _, _, _, h => by cases h
 | f + 1, l, a, r, h => by
  unfold textL at h
  split at h
  ·rename_i h34
   cases h
   cases l with
   | nil => cases h34
   | cons x l => simp
  ·cases ho : oneL 34 l with
   | none => rw [ho] at h; cases h
   | some p =>
    obtain ⟨v, r1⟩ := p
    rw [ho] at h
    simp only at h
    cases ht : textL f r1 with
    | none => rw [ht] at h; cases h
    | some p2 =>
     obtain ⟨a2, r2⟩ := p2
     rw [ht] at h
     cases h
     have h1 := oneL_len ho
     have h2 := textL_len f ht
     omega
theorem textL_fuel : ∀ (f1 f2 : Nat) (l : List Int), l.length < f1 → l.length < f2 → textL f1 l = textL f2 l
 | 0, _, _, h, _ => absurd h (Nat.not_lt_zero _)
 | _, 0, _, _, h => absurd h (Nat.not_lt_zero _)
 | f1 + 1, f2 + 1, l, h1, h2 => by
  unfold textL
  split
  ·rfl
  ·cases ho : oneL 34 l with
   | none => rfl
   | some p =>
    obtain ⟨v, r1⟩ := p
    have h3 := oneL_len ho
    simp only
    rw [textL_fuel f1 f2 r1 (by omega) (by omega)]
theorem charL_len {l : List Int} {v : Int} {r : List Int} (h : charL l = some (v, r)) : r.length < l.length := by
 unfold charL at h
 cases ho : oneL 39 l with
 | none => rw [ho] at h; cases h
 | some p =>
  obtain ⟨v1, r1⟩ := p
  rw [ho] at h
  simp only at h
  split at h
  ·cases h
   have := oneL_len ho
   simp
   omega
  ·cases h
def isSign (r : Int) : Bool := [44, 91, 93, 35, 58, 61, 43, 45].contains r
/-- A token: its kind, its text, its number; what stands behind it. -/
def tokL : List Int → Option ((Int × List UInt8 × Int) × List Int)
 | [] => none
 | v :: r =>
  if isLet v then some ((1, encL ((v :: r).takeWhile isLD), 0), (v :: r).dropWhile isLD)
  else if isDig v then some ((2, encL ((v :: r).takeWhile isLD), 0), (v :: r).dropWhile isLD)
  else if v = 34 then (match textL (r.length + 1) r with | none => none | some (a, r') => some ((3, encL a, 0), r'))
  else if v = 39 then (match charL r with | none => none | some (c, r') => some ((5, [], c), r'))
  else if isSign v then some ((4, Go.Lib.encodeRune v, 0), r)
  else none
theorem dropWhile_len {p : Int → Bool} : ∀ l : List Int, (l.dropWhile p).length ≤ l.length
 | [] => Nat.le_refl _
 | x :: l => by
  rw [List.dropWhile_cons]
  split
  ·have := dropWhile_len (p := p) l
   simp
   omega
  ·exact Nat.le_refl _
theorem tokL_cons (v : Int) (r : List Int) : tokL (v :: r) =
  if isLet v then some (((1 : Int), encL ((v :: r).takeWhile isLD), (0 : Int)), (v :: r).dropWhile isLD)
  else if isDig v then some (((2 : Int), encL ((v :: r).takeWhile isLD), (0 : Int)), (v :: r).dropWhile isLD)
  else if v = 34 then (match textL (r.length + 1) r with | none => none | some (a, r') => some (((3 : Int), encL a, (0 : Int)), r'))
  else if v = 39 then (match charL r with | none => none | some (c, r') => some (((5 : Int), ([] : List UInt8), c), r'))
  else if isSign v then some (((4 : Int), Go.Lib.encodeRune v, (0 : Int)), r)
  else none := rfl
theorem tokL_len {l : List Int} {t : Int × List UInt8 × Int} {r : List Int} (h : tokL l = some (t, r)) : r.length < l.length := by
 cases l with
 | nil => cases h
 | cons v l =>
  have hd : isLD v = true → ((v :: l).dropWhile isLD).length < (v :: l).length := by
   intro hv
   rw [List.dropWhile_cons, hv]
   have := dropWhile_len (p := isLD) l
   simp
   omega
  rw [tokL_cons] at h
  split at h
  ·rename_i h1
   cases h
   exact hd (by unfold isLD; rw [h1]; rfl)
  ·split at h
   ·rename_i h2
    cases h
    exact hd (by unfold isLD; rw [h2, Bool.or_true])
   ·split at h
    ·cases ht : textL (l.length + 1) l with
     | none => rw [ht] at h; cases h
     | some p =>
      obtain ⟨a, r1⟩ := p
      rw [ht] at h
      cases h
      have := textL_len _ ht
      simp
      omega
    ·split at h
     ·cases ht : charL l with
      | none => rw [ht] at h; cases h
      | some p =>
       obtain ⟨a, r1⟩ := p
       rw [ht] at h
       cases h
       have := charL_len ht
       simp
       omega
     ·split at h
      ·cases h
       simp
      ·cases h
/-- Does a line end there (behind white), or a remark begin? -/
def lineEnd : List Int → Bool
 | [] => true
 | v :: r => decide (v = 47) && decide (r.head? = some 47)
def lineL : Nat → List Int → Option (List (Int × List UInt8 × Int))
 | 0, _ => none
 | f + 1, l => if lineEnd (l.dropWhile isWht) then some [] else (match tokL (l.dropWhile isWht) with | none => none | some (t, r) => (match lineL f r with | none => none | some ts => some (t :: ts)))
/-- The text that stands for runes, without its quotes. -/
def quoteL : List Int → Option (List UInt8)
 | [] => some []
 | r :: R => match quoO r with
  | some v => (match quoteL R with | none => none | some l => some (92 :: Go.Lib.encodeRune v ++ l))
  | none => if r < 32 then none else (match quoteL R with | none => none | some l => some (Go.Lib.encodeRune r ++ l))
/-- The answers. -/
def linB (l : List UInt8) : List (Int × List UInt8 × Int) × Int :=
 if 200 < l.length then ([], 2) else if Go.Lib.validD l = true then (match lineL (l.length + 1) (runesL l) with | none => ([], 3) | some ts => (ts, 0)) else ([], 3)
def quoB (l : List UInt8) : List UInt8 × Int :=
 if Go.Lib.validD l = true then (match quoteL (runesL l) with | none => ([], 3) | some q => (34 :: q ++ [34], 0)) else ([], 3)
def wordB (l : List UInt8) : Bool := decide (0 < l.length) && decide (l.length ≤ 31) && l.all (fun c => isLD c.toNat) && isLet (l.headD 0).toNat
end Go.Proofs.YtpndeninbokjoaaDoor.P
