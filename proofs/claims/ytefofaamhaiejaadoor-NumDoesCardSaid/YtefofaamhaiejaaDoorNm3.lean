/- Numbers as texts, without Go: the document's answer is the program's. -/
import Derived.Test.YtefofaamhaiejaaDoorNm2
import Derived.Test.YtefofaamhaiejaaDoorPx2
import Derived.Test.YtefofaamhaiejaaDoorPx3
import Derived.Test.YtefofaamhaiejaaDoorPx4
import Derived.Test.YtefofaamhaiejaaDoorPx5
namespace Go.Proofs.YtefofaamhaiejaaDoor.Nm
open Go.RowKit Go.Proofs.YtefofaamhaiejaaDoor.P Go.Proofs.YtefofaamhaiejaaDoor.K Go.Proofs.YtefofaamhaiejaaDoorW.PrintWords Go.Proofs.YtefofaamhaiejaaDoorW.PrintLast Go.Proofs.YtefofaamhaiejaaDoorW.PrintMore
theorem bt_nat (s : ByteArray) (i : Nat) (h : i < s.size) : bt s (i : Int) = ((s.data.toList[i]'(by simpa using h)).toNat : Int) := by
  have hs : (i : Int).toNat < s.size := by omega
  rw [← bt_at s (i : Int) hs]
  rfl
theorem rdig_tab : ∀ n : Nat, n < 256 → cleatref10_digit.f 5 (n : Int) 10 = some (if (dgP 10 n).2 = true then dgI n else -1) ∧ cleatref10_digit.f 5 (n : Int) 16 = some (if (dgP 16 n).2 = true then dgI n else -1) := by decide +kernel
theorem rdig (c : UInt8) (b : Nat) (hb : b = 10 ∨ b = 16) (k : Nat) (hk : 5 ≤ k) : cleatref10_digit.f k (c.toNat : Int) (b : Int) = some (if dgB b c = true then (dN c : Int) else -1) := by
  have h := rdig_tab c.toNat (UInt8.toNat_lt c)
  have hd : dgB (b : Int) c = true → dgI (c.toNat : Int) = (dN c : Int) := by
    intro hh
    have := (dgI_lt hh).1
    unfold dN
    omega
  rcases hb with rfl | rfl
  · have e := at_rounds (cleatref10_digit.mono (c.toNat : Int) 10) hk h.1
    refine e.trans (congrArg some ?_)
    show (if dgB (10 : Int) c = true then dgI (c.toNat : Int) else -1) = if dgB (10 : Int) c = true then (dN c : Int) else -1
    split
    · rename_i hh; exact hd hh
    · rfl
  · have e := at_rounds (cleatref10_digit.mono (c.toNat : Int) 16) hk h.2
    refine e.trans (congrArg some ?_)
    show (if dgB (16 : Int) c = true then dgI (c.toNat : Int) else -1) = if dgB (16 : Int) c = true then (dN c : Int) else -1
    split
    · rename_i hh; exact hd hh
    · rfl
theorem rl0 (s : ByteArray) (b : Nat) (hb : b = 10 ∨ b = 16) (hs : s.size ≤ 1000) (k : Nat) (hk : 5 ≤ k) : ∀ (m i : Nat), i + m = s.size →
    cleatref10_Value.l0 (k + m + 1) s b i = if (s.data.toList.drop i).all (dgB b) = true then cleatref10_Value.l1 k s b 0 0 else some (0, 3) := by
  intro m
  induction m with
  | zero =>
    intro i h
    rw [cleatref10_Value.l0, if_neg (by omega), List.drop_eq_nil_of_le (by simp; omega)]
    rfl
  | succ m ih =>
    intro i h
    have hi : i < s.data.toList.length := by simp; omega
    have ed : s.data.toList.drop i = s.data.toList[i] :: s.data.toList.drop (i + 1) := List.drop_eq_getElem_cons hi
    have := ih (i + 1) (by omega)
    rw [show k + (m + 1) + 1 = (k + m + 1) + 1 by omega]
    have hK : 5 ≤ k + m + 1 := by omega
    generalize k + m + 1 = K at this hK ⊢
    rw [cleatref10_Value.l0, if_pos (by omega), if_pos (by omega), bt_nat s i (by omega), rdig _ b hb K hK, Option.bind_some, ed, List.all_cons, w64_in ⟨by omega, by omega⟩]
    cases hd : dgB b (s.data.toList[i])
    · rw [if_neg (show ¬ (false = true) by decide), if_pos (show (-1 : Int) < 0 by decide), Bool.false_and, if_neg (show ¬ (false = true) by decide)]
    · rw [if_pos rfl, if_neg (by omega), Bool.true_and]
      exact this
/-- The number behind v, or none that fits. -/
def ansV (b : Nat) (l : List UInt8) (v : Nat) : Int × Int := if valN b l v < 18446744073709551616 then ((valN b l v : Nat), 0) else (0, 4)
theorem rl1 (s : ByteArray) (b : Nat) (hb : b = 10 ∨ b = 16) (hs : s.size ≤ 1000) (k : Nat) (hk : 5 ≤ k) : ∀ (m i v : Nat), i + m = s.size → v < 18446744073709551616 → (s.data.toList.drop i).all (dgB b) = true →
    cleatref10_Value.l1 (k + m + 1) s b v i = some (ansV b (s.data.toList.drop i) v) := by
  intro m
  induction m with
  | zero =>
    intro i v h hv _
    rw [cleatref10_Value.l1, if_neg (by omega), List.drop_eq_nil_of_le (by simp; omega)]
    unfold ansV
    rw [valN, if_pos hv]
  | succ m ih =>
    intro i v h hv ha
    have hi : i < s.data.toList.length := by simp; omega
    have ed : s.data.toList.drop i = s.data.toList[i] :: s.data.toList.drop (i + 1) := List.drop_eq_getElem_cons hi
    rw [ed, List.all_cons, Bool.and_eq_true] at ha
    have this := fun u hu => ih (i + 1) u (by omega) hu ha.2
    rw [show k + (m + 1) + 1 = (k + m + 1) + 1 by omega]
    have hK : 5 ≤ k + m + 1 := by omega
    generalize k + m + 1 = K at this hK ⊢
    rw [cleatref10_Value.l1, if_pos (by omega), if_pos (by omega), bt_nat s i (by omega), rdig _ b hb K hK, Option.bind_some, if_pos ha.1, ed, w64_in ⟨by omega, by omega⟩]
    have hd16 : dN (s.data.toList[i]) < b := by
      obtain ⟨g0, g1, _, _⟩ := dgI_lt ha.1
      unfold dN
      omega
    unfold ansV
    rw [valN]
    generalize hdd : dN (s.data.toList[i]) = d at hd16 ⊢
    have hb1 : 1 ≤ b := by rcases hb with rfl | rfl <;> decide
    have hw : IntKind.u64.wrap (b : Int) = (b : Int) := wu64_in ⟨by omega, by rcases hb with rfl | rfl <;> decide⟩
    have hw2 : IntKind.u64.wrap (d : Int) = (d : Int) := wu64_in ⟨by omega, by rcases hb with rfl | rfl <;> omega⟩
    have hw3 : IntKind.u64.wrap (Int.tdiv (IntKind.u64.wrap (18446744073709551615 - (d : Int))) (b : Int)) = (((18446744073709551615 - d) / b : Nat) : Int) := by
      rcases hb with rfl | rfl
      all_goals
        rw [wu64, wu64, Int.tdiv_eq_ediv_of_nonneg (by omega)]
        omega
    rw [hw, hw2, hw3, if_neg (by omega)]
    have hlt : (v : Int) > (((18446744073709551615 - d) / b : Nat) : Int) ↔ ¬ (v * b + d < 18446744073709551616) := by
      rcases hb with rfl | rfl <;> omega
    by_cases hg : v * b + d < 18446744073709551616
    · rw [if_neg (fun h => hlt.1 h hg)]
      have hm : IntKind.u64.wrap (IntKind.u64.wrap ((b : Int) * (v : Int)) + (d : Int)) = ((v * b + d : Nat) : Int) := by
        have e : (b : Int) * (v : Int) = ((v * b : Nat) : Int) := by rw [Int.mul_comm]; simp
        rw [e, wu64, wu64]
        generalize v * b = z at hg ⊢
        omega
      rw [hm]
      exact this _ hg
    · rw [if_pos (hlt.2 hg), if_neg]
      have := valN_le b hb1 (s.data.toList.drop (i + 1)) (v * b + d)
      omega
theorem okB_list {s : ByteArray} {b : Int} : okB s b = (s.data.toList.all (dgB b) && !s.data.toList.isEmpty) := rfl
theorem rj1 (s : ByteArray) (b : Nat) (hb : b = 10 ∨ b = 16) (hs : s.size ≤ 1000) (k : Nat) (hk : 5 ≤ k) :
    cleatref10_Value.j1 (k + s.size + 1 + s.size + 1 + 1) s b = some (if okB s b = true then ansL b s.data.toList else (0, 3)) := by
  rw [cleatref10_Value.j1]
  by_cases hz : s.size = 0
  · have hl : s.data.toList = [] := by
      apply List.eq_nil_of_length_eq_zero
      simpa using hz
    rw [if_pos (by omega), okB_list, hl]
    rfl
  · have hne : s.data.toList.isEmpty = false := by
      cases hl : s.data.toList with
      | nil => exact absurd (by have := congrArg List.length hl; simpa using this) hz
      | cons a r => rfl
    rw [if_neg (by omega)]
    have h0 := rl0 s b hb hs (k + s.size + 1) (by omega) s.size 0 (by omega)
    rw [List.drop_zero] at h0
    refine h0.trans ?_
    rw [okB_list, hne]
    cases ha : s.data.toList.all (dgB b)
    · rfl
    · rw [if_pos rfl, if_pos (by rfl)]
      have h1 := rl1 s b hb hs k hk s.size 0 0 (by omega) (by decide) (by rw [List.drop_zero]; exact ha)
      rw [List.drop_zero] at h1
      exact h1
theorem value_ans (s : ByteArray) : num_Value.f s = some (if okB (restS s) (baseS s) = true then ansL (baseS s) (restS s).data.toList else (0, 3)) := by
  cases h : okB (restS s) (baseS s)
  · exact value_no h
  · exact value_ok h
theorem rest_size {s : ByteArray} (h : hexS s = true) : 2 ≤ s.size ∧ (s.extract 2 s.size).size + 2 = s.size := by
  unfold hexS at h
  rw [Bool.and_eq_true, decide_eq_true_eq] at h
  refine ⟨h.1, ?_⟩
  simp
  omega
/-- Value: the document's answer is the program's. -/
theorem rvalue (s : ByteArray) (hs : s.size ≤ 300) (k : Nat) (hk : 1000 ≤ k) : cleatref10_Value.f k s = num_Value.f s := by
  obtain ⟨q, hq⟩ : ∃ q, k = q + 1000 := ⟨k - 1000, by omega⟩
  have plain : hexS s = false → cleatref10_Value.j1 (k - 1) s 10 = num_Value.f s := by
    intro hx
    have er : restS s = s := by unfold restS; rw [hx]; rfl
    have eb : baseS s = 10 := by unfold baseS; rw [hx]; rfl
    rw [value_ans, er, eb, show k - 1 = (k - 1 - (s.size + 1 + s.size + 1 + 1)) + s.size + 1 + s.size + 1 + 1 by omega]
    exact rj1 s 10 (Or.inl rfl) (by omega) _ (by omega)
  have hexed : hexS s = true → cleatref10_Value.j1 (k - 1) (s.extract 2 s.size) 16 = num_Value.f s := by
    intro hx
    have er : restS s = s.extract 2 s.size := by unfold restS; rw [hx]; rfl
    have eb : baseS s = 16 := by unfold baseS; rw [hx]; rfl
    have hr := rest_size hx
    generalize ht : s.extract 2 s.size = t at *
    rw [value_ans, er, eb, show k - 1 = (k - 1 - (t.size + 1 + t.size + 1 + 1)) + t.size + 1 + t.size + 1 + 1 by omega]
    exact rj1 t 16 (Or.inr rfl) (by omega) _ (by omega)
  have hj : ∀ x : Bool, hexS s = x → cleatref10_Value.j0 k s 10 x = num_Value.f s := by
    intro x hx
    rw [show k = (k - 1) + 1 by omega, cleatref10_Value.j0]
    cases x
    · rw [if_neg (by decide)]
      exact plain hx
    · rw [if_pos rfl, if_pos (by have := (rest_size hx).1; omega)]
      exact hexed hx
  unfold cleatref10_Value.f
  have hx2 : 2 ≤ s.size → hexS s = (decide (bt s 0 = 48) && (bt s 1 == 120)) := by
    intro h2
    unfold hexS
    rw [decide_eq_true h2, Bool.true_and]
    have e : (s.extract 0 2).toList = s.data.toList.take 2 := by simp [ByteArray.toList_eq]
    have b0 := bt_nat s 0 (by omega)
    have b1 := bt_nat s 1 (by omega)
    rw [show ((0 : Nat) : Int) = 0 from rfl] at b0
    rw [show ((1 : Nat) : Int) = 1 from rfl] at b1
    rw [e, b0, b1]
    have hl : 2 ≤ s.data.toList.length := by simpa using h2
    obtain ⟨x, y, r, hxy⟩ : ∃ x y r, s.data.toList = x :: y :: r := by
      match s.data.toList, hl with
      | x :: y :: r, _ => exact ⟨x, y, r, rfl⟩
    have g0 : s.data.toList[0] = x := by simp [hxy]
    have g1 : s.data.toList[1] = y := by simp [hxy]
    rw [g0, g1, hxy]
    · show ([x, y] == [48, 120]) = (decide ((x.toNat : Int) = 48) && ((y.toNat : Int) == 120))
      have q : ∀ (c d : UInt8), c = d ↔ (c.toNat : Int) = (d.toNat : Int) := fun c d => ⟨fun h => by rw [h], fun h => UInt8.toNat_inj.1 (by omega)⟩
      rw [Bool.eq_iff_iff, beq_iff_eq, Bool.and_eq_true, decide_eq_true_eq, beq_iff_eq]
      constructor
      · intro h
        injection h with h1 h2
        injection h2 with h2 _
        subst h1 h2
        exact ⟨rfl, rfl⟩
      · rintro ⟨h1, h2⟩
        rw [(q x 48).2 h1, (q y 120).2 h2]
  by_cases h2 : 2 ≤ s.size
  · rw [if_pos (by omega), if_pos (by omega)]
    have e := hx2 h2
    by_cases h48 : bt s 0 = 48
    · rw [if_pos h48, if_pos (by omega)]
      rw [decide_eq_true h48, Bool.true_and] at e
      exact hj _ e
    · rw [if_neg h48]
      rw [decide_eq_false h48, Bool.false_and] at e
      exact hj _ e
  · rw [if_neg (by omega)]
    refine hj _ ?_
    unfold hexS
    rw [decide_eq_false h2]
    rfl
/-! ### the numerals -/
def numL (b : Nat) : Nat → Nat → List UInt8
  | 0, _ => []
  | f + 1, n => if n < b then [hexC n] else numL b f (n / b) ++ [hexC (n % b)]
theorem numL_hex : ∀ f v, numL 16 f v = hexL f v
  | 0, _ => rfl
  | f + 1, v => by rw [numL, hexL, numL_hex f]
theorem hexC_dec : ∀ n : Nat, n < 10 → hexC n = UInt8.ofNat (48 + n) := by decide +kernel
theorem numL_dec : ∀ f v, v < 10 ^ (f + 1) → numL 10 (f + 1) v = Go.Lib.decDigits v
  | 0, v, h => by
    have hv : v < 10 := by simpa using h
    rw [numL, if_pos hv, Go.Lib.decDigits_one hv, hexC_dec v hv]
  | f + 1, v, h => by
    rw [numL]
    by_cases hv : v < 10
    · rw [if_pos hv, Go.Lib.decDigits_one hv, hexC_dec v hv]
    · rw [if_neg hv, decDigits_big hv, numL_dec f (v / 10) (by rw [Nat.pow_succ] at h; exact Nat.div_lt_of_lt_mul (by rw [Nat.mul_comm]; exact h)), hexC_dec _ (by omega)]
theorem more16 : ∀ d : Nat, d < 16 → (((⟨#[48, 49, 50, 51, 52, 53, 54, 55, 56, 57, 97, 98, 99, 100, 101, 102]⟩ : ByteArray).extract ((d : Int)).toNat (((d : Int) + 1)).toNat)) = ⟨#[hexC d]⟩ := by decide +kernel
theorem cons_bytes (c : UInt8) (l : List UInt8) : (⟨#[c]⟩ : ByteArray) ++ ⟨l.toArray⟩ = ⟨(c :: l).toArray⟩ := by
  apply ByteArray.ext
  rw [ByteArray.data_append]
  apply Array.toList_inj.1
  simp
theorem rwrite (b : Nat) (hb : b = 10 ∨ b = 16) : ∀ (f v k : Nat) (out : List UInt8), v < b ^ (f + 1) → v < 18446744073709551616 → out.length + f ≤ 1000 → (0 < v ∨ out = []) →
    cleatref10_write.l0 (k + f + 2) v b ⟨#[48, 49, 50, 51, 52, 53, 54, 55, 56, 57, 97, 98, 99, 100, 101, 102]⟩ ⟨out.toArray⟩ = some ⟨(numL b (f + 1) v ++ out).toArray⟩ := by
  intro f
  have hb16 : b ≤ 16 := by rcases hb with rfl | rfl <;> decide
  have hb10 : 10 ≤ b := by rcases hb with rfl | rfl <;> decide
  have body : ∀ (v K : Nat) (out : List UInt8), v < 18446744073709551616 → out.length ≤ 1000 → (0 < v ∨ out = []) →
      cleatref10_write.l0 (K + 1) v b ⟨#[48, 49, 50, 51, 52, 53, 54, 55, 56, 57, 97, 98, 99, 100, 101, 102]⟩ ⟨out.toArray⟩ = cleatref10_write.l0 K ((v / b : Nat) : Int) b ⟨#[48, 49, 50, 51, 52, 53, 54, 55, 56, 57, 97, 98, 99, 100, 101, 102]⟩ ⟨(hexC (v % b) :: out).toArray⟩ := by
    intro v K out hv ho hor
    have hm : Int.tmod (v : Int) (b : Int) = ((v % b : Nat) : Int) := by rw [Int.tmod_eq_emod_of_nonneg (by omega)]; simp
    have hdv : IntKind.u64.wrap (Int.tdiv (v : Int) (b : Int)) = ((v / b : Nat) : Int) := by
      rw [Int.tdiv_eq_ediv_of_nonneg (by omega)]
      have : v / b ≤ v := Nat.div_le_self v b
      rw [show (v : Int) / (b : Int) = ((v / b : Nat) : Int) by simp]
      generalize v / b = z at this ⊢
      exact wu64_in ⟨by omega, by omega⟩
    have hlt : v % b < b := Nat.mod_lt _ (by omega)
    rw [cleatref10_write.l0, hm, hdv]
    generalize v % b = d at hlt ⊢
    have hwd : IntKind.u64.wrap ((d : Int) + 1) = (d : Int) + 1 := wu64_in ⟨by omega, by omega⟩
    have hS : (⟨#[48, 49, 50, 51, 52, 53, 54, 55, 56, 57, 97, 98, 99, 100, 101, 102]⟩ : ByteArray).size = 16 := rfl
    rw [hwd, more16 d (by omega), cons_bytes, hS]
    have hz : (⟨#[hexC d]⟩ : ByteArray).size = 1 := rfl
    have ho2 : (⟨out.toArray⟩ : ByteArray).size = out.length := by simp [ByteArray.size]
    rw [hz, ho2]
    by_cases hv0 : v = 0
    · rcases hor with h | h
      · omega
      · rw [if_neg (by omega), if_pos (by rw [h, ByteArray.toList_eq]), if_neg (by omega), if_pos (by omega), if_pos (by omega), if_pos (by omega), if_pos (by omega)]
    · rw [if_pos (by omega), if_neg (by omega), if_pos (by omega), if_pos (by omega), if_pos (by omega), if_pos (by omega)]
  have stop : ∀ (K : Nat) (c : UInt8) (out : List UInt8), cleatref10_write.l0 (K + 1) ((0 : Nat) : Int) b ⟨#[48, 49, 50, 51, 52, 53, 54, 55, 56, 57, 97, 98, 99, 100, 101, 102]⟩ ⟨(c :: out).toArray⟩ = some ⟨(c :: out).toArray⟩ := by
    intro K c out
    rw [cleatref10_write.l0, if_neg (by omega), if_neg (by simp [ByteArray.toList_eq])]
  induction f with
  | zero =>
    intro v k out h hv ho hor
    have hvb : v < b := by simpa using h
    rw [show k + 0 + 2 = (k + 1) + 1 by omega, body v (k + 1) out hv (by omega) hor, Nat.div_eq_of_lt hvb, Nat.mod_eq_of_lt hvb, stop, numL, if_pos hvb]
    rfl
  | succ f ih =>
    intro v k out h hv ho hor
    rw [show k + (f + 1) + 2 = (k + f + 2) + 1 by omega, body v (k + f + 2) out hv (by omega) hor, numL]
    by_cases hvb : v < b
    · rw [Nat.div_eq_of_lt hvb, Nat.mod_eq_of_lt hvb, show k + f + 2 = (k + f + 1) + 1 by omega, stop, if_pos hvb]
      rfl
    · rw [if_neg hvb, ih (v / b) k (hexC (v % b) :: out) (by rw [Nat.pow_succ] at h; exact Nat.div_lt_of_lt_mul (by rw [Nat.mul_comm]; exact h)) (by have := Nat.div_le_self v b; omega) (by simp; omega) (Or.inl (Nat.div_pos (by omega) (by omega))), List.append_assoc]
      rfl
theorem rtext (v : Nat) (hv : v < 18446744073709551616) (k : Nat) (hk : 1000 ≤ k) : cleatref10_Text.f k (v : Int) = some (decS v) := by
  unfold cleatref10_Text.f cleatref10_write.f
  have h := rwrite 10 (Or.inl rfl) 19 v (k - 21) [] (by omega) hv (by simp) (Or.inr rfl)
  rw [show k - 21 + 19 + 2 = k by omega] at h
  rw [show ((10 : Nat) : Int) = 10 from rfl] at h
  rw [h, Option.bind_some, List.append_nil, numL_dec 19 v (by omega)]
  rfl
theorem rhex (v : Nat) (hv : v < 18446744073709551616) (k : Nat) (hk : 1000 ≤ k) : cleatref10_Hex.f k (v : Int) = some ⟨(48 :: 120 :: hexL 16 v).toArray⟩ := by
  unfold cleatref10_Hex.f cleatref10_write.f
  have h := rwrite 16 (Or.inr rfl) 15 v (k - 17) [] (by omega) hv (by simp) (Or.inr rfl)
  rw [show k - 17 + 15 + 2 = k by omega] at h
  rw [show ((16 : Nat) : Int) = 16 from rfl] at h
  rw [h, Option.bind_some, List.append_nil, numL_hex, show 15 + 1 = 16 from rfl]
  have hz := hexT_size v
  unfold hexT at hz
  rw [if_pos (by omega)]
  rfl
/-! ### numbers with a sign -/
theorem rof {n : Int} (h0 : -9223372036854775808 ≤ n) (h1 : n ≤ 9223372036854775807) : cleatref10_Of.f n = num_Of.f n := by
  unfold cleatref10_Of.f
  by_cases hb : n < 0
  · rw [of_neg h0 hb, if_neg (by omega)]
    by_cases hm : n = -9223372036854775808
    · rw [if_pos hm, hm]
      rfl
    · rw [if_neg hm, w64_in ⟨by omega, by omega⟩, wu64_in ⟨by omega, by omega⟩]
  · rw [of_pos h1 (by omega), if_pos (by omega), wu64_in ⟨by omega, by omega⟩]
theorem rsigned (m : Bool) {v : Int} (h0 : 0 ≤ v) (h1 : v < 18446744073709551616) (k : Nat) (hk : 2 ≤ k) : cleatref10_Signed.f k m v = num_Signed.f m v := by
  obtain ⟨q, rfl⟩ : ∃ q, k = q + 1 + 1 := ⟨k - 2, by omega⟩
  unfold cleatref10_Signed.f
  cases m
  · rw [if_neg (by decide), cleatref10_Signed.j0]
    by_cases h : v ≤ 9223372036854775807
    · rw [signed_pos h0 h, decide_eq_true (by omega), if_pos rfl, w64_in ⟨by omega, by omega⟩]
    · rw [signed_pos_no (by omega), decide_eq_false (by omega), if_neg (by decide), if_neg (by decide), cleatref10_Signed.j1, if_neg (by decide), if_neg (by decide)]
  · rw [if_pos rfl, cleatref10_Signed.j0, if_neg (by decide), if_pos rfl, cleatref10_Signed.j1]
    by_cases h : v < 9223372036854775808
    · rw [signed_neg h0 (by omega), decide_eq_true h, if_pos rfl, w64_in (n := v) ⟨by omega, by omega⟩, w64_in ⟨by omega, by omega⟩]
    · rw [decide_eq_false h, if_neg (by decide), if_pos rfl]
      by_cases he : v = 9223372036854775808
      · rw [if_pos he, he, signed_neg (by omega) (by omega)]
      · rw [if_neg he, signed_neg_no (by omega)]
theorem rsum {v n : Int} (h0 : 0 ≤ v) (h1 : v < 18446744073709551616) (h2 : -9223372036854775808 ≤ n) (h3 : n ≤ 9223372036854775807) (k : Nat) (hk : 1 ≤ k) : cleatref10_Sum.f k v n = num_Sum.f v n := by
  obtain ⟨q, rfl⟩ : ∃ q, k = q + 1 := ⟨k - 1, by omega⟩
  unfold cleatref10_Sum.f
  rw [rof h2 h3, sum_f h0 h1 h2 h3]
  by_cases hb : n < 0
  · rw [of_neg h2 hb, Option.bind_some]
    rw [if_pos (show ((true, -n) : Bool × Int).1 = true from rfl)]
    by_cases hc : 0 ≤ v + n
    · rw [if_neg (show ¬ (((true, -n) : Bool × Int).2 > v) by show ¬ (-n > v); omega), if_pos (show 0 ≤ v + n ∧ v + n < 18446744073709551616 from ⟨hc, by omega⟩), cleatref10_Sum.j0, if_neg (show ¬ (false = true) by decide), if_pos (show ((true, -n) : Bool × Int).1 = true from rfl)]
      show some (IntKind.u64.wrap (v - -n), (0 : Int)) = _
      rw [wu64_in ⟨by omega, by omega⟩, show v - -n = v + n by omega]
    · rw [if_pos (show ((true, -n) : Bool × Int).2 > v by show -n > v; omega), if_neg (show ¬ (0 ≤ v + n ∧ v + n < 18446744073709551616) by omega), cleatref10_Sum.j0, if_pos rfl]
  · rw [of_pos h3 (by omega), Option.bind_some]
    rw [if_neg (show ¬ (false = true) by decide)]
    simp only [cleatref10_Sum.j0]
    have hw : IntKind.u64.wrap (18446744073709551615 - v) = 18446744073709551615 - v := wu64_in ⟨by omega, by omega⟩
    by_cases hc : v + n < 18446744073709551616
    · rw [hw, decide_eq_false (by omega), if_neg (by decide), if_neg (by decide), if_pos ⟨by omega, hc⟩, wu64_in ⟨by omega, by omega⟩]
    · rw [hw, decide_eq_true (by omega), if_pos rfl, if_neg (by omega)]
end Go.Proofs.YtefofaamhaiejaaDoor.Nm
