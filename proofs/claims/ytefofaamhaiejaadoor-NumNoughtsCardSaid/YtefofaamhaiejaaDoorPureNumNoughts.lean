/- NumNoughts, as plain Lean: noughts ahead of a number turn nothing; a digit more makes it ten times, and the digit, or too great. -/
import Derived.Test.YtefofaamhaiejaaDoorQNumNoughts
import Derived.Test.YtefofaamhaiejaaDoorNm2
import Derived.Test.YtefofaamhaiejaaDoorPx6
namespace Go.Proofs.YtefofaamhaiejaaDoor.NumNoughtsP
open Go.RowKit Go.Proofs.YtefofaamhaiejaaDoor.P Go.Proofs.YtefofaamhaiejaaDoor.K Go.Proofs.YtefofaamhaiejaaDoor.Nm Go.Proofs.YtefofaamhaiejaaDoor.Q Go.Proofs.YtefofaamhaiejaaDoorW.PrintWords Go.Proofs.YtefofaamhaiejaaDoorW.PrintLast Go.Proofs.YtefofaamhaiejaaDoorW.PrintMore
/-- n noughts ahead. -/
def nough (n : Nat) (s : ByteArray) : ByteArray := ⟨(List.replicate n 48 ++ s.data.toList).toArray⟩
theorem nough_zero (s : ByteArray) : nough 0 s = s := by
  unfold nough
  simp
theorem nough_succ (n : Nat) (s : ByteArray) : (⟨#[48]⟩ : ByteArray) ++ nough n s = nough (n + 1) s := by
  apply ByteArray.ext
  rw [ByteArray.data_append]
  unfold nough
  apply Array.toList_inj.1
  simp [List.replicate_succ]
theorem nough_size (n : Nat) (s : ByteArray) : (nough n s).size = n + s.size := by
  show (List.replicate n (48 : UInt8) ++ s.data.toList).toArray.size = n + s.size
  rw [List.size_toArray, List.length_append, List.length_replicate]
  rfl
theorem nough_list (n : Nat) (s : ByteArray) : (nough n s).data.toList = List.replicate n 48 ++ s.data.toList := by unfold nough; simp
theorem valN_noughts : ∀ n : Nat, valN 10 (List.replicate n 48) 0 = 0
  | 0 => rfl
  | n + 1 => by
    rw [List.replicate_succ]
    show valN 10 (List.replicate n 48) (0 * 10 + dN 48) = 0
    exact valN_noughts n
theorem ans_nough (n : Nat) (s : ByteArray) : ansL 10 (nough n s).data.toList = ansL 10 s.data.toList := by
  unfold ansL
  rw [nough_list, valN_append, valN_noughts]
theorem all_nough {s : ByteArray} (n : Nat) (h : s.data.toList.all dec = true) : (nough n s).data.toList.all dec = true := by
  rw [nough_list, List.all_append, h, Bool.and_true, List.all_eq_true]
  intro c hc
  rw [(List.mem_replicate.1 hc).2]
  rfl
theorem l1_run (s : ByteArray) (n : Nat) (d v e : Int) (hs : s.size ≤ 100) (hn : n ≤ 30) : ∀ (m i k : Nat), i + m = n →
    cleatlaw10_NumNoughts.l1 (k + m) s n d v e (nough i s) i = cleatlaw10_NumNoughts.l1 k s n d v e (nough n s) n := by
  intro m
  induction m with
  | zero => intro i k h; obtain rfl : i = n := by omega
            rfl
  | succ m ih =>
    intro i k h
    rw [← ih (i + 1) k (by omega), show k + (m + 1) = (k + m) + 1 by omega]
    generalize k + m = K
    rw [cleatlaw10_NumNoughts.l1, if_pos (by omega), if_pos (by rw [nough_size]; omega), nough_succ, w64_in ⟨by omega, by omega⟩]
    first | done | rfl
theorem bt_at' (s : ByteArray) (i : Nat) (h : i < s.size) : bt s (i : Int) = ((s.data.toList[i]'(by simpa using h)).toNat : Int) := by
  have hs : (i : Int).toNat < s.size := by omega
  rw [← bt_at s (i : Int) hs]
  rfl
theorem l0_run (s : ByteArray) (n d : Int) (hs : s.size ≤ 100) : ∀ (m i k : Nat), i + m = s.size →
    cleatlaw10_NumNoughts.l0 (k + m + 1) s n d i = some true ∨ (s.data.toList.drop i).all dec = true ∧ cleatlaw10_NumNoughts.l0 (k + m + 1) s n d i = (num_Value.f s).bind fun bt177 => (cleatlaw10_NumNoughts.l1 k s n d bt177.1 bt177.2 s 0) := by
  intro m
  induction m with
  | zero =>
    intro i k h
    refine Or.inr ⟨by rw [List.drop_eq_nil_of_le (by simp; omega)]; rfl, ?_⟩
    rw [cleatlaw10_NumNoughts.l0, if_neg (by omega)]
    first | done | rfl
  | succ m ih =>
    intro i k h
    have hi : i < s.data.toList.length := by simp; omega
    have ed : s.data.toList.drop i = s.data.toList[i] :: s.data.toList.drop (i + 1) := List.drop_eq_getElem_cons hi
    rw [show k + (m + 1) + 1 = (k + m + 1) + 1 by omega]
    have := ih (i + 1) k (by omega)
    generalize hK : k + m + 1 = K at this ⊢
    rw [cleatlaw10_NumNoughts.l0, if_pos (by omega), if_pos (by omega), bt_at' s i (by omega), counted_ok, ed, List.all_cons, w64_in ⟨by omega, by omega⟩]
    by_cases h1 : ((s.data.toList[i]).toNat : Int) < 48
    · rw [if_pos h1]
      exact Or.inl rfl
    · rw [if_neg h1]
      by_cases h2 : ((s.data.toList[i]).toNat : Int) > 57
      · rw [if_pos h2]
        exact Or.inl rfl
      · rw [if_neg h2, show dec (s.data.toList[i]) = true from dec_iff.2 ⟨by omega, by omega⟩, Bool.true_and]
        exact this
theorem more_dig : ∀ d : Nat, d < 10 → (((⟨#[48, 49, 50, 51, 52, 53, 54, 55, 56, 57]⟩ : ByteArray).extract ((d : Int)).toNat (((d : Int) + 1)).toNat).data.toList = [UInt8.ofNat (48 + d)]) := by decide +kernel
theorem add_dig (s : ByteArray) (d : Nat) (hd : d < 10) : (s ++ ((⟨#[48, 49, 50, 51, 52, 53, 54, 55, 56, 57]⟩ : ByteArray).extract ((d : Int)).toNat (((d : Int) + 1)).toNat)).data.toList = s.data.toList ++ [UInt8.ofNat (48 + d)] := by
  rw [ByteArray.data_append, Array.toList_append, more_dig d hd]
theorem size_dig (d : Nat) (hd : d < 10) : ((⟨#[48, 49, 50, 51, 52, 53, 54, 55, 56, 57]⟩ : ByteArray).extract ((d : Int)).toNat (((d : Int) + 1)).toNat).size = 1 := by
  have := congrArg List.length (more_dig d hd)
  rw [Array.length_toList] at this
  exact this
/-- The end of the statement's text. -/
theorem l1_end (s : ByteArray) (n d : Nat) (k : Nat) (hs : s.size ≤ 100) (hn : n ≤ 30) (hd : d < 10) (ha : s.data.toList.all dec = true) :
    ((num_Value.f s).bind fun bt177 => (cleatlaw10_NumNoughts.l1 (k + n + 1) s n d bt177.1 bt177.2 s 0)) = some true := by
  have start : ∀ v e, cleatlaw10_NumNoughts.l1 (k + n + 1) s n d v e s 0 = cleatlaw10_NumNoughts.l1 (k + 1) s n d v e (nough n s) n := by
    intro v e
    have := l1_run s n d v e hs hn n 0 (k + 1) (by omega)
    rw [nough_zero, show k + 1 + n = k + n + 1 by omega] at this
    exact this
  simp only [start]
  by_cases hne : s.data.toList = []
  · have hv : num_Value.f s = some (0, 3) := by
      have hz : s.size = 0 := by have := congrArg List.length hne; simpa using this
      have hx := hexS_dec ha
      refine value_no ?_
      have er : restS s = s := by unfold restS; rw [hx]; rfl
      have eb : baseS s = 10 := by unfold baseS; rw [hx]; rfl
      rw [er, eb]
      unfold okB
      rw [hne]
      rfl
    rw [hv, Option.bind_some, cleatlaw10_NumNoughts.l1, if_neg (by omega), counted_ok]
    have hl : s.toList = [] := by rw [ByteArray.toList_eq]; exact hne
    by_cases hn0 : n = 0
    · subst hn0
      rw [nough_zero, hv, Option.bind_some, if_pos hl, Option.bind_some, if_pos rfl, if_pos rfl, if_pos (by rfl)]
      rfl
    · have hv2 : num_Value.f (nough n s) = some (0, 0) := by
        rw [value_dec (all_nough n ha) (by rw [nough_list, hne]; obtain ⟨m, rfl⟩ : ∃ m, n = m + 1 := ⟨n - 1, by omega⟩; simp [List.replicate_succ]), ans_nough, hne]
        rfl
      have hb : ((((0 : Int), (0 : Int)).2 == 3) == ((n : Int) == 0)) = true := by
        rw [show ((n : Int) == 0) = false from beq_eq_false_iff_ne.2 (by omega)]
        rfl
      rw [hv2, Option.bind_some, if_pos hl, Option.bind_some, if_pos rfl, if_pos rfl, if_pos hb]
      rfl
  · have hv := value_dec ha hne
    have hv2 : num_Value.f (nough n s) = some (ansL 10 s.data.toList) := by
      rw [value_dec (all_nough n ha) (by rw [nough_list]; simp [hne]), ans_nough]
    obtain ⟨g1, g2, g3⟩ := decC d hd
    have hv3 : num_Value.f (s ++ ((⟨#[48, 49, 50, 51, 52, 53, 54, 55, 56, 57]⟩ : ByteArray).extract ((d : Int)).toNat (((d : Int) + 1)).toNat)) = some (ansL 10 (s.data.toList ++ [UInt8.ofNat (48 + d)])) := by
      rw [value_dec (by rw [add_dig s d hd, List.all_append, ha, List.all_cons, g1]; rfl) (by rw [add_dig s d hd]; simp), add_dig s d hd]
    rw [hv, Option.bind_some, cleatlaw10_NumNoughts.l1, if_neg (by omega), counted_ok, hv2, Option.bind_some, if_neg (by rw [ByteArray.toList_eq]; exact hne), w64_in ⟨by omega, by omega⟩, if_pos (by omega), if_pos (by omega), if_pos (by omega), if_pos (by rw [size_dig d hd]; omega), hv3, Option.bind_some]
    have e3 : valN 10 (s.data.toList ++ [UInt8.ofNat (48 + d)]) 0 = valN 10 s.data.toList 0 * 10 + d := by
      rw [valN_append]
      show valN 10 s.data.toList 0 * 10 + dN _ = _
      rw [g2]
    unfold ansL
    rw [e3]
    generalize valN 10 s.data.toList 0 = v
    by_cases hv1 : v < 18446744073709551616
    · rw [if_pos hv1, if_pos rfl, Option.bind_some, if_pos rfl, if_pos rfl, if_pos rfl]
      have hw : IntKind.u64.wrap (Int.tdiv (IntKind.u64.wrap (18446744073709551615 - (IntKind.u64.wrap (d : Int)))) 10) = (((18446744073709551615 - d) / 10 : Nat) : Int) := by
        rw [wu64, wu64, wu64, Int.tdiv_eq_ediv_of_nonneg (by omega)]
        omega
      rw [hw]
      by_cases hg : (v : Int) > (((18446744073709551615 - d) / 10 : Nat) : Int)
      · rw [decide_eq_true hg, if_neg (show ¬ (v * 10 + d < 18446744073709551616) by omega), if_pos (by rfl), if_pos hg]
      · rw [decide_eq_false hg, if_pos (show v * 10 + d < 18446744073709551616 by omega), if_pos (by rfl), if_neg hg]
        refine congrArg some (beq_iff_eq.2 ?_)
        show ((v * 10 + d : Nat) : Int) = IntKind.u64.wrap (IntKind.u64.wrap (10 * (v : Int)) + IntKind.u64.wrap (d : Int))
        rw [wu64, wu64, wu64]
        omega
    · rw [if_neg hv1, if_neg (show ¬ (v * 10 + d < 18446744073709551616) by omega), if_neg (by decide), Option.bind_some, if_pos rfl, if_pos rfl, if_pos rfl]
      rfl
end Go.Proofs.YtefofaamhaiejaaDoor.NumNoughtsP
namespace Go.Proofs.YtefofaamhaiejaaDoor.Pure
open Go.RowKit Go.Proofs.YtefofaamhaiejaaDoor.P Go.Proofs.YtefofaamhaiejaaDoor.K Go.Proofs.YtefofaamhaiejaaDoor.Nm Go.Proofs.YtefofaamhaiejaaDoor.NumNoughtsP Go.Proofs.YtefofaamhaiejaaDoor.Q Go.Proofs.YtefofaamhaiejaaDoorW.PrintWords Go.Proofs.YtefofaamhaiejaaDoorW.PrintLast Go.Proofs.YtefofaamhaiejaaDoorW.PrintMore
theorem NumNoughts : cleatlaw10_NumNoughts.Pure := by
  intro a0 a1 a2 w0 w1 w2
  unfold cleatlaw10_NumNoughts.f
  have quick : cleatlaw10_NumNoughts.j0 1 a0 a1 a2 true = some true := by
    rw [cleatlaw10_NumNoughts.j0, if_pos rfl, counted_ok]
    rfl
  by_cases c1 : (a0.size : Int) > 100
  · exact ⟨1, by rw [if_pos c1]; exact quick⟩
  by_cases c2 : a1 < 0
  · exact ⟨1, by rw [if_neg c1, if_pos c2]; exact quick⟩
  by_cases c3 : a1 > 30
  · exact ⟨1, by rw [if_neg c1, if_neg c2, if_pos c3]; exact quick⟩
  by_cases c4 : a2 < 0
  · exact ⟨1, by rw [if_neg c1, if_neg c2, if_neg c3, if_pos c4]; exact quick⟩
  by_cases c5 : a2 > 9
  · exact ⟨1, by rw [if_neg c1, if_neg c2, if_neg c3, if_neg c4, decide_eq_true c5]; exact quick⟩
  obtain ⟨n, rfl⟩ := Int.eq_ofNat_of_zero_le (by omega : 0 ≤ a1)
  obtain ⟨d, rfl⟩ := Int.eq_ofNat_of_zero_le (by omega : 0 ≤ a2)
  refine ⟨(0 + n + 1 + a0.size + 1) + 1, ?_⟩
  rw [if_neg c1, if_neg c2, if_neg c3, if_neg c4, decide_eq_false c5, cleatlaw10_NumNoughts.j0, if_neg (by decide)]
  rcases l0_run a0 n d (by omega) a0.size 0 (0 + n + 1) (by omega) with h | ⟨ha, h⟩
  · exact h
  · refine h.trans ?_
    exact l1_end a0 n d 0 (by omega) (by omega) (by omega) (by simpa using ha)
end Go.Proofs.YtefofaamhaiejaaDoor.Pure
