-- printed by wip/tools/myprint.py out of the translation. Not trusted: Lean checks it.
import Derived.Test.YtmolcgkahhdkgaaDoorPx0
import Derived.Test.YtmolcgkahhdkgaaDoorPx2
import Derived.Test.YtmolcgkahhdkgaaDoorPx3
import Derived.Test.YtmolcgkahhdkgaaDoorPx7
import Derived.Test.YtmolcgkahhdkgaaDoorPx8
namespace Go.Proofs.YtmolcgkahhdkgaaDoor.P
open Go.RowKit Go.Proofs.YtmolcgkahhdkgaaDoorW.PrintWords Go.Proofs.YtmolcgkahhdkgaaDoorW.PrintLast Go.Proofs.YtmolcgkahhdkgaaDoorW.PrintMore
attribute [local go_sem] max2_int min2_int max_two min_two max_three min_three max_four min_four   -- for this text's walks alone
set_option linter.unusedVariables false
set_option linter.unusedSimpArgs false

/-! ### local_Find: function 10 -/
/-! ### marks: right ones, and which is found -/
def okMark (m : S38) : Bool := decide (0 ≤ m.f0) && decide (m.f0 ≤ 9999) && decide (1 ≤ m.f1) && decide (0 ≤ m.f2) && decide (0 ≤ m.f3)
def linesUp : Int → List S38 → Bool
  | _, [] => true
  | p, m :: r => decide (p ≤ m.f1) && linesUp m.f1 r
def isMarks (l : List S38) : Bool := l.all okMark && linesUp 1 l
theorem okMark_def (m : S38) : okMark m = (decide (0 ≤ m.f0) && decide (m.f0 ≤ 9999) && decide (1 ≤ m.f1) && decide (0 ≤ m.f2) && decide (0 ≤ m.f3)) := rfl
theorem linesUp_cons (p : Int) (m : S38) (r : List S38) : linesUp p (m :: r) = (decide (p ≤ m.f1) && linesUp m.f1 r) := rfl
theorem marks_at {l : List S38} {i : Nat} (h : i < l.length) : rd_T38 l (i : Int) = l[i]'h := by
  unfold rd_T38
  rw [List.getD_eq_getElem?_getD, Int.toNat_natCast, List.getElem?_eq_getElem h]
  rfl
theorem marks_drop {l : List S38} {i : Nat} (h : i < l.length) : l.drop i = rd_T38 l (i : Int) :: l.drop (i + 1) := by
  rw [marks_at h, List.drop_eq_getElem_cons h]
theorem is_l0 (l : List S38) (hl : l.length ≤ 9223372036854775807) (d : Nat) : ∀ (k i : Nat), l.length - i = d → d < k → i ≤ l.length →
    local_Is.l0 k l l (l.length : Int) (i : Int) = some ((l.drop i).all okMark && (if i = 0 then linesUp 1 l else linesUp (rd_T38 l ((i : Int) - 1)).f1 (l.drop i))) := by
  induction d with
  | zero =>
    intro k i h1 h2 h3
    obtain ⟨k, rfl⟩ : ∃ m, k = m + 1 := ⟨k - 1, by omega⟩
    obtain rfl : i = l.length := by omega
    simp only [local_Is.l0]
    rw [if_neg (by omega), List.drop_eq_nil_of_le (Nat.le_refl _)]
    by_cases h0 : l.length = 0
    · obtain rfl : l = [] := List.eq_nil_of_length_eq_zero h0
      rfl
    · rw [if_neg h0]; rfl
  | succ d ih =>
    intro k i h1 h2 h3
    obtain ⟨k, rfl⟩ : ∃ m, k = m + 1 := ⟨k - 1, by omega⟩
    have hi : i < l.length := by omega
    have hw : wrap64 ((i : Int) + 1) = ((i + 1 : Nat) : Int) := by unfold wrap64; omega
    have hx := ih k (i + 1) (by omega) (by omega) (by omega)
    have hm : (((i + 1 : Nat) : Int) - 1) = (i : Int) := by omega
    rw [if_neg (by omega), hm] at hx
    simp only [local_Is.l0]
    rw [if_pos (by omega), if_pos (by omega), if_pos (by omega), marks_drop hi, List.all_cons, hw]
    generalize hM : rd_T38 l (i : Int) = m at *
    rw [okMark_def m]
    by_cases g1 : m.f0 < 0
    · rw [if_pos g1, decide_eq_false (by omega : ¬ 0 ≤ m.f0)]; simp
    rw [if_neg g1, decide_eq_true (by omega : 0 ≤ m.f0)]
    by_cases g2 : m.f0 > 9999
    · rw [if_pos g2, decide_eq_false (by omega : ¬ m.f0 ≤ 9999)]; simp
    rw [if_neg g2, decide_eq_true (by omega : m.f0 ≤ 9999)]
    by_cases g3 : m.f1 < 1
    · rw [if_pos g3, decide_eq_false (by omega : ¬ 1 ≤ m.f1)]; simp
    rw [if_neg g3, decide_eq_true (by omega : 1 ≤ m.f1)]
    by_cases g4 : m.f2 < 0
    · rw [if_pos g4, decide_eq_false (by omega : ¬ 0 ≤ m.f2)]; simp
    rw [if_neg g4, decide_eq_true (by omega : 0 ≤ m.f2)]
    by_cases g5 : m.f3 < 0
    · rw [if_pos g5, decide_eq_false (by omega : ¬ 0 ≤ m.f3)]; simp
    rw [if_neg g5, decide_eq_true (by omega : 0 ≤ m.f3)]
    by_cases h0 : i = 0
    · subst h0
      rw [if_neg (by omega), hx, if_pos rfl]
      have e : l = m :: l.drop 1 := by rw [← hM, ← marks_drop hi]; rfl
      conv => rhs; rw [e]
      rw [linesUp_cons, decide_eq_true (by omega : 1 ≤ m.f1)]
      simp
    · have hw2 : wrap64 ((i : Int) - 1) = (i : Int) - 1 := by unfold wrap64; omega
      rw [if_pos (by omega), hw2, if_pos (by omega), if_pos (by omega), if_neg h0]
      rw [linesUp_cons]
      by_cases g6 : m.f1 < (rd_T38 l ((i : Int) - 1)).f1
      · rw [if_pos g6, decide_eq_false (by omega)]; simp
      · rw [if_neg g6, decide_eq_true (by omega), hx]
        simp
theorem is_f (l : List S38) (hl : l.length ≤ 9223372036854775807) : local_Is.f (l.length + 1) l = some (isMarks l) := by
  have h := is_l0 l hl l.length (l.length + 1) 0 rfl (by omega) (Nat.zero_le _)
  rw [if_pos rfl, List.drop_zero] at h
  exact h
def findA (no : Int) (up : Bool) (line : Int) : List S38 → Int → Int → Int
  | [], _, a => a
  | m :: r, k, a => if m.f0 ≠ no then findA no up line r (k + 1) a else if m.f1 ≤ line then findA no up line r (k + 1) (if up then a else k) else (if up then k else a)
def findL (l : List S38) (no : Int) (up : Bool) (line : Int) : Int × Bool := if findA no up line l 0 (-1) < 0 then (0, false) else (findA no up line l 0 (-1), true)
def local_Find.f (l : List S38) (no : Int) (up : Bool) (line : Int) : Option (Int × Bool) := some (if isMarks l = true then findL l no up line else (0, false))
set_option maxHeartbeats 4000000 in
set_option maxRecDepth 100000 in
theorem local_Find.calls (A0 : Option Addr) (c0 : Nat) (l0 : List S38) (a1 : Int) (a2 : Bool) (a3 : Int) (r0 : Int) (r1 : Bool) (w : World) (hr0 : Kd.C k38 w A0 l0.length l0) (hc0 : l0.length ≤ c0) (h : local_Find.f l0 a1 a2 a3 = some (r0, r1)) :
    Calls Tryd.prog 10 #[.slice A0 l0.length c0, .int .i64 a1, .bool a2, .int .i64 a3] w fun e w' => e = .returned (.tuple #[.int .i64 r0, .bool r1]) ∧ Below w.heap.size w w' := by
  have HL := Aside0.mk (Kd.C_max hr0)
  have HR0 := Aside0.mk hr0
  have HC0 := Aside0.mk hc0
  have HF := Aside0.mk (is_f l0 HL.out)
  have HV := Aside0.mk (Option.some.inj h)
  clear h hr0 hc0
  cases hm : isMarks l0
  · rw [hm] at HF HV
    obtain ⟨rfl, rfl⟩ : 0 = r0 ∧ false = r1 := by have := HV.out; rw [if_neg (by decide)] at this; cases this; exact ⟨rfl, rfl⟩
    clear hm HV
    go_enter Tryd.func10, Tryd.ntmps10
    go_wp2
    go_step3
    go_wp2_with (fail)
    refine (local_Is.calls _ _ _ _ _ _ HR0.out HC0.out HF.out).mono ?_
    rintro e W1 ⟨rfl, hb⟩
    go_wp2
    try rw [Exit.noGoto_ret]
    go_ret2
    exact ⟨rfl, hb⟩
  · rw [hm] at HF HV
    clear hm
    go_enter Tryd.func10, Tryd.ntmps10
    go_wp2
    go_step3
    go_wp2_with (fail)
    refine (local_Is.calls _ _ _ _ _ _ HR0.out HC0.out HF.out).mono ?_
    rintro e W1 ⟨rfl, hb⟩
    go_wp2
    go_step3
    go_wp2
    have HB := Aside0.mk hb
    clear hb
    have hz38 := Tryd.zeroValue38
    have hu38 := Tryd.underlying38
    go_loopg [10, 11, 12, 18] (l0.length + 1) (fun gk v10 _ _ v18 wr => ∃ (i : Nat) (z at_ : Int), v10 = .int .i64 at_ ∧ v18 = .int .i64 z ∧ Aside0 ((i : Int) = z ∧ i ≤ l0.length ∧ l0.length - i < gk ∧ findA a1 a2 a3 (l0.drop i) z at_ = findA a1 a2 a3 l0 0 (-1)) ∧ Aside0 (Below w.heap.size w wr))
    case atStart => exact ⟨0, 0, -1, rfl, rfl, ⟨rfl, Nat.zero_le _, by omega, rfl⟩, HB⟩
    case round =>
      clear HB
      obtain ⟨i, z, at_, rfl, rfl, HA, HB⟩ := hrel
      rename World => wr
      by_cases hi : z < (l0.length : Int)
      · have c1 : decide (z < (l0.length : Int)) = true := decide_eq_true hi
        have p0 : 0 ≤ z := by have := HA.out.1; omega
        obtain ⟨ad, rfl, hx0, hx1, hx2, hx3⟩ := at_T38 HR0.out z p0 hi
        replace hx0 := (HB.out.cell (World.block_lt_of_cell? w _ hx0)).trans hx0
        replace hx1 := (HB.out.cell (World.block_lt_of_cell? w _ hx1)).trans hx1
        replace hx2 := (HB.out.cell (World.block_lt_of_cell? w _ hx2)).trans hx2
        replace hx3 := (HB.out.cell (World.block_lt_of_cell? w _ hx3)).trans hx3
        have p1 := eq_true p0
        have p2 := eq_true hi
        have HZ := Aside0.mk hi
        have hE := HA.out.2.2.2
        rw [marks_drop (l := l0) (i := i) (by have := HA.out.1; omega), HA.out.1] at hE
        generalize hM : rd_T38 l0 z = m at *
        clear hM
        obtain ⟨m0, m1, m2, m3⟩ := m
        have hzz : wrap64 (z + 1) = z + 1 := by have := HA.out.1; have := HL.out; unfold wrap64; omega
        have HI : Aside0 (((i + 1 : Nat) : Int) = z + 1 ∧ i + 1 ≤ l0.length ∧ l0.length - (i + 1) < l0.length - i) := ⟨by have := HA.out.1; omega⟩
        simp only at *
        by_cases g1 : m0 = a1
        · have c2 : (m0 != a1) = false := by rw [bne_eq_false_iff_eq]; exact g1
          by_cases g2 : m1 ≤ a3
          · have c3 : decide (m1 ≤ a3) = true := decide_eq_true g2
            have HE : Aside0 (findA a1 a2 a3 (l0.drop (i + 1)) (z + 1) (if a2 = true then at_ else z) = findA a1 a2 a3 l0 0 (-1)) := ⟨by rw [← hE, findA, if_neg (not_not_intro g1), if_pos g2]⟩
            clear g1 g2 hE hi p0
            cases a2
            · go_wp2
              go_roundg (l0.length - i)
              case measure => exact HA.out.2.2.1
              case rel => exact ⟨i + 1, z + 1, z, rfl, (by first | rfl | rw [hzz]), ⟨HI.out.1, HI.out.2.1, HI.out.2.2, HE.out⟩, ⟨below_alloc HB.out _⟩⟩
            · go_wp2
              go_roundg (l0.length - i)
              case measure => exact HA.out.2.2.1
              case rel => exact ⟨i + 1, z + 1, at_, rfl, (by first | rfl | rw [hzz]), ⟨HI.out.1, HI.out.2.1, HI.out.2.2, HE.out⟩, ⟨below_alloc HB.out _⟩⟩
          · have c3 : decide (m1 ≤ a3) = false := decide_eq_false g2
            have HE : Aside0 ((if a2 = true then z else at_) = findA a1 a2 a3 l0 0 (-1)) := ⟨by rw [← hE, findA, if_neg (not_not_intro g1), if_neg g2]⟩
            clear g1 g2 hE hi
            cases a2
            · have HE2 : Aside0 (at_ = findA a1 false a3 l0 0 (-1)) := ⟨by have := HE.out; simpa using this⟩
              have HV2 := HV.out
              rw [if_pos (by trivial), findL, ← HE2.out] at HV2
              by_cases h0 : at_ < 0
              · have c4 : decide (at_ < 0) = true := decide_eq_true h0
                rw [if_pos h0] at HV2
                cases HV2
                clear h0
                go_wp2
                try rw [Exit.noGoto_ret]
                go_ret2
                exact ⟨rfl, below_alloc HB.out _⟩
              · have c4 : decide (at_ < 0) = false := decide_eq_false h0
                rw [if_neg h0] at HV2
                cases HV2
                clear h0
                go_wp2
                try rw [Exit.noGoto_ret]
                go_ret2
                exact ⟨rfl, below_alloc HB.out _⟩
            · have HE2 : Aside0 (z = findA a1 true a3 l0 0 (-1)) := ⟨by have := HE.out; simpa using this⟩
              have HV2 := HV.out
              rw [if_pos (by trivial), findL, ← HE2.out] at HV2
              have c4 : decide (z < 0) = false := decide_eq_false (by omega)
              rw [if_neg (by omega)] at HV2
              cases HV2
              go_wp2
              try rw [Exit.noGoto_ret]
              go_ret2
              exact ⟨rfl, below_alloc HB.out _⟩
        · have c2 : (m0 != a1) = true := by rw [bne_iff_ne]; exact g1
          have HE : Aside0 (findA a1 a2 a3 (l0.drop (i + 1)) (z + 1) at_ = findA a1 a2 a3 l0 0 (-1)) := ⟨by rw [← hE, findA, if_pos g1]⟩
          clear g1 hE hi p0
          go_wp2
          go_roundg (l0.length - i)
          case measure => exact HA.out.2.2.1
          case rel => exact ⟨i + 1, z + 1, at_, rfl, (by first | rfl | rw [hzz]), ⟨HI.out.1, HI.out.2.1, HI.out.2.2, HE.out⟩, ⟨below_alloc HB.out _⟩⟩
      · have c1 : decide (z < (l0.length : Int)) = false := decide_eq_false hi
        have HE2 : Aside0 (at_ = findA a1 a2 a3 l0 0 (-1)) := ⟨by
          have h1 := HA.out
          rw [List.drop_eq_nil_of_le (by omega), findA] at h1
          exact h1.2.2.2⟩
        have HV2 := HV.out
        rw [if_pos (by trivial), findL, ← HE2.out] at HV2
        clear hi HA
        by_cases h0 : at_ < 0
        · have c4 : decide (at_ < 0) = true := decide_eq_true h0
          rw [if_pos h0] at HV2
          cases HV2
          clear h0
          go_wp2
          try rw [Exit.noGoto_ret]
          go_ret2
          exact ⟨rfl, HB.out⟩
        · have c4 : decide (at_ < 0) = false := decide_eq_false h0
          rw [if_neg h0] at HV2
          cases HV2
          clear h0
          go_wp2
          try rw [Exit.noGoto_ret]
          go_ret2
          exact ⟨rfl, HB.out⟩

-- NOT PRINTED: function 41 (strconv_FormatInt)

-- NOT PRINTED: function 28 (strconv_Itoa_28)

/-! ### strconv_Itoa_20: function 20 -/
def itoaB (n : Int) : ByteArray := ⟨(Go.Lib.itoa n).toArray⟩
def strconv_Itoa_20.f (a0 : Int) : Option ByteArray := if -9223372036854775808 ≤ a0 ∧ a0 ≤ 9223372036854775807 then some (itoaB a0) else none
theorem strconv_Itoa_20.calls (a0 : Int) (r : ByteArray) (w : World) (h : strconv_Itoa_20.f a0 = some r) (HT : Aside0 (Tabs w)) :
    Calls Tryd.prog 20 #[.int .i64 a0] w fun e w' => e = .returned (.string r) ∧ Below w.heap.size w w' := by
  unfold strconv_Itoa_20.f at h
  split at h
  · rename_i hb
    obtain rfl := Option.some.inj h
    refine (Tryd.strconv_Itoa a0 hb.1 hb.2 w HT.out.pow10is).mono ?_
    rintro e w' ⟨rfl, k, os, rfl⟩
    exact ⟨rfl, Go.Lib.below_grow _ w (Nat.le_refl _) k os⟩
  · cases h

/-! ### local_Text: function 12 -/
def local_Text.j0 : Nat → Int → Bool → Bool → Option (ByteArray × Int)
 | 0, _, _, _ => none
 | k + 1, x0, x1, x11 => if x11 = true then (some ((⟨#[]⟩ : ByteArray), 1)) else (if x1 = true then ((strconv_Itoa_20.f x0).bind fun t168 => (if t168.size + 1 ≤ 9223372036854775807 then (some (t168 ++ (⟨#[102]⟩ : ByteArray), 0)) else (none))) else ((strconv_Itoa_20.f x0).bind fun t169 => (if t169.size + 1 ≤ 9223372036854775807 then (some (t169 ++ (⟨#[98]⟩ : ByteArray), 0)) else (none))))
def local_Text.f (k : Nat) (a0 : Int) (a1 : Bool) : Option (ByteArray × Int) := if a0 < 0 then (local_Text.j0 k a0 a1 true) else (local_Text.j0 k a0 a1 (decide (a0 > 9999)))
theorem local_Text.mono_l : ∀ k, (∀ y0 y1 y2, LeO (local_Text.j0 k y0 y1 y2) (local_Text.j0 (k + 1) y0 y1 y2))
 | 0 => fun _ _ _ r h => by simp [local_Text.j0] at h
 | k + 1 => by
  have ih0 := local_Text.mono_l k
  ·intro y0 y1 y2
   unfold local_Text.j0
   repeat' first
   | (with_reducible exact ih0 _ _ _)
   | (with_reducible exact LeO.refl _)
   | (with_reducible exact LeO.none _)
   | (with_reducible refine LeO.ite ?_ ?_)
   | (with_reducible refine LeO.bind ?_ (fun _ => ?_))
   | exact ih0 _ _ _
   | exact LeO.none _
   | refine LeO.ite ?_ ?_
   | refine LeO.bind ?_ (fun _ => ?_)
theorem local_Text.mono : ∀ a0 a1 k, LeO (local_Text.f k a0 a1) (local_Text.f (k + 1) a0 a1) := by
 intro a0 a1 k
 have ih0 := local_Text.mono_l k
 unfold local_Text.f
 repeat' first
   | (with_reducible exact ih0 _ _ _)
   | (with_reducible exact LeO.refl _)
   | (with_reducible exact LeO.none _)
   | (with_reducible refine LeO.ite ?_ ?_)
   | (with_reducible refine LeO.bind ?_ (fun _ => ?_))
   | exact ih0 _ _ _
   | exact LeO.none _
   | refine LeO.ite ?_ ?_
   | refine LeO.bind ?_ (fun _ => ?_)
set_option maxHeartbeats 8000000 in
set_option maxRecDepth 100000 in
theorem local_Text.calls (k : Nat) (a0 : Int) (a1 : Bool) (r1 : ByteArray) (r2 : Int) (w : World) (h : local_Text.f k a0 a1 = some (r1, r2)) (HT : Aside0 (Tabs w)) :
  Calls Tryd.prog 12 #[.int .i64 a0, .bool a1] w fun e w' => e = .returned (.tuple #[.string r1, .int .i64 r2]) ∧ Below w.heap.size w w' := by
 have HB := Aside0.mk (Below.refl w.heap.size w)
 have H : (if a0 < 0 then (local_Text.j0 k a0 a1 true) else (local_Text.j0 k a0 a1 (decide (a0 > 9999)))) = some (r1, r2) := h
 clear h
 have HC3 := Aside0.mk H
 clear H
 go_enter Tryd.func12, Tryd.ntmps12
 go_upto_region 1 with (fail)
 go_cut [11] (fun v11 wc => ∃ (kq : Nat) (x11_2 : Bool), v11 = .bool x11_2 ∧ Aside0 (local_Text.j0 kq a0 a1 x11_2 = some (r1, r2)) ∧ Aside0 (kq ≤ k) ∧ Aside0 (Below w.heap.size w wc))
 case first =>
  have H := HC3.out
  clear HC3
  by_cases c4 : a0 < 0
  ·rw [if_pos c4] at H
   have c4b0 : decide (a0 < 0) = true := decide_eq_true c4
   clear c4
   (first | rw [c4b0] | (simp only [i64_w, i32_w]; rw [c4b0]) | skip)
   have H' := Aside0.mk H
   clear H
   go_wp2
   go_meet
   case rel => exact ⟨_, (true), (by first | rfl | (simp; done) | (simp [*]; done)), H', ⟨by first | omega | exact Nat.le_refl _⟩, ⟨by repeat (first | (with_reducible first | exact HB.out | apply below_alloc | apply pw_below_drewN | apply below_drew1) | exact HB.out)⟩⟩
  ·rw [if_neg c4] at H
   have c4b0 : decide (a0 < 0) = false := decide_eq_false c4
   clear c4
   (first | rw [c4b0] | (simp only [i64_w, i32_w]; rw [c4b0]) | skip)
   have H' := Aside0.mk H
   clear H
   go_wp2
   go_meet
   case rel => exact ⟨_, (decide (a0 > 9999)), (by first | rfl | (simp; done) | (simp [*]; done)), H', ⟨by first | omega | exact Nat.le_refl _⟩, ⟨by repeat (first | (with_reducible first | exact HB.out | apply below_alloc | apply pw_below_drewN | apply below_drew1) | exact HB.out)⟩⟩
 case rest =>
  clear HC3
  try clear c1
  try clear p2
  try clear c4
  try clear c4b0
  obtain ⟨kq, x11_2, rfl, HA, HJ2, HB⟩ := hcut
  cases kq with
  | zero => exact absurd HA.out (by simp [local_Text.j0])
  | succ kj2 =>
   have H := HA.out
   clear HA
   simp only [local_Text.j0] at H
   by_cases c5 : x11_2 = true
   ·subst c5
    rw [if_pos rfl] at H
    simp only [Option.some.injEq, Prod.mk.injEq] at H
    obtain ⟨rfl, rfl⟩ := H
    go_wp2
    go_ret2
    exact ⟨by first | rfl | (simp [errW_none, errW_some] <;> rfl) | (simp [*, errW_none, errW_some] <;> rfl), by repeat (first | (with_reducible first | exact HB.out | apply below_alloc | apply pw_below_drewN | apply below_drew1) | exact HB.out)⟩
   ·replace c5 := Bool.eq_false_iff.mpr c5
    subst c5
    rw [if_neg (show ¬ (false = true) by decide)] at H
    by_cases c6 : a1 = true
    ·subst c6
     rw [if_pos rfl] at H
     replace H := Option.bind_eq_some_iff.mp H
     obtain ⟨t168, A70, H⟩ := H
     replace H : (if t168.size + 1 ≤ 9223372036854775807 then (some (t168 ++ (⟨#[102]⟩ : ByteArray), 0)) else (none)) = some (r1, r2) := H
     have A7 := Aside0.mk A70
     clear A70
     by_cases c8 : t168.size + 1 ≤ 9223372036854775807
     ·rw [if_pos c8] at H
      have c8b0 := eq_true c8
      have c8b1 : decide (t168.size + 1 ≤ 9223372036854775807) = true := decide_eq_true c8
      try have c8b2 : (9223372036854775807 < t168.size + 1) = False := eq_false (Nat.not_lt.2 c8)
      simp only [Option.some.injEq, Prod.mk.injEq] at H
      obtain ⟨rfl, rfl⟩ := H
      go_wp2_with (first | ((with_reducible refine gate_callee (f := 20) rfl ?_); refine goesL_ (some 14) rfl rfl Tryd.func20 (by kernel_rfl) rfl #[.int .i64 a0] rfl (by (try simp only [List.map_toArray, List.map_cons, List.map_nil]); first | done | rfl | (simp only [List.length_drop, List.length_take]; rfl)) ?_; (with_reducible refine (strconv_Itoa_20.calls a0 t168 _ A7.out ?tabs).mono ?_); (case tabs => (first | exact HT | (refine tabs_of HT ?_; repeat (first | (with_reducible first | exact Below.refl _ _ | exact (Aside0.out (by assumption)) | exact (Drawn0.below (by assumption)) | apply below_alloc | apply pw_below_drewN | apply below_drew1 | assumption) | exact HB.out)))); rintro e w9 ⟨rfl, hb⟩; refine ⟨_, rfl, ?_⟩; have n0_ := Aside0.mk (below_step (by repeat (first | (with_reducible first | exact HB.out | apply below_alloc | apply pw_below_drewN | apply below_drew1) | exact HB.out)) hb); clear HB; have HB := n0_; clear n0_; (try clear hb); (try clear hb2); (try clear hk); (try clear hi)))
      go_ret2
      exact ⟨by first | rfl | (simp [errW_none, errW_some] <;> rfl) | (simp [*, errW_none, errW_some] <;> rfl), by repeat (first | (with_reducible first | exact HB.out | apply below_alloc | apply pw_below_drewN | apply below_drew1) | exact HB.out)⟩
     ·rw [if_neg c8] at H
      exact absurd H (by simp)
    ·replace c6 := Bool.eq_false_iff.mpr c6
     subst c6
     rw [if_neg (show ¬ (false = true) by decide)] at H
     replace H := Option.bind_eq_some_iff.mp H
     obtain ⟨t169, A100, H⟩ := H
     replace H : (if t169.size + 1 ≤ 9223372036854775807 then (some (t169 ++ (⟨#[98]⟩ : ByteArray), 0)) else (none)) = some (r1, r2) := H
     have A10 := Aside0.mk A100
     clear A100
     by_cases c11 : t169.size + 1 ≤ 9223372036854775807
     ·rw [if_pos c11] at H
      have c11b0 := eq_true c11
      have c11b1 : decide (t169.size + 1 ≤ 9223372036854775807) = true := decide_eq_true c11
      try have c11b2 : (9223372036854775807 < t169.size + 1) = False := eq_false (Nat.not_lt.2 c11)
      simp only [Option.some.injEq, Prod.mk.injEq] at H
      obtain ⟨rfl, rfl⟩ := H
      go_wp2_with (first | ((with_reducible refine gate_callee (f := 20) rfl ?_); refine goesL_ (some 17) rfl rfl Tryd.func20 (by kernel_rfl) rfl #[.int .i64 a0] rfl (by (try simp only [List.map_toArray, List.map_cons, List.map_nil]); first | done | rfl | (simp only [List.length_drop, List.length_take]; rfl)) ?_; (with_reducible refine (strconv_Itoa_20.calls a0 t169 _ A10.out ?tabs).mono ?_); (case tabs => (first | exact HT | (refine tabs_of HT ?_; repeat (first | (with_reducible first | exact Below.refl _ _ | exact (Aside0.out (by assumption)) | exact (Drawn0.below (by assumption)) | apply below_alloc | apply pw_below_drewN | apply below_drew1 | assumption) | exact HB.out)))); rintro e w12 ⟨rfl, hb⟩; refine ⟨_, rfl, ?_⟩; have n0_ := Aside0.mk (below_step (by repeat (first | (with_reducible first | exact HB.out | apply below_alloc | apply pw_below_drewN | apply below_drew1) | exact HB.out)) hb); clear HB; have HB := n0_; clear n0_; (try clear hb); (try clear hb2); (try clear hk); (try clear hi)))
      go_ret2
      exact ⟨by first | rfl | (simp [errW_none, errW_some] <;> rfl) | (simp [*, errW_none, errW_some] <;> rfl), by repeat (first | (with_reducible first | exact HB.out | apply below_alloc | apply pw_below_drewN | apply below_drew1) | exact HB.out)⟩
     ·rw [if_neg c11] at H
      exact absurd H (by simp)

-- NOT PRINTED: function 42 (utf8_word_string)

-- NOT PRINTED: function 29 (utf8_ValidString)

/-! ### lex_Runes: function 21 -/
def lex_Runes.f (a0 : ByteArray) : Option (List Int × Int) := if a0.size ≤ 1000 then some (if Go.Lib.validD a0.data.toList = true then (runesL a0.data.toList, 0) else ([], 3)) else none
set_option maxHeartbeats 4000000 in
set_option maxRecDepth 100000 in
theorem lex_Runes.calls (a0 : ByteArray) (r0 : List Int) (r1 : Int) (w : World) (h : lex_Runes.f a0 = some (r0, r1)) (HT : Aside0 (Tabs w)) :
    Calls Tryd.prog 21 #[.string a0] w fun e w' => ∃ v0_ : Value, e = .returned (.tuple #[v0_, .int .i64 r1]) ∧ Kd.R (Kd.int .i64) 3 w' w.heap.size (fun _ => True) v0_ r0 ∧ Below w.heap.size w w' := by
  unfold lex_Runes.f at h
  by_cases hs : a0.size ≤ 1000
  · rw [if_pos hs] at h
    have h := Option.some.inj h
    have HS := Aside0.mk hs
    have HB := Aside0.mk (Below.refl w.heap.size w)
    by_cases hv : Go.Lib.validD a0.data.toList = true
    · rw [if_pos hv] at h
      obtain ⟨rfl, rfl⟩ := Prod.mk.inj h
      have HV := Aside0.mk hv
      clear h hs hv
      go_enter Tryd.func21, Tryd.ntmps21
      go_wp2_with (fail)
      refine (valid_string a0 _ (by have := HS.out; omega) HT).mono ?_
      rintro e W1 ⟨rfl, hB1⟩
      rw [HV.out]
      have HB1 := Aside0.mk hB1
      clear hB1 HB
      have hS1 := Aside0.mk HB1.out.size
      have hmk := info_i64
      go_wp2
      go_loopg [4, 6] (a0.size + 1) (fun gk v3 _ wr => ∃ (pos : Nat) (T : List Int), Aside0 (a0.size - pos < gk ∧ pos ≤ a0.size ∧ T ++ runesL (a0.data.toList.drop pos) = runesL a0.data.toList ∧ T.length ≤ pos) ∧ Aside0 (wr.heap[W1.heap.size]? = some (.stringIter a0 pos)) ∧ Aside0 ((Kd.int .i64).R 3 wr w.heap.size (fun i => i ≠ W1.heap.size) v3 T) ∧ Aside0 (Below w.heap.size w wr))
      case atStart => exact ⟨0, [], ⟨by omega, Nat.zero_le _, by simp, by simp⟩, ⟨World.iter_heap W1 a0 0⟩, ⟨Kd.R_nil _ _ _ _ _⟩, ⟨below_alloc HB1.out _⟩⟩
      case round =>
        obtain ⟨pos, T, HA, HI, HR, HW⟩ := hrel
        rename World => wr
        by_cases hp : pos < a0.size
        · have HC := Aside0.mk (Go.Lib.decodeL_drop a0 pos)
          have HW0 := Aside0.mk (Go.Lib.decodeL_width (a0.data.toList.drop pos))
          have HB0 := Aside0.mk (Go.Lib.decodeL_rune (a0.data.toList.drop pos))
          have HST := Aside0.mk (runesL_step (a0.data.toList.drop pos) (by intro e; have := congrArg List.length e; simp at this; omega))
          have HLE := Aside0.mk (Go.Lib.decodeL_le (a0.data.toList.drop pos) (by intro e; have := congrArg List.length e; simp at this; omega))
          have hnx : ∀ ty, (Instr.next (.pointer (some ⟨W1.heap.size, 0, none⟩)) true ty).run Tryd.prog wr = _ := fun ty => Go.Lib.run_next_any_at wr W1.heap.size a0 pos ty HI.out hp
          have HI2 := Aside0.mk (Go.Lib.iterAt_heap wr W1.heap.size a0 pos (pos + (Utf8.decode a0 pos).2) HI.out)
          have HW2 := Aside0.mk (Go.Lib.below_iterAt HW.out hS1.out a0 (pos + (Utf8.decode a0 pos).2))
          have HR2 := Aside0.mk (Kd.R_step (w1 := wr.iterAt W1.heap.size a0 (pos + (Utf8.decode a0 pos).2)) HR.out (fun k hk _ => Go.Lib.iterAt_other _ _ _ _ _ hk))
          have HIS : Aside0 (W1.heap.size < (wr.iterAt W1.heap.size a0 (pos + (Utf8.decode a0 pos).2)).heap.size) := ⟨(Array.getElem?_eq_some_iff.1 HI2.out).1⟩
          rw [HC.out] at HW0 HB0 HST HLE
          generalize hx : Utf8.decode a0 pos = cn at *
          obtain ⟨c, n⟩ := cn
          simp only at *
          have HX := Aside0.mk hx
          obtain ⟨z, hz⟩ : ∃ z : Int, ((c : Nat) : Int) = z := ⟨_, rfl⟩
          have hwz : IntKind.i64.wrap z = z := (i64_w _).trans (by simp only [wrap64]; have := HB0.out; omega)
          have HZ := Aside0.mk hz
          have HSz := Aside0.mk HW2.out.size
          have HLN : Aside0 ((T.length + 1) * 8 ≤ 140737488355328) := ⟨by have := HA.out; have := HS.out; omega⟩
          generalize hwx : wr.iterAt W1.heap.size a0 (pos + n) = wx at *
          rw [hz] at hnx
          clear HI HR HW hx HC hz hwx
          go_wp2_with ((with_reducible refine gate_builtin (b := .append) (xs := #[.tmp 15, .tmp 18]) rfl ?_); at_builtin; refine Kd.R_append (Kd.int .i64) (w0 := w) w.heap.size rfl (.tmp 15) (.tmp 18) 55 3 (.int .i64 0) 8 rfl Tryd.underlying55 info_i64 rfl (by decide) (by omega) u4 T z [.int .i64 z] (fun i => i ≠ W1.heap.size) (fun _ => False) rfl rfl ?aP (fun _ hk => hk.elim) (fun k hk => by have := HIS.out; omega) HR2.out HW2.out HSz.out HLN.out ?_; (case aP => exact rfl); intro v1 w3 hR3 hB3 hg3 hat3; have R3 := Aside0.mk hR3; have B3 := Aside0.mk hB3; have I3 : Aside0 (w3.heap[W1.heap.size]? = some (.stringIter a0 (pos + n))) := ⟨(hg3.block _ HIS.out (fun e => HR2.out.1 _ e.symm rfl)).trans HI2.out⟩; clear hR3 hB3 hg3 hat3)
          go_roundg (a0.size - pos)
          case measure => exact HA.out.1
          case rel =>
            refine ⟨pos + n, T ++ [z], ⟨by have := HA.out; have := HW0.out; omega, by have := HLE.out; rw [List.length_drop] at this; have h9 : a0.data.toList.length = a0.size := (by simp); omega, ?_, by have := HA.out; have := HW0.out; simp; omega⟩, I3, R3, B3⟩
            rw [← HA.out.2.2.1, HST.out, List.drop_drop, HZ.out, List.append_assoc]; rfl
        · have hnx : ∀ ty, (Instr.next (.pointer (some ⟨W1.heap.size, 0, none⟩)) true ty).run Tryd.prog wr = _ := fun ty => Go.Lib.run_next_end_at wr W1.heap.size a0 pos ty HI.out hp
          have HT2 : Aside0 (T = runesL a0.data.toList) := ⟨by
            obtain ⟨_, h2, h3, _⟩ := HA.out
            rw [List.drop_eq_nil_of_le (by simp; omega), runesL_nil, List.append_nil] at h3
            exact h3⟩
          clear HA HI hp
          go_wp2
          go_ret2
          exact ⟨_, rfl, by rw [← HT2.out]; exact Kd.R_mono HR.out (fun _ _ => trivial), HW.out⟩
    · rw [if_neg hv] at h
      obtain ⟨rfl, rfl⟩ := Prod.mk.inj h
      have HV := Aside0.mk (Bool.eq_false_iff.2 hv)
      clear h hs hv
      go_enter Tryd.func21, Tryd.ntmps21
      go_wp2_with (fail)
      refine (valid_string a0 _ (by have := HS.out; omega) HT).mono ?_
      rintro e W1 ⟨rfl, hB1⟩
      rw [HV.out]
      have HB1 := Aside0.mk hB1
      clear hB1 HB
      go_wp2
      go_ret2
      exact ⟨_, rfl, Kd.R_nil _ _ _ _ _, HB1.out⟩
  · rw [if_neg hs] at h
    cases h

-- NOT PRINTED: function 22 (lex_reader_skip)

/-! ### lex_Line: function 16 -/
def toTok (t : Int × List UInt8 × Int) : S30 := ⟨t.1, ⟨t.2.1.toArray⟩, t.2.2⟩
def lex_Line.f (a0 : ByteArray) : Option (List S30 × Int) := some ((linB a0.data.toList).1.map toTok, (linB a0.data.toList).2)
theorem lineL_step' (f : Nat) (l : List Int) : lineL (f + 1) l = if lineEnd (l.dropWhile isWht) then some [] else (match tokL (l.dropWhile isWht) with | none => none | some (t, r) => (match lineL f r with | none => none | some ts => some (t :: ts))) := rfl
theorem lineL_fuel : ∀ (f1 f2 : Nat) (l : List Int), l.length < f1 → l.length < f2 → lineL f1 l = lineL f2 l
  | 0, _, _, h, _ => absurd h (Nat.not_lt_zero _)
  | _, 0, _, _, h => absurd h (Nat.not_lt_zero _)
  | f1 + 1, f2 + 1, l, h1, h2 => by
    rw [lineL_step', lineL_step']
    split
    · rfl
    · cases ht : tokL (l.dropWhile isWht) with
      | none => rfl
      | some p =>
        obtain ⟨t, r⟩ := p
        have h3 := tokL_len ht
        have h4 := dropWhile_len (p := isWht) l
        simp only
        rw [lineL_fuel f1 f2 r (by omega) (by omega)]
theorem lineL_step (f : Nat) (l : List Int) (h : l.length < f) : lineL f l = if lineEnd (l.dropWhile isWht) then some [] else (match tokL (l.dropWhile isWht) with | none => none | some (t, r) => (lineL f r).map (t :: ·)) := by
  obtain ⟨f, rfl⟩ : ∃ g, f = g + 1 := ⟨f - 1, by omega⟩
  rw [lineL_step']
  split
  · rfl
  · cases ht : tokL (l.dropWhile isWht) with
    | none => rfl
    | some p =>
      obtain ⟨t, r⟩ := p
      have h3 := tokL_len ht
      have h4 := dropWhile_len (p := isWht) l
      simp only
      rw [lineL_fuel f (f + 1) r (by omega) (by omega)]
      cases lineL (f + 1) r <;> rfl
set_option maxHeartbeats 4000000 in
set_option maxRecDepth 100000 in
theorem lex_Line.calls (a0 : ByteArray) (r0 : List S30) (r1 : Int) (w : World) (h : lex_Line.f a0 = some (r0, r1)) (HT : Aside0 (Tabs w)) :
    Calls Tryd.prog 16 #[.string a0] w fun e w' => ∃ v0_ : Value, e = .returned (.tuple #[v0_, .int .i64 r1]) ∧ Kd.R k30 30 w' w.heap.size (fun _ => True) v0_ r0 ∧ Below w.heap.size w w' := by
  have h := Option.some.inj h
  obtain ⟨rfl, rfl⟩ := Prod.mk.inj h
  clear h
  have HB := Aside0.mk (Below.refl w.heap.size w)
  by_cases hlen : 200 < a0.size
  · have c1 : decide (200 < (a0.size : Int)) = true := decide_eq_true (by omega)
    have HN : Aside0 (linB a0.data.toList = ([], 2)) := ⟨by unfold linB; rw [if_pos (by simpa using hlen)]⟩
    clear hlen
    rw [HN.out]
    go_enter Tryd.func16, Tryd.ntmps16
    go_wp2
    go_ret2
    exact ⟨_, rfl, Kd.R_nil _ _ _ _ _, HB.out⟩
  · have c1 : decide (200 < (a0.size : Int)) = false := decide_eq_false (by omega)
    have HLn : Aside0 (a0.size ≤ 200) := ⟨by omega⟩
    by_cases hv : Go.Lib.validD a0.data.toList = true
    · have HF : Aside0 (lex_Runes.f a0 = some (runesL a0.data.toList, 0)) := ⟨by unfold lex_Runes.f; rw [if_pos (by omega), if_pos hv]⟩
      have HN : Aside0 (linB a0.data.toList = (match lineL (a0.size + 1) (runesL a0.data.toList) with | none => ([], 3) | some ts => (ts, 0))) := ⟨by unfold linB; rw [if_neg (by simpa using hlen), if_pos hv]; rfl⟩
      have HRL : Aside0 ((runesL a0.data.toList).length ≤ a0.size) := ⟨by have := runesL_len _ a0.data.toList (Nat.le_refl _); simpa using this⟩
      have HRB := Aside0.mk (runesL_bd _ a0.data.toList (Nat.le_refl _))
      generalize linB a0.data.toList = ans at *
      generalize runesL a0.data.toList = R at *
      clear hv hlen
      go_enter Tryd.func16, Tryd.ntmps16
      go_wp2_with (fail)
      refine (lex_Runes.calls a0 R 0 _ HF.out HT).mono ?_
      rintro e W1 ⟨v0, rfl, hR1, hB1⟩
      obtain ⟨A, cp, rfl, hcp, hC⟩ := Kd.R_reads hR1
      have HC := Aside0.mk hC
      have HB1 := Aside0.mk hB1
      clear hR1 hcp hC hB1 HB
      have HS1 := Aside0.mk HB1.out.size
      go_wp2
      go_loopg [6, 8, 9] (R.length + 1) (fun gk v6 _ _ wr => ∃ (a : Nat) (T : List (Int × List UInt8 × Int)), Aside0 (R.length - a < gk ∧ a ≤ R.length ∧ lineL (a0.size + 1) R = (lineL (a0.size + 1) (R.drop a)).map (T ++ ·) ∧ T.length ≤ a) ∧ Aside0 (IsS60 W1 wr W1.heap.size R a) ∧ Aside0 (Kd.R k30 30 wr W1.heap.size (fun i => i ≠ W1.heap.size) v6 (T.map toTok)) ∧ Aside0 (Below W1.heap.size W1 wr))
      case atStart => exact ⟨0, [], ⟨by omega, Nat.zero_le _, by rw [List.drop_zero]; cases lineL (a0.size + 1) R <;> rfl, Nat.le_refl _⟩, ⟨IsS60.new W1 W1 A cp R 0 (Below.refl _ _) HC.out⟩, ⟨Kd.R_nil _ _ _ _ _⟩, ⟨below_alloc (Below.refl _ _) _⟩⟩
      case round =>
        obtain ⟨a, T, HA, HI, HR, HW⟩ := hrel
        rename World => wr
        go_wp2_with (fail)
        refine (lx_skip W1.heap.size R a W1 wr HI.out HW.out (by have := HRL.out; have := HLn.out; omega) HA.out.2.1).mono ?_
        rintro e W2 ⟨a2, rfl, h1, h2, h3, hI2, hB2, hK2⟩
        have HR2 := Aside0.mk (Kd.R_keep HR.out hK2 (fun _ h => h))
        have HI2 := Aside0.mk hI2
        have HW2 := Aside0.mk hB2
        have HA2 : Aside0 (R.length - a2 < gk ∧ a2 ≤ R.length ∧ lineL (a0.size + 1) R = (if lineEnd (R.drop a2) then some [] else (match tokL (R.drop a2) with | none => none | some (t, r) => (lineL (a0.size + 1) r).map (t :: ·))).map (T ++ ·) ∧ T.length ≤ a2) := ⟨by have := HA.out.1; omega, h2, by rw [HA.out.2.2.1, lineL_step _ _ (by rw [List.length_drop]; have := HRL.out; omega), h3], by have := HA.out.2.2.2; omega⟩
        clear HA HI HR HW h1 h2 h3 hI2 hB2 hK2
        cases hb : lineEnd (R.drop a2)
        · rw [hb] at HA2
          have HLT : Aside0 (a2 < R.length) := ⟨by
            rcases Nat.lt_or_ge a2 R.length with h | h
            · exact h
            · rw [List.drop_eq_nil_of_le h] at hb; cases hb⟩
          clear hb
          go_wp2_with (fail)
          refine (lx_token W1.heap.size R a2 W1 W2 HI2.out HW2.out (by have := HRL.out; have := HLn.out; omega) HLT.out HRB.out).mono ?_
          rintro e W3 ⟨a3, ha3, hI3, hB3, hK3, hans⟩
          have HR3 := Aside0.mk (Kd.R_keep HR2.out hK3 (fun _ h => h))
          have HI3 := Aside0.mk hI3
          have HW3 := Aside0.mk hB3
          have HL3 := Aside0.mk ha3
          have HS3 := Aside0.mk hB3.size
          clear HR2 HI2 HW2 hI3 hB3 hK3 ha3
          cases ht : tokL (R.drop a2) with
          | none =>
            rw [ht] at hans HA2
            obtain ⟨k, s, v, rfl⟩ := hans
            have HE : Aside0 (ans = ([], 3)) := ⟨by rw [HN.out, HA2.out.2.2.1]; rfl⟩
            clear ht HA2
            go_wp2
            go_ret2
            rw [HE.out]
            exact ⟨_, rfl, Kd.R_nil _ _ _ _ _, HB1.out.trans ((HW3.out.trans ((below_alloc (Below.refl _ _) _).mono HS3.out)).mono HS1.out)⟩
          | some pp =>
            obtain ⟨⟨k, s, v⟩, r⟩ := pp
            rw [ht] at hans HA2
            obtain ⟨rfl, hr⟩ := hans
            have hlt := tokL_len ht
            have HA3 : Aside0 (R.length - a3 < R.length - a2 ∧ lineL (a0.size + 1) R = (lineL (a0.size + 1) (R.drop a3)).map ((T ++ [(k, s, v)]) ++ ·) ∧ a2 < a3) := ⟨by
              have hd := congrArg List.length hr
              rw [List.length_drop] at hd hlt
              have := HL3.out
              have := HLT.out
              refine ⟨by omega, ?_, by omega⟩
              rw [HA2.out.2.2.1, hr, if_neg (by decide)]
              show ((lineL (a0.size + 1) r).map ((k, s, v) :: ·)).map (T ++ ·) = _
              generalize lineL (a0.size + 1) r = o
              cases o <;> simp⟩
            have HLN : Aside0 (((T.map toTok).length + 1) * 32 ≤ 140737488355328) := ⟨by have := HA2.out; have := HRL.out; have := HLn.out; simp; omega⟩
            have HM3 : Aside0 (R.length - a2 < gk ∧ T.length + 1 ≤ a3) := ⟨by have := HA2.out; have := HA3.out; omega⟩
            clear ht hr hlt HA2
            obtain ⟨W4, hW4⟩ : ∃ W4, W3.alloc (.cells #[.int .i64 k, .string ⟨s.toArray⟩, .int .u64 v] 30) = W4 := ⟨_, rfl⟩
            have HX4 : Aside0 (Below W3.heap.size W3 W4) := ⟨by rw [← hW4]; exact below_alloc (Below.refl _ _) _⟩
            have HI4 := Aside0.mk (HI3.out.below HX4.out)
            have HR4 := Aside0.mk (Kd.R_below HR3.out HX4.out)
            have HW4 : Aside0 (Below W1.heap.size W1 W4) := ⟨HW3.out.trans (HX4.out.mono HS3.out)⟩
            have HS4 := Aside0.mk HW4.out.size
            have HB4 : Aside0 (W4.heap[W3.heap.size]? = some (.cells #[.int .i64 k, .string ⟨s.toArray⟩, .int .u64 v] 30 (0, 0))) := ⟨by rw [← hW4]; simpa using blk_new W3 _⟩
            have hx0 : W4.cell? ⟨W3.heap.size, 0, none⟩ = some (.int .i64 k) := (blk_cell HB4.out 0).trans rfl
            have hx1 : W4.cell? ⟨W3.heap.size, 1, none⟩ = some (.string ⟨s.toArray⟩) := (blk_cell HB4.out 1).trans rfl
            have hx2 : W4.cell? ⟨W3.heap.size, 2, none⟩ = some (.int .u64 v) := (blk_cell HB4.out 2).trans rfl
            go_wp2_with ((with_reducible refine gate_builtin (b := .append) (xs := #[.tmp 33, .tmp 35]) rfl ?_); at_builtin; refine Kd.R_append k30 (w0 := W1) W1.heap.size rfl (.tmp 33) (.tmp 35) 22 30 (.agg #[.int .i64 0, .string ⟨#[]⟩, .int .u64 0]) 32 rfl Tryd.underlying22 info_tok rfl (by decide) (by omega) u6 (T.map toTok) (toTok (k, s, v)) [.int .i64 k, .string ⟨s.toArray⟩, .int .u64 v] (fun i => i ≠ W1.heap.size) (fun _ => False) rfl rfl ?aP (fun _ hk => hk.elim) (fun k hk => by have := HI4.out.lt; omega) HR4.out HW4.out HS4.out HLN.out ?_; (case aP => exact ⟨_, _, rfl, rfl, ⟨_, _, rfl, rfl, rfl⟩⟩); intro v1 w3 hR5 hB5 hg5 hat5; have R5 := Aside0.mk hR5; have B5 := Aside0.mk hB5; have I5 := Aside0.mk (HI4.out.grown hg5 (fun e => HR4.out.1 _ e.symm rfl)); clear hR5 hB5 hg5 hat5)
            go_roundg (R.length - a2)
            case measure => exact HM3.out.1
            case rel => exact ⟨a3, T ++ [(k, s, v)], ⟨by have := HA3.out; omega, HL3.out, HA3.out.2.1, by have := HM3.out; simp; omega⟩, I5, ⟨by rw [List.map_append]; exact R5.out⟩, B5⟩
        · rw [hb] at HA2
          have HE : Aside0 (ans = (T, 0)) := ⟨by rw [HN.out, HA2.out.2.2.1]; simp⟩
          clear hb HA2
          go_wp2
          go_ret2
          rw [HE.out]
          exact ⟨_, rfl, Kd.R_mono (Kd.R_lower HR2.out HS1.out) (fun _ _ => trivial), HB1.out.trans (HW2.out.mono HS1.out)⟩
    · have HF : Aside0 (lex_Runes.f a0 = some ([], 3)) := ⟨by unfold lex_Runes.f; rw [if_pos (by omega), if_neg hv]⟩
      have HN : Aside0 (linB a0.data.toList = ([], 3)) := ⟨by unfold linB; rw [if_neg (by simpa using hlen), if_neg hv]⟩
      clear hlen hv
      rw [HN.out]
      go_enter Tryd.func16, Tryd.ntmps16
      go_wp2_with (fail)
      refine (lex_Runes.calls a0 [] 3 _ HF.out HT).mono ?_
      rintro e W1 ⟨v0, rfl, hR1, hB1⟩
      have HB1 := Aside0.mk hB1
      clear hR1 hB1 HB
      go_wp2
      go_ret2
      exact ⟨_, rfl, Kd.R_nil _ _ _ _ _, HB1.out⟩

/-! ### cleatref13_Same: function 17 -/
def cleatref13_Same.l0 : Nat → List ByteArray → List ByteArray → Int → Option (Bool)
 | 0, _, _, _ => none
 | k + 1, x0, x1, x5 => if x5 < (x0.length : Int) then (if 0 ≤ x5 then (if x5 < (x1.length : Int) then (if (rdOf ByteArray.empty x0 x5).toList = (rdOf ByteArray.empty x1 x5).toList then (cleatref13_Same.l0 k x0 x1 (wrap64 (x5 + 1))) else (some false)) else (none)) else (none)) else (some true)
def cleatref13_Same.f (k : Nat) (l0 : List ByteArray) (l1 : List ByteArray) : Option (Bool) := if (l0.length : Int) = (l1.length : Int) then (cleatref13_Same.l0 k l0 l1 0) else (some false)
theorem cleatref13_Same.mono_l : ∀ k, (∀ y0 y1 y2, LeO (cleatref13_Same.l0 k y0 y1 y2) (cleatref13_Same.l0 (k + 1) y0 y1 y2))
 | 0 => fun _ _ _ r h => by simp [cleatref13_Same.l0] at h
 | k + 1 => by
  have ih0 := cleatref13_Same.mono_l k
  ·intro y0 y1 y2
   unfold cleatref13_Same.l0
   repeat' first
   | (with_reducible exact ih0 _ _ _)
   | (with_reducible exact LeO.refl _)
   | (with_reducible exact LeO.none _)
   | (with_reducible refine LeO.ite ?_ ?_)
   | (with_reducible refine LeO.bind ?_ (fun _ => ?_))
   | exact ih0 _ _ _
   | exact LeO.none _
   | refine LeO.ite ?_ ?_
   | refine LeO.bind ?_ (fun _ => ?_)
theorem cleatref13_Same.mono : ∀ a0 a1 k, LeO (cleatref13_Same.f k a0 a1) (cleatref13_Same.f (k + 1) a0 a1) := by
 intro a0 a1 k
 have ih0 := cleatref13_Same.mono_l k
 unfold cleatref13_Same.f
 repeat' first
   | (with_reducible exact ih0 _ _ _)
   | (with_reducible exact LeO.refl _)
   | (with_reducible exact LeO.none _)
   | (with_reducible refine LeO.ite ?_ ?_)
   | (with_reducible refine LeO.bind ?_ (fun _ => ?_))
   | exact ih0 _ _ _
   | exact LeO.none _
   | refine LeO.ite ?_ ?_
   | refine LeO.bind ?_ (fun _ => ?_)
set_option maxHeartbeats 8000000 in
set_option maxRecDepth 100000 in
theorem cleatref13_Same.calls (k : Nat) (A0 : Option Addr) (c0 : Nat) (l0 : List ByteArray) (A1 : Option Addr) (c1 : Nat) (l1 : List ByteArray) (r : Bool) (w : World) (hr0 : Kd.C Kd.string w A0 l0.length l0) (hc0 : l0.length ≤ c0) (hr1 : Kd.C Kd.string w A1 l1.length l1) (hc1 : l1.length ≤ c1) (h : cleatref13_Same.f k l0 l1 = some r) :
  Calls Tryd.prog 17 #[.slice A0 l0.length c0, .slice A1 l1.length c1] w fun e w' => e = .returned (.bool r) ∧ Drawn0 w w' := by
 have HR0 := Aside0.mk hr0
 have HC0 := Aside0.mk hc0
 clear hr0 hc0
 have HR1 := Aside0.mk hr1
 have HC1 := Aside0.mk hc1
 clear hr1 hc1
 have H : (if (l0.length : Int) = (l1.length : Int) then (cleatref13_Same.l0 k l0 l1 0) else (some false)) = some r := h
 clear h
 by_cases c3 : (l0.length : Int) = (l1.length : Int)
 ·rw [if_pos c3] at H
  have c3b0 : ((l0.length : Int) == (l1.length : Int)) = true := beq_iff_eq.mpr c3
  have c3b1 : ((l0.length : Int) != (l1.length : Int)) = false := bne_eq_false_iff_eq.mpr c3
  have c3b2 : (l0.length == l1.length) = true := by first | simpa using c3 | (simp at c3 ⊢; omega)
  clear c3
  have H' := Aside0.mk H
  clear H
  go_enter Tryd.func17, Tryd.ntmps17
  go_wp2
  repeat (go_quiet (fail); try go_wp2)
  go_loopg [5] k (fun kq v5 w' => ∃ (x5_1 : Int), v5 = .int .i64 x5_1 ∧ Aside0 (cleatref13_Same.l0 kq l0 l1 x5_1 = some r) ∧ Aside0 (kq ≤ k) ∧ Drawn0 w w')
  case atStart => exact ⟨(0), (by first | rfl | (simp; done) | (simp [*]; done)), H', ⟨Nat.le_refl _⟩, by repeat (first | exact Drawn0.refl _ | apply Drawn0.step)⟩
  case round =>
   clear H'
   try clear c1
   try clear p2
   try clear c3
   try clear c3b0
   try clear c3b1
   try clear c3b2
   obtain ⟨x5_1, rfl, HA, HK1, ⟨m1, rfl⟩⟩ := hrel
   cases gk with
   | zero => exact absurd HA.out (by simp [cleatref13_Same.l0])
   | succ k1 =>
    have H := HA.out
    clear HA
    simp only [cleatref13_Same.l0] at H
    by_cases c4 : x5_1 < (l0.length : Int)
    ·rw [if_pos c4] at H
     have c4b0 : decide (x5_1 < (l0.length : Int)) = true := decide_eq_true c4
     clear c4
     by_cases c5 : 0 ≤ x5_1
     ·rw [if_pos c5] at H
      have c5b0 : decide (0 ≤ x5_1) = true := decide_eq_true c5
      clear c5
      by_cases c6 : x5_1 < (l1.length : Int)
      ·rw [if_pos c6] at H
       have c6b0 : decide (x5_1 < (l1.length : Int)) = true := decide_eq_true c6
       clear c6
       by_cases c7 : (rdOf ByteArray.empty l0 x5_1).toList = (rdOf ByteArray.empty l1 x5_1).toList
       ·rw [if_pos c7] at H
        have c7b0 : ((rdOf ByteArray.empty l0 x5_1).toList == (rdOf ByteArray.empty l1 x5_1).toList) = true := beq_iff_eq.mpr c7
        have c7b1 : ((rdOf ByteArray.empty l0 x5_1).toList != (rdOf ByteArray.empty l1 x5_1).toList) = false := bne_eq_false_iff_eq.mpr c7
        clear c7
        have H' := Aside0.mk H
        clear H
        have p176 : 0 ≤ (x5_1 : Int) := of_decide_eq_true (by first | (with_reducible assumption) | assumption)
        have q176 : x5_1 < (l0.length : Int) := of_decide_eq_true (by first | (with_reducible assumption) | assumption)
        obtain ⟨ad176, e176, hx176_0⟩ := Kd.at_string HR0.out x5_1 p176 q176
        cases e176
        replace p176 := eq_true p176
        replace q176 := eq_true q176
        have p177 : 0 ≤ (x5_1 : Int) := of_decide_eq_true (by first | (with_reducible assumption) | assumption)
        have q177 : x5_1 < (l1.length : Int) := of_decide_eq_true (by first | (with_reducible assumption) | assumption)
        obtain ⟨ad177, e177, hx177_0⟩ := Kd.at_string HR1.out x5_1 p177 q177
        cases e177
        replace p177 := eq_true p177
        replace q177 := eq_true q177
        go_wp2
        repeat (go_quiet (fail); try go_wp2)
        go_roundg k1
        case measure => have := HK1.out; omega
        case rel => exact ⟨(wrap64 (x5_1 + 1)), (by first | rfl | (simp; done) | (simp [*]; done)), H', ⟨by have := HK1.out; omega⟩, by repeat (first | exact Drawn0.refl _ | apply Drawn0.step)⟩
       ·rw [if_neg c7] at H
        have c7b0 : ((rdOf ByteArray.empty l0 x5_1).toList == (rdOf ByteArray.empty l1 x5_1).toList) = false := beq_eq_false_iff_ne.mpr c7
        have c7b1 : ((rdOf ByteArray.empty l0 x5_1).toList != (rdOf ByteArray.empty l1 x5_1).toList) = true := bne_iff_ne.mpr c7
        obtain rfl := Option.some.inj H
        have p176 : 0 ≤ (x5_1 : Int) := of_decide_eq_true (by first | (with_reducible assumption) | assumption)
        have q176 : x5_1 < (l0.length : Int) := of_decide_eq_true (by first | (with_reducible assumption) | assumption)
        obtain ⟨ad176, e176, hx176_0⟩ := Kd.at_string HR0.out x5_1 p176 q176
        cases e176
        replace p176 := eq_true p176
        replace q176 := eq_true q176
        have p177 : 0 ≤ (x5_1 : Int) := of_decide_eq_true (by first | (with_reducible assumption) | assumption)
        have q177 : x5_1 < (l1.length : Int) := of_decide_eq_true (by first | (with_reducible assumption) | assumption)
        obtain ⟨ad177, e177, hx177_0⟩ := Kd.at_string HR1.out x5_1 p177 q177
        cases e177
        replace p177 := eq_true p177
        replace q177 := eq_true q177
        go_wp2
        repeat (go_quiet (fail); try go_wp2)
        go_ret
        exact ⟨by first | rfl | (simp; done) | (simp [*]; done), by repeat (first | exact Drawn0.refl _ | apply Drawn0.step)⟩
      ·rw [if_neg c6] at H
       exact absurd H (by simp)
     ·rw [if_neg c5] at H
      exact absurd H (by simp)
    ·rw [if_neg c4] at H
     have c4b0 : decide (x5_1 < (l0.length : Int)) = false := decide_eq_false c4
     clear c4
     obtain rfl := Option.some.inj H
     go_wp2
     repeat (go_quiet (fail); try go_wp2)
     go_ret
     exact ⟨by first | rfl | (simp; done) | (simp [*]; done), by repeat (first | exact Drawn0.refl _ | apply Drawn0.step)⟩
 ·rw [if_neg c3] at H
  have c3b0 : ((l0.length : Int) == (l1.length : Int)) = false := beq_eq_false_iff_ne.mpr c3
  have c3b1 : ((l0.length : Int) != (l1.length : Int)) = true := bne_iff_ne.mpr c3
  have c3b2 : (l0.length == l1.length) = false := by first | simpa using c3 | (simp at c3 ⊢; omega)
  obtain rfl := Option.some.inj H
  go_enter Tryd.func17, Tryd.ntmps17
  go_wp2
  repeat (go_quiet (fail); try go_wp2)
  go_ret
  exact ⟨by first | rfl | (simp; done) | (simp [*]; done), by repeat (first | exact Drawn0.refl _ | apply Drawn0.step)⟩

/-! ### cleatlaw14_labeled: function 8 -/
theorem mk_C {α : Type} (d : Kd α) {W : World} {b : Nat} {t : TypeId} {ps : List α} {cs : Array Value} (hb : W.heap[b]? = some (.cells cs t (0, 0))) (hr : Reps (d.K W) d.sz ps cs.toList) (hl : ps.length ≤ 9223372036854775807) : Kd.C d W (some ⟨b, 0, none⟩) ps.length ps := by
  refine ⟨rfl, hl, fun _ => ⟨_, rfl, fun j p hj => ⟨_, ?_, hr.2 j p hj, fun i u hu => ?_⟩⟩⟩
  · have h1 := hr.1
    have h2 : j < ps.length := (List.getElem?_eq_some_iff.1 hj).1
    have h3 : j * d.sz + d.sz ≤ ps.length * d.sz := by rw [← Nat.succ_mul]; exact Nat.mul_le_mul_right _ h2
    rw [List.length_take, List.length_drop]
    omega
  · have hi : i < d.sz := by have := (List.getElem?_eq_some_iff.1 hu).1; rw [List.length_take] at this; omega
    rw [List.getElem?_take, if_pos hi, List.getElem?_drop] at hu
    have := blk_cell hb (j * d.sz + i)
    have e : ∀ n, (⟨b, 0, none⟩ : Addr).add n = ⟨b, n, none⟩ := fun n => by
      by_cases h0 : n = 0
      · subst h0; rfl
      · simp [Addr.add, h0]
    rw [e, this, ← Array.getElem?_toList]
    exact hu
def cleatlaw14_labeled.f : Option Bool := some true
def lbT : List S30 := [⟨2, ⟨#[49]⟩, 0⟩, ⟨4, ⟨#[58]⟩, 0⟩, ⟨1, ⟨#[97]⟩, 0⟩, ⟨4, ⟨#[58]⟩, 0⟩, ⟨1, ⟨#[98]⟩, 0⟩, ⟨2, ⟨#[49, 98]⟩, 0⟩]
def lbR : List S30 := [⟨1, ⟨#[98]⟩, 0⟩, ⟨2, ⟨#[49, 98]⟩, 0⟩]
def lbU : List S30 := [⟨1, ⟨#[120, 49]⟩, 0⟩, ⟨4, ⟨#[58]⟩, 0⟩, ⟨1, ⟨#[98]⟩, 0⟩, ⟨2, ⟨#[49, 98]⟩, 0⟩]
def lbM : List S38 := [⟨7, 2, 0, 0⟩, ⟨7, 5, 0, 0⟩, ⟨7, 9, 0, 0⟩]
def lbN : List ByteArray := [⟨#[49]⟩, ⟨#[97]⟩]
theorem lb1 : lex_Line.f (⟨#[49, 58, 32, 97, 58, 32, 98, 32, 49, 98]⟩ : ByteArray) = some (lbT, 0) := by kernel_rfl
theorem lb2 : local_Split.f lbT = some (lbN, lbR, 0) := by kernel_rfl
theorem lb3 : local_Find.f lbM 7 true 5 = some (2, true) := by kernel_rfl
theorem lb4 : local_Find.f lbM 7 false 5 = some (1, true) := by kernel_rfl
theorem lb5 : local_Find.f lbM 7 false 1 = some (0, false) := by kernel_rfl
theorem lb6 : local_Text.f 3 7 true = some (⟨#[55, 102]⟩, 0) := by kernel_rfl
theorem lb7 : lex_Line.f (⟨#[120, 49, 58, 32, 98, 32, 49, 98]⟩ : ByteArray) = some (lbU, 0) := by kernel_rfl
theorem lb8 : local_Split.f lbU = some ([], [], 3) := by kernel_rfl
theorem lb9 : cleatref13_Same.f 9 lbN lbN = some true := by kernel_rfl
theorem lb10 : local_IsName.f 3 (⟨#[109, 97, 105, 110]⟩ : ByteArray) = some true := by kernel_rfl
theorem lb11 : local_IsName.f 3 (⟨#[115, 112]⟩ : ByteArray) = some false := by kernel_rfl
set_option maxHeartbeats 8000000 in
set_option maxRecDepth 100000 in
theorem cleatlaw14_labeled.calls (r : Bool) (w : World) (h : cleatlaw14_labeled.f = some r) (HT : Aside0 (Tabs w)) :
    Calls Tryd.prog 8 #[] w fun e w' => e = .returned (.bool r) ∧ Below w.heap.size w w' := by
  obtain rfl := Option.some.inj h
  clear h
  go_enter Tryd.func8, Tryd.ntmps8
  go_wp2_with (fail)
  refine (lex_Line.calls (⟨#[49, 58, 32, 97, 58, 32, 98, 32, 49, 98]⟩ : ByteArray) lbT 0 _ lb1 HT).mono ?_
  rintro e W1 ⟨v, rfl, hR, hB⟩
  obtain ⟨A1, c1, rfl, hc1, hC1⟩ := Kd.R_reads hR
  have HB1 := Aside0.mk hB
  clear hR hB
  go_wp2_with (fail)
  refine (local_Split.calls _ _ lbT lbN lbR 0 _ hC1 hc1 lb2 (tabs_of HT HB1.out)).mono ?_
  rintro e W2 ⟨v2, v3, rfl, hR2, hR3, hB2⟩
  obtain ⟨A2, c2, rfl, hc2, hC2⟩ := Kd.R_reads hR2
  obtain ⟨A3, c3, rfl, hc3, hC3⟩ := Kd.R_reads hR3
  have HC2 := Aside0.mk hC2
  have Hc2 := Aside0.mk hc2
  have HB2 := Aside0.mk (HB1.out.trans (hB2.mono HB1.out.size))
  clear hR2 hR3 hB2 hc1 hC1 hc2 hC2 hc3 hC3 HB1
  have hz38 := Tryd.zeroValue38
  go_wp2_with (fail)
  obtain ⟨W2b, hW2b⟩ : ∃ W, W2.alloc (.cells #[.int .i64 7, .int .i64 2, .int .i64 0, .int .i64 0, .int .i64 7, .int .i64 5, .int .i64 0, .int .i64 0, .int .i64 7, .int .i64 9, .int .i64 0, .int .i64 0] 38) = W := ⟨_, rfl⟩
  have HM : Aside0 (Kd.C k38 W2b (some ⟨W2.heap.size, 0, none⟩) lbM.length lbM) := ⟨by
    rw [← hW2b]
    exact mk_C k38 (blk_new _ _) (Reps.c4 (k38_mk _ ⟨7, 2, 0, 0⟩) (Reps.c4 (k38_mk _ ⟨7, 5, 0, 0⟩) (Reps.c4 (k38_mk _ ⟨7, 9, 0, 0⟩) (Reps.none _ _)))) (by decide)⟩
  have HB2b : Aside0 (Below w.heap.size w W2b) := ⟨by rw [← hW2b]; exact below_alloc HB2.out _⟩
  have HC2b : Aside0 (Kd.C Kd.string W2b A2 lbN.length lbN) := ⟨by rw [← hW2b]; exact Kd.C_below HC2.out (below_alloc (Below.refl _ _) _)⟩
  rw [hW2b]
  clear hW2b HC2 HB2
  refine (local_Find.calls _ _ lbM 7 true 5 2 true _ HM.out (Nat.le_refl _) lb3).mono ?_
  rintro e W3 ⟨rfl, hb⟩
  have HB3 := Aside0.mk (HB2b.out.trans (hb.mono HB2b.out.size))
  have HM3 := Aside0.mk (Kd.C_below HM.out hb)
  have HC3 := Aside0.mk (Kd.C_below HC2b.out hb)
  clear hb HM HC2b HB2b
  go_wp2_with (fail)
  refine (local_Find.calls _ _ lbM 7 false 5 1 true _ HM3.out (Nat.le_refl _) lb4).mono ?_
  rintro e W4 ⟨rfl, hb⟩
  have HB4 := Aside0.mk (HB3.out.trans (hb.mono HB3.out.size))
  have HM4 := Aside0.mk (Kd.C_below HM3.out hb)
  have HC4 := Aside0.mk (Kd.C_below HC3.out hb)
  clear hb HM3 HC3 HB3
  go_wp2_with (fail)
  refine (local_Find.calls _ _ lbM 7 false 1 0 false _ HM4.out (Nat.le_refl _) lb5).mono ?_
  rintro e W5 ⟨rfl, hb⟩
  have HB5 := Aside0.mk (HB4.out.trans (hb.mono HB4.out.size))
  have HC5 := Aside0.mk (Kd.C_below HC4.out hb)
  clear hb HM4 HC4 HB4
  go_wp2_with (fail)
  refine (local_Text.calls 3 7 true (⟨#[55, 102]⟩ : ByteArray) 0 _ lb6 (tabs_of HT HB5.out)).mono ?_
  rintro e W6 ⟨rfl, hb⟩
  have HB6 := Aside0.mk (HB5.out.trans (hb.mono HB5.out.size))
  have HC6 := Aside0.mk (Kd.C_below HC5.out hb)
  clear hb HC5 HB5
  go_wp2_with (fail)
  refine (lex_Line.calls (⟨#[120, 49, 58, 32, 98, 32, 49, 98]⟩ : ByteArray) lbU 0 _ lb7 (tabs_of HT HB6.out)).mono ?_
  rintro e W7 ⟨v7, rfl, hR, hb⟩
  obtain ⟨A7, c7, rfl, hc7, hC7⟩ := Kd.R_reads hR
  have HB7 := Aside0.mk (HB6.out.trans (hb.mono HB6.out.size))
  have HC7 := Aside0.mk (Kd.C_below HC6.out hb)
  clear hb HC6 HB6 hR
  go_wp2_with (fail)
  refine (local_Split.calls _ _ lbU [] [] 3 _ hC7 hc7 lb8 (tabs_of HT HB7.out)).mono ?_
  rintro e W8 ⟨v8, v9, rfl, hR8, hR9, hb⟩
  have HB8 := Aside0.mk (HB7.out.trans (hb.mono HB7.out.size))
  have HC8 := Aside0.mk (Kd.C_below HC7.out hb)
  clear hb HC7 HB7 hR8 hR9 hc7 hC7
  go_wp2_with (fail)
  refine (cleatref13_Same.calls 9 _ _ lbN _ _ lbN true _ (Kd.C_below HC8.out (below_alloc (Below.refl _ _) _)) Hc2.out (mk_C Kd.string (cs := #[.string ⟨#[49]⟩, .string ⟨#[97]⟩]) (t := 9) (blk_new _ _) (Reps.one rfl (Reps.one rfl (Reps.none _ _))) (by decide)) (by decide) lb9).mono ?_
  rintro e W9 ⟨rfl, ⟨⟨nd, rfl⟩⟩⟩
  have hlr : lbR.length = 2 := rfl
  have HB9 : Aside0 (∀ o, Below w.heap.size w ((W8.alloc o).drewN nd)) := ⟨fun _ => pw_below_drewN (below_alloc HB8.out _) _⟩
  go_wp2_with (fail)
  refine (local_IsName.calls 3 (⟨#[109, 97, 105, 110]⟩ : ByteArray) true _ lb10 (tabs_of HT (HB9.out _))).mono ?_
  rintro e W10 ⟨rfl, hb⟩
  have HB10 := Aside0.mk ((HB9.out _).trans (hb.mono (HB9.out _).size))
  clear hb HB9
  go_wp2_with (fail)
  refine (local_IsName.calls 3 (⟨#[115, 112]⟩ : ByteArray) false _ lb11 (tabs_of HT HB10.out)).mono ?_
  rintro e W11 ⟨rfl, hb⟩
  have HB11 := Aside0.mk (HB10.out.trans (hb.mono HB10.out.size))
  clear hb
  go_wp2
  go_ret
  exact ⟨rfl, HB11.out⟩

end Go.Proofs.YtmolcgkahhdkgaaDoor.P
