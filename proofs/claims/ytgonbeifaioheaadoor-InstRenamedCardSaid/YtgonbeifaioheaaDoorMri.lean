/- What the printed reference of layer 2 answers: the same as the program's. -/
import Derived.Test.YtgonbeifaioheaaDoorMk2i
import Derived.Test.YtgonbeifaioheaaDoorR1
import Derived.Test.YtgonbeifaioheaaDoorPx6
import Derived.Test.YtgonbeifaioheaaDoorPx7
namespace Go.Proofs.YtgonbeifaioheaaDoor.M
open Go.RowKit Go.Proofs.YtgonbeifaioheaaDoor.P Go.Proofs.YtgonbeifaioheaaDoor.K Go.Proofs.YtgonbeifaioheaaDoor.B Go.Proofs.YtgonbeifaioheaaDoor.R1 Go.Proofs.YtgonbeifaioheaaDoorW.PrintWords Go.Proofs.YtgonbeifaioheaaDoorW.PrintLast Go.Proofs.YtgonbeifaioheaaDoorW.PrintMore
set_option linter.unusedVariables false
set_option linter.unusedSimpArgs false
theorem again_l {x s : Nat} (hx : x < 18446744073709551616) (hs : Sz s) : ∀ (d k i : Nat), i + d = 64 → d + 70 < k →
  cleatref02_again.l0 k (x : Int) (s : Int) ((ofF (fun i => x.testBit (i % s)) i : Nat) : Int) (i : Int) = some (againN x s : Int) := by
 have hl := hs.le
 intro d
 induction d with
 | zero =>
  intro k i hi hk
  obtain ⟨k, rfl⟩ : ∃ m, k = m + 1 := ⟨k - 1, by omega⟩
  obtain rfl : i = 64 := by omega
  simp only [cleatref02_again.l0]
  rw [if_neg (by omega)]
  rfl
 | succ d ih =>
  intro k i hi hk
  obtain ⟨k, rfl⟩ : ∃ m, k = m + 1 := ⟨k - 1, by omega⟩
  simp only [cleatref02_again.l0]
  have hm : i % s < s := Nat.mod_lt _ (by omega)
  rw [if_pos (by omega), if_neg (by omega), show Int.tmod (i : Int) (s : Int) = ((i % s : Nat) : Int) from rfl, bit_f x (i % s) hx (by omega) k (by omega), Option.bind_some, show wrap64 ((i : Int) + 1) = ((i + 1 : Nat) : Int) by rw [w64_in ⟨by omega, by omega⟩]; omega]
  have hof := ofF_lt (fun i => x.testBit (i % s)) (i + 1)
  have hp := pow_le64 (show i + 1 ≤ 64 by omega)
  have hih := ih k (i + 1) (by omega) (by omega)
  rw [ofF] at hih hof
  by_cases hb : x.testBit (i % s) = true
  ·rw [hb, if_pos rfl, power_f i (by omega) k (by omega), Option.bind_some]
   rw [hb, Bool.toNat_true, Nat.one_mul] at hih hof
   generalize 2 ^ i = p at *
   rw [show ((ofF (fun i => x.testBit (i % s)) i : Nat) : Int) + (p : Int) = ((ofF (fun i => x.testBit (i % s)) i + p : Nat) : Int) by omega, wu64_in ⟨by omega, by omega⟩]
   exact hih
  ·rw [if_neg hb]
   rw [Bool.not_eq_true] at hb
   rw [hb, Bool.toNat_false, Nat.zero_mul, Nat.add_zero] at hih
   exact hih
theorem again_f {x s : Nat} (hx : x < 18446744073709551616) (hs : Sz s) (k : Nat) (hk : 140 ≤ k) : cleatref02_again.f k (x : Int) (s : Int) = some (againN x s : Int) :=
 again_l hx hs 64 k 0 (by omega) (by omega)
theorem rot_ref {v b s : Nat} (hs : Sz s) (hv : v < 2 ^ s) (hb : b < s) (k : Nat) (hk : 200 ≤ k) : cleatref01_Rotate.f k (v : Int) (b : Int) (s : Int) = some ((rotN v b s : Int), 0) := by
 have hp := pow_le64 hs.le.2
 obtain ⟨r, h1, h2⟩ := rot_same k hk v b s ⟨by omega, by omega⟩
 rw [rot_ok k (by omega) v b hs hv hb] at h1
 rw [h2, ← h1]
theorem row_l {o r z : Nat} (hz : Sz z) (ho : o ≤ z) (hr : r < z) : ∀ (d k i : Nat), i + d = o → d + 210 < k →
  cleatref02_row.l0 k (o : Int) (r : Int) (z : Int) ((2 ^ i - 1 : Nat) : Int) (i : Int) = some (rotN (2 ^ o - 1) r z : Int) := by
 have hl := hz.le
 intro d
 induction d with
 | zero =>
  intro k i hi hk
  obtain ⟨k, rfl⟩ : ∃ m, k = m + 1 := ⟨k - 1, by omega⟩
  obtain rfl : i = o := by omega
  have hle : 2 ^ i ≤ 2 ^ z := Nat.pow_le_pow_right (by decide) ho
  have hp := Nat.two_pow_pos i
  simp only [cleatref02_row.l0]
  rw [if_neg (by omega), rot_ref hz (by omega) hr k (by omega)]
  rfl
 | succ d ih =>
  intro k i hi hk
  obtain ⟨k, rfl⟩ : ∃ m, k = m + 1 := ⟨k - 1, by omega⟩
  have hp := Nat.two_pow_pos i
  have hp2 := pow_le64 (show i + 1 ≤ 64 by omega)
  have hih := ih k (i + 1) (by omega) (by omega)
  simp only [cleatref02_row.l0]
  rw [if_pos (by omega), power_f i (by omega) k (by omega), Option.bind_some, show wrap64 ((i : Int) + 1) = ((i + 1 : Nat) : Int) by rw [w64_in ⟨by omega, by omega⟩]; omega]
  rw [Nat.pow_succ] at hp2 hih
  generalize 2 ^ i = p at *
  rw [show ((p - 1 : Nat) : Int) + (p : Int) = ((p * 2 - 1 : Nat) : Int) by omega, wu64_in ⟨by omega, by omega⟩]
  exact hih
theorem row_f {o r z : Nat} (hz : Sz z) (ho : o ≤ z) (hr : r < z) (k : Nat) (hk : 300 ≤ k) : cleatref02_row.f k (o : Int) (r : Int) (z : Int) = some (rotN (2 ^ o - 1) r z : Int) := by
 have hl := hz.le
 exact row_l hz ho hr o k 0 (by omega) (by omega)

/-! ### Size -/
theorem again_per {v s : Nat} (hv : v < 18446744073709551616) (hs : Sz s) : againN (v % 2 ^ s) s = v ↔ Per v s := by
 have hl := hs.le
 constructor
 ·intro h i hi
  have hm : i % s < s := Nat.mod_lt _ (by omega)
  have e1 := againN_bit (x := v % 2 ^ s) (s := s) hi
  have e2 := againN_bit (x := v % 2 ^ s) (s := s) (show i % s < 64 by omega)
  rw [h] at e1 e2
  rw [e1, e2, Nat.mod_mod]
 ·intro h
  refine eq_of_bits (s := 64) (againN_lt _ _) hv fun i hi => ?_
  have hm : i % s < s := Nat.mod_lt _ (by omega)
  rw [againN_bit hi, Nat.testBit_mod_two_pow, decide_eq_true hm, Bool.true_and, ← h i hi]
theorem rsize_l {v : Nat} (hv : v < 18446744073709551616) (s : Nat) (hs : Sz s) (k : Nat) (hk : 200 ≤ k) :
  cleatref02_Size.l0 k (v : Int) (s : Int) = if s < 64 then (if Per v s then some (s : Int) else cleatref02_Size.l0 (k - 1) (v : Int) ((2 * s : Nat) : Int)) else some 64 := by
 obtain ⟨k, rfl⟩ : ∃ m, k = m + 1 := ⟨k - 1, by omega⟩
 have hl := hs.le
 have hlow : v % 2 ^ s < 18446744073709551616 := Nat.lt_of_le_of_lt (Nat.mod_le _ _) hv
 simp only [cleatref02_Size.l0]
 by_cases h : s < 64
 ·rw [if_pos (by omega), if_pos h, low_ref v hv (s : Int) k (by omega), Option.bind_some, lowZ_nat v s hv hl.2, again_f hlow hs k (by omega), Option.bind_some]
  by_cases hp : Per v s
  ·rw [if_pos hp, if_pos (by rw [(again_per hv hs).2 hp])]
  ·rw [if_neg hp, if_neg (fun e => hp ((again_per hv hs).1 (Int.ofNat_inj.1 e))), show wrap64 (2 * (s : Int)) = ((2 * s : Nat) : Int) by rw [w64_in ⟨by omega, by omega⟩]; omega]
   rfl
 ·rw [if_neg (by omega), if_neg h]
theorem rsize_f {v : Nat} (hv : v < 18446744073709551616) (k : Nat) (hk : 220 ≤ k) : cleatref02_Size.f k (v : Int) = some (sizeN v : Int) := by
 unfold cleatref02_Size.f sizeN
 have e2 := rsize_l hv 2 (by decide) k (by omega)
 have e4 := rsize_l hv 4 (by decide) (k - 1) (by omega)
 have e8 := rsize_l hv 8 (by decide) (k - 1 - 1) (by omega)
 have e16 := rsize_l hv 16 (by decide) (k - 1 - 1 - 1) (by omega)
 have e32 := rsize_l hv 32 (by decide) (k - 1 - 1 - 1 - 1) (by omega)
 have e64 := rsize_l hv 64 (by decide) (k - 1 - 1 - 1 - 1 - 1) (by omega)
 refine e2.trans ?_
 rw [if_pos (by decide)]
 by_cases p2 : Per v 2
 ·rw [if_pos p2, if_pos p2]
 rw [if_neg p2, if_neg p2]
 refine e4.trans ?_
 rw [if_pos (by decide)]
 by_cases p4 : Per v 4
 ·rw [if_pos p4, if_pos p4]
 rw [if_neg p4, if_neg p4]
 refine e8.trans ?_
 rw [if_pos (by decide)]
 by_cases p8 : Per v 8
 ·rw [if_pos p8, if_pos p8]
 rw [if_neg p8, if_neg p8]
 refine e16.trans ?_
 rw [if_pos (by decide)]
 by_cases p16 : Per v 16
 ·rw [if_pos p16, if_pos p16]
 rw [if_neg p16, if_neg p16]
 refine e32.trans ?_
 rw [if_pos (by decide)]
 by_cases p32 : Per v 32
 ·rw [if_pos p32, if_pos p32]
 rw [if_neg p32, if_neg p32]
 refine e64.trans ?_
 rw [if_neg (by decide)]
 rfl
theorem rones_l {v : Nat} (hv : v < 18446744073709551616) : ∀ (d k i : Nat), i + d = 64 → d + 70 < k → cleatref02_Ones.l0 k (v : Int) (cnt v i : Int) (i : Int) = some (cnt v 64 : Int) := by
 intro d
 induction d with
 | zero =>
  intro k i hi hk
  obtain ⟨k, rfl⟩ : ∃ m, k = m + 1 := ⟨k - 1, by omega⟩
  obtain rfl : i = 64 := by omega
  simp only [cleatref02_Ones.l0]
  rw [if_neg (by omega)]
 | succ d ih =>
  intro k i hi hk
  obtain ⟨k, rfl⟩ : ∃ m, k = m + 1 := ⟨k - 1, by omega⟩
  have hih := ih k (i + 1) (by omega) (by omega)
  have hc : cnt v (i + 1) = cnt v i + (v.testBit i).toNat := rfl
  have hle : cnt v i ≤ i := cntF_le _ _
  rw [hc] at hih
  simp only [cleatref02_Ones.l0]
  rw [if_pos (by omega), bit_f v i hv (by omega) k (by omega), Option.bind_some, show wrap64 ((i : Int) + 1) = ((i + 1 : Nat) : Int) by rw [w64_in ⟨by omega, by omega⟩]; omega]
  by_cases hb : v.testBit i = true
  ·rw [if_pos hb, show wrap64 ((cnt v i : Int) + 1) = ((cnt v i + 1 : Nat) : Int) by rw [w64_in ⟨by omega, by omega⟩]; omega]
   rw [hb] at hih
   exact hih
  ·rw [if_neg hb]
   rw [Bool.not_eq_true] at hb
   rw [hb] at hih
   exact hih
theorem rones_f {v : Nat} (hv : v < 18446744073709551616) (k : Nat) (hk : 140 ≤ k) : cleatref02_Ones.f k (v : Int) = some (cnt v 64 : Int) := rones_l hv 64 k 0 (by omega) (by omega)

/-! ### Encode -/
theorem renc_end (k : Nat) (hk : 1 ≤ k) (v s o i : Int) : cleatref02_Encode.j1 k v s o i false = some (0, 0, 0, 3) := by
 obtain ⟨k, rfl⟩ : ∃ m, k = m + 1 := ⟨k - 1, by omega⟩
 simp [cleatref02_Encode.j1]
theorem renc_step {v s o i : Nat} (hv : v < 18446744073709551616) (hs : Sz s) (o1 : 1 ≤ o) (o2 : o < s) (hi : i < s) (k : Nat) (hk : 400 ≤ k) :
  cleatref02_Encode.l0 k (v : Int) (s : Int) (o : Int) (i : Int) = if rotN (2 ^ o - 1) i s = v % 2 ^ s then some ((nN s : Int), (i : Int), ((o - 1 + exN s : Nat) : Int), 0) else cleatref02_Encode.l0 (k - 2) (v : Int) (s : Int) (o : Int) ((i + 1 : Nat) : Int) := by
 obtain ⟨k, rfl⟩ : ∃ m, k = m + 2 := ⟨k - 2, by omega⟩
 have hl := hs.le
 simp only [cleatref02_Encode.l0]
 rw [if_pos (by omega), if_pos (by omega), decide_eq_true (show (o : Int) < (s : Int) by omega)]
 simp only [cleatref02_Encode.j1]
 rw [if_pos trivial, row_f hs (by omega) hi k (by omega), Option.bind_some, low_ref v hv (s : Int) k (by omega), Option.bind_some, lowZ_nat v s hv hl.2]
 by_cases h : rotN (2 ^ o - 1) i s = v % 2 ^ s
 ·rw [if_pos (by rw [h]), if_pos h]
  unfold nN exN
  by_cases e : s = 64
  ·rw [if_pos (by omega), if_pos e, if_pos e, w64_in ⟨by omega, by omega⟩, show (o : Int) - 1 = ((o - 1 + 0 : Nat) : Int) by omega]; rfl
  ·have : s ≤ 32 := by unfold Sz at hs; omega
   rw [if_neg (by omega), if_neg e, if_neg e, w64_in (n := (o : Int) - 1) ⟨by omega, by omega⟩, w64_in (n := (o : Int) - 1 + 64) ⟨by omega, by omega⟩, w64_in (n := 2 * (s : Int)) ⟨by omega, by omega⟩, w64_in ⟨by omega, by omega⟩, show (o : Int) - 1 + 64 - 2 * (s : Int) = ((o - 1 + (64 - 2 * s) : Nat) : Int) by omega]; rfl
 ·rw [if_neg (fun e => h (Int.ofNat_inj.1 e)), if_neg h, show wrap64 ((i : Int) + 1) = ((i + 1 : Nat) : Int) by rw [w64_in ⟨by omega, by omega⟩]; omega]
  rfl
theorem renc_hit {v s o t : Nat} (hv : v < 18446744073709551616) (h : IsRun v s o t) : ∀ (d k i : Nat), i + d = t → 2 * d + 400 < k →
  cleatref02_Encode.l0 k (v : Int) (s : Int) (o : Int) (i : Int) = some ((nN s : Int), (t : Int), ((o - 1 + exN s : Nat) : Int), 0) := by
 have tl := h.tl
 intro d
 induction d with
 | zero =>
  intro k i hi hk
  obtain rfl : i = t := by omega
  rw [renc_step hv h.sz h.o1 h.o2 tl k (by omega), if_pos (run_low h).symm]
 | succ d ih =>
  intro k i hi hk
  rw [renc_step hv h.sz h.o1 h.o2 (by omega) k (by omega), if_neg ?_]
  ·exact ih (k - 2) (i + 1) (by omega) (by omega)
  ·intro e
   have := row_inj h.sz.le.1 h.o1 h.o2 (show i < s by omega) tl (e.trans (run_low h))
   omega
theorem renc_miss {v s o : Nat} (hv : v < 18446744073709551616) (hs : Sz s) (hp : Per v s) (o1 : 1 ≤ o) (o2 : o < s) (hm : ¬ Mask v) : ∀ (d k i : Nat), i + d = s → 2 * d + 400 < k →
  cleatref02_Encode.l0 k (v : Int) (s : Int) (o : Int) (i : Int) = some (0, 0, 0, 3) := by
 intro d
 induction d with
 | zero =>
  intro k i hi hk
  obtain ⟨k, rfl⟩ : ∃ m, k = m + 1 := ⟨k - 1, by omega⟩
  simp only [cleatref02_Encode.l0]
  rw [if_neg (by omega)]
  exact renc_end k (by omega) _ _ _ _
 | succ d ih =>
  intro k i hi hk
  rw [renc_step hv hs o1 o2 (by omega) k (by omega), if_neg ?_]
  ·exact ih (k - 2) (i + 1) (by omega) (by omega)
  ·intro e
   exact hm ⟨_, _, i, run_of hs o1 o2 (by omega) hp e.symm⟩
theorem renc_head {v : Nat} (hv : v < 18446744073709551616) (k : Nat) (hk : 400 ≤ k) : cleatref02_Encode.f k (v : Int) = cleatref02_Encode.l0 k (v : Int) (sizeN v : Int) (cnt (v % 2 ^ sizeN v) 64 : Int) 0 := by
 have hl := (sizeN_sz v).le
 have hlow : v % 2 ^ sizeN v < 18446744073709551616 := Nat.lt_of_le_of_lt (Nat.mod_le _ _) hv
 unfold cleatref02_Encode.f
 rw [rsize_f hv k (by omega), Option.bind_some, low_ref v hv (sizeN v : Int) k (by omega), Option.bind_some, lowZ_nat v (sizeN v) hv hl.2, rones_f hlow k (by omega), Option.bind_some]
theorem rencode_flag {v : Nat} (hv : v < 18446744073709551616) (k : Nat) (hk : 600 ≤ k) : ∃ r, cleatref02_Encode.f k (v : Int) = some r ∧ (r.2.2.2 = 0 ↔ Mask v) := by
 by_cases hm : Mask v
 ·obtain ⟨s, o, t, h⟩ := hm
  have hl := h.sz.le
  have tl := h.tl
  refine ⟨((nN s : Int), (t : Int), ((o - 1 + exN s : Nat) : Int), 0), ?_, fun _ => ⟨s, o, t, h⟩, fun _ => rfl⟩
  rw [renc_head hv k (by omega), run_size h, run_ones h]
  exact renc_hit hv h t k 0 (by omega) (by omega)
 ·have hs := sizeN_sz v
  have hl := hs.le
  refine ⟨(0, 0, 0, 3), ?_, fun e => absurd e (by simp), fun e => absurd e hm⟩
  rw [renc_head hv k (by omega)]
  obtain ⟨k, rfl⟩ : ∃ m, k = m + 1 := ⟨k - 1, by omega⟩
  generalize ho : cnt (v % 2 ^ sizeN v) 64 = o
  by_cases h0 : o = 0
  ·simp only [cleatref02_Encode.l0]
   rw [if_pos (by omega), if_neg (by omega)]
   exact renc_end k (by omega) _ _ _ _
  ·by_cases h1 : o < sizeN v
   ·exact renc_miss hv hs (sizeN_per v) (by omega) h1 hm (sizeN v) (k + 1) 0 (by omega) (by omega)
   ·simp only [cleatref02_Encode.l0]
    rw [if_pos (by omega), if_pos (by omega), decide_eq_false (by omega)]
    exact renc_end k (by omega) _ _ _ _

open Classical in
theorem ris_f {v : Nat} (hv : v < 18446744073709551616) (k : Nat) (hk : 600 ≤ k) : cleatref02_Is.f k (v : Int) = some (decide (Mask v)) := by
 obtain ⟨r, h2, h3⟩ := rencode_flag hv k hk
 unfold cleatref02_Is.f
 rw [h2, Option.bind_some]
 congr 1
 rw [Bool.eq_iff_iff, beq_iff_eq, decide_eq_true_iff]
 exact h3
end Go.Proofs.YtgonbeifaioheaaDoor.M
