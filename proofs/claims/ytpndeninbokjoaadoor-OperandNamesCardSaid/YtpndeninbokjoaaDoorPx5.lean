-- printed by wip/tools/myprint.py out of the translation. Not trusted: Lean checks it.
import Derived.Test.YtpndeninbokjoaaDoorPx0
import Derived.Test.YtpndeninbokjoaaDoorPx4
namespace Go.Proofs.YtpndeninbokjoaaDoor.P
open Go.RowKit Go.Proofs.YtpndeninbokjoaaDoorW.PrintWords Go.Proofs.YtpndeninbokjoaaDoorW.PrintLast Go.Proofs.YtpndeninbokjoaaDoorW.PrintMore
attribute [local go_sem] max2_int min2_int max_two min_two max_three min_three max_four min_four   -- for this text's walks alone
set_option linter.unusedVariables false
set_option linter.unusedSimpArgs false

/-! ### num_Value: function 20 -/
/-! ### math/bits.Mul64 by a small number -/
theorem mul64_f (v b : Nat) (hv : v < 18446744073709551616) (hb : b ≤ 16) : bits_Mul64.f (v : Int) (b : Int) = some (((v * b / 18446744073709551616 : Nat) : Int), ((v * b % 18446744073709551616 : Nat) : Int)) := by
  have e1 : Go.bits .and .u64 (v : Int) 4294967295 = ((v % 4294967296 : Nat) : Int) := by
    have := (K.b64 v 4294967295 hv (by decide)).1
    rw [Nat.and_two_pow_sub_one_eq_mod v 32] at this
    exact this
  have e2 : Go.bits .and .u64 (b : Int) 4294967295 = (b : Int) := by
    have := (K.b64 b 4294967295 (by omega) (by decide)).1
    rw [Nat.and_two_pow_sub_one_eq_mod b 32, Nat.mod_eq_of_lt (by omega)] at this
    exact this
  have e3 : (b : Int) / 4294967296 = 0 := by omega
  have hz : ∀ z : Int, 0 ≤ z → z < 18446744073709551616 → IntKind.u64.wrap z = z := fun z h0 h1 => K.wu64_in ⟨h0, h1⟩
  unfold bits_Mul64.f
  rw [e1, e2, e3]
  obtain ⟨x0, hx0⟩ : ∃ x0 : Nat, v % 4294967296 = x0 := ⟨_, rfl⟩
  obtain ⟨x1, hx1⟩ : ∃ x1 : Nat, v / 4294967296 = x1 := ⟨_, rfl⟩
  have hx1' : (v : Int) / 4294967296 = (x1 : Int) := by omega
  have hxv : v = x1 * 4294967296 + x0 := by omega
  have l0 : x0 < 4294967296 := by omega
  have l1 : x1 < 4294967296 := by omega
  have m0 : x0 * b ≤ 4294967295 * 16 := Nat.mul_le_mul (by omega) hb
  have m1 : x1 * b ≤ 4294967295 * 16 := Nat.mul_le_mul (by omega) hb
  have hvb : v * b = x1 * b * 4294967296 + x0 * b := by rw [hxv, Nat.add_mul, Nat.mul_right_comm]
  rw [hx0, hx1', hvb]
  have c0 : (x0 : Int) * (b : Int) = ((x0 * b : Nat) : Int) := by simp
  have c1 : (x1 : Int) * (b : Int) = ((x1 * b : Nat) : Int) := by simp
  have c2 : (v : Int) * (b : Int) = ((x1 * b * 4294967296 + x0 * b : Nat) : Int) := by rw [← hvb]; simp
  rw [c0, c1, c2]
  generalize x0 * b = p at *
  generalize x1 * b = q at *
  have z1 : (x1 : Int) * 0 = 0 := by omega
  have z2 : (x0 : Int) * 0 = 0 := by omega
  rw [z1, z2, hz 0 (by omega) (by omega), hz (p : Int) (by omega) (by omega), hz (q : Int) (by omega) (by omega)]
  obtain ⟨t, ht⟩ : ∃ t : Nat, q + p / 4294967296 = t := ⟨_, rfl⟩
  have ht' : (q : Int) + (p : Int) / 4294967296 = (t : Int) := by omega
  rw [ht', hz (t : Int) (by omega) (by omega)]
  have e4 : Go.bits .and .u64 (t : Int) 4294967295 = ((t % 4294967296 : Nat) : Int) := by
    have := (K.b64 t 4294967295 (by omega) (by decide)).1
    rw [Nat.and_two_pow_sub_one_eq_mod t 32] at this
    exact this
  rw [e4, K.wu64]
  simp only [K.wu64]
  congr 2
  omega
def valL (base : Nat) : List UInt8 → Nat → Option Nat
  | [], v => some v
  | c :: r, v => if v * base + (dgI c.toNat).toNat < 18446744073709551616 then valL base r (v * base + (dgI c.toNat).toNat) else none
def hexS (s : ByteArray) : Bool := decide (2 ≤ s.size) && ((s.extract 0 2).toList == [48, 120])
def baseS (s : ByteArray) : Nat := if hexS s = true then 16 else 10
def restS (s : ByteArray) : ByteArray := if hexS s = true then s.extract 2 s.size else s
def num_Value.f (a0 : ByteArray) : Option (Int × Int) := some (if okB (restS a0) (baseS a0) = true then (match valL (baseS a0) (restS a0).data.toList 0 with | some v => ((v : Int), 0) | none => (0, 4)) else (0, 3))
theorem dgI_lt {c : UInt8} {b : Int} (h : dgB b c = true) : 0 ≤ dgI c.toNat ∧ dgI c.toNat < b ∧ dgP b c.toNat = (dgI c.toNat, true) ∧ c.toNat < 128 := by
  unfold dgB at h
  by_cases h1 : dgI c.toNat = -1
  · unfold dgP at h
    rw [if_pos h1] at h
    cases h
  · have h2 : dgP b c.toNat = (dgI c.toNat, decide (dgI c.toNat < b)) := by unfold dgP; rw [if_neg h1]
    rw [h2] at h
    refine ⟨?_, of_decide_eq_true h, by rw [h2]; rw [show decide (dgI c.toNat < b) = true from h], ?_⟩
    · unfold dgI at h1 ⊢
      split
      · omega
      · split
        · omega
        · split
          · omega
          · rename_i g1 g2 g3
            rw [if_neg g1, if_neg g2, if_neg g3] at h1
            exact absurd rfl h1
    · refine Classical.byContradiction fun e => h1 (dgI_hi _ (by omega))
theorem run_add64_call (x y : Nat) (w : World) : (callFunc 38 #[.int .u64 (x : Int), .int .u64 (y : Int), .int .u64 0]).run Tryd.prog w =
    .ok (.value (.tuple #[.int .u64 (((x + y) % 18446744073709551616 : Nat) : Int), .int .u64 (((x + y) / 18446744073709551616 : Nat) : Int)])) w := by
  rw [run_callFunc_extern Tryd.func38 (by kernel_rfl) (by kernel_rfl) (by kernel_rfl) (e := add64Entry) (by kernel_rfl), run_add64 x y 0 (by omega) (by omega) (by omega) (by omega)]
  simp only [Result.andThen]
  congr 5 <;> omega
set_option maxHeartbeats 4000000 in
set_option maxRecDepth 100000 in
theorem num_Value.calls (a0 : ByteArray) (r1 r2 : Int) (w : World) (h : num_Value.f a0 = some (r1, r2)) :
    Calls Tryd.prog 20 #[.string a0] w fun e w' => e = .returned (.tuple #[.int .u64 r1, .int .i64 r2]) ∧ Below w.heap.size w w' := by
  unfold num_Value.f at h
  have HV := Aside0.mk (Option.some.inj h)
  clear h
  go_enter Tryd.func20, Tryd.ntmps20
  go_wp2
  refine wp_scope_jumps 0 (fun a' w' => Below w.heap.size w w' ∧ r1 = 0 ∧ r2 = 4 ∧ ∃ u0 u1 u2 u3 u4 u5 u6 u7 u8 u9 u10 u11 u12 u13 u14 u15 u16 u17 u18 u19 u20 u21 u22 u23 u24 u25 u26 u27 u28 u29 u30 u31 u32 u33 u34 u35 u36 u37 u38 u39 u40 u41 u42 u43 u44 u45 u46 u47 u48 u49 u50 u51 u52 u53 u54 u55 u56 u57 u58 : Value, a' = { tmps := #[u0, u1, u2, u3, u4, u5, u6, u7, u8, u9, u10, u11, u12, u13, u14, u15, u16, u17, u18, u19, u20, u21, u22, u23, u24, u25, u26, u27, u28, u29, u30, u31, u32, u33, u34, u35, u36, u37, u38, u39, u40, u41, u42, u43, u44, u45, u46, u47, u48, u49, u50, u51, u52, u53, u54, u55, u56, u57, u58], defers := [] }) (fun _ _ => 0) rfl ?_ ?_
  rotate_left
  · rintro a' w' ⟨HB, rfl, rfl, u0, u1, u2, u3, u4, u5, u6, u7, u8, u9, u10, u11, u12, u13, u14, u15, u16, u17, u18, u19, u20, u21, u22, u23, u24, u25, u26, u27, u28, u29, u30, u31, u32, u33, u34, u35, u36, u37, u38, u39, u40, u41, u42, u43, u44, u45, u46, u47, u48, u49, u50, u51, u52, u53, u54, u55, u56, u57, u58, rfl⟩
    go_wp2
    simp only [Exit.jump]
    go_ret2
    exact ⟨rfl, HB⟩
  · have key : (hexS a0 = true ∧ decide ((2 : Int) ≤ (a0.size : Int)) = true ∧ ((a0.extract 0 2).toList == [48, 120]) = true) ∨ (hexS a0 = false ∧ decide ((2 : Int) ≤ (a0.size : Int)) = true ∧ ((a0.extract 0 2).toList == [48, 120]) = false) ∨ (hexS a0 = false ∧ decide ((2 : Int) ≤ (a0.size : Int)) = false) := by
      unfold hexS
      by_cases h2 : 2 ≤ a0.size
      · rw [decide_eq_true h2, decide_eq_true (by omega : (2 : Int) ≤ (a0.size : Int)), Bool.true_and]
        cases ((a0.extract 0 2).toList == [48, 120])
        · exact Or.inr (Or.inl ⟨rfl, rfl, rfl⟩)
        · exact Or.inl ⟨rfl, rfl, rfl⟩
      · rw [decide_eq_false h2, decide_eq_false (by omega : ¬ (2 : Int) ≤ (a0.size : Int)), Bool.false_and]
        exact Or.inr (Or.inr ⟨rfl, rfl⟩)
    rcases key with ⟨hx, c1, c2⟩ | ⟨hx, c1, c2⟩ | ⟨hx, c1⟩
    · have hS : (2 : Int) ≤ (a0.size : Int) := of_decide_eq_true c1
      unfold restS baseS at HV
      rw [if_pos hx, if_pos hx] at HV
      clear hx
      go_wp2_with (fail)
      clear c1 c2 hS
      generalize a0.extract 2 a0.size = t at *
      have HB : Aside0 ((16 : Int) = 10 ∨ (16 : Int) = 16) := ⟨by omega⟩
      cases hok : okB t (16 : Int)
      · have HD := Aside0.mk (show num_digits.f t 16 = some false by unfold num_digits.f; rw [if_pos (by omega)]; exact congrArg some hok)
        have HV2 : Aside0 (r1 = 0 ∧ r2 = 3) := ⟨by
          have := HV.out
          rw [show okB t ((16 : Nat) : Int) = false from hok, if_neg (by decide)] at this
          cases this
          exact ⟨rfl, rfl⟩⟩
        clear hok HV
        refine (num_digits.calls t 16 false _ HD.out).mono ?_
        rintro e w1 ⟨rfl, hb_⟩
        have HBel := Aside0.mk hb_
        obtain ⟨rfl, rfl⟩ := HV2.out
        clear hb_ HV2
        go_wp2
        simp only [Exit.jump]
        go_ret2
        exact ⟨rfl, HBel.out⟩
      · have HD := Aside0.mk (show num_digits.f t 16 = some true by unfold num_digits.f; rw [if_pos (by omega)]; exact congrArg some hok)
        have HV2 : Aside0 ((match valL 16 t.data.toList 0 with | some v => (((v : Nat) : Int), (0 : Int)) | none => (0, 4)) = (r1, r2)) := ⟨by
          have := HV.out
          rw [show okB t ((16 : Nat) : Int) = true from hok, if_pos rfl] at this
          exact this⟩
        have HALL : Aside0 (∀ (k : Nat) (hk : k < t.size), dgB 16 (t[k]'hk) = true) := ⟨fun k hk => by
          have h1 := hok
          unfold okB at h1
          rw [Bool.and_eq_true] at h1
          exact List.all_eq_true.1 h1.1 _ (List.getElem_mem (by simpa using hk))⟩
        clear hok HV
        refine (num_digits.calls t 16 true _ HD.out).mono ?_
        rintro e w1 ⟨rfl, hb_⟩
        have HBel := Aside0.mk hb_
        clear hb_
        go_wp2
        go_loopw [4] (fun v4 wr => ∃ pos v : Nat, v4 = .int .u64 (v : Int) ∧ pos ≤ t.size ∧ v < 18446744073709551616 ∧ Aside0 (wr.heap[w1.heap.size]? = some (.stringIter t pos)) ∧ Aside0 (Below w.heap.size w wr) ∧ Aside0 (valL 16 (t.data.toList.drop pos) v = valL 16 t.data.toList 0)) (fun _ wr => t.size - wr.iterPos w1.heap.size)
        case atStart => exact ⟨0, 0, rfl, Nat.zero_le _, by omega, ⟨World.iter_heap w1 t 0⟩, ⟨below_alloc HBel.out _⟩, ⟨by simp⟩⟩
        case round =>
          obtain ⟨pos, v, rfl, hle, hv, HI, HBw, HVL⟩ := hrel
          by_cases hp : pos < t.size
          · obtain ⟨g0, g1, g2, g3⟩ := dgI_lt (HALL.out pos hp)
            have hnx : ∀ ty, (Instr.next (.pointer (some ⟨w1.heap.size, 0, none⟩)) true ty).run Tryd.prog wr = _ := fun ty => Go.Lib.run_next_ascii_at wr w1.heap.size t pos ty HI.out hp g3
            have HI2 := Aside0.mk (Go.Lib.iterAt_heap wr w1.heap.size t pos (pos + 1) HI.out)
            have HB2 := Aside0.mk (Go.Lib.below_iterAt HBw.out HBel.out.size t (pos + 1))
            have HIP : Aside0 (wr.iterPos w1.heap.size = pos) := ⟨by unfold World.iterPos; rw [HI.out]⟩
            have HDG := Aside0.mk (digit_f ((t[pos]'hp).toNat : Int) 16 (by omega) (by omega))
            rw [g2] at HDG
            obtain ⟨d, hd⟩ : ∃ d : Nat, dgI ((t[pos]'hp).toNat : Int) = (d : Int) := ⟨_, (Int.toNat_of_nonneg g0).symm⟩
            have hst : valL 16 (t.data.toList.drop pos) v = if v * 16 + d < 18446744073709551616 then valL 16 (t.data.toList.drop (pos + 1)) (v * 16 + d) else none := by
              have e : t.data.toList.drop pos = (t[pos]'hp) :: t.data.toList.drop (pos + 1) := List.drop_eq_getElem_cons (by simpa using hp)
              rw [e, valL, hd]
              rfl
            rw [hd] at HDG
            have HM := Aside0.mk (mul64_f v 16 hv (by decide))
            have hP := Aside0.mk hp
            have hd16 : d < 16 := by omega
            have hle2 : pos + 1 ≤ t.size := hp
            have HVS := Aside0.mk (hst.symm.trans HVL.out)
            clear HI HBw HVL hst g0 g1 g2 g3 hd hP
            generalize ((t[pos]'hp).toNat : Int) = c at *
            clear hp hle
            generalize hwx : wr.iterAt w1.heap.size t (pos + 1) = wx at *
            clear hwx
            obtain ⟨m, hm⟩ : ∃ m, v * 16 = m := ⟨_, rfl⟩
            rw [hm] at HM HVS
            by_cases hlt : m + d < 18446744073709551616
            · rw [if_pos hlt] at HVS
              rw [show m / 18446744073709551616 = 0 by omega, show m % 18446744073709551616 = m by omega] at HM
              have hadd : ∀ W, (callFunc 38 #[.int .u64 (m : Int), .int .u64 (d : Int), .int .u64 0]).run Tryd.prog W = .ok (.value (.tuple #[.int .u64 ((m + d : Nat) : Int), .int .u64 0])) W := fun W => by
                rw [run_add64_call m d W, show (m + d) % 18446744073709551616 = m + d by omega, show (m + d) / 18446744073709551616 = 0 by omega]
                rfl
              have HLT := Aside0.mk hlt
              clear hm hlt hd16
              generalize m + d = n at *
              go_wp2_with (fail)
              refine (num_digit.calls 3 c 16 d true _ HDG.out).mono ?_
              rintro e wa ⟨rfl, hx_⟩
              have HI3 := Aside0.mk (blk_below HI2.out hx_.below)
              have HB3 := Aside0.mk (HB2.out.trans (hx_.below.mono HB2.out.size))
              clear hx_ HI2 HB2
              go_wp2_with (fail)
              refine (bits_Mul64.calls v 16 0 m _ HM.out).mono ?_
              rintro e wb ⟨rfl, hx_⟩
              have HI4 := Aside0.mk (blk_below HI3.out hx_.below)
              have HB4 := Aside0.mk (HB3.out.trans (hx_.below.mono HB3.out.size))
              clear hx_ HI3 HB3
              go_wp2
              refine ⟨⟨pos + 1, n, rfl, hle2, HLT.out, HI4, HB4, HVS⟩, ?_⟩
              rw [HIP.out]
              unfold World.iterPos
              rw [HI4.out]
              show t.size - (pos + 1) < t.size - pos
              omega
            · rw [if_neg hlt] at HVS
              have HJ : Aside0 (r1 = 0 ∧ r2 = 4) := ⟨by
                have := HV2.out
                rw [← HVS.out] at this
                cases this
                exact ⟨rfl, rfl⟩⟩
              have hadd := run_add64_call (m % 18446744073709551616) d
              have hc : ((((m / 18446744073709551616 : Nat) : Int) != 0) = true) ∨ ((((m / 18446744073709551616 : Nat) : Int) != 0) = false ∧ (((((m % 18446744073709551616 + d) / 18446744073709551616 : Nat)) : Int) != 0) = true) := by
                by_cases hz : m / 18446744073709551616 = 0
                · refine Or.inr ⟨by rw [hz]; rfl, bne_iff_ne.2 (by omega)⟩
                · exact Or.inl (bne_iff_ne.2 (by omega))
              clear hm hlt hd16 HVS
              generalize (m % 18446744073709551616 + d) / 18446744073709551616 = cy at *
              generalize (m % 18446744073709551616 + d) % 18446744073709551616 = sm at *
              generalize m / 18446744073709551616 = hi at *
              generalize m % 18446744073709551616 = lo at *
              obtain ⟨rfl, rfl⟩ := HJ.out
              clear HJ HV2
              rcases hc with hc | ⟨hc, hc2⟩
              all_goals
                go_wp2_with (fail)
                refine (num_digit.calls 3 c 16 d true _ HDG.out).mono ?_
                rintro e wa ⟨rfl, hx_⟩
                have HB3 := Aside0.mk (HB2.out.trans (hx_.below.mono HB2.out.size))
                clear hx_ HI2 HB2
                go_wp2_with (fail)
                refine (bits_Mul64.calls v 16 hi lo _ HM.out).mono ?_
                rintro e wb ⟨rfl, hx_⟩
                have HB4 := Aside0.mk (HB3.out.trans (hx_.below.mono HB3.out.size))
                clear hx_ HB3
                go_wp2
                go_step3
                exact And.intro rfl (And.intro HB4.out (And.intro rfl (And.intro rfl ⟨_, _, _, _, _, _, _, _, _, _, _, _, _, _, _, _, _, _, _, _, _, _, _, _, _, _, _, _, _, _, _, _, _, _, _, _, _, _, _, _, _, _, _, _, _, _, _, _, _, _, _, _, _, _, _, _, _, _, _, rfl⟩)))
          · have hnx : ∀ ty, (Instr.next (.pointer (some ⟨w1.heap.size, 0, none⟩)) true ty).run Tryd.prog wr = _ := fun ty => Go.Lib.run_next_end_at wr w1.heap.size t pos ty HI.out hp
            have HR : Aside0 (r1 = (v : Int) ∧ r2 = 0) := ⟨by
              have h1 := HVL.out
              rw [List.drop_eq_nil_of_le (by simp; omega), valL] at h1
              have := HV2.out
              rw [← h1] at this
              cases this
              exact ⟨rfl, rfl⟩⟩
            clear HI HVL hle hv hp HV2
            obtain ⟨rfl, rfl⟩ := HR.out
            clear HR
            go_wp2
            simp only [Exit.jump]
            go_ret2
            exact ⟨rfl, HBw.out⟩
    · have hS : (2 : Int) ≤ (a0.size : Int) := of_decide_eq_true c1
      unfold restS baseS at HV
      rw [hx, if_neg (show ¬ (false = true) by decide), if_neg (show ¬ (false = true) by decide)] at HV
      clear hx
      go_wp2_with (fail)
      clear c1 c2 hS
      have HB : Aside0 ((10 : Int) = 10 ∨ (10 : Int) = 10) := ⟨by omega⟩
      cases hok : okB a0 (10 : Int)
      · have HD := Aside0.mk (show num_digits.f a0 10 = some false by unfold num_digits.f; rw [if_pos (by omega)]; exact congrArg some hok)
        have HV2 : Aside0 (r1 = 0 ∧ r2 = 3) := ⟨by
          have := HV.out
          rw [show okB a0 ((10 : Nat) : Int) = false from hok, if_neg (by decide)] at this
          cases this
          exact ⟨rfl, rfl⟩⟩
        clear hok HV
        refine (num_digits.calls a0 10 false _ HD.out).mono ?_
        rintro e w1 ⟨rfl, hb_⟩
        have HBel := Aside0.mk hb_
        obtain ⟨rfl, rfl⟩ := HV2.out
        clear hb_ HV2
        go_wp2
        simp only [Exit.jump]
        go_ret2
        exact ⟨rfl, HBel.out⟩
      · have HD := Aside0.mk (show num_digits.f a0 10 = some true by unfold num_digits.f; rw [if_pos (by omega)]; exact congrArg some hok)
        have HV2 : Aside0 ((match valL 10 a0.data.toList 0 with | some v => (((v : Nat) : Int), (0 : Int)) | none => (0, 4)) = (r1, r2)) := ⟨by
          have := HV.out
          rw [show okB a0 ((10 : Nat) : Int) = true from hok, if_pos rfl] at this
          exact this⟩
        have HALL : Aside0 (∀ (k : Nat) (hk : k < a0.size), dgB 10 (a0[k]'hk) = true) := ⟨fun k hk => by
          have h1 := hok
          unfold okB at h1
          rw [Bool.and_eq_true] at h1
          exact List.all_eq_true.1 h1.1 _ (List.getElem_mem (by simpa using hk))⟩
        clear hok HV
        refine (num_digits.calls a0 10 true _ HD.out).mono ?_
        rintro e w1 ⟨rfl, hb_⟩
        have HBel := Aside0.mk hb_
        clear hb_
        go_wp2
        go_loopw [4] (fun v4 wr => ∃ pos v : Nat, v4 = .int .u64 (v : Int) ∧ pos ≤ a0.size ∧ v < 18446744073709551616 ∧ Aside0 (wr.heap[w1.heap.size]? = some (.stringIter a0 pos)) ∧ Aside0 (Below w.heap.size w wr) ∧ Aside0 (valL 10 (a0.data.toList.drop pos) v = valL 10 a0.data.toList 0)) (fun _ wr => a0.size - wr.iterPos w1.heap.size)
        case atStart => exact ⟨0, 0, rfl, Nat.zero_le _, by omega, ⟨World.iter_heap w1 a0 0⟩, ⟨below_alloc HBel.out _⟩, ⟨by simp⟩⟩
        case round =>
          obtain ⟨pos, v, rfl, hle, hv, HI, HBw, HVL⟩ := hrel
          by_cases hp : pos < a0.size
          · obtain ⟨g0, g1, g2, g3⟩ := dgI_lt (HALL.out pos hp)
            have hnx : ∀ ty, (Instr.next (.pointer (some ⟨w1.heap.size, 0, none⟩)) true ty).run Tryd.prog wr = _ := fun ty => Go.Lib.run_next_ascii_at wr w1.heap.size a0 pos ty HI.out hp g3
            have HI2 := Aside0.mk (Go.Lib.iterAt_heap wr w1.heap.size a0 pos (pos + 1) HI.out)
            have HB2 := Aside0.mk (Go.Lib.below_iterAt HBw.out HBel.out.size a0 (pos + 1))
            have HIP : Aside0 (wr.iterPos w1.heap.size = pos) := ⟨by unfold World.iterPos; rw [HI.out]⟩
            have HDG := Aside0.mk (digit_f ((a0[pos]'hp).toNat : Int) 10 (by omega) (by omega))
            rw [g2] at HDG
            obtain ⟨d, hd⟩ : ∃ d : Nat, dgI ((a0[pos]'hp).toNat : Int) = (d : Int) := ⟨_, (Int.toNat_of_nonneg g0).symm⟩
            have hst : valL 10 (a0.data.toList.drop pos) v = if v * 10 + d < 18446744073709551616 then valL 10 (a0.data.toList.drop (pos + 1)) (v * 10 + d) else none := by
              have e : a0.data.toList.drop pos = (a0[pos]'hp) :: a0.data.toList.drop (pos + 1) := List.drop_eq_getElem_cons (by simpa using hp)
              rw [e, valL, hd]
              rfl
            rw [hd] at HDG
            have HM := Aside0.mk (mul64_f v 10 hv (by decide))
            have hP := Aside0.mk hp
            have hd16 : d < 10 := by omega
            have hle2 : pos + 1 ≤ a0.size := hp
            have HVS := Aside0.mk (hst.symm.trans HVL.out)
            clear HI HBw HVL hst g0 g1 g2 g3 hd hP
            generalize ((a0[pos]'hp).toNat : Int) = c at *
            clear hp hle
            generalize hwx : wr.iterAt w1.heap.size a0 (pos + 1) = wx at *
            clear hwx
            obtain ⟨m, hm⟩ : ∃ m, v * 10 = m := ⟨_, rfl⟩
            rw [hm] at HM HVS
            by_cases hlt : m + d < 18446744073709551616
            · rw [if_pos hlt] at HVS
              rw [show m / 18446744073709551616 = 0 by omega, show m % 18446744073709551616 = m by omega] at HM
              have hadd : ∀ W, (callFunc 38 #[.int .u64 (m : Int), .int .u64 (d : Int), .int .u64 0]).run Tryd.prog W = .ok (.value (.tuple #[.int .u64 ((m + d : Nat) : Int), .int .u64 0])) W := fun W => by
                rw [run_add64_call m d W, show (m + d) % 18446744073709551616 = m + d by omega, show (m + d) / 18446744073709551616 = 0 by omega]
                rfl
              have HLT := Aside0.mk hlt
              clear hm hlt hd16
              generalize m + d = n at *
              go_wp2_with (fail)
              refine (num_digit.calls 3 c 10 d true _ HDG.out).mono ?_
              rintro e wa ⟨rfl, hx_⟩
              have HI3 := Aside0.mk (blk_below HI2.out hx_.below)
              have HB3 := Aside0.mk (HB2.out.trans (hx_.below.mono HB2.out.size))
              clear hx_ HI2 HB2
              go_wp2_with (fail)
              refine (bits_Mul64.calls v 10 0 m _ HM.out).mono ?_
              rintro e wb ⟨rfl, hx_⟩
              have HI4 := Aside0.mk (blk_below HI3.out hx_.below)
              have HB4 := Aside0.mk (HB3.out.trans (hx_.below.mono HB3.out.size))
              clear hx_ HI3 HB3
              go_wp2
              refine ⟨⟨pos + 1, n, rfl, hle2, HLT.out, HI4, HB4, HVS⟩, ?_⟩
              rw [HIP.out]
              unfold World.iterPos
              rw [HI4.out]
              show a0.size - (pos + 1) < a0.size - pos
              omega
            · rw [if_neg hlt] at HVS
              have HJ : Aside0 (r1 = 0 ∧ r2 = 4) := ⟨by
                have := HV2.out
                rw [← HVS.out] at this
                cases this
                exact ⟨rfl, rfl⟩⟩
              have hadd := run_add64_call (m % 18446744073709551616) d
              have hc : ((((m / 18446744073709551616 : Nat) : Int) != 0) = true) ∨ ((((m / 18446744073709551616 : Nat) : Int) != 0) = false ∧ (((((m % 18446744073709551616 + d) / 18446744073709551616 : Nat)) : Int) != 0) = true) := by
                by_cases hz : m / 18446744073709551616 = 0
                · refine Or.inr ⟨by rw [hz]; rfl, bne_iff_ne.2 (by omega)⟩
                · exact Or.inl (bne_iff_ne.2 (by omega))
              clear hm hlt hd16 HVS
              generalize (m % 18446744073709551616 + d) / 18446744073709551616 = cy at *
              generalize (m % 18446744073709551616 + d) % 18446744073709551616 = sm at *
              generalize m / 18446744073709551616 = hi at *
              generalize m % 18446744073709551616 = lo at *
              obtain ⟨rfl, rfl⟩ := HJ.out
              clear HJ HV2
              rcases hc with hc | ⟨hc, hc2⟩
              all_goals
                go_wp2_with (fail)
                refine (num_digit.calls 3 c 10 d true _ HDG.out).mono ?_
                rintro e wa ⟨rfl, hx_⟩
                have HB3 := Aside0.mk (HB2.out.trans (hx_.below.mono HB2.out.size))
                clear hx_ HI2 HB2
                go_wp2_with (fail)
                refine (bits_Mul64.calls v 10 hi lo _ HM.out).mono ?_
                rintro e wb ⟨rfl, hx_⟩
                have HB4 := Aside0.mk (HB3.out.trans (hx_.below.mono HB3.out.size))
                clear hx_ HB3
                go_wp2
                go_step3
                exact And.intro rfl (And.intro HB4.out (And.intro rfl (And.intro rfl ⟨_, _, _, _, _, _, _, _, _, _, _, _, _, _, _, _, _, _, _, _, _, _, _, _, _, _, _, _, _, _, _, _, _, _, _, _, _, _, _, _, _, _, _, _, _, _, _, _, _, _, _, _, _, _, _, _, _, _, _, rfl⟩)))
          · have hnx : ∀ ty, (Instr.next (.pointer (some ⟨w1.heap.size, 0, none⟩)) true ty).run Tryd.prog wr = _ := fun ty => Go.Lib.run_next_end_at wr w1.heap.size a0 pos ty HI.out hp
            have HR : Aside0 (r1 = (v : Int) ∧ r2 = 0) := ⟨by
              have h1 := HVL.out
              rw [List.drop_eq_nil_of_le (by simp; omega), valL] at h1
              have := HV2.out
              rw [← h1] at this
              cases this
              exact ⟨rfl, rfl⟩⟩
            clear HI HVL hle hv hp HV2
            obtain ⟨rfl, rfl⟩ := HR.out
            clear HR
            go_wp2
            simp only [Exit.jump]
            go_ret2
            exact ⟨rfl, HBw.out⟩
    · unfold restS baseS at HV
      rw [hx, if_neg (show ¬ (false = true) by decide), if_neg (show ¬ (false = true) by decide)] at HV
      clear hx
      go_wp2_with (fail)
      clear c1
      have HB : Aside0 ((10 : Int) = 10 ∨ (10 : Int) = 10) := ⟨by omega⟩
      cases hok : okB a0 (10 : Int)
      · have HD := Aside0.mk (show num_digits.f a0 10 = some false by unfold num_digits.f; rw [if_pos (by omega)]; exact congrArg some hok)
        have HV2 : Aside0 (r1 = 0 ∧ r2 = 3) := ⟨by
          have := HV.out
          rw [show okB a0 ((10 : Nat) : Int) = false from hok, if_neg (by decide)] at this
          cases this
          exact ⟨rfl, rfl⟩⟩
        clear hok HV
        refine (num_digits.calls a0 10 false _ HD.out).mono ?_
        rintro e w1 ⟨rfl, hb_⟩
        have HBel := Aside0.mk hb_
        obtain ⟨rfl, rfl⟩ := HV2.out
        clear hb_ HV2
        go_wp2
        simp only [Exit.jump]
        go_ret2
        exact ⟨rfl, HBel.out⟩
      · have HD := Aside0.mk (show num_digits.f a0 10 = some true by unfold num_digits.f; rw [if_pos (by omega)]; exact congrArg some hok)
        have HV2 : Aside0 ((match valL 10 a0.data.toList 0 with | some v => (((v : Nat) : Int), (0 : Int)) | none => (0, 4)) = (r1, r2)) := ⟨by
          have := HV.out
          rw [show okB a0 ((10 : Nat) : Int) = true from hok, if_pos rfl] at this
          exact this⟩
        have HALL : Aside0 (∀ (k : Nat) (hk : k < a0.size), dgB 10 (a0[k]'hk) = true) := ⟨fun k hk => by
          have h1 := hok
          unfold okB at h1
          rw [Bool.and_eq_true] at h1
          exact List.all_eq_true.1 h1.1 _ (List.getElem_mem (by simpa using hk))⟩
        clear hok HV
        refine (num_digits.calls a0 10 true _ HD.out).mono ?_
        rintro e w1 ⟨rfl, hb_⟩
        have HBel := Aside0.mk hb_
        clear hb_
        go_wp2
        go_loopw [4] (fun v4 wr => ∃ pos v : Nat, v4 = .int .u64 (v : Int) ∧ pos ≤ a0.size ∧ v < 18446744073709551616 ∧ Aside0 (wr.heap[w1.heap.size]? = some (.stringIter a0 pos)) ∧ Aside0 (Below w.heap.size w wr) ∧ Aside0 (valL 10 (a0.data.toList.drop pos) v = valL 10 a0.data.toList 0)) (fun _ wr => a0.size - wr.iterPos w1.heap.size)
        case atStart => exact ⟨0, 0, rfl, Nat.zero_le _, by omega, ⟨World.iter_heap w1 a0 0⟩, ⟨below_alloc HBel.out _⟩, ⟨by simp⟩⟩
        case round =>
          obtain ⟨pos, v, rfl, hle, hv, HI, HBw, HVL⟩ := hrel
          by_cases hp : pos < a0.size
          · obtain ⟨g0, g1, g2, g3⟩ := dgI_lt (HALL.out pos hp)
            have hnx : ∀ ty, (Instr.next (.pointer (some ⟨w1.heap.size, 0, none⟩)) true ty).run Tryd.prog wr = _ := fun ty => Go.Lib.run_next_ascii_at wr w1.heap.size a0 pos ty HI.out hp g3
            have HI2 := Aside0.mk (Go.Lib.iterAt_heap wr w1.heap.size a0 pos (pos + 1) HI.out)
            have HB2 := Aside0.mk (Go.Lib.below_iterAt HBw.out HBel.out.size a0 (pos + 1))
            have HIP : Aside0 (wr.iterPos w1.heap.size = pos) := ⟨by unfold World.iterPos; rw [HI.out]⟩
            have HDG := Aside0.mk (digit_f ((a0[pos]'hp).toNat : Int) 10 (by omega) (by omega))
            rw [g2] at HDG
            obtain ⟨d, hd⟩ : ∃ d : Nat, dgI ((a0[pos]'hp).toNat : Int) = (d : Int) := ⟨_, (Int.toNat_of_nonneg g0).symm⟩
            have hst : valL 10 (a0.data.toList.drop pos) v = if v * 10 + d < 18446744073709551616 then valL 10 (a0.data.toList.drop (pos + 1)) (v * 10 + d) else none := by
              have e : a0.data.toList.drop pos = (a0[pos]'hp) :: a0.data.toList.drop (pos + 1) := List.drop_eq_getElem_cons (by simpa using hp)
              rw [e, valL, hd]
              rfl
            rw [hd] at HDG
            have HM := Aside0.mk (mul64_f v 10 hv (by decide))
            have hP := Aside0.mk hp
            have hd16 : d < 10 := by omega
            have hle2 : pos + 1 ≤ a0.size := hp
            have HVS := Aside0.mk (hst.symm.trans HVL.out)
            clear HI HBw HVL hst g0 g1 g2 g3 hd hP
            generalize ((a0[pos]'hp).toNat : Int) = c at *
            clear hp hle
            generalize hwx : wr.iterAt w1.heap.size a0 (pos + 1) = wx at *
            clear hwx
            obtain ⟨m, hm⟩ : ∃ m, v * 10 = m := ⟨_, rfl⟩
            rw [hm] at HM HVS
            by_cases hlt : m + d < 18446744073709551616
            · rw [if_pos hlt] at HVS
              rw [show m / 18446744073709551616 = 0 by omega, show m % 18446744073709551616 = m by omega] at HM
              have hadd : ∀ W, (callFunc 38 #[.int .u64 (m : Int), .int .u64 (d : Int), .int .u64 0]).run Tryd.prog W = .ok (.value (.tuple #[.int .u64 ((m + d : Nat) : Int), .int .u64 0])) W := fun W => by
                rw [run_add64_call m d W, show (m + d) % 18446744073709551616 = m + d by omega, show (m + d) / 18446744073709551616 = 0 by omega]
                rfl
              have HLT := Aside0.mk hlt
              clear hm hlt hd16
              generalize m + d = n at *
              go_wp2_with (fail)
              refine (num_digit.calls 3 c 10 d true _ HDG.out).mono ?_
              rintro e wa ⟨rfl, hx_⟩
              have HI3 := Aside0.mk (blk_below HI2.out hx_.below)
              have HB3 := Aside0.mk (HB2.out.trans (hx_.below.mono HB2.out.size))
              clear hx_ HI2 HB2
              go_wp2_with (fail)
              refine (bits_Mul64.calls v 10 0 m _ HM.out).mono ?_
              rintro e wb ⟨rfl, hx_⟩
              have HI4 := Aside0.mk (blk_below HI3.out hx_.below)
              have HB4 := Aside0.mk (HB3.out.trans (hx_.below.mono HB3.out.size))
              clear hx_ HI3 HB3
              go_wp2
              refine ⟨⟨pos + 1, n, rfl, hle2, HLT.out, HI4, HB4, HVS⟩, ?_⟩
              rw [HIP.out]
              unfold World.iterPos
              rw [HI4.out]
              show a0.size - (pos + 1) < a0.size - pos
              omega
            · rw [if_neg hlt] at HVS
              have HJ : Aside0 (r1 = 0 ∧ r2 = 4) := ⟨by
                have := HV2.out
                rw [← HVS.out] at this
                cases this
                exact ⟨rfl, rfl⟩⟩
              have hadd := run_add64_call (m % 18446744073709551616) d
              have hc : ((((m / 18446744073709551616 : Nat) : Int) != 0) = true) ∨ ((((m / 18446744073709551616 : Nat) : Int) != 0) = false ∧ (((((m % 18446744073709551616 + d) / 18446744073709551616 : Nat)) : Int) != 0) = true) := by
                by_cases hz : m / 18446744073709551616 = 0
                · refine Or.inr ⟨by rw [hz]; rfl, bne_iff_ne.2 (by omega)⟩
                · exact Or.inl (bne_iff_ne.2 (by omega))
              clear hm hlt hd16 HVS
              generalize (m % 18446744073709551616 + d) / 18446744073709551616 = cy at *
              generalize (m % 18446744073709551616 + d) % 18446744073709551616 = sm at *
              generalize m / 18446744073709551616 = hi at *
              generalize m % 18446744073709551616 = lo at *
              obtain ⟨rfl, rfl⟩ := HJ.out
              clear HJ HV2
              rcases hc with hc | ⟨hc, hc2⟩
              all_goals
                go_wp2_with (fail)
                refine (num_digit.calls 3 c 10 d true _ HDG.out).mono ?_
                rintro e wa ⟨rfl, hx_⟩
                have HB3 := Aside0.mk (HB2.out.trans (hx_.below.mono HB2.out.size))
                clear hx_ HI2 HB2
                go_wp2_with (fail)
                refine (bits_Mul64.calls v 10 hi lo _ HM.out).mono ?_
                rintro e wb ⟨rfl, hx_⟩
                have HB4 := Aside0.mk (HB3.out.trans (hx_.below.mono HB3.out.size))
                clear hx_ HB3
                go_wp2
                go_step3
                exact And.intro rfl (And.intro HB4.out (And.intro rfl (And.intro rfl ⟨_, _, _, _, _, _, _, _, _, _, _, _, _, _, _, _, _, _, _, _, _, _, _, _, _, _, _, _, _, _, _, _, _, _, _, _, _, _, _, _, _, _, _, _, _, _, _, _, _, _, _, _, _, _, _, _, _, _, _, rfl⟩)))
          · have hnx : ∀ ty, (Instr.next (.pointer (some ⟨w1.heap.size, 0, none⟩)) true ty).run Tryd.prog wr = _ := fun ty => Go.Lib.run_next_end_at wr w1.heap.size a0 pos ty HI.out hp
            have HR : Aside0 (r1 = (v : Int) ∧ r2 = 0) := ⟨by
              have h1 := HVL.out
              rw [List.drop_eq_nil_of_le (by simp; omega), valL] at h1
              have := HV2.out
              rw [← h1] at this
              cases this
              exact ⟨rfl, rfl⟩⟩
            clear HI HVL hle hv hp HV2
            obtain ⟨rfl, rfl⟩ := HR.out
            clear HR
            go_wp2
            simp only [Exit.jump]
            go_ret2
            exact ⟨rfl, HBw.out⟩

/-! ### operand_reader_value: function 27 -/
def valS (s : ByteArray) : Int × Int := (num_Value.f s).getD (0, 3)
theorem valS_f (s : ByteArray) : num_Value.f s = some (valS s) := by
  unfold valS num_Value.f
  rfl
def valP (ch : Bool) (L : List S29) (p : Nat) (E : Int) : Option (Int × Nat × Int) :=
  if ((tk L p).f0 == 5 && ch) = true then some ((tk L p).f2, p + 1, E)
  else if (tk L p).f0 ≠ 2 then none
  else if (valS (tk L p).f1).2 = 0 then some ((valS (tk L p).f1).1, p + 1, E)
  else (wrE (valS (tk L p).f1).2 E).map fun E' => ((valS (tk L p).f1).1, p + 1, E')
theorem tk_lt {L : List S29} {p : Nat} (h : (tk L p).f0 ≠ 0) : p < L.length := by
  rcases Nat.lt_or_ge p L.length with h1 | h1
  · exact h1
  · exact absurd (by rw [tk_end h1]) h
set_option maxHeartbeats 4000000 in
set_option maxRecDepth 100000 in
theorem rd_value (w0 w : World) (g : Nat) (A : Option Addr) (c : Nat) (L : List S29) (p : Nat) (E : Int) (ch : Bool) (H : Aside0 (Rd w0 w g A c L p E)) (hp : p ≤ L.length) :
    Calls Tryd.prog 27 #[.pointer (some ⟨g, 0, none⟩), .bool ch] w (RdPost w0 w g A c L (valP ch L p E) (fun v => .int .u64 v)) := by
  have hz29 := Tryd.zeroValue29
  have HP := Aside0.mk (rd_peek w0 w g A c L p E H)
  have hw : wrap64 ((p : Int) + 1) = ((p + 1 : Nat) : Int) := by have := H.out.len; unfold wrap64; omega
  unfold valP
  by_cases h5 : ((tk L p).f0 == 5 && ch) = true
  · rw [if_pos h5]
    rw [Bool.and_eq_true] at h5
    obtain ⟨c1, rfl⟩ := h5
    generalize tk L p = t at *
    go_enter Tryd.func27, Tryd.ntmps27
    go_wp2_with (fail)
    refine HP.out.mono ?_
    rintro e w1 ⟨rfl, hb⟩
    have K1 := Aside0.mk (KeepBut.of_below hb g none)
    have H2 : Aside0 (∀ o, Rd w0 (w1.alloc o) g A c L p E) := ⟨fun o => (H.out.after hb).after (below_alloc (Below.refl _ _) o)⟩
    have h1 : ∀ o, (w1.alloc o).cell? ⟨g, 1, none⟩ = some (.int .i64 (p : Int)) := fun o => (rd_cells (H2.out o)).2.1
    have f1 : ∀ o, (w1.alloc o).frozen? ⟨g, 1, none⟩ = false := fun o => (rd_cells (H2.out o)).2.2.2.1
    have hgn : g ≠ w1.heap.size := by have := Rd.keep (H.out.after hb); omega
    clear hb HP
    go_wp2
    go_ret
    exact ⟨(keep_alloc K1.out _).set_ 1 _, rfl, (H2.out _).setP (p + 1)⟩
  · rw [if_neg h5]
    have key : ((tk L p).f0 == 5) = false ∨ (((tk L p).f0 == 5) = true ∧ ch = false) := by
      cases h : (tk L p).f0 == 5
      · exact Or.inl rfl
      · rw [h, Bool.true_and] at h5
        exact Or.inr ⟨rfl, by simpa using h5⟩
    by_cases h2 : (tk L p).f0 ≠ 2
    · rw [if_pos h2]
      have c2 : ((tk L p).f0 != 2) = true := bne_iff_ne.2 h2
      clear h5 h2
      generalize tk L p = t at *
      rcases key with c1 | ⟨c1, rfl⟩
      all_goals
        go_enter Tryd.func27, Tryd.ntmps27
        go_wp2_with (fail)
        refine HP.out.mono ?_
        rintro e w1 ⟨rfl, hb⟩
        have K1 := Aside0.mk (KeepBut.of_below hb g none)
        have H2 : Aside0 (∀ o, Rd w0 (w1.alloc o) g A c L p E) := ⟨fun o => (H.out.after hb).after (below_alloc (Below.refl _ _) o)⟩
        have h1 : ∀ o, (w1.alloc o).cell? ⟨g, 1, none⟩ = some (.int .i64 (p : Int)) := fun o => (rd_cells (H2.out o)).2.1
        have f1 : ∀ o, (w1.alloc o).frozen? ⟨g, 1, none⟩ = false := fun o => (rd_cells (H2.out o)).2.2.2.1
        have hgn : g ≠ w1.heap.size := by have := Rd.keep (H.out.after hb); omega
        clear hb HP
        go_wp2_with (fail)
        refine (rd_wrong w0 _ g A c L (p + 1) E 3 ⟨(H2.out _).setP (p + 1)⟩).mono ?_
        rintro e w2 ⟨⟨t, v, rfl⟩, rfl⟩
        go_wp2
        exact ⟨rfl, (keep_alloc K1.out _).set_ 1 _, ⟨_, _, rfl⟩, ((H2.out _).setP (p + 1)).below⟩
    · rw [if_neg h2]
      have c2 : ((tk L p).f0 != 2) = false := by rw [bne_eq_false_iff_eq]; exact Decidable.of_not_not h2
      have HV := Aside0.mk (valS_f (tk L p).f1)
      clear h5 h2
      generalize tk L p = t at *
      obtain ⟨⟨v, er⟩, hv⟩ : ∃ x, valS t.f1 = x := ⟨_, rfl⟩
      rw [hv] at HV ⊢
      simp only
      by_cases he : er = 0
      · rw [if_pos he]
        have c3 : (er != 0) = false := by rw [he]; rfl
        rcases key with c1 | ⟨c1, rfl⟩
        all_goals
          go_enter Tryd.func27, Tryd.ntmps27
          go_wp2_with (fail)
          refine HP.out.mono ?_
          rintro e w1 ⟨rfl, hb⟩
          have K1 := Aside0.mk (KeepBut.of_below hb g none)
          have H2 : Aside0 (∀ o, Rd w0 (w1.alloc o) g A c L p E) := ⟨fun o => (H.out.after hb).after (below_alloc (Below.refl _ _) o)⟩
          have h1 : ∀ o, (w1.alloc o).cell? ⟨g, 1, none⟩ = some (.int .i64 (p : Int)) := fun o => (rd_cells (H2.out o)).2.1
          have f1 : ∀ o, (w1.alloc o).frozen? ⟨g, 1, none⟩ = false := fun o => (rd_cells (H2.out o)).2.2.2.1
          have hgn : g ≠ w1.heap.size := by have := Rd.keep (H.out.after hb); omega
          clear hb HP
          go_wp2_with (fail)
          refine (num_Value.calls t.f1 v er _ HV.out).mono ?_
          rintro e w2 ⟨rfl, hb2⟩
          have K2 := Aside0.mk (((keep_alloc K1.out (.cells #[.int .i64 t.f0, .string t.f1, .int .u64 t.f2] 29)).set_ 1 (.int .i64 ((p + 1 : Nat) : Int))).trans (KeepBut.of_below hb2 g none) (Or.inl rfl))
          have H3 := Aside0.mk (((H2.out _).setP (p + 1)).after hb2)
          clear hb2 K1 H2 h1 f1
          go_wp2
          go_ret
          exact ⟨K2.out, rfl, H3.out⟩
      · rw [if_neg he]
        have c3 : (er != 0) = true := bne_iff_ne.2 he
        cases hw3 : wrE er E with
        | none =>
          rcases key with c1 | ⟨c1, rfl⟩
          all_goals
            go_enter Tryd.func27, Tryd.ntmps27
            go_wp2_with (fail)
            refine HP.out.mono ?_
            rintro e w1 ⟨rfl, hb⟩
            have K1 := Aside0.mk (KeepBut.of_below hb g none)
            have H2 : Aside0 (∀ o, Rd w0 (w1.alloc o) g A c L p E) := ⟨fun o => (H.out.after hb).after (below_alloc (Below.refl _ _) o)⟩
            have h1 : ∀ o, (w1.alloc o).cell? ⟨g, 1, none⟩ = some (.int .i64 (p : Int)) := fun o => (rd_cells (H2.out o)).2.1
            have f1 : ∀ o, (w1.alloc o).frozen? ⟨g, 1, none⟩ = false := fun o => (rd_cells (H2.out o)).2.2.2.1
            have hgn : g ≠ w1.heap.size := by have := Rd.keep (H.out.after hb); omega
            clear hb HP
            go_wp2_with (fail)
            refine (num_Value.calls t.f1 v er _ HV.out).mono ?_
            rintro e w2 ⟨rfl, hb2⟩
            have K2 := Aside0.mk (((keep_alloc K1.out (.cells #[.int .i64 t.f0, .string t.f1, .int .u64 t.f2] 29)).set_ 1 (.int .i64 ((p + 1 : Nat) : Int))).trans (KeepBut.of_below hb2 g none) (Or.inl rfl))
            have H3 := Aside0.mk (((H2.out _).setP (p + 1)).after hb2)
            clear hb2 K1 H2 h1 f1
            have HWR := rd_wrong w0 w2 g A c L (p + 1) E er H3
            rw [hw3] at HWR
            go_wp2_with (fail)
            refine HWR.mono ?_
            rintro e w3 ⟨⟨t, v, rfl⟩, rfl⟩
            go_wp2
            exact ⟨rfl, K2.out, ⟨_, _, rfl⟩, H3.out.below⟩
        | some E' =>
          rcases key with c1 | ⟨c1, rfl⟩
          all_goals
            go_enter Tryd.func27, Tryd.ntmps27
            go_wp2_with (fail)
            refine HP.out.mono ?_
            rintro e w1 ⟨rfl, hb⟩
            have K1 := Aside0.mk (KeepBut.of_below hb g none)
            have H2 : Aside0 (∀ o, Rd w0 (w1.alloc o) g A c L p E) := ⟨fun o => (H.out.after hb).after (below_alloc (Below.refl _ _) o)⟩
            have h1 : ∀ o, (w1.alloc o).cell? ⟨g, 1, none⟩ = some (.int .i64 (p : Int)) := fun o => (rd_cells (H2.out o)).2.1
            have f1 : ∀ o, (w1.alloc o).frozen? ⟨g, 1, none⟩ = false := fun o => (rd_cells (H2.out o)).2.2.2.1
            have hgn : g ≠ w1.heap.size := by have := Rd.keep (H.out.after hb); omega
            clear hb HP
            go_wp2_with (fail)
            refine (num_Value.calls t.f1 v er _ HV.out).mono ?_
            rintro e w2 ⟨rfl, hb2⟩
            have K2 := Aside0.mk (((keep_alloc K1.out (.cells #[.int .i64 t.f0, .string t.f1, .int .u64 t.f2] 29)).set_ 1 (.int .i64 ((p + 1 : Nat) : Int))).trans (KeepBut.of_below hb2 g none) (Or.inl rfl))
            have H3 := Aside0.mk (((H2.out _).setP (p + 1)).after hb2)
            clear hb2 K1 H2 h1 f1
            have HWR := rd_wrong w0 w2 g A c L (p + 1) E er H3
            rw [hw3] at HWR
            go_wp2_with (fail)
            refine HWR.mono ?_
            rintro e w3 ⟨rfl, h3, k3⟩
            go_wp2
            go_ret
            exact ⟨K2.out.trans k3 (Or.inl rfl), rfl, h3⟩

/-! ### operand_reader_number: function 32 -/
theorem valP_le {ch : Bool} {L : List S29} {p : Nat} {E : Int} {v : Int} {q : Nat} {E' : Int} (h : valP ch L p E = some (v, q, E')) : q = p + 1 ∧ p < L.length := by
  unfold valP at h
  split at h
  · rename_i h5
    rw [Bool.and_eq_true] at h5
    cases h
    exact ⟨rfl, tk_lt (by rw [beq_iff_eq.1 h5.1]; decide)⟩
  · split at h
    · cases h
    · rename_i h2
      have hlt : p < L.length := tk_lt (by rw [Decidable.of_not_not h2]; decide)
      split at h
      · cases h; exact ⟨rfl, hlt⟩
      · cases hw : wrE (valS (tk L p).f1).2 E with
        | none => rw [hw] at h; cases h
        | some e => rw [hw] at h; cases h; exact ⟨rfl, hlt⟩
/-- Where the reader stands behind a sign that may stand there. -/
def sgN (L : List S29) (p : Nat) (s : ByteArray) : Nat := if sgB L p s = true then p + 1 else p
theorem sgN_le {L : List S29} {p : Nat} {s : ByteArray} (h : p ≤ L.length) : sgN L p s ≤ L.length := by
  unfold sgN
  split
  · rename_i h1; have := sgB_lt h1; omega
  · exact h
def numP (L : List S29) (p : Nat) (E : Int) : Option ((Bool × Int) × Nat × Int) :=
  (valP true L (sgN L p ⟨#[45]⟩) E).map fun x => ((sgB L p ⟨#[45]⟩ && x.1 != 0, x.1), x.2)
abbrev numV (x : Bool × Int) : Value := .agg #[.bool x.1, .int .u64 x.2]
/-- A function's result block is made; the reader stands as it stood. -/
theorem Rd.box {w0 w : World} {g : Nat} {A : Option Addr} {c : Nat} {L : List S29} {p : Nat} {E : Int} (h : Rd w0 w g A c L p E) (cs : Array Value) (t : TypeId) :
    ∃ W, w.alloc (.cells cs t) = W ∧ Rd w0 W g A c L p E ∧ KeepBut w W g none ∧ W.heap[w.heap.size]? = some (.cells cs t (0, 0)) ∧ w.heap.size ≠ g :=
  ⟨_, rfl, h.after (below_alloc (Below.refl _ _) _), KeepBut.of_below (below_alloc (Below.refl _ _) _) g none, blk_new _ _, fun e => by have := Rd.keep h; omega⟩
theorem keep_set2 {w W : World} {g b : Nat} {j : Nat} {u : Value} (h : KeepBut w W g none) (hb : w.heap.size ≤ b) : KeepBut w (W.setCell ⟨b, j, none⟩ u) g none :=
  ⟨by simpa [World.setCell] using h.1, fun i hi hg hn => (Below.heap_setCell W ⟨b, j, none⟩ u i (by show i ≠ b; omega)).trans (h.2 i hi hg hn)⟩
theorem Rd.far {w0 w : World} {g : Nat} {A : Option Addr} {c : Nat} {L : List S29} {p : Nat} {E : Int} (h : Rd w0 w g A c L p E) {b j : Nat} (u : Value) (hb : w0.heap.size ≤ b) (hne : b ≠ g) : Rd w0 (w.setCell ⟨b, j, none⟩ u) g A c L p E :=
  ⟨blk_far h.blk (p := ⟨b, j, none⟩) (fun e => hne e.symm) u, h.row, h.cap, h.ge, h.below.setCell (p := ⟨b, j, none⟩) hb _, h.len⟩
set_option maxHeartbeats 4000000 in
set_option maxRecDepth 100000 in
theorem rd_number (w0 w : World) (g : Nat) (A : Option Addr) (c : Nat) (L : List S29) (p : Nat) (E : Int) (H : Aside0 (Rd w0 w g A c L p E)) (hp : p ≤ L.length) :
    Calls Tryd.prog 32 #[.pointer (some ⟨g, 0, none⟩)] w (RdPost w0 w g A c L (numP L p E) numV) := by
  obtain ⟨W, hW, hH, hK, hB, hne⟩ := H.out.box #[.bool false, .int .u64 0] 64
  have hwW : w0.heap.size ≤ w.heap.size := H.out.below.size
  have HS := Aside0.mk (rd_sign w0 W g A c L p E ⟨#[45]⟩ ⟨hH⟩)
  have HQ := sgN_le (s := ⟨#[45]⟩) hp
  unfold numP
  rw [show (if sgB L p ⟨#[45]⟩ = true then p + 1 else p) = sgN L p ⟨#[45]⟩ from rfl] at HS
  generalize sgN L p ⟨#[45]⟩ = p1 at *
  cases hs : sgB L p ⟨#[45]⟩
  all_goals
    rw [hs] at HS
    clear hs hp hH
    cases hr : valP true L p1 E with
    | none =>
      go_enter Tryd.func32, Tryd.ntmps32
      go_wp2_with (fail)
      try rw [hW]
      refine HS.out.mono ?_
      rintro e w1 ⟨rfl, h1, k1⟩
      have H1 := Aside0.mk h1
      have K1 := Aside0.mk (hK.trans k1 (Or.inl rfl))
      clear h1 k1 HS
      go_wp2_with (fail)
      have HV := rd_value w0 w1 g A c L p1 E true H1 HQ
      rw [hr] at HV
      refine HV.mono ?_
      rintro e w2 ⟨k2, ⟨t, v, rfl⟩, hb⟩
      go_wp2
      exact ⟨rfl, K1.out.trans k2 (Or.inl rfl), ⟨_, _, rfl⟩, hb⟩
    | some x =>
      obtain ⟨v, q, E'⟩ := x
      go_enter Tryd.func32, Tryd.ntmps32
      go_wp2_with (fail)
      try rw [hW]
      refine HS.out.mono ?_
      rintro e w1 ⟨rfl, h1, k1⟩
      have H1 := Aside0.mk h1
      have K1 := Aside0.mk (hK.trans k1 (Or.inl rfl))
      have B1 := k1.blk hB hne (by simp)
      clear h1 k1 HS hB hK hW
      go_wp2_with (fail)
      have HV := rd_value w0 w1 g A c L p1 E true H1 HQ
      rw [hr] at HV
      refine HV.mono ?_
      rintro e w2 ⟨k2, rfl, h2⟩
      have B2 := Aside0.mk (k2.blk B1 hne (by simp))
      have H2 := Aside0.mk h2
      have K2 := Aside0.mk (K1.out.trans k2 (Or.inl rfl))
      have e0 : w2.cell? ⟨w.heap.size, 0, none⟩ = some (.bool false) := (blk_cell B2.out 0).trans rfl
      have e1 : w2.cell? ⟨w.heap.size, 1, none⟩ = some (.int .u64 0) := (blk_cell B2.out 1).trans rfl
      have ef : w2.frozen? ⟨w.heap.size, 0, none⟩ = false := blk_frozen B2.out 0
      have ef1 : w2.frozen? ⟨w.heap.size, 1, none⟩ = false := blk_frozen B2.out 1
      clear k2 h2 B1 HV hr K1 H1
      go_wp2
      refine bodyPost_ret (results_cell_row rfl _ _ w.heap.size 64 #[_, .int .u64 v] (0, 0) _ rfl (blk_put (blk_put B2.out 0 _ rfl) 1 _ rfl) Tryd.underlying64 rfl (by kernel_rfl)) rfl ?_
      exact ⟨keep_set2 (keep_set2 K2.out (Nat.le_refl _)) (Nat.le_refl _), rfl, (H2.out.far _ hwW hne).far _ hwW hne⟩

/-! ### num_Signed: function 48 -/
def num_Signed.f (a0 : Bool) (a1 : Int) : Option (Int × Int) := if a0 = true then (if a1 > 9223372036854775808 then (some (0, 4)) else (some (wrap64 (IntKind.u64.wrap (-a1)), 0))) else (if a1 > 9223372036854775807 then (some (0, 4)) else (some (wrap64 (a1), 0)))
set_option maxHeartbeats 8000000 in
set_option maxRecDepth 100000 in
theorem num_Signed.calls (a0 : Bool) (a1 : Int) (r1 : Int) (r2 : Int) (w : World) (h : num_Signed.f a0 a1 = some (r1, r2)) :
  Calls Tryd.prog 48 #[.bool a0, .int .u64 a1] w fun e w' => e = .returned (.tuple #[.int .i64 r1, .int .i64 r2]) ∧ Drawn0 w w' := by
 have H : (if a0 = true then (if a1 > 9223372036854775808 then (some (0, 4)) else (some (wrap64 (IntKind.u64.wrap (-a1)), 0))) else (if a1 > 9223372036854775807 then (some (0, 4)) else (some (wrap64 (a1), 0)))) = some (r1, r2) := h
 clear h
 by_cases c3 : a0 = true
 ·subst c3
  rw [if_pos rfl] at H
  by_cases c4 : a1 > 9223372036854775808
  ·rw [if_pos c4] at H
   have c4b0 : decide (9223372036854775808 < a1) = true := decide_eq_true c4
   clear c4
   simp only [Option.some.injEq, Prod.mk.injEq] at H
   obtain ⟨rfl, rfl⟩ := H
   go_enter Tryd.func48, Tryd.ntmps48
   go_wp2
   go_ret2
   exact ⟨by first | rfl | (simp; done) | (simp [*]; done), by repeat (first | exact Drawn0.refl _ | apply Drawn0.step)⟩
  ·rw [if_neg c4] at H
   have c4b0 : decide (9223372036854775808 < a1) = false := decide_eq_false c4
   clear c4
   simp only [Option.some.injEq, Prod.mk.injEq] at H
   obtain ⟨rfl, rfl⟩ := H
   go_enter Tryd.func48, Tryd.ntmps48
   go_wp2
   go_ret2
   exact ⟨by first | rfl | (simp; done) | (simp [*]; done), by repeat (first | exact Drawn0.refl _ | apply Drawn0.step)⟩
 ·replace c3 := Bool.eq_false_iff.mpr c3
  subst c3
  rw [if_neg (show ¬ (false = true) by decide)] at H
  by_cases c5 : a1 > 9223372036854775807
  ·rw [if_pos c5] at H
   have c5b0 : decide (9223372036854775807 < a1) = true := decide_eq_true c5
   clear c5
   simp only [Option.some.injEq, Prod.mk.injEq] at H
   obtain ⟨rfl, rfl⟩ := H
   go_enter Tryd.func48, Tryd.ntmps48
   go_wp2
   go_ret2
   exact ⟨by first | rfl | (simp; done) | (simp [*]; done), by repeat (first | exact Drawn0.refl _ | apply Drawn0.step)⟩
  ·rw [if_neg c5] at H
   have c5b0 : decide (9223372036854775807 < a1) = false := decide_eq_false c5
   clear c5
   simp only [Option.some.injEq, Prod.mk.injEq] at H
   obtain ⟨rfl, rfl⟩ := H
   go_enter Tryd.func48, Tryd.ntmps48
   go_wp2
   go_ret2
   exact ⟨by first | rfl | (simp; done) | (simp [*]; done), by repeat (first | exact Drawn0.refl _ | apply Drawn0.step)⟩

end Go.Proofs.YtpndeninbokjoaaDoor.P
