/- PoolAgain: the walk. -/
import Derived.Test.YtoglfjeggfbngaaPi
namespace Go.Proofs.Ytoglfjeggfbngaa.P
open Go.RowKit Go.Maps Go.MapKept Go.ChangeMaps Go.ChangeShapes Go.WideShapes Go.Proofs.YtoglfjeggfbngaaW.PrintWords Go.Proofs.YtoglfjeggfbngaaW.PrintLast Go.Proofs.YtoglfjeggfbngaaW.PrintMore
set_option linter.unusedVariables false
set_option linter.unusedSimpArgs false
/-- Pool.Put, told by what stands in the list of places. -/
theorem put_at (B b : Nat) (s : List Lt) (n : Nd) (w : World) (hBw : B ≤ w.heap.size) (h : PoolAt B b s w) (hok : ndOk n) :
    ∃ k e : Int, (e = 0 ∧ k = atV s n ∧ 0 ≤ k ∨ e ≠ 0 ∧ atV s n = -1) ∧ Calls Try.prog 9 #[.pointer (some ⟨b, 0, none⟩), .agg #[.int .i64 n.f0, .string n.f1, .int .i64 n.f2, .bool n.f3, .int .u64 n.f4]] w fun E w' => E = .returned (.tuple #[.int .i64 k, .int .i64 e]) ∧ PoolAt B b (putL s n) w' ∧ Below B w w' ∧ Kept b w w' := by
  refine ⟨putK s n, putE s n, ?_, pool_put B b s n w hBw h hok⟩
  unfold atV
  by_cases he : putE s n = 0
  · rw [if_pos he]; exact Or.inl ⟨he, rfl, putK_ge s n⟩
  · rw [if_neg he]; exact Or.inr ⟨he, rfl⟩
theorem again_long (A : Option Addr) (c : Nat) (l : List Nd) (w : World) (h : 100 < l.length) : Calls Try.prog 5 #[.slice A l.length c] w fun e w' => e = .returned (.bool true) ∧ Below w.heap.size w w' := by
  have h1 : (100 : Int) < l.length := by omega
  go_enter Try.func5, Try.ntmps5
  go_wp2
  go_ret
  exact ⟨rfl, Below.refl _ _⟩
theorem info_int : (Try.prog.info? 3).map (fun i => (i.zero, i.size, i.bytes)) = some (some (.int .i64 0), 1, 8) := by kernel_rfl
set_option maxHeartbeats 4000000 in
theorem again_walk (A : Option Addr) (c : Nat) (l : List Nd) (w : World) (hr : k30.C w A l.length l) (hl : l.length ≤ 100) (hok : ∀ n ∈ l, ndOk n) : Calls Try.prog 5 #[.slice A l.length c] w fun e w' => e = .returned (.bool true) ∧ Below w.heap.size w w' := by
  have h1 : ¬ (100 : Int) < l.length := by omega
  have hll : (l.length : Int) ≤ 100 := by omega
  have HC := Aside0.mk hr
  have HOK := Aside0.mk hok
  have hmk := info_int
  clear hr hok hl
  go_enter Try.func5, Try.ntmps5
  go_wp2_with (fail)
  refine (pool_made2 w.heap.size _ (Nat.le_refl _)).mono ?_
  rintro e w1 ⟨b, rfl, hp_, hb_, hs_⟩
  have P1 := Aside0.mk hp_
  have B1 := Aside0.mk hb_
  have S1 := Nat.le_of_lt hs_
  clear hp_ hb_ hs_
  go_wp2
  go_loopw [5, 4] (fun v5 v4 wr => ∃ x : Int, v5 = .int .i64 x ∧ 0 ≤ x ∧ x ≤ l.length ∧ Aside0 (PoolAt w.heap.size b (fin [] (l.take x.toNat)) wr) ∧ Aside0 ((Kd.int .i64).R 3 wr w.heap.size (fun _ => True) v4 (atsF [] (l.take x.toNat))) ∧ Aside0 (Below w.heap.size w wr)) (fun i _ _ => l.length - (intOf i).toNat)
  case atStart => exact ⟨0, rfl, by omega, by omega, ⟨by simpa [fin] using P1.out⟩, ⟨by simpa [atsF] using Kd.R_nil _ _ _ _ _⟩, B1⟩
  case round =>
    clear P1 B1 S1
    obtain ⟨x, rfl, hx0, hx1, HP, HR, HB⟩ := hrel
    by_cases hlt : x < l.length
    · obtain ⟨n, hn⟩ : ∃ n, l[x.toNat]? = some n := ⟨_, List.getElem?_eq_getElem (by omega)⟩
      have hno := HOK.out n (List.mem_of_getElem? hn)
      obtain ⟨ad, rfl, a0, a1, a2, a3, a4⟩ := at_nd (Kd.C_below HC.out HB.out) x hx0 hlt n hn
      have p107 := eq_true hx0
      have q107 := eq_true hlt
      have hsz := hno.1
      unfold maxLen at hsz
      by_cases hlong : 100 < n.f1.size
      · have hl1 : (100 : Int) < n.f1.size := by omega
        go_wp2
        go_ret
        exact ⟨rfl, HB.out⟩
      · have hl1 : ¬ (100 : Int) < n.f1.size := by omega
        have hSz := HB.out.size
        obtain ⟨k, e, hke, hcall⟩ := put_at w.heap.size b (fin [] (l.take x.toNat)) n wr hSz HP.out hno
        have HCALL := Aside0.mk hcall
        have HN := Aside0.mk hn
        have HV : Aside0 (atsF [] (l.take (x + 1).toNat) = atsF [] (l.take x.toNat) ++ [atV (fin [] (l.take x.toNat)) n]) := ⟨by rw [take_next l x n hx0 hn, atsF_snoc]⟩
        have HF : Aside0 (fin [] (l.take (x + 1).toNat) = putL (fin [] (l.take x.toNat)) n) := ⟨by rw [take_next l x n hx0 hn, fin_snoc]⟩
        have HLEN : (atsF [] (l.take x.toNat)).length ≤ 100 := by rw [atsF_len, List.length_take]; omega
        clear hcall hn hno hlong
        generalize atV (fin [] (l.take x.toNat)) n = q at *
        go_wp2_with (fail)
        refine HCALL.out.mono ?_
        rintro E w2 ⟨rfl, hp_, hb_, hk_⟩
        obtain ⟨cs, hcb⟩ := PoolAt_blk HP.out
        have P2 := Aside0.mk hp_
        have B2 := Aside0.mk (HB.out.trans hb_)
        have R2 := Aside0.mk (R_keptI HR.out hk_ hcb)
        have hS2 := B2.out.size
        clear hp_ hb_ hk_ hcb HP HR HB HCALL a0 a1 a2 a3 a4
        rcases hke with ⟨rfl, rfl, hk0⟩ | ⟨he, rfl⟩
        · go_wp2_with ((with_reducible refine gate_builtin (b := .append) (xs := #[.tmp 43, .tmp 45]) rfl ?_); at_builtin; refine Kd.R_append (Kd.int .i64) (w0 := w) w.heap.size rfl (.tmp 43) (.tmp 45) 41 3 (.int .i64 0) 8 rfl Try.underlying41 info_int rfl (by decide) (by omega) u4 (atsF [] (l.take x.toNat)) k [.int .i64 k] (fun _ => True) (fun _ => False) rfl rfl ?aP (fun _ hk => hk.elim) (fun _ _ => trivial) R2.out B2.out hS2 (by omega) ?_; (case aP => exact rfl); intro v1 w3 hR3 hB3 hg3 hat3; have P3 := Aside0.mk (PoolAt_grown P2.out hg3 (fun k hk => Kd.R_typed R2.out k hk)); have R3 := Aside0.mk hR3; have B3 := Aside0.mk hB3; clear hR3 hB3 hg3 hat3)
          go_roundw
          case rel => exact ⟨x + 1, rfl, by omega, by omega, ⟨by rw [HF.out]; exact P3.out⟩, ⟨by rw [HV.out]; exact R3.out⟩, B3⟩
          case measure => simp [intOf]; omega
        · have he0 : (e == 0) = false := beq_eq_false_iff_ne.mpr he
          have he1 : (e != 0) = true := bne_iff_ne.mpr he
          clear he
          go_wp2_with ((with_reducible refine gate_builtin (b := .append) (xs := #[.tmp 43, .tmp 45]) rfl ?_); at_builtin; refine Kd.R_append (Kd.int .i64) (w0 := w) w.heap.size rfl (.tmp 43) (.tmp 45) 41 3 (.int .i64 0) 8 rfl Try.underlying41 info_int rfl (by decide) (by omega) u4 (atsF [] (l.take x.toNat)) (-1) [.int .i64 (-1)] (fun _ => True) (fun _ => False) rfl rfl ?aP (fun _ hk => hk.elim) (fun _ _ => trivial) R2.out B2.out hS2 (by omega) ?_; (case aP => exact rfl); intro v1 w3 hR3 hB3 hg3 hat3; have P3 := Aside0.mk (PoolAt_grown P2.out hg3 (fun k hk => Kd.R_typed R2.out k hk)); have R3 := Aside0.mk hR3; have B3 := Aside0.mk hB3; clear hR3 hB3 hg3 hat3)
          go_roundw
          case rel => exact ⟨x + 1, rfl, by omega, by omega, ⟨by rw [HF.out]; exact P3.out⟩, ⟨by rw [HV.out]; exact R3.out⟩, B3⟩
          case measure => simp [intOf]; omega
    · obtain rfl : x = l.length := by omega
      have e1 : l.take ((l.length : Int)).toNat = l := by simp
      rw [e1] at HP HR
      have hSz := HB.out.size
      obtain ⟨cs, hcb⟩ := PoolAt_blk HP.out
      have hbB : w.heap.size ≤ b := HP.out.1
      obtain ⟨L, hL⟩ : ∃ L, L = fin [] l := ⟨_, rfl⟩
      have hL64 : L.length ≤ 64 := by rw [hL]; exact fin_len l [] (by simp)
      rw [← hL] at HP
      have HLF := Aside0.mk hL
      clear hL e1 hx0 hx1 hlt
      go_wp2_with (fail)
      refine (pool_take w.heap.size b L _ hSz HP.out).mono ?_
      rintro e w6 ⟨A8, c8, rfl, hR_, hP_, hb_, hk_, hn_⟩
      have R6 := Aside0.mk (R_keptI HR.out hk_.kept hcb)
      have B6 := Aside0.mk (HB.out.trans hb_)
      have N6 := Aside0.mk hn_
      have HG : Aside0 (0 < L.length → ∃ g, A8 = some ⟨g, 0, none⟩ ∧ w.heap.size ≤ g) := ⟨fun h => by
        obtain ⟨g, cells, cap, e, hg, hc, hs⟩ := R_block hR_ h
        cases e
        exact ⟨g, rfl, hg⟩⟩
      have HC8 : Aside0 (∀ g, 0 < L.length → A8 = some ⟨g, 0, none⟩ → ∃ cells, w6.heap[g]? = some (.cells cells 34 (0, 0)) ∧ L.length * 3 ≤ cells.size) := ⟨fun g h e => by
        obtain ⟨g', cells, cap, e', hg, hc, hs⟩ := R_block hR_ h
        cases e'
        cases e
        exact ⟨cells, hc, hs⟩⟩
      clear hR_ hP_ hb_ hk_ hn_ HP HR HB hcb hSz
      go_wp2
      go_loopw [9] (fun v9 wr => ∃ j : Int, v9 = .int .i64 j ∧ 0 ≤ j ∧ j ≤ L.length ∧ Aside0 (∀ g, 0 < L.length → A8 = some ⟨g, 0, none⟩ → ∃ cells, wr.heap[g]? = some (.cells cells 34 (0, 0)) ∧ L.length * 3 ≤ cells.size) ∧ Aside0 (PoolNil w.heap.size b wr) ∧ Aside0 ((Kd.int .i64).R 3 wr w.heap.size (fun _ => True) u4 (atsF [] l)) ∧ Aside0 (Below w.heap.size w wr)) (fun j _ => L.length - (intOf j).toNat)
      case atStart => exact ⟨0, rfl, by omega, by omega, HC8, N6, R6, B6⟩
      case round =>
        clear HC8 N6 R6 B6
        obtain ⟨j, rfl, hj0, hj1, HX, HN, HR, HB⟩ := hrel
        by_cases hlt : j < L.length
        · obtain ⟨g, rfl, hgB⟩ := HG.out (by omega)
          obtain ⟨cells, hgc, hgs⟩ := HX.out g (by omega) rfl
          obtain ⟨v2, hv2⟩ : ∃ v, cells[j.toNat * 3 + 2]? = some v := ⟨_, Array.getElem?_eq_getElem (by omega)⟩
          have hc2 : wr.cell? ⟨g, j.toNat * 3 + 2, none⟩ = some v2 := (blk_cell hgc _).trans hv2
          have hf2 := blk_frozen hgc (j.toNat * 3 + 2)
          have HGC := Aside0.mk hgc
          have HGS := Aside0.mk hgs
          clear hgc hgs hv2
          go_wp2
          go_roundw
          case rel => exact ⟨j + 1, rfl, by omega, by omega, ⟨fun g' h e => by cases e; exact ⟨_, blk_put HGC.out (j.toNat * 3 + 2) _ rfl, by simpa using HGS.out⟩⟩, ⟨HN.out.set HGC.out _⟩, ⟨R_setI HR.out HGC.out _⟩, ⟨HB.out.setCell (p := ⟨g, j.toNat * 3 + 2, none⟩) hgB _⟩⟩
          case measure => simp [intOf]; omega
        · obtain rfl : j = L.length := by omega
          clear hj0 hj1 hlt HX HG
          have hSz := HB.out.size
          have HP := Aside0.mk (HN.out.at hbB)
          obtain ⟨cs, hcb⟩ := PoolAt_blk HP.out
          go_wp2_with (fail)
          refine (pool_take w.heap.size b [] _ hSz HP.out).mono ?_
          rintro e w7 ⟨A9, c9, rfl, _, hP_, hb_, hk_, _⟩
          have R7 := Aside0.mk (R_keptI HR.out hk_.kept hcb)
          have B7 := Aside0.mk (HB.out.trans hb_)
          have P7 := Aside0.mk hP_
          clear hP_ hb_ hk_ HP HN HR HB hcb hSz
          go_wp2_with (fail)
          refine (pool_size w.heap.size b [] _ P7.out).mono ?_
          rintro e w' ⟨rfl, rfl⟩
          obtain ⟨A4, c4, rfl⟩ := Kd.R_slice R7.out
          have hal : ((atsF [] l).length : Int) = l.length := by rw [atsF_len]
          have hL64' : ¬ (64 : Int) < L.length := by omega
          go_wp2
          go_loopw [10] (fun v10 wr => ∃ x : Int, v10 = .int .i64 x ∧ 0 ≤ x ∧ x ≤ l.length ∧ Aside0 (PoolAt w.heap.size b (fin [] (l.take x.toNat)) wr) ∧ Aside0 ((Kd.int .i64).R 3 wr w.heap.size (fun _ => True) (.slice A4 (atsF [] l).length c4) (atsF [] l)) ∧ Aside0 (Below w.heap.size w wr)) (fun j _ => l.length - (intOf j).toNat)
          case atStart => exact ⟨0, rfl, by omega, by omega, ⟨by simpa [fin] using P7.out⟩, R7, B7⟩
          case round =>
            clear P7 R7 B7
            obtain ⟨x, rfl, hx0, hx1, HP, HR, HB⟩ := hrel
            by_cases hlt : x < l.length
            · obtain ⟨n, hn⟩ : ∃ n, l[x.toNat]? = some n := ⟨_, List.getElem?_eq_getElem (by omega)⟩
              have hno := HOK.out n (List.mem_of_getElem? hn)
              obtain ⟨ad, rfl, a0, a1, a2, a3, a4⟩ := at_nd (Kd.C_below HC.out HB.out) x hx0 hlt n hn
              have p107 := eq_true hx0
              have q107 := eq_true hlt
              have hSz := HB.out.size
              obtain ⟨k, e, hke, hcall⟩ := put_at w.heap.size b (fin [] (l.take x.toNat)) n wr hSz HP.out hno
              have HCALL := Aside0.mk hcall
              have HF : Aside0 (fin [] (l.take (x + 1).toNat) = putL (fin [] (l.take x.toNat)) n) := ⟨by rw [take_next l x n hx0 hn, fin_snoc]⟩
              have HQ : Go.Proofs.YtoglfjeggfbngaaW.PrintWords.rd (atsF [] l) x = atV (fin [] (l.take x.toNat)) n := by
                have h := atsF_get l [] x.toNat n hn
                unfold Go.Proofs.YtoglfjeggfbngaaW.PrintWords.rd
                rw [List.getD_eq_getElem?_getD, h]
                rfl
              have hxa : x < ((atsF [] l).length : Int) := by omega
              clear hcall hn hno
              rw [← HQ] at hke
              clear HQ
              go_wp2_with (fail)
              refine HCALL.out.mono ?_
              rintro E w8 ⟨rfl, hp_, hb_, hk_⟩
              obtain ⟨cs, hcb⟩ := PoolAt_blk HP.out
              have P8 := Aside0.mk hp_
              have B8 := Aside0.mk (HB.out.trans hb_)
              have R8 := Aside0.mk (R_keptI HR.out hk_ hcb)
              obtain ⟨ad4, rfl, hcx⟩ := Kd.at_int (Kd.R_reads' R8.out).2.2 x hx0 hxa
              have r107 := eq_true hxa
              clear hp_ hb_ hk_ hcb HP HR HB HCALL a0 a1 a2 a3 a4 hxa
              generalize Go.Proofs.YtoglfjeggfbngaaW.PrintWords.rd (atsF [] l) x = q at *
              rcases hke with ⟨rfl, rfl, hk0⟩ | ⟨he, rfl⟩
              · have hk1 : decide (0 ≤ k) = true := decide_eq_true hk0
                go_wp2
                go_roundw
                case rel => exact ⟨x + 1, rfl, by omega, by omega, ⟨by rw [HF.out]; exact P8.out⟩, R8, B8⟩
                case measure => simp [intOf]; omega
              · have he0 : (e == 0) = false := beq_eq_false_iff_ne.mpr he
                have he1 : (e != 0) = true := bne_iff_ne.mpr he
                clear he
                go_wp2
                go_roundw
                case rel => exact ⟨x + 1, rfl, by omega, by omega, ⟨by rw [HF.out]; exact P8.out⟩, R8, B8⟩
                case measure => simp [intOf]; omega
            · obtain rfl : x = l.length := by omega
              have e1 : l.take ((l.length : Int)).toNat = l := by simp
              rw [e1, ← HLF.out] at HP
              have hSz := HB.out.size
              go_wp2_with (fail)
              refine (pooled_calls _).mono ?_
              rintro e w9 ⟨rfl, hb_⟩
              have P9 := Aside0.mk (PoolAt_keep HP.out hb_)
              have B9 := Aside0.mk (HB.out.trans (hb_.mono hSz))
              clear hb_
              go_wp2_with (fail)
              refine (pool_size w.heap.size b L _ P9.out).mono ?_
              rintro e w' ⟨rfl, rfl⟩
              go_wp2
              go_ret
              exact ⟨rfl, B9.out⟩
theorem again_calls (A : Option Addr) (c : Nat) (l : List Nd) (w : World) (hr : k30.C w A l.length l) (_hc : l.length ≤ c) (_hl : l.length * 48 ≤ 140737488351232) (hok : ∀ x ∈ l, (Lit.int .i64 x.f0).wf = true ∧ x.f1.size ≤ 9223372036854775807 ∧ (Lit.int .i64 x.f2).wf = true ∧ (Lit.int .u64 x.f4).wf = true) :
    Calls Try.prog 5 #[.slice A l.length c] w fun e w' => e = .returned (.bool true) ∧ Below w.heap.size w w' := by
  by_cases h : 100 < l.length
  · exact again_long A c l w h
  · exact again_walk A c l w hr (by omega) (fun n hn => ⟨(hok n hn).2.1, (hok n hn).2.2.1, (hok n hn).2.2.2⟩)
end Go.Proofs.Ytoglfjeggfbngaa.P
