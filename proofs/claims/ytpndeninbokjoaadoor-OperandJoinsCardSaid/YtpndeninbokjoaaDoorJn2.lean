/- Rows that are the same are told so. -/
import Derived.Test.YtpndeninbokjoaaDoorPx11
namespace Go.Proofs.YtpndeninbokjoaaDoor.Jn
open Go.RowKit Go.Proofs.YtpndeninbokjoaaDoor.P Go.Proofs.YtpndeninbokjoaaDoorW.PrintWords Go.Proofs.YtpndeninbokjoaaDoorW.PrintLast Go.Proofs.YtpndeninbokjoaaDoorW.PrintMore
theorem same_l (l : List S44) (hl : l.length < 4611686018427387904) : ∀ (d k n : Nat), n + d = l.length → d < k → cleatref11_Same.l0 k l l (n : Int) = some true
 | 0, k, n, hn, hk => by
  obtain ⟨k', rfl⟩ : ∃ k', k = k' + 1 := ⟨k - 1, by omega⟩
  rw [cleatref11_Same.l0, if_neg (by omega)]
 | d + 1, k, n, hn, hk => by
  obtain ⟨k', rfl⟩ : ∃ k', k = k' + 1 := ⟨k - 1, by omega⟩
  rw [cleatref11_Same.l0, if_pos (by omega), if_pos (by omega), if_pos (by omega), if_neg (by simp), show wrap64 ((n : Int) + 1) = ((n + 1 : Nat) : Int) by unfold wrap64; omega]
  exact same_l l hl d k' (n + 1) (by omega) (by omega)
theorem same (l : List S44) (hl : l.length < 4611686018427387904) (k : Nat) (hk : l.length < k) : cleatref11_Same.f k l l = some true := by
 unfold cleatref11_Same.f
 rw [if_pos rfl]
 exact same_l l hl l.length k 0 (by omega) hk
end Go.Proofs.YtpndeninbokjoaaDoor.Jn
