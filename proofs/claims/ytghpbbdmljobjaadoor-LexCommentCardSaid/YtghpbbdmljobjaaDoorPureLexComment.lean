/- LexComment, as plain Lean. -/
import Derived.Test.YtghpbbdmljobjaaDoorQLexComment
import Derived.Test.YtghpbbdmljobjaaDoorLf
import Derived.Test.YtghpbbdmljobjaaDoorPx4
import Derived.Test.YtghpbbdmljobjaaDoorPx5
namespace Go.Proofs.YtghpbbdmljobjaaDoor.Pure
open Go.Lib Go.RowKit Go.Proofs.YtghpbbdmljobjaaDoor.P Go.Proofs.YtghpbbdmljobjaaDoor.Q Go.Proofs.YtghpbbdmljobjaaDoorW.PrintWords Go.Proofs.YtghpbbdmljobjaaDoorW.PrintLast Go.Proofs.YtghpbbdmljobjaaDoorW.PrintMore
theorem LexComment : cleatlaw09_LexComment.Pure := by
  intro a0 a1 w0 w1
  refine ⟨300, ?_⟩
  unfold cleatlaw09_LexComment.f
  rw [show wrap64 ((a0.size : Int) + (a1.size : Int)) = (a0.size : Int) + (a1.size : Int) by simp only [wrap64]; omega]
  by_cases h : (a0.size : Int) + (a1.size : Int) > 190
  · rw [if_pos h]
  · rw [if_neg h]
    have hl : a0.data.toList.length + a1.data.toList.length ≤ 190 := by rw [len_list, len_list]; omega
    have e3 : ((a0 ++ (⟨#[32, 47, 47]⟩ : ByteArray)) ++ a1).data.toList = a0.data.toList ++ [32, 47, 47] ++ a1.data.toList := by rw [app_list, app_list]
    have hz : (a0 ++ (⟨#[32, 47, 47]⟩ : ByteArray)).size + a1.size ≤ 9223372036854775807 := by rw [ByteArray.size_append]; show a0.size + 3 + a1.size ≤ _; omega
    cases hv : validD a1.data.toList
    · rw [runes_no (by omega) hv, line_f, line_f, e3, comment_bad hl hv]
      simp only [Option.bind_some]
      rw [if_pos (by omega), if_pos hz, if_neg (by decide)]
      rfl
    · rw [runes_ok (by omega) hv, line_f, line_f, e3]
      simp only [Option.bind_some]
      rw [if_pos (by omega), if_pos hz, if_pos trivial]
      show (if (linB a0.data.toList).2 = 0 then _ else _) = _
      by_cases he : (linB a0.data.toList).2 = 0
      · rw [if_pos he, comment_ok hl hv he, if_pos rfl, same_refl _ _ (by have := lin_len a0.data.toList; simp; omega) (by have := lin_len a0.data.toList; simp; omega)]
        rfl
      · rw [if_neg he]
end Go.Proofs.YtghpbbdmljobjaaDoor.Pure
