/- The law plumbtop.ApiKinds, told as a function over whole numbers and lists, answers true. No condition. -/
import Derived.Test.YtppgngdbbaibmaaPApiKindsx1
namespace Go.Proofs.Ytppgngdbbaibmaa.Pure
open Go.RowKit Go.Proofs.Ytppgngdbbaibmaa.PApiKinds Go.Proofs.YtppgngdbbaibmaaW.PrintWords Go.Proofs.YtppgngdbbaibmaaW.PrintLast Go.Proofs.YtppgngdbbaibmaaW.PrintMore

theorem same_l0 (xs : List Int) (hn : xs.length ≤ 100000) (d : Nat) : ∀ (k i : Nat), i + d = xs.length → d < k → plumbtop_ApiKinds.l0 k xs xs (i : Int) = some true := by
  induction d with
  | zero =>
    intro k i hi hk
    obtain ⟨k, rfl⟩ : ∃ m, k = m + 1 := ⟨k - 1, by omega⟩
    simp only [plumbtop_ApiKinds.l0]
    rw [if_neg (by omega)]
  | succ d ih =>
    intro k i hi hk
    obtain ⟨k, rfl⟩ : ∃ m, k = m + 1 := ⟨k - 1, by omega⟩
    simp only [plumbtop_ApiKinds.l0]
    rw [if_pos (by omega), if_pos (by omega), if_pos (by omega), if_pos trivial, show wrap64 ((i : Int) + 1) = ((i + 1 : Nat) : Int) from by unfold wrap64; omega]
    exact ih k (i + 1) (by omega) (by omega)
theorem ApiKinds : plumbtop_ApiKinds.Pure := by
  obtain ⟨k, hk⟩ : ∃ k : Nat, 100000 < k := ⟨100001, by omega⟩
  refine ⟨k, ?_⟩
  unfold plumbtop_ApiKinds.f
  simp only [Option.bind_some]
  rw [if_pos trivial]
  exact same_l0 _ (by simp) _ k 0 (Nat.zero_add _) (Nat.lt_of_le_of_lt (by simp) hk)

end Go.Proofs.Ytppgngdbbaibmaa.Pure
