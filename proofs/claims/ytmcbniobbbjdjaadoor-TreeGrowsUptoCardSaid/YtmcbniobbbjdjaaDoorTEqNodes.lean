/- The laws' eqNodes by contract, at equal lists. No conditions but those told. -/
import Derived.Test.YtmcbniobbbjdjaaDoorTSame
import Derived.Test.YtmcbniobbbjdjaaDoorTFind
import Derived.BigQuiet
namespace Go.Proofs.YtmcbniobbbjdjaaDoor.Tree
open Go.RowKit Go.Proofs.YtmcbniobbbjdjaaDoorW.PrintWords Go.Proofs.YtmcbniobbbjdjaaDoorW.PrintLast Go.Proofs.YtmcbniobbbjdjaaDoorW.PrintMore
set_option linter.unusedVariables false
set_option linter.unusedSimpArgs false
theorem rd_Nd_at (l : List Nd) (k : Nat) (h : k < l.length) : rd_Nd l (k : Int) = l[k] := by simp [rd_Nd, List.getD_eq_getElem?_getD, h]
set_option maxRecDepth 100000 in
set_option maxHeartbeats 8000000 in
theorem eqNodes_calls (A B : Option Addr) (c d : Nat) (l : List Nd) (w : World) (ha : Kd.C kNd w A l.length l) (hb : Kd.C kNd w B l.length l) (hl : l.length ≤ 1073741824) (hm : ∀ x ∈ l, x.f1.length ≤ 1073741824 ∧ x.f2.length ≤ 1073741824) :
    Calls Tryd.prog 16 #[.slice A l.length c, .slice B l.length d] w fun e w' => e = .returned (.bool true) ∧ ∃ n, w' = w.drewN n := by
  have HA := Aside0.mk ha
  have HB := Aside0.mk hb
  have HM := Aside0.mk hm
  have hun := Tryd.underlying54
  clear ha hb hm
  go_enter Tryd.func16, Tryd.ntmps16
  go_wp2_with fail
  go_loopg [5] l.length (fun kq i wr => ∃ k : Nat, k + kq = l.length ∧ i = .int .i64 (k : Int) ∧ ∃ m, wr = w.drewN m)
  case atStart => exact ⟨0, by omega, rfl, 0, rfl⟩
  case round =>
    obtain ⟨k, hk, rfl, m, rfl⟩ := hrel
    cases gk with
    | zero =>
      have hlt : ¬ ((k : Int) < (l.length : Int)) := by omega
      go_wp2_with fail
      go_ret
      exact ⟨rfl, m, rfl⟩
    | succ kq =>
      have hlt : (k : Int) < (l.length : Int) := by omega
      have hlt1 : k < l.length := by omega
      have k0 : (0 : Int) ≤ (k : Int) := by omega
      obtain ⟨a1, S1, s1, L1, l1, e1, p0, p1, p2, i1, j1, i2, j2⟩ := at_Nd HA.out (k : Int) (by omega) (by omega)
      obtain ⟨a2, S2, s2, L2, l2, e2, q0, q1, q2, i3, j3, i4, j4⟩ := at_Nd HB.out (k : Int) (by omega) (by omega)
      subst e1 e2
      have hmm := HM.out l[k] (List.getElem_mem hlt1)
      rw [rd_Nd_at _ _ hlt1, Int.toNat_natCast] at p0 p1 p2 q0 q1 q2
      rw [rd_Nd_at _ _ hlt1] at i1 j1 i2 j2 i3 j3 i4 j4
      obtain ⟨x, hx⟩ : ∃ x, x = l[k] := ⟨_, rfl⟩
      rw [← hx] at p0 p1 p2 q0 q1 q2 i1 j1 i2 j2 i3 j3 i4 j4 hmm
      clear hx
      have HS1 := Aside0.mk j1
      have HS2 := Aside0.mk j3
      have HQ := Aside0.mk (fun n => eqLines_calls L1 L2 l1 l2 x.f2 x.f2 (w.drewN n) (Kd.C_below j2 (pw_below_drewN (Below.refl _ _) n)) (Kd.C_below j4 (pw_below_drewN (Below.refl _ _) n)) hmm.2)
      rw [eqL_true rfl] at HQ
      obtain ⟨hm1, hm2⟩ := hmm
      clear j1 j2 j3 j4 i1 i2 i3 i4 hm2
      go_wp2_with fail
      go_quiet ((refine (HQ.out _).mono ?_; rintro e w' ⟨rfl, nd, rfl⟩; exact ⟨rfl, _, (World.drewN_drewN _ _ _).trans (congrArg w.drewN (Nat.add_assoc _ _ _))⟩))
      go_wp2_with fail
      go_loopg [6] x.f1.length (fun kq i wr => ∃ j : Nat, j + kq = x.f1.length ∧ i = .int .i64 (j : Int) ∧ ∃ m, wr = w.drewN m)
      case atStart => exact ⟨0, by omega, rfl, _, World.drewN_drewN _ _ _⟩
      case round =>
        obtain ⟨j, hj, rfl, m2, rfl⟩ := hrel
        cases gk with
        | zero =>
          have hjl : ¬ ((j : Int) < (x.f1.length : Int)) := by omega
          go_wp2_with fail
          go_roundg kq
          case measure => omega
          case rel => exact ⟨k + 1, by omega, by go_num, _, rfl⟩
        | succ kj =>
          have hjl : (j : Int) < (x.f1.length : Int) := by omega
          have hj1 : j < x.f1.length := by omega
          have j0 : (0 : Int) ≤ (j : Int) := by omega
          obtain ⟨b1, f1, r1⟩ := at_I HS1.out j rfl hj1
          obtain ⟨b2, f2, r2⟩ := at_I HS2.out j rfl hj1
          subst f1 f2
          obtain ⟨y, hy⟩ : ∃ y, y = x.f1[j] := ⟨_, rfl⟩
          rw [← hy] at r1 r2
          clear hy
          go_wp2_with fail
          go_quiet (fail)
          go_wp2_with fail
          go_roundg kj
          case measure => omega
          case rel => exact ⟨j + 1, by omega, by go_num, _, rfl⟩
end Go.Proofs.YtmcbniobbbjdjaaDoor.Tree
