/- The laws' begins by contract. No conditions but those told. -/
import Derived.Test.YtmcbniobbbjdjaaTGot
import Derived.BigQuiet
namespace Go.Proofs.Ytmcbniobbbjdjaa.Tree
open Go.RowKit Go.Proofs.YtmcbniobbbjdjaaW.PrintWords Go.Proofs.YtmcbniobbbjdjaaW.PrintLast Go.Proofs.YtmcbniobbbjdjaaW.PrintMore
set_option linter.unusedVariables false
set_option linter.unusedSimpArgs false
theorem begB_false : ∀ (a b : List Int) (k : Nat) (ha : k < a.length) (hb : k < b.length), a.take k = b.take k → a[k] ≠ b[k] → begB a b = false := by
  intro a
  induction a with
  | nil => intro b k ha; exact absurd ha (Nat.not_lt_zero _)
  | cons x a ih =>
    intro b k ha hb ht hne
    cases b with
    | nil => exact absurd hb (Nat.not_lt_zero _)
    | cons y b =>
      cases k with
      | zero =>
        have : ¬ x = y := hne
        simp [begB, this]
      | succ k =>
        rw [List.take_succ_cons, List.take_succ_cons] at ht
        injection ht with h1 h2
        have h3 := ih b k (by simpa using ha) (by simpa using hb) h2 (by simpa using hne)
        simp [begB, h3]
theorem begB_true : ∀ (a b : List Int) (k : Nat), a.take k = b.take k → (a.length ≤ k ∨ b.length ≤ k) → begB a b = true := by
  intro a
  induction a with
  | nil => intro b k _ _; rfl
  | cons x a ih =>
    intro b k ht hk
    cases b with
    | nil => rfl
    | cons y b =>
      cases k with
      | zero => rcases hk with hk | hk <;> simp at hk
      | succ k =>
        rw [List.take_succ_cons, List.take_succ_cons] at ht
        injection ht with h1 h2
        have h3 := ih b k h2 (by rcases hk with hk | hk; exact .inl (by simpa using hk); exact .inr (by simpa using hk))
        simp [begB, h1, h3]
set_option maxRecDepth 100000 in
set_option maxHeartbeats 4000000 in
theorem begins_calls (A B : Option Addr) (c d : Nat) (a b : List Int) (w : World) (ha : Kd.C (Kd.int .i64) w A a.length a) (hb : Kd.C (Kd.int .i64) w B b.length b) (hl : a.length ≤ 1073741824) (hm : b.length ≤ 1073741824) :
    Calls Try.prog 26 #[.slice A a.length c, .slice B b.length d] w fun e w' => e = .returned (.bool (begB a b)) ∧ ∃ n, w' = w.drewN n := by
  have HA := Aside0.mk ha
  have HB := Aside0.mk hb
  clear ha hb
  go_enter Try.func26, Try.ntmps26
  go_wp2_with fail
  go_loopg [5] a.length (fun kq i wr => ∃ k : Nat, k + kq = a.length ∧ k ≤ b.length ∧ i = .int .i64 (k : Int) ∧ Aside0 (a.take k = b.take k) ∧ ∃ m, wr = w.drewN m)
  case atStart => exact ⟨0, by omega, Nat.zero_le _, rfl, ⟨rfl⟩, 0, rfl⟩
  case round =>
    obtain ⟨k, hk, hkb, rfl, HT, m, rfl⟩ := hrel
    cases gk with
    | zero =>
      have hlt : ¬ ((k : Int) < (a.length : Int)) := by omega
      have HE := Aside0.mk (begB_true a b k HT.out (.inl (by omega)))
      go_wp2_with fail
      go_ret
      exact ⟨ret_b HE.out.symm, m, rfl⟩
    | succ kq =>
      have hlt : (k : Int) < (a.length : Int) := by omega
      by_cases hkb2 : k < b.length
      · have hltb : (k : Int) < (b.length : Int) := by omega
        have hlt1 : k < a.length := by omega
        obtain ⟨x1, e1, p0⟩ := at_I HA.out k rfl hlt1
        obtain ⟨x2, e2, p1⟩ := at_I HB.out k rfl hkb2
        subst e1 e2
        have k0 : (0 : Int) ≤ (k : Int) := by omega
        by_cases hx : a[k] = b[k]
        · have HT2 := Aside0.mk (show a.take (k + 1) = b.take (k + 1) by rw [List.take_succ_eq_append_getElem hlt1, List.take_succ_eq_append_getElem hkb2, HT.out, hx])
          obtain ⟨y, hy⟩ : ∃ y, y = b[k] := ⟨_, rfl⟩
          rw [hx, ← hy] at p0
          rw [← hy] at p1
          clear hx hy
          go_wp2_with fail
          go_quiet (fail)
          go_wp2_with fail
          go_roundg kq
          case measure => omega
          case rel => exact ⟨k + 1, by omega, by omega, by go_num, HT2, _, rfl⟩
        · have HE := Aside0.mk (begB_false a b k hlt1 hkb2 HT.out hx)
          obtain ⟨x, hx1⟩ : ∃ y, y = a[k] := ⟨_, rfl⟩
          obtain ⟨y, hy⟩ : ∃ y, y = b[k] := ⟨_, rfl⟩
          rw [← hx1, ← hy] at hx
          rw [← hx1] at p0
          rw [← hy] at p1
          have q0 : (x == y) = false := beq_eq_false_iff_ne.mpr hx
          have q1 : (x != y) = true := bne_iff_ne.mpr hx
          clear hx1 hy
          go_wp2_with fail
          go_quiet (fail)
          go_wp2_with fail
          go_ret
          exact ⟨ret_b HE.out.symm, _, World.drewN_drewN _ _ _⟩
      · have hltb : ¬ ((k : Int) < (b.length : Int)) := by omega
        have HE := Aside0.mk (begB_true a b k HT.out (.inr (by omega)))
        go_wp2_with fail
        go_ret
        exact ⟨ret_b HE.out.symm, m, rfl⟩
end Go.Proofs.Ytmcbniobbbjdjaa.Tree
