/- Classes of patterns, lists of finite points by contracts. No conditions. -/
import Derived.Test.YtiiolhnpnlmkjaaDoorTLeaf
import Derived.BigQuiet
import Derived.RegionTactic
namespace Go.Proofs.YtiiolhnpnlmkjaaDoor.Tree
open Go.RowKit Go.Proofs.YtiiolhnpnlmkjaaDoorW.PrintWords Go.Proofs.YtiiolhnpnlmkjaaDoorW.PrintLast Go.Proofs.YtiiolhnpnlmkjaaDoorW.PrintMore
set_option linter.unusedVariables false
set_option linter.unusedSimpArgs false
def expo (x : Int) : Int := wrap64 (Go.bits .and .u64 (x / 4503599627370496) 2047)
def frac (x : Int) : Int := Go.bits .and .u64 x 4503599627370495
def classOf (x : Int) : Int := if expo x = 0 then (if frac x = 0 then 0 else 1) else if expo x < 2047 then 2 else if frac x = 0 then 3 else 4
set_option maxHeartbeats 1000000 in
theorem fields_calls (x : Int) (w : World) : Calls Tryd.prog 111 #[.int .u64 x] w fun e w' => e = .returned (.tuple #[.int .i64 (expo x), .int .u64 (frac x)]) ∧ w' = w := by
  go_enter Tryd.func111, Tryd.ntmps111
  go_wp2_with fail
  go_ret2
  exact ⟨rfl, rfl⟩
set_option maxHeartbeats 1000000 in
theorem class_calls (x : Int) (w : World) : Calls Tryd.prog 109 #[.int .u64 x] w fun e w' => e = .returned (.int .i64 (classOf x)) ∧ w' = w := by
  unfold classOf
  obtain ⟨a, ha⟩ : ∃ a, a = expo x := ⟨_, rfl⟩
  obtain ⟨b, hb⟩ : ∃ b, b = frac x := ⟨_, rfl⟩
  have hc := fields_calls x w
  rw [← ha, ← hb] at hc ⊢
  have HC := Aside0.mk hc
  clear hc ha hb
  by_cases h0 : a = 0
  · subst h0
    by_cases h1 : b = 0
    · subst h1
      go_enter Tryd.func109, Tryd.ntmps109
      go_wp2_with fail
      refine HC.out.mono ?_
      rintro e w' ⟨rfl, rfl⟩
      go_wp2_with fail
      go_ret
      exact ⟨rfl, rfl⟩
    · have q1 : (b == 0) = false := beq_eq_false_iff_ne.mpr h1
      go_enter Tryd.func109, Tryd.ntmps109
      go_wp2_with fail
      refine HC.out.mono ?_
      rintro e w' ⟨rfl, rfl⟩
      go_wp2_with fail
      go_ret
      exact ⟨rfl, rfl⟩
  · have q0 : (a == 0) = false := beq_eq_false_iff_ne.mpr h0
    by_cases h2 : a < 2047
    · go_enter Tryd.func109, Tryd.ntmps109
      go_wp2_with fail
      refine HC.out.mono ?_
      rintro e w' ⟨rfl, rfl⟩
      go_wp2_with fail
      go_ret
      exact ⟨rfl, rfl⟩
    · by_cases h1 : b = 0
      · subst h1
        go_enter Tryd.func109, Tryd.ntmps109
        go_wp2_with fail
        refine HC.out.mono ?_
        rintro e w' ⟨rfl, rfl⟩
        go_wp2_with fail
        go_ret
        exact ⟨rfl, rfl⟩
      · have q1 : (b == 0) = false := beq_eq_false_iff_ne.mpr h1
        go_enter Tryd.func109, Tryd.ntmps109
        go_wp2_with fail
        refine HC.out.mono ?_
        rintro e w' ⟨rfl, rfl⟩
        go_wp2_with fail
        go_ret
        exact ⟨rfl, rfl⟩
/-- Is a pattern a number's? -/
def finC (C : Int → Int) (x : Int) : Bool := decide (C x ≤ 2)
def finLC (C : Int → Int) (l : List Pt) : Bool := l.all fun p => finC C p.f0 && finC C p.f1
theorem rd_Pt_at (l : List Pt) (k : Nat) (h : k < l.length) : rd_Pt l (k : Int) = l[k] := by simp [rd_Pt, List.getD_eq_getElem?_getD, h]
theorem finLC_take (C : Int → Int) (l : List Pt) (k : Nat) (h : k < l.length) : finLC C (l.take (k + 1)) = (finLC C (l.take k) && (finC C l[k].f0 && finC C l[k].f1)) := by
  unfold finLC
  rw [List.take_succ_eq_append_getElem h, List.all_append]; simp
theorem finLC_bad {C : Int → Int} {l : List Pt} (k : Nat) (h : k < l.length) (hb : (finC C l[k].f0 && finC C l[k].f1) = false) : finLC C l = false := by
  unfold finLC
  rw [List.all_eq_false]
  exact ⟨l[k], List.getElem_mem h, by simpa using hb⟩
set_option maxRecDepth 100000 in
set_option maxHeartbeats 4000000 in
theorem finite_aux (C : Int → Int) (HCl : Aside0 (∀ x (w : World), Calls Tryd.prog 109 #[.int .u64 x] w fun e w' => e = .returned (.int .i64 (C x)) ∧ w' = w)) (A : Option Addr) (c : Nat) (l : List Pt) (w : World) (hC : Kd.C kPt w A l.length l) (hl : l.length ≤ 1073741824) :
    Calls Tryd.prog 99 #[.slice A l.length c] w fun e w' => e = .returned (.bool (finLC C l)) ∧ Below w.heap.size w w' := by
  have HC := Aside0.mk hC
  clear hC
  go_enter Tryd.func99, Tryd.ntmps99
  go_wp2_with fail
  go_loopg [7] l.length (fun kq i wr => ∃ k : Nat, k + kq = l.length ∧ i = .int .i64 (k : Int) ∧ Aside0 (finLC C (l.take k) = true) ∧ Aside0 (Below w.heap.size w wr))
  case atStart => exact ⟨0, by omega, rfl, ⟨rfl⟩, ⟨Below.refl _ _⟩⟩
  case round =>
    obtain ⟨k, hk, rfl, HF, HB⟩ := hrel
    cases gk with
    | zero =>
      have hlt : ¬ ((k : Int) < (l.length : Int)) := by omega
      obtain rfl : k = l.length := by omega
      go_wp2_with fail
      go_ret
      exact ⟨ret_b (by have := HF.out; rw [List.take_length] at this; exact this.symm), HB.out⟩
    | succ kq =>
      have hlt : k < l.length := by omega
      obtain ⟨ad, ea, hx0, hx1⟩ := at_Pt HC.out (k : Int) (by omega) (by omega)
      subst ea
      rw [rd_Pt_at _ _ hlt, Int.toNat_natCast] at hx0 hx1
      have p0 := cell_below HB.out hx0
      have p1 := cell_below HB.out hx1
      have HE := Aside0.mk (finLC_take C l k hlt)
      clear hx0 hx1
      by_cases b0 : C l[k].f0 ≤ 2
      · have c0 : ¬ (2 < C l[k].f0) := by omega
        by_cases b1 : C l[k].f1 ≤ 2
        · have c1 : ¬ (2 < C l[k].f1) := by omega
          go_wp2_with fail
          refine (HCl.out _ _).mono ?_
          rintro e w' ⟨rfl, rfl⟩
          go_wp2_with fail
          refine (HCl.out _ _).mono ?_
          rintro e w' ⟨rfl, rfl⟩
          go_wp2_with fail
          go_roundg kq
          case measure => omega
          case rel => exact ⟨k + 1, by omega, by go_num, ⟨by rw [HE.out, HF.out]; simp [finC, b0, b1]⟩, ⟨below_alloc HB.out _⟩⟩
        · have c1 : 2 < C l[k].f1 := by omega
          go_wp2_with fail
          refine (HCl.out _ _).mono ?_
          rintro e w' ⟨rfl, rfl⟩
          go_wp2_with fail
          refine (HCl.out _ _).mono ?_
          rintro e w' ⟨rfl, rfl⟩
          go_wp2_with fail
          go_ret
          refine ⟨ret_b (finLC_bad k hlt ?_).symm, below_alloc HB.out _⟩
          simp [finC, b1]
      · have c0 : 2 < C l[k].f0 := by omega
        go_wp2_with fail
        refine (HCl.out _ _).mono ?_
        rintro e w' ⟨rfl, rfl⟩
        go_wp2_with fail
        go_ret
        refine ⟨ret_b (finLC_bad k hlt ?_).symm, below_alloc HB.out _⟩
        have q0 : finC C l[k].f0 = false := by simp [finC, c0]
        rw [q0]; rfl
def finB (x : Int) : Bool := finC classOf x
def finL (l : List Pt) : Bool := finLC classOf l
theorem finite_calls (A : Option Addr) (c : Nat) (l : List Pt) (w : World) (hC : Kd.C kPt w A l.length l) (hl : l.length ≤ 1073741824) :
    Calls Tryd.prog 99 #[.slice A l.length c] w fun e w' => e = .returned (.bool (finL l)) ∧ Below w.heap.size w w' := finite_aux classOf ⟨class_calls⟩ A c l w hC hl
end Go.Proofs.YtiiolhnpnlmkjaaDoor.Tree
