/- Lists of points compared: EqualLines, sameLine by contracts. No conditions but those told. -/
import Derived.Test.YtmcbniobbbjdjaaDoorTClass
import Derived.BigQuiet
namespace Go.Proofs.YtmcbniobbbjdjaaDoor.Tree
open Go.RowKit Go.Proofs.YtmcbniobbbjdjaaDoorW.PrintWords Go.Proofs.YtmcbniobbbjdjaaDoorW.PrintLast Go.Proofs.YtmcbniobbbjdjaaDoorW.PrintMore
set_option linter.unusedVariables false
set_option linter.unusedSimpArgs false
deriving instance DecidableEq for Pt
def eqL (a b : List Pt) : Bool := decide (a = b)
theorem eqL_true {a b : List Pt} (h : a = b) : eqL a b = true := decide_eq_true h
theorem eqL_false {a b : List Pt} (h : a ≠ b) : eqL a b = false := decide_eq_false h
theorem eqL_iff (a b : List Pt) : eqL a b = true ↔ a = b := decide_eq_true_iff
set_option maxRecDepth 100000 in
set_option maxHeartbeats 4000000 in
theorem eqLines_calls (A B : Option Addr) (c d : Nat) (a b : List Pt) (w : World) (ha : Kd.C kPt w A a.length a) (hb : Kd.C kPt w B b.length b) (hl : a.length ≤ 1073741824) :
    Calls Tryd.prog 37 #[.slice A a.length c, .slice B b.length d] w fun e w' => e = .returned (.bool (eqL a b)) ∧ ∃ n, w' = w.drewN n := by
  have hu := Tryd.underlying65
  have HA := Aside0.mk ha
  have HB := Aside0.mk hb
  clear ha hb
  by_cases hn : a.length = b.length
  · have q1 : ((a.length : Int) == (b.length : Int)) = true := beq_iff_eq.mpr (by omega)
    have q2 : ((a.length : Int) != (b.length : Int)) = false := bne_eq_false_iff_eq.mpr (by omega)
    have HN := Aside0.mk hn
    clear hn
    go_enter Tryd.func37, Tryd.ntmps37
    go_wp2_with fail
    go_loopg [5] a.length (fun kq i wr => ∃ k : Nat, k + kq = a.length ∧ i = .int .i64 (k : Int) ∧ Aside0 (a.take k = b.take k) ∧ ∃ m, wr = w.drewN m)
    case atStart => exact ⟨0, by omega, rfl, ⟨rfl⟩, 0, rfl⟩
    case round =>
      obtain ⟨k, hk, rfl, HT, m, rfl⟩ := hrel
      cases gk with
      | zero =>
        have hlt : ¬ ((k : Int) < (a.length : Int)) := by omega
        obtain rfl : k = a.length := by omega
        go_wp2_with fail
        go_ret
        refine ⟨ret_b ?_, m, rfl⟩
        have h := HT.out
        rw [List.take_length, HN.out, List.take_length] at h
        rw [eqL_true h]
      | succ kq =>
        have hlt : (k : Int) < (a.length : Int) := by omega
        have hlt1 : k < a.length := by omega
        have hltb' : k < b.length := by have := HN.out; omega
        have hltb : (k : Int) < (b.length : Int) := by omega
        obtain ⟨x1, e1, p0, p1⟩ := at_Pt HA.out (k : Int) (by omega) (by omega)
        obtain ⟨x2, e2, r0, r1⟩ := at_Pt HB.out (k : Int) (by omega) (by omega)
        subst e1 e2
        rw [rd_Pt_at _ _ hlt1, Int.toNat_natCast] at p0 p1
        rw [rd_Pt_at _ _ hltb', Int.toNat_natCast] at r0 r1
        obtain ⟨u, hu1⟩ : ∃ u, u = a[k] := ⟨_, rfl⟩
        obtain ⟨v, hv1⟩ : ∃ v, v = b[k] := ⟨_, rfl⟩
        rw [← hu1] at p0 p1
        rw [← hv1] at r0 r1
        have HU := Aside0.mk hu1
        have HV := Aside0.mk hv1
        clear hu1 hv1
        obtain ⟨u0, u1⟩ := u
        obtain ⟨v0, v1⟩ := v
        dsimp only at p0 p1 r0 r1
        by_cases h0 : u0 = v0
        · have s0 : (u0 == v0) = true := beq_iff_eq.mpr h0
          by_cases h1 : u1 = v1
          · have s1 : (u1 == v1) = true := beq_iff_eq.mpr h1
            have HE := Aside0.mk (show a.take (k + 1) = b.take (k + 1) by
              rw [List.take_succ_eq_append_getElem hlt1, List.take_succ_eq_append_getElem hltb', HT.out, ← HU.out, ← HV.out, h0, h1])
            clear h0 h1
            go_wp2_with fail
            go_quiet (fail)
            go_wp2_with fail
            go_roundg kq
            case measure => omega
            case rel => exact ⟨k + 1, by omega, by go_num, HE, _, rfl⟩
          · have s1 : (u1 == v1) = false := beq_eq_false_iff_ne.mpr h1
            have HE := Aside0.mk (show a ≠ b by rintro rfl; have := HU.out.trans HV.out.symm; injection this; contradiction)
            clear h0 h1
            go_wp2_with fail
            go_quiet (fail)
            go_wp2_with fail
            go_ret
            exact ⟨ret_b (eqL_false HE.out).symm, _, World.drewN_drewN _ _ _⟩
        · have s0 : (u0 == v0) = false := beq_eq_false_iff_ne.mpr h0
          have HE := Aside0.mk (show a ≠ b by rintro rfl; have := HU.out.trans HV.out.symm; injection this; contradiction)
          clear h0
          go_wp2_with fail
          go_quiet (fail)
          go_wp2_with fail
          go_ret
          exact ⟨ret_b (eqL_false HE.out).symm, _, World.drewN_drewN _ _ _⟩
  · have q1 : ((a.length : Int) == (b.length : Int)) = false := beq_eq_false_iff_ne.mpr (by omega)
    have q2 : ((a.length : Int) != (b.length : Int)) = true := bne_iff_ne.mpr (by omega)
    have HE := Aside0.mk (show a ≠ b by rintro rfl; exact hn rfl)
    clear hn
    go_enter Tryd.func37, Tryd.ntmps37
    go_wp2_with fail
    go_ret
    exact ⟨ret_b (eqL_false HE.out).symm, 0, rfl⟩
set_option maxRecDepth 100000 in
set_option maxHeartbeats 4000000 in
theorem sameLine_calls (A B : Option Addr) (c d : Nat) (a b : List Pt) (w : World) (ha : Kd.C kPt w A a.length a) (hb : Kd.C kPt w B b.length b) (hl : a.length ≤ 1073741824) :
    Calls Tryd.prog 44 #[.slice A a.length c, .slice B b.length d] w fun e w' => e = .returned (.bool (eqL a b)) ∧ ∃ n, w' = w.drewN n := by
  have hu := Tryd.underlying65
  have HA := Aside0.mk ha
  have HB := Aside0.mk hb
  clear ha hb
  by_cases hn : a.length = b.length
  · have q1 : ((a.length : Int) == (b.length : Int)) = true := beq_iff_eq.mpr (by omega)
    have q2 : ((a.length : Int) != (b.length : Int)) = false := bne_eq_false_iff_eq.mpr (by omega)
    have HN := Aside0.mk hn
    clear hn
    go_enter Tryd.func44, Tryd.ntmps44
    go_wp2_with fail
    go_loopg [13] a.length (fun kq i wr => ∃ k : Nat, k + kq = a.length ∧ i = .int .i64 (k : Int) ∧ Aside0 (a.take k = b.take k) ∧ ∃ m, wr = w.drewN m)
    case atStart => exact ⟨0, by omega, rfl, ⟨rfl⟩, 0, rfl⟩
    case round =>
      obtain ⟨k, hk, rfl, HT, m, rfl⟩ := hrel
      cases gk with
      | zero =>
        have hlt : ¬ ((k : Int) < (a.length : Int)) := by omega
        obtain rfl : k = a.length := by omega
        go_wp2_with fail
        go_ret
        refine ⟨ret_b ?_, m, rfl⟩
        have h := HT.out
        rw [List.take_length, HN.out, List.take_length] at h
        rw [eqL_true h]
      | succ kq =>
        have hlt : (k : Int) < (a.length : Int) := by omega
        have hlt1 : k < a.length := by omega
        have hltb' : k < b.length := by have := HN.out; omega
        have hltb : (k : Int) < (b.length : Int) := by omega
        obtain ⟨x1, e1, p0, p1⟩ := at_Pt HA.out (k : Int) (by omega) (by omega)
        obtain ⟨x2, e2, r0, r1⟩ := at_Pt HB.out (k : Int) (by omega) (by omega)
        subst e1 e2
        rw [rd_Pt_at _ _ hlt1, Int.toNat_natCast] at p0 p1
        rw [rd_Pt_at _ _ hltb', Int.toNat_natCast] at r0 r1
        obtain ⟨u, hu1⟩ : ∃ u, u = a[k] := ⟨_, rfl⟩
        obtain ⟨v, hv1⟩ : ∃ v, v = b[k] := ⟨_, rfl⟩
        rw [← hu1] at p0 p1
        rw [← hv1] at r0 r1
        have HU := Aside0.mk hu1
        have HV := Aside0.mk hv1
        clear hu1 hv1
        obtain ⟨u0, u1⟩ := u
        obtain ⟨v0, v1⟩ := v
        dsimp only at p0 p1 r0 r1
        by_cases h0 : u0 = v0
        · have s0 : (u0 == v0) = true := beq_iff_eq.mpr h0
          by_cases h1 : u1 = v1
          · have s1 : (u1 == v1) = true := beq_iff_eq.mpr h1
            have HE := Aside0.mk (show a.take (k + 1) = b.take (k + 1) by
              rw [List.take_succ_eq_append_getElem hlt1, List.take_succ_eq_append_getElem hltb', HT.out, ← HU.out, ← HV.out, h0, h1])
            clear h0 h1
            go_wp2_with fail
            go_quiet (fail)
            go_wp2_with fail
            go_roundg kq
            case measure => omega
            case rel => exact ⟨k + 1, by omega, by go_num, HE, _, rfl⟩
          · have s1 : (u1 == v1) = false := beq_eq_false_iff_ne.mpr h1
            have HE := Aside0.mk (show a ≠ b by rintro rfl; have := HU.out.trans HV.out.symm; injection this; contradiction)
            clear h0 h1
            go_wp2_with fail
            go_quiet (fail)
            go_wp2_with fail
            go_ret
            exact ⟨ret_b (eqL_false HE.out).symm, _, World.drewN_drewN _ _ _⟩
        · have s0 : (u0 == v0) = false := beq_eq_false_iff_ne.mpr h0
          have HE := Aside0.mk (show a ≠ b by rintro rfl; have := HU.out.trans HV.out.symm; injection this; contradiction)
          clear h0
          go_wp2_with fail
          go_quiet (fail)
          go_wp2_with fail
          go_ret
          exact ⟨ret_b (eqL_false HE.out).symm, _, World.drewN_drewN _ _ _⟩
  · have q1 : ((a.length : Int) == (b.length : Int)) = false := beq_eq_false_iff_ne.mpr (by omega)
    have q2 : ((a.length : Int) != (b.length : Int)) = true := bne_iff_ne.mpr (by omega)
    have HE := Aside0.mk (show a ≠ b by rintro rfl; exact hn rfl)
    clear hn
    go_enter Tryd.func44, Tryd.ntmps44
    go_wp2_with fail
    go_ret
    exact ⟨ret_b (eqL_false HE.out).symm, 0, rfl⟩
end Go.Proofs.YtmcbniobbbjdjaaDoor.Tree
