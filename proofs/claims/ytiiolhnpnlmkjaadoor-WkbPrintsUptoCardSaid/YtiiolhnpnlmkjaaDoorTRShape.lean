/- The reference's Finite and shaped by contracts. No conditions but those told. -/
import Derived.RangeFuncRecord
import Derived.Test.YtiiolhnpnlmkjaaDoorTSmall
import Derived.Test.YtiiolhnpnlmkjaaDoorTWrong
import Derived.Laws.BitsAllLaws
namespace Go.Proofs.YtiiolhnpnlmkjaaDoor.Tree
open Go.RowKit Go.Proofs.YtiiolhnpnlmkjaaDoorW.PrintWords Go.Proofs.YtiiolhnpnlmkjaaDoorW.PrintLast Go.Proofs.YtiiolhnpnlmkjaaDoorW.PrintMore
set_option linter.unusedVariables false
set_option linter.unusedSimpArgs false
theorem and2047_le (y : Int) : 0 ≤ Go.bits .and .u64 y 2047 ∧ Go.bits .and .u64 y 2047 ≤ 2047 := by
  have e : Go.bits .and .u64 y 2047 = IntKind.u64.wrap ((BitVec.ofInt 64 y &&& BitVec.ofInt 64 2047).toNat : Int) := rfl
  rw [e, BitVec.toNat_and, IntKind.wrap_u64]
  have h : (BitVec.ofInt 64 y).toNat &&& (BitVec.ofInt 64 2047).toNat ≤ 2047 := by
    have h2 : (BitVec.ofInt 64 2047).toNat = 2047 := by decide
    rw [h2]
    exact Nat.and_le_right
  omega
theorem expo_le (x : Int) : 0 ≤ expo x ∧ expo x ≤ 2047 := by
  have h := and2047_le (x / 4503599627370496)
  unfold expo
  unfold wrap64
  omega
theorem finC_iff (x : Int) : finC classOf x = decide (expo x ≠ 2047) := by
  have h := expo_le x
  unfold finC classOf
  rw [decide_eq_decide]
  constructor
  · intro h1 h2
    rw [h2] at h1
    simp at h1
    split at h1 <;> omega
  · intro h1
    split
    · split <;> omega
    · rw [if_pos (by omega)]; omega
set_option maxHeartbeats 1000000 in
theorem rfields_calls (x : Int) (w : World) : Calls Tryd.prog 96 #[.int .u64 x] w fun e w' => (∃ b, e = .returned (.tuple #[.bool b, .int .i64 (expo x), .int .u64 (frac x)])) ∧ w' = w := by
  go_enter Tryd.func96, Tryd.ntmps96
  go_wp2_with fail
  go_ret3
  exact ⟨⟨_, rfl⟩, rfl⟩
set_option maxHeartbeats 1000000 in
theorem Finite_calls (x : Int) (w : World) : Calls Tryd.prog 66 #[.int .u64 x] w fun e w' => e = .returned (.bool (finC classOf x)) ∧ w' = w := by
  have hc := rfields_calls x w
  rw [finC_iff]
  obtain ⟨a, ha⟩ : ∃ a, a = expo x := ⟨_, rfl⟩
  obtain ⟨b, hb⟩ : ∃ b, b = frac x := ⟨_, rfl⟩
  rw [← ha] at hc ⊢
  rw [← hb] at hc
  have HC := Aside0.mk hc
  clear hc ha hb
  go_enter Tryd.func66, Tryd.ntmps66
  go_wp2_with fail
  refine HC.out.mono ?_
  rintro e w' ⟨⟨s, rfl⟩, rfl⟩
  by_cases h : a = 2047
  · have q : (a != 2047) = false := bne_eq_false_iff_eq.mpr h
    go_wp2_with fail
    go_ret
    exact ⟨ret_b (by simp [h]), rfl⟩
  · have q : (a != 2047) = true := bne_iff_ne.mpr h
    go_wp2_with fail
    go_ret
    exact ⟨ret_b (by simp [h]), rfl⟩
/-! ### shaped -/
def kindB (k : Int) : Bool := decide (1 ≤ k) && decide (k ≤ 7)
def lacksB (g : Ge) : Bool := (decide (0 < g.f1.length) && decide (2 < g.f0)) || ((decide (0 < g.f2.length) && decide (g.f0 ≠ 3)) || (decide (0 < g.f3.length) && decide (g.f0 < 4)))
def shapedB (x : It) : Bool := kindB x.f0.f0 && (fitsB x.f0.f0 x.f2 && (!lacksB x.f0 && ((x.f0.f2.all fun r => !r.isEmpty) && (decide (x.f0.f0 ≠ 1) || decide (x.f0.f1.length ≤ 1)))))
theorem shaped_eq (x : It) : shapedB x = (listsB x.f0 && fitsB x.f0.f0 x.f2) := by
  obtain ⟨⟨k, l, r, p⟩, lv, o⟩ := x
  unfold shapedB listsB kindB lacksB
  dsimp only
  have hR : r.length = 0 → (r.all fun r => !r.isEmpty) = true := by
    intro h
    rw [List.length_eq_zero_iff.1 h]
    rfl
  generalize (r.all fun r => !r.isEmpty) = R at hR ⊢
  generalize fitsB k o = F
  generalize l.length = a at *
  generalize r.length = b at *
  generalize p.length = c at *
  cases F with
  | false => simp
  | true =>
    rw [Bool.eq_iff_iff]
    cases R with
    | false =>
      have hb : b ≠ 0 := fun e => by cases hR e
      by_cases h1 : k = 1
      · simp [h1, hb]
      · by_cases h2 : k = 2
        · simp [h2, hb]
        · by_cases h3 : k = 3
          · simp [h3]
          · by_cases h4 : k = 4 ∨ k = 5 ∨ k = 6 ∨ k = 7
            · rw [if_neg h1, if_neg h2, if_neg h3, if_pos h4]; simp [hb]
            · rw [if_neg h1, if_neg h2, if_neg h3, if_neg h4]; simp
    | true =>
      by_cases h1 : k = 1
      · subst h1; simp <;> omega
      · by_cases h2 : k = 2
        · subst h2; simp <;> omega
        · by_cases h3 : k = 3
          · subst h3; simp <;> omega
          · by_cases h4 : k = 4 ∨ k = 5 ∨ k = 6 ∨ k = 7
            · rw [if_neg h1, if_neg h2, if_neg h3, if_pos h4]; simp <;> omega
            · rw [if_neg h1, if_neg h2, if_neg h3, if_neg h4]; simp <;> omega
set_option maxRecDepth 100000 in
set_option maxHeartbeats 8000000 in
theorem shaped_calls (x : It) (A1 A2 A3 : Option Addr) (c1 c2 c3 : Nat) (w : World) (hG : IsG w (.agg #[.int .i64 x.f0.f0, .slice A1 x.f0.f1.length c1, .slice A2 x.f0.f2.length c2, .slice A3 x.f0.f3.length c3]) x.f0) (hs : x.f0.bulk ≤ 1073741824) :
    Calls Tryd.prog 65 #[.agg #[.int .i64 x.f0.f0, .slice A1 x.f0.f1.length c1, .slice A2 x.f0.f2.length c2, .slice A3 x.f0.f3.length c3, .int .i64 x.f1, .int .i64 x.f2]] w fun e w' => e = .returned (.bool (shapedB x)) ∧ Below w.heap.size w w' := by
  have h2 : Kd.C (Kd.slice 82 kPt) w A2 x.f0.f2.length x.f0.f2 := by
    obtain ⟨_, _, _, _, _, _, e, _, _, _, h, _, _⟩ := hG
    cases e
    exact h
  have H2 := Aside0.mk h2
  have hbq := x.f0.bulk_eq
  have hb1 : x.f0.f1.length ≤ 1073741824 := by omega
  have hb2 : x.f0.f2.length ≤ 1073741824 := by omega
  have hb3 : x.f0.f3.length ≤ 1073741824 := by have := bulks_len x.f0.f3; omega
  clear h2 hG hbq hs
  have hun := Tryd.underlying28
  have hui := Tryd.underlying139
  unfold shapedB
  go_enter Tryd.func65, Tryd.ntmps65
  go_upto_region 2 with fail
  obtain ⟨gi, hgi⟩ : ∃ x, x = w.heap.size := ⟨_, rfl⟩
  obtain ⟨gg, hgg⟩ : ∃ x, x = w.heap.size + 1 := ⟨_, rfl⟩
  obtain ⟨W0, hW0⟩ : ∃ y, y = (w.alloc (.cells #[.int .i64 x.f0.f0, .slice A1 x.f0.f1.length c1, .slice A2 x.f0.f2.length c2, .slice A3 x.f0.f3.length c3, .int .i64 x.f1, .int .i64 x.f2] 139)).alloc (.cells #[.int .i64 x.f0.f0, .slice A1 x.f0.f1.length c1, .slice A2 x.f0.f2.length c2, .slice A3 x.f0.f3.length c3] 28) := ⟨_, rfl⟩
  rw [← hW0, ← hgg, ← hgi]
  have ki : W0.heap[gi]? = some (.cells #[.int .i64 x.f0.f0, .slice A1 x.f0.f1.length c1, .slice A2 x.f0.f2.length c2, .slice A3 x.f0.f3.length c3, .int .i64 x.f1, .int .i64 x.f2] 139 (0, 0)) := by rw [hW0, hgi]; exact blk_alloc (World.alloc_heap_new _ _) _
  have kg : W0.heap[gg]? = some (.cells #[.int .i64 x.f0.f0, .slice A1 x.f0.f1.length c1, .slice A2 x.f0.f2.length c2, .slice A3 x.f0.f3.length c3] 28 (0, 0)) := by
    rw [hW0, hgg]
    have h := World.alloc_heap_new (w.alloc (.cells #[.int .i64 x.f0.f0, .slice A1 x.f0.f1.length c1, .slice A2 x.f0.f2.length c2, .slice A3 x.f0.f3.length c3, .int .i64 x.f1, .int .i64 x.f2] 139)) (.cells #[.int .i64 x.f0.f0, .slice A1 x.f0.f1.length c1, .slice A2 x.f0.f2.length c2, .slice A3 x.f0.f3.length c3] 28)
    simpa using h
  have HB := Aside0.mk (show Below w.heap.size w W0 by rw [hW0]; exact below_alloc (below_alloc (Below.refl _ _) _) _)
  clear hW0 hgg
  have HGI := Aside0.mk hgi
  clear hgi
  have z0 : W0.cell? ⟨gg, 0, none⟩ = some (.int .i64 x.f0.f0) := (blk_cell kg 0).trans rfl
  have z1 : W0.cell? ⟨gg, 1, none⟩ = some (.slice A1 x.f0.f1.length c1) := (blk_cell kg 1).trans rfl
  have z2 : W0.cell? ⟨gg, 2, none⟩ = some (.slice A2 x.f0.f2.length c2) := (blk_cell kg 2).trans rfl
  have z3 : W0.cell? ⟨gg, 3, none⟩ = some (.slice A3 x.f0.f3.length c3) := (blk_cell kg 3).trans rfl
  have y2 : W0.cell? ⟨gi, 5, none⟩ = some (.int .i64 x.f2) := (blk_cell ki 5).trans rfl
  clear ki kg
  go_cut [14] (fun c wx => c = .bool (!kindB x.f0.f0) ∧ wx = W0)
  case first =>
    by_cases a1 : x.f0.f0 < 1
    · have b1 : ¬ 1 ≤ x.f0.f0 := by omega
      go_wp2_with fail
      go_meet
      exact ⟨by simp [kindB, b1], rfl⟩
    · have b1 : 1 ≤ x.f0.f0 := by omega
      by_cases a2 : 7 < x.f0.f0
      · have b2 : ¬ x.f0.f0 ≤ 7 := by omega
        go_wp2_with fail
        go_meet
        exact ⟨by simp [kindB, b1, b2], rfl⟩
      · have b2 : x.f0.f0 ≤ 7 := by omega
        go_wp2_with fail
        go_meet
        exact ⟨by simp [kindB, b1, b2], rfl⟩
  case rest =>
  obtain ⟨rfl, rfl⟩ := hcut
  cases hk : kindB x.f0.f0 with
  | false =>
    have HK := Aside0.mk hk
    clear hk
    go_wp2_with fail
    go_ret
    rw [HK.out, Bool.false_and]
    exact ⟨rfl, HB.out⟩
  | true =>
  have HKB := Aside0.mk hk
  have hk17 : 1 ≤ x.f0.f0 ∧ x.f0.f0 ≤ 7 := by unfold kindB at hk; simpa using hk
  clear hk
  go_upto_region 4 with fail
  go_cut [30] (fun c wx => c = .bool (!fitsB x.f0.f0 x.f2) ∧ wx = wc)
  case first =>
    by_cases a1 : 4 ≤ x.f2
    · by_cases a2 : x.f2 ≤ 6
      · have ho : x.f2 = 4 ∨ x.f2 = 5 ∨ x.f2 = 6 := by omega
        by_cases a3 : x.f0.f0 = x.f2 - 3
        · have q1 : (x.f0.f0 == x.f2 - 3) = true := beq_iff_eq.mpr a3
          have q2 : (x.f0.f0 != x.f2 - 3) = false := bne_eq_false_iff_eq.mpr a3
          go_wp2_with fail
          go_meet
          exact ⟨by unfold fitsB; rw [if_pos ho]; simp [a3], rfl⟩
        · have q1 : (x.f0.f0 == x.f2 - 3) = false := beq_eq_false_iff_ne.mpr a3
          have q2 : (x.f0.f0 != x.f2 - 3) = true := bne_iff_ne.mpr a3
          go_wp2_with fail
          go_meet
          exact ⟨by unfold fitsB; rw [if_pos ho]; simp [a3], rfl⟩
      · have ho : ¬ (x.f2 = 4 ∨ x.f2 = 5 ∨ x.f2 = 6) := by omega
        go_wp2_with fail
        go_meet
        exact ⟨by unfold fitsB; rw [if_neg ho]; rfl, rfl⟩
    · have ho : ¬ (x.f2 = 4 ∨ x.f2 = 5 ∨ x.f2 = 6) := by omega
      go_wp2_with fail
      go_meet
      exact ⟨by unfold fitsB; rw [if_neg ho]; rfl, rfl⟩
  case rest =>
  obtain ⟨rfl, rfl⟩ := hcut
  cases hf : fitsB x.f0.f0 x.f2 with
  | false =>
    have HF := Aside0.mk hf
    clear hf
    go_wp2_with fail
    go_ret
    rw [HF.out, Bool.false_and, Bool.and_false]
    exact ⟨rfl, HB.out⟩
  | true =>
  have HF := Aside0.mk hf
  clear hf
  go_upto_region 6 with fail
  go_cut [61] (fun c wx => c = .bool (lacksB x.f0) ∧ wx = wc)
  case first =>
    by_cases l : (0 : Int) < (x.f0.f1.length : Int)
    · have l' : 0 < x.f0.f1.length := by omega
      by_cases k2 : 2 < x.f0.f0
      · go_wp2_with fail
        go_meet
        exact ⟨by rw [lacksB, decide_eq_true (by omega : 0 < x.f0.f1.length), decide_eq_true (by omega : 2 < x.f0.f0)]; rfl, rfl⟩
      · have k2' : ¬ 2 < x.f0.f0 := k2
        by_cases r : (0 : Int) < (x.f0.f2.length : Int)
        · have r' : 0 < x.f0.f2.length := by omega
          have k3 : ¬ x.f0.f0 = 3 := by omega
          have k3a : (x.f0.f0 == 3) = false := beq_eq_false_iff_ne.mpr k3
          have k3b : (x.f0.f0 != 3) = true := bne_iff_ne.mpr k3
          go_wp2_with fail
          go_meet
          exact ⟨by rw [lacksB, decide_eq_true (by omega : 0 < x.f0.f1.length), decide_eq_false (by omega : ¬ 2 < x.f0.f0), decide_eq_true (by omega : 0 < x.f0.f2.length), decide_eq_true (by omega : x.f0.f0 ≠ 3)]; rfl, rfl⟩
        · have r' : ¬ 0 < x.f0.f2.length := by omega
          by_cases p : (0 : Int) < (x.f0.f3.length : Int)
          · have p' : 0 < x.f0.f3.length := by omega
            have k4 : x.f0.f0 < 4 := by omega
            go_wp2_with fail
            go_meet
            exact ⟨by rw [lacksB, decide_eq_true (by omega : 0 < x.f0.f1.length), decide_eq_false (by omega : ¬ 2 < x.f0.f0), decide_eq_false (by omega : ¬ 0 < x.f0.f2.length), decide_eq_true (by omega : 0 < x.f0.f3.length), decide_eq_true (by omega : x.f0.f0 < 4)]; rfl, rfl⟩
          · have p' : ¬ 0 < x.f0.f3.length := by omega
            go_wp2_with fail
            go_meet
            exact ⟨by rw [lacksB, decide_eq_true (by omega : 0 < x.f0.f1.length), decide_eq_false (by omega : ¬ 2 < x.f0.f0), decide_eq_false (by omega : ¬ 0 < x.f0.f2.length), decide_eq_false (by omega : ¬ 0 < x.f0.f3.length)]; rfl, rfl⟩
    · have l' : ¬ 0 < x.f0.f1.length := by omega
      by_cases r : (0 : Int) < (x.f0.f2.length : Int)
      · have r' : 0 < x.f0.f2.length := by omega
        by_cases k3 : x.f0.f0 = 3
        · have k3a : (x.f0.f0 == 3) = true := beq_iff_eq.mpr k3
          have k3b : (x.f0.f0 != 3) = false := bne_eq_false_iff_eq.mpr k3
          have K3 := Aside0.mk k3
          clear k3
          by_cases p : (0 : Int) < (x.f0.f3.length : Int)
          · have p' : 0 < x.f0.f3.length := by omega
            by_cases k4 : x.f0.f0 < 4
            · go_wp2_with fail
              go_meet
              exact ⟨by rw [lacksB, decide_eq_false (by omega : ¬ 0 < x.f0.f1.length), decide_eq_true (by omega : 0 < x.f0.f2.length), decide_eq_false (fun h : x.f0.f0 ≠ 3 => h K3.out), decide_eq_true (by omega : 0 < x.f0.f3.length), decide_eq_true (by omega : x.f0.f0 < 4)]; rfl, rfl⟩
            · have k4' : ¬ x.f0.f0 < 4 := k4
              go_wp2_with fail
              go_meet
              exact ⟨by rw [lacksB, decide_eq_false (by omega : ¬ 0 < x.f0.f1.length), decide_eq_true (by omega : 0 < x.f0.f2.length), decide_eq_false (fun h : x.f0.f0 ≠ 3 => h K3.out), decide_eq_true (by omega : 0 < x.f0.f3.length), decide_eq_false (by omega : ¬ x.f0.f0 < 4)]; rfl, rfl⟩
          · have p' : ¬ 0 < x.f0.f3.length := by omega
            go_wp2_with fail
            go_meet
            exact ⟨by rw [lacksB, decide_eq_false (by omega : ¬ 0 < x.f0.f1.length), decide_eq_true (by omega : 0 < x.f0.f2.length), decide_eq_false (fun h : x.f0.f0 ≠ 3 => h K3.out), decide_eq_false (by omega : ¬ 0 < x.f0.f3.length)]; rfl, rfl⟩
        · have k3a : (x.f0.f0 == 3) = false := beq_eq_false_iff_ne.mpr k3
          have k3b : (x.f0.f0 != 3) = true := bne_iff_ne.mpr k3
          go_wp2_with fail
          go_meet
          exact ⟨by rw [lacksB, decide_eq_false (by omega : ¬ 0 < x.f0.f1.length), decide_eq_true (by omega : 0 < x.f0.f2.length), decide_eq_true (by omega : x.f0.f0 ≠ 3)]; rfl, rfl⟩
      · have r' : ¬ 0 < x.f0.f2.length := by omega
        by_cases p : (0 : Int) < (x.f0.f3.length : Int)
        · have p' : 0 < x.f0.f3.length := by omega
          by_cases k4 : x.f0.f0 < 4
          · go_wp2_with fail
            go_meet
            exact ⟨by rw [lacksB, decide_eq_false (by omega : ¬ 0 < x.f0.f1.length), decide_eq_false (by omega : ¬ 0 < x.f0.f2.length), decide_eq_true (by omega : 0 < x.f0.f3.length), decide_eq_true (by omega : x.f0.f0 < 4)]; rfl, rfl⟩
          · have k4' : ¬ x.f0.f0 < 4 := k4
            go_wp2_with fail
            go_meet
            exact ⟨by rw [lacksB, decide_eq_false (by omega : ¬ 0 < x.f0.f1.length), decide_eq_false (by omega : ¬ 0 < x.f0.f2.length), decide_eq_true (by omega : 0 < x.f0.f3.length), decide_eq_false (by omega : ¬ x.f0.f0 < 4)]; rfl, rfl⟩
        · have p' : ¬ 0 < x.f0.f3.length := by omega
          go_wp2_with fail
          go_meet
          exact ⟨by rw [lacksB, decide_eq_false (by omega : ¬ 0 < x.f0.f1.length), decide_eq_false (by omega : ¬ 0 < x.f0.f2.length), decide_eq_false (by omega : ¬ 0 < x.f0.f3.length)]; rfl, rfl⟩
  case rest =>
  obtain ⟨rfl, rfl⟩ := hcut
  cases hl : lacksB x.f0 with
  | true =>
    have HL := Aside0.mk hl
    clear hl
    go_wp2_with fail
    go_ret
    rw [HL.out, Bool.not_true, Bool.false_and, Bool.and_false, Bool.and_false]
    exact ⟨rfl, HB.out⟩
  | false =>
  have HL := Aside0.mk hl
  clear hl
  go_wp2_with fail
  go_loopg [4] x.f0.f2.length (fun kq i wr => ∃ j : Nat, j + kq = x.f0.f2.length ∧ i = .int .i64 (j : Int) ∧ Aside0 (((x.f0.f2.take j).all fun r => !r.isEmpty) = true) ∧ wr = wc)
  case atStart => exact ⟨0, by omega, rfl, ⟨rfl⟩, rfl⟩
  case round =>
    obtain ⟨j, hj, rfl, HT, rfl⟩ := hrel
    cases gk with
    | zero =>
      have hlt : ¬ ((j : Int) < (x.f0.f2.length : Int)) := by omega
      obtain rfl : j = x.f0.f2.length := by omega
      rw [List.take_length] at HT
      by_cases e1 : x.f0.f0 = 1
      · have e1' : (x.f0.f0 == 1) = true := beq_iff_eq.mpr e1
        have e1'' : (x.f0.f0 != 1) = false := bne_eq_false_iff_eq.mpr e1
        have E1 := Aside0.mk e1
        clear e1
        by_cases e2 : (x.f0.f1.length : Int) ≤ 1
        · have e3 : x.f0.f1.length ≤ 1 := by omega
          go_wp2_with fail
          go_ret
          rw [HKB.out, HF.out, HL.out, HT.out]
          exact ⟨ret_b (by simp [E1.out, e3]), HB.out⟩
        · have e3 : ¬ x.f0.f1.length ≤ 1 := by omega
          go_wp2_with fail
          go_ret
          rw [HKB.out, HF.out, HL.out, HT.out]
          exact ⟨ret_b (by simp [E1.out, e3]), HB.out⟩
      · have e1' : (x.f0.f0 == 1) = false := beq_eq_false_iff_ne.mpr e1
        have e1'' : (x.f0.f0 != 1) = true := bne_iff_ne.mpr e1
        go_wp2_with fail
        go_ret
        rw [HKB.out, HF.out, HL.out, HT.out]
        exact ⟨ret_b (by simp [e1]), HB.out⟩
    | succ kq =>
      have hlt : j < x.f0.f2.length := by omega
      have hlt' : (j : Int) < (x.f0.f2.length : Int) := by omega
      have j0 : (0 : Int) ≤ (j : Int) := by omega
      obtain ⟨a2, A0, c0, ea, hx, hl, _⟩ := at_L2 H2.out j (by omega) (by omega)
      subst ea
      rw [rd_L2_at _ _ hlt, Int.toNat_natCast] at hx
      have hx2 : wr.cell? (a2.add j) = some (.slice A0 (x.f0.f2[j]).length c0) := by
        exact cell_below HB.out hx
      have HA := Aside0.mk (show ((x.f0.f2.take (j + 1)).all fun r => !r.isEmpty) = (!(x.f0.f2[j]).isEmpty) by rw [List.take_succ_eq_append_getElem hlt, List.all_append, HT.out]; simp)
      obtain ⟨r, hr⟩ : ∃ r, r = x.f0.f2[j] := ⟨_, rfl⟩
      rw [← hr] at hx2 HA
      have HR := Aside0.mk hr
      clear hr hx hl
      by_cases e0 : r.length = 0
      · have q1 : ((r.length : Int) == 0) = true := beq_iff_eq.mpr (by omega)
        have e0' : (r.length : Int) = 0 := by omega
        go_wp2_with fail
        go_ret
        refine ⟨ret_b ?_, HB.out⟩
        have hn : r = [] := List.length_eq_zero_iff.1 e0
        have hm : (x.f0.f2.all fun r => !r.isEmpty) = false := by
          rw [List.all_eq_false]
          exact ⟨r, by rw [HR.out]; exact List.getElem_mem hlt, by rw [hn]; decide⟩
        rw [hm]
        simp
      · have q1 : ((r.length : Int) == 0) = false := beq_eq_false_iff_ne.mpr (by omega)
        have e0' : ¬ ((r.length : Int) = 0) := by omega
        have HA2 := Aside0.mk (show ((x.f0.f2.take (j + 1)).all fun r => !r.isEmpty) = true by
          rw [HA.out]
          cases r with
          | nil => exact absurd rfl e0
          | cons y l => rfl)
        go_wp2_with fail
        go_roundg kq
        case measure => omega
        case rel => exact ⟨j + 1, by omega, by go_num, HA2, rfl⟩
end Go.Proofs.YtiiolhnpnlmkjaaDoor.Tree
