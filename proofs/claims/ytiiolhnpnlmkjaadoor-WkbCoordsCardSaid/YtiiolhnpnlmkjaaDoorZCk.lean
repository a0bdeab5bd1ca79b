/- Texts of this claim laid one behind the other (TEqSem; TSame; TEqualW; TWAlive; TLawCoords): what each proves stands at its own names; the last one is the claim's. No conditions but those told. -/
import Derived.Test.YtiiolhnpnlmkjaaDoorZCj
import Derived.BigQuiet
import Derived.RangeFuncRecord
namespace Go.Proofs.YtiiolhnpnlmkjaaDoor.Tree
open Go.RowKit Go.Proofs.YtiiolhnpnlmkjaaDoorW.PrintWords Go.Proofs.YtiiolhnpnlmkjaaDoorW.PrintLast Go.Proofs.YtiiolhnpnlmkjaaDoorW.PrintMore
set_option linter.unusedVariables false
theorem ge_ext {a b : Ge} (h0 : a.f0 = b.f0) (h1 : a.f1 = b.f1) (h2 : a.f2 = b.f2) (h3 : a.f3 = b.f3) : a = b := by
  cases a; cases b
  dsimp only at h0 h1 h2 h3
  subst h0 h1 h2 h3
  rfl
open Classical in
/-- The same tree? -/
noncomputable def eqG (a b : Ge) : Bool := if a = b then true else false
theorem eqG_true {a b : Ge} (h : a = b) : eqG a b = true := by unfold eqG; exact if_pos h
theorem eqG_false {a b : Ge} (h : a ≠ b) : eqG a b = false := by unfold eqG; exact if_neg h
theorem eqG_iff (a b : Ge) : eqG a b = true ↔ a = b := by
  refine ⟨fun h => ?_, eqG_true⟩
  by_cases e : a = b
  · exact e
  · rw [eqG_false e] at h
    cases h
end Go.Proofs.YtiiolhnpnlmkjaaDoor.Tree
namespace Go.Proofs.YtiiolhnpnlmkjaaDoor.Tree
open Go.RowKit Go.Proofs.YtiiolhnpnlmkjaaDoorW.PrintWords Go.Proofs.YtiiolhnpnlmkjaaDoorW.PrintLast Go.Proofs.YtiiolhnpnlmkjaaDoorW.PrintMore
set_option linter.unusedVariables false
set_option linter.unusedSimpArgs false
deriving instance DecidableEq for Pt
def eqL (a b : List Pt) : Bool := decide (a = b)
theorem eqL_true {a b : List Pt} (h : a = b) : eqL a b = true := decide_eq_true h
theorem eqL_false {a b : List Pt} (h : a ≠ b) : eqL a b = false := decide_eq_false h
theorem eqL_iff (a b : List Pt) : eqL a b = true ↔ a = b := decide_eq_true_iff
set_option maxRecDepth 100000 in
set_option maxHeartbeats 4000000 in
theorem sameLine_calls (A B : Option Addr) (c d : Nat) (a b : List Pt) (w : World) (ha : Kd.C kPt w A a.length a) (hb : Kd.C kPt w B b.length b) (hl : a.length ≤ 1073741824) :
    Calls Tryd.prog 50 #[.slice A a.length c, .slice B b.length d] w fun e w' => e = .returned (.bool (eqL a b)) ∧ ∃ n, w' = w.drewN n := by
  have hu := Tryd.underlying82
  have HA := Aside0.mk ha
  have HB := Aside0.mk hb
  clear ha hb
  by_cases hn : a.length = b.length
  · have q1 : ((a.length : Int) == (b.length : Int)) = true := beq_iff_eq.mpr (by omega)
    have q2 : ((a.length : Int) != (b.length : Int)) = false := bne_eq_false_iff_eq.mpr (by omega)
    have HN := Aside0.mk hn
    clear hn
    go_enter Tryd.func50, Tryd.ntmps50
    go_wp2_with fail
    go_loopg [13] a.length (fun kq i wr => ∃ k : Nat, k + kq = a.length ∧ i = .int .i64 (k : Int) ∧ Aside0 (a.take k = b.take k) ∧ ∃ m, wr = w.drewN m)
    case atStart => exact ⟨0, by omega, rfl, ⟨rfl⟩, 0, rfl⟩
    case round =>
      obtain ⟨k, hk, rfl, HT, m, rfl⟩ := hrel
      cases gk with
      | zero =>
        have hlt : ¬ ((k : Int) < (a.length : Int)) := by omega
        obtain rfl : k = a.length := by omega
        go_wp2_with fail
        go_ret
        refine ⟨ret_b ?_, m, rfl⟩
        have h := HT.out
        rw [List.take_length, HN.out, List.take_length] at h
        rw [eqL_true h]
      | succ kq =>
        have hlt : (k : Int) < (a.length : Int) := by omega
        have hlt1 : k < a.length := by omega
        have hltb' : k < b.length := by have := HN.out; omega
        have hltb : (k : Int) < (b.length : Int) := by omega
        obtain ⟨x1, e1, p0, p1⟩ := at_Pt HA.out (k : Int) (by omega) (by omega)
        obtain ⟨x2, e2, r0, r1⟩ := at_Pt HB.out (k : Int) (by omega) (by omega)
        subst e1 e2
        rw [rd_Pt_at _ _ hlt1, Int.toNat_natCast] at p0 p1
        rw [rd_Pt_at _ _ hltb', Int.toNat_natCast] at r0 r1
        obtain ⟨u, hu1⟩ : ∃ u, u = a[k] := ⟨_, rfl⟩
        obtain ⟨v, hv1⟩ : ∃ v, v = b[k] := ⟨_, rfl⟩
        rw [← hu1] at p0 p1
        rw [← hv1] at r0 r1
        have HU := Aside0.mk hu1
        have HV := Aside0.mk hv1
        clear hu1 hv1
        obtain ⟨u0, u1⟩ := u
        obtain ⟨v0, v1⟩ := v
        dsimp only at p0 p1 r0 r1
        by_cases h0 : u0 = v0
        · have s0 : (u0 == v0) = true := beq_iff_eq.mpr h0
          by_cases h1 : u1 = v1
          · have s1 : (u1 == v1) = true := beq_iff_eq.mpr h1
            have HE := Aside0.mk (show a.take (k + 1) = b.take (k + 1) by
              rw [List.take_succ_eq_append_getElem hlt1, List.take_succ_eq_append_getElem hltb', HT.out, ← HU.out, ← HV.out, h0, h1])
            clear h0 h1
            go_wp2_with fail
            go_quiet (fail)
            go_wp2_with fail
            go_roundg kq
            case measure => omega
            case rel => exact ⟨k + 1, by omega, by go_num, HE, _, rfl⟩
          · have s1 : (u1 == v1) = false := beq_eq_false_iff_ne.mpr h1
            have HE := Aside0.mk (show a ≠ b by rintro rfl; have := HU.out.trans HV.out.symm; injection this; contradiction)
            clear h0 h1
            go_wp2_with fail
            go_quiet (fail)
            go_wp2_with fail
            go_ret
            exact ⟨ret_b (eqL_false HE.out).symm, _, World.drewN_drewN _ _ _⟩
        · have s0 : (u0 == v0) = false := beq_eq_false_iff_ne.mpr h0
          have HE := Aside0.mk (show a ≠ b by rintro rfl; have := HU.out.trans HV.out.symm; injection this; contradiction)
          clear h0
          go_wp2_with fail
          go_quiet (fail)
          go_wp2_with fail
          go_ret
          exact ⟨ret_b (eqL_false HE.out).symm, _, World.drewN_drewN _ _ _⟩
  · have q1 : ((a.length : Int) == (b.length : Int)) = false := beq_eq_false_iff_ne.mpr (by omega)
    have q2 : ((a.length : Int) != (b.length : Int)) = true := bne_iff_ne.mpr (by omega)
    have HE := Aside0.mk (show a ≠ b by rintro rfl; exact hn rfl)
    clear hn
    go_enter Tryd.func50, Tryd.ntmps50
    go_wp2_with fail
    go_ret
    exact ⟨ret_b (eqL_false HE.out).symm, 0, rfl⟩
end Go.Proofs.YtiiolhnpnlmkjaaDoor.Tree
namespace Go.Proofs.YtiiolhnpnlmkjaaDoor.Tree
open Go.RowKit Go.Proofs.YtiiolhnpnlmkjaaDoorW.PrintWords Go.Proofs.YtiiolhnpnlmkjaaDoorW.PrintLast Go.Proofs.YtiiolhnpnlmkjaaDoorW.PrintMore
set_option linter.unusedVariables false
set_option linter.unusedSimpArgs false
set_option maxRecDepth 100000 in
set_option maxHeartbeats 8000000 in
theorem equal_calls (n : Nat) : ∀ (v u : Value) (a b : Ge) (w : World), IsG w v a → IsG w u b → a.bulk ≤ n → n ≤ 1073741824 → b.bulk ≤ 1073741824 →
    Calls Tryd.prog 33 #[v, u] w fun e w' => e = .returned (.bool (eqG a b)) ∧ Below w.heap.size w w' := by
  induction n with
  | zero => intro v u a b w _ _ h; have := a.bulk_eq; omega
  | succ n ih =>
  rintro v u a b w ⟨A1, c1, A2, c2, A3, c3, rfl, l1, h1, l2, h2, l3, h3⟩ ⟨D1, d1, D2, d2, D3, d3, rfl, m1, k1, m2, k2, m3, k3⟩ hbk hn hbb
  have hbq := a.bulk_eq
  have hbq' := b.bulk_eq
  have hb1 : a.f1.length ≤ 1073741824 := by omega
  have hb2 : a.f2.length ≤ 1073741824 := by omega
  have hb3 : a.f3.length ≤ 1073741824 := by have := bulks_len a.f3; omega
  have hd1 : b.f1.length ≤ 1073741824 := by omega
  have hd2 : b.f2.length ≤ 1073741824 := by omega
  have hd3 : b.f3.length ≤ 1073741824 := by have := bulks_len b.f3; omega
  have H1 := Aside0.mk h1
  have H2 := Aside0.mk h2
  have H3 := Aside0.mk h3
  have K1 := Aside0.mk k1
  have K2 := Aside0.mk k2
  have K3 := Aside0.mk k3
  have U := Aside0.mk (upTo_le a.f2)
  have HBQ := Aside0.mk (And.intro hbk (And.intro hbq (And.intro hbb hbq')))
  have IH := Aside0.mk ih
  have HN := Aside0.mk hn
  clear h1 h2 h3 k1 k2 k3 ih hbk hbq hbb hbq' l1 l2 l3 m1 m2 m3 hn
  have hmx : Tryd.prog.follows .mixedOrders = true := by kernel_rfl
  have hun := Tryd.underlying28
  go_enter Tryd.func33, Tryd.ntmps33
  have HB0 := Aside0.mk (Below.refl w.heap.size w)
  by_cases q0 : a.f0 = b.f0
  · by_cases q1 : a.f1 = b.f1
    · by_cases q2 : a.f2.length = b.f2.length
      · by_cases q3 : a.f3.length = b.f3.length
        · have Q0 := Aside0.mk q0
          have Q1 := Aside0.mk q1
          have Q2 := Aside0.mk q2
          have Q3 := Aside0.mk q3
          have t0 : (a.f0 == b.f0) = true := beq_iff_eq.mpr q0
          have t0' : (a.f0 != b.f0) = false := bne_eq_false_iff_eq.mpr q0
          have t2 : ((a.f2.length : Int) == (b.f2.length : Int)) = true := beq_iff_eq.mpr (by omega)
          have t2' : ((a.f2.length : Int) != (b.f2.length : Int)) = false := bne_eq_false_iff_eq.mpr (by omega)
          have t3 : ((a.f3.length : Int) == (b.f3.length : Int)) = true := beq_iff_eq.mpr (by omega)
          have t3' : ((a.f3.length : Int) != (b.f3.length : Int)) = false := bne_eq_false_iff_eq.mpr (by omega)
          clear q0 q1 q2 q3
          go_wp2_with fail
          obtain ⟨ga, hga⟩ : ∃ x, x = w.heap.size := ⟨_, rfl⟩
          obtain ⟨gb, hgb⟩ : ∃ x, x = w.heap.size + 1 := ⟨_, rfl⟩
          obtain ⟨W0, hW0⟩ : ∃ x, x = ((w.alloc (.cells #[.int .i64 a.f0, .slice A1 a.f1.length c1, .slice A2 a.f2.length c2, .slice A3 a.f3.length c3] 28)).alloc (.cells #[.int .i64 b.f0, .slice D1 b.f1.length d1, .slice D2 b.f2.length d2, .slice D3 b.f3.length d3] 28)) := ⟨_, rfl⟩
          rw [← hW0, ← hgb, ← hga]
          have BA := Aside0.mk (show W0.heap[ga]? = some (.cells #[.int .i64 a.f0, .slice A1 a.f1.length c1, .slice A2 a.f2.length c2, .slice A3 a.f3.length c3] 28 (0, 0)) by rw [hW0, hga]; exact blk_alloc (World.alloc_heap_new _ _) _)
          have BB := Aside0.mk (show W0.heap[gb]? = some (.cells #[.int .i64 b.f0, .slice D1 b.f1.length d1, .slice D2 b.f2.length d2, .slice D3 b.f3.length d3] 28 (0, 0)) by
            rw [hW0, hgb]
            have h := World.alloc_heap_new (w.alloc (.cells #[.int .i64 a.f0, .slice A1 a.f1.length c1, .slice A2 a.f2.length c2, .slice A3 a.f3.length c3] 28)) (.cells #[.int .i64 b.f0, .slice D1 b.f1.length d1, .slice D2 b.f2.length d2, .slice D3 b.f3.length d3] 28)
            simpa using h)
          have HB := Aside0.mk (show Below w.heap.size w W0 by rw [hW0]; exact below_alloc (below_alloc (Below.refl _ _) _) _)
          have HGA := Aside0.mk hga
          clear hW0 hga hgb HB0
          have z0 : W0.cell? ⟨ga, 0, none⟩ = some (.int .i64 a.f0) := (blk_cell BA.out 0).trans rfl
          have z1 : W0.cell? ⟨ga, 1, none⟩ = some (.slice A1 a.f1.length c1) := (blk_cell BA.out 1).trans rfl
          have z2 : W0.cell? ⟨ga, 2, none⟩ = some (.slice A2 a.f2.length c2) := (blk_cell BA.out 2).trans rfl
          have z3 : W0.cell? ⟨ga, 3, none⟩ = some (.slice A3 a.f3.length c3) := (blk_cell BA.out 3).trans rfl
          have y0 : W0.cell? ⟨gb, 0, none⟩ = some (.int .i64 b.f0) := (blk_cell BB.out 0).trans rfl
          have y1 : W0.cell? ⟨gb, 1, none⟩ = some (.slice D1 b.f1.length d1) := (blk_cell BB.out 1).trans rfl
          have y2 : W0.cell? ⟨gb, 2, none⟩ = some (.slice D2 b.f2.length d2) := (blk_cell BB.out 2).trans rfl
          have y3 : W0.cell? ⟨gb, 3, none⟩ = some (.slice D3 b.f3.length d3) := (blk_cell BB.out 3).trans rfl
          refine (sameLine_calls A1 D1 c1 d1 a.f1 b.f1 W0 (Kd.C_below H1.out HB.out) (Kd.C_below K1.out HB.out) hb1).mono ?_
          rintro e w' ⟨rfl, nd, rfl⟩
          rw [eqL_true Q1.out]
          have YQ := Aside0.mk (And.intro y2 y3)
          have HL2 := Aside0.mk (show (a.f2.length : Int) = (b.f2.length : Int) by have := Q2.out; omega)
          go_wp2_with fail
          go_loopg [41] a.f2.length (fun kq i wr => ∃ j : Nat, j + kq = a.f2.length ∧ i = .int .i64 (j : Int) ∧ Aside0 (a.f2.take j = b.f2.take j) ∧ ∃ m, wr = W0.drewN m)
          case atStart => exact ⟨0, by omega, rfl, ⟨rfl⟩, nd, rfl⟩
          case round =>
            obtain ⟨j, hj, rfl, HT, m, rfl⟩ := hrel
            cases gk with
            | zero =>
              have hlt : ¬ ((j : Int) < (a.f2.length : Int)) := by omega
              obtain rfl : j = a.f2.length := by omega
              have HF2 := Aside0.mk (show a.f2 = b.f2 by
                have h := HT.out
                rw [List.take_length, Q2.out, List.take_length] at h
                exact h)
              clear HT hj
              go_wp2_with fail
              have Z3 := Aside0.mk z3
              have Y3 := Aside0.mk y3
              go_loopg [60] a.f3.length (fun kq i wr => ∃ j : Nat, j + kq = a.f3.length ∧ i = .int .i64 (j : Int) ∧ Aside0 (a.f3.take j = b.f3.take j) ∧ Aside0 (Below W0.heap.size W0 wr))
              case atStart => exact ⟨0, by omega, rfl, ⟨rfl⟩, ⟨by repeat (first | exact Below.refl _ _ | apply pw_below_drewN)⟩⟩
              case round =>
                obtain ⟨j, hj, rfl, HT, HW⟩ := hrel
                have z3' := cell_below HW.out Z3.out
                have y3' := cell_below HW.out Y3.out
                cases gk with
                | zero =>
                  have hlt : ¬ ((j : Int) < (a.f3.length : Int)) := by omega
                  obtain rfl : j = a.f3.length := by omega
                  have HE := Aside0.mk (show a = b by
                    have h := HT.out
                    rw [List.take_length, Q3.out, List.take_length] at h
                    exact ge_ext Q0.out Q1.out HF2.out h)
                  go_wp2_with fail
                  go_ret
                  exact ⟨ret_b (eqG_true HE.out).symm, below_step HB.out HW.out⟩
                | succ kq =>
                  have hlt : j < a.f3.length := by omega
                  have hltb : j < b.f3.length := by have := Q3.out; omega
                  obtain ⟨q3, B1, b1, B2, b2, B3, b3, ea, u0, u1, u2, u3, n1, o1, n2, o2, n3, o3⟩ := at_Ge H3.out j (by omega) (by omega)
                  obtain ⟨a3, F1, f1, F2, f2, F3, f3, eb, t0, t1, t2, t3, m1, p1, m2, p2, m3, p3⟩ := at_Ge K3.out j (by omega) (by omega)
                  subst ea eb
                  rw [rd_Ge_at _ _ hlt] at u0 u1 u2 u3 o1 o2 o3 n1 n2 n3
                  rw [rd_Ge_at _ _ hltb] at t0 t1 t2 t3 p1 p2 p3 m1 m2 m3
                  rw [Int.toNat_natCast] at u0 u1 u2 u3 t0 t1 t2 t3
                  obtain ⟨ka, hka⟩ : ∃ k, k = a.f3[j] := ⟨_, rfl⟩
                  obtain ⟨kb, hkb⟩ : ∃ k, k = b.f3[j] := ⟨_, rfl⟩
                  rw [← hka] at u0 u1 u2 u3 o1 o2 o3 n1 n2 n3
                  rw [← hkb] at t0 t1 t2 t3 p1 p2 p3 m1 m2 m3
                  have HIA := Aside0.mk (show IsG w (.agg #[.int .i64 ka.f0, .slice B1 ka.f1.length b1, .slice B2 ka.f2.length b2, .slice B3 ka.f3.length b3]) ka from ⟨B1, b1, B2, b2, B3, b3, rfl, n1, o1, n2, o2, n3, o3⟩)
                  have HIB := Aside0.mk (show IsG w (.agg #[.int .i64 kb.f0, .slice F1 kb.f1.length f1, .slice F2 kb.f2.length f2, .slice F3 kb.f3.length f3]) kb from ⟨F1, f1, F2, f2, F3, f3, rfl, m1, p1, m2, p2, m3, p3⟩)
                  have U0 := Aside0.mk (cell_below HB.out u0)
                  have U1 := Aside0.mk (cell_below HB.out u1)
                  have U2 := Aside0.mk (cell_below HB.out u2)
                  have U3 := Aside0.mk (cell_below HB.out u3)
                  have V0 := Aside0.mk (cell_below HB.out t0)
                  have V1 := Aside0.mk (cell_below HB.out t1)
                  have V2 := Aside0.mk (cell_below HB.out t2)
                  have V3 := Aside0.mk (cell_below HB.out t3)
                  have hpa : ka.bulk ≤ n := by rw [hka]; have := bulks_mem (List.getElem_mem hlt); have := HBQ.out.1; have := HBQ.out.2.1; omega
                  have hpb : kb.bulk ≤ 1073741824 := by rw [hkb]; have := bulks_mem (List.getElem_mem hltb); have := HBQ.out.2.2.1; have := HBQ.out.2.2.2; omega
                  have HTa := Aside0.mk (show a.f3.take (j + 1) = a.f3.take j ++ [ka] by rw [List.take_succ_eq_append_getElem hlt, hka])
                  have HTb := Aside0.mk (show b.f3.take (j + 1) = b.f3.take j ++ [kb] by rw [List.take_succ_eq_append_getElem hltb, hkb])
                  have HPA := Aside0.mk (And.intro hpa hpb)
                  clear u0 u1 u2 u3 t0 t1 t2 t3 n1 o1 n2 o2 n3 o3 m1 p1 m2 p2 m3 p3 hka hkb hpa hpb
                  have i0 : (0 : Int) ≤ (j : Int) := by omega
                  have i1 : (j : Int) < (a.f3.length : Int) := by omega
                  have i2 : (j : Int) < (b.f3.length : Int) := by have := Q3.out; omega
                  go_wp2_with fail
                  refine start_ (n := 12) (S := fun w' => w'.cell? ⟨ga, 3, none⟩ = some (.slice (some q3) a.f3.length c3) ∧ w'.cell? ⟨gb, 3, none⟩ = some (.slice (some a3) b.f3.length d3) ∧ w'.cell? (q3.add (j * 4)) = some (.int .i64 ka.f0) ∧ w'.cell? ⟨(q3.add (j * 4)).block, (q3.add (j * 4)).off + 1, none⟩ = some (.slice B1 ka.f1.length b1) ∧ w'.cell? ⟨(q3.add (j * 4)).block, (q3.add (j * 4)).off + 2, none⟩ = some (.slice B2 ka.f2.length b2) ∧ w'.cell? ⟨(q3.add (j * 4)).block, (q3.add (j * 4)).off + 3, none⟩ = some (.slice B3 ka.f3.length b3) ∧ w'.cell? (a3.add (j * 4)) = some (.int .i64 kb.f0) ∧ w'.cell? ⟨(a3.add (j * 4)).block, (a3.add (j * 4)).off + 1, none⟩ = some (.slice F1 kb.f1.length f1) ∧ w'.cell? ⟨(a3.add (j * 4)).block, (a3.add (j * 4)).off + 2, none⟩ = some (.slice F2 kb.f2.length f2) ∧ w'.cell? ⟨(a3.add (j * 4)).block, (a3.add (j * 4)).off + 3, none⟩ = some (.slice F3 kb.f3.length f3) ∧ True) (ds := []) #[false, false, false, false, false, false, false, false, false, false, false, false] hmx rfl rfl ⟨cell_below (below_drew HW.out) Z3.out, cell_below (below_drew HW.out) Y3.out, cell_below (below_drew HW.out) U0.out, cell_below (below_drew HW.out) U1.out, cell_below (below_drew HW.out) U2.out, cell_below (below_drew HW.out) U3.out, cell_below (below_drew HW.out) V0.out, cell_below (below_drew HW.out) V1.out, cell_below (below_drew HW.out) V2.out, cell_below (below_drew HW.out) V3.out, trivial⟩ (fun hHeld => ?_)
                  have HWd := Aside0.mk (below_drew HW.out)
                  clear z3' y3'
                  generalize wr.drew = Wd at HWd hHeld ⊢
                  (refine pure_ (i := 0) (N := some 63) (v := ?_) (a' := ?_) #[true, false, false, false, false, false, false, false, false, false, false, false] rfl rfl (by kernel_rfl) (fun _ _ _ h => h) (Or.inl ⟨by rfl, ?_⟩) ?_ ?_; rotate_left; (focus (intro w'_; go_simp; with_reducible rfl)); rotate_left; (focus (simp only [Act.put, List.setIfInBounds_toArray, List.set_cons_zero, List.set_cons_succ]; rfl)))
                  (refine pure_ (i := 2) (N := some 65) (v := ?_) (a' := ?_) #[true, false, true, false, false, false, false, false, false, false, false, false] rfl rfl (by kernel_rfl) (fun _ _ _ h => h) (Or.inl ⟨by rfl, ?_⟩) ?_ ?_; rotate_left; (focus (intro w'_; go_simp; with_reducible rfl)); rotate_left; (focus (simp only [Act.put, List.setIfInBounds_toArray, List.set_cons_zero, List.set_cons_succ]; rfl)))
                  (refine pure_ (i := 5) (N := some 68) (v := ?_) (a' := ?_) #[true, false, true, false, false, true, false, false, false, false, false, false] rfl rfl (by kernel_rfl) (fun _ _ _ h => h) (Or.inl ⟨by rfl, ?_⟩) ?_ ?_; rotate_left; (focus (intro w'_; go_simp; with_reducible rfl)); rotate_left; (focus (simp only [Act.put, List.setIfInBounds_toArray, List.set_cons_zero, List.set_cons_succ]; rfl)))
                  (refine pure_ (i := 7) (N := some 70) (v := ?_) (a' := ?_) #[true, false, true, false, false, true, false, true, false, false, false, false] rfl rfl (by kernel_rfl) (fun _ _ _ h => h) (Or.inl ⟨by rfl, ?_⟩) ?_ ?_; rotate_left; (focus (intro w'_; go_simp; with_reducible rfl)); rotate_left; (focus (simp only [Act.put, List.setIfInBounds_toArray, List.set_cons_zero, List.set_cons_succ]; rfl)))
                  (refine take_ (i := 1) (N := some 64) (v := ?_) (a' := ?_) #[true, true, true, false, false, true, false, true, false, false, false, false] rfl rfl (by kernel_rfl) (fun _ _ _ h => h) (Or.inl ⟨by rfl, ?_⟩) hHeld ?_ ?_; rotate_left; (focus (intro w'_ hs_; (repeat obtain ⟨_, hs_⟩ := hs_); go_simp; with_reducible rfl)); rotate_left; (focus (simp only [Act.put, List.setIfInBounds_toArray, List.set_cons_zero, List.set_cons_succ]; rfl)))
                  (refine take_ (i := 6) (N := some 69) (v := ?_) (a' := ?_) #[true, true, true, false, false, true, true, true, false, false, false, false] rfl rfl (by kernel_rfl) (fun _ _ _ h => h) (Or.inl ⟨by rfl, ?_⟩) hHeld ?_ ?_; rotate_left; (focus (intro w'_ hs_; (repeat obtain ⟨_, hs_⟩ := hs_); go_simp; with_reducible rfl)); rotate_left; (focus (simp only [Act.put, List.setIfInBounds_toArray, List.set_cons_zero, List.set_cons_succ]; rfl)))
                  (refine pure_ (i := 3) (N := some 66) (v := ?_) (a' := ?_) #[true, true, true, true, false, true, true, true, false, false, false, false] rfl rfl (by kernel_rfl) (fun _ _ _ h => h) (Or.inl ⟨by rfl, ?_⟩) ?_ ?_; rotate_left; (focus (intro w'_; go_simp; with_reducible rfl)); rotate_left; (focus (simp only [Act.put, List.setIfInBounds_toArray, List.set_cons_zero, List.set_cons_succ]; rfl)))
                  (refine pure_ (i := 8) (N := some 71) (v := ?_) (a' := ?_) #[true, true, true, true, false, true, true, true, true, false, false, false] rfl rfl (by kernel_rfl) (fun _ _ _ h => h) (Or.inl ⟨by rfl, ?_⟩) ?_ ?_; rotate_left; (focus (intro w'_; go_simp; with_reducible rfl)); rotate_left; (focus (simp only [Act.put, List.setIfInBounds_toArray, List.set_cons_zero, List.set_cons_succ]; rfl)))
                  (refine take_ (i := 4) (N := some 67) (v := ?_) (a' := ?_) #[true, true, true, true, true, true, true, true, true, false, false, false] rfl rfl (by kernel_rfl) (fun _ _ _ h => h) (Or.inl ⟨by rfl, ?_⟩) hHeld ?_ ?_; rotate_left; (focus (intro w'_ hs_; (repeat obtain ⟨_, hs_⟩ := hs_); go_simp; with_reducible rfl)); rotate_left; (focus (simp only [Act.put, List.setIfInBounds_toArray, List.set_cons_zero, List.set_cons_succ]; rfl)))
                  (refine take_ (i := 9) (N := some 72) (v := ?_) (a' := ?_) #[true, true, true, true, true, true, true, true, true, true, false, false] rfl rfl (by kernel_rfl) (fun _ _ _ h => h) (Or.inl ⟨by rfl, ?_⟩) hHeld ?_ ?_; rotate_left; (focus (intro w'_ hs_; (repeat obtain ⟨_, hs_⟩ := hs_); go_simp; with_reducible rfl)); rotate_left; (focus (simp only [Act.put, List.setIfInBounds_toArray, List.set_cons_zero, List.set_cons_succ]; rfl)))
                  refine one_ (i := 10) (N := some 73) #[true, true, true, true, true, true, true, true, true, true, true, false] rfl rfl (by kernel_rfl) (by decide) (fun K hK => ?_)
                  refine goes_ Tryd.func33 (by kernel_rfl) rfl #[.agg #[.int .i64 ka.f0, .slice B1 ka.f1.length b1, .slice B2 ka.f2.length b2, .slice B3 ka.f3.length b3], .agg #[.int .i64 kb.f0, .slice F1 kb.f1.length f1, .slice F2 kb.f2.length f2, .slice F3 kb.f3.length f3]] (by rfl) rfl rfl (by (try simp only [List.map_toArray, List.map_cons, List.map_nil]); first | done | rfl) ?_
                  have hbw := below_step HB.out HWd.out
                  refine (IH.out _ _ ka kb Wd (HIA.out.below hbw) (HIB.out.below hbw) HPA.out.1 (by have := HN.out; omega) HPA.out.2).mono ?_
                  rintro e X1 ⟨rfl, hb1⟩
                  have hw1 := below_step HWd.out hb1
                  refine ⟨_, rfl, hK.out _ _ ⟨cell_below hw1 Z3.out, cell_below hw1 Y3.out, cell_below hw1 U0.out, cell_below hw1 U1.out, cell_below hw1 U2.out, cell_below hw1 U3.out, cell_below hw1 V0.out, cell_below hw1 V1.out, cell_below hw1 V2.out, cell_below hw1 V3.out, trivial⟩ (fun hHeld2 => ?_)⟩
                  clear hK K
                  (refine norm_ (a' := ?_) ?_ ?_; rotate_left; focus (show Act.put _ (some 73) _ = _; simp only [Act.put, List.setIfInBounds_toArray, List.set_cons_zero, List.set_cons_succ]; rfl))
                  cases hq : eqG ka kb with
                  | true =>
                    (refine pure_ (i := 11) (N := some 74) (v := ?_) (a' := ?_) #[true, true, true, true, true, true, true, true, true, true, true, true] rfl rfl (by kernel_rfl) (fun _ _ _ h => h) (Or.inl ⟨by rfl, ?_⟩) ?_ ?_; rotate_left; (focus (intro w'_; go_simp; with_reducible rfl)); rotate_left; (focus (simp only [Act.put, List.setIfInBounds_toArray, List.set_cons_zero, List.set_cons_succ]; rfl)))
                    refine done_ (by kernel_rfl) ?_
                    have HT2 := Aside0.mk (show a.f3.take (j + 1) = b.f3.take (j + 1) by rw [HTa.out, HTb.out, HT.out, (eqG_iff _ _).1 hq])
                    have HW1 := Aside0.mk hw1
                    clear hw1 hb1 hbw hHeld hHeld2 hq
                    go_wp2_with fail
                    go_roundg kq
                    case measure => omega
                    case rel => exact ⟨j + 1, by omega, by go_num, HT2, HW1⟩
                  | false =>
                    (refine pure_ (i := 11) (N := some 74) (v := ?_) (a' := ?_) #[true, true, true, true, true, true, true, true, true, true, true, true] rfl rfl (by kernel_rfl) (fun _ _ _ h => h) (Or.inl ⟨by rfl, ?_⟩) ?_ ?_; rotate_left; (focus (intro w'_; go_simp; with_reducible rfl)); rotate_left; (focus (simp only [Act.put, List.setIfInBounds_toArray, List.set_cons_zero, List.set_cons_succ]; rfl)))
                    refine done_ (by kernel_rfl) ?_
                    have HE := Aside0.mk (show a ≠ b from by
                      intro hab
                      have h := HTa.out.symm.trans ((by rw [hab] : a.f3.take (j + 1) = b.f3.take (j + 1)).trans HTb.out)
                      have h2 := List.append_inj_right' h rfl
                      injection h2 with h2
                      rw [eqG_true h2] at hq
                      cases hq)
                    have HW1 := Aside0.mk hw1
                    clear hw1 hb1 hbw hHeld hHeld2 hq
                    go_wp2_with fail
                    go_ret
                    exact ⟨ret_b (eqG_false HE.out).symm, below_step HB.out HW1.out⟩
            | succ kq =>
              have hlt : j < a.f2.length := by omega
              have hltb : j < b.f2.length := by have := Q2.out; omega
              obtain ⟨a2, A0, c0, ea, hx, hl, hc⟩ := at_L2 H2.out j (by omega) (by omega)
              obtain ⟨a4, B0, b0, eb, hy, hm, hd⟩ := at_L2 K2.out j (by omega) (by omega)
              subst ea eb
              rw [rd_L2_at _ _ hlt, Int.toNat_natCast] at hx
              rw [rd_L2_at _ _ hlt] at hc
              rw [rd_L2_at _ _ hltb, Int.toNat_natCast] at hy
              rw [rd_L2_at _ _ hltb] at hd
              have hlen : (a.f2[j]).length ≤ 1073741824 := by
                have h1 := upTo_le a.f2 (j + 1)
                rw [upTo_succ a.f2 j hlt] at h1
                have := HBQ.out.1
                have := HBQ.out.2.1
                have := HN.out
                omega
              have HCR := Aside0.mk (fun W (hb : Below w.heap.size w W) => sameLine_calls A0 B0 c0 b0 a.f2[j] b.f2[j] W (Kd.C_below hc hb) (Kd.C_below hd hb) hlen)
              have hx' := cell_below HB.out hx
              have hy' := cell_below HB.out hy
              have i0 : (0 : Int) ≤ (j : Int) := by omega
              have hj1 : (j : Int) < (a.f2.length : Int) := by omega
              have hj2 : (j : Int) < (b.f2.length : Int) := by have := Q2.out; omega
              obtain ⟨LA, hLA⟩ : ∃ k, k = a.f2[j] := ⟨_, rfl⟩
              obtain ⟨LB, hLB⟩ : ∃ k, k = b.f2[j] := ⟨_, rfl⟩
              rw [← hLA, ← hLB] at HCR
              rw [← hLA] at hx'
              rw [← hLB] at hy'
              have HTa := Aside0.mk (show a.f2.take (j + 1) = a.f2.take j ++ [LA] by rw [List.take_succ_eq_append_getElem hlt, hLA])
              have HTb := Aside0.mk (show b.f2.take (j + 1) = b.f2.take j ++ [LB] by rw [List.take_succ_eq_append_getElem hltb, hLB])
              clear hx hy hc hd hl hm hLA hLB hlen
              cases hq : eqL LA LB with
              | true =>
                rw [hq] at HCR
                have HQ := Aside0.mk ((eqL_iff _ _).1 hq)
                clear hq
                go_wp2_with fail
                go_quiet ((refine (HCR.out _ (by repeat (first | exact HB.out | apply pw_below_drewN))).mono ?_; rintro e w' ⟨rfl, nd, rfl⟩; exact ⟨rfl, _, (World.drewN_drewN _ _ _).trans (congrArg W0.drewN (Nat.add_assoc _ _ _))⟩))
                go_wp2_with fail
                go_roundg kq
                case measure => omega
                case rel => exact ⟨j + 1, by omega, by go_num, ⟨by rw [HTa.out, HTb.out, HT.out, HQ.out]⟩, _, rfl⟩
              | false =>
                rw [hq] at HCR
                have HE := Aside0.mk (show a ≠ b from by
                  rintro rfl
                  have h := HTa.out.symm.trans HTb.out
                  have h2 := List.append_inj_right' h rfl
                  injection h2 with h2
                  rw [eqL_true h2] at hq
                  cases hq)
                clear hq
                go_wp2_with fail
                go_quiet ((refine (HCR.out _ (by repeat (first | exact HB.out | apply pw_below_drewN))).mono ?_; rintro e w' ⟨rfl, nd, rfl⟩; exact ⟨rfl, _, (World.drewN_drewN _ _ _).trans (congrArg W0.drewN (Nat.add_assoc _ _ _))⟩))
                go_wp2_with fail
                go_ret
                exact ⟨ret_b (eqG_false HE.out).symm, by repeat (first | exact HB.out | apply pw_below_drewN)⟩
        · have HE := Aside0.mk (show a ≠ b from fun e => q3 (by rw [e]))
          have t0 : (a.f0 == b.f0) = true := beq_iff_eq.mpr q0
          have t0' : (a.f0 != b.f0) = false := bne_eq_false_iff_eq.mpr q0
          have t2 : ((a.f2.length : Int) == (b.f2.length : Int)) = true := beq_iff_eq.mpr (by omega)
          have t2' : ((a.f2.length : Int) != (b.f2.length : Int)) = false := bne_eq_false_iff_eq.mpr (by omega)
          have t3 : ((a.f3.length : Int) == (b.f3.length : Int)) = false := beq_eq_false_iff_ne.mpr (by omega)
          have t3' : ((a.f3.length : Int) != (b.f3.length : Int)) = true := bne_iff_ne.mpr (by omega)
          have Q1 := Aside0.mk q1
          clear q0 q1 q2 q3
          go_wp2_with fail
          obtain ⟨ga, hga⟩ : ∃ x, x = w.heap.size := ⟨_, rfl⟩
          obtain ⟨gb, hgb⟩ : ∃ x, x = w.heap.size + 1 := ⟨_, rfl⟩
          obtain ⟨W0, hW0⟩ : ∃ x, x = ((w.alloc (.cells #[.int .i64 a.f0, .slice A1 a.f1.length c1, .slice A2 a.f2.length c2, .slice A3 a.f3.length c3] 28)).alloc (.cells #[.int .i64 b.f0, .slice D1 b.f1.length d1, .slice D2 b.f2.length d2, .slice D3 b.f3.length d3] 28)) := ⟨_, rfl⟩
          rw [← hW0, ← hgb, ← hga]
          have BA := Aside0.mk (show W0.heap[ga]? = some (.cells #[.int .i64 a.f0, .slice A1 a.f1.length c1, .slice A2 a.f2.length c2, .slice A3 a.f3.length c3] 28 (0, 0)) by rw [hW0, hga]; exact blk_alloc (World.alloc_heap_new _ _) _)
          have BB := Aside0.mk (show W0.heap[gb]? = some (.cells #[.int .i64 b.f0, .slice D1 b.f1.length d1, .slice D2 b.f2.length d2, .slice D3 b.f3.length d3] 28 (0, 0)) by
            rw [hW0, hgb]
            have h := World.alloc_heap_new (w.alloc (.cells #[.int .i64 a.f0, .slice A1 a.f1.length c1, .slice A2 a.f2.length c2, .slice A3 a.f3.length c3] 28)) (.cells #[.int .i64 b.f0, .slice D1 b.f1.length d1, .slice D2 b.f2.length d2, .slice D3 b.f3.length d3] 28)
            simpa using h)
          have HB := Aside0.mk (show Below w.heap.size w W0 by rw [hW0]; exact below_alloc (below_alloc (Below.refl _ _) _) _)
          have HGA := Aside0.mk hga
          clear hW0 hga hgb HB0
          have z0 : W0.cell? ⟨ga, 0, none⟩ = some (.int .i64 a.f0) := (blk_cell BA.out 0).trans rfl
          have z1 : W0.cell? ⟨ga, 1, none⟩ = some (.slice A1 a.f1.length c1) := (blk_cell BA.out 1).trans rfl
          have z2 : W0.cell? ⟨ga, 2, none⟩ = some (.slice A2 a.f2.length c2) := (blk_cell BA.out 2).trans rfl
          have z3 : W0.cell? ⟨ga, 3, none⟩ = some (.slice A3 a.f3.length c3) := (blk_cell BA.out 3).trans rfl
          have y0 : W0.cell? ⟨gb, 0, none⟩ = some (.int .i64 b.f0) := (blk_cell BB.out 0).trans rfl
          have y1 : W0.cell? ⟨gb, 1, none⟩ = some (.slice D1 b.f1.length d1) := (blk_cell BB.out 1).trans rfl
          have y2 : W0.cell? ⟨gb, 2, none⟩ = some (.slice D2 b.f2.length d2) := (blk_cell BB.out 2).trans rfl
          have y3 : W0.cell? ⟨gb, 3, none⟩ = some (.slice D3 b.f3.length d3) := (blk_cell BB.out 3).trans rfl
          refine (sameLine_calls A1 D1 c1 d1 a.f1 b.f1 W0 (Kd.C_below H1.out HB.out) (Kd.C_below K1.out HB.out) hb1).mono ?_
          rintro e w' ⟨rfl, nd, rfl⟩
          rw [eqL_true Q1.out]
          go_wp2_with fail
          go_ret
          exact ⟨ret_b (eqG_false HE.out).symm, pw_below_drewN HB.out _⟩
      · have HE := Aside0.mk (show a ≠ b from fun e => q2 (by rw [e]))
        have t0 : (a.f0 == b.f0) = true := beq_iff_eq.mpr q0
        have t0' : (a.f0 != b.f0) = false := bne_eq_false_iff_eq.mpr q0
        have t2 : ((a.f2.length : Int) == (b.f2.length : Int)) = false := beq_eq_false_iff_ne.mpr (by omega)
        have t2' : ((a.f2.length : Int) != (b.f2.length : Int)) = true := bne_iff_ne.mpr (by omega)
        have Q1 := Aside0.mk q1
        clear q0 q1 q2
        go_wp2_with fail
        obtain ⟨ga, hga⟩ : ∃ x, x = w.heap.size := ⟨_, rfl⟩
        obtain ⟨gb, hgb⟩ : ∃ x, x = w.heap.size + 1 := ⟨_, rfl⟩
        obtain ⟨W0, hW0⟩ : ∃ x, x = ((w.alloc (.cells #[.int .i64 a.f0, .slice A1 a.f1.length c1, .slice A2 a.f2.length c2, .slice A3 a.f3.length c3] 28)).alloc (.cells #[.int .i64 b.f0, .slice D1 b.f1.length d1, .slice D2 b.f2.length d2, .slice D3 b.f3.length d3] 28)) := ⟨_, rfl⟩
        rw [← hW0, ← hgb, ← hga]
        have BA := Aside0.mk (show W0.heap[ga]? = some (.cells #[.int .i64 a.f0, .slice A1 a.f1.length c1, .slice A2 a.f2.length c2, .slice A3 a.f3.length c3] 28 (0, 0)) by rw [hW0, hga]; exact blk_alloc (World.alloc_heap_new _ _) _)
        have BB := Aside0.mk (show W0.heap[gb]? = some (.cells #[.int .i64 b.f0, .slice D1 b.f1.length d1, .slice D2 b.f2.length d2, .slice D3 b.f3.length d3] 28 (0, 0)) by
          rw [hW0, hgb]
          have h := World.alloc_heap_new (w.alloc (.cells #[.int .i64 a.f0, .slice A1 a.f1.length c1, .slice A2 a.f2.length c2, .slice A3 a.f3.length c3] 28)) (.cells #[.int .i64 b.f0, .slice D1 b.f1.length d1, .slice D2 b.f2.length d2, .slice D3 b.f3.length d3] 28)
          simpa using h)
        have HB := Aside0.mk (show Below w.heap.size w W0 by rw [hW0]; exact below_alloc (below_alloc (Below.refl _ _) _) _)
        have HGA := Aside0.mk hga
        clear hW0 hga hgb HB0
        have z0 : W0.cell? ⟨ga, 0, none⟩ = some (.int .i64 a.f0) := (blk_cell BA.out 0).trans rfl
        have z1 : W0.cell? ⟨ga, 1, none⟩ = some (.slice A1 a.f1.length c1) := (blk_cell BA.out 1).trans rfl
        have z2 : W0.cell? ⟨ga, 2, none⟩ = some (.slice A2 a.f2.length c2) := (blk_cell BA.out 2).trans rfl
        have z3 : W0.cell? ⟨ga, 3, none⟩ = some (.slice A3 a.f3.length c3) := (blk_cell BA.out 3).trans rfl
        have y0 : W0.cell? ⟨gb, 0, none⟩ = some (.int .i64 b.f0) := (blk_cell BB.out 0).trans rfl
        have y1 : W0.cell? ⟨gb, 1, none⟩ = some (.slice D1 b.f1.length d1) := (blk_cell BB.out 1).trans rfl
        have y2 : W0.cell? ⟨gb, 2, none⟩ = some (.slice D2 b.f2.length d2) := (blk_cell BB.out 2).trans rfl
        have y3 : W0.cell? ⟨gb, 3, none⟩ = some (.slice D3 b.f3.length d3) := (blk_cell BB.out 3).trans rfl
        refine (sameLine_calls A1 D1 c1 d1 a.f1 b.f1 W0 (Kd.C_below H1.out HB.out) (Kd.C_below K1.out HB.out) hb1).mono ?_
        rintro e w' ⟨rfl, nd, rfl⟩
        rw [eqL_true Q1.out]
        go_wp2_with fail
        go_ret
        exact ⟨ret_b (eqG_false HE.out).symm, pw_below_drewN HB.out _⟩
    · have HE := Aside0.mk (show a ≠ b from fun e => q1 (by rw [e]))
      have t0 : (a.f0 == b.f0) = true := beq_iff_eq.mpr q0
      have t0' : (a.f0 != b.f0) = false := bne_eq_false_iff_eq.mpr q0
      have Q1 := Aside0.mk q1
      clear q0 q1
      go_wp2_with fail
      obtain ⟨ga, hga⟩ : ∃ x, x = w.heap.size := ⟨_, rfl⟩
      obtain ⟨gb, hgb⟩ : ∃ x, x = w.heap.size + 1 := ⟨_, rfl⟩
      obtain ⟨W0, hW0⟩ : ∃ x, x = ((w.alloc (.cells #[.int .i64 a.f0, .slice A1 a.f1.length c1, .slice A2 a.f2.length c2, .slice A3 a.f3.length c3] 28)).alloc (.cells #[.int .i64 b.f0, .slice D1 b.f1.length d1, .slice D2 b.f2.length d2, .slice D3 b.f3.length d3] 28)) := ⟨_, rfl⟩
      rw [← hW0, ← hgb, ← hga]
      have BA := Aside0.mk (show W0.heap[ga]? = some (.cells #[.int .i64 a.f0, .slice A1 a.f1.length c1, .slice A2 a.f2.length c2, .slice A3 a.f3.length c3] 28 (0, 0)) by rw [hW0, hga]; exact blk_alloc (World.alloc_heap_new _ _) _)
      have BB := Aside0.mk (show W0.heap[gb]? = some (.cells #[.int .i64 b.f0, .slice D1 b.f1.length d1, .slice D2 b.f2.length d2, .slice D3 b.f3.length d3] 28 (0, 0)) by
        rw [hW0, hgb]
        have h := World.alloc_heap_new (w.alloc (.cells #[.int .i64 a.f0, .slice A1 a.f1.length c1, .slice A2 a.f2.length c2, .slice A3 a.f3.length c3] 28)) (.cells #[.int .i64 b.f0, .slice D1 b.f1.length d1, .slice D2 b.f2.length d2, .slice D3 b.f3.length d3] 28)
        simpa using h)
      have HB := Aside0.mk (show Below w.heap.size w W0 by rw [hW0]; exact below_alloc (below_alloc (Below.refl _ _) _) _)
      have HGA := Aside0.mk hga
      clear hW0 hga hgb HB0
      have z0 : W0.cell? ⟨ga, 0, none⟩ = some (.int .i64 a.f0) := (blk_cell BA.out 0).trans rfl
      have z1 : W0.cell? ⟨ga, 1, none⟩ = some (.slice A1 a.f1.length c1) := (blk_cell BA.out 1).trans rfl
      have z2 : W0.cell? ⟨ga, 2, none⟩ = some (.slice A2 a.f2.length c2) := (blk_cell BA.out 2).trans rfl
      have z3 : W0.cell? ⟨ga, 3, none⟩ = some (.slice A3 a.f3.length c3) := (blk_cell BA.out 3).trans rfl
      have y0 : W0.cell? ⟨gb, 0, none⟩ = some (.int .i64 b.f0) := (blk_cell BB.out 0).trans rfl
      have y1 : W0.cell? ⟨gb, 1, none⟩ = some (.slice D1 b.f1.length d1) := (blk_cell BB.out 1).trans rfl
      have y2 : W0.cell? ⟨gb, 2, none⟩ = some (.slice D2 b.f2.length d2) := (blk_cell BB.out 2).trans rfl
      have y3 : W0.cell? ⟨gb, 3, none⟩ = some (.slice D3 b.f3.length d3) := (blk_cell BB.out 3).trans rfl
      refine (sameLine_calls A1 D1 c1 d1 a.f1 b.f1 W0 (Kd.C_below H1.out HB.out) (Kd.C_below K1.out HB.out) hb1).mono ?_
      rintro e w' ⟨rfl, nd, rfl⟩
      rw [eqL_false Q1.out]
      go_wp2_with fail
      go_ret
      exact ⟨ret_b (eqG_false HE.out).symm, pw_below_drewN HB.out _⟩
  · have HE := Aside0.mk (show a ≠ b from fun e => q0 (by rw [e]))
    have t0 : (a.f0 == b.f0) = false := beq_eq_false_iff_ne.mpr q0
    have t0' : (a.f0 != b.f0) = true := bne_iff_ne.mpr q0
    clear q0
    go_wp2_with fail
    obtain ⟨ga, hga⟩ : ∃ x, x = w.heap.size := ⟨_, rfl⟩
    obtain ⟨gb, hgb⟩ : ∃ x, x = w.heap.size + 1 := ⟨_, rfl⟩
    obtain ⟨W0, hW0⟩ : ∃ x, x = ((w.alloc (.cells #[.int .i64 a.f0, .slice A1 a.f1.length c1, .slice A2 a.f2.length c2, .slice A3 a.f3.length c3] 28)).alloc (.cells #[.int .i64 b.f0, .slice D1 b.f1.length d1, .slice D2 b.f2.length d2, .slice D3 b.f3.length d3] 28)) := ⟨_, rfl⟩
    rw [← hW0, ← hgb, ← hga]
    have BA := Aside0.mk (show W0.heap[ga]? = some (.cells #[.int .i64 a.f0, .slice A1 a.f1.length c1, .slice A2 a.f2.length c2, .slice A3 a.f3.length c3] 28 (0, 0)) by rw [hW0, hga]; exact blk_alloc (World.alloc_heap_new _ _) _)
    have BB := Aside0.mk (show W0.heap[gb]? = some (.cells #[.int .i64 b.f0, .slice D1 b.f1.length d1, .slice D2 b.f2.length d2, .slice D3 b.f3.length d3] 28 (0, 0)) by
      rw [hW0, hgb]
      have h := World.alloc_heap_new (w.alloc (.cells #[.int .i64 a.f0, .slice A1 a.f1.length c1, .slice A2 a.f2.length c2, .slice A3 a.f3.length c3] 28)) (.cells #[.int .i64 b.f0, .slice D1 b.f1.length d1, .slice D2 b.f2.length d2, .slice D3 b.f3.length d3] 28)
      simpa using h)
    have HB := Aside0.mk (show Below w.heap.size w W0 by rw [hW0]; exact below_alloc (below_alloc (Below.refl _ _) _) _)
    have HGA := Aside0.mk hga
    clear hW0 hga hgb HB0
    have z0 : W0.cell? ⟨ga, 0, none⟩ = some (.int .i64 a.f0) := (blk_cell BA.out 0).trans rfl
    have z1 : W0.cell? ⟨ga, 1, none⟩ = some (.slice A1 a.f1.length c1) := (blk_cell BA.out 1).trans rfl
    have z2 : W0.cell? ⟨ga, 2, none⟩ = some (.slice A2 a.f2.length c2) := (blk_cell BA.out 2).trans rfl
    have z3 : W0.cell? ⟨ga, 3, none⟩ = some (.slice A3 a.f3.length c3) := (blk_cell BA.out 3).trans rfl
    have y0 : W0.cell? ⟨gb, 0, none⟩ = some (.int .i64 b.f0) := (blk_cell BB.out 0).trans rfl
    have y1 : W0.cell? ⟨gb, 1, none⟩ = some (.slice D1 b.f1.length d1) := (blk_cell BB.out 1).trans rfl
    have y2 : W0.cell? ⟨gb, 2, none⟩ = some (.slice D2 b.f2.length d2) := (blk_cell BB.out 2).trans rfl
    have y3 : W0.cell? ⟨gb, 3, none⟩ = some (.slice D3 b.f3.length d3) := (blk_cell BB.out 3).trans rfl
    go_ret
    exact ⟨ret_b (eqG_false HE.out).symm, by rw [HGA.out]; exact HB.out⟩
end Go.Proofs.YtiiolhnpnlmkjaaDoor.Tree
namespace Go.Proofs.YtiiolhnpnlmkjaaDoor.Tree
open Go.RowKit Go.Proofs.YtiiolhnpnlmkjaaDoor.PWkbPrints Go.Proofs.YtiiolhnpnlmkjaaDoorW.PrintWords Go.Proofs.YtiiolhnpnlmkjaaDoorW.PrintLast Go.Proofs.YtiiolhnpnlmkjaaDoorW.PrintMore
set_option linter.unusedVariables false
set_option linter.unusedSimpArgs false
attribute [local go_sem] Oper.semAt_some max2_int max_two min2_int min_two
def gA : Ge := ⟨1, [⟨4607182418800017408, 4611686018427387904⟩], [], []⟩
def bA : List Int := [1, 1, 0, 0, 0, 0, 0, 0, 0, 0, 0, 240, 63, 0, 0, 0, 0, 0, 0, 0, 64]
def sA : ByteArray := ⟨#[48, 49, 48, 49, 48, 48, 48, 48, 48, 48, 48, 48, 48, 48, 48, 48, 48, 48, 48, 48, 48, 48, 102, 48, 51, 102, 48, 48, 48, 48, 48, 48, 48, 48, 48, 48, 48, 48, 48, 48, 52, 48]⟩
theorem gA_check : checkR gA = none := by kernel_rfl
theorem gA_bytes : geoB [true] gA 0 = bA := by kernel_rfl
theorem gA_parsed : parsedR bA 1 21 = .ok (gA, [true]) := by kernel_rfl
theorem gA_hex : PMk.octet_Hex.f 30 bA = some sA := by kernel_rfl
set_option maxRecDepth 100000 in
set_option maxHeartbeats 16000000 in
theorem alive_calls (w : World) : Calls Tryd.prog 27 #[] w fun e w' => e = .returned (.bool true) ∧ Below w.heap.size w w' := by
  have hu := Tryd.underlying28
  go_enter Tryd.func27, Tryd.ntmps27
  go_upto_region 2 with fail
  obtain ⟨gl, hgl⟩ : ∃ y, y = w.heap.size := ⟨_, rfl⟩
  obtain ⟨W1, hW1⟩ : ∃ y, y = (w.alloc (.cells #[.int .u64 4607182418800017408, .int .u64 4611686018427387904] 82)).alloc (.cells #[.int .i64 1, .slice (some ⟨w.heap.size, 0, none⟩) 1 1, .slice none 0 0, .slice none 0 0] 28) := ⟨_, rfl⟩
  rw [← hW1, ← hgl]
  have hb1 : Below w.heap.size w W1 := by rw [hW1]; exact below_alloc (below_alloc (Below.refl _ _) _) _
  have kl : W1.heap[gl]? = some (.cells #[.int .u64 4607182418800017408, .int .u64 4611686018427387904] 82 (0, 0)) := by rw [hW1, hgl]; exact blk_alloc (World.alloc_heap_new _ _) _
  have kg : W1.heap[gl + 1]? = some (.cells #[.int .i64 1, .slice (some ⟨gl, 0, none⟩) 1 1, .slice none 0 0, .slice none 0 0] 28 (0, 0)) := by
    rw [hW1, hgl]
    have h9 := World.alloc_heap_new (w.alloc (.cells #[.int .u64 4607182418800017408, .int .u64 4611686018427387904] 82)) (.cells #[.int .i64 1, .slice (some ⟨w.heap.size, 0, none⟩) 1 1, .slice none 0 0, .slice none 0 0] 28)
    simpa using h9
  have hIG : IsG W1 (.agg #[.int .i64 1, .slice (some ⟨gl, 0, none⟩) 1 1, .slice none 0 0, .slice none 0 0]) gA := ⟨_, 1, none, 0, none, 0, rfl, Nat.le_refl _, lit_pt (q := ⟨4607182418800017408, 4611686018427387904⟩) kl, Nat.le_refl _, Kd.C_nil _ _, Nat.le_refl _, Kd.C_nil _ _⟩
  have H1 := Aside0.mk (And.intro (And.intro hb1 kg) hIG)
  have z0_ : W1.cell? ⟨gl + 1, 0, none⟩ = some (.int .i64 1) := (blk_cell kg 0).trans rfl
  have z1_ : W1.cell? ⟨gl + 1, 1, none⟩ = some (.slice (some ⟨gl, 0, none⟩) 1 1) := (blk_cell kg 1).trans rfl
  have z2_ : W1.cell? ⟨gl + 1, 2, none⟩ = some (.slice none 0 0) := (blk_cell kg 2).trans rfl
  have z3_ : W1.cell? ⟨gl + 1, 3, none⟩ = some (.slice none 0 0) := (blk_cell kg 3).trans rfl
  clear hW1 hgl hb1 kl kg hIG
  go_wp2_with fail
  refine (print_calls _ gA true W1 H1.out.2 (by decide)).mono ?_
  rintro e W2 ⟨u, er, rfl, hR, hE, hb2⟩
  rw [mixedB, if_pos gA_check, gA_bytes] at hR
  rw [gA_check] at hE
  obtain rfl : er = .nilIface := hE
  obtain ⟨A, c, e2⟩ := Kd.R_slice hR
  have hlA : bA.length = 21 := rfl
  rw [hlA] at e2
  subst e2
  have H2 := Aside0.mk (And.intro (And.intro (below_step H1.out.1.1 hb2) (blk_below H1.out.1.2 hb2)) (And.intro (H1.out.2.below hb2) (Kd.R_reads' hR).2))
  clear z0_ z1_ z2_ z3_ hb2 hR H1
  go_wp2_with fail
  refine (parse_calls A c bA 1 21 W2 H2.out.2.2.2 H2.out.2.2.1 (by decide)).mono ?_
  rintro e W3 ⟨uh, eh, rfl, hb3, -, hO⟩
  obtain ⟨rfl, hcp⟩ := hO _ gA_parsed
  have hig := hcp.isG
  have H3 := Aside0.mk (And.intro (And.intro (below_step H2.out.1.1 hb3) (blk_below H2.out.1.2 hb3)) (And.intro (And.intro (H2.out.2.1.below hb3) (And.intro H2.out.2.2.1 (Kd.C_below H2.out.2.2.2 hb3))) hig))
  obtain ⟨k, A1, n1, c1, A2, n2, c2, A3, n3, c3, e3⟩ := hcp.agg
  subst e3
  clear hb3 hO hcp H2 hig
  go_upto_region 4 with fail
  obtain ⟨W4, hW4⟩ : ∃ y, y = W3.alloc (.cells #[.int .i64 k, .slice A1 n1 c1, .slice A2 n2 c2, .slice A3 n3 c3] 28) := ⟨_, rfl⟩
  obtain ⟨gh, hgh⟩ : ∃ y, y = W3.heap.size := ⟨_, rfl⟩
  rw [← hW4, ← hgh]
  have hb4 : Below W3.heap.size W3 W4 := by rw [hW4]; exact below_alloc (Below.refl _ _) _
  have kh : W4.heap[gh]? = some (.cells #[.int .i64 k, .slice A1 n1 c1, .slice A2 n2 c2, .slice A3 n3 c3] 28 (0, 0)) := by rw [hW4, hgh]; exact World.alloc_heap_new _ _
  have kg := blk_below H3.out.1.2 hb4
  have H4 := Aside0.mk (And.intro (And.intro (below_step H3.out.1.1 hb4) (And.intro kg kh)) (And.intro (And.intro (H3.out.2.1.1.below hb4) (And.intro H3.out.2.1.2.1 (Kd.C_below H3.out.2.1.2.2 hb4))) (H3.out.2.2.below hb4)))
  clear hW4 hgh hb4 kg kh H3
  go_wp2_with fail
  refine (PMk.octet_Hex.calls 30 A c bA sA W4 H4.out.2.1.2.2 H4.out.2.1.2.1 gA_hex).mono ?_
  rintro e W5 ⟨rfl, hb5⟩
  have H5 := Aside0.mk (And.intro (below_step H4.out.1.1 hb5) (And.intro (H4.out.2.1.1.below hb5) (H4.out.2.2.below hb5)))
  have kg := blk_below H4.out.1.2.1 hb5
  have kh := blk_below H4.out.1.2.2 hb5
  have z0_ : W5.cell? ⟨gl + 1, 0, none⟩ = some (.int .i64 1) := (blk_cell kg 0).trans rfl
  have z1_ : W5.cell? ⟨gl + 1, 1, none⟩ = some (.slice (some ⟨gl, 0, none⟩) 1 1) := (blk_cell kg 1).trans rfl
  have z2_ : W5.cell? ⟨gl + 1, 2, none⟩ = some (.slice none 0 0) := (blk_cell kg 2).trans rfl
  have z3_ : W5.cell? ⟨gl + 1, 3, none⟩ = some (.slice none 0 0) := (blk_cell kg 3).trans rfl
  have y0_ : W5.cell? ⟨gh, 0, none⟩ = some (.int .i64 k) := (blk_cell kh 0).trans rfl
  have y1_ : W5.cell? ⟨gh, 1, none⟩ = some (.slice A1 n1 c1) := (blk_cell kh 1).trans rfl
  have y2_ : W5.cell? ⟨gh, 2, none⟩ = some (.slice A2 n2 c2) := (blk_cell kh 2).trans rfl
  have y3_ : W5.cell? ⟨gh, 3, none⟩ = some (.slice A3 n3 c3) := (blk_cell kh 3).trans rfl
  have hstr : (sA.toList == [48, 49, 48, 49, 48, 48, 48, 48, 48, 48, 48, 48, 48, 48, 48, 48, 48, 48, 48, 48, 48, 48, 102, 48, 51, 102, 48, 48, 48, 48, 48, 48, 48, 48, 48, 48, 48, 48, 48, 48, 52, 48]) = true := by kernel_rfl
  clear hb5 H4 kg kh
  go_wp2_with fail
  refine (equal_calls gA.bulk _ _ gA gA W5 H5.out.2.1 H5.out.2.2 (Nat.le_refl _) (by decide) (by decide)).mono ?_
  rintro e W6 ⟨rfl, hb6⟩
  rw [eqG_true rfl]
  have HB6 := Aside0.mk (below_step H5.out.1 hb6)
  clear hb6
  go_wp2_with fail
  go_ret
  exact ⟨rfl, HB6.out⟩
end Go.Proofs.YtiiolhnpnlmkjaaDoor.Tree
namespace Go.Proofs.YtiiolhnpnlmkjaaDoor.Tree
open Go.RowKit Go.Proofs.YtiiolhnpnlmkjaaDoor.PWkbPrints Go.Proofs.YtiiolhnpnlmkjaaDoorW.PrintWords Go.Proofs.YtiiolhnpnlmkjaaDoorW.PrintLast Go.Proofs.YtiiolhnpnlmkjaaDoorW.PrintMore Go.Proofs.YtiiolhnpnlmkjaaDoor.PMk
set_option linter.unusedVariables false
set_option linter.unusedSimpArgs false
attribute [local go_sem] Oper.semAt_some max2_int max_two min2_int min_two
theorem code_ne2 {p c : Int} (h : c ≠ 0) : codeOf (some (p, c)) ≠ 0 := h
theorem byte_blk {W : World} {g : Nat} {v : Int} (h : W.heap[g]? = some (.cells #[.int .u8 v] 5 (0, 0))) : kB.C W (some ⟨g, 0, none⟩) 1 [v] := by
  refine ⟨rfl, by decide, fun _ => ⟨_, rfl, fun i x hi => ?_⟩⟩
  match i with
  | 0 =>
    simp at hi
    subst hi
    refine ⟨[.int .u8 v], rfl, rfl, fun j u hj => ?_⟩
    match j with
    | 0 =>
      simp at hj
      subst hj
      exact (blk_cell h 0).trans rfl
    | j + 1 => simp at hj
  | i + 1 => simp at hi
set_option maxRecDepth 100000 in
set_option maxHeartbeats 32000000 in
theorem coords_calls (x y : Int) (le : Bool) (W : World) (hx : 0 ≤ x ∧ x < 18446744073709551616) (hy : 0 ≤ y ∧ y < 18446744073709551616) (hh : Handle W) :
    Calls Tryd.prog 8 #[.int .u64 x, .int .u64 y, .bool le] W fun e W' => e = .returned (.bool true) ∧ Below W.heap.size W W' := by
  have hu := Tryd.underlying28
  have hup := Tryd.underlying82
  have HH := Aside0.mk hh
  have HXY := Aside0.mk (And.intro hx hy)
  have HB := Aside0.mk (Below.refl W.heap.size W)
  obtain ⟨o, ho⟩ : ∃ o : Int, o = if le = true then 1 else 0 := ⟨_, rfl⟩
  have HO := Aside0.mk ho
  clear hh hx hy
  go_enter Tryd.func8, Tryd.ntmps8
  go_upto_if 15 with fail
  go_cut [7] (fun v wx => v = .int .u8 o ∧ wx = W)
  case first =>
    cases le
    · go_wp2_with fail
      go_meet
      exact ⟨by rw [ho]; rfl, rfl⟩
    · go_wp2_with fail
      go_meet
      exact ⟨by rw [ho]; rfl, rfl⟩
  case rest =>
  obtain ⟨rfl, hwc⟩ := hcut
  rw [hwc]
  clear hwc ho
  go_wp2_with fail
  obtain ⟨gl1, hgl1_⟩ : ∃ x, x = W.heap.size := ⟨_, rfl⟩
  obtain ⟨W1, hW1_⟩ : ∃ x, x = W.alloc (.cells #[.int .u8 o] 5) := ⟨_, rfl⟩
  rw [← hW1_, ← hgl1_]
  have KL1 := Aside0.mk (show W1.heap[gl1]? = some (.cells #[.int .u8 o] 5 (0, 0)) by rw [hW1_, hgl1_]; exact World.alloc_heap_new _ _)
  have hb_ : Below W.heap.size W W1 := by rw [hW1_]; exact below_alloc (Below.refl _ _) _
  clear hW1_ hgl1_
  have n_ := Aside0.mk (below_step HB.out hb_)
  clear HB
  have HB := n_
  clear n_
  have n_ := Aside0.mk (Handle_below HH.out hb_)
  clear HH
  have HH := n_
  clear n_
  clear hb_
  refine (put32_any (some ⟨gl1, 0, none⟩) 1 [o] 1 le W1 (byte_blk KL1.out) (Nat.le_refl _) (by simp)).mono ?_
  rintro e W2 ⟨u, rfl, hR, hb_⟩
  obtain ⟨M2, hM2⟩ : ∃ z_, z_ = [o] ++ P32 1 le := ⟨_, rfl⟩
  rw [← hM2] at hR
  have hlM2 := Aside0.mk (show M2.length = 5 by rw [hM2, List.length_append, P32_len]; rfl)
  have HM2 := Aside0.mk hM2
  clear hM2
  obtain ⟨A2, c2, e2_⟩ := Kd.R_slice hR
  subst e2_
  have R2 := Aside0.mk (Kd.R_reads' hR).2
  clear hR
  have n_ := Aside0.mk (below_step HB.out hb_)
  clear HB
  have HB := n_
  clear n_
  have n_ := Aside0.mk (Handle_below HH.out hb_)
  clear HH
  have HH := n_
  clear n_
  have n_ := Aside0.mk (blk_below KL1.out hb_)
  clear KL1
  have KL1 := n_
  clear n_
  clear hb_
  go_wp2_with fail
  refine (put64_ok A2 c2 M2 x le W2 R2.out.2 R2.out.1 (by rw [hlM2.out]; decide)).mono ?_
  rintro e W3 ⟨u, rfl, hR, hb_⟩
  obtain ⟨M3, hM3⟩ : ∃ z_, z_ = P64 M2 x le := ⟨_, rfl⟩
  rw [← hM3] at hR
  have hlM3 := Aside0.mk (show M3.length = 13 by rw [hM3, P64_len, hlM2.out])
  have HM3 := Aside0.mk hM3
  clear hM3
  obtain ⟨A3, c3, e2_⟩ := Kd.R_slice hR
  subst e2_
  have R3 := Aside0.mk (Kd.R_reads' hR).2
  clear hR
  have n_ := Aside0.mk (below_step HB.out hb_)
  clear HB
  have HB := n_
  clear n_
  have n_ := Aside0.mk (Handle_below HH.out hb_)
  clear HH
  have HH := n_
  clear n_
  have n_ := Aside0.mk (blk_below KL1.out hb_)
  clear KL1
  have KL1 := n_
  clear n_
  have n_ := Aside0.mk (And.intro R2.out.1 (Kd.C_below R2.out.2 hb_))
  clear R2
  have R2 := n_
  clear n_
  clear hb_
  go_wp2_with fail
  refine (put64_ok A3 c3 M3 y le W3 R3.out.2 R3.out.1 (by rw [hlM3.out]; decide)).mono ?_
  rintro e W4 ⟨u, rfl, hR, hb_⟩
  obtain ⟨M4, hM4⟩ : ∃ z_, z_ = P64 M3 y le := ⟨_, rfl⟩
  rw [← hM4] at hR
  have hlM4 := Aside0.mk (show M4.length = 21 by rw [hM4, P64_len, hlM3.out])
  have HM4 := Aside0.mk hM4
  clear hM4
  obtain ⟨A4, c4, e2_⟩ := Kd.R_slice hR
  subst e2_
  have R4 := Aside0.mk (Kd.R_reads' hR).2
  clear hR
  have n_ := Aside0.mk (below_step HB.out hb_)
  clear HB
  have HB := n_
  clear n_
  have n_ := Aside0.mk (Handle_below HH.out hb_)
  clear HH
  have HH := n_
  clear n_
  have n_ := Aside0.mk (blk_below KL1.out hb_)
  clear KL1
  have KL1 := n_
  clear n_
  have n_ := Aside0.mk (And.intro R2.out.1 (Kd.C_below R2.out.2 hb_))
  clear R2
  have R2 := n_
  clear n_
  have n_ := Aside0.mk (And.intro R3.out.1 (Kd.C_below R3.out.2 hb_))
  clear R3
  have R3 := n_
  clear n_
  clear hb_
  obtain ⟨p, hp⟩ : ∃ z, z = M4 := ⟨_, rfl⟩
  go_wp2_with fail
  obtain ⟨gl5, hgl5_⟩ : ∃ x, x = W4.heap.size := ⟨_, rfl⟩
  obtain ⟨W5, hW5_⟩ : ∃ x, x = W4.alloc (.cells #[.int .u8 o] 5) := ⟨_, rfl⟩
  rw [← hW5_, ← hgl5_]
  have KL5 := Aside0.mk (show W5.heap[gl5]? = some (.cells #[.int .u8 o] 5 (0, 0)) by rw [hW5_, hgl5_]; exact World.alloc_heap_new _ _)
  have hb_ : Below W4.heap.size W4 W5 := by rw [hW5_]; exact below_alloc (Below.refl _ _) _
  clear hW5_ hgl5_
  have n_ := Aside0.mk (below_step HB.out hb_)
  clear HB
  have HB := n_
  clear n_
  have n_ := Aside0.mk (Handle_below HH.out hb_)
  clear HH
  have HH := n_
  clear n_
  have n_ := Aside0.mk (blk_below KL1.out hb_)
  clear KL1
  have KL1 := n_
  clear n_
  have n_ := Aside0.mk (And.intro R2.out.1 (Kd.C_below R2.out.2 hb_))
  clear R2
  have R2 := n_
  clear n_
  have n_ := Aside0.mk (And.intro R3.out.1 (Kd.C_below R3.out.2 hb_))
  clear R3
  have R3 := n_
  clear n_
  have n_ := Aside0.mk (And.intro R4.out.1 (Kd.C_below R4.out.2 hb_))
  clear R4
  have R4 := n_
  clear n_
  clear hb_
  refine (put32_any (some ⟨gl5, 0, none⟩) 1 [o] 2 le W5 (byte_blk KL5.out) (Nat.le_refl _) (by simp)).mono ?_
  rintro e W6 ⟨u, rfl, hR, hb_⟩
  obtain ⟨M6, hM6⟩ : ∃ z_, z_ = [o] ++ P32 2 le := ⟨_, rfl⟩
  rw [← hM6] at hR
  have hlM6 := Aside0.mk (show M6.length = 5 by rw [hM6, List.length_append, P32_len]; rfl)
  have HM6 := Aside0.mk hM6
  clear hM6
  obtain ⟨A6, c6, e2_⟩ := Kd.R_slice hR
  subst e2_
  have R6 := Aside0.mk (Kd.R_reads' hR).2
  clear hR
  have n_ := Aside0.mk (below_step HB.out hb_)
  clear HB
  have HB := n_
  clear n_
  have n_ := Aside0.mk (Handle_below HH.out hb_)
  clear HH
  have HH := n_
  clear n_
  have n_ := Aside0.mk (blk_below KL1.out hb_)
  clear KL1
  have KL1 := n_
  clear n_
  have n_ := Aside0.mk (And.intro R2.out.1 (Kd.C_below R2.out.2 hb_))
  clear R2
  have R2 := n_
  clear n_
  have n_ := Aside0.mk (And.intro R3.out.1 (Kd.C_below R3.out.2 hb_))
  clear R3
  have R3 := n_
  clear n_
  have n_ := Aside0.mk (And.intro R4.out.1 (Kd.C_below R4.out.2 hb_))
  clear R4
  have R4 := n_
  clear n_
  have n_ := Aside0.mk (blk_below KL5.out hb_)
  clear KL5
  have KL5 := n_
  clear n_
  clear hb_
  go_wp2_with fail
  refine (put32_any A6 c6 M6 1 le W6 R6.out.2 R6.out.1 (by rw [hlM6.out]; decide)).mono ?_
  rintro e W7 ⟨u, rfl, hR, hb_⟩
  obtain ⟨M7, hM7⟩ : ∃ z_, z_ = M6 ++ P32 1 le := ⟨_, rfl⟩
  rw [← hM7] at hR
  have hlM7 := Aside0.mk (show M7.length = 9 by rw [hM7, List.length_append, P32_len, hlM6.out])
  have HM7 := Aside0.mk hM7
  clear hM7
  obtain ⟨A7, c7, e2_⟩ := Kd.R_slice hR
  subst e2_
  have R7 := Aside0.mk (Kd.R_reads' hR).2
  clear hR
  have n_ := Aside0.mk (below_step HB.out hb_)
  clear HB
  have HB := n_
  clear n_
  have n_ := Aside0.mk (Handle_below HH.out hb_)
  clear HH
  have HH := n_
  clear n_
  have n_ := Aside0.mk (blk_below KL1.out hb_)
  clear KL1
  have KL1 := n_
  clear n_
  have n_ := Aside0.mk (And.intro R2.out.1 (Kd.C_below R2.out.2 hb_))
  clear R2
  have R2 := n_
  clear n_
  have n_ := Aside0.mk (And.intro R3.out.1 (Kd.C_below R3.out.2 hb_))
  clear R3
  have R3 := n_
  clear n_
  have n_ := Aside0.mk (And.intro R4.out.1 (Kd.C_below R4.out.2 hb_))
  clear R4
  have R4 := n_
  clear n_
  have n_ := Aside0.mk (blk_below KL5.out hb_)
  clear KL5
  have KL5 := n_
  clear n_
  have n_ := Aside0.mk (And.intro R6.out.1 (Kd.C_below R6.out.2 hb_))
  clear R6
  have R6 := n_
  clear n_
  clear hb_
  go_wp2_with fail
  refine (put64_ok A7 c7 M7 x le W7 R7.out.2 R7.out.1 (by rw [hlM7.out]; decide)).mono ?_
  rintro e W8 ⟨u, rfl, hR, hb_⟩
  obtain ⟨M8, hM8⟩ : ∃ z_, z_ = P64 M7 x le := ⟨_, rfl⟩
  rw [← hM8] at hR
  have hlM8 := Aside0.mk (show M8.length = 17 by rw [hM8, P64_len, hlM7.out])
  have HM8 := Aside0.mk hM8
  clear hM8
  obtain ⟨A8, c8, e2_⟩ := Kd.R_slice hR
  subst e2_
  have R8 := Aside0.mk (Kd.R_reads' hR).2
  clear hR
  have n_ := Aside0.mk (below_step HB.out hb_)
  clear HB
  have HB := n_
  clear n_
  have n_ := Aside0.mk (Handle_below HH.out hb_)
  clear HH
  have HH := n_
  clear n_
  have n_ := Aside0.mk (blk_below KL1.out hb_)
  clear KL1
  have KL1 := n_
  clear n_
  have n_ := Aside0.mk (And.intro R2.out.1 (Kd.C_below R2.out.2 hb_))
  clear R2
  have R2 := n_
  clear n_
  have n_ := Aside0.mk (And.intro R3.out.1 (Kd.C_below R3.out.2 hb_))
  clear R3
  have R3 := n_
  clear n_
  have n_ := Aside0.mk (And.intro R4.out.1 (Kd.C_below R4.out.2 hb_))
  clear R4
  have R4 := n_
  clear n_
  have n_ := Aside0.mk (blk_below KL5.out hb_)
  clear KL5
  have KL5 := n_
  clear n_
  have n_ := Aside0.mk (And.intro R6.out.1 (Kd.C_below R6.out.2 hb_))
  clear R6
  have R6 := n_
  clear n_
  have n_ := Aside0.mk (And.intro R7.out.1 (Kd.C_below R7.out.2 hb_))
  clear R7
  have R7 := n_
  clear n_
  clear hb_
  go_wp2_with fail
  refine (put64_ok A8 c8 M8 y le W8 R8.out.2 R8.out.1 (by rw [hlM8.out]; decide)).mono ?_
  rintro e W9 ⟨u, rfl, hR, hb_⟩
  obtain ⟨M9, hM9⟩ : ∃ z_, z_ = P64 M8 y le := ⟨_, rfl⟩
  rw [← hM9] at hR
  have hlM9 := Aside0.mk (show M9.length = 25 by rw [hM9, P64_len, hlM8.out])
  have HM9 := Aside0.mk hM9
  clear hM9
  obtain ⟨A9, c9, e2_⟩ := Kd.R_slice hR
  subst e2_
  have R9 := Aside0.mk (Kd.R_reads' hR).2
  clear hR
  have n_ := Aside0.mk (below_step HB.out hb_)
  clear HB
  have HB := n_
  clear n_
  have n_ := Aside0.mk (Handle_below HH.out hb_)
  clear HH
  have HH := n_
  clear n_
  have n_ := Aside0.mk (blk_below KL1.out hb_)
  clear KL1
  have KL1 := n_
  clear n_
  have n_ := Aside0.mk (And.intro R2.out.1 (Kd.C_below R2.out.2 hb_))
  clear R2
  have R2 := n_
  clear n_
  have n_ := Aside0.mk (And.intro R3.out.1 (Kd.C_below R3.out.2 hb_))
  clear R3
  have R3 := n_
  clear n_
  have n_ := Aside0.mk (And.intro R4.out.1 (Kd.C_below R4.out.2 hb_))
  clear R4
  have R4 := n_
  clear n_
  have n_ := Aside0.mk (blk_below KL5.out hb_)
  clear KL5
  have KL5 := n_
  clear n_
  have n_ := Aside0.mk (And.intro R6.out.1 (Kd.C_below R6.out.2 hb_))
  clear R6
  have R6 := n_
  clear n_
  have n_ := Aside0.mk (And.intro R7.out.1 (Kd.C_below R7.out.2 hb_))
  clear R7
  have R7 := n_
  clear n_
  have n_ := Aside0.mk (And.intro R8.out.1 (Kd.C_below R8.out.2 hb_))
  clear R8
  have R8 := n_
  clear n_
  clear hb_
  clear hp
  have hob : [o] = bitB le := by rw [HO.out]; rfl
  have HP := Aside0.mk (show M4 = pointB le x y by rw [HM4.out, HM3.out, HM2.out, hob]; rfl)
  have HQ := Aside0.mk (show M9 = lineB le x y by rw [HM9.out, HM8.out, HM7.out, HM6.out, hob]; rfl)
  clear hob
  clear R2 hlM2 HM2
  clear R3 hlM3 HM3
  clear R6 hlM6 HM6
  clear R7 hlM7 HM7
  clear R8 hlM8 HM8
  clear HM4 HM9
  clear KL1
  clear KL5
  by_cases c1_ : classOf x = 4 ∧ classOf y = 4
  · have c1 := Aside0.mk c1_
    clear c1_
    have c2 := Aside0.mk (show 3 ≤ classOf x by rw [c1.out.1]; decide)
    go_wp2_with fail
    have hpr : parsedR M4 1 21 = .ok ((⟨1, [], [], []⟩ : Ge), [le]) := by rw [HP.out]; exact (point_parsed le x y HXY.out.1 HXY.out.2).trans (if_pos c1.out)
    refine (parse_ok A4 c4 M4 1 21 W9 (⟨1, [], [], []⟩ : Ge) [le] R4.out.2 R4.out.1 (by rw [hlM4.out]; decide) hpr).mono ?_
    rintro e W10 ⟨X1, x1_, X2, x2_, X3, x3_, rfl, hcp, hb_⟩
    have IX := Aside0.mk (CopyOf.isG hcp)
    clear hcp
    have n_ := Aside0.mk (below_step HB.out hb_)
    clear HB
    have HB := n_
    clear n_
    have n_ := Aside0.mk (Handle_below HH.out hb_)
    clear HH
    have HH := n_
    clear n_
    have n_ := Aside0.mk (And.intro R4.out.1 (Kd.C_below R4.out.2 hb_))
    clear R4
    have R4 := n_
    clear n_
    have n_ := Aside0.mk (And.intro R9.out.1 (Kd.C_below R9.out.2 hb_))
    clear R9
    have R9 := n_
    clear n_
    clear hb_
    clear hpr
    dsimp only [List.length_cons, List.length_nil]
    go_upto_region 7 with fail
    obtain ⟨gx, hgx_⟩ : ∃ x, x = W10.heap.size := ⟨_, rfl⟩
    obtain ⟨W11, hW11_⟩ : ∃ x, x = W10.alloc (.cells #[.int .i64 1, .slice X1 0 x1_, .slice X2 0 x2_, .slice X3 0 x3_] 28) := ⟨_, rfl⟩
    rw [← hW11_, ← hgx_]
    have KX := Aside0.mk (show W11.heap[gx]? = some (.cells #[.int .i64 1, .slice X1 0 x1_, .slice X2 0 x2_, .slice X3 0 x3_] 28 (0, 0)) by rw [hW11_, hgx_]; exact World.alloc_heap_new _ _)
    have hb_ : Below W10.heap.size W10 W11 := by rw [hW11_]; exact below_alloc (Below.refl _ _) _
    clear hW11_ hgx_
    have n_ := Aside0.mk (below_step HB.out hb_)
    clear HB
    have HB := n_
    clear n_
    have n_ := Aside0.mk (Handle_below HH.out hb_)
    clear HH
    have HH := n_
    clear n_
    have n_ := Aside0.mk (And.intro R4.out.1 (Kd.C_below R4.out.2 hb_))
    clear R4
    have R4 := n_
    clear n_
    have n_ := Aside0.mk (And.intro R9.out.1 (Kd.C_below R9.out.2 hb_))
    clear R9
    have R9 := n_
    clear n_
    have n_ := Aside0.mk (IX.out.below hb_)
    clear IX
    have IX := n_
    clear n_
    clear hb_
    have zX0_ : W11.cell? ⟨gx, 0, none⟩ = some (.int .i64 1) := (blk_cell KX.out 0).trans rfl
    have zX1_ : W11.cell? ⟨gx, 1, none⟩ = some (.slice X1 0 x1_) := (blk_cell KX.out 1).trans rfl
    have zX2_ : W11.cell? ⟨gx, 2, none⟩ = some (.slice X2 0 x2_) := (blk_cell KX.out 2).trans rfl
    have zX3_ : W11.cell? ⟨gx, 3, none⟩ = some (.slice X3 0 x3_) := (blk_cell KX.out 3).trans rfl
    go_wp2_with fail
    have hpr : parsedR M9 1 25 = .error (9, 175) := by rw [HQ.out]; exact (line_parsed le x y HXY.out.1 HXY.out.2 _ (if_pos c2.out))
    clear zX0_ zX1_ zX2_ zX3_
    refine (parse_err A9 c9 M9 1 25 W11 (9, 175) R9.out.2 R9.out.1 (by rw [hlM9.out]; decide) hpr).mono ?_
    rintro e W12 ⟨geY, rfl, hev_, hb_⟩
    have EY := Aside0.mk hev_
    clear hev_
    have n_ := Aside0.mk (below_step HB.out hb_)
    clear HB
    have HB := n_
    clear n_
    have n_ := Aside0.mk (Handle_below HH.out hb_)
    clear HH
    have HH := n_
    clear n_
    have n_ := Aside0.mk (And.intro R4.out.1 (Kd.C_below R4.out.2 hb_))
    clear R4
    have R4 := n_
    clear n_
    have n_ := Aside0.mk (And.intro R9.out.1 (Kd.C_below R9.out.2 hb_))
    clear R9
    have R9 := n_
    clear n_
    have n_ := Aside0.mk (IX.out.below hb_)
    clear IX
    have IX := n_
    clear n_
    have n_ := Aside0.mk (blk_below KX.out hb_)
    clear KX
    have KX := n_
    clear n_
    clear hb_
    clear hpr
    have zX0_ : W12.cell? ⟨gx, 0, none⟩ = some (.int .i64 1) := (blk_cell KX.out 0).trans rfl
    have zX1_ : W12.cell? ⟨gx, 1, none⟩ = some (.slice X1 0 x1_) := (blk_cell KX.out 1).trans rfl
    have zX2_ : W12.cell? ⟨gx, 2, none⟩ = some (.slice X2 0 x2_) := (blk_cell KX.out 2).trans rfl
    have zX3_ : W12.cell? ⟨gx, 3, none⟩ = some (.slice X3 0 x3_) := (blk_cell KX.out 3).trans rfl
    go_upto_region 8 with fail
    obtain ⟨gy, hgy_⟩ : ∃ x, x = W12.heap.size := ⟨_, rfl⟩
    obtain ⟨W13, hW13_⟩ : ∃ x, x = W12.alloc (.cells #[.int .i64 0, .slice none 0 0, .slice none 0 0, .slice none 0 0] 28) := ⟨_, rfl⟩
    rw [← hW13_, ← hgy_]
    have KY := Aside0.mk (show W13.heap[gy]? = some (.cells #[.int .i64 0, .slice none 0 0, .slice none 0 0, .slice none 0 0] 28 (0, 0)) by rw [hW13_, hgy_]; exact World.alloc_heap_new _ _)
    have hb_ : Below W12.heap.size W12 W13 := by rw [hW13_]; exact below_alloc (Below.refl _ _) _
    clear hW13_ hgy_
    have n_ := Aside0.mk (below_step HB.out hb_)
    clear HB
    have HB := n_
    clear n_
    have n_ := Aside0.mk (Handle_below HH.out hb_)
    clear HH
    have HH := n_
    clear n_
    have n_ := Aside0.mk (And.intro R4.out.1 (Kd.C_below R4.out.2 hb_))
    clear R4
    have R4 := n_
    clear n_
    have n_ := Aside0.mk (And.intro R9.out.1 (Kd.C_below R9.out.2 hb_))
    clear R9
    have R9 := n_
    clear n_
    have n_ := Aside0.mk (IX.out.below hb_)
    clear IX
    have IX := n_
    clear n_
    have n_ := Aside0.mk (blk_below KX.out hb_)
    clear KX
    have KX := n_
    clear n_
    have n_ := Aside0.mk (ErrV.below EY.out hb_)
    clear EY
    have EY := n_
    clear n_
    clear hb_
    clear zX0_ zX1_ zX2_ zX3_
    have zX0_ : W13.cell? ⟨gx, 0, none⟩ = some (.int .i64 1) := (blk_cell KX.out 0).trans rfl
    have zX1_ : W13.cell? ⟨gx, 1, none⟩ = some (.slice X1 0 x1_) := (blk_cell KX.out 1).trans rfl
    have zX2_ : W13.cell? ⟨gx, 2, none⟩ = some (.slice X2 0 x2_) := (blk_cell KX.out 2).trans rfl
    have zX3_ : W13.cell? ⟨gx, 3, none⟩ = some (.slice X3 0 x3_) := (blk_cell KX.out 3).trans rfl
    have zY0_ : W13.cell? ⟨gy, 0, none⟩ = some (.int .i64 0) := (blk_cell KY.out 0).trans rfl
    have zY1_ : W13.cell? ⟨gy, 1, none⟩ = some (.slice none 0 0) := (blk_cell KY.out 1).trans rfl
    have zY2_ : W13.cell? ⟨gy, 2, none⟩ = some (.slice none 0 0) := (blk_cell KY.out 2).trans rfl
    have zY3_ : W13.cell? ⟨gy, 3, none⟩ = some (.slice none 0 0) := (blk_cell KY.out 3).trans rfl
    have hlp := hlM4.out
    have hlq := hlM9.out
    rw [hlp, hlq]
    clear hlp hlq
    go_wp2_with fail
    clear zX0_ zX1_ zX2_ zX3_ zY0_ zY1_ zY2_ zY3_
    refine (alive_calls W13).mono ?_
    rintro e W14 ⟨rfl, hb_⟩
    have n_ := Aside0.mk (below_step HB.out hb_)
    clear HB
    have HB := n_
    clear n_
    have n_ := Aside0.mk (Handle_below HH.out hb_)
    clear HH
    have HH := n_
    clear n_
    have n_ := Aside0.mk (And.intro R4.out.1 (Kd.C_below R4.out.2 hb_))
    clear R4
    have R4 := n_
    clear n_
    have n_ := Aside0.mk (And.intro R9.out.1 (Kd.C_below R9.out.2 hb_))
    clear R9
    have R9 := n_
    clear n_
    have n_ := Aside0.mk (IX.out.below hb_)
    clear IX
    have IX := n_
    clear n_
    have n_ := Aside0.mk (blk_below KX.out hb_)
    clear KX
    have KX := n_
    clear n_
    have n_ := Aside0.mk (ErrV.below EY.out hb_)
    clear EY
    have EY := n_
    clear n_
    have n_ := Aside0.mk (blk_below KY.out hb_)
    clear KY
    have KY := n_
    clear n_
    clear hb_
    have zX0_ : W14.cell? ⟨gx, 0, none⟩ = some (.int .i64 1) := (blk_cell KX.out 0).trans rfl
    have zX1_ : W14.cell? ⟨gx, 1, none⟩ = some (.slice X1 0 x1_) := (blk_cell KX.out 1).trans rfl
    have zX2_ : W14.cell? ⟨gx, 2, none⟩ = some (.slice X2 0 x2_) := (blk_cell KX.out 2).trans rfl
    have zX3_ : W14.cell? ⟨gx, 3, none⟩ = some (.slice X3 0 x3_) := (blk_cell KX.out 3).trans rfl
    have zY0_ : W14.cell? ⟨gy, 0, none⟩ = some (.int .i64 0) := (blk_cell KY.out 0).trans rfl
    have zY1_ : W14.cell? ⟨gy, 1, none⟩ = some (.slice none 0 0) := (blk_cell KY.out 1).trans rfl
    have zY2_ : W14.cell? ⟨gy, 2, none⟩ = some (.slice none 0 0) := (blk_cell KY.out 2).trans rfl
    have zY3_ : W14.cell? ⟨gy, 3, none⟩ = some (.slice none 0 0) := (blk_cell KY.out 3).trans rfl
    go_upto_if 63 with fail
    clear zX0_ zX1_ zX2_ zX3_ zY0_ zY1_ zY2_ zY3_
    go_cut [14] (fun v wx => ∃ n : Int, v = .int .i64 n ∧ wx = W14)
    case first =>
      by_cases hiy : (Go.bits .and .u64 (y / 4503599627370496) 2047 == 2047) = true
      · go_wp2_with fail
        go_meet
        exact ⟨_, rfl, rfl⟩
      · have hiy' := Bool.eq_false_iff.2 hiy
        clear hiy
        go_wp2_with fail
        go_meet
        exact ⟨_, rfl, rfl⟩
    case rest =>
    obtain ⟨n_, rfl, hwc⟩ := hcut
    rw [hwc]
    clear hwc
    have zX0_ : W14.cell? ⟨gx, 0, none⟩ = some (.int .i64 1) := (blk_cell KX.out 0).trans rfl
    have zX1_ : W14.cell? ⟨gx, 1, none⟩ = some (.slice X1 0 x1_) := (blk_cell KX.out 1).trans rfl
    have zX2_ : W14.cell? ⟨gx, 2, none⟩ = some (.slice X2 0 x2_) := (blk_cell KX.out 2).trans rfl
    have zX3_ : W14.cell? ⟨gx, 3, none⟩ = some (.slice X3 0 x3_) := (blk_cell KX.out 3).trans rfl
    have zY0_ : W14.cell? ⟨gy, 0, none⟩ = some (.int .i64 0) := (blk_cell KY.out 0).trans rfl
    have zY1_ : W14.cell? ⟨gy, 1, none⟩ = some (.slice none 0 0) := (blk_cell KY.out 1).trans rfl
    have zY2_ : W14.cell? ⟨gy, 2, none⟩ = some (.slice none 0 0) := (blk_cell KY.out 2).trans rfl
    have zY3_ : W14.cell? ⟨gy, 3, none⟩ = some (.slice none 0 0) := (blk_cell KY.out 3).trans rfl
    have hix := (infB_class x HXY.out.1.1 HXY.out.1.2).2 (c2.out)
    unfold infB at hix
    go_wp2_with fail
    clear zX0_ zX1_ zX2_ zX3_ zY0_ zY1_ zY2_ zY3_
    refine (told_yes _ (some (9, 175)) 9 W14 HH.out EY.out (fun _ => ⟨code_ne2 (by decide), rfl⟩)).mono ?_
    rintro e W15 ⟨rfl, hb_⟩
    have n_ := Aside0.mk (below_step HB.out hb_)
    clear HB
    have HB := n_
    clear n_
    have n_ := Aside0.mk (Handle_below HH.out hb_)
    clear HH
    have HH := n_
    clear n_
    have n_ := Aside0.mk (And.intro R4.out.1 (Kd.C_below R4.out.2 hb_))
    clear R4
    have R4 := n_
    clear n_
    have n_ := Aside0.mk (And.intro R9.out.1 (Kd.C_below R9.out.2 hb_))
    clear R9
    have R9 := n_
    clear n_
    have n_ := Aside0.mk (IX.out.below hb_)
    clear IX
    have IX := n_
    clear n_
    have n_ := Aside0.mk (blk_below KX.out hb_)
    clear KX
    have KX := n_
    clear n_
    have n_ := Aside0.mk (ErrV.below EY.out hb_)
    clear EY
    have EY := n_
    clear n_
    have n_ := Aside0.mk (blk_below KY.out hb_)
    clear KY
    have KY := n_
    clear n_
    clear hb_
    have zX0_ : W15.cell? ⟨gx, 0, none⟩ = some (.int .i64 1) := (blk_cell KX.out 0).trans rfl
    have zX1_ : W15.cell? ⟨gx, 1, none⟩ = some (.slice X1 0 x1_) := (blk_cell KX.out 1).trans rfl
    have zX2_ : W15.cell? ⟨gx, 2, none⟩ = some (.slice X2 0 x2_) := (blk_cell KX.out 2).trans rfl
    have zX3_ : W15.cell? ⟨gx, 3, none⟩ = some (.slice X3 0 x3_) := (blk_cell KX.out 3).trans rfl
    have zY0_ : W15.cell? ⟨gy, 0, none⟩ = some (.int .i64 0) := (blk_cell KY.out 0).trans rfl
    have zY1_ : W15.cell? ⟨gy, 1, none⟩ = some (.slice none 0 0) := (blk_cell KY.out 1).trans rfl
    have zY2_ : W15.cell? ⟨gy, 2, none⟩ = some (.slice none 0 0) := (blk_cell KY.out 2).trans rfl
    have zY3_ : W15.cell? ⟨gy, 3, none⟩ = some (.slice none 0 0) := (blk_cell KY.out 3).trans rfl
    have hnx := (nanB_class x HXY.out.1.1 HXY.out.1.2).2 (c1.out.1)
    unfold nanB at hnx
    have hny := (nanB_class y HXY.out.2.1 HXY.out.2.2).2 (c1.out.2)
    unfold nanB at hny
    rw [decide_eq_true_iff] at hnx hny
    go_wp2_with fail
    go_ret
    exact ⟨rfl, HB.out⟩
  have c1 := Aside0.mk c1_
  clear c1_
  by_cases c2_ : 3 ≤ classOf x
  · have c2 := Aside0.mk c2_
    clear c2_
    go_wp2_with fail
    have hpr : parsedR M4 1 21 = .error (5, 175) := by rw [HP.out]; exact (point_parsed le x y HXY.out.1 HXY.out.2).trans ((if_neg c1.out).trans (if_pos c2.out))
    refine (parse_err A4 c4 M4 1 21 W9 (5, 175) R4.out.2 R4.out.1 (by rw [hlM4.out]; decide) hpr).mono ?_
    rintro e W10 ⟨geX, rfl, hev_, hb_⟩
    have EX := Aside0.mk hev_
    clear hev_
    have n_ := Aside0.mk (below_step HB.out hb_)
    clear HB
    have HB := n_
    clear n_
    have n_ := Aside0.mk (Handle_below HH.out hb_)
    clear HH
    have HH := n_
    clear n_
    have n_ := Aside0.mk (And.intro R4.out.1 (Kd.C_below R4.out.2 hb_))
    clear R4
    have R4 := n_
    clear n_
    have n_ := Aside0.mk (And.intro R9.out.1 (Kd.C_below R9.out.2 hb_))
    clear R9
    have R9 := n_
    clear n_
    clear hb_
    clear hpr
    go_upto_region 7 with fail
    obtain ⟨gx, hgx_⟩ : ∃ x, x = W10.heap.size := ⟨_, rfl⟩
    obtain ⟨W11, hW11_⟩ : ∃ x, x = W10.alloc (.cells #[.int .i64 0, .slice none 0 0, .slice none 0 0, .slice none 0 0] 28) := ⟨_, rfl⟩
    rw [← hW11_, ← hgx_]
    have KX := Aside0.mk (show W11.heap[gx]? = some (.cells #[.int .i64 0, .slice none 0 0, .slice none 0 0, .slice none 0 0] 28 (0, 0)) by rw [hW11_, hgx_]; exact World.alloc_heap_new _ _)
    have hb_ : Below W10.heap.size W10 W11 := by rw [hW11_]; exact below_alloc (Below.refl _ _) _
    clear hW11_ hgx_
    have n_ := Aside0.mk (below_step HB.out hb_)
    clear HB
    have HB := n_
    clear n_
    have n_ := Aside0.mk (Handle_below HH.out hb_)
    clear HH
    have HH := n_
    clear n_
    have n_ := Aside0.mk (And.intro R4.out.1 (Kd.C_below R4.out.2 hb_))
    clear R4
    have R4 := n_
    clear n_
    have n_ := Aside0.mk (And.intro R9.out.1 (Kd.C_below R9.out.2 hb_))
    clear R9
    have R9 := n_
    clear n_
    have n_ := Aside0.mk (ErrV.below EX.out hb_)
    clear EX
    have EX := n_
    clear n_
    clear hb_
    have zX0_ : W11.cell? ⟨gx, 0, none⟩ = some (.int .i64 0) := (blk_cell KX.out 0).trans rfl
    have zX1_ : W11.cell? ⟨gx, 1, none⟩ = some (.slice none 0 0) := (blk_cell KX.out 1).trans rfl
    have zX2_ : W11.cell? ⟨gx, 2, none⟩ = some (.slice none 0 0) := (blk_cell KX.out 2).trans rfl
    have zX3_ : W11.cell? ⟨gx, 3, none⟩ = some (.slice none 0 0) := (blk_cell KX.out 3).trans rfl
    go_wp2_with fail
    have hpr : parsedR M9 1 25 = .error (9, 175) := by rw [HQ.out]; exact (line_parsed le x y HXY.out.1 HXY.out.2 _ (if_pos c2.out))
    clear zX0_ zX1_ zX2_ zX3_
    refine (parse_err A9 c9 M9 1 25 W11 (9, 175) R9.out.2 R9.out.1 (by rw [hlM9.out]; decide) hpr).mono ?_
    rintro e W12 ⟨geY, rfl, hev_, hb_⟩
    have EY := Aside0.mk hev_
    clear hev_
    have n_ := Aside0.mk (below_step HB.out hb_)
    clear HB
    have HB := n_
    clear n_
    have n_ := Aside0.mk (Handle_below HH.out hb_)
    clear HH
    have HH := n_
    clear n_
    have n_ := Aside0.mk (And.intro R4.out.1 (Kd.C_below R4.out.2 hb_))
    clear R4
    have R4 := n_
    clear n_
    have n_ := Aside0.mk (And.intro R9.out.1 (Kd.C_below R9.out.2 hb_))
    clear R9
    have R9 := n_
    clear n_
    have n_ := Aside0.mk (ErrV.below EX.out hb_)
    clear EX
    have EX := n_
    clear n_
    have n_ := Aside0.mk (blk_below KX.out hb_)
    clear KX
    have KX := n_
    clear n_
    clear hb_
    clear hpr
    have zX0_ : W12.cell? ⟨gx, 0, none⟩ = some (.int .i64 0) := (blk_cell KX.out 0).trans rfl
    have zX1_ : W12.cell? ⟨gx, 1, none⟩ = some (.slice none 0 0) := (blk_cell KX.out 1).trans rfl
    have zX2_ : W12.cell? ⟨gx, 2, none⟩ = some (.slice none 0 0) := (blk_cell KX.out 2).trans rfl
    have zX3_ : W12.cell? ⟨gx, 3, none⟩ = some (.slice none 0 0) := (blk_cell KX.out 3).trans rfl
    go_upto_region 8 with fail
    obtain ⟨gy, hgy_⟩ : ∃ x, x = W12.heap.size := ⟨_, rfl⟩
    obtain ⟨W13, hW13_⟩ : ∃ x, x = W12.alloc (.cells #[.int .i64 0, .slice none 0 0, .slice none 0 0, .slice none 0 0] 28) := ⟨_, rfl⟩
    rw [← hW13_, ← hgy_]
    have KY := Aside0.mk (show W13.heap[gy]? = some (.cells #[.int .i64 0, .slice none 0 0, .slice none 0 0, .slice none 0 0] 28 (0, 0)) by rw [hW13_, hgy_]; exact World.alloc_heap_new _ _)
    have hb_ : Below W12.heap.size W12 W13 := by rw [hW13_]; exact below_alloc (Below.refl _ _) _
    clear hW13_ hgy_
    have n_ := Aside0.mk (below_step HB.out hb_)
    clear HB
    have HB := n_
    clear n_
    have n_ := Aside0.mk (Handle_below HH.out hb_)
    clear HH
    have HH := n_
    clear n_
    have n_ := Aside0.mk (And.intro R4.out.1 (Kd.C_below R4.out.2 hb_))
    clear R4
    have R4 := n_
    clear n_
    have n_ := Aside0.mk (And.intro R9.out.1 (Kd.C_below R9.out.2 hb_))
    clear R9
    have R9 := n_
    clear n_
    have n_ := Aside0.mk (ErrV.below EX.out hb_)
    clear EX
    have EX := n_
    clear n_
    have n_ := Aside0.mk (blk_below KX.out hb_)
    clear KX
    have KX := n_
    clear n_
    have n_ := Aside0.mk (ErrV.below EY.out hb_)
    clear EY
    have EY := n_
    clear n_
    clear hb_
    clear zX0_ zX1_ zX2_ zX3_
    have zX0_ : W13.cell? ⟨gx, 0, none⟩ = some (.int .i64 0) := (blk_cell KX.out 0).trans rfl
    have zX1_ : W13.cell? ⟨gx, 1, none⟩ = some (.slice none 0 0) := (blk_cell KX.out 1).trans rfl
    have zX2_ : W13.cell? ⟨gx, 2, none⟩ = some (.slice none 0 0) := (blk_cell KX.out 2).trans rfl
    have zX3_ : W13.cell? ⟨gx, 3, none⟩ = some (.slice none 0 0) := (blk_cell KX.out 3).trans rfl
    have zY0_ : W13.cell? ⟨gy, 0, none⟩ = some (.int .i64 0) := (blk_cell KY.out 0).trans rfl
    have zY1_ : W13.cell? ⟨gy, 1, none⟩ = some (.slice none 0 0) := (blk_cell KY.out 1).trans rfl
    have zY2_ : W13.cell? ⟨gy, 2, none⟩ = some (.slice none 0 0) := (blk_cell KY.out 2).trans rfl
    have zY3_ : W13.cell? ⟨gy, 3, none⟩ = some (.slice none 0 0) := (blk_cell KY.out 3).trans rfl
    have hlp := hlM4.out
    have hlq := hlM9.out
    rw [hlp, hlq]
    clear hlp hlq
    go_wp2_with fail
    clear zX0_ zX1_ zX2_ zX3_ zY0_ zY1_ zY2_ zY3_
    refine (alive_calls W13).mono ?_
    rintro e W14 ⟨rfl, hb_⟩
    have n_ := Aside0.mk (below_step HB.out hb_)
    clear HB
    have HB := n_
    clear n_
    have n_ := Aside0.mk (Handle_below HH.out hb_)
    clear HH
    have HH := n_
    clear n_
    have n_ := Aside0.mk (And.intro R4.out.1 (Kd.C_below R4.out.2 hb_))
    clear R4
    have R4 := n_
    clear n_
    have n_ := Aside0.mk (And.intro R9.out.1 (Kd.C_below R9.out.2 hb_))
    clear R9
    have R9 := n_
    clear n_
    have n_ := Aside0.mk (ErrV.below EX.out hb_)
    clear EX
    have EX := n_
    clear n_
    have n_ := Aside0.mk (blk_below KX.out hb_)
    clear KX
    have KX := n_
    clear n_
    have n_ := Aside0.mk (ErrV.below EY.out hb_)
    clear EY
    have EY := n_
    clear n_
    have n_ := Aside0.mk (blk_below KY.out hb_)
    clear KY
    have KY := n_
    clear n_
    clear hb_
    have zX0_ : W14.cell? ⟨gx, 0, none⟩ = some (.int .i64 0) := (blk_cell KX.out 0).trans rfl
    have zX1_ : W14.cell? ⟨gx, 1, none⟩ = some (.slice none 0 0) := (blk_cell KX.out 1).trans rfl
    have zX2_ : W14.cell? ⟨gx, 2, none⟩ = some (.slice none 0 0) := (blk_cell KX.out 2).trans rfl
    have zX3_ : W14.cell? ⟨gx, 3, none⟩ = some (.slice none 0 0) := (blk_cell KX.out 3).trans rfl
    have zY0_ : W14.cell? ⟨gy, 0, none⟩ = some (.int .i64 0) := (blk_cell KY.out 0).trans rfl
    have zY1_ : W14.cell? ⟨gy, 1, none⟩ = some (.slice none 0 0) := (blk_cell KY.out 1).trans rfl
    have zY2_ : W14.cell? ⟨gy, 2, none⟩ = some (.slice none 0 0) := (blk_cell KY.out 2).trans rfl
    have zY3_ : W14.cell? ⟨gy, 3, none⟩ = some (.slice none 0 0) := (blk_cell KY.out 3).trans rfl
    go_upto_if 63 with fail
    clear zX0_ zX1_ zX2_ zX3_ zY0_ zY1_ zY2_ zY3_
    go_cut [14] (fun v wx => ∃ n : Int, v = .int .i64 n ∧ wx = W14)
    case first =>
      by_cases hiy : (Go.bits .and .u64 (y / 4503599627370496) 2047 == 2047) = true
      · go_wp2_with fail
        go_meet
        exact ⟨_, rfl, rfl⟩
      · have hiy' := Bool.eq_false_iff.2 hiy
        clear hiy
        go_wp2_with fail
        go_meet
        exact ⟨_, rfl, rfl⟩
    case rest =>
    obtain ⟨n_, rfl, hwc⟩ := hcut
    rw [hwc]
    clear hwc
    have zX0_ : W14.cell? ⟨gx, 0, none⟩ = some (.int .i64 0) := (blk_cell KX.out 0).trans rfl
    have zX1_ : W14.cell? ⟨gx, 1, none⟩ = some (.slice none 0 0) := (blk_cell KX.out 1).trans rfl
    have zX2_ : W14.cell? ⟨gx, 2, none⟩ = some (.slice none 0 0) := (blk_cell KX.out 2).trans rfl
    have zX3_ : W14.cell? ⟨gx, 3, none⟩ = some (.slice none 0 0) := (blk_cell KX.out 3).trans rfl
    have zY0_ : W14.cell? ⟨gy, 0, none⟩ = some (.int .i64 0) := (blk_cell KY.out 0).trans rfl
    have zY1_ : W14.cell? ⟨gy, 1, none⟩ = some (.slice none 0 0) := (blk_cell KY.out 1).trans rfl
    have zY2_ : W14.cell? ⟨gy, 2, none⟩ = some (.slice none 0 0) := (blk_cell KY.out 2).trans rfl
    have zY3_ : W14.cell? ⟨gy, 3, none⟩ = some (.slice none 0 0) := (blk_cell KY.out 3).trans rfl
    have hix := (infB_class x HXY.out.1.1 HXY.out.1.2).2 (c2.out)
    unfold infB at hix
    go_wp2_with fail
    clear zX0_ zX1_ zX2_ zX3_ zY0_ zY1_ zY2_ zY3_
    refine (told_yes _ (some (9, 175)) 9 W14 HH.out EY.out (fun _ => ⟨code_ne2 (by decide), rfl⟩)).mono ?_
    rintro e W15 ⟨rfl, hb_⟩
    have n_ := Aside0.mk (below_step HB.out hb_)
    clear HB
    have HB := n_
    clear n_
    have n_ := Aside0.mk (Handle_below HH.out hb_)
    clear HH
    have HH := n_
    clear n_
    have n_ := Aside0.mk (And.intro R4.out.1 (Kd.C_below R4.out.2 hb_))
    clear R4
    have R4 := n_
    clear n_
    have n_ := Aside0.mk (And.intro R9.out.1 (Kd.C_below R9.out.2 hb_))
    clear R9
    have R9 := n_
    clear n_
    have n_ := Aside0.mk (ErrV.below EX.out hb_)
    clear EX
    have EX := n_
    clear n_
    have n_ := Aside0.mk (blk_below KX.out hb_)
    clear KX
    have KX := n_
    clear n_
    have n_ := Aside0.mk (ErrV.below EY.out hb_)
    clear EY
    have EY := n_
    clear n_
    have n_ := Aside0.mk (blk_below KY.out hb_)
    clear KY
    have KY := n_
    clear n_
    clear hb_
    have zX0_ : W15.cell? ⟨gx, 0, none⟩ = some (.int .i64 0) := (blk_cell KX.out 0).trans rfl
    have zX1_ : W15.cell? ⟨gx, 1, none⟩ = some (.slice none 0 0) := (blk_cell KX.out 1).trans rfl
    have zX2_ : W15.cell? ⟨gx, 2, none⟩ = some (.slice none 0 0) := (blk_cell KX.out 2).trans rfl
    have zX3_ : W15.cell? ⟨gx, 3, none⟩ = some (.slice none 0 0) := (blk_cell KX.out 3).trans rfl
    have zY0_ : W15.cell? ⟨gy, 0, none⟩ = some (.int .i64 0) := (blk_cell KY.out 0).trans rfl
    have zY1_ : W15.cell? ⟨gy, 1, none⟩ = some (.slice none 0 0) := (blk_cell KY.out 1).trans rfl
    have zY2_ : W15.cell? ⟨gy, 2, none⟩ = some (.slice none 0 0) := (blk_cell KY.out 2).trans rfl
    have zY3_ : W15.cell? ⟨gy, 3, none⟩ = some (.slice none 0 0) := (blk_cell KY.out 3).trans rfl
    by_cases nx : classOf x = 4
    · have NX := Aside0.mk nx
      clear nx
      have hnx := (nanB_class x HXY.out.1.1 HXY.out.1.2).2 (NX.out)
      unfold nanB at hnx
      have hny := Bool.eq_false_iff.2 (fun h => (fun h => c1.out ⟨NX.out, h⟩) ((nanB_class y HXY.out.2.1 HXY.out.2.2).1 h))
      unfold nanB at hny
      rw [decide_eq_true_iff] at hnx
      rw [decide_eq_false_iff_not] at hny
      go_wp2_with fail
      clear zX0_ zX1_ zX2_ zX3_ zY0_ zY1_ zY2_ zY3_
      refine (told_yes _ (some (5, 175)) 5 W15 HH.out EX.out (fun _ => ⟨code_ne2 (by decide), rfl⟩)).mono ?_
      rintro e W16 ⟨rfl, hb_⟩
      have n_ := Aside0.mk (below_step HB.out hb_)
      clear HB
      have HB := n_
      clear n_
      have n_ := Aside0.mk (Handle_below HH.out hb_)
      clear HH
      have HH := n_
      clear n_
      have n_ := Aside0.mk (And.intro R4.out.1 (Kd.C_below R4.out.2 hb_))
      clear R4
      have R4 := n_
      clear n_
      have n_ := Aside0.mk (And.intro R9.out.1 (Kd.C_below R9.out.2 hb_))
      clear R9
      have R9 := n_
      clear n_
      have n_ := Aside0.mk (ErrV.below EX.out hb_)
      clear EX
      have EX := n_
      clear n_
      have n_ := Aside0.mk (blk_below KX.out hb_)
      clear KX
      have KX := n_
      clear n_
      have n_ := Aside0.mk (ErrV.below EY.out hb_)
      clear EY
      have EY := n_
      clear n_
      have n_ := Aside0.mk (blk_below KY.out hb_)
      clear KY
      have KY := n_
      clear n_
      clear hb_
      have zX0_ : W16.cell? ⟨gx, 0, none⟩ = some (.int .i64 0) := (blk_cell KX.out 0).trans rfl
      have zX1_ : W16.cell? ⟨gx, 1, none⟩ = some (.slice none 0 0) := (blk_cell KX.out 1).trans rfl
      have zX2_ : W16.cell? ⟨gx, 2, none⟩ = some (.slice none 0 0) := (blk_cell KX.out 2).trans rfl
      have zX3_ : W16.cell? ⟨gx, 3, none⟩ = some (.slice none 0 0) := (blk_cell KX.out 3).trans rfl
      have zY0_ : W16.cell? ⟨gy, 0, none⟩ = some (.int .i64 0) := (blk_cell KY.out 0).trans rfl
      have zY1_ : W16.cell? ⟨gy, 1, none⟩ = some (.slice none 0 0) := (blk_cell KY.out 1).trans rfl
      have zY2_ : W16.cell? ⟨gy, 2, none⟩ = some (.slice none 0 0) := (blk_cell KY.out 2).trans rfl
      have zY3_ : W16.cell? ⟨gy, 3, none⟩ = some (.slice none 0 0) := (blk_cell KY.out 3).trans rfl
      go_wp2_with fail
      go_ret
      exact ⟨rfl, HB.out⟩
    · have NX := Aside0.mk nx
      clear nx
      have hnx := Bool.eq_false_iff.2 (fun h => (NX.out) ((nanB_class x HXY.out.1.1 HXY.out.1.2).1 h))
      unfold nanB at hnx
      rw [decide_eq_false_iff_not] at hnx
      go_wp2_with fail
      clear zX0_ zX1_ zX2_ zX3_ zY0_ zY1_ zY2_ zY3_
      refine (told_yes _ (some (5, 175)) 5 W15 HH.out EX.out (fun _ => ⟨code_ne2 (by decide), rfl⟩)).mono ?_
      rintro e W16 ⟨rfl, hb_⟩
      have n_ := Aside0.mk (below_step HB.out hb_)
      clear HB
      have HB := n_
      clear n_
      have n_ := Aside0.mk (Handle_below HH.out hb_)
      clear HH
      have HH := n_
      clear n_
      have n_ := Aside0.mk (And.intro R4.out.1 (Kd.C_below R4.out.2 hb_))
      clear R4
      have R4 := n_
      clear n_
      have n_ := Aside0.mk (And.intro R9.out.1 (Kd.C_below R9.out.2 hb_))
      clear R9
      have R9 := n_
      clear n_
      have n_ := Aside0.mk (ErrV.below EX.out hb_)
      clear EX
      have EX := n_
      clear n_
      have n_ := Aside0.mk (blk_below KX.out hb_)
      clear KX
      have KX := n_
      clear n_
      have n_ := Aside0.mk (ErrV.below EY.out hb_)
      clear EY
      have EY := n_
      clear n_
      have n_ := Aside0.mk (blk_below KY.out hb_)
      clear KY
      have KY := n_
      clear n_
      clear hb_
      have zX0_ : W16.cell? ⟨gx, 0, none⟩ = some (.int .i64 0) := (blk_cell KX.out 0).trans rfl
      have zX1_ : W16.cell? ⟨gx, 1, none⟩ = some (.slice none 0 0) := (blk_cell KX.out 1).trans rfl
      have zX2_ : W16.cell? ⟨gx, 2, none⟩ = some (.slice none 0 0) := (blk_cell KX.out 2).trans rfl
      have zX3_ : W16.cell? ⟨gx, 3, none⟩ = some (.slice none 0 0) := (blk_cell KX.out 3).trans rfl
      have zY0_ : W16.cell? ⟨gy, 0, none⟩ = some (.int .i64 0) := (blk_cell KY.out 0).trans rfl
      have zY1_ : W16.cell? ⟨gy, 1, none⟩ = some (.slice none 0 0) := (blk_cell KY.out 1).trans rfl
      have zY2_ : W16.cell? ⟨gy, 2, none⟩ = some (.slice none 0 0) := (blk_cell KY.out 2).trans rfl
      have zY3_ : W16.cell? ⟨gy, 3, none⟩ = some (.slice none 0 0) := (blk_cell KY.out 3).trans rfl
      go_wp2_with fail
      go_ret
      exact ⟨rfl, HB.out⟩
  have c2 := Aside0.mk c2_
  clear c2_
  by_cases c3_ : 3 ≤ classOf y
  · have c3 := Aside0.mk c3_
    clear c3_
    go_wp2_with fail
    have hpr : parsedR M4 1 21 = .error (13, 175) := by rw [HP.out]; exact (point_parsed le x y HXY.out.1 HXY.out.2).trans ((if_neg c1.out).trans ((if_neg (by first | exact c2.out | exact Int.not_le.2 c2.out)).trans (if_pos c3.out)))
    refine (parse_err A4 c4 M4 1 21 W9 (13, 175) R4.out.2 R4.out.1 (by rw [hlM4.out]; decide) hpr).mono ?_
    rintro e W10 ⟨geX, rfl, hev_, hb_⟩
    have EX := Aside0.mk hev_
    clear hev_
    have n_ := Aside0.mk (below_step HB.out hb_)
    clear HB
    have HB := n_
    clear n_
    have n_ := Aside0.mk (Handle_below HH.out hb_)
    clear HH
    have HH := n_
    clear n_
    have n_ := Aside0.mk (And.intro R4.out.1 (Kd.C_below R4.out.2 hb_))
    clear R4
    have R4 := n_
    clear n_
    have n_ := Aside0.mk (And.intro R9.out.1 (Kd.C_below R9.out.2 hb_))
    clear R9
    have R9 := n_
    clear n_
    clear hb_
    clear hpr
    go_upto_region 7 with fail
    obtain ⟨gx, hgx_⟩ : ∃ x, x = W10.heap.size := ⟨_, rfl⟩
    obtain ⟨W11, hW11_⟩ : ∃ x, x = W10.alloc (.cells #[.int .i64 0, .slice none 0 0, .slice none 0 0, .slice none 0 0] 28) := ⟨_, rfl⟩
    rw [← hW11_, ← hgx_]
    have KX := Aside0.mk (show W11.heap[gx]? = some (.cells #[.int .i64 0, .slice none 0 0, .slice none 0 0, .slice none 0 0] 28 (0, 0)) by rw [hW11_, hgx_]; exact World.alloc_heap_new _ _)
    have hb_ : Below W10.heap.size W10 W11 := by rw [hW11_]; exact below_alloc (Below.refl _ _) _
    clear hW11_ hgx_
    have n_ := Aside0.mk (below_step HB.out hb_)
    clear HB
    have HB := n_
    clear n_
    have n_ := Aside0.mk (Handle_below HH.out hb_)
    clear HH
    have HH := n_
    clear n_
    have n_ := Aside0.mk (And.intro R4.out.1 (Kd.C_below R4.out.2 hb_))
    clear R4
    have R4 := n_
    clear n_
    have n_ := Aside0.mk (And.intro R9.out.1 (Kd.C_below R9.out.2 hb_))
    clear R9
    have R9 := n_
    clear n_
    have n_ := Aside0.mk (ErrV.below EX.out hb_)
    clear EX
    have EX := n_
    clear n_
    clear hb_
    have zX0_ : W11.cell? ⟨gx, 0, none⟩ = some (.int .i64 0) := (blk_cell KX.out 0).trans rfl
    have zX1_ : W11.cell? ⟨gx, 1, none⟩ = some (.slice none 0 0) := (blk_cell KX.out 1).trans rfl
    have zX2_ : W11.cell? ⟨gx, 2, none⟩ = some (.slice none 0 0) := (blk_cell KX.out 2).trans rfl
    have zX3_ : W11.cell? ⟨gx, 3, none⟩ = some (.slice none 0 0) := (blk_cell KX.out 3).trans rfl
    go_wp2_with fail
    have hpr : parsedR M9 1 25 = .error (17, 175) := by rw [HQ.out]; exact (line_parsed le x y HXY.out.1 HXY.out.2 _ ((if_neg (by first | exact c2.out | exact Int.not_le.2 c2.out)).trans (if_pos c3.out)))
    clear zX0_ zX1_ zX2_ zX3_
    refine (parse_err A9 c9 M9 1 25 W11 (17, 175) R9.out.2 R9.out.1 (by rw [hlM9.out]; decide) hpr).mono ?_
    rintro e W12 ⟨geY, rfl, hev_, hb_⟩
    have EY := Aside0.mk hev_
    clear hev_
    have n_ := Aside0.mk (below_step HB.out hb_)
    clear HB
    have HB := n_
    clear n_
    have n_ := Aside0.mk (Handle_below HH.out hb_)
    clear HH
    have HH := n_
    clear n_
    have n_ := Aside0.mk (And.intro R4.out.1 (Kd.C_below R4.out.2 hb_))
    clear R4
    have R4 := n_
    clear n_
    have n_ := Aside0.mk (And.intro R9.out.1 (Kd.C_below R9.out.2 hb_))
    clear R9
    have R9 := n_
    clear n_
    have n_ := Aside0.mk (ErrV.below EX.out hb_)
    clear EX
    have EX := n_
    clear n_
    have n_ := Aside0.mk (blk_below KX.out hb_)
    clear KX
    have KX := n_
    clear n_
    clear hb_
    clear hpr
    have zX0_ : W12.cell? ⟨gx, 0, none⟩ = some (.int .i64 0) := (blk_cell KX.out 0).trans rfl
    have zX1_ : W12.cell? ⟨gx, 1, none⟩ = some (.slice none 0 0) := (blk_cell KX.out 1).trans rfl
    have zX2_ : W12.cell? ⟨gx, 2, none⟩ = some (.slice none 0 0) := (blk_cell KX.out 2).trans rfl
    have zX3_ : W12.cell? ⟨gx, 3, none⟩ = some (.slice none 0 0) := (blk_cell KX.out 3).trans rfl
    go_upto_region 8 with fail
    obtain ⟨gy, hgy_⟩ : ∃ x, x = W12.heap.size := ⟨_, rfl⟩
    obtain ⟨W13, hW13_⟩ : ∃ x, x = W12.alloc (.cells #[.int .i64 0, .slice none 0 0, .slice none 0 0, .slice none 0 0] 28) := ⟨_, rfl⟩
    rw [← hW13_, ← hgy_]
    have KY := Aside0.mk (show W13.heap[gy]? = some (.cells #[.int .i64 0, .slice none 0 0, .slice none 0 0, .slice none 0 0] 28 (0, 0)) by rw [hW13_, hgy_]; exact World.alloc_heap_new _ _)
    have hb_ : Below W12.heap.size W12 W13 := by rw [hW13_]; exact below_alloc (Below.refl _ _) _
    clear hW13_ hgy_
    have n_ := Aside0.mk (below_step HB.out hb_)
    clear HB
    have HB := n_
    clear n_
    have n_ := Aside0.mk (Handle_below HH.out hb_)
    clear HH
    have HH := n_
    clear n_
    have n_ := Aside0.mk (And.intro R4.out.1 (Kd.C_below R4.out.2 hb_))
    clear R4
    have R4 := n_
    clear n_
    have n_ := Aside0.mk (And.intro R9.out.1 (Kd.C_below R9.out.2 hb_))
    clear R9
    have R9 := n_
    clear n_
    have n_ := Aside0.mk (ErrV.below EX.out hb_)
    clear EX
    have EX := n_
    clear n_
    have n_ := Aside0.mk (blk_below KX.out hb_)
    clear KX
    have KX := n_
    clear n_
    have n_ := Aside0.mk (ErrV.below EY.out hb_)
    clear EY
    have EY := n_
    clear n_
    clear hb_
    clear zX0_ zX1_ zX2_ zX3_
    have zX0_ : W13.cell? ⟨gx, 0, none⟩ = some (.int .i64 0) := (blk_cell KX.out 0).trans rfl
    have zX1_ : W13.cell? ⟨gx, 1, none⟩ = some (.slice none 0 0) := (blk_cell KX.out 1).trans rfl
    have zX2_ : W13.cell? ⟨gx, 2, none⟩ = some (.slice none 0 0) := (blk_cell KX.out 2).trans rfl
    have zX3_ : W13.cell? ⟨gx, 3, none⟩ = some (.slice none 0 0) := (blk_cell KX.out 3).trans rfl
    have zY0_ : W13.cell? ⟨gy, 0, none⟩ = some (.int .i64 0) := (blk_cell KY.out 0).trans rfl
    have zY1_ : W13.cell? ⟨gy, 1, none⟩ = some (.slice none 0 0) := (blk_cell KY.out 1).trans rfl
    have zY2_ : W13.cell? ⟨gy, 2, none⟩ = some (.slice none 0 0) := (blk_cell KY.out 2).trans rfl
    have zY3_ : W13.cell? ⟨gy, 3, none⟩ = some (.slice none 0 0) := (blk_cell KY.out 3).trans rfl
    have hlp := hlM4.out
    have hlq := hlM9.out
    rw [hlp, hlq]
    clear hlp hlq
    go_wp2_with fail
    clear zX0_ zX1_ zX2_ zX3_ zY0_ zY1_ zY2_ zY3_
    refine (alive_calls W13).mono ?_
    rintro e W14 ⟨rfl, hb_⟩
    have n_ := Aside0.mk (below_step HB.out hb_)
    clear HB
    have HB := n_
    clear n_
    have n_ := Aside0.mk (Handle_below HH.out hb_)
    clear HH
    have HH := n_
    clear n_
    have n_ := Aside0.mk (And.intro R4.out.1 (Kd.C_below R4.out.2 hb_))
    clear R4
    have R4 := n_
    clear n_
    have n_ := Aside0.mk (And.intro R9.out.1 (Kd.C_below R9.out.2 hb_))
    clear R9
    have R9 := n_
    clear n_
    have n_ := Aside0.mk (ErrV.below EX.out hb_)
    clear EX
    have EX := n_
    clear n_
    have n_ := Aside0.mk (blk_below KX.out hb_)
    clear KX
    have KX := n_
    clear n_
    have n_ := Aside0.mk (ErrV.below EY.out hb_)
    clear EY
    have EY := n_
    clear n_
    have n_ := Aside0.mk (blk_below KY.out hb_)
    clear KY
    have KY := n_
    clear n_
    clear hb_
    have zX0_ : W14.cell? ⟨gx, 0, none⟩ = some (.int .i64 0) := (blk_cell KX.out 0).trans rfl
    have zX1_ : W14.cell? ⟨gx, 1, none⟩ = some (.slice none 0 0) := (blk_cell KX.out 1).trans rfl
    have zX2_ : W14.cell? ⟨gx, 2, none⟩ = some (.slice none 0 0) := (blk_cell KX.out 2).trans rfl
    have zX3_ : W14.cell? ⟨gx, 3, none⟩ = some (.slice none 0 0) := (blk_cell KX.out 3).trans rfl
    have zY0_ : W14.cell? ⟨gy, 0, none⟩ = some (.int .i64 0) := (blk_cell KY.out 0).trans rfl
    have zY1_ : W14.cell? ⟨gy, 1, none⟩ = some (.slice none 0 0) := (blk_cell KY.out 1).trans rfl
    have zY2_ : W14.cell? ⟨gy, 2, none⟩ = some (.slice none 0 0) := (blk_cell KY.out 2).trans rfl
    have zY3_ : W14.cell? ⟨gy, 3, none⟩ = some (.slice none 0 0) := (blk_cell KY.out 3).trans rfl
    have hix := Bool.eq_false_iff.2 (fun h => ((by first | exact c2.out | exact Int.not_le.2 c2.out : ¬ 3 ≤ classOf x)) ((infB_class x HXY.out.1.1 HXY.out.1.2).1 h))
    unfold infB at hix
    have hiy := (infB_class y HXY.out.2.1 HXY.out.2.2).2 (c3.out)
    unfold infB at hiy
    go_wp2_with fail
    clear zX0_ zX1_ zX2_ zX3_ zY0_ zY1_ zY2_ zY3_
    refine (told_yes _ (some (17, 175)) 17 W14 HH.out EY.out (fun _ => ⟨code_ne2 (by decide), rfl⟩)).mono ?_
    rintro e W15 ⟨rfl, hb_⟩
    have n_ := Aside0.mk (below_step HB.out hb_)
    clear HB
    have HB := n_
    clear n_
    have n_ := Aside0.mk (Handle_below HH.out hb_)
    clear HH
    have HH := n_
    clear n_
    have n_ := Aside0.mk (And.intro R4.out.1 (Kd.C_below R4.out.2 hb_))
    clear R4
    have R4 := n_
    clear n_
    have n_ := Aside0.mk (And.intro R9.out.1 (Kd.C_below R9.out.2 hb_))
    clear R9
    have R9 := n_
    clear n_
    have n_ := Aside0.mk (ErrV.below EX.out hb_)
    clear EX
    have EX := n_
    clear n_
    have n_ := Aside0.mk (blk_below KX.out hb_)
    clear KX
    have KX := n_
    clear n_
    have n_ := Aside0.mk (ErrV.below EY.out hb_)
    clear EY
    have EY := n_
    clear n_
    have n_ := Aside0.mk (blk_below KY.out hb_)
    clear KY
    have KY := n_
    clear n_
    clear hb_
    have zX0_ : W15.cell? ⟨gx, 0, none⟩ = some (.int .i64 0) := (blk_cell KX.out 0).trans rfl
    have zX1_ : W15.cell? ⟨gx, 1, none⟩ = some (.slice none 0 0) := (blk_cell KX.out 1).trans rfl
    have zX2_ : W15.cell? ⟨gx, 2, none⟩ = some (.slice none 0 0) := (blk_cell KX.out 2).trans rfl
    have zX3_ : W15.cell? ⟨gx, 3, none⟩ = some (.slice none 0 0) := (blk_cell KX.out 3).trans rfl
    have zY0_ : W15.cell? ⟨gy, 0, none⟩ = some (.int .i64 0) := (blk_cell KY.out 0).trans rfl
    have zY1_ : W15.cell? ⟨gy, 1, none⟩ = some (.slice none 0 0) := (blk_cell KY.out 1).trans rfl
    have zY2_ : W15.cell? ⟨gy, 2, none⟩ = some (.slice none 0 0) := (blk_cell KY.out 2).trans rfl
    have zY3_ : W15.cell? ⟨gy, 3, none⟩ = some (.slice none 0 0) := (blk_cell KY.out 3).trans rfl
    have hnx := Bool.eq_false_iff.2 (fun h => (fun h => (by first | exact c2.out | exact Int.not_le.2 c2.out : ¬ 3 ≤ classOf x) (by rw [h]; decide)) ((nanB_class x HXY.out.1.1 HXY.out.1.2).1 h))
    unfold nanB at hnx
    rw [decide_eq_false_iff_not] at hnx
    go_wp2_with fail
    clear zX0_ zX1_ zX2_ zX3_ zY0_ zY1_ zY2_ zY3_
    refine (told_yes _ (some (13, 175)) 13 W15 HH.out EX.out (fun _ => ⟨code_ne2 (by decide), rfl⟩)).mono ?_
    rintro e W16 ⟨rfl, hb_⟩
    have n_ := Aside0.mk (below_step HB.out hb_)
    clear HB
    have HB := n_
    clear n_
    have n_ := Aside0.mk (Handle_below HH.out hb_)
    clear HH
    have HH := n_
    clear n_
    have n_ := Aside0.mk (And.intro R4.out.1 (Kd.C_below R4.out.2 hb_))
    clear R4
    have R4 := n_
    clear n_
    have n_ := Aside0.mk (And.intro R9.out.1 (Kd.C_below R9.out.2 hb_))
    clear R9
    have R9 := n_
    clear n_
    have n_ := Aside0.mk (ErrV.below EX.out hb_)
    clear EX
    have EX := n_
    clear n_
    have n_ := Aside0.mk (blk_below KX.out hb_)
    clear KX
    have KX := n_
    clear n_
    have n_ := Aside0.mk (ErrV.below EY.out hb_)
    clear EY
    have EY := n_
    clear n_
    have n_ := Aside0.mk (blk_below KY.out hb_)
    clear KY
    have KY := n_
    clear n_
    clear hb_
    have zX0_ : W16.cell? ⟨gx, 0, none⟩ = some (.int .i64 0) := (blk_cell KX.out 0).trans rfl
    have zX1_ : W16.cell? ⟨gx, 1, none⟩ = some (.slice none 0 0) := (blk_cell KX.out 1).trans rfl
    have zX2_ : W16.cell? ⟨gx, 2, none⟩ = some (.slice none 0 0) := (blk_cell KX.out 2).trans rfl
    have zX3_ : W16.cell? ⟨gx, 3, none⟩ = some (.slice none 0 0) := (blk_cell KX.out 3).trans rfl
    have zY0_ : W16.cell? ⟨gy, 0, none⟩ = some (.int .i64 0) := (blk_cell KY.out 0).trans rfl
    have zY1_ : W16.cell? ⟨gy, 1, none⟩ = some (.slice none 0 0) := (blk_cell KY.out 1).trans rfl
    have zY2_ : W16.cell? ⟨gy, 2, none⟩ = some (.slice none 0 0) := (blk_cell KY.out 2).trans rfl
    have zY3_ : W16.cell? ⟨gy, 3, none⟩ = some (.slice none 0 0) := (blk_cell KY.out 3).trans rfl
    go_wp2_with fail
    go_ret
    exact ⟨rfl, HB.out⟩
  · have c3 := Aside0.mk c3_
    clear c3_
    go_wp2_with fail
    have hpr : parsedR M4 1 21 = .ok ((⟨1, [⟨x, y⟩], [], []⟩ : Ge), [le]) := by rw [HP.out]; exact (point_parsed le x y HXY.out.1 HXY.out.2).trans ((if_neg c1.out).trans ((if_neg (by first | exact c2.out | exact Int.not_le.2 c2.out)).trans (if_neg (by first | exact c3.out | exact Int.not_le.2 c3.out))))
    refine (parse_ok A4 c4 M4 1 21 W9 (⟨1, [⟨x, y⟩], [], []⟩ : Ge) [le] R4.out.2 R4.out.1 (by rw [hlM4.out]; decide) hpr).mono ?_
    rintro e W10 ⟨X1, x1_, X2, x2_, X3, x3_, rfl, hcp, hb_⟩
    have IX := Aside0.mk (CopyOf.isG hcp)
    clear hcp
    have n_ := Aside0.mk (below_step HB.out hb_)
    clear HB
    have HB := n_
    clear n_
    have n_ := Aside0.mk (Handle_below HH.out hb_)
    clear HH
    have HH := n_
    clear n_
    have n_ := Aside0.mk (And.intro R4.out.1 (Kd.C_below R4.out.2 hb_))
    clear R4
    have R4 := n_
    clear n_
    have n_ := Aside0.mk (And.intro R9.out.1 (Kd.C_below R9.out.2 hb_))
    clear R9
    have R9 := n_
    clear n_
    clear hb_
    clear hpr
    dsimp only [List.length_cons, List.length_nil]
    go_upto_region 7 with fail
    obtain ⟨gx, hgx_⟩ : ∃ x, x = W10.heap.size := ⟨_, rfl⟩
    obtain ⟨W11, hW11_⟩ : ∃ x, x = W10.alloc (.cells #[.int .i64 1, .slice X1 1 x1_, .slice X2 0 x2_, .slice X3 0 x3_] 28) := ⟨_, rfl⟩
    rw [← hW11_, ← hgx_]
    have KX := Aside0.mk (show W11.heap[gx]? = some (.cells #[.int .i64 1, .slice X1 1 x1_, .slice X2 0 x2_, .slice X3 0 x3_] 28 (0, 0)) by rw [hW11_, hgx_]; exact World.alloc_heap_new _ _)
    have hb_ : Below W10.heap.size W10 W11 := by rw [hW11_]; exact below_alloc (Below.refl _ _) _
    clear hW11_ hgx_
    have n_ := Aside0.mk (below_step HB.out hb_)
    clear HB
    have HB := n_
    clear n_
    have n_ := Aside0.mk (Handle_below HH.out hb_)
    clear HH
    have HH := n_
    clear n_
    have n_ := Aside0.mk (And.intro R4.out.1 (Kd.C_below R4.out.2 hb_))
    clear R4
    have R4 := n_
    clear n_
    have n_ := Aside0.mk (And.intro R9.out.1 (Kd.C_below R9.out.2 hb_))
    clear R9
    have R9 := n_
    clear n_
    have n_ := Aside0.mk (IX.out.below hb_)
    clear IX
    have IX := n_
    clear n_
    clear hb_
    have zX0_ : W11.cell? ⟨gx, 0, none⟩ = some (.int .i64 1) := (blk_cell KX.out 0).trans rfl
    have zX1_ : W11.cell? ⟨gx, 1, none⟩ = some (.slice X1 1 x1_) := (blk_cell KX.out 1).trans rfl
    have zX2_ : W11.cell? ⟨gx, 2, none⟩ = some (.slice X2 0 x2_) := (blk_cell KX.out 2).trans rfl
    have zX3_ : W11.cell? ⟨gx, 3, none⟩ = some (.slice X3 0 x3_) := (blk_cell KX.out 3).trans rfl
    go_wp2_with fail
    have hpr : parsedR M9 1 25 = .ok ((⟨2, [⟨x, y⟩], [], []⟩ : Ge), [le]) := by rw [HQ.out]; exact (line_parsed le x y HXY.out.1 HXY.out.2 _ ((if_neg (by first | exact c2.out | exact Int.not_le.2 c2.out)).trans (if_neg (by first | exact c3.out | exact Int.not_le.2 c3.out))))
    clear zX0_ zX1_ zX2_ zX3_
    refine (parse_ok A9 c9 M9 1 25 W11 (⟨2, [⟨x, y⟩], [], []⟩ : Ge) [le] R9.out.2 R9.out.1 (by rw [hlM9.out]; decide) hpr).mono ?_
    rintro e W12 ⟨Y1, y1_, Y2, y2_, Y3, y3_, rfl, hcp, hb_⟩
    have IY := Aside0.mk (CopyOf.isG hcp)
    clear hcp
    have n_ := Aside0.mk (below_step HB.out hb_)
    clear HB
    have HB := n_
    clear n_
    have n_ := Aside0.mk (Handle_below HH.out hb_)
    clear HH
    have HH := n_
    clear n_
    have n_ := Aside0.mk (And.intro R4.out.1 (Kd.C_below R4.out.2 hb_))
    clear R4
    have R4 := n_
    clear n_
    have n_ := Aside0.mk (And.intro R9.out.1 (Kd.C_below R9.out.2 hb_))
    clear R9
    have R9 := n_
    clear n_
    have n_ := Aside0.mk (IX.out.below hb_)
    clear IX
    have IX := n_
    clear n_
    have n_ := Aside0.mk (blk_below KX.out hb_)
    clear KX
    have KX := n_
    clear n_
    clear hb_
    clear hpr
    dsimp only [List.length_cons, List.length_nil]
    have zX0_ : W12.cell? ⟨gx, 0, none⟩ = some (.int .i64 1) := (blk_cell KX.out 0).trans rfl
    have zX1_ : W12.cell? ⟨gx, 1, none⟩ = some (.slice X1 1 x1_) := (blk_cell KX.out 1).trans rfl
    have zX2_ : W12.cell? ⟨gx, 2, none⟩ = some (.slice X2 0 x2_) := (blk_cell KX.out 2).trans rfl
    have zX3_ : W12.cell? ⟨gx, 3, none⟩ = some (.slice X3 0 x3_) := (blk_cell KX.out 3).trans rfl
    go_upto_region 8 with fail
    obtain ⟨gy, hgy_⟩ : ∃ x, x = W12.heap.size := ⟨_, rfl⟩
    obtain ⟨W13, hW13_⟩ : ∃ x, x = W12.alloc (.cells #[.int .i64 2, .slice Y1 1 y1_, .slice Y2 0 y2_, .slice Y3 0 y3_] 28) := ⟨_, rfl⟩
    rw [← hW13_, ← hgy_]
    have KY := Aside0.mk (show W13.heap[gy]? = some (.cells #[.int .i64 2, .slice Y1 1 y1_, .slice Y2 0 y2_, .slice Y3 0 y3_] 28 (0, 0)) by rw [hW13_, hgy_]; exact World.alloc_heap_new _ _)
    have hb_ : Below W12.heap.size W12 W13 := by rw [hW13_]; exact below_alloc (Below.refl _ _) _
    clear hW13_ hgy_
    have n_ := Aside0.mk (below_step HB.out hb_)
    clear HB
    have HB := n_
    clear n_
    have n_ := Aside0.mk (Handle_below HH.out hb_)
    clear HH
    have HH := n_
    clear n_
    have n_ := Aside0.mk (And.intro R4.out.1 (Kd.C_below R4.out.2 hb_))
    clear R4
    have R4 := n_
    clear n_
    have n_ := Aside0.mk (And.intro R9.out.1 (Kd.C_below R9.out.2 hb_))
    clear R9
    have R9 := n_
    clear n_
    have n_ := Aside0.mk (IX.out.below hb_)
    clear IX
    have IX := n_
    clear n_
    have n_ := Aside0.mk (blk_below KX.out hb_)
    clear KX
    have KX := n_
    clear n_
    have n_ := Aside0.mk (IY.out.below hb_)
    clear IY
    have IY := n_
    clear n_
    clear hb_
    clear zX0_ zX1_ zX2_ zX3_
    have zX0_ : W13.cell? ⟨gx, 0, none⟩ = some (.int .i64 1) := (blk_cell KX.out 0).trans rfl
    have zX1_ : W13.cell? ⟨gx, 1, none⟩ = some (.slice X1 1 x1_) := (blk_cell KX.out 1).trans rfl
    have zX2_ : W13.cell? ⟨gx, 2, none⟩ = some (.slice X2 0 x2_) := (blk_cell KX.out 2).trans rfl
    have zX3_ : W13.cell? ⟨gx, 3, none⟩ = some (.slice X3 0 x3_) := (blk_cell KX.out 3).trans rfl
    have zY0_ : W13.cell? ⟨gy, 0, none⟩ = some (.int .i64 2) := (blk_cell KY.out 0).trans rfl
    have zY1_ : W13.cell? ⟨gy, 1, none⟩ = some (.slice Y1 1 y1_) := (blk_cell KY.out 1).trans rfl
    have zY2_ : W13.cell? ⟨gy, 2, none⟩ = some (.slice Y2 0 y2_) := (blk_cell KY.out 2).trans rfl
    have zY3_ : W13.cell? ⟨gy, 3, none⟩ = some (.slice Y3 0 y3_) := (blk_cell KY.out 3).trans rfl
    have hlp := hlM4.out
    have hlq := hlM9.out
    rw [hlp, hlq]
    clear hlp hlq
    go_wp2_with fail
    clear zX0_ zX1_ zX2_ zX3_ zY0_ zY1_ zY2_ zY3_
    refine (alive_calls W13).mono ?_
    rintro e W14 ⟨rfl, hb_⟩
    have n_ := Aside0.mk (below_step HB.out hb_)
    clear HB
    have HB := n_
    clear n_
    have n_ := Aside0.mk (Handle_below HH.out hb_)
    clear HH
    have HH := n_
    clear n_
    have n_ := Aside0.mk (And.intro R4.out.1 (Kd.C_below R4.out.2 hb_))
    clear R4
    have R4 := n_
    clear n_
    have n_ := Aside0.mk (And.intro R9.out.1 (Kd.C_below R9.out.2 hb_))
    clear R9
    have R9 := n_
    clear n_
    have n_ := Aside0.mk (IX.out.below hb_)
    clear IX
    have IX := n_
    clear n_
    have n_ := Aside0.mk (blk_below KX.out hb_)
    clear KX
    have KX := n_
    clear n_
    have n_ := Aside0.mk (IY.out.below hb_)
    clear IY
    have IY := n_
    clear n_
    have n_ := Aside0.mk (blk_below KY.out hb_)
    clear KY
    have KY := n_
    clear n_
    clear hb_
    have zX0_ : W14.cell? ⟨gx, 0, none⟩ = some (.int .i64 1) := (blk_cell KX.out 0).trans rfl
    have zX1_ : W14.cell? ⟨gx, 1, none⟩ = some (.slice X1 1 x1_) := (blk_cell KX.out 1).trans rfl
    have zX2_ : W14.cell? ⟨gx, 2, none⟩ = some (.slice X2 0 x2_) := (blk_cell KX.out 2).trans rfl
    have zX3_ : W14.cell? ⟨gx, 3, none⟩ = some (.slice X3 0 x3_) := (blk_cell KX.out 3).trans rfl
    have zY0_ : W14.cell? ⟨gy, 0, none⟩ = some (.int .i64 2) := (blk_cell KY.out 0).trans rfl
    have zY1_ : W14.cell? ⟨gy, 1, none⟩ = some (.slice Y1 1 y1_) := (blk_cell KY.out 1).trans rfl
    have zY2_ : W14.cell? ⟨gy, 2, none⟩ = some (.slice Y2 0 y2_) := (blk_cell KY.out 2).trans rfl
    have zY3_ : W14.cell? ⟨gy, 3, none⟩ = some (.slice Y3 0 y3_) := (blk_cell KY.out 3).trans rfl
    have hix := Bool.eq_false_iff.2 (fun h => ((by first | exact c2.out | exact Int.not_le.2 c2.out : ¬ 3 ≤ classOf x)) ((infB_class x HXY.out.1.1 HXY.out.1.2).1 h))
    unfold infB at hix
    have hiy := Bool.eq_false_iff.2 (fun h => ((by first | exact c3.out | exact Int.not_le.2 c3.out : ¬ 3 ≤ classOf y)) ((infB_class y HXY.out.2.1 HXY.out.2.2).1 h))
    unfold infB at hiy
    go_upto_region 16 with fail
    have hCX : Kd.C kPt W14 X1 1 [⟨x, y⟩] := by
      obtain ⟨B1, b1, B2, b2, B3, b3, ev, -, hC, -⟩ := IX.out
      cases ev
      exact hC
    obtain ⟨adX, eX, qX0, qX1⟩ := at_Pt hCX 0 (by decide) (by decide)
    subst eX
    clear hCX
    have qX0' : W14.cell? adX = some (.int .u64 x) := qX0
    have qX1' : W14.cell? ⟨adX.block, adX.off + 1, none⟩ = some (.int .u64 y) := qX1
    clear qX0 qX1
    have hCY : Kd.C kPt W14 Y1 1 [⟨x, y⟩] := by
      obtain ⟨B1, b1, B2, b2, B3, b3, ev, -, hC, -⟩ := IY.out
      cases ev
      exact hC
    obtain ⟨adY, eY, qY0, qY1⟩ := at_Pt hCY 0 (by decide) (by decide)
    subst eY
    clear hCY
    have qY0' : W14.cell? adY = some (.int .u64 x) := qY0
    have qY1' : W14.cell? ⟨adY.block, adY.off + 1, none⟩ = some (.int .u64 y) := qY1
    clear qY0 qY1
    go_quiet (fail)
    go_wp2_with fail
    go_ret
    exact ⟨rfl, pw_below_drewN HB.out _⟩
end Go.Proofs.YtiiolhnpnlmkjaaDoor.Tree
