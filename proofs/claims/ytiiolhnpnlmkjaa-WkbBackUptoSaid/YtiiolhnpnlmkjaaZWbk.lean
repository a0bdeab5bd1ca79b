/- Texts of this claim laid one behind the other (TSameB; TEqSem; TSame; TEqualW): what each proves stands at its own names; the last one is the claim's. No conditions but those told. -/
import Derived.Test.YtiiolhnpnlmkjaaZWbj
import Derived.BigQuiet
import Derived.RangeFuncRecord
namespace Go.Proofs.Ytiiolhnpnlmkjaa.Tree
open Go.RowKit Go.Proofs.Ytiiolhnpnlmkjaa.PWkbPrints Go.Proofs.YtiiolhnpnlmkjaaW.PrintWords Go.Proofs.YtiiolhnpnlmkjaaW.PrintLast Go.Proofs.YtiiolhnpnlmkjaaW.PrintMore
theorem same_l0 (xs : List Int) (hl : xs.length ≤ 140737488355328) (d : Nat) : ∀ k i : Nat, xs.length = i + d → d < k → plumblaw17_same.l0 k xs xs (i : Int) = some true := by
  induction d with
  | zero =>
    intro k i h hk
    obtain ⟨k, rfl⟩ : ∃ m, k = m + 1 := ⟨k - 1, by omega⟩
    simp only [plumblaw17_same.l0]
    rw [if_neg (by omega)]
  | succ d ih =>
    intro k i h hk
    obtain ⟨k, rfl⟩ : ∃ m, k = m + 1 := ⟨k - 1, by omega⟩
    simp only [plumblaw17_same.l0]
    rw [if_pos (by omega), if_pos (by omega), if_pos (by omega), if_pos trivial, show wrap64 ((i : Int) + 1) = ((i + 1 : Nat) : Int) from by unfold wrap64; omega]
    exact ih k (i + 1) (by omega) (by omega)
theorem same_spec (xs ys : List Int) (k : Nat) (e : ys = xs) (hl : xs.length ≤ 140737488355328) (hk : xs.length < k) : plumblaw17_same.f k xs ys = some true := by
  subst e
  unfold plumblaw17_same.f
  rw [if_pos rfl]
  exact same_l0 ys hl ys.length k 0 (by omega) hk

theorem same_ok (A : Option Addr) (c : Nat) (l : List Int) (A2 : Option Addr) (c2 : Nat) (W : World) (hC : kB.C W A l.length l) (hc : l.length ≤ c) (h2 : kB.C W A2 l.length l) (hc2 : l.length ≤ c2) (hl : l.length ≤ 140737488355328) :
    Calls Try.prog 14 #[.slice A l.length c, .slice A2 l.length c2] W fun e W' => e = .returned (.bool true) ∧ Drawn0 W W' :=
  plumblaw17_same.calls (l.length + 1) A c l A2 c2 l true W hC hc h2 hc2 (same_spec l l _ rfl hl (by omega))
theorem sameb_calls (A : Option Addr) (c : Nat) (l : List Int) (A2 : Option Addr) (c2 : Nat) (W : World) (hC : kB.C W A l.length l) (hc : l.length ≤ c) (h2 : kB.C W A2 l.length l) (hc2 : l.length ≤ c2) (hl : l.length ≤ 140737488355328) :
    Calls Try.prog 14 #[.slice A l.length c, .slice A2 l.length c2] W fun e W' => e = .returned (.bool true) ∧ Below W.heap.size W W' := by
  refine (same_ok A c l A2 c2 W hC hc h2 hc2 hl).mono ?_
  rintro e w ⟨rfl, m, rfl⟩
  exact ⟨rfl, pw_below_drewN (Below.refl _ _) _⟩
end Go.Proofs.Ytiiolhnpnlmkjaa.Tree
namespace Go.Proofs.Ytiiolhnpnlmkjaa.Tree
open Go.RowKit Go.Proofs.YtiiolhnpnlmkjaaW.PrintWords Go.Proofs.YtiiolhnpnlmkjaaW.PrintLast Go.Proofs.YtiiolhnpnlmkjaaW.PrintMore
theorem ge_ext {a b : Ge} (h0 : a.f0 = b.f0) (h1 : a.f1 = b.f1) (h2 : a.f2 = b.f2) (h3 : a.f3 = b.f3) : a = b := by
  cases a; cases b
  dsimp only at h0 h1 h2 h3
  subst h0 h1 h2 h3
  rfl
open Classical in
/-- The same tree? -/
noncomputable def eqG (a b : Ge) : Bool := if a = b then true else false
theorem eqG_true {a b : Ge} (h : a = b) : eqG a b = true := by unfold eqG; exact if_pos h
theorem eqG_false {a b : Ge} (h : a ≠ b) : eqG a b = false := by unfold eqG; exact if_neg h
theorem eqG_iff (a b : Ge) : eqG a b = true ↔ a = b := by
  refine ⟨fun h => ?_, eqG_true⟩
  by_cases e : a = b
  · exact e
  · rw [eqG_false e] at h
    cases h
deriving instance DecidableEq for Pt
def eqL (a b : List Pt) : Bool := decide (a = b)
theorem eqL_true {a b : List Pt} (h : a = b) : eqL a b = true := decide_eq_true h
theorem eqL_false {a b : List Pt} (h : a ≠ b) : eqL a b = false := decide_eq_false h
theorem eqL_iff (a b : List Pt) : eqL a b = true ↔ a = b := decide_eq_true_iff
set_option maxRecDepth 100000 in
set_option maxHeartbeats 4000000 in
theorem sameLine_calls (A B : Option Addr) (c d : Nat) (a b : List Pt) (w : World) (ha : Kd.C kPt w A a.length a) (hb : Kd.C kPt w B b.length b) (hl : a.length ≤ 1073741824) :
    Calls Try.prog 29 #[.slice A a.length c, .slice B b.length d] w fun e w' => e = .returned (.bool (eqL a b)) ∧ ∃ n, w' = w.drewN n := by
  have hu := Try.underlying65
  have HA := Aside0.mk ha
  have HB := Aside0.mk hb
  clear ha hb
  by_cases hn : a.length = b.length
  · have q1 : ((a.length : Int) == (b.length : Int)) = true := beq_iff_eq.mpr (by omega)
    have q2 : ((a.length : Int) != (b.length : Int)) = false := bne_eq_false_iff_eq.mpr (by omega)
    have HN := Aside0.mk hn
    clear hn
    go_enter Try.func29, Try.ntmps29
    go_wp2_with fail
    go_loopg [13] a.length (fun kq i wr => ∃ k : Nat, k + kq = a.length ∧ i = .int .i64 (k : Int) ∧ Aside0 (a.take k = b.take k) ∧ ∃ m, wr = w.drewN m)
    case atStart => exact ⟨0, by omega, rfl, ⟨rfl⟩, 0, rfl⟩
    case round =>
      obtain ⟨k, hk, rfl, HT, m, rfl⟩ := hrel
      cases gk with
      | zero =>
        have hlt : ¬ ((k : Int) < (a.length : Int)) := by omega
        obtain rfl : k = a.length := by omega
        go_wp2_with fail
        go_ret
        refine ⟨ret_b ?_, m, rfl⟩
        have h := HT.out
        rw [List.take_length, HN.out, List.take_length] at h
        rw [eqL_true h]
      | succ kq =>
        have hlt : (k : Int) < (a.length : Int) := by omega
        have hlt1 : k < a.length := by omega
        have hltb' : k < b.length := by have := HN.out; omega
        have hltb : (k : Int) < (b.length : Int) := by omega
        obtain ⟨x1, e1, p0, p1⟩ := at_Pt HA.out (k : Int) (by omega) (by omega)
        obtain ⟨x2, e2, r0, r1⟩ := at_Pt HB.out (k : Int) (by omega) (by omega)
        subst e1 e2
        rw [rd_Pt_at _ _ hlt1, Int.toNat_natCast] at p0 p1
        rw [rd_Pt_at _ _ hltb', Int.toNat_natCast] at r0 r1
        obtain ⟨u, hu1⟩ : ∃ u, u = a[k] := ⟨_, rfl⟩
        obtain ⟨v, hv1⟩ : ∃ v, v = b[k] := ⟨_, rfl⟩
        rw [← hu1] at p0 p1
        rw [← hv1] at r0 r1
        have HU := Aside0.mk hu1
        have HV := Aside0.mk hv1
        clear hu1 hv1
        obtain ⟨u0, u1⟩ := u
        obtain ⟨v0, v1⟩ := v
        dsimp only at p0 p1 r0 r1
        by_cases h0 : u0 = v0
        · have s0 : (u0 == v0) = true := beq_iff_eq.mpr h0
          by_cases h1 : u1 = v1
          · have s1 : (u1 == v1) = true := beq_iff_eq.mpr h1
            have HE := Aside0.mk (show a.take (k + 1) = b.take (k + 1) by
              rw [List.take_succ_eq_append_getElem hlt1, List.take_succ_eq_append_getElem hltb', HT.out, ← HU.out, ← HV.out, h0, h1])
            clear h0 h1
            go_wp2_with fail
            go_quiet (fail)
            go_wp2_with fail
            go_roundg kq
            case measure => omega
            case rel => exact ⟨k + 1, by omega, by go_num, HE, _, rfl⟩
          · have s1 : (u1 == v1) = false := beq_eq_false_iff_ne.mpr h1
            have HE := Aside0.mk (show a ≠ b by rintro rfl; have := HU.out.trans HV.out.symm; injection this; contradiction)
            clear h0 h1
            go_wp2_with fail
            go_quiet (fail)
            go_wp2_with fail
            go_ret
            exact ⟨ret_b (eqL_false HE.out).symm, _, World.drewN_drewN _ _ _⟩
        · have s0 : (u0 == v0) = false := beq_eq_false_iff_ne.mpr h0
          have HE := Aside0.mk (show a ≠ b by rintro rfl; have := HU.out.trans HV.out.symm; injection this; contradiction)
          clear h0
          go_wp2_with fail
          go_quiet (fail)
          go_wp2_with fail
          go_ret
          exact ⟨ret_b (eqL_false HE.out).symm, _, World.drewN_drewN _ _ _⟩
  · have q1 : ((a.length : Int) == (b.length : Int)) = false := beq_eq_false_iff_ne.mpr (by omega)
    have q2 : ((a.length : Int) != (b.length : Int)) = true := bne_iff_ne.mpr (by omega)
    have HE := Aside0.mk (show a ≠ b by rintro rfl; exact hn rfl)
    clear hn
    go_enter Try.func29, Try.ntmps29
    go_wp2_with fail
    go_ret
    exact ⟨ret_b (eqL_false HE.out).symm, 0, rfl⟩
set_option maxRecDepth 100000 in
set_option maxHeartbeats 8000000 in
theorem equal_calls (n : Nat) : ∀ (v u : Value) (a b : Ge) (w : World), IsG w v a → IsG w u b → a.bulk ≤ n → n ≤ 1073741824 → b.bulk ≤ 1073741824 →
    Calls Try.prog 18 #[v, u] w fun e w' => e = .returned (.bool (eqG a b)) ∧ Below w.heap.size w w' := by
  induction n with
  | zero => intro v u a b w _ _ h; have := a.bulk_eq; omega
  | succ n ih =>
  rintro v u a b w ⟨A1, c1, A2, c2, A3, c3, rfl, l1, h1, l2, h2, l3, h3⟩ ⟨D1, d1, D2, d2, D3, d3, rfl, m1, k1, m2, k2, m3, k3⟩ hbk hn hbb
  have hbq := a.bulk_eq
  have hbq' := b.bulk_eq
  have hb1 : a.f1.length ≤ 1073741824 := by omega
  have hb2 : a.f2.length ≤ 1073741824 := by omega
  have hb3 : a.f3.length ≤ 1073741824 := by have := bulks_len a.f3; omega
  have hd1 : b.f1.length ≤ 1073741824 := by omega
  have hd2 : b.f2.length ≤ 1073741824 := by omega
  have hd3 : b.f3.length ≤ 1073741824 := by have := bulks_len b.f3; omega
  have H1 := Aside0.mk h1
  have H2 := Aside0.mk h2
  have H3 := Aside0.mk h3
  have K1 := Aside0.mk k1
  have K2 := Aside0.mk k2
  have K3 := Aside0.mk k3
  have U := Aside0.mk (upTo_le a.f2)
  have HBQ := Aside0.mk (And.intro hbk (And.intro hbq (And.intro hbb hbq')))
  have IH := Aside0.mk ih
  have HN := Aside0.mk hn
  clear h1 h2 h3 k1 k2 k3 ih hbk hbq hbb hbq' l1 l2 l3 m1 m2 m3 hn
  have hmx : Try.prog.follows .mixedOrders = true := by kernel_rfl
  have hun := Try.underlying28
  go_enter Try.func18, Try.ntmps18
  have HB0 := Aside0.mk (Below.refl w.heap.size w)
  by_cases q0 : a.f0 = b.f0
  · by_cases q1 : a.f1 = b.f1
    · by_cases q2 : a.f2.length = b.f2.length
      · by_cases q3 : a.f3.length = b.f3.length
        · have Q0 := Aside0.mk q0
          have Q1 := Aside0.mk q1
          have Q2 := Aside0.mk q2
          have Q3 := Aside0.mk q3
          have t0 : (a.f0 == b.f0) = true := beq_iff_eq.mpr q0
          have t0' : (a.f0 != b.f0) = false := bne_eq_false_iff_eq.mpr q0
          have t2 : ((a.f2.length : Int) == (b.f2.length : Int)) = true := beq_iff_eq.mpr (by omega)
          have t2' : ((a.f2.length : Int) != (b.f2.length : Int)) = false := bne_eq_false_iff_eq.mpr (by omega)
          have t3 : ((a.f3.length : Int) == (b.f3.length : Int)) = true := beq_iff_eq.mpr (by omega)
          have t3' : ((a.f3.length : Int) != (b.f3.length : Int)) = false := bne_eq_false_iff_eq.mpr (by omega)
          clear q0 q1 q2 q3
          go_wp2_with fail
          obtain ⟨ga, hga⟩ : ∃ x, x = w.heap.size := ⟨_, rfl⟩
          obtain ⟨gb, hgb⟩ : ∃ x, x = w.heap.size + 1 := ⟨_, rfl⟩
          obtain ⟨W0, hW0⟩ : ∃ x, x = ((w.alloc (.cells #[.int .i64 a.f0, .slice A1 a.f1.length c1, .slice A2 a.f2.length c2, .slice A3 a.f3.length c3] 28)).alloc (.cells #[.int .i64 b.f0, .slice D1 b.f1.length d1, .slice D2 b.f2.length d2, .slice D3 b.f3.length d3] 28)) := ⟨_, rfl⟩
          rw [← hW0, ← hgb, ← hga]
          have BA := Aside0.mk (show W0.heap[ga]? = some (.cells #[.int .i64 a.f0, .slice A1 a.f1.length c1, .slice A2 a.f2.length c2, .slice A3 a.f3.length c3] 28 (0, 0)) by rw [hW0, hga]; exact blk_alloc (World.alloc_heap_new _ _) _)
          have BB := Aside0.mk (show W0.heap[gb]? = some (.cells #[.int .i64 b.f0, .slice D1 b.f1.length d1, .slice D2 b.f2.length d2, .slice D3 b.f3.length d3] 28 (0, 0)) by
            rw [hW0, hgb]
            have h := World.alloc_heap_new (w.alloc (.cells #[.int .i64 a.f0, .slice A1 a.f1.length c1, .slice A2 a.f2.length c2, .slice A3 a.f3.length c3] 28)) (.cells #[.int .i64 b.f0, .slice D1 b.f1.length d1, .slice D2 b.f2.length d2, .slice D3 b.f3.length d3] 28)
            simpa using h)
          have HB := Aside0.mk (show Below w.heap.size w W0 by rw [hW0]; exact below_alloc (below_alloc (Below.refl _ _) _) _)
          have HGA := Aside0.mk hga
          clear hW0 hga hgb HB0
          have z0 : W0.cell? ⟨ga, 0, none⟩ = some (.int .i64 a.f0) := (blk_cell BA.out 0).trans rfl
          have z1 : W0.cell? ⟨ga, 1, none⟩ = some (.slice A1 a.f1.length c1) := (blk_cell BA.out 1).trans rfl
          have z2 : W0.cell? ⟨ga, 2, none⟩ = some (.slice A2 a.f2.length c2) := (blk_cell BA.out 2).trans rfl
          have z3 : W0.cell? ⟨ga, 3, none⟩ = some (.slice A3 a.f3.length c3) := (blk_cell BA.out 3).trans rfl
          have y0 : W0.cell? ⟨gb, 0, none⟩ = some (.int .i64 b.f0) := (blk_cell BB.out 0).trans rfl
          have y1 : W0.cell? ⟨gb, 1, none⟩ = some (.slice D1 b.f1.length d1) := (blk_cell BB.out 1).trans rfl
          have y2 : W0.cell? ⟨gb, 2, none⟩ = some (.slice D2 b.f2.length d2) := (blk_cell BB.out 2).trans rfl
          have y3 : W0.cell? ⟨gb, 3, none⟩ = some (.slice D3 b.f3.length d3) := (blk_cell BB.out 3).trans rfl
          refine (sameLine_calls A1 D1 c1 d1 a.f1 b.f1 W0 (Kd.C_below H1.out HB.out) (Kd.C_below K1.out HB.out) hb1).mono ?_
          rintro e w' ⟨rfl, nd, rfl⟩
          rw [eqL_true Q1.out]
          have YQ := Aside0.mk (And.intro y2 y3)
          have HL2 := Aside0.mk (show (a.f2.length : Int) = (b.f2.length : Int) by have := Q2.out; omega)
          go_wp2_with fail
          go_loopg [41] a.f2.length (fun kq i wr => ∃ j : Nat, j + kq = a.f2.length ∧ i = .int .i64 (j : Int) ∧ Aside0 (a.f2.take j = b.f2.take j) ∧ ∃ m, wr = W0.drewN m)
          case atStart => exact ⟨0, by omega, rfl, ⟨rfl⟩, nd, rfl⟩
          case round =>
            obtain ⟨j, hj, rfl, HT, m, rfl⟩ := hrel
            cases gk with
            | zero =>
              have hlt : ¬ ((j : Int) < (a.f2.length : Int)) := by omega
              obtain rfl : j = a.f2.length := by omega
              have HF2 := Aside0.mk (show a.f2 = b.f2 by
                have h := HT.out
                rw [List.take_length, Q2.out, List.take_length] at h
                exact h)
              clear HT hj
              go_wp2_with fail
              have Z3 := Aside0.mk z3
              have Y3 := Aside0.mk y3
              go_loopg [60] a.f3.length (fun kq i wr => ∃ j : Nat, j + kq = a.f3.length ∧ i = .int .i64 (j : Int) ∧ Aside0 (a.f3.take j = b.f3.take j) ∧ Aside0 (Below W0.heap.size W0 wr))
              case atStart => exact ⟨0, by omega, rfl, ⟨rfl⟩, ⟨by repeat (first | exact Below.refl _ _ | apply pw_below_drewN)⟩⟩
              case round =>
                obtain ⟨j, hj, rfl, HT, HW⟩ := hrel
                have z3' := cell_below HW.out Z3.out
                have y3' := cell_below HW.out Y3.out
                cases gk with
                | zero =>
                  have hlt : ¬ ((j : Int) < (a.f3.length : Int)) := by omega
                  obtain rfl : j = a.f3.length := by omega
                  have HE := Aside0.mk (show a = b by
                    have h := HT.out
                    rw [List.take_length, Q3.out, List.take_length] at h
                    exact ge_ext Q0.out Q1.out HF2.out h)
                  go_wp2_with fail
                  go_ret
                  exact ⟨ret_b (eqG_true HE.out).symm, below_step HB.out HW.out⟩
                | succ kq =>
                  have hlt : j < a.f3.length := by omega
                  have hltb : j < b.f3.length := by have := Q3.out; omega
                  obtain ⟨q3, B1, b1, B2, b2, B3, b3, ea, u0, u1, u2, u3, n1, o1, n2, o2, n3, o3⟩ := at_Ge H3.out j (by omega) (by omega)
                  obtain ⟨a3, F1, f1, F2, f2, F3, f3, eb, t0, t1, t2, t3, m1, p1, m2, p2, m3, p3⟩ := at_Ge K3.out j (by omega) (by omega)
                  subst ea eb
                  rw [rd_Ge_at _ _ hlt] at u0 u1 u2 u3 o1 o2 o3 n1 n2 n3
                  rw [rd_Ge_at _ _ hltb] at t0 t1 t2 t3 p1 p2 p3 m1 m2 m3
                  rw [Int.toNat_natCast] at u0 u1 u2 u3 t0 t1 t2 t3
                  obtain ⟨ka, hka⟩ : ∃ k, k = a.f3[j] := ⟨_, rfl⟩
                  obtain ⟨kb, hkb⟩ : ∃ k, k = b.f3[j] := ⟨_, rfl⟩
                  rw [← hka] at u0 u1 u2 u3 o1 o2 o3 n1 n2 n3
                  rw [← hkb] at t0 t1 t2 t3 p1 p2 p3 m1 m2 m3
                  have HIA := Aside0.mk (show IsG w (.agg #[.int .i64 ka.f0, .slice B1 ka.f1.length b1, .slice B2 ka.f2.length b2, .slice B3 ka.f3.length b3]) ka from ⟨B1, b1, B2, b2, B3, b3, rfl, n1, o1, n2, o2, n3, o3⟩)
                  have HIB := Aside0.mk (show IsG w (.agg #[.int .i64 kb.f0, .slice F1 kb.f1.length f1, .slice F2 kb.f2.length f2, .slice F3 kb.f3.length f3]) kb from ⟨F1, f1, F2, f2, F3, f3, rfl, m1, p1, m2, p2, m3, p3⟩)
                  have U0 := Aside0.mk (cell_below HB.out u0)
                  have U1 := Aside0.mk (cell_below HB.out u1)
                  have U2 := Aside0.mk (cell_below HB.out u2)
                  have U3 := Aside0.mk (cell_below HB.out u3)
                  have V0 := Aside0.mk (cell_below HB.out t0)
                  have V1 := Aside0.mk (cell_below HB.out t1)
                  have V2 := Aside0.mk (cell_below HB.out t2)
                  have V3 := Aside0.mk (cell_below HB.out t3)
                  have hpa : ka.bulk ≤ n := by rw [hka]; have := bulks_mem (List.getElem_mem hlt); have := HBQ.out.1; have := HBQ.out.2.1; omega
                  have hpb : kb.bulk ≤ 1073741824 := by rw [hkb]; have := bulks_mem (List.getElem_mem hltb); have := HBQ.out.2.2.1; have := HBQ.out.2.2.2; omega
                  have HTa := Aside0.mk (show a.f3.take (j + 1) = a.f3.take j ++ [ka] by rw [List.take_succ_eq_append_getElem hlt, hka])
                  have HTb := Aside0.mk (show b.f3.take (j + 1) = b.f3.take j ++ [kb] by rw [List.take_succ_eq_append_getElem hltb, hkb])
                  have HPA := Aside0.mk (And.intro hpa hpb)
                  clear u0 u1 u2 u3 t0 t1 t2 t3 n1 o1 n2 o2 n3 o3 m1 p1 m2 p2 m3 p3 hka hkb hpa hpb
                  have i0 : (0 : Int) ≤ (j : Int) := by omega
                  have i1 : (j : Int) < (a.f3.length : Int) := by omega
                  have i2 : (j : Int) < (b.f3.length : Int) := by have := Q3.out; omega
                  go_wp2_with fail
                  refine start_ (n := 12) (S := fun w' => w'.cell? ⟨ga, 3, none⟩ = some (.slice (some q3) a.f3.length c3) ∧ w'.cell? ⟨gb, 3, none⟩ = some (.slice (some a3) b.f3.length d3) ∧ w'.cell? (q3.add (j * 4)) = some (.int .i64 ka.f0) ∧ w'.cell? ⟨(q3.add (j * 4)).block, (q3.add (j * 4)).off + 1, none⟩ = some (.slice B1 ka.f1.length b1) ∧ w'.cell? ⟨(q3.add (j * 4)).block, (q3.add (j * 4)).off + 2, none⟩ = some (.slice B2 ka.f2.length b2) ∧ w'.cell? ⟨(q3.add (j * 4)).block, (q3.add (j * 4)).off + 3, none⟩ = some (.slice B3 ka.f3.length b3) ∧ w'.cell? (a3.add (j * 4)) = some (.int .i64 kb.f0) ∧ w'.cell? ⟨(a3.add (j * 4)).block, (a3.add (j * 4)).off + 1, none⟩ = some (.slice F1 kb.f1.length f1) ∧ w'.cell? ⟨(a3.add (j * 4)).block, (a3.add (j * 4)).off + 2, none⟩ = some (.slice F2 kb.f2.length f2) ∧ w'.cell? ⟨(a3.add (j * 4)).block, (a3.add (j * 4)).off + 3, none⟩ = some (.slice F3 kb.f3.length f3) ∧ True) (ds := []) #[false, false, false, false, false, false, false, false, false, false, false, false] hmx rfl rfl ⟨cell_below (below_drew HW.out) Z3.out, cell_below (below_drew HW.out) Y3.out, cell_below (below_drew HW.out) U0.out, cell_below (below_drew HW.out) U1.out, cell_below (below_drew HW.out) U2.out, cell_below (below_drew HW.out) U3.out, cell_below (below_drew HW.out) V0.out, cell_below (below_drew HW.out) V1.out, cell_below (below_drew HW.out) V2.out, cell_below (below_drew HW.out) V3.out, trivial⟩ (fun hHeld => ?_)
                  have HWd := Aside0.mk (below_drew HW.out)
                  clear z3' y3'
                  generalize wr.drew = Wd at HWd hHeld ⊢
                  (refine pure_ (i := 0) (N := some 63) (v := ?_) (a' := ?_) #[true, false, false, false, false, false, false, false, false, false, false, false] rfl rfl (by kernel_rfl) (fun _ _ _ h => h) (Or.inl ⟨by rfl, ?_⟩) ?_ ?_; rotate_left; (focus (intro w'_; go_simp; with_reducible rfl)); rotate_left; (focus (simp only [Act.put, List.setIfInBounds_toArray, List.set_cons_zero, List.set_cons_succ]; rfl)))
                  (refine pure_ (i := 2) (N := some 65) (v := ?_) (a' := ?_) #[true, false, true, false, false, false, false, false, false, false, false, false] rfl rfl (by kernel_rfl) (fun _ _ _ h => h) (Or.inl ⟨by rfl, ?_⟩) ?_ ?_; rotate_left; (focus (intro w'_; go_simp; with_reducible rfl)); rotate_left; (focus (simp only [Act.put, List.setIfInBounds_toArray, List.set_cons_zero, List.set_cons_succ]; rfl)))
                  (refine pure_ (i := 5) (N := some 68) (v := ?_) (a' := ?_) #[true, false, true, false, false, true, false, false, false, false, false, false] rfl rfl (by kernel_rfl) (fun _ _ _ h => h) (Or.inl ⟨by rfl, ?_⟩) ?_ ?_; rotate_left; (focus (intro w'_; go_simp; with_reducible rfl)); rotate_left; (focus (simp only [Act.put, List.setIfInBounds_toArray, List.set_cons_zero, List.set_cons_succ]; rfl)))
                  (refine pure_ (i := 7) (N := some 70) (v := ?_) (a' := ?_) #[true, false, true, false, false, true, false, true, false, false, false, false] rfl rfl (by kernel_rfl) (fun _ _ _ h => h) (Or.inl ⟨by rfl, ?_⟩) ?_ ?_; rotate_left; (focus (intro w'_; go_simp; with_reducible rfl)); rotate_left; (focus (simp only [Act.put, List.setIfInBounds_toArray, List.set_cons_zero, List.set_cons_succ]; rfl)))
                  (refine take_ (i := 1) (N := some 64) (v := ?_) (a' := ?_) #[true, true, true, false, false, true, false, true, false, false, false, false] rfl rfl (by kernel_rfl) (fun _ _ _ h => h) (Or.inl ⟨by rfl, ?_⟩) hHeld ?_ ?_; rotate_left; (focus (intro w'_ hs_; (repeat obtain ⟨_, hs_⟩ := hs_); go_simp; with_reducible rfl)); rotate_left; (focus (simp only [Act.put, List.setIfInBounds_toArray, List.set_cons_zero, List.set_cons_succ]; rfl)))
                  (refine take_ (i := 6) (N := some 69) (v := ?_) (a' := ?_) #[true, true, true, false, false, true, true, true, false, false, false, false] rfl rfl (by kernel_rfl) (fun _ _ _ h => h) (Or.inl ⟨by rfl, ?_⟩) hHeld ?_ ?_; rotate_left; (focus (intro w'_ hs_; (repeat obtain ⟨_, hs_⟩ := hs_); go_simp; with_reducible rfl)); rotate_left; (focus (simp only [Act.put, List.setIfInBounds_toArray, List.set_cons_zero, List.set_cons_succ]; rfl)))
                  (refine pure_ (i := 3) (N := some 66) (v := ?_) (a' := ?_) #[true, true, true, true, false, true, true, true, false, false, false, false] rfl rfl (by kernel_rfl) (fun _ _ _ h => h) (Or.inl ⟨by rfl, ?_⟩) ?_ ?_; rotate_left; (focus (intro w'_; go_simp; with_reducible rfl)); rotate_left; (focus (simp only [Act.put, List.setIfInBounds_toArray, List.set_cons_zero, List.set_cons_succ]; rfl)))
                  (refine pure_ (i := 8) (N := some 71) (v := ?_) (a' := ?_) #[true, true, true, true, false, true, true, true, true, false, false, false] rfl rfl (by kernel_rfl) (fun _ _ _ h => h) (Or.inl ⟨by rfl, ?_⟩) ?_ ?_; rotate_left; (focus (intro w'_; go_simp; with_reducible rfl)); rotate_left; (focus (simp only [Act.put, List.setIfInBounds_toArray, List.set_cons_zero, List.set_cons_succ]; rfl)))
                  (refine take_ (i := 4) (N := some 67) (v := ?_) (a' := ?_) #[true, true, true, true, true, true, true, true, true, false, false, false] rfl rfl (by kernel_rfl) (fun _ _ _ h => h) (Or.inl ⟨by rfl, ?_⟩) hHeld ?_ ?_; rotate_left; (focus (intro w'_ hs_; (repeat obtain ⟨_, hs_⟩ := hs_); go_simp; with_reducible rfl)); rotate_left; (focus (simp only [Act.put, List.setIfInBounds_toArray, List.set_cons_zero, List.set_cons_succ]; rfl)))
                  (refine take_ (i := 9) (N := some 72) (v := ?_) (a' := ?_) #[true, true, true, true, true, true, true, true, true, true, false, false] rfl rfl (by kernel_rfl) (fun _ _ _ h => h) (Or.inl ⟨by rfl, ?_⟩) hHeld ?_ ?_; rotate_left; (focus (intro w'_ hs_; (repeat obtain ⟨_, hs_⟩ := hs_); go_simp; with_reducible rfl)); rotate_left; (focus (simp only [Act.put, List.setIfInBounds_toArray, List.set_cons_zero, List.set_cons_succ]; rfl)))
                  refine one_ (i := 10) (N := some 73) #[true, true, true, true, true, true, true, true, true, true, true, false] rfl rfl (by kernel_rfl) (by decide) (fun K hK => ?_)
                  refine goes_ Try.func18 (by kernel_rfl) rfl #[.agg #[.int .i64 ka.f0, .slice B1 ka.f1.length b1, .slice B2 ka.f2.length b2, .slice B3 ka.f3.length b3], .agg #[.int .i64 kb.f0, .slice F1 kb.f1.length f1, .slice F2 kb.f2.length f2, .slice F3 kb.f3.length f3]] (by rfl) rfl rfl (by (try simp only [List.map_toArray, List.map_cons, List.map_nil]); first | done | rfl) ?_
                  have hbw := below_step HB.out HWd.out
                  refine (IH.out _ _ ka kb Wd (HIA.out.below hbw) (HIB.out.below hbw) HPA.out.1 (by have := HN.out; omega) HPA.out.2).mono ?_
                  rintro e X1 ⟨rfl, hb1⟩
                  have hw1 := below_step HWd.out hb1
                  refine ⟨_, rfl, hK.out _ _ ⟨cell_below hw1 Z3.out, cell_below hw1 Y3.out, cell_below hw1 U0.out, cell_below hw1 U1.out, cell_below hw1 U2.out, cell_below hw1 U3.out, cell_below hw1 V0.out, cell_below hw1 V1.out, cell_below hw1 V2.out, cell_below hw1 V3.out, trivial⟩ (fun hHeld2 => ?_)⟩
                  clear hK K
                  (refine norm_ (a' := ?_) ?_ ?_; rotate_left; focus (show Act.put _ (some 73) _ = _; simp only [Act.put, List.setIfInBounds_toArray, List.set_cons_zero, List.set_cons_succ]; rfl))
                  cases hq : eqG ka kb with
                  | true =>
                    (refine pure_ (i := 11) (N := some 74) (v := ?_) (a' := ?_) #[true, true, true, true, true, true, true, true, true, true, true, true] rfl rfl (by kernel_rfl) (fun _ _ _ h => h) (Or.inl ⟨by rfl, ?_⟩) ?_ ?_; rotate_left; (focus (intro w'_; go_simp; with_reducible rfl)); rotate_left; (focus (simp only [Act.put, List.setIfInBounds_toArray, List.set_cons_zero, List.set_cons_succ]; rfl)))
                    refine done_ (by kernel_rfl) ?_
                    have HT2 := Aside0.mk (show a.f3.take (j + 1) = b.f3.take (j + 1) by rw [HTa.out, HTb.out, HT.out, (eqG_iff _ _).1 hq])
                    have HW1 := Aside0.mk hw1
                    clear hw1 hb1 hbw hHeld hHeld2 hq
                    go_wp2_with fail
                    go_roundg kq
                    case measure => omega
                    case rel => exact ⟨j + 1, by omega, by go_num, HT2, HW1⟩
                  | false =>
                    (refine pure_ (i := 11) (N := some 74) (v := ?_) (a' := ?_) #[true, true, true, true, true, true, true, true, true, true, true, true] rfl rfl (by kernel_rfl) (fun _ _ _ h => h) (Or.inl ⟨by rfl, ?_⟩) ?_ ?_; rotate_left; (focus (intro w'_; go_simp; with_reducible rfl)); rotate_left; (focus (simp only [Act.put, List.setIfInBounds_toArray, List.set_cons_zero, List.set_cons_succ]; rfl)))
                    refine done_ (by kernel_rfl) ?_
                    have HE := Aside0.mk (show a ≠ b from by
                      intro hab
                      have h := HTa.out.symm.trans ((by rw [hab] : a.f3.take (j + 1) = b.f3.take (j + 1)).trans HTb.out)
                      have h2 := List.append_inj_right' h rfl
                      injection h2 with h2
                      rw [eqG_true h2] at hq
                      cases hq)
                    have HW1 := Aside0.mk hw1
                    clear hw1 hb1 hbw hHeld hHeld2 hq
                    go_wp2_with fail
                    go_ret
                    exact ⟨ret_b (eqG_false HE.out).symm, below_step HB.out HW1.out⟩
            | succ kq =>
              have hlt : j < a.f2.length := by omega
              have hltb : j < b.f2.length := by have := Q2.out; omega
              obtain ⟨a2, A0, c0, ea, hx, hl, hc⟩ := at_L2 H2.out j (by omega) (by omega)
              obtain ⟨a4, B0, b0, eb, hy, hm, hd⟩ := at_L2 K2.out j (by omega) (by omega)
              subst ea eb
              rw [rd_L2_at _ _ hlt, Int.toNat_natCast] at hx
              rw [rd_L2_at _ _ hlt] at hc
              rw [rd_L2_at _ _ hltb, Int.toNat_natCast] at hy
              rw [rd_L2_at _ _ hltb] at hd
              have hlen : (a.f2[j]).length ≤ 1073741824 := by
                have h1 := upTo_le a.f2 (j + 1)
                rw [upTo_succ a.f2 j hlt] at h1
                have := HBQ.out.1
                have := HBQ.out.2.1
                have := HN.out
                omega
              have HCR := Aside0.mk (fun W (hb : Below w.heap.size w W) => sameLine_calls A0 B0 c0 b0 a.f2[j] b.f2[j] W (Kd.C_below hc hb) (Kd.C_below hd hb) hlen)
              have hx' := cell_below HB.out hx
              have hy' := cell_below HB.out hy
              have i0 : (0 : Int) ≤ (j : Int) := by omega
              have hj1 : (j : Int) < (a.f2.length : Int) := by omega
              have hj2 : (j : Int) < (b.f2.length : Int) := by have := Q2.out; omega
              obtain ⟨LA, hLA⟩ : ∃ k, k = a.f2[j] := ⟨_, rfl⟩
              obtain ⟨LB, hLB⟩ : ∃ k, k = b.f2[j] := ⟨_, rfl⟩
              rw [← hLA, ← hLB] at HCR
              rw [← hLA] at hx'
              rw [← hLB] at hy'
              have HTa := Aside0.mk (show a.f2.take (j + 1) = a.f2.take j ++ [LA] by rw [List.take_succ_eq_append_getElem hlt, hLA])
              have HTb := Aside0.mk (show b.f2.take (j + 1) = b.f2.take j ++ [LB] by rw [List.take_succ_eq_append_getElem hltb, hLB])
              clear hx hy hc hd hl hm hLA hLB hlen
              cases hq : eqL LA LB with
              | true =>
                rw [hq] at HCR
                have HQ := Aside0.mk ((eqL_iff _ _).1 hq)
                clear hq
                go_wp2_with fail
                go_quiet ((refine (HCR.out _ (by repeat (first | exact HB.out | apply pw_below_drewN))).mono ?_; rintro e w' ⟨rfl, nd, rfl⟩; exact ⟨rfl, _, (World.drewN_drewN _ _ _).trans (congrArg W0.drewN (Nat.add_assoc _ _ _))⟩))
                go_wp2_with fail
                go_roundg kq
                case measure => omega
                case rel => exact ⟨j + 1, by omega, by go_num, ⟨by rw [HTa.out, HTb.out, HT.out, HQ.out]⟩, _, rfl⟩
              | false =>
                rw [hq] at HCR
                have HE := Aside0.mk (show a ≠ b from by
                  rintro rfl
                  have h := HTa.out.symm.trans HTb.out
                  have h2 := List.append_inj_right' h rfl
                  injection h2 with h2
                  rw [eqL_true h2] at hq
                  cases hq)
                clear hq
                go_wp2_with fail
                go_quiet ((refine (HCR.out _ (by repeat (first | exact HB.out | apply pw_below_drewN))).mono ?_; rintro e w' ⟨rfl, nd, rfl⟩; exact ⟨rfl, _, (World.drewN_drewN _ _ _).trans (congrArg W0.drewN (Nat.add_assoc _ _ _))⟩))
                go_wp2_with fail
                go_ret
                exact ⟨ret_b (eqG_false HE.out).symm, by repeat (first | exact HB.out | apply pw_below_drewN)⟩
        · have HE := Aside0.mk (show a ≠ b from fun e => q3 (by rw [e]))
          have t0 : (a.f0 == b.f0) = true := beq_iff_eq.mpr q0
          have t0' : (a.f0 != b.f0) = false := bne_eq_false_iff_eq.mpr q0
          have t2 : ((a.f2.length : Int) == (b.f2.length : Int)) = true := beq_iff_eq.mpr (by omega)
          have t2' : ((a.f2.length : Int) != (b.f2.length : Int)) = false := bne_eq_false_iff_eq.mpr (by omega)
          have t3 : ((a.f3.length : Int) == (b.f3.length : Int)) = false := beq_eq_false_iff_ne.mpr (by omega)
          have t3' : ((a.f3.length : Int) != (b.f3.length : Int)) = true := bne_iff_ne.mpr (by omega)
          have Q1 := Aside0.mk q1
          clear q0 q1 q2 q3
          go_wp2_with fail
          obtain ⟨ga, hga⟩ : ∃ x, x = w.heap.size := ⟨_, rfl⟩
          obtain ⟨gb, hgb⟩ : ∃ x, x = w.heap.size + 1 := ⟨_, rfl⟩
          obtain ⟨W0, hW0⟩ : ∃ x, x = ((w.alloc (.cells #[.int .i64 a.f0, .slice A1 a.f1.length c1, .slice A2 a.f2.length c2, .slice A3 a.f3.length c3] 28)).alloc (.cells #[.int .i64 b.f0, .slice D1 b.f1.length d1, .slice D2 b.f2.length d2, .slice D3 b.f3.length d3] 28)) := ⟨_, rfl⟩
          rw [← hW0, ← hgb, ← hga]
          have BA := Aside0.mk (show W0.heap[ga]? = some (.cells #[.int .i64 a.f0, .slice A1 a.f1.length c1, .slice A2 a.f2.length c2, .slice A3 a.f3.length c3] 28 (0, 0)) by rw [hW0, hga]; exact blk_alloc (World.alloc_heap_new _ _) _)
          have BB := Aside0.mk (show W0.heap[gb]? = some (.cells #[.int .i64 b.f0, .slice D1 b.f1.length d1, .slice D2 b.f2.length d2, .slice D3 b.f3.length d3] 28 (0, 0)) by
            rw [hW0, hgb]
            have h := World.alloc_heap_new (w.alloc (.cells #[.int .i64 a.f0, .slice A1 a.f1.length c1, .slice A2 a.f2.length c2, .slice A3 a.f3.length c3] 28)) (.cells #[.int .i64 b.f0, .slice D1 b.f1.length d1, .slice D2 b.f2.length d2, .slice D3 b.f3.length d3] 28)
            simpa using h)
          have HB := Aside0.mk (show Below w.heap.size w W0 by rw [hW0]; exact below_alloc (below_alloc (Below.refl _ _) _) _)
          have HGA := Aside0.mk hga
          clear hW0 hga hgb HB0
          have z0 : W0.cell? ⟨ga, 0, none⟩ = some (.int .i64 a.f0) := (blk_cell BA.out 0).trans rfl
          have z1 : W0.cell? ⟨ga, 1, none⟩ = some (.slice A1 a.f1.length c1) := (blk_cell BA.out 1).trans rfl
          have z2 : W0.cell? ⟨ga, 2, none⟩ = some (.slice A2 a.f2.length c2) := (blk_cell BA.out 2).trans rfl
          have z3 : W0.cell? ⟨ga, 3, none⟩ = some (.slice A3 a.f3.length c3) := (blk_cell BA.out 3).trans rfl
          have y0 : W0.cell? ⟨gb, 0, none⟩ = some (.int .i64 b.f0) := (blk_cell BB.out 0).trans rfl
          have y1 : W0.cell? ⟨gb, 1, none⟩ = some (.slice D1 b.f1.length d1) := (blk_cell BB.out 1).trans rfl
          have y2 : W0.cell? ⟨gb, 2, none⟩ = some (.slice D2 b.f2.length d2) := (blk_cell BB.out 2).trans rfl
          have y3 : W0.cell? ⟨gb, 3, none⟩ = some (.slice D3 b.f3.length d3) := (blk_cell BB.out 3).trans rfl
          refine (sameLine_calls A1 D1 c1 d1 a.f1 b.f1 W0 (Kd.C_below H1.out HB.out) (Kd.C_below K1.out HB.out) hb1).mono ?_
          rintro e w' ⟨rfl, nd, rfl⟩
          rw [eqL_true Q1.out]
          go_wp2_with fail
          go_ret
          exact ⟨ret_b (eqG_false HE.out).symm, pw_below_drewN HB.out _⟩
      · have HE := Aside0.mk (show a ≠ b from fun e => q2 (by rw [e]))
        have t0 : (a.f0 == b.f0) = true := beq_iff_eq.mpr q0
        have t0' : (a.f0 != b.f0) = false := bne_eq_false_iff_eq.mpr q0
        have t2 : ((a.f2.length : Int) == (b.f2.length : Int)) = false := beq_eq_false_iff_ne.mpr (by omega)
        have t2' : ((a.f2.length : Int) != (b.f2.length : Int)) = true := bne_iff_ne.mpr (by omega)
        have Q1 := Aside0.mk q1
        clear q0 q1 q2
        go_wp2_with fail
        obtain ⟨ga, hga⟩ : ∃ x, x = w.heap.size := ⟨_, rfl⟩
        obtain ⟨gb, hgb⟩ : ∃ x, x = w.heap.size + 1 := ⟨_, rfl⟩
        obtain ⟨W0, hW0⟩ : ∃ x, x = ((w.alloc (.cells #[.int .i64 a.f0, .slice A1 a.f1.length c1, .slice A2 a.f2.length c2, .slice A3 a.f3.length c3] 28)).alloc (.cells #[.int .i64 b.f0, .slice D1 b.f1.length d1, .slice D2 b.f2.length d2, .slice D3 b.f3.length d3] 28)) := ⟨_, rfl⟩
        rw [← hW0, ← hgb, ← hga]
        have BA := Aside0.mk (show W0.heap[ga]? = some (.cells #[.int .i64 a.f0, .slice A1 a.f1.length c1, .slice A2 a.f2.length c2, .slice A3 a.f3.length c3] 28 (0, 0)) by rw [hW0, hga]; exact blk_alloc (World.alloc_heap_new _ _) _)
        have BB := Aside0.mk (show W0.heap[gb]? = some (.cells #[.int .i64 b.f0, .slice D1 b.f1.length d1, .slice D2 b.f2.length d2, .slice D3 b.f3.length d3] 28 (0, 0)) by
          rw [hW0, hgb]
          have h := World.alloc_heap_new (w.alloc (.cells #[.int .i64 a.f0, .slice A1 a.f1.length c1, .slice A2 a.f2.length c2, .slice A3 a.f3.length c3] 28)) (.cells #[.int .i64 b.f0, .slice D1 b.f1.length d1, .slice D2 b.f2.length d2, .slice D3 b.f3.length d3] 28)
          simpa using h)
        have HB := Aside0.mk (show Below w.heap.size w W0 by rw [hW0]; exact below_alloc (below_alloc (Below.refl _ _) _) _)
        have HGA := Aside0.mk hga
        clear hW0 hga hgb HB0
        have z0 : W0.cell? ⟨ga, 0, none⟩ = some (.int .i64 a.f0) := (blk_cell BA.out 0).trans rfl
        have z1 : W0.cell? ⟨ga, 1, none⟩ = some (.slice A1 a.f1.length c1) := (blk_cell BA.out 1).trans rfl
        have z2 : W0.cell? ⟨ga, 2, none⟩ = some (.slice A2 a.f2.length c2) := (blk_cell BA.out 2).trans rfl
        have z3 : W0.cell? ⟨ga, 3, none⟩ = some (.slice A3 a.f3.length c3) := (blk_cell BA.out 3).trans rfl
        have y0 : W0.cell? ⟨gb, 0, none⟩ = some (.int .i64 b.f0) := (blk_cell BB.out 0).trans rfl
        have y1 : W0.cell? ⟨gb, 1, none⟩ = some (.slice D1 b.f1.length d1) := (blk_cell BB.out 1).trans rfl
        have y2 : W0.cell? ⟨gb, 2, none⟩ = some (.slice D2 b.f2.length d2) := (blk_cell BB.out 2).trans rfl
        have y3 : W0.cell? ⟨gb, 3, none⟩ = some (.slice D3 b.f3.length d3) := (blk_cell BB.out 3).trans rfl
        refine (sameLine_calls A1 D1 c1 d1 a.f1 b.f1 W0 (Kd.C_below H1.out HB.out) (Kd.C_below K1.out HB.out) hb1).mono ?_
        rintro e w' ⟨rfl, nd, rfl⟩
        rw [eqL_true Q1.out]
        go_wp2_with fail
        go_ret
        exact ⟨ret_b (eqG_false HE.out).symm, pw_below_drewN HB.out _⟩
    · have HE := Aside0.mk (show a ≠ b from fun e => q1 (by rw [e]))
      have t0 : (a.f0 == b.f0) = true := beq_iff_eq.mpr q0
      have t0' : (a.f0 != b.f0) = false := bne_eq_false_iff_eq.mpr q0
      have Q1 := Aside0.mk q1
      clear q0 q1
      go_wp2_with fail
      obtain ⟨ga, hga⟩ : ∃ x, x = w.heap.size := ⟨_, rfl⟩
      obtain ⟨gb, hgb⟩ : ∃ x, x = w.heap.size + 1 := ⟨_, rfl⟩
      obtain ⟨W0, hW0⟩ : ∃ x, x = ((w.alloc (.cells #[.int .i64 a.f0, .slice A1 a.f1.length c1, .slice A2 a.f2.length c2, .slice A3 a.f3.length c3] 28)).alloc (.cells #[.int .i64 b.f0, .slice D1 b.f1.length d1, .slice D2 b.f2.length d2, .slice D3 b.f3.length d3] 28)) := ⟨_, rfl⟩
      rw [← hW0, ← hgb, ← hga]
      have BA := Aside0.mk (show W0.heap[ga]? = some (.cells #[.int .i64 a.f0, .slice A1 a.f1.length c1, .slice A2 a.f2.length c2, .slice A3 a.f3.length c3] 28 (0, 0)) by rw [hW0, hga]; exact blk_alloc (World.alloc_heap_new _ _) _)
      have BB := Aside0.mk (show W0.heap[gb]? = some (.cells #[.int .i64 b.f0, .slice D1 b.f1.length d1, .slice D2 b.f2.length d2, .slice D3 b.f3.length d3] 28 (0, 0)) by
        rw [hW0, hgb]
        have h := World.alloc_heap_new (w.alloc (.cells #[.int .i64 a.f0, .slice A1 a.f1.length c1, .slice A2 a.f2.length c2, .slice A3 a.f3.length c3] 28)) (.cells #[.int .i64 b.f0, .slice D1 b.f1.length d1, .slice D2 b.f2.length d2, .slice D3 b.f3.length d3] 28)
        simpa using h)
      have HB := Aside0.mk (show Below w.heap.size w W0 by rw [hW0]; exact below_alloc (below_alloc (Below.refl _ _) _) _)
      have HGA := Aside0.mk hga
      clear hW0 hga hgb HB0
      have z0 : W0.cell? ⟨ga, 0, none⟩ = some (.int .i64 a.f0) := (blk_cell BA.out 0).trans rfl
      have z1 : W0.cell? ⟨ga, 1, none⟩ = some (.slice A1 a.f1.length c1) := (blk_cell BA.out 1).trans rfl
      have z2 : W0.cell? ⟨ga, 2, none⟩ = some (.slice A2 a.f2.length c2) := (blk_cell BA.out 2).trans rfl
      have z3 : W0.cell? ⟨ga, 3, none⟩ = some (.slice A3 a.f3.length c3) := (blk_cell BA.out 3).trans rfl
      have y0 : W0.cell? ⟨gb, 0, none⟩ = some (.int .i64 b.f0) := (blk_cell BB.out 0).trans rfl
      have y1 : W0.cell? ⟨gb, 1, none⟩ = some (.slice D1 b.f1.length d1) := (blk_cell BB.out 1).trans rfl
      have y2 : W0.cell? ⟨gb, 2, none⟩ = some (.slice D2 b.f2.length d2) := (blk_cell BB.out 2).trans rfl
      have y3 : W0.cell? ⟨gb, 3, none⟩ = some (.slice D3 b.f3.length d3) := (blk_cell BB.out 3).trans rfl
      refine (sameLine_calls A1 D1 c1 d1 a.f1 b.f1 W0 (Kd.C_below H1.out HB.out) (Kd.C_below K1.out HB.out) hb1).mono ?_
      rintro e w' ⟨rfl, nd, rfl⟩
      rw [eqL_false Q1.out]
      go_wp2_with fail
      go_ret
      exact ⟨ret_b (eqG_false HE.out).symm, pw_below_drewN HB.out _⟩
  · have HE := Aside0.mk (show a ≠ b from fun e => q0 (by rw [e]))
    have t0 : (a.f0 == b.f0) = false := beq_eq_false_iff_ne.mpr q0
    have t0' : (a.f0 != b.f0) = true := bne_iff_ne.mpr q0
    clear q0
    go_wp2_with fail
    obtain ⟨ga, hga⟩ : ∃ x, x = w.heap.size := ⟨_, rfl⟩
    obtain ⟨gb, hgb⟩ : ∃ x, x = w.heap.size + 1 := ⟨_, rfl⟩
    obtain ⟨W0, hW0⟩ : ∃ x, x = ((w.alloc (.cells #[.int .i64 a.f0, .slice A1 a.f1.length c1, .slice A2 a.f2.length c2, .slice A3 a.f3.length c3] 28)).alloc (.cells #[.int .i64 b.f0, .slice D1 b.f1.length d1, .slice D2 b.f2.length d2, .slice D3 b.f3.length d3] 28)) := ⟨_, rfl⟩
    rw [← hW0, ← hgb, ← hga]
    have BA := Aside0.mk (show W0.heap[ga]? = some (.cells #[.int .i64 a.f0, .slice A1 a.f1.length c1, .slice A2 a.f2.length c2, .slice A3 a.f3.length c3] 28 (0, 0)) by rw [hW0, hga]; exact blk_alloc (World.alloc_heap_new _ _) _)
    have BB := Aside0.mk (show W0.heap[gb]? = some (.cells #[.int .i64 b.f0, .slice D1 b.f1.length d1, .slice D2 b.f2.length d2, .slice D3 b.f3.length d3] 28 (0, 0)) by
      rw [hW0, hgb]
      have h := World.alloc_heap_new (w.alloc (.cells #[.int .i64 a.f0, .slice A1 a.f1.length c1, .slice A2 a.f2.length c2, .slice A3 a.f3.length c3] 28)) (.cells #[.int .i64 b.f0, .slice D1 b.f1.length d1, .slice D2 b.f2.length d2, .slice D3 b.f3.length d3] 28)
      simpa using h)
    have HB := Aside0.mk (show Below w.heap.size w W0 by rw [hW0]; exact below_alloc (below_alloc (Below.refl _ _) _) _)
    have HGA := Aside0.mk hga
    clear hW0 hga hgb HB0
    have z0 : W0.cell? ⟨ga, 0, none⟩ = some (.int .i64 a.f0) := (blk_cell BA.out 0).trans rfl
    have z1 : W0.cell? ⟨ga, 1, none⟩ = some (.slice A1 a.f1.length c1) := (blk_cell BA.out 1).trans rfl
    have z2 : W0.cell? ⟨ga, 2, none⟩ = some (.slice A2 a.f2.length c2) := (blk_cell BA.out 2).trans rfl
    have z3 : W0.cell? ⟨ga, 3, none⟩ = some (.slice A3 a.f3.length c3) := (blk_cell BA.out 3).trans rfl
    have y0 : W0.cell? ⟨gb, 0, none⟩ = some (.int .i64 b.f0) := (blk_cell BB.out 0).trans rfl
    have y1 : W0.cell? ⟨gb, 1, none⟩ = some (.slice D1 b.f1.length d1) := (blk_cell BB.out 1).trans rfl
    have y2 : W0.cell? ⟨gb, 2, none⟩ = some (.slice D2 b.f2.length d2) := (blk_cell BB.out 2).trans rfl
    have y3 : W0.cell? ⟨gb, 3, none⟩ = some (.slice D3 b.f3.length d3) := (blk_cell BB.out 3).trans rfl
    go_ret
    exact ⟨ret_b (eqG_false HE.out).symm, by rw [HGA.out]; exact HB.out⟩
end Go.Proofs.Ytiiolhnpnlmkjaa.Tree
