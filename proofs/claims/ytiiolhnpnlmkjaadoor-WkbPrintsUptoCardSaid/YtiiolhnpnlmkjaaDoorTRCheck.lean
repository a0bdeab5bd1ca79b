/- The reference's Check by contract: the number and the place of what is wrong. No conditions but those told. -/
import Derived.Test.YtiiolhnpnlmkjaaDoorTRShape
import Derived.Test.YtiiolhnpnlmkjaaDoorTWrap
namespace Go.Proofs.YtiiolhnpnlmkjaaDoor.Tree
open Go.RowKit Go.Proofs.YtiiolhnpnlmkjaaDoorW.PrintWords Go.Proofs.YtiiolhnpnlmkjaaDoorW.PrintLast Go.Proofs.YtiiolhnpnlmkjaaDoorW.PrintMore
set_option linter.unusedVariables false
set_option linter.unusedSimpArgs false
def codeOf : Option (Int × Int) → Int
  | none => 0
  | some x => x.2
def placeOf : Option (Int × Int) → Int
  | none => -1
  | some x => x.1
theorem wrong_many (x : It) (n : Int) (h : 65536 < n) : wrongC x n ≠ 0 := by
  unfold wrongC
  split
  · decide
  · simp [h]
    split <;> decide
theorem scan_take : ∀ (m : Nat) (l : List It) (k n : Nat), 1 ≤ m → 65536 < n + m → scanC k n (l.take m) = scanC k n l := by
  intro m
  induction m with
  | zero => intro l k n h; omega
  | succ m ih =>
    intro l k n _ hn
    cases l with
    | nil => rfl
    | cons x l =>
      rw [List.take_succ_cons, scanC_cons, scanC_cons]
      split
      · rename_i h0
        by_cases hm : m = 0
        · exact absurd h0 (wrong_many x _ (by omega))
        · exact ih l _ _ (by omega) (by omega)
      · rfl
theorem checkR_seen (g : Ge) : scanC 0 0 (seen g) = checkR g := by
  unfold seen checkR
  exact scan_take 65538 _ 0 0 (by omega) (by omega)
theorem finL_append (a b : List Pt) : finL (a ++ b) = (finL a && finL b) := by unfold finL finLC; rw [List.all_append]
theorem finL_flat (l : List (List Pt)) : finL l.flatten = l.all finL := by
  induction l with
  | nil => rfl
  | cons a l ih => rw [List.flatten_cons, finL_append, ih, List.all_cons]
theorem finL_own (g : Ge) : finL (own g) = (finL g.f1 && g.f2.all finL) := by unfold own; rw [finL_append, finL_flat]
theorem wrong_eq (x : It) (n : Int) : wrongC x n = if 256 < x.f1 then 151 else if shapedB x = true then (if 65536 < n then 152 else if finL (own x.f0) = true then 0 else 155) else 150 := by
  unfold wrongC
  rw [shaped_eq, finL_own]
/-- The items from k on, so many geometries and points ahead of them. -/
def upAll (g : Ge) (k : Nat) : Nat := k + ptsOf ((seen g).take k)
def Fine (g : Ge) (k : Nat) : Prop := scanC 0 0 (seen g) = scanC k (upAll g k) ((seen g).drop k)
theorem upAll_succ (g : Ge) (k : Nat) (h : k < (seen g).length) : upAll g (k + 1) = upAll g k + 1 + (own (seen g)[k].f0).length := by
  unfold upAll
  rw [List.take_succ_eq_append_getElem h, ptsOf_snoc]
  omega
theorem Fine.bad {g : Ge} {k : Nat} (hf : Fine g k) (h : k < (seen g).length) (hw : wrongC (seen g)[k] ((upAll g (k + 1) : Nat) : Int) ≠ 0) : checkR g = some ((k : Int), wrongC (seen g)[k] ((upAll g (k + 1) : Nat) : Int)) := by
  rw [← checkR_seen, hf, List.drop_eq_getElem_cons h, scanC_cons, ← upAll_succ g k h, if_neg hw]
theorem Fine.next {g : Ge} {k : Nat} (hf : Fine g k) (h : k < (seen g).length) (hw : wrongC (seen g)[k] ((upAll g (k + 1) : Nat) : Int) = 0) : Fine g (k + 1) := by
  unfold Fine
  rw [hf, List.drop_eq_getElem_cons h, scanC_cons, ← upAll_succ g k h, if_pos hw]
theorem Fine.end_ {g : Ge} (hf : Fine g (seen g).length) : checkR g = none := by
  rw [← checkR_seen, hf, List.drop_length]
  rfl
theorem fin_bad {l : List Pt} (k : Nat) (h : k < l.length) (hb : (finC classOf l[k].f0 && finC classOf l[k].f1) = false) : finL l = false := finLC_bad k h hb
theorem fin_take (l : List Pt) (k : Nat) (h : k < l.length) : finL (l.take (k + 1)) = (finL (l.take k) && (finC classOf l[k].f0 && finC classOf l[k].f1)) := finLC_take classOf l k h
set_option maxRecDepth 100000 in
set_option maxHeartbeats 8000000 in
theorem rcheck_calls (v : Value) (g : Ge) (w : World) (hv : IsG w v g) (hbk : g.bulk ≤ 1073741824) :
    Calls Tryd.prog 42 #[v] w fun e w' => e = .returned (.tuple #[.int .i64 (codeOf (checkR g)), .int .i64 (placeOf (checkR g))]) ∧ Below w.heap.size w w' := by
  have hv' := hv
  obtain ⟨A1, c1, A2, c2, A3, c3, rfl, l1, h1, l2, h2, l3, h3⟩ := hv'
  have hu := Tryd.underlying28
  have HV := Aside0.mk hv
  clear h1 h2 h3 hv
  have HB := Aside0.mk (Below.refl w.heap.size w)
  go_enter Tryd.func42, Tryd.ntmps42
  go_wp2_with (first
    | ((with_reducible refine gate_dst (N := 1) rfl ?_); refine box_event ?hg (N := 1) ?hd (cs := #[.int .i64 g.f0, .slice A1 g.f1.length c1, .slice A2 g.f2.length c2, .slice A3 g.f3.length c3]) (t := 28) ?hr ?_; (case hd => rfl); (case hg => rfl); (case hr => first | (go_simp; done) | (go_simp; rfl)); intro gb_ hgb_ wb_ hbox_ hbb_; have GE := Aside0.mk (show w.heap.size ≤ gb_ from by rw [hgb_]; exact below_size (by repeat (first | (with_reducible first | exact HB.out | apply below_alloc | apply pw_below_drewN | apply below_drew1) | exact HB.out))); have n_ := Aside0.mk (below_step (by repeat (first | (with_reducible first | exact HB.out | apply below_alloc | apply pw_below_drewN | apply below_drew1) | exact HB.out)) hbb_); clear HB; have HB := n_; have BK := Aside0.mk hbox_; (have z0_ : wb_.cell? ⟨gb_, 0, none⟩ = some (.int .i64 g.f0) := (blk_cell BK.out 0).trans rfl; have z1_ : wb_.cell? ⟨gb_, 1, none⟩ = some (.slice A1 g.f1.length c1) := (blk_cell BK.out 1).trans rfl; have z2_ : wb_.cell? ⟨gb_, 2, none⟩ = some (.slice A2 g.f2.length c2) := (blk_cell BK.out 2).trans rfl; have z3_ : wb_.cell? ⟨gb_, 3, none⟩ = some (.slice A3 g.f3.length c3) := (blk_cell BK.out 3).trans rfl); clear n_ hbox_ hbb_ hgb_))
  refine (items_calls w g _ 1 0 (.slice none 0 0) [] _ HV.out (by omega) (by omega) hbk HB.out (Kd.R_nil _ _ _ _ _) (by simp)).mono ?_
  rintro e w2 ⟨v2, rfl, ho2, hb2, _⟩
  rw [List.nil_append] at ho2
  have hL := seen_len g
  obtain ⟨A2', c2', e2⟩ := Kd.R_slice ho2
  change v2 = .slice A2' (seen g).length c2' at e2
  subst e2
  have HO := Aside0.mk (show Items w w2 _ (seen g) from ho2)
  clear HB ho2 BK GE
  have HB := Aside0.mk hb2
  clear hb2
  go_wp2_with fail
  go_loopg [5, 6] (seen g).length (fun kq n i wr => ∃ k : Nat, k + kq = (seen g).length ∧ i = .int .i64 (k : Int) ∧ n = .int .i64 ((upAll g k : Nat) : Int) ∧ Aside0 (Fine g k) ∧ Aside0 (Below w2.heap.size w2 wr))
  case atStart => exact ⟨0, by omega, rfl, by simp [upAll, ptsOf], ⟨rfl⟩, ⟨Below.refl _ _⟩⟩
  case round =>
    obtain ⟨k, hk, rfl, rfl, HF, HK⟩ := hrel
    cases gk with
    | zero =>
      have hlt : ¬ ((k : Int) < ((seen g).length : Int)) := by omega
      obtain rfl : k = (seen g).length := by omega
      have HE := Aside0.mk HF.out.end_
      go_wp2_with fail
      go_ret2
      rw [HE.out]
      exact ⟨rfl, below_step HB.out HK.out⟩
    | succ kq =>
      have hlt : k < (seen g).length := by omega
      have hlt' : (k : Int) < ((seen g).length : Int) := by omega
      have k0 : (0 : Int) ≤ (k : Int) := by omega
      obtain ⟨_, ad, ea, hI⟩ := HO.out.at_ k hlt
      subst ea
      have hp := ptsOf_le ((seen g).take k) 1073741824 (fun y hy => by have := nodes_bulk (seen_mem (List.mem_of_mem_take hy)); have := own_len y.f0; omega)
      rw [List.length_take] at hp
      have hp2 : min k (seen g).length * 1073741824 ≤ 65538 * 1073741824 := Nat.mul_le_mul_right _ (by omega)
      have hub : upAll g k ≤ 65538 + 65538 * 1073741824 := by unfold upAll; omega
      clear hp hp2
      have hm := nodes_bulk (seen_mem (List.getElem_mem hlt))
      have ho := own_len (seen g)[k].f0
      have HS := Aside0.mk (upAll_succ g k hlt)
      have HX := Aside0.mk (fun hw => HF.out.bad hlt hw)
      have HY := Aside0.mk (fun hw => HF.out.next hlt hw)
      obtain ⟨x, hx⟩ : ∃ x, x = (seen g)[k] := ⟨_, rfl⟩
      rw [← hx] at hI hm ho HS HX HY
      clear hx HF
      obtain ⟨D1, d1, D2, d2, D3, d3, ⟨p0, p1, p2, p3, p4, p5⟩, hG⟩ := hI.below HK.out
      have HG := Aside0.mk hG
      have P0 := Aside0.mk p0
      have P1 := Aside0.mk p1
      have P2 := Aside0.mk p2
      have P3 := Aside0.mk p3
      have P4 := Aside0.mk p4
      have P5 := Aside0.mk p5
      clear hG hI
      go_wp2_with fail
      refine (rown_calls _ x.f0 _ (HG.out.below (below_step HB.out HK.out)) (by omega)).mono ?_
      rintro e w3 ⟨v3, rfl, ho3, hb3⟩
      obtain ⟨A4, c4, e4⟩ := Kd.R_slice ho3
      subst e4
      clear p0 p1 p2 p3 p4 p5
      have p0 := cell_below hb3 P0.out
      have p1 := cell_below hb3 P1.out
      have p2 := cell_below hb3 P2.out
      have p3 := cell_below hb3 P3.out
      have p4 := cell_below hb3 P4.out
      have p5 := cell_below hb3 P5.out
      have HK3 := Aside0.mk (below_step HK.out hb3)
      have HR3 := Aside0.mk (Kd.R_reads' ho3).2.2
      clear ho3 hb3 HK P0 P1 P2 P3 P4 P5
      obtain ⟨t, ht⟩ : ∃ t, t = upAll g k := ⟨_, rfl⟩
      rw [← ht] at hub HS ⊢
      clear ht
      by_cases h1 : 256 < x.f1
      · go_wp2_with fail
        go_ret2
        have hw : wrongC x ((upAll g (k + 1) : Nat) : Int) = 151 := by rw [wrong_eq, if_pos h1]
        have hc := HX.out (by rw [hw]; decide)
        rw [hw] at hc
        rw [hc]
        exact ⟨rfl, below_step HB.out HK3.out⟩
      · go_wp2_with fail
        refine (shaped_calls x D1 D2 D3 d1 d2 d3 w3 (HG.out.below (below_step HB.out HK3.out)) (by omega)).mono ?_
        rintro e w4 ⟨rfl, hb4⟩
        have HK4 := Aside0.mk (below_step HK3.out hb4)
        have HR4 := Aside0.mk (Kd.C_below HR3.out hb4)
        clear hb4 HK3 HR3 p0 p1 p2 p3 p4 p5
        cases hsh : shapedB x with
        | false =>
          have hw : wrongC x ((upAll g (k + 1) : Nat) : Int) = 150 := by rw [wrong_eq, if_neg (by omega), if_neg (by rw [hsh]; decide)]
          have hc := HX.out (by rw [hw]; decide)
          rw [hw] at hc
          have HC := Aside0.mk hc
          clear hw hc hsh
          go_wp2_with fail
          go_ret2
          rw [HC.out]
          exact ⟨rfl, below_step HB.out HK4.out⟩
        | true =>
          have HSH := Aside0.mk hsh
          clear hsh
          by_cases h2 : (65536 : Int) < (t : Int) + 1 + ((own x.f0).length : Int)
          · have hw : wrongC x ((upAll g (k + 1) : Nat) : Int) = 152 := by rw [wrong_eq, if_neg (by omega), if_pos HSH.out, if_pos (by rw [HS.out]; omega)]
            have hc := HX.out (by rw [hw]; decide)
            rw [hw] at hc
            have HC := Aside0.mk hc
            clear hw hc
            go_wp2_with fail
            go_ret2
            rw [HC.out]
            exact ⟨rfl, below_step HB.out HK4.out⟩
          · have HW := Aside0.mk (show wrongC x ((upAll g (k + 1) : Nat) : Int) = if finL (own x.f0) = true then 0 else 155 by rw [wrong_eq, if_neg (by omega), if_pos HSH.out, if_neg (by rw [HS.out]; omega)])
            have hpl : (own x.f0).length ≤ 1073741824 := by omega
            obtain ⟨L, hL⟩ : ∃ L, L = own x.f0 := ⟨_, rfl⟩
            rw [← hL] at HW HR4 HS hpl h2 ⊢
            clear hL
            go_wp2_with fail
            go_loopg [8] L.length (fun kq i wr => ∃ j : Nat, j + kq = L.length ∧ i = .int .i64 (j : Int) ∧ Aside0 (finL (L.take j) = true) ∧ wr = w4)
            case atStart => exact ⟨0, by omega, rfl, ⟨rfl⟩, rfl⟩
            case round =>
              obtain ⟨j, hj, rfl, HT, rfl⟩ := hrel
              cases gk with
              | zero =>
                have hjl : ¬ ((j : Int) < (L.length : Int)) := by omega
                obtain rfl : j = L.length := by omega
                rw [List.take_length] at HT
                have HN := Aside0.mk (HY.out (by rw [HW.out, if_pos HT.out]))
                go_wp2_with fail
                go_roundg kq
                case measure => omega
                case rel => exact ⟨k + 1, by omega, by go_num, by rw [HS.out]; go_num, HN, HK4⟩
              | succ kj =>
                have hjl : j < L.length := by omega
                have hjl' : (j : Int) < (L.length : Int) := by omega
                have j0 : (0 : Int) ≤ (j : Int) := by omega
                obtain ⟨a1, e1, q0, q1⟩ := at_Pt HR4.out (j : Int) (by omega) (by omega)
                subst e1
                rw [rd_Pt_at _ _ hjl, Int.toNat_natCast] at q0 q1
                have HTK := Aside0.mk (fin_take L j hjl)
                have HBD := Aside0.mk (fun h => fin_bad (l := L) j hjl h)
                obtain ⟨u, hu1⟩ : ∃ u, u = L[j] := ⟨_, rfl⟩
                rw [← hu1] at q0 q1 HTK HBD
                clear hu1
                have HB0 := Aside0.mk (fun (h : (finC classOf u.f0 && finC classOf u.f1) = false) => HX.out (by rw [HW.out, if_neg (by rw [HBD.out h]; decide)]; decide))
                go_wp2_with fail
                refine (Finite_calls u.f0 _).mono ?_
                rintro e w5 ⟨rfl, rfl⟩
                cases f0 : finC classOf u.f0 with
                | false =>
                  have hb := HB0.out (by rw [f0]; rfl)
                  rw [HW.out, if_neg (by rw [HBD.out (by rw [f0]; rfl)]; decide)] at hb
                  have HC := Aside0.mk hb
                  clear hb f0
                  go_wp2_with fail
                  go_ret2
                  rw [HC.out]
                  exact ⟨rfl, below_step HB.out HK4.out⟩
                | true =>
                  have F0 := Aside0.mk f0
                  clear f0
                  go_wp2_with fail
                  refine (Finite_calls u.f1 _).mono ?_
                  rintro e w6 ⟨rfl, rfl⟩
                  cases f1 : finC classOf u.f1 with
                  | false =>
                    have hb := HB0.out (by rw [f1, Bool.and_false])
                    rw [HW.out, if_neg (by rw [HBD.out (by rw [f1, Bool.and_false])]; decide)] at hb
                    have HC := Aside0.mk hb
                    clear hb f1
                    go_wp2_with fail
                    go_ret2
                    rw [HC.out]
                    exact ⟨rfl, below_step HB.out HK4.out⟩
                  | true =>
                    have HT2 := Aside0.mk (show finL (L.take (j + 1)) = true by rw [HTK.out, HT.out, F0.out, f1]; rfl)
                    clear f1
                    go_wp2_with fail
                    go_roundg kj
                    case measure => omega
                    case rel => exact ⟨j + 1, by omega, by go_num, HT2, rfl⟩
end Go.Proofs.YtiiolhnpnlmkjaaDoor.Tree
