/- Flat by contract. No conditions but those told. -/
import Derived.Test.YtmcbniobbbjdjaaDoorTPoints
namespace Go.Proofs.YtmcbniobbbjdjaaDoor.Tree
open Go.RowKit Go.Proofs.YtmcbniobbbjdjaaDoorW.PrintWords Go.Proofs.YtmcbniobbbjdjaaDoorW.PrintLast Go.Proofs.YtmcbniobbbjdjaaDoorW.PrintMore
set_option linter.unusedVariables false
set_option linter.unusedSimpArgs false
attribute [local go_sem] Oper.semAt_some max2_int max_two
theorem infoNd : (Tryd.prog.info? 54).map (fun i => (i.zero, i.size, i.bytes)) = some (some (.agg #[.int .i64 0, .slice none 0 0, .slice none 0 0]), 3, 56) := by kernel_rfl
theorem infoI : (Tryd.prog.info? 3).map (fun i => (i.zero, i.size, i.bytes)) = some (some (.int .i64 0), 1, 8) := by kernel_rfl
def sizesOf (g : Ge) : List Int := if g.f0 = 1 ∨ g.f0 = 2 then [(g.f1.length : Int)] else if g.f0 = 3 then g.f2.map fun r => (r.length : Int) else [(g.f3.length : Int)]
def lineOf (g : Ge) : List Pt := if g.f0 = 3 then own g else g.f1
def nodeOf (g : Ge) : Nd := ⟨g.f0, sizesOf g, lineOf g⟩
/-- A row of one number, laid by a literal. -/
theorem R_int1 (W : World) (n : Int) {base : Nat} (hb : base ≤ W.heap.size) (ok : Nat → Prop) (hok : ok W.heap.size) : Kd.R (Kd.int .i64) 3 (W.alloc (.cells #[.int .i64 n] 3)) base ok (.slice (some ⟨W.heap.size, 0, none⟩) 1 1) [n] := by
  refine ⟨fun k hk => ?_, [.int .i64 n], ?_, rfl, fun j p hj => ?_⟩
  · have : W.heap.size = k := by simpa [Value.ownBlock] using hk
    subst this
    exact hok
  · have h := World.ownsRow_lit (base := base) (e := 3) (size := 1) W #[.int .i64 n] 1 hb (by decide) (by simp)
    exact h
  · cases j with
    | zero =>
      have : n = p := by simpa using hj
      subst this
      rfl
    | succ j => simp at hj
theorem sizesOf_1 {g : Ge} (h : g.f0 = 1 ∨ g.f0 = 2) : sizesOf g = [(g.f1.length : Int)] := if_pos h
theorem sizesOf_3 {g : Ge} (h : g.f0 = 3) : sizesOf g = g.f2.map fun r => (r.length : Int) := by unfold sizesOf; rw [if_neg (by omega), if_pos h]
theorem sizesOf_4 {g : Ge} (h1 : g.f0 ≠ 1) (h2 : g.f0 ≠ 2) (h3 : g.f0 ≠ 3) : sizesOf g = [(g.f3.length : Int)] := by unfold sizesOf; rw [if_neg (by omega), if_neg h3]
theorem lineOf_3 {g : Ge} (h : g.f0 = 3) : lineOf g = own g := if_pos h
theorem lineOf_o {g : Ge} (h : g.f0 ≠ 3) : lineOf g = g.f1 := if_neg h
/-- What Flat answers. -/
def FlatRes (w w' : World) (g : Ge) (u ev : Value) : Prop := match checkR g with
  | some e => u = .slice none 0 0 ∧ ErrV w' ev (some e)
  | none => Kd.R kNd 54 w' w.heap.size (fun _ => True) u ((nodes g 1 0).map fun y => nodeOf y.f0) ∧ ev = .nilIface
set_option maxRecDepth 100000 in
set_option maxHeartbeats 4000000 in
theorem flat_calls (v : Value) (g : Ge) (w : World) (hv : IsG w v g) (hbk : g.bulk ≤ 2097152) :
    Calls Tryd.prog 14 #[v] w fun e w' => ∃ u ev, e = .returned (.tuple #[u, ev]) ∧ FlatRes w w' g u ev ∧ Below w.heap.size w w' := by
  have hv' := hv
  obtain ⟨A1, c1, A2, c2, A3, c3, rfl, _⟩ := hv'
  obtain ⟨w0, hw0⟩ : ∃ w0, w0 = w.alloc (.cells #[.int .i64 g.f0, .slice A1 g.f1.length c1, .slice A2 g.f2.length c2, .slice A3 g.f3.length c3] 26) := ⟨_, rfl⟩
  have hs0 : w0.heap.size = w.heap.size + 1 := by rw [hw0]; simp
  have hbk0 : w0.heap[w.heap.size]? = some (.cells #[.int .i64 g.f0, .slice A1 g.f1.length c1, .slice A2 g.f2.length c2, .slice A3 g.f3.length c3] 26 (0, 0)) := by rw [hw0]; exact World.alloc_heap_new w _
  have hb0 : Below w.heap.size w w0 := by rw [hw0]; exact below_alloc (Below.refl _ _) _
  have hG : GAt w0 ⟨w.heap.size, 0, none⟩ g := GAt.box (hv.below hb0) hbk0 rfl
  have z0 : w0.cell? ⟨w.heap.size, 0, none⟩ = some (.int .i64 g.f0) := (blk_cell hbk0 0).trans rfl
  have z1 : w0.cell? ⟨w.heap.size, 1, none⟩ = some (.slice A1 g.f1.length c1) := (blk_cell hbk0 1).trans rfl
  have z2 : w0.cell? ⟨w.heap.size, 2, none⟩ = some (.slice A2 g.f2.length c2) := (blk_cell hbk0 2).trans rfl
  have z3 : w0.cell? ⟨w.heap.size, 3, none⟩ = some (.slice A3 g.f3.length c3) := (blk_cell hbk0 3).trans rfl
  have HV := Aside0.mk hv
  have HW0 := Aside0.mk hw0
  have HG := Aside0.mk hG
  have HB0 := Aside0.mk hb0
  have HS0 := Aside0.mk hs0
  clear hv hw0 hG hb0 hs0 hbk0
  refine (callsIn_wide (n := 3)).1 ?_
  refine callsIn_of_wp_marks Tryd.func14 rfl trivial ?_ rfl
  simp only [Tryd.ntmps14, List.size_toArray, List.length_cons, List.length_nil, Nat.reduceAdd, Nat.reduceSub, Array.replicate_succ, Array.replicate_zero, List.push_toArray, List.append_toArray, List.nil_append, List.cons_append]
  gi_wp2_with fail
  rw [← HW0.out]
  refine ⟨trivial, (Free.plain.calls (check_calls _ g w0 (HV.out.below HB0.out) (by omega))).mono ?_⟩
  rintro e w1 ⟨ev, rfl, hev, hb1⟩
  cases hck : checkR g with
  | some e0 =>
    rw [hck] at hev
    obtain ⟨ga, ca⟩ := e0
    obtain ⟨gk, rfl, hk⟩ := hev
    have HK := Aside0.mk hk
    have HC := Aside0.mk hck
    have HB1 := Aside0.mk (below_step HB0.out hb1)
    clear hk hck hb1
    gi_wp2_with fail
    refine ⟨_, results_tmp2 rfl _ _ _, _, _, rfl, ?_, HB1.out⟩
    unfold FlatRes
    rw [HC.out]
    exact ⟨rfl, gk, rfl, HK.out⟩
  | none =>
    rw [hck] at hev
    obtain rfl : ev = .nilIface := hev
    have HC := Aside0.mk hck
    have z0' := cell_below hb1 z0
    have z1' := cell_below hb1 z1
    have z2' := cell_below hb1 z2
    have z3' := cell_below hb1 z3
    have HB1 := Aside0.mk (below_step HB0.out hb1)
    have HG1 := Aside0.mk (HG.out.below hb1)
    clear hck hb1
    gi_wp2_with fail
    refine ⟨trivial, ?_⟩
    refine (Free.plain.calls (all_calls _ _)).mono ?_
    rintro e w' ⟨rfl, rfl⟩
    gi_wp2_with fail
    refine range_all (w1.heap.size) w1 rfl g ⟨w.heap.size, 0, none⟩ HG1.out (by omega) ?hw (w1.heap.size + 1) ?hBt rfl rfl
      (fun x B => { tmps := #[Value.agg #[.int .i64 g.f0, .slice A1 g.f1.length c1, .slice A2 g.f2.length c2, .slice A3 g.f3.length c3], .pointer (some ⟨w.heap.size, 0, none⟩), .slice none 0 0, .nilIface, .nilIface, .pointer (some ⟨w1.heap.size, 0, none⟩), .pointer (some ⟨B, 0, none⟩), undef, undef, undef, Value.agg #[.int .i64 g.f0, .slice A1 g.f1.length c1, .slice A2 g.f2.length c2, .slice A3 g.f3.length c3], .nilIface, .nilIface, .bool false, undef, .func (.func 48) #[] #[.pointer (some ⟨w1.heap.size + 1, 0, none⟩)], x.enc, undef, undef, undef, undef, undef, undef, undef, undef, undef, undef, undef, undef, undef, undef, undef, undef, undef, undef, undef, undef, undef, undef, undef, undef, undef, undef, undef, undef, undef, undef, undef, undef, undef, undef, undef, undef, undef, undef, undef, undef, undef, undef, undef, undef, undef, undef, undef, undef, undef, undef, undef, undef, undef, undef, undef, undef, undef, undef, undef, undef, undef, undef, undef, undef, undef, undef], defers := [] })
      ?hassign
      (fun pre W => ∃ u, W.heap[w1.heap.size]? = some (.cells #[u] 37 (0, 0)) ∧ Kd.R kNd 54 W w1.heap.size (fun _ => True) u (pre.map fun y => nodeOf y.f0))
      (fun _ _ => False) ?hI (fun _ _ _ _ h _ _ => h) ?h0 ?hbody ?hdone (fun _ _ _ _ _ h => h.elim)
    case hw => exact ((Below.refl _ _).alloc (Nat.le_refl _) _).alloc (by simp) _
    case hBt => exact (blk_cell (heap_at (by simp) _) 0).trans rfl
    case hassign =>
      intro l x W K hK
      dsimp only [Spot.enc]
      gi_wp2
      exact hK
    case hI =>
      rintro s A B row ⟨v, h1, h2⟩ hg hr
      exact ⟨v, (grownBy_keeps_cells hg (fun r e => (hr r e).2) h1 rfl).trans h1, R_own h2 hg (fun r e => (hr r e).2)⟩
    case h0 => exact ⟨_, heap_old (heap_at (by simp) _) _, Kd.R_nil _ _ _ _ _⟩
    case hbody =>
      rintro l pre x Bx W hm hGx hb hn hB hbx ⟨u, hi1, hi2⟩ hlen
      have hmx : Tryd.prog.follows .mixedOrders = true := by kernel_rfl
      simp only [World.size_alloc] at hB
      have hne : Bx ≠ w1.heap.size := by omega
      have hxb := nodes_bulk (hm x.it (by simp))
      have hxb' : x.g.bulk ≤ 2097152 := Nat.le_trans hxb hbk
      have hl := nodes_len g 1 0
      rw [List.length_append, List.length_singleton] at hlen
      have hpl : pre.length + 1 ≤ 2097152 := by omega
      have hbq := x.g.bulk_eq
      have l1 : x.g.f1.length ≤ 2097152 := by omega
      have l2 : x.g.f2.length ≤ 2097152 := by omega
      have l3 : x.g.f3.length ≤ 2097152 := by have := bulks_len x.g.f3; omega
      have lo : (own x.g).length ≤ 2097152 := by have := own_len x.g; omega
      obtain ⟨D1, d1, D2, d2, D3, d3, g0, g1, g2, g3, m1, q1, m2, q2, m3, q3⟩ := hGx
      have HC1 := Aside0.mk q1
      have HC2 := Aside0.mk q2
      have G0 := Aside0.mk g0
      have G1 := Aside0.mk g1
      have G2 := Aside0.mk g2
      have G3 := Aside0.mk g3
      have ULT := Aside0.mk (Kd.R_lt hi2)
      have KO := Aside0.mk hi1
      have HO := Aside0.mk hi2
      have KX := Aside0.mk hbx
      have HB := Aside0.mk hb
      have HNB := Aside0.mk (show w1.heap.size < W.heap.size from blk_lt hi1)
      have HIN := Aside0.mk (show x.it.f0 = x.g from rfl)
      clear hm hlen hl hbq hxb hxb' q1 q2 q3 g0 g1 g2 g3 hi1 hi2 hbx hb hn hB
      gi_wp2_with fail
      refine Free.draws (.round l) hmx ?hq (by decide) ?_
      case hq => rintro ⟨_, _, h⟩; exact h
      refine start_any (n := 14) (S := fun w' => w'.cell? ⟨Bx, 0, none⟩ = some (.pointer (some x.ad)) ∧ w'.cell? x.ad = some (.int .i64 x.g.f0) ∧ w'.cell? ⟨x.ad.block, x.ad.off + 1, none⟩ = some (.slice D1 x.g.f1.length d1) ∧ True) (ds := [13]) #[false, false, false, false, false, false, false, false, false, false, false, false, false, false] rfl rfl ⟨(blk_cell (w := W.drew) KX.out 0).trans rfl, cell_below (below_drew HB.out) G0.out, cell_below (below_drew HB.out) G1.out, trivial⟩ (fun hHeld => ?_)
      (refine pure_ (i := 0) (N := some 17) (v := ?_) (a' := ?_) #[true, false, false, false, false, false, false, false, false, false, false, false, false, false] rfl rfl (by kernel_rfl) (fun _ _ _ h => h) (Or.inl ⟨by rfl, ?_⟩) ?_ ?_; rotate_left; (focus (intro w'_; go_simp; with_reducible rfl)); rotate_left; (focus (simp only [Act.put, List.setIfInBounds_toArray, List.set_cons_zero, List.set_cons_succ]; rfl)))
      (refine pure_ (i := 5) (N := some 22) (v := ?_) (a' := ?_) #[true, false, false, false, false, true, false, false, false, false, false, false, false, false] rfl rfl (by kernel_rfl) (fun _ _ _ h => h) (Or.inl ⟨by rfl, ?_⟩) ?_ ?_; rotate_left; (focus (intro w'_; go_simp; with_reducible rfl)); rotate_left; (focus (simp only [Act.put, List.setIfInBounds_toArray, List.set_cons_zero, List.set_cons_succ]; rfl)))
      (refine take_ (i := 1) (N := some 18) (v := ?_) (a' := ?_) #[true, true, false, false, false, true, false, false, false, false, false, false, false, false] rfl rfl (by kernel_rfl) (fun _ _ _ h => h) (Or.inl ⟨by rfl, ?_⟩) hHeld ?_ ?_; rotate_left; (focus (intro w'_ hs_; (repeat obtain ⟨_, hs_⟩ := hs_); go_simp; with_reducible rfl)); rotate_left; (focus (simp only [Act.put, List.setIfInBounds_toArray, List.set_cons_zero, List.set_cons_succ]; rfl)))
      (refine take_ (i := 6) (N := some 23) (v := ?_) (a' := ?_) #[true, true, false, false, false, true, true, false, false, false, false, false, false, false] rfl rfl (by kernel_rfl) (fun _ _ _ h => h) (Or.inl ⟨by rfl, ?_⟩) hHeld ?_ ?_; rotate_left; (focus (intro w'_ hs_; (repeat obtain ⟨_, hs_⟩ := hs_); go_simp; with_reducible rfl)); rotate_left; (focus (simp only [Act.put, List.setIfInBounds_toArray, List.set_cons_zero, List.set_cons_succ]; rfl)))
      (refine pure_ (i := 2) (N := some 19) (v := ?_) (a' := ?_) #[true, true, true, false, false, true, true, false, false, false, false, false, false, false] rfl rfl (by kernel_rfl) (fun _ _ _ h => h) (Or.inl ⟨by rfl, ?_⟩) ?_ ?_; rotate_left; (focus (intro w'_; go_simp; with_reducible rfl)); rotate_left; (focus (simp only [Act.put, List.setIfInBounds_toArray, List.set_cons_zero, List.set_cons_succ]; rfl)))
      (refine pure_ (i := 3) (N := some 20) (v := ?_) (a' := ?_) #[true, true, true, true, false, true, true, false, false, false, false, false, false, false] rfl rfl (by kernel_rfl) (fun _ _ _ h => h) (Or.inl ⟨by rfl, ?_⟩) ?_ ?_; rotate_left; (focus (intro w'_; go_simp; with_reducible rfl)); rotate_left; (focus (simp only [Act.put, List.setIfInBounds_toArray, List.set_cons_zero, List.set_cons_succ]; rfl)))
      (refine pure_ (i := 7) (N := some 24) (v := ?_) (a' := ?_) #[true, true, true, true, false, true, true, true, false, false, false, false, false, false] rfl rfl (by kernel_rfl) (fun _ _ _ h => h) (Or.inl ⟨by rfl, ?_⟩) ?_ ?_; rotate_left; (focus (intro w'_; go_simp; with_reducible rfl)); rotate_left; (focus (simp only [Act.put, List.setIfInBounds_toArray, List.set_cons_zero, List.set_cons_succ]; rfl)))
      (refine pure_ (i := 8) (N := some 25) (v := ?_) (a' := ?_) #[true, true, true, true, false, true, true, true, true, false, false, false, false, false] rfl rfl (by kernel_rfl) (fun _ _ _ h => h) (Or.inl ⟨by rfl, ?_⟩) ?_ ?_; rotate_left; (focus (intro w'_; go_simp; with_reducible rfl)); rotate_left; (focus (simp only [Act.put, List.setIfInBounds_toArray, List.set_cons_zero, List.set_cons_succ]; rfl)))
      (refine take_ (i := 4) (N := some 21) (v := ?_) (a' := ?_) #[true, true, true, true, true, true, true, true, true, false, false, false, false, false] rfl rfl (by kernel_rfl) (fun _ _ _ h => h) (Or.inl ⟨by rfl, ?_⟩) hHeld ?_ ?_; rotate_left; (focus (intro w'_ hs_; (repeat obtain ⟨_, hs_⟩ := hs_); go_simp; with_reducible rfl)); rotate_left; (focus (simp only [Act.put, List.setIfInBounds_toArray, List.set_cons_zero, List.set_cons_succ]; rfl)))
      (refine take_ (i := 9) (N := some 26) (v := ?_) (a' := ?_) #[true, true, true, true, true, true, true, true, true, true, false, false, false, false] rfl rfl (by kernel_rfl) (fun _ _ _ h => h) (Or.inl ⟨by rfl, ?_⟩) hHeld ?_ ?_; rotate_left; (focus (intro w'_ hs_; (repeat obtain ⟨_, hs_⟩ := hs_); go_simp; with_reducible rfl)); rotate_left; (focus (simp only [Act.put, List.setIfInBounds_toArray, List.set_cons_zero, List.set_cons_succ]; rfl)))
      refine join_ (σ := Nat × Option Addr × Nat) 1 #[true, true, true, true, true, true, true, true, true, true, true, true, true, false] (fun s => [(27, .slice s.2.1 x.g.f1.length s.2.2), (28, .agg #[.int .i64 x.g.f0, .slice none 0 0, .slice s.2.1 x.g.f1.length s.2.2]), (7, .pointer (some ⟨s.1, 0, none⟩))]) (fun s w' => w'.heap[s.1]? = some (.cells #[.int .i64 0, .slice none 0 0, .slice none 0 0] 54 (0, 0)) ∧ W.heap.size ≤ s.1 ∧ Kd.R kPt 65 w' W.heap.size (fun _ => True) (.slice s.2.1 x.g.f1.length s.2.2) x.g.f1 ∧ Below W.heap.size W w') ?hcont ?hways
      case hways =>
        intro hcont
        refine two_ (i := 10) (j := 12) #[true, true, true, true, true, true, true, true, true, true, true, false, false, false] #[true, true, true, true, true, true, true, true, true, true, false, false, true, false] rfl rfl rfl rfl (by kernel_rfl) (by decide) (by decide) (fun K hK => ?_) (fun K hK => ?_)
        · refine goes_ Tryd.func38 (by kernel_rfl) rfl #[.slice D1 x.g.f1.length d1] (by rfl) rfl rfl (by (try simp only [List.map_toArray, List.map_cons, List.map_nil]); first | done | rfl) ?_
          refine (copied_calls D1 d1 x.g.f1 W.drew (Kd.C_below HC1.out (below_drew HB.out)) (by omega)).mono ?_
          rintro e w2 ⟨v2, rfl, ho, hb2⟩
          obtain ⟨A4, c4, e4⟩ := Kd.R_slice ho
          subst e4
          have hbw : Below W.heap.size W w2 := below_step (below_drew (Below.refl _ W)) hb2
          have b2 := below_step HB.out hbw
          refine ⟨_, rfl, hK.out _ _ ⟨(blk_cell (blk_below KX.out hbw) 0).trans rfl, cell_below b2 G0.out, cell_below b2 G1.out, trivial⟩ (fun hHeld2 => ?_)⟩
          clear hK K
          (refine norm_ (a' := ?_) ?_ ?_; rotate_left; focus (show Act.put _ (some 27) _ = _; simp only [Act.put, List.setIfInBounds_toArray, List.set_cons_zero, List.set_cons_succ]; rfl))
          (refine pure_ (i := 11) (N := some 28) (v := ?_) (a' := ?_) #[true, true, true, true, true, true, true, true, true, true, true, true, false, false] rfl rfl (by kernel_rfl) (fun _ _ _ h => h) (Or.inl ⟨by rfl, ?_⟩) ?_ ?_; rotate_left; (focus (intro w'_; go_simp; with_reducible rfl)); rotate_left; (focus (simp only [Act.put, List.setIfInBounds_toArray, List.set_cons_zero, List.set_cons_succ]; rfl)))
          refine one_ (i := 12) (N := some 7) #[true, true, true, true, true, true, true, true, true, true, true, true, true, false] rfl rfl (by kernel_rfl) (by decide) (fun K hK => ?_)
          (refine value_ (w1 := ?_) (v := ?_) (by rfl) rfl ?_ ?_; rotate_left 2; (focus (go_simp; constructor <;> rfl)))
          refine hK.out _ _ ⟨(blk_cell (blk_alloc (blk_below KX.out hbw) _) 0).trans rfl, cell_below (below_alloc b2 _) G0.out, cell_below (below_alloc b2 _) G1.out, trivial⟩ (fun hHeld3 => ?_)
          (have hh_ := (hcont (w2.heap.size, A4, c4) _ ⟨World.alloc_heap_new _ _, hbw.size, Kd.R_alloc ho _, below_alloc hbw _⟩); simp only [putAll, Act.put, List.setIfInBounds_toArray, List.set_cons_zero, List.set_cons_succ] at hh_ ⊢; exact hh_)
        · (refine value_ (w1 := ?_) (v := ?_) (by rfl) rfl ?_ ?_; rotate_left 2; (focus (go_simp; constructor <;> rfl)))
          have hbw : Below W.heap.size W (W.drew.alloc (.cells #[.int .i64 0, .slice none 0 0, .slice none 0 0] 54)) := below_alloc (below_drew (Below.refl _ W)) _
          have b2 := below_step HB.out hbw
          have k3 : (W.drew.alloc (.cells #[.int .i64 0, .slice none 0 0, .slice none 0 0] 54)).heap[W.heap.size]? = some (.cells #[.int .i64 0, .slice none 0 0, .slice none 0 0] 54 (0, 0)) := World.alloc_heap_new W.drew _
          refine hK.out _ _ ⟨(blk_cell (blk_below KX.out hbw) 0).trans rfl, cell_below b2 G0.out, cell_below b2 G1.out, trivial⟩ (fun hHeld2 => ?_)
          clear hK K
          (refine norm_ (a' := ?_) ?_ ?_; rotate_left; focus (show Act.put _ (some 7) _ = _; simp only [Act.put, List.setIfInBounds_toArray, List.set_cons_zero, List.set_cons_succ]; rfl))
          refine one_ (i := 10) (N := some 27) #[true, true, true, true, true, true, true, true, true, true, true, false, true, false] rfl rfl (by kernel_rfl) (by decide) (fun K hK => ?_)
          refine goes_ Tryd.func38 (by kernel_rfl) rfl #[.slice D1 x.g.f1.length d1] (by rfl) rfl rfl (by (try simp only [List.map_toArray, List.map_cons, List.map_nil]); first | done | rfl) ?_
          refine (copied_calls D1 d1 x.g.f1 _ (Kd.C_below HC1.out b2) (by omega)).mono ?_
          rintro e w2 ⟨v2, rfl, ho, hb2⟩
          obtain ⟨A4, c4, e4⟩ := Kd.R_slice ho
          subst e4
          have hbw2 : Below W.heap.size W w2 := below_step hbw hb2
          have b3 := below_step HB.out hbw2
          refine ⟨_, rfl, hK.out _ _ ⟨(blk_cell (blk_below KX.out hbw2) 0).trans rfl, cell_below b3 G0.out, cell_below b3 G1.out, trivial⟩ (fun hHeld3 => ?_)⟩
          clear hK K
          (refine norm_ (a' := ?_) ?_ ?_; rotate_left; focus (show Act.put _ (some 27) _ = _; simp only [Act.put, List.setIfInBounds_toArray, List.set_cons_zero, List.set_cons_succ]; rfl))
          (refine pure_ (i := 11) (N := some 28) (v := ?_) (a' := ?_) #[true, true, true, true, true, true, true, true, true, true, true, true, true, false] rfl rfl (by kernel_rfl) (fun _ _ _ h => h) (Or.inl ⟨by rfl, ?_⟩) ?_ ?_; rotate_left; (focus (intro w'_; go_simp; with_reducible rfl)); rotate_left; (focus (simp only [Act.put, List.setIfInBounds_toArray, List.set_cons_zero, List.set_cons_succ]; rfl)))
          (have hh_ := (hcont (W.heap.size, A4, c4) _ ⟨blk_below k3 hb2, Nat.le_refl _, Kd.R_lower ho hbw.size, hbw2⟩); simp only [putAll, Act.put, List.setIfInBounds_toArray, List.set_cons_zero, List.set_cons_succ] at hh_ ⊢; exact hh_)
      case hcont =>
        rintro ⟨gn, A4, c4⟩ w2 ⟨kn, hgn, hr, hbw⟩
        refine norm_ (a' := ?_) ?_ ?_
        rotate_left
        · simp only [putAll, Act.put, List.setIfInBounds_toArray, List.set_cons_zero, List.set_cons_succ]; rfl
        dsimp only at kn hgn hr
        refine last_ (i := 13) (N := none) #[true, true, true, true, true, true, true, true, true, true, true, true, true, true] rfl rfl (by kernel_rfl) (by decide) (fun K hK => ?_)
        have n0 : w2.cell? ⟨gn, 0, none⟩ = some (.int .i64 0) := (blk_cell kn 0).trans rfl
        have n1 : w2.cell? ⟨gn, 1, none⟩ = some (.slice none 0 0) := (blk_cell kn 1).trans rfl
        have n2 : w2.cell? ⟨gn, 2, none⟩ = some (.slice none 0 0) := (blk_cell kn 2).trans rfl
        have nf0 := blk_frozen kn 0
        have nf1 := blk_frozen kn 1
        have nf2 := blk_frozen kn 2
        refine skip_ (w1 := ?_) (by rfl) rfl ?_ ?_
        rotate_left
        · go_simp
          rfl
        refine hK.out _ _ ?_
        clear hK K
        refine done_ (by kernel_rfl) ?_
        obtain ⟨W3, hW3⟩ : ∃ W3, W3 = ((w2.setCell ⟨gn, 0, none⟩ (.int .i64 x.g.f0)).setCell ⟨gn, 1, none⟩ (.slice none 0 0)).setCell ⟨gn, 2, none⟩ (.slice A4 x.g.f1.length c4) := ⟨_, rfl⟩
        rw [← hW3]
        have hgW : w1.heap.size ≤ gn := Nat.le_trans (Nat.le_of_lt HNB.out) hgn
        have KN := Aside0.mk (show W3.heap[gn]? = some (.cells #[.int .i64 x.g.f0, .slice none 0 0, .slice A4 x.g.f1.length c4] 54 (0, 0)) by rw [hW3]; simpa using blk_set (blk_set (blk_set kn 0 (.int .i64 x.g.f0)) 1 (.slice none 0 0)) 2 (.slice A4 x.g.f1.length c4))
        have HR2 := Aside0.mk (show Kd.R kPt 65 W3 w1.heap.size (fun k => W.heap.size ≤ k) (.slice A4 x.g.f1.length c4) x.g.f1 by
          have h := Kd.R_far (p := ⟨gn, 2, none⟩) (Kd.R_far (p := ⟨gn, 1, none⟩) (Kd.R_far (p := ⟨gn, 0, none⟩) (Kd.R_types (Kd.R_bound hr) kn (by decide)) (fun _ h => h.2) (.int .i64 x.g.f0)) (fun _ h => h.2) (.slice none 0 0)) (fun _ h => h.2) (.slice A4 x.g.f1.length c4)
          rw [hW3]
          exact Kd.R_lower (Kd.R_mono h (fun k h => h.1.2.1)) (Nat.le_of_lt HNB.out))
        have hpp : ∀ {b : Nat} {cs : Array Value} {ty : Nat}, w2.heap[b]? = some (.cells cs ty (0, 0)) → b ≠ gn → W3.heap[b]? = some (.cells cs ty (0, 0)) := by
          intro b cs ty h hb'
          rw [hW3]
          exact blk_far (p := ⟨gn, 2, none⟩) (blk_far (p := ⟨gn, 1, none⟩) (blk_far (p := ⟨gn, 0, none⟩) h hb' _) hb' _) hb' _
        have hxlt := blk_lt KX.out
        have KX3 := Aside0.mk (hpp (blk_below KX.out hbw) (by omega))
        have KO3 := Aside0.mk (hpp (blk_below KO.out hbw) (by have := HNB.out; omega))
        have HU3 := Aside0.mk (show Kd.R kNd 54 W3 w1.heap.size (fun k => k < W.heap.size) u (pre.map fun y => nodeOf y.f0) by
          have h := Kd.R_below (Kd.R_bound HO.out) hbw
          have h2 := Kd.R_far (p := ⟨gn, 2, none⟩) (Kd.R_far (p := ⟨gn, 1, none⟩) (Kd.R_far (p := ⟨gn, 0, none⟩) h (fun k h => by have := h.2.2.1; show k ≠ gn; omega) (.int .i64 x.g.f0)) (fun k h => by have := h.2.2.1; show k ≠ gn; omega) (.slice none 0 0)) (fun k h => by have := h.2.2.1; show k ≠ gn; omega) (.slice A4 x.g.f1.length c4)
          rw [hW3]
          exact Kd.R_mono h2 (fun _ h => h.2.2.1))
        have HO3 := Aside0.mk (Kd.R_mono (ok' := fun _ => True) HU3.out (fun _ _ => trivial))
        have ST3 := Aside0.mk (show Step w1.heap.size ((w1.alloc (.cells #[.slice none 0 0] 37)).alloc (.cells #[.pointer (some ⟨w.heap.size, 0, none⟩)] 73)).heap.size W W3 by
          have s0 := (Step.refl w1.heap.size ((w1.alloc (.cells #[.slice none 0 0] 37)).alloc (.cells #[.pointer (some ⟨w.heap.size, 0, none⟩)] 73)).heap.size W).below hbw (Nat.le_of_lt HNB.out)
          have s1 := s0.set (j := 0) kn (by decide) hgW (.int .i64 x.g.f0)
          have s2 := s1.set (j := 1) (blk_set kn 0 (.int .i64 x.g.f0)) (by decide) hgW (.slice none 0 0)
          have s3 := s2.set (j := 2) (blk_set (blk_set kn 0 (.int .i64 x.g.f0)) 1 (.slice none 0 0)) (by decide) hgW (.slice A4 x.g.f1.length c4)
          rw [hW3]; exact s3)
        have HB3 := Aside0.mk (show Below w1.heap.size w1 W3 by
          rw [hW3]; exact (((HB.out.trans (hbw.mono (Nat.le_of_lt HNB.out))).setCell (p := ⟨gn, 0, none⟩) hgW _).setCell (p := ⟨gn, 1, none⟩) hgW _).setCell (p := ⟨gn, 2, none⟩) hgW _)
        have HGN := Aside0.mk (show W.heap.size ≤ gn ∧ gn < W3.heap.size from ⟨hgn, blk_lt KN.out⟩)
        have t0 : W3.cell? ⟨Bx, 0, none⟩ = some (.pointer (some x.ad)) := (blk_cell KX3.out 0).trans rfl
        have p0 := cell_below HB3.out G0.out
        have p1 := cell_below HB3.out G1.out
        have p2 := cell_below HB3.out G2.out
        have p3 := cell_below HB3.out G3.out
        have nc1 : W3.cell? ⟨gn, 1, none⟩ = some (.slice none 0 0) := (blk_cell KN.out 1).trans rfl
        have cf1 := blk_frozen KN.out 1
        have hglt := blk_lt KN.out
        have hgne : gn ≠ W3.heap.size := by omega
        clear hpp hW3 hgW hxlt kn hgn hr hbw n0 n1 n2 nf0 nf1 nf2 KX KO HO HB hHeld
        rcases (show x.g.f0 = 1 ∨ x.g.f0 = 2 ∨ x.g.f0 = 3 ∨ (x.g.f0 ≠ 1 ∧ x.g.f0 ≠ 2 ∧ x.g.f0 ≠ 3) by omega) with k1 | k1 | k1 | k1
        · have q1 : (x.g.f0 == 1) = true := by simp [k1]
          have KK := Aside0.mk k1
          clear k1
          gi_wp2_with (refine Free.list (.round l) (by rintro ⟨_, _, h⟩; exact h) _ _ _ (by decide) ?_; with_reducible refine gate_dst (N := 78) rfl ?_)
          have hsz := HGN.out
          obtain ⟨W4, hW4⟩ : ∃ W4, W4 = (W3.setCell ⟨gn, 1, none⟩ (.slice (some ⟨W3.heap.size, 0, none⟩) 1 1)).alloc (.cells #[.int .i64 x.g.f1.length] 3) := ⟨_, rfl⟩
          rw [← hW4]
          have hn1 : w1.heap.size ≤ gn := Nat.le_trans (Nat.le_of_lt HNB.out) hsz.1
          have hw3 : w1.heap.size ≤ W3.heap.size := HB3.out.size
          obtain ⟨SL, hSL⟩ : ∃ v, v = (Value.slice (some ⟨W3.heap.size, 0, none⟩) 1 1) := ⟨_, rfl⟩
          rw [← hSL] at hW4
          have hs3 : (W3.setCell ⟨gn, 1, none⟩ SL).heap.size = W3.heap.size := by simp
          have KN4 := Aside0.mk (show W4.heap[gn]? = some (.cells #[.int .i64 x.g.f0, SL, .slice A4 x.g.f1.length c4] 54 (0, 0)) by rw [hW4]; exact blk_alloc (by simpa using blk_set KN.out 1 SL) _)
          have HR1 := Aside0.mk (show Kd.R (Kd.int .i64) 3 W4 w1.heap.size (fun k => W.heap.size ≤ k) SL (sizesOf x.g) by
            have h := R_int1 (W3.setCell ⟨gn, 1, none⟩ SL) (x.g.f1.length : Int) (base := w1.heap.size) (by rw [hs3]; exact hw3) (fun k => W.heap.size ≤ k) (by rw [hs3]; omega)
            rw [hs3, ← hSL] at h
            rw [sizesOf_1 (.inl KK.out), hW4]
            exact h)
          have HR4 := Aside0.mk (show Kd.R kPt 65 W4 w1.heap.size (fun k => W.heap.size ≤ k) (.slice A4 x.g.f1.length c4) (lineOf x.g) by
            rw [lineOf_o (by have := KK.out; omega), hW4]
            exact Kd.R_alloc (Kd.R_set HR2.out KN.out (by decide) 1 _) _)
          have KO := Aside0.mk (show W4.heap[w1.heap.size]? = some (.cells #[u] 37 (0, 0)) by rw [hW4]; exact blk_alloc (blk_far KO3.out (p := ⟨gn, 1, none⟩) (by have := HNB.out; show w1.heap.size ≠ gn; omega) _) _)
          have HO := Aside0.mk (show Kd.R kNd 54 W4 w1.heap.size (fun _ => True) u (pre.map fun y => nodeOf y.f0) by
            rw [hW4]
            exact Kd.R_alloc (Kd.R_mono (Kd.R_far (p := ⟨gn, 1, none⟩) HU3.out (fun k h => by show k ≠ gn; omega) _) (fun _ _ => trivial)) _)
          have ST := Aside0.mk (show Step w1.heap.size ((w1.alloc (.cells #[.slice none 0 0] 37)).alloc (.cells #[.pointer (some ⟨w.heap.size, 0, none⟩)] 73)).heap.size W W4 by
            rw [hW4]; exact (ST3.out.set (j := 1) KN.out (by decide) hn1 SL).alloc (by rw [hs3]; exact hw3) _)
          have HB := Aside0.mk (show Below w1.heap.size w1 W4 by
            rw [hW4]; exact (HB3.out.setCell (p := ⟨gn, 1, none⟩) hn1 _).alloc (by rw [hs3]; exact hw3) _)
          clear KN HR2 KO3 HO3 KX3 ST3 HB3 HU3 t0 p0 p1 p2 p3 nc1 cf1 hW4 hglt hgne hsz hn1 hw3 HGN hs3 hSL
          obtain ⟨VL, hVL⟩ : ∃ v, v = Value.slice A4 x.g.f1.length c4 := ⟨_, rfl⟩
          rw [← hVL] at KN4 HR4
          clear hVL
          have KN := KN4
          have HR2 := HR4
          clear KN4 HR4
          have o0 : W4.cell? ⟨w1.heap.size, 0, none⟩ = some u := (blk_cell KO.out 0).trans rfl
          have of0 := blk_frozen KO.out 0
          obtain ⟨S1, s1, e1⟩ := Kd.R_slice HR1.out
          obtain ⟨S2, s2, e2⟩ := Kd.R_slice HR2.out
          subst e1 e2
          have n0 : W4.cell? ⟨gn, 0, none⟩ = some (.int .i64 x.g.f0) := (blk_cell KN.out 0).trans rfl
          have n1 : W4.cell? ⟨gn, 1, none⟩ = some (.slice S1 (sizesOf x.g).length s1) := (blk_cell KN.out 1).trans rfl
          have n2 : W4.cell? ⟨gn, 2, none⟩ = some (.slice S2 (lineOf x.g).length s2) := (blk_cell KN.out 2).trans rfl
          obtain ⟨LS, hLS⟩ : ∃ n, n = (sizesOf x.g).length := ⟨_, rfl⟩
          obtain ⟨LL, hLL⟩ : ∃ n, n = (lineOf x.g).length := ⟨_, rfl⟩
          have HMK := Aside0.mk (show kNd.M W4 w1.heap.size (fun k => W.heap.size ≤ k) (nodeOf x.g) [.int .i64 x.g.f0, .slice S1 LS s1, .slice S2 LL s2] by rw [hLS, hLL]; exact kNd_mkM W4 _ _ (nodeOf x.g) HR1.out HR2.out)
          rw [← hLS] at n1
          rw [← hLL] at n2
          clear hLS hLL HR1 HR2 KN
          go_wp2_with ((with_reducible refine gate_builtin (b := .append) (xs := #[.tmp 78, .tmp 80]) rfl ?_); at_builtin; refine Kd.R_append kNd (w0 := w1) w1.heap.size rfl (.tmp 78) (.tmp 80) 37 54 (.agg #[.int .i64 0, .slice none 0 0, .slice none 0 0]) 56 rfl Tryd.underlying37 infoNd rfl (Nat.succ_pos _) (by omega) u (pre.map fun y => nodeOf y.f0) (nodeOf x.g) [.int .i64 x.g.f0, .slice S1 LS s1, .slice S2 LL s2] (fun _ => True) (fun k => W.heap.size ≤ k) rfl rfl ?aP ?aK ?aF ?aO ?aB ?aS ?aL ?_; (case aP => exact HMK.out); (case aK => exact fun k h => ⟨trivial, fun e => by have := ULT.out k e.symm; omega⟩); (case aF => exact fun _ _ => trivial); (case aO => exact HO.out); (case aB => exact HB.out); (case aS => exact HB.out.size); (case aL => rw [List.length_map]; omega); intro u2 W5 ho5 hb5 hg5 hat5; obtain ⟨S5, s5, e5⟩ := Kd.R_slice ho5; obtain ⟨T5, hT5⟩ : ∃ T, T = (pre.map fun y => nodeOf y.f0) ++ [nodeOf x.g] := ⟨_, rfl⟩; rw [← hT5] at ho5 e5; subst e5; have HT5 := Aside0.mk hT5; have k5 := blk_grown KO.out hg5 (Kd.R_ne HO.out KO.out (by decide)); have st5 := step_grown ST.out HO.out hg5 HB.out.size (by decide); have q0 : W5.cell? ⟨w1.heap.size, 0, none⟩ = some u := (blk_cell k5 0).trans rfl; have qf0 := blk_frozen k5 0; have K5 := Aside0.mk k5; have ST5 := Aside0.mk st5; have HO5 := Aside0.mk ho5; clear hT5 k5 st5 ho5 hb5 hg5 hat5 o0 of0 n0 n1 n2 HMK KO HO ST HB)
          refine ⟨ST5.out.set K5.out (by decide) (Nat.le_refl _) _, _, blk_set1 K5.out _, ?_⟩
          rw [List.map_append, List.map_cons, List.map_nil]
          have h := Kd.R_set HO5.out K5.out (by decide) 0 (.slice S5 T5.length s5)
          rw [HT5.out] at h ⊢
          exact h
        · have q1 : (x.g.f0 == 1) = false := by simp [k1]
          have q2 : (x.g.f0 == 2) = true := by simp [k1]
          have KK := Aside0.mk k1
          clear k1
          gi_wp2_with (refine Free.list (.round l) (by rintro ⟨_, _, h⟩; exact h) _ _ _ (by decide) ?_; with_reducible refine gate_dst (N := 78) rfl ?_)
          have hsz := HGN.out
          obtain ⟨W4, hW4⟩ : ∃ W4, W4 = (W3.setCell ⟨gn, 1, none⟩ (.slice (some ⟨W3.heap.size, 0, none⟩) 1 1)).alloc (.cells #[.int .i64 x.g.f1.length] 3) := ⟨_, rfl⟩
          rw [← hW4]
          have hn1 : w1.heap.size ≤ gn := Nat.le_trans (Nat.le_of_lt HNB.out) hsz.1
          have hw3 : w1.heap.size ≤ W3.heap.size := HB3.out.size
          obtain ⟨SL, hSL⟩ : ∃ v, v = (Value.slice (some ⟨W3.heap.size, 0, none⟩) 1 1) := ⟨_, rfl⟩
          rw [← hSL] at hW4
          have hs3 : (W3.setCell ⟨gn, 1, none⟩ SL).heap.size = W3.heap.size := by simp
          have KN4 := Aside0.mk (show W4.heap[gn]? = some (.cells #[.int .i64 x.g.f0, SL, .slice A4 x.g.f1.length c4] 54 (0, 0)) by rw [hW4]; exact blk_alloc (by simpa using blk_set KN.out 1 SL) _)
          have HR1 := Aside0.mk (show Kd.R (Kd.int .i64) 3 W4 w1.heap.size (fun k => W.heap.size ≤ k) SL (sizesOf x.g) by
            have h := R_int1 (W3.setCell ⟨gn, 1, none⟩ SL) (x.g.f1.length : Int) (base := w1.heap.size) (by rw [hs3]; exact hw3) (fun k => W.heap.size ≤ k) (by rw [hs3]; omega)
            rw [hs3, ← hSL] at h
            rw [sizesOf_1 (.inr KK.out), hW4]
            exact h)
          have HR4 := Aside0.mk (show Kd.R kPt 65 W4 w1.heap.size (fun k => W.heap.size ≤ k) (.slice A4 x.g.f1.length c4) (lineOf x.g) by
            rw [lineOf_o (by have := KK.out; omega), hW4]
            exact Kd.R_alloc (Kd.R_set HR2.out KN.out (by decide) 1 _) _)
          have KO := Aside0.mk (show W4.heap[w1.heap.size]? = some (.cells #[u] 37 (0, 0)) by rw [hW4]; exact blk_alloc (blk_far KO3.out (p := ⟨gn, 1, none⟩) (by have := HNB.out; show w1.heap.size ≠ gn; omega) _) _)
          have HO := Aside0.mk (show Kd.R kNd 54 W4 w1.heap.size (fun _ => True) u (pre.map fun y => nodeOf y.f0) by
            rw [hW4]
            exact Kd.R_alloc (Kd.R_mono (Kd.R_far (p := ⟨gn, 1, none⟩) HU3.out (fun k h => by show k ≠ gn; omega) _) (fun _ _ => trivial)) _)
          have ST := Aside0.mk (show Step w1.heap.size ((w1.alloc (.cells #[.slice none 0 0] 37)).alloc (.cells #[.pointer (some ⟨w.heap.size, 0, none⟩)] 73)).heap.size W W4 by
            rw [hW4]; exact (ST3.out.set (j := 1) KN.out (by decide) hn1 SL).alloc (by rw [hs3]; exact hw3) _)
          have HB := Aside0.mk (show Below w1.heap.size w1 W4 by
            rw [hW4]; exact (HB3.out.setCell (p := ⟨gn, 1, none⟩) hn1 _).alloc (by rw [hs3]; exact hw3) _)
          clear KN HR2 KO3 HO3 KX3 ST3 HB3 HU3 t0 p0 p1 p2 p3 nc1 cf1 hW4 hglt hgne hsz hn1 hw3 HGN hs3 hSL
          obtain ⟨VL, hVL⟩ : ∃ v, v = Value.slice A4 x.g.f1.length c4 := ⟨_, rfl⟩
          rw [← hVL] at KN4 HR4
          clear hVL
          have KN := KN4
          have HR2 := HR4
          clear KN4 HR4
          have o0 : W4.cell? ⟨w1.heap.size, 0, none⟩ = some u := (blk_cell KO.out 0).trans rfl
          have of0 := blk_frozen KO.out 0
          obtain ⟨S1, s1, e1⟩ := Kd.R_slice HR1.out
          obtain ⟨S2, s2, e2⟩ := Kd.R_slice HR2.out
          subst e1 e2
          have n0 : W4.cell? ⟨gn, 0, none⟩ = some (.int .i64 x.g.f0) := (blk_cell KN.out 0).trans rfl
          have n1 : W4.cell? ⟨gn, 1, none⟩ = some (.slice S1 (sizesOf x.g).length s1) := (blk_cell KN.out 1).trans rfl
          have n2 : W4.cell? ⟨gn, 2, none⟩ = some (.slice S2 (lineOf x.g).length s2) := (blk_cell KN.out 2).trans rfl
          obtain ⟨LS, hLS⟩ : ∃ n, n = (sizesOf x.g).length := ⟨_, rfl⟩
          obtain ⟨LL, hLL⟩ : ∃ n, n = (lineOf x.g).length := ⟨_, rfl⟩
          have HMK := Aside0.mk (show kNd.M W4 w1.heap.size (fun k => W.heap.size ≤ k) (nodeOf x.g) [.int .i64 x.g.f0, .slice S1 LS s1, .slice S2 LL s2] by rw [hLS, hLL]; exact kNd_mkM W4 _ _ (nodeOf x.g) HR1.out HR2.out)
          rw [← hLS] at n1
          rw [← hLL] at n2
          clear hLS hLL HR1 HR2 KN
          go_wp2_with ((with_reducible refine gate_builtin (b := .append) (xs := #[.tmp 78, .tmp 80]) rfl ?_); at_builtin; refine Kd.R_append kNd (w0 := w1) w1.heap.size rfl (.tmp 78) (.tmp 80) 37 54 (.agg #[.int .i64 0, .slice none 0 0, .slice none 0 0]) 56 rfl Tryd.underlying37 infoNd rfl (Nat.succ_pos _) (by omega) u (pre.map fun y => nodeOf y.f0) (nodeOf x.g) [.int .i64 x.g.f0, .slice S1 LS s1, .slice S2 LL s2] (fun _ => True) (fun k => W.heap.size ≤ k) rfl rfl ?aP ?aK ?aF ?aO ?aB ?aS ?aL ?_; (case aP => exact HMK.out); (case aK => exact fun k h => ⟨trivial, fun e => by have := ULT.out k e.symm; omega⟩); (case aF => exact fun _ _ => trivial); (case aO => exact HO.out); (case aB => exact HB.out); (case aS => exact HB.out.size); (case aL => rw [List.length_map]; omega); intro u2 W5 ho5 hb5 hg5 hat5; obtain ⟨S5, s5, e5⟩ := Kd.R_slice ho5; obtain ⟨T5, hT5⟩ : ∃ T, T = (pre.map fun y => nodeOf y.f0) ++ [nodeOf x.g] := ⟨_, rfl⟩; rw [← hT5] at ho5 e5; subst e5; have HT5 := Aside0.mk hT5; have k5 := blk_grown KO.out hg5 (Kd.R_ne HO.out KO.out (by decide)); have st5 := step_grown ST.out HO.out hg5 HB.out.size (by decide); have q0 : W5.cell? ⟨w1.heap.size, 0, none⟩ = some u := (blk_cell k5 0).trans rfl; have qf0 := blk_frozen k5 0; have K5 := Aside0.mk k5; have ST5 := Aside0.mk st5; have HO5 := Aside0.mk ho5; clear hT5 k5 st5 ho5 hb5 hg5 hat5 o0 of0 n0 n1 n2 HMK KO HO ST HB)
          refine ⟨ST5.out.set K5.out (by decide) (Nat.le_refl _) _, _, blk_set1 K5.out _, ?_⟩
          rw [List.map_append, List.map_cons, List.map_nil]
          have h := Kd.R_set HO5.out K5.out (by decide) 0 (.slice S5 T5.length s5)
          rw [HT5.out] at h ⊢
          exact h
        · have q1 : (x.g.f0 == 1) = false := by simp [k1]
          have q2 : (x.g.f0 == 2) = false := by simp [k1]
          have q3 : (x.g.f0 == 3) = true := by simp [k1]
          have KK := Aside0.mk k1
          clear k1
          gi_wp2_with fail
          gi_loopw [61] (fun i wr => ∃ (k : Nat) (s1 s2 : Value), k ≤ x.g.f2.length ∧ i = .int .i64 (k : Int) ∧ Aside0 (wr.heap[gn]? = some (.cells #[.int .i64 x.g.f0, s1, s2] 54 (0, 0))) ∧ Aside0 (Kd.R (Kd.int .i64) 3 wr w1.heap.size (fun k => W.heap.size ≤ k) s1 ((x.g.f2.take k).map fun r => (r.length : Int))) ∧ Aside0 (Kd.R kPt 65 wr w1.heap.size (fun k => W.heap.size ≤ k) s2 (ownTo x.g k)) ∧ Aside0 (wr.heap[w1.heap.size]? = some (.cells #[u] 37 (0, 0))) ∧ Aside0 (Kd.R kNd 54 wr w1.heap.size (fun k => k < W.heap.size) u (pre.map fun y => nodeOf y.f0)) ∧ Aside0 (wr.heap[Bx]? = some (.cells #[.pointer (some x.ad), .int .i64 x.lvl, .int .i64 x.of_] 75 (0, 0))) ∧ Aside0 (Step w1.heap.size ((w1.alloc (.cells #[.slice none 0 0] 37)).alloc (.cells #[.pointer (some ⟨w.heap.size, 0, none⟩)] 73)).heap.size W wr) ∧ Aside0 (Below w1.heap.size w1 wr)) (fun i _ => x.g.f2.length - (intOf i).toNat)
          case atStart =>
            have e : ownTo x.g 0 = x.g.f1 := by simp [ownTo]
            exact ⟨0, _, _, Nat.zero_le _, rfl, KN, ⟨Kd.R_nil _ _ _ _ _⟩, ⟨by rw [e]; exact HR2.out⟩, KO3, HU3, KX3, ST3, HB3⟩
          case round =>
            clear KN HR2 KO3 HO3 HU3 KX3 ST3 HB3 t0 p0 p1 p2 p3 nc1 cf1 hglt hgne
            obtain ⟨k, s1, s2, hk, rfl, KN, HR1, HR2, KO, HU, KX, ST, HB⟩ := hrel
            by_cases hlt : k < x.g.f2.length
            · obtain ⟨a2, A0, c0, ea, hx, hl, hc⟩ := at_L2 HC2.out k (by omega) (by omega)
              subst ea
              rw [rd_L2_at _ _ hlt, Int.toNat_natCast] at hx
              rw [rd_L2_at _ _ hlt] at hc
              have hx2 := cell_below HB.out hx
              have n1 : wr.cell? ⟨gn, 1, none⟩ = some s1 := (blk_cell KN.out 1).trans rfl
              have nf1 := blk_frozen KN.out 1
              have HC := Aside0.mk hc
              clear hx hl hc
              gi_wp2_with (gi_at_builtin; refine Free.list (.round l) (by rintro ⟨_, _, h⟩; exact h) _ _ _ (by decide) ?_)
              have hgl := Aside0.mk (show W.heap.size ≤ wr.heap.size by have := blk_lt KN.out; have := HGN.out.1; omega)
              refine Kd.R_append (Kd.int .i64) (w0 := w1) w1.heap.size rfl (.tmp 66) (.tmp 69) 52 3 (.int .i64 0) 8 rfl Tryd.underlying52 infoI rfl (Nat.succ_pos _) (by omega) s1 ((x.g.f2.take k).map fun r => (r.length : Int)) ((x.g.f2[k].length : Nat) : Int) [.int .i64 ((x.g.f2[k].length : Nat) : Int)] (fun k => W.heap.size ≤ k) (fun _ => False) rfl rfl ?aP ?aK ?aF ?aO ?aB ?aS ?aL ?_
              case aP => exact (rfl : [Value.int .i64 ((x.g.f2[k].length : Nat) : Int)] = [Value.int .i64 ((x.g.f2[k].length : Nat) : Int)])
              case aK => exact fun _ h => h.elim
              case aF => exact fun k h => Nat.le_trans hgl.out h
              case aO => exact HR1.out
              case aB => exact HB.out
              case aS => exact HB.out.size
              case aL => rw [List.length_map, List.length_take]; omega
              intro u1 W5 ho5 hb5 hg5 hat5
              obtain ⟨S5, s5, e5⟩ := Kd.R_slice ho5
              obtain ⟨T5, hT5⟩ : ∃ T, T = ((x.g.f2.take k).map fun r => (r.length : Int)) ++ [((x.g.f2[k].length : Nat) : Int)] := ⟨_, rfl⟩
              rw [← hT5] at ho5 e5
              subst e5
              have hT5' : T5 = (x.g.f2.take (k + 1)).map fun r => (r.length : Int) := by rw [hT5, List.take_succ_eq_append_getElem hlt, List.map_append]; rfl
              have HT5 := Aside0.mk hT5'
              have kn5 := blk_grown KN.out hg5 (Kd.R_ne HR1.out KN.out (by decide))
              have ko5 := blk_grown KO.out hg5 (Kd.R_ne HR1.out KO.out (by decide))
              have kx5 := blk_grown KX.out hg5 (Kd.R_ne HR1.out KX.out (by decide))
              have hr5 := Kd.R_over' HR2.out (Kd.R_typed HR1.out) (by decide) hg5
              have hu5 := Kd.R_grown HU.out hg5 (fun k h e => by have := (HR1.out).1 k e.symm; omega)
              have st5 := step_grown ST.out HR1.out hg5 HB.out.size (by decide)
              have c5 : W5.cell? ⟨gn, 1, none⟩ = some s1 := (blk_cell kn5 1).trans rfl
              have cf5 := blk_frozen kn5 1
              have KN5 := Aside0.mk kn5
              have KO5 := Aside0.mk ko5
              have KX5 := Aside0.mk kx5
              have HR5 := Aside0.mk hr5
              have HU5 := Aside0.mk hu5
              have ST5 := Aside0.mk st5
              have HO5 := Aside0.mk ho5
              have HB5 := Aside0.mk hb5
              clear hT5 hT5' kn5 ko5 kx5 hr5 hu5 st5 ho5 hb5 hg5 hat5 KN HR1 HR2 KO HU KX ST HB n1 nf1 hx2
              go_wp2_with fail
              obtain ⟨W6, hW6⟩ : ∃ W6, W6 = W5.setCell ⟨gn, 1, none⟩ (.slice S5 T5.length s5) := ⟨_, rfl⟩
              rw [← hW6]
              have hgW : w1.heap.size ≤ gn := Nat.le_trans (Nat.le_of_lt HNB.out) HGN.out.1
              have KN := Aside0.mk (show W6.heap[gn]? = some (.cells #[.int .i64 x.g.f0, .slice S5 T5.length s5, s2] 54 (0, 0)) by rw [hW6]; simpa using blk_set KN5.out 1 (.slice S5 T5.length s5))
              have KO := Aside0.mk (show W6.heap[w1.heap.size]? = some (.cells #[u] 37 (0, 0)) by rw [hW6]; exact blk_far KO5.out (p := ⟨gn, 1, none⟩) (by have := HNB.out; have := HGN.out; show w1.heap.size ≠ gn; omega) _)
              have KX := Aside0.mk (show W6.heap[Bx]? = some (.cells #[.pointer (some x.ad), .int .i64 x.lvl, .int .i64 x.of_] 75 (0, 0)) by rw [hW6]; exact blk_far KX5.out (p := ⟨gn, 1, none⟩) (blk_ne KX5.out KN5.out (by decide)) _)
              have HR1 := Aside0.mk (show Kd.R (Kd.int .i64) 3 W6 w1.heap.size (fun k => W.heap.size ≤ k) (.slice S5 T5.length s5) T5 by rw [hW6]; exact Kd.R_set HO5.out KN5.out (by decide) 1 _)
              have HR2 := Aside0.mk (show Kd.R kPt 65 W6 w1.heap.size (fun k => W.heap.size ≤ k) s2 (ownTo x.g k) by rw [hW6]; exact Kd.R_set HR5.out KN5.out (by decide) 1 _)
              have HU := Aside0.mk (show Kd.R kNd 54 W6 w1.heap.size (fun k => k < W.heap.size) u (pre.map fun y => nodeOf y.f0) by rw [hW6]; exact Kd.R_far (p := ⟨gn, 1, none⟩) HU5.out (fun k h => by have := HGN.out; show k ≠ gn; omega) _)
              have ST := Aside0.mk (show Step w1.heap.size ((w1.alloc (.cells #[.slice none 0 0] 37)).alloc (.cells #[.pointer (some ⟨w.heap.size, 0, none⟩)] 73)).heap.size W W6 by rw [hW6]; exact ST5.out.set KN5.out (by decide) hgW _)
              have HB := Aside0.mk (show Below w1.heap.size w1 W6 by rw [hW6]; exact HB5.out.setCell (p := ⟨gn, 1, none⟩) hgW _)
              have n2 : W6.cell? ⟨gn, 2, none⟩ = some s2 := (blk_cell KN.out 2).trans rfl
              have nf2 := blk_frozen KN.out 2
              clear KN5 KO5 KX5 HR5 HU5 ST5 HO5 HB5 hW6 c5 cf5
              gi_wp2_with (gi_at_builtin; refine Free.list (.round l) (by rintro ⟨_, _, h⟩; exact h) _ _ _ (by decide) ?_)
              have hup : (ownTo x.g k).length + (x.g.f2[k]).length ≤ 2097152 := by
                have h1 := upTo_le x.g.f2 (k + 1)
                rw [upTo_succ _ _ hlt] at h1
                have h2 := ownTo_len x.g k
                have h3 : (own x.g).length = x.g.f1.length + x.g.f2.flatten.length := by unfold own; rw [List.length_append]
                omega
              refine Kd.R_append_rows kPt (w0 := w1) w1.heap.size rfl (.tmp 73) (.tmp 74) 22 65 (.agg #[.int .u64 0, .int .u64 0]) 16 rfl Tryd.underlying22 infoPt rfl (Nat.succ_pos _) (by omega) s2 (ownTo x.g k) x.g.f2[k] _ _ _ (fun k => W.heap.size ≤ k) (fun _ => False) rfl rfl ?aO ?aR (fun _ _ h => h) (fun _ h => h.elim) ?aF ?aB ?aS ?aL ?_
              case aO => exact HR2.out
              case aR => exact Kd.C_below HC.out HB.out
              case aF => exact fun j h => by have := HGN.out.1; have := blk_lt KN.out; show W.heap.size ≤ j; omega
              case aB => exact HB.out
              case aS => exact HB.out.size
              case aL => omega
              intro u2 W7 ho7 hb7 hg7 hat7
              obtain ⟨S7, s7, e7⟩ := Kd.R_slice ho7
              obtain ⟨T7, hT7⟩ : ∃ T, T = ownTo x.g k ++ x.g.f2[k] := ⟨_, rfl⟩
              rw [← hT7] at ho7 e7
              subst e7
              rw [← ownTo_succ x.g k hlt] at hT7
              have HT7 := Aside0.mk hT7
              have KN7 := Aside0.mk (blk_grown KN.out hg7 (Kd.R_ne HR2.out KN.out (by decide)))
              have KO7 := Aside0.mk (blk_grown KO.out hg7 (Kd.R_ne HR2.out KO.out (by decide)))
              have KX7 := Aside0.mk (blk_grown KX.out hg7 (Kd.R_ne HR2.out KX.out (by decide)))
              have HR7 := Aside0.mk (Kd.R_over' HR1.out (Kd.R_typed HR2.out) (by decide) hg7)
              have HU7 := Aside0.mk (Kd.R_grown HU.out hg7 (fun k h e => by have := (HR2.out).1 k e.symm; omega))
              have ST7 := Aside0.mk (step_grown ST.out HR2.out hg7 HB.out.size (by decide))
              have HO7 := Aside0.mk ho7
              have HB7 := Aside0.mk hb7
              have c7 : W7.cell? ⟨gn, 2, none⟩ = some s2 := (blk_cell KN7.out 2).trans rfl
              have cf7 := blk_frozen KN7.out 2
              clear hT7 ho7 hb7 hg7 hat7 KN KO KX HR1 HR2 HU ST HB n2 nf2 hup
              go_wp2_with fail
              gi_wp2_with fail
              go_roundw
              case measure => simp [intOf]; omega
              case rel =>
                have hgW : w1.heap.size ≤ gn := Nat.le_trans (Nat.le_of_lt HNB.out) HGN.out.1
                refine ⟨k + 1, .slice S5 T5.length s5, .slice S7 T7.length s7, by omega, by go_num, ⟨?_⟩, ⟨?_⟩, ⟨?_⟩, ⟨?_⟩, ⟨?_⟩, ⟨?_⟩, ⟨?_⟩, ⟨?_⟩⟩
                · simpa using blk_set KN7.out 2 (.slice S7 T7.length s7)
                · rw [← HT5.out]; exact Kd.R_set HR7.out KN7.out (by decide) 2 _
                · rw [← HT7.out]; exact Kd.R_set HO7.out KN7.out (by decide) 2 _
                · exact blk_far KO7.out (p := ⟨gn, 2, none⟩) (by have := HNB.out; have := HGN.out; show w1.heap.size ≠ gn; omega) _
                · exact Kd.R_far (p := ⟨gn, 2, none⟩) HU7.out (fun k h => by have := HGN.out; show k ≠ gn; omega) _
                · exact blk_far KX7.out (p := ⟨gn, 2, none⟩) (blk_ne KX7.out KN7.out (by decide)) _
                · exact ST7.out.set KN7.out (by decide) hgW _
                · exact HB7.out.setCell (p := ⟨gn, 2, none⟩) hgW _
            · obtain rfl : k = x.g.f2.length := by omega
              gi_wp2_with (refine Free.list (.round l) (by rintro ⟨_, _, h⟩; exact h) _ _ _ (by decide) ?_; with_reducible refine gate_dst (N := 78) rfl ?_)
              obtain ⟨W4, hW4⟩ : ∃ W4, W4 = wr := ⟨_, rfl⟩
              subst hW4
              have h1 := HR1.out
              have h2 := HR2.out
              rw [List.take_length, ← sizesOf_3 KK.out] at h1
              rw [ownTo_all, ← lineOf_3 KK.out] at h2
              have HO := Aside0.mk (Kd.R_mono (ok' := fun _ => True) HU.out (fun _ _ => trivial))
              clear HR1 HR2 HU KX hlt hk
              have HR1 := Aside0.mk h1
              have HR2 := Aside0.mk h2
              clear h1 h2
              have o0 : W4.cell? ⟨w1.heap.size, 0, none⟩ = some u := (blk_cell KO.out 0).trans rfl
              have of0 := blk_frozen KO.out 0
              obtain ⟨S1, s1, e1⟩ := Kd.R_slice HR1.out
              obtain ⟨S2, s2, e2⟩ := Kd.R_slice HR2.out
              subst e1 e2
              have n0 : W4.cell? ⟨gn, 0, none⟩ = some (.int .i64 x.g.f0) := (blk_cell KN.out 0).trans rfl
              have n1 : W4.cell? ⟨gn, 1, none⟩ = some (.slice S1 (sizesOf x.g).length s1) := (blk_cell KN.out 1).trans rfl
              have n2 : W4.cell? ⟨gn, 2, none⟩ = some (.slice S2 (lineOf x.g).length s2) := (blk_cell KN.out 2).trans rfl
              obtain ⟨LS, hLS⟩ : ∃ n, n = (sizesOf x.g).length := ⟨_, rfl⟩
              obtain ⟨LL, hLL⟩ : ∃ n, n = (lineOf x.g).length := ⟨_, rfl⟩
              have HMK := Aside0.mk (show kNd.M W4 w1.heap.size (fun k => W.heap.size ≤ k) (nodeOf x.g) [.int .i64 x.g.f0, .slice S1 LS s1, .slice S2 LL s2] by rw [hLS, hLL]; exact kNd_mkM W4 _ _ (nodeOf x.g) HR1.out HR2.out)
              rw [← hLS] at n1
              rw [← hLL] at n2
              clear hLS hLL HR1 HR2 KN
              go_wp2_with ((with_reducible refine gate_builtin (b := .append) (xs := #[.tmp 78, .tmp 80]) rfl ?_); at_builtin; refine Kd.R_append kNd (w0 := w1) w1.heap.size rfl (.tmp 78) (.tmp 80) 37 54 (.agg #[.int .i64 0, .slice none 0 0, .slice none 0 0]) 56 rfl Tryd.underlying37 infoNd rfl (Nat.succ_pos _) (by omega) u (pre.map fun y => nodeOf y.f0) (nodeOf x.g) [.int .i64 x.g.f0, .slice S1 LS s1, .slice S2 LL s2] (fun _ => True) (fun k => W.heap.size ≤ k) rfl rfl ?aP ?aK ?aF ?aO ?aB ?aS ?aL ?_; (case aP => exact HMK.out); (case aK => exact fun k h => ⟨trivial, fun e => by have := ULT.out k e.symm; omega⟩); (case aF => exact fun _ _ => trivial); (case aO => exact HO.out); (case aB => exact HB.out); (case aS => exact HB.out.size); (case aL => rw [List.length_map]; omega); intro u2 W5 ho5 hb5 hg5 hat5; obtain ⟨S5, s5, e5⟩ := Kd.R_slice ho5; obtain ⟨T5, hT5⟩ : ∃ T, T = (pre.map fun y => nodeOf y.f0) ++ [nodeOf x.g] := ⟨_, rfl⟩; rw [← hT5] at ho5 e5; subst e5; have HT5 := Aside0.mk hT5; have k5 := blk_grown KO.out hg5 (Kd.R_ne HO.out KO.out (by decide)); have st5 := step_grown ST.out HO.out hg5 HB.out.size (by decide); have q0 : W5.cell? ⟨w1.heap.size, 0, none⟩ = some u := (blk_cell k5 0).trans rfl; have qf0 := blk_frozen k5 0; have K5 := Aside0.mk k5; have ST5 := Aside0.mk st5; have HO5 := Aside0.mk ho5; clear hT5 k5 st5 ho5 hb5 hg5 hat5 o0 of0 n0 n1 n2 HMK KO HO ST HB)
              refine ⟨ST5.out.set K5.out (by decide) (Nat.le_refl _) _, _, blk_set1 K5.out _, ?_⟩
              rw [List.map_append, List.map_cons, List.map_nil]
              have h := Kd.R_set HO5.out K5.out (by decide) 0 (.slice S5 T5.length s5)
              rw [HT5.out] at h ⊢
              exact h
        · have q1 : (x.g.f0 == 1) = false := by simp [k1.1]
          have q2 : (x.g.f0 == 2) = false := by simp [k1.2.1]
          have q3 : (x.g.f0 == 3) = false := by simp [k1.2.2]
          have KK := Aside0.mk k1
          clear k1
          gi_wp2_with (refine Free.list (.round l) (by rintro ⟨_, _, h⟩; exact h) _ _ _ (by decide) ?_; with_reducible refine gate_dst (N := 78) rfl ?_)
          have hsz := HGN.out
          obtain ⟨W4, hW4⟩ : ∃ W4, W4 = (W3.setCell ⟨gn, 1, none⟩ (.slice (some ⟨W3.heap.size, 0, none⟩) 1 1)).alloc (.cells #[.int .i64 x.g.f3.length] 3) := ⟨_, rfl⟩
          rw [← hW4]
          have hn1 : w1.heap.size ≤ gn := Nat.le_trans (Nat.le_of_lt HNB.out) hsz.1
          have hw3 : w1.heap.size ≤ W3.heap.size := HB3.out.size
          obtain ⟨SL, hSL⟩ : ∃ v, v = (Value.slice (some ⟨W3.heap.size, 0, none⟩) 1 1) := ⟨_, rfl⟩
          rw [← hSL] at hW4
          have hs3 : (W3.setCell ⟨gn, 1, none⟩ SL).heap.size = W3.heap.size := by simp
          have KN4 := Aside0.mk (show W4.heap[gn]? = some (.cells #[.int .i64 x.g.f0, SL, .slice A4 x.g.f1.length c4] 54 (0, 0)) by rw [hW4]; exact blk_alloc (by simpa using blk_set KN.out 1 SL) _)
          have HR1 := Aside0.mk (show Kd.R (Kd.int .i64) 3 W4 w1.heap.size (fun k => W.heap.size ≤ k) SL (sizesOf x.g) by
            have h := R_int1 (W3.setCell ⟨gn, 1, none⟩ SL) (x.g.f3.length : Int) (base := w1.heap.size) (by rw [hs3]; exact hw3) (fun k => W.heap.size ≤ k) (by rw [hs3]; omega)
            rw [hs3, ← hSL] at h
            rw [sizesOf_4 KK.out.1 KK.out.2.1 KK.out.2.2, hW4]
            exact h)
          have HR4 := Aside0.mk (show Kd.R kPt 65 W4 w1.heap.size (fun k => W.heap.size ≤ k) (.slice A4 x.g.f1.length c4) (lineOf x.g) by
            rw [lineOf_o KK.out.2.2, hW4]
            exact Kd.R_alloc (Kd.R_set HR2.out KN.out (by decide) 1 _) _)
          have KO := Aside0.mk (show W4.heap[w1.heap.size]? = some (.cells #[u] 37 (0, 0)) by rw [hW4]; exact blk_alloc (blk_far KO3.out (p := ⟨gn, 1, none⟩) (by have := HNB.out; show w1.heap.size ≠ gn; omega) _) _)
          have HO := Aside0.mk (show Kd.R kNd 54 W4 w1.heap.size (fun _ => True) u (pre.map fun y => nodeOf y.f0) by
            rw [hW4]
            exact Kd.R_alloc (Kd.R_mono (Kd.R_far (p := ⟨gn, 1, none⟩) HU3.out (fun k h => by show k ≠ gn; omega) _) (fun _ _ => trivial)) _)
          have ST := Aside0.mk (show Step w1.heap.size ((w1.alloc (.cells #[.slice none 0 0] 37)).alloc (.cells #[.pointer (some ⟨w.heap.size, 0, none⟩)] 73)).heap.size W W4 by
            rw [hW4]; exact (ST3.out.set (j := 1) KN.out (by decide) hn1 SL).alloc (by rw [hs3]; exact hw3) _)
          have HB := Aside0.mk (show Below w1.heap.size w1 W4 by
            rw [hW4]; exact (HB3.out.setCell (p := ⟨gn, 1, none⟩) hn1 _).alloc (by rw [hs3]; exact hw3) _)
          clear KN HR2 KO3 HO3 KX3 ST3 HB3 HU3 t0 p0 p1 p2 p3 nc1 cf1 hW4 hglt hgne hsz hn1 hw3 HGN hs3 hSL
          obtain ⟨VL, hVL⟩ : ∃ v, v = Value.slice A4 x.g.f1.length c4 := ⟨_, rfl⟩
          rw [← hVL] at KN4 HR4
          clear hVL
          have KN := KN4
          have HR2 := HR4
          clear KN4 HR4
          have o0 : W4.cell? ⟨w1.heap.size, 0, none⟩ = some u := (blk_cell KO.out 0).trans rfl
          have of0 := blk_frozen KO.out 0
          obtain ⟨S1, s1, e1⟩ := Kd.R_slice HR1.out
          obtain ⟨S2, s2, e2⟩ := Kd.R_slice HR2.out
          subst e1 e2
          have n0 : W4.cell? ⟨gn, 0, none⟩ = some (.int .i64 x.g.f0) := (blk_cell KN.out 0).trans rfl
          have n1 : W4.cell? ⟨gn, 1, none⟩ = some (.slice S1 (sizesOf x.g).length s1) := (blk_cell KN.out 1).trans rfl
          have n2 : W4.cell? ⟨gn, 2, none⟩ = some (.slice S2 (lineOf x.g).length s2) := (blk_cell KN.out 2).trans rfl
          obtain ⟨LS, hLS⟩ : ∃ n, n = (sizesOf x.g).length := ⟨_, rfl⟩
          obtain ⟨LL, hLL⟩ : ∃ n, n = (lineOf x.g).length := ⟨_, rfl⟩
          have HMK := Aside0.mk (show kNd.M W4 w1.heap.size (fun k => W.heap.size ≤ k) (nodeOf x.g) [.int .i64 x.g.f0, .slice S1 LS s1, .slice S2 LL s2] by rw [hLS, hLL]; exact kNd_mkM W4 _ _ (nodeOf x.g) HR1.out HR2.out)
          rw [← hLS] at n1
          rw [← hLL] at n2
          clear hLS hLL HR1 HR2 KN
          go_wp2_with ((with_reducible refine gate_builtin (b := .append) (xs := #[.tmp 78, .tmp 80]) rfl ?_); at_builtin; refine Kd.R_append kNd (w0 := w1) w1.heap.size rfl (.tmp 78) (.tmp 80) 37 54 (.agg #[.int .i64 0, .slice none 0 0, .slice none 0 0]) 56 rfl Tryd.underlying37 infoNd rfl (Nat.succ_pos _) (by omega) u (pre.map fun y => nodeOf y.f0) (nodeOf x.g) [.int .i64 x.g.f0, .slice S1 LS s1, .slice S2 LL s2] (fun _ => True) (fun k => W.heap.size ≤ k) rfl rfl ?aP ?aK ?aF ?aO ?aB ?aS ?aL ?_; (case aP => exact HMK.out); (case aK => exact fun k h => ⟨trivial, fun e => by have := ULT.out k e.symm; omega⟩); (case aF => exact fun _ _ => trivial); (case aO => exact HO.out); (case aB => exact HB.out); (case aS => exact HB.out.size); (case aL => rw [List.length_map]; omega); intro u2 W5 ho5 hb5 hg5 hat5; obtain ⟨S5, s5, e5⟩ := Kd.R_slice ho5; obtain ⟨T5, hT5⟩ : ∃ T, T = (pre.map fun y => nodeOf y.f0) ++ [nodeOf x.g] := ⟨_, rfl⟩; rw [← hT5] at ho5 e5; subst e5; have HT5 := Aside0.mk hT5; have k5 := blk_grown KO.out hg5 (Kd.R_ne HO.out KO.out (by decide)); have st5 := step_grown ST.out HO.out hg5 HB.out.size (by decide); have q0 : W5.cell? ⟨w1.heap.size, 0, none⟩ = some u := (blk_cell k5 0).trans rfl; have qf0 := blk_frozen k5 0; have K5 := Aside0.mk k5; have ST5 := Aside0.mk st5; have HO5 := Aside0.mk ho5; clear hT5 k5 st5 ho5 hb5 hg5 hat5 o0 of0 n0 n1 n2 HMK KO HO ST HB)
          refine ⟨ST5.out.set K5.out (by decide) (Nat.le_refl _) _, _, blk_set1 K5.out _, ?_⟩
          rw [List.map_append, List.map_cons, List.map_nil]
          have h := Kd.R_set HO5.out K5.out (by decide) 0 (.slice S5 T5.length s5)
          rw [HT5.out] at h ⊢
          exact h
    case hdone =>
      rintro D W hD ⟨v, hi1, hi2⟩ hb hK
      simp only [World.size_alloc] at hD
      have m0 : W.cell? ⟨w1.heap.size, 0, none⟩ = some v := (blk_cell hi1 0).trans rfl
      have HI1 := Aside0.mk hi1
      have HI2 := Aside0.mk hi2
      dsimp only [behind]
      clear hi1 hi2
      gi_wp2
      refine ⟨by simp, .inl ⟨_, _, rfl, run_takeDeferred hK, ?_⟩⟩
      refine ⟨_, results_tmp2 rfl _ _ _, _, _, rfl, ?_, ?_⟩
      · unfold FlatRes
        rw [HC.out]
        refine ⟨?_, rfl⟩
        have h : Kd.R kNd 54 (W.putObj D (.deferred none)) w1.heap.size (fun _ => True) v ((nodes g 1 0).map fun y => nodeOf y.f0) := by
          refine Kd.R_mono (Kd.R_move (Kd.R_bound HI2.out) ?_) (fun _ _ => trivial)
          rintro k ⟨_, _, _, q, _, cells, hc⟩
          have hne : k ≠ D := by rintro rfl; rw [hK] at hc; cases hc
          rw [hc]; exact put_far hc hne _
        exact Kd.R_lower h HB1.out.size
      · exact (HB1.out.trans (hb.mono HB1.out.size)).grown (grownBy_putObj' _ _ _) (by have := hb.size; have := HB1.out.size; omega) (fun k e => by cases e; have := HB1.out.size; omega)
end Go.Proofs.YtmcbniobbbjdjaaDoor.Tree
