/- Go functions as Lean functions and their contracts: each call comes to what the Lean function says; or a law's row out of them. No conditions. Written by this session's wip/hprint.py (the kit's print with contracts and repairs of my own). -/
import Derived.Test.YtenomaibgpbonaaPOctetFreshx0
namespace Go.Proofs.Ytenomaibgpbonaa.POctetFresh
open Go.RowKit Go.Proofs.YtenomaibgpbonaaW.PrintWords Go.Proofs.YtenomaibgpbonaaW.PrintLast Go.Proofs.YtenomaibgpbonaaW.PrintMore
attribute [local go_sem] max2_int min2_int max_two min_two max_three min_three max_four min_four   -- for this text's walks alone
set_option linter.unusedVariables false
set_option linter.unusedSimpArgs false

/-! ### plumblaw16_lent: function 5 -/
def plumblaw16_lent.f (l0 : List Int) : Option (List Int) := if ([] : List Int).length + l0.length < 140737488355328 then ((some (([] : List Int) ++ l0 : List Int)).bind fun y101 => ((some (([77, 88] : List Int) : List Int)).bind fun y104 => (if y101.length + y104.length < 140737488355328 then (some (y101 ++ y104)) else (none)))) else (none)
set_option maxHeartbeats 8000000 in
set_option maxRecDepth 100000 in
theorem plumblaw16_lent.calls (A0 : Option Addr) (c0 : Nat) (l0 : List Int) (r : List Int) (w : World) (hr0 : Kd.C (Kd.int .u8) w A0 l0.length l0) (hc0 : l0.length ≤ c0) (h : plumblaw16_lent.f l0 = some r) :
    Calls Try.prog 5 #[.slice A0 l0.length c0] w fun e w' => ∃ v0_ : Value, e = .returned (v0_) ∧ Kd.R (Kd.int .u8) 5 w' w.heap.size (fun _ => True) v0_ r ∧ Below w.heap.size w w' := by
  have HR0 := Aside0.mk hr0
  have HC0 := Aside0.mk hc0
  clear hr0 hc0
  have HB := Aside0.mk (Below.refl w.heap.size w)
  have H : (if ([] : List Int).length + l0.length < 140737488355328 then ((some (([] : List Int) ++ l0 : List Int)).bind fun y101 => ((some (([77, 88] : List Int) : List Int)).bind fun y104 => (if y101.length + y104.length < 140737488355328 then (some (y101 ++ y104)) else (none)))) else (none)) = some r := h
  clear h
  by_cases c2 : ([] : List Int).length + l0.length < 140737488355328
  · rw [if_pos c2] at H
    have LMc2 := Aside0.mk c2
    clear c2
    obtain ⟨y101, hy101⟩ : ∃ y_ : List Int, y_ = (([] : List Int) ++ l0) := ⟨_, rfl⟩
    replace H : ((some (([77, 88] : List Int) : List Int)).bind fun y104 => (if y101.length + y104.length < 140737488355328 then (some (y101 ++ y104)) else (none))) = some r := by first | (rw [hy101]; with_reducible exact H) | (have H2_ := (Option.bind_some _ _).symm.trans H; rw [hy101]; with_reducible exact H2_) | (have H2_ := (Option.bind_some _ _).symm.trans H; with_reducible exact H2_) | with_reducible exact H | (rw [hy101]; exact H) | exact H
    have Ny101 := Aside0.mk hy101
    clear hy101
    obtain ⟨y104, hy104⟩ : ∃ y_ : List Int, y_ = (([77, 88] : List Int)) := ⟨_, rfl⟩
    replace H : (if y101.length + y104.length < 140737488355328 then (some (y101 ++ y104)) else (none)) = some r := by first | (rw [hy104]; with_reducible exact H) | (have H2_ := (Option.bind_some _ _).symm.trans H; rw [hy104]; with_reducible exact H2_) | (have H2_ := (Option.bind_some _ _).symm.trans H; with_reducible exact H2_) | with_reducible exact H | (rw [hy104]; exact H) | exact H
    have Ny104 := Aside0.mk hy104
    clear hy104
    by_cases c3 : y101.length + y104.length < 140737488355328
    · rw [if_pos c3] at H
      have LMc3 := Aside0.mk c3
      clear c3
      obtain ⟨y107, hy107⟩ : ∃ y_ : List Int, y_ = (y101 ++ y104) := ⟨_, rfl⟩
      replace H : (some y107) = some r := by first | (rw [hy107]; with_reducible exact H) | (have H2_ := (Option.bind_some _ _).symm.trans H; rw [hy107]; with_reducible exact H2_) | (have H2_ := (Option.bind_some _ _).symm.trans H; with_reducible exact H2_) | with_reducible exact H | (rw [hy107]; exact H) | exact H
      have Ny107 := Aside0.mk hy107
      clear hy107
      obtain rfl := Option.some.inj H
      go_enter Try.func5, Try.ntmps5
      go_wp2_with (first | ((with_reducible refine gate_builtin (b := .append) (xs := #[.tmp 4, .tmp 5]) rfl ?_); at_builtin; refine Kd.R_append_rows (Kd.int .u8) (w0 := w) w.heap.size rfl (.tmp 4) (.tmp 5) 22 5 (.int .u8 0) 1 rfl Try.underlying22 info5 rfl (by decide) (by omega) (.slice none 0 0) ([] : List Int) l0 _ _ _ (fun _ => True) (fun _ => False) rfl rfl ?aO ?aR (fun _ _ h => h) (fun _ h => h.elim) ?aF ?aB ?aS ?aL ?_; (case aR => repeat (first | exact HR0.out | (with_reducible refine Kd.C_alloc ?_ _) | (with_reducible refine Kd.C_drewN ?_ _) | (with_reducible refine Kd.C_drew ?_))); (case aB => exact (by repeat (first | (with_reducible first | exact HB.out | apply below_alloc | apply pw_below_drewN | apply below_drew1) | exact HB.out))); (case aF => exact (fun _ _ => trivial)); (case aO => exact ((Kd.R_nil _ _ _ _ (fun _ => True)))); (case aS => exact (below_size (by repeat (first | (with_reducible first | exact HB.out | apply below_alloc | apply pw_below_drewN | apply below_drew1) | exact HB.out)))); (case aL => have := LMc2.out; omega); intro v102 w4 ho hb hg hat; rw [← Ny101.out] at ho; have n0_ := Aside0.mk (hb); have n1_ := Aside0.mk (ho); clear HB; have HB := n0_; have HO103 := n1_; clear n0_ n1_; clear ho hb hg hat) | ((with_reducible refine gate_dst (N := 8) rfl ?_); refine Kd.R_lit (Kd.int .u8) _ 5 ?hg (N := 8) ?hd (xs := ([77, 88] : List Int)) (inner := [.int .u8 77, .int .u8 88]) (ok := fun _ => True) (okp := fun _ => True) ?hr ?hp (fun _ hk => hk) trivial (Below.refl _ _) (Nat.le_refl _) (by simp) ?_; (case hd => rfl); (case hg => rfl); (case hr => first | (go_simp; done) | (go_simp; rfl)); (case hp => exact (Reps.one (show Kd.M (Kd.int .u8) _ _ _ 77 [.int .u8 77] from rfl) (Reps.one (show Kd.M (Kd.int .u8) _ _ _ 88 [.int .u8 88] from rfl) (Reps.none _ _)))); intro v105 w5 ho6 hb hg_ hnew_; clear hg_ hnew_; (first | rw [← Ny104.out] at ho6 | (simp only [Int.reduceToNat] at ho6; rw [← Ny104.out] at ho6)); have n0_ := Aside0.mk (Kd.R_elder' (by (with_reducible repeat (first | apply Kd.R_alloc | apply Kd.R_drewN | apply Kd.R_drew)); exact HO103.out) (Kd.R_base ho6) hb); have n1_ := Aside0.mk (Kd.R_lower (Kd.R_new' ho6 (Kd.R_lt (by (with_reducible repeat (first | apply Kd.R_alloc | apply Kd.R_drewN | apply Kd.R_drew)); exact HO103.out))) (below_size (by repeat (first | (with_reducible first | exact HB.out | apply below_alloc | apply pw_below_drewN | apply below_drew1) | exact HB.out)))); have n2_ := Aside0.mk (below_step (by repeat (first | (with_reducible first | exact HB.out | apply below_alloc | apply pw_below_drewN | apply below_drew1) | exact HB.out)) hb); clear HO103; clear HB; have HO103 := n0_; have HO106 := n1_; have HB := n2_; clear n0_ n1_ n2_; clear hb ho6; obtain ⟨Ao8, co8, eo8⟩ := Kd.R_slice HO106.out; subst eo8) | ((with_reducible refine gate_builtin (b := .append) (xs := #[.tmp 7, .tmp 8]) rfl ?_); at_builtin; refine Kd.R_append_rows (Kd.int .u8) (w0 := w) w.heap.size rfl (.tmp 7) (.tmp 8) 22 5 (.int .u8 0) 1 rfl Try.underlying22 info5 rfl (by decide) (by omega) v102 y101 y104 _ _ _ (fun k_ => some k_ ≠ (.slice Ao8 y104.length co8 : Value).ownBlock) (fun _ => False) rfl rfl ?aO ?aR (fun _ _ h => h) (fun _ h => h.elim) ?aF ?aB ?aS ?aL ?_; (case aR => repeat (first | exact (Kd.R_reads' HO106.out).2.2 | (with_reducible refine Kd.C_alloc ?_ _) | (with_reducible refine Kd.C_drewN ?_ _) | (with_reducible refine Kd.C_drew ?_))); (case aB => exact (by repeat (first | (with_reducible first | exact HB.out | apply below_alloc | apply pw_below_drewN | apply below_drew1) | exact HB.out))); (case aF => exact (fun k_ hk => Kd.fresh' (Kd.R_lt (by (with_reducible repeat (first | apply Kd.R_alloc | apply Kd.R_drewN | apply Kd.R_drew)); exact HO106.out)) k_ hk)); (case aO => exact (by (with_reducible repeat (first | apply Kd.R_alloc | apply Kd.R_drewN | apply Kd.R_drew)); exact Kd.R_mono HO103.out (fun _ hk => hk.2))); (case aS => exact (below_size (by repeat (first | (with_reducible first | exact HB.out | apply below_alloc | apply pw_below_drewN | apply below_drew1) | exact HB.out)))); (case aL => have := LMc3.out; omega); intro v108 w7 ho hb hg hat; rw [← Ny107.out] at ho; have n0_ := Aside0.mk (Kd.R_after (ok := (fun _ => True)) (by (with_reducible repeat (first | apply Kd.R_alloc | apply Kd.R_drewN | apply Kd.R_drew)); exact HO106.out) hg hat); have n1_ := Aside0.mk (hb); have n2_ := Aside0.mk (ho); clear HO106; clear HB; clear HO103; have HO106 := n0_; have HB := n1_; have HO109 := n2_; clear n0_ n1_ n2_; clear ho hb hg hat))
      go_ret
      exact ⟨_, by first | rfl | (simp [errW_none, errW_some] <;> rfl) | (simp [*, errW_none, errW_some] <;> rfl), by (with_reducible repeat (first | apply Kd.R_alloc | apply Kd.R_drewN | apply Kd.R_drew)); exact Kd.R_mono HO109.out (fun _ hk => trivial), by repeat (first | (with_reducible first | exact HB.out | apply below_alloc | apply pw_below_drewN | apply below_drew1) | exact HB.out)⟩
    · rw [if_neg c3] at H
      exact absurd H (by simp)
  · rw [if_neg c2] at H
    exact absurd H (by simp)

/-! ### octet_put_uint32: function 13, by hand -/
def octet_put_uint32.out (l : List Int) (v : Int) (le : Bool) : List Int := if le = true then l ++ [v % 256, v / 256 % 256, v / 65536 % 256, v / 16777216 % 256] else l ++ [v / 16777216 % 256, v / 65536 % 256, v / 256 % 256, v % 256]
def octet_put_uint32.f (l0 : List Int) (a1 : Int) (a2 : Int) (a3 : Bool) : Option (List Int) := if a2 = 4 ∧ l0.length ≤ 140737488355316 then some (octet_put_uint32.out l0 a1 a3) else none
theorem octet_put_uint32.sets (l zs : List Int) (L : Int) (hL : (l.length : Int) = L) (hz : zs.length = l.length + 4) (x0 x1 x2 x3 : Int) : (((((l.take zs.length ++ zs.drop l.length).set L.toNat x0).set (L + 1).toNat x1).set (L + 2).toNat x2).set (L + 3).toNat x3) = l ++ [x0, x1, x2, x3] := by
  subst hL
  have hd : (zs.drop l.length).length = 4 := by rw [List.length_drop]; omega
  obtain ⟨ws, hw⟩ : ∃ ws, zs.drop l.length = ws := ⟨_, rfl⟩
  rw [hw] at hd ⊢
  rw [List.take_of_length_le (by omega)]
  obtain ⟨y0, y1, y2, y3, rfl⟩ : ∃ y0 y1 y2 y3, ws = [y0, y1, y2, y3] := by
    match ws, hd with
    | [y0, y1, y2, y3], _ => exact ⟨y0, y1, y2, y3, rfl⟩
  rw [show ((l.length : Int)).toNat = l.length + 0 from by omega, List.set_append_right _ _ (by omega), Nat.add_sub_cancel_left]
  rw [show ((l.length : Int) + 1).toNat = l.length + 1 from by omega, List.set_append_right _ _ (by omega), Nat.add_sub_cancel_left]
  rw [show ((l.length : Int) + 2).toNat = l.length + 2 from by omega, List.set_append_right _ _ (by omega), Nat.add_sub_cancel_left]
  rw [show ((l.length : Int) + 3).toNat = l.length + 3 from by omega, List.set_append_right _ _ (by omega), Nat.add_sub_cancel_left]
  rfl
def octet_put_uint32_stop (p : Prop) : Prop := p
theorem octet_put_uint32_put_stop {p : Prop} (h : octet_put_uint32_stop p) : p := h
set_option maxHeartbeats 4000000 in
set_option maxRecDepth 100000 in
theorem octet_put_uint32.any (A0 : Option Addr) (c0 : Nat) (l : List Int) (v : Int) (le : Bool) (w : World) (hr0 : Kd.C (Kd.int .u8) w A0 l.length l) (hc0 : l.length ≤ c0) (hl : l.length ≤ 140737488355316) :
    Calls Try.prog 13 #[.slice A0 l.length c0, .int .u32 v, .int .i64 4, .bool le] w fun e w' => ∃ v0_ : Value, e = .returned (v0_) ∧ Kd.R (Kd.int .u8) 5 w' w.heap.size (fun _ => True) v0_ (octet_put_uint32.out l v le) ∧ Below w.heap.size w w' := by
  have HR0 := Aside0.mk hr0
  have HC0 := Aside0.mk hc0
  have HL := Aside0.mk hl
  have hn : wrap64 ((l.length : Int) + 4) = (l.length : Int) + 4 := by unfold wrap64; omega
  have HN := Aside0.mk hn
  clear hr0 hc0 hl hn
  go_enter Try.func13, Try.ntmps13
  go_wp2_with (first
    | ((with_reducible refine gate_dst (N := 17) rfl ?_); refine Kd.R_make (Kd.int .u8) (w0 := w) w.heap.size 5 rfl (N := 17) rfl 22 _ _ rfl (wrap64 ((l.length : Int) + 4)) rfl rfl Try.underlying22 (.int .u8 0) 1 info5 rfl (by decide) (by omega) 0 (ok := fun _ => True) (okp := fun _ => False) rfl (fun _ h => h.elim) True.intro (by have := HN.out; omega) ?aL (Below.refl _ _) (Nat.le_refl _) ?_; (case aL => have := HL.out; have := HN.out; omega)
       intro v1 w1 ho hb hg hat
       obtain ⟨zs, hzs, hzl⟩ : ∃ zs, List.replicate (wrap64 ((l.length : Int) + 4)).toNat (0 : Int) = zs ∧ zs.length = l.length + 4 := ⟨_, rfl, by rw [List.length_replicate, HN.out]; omega⟩
       rw [hzs] at ho
       obtain ⟨g, cap, rfl⟩ := Go.Proofs.Ytenomaibgpbonaa.Math.R_shape ho hat
       have HO := Aside0.mk ho
       have HB := Aside0.mk hb
       have HZ := Aside0.mk hzs
       have HZL := Aside0.mk hzl
       clear ho hb hg hat hzs hzl)
    | ((with_reducible refine gate_builtin (b := .copy) (xs := #[.tmp 18, .tmp 19]) rfl ?_); refine Go.Proofs.Ytenomaibgpbonaa.Math.R_copy (w0 := w) (base := w.heap.size) 0 rfl (.tmp 18) (.tmp 19) 22 rfl Try.underlying22 (e := 5) ?sz zs l A0 l.length c0 rfl rfl HO.out (Kd.C_below HR0.out HB.out) HB.out ?_; (case sz => kernel_rfl)
       intro w2 ho hb hg
       rw [show min l.length zs.length = l.length from by rw [HZL.out]; omega]
       have HP := Aside0.mk ho
       have HB2 := Aside0.mk hb
       clear ho hb hg))
  have hb0 := HL.out
  have hzl := HZL.out
  obtain ⟨ys, hys⟩ : ∃ ys, l.take zs.length ++ zs.drop l.length = ys := ⟨_, rfl⟩
  have HY := Aside0.mk hys
  have hp := HP.out
  rw [hys, hzl] at hp
  clear HP HO HB HZ hys
  have HP0 := Aside0.mk hp
  clear hp
  obtain ⟨L, hL⟩ : ∃ L : Int, (l.length : Int) = L := ⟨_, rfl⟩
  have q0 : wrap64 (L + 0) = L := by unfold wrap64; omega
  have q1 : wrap64 (L + 1) = L + 1 := by unfold wrap64; omega
  have q2 : wrap64 (L + 2) = L + 2 := by unfold wrap64; omega
  have q3 : wrap64 (L + 3) = L + 3 := by unfold wrap64; omega
  cases le
  · refine wp_loop_rounds 5 ?_
    rw [rounds_succ]
    obtain ⟨hy, hz⟩ := Kd.R_celln (0 : Int) HP0.out L (by omega) (by omega)
    have HQ := Aside0.mk (Kd.R_putg HP0.out L (v / 16777216 % 256))
    have HC := Aside0.mk (below_set (v := .int .u8 (v / 16777216 % 256)) (j := L.toNat) HB2.out (Kd.R_base HP0.out g rfl))
    go_wp2_with ((with_reducible refine gate_store (t := 5) (p := 42) rfl ?_); refine octet_put_uint32_put_stop ?_)
    unfold octet_put_uint32_stop
    refine store_event (t := 5) (p := 42) (v := .tmp 41) (w1 := w2.setCell ⟨g, L.toNat, none⟩ (.int .u8 (v / 16777216 % 256))) rfl rfl rfl (by first | (go_simp; done) | (go_simp; rfl)) ?_
    intro w3 hw
    have hq := HQ.out.1; rw [← hw] at hq; have HP1 := Aside0.mk hq; have hc := HC.out; rw [← hw] at hc; have HB3 := Aside0.mk hc; clear hq hc hw hy hz HQ HC HP0 HB2
    go_wp2_with fail
    rw [rounds_succ]
    obtain ⟨hy, hz⟩ := Kd.R_celln (0 : Int) HP1.out (L + 1) (by omega) (by omega)
    have HQ := Aside0.mk (Kd.R_putg HP1.out (L + 1) (v / 65536 % 256))
    have HC := Aside0.mk (below_set (v := .int .u8 (v / 65536 % 256)) (j := (L + 1).toNat) HB3.out (Kd.R_base HP1.out g rfl))
    go_wp2_with ((with_reducible refine gate_store (t := 5) (p := 42) rfl ?_); refine octet_put_uint32_put_stop ?_)
    unfold octet_put_uint32_stop
    refine store_event (t := 5) (p := 42) (v := .tmp 41) (w1 := w3.setCell ⟨g, (L + 1).toNat, none⟩ (.int .u8 (v / 65536 % 256))) rfl rfl rfl (by first | (go_simp; done) | (go_simp; rfl)) ?_
    intro w4 hw
    have hq := HQ.out.1; rw [← hw] at hq; have HP2 := Aside0.mk hq; have hc := HC.out; rw [← hw] at hc; have HB4 := Aside0.mk hc; clear hq hc hw hy hz HQ HC HP1 HB3
    go_wp2_with fail
    rw [rounds_succ]
    obtain ⟨hy, hz⟩ := Kd.R_celln (0 : Int) HP2.out (L + 2) (by omega) (by omega)
    have HQ := Aside0.mk (Kd.R_putg HP2.out (L + 2) (v / 256 % 256))
    have HC := Aside0.mk (below_set (v := .int .u8 (v / 256 % 256)) (j := (L + 2).toNat) HB4.out (Kd.R_base HP2.out g rfl))
    go_wp2_with ((with_reducible refine gate_store (t := 5) (p := 42) rfl ?_); refine octet_put_uint32_put_stop ?_)
    unfold octet_put_uint32_stop
    refine store_event (t := 5) (p := 42) (v := .tmp 41) (w1 := w4.setCell ⟨g, (L + 2).toNat, none⟩ (.int .u8 (v / 256 % 256))) rfl rfl rfl (by first | (go_simp; done) | (go_simp; rfl)) ?_
    intro w5 hw
    have hq := HQ.out.1; rw [← hw] at hq; have HP3 := Aside0.mk hq; have hc := HC.out; rw [← hw] at hc; have HB5 := Aside0.mk hc; clear hq hc hw hy hz HQ HC HP2 HB4
    go_wp2_with fail
    rw [rounds_succ]
    obtain ⟨hy, hz⟩ := Kd.R_celln (0 : Int) HP3.out (L + 3) (by omega) (by omega)
    have HQ := Aside0.mk (Kd.R_putg HP3.out (L + 3) (v % 256))
    have HC := Aside0.mk (below_set (v := .int .u8 (v % 256)) (j := (L + 3).toNat) HB5.out (Kd.R_base HP3.out g rfl))
    go_wp2_with ((with_reducible refine gate_store (t := 5) (p := 42) rfl ?_); refine octet_put_uint32_put_stop ?_)
    unfold octet_put_uint32_stop
    refine store_event (t := 5) (p := 42) (v := .tmp 41) (w1 := w5.setCell ⟨g, (L + 3).toNat, none⟩ (.int .u8 (v % 256))) rfl rfl rfl (by first | (go_simp; done) | (go_simp; rfl)) ?_
    intro w6 hw
    have hq := HQ.out.1; rw [← hw] at hq; have HP4 := Aside0.mk hq; have hc := HC.out; rw [← hw] at hc; have HB6 := Aside0.mk hc; clear hq hc hw hy hz HQ HC HP3 HB5
    go_wp2_with fail
    rw [rounds_succ]
    go_wp2_with fail
    go_ret
    refine ⟨_, rfl, ?_, HB6.out⟩
    have e := HP4.out
    rw [← HY.out, octet_put_uint32.sets l zs L hL hzl, ← hzl] at e
    exact e
  · refine wp_loop_rounds 5 ?_
    rw [rounds_succ]
    obtain ⟨hy, hz⟩ := Kd.R_celln (0 : Int) HP0.out L (by omega) (by omega)
    have HQ := Aside0.mk (Kd.R_putg HP0.out L (v % 256))
    have HC := Aside0.mk (below_set (v := .int .u8 (v % 256)) (j := L.toNat) HB2.out (Kd.R_base HP0.out g rfl))
    go_wp2_with ((with_reducible refine gate_store (t := 5) (p := 42) rfl ?_); refine octet_put_uint32_put_stop ?_)
    unfold octet_put_uint32_stop
    refine store_event (t := 5) (p := 42) (v := .tmp 41) (w1 := w2.setCell ⟨g, L.toNat, none⟩ (.int .u8 (v % 256))) rfl rfl rfl (by first | (go_simp; done) | (go_simp; rfl)) ?_
    intro w3 hw
    have hq := HQ.out.1; rw [← hw] at hq; have HP1 := Aside0.mk hq; have hc := HC.out; rw [← hw] at hc; have HB3 := Aside0.mk hc; clear hq hc hw hy hz HQ HC HP0 HB2
    go_wp2_with fail
    rw [rounds_succ]
    obtain ⟨hy, hz⟩ := Kd.R_celln (0 : Int) HP1.out (L + 1) (by omega) (by omega)
    have HQ := Aside0.mk (Kd.R_putg HP1.out (L + 1) (v / 256 % 256))
    have HC := Aside0.mk (below_set (v := .int .u8 (v / 256 % 256)) (j := (L + 1).toNat) HB3.out (Kd.R_base HP1.out g rfl))
    go_wp2_with ((with_reducible refine gate_store (t := 5) (p := 42) rfl ?_); refine octet_put_uint32_put_stop ?_)
    unfold octet_put_uint32_stop
    refine store_event (t := 5) (p := 42) (v := .tmp 41) (w1 := w3.setCell ⟨g, (L + 1).toNat, none⟩ (.int .u8 (v / 256 % 256))) rfl rfl rfl (by first | (go_simp; done) | (go_simp; rfl)) ?_
    intro w4 hw
    have hq := HQ.out.1; rw [← hw] at hq; have HP2 := Aside0.mk hq; have hc := HC.out; rw [← hw] at hc; have HB4 := Aside0.mk hc; clear hq hc hw hy hz HQ HC HP1 HB3
    go_wp2_with fail
    rw [rounds_succ]
    obtain ⟨hy, hz⟩ := Kd.R_celln (0 : Int) HP2.out (L + 2) (by omega) (by omega)
    have HQ := Aside0.mk (Kd.R_putg HP2.out (L + 2) (v / 65536 % 256))
    have HC := Aside0.mk (below_set (v := .int .u8 (v / 65536 % 256)) (j := (L + 2).toNat) HB4.out (Kd.R_base HP2.out g rfl))
    go_wp2_with ((with_reducible refine gate_store (t := 5) (p := 42) rfl ?_); refine octet_put_uint32_put_stop ?_)
    unfold octet_put_uint32_stop
    refine store_event (t := 5) (p := 42) (v := .tmp 41) (w1 := w4.setCell ⟨g, (L + 2).toNat, none⟩ (.int .u8 (v / 65536 % 256))) rfl rfl rfl (by first | (go_simp; done) | (go_simp; rfl)) ?_
    intro w5 hw
    have hq := HQ.out.1; rw [← hw] at hq; have HP3 := Aside0.mk hq; have hc := HC.out; rw [← hw] at hc; have HB5 := Aside0.mk hc; clear hq hc hw hy hz HQ HC HP2 HB4
    go_wp2_with fail
    rw [rounds_succ]
    obtain ⟨hy, hz⟩ := Kd.R_celln (0 : Int) HP3.out (L + 3) (by omega) (by omega)
    have HQ := Aside0.mk (Kd.R_putg HP3.out (L + 3) (v / 16777216 % 256))
    have HC := Aside0.mk (below_set (v := .int .u8 (v / 16777216 % 256)) (j := (L + 3).toNat) HB5.out (Kd.R_base HP3.out g rfl))
    go_wp2_with ((with_reducible refine gate_store (t := 5) (p := 42) rfl ?_); refine octet_put_uint32_put_stop ?_)
    unfold octet_put_uint32_stop
    refine store_event (t := 5) (p := 42) (v := .tmp 41) (w1 := w5.setCell ⟨g, (L + 3).toNat, none⟩ (.int .u8 (v / 16777216 % 256))) rfl rfl rfl (by first | (go_simp; done) | (go_simp; rfl)) ?_
    intro w6 hw
    have hq := HQ.out.1; rw [← hw] at hq; have HP4 := Aside0.mk hq; have hc := HC.out; rw [← hw] at hc; have HB6 := Aside0.mk hc; clear hq hc hw hy hz HQ HC HP3 HB5
    go_wp2_with fail
    rw [rounds_succ]
    go_wp2_with fail
    go_ret
    refine ⟨_, rfl, ?_, HB6.out⟩
    have e := HP4.out
    rw [← HY.out, octet_put_uint32.sets l zs L hL hzl, ← hzl] at e
    exact e
theorem octet_put_uint32.calls (A0 : Option Addr) (c0 : Nat) (l0 : List Int) (a1 : Int) (a2 : Int) (a3 : Bool) (r : List Int) (w : World) (hr0 : Kd.C (Kd.int .u8) w A0 l0.length l0) (hc0 : l0.length ≤ c0) (h : octet_put_uint32.f l0 a1 a2 a3 = some r) :
    Calls Try.prog 13 #[.slice A0 l0.length c0, .int .u32 a1, .int .i64 a2, .bool a3] w fun e w' => ∃ v0_ : Value, e = .returned (v0_) ∧ Kd.R (Kd.int .u8) 5 w' w.heap.size (fun _ => True) v0_ r ∧ Below w.heap.size w w' := by
  unfold octet_put_uint32.f at h
  by_cases c : a2 = 4 ∧ l0.length ≤ 140737488355316
  · rw [if_pos c] at h
    obtain rfl := Option.some.inj h
    obtain ⟨rfl, hl⟩ := c
    exact octet_put_uint32.any A0 c0 l0 a1 a3 w hr0 hc0 hl
  · rw [if_neg c] at h
    exact absurd h (by simp)

/-! ### octet_Put32: function 6 -/
def octet_Put32.f (l0 : List Int) (a1 : Int) (a2 : Bool) : Option (List Int) := (octet_put_uint32.f l0 a1 4 a2).bind fun t110 => (some t110)
set_option maxHeartbeats 8000000 in
set_option maxRecDepth 100000 in
theorem octet_Put32.calls (A0 : Option Addr) (c0 : Nat) (l0 : List Int) (a1 : Int) (a2 : Bool) (r : List Int) (w : World) (hr0 : Kd.C (Kd.int .u8) w A0 l0.length l0) (hc0 : l0.length ≤ c0) (h : octet_Put32.f l0 a1 a2 = some r) :
    Calls Try.prog 6 #[.slice A0 l0.length c0, .int .u32 a1, .bool a2] w fun e w' => ∃ v0_ : Value, e = .returned (v0_) ∧ Kd.R (Kd.int .u8) 5 w' w.heap.size (fun _ => True) v0_ r ∧ Below w.heap.size w w' := by
  have HR0 := Aside0.mk hr0
  have HC0 := Aside0.mk hc0
  clear hr0 hc0
  have HB := Aside0.mk (Below.refl w.heap.size w)
  have H : ((octet_put_uint32.f l0 a1 4 a2).bind fun t110 => (some t110)) = some r := h
  clear h
  replace H := Option.bind_eq_some_iff.mp H
  obtain ⟨t110, A40, H⟩ := H
  replace H : (some t110) = some r := H
  have A4 := Aside0.mk A40
  clear A40
  obtain rfl := Option.some.inj H
  go_enter Try.func6, Try.ntmps6
  go_wp2_with (first | ((with_reducible refine gate_callee (f := 13) rfl ?_); refine goesL_ (some 10) rfl rfl Try.func13 (by kernel_rfl) rfl #[.slice A0 l0.length c0, .int .u32 a1, .int .i64 4, .bool a2] rfl (by (try simp only [List.map_toArray, List.map_cons, List.map_nil]); first | done | rfl | (simp only [List.length_drop, List.length_take]; rfl)) ?_; (with_reducible refine (octet_put_uint32.calls _ _ l0 a1 4 a2 t110 _ ?side1 ?side2 A4.out).mono ?_); (case side1 => repeat (first | exact HR0.out | (with_reducible refine Kd.C_alloc ?_ _) | (with_reducible refine Kd.C_drewN ?_ _) | (with_reducible refine Kd.C_drew ?_))); (case side2 => exact HC0.out); rintro e w5 ⟨v111, rfl, ho0, hb⟩; refine ⟨_, rfl, ?_⟩; have n0_ := Aside0.mk (Kd.R_lower ho0 (below_size (by repeat (first | (with_reducible first | exact HB.out | apply below_alloc | apply pw_below_drewN | apply below_drew1) | exact HB.out)))); have n1_ := Aside0.mk (below_step (by repeat (first | (with_reducible first | exact HB.out | apply below_alloc | apply pw_below_drewN | apply below_drew1) | exact HB.out)) hb); clear HB; have HO112 := n0_; have HB := n1_; clear n0_ n1_; (try clear hb); (try clear hb2); (try clear hk); (try clear hi); (try clear ho0)))
  go_ret
  exact ⟨_, by first | rfl | (simp [errW_none, errW_some] <;> rfl) | (simp [*, errW_none, errW_some] <;> rfl), by (with_reducible repeat (first | apply Kd.R_alloc | apply Kd.R_drewN | apply Kd.R_drew)); exact HO112.out, by repeat (first | (with_reducible first | exact HB.out | apply below_alloc | apply pw_below_drewN | apply below_drew1) | exact HB.out)⟩

/-! ### octet_put_uint64: function 14, by hand -/
def octet_put_uint64.out (l : List Int) (v : Int) (le : Bool) : List Int := if le = true then l ++ [v % 256, v / 256 % 256, v / 65536 % 256, v / 16777216 % 256, v / 4294967296 % 256, v / 1099511627776 % 256, v / 281474976710656 % 256, v / 72057594037927936 % 256] else l ++ [v / 72057594037927936 % 256, v / 281474976710656 % 256, v / 1099511627776 % 256, v / 4294967296 % 256, v / 16777216 % 256, v / 65536 % 256, v / 256 % 256, v % 256]
def octet_put_uint64.f (l0 : List Int) (a1 : Int) (a2 : Int) (a3 : Bool) : Option (List Int) := if a2 = 8 ∧ l0.length ≤ 140737488355312 then some (octet_put_uint64.out l0 a1 a3) else none
theorem octet_put_uint64.sets (l zs : List Int) (L : Int) (hL : (l.length : Int) = L) (hz : zs.length = l.length + 8) (x0 x1 x2 x3 x4 x5 x6 x7 : Int) : (((((((((l.take zs.length ++ zs.drop l.length).set L.toNat x0).set (L + 1).toNat x1).set (L + 2).toNat x2).set (L + 3).toNat x3).set (L + 4).toNat x4).set (L + 5).toNat x5).set (L + 6).toNat x6).set (L + 7).toNat x7) = l ++ [x0, x1, x2, x3, x4, x5, x6, x7] := by
  subst hL
  have hd : (zs.drop l.length).length = 8 := by rw [List.length_drop]; omega
  obtain ⟨ws, hw⟩ : ∃ ws, zs.drop l.length = ws := ⟨_, rfl⟩
  rw [hw] at hd ⊢
  rw [List.take_of_length_le (by omega)]
  obtain ⟨y0, y1, y2, y3, y4, y5, y6, y7, rfl⟩ : ∃ y0 y1 y2 y3 y4 y5 y6 y7, ws = [y0, y1, y2, y3, y4, y5, y6, y7] := by
    match ws, hd with
    | [y0, y1, y2, y3, y4, y5, y6, y7], _ => exact ⟨y0, y1, y2, y3, y4, y5, y6, y7, rfl⟩
  rw [show ((l.length : Int)).toNat = l.length + 0 from by omega, List.set_append_right _ _ (by omega), Nat.add_sub_cancel_left]
  rw [show ((l.length : Int) + 1).toNat = l.length + 1 from by omega, List.set_append_right _ _ (by omega), Nat.add_sub_cancel_left]
  rw [show ((l.length : Int) + 2).toNat = l.length + 2 from by omega, List.set_append_right _ _ (by omega), Nat.add_sub_cancel_left]
  rw [show ((l.length : Int) + 3).toNat = l.length + 3 from by omega, List.set_append_right _ _ (by omega), Nat.add_sub_cancel_left]
  rw [show ((l.length : Int) + 4).toNat = l.length + 4 from by omega, List.set_append_right _ _ (by omega), Nat.add_sub_cancel_left]
  rw [show ((l.length : Int) + 5).toNat = l.length + 5 from by omega, List.set_append_right _ _ (by omega), Nat.add_sub_cancel_left]
  rw [show ((l.length : Int) + 6).toNat = l.length + 6 from by omega, List.set_append_right _ _ (by omega), Nat.add_sub_cancel_left]
  rw [show ((l.length : Int) + 7).toNat = l.length + 7 from by omega, List.set_append_right _ _ (by omega), Nat.add_sub_cancel_left]
  rfl
def octet_put_uint64_stop (p : Prop) : Prop := p
theorem octet_put_uint64_put_stop {p : Prop} (h : octet_put_uint64_stop p) : p := h
set_option maxHeartbeats 4000000 in
set_option maxRecDepth 100000 in
theorem octet_put_uint64.any (A0 : Option Addr) (c0 : Nat) (l : List Int) (v : Int) (le : Bool) (w : World) (hr0 : Kd.C (Kd.int .u8) w A0 l.length l) (hc0 : l.length ≤ c0) (hl : l.length ≤ 140737488355312) :
    Calls Try.prog 14 #[.slice A0 l.length c0, .int .u64 v, .int .i64 8, .bool le] w fun e w' => ∃ v0_ : Value, e = .returned (v0_) ∧ Kd.R (Kd.int .u8) 5 w' w.heap.size (fun _ => True) v0_ (octet_put_uint64.out l v le) ∧ Below w.heap.size w w' := by
  have HR0 := Aside0.mk hr0
  have HC0 := Aside0.mk hc0
  have HL := Aside0.mk hl
  have hn : wrap64 ((l.length : Int) + 8) = (l.length : Int) + 8 := by unfold wrap64; omega
  have HN := Aside0.mk hn
  clear hr0 hc0 hl hn
  go_enter Try.func14, Try.ntmps14
  go_wp2_with (first
    | ((with_reducible refine gate_dst (N := 17) rfl ?_); refine Kd.R_make (Kd.int .u8) (w0 := w) w.heap.size 5 rfl (N := 17) rfl 22 _ _ rfl (wrap64 ((l.length : Int) + 8)) rfl rfl Try.underlying22 (.int .u8 0) 1 info5 rfl (by decide) (by omega) 0 (ok := fun _ => True) (okp := fun _ => False) rfl (fun _ h => h.elim) True.intro (by have := HN.out; omega) ?aL (Below.refl _ _) (Nat.le_refl _) ?_; (case aL => have := HL.out; have := HN.out; omega)
       intro v1 w1 ho hb hg hat
       obtain ⟨zs, hzs, hzl⟩ : ∃ zs, List.replicate (wrap64 ((l.length : Int) + 8)).toNat (0 : Int) = zs ∧ zs.length = l.length + 8 := ⟨_, rfl, by rw [List.length_replicate, HN.out]; omega⟩
       rw [hzs] at ho
       obtain ⟨g, cap, rfl⟩ := Go.Proofs.Ytenomaibgpbonaa.Math.R_shape ho hat
       have HO := Aside0.mk ho
       have HB := Aside0.mk hb
       have HZ := Aside0.mk hzs
       have HZL := Aside0.mk hzl
       clear ho hb hg hat hzs hzl)
    | ((with_reducible refine gate_builtin (b := .copy) (xs := #[.tmp 18, .tmp 19]) rfl ?_); refine Go.Proofs.Ytenomaibgpbonaa.Math.R_copy (w0 := w) (base := w.heap.size) 0 rfl (.tmp 18) (.tmp 19) 22 rfl Try.underlying22 (e := 5) ?sz zs l A0 l.length c0 rfl rfl HO.out (Kd.C_below HR0.out HB.out) HB.out ?_; (case sz => kernel_rfl)
       intro w2 ho hb hg
       rw [show min l.length zs.length = l.length from by rw [HZL.out]; omega]
       have HP := Aside0.mk ho
       have HB2 := Aside0.mk hb
       clear ho hb hg))
  have hb0 := HL.out
  have hzl := HZL.out
  obtain ⟨ys, hys⟩ : ∃ ys, l.take zs.length ++ zs.drop l.length = ys := ⟨_, rfl⟩
  have HY := Aside0.mk hys
  have hp := HP.out
  rw [hys, hzl] at hp
  clear HP HO HB HZ hys
  have HP0 := Aside0.mk hp
  clear hp
  obtain ⟨L, hL⟩ : ∃ L : Int, (l.length : Int) = L := ⟨_, rfl⟩
  have q0 : wrap64 (L + 0) = L := by unfold wrap64; omega
  have q1 : wrap64 (L + 1) = L + 1 := by unfold wrap64; omega
  have q2 : wrap64 (L + 2) = L + 2 := by unfold wrap64; omega
  have q3 : wrap64 (L + 3) = L + 3 := by unfold wrap64; omega
  have q4 : wrap64 (L + 4) = L + 4 := by unfold wrap64; omega
  have q5 : wrap64 (L + 5) = L + 5 := by unfold wrap64; omega
  have q6 : wrap64 (L + 6) = L + 6 := by unfold wrap64; omega
  have q7 : wrap64 (L + 7) = L + 7 := by unfold wrap64; omega
  cases le
  · refine wp_loop_rounds 9 ?_
    rw [rounds_succ]
    obtain ⟨hy, hz⟩ := Kd.R_celln (0 : Int) HP0.out L (by omega) (by omega)
    have HQ := Aside0.mk (Kd.R_putg HP0.out L (v / 72057594037927936 % 256))
    have HC := Aside0.mk (below_set (v := .int .u8 (v / 72057594037927936 % 256)) (j := L.toNat) HB2.out (Kd.R_base HP0.out g rfl))
    go_wp2_with ((with_reducible refine gate_store (t := 5) (p := 42) rfl ?_); refine octet_put_uint64_put_stop ?_)
    unfold octet_put_uint64_stop
    refine store_event (t := 5) (p := 42) (v := .tmp 41) (w1 := w2.setCell ⟨g, L.toNat, none⟩ (.int .u8 (v / 72057594037927936 % 256))) rfl rfl rfl (by first | (go_simp; done) | (go_simp; rfl)) ?_
    intro w3 hw
    have hq := HQ.out.1; rw [← hw] at hq; have HP1 := Aside0.mk hq; have hc := HC.out; rw [← hw] at hc; have HB3 := Aside0.mk hc; clear hq hc hw hy hz HQ HC HP0 HB2
    go_wp2_with fail
    rw [rounds_succ]
    obtain ⟨hy, hz⟩ := Kd.R_celln (0 : Int) HP1.out (L + 1) (by omega) (by omega)
    have HQ := Aside0.mk (Kd.R_putg HP1.out (L + 1) (v / 281474976710656 % 256))
    have HC := Aside0.mk (below_set (v := .int .u8 (v / 281474976710656 % 256)) (j := (L + 1).toNat) HB3.out (Kd.R_base HP1.out g rfl))
    go_wp2_with ((with_reducible refine gate_store (t := 5) (p := 42) rfl ?_); refine octet_put_uint64_put_stop ?_)
    unfold octet_put_uint64_stop
    refine store_event (t := 5) (p := 42) (v := .tmp 41) (w1 := w3.setCell ⟨g, (L + 1).toNat, none⟩ (.int .u8 (v / 281474976710656 % 256))) rfl rfl rfl (by first | (go_simp; done) | (go_simp; rfl)) ?_
    intro w4 hw
    have hq := HQ.out.1; rw [← hw] at hq; have HP2 := Aside0.mk hq; have hc := HC.out; rw [← hw] at hc; have HB4 := Aside0.mk hc; clear hq hc hw hy hz HQ HC HP1 HB3
    go_wp2_with fail
    rw [rounds_succ]
    obtain ⟨hy, hz⟩ := Kd.R_celln (0 : Int) HP2.out (L + 2) (by omega) (by omega)
    have HQ := Aside0.mk (Kd.R_putg HP2.out (L + 2) (v / 1099511627776 % 256))
    have HC := Aside0.mk (below_set (v := .int .u8 (v / 1099511627776 % 256)) (j := (L + 2).toNat) HB4.out (Kd.R_base HP2.out g rfl))
    go_wp2_with ((with_reducible refine gate_store (t := 5) (p := 42) rfl ?_); refine octet_put_uint64_put_stop ?_)
    unfold octet_put_uint64_stop
    refine store_event (t := 5) (p := 42) (v := .tmp 41) (w1 := w4.setCell ⟨g, (L + 2).toNat, none⟩ (.int .u8 (v / 1099511627776 % 256))) rfl rfl rfl (by first | (go_simp; done) | (go_simp; rfl)) ?_
    intro w5 hw
    have hq := HQ.out.1; rw [← hw] at hq; have HP3 := Aside0.mk hq; have hc := HC.out; rw [← hw] at hc; have HB5 := Aside0.mk hc; clear hq hc hw hy hz HQ HC HP2 HB4
    go_wp2_with fail
    rw [rounds_succ]
    obtain ⟨hy, hz⟩ := Kd.R_celln (0 : Int) HP3.out (L + 3) (by omega) (by omega)
    have HQ := Aside0.mk (Kd.R_putg HP3.out (L + 3) (v / 4294967296 % 256))
    have HC := Aside0.mk (below_set (v := .int .u8 (v / 4294967296 % 256)) (j := (L + 3).toNat) HB5.out (Kd.R_base HP3.out g rfl))
    go_wp2_with ((with_reducible refine gate_store (t := 5) (p := 42) rfl ?_); refine octet_put_uint64_put_stop ?_)
    unfold octet_put_uint64_stop
    refine store_event (t := 5) (p := 42) (v := .tmp 41) (w1 := w5.setCell ⟨g, (L + 3).toNat, none⟩ (.int .u8 (v / 4294967296 % 256))) rfl rfl rfl (by first | (go_simp; done) | (go_simp; rfl)) ?_
    intro w6 hw
    have hq := HQ.out.1; rw [← hw] at hq; have HP4 := Aside0.mk hq; have hc := HC.out; rw [← hw] at hc; have HB6 := Aside0.mk hc; clear hq hc hw hy hz HQ HC HP3 HB5
    go_wp2_with fail
    rw [rounds_succ]
    obtain ⟨hy, hz⟩ := Kd.R_celln (0 : Int) HP4.out (L + 4) (by omega) (by omega)
    have HQ := Aside0.mk (Kd.R_putg HP4.out (L + 4) (v / 16777216 % 256))
    have HC := Aside0.mk (below_set (v := .int .u8 (v / 16777216 % 256)) (j := (L + 4).toNat) HB6.out (Kd.R_base HP4.out g rfl))
    go_wp2_with ((with_reducible refine gate_store (t := 5) (p := 42) rfl ?_); refine octet_put_uint64_put_stop ?_)
    unfold octet_put_uint64_stop
    refine store_event (t := 5) (p := 42) (v := .tmp 41) (w1 := w6.setCell ⟨g, (L + 4).toNat, none⟩ (.int .u8 (v / 16777216 % 256))) rfl rfl rfl (by first | (go_simp; done) | (go_simp; rfl)) ?_
    intro w7 hw
    have hq := HQ.out.1; rw [← hw] at hq; have HP5 := Aside0.mk hq; have hc := HC.out; rw [← hw] at hc; have HB7 := Aside0.mk hc; clear hq hc hw hy hz HQ HC HP4 HB6
    go_wp2_with fail
    rw [rounds_succ]
    obtain ⟨hy, hz⟩ := Kd.R_celln (0 : Int) HP5.out (L + 5) (by omega) (by omega)
    have HQ := Aside0.mk (Kd.R_putg HP5.out (L + 5) (v / 65536 % 256))
    have HC := Aside0.mk (below_set (v := .int .u8 (v / 65536 % 256)) (j := (L + 5).toNat) HB7.out (Kd.R_base HP5.out g rfl))
    go_wp2_with ((with_reducible refine gate_store (t := 5) (p := 42) rfl ?_); refine octet_put_uint64_put_stop ?_)
    unfold octet_put_uint64_stop
    refine store_event (t := 5) (p := 42) (v := .tmp 41) (w1 := w7.setCell ⟨g, (L + 5).toNat, none⟩ (.int .u8 (v / 65536 % 256))) rfl rfl rfl (by first | (go_simp; done) | (go_simp; rfl)) ?_
    intro w8 hw
    have hq := HQ.out.1; rw [← hw] at hq; have HP6 := Aside0.mk hq; have hc := HC.out; rw [← hw] at hc; have HB8 := Aside0.mk hc; clear hq hc hw hy hz HQ HC HP5 HB7
    go_wp2_with fail
    rw [rounds_succ]
    obtain ⟨hy, hz⟩ := Kd.R_celln (0 : Int) HP6.out (L + 6) (by omega) (by omega)
    have HQ := Aside0.mk (Kd.R_putg HP6.out (L + 6) (v / 256 % 256))
    have HC := Aside0.mk (below_set (v := .int .u8 (v / 256 % 256)) (j := (L + 6).toNat) HB8.out (Kd.R_base HP6.out g rfl))
    go_wp2_with ((with_reducible refine gate_store (t := 5) (p := 42) rfl ?_); refine octet_put_uint64_put_stop ?_)
    unfold octet_put_uint64_stop
    refine store_event (t := 5) (p := 42) (v := .tmp 41) (w1 := w8.setCell ⟨g, (L + 6).toNat, none⟩ (.int .u8 (v / 256 % 256))) rfl rfl rfl (by first | (go_simp; done) | (go_simp; rfl)) ?_
    intro w9 hw
    have hq := HQ.out.1; rw [← hw] at hq; have HP7 := Aside0.mk hq; have hc := HC.out; rw [← hw] at hc; have HB9 := Aside0.mk hc; clear hq hc hw hy hz HQ HC HP6 HB8
    go_wp2_with fail
    rw [rounds_succ]
    obtain ⟨hy, hz⟩ := Kd.R_celln (0 : Int) HP7.out (L + 7) (by omega) (by omega)
    have HQ := Aside0.mk (Kd.R_putg HP7.out (L + 7) (v % 256))
    have HC := Aside0.mk (below_set (v := .int .u8 (v % 256)) (j := (L + 7).toNat) HB9.out (Kd.R_base HP7.out g rfl))
    go_wp2_with ((with_reducible refine gate_store (t := 5) (p := 42) rfl ?_); refine octet_put_uint64_put_stop ?_)
    unfold octet_put_uint64_stop
    refine store_event (t := 5) (p := 42) (v := .tmp 41) (w1 := w9.setCell ⟨g, (L + 7).toNat, none⟩ (.int .u8 (v % 256))) rfl rfl rfl (by first | (go_simp; done) | (go_simp; rfl)) ?_
    intro w10 hw
    have hq := HQ.out.1; rw [← hw] at hq; have HP8 := Aside0.mk hq; have hc := HC.out; rw [← hw] at hc; have HB10 := Aside0.mk hc; clear hq hc hw hy hz HQ HC HP7 HB9
    go_wp2_with fail
    rw [rounds_succ]
    go_wp2_with fail
    go_ret
    refine ⟨_, rfl, ?_, HB10.out⟩
    have e := HP8.out
    rw [← HY.out, octet_put_uint64.sets l zs L hL hzl, ← hzl] at e
    exact e
  · refine wp_loop_rounds 9 ?_
    rw [rounds_succ]
    obtain ⟨hy, hz⟩ := Kd.R_celln (0 : Int) HP0.out L (by omega) (by omega)
    have HQ := Aside0.mk (Kd.R_putg HP0.out L (v % 256))
    have HC := Aside0.mk (below_set (v := .int .u8 (v % 256)) (j := L.toNat) HB2.out (Kd.R_base HP0.out g rfl))
    go_wp2_with ((with_reducible refine gate_store (t := 5) (p := 42) rfl ?_); refine octet_put_uint64_put_stop ?_)
    unfold octet_put_uint64_stop
    refine store_event (t := 5) (p := 42) (v := .tmp 41) (w1 := w2.setCell ⟨g, L.toNat, none⟩ (.int .u8 (v % 256))) rfl rfl rfl (by first | (go_simp; done) | (go_simp; rfl)) ?_
    intro w3 hw
    have hq := HQ.out.1; rw [← hw] at hq; have HP1 := Aside0.mk hq; have hc := HC.out; rw [← hw] at hc; have HB3 := Aside0.mk hc; clear hq hc hw hy hz HQ HC HP0 HB2
    go_wp2_with fail
    rw [rounds_succ]
    obtain ⟨hy, hz⟩ := Kd.R_celln (0 : Int) HP1.out (L + 1) (by omega) (by omega)
    have HQ := Aside0.mk (Kd.R_putg HP1.out (L + 1) (v / 256 % 256))
    have HC := Aside0.mk (below_set (v := .int .u8 (v / 256 % 256)) (j := (L + 1).toNat) HB3.out (Kd.R_base HP1.out g rfl))
    go_wp2_with ((with_reducible refine gate_store (t := 5) (p := 42) rfl ?_); refine octet_put_uint64_put_stop ?_)
    unfold octet_put_uint64_stop
    refine store_event (t := 5) (p := 42) (v := .tmp 41) (w1 := w3.setCell ⟨g, (L + 1).toNat, none⟩ (.int .u8 (v / 256 % 256))) rfl rfl rfl (by first | (go_simp; done) | (go_simp; rfl)) ?_
    intro w4 hw
    have hq := HQ.out.1; rw [← hw] at hq; have HP2 := Aside0.mk hq; have hc := HC.out; rw [← hw] at hc; have HB4 := Aside0.mk hc; clear hq hc hw hy hz HQ HC HP1 HB3
    go_wp2_with fail
    rw [rounds_succ]
    obtain ⟨hy, hz⟩ := Kd.R_celln (0 : Int) HP2.out (L + 2) (by omega) (by omega)
    have HQ := Aside0.mk (Kd.R_putg HP2.out (L + 2) (v / 65536 % 256))
    have HC := Aside0.mk (below_set (v := .int .u8 (v / 65536 % 256)) (j := (L + 2).toNat) HB4.out (Kd.R_base HP2.out g rfl))
    go_wp2_with ((with_reducible refine gate_store (t := 5) (p := 42) rfl ?_); refine octet_put_uint64_put_stop ?_)
    unfold octet_put_uint64_stop
    refine store_event (t := 5) (p := 42) (v := .tmp 41) (w1 := w4.setCell ⟨g, (L + 2).toNat, none⟩ (.int .u8 (v / 65536 % 256))) rfl rfl rfl (by first | (go_simp; done) | (go_simp; rfl)) ?_
    intro w5 hw
    have hq := HQ.out.1; rw [← hw] at hq; have HP3 := Aside0.mk hq; have hc := HC.out; rw [← hw] at hc; have HB5 := Aside0.mk hc; clear hq hc hw hy hz HQ HC HP2 HB4
    go_wp2_with fail
    rw [rounds_succ]
    obtain ⟨hy, hz⟩ := Kd.R_celln (0 : Int) HP3.out (L + 3) (by omega) (by omega)
    have HQ := Aside0.mk (Kd.R_putg HP3.out (L + 3) (v / 16777216 % 256))
    have HC := Aside0.mk (below_set (v := .int .u8 (v / 16777216 % 256)) (j := (L + 3).toNat) HB5.out (Kd.R_base HP3.out g rfl))
    go_wp2_with ((with_reducible refine gate_store (t := 5) (p := 42) rfl ?_); refine octet_put_uint64_put_stop ?_)
    unfold octet_put_uint64_stop
    refine store_event (t := 5) (p := 42) (v := .tmp 41) (w1 := w5.setCell ⟨g, (L + 3).toNat, none⟩ (.int .u8 (v / 16777216 % 256))) rfl rfl rfl (by first | (go_simp; done) | (go_simp; rfl)) ?_
    intro w6 hw
    have hq := HQ.out.1; rw [← hw] at hq; have HP4 := Aside0.mk hq; have hc := HC.out; rw [← hw] at hc; have HB6 := Aside0.mk hc; clear hq hc hw hy hz HQ HC HP3 HB5
    go_wp2_with fail
    rw [rounds_succ]
    obtain ⟨hy, hz⟩ := Kd.R_celln (0 : Int) HP4.out (L + 4) (by omega) (by omega)
    have HQ := Aside0.mk (Kd.R_putg HP4.out (L + 4) (v / 4294967296 % 256))
    have HC := Aside0.mk (below_set (v := .int .u8 (v / 4294967296 % 256)) (j := (L + 4).toNat) HB6.out (Kd.R_base HP4.out g rfl))
    go_wp2_with ((with_reducible refine gate_store (t := 5) (p := 42) rfl ?_); refine octet_put_uint64_put_stop ?_)
    unfold octet_put_uint64_stop
    refine store_event (t := 5) (p := 42) (v := .tmp 41) (w1 := w6.setCell ⟨g, (L + 4).toNat, none⟩ (.int .u8 (v / 4294967296 % 256))) rfl rfl rfl (by first | (go_simp; done) | (go_simp; rfl)) ?_
    intro w7 hw
    have hq := HQ.out.1; rw [← hw] at hq; have HP5 := Aside0.mk hq; have hc := HC.out; rw [← hw] at hc; have HB7 := Aside0.mk hc; clear hq hc hw hy hz HQ HC HP4 HB6
    go_wp2_with fail
    rw [rounds_succ]
    obtain ⟨hy, hz⟩ := Kd.R_celln (0 : Int) HP5.out (L + 5) (by omega) (by omega)
    have HQ := Aside0.mk (Kd.R_putg HP5.out (L + 5) (v / 1099511627776 % 256))
    have HC := Aside0.mk (below_set (v := .int .u8 (v / 1099511627776 % 256)) (j := (L + 5).toNat) HB7.out (Kd.R_base HP5.out g rfl))
    go_wp2_with ((with_reducible refine gate_store (t := 5) (p := 42) rfl ?_); refine octet_put_uint64_put_stop ?_)
    unfold octet_put_uint64_stop
    refine store_event (t := 5) (p := 42) (v := .tmp 41) (w1 := w7.setCell ⟨g, (L + 5).toNat, none⟩ (.int .u8 (v / 1099511627776 % 256))) rfl rfl rfl (by first | (go_simp; done) | (go_simp; rfl)) ?_
    intro w8 hw
    have hq := HQ.out.1; rw [← hw] at hq; have HP6 := Aside0.mk hq; have hc := HC.out; rw [← hw] at hc; have HB8 := Aside0.mk hc; clear hq hc hw hy hz HQ HC HP5 HB7
    go_wp2_with fail
    rw [rounds_succ]
    obtain ⟨hy, hz⟩ := Kd.R_celln (0 : Int) HP6.out (L + 6) (by omega) (by omega)
    have HQ := Aside0.mk (Kd.R_putg HP6.out (L + 6) (v / 281474976710656 % 256))
    have HC := Aside0.mk (below_set (v := .int .u8 (v / 281474976710656 % 256)) (j := (L + 6).toNat) HB8.out (Kd.R_base HP6.out g rfl))
    go_wp2_with ((with_reducible refine gate_store (t := 5) (p := 42) rfl ?_); refine octet_put_uint64_put_stop ?_)
    unfold octet_put_uint64_stop
    refine store_event (t := 5) (p := 42) (v := .tmp 41) (w1 := w8.setCell ⟨g, (L + 6).toNat, none⟩ (.int .u8 (v / 281474976710656 % 256))) rfl rfl rfl (by first | (go_simp; done) | (go_simp; rfl)) ?_
    intro w9 hw
    have hq := HQ.out.1; rw [← hw] at hq; have HP7 := Aside0.mk hq; have hc := HC.out; rw [← hw] at hc; have HB9 := Aside0.mk hc; clear hq hc hw hy hz HQ HC HP6 HB8
    go_wp2_with fail
    rw [rounds_succ]
    obtain ⟨hy, hz⟩ := Kd.R_celln (0 : Int) HP7.out (L + 7) (by omega) (by omega)
    have HQ := Aside0.mk (Kd.R_putg HP7.out (L + 7) (v / 72057594037927936 % 256))
    have HC := Aside0.mk (below_set (v := .int .u8 (v / 72057594037927936 % 256)) (j := (L + 7).toNat) HB9.out (Kd.R_base HP7.out g rfl))
    go_wp2_with ((with_reducible refine gate_store (t := 5) (p := 42) rfl ?_); refine octet_put_uint64_put_stop ?_)
    unfold octet_put_uint64_stop
    refine store_event (t := 5) (p := 42) (v := .tmp 41) (w1 := w9.setCell ⟨g, (L + 7).toNat, none⟩ (.int .u8 (v / 72057594037927936 % 256))) rfl rfl rfl (by first | (go_simp; done) | (go_simp; rfl)) ?_
    intro w10 hw
    have hq := HQ.out.1; rw [← hw] at hq; have HP8 := Aside0.mk hq; have hc := HC.out; rw [← hw] at hc; have HB10 := Aside0.mk hc; clear hq hc hw hy hz HQ HC HP7 HB9
    go_wp2_with fail
    rw [rounds_succ]
    go_wp2_with fail
    go_ret
    refine ⟨_, rfl, ?_, HB10.out⟩
    have e := HP8.out
    rw [← HY.out, octet_put_uint64.sets l zs L hL hzl, ← hzl] at e
    exact e
theorem octet_put_uint64.calls (A0 : Option Addr) (c0 : Nat) (l0 : List Int) (a1 : Int) (a2 : Int) (a3 : Bool) (r : List Int) (w : World) (hr0 : Kd.C (Kd.int .u8) w A0 l0.length l0) (hc0 : l0.length ≤ c0) (h : octet_put_uint64.f l0 a1 a2 a3 = some r) :
    Calls Try.prog 14 #[.slice A0 l0.length c0, .int .u64 a1, .int .i64 a2, .bool a3] w fun e w' => ∃ v0_ : Value, e = .returned (v0_) ∧ Kd.R (Kd.int .u8) 5 w' w.heap.size (fun _ => True) v0_ r ∧ Below w.heap.size w w' := by
  unfold octet_put_uint64.f at h
  by_cases c : a2 = 8 ∧ l0.length ≤ 140737488355312
  · rw [if_pos c] at h
    obtain rfl := Option.some.inj h
    obtain ⟨rfl, hl⟩ := c
    exact octet_put_uint64.any A0 c0 l0 a1 a3 w hr0 hc0 hl
  · rw [if_neg c] at h
    exact absurd h (by simp)

/-! ### octet_Put64: function 7 -/
def octet_Put64.f (l0 : List Int) (a1 : Int) (a2 : Bool) : Option (List Int) := (octet_put_uint64.f l0 a1 8 a2).bind fun t113 => (some t113)
set_option maxHeartbeats 8000000 in
set_option maxRecDepth 100000 in
theorem octet_Put64.calls (A0 : Option Addr) (c0 : Nat) (l0 : List Int) (a1 : Int) (a2 : Bool) (r : List Int) (w : World) (hr0 : Kd.C (Kd.int .u8) w A0 l0.length l0) (hc0 : l0.length ≤ c0) (h : octet_Put64.f l0 a1 a2 = some r) :
    Calls Try.prog 7 #[.slice A0 l0.length c0, .int .u64 a1, .bool a2] w fun e w' => ∃ v0_ : Value, e = .returned (v0_) ∧ Kd.R (Kd.int .u8) 5 w' w.heap.size (fun _ => True) v0_ r ∧ Below w.heap.size w w' := by
  have HR0 := Aside0.mk hr0
  have HC0 := Aside0.mk hc0
  clear hr0 hc0
  have HB := Aside0.mk (Below.refl w.heap.size w)
  have H : ((octet_put_uint64.f l0 a1 8 a2).bind fun t113 => (some t113)) = some r := h
  clear h
  replace H := Option.bind_eq_some_iff.mp H
  obtain ⟨t113, A40, H⟩ := H
  replace H : (some t113) = some r := H
  have A4 := Aside0.mk A40
  clear A40
  obtain rfl := Option.some.inj H
  go_enter Try.func7, Try.ntmps7
  go_wp2_with (first | ((with_reducible refine gate_callee (f := 14) rfl ?_); refine goesL_ (some 10) rfl rfl Try.func14 (by kernel_rfl) rfl #[.slice A0 l0.length c0, .int .u64 a1, .int .i64 8, .bool a2] rfl (by (try simp only [List.map_toArray, List.map_cons, List.map_nil]); first | done | rfl | (simp only [List.length_drop, List.length_take]; rfl)) ?_; (with_reducible refine (octet_put_uint64.calls _ _ l0 a1 8 a2 t113 _ ?side1 ?side2 A4.out).mono ?_); (case side1 => repeat (first | exact HR0.out | (with_reducible refine Kd.C_alloc ?_ _) | (with_reducible refine Kd.C_drewN ?_ _) | (with_reducible refine Kd.C_drew ?_))); (case side2 => exact HC0.out); rintro e w5 ⟨v114, rfl, ho0, hb⟩; refine ⟨_, rfl, ?_⟩; have n0_ := Aside0.mk (Kd.R_lower ho0 (below_size (by repeat (first | (with_reducible first | exact HB.out | apply below_alloc | apply pw_below_drewN | apply below_drew1) | exact HB.out)))); have n1_ := Aside0.mk (below_step (by repeat (first | (with_reducible first | exact HB.out | apply below_alloc | apply pw_below_drewN | apply below_drew1) | exact HB.out)) hb); clear HB; have HO115 := n0_; have HB := n1_; clear n0_ n1_; (try clear hb); (try clear hb2); (try clear hk); (try clear hi); (try clear ho0)))
  go_ret
  exact ⟨_, by first | rfl | (simp [errW_none, errW_some] <;> rfl) | (simp [*, errW_none, errW_some] <;> rfl), by (with_reducible repeat (first | apply Kd.R_alloc | apply Kd.R_drewN | apply Kd.R_drew)); exact HO115.out, by repeat (first | (with_reducible first | exact HB.out | apply below_alloc | apply pw_below_drewN | apply below_drew1) | exact HB.out)⟩

/-! ### plumblaw16_same: function 8 -/
def plumblaw16_same.l0 : Nat → List Int → List Int → Int → Option (Bool)
  | 0, _, _, _ => none
  | k + 1, x0, x1, x5 => if x5 < (x0.length : Int) then (if 0 ≤ x5 then (if x5 < (x1.length : Int) then (if (rd x0 x5) = (rd x1 x5) then (plumblaw16_same.l0 k x0 x1 (wrap64 (x5 + 1))) else (some false)) else (none)) else (none)) else (some true)
def plumblaw16_same.f (k : Nat) (l0 : List Int) (l1 : List Int) : Option (Bool) := if (l0.length : Int) = (l1.length : Int) then (plumblaw16_same.l0 k l0 l1 0) else (some false)
theorem plumblaw16_same.mono_l : ∀ k, (∀ y0 y1 y2, LeO (plumblaw16_same.l0 k y0 y1 y2) (plumblaw16_same.l0 (k + 1) y0 y1 y2))
  | 0 => fun _ _ _ r h => by simp [plumblaw16_same.l0] at h
  | k + 1 => by
    have ih0 := plumblaw16_same.mono_l k
    · intro y0 y1 y2
      unfold plumblaw16_same.l0
      repeat' first
      | (with_reducible exact ih0 _ _ _)
      | (with_reducible exact LeO.refl _)
      | (with_reducible exact LeO.none _)
      | (with_reducible refine LeO.ite ?_ ?_)
      | (with_reducible refine LeO.bind ?_ (fun _ => ?_))
      | exact ih0 _ _ _
      | exact LeO.none _
      | refine LeO.ite ?_ ?_
      | refine LeO.bind ?_ (fun _ => ?_)
theorem plumblaw16_same.mono : ∀ a0 a1 k, LeO (plumblaw16_same.f k a0 a1) (plumblaw16_same.f (k + 1) a0 a1) := by
  intro a0 a1 k
  have ih0 := plumblaw16_same.mono_l k
  unfold plumblaw16_same.f
  repeat' first
      | (with_reducible exact ih0 _ _ _)
      | (with_reducible exact LeO.refl _)
      | (with_reducible exact LeO.none _)
      | (with_reducible refine LeO.ite ?_ ?_)
      | (with_reducible refine LeO.bind ?_ (fun _ => ?_))
      | exact ih0 _ _ _
      | exact LeO.none _
      | refine LeO.ite ?_ ?_
      | refine LeO.bind ?_ (fun _ => ?_)
set_option maxHeartbeats 8000000 in
set_option maxRecDepth 100000 in
theorem plumblaw16_same.calls (k : Nat) (A0 : Option Addr) (c0 : Nat) (l0 : List Int) (A1 : Option Addr) (c1 : Nat) (l1 : List Int) (r : Bool) (w : World) (hr0 : Kd.C (Kd.int .u8) w A0 l0.length l0) (hc0 : l0.length ≤ c0) (hr1 : Kd.C (Kd.int .u8) w A1 l1.length l1) (hc1 : l1.length ≤ c1) (h : plumblaw16_same.f k l0 l1 = some r) :
    Calls Try.prog 8 #[.slice A0 l0.length c0, .slice A1 l1.length c1] w fun e w' => e = .returned (.bool r) ∧ Drawn0 w w' := by
  have HR0 := Aside0.mk hr0
  have HC0 := Aside0.mk hc0
  clear hr0 hc0
  have HR1 := Aside0.mk hr1
  have HC1 := Aside0.mk hc1
  clear hr1 hc1
  have H : (if (l0.length : Int) = (l1.length : Int) then (plumblaw16_same.l0 k l0 l1 0) else (some false)) = some r := h
  clear h
  by_cases c3 : (l0.length : Int) = (l1.length : Int)
  · rw [if_pos c3] at H
    have c3b0 : ((l0.length : Int) == (l1.length : Int)) = true := beq_iff_eq.mpr c3
    have c3b1 : ((l0.length : Int) != (l1.length : Int)) = false := bne_eq_false_iff_eq.mpr c3
    have c3b2 : (l0.length == l1.length) = true := by first | simpa using c3 | (simp at c3 ⊢; omega)
    clear c3
    have H' := Aside0.mk H
    clear H
    go_enter Try.func8, Try.ntmps8
    go_wp2
    repeat (go_quiet (fail); try go_wp2)
    go_loopg [5] k (fun kq v5 w' => ∃ (x5_1 : Int), v5 = .int .i64 x5_1 ∧ Aside0 (plumblaw16_same.l0 kq l0 l1 x5_1 = some r) ∧ Aside0 (kq ≤ k) ∧ Drawn0 w w')
    case atStart => exact ⟨(0), (by first | rfl | (simp; done) | (simp [*]; done)), H', ⟨Nat.le_refl _⟩, by repeat (first | exact Drawn0.refl _ | apply Drawn0.step)⟩
    case round =>
      clear H'
      try clear c1
      try clear p2
      try clear c3
      try clear c3b0
      try clear c3b1
      try clear c3b2
      obtain ⟨x5_1, rfl, HA, HK1, ⟨m1, rfl⟩⟩ := hrel
      cases gk with
      | zero => exact absurd HA.out (by simp [plumblaw16_same.l0])
      | succ k1 =>
        have H := HA.out
        clear HA
        simp only [plumblaw16_same.l0] at H
        by_cases c4 : x5_1 < (l0.length : Int)
        · rw [if_pos c4] at H
          have c4b0 : decide (x5_1 < (l0.length : Int)) = true := decide_eq_true c4
          clear c4
          by_cases c5 : 0 ≤ x5_1
          · rw [if_pos c5] at H
            have c5b0 : decide (0 ≤ x5_1) = true := decide_eq_true c5
            clear c5
            by_cases c6 : x5_1 < (l1.length : Int)
            · rw [if_pos c6] at H
              have c6b0 : decide (x5_1 < (l1.length : Int)) = true := decide_eq_true c6
              clear c6
              by_cases c7 : (rd l0 x5_1) = (rd l1 x5_1)
              · rw [if_pos c7] at H
                have c7b0 : ((rd l0 x5_1) == (rd l1 x5_1)) = true := beq_iff_eq.mpr c7
                have c7b1 : ((rd l0 x5_1) != (rd l1 x5_1)) = false := bne_eq_false_iff_eq.mpr c7
                clear c7
                have H' := Aside0.mk H
                clear H
                have p116 : 0 ≤ (x5_1 : Int) := of_decide_eq_true (by first | (with_reducible assumption) | assumption)
                have q116 : x5_1 < (l0.length : Int) := of_decide_eq_true (by first | (with_reducible assumption) | assumption)
                obtain ⟨ad116, e116, hx116_0⟩ := Kd.at_int HR0.out x5_1 p116 q116
                cases e116
                replace p116 := eq_true p116
                replace q116 := eq_true q116
                have p117 : 0 ≤ (x5_1 : Int) := of_decide_eq_true (by first | (with_reducible assumption) | assumption)
                have q117 : x5_1 < (l1.length : Int) := of_decide_eq_true (by first | (with_reducible assumption) | assumption)
                obtain ⟨ad117, e117, hx117_0⟩ := Kd.at_int HR1.out x5_1 p117 q117
                cases e117
                replace p117 := eq_true p117
                replace q117 := eq_true q117
                go_wp2
                repeat (go_quiet (fail); try go_wp2)
                go_roundg k1
                case measure => have := HK1.out; omega
                case rel => exact ⟨(wrap64 (x5_1 + 1)), (by first | rfl | (simp; done) | (simp [*]; done)), H', ⟨by have := HK1.out; omega⟩, by repeat (first | exact Drawn0.refl _ | apply Drawn0.step)⟩
              · rw [if_neg c7] at H
                have c7b0 : ((rd l0 x5_1) == (rd l1 x5_1)) = false := beq_eq_false_iff_ne.mpr c7
                have c7b1 : ((rd l0 x5_1) != (rd l1 x5_1)) = true := bne_iff_ne.mpr c7
                obtain rfl := Option.some.inj H
                have p116 : 0 ≤ (x5_1 : Int) := of_decide_eq_true (by first | (with_reducible assumption) | assumption)
                have q116 : x5_1 < (l0.length : Int) := of_decide_eq_true (by first | (with_reducible assumption) | assumption)
                obtain ⟨ad116, e116, hx116_0⟩ := Kd.at_int HR0.out x5_1 p116 q116
                cases e116
                replace p116 := eq_true p116
                replace q116 := eq_true q116
                have p117 : 0 ≤ (x5_1 : Int) := of_decide_eq_true (by first | (with_reducible assumption) | assumption)
                have q117 : x5_1 < (l1.length : Int) := of_decide_eq_true (by first | (with_reducible assumption) | assumption)
                obtain ⟨ad117, e117, hx117_0⟩ := Kd.at_int HR1.out x5_1 p117 q117
                cases e117
                replace p117 := eq_true p117
                replace q117 := eq_true q117
                go_wp2
                repeat (go_quiet (fail); try go_wp2)
                go_ret
                exact ⟨by first | rfl | (simp; done) | (simp [*]; done), by repeat (first | exact Drawn0.refl _ | apply Drawn0.step)⟩
            · rw [if_neg c6] at H
              exact absurd H (by simp)
          · rw [if_neg c5] at H
            exact absurd H (by simp)
        · rw [if_neg c4] at H
          have c4b0 : decide (x5_1 < (l0.length : Int)) = false := decide_eq_false c4
          clear c4
          obtain rfl := Option.some.inj H
          go_wp2
          repeat (go_quiet (fail); try go_wp2)
          go_ret
          exact ⟨by first | rfl | (simp; done) | (simp [*]; done), by repeat (first | exact Drawn0.refl _ | apply Drawn0.step)⟩
  · rw [if_neg c3] at H
    have c3b0 : ((l0.length : Int) == (l1.length : Int)) = false := beq_eq_false_iff_ne.mpr c3
    have c3b1 : ((l0.length : Int) != (l1.length : Int)) = true := bne_iff_ne.mpr c3
    have c3b2 : (l0.length == l1.length) = false := by first | simpa using c3 | (simp at c3 ⊢; omega)
    obtain rfl := Option.some.inj H
    go_enter Try.func8, Try.ntmps8
    go_wp2
    repeat (go_quiet (fail); try go_wp2)
    go_ret
    exact ⟨by first | rfl | (simp; done) | (simp [*]; done), by repeat (first | exact Drawn0.refl _ | apply Drawn0.step)⟩

/-! ### plumblaw16_kept: function 10 -/
def plumblaw16_kept.f (k : Nat) (l0 : List Int) (l1 : List Int) : Option (Bool) := if (l0.length : Int) = (wrap64 ((l1.length : Int) + 2)) then (if 0 ≤ (l1.length : Int) then (if (l1.length : Int) ≤ (l0.length : Int) then ((plumblaw16_same.f k (l0.take ((l1.length : Int) : Int).toNat) l1).bind fun t119 => (if t119 = true then (if (l1.length : Int) < (l0.length : Int) then (if (rd l0 (l1.length : Int)) = 77 then (if 0 ≤ (wrap64 ((l1.length : Int) + 1)) then (if (wrap64 ((l1.length : Int) + 1)) < (l0.length : Int) then (some ((rd l0 (wrap64 ((l1.length : Int) + 1))) == 88)) else (none)) else (none)) else (some false)) else (none)) else (some false))) else (none)) else (none)) else (some false)
theorem plumblaw16_kept.mono : ∀ a0 a1 k, LeO (plumblaw16_kept.f k a0 a1) (plumblaw16_kept.f (k + 1) a0 a1) := by
  intro a0 a1 k
  unfold plumblaw16_kept.f
  repeat' first
      | (with_reducible exact plumblaw16_same.mono _ _ _)
      | (with_reducible exact LeO.refl _)
      | (with_reducible exact LeO.none _)
      | (with_reducible refine LeO.ite ?_ ?_)
      | (with_reducible refine LeO.bind ?_ (fun _ => ?_))
      | exact plumblaw16_same.mono _ _ _
      | exact LeO.none _
      | refine LeO.ite ?_ ?_
      | refine LeO.bind ?_ (fun _ => ?_)
set_option maxHeartbeats 8000000 in
set_option maxRecDepth 100000 in
theorem plumblaw16_kept.calls (k : Nat) (A0 : Option Addr) (c0 : Nat) (l0 : List Int) (A1 : Option Addr) (c1 : Nat) (l1 : List Int) (r : Bool) (w : World) (hr0 : Kd.C (Kd.int .u8) w A0 l0.length l0) (hc0 : l0.length ≤ c0) (hr1 : Kd.C (Kd.int .u8) w A1 l1.length l1) (hc1 : l1.length ≤ c1) (h : plumblaw16_kept.f k l0 l1 = some r) :
    Calls Try.prog 10 #[.slice A0 l0.length c0, .slice A1 l1.length c1] w fun e w' => e = .returned (.bool r) ∧ Drawn0 w w' := by
  have HR0 := Aside0.mk hr0
  have HC0 := Aside0.mk hc0
  clear hr0 hc0
  have HR1 := Aside0.mk hr1
  have HC1 := Aside0.mk hc1
  clear hr1 hc1
  have H : (if (l0.length : Int) = (wrap64 ((l1.length : Int) + 2)) then (if 0 ≤ (l1.length : Int) then (if (l1.length : Int) ≤ (l0.length : Int) then ((plumblaw16_same.f k (l0.take ((l1.length : Int) : Int).toNat) l1).bind fun t119 => (if t119 = true then (if (l1.length : Int) < (l0.length : Int) then (if (rd l0 (l1.length : Int)) = 77 then (if 0 ≤ (wrap64 ((l1.length : Int) + 1)) then (if (wrap64 ((l1.length : Int) + 1)) < (l0.length : Int) then (some ((rd l0 (wrap64 ((l1.length : Int) + 1))) == 88)) else (none)) else (none)) else (some false)) else (none)) else (some false))) else (none)) else (none)) else (some false)) = some r := h
  clear h
  by_cases c3 : (l0.length : Int) = (wrap64 ((l1.length : Int) + 2))
  · rw [if_pos c3] at H
    have c3b0 : ((l0.length : Int) == (wrap64 ((l1.length : Int) + 2))) = true := beq_iff_eq.mpr c3
    have c3b1 : ((l0.length : Int) != (wrap64 ((l1.length : Int) + 2))) = false := bne_eq_false_iff_eq.mpr c3
    clear c3
    by_cases c4 : 0 ≤ (l1.length : Int)
    · rw [if_pos c4] at H
      have c4b0 := eq_true c4
      have c4b1 : decide (0 ≤ (l1.length : Int)) = true := decide_eq_true c4
      clear c4
      by_cases c5 : (l1.length : Int) ≤ (l0.length : Int)
      · rw [if_pos c5] at H
        have c5b0 := eq_true c5
        have c5b1 : decide ((l1.length : Int) ≤ (l0.length : Int)) = true := decide_eq_true c5
        clear c5
        replace H := Option.bind_eq_some_iff.mp H
        obtain ⟨t119, A60, H⟩ := H
        replace H : (if t119 = true then (if (l1.length : Int) < (l0.length : Int) then (if (rd l0 (l1.length : Int)) = 77 then (if 0 ≤ (wrap64 ((l1.length : Int) + 1)) then (if (wrap64 ((l1.length : Int) + 1)) < (l0.length : Int) then (some ((rd l0 (wrap64 ((l1.length : Int) + 1))) == 88)) else (none)) else (none)) else (some false)) else (none)) else (some false)) = some r := H
        have A6 := Aside0.mk A60
        clear A60
        by_cases c7 : t119 = true
        · subst c7
          have H1 : (if (l1.length : Int) < (l0.length : Int) then (if (rd l0 (l1.length : Int)) = 77 then (if 0 ≤ (wrap64 ((l1.length : Int) + 1)) then (if (wrap64 ((l1.length : Int) + 1)) < (l0.length : Int) then (some ((rd l0 (wrap64 ((l1.length : Int) + 1))) == 88)) else (none)) else (none)) else (some false)) else (none)) = some r := by rw [if_pos rfl] at H; exact H
          clear H
          have H := H1
          clear H1
          by_cases c8 : (l1.length : Int) < (l0.length : Int)
          · rw [if_pos c8] at H
            have c8b0 : decide ((l1.length : Int) < (l0.length : Int)) = true := decide_eq_true c8
            have c8b1 : decide (l1.length < l0.length) = true := decide_eq_true (Int.ofNat_lt.mp c8)
            clear c8
            by_cases c9 : (rd l0 (l1.length : Int)) = 77
            · rw [if_pos c9] at H
              have c9b0 : ((rd l0 (l1.length : Int)) == 77) = true := beq_iff_eq.mpr c9
              have c9b1 : ((rd l0 (l1.length : Int)) != 77) = false := bne_eq_false_iff_eq.mpr c9
              clear c9
              obtain ⟨ji10, hji10⟩ : ∃ j_ : Int, (wrap64 ((l1.length : Int) + 1)) = j_ := ⟨_, rfl⟩
              replace H : (if 0 ≤ (ji10) then (if (ji10) < (l0.length : Int) then (some ((rd l0 (ji10)) == 88)) else (none)) else (none)) = some r := by first | (rw [hji10] at H; exact H) | (simp only [hji10] at H ⊢; exact H)
              (try rw [hji10] at A6)
              have hji10w : (IntKind.i64.wrap ((l1.length : Int) + 1)) = ji10 := (i64_w _).trans hji10
              by_cases c11 : 0 ≤ (ji10)
              · rw [if_pos c11] at H
                have c11b0 : decide (0 ≤ (ji10)) = true := decide_eq_true c11
                clear c11
                by_cases c12 : (ji10) < (l0.length : Int)
                · rw [if_pos c12] at H
                  have c12b0 : decide ((ji10) < (l0.length : Int)) = true := decide_eq_true c12
                  clear c12
                  obtain rfl := Option.some.inj H
                  obtain ⟨i013, hi013, _, hsz13, _⟩ := info_parts info5
                  obtain ⟨hcut13, hA13, hC13⟩ := print_take_of (P := Try.prog) (Value.int .u8) 0 22 5 .i64 Try.underlying22 hi013 hsz13 A0 c0 l0 (l1.length : Int) (of_decide_eq_true (by first | (with_reducible assumption) | assumption)) (of_decide_eq_true (by first | (with_reducible assumption) | assumption)) HC0.out
                  have HR118 := Aside0.mk (Kd.C_of_reads (h1 := fun _ => rfl) (hA13 _ (Kd.reads_of_C HR0.out)))
                  have HC118 := Aside0.mk hC13
                  clear hA13 hC13 hi013 hsz13
                  go_enter Try.func10, Try.ntmps10
                  go_wp2_with (first | (go_at_call 8; (try rw [show min l1.length l0.length = (l0.take ((l1.length : Int) : Int).toNat).length from by rw [List.length_take, Int.toNat_natCast]]); (with_reducible refine (plumblaw16_same.calls k _ _ (l0.take ((l1.length : Int) : Int).toNat) _ _ l1 true _ ?side1 ?side2 ?side3 ?side4 A6.out).mono ?_); (case side1 => repeat (first | exact HR118.out | (with_reducible refine Kd.C_alloc ?_ _) | (with_reducible refine Kd.C_drewN ?_ _) | (with_reducible refine Kd.C_drew ?_))); (case side2 => exact HC118.out); (case side3 => repeat (first | exact HR1.out | (with_reducible refine Kd.C_alloc ?_ _) | (with_reducible refine Kd.C_drewN ?_ _) | (with_reducible refine Kd.C_drew ?_))); (case side4 => exact HC1.out); rintro e w' ⟨rfl, ⟨nd, rfl⟩⟩; have p120 : 0 ≤ ((l1.length : Int) : Int) := of_decide_eq_true (by first | (with_reducible assumption) | assumption); have q120 : (l1.length : Int) < (l0.length : Int) := of_decide_eq_true (by first | (with_reducible assumption) | assumption); obtain ⟨ad120, e120, hx120_0⟩ := Kd.at_int HR0.out (l1.length : Int) p120 q120; cases e120; (try simp only [Go.IntWalk.toNatUp] at hx120_0); replace p120 := eq_true p120; replace q120 := eq_true q120; have p121 : 0 ≤ ((ji10) : Int) := of_decide_eq_true (by first | (with_reducible assumption) | assumption); have q121 : (ji10) < (l0.length : Int) := of_decide_eq_true (by first | (with_reducible assumption) | assumption); obtain ⟨ad121, e121, hx121_0⟩ := Kd.at_int HR0.out (ji10) p121 q121; obtain rfl : ad120 = ad121 := (by injection e121); replace p121 := eq_true p121; replace q121 := eq_true q121))
                  go_ret
                  exact ⟨by first | rfl | (simp; done) | (simp only [← hji10] <;> (first | rfl | simp)) | (simp [*]; done), by repeat (first | exact Drawn0.refl _ | apply Drawn0.step)⟩
                · rw [if_neg c12] at H
                  exact absurd H (by simp)
              · rw [if_neg c11] at H
                exact absurd H (by simp)
            · rw [if_neg c9] at H
              have c9b0 : ((rd l0 (l1.length : Int)) == 77) = false := beq_eq_false_iff_ne.mpr c9
              have c9b1 : ((rd l0 (l1.length : Int)) != 77) = true := bne_iff_ne.mpr c9
              obtain rfl := Option.some.inj H
              obtain ⟨i014, hi014, _, hsz14, _⟩ := info_parts info5
              obtain ⟨hcut14, hA14, hC14⟩ := print_take_of (P := Try.prog) (Value.int .u8) 0 22 5 .i64 Try.underlying22 hi014 hsz14 A0 c0 l0 (l1.length : Int) (of_decide_eq_true (by first | (with_reducible assumption) | assumption)) (of_decide_eq_true (by first | (with_reducible assumption) | assumption)) HC0.out
              have HR118 := Aside0.mk (Kd.C_of_reads (h1 := fun _ => rfl) (hA14 _ (Kd.reads_of_C HR0.out)))
              have HC118 := Aside0.mk hC14
              clear hA14 hC14 hi014 hsz14
              go_enter Try.func10, Try.ntmps10
              go_wp2_with (first | (go_at_call 8; (try rw [show min l1.length l0.length = (l0.take ((l1.length : Int) : Int).toNat).length from by rw [List.length_take, Int.toNat_natCast]]); (with_reducible refine (plumblaw16_same.calls k _ _ (l0.take ((l1.length : Int) : Int).toNat) _ _ l1 true _ ?side1 ?side2 ?side3 ?side4 A6.out).mono ?_); (case side1 => repeat (first | exact HR118.out | (with_reducible refine Kd.C_alloc ?_ _) | (with_reducible refine Kd.C_drewN ?_ _) | (with_reducible refine Kd.C_drew ?_))); (case side2 => exact HC118.out); (case side3 => repeat (first | exact HR1.out | (with_reducible refine Kd.C_alloc ?_ _) | (with_reducible refine Kd.C_drewN ?_ _) | (with_reducible refine Kd.C_drew ?_))); (case side4 => exact HC1.out); rintro e w' ⟨rfl, ⟨nd, rfl⟩⟩; have p120 : 0 ≤ ((l1.length : Int) : Int) := of_decide_eq_true (by first | (with_reducible assumption) | assumption); have q120 : (l1.length : Int) < (l0.length : Int) := of_decide_eq_true (by first | (with_reducible assumption) | assumption); obtain ⟨ad120, e120, hx120_0⟩ := Kd.at_int HR0.out (l1.length : Int) p120 q120; cases e120; (try simp only [Go.IntWalk.toNatUp] at hx120_0); replace p120 := eq_true p120; replace q120 := eq_true q120))
              go_ret
              exact ⟨by first | rfl | (simp; done) | (simp [*]; done), by repeat (first | exact Drawn0.refl _ | apply Drawn0.step)⟩
          · rw [if_neg c8] at H
            exact absurd H (by simp)
        · replace c7 := Bool.eq_false_iff.mpr c7
          subst c7
          have H1 : (some false) = some r := by rw [if_neg (show ¬ (false = true) by decide)] at H; exact H
          clear H
          have H := H1
          clear H1
          obtain rfl := Option.some.inj H
          obtain ⟨i015, hi015, _, hsz15, _⟩ := info_parts info5
          obtain ⟨hcut15, hA15, hC15⟩ := print_take_of (P := Try.prog) (Value.int .u8) 0 22 5 .i64 Try.underlying22 hi015 hsz15 A0 c0 l0 (l1.length : Int) (of_decide_eq_true (by first | (with_reducible assumption) | assumption)) (of_decide_eq_true (by first | (with_reducible assumption) | assumption)) HC0.out
          have HR118 := Aside0.mk (Kd.C_of_reads (h1 := fun _ => rfl) (hA15 _ (Kd.reads_of_C HR0.out)))
          have HC118 := Aside0.mk hC15
          clear hA15 hC15 hi015 hsz15
          go_enter Try.func10, Try.ntmps10
          go_wp2_with (first | (go_at_call 8; (try rw [show min l1.length l0.length = (l0.take ((l1.length : Int) : Int).toNat).length from by rw [List.length_take, Int.toNat_natCast]]); (with_reducible refine (plumblaw16_same.calls k _ _ (l0.take ((l1.length : Int) : Int).toNat) _ _ l1 false _ ?side1 ?side2 ?side3 ?side4 A6.out).mono ?_); (case side1 => repeat (first | exact HR118.out | (with_reducible refine Kd.C_alloc ?_ _) | (with_reducible refine Kd.C_drewN ?_ _) | (with_reducible refine Kd.C_drew ?_))); (case side2 => exact HC118.out); (case side3 => repeat (first | exact HR1.out | (with_reducible refine Kd.C_alloc ?_ _) | (with_reducible refine Kd.C_drewN ?_ _) | (with_reducible refine Kd.C_drew ?_))); (case side4 => exact HC1.out); rintro e w' ⟨rfl, ⟨nd, rfl⟩⟩))
          go_ret
          exact ⟨by first | rfl | (simp; done) | (simp [*]; done), by repeat (first | exact Drawn0.refl _ | apply Drawn0.step)⟩
      · rw [if_neg c5] at H
        exact absurd H (by simp)
    · rw [if_neg c4] at H
      exact absurd H (by simp)
  · rw [if_neg c3] at H
    have c3b0 : ((l0.length : Int) == (wrap64 ((l1.length : Int) + 2))) = false := beq_eq_false_iff_ne.mpr c3
    have c3b1 : ((l0.length : Int) != (wrap64 ((l1.length : Int) + 2))) = true := bne_iff_ne.mpr c3
    obtain rfl := Option.some.inj H
    go_enter Try.func10, Try.ntmps10
    go_wp2
    go_ret
    exact ⟨by first | rfl | (simp; done) | (simp [*]; done), by repeat (first | exact Drawn0.refl _ | apply Drawn0.step)⟩

end Go.Proofs.Ytenomaibgpbonaa.POctetFresh
