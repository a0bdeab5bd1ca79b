/- Go functions as Lean functions and their contracts: each call comes to what the Lean function says; or a law's row out of them. No conditions. Written by this session's wip/hprint.py (the kit's print with contracts and repairs of my own). -/
import Derived.Test.YtenomaibgpbonaaDoorPOctetBackx0
import Derived.Test.YtenomaibgpbonaaDoorPOctetBackx1
namespace Go.Proofs.YtenomaibgpbonaaDoor.POctetBack
open Go.RowKit Go.Proofs.YtenomaibgpbonaaDoorW.PrintWords Go.Proofs.YtenomaibgpbonaaDoorW.PrintLast Go.Proofs.YtenomaibgpbonaaDoorW.PrintMore
attribute [local go_sem] max2_int min2_int max_two min_two max_three min_three max_four min_four   -- for this text's walks alone
set_option linter.unusedVariables false
set_option linter.unusedSimpArgs false

/-! ### octet_put_uint64: function 41, by hand -/
def octet_put_uint64.out (l : List Int) (v : Int) (le : Bool) : List Int := if le = true then l ++ [v % 256, v / 256 % 256, v / 65536 % 256, v / 16777216 % 256, v / 4294967296 % 256, v / 1099511627776 % 256, v / 281474976710656 % 256, v / 72057594037927936 % 256] else l ++ [v / 72057594037927936 % 256, v / 281474976710656 % 256, v / 1099511627776 % 256, v / 4294967296 % 256, v / 16777216 % 256, v / 65536 % 256, v / 256 % 256, v % 256]
def octet_put_uint64.f (l0 : List Int) (a1 : Int) (a2 : Int) (a3 : Bool) : Option (List Int) := if a2 = 8 ∧ l0.length ≤ 140737488355312 then some (octet_put_uint64.out l0 a1 a3) else none
theorem octet_put_uint64.sets (l zs : List Int) (L : Int) (hL : (l.length : Int) = L) (hz : zs.length = l.length + 8) (x0 x1 x2 x3 x4 x5 x6 x7 : Int) : (((((((((l.take zs.length ++ zs.drop l.length).set L.toNat x0).set (L + 1).toNat x1).set (L + 2).toNat x2).set (L + 3).toNat x3).set (L + 4).toNat x4).set (L + 5).toNat x5).set (L + 6).toNat x6).set (L + 7).toNat x7) = l ++ [x0, x1, x2, x3, x4, x5, x6, x7] := by
  subst hL
  have hd : (zs.drop l.length).length = 8 := by rw [List.length_drop]; omega
  obtain ⟨ws, hw⟩ : ∃ ws, zs.drop l.length = ws := ⟨_, rfl⟩
  rw [hw] at hd ⊢
  rw [List.take_of_length_le (by omega)]
  obtain ⟨y0, y1, y2, y3, y4, y5, y6, y7, rfl⟩ : ∃ y0 y1 y2 y3 y4 y5 y6 y7, ws = [y0, y1, y2, y3, y4, y5, y6, y7] := by
    match ws, hd with
    | [y0, y1, y2, y3, y4, y5, y6, y7], _ => exact ⟨y0, y1, y2, y3, y4, y5, y6, y7, rfl⟩
  rw [show ((l.length : Int)).toNat = l.length + 0 from by omega, List.set_append_right _ _ (by omega), Nat.add_sub_cancel_left]
  rw [show ((l.length : Int) + 1).toNat = l.length + 1 from by omega, List.set_append_right _ _ (by omega), Nat.add_sub_cancel_left]
  rw [show ((l.length : Int) + 2).toNat = l.length + 2 from by omega, List.set_append_right _ _ (by omega), Nat.add_sub_cancel_left]
  rw [show ((l.length : Int) + 3).toNat = l.length + 3 from by omega, List.set_append_right _ _ (by omega), Nat.add_sub_cancel_left]
  rw [show ((l.length : Int) + 4).toNat = l.length + 4 from by omega, List.set_append_right _ _ (by omega), Nat.add_sub_cancel_left]
  rw [show ((l.length : Int) + 5).toNat = l.length + 5 from by omega, List.set_append_right _ _ (by omega), Nat.add_sub_cancel_left]
  rw [show ((l.length : Int) + 6).toNat = l.length + 6 from by omega, List.set_append_right _ _ (by omega), Nat.add_sub_cancel_left]
  rw [show ((l.length : Int) + 7).toNat = l.length + 7 from by omega, List.set_append_right _ _ (by omega), Nat.add_sub_cancel_left]
  rfl
def octet_put_uint64_stop (p : Prop) : Prop := p
theorem octet_put_uint64_put_stop {p : Prop} (h : octet_put_uint64_stop p) : p := h
set_option maxHeartbeats 4000000 in
set_option maxRecDepth 100000 in
theorem octet_put_uint64.any (A0 : Option Addr) (c0 : Nat) (l : List Int) (v : Int) (le : Bool) (w : World) (hr0 : Kd.C (Kd.int .u8) w A0 l.length l) (hc0 : l.length ≤ c0) (hl : l.length ≤ 140737488355312) :
    Calls Tryd.prog 41 #[.slice A0 l.length c0, .int .u64 v, .int .i64 8, .bool le] w fun e w' => ∃ v0_ : Value, e = .returned (v0_) ∧ Kd.R (Kd.int .u8) 5 w' w.heap.size (fun _ => True) v0_ (octet_put_uint64.out l v le) ∧ Below w.heap.size w w' := by
  have HR0 := Aside0.mk hr0
  have HC0 := Aside0.mk hc0
  have HL := Aside0.mk hl
  have hn : wrap64 ((l.length : Int) + 8) = (l.length : Int) + 8 := by unfold wrap64; omega
  have HN := Aside0.mk hn
  clear hr0 hc0 hl hn
  go_enter Tryd.func41, Tryd.ntmps41
  go_wp2_with (first
    | ((with_reducible refine gate_dst (N := 17) rfl ?_); refine Kd.R_make (Kd.int .u8) (w0 := w) w.heap.size 5 rfl (N := 17) rfl 22 _ _ rfl (wrap64 ((l.length : Int) + 8)) rfl rfl Tryd.underlying22 (.int .u8 0) 1 info5 rfl (by decide) (by omega) 0 (ok := fun _ => True) (okp := fun _ => False) rfl (fun _ h => h.elim) True.intro (by have := HN.out; omega) ?aL (Below.refl _ _) (Nat.le_refl _) ?_; (case aL => have := HL.out; have := HN.out; omega)
       intro v1 w1 ho hb hg hat
       obtain ⟨zs, hzs, hzl⟩ : ∃ zs, List.replicate (wrap64 ((l.length : Int) + 8)).toNat (0 : Int) = zs ∧ zs.length = l.length + 8 := ⟨_, rfl, by rw [List.length_replicate, HN.out]; omega⟩
       rw [hzs] at ho
       obtain ⟨g, cap, rfl⟩ := Go.Proofs.YtenomaibgpbonaaDoor.Math.R_shape ho hat
       have HO := Aside0.mk ho
       have HB := Aside0.mk hb
       have HZ := Aside0.mk hzs
       have HZL := Aside0.mk hzl
       clear ho hb hg hat hzs hzl)
    | ((with_reducible refine gate_builtin (b := .copy) (xs := #[.tmp 18, .tmp 19]) rfl ?_); refine Go.Proofs.YtenomaibgpbonaaDoor.Math.R_copy (w0 := w) (base := w.heap.size) 0 rfl (.tmp 18) (.tmp 19) 22 rfl Tryd.underlying22 (e := 5) ?sz zs l A0 l.length c0 rfl rfl HO.out (Kd.C_below HR0.out HB.out) HB.out ?_; (case sz => kernel_rfl)
       intro w2 ho hb hg
       rw [show min l.length zs.length = l.length from by rw [HZL.out]; omega]
       have HP := Aside0.mk ho
       have HB2 := Aside0.mk hb
       clear ho hb hg))
  have hb0 := HL.out
  have hzl := HZL.out
  obtain ⟨ys, hys⟩ : ∃ ys, l.take zs.length ++ zs.drop l.length = ys := ⟨_, rfl⟩
  have HY := Aside0.mk hys
  have hp := HP.out
  rw [hys, hzl] at hp
  clear HP HO HB HZ hys
  have HP0 := Aside0.mk hp
  clear hp
  obtain ⟨L, hL⟩ : ∃ L : Int, (l.length : Int) = L := ⟨_, rfl⟩
  have q0 : wrap64 (L + 0) = L := by unfold wrap64; omega
  have q1 : wrap64 (L + 1) = L + 1 := by unfold wrap64; omega
  have q2 : wrap64 (L + 2) = L + 2 := by unfold wrap64; omega
  have q3 : wrap64 (L + 3) = L + 3 := by unfold wrap64; omega
  have q4 : wrap64 (L + 4) = L + 4 := by unfold wrap64; omega
  have q5 : wrap64 (L + 5) = L + 5 := by unfold wrap64; omega
  have q6 : wrap64 (L + 6) = L + 6 := by unfold wrap64; omega
  have q7 : wrap64 (L + 7) = L + 7 := by unfold wrap64; omega
  cases le
  · refine wp_loop_rounds 9 ?_
    rw [rounds_succ]
    obtain ⟨hy, hz⟩ := Kd.R_celln (0 : Int) HP0.out L (by omega) (by omega)
    have HQ := Aside0.mk (Kd.R_putg HP0.out L (v / 72057594037927936 % 256))
    have HC := Aside0.mk (below_set (v := .int .u8 (v / 72057594037927936 % 256)) (j := L.toNat) HB2.out (Kd.R_base HP0.out g rfl))
    go_wp2_with ((with_reducible refine gate_store (t := 5) (p := 42) rfl ?_); refine octet_put_uint64_put_stop ?_)
    unfold octet_put_uint64_stop
    refine store_event (t := 5) (p := 42) (v := .tmp 41) (w1 := w2.setCell ⟨g, L.toNat, none⟩ (.int .u8 (v / 72057594037927936 % 256))) rfl rfl rfl (by first | (go_simp; done) | (go_simp; rfl)) ?_
    intro w3 hw
    have hq := HQ.out.1; rw [← hw] at hq; have HP1 := Aside0.mk hq; have hc := HC.out; rw [← hw] at hc; have HB3 := Aside0.mk hc; clear hq hc hw hy hz HQ HC HP0 HB2
    go_wp2_with fail
    rw [rounds_succ]
    obtain ⟨hy, hz⟩ := Kd.R_celln (0 : Int) HP1.out (L + 1) (by omega) (by omega)
    have HQ := Aside0.mk (Kd.R_putg HP1.out (L + 1) (v / 281474976710656 % 256))
    have HC := Aside0.mk (below_set (v := .int .u8 (v / 281474976710656 % 256)) (j := (L + 1).toNat) HB3.out (Kd.R_base HP1.out g rfl))
    go_wp2_with ((with_reducible refine gate_store (t := 5) (p := 42) rfl ?_); refine octet_put_uint64_put_stop ?_)
    unfold octet_put_uint64_stop
    refine store_event (t := 5) (p := 42) (v := .tmp 41) (w1 := w3.setCell ⟨g, (L + 1).toNat, none⟩ (.int .u8 (v / 281474976710656 % 256))) rfl rfl rfl (by first | (go_simp; done) | (go_simp; rfl)) ?_
    intro w4 hw
    have hq := HQ.out.1; rw [← hw] at hq; have HP2 := Aside0.mk hq; have hc := HC.out; rw [← hw] at hc; have HB4 := Aside0.mk hc; clear hq hc hw hy hz HQ HC HP1 HB3
    go_wp2_with fail
    rw [rounds_succ]
    obtain ⟨hy, hz⟩ := Kd.R_celln (0 : Int) HP2.out (L + 2) (by omega) (by omega)
    have HQ := Aside0.mk (Kd.R_putg HP2.out (L + 2) (v / 1099511627776 % 256))
    have HC := Aside0.mk (below_set (v := .int .u8 (v / 1099511627776 % 256)) (j := (L + 2).toNat) HB4.out (Kd.R_base HP2.out g rfl))
    go_wp2_with ((with_reducible refine gate_store (t := 5) (p := 42) rfl ?_); refine octet_put_uint64_put_stop ?_)
    unfold octet_put_uint64_stop
    refine store_event (t := 5) (p := 42) (v := .tmp 41) (w1 := w4.setCell ⟨g, (L + 2).toNat, none⟩ (.int .u8 (v / 1099511627776 % 256))) rfl rfl rfl (by first | (go_simp; done) | (go_simp; rfl)) ?_
    intro w5 hw
    have hq := HQ.out.1; rw [← hw] at hq; have HP3 := Aside0.mk hq; have hc := HC.out; rw [← hw] at hc; have HB5 := Aside0.mk hc; clear hq hc hw hy hz HQ HC HP2 HB4
    go_wp2_with fail
    rw [rounds_succ]
    obtain ⟨hy, hz⟩ := Kd.R_celln (0 : Int) HP3.out (L + 3) (by omega) (by omega)
    have HQ := Aside0.mk (Kd.R_putg HP3.out (L + 3) (v / 4294967296 % 256))
    have HC := Aside0.mk (below_set (v := .int .u8 (v / 4294967296 % 256)) (j := (L + 3).toNat) HB5.out (Kd.R_base HP3.out g rfl))
    go_wp2_with ((with_reducible refine gate_store (t := 5) (p := 42) rfl ?_); refine octet_put_uint64_put_stop ?_)
    unfold octet_put_uint64_stop
    refine store_event (t := 5) (p := 42) (v := .tmp 41) (w1 := w5.setCell ⟨g, (L + 3).toNat, none⟩ (.int .u8 (v / 4294967296 % 256))) rfl rfl rfl (by first | (go_simp; done) | (go_simp; rfl)) ?_
    intro w6 hw
    have hq := HQ.out.1; rw [← hw] at hq; have HP4 := Aside0.mk hq; have hc := HC.out; rw [← hw] at hc; have HB6 := Aside0.mk hc; clear hq hc hw hy hz HQ HC HP3 HB5
    go_wp2_with fail
    rw [rounds_succ]
    obtain ⟨hy, hz⟩ := Kd.R_celln (0 : Int) HP4.out (L + 4) (by omega) (by omega)
    have HQ := Aside0.mk (Kd.R_putg HP4.out (L + 4) (v / 16777216 % 256))
    have HC := Aside0.mk (below_set (v := .int .u8 (v / 16777216 % 256)) (j := (L + 4).toNat) HB6.out (Kd.R_base HP4.out g rfl))
    go_wp2_with ((with_reducible refine gate_store (t := 5) (p := 42) rfl ?_); refine octet_put_uint64_put_stop ?_)
    unfold octet_put_uint64_stop
    refine store_event (t := 5) (p := 42) (v := .tmp 41) (w1 := w6.setCell ⟨g, (L + 4).toNat, none⟩ (.int .u8 (v / 16777216 % 256))) rfl rfl rfl (by first | (go_simp; done) | (go_simp; rfl)) ?_
    intro w7 hw
    have hq := HQ.out.1; rw [← hw] at hq; have HP5 := Aside0.mk hq; have hc := HC.out; rw [← hw] at hc; have HB7 := Aside0.mk hc; clear hq hc hw hy hz HQ HC HP4 HB6
    go_wp2_with fail
    rw [rounds_succ]
    obtain ⟨hy, hz⟩ := Kd.R_celln (0 : Int) HP5.out (L + 5) (by omega) (by omega)
    have HQ := Aside0.mk (Kd.R_putg HP5.out (L + 5) (v / 65536 % 256))
    have HC := Aside0.mk (below_set (v := .int .u8 (v / 65536 % 256)) (j := (L + 5).toNat) HB7.out (Kd.R_base HP5.out g rfl))
    go_wp2_with ((with_reducible refine gate_store (t := 5) (p := 42) rfl ?_); refine octet_put_uint64_put_stop ?_)
    unfold octet_put_uint64_stop
    refine store_event (t := 5) (p := 42) (v := .tmp 41) (w1 := w7.setCell ⟨g, (L + 5).toNat, none⟩ (.int .u8 (v / 65536 % 256))) rfl rfl rfl (by first | (go_simp; done) | (go_simp; rfl)) ?_
    intro w8 hw
    have hq := HQ.out.1; rw [← hw] at hq; have HP6 := Aside0.mk hq; have hc := HC.out; rw [← hw] at hc; have HB8 := Aside0.mk hc; clear hq hc hw hy hz HQ HC HP5 HB7
    go_wp2_with fail
    rw [rounds_succ]
    obtain ⟨hy, hz⟩ := Kd.R_celln (0 : Int) HP6.out (L + 6) (by omega) (by omega)
    have HQ := Aside0.mk (Kd.R_putg HP6.out (L + 6) (v / 256 % 256))
    have HC := Aside0.mk (below_set (v := .int .u8 (v / 256 % 256)) (j := (L + 6).toNat) HB8.out (Kd.R_base HP6.out g rfl))
    go_wp2_with ((with_reducible refine gate_store (t := 5) (p := 42) rfl ?_); refine octet_put_uint64_put_stop ?_)
    unfold octet_put_uint64_stop
    refine store_event (t := 5) (p := 42) (v := .tmp 41) (w1 := w8.setCell ⟨g, (L + 6).toNat, none⟩ (.int .u8 (v / 256 % 256))) rfl rfl rfl (by first | (go_simp; done) | (go_simp; rfl)) ?_
    intro w9 hw
    have hq := HQ.out.1; rw [← hw] at hq; have HP7 := Aside0.mk hq; have hc := HC.out; rw [← hw] at hc; have HB9 := Aside0.mk hc; clear hq hc hw hy hz HQ HC HP6 HB8
    go_wp2_with fail
    rw [rounds_succ]
    obtain ⟨hy, hz⟩ := Kd.R_celln (0 : Int) HP7.out (L + 7) (by omega) (by omega)
    have HQ := Aside0.mk (Kd.R_putg HP7.out (L + 7) (v % 256))
    have HC := Aside0.mk (below_set (v := .int .u8 (v % 256)) (j := (L + 7).toNat) HB9.out (Kd.R_base HP7.out g rfl))
    go_wp2_with ((with_reducible refine gate_store (t := 5) (p := 42) rfl ?_); refine octet_put_uint64_put_stop ?_)
    unfold octet_put_uint64_stop
    refine store_event (t := 5) (p := 42) (v := .tmp 41) (w1 := w9.setCell ⟨g, (L + 7).toNat, none⟩ (.int .u8 (v % 256))) rfl rfl rfl (by first | (go_simp; done) | (go_simp; rfl)) ?_
    intro w10 hw
    have hq := HQ.out.1; rw [← hw] at hq; have HP8 := Aside0.mk hq; have hc := HC.out; rw [← hw] at hc; have HB10 := Aside0.mk hc; clear hq hc hw hy hz HQ HC HP7 HB9
    go_wp2_with fail
    rw [rounds_succ]
    go_wp2_with fail
    go_ret
    refine ⟨_, rfl, ?_, HB10.out⟩
    have e := HP8.out
    rw [← HY.out, octet_put_uint64.sets l zs L hL hzl, ← hzl] at e
    exact e
  · refine wp_loop_rounds 9 ?_
    rw [rounds_succ]
    obtain ⟨hy, hz⟩ := Kd.R_celln (0 : Int) HP0.out L (by omega) (by omega)
    have HQ := Aside0.mk (Kd.R_putg HP0.out L (v % 256))
    have HC := Aside0.mk (below_set (v := .int .u8 (v % 256)) (j := L.toNat) HB2.out (Kd.R_base HP0.out g rfl))
    go_wp2_with ((with_reducible refine gate_store (t := 5) (p := 42) rfl ?_); refine octet_put_uint64_put_stop ?_)
    unfold octet_put_uint64_stop
    refine store_event (t := 5) (p := 42) (v := .tmp 41) (w1 := w2.setCell ⟨g, L.toNat, none⟩ (.int .u8 (v % 256))) rfl rfl rfl (by first | (go_simp; done) | (go_simp; rfl)) ?_
    intro w3 hw
    have hq := HQ.out.1; rw [← hw] at hq; have HP1 := Aside0.mk hq; have hc := HC.out; rw [← hw] at hc; have HB3 := Aside0.mk hc; clear hq hc hw hy hz HQ HC HP0 HB2
    go_wp2_with fail
    rw [rounds_succ]
    obtain ⟨hy, hz⟩ := Kd.R_celln (0 : Int) HP1.out (L + 1) (by omega) (by omega)
    have HQ := Aside0.mk (Kd.R_putg HP1.out (L + 1) (v / 256 % 256))
    have HC := Aside0.mk (below_set (v := .int .u8 (v / 256 % 256)) (j := (L + 1).toNat) HB3.out (Kd.R_base HP1.out g rfl))
    go_wp2_with ((with_reducible refine gate_store (t := 5) (p := 42) rfl ?_); refine octet_put_uint64_put_stop ?_)
    unfold octet_put_uint64_stop
    refine store_event (t := 5) (p := 42) (v := .tmp 41) (w1 := w3.setCell ⟨g, (L + 1).toNat, none⟩ (.int .u8 (v / 256 % 256))) rfl rfl rfl (by first | (go_simp; done) | (go_simp; rfl)) ?_
    intro w4 hw
    have hq := HQ.out.1; rw [← hw] at hq; have HP2 := Aside0.mk hq; have hc := HC.out; rw [← hw] at hc; have HB4 := Aside0.mk hc; clear hq hc hw hy hz HQ HC HP1 HB3
    go_wp2_with fail
    rw [rounds_succ]
    obtain ⟨hy, hz⟩ := Kd.R_celln (0 : Int) HP2.out (L + 2) (by omega) (by omega)
    have HQ := Aside0.mk (Kd.R_putg HP2.out (L + 2) (v / 65536 % 256))
    have HC := Aside0.mk (below_set (v := .int .u8 (v / 65536 % 256)) (j := (L + 2).toNat) HB4.out (Kd.R_base HP2.out g rfl))
    go_wp2_with ((with_reducible refine gate_store (t := 5) (p := 42) rfl ?_); refine octet_put_uint64_put_stop ?_)
    unfold octet_put_uint64_stop
    refine store_event (t := 5) (p := 42) (v := .tmp 41) (w1 := w4.setCell ⟨g, (L + 2).toNat, none⟩ (.int .u8 (v / 65536 % 256))) rfl rfl rfl (by first | (go_simp; done) | (go_simp; rfl)) ?_
    intro w5 hw
    have hq := HQ.out.1; rw [← hw] at hq; have HP3 := Aside0.mk hq; have hc := HC.out; rw [← hw] at hc; have HB5 := Aside0.mk hc; clear hq hc hw hy hz HQ HC HP2 HB4
    go_wp2_with fail
    rw [rounds_succ]
    obtain ⟨hy, hz⟩ := Kd.R_celln (0 : Int) HP3.out (L + 3) (by omega) (by omega)
    have HQ := Aside0.mk (Kd.R_putg HP3.out (L + 3) (v / 16777216 % 256))
    have HC := Aside0.mk (below_set (v := .int .u8 (v / 16777216 % 256)) (j := (L + 3).toNat) HB5.out (Kd.R_base HP3.out g rfl))
    go_wp2_with ((with_reducible refine gate_store (t := 5) (p := 42) rfl ?_); refine octet_put_uint64_put_stop ?_)
    unfold octet_put_uint64_stop
    refine store_event (t := 5) (p := 42) (v := .tmp 41) (w1 := w5.setCell ⟨g, (L + 3).toNat, none⟩ (.int .u8 (v / 16777216 % 256))) rfl rfl rfl (by first | (go_simp; done) | (go_simp; rfl)) ?_
    intro w6 hw
    have hq := HQ.out.1; rw [← hw] at hq; have HP4 := Aside0.mk hq; have hc := HC.out; rw [← hw] at hc; have HB6 := Aside0.mk hc; clear hq hc hw hy hz HQ HC HP3 HB5
    go_wp2_with fail
    rw [rounds_succ]
    obtain ⟨hy, hz⟩ := Kd.R_celln (0 : Int) HP4.out (L + 4) (by omega) (by omega)
    have HQ := Aside0.mk (Kd.R_putg HP4.out (L + 4) (v / 4294967296 % 256))
    have HC := Aside0.mk (below_set (v := .int .u8 (v / 4294967296 % 256)) (j := (L + 4).toNat) HB6.out (Kd.R_base HP4.out g rfl))
    go_wp2_with ((with_reducible refine gate_store (t := 5) (p := 42) rfl ?_); refine octet_put_uint64_put_stop ?_)
    unfold octet_put_uint64_stop
    refine store_event (t := 5) (p := 42) (v := .tmp 41) (w1 := w6.setCell ⟨g, (L + 4).toNat, none⟩ (.int .u8 (v / 4294967296 % 256))) rfl rfl rfl (by first | (go_simp; done) | (go_simp; rfl)) ?_
    intro w7 hw
    have hq := HQ.out.1; rw [← hw] at hq; have HP5 := Aside0.mk hq; have hc := HC.out; rw [← hw] at hc; have HB7 := Aside0.mk hc; clear hq hc hw hy hz HQ HC HP4 HB6
    go_wp2_with fail
    rw [rounds_succ]
    obtain ⟨hy, hz⟩ := Kd.R_celln (0 : Int) HP5.out (L + 5) (by omega) (by omega)
    have HQ := Aside0.mk (Kd.R_putg HP5.out (L + 5) (v / 1099511627776 % 256))
    have HC := Aside0.mk (below_set (v := .int .u8 (v / 1099511627776 % 256)) (j := (L + 5).toNat) HB7.out (Kd.R_base HP5.out g rfl))
    go_wp2_with ((with_reducible refine gate_store (t := 5) (p := 42) rfl ?_); refine octet_put_uint64_put_stop ?_)
    unfold octet_put_uint64_stop
    refine store_event (t := 5) (p := 42) (v := .tmp 41) (w1 := w7.setCell ⟨g, (L + 5).toNat, none⟩ (.int .u8 (v / 1099511627776 % 256))) rfl rfl rfl (by first | (go_simp; done) | (go_simp; rfl)) ?_
    intro w8 hw
    have hq := HQ.out.1; rw [← hw] at hq; have HP6 := Aside0.mk hq; have hc := HC.out; rw [← hw] at hc; have HB8 := Aside0.mk hc; clear hq hc hw hy hz HQ HC HP5 HB7
    go_wp2_with fail
    rw [rounds_succ]
    obtain ⟨hy, hz⟩ := Kd.R_celln (0 : Int) HP6.out (L + 6) (by omega) (by omega)
    have HQ := Aside0.mk (Kd.R_putg HP6.out (L + 6) (v / 281474976710656 % 256))
    have HC := Aside0.mk (below_set (v := .int .u8 (v / 281474976710656 % 256)) (j := (L + 6).toNat) HB8.out (Kd.R_base HP6.out g rfl))
    go_wp2_with ((with_reducible refine gate_store (t := 5) (p := 42) rfl ?_); refine octet_put_uint64_put_stop ?_)
    unfold octet_put_uint64_stop
    refine store_event (t := 5) (p := 42) (v := .tmp 41) (w1 := w8.setCell ⟨g, (L + 6).toNat, none⟩ (.int .u8 (v / 281474976710656 % 256))) rfl rfl rfl (by first | (go_simp; done) | (go_simp; rfl)) ?_
    intro w9 hw
    have hq := HQ.out.1; rw [← hw] at hq; have HP7 := Aside0.mk hq; have hc := HC.out; rw [← hw] at hc; have HB9 := Aside0.mk hc; clear hq hc hw hy hz HQ HC HP6 HB8
    go_wp2_with fail
    rw [rounds_succ]
    obtain ⟨hy, hz⟩ := Kd.R_celln (0 : Int) HP7.out (L + 7) (by omega) (by omega)
    have HQ := Aside0.mk (Kd.R_putg HP7.out (L + 7) (v / 72057594037927936 % 256))
    have HC := Aside0.mk (below_set (v := .int .u8 (v / 72057594037927936 % 256)) (j := (L + 7).toNat) HB9.out (Kd.R_base HP7.out g rfl))
    go_wp2_with ((with_reducible refine gate_store (t := 5) (p := 42) rfl ?_); refine octet_put_uint64_put_stop ?_)
    unfold octet_put_uint64_stop
    refine store_event (t := 5) (p := 42) (v := .tmp 41) (w1 := w9.setCell ⟨g, (L + 7).toNat, none⟩ (.int .u8 (v / 72057594037927936 % 256))) rfl rfl rfl (by first | (go_simp; done) | (go_simp; rfl)) ?_
    intro w10 hw
    have hq := HQ.out.1; rw [← hw] at hq; have HP8 := Aside0.mk hq; have hc := HC.out; rw [← hw] at hc; have HB10 := Aside0.mk hc; clear hq hc hw hy hz HQ HC HP7 HB9
    go_wp2_with fail
    rw [rounds_succ]
    go_wp2_with fail
    go_ret
    refine ⟨_, rfl, ?_, HB10.out⟩
    have e := HP8.out
    rw [← HY.out, octet_put_uint64.sets l zs L hL hzl, ← hzl] at e
    exact e
theorem octet_put_uint64.calls (A0 : Option Addr) (c0 : Nat) (l0 : List Int) (a1 : Int) (a2 : Int) (a3 : Bool) (r : List Int) (w : World) (hr0 : Kd.C (Kd.int .u8) w A0 l0.length l0) (hc0 : l0.length ≤ c0) (h : octet_put_uint64.f l0 a1 a2 a3 = some r) :
    Calls Tryd.prog 41 #[.slice A0 l0.length c0, .int .u64 a1, .int .i64 a2, .bool a3] w fun e w' => ∃ v0_ : Value, e = .returned (v0_) ∧ Kd.R (Kd.int .u8) 5 w' w.heap.size (fun _ => True) v0_ r ∧ Below w.heap.size w w' := by
  unfold octet_put_uint64.f at h
  by_cases c : a2 = 8 ∧ l0.length ≤ 140737488355312
  · rw [if_pos c] at h
    obtain rfl := Option.some.inj h
    obtain ⟨rfl, hl⟩ := c
    exact octet_put_uint64.any A0 c0 l0 a1 a3 w hr0 hc0 hl
  · rw [if_neg c] at h
    exact absurd h (by simp)

/-! ### octet_Put64: function 37 -/
def octet_Put64.f (l0 : List Int) (a1 : Int) (a2 : Bool) : Option (List Int) := (octet_put_uint64.f l0 a1 8 a2).bind fun t117 => (some t117)
set_option maxHeartbeats 8000000 in
set_option maxRecDepth 100000 in
theorem octet_Put64.calls (A0 : Option Addr) (c0 : Nat) (l0 : List Int) (a1 : Int) (a2 : Bool) (r : List Int) (w : World) (hr0 : Kd.C (Kd.int .u8) w A0 l0.length l0) (hc0 : l0.length ≤ c0) (h : octet_Put64.f l0 a1 a2 = some r) :
    Calls Tryd.prog 37 #[.slice A0 l0.length c0, .int .u64 a1, .bool a2] w fun e w' => ∃ v0_ : Value, e = .returned (v0_) ∧ Kd.R (Kd.int .u8) 5 w' w.heap.size (fun _ => True) v0_ r ∧ Below w.heap.size w w' := by
  have HR0 := Aside0.mk hr0
  have HC0 := Aside0.mk hc0
  clear hr0 hc0
  have HB := Aside0.mk (Below.refl w.heap.size w)
  have H : ((octet_put_uint64.f l0 a1 8 a2).bind fun t117 => (some t117)) = some r := h
  clear h
  replace H := Option.bind_eq_some_iff.mp H
  obtain ⟨t117, A40, H⟩ := H
  replace H : (some t117) = some r := H
  have A4 := Aside0.mk A40
  clear A40
  obtain rfl := Option.some.inj H
  go_enter Tryd.func37, Tryd.ntmps37
  go_wp2_with (first | ((with_reducible refine gate_callee (f := 41) rfl ?_); refine goesL_ (some 10) rfl rfl Tryd.func41 (by kernel_rfl) rfl #[.slice A0 l0.length c0, .int .u64 a1, .int .i64 8, .bool a2] rfl (by (try simp only [List.map_toArray, List.map_cons, List.map_nil]); first | done | rfl | (simp only [List.length_drop, List.length_take]; rfl)) ?_; (with_reducible refine (octet_put_uint64.calls _ _ l0 a1 8 a2 t117 _ ?side1 ?side2 A4.out).mono ?_); (case side1 => repeat (first | exact HR0.out | (with_reducible refine Kd.C_alloc ?_ _) | (with_reducible refine Kd.C_drewN ?_ _) | (with_reducible refine Kd.C_drew ?_))); (case side2 => exact HC0.out); rintro e w5 ⟨v118, rfl, ho0, hb⟩; refine ⟨_, rfl, ?_⟩; have n0_ := Aside0.mk (Kd.R_lower ho0 (below_size (by repeat (first | (with_reducible first | exact HB.out | apply below_alloc | apply pw_below_drewN | apply below_drew1) | exact HB.out)))); have n1_ := Aside0.mk (below_step (by repeat (first | (with_reducible first | exact HB.out | apply below_alloc | apply pw_below_drewN | apply below_drew1) | exact HB.out)) hb); clear HB; have HO119 := n0_; have HB := n1_; clear n0_ n1_; (try clear hb); (try clear hb2); (try clear hk); (try clear hi); (try clear ho0)))
  go_ret
  exact ⟨_, by first | rfl | (simp [errW_none, errW_some] <;> rfl) | (simp [*, errW_none, errW_some] <;> rfl), by (with_reducible repeat (first | apply Kd.R_alloc | apply Kd.R_drewN | apply Kd.R_drew)); exact HO119.out, by repeat (first | (with_reducible first | exact HB.out | apply below_alloc | apply pw_below_drewN | apply below_drew1) | exact HB.out)⟩

/-! ### plumblaw16_laid: function 27 -/
def plumblaw16_laid.l0 : Nat → List (S43) → List Int → Int → Option (List Int)
  | 0, _, _, _ => none
  | k + 1, x0, x3, x4 => if x4 < (x0.length : Int) then (if 0 ≤ x4 then ((plumblaw16_Item_wide.f ((rd_T43 x0 x4).f0) ((rd_T43 x0 x4).f1) ((rd_T43 x0 x4).f2)).bind fun t121 => (if t121 = 0 then (if x3.length < 140737488355328 then (plumblaw16_laid.l0 k x0 (x3 ++ [((rd_T43 x0 x4).f1) % 256]) (wrap64 (x4 + 1))) else (none)) else (if t121 = 1 then ((octet_Put32.f x3 (((rd_T43 x0 x4).f1) % 4294967296) ((rd_T43 x0 x4).f2)).bind fun t128 => (plumblaw16_laid.l0 k x0 t128 (wrap64 (x4 + 1)))) else (if t121 = 2 then ((octet_Put64.f x3 ((rd_T43 x0 x4).f1) ((rd_T43 x0 x4).f2)).bind fun t133 => (plumblaw16_laid.l0 k x0 t133 (wrap64 (x4 + 1)))) else (plumblaw16_laid.l0 k x0 x3 (wrap64 (x4 + 1))))))) else (none)) else (some x3)
def plumblaw16_laid.f (k : Nat) (l0 : List (S43)) : Option (List Int) := plumblaw16_laid.l0 k l0 ([] : List Int) 0
theorem plumblaw16_laid.mono_l : ∀ k, (∀ y0 y1 y2, LeO (plumblaw16_laid.l0 k y0 y1 y2) (plumblaw16_laid.l0 (k + 1) y0 y1 y2))
  | 0 => fun _ _ _ r h => by simp [plumblaw16_laid.l0] at h
  | k + 1 => by
    have ih0 := plumblaw16_laid.mono_l k
    · intro y0 y1 y2
      unfold plumblaw16_laid.l0
      repeat' first
      | (with_reducible exact ih0 _ _ _)
      | (with_reducible exact LeO.refl _)
      | (with_reducible exact LeO.none _)
      | (with_reducible refine LeO.ite ?_ ?_)
      | (with_reducible refine LeO.bind ?_ (fun _ => ?_))
      | exact ih0 _ _ _
      | exact LeO.none _
      | refine LeO.ite ?_ ?_
      | refine LeO.bind ?_ (fun _ => ?_)
theorem plumblaw16_laid.mono : ∀ a0 k, LeO (plumblaw16_laid.f k a0) (plumblaw16_laid.f (k + 1) a0) := by
  intro a0 k
  have ih0 := plumblaw16_laid.mono_l k
  unfold plumblaw16_laid.f
  repeat' first
      | (with_reducible exact ih0 _ _ _)
      | (with_reducible exact LeO.refl _)
      | (with_reducible exact LeO.none _)
      | (with_reducible refine LeO.ite ?_ ?_)
      | (with_reducible refine LeO.bind ?_ (fun _ => ?_))
      | exact ih0 _ _ _
      | exact LeO.none _
      | refine LeO.ite ?_ ?_
      | refine LeO.bind ?_ (fun _ => ?_)
def plumblaw16_laid.T9 : Bool × List (List Nat × List Nat) := (true, [([], []), ([], []), ([], []), ([1, 2], [1, 2]), ([3], [3]), ([4], [4]), ([5], [5]), ([], []), ([], []), ([7, 8], [7, 8]), ([9], [9]), ([10], [10]), ([0, 6, 11], [0, 6, 11]), ([12, 12, 0, 1, 2, 3, 4, 5, 6, 7, 8, 9, 10, 11, 12], [0, 12])])
def plumblaw16_laid.B9 : List Nat := [0, 0, 0, 6, 14, 30, 62, 0, 0, 384, 896, 1920, 4095, 8191]
theorem plumblaw16_laid.tab9 : rtab .any (opsOf Tryd.f27 9) = plumblaw16_laid.T9 := by kernel_rfl
theorem plumblaw16_laid.bits9 : waitsOk plumblaw16_laid.T9.2 plumblaw16_laid.B9 = true := by kernel_rfl
def plumblaw16_laid.T11 : Bool × List (List Nat × List Nat) := (true, [([], []), ([], []), ([], []), ([1, 2], [1, 2]), ([3], [3]), ([4], [4]), ([], []), ([], []), ([6, 7], [6, 7]), ([8], [8]), ([9], [9]), ([0, 5, 10], [0, 5, 10]), ([11, 11, 0, 1, 2, 3, 4, 5, 6, 7, 8, 9, 10, 11], [0, 11])])
def plumblaw16_laid.B11 : List Nat := [0, 0, 0, 6, 14, 30, 0, 0, 192, 448, 960, 2047, 4095]
theorem plumblaw16_laid.tab11 : rtab .any (opsOf Tryd.f27 11) = plumblaw16_laid.T11 := by kernel_rfl
theorem plumblaw16_laid.bits11 : waitsOk plumblaw16_laid.T11.2 plumblaw16_laid.B11 = true := by kernel_rfl
set_option maxHeartbeats 8000000 in
set_option maxRecDepth 100000 in
theorem plumblaw16_laid.calls (k : Nat) (A0 : Option Addr) (c0 : Nat) (l0 : List (S43)) (r : List Int) (w : World) (hr0 : Kd.C k43 w A0 l0.length l0) (hc0 : l0.length ≤ c0) (h : plumblaw16_laid.f k l0 = some r) :
    Calls Tryd.prog 27 #[.slice A0 l0.length c0] w fun e w' => ∃ v0_ : Value, e = .returned (v0_) ∧ Kd.R (Kd.int .u8) 5 w' w.heap.size (fun _ => True) v0_ r ∧ Below w.heap.size w w' := by
  have hu43 := Tryd.underlying43
  have HR0 := Aside0.mk hr0
  have HC0 := Aside0.mk hc0
  clear hr0 hc0
  have HB := Aside0.mk (Below.refl w.heap.size w)
  have H : (plumblaw16_laid.l0 k l0 ([] : List Int) 0) = some r := h
  clear h
  have H' := Aside0.mk H
  clear H
  go_enter Tryd.func27, Tryd.ntmps27
  go_wp2
  go_loopg [3, 4] k (fun kq v3 v4 w' => ∃ (x3_1 : List Int) (x4_1 : Int), v4 = .int .i64 x4_1 ∧ Aside0 (plumblaw16_laid.l0 kq l0 x3_1 x4_1 = some r) ∧ Aside0 (kq ≤ k) ∧ Aside0 (Kd.R (Kd.int .u8) 5 w' w.heap.size (fun _ => True) v3 x3_1) ∧ Aside0 (Below w.heap.size w w'))
  case atStart => exact ⟨(([] : List Int)), (0), (by first | rfl | (simp; done) | (simp [*]; done)), H', ⟨Nat.le_refl _⟩, ⟨by first | exact Kd.R_nil _ _ _ _ _ | exact Kd.N_nil _ _ _ _ _ | exact Kd.V_nil _ _ _ _ _ | exact Kd.Q_nil _ _ _ _ _ | exact Kd.S_nil _ _ _ _ _⟩, ⟨by repeat (first | (with_reducible first | exact HB.out | apply below_alloc | apply pw_below_drewN | apply below_drew1) | exact HB.out)⟩⟩
  case round =>
    clear H'
    obtain ⟨x3_1, x4_1, rfl, HA, HK1, HO_3, HB⟩ := hrel
    cases gk with
    | zero => exact absurd HA.out (by simp [plumblaw16_laid.l0])
    | succ k1 =>
      have H := HA.out
      clear HA
      simp only [plumblaw16_laid.l0] at H
      by_cases c2 : x4_1 < (l0.length : Int)
      · rw [if_pos c2] at H
        have c2b0 : decide (x4_1 < (l0.length : Int)) = true := decide_eq_true c2
        clear c2
        by_cases c3 : 0 ≤ x4_1
        · rw [if_pos c3] at H
          have c3b0 : decide (0 ≤ x4_1) = true := decide_eq_true c3
          clear c3
          replace H := Option.bind_eq_some_iff.mp H
          obtain ⟨t121, A40, H⟩ := H
          replace H : (if t121 = 0 then (if x3_1.length < 140737488355328 then (plumblaw16_laid.l0 k1 l0 (x3_1 ++ [((rd_T43 l0 x4_1).f1) % 256]) (wrap64 (x4_1 + 1))) else (none)) else (if t121 = 1 then ((octet_Put32.f x3_1 (((rd_T43 l0 x4_1).f1) % 4294967296) ((rd_T43 l0 x4_1).f2)).bind fun t128 => (plumblaw16_laid.l0 k1 l0 t128 (wrap64 (x4_1 + 1)))) else (if t121 = 2 then ((octet_Put64.f x3_1 ((rd_T43 l0 x4_1).f1) ((rd_T43 l0 x4_1).f2)).bind fun t133 => (plumblaw16_laid.l0 k1 l0 t133 (wrap64 (x4_1 + 1)))) else (plumblaw16_laid.l0 k1 l0 x3_1 (wrap64 (x4_1 + 1)))))) = some r := H
          have A4 := Aside0.mk A40
          clear A40
          by_cases c5 : t121 = 0
          · rw [if_pos c5] at H
            have c5b0 : (t121 == 0) = true := beq_iff_eq.mpr c5
            have c5b1 : (t121 != 0) = false := bne_eq_false_iff_eq.mpr c5
            clear c5
            by_cases c6 : x3_1.length < 140737488355328
            · rw [if_pos c6] at H
              have LMc6 := Aside0.mk c6
              clear c6
              obtain ⟨y123, hy123⟩ : ∃ y_ : List Int, y_ = (x3_1 ++ [((rd_T43 l0 x4_1).f1) % 256]) := ⟨_, rfl⟩
              replace H : (plumblaw16_laid.l0 k1 l0 y123 (wrap64 (x4_1 + 1))) = some r := by first | (rw [hy123]; with_reducible exact H) | (have H2_ := (Option.bind_some _ _).symm.trans H; rw [hy123]; with_reducible exact H2_) | (have H2_ := (Option.bind_some _ _).symm.trans H; with_reducible exact H2_) | with_reducible exact H | (rw [hy123]; exact H) | exact H
              have Ny123 := Aside0.mk hy123
              clear hy123
              have H' := Aside0.mk H
              clear H
              have p120 : 0 ≤ (x4_1 : Int) := of_decide_eq_true (by first | (with_reducible assumption) | assumption)
              have q120 : x4_1 < (l0.length : Int) := of_decide_eq_true (by first | (with_reducible assumption) | assumption)
              obtain ⟨ad120, e120, hx120_0, hx120_1, hx120_2⟩ := at_T43 HR0.out x4_1 p120 q120
              cases e120
              replace hx120_0 := (HB.out.cell (World.block_lt_of_cell? w _ hx120_0)).trans hx120_0
              replace hx120_1 := (HB.out.cell (World.block_lt_of_cell? w _ hx120_1)).trans hx120_1
              replace hx120_2 := (HB.out.cell (World.block_lt_of_cell? w _ hx120_2)).trans hx120_2
              replace p120 := eq_true p120
              replace q120 := eq_true q120
              go_wp2_with (first | ((with_reducible refine gate_callee (f := 28) rfl ?_); refine goesL_ (some 15) rfl rfl Tryd.func28 (by kernel_rfl) rfl #[.agg #[.int .i64 ((rd_T43 l0 x4_1).f0), .int .u64 ((rd_T43 l0 x4_1).f1), .bool ((rd_T43 l0 x4_1).f2)]] rfl (by (try simp only [List.map_toArray, List.map_cons, List.map_nil]); first | done | rfl | (simp only [List.length_drop, List.length_take]; rfl)) ?_; (with_reducible refine (plumblaw16_Item_wide.calls ((rd_T43 l0 x4_1).f0) ((rd_T43 l0 x4_1).f1) ((rd_T43 l0 x4_1).f2) t121 _ A4.out).mono ?_); rintro e w7 ⟨rfl, hb⟩; refine ⟨_, rfl, ?_⟩; have n0_ := Aside0.mk (Kd.R_below (by (with_reducible repeat (first | apply Kd.R_alloc | apply Kd.R_drewN | apply Kd.R_drew)); exact HO_3.out) hb); have n1_ := Aside0.mk (below_step (by repeat (first | (with_reducible first | exact HB.out | apply below_alloc | apply pw_below_drewN | apply below_drew1) | exact HB.out)) hb); clear HO_3; clear HB; have HO_3 := n0_; have HB := n1_; clear n0_ n1_; (try clear hb); (try clear hb2); (try clear hk); (try clear hi); have p122 : 0 ≤ (x4_1 : Int) := of_decide_eq_true (by first | (with_reducible assumption) | assumption); have q122 : x4_1 < (l0.length : Int) := of_decide_eq_true (by first | (with_reducible assumption) | assumption); obtain ⟨ad122, e122, hx122_0, hx122_1, hx122_2⟩ := at_T43 HR0.out x4_1 p122 q122; obtain rfl : ad120 = ad122 := (by injection e122); replace hx122_0 := (HB.out.cell (World.block_lt_of_cell? w _ hx122_0)).trans hx122_0; replace hx122_1 := (HB.out.cell (World.block_lt_of_cell? w _ hx122_1)).trans hx122_1; replace hx122_2 := (HB.out.cell (World.block_lt_of_cell? w _ hx122_2)).trans hx122_2; replace p122 := eq_true p122; replace q122 := eq_true q122) | ((with_reducible refine gate_builtin (b := .append) (xs := #[.tmp 18, .tmp 25]) rfl ?_); at_builtin; refine Kd.R_append (Kd.int .u8) (w0 := w) w.heap.size rfl (.tmp 18) (.tmp 25) 22 5 (.int .u8 0) 1 rfl Tryd.underlying22 info5 rfl (by decide) (by omega) u3 x3_1 (((rd_T43 l0 x4_1).f1) % 256) [.int .u8 (((rd_T43 l0 x4_1).f1) % 256)] (fun _ => True) (fun _ => False) rfl rfl ?aP (fun _ hk => hk.elim) ?aF ?aO ?aB ?aS ?aL ?_; (case aP => exact rfl); (case aB => exact (by repeat (first | (with_reducible first | exact HB.out | apply below_alloc | apply pw_below_drewN | apply below_drew1) | exact HB.out))); (case aF => exact (fun _ _ => trivial)); (case aO => exact (by (with_reducible repeat (first | apply Kd.R_alloc | apply Kd.R_drewN | apply Kd.R_drew)); exact HO_3.out)); (case aS => exact (below_size (by repeat (first | (with_reducible first | exact HB.out | apply below_alloc | apply pw_below_drewN | apply below_drew1) | exact HB.out)))); (case aL => have := LMc6.out; omega); intro v124 w8 ho hb hg hat; rw [← Ny123.out] at ho; have n0_ := Aside0.mk (hb); have n1_ := Aside0.mk (ho); clear HB; clear HO_3; have HB := n0_; have HO125 := n1_; clear n0_ n1_; clear ho hb hg hat))
              go_roundg k1
              case measure => have := HK1.out; omega
              case rel => exact ⟨(y123), (wrap64 (x4_1 + 1)), (by first | rfl | (simp; done) | (simp [*]; done)), H', ⟨by have := HK1.out; omega⟩, ⟨by (with_reducible repeat (first | apply Kd.R_alloc | apply Kd.R_drewN | apply Kd.R_drew)); exact HO125.out⟩, ⟨by repeat (first | (with_reducible first | exact HB.out | apply below_alloc | apply pw_below_drewN | apply below_drew1) | exact HB.out)⟩⟩
            · rw [if_neg c6] at H
              exact absurd H (by simp)
          · rw [if_neg c5] at H
            have c5b0 : (t121 == 0) = false := beq_eq_false_iff_ne.mpr c5
            have c5b1 : (t121 != 0) = true := bne_iff_ne.mpr c5
            by_cases c9 : t121 = 1
            · rw [if_pos c9] at H
              have c9b0 : (t121 == 1) = true := beq_iff_eq.mpr c9
              have c9b1 : (t121 != 1) = false := bne_eq_false_iff_eq.mpr c9
              clear c9
              replace H := Option.bind_eq_some_iff.mp H
              obtain ⟨t128, A100, H⟩ := H
              replace H : (plumblaw16_laid.l0 k1 l0 t128 (wrap64 (x4_1 + 1))) = some r := H
              have A10 := Aside0.mk A100
              clear A100
              have H' := Aside0.mk H
              clear H
              have p120 : 0 ≤ (x4_1 : Int) := of_decide_eq_true (by first | (with_reducible assumption) | assumption)
              have q120 : x4_1 < (l0.length : Int) := of_decide_eq_true (by first | (with_reducible assumption) | assumption)
              obtain ⟨ad120, e120, hx120_0, hx120_1, hx120_2⟩ := at_T43 HR0.out x4_1 p120 q120
              cases e120
              replace hx120_0 := (HB.out.cell (World.block_lt_of_cell? w _ hx120_0)).trans hx120_0
              replace hx120_1 := (HB.out.cell (World.block_lt_of_cell? w _ hx120_1)).trans hx120_1
              replace hx120_2 := (HB.out.cell (World.block_lt_of_cell? w _ hx120_2)).trans hx120_2
              replace p120 := eq_true p120
              replace q120 := eq_true q120
              try go_wp2_with (first | ((with_reducible refine gate_callee (f := 28) rfl ?_); refine goesL_ (some 15) rfl rfl Tryd.func28 (by kernel_rfl) rfl #[.agg #[.int .i64 ((rd_T43 l0 x4_1).f0), .int .u64 ((rd_T43 l0 x4_1).f1), .bool ((rd_T43 l0 x4_1).f2)]] rfl (by (try simp only [List.map_toArray, List.map_cons, List.map_nil]); first | done | rfl | (simp only [List.length_drop, List.length_take]; rfl)) ?_; (with_reducible refine (plumblaw16_Item_wide.calls ((rd_T43 l0 x4_1).f0) ((rd_T43 l0 x4_1).f1) ((rd_T43 l0 x4_1).f2) t121 _ A4.out).mono ?_); rintro e w11 ⟨rfl, hb⟩; refine ⟨_, rfl, ?_⟩; have n0_ := Aside0.mk (Kd.R_below (by (with_reducible repeat (first | apply Kd.R_alloc | apply Kd.R_drewN | apply Kd.R_drew)); exact HO_3.out) hb); have n1_ := Aside0.mk (below_step (by repeat (first | (with_reducible first | exact HB.out | apply below_alloc | apply pw_below_drewN | apply below_drew1) | exact HB.out)) hb); clear HO_3; clear HB; have HO_3 := n0_; have HB := n1_; clear n0_ n1_; (try clear hb); (try clear hb2); (try clear hk); (try clear hi)))
              have n0_ := Aside0.mk (Kd.R_drew HO_3.out)
              have n1_ := Aside0.mk (below_drew1 HB.out)
              clear HO_3
              clear HB
              have HO_3 := n0_
              have HB := n1_
              clear n0_ n1_
              have p126 : 0 ≤ (x4_1 : Int) := of_decide_eq_true (by first | (with_reducible assumption) | assumption)
              have q126 : x4_1 < (l0.length : Int) := of_decide_eq_true (by first | (with_reducible assumption) | assumption)
              obtain ⟨ad126, e126, hx126_0, hx126_1, hx126_2⟩ := at_T43 HR0.out x4_1 p126 q126
              have hw126_2 := hx126_2
              have hw126_1 := hx126_1
              have hw126_0 := hx126_0
              obtain rfl : ad120 = ad126 := (by injection e126)
              replace hx126_0 := (HB.out.cell (World.block_lt_of_cell? w _ hx126_0)).trans hx126_0
              replace hx126_1 := (HB.out.cell (World.block_lt_of_cell? w _ hx126_1)).trans hx126_1
              replace hx126_2 := (HB.out.cell (World.block_lt_of_cell? w _ hx126_2)).trans hx126_2
              replace p126 := eq_true p126
              replace q126 := eq_true q126
              have p127 : 0 ≤ (x4_1 : Int) := of_decide_eq_true (by first | (with_reducible assumption) | assumption)
              have q127 : x4_1 < (l0.length : Int) := of_decide_eq_true (by first | (with_reducible assumption) | assumption)
              obtain ⟨ad127, e127, hx127_0, hx127_1, hx127_2⟩ := at_T43 HR0.out x4_1 p127 q127
              have hw127_2 := hx127_2
              have hw127_1 := hx127_1
              have hw127_0 := hx127_0
              obtain rfl : ad120 = ad127 := (by injection e127)
              replace hx127_0 := (HB.out.cell (World.block_lt_of_cell? w _ hx127_0)).trans hx127_0
              replace hx127_1 := (HB.out.cell (World.block_lt_of_cell? w _ hx127_1)).trans hx127_1
              replace hx127_2 := (HB.out.cell (World.block_lt_of_cell? w _ hx127_2)).trans hx127_2
              replace p127 := eq_true p127
              replace q127 := eq_true q127
              obtain ⟨Ao13, co13, eo13⟩ := Kd.R_slice HO_3.out
              (first | subst eo13 | (injection eo13 with f1_ f2_ f3_; have f4_ := f1_.symm; have f5_ := f3_.symm; clear f1_ f2_ f3_; subst f4_; subst f5_))
              refine start_ (n := 14) (S := fun w' => w'.cell? (ad120.add ((x4_1).toNat * 3)) = some (.int .i64 ((rd_T43 l0 x4_1).f0)) ∧ w'.cell? ⟨(ad120.add ((x4_1).toNat * 3)).block, (ad120.add ((x4_1).toNat * 3)).off + 1, none⟩ = some (.int .u64 ((rd_T43 l0 x4_1).f1)) ∧ w'.cell? ⟨(ad120.add ((x4_1).toNat * 3)).block, (ad120.add ((x4_1).toNat * 3)).off + 2, none⟩ = some (.bool ((rd_T43 l0 x4_1).f2)) ∧ w'.cell? (ad120.add ((x4_1).toNat * 3)) = some (.int .i64 ((rd_T43 l0 x4_1).f0)) ∧ w'.cell? ⟨(ad120.add ((x4_1).toNat * 3)).block, (ad120.add ((x4_1).toNat * 3)).off + 1, none⟩ = some (.int .u64 ((rd_T43 l0 x4_1).f1)) ∧ w'.cell? ⟨(ad120.add ((x4_1).toNat * 3)).block, (ad120.add ((x4_1).toNat * 3)).off + 2, none⟩ = some (.bool ((rd_T43 l0 x4_1).f2))) (ds := []) #[false, false, false, false, false, false, false, false, false, false, false, false, false, false] (by kernel_rfl) rfl rfl ⟨((HB.out.cell (World.block_lt_of_cell? w _ hw126_0)).trans hw126_0), ((HB.out.cell (World.block_lt_of_cell? w _ hw126_1)).trans hw126_1), ((HB.out.cell (World.block_lt_of_cell? w _ hw126_2)).trans hw126_2), ((HB.out.cell (World.block_lt_of_cell? w _ hw127_0)).trans hw127_0), ((HB.out.cell (World.block_lt_of_cell? w _ hw127_1)).trans hw127_1), ((HB.out.cell (World.block_lt_of_cell? w _ hw127_2)).trans hw127_2)⟩ (fun hHeld => ?_); refine with_tabW plumblaw16_laid.tab9 plumblaw16_laid.bits9 (fun HT_ HW_ => ?_)
              generalize w11.drew = w12 at HO_3 HB hx126_0 hx126_1 hx126_2 hx127_0 hx127_1 hx127_2 hHeld ⊢
              refine pure_ (i := 0) (N := some 29) (v := ?_) (a' := ?_) #[true, false, false, false, false, false, false, false, false, false, false, false, false, false] rfl rfl (any_of HT_.out (by kernel_rfl)) (fun _ _ _ h => h) (Or.inl ⟨by rfl, ?_⟩) ?_ ?_
              rotate_left
              · intro w'
                go_simp
                with_reducible rfl
              rotate_left
              · simp only [Act.put, List.setIfInBounds_toArray, List.set_cons_zero, List.set_cons_succ, i64_w, i32_w]
                rfl
              refine pure_ (i := 1) (N := some 30) (v := ?_) (a' := ?_) #[true, true, false, false, false, false, false, false, false, false, false, false, false, false] rfl rfl (any_of HT_.out (by kernel_rfl)) (fun _ _ _ h => h) (Or.inl ⟨by rfl, ?_⟩) ?_ ?_
              rotate_left
              · intro w'
                go_simp
                with_reducible rfl
              rotate_left
              · simp only [Act.put, List.setIfInBounds_toArray, List.set_cons_zero, List.set_cons_succ, i64_w, i32_w]
                rfl
              refine pure_ (i := 2) (N := some 31) (v := ?_) (a' := ?_) #[true, true, true, false, false, false, false, false, false, false, false, false, false, false] rfl rfl (any_of HT_.out (by kernel_rfl)) (fun _ _ _ h => h) (Or.inl ⟨by rfl, ?_⟩) ?_ ?_
              rotate_left
              · intro w'
                go_simp
                with_reducible rfl
              rotate_left
              · simp only [Act.put, List.setIfInBounds_toArray, List.set_cons_zero, List.set_cons_succ, i64_w, i32_w]
                rfl
              refine pure_ (i := 3) (N := some 32) (v := ?_) (a' := ?_) #[true, true, true, true, false, false, false, false, false, false, false, false, false, false] rfl rfl (any_of HT_.out (by kernel_rfl)) (fun _ _ _ h => h) (Or.inl ⟨by rfl, ?_⟩) ?_ ?_
              rotate_left
              · intro w'
                go_simp
                with_reducible rfl
              rotate_left
              · simp only [Act.put, List.setIfInBounds_toArray, List.set_cons_zero, List.set_cons_succ, i64_w, i32_w]
                rfl
              refine pure_ (i := 4) (N := some 33) (v := ?_) (a' := ?_) #[true, true, true, true, true, false, false, false, false, false, false, false, false, false] rfl rfl (any_of HT_.out (by kernel_rfl)) (fun _ _ _ h => h) (Or.inl ⟨by rfl, ?_⟩) ?_ ?_
              rotate_left
              · intro w'
                go_simp
                with_reducible rfl
              rotate_left
              · simp only [Act.put, List.setIfInBounds_toArray, List.set_cons_zero, List.set_cons_succ, i64_w, i32_w]
                rfl
              refine pure_ (i := 7) (N := some 36) (v := ?_) (a' := ?_) #[true, true, true, true, true, false, false, true, false, false, false, false, false, false] rfl rfl (any_of HT_.out (by kernel_rfl)) (fun _ _ _ h => h) (Or.inl ⟨by rfl, ?_⟩) ?_ ?_
              rotate_left
              · intro w'
                go_simp
                with_reducible rfl
              rotate_left
              · simp only [Act.put, List.setIfInBounds_toArray, List.set_cons_zero, List.set_cons_succ, i64_w, i32_w]
                rfl
              refine pure_ (i := 8) (N := some 37) (v := ?_) (a' := ?_) #[true, true, true, true, true, false, false, true, true, false, false, false, false, false] rfl rfl (any_of HT_.out (by kernel_rfl)) (fun _ _ _ h => h) (Or.inl ⟨by rfl, ?_⟩) ?_ ?_
              rotate_left
              · intro w'
                go_simp
                with_reducible rfl
              rotate_left
              · simp only [Act.put, List.setIfInBounds_toArray, List.set_cons_zero, List.set_cons_succ, i64_w, i32_w]
                rfl
              refine pure_ (i := 9) (N := some 38) (v := ?_) (a' := ?_) #[true, true, true, true, true, false, false, true, true, true, false, false, false, false] rfl rfl (any_of HT_.out (by kernel_rfl)) (fun _ _ _ h => h) (Or.inl ⟨by rfl, ?_⟩) ?_ ?_
              rotate_left
              · intro w'
                go_simp
                with_reducible rfl
              rotate_left
              · simp only [Act.put, List.setIfInBounds_toArray, List.set_cons_zero, List.set_cons_succ, i64_w, i32_w]
                rfl
              refine pure_ (i := 10) (N := some 39) (v := ?_) (a' := ?_) #[true, true, true, true, true, false, false, true, true, true, true, false, false, false] rfl rfl (any_of HT_.out (by kernel_rfl)) (fun _ _ _ h => h) (Or.inl ⟨by rfl, ?_⟩) ?_ ?_
              rotate_left
              · intro w'
                go_simp
                with_reducible rfl
              rotate_left
              · simp only [Act.put, List.setIfInBounds_toArray, List.set_cons_zero, List.set_cons_succ, i64_w, i32_w]
                rfl
              refine take_ (i := 5) (N := some 34) (v := ?_) (a' := ?_) #[true, true, true, true, true, true, false, true, true, true, true, false, false, false] rfl rfl (take_ofW HT_.out HW_.out (by kernel_rfl)) (fun _ _ _ h => h) (Or.inl ⟨by rfl, ?_⟩) hHeld ?_ ?_
              rotate_left
              · rintro w' ⟨s0, s1, s2, s3, s4, s5⟩
                go_simp
                with_reducible rfl
              rotate_left
              · simp only [Act.put, List.setIfInBounds_toArray, List.set_cons_zero, List.set_cons_succ, i64_w, i32_w]
                rfl
              refine pure_ (i := 6) (N := some 35) (v := ?_) (a' := ?_) #[true, true, true, true, true, true, true, true, true, true, true, false, false, false] rfl rfl (any_of HT_.out (by kernel_rfl)) (fun _ _ _ h => h) (Or.inl ⟨by rfl, ?_⟩) ?_ ?_
              rotate_left
              · intro w'
                go_simp
                with_reducible rfl
              rotate_left
              · simp only [Act.put, List.setIfInBounds_toArray, List.set_cons_zero, List.set_cons_succ, i64_w, i32_w]
                rfl
              refine take_ (i := 11) (N := some 40) (v := ?_) (a' := ?_) #[true, true, true, true, true, true, true, true, true, true, true, true, false, false] rfl rfl (take_ofW HT_.out HW_.out (by kernel_rfl)) (fun _ _ _ h => h) (Or.inl ⟨by rfl, ?_⟩) hHeld ?_ ?_
              rotate_left
              · rintro w' ⟨s0, s1, s2, s3, s4, s5⟩
                go_simp
                with_reducible rfl
              rotate_left
              · simp only [Act.put, List.setIfInBounds_toArray, List.set_cons_zero, List.set_cons_succ, i64_w, i32_w]
                rfl
              refine one_ (i := 12) (N := some 41) #[true, true, true, true, true, true, true, true, true, true, true, true, true, false] rfl rfl (one_of HT_.out (by kernel_rfl)) (by decide) (fun K hK => ?_)
              refine goes_ Tryd.func36 (by kernel_rfl) rfl #[.slice Ao13 x3_1.length co13, .int .u32 (((rd_T43 l0 x4_1).f1) % 4294967296), .bool ((rd_T43 l0 x4_1).f2)] (by rfl) rfl rfl (by (try simp only [List.map_toArray, List.map_cons, List.map_nil]); first | done | rfl | (simp only [List.length_drop, List.length_take]; rfl)) ?_
              with_reducible refine (octet_Put32.calls _ _ x3_1 (((rd_T43 l0 x4_1).f1) % 4294967296) ((rd_T43 l0 x4_1).f2) t128 _ ?side1 ?side2 A10.out).mono ?_
              (case side1 => repeat (first | exact (Kd.R_reads' HO_3.out).2.2 | (with_reducible refine Kd.C_alloc ?_ _) | (with_reducible refine Kd.C_drewN ?_ _) | (with_reducible refine Kd.C_drew ?_)))
              (case side2 => exact (Kd.R_reads' HO_3.out).2.1)
              rintro e w14 ⟨v129, rfl, ho0, hb⟩
              refine ⟨_, rfl, ?_⟩
              have n0_ := Aside0.mk (Kd.R_elder' (by (with_reducible repeat (first | apply Kd.R_alloc | apply Kd.R_drewN | apply Kd.R_drew)); exact HO_3.out) (Kd.R_base ho0) hb)
              have n1_ := Aside0.mk (Kd.R_lower (Kd.R_new' ho0 (Kd.R_lt (by (with_reducible repeat (first | apply Kd.R_alloc | apply Kd.R_drewN | apply Kd.R_drew)); exact HO_3.out))) (below_size (by repeat (first | (with_reducible first | exact HB.out | apply below_alloc | apply pw_below_drewN | apply below_drew1) | exact HB.out))))
              have n2_ := Aside0.mk (below_step (by repeat (first | (with_reducible first | exact HB.out | apply below_alloc | apply pw_below_drewN | apply below_drew1) | exact HB.out)) hb)
              clear HO_3
              clear HB
              have HO_3 := n0_
              have HO130 := n1_
              have HB := n2_
              clear n0_ n1_ n2_
              (try clear hb)
              (try clear hb2)
              (try clear hk)
              (try clear hi)
              (try clear ho0)
              refine hK.out _ _ ⟨((HB.out.cell (World.block_lt_of_cell? w _ hw126_0)).trans hw126_0), ((HB.out.cell (World.block_lt_of_cell? w _ hw126_1)).trans hw126_1), ((HB.out.cell (World.block_lt_of_cell? w _ hw126_2)).trans hw126_2), ((HB.out.cell (World.block_lt_of_cell? w _ hw127_0)).trans hw127_0), ((HB.out.cell (World.block_lt_of_cell? w _ hw127_1)).trans hw127_1), ((HB.out.cell (World.block_lt_of_cell? w _ hw127_2)).trans hw127_2)⟩ (fun hHeld => ?_)
              clear hK K
              refine norm_ (a' := ?_) ?_ ?_
              rotate_left
              · show Act.put _ (some 41) _ = _
                simp only [Act.put, List.setIfInBounds_toArray, List.set_cons_zero, List.set_cons_succ, i64_w, i32_w]
                rfl
              refine pure_ (i := 13) (N := some 3) (v := ?_) (a' := ?_) #[true, true, true, true, true, true, true, true, true, true, true, true, true, true] rfl rfl (any_of HT_.out (by kernel_rfl)) (fun _ _ _ h => h) (Or.inl ⟨by rfl, ?_⟩) ?_ ?_
              rotate_left
              · intro w'
                go_simp
                with_reducible rfl
              rotate_left
              · simp only [Act.put, List.setIfInBounds_toArray, List.set_cons_zero, List.set_cons_succ, i64_w, i32_w]
                rfl
              refine done_ (done_of HT_.out (by kernel_rfl)) ?_
              try go_wp2
              go_roundg k1
              case measure => have := HK1.out; omega
              case rel => exact ⟨(t128), (wrap64 (x4_1 + 1)), (by first | rfl | (simp; done) | (simp [*]; done)), H', ⟨by have := HK1.out; omega⟩, ⟨by (with_reducible repeat (first | apply Kd.R_alloc | apply Kd.R_drewN | apply Kd.R_drew)); exact Kd.R_mono HO130.out (fun _ hk => trivial)⟩, ⟨by repeat (first | (with_reducible first | exact HB.out | apply below_alloc | apply pw_below_drewN | apply below_drew1) | exact HB.out)⟩⟩
            · rw [if_neg c9] at H
              have c9b0 : (t121 == 1) = false := beq_eq_false_iff_ne.mpr c9
              have c9b1 : (t121 != 1) = true := bne_iff_ne.mpr c9
              by_cases c15 : t121 = 2
              · rw [if_pos c15] at H
                have c15b0 : (t121 == 2) = true := beq_iff_eq.mpr c15
                have c15b1 : (t121 != 2) = false := bne_eq_false_iff_eq.mpr c15
                clear c15
                replace H := Option.bind_eq_some_iff.mp H
                obtain ⟨t133, A160, H⟩ := H
                replace H : (plumblaw16_laid.l0 k1 l0 t133 (wrap64 (x4_1 + 1))) = some r := H
                have A16 := Aside0.mk A160
                clear A160
                have H' := Aside0.mk H
                clear H
                have p120 : 0 ≤ (x4_1 : Int) := of_decide_eq_true (by first | (with_reducible assumption) | assumption)
                have q120 : x4_1 < (l0.length : Int) := of_decide_eq_true (by first | (with_reducible assumption) | assumption)
                obtain ⟨ad120, e120, hx120_0, hx120_1, hx120_2⟩ := at_T43 HR0.out x4_1 p120 q120
                cases e120
                replace hx120_0 := (HB.out.cell (World.block_lt_of_cell? w _ hx120_0)).trans hx120_0
                replace hx120_1 := (HB.out.cell (World.block_lt_of_cell? w _ hx120_1)).trans hx120_1
                replace hx120_2 := (HB.out.cell (World.block_lt_of_cell? w _ hx120_2)).trans hx120_2
                replace p120 := eq_true p120
                replace q120 := eq_true q120
                try go_wp2_with (first | ((with_reducible refine gate_callee (f := 28) rfl ?_); refine goesL_ (some 15) rfl rfl Tryd.func28 (by kernel_rfl) rfl #[.agg #[.int .i64 ((rd_T43 l0 x4_1).f0), .int .u64 ((rd_T43 l0 x4_1).f1), .bool ((rd_T43 l0 x4_1).f2)]] rfl (by (try simp only [List.map_toArray, List.map_cons, List.map_nil]); first | done | rfl | (simp only [List.length_drop, List.length_take]; rfl)) ?_; (with_reducible refine (plumblaw16_Item_wide.calls ((rd_T43 l0 x4_1).f0) ((rd_T43 l0 x4_1).f1) ((rd_T43 l0 x4_1).f2) t121 _ A4.out).mono ?_); rintro e w17 ⟨rfl, hb⟩; refine ⟨_, rfl, ?_⟩; have n0_ := Aside0.mk (Kd.R_below (by (with_reducible repeat (first | apply Kd.R_alloc | apply Kd.R_drewN | apply Kd.R_drew)); exact HO_3.out) hb); have n1_ := Aside0.mk (below_step (by repeat (first | (with_reducible first | exact HB.out | apply below_alloc | apply pw_below_drewN | apply below_drew1) | exact HB.out)) hb); clear HO_3; clear HB; have HO_3 := n0_; have HB := n1_; clear n0_ n1_; (try clear hb); (try clear hb2); (try clear hk); (try clear hi)))
                have n0_ := Aside0.mk (Kd.R_drew HO_3.out)
                have n1_ := Aside0.mk (below_drew1 HB.out)
                clear HO_3
                clear HB
                have HO_3 := n0_
                have HB := n1_
                clear n0_ n1_
                have p131 : 0 ≤ (x4_1 : Int) := of_decide_eq_true (by first | (with_reducible assumption) | assumption)
                have q131 : x4_1 < (l0.length : Int) := of_decide_eq_true (by first | (with_reducible assumption) | assumption)
                obtain ⟨ad131, e131, hx131_0, hx131_1, hx131_2⟩ := at_T43 HR0.out x4_1 p131 q131
                have hw131_2 := hx131_2
                have hw131_1 := hx131_1
                have hw131_0 := hx131_0
                obtain rfl : ad120 = ad131 := (by injection e131)
                replace hx131_0 := (HB.out.cell (World.block_lt_of_cell? w _ hx131_0)).trans hx131_0
                replace hx131_1 := (HB.out.cell (World.block_lt_of_cell? w _ hx131_1)).trans hx131_1
                replace hx131_2 := (HB.out.cell (World.block_lt_of_cell? w _ hx131_2)).trans hx131_2
                replace p131 := eq_true p131
                replace q131 := eq_true q131
                have p132 : 0 ≤ (x4_1 : Int) := of_decide_eq_true (by first | (with_reducible assumption) | assumption)
                have q132 : x4_1 < (l0.length : Int) := of_decide_eq_true (by first | (with_reducible assumption) | assumption)
                obtain ⟨ad132, e132, hx132_0, hx132_1, hx132_2⟩ := at_T43 HR0.out x4_1 p132 q132
                have hw132_2 := hx132_2
                have hw132_1 := hx132_1
                have hw132_0 := hx132_0
                obtain rfl : ad120 = ad132 := (by injection e132)
                replace hx132_0 := (HB.out.cell (World.block_lt_of_cell? w _ hx132_0)).trans hx132_0
                replace hx132_1 := (HB.out.cell (World.block_lt_of_cell? w _ hx132_1)).trans hx132_1
                replace hx132_2 := (HB.out.cell (World.block_lt_of_cell? w _ hx132_2)).trans hx132_2
                replace p132 := eq_true p132
                replace q132 := eq_true q132
                obtain ⟨Ao19, co19, eo19⟩ := Kd.R_slice HO_3.out
                (first | subst eo19 | (injection eo19 with f1_ f2_ f3_; have f4_ := f1_.symm; have f5_ := f3_.symm; clear f1_ f2_ f3_; subst f4_; subst f5_))
                refine start_ (n := 13) (S := fun w' => w'.cell? (ad120.add ((x4_1).toNat * 3)) = some (.int .i64 ((rd_T43 l0 x4_1).f0)) ∧ w'.cell? ⟨(ad120.add ((x4_1).toNat * 3)).block, (ad120.add ((x4_1).toNat * 3)).off + 1, none⟩ = some (.int .u64 ((rd_T43 l0 x4_1).f1)) ∧ w'.cell? ⟨(ad120.add ((x4_1).toNat * 3)).block, (ad120.add ((x4_1).toNat * 3)).off + 2, none⟩ = some (.bool ((rd_T43 l0 x4_1).f2)) ∧ w'.cell? (ad120.add ((x4_1).toNat * 3)) = some (.int .i64 ((rd_T43 l0 x4_1).f0)) ∧ w'.cell? ⟨(ad120.add ((x4_1).toNat * 3)).block, (ad120.add ((x4_1).toNat * 3)).off + 1, none⟩ = some (.int .u64 ((rd_T43 l0 x4_1).f1)) ∧ w'.cell? ⟨(ad120.add ((x4_1).toNat * 3)).block, (ad120.add ((x4_1).toNat * 3)).off + 2, none⟩ = some (.bool ((rd_T43 l0 x4_1).f2))) (ds := []) #[false, false, false, false, false, false, false, false, false, false, false, false, false] (by kernel_rfl) rfl rfl ⟨((HB.out.cell (World.block_lt_of_cell? w _ hw131_0)).trans hw131_0), ((HB.out.cell (World.block_lt_of_cell? w _ hw131_1)).trans hw131_1), ((HB.out.cell (World.block_lt_of_cell? w _ hw131_2)).trans hw131_2), ((HB.out.cell (World.block_lt_of_cell? w _ hw132_0)).trans hw132_0), ((HB.out.cell (World.block_lt_of_cell? w _ hw132_1)).trans hw132_1), ((HB.out.cell (World.block_lt_of_cell? w _ hw132_2)).trans hw132_2)⟩ (fun hHeld => ?_); refine with_tabW plumblaw16_laid.tab11 plumblaw16_laid.bits11 (fun HT_ HW_ => ?_)
                generalize w17.drew = w18 at HO_3 HB hx131_0 hx131_1 hx131_2 hx132_0 hx132_1 hx132_2 hHeld ⊢
                refine pure_ (i := 0) (N := some 44) (v := ?_) (a' := ?_) #[true, false, false, false, false, false, false, false, false, false, false, false, false] rfl rfl (any_of HT_.out (by kernel_rfl)) (fun _ _ _ h => h) (Or.inl ⟨by rfl, ?_⟩) ?_ ?_
                rotate_left
                · intro w'
                  go_simp
                  with_reducible rfl
                rotate_left
                · simp only [Act.put, List.setIfInBounds_toArray, List.set_cons_zero, List.set_cons_succ, i64_w, i32_w]
                  rfl
                refine pure_ (i := 1) (N := some 45) (v := ?_) (a' := ?_) #[true, true, false, false, false, false, false, false, false, false, false, false, false] rfl rfl (any_of HT_.out (by kernel_rfl)) (fun _ _ _ h => h) (Or.inl ⟨by rfl, ?_⟩) ?_ ?_
                rotate_left
                · intro w'
                  go_simp
                  with_reducible rfl
                rotate_left
                · simp only [Act.put, List.setIfInBounds_toArray, List.set_cons_zero, List.set_cons_succ, i64_w, i32_w]
                  rfl
                refine pure_ (i := 2) (N := some 46) (v := ?_) (a' := ?_) #[true, true, true, false, false, false, false, false, false, false, false, false, false] rfl rfl (any_of HT_.out (by kernel_rfl)) (fun _ _ _ h => h) (Or.inl ⟨by rfl, ?_⟩) ?_ ?_
                rotate_left
                · intro w'
                  go_simp
                  with_reducible rfl
                rotate_left
                · simp only [Act.put, List.setIfInBounds_toArray, List.set_cons_zero, List.set_cons_succ, i64_w, i32_w]
                  rfl
                refine pure_ (i := 3) (N := some 47) (v := ?_) (a' := ?_) #[true, true, true, true, false, false, false, false, false, false, false, false, false] rfl rfl (any_of HT_.out (by kernel_rfl)) (fun _ _ _ h => h) (Or.inl ⟨by rfl, ?_⟩) ?_ ?_
                rotate_left
                · intro w'
                  go_simp
                  with_reducible rfl
                rotate_left
                · simp only [Act.put, List.setIfInBounds_toArray, List.set_cons_zero, List.set_cons_succ, i64_w, i32_w]
                  rfl
                refine pure_ (i := 4) (N := some 48) (v := ?_) (a' := ?_) #[true, true, true, true, true, false, false, false, false, false, false, false, false] rfl rfl (any_of HT_.out (by kernel_rfl)) (fun _ _ _ h => h) (Or.inl ⟨by rfl, ?_⟩) ?_ ?_
                rotate_left
                · intro w'
                  go_simp
                  with_reducible rfl
                rotate_left
                · simp only [Act.put, List.setIfInBounds_toArray, List.set_cons_zero, List.set_cons_succ, i64_w, i32_w]
                  rfl
                refine pure_ (i := 6) (N := some 50) (v := ?_) (a' := ?_) #[true, true, true, true, true, false, true, false, false, false, false, false, false] rfl rfl (any_of HT_.out (by kernel_rfl)) (fun _ _ _ h => h) (Or.inl ⟨by rfl, ?_⟩) ?_ ?_
                rotate_left
                · intro w'
                  go_simp
                  with_reducible rfl
                rotate_left
                · simp only [Act.put, List.setIfInBounds_toArray, List.set_cons_zero, List.set_cons_succ, i64_w, i32_w]
                  rfl
                refine pure_ (i := 7) (N := some 51) (v := ?_) (a' := ?_) #[true, true, true, true, true, false, true, true, false, false, false, false, false] rfl rfl (any_of HT_.out (by kernel_rfl)) (fun _ _ _ h => h) (Or.inl ⟨by rfl, ?_⟩) ?_ ?_
                rotate_left
                · intro w'
                  go_simp
                  with_reducible rfl
                rotate_left
                · simp only [Act.put, List.setIfInBounds_toArray, List.set_cons_zero, List.set_cons_succ, i64_w, i32_w]
                  rfl
                refine pure_ (i := 8) (N := some 52) (v := ?_) (a' := ?_) #[true, true, true, true, true, false, true, true, true, false, false, false, false] rfl rfl (any_of HT_.out (by kernel_rfl)) (fun _ _ _ h => h) (Or.inl ⟨by rfl, ?_⟩) ?_ ?_
                rotate_left
                · intro w'
                  go_simp
                  with_reducible rfl
                rotate_left
                · simp only [Act.put, List.setIfInBounds_toArray, List.set_cons_zero, List.set_cons_succ, i64_w, i32_w]
                  rfl
                refine pure_ (i := 9) (N := some 53) (v := ?_) (a' := ?_) #[true, true, true, true, true, false, true, true, true, true, false, false, false] rfl rfl (any_of HT_.out (by kernel_rfl)) (fun _ _ _ h => h) (Or.inl ⟨by rfl, ?_⟩) ?_ ?_
                rotate_left
                · intro w'
                  go_simp
                  with_reducible rfl
                rotate_left
                · simp only [Act.put, List.setIfInBounds_toArray, List.set_cons_zero, List.set_cons_succ, i64_w, i32_w]
                  rfl
                refine take_ (i := 5) (N := some 49) (v := ?_) (a' := ?_) #[true, true, true, true, true, true, true, true, true, true, false, false, false] rfl rfl (take_ofW HT_.out HW_.out (by kernel_rfl)) (fun _ _ _ h => h) (Or.inl ⟨by rfl, ?_⟩) hHeld ?_ ?_
                rotate_left
                · rintro w' ⟨s0, s1, s2, s3, s4, s5⟩
                  go_simp
                  with_reducible rfl
                rotate_left
                · simp only [Act.put, List.setIfInBounds_toArray, List.set_cons_zero, List.set_cons_succ, i64_w, i32_w]
                  rfl
                refine take_ (i := 10) (N := some 54) (v := ?_) (a' := ?_) #[true, true, true, true, true, true, true, true, true, true, true, false, false] rfl rfl (take_ofW HT_.out HW_.out (by kernel_rfl)) (fun _ _ _ h => h) (Or.inl ⟨by rfl, ?_⟩) hHeld ?_ ?_
                rotate_left
                · rintro w' ⟨s0, s1, s2, s3, s4, s5⟩
                  go_simp
                  with_reducible rfl
                rotate_left
                · simp only [Act.put, List.setIfInBounds_toArray, List.set_cons_zero, List.set_cons_succ, i64_w, i32_w]
                  rfl
                refine one_ (i := 11) (N := some 55) #[true, true, true, true, true, true, true, true, true, true, true, true, false] rfl rfl (one_of HT_.out (by kernel_rfl)) (by decide) (fun K hK => ?_)
                refine goes_ Tryd.func37 (by kernel_rfl) rfl #[.slice Ao19 x3_1.length co19, .int .u64 ((rd_T43 l0 x4_1).f1), .bool ((rd_T43 l0 x4_1).f2)] (by rfl) rfl rfl (by (try simp only [List.map_toArray, List.map_cons, List.map_nil]); first | done | rfl | (simp only [List.length_drop, List.length_take]; rfl)) ?_
                with_reducible refine (octet_Put64.calls _ _ x3_1 ((rd_T43 l0 x4_1).f1) ((rd_T43 l0 x4_1).f2) t133 _ ?side1 ?side2 A16.out).mono ?_
                (case side1 => repeat (first | exact (Kd.R_reads' HO_3.out).2.2 | (with_reducible refine Kd.C_alloc ?_ _) | (with_reducible refine Kd.C_drewN ?_ _) | (with_reducible refine Kd.C_drew ?_)))
                (case side2 => exact (Kd.R_reads' HO_3.out).2.1)
                rintro e w20 ⟨v134, rfl, ho0, hb⟩
                refine ⟨_, rfl, ?_⟩
                have n0_ := Aside0.mk (Kd.R_elder' (by (with_reducible repeat (first | apply Kd.R_alloc | apply Kd.R_drewN | apply Kd.R_drew)); exact HO_3.out) (Kd.R_base ho0) hb)
                have n1_ := Aside0.mk (Kd.R_lower (Kd.R_new' ho0 (Kd.R_lt (by (with_reducible repeat (first | apply Kd.R_alloc | apply Kd.R_drewN | apply Kd.R_drew)); exact HO_3.out))) (below_size (by repeat (first | (with_reducible first | exact HB.out | apply below_alloc | apply pw_below_drewN | apply below_drew1) | exact HB.out))))
                have n2_ := Aside0.mk (below_step (by repeat (first | (with_reducible first | exact HB.out | apply below_alloc | apply pw_below_drewN | apply below_drew1) | exact HB.out)) hb)
                clear HO_3
                clear HB
                have HO_3 := n0_
                have HO135 := n1_
                have HB := n2_
                clear n0_ n1_ n2_
                (try clear hb)
                (try clear hb2)
                (try clear hk)
                (try clear hi)
                (try clear ho0)
                refine hK.out _ _ ⟨((HB.out.cell (World.block_lt_of_cell? w _ hw131_0)).trans hw131_0), ((HB.out.cell (World.block_lt_of_cell? w _ hw131_1)).trans hw131_1), ((HB.out.cell (World.block_lt_of_cell? w _ hw131_2)).trans hw131_2), ((HB.out.cell (World.block_lt_of_cell? w _ hw132_0)).trans hw132_0), ((HB.out.cell (World.block_lt_of_cell? w _ hw132_1)).trans hw132_1), ((HB.out.cell (World.block_lt_of_cell? w _ hw132_2)).trans hw132_2)⟩ (fun hHeld => ?_)
                clear hK K
                refine norm_ (a' := ?_) ?_ ?_
                rotate_left
                · show Act.put _ (some 55) _ = _
                  simp only [Act.put, List.setIfInBounds_toArray, List.set_cons_zero, List.set_cons_succ, i64_w, i32_w]
                  rfl
                refine pure_ (i := 12) (N := some 3) (v := ?_) (a' := ?_) #[true, true, true, true, true, true, true, true, true, true, true, true, true] rfl rfl (any_of HT_.out (by kernel_rfl)) (fun _ _ _ h => h) (Or.inl ⟨by rfl, ?_⟩) ?_ ?_
                rotate_left
                · intro w'
                  go_simp
                  with_reducible rfl
                rotate_left
                · simp only [Act.put, List.setIfInBounds_toArray, List.set_cons_zero, List.set_cons_succ, i64_w, i32_w]
                  rfl
                refine done_ (done_of HT_.out (by kernel_rfl)) ?_
                try go_wp2
                go_roundg k1
                case measure => have := HK1.out; omega
                case rel => exact ⟨(t133), (wrap64 (x4_1 + 1)), (by first | rfl | (simp; done) | (simp [*]; done)), H', ⟨by have := HK1.out; omega⟩, ⟨by (with_reducible repeat (first | apply Kd.R_alloc | apply Kd.R_drewN | apply Kd.R_drew)); exact Kd.R_mono HO135.out (fun _ hk => trivial)⟩, ⟨by repeat (first | (with_reducible first | exact HB.out | apply below_alloc | apply pw_below_drewN | apply below_drew1) | exact HB.out)⟩⟩
              · rw [if_neg c15] at H
                have c15b0 : (t121 == 2) = false := beq_eq_false_iff_ne.mpr c15
                have c15b1 : (t121 != 2) = true := bne_iff_ne.mpr c15
                have H' := Aside0.mk H
                clear H
                have p120 : 0 ≤ (x4_1 : Int) := of_decide_eq_true (by first | (with_reducible assumption) | assumption)
                have q120 : x4_1 < (l0.length : Int) := of_decide_eq_true (by first | (with_reducible assumption) | assumption)
                obtain ⟨ad120, e120, hx120_0, hx120_1, hx120_2⟩ := at_T43 HR0.out x4_1 p120 q120
                cases e120
                replace hx120_0 := (HB.out.cell (World.block_lt_of_cell? w _ hx120_0)).trans hx120_0
                replace hx120_1 := (HB.out.cell (World.block_lt_of_cell? w _ hx120_1)).trans hx120_1
                replace hx120_2 := (HB.out.cell (World.block_lt_of_cell? w _ hx120_2)).trans hx120_2
                replace p120 := eq_true p120
                replace q120 := eq_true q120
                go_wp2_with (first | ((with_reducible refine gate_callee (f := 28) rfl ?_); refine goesL_ (some 15) rfl rfl Tryd.func28 (by kernel_rfl) rfl #[.agg #[.int .i64 ((rd_T43 l0 x4_1).f0), .int .u64 ((rd_T43 l0 x4_1).f1), .bool ((rd_T43 l0 x4_1).f2)]] rfl (by (try simp only [List.map_toArray, List.map_cons, List.map_nil]); first | done | rfl | (simp only [List.length_drop, List.length_take]; rfl)) ?_; (with_reducible refine (plumblaw16_Item_wide.calls ((rd_T43 l0 x4_1).f0) ((rd_T43 l0 x4_1).f1) ((rd_T43 l0 x4_1).f2) t121 _ A4.out).mono ?_); rintro e w21 ⟨rfl, hb⟩; refine ⟨_, rfl, ?_⟩; have n0_ := Aside0.mk (Kd.R_below (by (with_reducible repeat (first | apply Kd.R_alloc | apply Kd.R_drewN | apply Kd.R_drew)); exact HO_3.out) hb); have n1_ := Aside0.mk (below_step (by repeat (first | (with_reducible first | exact HB.out | apply below_alloc | apply pw_below_drewN | apply below_drew1) | exact HB.out)) hb); clear HO_3; clear HB; have HO_3 := n0_; have HB := n1_; clear n0_ n1_; (try clear hb); (try clear hb2); (try clear hk); (try clear hi)))
                go_roundg k1
                case measure => have := HK1.out; omega
                case rel => exact ⟨(x3_1), (wrap64 (x4_1 + 1)), (by first | rfl | (simp; done) | (simp [*]; done)), H', ⟨by have := HK1.out; omega⟩, ⟨by (with_reducible repeat (first | apply Kd.R_alloc | apply Kd.R_drewN | apply Kd.R_drew)); exact HO_3.out⟩, ⟨by repeat (first | (with_reducible first | exact HB.out | apply below_alloc | apply pw_below_drewN | apply below_drew1) | exact HB.out)⟩⟩
        · rw [if_neg c3] at H
          exact absurd H (by simp)
      · rw [if_neg c2] at H
        have c2b0 : decide (x4_1 < (l0.length : Int)) = false := decide_eq_false c2
        clear c2
        obtain rfl := Option.some.inj H
        go_wp2
        go_ret
        exact ⟨_, by first | rfl | (simp [errW_none, errW_some] <;> rfl) | (simp [*, errW_none, errW_some] <;> rfl), by (with_reducible repeat (first | apply Kd.R_alloc | apply Kd.R_drewN | apply Kd.R_drew)); exact HO_3.out, by repeat (first | (with_reducible first | exact HB.out | apply below_alloc | apply pw_below_drewN | apply below_drew1) | exact HB.out)⟩

end Go.Proofs.YtenomaibgpbonaaDoor.POctetBack
