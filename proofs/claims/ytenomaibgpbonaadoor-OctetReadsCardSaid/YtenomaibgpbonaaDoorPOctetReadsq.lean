/- The reference's reader of octets: its methods' contracts. No conditions. -/
import Derived.Test.YtenomaibgpbonaaDoorPOctetReadsx2
import Derived.BigQuiet
namespace Go.Proofs.YtenomaibgpbonaaDoor.Pure
open Go.RowKit Go.Proofs.YtenomaibgpbonaaDoorW.PrintWords Go.Proofs.YtenomaibgpbonaaDoorW.PrintLast Go.Proofs.YtenomaibgpbonaaDoorW.PrintMore Go.Proofs.YtenomaibgpbonaaDoor.POctetReads
/-- The reference's reader. -/
def IsQ (w0 W : World) (g : Nat) (f0 : List Int) (f1 f2 f3 : Int) : Prop := ∃ w1 A0 c0, Below w0.heap.size w0 w1 ∧ Below w1.heap.size w1 W ∧ w1.heap.size ≤ g ∧ W.heap[g]? = some (.cells #[.slice A0 f0.length c0, .int .i64 f1, .int .i64 f2, .int .i64 f3] 35 (0, 0)) ∧ Kd.C (Kd.int .u8) w1 A0 f0.length f0 ∧ f0.length ≤ c0
theorem cellQ_0 {W : World} {g : Nat} {A0 : Option Addr} {c0 n : Nat} {f1 f2 f3 : Int} (h : W.heap[g]? = some (.cells #[.slice A0 n c0, .int .i64 f1, .int .i64 f2, .int .i64 f3] 35 (0, 0))) : W.cell? ⟨g, 0, none⟩ = some (.slice A0 n c0) := (blk_cell h 0).trans rfl
theorem cellQ_1 {W : World} {g : Nat} {A0 : Option Addr} {c0 n : Nat} {f1 f2 f3 : Int} (h : W.heap[g]? = some (.cells #[.slice A0 n c0, .int .i64 f1, .int .i64 f2, .int .i64 f3] 35 (0, 0))) : W.cell? ⟨g, 1, none⟩ = some (.int .i64 f1) := (blk_cell h 1).trans rfl
theorem cellQ_2 {W : World} {g : Nat} {A0 : Option Addr} {c0 n : Nat} {f1 f2 f3 : Int} (h : W.heap[g]? = some (.cells #[.slice A0 n c0, .int .i64 f1, .int .i64 f2, .int .i64 f3] 35 (0, 0))) : W.cell? ⟨g, 2, none⟩ = some (.int .i64 f2) := (blk_cell h 2).trans rfl
theorem cellQ_3 {W : World} {g : Nat} {A0 : Option Addr} {c0 n : Nat} {f1 f2 f3 : Int} (h : W.heap[g]? = some (.cells #[.slice A0 n c0, .int .i64 f1, .int .i64 f2, .int .i64 f3] 35 (0, 0))) : W.cell? ⟨g, 3, none⟩ = some (.int .i64 f3) := (blk_cell h 3).trans rfl
theorem below_set' {B : Nat} {w W : World} {g j : Nat} {v : Value} (h : Below B w W) (hg : B ≤ g) : Below B w (W.setCell ⟨g, j, none⟩ v) := h.setCell hg _
set_option maxHeartbeats 4000000 in
set_option maxRecDepth 100000 in
theorem read_bad (g : Nat) (f0 : List Int) (f1 f2 f3 n : Int) (le : Bool) (w0 w : World) (hI : IsQ w0 w g f0 f1 f2 f3) (he : f2 ≠ 0) :
    Calls Tryd.prog 29 #[.pointer (some ⟨g, 0, none⟩), .int .i64 n, .bool le] w fun e w' => e = .returned (.int .u64 0) ∧ IsQ w0 w' g f0 f1 f2 f3 ∧ KeepBut w w' g none := by
  obtain ⟨w1, A0, c0, h1, h2, hg, hb, hr0, hc0⟩ := hI
  have e2 := cellQ_2 hb
  have q1 : (f2 == 0) = false := beq_eq_false_iff_ne.mpr he
  have q2 : (f2 != 0) = true := bne_iff_ne.mpr he
  have H := Aside0.mk (⟨w1, A0, c0, h1, h2, hg, hb, hr0, hc0⟩ : IsQ w0 w g f0 f1 f2 f3)
  clear hb hr0 h1 h2
  go_enter Tryd.func29, Tryd.ntmps29
  go_wp2_with fail
  go_ret
  exact ⟨rfl, H.out, KeepBut.refl w g none⟩
set_option maxHeartbeats 4000000 in
set_option maxRecDepth 100000 in
theorem read_short (g : Nat) (f0 : List Int) (f1 f3 n : Int) (le : Bool) (w0 w : World) (hI : IsQ w0 w g f0 f1 0 f3) (h0 : 0 ≤ f1) (h1 : f1 ≤ f0.length) (hn : (f0.length : Int) - f1 < n) (hl : f0.length ≤ 9223372036854775807) :
    Calls Tryd.prog 29 #[.pointer (some ⟨g, 0, none⟩), .int .i64 n, .bool le] w fun e w' => e = .returned (.int .u64 0) ∧ IsQ w0 w' g f0 f1 160 f1 ∧ KeepBut w w' g none := by
  obtain ⟨w1, A0, c0, b1, b2, hg, hb, hr0, hc0⟩ := hI
  have e2 := cellQ_2 hb
  have e1 := cellQ_1 hb
  have e3 := cellQ_3 hb
  have e0 := cellQ_0 hb
  have z2 : w.frozen? ⟨g, 2, none⟩ = false := by simp [World.frozen?, hb]
  have z3 : w.frozen? ⟨g, 3, none⟩ = false := by simp [World.frozen?, hb]
  have q1 : IntKind.i64.wrap ((f0.length : Int) - f1) = (f0.length : Int) - f1 := by rw [i64_w]; unfold wrap64; omega
  have q2 : decide ((f0.length : Int) - f1 < n) = true := decide_eq_true hn
  have HB := Aside0.mk hb
  have HR := Aside0.mk hr0
  have B1 := Aside0.mk b1
  have B2 := Aside0.mk b2
  clear hb hr0 b1 b2
  go_enter Tryd.func29, Tryd.ntmps29
  go_wp2_with fail
  go_quiet (fail)
  go_wp2_with fail
  go_ret
  refine ⟨rfl, ⟨w1, A0, c0, B1.out, (below_set' (below_set' (pw_below_drewN B2.out _) hg) hg), hg, ?_, HR.out, hc0⟩, ?_⟩
  · simpa using blk_set (blk_set (blk_drewN HB.out _) 2 (.int .i64 160)) 3 (.int .i64 f1)
  · exact KeepBut.set_ (KeepBut.set_ (KeepBut.of_below (pw_below_drewN (Below.refl _ _) _) g none) 2 _) 3 _
set_option maxHeartbeats 4000000 in
set_option maxRecDepth 100000 in
theorem read_some (k g : Nat) (f0 : List Int) (f1 f3 n v : Int) (le : Bool) (w0 w : World) (hI : IsQ w0 w g f0 f1 0 f3) (h0 : 0 ≤ f1) (h1 : f1 + n ≤ f0.length) (hn : 0 < n ∧ n ≤ 8) (hl : f0.length ≤ 9223372036854775807) (hk : plumbref16_Number.f k ((f0.drop f1.toNat).take n.toNat) le = some v) :
    Calls Tryd.prog 29 #[.pointer (some ⟨g, 0, none⟩), .int .i64 n, .bool le] w fun e w' => e = .returned (.int .u64 v) ∧ IsQ w0 w' g f0 (f1 + n) 0 f3 ∧ KeepBut w w' g none := by
  obtain ⟨w1, A0, c0, b1, b2, hg, hb, hr0, hc0⟩ := hI
  have e2 := cellQ_2 hb
  have e1 := cellQ_1 hb
  have e0 := cellQ_0 hb
  have z1 : w.frozen? ⟨g, 1, none⟩ = false := by simp [World.frozen?, hb]
  have q1 : IntKind.i64.wrap ((f0.length : Int) - f1) = (f0.length : Int) - f1 := by rw [i64_w]; unfold wrap64; omega
  have q2 : decide ((f0.length : Int) - f1 < n) = false := decide_eq_false (by omega)
  have q3 : wrap64 (f1 + n) = f1 + n := by unfold wrap64; omega
  have q3b : IntKind.i64.wrap (f1 + n) = f1 + n := (i64_w _).trans q3
  have q7 : (f1 + n ≤ (c0 : Int)) = True := eq_true (by omega)
  have q8 : (0 ≤ f1 + n) = True := eq_true (by omega)
  obtain ⟨P, rfl⟩ := Int.eq_ofNat_of_zero_le h0
  obtain ⟨m, rfl⟩ := Int.eq_ofNat_of_zero_le (show 0 ≤ n by omega)
  have q4 : (0 ≤ ((P : Nat) : Int)) = True := eq_true (by omega)
  have q5 : ((P : Int) ≤ (P : Int) + (m : Int)) = True := eq_true (by omega)
  have q6 : ((P : Int) + (m : Int) ≤ (f0.length : Int)) = True := eq_true h1
  have HB := Aside0.mk hb
  have HR := Aside0.mk hr0
  have B1 := Aside0.mk b1
  have B2 := Aside0.mk b2
  obtain ⟨ad, rfl, _⟩ := Kd.at_int hr0 0 (by omega) (by omega)
  obtain ⟨cs, hcs⟩ : ∃ cs, (f0.drop ((P : Int)).toNat).take ((m : Int)).toNat = cs := ⟨_, rfl⟩
  have hcl : cs.length = m := by rw [← hcs, List.length_take, List.length_drop]; omega
  have hC : Kd.C (Kd.int .u8) w1 (some (ad.add P)) cs.length cs := by
    obtain ⟨r1, r2, r3⟩ := hr0
    refine ⟨rfl, by omega, fun hp => ⟨_, rfl, fun j p hj => ?_⟩⟩
    obtain ⟨ad', e, hc⟩ := r3 (by omega)
    obtain rfl := Option.some.inj e
    have hjl : j < m := by have := (List.getElem?_eq_some_iff.1 hj).1; omega
    rw [← hcs, List.getElem?_take_of_lt (by omega), List.getElem?_drop] at hj
    obtain ⟨c, h1, h2, h3⟩ := hc _ p hj
    refine ⟨c, h1, h2, fun i u hu => ?_⟩
    have := h3 i u hu
    rw [Addr.add_add]
    rw [show P + (j * (Kd.int .u8).sz + i) = (((P : Int)).toNat + j) * (Kd.int .u8).sz + i from by rw [Int.toNat_natCast, Nat.add_mul, show P * (Kd.int .u8).sz = P from Nat.mul_one P]; omega]
    exact this
  rw [hcs] at hk
  clear hcs
  subst hcl
  have q9 : P + cs.length - P = cs.length := by omega
  have hcc : cs.length ≤ c0 - P := by omega
  have HC := Aside0.mk hC
  have HCC := Aside0.mk hcc
  have HK := Aside0.mk hk
  clear hb hr0 b1 b2 hk hC hcc
  go_enter Tryd.func29, Tryd.ntmps29
  go_wp2_with fail
  go_quiet (fail)
  go_wp2_with fail
  obtain ⟨w9, hw9⟩ : ∃ w9, w.drewN nq = w9 := ⟨_, rfl⟩
  have hb9 := blk_drewN HB.out nq
  have b29 := pw_below_drewN B2.out nq
  have k9 := KeepBut.of_below (pw_below_drewN (Below.refl w.heap.size w) nq) g none
  rw [hw9] at hb9 b29 k9 ⊢
  clear e1 e0 z1
  have e1 := cellQ_1 hb9
  have e0 := cellQ_0 hb9
  have z1 : w9.frozen? ⟨g, 1, none⟩ = false := by simp [World.frozen?, hb9]
  have HB9 := Aside0.mk hb9
  have B29 := Aside0.mk b29
  have K9 := Aside0.mk k9
  clear hw9 hb9 b29 k9
  have hne : ¬ (c0 = P) := by omega
  have eT : ((P : Int) + (cs.length : Int)).toNat - P = cs.length := by omega
  have HQ := Aside0.mk (fun n => (plumbref16_Number.calls k (some (ad.add P)) (c0 - P) cs le v (w9.drewN n) (Kd.C_drewN (Kd.C_below HC.out B29.out) n) HCC.out HK.out))
  go_quiet ((go_at_call 38; refine (HQ.out _).mono ?_; rintro e w' ⟨rfl, ⟨nd, rfl⟩⟩; exact ⟨rfl, _, World.drewN_drewN _ _ _⟩))
  go_wp2_with fail
  go_ret
  refine ⟨rfl, ⟨w1, some ad, c0, B1.out, below_set' (pw_below_drewN B29.out _) hg, hg, ?_, HR.out, hc0⟩, ?_⟩
  · simpa using blk_set (blk_drewN HB9.out _) 1 (.int .i64 ((P : Int) + (cs.length : Int)))
  · exact KeepBut.set_ (keep_drewN K9.out _) 1 _
theorem new_info : (Tryd.prog.info? 5).map (fun i => (i.zero, i.size, i.bytes)) = some (some (.int .u8 0), 1, 1) := by kernel_rfl
set_option maxHeartbeats 8000000 in
set_option maxRecDepth 100000 in
theorem new_any (A0 : Option Addr) (c0 : Nat) (l0 : List Int) (w : World) (hr0 : Kd.C (Kd.int .u8) w A0 l0.length l0) (hc0 : l0.length ≤ c0) (hl : l0.length < 140737488355328) :
    Calls Tryd.prog 10 #[.slice A0 l0.length c0] w fun e w' => ∃ g_ : Nat, e = .returned (.pointer (some ⟨g_, 0, none⟩)) ∧ IsQ w w' g_ l0 0 0 0 ∧ Below w.heap.size w w' := by
  have hu35 := Tryd.underlying35
  have HR0 := Aside0.mk hr0
  have HC0 := Aside0.mk hc0
  have HB := Aside0.mk (Below.refl w.heap.size w)
  clear hr0 hc0
  obtain ⟨y101, hy101⟩ : ∃ y_ : List Int, y_ = (([] : List Int)) := ⟨_, rfl⟩
  have c2 : y101.length + l0.length < 140737488355328 := by rw [hy101]; simpa using hl
  have LMc2 := Aside0.mk c2
  clear c2
  have Ny101 := Aside0.mk hy101
  clear hy101
  obtain ⟨y104, hy104⟩ : ∃ y_ : List Int, y_ = (y101 ++ l0) := ⟨_, rfl⟩
  have Ny104 := Aside0.mk hy104
  clear hy104
  go_enter Tryd.func10, Tryd.ntmps10
  go_wp2_with (first | ((with_reducible refine gate_dst (N := 3) rfl ?_); refine Kd.R_lit (Kd.int .u8) _ 5 ?hg (N := 3) ?hd (xs := ([] : List Int)) (inner := []) (ok := fun _ => True) (okp := fun _ => True) ?hr ?hp (fun _ hk => hk) trivial (Below.refl _ _) (Nat.le_refl _) (by simp) ?_; (case hd => rfl); (case hg => rfl); (case hr => first | (go_simp; done) | (go_simp; rfl)); (case hp => exact (Reps.none _ _)); intro v102 w3 ho4 hb hg_ hnew_; clear hg_ hnew_; (first | rw [← Ny101.out] at ho4 | (simp only [Int.reduceToNat] at ho4; rw [← Ny101.out] at ho4)); have n0_ := Aside0.mk (Kd.R_lower ho4 (below_size (by repeat (first | (with_reducible first | exact HB.out | apply below_alloc | apply pw_below_drewN | apply below_drew1) | exact HB.out)))); have n1_ := Aside0.mk (below_step (by repeat (first | (with_reducible first | exact HB.out | apply below_alloc | apply pw_below_drewN | apply below_drew1) | exact HB.out)) hb); clear HB; have HO103 := n0_; have HB := n1_; clear n0_ n1_; clear hb ho4) | ((with_reducible refine gate_builtin (b := .append) (xs := #[.tmp 3, .tmp 4]) rfl ?_); at_builtin; refine Kd.R_append_rows (Kd.int .u8) (w0 := w) w.heap.size rfl (.tmp 3) (.tmp 4) 22 5 (.int .u8 0) 1 rfl Tryd.underlying22 new_info rfl (by decide) (by omega) v102 y101 l0 _ _ _ (fun _ => True) (fun _ => False) rfl rfl ?aO ?aR (fun _ _ h => h) (fun _ h => h.elim) ?aF ?aB ?aS ?aL ?_; (case aR => repeat (first | exact (Kd.C_below HR0.out HB.out) | (with_reducible refine Kd.C_alloc ?_ _) | (with_reducible refine Kd.C_drewN ?_ _) | (with_reducible refine Kd.C_drew ?_))); (case aB => exact (by repeat (first | (with_reducible first | exact HB.out | apply below_alloc | apply pw_below_drewN | apply below_drew1) | exact HB.out))); (case aF => exact (fun _ _ => trivial)); (case aO => exact (by (with_reducible repeat (first | apply Kd.R_alloc | apply Kd.R_drewN | apply Kd.R_drew)); exact HO103.out)); (case aS => exact (below_size (by repeat (first | (with_reducible first | exact HB.out | apply below_alloc | apply pw_below_drewN | apply below_drew1) | exact HB.out)))); (case aL => have := LMc2.out; omega); intro v105 w5 ho hb hg hat; rw [← Ny104.out] at ho; have n0_ := Aside0.mk (hb); have n1_ := Aside0.mk (ho); clear HB; clear HO103; have HB := n0_; have HO106 := n1_; clear n0_ n1_; clear ho hb hg hat; obtain ⟨Ao6, co6, eo6⟩ := Kd.R_slice HO106.out; subst eo6; have HC5 := Aside0.mk (Kd.R_reads' HO106.out); have HB5 := Aside0.mk HB.out) | ((with_reducible refine gate_dst (N := 7) rfl ?_); refine box_event ?hg (N := 7) ?hd (cs := #[.slice Ao6 y104.length co6, .int .i64 0, .int .i64 0, .int .i64 0]) (t := 35) ?hr ?_; (case hd => rfl); (case hg => rfl); (case hr => first | (go_simp; done) | (go_simp; rfl)); intro gb107 hg w7 hbox hb; have HG5 := Aside0.mk hg; have HB57 := Aside0.mk hb; have n2_ := Aside0.mk (below_step HB.out hb); have n3_ := Aside0.mk hbox; clear HO106; clear HB; have HB := n2_; have BK107 := n3_; clear n2_ n3_; clear hb hbox hg))
  go_ret
  have ey : y104 = l0 := by rw [Ny104.out, Ny101.out]; rfl
  subst ey
  exact ⟨gb107, rfl, ⟨_, _, _, HB5.out, HB57.out, Nat.le_of_eq HG5.out.symm, BK107.out, HC5.out.2.2, HC5.out.2.1⟩, HB.out⟩
end Go.Proofs.YtenomaibgpbonaaDoor.Pure
