/- The reference's pen: numbers, points. No conditions but those told. -/
import Derived.Test.YtiiolhnpnlmkjaaDoorTGeoB
import Derived.Test.YtiiolhnpnlmkjaaDoorPWkbPrintsx3
import Derived.Deep.QuietTactic
import Derived.BigQuiet
namespace Go.Proofs.YtiiolhnpnlmkjaaDoor.Tree
open Go.RowKit Go.Proofs.YtiiolhnpnlmkjaaDoor.PWkbPrints Go.Proofs.YtiiolhnpnlmkjaaDoorW.PrintWords Go.Proofs.YtiiolhnpnlmkjaaDoorW.PrintLast Go.Proofs.YtiiolhnpnlmkjaaDoorW.PrintMore
set_option linter.unusedVariables false
set_option linter.unusedSimpArgs false
attribute [local go_sem] Oper.semAt_some max2_int max_two min2_int min_two
theorem shr_at (x : Int) (j : Nat) (hj : j ≤ 7) : shr .u64 x (IntKind.u64.wrap (wrap64 (8 * (j : Int)))) = x / 2 ^ (8 * j) := by
  have e : IntKind.u64.wrap (wrap64 (8 * (j : Int))) = ((8 * j : Nat) : Int) := by rw [IntKind.wrap_u64]; unfold wrap64; omega
  rw [e]
  unfold shr
  rw [Int.toNat_natCast, show IntKind.u64.bits = 64 from rfl, Nat.min_eq_left (by omega)]
theorem wrap_at (j : Nat) (hj : j ≤ 7) : 0 ≤ IntKind.u64.wrap (wrap64 (8 * (j : Int))) := by rw [IntKind.wrap_u64]; unfold wrap64; omega
theorem put_le (k : Nat) (l : List Int) (x : Int) (sz i : Nat) (hi : i < sz) (hs : sz ≤ 8) (hl : l.length ≤ 140737488355000) : plumbref17_put.l0 (k + 1) l x (sz : Int) true (i : Int) = plumbref17_put.l0 k (l ++ [x / 2 ^ (8 * i) % 256]) x (sz : Int) true ((i + 1 : Nat) : Int) := by
  rw [plumbref17_put.l0, if_pos (by omega), if_pos rfl, if_pos (wrap_at i (by omega)), if_pos (by omega), shr_at x i (by omega), show wrap64 ((i : Int) + 1) = ((i + 1 : Nat) : Int) from by unfold wrap64; omega]
theorem put_be (k : Nat) (l : List Int) (x : Int) (sz i j : Nat) (hi : i < sz) (hj : j = sz - 1 - i) (hs : sz ≤ 8) (hl : l.length ≤ 140737488355000) : plumbref17_put.l0 (k + 1) l x (sz : Int) false (i : Int) = plumbref17_put.l0 k (l ++ [x / 2 ^ (8 * j) % 256]) x (sz : Int) false ((i + 1 : Nat) : Int) := by
  rw [plumbref17_put.l0, if_pos (by omega), if_neg (by simp), show wrap64 (wrap64 ((sz : Int) - 1) - (i : Int)) = (j : Int) from by unfold wrap64; omega, if_pos (wrap_at j (by omega)), if_pos (by omega), shr_at x j (by omega), show wrap64 ((i : Int) + 1) = ((i + 1 : Nat) : Int) from by unfold wrap64; omega]
theorem put_end (k : Nat) (l : List Int) (x : Int) (sz : Nat) (le : Bool) : plumbref17_put.l0 (k + 1) l x (sz : Int) le (sz : Int) = some l := by
  rw [plumbref17_put.l0, if_neg (by omega)]
theorem put4 (l : List Int) (x : Int) (le : Bool) (hl : l.length ≤ 140737488350000) : plumbref17_put.f 5 l x 4 le = some (l ++ P32 x le) := by
  unfold plumbref17_put.f
  cases le with
  | true =>
    rw [show (0 : Int) = ((0 : Nat) : Int) from rfl, show (4 : Int) = ((4 : Nat) : Int) from rfl, put_le 4 l x 4 0 (by omega) (by omega) (by omega), put_le 3 _ x 4 1 (by omega) (by omega) (by simp; omega), put_le 2 _ x 4 2 (by omega) (by omega) (by simp; omega), put_le 1 _ x 4 3 (by omega) (by omega) (by simp; omega), put_end]
    simp [P32, octet_put_uint32.out]
  | false =>
    rw [show (0 : Int) = ((0 : Nat) : Int) from rfl, show (4 : Int) = ((4 : Nat) : Int) from rfl, put_be 4 l x 4 0 3 (by omega) rfl (by omega) (by omega), put_be 3 _ x 4 1 2 (by omega) rfl (by omega) (by simp; omega), put_be 2 _ x 4 2 1 (by omega) rfl (by omega) (by simp; omega), put_be 1 _ x 4 3 0 (by omega) rfl (by omega) (by simp; omega), put_end]
    simp [P32, octet_put_uint32.out]
theorem put8 (l : List Int) (x : Int) (le : Bool) (hl : l.length ≤ 140737488350000) : plumbref17_put.f 9 l x 8 le = some (l ++ P64 [] x le) := by
  unfold plumbref17_put.f
  cases le with
  | true =>
    rw [show (0 : Int) = ((0 : Nat) : Int) from rfl, show (8 : Int) = ((8 : Nat) : Int) from rfl, put_le 8 l x 8 0 (by omega) (by omega) (by omega), put_le 7 _ x 8 1 (by omega) (by omega) (by simp; omega), put_le 6 _ x 8 2 (by omega) (by omega) (by simp; omega), put_le 5 _ x 8 3 (by omega) (by omega) (by simp; omega), put_le 4 _ x 8 4 (by omega) (by omega) (by simp; omega), put_le 3 _ x 8 5 (by omega) (by omega) (by simp; omega), put_le 2 _ x 8 6 (by omega) (by omega) (by simp; omega), put_le 1 _ x 8 7 (by omega) (by omega) (by simp; omega), put_end]
    simp [P64, octet_put_uint64.out]
  | false =>
    rw [show (0 : Int) = ((0 : Nat) : Int) from rfl, show (8 : Int) = ((8 : Nat) : Int) from rfl, put_be 8 l x 8 0 7 (by omega) rfl (by omega) (by omega), put_be 7 _ x 8 1 6 (by omega) rfl (by omega) (by simp; omega), put_be 6 _ x 8 2 5 (by omega) rfl (by omega) (by simp; omega), put_be 5 _ x 8 3 4 (by omega) rfl (by omega) (by simp; omega), put_be 4 _ x 8 4 3 (by omega) rfl (by omega) (by simp; omega), put_be 3 _ x 8 5 2 (by omega) rfl (by omega) (by simp; omega), put_be 2 _ x 8 6 1 (by omega) rfl (by omega) (by simp; omega), put_be 1 _ x 8 7 0 (by omega) rfl (by omega) (by simp; omega), put_end]
    simp [P64, octet_put_uint64.out]
theorem P64_app (l : List Int) (x : Int) (le : Bool) : P64 l x le = l ++ P64 [] x le := by unfold P64 octet_put_uint64.out; split <;> simp
/-- A row that is lent to a call and comes back longer. -/
structure Rw (w0 W : World) (u : Value) (xs : List Int) : Prop where
  r : kB.R 5 W w0.heap.size (fun _ => True) u xs
  K : Below w0.heap.size w0 W
/-- Between two worlds one row is changed alone. -/
structure Lv (W W' : World) (u u' : Value) : Prop where
  s : W.heap.size ≤ W'.heap.size
  k : ∀ j, j < W.heap.size → some j ≠ u.ownBlock → W'.heap[j]? = W.heap[j]?
  a : u'.ownBlock = u.ownBlock ∨ ∃ b, u'.ownBlock = some b ∧ W.heap.size ≤ b
theorem Lv.mv {W W' : World} {u u' : Value} (h : Lv W W' u u') (gp : Nat) : Mv W W' gp u u' := ⟨h.s, fun j hj _ hr => h.k j hj hr, h.a⟩
theorem Lv.trans {W W' W2 : World} {v v' v2 : Value} (h : Lv W W' v v') (k : Lv W' W2 v' v2) : Lv W W2 v v2 := by
  refine ⟨Nat.le_trans h.s k.s, fun j hj hr => ?_, ?_⟩
  · refine (k.k j (Nat.lt_of_lt_of_le hj h.s) (fun e => ?_)).trans (h.k j hj hr)
    rcases h.a with ha | ⟨b, hb, hle⟩
    · exact hr (ha ▸ e)
    · rw [hb] at e
      injection e with e
      omega
  · rcases k.a with ka | ⟨b, hb, hle⟩
    · rcases h.a with ha | ⟨b, hb, hle⟩
      · exact .inl (ka.trans ha)
      · exact .inr ⟨b, ka.trans hb, hle⟩
    · exact .inr ⟨b, hb, Nat.le_trans h.s hle⟩
theorem Lv.refl (W : World) (u : Value) : Lv W W u u := ⟨Nat.le_refl _, fun _ _ _ => rfl, .inl rfl⟩
theorem put_gen {k : Nat} {u : Value} {xs r : List Int} {x sz : Int} {le : Bool} {w0 W : World} (h : Rw w0 W u xs) (hf : plumbref17_put.f k xs x sz le = some r) (hr0 : 0 < r.length) :
    Calls Tryd.prog 68 #[u, .int .u64 x, .int .i64 sz, .bool le] W fun e W' => ∃ u', e = .returned u' ∧ Rw w0 W' u' r ∧ Lv W W' u u' := by
  refine (plumbref17_put.calls k (fun j => some j = u.ownBlock) u xs x sz le r w0 W h.K (Kd.R_tight rfl h.r) hf).mono ?_
  rintro e W' ⟨u', rfl, hr, hK, hk⟩
  refine ⟨u', rfl, ⟨Kd.R_mono hr (fun _ _ => trivial), hK⟩, ⟨hk.1, fun j hj hne => hk.2 j hj hne, ?_⟩⟩
  obtain ⟨g, cap, rfl, -, -, -⟩ := Kd.R_form hr hr0
  rcases hr.1 g rfl with h1 | h1
  · exact .inl h1
  · exact .inr ⟨g, rfl, h1⟩
theorem put4_ok (u : Value) (xs : List Int) (x : Int) (le : Bool) (w0 W : World) (h : Rw w0 W u xs) (hl : xs.length ≤ 140737488350000) :
    Calls Tryd.prog 68 #[u, .int .u64 x, .int .i64 4, .bool le] W fun e W' => ∃ u', e = .returned u' ∧ Rw w0 W' u' (xs ++ P32 x le) ∧ Lv W W' u u' :=
  put_gen h (put4 xs x le hl) (by rw [List.length_append, P32_len]; omega)
theorem put8_ok (u : Value) (xs : List Int) (x : Int) (le : Bool) (w0 W : World) (h : Rw w0 W u xs) (hl : xs.length ≤ 140737488350000) :
    Calls Tryd.prog 68 #[u, .int .u64 x, .int .i64 8, .bool le] W fun e W' => ∃ u', e = .returned u' ∧ Rw w0 W' u' (xs ++ P64 [] x le) ∧ Lv W W' u u' :=
  put_gen h (put8 xs x le hl) (by rw [List.length_append, P64_len]; simp)
set_option maxRecDepth 100000 in
set_option maxHeartbeats 16000000 in
theorem pairs_ok (u : Value) (xs : List Int) (A : Option Addr) (c : Nat) (l : List Pt) (le : Bool) (w0 W : World) (h : Rw w0 W u xs) (hC : kPt.C w0 A l.length l) (hl : xs.length + 16 * l.length ≤ 140737488350000) :
    Calls Tryd.prog 69 #[u, .slice A l.length c, .bool le] W fun e W' => ∃ u', e = .returned u' ∧ Rw w0 W' u' (xs ++ ptsB le l) ∧ Lv W W' u u' := by
  have HC := Aside0.mk hC
  have HR := Aside0.mk h
  clear hC h
  go_enter Tryd.func69, Tryd.ntmps69
  go_wp2_with fail
  go_loopg [0, 7] l.length (fun kq ui ii wr => ∃ (i : Nat) (v : Value), ui = v ∧ ii = .int .i64 (i : Int) ∧ i + kq = l.length ∧ Aside0 (Rw w0 wr v (xs ++ ptsB le (l.take i)) ∧ Lv W wr u v))
  case atStart => exact ⟨0, u, rfl, rfl, by omega, ⟨by simpa [ptsB] using HR.out, Lv.refl _ _⟩⟩
  case round =>
    clear HR
    obtain ⟨i, v, rfl, rfl, hi, HR⟩ := hrel
    cases gk with
    | zero =>
      have hlt : ¬ ((i : Int) < (l.length : Int)) := by omega
      obtain rfl : i = l.length := by omega
      rw [List.take_length] at HR
      go_wp2_with fail
      go_ret
      exact ⟨_, rfl, HR.out.1, HR.out.2⟩
    | succ kq =>
      have hlt : (i : Int) < (l.length : Int) := by omega
      have hil : i < l.length := by omega
      obtain ⟨ad, e1, p0, p1⟩ := at_Pt HC.out (i : Int) (by omega) (by omega)
      subst e1
      have hrd : rd_Pt l (i : Int) = l[i] := by simp [rd_Pt, List.getD_eq_getElem?_getD, List.getElem?_eq_getElem hil]
      rw [hrd, Int.toNat_natCast] at p0 p1
      have HTK := Aside0.mk (List.take_succ_eq_append_getElem hil)
      obtain ⟨q, hq⟩ : ∃ q, q = l[i] := ⟨_, rfl⟩
      rw [← hq] at p0 p1 HTK
      have P1 := Aside0.mk p1
      have p0' := cell_below HR.out.1.K p0
      have hol : (xs ++ ptsB le (l.take i)).length + 16 ≤ 140737488350000 := by rw [List.length_append, ptsB_len, List.length_take]; omega
      have HOL := Aside0.mk hol
      clear hrd hq p0 p1 hol
      go_wp2_with fail
      refine (put8_ok _ _ q.f0 le w0 wr HR.out.1 (by have := HOL.out; omega)).mono ?_
      rintro e w1 ⟨u1, rfl, hr1, hv1⟩
      have HR1 := Aside0.mk (And.intro hr1 (HR.out.2.trans hv1))
      have p1' := cell_below HR1.out.1.K P1.out
      clear HR hr1 hv1 p0'
      go_wp2_with fail
      refine (put8_ok u1 _ q.f1 le w0 w1 HR1.out.1 (by rw [List.length_append, P64_len]; have := HOL.out; simp only [List.length_nil]; omega)).mono ?_
      rintro e w2 ⟨u2, rfl, hr2, hv2⟩
      have HR2 := Aside0.mk (And.intro hr2 (HR1.out.2.trans hv2))
      clear HR1 hr2 hv2 p1'
      go_wp2_with fail
      go_roundg kq
      case measure => omega
      case rel => exact ⟨i + 1, u2, rfl, by go_num, by omega, ⟨by have h9 := HR2.out.1; rw [HTK.out, ptsB_snoc, P64_app (P64 [] q.f0 le)]; simp only [List.append_assoc] at h9 ⊢; exact h9, HR2.out.2⟩⟩
set_option maxRecDepth 100000 in
set_option maxHeartbeats 8000000 in
theorem pen_order (w0 W : World) (gp : Nat) (O : Option Addr) (co : Nat) (os : List Bool) (k : Nat) (vo : Value) (out : List Int) (h : Pr 99 cfR w0 W gp O co os k vo out) (hk : k ≤ 1152921504606846976) (hos : os.length ≤ 1152921504606846976) :
    Calls Tryd.prog 67 #[.pointer (some ⟨gp, 0, none⟩)] W fun e W' => e = .returned (.bool (ordAt os k)) ∧ Pr 99 cfR w0 W' gp O co os (k + 1) vo out ∧ Mv W W' gp vo vo := by
  have HP := Aside0.mk h
  have s0 : W.cell? ⟨gp, 1, none⟩ = some (.int .i64 k) := (blk_cell h.c 1).trans rfl
  have s1 : W.cell? ⟨gp, 2, none⟩ = some (.slice O os.length co) := (blk_cell h.c 2).trans rfl
  have f2 := blk_frozen h.c 1
  clear h
  go_enter Tryd.func67, Tryd.ntmps67
  have hP1 : Pr 99 cfR w0 (W.setCell ⟨gp, 1, none⟩ (.int .i64 ((k : Int) + 1))) gp O co os (k + 1) vo out := Pr.set HP.out.c HP.out.r HP.out.o HP.out.h HP.out.K (by simp [cfR])
  have hM1 : Mv W (W.setCell ⟨gp, 1, none⟩ (.int .i64 ((k : Int) + 1))) gp vo vo := Mv.set 1 _ rfl
  have HP1 := Aside0.mk hP1
  have HM1 := Aside0.mk hM1
  clear hP1 hM1
  by_cases h0 : os.length = 0
  · go_wp2_with fail
    go_ret
    exact ⟨by simp [ordAt, h0], HP1.out, HM1.out⟩
  · have h0' : ((os.length : Int) == 0) = false := beq_eq_false_iff_ne.2 (by omega)
    obtain ⟨j, hj⟩ : ∃ j, j = min k (os.length - 1) := ⟨_, rfl⟩
    have hjl : j < os.length := by omega
    obtain ⟨ad, rfl, hc⟩ := Kd.at_bool HP.out.o (j : Int) (by omega) (by omega)
    have hv : rdOf false os (j : Int) = ordAt os k := by
      unfold ordAt
      rw [if_neg h0, ← hj, rdOf, Int.toNat_natCast]
    rw [hv, Int.toNat_natCast] at hc
    have hc1 := pw_cell_below HP1.out.K hc
    have s1' := (blk_cell HP1.out.c 2)
    simp only [cfR] at s1'
    have hos1 := hos
    rcases Nat.lt_or_ge (os.length - 1) k with hlt | hge
    · have e1 : (os.length : Int) - 1 < (k : Int) := by omega
      have e2 : (os.length : Int) - 1 = (j : Int) := by omega
      have e3 : (j : Int) < (os.length : Int) := by omega
      clear hj
      go_wp2_with fail
      go_quiet (fail)
      go_wp2_with fail
      go_ret
      exact ⟨rfl, HP1.out.below (pw_below_drewN (Below.refl _ _) _), HM1.out.trans (Mv.below gp vo (pw_below_drewN (Below.refl _ _) _))⟩
    · have e1 : ¬ ((os.length : Int) - 1 < (k : Int)) := by omega
      obtain rfl : k = j := by omega
      have e3 : (k : Int) < (os.length : Int) := by omega
      clear hj
      go_wp2_with fail
      go_quiet (fail)
      go_wp2_with fail
      go_ret
      exact ⟨rfl, HP1.out.below (pw_below_drewN (Below.refl _ _) _), HM1.out.trans (Mv.below gp vo (pw_below_drewN (Below.refl _ _) _))⟩
end Go.Proofs.YtiiolhnpnlmkjaaDoor.Tree
