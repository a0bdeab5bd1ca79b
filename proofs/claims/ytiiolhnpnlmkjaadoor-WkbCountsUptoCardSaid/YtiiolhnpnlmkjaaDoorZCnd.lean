/- Texts of this claim laid one behind the other (TParser; TParser2): what each proves stands at its own names; the last one is the claim's. No conditions but those told. -/
import Derived.Test.YtiiolhnpnlmkjaaDoorZCnc
import Derived.WalkLawsBesides
namespace Go.Proofs.YtiiolhnpnlmkjaaDoor.Tree
open Go.RowKit Go.Proofs.YtiiolhnpnlmkjaaDoor.PWkbPrints Go.Proofs.YtiiolhnpnlmkjaaDoorW.PrintWords Go.Proofs.YtiiolhnpnlmkjaaDoorW.PrintLast Go.Proofs.YtiiolhnpnlmkjaaDoorW.PrintMore Go.Proofs.YtiiolhnpnlmkjaaDoor.Rdr
attribute [local go_sem] Oper.semAt_some max2_int max_two min2_int min_two
theorem tkl_some (l : List Int) (le : Bool) : ∀ (d k : Nat) (i v : Int), 0 ≤ i → i + d = l.length → d < k → ∃ r, tkl k l le i v = some r := by
  intro d
  induction d with
  | zero =>
    intro k i v h0 hi hk
    obtain ⟨k, rfl⟩ : ∃ m, k = m + 1 := ⟨k - 1, by omega⟩
    exact ⟨v, by rw [tkl, if_neg (by omega)]⟩
  | succ d ih =>
    intro k i v h0 hi hk
    obtain ⟨k, rfl⟩ : ∃ m, k = m + 1 := ⟨k - 1, by omega⟩
    obtain ⟨r, hr⟩ := ih k (i + 1) (if le = true then Go.bits .or .u64 v (shl .u64 (IntKind.u64.wrap (rd l i)) (8 * i)) else Go.bits .or .u64 (shl .u64 v 8) (IntKind.u64.wrap (rd l i))) (by omega) (by omega) (by omega)
    exact ⟨r, by rw [tkl, if_pos (by omega)]; exact hr⟩
/-- The number of so many bytes at a place. -/
def numB (b : List Int) (a sz : Nat) (le : Bool) : Int := (tkl 20 ((b.drop a).take sz) le 0 0).getD 0
theorem take_f (b : List Int) (a sz : Nat) (le : Bool) (h0 : 0 < sz) (h8 : sz ≤ 8) (h : a + sz ≤ b.length) (hl : b.length ≤ 1048576) : octet_Reader_take.f b a false sz le = some (numB b a sz le, ((a + sz : Nat) : Int), false) := by
  unfold octet_Reader_take.f
  rw [if_neg (by simp), if_pos (by omega), if_neg (by omega), Int.toNat_natCast, Int.toNat_natCast]
  have hl2 : ((b.drop a).take sz).length = sz := by rw [List.length_take, List.length_drop]; omega
  obtain ⟨r, hr⟩ := tkl_some ((b.drop a).take sz) le sz 20 0 0 (Int.le_refl 0) (by rw [hl2]; omega) (by omega)
  unfold numB
  rw [hr]
  rfl
structure Ps (w0 W : World) (gp gr : Nat) (b : List Int) (a : Nat) (deep : Int) (vo : Value) (os : List Bool) : Prop where
  rd : IsS63 w0 W gr b (a : Int) false
  c : W.heap[gp]? = some (.cells #[.pointer (some ⟨gr, 0, none⟩), .int .i64 deep, vo] 133 (0, 0))
  r : Kd.bool.R 4 W w0.heap.size (fun _ => True) vo os
  h : w0.heap.size ≤ gp
  K : Below w0.heap.size w0 W
  l : b.length ≤ 1048576 ∧ a ≤ b.length
/-- Between two worlds: the parser, its reader and the orders' row are changed alone. -/
structure Pv (W W' : World) (gp gr : Nat) (vo vo' : Value) : Prop where
  s : W.heap.size ≤ W'.heap.size
  k : ∀ j, j < W.heap.size → j ≠ gp → j ≠ gr → some j ≠ vo.ownBlock → W'.heap[j]? = W.heap[j]?
  a : ∀ k, vo'.ownBlock = some k → vo.ownBlock = some k ∨ W.heap.size ≤ k
theorem Pv.below {W W' : World} (gp gr : Nat) (vo : Value) (h : Below W.heap.size W W') : Pv W W' gp gr vo vo := ⟨h.size, fun j hj _ _ _ => h.block j hj, fun _ h => .inl h⟩
theorem Pv.trans {W W' W2 : World} {gp gr : Nat} {v v' v2 : Value} (h : Pv W W' gp gr v v') (k : Pv W' W2 gp gr v' v2) : Pv W W2 gp gr v v2 := by
  refine ⟨Nat.le_trans h.s k.s, fun j hj hp hr hv => ?_, fun j hj => ?_⟩
  · refine (k.k j (Nat.lt_of_lt_of_le hj h.s) hp hr (fun e => ?_)).trans (h.k j hj hp hr hv)
    rcases h.a j e.symm with ha | ha
    · exact hv ha.symm
    · omega
  · rcases k.a j hj with ka | ka
    · exact h.a j ka
    · exact .inr (Nat.le_trans h.s ka)
section
variable {w0 W W' : World} {gp gr : Nat} {b : List Int} {a a' : Nat} {deep : Int} {vo : Value} {os : List Bool}
theorem Ps.below (h : Ps w0 W gp gr b a deep vo os) (hb : Below W.heap.size W W') : Ps w0 W' gp gr b a deep vo os :=
  ⟨h.rd.below hb, (hb.block gp (blk_lt h.c)).trans h.c, Kd.R_below h.r hb, h.h, below_step h.K hb, h.l⟩
theorem Ps.ne (h : Ps w0 W gp gr b a deep vo os) : gp ≠ gr := by
  intro e
  obtain ⟨A, c, hb, -⟩ := h.rd
  rw [← e, h.c] at hb
  injection hb with hb
  injection hb with _ hb
  exact absurd hb (by decide)
/-- The reader alone goes on. -/
theorem Ps.read (h : Ps w0 W gp gr b a deep vo os) (hr : IsS63 w0 W' gr b (a' : Int) false) (hK : Below w0.heap.size w0 W') (hk : KeepBut W W' gr none) (ha : a' ≤ b.length) : Ps w0 W' gp gr b a' deep vo os ∧ Pv W W' gp gr vo vo := by
  obtain ⟨A, c, hb, -⟩ := h.rd
  exact ⟨⟨hr, (hk.2 gp (blk_lt h.c) h.ne (by simp)).trans h.c, Kd.R_mono (Kd.R_keep (Kd.R_types h.r hb (by decide)) hk (fun _ h => h.2)) (fun _ _ => trivial), h.h, hK, h.l.1, ha⟩, ⟨hk.1, fun j hj _ hg _ => hk.2 j hj hg (by simp), fun _ h => .inl h⟩⟩
end
/-- The panic that reading gives up with. -/
def early (p c : Int) : List PanicEntry := [{ v := .iface 127 (.agg #[.int .i64 p, .int .i64 c]), recovered := false }]
section
variable {w0 W W' : World} {gp gr : Nat} {b : List Int} {a a' : Nat} {deep : Int} {vo : Value} {os : List Bool}
theorem left_ok (h : Ps w0 W gp gr b a deep vo os) : Calls Tryd.prog 60 #[.pointer (some ⟨gr, 0, none⟩)] W fun e W' => e = .returned (.int .i64 ((b.length : Int) - (a : Int))) ∧ Ps w0 W' gp gr b a deep vo os ∧ Pv W W' gp gr vo vo := by
  have hl := h.l
  refine (octet_Reader_Left.calls gr b a false ((b.length : Int) - (a : Int)) a false w0 W h.rd h.K (by unfold octet_Reader_Left.f; rw [show wrap64 ((b.length : Int) - (a : Int)) = (b.length : Int) - (a : Int) from by unfold wrap64; omega])).mono ?_
  rintro e W' ⟨he, hr, hK, hk⟩
  exact ⟨he, h.read hr hK hk hl.2⟩
theorem at_ok (h : Ps w0 W gp gr b a deep vo os) : Calls Tryd.prog 61 #[.pointer (some ⟨gr, 0, none⟩)] W fun e W' => e = .returned (.int .i64 (a : Int)) ∧ Ps w0 W' gp gr b a deep vo os ∧ Pv W W' gp gr vo vo := by
  have hl := h.l
  refine (octet_Reader_At.calls gr b a false a a false w0 W h.rd h.K rfl).mono ?_
  rintro e W' ⟨he, hr, hK, hk⟩
  exact ⟨he, h.read hr hK hk hl.2⟩
theorem byte_ok (h : Ps w0 W gp gr b a deep vo os) (ha : a + 1 ≤ b.length) : Calls Tryd.prog 89 #[.pointer (some ⟨gr, 0, none⟩)] W fun e W' => e = .returned (.int .u8 (numB b a 1 false % 256)) ∧ Ps w0 W' gp gr b (a + 1) deep vo os ∧ Pv W W' gp gr vo vo := by
  refine (octet_Reader_Byte.calls gr b a false (numB b a 1 false % 256) ((a + 1 : Nat) : Int) false w0 W h.rd h.K (by unfold octet_Reader_Byte.f; have := take_f b a 1 false (by omega) (by omega) ha h.l.1; rw [show ((1 : Nat) : Int) = 1 from rfl] at this; rw [this]; rfl)).mono ?_
  rintro e W' ⟨he, hr, hK, hk⟩
  exact ⟨he, h.read hr hK hk ha⟩
theorem word32_ok (le : Bool) (h : Ps w0 W gp gr b a deep vo os) (ha : a + 4 ≤ b.length) : Calls Tryd.prog 90 #[.pointer (some ⟨gr, 0, none⟩), .bool le] W fun e W' => e = .returned (.int .u32 (numB b a 4 le % 4294967296)) ∧ Ps w0 W' gp gr b (a + 4) deep vo os ∧ Pv W W' gp gr vo vo := by
  refine (octet_Reader_Word32.calls gr b a false le (numB b a 4 le % 4294967296) ((a + 4 : Nat) : Int) false w0 W h.rd h.K (by unfold octet_Reader_Word32.f; have := take_f b a 4 le (by omega) (by omega) ha h.l.1; rw [show ((4 : Nat) : Int) = 4 from rfl] at this; rw [this]; rfl)).mono ?_
  rintro e W' ⟨he, hr, hK, hk⟩
  exact ⟨he, h.read hr hK hk ha⟩
theorem word64_ok (le : Bool) (h : Ps w0 W gp gr b a deep vo os) (ha : a + 8 ≤ b.length) : Calls Tryd.prog 108 #[.pointer (some ⟨gr, 0, none⟩), .bool le] W fun e W' => e = .returned (.int .u64 (numB b a 8 le)) ∧ Ps w0 W' gp gr b (a + 8) deep vo os ∧ Pv W W' gp gr vo vo := by
  refine (octet_Reader_Word64.calls gr b a false le (numB b a 8 le) ((a + 8 : Nat) : Int) false w0 W h.rd h.K (by unfold octet_Reader_Word64.f; have := take_f b a 8 le (by omega) (by omega) ha h.l.1; rw [show ((8 : Nat) : Int) = 8 from rfl] at this; rw [this]; rfl)).mono ?_
  rintro e W' ⟨he, hr, hK, hk⟩
  exact ⟨he, h.read hr hK hk ha⟩
end
set_option maxRecDepth 100000 in
set_option maxHeartbeats 8000000 in
theorem need_calls (w0 W : World) (gp gr : Nat) (b : List Int) (a : Nat) (deep : Int) (vo : Value) (os : List Bool) (n : Nat) (h : Ps w0 W gp gr b a deep vo os) :
    Calls Tryd.prog 88 #[.pointer (some ⟨gp, 0, none⟩), .int .i64 (n : Int)] W fun e W' => e = (if b.length < a + n then .panicked (early a 160) else .returned (.tuple #[])) ∧ Ps w0 W' gp gr b a deep vo os ∧ Pv W W' gp gr vo vo := by
  have hl := h.l
  have HP := Aside0.mk h
  have z0_ : W.cell? ⟨gp, 0, none⟩ = some (.pointer (some ⟨gr, 0, none⟩)) := (blk_cell h.c 0).trans rfl
  clear h
  by_cases hn : b.length < a + n
  · have hn' : (b.length : Int) - (a : Int) < (n : Int) := by omega
    rw [if_pos hn]
    clear hn
    go_enter Tryd.func88, Tryd.ntmps88
    go_wp2_with fail
    refine (left_ok HP.out).mono ?_
    rintro e W1 ⟨rfl, hp1, hv1⟩
    have H1 := Aside0.mk (And.intro hp1 hv1)
    have z0_ : W1.cell? ⟨gp, 0, none⟩ = some (.pointer (some ⟨gr, 0, none⟩)) := (blk_cell hp1.c 0).trans rfl
    clear hp1 hv1 HP
    go_wp2_with fail
    refine (at_ok H1.out.1).mono ?_
    rintro e W2 ⟨rfl, hp2, hv2⟩
    have H2 := Aside0.mk (And.intro hp2 (H1.out.2.trans hv2))
    clear hp2 hv2 H1
    go_wp2_with fail
    exact ⟨rfl, rfl, H2.out.1, H2.out.2⟩
  · have hn' : ¬ ((b.length : Int) - (a : Int) < (n : Int)) := by omega
    rw [if_neg hn]
    clear hn
    go_enter Tryd.func88, Tryd.ntmps88
    go_wp2_with fail
    refine (left_ok HP.out).mono ?_
    rintro e W1 ⟨rfl, hp1, hv1⟩
    have H1 := Aside0.mk (And.intro hp1 hv1)
    clear hp1 hv1 HP
    go_wp2_with fail
    refine bodyPost_end (results_none rfl _ _ _) rfl ?_
    exact ⟨rfl, H1.out.1, H1.out.2⟩
set_option maxRecDepth 100000 in
set_option maxHeartbeats 8000000 in
theorem number_calls (w0 W : World) (gp gr : Nat) (b : List Int) (a : Nat) (deep : Int) (vo : Value) (os : List Bool) (le : Bool) (h : Ps w0 W gp gr b a deep vo os) (ha : a + 8 ≤ b.length) :
    Calls Tryd.prog 110 #[.pointer (some ⟨gp, 0, none⟩), .bool le] W fun e W' => e = (if 3 ≤ classOf (numB b a 8 le) then .panicked (early a 175) else .returned (.int .u64 (numB b a 8 le))) ∧ Ps w0 W' gp gr b (a + 8) deep vo os ∧ Pv W W' gp gr vo vo := by
  have HP := Aside0.mk h
  have z0_ : W.cell? ⟨gp, 0, none⟩ = some (.pointer (some ⟨gr, 0, none⟩)) := (blk_cell h.c 0).trans rfl
  clear h
  obtain ⟨x, hx⟩ : ∃ y, y = numB b a 8 le := ⟨_, rfl⟩
  rw [← hx]
  have HX := Aside0.mk hx
  clear hx
  by_cases hc : 3 ≤ classOf x
  · rw [if_pos hc]
    go_enter Tryd.func110, Tryd.ntmps110
    go_wp2_with fail
    refine (at_ok HP.out).mono ?_
    rintro e W1 ⟨rfl, hp_, hv_⟩
    have H1 := Aside0.mk (And.intro hp_ hv_)
    have z0_ : W1.cell? ⟨gp, 0, none⟩ = some (.pointer (some ⟨gr, 0, none⟩)) := (blk_cell hp_.c 0).trans rfl
    clear hp_ hv_ HP
    go_wp2_with fail
    refine (word64_ok le H1.out.1 ha).mono ?_
    rintro e W2 ⟨rfl, hp_, hv_⟩
    have H2 := Aside0.mk (And.intro hp_ (H1.out.2.trans hv_))
    clear hp_ hv_ H1
    rw [← HX.out]
    go_wp2_with fail
    refine (class_calls x W2).mono ?_
    rintro e W3 ⟨rfl, rfl⟩
    go_wp2_with fail
    exact ⟨rfl, rfl, H2.out.1, H2.out.2⟩
  · rw [if_neg hc]
    go_enter Tryd.func110, Tryd.ntmps110
    go_wp2_with fail
    refine (at_ok HP.out).mono ?_
    rintro e W1 ⟨rfl, hp_, hv_⟩
    have H1 := Aside0.mk (And.intro hp_ hv_)
    have z0_ : W1.cell? ⟨gp, 0, none⟩ = some (.pointer (some ⟨gr, 0, none⟩)) := (blk_cell hp_.c 0).trans rfl
    clear hp_ hv_ HP
    go_wp2_with fail
    refine (word64_ok le H1.out.1 ha).mono ?_
    rintro e W2 ⟨rfl, hp_, hv_⟩
    have H2 := Aside0.mk (And.intro hp_ (H1.out.2.trans hv_))
    clear hp_ hv_ H1
    rw [← HX.out]
    go_wp2_with fail
    refine (class_calls x W2).mono ?_
    rintro e W3 ⟨rfl, rfl⟩
    go_wp2_with fail
    go_ret
    exact ⟨rfl, H2.out.1, H2.out.2⟩
/-- What count makes of the bytes at a place. -/
def countR (b : List Int) (a : Nat) (le : Bool) (least : Nat) : Except (Int × Int) Nat :=
  if b.length < a + 4 then .error (a, 160) else if b.length < a + 4 + (numB b a 4 le % 4294967296).toNat * least then .error (a, 173) else .ok (numB b a 4 le % 4294967296).toNat
set_option maxRecDepth 100000 in
set_option maxHeartbeats 8000000 in
theorem pcount_calls (w0 W : World) (gp gr : Nat) (b : List Int) (a : Nat) (deep : Int) (vo : Value) (os : List Bool) (le : Bool) (least : Nat) (hls : least ≤ 100) (h : Ps w0 W gp gr b a deep vo os) :
    Calls Tryd.prog 94 #[.pointer (some ⟨gp, 0, none⟩), .bool le, .int .i64 (least : Int)] W fun e W' => ∃ a', a ≤ a' ∧ Ps w0 W' gp gr b a' deep vo os ∧ Pv W W' gp gr vo vo ∧ match countR b a le least with | .error x => e = .panicked (early x.1 x.2) | .ok n => e = .returned (.int .i64 (n : Int)) ∧ a' = a + 4 := by
  have HP := Aside0.mk h
  have z0_ : W.cell? ⟨gp, 0, none⟩ = some (.pointer (some ⟨gr, 0, none⟩)) := (blk_cell h.c 0).trans rfl
  clear h
  unfold countR
  by_cases h4 : b.length < a + 4
  · rw [if_pos h4]
    go_enter Tryd.func94, Tryd.ntmps94
    go_wp2_with fail
    refine (at_ok HP.out).mono ?_
    rintro e W1 ⟨rfl, hp_, hv_⟩
    have H1 := Aside0.mk (And.intro hp_ hv_)
    have z0_ : W1.cell? ⟨gp, 0, none⟩ = some (.pointer (some ⟨gr, 0, none⟩)) := (blk_cell hp_.c 0).trans rfl
    clear hp_ hv_ HP
    go_wp2_with fail
    refine (need_calls w0 _ gp gr b a deep vo os 4 H1.out.1).mono ?_
    rintro e W2 ⟨he_, hp_, hv_⟩
    rw [if_pos h4] at he_
    subst he_
    have H2 := Aside0.mk (And.intro hp_ (H1.out.2.trans hv_))
    clear hp_ hv_ H1
    go_wp2_with fail
    exact ⟨rfl, a, Nat.le_refl _, H2.out.1, H2.out.2, rfl⟩
  rw [if_neg h4]
  obtain ⟨m, hm⟩ : ∃ m : Nat, (m : Int) = numB b a 4 le % 4294967296 := ⟨(numB b a 4 le % 4294967296).toNat, by omega⟩
  have hm2 : m < 4294967296 := by omega
  rw [← hm, Int.toNat_natCast]
  have HM := Aside0.mk hm
  clear hm
  have hml : m * least ≤ 4294967296 * 100 := Nat.mul_le_mul (by omega) hls
  obtain ⟨q, hq⟩ : ∃ q, q = m * least := ⟨_, rfl⟩
  have hqi : (m : Int) * (least : Int) = (q : Int) := by rw [hq]; simp
  rw [← hq] at hml ⊢
  clear hq
  have hl := HP.out.l
  by_cases hb : b.length < a + 4 + q
  · have hb' : (b.length : Int) - ((a + 4 : Nat) : Int) < (q : Int) := by omega
    rw [if_pos hb]
    go_enter Tryd.func94, Tryd.ntmps94
    go_wp2_with fail
    refine (at_ok HP.out).mono ?_
    rintro e W1 ⟨rfl, hp_, hv_⟩
    have H1 := Aside0.mk (And.intro hp_ hv_)
    have z0_ : W1.cell? ⟨gp, 0, none⟩ = some (.pointer (some ⟨gr, 0, none⟩)) := (blk_cell hp_.c 0).trans rfl
    clear hp_ hv_ HP
    go_wp2_with fail
    refine (need_calls w0 _ gp gr b a deep vo os 4 H1.out.1).mono ?_
    rintro e W2 ⟨he_, hp_, hv_⟩
    rw [if_neg h4] at he_
    subst he_
    have H2 := Aside0.mk (And.intro hp_ (H1.out.2.trans hv_))
    have z0_ : W2.cell? ⟨gp, 0, none⟩ = some (.pointer (some ⟨gr, 0, none⟩)) := (blk_cell hp_.c 0).trans rfl
    clear hp_ hv_ H1
    go_wp2_with fail
    refine (word32_ok le H2.out.1 (by omega)).mono ?_
    rintro e W3 ⟨rfl, hp_, hv_⟩
    have H3 := Aside0.mk (And.intro hp_ (H2.out.2.trans hv_))
    have z0_ : W3.cell? ⟨gp, 0, none⟩ = some (.pointer (some ⟨gr, 0, none⟩)) := (blk_cell hp_.c 0).trans rfl
    clear hp_ hv_ H2
    rw [← HM.out]
    go_wp2_with fail
    refine (left_ok H3.out.1).mono ?_
    rintro e W4 ⟨rfl, hp_, hv_⟩
    have H4 := Aside0.mk (And.intro hp_ (H3.out.2.trans hv_))
    clear hp_ hv_ H3
    go_wp2_with fail
    exact ⟨rfl, a + 4, by omega, H4.out.1, H4.out.2, rfl⟩
  · have hb' : ¬ ((b.length : Int) - ((a + 4 : Nat) : Int) < (q : Int)) := by omega
    rw [if_neg hb]
    go_enter Tryd.func94, Tryd.ntmps94
    go_wp2_with fail
    refine (at_ok HP.out).mono ?_
    rintro e W1 ⟨rfl, hp_, hv_⟩
    have H1 := Aside0.mk (And.intro hp_ hv_)
    have z0_ : W1.cell? ⟨gp, 0, none⟩ = some (.pointer (some ⟨gr, 0, none⟩)) := (blk_cell hp_.c 0).trans rfl
    clear hp_ hv_ HP
    go_wp2_with fail
    refine (need_calls w0 _ gp gr b a deep vo os 4 H1.out.1).mono ?_
    rintro e W2 ⟨he_, hp_, hv_⟩
    rw [if_neg h4] at he_
    subst he_
    have H2 := Aside0.mk (And.intro hp_ (H1.out.2.trans hv_))
    have z0_ : W2.cell? ⟨gp, 0, none⟩ = some (.pointer (some ⟨gr, 0, none⟩)) := (blk_cell hp_.c 0).trans rfl
    clear hp_ hv_ H1
    go_wp2_with fail
    refine (word32_ok le H2.out.1 (by omega)).mono ?_
    rintro e W3 ⟨rfl, hp_, hv_⟩
    have H3 := Aside0.mk (And.intro hp_ (H2.out.2.trans hv_))
    have z0_ : W3.cell? ⟨gp, 0, none⟩ = some (.pointer (some ⟨gr, 0, none⟩)) := (blk_cell hp_.c 0).trans rfl
    clear hp_ hv_ H2
    rw [← HM.out]
    go_wp2_with fail
    refine (left_ok H3.out.1).mono ?_
    rintro e W4 ⟨rfl, hp_, hv_⟩
    have H4 := Aside0.mk (And.intro hp_ (H3.out.2.trans hv_))
    clear hp_ hv_ H3
    go_wp2_with fail
    go_ret
    exact ⟨a + 4, by omega, H4.out.1, H4.out.2, rfl, rfl⟩
theorem member_calls (home kind : Int) (w : World) (hh : 0 ≤ home ∧ home ≤ 7) : Calls Tryd.prog 91 #[.int .i64 home, .int .i64 kind] w fun e w' => e = .returned (.bool (decide (home = 0 ∨ home = 7 ∨ kind = home - 3))) ∧ w' = w := by
  by_cases h0 : home = 0
  · subst h0
    go_enter Tryd.func91, Tryd.ntmps91
    go_wp2_with fail
    go_ret
    exact ⟨by simp, rfl⟩
  have h0' : (home == 0) = false := beq_eq_false_iff_ne.2 h0
  by_cases h7 : home = 7
  · subst h7
    go_enter Tryd.func91, Tryd.ntmps91
    go_wp2_with fail
    go_ret
    exact ⟨by simp, rfl⟩
  have h7' : (home == 7) = false := beq_eq_false_iff_ne.2 h7
  go_enter Tryd.func91, Tryd.ntmps91
  go_wp2_with fail
  go_ret
  exact ⟨by simp [h0, h7]; rfl, rfl⟩
/-- What place makes of the bytes at a place. -/
def placeR (b : List Int) (a : Nat) (le : Bool) : Except (Int × Int) (List Pt) :=
  if b.length < a + 8 then .error (a, 160) else if b.length < a + 8 + 8 then .error (((a + 8 : Nat) : Int), 160) else
    if classOf (numB b a 8 le) = 4 ∧ classOf (numB b (a + 8) 8 le) = 4 then .ok [] else if 3 ≤ classOf (numB b a 8 le) then .error (a, 175) else
      if 3 ≤ classOf (numB b (a + 8) 8 le) then .error (((a + 8 : Nat) : Int), 175) else .ok [⟨numB b a 8 le, numB b (a + 8) 8 le⟩]
theorem pt_new (W : World) (q : Pt) : kPt.R 82 (W.alloc (.cells #[.int .u64 q.f0, .int .u64 q.f1] 82)) W.heap.size (fun _ => True) (.slice (some ⟨W.heap.size, 0, none⟩) 1 1) [q] := by
  refine ⟨fun _ _ => trivial, [.int .u64 q.f0, .int .u64 q.f1], ⟨rfl, .inr ⟨W.heap.size, 1, #[.int .u64 q.f0, .int .u64 q.f1], rfl, Nat.le_refl _, World.alloc_heap_new _ _, Nat.le_refl _, by decide, rfl, rfl⟩⟩, ?_⟩
  have := Reps.snoc (R := kPt.M (W.alloc (.cells #[.int .u64 q.f0, .int .u64 q.f1] 82)) W.heap.size (fun k => True ∧ some k ≠ (Value.slice (some ⟨W.heap.size, 0, none⟩) 1 1).ownBlock)) (size := 2) (Reps.none _ _) (kPt_mkM _ _ _ q) rfl
  exact this
set_option maxRecDepth 100000 in
set_option maxHeartbeats 16000000 in
theorem pplace_calls (w0 W : World) (gp gr : Nat) (b : List Int) (a : Nat) (deep : Int) (vo : Value) (os : List Bool) (le : Bool) (h : Ps w0 W gp gr b a deep vo os) :
    Calls Tryd.prog 92 #[.pointer (some ⟨gp, 0, none⟩), .bool le] W fun e W' => ∃ a', a ≤ a' ∧ Ps w0 W' gp gr b a' deep vo os ∧ Pv W W' gp gr vo vo ∧ match placeR b a le with | .error x => e = .panicked (early x.1 x.2) | .ok l => ∃ u, e = .returned u ∧ kPt.R 82 W' W.heap.size (fun _ => True) u l ∧ a' = a + 16 := by
  have HP := Aside0.mk h
  have hl := h.l
  have z0_ : W.cell? ⟨gp, 0, none⟩ = some (.pointer (some ⟨gr, 0, none⟩)) := (blk_cell h.c 0).trans rfl
  clear h
  unfold placeR
  obtain ⟨x, hx⟩ : ∃ y, y = numB b a 8 le := ⟨_, rfl⟩
  obtain ⟨y, hy⟩ : ∃ z, z = numB b (a + 8) 8 le := ⟨_, rfl⟩
  rw [← hx, ← hy]
  have HX := Aside0.mk hx
  have HY := Aside0.mk hy
  clear hx hy
  by_cases h1 : b.length < a + 8
  · rw [if_pos h1]
    go_enter Tryd.func92, Tryd.ntmps92
    go_wp2_with fail
    refine (at_ok HP.out).mono ?_
    rintro e W1 ⟨rfl, hp_, hv_⟩
    have H1 := Aside0.mk (And.intro hp_ hv_)
    have z0_ : W1.cell? ⟨gp, 0, none⟩ = some (.pointer (some ⟨gr, 0, none⟩)) := (blk_cell hp_.c 0).trans rfl
    clear hp_ hv_ HP
    go_wp2_with fail
    refine (need_calls w0 _ gp gr b a deep vo os 8 H1.out.1).mono ?_
    rintro e W2 ⟨he_, hp_, hv_⟩
    rw [if_pos h1] at he_
    subst he_
    have H2 := Aside0.mk (And.intro hp_ (H1.out.2.trans hv_))
    clear hp_ hv_ H1
    go_wp2_with fail
    exact ⟨rfl, a, Nat.le_refl _, H2.out.1, H2.out.2, rfl⟩
  rw [if_neg h1]
  by_cases h2 : b.length < a + 8 + 8
  · rw [if_pos h2]
    go_enter Tryd.func92, Tryd.ntmps92
    go_wp2_with fail
    refine (at_ok HP.out).mono ?_
    rintro e W1 ⟨rfl, hp_, hv_⟩
    have H1 := Aside0.mk (And.intro hp_ hv_)
    have z0_ : W1.cell? ⟨gp, 0, none⟩ = some (.pointer (some ⟨gr, 0, none⟩)) := (blk_cell hp_.c 0).trans rfl
    clear hp_ hv_ HP
    go_wp2_with fail
    refine (need_calls w0 _ gp gr b a deep vo os 8 H1.out.1).mono ?_
    rintro e W2 ⟨he_, hp_, hv_⟩
    rw [if_neg h1] at he_
    subst he_
    have H2 := Aside0.mk (And.intro hp_ (H1.out.2.trans hv_))
    have z0_ : W2.cell? ⟨gp, 0, none⟩ = some (.pointer (some ⟨gr, 0, none⟩)) := (blk_cell hp_.c 0).trans rfl
    clear hp_ hv_ H1
    go_wp2_with fail
    refine (word64_ok le H2.out.1 (by omega)).mono ?_
    rintro e W3 ⟨rfl, hp_, hv_⟩
    have H3 := Aside0.mk (And.intro hp_ (H2.out.2.trans hv_))
    have z0_ : W3.cell? ⟨gp, 0, none⟩ = some (.pointer (some ⟨gr, 0, none⟩)) := (blk_cell hp_.c 0).trans rfl
    clear hp_ hv_ H2
    rw [← HX.out]
    go_wp2_with fail
    refine (need_calls w0 _ gp gr b (a + 8) deep vo os 8 H3.out.1).mono ?_
    rintro e W4 ⟨he_, hp_, hv_⟩
    rw [if_pos h2] at he_
    subst he_
    have H4 := Aside0.mk (And.intro hp_ (H3.out.2.trans hv_))
    clear hp_ hv_ H3
    go_wp2_with fail
    exact ⟨rfl, a + 8, by omega, H4.out.1, H4.out.2, rfl⟩
  rw [if_neg h2]
  obtain ⟨cx, hcx⟩ : ∃ z, z = classOf x := ⟨_, rfl⟩
  obtain ⟨cy, hcy⟩ : ∃ z, z = classOf y := ⟨_, rfl⟩
  rw [← hcx, ← hcy]
  have HCX := Aside0.mk hcx
  have HCY := Aside0.mk hcy
  clear hcx hcy
  by_cases hx4 : cx = 4
  · have hx4b : (cx == 4) = true := by rw [hx4]; rfl
    by_cases hy4 : cy = 4
    · have hy4b : (cy == 4) = true := by rw [hy4]; rfl
      rw [if_pos ⟨hx4, hy4⟩]
      clear hx4 hy4
      go_enter Tryd.func92, Tryd.ntmps92
      go_wp2_with fail
      refine (at_ok HP.out).mono ?_
      rintro e W1 ⟨rfl, hp_, hv_⟩
      have H1 := Aside0.mk (And.intro hp_ hv_)
      have z0_ : W1.cell? ⟨gp, 0, none⟩ = some (.pointer (some ⟨gr, 0, none⟩)) := (blk_cell hp_.c 0).trans rfl
      clear hp_ hv_ HP
      go_wp2_with fail
      refine (need_calls w0 _ gp gr b a deep vo os 8 H1.out.1).mono ?_
      rintro e W2 ⟨he_, hp_, hv_⟩
      rw [if_neg h1] at he_
      subst he_
      have H2 := Aside0.mk (And.intro hp_ (H1.out.2.trans hv_))
      have z0_ : W2.cell? ⟨gp, 0, none⟩ = some (.pointer (some ⟨gr, 0, none⟩)) := (blk_cell hp_.c 0).trans rfl
      clear hp_ hv_ H1
      go_wp2_with fail
      refine (word64_ok le H2.out.1 (by omega)).mono ?_
      rintro e W3 ⟨rfl, hp_, hv_⟩
      have H3 := Aside0.mk (And.intro hp_ (H2.out.2.trans hv_))
      have z0_ : W3.cell? ⟨gp, 0, none⟩ = some (.pointer (some ⟨gr, 0, none⟩)) := (blk_cell hp_.c 0).trans rfl
      clear hp_ hv_ H2
      rw [← HX.out]
      go_wp2_with fail
      refine (need_calls w0 _ gp gr b (a + 8) deep vo os 8 H3.out.1).mono ?_
      rintro e W4 ⟨he_, hp_, hv_⟩
      rw [if_neg h2] at he_
      subst he_
      have H4 := Aside0.mk (And.intro hp_ (H3.out.2.trans hv_))
      have z0_ : W4.cell? ⟨gp, 0, none⟩ = some (.pointer (some ⟨gr, 0, none⟩)) := (blk_cell hp_.c 0).trans rfl
      clear hp_ hv_ H3
      go_wp2_with fail
      refine (word64_ok le H4.out.1 (by omega)).mono ?_
      rintro e W5 ⟨rfl, hp_, hv_⟩
      have H5 := Aside0.mk (And.intro hp_ (H4.out.2.trans hv_))
      clear hp_ hv_ H4
      rw [← HY.out]
      go_wp2_with fail
      refine (class_calls x W5).mono ?_
      rintro e w9_ ⟨rfl, hw9_⟩
      obtain rfl := hw9_.symm
      rw [← HCX.out]
      go_wp2_with fail
      refine (class_calls y W5).mono ?_
      rintro e w9_ ⟨rfl, hw9_⟩
      obtain rfl := hw9_.symm
      rw [← HCY.out]
      go_wp2_with fail
      go_ret
      exact ⟨a + 16, by omega, H5.out.1, H5.out.2, _, rfl, Kd.R_nil _ _ _ _ _, rfl⟩
    · have hy4b : (cy == 4) = false := beq_eq_false_iff_ne.2 hy4
      have hx3 : 3 ≤ cx := by omega
      rw [if_neg (fun h => hy4 h.2), if_pos hx3]
      clear hx4
      go_enter Tryd.func92, Tryd.ntmps92
      go_wp2_with fail
      refine (at_ok HP.out).mono ?_
      rintro e W1 ⟨rfl, hp_, hv_⟩
      have H1 := Aside0.mk (And.intro hp_ hv_)
      have z0_ : W1.cell? ⟨gp, 0, none⟩ = some (.pointer (some ⟨gr, 0, none⟩)) := (blk_cell hp_.c 0).trans rfl
      clear hp_ hv_ HP
      go_wp2_with fail
      refine (need_calls w0 _ gp gr b a deep vo os 8 H1.out.1).mono ?_
      rintro e W2 ⟨he_, hp_, hv_⟩
      rw [if_neg h1] at he_
      subst he_
      have H2 := Aside0.mk (And.intro hp_ (H1.out.2.trans hv_))
      have z0_ : W2.cell? ⟨gp, 0, none⟩ = some (.pointer (some ⟨gr, 0, none⟩)) := (blk_cell hp_.c 0).trans rfl
      clear hp_ hv_ H1
      go_wp2_with fail
      refine (word64_ok le H2.out.1 (by omega)).mono ?_
      rintro e W3 ⟨rfl, hp_, hv_⟩
      have H3 := Aside0.mk (And.intro hp_ (H2.out.2.trans hv_))
      have z0_ : W3.cell? ⟨gp, 0, none⟩ = some (.pointer (some ⟨gr, 0, none⟩)) := (blk_cell hp_.c 0).trans rfl
      clear hp_ hv_ H2
      rw [← HX.out]
      go_wp2_with fail
      refine (need_calls w0 _ gp gr b (a + 8) deep vo os 8 H3.out.1).mono ?_
      rintro e W4 ⟨he_, hp_, hv_⟩
      rw [if_neg h2] at he_
      subst he_
      have H4 := Aside0.mk (And.intro hp_ (H3.out.2.trans hv_))
      have z0_ : W4.cell? ⟨gp, 0, none⟩ = some (.pointer (some ⟨gr, 0, none⟩)) := (blk_cell hp_.c 0).trans rfl
      clear hp_ hv_ H3
      go_wp2_with fail
      refine (word64_ok le H4.out.1 (by omega)).mono ?_
      rintro e W5 ⟨rfl, hp_, hv_⟩
      have H5 := Aside0.mk (And.intro hp_ (H4.out.2.trans hv_))
      clear hp_ hv_ H4
      rw [← HY.out]
      go_wp2_with fail
      refine (class_calls x W5).mono ?_
      rintro e w9_ ⟨rfl, hw9_⟩
      obtain rfl := hw9_.symm
      rw [← HCX.out]
      go_wp2_with fail
      refine (class_calls y W5).mono ?_
      rintro e w9_ ⟨rfl, hw9_⟩
      obtain rfl := hw9_.symm
      rw [← HCY.out]
      go_wp2_with fail
      refine (class_calls x W5).mono ?_
      rintro e w9_ ⟨rfl, hw9_⟩
      obtain rfl := hw9_.symm
      rw [← HCX.out]
      go_wp2_with fail
      exact ⟨rfl, a + 16, by omega, H5.out.1, H5.out.2, rfl⟩
  have hx4b : (cx == 4) = false := beq_eq_false_iff_ne.2 hx4
  rw [if_neg (fun h => hx4 h.1)]
  by_cases hx3 : 3 ≤ cx
  · rw [if_pos hx3]
    go_enter Tryd.func92, Tryd.ntmps92
    go_wp2_with fail
    refine (at_ok HP.out).mono ?_
    rintro e W1 ⟨rfl, hp_, hv_⟩
    have H1 := Aside0.mk (And.intro hp_ hv_)
    have z0_ : W1.cell? ⟨gp, 0, none⟩ = some (.pointer (some ⟨gr, 0, none⟩)) := (blk_cell hp_.c 0).trans rfl
    clear hp_ hv_ HP
    go_wp2_with fail
    refine (need_calls w0 _ gp gr b a deep vo os 8 H1.out.1).mono ?_
    rintro e W2 ⟨he_, hp_, hv_⟩
    rw [if_neg h1] at he_
    subst he_
    have H2 := Aside0.mk (And.intro hp_ (H1.out.2.trans hv_))
    have z0_ : W2.cell? ⟨gp, 0, none⟩ = some (.pointer (some ⟨gr, 0, none⟩)) := (blk_cell hp_.c 0).trans rfl
    clear hp_ hv_ H1
    go_wp2_with fail
    refine (word64_ok le H2.out.1 (by omega)).mono ?_
    rintro e W3 ⟨rfl, hp_, hv_⟩
    have H3 := Aside0.mk (And.intro hp_ (H2.out.2.trans hv_))
    have z0_ : W3.cell? ⟨gp, 0, none⟩ = some (.pointer (some ⟨gr, 0, none⟩)) := (blk_cell hp_.c 0).trans rfl
    clear hp_ hv_ H2
    rw [← HX.out]
    go_wp2_with fail
    refine (need_calls w0 _ gp gr b (a + 8) deep vo os 8 H3.out.1).mono ?_
    rintro e W4 ⟨he_, hp_, hv_⟩
    rw [if_neg h2] at he_
    subst he_
    have H4 := Aside0.mk (And.intro hp_ (H3.out.2.trans hv_))
    have z0_ : W4.cell? ⟨gp, 0, none⟩ = some (.pointer (some ⟨gr, 0, none⟩)) := (blk_cell hp_.c 0).trans rfl
    clear hp_ hv_ H3
    go_wp2_with fail
    refine (word64_ok le H4.out.1 (by omega)).mono ?_
    rintro e W5 ⟨rfl, hp_, hv_⟩
    have H5 := Aside0.mk (And.intro hp_ (H4.out.2.trans hv_))
    clear hp_ hv_ H4
    rw [← HY.out]
    go_wp2_with fail
    refine (class_calls x W5).mono ?_
    rintro e w9_ ⟨rfl, hw9_⟩
    obtain rfl := hw9_.symm
    rw [← HCX.out]
    go_wp2_with fail
    refine (class_calls x W5).mono ?_
    rintro e w9_ ⟨rfl, hw9_⟩
    obtain rfl := hw9_.symm
    rw [← HCX.out]
    go_wp2_with fail
    exact ⟨rfl, a + 16, by omega, H5.out.1, H5.out.2, rfl⟩
  rw [if_neg hx3]
  by_cases hy3 : 3 ≤ cy
  · rw [if_pos hy3]
    go_enter Tryd.func92, Tryd.ntmps92
    go_wp2_with fail
    refine (at_ok HP.out).mono ?_
    rintro e W1 ⟨rfl, hp_, hv_⟩
    have H1 := Aside0.mk (And.intro hp_ hv_)
    have z0_ : W1.cell? ⟨gp, 0, none⟩ = some (.pointer (some ⟨gr, 0, none⟩)) := (blk_cell hp_.c 0).trans rfl
    clear hp_ hv_ HP
    go_wp2_with fail
    refine (need_calls w0 _ gp gr b a deep vo os 8 H1.out.1).mono ?_
    rintro e W2 ⟨he_, hp_, hv_⟩
    rw [if_neg h1] at he_
    subst he_
    have H2 := Aside0.mk (And.intro hp_ (H1.out.2.trans hv_))
    have z0_ : W2.cell? ⟨gp, 0, none⟩ = some (.pointer (some ⟨gr, 0, none⟩)) := (blk_cell hp_.c 0).trans rfl
    clear hp_ hv_ H1
    go_wp2_with fail
    refine (word64_ok le H2.out.1 (by omega)).mono ?_
    rintro e W3 ⟨rfl, hp_, hv_⟩
    have H3 := Aside0.mk (And.intro hp_ (H2.out.2.trans hv_))
    have z0_ : W3.cell? ⟨gp, 0, none⟩ = some (.pointer (some ⟨gr, 0, none⟩)) := (blk_cell hp_.c 0).trans rfl
    clear hp_ hv_ H2
    rw [← HX.out]
    go_wp2_with fail
    refine (need_calls w0 _ gp gr b (a + 8) deep vo os 8 H3.out.1).mono ?_
    rintro e W4 ⟨he_, hp_, hv_⟩
    rw [if_neg h2] at he_
    subst he_
    have H4 := Aside0.mk (And.intro hp_ (H3.out.2.trans hv_))
    have z0_ : W4.cell? ⟨gp, 0, none⟩ = some (.pointer (some ⟨gr, 0, none⟩)) := (blk_cell hp_.c 0).trans rfl
    clear hp_ hv_ H3
    go_wp2_with fail
    refine (word64_ok le H4.out.1 (by omega)).mono ?_
    rintro e W5 ⟨rfl, hp_, hv_⟩
    have H5 := Aside0.mk (And.intro hp_ (H4.out.2.trans hv_))
    clear hp_ hv_ H4
    rw [← HY.out]
    go_wp2_with fail
    refine (class_calls x W5).mono ?_
    rintro e w9_ ⟨rfl, hw9_⟩
    obtain rfl := hw9_.symm
    rw [← HCX.out]
    go_wp2_with fail
    refine (class_calls x W5).mono ?_
    rintro e w9_ ⟨rfl, hw9_⟩
    obtain rfl := hw9_.symm
    rw [← HCX.out]
    go_wp2_with fail
    refine (class_calls y W5).mono ?_
    rintro e w9_ ⟨rfl, hw9_⟩
    obtain rfl := hw9_.symm
    rw [← HCY.out]
    go_wp2_with fail
    exact ⟨rfl, a + 16, by omega, H5.out.1, H5.out.2, rfl⟩
  · rw [if_neg hy3]
    go_enter Tryd.func92, Tryd.ntmps92
    go_wp2_with fail
    refine (at_ok HP.out).mono ?_
    rintro e W1 ⟨rfl, hp_, hv_⟩
    have H1 := Aside0.mk (And.intro hp_ hv_)
    have z0_ : W1.cell? ⟨gp, 0, none⟩ = some (.pointer (some ⟨gr, 0, none⟩)) := (blk_cell hp_.c 0).trans rfl
    clear hp_ hv_ HP
    go_wp2_with fail
    refine (need_calls w0 _ gp gr b a deep vo os 8 H1.out.1).mono ?_
    rintro e W2 ⟨he_, hp_, hv_⟩
    rw [if_neg h1] at he_
    subst he_
    have H2 := Aside0.mk (And.intro hp_ (H1.out.2.trans hv_))
    have z0_ : W2.cell? ⟨gp, 0, none⟩ = some (.pointer (some ⟨gr, 0, none⟩)) := (blk_cell hp_.c 0).trans rfl
    clear hp_ hv_ H1
    go_wp2_with fail
    refine (word64_ok le H2.out.1 (by omega)).mono ?_
    rintro e W3 ⟨rfl, hp_, hv_⟩
    have H3 := Aside0.mk (And.intro hp_ (H2.out.2.trans hv_))
    have z0_ : W3.cell? ⟨gp, 0, none⟩ = some (.pointer (some ⟨gr, 0, none⟩)) := (blk_cell hp_.c 0).trans rfl
    clear hp_ hv_ H2
    rw [← HX.out]
    go_wp2_with fail
    refine (need_calls w0 _ gp gr b (a + 8) deep vo os 8 H3.out.1).mono ?_
    rintro e W4 ⟨he_, hp_, hv_⟩
    rw [if_neg h2] at he_
    subst he_
    have H4 := Aside0.mk (And.intro hp_ (H3.out.2.trans hv_))
    have z0_ : W4.cell? ⟨gp, 0, none⟩ = some (.pointer (some ⟨gr, 0, none⟩)) := (blk_cell hp_.c 0).trans rfl
    clear hp_ hv_ H3
    go_wp2_with fail
    refine (word64_ok le H4.out.1 (by omega)).mono ?_
    rintro e W5 ⟨rfl, hp_, hv_⟩
    have H5 := Aside0.mk (And.intro hp_ (H4.out.2.trans hv_))
    clear hp_ hv_ H4
    rw [← HY.out]
    go_wp2_with fail
    refine (class_calls x W5).mono ?_
    rintro e w9_ ⟨rfl, hw9_⟩
    obtain rfl := hw9_.symm
    rw [← HCX.out]
    go_wp2_with fail
    refine (class_calls x W5).mono ?_
    rintro e w9_ ⟨rfl, hw9_⟩
    obtain rfl := hw9_.symm
    rw [← HCX.out]
    go_wp2_with fail
    refine (class_calls y W5).mono ?_
    rintro e w9_ ⟨rfl, hw9_⟩
    obtain rfl := hw9_.symm
    rw [← HCY.out]
    go_wp2_with fail
    go_ret
    have hba : Below W5.heap.size W5 (W5.alloc (.cells #[.int .u64 x, .int .u64 y] 82)) := below_alloc (Below.refl _ _) _
    exact ⟨a + 16, by omega, H5.out.1.below hba, H5.out.2.trans (Pv.below gp gr vo hba), _, rfl, Kd.R_lower (pt_new W5 ⟨x, y⟩) H5.out.2.s, rfl⟩
theorem Ps.keepR {α : Type} {d : Kd α} {e base : Nat} {ok : Nat → Prop} {v : Value} {xs : List α} {w0 W W' : World} {gp gr : Nat} {b : List Int} {a : Nat} {deep : Int} {vo vo' : Value} {os : List Bool}
    (hP : Ps w0 W gp gr b a deep vo os) (hv : Pv W W' gp gr vo vo') (h : d.R e W base ok v xs) (he : ∀ q, q ∈ e :: d.E → q ≠ 133 ∧ q ≠ 171 ∧ q ≠ 4) : d.R e W' base ok v xs := by
  refine Kd.R_mono (Kd.R_step (Kd.R_bound h) ?_) (fun _ hk => hk.1)
  rintro k ⟨_, _, hlt, q, hq, cells, hc⟩ _
  obtain ⟨h1, h2, h3⟩ := he q hq
  obtain ⟨A, c, hb, -⟩ := hP.rd
  refine hv.k k hlt ?_ ?_ ?_
  · rintro rfl
    rw [hP.c] at hc
    injection hc with hc
    injection hc with _ hc
    exact h1 hc.symm
  · rintro rfl
    rw [hb] at hc
    injection hc with hc
    injection hc with _ hc
    exact h2 hc.symm
  · intro hk
    obtain ⟨cs, hcs⟩ := Kd.R_typed hP.r k hk.symm
    rw [hcs] at hc
    injection hc with hc
    injection hc with _ hc
    exact h3 hc.symm
/-- What a reading function ends with. -/
def Res {α : Type} (r : Except (Int × Int) α) (e : Ending) (good : α → Prop) : Prop := (∀ x, r = .error x → e = .panicked (early x.1 x.2)) ∧ ∀ l, r = .ok l → good l
theorem Res.bad {α : Type} {x : Int × Int} {e : Ending} {good : α → Prop} (h : e = .panicked (early x.1 x.2)) : Res (.error x) e good := by
  refine ⟨fun y hy => ?_, fun l hl => ?_⟩
  · injection hy with hy
    rw [← hy]
    exact h
  · injection hl
theorem Res.ok_ {α : Type} {l : α} {e : Ending} {good : α → Prop} (h : good l) : Res (.ok l) e good := by
  refine ⟨fun y hy => ?_, fun l' hl => ?_⟩
  · injection hy
  · injection hl with hl
    rw [← hl]
    exact h
/-- The points at a place. -/
def ptAt (b : List Int) (a : Nat) (le : Bool) (j : Nat) : Pt := ⟨numB b (a + 16 * j) 8 le, numB b (a + 16 * j + 8) 8 le⟩
def ptsAt (b : List Int) (a : Nat) (le : Bool) (n : Nat) : List Pt := (List.range n).map (ptAt b a le)
/-- Where the first coordinate stands that is not finite. -/
def badFrom (b : List Int) (a : Nat) (le : Bool) : Nat → Nat → Option Int
  | 0, _ => none
  | k + 1, i => if 3 ≤ classOf (numB b (a + 16 * i) 8 le) then some ((a + 16 * i : Nat) : Int) else if 3 ≤ classOf (numB b (a + 16 * i + 8) 8 le) then some ((a + 16 * i + 8 : Nat) : Int) else badFrom b a le k (i + 1)
def pointsR (b : List Int) (a : Nat) (le : Bool) (n : Nat) : Except (Int × Int) (List Pt) :=
  match badFrom b a le n 0 with
  | some p => .error (p, 175)
  | none => .ok (ptsAt b a le n)
theorem Ps.put {α : Type} {d : Kd α} {e base : Nat} {ok : Nat → Prop} {g n cap : Nat} {xs : List α} {w0 W W1 : World} {gp gr : Nat} {b : List Int} {a : Nat} {deep : Int} {vo : Value} {os : List Bool}
    (hP : Ps w0 W gp gr b a deep vo os) (h : d.R e W base ok (.slice (some ⟨g, 0, none⟩) n cap) xs) (hg : W.grownBy W1 (some g)) (he : e ≠ 133 ∧ e ≠ 171 ∧ e ≠ 4) (hb : w0.heap.size ≤ g) : Ps w0 W1 gp gr b a deep vo os := by
  obtain ⟨cs, hcs⟩ := Kd.R_typed h g rfl
  refine ⟨hP.rd.grown hg (fun e => ?_), blk_grown hP.c hg (fun e => ?_), Kd.R_grown2 hP.r rfl hg (fun k hk hv => ?_), hP.h, hP.K.grown hg hP.K.size (fun k hk => by injection hk with hk; omega), hP.l⟩
  · injection e with e
    obtain ⟨A, c, hb, -⟩ := hP.rd
    rw [e, hcs] at hb
    injection hb with hb
    injection hb with _ hb
    exact he.2.1 hb
  · injection e with e
    have := hP.c
    rw [e, hcs] at this
    injection this with this
    injection this with _ this
    exact he.1 this
  · injection hk with hk
    obtain ⟨cs2, hcs2⟩ := Kd.R_typed hP.r k hv.symm
    rw [← hk, hcs] at hcs2
    injection hcs2 with hcs2
    injection hcs2 with _ hcs2
    exact he.2.2 hcs2
theorem Pv.put {W0 W W1 : World} {gp gr g : Nat} {v v' : Value} (h : Pv W0 W gp gr v v') (hg : W.grownBy W1 (some g)) (hb : W0.heap.size ≤ g) : Pv W0 W1 gp gr v v' :=
  ⟨Nat.le_trans h.s hg.size, fun j hj hp hr hv => (hg.block j (Nat.lt_of_lt_of_le hj h.s) (by simp; omega)).trans (h.k j hj hp hr hv), h.a⟩
theorem infoPt_ : (Tryd.prog.info? 82).map (fun i => (i.zero, i.size, i.bytes)) = some (some (.agg #[.int .u64 0, .int .u64 0]), 2, 16) := by kernel_rfl
theorem fill_pts (b : List Int) (a : Nat) (le : Bool) (n i : Nat) (hi : i < n) : (ptsAt b a le i ++ List.replicate (n - i) zPt).set i (ptAt b a le i) = ptsAt b a le (i + 1) ++ List.replicate (n - (i + 1)) zPt := by
  have hl : (ptsAt b a le i).length = i := by simp [ptsAt]
  rw [List.set_append_right _ _ (by omega), hl, Nat.sub_self, show n - i = (n - (i + 1)) + 1 from by omega, List.replicate_succ, List.set_cons_zero]
  unfold ptsAt
  rw [List.range_succ, List.map_append, List.append_assoc]
  rfl
/-- One field of a point of the row is written. -/
theorem pt_put {W : World} {base g n cap : Nat} {xs : List Pt} (h : kPt.R 82 W base (fun _ => True) (.slice (some ⟨g, 0, none⟩) n cap) xs) (i : Nat) (hi : i < n) (q : Pt) (hq : xs[i]? = some q) (j : Nat) (hj : j < 2) (x : Int) (q' : Pt) (hq' : q' = if j = 0 then ⟨x, q.f1⟩ else ⟨q.f0, x⟩) :
    kPt.R 82 (W.setCell ⟨g, i * 2 + j, none⟩ (.int .u64 x)) base (fun _ => True) (.slice (some ⟨g, 0, none⟩) n cap) (xs.set i q') ∧ W.grownBy (W.setCell ⟨g, i * 2 + j, none⟩ (.int .u64 x)) (some g) := by
  obtain ⟨c, hc, hM, hcell, hfr⟩ := Kd.R_elem h zPt (i : Int) (by omega) (by omega)
  have hg : xs.getD (i : Int).toNat zPt = q := by rw [Int.toNat_natCast, List.getD_eq_getElem?_getD, hq]; rfl
  rw [hg] at hM
  obtain rfl := kPt_openM hM
  have h9 := Kd.R_seg h (i : Int) (by omega) (by omega) (c := [.int .u64 q.f0, .int .u64 q.f1]) (seg := [.int .u64 x]) (j := j) rfl hcell (by show j + 1 ≤ 2; omega) (x' := q') (okp := fun _ => False) ?_ (fun _ h => h.elim)
  · rw [Int.toNat_natCast] at h9
    exact h9
  · rw [hq']
    rcases (show j = 0 ∨ j = 1 by omega) with rfl | rfl
    · exact kPt_mkM W base (fun _ => False) ⟨x, q.f1⟩
    · exact kPt_mkM W base (fun _ => False) ⟨q.f0, x⟩
set_option maxRecDepth 100000 in
set_option maxHeartbeats 16000000 in
theorem points_calls_ (w0 W : World) (gp gr : Nat) (b : List Int) (a : Nat) (deep : Int) (vo : Value) (os : List Bool) (le : Bool) (n : Nat) (h : Ps w0 W gp gr b a deep vo os) (hn : a + 16 * n ≤ b.length) :
    Calls Tryd.prog 93 #[.pointer (some ⟨gp, 0, none⟩), .bool le, .int .i64 (n : Int)] W fun e W' => ∃ a', a ≤ a' ∧ Ps w0 W' gp gr b a' deep vo os ∧ Pv W W' gp gr vo vo ∧ Res (pointsR b a le n) e (fun l => ∃ u, e = .returned u ∧ kPt.R 82 W' W.heap.size (fun _ => True) u l ∧ a' = a + 16 * n) := by
  have HP := Aside0.mk h
  have hl := h.l
  have hWs : w0.heap.size ≤ W.heap.size := h.K.size
  clear h
  go_enter Tryd.func93, Tryd.ntmps93
  go_wp2_with ((with_reducible refine gate_dst (N := 10) rfl ?_); refine Kd.R_make kPt (w0 := W) W.heap.size 82 rfl (N := 10) rfl 24 (.tmp 9) (.tmp 9) rfl (n : Int) rfl rfl Tryd.underlying24 (.agg #[.int .u64 0, .int .u64 0]) 16 infoPt_ rfl (by decide) (by decide) zPt (ok := fun _ => True) (okp := fun _ => False) ?hz (fun _ h => h.elim) trivial (by omega) (by rw [Int.toNat_natCast]; omega) (Below.refl _ _) (Nat.le_refl _) ?_; (case hz => exact kPt_mkM _ _ _ zPt); intro v1 w1 hr1 hb1 hg1 hat1; have HR1 := Aside0.mk (And.intro hr1 hb1); obtain ⟨A1, c1, e1⟩ := Kd.R_slice hr1; subst e1; (rw [List.length_replicate, Int.toNat_natCast] at HR1 ⊢); clear hr1 hb1 hg1)
  go_loopg [8, 13] n (fun kq x8 ii wr => ∃ i : Nat, ii = .int .i64 (i : Int) ∧ i + kq = n ∧ badFrom b a le n 0 = badFrom b a le kq i ∧ Aside0 (Ps w0 wr gp gr b (a + 16 * i) deep vo os ∧ Pv W wr gp gr vo vo ∧ kPt.R 82 wr W.heap.size (fun _ => True) (.slice A1 n c1) (ptsAt b a le i ++ List.replicate (n - i) zPt)))
  case atStart => exact ⟨0, rfl, by omega, rfl, ⟨HP.out.below HR1.out.2, Pv.below gp gr vo HR1.out.2, by simpa [ptsAt] using HR1.out.1⟩⟩
  case round =>
    clear HR1 HP
    obtain ⟨i, rfl, hi, hbad, HQ⟩ := hrel
    cases gk with
    | zero =>
      have hlt : ¬ ((i : Int) < (n : Int)) := by omega
      obtain rfl : i = n := by omega
      have HBAD := Aside0.mk hbad
      clear hbad
      go_wp2_with fail
      go_ret
      have hR : pointsR b a le i = .ok (ptsAt b a le i) := by unfold pointsR; rw [HBAD.out]; rfl
      have h9 := HQ.out.2.2
      rw [Nat.sub_self, List.replicate_zero, List.append_nil] at h9
      rw [hR]
      exact ⟨a + 16 * i, by omega, HQ.out.1, HQ.out.2.1, Res.ok_ ⟨_, rfl, h9, rfl⟩⟩
    | succ kq =>
      have hlt : (i : Int) < (n : Int) := by omega
      have hin : i < n := by omega
      have hpl : (ptsAt b a le i).length = i := by simp [ptsAt]
      obtain ⟨gl, cap, hA, hgl, -, -⟩ := Kd.R_form HQ.out.2.2 (by rw [List.length_append, List.length_replicate]; omega)
      obtain rfl : A1 = some ⟨gl, 0, none⟩ := by injection hA
      have hz : (ptsAt b a le i ++ List.replicate (n - i) zPt)[i]? = some zPt := by
        rw [List.getElem?_append_right (by omega), hpl, Nat.sub_self, List.getElem?_replicate, if_pos (by omega)]
      have HZ := Aside0.mk hz
      have hgl0 : w0.heap.size ≤ gl := by omega
      obtain ⟨x, hx⟩ : ∃ y, y = numB b (a + 16 * i) 8 le := ⟨_, rfl⟩
      obtain ⟨y, hy⟩ : ∃ z, z = numB b (a + 16 * i + 8) 8 le := ⟨_, rfl⟩
      have HX := Aside0.mk hx
      have HY := Aside0.mk hy
      have hnb : badFrom b a le (kq + 1) i = if 3 ≤ classOf (numB b (a + 16 * i) 8 le) then some ((a + 16 * i : Nat) : Int) else if 3 ≤ classOf (numB b (a + 16 * i + 8) 8 le) then some ((a + 16 * i + 8 : Nat) : Int) else badFrom b a le kq (i + 1) := rfl
      rw [← hx, ← hy] at hnb
      rw [hnb] at hbad
      clear hx hy hA hz hnb hpl
      by_cases cx : 3 ≤ classOf x
      · rw [if_pos cx] at hbad
        have HBAD := Aside0.mk hbad
        clear hbad
        go_wp2_with fail
        refine (number_calls w0 wr gp gr b (a + 16 * i) deep vo os le HQ.out.1 (by omega)).mono ?_
        rintro e W2 ⟨he_, hp_, hv_⟩
        rw [← HX.out, if_pos cx] at he_
        subst he_
        have H2 := Aside0.mk (And.intro hp_ (HQ.out.2.1.trans hv_))
        clear hp_ hv_ HQ
        go_wp2_with fail
        have hR : pointsR b a le n = .error (((a + 16 * i : Nat) : Int), 175) := by unfold pointsR; rw [HBAD.out]
        rw [hR]
        exact ⟨rfl, a + 16 * i + 8, by omega, H2.out.1, H2.out.2, Res.bad rfl⟩
      rw [if_neg cx] at hbad
      have HBAD := Aside0.mk hbad
      clear hbad
      go_wp2_with fail
      refine (number_calls w0 wr gp gr b (a + 16 * i) deep vo os le HQ.out.1 (by omega)).mono ?_
      rintro e W2 ⟨he_, hp_, hv_⟩
      rw [← HX.out, if_neg (by omega)] at he_
      subst he_
      have H2 := Aside0.mk (And.intro hp_ (And.intro (HQ.out.2.1.trans hv_) (HQ.out.1.keepR hv_ HQ.out.2.2 (by decide))))
      clear hp_ hv_ HQ
      obtain ⟨c, hc, hM, hcell, hfr⟩ := Kd.R_elem H2.out.2.2 zPt (i : Int) (by omega) (by omega)
      have hg9 : (ptsAt b a le i ++ List.replicate (n - i) zPt).getD (i : Int).toNat zPt = zPt := by rw [Int.toNat_natCast, List.getD_eq_getElem?_getD, HZ.out]; rfl
      rw [hg9] at hM
      obtain rfl := kPt_openM hM
      have q0 : W2.cell? ⟨gl, i * 2, none⟩ = some (.int .u64 zPt.f0) := by have h9 := hcell 0 _ rfl; rw [Int.toNat_natCast] at h9; exact h9
      have f0 : W2.frozen? ⟨gl, i * 2, none⟩ = false := by have h9 := hfr 0; rw [Int.toNat_natCast] at h9; exact h9
      clear hc hM hcell hfr hg9
      go_wp2_with fail
      obtain ⟨xs0, hxs0⟩ : ∃ z, z = ptsAt b a le i ++ List.replicate (n - i) zPt := ⟨_, rfl⟩
      have HXS := Aside0.mk hxs0
      rw [← hxs0] at H2 HZ
      clear hxs0
      have h3 := pt_put H2.out.2.2 i hin zPt HZ.out 0 (by omega) x ⟨x, zPt.f1⟩ rfl
      have H3 := Aside0.mk (And.intro (H2.out.1.put H2.out.2.2 h3.2 (by decide) hgl0) (And.intro (H2.out.2.1.put h3.2 hgl) h3.1))
      clear h3 H2 q0 f0
      obtain ⟨W3, hW3⟩ : ∃ z, z = W2.setCell ⟨gl, i * 2, none⟩ (.int .u64 x) := ⟨_, rfl⟩
      rw [show i * 2 + 0 = i * 2 from rfl, ← hW3] at H3
      rw [← hW3]
      clear hW3
      have hxl : i < xs0.length := (List.getElem?_eq_some_iff.1 HZ.out).1
      by_cases cy : 3 ≤ classOf y
      · refine (number_calls w0 W3 gp gr b (a + 16 * i + 8) deep vo os le H3.out.1 (by omega)).mono ?_
        rintro e W4 ⟨he_, hp_, hv_⟩
        rw [← HY.out, if_pos cy] at he_
        subst he_
        have H4 := Aside0.mk (And.intro hp_ (H3.out.2.1.trans hv_))
        clear hp_ hv_ H3
        go_wp2_with fail
        have hR : pointsR b a le n = .error (((a + 16 * i + 8 : Nat) : Int), 175) := by unfold pointsR; rw [HBAD.out, if_pos cy]
        rw [hR]
        exact ⟨rfl, a + 16 * i + 8 + 8, by omega, H4.out.1, H4.out.2, Res.bad rfl⟩
      refine (number_calls w0 W3 gp gr b (a + 16 * i + 8) deep vo os le H3.out.1 (by omega)).mono ?_
      rintro e W4 ⟨he_, hp_, hv_⟩
      rw [← HY.out, if_neg (by omega)] at he_
      subst he_
      have HB2 := Aside0.mk (show badFrom b a le n 0 = badFrom b a le kq (i + 1) from by rw [HBAD.out, if_neg cy])
      have H4 := Aside0.mk (And.intro hp_ (And.intro (H3.out.2.1.trans hv_) (H3.out.1.keepR hv_ H3.out.2.2 (by decide))))
      clear hp_ hv_ H3 HBAD
      have HZ2 := Aside0.mk (show (xs0.set i ⟨x, zPt.f1⟩)[i]? = some ⟨x, zPt.f1⟩ from List.getElem?_set_self hxl)
      obtain ⟨c, hc, hM, hcell, hfr⟩ := Kd.R_elem H4.out.2.2 zPt (i : Int) (by omega) (by omega)
      have hg9 : (xs0.set i ⟨x, zPt.f1⟩).getD (i : Int).toNat zPt = ⟨x, zPt.f1⟩ := by rw [Int.toNat_natCast, List.getD_eq_getElem?_getD, HZ2.out]; rfl
      rw [hg9] at hM
      obtain rfl := kPt_openM hM
      have q0 : W4.cell? ⟨gl, i * 2 + 1, none⟩ = some (.int .u64 zPt.f1) := by have h9 := hcell 1 _ rfl; rw [Int.toNat_natCast] at h9; exact h9
      have f0 : W4.frozen? ⟨gl, i * 2 + 1, none⟩ = false := by have h9 := hfr 1; rw [Int.toNat_natCast] at h9; exact h9
      clear hc hM hcell hfr hg9
      go_wp2_with fail
      have h5 := pt_put H4.out.2.2 i hin ⟨x, zPt.f1⟩ HZ2.out 1 (by omega) y ⟨x, y⟩ rfl
      rw [List.set_set] at h5
      have H5 := Aside0.mk (And.intro (H4.out.1.put H4.out.2.2 h5.2 (by decide) hgl0) (And.intro (H4.out.2.1.put h5.2 hgl) h5.1))
      clear h5 H4 q0 f0
      go_roundg kq
      case measure => omega
      case rel => exact ⟨i + 1, by go_num, by omega, HB2.out, ⟨by
          have h9 := H5.out
          have e9 : xs0.set i ⟨x, y⟩ = ptsAt b a le (i + 1) ++ List.replicate (n - (i + 1)) zPt := by
            rw [← fill_pts b a le n i hin, HXS.out]
            unfold ptAt
            rw [HX.out, HY.out]
          rw [e9] at h9
          exact ⟨h9.1, h9.2⟩⟩⟩
end Go.Proofs.YtiiolhnpnlmkjaaDoor.Tree
