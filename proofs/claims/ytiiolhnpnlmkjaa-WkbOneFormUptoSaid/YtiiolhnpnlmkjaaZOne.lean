/- Texts of this claim laid one behind the other (TGeomP; TParsed): what each proves stands at its own names; the last one is the claim's. No conditions but those told. -/
import Derived.Test.YtiiolhnpnlmkjaaZOnd
import Derived.Recover
namespace Go.Proofs.Ytiiolhnpnlmkjaa.Tree
open Go.RowKit Go.Proofs.Ytiiolhnpnlmkjaa.PWkbPrints Go.Proofs.YtiiolhnpnlmkjaaW.PrintWords Go.Proofs.YtiiolhnpnlmkjaaW.PrintLast Go.Proofs.YtiiolhnpnlmkjaaW.PrintMore Go.Proofs.Ytiiolhnpnlmkjaa.Rdr
attribute [local go_sem] Oper.semAt_some max2_int max_two min2_int min_two
set_option maxRecDepth 100000 in
set_option maxHeartbeats 32000000 in
theorem geom_calls (n : Nat) : ∀ (w0 W : World) (gp gr : Nat) (b : List Int) (a : Nat) (deep : Int) (vo : Value) (os : List Bool) (level home : Int), Ps w0 W gp gr b a deep vo os → 1 ≤ n → deep + 1 < level + n → 1 ≤ level → level ≤ 257 → deep ≤ 256 → 0 ≤ home ∧ home ≤ 7 → os.length ≤ a →
    Calls Try.prog 35 #[.pointer (some ⟨gp, 0, none⟩), .int .i64 level, .int .i64 home] W fun e W' => ∃ vo', Pv W W' gp gr vo vo' ∧ Below w0.heap.size w0 W' ∧ Res (geomR b deep n a level home) e (fun r => ∃ u, e = .returned u ∧ CopyOf n W W' u r.1 ∧ Ps w0 W' gp gr b r.2.1 deep vo' (os ++ r.2.2) ∧ (os ++ r.2.2).length ≤ r.2.1 ∧ a ≤ r.2.1) := by
  induction n with
  | zero => intro w0 W gp gr b a deep vo os level home _ h; omega
  | succ n ih =>
  intro w0 W gp gr b a deep vo os level home hP hn1 hn hl1 hl2 hd hh ho
  have hl := hP.l
  have HW0 := Aside0.mk (show w0.heap.size ≤ W.heap.size from hP.K.size)
  have HP := Aside0.mk hP
  have IH := Aside0.mk ih
  have HO := Aside0.mk ho
  have HN := Aside0.mk hn
  clear hP ih ho hn
  have hu := Try.underlying28
  have hmx : Try.prog.follows .mixedOrders = true := by kernel_rfl
  obtain ⟨R, hR⟩ : ∃ R, R = geomR b deep (n + 1) a level home := ⟨_, rfl⟩
  have HG := Aside0.mk hR
  rw [← hR]
  clear hR
  unfold geomR at HG
  obtain ⟨oB, hoB⟩ : ∃ y, y = numB b a 1 false % 256 := ⟨_, rfl⟩
  rw [← hoB] at HG
  obtain ⟨le, hle⟩ : ∃ y, y = decide (oB = 1) := ⟨_, rfl⟩
  rw [← hle] at HG
  obtain ⟨k, hk⟩ : ∃ y, y = numB b (a + 1) 4 le % 4294967296 := ⟨_, rfl⟩
  rw [← hk] at HG
  have hk0 : 0 ≤ k ∧ k < 4294967296 := by omega
  have ho0 : 0 ≤ oB ∧ oB < 256 := by omega
  have HLE := Aside0.mk (show (oB == 1) = le by rw [hle]; rfl)
  have HOB := Aside0.mk hoB
  have HK := Aside0.mk hk
  clear hoB hle hk
  go_enter Try.func35, Try.ntmps35
  go_upto_region 1 with fail
  obtain ⟨gs, hgs⟩ : ∃ y, y = W.heap.size := ⟨_, rfl⟩
  obtain ⟨W0, hW0⟩ : ∃ y, y = W.alloc (.cells #[.int .i64 0, .slice none 0 0, .slice none 0 0, .slice none 0 0] 28) := ⟨_, rfl⟩
  rw [← hW0, ← hgs]
  have hb0 : Below W.heap.size W W0 := by rw [hW0]; exact below_alloc (Below.refl _ _) _
  have hp_ := HP.out.below hb0
  have H0 := Aside0.mk (And.intro hp_ (And.intro (Pv.below gp gr vo hb0) (show W0.heap[gs]? = some (.cells #[.int .i64 0, .slice none 0 0, .slice none 0 0, .slice none 0 0] 28 (0, 0)) by rw [hW0, hgs]; exact World.alloc_heap_new _ _)))
  have HGS := Aside0.mk (show W.heap.size ≤ gs by omega)
  have z0_ : W0.cell? ⟨gp, 0, none⟩ = some (.pointer (some ⟨gr, 0, none⟩)) := (blk_cell hp_.c 0).trans rfl
  clear hW0 hgs hb0 hp_ HP
  go_wp2_with fail
  refine (at_ok H0.out.1).mono ?_
  rintro e W1 ⟨rfl, hp_, hv_⟩
  have H1 := Aside0.mk (And.intro hp_ (And.intro (H0.out.2.1.trans hv_) (H0.out.1.keepB hv_ H0.out.2.2 (by decide))))
  have z0_ : W1.cell? ⟨gp, 0, none⟩ = some (.pointer (some ⟨gr, 0, none⟩)) := (blk_cell hp_.c 0).trans rfl
  clear hp_ hv_ H0
  go_wp2_with fail
  by_cases e1 : b.length < a + 1
  · rw [if_pos e1] at HG
    refine (need_calls w0 _ gp gr b a deep vo os 1 H1.out.1).mono ?_
    rintro e W2 ⟨he_, hp_, hv_⟩
    rw [if_pos e1] at he_
    subst he_
    have H2 := Aside0.mk (And.intro hp_ (And.intro (H1.out.2.1.trans hv_) (H1.out.1.keepB hv_ H1.out.2.2 (by decide))))
    clear hp_ hv_ H1
    go_wp2_with fail
    exact ⟨rfl, vo, H2.out.2.1, H2.out.1.K, by rw [HG.out]; exact Res.bad rfl⟩
  rw [if_neg e1] at HG
  refine (need_calls w0 _ gp gr b a deep vo os 1 H1.out.1).mono ?_
  rintro e W2 ⟨he_, hp_, hv_⟩
  rw [if_neg e1] at he_
  subst he_
  have H2 := Aside0.mk (And.intro hp_ (And.intro (H1.out.2.1.trans hv_) (H1.out.1.keepB hv_ H1.out.2.2 (by decide))))
  have z0_ : W2.cell? ⟨gp, 0, none⟩ = some (.pointer (some ⟨gr, 0, none⟩)) := (blk_cell hp_.c 0).trans rfl
  clear hp_ hv_ H1
  go_wp2_with fail
  refine (byte_ok H2.out.1 (by omega)).mono ?_
  rintro e W3 ⟨rfl, hp_, hv_⟩
  have H3 := Aside0.mk (And.intro hp_ (And.intro (H2.out.2.1.trans hv_) (H2.out.1.keepB hv_ H2.out.2.2 (by decide))))
  have z0_ : W3.cell? ⟨gp, 0, none⟩ = some (.pointer (some ⟨gr, 0, none⟩)) := (blk_cell hp_.c 0).trans rfl
  clear hp_ hv_ H2
  rw [← HOB.out]
  by_cases e2 : 1 < oB
  · rw [if_pos e2] at HG
    go_wp2_with fail
    exact ⟨rfl, vo, H3.out.2.1, H3.out.1.K, by rw [HG.out]; exact Res.bad rfl⟩
  rw [if_neg e2] at HG
  have hle := HLE.out
  go_wp2_with fail
  clear hle
  by_cases e3 : b.length < a + 1 + 4
  · rw [if_pos e3] at HG
    refine (need_calls w0 _ gp gr b (a + 1) deep vo os 4 H3.out.1).mono ?_
    rintro e W4 ⟨he_, hp_, hv_⟩
    rw [if_pos e3] at he_
    subst he_
    have H4 := Aside0.mk (And.intro hp_ (And.intro (H3.out.2.1.trans hv_) (H3.out.1.keepB hv_ H3.out.2.2 (by decide))))
    clear hp_ hv_ H3
    go_wp2_with fail
    exact ⟨rfl, vo, H4.out.2.1, H4.out.1.K, by rw [HG.out]; exact Res.bad rfl⟩
  rw [if_neg e3] at HG
  refine (need_calls w0 _ gp gr b (a + 1) deep vo os 4 H3.out.1).mono ?_
  rintro e W4 ⟨he_, hp_, hv_⟩
  rw [if_neg e3] at he_
  subst he_
  have H4 := Aside0.mk (And.intro hp_ (And.intro (H3.out.2.1.trans hv_) (H3.out.1.keepB hv_ H3.out.2.2 (by decide))))
  have z0_ : W4.cell? ⟨gp, 0, none⟩ = some (.pointer (some ⟨gr, 0, none⟩)) := (blk_cell hp_.c 0).trans rfl
  clear hp_ hv_ H3
  go_wp2_with fail
  refine (word32_ok le H4.out.1 (by omega)).mono ?_
  rintro e W5 ⟨rfl, hp_, hv_⟩
  have H5 := Aside0.mk (And.intro hp_ (And.intro (H4.out.2.1.trans hv_) (H4.out.1.keepB hv_ H4.out.2.2 (by decide))))
  have z0_ : W5.cell? ⟨gp, 0, none⟩ = some (.pointer (some ⟨gr, 0, none⟩)) := (blk_cell hp_.c 0).trans rfl
  have z1_ : W5.cell? ⟨gp, 1, none⟩ = some (.int .i64 deep) := (blk_cell hp_.c 1).trans rfl
  have z2_ : W5.cell? ⟨gp, 2, none⟩ = some vo := (blk_cell hp_.c 2).trans rfl
  have y2_ := blk_frozen hp_.c 2
  clear hp_ hv_ H4
  rw [← HK.out]
  by_cases e4 : k < 1 ∨ 7 < k
  · rw [if_pos e4] at HG
    by_cases e5 : k < 1
    · go_wp2_with fail
      exact ⟨rfl, vo, H5.out.2.1, H5.out.1.K, by rw [HG.out]; exact Res.bad rfl⟩
    · have e6 : 7 < k := by omega
      go_wp2_with fail
      exact ⟨rfl, vo, H5.out.2.1, H5.out.1.K, by rw [HG.out]; exact Res.bad rfl⟩
  rw [if_neg e4] at HG
  have e5 : ¬ (k < 1) := by omega
  have e6 : ¬ (7 < k) := by omega
  have hk7 : k ≤ 7 := by omega
  have hkw : wrap64 k = k := by unfold wrap64; omega
  clear e4
  go_wp2_with fail
  refine (member_calls home k W5 hh).mono ?_
  rintro e w9_ ⟨he_, hw9_⟩
  obtain rfl := hw9_.symm
  obtain ⟨mb, hmb⟩ : ∃ y, y = decide (home = 0 ∨ home = 7 ∨ k = home - 3) := ⟨_, rfl⟩
  rw [← hmb] at he_ HG
  subst he_
  clear hmb
  cases mb with
  | false =>
    rw [if_pos rfl] at HG
    go_wp2_with fail
    exact ⟨rfl, vo, H5.out.2.1, H5.out.1.K, by rw [HG.out]; exact Res.bad rfl⟩
  | true =>
  rw [if_neg (by decide)] at HG
  by_cases e7 : deep < level
  · rw [if_pos e7] at HG
    go_wp2_with fail
    exact ⟨rfl, vo, H5.out.2.1, H5.out.1.K, by rw [HG.out]; exact Res.bad rfl⟩
  rw [if_neg e7] at HG
  have hol : os.length ≤ b.length := by have := HO.out; omega
  have HR5 := Aside0.mk (And.intro H5.out.1.r H5.out.1.K)
  have hos : (os.length + 1) * 1 ≤ 140737488355328 := by omega
  go_upto_region 16 with ((with_reducible refine gate_builtin (b := .append) (xs := #[.tmp 75, .tmp 77]) rfl ?_); at_builtin; refine Kd.R_append Kd.bool (w0 := w0) w0.heap.size rfl (.tmp 75) (.tmp 77) 40 4 (.bool false) 1 rfl Try.underlying40 infoBo rfl (by decide) (by decide) vo os le [.bool le] (fun _ => True) (fun _ => False) rfl rfl ?aP ?aK ?aF ?aO ?aB ?aS ?aL ?_; (case aP => rfl); (case aK => exact fun _ h => h.elim); (case aF => exact fun _ _ => trivial); (case aO => exact HR5.out.1); (case aB => exact HR5.out.2); (case aS => exact HR5.out.2.size); (case aL => exact hos); intro v3 w3 ho3 hb3 hg3 hat3; have HA3 := Aside0.mk (And.intro ho3 (And.intro hg3 hat3)); obtain ⟨A5, c5, e5_⟩ := Kd.R_slice ho3; subst e5_; have z2_ : w3.cell? ⟨gp, 2, none⟩ = some vo := (blk_cell (blk_grown H5.out.1.c hg3 (fun e => (H5.out.1.apart_own e).elim)) 2).trans rfl; have y2_ := blk_frozen (blk_grown H5.out.1.c hg3 (fun e => (H5.out.1.apart_own e).elim)) 2; clear ho3 hb3 hg3 hat3)
  rw [show (os ++ [le]).length = os.length + 1 from by simp] at HA3
  obtain ⟨v6, hv6⟩ : ∃ v, v = Value.slice A5 (os.length + 1) c5 := ⟨_, rfl⟩
  rw [← hv6] at HA3 ⊢
  clear hv6 e7 e5 e6 hos hol HR5
  obtain ⟨W6, hW6⟩ : ∃ y, y = w3.setCell ⟨gp, 2, none⟩ v6 := ⟨_, rfl⟩
  rw [← hW6]
  have hpu := H5.out.1.push HA3.out.1 HA3.out.2.1 HA3.out.2.2
  rw [← hW6] at hpu
  have H6 := Aside0.mk (And.intro hpu.1 (And.intro (H5.out.2.1.trans hpu.2) (H5.out.1.keepB hpu.2 H5.out.2.2 (by decide))))
  clear hpu hW6 z0_ z1_ z2_ y2_ H5 HA3
  go_upto_region 17 with fail
  obtain ⟨go_, hgo⟩ : ∃ y, y = W6.heap.size := ⟨_, rfl⟩
  obtain ⟨W7, hW7⟩ : ∃ y, y = W6.alloc (.cells #[.int .i64 k, .slice none 0 0, .slice none 0 0, .slice none 0 0] 28) := ⟨_, rfl⟩
  rw [← hW7, ← hgo]
  have RX := Aside0.mk (show GX w0 W W7 gp gr b (a + 1 + 4) deep vo v6 (os ++ [le]) gs go_ #[.int .i64 k, .slice none 0 0, .slice none 0 0, .slice none 0 0] by
    have hb7 : Below W6.heap.size W6 W7 := by rw [hW7]; exact below_alloc (Below.refl _ _) _
    have hlt := blk_lt H6.out.2.2
    exact ⟨H6.out.1.below hb7, H6.out.2.1.trans (Pv.below gp gr v6 hb7), blk_below H6.out.2.2 hb7, by rw [hW7, hgo]; exact World.alloc_heap_new _ _, HW0.out, HGS.out, by omega⟩)
  clear hW7 hgo H6
  have z0_ : W7.cell? ⟨gp, 0, none⟩ = some (.pointer (some ⟨gr, 0, none⟩)) := (blk_cell RX.out.P.c 0).trans rfl
  have n0 : W7.cell? ⟨go_, 0, none⟩ = some (.int .i64 k) := (blk_cell RX.out.O 0).trans rfl
  by_cases k1 : k = 1
  · rw [if_pos k1] at HG
    have k1a : (k == 1) = true := beq_iff_eq.mpr k1
    clear k1 hkw
    go_wp2_with fail
    refine (pplace_calls w0 W7 gp gr b (a + 1 + 4) deep v6 (os ++ [le]) le RX.out.P).mono ?_
    rintro e W8 ⟨a8, ha8, hp8, hv8, hres⟩
    clear z0_ n0
    rcases hr : placeR b (a + 1 + 4) le with x | l
    · rw [hr] at hres HG
      have he : e = .panicked (early x.1 x.2) := hres
      subst he
      go_wp2_with fail
      exact ⟨rfl, _, (RX.out.step hp8 hv8).M, hp8.K, by rw [HG.out]; exact Res.bad rfl⟩
    · rw [hr] at hres HG
      obtain ⟨u, he, hRu, ha⟩ := hres
      subst he ha
      clear ha8 hr
      obtain ⟨A8, c8, e8⟩ := Kd.R_slice hRu
      subst e8
      have rx := RX.out.step hp8 hv8
      have hs1 : W8.cell? ⟨go_, 1, none⟩ = some (.slice none 0 0) := (blk_cell rx.O 1).trans rfl
      have hf1 := blk_frozen rx.O 1
      have RX8 := Aside0.mk (And.intro rx hRu)
      have HSZ := Aside0.mk (show go_ < W7.heap.size from blk_lt RX.out.O)
      clear rx hRu hp8 hv8 RX
      go_upto_region 34 with fail
      obtain ⟨v8, hv8⟩ : ∃ v, v = Value.slice A8 l.length c8 := ⟨_, rfl⟩
      rw [← hv8] at RX8 ⊢
      obtain ⟨W9, hW9⟩ : ∃ y, y = W8.setCell ⟨go_, 1, none⟩ v8 := ⟨_, rfl⟩
      rw [← hW9]
      have RX9 := Aside0.mk (show GX w0 W W9 gp gr b _ deep vo v6 (os ++ [le]) gs go_ #[.int .i64 k, v8, .slice none 0 0, .slice none 0 0] by rw [hW9]; simpa using RX8.out.1.set 1 v8)
      have HL := Aside0.mk (show kPt.R 65 W9 W.heap.size (fun k => go_ < k) v8 l by
        have hz := HSZ.out
        have hq := RX8.out.1.h
        rw [hW9]
        exact Kd.R_far (p := ⟨go_, 1, none⟩) (Kd.R_lower (Kd.R_mono (Kd.R_bound RX8.out.2) (fun k h => by have := h.2.1; omega)) (by omega)) (fun k h => by show k ≠ go_; omega) _)
      clear hW9 RX8 hs1 hf1
      subst hv8
      have rz_ := RX9.out
      have r0 : W9.cell? ⟨gs, 0, none⟩ = some (.int .i64 0) := (blk_cell rz_.S 0).trans rfl
      have t0 := blk_frozen rz_.S 0
      have r1 : W9.cell? ⟨gs, 1, none⟩ = some (.slice none 0 0) := (blk_cell rz_.S 1).trans rfl
      have t1 := blk_frozen rz_.S 1
      have r2 : W9.cell? ⟨gs, 2, none⟩ = some (.slice none 0 0) := (blk_cell rz_.S 2).trans rfl
      have t2 := blk_frozen rz_.S 2
      have r3 : W9.cell? ⟨gs, 3, none⟩ = some (.slice none 0 0) := (blk_cell rz_.S 3).trans rfl
      have t3 := blk_frozen rz_.S 3
      have o0 : W9.cell? ⟨go_, 0, none⟩ = some (.int .i64 k) := (blk_cell rz_.O 0).trans rfl
      have o1 : W9.cell? ⟨go_, 1, none⟩ = some (.slice A8 l.length c8) := (blk_cell rz_.O 1).trans rfl
      have o2 : W9.cell? ⟨go_, 2, none⟩ = some (.slice none 0 0) := (blk_cell rz_.O 2).trans rfl
      have o3 : W9.cell? ⟨go_, 3, none⟩ = some (.slice none 0 0) := (blk_cell rz_.O 3).trans rfl
      have RZ := Aside0.mk rz_
      clear rz_
      go_wp2_with fail
      have bk := (blk_set (blk_set (blk_set (blk_set RZ.out.S 0 (.int .i64 k)) 1 (.slice A8 l.length c8)) 2 (.slice none 0 0)) 3 (.slice none 0 0))
      refine bodyPost_ret (results_geom (a := 6) (by rfl) _ _ (by rfl) (by simpa using bk)) rfl ?_
      have dn := RZ.out.done (.int .i64 k) (.slice A8 l.length c8) (.slice none 0 0) (.slice none 0 0)
      refine ⟨_, dn.2, dn.1.K, ?_⟩
      rw [HG.out]
      refine Res.ok_ ⟨_, rfl, RZ.out.copy (ok1 := fun k => go_ < k) (ok2 := fun _ => False) (ok3 := fun _ => False) (fun _ h => h) (fun _ h => h.elim) (fun _ h => h.elim) (fun _ _ h => h) (fun _ _ h => h) (fun _ h => h.elim) HL.out (Kd.S_nil _ _ _ _ _) (Kd.S_nil _ _ _ _ _), dn.1, by have := HO.out; simp; omega, by simp; omega⟩
  have k1a : (k == 1) = false := beq_eq_false_iff_ne.mpr k1
  rw [if_neg k1] at HG
  by_cases k2 : k = 2
  · rw [if_pos k2] at HG
    have k2a : (k == 2) = true := beq_iff_eq.mpr k2
    clear k2 hkw k1
    go_wp2_with fail
    refine (pcount_calls w0 W7 gp gr b (a + 1 + 4) deep v6 (os ++ [le]) le 16 (by omega) RX.out.P).mono ?_
    rintro e W8 ⟨a8, ha8, hp8, hv8, hres⟩
    clear z0_ n0
    rcases hr : countR b (a + 1 + 4) le 16 with x | m
    · rw [hr] at hres HG
      have he : e = .panicked (early x.1 x.2) := hres
      subst he
      go_wp2_with fail
      exact ⟨rfl, _, (RX.out.step hp8 hv8).M, hp8.K, by rw [HG.out]; exact Res.bad rfl⟩
    · rw [hr] at hres HG
      have hm := countR_le hr
      obtain ⟨he, ha⟩ := hres
      subst he ha
      clear ha8 hr
      have RXc := Aside0.mk (RX.out.step hp8 hv8)
      clear hp8 hv8 RX
      go_wp2_with fail
      refine (points_calls_ w0 W8 gp gr b (a + 1 + 4 + 4) deep v6 (os ++ [le]) le m RXc.out.P (by omega)).mono ?_
      rintro e W10 ⟨a10, ha10, hp10, hv10, hres⟩
      rcases hr : pointsR b (a + 1 + 4 + 4) le m with x | l
      · rw [hr] at hres HG
        have he : e = .panicked (early x.1 x.2) := hres.1 x rfl
        subst he
        go_wp2_with fail
        exact ⟨rfl, _, (RXc.out.step hp10 hv10).M, hp10.K, by rw [HG.out]; exact Res.bad rfl⟩
      · rw [hr] at hres HG
        obtain ⟨u, he, hRu, ha⟩ := hres.2 l rfl
        subst he ha
        clear ha10 hr hres
        obtain ⟨A8, c8, e8⟩ := Kd.R_slice hRu
        subst e8
        have rx := RXc.out.step hp10 hv10
        have hs1 : W10.cell? ⟨go_, 1, none⟩ = some (.slice none 0 0) := (blk_cell rx.O 1).trans rfl
        have hf1 := blk_frozen rx.O 1
        have RX8 := Aside0.mk (And.intro rx hRu)
        have HSZ := Aside0.mk (show go_ < W8.heap.size from blk_lt RXc.out.O)
        clear rx hRu hp10 hv10 RXc
        go_upto_region 34 with fail
        obtain ⟨v8, hv8⟩ : ∃ v, v = Value.slice A8 l.length c8 := ⟨_, rfl⟩
        rw [← hv8] at RX8 ⊢
        obtain ⟨W9, hW9⟩ : ∃ y, y = W10.setCell ⟨go_, 1, none⟩ v8 := ⟨_, rfl⟩
        rw [← hW9]
        have RX9 := Aside0.mk (show GX w0 W W9 gp gr b _ deep vo v6 (os ++ [le]) gs go_ #[.int .i64 k, v8, .slice none 0 0, .slice none 0 0] by rw [hW9]; simpa using RX8.out.1.set 1 v8)
        have HL := Aside0.mk (show kPt.R 65 W9 W.heap.size (fun k => go_ < k) v8 l by
          have hz := HSZ.out
          have hq := RX8.out.1.h
          rw [hW9]
          exact Kd.R_far (p := ⟨go_, 1, none⟩) (Kd.R_lower (Kd.R_mono (Kd.R_bound RX8.out.2) (fun k h => by have := h.2.1; omega)) (by omega)) (fun k h => by show k ≠ go_; omega) _)
        clear hW9 RX8 hs1 hf1
        subst hv8
        have rz_ := RX9.out
        have r0 : W9.cell? ⟨gs, 0, none⟩ = some (.int .i64 0) := (blk_cell rz_.S 0).trans rfl
        have t0 := blk_frozen rz_.S 0
        have r1 : W9.cell? ⟨gs, 1, none⟩ = some (.slice none 0 0) := (blk_cell rz_.S 1).trans rfl
        have t1 := blk_frozen rz_.S 1
        have r2 : W9.cell? ⟨gs, 2, none⟩ = some (.slice none 0 0) := (blk_cell rz_.S 2).trans rfl
        have t2 := blk_frozen rz_.S 2
        have r3 : W9.cell? ⟨gs, 3, none⟩ = some (.slice none 0 0) := (blk_cell rz_.S 3).trans rfl
        have t3 := blk_frozen rz_.S 3
        have o0 : W9.cell? ⟨go_, 0, none⟩ = some (.int .i64 k) := (blk_cell rz_.O 0).trans rfl
        have o1 : W9.cell? ⟨go_, 1, none⟩ = some (.slice A8 l.length c8) := (blk_cell rz_.O 1).trans rfl
        have o2 : W9.cell? ⟨go_, 2, none⟩ = some (.slice none 0 0) := (blk_cell rz_.O 2).trans rfl
        have o3 : W9.cell? ⟨go_, 3, none⟩ = some (.slice none 0 0) := (blk_cell rz_.O 3).trans rfl
        have RZ := Aside0.mk rz_
        clear rz_
        go_wp2_with fail
        have bk := (blk_set (blk_set (blk_set (blk_set RZ.out.S 0 (.int .i64 k)) 1 (.slice A8 l.length c8)) 2 (.slice none 0 0)) 3 (.slice none 0 0))
        refine bodyPost_ret (results_geom (a := 6) (by rfl) _ _ (by rfl) (by simpa using bk)) rfl ?_
        have dn := RZ.out.done (.int .i64 k) (.slice A8 l.length c8) (.slice none 0 0) (.slice none 0 0)
        refine ⟨_, dn.2, dn.1.K, ?_⟩
        rw [HG.out]
        refine Res.ok_ ⟨_, rfl, RZ.out.copy (ok1 := fun k => go_ < k) (ok2 := fun _ => False) (ok3 := fun _ => False) (fun _ h => h) (fun _ h => h.elim) (fun _ h => h.elim) (fun _ _ h => h) (fun _ _ h => h) (fun _ h => h.elim) HL.out (Kd.S_nil _ _ _ _ _) (Kd.S_nil _ _ _ _ _), dn.1, by have := HO.out; simp; omega, by simp; omega⟩
  have k2a : (k == 2) = false := beq_eq_false_iff_ne.mpr k2
  rw [if_neg k2] at HG
  by_cases k3 : k = 3
  · rw [if_pos k3] at HG
    have k3a : (k == 3) = true := beq_iff_eq.mpr k3
    clear k3 hkw k1 k2
    go_wp2_with fail
    refine (pcount_calls w0 W7 gp gr b (a + 1 + 4) deep v6 (os ++ [le]) le 20 (by omega) RX.out.P).mono ?_
    rintro e W8 ⟨a8, ha8, hp8, hv8, hres⟩
    clear z0_ n0
    rcases hr : countR b (a + 1 + 4) le 20 with x | m
    · rw [hr] at hres HG
      have he : e = .panicked (early x.1 x.2) := hres
      subst he
      go_wp2_with fail
      exact ⟨rfl, _, (RX.out.step hp8 hv8).M, hp8.K, by rw [HG.out]; exact Res.bad rfl⟩
    · rw [hr] at hres HG
      have hm := countR_le hr
      obtain ⟨he, ha⟩ := hres
      subst he ha
      clear ha8 hr
      have RXc := Aside0.mk (RX.out.step hp8 hv8)
      clear hp8 hv8 RX
      go_wp2_with fail
      go_loopg [127] m (fun kq i wr => ∃ (j aj : Nat) (v2 : Value) (dn : List (List Pt)), j + kq = m ∧ i = .int .i64 (j : Int) ∧ Aside0 (ringsR b le m (a + 1 + 4 + 4) = (ringsR b le kq aj).map (fun r => (dn ++ r.1, r.2))) ∧ Aside0 (GX w0 W wr gp gr b aj deep vo v6 (os ++ [le]) gs go_ #[.int .i64 k, .slice none 0 0, v2, .slice none 0 0]) ∧ Aside0 (Kd.S (Kd.slice 65 kPt) 24 wr W.heap.size (fun k => go_ < k) v2 dn) ∧ Aside0 (dn.length = j ∧ a + 9 ≤ aj))
      case atStart => exact ⟨0, a + 1 + 4 + 4, _, [], by omega, rfl, ⟨by rcases ringsR b le m (a + 1 + 4 + 4) with x | x <;> rfl⟩, RXc, ⟨Kd.S_nil _ _ _ _ _⟩, ⟨rfl, by omega⟩⟩
      case round =>
        clear RXc
        obtain ⟨j, aj, v2, dn, hj, rfl, HRR, RX, HS, HJ⟩ := hrel
        cases gk with
        | zero =>
          have hlt : ¬ ((j : Int) < (m : Int)) := by omega
          have HG2 := Aside0.mk (show R = .ok (⟨k, [], dn, []⟩, aj, [le]) by rw [HG.out, HRR.out]; simp [ringsR, Except.map])
          go_upto_region 34 with fail
          obtain ⟨A8, c8, e8⟩ := Kd.S_slice HS.out
          subst e8
          have rz_ := RX.out
          have r0 : wr.cell? ⟨gs, 0, none⟩ = some (.int .i64 0) := (blk_cell rz_.S 0).trans rfl
          have t0 := blk_frozen rz_.S 0
          have r1 : wr.cell? ⟨gs, 1, none⟩ = some (.slice none 0 0) := (blk_cell rz_.S 1).trans rfl
          have t1 := blk_frozen rz_.S 1
          have r2 : wr.cell? ⟨gs, 2, none⟩ = some (.slice none 0 0) := (blk_cell rz_.S 2).trans rfl
          have t2 := blk_frozen rz_.S 2
          have r3 : wr.cell? ⟨gs, 3, none⟩ = some (.slice none 0 0) := (blk_cell rz_.S 3).trans rfl
          have t3 := blk_frozen rz_.S 3
          have o0 : wr.cell? ⟨go_, 0, none⟩ = some (.int .i64 k) := (blk_cell rz_.O 0).trans rfl
          have o1 : wr.cell? ⟨go_, 1, none⟩ = some (.slice none 0 0) := (blk_cell rz_.O 1).trans rfl
          have o2 : wr.cell? ⟨go_, 2, none⟩ = some (.slice A8 dn.length c8) := (blk_cell rz_.O 2).trans rfl
          have o3 : wr.cell? ⟨go_, 3, none⟩ = some (.slice none 0 0) := (blk_cell rz_.O 3).trans rfl
          have RZ := Aside0.mk rz_
          clear rz_
          go_wp2_with fail
          have bk := (blk_set (blk_set (blk_set (blk_set RZ.out.S 0 (.int .i64 k)) 1 (.slice none 0 0)) 2 (.slice A8 dn.length c8)) 3 (.slice none 0 0))
          refine bodyPost_ret (results_geom (a := 6) (by rfl) _ _ (by rfl) (by simpa using bk)) rfl ?_
          have dn := RZ.out.done (.int .i64 k) (.slice none 0 0) (.slice A8 dn.length c8) (.slice none 0 0)
          refine ⟨_, dn.2, dn.1.K, ?_⟩
          rw [HG2.out]
          refine Res.ok_ ⟨_, rfl, RZ.out.copy (ok1 := fun _ => False) (ok2 := fun k => go_ < k) (ok3 := fun _ => False) (fun _ h => h.elim) (fun _ h => h) (fun _ h => h.elim) (fun _ h => h.elim) (fun _ h => h.elim) (fun _ _ h => h) (Kd.R_nil _ _ _ _ _) HS.out (Kd.S_nil _ _ _ _ _), dn.1, by have := HO.out; have := HJ.out; simp; omega, by have := HJ.out; simp; omega⟩
        | succ kq =>
          have hlt : (j : Int) < (m : Int) := by omega
          go_upto_region 32 with fail
          have q0 := RX.out.below (below_drew (Below.refl _ _))
          have s0 := Kd.S_drew HS.out
          have hgz : go_ < wr.drew.heap.size := blk_lt q0.O
          refine start_ (n := 9) (S := fun w' => w'.cell? ⟨go_, 2, none⟩ = some v2 ∧ True) (ds := [8]) #[false, false, false, false, false, false, false, false, false] hmx rfl rfl ⟨(blk_cell q0.O 2).trans rfl, trivial⟩ (fun hHeld => ?_)
          clear RX HS
          generalize wr.drew = Wb at q0 s0 hgz hHeld ⊢
          (refine pure_ (i := 0) (N := some 129) (v := ?_) (a' := ?_) #[true, false, false, false, false, false, false, false, false] rfl rfl (by kernel_rfl) (fun _ _ _ h => h) (Or.inl ⟨by rfl, ?_⟩) ?_ ?_; rotate_left; (focus (intro w'_; go_simp; with_reducible rfl)); rotate_left; (focus (simp only [Act.put, List.setIfInBounds_toArray, List.set_cons_zero, List.set_cons_succ]; rfl)))
          (refine pure_ (i := 2) (N := some 131) (v := ?_) (a' := ?_) #[true, false, true, false, false, false, false, false, false] rfl rfl (by kernel_rfl) (fun _ _ _ h => h) (Or.inl ⟨by rfl, ?_⟩) ?_ ?_; rotate_left; (focus (intro w'_; go_simp; with_reducible rfl)); rotate_left; (focus (simp only [Act.put, List.setIfInBounds_toArray, List.set_cons_zero, List.set_cons_succ]; rfl)))
          (refine pure_ (i := 3) (N := some 132) (v := ?_) (a' := ?_) #[true, false, true, true, false, false, false, false, false] rfl rfl (by kernel_rfl) (fun _ _ _ h => h) (Or.inl ⟨by rfl, ?_⟩) ?_ ?_; rotate_left; (focus (intro w'_; go_simp; with_reducible rfl)); rotate_left; (focus (simp only [Act.put, List.setIfInBounds_toArray, List.set_cons_zero, List.set_cons_succ]; rfl)))
          (refine take_ (i := 1) (N := some 130) (v := ?_) (a' := ?_) #[true, true, true, true, false, false, false, false, false] rfl rfl (by kernel_rfl) (fun _ _ _ h => h) (Or.inl ⟨by rfl, ?_⟩) hHeld ?_ ?_; rotate_left; (focus (intro w'_ hs_; (repeat obtain ⟨_, hs_⟩ := hs_); go_simp; with_reducible rfl)); rotate_left; (focus (simp only [Act.put, List.setIfInBounds_toArray, List.set_cons_zero, List.set_cons_succ]; rfl)))
          refine one_ (i := 4) (N := some 133) #[true, true, true, true, true, false, false, false, false] rfl rfl (by kernel_rfl) (by decide) (fun K hK => ?_)
          refine goesP_ Try.func55 (by kernel_rfl) rfl #[.pointer (some ⟨gp, 0, none⟩), .bool le] (by rfl) rfl rfl (by (try simp only [List.map_toArray, List.map_cons, List.map_nil]); first | done | rfl) ?_
          refine (ring_calls w0 Wb gp gr b aj deep v6 (os ++ [le]) le q0.P).mono ?_
          rintro e w1 ⟨a1, ha1, hp1, hv1, hres⟩
          have nx1 := q0.step hp1 hv1
          have s3' := q0.P.keepS hv1 s0 (by decide)
          have hvlt := Kd.S_lt s0
          have hz1 : Wb.heap.size ≤ w1.heap.size := hv1.s
          rcases hr : ringR b aj le with x | l
          · have he := hres.1 x hr
            subst he
            refine .inr ⟨_, rfl, ?_⟩
            have HG2 := Aside0.mk (show R = .error x by rw [HG.out, HRR.out, ringsR, hr]; rfl)
            exact ⟨rfl, _, nx1.M, nx1.P.K, by rw [HG2.out]; exact Res.bad rfl⟩
          obtain ⟨u, he, hRu, ha, hl0⟩ := hres.2 l hr
          subst he
          obtain ⟨A5, c5, e5⟩ := Kd.R_slice hRu
          subst e5
          have HR2 := Aside0.mk (show ringsR b le m (a + 1 + 4 + 4) = (ringsR b le kq a1).map (fun r => ((dn ++ [l]) ++ r.1, r.2)) by
            rw [HRR.out, ringsR, hr, ha]
            show Except.map _ (Except.map _ _) = _
            rcases ringsR b le kq (aj + 4 + 16 * l.length) with x | x
            · rfl
            · simp [Except.map])
          have HA1 := Aside0.mk (show a + 9 ≤ a1 by have := HJ.out; omega)
          clear hres hr ha hp1 hv1 ha1 hl0 q0 s0
          refine .inl ⟨_, rfl, hK.out _ _ ⟨(blk_cell nx1.O 2).trans rfl, trivial⟩ (fun hHeld2 => ?_)⟩
          clear hK K hHeld
          (refine norm_ (a' := ?_) ?_ ?_; rotate_left; focus (show Act.put _ (some 133) _ = _; simp only [Act.put, List.setIfInBounds_toArray, List.set_cons_zero, List.set_cons_succ]; rfl))
          refine one_ (i := 5) (N := some 134) #[true, true, true, true, true, true, false, false, false] rfl rfl (by kernel_rfl) (by decide) (fun K hK => ?_)
          (refine value_ (w1 := ?_) (v := ?_) (by rfl) rfl ?_ ?_; rotate_left 2; (focus (go_simp; constructor <;> rfl)))
          have nxa := nx1.below (below_alloc (Below.refl _ w1) (.cells #[.slice A5 l.length c5] 24))
          refine hK.out _ _ ⟨(blk_cell nxa.O 2).trans rfl, trivial⟩ (fun hHeld => ?_)
          clear hK K hHeld2 nxa
          (refine norm_ (a' := ?_) ?_ ?_; rotate_left; focus (show Act.put _ (some 134) _ = _; simp only [Act.put, List.setIfInBounds_toArray, List.set_cons_zero, List.set_cons_succ]; rfl))
          refine one_ (i := 6) (N := some 135) #[true, true, true, true, true, true, true, false, false] rfl rfl (by kernel_rfl) (by decide) (fun K hK => ?_)
          have hord := nx1.h
          refine Kd.S_append_step (Kd.slice 65 kPt) (w0 := w1) W.heap.size (by rfl) (.tmp 130) (.tmp 134) 25 24 (.slice none 0 0) 24 rfl Try.underlying25 infoPts rfl (by decide) (by omega) v2 dn l [.slice A5 l.length c5] (fun k => go_ < k) (fun k => Wb.heap.size ≤ k) rfl rfl ?aP ?aK ?aF ?aO ?aB ?aS ?aL ?_
          case aP => exact Kd.M_row (Kd.R_lower (Kd.R_mono (Kd.R_bound hRu) (fun k h => h.2.1)) (by omega))
          case aK => exact fun k h => ⟨by omega, fun e => by have := hvlt k e.symm; omega⟩
          case aF => exact fun k h => by have := blk_lt nx1.O; omega
          case aO => exact Kd.S_mono s3' (fun k h => ⟨h.1, by have := h.2; show ¬ _ ≤ k; omega⟩)
          case aB => exact Below.refl _ _
          case aS => have := blk_lt nx1.S; omega
          case aL => have := HJ.out; omega
          intro v3 w2 ho2 hb2 hg2 hat2
          obtain ⟨TT, hTT⟩ : ∃ TT, TT = dn ++ [l] := ⟨_, rfl⟩
          rw [← hTT] at ho2 HR2
          have HTT := Aside0.mk (show TT.length = j + 1 by have := HJ.out; rw [hTT, List.length_append]; simp; omega)
          clear hTT
          obtain ⟨A6, c6, e6⟩ := Kd.S_slice ho2
          subst e6
          have nx2 := nx1.grownO hg2 (fun k e => by
            obtain ⟨h1, h2, h3, q, hq, cells, hc⟩ := (Kd.S_R (Kd.S_bound s3')).1 k e
            exact ⟨h1.1, q, cells, hc, (show ∀ q, q ∈ 24 :: (Kd.slice 65 kPt).E → q ≠ 98 ∧ q ≠ 113 ∧ q ≠ 4 by decide) q hq⟩)
          clear nx1 s3' hvlt hat2 hg2 hb2 hRu
          refine hK.out _ _ ⟨(blk_cell nx2.O 2).trans rfl, trivial⟩ (fun hHeld2 => ?_)
          clear hK K hHeld
          (refine norm_ (a' := ?_) ?_ ?_; rotate_left; focus (show Act.put _ (some 135) _ = _; simp only [Act.put, List.setIfInBounds_toArray, List.set_cons_zero, List.set_cons_succ]; rfl))
          (refine pure_ (i := 7) (N := some 136) (v := ?_) (a' := ?_) #[true, true, true, true, true, true, true, true, false] rfl rfl (by kernel_rfl) (fun _ _ _ h => h) (Or.inl ⟨by rfl, ?_⟩) ?_ ?_; rotate_left; (focus (intro w'_; go_simp; with_reducible rfl)); rotate_left; (focus (simp only [Act.put, List.setIfInBounds_toArray, List.set_cons_zero, List.set_cons_succ]; rfl)))
          refine last_ (i := 8) (N := none) #[true, true, true, true, true, true, true, true, true] rfl rfl (by kernel_rfl) (by decide) (fun K hK => ?_)
          have hs0 : w2.cell? ⟨go_, 2, none⟩ = some v2 := (blk_cell nx2.O 2).trans rfl
          have hf0 := blk_frozen nx2.O 2
          refine skip_ (w1 := ?_) (by rfl) rfl ?_ ?_
          rotate_left
          · go_simp
            rfl
          refine hK.out _ _ ?_
          clear hK K
          refine done_ (by kernel_rfl) ?_
          have nx3 := nx2.set 2 (.slice A6 TT.length c6)
          have s4 := Kd.S_set ho2 nx2.O (by decide) 2 (.slice A6 TT.length c6)
          obtain ⟨v4, hv4⟩ : ∃ v, v = Value.slice A6 TT.length c6 := ⟨_, rfl⟩
          rw [← hv4] at nx3 s4 ⊢
          obtain ⟨W6, hW6⟩ : ∃ y, y = w2.setCell ⟨go_, 2, none⟩ v4 := ⟨_, rfl⟩
          rw [← hW6] at nx3 s4 ⊢
          have RX := Aside0.mk (show GX w0 W W6 gp gr b a1 deep vo v6 (os ++ [le]) gs go_ #[.int .i64 k, .slice none 0 0, v4, .slice none 0 0] from by simpa using nx3)
          have HS := Aside0.mk s4
          clear hv4 hW6 nx2 nx3 s4 ho2 hs0 hf0 hHeld2 hord
          go_wp2_with fail
          go_roundg kq
          case measure => omega
          case rel => exact ⟨j + 1, a1, v4, TT, by omega, by go_num, HR2, RX, HS, ⟨HTT.out, HA1.out⟩⟩
  have k3a : (k == 3) = false := beq_eq_false_iff_ne.mpr k3
  rw [if_neg k3] at HG
  obtain ⟨F, hF⟩ : ∃ F, F = (fun p => geomR b deep n p (level + 1) k) := ⟨_, rfl⟩
  rw [← hF] at HG
  have HF := Aside0.mk hF
  have HLV := Aside0.mk (show 1 ≤ n ∧ deep + 1 < level + 1 + (n : Int) ∧ 1 ≤ level + 1 ∧ level + 1 ≤ 257 by have := HN.out; omega)
  have HKR := Aside0.mk (show 0 ≤ k ∧ k ≤ 7 by omega)
  clear hF
  by_cases k4 : k = 4
  · rw [if_pos k4] at HG
    have k4a : (k == 4) = true := beq_iff_eq.mpr k4
    clear k4 hkw k1 k2 k3
    go_wp2_with fail
    refine (pcount_calls w0 W7 gp gr b (a + 1 + 4) deep v6 (os ++ [le]) le 21 (by omega) RX.out.P).mono ?_
    rintro e W8 ⟨a8, ha8, hp8, hv8, hres⟩
    clear z0_ n0
    rcases hr : countR b (a + 1 + 4) le 21 with x | m
    · rw [hr] at hres HG
      have he : e = .panicked (early x.1 x.2) := hres
      subst he
      go_wp2_with fail
      exact ⟨rfl, _, (RX.out.step hp8 hv8).M, hp8.K, by rw [HG.out]; exact Res.bad rfl⟩
    · rw [hr] at hres HG
      have hm := countR_le hr
      obtain ⟨he, ha⟩ := hres
      subst he ha
      clear ha8 hr
      have RXc := Aside0.mk (RX.out.step hp8 hv8)
      clear hp8 hv8 RX
      go_wp2_with fail
      go_loopg [93] m (fun kq i wr => ∃ (j aj : Nat) (v3 vj : Value) (dn : List Ge) (oj : List Bool), j + kq = m ∧ i = .int .i64 (j : Int) ∧ Aside0 (partsR F m (a + 1 + 4 + 4) = (partsR F kq aj).map (fun r => (dn ++ r.1, r.2.1, oj ++ r.2.2))) ∧ Aside0 (GX w0 W wr gp gr b aj deep vo vj (os ++ le :: oj) gs go_ #[.int .i64 k, .slice none 0 0, .slice none 0 0, v3]) ∧ Aside0 (Kd.S (kSp n) 28 wr W.heap.size (fun k => go_ < k) v3 dn) ∧ Aside0 (dn.length = j ∧ a + 9 ≤ aj ∧ (os ++ le :: oj).length ≤ aj))
      case atStart => exact ⟨0, a + 1 + 4 + 4, _, v6, [], [], by omega, rfl, ⟨by rcases partsR F m (a + 1 + 4 + 4) with x | x <;> rfl⟩, RXc, ⟨Kd.S_nil _ _ _ _ _⟩, ⟨rfl, by omega, by have := HO.out; simp; omega⟩⟩
      case round =>
        clear RXc
        obtain ⟨j, aj, v3, vj, dn, oj, hj, rfl, HRR, RX, HS, HJ⟩ := hrel
        cases gk with
        | zero =>
          have hlt : ¬ ((j : Int) < (m : Int)) := by omega
          have HG2 := Aside0.mk (show R = .ok (⟨k, [], [], dn⟩, aj, le :: oj) by rw [HG.out, HRR.out]; simp [partsR, Except.map])
          go_upto_region 34 with fail
          obtain ⟨A8, c8, e8⟩ := Kd.S_slice HS.out
          subst e8
          have rz_ := RX.out
          have r0 : wr.cell? ⟨gs, 0, none⟩ = some (.int .i64 0) := (blk_cell rz_.S 0).trans rfl
          have t0 := blk_frozen rz_.S 0
          have r1 : wr.cell? ⟨gs, 1, none⟩ = some (.slice none 0 0) := (blk_cell rz_.S 1).trans rfl
          have t1 := blk_frozen rz_.S 1
          have r2 : wr.cell? ⟨gs, 2, none⟩ = some (.slice none 0 0) := (blk_cell rz_.S 2).trans rfl
          have t2 := blk_frozen rz_.S 2
          have r3 : wr.cell? ⟨gs, 3, none⟩ = some (.slice none 0 0) := (blk_cell rz_.S 3).trans rfl
          have t3 := blk_frozen rz_.S 3
          have o0 : wr.cell? ⟨go_, 0, none⟩ = some (.int .i64 k) := (blk_cell rz_.O 0).trans rfl
          have o1 : wr.cell? ⟨go_, 1, none⟩ = some (.slice none 0 0) := (blk_cell rz_.O 1).trans rfl
          have o2 : wr.cell? ⟨go_, 2, none⟩ = some (.slice none 0 0) := (blk_cell rz_.O 2).trans rfl
          have o3 : wr.cell? ⟨go_, 3, none⟩ = some (.slice A8 dn.length c8) := (blk_cell rz_.O 3).trans rfl
          have RZ := Aside0.mk rz_
          clear rz_
          go_wp2_with fail
          have bk := (blk_set (blk_set (blk_set (blk_set RZ.out.S 0 (.int .i64 k)) 1 (.slice none 0 0)) 2 (.slice none 0 0)) 3 (.slice A8 dn.length c8))
          refine bodyPost_ret (results_geom (a := 6) (by rfl) _ _ (by rfl) (by simpa using bk)) rfl ?_
          have dn := RZ.out.done (.int .i64 k) (.slice none 0 0) (.slice none 0 0) (.slice A8 dn.length c8)
          refine ⟨_, dn.2, dn.1.K, ?_⟩
          rw [HG2.out]
          refine Res.ok_ ⟨_, rfl, RZ.out.copy (ok1 := fun _ => False) (ok2 := fun _ => False) (ok3 := fun k => go_ < k) (fun _ h => h.elim) (fun _ h => h.elim) (fun _ h => h) (fun _ h => h.elim) (fun _ h => h.elim) (fun _ h => h.elim) (Kd.R_nil _ _ _ _ _) (Kd.S_nil _ _ _ _ _) HS.out, dn.1, by have h9 := HJ.out.2.2; simpa using h9, by have := HJ.out; show a ≤ aj; omega⟩
        | succ kq =>
          have hlt : (j : Int) < (m : Int) := by omega
          have hlv8 : wrap64 (level + 1) = level + 1 := by unfold wrap64; omega
          have hlv9 : IntKind.i64.wrap (level + 1) = level + 1 := by unfold IntKind.wrap; simp [IntKind.bits, IntKind.signed]; omega
          go_upto_region 23 with fail
          have q0 := RX.out.below (below_drew (Below.refl _ _))
          have s0 := Kd.S_drew HS.out
          have hgz : go_ < wr.drew.heap.size := blk_lt q0.O
          refine start_ (n := 12) (S := fun w' => w'.cell? ⟨go_, 3, none⟩ = some v3 ∧ w'.cell? ⟨go_, 0, none⟩ = some (.int .i64 k) ∧ True) (ds := [11]) #[false, false, false, false, false, false, false, false, false, false, false, false] hmx rfl rfl ⟨(blk_cell q0.O 3).trans rfl, (blk_cell q0.O 0).trans rfl, trivial⟩ (fun hHeld => ?_)
          clear RX HS
          generalize wr.drew = Wb at q0 s0 hgz hHeld ⊢
          (refine pure_ (i := 0) (N := some 95) (v := ?_) (a' := ?_) #[true, false, false, false, false, false, false, false, false, false, false, false] rfl rfl (by kernel_rfl) (fun _ _ _ h => h) (Or.inl ⟨by rfl, ?_⟩) ?_ ?_; rotate_left; (focus (intro w'_; go_simp; with_reducible rfl)); rotate_left; (focus (simp only [Act.put, List.setIfInBounds_toArray, List.set_cons_zero, List.set_cons_succ]; rfl)))
          (refine pure_ (i := 2) (N := some 97) (v := ?_) (a' := ?_) #[true, false, true, false, false, false, false, false, false, false, false, false] rfl rfl (by kernel_rfl) (fun _ _ _ h => h) (Or.inl ⟨by rfl, ?_⟩) ?_ ?_; rotate_left; (focus (intro w'_; go_simp; with_reducible rfl)); rotate_left; (focus (simp only [Act.put, List.setIfInBounds_toArray, List.set_cons_zero, List.set_cons_succ]; rfl)))
          (refine pure_ (i := 3) (N := some 98) (v := ?_) (a' := ?_) #[true, false, true, true, false, false, false, false, false, false, false, false] rfl rfl (by kernel_rfl) (fun _ _ _ h => h) (Or.inl ⟨by rfl, ?_⟩) ?_ ?_; rotate_left; (focus (intro w'_; go_simp; with_reducible rfl)); rotate_left; (focus (simp only [Act.put, List.setIfInBounds_toArray, List.set_cons_zero, List.set_cons_succ]; rfl)))
          (refine pure_ (i := 4) (N := some 99) (v := ?_) (a' := ?_) #[true, false, true, true, true, false, false, false, false, false, false, false] rfl rfl (by kernel_rfl) (fun _ _ _ h => h) (Or.inl ⟨by rfl, ?_⟩) ?_ ?_; rotate_left; (focus (intro w'_; go_simp; with_reducible rfl)); rotate_left; (focus (simp only [Act.put, List.setIfInBounds_toArray, List.set_cons_zero, List.set_cons_succ]; rfl)))
          (refine pure_ (i := 5) (N := some 100) (v := ?_) (a' := ?_) #[true, false, true, true, true, true, false, false, false, false, false, false] rfl rfl (by kernel_rfl) (fun _ _ _ h => h) (Or.inl ⟨by rfl, ?_⟩) ?_ ?_; rotate_left; (focus (intro w'_; go_simp; with_reducible rfl)); rotate_left; (focus (simp only [Act.put, List.setIfInBounds_toArray, List.set_cons_zero, List.set_cons_succ]; rfl)))
          (refine take_ (i := 1) (N := some 96) (v := ?_) (a' := ?_) #[true, true, true, true, true, true, false, false, false, false, false, false] rfl rfl (by kernel_rfl) (fun _ _ _ h => h) (Or.inl ⟨by rfl, ?_⟩) hHeld ?_ ?_; rotate_left; (focus (intro w'_ hs_; (repeat obtain ⟨_, hs_⟩ := hs_); go_simp; with_reducible rfl)); rotate_left; (focus (simp only [Act.put, List.setIfInBounds_toArray, List.set_cons_zero, List.set_cons_succ]; rfl)))
          (refine take_ (i := 6) (N := some 101) (v := ?_) (a' := ?_) #[true, true, true, true, true, true, true, false, false, false, false, false] rfl rfl (by kernel_rfl) (fun _ _ _ h => h) (Or.inl ⟨by rfl, ?_⟩) hHeld ?_ ?_; rotate_left; (focus (intro w'_ hs_; (repeat obtain ⟨_, hs_⟩ := hs_); go_simp; with_reducible rfl)); rotate_left; (focus (simp only [Act.put, List.setIfInBounds_toArray, List.set_cons_zero, List.set_cons_succ]; rfl)))
          refine one_ (i := 7) (N := some 102) #[true, true, true, true, true, true, true, true, false, false, false, false] rfl rfl (by kernel_rfl) (by decide) (fun K hK => ?_)
          refine goesP_ Try.func35 (by kernel_rfl) rfl #[.pointer (some ⟨gp, 0, none⟩), .int .i64 (level + 1), .int .i64 k] (by rfl) rfl rfl (by simp [Act.eval]) ?_
          refine (IH.out w0 Wb gp gr b aj deep vj (os ++ le :: oj) (level + 1) k q0.P HLV.out.1 HLV.out.2.1 HLV.out.2.2.1 HLV.out.2.2.2 hd HKR.out HJ.out.2.2).mono ?_
          rintro e w1 ⟨v1, hv1, hB1, hres⟩
          have s3' := q0.P.keepS hv1 s0 (fun q hq => (show ∀ q, q ∈ 28 :: [65, 24, 28] → q ≠ 98 ∧ q ≠ 113 ∧ q ≠ 4 by decide) q (by rcases List.mem_cons.1 hq with h | h; exact List.mem_cons.2 (.inl h); exact List.mem_cons.2 (.inr ((kSpP n).2.E q h))))
          have hvlt := Kd.S_lt s0
          have hz1 : Wb.heap.size ≤ w1.heap.size := hv1.s
          rcases hr : geomR b deep n aj (level + 1) k with x | ⟨gq, aq, oq⟩
          · have he := hres.1 x hr
            subst he
            refine .inr ⟨_, rfl, ?_⟩
            have HG2 := Aside0.mk (show R = .error x by rw [HG.out, HRR.out, partsR, HF.out]; simp only [hr]; rfl)
            exact ⟨rfl, _, q0.M.trans hv1, hB1, by rw [HG2.out]; exact Res.bad rfl⟩
          obtain ⟨u, he, hcp, hp1, hol1, hal1⟩ := hres.2 _ hr
          subst he
          have nx1 := q0.step hp1 hv1
          obtain ⟨cs, rfl, hM⟩ := hcp
          obtain ⟨E1, e1, E2, e2, E3, e3, rfl, _⟩ := kGe_open (kSp_K n ((kSp n).K_of_M hM))
          have HR2 := Aside0.mk (show partsR F m (a + 1 + 4 + 4) = (partsR F kq aq).map (fun r => ((dn ++ [gq]) ++ r.1, r.2.1, (oj ++ oq) ++ r.2.2)) by
            rw [HRR.out, partsR]
            have hf : F aj = .ok (gq, aq, oq) := by rw [HF.out]; exact hr
            rw [hf]
            show Except.map _ (Except.map _ _) = _
            rcases partsR F kq aq with x | x
            · rfl
            · simp [Except.map])
          have HA1 := Aside0.mk (show a + 9 ≤ aq ∧ (os ++ le :: (oj ++ oq)).length ≤ aq by
            have := HJ.out
            have h1 : aj ≤ aq := hal1
            have h2 : ((os ++ le :: oj) ++ oq).length ≤ aq := hol1
            exact ⟨by omega, by simpa using h2⟩)
          have hos9 : (os ++ le :: oj) ++ oq = os ++ le :: (oj ++ oq) := by simp
          have nx1' : GX w0 W w1 gp gr b aq deep vo v1 (os ++ le :: (oj ++ oq)) gs go_ #[.int .i64 k, .slice none 0 0, .slice none 0 0, v3] := by rw [← hos9]; exact nx1
          clear hres hr hp1 hv1 hol1 hal1 q0 s0 nx1 hos9 hB1
          refine .inl ⟨_, rfl, hK.out _ _ ⟨(blk_cell nx1'.O 3).trans rfl, (blk_cell nx1'.O 0).trans rfl, trivial⟩ (fun hHeld2 => ?_)⟩
          clear hK K hHeld
          (refine norm_ (a' := ?_) ?_ ?_; rotate_left; focus (show Act.put _ (some 102) _ = _; simp only [Act.put, List.setIfInBounds_toArray, List.set_cons_zero, List.set_cons_succ]; rfl))
          refine one_ (i := 8) (N := some 103) #[true, true, true, true, true, true, true, true, true, false, false, false] rfl rfl (by kernel_rfl) (by decide) (fun K hK => ?_)
          (refine value_ (w1 := ?_) (v := ?_) (by rfl) rfl ?_ ?_; rotate_left 2; (focus (go_simp; constructor <;> rfl)))
          have nxa := nx1'.below (below_alloc (Below.refl _ w1) (.cells #[.int .i64 gq.f0, .slice E1 gq.f1.length e1, .slice E2 gq.f2.length e2, .slice E3 gq.f3.length e3] 28))
          refine hK.out _ _ ⟨(blk_cell nxa.O 3).trans rfl, (blk_cell nxa.O 0).trans rfl, trivial⟩ (fun hHeld => ?_)
          clear hK K hHeld2 nxa
          (refine norm_ (a' := ?_) ?_ ?_; rotate_left; focus (show Act.put _ (some 103) _ = _; simp only [Act.put, List.setIfInBounds_toArray, List.set_cons_zero, List.set_cons_succ]; rfl))
          refine one_ (i := 9) (N := some 104) #[true, true, true, true, true, true, true, true, true, true, false, false] rfl rfl (by kernel_rfl) (by decide) (fun K hK => ?_)
          have hord := nx1'.h
          refine Kd.S_append_step (kSp n) (w0 := w1) W.heap.size (by rfl) (.tmp 96) (.tmp 103) 26 28 (.agg #[.int .i64 0, .slice none 0 0, .slice none 0 0, .slice none 0 0]) 80 rfl Try.underlying26 (by rw [kSp_sz]; exact infoGe) (by rw [kSp_sz]; rfl) (by rw [kSp_sz]; decide) (by omega) v3 dn gq [.int .i64 gq.f0, .slice E1 gq.f1.length e1, .slice E2 gq.f2.length e2, .slice E3 gq.f3.length e3] (fun k => go_ < k) (fun k => Wb.heap.size ≤ k) rfl rfl ?aP ?aK ?aF ?aO ?aB ?aS ?aL ?_
          case aP => exact (kSp n).M_lower (by omega) ((kSp n).M_mono (fun k h => h) hM)
          case aK => exact fun k h => ⟨by omega, fun e => by have := hvlt k e.symm; omega⟩
          case aF => exact fun k h => by have := blk_lt nx1'.O; omega
          case aO => exact Kd.S_mono s3' (fun k h => ⟨h.1, by have := h.2; show ¬ _ ≤ k; omega⟩)
          case aB => exact Below.refl _ _
          case aS => have := blk_lt nx1'.S; omega
          case aL => have := HJ.out; omega
          intro v4 w2 ho2 hb2 hg2 hat2
          obtain ⟨TT, hTT⟩ : ∃ TT, TT = dn ++ [gq] := ⟨_, rfl⟩
          rw [← hTT] at ho2 HR2
          have HTT := Aside0.mk (show TT.length = j + 1 by have := HJ.out; rw [hTT, List.length_append]; simp; omega)
          clear hTT
          obtain ⟨A6, c6, e6⟩ := Kd.S_slice ho2
          subst e6
          have nx2 := nx1'.grownO hg2 (fun k e => by
            obtain ⟨h1, h2, h3, q, hq, cells, hc⟩ := (Kd.S_R (Kd.S_bound s3')).1 k e
            exact ⟨h1.1, q, cells, hc, (show ∀ q, q ∈ 28 :: [65, 24, 28] → q ≠ 98 ∧ q ≠ 113 ∧ q ≠ 4 by decide) q (by rcases List.mem_cons.1 hq with h | h; exact List.mem_cons.2 (.inl h); exact List.mem_cons.2 (.inr ((kSpP n).2.E q h)))⟩)
          clear nx1' s3' hvlt hat2 hg2 hb2 hM
          refine hK.out _ _ ⟨(blk_cell nx2.O 3).trans rfl, (blk_cell nx2.O 0).trans rfl, trivial⟩ (fun hHeld2 => ?_)
          clear hK K hHeld
          (refine norm_ (a' := ?_) ?_ ?_; rotate_left; focus (show Act.put _ (some 104) _ = _; simp only [Act.put, List.setIfInBounds_toArray, List.set_cons_zero, List.set_cons_succ]; rfl))
          (refine pure_ (i := 10) (N := some 105) (v := ?_) (a' := ?_) #[true, true, true, true, true, true, true, true, true, true, true, false] rfl rfl (by kernel_rfl) (fun _ _ _ h => h) (Or.inl ⟨by rfl, ?_⟩) ?_ ?_; rotate_left; (focus (intro w'_; go_simp; with_reducible rfl)); rotate_left; (focus (simp only [Act.put, List.setIfInBounds_toArray, List.set_cons_zero, List.set_cons_succ]; rfl)))
          refine last_ (i := 11) (N := none) #[true, true, true, true, true, true, true, true, true, true, true, true] rfl rfl (by kernel_rfl) (by decide) (fun K hK => ?_)
          have hs0 : w2.cell? ⟨go_, 3, none⟩ = some v3 := (blk_cell nx2.O 3).trans rfl
          have hf0 := blk_frozen nx2.O 3
          refine skip_ (w1 := ?_) (by rfl) rfl ?_ ?_
          rotate_left
          · go_simp
            rfl
          refine hK.out _ _ ?_
          clear hK K
          refine done_ (by kernel_rfl) ?_
          have nx3 := nx2.set 3 (.slice A6 TT.length c6)
          have hgf := nx2.h
          have s4 := Kd.S_far (p := ⟨go_, 3, none⟩) ho2 (fun k h => by show k ≠ go_; omega) (.slice A6 TT.length c6)
          obtain ⟨v5, hv5⟩ : ∃ v, v = Value.slice A6 TT.length c6 := ⟨_, rfl⟩
          rw [← hv5] at nx3 s4 ⊢
          obtain ⟨W6, hW6⟩ : ∃ y, y = w2.setCell ⟨go_, 3, none⟩ v5 := ⟨_, rfl⟩
          rw [← hW6] at nx3 s4 ⊢
          have RX := Aside0.mk (show GX w0 W W6 gp gr b aq deep vo v1 (os ++ le :: (oj ++ oq)) gs go_ #[.int .i64 k, .slice none 0 0, .slice none 0 0, v5] from by simpa using nx3)
          have HS := Aside0.mk s4
          clear hv5 hW6 nx2 nx3 s4 ho2 hs0 hf0 hHeld2 hord hgf
          go_wp2_with fail
          go_roundg kq
          case measure => omega
          case rel => exact ⟨j + 1, aq, v5, v1, TT, oj ++ oq, by omega, by go_num, HR2, RX, HS, ⟨HTT.out, HA1.out.1, HA1.out.2⟩⟩
  · rw [if_neg k4] at HG
    have k4a : (k == 4) = false := beq_eq_false_iff_ne.mpr k4
    clear k4 hkw k1 k2 k3
    go_wp2_with fail
    refine (pcount_calls w0 W7 gp gr b (a + 1 + 4) deep v6 (os ++ [le]) le 9 (by omega) RX.out.P).mono ?_
    rintro e W8 ⟨a8, ha8, hp8, hv8, hres⟩
    clear z0_ n0
    rcases hr : countR b (a + 1 + 4) le 9 with x | m
    · rw [hr] at hres HG
      have he : e = .panicked (early x.1 x.2) := hres
      subst he
      go_wp2_with fail
      exact ⟨rfl, _, (RX.out.step hp8 hv8).M, hp8.K, by rw [HG.out]; exact Res.bad rfl⟩
    · rw [hr] at hres HG
      have hm := countR_le hr
      obtain ⟨he, ha⟩ := hres
      subst he ha
      clear ha8 hr
      have RXc := Aside0.mk (RX.out.step hp8 hv8)
      clear hp8 hv8 RX
      go_wp2_with fail
      go_loopg [93] m (fun kq i wr => ∃ (j aj : Nat) (v3 vj : Value) (dn : List Ge) (oj : List Bool), j + kq = m ∧ i = .int .i64 (j : Int) ∧ Aside0 (partsR F m (a + 1 + 4 + 4) = (partsR F kq aj).map (fun r => (dn ++ r.1, r.2.1, oj ++ r.2.2))) ∧ Aside0 (GX w0 W wr gp gr b aj deep vo vj (os ++ le :: oj) gs go_ #[.int .i64 k, .slice none 0 0, .slice none 0 0, v3]) ∧ Aside0 (Kd.S (kSp n) 28 wr W.heap.size (fun k => go_ < k) v3 dn) ∧ Aside0 (dn.length = j ∧ a + 9 ≤ aj ∧ (os ++ le :: oj).length ≤ aj))
      case atStart => exact ⟨0, a + 1 + 4 + 4, _, v6, [], [], by omega, rfl, ⟨by rcases partsR F m (a + 1 + 4 + 4) with x | x <;> rfl⟩, RXc, ⟨Kd.S_nil _ _ _ _ _⟩, ⟨rfl, by omega, by have := HO.out; simp; omega⟩⟩
      case round =>
        clear RXc
        obtain ⟨j, aj, v3, vj, dn, oj, hj, rfl, HRR, RX, HS, HJ⟩ := hrel
        cases gk with
        | zero =>
          have hlt : ¬ ((j : Int) < (m : Int)) := by omega
          have HG2 := Aside0.mk (show R = .ok (⟨k, [], [], dn⟩, aj, le :: oj) by rw [HG.out, HRR.out]; simp [partsR, Except.map])
          go_upto_region 34 with fail
          obtain ⟨A8, c8, e8⟩ := Kd.S_slice HS.out
          subst e8
          have rz_ := RX.out
          have r0 : wr.cell? ⟨gs, 0, none⟩ = some (.int .i64 0) := (blk_cell rz_.S 0).trans rfl
          have t0 := blk_frozen rz_.S 0
          have r1 : wr.cell? ⟨gs, 1, none⟩ = some (.slice none 0 0) := (blk_cell rz_.S 1).trans rfl
          have t1 := blk_frozen rz_.S 1
          have r2 : wr.cell? ⟨gs, 2, none⟩ = some (.slice none 0 0) := (blk_cell rz_.S 2).trans rfl
          have t2 := blk_frozen rz_.S 2
          have r3 : wr.cell? ⟨gs, 3, none⟩ = some (.slice none 0 0) := (blk_cell rz_.S 3).trans rfl
          have t3 := blk_frozen rz_.S 3
          have o0 : wr.cell? ⟨go_, 0, none⟩ = some (.int .i64 k) := (blk_cell rz_.O 0).trans rfl
          have o1 : wr.cell? ⟨go_, 1, none⟩ = some (.slice none 0 0) := (blk_cell rz_.O 1).trans rfl
          have o2 : wr.cell? ⟨go_, 2, none⟩ = some (.slice none 0 0) := (blk_cell rz_.O 2).trans rfl
          have o3 : wr.cell? ⟨go_, 3, none⟩ = some (.slice A8 dn.length c8) := (blk_cell rz_.O 3).trans rfl
          have RZ := Aside0.mk rz_
          clear rz_
          go_wp2_with fail
          have bk := (blk_set (blk_set (blk_set (blk_set RZ.out.S 0 (.int .i64 k)) 1 (.slice none 0 0)) 2 (.slice none 0 0)) 3 (.slice A8 dn.length c8))
          refine bodyPost_ret (results_geom (a := 6) (by rfl) _ _ (by rfl) (by simpa using bk)) rfl ?_
          have dn := RZ.out.done (.int .i64 k) (.slice none 0 0) (.slice none 0 0) (.slice A8 dn.length c8)
          refine ⟨_, dn.2, dn.1.K, ?_⟩
          rw [HG2.out]
          refine Res.ok_ ⟨_, rfl, RZ.out.copy (ok1 := fun _ => False) (ok2 := fun _ => False) (ok3 := fun k => go_ < k) (fun _ h => h.elim) (fun _ h => h.elim) (fun _ h => h) (fun _ h => h.elim) (fun _ h => h.elim) (fun _ h => h.elim) (Kd.R_nil _ _ _ _ _) (Kd.S_nil _ _ _ _ _) HS.out, dn.1, by have h9 := HJ.out.2.2; simpa using h9, by have := HJ.out; show a ≤ aj; omega⟩
        | succ kq =>
          have hlt : (j : Int) < (m : Int) := by omega
          have hlv8 : wrap64 (level + 1) = level + 1 := by unfold wrap64; omega
          have hlv9 : IntKind.i64.wrap (level + 1) = level + 1 := by unfold IntKind.wrap; simp [IntKind.bits, IntKind.signed]; omega
          go_upto_region 23 with fail
          have q0 := RX.out.below (below_drew (Below.refl _ _))
          have s0 := Kd.S_drew HS.out
          have hgz : go_ < wr.drew.heap.size := blk_lt q0.O
          refine start_ (n := 12) (S := fun w' => w'.cell? ⟨go_, 3, none⟩ = some v3 ∧ w'.cell? ⟨go_, 0, none⟩ = some (.int .i64 k) ∧ True) (ds := [11]) #[false, false, false, false, false, false, false, false, false, false, false, false] hmx rfl rfl ⟨(blk_cell q0.O 3).trans rfl, (blk_cell q0.O 0).trans rfl, trivial⟩ (fun hHeld => ?_)
          clear RX HS
          generalize wr.drew = Wb at q0 s0 hgz hHeld ⊢
          (refine pure_ (i := 0) (N := some 95) (v := ?_) (a' := ?_) #[true, false, false, false, false, false, false, false, false, false, false, false] rfl rfl (by kernel_rfl) (fun _ _ _ h => h) (Or.inl ⟨by rfl, ?_⟩) ?_ ?_; rotate_left; (focus (intro w'_; go_simp; with_reducible rfl)); rotate_left; (focus (simp only [Act.put, List.setIfInBounds_toArray, List.set_cons_zero, List.set_cons_succ]; rfl)))
          (refine pure_ (i := 2) (N := some 97) (v := ?_) (a' := ?_) #[true, false, true, false, false, false, false, false, false, false, false, false] rfl rfl (by kernel_rfl) (fun _ _ _ h => h) (Or.inl ⟨by rfl, ?_⟩) ?_ ?_; rotate_left; (focus (intro w'_; go_simp; with_reducible rfl)); rotate_left; (focus (simp only [Act.put, List.setIfInBounds_toArray, List.set_cons_zero, List.set_cons_succ]; rfl)))
          (refine pure_ (i := 3) (N := some 98) (v := ?_) (a' := ?_) #[true, false, true, true, false, false, false, false, false, false, false, false] rfl rfl (by kernel_rfl) (fun _ _ _ h => h) (Or.inl ⟨by rfl, ?_⟩) ?_ ?_; rotate_left; (focus (intro w'_; go_simp; with_reducible rfl)); rotate_left; (focus (simp only [Act.put, List.setIfInBounds_toArray, List.set_cons_zero, List.set_cons_succ]; rfl)))
          (refine pure_ (i := 4) (N := some 99) (v := ?_) (a' := ?_) #[true, false, true, true, true, false, false, false, false, false, false, false] rfl rfl (by kernel_rfl) (fun _ _ _ h => h) (Or.inl ⟨by rfl, ?_⟩) ?_ ?_; rotate_left; (focus (intro w'_; go_simp; with_reducible rfl)); rotate_left; (focus (simp only [Act.put, List.setIfInBounds_toArray, List.set_cons_zero, List.set_cons_succ]; rfl)))
          (refine pure_ (i := 5) (N := some 100) (v := ?_) (a' := ?_) #[true, false, true, true, true, true, false, false, false, false, false, false] rfl rfl (by kernel_rfl) (fun _ _ _ h => h) (Or.inl ⟨by rfl, ?_⟩) ?_ ?_; rotate_left; (focus (intro w'_; go_simp; with_reducible rfl)); rotate_left; (focus (simp only [Act.put, List.setIfInBounds_toArray, List.set_cons_zero, List.set_cons_succ]; rfl)))
          (refine take_ (i := 1) (N := some 96) (v := ?_) (a' := ?_) #[true, true, true, true, true, true, false, false, false, false, false, false] rfl rfl (by kernel_rfl) (fun _ _ _ h => h) (Or.inl ⟨by rfl, ?_⟩) hHeld ?_ ?_; rotate_left; (focus (intro w'_ hs_; (repeat obtain ⟨_, hs_⟩ := hs_); go_simp; with_reducible rfl)); rotate_left; (focus (simp only [Act.put, List.setIfInBounds_toArray, List.set_cons_zero, List.set_cons_succ]; rfl)))
          (refine take_ (i := 6) (N := some 101) (v := ?_) (a' := ?_) #[true, true, true, true, true, true, true, false, false, false, false, false] rfl rfl (by kernel_rfl) (fun _ _ _ h => h) (Or.inl ⟨by rfl, ?_⟩) hHeld ?_ ?_; rotate_left; (focus (intro w'_ hs_; (repeat obtain ⟨_, hs_⟩ := hs_); go_simp; with_reducible rfl)); rotate_left; (focus (simp only [Act.put, List.setIfInBounds_toArray, List.set_cons_zero, List.set_cons_succ]; rfl)))
          refine one_ (i := 7) (N := some 102) #[true, true, true, true, true, true, true, true, false, false, false, false] rfl rfl (by kernel_rfl) (by decide) (fun K hK => ?_)
          refine goesP_ Try.func35 (by kernel_rfl) rfl #[.pointer (some ⟨gp, 0, none⟩), .int .i64 (level + 1), .int .i64 k] (by rfl) rfl rfl (by simp [Act.eval]) ?_
          refine (IH.out w0 Wb gp gr b aj deep vj (os ++ le :: oj) (level + 1) k q0.P HLV.out.1 HLV.out.2.1 HLV.out.2.2.1 HLV.out.2.2.2 hd HKR.out HJ.out.2.2).mono ?_
          rintro e w1 ⟨v1, hv1, hB1, hres⟩
          have s3' := q0.P.keepS hv1 s0 (fun q hq => (show ∀ q, q ∈ 28 :: [65, 24, 28] → q ≠ 98 ∧ q ≠ 113 ∧ q ≠ 4 by decide) q (by rcases List.mem_cons.1 hq with h | h; exact List.mem_cons.2 (.inl h); exact List.mem_cons.2 (.inr ((kSpP n).2.E q h))))
          have hvlt := Kd.S_lt s0
          have hz1 : Wb.heap.size ≤ w1.heap.size := hv1.s
          rcases hr : geomR b deep n aj (level + 1) k with x | ⟨gq, aq, oq⟩
          · have he := hres.1 x hr
            subst he
            refine .inr ⟨_, rfl, ?_⟩
            have HG2 := Aside0.mk (show R = .error x by rw [HG.out, HRR.out, partsR, HF.out]; simp only [hr]; rfl)
            exact ⟨rfl, _, q0.M.trans hv1, hB1, by rw [HG2.out]; exact Res.bad rfl⟩
          obtain ⟨u, he, hcp, hp1, hol1, hal1⟩ := hres.2 _ hr
          subst he
          have nx1 := q0.step hp1 hv1
          obtain ⟨cs, rfl, hM⟩ := hcp
          obtain ⟨E1, e1, E2, e2, E3, e3, rfl, _⟩ := kGe_open (kSp_K n ((kSp n).K_of_M hM))
          have HR2 := Aside0.mk (show partsR F m (a + 1 + 4 + 4) = (partsR F kq aq).map (fun r => ((dn ++ [gq]) ++ r.1, r.2.1, (oj ++ oq) ++ r.2.2)) by
            rw [HRR.out, partsR]
            have hf : F aj = .ok (gq, aq, oq) := by rw [HF.out]; exact hr
            rw [hf]
            show Except.map _ (Except.map _ _) = _
            rcases partsR F kq aq with x | x
            · rfl
            · simp [Except.map])
          have HA1 := Aside0.mk (show a + 9 ≤ aq ∧ (os ++ le :: (oj ++ oq)).length ≤ aq by
            have := HJ.out
            have h1 : aj ≤ aq := hal1
            have h2 : ((os ++ le :: oj) ++ oq).length ≤ aq := hol1
            exact ⟨by omega, by simpa using h2⟩)
          have hos9 : (os ++ le :: oj) ++ oq = os ++ le :: (oj ++ oq) := by simp
          have nx1' : GX w0 W w1 gp gr b aq deep vo v1 (os ++ le :: (oj ++ oq)) gs go_ #[.int .i64 k, .slice none 0 0, .slice none 0 0, v3] := by rw [← hos9]; exact nx1
          clear hres hr hp1 hv1 hol1 hal1 q0 s0 nx1 hos9 hB1
          refine .inl ⟨_, rfl, hK.out _ _ ⟨(blk_cell nx1'.O 3).trans rfl, (blk_cell nx1'.O 0).trans rfl, trivial⟩ (fun hHeld2 => ?_)⟩
          clear hK K hHeld
          (refine norm_ (a' := ?_) ?_ ?_; rotate_left; focus (show Act.put _ (some 102) _ = _; simp only [Act.put, List.setIfInBounds_toArray, List.set_cons_zero, List.set_cons_succ]; rfl))
          refine one_ (i := 8) (N := some 103) #[true, true, true, true, true, true, true, true, true, false, false, false] rfl rfl (by kernel_rfl) (by decide) (fun K hK => ?_)
          (refine value_ (w1 := ?_) (v := ?_) (by rfl) rfl ?_ ?_; rotate_left 2; (focus (go_simp; constructor <;> rfl)))
          have nxa := nx1'.below (below_alloc (Below.refl _ w1) (.cells #[.int .i64 gq.f0, .slice E1 gq.f1.length e1, .slice E2 gq.f2.length e2, .slice E3 gq.f3.length e3] 28))
          refine hK.out _ _ ⟨(blk_cell nxa.O 3).trans rfl, (blk_cell nxa.O 0).trans rfl, trivial⟩ (fun hHeld => ?_)
          clear hK K hHeld2 nxa
          (refine norm_ (a' := ?_) ?_ ?_; rotate_left; focus (show Act.put _ (some 103) _ = _; simp only [Act.put, List.setIfInBounds_toArray, List.set_cons_zero, List.set_cons_succ]; rfl))
          refine one_ (i := 9) (N := some 104) #[true, true, true, true, true, true, true, true, true, true, false, false] rfl rfl (by kernel_rfl) (by decide) (fun K hK => ?_)
          have hord := nx1'.h
          refine Kd.S_append_step (kSp n) (w0 := w1) W.heap.size (by rfl) (.tmp 96) (.tmp 103) 26 28 (.agg #[.int .i64 0, .slice none 0 0, .slice none 0 0, .slice none 0 0]) 80 rfl Try.underlying26 (by rw [kSp_sz]; exact infoGe) (by rw [kSp_sz]; rfl) (by rw [kSp_sz]; decide) (by omega) v3 dn gq [.int .i64 gq.f0, .slice E1 gq.f1.length e1, .slice E2 gq.f2.length e2, .slice E3 gq.f3.length e3] (fun k => go_ < k) (fun k => Wb.heap.size ≤ k) rfl rfl ?aP ?aK ?aF ?aO ?aB ?aS ?aL ?_
          case aP => exact (kSp n).M_lower (by omega) ((kSp n).M_mono (fun k h => h) hM)
          case aK => exact fun k h => ⟨by omega, fun e => by have := hvlt k e.symm; omega⟩
          case aF => exact fun k h => by have := blk_lt nx1'.O; omega
          case aO => exact Kd.S_mono s3' (fun k h => ⟨h.1, by have := h.2; show ¬ _ ≤ k; omega⟩)
          case aB => exact Below.refl _ _
          case aS => have := blk_lt nx1'.S; omega
          case aL => have := HJ.out; omega
          intro v4 w2 ho2 hb2 hg2 hat2
          obtain ⟨TT, hTT⟩ : ∃ TT, TT = dn ++ [gq] := ⟨_, rfl⟩
          rw [← hTT] at ho2 HR2
          have HTT := Aside0.mk (show TT.length = j + 1 by have := HJ.out; rw [hTT, List.length_append]; simp; omega)
          clear hTT
          obtain ⟨A6, c6, e6⟩ := Kd.S_slice ho2
          subst e6
          have nx2 := nx1'.grownO hg2 (fun k e => by
            obtain ⟨h1, h2, h3, q, hq, cells, hc⟩ := (Kd.S_R (Kd.S_bound s3')).1 k e
            exact ⟨h1.1, q, cells, hc, (show ∀ q, q ∈ 28 :: [65, 24, 28] → q ≠ 98 ∧ q ≠ 113 ∧ q ≠ 4 by decide) q (by rcases List.mem_cons.1 hq with h | h; exact List.mem_cons.2 (.inl h); exact List.mem_cons.2 (.inr ((kSpP n).2.E q h)))⟩)
          clear nx1' s3' hvlt hat2 hg2 hb2 hM
          refine hK.out _ _ ⟨(blk_cell nx2.O 3).trans rfl, (blk_cell nx2.O 0).trans rfl, trivial⟩ (fun hHeld2 => ?_)
          clear hK K hHeld
          (refine norm_ (a' := ?_) ?_ ?_; rotate_left; focus (show Act.put _ (some 104) _ = _; simp only [Act.put, List.setIfInBounds_toArray, List.set_cons_zero, List.set_cons_succ]; rfl))
          (refine pure_ (i := 10) (N := some 105) (v := ?_) (a' := ?_) #[true, true, true, true, true, true, true, true, true, true, true, false] rfl rfl (by kernel_rfl) (fun _ _ _ h => h) (Or.inl ⟨by rfl, ?_⟩) ?_ ?_; rotate_left; (focus (intro w'_; go_simp; with_reducible rfl)); rotate_left; (focus (simp only [Act.put, List.setIfInBounds_toArray, List.set_cons_zero, List.set_cons_succ]; rfl)))
          refine last_ (i := 11) (N := none) #[true, true, true, true, true, true, true, true, true, true, true, true] rfl rfl (by kernel_rfl) (by decide) (fun K hK => ?_)
          have hs0 : w2.cell? ⟨go_, 3, none⟩ = some v3 := (blk_cell nx2.O 3).trans rfl
          have hf0 := blk_frozen nx2.O 3
          refine skip_ (w1 := ?_) (by rfl) rfl ?_ ?_
          rotate_left
          · go_simp
            rfl
          refine hK.out _ _ ?_
          clear hK K
          refine done_ (by kernel_rfl) ?_
          have nx3 := nx2.set 3 (.slice A6 TT.length c6)
          have hgf := nx2.h
          have s4 := Kd.S_far (p := ⟨go_, 3, none⟩) ho2 (fun k h => by show k ≠ go_; omega) (.slice A6 TT.length c6)
          obtain ⟨v5, hv5⟩ : ∃ v, v = Value.slice A6 TT.length c6 := ⟨_, rfl⟩
          rw [← hv5] at nx3 s4 ⊢
          obtain ⟨W6, hW6⟩ : ∃ y, y = w2.setCell ⟨go_, 3, none⟩ v5 := ⟨_, rfl⟩
          rw [← hW6] at nx3 s4 ⊢
          have RX := Aside0.mk (show GX w0 W W6 gp gr b aq deep vo v1 (os ++ le :: (oj ++ oq)) gs go_ #[.int .i64 k, .slice none 0 0, .slice none 0 0, v5] from by simpa using nx3)
          have HS := Aside0.mk s4
          clear hv5 hW6 nx2 nx3 s4 ho2 hs0 hf0 hHeld2 hord hgf
          go_wp2_with fail
          go_roundg kq
          case measure => omega
          case rel => exact ⟨j + 1, aq, v5, v1, TT, oj ++ oq, by omega, by go_num, HR2, RX, HS, ⟨HTT.out, HA1.out.1, HA1.out.2⟩⟩
def noGe : Value := .agg #[.int .i64 0, .slice none 0 0, .slice none 0 0, .slice none 0 0]
/-- What the cells of parsed's results hold. -/
structure Rc (W : World) (g0 : Nat) (c : Array Value) (s ev : Value) : Prop where
  a : W.heap[g0]? = some (.cells c 28 (0, 0))
  b : W.heap[g0 + 1]? = some (.cells #[s] 40 (0, 0))
  c : W.heap[g0 + 2]? = some (.cells #[ev] 33 (0, 0))
theorem Rc.below {W W' : World} {g0 : Nat} {c : Array Value} {s ev : Value} (h : Rc W g0 c s ev) (hb : Below W.heap.size W W') : Rc W' g0 c s ev := ⟨blk_below h.a hb, blk_below h.b hb, blk_below h.c hb⟩
theorem ErrV.farT {w : World} {v u : Value} {x : Option (Int × Int)} (h : ErrV w v x) {b j t : Nat} {cs : Array Value} (hk : w.heap[b]? = some (.cells cs t (0, 0))) (ht : 109 ≠ t) : ErrV (w.setCell ⟨b, j, none⟩ u) v x := by
  rcases x with _ | ⟨a, c⟩
  · exact h
  · obtain ⟨g, e, h⟩ := h
    exact ⟨g, e, blk_far h (p := ⟨b, j, none⟩) (blk_ne h hk ht) _⟩
/-- The six cells of the results are written. -/
def stored (w : World) (g0 : Nat) (u0 u1 u2 u3 su eu : Value) : World := (((((w.setCell ⟨g0, 0, none⟩ u0).setCell ⟨g0, 1, none⟩ u1).setCell ⟨g0, 2, none⟩ u2).setCell ⟨g0, 3, none⟩ u3).setCell ⟨g0 + 1, 0, none⟩ su).setCell ⟨g0 + 2, 0, none⟩ eu
theorem stored_far (w : World) (g0 : Nat) (u0 u1 u2 u3 su eu : Value) (k : Nat) (h : g0 + 2 < k) : (stored w g0 u0 u1 u2 u3 su eu).heap[k]? = w.heap[k]? :=
  (Below.heap_setCell _ ⟨g0 + 2, 0, none⟩ _ k (by show k ≠ g0 + 2; omega)).trans ((Below.heap_setCell _ ⟨g0 + 1, 0, none⟩ _ k (by show k ≠ g0 + 1; omega)).trans ((Below.heap_setCell _ ⟨g0, 3, none⟩ _ k (by show k ≠ g0; omega)).trans ((Below.heap_setCell _ ⟨g0, 2, none⟩ _ k (by show k ≠ g0; omega)).trans ((Below.heap_setCell _ ⟨g0, 1, none⟩ _ k (by show k ≠ g0; omega)).trans (Below.heap_setCell _ ⟨g0, 0, none⟩ _ k (by show k ≠ g0; omega))))))
theorem Rc.store {w : World} {g0 : Nat} {q0 q1 q2 q3 s ev : Value} (h : Rc w g0 #[q0, q1, q2, q3] s ev) (u0 u1 u2 u3 su eu : Value) :
    Rc (stored w g0 u0 u1 u2 u3 su eu) g0 #[u0, u1, u2, u3] su eu ∧ Below g0 w (stored w g0 u0 u1 u2 u3 su eu) ∧ ∀ v x, ErrV w v x → ErrV (stored w g0 u0 u1 u2 u3 su eu) v x := by
  have a1 := blk_set (blk_set (blk_set (blk_set h.a 0 u0) 1 u1) 2 u2) 3 u3
  have b1 := blk_far (blk_far (blk_far (blk_far h.b (p := ⟨g0, 0, none⟩) (by show g0 + 1 ≠ g0; omega) u0) (p := ⟨g0, 1, none⟩) (by show g0 + 1 ≠ g0; omega) u1) (p := ⟨g0, 2, none⟩) (by show g0 + 1 ≠ g0; omega) u2) (p := ⟨g0, 3, none⟩) (by show g0 + 1 ≠ g0; omega) u3
  have c1 := blk_far (blk_far (blk_far (blk_far h.c (p := ⟨g0, 0, none⟩) (by show g0 + 2 ≠ g0; omega) u0) (p := ⟨g0, 1, none⟩) (by show g0 + 2 ≠ g0; omega) u1) (p := ⟨g0, 2, none⟩) (by show g0 + 2 ≠ g0; omega) u2) (p := ⟨g0, 3, none⟩) (by show g0 + 2 ≠ g0; omega) u3
  refine ⟨⟨?_, ?_, ?_⟩, ?_, ?_⟩
  · have h9 := blk_far (blk_far a1 (p := ⟨g0 + 1, 0, none⟩) (by show g0 ≠ g0 + 1; omega) su) (p := ⟨g0 + 2, 0, none⟩) (by show g0 ≠ g0 + 2; omega) eu
    exact h9
  · exact blk_far (blk_set b1 0 su) (p := ⟨g0 + 2, 0, none⟩) (by show g0 + 1 ≠ g0 + 2; omega) eu
  · exact blk_set (blk_far c1 (p := ⟨g0 + 1, 0, none⟩) (by show g0 + 2 ≠ g0 + 1; omega) su) 0 eu
  · exact ((((((Below.refl g0 w).setCell (p := ⟨g0, 0, none⟩) (Nat.le_refl _) _).setCell (p := ⟨g0, 1, none⟩) (Nat.le_refl _) _).setCell (p := ⟨g0, 2, none⟩) (Nat.le_refl _) _).setCell (p := ⟨g0, 3, none⟩) (Nat.le_refl _) _).setCell (p := ⟨g0 + 1, 0, none⟩) (by show g0 ≤ g0 + 1; omega) _).setCell (p := ⟨g0 + 2, 0, none⟩) (by show g0 ≤ g0 + 2; omega) _
  · intro v x hv
    have v1 := ErrV.farT hv (j := 0) (u := u0) h.a (by decide)
    have v2 := ErrV.farT v1 (j := 1) (u := u1) (blk_set h.a 0 u0) (by decide)
    have v3 := ErrV.farT v2 (j := 2) (u := u2) (blk_set (blk_set h.a 0 u0) 1 u1) (by decide)
    have v4 := ErrV.farT v3 (j := 3) (u := u3) (blk_set (blk_set (blk_set h.a 0 u0) 1 u1) 2 u2) (by decide)
    have v5 := ErrV.farT v4 (j := 0) (u := su) b1 (by decide)
    exact ErrV.farT v5 (j := 0) (u := eu) (blk_far c1 (p := ⟨g0 + 1, 0, none⟩) (by show g0 + 2 ≠ g0 + 1; omega) su) (by decide)
theorem early_as (v : Value) (w : World) : (Instr.typeAssert (.iface 92 v) 20 92 true).run Try.prog w = .ok (.tuple #[v, .bool true]) w := by kernel_rfl
set_option maxRecDepth 100000 in
set_option maxHeartbeats 8000000 in
theorem catch_panicking (W : World) (g0 : Nat) (x : Int × Int) (q0 q1 q2 q3 s ev : Value) (h : Rc W g0 #[q0, q1, q2, q3] s ev) :
    CallsD Try.prog 33 #[.pointer (some ⟨g0, 0, none⟩), .pointer (some ⟨g0 + 1, 0, none⟩), .pointer (some ⟨g0 + 2, 0, none⟩)] (.panicking (early x.1 x.2)) W fun e u' w' =>
      e = .returned (.tuple #[]) ∧ u' = .panicking [{ v := .iface 92 (.agg #[.int .i64 x.1, .int .i64 x.2]), recovered := true }] ∧ ∃ ve, Rc w' g0 #[.int .i64 0, .slice none 0 0, .slice none 0 0, .slice none 0 0] (.slice none 0 0) ve ∧ ErrV w' ve (some x) ∧ Below g0 W w' := by
  have hu := Try.underlying28
  have hue := Try.underlying92
  have has := early_as
  refine callsD_of_wpS Try.func33 rfl fun c₀ cs hu => ?_
  apply wpS_seq
  apply wpS_region
  simp [wpOpsS, go_sem, recoverD, hu, early, Try.ntmps33, Exit.thenS]
  refine wpS_of_wp ?_
  simp only [Array.replicate, List.replicate, List.setIfInBounds_toArray, List.set_cons_zero, List.set_cons_succ, List.append_toArray, List.cons_append, List.nil_append]
  go_wp2_with fail
  have hba : Below W.heap.size W (W.alloc (.cells #[.int .i64 x.1, .int .i64 x.2] 92)) := below_alloc (Below.refl _ _) _
  refine (wrap_calls x.1 x.2 _).mono ?_
  rintro e w1 ⟨ve, rfl, hev, hb1⟩
  have hb := below_step hba hb1
  have k1 := h.below hb
  have hlt := blk_lt h.a
  obtain ⟨gf, e9, hf⟩ := id hev
  subst e9
  have HEV := Aside0.mk (And.intro hev (And.intro hb hlt))
  have r0 : w1.cell? ⟨g0, 0, none⟩ = some q0 := (blk_cell k1.a 0).trans rfl
  have t0 := blk_frozen k1.a 0
  have r1 : w1.cell? ⟨g0, 1, none⟩ = some q1 := (blk_cell k1.a 1).trans rfl
  have t1 := blk_frozen k1.a 1
  have r2 : w1.cell? ⟨g0, 2, none⟩ = some q2 := (blk_cell k1.a 2).trans rfl
  have t2 := blk_frozen k1.a 2
  have r3 : w1.cell? ⟨g0, 3, none⟩ = some q3 := (blk_cell k1.a 3).trans rfl
  have t3 := blk_frozen k1.a 3
  have r4 : w1.cell? ⟨g0 + 1, 0, none⟩ = some s := (blk_cell k1.b 0).trans rfl
  have t4 := blk_frozen k1.b 0
  have r5 : w1.cell? ⟨g0 + 2, 0, none⟩ = some ev := (blk_cell k1.c 0).trans rfl
  have t5 := blk_frozen k1.c 0
  have K1 := Aside0.mk k1
  clear hf hba hev hb1 hb k1 h hlt
  go_wp2_with fail
  have hs := K1.out.store (.int .i64 0) (.slice none 0 0) (.slice none 0 0) (.slice none 0 0) (.slice none 0 0) (.iface 107 (.pointer (some ⟨gf, 0, none⟩)))
  obtain ⟨hlt, hb1, hev⟩ : g0 < W.heap.size ∧ Below W.heap.size W w1 ∧ ErrV w1 (.iface 107 (.pointer (some ⟨gf, 0, none⟩))) (some (x.1, x.2)) := ⟨HEV.out.2.2, HEV.out.2.1, HEV.out.1⟩
  simp [bodyPostS, results, Try.results33]
  exact ⟨_, hs.1, hs.2.2 _ _ hev, (hb1.mono (by omega)).trans hs.2.1⟩
theorem catch_idle (W : World) (a0 a1 a2 : Value) : CallsD Try.prog 33 #[a0, a1, a2] .returning W fun e u' w' => e = .returned (.tuple #[]) ∧ u' = .returning ∧ w' = W := by
  refine callsD_of_wpS Try.func33 rfl fun c₀ cs hu => ?_
  apply wpS_seq
  apply wpS_region
  simp [wpOpsS, go_sem, recoverD, hu, Try.ntmps33, Exit.thenS]
  refine wpS_of_wp ?_
  simp only [Array.replicate, List.replicate, List.setIfInBounds_toArray, List.set_cons_zero, List.set_cons_succ, List.append_toArray, List.cons_append, List.nil_append]
  go_wp2_with fail
  cases c₀
  simp_all [bodyPostS, results, Try.results33]
set_option maxRecDepth 100000 in
set_option maxHeartbeats 8000000 in
theorem left_raw (W : World) (gr : Nat) (A : Option Addr) (n c a : Nat) (f : Bool) (h : W.heap[gr]? = some (.cells #[.slice A n c, .int .i64 (a : Int), .bool f] 113 (0, 0))) (hn : n ≤ 1048576) (ha : a ≤ n) :
    Calls Try.prog 36 #[.pointer (some ⟨gr, 0, none⟩)] W fun e w' => e = .returned (.int .i64 ((n : Int) - (a : Int))) ∧ Below W.heap.size W w' := by
  have hu := Try.underlying113
  have q0 : W.cell? ⟨gr, 0, none⟩ = some (.slice A n c) := (blk_cell h 0).trans rfl
  have q1 : W.cell? ⟨gr, 1, none⟩ = some (.int .i64 (a : Int)) := (blk_cell h 1).trans rfl
  clear h
  go_enter Try.func36, Try.ntmps36
  go_upto_region 1 with fail
  go_quiet (fail)
  go_wp2_with fail
  go_ret
  exact ⟨rfl, pw_below_drewN (Below.refl _ _) _⟩
set_option maxRecDepth 100000 in
set_option maxHeartbeats 8000000 in
theorem at_raw (W : World) (gr : Nat) (A : Option Addr) (n c a : Nat) (f : Bool) (h : W.heap[gr]? = some (.cells #[.slice A n c, .int .i64 (a : Int), .bool f] 113 (0, 0))) :
    Calls Try.prog 37 #[.pointer (some ⟨gr, 0, none⟩)] W fun e w' => e = .returned (.int .i64 (a : Int)) ∧ Below W.heap.size W w' := by
  have hu := Try.underlying113
  have q1 : W.cell? ⟨gr, 1, none⟩ = some (.int .i64 (a : Int)) := (blk_cell h 1).trans rfl
  clear h
  go_enter Try.func37, Try.ntmps37
  go_wp2_with fail
  go_ret
  exact ⟨rfl, Below.refl _ _⟩
theorem results_rc {fn : Func} (h : fn.results = #[.cell 6 28, .cell 7 40, .cell 8 33]) (tmps : Array Value) (w : World) {g0 : Nat} {q0 q1 q2 q3 s ev : Value} (h6 : tmps.getD 6 undef = .pointer (some ⟨g0, 0, none⟩)) (h7 : tmps.getD 7 undef = .pointer (some ⟨g0 + 1, 0, none⟩)) (h8 : tmps.getD 8 undef = .pointer (some ⟨g0 + 2, 0, none⟩)) (hr : Rc w g0 #[q0, q1, q2, q3] s ev) :
    (results fn tmps).run Try.prog w = .ok (.tuple #[.agg #[q0, q1, q2, q3], s, ev]) w := by
  rw [Array.getD_eq_getD_getElem?] at h6 h7 h8
  have hu := Try.underlying28
  have hu7 := Try.underlying40
  have hu8 := Try.underlying33
  have c0 : w.cell? ⟨g0, 0, none⟩ = some q0 := (blk_cell hr.a 0).trans rfl
  have c1 : w.cell? ⟨g0, 1, none⟩ = some q1 := (blk_cell hr.a 1).trans rfl
  have c2 : w.cell? ⟨g0, 2, none⟩ = some q2 := (blk_cell hr.a 2).trans rfl
  have c3 : w.cell? ⟨g0, 3, none⟩ = some q3 := (blk_cell hr.a 3).trans rfl
  have c4 : w.cell? ⟨g0 + 1, 0, none⟩ = some s := (blk_cell hr.b 0).trans rfl
  have c5 : w.cell? ⟨g0 + 2, 0, none⟩ = some ev := (blk_cell hr.c 0).trans rfl
  simp [results, h, h6, h7, h8, go_sem, asAddr, c0, c1, c2, c3, c4, c5]
def parsedR (b : List Int) (depth most : Int) : Except (Int × Int) (Ge × List Bool) :=
  if min (max most 0) 65536 < b.length then .error (min (max most 0) 65536, 192) else match geomR b (min depth 256) 257 0 1 0 with
    | .error e => .error e
    | .ok r => if r.2.1 < b.length then .error (r.2.1, 174) else .ok (r.1, r.2.2)
set_option maxRecDepth 100000 in
set_option maxHeartbeats 16000000 in
theorem parsed_calls (A : Option Addr) (c : Nat) (b : List Int) (depth most : Int) (W : World) (hC : kB.C W A b.length b) (hc : b.length ≤ c) (hl : b.length ≤ 1048576) :
    Calls Try.prog 21 #[.slice A b.length c, .int .i64 depth, .int .i64 most] W fun e W' => ∃ u v ev, e = .returned (.tuple #[u, v, ev]) ∧ Below W.heap.size W W' ∧
      (∀ x, parsedR b depth most = .error x → u = noGe ∧ v = .slice none 0 0 ∧ ErrV W' ev (some x)) ∧ ∀ r, parsedR b depth most = .ok r → ev = .nilIface ∧ CopyOf 257 W W' u r.1 ∧ Kd.bool.R 4 W' W.heap.size (fun _ => True) v r.2 := by
  have hu := Try.underlying28
  have hup := Try.underlying98
  have hmx : Try.prog.follows .mixedOrders = true := by kernel_rfl
  have hmf : ∀ (fn : Fn) (first cap : Array Value) (w : World), (Instr.makeFunc fn first cap).run Try.prog w = .ok (.func fn first cap) w := fun _ _ _ _ => rfl
  obtain ⟨R, hR⟩ : ∃ R, R = parsedR b depth most := ⟨_, rfl⟩
  have HG := Aside0.mk hR
  have HC := Aside0.mk (And.intro hC hc)
  rw [← hR]
  clear hR hC hc
  unfold parsedR at HG
  obtain ⟨m1, hm1⟩ : ∃ y, y = max most 0 := ⟨_, rfl⟩
  rw [← hm1] at HG
  obtain ⟨m, hm⟩ : ∃ y, y = min m1 65536 := ⟨_, rfl⟩
  rw [← hm] at HG
  have hm0 : 0 ≤ m ∧ m ≤ 65536 := by omega
  have hmx9 : (if 65536 < if most < 0 then 0 else most then 65536 else if most < 0 then 0 else most) = m := by
    rw [hm, hm1]
    split <;> split <;> omega
  clear hm hm1
  go_enter_defers Try.func21, Try.ntmps21
  go_upto_region 1 with fail
  obtain ⟨g0, hg0⟩ : ∃ y, y = W.heap.size := ⟨_, rfl⟩
  obtain ⟨W0, hW0⟩ : ∃ y, y = ((W.alloc (.cells #[.int .i64 0, .slice none 0 0, .slice none 0 0, .slice none 0 0] 28)).alloc (.cells #[.slice none 0 0] 40)).alloc (.cells #[.nilIface] 33) := ⟨_, rfl⟩
  rw [← hW0, ← hg0, show g0 + 1 + 1 = g0 + 2 from rfl]
  have hb0 : Below W.heap.size W W0 := by rw [hW0]; exact below_alloc (below_alloc (below_alloc (Below.refl _ _) _) _) _
  have hrc : Rc W0 g0 #[.int .i64 0, .slice none 0 0, .slice none 0 0, .slice none 0 0] (.slice none 0 0) .nilIface := by
    rw [hW0, hg0]
    refine ⟨blk_alloc (blk_alloc (World.alloc_heap_new _ _) _) _, blk_alloc ?_ _, ?_⟩
    · have h9 := World.alloc_heap_new (W.alloc (.cells #[.int .i64 0, .slice none 0 0, .slice none 0 0, .slice none 0 0] 28)) (.cells #[.slice none 0 0] 40)
      simpa using h9
    · have h9 := World.alloc_heap_new ((W.alloc (.cells #[.int .i64 0, .slice none 0 0, .slice none 0 0, .slice none 0 0] 28)).alloc (.cells #[.slice none 0 0] 40)) (.cells #[.nilIface] 33)
      simpa using h9
  have H0 := Aside0.mk (And.intro hb0 hrc)
  have HG0 := Aside0.mk hg0
  clear hW0 hg0 hb0 hrc
  go_upto_region 2 with fail
  clear hmx9
  obtain ⟨mz, hmz⟩ : ∃ y, y = (if most < 0 then 0 else most) := ⟨_, rfl⟩
  rw [← hmz]
  clear hmz
  by_cases e1 : m < (b.length : Int)
  · rw [if_pos e1] at HG
    go_wp2_with fail
    refine (wrap_calls m 192 _).mono ?_
    rintro e w1 ⟨ve, rfl, hev, hb1⟩
    obtain ⟨gf, e9, hf⟩ := id hev
    subst e9
    have HEV := Aside0.mk (And.intro hev (And.intro (below_step H0.out.1 hb1) (H0.out.2.below hb1)))
    have k1 := H0.out.2.below hb1
    have r0 : w1.cell? ⟨g0, 0, none⟩ = some (.int .i64 0) := (blk_cell k1.a 0).trans rfl
    have r1 : w1.cell? ⟨g0, 1, none⟩ = some (.slice none 0 0) := (blk_cell k1.a 1).trans rfl
    have r2 : w1.cell? ⟨g0, 2, none⟩ = some (.slice none 0 0) := (blk_cell k1.a 2).trans rfl
    have r3 : w1.cell? ⟨g0, 3, none⟩ = some (.slice none 0 0) := (blk_cell k1.a 3).trans rfl
    have r4 : w1.cell? ⟨g0 + 1, 0, none⟩ = some (.slice none 0 0) := (blk_cell k1.b 0).trans rfl
    have r5 : w1.cell? ⟨g0 + 2, 0, none⟩ = some .nilIface := (blk_cell k1.c 0).trans rfl
    have t0 := blk_frozen k1.a 0
    have t1 := blk_frozen k1.a 1
    have t2 := blk_frozen k1.a 2
    have t3 := blk_frozen k1.a 3
    have t4 := blk_frozen k1.b 0
    have t5 := blk_frozen k1.c 0
    clear hf hev hb1 k1
    go_wp2_with fail
    have hs := HEV.out.2.2.store (.int .i64 0) (.slice none 0 0) (.slice none 0 0) (.slice none 0 0) (.slice none 0 0) (.iface 107 (.pointer (some ⟨gf, 0, none⟩)))
    refine ⟨_, results_rc rfl _ _ (by rfl) (by rfl) (by rfl) hs.1, _, _, _, rfl, (HEV.out.2.1.mono (Nat.le_refl _)).trans (hs.2.1.mono (Nat.le_of_eq HG0.out.symm)), fun x hx => ?_, fun r hr => ?_⟩
    · rw [HG.out] at hx
      injection hx with hx
      subst hx
      exact ⟨rfl, rfl, hs.2.2 _ _ HEV.out.1⟩
    · rw [HG.out] at hr
      cases hr
  rw [if_neg e1] at HG
  have hmm : (if 256 < depth then 256 else depth) = min depth 256 := by split <;> omega
  go_wp2_with fail
  refine (newreader_any A c b W0 (Kd.C_below HC.out.1 H0.out.1) HC.out.2 (by omega)).mono ?_
  rintro e w1 ⟨gr, rfl, ⟨wr, hba, hbb, hrd⟩, hb1⟩
  have H1 := Aside0.mk (And.intro (And.intro hba hbb) (And.intro hrd hb1))
  clear hba hbb hrd hb1
  go_upto_region 6 with fail
  obtain ⟨gp, hgp⟩ : ∃ y, y = w1.heap.size := ⟨_, rfl⟩
  obtain ⟨deep, hdeep⟩ : ∃ y, y = min depth 256 := ⟨_, rfl⟩
  rw [← hdeep] at HG ⊢
  have hd9 : deep ≤ 256 := by omega
  obtain ⟨W2, hW2⟩ : ∃ y, y = w1.alloc (.cells #[.pointer (some ⟨gr, 0, none⟩), .int .i64 deep, .slice none 0 0] 98) := ⟨_, rfl⟩
  rw [← hW2, ← hgp]
  have hb2 : Below w1.heap.size w1 W2 := by rw [hW2]; exact below_alloc (Below.refl _ _) _
  have HP := Aside0.mk (show Ps wr W2 gp gr b 0 deep (.slice none 0 0) [] from ⟨by simpa using H1.out.2.1.below hb2, by rw [hW2, hgp]; exact World.alloc_heap_new _ _, Kd.R_nil _ _ _ _ _, by rw [hgp]; exact H1.out.1.2.size, below_step H1.out.1.2 hb2, hl, Nat.zero_le _⟩)
  have HB2 := Aside0.mk (below_step H1.out.2.2 hb2)
  clear hb2 hW2 hgp hdeep hmm
  go_wp2_with fail
  refine (geom_calls 257 wr W2 gp gr b 0 deep (.slice none 0 0) [] 1 0 HP.out (by omega) (by omega) (by omega) (by omega) hd9 (by omega) (by simp)).mono ?_
  rintro e w3 ⟨vo, hv3, hB3, hres⟩
  have hr3 : Rc w3 g0 #[.int .i64 0, .slice none 0 0, .slice none 0 0, .slice none 0 0] (.slice none 0 0) .nilIface := by
    have h9 := H0.out.2.below HB2.out
    exact ⟨HP.out.keepB hv3 h9.a (by decide), HP.out.keepB hv3 h9.b (by decide), HP.out.keepB hv3 h9.c (by decide)⟩
  have hbW : Below W.heap.size W w3 := by
    have h1 := below_step H0.out.1 HB2.out
    have hs := H0.out.1.size
    have hs2 := H1.out.1.1.size
    exact (below_step H0.out.1 H1.out.1.1).trans (hB3.mono (by omega))
  rcases hr : geomR b deep 257 0 1 0 with x | ⟨g, a, os⟩
  · rw [hr] at HG
    have he := hres.1 x hr
    subst he
    have HR3 := Aside0.mk (And.intro hr3 hbW)
    clear hr3 hres hv3 hB3 hbW
    go_wp2_with fail
    refine leaves_cons (f := 33) (args := #[.pointer (some ⟨g0, 0, none⟩), .pointer (some ⟨g0 + 1, 0, none⟩), .pointer (some ⟨g0 + 2, 0, none⟩)]) (by simp) (by simp [go_sem]) ?_
    refine (catch_panicking w3 g0 x _ _ _ _ _ _ HR3.out.1).mono ?_
    rintro e u' w4 ⟨rfl, rfl, ve, hrc4, hev, hb4⟩
    refine ⟨_, results_rc rfl _ _ (by rfl) (by rfl) (by rfl) hrc4, _, _, _, rfl, HR3.out.2.trans (hb4.mono (Nat.le_of_eq HG0.out.symm)), fun y hy => ?_, fun r hr => ?_⟩
    · rw [HG.out] at hy
      injection hy with hy
      subst hy
      exact ⟨rfl, rfl, hev⟩
    · rw [HG.out] at hr
      cases hr
  · rw [hr] at HG
    obtain ⟨u, he, hcp, hp3, hol, -⟩ := hres.2 _ hr
    subst he
    have HCP0 := Aside0.mk hcp
    obtain ⟨cs, e9, hM⟩ := hcp
    obtain ⟨E1, e1_, E2, e2_, E3, e3_, e8, _⟩ := kGe_open (kSp_K 257 ((kSp 257).K_of_M hM))
    subst e8
    subst e9
    have hp3' : Ps wr w3 gp gr b a deep vo os := by simpa using hp3
    obtain ⟨Ar, cr, hrc, hrg⟩ := hp3'.rd
    have hal : a ≤ b.length := hp3'.l.2
    have hpc := hp3'.c
    have hpr := hp3'.r
    have k1 := hr3
    have HR3 := Aside0.mk (And.intro (And.intro hr3 hbW) (And.intro (And.intro hrc hpc) (And.intro hpr hM)))
    have r0 : w3.cell? ⟨g0, 0, none⟩ = some (.int .i64 0) := (blk_cell k1.a 0).trans rfl
    have r1 : w3.cell? ⟨g0, 1, none⟩ = some (.slice none 0 0) := (blk_cell k1.a 1).trans rfl
    have r2 : w3.cell? ⟨g0, 2, none⟩ = some (.slice none 0 0) := (blk_cell k1.a 2).trans rfl
    have r3 : w3.cell? ⟨g0, 3, none⟩ = some (.slice none 0 0) := (blk_cell k1.a 3).trans rfl
    have r4 : w3.cell? ⟨g0 + 1, 0, none⟩ = some (.slice none 0 0) := (blk_cell k1.b 0).trans rfl
    have r5 : w3.cell? ⟨g0 + 2, 0, none⟩ = some (.nilIface) := (blk_cell k1.c 0).trans rfl
    have t0 := blk_frozen k1.a 0
    have t1 := blk_frozen k1.a 1
    have t2 := blk_frozen k1.a 2
    have t3 := blk_frozen k1.a 3
    have t4 := blk_frozen k1.b 0
    have t5 := blk_frozen k1.c 0
    clear hr3 hbW k1 hrc hpc hpr hM hp3 hp3' hol hres hv3 hB3 hrg hr HP
    go_upto_region 7 with fail
    obtain ⟨W4, hW4⟩ : ∃ y, y = (((w3.setCell ⟨g0, 0, none⟩ (.int .i64 g.f0)).setCell ⟨g0, 1, none⟩ (.slice E1 g.f1.length e1_)).setCell ⟨g0, 2, none⟩ (.slice E2 g.f2.length e2_)).setCell ⟨g0, 3, none⟩ (.slice E3 g.f3.length e3_) := ⟨_, rfl⟩
    rw [← hW4]
    obtain ⟨⟨hr3, hbW⟩, ⟨hrc, hpc⟩, hpr, hM⟩ := HR3.out
    have hngr : gr ≠ g0 := blk_ne hrc hr3.a (by decide)
    have hngp : gp ≠ g0 := blk_ne hpc hr3.a (by decide)
    have hrc4 : W4.heap[gr]? = some (.cells #[.slice Ar b.length cr, .int .i64 (a : Int), .bool false] 113 (0, 0)) := by
      rw [hW4]
      exact blk_far (p := ⟨g0, 3, none⟩) (blk_far (p := ⟨g0, 2, none⟩) (blk_far (p := ⟨g0, 1, none⟩) (blk_far (p := ⟨g0, 0, none⟩) hrc hngr _) hngr _) hngr _) hngr _
    have hpc4 : W4.heap[gp]? = some (.cells #[.pointer (some ⟨gr, 0, none⟩), .int .i64 deep, vo] 98 (0, 0)) := by
      rw [hW4]
      exact blk_far (p := ⟨g0, 3, none⟩) (blk_far (p := ⟨g0, 2, none⟩) (blk_far (p := ⟨g0, 1, none⟩) (blk_far (p := ⟨g0, 0, none⟩) hpc hngp _) hngp _) hngp _) hngp _
    have hb4 : Below g0 w3 W4 := by
      rw [hW4]
      exact ((((Below.refl g0 w3).setCell (p := ⟨g0, 0, none⟩) (Nat.le_refl _) _).setCell (p := ⟨g0, 1, none⟩) (Nat.le_refl _) _).setCell (p := ⟨g0, 2, none⟩) (Nat.le_refl _) _).setCell (p := ⟨g0, 3, none⟩) (Nat.le_refl _) _
    have hr4 : Rc W4 g0 #[.int .i64 g.f0, .slice E1 g.f1.length e1_, .slice E2 g.f2.length e2_, .slice E3 g.f3.length e3_] (.slice none 0 0) .nilIface := by
      rw [hW4]
      refine ⟨by simpa using blk_set (blk_set (blk_set (blk_set hr3.a 0 (.int .i64 g.f0)) 1 (.slice E1 g.f1.length e1_)) 2 (.slice E2 g.f2.length e2_)) 3 (.slice E3 g.f3.length e3_), ?_, ?_⟩
      · exact blk_far (p := ⟨g0, 3, none⟩) (blk_far (p := ⟨g0, 2, none⟩) (blk_far (p := ⟨g0, 1, none⟩) (blk_far (p := ⟨g0, 0, none⟩) hr3.b (by show g0 + 1 ≠ g0; omega) _) (by show g0 + 1 ≠ g0; omega) _) (by show g0 + 1 ≠ g0; omega) _) (by show g0 + 1 ≠ g0; omega) _
      · exact blk_far (p := ⟨g0, 3, none⟩) (blk_far (p := ⟨g0, 2, none⟩) (blk_far (p := ⟨g0, 1, none⟩) (blk_far (p := ⟨g0, 0, none⟩) hr3.c (by show g0 + 2 ≠ g0; omega) _) (by show g0 + 2 ≠ g0; omega) _) (by show g0 + 2 ≠ g0; omega) _) (by show g0 + 2 ≠ g0; omega) _
    have hpr4 : Kd.bool.R 4 W4 wr.heap.size (fun _ => True) vo os := by
      rw [hW4]
      exact Kd.R_set (Kd.R_set (Kd.R_set (Kd.R_set hpr hr3.a (by decide) 0 _) (blk_set hr3.a 0 _) (by decide) 1 _) (blk_set (blk_set hr3.a 0 _) 1 _) (by decide) 2 _) (blk_set (blk_set (blk_set hr3.a 0 _) 1 _) 2 _) (by decide) 3 _
    have hg2 : g0 < W2.heap.size := by have h9 := blk_lt (H0.out.2.below HB2.out).a; exact h9
    have hM4 : (kSp 257).M W4 W2.heap.size (fun k => W2.heap.size ≤ k) g [.int .i64 g.f0, .slice E1 g.f1.length e1_, .slice E2 g.f2.length e2_, .slice E3 g.f3.length e3_] := by
      rw [hW4]
      exact Kd.M_far (p := ⟨g0, 3, none⟩) (Kd.M_far (p := ⟨g0, 2, none⟩) (Kd.M_far (p := ⟨g0, 1, none⟩) (Kd.M_far (p := ⟨g0, 0, none⟩) hM (fun j h => by show j ≠ g0; omega) _) (fun j h => by show j ≠ g0; omega) _) (fun j h => by show j ≠ g0; omega) _) (fun j h => by show j ≠ g0; omega) _
    have z0_ : W4.cell? ⟨gp, 0, none⟩ = some (.pointer (some ⟨gr, 0, none⟩)) := (blk_cell hpc4 0).trans rfl
    have H4 := Aside0.mk (And.intro (And.intro hr4 (hbW.trans (hb4.mono (Nat.le_of_eq HG0.out.symm)))) (And.intro (And.intro hrc4 hpc4) (And.intro hpr4 hM4)))
    clear hW4 hr3 hbW hrc hpc hpr hM hr4 hb4 hrc4 hpc4 hpr4 hM4 HR3 r0 r1 r2 r3 r4 r5 t0 t1 t2 t3 t4 t5 hngr hngp
    go_wp2_with fail
    refine (left_raw W4 gr Ar b.length cr a false H4.out.2.1.1 hl hal).mono ?_
    rintro e W5 ⟨rfl, hb5⟩
    have H5 := Aside0.mk (And.intro (And.intro (H4.out.1.1.below hb5) (below_step H4.out.1.2 hb5)) (And.intro (And.intro (blk_below H4.out.2.1.1 hb5) (blk_below H4.out.2.1.2 hb5)) (And.intro (Kd.R_below H4.out.2.2.1 hb5) (Kd.M_below H4.out.2.2.2 hb5))))
    have z0_ : W5.cell? ⟨gp, 0, none⟩ = some (.pointer (some ⟨gr, 0, none⟩)) := (blk_cell H5.out.2.1.2 0).trans rfl
    clear hb5 H4
    by_cases e2 : a < b.length
    · rw [if_pos e2] at HG
      have e2' : (0 : Int) < (b.length : Int) - (a : Int) := by omega
      go_wp2_with fail
      refine (at_raw W5 gr Ar b.length cr a false H5.out.2.1.1).mono ?_
      rintro e W6 ⟨rfl, hb6⟩
      have H6 := Aside0.mk (And.intro (H5.out.1.1.below hb6) (below_step H5.out.1.2 hb6))
      clear hb6 H5
      go_wp2_with fail
      refine (wrap_calls (a : Int) 174 _).mono ?_
      rintro e w1 ⟨ve, rfl, hev, hb1⟩
      obtain ⟨gf, e9, hf⟩ := id hev
      subst e9
      have HEV := Aside0.mk (And.intro hev (And.intro (below_step H6.out.2 hb1) (H6.out.1.below hb1)))
      have k1 := H6.out.1.below hb1
      have r0 : w1.cell? ⟨g0, 0, none⟩ = some (.int .i64 g.f0) := (blk_cell k1.a 0).trans rfl
      have r1 : w1.cell? ⟨g0, 1, none⟩ = some (.slice E1 g.f1.length e1_) := (blk_cell k1.a 1).trans rfl
      have r2 : w1.cell? ⟨g0, 2, none⟩ = some (.slice E2 g.f2.length e2_) := (blk_cell k1.a 2).trans rfl
      have r3 : w1.cell? ⟨g0, 3, none⟩ = some (.slice E3 g.f3.length e3_) := (blk_cell k1.a 3).trans rfl
      have r4 : w1.cell? ⟨g0 + 1, 0, none⟩ = some (.slice none 0 0) := (blk_cell k1.b 0).trans rfl
      have r5 : w1.cell? ⟨g0 + 2, 0, none⟩ = some (.nilIface) := (blk_cell k1.c 0).trans rfl
      have t0 := blk_frozen k1.a 0
      have t1 := blk_frozen k1.a 1
      have t2 := blk_frozen k1.a 2
      have t3 := blk_frozen k1.a 3
      have t4 := blk_frozen k1.b 0
      have t5 := blk_frozen k1.c 0
      clear hf hev hb1 k1 H6
      go_wp2_with fail
      have hs := HEV.out.2.2.store (.int .i64 0) (.slice none 0 0) (.slice none 0 0) (.slice none 0 0) (.slice none 0 0) (.iface 107 (.pointer (some ⟨gf, 0, none⟩)))
      refine leaves_cons (f := 33) (args := #[.pointer (some ⟨g0, 0, none⟩), .pointer (some ⟨g0 + 1, 0, none⟩), .pointer (some ⟨g0 + 2, 0, none⟩)]) (by simp) (by simp [go_sem]) ?_
      refine (catch_idle _ _ _ _).mono ?_
      rintro e u' w4 ⟨rfl, rfl, hw4⟩
      subst hw4
      refine ⟨_, results_rc rfl _ _ (by rfl) (by rfl) (by rfl) hs.1, _, _, _, rfl, HEV.out.2.1.trans (hs.2.1.mono (Nat.le_of_eq HG0.out.symm)), fun y hy => ?_, fun r hr => ?_⟩
      · rw [HG.out] at hy
        injection hy with hy
        subst hy
        exact ⟨rfl, rfl, hs.2.2 _ _ HEV.out.1⟩
      · rw [HG.out] at hr
        cases hr
    · rw [if_neg e2] at HG
      have e2' : ¬ ((0 : Int) < (b.length : Int) - (a : Int)) := by omega
      go_upto_region 9 with fail
      obtain ⟨Av, cv, e9⟩ := Kd.R_slice H5.out.2.2.1
      subst e9
      have k1 := H5.out.1.1
      have r0 : W5.cell? ⟨g0, 0, none⟩ = some (.int .i64 g.f0) := (blk_cell k1.a 0).trans rfl
      have r1 : W5.cell? ⟨g0, 1, none⟩ = some (.slice E1 g.f1.length e1_) := (blk_cell k1.a 1).trans rfl
      have r2 : W5.cell? ⟨g0, 2, none⟩ = some (.slice E2 g.f2.length e2_) := (blk_cell k1.a 2).trans rfl
      have r3 : W5.cell? ⟨g0, 3, none⟩ = some (.slice E3 g.f3.length e3_) := (blk_cell k1.a 3).trans rfl
      have r4 : W5.cell? ⟨g0 + 1, 0, none⟩ = some (.slice none 0 0) := (blk_cell k1.b 0).trans rfl
      have r5 : W5.cell? ⟨g0 + 2, 0, none⟩ = some (.nilIface) := (blk_cell k1.c 0).trans rfl
      have t0 := blk_frozen k1.a 0
      have t1 := blk_frozen k1.a 1
      have t2 := blk_frozen k1.a 2
      have t3 := blk_frozen k1.a 3
      have t4 := blk_frozen k1.b 0
      have t5 := blk_frozen k1.c 0
      have zp : W5.cell? ⟨gp, 2, none⟩ = some (.slice Av os.length cv) := (blk_cell H5.out.2.1.2 2).trans rfl
      have hnp : gp ≠ g0 := blk_ne H5.out.2.1.2 k1.a (by decide)
      have hnp2 : g0 ≠ gp := fun e => hnp e.symm
      clear k1
      go_region
      go_wp2_with fail
      have hs := H5.out.1.1.store (.int .i64 g.f0) (.slice E1 g.f1.length e1_) (.slice E2 g.f2.length e2_) (.slice E3 g.f3.length e3_) (.slice Av os.length cv) .nilIface
      have hsf := stored_far W5 g0 (.int .i64 g.f0) (.slice E1 g.f1.length e1_) (.slice E2 g.f2.length e2_) (.slice E3 g.f3.length e3_) (.slice Av os.length cv) .nilIface
      obtain ⟨WS, hWS⟩ : ∃ y, y = stored W5 g0 (.int .i64 g.f0) (.slice E1 g.f1.length e1_) (.slice E2 g.f2.length e2_) (.slice E3 g.f3.length e3_) (.slice Av os.length cv) .nilIface := ⟨_, rfl⟩
      change Leaves _ _ _ _ _ _ (World.drew (stored W5 g0 (.int .i64 g.f0) (.slice E1 g.f1.length e1_) (.slice E2 g.f2.length e2_) (.slice E3 g.f3.length e3_) (.slice Av os.length cv) .nilIface))
      rw [← hWS] at hs hsf ⊢
      have hbd : Below WS.heap.size WS WS.drew := below_drew (Below.refl _ _)
      have hrd := hs.1.below hbd
      have hgq : g0 + 2 < W2.heap.size ∧ g0 + 2 < wr.heap.size := by
        have h9 := blk_lt (H0.out.2.below HB2.out).c
        have h8 := blk_lt (H0.out.2.below H1.out.1.1).c
        exact ⟨h9, h8⟩
      have hwr : W.heap.size ≤ wr.heap.size := by have h9 := HG0.out; omega
      have hw2 : W.heap.size ≤ W2.heap.size := by have h9 := HG0.out; omega
      refine leaves_cons (f := 33) (args := #[.pointer (some ⟨g0, 0, none⟩), .pointer (some ⟨g0 + 1, 0, none⟩), .pointer (some ⟨g0 + 2, 0, none⟩)]) (by simp) (by simp [go_sem]) ?_
      refine (catch_idle _ _ _ _).mono ?_
      rintro e u' w4 ⟨rfl, rfl, hw4⟩
      subst hw4
      refine ⟨_, results_rc rfl _ _ (by rfl) (by rfl) (by rfl) hrd, _, _, _, rfl, (H5.out.1.2.trans (hs.2.1.mono (Nat.le_of_eq HG0.out.symm))).trans (hbd.mono (by have h9 := H5.out.1.2.size; have h8 := hs.2.1.size; omega)), fun y hy => ?_, fun r hr => ?_⟩
      · rw [HG.out] at hy
        cases hy
      · rw [HG.out] at hr
        injection hr with hr
        subst hr
        refine ⟨rfl, ⟨_, rfl, ?_⟩, ?_⟩
        · have h9 := Kd.M_step H5.out.2.2.2 (w1 := WS) (fun k hk _ => hsf k (by omega))
          exact Kd.M_below ((kSp 257).M_lower hw2 ((kSp 257).M_mono (fun k hk => Nat.le_trans hw2 hk) h9)) hbd
        · have h9 := Kd.R_step (Kd.R_mono (Kd.R_bound H5.out.2.2.1) (fun k h => h.2.1)) (w1 := WS) (fun k hk _ => hsf k (by omega))
          exact Kd.R_below (Kd.R_lower (Kd.R_mono h9 (fun _ _ => trivial)) hwr) hbd
theorem results_geom2 {fn : Func} {a c : Tmp} (h : fn.results = #[.cell a 28, .tmp c]) (tmps : Array Value) (w : World) {b : Nat} {q0 q1 q2 q3 : Value} (hp : tmps.getD a undef = .pointer (some ⟨b, 0, none⟩)) (hb : w.heap[b]? = some (.cells #[q0, q1, q2, q3] 28 (0, 0))) : (results fn tmps).run Try.prog w = .ok (.tuple #[.agg #[q0, q1, q2, q3], tmps.getD c undef]) w := by
  rw [Array.getD_eq_getD_getElem?] at hp ⊢
  have hu := Try.underlying28
  have c0 : w.cell? ⟨b, 0, none⟩ = some q0 := (blk_cell hb 0).trans rfl
  have c1 : w.cell? ⟨b, 1, none⟩ = some q1 := (blk_cell hb 1).trans rfl
  have c2 : w.cell? ⟨b, 2, none⟩ = some q2 := (blk_cell hb 2).trans rfl
  have c3 : w.cell? ⟨b, 3, none⟩ = some q3 := (blk_cell hb 3).trans rfl
  simp [results, h, hp, go_sem, asAddr, c0, c1, c2, c3]
theorem CopyOf.below {n : Nat} {w w1 w' : World} {v : Value} {g : Ge} (h : CopyOf n w w1 v g) (hb : Below w1.heap.size w1 w') : CopyOf n w w' v g := by
  obtain ⟨cs, e, h⟩ := h
  exact ⟨cs, e, Kd.M_below h hb⟩
theorem CopyOf.lower {n : Nat} {w w0 w' : World} {v : Value} {g : Ge} (h : CopyOf n w w' v g) (hb : w0.heap.size ≤ w.heap.size) : CopyOf n w0 w' v g := by
  obtain ⟨cs, e, h⟩ := h
  exact ⟨cs, e, (kSp n).M_lower hb ((kSp n).M_mono (fun k hk => Nat.le_trans hb hk) h)⟩
theorem CopyOf.isG {n : Nat} {w w' : World} {v : Value} {g : Ge} (h : CopyOf n w w' v g) : IsG w' v g := by
  obtain ⟨cs, rfl, hM⟩ := h
  obtain ⟨A1, c1, A2, c2, A3, c3, rfl, l1, h1, l2, h2, l3, h3⟩ := kGe_open (kSp_K _ ((kSp _).K_of_M hM))
  exact ⟨A1, c1, A2, c2, A3, c3, rfl, l1, h1, l2, h2, l3, h3⟩
theorem CopyOf.agg {n : Nat} {w w' : World} {u : Value} {k : Ge} (h : CopyOf n w w' u k) : ∃ k A1 n1 c1 A2 n2 c2 A3 n3 c3, u = .agg #[.int .i64 k, .slice A1 n1 c1, .slice A2 n2 c2, .slice A3 n3 c3] := by
  obtain ⟨cs, rfl, hM⟩ := h
  obtain ⟨A1, c1, A2, c2, A3, c3, rfl, _⟩ := kGe_open (kSp_K n ((kSp n).K_of_M hM))
  exact ⟨_, _, _, _, _, _, _, _, _, _, rfl⟩
theorem CopyOf.setG {n : Nat} {w w1 : World} {v : Value} {g : Ge} (h : CopyOf n w w1 v g) {b j : Nat} {u : Value} (hb : b < w.heap.size) : CopyOf n w (w1.setCell ⟨b, j, none⟩ u) v g := by
  obtain ⟨cs, e, h⟩ := h
  exact ⟨cs, e, Kd.M_far (p := ⟨b, j, none⟩) h (fun k hk => by show k ≠ b; omega) _⟩
set_option maxRecDepth 100000 in
set_option maxHeartbeats 16000000 in
theorem parse_calls (A : Option Addr) (c : Nat) (b : List Int) (depth most : Int) (W : World) (hC : kB.C W A b.length b) (hc : b.length ≤ c) (hl : b.length ≤ 1048576) :
    Calls Try.prog 9 #[.slice A b.length c, .int .i64 depth, .int .i64 most] W fun e W' => ∃ u ev, e = .returned (.tuple #[u, ev]) ∧ Below W.heap.size W W' ∧
      (∀ x, parsedR b depth most = .error x → u = noGe ∧ ErrV W' ev (some x)) ∧ ∀ r, parsedR b depth most = .ok r → ev = .nilIface ∧ CopyOf 257 W W' u r.1 := by
  have hu := Try.underlying28
  have HC := Aside0.mk (And.intro hC hc)
  clear hC hc
  go_enter Try.func9, Try.ntmps9
  go_upto_region 1 with fail
  obtain ⟨g0, hg0⟩ : ∃ y, y = W.heap.size := ⟨_, rfl⟩
  obtain ⟨W0, hW0⟩ : ∃ y, y = W.alloc (.cells #[.int .i64 0, .slice none 0 0, .slice none 0 0, .slice none 0 0] 28) := ⟨_, rfl⟩
  rw [← hW0, ← hg0]
  have hb0 : Below W.heap.size W W0 := by rw [hW0]; exact below_alloc (Below.refl _ _) _
  have ka : W0.heap[g0]? = some (.cells #[.int .i64 0, .slice none 0 0, .slice none 0 0, .slice none 0 0] 28 (0, 0)) := by rw [hW0, hg0]; exact World.alloc_heap_new _ _
  have H0 := Aside0.mk (And.intro hb0 ka)
  have HG0 := Aside0.mk hg0
  clear hW0 hg0 hb0 ka
  go_wp2_with fail
  refine (parsed_calls A c b depth most W0 (Kd.C_below HC.out.1 H0.out.1) HC.out.2 hl).mono ?_
  rintro e W1 ⟨u, v, ev, rfl, hb1, hE, hO⟩
  have hag : ∃ k A1 n1 c1 A2 n2 c2 A3 n3 c3, u = .agg #[.int .i64 k, .slice A1 n1 c1, .slice A2 n2 c2, .slice A3 n3 c3] := by
    rcases hr : parsedR b depth most with x | r
    · exact ⟨_, _, _, _, _, _, _, _, _, _, (hE x hr).1⟩
    · exact (hO r hr).2.1.agg
  obtain ⟨k, A1, n1, c1, A2, n2, c2, A3, n3, c3, rfl⟩ := hag
  have hg1 : g0 < W0.heap.size := blk_lt H0.out.2
  have H1 := Aside0.mk (And.intro (And.intro hE hO) (And.intro (below_step H0.out.1 hb1) (And.intro (blk_below H0.out.2 hb1) hg1)))
  clear hb1 hE hO hg1
  go_upto_region 2 with fail
  obtain ⟨W2, hW2⟩ : ∃ y, y = W1.alloc (.cells #[.int .i64 k, .slice A1 n1 c1, .slice A2 n2 c2, .slice A3 n3 c3] 28) := ⟨_, rfl⟩
  obtain ⟨g2, hg2⟩ : ∃ y, y = W1.heap.size := ⟨_, rfl⟩
  rw [← hW2, ← hg2]
  have hb2 : Below W1.heap.size W1 W2 := by rw [hW2]; exact below_alloc (Below.refl _ _) _
  have k2 : W2.heap[g2]? = some (.cells #[.int .i64 k, .slice A1 n1 c1, .slice A2 n2 c2, .slice A3 n3 c3] 28 (0, 0)) := by rw [hW2, hg2]; exact World.alloc_heap_new _ _
  have k0 := blk_below H1.out.2.2.1 hb2
  have H2 := Aside0.mk (And.intro (And.intro hb2 (below_step H1.out.2.1 hb2)) (And.intro k0 k2))
  have s0 : W2.cell? ⟨g2, 0, none⟩ = some (.int .i64 k) := (blk_cell k2 0).trans rfl
  have s1 : W2.cell? ⟨g2, 1, none⟩ = some (.slice A1 n1 c1) := (blk_cell k2 1).trans rfl
  have s2 : W2.cell? ⟨g2, 2, none⟩ = some (.slice A2 n2 c2) := (blk_cell k2 2).trans rfl
  have s3 : W2.cell? ⟨g2, 3, none⟩ = some (.slice A3 n3 c3) := (blk_cell k2 3).trans rfl
  have r0 : W2.cell? ⟨g0, 0, none⟩ = some (.int .i64 0) := (blk_cell k0 0).trans rfl
  have r1 : W2.cell? ⟨g0, 1, none⟩ = some (.slice none 0 0) := (blk_cell k0 1).trans rfl
  have r2 : W2.cell? ⟨g0, 2, none⟩ = some (.slice none 0 0) := (blk_cell k0 2).trans rfl
  have r3 : W2.cell? ⟨g0, 3, none⟩ = some (.slice none 0 0) := (blk_cell k0 3).trans rfl
  have t0 := blk_frozen k0 0
  have t1 := blk_frozen k0 1
  have t2 := blk_frozen k0 2
  have t3 := blk_frozen k0 3
  clear hW2 hg2 hb2 k0 k2
  go_wp2_with fail
  have bk := blk_set (blk_set (blk_set (blk_set H2.out.2.1 0 (.int .i64 k)) 1 (.slice A1 n1 c1)) 2 (.slice A2 n2 c2)) 3 (.slice A3 n3 c3)
  refine bodyPost_ret (results_geom2 (a := 6) (c := 7) (by rfl) _ _ (by rfl) (by simpa using bk)) rfl ?_
  have hge : W.heap.size ≤ g0 := Nat.le_of_eq HG0.out.symm
  refine ⟨_, _, rfl, (((H2.out.1.2.setCell (p := ⟨g0, 0, none⟩) hge _).setCell (p := ⟨g0, 1, none⟩) hge _).setCell (p := ⟨g0, 2, none⟩) hge _).setCell (p := ⟨g0, 3, none⟩) hge _, fun x hx => ?_, fun r hr => ?_⟩
  · obtain ⟨h1, -, h3⟩ := H1.out.1.1 x hx
    have h4 := h3.below H2.out.1.1
    have v1 := ErrV.farT h4 (j := 0) (u := (.int .i64 k)) H2.out.2.1 (by decide)
    have v2 := ErrV.farT v1 (j := 1) (u := (.slice A1 n1 c1)) (blk_set H2.out.2.1 0 (.int .i64 k)) (by decide)
    have v3 := ErrV.farT v2 (j := 2) (u := (.slice A2 n2 c2)) (blk_set (blk_set H2.out.2.1 0 (.int .i64 k)) 1 (.slice A1 n1 c1)) (by decide)
    exact ⟨h1, ErrV.farT v3 (j := 3) (u := (.slice A3 n3 c3)) (blk_set (blk_set (blk_set H2.out.2.1 0 (.int .i64 k)) 1 (.slice A1 n1 c1)) 2 (.slice A2 n2 c2)) (by decide)⟩
  · obtain ⟨h1, h2, -⟩ := H1.out.1.2 r hr
    have h4 := h2.below H2.out.1.1
    have hlt := H1.out.2.2.2
    exact ⟨h1, CopyOf.lower ((((h4.setG hlt).setG hlt).setG hlt).setG hlt) H0.out.1.size⟩
set_option maxRecDepth 100000 in
set_option maxHeartbeats 16000000 in
theorem orders_calls (A : Option Addr) (c : Nat) (b : List Int) (W : World) (hC : kB.C W A b.length b) (hc : b.length ≤ c) (hl : b.length ≤ 1048576) :
    Calls Try.prog 10 #[.slice A b.length c] W fun e W' => ∃ v ev, e = .returned (.tuple #[v, ev]) ∧ Below W.heap.size W W' ∧
      (∀ x, parsedR b 256 65536 = .error x → v = .slice none 0 0 ∧ ErrV W' ev (some x)) ∧ ∀ r, parsedR b 256 65536 = .ok r → ev = .nilIface ∧ Kd.bool.R 4 W' W.heap.size (fun _ => True) v r.2 := by
  have hu := Try.underlying28
  have HC := Aside0.mk (And.intro hC hc)
  clear hC hc
  go_enter Try.func10, Try.ntmps10
  go_wp2_with fail
  refine (parsed_calls A c b 256 65536 W HC.out.1 HC.out.2 hl).mono ?_
  rintro e W1 ⟨u, v, ev, rfl, hb1, hE, hO⟩
  have hag : ∃ k A1 n1 c1 A2 n2 c2 A3 n3 c3, u = .agg #[.int .i64 k, .slice A1 n1 c1, .slice A2 n2 c2, .slice A3 n3 c3] := by
    rcases hr : parsedR b 256 65536 with x | r
    · exact ⟨_, _, _, _, _, _, _, _, _, _, (hE x hr).1⟩
    · exact (hO r hr).2.1.agg
  obtain ⟨k, A1, n1, c1, A2, n2, c2, A3, n3, c3, rfl⟩ := hag
  have H1 := Aside0.mk (And.intro (And.intro hE hO) hb1)
  clear hb1 hE hO
  go_wp2_with fail
  have hb2 : Below W1.heap.size W1 (W1.alloc (.cells #[.int .i64 k, .slice A1 n1 c1, .slice A2 n2 c2, .slice A3 n3 c3] 28)) := below_alloc (Below.refl _ _) _
  refine bodyPost_ret (results_tmp2 (t := 2) (u := 3) (by rfl) _ _ _) rfl ?_
  refine ⟨_, _, rfl, below_step H1.out.2 hb2, fun x hx => ?_, fun r hr => ?_⟩
  · obtain ⟨-, h1, h3⟩ := H1.out.1.1 x hx
    exact ⟨h1, h3.below hb2⟩
  · obtain ⟨h1, -, h3⟩ := H1.out.1.2 r hr
    exact ⟨h1, Kd.R_below h3 hb2⟩
end Go.Proofs.Ytiiolhnpnlmkjaa.Tree
