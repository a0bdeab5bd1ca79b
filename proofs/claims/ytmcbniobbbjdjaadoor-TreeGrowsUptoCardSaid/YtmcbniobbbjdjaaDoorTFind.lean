/- Ways through trees: find, Find by contracts. No conditions but those told. -/
import Derived.Test.YtmcbniobbbjdjaaDoorTCopy
namespace Go.Proofs.YtmcbniobbbjdjaaDoor.Tree
open Go.RowKit Go.Proofs.YtmcbniobbbjdjaaDoorW.PrintWords Go.Proofs.YtmcbniobbbjdjaaDoorW.PrintLast Go.Proofs.YtmcbniobbbjdjaaDoorW.PrintMore
set_option linter.unusedVariables false
set_option linter.unusedSimpArgs false
/-- The geometry at a path. -/
def at_ : Ge → List Int → Option Ge
  | g, [] => some g
  | g, i :: p => if 0 ≤ i ∧ i < (g.f3.length : Int) then at_ (rd_Ge g.f3 i) p else none
/-- The way to an address in memory. -/
inductive Way (w : World) : Addr → List Int → Addr → Prop where
  | nil (ad : Addr) : Way w ad [] ad
  | cons {ad B ad' : Addr} {n c : Nat} {i : Int} {p : List Int} (h : w.cell? ⟨ad.block, ad.off + 3, none⟩ = some (.slice (some B) n c)) (h0 : 0 ≤ i) (h1 : i < n) (t : Way w (B.add (i.toNat * 4)) p ad') : Way w ad (i :: p) ad'
theorem Way.snoc {w : World} {ad B ad' : Addr} {n c : Nat} {i : Int} {p : List Int} (t : Way w ad p ad') (h : w.cell? ⟨ad'.block, ad'.off + 3, none⟩ = some (.slice (some B) n c)) (h0 : 0 ≤ i) (h1 : i < n) : Way w ad (p ++ [i]) (B.add (i.toNat * 4)) := by
  induction t with
  | nil ad => exact .cons h h0 h1 (.nil _)
  | cons e e0 e1 t ih => exact .cons e e0 e1 (ih h)
theorem at_append (p q : List Int) : ∀ g, at_ g (p ++ q) = (at_ g p).bind fun h => at_ h q := by
  induction p with
  | nil => intro g; rfl
  | cons i p ih =>
    intro g
    rw [List.cons_append]
    show (if 0 ≤ i ∧ i < (g.f3.length : Int) then at_ (rd_Ge g.f3 i) (p ++ q) else none) = (if 0 ≤ i ∧ i < (g.f3.length : Int) then at_ (rd_Ge g.f3 i) p else none).bind fun h => at_ h q
    split
    · exact ih _
    · rfl
theorem at_snoc {p : List Int} {g h : Ge} (i : Int) (e : at_ g p = some h) : at_ g (p ++ [i]) = if 0 ≤ i ∧ i < (h.f3.length : Int) then some (rd_Ge h.f3 i) else none := by
  rw [at_append, e]; rfl
theorem at_stop {p q : List Int} {g : Ge} (e : at_ g p = none) : at_ g (p ++ q) = none := by
  rw [at_append, e]; rfl
theorem at_bulk : ∀ (p : List Int) (g h : Ge), at_ g p = some h → h.bulk ≤ g.bulk := by
  intro p
  induction p with
  | nil => intro g h e; injection e with e; rw [e]; exact Nat.le_refl _
  | cons i p ih =>
    intro g h e
    unfold at_ at e
    split at e
    · rename_i hi
      have h1 := ih _ _ e
      have hl : i.toNat < g.f3.length := by omega
      have h2 := bulks_mem (List.getElem_mem hl)
      have h3 := g.bulk_eq
      have h4 : rd_Ge g.f3 i = g.f3[i.toNat] := by simp [rd_Ge, List.getD_eq_getElem?_getD, hl]
      rw [h4] at h1
      omega
    · cases e
/-- What find answers. -/
def findR (g : Ge) (p : List Int) : Option Ge := if 256 < p.length then none else at_ g p
theorem at_I {w : World} {A : Option Addr} {n : Nat} {xs : List Int} (h : Kd.C (Kd.int .i64) w A n xs) (k : Nat) (hn : n = xs.length) (hk : k < xs.length) : ∃ ad, A = some ad ∧ w.cell? (ad.add k) = some (.int .i64 xs[k]) := by
  obtain ⟨ad, c, e, _, hK, hc⟩ := Kd.C_get h 0 (k : Int) (by omega) (by omega)
  have hK' : c = [.int .i64 (xs.getD k 0)] := hK
  refine ⟨ad, e, ?_⟩
  have := hc 0 (.int .i64 (xs.getD k 0)) (by rw [hK']; rfl)
  have hd : xs.getD k 0 = xs[k] := by simp [List.getD_eq_getElem?_getD, hk]
  rw [hd] at this
  have e1 : (Kd.int .i64).sz = 1 := rfl
  rw [e1, Int.toNat_natCast, Nat.mul_one, Nat.add_zero] at this
  exact this
/-- Where find has come to. -/
def FindPost (w : World) (ad : Addr) (g : Ge) (p : List Int) (r : Option Addr) : Prop := match findR g p with
  | none => r = none
  | some h => ∃ ad', r = some ad' ∧ Way w ad p ad' ∧ GAt w ad' h
theorem FindPost.none_ {w : World} {ad : Addr} {g : Ge} {p : List Int} (h : findR g p = none) : FindPost w ad g p none := by unfold FindPost; rw [h]
theorem FindPost.some_ {w : World} {ad ad' : Addr} {g h : Ge} {p : List Int} (e : findR g p = some h) (hw : Way w ad p ad') (hg : GAt w ad' h) : FindPost w ad g p (some ad') := by unfold FindPost; rw [e]; exact ⟨ad', rfl, hw, hg⟩
set_option maxRecDepth 100000 in
set_option maxHeartbeats 4000000 in
theorem find_calls (g : Ge) (ad : Addr) (A : Option Addr) (n c : Nat) (p : List Int) (w : World) (h : GAt w ad g) (hs : g.bulk ≤ 1073741824) (hn : n = p.length) (hp : Kd.C (Kd.int .i64) w A n p) :
    Calls Tryd.prog 46 #[.pointer (some ad), .slice A n c] w fun e w' => ∃ r, e = .returned (.pointer r) ∧ w' = w ∧ FindPost w ad g p r := by
  subst hn
  have HP := Aside0.mk hp
  have HG := Aside0.mk h
  clear h hp
  by_cases hl : 256 < p.length
  · have hl' : (256 : Int) < (p.length : Int) := by omega
    go_enter Tryd.func46, Tryd.ntmps46
    go_wp2_with fail
    go_ret
    refine ⟨none, rfl, rfl, .none_ ?_⟩
    rw [findR, if_pos hl]
  · have hl' : ¬ (256 : Int) < (p.length : Int) := by omega
    have HR2 := Aside0.mk (show findR g p = at_ g p by rw [findR, if_neg hl])
    go_enter Tryd.func46, Tryd.ntmps46
    go_wp2_with fail
    go_loop [0, 12] (fun a i => ∃ (k : Nat) (adk : Addr) (gk : Ge), k ≤ p.length ∧ i = .int .i64 (k : Int) ∧ a = .pointer (some adk) ∧ Aside0 (at_ g (p.take k) = some gk) ∧ Aside0 (Way w ad (p.take k) adk) ∧ Aside0 (GAt w adk gk)) (fun _ i => p.length - (intOf i).toNat)
    case atStart => exact ⟨0, ad, g, Nat.zero_le _, rfl, rfl, ⟨rfl⟩, ⟨.nil _⟩, HG⟩
    case round =>
      obtain ⟨k, adk, gk, hk, rfl, rfl, HA, HY, HK⟩ := hrel
      obtain ⟨D1, d1, D2, d2, D3, d3, _, _, _, e3, _, _, _, _, l3, h3⟩ := HK.out
      have H3 := Aside0.mk h3
      have hb3 : gk.f3.length ≤ 1073741824 := by
        have := at_bulk _ _ _ HA.out
        have := gk.bulk_eq
        have := bulks_len gk.f3
        omega
      clear h3
      by_cases hlt : k < p.length
      · obtain ⟨a2, ea, hx⟩ := at_I HP.out k rfl hlt
        subst ea
        have HT := Aside0.mk (List.take_succ_eq_append_getElem hlt)
        obtain ⟨i, hi⟩ : ∃ i, i = p[k] := ⟨_, rfl⟩
        rw [← hi] at hx HT
        clear hi
        by_cases c0 : i < 0
        · go_wp2_with fail
          go_ret
          refine ⟨none, rfl, rfl, .none_ ?_⟩
          have : findR g p = none := by
            rw [HR2.out, ← List.take_append_drop (k + 1) p, HT.out]
            refine at_stop ?_
            rw [at_snoc i HA.out, if_neg (by omega)]
          exact this
        · by_cases c1 : (gk.f3.length : Int) ≤ i
          · go_wp2_with fail
            go_ret
            refine ⟨none, rfl, rfl, .none_ ?_⟩
            have : findR g p = none := by
              rw [HR2.out, ← List.take_append_drop (k + 1) p, HT.out]
              refine at_stop ?_
              rw [at_snoc i HA.out, if_neg (by omega)]
            exact this
          · obtain ⟨B, eB, hG2⟩ := GAt.part H3.out i (by omega) (by omega)
            subst eB
            have HG2 := Aside0.mk hG2
            have HY2 := Aside0.mk (HY.out.snoc e3 (by omega) (show i < (gk.f3.length : Int) by omega))
            have HA2 := Aside0.mk (show at_ g (p.take (k + 1)) = some (rd_Ge gk.f3 i) by rw [HT.out, at_snoc i HA.out, if_pos (by omega)])
            rw [← HT.out] at HY2
            clear hG2
            go_wp2_with fail
            go_round
            case measure => simp [intOf]; omega
            case rel => exact ⟨k + 1, _, _, by omega, by go_num, rfl, HA2, HY2, HG2⟩
      · obtain rfl : k = p.length := by omega
        go_wp2_with fail
        go_ret
        have hA := HA.out
        have hY := HY.out
        rw [List.take_length] at hA hY
        exact ⟨some adk, rfl, rfl, .some_ (HR2.out.trans hA) hY HK.out⟩
theorem results_geom2 {fn : Func} {a c : Tmp} (h : fn.results = #[.cell a 26, .tmp c]) (tmps : Array Value) (w : World) {b : Nat} {q0 q1 q2 q3 : Value} (hp : tmps.getD a undef = .pointer (some ⟨b, 0, none⟩)) (hb : w.heap[b]? = some (.cells #[q0, q1, q2, q3] 26 (0, 0))) : (results fn tmps).run Tryd.prog w = .ok (.tuple #[.agg #[q0, q1, q2, q3], tmps.getD c undef]) w := by
  rw [Array.getD_eq_getD_getElem?] at hp ⊢
  have hu := Tryd.underlying26
  have c0 : w.cell? ⟨b, 0, none⟩ = some q0 := (blk_cell hb 0).trans rfl
  have c1 : w.cell? ⟨b, 1, none⟩ = some q1 := (blk_cell hb 1).trans rfl
  have c2 : w.cell? ⟨b, 2, none⟩ = some q2 := (blk_cell hb 2).trans rfl
  have c3 : w.cell? ⟨b, 3, none⟩ = some q3 := (blk_cell hb 3).trans rfl
  simp [results, h, hp, go_sem, asAddr, c0, c1, c2, c3]
theorem CopyOf.lower {n : Nat} {w w0 w' : World} {v : Value} {g : Ge} (h : CopyOf n w w' v g) (hb : w0.heap.size ≤ w.heap.size) : CopyOf n w0 w' v g := by
  obtain ⟨cs, e, h⟩ := h
  exact ⟨cs, e, (kSp n).M_lower hb ((kSp n).M_mono (fun k hk => Nat.le_trans hb hk) h)⟩
theorem CopyOf.below {n : Nat} {w w1 w' : World} {v : Value} {g : Ge} (h : CopyOf n w w1 v g) (hb : Below w1.heap.size w1 w') : CopyOf n w w' v g := by
  obtain ⟨cs, e, h⟩ := h
  exact ⟨cs, e, Kd.M_below h hb⟩
theorem CopyOf.isG {n : Nat} {w w' : World} {v : Value} {g : Ge} (h : CopyOf n w w' v g) : IsG w' v g := by
  obtain ⟨cs, rfl, h⟩ := h
  exact IsG.of (kSp_K n ((kSp n).K_of_M h))
def noGe : Value := .agg #[.int .i64 0, .slice none 0 0, .slice none 0 0, .slice none 0 0]
theorem C_none {α : Type} (d : Kd α) (w : World) : Kd.C d w none 0 [] := (Kd.R_reads' (Kd.R_nil d 0 w 0 (fun _ => True))).2.2
theorem FindPost.at_none {w : World} {ad : Addr} {g : Ge} {p : List Int} {r : Option Addr} (h : FindPost w ad g p r) (e : findR g p = none) : r = none := by unfold FindPost at h; rw [e] at h; exact h
theorem FindPost.at_some {w : World} {ad : Addr} {g k : Ge} {p : List Int} {r : Option Addr} (h : FindPost w ad g p r) (e : findR g p = some k) : ∃ ad', r = some ad' ∧ Way w ad p ad' ∧ GAt w ad' k := by unfold FindPost at h; rw [e] at h; exact h
theorem noGe_isG (w : World) : IsG w noGe zGe := ⟨none, 0, none, 0, none, 0, rfl, Nat.le_refl _, C_none _ w, Nat.le_refl _, C_none _ w, Nat.le_refl _, C_none _ w⟩
/-- What Find answers. -/
def FindRes (w w' : World) (g : Ge) (p : List Int) (u : Value) (c : Int) : Prop := match findR g p with
  | none => u = noGe ∧ c = 153
  | some h => CopyOf h.bulk w w' u h ∧ c = 0
set_option maxRecDepth 100000 in
set_option maxHeartbeats 4000000 in
theorem Find_calls (v : Value) (g : Ge) (A : Option Addr) (n c : Nat) (p : List Int) (w : World) (hv : IsG w v g) (hs : g.bulk ≤ 1073741824) (hn : n = p.length) (hp : Kd.C (Kd.int .i64) w A n p) :
    Calls Tryd.prog 31 #[v, .slice A n c] w fun e w' => ∃ u c, e = .returned (.tuple #[u, .int .i64 c]) ∧ FindRes w w' g p u c ∧ Below w.heap.size w w' := by
  subst hn
  have HV := Aside0.mk hv
  have HP := Aside0.mk hp
  obtain ⟨A1, c1, A2, c2, A3, c3, rfl, l1, h1, l2, h2, l3, h3⟩ := hv
  have hu := Tryd.underlying26
  clear h1 h2 h3 hp
  have HB := Aside0.mk (Below.refl w.heap.size w)
  go_enter Tryd.func31, Tryd.ntmps31
  go_wp2_with (first
    | ((with_reducible refine gate_dst (N := 2) rfl ?_); refine box_event ?hg (N := 2) ?hd (cs := #[.int .i64 g.f0, .slice A1 g.f1.length c1, .slice A2 g.f2.length c2, .slice A3 g.f3.length c3]) (t := 26) ?hr ?_; (case hd => rfl); (case hg => rfl); (case hr => first | (go_simp; done) | (go_simp; rfl)); intro gb_ hgb_ wb_ hbox_ hbb_; have GE := Aside0.mk (show w.heap.size ≤ gb_ from by rw [hgb_]; exact below_size (by repeat (first | (with_reducible first | exact HB.out | apply below_alloc | apply pw_below_drewN | apply below_drew1) | exact HB.out))); have n_ := Aside0.mk (below_step (by repeat (first | (with_reducible first | exact HB.out | apply below_alloc | apply pw_below_drewN | apply below_drew1) | exact HB.out)) hbb_); clear HB; have HB := n_; have BK := Aside0.mk hbox_; skip; clear n_ hbox_ hbb_ hgb_))
  obtain ⟨gr, hgr⟩ : ∃ gr, gr = wb_.heap.size := ⟨_, rfl⟩
  obtain ⟨W0, hW0⟩ : ∃ W0, W0 = wb_.alloc (.cells #[.int .i64 0, .slice none 0 0, .slice none 0 0, .slice none 0 0] 26) := ⟨_, rfl⟩
  rw [← hW0, ← hgr]
  have BKr : W0.heap[gr]? = some (.cells #[.int .i64 0, .slice none 0 0, .slice none 0 0, .slice none 0 0] 26 (0, 0)) := by rw [hW0, hgr]; exact World.alloc_heap_new _ _
  have BKg : W0.heap[gb_]? = some (.cells #[.int .i64 g.f0, .slice A1 g.f1.length c1, .slice A2 g.f2.length c2, .slice A3 g.f3.length c3] 26 (0, 0)) := by rw [hW0]; exact blk_alloc BK.out _
  have hb0 : Below w.heap.size w W0 := by rw [hW0]; exact below_alloc HB.out _
  have hge : w.heap.size ≤ gr := by rw [hgr]; exact HB.out.size
  have hG : GAt W0 ⟨gb_, 0, none⟩ g := GAt.box (HV.out.below hb0) BKg rfl
  clear hW0 hgr HB BK GE
  refine (find_calls g ⟨gb_, 0, none⟩ A p.length c p W0 hG hs rfl (Kd.C_below HP.out hb0)).mono ?_
  rintro e w1 ⟨r, rfl, rfl, hf⟩
  cases hq : findR g p with
  | none =>
    obtain rfl := hf.at_none hq
    have HQ := Aside0.mk hq
    have r0 : w1.cell? ⟨gr, 0, none⟩ = some (.int .i64 0) := (blk_cell BKr 0).trans rfl
    have r1 : w1.cell? ⟨gr, 1, none⟩ = some (.slice none 0 0) := (blk_cell BKr 1).trans rfl
    have r2 : w1.cell? ⟨gr, 2, none⟩ = some (.slice none 0 0) := (blk_cell BKr 2).trans rfl
    have r3 : w1.cell? ⟨gr, 3, none⟩ = some (.slice none 0 0) := (blk_cell BKr 3).trans rfl
    have t0 := blk_frozen BKr 0
    have t1 := blk_frozen BKr 1
    have t2 := blk_frozen BKr 2
    have t3 := blk_frozen BKr 3
    have BR := Aside0.mk BKr
    have HB := Aside0.mk hb0
    have HGE := Aside0.mk hge
    clear hq hf hG BKg BKr hb0 hge
    go_wp2_with fail
    have bk := blk_set (blk_set (blk_set (blk_set BR.out 0 (.int .i64 0)) 1 (.slice none 0 0)) 2 (.slice none 0 0)) 3 (.slice none 0 0)
    refine bodyPost_ret (results_geom2 (a := 4) (c := 5) (by rfl) _ _ (by rfl) (by simpa using bk)) rfl ?_
    refine ⟨_, _, rfl, ?_, (((HB.out.setCell (p := ⟨gr, 0, none⟩) HGE.out _).setCell (p := ⟨gr, 1, none⟩) HGE.out _).setCell (p := ⟨gr, 2, none⟩) HGE.out _).setCell (p := ⟨gr, 3, none⟩) HGE.out _⟩
    unfold FindRes
    rw [HQ.out]
    exact ⟨rfl, rfl⟩
  | some k =>
    obtain ⟨ad', rfl, hway, hgk⟩ := hf.at_some hq
    have hkb : k.bulk ≤ g.bulk := at_bulk p g k (by unfold findR at hq; split at hq; cases hq; exact hq)
    obtain ⟨D1, d1, D2, d2, D3, d3, e0, e1, e2, e3, m1, q1, m2, q2, m3, q3⟩ := hgk
    have HIS := Aside0.mk (show IsG w1 (.agg #[.int .i64 k.f0, .slice D1 k.f1.length d1, .slice D2 k.f2.length d2, .slice D3 k.f3.length d3]) k from ⟨D1, d1, D2, d2, D3, d3, rfl, m1, q1, m2, q2, m3, q3⟩)
    have HQ := Aside0.mk hq
    have BR := Aside0.mk BKr
    have HB := Aside0.mk hb0
    have HGE := Aside0.mk hge
    clear hq hf hG BKg BKr hb0 hge hway q1 q2 q3
    go_wp2_with fail
    refine (copy_calls k.bulk _ k w1 HIS.out (Nat.le_refl _) (by omega)).mono ?_
    rintro e w2 ⟨u, rfl, hcp, hb2⟩
    have hcp0 := hcp.lower HB.out.size
    obtain ⟨cs, rfl, hM⟩ := hcp
    obtain ⟨E1, x1, E2, x2, E3, x3, rfl, _⟩ := kGe_open (kSp_K _ ((kSp _).K_of_M hM))
    have BKr := blk_below BR.out hb2
    have r0 : w2.cell? ⟨gr, 0, none⟩ = some (.int .i64 0) := (blk_cell BKr 0).trans rfl
    have r1 : w2.cell? ⟨gr, 1, none⟩ = some (.slice none 0 0) := (blk_cell BKr 1).trans rfl
    have r2 : w2.cell? ⟨gr, 2, none⟩ = some (.slice none 0 0) := (blk_cell BKr 2).trans rfl
    have r3 : w2.cell? ⟨gr, 3, none⟩ = some (.slice none 0 0) := (blk_cell BKr 3).trans rfl
    have t0 := blk_frozen BKr 0
    have t1 := blk_frozen BKr 1
    have t2 := blk_frozen BKr 2
    have t3 := blk_frozen BKr 3
    have hlt := blk_lt BR.out
    have HL := Aside0.mk hlt
    have BR2 := Aside0.mk BKr
    have HB2 := Aside0.mk (below_step HB.out hb2)
    have HM := Aside0.mk hM
    clear BKr hb2 hM hcp0 hlt
    go_wp2_with fail
    have bk := blk_set (blk_set (blk_set (blk_set BR2.out 0 (.int .i64 k.f0)) 1 (.slice E1 k.f1.length x1)) 2 (.slice E2 k.f2.length x2)) 3 (.slice E3 k.f3.length x3)
    refine bodyPost_ret (results_geom2 (a := 4) (c := 5) (by rfl) _ _ (by rfl) (by simpa using bk)) rfl ?_
    refine ⟨_, _, rfl, ?_, (((HB2.out.setCell (p := ⟨gr, 0, none⟩) HGE.out _).setCell (p := ⟨gr, 1, none⟩) HGE.out _).setCell (p := ⟨gr, 2, none⟩) HGE.out _).setCell (p := ⟨gr, 3, none⟩) HGE.out _⟩
    unfold FindRes
    rw [HQ.out]
    refine ⟨CopyOf.lower (w := w1) ⟨_, rfl, ?_⟩ HB.out.size, rfl⟩
    have hL := HL.out
    exact Kd.M_far (p := ⟨gr, 3, none⟩) (Kd.M_far (p := ⟨gr, 2, none⟩) (Kd.M_far (p := ⟨gr, 1, none⟩) (Kd.M_far (p := ⟨gr, 0, none⟩) HM.out (fun j h => by show j ≠ gr; omega) _) (fun j h => by show j ≠ gr; omega) _) (fun j h => by show j ≠ gr; omega) _) (fun j h => by show j ≠ gr; omega) _
end Go.Proofs.YtmcbniobbbjdjaaDoor.Tree
